/-
  Part 2 of the walk: contracts of the functions that the law reaches, and the calculus they stand on.
  No conditions.
-/
import Derived.Test.YtooklcgflocbcaaGreatDoorU1
import Derived.RangeFuncLeaves
import Derived.RangeFuncIn
import Derived.RangeFuncSeq
import Derived.RangeFuncRecord
import Derived.TacticsIn
import Derived.Lib.Strings
import Derived.Lib.Bytealg
import GoSem.Core.Float
section
open Go Go.Proofs Go.Sx Go.StP
namespace Go.Proofs
set_option maxRecDepth 10000
set_option maxHeartbeats 4000000
set_option linter.unusedSimpArgs false
/-! ### Entries -/
structure EntL where
  name : List UInt8
  kind : Int
  id : IdL
def entC (r : EntL) : List Value := [vs r.name] ++ ([vi r.kind] ++ (r.id.l.map v8))
def ent0 : EntL := ⟨[], 0, id0⟩
theorem entC_len (r : EntL) : (entC r).length = 34 := by simp [entC, r.id.h]
theorem cells_ent (r : EntL) : Value.cells (.agg (entC r).toArray) = (entC r).toArray := cells_agg _
theorem entC_one (r : EntL) : (entC r).all Value.oneCell' = true := by
  unfold entC
  simp only [List.all_append, List.all_cons, List.all_nil, all_v8, Bool.and_true, Bool.true_and]
  rfl
theorem zrEnt : zeroV Tryz.prog 268 = some (.agg (entC ent0).toArray) := id (by kernel_rfl)
theorem aggEnt : aggT Tryz.prog 268 = some (true, 34) := id (by kernel_rfl)
theorem ent_at0 (r : EntL) : entC r = ([] : List Value) ++ (([vs r.name]) ++ ([vi r.kind] ++ (r.id.l.map v8))) := by
  unfold entC; simp only [List.append_assoc, List.nil_append, List.append_nil]
theorem ent_p0 (r : EntL) : partV (false, 1) (entC r).toArray 0 = some (vs r.name) := by
  rw [ent_at0]; exact part_one _ _ _ (by simp)
theorem load_ent0 (r : EntL) (n : Nat) (E : TypeId) (fz : Nat × Nat) : loadV (some (false, n)) (some (.cells (entC r).toArray E fz)) 0 = some (vs r.name) := by
  rw [ent_at0]; exact load_one _ _ _ n E fz (by simp)
theorem row_ent0 {w : World} {v : Value} {l : List EntL} {b off : Nat} {arr : Array Value} {E : TypeId} {fz : Nat × Nat} (h : RowS 34 entC ent0 w v l b off arr E fz) {k : Nat} (hk : k < l.length) (n : Nat) : loadV (some (false, n)) (some (.cells arr E fz)) (off + k * 34 + 0) = some (vs (l.getD k ent0).name) := by
  rw [RowS.cell h hk (by omega)]; generalize l.getD k ent0 = r; rw [ent_at0]; exact get_midL _ _ _ (by simp)
theorem store_ent0 (r : EntL) (x : List UInt8) (a : Bool) (E : TypeId) : storeV (some (a, 1)) (some (.cells (entC r).toArray E (0, 0))) 0 (vs x) = some (.cells (entC { r with name := x }).toArray E (0, 0)) := by
  rw [ent_at0 r, ent_at0 { r with name := x }]; exact store_mid _ _ _ _ a _ E (by simp) rfl (rfl) rfl (rfl)
theorem ent_at1 (r : EntL) : entC r = (([vs r.name])) ++ (([vi r.kind]) ++ (r.id.l.map v8)) := by
  unfold entC; simp only [List.append_assoc, List.nil_append, List.append_nil]
theorem ent_p1 (r : EntL) : partV (false, 1) (entC r).toArray 1 = some (vi r.kind) := by
  rw [ent_at1]; exact part_one _ _ _ (by simp)
theorem load_ent1 (r : EntL) (n : Nat) (E : TypeId) (fz : Nat × Nat) : loadV (some (false, n)) (some (.cells (entC r).toArray E fz)) 1 = some (vi r.kind) := by
  rw [ent_at1]; exact load_one _ _ _ n E fz (by simp)
theorem row_ent1 {w : World} {v : Value} {l : List EntL} {b off : Nat} {arr : Array Value} {E : TypeId} {fz : Nat × Nat} (h : RowS 34 entC ent0 w v l b off arr E fz) {k : Nat} (hk : k < l.length) (n : Nat) : loadV (some (false, n)) (some (.cells arr E fz)) (off + k * 34 + 1) = some (vi (l.getD k ent0).kind) := by
  rw [RowS.cell h hk (by omega)]; generalize l.getD k ent0 = r; rw [ent_at1]; exact get_midL _ _ _ (by simp)
theorem store_ent1 (r : EntL) (x : Int) (a : Bool) (E : TypeId) : storeV (some (a, 1)) (some (.cells (entC r).toArray E (0, 0))) 1 (vi x) = some (.cells (entC { r with kind := x }).toArray E (0, 0)) := by
  rw [ent_at1 r, ent_at1 { r with kind := x }]; exact store_mid _ _ _ _ a _ E (by simp) rfl (rfl) rfl (rfl)
theorem ent_at2 (r : EntL) : entC r = (([vs r.name]) ++ ([vi r.kind])) ++ ((r.id.l.map v8) ++ (([] : List Value))) := by
  unfold entC; simp only [List.append_assoc, List.nil_append, List.append_nil]
theorem ent_p2 (r : EntL) : partV (true, 32) (entC r).toArray 2 = some (Value.agg (a8 r.id.l)) := by
  rw [ent_at2, part_agg _ _ _ (by simp) (by simp [r.id.h])]; rfl
theorem load_ent2 (r : EntL) (E : TypeId) (fz : Nat × Nat) : loadV (some (true, 32)) (some (.cells (entC r).toArray E fz)) 2 = some (Value.agg (a8 r.id.l)) := by
  rw [ent_at2, load_agg _ _ _ E fz (by simp) (by simp [r.id.h])]; rfl
theorem ent_x2 (r : EntL) : (entC r).toArray.extract 2 34 = a8 r.id.l := by
  rw [ent_at2]; exact ext_mid (o := 2) (n := 32) _ _ _ (by simp) (by simp [r.id.h])
theorem row_ent2 {w : World} {v : Value} {l : List EntL} {b off : Nat} {arr : Array Value} {E : TypeId} {fz : Nat × Nat} (h : RowS 34 entC ent0 w v l b off arr E fz) {k : Nat} (hk : k < l.length) : loadV (some (true, 32)) (some (.cells arr E fz)) (off + k * 34 + 2) = some (Value.agg (a8 (l.getD k ent0).id.l)) := by
  rw [RowS.part h entC_len hk (by omega) (by omega), ent_x2]
theorem store_ent2 (r : EntL) (x : IdL) (a : Bool) (E : TypeId) : storeV (some (a, 32)) (some (.cells (entC r).toArray E (0, 0))) 2 (Value.agg (a8 x.l)) = some (.cells (entC { r with id := x }).toArray E (0, 0)) := by
  rw [ent_at2 r, ent_at2 { r with id := x }]; exact store_mid _ _ _ _ a _ E (by simp) (by simp [r.id.h]) (cells_agg _) (by simp [x.h]) (all_v8 _)
theorem load_ent (r : EntL) (E : TypeId) (fz : Nat × Nat) : loadV (some (true, 34)) (some (.cells (entC r).toArray E fz)) 0 = some (.agg (entC r).toArray) := load_all _ E fz 34 (by rw [List.size_toArray, entC_len])
theorem store_ent (old : Array Value) (r : EntL) (a : Bool) (E : TypeId) (h : old.size = 34) : storeV (some (a, 34)) (some (.cells old E (0, 0))) 0 (.agg (entC r).toArray) = some (.cells (entC r).toArray E (0, 0)) := store_whole _ a old E (entC_len r) (entC_one r) h
theorem store_entr (r r' : EntL) (a : Bool) (E : TypeId) : storeV (some (a, 34)) (some (.cells (entC r').toArray E (0, 0))) 0 (.agg (entC r).toArray) = some (.cells (entC r).toArray E (0, 0)) := store_ent _ r a E (by rw [List.size_toArray, entC_len])
theorem row_ent {w : World} {v : Value} {l : List EntL} {b off : Nat} {arr : Array Value} {E : TypeId} {fz : Nat × Nat} (h : RowS 34 entC ent0 w v l b off arr E fz) {k : Nat} (hk : k < l.length) : loadV (some (true, 34)) (some (.cells arr E fz)) (off + k * 34) = some (.agg (entC (l.getD k ent0)).toArray) := RowS.load h entC_len (by omega) hk
theorem stoodEnt : Tryz.prog.stoodInHeld 268 = false := by kernel_rfl
theorem guardEnt : Tryz.prog.eqGuardType Tryz.prog.depth 268 = false := by kernel_rfl
theorem eqDEnt (r r' : EntL) : eqD Tryz.prog 8 268 (.agg (entC r).toArray) (.agg (entC r').toArray) = some ((r.name == r'.name) && (r.kind == r'.kind) && (r.id.l == r'.id.l)) := by
  have hs : ∀ (a b : List UInt8), eqD Tryz.prog 7 9 (vs a) (vs b) = some (a == b) := by
    intro a b; unfold eqD; rw [Tryz.underlying9]; simp only [vs, bs_beq]
  have hi : ∀ (a b : Int), eqD Tryz.prog 7 3 (vi a) (vi b) = some (a == b) := by
    intro a b; unfold eqD; rw [Tryz.underlying3]; rfl
  have hd : ∀ (a b : IdL), eqD Tryz.prog 7 37 (.agg (a8 a.l)) (.agg (a8 b.l)) = some (a.l == b.l) := fun a b => eqD_a8 (d := 5) Tryz.underlying37 Tryz.underlying5 Tryz.ag5 _ _ a.h b.h
  have ags : aggT Tryz.prog 9 = some (false, 1) := id (by kernel_rfl)
  have agi : aggT Tryz.prog 3 = some (false, 1) := id (by kernel_rfl)
  have agd : aggT Tryz.prog 37 = some (true, 32) := id (by kernel_rfl)
  unfold eqD
  rw [Tryz.underlying268]
  simp only
  rw [stoodEnt]
  simp only [Bool.false_eq_true, ↓reduceIte, eqFieldsV, eqPartV, ags, agi, agd, ent_p0, ent_p1, ent_p2, hs, hi, hd]
  cases (r.name == r'.name) <;> cases (r.kind == r'.kind) <;> cases (r.id.l == r'.id.l) <;> simp
theorem neEnt (r r' : EntL) : binX Tryz.prog .neq 268 (.agg (entC r).toArray) (.agg (entC r').toArray) = some (.bool (!((r.name == r'.name) && (r.kind == r'.kind) && (r.id.l == r'.id.l)))) := by
  unfold binX eqX; rw [guardEnt]; simp [plainV, eqDEnt]
/-- cmp.Compare of texts. -/
def cmpS (a b : List UInt8) : Int := if ltB a b then -1 else if ltB b a then 1 else 0
theorem gtr_ltB (a b : List UInt8) : (!(Op.bytesLess a b || a == b)) = ltB b a := by
  cases h : ltB a b
  · have h' : Op.bytesLess a b = false := h
    rw [h', Bool.false_or]
    by_cases e : a = b
    · subst e; rw [h]; simp
    · rw [ltB_total h e]; simp [e]
  · have h' : Op.bytesLess a b = true := h
    rw [h', ltB_asymm h]; rfl
set_option linter.defProp false
def uOA_1 := And.intro (@load_ent0) (@cells_ent)
/-- How two entries are compared. -/
def cmpE (a b : EntL) : Int := cmpS a.name b.name
end Go.Proofs
end
section
open Go Go.Proofs Go.Sx Go.StP
namespace Go.Proofs
set_option maxRecDepth 10000
set_option maxHeartbeats 4000000
set_option linter.unusedSimpArgs false
/-! ### slices' ranges that change places -/
/-- The first i of x and of y have changed places. -/
def swp {α : Type} (a x m y c : List α) (i : Nat) : List α := a ++ ((y.take i ++ x.drop i) ++ (m ++ ((x.take i ++ y.drop i) ++ c)))
section
variable {α : Type} {a x m y c : List α} {i k : Nat} {z : α}
end
abbrev entO (rest : List Value) (d : List EntL) : Obj := rowO entC 268 rest d
theorem load_entR {rest : List Value} {d : List EntL} (k : Nat) (hk : k < d.length) : loadV (some (true, 34)) (some (entO rest d)) (k * 34) = some (.agg (entC (d.getD k ent0)).toArray) := load_row (z := ent0) entC_len k hk
theorem store_entR {rest : List Value} {d : List EntL} (k : Nat) (x : EntL) (a : Bool) (hk : k < d.length) : storeV (some (a, 34)) (some (entO rest d)) (k * 34) (.agg (entC x).toArray) = some (entO rest (d.set k x)) := store_row entC_len entC_one k x a hk
set_option linter.defProp false
def uOB_1 := And.intro (And.intro (@load_entR) (@store_entR)) (And.intro (@load_ent) (And.intro (@store_entr) (@cells_ent)))
structure RotG where
  A : List EntL
  U : List EntL
  V : List EntL
  B : List EntL
end Go.Proofs
end
section
open Go Go.Proofs Go.Sx Go.StP
namespace Go.Proofs
set_option maxRecDepth 10000
set_option maxHeartbeats 4000000
set_option linter.unusedSimpArgs false
abbrev ltE (a b : EntL) : Bool := StP.lt EntL.name a b
abbrev SortedE (l : List EntL) : Prop := StP.Sorted EntL.name l
abbrev StE (l l' : List EntL) : Prop := StP.St EntL.name l l'
theorem cmpE_lt (a b : EntL) : decide (cmpE a b < 0) = ltE a b := by
  unfold cmpE cmpS ltE StP.lt
  cases h : ltB a.name b.name
  · rw [if_neg (by simp)]
    split <;> rfl
  · rw [if_pos rfl]; rfl
structure InsG where
  S : List EntL
  R : List EntL
set_option linter.defProp false
def uOC_1 := And.intro (And.intro (@load_entR) (And.intro (@store_entR) (@load_ent))) (And.intro (@store_entr) (And.intro (@cells_ent) (@cmpE_lt)))
end Go.Proofs
end
section
open Go Go.Proofs Go.Sx Go.StP
namespace Go.Proofs
set_option maxRecDepth 10000
set_option maxHeartbeats 4000000
set_option linter.unusedSimpArgs false
theorem half_u (p q : Nat) (h : p + q < 4611686018427387904) : IntKind.wrap .i64 ((shr_u64 (UInt64.ofInt ((p : Int) + (q : Int))) 1).toNat : Int) = (((p + q) / 2 : Nat) : Int) := by
  have e : (UInt64.ofInt ((p : Int) + (q : Int))).toNat = p + q := by
    have h2 : UInt64.ofInt ((p : Int) + (q : Int)) = UInt64.ofNat (((p : Int) + (q : Int)) % 2 ^ 64).toNat := rfl
    rw [h2, UInt64.toNat_ofNat']
    omega
  have e2 : (shr_u64 (UInt64.ofInt ((p : Int) + (q : Int))) 1).toNat = (p + q) / 2 := by
    unfold shr_u64
    rw [e, UInt64.toNat_ofNat', Nat.pow_one]
    omega
  rw [e2, wrap_i64 _ (by omega)]
structure BsG where
  i : Nat
  j : Nat
/-- What a merge leaves. -/
def Merged (rb : Nat) (A X Y B : List EntL) (rest : List Value) (v : Value) (D : Heap) : Prop :=
  ∃ o, D = [(rb, o)] ∧ v = .tuple #[] ∧ ∃ Z, o = entO rest (A ++ (Z ++ B)) ∧ Z.length = X.length + Y.length ∧ SortedE Z ∧ StE (X ++ Y) Z
set_option linter.defProp false
def uOD_1 := And.intro (And.intro (@load_entR) (And.intro (@store_entR) (@load_ent))) (And.intro (And.intro (@store_entr) (@cells_ent)) (And.intro (@cmpE_lt) (@half_u)))
end Go.Proofs
end
section
open Go Go.Proofs Go.Sx Go.StP
namespace Go.Proofs
set_option maxRecDepth 10000
set_option maxHeartbeats 4000000
set_option linter.unusedSimpArgs false
set_option linter.defProp false
def uOE_1 := And.intro (And.intro (@load_entR) (And.intro (@store_entR) (@load_ent))) (And.intro (And.intro (@store_entr) (@cells_ent)) (And.intro (@cmpE_lt) (@half_u)))
end Go.Proofs
end
section
open Go Go.Proofs Go.Sx Go.StP
namespace Go.Proofs
set_option maxRecDepth 10000
set_option maxHeartbeats 4000000
set_option linter.unusedSimpArgs false
/-- Sorted runs of k each. -/
def Blks (k : Nat) (ls : List (List EntL)) : Prop := ∀ x, x ∈ ls → x.length = k ∧ SortedE x
structure StG where
  k : Nat
  ls : List (List EntL)
  r : List EntL
structure StH where
  l2 : List (List EntL)
  ls : List (List EntL)
end Go.Proofs
end
namespace Go.Sx
open Go
/-- Every function may be called; a round's frame, or none. -/
def wideR (r : Option Nat) : Fence := { Fence.wide with round := r }
def noDefer : Op → Bool
  | .defer _ => false
  | _ => true
section
variable {P : Program} {w0 : World} {f : Fr} {L : Heap} {K : Kont} {N : Fr → Heap → Prop} {ops : Array Oper} {rest : List Oper} {r : Option Nat} {n : Nat}
theorem calls_wideR {k : FuncId} {args : Array Value} {w : World} {R : Ending → World → Prop} (h : Calls P k args w R) : CallsIn (wideR r) n P k args w R :=
  (callsIn_wide.2 h : CallsIn Fence.wide n P k args w R)
theorem rows_wideR {row : String} {args : Array Value} {w : World} {R : Value → World → Prop} (h : Rows P row args w R) : RowsIn (wideR r) n P row args w R :=
  (fun c cs _ => let ⟨v, w', hr, s⟩ := h c cs; ⟨v, w', hr, stepsIn_wide.2 s⟩ : RowsIn Fence.wide n P row args w R)
theorem oper_in {o : Oper} {a : Act} {w : World} {next : Act → World → Prop} {Q : Exit → Act → World → Prop} (hd : noDefer o.op = true) (h : o.wp P a w next Q) : o.wpIn (wideR r) n P a w next Q := by
  refine ⟨fun _ _ => trivial, ?_⟩
  rw [Oper.semAt_eq _ _ _ (fun c e => by rw [e] at hd; cases hd)]
  unfold Oper.wp at h
  generalize (execOp a.eval o).run P w = x at h
  match x, h with
  | .ok (.value v) _, h => exact h
  | .ok .skip _, h => exact h
  | .ok (.defer e) _, h => exact h
  | .ok (.enter k args) w', h =>
    have h' : Calls P k args w' _ := h
    exact ⟨fun (e : false = true) => (by cases e), calls_wideR h'⟩
  | .ok (.row row args) w', h =>
    have h' : Rows P row args w' _ := h
    exact ⟨fun (e : false = true) => (by cases e), rows_wideR h'⟩
  | .halt (.panic u) _, h => exact h
theorem list_in {Q : Exit → Act → World → Prop} {l2 : List Oper} : ∀ (l1 : List Oper) (a : Act) (w : World), (l1.all fun o => noDefer o.op) = true →
    wpList P ops (fun e a w => e = .normal ∧ wpListIn (wideR r) n P ops Q l2 a w) l1 a w → wpListIn (wideR r) n P ops Q (l1 ++ l2) a w
  | [], _, _, _, h => h.2
  | o :: l1, a, w, hd, h => by
    rw [List.cons_append]
    unfold wpList at h
    unfold wpListIn
    rw [List.all_cons, Bool.and_eq_true] at hd
    split at h
    · rename_i hw
      rw [if_pos hw]
      rcases h with h | ⟨-, hl⟩
      · exact oper_in hd.1 (upon_mono (fun a w hx => list_in l1 a w hd.2 hx) (fun e a w hne hq => hne hq.1) h)
      · obtain ⟨_, _, he, -⟩ := hl
        cases he
    · rename_i hw
      rw [if_neg hw]
      exact ⟨fun _ _ => trivial, list_in l1 _ _ hd.2 h⟩
/-- Operations of a region, in a round or not, where yield may be called. -/
def OwI (r : Option Nat) (P : Program) (w0 : World) (ops : Array Oper) (l : List Oper) (f : Fr) (L : Heap) (N : Fr → Heap → Prop) : Prop :=
  ∀ w, Hp w0 L w → wpListIn (wideR r) 0 P ops (postN w0 N) l (act f) w
theorem OwI.nil (h : N f L) : OwI r P w0 ops [] f L N := fun _ hw => ⟨rfl, rfl, L, hw, by simpa [act] using h⟩
theorem OwI.pre {l1 l2 : List Oper} (hd : (l1.all fun o => noDefer o.op) = true) (h : Ow P w0 ops .seq l1 f L (fun f' L' => OwI r P w0 ops l2 f' L' N)) : OwI r P w0 ops (l1 ++ l2) f L N := by
  intro w hw
  refine list_in l1 _ _ hd ?_
  have h1 := h w hw
  have mono : ∀ (l : List Oper) (a : Act) (w : World), wpList P ops (postN w0 (fun f' L' => OwI r P w0 ops l2 f' L' N)) l a w → wpList P ops (fun e a w => e = .normal ∧ wpListIn (wideR r) 0 P ops (postN w0 N) l2 a w) l a w := by
    intro l
    induction l with
    | nil =>
      rintro a w ⟨-, hd', L', hp, hO⟩
      refine ⟨rfl, ?_⟩
      have := hO w hp
      rwa [← act_of hd'] at this
    | cons o l ih =>
      intro a w h
      unfold wpList at h ⊢
      split at h
      · rename_i hw
        rw [if_pos hw]
        rcases h with h | ⟨-, hl⟩
        · exact .inl (upon_mono ih (fun e a w hne hq => hne hq.1) h)
        · obtain ⟨_, _, he, -⟩ := hl
          cases he
      · rename_i hw
        rw [if_neg hw]
        exact ih _ _ h
  exact mono l1 _ _ h1
theorem Ow.mono_seq {l : List Oper} {N' : Fr → Heap → Prop} (h : Ow P w0 ops .seq l f L N) (hN : ∀ f L, N f L → N' f L) : Ow P w0 ops .seq l f L N' := by
  intro w hw
  have h1 := h w hw
  clear h
  revert h1
  generalize act f = a
  clear hw
  induction l generalizing a w with
  | nil => rintro ⟨h1, h2, L', h3, h4⟩; exact ⟨h1, h2, L', h3, hN _ _ h4⟩
  | cons o l ih =>
    intro h
    unfold wpList at h ⊢
    split at h
    · rename_i hw
      rw [if_pos hw]
      rcases h with h | ⟨-, hl⟩
      · exact .inl (upon_mono (fun a w hx => ih w a hx) (fun e a w hne hq => hne hq.1) h)
      · obtain ⟨_, _, he, -⟩ := hl
        cases he
    · rename_i hw
      rw [if_neg hw]
      exact ih _ _ h
theorem OwI.all {l : List Oper} (hd : (l.all fun o => noDefer o.op) = true) (h : Ow P w0 ops .seq l f L N) : OwI r P w0 ops l f L N := by
  have := OwI.pre (r := r) (l2 := []) (N := N) hd (Ow.mono_seq h (fun f L hN => OwI.nil hN))
  simpa using this
/-- A code in a round's frame. -/
def CwR (r : Option Nat) (P : Program) (w0 : World) (c : Code) (f : Fr) (L : Heap) (K : Kont) : Prop := ∀ w, Hp w0 L w → c.wpIn (wideR r) 0 P (post w0 K) (act f) w
theorem CwR.region {id : Nat} {l : List Oper} (hd : (l.all fun o => noDefer o.op) = true) (h : Ow P w0 l.toArray .seq l f L (K .normal)) : CwR r P w0 (.region id l.toArray false) f L K :=
  fun w hw => wpIn_mono (wpIn_region_lit (OwI.all hd h w hw)) fun _ _ _ h => postN_post h
theorem CwR.block {id : Nat} {c : Code} (h : CwR r P w0 c f L (blockK id K)) : CwR r P w0 (.block id c) f L K := by
  intro w hw
  refine wpIn_block (wpIn_mono (h w hw) ?_)
  rintro e a w' ⟨hd, L', hp, k⟩
  cases e with
  | exit i =>
    simp only [Exit.inBlock]
    simp only [blockK] at k
    split
    · rename_i e; rw [if_pos e] at k; exact ⟨hd, L', hp, k⟩
    · rename_i e; rw [if_neg e] at k; exact ⟨hd, L', hp, k⟩
  | _ => exact ⟨hd, L', hp, k⟩
theorem Hp.put {w : World} (h : Hp w0 L w) {b : Nat} {o : Obj} (hb : b ∈ keys L) : Hp w0 (setB L b o) (w.putObj b o) := h.set hb rfl rfl rfl rfl
/-- What a round does, by its parts. -/
theorem YieldAt.of {l : Nat} {rc : Loop} {X : Heap} {args : Array Value} {w : World} {r0 : Option Nat} {S : Heap → Prop} (hX : Hp w X w) (hl : look X l = some (.loop rc)) (hr : rc.state = .ready) (hp : rc.pending = none) (hs : args.size = rc.params.size)
    (h : CwR (some l) P w rc.assign ((rc.params.zip args).foldl (fun tmps (p : Tmp × Value) => tmps.setIfInBounds p.1 p.2) rc.tmps).toList X (fun e f1 L1 => e = .normal ∧ look L1 l = some (.loop rc) ∧
      CwR (some l) P w rc.body f1 (setB L1 l (.loop { rc with state := .busy })) (fun e _ L2 => e = .normal ∧ look L2 l = some (.loop { rc with state := .busy }) ∧ S (setB L2 l (.loop rc))))) :
    YieldAt (wideR r0) 0 P l args w (fun e w' => ∃ D, e = .returned (.bool true) ∧ Hp w D w' ∧ S D) := by
  obtain ⟨st, pe, fn0, tm, pa, asg, bo, de⟩ := rc
  obtain rfl : st = .ready := hr
  obtain rfl : pe = none := hp
  have hl0 := hX.has _ _ (look_mem hl)
  refine ⟨fn0, _, asg, bo, run_yield hl0 hs, roundIn_of_wpIn (F := wideR r0) (n := 0) trivial ?_⟩
  have h1 := h w hX
  have ea : act ((pa.zip args).foldl (fun tmps (p : Tmp × Value) => tmps.setIfInBounds p.1 p.2) tm).toList = { tmps := (pa.zip args).foldl (fun tmps (p : Tmp × Value) => tmps.setIfInBounds p.1 p.2) tm, defers := [] } := by
    simp [act]
  simp only at h1
  rw [ea] at h1
  refine wpIn_mono h1 ?_
  rintro e a1 w1 ⟨hd1, L1, hp1, rfl, hl1, hbody⟩
  have hb1 := run_beginRound (P := P) (hp1.has _ _ (look_mem hl1)) rfl
  refine ⟨_, hb1, ?_⟩
  have h2 := hbody _ (hp1.put (o := .loop { state := .busy, pending := none, fn := fn0, tmps := tm, params := pa, assign := asg, body := bo, defers := de }) (key_of_look hl1))
  rw [← act_of hd1] at h2
  refine wpIn_mono h2 ?_
  rintro e a2 w2 ⟨hd2, L2, hp2, rfl, hl2, hS⟩
  have he := run_endRound (P := P) none (hp2.has _ _ (look_mem hl2))
  exact ⟨_, _, he, _, rfl, hp2.put (key_of_look hl2), hS⟩
/-! ### With a mark among the deferred calls -/
def postD (ds : List Deferred) (w0 : World) (K : Kont) (e : Exit) (a : Act) (w : World) : Prop := a.defers = ds ∧ ∃ L, Hp w0 L w ∧ K e a.tmps.toList L
def CwE (ds : List Deferred) (P : Program) (w0 : World) (c : Code) (f : Fr) (L : Heap) (K : Kont) : Prop := ∀ w, Hp w0 L w → c.wp P (postD ds w0 K) ⟨f.toArray, ds⟩ w
theorem CwE.seq {ds : List Deferred} {x y : Code} (h : CwE ds P w0 x f L (thenK (fun f L => CwE ds P w0 y f L K) K)) : CwE ds P w0 (.seq x y) f L K := by
  intro w hw
  refine wp_seq (wp_mono (h w hw) ?_)
  rintro e a w' ⟨hd, L', hp, k⟩
  cases e with
  | normal =>
    have := k w' hp
    have ea : a = ⟨a.tmps.toList.toArray, ds⟩ := by cases a; simp only at hd; subst hd; simp
    rw [ea]
    exact this
  | _ => exact ⟨hd, L', hp, k⟩
theorem CwE.ret {ds : List Deferred} (h : K .ret f L) : CwE ds P w0 .ret f L K := fun _ hw => wp_ret ⟨rfl, L, hw, by simpa using h⟩
/-- Values, one by one. -/
def evVs (P : Program) (w0 : World) (L : Heap) : List Oper → Fr → Option Fr
  | [], f => some f
  | o :: r, f => match o.guard, evalV P w0 L f o.op with
    | none, some v => evVs P w0 L r (putF f o.dst v)
    | _, _ => none
theorem evVs_sound {ds : List Deferred} {Q : Exit → Act → World → Prop} {w : World} (hw : Hp w0 L w) : ∀ (l : List Oper) (f f' : Fr), evVs P w0 L l f = some f' → Q .normal ⟨f'.toArray, ds⟩ w → wpList P ops Q l ⟨f.toArray, ds⟩ w
  | [], f, f', h, hQ => by cases h; exact hQ
  | o :: l, f, f', h, hQ => by
    unfold evVs at h
    split at h
    · rename_i v hg hv
      unfold wpList
      have hwn : Region.wanted o (yielded ops (⟨f.toArray, ds⟩ : Act).tmps) = true := by unfold Region.wanted; rw [hg]
      rw [if_pos hwn]
      refine .inl ?_
      unfold Oper.wp
      have he : (⟨f.toArray, ds⟩ : Act).eval = ev f := by
        have := act_eval' f
        funext x
        exact (congrFun this x)
      rw [he, run_evalV hw hv]
      have hp : (⟨f.toArray, ds⟩ : Act).put o.dst v = ⟨(putF f o.dst v).toArray, ds⟩ := by
        have := act_put f o.dst v
        cases hd : o.dst with
        | none => rfl
        | some d => simp only [Act.put, putF, setF_eq]
      show wpList P ops Q l ((⟨f.toArray, ds⟩ : Act).put o.dst v) w
      rw [hp]
      exact evVs_sound hw l _ f' h hQ
    · cases h
theorem CwE.region {ds : List Deferred} {id : Nat} {l : List Oper} {f' : Fr} (h : evVs P w0 L l f = some f') (hk : K .normal f' L) : CwE ds P w0 (.region id l.toArray false) f L K :=
  fun w hw => wp_region_lit (evVs_sound hw l f f' h ⟨rfl, L, hw, by simpa using hk⟩)
theorem Gr.at_ {L : Heap} {E : TypeId} {m n : Nat} {v : Value} {cs : List Value} (h : Gr L E m v n cs) {b : Nat} (hb : slB v = some b) : ∃ a, look L b = some (.cells a E (0, 0)) := by
  rcases h with h | ⟨rfl, rfl, c, rfl, hl⟩
  · rcases h.inv with ⟨rfl, -, -⟩ | ⟨c, cc, rest, rfl, hl, -⟩
    · cases hb
    · have : c = b := by simpa [slB, vsl] using hb
      subst this; exact ⟨_, hl⟩
  · have : c = b := by simpa [slB, vsl] using hb
    subst this; exact ⟨_, hl⟩
theorem Gr.ne {L : Heap} {E : TypeId} {m n : Nat} {v : Value} {cs : List Value} (h : Gr L E m v n cs) {b : Nat} {o : Obj} (hl : look L b = some o) (ho : ∀ a, o ≠ .cells a E (0, 0)) : slB v ≠ some b := fun e => by
  obtain ⟨a, ha⟩ := h.at_ e
  rw [hl] at ha
  exact ho a (Option.some.inj ha)
theorem Gr.setB {L : Heap} {E : TypeId} {m n : Nat} {v : Value} {cs : List Value} (h : Gr L E m v n cs) {b : Nat} (hb : slB v ≠ some b) (x : Obj) : Gr (setB L b x) E m v n cs :=
  h.keep fun c o hc ho => by rw [look_setB_ne (fun e : b = c => hb (by rw [e]; exact hc))]; exact ho
/-- The loop's record. -/
def recR (fn : FuncId) (f : Fr) (ps : Array Tmp) (assign body : Code) (dk : Nat) (st : LoopState) : Loop := { state := st, pending := none, fn, tmps := f.toArray, params := ps, assign, body, defers := dk }
/-- An iterator over some elements: whatever is done at each of them. -/
def SeqOk (P : Program) (gf : Nat) (lb : Array Value) {α : Type} (enc : α → Value) (xs : List α) (w : World) : Prop :=
  ∀ (l : Nat) (J : List α → Heap → Prop) (w1 : World) (X : Heap), (∀ b, b < w.heap.size → w1.heap[b]? = w.heap[b]?) → (∀ b, b ∈ keys X → w.heap.size ≤ b) → w.heap.size ≤ w1.heap.size → Hp w1 X w1 → J [] X → (∀ pre X Y, J pre X → J pre (X ++ Y)) →
    (∀ pre x post X2 w2, xs = pre ++ x :: post → Hp w2 X2 w2 → (∀ b, b ∈ keys X2 → w.heap.size ≤ b) → J pre X2 → YieldAt (wideR none) 0 P l #[enc x] w2 (fun e w3 => ∃ D, e = .returned (.bool true) ∧ Hp w2 D w3 ∧ Ext w2 X2 D ∧ J (pre ++ [x]) D)) →
    Rets P gf (#[.func (.yield l) #[] #[]] ++ lb) w1 (XS w1 X (fun _ D => J xs D))
end
end Go.Sx
section
open Go Go.Proofs Go.Sx Go.StP
namespace Go.Proofs
set_option maxRecDepth 10000
set_option maxHeartbeats 4000000
set_option linter.unusedSimpArgs false
abbrev EntS (w : World) (v : Value) (l : List EntL) : Prop := SlV 34 entC ent0 w v l
/-! ### slices.Values -/
structure ValG where
  k : Nat
  X : Heap
set_option linter.defProp false
def uOG_1 := And.intro (And.intro (@load_entR) (@store_entR)) (And.intro (@load_ent) (And.intro (@store_entr) (@cells_ent)))
end Go.Proofs
end
section
open Go Go.Proofs Go.Sx Go.StP
namespace Go.Proofs
set_option maxRecDepth 10000
set_option maxHeartbeats 4000000
set_option linter.unusedSimpArgs false
set_option linter.defProp false
def uOH_1 := And.intro (And.intro (@load_entR) (@store_entR)) (And.intro (@load_ent) (And.intro (@store_entr) (@cells_ent)))
end Go.Proofs
end
section
open Go Go.Proofs Go.Sx Go.StP
namespace Go.Proofs
set_option maxRecDepth 10000
set_option maxHeartbeats 4000000
set_option linter.unusedSimpArgs false
/-- Sorted, of the same. -/
def SortOf (l Z : List EntL) : Prop := Z.length = l.length ∧ SortedE Z ∧ StE l Z
theorem SortOf.eq {l Z Z' : List EntL} (h : SortOf l Z) (h' : SortOf l Z') : Z = Z' := StP.St.eq h.2.1 h'.2.1 (h.2.2.symm.trans h'.2.2)
end Go.Proofs
end
section
open Go Go.Proofs Go.Sx
namespace Go.Proofs
set_option maxRecDepth 10000
set_option maxHeartbeats 4000000
set_option linter.unusedSimpArgs false
/-! ### Names -/
def badR (c : Int) : Bool := decide (c < 33) || decide (126 < c) || (c == 47)
def badB (b : UInt8) : Bool := decide (b.toNat < 33) || decide (126 < b.toNat) || (b.toNat == 47)
theorem eqb (a b : Bool) : binX Tryz.prog .eql 4 (.bool a) (.bool b) = some (.bool (a == b)) := by
  simp [binX, eqX, plainV, eqNilV, Tryz.underlying4]
theorem tup1_0 (a : Value) : (#[a] : Array Value)[0]? = some a := (rfl)
set_option linter.defProp false
def uOJ_1 := And.intro (And.intro (And.intro (@rdIn_v8) (And.intro (@rdIn_v16) (@rdIn_v32))) (And.intro (And.intro (@rdIn_v64) (@rdIn_vi)) (And.intro (@binX_i32) (@bin_lss_i32)))) (And.intro (And.intro (And.intro (@bin_gtr_i32) (@bin_eql_i32)) (And.intro (@lit_i32) (@tup1_0))) (And.intro (And.intro (@Sx.tup3_0) (@Sx.tup3_1)) (And.intro (@Sx.tup3_2) (@eqb))))
theorem isNameC_spec (c : Int) (w : World) : Rets Tryz.prog 242 #[v32i c] w (fun v D => v = .bool (badR c) ∧ D = []) := by
  refine Rets.enterV Tryz.func242 rfl (rs := [.tmp 2]) Tryz.results242 Tryz.ntmps242 ?_
  refine kf ?_
  unfold badR
  cases h1 : decide (c < 33)
  · cases h2 : decide (126 < c)
    · first | with_reducible refine ks [] (And.intro uOJ_1 ( And.intro @h1 (@h2))) ?_ | refine kp (And.intro uOJ_1 ( And.intro @h1 (@h2))) ?_
      refine ⟨_, (ke uOJ_1), trivial, ?_⟩
      simp [tupV]
    · first | with_reducible refine ks [] (And.intro uOJ_1 ( And.intro @h1 (@h2))) ?_ | refine kp (And.intro uOJ_1 ( And.intro @h1 (@h2))) ?_
      refine ⟨_, (ke uOJ_1), trivial, ?_⟩
      simp [tupV]
  · first | with_reducible refine ks [] (And.intro uOJ_1 @h1) ?_ | refine kp (And.intro uOJ_1 @h1) ?_
    refine ⟨_, (ke uOJ_1), trivial, ?_⟩
    simp [tupV]
theorem bad_rune (l : List UInt8) (i : Nat) (h : i < l.length) : badR ((Utf8.decode ⟨l.toArray⟩ i).1 : Nat) = badB (l.getD i 0) ∧ (badB (l.getD i 0) = false → (Utf8.decode ⟨l.toArray⟩ i).2 = 1) := by
  obtain ⟨h0, h1, h2⟩ := decode_rune l i h
  by_cases hc : (l.getD i 0).toNat < 128
  · rw [h1 hc]
    refine ⟨?_, fun _ => rfl⟩
    unfold badR badB
    congr 1
    · congr 1
      · apply decide_eq_decide.2; omega
      · apply decide_eq_decide.2; omega
    · rw [Bool.eq_iff_iff, beq_iff_eq, beq_iff_eq]; omega
  · have h2' := h2 (by omega)
    have hb : badB (l.getD i 0) = true := by
      unfold badB
      rw [decide_eq_true (show 126 < (l.getD i 0).toNat by omega)]; simp
    rw [hb]
    refine ⟨?_, fun h => by cases h⟩
    unfold badR
    rw [decide_eq_true (show (126 : Int) < (((Utf8.decode ⟨l.toArray⟩ i).1 : Nat) : Int) by omega)]; simp
theorem indexFunc_spec (s : List UInt8) (k : FuncId) (hk : ∀ a w, (callFunc k a).run Tryz.prog w = .ok (.enter k a) w) (hc : ∀ c w, Rets Tryz.prog k #[v32i c] w (fun v D => v = .bool (badR c) ∧ D = [])) (w : World) (hs : s.length < 1099511627776) :
    Rets Tryz.prog 245 #[vs s, .func (.func k) #[] #[], .bool true] w (fun v D => ∃ n : Int, v = vi n ∧ (0 ≤ n ↔ s.any badB = true) ∧ D = []) := by
  refine Rets.mono (S := fun v D => (∃ n : Int, v = vi n ∧ (0 ≤ n ↔ s.any badB = true)) ∧ D = []) ?_ (by rintro v D ⟨⟨n, h1, h2⟩, h3⟩; exact ⟨n, h1, h2, h3⟩)
  refine Rets.enterV Tryz.func245 rfl (rs := [.tmp 6]) Tryz.results245 Tryz.ntmps245 ?_
  refine kf ?_
  first | with_reducible refine ks [] uOJ_1 ?_ | refine kp uOJ_1 ?_
  refine Ow.rangeText rfl rfl Tryz.underlying9 rfl fun b1 hb1 hw1 => ?_
  refine ko uOJ_1 ?_
  first | with_reducible refine ks [] uOJ_1 ?_ | refine kp uOJ_1 ?_
  refine Cw.loopG (G := Nat) [11, 12, 13, 14, 7, 8, 15, 16, 17, 18, 19, 20, 6] (fun g => []) (fun g => [(b1, .stringIter ⟨s.toArray⟩ g)]) (fun g => g ≤ s.length ∧ ∀ i, i < g → badB (s.getD i 0) = false) (fun g => s.length - g) 0 rfl rfl ?_ ?_
  · exact ⟨by omega, fun i hi => by omega⟩
  intro g j hg
  refine kv ?_
  obtain ⟨hgL, hgood⟩ := hg
  by_cases hlt : g < s.length
  · have hbr := bad_rune s g hlt
    first | with_reducible refine ks [] uOJ_1 ?_ | refine kp uOJ_1 ?_
    refine Ow.nextText rfl rfl rfl (look_same _ _ _) hlt ?_
    rw [setB_same]
    generalize hdd : Utf8.decode ⟨s.toArray⟩ g = dd at *
    obtain ⟨c, n⟩ := dd
    simp only at hbr ⊢
    refine ko uOJ_1 ?_
    first | with_reducible refine ks [] uOJ_1 ?_ | refine kp uOJ_1 ?_
    refine Ow.callFn1 (v := .bool (badR c)) (k := k) rfl rfl rfl hk (fun w' hw' => hc _ w') ?_
    rw [hbr.1]
    refine ko uOJ_1 ?_
    cases hbb : badB (s.getD g 0)
    · first | with_reducible refine ks [] uOJ_1 ?_ | refine kp uOJ_1 ?_
      refine Again.mk (g + 1) (by omega) ⟨by omega, fun i hi => ?_⟩ ?_ rfl
      · by_cases hig : i = g
        · rw [hig]; exact hbb
        · exact hgood i (by omega)
      · rw [hbr.2 hbb]
    · first | with_reducible refine ks [] uOJ_1 ?_ | refine kp uOJ_1 ?_
      refine ⟨_, (ke uOJ_1), ⟨hw1, trivial⟩, ?_⟩
      refine ⟨(g : Int), rfl, ⟨fun _ => ?_, fun _ => by omega⟩⟩
      rw [List.any_eq_true]
      refine ⟨s.getD g 0, ?_, hbb⟩
      rw [List.getD_eq_getElem?_getD, List.getElem?_eq_getElem hlt]
      exact List.getElem_mem hlt
  · obtain rfl : g = s.length := by omega
    first | with_reducible refine ks [] uOJ_1 ?_ | refine kp uOJ_1 ?_
    refine Ow.nextOver rfl rfl rfl (look_same _ _ _) hlt ?_
    refine ko uOJ_1 ?_
    first | with_reducible refine ks [] uOJ_1 ?_ | refine kp uOJ_1 ?_
    refine ⟨_, (ke uOJ_1), ⟨hw1, trivial⟩, ?_⟩
    refine ⟨-1, rfl, ⟨fun h => by omega, fun h => ?_⟩⟩
    rw [List.any_eq_true] at h
    obtain ⟨x, hx, hxb⟩ := h
    obtain ⟨i, hi, rfl⟩ := List.getElem_of_mem hx
    have := hgood i hi
    rw [List.getD_eq_getElem?_getD, List.getElem?_eq_getElem hi] at this
    exact absurd hxb (by simpa using this)
theorem IndexFunc_spec (s : List UInt8) (k : FuncId) (hk : ∀ a w, (callFunc k a).run Tryz.prog w = .ok (.enter k a) w) (hc : ∀ c w, Rets Tryz.prog k #[v32i c] w (fun v D => v = .bool (badR c) ∧ D = [])) (w : World) (hs : s.length < 1099511627776) :
    Rets Tryz.prog 244 #[vs s, .func (.func k) #[] #[]] w (fun v D => ∃ n : Int, v = vi n ∧ (0 ≤ n ↔ s.any badB = true) ∧ D = []) := by
  refine Rets.mono (S := fun v D => (∃ n : Int, v = vi n ∧ (0 ≤ n ↔ s.any badB = true)) ∧ D = []) ?_ (by rintro v D ⟨⟨n, h1, h2⟩, h3⟩; exact ⟨n, h1, h2, h3⟩)
  refine Rets.enterV Tryz.func244 rfl (rs := [.tmp 4]) Tryz.results244 Tryz.ntmps244 ?_
  refine kf ?_
  first | with_reducible refine ks [] uOJ_1 ?_ | refine kp uOJ_1 ?_
  refine Ow.callF rfl rfl Tryz.call245 (S := fun _ v D => ∃ n : Int, v = vi n ∧ (0 ≤ n ↔ s.any badB = true) ∧ D = []) (fun w' hw' => indexFunc_spec s k hk hc w' hs) ?_
  rintro B v D - - ⟨n, rfl, hn, rfl⟩
  refine ⟨_, Mrg.nil, ?_⟩
  refine ko uOJ_1 ?_
  first | with_reducible refine ks [] uOJ_1 ?_ | refine kp uOJ_1 ?_
  refine ⟨_, (ke uOJ_1), trivial, ?_⟩
  exact ⟨n, rfl, hn⟩
theorem ContainsFunc_spec (s : List UInt8) (k : FuncId) (hk : ∀ a w, (callFunc k a).run Tryz.prog w = .ok (.enter k a) w) (hc : ∀ c w, Rets Tryz.prog k #[v32i c] w (fun v D => v = .bool (badR c) ∧ D = [])) (w : World) (hs : s.length < 1099511627776) :
    Rets Tryz.prog 241 #[vs s, .func (.func k) #[] #[]] w (fun v D => v = .bool (s.any badB) ∧ D = []) := by
  refine Rets.enterV Tryz.func241 rfl (rs := [.tmp 4]) Tryz.results241 Tryz.ntmps241 ?_
  refine kf ?_
  first | with_reducible refine ks [] uOJ_1 ?_ | refine kp uOJ_1 ?_
  refine Ow.callF rfl rfl Tryz.call244 (S := fun _ v D => ∃ n : Int, v = vi n ∧ (0 ≤ n ↔ s.any badB = true) ∧ D = []) (fun w' hw' => IndexFunc_spec s k hk hc w' hs) ?_
  rintro B v D - - ⟨n, rfl, hn, rfl⟩
  refine ⟨_, Mrg.nil, ?_⟩
  refine ko uOJ_1 ?_
  first | with_reducible refine ks [] uOJ_1 ?_ | refine kp uOJ_1 ?_
  refine ⟨_, (ke uOJ_1), trivial, ?_⟩
  exact congrArg Value.bool (by rw [Bool.eq_iff_iff, decide_eq_true_eq]; exact hn)
theorem isName_spec (s : List UInt8) (w : World) (hs : s.length < 1099511627776) :
    Rets Tryz.prog 238 #[vs s] w (fun v D => v = .bool (!(s == []) && decide (s.length ≤ 32) && !(s.any badB)) ∧ D = []) := by
  refine Rets.enterV Tryz.func238 rfl (rs := [.tmp 2]) Tryz.results238 Tryz.ntmps238 ?_
  refine kf ?_
  cases h0 : (s != [])
  · have e0 : (s == []) = true := by simpa using h0
    first | with_reducible refine ks [] (And.intro uOJ_1 @h0) ?_ | refine kp (And.intro uOJ_1 @h0) ?_
    refine ⟨_, (ke uOJ_1), trivial, ?_⟩
    simp [tupV, e0]
  · have e0 : (s == []) = false := by simpa using h0
    cases h1 : decide ((s.length : Int) ≤ 32)
    · have e1 : decide (s.length ≤ 32) = false := decide_eq_false (by have := of_decide_eq_false h1; omega)
      first | with_reducible refine ks [] (And.intro uOJ_1 ( And.intro @h0 (@h1))) ?_ | refine kp (And.intro uOJ_1 ( And.intro @h0 (@h1))) ?_
      refine ⟨_, (ke uOJ_1), trivial, ?_⟩
      simp only [tupV, e0, e1, Bool.not_false, Bool.true_and, Bool.false_and, Bool.and_false]
    · have e1 : decide (s.length ≤ 32) = true := decide_eq_true (by have := of_decide_eq_true h1; omega)
      first | with_reducible refine ks [] (And.intro uOJ_1 ( And.intro @h0 (@h1))) ?_ | refine kp (And.intro uOJ_1 ( And.intro @h0 (@h1))) ?_
      refine Ow.callFV rfl Tryz.call241 (fun w' hw' => ContainsFunc_spec s 242 Tryz.call242 isNameC_spec w' hs) ?_
      refine ko uOJ_1 ?_
      first | with_reducible refine ks [] uOJ_1 ?_ | refine kp uOJ_1 ?_
      refine ⟨_, (ke uOJ_1), trivial, ?_⟩
      simp only [tupV, e0, e1, Bool.not_false, Bool.true_and]
set_option linter.defProp false
def uOJ_2 := And.intro (And.intro (@rdIn_v8) (@rdIn_v16)) (And.intro (@rdIn_v32) (And.intro (@rdIn_v64) (@rdIn_vi)))
/-- May a text be a name? -/
def nameV (s : List UInt8) : Bool := !(s == []) && decide (s.length ≤ 32) && !(s.any badB)
theorem badB_eq (c : UInt8) : badB c = (decide (c < 33) || decide (126 < c) || (c == 47)) := by
  unfold badB
  congr 1
  rw [Bool.eq_iff_iff, beq_iff_eq, beq_iff_eq, ← UInt8.toNat_inj]; rfl
theorem refName_spec (s : List UInt8) (w : World) (hs : s.length < 1099511627776) :
    Rets Tryz.prog 218 #[vs s] w (fun v D => v = .bool (nameV s) ∧ D = []) := by
  refine Rets.enterV Tryz.func218 rfl (rs := [.tmp 2]) Tryz.results218 Tryz.ntmps218 ?_
  refine kf ?_
  first | with_reducible refine ks [] uOJ_2 ?_ | refine kp uOJ_2 ?_
  refine Cw.loopG (G := Nat) [4, 5, 6, 7, 10, 11, 12, 13, 14, 15, 16, 17, 18, 19, 20, 21, 22, 23, 24, 25, 2, 8, 9, 3] (fun g => [(3, vi g)]) (fun g => []) (fun g => g ≤ s.length ∧ ∀ i, i < g → badB (s.getD i 0) = false) (fun g => s.length - g) 0 rfl rfl ?_ ?_
  · exact ⟨by omega, fun i hi => by omega⟩
  intro g j hg
  refine kv ?_
  obtain ⟨hgL, hgood⟩ := hg
  by_cases hlt : g < s.length
  · have hb := badB_eq (s.getD g 0)
    have hbad : badB (s.getD g 0) = true → nameV s = false := by
      intro h
      have : s.any badB = true := List.any_eq_true.2 ⟨s.getD g 0, by rw [List.getD_eq_getElem?_getD, List.getElem?_eq_getElem hlt]; exact List.getElem_mem hlt, h⟩
      unfold nameV
      rw [this]; simp
    have hgo : badB (s.getD g 0) = false → ∀ i, i < g + 1 → badB (s.getD i 0) = false := fun h i hi => by
      by_cases hig : i = g
      · rw [hig]; exact h
      · exact hgood i (by omega)
    generalize hc : s.getD g 0 = c at *
    cases h1 : decide (c < 33)
    · cases h2 : decide (126 < c)
      · cases h3 : (c == 47)
        · first | with_reducible refine ks [] (And.intro uOJ_2 ( And.intro @hc ( And.intro @h1 ( And.intro @h2 (@h3))))) ?_ | refine kp (And.intro uOJ_2 ( And.intro @hc ( And.intro @h1 ( And.intro @h2 (@h3))))) ?_
          refine Again.mk (g + 1) (by omega) ⟨by omega, hgo (by rw [hb, h1, h2, h3]; rfl)⟩ rfl rfl
        · first | with_reducible refine ks [] (And.intro uOJ_2 ( And.intro @hc ( And.intro @h1 ( And.intro @h2 (@h3))))) ?_ | refine kp (And.intro uOJ_2 ( And.intro @hc ( And.intro @h1 ( And.intro @h2 (@h3))))) ?_
          rw [hbad (by rw [hb, h1, h2, h3]; rfl)]
          refine ⟨_, (ke uOJ_2), trivial, ?_⟩
          rfl
      · first | with_reducible refine ks [] (And.intro uOJ_2 ( And.intro @hc ( And.intro @h1 (@h2)))) ?_ | refine kp (And.intro uOJ_2 ( And.intro @hc ( And.intro @h1 (@h2)))) ?_
        rw [hbad (by rw [hb, h1, h2]; rfl)]
        refine ⟨_, (ke uOJ_2), trivial, ?_⟩
        rfl
    · first | with_reducible refine ks [] (And.intro uOJ_2 ( And.intro @hc (@h1))) ?_ | refine kp (And.intro uOJ_2 ( And.intro @hc (@h1))) ?_
      rw [hbad (by rw [hb, h1]; simp)]
      refine ⟨_, (ke uOJ_2), trivial, ?_⟩
      rfl
  · obtain rfl : g = s.length := by omega
    have hany : s.any badB = false := by
      rw [List.any_eq_false]
      intro x hx
      obtain ⟨i, hi, rfl⟩ := List.getElem_of_mem hx
      have := hgood i hi
      rw [List.getD_eq_getElem?_getD, List.getElem?_eq_getElem hi] at this
      simpa using this
    unfold nameV
    rw [hany]
    cases h1 : decide (1 ≤ (s.length : Int))
    · have e0 : (s == []) = true := by
        have := of_decide_eq_false h1
        rw [List.eq_nil_of_length_eq_zero (show s.length = 0 by omega)]; rfl
      first | with_reducible refine ks [] (And.intro uOJ_2 @h1) ?_ | refine kp (And.intro uOJ_2 @h1) ?_
      refine ⟨_, (ke uOJ_2), trivial, ?_⟩
      simp only [tupV, e0, Bool.not_true, Bool.false_and]
    · have e0 : (s == []) = false := by
        have := of_decide_eq_true h1
        cases s with
        | nil => simp at this
        | cons x r => rfl
      have e1 : decide ((s.length : Int) ≤ 32) = decide (s.length ≤ 32) := decide_eq_decide.2 (by omega)
      first | with_reducible refine ks [] (And.intro uOJ_2 @h1) ?_ | refine kp (And.intro uOJ_2 @h1) ?_
      refine ⟨_, (ke uOJ_2), trivial, ?_⟩
      simp only [tupV, e0, e1, Bool.not_false, Bool.true_and, Bool.and_true]
end Go.Proofs
end
section
open Go Go.Proofs Go.Sx Go.StP
namespace Go.Proofs
set_option maxRecDepth 10000
set_option maxHeartbeats 4000000
set_option linter.unusedSimpArgs false
/-! ### Entries that may be -/
/-- May the entry at a place be? -/
def entOk (l : List EntL) (i : Nat) : Bool :=
  nameV (l.getD i ent0).name && ((l.getD i ent0).kind == 1 || (l.getD i ent0).kind == 2) && (i == 0 || ltB (l.getD (i - 1) ent0).name (l.getD i ent0).name)
def entsOk (l : List EntL) : Bool := decide (l.length ≤ 32) && (List.range l.length).all (entOk l)
theorem entsOk_no {l : List EntL} {k : Nat} (hk : k < l.length) (h : entOk l k = false) : entsOk l = false := by
  unfold entsOk
  have : (List.range l.length).all (entOk l) = false := by
    rw [List.all_eq_false]
    exact ⟨k, List.mem_range.2 hk, by simp [h]⟩
  rw [this, Bool.and_false]
theorem entsOk_yes {l : List EntL} (h : ∀ i, i < l.length → entOk l i = true) : entsOk l = decide (l.length ≤ 32) := by
  unfold entsOk
  have : (List.range l.length).all (entOk l) = true := List.all_eq_true.2 fun i hi => h i (List.mem_range.1 hi)
  rw [this, Bool.and_true]
set_option linter.defProp false
def uOK_1 := And.intro (And.intro (And.intro (@load_ent0) (@load_ent1)) (And.intro (@load_ent2) (@load_ent))) (And.intro (And.intro (@store_entr) (@cells_ent)) (And.intro (@rdIn_v8) (@rdIn_vi)))
/-- Names that are not too long to speak of. -/
def ShortE (l : List EntL) : Prop := ∀ i, i < l.length → (l.getD i ent0).name.length < 1099511627776
theorem isNameV_spec (s : List UInt8) (w : World) (hs : s.length < 1099511627776) : Rets Tryz.prog 238 #[vs s] w (fun v D => v = .bool (nameV s) ∧ D = []) := isName_spec s w hs
theorem bne_beq {a b : Int} {c : Bool} (h : (a != b) = c) : (a == b) = !c := by rw [← h]; simp [bne]
theorem entries_spec (v : Value) (l : List EntL) (w : World) (hv : EntS w v l) (hl : l.length < 1000000) (hsh : ShortE l) :
    Rets Tryz.prog 230 #[v] w (fun v' D => v' = .bool (entsOk l) ∧ D = []) := by
  obtain ⟨b, off, arr, E, fz, hr⟩ := hv.row
  have ln := hv.len
  refine Rets.enterV Tryz.func230 rfl (rs := [.tmp 2]) Tryz.results230 Tryz.ntmps230 ?_
  refine kf ?_
  first | with_reducible refine ks [] (And.intro uOK_1 @ln) ?_ | refine kp (And.intro uOK_1 @ln) ?_
  refine Cw.loopG (G := Nat) [8, 9, 10, 11, 4, 3, 12, 13, 14, 15, 16, 17, 18, 19, 20, 21, 22, 23, 24, 25, 26, 27, 28, 29, 30, 31, 32, 33, 34, 35, 36, 37, 38, 39, 40, 2, 41, 7] (fun g => [(7, vi g)]) (fun g => []) (fun g => g ≤ l.length ∧ ∀ i, i < g → entOk l i = true) (fun g => l.length - g) 0 rfl rfl ?_ ?_
  · exact ⟨Nat.zero_le _, fun i hi => absurd hi (Nat.not_lt_zero i)⟩
  · intro k jk hk
    refine kv ?_
    obtain ⟨h1, h2⟩ := hk
    by_cases hk : k < l.length
    · have h0 : 0 < l.length := by omega
      have hbl := hr.lt h0
      have r2 := hr.has h0
      have i2 := hr.idx true k hk
      have l2 := row_ent hr hk
      first | with_reducible refine ks [6] (And.intro uOK_1 ( And.intro @r2 ( And.intro @i2 (@l2)))) ?_ | refine kp (And.intro uOK_1 ( And.intro @r2 ( And.intro @i2 (@l2)))) ?_
      refine Ow.alloc rfl rfl zrEnt fun b4 hb4 hw4 => ?_
      simp only [cells_agg, List.nil_append, List.cons_append]
      have hn4 : b4 ≠ b := by omega
      refine ko uOK_1 ?_
      have hs := hsh k hk
      refine Cw.regionS [b4, b] [0, 1, 2, 3, 4, 5, 6, 7, 8, 9, 10, 11, 12, 13, 14, 15, 16, 17, 18, 19, 20, 21, 22, 24, 23, 25, 26, 27, 28] [] (by kernel_rfl) (by kernel_rfl) (by kernel_rfl) ?_
      simp only [nl_cons, ↓pickL_nil, ↓pickL_cons, ↓nthO_0, ↓nthO_s, consO_some]
      refine kq uOK_1 ?_
      refine Ow.callFV rfl Tryz.call238 (fun w' hw' => isNameV_spec (l.getD k ent0).name w' hs) ?_
      cases hn : nameV (l.getD k ent0).name
      · have e0 : entOk l k = false := by unfold entOk; rw [hn]; rfl
        rw [entsOk_no hk e0]
        refine kq uOK_1 ?_
        refine ⟨_, (ke uOK_1), ⟨hw4, trivial⟩, ?_⟩
        rfl
      · cases hk1 : ((l.getD k ent0).kind != 1)
        · have hkk : ((l.getD k ent0).kind == 1 || (l.getD k ent0).kind == 2) = true := by rw [bne_beq hk1]; rfl
          by_cases h0k : k = 0
          · have d1 : decide ((0 : Int) < (k : Int)) = false := decide_eq_false (by omega)
            have e1 : entOk l k = true := by unfold entOk; rw [hn, hkk, h0k]; rfl
            refine kq (And.intro uOK_1 ( And.intro @hk1 (@d1))) ?_
            refine Cw.forgetN [] (by exact ⟨hw4, trivial⟩) (by intro p hp; simp only [List.mem_cons, List.not_mem_nil, or_false] at hp ⊢; all_goals (first | (rcases hp with rfl | hp <;> simp_all) | (subst hp; simp) | simp_all)) (by simp [keys] <;> omega) ?_
            first | with_reducible refine ks [] uOK_1 ?_ | refine kp uOK_1 ?_
            exact Again.mk (k + 1) (by omega) ⟨by omega, fun i hi => by
              rcases Nat.lt_succ_iff_lt_or_eq.1 hi with h | rfl
              · exact h2 i h
              · exact e1⟩ rfl rfl
          · have d1 : decide ((0 : Int) < (k : Int)) = true := decide_eq_true (by omega)
            have i3 : indexAddrV (.sl (true, 34)) v (some ((k : Int) - 1)) = some (vp b (off + (k - 1) * 34)) := by
              rw [show (k : Int) - 1 = ((k - 1 : Nat) : Int) by omega]; exact hr.idx true (k - 1) (by omega)
            have l3 : ∀ n, loadV (some (false, n)) (some (.cells arr E fz)) (off + (k - 1) * 34) = some (vs (l.getD (k - 1) ent0).name) := fun n => row_ent0 hr (show k - 1 < l.length by omega) n
            have ek : (k == 0) = false := beq_eq_false_iff_ne.2 h0k
            cases hl3 : Op.bytesLess (l.getD (k - 1) ent0).name (l.getD k ent0).name
            · have e1 : entOk l k = false := by unfold entOk; rw [hn, hkk, ek]; exact hl3
              rw [entsOk_no hk e1]
              refine kq (And.intro uOK_1 ( And.intro @hk1 ( And.intro @d1 ( And.intro @i3 ( And.intro @r2 ( And.intro @l3 (@hl3))))))) ?_
              refine ⟨_, (ke uOK_1), ⟨hw4, trivial⟩, ?_⟩
              rfl
            · have e1 : entOk l k = true := by unfold entOk; rw [hn, hkk, ek]; exact hl3
              refine kq (And.intro uOK_1 ( And.intro @hk1 ( And.intro @d1 ( And.intro @i3 ( And.intro @r2 ( And.intro @l3 (@hl3))))))) ?_
              refine Cw.forgetN [] (by exact ⟨hw4, trivial⟩) (by intro p hp; simp only [List.mem_cons, List.not_mem_nil, or_false] at hp ⊢; all_goals (first | (rcases hp with rfl | hp <;> simp_all) | (subst hp; simp) | simp_all)) (by simp [keys] <;> omega) ?_
              first | with_reducible refine ks [] uOK_1 ?_ | refine kp uOK_1 ?_
              exact Again.mk (k + 1) (by omega) ⟨by omega, fun i hi => by
                rcases Nat.lt_succ_iff_lt_or_eq.1 hi with h | rfl
                · exact h2 i h
                · exact e1⟩ rfl rfl
        · cases hk2 : ((l.getD k ent0).kind != 2)
          · have hkk : ((l.getD k ent0).kind == 1 || (l.getD k ent0).kind == 2) = true := by rw [bne_beq hk2]; simp
            by_cases h0k : k = 0
            · have d1 : decide ((0 : Int) < (k : Int)) = false := decide_eq_false (by omega)
              have e1 : entOk l k = true := by unfold entOk; rw [hn, hkk, h0k]; rfl
              refine kq (And.intro uOK_1 ( And.intro @hk1 ( And.intro @hk2 (@d1)))) ?_
              refine Cw.forgetN [] (by exact ⟨hw4, trivial⟩) (by intro p hp; simp only [List.mem_cons, List.not_mem_nil, or_false] at hp ⊢; all_goals (first | (rcases hp with rfl | hp <;> simp_all) | (subst hp; simp) | simp_all)) (by simp [keys] <;> omega) ?_
              first | with_reducible refine ks [] uOK_1 ?_ | refine kp uOK_1 ?_
              exact Again.mk (k + 1) (by omega) ⟨by omega, fun i hi => by
                rcases Nat.lt_succ_iff_lt_or_eq.1 hi with h | rfl
                · exact h2 i h
                · exact e1⟩ rfl rfl
            · have d1 : decide ((0 : Int) < (k : Int)) = true := decide_eq_true (by omega)
              have i3 : indexAddrV (.sl (true, 34)) v (some ((k : Int) - 1)) = some (vp b (off + (k - 1) * 34)) := by
                rw [show (k : Int) - 1 = ((k - 1 : Nat) : Int) by omega]; exact hr.idx true (k - 1) (by omega)
              have l3 : ∀ n, loadV (some (false, n)) (some (.cells arr E fz)) (off + (k - 1) * 34) = some (vs (l.getD (k - 1) ent0).name) := fun n => row_ent0 hr (show k - 1 < l.length by omega) n
              have ek : (k == 0) = false := beq_eq_false_iff_ne.2 h0k
              cases hl3 : Op.bytesLess (l.getD (k - 1) ent0).name (l.getD k ent0).name
              · have e1 : entOk l k = false := by unfold entOk; rw [hn, hkk, ek]; exact hl3
                rw [entsOk_no hk e1]
                refine kq (And.intro uOK_1 ( And.intro @hk1 ( And.intro @hk2 ( And.intro @d1 ( And.intro @i3 ( And.intro @r2 ( And.intro @l3 (@hl3)))))))) ?_
                refine ⟨_, (ke uOK_1), ⟨hw4, trivial⟩, ?_⟩
                rfl
              · have e1 : entOk l k = true := by unfold entOk; rw [hn, hkk, ek]; exact hl3
                refine kq (And.intro uOK_1 ( And.intro @hk1 ( And.intro @hk2 ( And.intro @d1 ( And.intro @i3 ( And.intro @r2 ( And.intro @l3 (@hl3)))))))) ?_
                refine Cw.forgetN [] (by exact ⟨hw4, trivial⟩) (by intro p hp; simp only [List.mem_cons, List.not_mem_nil, or_false] at hp ⊢; all_goals (first | (rcases hp with rfl | hp <;> simp_all) | (subst hp; simp) | simp_all)) (by simp [keys] <;> omega) ?_
                first | with_reducible refine ks [] uOK_1 ?_ | refine kp uOK_1 ?_
                exact Again.mk (k + 1) (by omega) ⟨by omega, fun i hi => by
                  rcases Nat.lt_succ_iff_lt_or_eq.1 hi with h | rfl
                  · exact h2 i h
                  · exact e1⟩ rfl rfl
          · have e0 : entOk l k = false := by
              unfold entOk
              rw [hn, bne_beq hk1, bne_beq hk2]; rfl
            rw [entsOk_no hk e0]
            refine kq (And.intro uOK_1 ( And.intro @hk1 (@hk2))) ?_
            refine ⟨_, (ke uOK_1), ⟨hw4, trivial⟩, ?_⟩
            rfl
    · obtain rfl : k = l.length := by omega
      rw [entsOk_yes h2]
      first | with_reducible refine ks [] (And.intro uOK_1 @ln) ?_ | refine kp (And.intro uOK_1 @ln) ?_
      refine ⟨_, (ke uOK_1), trivial, ?_⟩
      exact congrArg Value.bool (decide_eq_decide.2 (by omega))
end Go.Proofs
end
section
open Go Go.Proofs Go.Sx Go.StP
namespace Go.Proofs
set_option maxRecDepth 10000
set_option maxHeartbeats 4000000
set_option linter.unusedSimpArgs false
set_option linter.defProp false
def uOL_1 := And.intro (And.intro (And.intro (@load_ent0) (@load_ent1)) (And.intro (@load_ent2) (@load_ent))) (And.intro (And.intro (@store_entr) (@cells_ent)) (And.intro (@rdIn_v8) (@rdIn_vi)))
theorem leq_ltB (a b : List UInt8) : (Op.bytesLess a b || a == b) = !ltB b a := by rw [← gtr_ltB, Bool.not_not]
theorem TreeRight_spec (v : Value) (l : List EntL) (w : World) (hv : EntS w v l) (hl : l.length < 1000000) (hsh : ShortE l) :
    Rets Tryz.prog 186 #[v] w (fun v' D => v' = .bool (entsOk l) ∧ D = []) := by
  obtain ⟨b, off, arr, E, fz, hr⟩ := hv.row
  have ln := hv.len
  refine Rets.enterV Tryz.func186 rfl (rs := [.tmp 2]) Tryz.results186 Tryz.ntmps186 ?_
  refine kf ?_
  by_cases h32 : 32 < l.length
  · first | with_reducible refine ks [] (And.intro uOL_1 @ln) ?_ | refine kp (And.intro uOL_1 @ln) ?_
    have : entsOk l = false := by unfold entsOk; rw [decide_eq_false (by omega), Bool.false_and]
    rw [this]
    refine ⟨_, (ke uOL_1), trivial, ?_⟩
    rfl
  · first | with_reducible refine ks [] (And.intro uOL_1 @ln) ?_ | refine kp (And.intro uOL_1 @ln) ?_
    refine Cw.loopG (G := Nat) [7, 8, 9, 10, 13, 14, 15, 16, 17, 18, 19, 20, 21, 22, 23, 24, 25, 26, 27, 28, 29, 30, 31, 32, 33, 34, 35, 2, 36, 37, 38, 39, 40, 41, 42, 43, 44, 45, 46, 47, 48, 49, 50, 51, 11, 12, 3] (fun g => [(3, vi g)]) (fun g => []) (fun g => g ≤ l.length ∧ ∀ i, i < g → entOk l i = true) (fun g => l.length - g) 0 rfl rfl ?_ ?_
    · exact ⟨Nat.zero_le _, fun i hi => absurd hi (Nat.not_lt_zero i)⟩
    · intro k jk hk
      refine kv ?_
      obtain ⟨h1, h2⟩ := hk
      by_cases hk : k < l.length
      · have h0 : 0 < l.length := by omega
        have hbl := hr.lt h0
        have r2 := hr.has h0
        have i2 := hr.idx true k hk
        have m0 : ∀ n, loadV (some (false, n)) (some (.cells arr E fz)) (off + k * 34) = some (vs (l.getD k ent0).name) := fun n => row_ent0 hr hk n
        have m1 : ∀ n, loadV (some (false, n)) (some (.cells arr E fz)) (off + k * 34 + 1) = some (vi (l.getD k ent0).kind) := fun n => row_ent1 hr hk n
        have hs := hsh k hk
        first | with_reducible refine ks [] (And.intro uOL_1 ( And.intro @ln ( And.intro @r2 ( And.intro @i2 ( And.intro @m0 (@m1)))))) ?_ | refine kp (And.intro uOL_1 ( And.intro @ln ( And.intro @r2 ( And.intro @i2 ( And.intro @m0 (@m1)))))) ?_
        refine Ow.callFV rfl Tryz.call218 (fun w' hw' => refName_spec (l.getD k ent0).name w' hs) ?_
        cases hn : nameV (l.getD k ent0).name
        · have e0 : entOk l k = false := by unfold entOk; rw [hn]; rfl
          rw [entsOk_no hk e0]
          refine ko uOL_1 ?_
          refine ⟨_, (ke uOL_1), trivial, ?_⟩
          rfl
        · cases hk1 : decide ((l.getD k ent0).kind < 1)
          · cases hk2 : decide (2 < (l.getD k ent0).kind)
            · have hkk : ((l.getD k ent0).kind == 1 || (l.getD k ent0).kind == 2) = true := by
                have q1 := of_decide_eq_false hk1
                have q2 := of_decide_eq_false hk2
                rcases (show (l.getD k ent0).kind = 1 ∨ (l.getD k ent0).kind = 2 by omega) with h | h <;> rw [h] <;> rfl
              refine ko (And.intro uOL_1 ( And.intro @r2 ( And.intro @i2 ( And.intro @m0 ( And.intro @m1 ( And.intro @hk1 (@hk2))))))) ?_
              by_cases h0k : k = 0
              · have d1 : decide ((0 : Int) < (k : Int)) = false := decide_eq_false (by omega)
                have e1 : entOk l k = true := by unfold entOk; rw [hn, hkk, h0k]; rfl
                refine Cw.regionS [b] [0, 1, 2, 3, 4, 5, 6, 8, 9, 10, 11, 12, 7, 13, 14, 15] [] (by kernel_rfl) (by kernel_rfl) (by kernel_rfl) ?_
                simp only [nl_cons, ↓pickL_nil, ↓pickL_cons, ↓nthO_0, ↓nthO_s, consO_some]
                refine kq (And.intro uOL_1 @d1) ?_
                exact Again.mk (k + 1) (by omega) ⟨by omega, fun i hi => by
                  rcases Nat.lt_succ_iff_lt_or_eq.1 hi with h | rfl
                  · exact h2 i h
                  · exact e1⟩ rfl rfl
              · have d1 : decide ((0 : Int) < (k : Int)) = true := decide_eq_true (by omega)
                have i3 : indexAddrV (.sl (true, 34)) v (some ((k : Int) - 1)) = some (vp b (off + (k - 1) * 34)) := by
                  rw [show (k : Int) - 1 = ((k - 1 : Nat) : Int) by omega]; exact hr.idx true (k - 1) (by omega)
                have l3 : ∀ n, loadV (some (false, n)) (some (.cells arr E fz)) (off + (k - 1) * 34) = some (vs (l.getD (k - 1) ent0).name) := fun n => row_ent0 hr (show k - 1 < l.length by omega) n
                have ek : (k == 0) = false := beq_eq_false_iff_ne.2 h0k
                cases hl3 : ltB (l.getD (k - 1) ent0).name (l.getD k ent0).name
                · have e1 : entOk l k = false := by unfold entOk; rw [hn, hkk, ek]; exact hl3
                  rw [entsOk_no hk e1]
                  refine Cw.regionS [b] [0, 1, 2, 3, 4, 5, 6, 8, 9, 10, 11, 12, 7, 13, 14, 15] [] (by kernel_rfl) (by kernel_rfl) (by kernel_rfl) ?_
                  simp only [nl_cons, ↓pickL_nil, ↓pickL_cons, ↓nthO_0, ↓nthO_s, consO_some]
                  refine kq (And.intro uOL_1 ( And.intro @d1 ( And.intro @i2 ( And.intro @i3 ( And.intro @r2 ( And.intro @m0 ( And.intro @l3 ( And.intro @leq_ltB (@hl3))))))))) ?_
                  refine ⟨_, (ke uOL_1), trivial, ?_⟩
                  rfl
                · have e1 : entOk l k = true := by unfold entOk; rw [hn, hkk, ek]; exact hl3
                  refine Cw.regionS [b] [0, 1, 2, 3, 4, 5, 6, 8, 9, 10, 11, 12, 7, 13, 14, 15] [] (by kernel_rfl) (by kernel_rfl) (by kernel_rfl) ?_
                  simp only [nl_cons, ↓pickL_nil, ↓pickL_cons, ↓nthO_0, ↓nthO_s, consO_some]
                  refine kq (And.intro uOL_1 ( And.intro @d1 ( And.intro @i2 ( And.intro @i3 ( And.intro @r2 ( And.intro @m0 ( And.intro @l3 ( And.intro @leq_ltB (@hl3))))))))) ?_
                  exact Again.mk (k + 1) (by omega) ⟨by omega, fun i hi => by
                    rcases Nat.lt_succ_iff_lt_or_eq.1 hi with h | rfl
                    · exact h2 i h
                    · exact e1⟩ rfl rfl
            · have e0 : entOk l k = false := by
                have q2 := of_decide_eq_true hk2
                unfold entOk
                rw [hn, show ((l.getD k ent0).kind == 1) = false from beq_eq_false_iff_ne.2 (by omega), show ((l.getD k ent0).kind == 2) = false from beq_eq_false_iff_ne.2 (by omega)]; rfl
              rw [entsOk_no hk e0]
              refine ko (And.intro uOL_1 ( And.intro @r2 ( And.intro @i2 ( And.intro @m0 ( And.intro @m1 ( And.intro @hk1 (@hk2))))))) ?_
              refine ⟨_, (ke uOL_1), trivial, ?_⟩
              rfl
          · have e0 : entOk l k = false := by
              have q2 := of_decide_eq_true hk1
              unfold entOk
              rw [hn, show ((l.getD k ent0).kind == 1) = false from beq_eq_false_iff_ne.2 (by omega), show ((l.getD k ent0).kind == 2) = false from beq_eq_false_iff_ne.2 (by omega)]; rfl
            rw [entsOk_no hk e0]
            refine ko (And.intro uOL_1 ( And.intro @r2 ( And.intro @i2 ( And.intro @m0 ( And.intro @m1 (@hk1)))))) ?_
            refine ⟨_, (ke uOL_1), trivial, ?_⟩
            rfl
      · obtain rfl : k = l.length := by omega
        rw [entsOk_yes h2, show decide (l.length ≤ 32) = true from decide_eq_true (by omega)]
        first | with_reducible refine ks [] (And.intro uOL_1 @ln) ?_ | refine kp (And.intro uOL_1 @ln) ?_
        refine ⟨_, (ke uOL_1), trivial, ?_⟩
        rfl
end Go.Proofs
end
section
open Go Go.Proofs Go.Sx Go.StP
namespace Go.Proofs
set_option maxRecDepth 10000
set_option maxHeartbeats 4000000
set_option linter.unusedSimpArgs false
/-! ### Ids in slices -/
theorem idLC_len' (x : IdL) : (idLC x).length = 32 := by simp [idLC, x.h]
theorem idLC_one' (x : IdL) : (idLC x).all Value.oneCell' = true := all_v8 _
abbrev IdS (w : World) (v : Value) (l : List IdL) : Prop := SlV 32 idLC id0 w v l
theorem row_id {w : World} {v : Value} {l : List IdL} {b off : Nat} {arr : Array Value} {E : TypeId} {fz : Nat × Nat} (h : RowS 32 idLC id0 w v l b off arr E fz) {k : Nat} (hk : k < l.length) :
    loadV (some (true, 32)) (some (.cells arr E fz)) (off + k * 32) = some (.agg (a8 (l.getD k id0).l)) := RowS.load h idLC_len' (by omega) hk
theorem eqIdA (a b : IdL) : binX Tryz.prog .eql 37 (.agg (a8 a.l)) (.agg (a8 b.l)) = some (.bool (a.l == b.l)) :=
  binX_a8 Tryz.underlying37 Tryz.underlying5 Tryz.ag5 (by kernel_rfl) a.l b.l ⟨a.h, b.h⟩
theorem neIdA (a b : IdL) : binX Tryz.prog .neq 37 (.agg (a8 a.l)) (.agg (a8 b.l)) = some (.bool (!(a.l == b.l))) :=
  binX_a8n Tryz.underlying37 Tryz.underlying5 Tryz.ag5 (by kernel_rfl) a.l b.l ⟨a.h, b.h⟩
instance : DecidableEq IdL := fun a b => if h : a.l = b.l then .isTrue (by cases a; cases b; simp only at h; subst h; rfl) else .isFalse (fun e => h (by rw [e]))
theorem IdL.ext' {a b : IdL} (h : a.l = b.l) : a = b := by cases a; cases b; simp only at h; subst h; rfl
/-- The first place of an id. -/
def idxG (x : IdL) : List IdL → Nat → Int
  | [], _ => -1
  | y :: r, i => if x.l == y.l then (i : Int) else idxG x r (i + 1)
theorem idxG_cons (x y : IdL) (r : List IdL) (i : Nat) : idxG x (y :: r) i = if x.l == y.l then (i : Int) else idxG x r (i + 1) := rfl
theorem idxG_any (x : IdL) : ∀ (l : List IdL) (i : Nat), decide (0 ≤ idxG x l i) = l.any fun y => x.l == y.l
  | [], _ => rfl
  | y :: r, i => by
    unfold idxG
    rw [List.any_cons]
    cases h : (x.l == y.l)
    · rw [if_neg (by simp), Bool.false_or]; exact idxG_any x r (i + 1)
    · rw [if_pos rfl, Bool.true_or, decide_eq_true (by omega)]
theorem load_idb (x : IdL) (E : TypeId) (fz : Nat × Nat) : loadV (some (true, 32)) (some (.cells (a8 x.l) E fz)) 0 = some (.agg (a8 x.l)) := load_all8 _ E fz 32 x.h
set_option linter.defProp false
def uOM_1 := And.intro (And.intro (@eqIdA) (@neIdA)) (And.intro (@load_idb) (And.intro (@rdIn_v8) (@rdIn_vi)))
theorem IndexId_spec (v : Value) (l : List IdL) (x : IdL) (w : World) (hv : IdS w v l) (hl : l.length < 1000000) :
    Rets Tryz.prog 79 #[v, .agg (a8 x.l)] w (fun v' D => v' = vi (idxG x l 0) ∧ D = []) := by
  obtain ⟨b, off, arr, E, fz, hr⟩ := hv.row
  have ln := hv.len
  refine Rets.enterV Tryz.func79 rfl (rs := [.tmp 4]) Tryz.results79 Tryz.ntmps79 ?_
  refine kf ?_
  first | with_reducible refine ks [] uOM_1 ?_ | refine kp uOM_1 ?_
  refine Ow.box rfl rfl fun b1 hb1 hw1 => ?_
  simp only [ev_tmp, getF_0, getF_s, cells_agg, List.nil_append, List.cons_append]
  refine Ow.go rfl ?_
  simp (disch := (first | assumption | omega | (simp only [lenS, lenT, UInt64.reduceToNat]; try omega))) only [↓Sx.S0, Sx.S1, Tryz.fx, uOM_1, Nat.reduceAdd, Nat.reducePow, Int.reducePow, Nat.reduceBEq, ↓reduceIte, UInt8.reduceToNat, UInt16.reduceToNat, UInt32.reduceToNat, UInt64.reduceToNat, Int.reduceToNat]
  first | with_reducible refine ks [] (And.intro uOM_1 @ln) ?_ | refine kp (And.intro uOM_1 @ln) ?_
  refine Cw.loopG (G := Nat) [9, 10, 5, 11, 12, 13, 14, 15, 16, 17, 4, 18, 8] (fun g => [(8, vi g)]) (fun g => [(b1, .cells (a8 x.l) 37 (0, 0))]) (fun g => g ≤ l.length ∧ idxG x l 0 = idxG x (l.drop g) g) (fun g => l.length - g) 0 rfl rfl ?_ ?_
  · exact ⟨Nat.zero_le _, rfl⟩
  · intro k jk hk
    refine kv ?_
    obtain ⟨h1, h2⟩ := hk
    by_cases hk : k < l.length
    · have h0 : 0 < l.length := by omega
      have hbl := hr.lt h0
      have hn1 : b1 ≠ b := by omega
      have r2 := hr.has h0
      have i2 := hr.idx true k hk
      have l2 := row_id hr hk
      rw [drop_cons (z := id0) hk, idxG_cons] at h2
      first | with_reducible refine ks [] uOM_1 ?_ | refine kp uOM_1 ?_
      refine Cw.regionS [b1, b] [1, 2, 3, 0, 4, 5] [] (by kernel_rfl) (by kernel_rfl) (by kernel_rfl) ?_
      simp only [nl_cons, ↓pickL_nil, ↓pickL_cons, ↓nthO_0, ↓nthO_s, consO_some]
      refine kq (And.intro uOM_1 ( And.intro @i2 ( And.intro @r2 (@l2)))) ?_
      cases hq : (x.l == (l.getD k id0).l)
      · rw [hq, if_neg (by simp)] at h2
        first | with_reducible refine ks [] (And.intro uOM_1 @hq) ?_ | refine kp (And.intro uOM_1 @hq) ?_
        exact Again.mk (k + 1) (by omega) ⟨hk, h2⟩ rfl rfl
      · rw [hq, if_pos rfl] at h2
        rw [h2]
        first | with_reducible refine ks [] (And.intro uOM_1 @hq) ?_ | refine kp (And.intro uOM_1 @hq) ?_
        refine ⟨_, (ke uOM_1), ⟨hw1, trivial⟩, ?_⟩
        rfl
    · obtain rfl : k = l.length := by omega
      rw [List.drop_length] at h2
      rw [h2]
      first | with_reducible refine ks [] uOM_1 ?_ | refine kp uOM_1 ?_
      refine ⟨_, (ke uOM_1), ⟨hw1, trivial⟩, ?_⟩
      rfl
theorem ContainsId_spec (v : Value) (l : List IdL) (x : IdL) (w : World) (hv : IdS w v l) (hl : l.length < 1000000) :
    Rets Tryz.prog 127 #[v, .agg (a8 x.l)] w (fun v' D => v' = .bool (l.any fun y => x.l == y.l) ∧ D = []) := by
  refine Rets.enterV Tryz.func127 rfl (rs := [.tmp 4]) Tryz.results127 Tryz.ntmps127 ?_
  refine kf ?_
  first | with_reducible refine ks [] uOM_1 ?_ | refine kp uOM_1 ?_
  refine Ow.box rfl rfl fun b1 hb1 hw1 => ?_
  simp only [ev_tmp, getF_0, getF_s, cells_agg, List.nil_append, List.cons_append]
  refine Ow.go rfl ?_
  simp (disch := (first | assumption | omega | (simp only [lenS, lenT, UInt64.reduceToNat]; try omega))) only [↓Sx.S0, Sx.S1, Tryz.fx, uOM_1, Nat.reduceAdd, Nat.reducePow, Int.reducePow, Nat.reduceBEq, ↓reduceIte, UInt8.reduceToNat, UInt16.reduceToNat, UInt32.reduceToNat, UInt64.reduceToNat, Int.reduceToNat]
  first | with_reducible refine ks [] uOM_1 ?_ | refine kp uOM_1 ?_
  refine Ow.callFV rfl Tryz.call79 (fun w' hw' => IndexId_spec v l x w' (hv.oldN hw' ⟨hw1, trivial⟩) hl) ?_
  refine ko uOM_1 ?_
  refine ⟨_, (ke uOM_1), ⟨hw1, trivial⟩, ?_⟩
  exact congrArg Value.bool (idxG_any x l 0)
end Go.Proofs
end
section
open Go Go.Proofs Go.Sx Go.StP
namespace Go.Proofs
set_option maxRecDepth 10000
set_option maxHeartbeats 4000000
set_option linter.unusedSimpArgs false
/-! ### Commits -/
structure ComL where
  tree : IdL
  par : List IdL
  text : List UInt8
def comC (t : IdL) (p : Value) (x : List UInt8) : List Value := t.l.map v8 ++ ([p] ++ [vs x])
theorem comC_len (t : IdL) (p : Value) (x : List UInt8) : (comC t p x).length = 34 := by simp [comC, t.h]
theorem comC_one (t : IdL) (p : Value) (x : List UInt8) (hp : Value.oneCell' p = true) : (comC t p x).all Value.oneCell' = true := by
  unfold comC
  simp only [List.all_append, List.all_cons, List.all_nil, all_v8, hp, Bool.and_true, Bool.true_and]
  rfl
theorem cells_com (t : IdL) (p : Value) (x : List UInt8) : Value.cells (.agg (comC t p x).toArray) = (comC t p x).toArray := cells_agg _
theorem load_com0 (t : IdL) (p : Value) (x : List UInt8) (E : TypeId) (fz : Nat × Nat) : loadV (some (true, 32)) (some (.cells (comC t p x).toArray E fz)) 0 = some (.agg (a8 t.l)) := by
  unfold comC; exact load_agg [] _ _ E fz rfl (by simp [t.h])
theorem load_com1 (t : IdL) (p : Value) (x : List UInt8) (n : Nat) (E : TypeId) (fz : Nat × Nat) : loadV (some (false, n)) (some (.cells (comC t p x).toArray E fz)) 32 = some p := by
  unfold comC; exact load_one _ _ p n E fz (by simp [t.h])
theorem load_com2 (t : IdL) (p : Value) (x : List UInt8) (n : Nat) (E : TypeId) (fz : Nat × Nat) : loadV (some (false, n)) (some (.cells (comC t p x).toArray E fz)) 33 = some (vs x) := by
  have e : comC t p x = (t.l.map v8 ++ [p]) ++ ([vs x] ++ []) := by unfold comC; simp only [List.append_assoc, List.append_nil]
  rw [e]; exact load_one _ _ (vs x) n E fz (by simp [t.h])
theorem load_com (t : IdL) (p : Value) (x : List UInt8) (E : TypeId) (fz : Nat × Nat) : loadV (some (true, 34)) (some (.cells (comC t p x).toArray E fz)) 0 = some (.agg (comC t p x).toArray) := load_all _ E fz 34 (by rw [List.size_toArray, comC_len])
theorem store_com (old : Array Value) (t : IdL) (p : Value) (x : List UInt8) (a : Bool) (E : TypeId) (h : old.size = 34) (hp : Value.oneCell' p = true) : storeV (some (a, 34)) (some (.cells old E (0, 0))) 0 (.agg (comC t p x).toArray) = some (.cells (comC t p x).toArray E (0, 0)) := store_whole _ a old E (comC_len t p x) (comC_one t p x hp) h
/-- May a commit be? -/
def parOk (l : List IdL) (i : Nat) : Bool := !((l.take i).any fun y => (l.getD i id0).l == y.l)
def comOk (c : ComL) : Bool := (decide (c.par.length ≤ 4) && decide (c.text.length ≤ 64)) && (List.range c.par.length).all (parOk c.par)
theorem comOk_no {c : ComL} {k : Nat} (hk : k < c.par.length) (h : parOk c.par k = false) : comOk c = false := by
  unfold comOk
  have : (List.range c.par.length).all (parOk c.par) = false := by
    rw [List.all_eq_false]
    exact ⟨k, List.mem_range.2 hk, by simp [h]⟩
  rw [this, Bool.and_false]
theorem comOk_yes {c : ComL} (h : ∀ i, i < c.par.length → parOk c.par i = true) : comOk c = (decide (c.par.length ≤ 4) && decide (c.text.length ≤ 64)) := by
  unfold comOk
  have : (List.range c.par.length).all (parOk c.par) = true := List.all_eq_true.2 fun i hi => h i (List.mem_range.1 hi)
  rw [this, Bool.and_true]
abbrev ComS (w : World) (v : Value) (c : ComL) : Prop := ∃ p, v = .agg (comC c.tree p c.text).toArray ∧ IdS w p c.par
theorem SlV.one {α : Type} {m : Nat} {enc : α → List Value} {z : α} {w : World} {v : Value} {l : List α} (h : SlV m enc z w v l) : Value.oneCell' v = true ∧ v.cells = #[v] := by
  obtain ⟨b, off, c, arr, E, fz, -, -, ⟨rfl, -, -⟩ | ⟨rfl, -, -⟩⟩ := h <;> exact ⟨rfl, rfl⟩
set_option linter.defProp false
def uON_1 := And.intro (And.intro (And.intro (@eqIdA) (@neIdA)) (And.intro (@load_idb) (And.intro (@rdIn_v8) (@rdIn_vi)))) (And.intro (And.intro (@load_com0) (@load_com1)) (And.intro (@load_com2) (And.intro (@load_com) (@cells_com))))
theorem commit_spec (v : Value) (c : ComL) (w : World) (hv : ComS w v c) (hl : c.par.length < 1000000) (ht : c.text.length < 1099511627776) :
    Rets Tryz.prog 231 #[v] w (fun v' D => v' = .bool (comOk c) ∧ D = []) := by
  obtain ⟨p, rfl, hp⟩ := hv
  obtain ⟨b, off, arr, E, fz, hr⟩ := hp.row
  have ln := hp.len
  refine Rets.enterV Tryz.func231 rfl (rs := [.tmp 2]) Tryz.results231 Tryz.ntmps231 ?_
  refine kf ?_
  first | with_reducible refine ks [] uON_1 ?_ | refine kp uON_1 ?_
  refine Ow.box rfl rfl fun bx hbx hwx => ?_
  simp only [ev_tmp, getF_0, getF_s, cells_agg, List.nil_append, List.cons_append]
  refine Ow.go rfl ?_
  simp (disch := (first | assumption | omega | (simp only [lenS, lenT, UInt64.reduceToNat]; try omega))) only [↓Sx.S0, Sx.S1, Tryz.fx, uON_1, Nat.reduceAdd, Nat.reducePow, Int.reducePow, Nat.reduceBEq, ↓reduceIte, UInt8.reduceToNat, UInt16.reduceToNat, UInt32.reduceToNat, UInt64.reduceToNat, Int.reduceToNat]
  first | with_reducible refine ks [] (And.intro uON_1 @ln) ?_ | refine kp (And.intro uON_1 @ln) ?_
  refine Cw.loopG (G := Nat) [9, 10, 11, 12, 4, 3, 13, 14, 15, 16, 17, 18, 2, 19, 8] (fun g => [(8, vi g)]) (fun g => [(bx, .cells (comC c.tree p c.text).toArray 241 (0, 0))]) (fun g => g ≤ c.par.length ∧ ∀ i, i < g → parOk c.par i = true) (fun g => c.par.length - g) 0 rfl rfl ?_ ?_
  · exact ⟨Nat.zero_le _, fun i hi => absurd hi (Nat.not_lt_zero i)⟩
  · intro k jk hk
    refine kv ?_
    obtain ⟨h1, h2⟩ := hk
    by_cases hk : k < c.par.length
    · have h0 : 0 < c.par.length := by omega
      have hbl := hr.lt h0
      have hnb : bx ≠ b := by omega
      have r2 := hr.has h0
      have i2 := hr.idx true k hk
      have l2 := row_id hr hk
      obtain ⟨v3, s3, hv3, -⟩ := hp.take (show k ≤ c.par.length by omega) true
      first | with_reducible refine ks [6] (And.intro uON_1 ( And.intro @i2 ( And.intro @r2 (@l2)))) ?_ | refine kp (And.intro uON_1 ( And.intro @i2 ( And.intro @r2 (@l2)))) ?_
      refine Ow.alloc rfl rfl Tryz.zr37 fun b4 hb4 hw4 => ?_
      simp only [cells_agg, List.nil_append, List.cons_append]
      obtain ⟨h4, -⟩ := hb4
      have hxl := (c.par.getD k id0).h
      refine ko uON_1 ?_
      refine Cw.regionS [bx, b4] [0, 2, 1, 3, 4, 5] [] (by kernel_rfl) (by kernel_rfl) (by kernel_rfl) ?_
      simp only [nl_cons, ↓pickL_nil, ↓pickL_cons, ↓nthO_0, ↓nthO_s, consO_some]
      refine kq (And.intro uON_1 @s3) ?_
      refine Ow.callFV rfl Tryz.call127 (fun w' hw' => ContainsId_spec v3 (c.par.take k) (c.par.getD k id0) w' (hv3.oldN hw' ⟨hwx, hw4, trivial⟩) (by rw [List.length_take]; omega)) ?_
      cases hq : (c.par.take k).any fun y => (c.par.getD k id0).l == y.l
      · have e1 : parOk c.par k = true := by unfold parOk; rw [hq]; rfl
        refine kq uON_1 ?_
        refine Cw.forgetN [(bx, .cells (comC c.tree p c.text).toArray 241 (0, 0))] (by exact ⟨hwx, hw4, trivial⟩) (by intro p hp; simp only [List.mem_cons, List.not_mem_nil, or_false] at hp ⊢; all_goals (first | (rcases hp with rfl | hp <;> simp_all) | (subst hp; simp) | simp_all)) (by simp [keys] <;> omega) ?_
        first | with_reducible refine ks [] uON_1 ?_ | refine kp uON_1 ?_
        exact Again.mk (k + 1) (by omega) ⟨by omega, fun i hi => by
          rcases Nat.lt_succ_iff_lt_or_eq.1 hi with h | rfl
          · exact h2 i h
          · exact e1⟩ rfl rfl
      · have e1 : parOk c.par k = false := by unfold parOk; rw [hq]; rfl
        rw [comOk_no hk e1]
        refine kq uON_1 ?_
        refine ⟨_, (ke uON_1), ⟨hwx, hw4, trivial⟩, ?_⟩
        rfl
    · obtain rfl : k = c.par.length := by omega
      rw [comOk_yes h2]
      by_cases h4 : c.par.length ≤ 4
      · have d1 : decide (((c.par.length : Nat) : Int) ≤ 4) = true := decide_eq_true (by omega)
        first | with_reducible refine ks [] (And.intro uON_1 ( And.intro @ln (@d1))) ?_ | refine kp (And.intro uON_1 ( And.intro @ln (@d1))) ?_
        refine ⟨_, (ke uON_1), ⟨hwx, trivial⟩, ?_⟩
        rw [show decide (c.par.length ≤ 4) = true from decide_eq_true h4, Bool.true_and]; exact congrArg Value.bool (decide_eq_decide.2 (by omega))
      · have d1 : decide (((c.par.length : Nat) : Int) ≤ 4) = false := decide_eq_false (by omega)
        first | with_reducible refine ks [] (And.intro uON_1 ( And.intro @ln (@d1))) ?_ | refine kp (And.intro uON_1 ( And.intro @ln (@d1))) ?_
        refine ⟨_, (ke uON_1), ⟨hwx, trivial⟩, ?_⟩
        rw [show decide (c.par.length ≤ 4) = false from decide_eq_false h4]; rfl
end Go.Proofs
end
section
open Go Go.Proofs Go.Sx Go.StP
namespace Go.Proofs
set_option maxRecDepth 10000
set_option maxHeartbeats 4000000
set_option linter.unusedSimpArgs false
set_option linter.defProp false
def uOO_1 := And.intro (And.intro (And.intro (@eqIdA) (@neIdA)) (And.intro (@load_idb) (And.intro (@rdIn_v8) (@rdIn_vi)))) (And.intro (And.intro (@load_com0) (@load_com1)) (And.intro (@load_com2) (And.intro (@load_com) (@cells_com))))
theorem any_snoc {l : List IdL} {k : Nat} {x : IdL} (hk : k < l.length) (h : ((l.take k).any fun y => x.l == y.l) = false) (h2 : (x.l == (l.getD k id0).l) = false) : ((l.take (k + 1)).any fun y => x.l == y.l) = false := by
  rw [take_snoc (z := id0) hk, List.any_append, h, Bool.false_or, List.any_cons, h2]; rfl
theorem any_yes {l : List IdL} {k i : Nat} {x : IdL} (hk : k < l.length) (hi : k < i) (h2 : (x.l == (l.getD k id0).l) = true) : ((l.take i).any fun y => x.l == y.l) = true := by
  rw [List.any_eq_true]
  refine ⟨l.getD k id0, ?_, h2⟩
  rw [← getD_take (l := l) (z := id0) hi]
  exact getD_mem (by rw [List.length_take]; omega)
theorem CommitRight_spec (v : Value) (c : ComL) (w : World) (hv : ComS w v c) (hl : c.par.length < 1000000) (ht : c.text.length < 1099511627776) :
    Rets Tryz.prog 188 #[v] w (fun v' D => v' = .bool (comOk c) ∧ D = []) := by
  obtain ⟨p, rfl, hp⟩ := hv
  obtain ⟨b, off, arr, E, fz, hr⟩ := hp.row
  have ln := hp.len
  refine Rets.enterV Tryz.func188 rfl (rs := [.tmp 2]) Tryz.results188 Tryz.ntmps188 ?_
  refine kf ?_
  first | with_reducible refine ks [] uOO_1 ?_ | refine kp uOO_1 ?_
  refine Ow.box rfl rfl fun bx hbx hwx => ?_
  simp only [ev_tmp, getF_0, getF_s, cells_agg, List.nil_append, List.cons_append]
  refine Ow.go rfl ?_
  simp (disch := (first | assumption | omega | (simp only [lenS, lenT, UInt64.reduceToNat]; try omega))) only [↓Sx.S0, Sx.S1, Tryz.fx, uOO_1, Nat.reduceAdd, Nat.reducePow, Int.reducePow, Nat.reduceBEq, ↓reduceIte, UInt8.reduceToNat, UInt16.reduceToNat, UInt32.reduceToNat, UInt64.reduceToNat, Int.reduceToNat]
  by_cases h4 : 4 < c.par.length
  · have d1 : decide (4 < ((c.par.length : Nat) : Int)) = true := decide_eq_true (by omega)
    first | with_reducible refine ks [] (And.intro uOO_1 ( And.intro @ln (@d1))) ?_ | refine kp (And.intro uOO_1 ( And.intro @ln (@d1))) ?_
    have : comOk c = false := by unfold comOk; rw [show decide (c.par.length ≤ 4) = false from decide_eq_false (by omega)]; rfl
    rw [this]
    refine ⟨_, (ke uOO_1), ⟨hwx, trivial⟩, ?_⟩
    rfl
  have d1 : decide (4 < ((c.par.length : Nat) : Int)) = false := decide_eq_false (by omega)
  by_cases h64 : 64 < c.text.length
  · have d2 : decide (64 < ((c.text.length : Nat) : Int)) = true := decide_eq_true (by omega)
    first | with_reducible refine ks [] (And.intro uOO_1 ( And.intro @ln ( And.intro @d1 (@d2)))) ?_ | refine kp (And.intro uOO_1 ( And.intro @ln ( And.intro @d1 (@d2)))) ?_
    have : comOk c = false := by unfold comOk; rw [show decide (c.text.length ≤ 64) = false from decide_eq_false (by omega), Bool.and_false]; rfl
    rw [this]
    refine ⟨_, (ke uOO_1), ⟨hwx, trivial⟩, ?_⟩
    rfl
  have d2 : decide (64 < ((c.text.length : Nat) : Int)) = false := decide_eq_false (by omega)
  first | with_reducible refine ks [] (And.intro uOO_1 ( And.intro @ln ( And.intro @d1 (@d2)))) ?_ | refine kp (And.intro uOO_1 ( And.intro @ln ( And.intro @d1 (@d2)))) ?_
  refine Cw.loopG (G := Nat) [15, 16, 17, 18, 19, 4, 22, 23, 24, 27, 28, 29, 30, 31, 32, 33, 34, 35, 36, 37, 2, 25, 26, 20, 21, 3] (fun g => [(3, vi g)]) (fun g => [(bx, .cells (comC c.tree p c.text).toArray 241 (0, 0))]) (fun g => g ≤ c.par.length ∧ ∀ i, i < g → parOk c.par i = true) (fun g => c.par.length - g) 0 rfl rfl ?_ ?_
  · exact ⟨Nat.zero_le _, fun i hi => absurd hi (Nat.not_lt_zero i)⟩
  · intro i ji hi
    refine kv ?_
    obtain ⟨h1, h2⟩ := hi
    by_cases hi : i < c.par.length
    · have h0 : 0 < c.par.length := by omega
      have hbl := hr.lt h0
      have hnb : bx ≠ b := by omega
      have r2 := hr.has h0
      have i2 := hr.idx true i hi
      have l2 := row_id hr hi
      first | with_reducible refine ks [] (And.intro uOO_1 @ln) ?_ | refine kp (And.intro uOO_1 @ln) ?_
      refine Cw.loopG (G := Nat) [22, 23, 24, 27, 28, 29, 30, 31, 32, 33, 34, 35, 36, 37, 2, 25, 26, 4] (fun g => [(4, vi g)]) (fun g => [(bx, .cells (comC c.tree p c.text).toArray 241 (0, 0))]) (fun g => g ≤ i ∧ ((c.par.take g).any fun y => (c.par.getD i id0).l == y.l) = false) (fun g => i - g) 0 rfl rfl ?_ ?_
      · exact ⟨Nat.zero_le _, rfl⟩
      · intro k jk hk
        refine kv ?_
        obtain ⟨g1, g2⟩ := hk
        by_cases hk : k < i
        · have i3 := hr.idx true k (show k < c.par.length by omega)
          have l3 := row_id hr (show k < c.par.length by omega)
          first | with_reducible refine ks [] uOO_1 ?_ | refine kp uOO_1 ?_
          refine Cw.regionS [bx, b] [0, 2, 5, 7, 1, 3, 4, 6, 8, 9, 10] [] (by kernel_rfl) (by kernel_rfl) (by kernel_rfl) ?_
          simp only [nl_cons, ↓pickL_nil, ↓pickL_cons, ↓nthO_0, ↓nthO_s, consO_some]
          refine kq (And.intro uOO_1 ( And.intro @i2 ( And.intro @r2 ( And.intro @l2 ( And.intro @i3 (@l3)))))) ?_
          cases hq : ((c.par.getD i id0).l == (c.par.getD k id0).l)
          · first | with_reducible refine ks [] (And.intro uOO_1 @hq) ?_ | refine kp (And.intro uOO_1 @hq) ?_
            exact Again.mk (k + 1) (by omega) ⟨by omega, any_snoc (by omega) g2 hq⟩ rfl rfl
          · have e1 : parOk c.par i = false := by unfold parOk; rw [any_yes (by omega) hk hq]; rfl
            rw [comOk_no hi e1]
            first | with_reducible refine ks [] (And.intro uOO_1 @hq) ?_ | refine kp (And.intro uOO_1 @hq) ?_
            refine ⟨_, (ke uOO_1), ⟨hwx, trivial⟩, ?_⟩
            rfl
        · obtain rfl : k = i := by omega
          have e1 : parOk c.par k = true := by unfold parOk; rw [g2]; rfl
          first | with_reducible refine ks [] uOO_1 ?_ | refine kp uOO_1 ?_
          exact Again.mk (k + 1) (by omega) ⟨by omega, fun i hi => by
            rcases Nat.lt_succ_iff_lt_or_eq.1 hi with h | rfl
            · exact h2 i h
            · exact e1⟩ rfl rfl
    · obtain rfl : i = c.par.length := by omega
      rw [comOk_yes h2, show decide (c.par.length ≤ 4) = true from decide_eq_true (by omega), show decide (c.text.length ≤ 64) = true from decide_eq_true (by omega)]
      first | with_reducible refine ks [] (And.intro uOO_1 @ln) ?_ | refine kp (And.intro uOO_1 @ln) ?_
      refine ⟨_, (ke uOO_1), ⟨hwx, trivial⟩, ?_⟩
      rfl
def comEq (a b : ComL) : Bool := (a.tree.l == b.tree.l) && (a.text == b.text) && decide (a.par = b.par)
end Go.Proofs
end
section
open Go Go.Proofs Go.Sx
namespace Go.Proofs
set_option maxRecDepth 10000
set_option maxHeartbeats 4000000
set_option linter.unusedSimpArgs false
/-! ### Numbers, texts and ids, as the law writes them -/
theorem clampN_nat {n : Nat} (h : n < 1099511627776) : clampN (n : Int) = n := by unfold clampN maxN; omega
theorem NumberR_spec : ∀ (k : Nat) (n : Int) (w : World), clampN n ≤ k →
    Rets Tryz.prog 91 #[vi n] w (fun v D => v = vs (numL (clampN n)) ∧ D = []) := by
  intro k
  induction k using Nat.strongRecOn with
  | ind k ih =>
    intro n w hk
    refine Rets.enterV Tryz.func91 rfl (rs := [.tmp 2]) Tryz.results91 Tryz.ntmps91 ?_
    refine kf ?_
    by_cases h0 : n < 0
    · have d1 : decide (n < 0) = true := decide_eq_true h0
      have e : clampN n = 0 := by unfold clampN maxN; omega
      rw [e]
      first | with_reducible refine ks [] @d1 ?_ | refine kp @d1 ?_
      refine Ow.buildSlice (e := 5) #[v8 0] rfl rfl (by kernel_rfl) fun b1 hb1 hw1 => ?_
      rw [show (#[v8 0] : Array Value) = a8 [0] from rfl]
      refine ko @Nat.add_zero ?_
      first | with_reducible refine ks [] @Nat.add_zero ?_ | refine kp @Nat.add_zero ?_
      refine ⟨_, (ke @Nat.add_zero), ⟨hw1, trivial⟩, ?_⟩
      rw [numL_small (by omega)]; rfl
    · have d1 : decide (n < 0) = false := decide_eq_false h0
      generalize hm : clampN n = m at hk ⊢
      have hm2 : m ≤ 1099511627775 := by unfold clampN maxN at hm; omega
      by_cases h1 : n > 1099511627775
      · have d2 : decide (1099511627775 < n) = true := decide_eq_true h1
        have e : (1099511627775 : Int) = (m : Int) := by unfold clampN maxN at hm; omega
        first | with_reducible refine ks [5] (And.intro @d1 @d2) ?_ | refine kp (And.intro @d1 @d2) ?_
        rw [e]
        by_cases h2 : m < 128
        · have d3 : decide ((m : Int) < 128) = true := decide_eq_true (by omega)
          rw [numL_small h2]
          first | with_reducible refine ks [] (And.intro @d1 @d3) ?_ | refine kp (And.intro @d1 @d3) ?_
          generalize hc : UInt8.ofInt (m : Int) = c
          have hc' : c = UInt8.ofNat m := by rw [← hc, byte_int]
          refine Ow.buildSlice (e := 5) #[v8 c] rfl rfl (by kernel_rfl) fun b1 hb1 hw1 => ?_
          rw [show (#[v8 c] : Array Value) = a8 [c] from rfl]
          have e4 : List.take 1 (List.drop 0 [c]) = [c] := rfl
          refine ko @e4 ?_
          first | with_reducible refine ks [] @Nat.add_zero ?_ | refine kp @Nat.add_zero ?_
          refine ⟨_, (ke @Nat.add_zero), ⟨hw1, trivial⟩, ?_⟩
          rw [hc']; rfl
        · have d3 : decide ((m : Int) < 128) = false := decide_eq_false (by omega)
          have ih2 := fun w => ih (m / 128) (by omega) ((m / 128 : Nat) : Int) w (by rw [clampN_nat (by omega)]; omega)
          rw [clampN_nat (by omega)] at ih2
          have hl2 := numL_len_lt 6 (m / 128) (by omega) (by omega)
          rw [numL_big h2]
          first | with_reducible refine ks [] (And.intro @d1 @d3) ?_ | refine kp (And.intro @d1 @d3) ?_
          refine Cw.regionK 11 (by kernel_rfl) (by kernel_rfl) ?_
          refine OwK.run [0, 1, 2, 3, 6, 7] [true, true, true, true, false, false, true, true, false, false, false] 5 rfl (by kernel_rfl) (by kernel_rfl) fun k hk => ?_
          simp only [nl_cons, ↓pickL_nil, ↓pickL_cons, ↓nthO_0, ↓nthO_s, consO_some]
          simp (disch := (first | assumption | omega | (simp only [lenS, lenT, UInt64.reduceToNat]; try omega))) only [↓Sx.S0, Sx.S1, Tryz.fx, Nat.reduceAdd, Nat.reducePow, Int.reducePow, Nat.reduceBEq, ↓reduceIte, UInt8.reduceToNat, UInt16.reduceToNat, UInt32.reduceToNat, UInt64.reduceToNat, Int.reduceToNat]
          (with_reducible refine hk _ _ _ ?_); clear hk k
          generalize hc : UInt8.ofInt ((m : Int) % 128 + 128) = c
          have hc' : c = UInt8.ofNat (m % 128 + 128) := by rw [← hc, show ((m : Int) % 128 + 128) = ((m % 128 + 128 : Nat) : Int) from rfl, byte_int]
          rw [show (m : Int) / 128 = ((m / 128 : Nat) : Int) from rfl]
          refine OwK.two 4 8 _ _ (by kernel_rfl) rfl rfl ?_ ?_
          · refine Ow.buildSlice (e := 5) #[v8 c] rfl rfl (by kernel_rfl) fun b1 hb1 hw1 => ?_
            rw [show (#[v8 c] : Array Value) = a8 [c] from rfl]
            have e4 : List.take 1 (List.drop 0 [c]) = [c] := rfl
            refine ko @e4 ?_
            try with_reducible refine Ow.nil ?_
            refine OwK.two 5 8 _ _ (by kernel_rfl) rfl rfl ?_ ?_
            · refine ko @e4 ?_
              refine OwK.rest [8, 9, 10] [4, 8] rfl (by kernel_rfl) (by kernel_rfl) ?_
              simp only [nl_cons, ↓pickL_nil, ↓pickL_cons, ↓nthO_0, ↓nthO_s, consO_some]
              refine Ow.callFV rfl Tryz.call91 (fun w' hw' => ih2 w') ?_
              refine ko @Nat.add_zero ?_
              first | with_reducible refine ks [] @Nat.add_zero ?_ | refine kp @Nat.add_zero ?_
              refine ⟨_, (ke @Nat.add_zero), ⟨hw1, trivial⟩, ?_⟩
              rw [hc']; rfl
            · refine Ow.callFV rfl Tryz.call91 (fun w' hw' => ih2 w') ?_
              refine ko @Nat.add_zero ?_
              refine OwK.rest [5, 9, 10] [4, 8] rfl (by kernel_rfl) (by kernel_rfl) ?_
              simp only [nl_cons, ↓pickL_nil, ↓pickL_cons, ↓nthO_0, ↓nthO_s, consO_some]
              refine ko @e4 ?_
              first | with_reducible refine ks [] @Nat.add_zero ?_ | refine kp @Nat.add_zero ?_
              refine ⟨_, (ke @Nat.add_zero), ⟨hw1, trivial⟩, ?_⟩
              rw [hc']; rfl
          · refine Ow.callFV rfl Tryz.call91 (fun w' hw' => ih2 w') ?_
            refine ko @Nat.add_zero ?_
            refine OwK.rest [4, 5, 9, 10] [4, 8] rfl (by kernel_rfl) (by kernel_rfl) ?_
            simp only [nl_cons, ↓pickL_nil, ↓pickL_cons, ↓nthO_0, ↓nthO_s, consO_some]
            refine Ow.buildSlice (e := 5) #[v8 c] rfl rfl (by kernel_rfl) fun b1 hb1 hw1 => ?_
            rw [show (#[v8 c] : Array Value) = a8 [c] from rfl]
            have e4 : List.take 1 (List.drop 0 [c]) = [c] := rfl
            refine ko @e4 ?_
            first | with_reducible refine ks [] @Nat.add_zero ?_ | refine kp @Nat.add_zero ?_
            refine ⟨_, (ke @Nat.add_zero), ⟨hw1, trivial⟩, ?_⟩
            rw [hc']; rfl
      · have d2 : decide (1099511627775 < n) = false := decide_eq_false h1
        have e : n = (m : Int) := by unfold clampN maxN at hm; omega
        subst e
        first | with_reducible refine ks [5] (And.intro @d1 @d2) ?_ | refine kp (And.intro @d1 @d2) ?_
        by_cases h2 : m < 128
        · have d3 : decide ((m : Int) < 128) = true := decide_eq_true (by omega)
          rw [numL_small h2]
          first | with_reducible refine ks [] (And.intro @d1 @d3) ?_ | refine kp (And.intro @d1 @d3) ?_
          generalize hc : UInt8.ofInt (m : Int) = c
          have hc' : c = UInt8.ofNat m := by rw [← hc, byte_int]
          refine Ow.buildSlice (e := 5) #[v8 c] rfl rfl (by kernel_rfl) fun b1 hb1 hw1 => ?_
          rw [show (#[v8 c] : Array Value) = a8 [c] from rfl]
          have e4 : List.take 1 (List.drop 0 [c]) = [c] := rfl
          refine ko @e4 ?_
          first | with_reducible refine ks [] @Nat.add_zero ?_ | refine kp @Nat.add_zero ?_
          refine ⟨_, (ke @Nat.add_zero), ⟨hw1, trivial⟩, ?_⟩
          rw [hc']; rfl
        · have d3 : decide ((m : Int) < 128) = false := decide_eq_false (by omega)
          have ih2 := fun w => ih (m / 128) (by omega) ((m / 128 : Nat) : Int) w (by rw [clampN_nat (by omega)]; omega)
          rw [clampN_nat (by omega)] at ih2
          have hl2 := numL_len_lt 6 (m / 128) (by omega) (by omega)
          rw [numL_big h2]
          first | with_reducible refine ks [] (And.intro @d1 @d3) ?_ | refine kp (And.intro @d1 @d3) ?_
          refine Cw.regionK 11 (by kernel_rfl) (by kernel_rfl) ?_
          refine OwK.run [0, 1, 2, 3, 6, 7] [true, true, true, true, false, false, true, true, false, false, false] 5 rfl (by kernel_rfl) (by kernel_rfl) fun k hk => ?_
          simp only [nl_cons, ↓pickL_nil, ↓pickL_cons, ↓nthO_0, ↓nthO_s, consO_some]
          simp (disch := (first | assumption | omega | (simp only [lenS, lenT, UInt64.reduceToNat]; try omega))) only [↓Sx.S0, Sx.S1, Tryz.fx, Nat.reduceAdd, Nat.reducePow, Int.reducePow, Nat.reduceBEq, ↓reduceIte, UInt8.reduceToNat, UInt16.reduceToNat, UInt32.reduceToNat, UInt64.reduceToNat, Int.reduceToNat]
          (with_reducible refine hk _ _ _ ?_); clear hk k
          generalize hc : UInt8.ofInt ((m : Int) % 128 + 128) = c
          have hc' : c = UInt8.ofNat (m % 128 + 128) := by rw [← hc, show ((m : Int) % 128 + 128) = ((m % 128 + 128 : Nat) : Int) from rfl, byte_int]
          rw [show (m : Int) / 128 = ((m / 128 : Nat) : Int) from rfl]
          refine OwK.two 4 8 _ _ (by kernel_rfl) rfl rfl ?_ ?_
          · refine Ow.buildSlice (e := 5) #[v8 c] rfl rfl (by kernel_rfl) fun b1 hb1 hw1 => ?_
            rw [show (#[v8 c] : Array Value) = a8 [c] from rfl]
            have e4 : List.take 1 (List.drop 0 [c]) = [c] := rfl
            refine ko @e4 ?_
            try with_reducible refine Ow.nil ?_
            refine OwK.two 5 8 _ _ (by kernel_rfl) rfl rfl ?_ ?_
            · refine ko @e4 ?_
              refine OwK.rest [8, 9, 10] [4, 8] rfl (by kernel_rfl) (by kernel_rfl) ?_
              simp only [nl_cons, ↓pickL_nil, ↓pickL_cons, ↓nthO_0, ↓nthO_s, consO_some]
              refine Ow.callFV rfl Tryz.call91 (fun w' hw' => ih2 w') ?_
              refine ko @Nat.add_zero ?_
              first | with_reducible refine ks [] @Nat.add_zero ?_ | refine kp @Nat.add_zero ?_
              refine ⟨_, (ke @Nat.add_zero), ⟨hw1, trivial⟩, ?_⟩
              rw [hc']; rfl
            · refine Ow.callFV rfl Tryz.call91 (fun w' hw' => ih2 w') ?_
              refine ko @Nat.add_zero ?_
              refine OwK.rest [5, 9, 10] [4, 8] rfl (by kernel_rfl) (by kernel_rfl) ?_
              simp only [nl_cons, ↓pickL_nil, ↓pickL_cons, ↓nthO_0, ↓nthO_s, consO_some]
              refine ko @e4 ?_
              first | with_reducible refine ks [] @Nat.add_zero ?_ | refine kp @Nat.add_zero ?_
              refine ⟨_, (ke @Nat.add_zero), ⟨hw1, trivial⟩, ?_⟩
              rw [hc']; rfl
          · refine Ow.callFV rfl Tryz.call91 (fun w' hw' => ih2 w') ?_
            refine ko @Nat.add_zero ?_
            refine OwK.rest [4, 5, 9, 10] [4, 8] rfl (by kernel_rfl) (by kernel_rfl) ?_
            simp only [nl_cons, ↓pickL_nil, ↓pickL_cons, ↓nthO_0, ↓nthO_s, consO_some]
            refine Ow.buildSlice (e := 5) #[v8 c] rfl rfl (by kernel_rfl) fun b1 hb1 hw1 => ?_
            rw [show (#[v8 c] : Array Value) = a8 [c] from rfl]
            have e4 : List.take 1 (List.drop 0 [c]) = [c] := rfl
            refine ko @e4 ?_
            first | with_reducible refine ks [] @Nat.add_zero ?_ | refine kp @Nat.add_zero ?_
            refine ⟨_, (ke @Nat.add_zero), ⟨hw1, trivial⟩, ?_⟩
            rw [hc']; rfl
theorem TextR_spec (s : List UInt8) (w : World) (hs : s.length < 1099511627776) :
    Rets Tryz.prog 92 #[vs s] w (fun v D => v = vs (textL s) ∧ D = []) := by
  have hnl := numL_clamp_len (s.length : Int)
  refine Rets.enterV Tryz.func92 rfl (rs := [.tmp 2]) Tryz.results92 Tryz.ntmps92 ?_
  refine kf ?_
  first | with_reducible refine ks [] @Nat.add_zero ?_ | refine kp @Nat.add_zero ?_
  refine Ow.callFV rfl Tryz.call91 (fun w' hw' => NumberR_spec _ _ w' (Nat.le_refl _)) ?_
  refine ko @Nat.add_zero ?_
  first | with_reducible refine ks [] @Nat.add_zero ?_ | refine kp @Nat.add_zero ?_
  refine ⟨_, (ke @Nat.add_zero), trivial, ?_⟩
  rfl
theorem IdR_spec (x : IdL) (w : World) :
    Rets Tryz.prog 93 #[.agg (a8 x.l)] w (fun v D => v = vs x.l ∧ D = []) := by
  have hxl := x.h
  refine Rets.enterV Tryz.func93 rfl (rs := [.tmp 2]) Tryz.results93 Tryz.ntmps93 ?_
  refine kf ?_
  first | with_reducible refine ks [] @Nat.add_zero ?_ | refine kp @Nat.add_zero ?_
  refine Ow.box rfl rfl fun bx hbx hwx => ?_
  simp only [ev_tmp, getF_0, getF_s, cells_agg, List.nil_append, List.cons_append]
  refine Ow.go rfl ?_
  simp (disch := (first | assumption | omega | (simp only [lenS, lenT, UInt64.reduceToNat]; try omega))) only [↓Sx.S0, Sx.S1, Tryz.fx, Nat.reduceAdd, Nat.reducePow, Int.reducePow, Nat.reduceBEq, ↓reduceIte, UInt8.reduceToNat, UInt16.reduceToNat, UInt32.reduceToNat, UInt64.reduceToNat, Int.reduceToNat]
  have e4 : List.take 32 (List.drop 0 x.l) = x.l := by rw [List.drop_zero, List.take_of_length_le (by omega)]
  first | with_reducible refine ks [] @e4 ?_ | refine kp @e4 ?_
  refine ⟨_, (ke @Nat.add_zero), ⟨hwx, trivial⟩, ?_⟩
  rfl
end Go.Proofs
end
section
open Go Go.Proofs Go.Sx Go.StP
namespace Go.Proofs
set_option maxRecDepth 10000
set_option maxHeartbeats 400000
set_option linter.unusedSimpArgs false
set_option linter.defProp false
def uOQ_1 := And.intro (And.intro (And.intro (@load_ent0) (@load_ent1)) (And.intro (@load_ent2) (@load_ent))) (And.intro (And.intro (@store_entr) (@cells_ent)) (And.intro (@rdIn_v8) (@rdIn_vi)))
/-- The bytes of an entry and of a tree. -/
def entB (e : EntL) : List UInt8 := (numL (clampN e.kind) ++ textL e.name) ++ e.id.l
def treeB (l : List EntL) : List UInt8 := (l.map entB).flatten
theorem treeB_snoc {l : List EntL} {k : Nat} (hk : k < l.length) : treeB (l.take (k + 1)) = treeB (l.take k) ++ entB (l.getD k ent0) := by
  unfold treeB
  rw [List.take_succ_eq_append_getElem hk, List.map_append, List.flatten_append, List.getD_eq_getElem?_getD, List.getElem?_eq_getElem hk]
  simp
theorem treeB_snoc' {l : List EntL} {k : Nat} (hk : k < l.length) : treeB (l.take (k + 1)) = treeB (l.take k) ++ numL (clampN (l.getD k ent0).kind) ++ textL (l.getD k ent0).name ++ (l.getD k ent0).id.l := by
  rw [treeB_snoc hk]; simp only [entB, List.append_assoc]
theorem textL_len {s : List UInt8} (h : s.length < 1099511627776) : (textL s).length < 1099511627783 := by
  have := numL_clamp_len (s.length : Int)
  unfold textL; rw [List.length_append]; omega
theorem treeB_len {l : List EntL} (hsh : ShortE l) : ∀ k, k ≤ l.length → (treeB (l.take k)).length ≤ k * 1099511627830
  | 0, _ => by simp [treeB]
  | k + 1, hk => by
    have ih := treeB_len hsh k (by omega)
    have h1 := textL_len (hsh k hk)
    have h2 := numL_clamp_len (l.getD k ent0).kind
    have h3 := (l.getD k ent0).id.h
    rw [treeB_snoc hk]
    unfold entB
    simp only [List.length_append]
    omega
theorem TreeBody_spec (v : Value) (l : List EntL) (w : World) (hv : EntS w v l) (hl : l.length < 1000000) (hsh : ShortE l) :
    Rets Tryz.prog 187 #[v] w (fun v' D => v' = vs (treeB l) ∧ D = []) := by
  obtain ⟨b, off, arr, E, fz, hr⟩ := hv.row
  have ln := hv.len
  refine Rets.enterV Tryz.func187 rfl (rs := [.tmp 2]) Tryz.results187 Tryz.ntmps187 ?_
  refine kf ?_
  first | with_reducible refine ks [] (And.intro uOQ_1 @ln) ?_ | refine kp (And.intro uOQ_1 @ln) ?_
  refine Cw.loopG (G := Nat) [5, 6, 7, 8, 11, 12, 13, 14, 15, 16, 17, 18, 19, 20, 21, 22, 23, 24, 25, 26, 27, 28, 29, 30, 31, 32, 3, 9, 10, 4] (fun g => [(3, vs (treeB (l.take g))), (4, vi g)]) (fun g => []) (fun g => g ≤ l.length) (fun g => l.length - g) 0 rfl rfl ?_ ?_
  · exact Nat.zero_le _
  · intro k jk hk
    refine kv ?_
    have h1 : k ≤ l.length := hk
    clear hk
    by_cases hk : k < l.length
    · have h0 : 0 < l.length := by omega
      have hbl := hr.lt h0
      have r2 := hr.has h0
      have i2 := hr.idx true k hk
      have m0 : ∀ n, loadV (some (false, n)) (some (.cells arr E fz)) (off + k * 34) = some (vs (l.getD k ent0).name) := fun n => row_ent0 hr hk n
      have m1 : ∀ n, loadV (some (false, n)) (some (.cells arr E fz)) (off + k * 34 + 1) = some (vi (l.getD k ent0).kind) := fun n => row_ent1 hr hk n
      have m2 : loadV (some (true, 32)) (some (.cells arr E fz)) (off + k * 34 + 2) = some (.agg (a8 (l.getD k ent0).id.l)) := row_ent2 hr hk
      have hs := hsh k hk
      have t1 := treeB_len hsh k h1
      have t2 := textL_len hs
      have t3 := numL_clamp_len (l.getD k ent0).kind
      have t4 := (l.getD k ent0).id.h
      first | with_reducible refine ks [] (And.intro uOQ_1 @ln) ?_ | refine kp (And.intro uOQ_1 @ln) ?_
      refine Cw.regionS [b] [0, 1, 2, 3, 4, 8, 9, 10, 11, 15, 16, 17, 18, 5, 12, 19, 6, 7, 13, 14, 20, 21, 22] [] (by kernel_rfl) (by kernel_rfl) (by kernel_rfl) ?_
      simp only [nl_cons, ↓pickL_nil, ↓pickL_cons, ↓nthO_0, ↓nthO_s, consO_some]
      refine kq (And.intro uOQ_1 ( And.intro @r2 ( And.intro @i2 ( And.intro @m0 ( And.intro @m1 (@m2)))))) ?_
      refine Ow.callFV rfl Tryz.call91 (fun w' hw' => NumberR_spec _ _ w' (Nat.le_refl _)) ?_
      refine kq (And.intro uOQ_1 ( And.intro @r2 ( And.intro @i2 ( And.intro @m0 ( And.intro @m1 (@m2)))))) ?_
      refine Ow.callFV rfl Tryz.call92 (fun w' hw' => TextR_spec _ w' hs) ?_
      refine kq (And.intro uOQ_1 ( And.intro @r2 ( And.intro @i2 ( And.intro @m0 ( And.intro @m1 (@m2)))))) ?_
      refine Ow.callFV rfl Tryz.call93 (fun w' hw' => IdR_spec _ w') ?_
      refine kq (And.intro uOQ_1 ( And.intro @r2 ( And.intro @i2 ( And.intro @m0 ( And.intro @m1 (@m2)))))) ?_
      exact Again.mk (k + 1) (by omega) (by omega) rfl (by rw [treeB_snoc' hk]; rfl)
    · obtain rfl : k = l.length := by omega
      first | with_reducible refine ks [] (And.intro uOQ_1 @ln) ?_ | refine kp (And.intro uOQ_1 @ln) ?_
      refine ⟨_, (ke uOQ_1), trivial, ?_⟩
      rw [List.take_length]; rfl
/-- The bytes of a commit. -/
def idsB (l : List IdL) : List UInt8 := (l.map IdL.l).flatten
theorem idsB_snoc {l : List IdL} {k : Nat} (hk : k < l.length) : idsB (l.take (k + 1)) = idsB (l.take k) ++ (l.getD k id0).l := by
  unfold idsB
  rw [List.take_succ_eq_append_getElem hk, List.map_append, List.flatten_append, List.getD_eq_getElem?_getD, List.getElem?_eq_getElem hk]
  simp
theorem idsB_len : ∀ (l : List IdL), (idsB l).length = l.length * 32
  | [] => rfl
  | x :: r => by
    have h := idsB_len r
    have := x.h
    unfold idsB at h ⊢
    rw [List.map_cons, List.flatten_cons, List.length_append, h, List.length_cons]
    omega
def comHd (c : ComL) : List UInt8 := c.tree.l ++ numL (clampN c.par.length)
def comB (c : ComL) : List UInt8 := comHd c ++ idsB c.par ++ textL c.text
set_option linter.defProp false
def uOQ_2 := And.intro (And.intro (And.intro (@eqIdA) (@neIdA)) (And.intro (@load_idb) (And.intro (@rdIn_v8) (@rdIn_vi)))) (And.intro (And.intro (@load_com0) (@load_com1)) (And.intro (@load_com2) (And.intro (@load_com) (@cells_com))))
theorem CommitBody_spec (v : Value) (c : ComL) (w : World) (hv : ComS w v c) (hl : c.par.length < 1000000) (ht : c.text.length < 1099511627776) :
    Rets Tryz.prog 189 #[v] w (fun v' D => v' = vs (comB c) ∧ D = []) := by
  obtain ⟨p, rfl, hp⟩ := hv
  obtain ⟨b, off, arr, E, fz, hr⟩ := hp.row
  have ln := hp.len
  have t2 := textL_len ht
  have t3 := numL_clamp_len (c.par.length : Int)
  have t4 := c.tree.h
  have t5 : (comHd c).length ≤ 38 := by unfold comHd; rw [List.length_append]; omega
  refine Rets.enterV Tryz.func189 rfl (rs := [.tmp 2]) Tryz.results189 Tryz.ntmps189 ?_
  refine kf ?_
  first | with_reducible refine ks [] uOQ_2 ?_ | refine kp uOQ_2 ?_
  refine Ow.box rfl rfl fun bx hbx hwx => ?_
  simp only [ev_tmp, getF_0, getF_s, cells_agg, List.nil_append, List.cons_append]
  refine Ow.go rfl ?_
  simp (disch := (first | assumption | omega | (simp only [lenS, lenT, UInt64.reduceToNat]; try omega))) only [↓Sx.S0, Sx.S1, Tryz.fx, uOQ_2, Nat.reduceAdd, Nat.reducePow, Int.reducePow, Nat.reduceBEq, ↓reduceIte, UInt8.reduceToNat, UInt16.reduceToNat, UInt32.reduceToNat, UInt64.reduceToNat, Int.reduceToNat]
  first | with_reducible refine ks [] (And.intro uOQ_2 @ln) ?_ | refine kp (And.intro uOQ_2 @ln) ?_
  refine Cw.regionS [bx] [0, 3, 1, 4, 5, 2, 6, 7, 8] [] (by kernel_rfl) (by kernel_rfl) (by kernel_rfl) ?_
  simp only [nl_cons, ↓pickL_nil, ↓pickL_cons, ↓nthO_0, ↓nthO_s, consO_some]
  refine kq (And.intro uOQ_2 @ln) ?_
  refine Ow.callFV rfl Tryz.call93 (fun w' hw' => IdR_spec _ w') ?_
  refine kq (And.intro uOQ_2 @ln) ?_
  refine Ow.callFV rfl Tryz.call91 (fun w' hw' => NumberR_spec _ _ w' (Nat.le_refl _)) ?_
  refine kq (And.intro uOQ_2 @ln) ?_
  rw [show c.tree.l ++ numL (clampN c.par.length) = comHd c ++ idsB (c.par.take 0) by simp [comHd, idsB]]
  refine Cw.loopG (G := Nat) [13, 14, 15, 16, 17, 20, 21, 22, 23, 24, 25, 26, 27, 3, 18, 19, 4] (fun g => [(3, vs (comHd c ++ idsB (c.par.take g))), (4, vi g)]) (fun g => [(bx, .cells (comC c.tree p c.text).toArray 241 (0, 0))]) (fun g => g ≤ c.par.length) (fun g => c.par.length - g) 0 rfl rfl ?_ ?_
  · exact Nat.zero_le _
  · intro k jk hk
    refine kv ?_
    have h1 : k ≤ c.par.length := hk
    clear hk
    have t6 := idsB_len (c.par.take k)
    rw [List.length_take, Nat.min_eq_left h1] at t6
    by_cases hk : k < c.par.length
    · have h0 : 0 < c.par.length := by omega
      have hbl := hr.lt h0
      have hnb : bx ≠ b := by omega
      have r2 := hr.has h0
      have i2 := hr.idx true k hk
      have l2 := row_id hr hk
      have hxl := (c.par.getD k id0).h
      first | with_reducible refine ks [] (And.intro uOQ_2 ( And.intro @ln ( And.intro @r2 ( And.intro @i2 (@l2))))) ?_ | refine kp (And.intro uOQ_2 ( And.intro @ln ( And.intro @r2 ( And.intro @i2 (@l2))))) ?_
      refine Ow.callFV rfl Tryz.call93 (fun w' hw' => IdR_spec _ w') ?_
      refine ko (And.intro uOQ_2 ( And.intro @ln ( And.intro @r2 ( And.intro @i2 (@l2))))) ?_
      exact Again.mk (k + 1) (by omega) (by omega) rfl (by rw [idsB_snoc hk, ← List.append_assoc]; rfl)
    · obtain rfl : k = c.par.length := by omega
      rw [List.take_length]
      rw [List.take_length] at t6
      first | with_reducible refine ks [] (And.intro uOQ_2 @ln) ?_ | refine kp (And.intro uOQ_2 @ln) ?_
      refine Ow.callFV rfl Tryz.call92 (fun w' hw' => TextR_spec _ w' ht) ?_
      refine ko uOQ_2 ?_
      refine ⟨_, (ke uOQ_2), ⟨hwx, trivial⟩, ?_⟩
      rfl
end Go.Proofs
end
section
open Go Go.Proofs Go.Sx Go.StP
namespace Go.Proofs
set_option maxRecDepth 10000
set_option maxHeartbeats 400000
set_option linter.unusedSimpArgs false
instance : DecidableEq EntL := fun a b => if h : a.name = b.name ∧ a.kind = b.kind ∧ a.id.l = b.id.l then .isTrue (by cases a; cases b; simp only at h; obtain ⟨rfl, rfl, h3⟩ := h; rw [IdL.ext' h3]) else .isFalse (fun e => h (by rw [e]; exact ⟨rfl, rfl, rfl⟩))
theorem EntL.ext' {a b : EntL} (h : (a.name == b.name && a.kind == b.kind && a.id.l == b.id.l) = true) : a = b := by
  simp only [Bool.and_eq_true, beq_iff_eq] at h
  cases a; cases b; simp only at h; obtain ⟨⟨rfl, rfl⟩, h3⟩ := h; rw [IdL.ext' h3]
set_option linter.defProp false
def uOR_1 := And.intro (And.intro (And.intro (@load_ent0) (@load_ent1)) (And.intro (@load_ent2) (@load_ent))) (And.intro (And.intro (@store_entr) (@cells_ent)) (And.intro (@rdIn_v8) (And.intro (@rdIn_vi) (@neEnt))))
end Go.Proofs
end
namespace Go.Sx
open Go
section
variable {α : Type} {m : Nat} {enc : α → List Value} {z : α} {w : World} {v : Value} {l : List α}
end
section
variable {P : Program} {w0 : World} {f : Fr} {L : Heap} {N : Fr → Heap → Prop} {ops : Array Oper} {rest : List Oper} {md : Md} {d : Option Tmp} {ty : TypeId} {ps : String} {af : Array Edge} {g : Option (Nat × Bool)}
/-- A function value of one argument, to which a chunk is handed. -/
theorem Ow.callFnX {x y : Operand} {b : Value} {ts : Array TypeId} {k : FuncId} {X Y : Heap} {S : Value → Heap → Prop} {md' : Md} (hL : L = X ++ Y) (he : md.turn = some md')
    (hs : skipped ops f ⟨d, .call ⟨.value x, #[y], ts⟩, ty, ps, af, g⟩ = false)
    (hx : ev f x = .func (.func k) #[] #[]) (hy : ev f y = b)
    (hk : ∀ a w, (callFunc k a).run P w = .ok (.enter k a) w)
    (hc : ∀ w, Hp w0 L w → (∀ p, p ∈ X → w.heap[p.1]? = some p.2) → (keys X).Nodup → Rets P k #[b] w (XS w X S))
    (hn : ∀ v D, Came w0 L X D → S v D → Ow P w0 ops md' rest (putF f d v) (D ++ Y) N) :
    Ow P w0 ops md (⟨d, .call ⟨.value x, #[y], ts⟩, ty, ps, af, g⟩ :: rest) f L N := by
  subst hL
  have hnd : ∀ w, Hp w0 (X ++ Y) w → (keys X).Nodup ∧ ∀ c, c ∈ keys Y → c ∉ keys X := by
    intro w hw
    have := hw.nodup
    rw [keys_app, List.nodup_append] at this
    exact ⟨this.1, fun c hc hx => this.2.2 c hx c hc rfl⟩
  refine Ow.call (S := fun B v D => ((∀ c, c ∈ keys D → c ∈ keys X ∨ B ≤ c) ∧ (∀ c, c ∈ keys X → c ∈ keys D) ∧ S v D) ∧ ∃ w, Hp w0 (X ++ Y) w ∧ w.heap.size = B) he hs hx hk (fun w hw => ?_) ?_
  · show Rets P k (#[] ++ #[y].map (ev f) ++ #[]) w _
    rw [show (#[] ++ #[y].map (ev f) ++ #[] : Array Value) = #[b] by simp [hy]]
    refine Calls.mono (hc w hw (fun p hp => hw.has _ _ (List.mem_append_left _ hp)) (hnd w hw).1) ?_
    rintro e w' ⟨v, D, he, hp, hS⟩
    exact ⟨v, D, he, hp, ⟨hS.1.new, hS.1.all, hS.2⟩, w, hw, rfl⟩
  · rintro B v D hab hB ⟨⟨h1, h2, h3⟩, w1, hw1, hwB⟩
    refine ⟨D ++ Y, ?_, hn v D ⟨fun c hc => (h1 c hc).imp id fun h => ⟨above_of fun b hb => by have := hw1.lt hb; omega, by have := hw1.size; omega⟩, h2⟩ h3⟩
    intro w w' hwb h k
    have ht := h.trans k
    have hY : ∀ c, c ∈ keys Y → c ∉ keys D := by
      intro c hc hd
      rcases h1 c hd with hx | hx
      · exact (hnd w h).2 c hc hx
      · have := h.lt (b := c) (by rw [keys_app]; exact List.mem_append_right _ hc)
        omega
    have e1 : X.filter (fun p => !(keys D).contains p.1) = [] := by
      rw [List.filter_eq_nil_iff]
      intro p hp
      have := h2 p.1 (List.mem_map.2 ⟨p, hp, rfl⟩)
      simpa using this
    have e2 : Y.filter (fun p => !(keys D).contains p.1) = Y := filter_keys_all hY
    rw [List.filter_append, e1, e2, List.nil_append] at ht
    refine ht.same (fun p => by simp [or_comm]) ?_
    have := ht.nodup
    rw [keys_app] at this ⊢
    exact (List.perm_append_comm.nodup_iff).1 this
end
section
variable {P : Program} {w0 : World} {f : Fr} {L : Heap} {K : Kont}
/-- In the world of the moment. -/
theorem Cw.world {c : Code} (h : ∀ w, Hp w0 L w → Cw P w0 c f L K) : Cw P w0 c f L K := fun w hw => h w hw w hw
/-- What the world of the moment holds where the list of blocks does. -/
theorem Gr.read {E : TypeId} {m n : Nat} {v : Value} {cs : List Value} (h : Gr L E m v n cs) {b : Nat} (hb : slB v = some b) {w : World} (hw : Hp w0 L w) {o : Obj} (ho : w.heap[b]? = some o) : readB w0 L b = some o := by
  obtain ⟨a, ha⟩ := h.at_ hb
  rw [hw.has _ _ (look_mem ha)] at ho
  rw [read_look ha]; exact ho
end
end Go.Sx

section
open Go Go.Proofs Go.Sx Go.StP
namespace Go.Proofs
set_option maxRecDepth 10000
set_option maxHeartbeats 400000
set_option linter.unusedSimpArgs false
/-! ### Entries and ids, read -/
def mkIdE (l : List UInt8) : IdL := if h : l.length = 32 then ⟨l, h⟩ else id0
theorem mkIdE_eq {l : List UInt8} (h : l.length = 32) : (mkIdE l).l = l := by unfold mkIdE; rw [dif_pos h]
theorem idE_len (s : List UInt8) (a : Nat) (e : Int) : (idR s a e).1.length = 32 := by
  unfold idR
  simp only
  split
  · assumption
  · simp [z32]
theorem idE_le {s : List UInt8} {a : Nat} {e : Int} (ha : a ≤ s.length) : a ≤ (idR s a e).2.1 ∧ (idR s a e).2.1 ≤ s.length := rawR_le ha
theorem textE_le {s : List UInt8} {a : Nat} {e most : Int} (ha : a ≤ s.length) : a ≤ (textR s a e most).2.1 ∧ (textR s a e most).2.1 ≤ s.length := by
  have hp := numR_le (e := e) (most := most) ha
  have hq := rawR_le (e := (numR s a e most).2.2) (n := (numR s a e most).1) hp.2
  unfold textR
  simp only
  split
  · exact ⟨Nat.le_refl _, ha⟩
  · exact ⟨by omega, hq.2⟩
theorem textE_len (s : List UInt8) (a : Nat) (e most : Int) : (textR s a e most).1.length ≤ s.length := by
  have : ∀ (b : Nat) (e n : Int), (rawR s b e n).1.length ≤ s.length := by
    intro b e n
    unfold rawR
    split
    · simp
    · split
      · simp
      · split
        · simp
        · simp only [List.length_take, List.length_drop]; omega
  unfold textR
  simp only
  split
  · simp
  · exact this _ _ _
/-- An error stays; none is 5. -/
theorem rawR_e {s : List UInt8} {a : Nat} {e n : Int} (he : e ≠ 0) : (rawR s a e n).2 = (a, e) := by unfold rawR; rw [if_pos he]
theorem numR_e {s : List UInt8} {a : Nat} {e most : Int} (he : e ≠ 0) : (numR s a e most).2 = (a, e) := by unfold numR; rw [if_pos he]
theorem textR_e {s : List UInt8} {a : Nat} {e most : Int} (he : e ≠ 0) : (textR s a e most).2 = (a, e) := by
  unfold textR
  simp only [numR_e he, rawR_e he]
  rw [if_pos he]
theorem idR_e {s : List UInt8} {a : Nat} {e : Int} (he : e ≠ 0) : (idR s a e).2 = (a, e) := by unfold idR; simp only [rawR_e he]
theorem rawR_5 {s : List UInt8} {a : Nat} {e n : Int} (h : e ≠ 5) : (rawR s a e n).2.2 ≠ 5 := by
  unfold rawR
  split
  · exact h
  · split
    · show (2 : Int) ≠ 5; decide
    · split
      · show (3 : Int) ≠ 5; decide
      · show (0 : Int) ≠ 5; decide
theorem numGo_5 (most : Int) : ∀ (l : List UInt8) (k n x : Nat), numGo most l k n = .error x → x ≠ 5 := by
  intro l
  induction l with
  | nil => intro k n x h; unfold numGo at h; cases h; decide
  | cons c r ih =>
    intro k n x h
    unfold numGo at h
    split at h
    · split at h
      · cases h; decide
      · exact ih _ _ _ h
    · split at h
      · cases h; decide
      · split at h
        · cases h
        · cases h; decide
theorem numGo_0 (most : Int) : ∀ (l : List UInt8) (k n : Nat), numGo most l k n ≠ .error 0 := by
  intro l
  induction l with
  | nil => intro k n h; unfold numGo at h; cases h
  | cons c r ih =>
    intro k n h
    unfold numGo at h
    split at h
    · split at h
      · cases h
      · exact ih _ _ h
    · split at h
      · cases h
      · split at h
        · cases h
        · cases h
theorem numR_5 {s : List UInt8} {a : Nat} {e most : Int} (h : e ≠ 5) : (numR s a e most).2.2 ≠ 5 := by
  unfold numR
  split
  · exact h
  · split
    · show (0 : Int) ≠ 5; decide
    · rename_i x hx
      have := numGo_5 _ _ _ _ _ hx
      show ((x : Nat) : Int) ≠ 5
      omega
theorem textR_5 {s : List UInt8} {a : Nat} {e most : Int} (h : e ≠ 5) : (textR s a e most).2.2 ≠ 5 := by
  unfold textR
  simp only
  split
  · exact rawR_5 (numR_5 h)
  · exact rawR_5 (numR_5 h)
theorem idR_5 {s : List UInt8} {a : Nat} {e : Int} (h : e ≠ 5) : (idR s a e).2.2 ≠ 5 := by unfold idR; exact rawR_5 h
/-- A number that was read takes a byte at least. -/
theorem numR_up {s : List UInt8} {a : Nat} {e most : Int} (h : (numR s a e most).2.2 = 0) : a < (numR s a e most).2.1 := by
  unfold numR at h ⊢
  split
  · rename_i he
    rw [if_pos he] at h
    exact absurd h he
  · rename_i he
    rw [if_neg he] at h
    split
    · rename_i n k hk
      have := numGo_le _ _ _ _ _ _ hk
      show a < a + k
      omega
    · rename_i x hx
      rw [hx] at h
      exfalso
      have : x = 0 := by have : ((x : Nat) : Int) = 0 := h; omega
      subst this
      exact numGo_0 _ _ _ _ hx
/-- An entry. -/
def entR (s : List UInt8) (a : Nat) (e : Int) : EntL × Nat × Int :=
  let p := numR s a e 2
  let q := textR s p.2.1 p.2.2 32
  let i := idR s q.2.1 q.2.2
  (⟨q.1, p.1, mkIdE i.1⟩, i.2)
theorem entR_le {s : List UInt8} {a : Nat} {e : Int} (ha : a ≤ s.length) : a ≤ (entR s a e).2.1 ∧ (entR s a e).2.1 ≤ s.length := by
  have h1 := numR_le (e := e) (most := 2) ha
  have h2 := textE_le (e := (numR s a e 2).2.2) (most := 32) h1.2
  have h3 := idE_le (e := (textR s (numR s a e 2).2.1 (numR s a e 2).2.2 32).2.2) h2.2
  unfold entR
  exact ⟨by simp only; omega, h3.2⟩
theorem entR_5 {s : List UInt8} {a : Nat} {e : Int} (h : e ≠ 5) : (entR s a e).2.2 ≠ 5 := idR_5 (textR_5 (numR_5 h))
theorem entR_up {s : List UInt8} {a : Nat} {e : Int} (ha : a ≤ s.length) (h : (entR s a e).2.2 = 0) : a < (entR s a e).2.1 := by
  have h1 := numR_le (e := e) (most := 2) ha
  have h2 := textE_le (e := (numR s a e 2).2.2) (most := 32) h1.2
  have h3 := idE_le (e := (textR s (numR s a e 2).2.1 (numR s a e 2).2.2 32).2.2) h2.2
  unfold entR at h ⊢
  simp only at h ⊢
  have e2 : (textR s (numR s a e 2).2.1 (numR s a e 2).2.2 32).2.2 = 0 := Decidable.byContradiction fun hn => by rw [idR_e hn] at h; exact hn h
  have e1 : (numR s a e 2).2.2 = 0 := Decidable.byContradiction fun hn => by rw [textR_e hn] at e2; exact hn e2
  have := numR_up e1
  omega
/-- Entries up to the end, or to an error. -/
def entsGo (s : List UInt8) : Nat → Nat → Int → List EntL → List EntL × Nat × Int
  | 0, a, e, l => (l, a, e)
  | n + 1, a, e, l => if e = 0 ∧ a < s.length then entsGo s n (entR s a e).2.1 (entR s a e).2.2 (l ++ [(entR s a e).1]) else (l, a, e)
theorem entsGo_on {s : List UInt8} {n a : Nat} {e : Int} {l : List EntL} (h : e = 0 ∧ a < s.length) : entsGo s (n + 1) a e l = entsGo s n (entR s a e).2.1 (entR s a e).2.2 (l ++ [(entR s a e).1]) := by rw [entsGo, if_pos h]
theorem entsGo_end {s : List UInt8} {n a : Nat} {e : Int} {l : List EntL} (h : ¬ (e = 0 ∧ a < s.length)) : entsGo s n a e l = (l, a, e) := by
  cases n with
  | zero => rfl
  | succ n => rw [entsGo, if_neg h]
def entsE (s : List UInt8) : List EntL × Nat × Int := entsGo s (s.length + 1) 0 0 []
/-- What holds when so many rounds are left. -/
structure EntsJ (s : List UInt8) (n a : Nat) (e : Int) (l : List EntL) : Prop where
  go : entsE s = entsGo s n a e l
  le : a ≤ s.length
  five : e ≠ 5
  fuel : e = 0 → s.length < a + n
  cnt : l.length + n = s.length + 1
  short : ∀ i, i < l.length → (l.getD i ent0).name.length ≤ s.length
theorem EntsJ.init (s : List UInt8) : EntsJ s (s.length + 1) 0 0 [] := ⟨rfl, Nat.zero_le _, by decide, fun _ => by omega, by simp, fun i hi => by simp at hi⟩
theorem EntsJ.next {s : List UInt8} {n a : Nat} {e : Int} {l : List EntL} (h : EntsJ s n a e l) (hc : e = 0 ∧ a < s.length) : ∃ m, n = m + 1 ∧ EntsJ s m (entR s a e).2.1 (entR s a e).2.2 (l ++ [(entR s a e).1]) := by
  have := h.fuel hc.1
  obtain ⟨m, rfl⟩ : ∃ m, n = m + 1 := ⟨n - 1, by omega⟩
  refine ⟨m, rfl, h.go.trans (entsGo_on hc), (entR_le h.le).2, entR_5 h.five, fun h0 => ?_, ?_, fun i hi => ?_⟩
  · have := entR_up h.le h0; omega
  · have := h.cnt; simp only [List.length_append, List.length_cons, List.length_nil]; omega
  · by_cases hlt : i < l.length
    · rw [getD_app_l hlt]; exact h.short i hlt
    · have : i = l.length := by simp only [List.length_append, List.length_cons, List.length_nil] at hi; omega
      subst this
      rw [getD_app_r (Nat.le_refl _), Nat.sub_self]
      exact textE_len _ _ _ _
theorem EntsJ.done {s : List UInt8} {n a : Nat} {e : Int} {l : List EntL} (h : EntsJ s n a e l) (hc : ¬ (e = 0 ∧ a < s.length)) : entsE s = (l, a, e) := h.go.trans (entsGo_end hc)
theorem EntsJ.sh {s : List UInt8} {n a : Nat} {e : Int} {l : List EntL} (h : EntsJ s n a e l) (hs : s.length < 1000000) : ShortE l := fun i hi => by have := h.short i hi; omega
end Go.Proofs
end
section
open Go Go.Proofs Go.Sx Go.StP
namespace Go.Proofs
set_option maxRecDepth 10000
set_option maxHeartbeats 400000
set_option linter.unusedSimpArgs false
/-! ### Entries, as the law reads them -/
theorem build_ent00 : buildV (plcT Tryz.prog 268) (zeroV Tryz.prog 268) [] = some (.agg (entC ent0).toArray) := by
  rw [show plcT Tryz.prog 268 = some [(0, 1), (1, 1), (2, 32)] from id (by kernel_rfl), zrEnt]; rfl
theorem build_rdr (s : List UInt8) : buildV (plcT Tryz.prog 166) (zeroV Tryz.prog 166) [(0, vs s)] = some (.agg #[vs s, vi 0, vi 0]) := by
  have hp : plcT Tryz.prog 166 = some [(0, 1), (1, 1), (2, 1)] := id (by kernel_rfl)
  have hz : zeroV Tryz.prog 166 = some (.agg #[vs [], vi 0, vi 0]) := id (by kernel_rfl)
  rw [hp, hz]; rfl
def readE (s : List UInt8) : Option (List EntL) := if (entsE s).2.2 = 0 ∧ entsOk (entsE s).1 = true ∧ treeB (entsE s).1 = s then some (entsE s).1 else none
def ReadES (s : List UInt8) (v : Value) (D : Heap) : Prop :=
  match readE s with
  | some l => ∃ v1, v = .tuple #[v1, .bool true] ∧ Gr D 268 34 v1 l.length (l.map entC).flatten
  | none => v = .tuple #[.slice none 0 0, .bool false]
structure EnG where
  n : Nat
  a : Nat
  e : Int
  l : List EntL
  v : Value
  D : Heap
set_option linter.defProp false
def uOU_1 := And.intro (And.intro (And.intro (@load_rd0) (And.intro (@load_rd1) (@load_rd2))) (And.intro (@store_rd1) (And.intro (@store_rd2) (@load_ent)))) (And.intro (And.intro (@store_ent0) (And.intro (@store_ent1) (@store_ent2))) (And.intro (And.intro (@store_entr) (@cells_ent)) (And.intro (@rdIn_v8) (@rdIn_vi))))
theorem EntriesR_spec (s : List UInt8) (w : World) (hs : s.length < 100000) :
    Rets Tryz.prog 165 #[vs s] w (XS w [] (ReadES s)) := by
  refine Rets.enterX Tryz.func165 rfl (rs := [.tmp 2, .tmp 3]) Tryz.results165 Tryz.ntmps165 (fun p hp => by cases hp) (by simp [keys]) ?_
  refine kf ?_
  first | with_reducible refine ks [] uOU_1 ?_ | refine kp uOU_1 ?_
  refine Ow.build ((.agg #[vs s, vi 0, vi 0])) rfl (by kernel_rfl) ?_
  refine ko uOU_1 ?_
  refine Ow.box rfl rfl fun br hbr hwr => ?_
  simp only [ev_tmp, getF_0, getF_s, cells_agg, List.nil_append]
  refine ko uOU_1 ?_
  refine Cw.loopG (G := EnG) [10, 11, 12, 13, 14, 15, 16, 17, 18, 19, 20, 21, 22, 23, 24, 6, 25, 26, 27, 28, 29, 30, 31, 32, 33, 34, 35, 36, 37, 5] (fun q => [(5, q.v)]) (fun q => (br, .cells #[vs s, vi q.a, vi q.e] 166 (0, 0)) :: q.D) (fun q => EntsJ s q.n q.a q.e q.l ∧ New (br + 1) q.D ∧ Gr q.D 268 34 q.v q.l.length (q.l.map entC).flatten) (fun q => q.n) ⟨s.length + 1, 0, 0, [], .slice none 0 0, []⟩ rfl rfl ?_ ?_
  · exact ⟨EntsJ.init s, trivial, Gr.nl⟩
  · intro q jq hq
    refine kv ?_
    obtain ⟨n, a, e, l, v, D⟩ := q
    simp only at hq ⊢
    obtain ⟨hJ, hN, hG⟩ := hq
    have hle := hJ.le
    by_cases hc : e = 0 ∧ a < s.length
    · obtain ⟨m, rfl, hJ'⟩ := hJ.next hc
      obtain ⟨he, hlt⟩ := hc
      have d1 : (e == 0) = true := by simp [he]
      have d2 : decide ((a : Int) < (s.length : Int)) = true := decide_eq_true (by omega)
      have hp := numR_le (e := e) (most := 2) hle
      have hq := textE_le (e := (numR s a e 2).2.2) (most := 32) hp.2
      have heq : entR s a e = (⟨(textR s (numR s a e 2).2.1 (numR s a e 2).2.2 32).1, (numR s a e 2).1, mkIdE (idR s (textR s (numR s a e 2).2.1 (numR s a e 2).2.2 32).2.1 (textR s (numR s a e 2).2.1 (numR s a e 2).2.2 32).2.2).1⟩, (idR s (textR s (numR s a e 2).2.1 (numR s a e 2).2.2 32).2.1 (textR s (numR s a e 2).2.1 (numR s a e 2).2.2 32).2.2).2) := rfl
      have hil := idE_len s (textR s (numR s a e 2).2.1 (numR s a e 2).2.2 32).2.1 (textR s (numR s a e 2).2.1 (numR s a e 2).2.2 32).2.2
      first | with_reducible refine ks [] (And.intro uOU_1 ( And.intro @d1 (@d2))) ?_ | refine kp (And.intro uOU_1 ( And.intro @d1 (@d2))) ?_
      refine Ow.build (.agg (entC ent0).toArray) rfl build_ent00 ?_
      refine ko uOU_1 ?_
      refine Ow.alloc rfl rfl zrEnt fun b6 hb6 hw6 => ?_
      simp only [cells_agg, List.nil_append, List.cons_append]
      have hr6 : br < b6 := above_to hb6 (by simp [keys])
      refine Ow.permL (M := (b6, Obj.cells (entC ent0).toArray 268 (0, 0)) :: (br, .cells #[vs s, vi a, vi e] 166 (0, 0)) :: D) (by classical exact List.perm_iff_count.2 fun a => by simp only [List.count_append, List.count_cons, List.count_nil] <;> omega) ?_
      refine ko uOU_1 ?_
      refine Ow.callM rfl rfl Tryz.call98 (by simp [keys]) (fun w' hw' => refNumber_spec br s a e 2 w' hle (by omega) (hw'.has _ _ (List.mem_cons_of_mem _ List.mem_cons_self))) ?_
      generalize numR s a e 2 = p at *
      obtain ⟨kd, a1, e1⟩ := p
      simp only at hp hq heq hil ⊢
      refine kn ?_
      refine ko uOU_1 ?_
      first | with_reducible refine ks [] uOU_1 ?_ | refine kp uOU_1 ?_
      refine Ow.callM rfl rfl Tryz.call99 (by simp [keys]) (fun w' hw' => refText_spec br s a1 e1 32 w' hp.2 (by omega) (hw'.has _ _ (List.mem_cons_of_mem _ List.mem_cons_self))) ?_
      generalize textR s a1 e1 32 = q at *
      obtain ⟨tt, a2, e2⟩ := q
      simp only at hq heq hil ⊢
      refine kn ?_
      refine ko uOU_1 ?_
      first | with_reducible refine ks [] uOU_1 ?_ | refine kp uOU_1 ?_
      refine Ow.callM rfl rfl Tryz.call101 (by simp [keys]) (fun w' hw' => refId_spec br s a2 e2 w' hq.2 (by omega) (hw'.has _ _ (List.mem_cons_of_mem _ List.mem_cons_self))) ?_
      generalize idR s a2 e2 = i at *
      obtain ⟨il, a3, e3⟩ := i
      simp only at heq hil ⊢
      obtain ⟨I, hI⟩ : ∃ I, mkIdE il = I := ⟨_, rfl⟩
      have hiI : il = I.l := by rw [← hI, mkIdE_eq hil]
      rw [hI] at heq
      rw [hiI]
      refine kn ?_
      refine ko uOU_1 ?_
      generalize hx : ({ name := tt, kind := kd, id := I } : EntL) = x
      rw [hx] at heq
      rw [heq] at hJ'
      refine Ow.buildSlice (e := 268) (entC x).toArray rfl rfl (slice_one Tryz.underlying237 aggEnt zrEnt (by decide) (entC_len x)) fun b13 hb13 hw13 => ?_
      have hr13 : br < b13 := above_to hb13 (by simp [keys])
      refine Ow.permL (M := D ++ ((b6, Obj.cells (entC x).toArray 268 (0, 0)) :: (br, .cells #[vs s, vi a3, vi e3] 166 (0, 0)) :: [(b13, Obj.cells (entC x).toArray 268 (0, 0))])) (by classical exact List.perm_iff_count.2 fun a => by simp only [List.count_append, List.count_cons, List.count_nil] <;> omega) ?_
      refine ko uOU_1 ?_
      refine Ow.appendX (e := 268) (k := 1) (new := entC x) (X := D) v rfl rfl rfl rfl Tryz.underlying237 aggEnt (by kernel_rfl) zrEnt (by rw [cells_ent, List.size_toArray, entC_len]) Tryz.underlying237 (by intro k h; cases h) hG (fun w' hw' => AppX.one1 (hw'.has b13 (.cells (entC x).toArray 268 (0, 0)) (by simp)) (entC_len _) (entC_one _)) (by omega) (by have := hJ.cnt; omega) (fun B v4 D4 hA4 hB4 hbuf hk1 hk2 hlk => ?_)
      have hB13 : b13 < B := above_to hA4 (by simp [keys_app, keys])
      have hN4 : New (br + 1) D4 := New.of_le fun q hq => by
        rcases hk2 q hq with h | h
        · exact hN.le q h
        · omega
      refine Ow.permL (M := (br, .cells #[vs s, vi a3, vi e3] 166 (0, 0)) :: (D4 ++ [(b6, Obj.cells (entC x).toArray 268 (0, 0)), (b13, Obj.cells (entC x).toArray 268 (0, 0))])) (by classical exact List.perm_iff_count.2 fun a => by simp only [List.count_append, List.count_cons, List.count_nil] <;> omega) ?_
      refine ko uOU_1 ?_
      refine Again.mk (EnG.mk m a3 e3 (l ++ [x]) v4 (D4 ++ [(b6, Obj.cells (entC x).toArray 268 (0, 0)), (b13, Obj.cells (entC x).toArray 268 (0, 0))])) (by show m < m + 1; omega) ⟨hJ', hN4.app ⟨by omega, by omega, trivial⟩, ?_⟩ rfl rfl
      show Gr _ _ _ _ (l ++ [x]).length ((l ++ [x]).map entC).flatten
      rw [List.length_append, List.map_append, List.flatten_append, show ([x].map entC).flatten = entC x by simp]
      exact Gr.app (.inl hbuf)
    · have hd := hJ.done hc
      have hsh := hJ.sh (by omega)
      have hcn := hJ.cnt
      have hR : readE s = if e = 0 ∧ entsOk l = true ∧ treeB l = s then some l else none := by unfold readE; rw [hd]
      unfold ReadES
      rw [hR]
      have hNe : New w.heap.size ((br, Obj.cells #[vs s, vi a, vi e] 166 (0, 0)) :: D) := ⟨hwr, New.mono (by omega) hN⟩
      by_cases he : e = 0
      · have d1 : (e == 0) = true := by simp [he]
        have d2 : decide ((a : Int) < (s.length : Int)) = false := decide_eq_false (by omega)
        have hend : (if e ≠ 0 then e else if (a : Int) < (s.length : Int) then 5 else 0) = (0 : Int) := by rw [if_neg (by simp [he]), if_neg (by omega)]
        first | with_reducible refine ks [] (And.intro uOU_1 ( And.intro @d1 (@d2))) ?_ | refine kp (And.intro uOU_1 ( And.intro @d1 (@d2))) ?_
        refine Ow.callFV rfl Tryz.call102 (fun w' hw' => refEnd_spec br s a e w' (hw'.has _ _ (by simp))) ?_
        rw [hend]
        have d4 : ((0 : Int) != 0) = false := rfl
        refine ko (And.intro uOU_1 @d4) ?_
        refine Ow.callFV rfl Tryz.call186 (fun w' hw' => TreeRight_spec v l w' (hG.slM (fun b o hm => hw'.has b o (by simp [hm])) rfl rfl entC_len) (by omega) hsh) ?_
        cases hr : entsOk l
        · rw [if_neg (by simp)]
          refine ko uOU_1 ?_
          first | with_reducible refine ks [] uOU_1 ?_ | refine kp uOU_1 ?_
          refine ⟨_, (ke uOU_1), ?_⟩
          exact ⟨Ext.of_new hNe, rfl⟩
        · refine ko uOU_1 ?_
          refine Ow.callFV rfl Tryz.call187 (fun w' hw' => TreeBody_spec v l w' (hG.slM (fun b o hm => hw'.has b o (by simp [hm])) rfl rfl entC_len) (by omega) hsh) ?_
          by_cases hb : treeB l = s
          · have d3 : (treeB l != s) = false := by simp [hb]
            rw [if_pos ⟨he, rfl, hb⟩]
            refine ko (And.intro uOU_1 @d3) ?_
            first | with_reducible refine ks [] uOU_1 ?_ | refine kp uOU_1 ?_
            refine ⟨_, (ke uOU_1), ?_⟩
            exact ⟨Ext.of_new hNe, v, rfl, hG.keep fun b o hb ho => by rw [Sx.look, if_neg (by have := hN.le b (key_of_look ho); omega)]; exact ho⟩
          · have d3 : (treeB l != s) = true := by simp [hb]
            rw [if_neg (fun h => hb h.2.2)]
            refine ko (And.intro uOU_1 @d3) ?_
            first | with_reducible refine ks [] uOU_1 ?_ | refine kp uOU_1 ?_
            refine ⟨_, (ke uOU_1), ?_⟩
            exact ⟨Ext.of_new hNe, rfl⟩
      · have d1 : (e == 0) = false := by simp [he]
        have d3 : (e != 0) = true := by simp [he]
        have hend : (if e ≠ 0 then e else if (a : Int) < (s.length : Int) then 5 else 0) = e := by rw [if_pos he]
        rw [if_neg (fun h => he h.1)]
        first | with_reducible refine ks [] (And.intro uOU_1 @d1) ?_ | refine kp (And.intro uOU_1 @d1) ?_
        refine Ow.callFV rfl Tryz.call102 (fun w' hw' => refEnd_spec br s a e w' (hw'.has _ _ (by simp))) ?_
        rw [hend]
        refine ko (And.intro uOU_1 @d3) ?_
        first | with_reducible refine ks [] uOU_1 ?_ | refine kp uOU_1 ?_
        refine ⟨_, (ke uOU_1), ?_⟩
        exact ⟨Ext.of_new hNe, rfl⟩
end Go.Proofs
end
section
open Go Go.Proofs Go.Sx Go.StP
namespace Go.Proofs
set_option maxRecDepth 10000
set_option maxHeartbeats 400000
set_option linter.unusedSimpArgs false
/-! ### Commits, read -/
theorem numGo_mostE (most : Int) : ∀ (l : List UInt8) (k n m k' : Nat), numGo most l k n = .ok (m, k') → (m : Int) ≤ most
  | [], _, _, _, _, h => by simp [numGo] at h
  | c :: r, k, n, m, k', h => by
    unfold numGo at h
    split at h
    · split at h
      · cases h
      · exact numGo_mostE most r _ _ _ _ h
    · split at h
      · cases h
      · split at h
        · rename_i hh
          cases h
          exact hh.2
        · cases h
theorem numR_mostE {s : List UInt8} {a : Nat} {e most : Int} (h0 : 0 ≤ most) : 0 ≤ (numR s a e most).1 ∧ (numR s a e most).1 ≤ most := by
  unfold numR
  split
  · exact ⟨Int.le_refl 0, h0⟩
  · split
    · rename_i n k h
      exact ⟨Int.natCast_nonneg _, numGo_mostE most _ _ _ _ _ h⟩
    · exact ⟨Int.le_refl 0, h0⟩
def idsGo (s : List UInt8) (a : Nat) (e : Int) : Nat → List IdL × Nat × Int
  | 0 => ([], a, e)
  | n + 1 => let p := idsGo s a e n; let i := idR s p.2.1 p.2.2; (p.1 ++ [mkIdE i.1], i.2)
theorem idsGo_len (s : List UInt8) (a : Nat) (e : Int) : ∀ n, (idsGo s a e n).1.length = n
  | 0 => rfl
  | n + 1 => by simp only [idsGo, List.length_append, List.length_cons, List.length_nil, idsGo_len s a e n]
theorem idsGo_le {s : List UInt8} {a : Nat} {e : Int} (ha : a ≤ s.length) : ∀ n, (idsGo s a e n).2.1 ≤ s.length
  | 0 => ha
  | n + 1 => (idE_le (idsGo_le ha n)).2
/-- The reader behind the first id, behind the number; a commit. -/
def comN (s : List UInt8) : Int × Nat × Int := numR s (idR s 0 0).2.1 (idR s 0 0).2.2 4
def comP (s : List UInt8) : List IdL × Nat × Int := idsGo s (comN s).2.1 (comN s).2.2 (comN s).1.toNat
def comT (s : List UInt8) : List UInt8 × Nat × Int := textR s (comP s).2.1 (comP s).2.2 64
def comE (s : List UInt8) : ComL × Nat × Int := (⟨mkIdE (idR s 0 0).1, (comP s).1, (comT s).1⟩, (comT s).2)
/-- The end of what is read. -/
def endE (s : List UInt8) (a : Nat) (e : Int) : Int := if e ≠ 0 then e else if (a : Int) < (s.length : Int) then 5 else 0
def readC (s : List UInt8) : Option ComL := if endE s (comE s).2.1 (comE s).2.2 = 0 ∧ comOk (comE s).1 = true ∧ comB (comE s).1 = s then some (comE s).1 else none
/-! ### The cells of a commit -/
theorem store_com0 (t x : IdL) (p : Value) (y : List UInt8) (a : Bool) (E : TypeId) : storeV (some (a, 32)) (some (.cells (comC t p y).toArray E (0, 0))) 0 (.agg (a8 x.l)) = some (.cells (comC x p y).toArray E (0, 0)) :=
  store_mid [] _ _ _ a _ E rfl (by simp [t.h]) (cells_agg _) (by simp [x.h]) (all_v8 _)
theorem store_com1 (t : IdL) (p q : Value) (y : List UInt8) (a : Bool) (E : TypeId) (hq : Value.oneCell' q = true ∧ q.cells = #[q]) : storeV (some (a, 1)) (some (.cells (comC t p y).toArray E (0, 0))) 32 q = some (.cells (comC t q y).toArray E (0, 0)) :=
  store_mid (t.l.map v8) [p] [q] [vs y] a _ E (by simp [t.h]) rfl hq.2 rfl (by simp [hq.1])
theorem store_com2 (t : IdL) (p : Value) (y z : List UInt8) (a : Bool) (E : TypeId) : storeV (some (a, 1)) (some (.cells (comC t p y).toArray E (0, 0))) 33 (vs z) = some (.cells (comC t p z).toArray E (0, 0)) := by
  have e : ∀ y, comC t p y = (t.l.map v8 ++ [p]) ++ ([vs y] ++ []) := fun y => by unfold comC; simp only [List.append_assoc, List.append_nil]
  rw [e, e]; exact store_mid _ _ _ _ a _ E (by simp [t.h]) rfl rfl rfl rfl
theorem zrCom : zeroV Tryz.prog 241 = some (.agg (comC id0 (.slice none 0 0) []).toArray) := id (by kernel_rfl)
theorem build_com0 : buildV (plcT Tryz.prog 241) (zeroV Tryz.prog 241) [] = some (.agg (comC id0 (.slice none 0 0) []).toArray) := by
  rw [show plcT Tryz.prog 241 = some [(0, 32), (32, 1), (33, 1)] from id (by kernel_rfl), zrCom]; rfl
theorem aggIdE : aggT Tryz.prog 37 = some (true, 32) := id (by kernel_rfl)
theorem zrIdE : zeroV Tryz.prog 37 = some (.agg (a8 id0.l)) := id (by kernel_rfl)
end Go.Proofs
end
section
open Go Go.Proofs Go.Sx Go.StP
namespace Go.Proofs
set_option maxRecDepth 10000
set_option maxHeartbeats 400000
set_option linter.unusedSimpArgs false
theorem setB_appE {b : Nat} {x : Obj} : ∀ {D L : Heap}, b ∉ keys D → setB (D ++ L) b x = D ++ setB L b x
  | [], _, _ => rfl
  | (c, y) :: r, L, h => by
    simp only [keys, List.map_cons, List.mem_cons, not_or] at h
    rw [List.cons_append, setB_other _ _ _ _ _ (Ne.symm h.1), setB_appE (by simpa [keys] using h.2)]; rfl
def ReadCS (s : List UInt8) (v : Value) (D : Heap) : Prop :=
  match readC s with
  | some c => ∃ p, v = .tuple #[.agg (comC c.tree p c.text).toArray, .bool true] ∧ Gr D 37 32 p c.par.length (c.par.map idLC).flatten
  | none => v = .tuple #[.agg (comC id0 (.slice none 0 0) []).toArray, .bool false]
theorem refEndE_spec (b : Nat) (s : List UInt8) (a : Nat) (e : Int) (w : World) (ho : w.heap[b]? = some (.cells #[vs s, vi a, vi e] 166 (0, 0))) :
    Rets Tryz.prog 102 #[vp b 0] w (fun v D => v = vi (endE s a e) ∧ D = []) := refEnd_spec b s a e w ho
structure CmG where
  g : Nat
  v : Value
  D : Heap
set_option linter.defProp false
def uOW_1 := And.intro (And.intro (And.intro (@load_rd0) (And.intro (@load_rd1) (@load_rd2))) (And.intro (And.intro (@store_rd1) (@store_rd2)) (And.intro (@load_com0) (@load_com1)))) (And.intro (And.intro (@load_com2) (And.intro (@load_com) (@cells_com))) (And.intro (And.intro (@store_com0) (@store_com2)) (And.intro (@rdIn_v8) (@rdIn_vi))))
theorem CommitRd_spec (s : List UInt8) (w : World) (hs : s.length < 100000) :
    Rets Tryz.prog 166 #[vs s] w (XS w [] (ReadCS s)) := by
  refine Rets.enterX Tryz.func166 rfl (rs := [.cell 2 241, .tmp 3]) Tryz.results166 Tryz.ntmps166 (fun p hp => by cases hp) (by simp [keys]) ?_
  refine kf ?_
  first | with_reducible refine ks [] uOW_1 ?_ | refine kp uOW_1 ?_
  refine Ow.alloc rfl rfl zrCom fun b2 hb2 hw2 => ?_
  simp only [cells_agg, List.nil_append, List.cons_append]
  refine ko uOW_1 ?_
  refine Ow.build ((.agg #[vs s, vi 0, vi 0])) rfl (by kernel_rfl) ?_
  refine ko uOW_1 ?_
  refine Ow.box rfl rfl fun br hbr hwr => ?_
  have h2r : b2 < br := above_to hbr (by simp [keys])
  simp only [ev_tmp, getF_0, getF_s, cells_agg, List.nil_append, List.cons_append]
  refine ko uOW_1 ?_
  refine Ow.build (.agg (comC id0 (.slice none 0 0) []).toArray) rfl build_com0 ?_
  refine ko uOW_1 ?_
  refine Ow.alloc rfl rfl zrCom fun b5 hb5 hw5 => ?_
  simp only [cells_agg, List.nil_append, List.cons_append]
  have h25 : b2 < b5 := above_to hb5 (by simp [keys])
  have hr5 : br < b5 := above_to hb5 (by simp [keys])
  have st5 : ∀ a E, storeV (some (a, 34)) (some (.cells (comC id0 (.slice none 0 0) []).toArray E (0, 0))) 0 (.agg (comC id0 (.slice none 0 0) []).toArray) = some (.cells (comC id0 (.slice none 0 0) []).toArray E (0, 0)) := fun a E => store_com _ _ _ _ a E (by rw [List.size_toArray, comC_len]) rfl
  refine ko (And.intro uOW_1 @st5) ?_
  refine Ow.callM rfl rfl Tryz.call101 (by simp [keys]) (fun w' hw' => refId_spec br s 0 0 w' (Nat.zero_le _) (by omega) (hw'.has _ _ (List.mem_cons_of_mem _ List.mem_cons_self))) ?_
  have ip := idE_le (s := s) (a := 0) (e := 0) (Nat.zero_le _)
  have np := numR_le (e := (idR s 0 0).2.2) (most := 4) ip.2
  have nm := numR_mostE (s := s) (a := (idR s 0 0).2.1) (e := (idR s 0 0).2.2) (most := 4) (by decide)
  obtain ⟨T, hT⟩ : ∃ T, mkIdE (idR s 0 0).1 = T := ⟨_, rfl⟩
  have hiT : (idR s 0 0).1 = T.l := by rw [← hT, mkIdE_eq (idE_len s 0 0)]
  have hcE : comE s = (⟨T, (comP s).1, (comT s).1⟩, (comT s).2) := by unfold comE; rw [hT]
  rw [hiT]
  refine kn ?_
  refine ko uOW_1 ?_
  refine Ow.callM rfl rfl Tryz.call98 (by simp [keys]) (fun w' hw' => refNumber_spec br s _ _ 4 w' ip.2 (by omega) (hw'.has _ _ (List.mem_cons_of_mem _ List.mem_cons_self))) ?_
  have hP : comP s = idsGo s (numR s (idR s 0 0).2.1 (idR s 0 0).2.2 4).2.1 (numR s (idR s 0 0).2.1 (idR s 0 0).2.2 4).2.2 (numR s (idR s 0 0).2.1 (idR s 0 0).2.2 4).1.toNat := rfl
  generalize numR s (idR s 0 0).2.1 (idR s 0 0).2.2 4 = nr at *
  obtain ⟨cn, na, ne⟩ := nr
  simp only at np nm hP ⊢
  obtain ⟨k, rfl⟩ := Int.eq_ofNat_of_zero_le nm.1
  rw [Int.toNat_natCast] at hP
  refine kn ?_
  refine ko uOW_1 ?_
  refine Cw.permL (M := (b5, .cells (comC T (.slice none 0 0) []).toArray 241 (0, 0)) :: (br, .cells #[vs s, vi na, vi ne] 166 (0, 0)) :: (b2, .cells (comC id0 (.slice none 0 0) []).toArray 241 (0, 0)) :: []) (by classical exact List.perm_iff_count.2 fun a => by simp only [List.count_append, List.count_cons, List.count_nil] <;> omega) ?_
  refine Cw.loopG (G := CmG) [17, 18, 19, 22, 23, 24, 25, 26, 27, 28, 20, 21, 7] (fun q => [(7, vi q.g)]) (fun q => (b5, .cells (comC T q.v []).toArray 241 (0, 0)) :: (br, .cells #[vs s, vi (idsGo s na ne q.g).2.1, vi (idsGo s na ne q.g).2.2] 166 (0, 0)) :: (b2, .cells (comC id0 (.slice none 0 0) []).toArray 241 (0, 0)) :: q.D) (fun q => q.g ≤ k ∧ New (b5 + 1) q.D ∧ Gr q.D 37 32 q.v q.g ((idsGo s na ne q.g).1.map idLC).flatten) (fun q => k - q.g) ⟨0, .slice none 0 0, []⟩ rfl rfl ?_ ?_
  · exact ⟨Nat.zero_le _, trivial, Gr.nl⟩
  · intro q jq hq
    refine kv ?_
    obtain ⟨g, v, D⟩ := q
    simp only at hq ⊢
    obtain ⟨hgk, hN, hG⟩ := hq
    have gle := idsGo_le (e := ne) np.2 g
    by_cases hlt : g < k
    · have hgs : idsGo s na ne (g + 1) = ((idsGo s na ne g).1 ++ [mkIdE (idR s (idsGo s na ne g).2.1 (idsGo s na ne g).2.2).1], (idR s (idsGo s na ne g).2.1 (idsGo s na ne g).2.2).2) := rfl
      first | with_reducible refine ks [7] uOW_1 ?_ | refine kp uOW_1 ?_
      refine Cw.regionS [b5] [0, 2, 1, 3, 4, 5, 6, 7] [7] (by kernel_rfl) (by kernel_rfl) (by kernel_rfl) ?_
      simp only [nl_cons, ↓pickL_nil, ↓pickL_cons, ↓nthO_0, ↓nthO_s, consO_some]
      refine kq uOW_1 ?_
      refine Ow.soft rfl rfl rfl ?_
      refine Ow.callM rfl rfl Tryz.call101 (by simp [keys]) (fun w' hw' => refId_spec br s (idsGo s na ne g).2.1 (idsGo s na ne g).2.2 w' gle (by omega) (hw'.has _ _ (List.mem_cons_of_mem _ List.mem_cons_self))) ?_
      with_reducible refine Ow.nil ?_
      refine ⟨fun b hb => read_setB_ne (by simp only [List.mem_cons, List.not_mem_nil, or_false] at hb; omega), ?_⟩
      have hil := idE_len s (idsGo s na ne g).2.1 (idsGo s na ne g).2.2
      obtain ⟨I, hI⟩ : ∃ I, mkIdE (idR s (idsGo s na ne g).2.1 (idsGo s na ne g).2.2).1 = I := ⟨_, rfl⟩
      have hiI : (idR s (idsGo s na ne g).2.1 (idsGo s na ne g).2.2).1 = I.l := by rw [← hI, mkIdE_eq hil]
      rw [hI] at hgs
      have hg1 : (idsGo s na ne (g + 1)).1 = (idsGo s na ne g).1 ++ [I] := by rw [hgs]
      have hg2 : (idsGo s na ne (g + 1)).2 = (idR s (idsGo s na ne g).2.1 (idsGo s na ne g).2.2).2 := by rw [hgs]
      rw [hiI, ← hg2]
      refine kn ?_
      refine Ow.soft rfl rfl rfl ?_
      refine Ow.buildSlice (e := 37) (a8 I.l) rfl rfl (slice_one (cs := I.l.map v8) Tryz.underlying30 aggIdE zrIdE (by decide) (by simp [I.h])) fun b13 hb13 hw13 => ?_
      have hr13 : b5 < b13 := above_to hb13 (by simp [keys])
      with_reducible refine Ow.nil ?_
      refine ⟨readB_appR (by simp [keys]), ?_⟩
      try simp only [List.cons_append, List.nil_append]
      refine Ow.soft rfl rfl rfl ?_
      refine Ow.permL (M := D ++ ((b5, Obj.cells (comC T v []).toArray 241 (0, 0)) :: (br, Obj.cells #[vs s, vi (idsGo s na ne (g + 1)).2.1, vi (idsGo s na ne (g + 1)).2.2] 166 (0, 0)) :: (b2, Obj.cells (comC id0 (.slice none 0 0) []).toArray 241 (0, 0)) :: [(b13, Obj.cells (a8 I.l) 37 (0, 0))])) (by classical exact List.perm_iff_count.2 fun a => by simp only [List.count_append, List.count_cons, List.count_nil] <;> omega) ?_
      refine Ow.appendX (e := 37) (k := 1) (new := idLC I) (X := D) v rfl rfl rfl rfl Tryz.underlying30 aggIdE (by kernel_rfl) zrIdE (by rw [cells_agg, size_a8, id0.h]) Tryz.underlying30 (by intro k h; cases h) hG (fun w' hw' => AppX.one1 (hw'.has b13 (.cells (a8 I.l) 37 (0, 0)) (by simp)) (idLC_len' I) (idLC_one' I)) (by omega) (by omega) (fun B v4 D4 hA4 hB4 hbuf hk1 hk2 hlk => ?_)
      have hB13 : b13 < B := above_to hA4 (by simp [keys_app, keys])
      have hN4 : New (b5 + 1) D4 := New.of_le fun q hq => by
        rcases hk2 q hq with h | h
        · exact hN.le q h
        · omega
      have h54 : b5 ∉ keys D4 := hN4.not (by omega)
      with_reducible refine Ow.nil ?_
      refine ⟨fun q hq => ?_, ?_⟩
      · rw [List.mem_singleton] at hq
        subst hq
        rw [readB_appr h54]
        simp only [read_same]
      have hlk5 : ∀ M, Sx.look (D4 ++ M) b5 = Sx.look M b5 := fun M => look_app_r h54
      have hsb5 : ∀ M x, setB (D4 ++ M) b5 x = D4 ++ setB M b5 x := fun M x => setB_appE h54
      have st5 := fun a E => store_com1 T v v4 [] a E hbuf.cell
      refine kq (And.intro uOW_1 ( And.intro @hlk5 ( And.intro @hsb5 ( And.intro @st5 (@nh_any))))) ?_
      have hst7 : storeAtV (aggT Tryz.prog 30) (D4 ++ [(b5, Obj.cells (comC T v []).toArray 241 (0, 0)), (br, Obj.cells #[vs s, vi (idsGo s na ne (g + 1)).2.1, vi (idsGo s na ne (g + 1)).2.2] 166 (0, 0)), (b2, Obj.cells (comC id0 (.slice none 0 0) []).toArray 241 (0, 0)), (b13, Obj.cells (a8 I.l) 37 (0, 0))]) (vp b5 32) v4 =
          some (D4 ++ [(b5, Obj.cells (comC T v4 []).toArray 241 (0, 0)), (br, Obj.cells #[vs s, vi (idsGo s na ne (g + 1)).2.1, vi (idsGo s na ne (g + 1)).2.2] 166 (0, 0)), (b2, Obj.cells (comC id0 (.slice none 0 0) []).toArray 241 (0, 0)), (b13, Obj.cells (a8 I.l) 37 (0, 0))]) := by
        rw [Tryz.ag30, storeAt_p, hlk5]
        simp only [look_same, st5, upd_some, hsb5, setB_same]
      refine Ow.store rfl rfl rfl hst7 ?_
      refine ko uOW_1 ?_
      refine Cw.permL (M := (b5, Obj.cells (comC T v4 []).toArray 241 (0, 0)) :: (br, Obj.cells #[vs s, vi (idsGo s na ne (g + 1)).2.1, vi (idsGo s na ne (g + 1)).2.2] 166 (0, 0)) :: (b2, Obj.cells (comC id0 (.slice none 0 0) []).toArray 241 (0, 0)) :: (D4 ++ [(b13, Obj.cells (a8 I.l) 37 (0, 0))])) (by classical exact List.perm_iff_count.2 fun a => by simp only [List.count_append, List.count_cons, List.count_nil] <;> omega) ?_
      first | with_reducible refine ks [] uOW_1 ?_ | refine kp uOW_1 ?_
      refine Again.mk (CmG.mk (g + 1) v4 (D4 ++ [(b13, Obj.cells (a8 I.l) 37 (0, 0))])) (by show k - (g + 1) < k - g; omega) ⟨by show g + 1 ≤ k; omega, hN4.app ⟨by omega, trivial⟩, ?_⟩ rfl rfl
      show Gr _ _ _ _ (g + 1) ((idsGo s na ne (g + 1)).1.map idLC).flatten
      rw [hg1, List.map_append, List.flatten_append, show ([I].map idLC).flatten = idLC I by simp]
      exact Gr.app (.inl hbuf)
    · obtain rfl : g = k := by omega
      rw [← hP] at hG
      rw [← hP] at gle
      rw [← hP]
      have tp := textE_le (e := (comP s).2.2) (most := 64) gle
      first | with_reducible refine ks [] uOW_1 ?_ | refine kp uOW_1 ?_
      refine Ow.callM rfl rfl Tryz.call99 (by simp [keys]) (fun w' hw' => refText_spec br s (comP s).2.1 (comP s).2.2 64 w' gle (by omega) (hw'.has _ _ (List.mem_cons_of_mem _ List.mem_cons_self))) ?_
      refine kn ?_
      refine ko uOW_1 ?_
      have hT2 : comT s = textR s (comP s).2.1 (comP s).2.2 64 := rfl
      have htl := textE_len s (comP s).2.1 (comP s).2.2 64
      rw [hT2] at hcE
      generalize textR s (comP s).2.1 (comP s).2.2 64 = tx at *
      obtain ⟨tt, a3, e3⟩ := tx
      simp only at tp hcE htl ⊢
      have hPl : (comP s).1.length = g := by rw [hP, idsGo_len]
      generalize (comP s).1 = pl at *
      have hg4 : g ≤ 4 := by omega
      have hC : ∀ w', Hp w ((b5, Obj.cells (comC T v tt).toArray 241 (0, 0)) :: (br, .cells #[vs s, vi a3, vi e3] 166 (0, 0)) :: (b2, Obj.cells (comC id0 (.slice none 0 0) []).toArray 241 (0, 0)) :: D) w' → ComS w' (.agg (comC T v tt).toArray) ⟨T, pl, tt⟩ := fun w' hw' =>
        ⟨v, rfl, hG.slM (fun b o hm => hw'.has b o (by simp [hm])) hPl rfl idLC_len'⟩
      have hNe : New w.heap.size ((b5, Obj.cells (comC T v tt).toArray 241 (0, 0)) :: (br, .cells #[vs s, vi a3, vi e3] 166 (0, 0)) :: (b2, Obj.cells (comC id0 (.slice none 0 0) []).toArray 241 (0, 0)) :: D) := ⟨hw5, hwr, hw2, New.mono (by omega) hN⟩
      have hR : readC s = if endE s a3 e3 = 0 ∧ comOk ⟨T, pl, tt⟩ = true ∧ comB ⟨T, pl, tt⟩ = s then some ⟨T, pl, tt⟩ else none := by unfold readC; rw [hcE]
      have stz : ∀ a E, storeV (some (a, 34)) (some (.cells (comC id0 (.slice none 0 0) []).toArray E (0, 0))) 0 (.agg (comC id0 (.slice none 0 0) []).toArray) = some (.cells (comC id0 (.slice none 0 0) []).toArray E (0, 0)) := st5
      unfold ReadCS
      rw [hR]
      refine Ow.callFV rfl Tryz.call102 (fun w' hw' => refEndE_spec br s a3 e3 w' (hw'.has _ _ (List.mem_cons_of_mem _ List.mem_cons_self))) ?_
      by_cases he : endE s a3 e3 = 0
      · have d1 : (endE s a3 e3 != 0) = false := by simp [he]
        refine ko (And.intro uOW_1 @d1) ?_
        refine Ow.callFV rfl Tryz.call188 (fun w' hw' => CommitRight_spec _ _ w' (hC w' hw') (by show pl.length < 1000000; omega) (by show tt.length < 1099511627776; omega)) ?_
        cases hr : comOk ⟨T, pl, tt⟩
        · rw [if_neg (by simp)]
          refine ko uOW_1 ?_
          refine Ow.build (.agg (comC id0 (.slice none 0 0) []).toArray) rfl build_com0 ?_
          refine ko (And.intro uOW_1 @stz) ?_
          first | with_reducible refine ks [] uOW_1 ?_ | refine kp uOW_1 ?_
          refine ⟨_, (ke uOW_1), ?_⟩
          exact ⟨Ext.of_new hNe, rfl⟩
        · refine ko uOW_1 ?_
          refine Ow.callFV rfl Tryz.call189 (fun w' hw' => CommitBody_spec _ _ w' (hC w' hw') (by show pl.length < 1000000; omega) (by show tt.length < 1099511627776; omega)) ?_
          by_cases hb : comB ⟨T, pl, tt⟩ = s
          · have d3 : (comB ⟨T, pl, tt⟩ != s) = false := by simp [hb]
            have stq : ∀ a E, storeV (some (a, 34)) (some (.cells (comC id0 (.slice none 0 0) []).toArray E (0, 0))) 0 (.agg (comC T v tt).toArray) = some (.cells (comC T v tt).toArray E (0, 0)) := fun a E => store_com _ _ _ _ a E (by rw [List.size_toArray, comC_len]) hG.cell.1
            rw [if_pos ⟨he, rfl, hb⟩]
            refine ko (And.intro uOW_1 ( And.intro @d3 (@stq))) ?_
            first | with_reducible refine ks [] uOW_1 ?_ | refine kp uOW_1 ?_
            refine ⟨_, (ke uOW_1), ?_⟩
            refine ⟨Ext.of_new ⟨hw5, hwr, hw2, New.mono (by omega) hN⟩, v, rfl, ?_⟩
            show Gr _ _ _ _ pl.length (pl.map idLC).flatten
            rw [hPl]
            exact hG.keep fun b o hb ho => by
              have := hN.le b (key_of_look ho)
              simp (disch := omega) only [look_other]
              exact ho
          · have d3 : (comB ⟨T, pl, tt⟩ != s) = true := by simp [hb]
            rw [if_neg (fun h => hb h.2.2)]
            refine ko (And.intro uOW_1 @d3) ?_
            refine Ow.build (.agg (comC id0 (.slice none 0 0) []).toArray) rfl build_com0 ?_
            refine ko (And.intro uOW_1 @stz) ?_
            first | with_reducible refine ks [] uOW_1 ?_ | refine kp uOW_1 ?_
            refine ⟨_, (ke uOW_1), ?_⟩
            exact ⟨Ext.of_new hNe, rfl⟩
      · have d1 : (endE s a3 e3 != 0) = true := by simp [he]
        rw [if_neg (fun h => he h.1)]
        refine ko (And.intro uOW_1 @d1) ?_
        refine Ow.build (.agg (comC id0 (.slice none 0 0) []).toArray) rfl build_com0 ?_
        refine ko (And.intro uOW_1 @stz) ?_
        first | with_reducible refine ks [] uOW_1 ?_ | refine kp uOW_1 ?_
        refine ⟨_, (ke uOW_1), ?_⟩
        exact ⟨Ext.of_new hNe, rfl⟩
end Go.Proofs
end
section
open Go Go.Proofs Go.Sx Go.StP
namespace Go.Proofs
set_option maxRecDepth 10000
set_option maxHeartbeats 400000
set_option linter.unusedSimpArgs false
/-! ### The reader of objects -/
def roC (r v : Value) (t : IdL) (p : Value) (y : List UInt8) : List Value := [r] ++ ([v] ++ comC t p y)
theorem load_ro0 (r v : Value) (t : IdL) (p : Value) (y : List UInt8) (n : Nat) (E : TypeId) (fz : Nat × Nat) : loadV (some (false, n)) (some (.cells (roC r v t p y).toArray E fz)) 0 = some r := load_one [] _ r n E fz rfl
theorem load_ro1 (r v : Value) (t : IdL) (p : Value) (y : List UInt8) (n : Nat) (E : TypeId) (fz : Nat × Nat) : loadV (some (false, n)) (some (.cells (roC r v t p y).toArray E fz)) 1 = some v := by
  unfold roC; exact load_one [r] _ v n E fz rfl
theorem load_ro2 (r v : Value) (t : IdL) (p : Value) (y : List UInt8) (E : TypeId) (fz : Nat × Nat) : loadV (some (true, 34)) (some (.cells (roC r v t p y).toArray E fz)) 2 = some (.agg (comC t p y).toArray) := by
  have e : roC r v t p y = [r, v] ++ (comC t p y ++ []) := by unfold roC; simp
  rw [e]; exact load_agg [r, v] _ _ E fz rfl (comC_len _ _ _)
theorem load_ro34 (r v : Value) (t : IdL) (p : Value) (y : List UInt8) (n : Nat) (E : TypeId) (fz : Nat × Nat) : loadV (some (false, n)) (some (.cells (roC r v t p y).toArray E fz)) 34 = some p := by
  have e : roC r v t p y = ([r, v] ++ t.l.map v8) ++ ([p] ++ [vs y]) := by unfold roC comC; simp
  rw [e]; exact load_one _ _ p n E fz (by simp [t.h])
theorem store_ro1 (r v q : Value) (t : IdL) (p : Value) (y : List UInt8) (a : Bool) (E : TypeId) (hq : Value.oneCell' q = true ∧ q.cells = #[q]) : storeV (some (a, 1)) (some (.cells (roC r v t p y).toArray E (0, 0))) 1 q = some (.cells (roC r q t p y).toArray E (0, 0)) := by
  unfold roC
  exact store_mid [r] [v] [q] _ a _ E rfl rfl hq.2 rfl (by simp [hq.1])
theorem store_ro2 (r v : Value) (t x : IdL) (p : Value) (y : List UInt8) (a : Bool) (E : TypeId) : storeV (some (a, 32)) (some (.cells (roC r v t p y).toArray E (0, 0))) 2 (.agg (a8 x.l)) = some (.cells (roC r v x p y).toArray E (0, 0)) := by
  have e : ∀ t, roC r v t p y = [r, v] ++ (t.l.map v8 ++ ([p] ++ [vs y])) := fun t => by unfold roC comC; simp
  rw [e, e]; exact store_mid [r, v] _ _ _ a _ E rfl (by simp [t.h]) (cells_agg _) (by simp [x.h]) (all_v8 _)
theorem store_ro34 (r v : Value) (t : IdL) (p q : Value) (y : List UInt8) (a : Bool) (E : TypeId) (hq : Value.oneCell' q = true ∧ q.cells = #[q]) : storeV (some (a, 1)) (some (.cells (roC r v t p y).toArray E (0, 0))) 34 q = some (.cells (roC r v t q y).toArray E (0, 0)) := by
  have e : ∀ p, roC r v t p y = ([r, v] ++ t.l.map v8) ++ ([p] ++ [vs y]) := fun p => by unfold roC comC; simp
  rw [e, e]; exact store_mid _ [p] [q] [vs y] a _ E (by simp [t.h]) rfl hq.2 rfl (by simp [hq.1])
theorem store_ro35 (r v : Value) (t : IdL) (p : Value) (y z : List UInt8) (a : Bool) (E : TypeId) : storeV (some (a, 1)) (some (.cells (roC r v t p y).toArray E (0, 0))) 35 (vs z) = some (.cells (roC r v t p z).toArray E (0, 0)) := by
  have e : ∀ y, roC r v t p y = (([r, v] ++ t.l.map v8) ++ [p]) ++ ([vs y] ++ []) := fun y => by unfold roC comC; simp
  rw [e, e]; exact store_mid _ _ _ _ a _ E (by simp [t.h]) rfl rfl rfl rfl
theorem build_ent2 (k : Int) (t : List UInt8) : buildV (plcT Tryz.prog 268) (zeroV Tryz.prog 268) [(1, vi k), (0, vs t)] = some (.agg (entC ⟨t, k, id0⟩).toArray) := by
  rw [show plcT Tryz.prog 268 = some [(0, 1), (1, 1), (2, 32)] from id (by kernel_rfl), zrEnt]; rfl
theorem REndE_spec (b : Nat) (s : List UInt8) (a : Nat) (e : Int) (w : World) (ho : w.heap[b]? = some (.cells #[vs s, vi a, vi e] 212 (0, 0))) :
    Rets Tryz.prog 74 #[vp b 0] w (fun v D => v = vi (endE s a e) ∧ D = []) := REnd_spec b s a e w ho
set_option linter.defProp false
def uOX_1 := And.intro (And.intro (And.intro (And.intro (@load_rd0) (@load_rd1)) (And.intro (@load_rd2) (@store_rd1))) (And.intro (And.intro (@store_rd2) (@load_ro0)) (And.intro (@load_ro1) (@load_ro2)))) (And.intro (And.intro (And.intro (@load_ro34) (@load_ent)) (And.intro (@store_ent0) (@store_ent1))) (And.intro (And.intro (@store_ent2) (@store_entr)) (And.intro (@cells_ent) (And.intro (@rdIn_v8) (@rdIn_vi)))))
theorem two_has {w : World} {a b : Nat} {x y : Obj} (h : w.heap[a]? = some x) (h' : w.heap[b]? = some y) : ∀ p : Nat × Obj, p ∈ [(a, x), (b, y)] → w.heap[p.1]? = some p.2 := by
  intro p hp
  simp only [List.mem_cons, List.not_mem_nil, or_false] at hp
  rcases hp with rfl | rfl <;> assumption
structure EnH where
  n : Nat
  a : Nat
  e : Int
  l : List EntL
  v : Value
  D : Heap
  H : Heap
/-- What a reader of trees leaves. -/
def TreeRd (bo bw : Nat) (s : List UInt8) (v : Value) (D : Heap) : Prop :=
  v = .bool (endE s (entsE s).2.1 (entsE s).2.2 == 0 && entsOk (entsE s).1) ∧ ∃ v1, Sx.look D bo = some (.cells (roC (vp bw 0) v1 id0 (.slice none 0 0) []).toArray 294 (0, 0)) ∧ Gr D 268 34 v1 (entsE s).1.length ((entsE s).1.map entC).flatten
theorem treeRd_spec (bo bw : Nat) (s : List UInt8) (w : World) (hs : s.length < 100000) (hne : bo ≠ bw)
    (ho : w.heap[bo]? = some (.cells (roC (vp bw 0) (.slice none 0 0) id0 (.slice none 0 0) []).toArray 294 (0, 0))) (hr : w.heap[bw]? = some (.cells #[vs s, vi 0, vi 0] 212 (0, 0))) :
    Rets Tryz.prog 212 #[vp bo 0] w (XS w [(bo, .cells (roC (vp bw 0) (.slice none 0 0) id0 (.slice none 0 0) []).toArray 294 (0, 0)), (bw, .cells #[vs s, vi 0, vi 0] 212 (0, 0))] (TreeRd bo bw s)) := by
  have hob : bo < w.heap.size := (Array.getElem?_eq_some_iff.1 ho).1
  have hwb : bw < w.heap.size := (Array.getElem?_eq_some_iff.1 hr).1
  refine Rets.enterX Tryz.func212 rfl (rs := [.tmp 2]) Tryz.results212 Tryz.ntmps212 (two_has ho hr) (by simp [keys, hne]) ?_
  refine kf ?_
  first | with_reducible refine ks [] uOX_1 ?_ | refine kp uOX_1 ?_
  refine Cw.loopG (G := EnH) [4, 5, 6, 7, 8, 9, 10, 11, 12, 13, 14, 15, 16, 17, 18, 19, 20, 3, 21, 22, 23, 24, 25, 26, 27, 28, 29, 30, 31, 32, 33, 34, 35, 36] (fun q => []) (fun q => q.H) (fun q => EntsJ s q.n q.a q.e q.l ∧ New w.heap.size q.D ∧ Gr q.D 268 34 q.v q.l.length (q.l.map entC).flatten ∧ ((bo, Obj.cells (roC (vp bw 0) q.v id0 (.slice none 0 0) []).toArray 294 (0, 0)) :: (bw, .cells #[vs s, vi q.a, vi q.e] 212 (0, 0)) :: q.D).Perm q.H) (fun q => q.n) ⟨s.length + 1, 0, 0, [], .slice none 0 0, [], [(bo, Obj.cells (roC (vp bw 0) (.slice none 0 0) id0 (.slice none 0 0) []).toArray 294 (0, 0)), (bw, .cells #[vs s, vi 0, vi 0] 212 (0, 0))]⟩ rfl rfl ?_ ?_
  · exact ⟨EntsJ.init s, trivial, Gr.nl, List.Perm.refl _⟩
  · intro q jq hq
    refine kv ?_
    obtain ⟨n, a, e, l, v, D, H0⟩ := q
    simp only at hq ⊢
    obtain ⟨hJ, hN, hG, hPm⟩ := hq
    refine Cw.permL hPm ?_
    clear hPm
    have hle := hJ.le
    first | with_reducible refine ks [3] uOX_1 ?_ | refine kp uOX_1 ?_
    refine Ow.callFV rfl Tryz.call74 (fun w' hw' => REndE_spec bw s a e w' (hw'.has _ _ (List.mem_cons_of_mem _ List.mem_cons_self))) ?_
    by_cases hc : e = 0 ∧ a < s.length
    · obtain ⟨m, rfl, hJ'⟩ := hJ.next hc
      obtain ⟨he, hlt⟩ := hc
      have h5 : endE s a e = 5 := by unfold endE; rw [if_neg (by simp [he]), if_pos (by omega)]
      have d1 : (endE s a e == 5) = true := by simp [h5]
      refine ko (And.intro uOX_1 @d1) ?_
      have hp := numR_le (e := e) (most := 2) hle
      have hq := textE_le (e := (numR s a e 2).2.2) (most := 32) hp.2
      have heq : entR s a e = (⟨(textR s (numR s a e 2).2.1 (numR s a e 2).2.2 32).1, (numR s a e 2).1, mkIdE (idR s (textR s (numR s a e 2).2.1 (numR s a e 2).2.2 32).2.1 (textR s (numR s a e 2).2.1 (numR s a e 2).2.2 32).2.2).1⟩, (idR s (textR s (numR s a e 2).2.1 (numR s a e 2).2.2 32).2.1 (textR s (numR s a e 2).2.1 (numR s a e 2).2.2 32).2.2).2) := rfl
      have hil := idE_len s (textR s (numR s a e 2).2.1 (numR s a e 2).2.2 32).2.1 (textR s (numR s a e 2).2.1 (numR s a e 2).2.2 32).2.2
      refine Cw.regionD [bo] [12] 11 3 268 12 _ rfl (by kernel_rfl) (by kernel_rfl) rfl (by kernel_rfl) zrEnt (fun hD => ?_)
      simp only [List.replicate_succ, List.replicate_zero]
      refine OwD.run [0, 1, 2, 3, 5, 6, 7, 8] [true, true, true, true, false, true, true, true, true, false, false, false, false] 4 rfl hD (by kernel_rfl) fun k hk => ?_
      simp only [nl_cons, ↓pickL_nil, ↓pickL_cons, ↓nthO_0, ↓nthO_s, consO_some]
      simp (disch := (first | assumption | omega | (simp only [lenS, lenT, UInt64.reduceToNat]; try omega))) only [↓Sx.S0, Sx.S1, Tryz.fx, uOX_1, Nat.reduceAdd, Nat.reducePow, Int.reducePow, Nat.reduceBEq, ↓reduceIte, UInt8.reduceToNat, UInt16.reduceToNat, UInt32.reduceToNat, UInt64.reduceToNat, Int.reduceToNat, Md.next_sofnil, Md.next_sofnil]
      (with_reducible refine hk _ _ _ ?_); clear hk k
      refine OwD.soft 4 _ hD rfl (by kernel_rfl) (fun E hE => ?_)
      refine Ow.callM rfl rfl Tryz.call95 (by simp [keys]) (fun w' hw' => RNumber_spec bw s a e 2 w' hle (by omega) (hw'.has _ _ (by simp))) ?_
      generalize numR s a e 2 = p at *
      obtain ⟨kd, a1, e1⟩ := p
      simp only at hp hq heq hil ⊢
      refine kn ?_
      with_reducible refine Ow.nil ?_
      refine ⟨(bo, Obj.cells (roC (vp bw 0) v id0 (.slice none 0 0) []).toArray 294 (0, 0)) :: (bw, .cells #[vs s, vi a1, vi e1] 212 (0, 0)) :: D, (by classical exact List.perm_iff_count.2 fun a => by simp only [List.count_append, List.count_cons, List.count_nil] <;> omega), fun r hr => ?_, ?_⟩
      · rw [List.mem_singleton.1 hr]
        simp only [read_same]
      simp only [List.set_cons_zero, List.set_cons_succ, putF_some, setF_0, setF_s]
      refine OwD.soft 9 _ hD rfl (by kernel_rfl) (fun E hE => ?_)
      refine Ow.callM rfl rfl Tryz.call96 (by simp [keys]) (fun w' hw' => RText_spec bw s a1 e1 32 w' hp.2 (by omega) (hw'.has _ _ (by simp))) ?_
      generalize textR s a1 e1 32 = q at *
      obtain ⟨tt, a2, e2⟩ := q
      simp only at hq heq hil ⊢
      refine kn ?_
      with_reducible refine Ow.nil ?_
      refine ⟨(bo, Obj.cells (roC (vp bw 0) v id0 (.slice none 0 0) []).toArray 294 (0, 0)) :: (bw, .cells #[vs s, vi a2, vi e2] 212 (0, 0)) :: D, (by classical exact List.perm_iff_count.2 fun a => by simp only [List.count_append, List.count_cons, List.count_nil] <;> omega), fun r hr => ?_, ?_⟩
      · rw [List.mem_singleton.1 hr]
        simp only [read_same]
      simp only [List.set_cons_zero, List.set_cons_succ, putF_some, setF_0, setF_s]
      refine OwD.soft 10 _ hD rfl (by kernel_rfl) (fun E hE => ?_)
      refine Ow.build (.agg (entC ⟨tt, kd, id0⟩).toArray) rfl (build_ent2 kd tt) ?_
      with_reducible refine Ow.nil ?_
      refine ⟨_, List.Perm.refl _, fun _ _ => rfl, ?_⟩
      simp only [List.set_cons_zero, List.set_cons_succ, putF_some, setF_0, setF_s]
      refine OwD.real [12] rfl hD (by kernel_rfl) (by kernel_rfl) (by kernel_rfl) (by kernel_rfl) (fun r hr => by rw [List.mem_singleton.1 hr]; exact .inl (by simp [keys])) ?_
      simp only [nl_cons, ↓pickL_nil, ↓pickL_cons, ↓nthO_0, ↓nthO_s, consO_some]
      intro b3 hw3 hbL
      simp only [setF_0, setF_s]
      have hst3 := store_entr ⟨tt, kd, id0⟩ ent0
      refine Ow.store rfl rfl rfl (L' := ((bo, Obj.cells (roC (vp bw 0) v id0 (.slice none 0 0) []).toArray 294 (0, 0)) :: (bw, .cells #[vs s, vi a2, vi e2] 212 (0, 0)) :: D) ++ [(b3, .cells (entC ⟨tt, kd, id0⟩).toArray 268 (0, 0))]) ?_ ?_
      · simp only [ev_tmp, getF_0, getF_s]
        rw [Tryz.ag268, storeAt_p, look_app_r' hbL, cells_agg, hst3, upd_some, setB_app_r hbL]
        exact []
      refine ko uOX_1 ?_
      refine Cw.permL (M := (b3, .cells (entC ⟨tt, kd, id0⟩).toArray 268 (0, 0)) :: (bo, Obj.cells (roC (vp bw 0) v id0 (.slice none 0 0) []).toArray 294 (0, 0)) :: (bw, .cells #[vs s, vi a2, vi e2] 212 (0, 0)) :: D) (by classical exact List.perm_iff_count.2 fun a => by simp only [List.count_append, List.count_cons, List.count_nil] <;> omega) ?_
      have hb3o : bo ≠ b3 := by simp [keys] at hbL; omega
      have hb3w : bw ≠ b3 := by simp [keys] at hbL; omega
      first | with_reducible refine ks [] uOX_1 ?_ | refine kp uOX_1 ?_
      refine Ow.callM rfl rfl Tryz.call97 (by simp [keys]) (fun w' hw' => RId_spec bw s a2 e2 w' hq.2 (by omega) (hw'.has _ _ (by simp))) ?_
      generalize idR s a2 e2 = i at *
      obtain ⟨il, a3, e3⟩ := i
      simp only at heq hil ⊢
      obtain ⟨I, hI⟩ : ∃ I, mkIdE il = I := ⟨_, rfl⟩
      have hiI : il = I.l := by rw [← hI, mkIdE_eq hil]
      rw [hI] at heq
      rw [hiI]
      refine kn ?_
      refine ko uOX_1 ?_
      generalize hx : ({ name := tt, kind := kd, id := I } : EntL) = x
      rw [hx] at heq
      rw [heq] at hJ'
      refine Cw.regionS [bo, b3] [0, 1, 2, 3, 4, 5, 6, 7, 8, 9, 10] [10] (by kernel_rfl) (by kernel_rfl) (by kernel_rfl) ?_
      simp only [nl_cons, ↓pickL_nil, ↓pickL_cons, ↓nthO_0, ↓nthO_s, consO_some]
      refine kq uOX_1 ?_
      refine Ow.soft rfl rfl rfl ?_
      refine Ow.buildSlice (e := 268) (entC x).toArray rfl rfl (slice_one Tryz.underlying237 aggEnt zrEnt (by decide) (entC_len x)) fun b13 hb13 hw13 => ?_
      have h3d : b3 < b13 := above_to hb13 (by simp [keys])
      with_reducible refine Ow.nil ?_
      refine ⟨readB_appR (by simp [keys]), ?_⟩
      try simp only [List.cons_append, List.nil_append]
      refine Ow.soft rfl rfl rfl ?_
      refine Ow.permL (M := D ++ [(b3, Obj.cells (entC x).toArray 268 (0, 0)), (bo, Obj.cells (roC (vp bw 0) v id0 (.slice none 0 0) []).toArray 294 (0, 0)), (bw, .cells #[vs s, vi a3, vi e3] 212 (0, 0)), (b13, Obj.cells (entC x).toArray 268 (0, 0))]) (by classical exact List.perm_iff_count.2 fun a => by simp only [List.count_append, List.count_cons, List.count_nil] <;> omega) ?_
      refine Ow.appendX (e := 268) (k := 1) (new := entC x) (X := D) v rfl rfl rfl rfl Tryz.underlying237 aggEnt (by kernel_rfl) zrEnt (by rw [cells_ent, List.size_toArray, entC_len]) Tryz.underlying237 (by intro k h; cases h) hG (fun w' hw' => AppX.one1 (hw'.has b13 (.cells (entC x).toArray 268 (0, 0)) (by simp)) (entC_len _) (entC_one _)) (by omega) (by have := hJ.cnt; omega) (fun B v4 D4 hA4 hB4 hbuf hk1 hk2 hlk => ?_)
      have hB3 : b3 < B := above_to hA4 (by simp [keys_app, keys])
      have hN4 : New w.heap.size D4 := New.of_le fun q hq => by
        rcases hk2 q hq with h | h
        · exact hN.le q h
        · omega
      have ho4 : bo ∉ keys D4 := hN4.not hob
      have h34 : b3 ∉ keys D4 := fun hm => by
        rcases hk2 b3 hm with h | h
        · exact hbL (by simp only [keys, List.map_cons, List.mem_cons]; exact .inr (.inr h))
        · omega
      with_reducible refine Ow.nil ?_
      refine ⟨fun q hq => ?_, ?_⟩
      · simp only [List.mem_cons, List.not_mem_nil, or_false] at hq
        rcases hq with rfl | rfl
        · rw [readB_appr ho4]
          simp (disch := omega) only [read_same, read_other]
        · rw [readB_appr h34]
          simp (disch := omega) only [read_same, read_other]
      have hlko : ∀ M, Sx.look (D4 ++ M) bo = Sx.look M bo := fun M => look_app_r ho4
      have hsbo : ∀ M x, setB (D4 ++ M) bo x = D4 ++ setB M bo x := fun M x => setB_appE ho4
      have st1 := fun a E => store_ro1 (vp bw 0) v v4 id0 (.slice none 0 0) [] a E hbuf.cell
      have hst7 : storeAtV (aggT Tryz.prog 237) (D4 ++ [(b3, Obj.cells (entC x).toArray 268 (0, 0)), (bo, Obj.cells (roC (vp bw 0) v id0 (.slice none 0 0) []).toArray 294 (0, 0)), (bw, .cells #[vs s, vi a3, vi e3] 212 (0, 0)), (b13, Obj.cells (entC x).toArray 268 (0, 0))]) (vp bo 1) v4 = some (D4 ++ [(b3, Obj.cells (entC x).toArray 268 (0, 0)), (bo, Obj.cells (roC (vp bw 0) v4 id0 (.slice none 0 0) []).toArray 294 (0, 0)), (bw, .cells #[vs s, vi a3, vi e3] 212 (0, 0)), (b13, Obj.cells (entC x).toArray 268 (0, 0))]) := by
        rw [Tryz.ag237, storeAt_p, hlko]
        simp (disch := omega) only [look_same, look_other, st1, upd_some, hsbo, setB_same, setB_other]
      refine kq uOX_1 ?_
      refine Ow.store rfl rfl rfl hst7 ?_
      refine ko uOX_1 ?_
      refine Again.mk (EnH.mk m a3 e3 (l ++ [x]) v4 (D4 ++ [(b3, Obj.cells (entC x).toArray 268 (0, 0)), (b13, Obj.cells (entC x).toArray 268 (0, 0))]) _) (by show m < m + 1; omega) ⟨hJ', hN4.app ⟨by omega, by omega, trivial⟩, ?_, ?_⟩ rfl rfl
      · show Gr _ _ _ _ (l ++ [x]).length ((l ++ [x]).map entC).flatten
        rw [List.length_append, List.map_append, List.flatten_append, show ([x].map entC).flatten = entC x by simp]
        exact Gr.app (.inl hbuf)
      · exact (by classical exact List.perm_iff_count.2 fun a => by simp only [List.count_append, List.count_cons, List.count_nil] <;> omega)
    · have hd := hJ.done hc
      have hsh := hJ.sh (by omega)
      have hcn := hJ.cnt
      have h5 : endE s a e ≠ 5 := by
        unfold endE
        by_cases he : e = 0
        · rw [if_neg (by simp [he]), if_neg (by omega)]; decide
        · rw [if_pos he]; exact hJ.five
      have d1 : (endE s a e == 5) = false := by simpa using h5
      have hE : Ext w [(bo, Obj.cells (roC (vp bw 0) (.slice none 0 0) id0 (.slice none 0 0) []).toArray 294 (0, 0)), (bw, Obj.cells #[vs s, vi 0, vi 0] 212 (0, 0))] ((bo, Obj.cells (roC (vp bw 0) v id0 (.slice none 0 0) []).toArray 294 (0, 0)) :: (bw, Obj.cells #[vs s, vi a, vi e] 212 (0, 0)) :: D) := by
        refine ⟨fun c hc => ?_, fun c hc => ?_⟩
        · simp only [keys, List.map_cons, List.map_nil, List.mem_cons, List.not_mem_nil, or_false] at hc ⊢
          rcases hc with h | h | h
          · exact .inl (.inl h)
          · exact .inl (.inr h)
          · exact .inr (hN.le c h)
        · simp only [keys, List.map_cons, List.map_nil, List.mem_cons, List.not_mem_nil, or_false] at hc ⊢
          rcases hc with h | h
          · exact .inl h
          · exact .inr (.inl h)
      have hF : Gr ((bo, Obj.cells (roC (vp bw 0) v id0 (.slice none 0 0) []).toArray 294 (0, 0)) :: (bw, Obj.cells #[vs s, vi a, vi e] 212 (0, 0)) :: D) 268 34 v l.length (l.map entC).flatten := hG.keep fun b o hb ho => by
        have := hN.le b (key_of_look ho)
        simp (disch := omega) only [look_other]
        exact ho
      unfold TreeRd
      rw [hd]
      refine ko (And.intro uOX_1 @d1) ?_
      refine Ow.callFV rfl Tryz.call74 (fun w' hw' => REndE_spec bw s a e w' (hw'.has _ _ (List.mem_cons_of_mem _ List.mem_cons_self))) ?_
      by_cases he : endE s a e = 0
      · have d2 : (endE s a e == 0) = true := by simp [he]
        rw [d2]
        refine ko (And.intro uOX_1 @d2) ?_
        refine Ow.callFV rfl Tryz.call230 (fun w' hw' => entries_spec v l w' (hG.slM (fun b o hm => hw'.has b o (by simp [hm])) rfl rfl entC_len) (by omega) hsh) ?_
        refine ko uOX_1 ?_
        first | with_reducible refine ks [] uOX_1 ?_ | refine kp uOX_1 ?_
        refine ⟨_, (ke uOX_1), ?_⟩
        exact ⟨hE, rfl, v, by simp only [look_same], hF⟩
      · have d2 : (endE s a e == 0) = false := by simpa using he
        rw [d2]
        refine ko (And.intro uOX_1 @d2) ?_
        first | with_reducible refine ks [] uOX_1 ?_ | refine kp uOX_1 ?_
        refine ⟨_, (ke uOX_1), ?_⟩
        exact ⟨hE, rfl, v, by simp only [look_same], hF⟩
end Go.Proofs
end
section
open Go Go.Proofs Go.Sx Go.StP
namespace Go.Proofs
set_option maxRecDepth 10000
set_option maxHeartbeats 400000
set_option linter.unusedSimpArgs false
set_option linter.defProp false
def uOY_1 := And.intro (And.intro (And.intro (@load_rd0) (And.intro (@load_rd1) (@load_rd2))) (And.intro (And.intro (@store_rd1) (@store_rd2)) (And.intro (@load_ro0) (@load_ro1)))) (And.intro (And.intro (@load_ro2) (And.intro (@load_ro34) (@store_ro2))) (And.intro (And.intro (@store_ro35) (@cells_com)) (And.intro (@rdIn_v8) (@rdIn_vi))))
structure CmH where
  g : Nat
  v : Value
  D : Heap
  H : Heap
/-- What a reader of commits leaves. -/
def ComRd (bo bw : Nat) (s : List UInt8) (v : Value) (D : Heap) : Prop :=
  v = .bool (endE s (comE s).2.1 (comE s).2.2 == 0 && comOk (comE s).1) ∧ ∃ p, Sx.look D bo = some (.cells (roC (vp bw 0) (.slice none 0 0) (comE s).1.tree p (comE s).1.text).toArray 294 (0, 0)) ∧ Gr D 37 32 p (comE s).1.par.length ((comE s).1.par.map idLC).flatten
theorem comRd_spec (bo bw : Nat) (s : List UInt8) (w : World) (hs : s.length < 100000) (hne : bo ≠ bw)
    (ho : w.heap[bo]? = some (.cells (roC (vp bw 0) (.slice none 0 0) id0 (.slice none 0 0) []).toArray 294 (0, 0))) (hr : w.heap[bw]? = some (.cells #[vs s, vi 0, vi 0] 212 (0, 0))) :
    Rets Tryz.prog 213 #[vp bo 0] w (XS w [(bo, Obj.cells (roC (vp bw 0) (.slice none 0 0) id0 (.slice none 0 0) []).toArray 294 (0, 0)), (bw, Obj.cells #[vs s, vi 0, vi 0] 212 (0, 0))] (ComRd bo bw s)) := by
  have hob : bo < w.heap.size := (Array.getElem?_eq_some_iff.1 ho).1
  have hwb : bw < w.heap.size := (Array.getElem?_eq_some_iff.1 hr).1
  refine Rets.enterX Tryz.func213 rfl (rs := [.tmp 2]) Tryz.results213 Tryz.ntmps213 (two_has ho hr) (by simp [keys, hne]) ?_
  refine kf ?_
  first | with_reducible refine ks [] uOY_1 ?_ | refine kp uOY_1 ?_
  refine Ow.callM rfl rfl Tryz.call97 (by simp [keys]) (fun w' hw' => RId_spec bw s 0 0 w' (Nat.zero_le _) (by omega) (hw'.has _ _ (List.mem_cons_of_mem _ List.mem_cons_self))) ?_
  have ip := idE_le (s := s) (a := 0) (e := 0) (Nat.zero_le _)
  have np := numR_le (e := (idR s 0 0).2.2) (most := 4) ip.2
  have nm := numR_mostE (s := s) (a := (idR s 0 0).2.1) (e := (idR s 0 0).2.2) (most := 4) (by decide)
  obtain ⟨T, hT⟩ : ∃ T, mkIdE (idR s 0 0).1 = T := ⟨_, rfl⟩
  have hiT : (idR s 0 0).1 = T.l := by rw [← hT, mkIdE_eq (idE_len s 0 0)]
  have hcE : comE s = (⟨T, (comP s).1, (comT s).1⟩, (comT s).2) := by unfold comE; rw [hT]
  rw [hiT]
  refine kn ?_
  refine ko uOY_1 ?_
  refine Ow.callM rfl rfl Tryz.call95 (by simp [keys]) (fun w' hw' => RNumber_spec bw s _ _ 4 w' ip.2 (by omega) (hw'.has _ _ (List.mem_cons_of_mem _ List.mem_cons_self))) ?_
  have hP : comP s = idsGo s (numR s (idR s 0 0).2.1 (idR s 0 0).2.2 4).2.1 (numR s (idR s 0 0).2.1 (idR s 0 0).2.2 4).2.2 (numR s (idR s 0 0).2.1 (idR s 0 0).2.2 4).1.toNat := rfl
  generalize numR s (idR s 0 0).2.1 (idR s 0 0).2.2 4 = nr at *
  obtain ⟨cn, na, ne⟩ := nr
  simp only at np nm hP ⊢
  obtain ⟨k, rfl⟩ := Int.eq_ofNat_of_zero_le nm.1
  rw [Int.toNat_natCast] at hP
  refine kn ?_
  refine ko uOY_1 ?_
  refine Cw.loopG (G := CmH) [18, 19, 20, 21, 22, 23, 24, 25, 26, 27, 28, 29, 30, 31, 32, 33, 34, 35, 17] (fun q => [(17, vi q.g)]) (fun q => q.H) (fun q => q.g ≤ k ∧ New w.heap.size q.D ∧ Gr q.D 37 32 q.v q.g ((idsGo s na ne q.g).1.map idLC).flatten ∧ ((bo, Obj.cells (roC (vp bw 0) (.slice none 0 0) T q.v []).toArray 294 (0, 0)) :: (bw, Obj.cells #[vs s, vi (idsGo s na ne q.g).2.1, vi (idsGo s na ne q.g).2.2] 212 (0, 0)) :: q.D).Perm q.H) (fun q => k - q.g) ⟨0, .slice none 0 0, [], [(bo, Obj.cells (roC (vp bw 0) (.slice none 0 0) T (.slice none 0 0) []).toArray 294 (0, 0)), (bw, Obj.cells #[vs s, vi na, vi ne] 212 (0, 0))]⟩ rfl rfl ?_ ?_
  · exact ⟨Nat.zero_le _, trivial, Gr.nl, List.Perm.refl _⟩
  · intro q jq hq
    refine kv ?_
    obtain ⟨g, v, D, H0⟩ := q
    simp only at hq ⊢
    obtain ⟨hgk, hN, hG, hPm⟩ := hq
    refine Cw.permL hPm ?_
    clear hPm
    have gle := idsGo_le (e := ne) np.2 g
    by_cases hlt : g < k
    · have hgs : idsGo s na ne (g + 1) = ((idsGo s na ne g).1 ++ [mkIdE (idR s (idsGo s na ne g).2.1 (idsGo s na ne g).2.2).1], (idR s (idsGo s na ne g).2.1 (idsGo s na ne g).2.2).2) := rfl
      first | with_reducible refine ks [] uOY_1 ?_ | refine kp uOY_1 ?_
      refine Cw.regionS [bo] [0, 1, 2, 3, 4, 6, 7, 8, 5, 9, 10, 11, 12, 13, 14, 15, 16] [16] (by kernel_rfl) (by kernel_rfl) (by kernel_rfl) ?_
      simp only [nl_cons, ↓pickL_nil, ↓pickL_cons, ↓nthO_0, ↓nthO_s, consO_some]
      refine kq uOY_1 ?_
      refine Ow.soft rfl rfl rfl ?_
      refine Ow.callM rfl rfl Tryz.call97 (by simp [keys]) (fun w' hw' => RId_spec bw s (idsGo s na ne g).2.1 (idsGo s na ne g).2.2 w' gle (by omega) (hw'.has _ _ (List.mem_cons_of_mem _ List.mem_cons_self))) ?_
      with_reducible refine Ow.nil ?_
      refine ⟨fun b hb => read_setB_ne (by simp only [List.mem_cons, List.not_mem_nil, or_false] at hb; omega), ?_⟩
      have hil := idE_len s (idsGo s na ne g).2.1 (idsGo s na ne g).2.2
      obtain ⟨I, hI⟩ : ∃ I, mkIdE (idR s (idsGo s na ne g).2.1 (idsGo s na ne g).2.2).1 = I := ⟨_, rfl⟩
      have hiI : (idR s (idsGo s na ne g).2.1 (idsGo s na ne g).2.2).1 = I.l := by rw [← hI, mkIdE_eq hil]
      rw [hI] at hgs
      have hg1 : (idsGo s na ne (g + 1)).1 = (idsGo s na ne g).1 ++ [I] := by rw [hgs]
      have hg2 : (idsGo s na ne (g + 1)).2 = (idR s (idsGo s na ne g).2.1 (idsGo s na ne g).2.2).2 := by rw [hgs]
      rw [hiI, ← hg2]
      refine kn ?_
      refine Ow.soft rfl rfl rfl ?_
      refine Ow.buildSlice (e := 37) (a8 I.l) rfl rfl (slice_one (cs := I.l.map v8) Tryz.underlying30 aggIdE zrIdE (by decide) (by simp [I.h])) fun b13 hb13 hw13 => ?_
      with_reducible refine Ow.nil ?_
      refine ⟨readB_appR (by simp [keys]), ?_⟩
      try simp only [List.cons_append, List.nil_append]
      refine Ow.soft rfl rfl rfl ?_
      refine Ow.permL (M := D ++ [(bo, Obj.cells (roC (vp bw 0) (.slice none 0 0) T v []).toArray 294 (0, 0)), (bw, Obj.cells #[vs s, vi (idsGo s na ne (g + 1)).2.1, vi (idsGo s na ne (g + 1)).2.2] 212 (0, 0)), (b13, Obj.cells (a8 I.l) 37 (0, 0))]) (by classical exact List.perm_iff_count.2 fun a => by simp only [List.count_append, List.count_cons, List.count_nil] <;> omega) ?_
      refine Ow.appendX (e := 37) (k := 1) (new := idLC I) (X := D) v rfl rfl rfl rfl Tryz.underlying30 aggIdE (by kernel_rfl) zrIdE (by rw [cells_agg, size_a8, id0.h]) Tryz.underlying30 (by intro k h; cases h) hG (fun w' hw' => AppX.one1 (hw'.has b13 (.cells (a8 I.l) 37 (0, 0)) (by simp)) (idLC_len' I) (idLC_one' I)) (by omega) (by omega) (fun B v4 D4 hA4 hB4 hbuf hk1 hk2 hlk => ?_)
      have hN4 : New w.heap.size D4 := New.of_le fun q hq => by
        rcases hk2 q hq with h | h
        · exact hN.le q h
        · omega
      have ho4 : bo ∉ keys D4 := hN4.not hob
      with_reducible refine Ow.nil ?_
      refine ⟨fun q hq => ?_, ?_⟩
      · rw [List.mem_singleton] at hq
        subst hq
        rw [readB_appr ho4]
        simp only [read_same]
      have hlko : ∀ M, Sx.look (D4 ++ M) bo = Sx.look M bo := fun M => look_app_r ho4
      have hsbo : ∀ M x, setB (D4 ++ M) bo x = D4 ++ setB M bo x := fun M x => setB_appE ho4
      have st1 := fun a E => store_ro34 (vp bw 0) (.slice none 0 0) T v v4 [] a E hbuf.cell
      have hst7 : storeAtV (aggT Tryz.prog 30) (D4 ++ [(bo, Obj.cells (roC (vp bw 0) (.slice none 0 0) T v []).toArray 294 (0, 0)), (bw, Obj.cells #[vs s, vi (idsGo s na ne (g + 1)).2.1, vi (idsGo s na ne (g + 1)).2.2] 212 (0, 0)), (b13, Obj.cells (a8 I.l) 37 (0, 0))]) (vp bo 34) v4 = some (D4 ++ [(bo, Obj.cells (roC (vp bw 0) (.slice none 0 0) T v4 []).toArray 294 (0, 0)), (bw, Obj.cells #[vs s, vi (idsGo s na ne (g + 1)).2.1, vi (idsGo s na ne (g + 1)).2.2] 212 (0, 0)), (b13, Obj.cells (a8 I.l) 37 (0, 0))]) := by
        rw [Tryz.ag30, storeAt_p, hlko]
        simp (disch := omega) only [look_same, look_other, st1, upd_some, hsbo, setB_same, setB_other]
      refine kq uOY_1 ?_
      refine Ow.store rfl rfl rfl hst7 ?_
      refine ko uOY_1 ?_
      refine Again.mk (CmH.mk (g + 1) v4 (D4 ++ [(b13, Obj.cells (a8 I.l) 37 (0, 0))]) _) (by show k - (g + 1) < k - g; omega) ⟨by show g + 1 ≤ k; omega, hN4.app ⟨by omega, trivial⟩, ?_, ?_⟩ rfl rfl
      · show Gr _ _ _ _ (g + 1) ((idsGo s na ne (g + 1)).1.map idLC).flatten
        rw [hg1, List.map_append, List.flatten_append, show ([I].map idLC).flatten = idLC I by simp]
        exact Gr.app (.inl hbuf)
      · exact (by classical exact List.perm_iff_count.2 fun a => by simp only [List.count_append, List.count_cons, List.count_nil] <;> omega)
    · obtain rfl : g = k := by omega
      rw [← hP] at hG
      rw [← hP] at gle
      rw [← hP]
      have tp := textE_le (e := (comP s).2.2) (most := 64) gle
      first | with_reducible refine ks [] uOY_1 ?_ | refine kp uOY_1 ?_
      refine Ow.callM rfl rfl Tryz.call96 (by simp [keys]) (fun w' hw' => RText_spec bw s (comP s).2.1 (comP s).2.2 64 w' gle (by omega) (hw'.has _ _ (List.mem_cons_of_mem _ List.mem_cons_self))) ?_
      refine kn ?_
      refine ko uOY_1 ?_
      have hT2 : comT s = textR s (comP s).2.1 (comP s).2.2 64 := rfl
      have htl := textE_len s (comP s).2.1 (comP s).2.2 64
      rw [hT2] at hcE
      generalize textR s (comP s).2.1 (comP s).2.2 64 = tx at *
      obtain ⟨tt, a3, e3⟩ := tx
      simp only at tp hcE htl ⊢
      have hPl : (comP s).1.length = g := by rw [hP, idsGo_len]
      generalize (comP s).1 = pl at *
      have hC : ∀ w', Hp w ((bo, Obj.cells (roC (vp bw 0) (.slice none 0 0) T v tt).toArray 294 (0, 0)) :: (bw, Obj.cells #[vs s, vi a3, vi e3] 212 (0, 0)) :: D) w' → ComS w' (.agg (comC T v tt).toArray) ⟨T, pl, tt⟩ := fun w' hw' =>
        ⟨v, rfl, hG.slM (fun b o hm => hw'.has b o (by simp [hm])) hPl rfl idLC_len'⟩
      have hE : Ext w [(bo, Obj.cells (roC (vp bw 0) (.slice none 0 0) id0 (.slice none 0 0) []).toArray 294 (0, 0)), (bw, Obj.cells #[vs s, vi 0, vi 0] 212 (0, 0))] ((bo, Obj.cells (roC (vp bw 0) (.slice none 0 0) T v tt).toArray 294 (0, 0)) :: (bw, Obj.cells #[vs s, vi a3, vi e3] 212 (0, 0)) :: D) := by
        refine ⟨fun c hc => ?_, fun c hc => ?_⟩
        · simp only [keys, List.map_cons, List.map_nil, List.mem_cons, List.not_mem_nil, or_false] at hc ⊢
          rcases hc with h | h | h
          · exact .inl (.inl h)
          · exact .inl (.inr h)
          · exact .inr (hN.le c h)
        · simp only [keys, List.map_cons, List.map_nil, List.mem_cons, List.not_mem_nil, or_false] at hc ⊢
          rcases hc with h | h
          · exact .inl h
          · exact .inr (.inl h)
      have hF : Gr ((bo, Obj.cells (roC (vp bw 0) (.slice none 0 0) T v tt).toArray 294 (0, 0)) :: (bw, Obj.cells #[vs s, vi a3, vi e3] 212 (0, 0)) :: D) 37 32 v pl.length (pl.map idLC).flatten := by
        rw [hPl]
        exact hG.keep fun b o hb ho => by
          have := hN.le b (key_of_look ho)
          simp (disch := omega) only [look_other]
          exact ho
      unfold ComRd
      rw [hcE]
      refine Ow.callFV rfl Tryz.call74 (fun w' hw' => REndE_spec bw s a3 e3 w' (hw'.has _ _ (List.mem_cons_of_mem _ List.mem_cons_self))) ?_
      by_cases he : endE s a3 e3 = 0
      · have d2 : (endE s a3 e3 == 0) = true := by simp [he]
        rw [d2]
        refine ko (And.intro uOY_1 @d2) ?_
        refine Ow.callFV rfl Tryz.call231 (fun w' hw' => commit_spec _ _ w' (hC w' hw') (by show pl.length < 1000000; omega) (by show tt.length < 1099511627776; omega)) ?_
        refine ko uOY_1 ?_
        first | with_reducible refine ks [] uOY_1 ?_ | refine kp uOY_1 ?_
        refine ⟨_, (ke uOY_1), ?_⟩
        exact ⟨hE, rfl, v, by simp only [look_same], hF⟩
      · have d2 : (endE s a3 e3 == 0) = false := by simpa using he
        rw [d2]
        refine ko (And.intro uOY_1 @d2) ?_
        first | with_reducible refine ks [] uOY_1 ?_ | refine kp uOY_1 ?_
        refine ⟨_, (ke uOY_1), ?_⟩
        exact ⟨hE, rfl, v, by simp only [look_same], hF⟩
end Go.Proofs
end
section
open Go Go.Proofs Go.Sx Go.StP
namespace Go.Proofs
set_option maxRecDepth 10000
set_option maxHeartbeats 400000
set_option linter.unusedSimpArgs false
/-! ### Objects, read -/
theorem blobRd_spec (v : Value) (w : World) : Rets Tryz.prog 211 #[v] w (fun v' D => v' = .bool true ∧ D = []) := by
  refine Rets.enterV Tryz.func211 rfl (rs := [.tmp 2]) Tryz.results211 Tryz.ntmps211 ?_
  refine kf ?_
  first | with_reducible refine ks [] @Nat.add_zero ?_ | refine kp @Nat.add_zero ?_
  refine ⟨_, (ke @Nat.add_zero), trivial, ?_⟩
  rfl
abbrev obV (k : Int) (t : List UInt8) : Value := .agg #[vi k, vs t]
theorem load_ob (k : Int) (t : List UInt8) (E : TypeId) (fz : Nat × Nat) : loadV (some (true, 2)) (some (.cells #[vi k, vs t] E fz)) 0 = some (obV k t) := (rfl)
theorem load_ob0 (k : Int) (t : List UInt8) (n : Nat) (E : TypeId) (fz : Nat × Nat) : loadV (some (false, n)) (some (.cells #[vi k, vs t] E fz)) 0 = some (vi k) := (rfl)
theorem load_ob1 (k : Int) (t : List UInt8) (n : Nat) (E : TypeId) (fz : Nat × Nat) : loadV (some (false, n)) (some (.cells #[vi k, vs t] E fz)) 1 = some (vs t) := (rfl)
theorem store_ob (k k' : Int) (t t' : List UInt8) (a : Bool) (E : TypeId) : storeV (some (a, 2)) (some (.cells #[vi k', vs t'] E (0, 0))) 0 (obV k t) = some (.cells #[vi k, vs t] E (0, 0)) := (rfl)
set_option linter.defProp false
def uOZ_1 := And.intro (And.intro (@load_ob) (And.intro (@load_ob0) (@load_ob1))) (And.intro (@store_ob) (And.intro (@rdIn_v8) (@rdIn_vi)))
def fnV (k : Nat) : Value := .func (.func k) #[] #[]
def fnsV : Array Value := #[.nilFunc, fnV 211, fnV 212, fnV 213]
abbrev T4 : TypeId := 292
theorem build_fns : buildV (plcT Tryz.prog T4) (zeroV Tryz.prog T4) [(1, fnV 211), (2, fnV 212), (3, fnV 213)] = some (.agg fnsV) := by
  have hp : plcT Tryz.prog T4 = some [(0, 1), (1, 1), (2, 1), (3, 1)] := id (by kernel_rfl)
  have hz : zeroV Tryz.prog T4 = some (.agg #[.nilFunc, .nilFunc, .nilFunc, .nilFunc]) := id (by kernel_rfl)
  rw [hp, hz]; rfl
theorem zrFns : zeroV Tryz.prog T4 = some (.agg #[.nilFunc, .nilFunc, .nilFunc, .nilFunc]) := id (by kernel_rfl)
theorem store_fns (a : Bool) (E : TypeId) : storeV (some (a, 4)) (some (.cells #[.nilFunc, .nilFunc, .nilFunc, .nilFunc] E (0, 0))) 0 (.agg fnsV) = some (.cells fnsV E (0, 0)) := (rfl)
theorem build_ro (x : Value) (hx : x.cells = #[x]) : buildV (plcT Tryz.prog 294) (zeroV Tryz.prog 294) [(0, x)] = some (.agg (roC x (.slice none 0 0) id0 (.slice none 0 0) []).toArray) := by
  have hp : plcT Tryz.prog 294 = some [(0, 1), (1, 1), (2, 34)] := id (by kernel_rfl)
  have hz : zeroV Tryz.prog 294 = some (.agg (roC (.pointer none) (.slice none 0 0) id0 (.slice none 0 0) []).toArray) := id (by kernel_rfl)
  rw [hp, hz]
  simp only [buildV, fillV, List.getElem?_cons_zero, hx]
  rfl
/-- What reading an object gives. -/
def RdOk (k : Int) (t : List UInt8) : Bool :=
  if 1 ≤ k ∧ k ≤ 3 ∧ t.length ≤ 4096 then
    (if k = 1 then true else if k = 2 then (endE t (entsE t).2.1 (entsE t).2.2 == 0 && entsOk (entsE t).1) else (endE t (comE t).2.1 (comE t).2.2 == 0 && comOk (comE t).1))
  else false
def RdS (k : Int) (t : List UInt8) (v : Value) (D : Heap) : Prop :=
  ∃ p, v = .tuple #[p, .bool (RdOk k t)] ∧ (1 ≤ k ∧ k ≤ 3 ∧ t.length ≤ 4096 → ∃ bo bw v1 c1 x1 y1, p = vp bo 0 ∧ Sx.look D bo = some (.cells (roC (vp bw 0) v1 c1 x1 y1).toArray 294 (0, 0)) ∧
    (k = 2 → Gr D 268 34 v1 (entsE t).1.length ((entsE t).1.map entC).flatten) ∧
    (k = 3 → c1 = (comE t).1.tree ∧ y1 = (comE t).1.text ∧ Gr D 37 32 x1 (comE t).1.par.length ((comE t).1.par.map idLC).flatten) ∧ (k ≠ 2 → v1 = .slice none 0 0))
theorem readO_spec (k : Int) (t : List UInt8) (w : World) : Rets Tryz.prog 179 #[obV k t] w (XS w [] (RdS k t)) := by
  refine Rets.enterX Tryz.func179 rfl (rs := [.tmp 2, .tmp 3]) Tryz.results179 Tryz.ntmps179 (fun p hp => by cases hp) (by simp [keys]) ?_
  refine kf ?_
  first | with_reducible refine ks [] @uOZ_1 ?_ | refine kp @uOZ_1 ?_
  refine Ow.box rfl rfl fun b1 hb1 hw1 => ?_
  simp only [ev_tmp, getF_0, getF_s, cells_agg, List.nil_append]
  refine ko @uOZ_1 ?_
  refine Ow.build (.agg fnsV) rfl build_fns ?_
  refine ko @uOZ_1 ?_
  refine Ow.alloc rfl rfl zrFns fun b4 hb4 hw4 => ?_
  simp only [cells_agg, List.nil_append, List.cons_append]
  have h14 : b1 < b4 := above_to hb4 (by simp [keys])
  refine ko (And.intro @uOZ_1 @store_fns) ?_
  by_cases h1 : k < 1
  · have d1 : decide (k < 1) = true := decide_eq_true h1
    have e : RdOk k t = false := by unfold RdOk; rw [if_neg (by omega)]
    first | with_reducible refine ks [] (And.intro @uOZ_1 @d1) ?_ | refine kp (And.intro @uOZ_1 @d1) ?_
    refine ⟨_, (ke @uOZ_1), ?_⟩
    exact ⟨Ext.of_new ⟨hw1, hw4, trivial⟩, .pointer none, by rw [e]; rfl, fun h => absurd h.1 (by omega)⟩
  · have d1 : decide (k < 1) = false := decide_eq_false h1
    by_cases h2 : 3 < k
    · have d2 : decide (3 < k) = true := decide_eq_true h2
      have e : RdOk k t = false := by unfold RdOk; rw [if_neg (by omega)]
      first | with_reducible refine ks [] (And.intro @uOZ_1 ( And.intro @d1 (@d2))) ?_ | refine kp (And.intro @uOZ_1 ( And.intro @d1 (@d2))) ?_
      refine ⟨_, (ke @uOZ_1), ?_⟩
      exact ⟨Ext.of_new ⟨hw1, hw4, trivial⟩, .pointer none, by rw [e]; rfl, fun h => absurd h.2.1 (by omega)⟩
    · have d2 : decide (3 < k) = false := decide_eq_false h2
      by_cases h3 : 4096 < t.length
      · have d3 : decide (4096 < (t.length : Int)) = true := decide_eq_true (by omega)
        have e : RdOk k t = false := by unfold RdOk; rw [if_neg (by omega)]
        first | with_reducible refine ks [] (And.intro @uOZ_1 ( And.intro @d1 ( And.intro @d2 (@d3)))) ?_ | refine kp (And.intro @uOZ_1 ( And.intro @d1 ( And.intro @d2 (@d3)))) ?_
        refine ⟨_, (ke @uOZ_1), ?_⟩
        exact ⟨Ext.of_new ⟨hw1, hw4, trivial⟩, .pointer none, by rw [e]; rfl, fun h => absurd h.2.2 (by omega)⟩
      · have d3 : decide (4096 < (t.length : Int)) = false := decide_eq_false (by omega)
        first | with_reducible refine ks [] (And.intro @uOZ_1 ( And.intro @d1 ( And.intro @d2 (@d3)))) ?_ | refine kp (And.intro @uOZ_1 ( And.intro @d1 ( And.intro @d2 (@d3)))) ?_
        refine Ow.callF rfl rfl Tryz.call71 (S := fun B v D => ∃ b', B ≤ b' ∧ v = vp b' 0 ∧ D = [(b', .cells #[vs t, vi 0, vi 0] 212 (0, 0))]) (fun w' hw' => RNew_spec t w') ?_
        rintro B v D hab hB ⟨bw, hbw, rfl, rfl⟩
        obtain ⟨h1B, h4B, -⟩ := hab
        refine ⟨_, Mrg.fresh (by intro q hq; simp only [keys, List.map_cons, List.map_nil, List.mem_singleton] at hq; omega), ?_⟩
        simp only [List.cons_append, List.nil_append]
        refine ko @uOZ_1 ?_
        refine Ow.build (.agg (roC (vp bw 0) (.slice none 0 0) id0 (.slice none 0 0) []).toArray) rfl (build_ro _ rfl) ?_
        refine ko @uOZ_1 ?_
        refine Ow.box rfl rfl fun bo hbo hwo => ?_
        simp only [ev_tmp, getF_0, getF_s, cells_agg, List.nil_append, List.cons_append]
        have hobw : bo ≠ bw := by have := above_to hbo (show bw ∈ keys _ by simp [keys]); omega
        rcases (show k = 1 ∨ k = 2 ∨ k = 3 by omega) with rfl | rfl | rfl
        · have lf : ∀ n E fz, loadV (some (false, n)) (some (.cells fnsV E fz)) 1 = some (fnV 211) := fun _ _ _ => rfl
          have e : RdOk 1 t = true := by unfold RdOk; rw [if_pos (by omega)]; rfl
          refine ko (And.intro @uOZ_1 @lf) ?_
          refine Ow.callV rfl rfl Tryz.call211 (fun w' hw' => by have := blobRd_spec (vp bo 0) w'; simpa [ev_tmp, getF_s, getF_0] using this) ?_
          refine ko @uOZ_1 ?_
          first | with_reducible refine ks [] @uOZ_1 ?_ | refine kp @uOZ_1 ?_
          refine ⟨_, (ke @uOZ_1), ?_⟩
          refine ⟨Ext.of_new ⟨hw1, hw4, by omega, hwo, trivial⟩, vp bo 0, by rw [e]; rfl, fun h => ⟨bo, bw, .slice none 0 0, id0, .slice none 0 0, [], rfl, ?_, fun h => absurd h (by decide), fun h => absurd h (by decide), fun _ => rfl⟩⟩
          have hb1o : b1 ≠ bo := by have := above_to hbo (show b1 ∈ keys _ by simp [keys]); omega
          have hb4o : b4 ≠ bo := by have := above_to hbo (show b4 ∈ keys _ by simp [keys]); omega
          simp (disch := omega) only [look_same, look_other]
        · have lf : ∀ n E fz, loadV (some (false, n)) (some (.cells fnsV E fz)) 2 = some (fnV 212) := fun _ _ _ => rfl
          have e : RdOk 2 t = (endE t (entsE t).2.1 (entsE t).2.2 == 0 && entsOk (entsE t).1) := by unfold RdOk; rw [if_pos (by omega)]; rfl
          refine ko (And.intro @uOZ_1 @lf) ?_
          refine Ow.permL (M := [(bo, Obj.cells (roC (vp bw 0) (.slice none 0 0) id0 (.slice none 0 0) []).toArray 294 (0, 0)), (bw, Obj.cells #[vs t, vi 0, vi 0] 212 (0, 0))] ++ [(b1, Obj.cells #[vi 2, vs t] 43 (0, 0)), (b4, Obj.cells fnsV 292 (0, 0))]) (by classical exact List.perm_iff_count.2 fun a => by simp only [List.count_append, List.count_cons, List.count_nil] <;> omega) ?_
          refine Ow.callFnX (b := vp bo 0) (X := [(bo, Obj.cells (roC (vp bw 0) (.slice none 0 0) id0 (.slice none 0 0) []).toArray 294 (0, 0)), (bw, Obj.cells #[vs t, vi 0, vi 0] 212 (0, 0))]) (Y := [(b1, Obj.cells #[vi 2, vs t] 43 (0, 0)), (b4, Obj.cells fnsV 292 (0, 0))]) rfl rfl rfl rfl rfl Tryz.call212 (fun w' hw' hX hn => treeRd_spec bo bw t w' (by omega) hobw (hX _ List.mem_cons_self) (hX _ (List.mem_cons_of_mem _ List.mem_cons_self))) (fun v D hC hS => ?_)
          obtain ⟨rfl, v1, hl1, hg1⟩ := hS
          have hNX : New w.heap.size (D ++ [(b1, Obj.cells #[vi 2, vs t] 43 (0, 0)), (b4, Obj.cells fnsV 292 (0, 0))]) := by
            refine New.of_le fun c hc => ?_
            rw [keys_app, List.mem_append] at hc
            rcases hc with hc | hc
            · rcases hC.new c hc with h | ⟨-, h⟩
              · simp only [keys, List.map_cons, List.map_nil, List.mem_cons, List.not_mem_nil, or_false] at h; omega
              · exact h
            · simp only [keys, List.map_cons, List.map_nil, List.mem_cons, List.not_mem_nil, or_false] at hc; omega
          refine ko @uOZ_1 ?_
          first | with_reducible refine ks [] @uOZ_1 ?_ | refine kp @uOZ_1 ?_
          refine ⟨_, (ke @uOZ_1), ?_⟩
          exact ⟨Ext.of_new hNX, vp bo 0, by rw [e]; rfl, fun _ => ⟨bo, bw, v1, _, _, _, rfl, look_app hl1, fun _ => hg1.app, fun h => absurd h (by decide), fun h => absurd rfl h⟩⟩
        · have lf : ∀ n E fz, loadV (some (false, n)) (some (.cells fnsV E fz)) 3 = some (fnV 213) := fun _ _ _ => rfl
          have e : RdOk 3 t = (endE t (comE t).2.1 (comE t).2.2 == 0 && comOk (comE t).1) := by unfold RdOk; rw [if_pos (by omega)]; rfl
          refine ko (And.intro @uOZ_1 @lf) ?_
          refine Ow.permL (M := [(bo, Obj.cells (roC (vp bw 0) (.slice none 0 0) id0 (.slice none 0 0) []).toArray 294 (0, 0)), (bw, Obj.cells #[vs t, vi 0, vi 0] 212 (0, 0))] ++ [(b1, Obj.cells #[vi 3, vs t] 43 (0, 0)), (b4, Obj.cells fnsV 292 (0, 0))]) (by classical exact List.perm_iff_count.2 fun a => by simp only [List.count_append, List.count_cons, List.count_nil] <;> omega) ?_
          refine Ow.callFnX (b := vp bo 0) (X := [(bo, Obj.cells (roC (vp bw 0) (.slice none 0 0) id0 (.slice none 0 0) []).toArray 294 (0, 0)), (bw, Obj.cells #[vs t, vi 0, vi 0] 212 (0, 0))]) (Y := [(b1, Obj.cells #[vi 3, vs t] 43 (0, 0)), (b4, Obj.cells fnsV 292 (0, 0))]) rfl rfl rfl rfl rfl Tryz.call213 (fun w' hw' hX hn => comRd_spec bo bw t w' (by omega) hobw (hX _ List.mem_cons_self) (hX _ (List.mem_cons_of_mem _ List.mem_cons_self))) (fun v D hC hS => ?_)
          obtain ⟨rfl, p1, hl1, hg1⟩ := hS
          have hNX : New w.heap.size (D ++ [(b1, Obj.cells #[vi 3, vs t] 43 (0, 0)), (b4, Obj.cells fnsV 292 (0, 0))]) := by
            refine New.of_le fun c hc => ?_
            rw [keys_app, List.mem_append] at hc
            rcases hc with hc | hc
            · rcases hC.new c hc with h | ⟨-, h⟩
              · simp only [keys, List.map_cons, List.map_nil, List.mem_cons, List.not_mem_nil, or_false] at h; omega
              · exact h
            · simp only [keys, List.map_cons, List.map_nil, List.mem_cons, List.not_mem_nil, or_false] at hc; omega
          refine ko @uOZ_1 ?_
          first | with_reducible refine ks [] @uOZ_1 ?_ | refine kp @uOZ_1 ?_
          refine ⟨_, (ke @uOZ_1), ?_⟩
          exact ⟨Ext.of_new hNX, vp bo 0, by rw [e]; rfl, fun _ => ⟨bo, bw, _, _, p1, _, rfl, look_app hl1, fun h => absurd h (by decide), fun _ => ⟨rfl, rfl, hg1.app⟩, fun _ => rfl⟩⟩
end Go.Proofs
end
section
open Go Go.Proofs Go.Sx Go.StP
namespace Go.Proofs
set_option maxRecDepth 10000
set_option maxHeartbeats 400000
set_option linter.unusedSimpArgs false
set_option linter.defProp false
def uPA_1 := And.intro (And.intro (And.intro (@load_ob) (@load_ob0)) (And.intro (@load_ob1) (@store_ob))) (And.intro (And.intro (@Sx.tup2_0) (@Sx.tup2_1)) (And.intro (@rdIn_v8) (@rdIn_vi)))
theorem RightO_spec (k : Int) (t : List UInt8) (w : World) : Rets Tryz.prog 156 #[obV k t] w (fun v D => v = .bool (RdOk k t) ∧ D = []) := by
  refine Rets.enterV Tryz.func156 rfl (rs := [.tmp 2]) Tryz.results156 Tryz.ntmps156 ?_
  refine kf ?_
  first | with_reducible refine ks [] @uPA_1 ?_ | refine kp @uPA_1 ?_
  refine Ow.box rfl rfl fun b1 hb1 hw1 => ?_
  simp only [ev_tmp, getF_0, getF_s, cells_agg, List.nil_append]
  refine ko @uPA_1 ?_
  refine Ow.callC rfl rfl Tryz.call179 (fun w' hw' => readO_spec k t w') (fun B v D hA hB hN hS => ?_)
  obtain ⟨p, rfl, -⟩ := hS
  refine ko @uPA_1 ?_
  first | with_reducible refine ks [] @uPA_1 ?_ | refine kp @uPA_1 ?_
  refine ⟨_, (ke @uPA_1), ⟨hw1, New.mono hB hN⟩, ?_⟩
  rfl
/-- What is made of an object that should be. -/
def madeK (k : Int) (t : List UInt8) (ok : Bool) : Int := if ok && RdOk k t then k else 0
def madeT (k : Int) (t : List UInt8) (ok : Bool) : List UInt8 := if ok && RdOk k t then t else []
def madeE (k : Int) (t : List UInt8) (ok : Bool) : Int := if ok && RdOk k t then 0 else 1
theorem zrOb : zeroV Tryz.prog 43 = some (obV 0 []) := id (by kernel_rfl)
theorem build_ob0 : buildV (plcT Tryz.prog 43) (zeroV Tryz.prog 43) [] = some (obV 0 []) := by
  have hp : plcT Tryz.prog 43 = some [(0, 1), (1, 1)] := id (by kernel_rfl)
  rw [hp, zrOb]; rfl
theorem build_ob2 (k : Int) (t : List UInt8) : buildV (plcT Tryz.prog 43) (zeroV Tryz.prog 43) [(0, vi k), (1, vs t)] = some (obV k t) := by
  have hp : plcT Tryz.prog 43 = some [(0, 1), (1, 1)] := id (by kernel_rfl)
  rw [hp, zrOb]; rfl
end Go.Proofs
end
section
open Go Go.Proofs Go.Sx Go.StP
namespace Go.Proofs
set_option maxRecDepth 10000
set_option maxHeartbeats 400000
set_option linter.unusedSimpArgs false
set_option linter.defProp false
def uPB_1 := And.intro (And.intro (And.intro (@load_ob) (And.intro (@load_ob0) (@load_ob1))) (And.intro (@store_ob) (And.intro (@Sx.tup2_0) (@Sx.tup2_1)))) (And.intro (And.intro (@load_com0) (And.intro (@load_com1) (@load_com2))) (And.intro (And.intro (@load_com) (@cells_com)) (And.intro (@rdIn_v8) (@rdIn_vi))))
theorem BldAt.zeroE (b : Nat) {L : Heap} (h : Sx.look L b = some (.cells #[.pointer none, .slice none 0 0] 123 (0, 0))) : BldAt b [] L :=
  ⟨_, _, h, .inl rfl, .nl, fun h => by cases h⟩
theorem zrWr : zeroV Tryz.prog 123 = some (.agg #[.pointer none, .slice none 0 0]) := id (by kernel_rfl)
theorem Came.newE {w0 : World} {L X D : Heap} {b : Nat} (hC : Came w0 L X D) (hN : New (b + 1) X) (hb : b ∈ keys L) : New (b + 1) D := New.of_le fun c hc => by
  rcases hC.new c hc with h | ⟨h, -⟩
  · exact hN.le c h
  · have := above_to h hb; omega
end Go.Proofs
end
section
open Go Go.Proofs Go.Sx Go.StP
namespace Go.Proofs
set_option maxRecDepth 10000
set_option maxHeartbeats 400000
set_option linter.unusedSimpArgs false
set_option linter.defProp false
def uPC_1 := And.intro (And.intro (And.intro (@load_ob) (And.intro (@load_ob0) (@load_ob1))) (And.intro (And.intro (@store_ob) (@Sx.tup2_0)) (And.intro (@Sx.tup2_1) (@load_ent0)))) (And.intro (And.intro (@load_ent1) (And.intro (@load_ent2) (@load_ent))) (And.intro (And.intro (@store_entr) (@cells_ent)) (And.intro (@rdIn_v8) (@rdIn_vi))))
structure WrG where
  g : Nat
  D : Heap
end Go.Proofs
end
section
open Go Go.Proofs Go.Sx Go.StP
namespace Go.Proofs
set_option maxRecDepth 10000
set_option maxHeartbeats 400000
set_option linter.unusedSimpArgs false
theorem RdOk_in {k : Int} {t : List UInt8} (h : RdOk k t = true) : 1 ≤ k ∧ k ≤ 3 ∧ t.length ≤ 4096 := by
  unfold RdOk at h
  split at h
  · assumption
  · cases h
set_option linter.defProp false
def uPD_1 := And.intro (And.intro (And.intro (@load_ob) (@load_ob0)) (And.intro (@load_ob1) (And.intro (@store_ob) (@Sx.tup2_0)))) (And.intro (And.intro (@Sx.tup2_1) (And.intro (@load_ro0) (@load_ro1))) (And.intro (@load_ro2) (And.intro (@rdIn_v8) (@rdIn_vi))))
def EntsS (k : Int) (t : List UInt8) (v : Value) (D : Heap) : Prop :=
  if RdOk k t = true ∧ k = 2 then ∃ v1, v = .tuple #[v1, vi 0] ∧ Gr D 268 34 v1 (entsE t).1.length ((entsE t).1.map entC).flatten else v = .tuple #[.slice none 0 0, vi 1]
def ComsS (k : Int) (t : List UInt8) (v : Value) (D : Heap) : Prop :=
  if RdOk k t = true ∧ k = 3 then ∃ p, v = .tuple #[.agg (comC (comE t).1.tree p (comE t).1.text).toArray, vi 0] ∧ Gr D 37 32 p (comE t).1.par.length ((comE t).1.par.map idLC).flatten else v = .tuple #[.agg (comC id0 (.slice none 0 0) []).toArray, vi 1]
end Go.Proofs
end
section
open Go Go.Proofs Go.Sx Go.StP
namespace Go.Proofs
set_option maxRecDepth 10000
set_option maxHeartbeats 400000
set_option linter.unusedSimpArgs false
set_option linter.defProp false
def uPE_1 := And.intro (And.intro (And.intro (@load_ob) (@load_ob0)) (And.intro (@load_ob1) (@store_ob))) (And.intro (And.intro (@Sx.tup2_0) (@Sx.tup2_1)) (And.intro (@rdIn_v8) (@rdIn_vi)))
def headB (k : Int) : List UInt8 := (([32, 98, 116, 99] : List UInt8).take (k + 1).toNat).drop k.toNat
def frameB (k : Int) (t : List UInt8) : List UInt8 := headB k ++ textL t
theorem FrameO_spec (k : Int) (t : List UInt8) (w : World) : Rets Tryz.prog 159 #[obV k t] w (XS w [] (fun v _ => v = if RdOk k t then .tuple #[vs (frameB k t), vi 0] else .tuple #[vs [], vi 1])) := by
  refine Rets.enterX Tryz.func159 rfl (rs := [.tmp 2, .tmp 3]) Tryz.results159 Tryz.ntmps159 (fun p hp => by cases hp) (by simp [keys]) ?_
  refine kf ?_
  first | with_reducible refine ks [] @uPE_1 ?_ | refine kp @uPE_1 ?_
  refine Ow.box rfl rfl fun b1 hb1 hw1 => ?_
  simp only [ev_tmp, getF_0, getF_s, cells_agg, List.nil_append]
  refine ko @uPE_1 ?_
  refine Ow.callFV rfl Tryz.call156 (fun w' hw' => RightO_spec k t w') ?_
  cases hr : RdOk k t
  · refine ko @uPE_1 ?_
    first | with_reducible refine ks [] @uPE_1 ?_ | refine kp @uPE_1 ?_
    refine ⟨_, (ke @uPE_1), ?_⟩
    exact ⟨Ext.of_new ⟨hw1, trivial⟩, rfl⟩
  · obtain ⟨hk1, hk3, htl⟩ := RdOk_in hr
    have hhl : (headB k).length ≤ 4 := by unfold headB; simp only [List.length_drop, List.length_take, List.length_cons, List.length_nil]; omega
    refine ko @uPE_1 ?_
    refine Ow.alloc rfl rfl zrWr fun b4 hb4 hw4 => ?_
    simp only [cells_agg, List.nil_append, List.cons_append]
    have h14 : b1 < b4 := above_to hb4 (by simp [keys])
    refine Ow.permL (M := [(b4, Obj.cells #[.pointer none, .slice none 0 0] 123 (0, 0))] ++ [(b1, Obj.cells #[vi k, vs t] 43 (0, 0))]) (by classical exact List.perm_iff_count.2 fun a => by simp only [List.count_append, List.count_cons, List.count_nil] <;> omega) ?_
    have hB0 : BldAt b4 [] [(b4, Obj.cells #[.pointer none, .slice none 0 0] 123 (0, 0))] := BldAt.zeroE b4 (look_same _ _ _)
    have hN0 : New (b1 + 1) [(b4, Obj.cells #[.pointer none, .slice none 0 0] 123 (0, 0))] := ⟨by omega, trivial⟩
    generalize [(b4, Obj.cells #[.pointer none, .slice none 0 0] 123 (0, 0))] = D0 at hB0 hN0 ⊢
    have rdc : ∀ {D}, New (b1 + 1) D → ∀ M, readB w (D ++ (b1, Obj.cells #[vi k, vs t] 43 (0, 0)) :: M) b1 = some (.cells #[vi k, vs t] 43 (0, 0)) := fun hn M => read_look (by rw [look_app_r (hn.not (by omega))]; exact look_same _ _ _)
    have r0 := rdc hN0
    have hsl : sliceV .str (vs ([32, 98, 116, 99] : List UInt8)) (some (some k)) (some (some (k + 1))) = some (vs (headB k)) := slice_str_both _ _ _ ⟨by omega, by omega, by simp only [List.length_cons, List.length_nil]; omega⟩
    refine ko (And.intro @uPE_1 ( And.intro @r0 (@hsl))) ?_
    refine Ow.buildSlice (e := 9) #[vs (headB k)] rfl rfl (by kernel_rfl) fun b14 hb14 hw14 => ?_
    have h114 : b1 < b14 := above_to hb14 (by simp [keys])
    have hD14 : b14 ∉ keys D0 := fun hm => Nat.lt_irrefl _ (above_to hb14 (by rw [keys_app]; exact List.mem_append_left _ hm))
    refine ko @uPE_1 ?_
    refine Ow.callX (Y := [(b1, Obj.cells #[vi k, vs t] 43 (0, 0)), (b14, Obj.cells #[vs (headB k)] 9 (0, 0))]) (by simp) rfl rfl Tryz.call60 (fun w' hw' hX hn => WRaw_spec b4 D0 _ _ b14 0 [headB k] _ _ _ w' hB0 hX hn (StrS.lit [headB k] rfl rfl (hw'.has _ _ (List.mem_append_right _ List.mem_cons_self))) (fun _ => hD14) (by simp; omega) (by simp)) (fun u0 E0 hC0 hS0 => ?_)
    obtain ⟨rfl, hB0'⟩ := hS0
    have hN0' := Came.newE hC0 hN0 (by simp [keys])
    have hB1 := hB0'.app (Y := [(b14, Obj.cells #[vs (headB k)] 9 (0, 0))])
    have hN1 := hN0'.app (show New (b1 + 1) [(b14, Obj.cells #[vs (headB k)] 9 (0, 0))] from ⟨by omega, trivial⟩)
    refine Ow.permL (M := (E0 ++ [(b14, Obj.cells #[vs (headB k)] 9 (0, 0))]) ++ [(b1, Obj.cells #[vi k, vs t] 43 (0, 0))]) (by classical exact List.perm_iff_count.2 fun a => by simp only [List.count_append, List.count_cons, List.count_nil] <;> omega) ?_
    generalize E0 ++ [(b14, Obj.cells #[vs (headB k)] 9 (0, 0))] = F1 at hB1 hN1 ⊢
    simp only [List.flatten_cons, List.flatten_nil, List.append_nil, List.nil_append] at hB1
    have r1 := rdc hN1
    refine ko (And.intro @uPE_1 @r1) ?_
    have htx : textsL [t] = textL t := by simp [textsL]
    have tll := textL_len (s := t) (by omega)
    have tnl : (textL t).length = (numL (clampN t.length)).length + t.length := by unfold textL; rw [List.length_append]
    have nl1 := numL_clamp_len (t.length : Int)
    refine Ow.buildSlice (e := 9) #[vs t] rfl rfl (by kernel_rfl) fun b18 hb18 hw18 => ?_
    have h118 : b1 < b18 := above_to hb18 (by simp [keys])
    have hD18 : b18 ∉ keys F1 := fun hm => Nat.lt_irrefl _ (above_to hb18 (by rw [keys_app]; exact List.mem_append_left _ hm))
    refine ko @uPE_1 ?_
    refine Ow.callX (Y := [(b1, Obj.cells #[vi k, vs t] 43 (0, 0)), (b18, Obj.cells #[vs t] 9 (0, 0))]) (by simp) rfl rfl Tryz.call62 (fun w' hw' hX hn => WText_spec b4 F1 _ _ b18 0 [t] _ _ _ w' hB1 hX hn (StrS.lit [t] rfl rfl (hw'.has _ _ (List.mem_append_right _ List.mem_cons_self))) (fun _ => hD18) (by rw [htx]; omega) (by simp)) (fun u1 E1 hC1 hS1 => ?_)
    obtain ⟨rfl, hB1'⟩ := hS1
    have hN1' := Came.newE hC1 hN1 (by simp [keys])
    have hB2 := hB1'.app (Y := [(b18, Obj.cells #[vs t] 9 (0, 0))])
    have hN2 := hN1'.app (show New (b1 + 1) [(b18, Obj.cells #[vs t] 9 (0, 0))] from ⟨by omega, trivial⟩)
    refine Ow.permL (M := (E1 ++ [(b18, Obj.cells #[vs t] 9 (0, 0))]) ++ [(b1, Obj.cells #[vi k, vs t] 43 (0, 0))]) (by classical exact List.perm_iff_count.2 fun a => by simp only [List.count_append, List.count_cons, List.count_nil] <;> omega) ?_
    generalize E1 ++ [(b18, Obj.cells #[vs t] 9 (0, 0))] = F2 at hB2 hN2 ⊢
    rw [htx] at hB2
    refine ko @uPE_1 ?_
    refine Ow.callX (Y := [(b1, Obj.cells #[vi k, vs t] 43 (0, 0))]) (by simp) rfl rfl Tryz.call64 (fun w' hw' hX hn => WString_spec b4 F2 _ w' hB2 hX hn (by rw [List.length_append]; omega)) (fun v5 D5 hC5 hS5 => ?_)
    obtain rfl := hS5
    have hN5 := Came.newE hC5 hN2 (by simp [keys])
    refine ko @uPE_1 ?_
    first | with_reducible refine ks [] @uPE_1 ?_ | refine kp @uPE_1 ?_
    refine ⟨_, (ke @uPE_1), ?_⟩
    exact ⟨Ext.of_new ((New.mono (by omega) hN5).app ⟨hw1, trivial⟩), rfl⟩
end Go.Proofs
end
section
open Go Go.Proofs Go.Sx Go.StP
namespace Go.Proofs
set_option maxRecDepth 10000
set_option maxHeartbeats 400000
set_option linter.unusedSimpArgs false
set_option linter.defProp false
def uPF_1 := And.intro (And.intro (And.intro (@load_ob) (@load_ob0)) (And.intro (@load_ob1) (@store_ob))) (And.intro (And.intro (@Sx.tup2_0) (@Sx.tup2_1)) (And.intro (@cells_com) (And.intro (@rdIn_v8) (@rdIn_vi))))
def rightL (k : Int) (t : List UInt8) : Bool := if 4096 < t.length then false else if k = 2 then (readE t).isSome else if k = 3 then (readC t).isSome else k == 1
theorem RightL_spec (k : Int) (t : List UInt8) (w : World) : Rets Tryz.prog 133 #[obV k t] w (fun v D => v = .bool (rightL k t) ∧ D = []) := by
  refine Rets.enterV Tryz.func133 rfl (rs := [.tmp 2]) Tryz.results133 Tryz.ntmps133 ?_
  refine kf ?_
  first | with_reducible refine ks [] @uPF_1 ?_ | refine kp @uPF_1 ?_
  refine Ow.box rfl rfl fun b1 hb1 hw1 => ?_
  simp only [ev_tmp, getF_0, getF_s, cells_agg, List.nil_append]
  refine ko @uPF_1 ?_
  unfold rightL
  by_cases h3 : 4096 < t.length
  · have d1 : decide (4096 < (t.length : Int)) = true := decide_eq_true (by omega)
    rw [if_pos h3]
    first | with_reducible refine ks [] (And.intro @uPF_1 @d1) ?_ | refine kp (And.intro @uPF_1 @d1) ?_
    refine ⟨_, (ke @uPF_1), ⟨hw1, trivial⟩, ?_⟩
    rfl
  · have d1 : decide (4096 < (t.length : Int)) = false := decide_eq_false (by omega)
    rw [if_neg h3]
    by_cases h2 : k = 2
    · subst h2
      rw [if_pos rfl]
      first | with_reducible refine ks [] (And.intro @uPF_1 @d1) ?_ | refine kp (And.intro @uPF_1 @d1) ?_
      refine Ow.callC rfl rfl Tryz.call165 (fun w' hw' => EntriesR_spec t w' (by omega)) (fun B v D hA hB hN hS => ?_)
      obtain ⟨p, b, rfl, hb⟩ : ∃ p b, v = .tuple #[p, .bool b] ∧ (readE t).isSome = b := by
        unfold ReadES at hS
        cases h : readE t with
        | none => rw [h] at hS; exact ⟨_, _, hS, rfl⟩
        | some l => rw [h] at hS; obtain ⟨v1, rfl, -⟩ := hS; exact ⟨_, _, rfl, rfl⟩
      rw [hb]
      refine ko @uPF_1 ?_
      first | with_reducible refine ks [] @uPF_1 ?_ | refine kp @uPF_1 ?_
      refine ⟨_, (ke @uPF_1), ⟨hw1, New.mono hB hN⟩, ?_⟩
      rfl
    · have d2 : (k == 2) = false := by simpa using h2
      rw [if_neg h2]
      by_cases h4 : k = 3
      · subst h4
        rw [if_pos rfl]
        first | with_reducible refine ks [] (And.intro @uPF_1 ( And.intro @d1 (@d2))) ?_ | refine kp (And.intro @uPF_1 ( And.intro @d1 (@d2))) ?_
        refine Ow.callC rfl rfl Tryz.call166 (fun w' hw' => CommitRd_spec t w' (by omega)) (fun B v D hA hB hN hS => ?_)
        obtain ⟨c, p, x, b, rfl, hp, hb⟩ : ∃ c p x b, v = .tuple #[.agg (comC c p x).toArray, .bool b] ∧ Value.oneCell' p = true ∧ (readC t).isSome = b := by
          unfold ReadCS at hS
          cases h : readC t with
          | none => rw [h] at hS; exact ⟨_, _, _, _, hS, rfl, rfl⟩
          | some l => rw [h] at hS; obtain ⟨v1, rfl, hg⟩ := hS; exact ⟨_, _, _, _, rfl, hg.cell.1, rfl⟩
        rw [hb]
        have stq : ∀ a E, storeV (some (a, 34)) (some (.cells (comC id0 (.slice none 0 0) []).toArray E (0, 0))) 0 (.agg (comC c p x).toArray) = some (.cells (comC c p x).toArray E (0, 0)) := fun a E => store_com _ _ _ _ a E (by rw [List.size_toArray, comC_len]) hp
        refine ko @uPF_1 ?_
        refine Ow.alloc rfl rfl zrCom fun b5 hb5 hw5 => ?_
        simp only [cells_agg, List.nil_append, List.cons_append]
        refine Ow.permL (M := (b5, Obj.cells (comC id0 (.slice none 0 0) []).toArray 241 (0, 0)) :: (b1, Obj.cells #[vi 3, vs t] 43 (0, 0)) :: D) (by classical exact List.perm_iff_count.2 fun a => by simp only [List.count_append, List.count_cons, List.count_nil] <;> omega) ?_
        refine ko (And.intro @uPF_1 @stq) ?_
        first | with_reducible refine ks [] @uPF_1 ?_ | refine kp @uPF_1 ?_
        refine ⟨_, (ke @uPF_1), ⟨hw5, hw1, New.mono hB hN⟩, ?_⟩
        rfl
      · have d3 : (k == 3) = false := by simpa using h4
        rw [if_neg h4]
        first | with_reducible refine ks [] (And.intro @uPF_1 ( And.intro @d1 ( And.intro @d2 (@d3)))) ?_ | refine kp (And.intro @uPF_1 ( And.intro @d1 ( And.intro @d2 (@d3)))) ?_
        refine ⟨_, (ke @uPF_1), ⟨hw1, trivial⟩, ?_⟩
        rfl
end Go.Proofs
end
section
open Go Go.Proofs Go.Sx Go.StP
namespace Go.Proofs
set_option maxRecDepth 10000
set_option maxHeartbeats 400000
set_option linter.unusedSimpArgs false
/-! ### What was read was written so -/
theorem numL_posE (n : Nat) : 0 < (numL n).length := by
  by_cases h : n < 128
  · rw [numL_small h]; simp
  · rw [numL_big h]; simp
theorem numGo_canon (most : Int) : ∀ (l : List UInt8) (k acc m k' : Nat), numGo most l k acc = .ok (m, k') → ∃ n, l = numL n ++ l.drop (k' - k) ∧ m = acc + n * 128 ^ k ∧ (0 < k → 0 < n) ∧ k < k' := by
  intro l
  induction l with
  | nil => intro k acc m k' h; simp [numGo] at h
  | cons c r ih =>
    intro k acc m k' h
    unfold numGo at h
    have hcl := c.toNat_lt
    split at h
    · rename_i hc
      split at h
      · cases h
      · obtain ⟨n, h1, h2, h3, h4⟩ := ih _ _ _ _ h
        have hn := h3 (by omega)
        refine ⟨c.toNat % 128 + 128 * n, ?_, ?_, fun _ => by omega, by omega⟩
        · rw [numL_big (by omega), show (c.toNat % 128 + 128 * n) / 128 = n by omega, show (c.toNat % 128 + 128 * n) % 128 + 128 = c.toNat by omega]
          rw [show k' - k = (k' - (k + 1)) + 1 by omega, List.drop_succ_cons, List.cons_append, ← h1]
          simp
        · rw [h2, Nat.pow_succ, Nat.add_mul, Nat.add_assoc]
          congr 2
          rw [Nat.mul_comm 128 n, Nat.mul_assoc, Nat.mul_comm (128 ^ k) 128]
    · rename_i hc
      split at h
      · cases h
      · rename_i hz
        split at h
        · cases h
          refine ⟨c.toNat, ?_, ?_, fun hk => by omega, by omega⟩
          · rw [numL_small (by omega), Nat.add_sub_cancel_left]
            simp
          · rw [Nat.mod_eq_of_lt (by omega)]
        · cases h
theorem clampN_idE {n : Nat} (h : n ≤ 1099511627775) : clampN (n : Int) = n := clampN_nat (by omega)
theorem numGo_boundE (most : Int) : ∀ (l : List UInt8) (k n m k' : Nat), numGo most l k n = .ok (m, k') → m ≤ 1099511627775
  | [], _, _, _, _, h => by simp [numGo] at h
  | c :: r, k, n, m, k', h => by
    unfold numGo at h
    split at h
    · split at h
      · cases h
      · exact numGo_boundE most r _ _ _ _ h
    · split at h
      · cases h
      · split at h
        · rename_i hh
          cases h
          exact hh.1
        · cases h
theorem numR_canon {s : List UInt8} {a : Nat} {most : Int} (h : (numR s a 0 most).2.2 = 0) : ∃ n : Nat, (numR s a 0 most).1 = (n : Int) ∧ n ≤ 1099511627775 ∧ (n : Int) ≤ most ∧ s.drop a = numL n ++ s.drop (numR s a 0 most).2.1 := by
  unfold numR at h ⊢
  rw [if_neg (by simp)] at h ⊢
  cases hg : numGo most (s.drop a) 0 0 with
  | ok p =>
    obtain ⟨m, k⟩ := p
    obtain ⟨n, h1, h2, -, -⟩ := numGo_canon _ _ _ _ _ _ hg
    obtain rfl : m = n := by rw [h2]; simp
    refine ⟨m, rfl, numGo_boundE _ _ _ _ _ _ hg, numGo_mostE _ _ _ _ _ _ hg, ?_⟩
    rw [Nat.sub_zero, List.drop_drop] at h1
    exact h1
  | error x =>
    rw [hg] at h
    exfalso
    have : x = 0 := by have : ((x : Nat) : Int) = 0 := h; omega
    subst this
    exact numGo_0 _ _ _ _ hg
theorem rawR_canon {s : List UInt8} {a : Nat} {n : Int} (ha : a ≤ s.length) (h : (rawR s a 0 n).2.2 = 0) : 0 ≤ n ∧ (rawR s a 0 n).1.length = n.toNat ∧ s.drop a = (rawR s a 0 n).1 ++ s.drop (rawR s a 0 n).2.1 := by
  unfold rawR at h ⊢
  rw [if_neg (by simp)] at h ⊢
  split at h
  · exact absurd (show (2 : Int) = 0 from h) (by decide)
  · rename_i h1
    rw [if_neg h1]
    split at h
    · exact absurd (show (3 : Int) = 0 from h) (by decide)
    · rename_i h2
      rw [if_neg h2]
      refine ⟨by omega, ?_, ?_⟩
      · simp only [List.length_take, List.length_drop]; omega
      · simp only
        rw [← List.drop_drop, List.take_append_drop]
theorem textR_canon {s : List UInt8} {a : Nat} {most : Int} (ha : a ≤ s.length) (h : (textR s a 0 most).2.2 = 0) : ((textR s a 0 most).1.length : Int) ≤ most ∧ s.drop a = textL (textR s a 0 most).1 ++ s.drop (textR s a 0 most).2.1 := by
  have hle := numR_le (e := 0) (most := most) ha
  have e1 : (numR s a 0 most).2.2 = 0 := Decidable.byContradiction fun hn => by
    unfold textR at h
    simp only [rawR_e hn] at h
    rw [if_pos hn] at h
    exact hn h
  obtain ⟨n, hn, hb, hm, hd⟩ := numR_canon e1
  unfold textR at h ⊢
  simp only at h ⊢
  generalize numR s a 0 most = p at *
  obtain ⟨p1, p2, p3⟩ := p
  simp only at e1 hn hd hle h ⊢
  subst e1 hn
  have e2 : (rawR s p2 0 (n : Int)).2.2 = 0 := Decidable.byContradiction fun hh => by rw [if_pos hh] at h; exact hh h
  rw [if_neg (by simp [e2])]
  obtain ⟨-, hl, hr⟩ := rawR_canon hle.2 e2
  rw [Int.toNat_natCast] at hl
  refine ⟨by rw [hl]; exact hm, ?_⟩
  unfold textL
  rw [hl, clampN_idE hb, List.append_assoc, ← hr]
  exact hd
theorem idR_canon {s : List UInt8} {a : Nat} (ha : a ≤ s.length) (h : (idR s a 0).2.2 = 0) : s.drop a = (mkIdE (idR s a 0).1).l ++ s.drop (idR s a 0).2.1 := by
  have e2 : (rawR s a 0 32).2.2 = 0 := h
  obtain ⟨-, hl, hr⟩ := rawR_canon ha e2
  rw [mkIdE_eq (idE_len s a 0)]
  unfold idR
  simp only
  have hl' : (rawR s a 0 32).1.length = 32 := hl
  rw [if_pos hl']
  exact hr
theorem entR_canon {s : List UInt8} {a : Nat} (ha : a ≤ s.length) (h : (entR s a 0).2.2 = 0) : s.drop a = entB (entR s a 0).1 ++ s.drop (entR s a 0).2.1 := by
  have hq := numR_le (e := 0) (most := 2) ha
  unfold entR at h ⊢
  simp only at h ⊢
  have e1 : (numR s a 0 2).2.2 = 0 := Decidable.byContradiction fun hn => by
    rw [idR_e (by rw [textR_e hn]; exact hn), textR_e hn] at h; exact hn h
  obtain ⟨n, hn, hb, -, hd⟩ := numR_canon e1
  generalize numR s a 0 2 = p at *
  obtain ⟨p1, p2, p3⟩ := p
  simp only at e1 hn hd hq h ⊢
  subst e1 hn
  have ht := textE_le (e := 0) (most := 32) hq.2
  have e2 : (textR s p2 0 32).2.2 = 0 := Decidable.byContradiction fun hn => by rw [idR_e hn] at h; exact hn h
  obtain ⟨-, hd2⟩ := textR_canon hq.2 e2
  generalize textR s p2 0 32 = q at *
  obtain ⟨q1, q2, q3⟩ := q
  simp only at e2 hd2 ht h ⊢
  subst e2
  have hd3 := idR_canon ht.2 h
  unfold entB
  simp only
  rw [clampN_idE hb, List.append_assoc, List.append_assoc, ← hd3, ← hd2]
  exact hd
theorem treeB_app1 (l : List EntL) (x : EntL) : treeB (l ++ [x]) = treeB l ++ entB x := by unfold treeB; simp
theorem entsGo_canon {s : List UInt8} : ∀ (n a : Nat) (e : Int) (l : List EntL), a ≤ s.length → (e = 0 → s = treeB l ++ s.drop a) → ((entsGo s n a e l).2.2 = 0 → s = treeB (entsGo s n a e l).1 ++ s.drop (entsGo s n a e l).2.1)
  | 0, _, _, _, _, h => h
  | n + 1, a, e, l, ha, h => by
    by_cases hc : e = 0 ∧ a < s.length
    · rw [entsGo_on hc]
      refine entsGo_canon n _ _ _ (entR_le ha).2 fun h0 => ?_
      obtain ⟨rfl, -⟩ := hc
      rw [treeB_app1, List.append_assoc, ← entR_canon ha h0]
      exact h rfl
    · rw [entsGo_end hc]
      exact h
theorem endE_zero {s : List UInt8} {a : Nat} {e : Int} (h : endE s a e = 0) : e = 0 ∧ s.length ≤ a := by
  unfold endE at h
  split at h
  · rename_i he; exact absurd h he
  · rename_i he
    split at h
    · exact absurd h (by decide)
    · exact ⟨Decidable.byContradiction he, by omega⟩
theorem entsE_canon {s : List UInt8} (h : endE s (entsE s).2.1 (entsE s).2.2 = 0) : treeB (entsE s).1 = s := by
  obtain ⟨h1, h2⟩ := endE_zero h
  have := entsGo_canon (s := s) (s.length + 1) 0 0 [] (Nat.zero_le _) (fun _ => by simp [treeB]) h1
  rw [show entsGo s (s.length + 1) 0 0 [] = entsE s from rfl, List.drop_eq_nil_of_le h2, List.append_nil] at this
  exact this.symm
/-- Entries, read without an error, are read to the end. -/
theorem entsGo_over {s : List UInt8} : ∀ (n a : Nat) (e : Int) (l : List EntL), a ≤ s.length → (e = 0 → s.length < a + n) → (entsGo s n a e l).2.2 = 0 → s.length ≤ (entsGo s n a e l).2.1
  | 0, a, e, l, ha, hf, h => by have := hf h; show s.length ≤ a; omega
  | n + 1, a, e, l, ha, hf, h => by
    by_cases hc : e = 0 ∧ a < s.length
    · rw [entsGo_on hc] at h ⊢
      refine entsGo_over n _ _ _ (entR_le ha).2 (fun h0 => ?_) h
      obtain ⟨rfl, -⟩ := hc
      have := entR_up ha h0
      have := hf rfl
      omega
    · rw [entsGo_end hc] at h ⊢
      have h' : e = 0 := h
      exact Decidable.byContradiction fun hn => hc ⟨h', by have hn' : ¬ s.length ≤ a := hn; omega⟩
theorem endE_ents (s : List UInt8) : (endE s (entsE s).2.1 (entsE s).2.2 = 0) ↔ (entsE s).2.2 = 0 := by
  refine ⟨fun h => (endE_zero h).1, fun h => ?_⟩
  have := entsGo_over (s := s) (s.length + 1) 0 0 [] (Nat.zero_le _) (fun _ => by omega) h
  have h2 : s.length ≤ (entsE s).2.1 := this
  unfold endE
  rw [if_neg (by simp [h]), if_neg (by omega)]
/-! ### Commits -/
theorem idsB_app1 (l : List IdL) (x : IdL) : idsB (l ++ [x]) = idsB l ++ x.l := by unfold idsB; simp
theorem idsGo_canon {s : List UInt8} {a : Nat} (ha : a ≤ s.length) : ∀ n, (idsGo s a 0 n).2.2 = 0 → s.drop a = idsB (idsGo s a 0 n).1 ++ s.drop (idsGo s a 0 n).2.1
  | 0, _ => by simp [idsGo, idsB]
  | n + 1, h => by
    unfold idsGo at h ⊢
    simp only at h ⊢
    have e1 : (idsGo s a 0 n).2.2 = 0 := Decidable.byContradiction fun hn => by rw [idR_e hn] at h; exact hn h
    have ih := idsGo_canon ha n e1
    have hl := idsGo_le (e := 0) ha n
    generalize idsGo s a 0 n = p at *
    obtain ⟨p1, p2, p3⟩ := p
    simp only at e1 ih hl h ⊢
    subst e1
    rw [idsB_app1, List.append_assoc, ← idR_canon hl h]
    exact ih
theorem idsGo_e {s : List UInt8} {a : Nat} {e : Int} (he : e ≠ 0) : ∀ n, (idsGo s a e n).2 = (a, e)
  | 0 => rfl
  | n + 1 => by
    have ih := idsGo_e (s := s) (a := a) he n
    unfold idsGo
    simp only
    rw [ih, idR_e he]
theorem comE_canon {s : List UInt8} (h : endE s (comE s).2.1 (comE s).2.2 = 0) : comB (comE s).1 = s := by
  obtain ⟨h1, h2⟩ := endE_zero h
  have ip := idE_le (s := s) (a := 0) (e := 0) (Nat.zero_le _)
  have np := numR_le (e := (idR s 0 0).2.2) (most := 4) ip.2
  unfold comE at h1 h2 ⊢
  simp only at h1 h2 ⊢
  have e3 : (comP s).2.2 = 0 := Decidable.byContradiction fun hn => by unfold comT at h1; rw [textR_e hn] at h1; exact hn h1
  have e2 : (comN s).2.2 = 0 := Decidable.byContradiction fun hn => by unfold comP at e3; rw [idsGo_e hn] at e3; exact hn e3
  have e1 : (idR s 0 0).2.2 = 0 := Decidable.byContradiction fun hn => by unfold comN at e2; rw [numR_e hn] at e2; exact hn e2
  have d1 := idR_canon (Nat.zero_le _) e1
  rw [e1] at np
  have hcN : comN s = numR s (idR s 0 0).2.1 0 4 := by unfold comN; rw [e1]
  rw [hcN] at e2
  obtain ⟨n, hn, hb, -, d2⟩ := numR_canon e2
  have hcP : comP s = idsGo s (comN s).2.1 0 n := by unfold comP; rw [hcN, e2, hn, Int.toNat_natCast]
  have hp : (comN s).2.1 ≤ s.length := by rw [hcN]; exact np.2
  rw [hcP] at e3
  have d3 := idsGo_canon hp n e3
  have hpl : (comP s).1.length = n := by rw [hcP, idsGo_len]
  have hcT : comT s = textR s (comP s).2.1 0 64 := by unfold comT; rw [hcP, e3]
  have hle : (comP s).2.1 ≤ s.length := by rw [hcP]; exact idsGo_le hp n
  rw [hcT] at h1
  obtain ⟨-, d4⟩ := textR_canon hle h1
  rw [← hcT] at d4
  rw [← hcP] at d3
  rw [← hcN] at d2
  unfold comB comHd
  simp only
  rw [hpl, clampN_idE hb]
  rw [List.drop_eq_nil_of_le h2, List.append_nil] at d4
  rw [List.append_assoc, List.append_assoc, ← d4, ← d3, ← d2, ← d1]
  rfl
/-- The program's answer and the law's. -/
theorem RdOk_right (k : Int) (t : List UInt8) : RdOk k t = rightL k t := by
  unfold RdOk rightL
  by_cases h4 : 4096 < t.length
  · rw [if_neg (by omega), if_pos h4]
  · rw [if_neg h4]
    by_cases h2 : k = 2
    · subst h2
      rw [if_pos (by omega), if_neg (by decide), if_pos rfl, if_pos rfl]
      unfold readE
      by_cases hz : endE t (entsE t).2.1 (entsE t).2.2 = 0
      · have := entsE_canon hz
        have h1 := (endE_ents t).1 hz
        rw [hz]
        cases ho : entsOk (entsE t).1
        · rw [if_neg (fun h => by cases h.2.1)]; rfl
        · rw [if_pos ⟨h1, rfl, this⟩]; rfl
      · have h' : ¬ (entsE t).2.2 = 0 := fun h => hz ((endE_ents t).2 h)
        simp [hz, h']
    · by_cases h3 : k = 3
      · subst h3
        rw [if_pos (by omega), if_neg (by decide), if_neg (by decide), if_neg (by decide), if_pos rfl]
        unfold readC
        by_cases hz : endE t (comE t).2.1 (comE t).2.2 = 0
        · have := comE_canon hz
          cases ho : comOk (comE t).1 <;> simp [hz, this]
        · simp [hz]
      · rw [if_neg h2, if_neg h3]
        by_cases h1 : k = 1
        · subst h1
          rw [if_pos (by omega)]; rfl
        · rw [if_neg (by omega)]
          simp [h1, h2]
/-! ### What was written is read -/
theorem numGo_numLE (most : Int) (r : List UInt8) : ∀ (n k acc : Nat), (0 < k → 0 < n) → k + (numL n).length ≤ 6 → acc + n * 128 ^ k ≤ 1099511627775 → ((acc + n * 128 ^ k : Nat) : Int) ≤ most →
    numGo most (numL n ++ r) k acc = .ok (acc + n * 128 ^ k, k + (numL n).length) := by
  intro n
  induction n using Nat.strongRecOn with
  | ind n ih =>
    intro k acc hk hl hs hm
    by_cases h : n < 128
    · rw [numL_small h, List.cons_append, List.nil_append, numGo]
      have hc : (UInt8.ofNat n).toNat = n := by rw [UInt8.toNat_ofNat']; omega
      rw [hc, Nat.mod_eq_of_lt h, if_neg (by omega), if_neg (by omega), if_pos ⟨hs, hm⟩]
      rfl
    · have hb := numL_big h
      rw [hb] at hl ⊢
      rw [List.cons_append, numGo]
      have hc : (UInt8.ofNat (n % 128 + 128)).toNat = n % 128 + 128 := by rw [UInt8.toNat_ofNat']; omega
      have hp := numL_posE (n / 128)
      rw [List.length_cons] at hl
      have e : acc + (n % 128 + 128) % 128 * 128 ^ k + n / 128 * 128 ^ (k + 1) = acc + n * 128 ^ k := by
        have h1 : (n % 128 + 128) % 128 = n % 128 := by omega
        rw [h1, Nat.pow_succ, Nat.add_assoc]
        congr 1
        have h2 : n / 128 * (128 ^ k * 128) = (n / 128 * 128) * 128 ^ k := by rw [Nat.mul_comm (128 ^ k), Nat.mul_assoc]
        rw [h2, ← Nat.add_mul]
        congr 1
        omega
      rw [hc, if_pos (by omega), if_neg (by omega), ih (n / 128) (by omega) (k + 1) _ (fun _ => by omega) (by omega) (by rw [e]; exact hs) (by rw [e]; exact hm), e, List.length_cons]
      congr 2
      omega
theorem numR_appE (A r : List UInt8) (n : Nat) (most : Int) (hn : n ≤ 1099511627775) (hm : (n : Int) ≤ most) : numR (A ++ (numL n ++ r)) A.length 0 most = ((n : Int), A.length + (numL n).length, 0) := by
  have hl := numL_len_lt 6 n (by omega) (by omega)
  have h := numGo_numLE most r n 0 0 (fun h => absurd h (Nat.lt_irrefl 0)) (by omega) (by simpa using hn) (by simpa using hm)
  simp only [Nat.pow_zero, Nat.mul_one, Nat.zero_add] at h
  exact numR_ok rfl (by rw [List.drop_left]; exact h)
theorem rawR_appE (A x r : List UInt8) : rawR (A ++ (x ++ r)) A.length 0 (x.length : Int) = (x, A.length + x.length, 0) := by
  unfold rawR
  rw [if_neg (by simp), if_neg (by omega), if_neg (by simp only [List.length_append]; omega), List.drop_left, Int.toNat_natCast, List.take_left]
theorem textR_appE (A t r : List UInt8) (most : Int) (hn : t.length ≤ 1099511627775) (hm : (t.length : Int) ≤ most) : textR (A ++ (textL t ++ r)) A.length 0 most = (t, A.length + (textL t).length, 0) := by
  have h1 := numR_appE A (t ++ r) t.length most hn hm
  have h2 := rawR_appE (A ++ numL t.length) t r
  unfold textR textL
  rw [clampN_idE (by omega)]
  rw [List.append_assoc, h1]
  simp only
  rw [List.append_assoc, List.length_append] at h2
  rw [h2]
  simp only [ne_eq, not_true_eq_false, ↓reduceIte, List.length_append, Nat.add_assoc]
def EntsShort (l : List EntL) : Prop := ∀ x, x ∈ l → 0 ≤ x.kind ∧ x.kind ≤ 2 ∧ x.name.length ≤ 32
end Go.Proofs
end
section
open Go Go.Proofs Go.Sx Go.StP
namespace Go.Proofs
set_option maxRecDepth 10000
set_option maxHeartbeats 400000
set_option linter.unusedSimpArgs false
/-! ### Frames, read -/
theorem idxByte_run (s : List UInt8) (c : UInt8) (w : World) : (callFunc 228 #[vs s, v8 c]).run Tryz.prog w = .ok (.value (vi (Lib.indexByte s c))) w := by
  rw [run_callFunc_extern Tryz.func228 (by kernel_rfl) (by kernel_rfl) (by kernel_rfl) (e := Extern.BytealgIndexByte.indexByte) (by kernel_rfl)]
  have h := Lib.run_indexByteString (P := Tryz.prog) ⟨s.toArray⟩ (c.toNat : Int) w
  have e : ((c.toNat : Int)).toNat.toUInt8 = c := by simp
  rw [e] at h
  show ((Extern.BytealgIndexByte.indexByte #[.string ⟨s.toArray⟩, .int .u8 (c.toNat : Int)]).run Tryz.prog w).andThen _ = _
  rw [h]; rfl
theorem IndexByte_spec (s : List UInt8) (c : UInt8) (w : World) : Rets Tryz.prog 207 #[vs s, v8 c] w (fun v D => v = vi (Lib.indexByte s c) ∧ D = []) := by
  refine Rets.enterV Tryz.func207 rfl (rs := [.tmp 4]) Tryz.results207 Tryz.ntmps207 ?_
  refine kf ?_
  first | with_reducible refine ks [] @Nat.add_zero ?_ | refine kp @Nat.add_zero ?_
  refine Ow.callExt rfl rfl (fun w => idxByte_run s c w) ?_
  refine ko @Nat.add_zero ?_
  first | with_reducible refine ks [] @Nat.add_zero ?_ | refine kp @Nat.add_zero ?_
  refine ⟨_, (ke @Nat.add_zero), trivial, ?_⟩
  rfl
/-- Where a text of one byte at most stands. -/
def idxT (s : List UInt8) : List UInt8 → Int
  | [] => 0
  | c :: _ => Lib.indexByte s c
theorem sliteIndex_spec (s x : List UInt8) (w : World) (hx : x.length ≤ 1) (hs : 2 ≤ s.length) (_hsl : s.length < 1099511627776) : Rets Tryz.prog 178 #[vs s, vs x] w (fun v D => v = vi (idxT s x) ∧ D = []) := by
  refine Rets.enterV Tryz.func178 rfl (rs := [.tmp 4]) Tryz.results178 Tryz.ntmps178 ?_
  refine kf ?_
  match x, hx with
  | [], _ =>
    have d1 : (((([] : List UInt8).length : Nat) : Int) == 0) = true := rfl
    first | with_reducible refine ks [] @d1 ?_ | refine kp @d1 ?_
    refine ⟨_, (ke @Nat.add_zero), trivial, ?_⟩
    rfl
  | [c], _ =>
    have d1 : ((([c] : List UInt8).length : Int) == 0) = false := rfl
    have d2 : ([c] == s) = false := beq_eq_false_iff_ne.2 fun e => by rw [← e] at hs; simp at hs
    have d3 : ((([c] : List UInt8).length : Int) == 1) = true := rfl
    have i0 : ([c] : List UInt8).getD 0 0 = c := rfl
    first | with_reducible refine ks [] (And.intro @d1 ( And.intro @d2 ( And.intro @d3 (@i0)))) ?_ | refine kp (And.intro @d1 ( And.intro @d2 ( And.intro @d3 (@i0)))) ?_
    refine Ow.callFV rfl Tryz.call207 (fun w' hw' => IndexByte_spec s c w') ?_
    refine ko @Nat.add_zero ?_
    first | with_reducible refine ks [] @Nat.add_zero ?_ | refine kp @Nat.add_zero ?_
    refine ⟨_, (ke @Nat.add_zero), trivial, ?_⟩
    rfl
theorem Index_spec (s x : List UInt8) (w : World) (hx : x.length ≤ 1) (hs : 2 ≤ s.length) (hsl : s.length < 1099511627776) : Rets Tryz.prog 155 #[vs s, vs x] w (fun v D => v = vi (idxT s x) ∧ D = []) := by
  refine Rets.enterV Tryz.func155 rfl (rs := [.tmp 4]) Tryz.results155 Tryz.ntmps155 ?_
  refine kf ?_
  first | with_reducible refine ks [] @Nat.add_zero ?_ | refine kp @Nat.add_zero ?_
  refine Ow.callFV rfl Tryz.call178 (fun w' hw' => sliteIndex_spec s x w' hx hs hsl) ?_
  refine ko @Nat.add_zero ?_
  first | with_reducible refine ks [] @Nat.add_zero ?_ | refine kp @Nat.add_zero ?_
  refine ⟨_, (ke @Nat.add_zero), trivial, ?_⟩
  rfl
abbrev letL : List UInt8 := [32, 98, 116, 99]
/-- The kind and the text of a frame, and whether it is one. -/
def frR (s : List UInt8) : List UInt8 × Nat × Int := rawR s 0 0 1
def frT (s : List UInt8) : List UInt8 × Nat × Int := textR s (frR s).2.1 (frR s).2.2 4096
def frK (s : List UInt8) : Int := idxT letL (frR s).1
def frOk (s : List UInt8) : Bool := endE s (frT s).2.1 (frT s).2.2 == 0 && RdOk (frK s) (frT s).1
theorem frR_len (s : List UInt8) : (frR s).1.length ≤ 1 := by
  unfold frR rawR
  rw [if_neg (by simp), if_neg (by decide)]
  split
  · simp
  · simp only [List.length_take, Int.toNat_one]; omega
def ReadFS (s : List UInt8) (v : Value) : Prop := v = .tuple #[obV (if frOk s then frK s else 0) (if frOk s then (frT s).1 else []), vi (if frOk s then 0 else 2)]
set_option linter.defProp false
def uPH_1 := And.intro (And.intro (And.intro (@load_ob) (@load_ob0)) (And.intro (@load_ob1) (@store_ob))) (And.intro (And.intro (@Sx.tup2_0) (@Sx.tup2_1)) (And.intro (@rdIn_v8) (@rdIn_vi)))
theorem ReadO_spec (s : List UInt8) (w : World) (hs : s.length < 100000) : Rets Tryz.prog 123 #[vs s] w (fun v D => ReadFS s v ∧ D = []) := by
  refine Rets.enterV Tryz.func123 rfl (rs := [.cell 2 43, .tmp 3]) Tryz.results123 Tryz.ntmps123 ?_
  refine kf ?_
  first | with_reducible refine ks [] @uPH_1 ?_ | refine kp @uPH_1 ?_
  refine Ow.alloc rfl rfl zrOb fun b2 hb2 hw2 => ?_
  simp only [cells_agg, List.nil_append, List.cons_append]
  refine ko @uPH_1 ?_
  refine Ow.callF rfl rfl Tryz.call71 (S := fun B v D => ∃ b', B ≤ b' ∧ v = vp b' 0 ∧ D = [(b', .cells #[vs s, vi 0, vi 0] 212 (0, 0))]) (fun w' hw' => RNew_spec s w') ?_
  rintro B v D hab hB ⟨bw, hbw, rfl, rfl⟩
  obtain ⟨h2B, -⟩ := hab
  refine ⟨_, Mrg.fresh (by intro q hq; simp only [keys, List.map_cons, List.map_nil, List.mem_singleton] at hq; omega), ?_⟩
  simp only [List.cons_append, List.nil_append]
  refine Ow.permL (M := [(bw, .cells #[vs s, vi 0, vi 0] 212 (0, 0)), (b2, Obj.cells #[vi 0, vs []] 43 (0, 0))]) (by classical exact List.perm_iff_count.2 fun a => by simp only [List.count_append, List.count_cons, List.count_nil] <;> omega) ?_
  have hne : bw ≠ b2 := by omega
  refine ko @uPH_1 ?_
  first | with_reducible refine ks [] @uPH_1 ?_ | refine kp @uPH_1 ?_
  refine Ow.callM rfl rfl Tryz.call94 (by simp [keys]) (fun w' hw' => RRaw_spec bw s 0 0 1 w' (Nat.zero_le _) (by omega) (hw'.has _ _ List.mem_cons_self)) ?_
  have r1 := rawR_le (s := s) (a := 0) (e := 0) (n := 1) (Nat.zero_le _)
  have r2 := frR_len s
  have hT : frT s = textR s (frR s).2.1 (frR s).2.2 4096 := rfl
  have hK : frK s = idxT letL (frR s).1 := rfl
  have hO : frOk s = (endE s (frT s).2.1 (frT s).2.2 == 0 && RdOk (frK s) (frT s).1) := rfl
  unfold ReadFS
  rw [show rawR s 0 0 1 = frR s from rfl] at r1 ⊢
  generalize frR s = p at *
  obtain ⟨x, a1, e1⟩ := p
  simp only at r1 r2 hT hK ⊢
  refine kn ?_
  refine ko @uPH_1 ?_
  refine Ow.callFV rfl Tryz.call155 (fun w' hw' => Index_spec letL x w' r2 (by decide) (by decide)) ?_
  rw [← hK]
  refine ko @uPH_1 ?_
  refine Ow.callM rfl rfl Tryz.call96 (by simp [keys]) (fun w' hw' => RText_spec bw s a1 e1 4096 w' r1.2 (by omega) (hw'.has _ _ List.mem_cons_self)) ?_
  rw [← hT]
  generalize frT s = q at *
  obtain ⟨tt, a2, e2⟩ := q
  simp only at hO ⊢
  refine kn ?_
  refine ko @uPH_1 ?_
  refine Ow.build (obV (frK s) tt) rfl (build_ob2 _ tt) ?_
  refine ko @uPH_1 ?_
  refine Ow.alloc rfl rfl zrOb fun b5 hb5 hw5 => ?_
  simp only [cells_agg, List.nil_append, List.cons_append]
  have h5w : bw < b5 := above_to hb5 (by simp [keys])
  have h52 : b2 < b5 := above_to hb5 (by simp [keys])
  refine ko @uPH_1 ?_
  refine Ow.callFV rfl Tryz.call74 (fun w' hw' => REndE_spec bw s a2 e2 w' (hw'.has _ _ List.mem_cons_self)) ?_
  by_cases he : endE s a2 e2 = 0
  · have d1 : (endE s a2 e2 != 0) = false := by simp [he]
    have d1' : (endE s a2 e2 == 0) = true := by simp [he]
    rw [d1', Bool.true_and] at hO
    refine ko (And.intro @uPH_1 @d1) ?_
    refine Ow.callFV rfl Tryz.call156 (fun w' hw' => RightO_spec (frK s) tt w') ?_
    rw [hO]
    cases hr : RdOk (frK s) tt
    · refine ko @uPH_1 ?_
      refine Ow.build (obV 0 []) rfl build_ob0 ?_
      refine ko @uPH_1 ?_
      first | with_reducible refine ks [] @uPH_1 ?_ | refine kp @uPH_1 ?_
      refine ⟨_, (ke @uPH_1), ⟨by omega, hw2, hw5, trivial⟩, ?_⟩
      rfl
    · refine ko @uPH_1 ?_
      first | with_reducible refine ks [] @uPH_1 ?_ | refine kp @uPH_1 ?_
      refine ⟨_, (ke @uPH_1), ⟨by omega, hw2, hw5, trivial⟩, ?_⟩
      rfl
  · have d1 : (endE s a2 e2 != 0) = true := by simpa using he
    have d1' : (endE s a2 e2 == 0) = false := by simpa using he
    rw [d1', Bool.false_and] at hO
    rw [hO]
    refine ko (And.intro @uPH_1 @d1) ?_
    refine Ow.build (obV 0 []) rfl build_ob0 ?_
    refine ko @uPH_1 ?_
    first | with_reducible refine ks [] @uPH_1 ?_ | refine kp @uPH_1 ?_
    refine ⟨_, (ke @uPH_1), ⟨by omega, hw2, hw5, trivial⟩, ?_⟩
    rfl
end Go.Proofs
end
section
open Go Go.Proofs Go.Sx Go.StP
namespace Go.Proofs
set_option maxRecDepth 10000
set_option maxHeartbeats 400000
set_option linter.unusedSimpArgs false
/-! ### Frames, as the law reads them -/
def fkC (c : UInt8) : Int := if c = 98 then 1 else if c = 116 then 2 else if c = 99 then 3 else 0
def lfT (r : List UInt8) : List UInt8 × Nat × Int := textR r 0 0 4096
def lfK (s : List UInt8) : Int := match s with | [] => 0 | c :: _ => fkC c
def lfOk (s : List UInt8) : Bool := lfK s != 0 && endE (s.drop 1) (lfT (s.drop 1)).2.1 (lfT (s.drop 1)).2.2 == 0 && rightL (lfK s) (lfT (s.drop 1)).1
def ReadLS (s : List UInt8) (v : Value) : Prop := v = .tuple #[obV (if lfOk s then lfK s else 0) (if lfOk s then (lfT (s.drop 1)).1 else []), .bool (lfOk s)]
theorem store_ob0 (k k' : Int) (t : List UInt8) (a : Bool) (E : TypeId) : storeV (some (a, 1)) (some (.cells #[vi k', vs t] E (0, 0))) 0 (vi k) = some (.cells #[vi k, vs t] E (0, 0)) := (rfl)
theorem store_ob1 (k : Int) (t t' : List UInt8) (a : Bool) (E : TypeId) : storeV (some (a, 1)) (some (.cells #[vi k, vs t'] E (0, 0))) 1 (vs t) = some (.cells #[vi k, vs t] E (0, 0)) := (rfl)
set_option linter.defProp false
def uPI_1 := And.intro (And.intro (And.intro (@load_ob) (@load_ob0)) (And.intro (@load_ob1) (And.intro (@store_ob) (@store_ob0)))) (And.intro (And.intro (@store_ob1) (@Sx.tup2_0)) (And.intro (@Sx.tup2_1) (And.intro (@rdIn_v8) (@rdIn_vi))))
theorem ReadL_spec (s : List UInt8) (w : World) (hs : s.length < 100000) : Rets Tryz.prog 66 #[vs s] w (fun v D => ReadLS s v ∧ D = []) := by
  refine Rets.enterV Tryz.func66 rfl (rs := [.cell 2 43, .tmp 3]) Tryz.results66 Tryz.ntmps66 ?_
  refine kf ?_
  first | with_reducible refine ks [1000004] @uPI_1 ?_ | refine kp @uPI_1 ?_
  refine Ow.alloc rfl rfl zrOb fun b2 hb2 hw2 => ?_
  simp only [cells_agg, List.nil_append, List.cons_append]
  refine ko @uPI_1 ?_
  by_cases hl : s.length = 0
  · obtain rfl : s = [] := List.eq_nil_of_length_eq_zero hl
    have d1 : (((([] : List UInt8).length : Nat) : Int) == 0) = true := rfl
    first | with_reducible refine ks [] (And.intro @uPI_1 @d1) ?_ | refine kp (And.intro @uPI_1 @d1) ?_
    refine Ow.build (obV 0 []) rfl build_ob0 ?_
    refine ko @uPI_1 ?_
    first | with_reducible refine ks [] @uPI_1 ?_ | refine kp @uPI_1 ?_
    refine ⟨_, (ke @uPI_1), ⟨hw2, trivial⟩, ?_⟩
    rfl
  · have d1 : ((s.length : Int) == 0) = false := beq_eq_false_iff_ne.2 (by omega)
    obtain ⟨c, r, rfl⟩ : ∃ c r, s = c :: r := by cases s with | nil => exact absurd rfl hl | cons c r => exact ⟨c, r, rfl⟩
    have hd1 : (c :: r).drop 1 = r := rfl
    have g0 : (c :: r).getD 0 0 = c := rfl
    have hlen : (c :: r).length = r.length + 1 := rfl
    have hrl : r.length < 100000 := by omega
    first | with_reducible refine ks [] (And.intro @uPI_1 @d1) ?_ | refine kp (And.intro @uPI_1 @d1) ?_
    refine Ow.build (obV 0 []) rfl build_ob0 ?_
    refine ko @uPI_1 ?_
    refine Ow.alloc rfl rfl zrOb fun b4 hb4 hw4 => ?_
    simp only [cells_agg, List.nil_append, List.cons_append]
    have h24 : b2 < b4 := above_to hb4 (by simp [keys])
    have ht := textE_le (s := r) (a := 0) (e := 0) (most := 4096) (Nat.zero_le _)
    have hLT : lfT r = textR r 0 0 4096 := rfl
    have hO : lfOk (c :: r) = (fkC c != 0 && endE r (lfT r).2.1 (lfT r).2.2 == 0 && rightL (fkC c) (lfT r).1) := rfl
    have hK : lfK (c :: r) = fkC c := rfl
    unfold ReadLS
    rw [hK, hd1]
    have htx : (textR r 0 0 4096).1.length ≤ r.length := textE_len _ _ _ _
    have hf0 : fkC c = 0 ∨ fkC c = 1 ∨ fkC c = 2 ∨ fkC c = 3 := by
      unfold fkC; split <;> (try split) <;> (try split) <;> simp
    refine ko @uPI_1 ?_
    first | with_reducible refine ks [1000004] (And.intro @uPI_1 @g0) ?_ | refine kp (And.intro @uPI_1 @g0) ?_
    refine Cw.cut (G := Int) 40 (fun g => [(0, vs (c :: r)), (2, vp b2 0), (3, .bool false), (4, vp b4 0)]) (fun g => [(b2, Obj.cells #[vi 0, vs []] 43 (0, 0)), (b4, Obj.cells #[vi g, vs []] 43 (0, 0))]) (fun g => g = fkC c ∧ g ≠ 0) ?_ ?_
    · by_cases c1 : c = 98
      · subst c1
        first | with_reducible refine ks [] (And.intro @uPI_1 @g0) ?_ | refine kp (And.intro @uPI_1 @g0) ?_
        exact CutM.mk 1 ⟨rfl, by decide⟩ rfl rfl
      · have e1 : (c == 98) = false := by simpa using c1
        by_cases c2 : c = 116
        · subst c2
          first | with_reducible refine ks [] (And.intro @uPI_1 ( And.intro @e1 (@g0))) ?_ | refine kp (And.intro @uPI_1 ( And.intro @e1 (@g0))) ?_
          exact CutM.mk 2 ⟨rfl, by decide⟩ rfl rfl
        · have e2 : (c == 116) = false := by simpa using c2
          by_cases c3 : c = 99
          · subst c3
            first | with_reducible refine ks [] (And.intro @uPI_1 ( And.intro @e1 ( And.intro @e2 (@g0)))) ?_ | refine kp (And.intro @uPI_1 ( And.intro @e1 ( And.intro @e2 (@g0)))) ?_
            exact CutM.mk 3 ⟨rfl, by decide⟩ rfl rfl
          · have e3 : (c == 99) = false := by simpa using c3
            have hk : fkC c = 0 := by unfold fkC; rw [if_neg c1, if_neg c2, if_neg c3]
            rw [hk] at hO ⊢
            rw [hO]
            first | with_reducible refine ks [] (And.intro @uPI_1 ( And.intro @e1 ( And.intro @e2 ( And.intro @e3 (@g0))))) ?_ | refine kp (And.intro @uPI_1 ( And.intro @e1 ( And.intro @e2 ( And.intro @e3 (@g0))))) ?_
            refine Ow.build (obV 0 []) rfl build_ob0 ?_
            refine ko @uPI_1 ?_
            first | with_reducible refine ks [] @uPI_1 ?_ | refine kp @uPI_1 ?_
            refine ⟨_, (ke @uPI_1), ⟨hw2, hw4, trivial⟩, ?_⟩
            rfl
    · intro g j hg
      simp only [allF_s, allF_0, pin, setF_0, setF_s, Nat.reduceAdd]
      obtain ⟨rfl, hk0⟩ := hg
      have d0 : (fkC c != 0) = true := by simpa using hk0
      rw [d0, Bool.true_and] at hO
      generalize fkC c = k at hO ⊢
      first | with_reducible refine ks [] (And.intro @uPI_1 @hd1) ?_ | refine kp (And.intro @uPI_1 @hd1) ?_
      refine Ow.build (.agg #[vs r, vi 0, vi 0]) rfl (build_rdr r) ?_
      refine ko @uPI_1 ?_
      refine Ow.box rfl rfl fun br hbr hwr => ?_
      have h2r : b2 < br := above_to hbr (by simp [keys])
      have h4r : b4 < br := above_to hbr (by simp [keys])
      simp only [ev_tmp, getF_0, getF_s, cells_agg, List.nil_append, List.cons_append]
      refine ko @uPI_1 ?_
      refine Ow.callM rfl rfl Tryz.call99 (by simp [keys]) (fun w' hw' => refText_spec br r 0 0 4096 w' (Nat.zero_le _) (by omega) (hw'.has _ _ (by simp))) ?_
      rw [← hLT] at ht htx ⊢
      generalize lfT r = q at *
      obtain ⟨tt, a2, e2⟩ := q
      simp only at hO ht htx ⊢
      refine kn ?_
      refine ko @uPI_1 ?_
      refine Ow.callFV rfl Tryz.call102 (fun w' hw' => refEndE_spec br r a2 e2 w' (hw'.has _ _ (by simp))) ?_
      by_cases he : endE r a2 e2 = 0
      · have d5 : (endE r a2 e2 != 0) = false := by simp [he]
        have d6 : (endE r a2 e2 == 0) = true := by simp [he]
        rw [d6, Bool.true_and] at hO
        rw [hO]
        refine ko (And.intro @uPI_1 @d5) ?_
        refine Ow.callFV rfl Tryz.call133 (fun w' hw' => RightL_spec k tt w') ?_
        cases hr : rightL k tt
        · refine ko @uPI_1 ?_
          refine Ow.build (obV 0 []) rfl build_ob0 ?_
          refine ko @uPI_1 ?_
          first | with_reducible refine ks [] @uPI_1 ?_ | refine kp @uPI_1 ?_
          refine ⟨_, (ke @uPI_1), ⟨hw2, hw4, hwr, trivial⟩, ?_⟩
          rfl
        · refine ko @uPI_1 ?_
          first | with_reducible refine ks [] @uPI_1 ?_ | refine kp @uPI_1 ?_
          refine ⟨_, (ke @uPI_1), ⟨hw2, hw4, hwr, trivial⟩, ?_⟩
          rfl
      · have d5 : (endE r a2 e2 != 0) = true := by simpa using he
        have d6 : (endE r a2 e2 == 0) = false := by simpa using he
        rw [d6, Bool.false_and] at hO
        rw [hO]
        refine ko (And.intro @uPI_1 @d5) ?_
        refine Ow.build (obV 0 []) rfl build_ob0 ?_
        refine ko @uPI_1 ?_
        first | with_reducible refine ks [] @uPI_1 ?_ | refine kp @uPI_1 ?_
        refine ⟨_, (ke @uPI_1), ⟨hw2, hw4, hwr, trivial⟩, ?_⟩
        rfl
end Go.Proofs
end
namespace Go.Flo
open Go Ieee
/-- A whole number as a floating one. -/
abbrev F (n : Int) : Nat := FloatKind.f64.nearest n
/-- What stands for a whole number that isn't nought. -/
def dat (n : Int) : Datum := .number (decide (n < 0)) (n.natAbs * 2 ^ (52 - n.natAbs.log2)) ((n.natAbs.log2 : Int) - 52)
theorem log_lt {a : Nat} (h : a < 8192) : a.log2 < 13 ∨ a = 0 := by
  by_cases h0 : a = 0
  · exact .inr h0
  · exact .inl ((Nat.log2_lt h0).2 h)
theorem dec0 : FloatKind.f64.decode (F 0) = .number false 0 (-1074) := by kernel_rfl
theorem cut_none (neg : Bool) (n : Nat) : Toward.even.cut neg n 0 = n := by
  simp [Toward.cut, Nat.mod_one]
theorem dec {n : Int} (h0 : n ≠ 0) (h : n.natAbs < 8192) : FloatKind.f64.decode (F n) = dat n := by
  have ha : n.natAbs ≠ 0 := by omega
  generalize hm : n.natAbs = a at *
  have hl : a.log2 < 13 := (Nat.log2_lt ha).2 h
  have hlo : 2 ^ a.log2 ≤ a := Nat.log2_self_le ha
  have hhi : a < 2 ^ (a.log2 + 1) := Nat.lt_log2_self
  generalize hk : a.log2 = k at *
  have hp : 2 ^ (52 - k) * 2 ^ k = 2 ^ 52 := by rw [← Nat.pow_add]; congr 1; omega
  have hp1 : 2 ^ (k + 1) = 2 * 2 ^ k := by rw [Nat.pow_succ]; omega
  have e1 : 2 ^ 52 ≤ a * 2 ^ (52 - k) := by
    rw [← hp, Nat.mul_comm]; exact Nat.mul_le_mul_right _ hlo
  have e2 : a * 2 ^ (52 - k) < 2 * 2 ^ 52 := by
    have h1 := Nat.mul_lt_mul_of_pos_right hhi (show 0 < 2 ^ (52 - k) from Nat.pow_pos (by omega))
    rw [hp1, Nat.mul_assoc, Nat.mul_comm (2 ^ k), hp] at h1
    exact h1
  have hw : F n = Ieee.double.word (decide (n < 0)) ((k + 1022) * 2 ^ 52 + a * 2 ^ (52 - k)) := by
    show Ieee.double.nearest (decide (n < 0)) n.natAbs 0 = _
    rw [hm]
    unfold Format.nearest
    rw [if_neg ha, hk]
    have hlast : max ((0 : Int) + (k : Int) - (Ieee.double.fractionBits : Int)) Ieee.double.leastPlace = (k : Int) - 52 := by
      have e3 : Ieee.double.leastPlace = -1074 := by decide
      have e4 : (Ieee.double.fractionBits : Int) = 52 := rfl
      rw [e3, e4]; omega
    rw [hlast]
    have e5 : ((k : Int) - 52 - 0).toNat = 0 := by omega
    have e6 : ((0 : Int) - ((k : Int) - 52)).toNat = 52 - k := by omega
    simp only [e5, e6, cut_none, Nat.shiftLeft_eq]
    have e7 : ((k : Int) - 52 - Ieee.double.leastPlace).toNat = k + 1022 := by
      have e3 : Ieee.double.leastPlace = -1074 := by decide
      rw [e3]; omega
    have e8 : Ieee.double.binade = 2 ^ 52 := rfl
    have e9 : Ieee.double.infRung = 2047 * 2 ^ 52 := rfl
    rw [e7, e8, e9, Nat.min_eq_left (by omega)]
  show Ieee.double.read (F n) = _
  rw [hw]
  generalize hX : a * 2 ^ (52 - k) = X at *
  have e8 : Ieee.double.binade = 2 ^ 52 := rfl
  have e9 : Ieee.double.infRung = 2047 * 2 ^ 52 := rfl
  have e10 : Ieee.double.signWeight = 2 ^ 63 := rfl
  have e3 : Ieee.double.leastPlace = -1074 := by decide
  have hneg : (Ieee.double.word (decide (n < 0)) ((k + 1022) * 2 ^ 52 + X) / 2 ^ 63 % 2 == 1) = decide (n < 0) ∧ Ieee.double.word (decide (n < 0)) ((k + 1022) * 2 ^ 52 + X) % 2 ^ 63 = (k + 1022) * 2 ^ 52 + X := by
    unfold Format.word
    rw [e10]
    by_cases hn : n < 0
    · rw [decide_eq_true hn, if_pos rfl]
      refine ⟨?_, by omega⟩
      rw [beq_iff_eq]; omega
    · rw [decide_eq_false hn, if_neg (by simp)]
      refine ⟨?_, by omega⟩
      rw [beq_eq_false_iff_ne]; omega
  unfold Format.read
  simp only [e10, hneg.1, hneg.2, e8, e9, e3]
  rw [if_neg (by omega), if_pos (by omega)]
  unfold dat
  rw [hm, hk, hX]
  congr 1
  · omega
  · omega
theorem sgn (n : Int) (u : Nat) : signed (decide (n < 0)) (n.natAbs * 2 ^ u) 0 = n * 2 ^ u := by
  unfold signed
  rw [Nat.shiftLeft_eq, Nat.pow_zero, Nat.mul_one]
  by_cases h : n < 0
  · rw [decide_eq_true h, if_pos rfl]
    rw [Int.natCast_mul, ← Int.neg_mul]
    congr 1
    · omega
  · rw [decide_eq_false h, if_neg (by simp), Int.natCast_mul]
    congr 1
    omega
/-- What a whole number stands at. -/
def plc (n : Int) : Int := if n = 0 then -1074 else (n.natAbs.log2 : Int) - 52
def mag (n : Int) : Nat := if n = 0 then 0 else n.natAbs * 2 ^ (52 - n.natAbs.log2)
theorem decA {n : Int} (h : n.natAbs < 8192) : FloatKind.f64.decode (F n) = .number (decide (n < 0)) (mag n) (plc n) := by
  by_cases h0 : n = 0
  · subst h0; rw [dec0]; rfl
  · rw [dec h0 h]; unfold dat mag plc; rw [if_neg h0, if_neg h0]
theorem sgnU {n base : Int} (h : n.natAbs < 8192) (hb : base ≤ plc n) : signed (decide (n < 0)) (mag n) (plc n - base).toNat = n * 2 ^ (-base).toNat := by
  by_cases h0 : n = 0
  · subst h0; simp [signed, mag]
  · have hl : n.natAbs.log2 < 13 := by rcases log_lt h with h1 | h1; exact h1; omega
    have hu : 52 - n.natAbs.log2 + (plc n - base).toNat = (-base).toNat := by
      unfold plc at hb ⊢
      rw [if_neg h0] at hb ⊢
      omega
    have e : signed (decide (n < 0)) (mag n) (plc n - base).toNat = signed (decide (n < 0)) (n.natAbs * 2 ^ (-base).toNat) 0 := by
      unfold signed mag
      rw [if_neg h0, ← hu, Nat.pow_add]
      simp only [Nat.shiftLeft_eq, Nat.pow_zero, Nat.mul_one, Nat.mul_assoc]
    rw [e, sgn]
theorem cmp_mul {a b k : Int} (hk : 0 < k) : compare (a * k) (b * k) = compare a b := by
  simp only [compare, compareOfLessAndEq]
  have h1 : a * k < b * k ↔ a < b := Int.mul_lt_mul_right hk
  have h2 : a * k = b * k ↔ a = b := Int.mul_eq_mul_right_iff (by omega)
  simp only [h1, h2]
/-- Whole numbers stand to each other as they do. -/
theorem ord {a b : Int} (ha : a.natAbs < 8192) (hb : b.natAbs < 8192) : FloatKind.f64.format.order (F a) (F b) = some (compare a b) := by
  have h1 : FloatKind.f64.format.read (F a) = _ := decA ha
  have h2 : FloatKind.f64.format.read (F b) = _ := decA hb
  unfold Format.order
  rw [h1, h2]
  unfold Datum.order
  simp only
  have p1 : min (plc a) (plc b) ≤ plc a := Int.min_le_left ..
  have p2 : min (plc a) (plc b) ≤ plc b := Int.min_le_right ..
  rw [sgnU ha p1, sgnU hb p2, cmp_mul]
  exact Int.pow_pos (by omega)
theorem intF {a : Int} (h : a.natAbs < 8192) : (FloatKind.f64.decode (F a)).toInt .zero = some a := by
  rw [decA h]
  by_cases h0 : a = 0
  · subst h0; rfl
  · have hl : a.natAbs.log2 < 13 := by rcases log_lt h with h1 | h1; exact h1; omega
    unfold Datum.toInt Datum.integral
    simp only
    have hp : plc a = (a.natAbs.log2 : Int) - 52 := by unfold plc; rw [if_neg h0]
    have hm : mag a = a.natAbs * 2 ^ (52 - a.natAbs.log2) := by unfold mag; rw [if_neg h0]
    rw [hp, hm]
    have e1 : ((a.natAbs.log2 : Int) - 52).toNat = 0 := by omega
    have e2 : (-((a.natAbs.log2 : Int) - 52)).toNat = 52 - a.natAbs.log2 := by omega
    rw [e1, e2, Nat.shiftLeft_zero]
    have hlog : (a.natAbs * 2 ^ (52 - a.natAbs.log2)).log2 + 2 ≥ 52 - a.natAbs.log2 := by
      have : 2 ^ (52 - a.natAbs.log2) ≤ a.natAbs * 2 ^ (52 - a.natAbs.log2) := Nat.le_mul_of_pos_left _ (by omega)
      have h3 := (Nat.le_log2 (n := a.natAbs * 2 ^ (52 - a.natAbs.log2)) (k := 52 - a.natAbs.log2) (by have := Nat.pow_pos (a := 2) (n := 52 - a.natAbs.log2) (by omega); omega)).2 this
      omega
    unfold Toward.cut
    simp only
    rw [Nat.min_eq_left hlog, Nat.shiftLeft_eq, Nat.one_mul, Nat.mul_div_cancel _ (Nat.pow_pos (by omega))]
    have := sgn a 0
    rw [Nat.pow_zero, Nat.mul_one] at this
    simp only [Bool.toNat_false, Nat.add_zero]
    rw [this]; simp
end Go.Flo
namespace Go.Sx
open Go Go.Flo
/-- A whole number as a float. -/
def fl (n : Int) : Value := .float .f64 (F n)
/-- A complex number of whole parts. -/
def cx (a b : Int) : Value := .complex .f64 (F a) (F b)
section
variable {P : Program} {w0 : World} {f : Fr} {L : Heap} {N : Fr → Heap → Prop} {ops : Array Oper} {rest : List Oper} {md : Md}
  {d : Option Tmp} {ty : TypeId} {ps : String} {af : Array Edge} {g : Option (Nat × Bool)}
theorem Ow.convIF {s dt : TypeId} {x : Operand} {n : Int} {md' : Md} (he : md.turn = some md') (hsk : skipped ops f ⟨d, .convert s dt x, ty, ps, af, g⟩ = false)
    (hcv : cvT P s dt = .no) (hs : P.underlying s = some (.int .i64)) (hd : P.underlying dt = some (.float .f64)) (hx : ev f x = vi n)
    (hn : Ow P w0 ops md' rest (putF f d (fl n)) L N) : Ow P w0 ops md (⟨d, .convert s dt x, ty, ps, af, g⟩ :: rest) f L N := by
  refine Ow.step he (by simp [pureK, hcv]) hsk fun w hw => .inl ⟨fl n, w, L, ?_, hw, hn⟩
  have hc : (convert s dt (vi n)).run P w = .ok (fl n) w := by
    unfold convert
    simp only [vi, Sem.run_bind, run_underlying hs w, run_underlying hd w, Result.andThen_ok]
    rfl
  simp only [execOp, Sem.run_bind, hx, hc]
  rfl
theorem Ow.convFI {s dt : TypeId} {x : Operand} {n : Int} {md' : Md} (he : md.turn = some md') (hsk : skipped ops f ⟨d, .convert s dt x, ty, ps, af, g⟩ = false)
    (hcv : cvT P s dt = .no) (hs : P.underlying s = some (.float .f64)) (hd : P.underlying dt = some (.int .i64)) (hx : ev f x = fl n) (hn8 : n.natAbs < 8192)
    (hn : Ow P w0 ops md' rest (putF f d (vi n)) L N) : Ow P w0 ops md (⟨d, .convert s dt x, ty, ps, af, g⟩ :: rest) f L N := by
  refine Ow.step he (by simp [pureK, hcv]) hsk fun w hw => .inl ⟨vi n, w, L, ?_, hw, hn⟩
  have hc : (convert s dt (fl n)).run P w = .ok (vi n) w := by
    unfold convert
    simp only [fl, Sem.run_bind, run_underlying hs w, run_underlying hd w, Result.andThen_ok]
    show (Conv.floatToInt .f64 (F n) .i64).run P w = _
    unfold Conv.floatToInt
    simp only [intF hn8]
    have e1 : IntKind.i64.min = -9223372036854775808 := rfl
    have e2 : IntKind.i64.max = 9223372036854775807 := rfl
    rw [if_pos (by rw [e1, e2]; omega)]
    rfl
  simp only [execOp, Sem.run_bind, hx, hc]
  rfl
theorem cmp_leq (a b : Int) : (some (compare a b) == some Ordering.lt || some (compare a b) == some Ordering.eq) = decide (a ≤ b) := by
  simp only [compare, compareOfLessAndEq]
  by_cases h1 : a < b
  · rw [if_pos h1, decide_eq_true (by omega)]; rfl
  · by_cases h2 : a = b
    · rw [if_neg h1, if_pos h2, decide_eq_true (by omega)]; rfl
    · rw [if_neg h1, if_neg h2, decide_eq_false (by omega)]; rfl
theorem cmp_geq (a b : Int) : (some (compare a b) == some Ordering.gt || some (compare a b) == some Ordering.eq) = decide (b ≤ a) := by
  simp only [compare, compareOfLessAndEq]
  by_cases h1 : a < b
  · rw [if_pos h1, decide_eq_false (by omega)]; rfl
  · by_cases h2 : a = b
    · rw [if_neg h1, if_pos h2, decide_eq_true (by omega)]; rfl
    · rw [if_neg h1, if_neg h2, decide_eq_true (by omega)]; rfl
theorem cmp_eql (a b : Int) : (some (compare a b) == some Ordering.eq) = (a == b) := by
  simp only [compare, compareOfLessAndEq]
  by_cases h1 : a < b
  · have : (a == b) = false := by rw [beq_eq_false_iff_ne]; omega
    rw [if_pos h1, this]; rfl
  · by_cases h2 : a = b
    · rw [if_neg h1, if_pos h2, h2]; simp
    · have : (a == b) = false := by rw [beq_eq_false_iff_ne]; exact h2
      rw [if_neg h1, if_neg h2, this]; rfl
theorem Ow.fleq {t t' : TypeId} {x y : Operand} {a b : Int} (hs : skipped ops f ⟨d, .binOp .leq t x y t', ty, ps, af, g⟩ = false) (hx : ev f x = fl a) (hy : ev f y = fl b) (ha : a.natAbs < 8192) (hb : b.natAbs < 8192)
    (hn : Ow P w0 ops md.next rest (putF f d (.bool (decide (a ≤ b)))) L N) : Ow P w0 ops md (⟨d, .binOp .leq t x y t', ty, ps, af, g⟩ :: rest) f L N := by
  refine Ow.pureV rfl hs (fun w => ?_) hn
  simp only [execOp, Sem.run_bind, hx, hy]
  have hg : (eqGuard .leq t x y (fl a) (fl b)).run P w = .ok () w := rfl
  have hc : (binOp .leq t (fl a) (fl b)).run P w = .ok (.bool (decide (a ≤ b))) w := by
    show Result.ok (Value.bool (FloatKind.f64.format.order (F a) (F b) == some .lt || FloatKind.f64.format.order (F a) (F b) == some .eq)) w = _
    rw [ord ha hb, cmp_leq]
  rw [hg, Result.andThen_ok, hc]
  rfl
theorem Ow.fgeq {t t' : TypeId} {x y : Operand} {a b : Int} (hs : skipped ops f ⟨d, .binOp .geq t x y t', ty, ps, af, g⟩ = false) (hx : ev f x = fl a) (hy : ev f y = fl b) (ha : a.natAbs < 8192) (hb : b.natAbs < 8192)
    (hn : Ow P w0 ops md.next rest (putF f d (.bool (decide (b ≤ a)))) L N) : Ow P w0 ops md (⟨d, .binOp .geq t x y t', ty, ps, af, g⟩ :: rest) f L N := by
  refine Ow.pureV rfl hs (fun w => ?_) hn
  simp only [execOp, Sem.run_bind, hx, hy]
  have hg : (eqGuard .geq t x y (fl a) (fl b)).run P w = .ok () w := rfl
  have hc : (binOp .geq t (fl a) (fl b)).run P w = .ok (.bool (decide (b ≤ a))) w := by
    show Result.ok (Value.bool (FloatKind.f64.format.order (F a) (F b) == some .gt || FloatKind.f64.format.order (F a) (F b) == some .eq)) w = _
    rw [ord ha hb, cmp_geq]
  rw [hg, Result.andThen_ok, hc]
  rfl
theorem Ow.feql {t t' : TypeId} {x y : Operand} {a b : Int} (hs : skipped ops f ⟨d, .binOp .eql t x y t', ty, ps, af, g⟩ = false) (hx : ev f x = fl a) (hy : ev f y = fl b) (ha : a.natAbs < 8192) (hb : b.natAbs < 8192)
    (hn : Ow P w0 ops md.next rest (putF f d (.bool (a == b))) L N) : Ow P w0 ops md (⟨d, .binOp .eql t x y t', ty, ps, af, g⟩ :: rest) f L N := by
  refine Ow.pureV rfl hs (fun w => ?_) hn
  simp only [execOp, Sem.run_bind, hx, hy]
  have hg : (eqGuard .eql t x y (fl a) (fl b)).run P w = .ok () w := rfl
  have hc : (binOp .eql t (fl a) (fl b)).run P w = .ok (.bool (a == b)) w := by
    show Result.ok (Value.bool (FloatKind.f64.format.order (F a) (F b) == some .eq)) w = _
    rw [ord ha hb, cmp_eql]
  rw [hg, Result.andThen_ok, hc]
  rfl
theorem Ow.ceql {t t' : TypeId} {x y : Operand} {a b a' b' : Int} (hs : skipped ops f ⟨d, .binOp .eql t x y t', ty, ps, af, g⟩ = false) (hx : ev f x = cx a b) (hy : ev f y = cx a' b') (ha : a.natAbs < 8192) (hb : b.natAbs < 8192) (ha' : a'.natAbs < 8192) (hb' : b'.natAbs < 8192)
    (hn : Ow P w0 ops md.next rest (putF f d (.bool (a == a' && b == b'))) L N) : Ow P w0 ops md (⟨d, .binOp .eql t x y t', ty, ps, af, g⟩ :: rest) f L N := by
  refine Ow.pureV rfl hs (fun w => ?_) hn
  simp only [execOp, Sem.run_bind, hx, hy]
  have hg : (eqGuard .eql t x y (cx a b) (cx a' b')).run P w = .ok () w := rfl
  have hc : (binOp .eql t (cx a b) (cx a' b')).run P w = .ok (.bool (a == a' && b == b')) w := by
    show Result.ok (Value.bool (FloatKind.f64.format.order (F a) (F a') == some .eq && FloatKind.f64.format.order (F b) (F b') == some .eq)) w = _
    rw [ord ha ha', ord hb hb', cmp_eql, cmp_eql]
  rw [hg, Result.andThen_ok, hc]
  rfl
theorem Ow.real {x : Operand} {ts : Array TypeId} {a b : Int} (hs : skipped ops f ⟨d, .call ⟨.builtin .real, #[x], ts⟩, ty, ps, af, g⟩ = false) (hx : ev f x = cx a b)
    (hn : Ow P w0 ops md.next rest (putF f d (fl a)) L N) : Ow P w0 ops md (⟨d, .call ⟨.builtin .real, #[x], ts⟩, ty, ps, af, g⟩ :: rest) f L N := by
  refine Ow.calm rfl rfl hs (fun w hw => .inl ⟨fl a, w, L, ?_, hw, rfl, rfl⟩) hn
  simp only [execOp, resolve, Sem.run_bind, Sem.run_pure, Result.andThen_ok, invoke, builtin, List.map_toArray, List.map_cons, List.map_nil, hx]
  rfl
theorem Ow.imag {x : Operand} {ts : Array TypeId} {a b : Int} (hs : skipped ops f ⟨d, .call ⟨.builtin .imag, #[x], ts⟩, ty, ps, af, g⟩ = false) (hx : ev f x = cx a b)
    (hn : Ow P w0 ops md.next rest (putF f d (fl b)) L N) : Ow P w0 ops md (⟨d, .call ⟨.builtin .imag, #[x], ts⟩, ty, ps, af, g⟩ :: rest) f L N := by
  refine Ow.calm rfl rfl hs (fun w hw => .inl ⟨fl b, w, L, ?_, hw, rfl, rfl⟩) hn
  simp only [execOp, resolve, Sem.run_bind, Sem.run_pure, Result.andThen_ok, invoke, builtin, List.map_toArray, List.map_cons, List.map_nil, hx]
  rfl
theorem Ow.complexB {x y : Operand} {ts : Array TypeId} {a b : Int} (hs : skipped ops f ⟨d, .call ⟨.builtin .complex, #[x, y], ts⟩, ty, ps, af, g⟩ = false) (hx : ev f x = fl a) (hy : ev f y = fl b)
    (hn : Ow P w0 ops md.next rest (putF f d (cx a b)) L N) : Ow P w0 ops md (⟨d, .call ⟨.builtin .complex, #[x, y], ts⟩, ty, ps, af, g⟩ :: rest) f L N := by
  refine Ow.calm rfl rfl hs (fun w hw => .inl ⟨cx a b, w, L, ?_, hw, rfl, rfl⟩) hn
  simp only [execOp, resolve, Sem.run_bind, Sem.run_pure, Result.andThen_ok, invoke, builtin, List.map_toArray, List.map_cons, List.map_nil, hx, hy]
  rfl
end
end Go.Sx
namespace Go.Sx
open Go Go.Flo
theorem binX_fleq (P : Program) (t : TypeId) (a b : Int) : binX P .eql t (fl a) (fl b) = none := by
  show (eqNilV (P.underlying t) (fl a) (fl b)).map _ = none
  unfold eqNilV fl
  split <;> simp_all
theorem binX_cxeq (P : Program) (t : TypeId) (a b a' b' : Int) : binX P .eql t (cx a b) (cx a' b') = none := by
  show (eqNilV (P.underlying t) (cx a b) (cx a' b')).map _ = none
  unfold eqNilV cx
  split <;> simp_all
section
variable {P : Program} {w0 : World} {st : Bool} {f : Fr} {L : Heap} {md : Md} {d : Option Tmp} {ty : TypeId} {ps : String} {af : Array Edge} {g : Option (Nat × Bool)} {go : Fr → Heap → Prop} {stop : Prop}
theorem vcB_real (a : Array Operand) (t : Array TypeId) : vcB P w0 st md ⟨d, .call ⟨.builtin .real, a, t⟩, ty, ps, af, g⟩ f L go stop = stop := (rfl)
theorem vcB_imag (a : Array Operand) (t : Array TypeId) : vcB P w0 st md ⟨d, .call ⟨.builtin .imag, a, t⟩, ty, ps, af, g⟩ f L go stop = stop := (rfl)
theorem vcB_complex (a : Array Operand) (t : Array TypeId) : vcB P w0 st md ⟨d, .call ⟨.builtin .complex, a, t⟩, ty, ps, af, g⟩ f L go stop = stop := (rfl)
end
end Go.Sx
section
open Go Go.Proofs Go.Sx Go.StP Go.Flo
namespace Go.Proofs
set_option maxRecDepth 10000
set_option maxHeartbeats 400000
set_option linter.unusedSimpArgs false
/-! ### Pieces: plain laws -/
/-- A piece: a copy's place and length, or bytes. -/
structure PcL where
  a : Nat
  n : Nat
  x : List UInt8
def pc0 : PcL := ⟨0, 0, []⟩
def pcC (p : PcL) : List Value := [cx p.a p.n, vs p.x]
def PcB (p : PcL) : Prop := p.a ≤ 4099 ∧ p.n ≤ 4099
theorem pcC_len (p : PcL) : (pcC p).length = 2 := rfl
theorem pcC_one (p : PcL) : (pcC p).all Value.oneCell' = true := rfl
/-- A copy that is right for a base of some bytes. -/
def cpV (p : PcL) (b : Int) : Option (Nat × Nat) := if 1 ≤ p.n ∧ p.n ≤ 4099 ∧ p.x = [] ∧ (p.a : Int) ≤ b - p.n then some (p.a, p.n) else none
/-- How many bytes a piece has; 0: it isn't right. -/
def pcLen (p : PcL) (b : Int) : Nat := if p.a = 0 ∧ p.n = 0 ∧ p.x.length ≤ 4099 then p.x.length else match cpV p b with | some q => q.2 | none => 0
theorem pcLen_le (p : PcL) (b : Int) : pcLen p b ≤ 4099 := by
  unfold pcLen
  split
  · rename_i h; exact h.2.2
  · unfold cpV
    split
    · rename_i q h
      split at h
      · rename_i hc; cases h; exact hc.2.1
      · cases h
    · omega
def sumP (b : Int) (l : List PcL) : Nat := (l.map fun p => pcLen p b).sum
theorem sumP_snoc (b : Int) (l : List PcL) (p : PcL) : sumP b (l ++ [p]) = sumP b l + pcLen p b := by
  unfold sumP; rw [List.map_append, List.sum_append]; simp
theorem sumP_app (b : Int) (l m : List PcL) : sumP b (l ++ m) = sumP b l + sumP b m := by
  unfold sumP; rw [List.map_append, List.sum_append]
def anyZ (b : Int) (l : List PcL) : Bool := l.any fun p => pcLen p b == 0
/-- How many bytes pieces have, and the error. -/
def chkV (b : Int) (l : List PcL) : Int × Int := if b < 0 ∨ 4099 < b then (0, 1) else if anyZ b l = true then (0, 1) else if 4099 < sumP b l then (0, 19) else ((sumP b l : Nat), 0)
theorem sumP_ge (b : Int) : ∀ (l : List PcL), anyZ b l = false → l.length ≤ sumP b l
  | [], _ => Nat.zero_le _
  | p :: l, h => by
    unfold anyZ at h
    rw [List.any_cons, Bool.or_eq_false_iff] at h
    have h1 := sumP_ge b l h.2
    have h2 : pcLen p b ≠ 0 := by simpa using h.1
    unfold sumP at h1 ⊢
    rw [List.map_cons, List.sum_cons, List.length_cons]
    omega
theorem chkV_ok {b m : Int} {l : List PcL} (h : chkV b l = (m, 0)) : 0 ≤ b ∧ b ≤ 4099 ∧ anyZ b l = false ∧ sumP b l ≤ 4099 ∧ m = (sumP b l : Nat) ∧ l.length ≤ 4099 := by
  unfold chkV at h
  split at h
  · cases h
  · rename_i hb
    split at h
    · cases h
    · rename_i hz
      split at h
      · cases h
      · rename_i hs
        have hz' : anyZ b l = false := by simpa using hz
        have := sumP_ge b l hz'
        cases h
        exact ⟨by omega, by omega, hz', by omega, rfl, by omega⟩
/-- A piece's text. -/
def pcT (base : List UInt8) (p : PcL) : List UInt8 := match cpV p base.length with | some q => (base.drop q.1).take q.2 ++ p.x | none => p.x
def txtP (base : List UInt8) (l : List PcL) : List UInt8 := (l.map (pcT base)).flatten
/-- One piece, read. -/
def pcR (d : List UInt8) (a : Nat) : PcL × Nat × Int :=
  if (numR d a 0 8199).1 % 2 = 1 then
    (⟨(numR d (numR d a 0 8199).2.1 (numR d a 0 8199).2.2 4099).1.toNat, ((numR d a 0 8199).1 / 2).toNat, []⟩, (numR d (numR d a 0 8199).2.1 (numR d a 0 8199).2.2 4099).2)
  else (⟨0, 0, (rawR d (numR d a 0 8199).2.1 (numR d a 0 8199).2.2 ((numR d a 0 8199).1 / 2)).1⟩, (rawR d (numR d a 0 8199).2.1 (numR d a 0 8199).2.2 ((numR d a 0 8199).1 / 2)).2)
theorem pcR_le {d : List UInt8} {a : Nat} (ha : a ≤ d.length) : a ≤ (pcR d a).2.1 ∧ (pcR d a).2.1 ≤ d.length := by
  have h1 := numR_le (s := d) (a := a) (e := 0) (most := 8199) ha
  unfold pcR
  split
  · have h2 := numR_le (s := d) (a := (numR d a 0 8199).2.1) (e := (numR d a 0 8199).2.2) (most := 4099) h1.2
    exact ⟨Nat.le_trans h1.1 h2.1, h2.2⟩
  · have h2 := rawR_le (s := d) (a := (numR d a 0 8199).2.1) (e := (numR d a 0 8199).2.2) (n := (numR d a 0 8199).1 / 2) h1.2
    exact ⟨Nat.le_trans h1.1 h2.1, h2.2⟩
theorem pcR_up {d : List UInt8} {a : Nat} (ha : a ≤ d.length) (h : (pcR d a).2.2 = 0) : a < (pcR d a).2.1 := by
  have h1 := numR_le (s := d) (a := a) (e := 0) (most := 8199) ha
  have hz : (numR d a 0 8199).2.2 = 0 := by
    by_cases he : (numR d a 0 8199).2.2 = 0
    · exact he
    · unfold pcR at h
      split at h
      · have := numR_e (s := d) (a := (numR d a 0 8199).2.1) (most := 4099) he
        simp only [this] at h
        exact absurd h he
      · have := rawR_e (s := d) (a := (numR d a 0 8199).2.1) (n := (numR d a 0 8199).1 / 2) he
        simp only [this] at h
        exact absurd h he
  have hup := numR_up hz
  unfold pcR
  split
  · have h2 := numR_le (s := d) (a := (numR d a 0 8199).2.1) (e := (numR d a 0 8199).2.2) (most := 4099) h1.2
    exact Nat.lt_of_lt_of_le hup h2.1
  · have h2 := rawR_le (s := d) (a := (numR d a 0 8199).2.1) (e := (numR d a 0 8199).2.2) (n := (numR d a 0 8199).1 / 2) h1.2
    exact Nat.lt_of_lt_of_le hup h2.1
/-- Pieces, as far as they can be read: at most so many. -/
def pcsF (d : List UInt8) : Nat → Nat → List PcL × Nat × Int
  | 0, a => ([], a, 0)
  | k + 1, a => if a < d.length then (if (pcR d a).2.2 = 0 then ((pcR d a).1 :: (pcsF d k (pcR d a).2.1).1, (pcsF d k (pcR d a).2.1).2) else ([(pcR d a).1], (pcR d a).2)) else ([], a, 0)
theorem pcsF_more {d : List UInt8} : ∀ (k j a : Nat), a ≤ d.length → d.length - a ≤ k → d.length - a ≤ j → pcsF d k a = pcsF d j a
  | 0, j, a, ha, hk, _ => by
    have : ¬ a < d.length := by omega
    cases j with
    | zero => rfl
    | succ j => unfold pcsF; rw [if_neg this]
  | k + 1, 0, a, ha, _, hj => by
    have : ¬ a < d.length := by omega
    unfold pcsF; rw [if_neg this]
  | k + 1, j + 1, a, ha, hk, hj => by
    unfold pcsF
    by_cases h : a < d.length
    · rw [if_pos h, if_pos h]
      by_cases he : (pcR d a).2.2 = 0
      · have hu := pcR_up ha he
        have hl := pcR_le ha
        rw [if_pos he, if_pos he, pcsF_more k j (pcR d a).2.1 hl.2 (by omega) (by omega)]
      · rw [if_neg he, if_neg he]
    · rw [if_neg h, if_neg h]
/-- All pieces. -/
def pcs (d : List UInt8) (a : Nat) : List PcL × Nat × Int := pcsF d (d.length - a) a
theorem pcs_end {d : List UInt8} {a : Nat} (h : ¬ a < d.length) : pcs d a = ([], a, 0) := by
  unfold pcs
  rw [show d.length - a = 0 by omega]; rfl
theorem pcs_ok {d : List UInt8} {a : Nat} (h : a < d.length) (he : (pcR d a).2.2 = 0) : pcs d a = ((pcR d a).1 :: (pcs d (pcR d a).2.1).1, (pcs d (pcR d a).2.1).2) := by
  have hu := pcR_up (Nat.le_of_lt h) he
  have hl := pcR_le (Nat.le_of_lt h)
  unfold pcs
  obtain ⟨k, hk⟩ : ∃ k, d.length - a = k + 1 := ⟨d.length - a - 1, by omega⟩
  rw [hk]
  conv => lhs; unfold pcsF
  rw [if_pos h, if_pos he, pcsF_more k (d.length - (pcR d a).2.1) (pcR d a).2.1 hl.2 (by omega) (Nat.le_refl _)]
theorem pcs_err {d : List UInt8} {a : Nat} (h : a < d.length) (he : (pcR d a).2.2 ≠ 0) : pcs d a = ([(pcR d a).1], (pcR d a).2) := by
  unfold pcs
  obtain ⟨k, hk⟩ : ∃ k, d.length - a = k + 1 := ⟨d.length - a - 1, by omega⟩
  rw [hk]
  unfold pcsF
  rw [if_pos h, if_neg he]
theorem pcs_at {d : List UInt8} : ∀ (k a : Nat), d.length - a ≤ k → a ≤ d.length → (pcs d a).2.2 = 0 → (pcs d a).2.1 = d.length
  | k, a, hk, ha, h => by
    by_cases hlt : a < d.length
    · by_cases he : (pcR d a).2.2 = 0
      · have hu := pcR_up ha he
        have hl := pcR_le ha
        rw [pcs_ok hlt he] at h ⊢
        cases k with
        | zero => omega
        | succ k => exact pcs_at k _ (by omega) hl.2 h
      · rw [pcs_err hlt he] at h
        exact absurd h he
    · rw [pcs_end hlt]; show a = d.length; omega
/-- What a delta says. -/
def deltaR (d : List UInt8) : Option (Nat × List PcL) :=
  if (numR d (numR d 0 0 4099).2.1 (numR d 0 0 4099).2.2 4099).2.2 ≠ 0 then none
  else if (pcs d (numR d (numR d 0 0 4099).2.1 (numR d 0 0 4099).2.2 4099).2.1).2.2 ≠ 0 then none
  else if chkV (numR d 0 0 4099).1 (pcs d (numR d (numR d 0 0 4099).2.1 (numR d 0 0 4099).2.2 4099).2.1).1 = ((numR d (numR d 0 0 4099).2.1 (numR d 0 0 4099).2.2 4099).1, 0) then some ((numR d 0 0 4099).1.toNat, (pcs d (numR d (numR d 0 0 4099).2.1 (numR d 0 0 4099).2.2 4099).2.1).1)
  else none
/-- What a delta makes of a text: the text, the error. -/
def applyV (base d : List UInt8) : List UInt8 × Int :=
  match deltaR d with
  | none => ([], 2)
  | some p => if p.1 ≠ base.length then ([], 19) else (txtP base p.2, 0)
end Go.Proofs
end
