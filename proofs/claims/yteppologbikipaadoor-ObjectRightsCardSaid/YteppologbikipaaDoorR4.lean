/-
  Part 4 of the walk: contracts of the functions that the law reaches, and the calculus they stand on.
  No conditions.
-/
import Derived.Test.YteppologbikipaaDoorR3
import Derived.Lib.Strings
import Derived.Lib.Bytealg
section
open Go Go.Proofs Go.Sx Go.StP
namespace Go.Proofs
set_option maxRecDepth 10000
set_option maxHeartbeats 400000
set_option linter.unusedSimpArgs false
/-! ### Objects, read -/
theorem blobRd_spec (v : Value) (w : World) : Rets Tryd.prog 104 #[v] w (fun v' D => v' = .bool true ∧ D = []) := by
  refine Rets.enterV Tryd.func104 rfl (rs := [.tmp 2]) Tryd.results104 Tryd.ntmps104 ?_
  simp only [List.size_toArray, List.length_cons, List.length_nil, Nat.reduceAdd, Nat.reduceSub, List.replicate_succ, List.replicate_zero, List.cons_append, List.nil_append]
  ((try with_reducible refine Cw.go [] ?_); (try simp (disch := (first | assumption | omega | (simp only [lenS, lenT, UInt64.reduceToNat]; try omega))) only [↓Sx.S0, Sx.S1, Tryd.fx, Nat.reduceAdd, Nat.reducePow, Int.reducePow, Nat.reduceBEq, ↓reduceIte, UInt8.reduceToNat, UInt16.reduceToNat, UInt32.reduceToNat, UInt64.reduceToNat, Int.reduceToNat]))
  refine ⟨_, (by simp (disch := (first | assumption | omega | (simp only [lenS, lenT, UInt64.reduceToNat]; try omega))) only [↓Sx.S0, Sx.S1, Tryd.fx, Nat.reduceAdd, Nat.reducePow, Int.reducePow, Nat.reduceBEq, ↓reduceIte, UInt8.reduceToNat, UInt16.reduceToNat, UInt32.reduceToNat, UInt64.reduceToNat, Int.reduceToNat]; rfl), trivial, ?_⟩
  rfl
abbrev obV (k : Int) (t : List UInt8) : Value := .agg #[vi k, vs t]
theorem load_ob (k : Int) (t : List UInt8) (E : TypeId) (fz : Nat × Nat) : loadV (some (true, 2)) (some (.cells #[vi k, vs t] E fz)) 0 = some (obV k t) := (rfl)
theorem load_ob0 (k : Int) (t : List UInt8) (n : Nat) (E : TypeId) (fz : Nat × Nat) : loadV (some (false, n)) (some (.cells #[vi k, vs t] E fz)) 0 = some (vi k) := (rfl)
theorem load_ob1 (k : Int) (t : List UInt8) (n : Nat) (E : TypeId) (fz : Nat × Nat) : loadV (some (false, n)) (some (.cells #[vi k, vs t] E fz)) 1 = some (vs t) := (rfl)
theorem store_ob (k k' : Int) (t t' : List UInt8) (a : Bool) (E : TypeId) : storeV (some (a, 2)) (some (.cells #[vi k', vs t'] E (0, 0))) 0 (obV k t) = some (.cells #[vi k, vs t] E (0, 0)) := (rfl)
set_option linter.defProp false
def uOZ_1 := And.intro (And.intro (@load_ob) (And.intro (@load_ob0) (@load_ob1))) (And.intro (@store_ob) (And.intro (@rdIn_v8) (@rdIn_vi)))
def fnV (k : Nat) : Value := .func (.func k) #[] #[]
def fnsV : Array Value := #[.nilFunc, fnV 104, fnV 105, fnV 106]
abbrev T4 : TypeId := 167
theorem build_fns : buildV (plcT Tryd.prog T4) (zeroV Tryd.prog T4) [(1, fnV 104), (2, fnV 105), (3, fnV 106)] = some (.agg fnsV) := by
  have hp : plcT Tryd.prog T4 = some [(0, 1), (1, 1), (2, 1), (3, 1)] := id (by kernel_rfl)
  have hz : zeroV Tryd.prog T4 = some (.agg #[.nilFunc, .nilFunc, .nilFunc, .nilFunc]) := id (by kernel_rfl)
  rw [hp, hz]; rfl
theorem zrFns : zeroV Tryd.prog T4 = some (.agg #[.nilFunc, .nilFunc, .nilFunc, .nilFunc]) := id (by kernel_rfl)
theorem store_fns (a : Bool) (E : TypeId) : storeV (some (a, 4)) (some (.cells #[.nilFunc, .nilFunc, .nilFunc, .nilFunc] E (0, 0))) 0 (.agg fnsV) = some (.cells fnsV E (0, 0)) := (rfl)
theorem build_ro (x : Value) (hx : x.cells = #[x]) : buildV (plcT Tryd.prog 117) (zeroV Tryd.prog 117) [(0, x)] = some (.agg (roC x (.slice none 0 0) id0 (.slice none 0 0) []).toArray) := by
  have hp : plcT Tryd.prog 117 = some [(0, 1), (1, 1), (2, 34)] := id (by kernel_rfl)
  have hz : zeroV Tryd.prog 117 = some (.agg (roC (.pointer none) (.slice none 0 0) id0 (.slice none 0 0) []).toArray) := id (by kernel_rfl)
  rw [hp, hz]
  simp only [buildV, fillV, List.getElem?_cons_zero, hx]
  rfl
/-- What reading an object gives. -/
def RdOk (k : Int) (t : List UInt8) : Bool :=
  if 1 ≤ k ∧ k ≤ 3 ∧ t.length ≤ 4096 then
    (if k = 1 then true else if k = 2 then (endE t (entsE t).2.1 (entsE t).2.2 == 0 && entsOk (entsE t).1) else (endE t (comE t).2.1 (comE t).2.2 == 0 && comOk (comE t).1))
  else false
def RdS (k : Int) (t : List UInt8) (v : Value) (D : Heap) : Prop :=
  ∃ p, v = .tuple #[p, .bool (RdOk k t)] ∧ (1 ≤ k ∧ k ≤ 3 ∧ t.length ≤ 4096 → ∃ bo bw v1 c1 x1 y1, p = vp bo 0 ∧ Sx.look D bo = some (.cells (roC (vp bw 0) v1 c1 x1 y1).toArray 117 (0, 0)) ∧
    (k = 2 → Gr D 108 34 v1 (entsE t).1.length ((entsE t).1.map entC).flatten) ∧
    (k = 3 → c1 = (comE t).1.tree ∧ y1 = (comE t).1.text ∧ Gr D 40 32 x1 (comE t).1.par.length ((comE t).1.par.map idLC).flatten) ∧ (k ≠ 2 → v1 = .slice none 0 0))
theorem readO_spec (k : Int) (t : List UInt8) (w : World) : Rets Tryd.prog 64 #[obV k t] w (XS w [] (RdS k t)) := by
  refine Rets.enterX Tryd.func64 rfl (rs := [.tmp 2, .tmp 3]) Tryd.results64 Tryd.ntmps64 (fun p hp => by cases hp) (by simp [keys]) ?_
  simp only [List.size_toArray, List.length_cons, List.length_nil, Nat.reduceAdd, Nat.reduceSub, List.replicate_succ, List.replicate_zero, List.cons_append, List.nil_append]
  ((try with_reducible refine Cw.go [] ?_); (try simp (disch := (first | assumption | omega | (simp only [lenS, lenT, UInt64.reduceToNat]; try omega))) only [↓Sx.S0, Sx.S1, Tryd.fx, uOZ_1, Nat.reduceAdd, Nat.reducePow, Int.reducePow, Nat.reduceBEq, ↓reduceIte, UInt8.reduceToNat, UInt16.reduceToNat, UInt32.reduceToNat, UInt64.reduceToNat, Int.reduceToNat]))
  refine Ow.box rfl rfl fun b1 hb1 hw1 => ?_
  simp only [ev_tmp, getF_0, getF_s, cells_agg, List.nil_append]
  refine Ow.go rfl ?_
  simp (disch := (first | assumption | omega | (simp only [lenS, lenT, UInt64.reduceToNat]; try omega))) only [↓Sx.S0, Sx.S1, Tryd.fx, uOZ_1, Nat.reduceAdd, Nat.reducePow, Int.reducePow, Nat.reduceBEq, ↓reduceIte, UInt8.reduceToNat, UInt16.reduceToNat, UInt32.reduceToNat, UInt64.reduceToNat, Int.reduceToNat]
  refine Ow.build (.agg fnsV) rfl build_fns ?_
  refine Ow.go rfl ?_
  simp (disch := (first | assumption | omega | (simp only [lenS, lenT, UInt64.reduceToNat]; try omega))) only [↓Sx.S0, Sx.S1, Tryd.fx, uOZ_1, Nat.reduceAdd, Nat.reducePow, Int.reducePow, Nat.reduceBEq, ↓reduceIte, UInt8.reduceToNat, UInt16.reduceToNat, UInt32.reduceToNat, UInt64.reduceToNat, Int.reduceToNat]
  refine Ow.alloc rfl rfl zrFns fun b4 hb4 hw4 => ?_
  simp only [cells_agg, List.nil_append, List.cons_append]
  have h14 : b1 < b4 := above_to hb4 (by simp [keys])
  refine Ow.go rfl ?_
  simp (disch := (first | assumption | omega | (simp only [lenS, lenT, UInt64.reduceToNat]; try omega))) only [↓Sx.S0, Sx.S1, Tryd.fx, uOZ_1, Nat.reduceAdd, Nat.reducePow, Int.reducePow, Nat.reduceBEq, ↓reduceIte, UInt8.reduceToNat, UInt16.reduceToNat, UInt32.reduceToNat, UInt64.reduceToNat, Int.reduceToNat, store_fns]
  by_cases h1 : k < 1
  · have d1 : decide (k < 1) = true := decide_eq_true h1
    have e : RdOk k t = false := by unfold RdOk; rw [if_neg (by omega)]
    ((try with_reducible refine Cw.go [] ?_); (try simp (disch := (first | assumption | omega | (simp only [lenS, lenT, UInt64.reduceToNat]; try omega))) only [↓Sx.S0, Sx.S1, Tryd.fx, uOZ_1, Nat.reduceAdd, Nat.reducePow, Int.reducePow, Nat.reduceBEq, ↓reduceIte, UInt8.reduceToNat, UInt16.reduceToNat, UInt32.reduceToNat, UInt64.reduceToNat, Int.reduceToNat, d1]))
    refine ⟨_, (by simp (disch := (first | assumption | omega | (simp only [lenS, lenT, UInt64.reduceToNat]; try omega))) only [↓Sx.S0, Sx.S1, Tryd.fx, uOZ_1, Nat.reduceAdd, Nat.reducePow, Int.reducePow, Nat.reduceBEq, ↓reduceIte, UInt8.reduceToNat, UInt16.reduceToNat, UInt32.reduceToNat, UInt64.reduceToNat, Int.reduceToNat]; rfl), ?_⟩
    exact ⟨Ext.of_new ⟨hw1, hw4, trivial⟩, .pointer none, by rw [e]; rfl, fun h => absurd h.1 (by omega)⟩
  · have d1 : decide (k < 1) = false := decide_eq_false h1
    by_cases h2 : 3 < k
    · have d2 : decide (3 < k) = true := decide_eq_true h2
      have e : RdOk k t = false := by unfold RdOk; rw [if_neg (by omega)]
      ((try with_reducible refine Cw.go [] ?_); (try simp (disch := (first | assumption | omega | (simp only [lenS, lenT, UInt64.reduceToNat]; try omega))) only [↓Sx.S0, Sx.S1, Tryd.fx, uOZ_1, Nat.reduceAdd, Nat.reducePow, Int.reducePow, Nat.reduceBEq, ↓reduceIte, UInt8.reduceToNat, UInt16.reduceToNat, UInt32.reduceToNat, UInt64.reduceToNat, Int.reduceToNat, d1, d2]))
      refine ⟨_, (by simp (disch := (first | assumption | omega | (simp only [lenS, lenT, UInt64.reduceToNat]; try omega))) only [↓Sx.S0, Sx.S1, Tryd.fx, uOZ_1, Nat.reduceAdd, Nat.reducePow, Int.reducePow, Nat.reduceBEq, ↓reduceIte, UInt8.reduceToNat, UInt16.reduceToNat, UInt32.reduceToNat, UInt64.reduceToNat, Int.reduceToNat]; rfl), ?_⟩
      exact ⟨Ext.of_new ⟨hw1, hw4, trivial⟩, .pointer none, by rw [e]; rfl, fun h => absurd h.2.1 (by omega)⟩
    · have d2 : decide (3 < k) = false := decide_eq_false h2
      by_cases h3 : 4096 < t.length
      · have d3 : decide (4096 < (t.length : Int)) = true := decide_eq_true (by omega)
        have e : RdOk k t = false := by unfold RdOk; rw [if_neg (by omega)]
        ((try with_reducible refine Cw.go [] ?_); (try simp (disch := (first | assumption | omega | (simp only [lenS, lenT, UInt64.reduceToNat]; try omega))) only [↓Sx.S0, Sx.S1, Tryd.fx, uOZ_1, Nat.reduceAdd, Nat.reducePow, Int.reducePow, Nat.reduceBEq, ↓reduceIte, UInt8.reduceToNat, UInt16.reduceToNat, UInt32.reduceToNat, UInt64.reduceToNat, Int.reduceToNat, d1, d2, d3]))
        refine ⟨_, (by simp (disch := (first | assumption | omega | (simp only [lenS, lenT, UInt64.reduceToNat]; try omega))) only [↓Sx.S0, Sx.S1, Tryd.fx, uOZ_1, Nat.reduceAdd, Nat.reducePow, Int.reducePow, Nat.reduceBEq, ↓reduceIte, UInt8.reduceToNat, UInt16.reduceToNat, UInt32.reduceToNat, UInt64.reduceToNat, Int.reduceToNat]; rfl), ?_⟩
        exact ⟨Ext.of_new ⟨hw1, hw4, trivial⟩, .pointer none, by rw [e]; rfl, fun h => absurd h.2.2 (by omega)⟩
      · have d3 : decide (4096 < (t.length : Int)) = false := decide_eq_false (by omega)
        ((try with_reducible refine Cw.go [] ?_); (try simp (disch := (first | assumption | omega | (simp only [lenS, lenT, UInt64.reduceToNat]; try omega))) only [↓Sx.S0, Sx.S1, Tryd.fx, uOZ_1, Nat.reduceAdd, Nat.reducePow, Int.reducePow, Nat.reduceBEq, ↓reduceIte, UInt8.reduceToNat, UInt16.reduceToNat, UInt32.reduceToNat, UInt64.reduceToNat, Int.reduceToNat, d1, d2, d3]))
        refine Ow.callF rfl rfl Tryd.call41 (S := fun B v D => ∃ b', B ≤ b' ∧ v = vp b' 0 ∧ D = [(b', .cells #[vs t, vi 0, vi 0] 139 (0, 0))]) (fun w' hw' => RNew_spec t w') ?_
        rintro B v D hab hB ⟨bw, hbw, rfl, rfl⟩
        obtain ⟨h1B, h4B, -⟩ := hab
        refine ⟨_, Mrg.fresh (by intro q hq; simp only [keys, List.map_cons, List.map_nil, List.mem_singleton] at hq; omega), ?_⟩
        simp only [List.cons_append, List.nil_append]
        refine Ow.go rfl ?_
        simp (disch := (first | assumption | omega | (simp only [lenS, lenT, UInt64.reduceToNat]; try omega))) only [↓Sx.S0, Sx.S1, Tryd.fx, uOZ_1, Nat.reduceAdd, Nat.reducePow, Int.reducePow, Nat.reduceBEq, ↓reduceIte, UInt8.reduceToNat, UInt16.reduceToNat, UInt32.reduceToNat, UInt64.reduceToNat, Int.reduceToNat]
        refine Ow.build (.agg (roC (vp bw 0) (.slice none 0 0) id0 (.slice none 0 0) []).toArray) rfl (build_ro _ rfl) ?_
        refine Ow.go rfl ?_
        simp (disch := (first | assumption | omega | (simp only [lenS, lenT, UInt64.reduceToNat]; try omega))) only [↓Sx.S0, Sx.S1, Tryd.fx, uOZ_1, Nat.reduceAdd, Nat.reducePow, Int.reducePow, Nat.reduceBEq, ↓reduceIte, UInt8.reduceToNat, UInt16.reduceToNat, UInt32.reduceToNat, UInt64.reduceToNat, Int.reduceToNat]
        refine Ow.box rfl rfl fun bo hbo hwo => ?_
        simp only [ev_tmp, getF_0, getF_s, cells_agg, List.nil_append, List.cons_append]
        have hobw : bo ≠ bw := by have := above_to hbo (show bw ∈ keys _ by simp [keys]); omega
        rcases (show k = 1 ∨ k = 2 ∨ k = 3 by omega) with rfl | rfl | rfl
        · have lf : ∀ n E fz, loadV (some (false, n)) (some (.cells fnsV E fz)) 1 = some (fnV 104) := fun _ _ _ => rfl
          have e : RdOk 1 t = true := by unfold RdOk; rw [if_pos (by omega)]; rfl
          refine Ow.go rfl ?_
          simp (disch := (first | assumption | omega | (simp only [lenS, lenT, UInt64.reduceToNat]; try omega))) only [↓Sx.S0, Sx.S1, Tryd.fx, uOZ_1, Nat.reduceAdd, Nat.reducePow, Int.reducePow, Nat.reduceBEq, ↓reduceIte, UInt8.reduceToNat, UInt16.reduceToNat, UInt32.reduceToNat, UInt64.reduceToNat, Int.reduceToNat, lf]
          refine Ow.callV rfl rfl Tryd.call104 (fun w' hw' => by have := blobRd_spec (vp bo 0) w'; simpa [ev_tmp, getF_s, getF_0] using this) ?_
          refine Ow.go rfl ?_
          simp (disch := (first | assumption | omega | (simp only [lenS, lenT, UInt64.reduceToNat]; try omega))) only [↓Sx.S0, Sx.S1, Tryd.fx, uOZ_1, Nat.reduceAdd, Nat.reducePow, Int.reducePow, Nat.reduceBEq, ↓reduceIte, UInt8.reduceToNat, UInt16.reduceToNat, UInt32.reduceToNat, UInt64.reduceToNat, Int.reduceToNat]
          ((try with_reducible refine Cw.go [] ?_); (try simp (disch := (first | assumption | omega | (simp only [lenS, lenT, UInt64.reduceToNat]; try omega))) only [↓Sx.S0, Sx.S1, Tryd.fx, uOZ_1, Nat.reduceAdd, Nat.reducePow, Int.reducePow, Nat.reduceBEq, ↓reduceIte, UInt8.reduceToNat, UInt16.reduceToNat, UInt32.reduceToNat, UInt64.reduceToNat, Int.reduceToNat]))
          refine ⟨_, (by simp (disch := (first | assumption | omega | (simp only [lenS, lenT, UInt64.reduceToNat]; try omega))) only [↓Sx.S0, Sx.S1, Tryd.fx, uOZ_1, Nat.reduceAdd, Nat.reducePow, Int.reducePow, Nat.reduceBEq, ↓reduceIte, UInt8.reduceToNat, UInt16.reduceToNat, UInt32.reduceToNat, UInt64.reduceToNat, Int.reduceToNat]; rfl), ?_⟩
          refine ⟨Ext.of_new ⟨hw1, hw4, by omega, hwo, trivial⟩, vp bo 0, by rw [e]; rfl, fun h => ⟨bo, bw, .slice none 0 0, id0, .slice none 0 0, [], rfl, ?_, fun h => absurd h (by decide), fun h => absurd h (by decide), fun _ => rfl⟩⟩
          have hb1o : b1 ≠ bo := by have := above_to hbo (show b1 ∈ keys _ by simp [keys]); omega
          have hb4o : b4 ≠ bo := by have := above_to hbo (show b4 ∈ keys _ by simp [keys]); omega
          simp (disch := omega) only [look_same, look_other]
        · have lf : ∀ n E fz, loadV (some (false, n)) (some (.cells fnsV E fz)) 2 = some (fnV 105) := fun _ _ _ => rfl
          have e : RdOk 2 t = (endE t (entsE t).2.1 (entsE t).2.2 == 0 && entsOk (entsE t).1) := by unfold RdOk; rw [if_pos (by omega)]; rfl
          refine Ow.go rfl ?_
          simp (disch := (first | assumption | omega | (simp only [lenS, lenT, UInt64.reduceToNat]; try omega))) only [↓Sx.S0, Sx.S1, Tryd.fx, uOZ_1, Nat.reduceAdd, Nat.reducePow, Int.reducePow, Nat.reduceBEq, ↓reduceIte, UInt8.reduceToNat, UInt16.reduceToNat, UInt32.reduceToNat, UInt64.reduceToNat, Int.reduceToNat, lf]
          refine Ow.permL (M := [(bo, Obj.cells (roC (vp bw 0) (.slice none 0 0) id0 (.slice none 0 0) []).toArray 117 (0, 0)), (bw, Obj.cells #[vs t, vi 0, vi 0] 139 (0, 0))] ++ [(b1, Obj.cells #[vi 2, vs t] 45 (0, 0)), (b4, Obj.cells fnsV 167 (0, 0))]) (by classical exact List.perm_iff_count.2 fun a => by simp only [List.count_append, List.count_cons, List.count_nil] <;> omega) ?_
          refine Ow.callFnX (b := vp bo 0) (X := [(bo, Obj.cells (roC (vp bw 0) (.slice none 0 0) id0 (.slice none 0 0) []).toArray 117 (0, 0)), (bw, Obj.cells #[vs t, vi 0, vi 0] 139 (0, 0))]) (Y := [(b1, Obj.cells #[vi 2, vs t] 45 (0, 0)), (b4, Obj.cells fnsV 167 (0, 0))]) rfl rfl rfl rfl rfl Tryd.call105 (fun w' hw' hX hn => treeRd_spec bo bw t w' (by omega) hobw (hX _ List.mem_cons_self) (hX _ (List.mem_cons_of_mem _ List.mem_cons_self))) (fun v D hC hS => ?_)
          obtain ⟨rfl, v1, hl1, hg1⟩ := hS
          have hNX : New w.heap.size (D ++ [(b1, Obj.cells #[vi 2, vs t] 45 (0, 0)), (b4, Obj.cells fnsV 167 (0, 0))]) := by
            refine New.of_le fun c hc => ?_
            rw [keys_app, List.mem_append] at hc
            rcases hc with hc | hc
            · rcases hC.new c hc with h | ⟨-, h⟩
              · simp only [keys, List.map_cons, List.map_nil, List.mem_cons, List.not_mem_nil, or_false] at h; omega
              · exact h
            · simp only [keys, List.map_cons, List.map_nil, List.mem_cons, List.not_mem_nil, or_false] at hc; omega
          refine Ow.go rfl ?_
          simp (disch := (first | assumption | omega | (simp only [lenS, lenT, UInt64.reduceToNat]; try omega))) only [↓Sx.S0, Sx.S1, Tryd.fx, uOZ_1, Nat.reduceAdd, Nat.reducePow, Int.reducePow, Nat.reduceBEq, ↓reduceIte, UInt8.reduceToNat, UInt16.reduceToNat, UInt32.reduceToNat, UInt64.reduceToNat, Int.reduceToNat]
          ((try with_reducible refine Cw.go [] ?_); (try simp (disch := (first | assumption | omega | (simp only [lenS, lenT, UInt64.reduceToNat]; try omega))) only [↓Sx.S0, Sx.S1, Tryd.fx, uOZ_1, Nat.reduceAdd, Nat.reducePow, Int.reducePow, Nat.reduceBEq, ↓reduceIte, UInt8.reduceToNat, UInt16.reduceToNat, UInt32.reduceToNat, UInt64.reduceToNat, Int.reduceToNat]))
          refine ⟨_, (by simp (disch := (first | assumption | omega | (simp only [lenS, lenT, UInt64.reduceToNat]; try omega))) only [↓Sx.S0, Sx.S1, Tryd.fx, uOZ_1, Nat.reduceAdd, Nat.reducePow, Int.reducePow, Nat.reduceBEq, ↓reduceIte, UInt8.reduceToNat, UInt16.reduceToNat, UInt32.reduceToNat, UInt64.reduceToNat, Int.reduceToNat]; rfl), ?_⟩
          exact ⟨Ext.of_new hNX, vp bo 0, by rw [e]; rfl, fun _ => ⟨bo, bw, v1, _, _, _, rfl, look_app hl1, fun _ => hg1.app, fun h => absurd h (by decide), fun h => absurd rfl h⟩⟩
        · have lf : ∀ n E fz, loadV (some (false, n)) (some (.cells fnsV E fz)) 3 = some (fnV 106) := fun _ _ _ => rfl
          have e : RdOk 3 t = (endE t (comE t).2.1 (comE t).2.2 == 0 && comOk (comE t).1) := by unfold RdOk; rw [if_pos (by omega)]; rfl
          refine Ow.go rfl ?_
          simp (disch := (first | assumption | omega | (simp only [lenS, lenT, UInt64.reduceToNat]; try omega))) only [↓Sx.S0, Sx.S1, Tryd.fx, uOZ_1, Nat.reduceAdd, Nat.reducePow, Int.reducePow, Nat.reduceBEq, ↓reduceIte, UInt8.reduceToNat, UInt16.reduceToNat, UInt32.reduceToNat, UInt64.reduceToNat, Int.reduceToNat, lf]
          refine Ow.permL (M := [(bo, Obj.cells (roC (vp bw 0) (.slice none 0 0) id0 (.slice none 0 0) []).toArray 117 (0, 0)), (bw, Obj.cells #[vs t, vi 0, vi 0] 139 (0, 0))] ++ [(b1, Obj.cells #[vi 3, vs t] 45 (0, 0)), (b4, Obj.cells fnsV 167 (0, 0))]) (by classical exact List.perm_iff_count.2 fun a => by simp only [List.count_append, List.count_cons, List.count_nil] <;> omega) ?_
          refine Ow.callFnX (b := vp bo 0) (X := [(bo, Obj.cells (roC (vp bw 0) (.slice none 0 0) id0 (.slice none 0 0) []).toArray 117 (0, 0)), (bw, Obj.cells #[vs t, vi 0, vi 0] 139 (0, 0))]) (Y := [(b1, Obj.cells #[vi 3, vs t] 45 (0, 0)), (b4, Obj.cells fnsV 167 (0, 0))]) rfl rfl rfl rfl rfl Tryd.call106 (fun w' hw' hX hn => comRd_spec bo bw t w' (by omega) hobw (hX _ List.mem_cons_self) (hX _ (List.mem_cons_of_mem _ List.mem_cons_self))) (fun v D hC hS => ?_)
          obtain ⟨rfl, p1, hl1, hg1⟩ := hS
          have hNX : New w.heap.size (D ++ [(b1, Obj.cells #[vi 3, vs t] 45 (0, 0)), (b4, Obj.cells fnsV 167 (0, 0))]) := by
            refine New.of_le fun c hc => ?_
            rw [keys_app, List.mem_append] at hc
            rcases hc with hc | hc
            · rcases hC.new c hc with h | ⟨-, h⟩
              · simp only [keys, List.map_cons, List.map_nil, List.mem_cons, List.not_mem_nil, or_false] at h; omega
              · exact h
            · simp only [keys, List.map_cons, List.map_nil, List.mem_cons, List.not_mem_nil, or_false] at hc; omega
          refine Ow.go rfl ?_
          simp (disch := (first | assumption | omega | (simp only [lenS, lenT, UInt64.reduceToNat]; try omega))) only [↓Sx.S0, Sx.S1, Tryd.fx, uOZ_1, Nat.reduceAdd, Nat.reducePow, Int.reducePow, Nat.reduceBEq, ↓reduceIte, UInt8.reduceToNat, UInt16.reduceToNat, UInt32.reduceToNat, UInt64.reduceToNat, Int.reduceToNat]
          ((try with_reducible refine Cw.go [] ?_); (try simp (disch := (first | assumption | omega | (simp only [lenS, lenT, UInt64.reduceToNat]; try omega))) only [↓Sx.S0, Sx.S1, Tryd.fx, uOZ_1, Nat.reduceAdd, Nat.reducePow, Int.reducePow, Nat.reduceBEq, ↓reduceIte, UInt8.reduceToNat, UInt16.reduceToNat, UInt32.reduceToNat, UInt64.reduceToNat, Int.reduceToNat]))
          refine ⟨_, (by simp (disch := (first | assumption | omega | (simp only [lenS, lenT, UInt64.reduceToNat]; try omega))) only [↓Sx.S0, Sx.S1, Tryd.fx, uOZ_1, Nat.reduceAdd, Nat.reducePow, Int.reducePow, Nat.reduceBEq, ↓reduceIte, UInt8.reduceToNat, UInt16.reduceToNat, UInt32.reduceToNat, UInt64.reduceToNat, Int.reduceToNat]; rfl), ?_⟩
          exact ⟨Ext.of_new hNX, vp bo 0, by rw [e]; rfl, fun _ => ⟨bo, bw, _, _, p1, _, rfl, look_app hl1, fun h => absurd h (by decide), fun _ => ⟨rfl, rfl, hg1.app⟩, fun _ => rfl⟩⟩
end Go.Proofs
end
section
open Go Go.Proofs Go.Sx Go.StP
namespace Go.Proofs
set_option maxRecDepth 10000
set_option maxHeartbeats 400000
set_option linter.unusedSimpArgs false
set_option linter.defProp false
def uPA_1 := And.intro (And.intro (And.intro (@load_ob) (@load_ob0)) (And.intro (@load_ob1) (@store_ob))) (And.intro (And.intro (@Sx.tup2_0) (@Sx.tup2_1)) (And.intro (@rdIn_v8) (@rdIn_vi)))
theorem RightO_spec (k : Int) (t : List UInt8) (w : World) : Rets Tryd.prog 22 #[obV k t] w (fun v D => v = .bool (RdOk k t) ∧ D = []) := by
  refine Rets.enterV Tryd.func22 rfl (rs := [.tmp 2]) Tryd.results22 Tryd.ntmps22 ?_
  simp only [List.size_toArray, List.length_cons, List.length_nil, Nat.reduceAdd, Nat.reduceSub, List.replicate_succ, List.replicate_zero, List.cons_append, List.nil_append]
  ((try with_reducible refine Cw.go [] ?_); (try simp (disch := (first | assumption | omega | (simp only [lenS, lenT, UInt64.reduceToNat]; try omega))) only [↓Sx.S0, Sx.S1, Tryd.fx, uPA_1, Nat.reduceAdd, Nat.reducePow, Int.reducePow, Nat.reduceBEq, ↓reduceIte, UInt8.reduceToNat, UInt16.reduceToNat, UInt32.reduceToNat, UInt64.reduceToNat, Int.reduceToNat]))
  refine Ow.box rfl rfl fun b1 hb1 hw1 => ?_
  simp only [ev_tmp, getF_0, getF_s, cells_agg, List.nil_append]
  refine Ow.go rfl ?_
  simp (disch := (first | assumption | omega | (simp only [lenS, lenT, UInt64.reduceToNat]; try omega))) only [↓Sx.S0, Sx.S1, Tryd.fx, uPA_1, Nat.reduceAdd, Nat.reducePow, Int.reducePow, Nat.reduceBEq, ↓reduceIte, UInt8.reduceToNat, UInt16.reduceToNat, UInt32.reduceToNat, UInt64.reduceToNat, Int.reduceToNat]
  refine Ow.callC rfl rfl Tryd.call64 (fun w' hw' => readO_spec k t w') (fun B v D hA hB hN hS => ?_)
  obtain ⟨p, rfl, -⟩ := hS
  refine Ow.go rfl ?_
  simp (disch := (first | assumption | omega | (simp only [lenS, lenT, UInt64.reduceToNat]; try omega))) only [↓Sx.S0, Sx.S1, Tryd.fx, uPA_1, Nat.reduceAdd, Nat.reducePow, Int.reducePow, Nat.reduceBEq, ↓reduceIte, UInt8.reduceToNat, UInt16.reduceToNat, UInt32.reduceToNat, UInt64.reduceToNat, Int.reduceToNat]
  ((try with_reducible refine Cw.go [] ?_); (try simp (disch := (first | assumption | omega | (simp only [lenS, lenT, UInt64.reduceToNat]; try omega))) only [↓Sx.S0, Sx.S1, Tryd.fx, uPA_1, Nat.reduceAdd, Nat.reducePow, Int.reducePow, Nat.reduceBEq, ↓reduceIte, UInt8.reduceToNat, UInt16.reduceToNat, UInt32.reduceToNat, UInt64.reduceToNat, Int.reduceToNat]))
  refine ⟨_, (by simp (disch := (first | assumption | omega | (simp only [lenS, lenT, UInt64.reduceToNat]; try omega))) only [↓Sx.S0, Sx.S1, Tryd.fx, uPA_1, Nat.reduceAdd, Nat.reducePow, Int.reducePow, Nat.reduceBEq, ↓reduceIte, UInt8.reduceToNat, UInt16.reduceToNat, UInt32.reduceToNat, UInt64.reduceToNat, Int.reduceToNat]; rfl), ⟨hw1, New.mono hB hN⟩, ?_⟩
  rfl
/-- What is made of an object that should be. -/
def madeK (k : Int) (t : List UInt8) (ok : Bool) : Int := if ok && RdOk k t then k else 0
def madeT (k : Int) (t : List UInt8) (ok : Bool) : List UInt8 := if ok && RdOk k t then t else []
def madeE (k : Int) (t : List UInt8) (ok : Bool) : Int := if ok && RdOk k t then 0 else 1
theorem zrOb : zeroV Tryd.prog 45 = some (obV 0 []) := id (by kernel_rfl)
theorem build_ob0 : buildV (plcT Tryd.prog 45) (zeroV Tryd.prog 45) [] = some (obV 0 []) := by
  have hp : plcT Tryd.prog 45 = some [(0, 1), (1, 1)] := id (by kernel_rfl)
  rw [hp, zrOb]; rfl
theorem build_ob2 (k : Int) (t : List UInt8) : buildV (plcT Tryd.prog 45) (zeroV Tryd.prog 45) [(0, vi k), (1, vs t)] = some (obV k t) := by
  have hp : plcT Tryd.prog 45 = some [(0, 1), (1, 1)] := id (by kernel_rfl)
  rw [hp, zrOb]; rfl
theorem made_spec (k : Int) (t : List UInt8) (ok : Bool) (w : World) : Rets Tryd.prog 95 #[obV k t, .bool ok] w (fun v D => v = .tuple #[obV (madeK k t ok) (madeT k t ok), vi (madeE k t ok)] ∧ D = []) := by
  refine Rets.enterV Tryd.func95 rfl (rs := [.cell 4 45, .tmp 5]) Tryd.results95 Tryd.ntmps95 ?_
  simp only [List.size_toArray, List.length_cons, List.length_nil, Nat.reduceAdd, Nat.reduceSub, List.replicate_succ, List.replicate_zero, List.cons_append, List.nil_append]
  ((try with_reducible refine Cw.go [] ?_); (try simp (disch := (first | assumption | omega | (simp only [lenS, lenT, UInt64.reduceToNat]; try omega))) only [↓Sx.S0, Sx.S1, Tryd.fx, uPA_1, Nat.reduceAdd, Nat.reducePow, Int.reducePow, Nat.reduceBEq, ↓reduceIte, UInt8.reduceToNat, UInt16.reduceToNat, UInt32.reduceToNat, UInt64.reduceToNat, Int.reduceToNat]))
  refine Ow.box rfl rfl fun b2 hb2 hw2 => ?_
  simp only [ev_tmp, getF_0, getF_s, cells_agg, List.nil_append]
  refine Ow.go rfl ?_
  simp (disch := (first | assumption | omega | (simp only [lenS, lenT, UInt64.reduceToNat]; try omega))) only [↓Sx.S0, Sx.S1, Tryd.fx, uPA_1, Nat.reduceAdd, Nat.reducePow, Int.reducePow, Nat.reduceBEq, ↓reduceIte, UInt8.reduceToNat, UInt16.reduceToNat, UInt32.reduceToNat, UInt64.reduceToNat, Int.reduceToNat]
  refine Ow.alloc rfl rfl zrOb fun b4 hb4 hw4 => ?_
  simp only [cells_agg, List.nil_append, List.cons_append]
  have h24 : b2 < b4 := above_to hb4 (by simp [keys])
  unfold madeK madeT madeE
  cases ok
  · refine Ow.go rfl ?_
    simp (disch := (first | assumption | omega | (simp only [lenS, lenT, UInt64.reduceToNat]; try omega))) only [↓Sx.S0, Sx.S1, Tryd.fx, uPA_1, Nat.reduceAdd, Nat.reducePow, Int.reducePow, Nat.reduceBEq, ↓reduceIte, UInt8.reduceToNat, UInt16.reduceToNat, UInt32.reduceToNat, UInt64.reduceToNat, Int.reduceToNat]
    refine Ow.build (obV 0 []) rfl build_ob0 ?_
    refine Ow.go rfl ?_
    simp (disch := (first | assumption | omega | (simp only [lenS, lenT, UInt64.reduceToNat]; try omega))) only [↓Sx.S0, Sx.S1, Tryd.fx, uPA_1, Nat.reduceAdd, Nat.reducePow, Int.reducePow, Nat.reduceBEq, ↓reduceIte, UInt8.reduceToNat, UInt16.reduceToNat, UInt32.reduceToNat, UInt64.reduceToNat, Int.reduceToNat]
    ((try with_reducible refine Cw.go [] ?_); (try simp (disch := (first | assumption | omega | (simp only [lenS, lenT, UInt64.reduceToNat]; try omega))) only [↓Sx.S0, Sx.S1, Tryd.fx, uPA_1, Nat.reduceAdd, Nat.reducePow, Int.reducePow, Nat.reduceBEq, ↓reduceIte, UInt8.reduceToNat, UInt16.reduceToNat, UInt32.reduceToNat, UInt64.reduceToNat, Int.reduceToNat]))
    refine ⟨_, (by simp (disch := (first | assumption | omega | (simp only [lenS, lenT, UInt64.reduceToNat]; try omega))) only [↓Sx.S0, Sx.S1, Tryd.fx, uPA_1, Nat.reduceAdd, Nat.reducePow, Int.reducePow, Nat.reduceBEq, ↓reduceIte, UInt8.reduceToNat, UInt16.reduceToNat, UInt32.reduceToNat, UInt64.reduceToNat, Int.reduceToNat]; rfl), ⟨hw2, hw4, trivial⟩, ?_⟩
    rfl
  · refine Ow.go rfl ?_
    simp (disch := (first | assumption | omega | (simp only [lenS, lenT, UInt64.reduceToNat]; try omega))) only [↓Sx.S0, Sx.S1, Tryd.fx, uPA_1, Nat.reduceAdd, Nat.reducePow, Int.reducePow, Nat.reduceBEq, ↓reduceIte, UInt8.reduceToNat, UInt16.reduceToNat, UInt32.reduceToNat, UInt64.reduceToNat, Int.reduceToNat]
    refine Ow.callFV rfl Tryd.call22 (fun w' hw' => RightO_spec k t w') ?_
    cases hr : RdOk k t
    · refine Ow.go rfl ?_
      simp (disch := (first | assumption | omega | (simp only [lenS, lenT, UInt64.reduceToNat]; try omega))) only [↓Sx.S0, Sx.S1, Tryd.fx, uPA_1, Nat.reduceAdd, Nat.reducePow, Int.reducePow, Nat.reduceBEq, ↓reduceIte, UInt8.reduceToNat, UInt16.reduceToNat, UInt32.reduceToNat, UInt64.reduceToNat, Int.reduceToNat]
      refine Ow.build (obV 0 []) rfl build_ob0 ?_
      refine Ow.go rfl ?_
      simp (disch := (first | assumption | omega | (simp only [lenS, lenT, UInt64.reduceToNat]; try omega))) only [↓Sx.S0, Sx.S1, Tryd.fx, uPA_1, Nat.reduceAdd, Nat.reducePow, Int.reducePow, Nat.reduceBEq, ↓reduceIte, UInt8.reduceToNat, UInt16.reduceToNat, UInt32.reduceToNat, UInt64.reduceToNat, Int.reduceToNat]
      ((try with_reducible refine Cw.go [] ?_); (try simp (disch := (first | assumption | omega | (simp only [lenS, lenT, UInt64.reduceToNat]; try omega))) only [↓Sx.S0, Sx.S1, Tryd.fx, uPA_1, Nat.reduceAdd, Nat.reducePow, Int.reducePow, Nat.reduceBEq, ↓reduceIte, UInt8.reduceToNat, UInt16.reduceToNat, UInt32.reduceToNat, UInt64.reduceToNat, Int.reduceToNat]))
      refine ⟨_, (by simp (disch := (first | assumption | omega | (simp only [lenS, lenT, UInt64.reduceToNat]; try omega))) only [↓Sx.S0, Sx.S1, Tryd.fx, uPA_1, Nat.reduceAdd, Nat.reducePow, Int.reducePow, Nat.reduceBEq, ↓reduceIte, UInt8.reduceToNat, UInt16.reduceToNat, UInt32.reduceToNat, UInt64.reduceToNat, Int.reduceToNat]; rfl), ⟨hw2, hw4, trivial⟩, ?_⟩
      rfl
    · refine Ow.go rfl ?_
      simp (disch := (first | assumption | omega | (simp only [lenS, lenT, UInt64.reduceToNat]; try omega))) only [↓Sx.S0, Sx.S1, Tryd.fx, uPA_1, Nat.reduceAdd, Nat.reducePow, Int.reducePow, Nat.reduceBEq, ↓reduceIte, UInt8.reduceToNat, UInt16.reduceToNat, UInt32.reduceToNat, UInt64.reduceToNat, Int.reduceToNat]
      ((try with_reducible refine Cw.go [] ?_); (try simp (disch := (first | assumption | omega | (simp only [lenS, lenT, UInt64.reduceToNat]; try omega))) only [↓Sx.S0, Sx.S1, Tryd.fx, uPA_1, Nat.reduceAdd, Nat.reducePow, Int.reducePow, Nat.reduceBEq, ↓reduceIte, UInt8.reduceToNat, UInt16.reduceToNat, UInt32.reduceToNat, UInt64.reduceToNat, Int.reduceToNat]))
      refine ⟨_, (by simp (disch := (first | assumption | omega | (simp only [lenS, lenT, UInt64.reduceToNat]; try omega))) only [↓Sx.S0, Sx.S1, Tryd.fx, uPA_1, Nat.reduceAdd, Nat.reducePow, Int.reducePow, Nat.reduceBEq, ↓reduceIte, UInt8.reduceToNat, UInt16.reduceToNat, UInt32.reduceToNat, UInt64.reduceToNat, Int.reduceToNat]; rfl), ⟨hw2, hw4, trivial⟩, ?_⟩
      rfl
theorem Blob_spec (t : List UInt8) (w : World) : Rets Tryd.prog 60 #[vs t] w (fun v D => v = .tuple #[obV (madeK 1 t true) (madeT 1 t true), vi (madeE 1 t true)] ∧ D = []) := by
  refine Rets.enterV Tryd.func60 rfl (rs := [.cell 2 45, .tmp 3]) Tryd.results60 Tryd.ntmps60 ?_
  simp only [List.size_toArray, List.length_cons, List.length_nil, Nat.reduceAdd, Nat.reduceSub, List.replicate_succ, List.replicate_zero, List.cons_append, List.nil_append]
  ((try with_reducible refine Cw.go [] ?_); (try simp (disch := (first | assumption | omega | (simp only [lenS, lenT, UInt64.reduceToNat]; try omega))) only [↓Sx.S0, Sx.S1, Tryd.fx, uPA_1, Nat.reduceAdd, Nat.reducePow, Int.reducePow, Nat.reduceBEq, ↓reduceIte, UInt8.reduceToNat, UInt16.reduceToNat, UInt32.reduceToNat, UInt64.reduceToNat, Int.reduceToNat]))
  refine Ow.alloc rfl rfl zrOb fun b2 hb2 hw2 => ?_
  simp only [cells_agg, List.nil_append, List.cons_append]
  refine Ow.go rfl ?_
  simp (disch := (first | assumption | omega | (simp only [lenS, lenT, UInt64.reduceToNat]; try omega))) only [↓Sx.S0, Sx.S1, Tryd.fx, uPA_1, Nat.reduceAdd, Nat.reducePow, Int.reducePow, Nat.reduceBEq, ↓reduceIte, UInt8.reduceToNat, UInt16.reduceToNat, UInt32.reduceToNat, UInt64.reduceToNat, Int.reduceToNat]
  refine Ow.build (obV 1 t) rfl (build_ob2 1 t) ?_
  refine Ow.go rfl ?_
  simp (disch := (first | assumption | omega | (simp only [lenS, lenT, UInt64.reduceToNat]; try omega))) only [↓Sx.S0, Sx.S1, Tryd.fx, uPA_1, Nat.reduceAdd, Nat.reducePow, Int.reducePow, Nat.reduceBEq, ↓reduceIte, UInt8.reduceToNat, UInt16.reduceToNat, UInt32.reduceToNat, UInt64.reduceToNat, Int.reduceToNat]
  refine Ow.callFV rfl Tryd.call95 (fun w' hw' => made_spec 1 t true w') ?_
  refine Ow.go rfl ?_
  simp (disch := (first | assumption | omega | (simp only [lenS, lenT, UInt64.reduceToNat]; try omega))) only [↓Sx.S0, Sx.S1, Tryd.fx, uPA_1, Nat.reduceAdd, Nat.reducePow, Int.reducePow, Nat.reduceBEq, ↓reduceIte, UInt8.reduceToNat, UInt16.reduceToNat, UInt32.reduceToNat, UInt64.reduceToNat, Int.reduceToNat]
  ((try with_reducible refine Cw.go [] ?_); (try simp (disch := (first | assumption | omega | (simp only [lenS, lenT, UInt64.reduceToNat]; try omega))) only [↓Sx.S0, Sx.S1, Tryd.fx, uPA_1, Nat.reduceAdd, Nat.reducePow, Int.reducePow, Nat.reduceBEq, ↓reduceIte, UInt8.reduceToNat, UInt16.reduceToNat, UInt32.reduceToNat, UInt64.reduceToNat, Int.reduceToNat]))
  refine ⟨_, (by simp (disch := (first | assumption | omega | (simp only [lenS, lenT, UInt64.reduceToNat]; try omega))) only [↓Sx.S0, Sx.S1, Tryd.fx, uPA_1, Nat.reduceAdd, Nat.reducePow, Int.reducePow, Nat.reduceBEq, ↓reduceIte, UInt8.reduceToNat, UInt16.reduceToNat, UInt32.reduceToNat, UInt64.reduceToNat, Int.reduceToNat]; rfl), ⟨hw2, trivial⟩, ?_⟩
  rfl
end Go.Proofs
end
section
open Go Go.Proofs Go.Sx Go.StP
namespace Go.Proofs
set_option maxRecDepth 10000
set_option maxHeartbeats 400000
set_option linter.unusedSimpArgs false
set_option linter.defProp false
def uPB_1 := And.intro (And.intro (And.intro (@load_ob) (And.intro (@load_ob0) (@load_ob1))) (And.intro (@store_ob) (And.intro (@Sx.tup2_0) (@Sx.tup2_1)))) (And.intro (And.intro (@load_com0) (And.intro (@load_com1) (@load_com2))) (And.intro (And.intro (@load_com) (@cells_com)) (And.intro (@rdIn_v8) (@rdIn_vi))))
theorem BldAt.zeroE (b : Nat) {L : Heap} (h : Sx.look L b = some (.cells #[.pointer none, .slice none 0 0] 98 (0, 0))) : BldAt b [] L :=
  ⟨_, _, h, .inl rfl, .nl, fun h => by cases h⟩
theorem zrWr : zeroV Tryd.prog 98 = some (.agg #[.pointer none, .slice none 0 0]) := id (by kernel_rfl)
theorem slice_idE (x : IdL) : sliceB Tryd.prog 52 1 [(0, .agg (a8 x.l))] = some (40, a8 x.l) := slice_one (cs := x.l.map v8) Tryd.underlying52 aggIdE zrIdE (by decide) (by simp [x.h])
theorem row_oneId (x : IdL) {w' : World} {b : Nat} (h : w'.heap[b]? = some (.cells (a8 x.l) 40 (0, 0))) : RowS 32 idLC id0 w' (vsl b 0 1 1) [x] b 0 (a8 x.l) 40 (0, 0) := RowS.sl rfl h (by
  intro k hk j hj
  obtain rfl : k = 0 := by simpa using hk
  simp only [Nat.zero_mul, Nat.zero_add, List.getD_cons_zero]
  rw [← idLC_a8, List.getElem?_toArray])
theorem Came.newE {w0 : World} {L X D : Heap} {b : Nat} (hC : Came w0 L X D) (hN : New (b + 1) X) (hb : b ∈ keys L) : New (b + 1) D := New.of_le fun c hc => by
  rcases hC.new c hc with h | ⟨h, -⟩
  · exact hN.le c h
  · have := above_to h hb; omega
end Go.Proofs
end
section
open Go Go.Proofs Go.Sx Go.StP
namespace Go.Proofs
set_option maxRecDepth 10000
set_option maxHeartbeats 400000
set_option linter.unusedSimpArgs false
set_option linter.defProp false
def uPC_1 := And.intro (And.intro (And.intro (@load_ob) (And.intro (@load_ob0) (@load_ob1))) (And.intro (And.intro (@store_ob) (@Sx.tup2_0)) (And.intro (@Sx.tup2_1) (@load_ent0)))) (And.intro (And.intro (@load_ent1) (And.intro (@load_ent2) (@load_ent))) (And.intro (And.intro (@store_entr) (@cells_ent)) (And.intro (@rdIn_v8) (@rdIn_vi))))
structure WrG where
  g : Nat
  D : Heap
theorem Came.newF {w0 : World} {L X D : Heap} {m b : Nat} (hC : Came w0 L X D) (hN : New m X) (hb : b ∈ keys L) (hm : m ≤ b + 1) : New m D := New.of_le fun c hc => by
  rcases hC.new c hc with h | ⟨h, -⟩
  · exact hN.le c h
  · have := above_to h hb; omega
theorem st_mem {l Z : List EntL} (h : StE l Z) {y : EntL} (hy : y ∈ Z) : y ∈ l := by
  have h1 := h y.name
  have h2 : y ∈ StP.of EntL.name y.name Z := List.mem_filter.2 ⟨hy, by simp⟩
  rw [h1] at h2
  exact (List.mem_filter.1 h2).1
theorem treeB_len2 {l : List EntL} (hsh : ∀ e, e ∈ l → e.name.length < 10000) : ∀ k, k ≤ l.length → (treeB (l.take k)).length ≤ k * 10060
  | 0, _ => by simp [treeB]
  | k + 1, hk => by
    have ih := treeB_len2 hsh k (by omega)
    have hn := hsh _ (getD_mem (z := ent0) (show k < l.length by omega))
    have h1 : (textL (l.getD k ent0).name).length = (numL (clampN (l.getD k ent0).name.length)).length + (l.getD k ent0).name.length := by unfold textL; rw [List.length_append]
    have h4 := numL_clamp_len ((l.getD k ent0).name.length : Int)
    have h2 := numL_clamp_len (l.getD k ent0).kind
    have h3 := (l.getD k ent0).id.h
    rw [treeB_snoc (by omega)]
    unfold entB
    simp only [List.length_append]
    omega
theorem TreeO_spec (v : Value) (l : List EntL) (w : World) (hv : EntS w v l) (hl : l.length < 1000) (hsh : ∀ e, e ∈ l → e.name.length < 10000) :
    Rets Tryd.prog 61 #[v] w (XS w [] (fun v' _ => ∃ Z, SortOf l Z ∧ v' = .tuple #[obV (madeK 2 (treeB Z) (entsOk Z)) (madeT 2 (treeB Z) (entsOk Z)), vi (madeE 2 (treeB Z) (entsOk Z))])) := by
  have ln := hv.len
  refine Rets.enterX Tryd.func61 rfl (rs := [.cell 2 45, .tmp 3]) Tryd.results61 Tryd.ntmps61 (fun p hp => by cases hp) (by simp [keys]) ?_
  simp only [List.size_toArray, List.length_cons, List.length_nil, Nat.reduceAdd, Nat.reduceSub, List.replicate_succ, List.replicate_zero, List.cons_append, List.nil_append]
  ((try with_reducible refine Cw.go [] ?_); (try simp (disch := (first | assumption | omega | (simp only [lenS, lenT, UInt64.reduceToNat]; try omega))) only [↓Sx.S0, Sx.S1, Tryd.fx, uPC_1, Nat.reduceAdd, Nat.reducePow, Int.reducePow, Nat.reduceBEq, ↓reduceIte, UInt8.reduceToNat, UInt16.reduceToNat, UInt32.reduceToNat, UInt64.reduceToNat, Int.reduceToNat]))
  refine Ow.alloc rfl rfl zrOb fun b2 hb2 hw2 => ?_
  simp only [cells_agg, List.nil_append, List.cons_append]
  refine Ow.go rfl ?_
  simp (disch := (first | assumption | omega | (simp only [lenS, lenT, UInt64.reduceToNat]; try omega))) only [↓Sx.S0, Sx.S1, Tryd.fx, uPC_1, Nat.reduceAdd, Nat.reducePow, Int.reducePow, Nat.reduceBEq, ↓reduceIte, UInt8.reduceToNat, UInt16.reduceToNat, UInt32.reduceToNat, UInt64.reduceToNat, Int.reduceToNat]
  refine Ow.callF rfl rfl Tryd.call97 (S := fun B v' D => ∃ b1, B ≤ b1 ∧ v' = .func (.func 127) #[] #[vp b1 0] ∧ D = [(b1, .cells #[v] 49 (0, 0))]) (fun w' hw' => Values_spec v w' (SlV.one hv)) ?_
  rintro B v D hab hB ⟨b1, hb1, rfl, rfl⟩
  obtain ⟨h2B, -⟩ := hab
  refine ⟨_, Mrg.fresh (by intro q hq; simp only [keys, List.map_cons, List.map_nil, List.mem_singleton] at hq; omega), ?_⟩
  simp only [List.cons_append, List.nil_append]
  refine Ow.go rfl ?_
  simp (disch := (first | assumption | omega | (simp only [lenS, lenT, UInt64.reduceToNat]; try omega))) only [↓Sx.S0, Sx.S1, Tryd.fx, uPC_1, Nat.reduceAdd, Nat.reducePow, Int.reducePow, Nat.reduceBEq, ↓reduceIte, UInt8.reduceToNat, UInt16.reduceToNat, UInt32.reduceToNat, UInt64.reduceToNat, Int.reduceToNat]
  refine Ow.callC rfl rfl Tryd.call96 (fun w' hw' => Sorted_spec _ _ l w' Tryd.call127 (by omega) (fun w2 h2 => Values1_seq b1 v l w2 (hv.oldN (hw'.trans_nil h2) ⟨by omega, by omega, trivial⟩) ((hw'.trans_nil h2).has _ _ (List.mem_cons_of_mem _ List.mem_cons_self)) (by omega))) (fun B2 v2 D2 hA2 hB2 hN2 hS2 => ?_)
  obtain ⟨Z, hZ, hG⟩ := hS2
  refine Ow.go rfl ?_
  simp (disch := (first | assumption | omega | (simp only [lenS, lenT, UInt64.reduceToNat]; try omega))) only [↓Sx.S0, Sx.S1, Tryd.fx, uPC_1, Nat.reduceAdd, Nat.reducePow, Int.reducePow, Nat.reduceBEq, ↓reduceIte, UInt8.reduceToNat, UInt16.reduceToNat, UInt32.reduceToNat, UInt64.reduceToNat, Int.reduceToNat]
  refine Ow.alloc rfl rfl zrWr fun bw hbw hww => ?_
  simp only [cells_agg, List.nil_append, List.cons_append]
  have h2w : b2 < bw := above_to hbw (by simp [keys])
  have h1w : b1 < bw := above_to hbw (by simp [keys])
  have hDw : ∀ c, c ∈ keys D2 → c < bw := fun c hc => above_to hbw (by simp only [keys, List.map_cons, List.mem_cons]; exact .inr (.inr hc))
  refine Ow.permL (M := [(bw, Obj.cells #[.pointer none, .slice none 0 0] 98 (0, 0))] ++ (D2 ++ [(b2, Obj.cells #[vi 0, vs []] 45 (0, 0)), (b1, Obj.cells #[v] 49 (0, 0))])) (by classical exact List.perm_iff_count.2 fun a => by simp only [List.count_append, List.count_cons, List.count_nil] <;> omega) ?_
  have hB0 : BldAt bw [] [(bw, Obj.cells #[.pointer none, .slice none 0 0] 98 (0, 0))] := BldAt.zeroE bw (look_same _ _ _)
  have hN0 : New bw [(bw, Obj.cells #[.pointer none, .slice none 0 0] 98 (0, 0))] := ⟨Nat.le_refl _, trivial⟩
  have hM0 : bw ∈ keys [(bw, Obj.cells #[.pointer none, .slice none 0 0] 98 (0, 0))] := by simp [keys]
  generalize [(bw, Obj.cells #[.pointer none, .slice none 0 0] 98 (0, 0))] = D0 at hB0 hN0 hM0 ⊢
  have ln2 := hG.len
  refine Ow.go rfl ?_
  simp (disch := (first | assumption | omega | (simp only [lenS, lenT, UInt64.reduceToNat]; try omega))) only [↓Sx.S0, Sx.S1, Tryd.fx, uPC_1, Nat.reduceAdd, Nat.reducePow, Int.reducePow, Nat.reduceBEq, ↓reduceIte, UInt8.reduceToNat, UInt16.reduceToNat, UInt32.reduceToNat, UInt64.reduceToNat, Int.reduceToNat, ln2]
  have hZl := hZ.1
  have hshZ : ∀ e, e ∈ Z → e.name.length < 10000 := fun e he => hsh e (st_mem hZ.2.2 he)
  refine Cw.loopG (G := WrG) [13, 14, 15, 6, 16, 17, 18, 19, 20, 21, 22, 23, 24, 25, 26, 27, 28, 12] (fun q => [(12, vi q.g)]) (fun q => q.D ++ (D2 ++ [(b2, Obj.cells #[vi 0, vs []] 45 (0, 0)), (b1, Obj.cells #[v] 49 (0, 0))])) (fun q => q.g ≤ l.length ∧ BldAt bw (treeB (Z.take q.g)) q.D ∧ New bw q.D ∧ bw ∈ keys q.D) (fun q => l.length - q.g) ⟨0, D0⟩ rfl rfl ?_ ?_
  · exact ⟨Nat.zero_le _, hB0, hN0, hM0⟩
  · intro q jq hq
    simp only [overFrom, pin, setF_0, setF_s, List.contains_cons, List.contains_nil, Nat.reduceBEq, Bool.or_false, Bool.false_or, Bool.or_true, Bool.true_or, Nat.reduceAdd, ↓reduceIte, Bool.false_eq_true]
    obtain ⟨k, D⟩ := q
    simp only at hq ⊢
    obtain ⟨h1, hB1, hN1, hM1⟩ := hq
    by_cases hk : k < l.length
    · have hkZ : k < Z.length := by omega
      obtain ⟨c, cc, rest, hv2, hlk⟩ : ∃ c cc rest, v2 = vsl c 0 l.length cc ∧ Sx.look D2 c = some (entO rest Z) := by
        rcases hG with h | ⟨h, -⟩
        · rcases h.inv with ⟨-, h, -⟩ | ⟨c, cc, rest, h, hlk, -⟩
          · omega
          · exact ⟨c, cc, rest, h, hlk⟩
        · omega
      subst hv2
      have hcw := hDw c (key_of_look hlk)
      have rdz : ∀ M, readB w (D ++ (D2 ++ M)) c = some (entO rest Z) := fun M => read_look (by rw [look_app_r (hN1.not hcw)]; exact look_app hlk)
      have ldz := load_entR (rest := rest) k hkZ
      generalize hx : Z.getD k ent0 = x at ldz
      ((try with_reducible refine Cw.go [] ?_); (try simp (disch := (first | assumption | omega | (simp only [lenS, lenT, UInt64.reduceToNat]; try omega))) only [↓Sx.S0, Sx.S1, Tryd.fx, uPC_1, Nat.reduceAdd, Nat.reducePow, Int.reducePow, Nat.reduceBEq, ↓reduceIte, UInt8.reduceToNat, UInt16.reduceToNat, UInt32.reduceToNat, UInt64.reduceToNat, Int.reduceToNat, rdz, ldz]))
      refine Ow.alloc rfl rfl zrEnt fun b6 hb6 hw6 => ?_
      simp only [cells_agg, List.nil_append, List.cons_append]
      have hw6' : bw < b6 := above_to hb6 (by simp only [keys, List.map_append, List.mem_append] at hM1 ⊢; simp [hM1])
      refine Ow.permL (M := (b6, Obj.cells (entC ent0).toArray 108 (0, 0)) :: (D ++ (D2 ++ [(b2, Obj.cells #[vi 0, vs []] 45 (0, 0)), (b1, Obj.cells #[v] 49 (0, 0))]))) (by classical exact List.perm_iff_count.2 fun a => by simp only [List.count_append, List.count_cons, List.count_nil] <;> omega) ?_
      refine Ow.go rfl ?_
      simp (disch := (first | assumption | omega | (simp only [lenS, lenT, UInt64.reduceToNat]; try omega))) only [↓Sx.S0, Sx.S1, Tryd.fx, uPC_1, Nat.reduceAdd, Nat.reducePow, Int.reducePow, Nat.reduceBEq, ↓reduceIte, UInt8.reduceToNat, UInt16.reduceToNat, UInt32.reduceToNat, UInt64.reduceToNat, Int.reduceToNat]
      have hxn : x.name.length < 10000 := by rw [← hx]; exact hsh _ (st_mem hZ.2.2 (getD_mem hkZ))
      have htl : textsL [x.name] = textL x.name := by simp [textsL]
      have tll := textL_len (s := x.name) (by omega)
      have tnl : (textL x.name).length = (numL (clampN x.name.length)).length + x.name.length := by unfold textL; rw [List.length_append]
      have nl1 := numL_clamp_len (x.name.length : Int)
      have nl2 := numL_clamp_len x.kind
      have tbl := treeB_len2 hshZ k (by omega)
      refine Ow.buildSlice (e := 3) #[vi x.kind] rfl rfl (by kernel_rfl) fun b18 hb18 hw18 => ?_
      have hD18 : b18 ∉ keys D := fun hm => Nat.lt_irrefl _ (above_to hb18 (by simp only [keys, List.map_cons, List.map_append, List.mem_cons, List.mem_append] at hm ⊢; simp [hm]))
      have hw18' : bw < b18 := above_to hb18 (by simp only [keys, List.map_cons, List.map_append, List.mem_cons, List.mem_append] at hM1 ⊢; simp [hM1])
      refine Ow.permL (M := D ++ ((b6, Obj.cells (entC x).toArray 108 (0, 0)) :: (b18, Obj.cells #[vi x.kind] 3 (0, 0)) :: (D2 ++ [(b2, Obj.cells #[vi 0, vs []] 45 (0, 0)), (b1, Obj.cells #[v] 49 (0, 0))]))) (by classical exact List.perm_iff_count.2 fun a => by simp only [List.count_append, List.count_cons, List.count_nil] <;> omega) ?_
      refine Ow.go rfl ?_
      simp (disch := (first | assumption | omega | (simp only [lenS, lenT, UInt64.reduceToNat]; try omega))) only [↓Sx.S0, Sx.S1, Tryd.fx, uPC_1, Nat.reduceAdd, Nat.reducePow, Int.reducePow, Nat.reduceBEq, ↓reduceIte, UInt8.reduceToNat, UInt16.reduceToNat, UInt32.reduceToNat, UInt64.reduceToNat, Int.reduceToNat]
      refine Ow.callX (Y := ((b6, Obj.cells (entC x).toArray 108 (0, 0)) :: (b18, Obj.cells #[vi x.kind] 3 (0, 0)) :: (D2 ++ [(b2, Obj.cells #[vi 0, vs []] 45 (0, 0)), (b1, Obj.cells #[v] 49 (0, 0))]))) (by simp) rfl rfl Tryd.call54 (fun w' hw' hX hn => WNumber_spec bw D _ _ b18 0 [x.kind] _ _ _ w' hB1 hX hn (OneS.lit [x.kind] rfl rfl (hw'.has _ _ (List.mem_append_right _ (List.mem_cons_of_mem _ List.mem_cons_self)))) (fun _ => hD18) (by simp only [List.length_cons, List.length_nil]; omega)) (fun u1 E1 hC1 hS1 => ?_)
      obtain ⟨rfl, hB1'⟩ := hS1
      have hN1' := Came.newF hC1 hN1 (b := b18) (by simp [keys]) (by omega)
      have hM1' := hC1.all _ hM1
      have hB2 := hB1'.app (Y := [(b18, Obj.cells #[vi x.kind] 3 (0, 0))])
      have hN2 := hN1'.app (show New bw [(b18, Obj.cells #[vi x.kind] 3 (0, 0))] from ⟨by omega, trivial⟩)
      have hM2 : bw ∈ keys (E1 ++ [(b18, Obj.cells #[vi x.kind] 3 (0, 0))]) := by rw [keys_app]; exact List.mem_append_left _ hM1'
      refine Ow.permL (M := (b6, Obj.cells (entC x).toArray 108 (0, 0)) :: ((E1 ++ [(b18, Obj.cells #[vi x.kind] 3 (0, 0))]) ++ (D2 ++ [(b2, Obj.cells #[vi 0, vs []] 45 (0, 0)), (b1, Obj.cells #[v] 49 (0, 0))]))) (by classical exact List.perm_iff_count.2 fun a => by simp only [List.count_append, List.count_cons, List.count_nil] <;> omega) ?_
      generalize E1 ++ [(b18, Obj.cells #[vi x.kind] 3 (0, 0))] = F2 at hB2 hN2 hM2 ⊢
      refine Ow.go rfl ?_
      simp (disch := (first | assumption | omega | (simp only [lenS, lenT, UInt64.reduceToNat]; try omega))) only [↓Sx.S0, Sx.S1, Tryd.fx, uPC_1, Nat.reduceAdd, Nat.reducePow, Int.reducePow, Nat.reduceBEq, ↓reduceIte, UInt8.reduceToNat, UInt16.reduceToNat, UInt32.reduceToNat, UInt64.reduceToNat, Int.reduceToNat]
      rw [numsL_one] at hB2
      refine Ow.buildSlice (e := 9) #[vs x.name] rfl rfl (by kernel_rfl) fun b22 hb22 hw22 => ?_
      have hD22 : b22 ∉ keys F2 := fun hm => Nat.lt_irrefl _ (above_to hb22 (by simp only [keys, List.map_cons, List.map_append, List.mem_cons, List.mem_append] at hm ⊢; simp [hm]))
      have hw22' : bw < b22 := above_to hb22 (by simp only [keys, List.map_cons, List.map_append, List.mem_cons, List.mem_append] at hM2 ⊢; simp [hM2])
      refine Ow.permL (M := F2 ++ ((b6, Obj.cells (entC x).toArray 108 (0, 0)) :: (b22, Obj.cells #[vs x.name] 9 (0, 0)) :: (D2 ++ [(b2, Obj.cells #[vi 0, vs []] 45 (0, 0)), (b1, Obj.cells #[v] 49 (0, 0))]))) (by classical exact List.perm_iff_count.2 fun a => by simp only [List.count_append, List.count_cons, List.count_nil] <;> omega) ?_
      refine Ow.go rfl ?_
      simp (disch := (first | assumption | omega | (simp only [lenS, lenT, UInt64.reduceToNat]; try omega))) only [↓Sx.S0, Sx.S1, Tryd.fx, uPC_1, Nat.reduceAdd, Nat.reducePow, Int.reducePow, Nat.reduceBEq, ↓reduceIte, UInt8.reduceToNat, UInt16.reduceToNat, UInt32.reduceToNat, UInt64.reduceToNat, Int.reduceToNat]
      refine Ow.callX (Y := ((b6, Obj.cells (entC x).toArray 108 (0, 0)) :: (b22, Obj.cells #[vs x.name] 9 (0, 0)) :: (D2 ++ [(b2, Obj.cells #[vi 0, vs []] 45 (0, 0)), (b1, Obj.cells #[v] 49 (0, 0))]))) (by simp) rfl rfl Tryd.call55 (fun w' hw' hX hn => WText_spec bw F2 _ _ b22 0 [x.name] _ _ _ w' hB2 hX hn (StrS.lit [x.name] rfl rfl (hw'.has _ _ (List.mem_append_right _ (List.mem_cons_of_mem _ List.mem_cons_self)))) (fun _ => hD22) (by rw [htl]; simp only [List.length_append, List.length_cons, List.length_nil]; omega) (by simp)) (fun u2 E2 hC2 hS2 => ?_)
      obtain ⟨rfl, hB2'⟩ := hS2
      have hN2' := Came.newF hC2 hN2 (b := b22) (by simp [keys]) (by omega)
      have hM2' := hC2.all _ hM2
      have hB3 := hB2'.app (Y := [(b22, Obj.cells #[vs x.name] 9 (0, 0))])
      have hN3 := hN2'.app (show New bw [(b22, Obj.cells #[vs x.name] 9 (0, 0))] from ⟨by omega, trivial⟩)
      have hM3 : bw ∈ keys (E2 ++ [(b22, Obj.cells #[vs x.name] 9 (0, 0))]) := by rw [keys_app]; exact List.mem_append_left _ hM2'
      refine Ow.permL (M := (b6, Obj.cells (entC x).toArray 108 (0, 0)) :: ((E2 ++ [(b22, Obj.cells #[vs x.name] 9 (0, 0))]) ++ (D2 ++ [(b2, Obj.cells #[vi 0, vs []] 45 (0, 0)), (b1, Obj.cells #[v] 49 (0, 0))]))) (by classical exact List.perm_iff_count.2 fun a => by simp only [List.count_append, List.count_cons, List.count_nil] <;> omega) ?_
      generalize E2 ++ [(b22, Obj.cells #[vs x.name] 9 (0, 0))] = F3 at hB3 hN3 hM3 ⊢
      refine Ow.go rfl ?_
      simp (disch := (first | assumption | omega | (simp only [lenS, lenT, UInt64.reduceToNat]; try omega))) only [↓Sx.S0, Sx.S1, Tryd.fx, uPC_1, Nat.reduceAdd, Nat.reducePow, Int.reducePow, Nat.reduceBEq, ↓reduceIte, UInt8.reduceToNat, UInt16.reduceToNat, UInt32.reduceToNat, UInt64.reduceToNat, Int.reduceToNat]
      rw [htl] at hB3
      refine Ow.buildSlice (e := 40) (a8 x.id.l) rfl rfl (slice_idE x.id) fun b26 hb26 hw26 => ?_
      have hD26 : b26 ∉ keys F3 := fun hm => Nat.lt_irrefl _ (above_to hb26 (by simp only [keys, List.map_cons, List.map_append, List.mem_cons, List.mem_append] at hm ⊢; simp [hm]))
      have hw26' : bw < b26 := above_to hb26 (by simp only [keys, List.map_cons, List.map_append, List.mem_cons, List.mem_append] at hM3 ⊢; simp [hM3])
      refine Ow.permL (M := F3 ++ ((b6, Obj.cells (entC x).toArray 108 (0, 0)) :: (b26, Obj.cells (a8 x.id.l) 40 (0, 0)) :: (D2 ++ [(b2, Obj.cells #[vi 0, vs []] 45 (0, 0)), (b1, Obj.cells #[v] 49 (0, 0))]))) (by classical exact List.perm_iff_count.2 fun a => by simp only [List.count_append, List.count_cons, List.count_nil] <;> omega) ?_
      refine Ow.go rfl ?_
      simp (disch := (first | assumption | omega | (simp only [lenS, lenT, UInt64.reduceToNat]; try omega))) only [↓Sx.S0, Sx.S1, Tryd.fx, uPC_1, Nat.reduceAdd, Nat.reducePow, Int.reducePow, Nat.reduceBEq, ↓reduceIte, UInt8.reduceToNat, UInt16.reduceToNat, UInt32.reduceToNat, UInt64.reduceToNat, Int.reduceToNat]
      refine Ow.callX (Y := ((b6, Obj.cells (entC x).toArray 108 (0, 0)) :: (b26, Obj.cells (a8 x.id.l) 40 (0, 0)) :: (D2 ++ [(b2, Obj.cells #[vi 0, vs []] 45 (0, 0)), (b1, Obj.cells #[v] 49 (0, 0))]))) (by simp) rfl rfl Tryd.call56 (fun w' hw' hX hn => WId_spec bw F3 _ _ b26 0 [x.id] _ _ _ w' hB3 hX hn (row_oneId x.id (hw'.has _ _ (List.mem_append_right _ (List.mem_cons_of_mem _ List.mem_cons_self)))) (fun _ => hD26) (by simp only [List.length_append, List.length_cons, List.length_nil]; omega)) (fun u3 E3 hC3 hS3 => ?_)
      obtain ⟨rfl, hB3'⟩ := hS3
      have hN3' := Came.newF hC3 hN3 (b := b26) (by simp [keys]) (by omega)
      have hM3' := hC3.all _ hM3
      have hB4 := hB3'.app (Y := [(b26, Obj.cells (a8 x.id.l) 40 (0, 0))])
      have hN4 := hN3'.app (show New bw [(b26, Obj.cells (a8 x.id.l) 40 (0, 0))] from ⟨by omega, trivial⟩)
      have hM4 : bw ∈ keys (E3 ++ [(b26, Obj.cells (a8 x.id.l) 40 (0, 0))]) := by rw [keys_app]; exact List.mem_append_left _ hM3'
      refine Ow.permL (M := (b6, Obj.cells (entC x).toArray 108 (0, 0)) :: ((E3 ++ [(b26, Obj.cells (a8 x.id.l) 40 (0, 0))]) ++ (D2 ++ [(b2, Obj.cells #[vi 0, vs []] 45 (0, 0)), (b1, Obj.cells #[v] 49 (0, 0))]))) (by classical exact List.perm_iff_count.2 fun a => by simp only [List.count_append, List.count_cons, List.count_nil] <;> omega) ?_
      generalize E3 ++ [(b26, Obj.cells (a8 x.id.l) 40 (0, 0))] = F4 at hB4 hN4 hM4 ⊢
      refine Ow.permL (M := (F4 ++ [(b6, Obj.cells (entC x).toArray 108 (0, 0))]) ++ (D2 ++ [(b2, Obj.cells #[vi 0, vs []] 45 (0, 0)), (b1, Obj.cells #[v] 49 (0, 0))])) (by classical exact List.perm_iff_count.2 fun a => by simp only [List.count_append, List.count_cons, List.count_nil] <;> omega) ?_
      refine Ow.go rfl ?_
      simp (disch := (first | assumption | omega | (simp only [lenS, lenT, UInt64.reduceToNat]; try omega))) only [↓Sx.S0, Sx.S1, Tryd.fx, uPC_1, Nat.reduceAdd, Nat.reducePow, Int.reducePow, Nat.reduceBEq, ↓reduceIte, UInt8.reduceToNat, UInt16.reduceToNat, UInt32.reduceToNat, UInt64.reduceToNat, Int.reduceToNat]
      refine Again.mk (WrG.mk (k + 1) (F4 ++ [(b6, Obj.cells (entC x).toArray 108 (0, 0))])) (by show l.length - (k + 1) < l.length - k; omega) ⟨by show k + 1 ≤ l.length; omega, ?_, hN4.app ⟨by omega, trivial⟩, by show bw ∈ keys (F4 ++ _); rw [keys_app]; exact List.mem_append_left _ hM4⟩ rfl rfl
      show BldAt bw (treeB (Z.take (k + 1))) (F4 ++ _)
      rw [treeB_snoc' hkZ, hx]
      have e1 : idsL [x.id] = x.id.l := by simp [idsL]
      rw [e1] at hB4
      exact hB4.app
    · obtain rfl : k = l.length := by omega
      have hall : Z.take l.length = Z := List.take_of_length_le (by omega)
      rw [hall] at hB1
      ((try with_reducible refine Cw.go [] ?_); (try simp (disch := (first | assumption | omega | (simp only [lenS, lenT, UInt64.reduceToNat]; try omega))) only [↓Sx.S0, Sx.S1, Tryd.fx, uPC_1, Nat.reduceAdd, Nat.reducePow, Int.reducePow, Nat.reduceBEq, ↓reduceIte, UInt8.reduceToNat, UInt16.reduceToNat, UInt32.reduceToNat, UInt64.reduceToNat, Int.reduceToNat]))
      have tbl := treeB_len2 hshZ Z.length (Nat.le_refl _)
      rw [List.take_length] at tbl
      have hsZ : ShortE Z := fun i hi => by have := hshZ _ (getD_mem (z := ent0) hi); omega
      refine Ow.callX (Y := (D2 ++ [(b2, Obj.cells #[vi 0, vs []] 45 (0, 0)), (b1, Obj.cells #[v] 49 (0, 0))])) (by simp) rfl rfl Tryd.call62 (fun w' hw' hX hn => WString_spec bw D (treeB Z) w' hB1 hX hn (by omega)) (fun v5 D5 hC5 hS5 => ?_)
      obtain rfl := hS5
      have hN5 := Came.newF hC5 hN1 (b := bw) (by rw [keys_app]; exact List.mem_append_left _ hM1) (by omega)
      have hN2' : New w.heap.size D2 := hN2.mono (by omega)
      have hNe : New w.heap.size (D5 ++ (D2 ++ [(b2, Obj.cells #[vi 0, vs []] 45 (0, 0)), (b1, Obj.cells #[v] 49 (0, 0))])) := (New.mono (by omega) hN5).app (hN2'.app ⟨hw2, by omega, trivial⟩)
      refine Ow.go rfl ?_
      simp (disch := (first | assumption | omega | (simp only [lenS, lenT, UInt64.reduceToNat]; try omega))) only [↓Sx.S0, Sx.S1, Tryd.fx, uPC_1, Nat.reduceAdd, Nat.reducePow, Int.reducePow, Nat.reduceBEq, ↓reduceIte, UInt8.reduceToNat, UInt16.reduceToNat, UInt32.reduceToNat, UInt64.reduceToNat, Int.reduceToNat]
      refine Ow.build (obV 2 (treeB Z)) rfl (build_ob2 2 _) ?_
      refine Ow.go rfl ?_
      simp (disch := (first | assumption | omega | (simp only [lenS, lenT, UInt64.reduceToNat]; try omega))) only [↓Sx.S0, Sx.S1, Tryd.fx, uPC_1, Nat.reduceAdd, Nat.reducePow, Int.reducePow, Nat.reduceBEq, ↓reduceIte, UInt8.reduceToNat, UInt16.reduceToNat, UInt32.reduceToNat, UInt64.reduceToNat, Int.reduceToNat]
      refine Ow.callFV rfl Tryd.call100 (fun w' hw' => entries_spec v2 Z w' (hG.slM (fun b o hm => hw'.has b o (by simp [hm])) hZl rfl entC_len) (by omega) hsZ) ?_
      refine Ow.go rfl ?_
      simp (disch := (first | assumption | omega | (simp only [lenS, lenT, UInt64.reduceToNat]; try omega))) only [↓Sx.S0, Sx.S1, Tryd.fx, uPC_1, Nat.reduceAdd, Nat.reducePow, Int.reducePow, Nat.reduceBEq, ↓reduceIte, UInt8.reduceToNat, UInt16.reduceToNat, UInt32.reduceToNat, UInt64.reduceToNat, Int.reduceToNat]
      refine Ow.callFV rfl Tryd.call95 (fun w' hw' => made_spec 2 (treeB Z) (entsOk Z) w') ?_
      refine Ow.permL (M := (b2, Obj.cells #[vi 0, vs []] 45 (0, 0)) :: (D5 ++ (D2 ++ [(b1, Obj.cells #[v] 49 (0, 0))]))) (by classical exact List.perm_iff_count.2 fun a => by simp only [List.count_append, List.count_cons, List.count_nil] <;> omega) ?_
      refine Ow.go rfl ?_
      simp (disch := (first | assumption | omega | (simp only [lenS, lenT, UInt64.reduceToNat]; try omega))) only [↓Sx.S0, Sx.S1, Tryd.fx, uPC_1, Nat.reduceAdd, Nat.reducePow, Int.reducePow, Nat.reduceBEq, ↓reduceIte, UInt8.reduceToNat, UInt16.reduceToNat, UInt32.reduceToNat, UInt64.reduceToNat, Int.reduceToNat]
      ((try with_reducible refine Cw.go [] ?_); (try simp (disch := (first | assumption | omega | (simp only [lenS, lenT, UInt64.reduceToNat]; try omega))) only [↓Sx.S0, Sx.S1, Tryd.fx, uPC_1, Nat.reduceAdd, Nat.reducePow, Int.reducePow, Nat.reduceBEq, ↓reduceIte, UInt8.reduceToNat, UInt16.reduceToNat, UInt32.reduceToNat, UInt64.reduceToNat, Int.reduceToNat]))
      refine ⟨_, (by simp (disch := (first | assumption | omega | (simp only [lenS, lenT, UInt64.reduceToNat]; try omega))) only [↓Sx.S0, Sx.S1, Tryd.fx, uPC_1, Nat.reduceAdd, Nat.reducePow, Int.reducePow, Nat.reduceBEq, ↓reduceIte, UInt8.reduceToNat, UInt16.reduceToNat, UInt32.reduceToNat, UInt64.reduceToNat, Int.reduceToNat]; rfl), ?_⟩
      exact ⟨Ext.of_new ⟨hw2, (New.mono (by omega) hN5).app (hN2'.app ⟨by omega, trivial⟩)⟩, Z, hZ, rfl⟩
end Go.Proofs
end
section
open Go Go.Proofs Go.Sx Go.StP
namespace Go.Proofs
set_option maxRecDepth 10000
set_option maxHeartbeats 400000
set_option linter.unusedSimpArgs false
theorem RdOk_in {k : Int} {t : List UInt8} (h : RdOk k t = true) : 1 ≤ k ∧ k ≤ 3 ∧ t.length ≤ 4096 := by
  unfold RdOk at h
  split at h
  · assumption
  · cases h
set_option linter.defProp false
def uPD_1 := And.intro (And.intro (And.intro (@load_ob) (@load_ob0)) (And.intro (@load_ob1) (And.intro (@store_ob) (@Sx.tup2_0)))) (And.intro (And.intro (@Sx.tup2_1) (And.intro (@load_ro0) (@load_ro1))) (And.intro (@load_ro2) (And.intro (@rdIn_v8) (@rdIn_vi))))
def EntsS (k : Int) (t : List UInt8) (v : Value) (D : Heap) : Prop :=
  if RdOk k t = true ∧ k = 2 then ∃ v1, v = .tuple #[v1, vi 0] ∧ Gr D 108 34 v1 (entsE t).1.length ((entsE t).1.map entC).flatten else v = .tuple #[.slice none 0 0, vi 1]
theorem EntriesO_spec (k : Int) (t : List UInt8) (w : World) : Rets Tryd.prog 18 #[obV k t] w (XS w [] (EntsS k t)) := by
  refine Rets.enterX Tryd.func18 rfl (rs := [.tmp 2, .tmp 3]) Tryd.results18 Tryd.ntmps18 (fun p hp => by cases hp) (by simp [keys]) ?_
  simp only [List.size_toArray, List.length_cons, List.length_nil, Nat.reduceAdd, Nat.reduceSub, List.replicate_succ, List.replicate_zero, List.cons_append, List.nil_append]
  ((try with_reducible refine Cw.go [] ?_); (try simp (disch := (first | assumption | omega | (simp only [lenS, lenT, UInt64.reduceToNat]; try omega))) only [↓Sx.S0, Sx.S1, Tryd.fx, uPD_1, Nat.reduceAdd, Nat.reducePow, Int.reducePow, Nat.reduceBEq, ↓reduceIte, UInt8.reduceToNat, UInt16.reduceToNat, UInt32.reduceToNat, UInt64.reduceToNat, Int.reduceToNat]))
  refine Ow.box rfl rfl fun b1 hb1 hw1 => ?_
  simp only [ev_tmp, getF_0, getF_s, cells_agg, List.nil_append]
  refine Ow.go rfl ?_
  simp (disch := (first | assumption | omega | (simp only [lenS, lenT, UInt64.reduceToNat]; try omega))) only [↓Sx.S0, Sx.S1, Tryd.fx, uPD_1, Nat.reduceAdd, Nat.reducePow, Int.reducePow, Nat.reduceBEq, ↓reduceIte, UInt8.reduceToNat, UInt16.reduceToNat, UInt32.reduceToNat, UInt64.reduceToNat, Int.reduceToNat]
  refine Ow.callC rfl rfl Tryd.call64 (fun w' hw' => readO_spec k t w') (fun B v D hA hB hN hS => ?_)
  obtain ⟨p, rfl, hS⟩ := hS
  obtain ⟨h1B, -⟩ := hA
  have hNe : New w.heap.size ((b1, Obj.cells #[vi k, vs t] 45 (0, 0)) :: D) := ⟨hw1, New.mono hB hN⟩
  cases hr : RdOk k t
  · refine Ow.go rfl ?_
    simp (disch := (first | assumption | omega | (simp only [lenS, lenT, UInt64.reduceToNat]; try omega))) only [↓Sx.S0, Sx.S1, Tryd.fx, uPD_1, Nat.reduceAdd, Nat.reducePow, Int.reducePow, Nat.reduceBEq, ↓reduceIte, UInt8.reduceToNat, UInt16.reduceToNat, UInt32.reduceToNat, UInt64.reduceToNat, Int.reduceToNat]
    ((try with_reducible refine Cw.go [] ?_); (try simp (disch := (first | assumption | omega | (simp only [lenS, lenT, UInt64.reduceToNat]; try omega))) only [↓Sx.S0, Sx.S1, Tryd.fx, uPD_1, Nat.reduceAdd, Nat.reducePow, Int.reducePow, Nat.reduceBEq, ↓reduceIte, UInt8.reduceToNat, UInt16.reduceToNat, UInt32.reduceToNat, UInt64.reduceToNat, Int.reduceToNat]))
    refine ⟨_, (by simp (disch := (first | assumption | omega | (simp only [lenS, lenT, UInt64.reduceToNat]; try omega))) only [↓Sx.S0, Sx.S1, Tryd.fx, uPD_1, Nat.reduceAdd, Nat.reducePow, Int.reducePow, Nat.reduceBEq, ↓reduceIte, UInt8.reduceToNat, UInt16.reduceToNat, UInt32.reduceToNat, UInt64.reduceToNat, Int.reduceToNat]; rfl), ?_⟩
    refine ⟨Ext.of_new hNe, ?_⟩
    unfold EntsS
    rw [hr, if_neg (by simp)]; rfl
  · by_cases h2 : k = 2
    · subst h2
      have d1 : ((2 : Int) != 2) = false := rfl
      obtain ⟨bo, bw, v1, c1, x1, y1, rfl, hlk, hg, -⟩ := hS (RdOk_in hr)
      have hob := hN.le bo (key_of_look hlk)
      have rdo : readB w D bo = some (.cells (roC (vp bw 0) v1 c1 x1 y1).toArray 117 (0, 0)) := read_look hlk
      refine Ow.go rfl ?_
      simp (disch := (first | assumption | omega | (simp only [lenS, lenT, UInt64.reduceToNat]; try omega))) only [↓Sx.S0, Sx.S1, Tryd.fx, uPD_1, Nat.reduceAdd, Nat.reducePow, Int.reducePow, Nat.reduceBEq, ↓reduceIte, UInt8.reduceToNat, UInt16.reduceToNat, UInt32.reduceToNat, UInt64.reduceToNat, Int.reduceToNat, d1]
      ((try with_reducible refine Cw.go [] ?_); (try simp (disch := (first | assumption | omega | (simp only [lenS, lenT, UInt64.reduceToNat]; try omega))) only [↓Sx.S0, Sx.S1, Tryd.fx, uPD_1, Nat.reduceAdd, Nat.reducePow, Int.reducePow, Nat.reduceBEq, ↓reduceIte, UInt8.reduceToNat, UInt16.reduceToNat, UInt32.reduceToNat, UInt64.reduceToNat, Int.reduceToNat, rdo]))
      refine ⟨_, (by simp (disch := (first | assumption | omega | (simp only [lenS, lenT, UInt64.reduceToNat]; try omega))) only [↓Sx.S0, Sx.S1, Tryd.fx, uPD_1, Nat.reduceAdd, Nat.reducePow, Int.reducePow, Nat.reduceBEq, ↓reduceIte, UInt8.reduceToNat, UInt16.reduceToNat, UInt32.reduceToNat, UInt64.reduceToNat, Int.reduceToNat]; rfl), ?_⟩
      refine ⟨Ext.of_new hNe, ?_⟩
      unfold EntsS
      rw [if_pos ⟨hr, rfl⟩]
      exact ⟨v1, rfl, (hg rfl).keep fun b o hb ho => by
        have := hN.le b (key_of_look ho)
        rw [look_other _ _ _ _ (by omega)]; exact ho⟩
    · have d1 : (k != 2) = true := by simpa using h2
      refine Ow.go rfl ?_
      simp (disch := (first | assumption | omega | (simp only [lenS, lenT, UInt64.reduceToNat]; try omega))) only [↓Sx.S0, Sx.S1, Tryd.fx, uPD_1, Nat.reduceAdd, Nat.reducePow, Int.reducePow, Nat.reduceBEq, ↓reduceIte, UInt8.reduceToNat, UInt16.reduceToNat, UInt32.reduceToNat, UInt64.reduceToNat, Int.reduceToNat, d1]
      ((try with_reducible refine Cw.go [] ?_); (try simp (disch := (first | assumption | omega | (simp only [lenS, lenT, UInt64.reduceToNat]; try omega))) only [↓Sx.S0, Sx.S1, Tryd.fx, uPD_1, Nat.reduceAdd, Nat.reducePow, Int.reducePow, Nat.reduceBEq, ↓reduceIte, UInt8.reduceToNat, UInt16.reduceToNat, UInt32.reduceToNat, UInt64.reduceToNat, Int.reduceToNat]))
      refine ⟨_, (by simp (disch := (first | assumption | omega | (simp only [lenS, lenT, UInt64.reduceToNat]; try omega))) only [↓Sx.S0, Sx.S1, Tryd.fx, uPD_1, Nat.reduceAdd, Nat.reducePow, Int.reducePow, Nat.reduceBEq, ↓reduceIte, UInt8.reduceToNat, UInt16.reduceToNat, UInt32.reduceToNat, UInt64.reduceToNat, Int.reduceToNat]; rfl), ?_⟩
      refine ⟨Ext.of_new hNe, ?_⟩
      unfold EntsS
      rw [if_neg (fun h => h2 h.2)]; rfl
def ComsS (k : Int) (t : List UInt8) (v : Value) (D : Heap) : Prop :=
  if RdOk k t = true ∧ k = 3 then ∃ p, v = .tuple #[.agg (comC (comE t).1.tree p (comE t).1.text).toArray, vi 0] ∧ Gr D 40 32 p (comE t).1.par.length ((comE t).1.par.map idLC).flatten else v = .tuple #[.agg (comC id0 (.slice none 0 0) []).toArray, vi 1]
theorem CommitsO_spec (k : Int) (t : List UInt8) (w : World) : Rets Tryd.prog 19 #[obV k t] w (XS w [] (ComsS k t)) := by
  refine Rets.enterX Tryd.func19 rfl (rs := [.cell 2 54, .tmp 3]) Tryd.results19 Tryd.ntmps19 (fun p hp => by cases hp) (by simp [keys]) ?_
  simp only [List.size_toArray, List.length_cons, List.length_nil, Nat.reduceAdd, Nat.reduceSub, List.replicate_succ, List.replicate_zero, List.cons_append, List.nil_append]
  ((try with_reducible refine Cw.go [] ?_); (try simp (disch := (first | assumption | omega | (simp only [lenS, lenT, UInt64.reduceToNat]; try omega))) only [↓Sx.S0, Sx.S1, Tryd.fx, uPD_1, Nat.reduceAdd, Nat.reducePow, Int.reducePow, Nat.reduceBEq, ↓reduceIte, UInt8.reduceToNat, UInt16.reduceToNat, UInt32.reduceToNat, UInt64.reduceToNat, Int.reduceToNat]))
  refine Ow.box rfl rfl fun b1 hb1 hw1 => ?_
  simp only [ev_tmp, getF_0, getF_s, cells_agg, List.nil_append]
  refine Ow.go rfl ?_
  simp (disch := (first | assumption | omega | (simp only [lenS, lenT, UInt64.reduceToNat]; try omega))) only [↓Sx.S0, Sx.S1, Tryd.fx, uPD_1, Nat.reduceAdd, Nat.reducePow, Int.reducePow, Nat.reduceBEq, ↓reduceIte, UInt8.reduceToNat, UInt16.reduceToNat, UInt32.reduceToNat, UInt64.reduceToNat, Int.reduceToNat]
  refine Ow.alloc rfl rfl zrCom fun b2 hb2 hw2 => ?_
  simp only [cells_agg, List.nil_append, List.cons_append]
  have h12 : b1 < b2 := above_to hb2 (by simp [keys])
  have stz : ∀ a E, storeV (some (a, 34)) (some (.cells (comC id0 (.slice none 0 0) []).toArray E (0, 0))) 0 (.agg (comC id0 (.slice none 0 0) []).toArray) = some (.cells (comC id0 (.slice none 0 0) []).toArray E (0, 0)) := fun a E => store_com _ _ _ _ a E (by rw [List.size_toArray, comC_len]) rfl
  refine Ow.go rfl ?_
  simp (disch := (first | assumption | omega | (simp only [lenS, lenT, UInt64.reduceToNat]; try omega))) only [↓Sx.S0, Sx.S1, Tryd.fx, uPD_1, Nat.reduceAdd, Nat.reducePow, Int.reducePow, Nat.reduceBEq, ↓reduceIte, UInt8.reduceToNat, UInt16.reduceToNat, UInt32.reduceToNat, UInt64.reduceToNat, Int.reduceToNat]
  refine Ow.callC rfl rfl Tryd.call64 (fun w' hw' => readO_spec k t w') (fun B v D hA hB hN hS => ?_)
  obtain ⟨p, rfl, hS⟩ := hS
  obtain ⟨h1B, h2B, -⟩ := hA
  have hNe : ∀ o, New w.heap.size ((b1, Obj.cells #[vi k, vs t] 45 (0, 0)) :: (b2, o) :: D) := fun o => ⟨hw1, hw2, New.mono hB hN⟩
  cases hr : RdOk k t
  · refine Ow.go rfl ?_
    simp (disch := (first | assumption | omega | (simp only [lenS, lenT, UInt64.reduceToNat]; try omega))) only [↓Sx.S0, Sx.S1, Tryd.fx, uPD_1, Nat.reduceAdd, Nat.reducePow, Int.reducePow, Nat.reduceBEq, ↓reduceIte, UInt8.reduceToNat, UInt16.reduceToNat, UInt32.reduceToNat, UInt64.reduceToNat, Int.reduceToNat]
    refine Ow.build (.agg (comC id0 (.slice none 0 0) []).toArray) rfl build_com0 ?_
    refine Ow.go rfl ?_
    simp (disch := (first | assumption | omega | (simp only [lenS, lenT, UInt64.reduceToNat]; try omega))) only [↓Sx.S0, Sx.S1, Tryd.fx, uPD_1, Nat.reduceAdd, Nat.reducePow, Int.reducePow, Nat.reduceBEq, ↓reduceIte, UInt8.reduceToNat, UInt16.reduceToNat, UInt32.reduceToNat, UInt64.reduceToNat, Int.reduceToNat, stz, load_com]
    ((try with_reducible refine Cw.go [] ?_); (try simp (disch := (first | assumption | omega | (simp only [lenS, lenT, UInt64.reduceToNat]; try omega))) only [↓Sx.S0, Sx.S1, Tryd.fx, uPD_1, Nat.reduceAdd, Nat.reducePow, Int.reducePow, Nat.reduceBEq, ↓reduceIte, UInt8.reduceToNat, UInt16.reduceToNat, UInt32.reduceToNat, UInt64.reduceToNat, Int.reduceToNat, load_com]))
    refine ⟨_, (by simp (disch := (first | assumption | omega | (simp only [lenS, lenT, UInt64.reduceToNat]; try omega))) only [↓Sx.S0, Sx.S1, Tryd.fx, uPD_1, Nat.reduceAdd, Nat.reducePow, Int.reducePow, Nat.reduceBEq, ↓reduceIte, UInt8.reduceToNat, UInt16.reduceToNat, UInt32.reduceToNat, UInt64.reduceToNat, Int.reduceToNat, load_com]; rfl), ?_⟩
    refine ⟨Ext.of_new (hNe _), ?_⟩
    unfold ComsS
    rw [hr, if_neg (by simp)]; rfl
  · by_cases h2 : k = 3
    · subst h2
      have d1 : ((3 : Int) != 3) = false := rfl
      obtain ⟨bo, bw, v1, c1, x1, y1, rfl, hlk, -, hg, -⟩ := hS (RdOk_in hr)
      obtain ⟨rfl, rfl, hg3⟩ := hg rfl
      have hob := hN.le bo (key_of_look hlk)
      have rdo : readB w D bo = some (.cells (roC (vp bw 0) v1 (comE t).1.tree x1 (comE t).1.text).toArray 117 (0, 0)) := read_look hlk
      have stq : ∀ a E, storeV (some (a, 34)) (some (.cells (comC id0 (.slice none 0 0) []).toArray E (0, 0))) 0 (.agg (comC (comE t).1.tree x1 (comE t).1.text).toArray) = some (.cells (comC (comE t).1.tree x1 (comE t).1.text).toArray E (0, 0)) := fun a E => store_com _ _ _ _ a E (by rw [List.size_toArray, comC_len]) hg3.cell.1
      refine Ow.go rfl ?_
      simp (disch := (first | assumption | omega | (simp only [lenS, lenT, UInt64.reduceToNat]; try omega))) only [↓Sx.S0, Sx.S1, Tryd.fx, uPD_1, Nat.reduceAdd, Nat.reducePow, Int.reducePow, Nat.reduceBEq, ↓reduceIte, UInt8.reduceToNat, UInt16.reduceToNat, UInt32.reduceToNat, UInt64.reduceToNat, Int.reduceToNat, d1]
      ((try with_reducible refine Cw.go [] ?_); (try simp (disch := (first | assumption | omega | (simp only [lenS, lenT, UInt64.reduceToNat]; try omega))) only [↓Sx.S0, Sx.S1, Tryd.fx, uPD_1, Nat.reduceAdd, Nat.reducePow, Int.reducePow, Nat.reduceBEq, ↓reduceIte, UInt8.reduceToNat, UInt16.reduceToNat, UInt32.reduceToNat, UInt64.reduceToNat, Int.reduceToNat, rdo, stq, cells_com]))
      refine ⟨_, (by simp (disch := (first | assumption | omega | (simp only [lenS, lenT, UInt64.reduceToNat]; try omega))) only [↓Sx.S0, Sx.S1, Tryd.fx, uPD_1, Nat.reduceAdd, Nat.reducePow, Int.reducePow, Nat.reduceBEq, ↓reduceIte, UInt8.reduceToNat, UInt16.reduceToNat, UInt32.reduceToNat, UInt64.reduceToNat, Int.reduceToNat, load_com]; rfl), ?_⟩
      refine ⟨Ext.of_new (hNe _), ?_⟩
      unfold ComsS
      rw [if_pos ⟨hr, rfl⟩]
      exact ⟨x1, rfl, hg3.keep fun b o hb ho => by
        have := hN.le b (key_of_look ho)
        rw [look_other _ _ _ _ (by omega), look_other _ _ _ _ (by omega)]; exact ho⟩
    · have d1 : (k != 3) = true := by simpa using h2
      refine Ow.go rfl ?_
      simp (disch := (first | assumption | omega | (simp only [lenS, lenT, UInt64.reduceToNat]; try omega))) only [↓Sx.S0, Sx.S1, Tryd.fx, uPD_1, Nat.reduceAdd, Nat.reducePow, Int.reducePow, Nat.reduceBEq, ↓reduceIte, UInt8.reduceToNat, UInt16.reduceToNat, UInt32.reduceToNat, UInt64.reduceToNat, Int.reduceToNat, d1]
      refine Ow.build (.agg (comC id0 (.slice none 0 0) []).toArray) rfl build_com0 ?_
      refine Ow.go rfl ?_
      simp (disch := (first | assumption | omega | (simp only [lenS, lenT, UInt64.reduceToNat]; try omega))) only [↓Sx.S0, Sx.S1, Tryd.fx, uPD_1, Nat.reduceAdd, Nat.reducePow, Int.reducePow, Nat.reduceBEq, ↓reduceIte, UInt8.reduceToNat, UInt16.reduceToNat, UInt32.reduceToNat, UInt64.reduceToNat, Int.reduceToNat, stz, load_com]
      ((try with_reducible refine Cw.go [] ?_); (try simp (disch := (first | assumption | omega | (simp only [lenS, lenT, UInt64.reduceToNat]; try omega))) only [↓Sx.S0, Sx.S1, Tryd.fx, uPD_1, Nat.reduceAdd, Nat.reducePow, Int.reducePow, Nat.reduceBEq, ↓reduceIte, UInt8.reduceToNat, UInt16.reduceToNat, UInt32.reduceToNat, UInt64.reduceToNat, Int.reduceToNat, load_com]))
      refine ⟨_, (by simp (disch := (first | assumption | omega | (simp only [lenS, lenT, UInt64.reduceToNat]; try omega))) only [↓Sx.S0, Sx.S1, Tryd.fx, uPD_1, Nat.reduceAdd, Nat.reducePow, Int.reducePow, Nat.reduceBEq, ↓reduceIte, UInt8.reduceToNat, UInt16.reduceToNat, UInt32.reduceToNat, UInt64.reduceToNat, Int.reduceToNat, load_com]; rfl), ?_⟩
      refine ⟨Ext.of_new (hNe _), ?_⟩
      unfold ComsS
      rw [if_neg (fun h => h2 h.2)]; rfl
end Go.Proofs
end
section
open Go Go.Proofs Go.Sx Go.StP
namespace Go.Proofs
set_option maxRecDepth 10000
set_option maxHeartbeats 400000
set_option linter.unusedSimpArgs false
set_option linter.defProp false
def uPE_1 := And.intro (And.intro (And.intro (@load_ob) (@load_ob0)) (And.intro (@load_ob1) (@store_ob))) (And.intro (And.intro (@Sx.tup2_0) (@Sx.tup2_1)) (And.intro (@rdIn_v8) (@rdIn_vi)))
def headB (k : Int) : List UInt8 := (([32, 98, 116, 99] : List UInt8).take (k + 1).toNat).drop k.toNat
def frameB (k : Int) (t : List UInt8) : List UInt8 := headB k ++ textL t
theorem FrameO_spec (k : Int) (t : List UInt8) (w : World) : Rets Tryd.prog 16 #[obV k t] w (XS w [] (fun v _ => v = if RdOk k t then .tuple #[vs (frameB k t), vi 0] else .tuple #[vs [], vi 1])) := by
  refine Rets.enterX Tryd.func16 rfl (rs := [.tmp 2, .tmp 3]) Tryd.results16 Tryd.ntmps16 (fun p hp => by cases hp) (by simp [keys]) ?_
  simp only [List.size_toArray, List.length_cons, List.length_nil, Nat.reduceAdd, Nat.reduceSub, List.replicate_succ, List.replicate_zero, List.cons_append, List.nil_append]
  ((try with_reducible refine Cw.go [] ?_); (try simp (disch := (first | assumption | omega | (simp only [lenS, lenT, UInt64.reduceToNat]; try omega))) only [↓Sx.S0, Sx.S1, Tryd.fx, uPE_1, Nat.reduceAdd, Nat.reducePow, Int.reducePow, Nat.reduceBEq, ↓reduceIte, UInt8.reduceToNat, UInt16.reduceToNat, UInt32.reduceToNat, UInt64.reduceToNat, Int.reduceToNat]))
  refine Ow.box rfl rfl fun b1 hb1 hw1 => ?_
  simp only [ev_tmp, getF_0, getF_s, cells_agg, List.nil_append]
  refine Ow.go rfl ?_
  simp (disch := (first | assumption | omega | (simp only [lenS, lenT, UInt64.reduceToNat]; try omega))) only [↓Sx.S0, Sx.S1, Tryd.fx, uPE_1, Nat.reduceAdd, Nat.reducePow, Int.reducePow, Nat.reduceBEq, ↓reduceIte, UInt8.reduceToNat, UInt16.reduceToNat, UInt32.reduceToNat, UInt64.reduceToNat, Int.reduceToNat]
  refine Ow.callFV rfl Tryd.call22 (fun w' hw' => RightO_spec k t w') ?_
  cases hr : RdOk k t
  · refine Ow.go rfl ?_
    simp (disch := (first | assumption | omega | (simp only [lenS, lenT, UInt64.reduceToNat]; try omega))) only [↓Sx.S0, Sx.S1, Tryd.fx, uPE_1, Nat.reduceAdd, Nat.reducePow, Int.reducePow, Nat.reduceBEq, ↓reduceIte, UInt8.reduceToNat, UInt16.reduceToNat, UInt32.reduceToNat, UInt64.reduceToNat, Int.reduceToNat]
    ((try with_reducible refine Cw.go [] ?_); (try simp (disch := (first | assumption | omega | (simp only [lenS, lenT, UInt64.reduceToNat]; try omega))) only [↓Sx.S0, Sx.S1, Tryd.fx, uPE_1, Nat.reduceAdd, Nat.reducePow, Int.reducePow, Nat.reduceBEq, ↓reduceIte, UInt8.reduceToNat, UInt16.reduceToNat, UInt32.reduceToNat, UInt64.reduceToNat, Int.reduceToNat]))
    refine ⟨_, (by simp (disch := (first | assumption | omega | (simp only [lenS, lenT, UInt64.reduceToNat]; try omega))) only [↓Sx.S0, Sx.S1, Tryd.fx, uPE_1, Nat.reduceAdd, Nat.reducePow, Int.reducePow, Nat.reduceBEq, ↓reduceIte, UInt8.reduceToNat, UInt16.reduceToNat, UInt32.reduceToNat, UInt64.reduceToNat, Int.reduceToNat]; rfl), ?_⟩
    exact ⟨Ext.of_new ⟨hw1, trivial⟩, rfl⟩
  · obtain ⟨hk1, hk3, htl⟩ := RdOk_in hr
    have hhl : (headB k).length ≤ 4 := by unfold headB; simp only [List.length_drop, List.length_take, List.length_cons, List.length_nil]; omega
    refine Ow.go rfl ?_
    simp (disch := (first | assumption | omega | (simp only [lenS, lenT, UInt64.reduceToNat]; try omega))) only [↓Sx.S0, Sx.S1, Tryd.fx, uPE_1, Nat.reduceAdd, Nat.reducePow, Int.reducePow, Nat.reduceBEq, ↓reduceIte, UInt8.reduceToNat, UInt16.reduceToNat, UInt32.reduceToNat, UInt64.reduceToNat, Int.reduceToNat]
    refine Ow.alloc rfl rfl zrWr fun b4 hb4 hw4 => ?_
    simp only [cells_agg, List.nil_append, List.cons_append]
    have h14 : b1 < b4 := above_to hb4 (by simp [keys])
    refine Ow.permL (M := [(b4, Obj.cells #[.pointer none, .slice none 0 0] 98 (0, 0))] ++ [(b1, Obj.cells #[vi k, vs t] 45 (0, 0))]) (by classical exact List.perm_iff_count.2 fun a => by simp only [List.count_append, List.count_cons, List.count_nil] <;> omega) ?_
    have hB0 : BldAt b4 [] [(b4, Obj.cells #[.pointer none, .slice none 0 0] 98 (0, 0))] := BldAt.zeroE b4 (look_same _ _ _)
    have hN0 : New (b1 + 1) [(b4, Obj.cells #[.pointer none, .slice none 0 0] 98 (0, 0))] := ⟨by omega, trivial⟩
    generalize [(b4, Obj.cells #[.pointer none, .slice none 0 0] 98 (0, 0))] = D0 at hB0 hN0 ⊢
    have rdc : ∀ {D}, New (b1 + 1) D → ∀ M, readB w (D ++ (b1, Obj.cells #[vi k, vs t] 45 (0, 0)) :: M) b1 = some (.cells #[vi k, vs t] 45 (0, 0)) := fun hn M => read_look (by rw [look_app_r (hn.not (by omega))]; exact look_same _ _ _)
    have r0 := rdc hN0
    have hsl : sliceV .str (vs ([32, 98, 116, 99] : List UInt8)) (some (some k)) (some (some (k + 1))) = some (vs (headB k)) := slice_str_both _ _ _ ⟨by omega, by omega, by simp only [List.length_cons, List.length_nil]; omega⟩
    refine Ow.go rfl ?_
    simp (disch := (first | assumption | omega | (simp only [lenS, lenT, UInt64.reduceToNat]; try omega))) only [↓Sx.S0, Sx.S1, Tryd.fx, uPE_1, Nat.reduceAdd, Nat.reducePow, Int.reducePow, Nat.reduceBEq, ↓reduceIte, UInt8.reduceToNat, UInt16.reduceToNat, UInt32.reduceToNat, UInt64.reduceToNat, Int.reduceToNat, r0, hsl]
    refine Ow.buildSlice (e := 9) #[vs (headB k)] rfl rfl (by kernel_rfl) fun b14 hb14 hw14 => ?_
    have h114 : b1 < b14 := above_to hb14 (by simp [keys])
    have hD14 : b14 ∉ keys D0 := fun hm => Nat.lt_irrefl _ (above_to hb14 (by rw [keys_app]; exact List.mem_append_left _ hm))
    refine Ow.go rfl ?_
    simp (disch := (first | assumption | omega | (simp only [lenS, lenT, UInt64.reduceToNat]; try omega))) only [↓Sx.S0, Sx.S1, Tryd.fx, uPE_1, Nat.reduceAdd, Nat.reducePow, Int.reducePow, Nat.reduceBEq, ↓reduceIte, UInt8.reduceToNat, UInt16.reduceToNat, UInt32.reduceToNat, UInt64.reduceToNat, Int.reduceToNat]
    refine Ow.callX (Y := [(b1, Obj.cells #[vi k, vs t] 45 (0, 0)), (b14, Obj.cells #[vs (headB k)] 9 (0, 0))]) (by simp) rfl rfl Tryd.call53 (fun w' hw' hX hn => WRaw_spec b4 D0 _ _ b14 0 [headB k] _ _ _ w' hB0 hX hn (StrS.lit [headB k] rfl rfl (hw'.has _ _ (List.mem_append_right _ List.mem_cons_self))) (fun _ => hD14) (by simp; omega) (by simp)) (fun u0 E0 hC0 hS0 => ?_)
    obtain ⟨rfl, hB0'⟩ := hS0
    have hN0' := Came.newE hC0 hN0 (by simp [keys])
    have hB1 := hB0'.app (Y := [(b14, Obj.cells #[vs (headB k)] 9 (0, 0))])
    have hN1 := hN0'.app (show New (b1 + 1) [(b14, Obj.cells #[vs (headB k)] 9 (0, 0))] from ⟨by omega, trivial⟩)
    refine Ow.permL (M := (E0 ++ [(b14, Obj.cells #[vs (headB k)] 9 (0, 0))]) ++ [(b1, Obj.cells #[vi k, vs t] 45 (0, 0))]) (by classical exact List.perm_iff_count.2 fun a => by simp only [List.count_append, List.count_cons, List.count_nil] <;> omega) ?_
    generalize E0 ++ [(b14, Obj.cells #[vs (headB k)] 9 (0, 0))] = F1 at hB1 hN1 ⊢
    simp only [List.flatten_cons, List.flatten_nil, List.append_nil, List.nil_append] at hB1
    have r1 := rdc hN1
    refine Ow.go rfl ?_
    simp (disch := (first | assumption | omega | (simp only [lenS, lenT, UInt64.reduceToNat]; try omega))) only [↓Sx.S0, Sx.S1, Tryd.fx, uPE_1, Nat.reduceAdd, Nat.reducePow, Int.reducePow, Nat.reduceBEq, ↓reduceIte, UInt8.reduceToNat, UInt16.reduceToNat, UInt32.reduceToNat, UInt64.reduceToNat, Int.reduceToNat, r1]
    have htx : textsL [t] = textL t := by simp [textsL]
    have tll := textL_len (s := t) (by omega)
    have tnl : (textL t).length = (numL (clampN t.length)).length + t.length := by unfold textL; rw [List.length_append]
    have nl1 := numL_clamp_len (t.length : Int)
    refine Ow.buildSlice (e := 9) #[vs t] rfl rfl (by kernel_rfl) fun b18 hb18 hw18 => ?_
    have h118 : b1 < b18 := above_to hb18 (by simp [keys])
    have hD18 : b18 ∉ keys F1 := fun hm => Nat.lt_irrefl _ (above_to hb18 (by rw [keys_app]; exact List.mem_append_left _ hm))
    refine Ow.go rfl ?_
    simp (disch := (first | assumption | omega | (simp only [lenS, lenT, UInt64.reduceToNat]; try omega))) only [↓Sx.S0, Sx.S1, Tryd.fx, uPE_1, Nat.reduceAdd, Nat.reducePow, Int.reducePow, Nat.reduceBEq, ↓reduceIte, UInt8.reduceToNat, UInt16.reduceToNat, UInt32.reduceToNat, UInt64.reduceToNat, Int.reduceToNat]
    refine Ow.callX (Y := [(b1, Obj.cells #[vi k, vs t] 45 (0, 0)), (b18, Obj.cells #[vs t] 9 (0, 0))]) (by simp) rfl rfl Tryd.call55 (fun w' hw' hX hn => WText_spec b4 F1 _ _ b18 0 [t] _ _ _ w' hB1 hX hn (StrS.lit [t] rfl rfl (hw'.has _ _ (List.mem_append_right _ List.mem_cons_self))) (fun _ => hD18) (by rw [htx]; omega) (by simp)) (fun u1 E1 hC1 hS1 => ?_)
    obtain ⟨rfl, hB1'⟩ := hS1
    have hN1' := Came.newE hC1 hN1 (by simp [keys])
    have hB2 := hB1'.app (Y := [(b18, Obj.cells #[vs t] 9 (0, 0))])
    have hN2 := hN1'.app (show New (b1 + 1) [(b18, Obj.cells #[vs t] 9 (0, 0))] from ⟨by omega, trivial⟩)
    refine Ow.permL (M := (E1 ++ [(b18, Obj.cells #[vs t] 9 (0, 0))]) ++ [(b1, Obj.cells #[vi k, vs t] 45 (0, 0))]) (by classical exact List.perm_iff_count.2 fun a => by simp only [List.count_append, List.count_cons, List.count_nil] <;> omega) ?_
    generalize E1 ++ [(b18, Obj.cells #[vs t] 9 (0, 0))] = F2 at hB2 hN2 ⊢
    rw [htx] at hB2
    refine Ow.go rfl ?_
    simp (disch := (first | assumption | omega | (simp only [lenS, lenT, UInt64.reduceToNat]; try omega))) only [↓Sx.S0, Sx.S1, Tryd.fx, uPE_1, Nat.reduceAdd, Nat.reducePow, Int.reducePow, Nat.reduceBEq, ↓reduceIte, UInt8.reduceToNat, UInt16.reduceToNat, UInt32.reduceToNat, UInt64.reduceToNat, Int.reduceToNat]
    refine Ow.callX (Y := [(b1, Obj.cells #[vi k, vs t] 45 (0, 0))]) (by simp) rfl rfl Tryd.call62 (fun w' hw' hX hn => WString_spec b4 F2 _ w' hB2 hX hn (by rw [List.length_append]; omega)) (fun v5 D5 hC5 hS5 => ?_)
    obtain rfl := hS5
    have hN5 := Came.newE hC5 hN2 (by simp [keys])
    refine Ow.go rfl ?_
    simp (disch := (first | assumption | omega | (simp only [lenS, lenT, UInt64.reduceToNat]; try omega))) only [↓Sx.S0, Sx.S1, Tryd.fx, uPE_1, Nat.reduceAdd, Nat.reducePow, Int.reducePow, Nat.reduceBEq, ↓reduceIte, UInt8.reduceToNat, UInt16.reduceToNat, UInt32.reduceToNat, UInt64.reduceToNat, Int.reduceToNat]
    ((try with_reducible refine Cw.go [] ?_); (try simp (disch := (first | assumption | omega | (simp only [lenS, lenT, UInt64.reduceToNat]; try omega))) only [↓Sx.S0, Sx.S1, Tryd.fx, uPE_1, Nat.reduceAdd, Nat.reducePow, Int.reducePow, Nat.reduceBEq, ↓reduceIte, UInt8.reduceToNat, UInt16.reduceToNat, UInt32.reduceToNat, UInt64.reduceToNat, Int.reduceToNat]))
    refine ⟨_, (by simp (disch := (first | assumption | omega | (simp only [lenS, lenT, UInt64.reduceToNat]; try omega))) only [↓Sx.S0, Sx.S1, Tryd.fx, uPE_1, Nat.reduceAdd, Nat.reducePow, Int.reducePow, Nat.reduceBEq, ↓reduceIte, UInt8.reduceToNat, UInt16.reduceToNat, UInt32.reduceToNat, UInt64.reduceToNat, Int.reduceToNat]; rfl), ?_⟩
    exact ⟨Ext.of_new ((New.mono (by omega) hN5).app ⟨hw1, trivial⟩), rfl⟩
end Go.Proofs
end
section
open Go Go.Proofs Go.Sx Go.StP
namespace Go.Proofs
set_option maxRecDepth 10000
set_option maxHeartbeats 400000
set_option linter.unusedSimpArgs false
set_option linter.defProp false
def uPF_1 := And.intro (And.intro (And.intro (@load_ob) (@load_ob0)) (And.intro (@load_ob1) (@store_ob))) (And.intro (And.intro (@Sx.tup2_0) (@Sx.tup2_1)) (And.intro (@cells_com) (And.intro (@rdIn_v8) (@rdIn_vi))))
def rightL (k : Int) (t : List UInt8) : Bool := if 4096 < t.length then false else if k = 2 then (readE t).isSome else if k = 3 then (readC t).isSome else k == 1
theorem RightL_spec (k : Int) (t : List UInt8) (w : World) : Rets Tryd.prog 21 #[obV k t] w (fun v D => v = .bool (rightL k t) ∧ D = []) := by
  refine Rets.enterV Tryd.func21 rfl (rs := [.tmp 2]) Tryd.results21 Tryd.ntmps21 ?_
  simp only [List.size_toArray, List.length_cons, List.length_nil, Nat.reduceAdd, Nat.reduceSub, List.replicate_succ, List.replicate_zero, List.cons_append, List.nil_append]
  ((try with_reducible refine Cw.go [] ?_); (try simp (disch := (first | assumption | omega | (simp only [lenS, lenT, UInt64.reduceToNat]; try omega))) only [↓Sx.S0, Sx.S1, Tryd.fx, uPF_1, Nat.reduceAdd, Nat.reducePow, Int.reducePow, Nat.reduceBEq, ↓reduceIte, UInt8.reduceToNat, UInt16.reduceToNat, UInt32.reduceToNat, UInt64.reduceToNat, Int.reduceToNat]))
  refine Ow.box rfl rfl fun b1 hb1 hw1 => ?_
  simp only [ev_tmp, getF_0, getF_s, cells_agg, List.nil_append]
  refine Ow.go rfl ?_
  simp (disch := (first | assumption | omega | (simp only [lenS, lenT, UInt64.reduceToNat]; try omega))) only [↓Sx.S0, Sx.S1, Tryd.fx, uPF_1, Nat.reduceAdd, Nat.reducePow, Int.reducePow, Nat.reduceBEq, ↓reduceIte, UInt8.reduceToNat, UInt16.reduceToNat, UInt32.reduceToNat, UInt64.reduceToNat, Int.reduceToNat]
  unfold rightL
  by_cases h3 : 4096 < t.length
  · have d1 : decide (4096 < (t.length : Int)) = true := decide_eq_true (by omega)
    rw [if_pos h3]
    ((try with_reducible refine Cw.go [] ?_); (try simp (disch := (first | assumption | omega | (simp only [lenS, lenT, UInt64.reduceToNat]; try omega))) only [↓Sx.S0, Sx.S1, Tryd.fx, uPF_1, Nat.reduceAdd, Nat.reducePow, Int.reducePow, Nat.reduceBEq, ↓reduceIte, UInt8.reduceToNat, UInt16.reduceToNat, UInt32.reduceToNat, UInt64.reduceToNat, Int.reduceToNat, d1]))
    refine ⟨_, (by simp (disch := (first | assumption | omega | (simp only [lenS, lenT, UInt64.reduceToNat]; try omega))) only [↓Sx.S0, Sx.S1, Tryd.fx, uPF_1, Nat.reduceAdd, Nat.reducePow, Int.reducePow, Nat.reduceBEq, ↓reduceIte, UInt8.reduceToNat, UInt16.reduceToNat, UInt32.reduceToNat, UInt64.reduceToNat, Int.reduceToNat]; rfl), ⟨hw1, trivial⟩, ?_⟩
    rfl
  · have d1 : decide (4096 < (t.length : Int)) = false := decide_eq_false (by omega)
    rw [if_neg h3]
    by_cases h2 : k = 2
    · subst h2
      rw [if_pos rfl]
      ((try with_reducible refine Cw.go [] ?_); (try simp (disch := (first | assumption | omega | (simp only [lenS, lenT, UInt64.reduceToNat]; try omega))) only [↓Sx.S0, Sx.S1, Tryd.fx, uPF_1, Nat.reduceAdd, Nat.reducePow, Int.reducePow, Nat.reduceBEq, ↓reduceIte, UInt8.reduceToNat, UInt16.reduceToNat, UInt32.reduceToNat, UInt64.reduceToNat, Int.reduceToNat, d1]))
      refine Ow.callC rfl rfl Tryd.call28 (fun w' hw' => EntriesR_spec t w' (by omega)) (fun B v D hA hB hN hS => ?_)
      obtain ⟨p, b, rfl, hb⟩ : ∃ p b, v = .tuple #[p, .bool b] ∧ (readE t).isSome = b := by
        unfold ReadES at hS
        cases h : readE t with
        | none => rw [h] at hS; exact ⟨_, _, hS, rfl⟩
        | some l => rw [h] at hS; obtain ⟨v1, rfl, -⟩ := hS; exact ⟨_, _, rfl, rfl⟩
      rw [hb]
      refine Ow.go rfl ?_
      simp (disch := (first | assumption | omega | (simp only [lenS, lenT, UInt64.reduceToNat]; try omega))) only [↓Sx.S0, Sx.S1, Tryd.fx, uPF_1, Nat.reduceAdd, Nat.reducePow, Int.reducePow, Nat.reduceBEq, ↓reduceIte, UInt8.reduceToNat, UInt16.reduceToNat, UInt32.reduceToNat, UInt64.reduceToNat, Int.reduceToNat]
      ((try with_reducible refine Cw.go [] ?_); (try simp (disch := (first | assumption | omega | (simp only [lenS, lenT, UInt64.reduceToNat]; try omega))) only [↓Sx.S0, Sx.S1, Tryd.fx, uPF_1, Nat.reduceAdd, Nat.reducePow, Int.reducePow, Nat.reduceBEq, ↓reduceIte, UInt8.reduceToNat, UInt16.reduceToNat, UInt32.reduceToNat, UInt64.reduceToNat, Int.reduceToNat]))
      refine ⟨_, (by simp (disch := (first | assumption | omega | (simp only [lenS, lenT, UInt64.reduceToNat]; try omega))) only [↓Sx.S0, Sx.S1, Tryd.fx, uPF_1, Nat.reduceAdd, Nat.reducePow, Int.reducePow, Nat.reduceBEq, ↓reduceIte, UInt8.reduceToNat, UInt16.reduceToNat, UInt32.reduceToNat, UInt64.reduceToNat, Int.reduceToNat]; rfl), ⟨hw1, New.mono hB hN⟩, ?_⟩
      rfl
    · have d2 : (k == 2) = false := by simpa using h2
      rw [if_neg h2]
      by_cases h4 : k = 3
      · subst h4
        rw [if_pos rfl]
        ((try with_reducible refine Cw.go [] ?_); (try simp (disch := (first | assumption | omega | (simp only [lenS, lenT, UInt64.reduceToNat]; try omega))) only [↓Sx.S0, Sx.S1, Tryd.fx, uPF_1, Nat.reduceAdd, Nat.reducePow, Int.reducePow, Nat.reduceBEq, ↓reduceIte, UInt8.reduceToNat, UInt16.reduceToNat, UInt32.reduceToNat, UInt64.reduceToNat, Int.reduceToNat, d1, d2]))
        refine Ow.callC rfl rfl Tryd.call30 (fun w' hw' => CommitRd_spec t w' (by omega)) (fun B v D hA hB hN hS => ?_)
        obtain ⟨c, p, x, b, rfl, hp, hb⟩ : ∃ c p x b, v = .tuple #[.agg (comC c p x).toArray, .bool b] ∧ Value.oneCell' p = true ∧ (readC t).isSome = b := by
          unfold ReadCS at hS
          cases h : readC t with
          | none => rw [h] at hS; exact ⟨_, _, _, _, hS, rfl, rfl⟩
          | some l => rw [h] at hS; obtain ⟨v1, rfl, hg⟩ := hS; exact ⟨_, _, _, _, rfl, hg.cell.1, rfl⟩
        rw [hb]
        have stq : ∀ a E, storeV (some (a, 34)) (some (.cells (comC id0 (.slice none 0 0) []).toArray E (0, 0))) 0 (.agg (comC c p x).toArray) = some (.cells (comC c p x).toArray E (0, 0)) := fun a E => store_com _ _ _ _ a E (by rw [List.size_toArray, comC_len]) hp
        refine Ow.go rfl ?_
        simp (disch := (first | assumption | omega | (simp only [lenS, lenT, UInt64.reduceToNat]; try omega))) only [↓Sx.S0, Sx.S1, Tryd.fx, uPF_1, Nat.reduceAdd, Nat.reducePow, Int.reducePow, Nat.reduceBEq, ↓reduceIte, UInt8.reduceToNat, UInt16.reduceToNat, UInt32.reduceToNat, UInt64.reduceToNat, Int.reduceToNat]
        refine Ow.alloc rfl rfl zrCom fun b5 hb5 hw5 => ?_
        simp only [cells_agg, List.nil_append, List.cons_append]
        refine Ow.permL (M := (b5, Obj.cells (comC id0 (.slice none 0 0) []).toArray 54 (0, 0)) :: (b1, Obj.cells #[vi 3, vs t] 45 (0, 0)) :: D) (by classical exact List.perm_iff_count.2 fun a => by simp only [List.count_append, List.count_cons, List.count_nil] <;> omega) ?_
        refine Ow.go rfl ?_
        simp (disch := (first | assumption | omega | (simp only [lenS, lenT, UInt64.reduceToNat]; try omega))) only [↓Sx.S0, Sx.S1, Tryd.fx, uPF_1, Nat.reduceAdd, Nat.reducePow, Int.reducePow, Nat.reduceBEq, ↓reduceIte, UInt8.reduceToNat, UInt16.reduceToNat, UInt32.reduceToNat, UInt64.reduceToNat, Int.reduceToNat, stq]
        ((try with_reducible refine Cw.go [] ?_); (try simp (disch := (first | assumption | omega | (simp only [lenS, lenT, UInt64.reduceToNat]; try omega))) only [↓Sx.S0, Sx.S1, Tryd.fx, uPF_1, Nat.reduceAdd, Nat.reducePow, Int.reducePow, Nat.reduceBEq, ↓reduceIte, UInt8.reduceToNat, UInt16.reduceToNat, UInt32.reduceToNat, UInt64.reduceToNat, Int.reduceToNat]))
        refine ⟨_, (by simp (disch := (first | assumption | omega | (simp only [lenS, lenT, UInt64.reduceToNat]; try omega))) only [↓Sx.S0, Sx.S1, Tryd.fx, uPF_1, Nat.reduceAdd, Nat.reducePow, Int.reducePow, Nat.reduceBEq, ↓reduceIte, UInt8.reduceToNat, UInt16.reduceToNat, UInt32.reduceToNat, UInt64.reduceToNat, Int.reduceToNat]; rfl), ⟨hw5, hw1, New.mono hB hN⟩, ?_⟩
        rfl
      · have d3 : (k == 3) = false := by simpa using h4
        rw [if_neg h4]
        ((try with_reducible refine Cw.go [] ?_); (try simp (disch := (first | assumption | omega | (simp only [lenS, lenT, UInt64.reduceToNat]; try omega))) only [↓Sx.S0, Sx.S1, Tryd.fx, uPF_1, Nat.reduceAdd, Nat.reducePow, Int.reducePow, Nat.reduceBEq, ↓reduceIte, UInt8.reduceToNat, UInt16.reduceToNat, UInt32.reduceToNat, UInt64.reduceToNat, Int.reduceToNat, d1, d2, d3]))
        refine ⟨_, (by simp (disch := (first | assumption | omega | (simp only [lenS, lenT, UInt64.reduceToNat]; try omega))) only [↓Sx.S0, Sx.S1, Tryd.fx, uPF_1, Nat.reduceAdd, Nat.reducePow, Int.reducePow, Nat.reduceBEq, ↓reduceIte, UInt8.reduceToNat, UInt16.reduceToNat, UInt32.reduceToNat, UInt64.reduceToNat, Int.reduceToNat]; rfl), ⟨hw1, trivial⟩, ?_⟩
        rfl
end Go.Proofs
end
section
open Go Go.Proofs Go.Sx Go.StP
namespace Go.Proofs
set_option maxRecDepth 10000
set_option maxHeartbeats 400000
set_option linter.unusedSimpArgs false
/-! ### What was read was written so -/
theorem numL_posE (n : Nat) : 0 < (numL n).length := by
  by_cases h : n < 128
  · rw [numL_small h]; simp
  · rw [numL_big h]; simp
theorem numGo_canon (most : Int) : ∀ (l : List UInt8) (k acc m k' : Nat), numGo most l k acc = .ok (m, k') → ∃ n, l = numL n ++ l.drop (k' - k) ∧ m = acc + n * 128 ^ k ∧ (0 < k → 0 < n) ∧ k < k' := by
  intro l
  induction l with
  | nil => intro k acc m k' h; simp [numGo] at h
  | cons c r ih =>
    intro k acc m k' h
    unfold numGo at h
    have hcl := c.toNat_lt
    split at h
    · rename_i hc
      split at h
      · cases h
      · obtain ⟨n, h1, h2, h3, h4⟩ := ih _ _ _ _ h
        have hn := h3 (by omega)
        refine ⟨c.toNat % 128 + 128 * n, ?_, ?_, fun _ => by omega, by omega⟩
        · rw [numL_big (by omega), show (c.toNat % 128 + 128 * n) / 128 = n by omega, show (c.toNat % 128 + 128 * n) % 128 + 128 = c.toNat by omega]
          rw [show k' - k = (k' - (k + 1)) + 1 by omega, List.drop_succ_cons, List.cons_append, ← h1]
          simp
        · rw [h2, Nat.pow_succ, Nat.add_mul, Nat.add_assoc]
          congr 2
          rw [Nat.mul_comm 128 n, Nat.mul_assoc, Nat.mul_comm (128 ^ k) 128]
    · rename_i hc
      split at h
      · cases h
      · rename_i hz
        split at h
        · cases h
          refine ⟨c.toNat, ?_, ?_, fun hk => by omega, by omega⟩
          · rw [numL_small (by omega), Nat.add_sub_cancel_left]
            simp
          · rw [Nat.mod_eq_of_lt (by omega)]
        · cases h
theorem clampN_idE {n : Nat} (h : n ≤ 1099511627775) : clampN (n : Int) = n := clampN_nat (by omega)
theorem numGo_boundE (most : Int) : ∀ (l : List UInt8) (k n m k' : Nat), numGo most l k n = .ok (m, k') → m ≤ 1099511627775
  | [], _, _, _, _, h => by simp [numGo] at h
  | c :: r, k, n, m, k', h => by
    unfold numGo at h
    split at h
    · split at h
      · cases h
      · exact numGo_boundE most r _ _ _ _ h
    · split at h
      · cases h
      · split at h
        · rename_i hh
          cases h
          exact hh.1
        · cases h
theorem numR_canon {s : List UInt8} {a : Nat} {most : Int} (h : (numR s a 0 most).2.2 = 0) : ∃ n : Nat, (numR s a 0 most).1 = (n : Int) ∧ n ≤ 1099511627775 ∧ (n : Int) ≤ most ∧ s.drop a = numL n ++ s.drop (numR s a 0 most).2.1 := by
  unfold numR at h ⊢
  rw [if_neg (by simp)] at h ⊢
  cases hg : numGo most (s.drop a) 0 0 with
  | ok p =>
    obtain ⟨m, k⟩ := p
    obtain ⟨n, h1, h2, -, -⟩ := numGo_canon _ _ _ _ _ _ hg
    obtain rfl : m = n := by rw [h2]; simp
    refine ⟨m, rfl, numGo_boundE _ _ _ _ _ _ hg, numGo_mostE _ _ _ _ _ _ hg, ?_⟩
    rw [Nat.sub_zero, List.drop_drop] at h1
    exact h1
  | error x =>
    rw [hg] at h
    exfalso
    have : x = 0 := by have : ((x : Nat) : Int) = 0 := h; omega
    subst this
    exact numGo_0 _ _ _ _ hg
theorem rawR_canon {s : List UInt8} {a : Nat} {n : Int} (ha : a ≤ s.length) (h : (rawR s a 0 n).2.2 = 0) : 0 ≤ n ∧ (rawR s a 0 n).1.length = n.toNat ∧ s.drop a = (rawR s a 0 n).1 ++ s.drop (rawR s a 0 n).2.1 := by
  unfold rawR at h ⊢
  rw [if_neg (by simp)] at h ⊢
  split at h
  · exact absurd (show (2 : Int) = 0 from h) (by decide)
  · rename_i h1
    rw [if_neg h1]
    split at h
    · exact absurd (show (3 : Int) = 0 from h) (by decide)
    · rename_i h2
      rw [if_neg h2]
      refine ⟨by omega, ?_, ?_⟩
      · simp only [List.length_take, List.length_drop]; omega
      · simp only
        rw [← List.drop_drop, List.take_append_drop]
theorem textR_canon {s : List UInt8} {a : Nat} {most : Int} (ha : a ≤ s.length) (h : (textR s a 0 most).2.2 = 0) : ((textR s a 0 most).1.length : Int) ≤ most ∧ s.drop a = textL (textR s a 0 most).1 ++ s.drop (textR s a 0 most).2.1 := by
  have hle := numR_le (e := 0) (most := most) ha
  have e1 : (numR s a 0 most).2.2 = 0 := Decidable.byContradiction fun hn => by
    unfold textR at h
    simp only [rawR_e hn] at h
    rw [if_pos hn] at h
    exact hn h
  obtain ⟨n, hn, hb, hm, hd⟩ := numR_canon e1
  unfold textR at h ⊢
  simp only at h ⊢
  generalize numR s a 0 most = p at *
  obtain ⟨p1, p2, p3⟩ := p
  simp only at e1 hn hd hle h ⊢
  subst e1 hn
  have e2 : (rawR s p2 0 (n : Int)).2.2 = 0 := Decidable.byContradiction fun hh => by rw [if_pos hh] at h; exact hh h
  rw [if_neg (by simp [e2])]
  obtain ⟨-, hl, hr⟩ := rawR_canon hle.2 e2
  rw [Int.toNat_natCast] at hl
  refine ⟨by rw [hl]; exact hm, ?_⟩
  unfold textL
  rw [hl, clampN_idE hb, List.append_assoc, ← hr]
  exact hd
theorem idR_canon {s : List UInt8} {a : Nat} (ha : a ≤ s.length) (h : (idR s a 0).2.2 = 0) : s.drop a = (mkIdE (idR s a 0).1).l ++ s.drop (idR s a 0).2.1 := by
  have e2 : (rawR s a 0 32).2.2 = 0 := h
  obtain ⟨-, hl, hr⟩ := rawR_canon ha e2
  rw [mkIdE_eq (idE_len s a 0)]
  unfold idR
  simp only
  have hl' : (rawR s a 0 32).1.length = 32 := hl
  rw [if_pos hl']
  exact hr
theorem entR_canon {s : List UInt8} {a : Nat} (ha : a ≤ s.length) (h : (entR s a 0).2.2 = 0) : s.drop a = entB (entR s a 0).1 ++ s.drop (entR s a 0).2.1 := by
  have hq := numR_le (e := 0) (most := 2) ha
  unfold entR at h ⊢
  simp only at h ⊢
  have e1 : (numR s a 0 2).2.2 = 0 := Decidable.byContradiction fun hn => by
    rw [idR_e (by rw [textR_e hn]; exact hn), textR_e hn] at h; exact hn h
  obtain ⟨n, hn, hb, -, hd⟩ := numR_canon e1
  generalize numR s a 0 2 = p at *
  obtain ⟨p1, p2, p3⟩ := p
  simp only at e1 hn hd hq h ⊢
  subst e1 hn
  have ht := textE_le (e := 0) (most := 32) hq.2
  have e2 : (textR s p2 0 32).2.2 = 0 := Decidable.byContradiction fun hn => by rw [idR_e hn] at h; exact hn h
  obtain ⟨-, hd2⟩ := textR_canon hq.2 e2
  generalize textR s p2 0 32 = q at *
  obtain ⟨q1, q2, q3⟩ := q
  simp only at e2 hd2 ht h ⊢
  subst e2
  have hd3 := idR_canon ht.2 h
  unfold entB
  simp only
  rw [clampN_idE hb, List.append_assoc, List.append_assoc, ← hd3, ← hd2]
  exact hd
theorem treeB_app1 (l : List EntL) (x : EntL) : treeB (l ++ [x]) = treeB l ++ entB x := by unfold treeB; simp
theorem entsGo_canon {s : List UInt8} : ∀ (n a : Nat) (e : Int) (l : List EntL), a ≤ s.length → (e = 0 → s = treeB l ++ s.drop a) → ((entsGo s n a e l).2.2 = 0 → s = treeB (entsGo s n a e l).1 ++ s.drop (entsGo s n a e l).2.1)
  | 0, _, _, _, _, h => h
  | n + 1, a, e, l, ha, h => by
    by_cases hc : e = 0 ∧ a < s.length
    · rw [entsGo_on hc]
      refine entsGo_canon n _ _ _ (entR_le ha).2 fun h0 => ?_
      obtain ⟨rfl, -⟩ := hc
      rw [treeB_app1, List.append_assoc, ← entR_canon ha h0]
      exact h rfl
    · rw [entsGo_end hc]
      exact h
theorem endE_zero {s : List UInt8} {a : Nat} {e : Int} (h : endE s a e = 0) : e = 0 ∧ s.length ≤ a := by
  unfold endE at h
  split at h
  · rename_i he; exact absurd h he
  · rename_i he
    split at h
    · exact absurd h (by decide)
    · exact ⟨Decidable.byContradiction he, by omega⟩
theorem entsE_canon {s : List UInt8} (h : endE s (entsE s).2.1 (entsE s).2.2 = 0) : treeB (entsE s).1 = s := by
  obtain ⟨h1, h2⟩ := endE_zero h
  have := entsGo_canon (s := s) (s.length + 1) 0 0 [] (Nat.zero_le _) (fun _ => by simp [treeB]) h1
  rw [show entsGo s (s.length + 1) 0 0 [] = entsE s from rfl, List.drop_eq_nil_of_le h2, List.append_nil] at this
  exact this.symm
/-- Entries, read without an error, are read to the end. -/
theorem entsGo_over {s : List UInt8} : ∀ (n a : Nat) (e : Int) (l : List EntL), a ≤ s.length → (e = 0 → s.length < a + n) → (entsGo s n a e l).2.2 = 0 → s.length ≤ (entsGo s n a e l).2.1
  | 0, a, e, l, ha, hf, h => by have := hf h; show s.length ≤ a; omega
  | n + 1, a, e, l, ha, hf, h => by
    by_cases hc : e = 0 ∧ a < s.length
    · rw [entsGo_on hc] at h ⊢
      refine entsGo_over n _ _ _ (entR_le ha).2 (fun h0 => ?_) h
      obtain ⟨rfl, -⟩ := hc
      have := entR_up ha h0
      have := hf rfl
      omega
    · rw [entsGo_end hc] at h ⊢
      have h' : e = 0 := h
      exact Decidable.byContradiction fun hn => hc ⟨h', by have hn' : ¬ s.length ≤ a := hn; omega⟩
theorem endE_ents (s : List UInt8) : (endE s (entsE s).2.1 (entsE s).2.2 = 0) ↔ (entsE s).2.2 = 0 := by
  refine ⟨fun h => (endE_zero h).1, fun h => ?_⟩
  have := entsGo_over (s := s) (s.length + 1) 0 0 [] (Nat.zero_le _) (fun _ => by omega) h
  have h2 : s.length ≤ (entsE s).2.1 := this
  unfold endE
  rw [if_neg (by simp [h]), if_neg (by omega)]
/-! ### Commits -/
theorem idsB_app1 (l : List IdL) (x : IdL) : idsB (l ++ [x]) = idsB l ++ x.l := by unfold idsB; simp
theorem idsGo_canon {s : List UInt8} {a : Nat} (ha : a ≤ s.length) : ∀ n, (idsGo s a 0 n).2.2 = 0 → s.drop a = idsB (idsGo s a 0 n).1 ++ s.drop (idsGo s a 0 n).2.1
  | 0, _ => by simp [idsGo, idsB]
  | n + 1, h => by
    unfold idsGo at h ⊢
    simp only at h ⊢
    have e1 : (idsGo s a 0 n).2.2 = 0 := Decidable.byContradiction fun hn => by rw [idR_e hn] at h; exact hn h
    have ih := idsGo_canon ha n e1
    have hl := idsGo_le (e := 0) ha n
    generalize idsGo s a 0 n = p at *
    obtain ⟨p1, p2, p3⟩ := p
    simp only at e1 ih hl h ⊢
    subst e1
    rw [idsB_app1, List.append_assoc, ← idR_canon hl h]
    exact ih
theorem idsGo_e {s : List UInt8} {a : Nat} {e : Int} (he : e ≠ 0) : ∀ n, (idsGo s a e n).2 = (a, e)
  | 0 => rfl
  | n + 1 => by
    have ih := idsGo_e (s := s) (a := a) he n
    unfold idsGo
    simp only
    rw [ih, idR_e he]
theorem comE_canon {s : List UInt8} (h : endE s (comE s).2.1 (comE s).2.2 = 0) : comB (comE s).1 = s := by
  obtain ⟨h1, h2⟩ := endE_zero h
  have ip := idE_le (s := s) (a := 0) (e := 0) (Nat.zero_le _)
  have np := numR_le (e := (idR s 0 0).2.2) (most := 4) ip.2
  unfold comE at h1 h2 ⊢
  simp only at h1 h2 ⊢
  have e3 : (comP s).2.2 = 0 := Decidable.byContradiction fun hn => by unfold comT at h1; rw [textR_e hn] at h1; exact hn h1
  have e2 : (comN s).2.2 = 0 := Decidable.byContradiction fun hn => by unfold comP at e3; rw [idsGo_e hn] at e3; exact hn e3
  have e1 : (idR s 0 0).2.2 = 0 := Decidable.byContradiction fun hn => by unfold comN at e2; rw [numR_e hn] at e2; exact hn e2
  have d1 := idR_canon (Nat.zero_le _) e1
  rw [e1] at np
  have hcN : comN s = numR s (idR s 0 0).2.1 0 4 := by unfold comN; rw [e1]
  rw [hcN] at e2
  obtain ⟨n, hn, hb, -, d2⟩ := numR_canon e2
  have hcP : comP s = idsGo s (comN s).2.1 0 n := by unfold comP; rw [hcN, e2, hn, Int.toNat_natCast]
  have hp : (comN s).2.1 ≤ s.length := by rw [hcN]; exact np.2
  rw [hcP] at e3
  have d3 := idsGo_canon hp n e3
  have hpl : (comP s).1.length = n := by rw [hcP, idsGo_len]
  have hcT : comT s = textR s (comP s).2.1 0 64 := by unfold comT; rw [hcP, e3]
  have hle : (comP s).2.1 ≤ s.length := by rw [hcP]; exact idsGo_le hp n
  rw [hcT] at h1
  obtain ⟨-, d4⟩ := textR_canon hle h1
  rw [← hcT] at d4
  rw [← hcP] at d3
  rw [← hcN] at d2
  unfold comB comHd
  simp only
  rw [hpl, clampN_idE hb]
  rw [List.drop_eq_nil_of_le h2, List.append_nil] at d4
  rw [List.append_assoc, List.append_assoc, ← d4, ← d3, ← d2, ← d1]
  rfl
/-- The program's answer and the law's. -/
theorem RdOk_right (k : Int) (t : List UInt8) : RdOk k t = rightL k t := by
  unfold RdOk rightL
  by_cases h4 : 4096 < t.length
  · rw [if_neg (by omega), if_pos h4]
  · rw [if_neg h4]
    by_cases h2 : k = 2
    · subst h2
      rw [if_pos (by omega), if_neg (by decide), if_pos rfl, if_pos rfl]
      unfold readE
      by_cases hz : endE t (entsE t).2.1 (entsE t).2.2 = 0
      · have := entsE_canon hz
        have h1 := (endE_ents t).1 hz
        rw [hz]
        cases ho : entsOk (entsE t).1
        · rw [if_neg (fun h => by cases h.2.1)]; rfl
        · rw [if_pos ⟨h1, rfl, this⟩]; rfl
      · have h' : ¬ (entsE t).2.2 = 0 := fun h => hz ((endE_ents t).2 h)
        simp [hz, h']
    · by_cases h3 : k = 3
      · subst h3
        rw [if_pos (by omega), if_neg (by decide), if_neg (by decide), if_neg (by decide), if_pos rfl]
        unfold readC
        by_cases hz : endE t (comE t).2.1 (comE t).2.2 = 0
        · have := comE_canon hz
          cases ho : comOk (comE t).1 <;> simp [hz, this]
        · simp [hz]
      · rw [if_neg h2, if_neg h3]
        by_cases h1 : k = 1
        · subst h1
          rw [if_pos (by omega)]; rfl
        · rw [if_neg (by omega)]
          simp [h1, h2]
/-! ### What was written is read -/
theorem numGo_numLE (most : Int) (r : List UInt8) : ∀ (n k acc : Nat), (0 < k → 0 < n) → k + (numL n).length ≤ 6 → acc + n * 128 ^ k ≤ 1099511627775 → ((acc + n * 128 ^ k : Nat) : Int) ≤ most →
    numGo most (numL n ++ r) k acc = .ok (acc + n * 128 ^ k, k + (numL n).length) := by
  intro n
  induction n using Nat.strongRecOn with
  | ind n ih =>
    intro k acc hk hl hs hm
    by_cases h : n < 128
    · rw [numL_small h, List.cons_append, List.nil_append, numGo]
      have hc : (UInt8.ofNat n).toNat = n := by rw [UInt8.toNat_ofNat']; omega
      rw [hc, Nat.mod_eq_of_lt h, if_neg (by omega), if_neg (by omega), if_pos ⟨hs, hm⟩]
      rfl
    · have hb := numL_big h
      rw [hb] at hl ⊢
      rw [List.cons_append, numGo]
      have hc : (UInt8.ofNat (n % 128 + 128)).toNat = n % 128 + 128 := by rw [UInt8.toNat_ofNat']; omega
      have hp := numL_posE (n / 128)
      rw [List.length_cons] at hl
      have e : acc + (n % 128 + 128) % 128 * 128 ^ k + n / 128 * 128 ^ (k + 1) = acc + n * 128 ^ k := by
        have h1 : (n % 128 + 128) % 128 = n % 128 := by omega
        rw [h1, Nat.pow_succ, Nat.add_assoc]
        congr 1
        have h2 : n / 128 * (128 ^ k * 128) = (n / 128 * 128) * 128 ^ k := by rw [Nat.mul_comm (128 ^ k), Nat.mul_assoc]
        rw [h2, ← Nat.add_mul]
        congr 1
        omega
      rw [hc, if_pos (by omega), if_neg (by omega), ih (n / 128) (by omega) (k + 1) _ (fun _ => by omega) (by omega) (by rw [e]; exact hs) (by rw [e]; exact hm), e, List.length_cons]
      congr 2
      omega
theorem numR_appE (A r : List UInt8) (n : Nat) (most : Int) (hn : n ≤ 1099511627775) (hm : (n : Int) ≤ most) : numR (A ++ (numL n ++ r)) A.length 0 most = ((n : Int), A.length + (numL n).length, 0) := by
  have hl := numL_len_lt 6 n (by omega) (by omega)
  have h := numGo_numLE most r n 0 0 (fun h => absurd h (Nat.lt_irrefl 0)) (by omega) (by simpa using hn) (by simpa using hm)
  simp only [Nat.pow_zero, Nat.mul_one, Nat.zero_add] at h
  exact numR_ok rfl (by rw [List.drop_left]; exact h)
theorem rawR_appE (A x r : List UInt8) : rawR (A ++ (x ++ r)) A.length 0 (x.length : Int) = (x, A.length + x.length, 0) := by
  unfold rawR
  rw [if_neg (by simp), if_neg (by omega), if_neg (by simp only [List.length_append]; omega), List.drop_left, Int.toNat_natCast, List.take_left]
theorem textR_appE (A t r : List UInt8) (most : Int) (hn : t.length ≤ 1099511627775) (hm : (t.length : Int) ≤ most) : textR (A ++ (textL t ++ r)) A.length 0 most = (t, A.length + (textL t).length, 0) := by
  have h1 := numR_appE A (t ++ r) t.length most hn hm
  have h2 := rawR_appE (A ++ numL t.length) t r
  unfold textR textL
  rw [clampN_idE (by omega)]
  rw [List.append_assoc, h1]
  simp only
  rw [List.append_assoc, List.length_append] at h2
  rw [h2]
  simp only [ne_eq, not_true_eq_false, ↓reduceIte, List.length_append, Nat.add_assoc]
theorem idR_appE (A r : List UInt8) (i : IdL) : idR (A ++ (i.l ++ r)) A.length 0 = (i.l, A.length + 32, 0) := by
  have h := rawR_appE A i.l r
  have hi := i.h
  rw [hi] at h
  unfold idR
  rw [show (32 : Int) = ((32 : Nat) : Int) from rfl, h]
  simp only [hi, ↓reduceIte]
theorem mkIdE_l (i : IdL) : mkIdE i.l = i := by unfold mkIdE; rw [dif_pos i.h]
theorem entR_appE (A r : List UInt8) (x : EntL) (hk : 0 ≤ x.kind ∧ x.kind ≤ 2) (hn : x.name.length ≤ 32) : entR (A ++ (entB x ++ r)) A.length 0 = (x, A.length + (entB x).length, 0) := by
  obtain ⟨nm, kd, id⟩ := x
  simp only at hk hn
  obtain ⟨k, rfl⟩ := Int.eq_ofNat_of_zero_le hk.1
  have h1 := numR_appE A (textL nm ++ (id.l ++ r)) k 2 (by omega) hk.2
  have h2 := textR_appE (A ++ numL k) nm (id.l ++ r) 32 (by omega) (by omega)
  have h3 := idR_appE (A ++ numL k ++ textL nm) r id
  unfold entR entB
  simp only
  rw [clampN_idE (by omega)]
  simp only [List.append_assoc, List.length_append] at h1 h2 h3 ⊢
  rw [h1]
  simp only
  rw [h2]
  simp only [Nat.add_assoc] at h3 ⊢
  rw [h3]
  simp only [mkIdE_l, id.h, Nat.add_assoc]
def EntsShort (l : List EntL) : Prop := ∀ x, x ∈ l → 0 ≤ x.kind ∧ x.kind ≤ 2 ∧ x.name.length ≤ 32
theorem entB_pos (x : EntL) : 0 < (entB x).length := by
  unfold entB
  simp only [List.length_append]
  have := x.id.h
  omega
theorem treeB_cons (x : EntL) (l : List EntL) : treeB (x :: l) = entB x ++ treeB l := by unfold treeB; simp
theorem entsGo_app : ∀ (l A : List EntL) (n : Nat), EntsShort l → (treeB l).length < n → entsGo (treeB A ++ treeB l) n (treeB A).length 0 A = (A ++ l, (treeB A ++ treeB l).length, 0)
  | [], A, n, _, hn => by
    rw [entsGo_end (fun h => by have := h.2; simp [treeB] at this)]
    simp [treeB]
  | x :: l, A, n, hs, hn => by
    obtain ⟨m, rfl⟩ : ∃ m, n = m + 1 := ⟨n - 1, by omega⟩
    have hx := hs x List.mem_cons_self
    have hp := entB_pos x
    rw [treeB_cons] at hn ⊢
    rw [List.length_append] at hn
    rw [entsGo_on ⟨rfl, by simp only [List.length_append]; omega⟩, entR_appE _ _ _ ⟨hx.1, hx.2.1⟩ hx.2.2]
    simp only
    have ih := entsGo_app l (A ++ [x]) m (fun y hy => hs y (List.mem_cons_of_mem _ hy)) (by omega)
    rw [treeB_app1, List.append_assoc, List.length_append, List.append_assoc] at ih
    exact ih
theorem entsE_treeB {l : List EntL} (h : EntsShort l) : entsE (treeB l) = (l, (treeB l).length, 0) := by
  have h1 := entsGo_app l [] ((treeB l).length + 1) h (by omega)
  rw [show treeB [] = [] from rfl, List.nil_append, List.nil_append, List.length_nil] at h1
  exact h1
theorem entsOk_short {l : List EntL} (h : entsOk l = true) : l.length ≤ 32 ∧ ∀ x, x ∈ l → (x.kind = 1 ∨ x.kind = 2) ∧ x.name.length ≤ 32 := by
  unfold entsOk at h
  simp only [Bool.and_eq_true, decide_eq_true_eq, List.all_eq_true, List.mem_range] at h
  refine ⟨h.1, fun x hx => ?_⟩
  obtain ⟨i, hi, rfl⟩ := List.getElem_of_mem hx
  have h2 := h.2 i hi
  unfold entOk nameV at h2
  rw [List.getD_eq_getElem?_getD, List.getElem?_eq_getElem hi, Option.getD_some] at h2
  simp only [Bool.and_eq_true, Bool.or_eq_true, decide_eq_true_eq, beq_iff_eq] at h2
  exact ⟨h2.1.2, h2.1.1.1.2⟩
theorem numL_len1 {n : Nat} (h : n < 128) : (numL n).length = 1 := by rw [numL_small h]; rfl
theorem treeB_small : ∀ {l : List EntL}, (∀ x, x ∈ l → (x.kind = 1 ∨ x.kind = 2) ∧ x.name.length ≤ 32) → (treeB l).length ≤ l.length * 66
  | [], _ => by simp [treeB]
  | x :: l, h => by
    have ih := treeB_small (l := l) fun y hy => h y (List.mem_cons_of_mem _ hy)
    have hx := h x List.mem_cons_self
    have h1 : (numL (clampN x.kind)).length = 1 := by
      rcases hx.1 with e | e <;> rw [e] <;> exact numL_len1 (by decide)
    have h2 : (textL x.name).length ≤ 33 := by
      unfold textL
      rw [clampN_idE (by omega), List.length_append, numL_len1 (by omega)]
      omega
    have h3 := x.id.h
    rw [treeB_cons, List.length_append, List.length_cons]
    unfold entB
    simp only [List.length_append]
    omega
theorem RdOk_tree {l : List EntL} (h : entsOk l = true) : RdOk 2 (treeB l) = true := by
  have hs := entsOk_short h
  have hl := treeB_small hs.2
  have he : entsE (treeB l) = (l, (treeB l).length, 0) := entsE_treeB fun x hx => by
    have := hs.2 x hx
    omega
  unfold RdOk
  rw [if_pos (by omega), if_neg (by decide), if_pos rfl, he]
  simp only [endE, h]
  simp
end Go.Proofs
end


section
open Go Go.Proofs Go.Sx Go.StP
namespace Go.Proofs
set_option maxRecDepth 10000
set_option maxHeartbeats 400000
set_option linter.unusedSimpArgs false
/-! ### Children -/
structure ChildL where
  id : IdL
  kind : Int
def chdC (r : ChildL) : List Value := r.id.l.map v8 ++ ([vi r.kind])
def chd0 : ChildL := ⟨id0, 0⟩
theorem chdC_len (r : ChildL) : (chdC r).length = 33 := by simp [chdC, r.id.h]
theorem cells_chd (r : ChildL) : Value.cells (.agg (chdC r).toArray) = (chdC r).toArray := cells_agg _
theorem chdC_one (r : ChildL) : (chdC r).all Value.oneCell' = true := by
  unfold chdC
  simp only [List.all_append, List.all_cons, List.all_nil, all_v8, Bool.and_true, Bool.true_and]
  rfl
theorem zrChd : zeroV Tryd.prog 110 = some (.agg (chdC chd0).toArray) := id (by kernel_rfl)
theorem aggChd : aggT Tryd.prog 110 = some (true, 33) := id (by kernel_rfl)
theorem chd_at0 (r : ChildL) : chdC r = ([] : List Value) ++ ((r.id.l.map v8) ++ ([vi r.kind])) := by
  unfold chdC; simp only [List.append_assoc, List.nil_append, List.append_nil]
theorem chd_p0 (r : ChildL) : partV (true, 32) (chdC r).toArray 0 = some (Value.agg (a8 r.id.l)) := by
  rw [chd_at0, part_agg _ _ _ (by simp) (by simp [r.id.h])]; rfl
theorem load_chd0 (r : ChildL) (E : TypeId) (fz : Nat × Nat) : loadV (some (true, 32)) (some (.cells (chdC r).toArray E fz)) 0 = some (Value.agg (a8 r.id.l)) := by
  rw [chd_at0, load_agg _ _ _ E fz (by simp) (by simp [r.id.h])]; rfl
theorem chd_at1 (r : ChildL) : chdC r = ((r.id.l.map v8)) ++ (([vi r.kind]) ++ (([] : List Value))) := by
  unfold chdC; simp only [List.append_assoc, List.nil_append, List.append_nil]
theorem chd_p1 (r : ChildL) : partV (false, 1) (chdC r).toArray 32 = some (vi r.kind) := by
  rw [chd_at1]; exact part_one _ _ _ (by simp [r.id.h])
theorem load_chd1 (r : ChildL) (n : Nat) (E : TypeId) (fz : Nat × Nat) : loadV (some (false, n)) (some (.cells (chdC r).toArray E fz)) 32 = some (vi r.kind) := by
  rw [chd_at1]; exact load_one _ _ _ n E fz (by simp [r.id.h])
theorem load_chd (r : ChildL) (E : TypeId) (fz : Nat × Nat) : loadV (some (true, 33)) (some (.cells (chdC r).toArray E fz)) 0 = some (.agg (chdC r).toArray) := load_all _ E fz 33 (by rw [List.size_toArray, chdC_len])
theorem store_chd (old : Array Value) (r : ChildL) (a : Bool) (E : TypeId) (h : old.size = 33) : storeV (some (a, 33)) (some (.cells old E (0, 0))) 0 (.agg (chdC r).toArray) = some (.cells (chdC r).toArray E (0, 0)) := store_whole _ a old E (chdC_len r) (chdC_one r) h
theorem store_chdr (r r' : ChildL) (a : Bool) (E : TypeId) : storeV (some (a, 33)) (some (.cells (chdC r').toArray E (0, 0))) 0 (.agg (chdC r).toArray) = some (.cells (chdC r).toArray E (0, 0)) := store_chd _ r a E (by rw [List.size_toArray, chdC_len])
theorem row_chd {w : World} {v : Value} {l : List ChildL} {b off : Nat} {arr : Array Value} {E : TypeId} {fz : Nat × Nat} (h : RowS 33 chdC chd0 w v l b off arr E fz) {k : Nat} (hk : k < l.length) : loadV (some (true, 33)) (some (.cells arr E fz)) (off + k * 33) = some (.agg (chdC (l.getD k chd0)).toArray) := RowS.load h chdC_len (by omega) hk
theorem stoodChd : Tryd.prog.stoodInHeld 110 = false := by kernel_rfl
theorem guardChd : Tryd.prog.eqGuardType Tryd.prog.depth 110 = false := by kernel_rfl
theorem eqDChd (r r' : ChildL) : eqD Tryd.prog 8 110 (.agg (chdC r).toArray) (.agg (chdC r').toArray) = some ((r.id.l == r'.id.l) && (r.kind == r'.kind)) := by
  have hd : ∀ (a b : IdL), eqD Tryd.prog 7 40 (.agg (a8 a.l)) (.agg (a8 b.l)) = some (a.l == b.l) := fun a b => eqD_a8 (d := 5) Tryd.underlying40 Tryd.underlying5 Tryd.ag5 _ _ a.h b.h
  have hi : ∀ (a b : Int), eqD Tryd.prog 7 3 (vi a) (vi b) = some (a == b) := by
    intro a b; unfold eqD; rw [Tryd.underlying3]; rfl
  have agd : aggT Tryd.prog 40 = some (true, 32) := id (by kernel_rfl)
  have agi : aggT Tryd.prog 3 = some (false, 1) := id (by kernel_rfl)
  unfold eqD
  rw [Tryd.underlying110]
  simp only
  rw [stoodChd]
  simp only [Bool.false_eq_true, ↓reduceIte, eqFieldsV, eqPartV, agd, agi, chd_p0, chd_p1, hd, hi]
  cases (r.id.l == r'.id.l) <;> cases (r.kind == r'.kind) <;> simp
theorem eqChd (r r' : ChildL) : binX Tryd.prog .eql 110 (.agg (chdC r).toArray) (.agg (chdC r').toArray) = some (.bool ((r.id.l == r'.id.l) && (r.kind == r'.kind))) := by
  unfold binX eqX; rw [guardChd]; simp [plainV, eqDChd]
theorem neChd (r r' : ChildL) : binX Tryd.prog .neq 110 (.agg (chdC r).toArray) (.agg (chdC r').toArray) = some (.bool (!((r.id.l == r'.id.l) && (r.kind == r'.kind)))) := by
  unfold binX eqX; rw [guardChd]; simp [plainV, eqDChd]
theorem build_chd (r : ChildL) : buildV (plcT Tryd.prog 110) (zeroV Tryd.prog 110) [(0, Value.agg (a8 r.id.l)), (1, vi r.kind)] = some (.agg (chdC r).toArray) := by
  have hp : plcT Tryd.prog 110 = some [(0, 32), (32, 1)] := id (by kernel_rfl)
  rw [hp, zrChd]
  have e0 : (chdC chd0).toArray = (([] : List Value) ++ ((chd0.id.l.map v8) ++ ([vi chd0.kind]))).toArray := by congr 1 <;> simp only [chdC, List.append_assoc, List.nil_append, List.append_nil]
  have q0 : putC (([] : List Value) ++ ((chd0.id.l.map v8) ++ ([vi chd0.kind]))).toArray 0 (r.id.l.map v8) = (([] : List Value) ++ ((r.id.l.map v8) ++ ([vi chd0.kind]))).toArray := put_mid _ _ _ _ (by simp) (by simp [chd0.id.h, r.id.h])
  have s0 : (([] : List Value) ++ ((chd0.id.l.map v8) ++ ([vi chd0.kind]))).toArray.size = 33 := by simp [r.id.h, chd0.id.h]
  have z0 : (Value.cells (Value.agg (a8 r.id.l))).toList = r.id.l.map v8 := by rw [cells_agg]; rfl
  have y0 : (Value.cells (Value.agg (a8 r.id.l))).size = 32 := by rw [← Array.length_toList, z0]; simp [r.id.h]
  have e1 : (([] : List Value) ++ ((r.id.l.map v8) ++ ([vi chd0.kind]))).toArray = (((r.id.l.map v8)) ++ (([vi chd0.kind]) ++ (([] : List Value)))).toArray := by congr 1 <;> simp only [chdC, List.append_assoc, List.nil_append, List.append_nil]
  have q1 : putC (((r.id.l.map v8)) ++ (([vi chd0.kind]) ++ (([] : List Value)))).toArray 32 ([vi r.kind]) = (((r.id.l.map v8)) ++ (([vi r.kind]) ++ (([] : List Value)))).toArray := put_mid _ _ _ _ (by simp [r.id.h]) (rfl)
  have s1 : (((r.id.l.map v8)) ++ (([vi chd0.kind]) ++ (([] : List Value)))).toArray.size = 33 := by simp [r.id.h, chd0.id.h]
  have z1 : (Value.cells (vi r.kind)).toList = [vi r.kind] := by rfl
  have y1 : (Value.cells (vi r.kind)).size = 1 := by rw [← Array.length_toList, z1]; simp
  have e2 : (((r.id.l.map v8)) ++ (([vi r.kind]) ++ (([] : List Value)))).toArray = (chdC r).toArray := by congr 1 <;> simp only [chdC, List.append_assoc, List.nil_append, List.append_nil]
  simp only [buildV]
  rw [e0]
  unfold fillV
  simp only [List.getElem?_cons_zero, List.getElem?_cons_succ, z0, y0]
  rw [if_pos ⟨trivial, by rw [s0]; decide⟩, q0]
  rw [e1]
  unfold fillV
  simp only [List.getElem?_cons_zero, List.getElem?_cons_succ, z1, y1]
  rw [if_pos ⟨trivial, by rw [s1]; decide⟩, q1]
  rw [e2]; rfl
abbrev ChdS (w : World) (v : Value) (l : List ChildL) : Prop := SlV 33 chdC chd0 w v l
def chOfE (e : EntL) : ChildL := ⟨e.id, e.kind⟩
def chOfP (i : IdL) : ChildL := ⟨i, 3⟩
/-- What an object names. -/
def childL (k : Int) (t : List UInt8) : List ChildL :=
  if RdOk k t then (if k = 2 then (entsE t).1.map chOfE else if k = 3 then ⟨(comE t).1.tree, 2⟩ :: (comE t).1.par.map chOfP else []) else []
theorem Gr.rows {α : Type} {L : Heap} {E : TypeId} {m : Nat} {v : Value} {enc : α → List Value} {l : List α} (h : Gr L E m v l.length (l.map enc).flatten) (h0 : 0 < l.length) : ∃ b c rest, v = vsl b 0 l.length c ∧ Sx.look L b = some (rowO enc E rest l) := by
  rcases h with h | ⟨h, -⟩
  · rcases h.inv with ⟨-, h, -⟩ | ⟨b, c, rest, hv, hl, -⟩
    · omega
    · exact ⟨b, c, rest, hv, hl⟩
  · omega
abbrev idRO (rest : List Value) (l : List IdL) : Obj := rowO idLC 40 rest l
theorem load_idRO {rest : List Value} {l : List IdL} (k : Nat) (hk : k < l.length) : loadV (some (true, 32)) (some (idRO rest l)) (k * 32) = some (.agg (a8 (l.getD k id0).l)) := by
  have := load_row (z := id0) (E := 40) (rest := rest) (idLC_len') k hk
  rw [this, ← idLC_a8]
/-- All blocks of a chunk are younger than those of another, and than b. -/
def SepK (b : Nat) (D E : Heap) : Prop := ∀ c, c ∈ keys E → b < c ∧ ∀ d, d ∈ keys D → d < c
theorem SepK.nil {b : Nat} {D : Heap} : SepK b D [] := fun c hc => by cases hc
theorem SepK.cons {b c : Nat} {o : Obj} {D E : Heap} (h : SepK b D E) (h1 : b < c) (h2 : ∀ d, d ∈ keys D → d < c) : SepK b D ((c, o) :: E) := fun x hx => by
  simp only [keys, List.map_cons, List.mem_cons] at hx
  rcases hx with rfl | hx
  · exact ⟨h1, h2⟩
  · exact h x hx
theorem SepK.app {b : Nat} {D E F : Heap} (h : SepK b D E) (h2 : SepK b D F) : SepK b D (E ++ F) := fun x hx => by
  rw [keys_app, List.mem_append] at hx
  rcases hx with hx | hx
  · exact h x hx
  · exact h2 x hx
theorem SepK.grow {b B : Nat} {D E F : Heap} (h : SepK b D E) (hk : ∀ c, c ∈ keys F → c ∈ keys E ∨ B ≤ c) (h1 : b < B) (h2 : ∀ d, d ∈ keys D → d < B) : SepK b D F := fun x hx => by
  rcases hk x hx with h' | h'
  · exact h x h'
  · exact ⟨by omega, fun d hd => by have := h2 d hd; omega⟩
theorem SepK.look {b : Nat} {D E : Heap} {c : Nat} {o x : Obj} (h : SepK b D E) (hl : Sx.look E c = some o) : Sx.look ((b, x) :: (D ++ E)) c = some o := by
  have := h c (key_of_look hl)
  rw [look_other _ _ _ _ (by omega), look_app_r (fun hm => by have := this.2 c hm; omega)]
  exact hl
theorem load_ro2i (r v : Value) (t : IdL) (p : Value) (y : List UInt8) (E : TypeId) (fz : Nat × Nat) : loadV (some (true, 32)) (some (.cells (roC r v t p y).toArray E fz)) 2 = some (.agg (a8 t.l)) := by
  have e : roC r v t p y = [r, v] ++ (t.l.map v8 ++ ([p] ++ [vs y])) := by unfold roC comC; simp
  rw [e]; exact load_agg [r, v] _ _ E fz rfl (by simp [t.h])
structure ChG where
  g : Nat
  v : Value
  D : Heap
theorem map_take_succ {α β : Type} (f : α → β) (z : α) {l : List α} {k : Nat} (hk : k < l.length) : (l.take (k + 1)).map f = (l.take k).map f ++ [f (l.getD k z)] := by
  rw [List.take_succ_eq_append_getElem hk, List.map_append, List.getD_eq_getElem?_getD, List.getElem?_eq_getElem hk]; rfl
theorem Gr.snoc {α : Type} {L : Heap} {E : TypeId} {m n : Nat} {v : Value} {enc : α → List Value} {l : List α} {x : α} (hn : n = l.length) (h : Buf L E m v (n + 1) ((l.map enc).flatten ++ enc x)) : Gr L E m v (l ++ [x]).length ((l ++ [x]).map enc).flatten := by
  subst hn
  rw [List.length_append, List.map_append, List.flatten_append, show ([x].map enc).flatten = enc x by simp]
  exact .inl h
set_option linter.defProp false
def uPJ_1 := And.intro (And.intro (And.intro (And.intro (@load_ob) (@load_ob0)) (And.intro (@load_ob1) (And.intro (@store_ob) (@Sx.tup2_0)))) (And.intro (And.intro (@Sx.tup2_1) (@load_ro0)) (And.intro (@load_ro1) (And.intro (@load_ro2) (@load_ro2i))))) (And.intro (And.intro (And.intro (@load_ro34) (@load_ent0)) (And.intro (@load_ent1) (And.intro (@load_ent2) (@load_ent)))) (And.intro (And.intro (@store_entr) (@cells_ent)) (And.intro (@load_idb) (And.intro (@rdIn_v8) (@rdIn_vi)))))
theorem ChildrenO_spec (k : Int) (t : List UInt8) (w : World) : Rets Tryd.prog 20 #[obV k t] w (XS w [] (fun v D => Gr D 110 33 v (childL k t).length ((childL k t).map chdC).flatten)) := by
  refine Rets.enterX Tryd.func20 rfl (rs := [.tmp 2]) Tryd.results20 Tryd.ntmps20 (fun p hp => by cases hp) (by simp [keys]) ?_
  simp only [List.size_toArray, List.length_cons, List.length_nil, Nat.reduceAdd, Nat.reduceSub, List.replicate_succ, List.replicate_zero, List.cons_append, List.nil_append]
  ((try with_reducible refine Cw.go [] ?_); (try simp (disch := (first | assumption | omega | (simp only [lenS, lenT, UInt64.reduceToNat]; try omega))) only [↓Sx.S0, Sx.S1, Tryd.fx, uPJ_1, Nat.reduceAdd, Nat.reducePow, Int.reducePow, Nat.reduceBEq, ↓reduceIte, UInt8.reduceToNat, UInt16.reduceToNat, UInt32.reduceToNat, UInt64.reduceToNat, Int.reduceToNat]))
  refine Ow.box rfl rfl fun b1 hb1 hw1 => ?_
  simp only [ev_tmp, getF_0, getF_s, cells_agg, List.nil_append]
  refine Ow.go rfl ?_
  simp (disch := (first | assumption | omega | (simp only [lenS, lenT, UInt64.reduceToNat]; try omega))) only [↓Sx.S0, Sx.S1, Tryd.fx, uPJ_1, Nat.reduceAdd, Nat.reducePow, Int.reducePow, Nat.reduceBEq, ↓reduceIte, UInt8.reduceToNat, UInt16.reduceToNat, UInt32.reduceToNat, UInt64.reduceToNat, Int.reduceToNat]
  refine Ow.callC rfl rfl Tryd.call64 (fun w' hw' => readO_spec k t w') (fun B v D hA hB hN hS => ?_)
  obtain ⟨p, rfl, hS⟩ := hS
  obtain ⟨h1B, -⟩ := hA
  have hNe : New w.heap.size ((b1, Obj.cells #[vi k, vs t] 45 (0, 0)) :: D) := ⟨hw1, New.mono hB hN⟩
  cases hr : RdOk k t
  · refine Ow.go rfl ?_
    simp (disch := (first | assumption | omega | (simp only [lenS, lenT, UInt64.reduceToNat]; try omega))) only [↓Sx.S0, Sx.S1, Tryd.fx, uPJ_1, Nat.reduceAdd, Nat.reducePow, Int.reducePow, Nat.reduceBEq, ↓reduceIte, UInt8.reduceToNat, UInt16.reduceToNat, UInt32.reduceToNat, UInt64.reduceToNat, Int.reduceToNat]
    ((try with_reducible refine Cw.go [] ?_); (try simp (disch := (first | assumption | omega | (simp only [lenS, lenT, UInt64.reduceToNat]; try omega))) only [↓Sx.S0, Sx.S1, Tryd.fx, uPJ_1, Nat.reduceAdd, Nat.reducePow, Int.reducePow, Nat.reduceBEq, ↓reduceIte, UInt8.reduceToNat, UInt16.reduceToNat, UInt32.reduceToNat, UInt64.reduceToNat, Int.reduceToNat]))
    refine ⟨_, (by simp (disch := (first | assumption | omega | (simp only [lenS, lenT, UInt64.reduceToNat]; try omega))) only [↓Sx.S0, Sx.S1, Tryd.fx, uPJ_1, Nat.reduceAdd, Nat.reducePow, Int.reducePow, Nat.reduceBEq, ↓reduceIte, UInt8.reduceToNat, UInt16.reduceToNat, UInt32.reduceToNat, UInt64.reduceToNat, Int.reduceToNat]; rfl), ?_⟩
    refine ⟨Ext.of_new hNe, ?_⟩
    unfold childL
    rw [hr]
    exact Gr.nl
  · obtain ⟨bo, bw, v1, c1, x1, y1, rfl, hlk, hg2, hg3, hgn⟩ := hS (RdOk_in hr)
    have hob := hN.le bo (key_of_look hlk)
    have hob1 : b1 ≠ bo := by omega
    obtain ⟨l, hG1, hl2, hln, hl32⟩ : ∃ l : List EntL, Gr D 108 34 v1 l.length (l.map entC).flatten ∧ (k = 2 → l = (entsE t).1) ∧ (k ≠ 2 → l = []) ∧ l.length ≤ 32 := by
      by_cases h2 : k = 2
      · refine ⟨(entsE t).1, hg2 h2, fun _ => rfl, fun h => absurd h2 h, ?_⟩
        subst h2
        have := hr
        unfold RdOk at this
        rw [if_pos (RdOk_in hr), if_neg (by decide), if_pos rfl] at this
        simp only [Bool.and_eq_true] at this
        exact (entsOk_short this.2).1
      · exact ⟨[], by rw [hgn h2]; exact Gr.nl, fun h => absurd h h2, fun _ => rfl, Nat.zero_le _⟩
    have ln1 := hG1.len
    have rdo : ∀ M, readB w (D ++ M) bo = some (.cells (roC (vp bw 0) v1 c1 x1 y1).toArray 117 (0, 0)) := fun M => read_look (look_app hlk)
    have rdo0 : readB w D bo = some (.cells (roC (vp bw 0) v1 c1 x1 y1).toArray 117 (0, 0)) := read_look hlk
    refine Ow.go rfl ?_
    simp (disch := (first | assumption | omega | (simp only [lenS, lenT, UInt64.reduceToNat]; try omega))) only [↓Sx.S0, Sx.S1, Tryd.fx, uPJ_1, Nat.reduceAdd, Nat.reducePow, Int.reducePow, Nat.reduceBEq, ↓reduceIte, UInt8.reduceToNat, UInt16.reduceToNat, UInt32.reduceToNat, UInt64.reduceToNat, Int.reduceToNat]
    ((try with_reducible refine Cw.go [] ?_); (try simp (disch := (first | assumption | omega | (simp only [lenS, lenT, UInt64.reduceToNat]; try omega))) only [↓Sx.S0, Sx.S1, Tryd.fx, uPJ_1, Nat.reduceAdd, Nat.reducePow, Int.reducePow, Nat.reduceBEq, ↓reduceIte, UInt8.reduceToNat, UInt16.reduceToNat, UInt32.reduceToNat, UInt64.reduceToNat, Int.reduceToNat, rdo0, ln1]))
    refine Cw.permL (M := (b1, Obj.cells #[vi k, vs t] 45 (0, 0)) :: (D ++ [])) (by rw [List.append_nil]) ?_
    refine Cw.loopG (G := ChG) [23, 24, 25, 7, 26, 27, 28, 29, 30, 31, 32, 33, 5, 34, 22] (fun q => [(5, q.v), (22, vi q.g)]) (fun q => (b1, Obj.cells #[vi k, vs t] 45 (0, 0)) :: (D ++ q.D)) (fun q => q.g ≤ l.length ∧ New w.heap.size q.D ∧ SepK b1 D q.D ∧ Gr q.D 110 33 q.v ((l.take q.g).map chOfE).length (((l.take q.g).map chOfE).map chdC).flatten) (fun q => l.length - q.g) ⟨0, .slice none 0 0, []⟩ rfl rfl ?_ ?_
    · exact ⟨Nat.zero_le _, trivial, SepK.nil, Gr.nl⟩
    · intro q jq hq
      simp only [overFrom, pin, setF_0, setF_s, List.contains_cons, List.contains_nil, Nat.reduceBEq, Bool.or_false, Bool.false_or, Bool.or_true, Bool.true_or, Nat.reduceAdd, ↓reduceIte, Bool.false_eq_true]
      obtain ⟨g, v, D2⟩ := q
      simp only at hq ⊢
      obtain ⟨hgl, hN2, hSp, hG⟩ := hq
      by_cases hlt : g < l.length
      · obtain ⟨c, cc, rest, rfl, hlc⟩ := Gr.rows hG1 (by omega)
        have hcb := hN.le c (key_of_look hlc)
        have hc1 : b1 ≠ c := by omega
        have rdc : ∀ M, readB w (D ++ M) c = some (entO rest l) := fun M => read_look (look_app hlc)
        have ldc := load_entR (rest := rest) g hlt
        have hml := map_take_succ chOfE ent0 hlt
        have hmll : ((l.take g).map chOfE).length = g := by rw [List.length_map, List.length_take]; omega
        generalize hx : l.getD g ent0 = x at ldc hml
        ((try with_reducible refine Cw.go [] ?_); (try simp (disch := (first | assumption | omega | (simp only [lenS, lenT, UInt64.reduceToNat]; try omega))) only [↓Sx.S0, Sx.S1, Tryd.fx, uPJ_1, Nat.reduceAdd, Nat.reducePow, Int.reducePow, Nat.reduceBEq, ↓reduceIte, UInt8.reduceToNat, UInt16.reduceToNat, UInt32.reduceToNat, UInt64.reduceToNat, Int.reduceToNat, rdc, ldc]))
        refine Ow.alloc rfl rfl zrEnt fun b7 hb7 hw7 => ?_
        simp only [cells_agg, List.nil_append, List.cons_append]
        have h17 : b1 < b7 := above_to hb7 (by simp [keys])
        refine Ow.permL (M := (b7, Obj.cells (entC ent0).toArray 108 (0, 0)) :: (b1, Obj.cells #[vi k, vs t] 45 (0, 0)) :: (D ++ D2)) (by classical exact List.perm_iff_count.2 fun a => by simp only [List.count_append, List.count_cons, List.count_nil] <;> omega) ?_
        refine Ow.go rfl ?_
        simp (disch := (first | assumption | omega | (simp only [lenS, lenT, UInt64.reduceToNat]; try omega))) only [↓Sx.S0, Sx.S1, Tryd.fx, uPJ_1, Nat.reduceAdd, Nat.reducePow, Int.reducePow, Nat.reduceBEq, ↓reduceIte, UInt8.reduceToNat, UInt16.reduceToNat, UInt32.reduceToNat, UInt64.reduceToNat, Int.reduceToNat]
        ((try with_reducible refine Cw.go [] ?_); (try simp (disch := (first | assumption | omega | (simp only [lenS, lenT, UInt64.reduceToNat]; try omega))) only [↓Sx.S0, Sx.S1, Tryd.fx, uPJ_1, Nat.reduceAdd, Nat.reducePow, Int.reducePow, Nat.reduceBEq, ↓reduceIte, UInt8.reduceToNat, UInt16.reduceToNat, UInt32.reduceToNat, UInt64.reduceToNat, Int.reduceToNat]))
        refine Ow.build (.agg (chdC (chOfE x)).toArray) rfl (build_chd (chOfE x)) ?_
        refine Ow.go rfl ?_
        simp (disch := (first | assumption | omega | (simp only [lenS, lenT, UInt64.reduceToNat]; try omega))) only [↓Sx.S0, Sx.S1, Tryd.fx, uPJ_1, Nat.reduceAdd, Nat.reducePow, Int.reducePow, Nat.reduceBEq, ↓reduceIte, UInt8.reduceToNat, UInt16.reduceToNat, UInt32.reduceToNat, UInt64.reduceToNat, Int.reduceToNat]
        refine Ow.buildSlice (e := 110) (chdC (chOfE x)).toArray rfl rfl (slice_one Tryd.underlying57 aggChd zrChd (by decide) (chdC_len _)) fun b13 hb13 hw13 => ?_
        refine Ow.permL (M := D2 ++ ((b7, Obj.cells (entC x).toArray 108 (0, 0)) :: (b13, Obj.cells (chdC (chOfE x)).toArray 110 (0, 0)) :: (b1, Obj.cells #[vi k, vs t] 45 (0, 0)) :: D)) (by classical exact List.perm_iff_count.2 fun a => by simp only [List.count_append, List.count_cons, List.count_nil] <;> omega) ?_
        refine Ow.go rfl ?_
        simp (disch := (first | assumption | omega | (simp only [lenS, lenT, UInt64.reduceToNat]; try omega))) only [↓Sx.S0, Sx.S1, Tryd.fx, uPJ_1, Nat.reduceAdd, Nat.reducePow, Int.reducePow, Nat.reduceBEq, ↓reduceIte, UInt8.reduceToNat, UInt16.reduceToNat, UInt32.reduceToNat, UInt64.reduceToNat, Int.reduceToNat]
        refine Ow.appendX (e := 110) (k := 1) (new := chdC (chOfE x)) (X := D2) v rfl rfl rfl rfl Tryd.underlying57 aggChd (by kernel_rfl) zrChd (by rw [cells_chd, List.size_toArray, chdC_len]) Tryd.underlying57 (by intro k h; cases h) hG (fun w' hw' => AppX.one1 (hw'.has b13 (.cells (chdC (chOfE x)).toArray 110 (0, 0)) (by simp)) (chdC_len _) (chdC_one _)) (by omega) (by rw [hmll]; omega) (fun B2 v4 D4 hA4 hB4 hbuf hk1 hk2 hlk4 => ?_)
        have hN4 : New w.heap.size D4 := New.of_le fun q hq => by
          rcases hk2 q hq with h | h
          · exact hN2.le q h
          · omega
        have hSp4 : SepK b1 D (D4 ++ [(b7, Obj.cells (entC x).toArray 108 (0, 0)), (b13, Obj.cells (chdC (chOfE x)).toArray 110 (0, 0))]) := by
          refine (hSp.grow hk2 (above_to hA4 (by simp [keys_app, keys])) fun d hd => above_to hA4 (by simp only [keys, List.map_cons, List.map_nil, List.map_append, List.mem_cons, List.mem_append] at hd ⊢; simp [hd])).app ?_
          exact (SepK.nil.cons (above_to hb13 (by simp [keys])) fun d hd => above_to hb13 (by simp only [keys, List.map_cons, List.map_nil, List.map_append, List.mem_cons, List.mem_append] at hd ⊢; simp [hd])).cons h17 fun d hd => above_to hb7 (by simp only [keys, List.map_cons, List.map_nil, List.map_append, List.mem_cons, List.mem_append] at hd ⊢; simp [hd])
        refine Ow.permL (M := (b1, Obj.cells #[vi k, vs t] 45 (0, 0)) :: (D ++ (D4 ++ [(b7, Obj.cells (entC x).toArray 108 (0, 0)), (b13, Obj.cells (chdC (chOfE x)).toArray 110 (0, 0))]))) (by classical exact List.perm_iff_count.2 fun a => by simp only [List.count_append, List.count_cons, List.count_nil] <;> omega) ?_
        refine Ow.go rfl ?_
        simp (disch := (first | assumption | omega | (simp only [lenS, lenT, UInt64.reduceToNat]; try omega))) only [↓Sx.S0, Sx.S1, Tryd.fx, uPJ_1, Nat.reduceAdd, Nat.reducePow, Int.reducePow, Nat.reduceBEq, ↓reduceIte, UInt8.reduceToNat, UInt16.reduceToNat, UInt32.reduceToNat, UInt64.reduceToNat, Int.reduceToNat]
        ((try with_reducible refine Cw.go [] ?_); (try simp (disch := (first | assumption | omega | (simp only [lenS, lenT, UInt64.reduceToNat]; try omega))) only [↓Sx.S0, Sx.S1, Tryd.fx, uPJ_1, Nat.reduceAdd, Nat.reducePow, Int.reducePow, Nat.reduceBEq, ↓reduceIte, UInt8.reduceToNat, UInt16.reduceToNat, UInt32.reduceToNat, UInt64.reduceToNat, Int.reduceToNat]))
        refine Again.mk (ChG.mk (g + 1) v4 (D4 ++ [(b7, Obj.cells (entC x).toArray 108 (0, 0)), (b13, Obj.cells (chdC (chOfE x)).toArray 110 (0, 0))])) (by show l.length - (g + 1) < l.length - g; omega) ⟨by show g + 1 ≤ l.length; omega, hN4.app ⟨hw7, hw13, trivial⟩, hSp4, ?_⟩ rfl rfl
        show Gr _ _ _ _ ((l.take (g + 1)).map chOfE).length (((l.take (g + 1)).map chOfE).map chdC).flatten
        rw [hml]
        exact Gr.app (Gr.snoc rfl hbuf)
      · obtain rfl : g = l.length := by omega
        rw [List.take_length] at hG
        by_cases h3 : k = 3
        · obtain rfl : l = [] := hln (by omega)
          subst h3
          obtain ⟨rfl, rfl, hgp⟩ := hg3 rfl
          have d3 : ((3 : Int) == 3) = true := rfl
          have hpl := comE_par t
          have lnp := hgp.len
          have hcl : childL 3 t = ⟨(comE t).1.tree, 2⟩ :: (comE t).1.par.map chOfP := by
            unfold childL
            rw [hr, if_pos rfl, if_neg (by decide), if_pos rfl]
          have rdo2 := rdo D2
          generalize (comE t).1.par = pl at *
          generalize (comE t).1.tree = T at *
          ((try with_reducible refine Cw.go [] ?_); (try simp (disch := (first | assumption | omega | (simp only [lenS, lenT, UInt64.reduceToNat]; try omega))) only [↓Sx.S0, Sx.S1, Tryd.fx, uPJ_1, Nat.reduceAdd, Nat.reducePow, Int.reducePow, Nat.reduceBEq, ↓reduceIte, UInt8.reduceToNat, UInt16.reduceToNat, UInt32.reduceToNat, UInt64.reduceToNat, Int.reduceToNat, d3, rdo2]))
          have bT := build_chd ⟨T, 2⟩
          refine Ow.build (.agg (chdC ⟨T, 2⟩).toArray) rfl bT ?_
          refine Ow.go rfl ?_
          simp (disch := (first | assumption | omega | (simp only [lenS, lenT, UInt64.reduceToNat]; try omega))) only [↓Sx.S0, Sx.S1, Tryd.fx, uPJ_1, Nat.reduceAdd, Nat.reducePow, Int.reducePow, Nat.reduceBEq, ↓reduceIte, UInt8.reduceToNat, UInt16.reduceToNat, UInt32.reduceToNat, UInt64.reduceToNat, Int.reduceToNat]
          refine Ow.buildSlice (e := 110) (chdC ⟨T, 2⟩).toArray rfl rfl (slice_one Tryd.underlying57 aggChd zrChd (by decide) (chdC_len _)) fun b13 hb13 hw13 => ?_
          refine Ow.permL (M := D2 ++ ((b13, Obj.cells (chdC ⟨T, 2⟩).toArray 110 (0, 0)) :: (b1, Obj.cells #[vi 3, vs t] 45 (0, 0)) :: D)) (by classical exact List.perm_iff_count.2 fun a => by simp only [List.count_append, List.count_cons, List.count_nil] <;> omega) ?_
          refine Ow.go rfl ?_
          simp (disch := (first | assumption | omega | (simp only [lenS, lenT, UInt64.reduceToNat]; try omega))) only [↓Sx.S0, Sx.S1, Tryd.fx, uPJ_1, Nat.reduceAdd, Nat.reducePow, Int.reducePow, Nat.reduceBEq, ↓reduceIte, UInt8.reduceToNat, UInt16.reduceToNat, UInt32.reduceToNat, UInt64.reduceToNat, Int.reduceToNat]
          refine Ow.appendX (e := 110) (k := 1) (new := chdC ⟨T, 2⟩) (X := D2) v rfl rfl rfl rfl Tryd.underlying57 aggChd (by kernel_rfl) zrChd (by rw [cells_chd, List.size_toArray, chdC_len]) Tryd.underlying57 (by intro k h; cases h) hG (fun w' hw' => AppX.one1 (hw'.has b13 (.cells (chdC ⟨T, 2⟩).toArray 110 (0, 0)) (by simp)) (chdC_len _) (chdC_one _)) (by omega) (by simp) (fun B2 v4 D4 hA4 hB4 hbuf hk1 hk2 hlk4 => ?_)
          have hN4 : New w.heap.size D4 := New.of_le fun q hq => by
            rcases hk2 q hq with h | h
            · exact hN2.le q h
            · omega
          have hSp4 : SepK b1 D (D4 ++ [(b13, Obj.cells (chdC ⟨T, 2⟩).toArray 110 (0, 0))]) := by
            refine (hSp.grow hk2 (above_to hA4 (by simp [keys_app, keys])) fun d hd => above_to hA4 (by simp only [keys, List.map_cons, List.map_nil, List.map_append, List.mem_cons, List.mem_append] at hd ⊢; simp [hd])).app ?_
            exact SepK.nil.cons (above_to hb13 (by simp [keys])) fun d hd => above_to hb13 (by simp only [keys, List.map_cons, List.map_nil, List.map_append, List.mem_cons, List.mem_append] at hd ⊢; simp [hd])
          refine Ow.permL (M := (b1, Obj.cells #[vi 3, vs t] 45 (0, 0)) :: (D ++ (D4 ++ [(b13, Obj.cells (chdC ⟨T, 2⟩).toArray 110 (0, 0))]))) (by classical exact List.perm_iff_count.2 fun a => by simp only [List.count_append, List.count_cons, List.count_nil] <;> omega) ?_
          have hG4 : Gr (D4 ++ [(b13, Obj.cells (chdC ⟨T, 2⟩).toArray 110 (0, 0))]) 110 33 v4 (⟨T, 2⟩ :: (pl.take 0).map chOfP : List ChildL).length ((⟨T, 2⟩ :: (pl.take 0).map chOfP : List ChildL).map chdC).flatten := by
            have := Gr.snoc (l := ([] : List ChildL)) (x := ⟨T, 2⟩) rfl (by simpa using hbuf)
            exact this.app
          have hN5 := hN4.app (show New w.heap.size [(b13, Obj.cells (chdC ⟨T, 2⟩).toArray 110 (0, 0))] from ⟨hw13, trivial⟩)
          generalize D4 ++ [(b13, Obj.cells (chdC ⟨T, 2⟩).toArray 110 (0, 0))] = D5 at hSp4 hG4 hN5 ⊢
          have rdo5 := rdo D5
          refine Ow.go rfl ?_
          simp (disch := (first | assumption | omega | (simp only [lenS, lenT, UInt64.reduceToNat]; try omega))) only [↓Sx.S0, Sx.S1, Tryd.fx, uPJ_1, Nat.reduceAdd, Nat.reducePow, Int.reducePow, Nat.reduceBEq, ↓reduceIte, UInt8.reduceToNat, UInt16.reduceToNat, UInt32.reduceToNat, UInt64.reduceToNat, Int.reduceToNat]
          ((try with_reducible refine Cw.go [] ?_); (try simp (disch := (first | assumption | omega | (simp only [lenS, lenT, UInt64.reduceToNat]; try omega))) only [↓Sx.S0, Sx.S1, Tryd.fx, uPJ_1, Nat.reduceAdd, Nat.reducePow, Int.reducePow, Nat.reduceBEq, ↓reduceIte, UInt8.reduceToNat, UInt16.reduceToNat, UInt32.reduceToNat, UInt64.reduceToNat, Int.reduceToNat, rdo5, lnp]))
          refine Cw.loopG (G := ChG) [54, 55, 56, 9, 57, 58, 59, 60, 61, 5, 62, 53] (fun q => [(5, q.v), (53, vi q.g)]) (fun q => (b1, Obj.cells #[vi 3, vs t] 45 (0, 0)) :: (D ++ q.D)) (fun q => q.g ≤ pl.length ∧ New w.heap.size q.D ∧ SepK b1 D q.D ∧ Gr q.D 110 33 q.v (⟨T, 2⟩ :: (pl.take q.g).map chOfP : List ChildL).length ((⟨T, 2⟩ :: (pl.take q.g).map chOfP : List ChildL).map chdC).flatten) (fun q => pl.length - q.g) ⟨0, v4, D5⟩ rfl rfl ?_ ?_
          · exact ⟨Nat.zero_le _, hN5, hSp4, hG4⟩
          · intro q jq hq
            simp only [overFrom, pin, setF_0, setF_s, List.contains_cons, List.contains_nil, Nat.reduceBEq, Bool.or_false, Bool.false_or, Bool.or_true, Bool.true_or, Nat.reduceAdd, ↓reduceIte, Bool.false_eq_true]
            obtain ⟨g, v, D2⟩ := q
            simp only at hq ⊢
            obtain ⟨hgl, hN2, hSp, hG⟩ := hq
            by_cases hlt : g < pl.length
            · obtain ⟨c, cc, rest, rfl, hlc⟩ := Gr.rows hgp (by omega)
              have hcb := hN.le c (key_of_look hlc)
              have hc1 : b1 ≠ c := by omega
              have rdc : ∀ M, readB w (D ++ M) c = some (idRO rest pl) := fun M => read_look (look_app hlc)
              have ldc := load_idRO (rest := rest) g hlt
              have hml := map_take_succ chOfP id0 hlt
              have hmll : ((pl.take g).map chOfP).length = g := by rw [List.length_map, List.length_take]; omega
              generalize hx : pl.getD g id0 = x at ldc hml
              have hxl := x.h
              ((try with_reducible refine Cw.go [] ?_); (try simp (disch := (first | assumption | omega | (simp only [lenS, lenT, UInt64.reduceToNat]; try omega))) only [↓Sx.S0, Sx.S1, Tryd.fx, uPJ_1, Nat.reduceAdd, Nat.reducePow, Int.reducePow, Nat.reduceBEq, ↓reduceIte, UInt8.reduceToNat, UInt16.reduceToNat, UInt32.reduceToNat, UInt64.reduceToNat, Int.reduceToNat, rdc, ldc]))
              refine Ow.alloc rfl rfl zrIdE fun b7 hb7 hw7 => ?_
              simp only [cells_agg, List.nil_append, List.cons_append]
              have h17 : b1 < b7 := above_to hb7 (by simp [keys])
              refine Ow.permL (M := (b7, Obj.cells (a8 id0.l) 40 (0, 0)) :: (b1, Obj.cells #[vi 3, vs t] 45 (0, 0)) :: (D ++ D2)) (by classical exact List.perm_iff_count.2 fun a => by simp only [List.count_append, List.count_cons, List.count_nil] <;> omega) ?_
              have hz0 := id0.h
              refine Ow.go rfl ?_
              simp (disch := (first | assumption | omega | (simp only [lenS, lenT, UInt64.reduceToNat]; try omega))) only [↓Sx.S0, Sx.S1, Tryd.fx, uPJ_1, Nat.reduceAdd, Nat.reducePow, Int.reducePow, Nat.reduceBEq, ↓reduceIte, UInt8.reduceToNat, UInt16.reduceToNat, UInt32.reduceToNat, UInt64.reduceToNat, Int.reduceToNat]
              ((try with_reducible refine Cw.go [] ?_); (try simp (disch := (first | assumption | omega | (simp only [lenS, lenT, UInt64.reduceToNat]; try omega))) only [↓Sx.S0, Sx.S1, Tryd.fx, uPJ_1, Nat.reduceAdd, Nat.reducePow, Int.reducePow, Nat.reduceBEq, ↓reduceIte, UInt8.reduceToNat, UInt16.reduceToNat, UInt32.reduceToNat, UInt64.reduceToNat, Int.reduceToNat]))
              have bX := build_chd (chOfP x)
              refine Ow.build (.agg (chdC (chOfP x)).toArray) rfl bX ?_
              refine Ow.go rfl ?_
              simp (disch := (first | assumption | omega | (simp only [lenS, lenT, UInt64.reduceToNat]; try omega))) only [↓Sx.S0, Sx.S1, Tryd.fx, uPJ_1, Nat.reduceAdd, Nat.reducePow, Int.reducePow, Nat.reduceBEq, ↓reduceIte, UInt8.reduceToNat, UInt16.reduceToNat, UInt32.reduceToNat, UInt64.reduceToNat, Int.reduceToNat]
              refine Ow.buildSlice (e := 110) (chdC (chOfP x)).toArray rfl rfl (slice_one Tryd.underlying57 aggChd zrChd (by decide) (chdC_len _)) fun b13 hb13 hw13 => ?_
              refine Ow.permL (M := D2 ++ ((b7, Obj.cells (a8 x.l) 40 (0, 0)) :: (b13, Obj.cells (chdC (chOfP x)).toArray 110 (0, 0)) :: (b1, Obj.cells #[vi 3, vs t] 45 (0, 0)) :: D)) (by classical exact List.perm_iff_count.2 fun a => by simp only [List.count_append, List.count_cons, List.count_nil] <;> omega) ?_
              refine Ow.go rfl ?_
              simp (disch := (first | assumption | omega | (simp only [lenS, lenT, UInt64.reduceToNat]; try omega))) only [↓Sx.S0, Sx.S1, Tryd.fx, uPJ_1, Nat.reduceAdd, Nat.reducePow, Int.reducePow, Nat.reduceBEq, ↓reduceIte, UInt8.reduceToNat, UInt16.reduceToNat, UInt32.reduceToNat, UInt64.reduceToNat, Int.reduceToNat]
              refine Ow.appendX (e := 110) (k := 1) (new := chdC (chOfP x)) (X := D2) v rfl rfl rfl rfl Tryd.underlying57 aggChd (by kernel_rfl) zrChd (by rw [cells_chd, List.size_toArray, chdC_len]) Tryd.underlying57 (by intro k h; cases h) hG (fun w' hw' => AppX.one1 (hw'.has b13 (.cells (chdC (chOfP x)).toArray 110 (0, 0)) (by simp)) (chdC_len _) (chdC_one _)) (by omega) (by rw [List.length_cons, hmll]; omega) (fun B2 v4 D4 hA4 hB4 hbuf hk1 hk2 hlk4 => ?_)
              have hN4 : New w.heap.size D4 := New.of_le fun q hq => by
                rcases hk2 q hq with h | h
                · exact hN2.le q h
                · omega
              have hSp4 : SepK b1 D (D4 ++ [(b7, Obj.cells (a8 x.l) 40 (0, 0)), (b13, Obj.cells (chdC (chOfP x)).toArray 110 (0, 0))]) := by
                refine (hSp.grow hk2 (above_to hA4 (by simp [keys_app, keys])) fun d hd => above_to hA4 (by simp only [keys, List.map_cons, List.map_nil, List.map_append, List.mem_cons, List.mem_append] at hd ⊢; simp [hd])).app ?_
                exact (SepK.nil.cons (above_to hb13 (by simp [keys])) fun d hd => above_to hb13 (by simp only [keys, List.map_cons, List.map_nil, List.map_append, List.mem_cons, List.mem_append] at hd ⊢; simp [hd])).cons h17 fun d hd => above_to hb7 (by simp only [keys, List.map_cons, List.map_nil, List.map_append, List.mem_cons, List.mem_append] at hd ⊢; simp [hd])
              refine Ow.permL (M := (b1, Obj.cells #[vi 3, vs t] 45 (0, 0)) :: (D ++ (D4 ++ [(b7, Obj.cells (a8 x.l) 40 (0, 0)), (b13, Obj.cells (chdC (chOfP x)).toArray 110 (0, 0))]))) (by classical exact List.perm_iff_count.2 fun a => by simp only [List.count_append, List.count_cons, List.count_nil] <;> omega) ?_
              refine Ow.go rfl ?_
              simp (disch := (first | assumption | omega | (simp only [lenS, lenT, UInt64.reduceToNat]; try omega))) only [↓Sx.S0, Sx.S1, Tryd.fx, uPJ_1, Nat.reduceAdd, Nat.reducePow, Int.reducePow, Nat.reduceBEq, ↓reduceIte, UInt8.reduceToNat, UInt16.reduceToNat, UInt32.reduceToNat, UInt64.reduceToNat, Int.reduceToNat]
              ((try with_reducible refine Cw.go [] ?_); (try simp (disch := (first | assumption | omega | (simp only [lenS, lenT, UInt64.reduceToNat]; try omega))) only [↓Sx.S0, Sx.S1, Tryd.fx, uPJ_1, Nat.reduceAdd, Nat.reducePow, Int.reducePow, Nat.reduceBEq, ↓reduceIte, UInt8.reduceToNat, UInt16.reduceToNat, UInt32.reduceToNat, UInt64.reduceToNat, Int.reduceToNat]))
              refine Again.mk (ChG.mk (g + 1) v4 (D4 ++ [(b7, Obj.cells (a8 x.l) 40 (0, 0)), (b13, Obj.cells (chdC (chOfP x)).toArray 110 (0, 0))])) (by show pl.length - (g + 1) < pl.length - g; omega) ⟨by show g + 1 ≤ pl.length; omega, hN4.app ⟨hw7, hw13, trivial⟩, hSp4, ?_⟩ rfl rfl
              show Gr _ _ _ _ (⟨T, 2⟩ :: (pl.take (g + 1)).map chOfP : List ChildL).length ((⟨T, 2⟩ :: (pl.take (g + 1)).map chOfP : List ChildL).map chdC).flatten
              rw [hml]
              exact Gr.app (Gr.snoc (l := (⟨T, 2⟩ :: (pl.take g).map chOfP : List ChildL)) rfl hbuf)
            · obtain rfl : g = pl.length := by omega
              rw [List.take_length] at hG
              ((try with_reducible refine Cw.go [] ?_); (try simp (disch := (first | assumption | omega | (simp only [lenS, lenT, UInt64.reduceToNat]; try omega))) only [↓Sx.S0, Sx.S1, Tryd.fx, uPJ_1, Nat.reduceAdd, Nat.reducePow, Int.reducePow, Nat.reduceBEq, ↓reduceIte, UInt8.reduceToNat, UInt16.reduceToNat, UInt32.reduceToNat, UInt64.reduceToNat, Int.reduceToNat]))
              refine ⟨_, (by simp (disch := (first | assumption | omega | (simp only [lenS, lenT, UInt64.reduceToNat]; try omega))) only [↓Sx.S0, Sx.S1, Tryd.fx, uPJ_1, Nat.reduceAdd, Nat.reducePow, Int.reducePow, Nat.reduceBEq, ↓reduceIte, UInt8.reduceToNat, UInt16.reduceToNat, UInt32.reduceToNat, UInt64.reduceToNat, Int.reduceToNat]; rfl), ?_⟩
              refine ⟨Ext.of_new ⟨hw1, (New.mono hB hN).app hN2⟩, ?_⟩
              rw [hcl]
              exact hG.keep fun b o hb ho => hSp.look ho
        · have d3 : (k == 3) = false := by simpa using h3
          ((try with_reducible refine Cw.go [] ?_); (try simp (disch := (first | assumption | omega | (simp only [lenS, lenT, UInt64.reduceToNat]; try omega))) only [↓Sx.S0, Sx.S1, Tryd.fx, uPJ_1, Nat.reduceAdd, Nat.reducePow, Int.reducePow, Nat.reduceBEq, ↓reduceIte, UInt8.reduceToNat, UInt16.reduceToNat, UInt32.reduceToNat, UInt64.reduceToNat, Int.reduceToNat, d3]))
          refine ⟨_, (by simp (disch := (first | assumption | omega | (simp only [lenS, lenT, UInt64.reduceToNat]; try omega))) only [↓Sx.S0, Sx.S1, Tryd.fx, uPJ_1, Nat.reduceAdd, Nat.reducePow, Int.reducePow, Nat.reduceBEq, ↓reduceIte, UInt8.reduceToNat, UInt16.reduceToNat, UInt32.reduceToNat, UInt64.reduceToNat, Int.reduceToNat]; rfl), ?_⟩
          refine ⟨Ext.of_new ⟨hw1, (New.mono hB hN).app hN2⟩, ?_⟩
          have e : childL k t = l.map chOfE := by
            unfold childL
            rw [hr, if_pos rfl, if_neg h3]
            by_cases h2 : k = 2
            · rw [if_pos h2, ← hl2 h2]
            · rw [if_neg h2, hln h2]; rfl
          rw [e]
          exact hG.keep fun b o hb ho => hSp.look ho
end Go.Proofs
end
section
open Go Go.Proofs Go.Sx Go.StP
namespace Go.Proofs
set_option maxRecDepth 10000
set_option maxHeartbeats 400000
set_option linter.unusedSimpArgs false
/-! ### What every right program answers -/
def id3 : IdL := ⟨3 :: List.replicate 31 0, by simp⟩
def enX : EntL := ⟨[120], 2, id3⟩
def enY : EntL := ⟨[121], 1, id0⟩
theorem alive_sort {Z : List EntL} (h : SortOf [enY, enX] Z) : Z = [enX, enY] := by
  refine h.eq ⟨rfl, ?_, ?_⟩
  · show StP.Sorted EntL.name [enX, enY]
    unfold StP.Sorted
    refine List.pairwise_cons.2 ⟨fun b hb => ?_, List.pairwise_singleton _ _⟩
    rw [List.mem_singleton.1 hb]; decide
  · exact StP.St.swap (a := [enY]) (b := [enX]) fun x hx y hy => by
      rw [List.mem_singleton.1 hx, List.mem_singleton.1 hy]; decide
theorem alive_ok : entsOk [enX, enY] = true := by decide
theorem alive_child : childL 2 (treeB [enX, enY]) = [⟨id3, 2⟩, ⟨id0, 1⟩] := by
  unfold childL
  rw [RdOk_tree alive_ok, if_pos rfl, if_pos rfl, entsE_treeB fun x hx => by
    rcases List.mem_cons.1 hx with rfl | hx
    · decide
    · rw [List.mem_singleton.1 hx]; decide]
  rfl
theorem alive_frame : frameB 1 [97, 98] = [98, 2, 97, 98] := by
  unfold frameB textL
  rw [show clampN (([97, 98] : List UInt8).length : Int) = 2 from rfl, numL_small (by decide)]; rfl
theorem build_id3 : buildV (plcT Tryd.prog 40) (zeroV Tryd.prog 40) [(0, v8 3)] = some (.agg (a8 id3.l)) := id (by kernel_rfl)
theorem build_enY : buildV (plcT Tryd.prog 108) (zeroV Tryd.prog 108) [(0, vs [121]), (1, vi 1)] = some (.agg (entC enY).toArray) := id (by kernel_rfl)
theorem slice_yx : sliceB Tryd.prog 49 2 [(0, .agg (entC enY).toArray), (1, .agg (entC enX).toArray)] = some (108, (entC enY ++ entC enX).toArray) := id (by kernel_rfl)
theorem Gr.row0 {D : Heap} {v : Value} {l : List ChildL} (h : Gr D 110 33 v l.length (l.map chdC).flatten) (h0 : 0 < l.length) : ∃ b c rest, v = vsl b 0 l.length c ∧ Sx.look D b = some (rowO chdC 110 rest l) ∧ loadV (some (true, 33)) (some (rowO chdC 110 rest l)) (0 * 33) = some (.agg (chdC (l.getD 0 chd0)).toArray) := by
  obtain ⟨b, c, rest, hv, hl⟩ := Gr.rows h h0
  refine ⟨b, c, rest, hv, hl, ?_⟩
  have := load_row (z := chd0) (E := 110) (rest := rest) chdC_len 0 h0
  exact this
set_option linter.defProp false
def uPK_1 := And.intro (And.intro (And.intro (@load_ob) (@load_ob0)) (And.intro (@load_ob1) (@store_ob))) (And.intro (And.intro (@Sx.tup2_0) (@Sx.tup2_1)) (And.intro (@eqChd) (And.intro (@rdIn_v8) (@rdIn_vi))))
theorem alive_spec (w : World) : Rets Tryd.prog 15 #[] w (fun v D => v = .bool true ∧ D = []) := by
  refine Rets.enterV Tryd.func15 rfl (rs := [.tmp 0]) Tryd.results15 Tryd.ntmps15 ?_
  simp only [List.size_toArray, List.length_cons, List.length_nil, Nat.reduceAdd, Nat.reduceSub, List.replicate_succ, List.replicate_zero, List.cons_append, List.nil_append]
  ((try with_reducible refine Cw.go [] ?_); (try simp (disch := (first | assumption | omega | (simp only [lenS, lenT, UInt64.reduceToNat]; try omega))) only [↓Sx.S0, Sx.S1, Tryd.fx, uPK_1, Nat.reduceAdd, Nat.reducePow, Int.reducePow, Nat.reduceBEq, ↓reduceIte, UInt8.reduceToNat, UInt16.reduceToNat, UInt32.reduceToNat, UInt64.reduceToNat, Int.reduceToNat]))
  refine Ow.callFV rfl Tryd.call60 (fun w' hw' => Blob_spec [97, 98] w') ?_
  rw [show madeK 1 [97, 98] true = 1 from rfl, show madeT 1 [97, 98] true = [97, 98] from rfl, show madeE 1 [97, 98] true = 0 from rfl]
  refine Ow.go rfl ?_
  simp (disch := (first | assumption | omega | (simp only [lenS, lenT, UInt64.reduceToNat]; try omega))) only [↓Sx.S0, Sx.S1, Tryd.fx, uPK_1, Nat.reduceAdd, Nat.reducePow, Int.reducePow, Nat.reduceBEq, ↓reduceIte, UInt8.reduceToNat, UInt16.reduceToNat, UInt32.reduceToNat, UInt64.reduceToNat, Int.reduceToNat]
  refine Ow.alloc rfl rfl zrOb fun b1 hb1 hw1 => ?_
  simp only [cells_agg, List.nil_append, List.cons_append]
  refine Ow.go rfl ?_
  simp (disch := (first | assumption | omega | (simp only [lenS, lenT, UInt64.reduceToNat]; try omega))) only [↓Sx.S0, Sx.S1, Tryd.fx, uPK_1, Nat.reduceAdd, Nat.reducePow, Int.reducePow, Nat.reduceBEq, ↓reduceIte, UInt8.reduceToNat, UInt16.reduceToNat, UInt32.reduceToNat, UInt64.reduceToNat, Int.reduceToNat]
  ((try with_reducible refine Cw.go [] ?_); (try simp (disch := (first | assumption | omega | (simp only [lenS, lenT, UInt64.reduceToNat]; try omega))) only [↓Sx.S0, Sx.S1, Tryd.fx, uPK_1, Nat.reduceAdd, Nat.reducePow, Int.reducePow, Nat.reduceBEq, ↓reduceIte, UInt8.reduceToNat, UInt16.reduceToNat, UInt32.reduceToNat, UInt64.reduceToNat, Int.reduceToNat]))
  refine Ow.callC rfl rfl Tryd.call16 (fun w' hw' => FrameO_spec 1 [97, 98] w') (fun B v D hA hB hN hS => ?_)
  rw [show RdOk 1 [97, 98] = true from rfl, if_pos rfl, alive_frame] at hS
  subst hS
  obtain ⟨h1B, -⟩ := hA
  refine Ow.go rfl ?_
  simp (disch := (first | assumption | omega | (simp only [lenS, lenT, UInt64.reduceToNat]; try omega))) only [↓Sx.S0, Sx.S1, Tryd.fx, uPK_1, Nat.reduceAdd, Nat.reducePow, Int.reducePow, Nat.reduceBEq, ↓reduceIte, UInt8.reduceToNat, UInt16.reduceToNat, UInt32.reduceToNat, UInt64.reduceToNat, Int.reduceToNat]
  refine Ow.build (.agg (entC enY).toArray) rfl build_enY ?_
  refine Ow.build (.agg (a8 id3.l)) rfl build_id3 ?_
  refine Ow.build (.agg (entC enX).toArray) rfl (build_ent enX) ?_
  refine Ow.go rfl ?_
  simp (disch := (first | assumption | omega | (simp only [lenS, lenT, UInt64.reduceToNat]; try omega))) only [↓Sx.S0, Sx.S1, Tryd.fx, uPK_1, Nat.reduceAdd, Nat.reducePow, Int.reducePow, Nat.reduceBEq, ↓reduceIte, UInt8.reduceToNat, UInt16.reduceToNat, UInt32.reduceToNat, UInt64.reduceToNat, Int.reduceToNat]
  refine Ow.buildSlice (e := 108) (entC enY ++ entC enX).toArray rfl rfl slice_yx fun b13 hb13 hw13 => ?_
  refine Ow.go rfl ?_
  simp (disch := (first | assumption | omega | (simp only [lenS, lenT, UInt64.reduceToNat]; try omega))) only [↓Sx.S0, Sx.S1, Tryd.fx, uPK_1, Nat.reduceAdd, Nat.reducePow, Int.reducePow, Nat.reduceBEq, ↓reduceIte, UInt8.reduceToNat, UInt16.reduceToNat, UInt32.reduceToNat, UInt64.reduceToNat, Int.reduceToNat]
  have hr13 : ∀ w', w'.heap[b13]? = some (.cells (entC enY ++ entC enX).toArray 108 (0, 0)) → EntS w' (vsl b13 0 2 2) [enY, enX] := fun w' h => SlV.sl (l := [enY, enX]) h (fun k hk j hj => by
    simp only [Nat.zero_add, List.getElem?_toArray]
    have h2 : k = 0 ∨ k = 1 := by simp at hk; omega
    rcases h2 with rfl | rfl
    · rw [Nat.zero_mul, Nat.zero_add, List.getElem?_append_left (by rw [entC_len]; exact hj)]; rfl
    · rw [Nat.one_mul, List.getElem?_append_right (by rw [entC_len]; omega), entC_len, Nat.add_sub_cancel_left]; rfl) (by decide) (by simp [entC_len])
  refine Ow.callC rfl rfl Tryd.call61 (fun w' hw' => TreeO_spec _ [enY, enX] w' (hr13 w' (hw'.has _ _ (by simp))) (by decide) (by decide)) (fun B2 v2 D2 hA2 hB2 hN2 hS2 => ?_)
  obtain ⟨Z, hZ, rfl⟩ := hS2
  rw [alive_sort hZ]
  rw [show madeK 2 (treeB [enX, enY]) (entsOk [enX, enY]) = 2 by unfold madeK; rw [alive_ok, RdOk_tree alive_ok]; rfl,
    show madeT 2 (treeB [enX, enY]) (entsOk [enX, enY]) = treeB [enX, enY] by unfold madeT; rw [alive_ok, RdOk_tree alive_ok]; rfl,
    show madeE 2 (treeB [enX, enY]) (entsOk [enX, enY]) = 0 by unfold madeE; rw [alive_ok, RdOk_tree alive_ok]; rfl]
  have hN3 : New w.heap.size ((b1, Obj.cells #[vi 1, vs [97, 98]] 45 (0, 0)) :: D ++ [(b13, Obj.cells (entC enY ++ entC enX).toArray 108 (0, 0))] ++ D2) :=
    (New.app (show New w.heap.size ((b1, Obj.cells #[vi 1, vs [97, 98]] 45 (0, 0)) :: D) from ⟨hw1, New.mono hB hN⟩) (show New w.heap.size [(b13, Obj.cells (entC enY ++ entC enX).toArray 108 (0, 0))] from ⟨hw13, trivial⟩)).app (New.mono hB2 hN2)
  refine Ow.go rfl ?_
  simp (disch := (first | assumption | omega | (simp only [lenS, lenT, UInt64.reduceToNat]; try omega))) only [↓Sx.S0, Sx.S1, Tryd.fx, uPK_1, Nat.reduceAdd, Nat.reducePow, Int.reducePow, Nat.reduceBEq, ↓reduceIte, UInt8.reduceToNat, UInt16.reduceToNat, UInt32.reduceToNat, UInt64.reduceToNat, Int.reduceToNat]
  refine Ow.alloc rfl rfl zrOb fun b5 hb5 hw5 => ?_
  simp only [cells_agg, List.nil_append, List.cons_append]
  refine Ow.permL (M := (b5, Obj.cells #[vi 0, vs []] 45 (0, 0)) :: ((b1, Obj.cells #[vi 1, vs [97, 98]] 45 (0, 0)) :: D ++ [(b13, Obj.cells (entC enY ++ entC enX).toArray 108 (0, 0))] ++ D2)) (by classical exact List.perm_iff_count.2 fun a => by simp only [List.count_append, List.count_cons, List.count_nil] <;> omega) ?_
  generalize (b1, Obj.cells #[vi 1, vs [97, 98]] 45 (0, 0)) :: D ++ [(b13, Obj.cells (entC enY ++ entC enX).toArray 108 (0, 0))] ++ D2 = E at hN3 ⊢
  refine Ow.go rfl ?_
  simp (disch := (first | assumption | omega | (simp only [lenS, lenT, UInt64.reduceToNat]; try omega))) only [↓Sx.S0, Sx.S1, Tryd.fx, uPK_1, Nat.reduceAdd, Nat.reducePow, Int.reducePow, Nat.reduceBEq, ↓reduceIte, UInt8.reduceToNat, UInt16.reduceToNat, UInt32.reduceToNat, UInt64.reduceToNat, Int.reduceToNat]
  ((try with_reducible refine Cw.go [] ?_); (try simp (disch := (first | assumption | omega | (simp only [lenS, lenT, UInt64.reduceToNat]; try omega))) only [↓Sx.S0, Sx.S1, Tryd.fx, uPK_1, Nat.reduceAdd, Nat.reducePow, Int.reducePow, Nat.reduceBEq, ↓reduceIte, UInt8.reduceToNat, UInt16.reduceToNat, UInt32.reduceToNat, UInt64.reduceToNat, Int.reduceToNat]))
  refine Ow.callC rfl rfl Tryd.call20 (fun w' hw' => ChildrenO_spec 2 (treeB [enX, enY]) w') (fun B4 v4 D4 hA4 hB4 hN4 hS4 => ?_)
  rw [alive_child] at hS4
  obtain ⟨CL, hCL⟩ : ∃ CL, CL = ([⟨id3, 2⟩, ⟨id0, 1⟩] : List ChildL) := ⟨_, rfl⟩
  have e2 : ((CL.length : Int) == 2) = true := by rw [hCL]; rfl
  have l2 : 0 < CL.length := by rw [hCL]; decide
  have g0 : CL.getD 0 chd0 = ⟨id3, 2⟩ := by rw [hCL]; rfl
  rw [← hCL] at hS4
  obtain ⟨c, cc, rest, rfl, hlc, hld⟩ := Gr.row0 hS4 l2
  have rdc : readB w ((b5, Obj.cells #[vi 2, vs (treeB [enX, enY])] 45 (0, 0)) :: (E ++ D4)) c = some (rowO chdC 110 rest CL) := by
    refine read_look ?_
    have hc5 := above_to hA4 (b := b5) (by simp [keys])
    have := hN4.le c (key_of_look hlc)
    rw [look_other _ _ _ _ (by omega), look_app_r (fun hm => ?_)]
    · exact hlc
    · have := above_to hA4 (b := c) (by simp only [keys, List.map_cons, List.mem_cons] at hm ⊢; exact .inr hm)
      omega
  rw [g0] at hld
  have cN : New w.heap.size ((b5, Obj.cells #[vi 2, vs (treeB [enX, enY])] 45 (0, 0)) :: (E ++ D4)) := ⟨hw5, hN3.app (New.mono hB4 hN4)⟩
  refine Ow.go rfl ?_
  simp (disch := (first | assumption | omega | (simp only [lenS, lenT, UInt64.reduceToNat]; try omega))) only [↓Sx.S0, Sx.S1, Tryd.fx, uPK_1, Nat.reduceAdd, Nat.reducePow, Int.reducePow, Nat.reduceBEq, ↓reduceIte, UInt8.reduceToNat, UInt16.reduceToNat, UInt32.reduceToNat, UInt64.reduceToNat, Int.reduceToNat, e2, rdc, hld]
  refine Ow.build (.agg (a8 id3.l)) rfl build_id3 ?_
  refine Ow.build (.agg (chdC ⟨id3, 2⟩).toArray) rfl (build_chd ⟨id3, 2⟩) ?_
  have e9 : ((ChildL.mk id3 2).id.l == (ChildL.mk id3 2).id.l && (ChildL.mk id3 2).kind == (ChildL.mk id3 2).kind) = true := by simp
  refine Ow.go rfl ?_
  simp (disch := (first | assumption | omega | (simp only [lenS, lenT, UInt64.reduceToNat]; try omega))) only [↓Sx.S0, Sx.S1, Tryd.fx, uPK_1, Nat.reduceAdd, Nat.reducePow, Int.reducePow, Nat.reduceBEq, ↓reduceIte, UInt8.reduceToNat, UInt16.reduceToNat, UInt32.reduceToNat, UInt64.reduceToNat, Int.reduceToNat, e9]
  ((try with_reducible refine Cw.go [] ?_); (try simp (disch := (first | assumption | omega | (simp only [lenS, lenT, UInt64.reduceToNat]; try omega))) only [↓Sx.S0, Sx.S1, Tryd.fx, uPK_1, Nat.reduceAdd, Nat.reducePow, Int.reducePow, Nat.reduceBEq, ↓reduceIte, UInt8.reduceToNat, UInt16.reduceToNat, UInt32.reduceToNat, UInt64.reduceToNat, Int.reduceToNat]))
  refine ⟨_, (by simp (disch := (first | assumption | omega | (simp only [lenS, lenT, UInt64.reduceToNat]; try omega))) only [↓Sx.S0, Sx.S1, Tryd.fx, uPK_1, Nat.reduceAdd, Nat.reducePow, Int.reducePow, Nat.reduceBEq, ↓reduceIte, UInt8.reduceToNat, UInt16.reduceToNat, UInt32.reduceToNat, UInt64.reduceToNat, Int.reduceToNat]; rfl), cN, ?_⟩
  rfl
/-! ### What is more than is looked at -/
def greatE (l : List EntL) : Bool := decide (60 < l.length) || l.any fun e => decide (100 < e.name.length)
set_option linter.defProp false
def uPK_2 := And.intro (And.intro (And.intro (@load_ent0) (@load_ent1)) (And.intro (@load_ent2) (@load_ent))) (And.intro (And.intro (@store_entr) (@cells_ent)) (And.intro (@rdIn_v8) (@rdIn_vi)))
end Go.Proofs
end
namespace Go.Dig
open Go.Sx
def hexL : List UInt8 := [48, 49, 50, 51, 52, 53, 54, 55, 56, 57, 97, 98, 99, 100, 101, 102]
def digitV (b : UInt8) : Int := if 48 ≤ b.toNat ∧ b.toNat ≤ 57 then (b.toNat : Int) - 48 else if 97 ≤ b.toNat ∧ b.toNat ≤ 102 then (b.toNat : Int) - 97 + 10 else -1
def hexD (n : Nat) : UInt8 := hexL.getD n 0
def hexB (b : UInt8) : List UInt8 := [hexD (b.toNat / 16), hexD (b.toNat % 16)]
def hexV (id : List UInt8) : List UInt8 := id.flatMap hexB
def hexPre (id : List UInt8) (g : Nat) : List UInt8 := hexV (id.take g) ++ List.replicate (64 - 2 * g) 0
/-- What a text of 64 digits is the text of. -/
def bytesL (l : List UInt8) (n : Nat) : List UInt8 := (List.range n).map fun i => UInt8.ofInt (digitV (l.getD (2 * i) 0) * 16 + digitV (l.getD (2 * i + 1) 0))
def okHex (l : List UInt8) : Bool := l.length == 64 && l.all fun c => decide (0 ≤ digitV c)
def unhexV (l : List UInt8) : List UInt8 := if okHex l then bytesL l 32 else List.replicate 32 0
def bytesPre (l : List UInt8) (g : Nat) : List UInt8 := bytesL l g ++ List.replicate (32 - g) 0
/-! ### The document's reading of an id's text: digit by digit -/
def refB (l : List UInt8) (i k : Nat) : UInt8 :=
  if 2 * k + 1 < i then UInt8.ofInt (digitV (l.getD (2 * k) 0) * 16 + digitV (l.getD (2 * k + 1) 0)) else if 2 * k < i then UInt8.ofInt (digitV (l.getD (2 * k) 0)) else 0
def refPre (l : List UInt8) (i : Nat) : List UInt8 := (List.range 32).map (refB l i)
/-! ### SHA-256 -/
def rgt (x : UInt32) (n : UInt64) : UInt32 := shr_u32 x n.toNat ||| shl_u32 x (32 - n).toNat
def rol (x : UInt32) (k : Int) : UInt32 := shl_u32 x (UInt64.ofInt k &&& 31).toNat ||| shr_u32 x (32 - (UInt64.ofInt k &&& 31)).toNat
def turnV (x : UInt32) (a b c : Int) : UInt32 := rol x (-a) ^^^ rol x (-b) ^^^ shr_u32 x c.toNat
def spinV (x : UInt32) (a b c : Int) : UInt32 := rol x (-a) ^^^ rol x (-b) ^^^ rol x (-c)
def S1 (e : UInt32) : UInt32 := rgt e 6 ^^^ rgt e 11 ^^^ rgt e 25
def S0 (a : UInt32) : UInt32 := rgt a 2 ^^^ rgt a 13 ^^^ rgt a 22
def s1 (y : UInt32) : UInt32 := rgt y 17 ^^^ rgt y 19 ^^^ shr_u32 y 10
def s0 (x : UInt32) : UInt32 := rgt x 7 ^^^ rgt x 18 ^^^ shr_u32 x 3
theorem rol6 (x : UInt32) : rol x (-6) = rgt x 6 := by unfold rol rgt; rw [UInt32.or_comm]; rfl
theorem rol11 (x : UInt32) : rol x (-11) = rgt x 11 := by unfold rol rgt; rw [UInt32.or_comm]; rfl
theorem rol25 (x : UInt32) : rol x (-25) = rgt x 25 := by unfold rol rgt; rw [UInt32.or_comm]; rfl
theorem rol2 (x : UInt32) : rol x (-2) = rgt x 2 := by unfold rol rgt; rw [UInt32.or_comm]; rfl
theorem rol13 (x : UInt32) : rol x (-13) = rgt x 13 := by unfold rol rgt; rw [UInt32.or_comm]; rfl
theorem rol22 (x : UInt32) : rol x (-22) = rgt x 22 := by unfold rol rgt; rw [UInt32.or_comm]; rfl
theorem rol17 (x : UInt32) : rol x (-17) = rgt x 17 := by unfold rol rgt; rw [UInt32.or_comm]; rfl
theorem rol19 (x : UInt32) : rol x (-19) = rgt x 19 := by unfold rol rgt; rw [UInt32.or_comm]; rfl
theorem rol7 (x : UInt32) : rol x (-7) = rgt x 7 := by unfold rol rgt; rw [UInt32.or_comm]; rfl
theorem rol18 (x : UInt32) : rol x (-18) = rgt x 18 := by unfold rol rgt; rw [UInt32.or_comm]; rfl
theorem spin1 (x : UInt32) : spinV x 6 11 25 = S1 x := by unfold spinV S1; rw [rol6, rol11, rol25]
theorem spin0 (x : UInt32) : spinV x 2 13 22 = S0 x := by unfold spinV S0; rw [rol2, rol13, rol22]
theorem turn1 (x : UInt32) : turnV x 17 19 10 = s1 x := by unfold turnV s1; rw [rol17, rol19]; rfl
theorem turn0 (x : UInt32) : turnV x 7 18 3 = s0 x := by unfold turnV s0; rw [rol7, rol18]; rfl

def kL : List UInt32 := [1116352408, 1899447441, 3049323471, 3921009573, 961987163, 1508970993, 2453635748, 2870763221, 3624381080, 310598401, 607225278, 1426881987, 1925078388, 2162078206, 2614888103, 3248222580, 3835390401, 4022224774, 264347078, 604807628, 770255983, 1249150122, 1555081692, 1996064986, 2554220882, 2821834349, 2952996808, 3210313671, 3336571891, 3584528711, 113926993, 338241895, 666307205, 773529912, 1294757372, 1396182291, 1695183700, 1986661051, 2177026350, 2456956037, 2730485921, 2820302411, 3259730800, 3345764771, 3516065817, 3600352804, 4094571909, 275423344, 430227734, 506948616, 659060556, 883997877, 958139571, 1322822218, 1537002063, 1747873779, 1955562222, 2024104815, 2227730452, 2361852424, 2428436474, 2756734187, 3204031479, 3329325298]
def initL : List UInt32 := [1779033703, 3144134277, 1013904242, 2773480762, 1359893119, 2600822924, 528734635, 1541459225]

/-- The word of four bytes, as the document says. -/
def wordR (b : List UInt8) (i : Nat) : UInt32 :=
  UInt32.ofNat (b.getD (4 * i) 0).toNat * 16777216 + UInt32.ofNat (b.getD (4 * i + 1) 0).toNat * 65536 + UInt32.ofNat (b.getD (4 * i + 2) 0).toNat * 256 + UInt32.ofNat (b.getD (4 * i + 3) 0).toNat
def wPre (b : List UInt8) (i : Nat) : List UInt32 := (List.range 64).map fun j => if j < i then wordR b j else 0
theorem wPre_length (b : List UInt8) (i : Nat) : (wPre b i).length = 64 := by simp [wPre]
theorem wPre_succ (b : List UInt8) (i : Nat) : (wPre b i).set i (wordR b i) = wPre b (i + 1) := by
  apply List.ext_getElem
  · simp [wPre]
  intro k hk1 hk2
  have hk : k < 64 := by simpa [wPre] using hk2
  rw [List.getElem_set]
  by_cases h : i = k
  · subst h; simp [wPre]
  · rw [if_neg h]
    simp only [wPre, List.getElem_map, List.getElem_range]
    by_cases h1 : k < i
    · rw [if_pos h1, if_pos (by omega)]
    · rw [if_neg h1, if_neg (by omega)]
theorem wPre_zero (b : List UInt8) : wPre b 0 = List.replicate 64 0 := by
  apply List.ext_getElem
  · simp [wPre]
  intro k hk1 hk2
  simp only [wPre, List.getElem_map, List.getElem_range, List.getElem_replicate]
  rw [if_neg (by omega)]
/-- The words from 16 on. -/
def wStep (w : List UInt32) (g : Nat) : List UInt32 := w.set g (s1 (w.getD (g - 2) 0) + w.getD (g - 7) 0 + s0 (w.getD (g - 15) 0) + w.getD (g - 16) 0)
def wGo (w : List UInt32) : Nat → List UInt32
  | 0 => w
  | n + 1 => wStep (wGo w n) (16 + n)
theorem wGo_length (w : List UInt32) (n : Nat) : (wGo w n).length = w.length := by
  induction n with
  | zero => rfl
  | succ n ih => simp [wGo, wStep, ih]
def wAll (b : List UInt8) : List UInt32 := wGo (wPre b 16) 48
theorem wAll_length (b : List UInt8) : (wAll b).length = 64 := by rw [wAll, wGo_length, wPre_length]

def rStep (s : List UInt32) (k w : UInt32) : List UInt32 :=
  let t := s.getD 7 0 + S1 (s.getD 4 0) + (s.getD 4 0 &&& s.getD 5 0 ||| ~~~ s.getD 4 0 &&& s.getD 6 0) + k + w
  let u := S0 (s.getD 0 0) + (s.getD 0 0 &&& s.getD 1 0 ||| s.getD 0 0 &&& s.getD 2 0 ||| s.getD 1 0 &&& s.getD 2 0)
  [t + u, s.getD 0 0, s.getD 1 0, s.getD 2 0, s.getD 3 0 + t, s.getD 4 0, s.getD 5 0, s.getD 6 0]
def rGo (st w : List UInt32) : Nat → List UInt32
  | 0 => st
  | n + 1 => rStep (rGo st w n) (kL.getD n 0) (w.getD n 0)
theorem rGo_length (st w : List UInt32) (n : Nat) (h : st.length = 8) : (rGo st w n).length = 8 := by
  cases n with
  | zero => exact h
  | succ n => rfl
def addPre (st s : List UInt32) (i : Nat) : List UInt32 := (List.range 8).map fun j => if j < i then st.getD j 0 + s.getD j 0 else st.getD j 0
theorem addPre_length (st s : List UInt32) (i : Nat) : (addPre st s i).length = 8 := by simp [addPre]
theorem addPre_get (st s : List UInt32) (i j : Nat) (hj : j < 8) : (addPre st s i).getD j 0 = if j < i then st.getD j 0 + s.getD j 0 else st.getD j 0 := by
  simp [addPre, List.getD_eq_getElem?_getD, hj]
theorem addPre_succ (st s : List UInt32) (i : Nat) : (addPre st s i).set i (st.getD i 0 + s.getD i 0) = addPre st s (i + 1) := by
  apply List.ext_getElem
  · simp [addPre]
  intro k hk1 hk2
  rw [List.getElem_set]
  by_cases h : i = k
  · subst h; simp [addPre]
  · rw [if_neg h]
    simp only [addPre, List.getElem_map, List.getElem_range]
    by_cases h1 : k < i
    · rw [if_pos h1, if_pos (by omega)]
    · rw [if_neg h1, if_neg (by omega)]
theorem addPre_zero (st s : List UInt32) (h : st.length = 8) : addPre st s 0 = st := by
  apply List.ext_getElem
  · simp [addPre, h]
  intro k hk1 hk2
  simp [addPre, List.getD_eq_getElem?_getD, hk2]
/-- The state behind a block. -/
def comp (st : List UInt32) (b : List UInt8) : List UInt32 := addPre st (rGo st (wAll b) 64) 8
theorem comp_length (st : List UInt32) (b : List UInt8) : (comp st b).length = 8 := addPre_length _ _ _
/-- The state behind n blocks. -/
def comps (st : List UInt32) (m : List UInt8) : Nat → List UInt32
  | 0 => st
  | n + 1 => comp (comps st m n) ((m.drop (64 * n)).take 64)
theorem comps_length (st : List UInt32) (m : List UInt8) (n : Nat) (h : st.length = 8) : (comps st m n).length = 8 := by
  cases n with
  | zero => exact h
  | succ n => exact comp_length _ _
theorem comps_append (st : List UInt32) (m x : List UInt8) (n : Nat) (h : 64 * n ≤ m.length) : comps st (m ++ x) n = comps st m n := by
  induction n with
  | zero => rfl
  | succ n ih =>
    simp only [comps]
    rw [ih (by omega), List.drop_append_of_le_length (by omega), List.take_append_of_le_length (by simp; omega)]

/-! ### A hash in memory -/
def hashL (bg : Bool) (st : List UInt32) (rest : List UInt8) (many : Int) (taken : UInt64) : List Value :=
  .bool bg :: (st.map (fun x => Value.int .u32 (x.toNat : Int)) ++ (rest.map (fun x => Value.int .u8 (x.toNat : Int)) ++ [vi many, v64 taken]))
def hashC (bg : Bool) (st : List UInt32) (rest : List UInt8) (many : Int) (taken : UInt64) : Array Value := (hashL bg st rest many taken).toArray
section
variable {bg : Bool} {st : List UInt32} {rest : List UInt8} {many : Int} {taken : UInt64} {E : TypeId}
theorem hash_size (h : st.length = 8 ∧ rest.length = 64) : (hashC bg st rest many taken).size = 75 := by simp [hashC, hashL, h]
theorem hash_get0 : (hashC bg st rest many taken)[0]? = some (.bool bg) := rfl
theorem hash_getS (k : Nat) (hk : k < 8) (h : st.length = 8) : (hashC bg st rest many taken)[1 + k]? = some (v32 (st.getD k 0)) := by
  have : 1 + k = k + 1 := by omega
  rw [this, hashC, List.getElem?_toArray, hashL, List.getElem?_cons_succ, List.getElem?_append_left (by simp; omega)]
  simp [v32, List.getD_eq_getElem?_getD, h, hk]
theorem hash_getR (k : Nat) (hk : k < 64) (h : st.length = 8 ∧ rest.length = 64) : (hashC bg st rest many taken)[9 + k]? = some (v8 (rest.getD k 0)) := by
  have : 9 + k = (8 + k) + 1 := by omega
  rw [this, hashC, List.getElem?_toArray, hashL, List.getElem?_cons_succ, List.getElem?_append_right (by simp; omega), List.getElem?_append_left (by simp; omega)]
  have e : 8 + k - (List.map (fun x : UInt32 => Value.int .u32 (x.toNat : Int)) st).length = k := by simp; omega
  rw [e]
  simp [v8, List.getD_eq_getElem?_getD, h, hk]
theorem hash_getM (h : st.length = 8 ∧ rest.length = 64) : (hashC bg st rest many taken)[73]? = some (vi many) := by
  rw [hashC, List.getElem?_toArray, hashL, List.getElem?_cons_succ, List.getElem?_append_right (by simp; omega), List.getElem?_append_right (by simp; omega)]
  simp [h]
theorem hash_getT (h : st.length = 8 ∧ rest.length = 64) : (hashC bg st rest many taken)[74]? = some (v64 taken) := by
  rw [hashC, List.getElem?_toArray, hashL, List.getElem?_cons_succ, List.getElem?_append_right (by simp; omega), List.getElem?_append_right (by simp; omega)]
  simp [h]
theorem load_hash0 (n : Nat) : loadV (some (false, n)) (some (.cells (hashC bg st rest many taken) E (0, 0))) 0 = some (.bool bg) := hash_get0
theorem load_hashS (n k : Nat) (h : k < 8 ∧ st.length = 8) : loadV (some (false, n)) (some (.cells (hashC bg st rest many taken) E (0, 0))) (1 + k) = some (v32 (st.getD k 0)) := hash_getS k h.1 h.2
theorem load_hashR (n k : Nat) (h : k < 64 ∧ st.length = 8 ∧ rest.length = 64) : loadV (some (false, n)) (some (.cells (hashC bg st rest many taken) E (0, 0))) (9 + k) = some (v8 (rest.getD k 0)) := hash_getR k h.1 h.2
theorem load_hashR2 (n j k : Nat) (h : j + k < 64 ∧ st.length = 8 ∧ rest.length = 64) : loadV (some (false, n)) (some (.cells (hashC bg st rest many taken) E (0, 0))) (9 + j + k) = some (v8 (rest.getD (j + k) 0)) := by
  rw [Nat.add_assoc]; exact hash_getR (j + k) h.1 h.2
theorem load_hashM (n : Nat) (h : st.length = 8 ∧ rest.length = 64) : loadV (some (false, n)) (some (.cells (hashC bg st rest many taken) E (0, 0))) 73 = some (vi many) := hash_getM h
theorem load_hashT (n : Nat) (h : st.length = 8 ∧ rest.length = 64) : loadV (some (false, n)) (some (.cells (hashC bg st rest many taken) E (0, 0))) 74 = some (v64 taken) := hash_getT h
theorem load_hashSt (h : st.length = 8 ∧ rest.length = 64) : loadV (some (true, 8)) (some (.cells (hashC bg st rest many taken) E (0, 0))) 1 = some (.agg (a32 st)) := by
  have hs : 1 + 8 ≤ (hashC bg st rest many taken).size := by rw [hash_size h]; omega
  simp only [loadV, hs, ↓reduceIte]
  congr 2
  rw [hashC, a32, hashL]
  simp only [List.extract_toArray, List.extract_eq_take_drop]
  congr 1
  simp [h]
theorem load_hashAll (h : st.length = 8 ∧ rest.length = 64) : loadV (some (true, 75)) (some (.cells (hashC bg st rest many taken) E (0, 0))) 0 = some (.agg (hashC bg st rest many taken)) := load_all _ _ _ _ (hash_size h)
theorem one_hash : (hashC bg st rest many taken).toList.all Value.oneCell' = true := by
  simp [hashC, hashL, Value.oneCell', vi, v64]
theorem store_hashAll (old : Array Value) (h : st.length = 8 ∧ rest.length = 64 ∧ old.size = 75) : storeV (some (true, 75)) (some (.cells old E (0, 0))) 0 (.agg (hashC bg st rest many taken)) = some (.cells (hashC bg st rest many taken) E (0, 0)) :=
  store_all _ _ _ _ _ ⟨hash_size ⟨h.1, h.2.1⟩, h.2.2⟩ one_hash
theorem setL_hash (i : Nat) (v : Value) : (hashC bg st rest many taken).setIfInBounds i v = ((hashL bg st rest many taken).set i v).toArray := by simp [hashC]
theorem store_hash0 (b : Bool) (h : st.length = 8 ∧ rest.length = 64) : storeV (some (false, 1)) (some (.cells (hashC bg st rest many taken) E (0, 0))) 0 (.bool b) = some (.cells (hashC b st rest many taken) E (0, 0)) := by
  rw [store_one _ _ _ _ _ (by rw [hash_size h]; omega) rfl rfl, setL_hash]; rfl
theorem store_hashS (k : Nat) (x : UInt32) (h : k < 8 ∧ st.length = 8 ∧ rest.length = 64) : storeV (some (false, 1)) (some (.cells (hashC bg st rest many taken) E (0, 0))) (1 + k) (v32 x) = some (.cells (hashC bg (st.set k x) rest many taken) E (0, 0)) := by
  have e : 1 + k = k + 1 := by omega
  rw [store_one _ _ _ _ _ (by rw [hash_size h.2]; omega) rfl rfl, setL_hash, e, hashL, List.set_cons_succ, List.set_append_left _ _ (by simp; omega)]
  simp only [hashC, hashL, List.map_set]; rfl
theorem store_hashR (k : Nat) (x : UInt8) (h : k < 64 ∧ st.length = 8 ∧ rest.length = 64) : storeV (some (false, 1)) (some (.cells (hashC bg st rest many taken) E (0, 0))) (9 + k) (v8 x) = some (.cells (hashC bg st (rest.set k x) many taken) E (0, 0)) := by
  have e : 9 + k = (8 + k) + 1 := by omega
  rw [store_one _ _ _ _ _ (by rw [hash_size h.2]; omega) rfl rfl, setL_hash, e, hashL, List.set_cons_succ, List.set_append_right _ _ (by simp; omega), List.set_append_left _ _ (by simp; omega)]
  have e2 : 8 + k - (List.map (fun x : UInt32 => Value.int .u32 (x.toNat : Int)) st).length = k := by simp; omega
  rw [e2]
  simp only [hashC, hashL, List.map_set]; rfl
theorem store_hashM (m : Int) (h : st.length = 8 ∧ rest.length = 64) : storeV (some (false, 1)) (some (.cells (hashC bg st rest many taken) E (0, 0))) 73 (vi m) = some (.cells (hashC bg st rest m taken) E (0, 0)) := by
  rw [store_one _ _ _ _ _ (by rw [hash_size h]; omega) rfl rfl, setL_hash, hashL, List.set_cons_succ, List.set_append_right _ _ (by simp; omega), List.set_append_right _ _ (by simp; omega)]
  simp [hashC, hashL, h]
theorem store_hashT (t : UInt64) (h : st.length = 8 ∧ rest.length = 64) : storeV (some (false, 1)) (some (.cells (hashC bg st rest many taken) E (0, 0))) 74 (v64 t) = some (.cells (hashC bg st rest many t) E (0, 0)) := by
  rw [store_one _ _ _ _ _ (by rw [hash_size h]; omega) rfl rfl, setL_hash, hashL, List.set_cons_succ, List.set_append_right _ _ (by simp; omega), List.set_append_right _ _ (by simp; omega)]
  simp [hashC, hashL, h]
theorem store_hashSt (st' : List UInt32) (h : st.length = 8 ∧ rest.length = 64 ∧ st'.length = 8) : storeV (some (true, 8)) (some (.cells (hashC bg st rest many taken) E (0, 0))) 1 (.agg (a32 st')) = some (.cells (hashC bg st' rest many taken) E (0, 0)) := by
  have hs : 1 + 8 ≤ (hashC bg st rest many taken).size := by rw [hash_size ⟨h.1, h.2.1⟩]; omega
  have hp : putC (hashC bg st rest many taken) 1 (a32 st').toList = hashC bg st' rest many taken := by
    have := putC_eq (a32 st').toList [.bool bg] (st.map fun x => Value.int .u32 (x.toNat : Int)) (rest.map (fun x => Value.int .u8 (x.toNat : Int)) ++ [vi many, v64 taken]) (by simp [a32, h])
    simpa [hashC, hashL, a32] using this
  have h1 : (a32 st').size = 8 := by rw [size_a32]; exact h.2.2
  simp only [storeV, cells_agg, h1, hs, Nat.le_refl, true_or, all_a32, and_self, ↓reduceIte, hp]
end

/-! ### Words, byte by byte -/
def acc (b : List UInt8) (i : Nat) : Nat → UInt32
  | 0 => 0
  | k + 1 => shl_u32 (acc b i k) 8 ||| UInt32.ofNat (b.getD (4 * i + k) 0).toNat
theorem acc_step (x : UInt32) (c : UInt8) (h : x.toNat < 16777216) : (shl_u32 x 8 ||| UInt32.ofNat c.toNat).toNat = x.toNat * 256 + c.toNat := by
  have hc := c.toNat_lt
  rw [UInt32.toNat_or, shl_u32, UInt32.toNat_ofNat', UInt32.toNat_ofNat', Nat.mod_eq_of_lt (by omega), Nat.mod_eq_of_lt (by omega), ← Nat.shiftLeft_eq, ← Nat.shiftLeft_add_eq_or_of_lt (by omega : c.toNat < 2 ^ 8), Nat.shiftLeft_eq]
theorem acc_four (b : List UInt8) (i : Nat) : acc b i 4 = wordR b i := by
  have h0 := (b.getD (4 * i) 0).toNat_lt
  have h1 := (b.getD (4 * i + 1) 0).toNat_lt
  have h2 := (b.getD (4 * i + 2) 0).toNat_lt
  have h3 := (b.getD (4 * i + 3) 0).toNat_lt
  have e1 : (acc b i 1).toNat = (b.getD (4 * i) 0).toNat := by
    have := acc_step 0 (b.getD (4 * i + 0) 0) (by decide)
    simpa [acc] using this
  have l1 : (acc b i 1).toNat < 16777216 := by omega
  have e2 : (acc b i 2).toNat = (acc b i 1).toNat * 256 + (b.getD (4 * i + 1) 0).toNat := acc_step _ _ l1
  have l2 : (acc b i 2).toNat < 16777216 := by omega
  have e3 : (acc b i 3).toNat = (acc b i 2).toNat * 256 + (b.getD (4 * i + 2) 0).toNat := acc_step _ _ l2
  have l3 : (acc b i 3).toNat < 16777216 := by omega
  have e4 : (acc b i 4).toNat = (acc b i 3).toNat * 256 + (b.getD (4 * i + 3) 0).toNat := acc_step _ _ l3
  apply UInt32.toNat.inj
  rw [e4, e3, e2, e1]
  unfold wordR
  simp only [UInt32.toNat_add, UInt32.toNat_mul, UInt32.toNat_ofNat']
  have k1 : (16777216 : UInt32).toNat = 16777216 := rfl
  have k2 : (65536 : UInt32).toNat = 65536 := rfl
  have k3 : (256 : UInt32).toNat = 256 := rfl
  rw [k1, k2, k3]
  omega
theorem wPre_set0 (b : List UInt8) (g : Nat) : wPre b g = (wPre b g).set g (acc b g 0) := by
  apply List.ext_getElem
  · simp
  intro k hk1 hk2
  rw [List.getElem_set]
  by_cases h : g = k
  · subst h; simp [wPre, acc]
  · rw [if_neg h]
theorem getD_set_same {α : Type} (l : List α) (i : Nat) (x d : α) (h : i < l.length) : (l.set i x).getD i d = x := by
  simp [List.getD_eq_getElem?_getD, h]

def wG (b : List UInt8) (g : Nat) : List UInt32 := wGo (wPre b 16) (g - 16)
theorem wG_length (b : List UInt8) (g : Nat) : (wG b g).length = 64 := by rw [wG, wGo_length, wPre_length]
theorem wG_succ (b : List UInt8) (g : Nat) (h : 16 ≤ g) : wG b (g + 1) = wStep (wG b g) g := by
  unfold wG
  have : g + 1 - 16 = (g - 16) + 1 := by omega
  rw [this]
  show wStep _ (16 + (g - 16)) = _
  rw [show 16 + (g - 16) = g from by omega]
theorem wG_all (b : List UInt8) : wG b 64 = wAll b := rfl
theorem wG_start (b : List UInt8) : wPre b 16 = wG b 16 := rfl

theorem ch_xor (a b c : UInt32) : (a &&& b ^^^ ~~~a &&& c) = (a &&& b ||| ~~~a &&& c) := by
  apply UInt32.toBitVec_inj.1
  simp only [UInt32.toBitVec_xor, UInt32.toBitVec_or, UInt32.toBitVec_and, UInt32.toBitVec_not]
  ext i hi
  simp only [BitVec.getElem_xor, BitVec.getElem_or, BitVec.getElem_and, BitVec.getElem_not]
  cases a.toBitVec[i] <;> simp
theorem maj_xor (a b c : UInt32) : (a &&& b ^^^ a &&& c ^^^ b &&& c) = (a &&& b ||| a &&& c ||| b &&& c) := by
  apply UInt32.toBitVec_inj.1
  simp only [UInt32.toBitVec_xor, UInt32.toBitVec_or, UInt32.toBitVec_and]
  ext i hi
  simp only [BitVec.getElem_xor, BitVec.getElem_or, BitVec.getElem_and]
  cases a.toBitVec[i] <;> cases b.toBitVec[i] <;> simp
/-- What the program knows of its tables. -/
def Glob (w : World) : Prop := ∃ e0 e1 f0 f1, w.heap[0]? = some (.cells (a32 initL) e0 f0) ∧ w.heap[1]? = some (.cells (a32 kL) e1 f1)
theorem Glob.of {w0 w : World} {L : Heap} (hg : Glob w0) (h : Hp w0 L w) (hk : ∀ b, b ∈ keys L → 1 < b) : Glob w := by
  obtain ⟨e0, e1, f0, f1, h0, h1⟩ := hg
  refine ⟨e0, e1, f0, f1, ?_, ?_⟩
  · rw [h.old 0 (Array.getElem?_eq_some_iff.1 h0).1 (fun hm => by have := hk 0 hm; omega)]; exact h0
  · rw [h.old 1 (Array.getElem?_eq_some_iff.1 h1).1 (fun hm => by have := hk 1 hm; omega)]; exact h1

/-! ### A hash that takes bytes -/
structure Hs where
  st : List UInt32
  rest : List UInt8
  many : Nat
structure Hs.Ok (s : Hs) : Prop where
  st : s.st.length = 8
  rest : s.rest.length = 64
  many : s.many < 64
def hput (s : Hs) (x : UInt8) : Hs :=
  if s.many + 1 = 64 then ⟨comp s.st (s.rest.set s.many x), s.rest.set s.many x, 0⟩ else ⟨s.st, s.rest.set s.many x, s.many + 1⟩
theorem hput_ok {s : Hs} (x : UInt8) (h : s.Ok) : (hput s x).Ok := by
  unfold hput
  split
  · exact ⟨comp_length _ _, by simp [h.rest], by show (0 : Nat) < 64; omega⟩
  · exact ⟨h.st, by simp [h.rest], by show s.many + 1 < 64; have := h.many; omega⟩
def hputs (s : Hs) (l : List UInt8) : Hs := l.foldl hput s
theorem hputs_ok {s : Hs} (l : List UInt8) (h : s.Ok) : (hputs s l).Ok := by
  induction l generalizing s with
  | nil => exact h
  | cons x r ih => exact ih (hput_ok x h)
theorem hputs_append (s : Hs) (a b : List UInt8) : hputs s (a ++ b) = hputs (hputs s a) b := List.foldl_append
theorem take_succ_getD {α : Type} (l : List α) (g : Nat) (d : α) (h : g < l.length) : l.take (g + 1) = l.take g ++ [l.getD g d] := by
  rw [List.take_add_one]
  simp [List.getD_eq_getElem?_getD, h]
theorem hputs_succ (s : Hs) (l : List UInt8) (g : Nat) (h : g < l.length) : hputs s (l.take (g + 1)) = hput (hputs s (l.take g)) (l.getD g 0) := by
  rw [take_succ_getD l g 0 h, hputs_append]; rfl
/-- The hash before the first byte. -/
def hbegin (bg : Bool) (s : Hs) : Hs := if bg then s else { s with st := initL }
theorem hbegin_ok {s : Hs} (bg : Bool) (h : s.Ok) : (hbegin bg s).Ok := by
  unfold hbegin; split
  · exact h
  · exact ⟨rfl, h.rest, h.many⟩
def hashH (s : Hs) (taken : UInt64) : Array Value := hashC true s.st s.rest s.many taken
def takenL (t : UInt64) (l : List (List UInt8)) : UInt64 := l.foldl (fun t a => t + UInt64.ofNat a.length) t
theorem takenL_succ (t : UInt64) (l : List (List UInt8)) (g : Nat) (h : g < l.length) : takenL t (l.take (g + 1)) = takenL t (l.take g) + UInt64.ofNat (l.getD g []).length := by
  rw [take_succ_getD l g [] h, takenL, List.foldl_append]; rfl
theorem flatten_succ (l : List (List UInt8)) (g : Nat) (h : g < l.length) : (l.take (g + 1)).flatten = (l.take g).flatten ++ l.getD g [] := by
  rw [take_succ_getD l g [] h, List.flatten_append]; simp
theorem loadV_one (cs : Array Value) (E : TypeId) (fz : Nat × Nat) (n i : Nat) : loadV (some (false, n)) (some (.cells cs E fz)) i = cs[i]? := (rfl)
/-- A slice of texts in a world. -/
structure Strs (w : World) (v : Value) (l : List (List UInt8)) : Prop where
  nil_or : (l = [] ∧ v = .slice none 0 0) ∨ ∃ b off c arr E fz, v = vsl b off l.length c ∧ w.heap[b]? = some (.cells arr E fz) ∧ ∀ i, i < l.length → arr[off + i]? = some (vs (l.getD i []))
end Go.Dig
section
open Go Go.Proofs Go.Sx Go.Dig
namespace Go.Proofs
set_option maxRecDepth 10000
set_option maxHeartbeats 4000000
set_option linter.unusedSimpArgs false
/-- What the program knows of its tables. -/
def GlobE (w : World) : Prop := ∃ e0 e1 f0 f1, w.heap[1]? = some (.cells (a32 initL) e0 f0) ∧ w.heap[2]? = some (.cells (a32 kL) e1 f1)
theorem GlobE.of {w0 w : World} {L : Heap} (hg : GlobE w0) (h : Hp w0 L w) (hk : ∀ b, b ∈ keys L → 2 < b) : GlobE w := by
  obtain ⟨e0, e1, f0, f1, h0, h1⟩ := hg
  refine ⟨e0, e1, f0, f1, ?_, ?_⟩
  · rw [h.old _ (Array.getElem?_eq_some_iff.1 h0).1 (fun hm => by have := hk _ hm; omega)]; exact h0
  · rw [h.old _ (Array.getElem?_eq_some_iff.1 h1).1 (fun hm => by have := hk _ hm; omega)]; exact h1
theorem rotl_spec (x : UInt32) (k : Int) (w : World) : Rets Tryd.prog 181 #[v32 x, vi k] w (fun v D => v = v32 (rol x k) ∧ D = []) := by
  refine Rets.enterV Tryd.func181 rfl (rs := [.tmp 4]) Tryd.results181 Tryd.ntmps181 ?_
  simp only [List.size_toArray, List.length_cons, List.length_nil, Nat.reduceAdd, Nat.reduceSub, List.replicate_succ, List.replicate_zero, List.cons_append, List.nil_append]
  ((try with_reducible refine Cw.go [] ?_); (try simp (disch := (first | assumption | omega | (simp only [lenS, lenT, UInt64.reduceToNat]; try omega))) only [↓Sx.S0, Sx.S1, Tryd.fx, Nat.reduceAdd, Nat.reducePow, Int.reducePow, Nat.reduceBEq, ↓reduceIte, UInt8.reduceToNat, UInt16.reduceToNat, UInt32.reduceToNat, UInt64.reduceToNat, Int.reduceToNat]))
  refine ⟨_, (by simp (disch := (first | assumption | omega | (simp only [lenS, lenT, UInt64.reduceToNat]; try omega))) only [↓Sx.S0, Sx.S1, Tryd.fx, Nat.reduceAdd, Nat.reducePow, Int.reducePow, Nat.reduceBEq, ↓reduceIte, UInt8.reduceToNat, UInt16.reduceToNat, UInt32.reduceToNat, UInt64.reduceToNat, Int.reduceToNat]; rfl), trivial, ?_⟩
  rfl
theorem right_spec (x : UInt32) (n : UInt64) (w : World) : Rets Tryd.prog 133 #[v32 x, v64 n] w (fun v D => v = v32 (rgt x n) ∧ D = []) := by
  refine Rets.enterV Tryd.func133 rfl (rs := [.tmp 4]) Tryd.results133 Tryd.ntmps133 ?_
  simp only [List.size_toArray, List.length_cons, List.length_nil, Nat.reduceAdd, Nat.reduceSub, List.replicate_succ, List.replicate_zero, List.cons_append, List.nil_append]
  ((try with_reducible refine Cw.go [] ?_); (try simp (disch := (first | assumption | omega | (simp only [lenS, lenT, UInt64.reduceToNat]; try omega))) only [↓Sx.S0, Sx.S1, Tryd.fx, Nat.reduceAdd, Nat.reducePow, Int.reducePow, Nat.reduceBEq, ↓reduceIte, UInt8.reduceToNat, UInt16.reduceToNat, UInt32.reduceToNat, UInt64.reduceToNat, Int.reduceToNat]))
  refine ⟨_, (by simp (disch := (first | assumption | omega | (simp only [lenS, lenT, UInt64.reduceToNat]; try omega))) only [↓Sx.S0, Sx.S1, Tryd.fx, Nat.reduceAdd, Nat.reducePow, Int.reducePow, Nat.reduceBEq, ↓reduceIte, UInt8.reduceToNat, UInt16.reduceToNat, UInt32.reduceToNat, UInt64.reduceToNat, Int.reduceToNat]; rfl), trivial, ?_⟩
  rfl
theorem turn_spec (x : UInt32) (a b c : Int) (ha : 0 ≤ a ∧ a ≤ 64) (hb : 0 ≤ b ∧ b ≤ 64) (hc : 0 ≤ c ∧ c ≤ 64) (w : World) : Rets Tryd.prog 173 #[v32 x, vi a, vi b, vi c] w (fun v D => v = v32 (turnV x a b c) ∧ D = []) := by
  refine Rets.enterV Tryd.func173 rfl (rs := [.tmp 8]) Tryd.results173 Tryd.ntmps173 ?_
  simp only [List.size_toArray, List.length_cons, List.length_nil, Nat.reduceAdd, Nat.reduceSub, List.replicate_succ, List.replicate_zero, List.cons_append, List.nil_append]
  ((try with_reducible refine Cw.go [] ?_); (try simp (disch := (first | assumption | omega | (simp only [lenS, lenT, UInt64.reduceToNat]; try omega))) only [↓Sx.S0, Sx.S1, Tryd.fx, Nat.reduceAdd, Nat.reducePow, Int.reducePow, Nat.reduceBEq, ↓reduceIte, UInt8.reduceToNat, UInt16.reduceToNat, UInt32.reduceToNat, UInt64.reduceToNat, Int.reduceToNat]))
  refine Cw.regionO [0, 1, 2, 4, 5, 6, 9, 10, 11, 3, 7, 8, 12, 13] [] rfl (by kernel_rfl) (by kernel_rfl) ?_
  simp only [nl_cons, ↓pickL_nil, ↓pickL_cons, ↓nthO_0, ↓nthO_s, consO_some]
  refine Ow.goQ ?_
  simp (disch := (first | assumption | omega | (simp only [lenS, lenT, UInt64.reduceToNat]; try omega))) only [↓Sx.S0, Sx.S1, Tryd.fx, Nat.reduceAdd, Nat.reducePow, Int.reducePow, Nat.reduceBEq, ↓reduceIte, UInt8.reduceToNat, UInt16.reduceToNat, UInt32.reduceToNat, UInt64.reduceToNat, Int.reduceToNat]
  refine Ow.callFV rfl Tryd.call181 (fun w' hw' => rotl_spec _ _ w') ?_
  refine Ow.goQ ?_
  simp (disch := (first | assumption | omega | (simp only [lenS, lenT, UInt64.reduceToNat]; try omega))) only [↓Sx.S0, Sx.S1, Tryd.fx, Nat.reduceAdd, Nat.reducePow, Int.reducePow, Nat.reduceBEq, ↓reduceIte, UInt8.reduceToNat, UInt16.reduceToNat, UInt32.reduceToNat, UInt64.reduceToNat, Int.reduceToNat]
  refine Ow.callFV rfl Tryd.call181 (fun w' hw' => rotl_spec _ _ w') ?_
  refine Ow.goQ ?_
  simp (disch := (first | assumption | omega | (simp only [lenS, lenT, UInt64.reduceToNat]; try omega))) only [↓Sx.S0, Sx.S1, Tryd.fx, Nat.reduceAdd, Nat.reducePow, Int.reducePow, Nat.reduceBEq, ↓reduceIte, UInt8.reduceToNat, UInt16.reduceToNat, UInt32.reduceToNat, UInt64.reduceToNat, Int.reduceToNat]
  ((try with_reducible refine Cw.go [] ?_); (try simp (disch := (first | assumption | omega | (simp only [lenS, lenT, UInt64.reduceToNat]; try omega))) only [↓Sx.S0, Sx.S1, Tryd.fx, Nat.reduceAdd, Nat.reducePow, Int.reducePow, Nat.reduceBEq, ↓reduceIte, UInt8.reduceToNat, UInt16.reduceToNat, UInt32.reduceToNat, UInt64.reduceToNat, Int.reduceToNat]))
  refine ⟨_, (by simp (disch := (first | assumption | omega | (simp only [lenS, lenT, UInt64.reduceToNat]; try omega))) only [↓Sx.S0, Sx.S1, Tryd.fx, Nat.reduceAdd, Nat.reducePow, Int.reducePow, Nat.reduceBEq, ↓reduceIte, UInt8.reduceToNat, UInt16.reduceToNat, UInt32.reduceToNat, UInt64.reduceToNat, Int.reduceToNat]; rfl), trivial, ?_⟩
  rfl
theorem spin_spec (x : UInt32) (a b c : Int) (ha : 0 ≤ a ∧ a ≤ 64) (hb : 0 ≤ b ∧ b ≤ 64) (hc : 0 ≤ c ∧ c ≤ 64) (w : World) : Rets Tryd.prog 174 #[v32 x, vi a, vi b, vi c] w (fun v D => v = v32 (spinV x a b c) ∧ D = []) := by
  refine Rets.enterV Tryd.func174 rfl (rs := [.tmp 8]) Tryd.results174 Tryd.ntmps174 ?_
  simp only [List.size_toArray, List.length_cons, List.length_nil, Nat.reduceAdd, Nat.reduceSub, List.replicate_succ, List.replicate_zero, List.cons_append, List.nil_append]
  ((try with_reducible refine Cw.go [] ?_); (try simp (disch := (first | assumption | omega | (simp only [lenS, lenT, UInt64.reduceToNat]; try omega))) only [↓Sx.S0, Sx.S1, Tryd.fx, Nat.reduceAdd, Nat.reducePow, Int.reducePow, Nat.reduceBEq, ↓reduceIte, UInt8.reduceToNat, UInt16.reduceToNat, UInt32.reduceToNat, UInt64.reduceToNat, Int.reduceToNat]))
  refine Ow.callFV rfl Tryd.call181 (fun w' hw' => rotl_spec _ _ w') ?_
  refine Ow.go rfl ?_
  simp (disch := (first | assumption | omega | (simp only [lenS, lenT, UInt64.reduceToNat]; try omega))) only [↓Sx.S0, Sx.S1, Tryd.fx, Nat.reduceAdd, Nat.reducePow, Int.reducePow, Nat.reduceBEq, ↓reduceIte, UInt8.reduceToNat, UInt16.reduceToNat, UInt32.reduceToNat, UInt64.reduceToNat, Int.reduceToNat]
  refine Ow.callFV rfl Tryd.call181 (fun w' hw' => rotl_spec _ _ w') ?_
  refine Ow.go rfl ?_
  simp (disch := (first | assumption | omega | (simp only [lenS, lenT, UInt64.reduceToNat]; try omega))) only [↓Sx.S0, Sx.S1, Tryd.fx, Nat.reduceAdd, Nat.reducePow, Int.reducePow, Nat.reduceBEq, ↓reduceIte, UInt8.reduceToNat, UInt16.reduceToNat, UInt32.reduceToNat, UInt64.reduceToNat, Int.reduceToNat]
  refine Ow.callFV rfl Tryd.call181 (fun w' hw' => rotl_spec _ _ w') ?_
  refine Ow.go rfl ?_
  simp (disch := (first | assumption | omega | (simp only [lenS, lenT, UInt64.reduceToNat]; try omega))) only [↓Sx.S0, Sx.S1, Tryd.fx, Nat.reduceAdd, Nat.reducePow, Int.reducePow, Nat.reduceBEq, ↓reduceIte, UInt8.reduceToNat, UInt16.reduceToNat, UInt32.reduceToNat, UInt64.reduceToNat, Int.reduceToNat]
  ((try with_reducible refine Cw.go [] ?_); (try simp (disch := (first | assumption | omega | (simp only [lenS, lenT, UInt64.reduceToNat]; try omega))) only [↓Sx.S0, Sx.S1, Tryd.fx, Nat.reduceAdd, Nat.reducePow, Int.reducePow, Nat.reduceBEq, ↓reduceIte, UInt8.reduceToNat, UInt16.reduceToNat, UInt32.reduceToNat, UInt64.reduceToNat, Int.reduceToNat]))
  refine ⟨_, (by simp (disch := (first | assumption | omega | (simp only [lenS, lenT, UInt64.reduceToNat]; try omega))) only [↓Sx.S0, Sx.S1, Tryd.fx, Nat.reduceAdd, Nat.reducePow, Int.reducePow, Nat.reduceBEq, ↓reduceIte, UInt8.reduceToNat, UInt16.reduceToNat, UInt32.reduceToNat, UInt64.reduceToNat, Int.reduceToNat]; rfl), trivial, ?_⟩
  rfl
theorem rounds_spec (w : World) : Rets Tryd.prog 134 #[] w (fun v D => v = .agg (a32 kL) ∧ D = []) := by
  refine Rets.enterV Tryd.func134 rfl (rs := [.cell 0 189]) Tryd.results134 Tryd.ntmps134 ?_
  simp only [List.size_toArray, List.length_cons, List.length_nil, Nat.reduceAdd, Nat.reduceSub, List.replicate_succ, List.replicate_zero, List.cons_append, List.nil_append]
  ((try with_reducible refine Cw.go [] ?_); (try simp (disch := (first | assumption | omega | (simp only [lenS, lenT, UInt64.reduceToNat]; try omega))) only [↓Sx.S0, Sx.S1, Tryd.fx, Nat.reduceAdd, Nat.reducePow, Int.reducePow, Nat.reduceBEq, ↓reduceIte, UInt8.reduceToNat, UInt16.reduceToNat, UInt32.reduceToNat, UInt64.reduceToNat, Int.reduceToNat]))
  have hkl : kL.length = 64 := rfl
  refine Ow.alloc rfl rfl Tryd.zr189 fun b1 _ hw1 => ?_
  refine Ow.go rfl ?_
  simp (disch := (first | assumption | omega | (simp only [lenS, lenT, UInt64.reduceToNat]; try omega))) only [↓Sx.S0, Sx.S1, Tryd.fx, Nat.reduceAdd, Nat.reducePow, Int.reducePow, Nat.reduceBEq, ↓reduceIte, UInt8.reduceToNat, UInt16.reduceToNat, UInt32.reduceToNat, UInt64.reduceToNat, Int.reduceToNat]
  ((try with_reducible refine Cw.go [] ?_); (try simp (disch := (first | assumption | omega | (simp only [lenS, lenT, UInt64.reduceToNat]; try omega))) only [↓Sx.S0, Sx.S1, Tryd.fx, Nat.reduceAdd, Nat.reducePow, Int.reducePow, Nat.reduceBEq, ↓reduceIte, UInt8.reduceToNat, UInt16.reduceToNat, UInt32.reduceToNat, UInt64.reduceToNat, Int.reduceToNat]))
  refine Ow.build (.agg (a32 kL)) rfl (by kernel_rfl) ?_
  refine Ow.go rfl ?_
  simp (disch := (first | assumption | omega | (simp only [lenS, lenT, UInt64.reduceToNat]; try omega))) only [↓Sx.S0, Sx.S1, Tryd.fx, Nat.reduceAdd, Nat.reducePow, Int.reducePow, Nat.reduceBEq, ↓reduceIte, UInt8.reduceToNat, UInt16.reduceToNat, UInt32.reduceToNat, UInt64.reduceToNat, Int.reduceToNat]
  ((try with_reducible refine Cw.go [] ?_); (try simp (disch := (first | assumption | omega | (simp only [lenS, lenT, UInt64.reduceToNat]; try omega))) only [↓Sx.S0, Sx.S1, Tryd.fx, Nat.reduceAdd, Nat.reducePow, Int.reducePow, Nat.reduceBEq, ↓reduceIte, UInt8.reduceToNat, UInt16.reduceToNat, UInt32.reduceToNat, UInt64.reduceToNat, Int.reduceToNat]))
  refine ⟨_, (by simp (disch := (first | assumption | omega | (simp only [lenS, lenT, UInt64.reduceToNat]; try omega))) only [↓Sx.S0, Sx.S1, Tryd.fx, Nat.reduceAdd, Nat.reducePow, Int.reducePow, Nat.reduceBEq, ↓reduceIte, UInt8.reduceToNat, UInt16.reduceToNat, UInt32.reduceToNat, UInt64.reduceToNat, Int.reduceToNat]; rfl), ⟨hw1, trivial⟩, ?_⟩
  rfl
end Go.Proofs
end
section
open Go Go.Proofs Go.Sx Go.Dig
namespace Go.Proofs
set_option maxRecDepth 10000
set_option maxHeartbeats 4000000
set_option linter.unusedSimpArgs false
set_option linter.defProp false
def uE3_1 := And.intro (And.intro (And.intro (And.intro (@load_hash0) (@load_hashS)) (And.intro (@load_hashR) (@load_hashR2))) (And.intro (And.intro (@load_hashM) (@load_hashT)) (And.intro (@load_hashSt) (@load_hashAll)))) (And.intro (And.intro (And.intro (@store_hashAll) (@store_hash0)) (And.intro (@store_hashS) (@store_hashR))) (And.intro (And.intro (@store_hashM) (@store_hashT)) (And.intro (@store_hashSt) (@getD_set_same))))
theorem take_spec (b : Nat) (bg : Bool) (st : List UInt32) (rest : List UInt8) (many : Int) (taken : UInt64) (w : World) (hG : GlobE w) (hb : 2 < b) (hs : st.length = 8) (hr : rest.length = 64)
    (ho : w.heap[b]? = some (.cells (hashC bg st rest many taken) 165 (0, 0))) :
    Rets Tryd.prog 154 #[vp b 0] w (fun v D => ∃ o, D = [(b, o)] ∧ v = .tuple #[] ∧ o = .cells (hashC bg (comp st rest) rest 0 taken) 165 (0, 0)) := by
  obtain ⟨e0, e1, f0, f1, h0, h1⟩ := hG
  have hbl := (Array.getElem?_eq_some_iff.1 ho).1
  have hkl : kL.length = 64 := rfl
  refine Rets.enterM Tryd.func154 rfl (rs := []) Tryd.results154 Tryd.ntmps154 ho ?_
  simp only [List.size_toArray, List.length_cons, List.length_nil, Nat.reduceAdd, Nat.reduceSub, List.replicate_succ, List.replicate_zero, List.cons_append, List.nil_append]
  ((try with_reducible refine Cw.go [] ?_); (try simp (disch := (first | assumption | omega | (simp only [lenS, lenT, UInt64.reduceToNat]; try omega))) only [↓Sx.S0, Sx.S1, Tryd.fx, uE3_1, Nat.reduceAdd, Nat.reducePow, Int.reducePow, Nat.reduceBEq, ↓reduceIte, UInt8.reduceToNat, UInt16.reduceToNat, UInt32.reduceToNat, UInt64.reduceToNat, Int.reduceToNat]))
  refine Ow.alloc rfl rfl Tryd.zr189 fun b1 hb1 hw1 => ?_
  obtain ⟨h01, -⟩ := hb1
  refine Ow.go rfl ?_
  simp (disch := (first | assumption | omega | (simp only [lenS, lenT, UInt64.reduceToNat]; try omega))) only [↓Sx.S0, Sx.S1, Tryd.fx, uE3_1, Nat.reduceAdd, Nat.reducePow, Int.reducePow, Nat.reduceBEq, ↓reduceIte, UInt8.reduceToNat, UInt16.reduceToNat, UInt32.reduceToNat, UInt64.reduceToNat, Int.reduceToNat]
  ((try with_reducible refine Cw.go [] ?_); (try simp (disch := (first | assumption | omega | (simp only [lenS, lenT, UInt64.reduceToNat]; try omega))) only [↓Sx.S0, Sx.S1, Tryd.fx, uE3_1, Nat.reduceAdd, Nat.reducePow, Int.reducePow, Nat.reduceBEq, ↓reduceIte, UInt8.reduceToNat, UInt16.reduceToNat, UInt32.reduceToNat, UInt64.reduceToNat, Int.reduceToNat]))
  rw [← wPre_zero rest]
  refine Cw.loopG (G := Nat) [14, 15, 3, 16, 17, 18, 19, 20, 21, 22, 23, 24, 25, 26, 27, 28, 29, 5, 30, 31, 32, 33, 34, 35, 36, 37, 38, 39, 40, 13] (fun g => [(13, vi g)]) (fun g => [(b, .cells (hashC bg st rest many taken) 165), (b1, .cells (a32 (wPre rest g)) 189)]) (fun g => g ≤ 16) (fun g => 16 - g) 0 rfl rfl ?_ ?_
  · omega
  intro g j hg
  simp only [overFrom, pin, setF_0, setF_s, List.contains_cons, List.contains_nil, Nat.reduceBEq, Bool.or_false, Bool.false_or, Bool.or_true, Bool.true_or, Nat.reduceAdd, ↓reduceIte, Bool.false_eq_true]
  have hlen := wPre_length rest g
  by_cases hlt : g < 16
  · ((try with_reducible refine Cw.go [] ?_); (try simp (disch := (first | assumption | omega | (simp only [lenS, lenT, UInt64.reduceToNat]; try omega))) only [↓Sx.S0, Sx.S1, Tryd.fx, uE3_1, Nat.reduceAdd, Nat.reducePow, Int.reducePow, Nat.reduceBEq, ↓reduceIte, UInt8.reduceToNat, UInt16.reduceToNat, UInt32.reduceToNat, UInt64.reduceToNat, Int.reduceToNat]))
    rw [wPre_set0 rest g]
    refine Cw.loopG (G := Nat) [27, 28, 29, 5, 30, 31, 32, 33, 34, 35, 36, 37, 38, 39, 26] (fun k => [(26, vi k)]) (fun k => [(b, .cells (hashC bg st rest many taken) 165 (0, 0)), (b1, .cells (a32 ((wPre rest g).set g (acc rest g k))) 189 (0, 0))]) (fun k => k ≤ 4) (fun k => 4 - k) 0 rfl rfl ?_ ?_
    · omega
    intro k jk hk
    simp only [overFrom, pin, setF_0, setF_s, List.contains_cons, List.contains_nil, Nat.reduceBEq, Bool.or_false, Bool.false_or, Bool.or_true, Bool.true_or, Nat.reduceAdd, ↓reduceIte, Bool.false_eq_true]
    by_cases hk4 : k < 4
    · ((try with_reducible refine Cw.go [] ?_); (try simp (disch := (first | assumption | omega | (simp only [lenS, lenT, UInt64.reduceToNat]; try omega))) only [↓Sx.S0, Sx.S1, Tryd.fx, uE3_1, Nat.reduceAdd, Nat.reducePow, Int.reducePow, Nat.reduceBEq, ↓reduceIte, UInt8.reduceToNat, UInt16.reduceToNat, UInt32.reduceToNat, UInt64.reduceToNat, Int.reduceToNat]))
      exact Again.mk (k + 1) (by omega) (by omega) rfl rfl
    · have hk : k = 4 := by omega
      subst hk
      ((try with_reducible refine Cw.go [] ?_); (try simp (disch := (first | assumption | omega | (simp only [lenS, lenT, UInt64.reduceToNat]; try omega))) only [↓Sx.S0, Sx.S1, Tryd.fx, uE3_1, Nat.reduceAdd, Nat.reducePow, Int.reducePow, Nat.reduceBEq, ↓reduceIte, UInt8.reduceToNat, UInt16.reduceToNat, UInt32.reduceToNat, UInt64.reduceToNat, Int.reduceToNat]))
      refine Again.mk (g + 1) (by omega) (by omega) ?_ rfl
      rw [acc_four, wPre_succ]
  · have hg16 : g = 16 := by omega
    subst hg16
    ((try with_reducible refine Cw.go [] ?_); (try simp (disch := (first | assumption | omega | (simp only [lenS, lenT, UInt64.reduceToNat]; try omega))) only [↓Sx.S0, Sx.S1, Tryd.fx, uE3_1, Nat.reduceAdd, Nat.reducePow, Int.reducePow, Nat.reduceBEq, ↓reduceIte, UInt8.reduceToNat, UInt16.reduceToNat, UInt32.reduceToNat, UInt64.reduceToNat, Int.reduceToNat]))
    rw [wG_start]
    refine Cw.loopG (G := Nat) [41, 42, 45, 46, 47, 48, 49, 50, 51, 52, 53, 54, 55, 56, 57, 58, 59, 60, 61, 62, 63, 64, 65, 66, 67, 43, 44, 6] (fun g => [(6, vi g)]) (fun g => [(b, .cells (hashC bg st rest many taken) 165 (0, 0)), (b1, .cells (a32 (wG rest g)) 189)]) (fun g => 16 ≤ g ∧ g ≤ 64) (fun g => 64 - g) 16 rfl rfl ?_ ?_
    · omega
    intro g j hg
    simp only [overFrom, pin, setF_0, setF_s, List.contains_cons, List.contains_nil, Nat.reduceBEq, Bool.or_false, Bool.false_or, Bool.or_true, Bool.true_or, Nat.reduceAdd, ↓reduceIte, Bool.false_eq_true]
    obtain ⟨hg1, hg2⟩ := hg
    have hlen := wG_length rest g
    by_cases hlt : g < 64
    · ((try with_reducible refine Cw.go [] ?_); (try simp (disch := (first | assumption | omega | (simp only [lenS, lenT, UInt64.reduceToNat]; try omega))) only [↓Sx.S0, Sx.S1, Tryd.fx, uE3_1, Nat.reduceAdd, Nat.reducePow, Int.reducePow, Nat.reduceBEq, ↓reduceIte, UInt8.reduceToNat, UInt16.reduceToNat, UInt32.reduceToNat, UInt64.reduceToNat, Int.reduceToNat]))
      refine Cw.regionO [0, 1, 2, 3, 6, 7, 8, 11, 12, 13, 17, 18, 19, 4, 9, 14, 20, 5, 10, 15, 16, 21, 22, 23] [23] rfl (by kernel_rfl) (by kernel_rfl) ?_
      simp only [nl_cons, ↓pickL_nil, ↓pickL_cons, ↓nthO_0, ↓nthO_s, consO_some]
      refine Ow.goQ ?_
      simp (disch := (first | assumption | omega | (simp only [lenS, lenT, UInt64.reduceToNat]; try omega))) only [↓Sx.S0, Sx.S1, Tryd.fx, uE3_1, Nat.reduceAdd, Nat.reducePow, Int.reducePow, Nat.reduceBEq, ↓reduceIte, UInt8.reduceToNat, UInt16.reduceToNat, UInt32.reduceToNat, UInt64.reduceToNat, Int.reduceToNat]
      refine Ow.callFV rfl Tryd.call173 (fun w' hw' => turn_spec _ _ _ _ (by omega) (by omega) (by omega) w') ?_
      refine Ow.goQ ?_
      simp (disch := (first | assumption | omega | (simp only [lenS, lenT, UInt64.reduceToNat]; try omega))) only [↓Sx.S0, Sx.S1, Tryd.fx, uE3_1, Nat.reduceAdd, Nat.reducePow, Int.reducePow, Nat.reduceBEq, ↓reduceIte, UInt8.reduceToNat, UInt16.reduceToNat, UInt32.reduceToNat, UInt64.reduceToNat, Int.reduceToNat]
      refine Ow.callFV rfl Tryd.call173 (fun w' hw' => turn_spec _ _ _ _ (by omega) (by omega) (by omega) w') ?_
      refine Ow.goQ ?_
      simp (disch := (first | assumption | omega | (simp only [lenS, lenT, UInt64.reduceToNat]; try omega))) only [↓Sx.S0, Sx.S1, Tryd.fx, uE3_1, Nat.reduceAdd, Nat.reducePow, Int.reducePow, Nat.reduceBEq, ↓reduceIte, UInt8.reduceToNat, UInt16.reduceToNat, UInt32.reduceToNat, UInt64.reduceToNat, Int.reduceToNat]
      refine Ow.store rfl rfl rfl (by simp (disch := (first | assumption | omega | (simp only [lenS, lenT, UInt64.reduceToNat]; try omega))) only [↓Sx.S0, Sx.S1, Tryd.fx, uE3_1, Nat.reduceAdd, Nat.reducePow, Int.reducePow, Nat.reduceBEq, ↓reduceIte, UInt8.reduceToNat, UInt16.reduceToNat, UInt32.reduceToNat, UInt64.reduceToNat, Int.reduceToNat]; rfl) ?_
      refine Ow.go rfl ?_
      simp (disch := (first | assumption | omega | (simp only [lenS, lenT, UInt64.reduceToNat]; try omega))) only [↓Sx.S0, Sx.S1, Tryd.fx, uE3_1, Nat.reduceAdd, Nat.reducePow, Int.reducePow, Nat.reduceBEq, ↓reduceIte, UInt8.reduceToNat, UInt16.reduceToNat, UInt32.reduceToNat, UInt64.reduceToNat, Int.reduceToNat]
      ((try with_reducible refine Cw.go [] ?_); (try simp (disch := (first | assumption | omega | (simp only [lenS, lenT, UInt64.reduceToNat]; try omega))) only [↓Sx.S0, Sx.S1, Tryd.fx, uE3_1, Nat.reduceAdd, Nat.reducePow, Int.reducePow, Nat.reduceBEq, ↓reduceIte, UInt8.reduceToNat, UInt16.reduceToNat, UInt32.reduceToNat, UInt64.reduceToNat, Int.reduceToNat]))
      refine Again.mk (g + 1) (by omega) (by omega) ?_ rfl
      rw [wG_succ rest g hg1, turn1, turn0]; rfl
    · have hg64 : g = 64 := by omega
      subst hg64
      rw [wG_all]
      have hwl := wAll_length rest
      ((try with_reducible refine Cw.go [] ?_); (try simp (disch := (first | assumption | omega | (simp only [lenS, lenT, UInt64.reduceToNat]; try omega))) only [↓Sx.S0, Sx.S1, Tryd.fx, uE3_1, Nat.reduceAdd, Nat.reducePow, Int.reducePow, Nat.reduceBEq, ↓reduceIte, UInt8.reduceToNat, UInt16.reduceToNat, UInt32.reduceToNat, UInt64.reduceToNat, Int.reduceToNat, h1]))
      refine Ow.alloc rfl rfl Tryd.zr161 fun b2 hb2 hw2 => ?_
      obtain ⟨h02, h12, -⟩ := hb2
      refine Ow.go rfl ?_
      simp (disch := (first | assumption | omega | (simp only [lenS, lenT, UInt64.reduceToNat]; try omega))) only [↓Sx.S0, Sx.S1, Tryd.fx, uE3_1, Nat.reduceAdd, Nat.reducePow, Int.reducePow, Nat.reduceBEq, ↓reduceIte, UInt8.reduceToNat, UInt16.reduceToNat, UInt32.reduceToNat, UInt64.reduceToNat, Int.reduceToNat, h1]
      ((try with_reducible refine Cw.go [] ?_); (try simp (disch := (first | assumption | omega | (simp only [lenS, lenT, UInt64.reduceToNat]; try omega))) only [↓Sx.S0, Sx.S1, Tryd.fx, uE3_1, Nat.reduceAdd, Nat.reducePow, Int.reducePow, Nat.reduceBEq, ↓reduceIte, UInt8.reduceToNat, UInt16.reduceToNat, UInt32.reduceToNat, UInt64.reduceToNat, Int.reduceToNat, h1]))
      refine Cw.loopG (G := Nat) [74, 75, 76, 8, 9, 77, 78, 79, 80, 81, 82, 83, 84, 85, 86, 87, 88, 89, 90, 91, 92, 93, 94, 95, 96, 97, 98, 99, 100, 101, 10, 102, 103, 104, 105, 106, 107, 108, 109, 110, 111, 112, 113, 114, 115, 116, 117, 118, 119, 120, 121, 122, 11, 123, 124, 125, 126, 127, 128, 129, 130, 131, 132, 133, 134, 135, 136, 137, 138, 139, 140, 141, 142, 143, 73] (fun g => [(73, vi g)]) (fun g => [(b, .cells (hashC bg st rest many taken) 165 (0, 0)), (b1, .cells (a32 (wAll rest)) 189), (b2, .cells (a32 (rGo st (wAll rest) g)) 161)]) (fun g => g ≤ 64) (fun g => 64 - g) 0 rfl rfl ?_ ?_
      · omega
      · intro g j hg
        simp only [overFrom, pin, setF_0, setF_s, List.contains_cons, List.contains_nil, Nat.reduceBEq, Bool.or_false, Bool.false_or, Bool.or_true, Bool.true_or, Nat.reduceAdd, ↓reduceIte, Bool.false_eq_true]
        have hrl := rGo_length st (wAll rest) g hs
        by_cases hlt : g < 64
        · ((try with_reducible refine Cw.go [] ?_); (try simp (disch := (first | assumption | omega | (simp only [lenS, lenT, UInt64.reduceToNat]; try omega))) only [↓Sx.S0, Sx.S1, Tryd.fx, uE3_1, Nat.reduceAdd, Nat.reducePow, Int.reducePow, Nat.reduceBEq, ↓reduceIte, UInt8.reduceToNat, UInt16.reduceToNat, UInt32.reduceToNat, UInt64.reduceToNat, Int.reduceToNat]))
          refine Cw.regionO [0, 2, 6, 8, 11, 14, 19, 21, 22, 1, 3, 7, 9, 10, 12, 13, 15, 16, 17, 23, 4, 5, 18, 20, 24, 25] [] rfl (by kernel_rfl) (by kernel_rfl) ?_
          simp only [nl_cons, ↓pickL_nil, ↓pickL_cons, ↓nthO_0, ↓nthO_s, consO_some]
          refine Ow.goQ ?_
          simp (disch := (first | assumption | omega | (simp only [lenS, lenT, UInt64.reduceToNat]; try omega))) only [↓Sx.S0, Sx.S1, Tryd.fx, uE3_1, Nat.reduceAdd, Nat.reducePow, Int.reducePow, Nat.reduceBEq, ↓reduceIte, UInt8.reduceToNat, UInt16.reduceToNat, UInt32.reduceToNat, UInt64.reduceToNat, Int.reduceToNat]
          refine Ow.callFV rfl Tryd.call174 (fun w' hw' => spin_spec _ _ _ _ (by omega) (by omega) (by omega) w') ?_
          refine Ow.goQ ?_
          simp (disch := (first | assumption | omega | (simp only [lenS, lenT, UInt64.reduceToNat]; try omega))) only [↓Sx.S0, Sx.S1, Tryd.fx, uE3_1, Nat.reduceAdd, Nat.reducePow, Int.reducePow, Nat.reduceBEq, ↓reduceIte, UInt8.reduceToNat, UInt16.reduceToNat, UInt32.reduceToNat, UInt64.reduceToNat, Int.reduceToNat]
          ((try with_reducible refine Cw.go [] ?_); (try simp (disch := (first | assumption | omega | (simp only [lenS, lenT, UInt64.reduceToNat]; try omega))) only [↓Sx.S0, Sx.S1, Tryd.fx, uE3_1, Nat.reduceAdd, Nat.reducePow, Int.reducePow, Nat.reduceBEq, ↓reduceIte, UInt8.reduceToNat, UInt16.reduceToNat, UInt32.reduceToNat, UInt64.reduceToNat, Int.reduceToNat]))
          refine Cw.regionO [0, 3, 5, 8, 10, 14, 16, 1, 4, 6, 7, 9, 11, 12, 13, 15, 17, 18, 19, 2, 20, 21] [] rfl (by kernel_rfl) (by kernel_rfl) ?_
          simp only [nl_cons, ↓pickL_nil, ↓pickL_cons, ↓nthO_0, ↓nthO_s, consO_some]
          refine Ow.goQ ?_
          simp (disch := (first | assumption | omega | (simp only [lenS, lenT, UInt64.reduceToNat]; try omega))) only [↓Sx.S0, Sx.S1, Tryd.fx, uE3_1, Nat.reduceAdd, Nat.reducePow, Int.reducePow, Nat.reduceBEq, ↓reduceIte, UInt8.reduceToNat, UInt16.reduceToNat, UInt32.reduceToNat, UInt64.reduceToNat, Int.reduceToNat]
          refine Ow.callFV rfl Tryd.call174 (fun w' hw' => spin_spec _ _ _ _ (by omega) (by omega) (by omega) w') ?_
          refine Ow.goQ ?_
          simp (disch := (first | assumption | omega | (simp only [lenS, lenT, UInt64.reduceToNat]; try omega))) only [↓Sx.S0, Sx.S1, Tryd.fx, uE3_1, Nat.reduceAdd, Nat.reducePow, Int.reducePow, Nat.reduceBEq, ↓reduceIte, UInt8.reduceToNat, UInt16.reduceToNat, UInt32.reduceToNat, UInt64.reduceToNat, Int.reduceToNat]
          ((try with_reducible refine Cw.go [] ?_); (try simp (disch := (first | assumption | omega | (simp only [lenS, lenT, UInt64.reduceToNat]; try omega))) only [↓Sx.S0, Sx.S1, Tryd.fx, uE3_1, Nat.reduceAdd, Nat.reducePow, Int.reducePow, Nat.reduceBEq, ↓reduceIte, UInt8.reduceToNat, UInt16.reduceToNat, UInt32.reduceToNat, UInt64.reduceToNat, Int.reduceToNat]))
          rw [spin1, spin0, ch_xor, maj_xor]
          refine Ow.build (.agg (a32 (rStep (rGo st (wAll rest) g) (kL.getD g 0) ((wAll rest).getD g 0)))) rfl (by kernel_rfl) ?_
          have hrl2 : (rStep (rGo st (wAll rest) g) (kL.getD g 0) ((wAll rest).getD g 0)).length = 8 := rfl
          refine Ow.go rfl ?_
          simp (disch := (first | assumption | omega | (simp only [lenS, lenT, UInt64.reduceToNat]; try omega))) only [↓Sx.S0, Sx.S1, Tryd.fx, uE3_1, Nat.reduceAdd, Nat.reducePow, Int.reducePow, Nat.reduceBEq, ↓reduceIte, UInt8.reduceToNat, UInt16.reduceToNat, UInt32.reduceToNat, UInt64.reduceToNat, Int.reduceToNat]
          ((try with_reducible refine Cw.go [] ?_); (try simp (disch := (first | assumption | omega | (simp only [lenS, lenT, UInt64.reduceToNat]; try omega))) only [↓Sx.S0, Sx.S1, Tryd.fx, uE3_1, Nat.reduceAdd, Nat.reducePow, Int.reducePow, Nat.reduceBEq, ↓reduceIte, UInt8.reduceToNat, UInt16.reduceToNat, UInt32.reduceToNat, UInt64.reduceToNat, Int.reduceToNat]))
          exact Again.mk (g + 1) (by omega) (by omega) rfl rfl
        · have hg64 : g = 64 := by omega
          subst hg64
          ((try with_reducible refine Cw.go [] ?_); (try simp (disch := (first | assumption | omega | (simp only [lenS, lenT, UInt64.reduceToNat]; try omega))) only [↓Sx.S0, Sx.S1, Tryd.fx, uE3_1, Nat.reduceAdd, Nat.reducePow, Int.reducePow, Nat.reduceBEq, ↓reduceIte, UInt8.reduceToNat, UInt16.reduceToNat, UInt32.reduceToNat, UInt64.reduceToNat, Int.reduceToNat]))
          rw [← addPre_zero st (rGo st (wAll rest) 64) hs]
          refine Cw.loopG (G := Nat) [145, 146, 12, 147, 148, 149, 150, 151, 152, 153, 154, 155, 156, 157, 158, 159, 160, 144] (fun k => [(144, vi k)]) (fun k => [(b, .cells (hashC bg (addPre st (rGo st (wAll rest) 64) k) rest many taken) 165 (0, 0)), (b1, .cells (a32 (wAll rest)) 189), (b2, .cells (a32 (rGo st (wAll rest) 64)) 161)]) (fun k => k ≤ 8) (fun k => 8 - k) 0 rfl rfl ?_ ?_
          · omega
          intro k jk hk
          simp only [overFrom, pin, setF_0, setF_s, List.contains_cons, List.contains_nil, Nat.reduceBEq, Bool.or_false, Bool.false_or, Bool.or_true, Bool.true_or, Nat.reduceAdd, ↓reduceIte, Bool.false_eq_true]
          have hal := addPre_length st (rGo st (wAll rest) 64) k
          by_cases hk8 : k < 8
          · ((try with_reducible refine Cw.go [] ?_); (try simp (disch := (first | assumption | omega | (simp only [lenS, lenT, UInt64.reduceToNat]; try omega))) only [↓Sx.S0, Sx.S1, Tryd.fx, uE3_1, Nat.reduceAdd, Nat.reducePow, Int.reducePow, Nat.reduceBEq, ↓reduceIte, UInt8.reduceToNat, UInt16.reduceToNat, UInt32.reduceToNat, UInt64.reduceToNat, Int.reduceToNat]))
            refine Cw.regionO [0, 1, 2, 3, 4, 6, 7, 10, 11, 5, 8, 9, 12, 13] [13] rfl (by kernel_rfl) (by kernel_rfl) ?_
            simp only [nl_cons, ↓pickL_nil, ↓pickL_cons, ↓nthO_0, ↓nthO_s, consO_some]
            refine Ow.goQ ?_
            simp (disch := (first | assumption | omega | (simp only [lenS, lenT, UInt64.reduceToNat]; try omega))) only [↓Sx.S0, Sx.S1, Tryd.fx, uE3_1, Nat.reduceAdd, Nat.reducePow, Int.reducePow, Nat.reduceBEq, ↓reduceIte, UInt8.reduceToNat, UInt16.reduceToNat, UInt32.reduceToNat, UInt64.reduceToNat, Int.reduceToNat]
            refine Ow.store rfl rfl rfl (by simp (disch := (first | assumption | omega | (simp only [lenS, lenT, UInt64.reduceToNat]; try omega))) only [↓Sx.S0, Sx.S1, Tryd.fx, uE3_1, Nat.reduceAdd, Nat.reducePow, Int.reducePow, Nat.reduceBEq, ↓reduceIte, UInt8.reduceToNat, UInt16.reduceToNat, UInt32.reduceToNat, UInt64.reduceToNat, Int.reduceToNat]; rfl) ?_
            refine Ow.go rfl ?_
            simp (disch := (first | assumption | omega | (simp only [lenS, lenT, UInt64.reduceToNat]; try omega))) only [↓Sx.S0, Sx.S1, Tryd.fx, uE3_1, Nat.reduceAdd, Nat.reducePow, Int.reducePow, Nat.reduceBEq, ↓reduceIte, UInt8.reduceToNat, UInt16.reduceToNat, UInt32.reduceToNat, UInt64.reduceToNat, Int.reduceToNat]
            ((try with_reducible refine Cw.go [] ?_); (try simp (disch := (first | assumption | omega | (simp only [lenS, lenT, UInt64.reduceToNat]; try omega))) only [↓Sx.S0, Sx.S1, Tryd.fx, uE3_1, Nat.reduceAdd, Nat.reducePow, Int.reducePow, Nat.reduceBEq, ↓reduceIte, UInt8.reduceToNat, UInt16.reduceToNat, UInt32.reduceToNat, UInt64.reduceToNat, Int.reduceToNat]))
            refine Again.mk (k + 1) (by omega) (by omega) ?_ rfl
            rw [← addPre_succ, addPre_get _ _ _ _ (by omega), if_neg (by omega)]
          · have hk8' : k = 8 := by omega
            subst hk8'
            ((try with_reducible refine Cw.go [] ?_); (try simp (disch := (first | assumption | omega | (simp only [lenS, lenT, UInt64.reduceToNat]; try omega))) only [↓Sx.S0, Sx.S1, Tryd.fx, uE3_1, Nat.reduceAdd, Nat.reducePow, Int.reducePow, Nat.reduceBEq, ↓reduceIte, UInt8.reduceToNat, UInt16.reduceToNat, UInt32.reduceToNat, UInt64.reduceToNat, Int.reduceToNat]))
            refine ⟨_, _, _, (by simp (disch := (first | assumption | omega | (simp only [lenS, lenT, UInt64.reduceToNat]; try omega))) only [↓Sx.S0, Sx.S1, Tryd.fx, uE3_1, Nat.reduceAdd, Nat.reducePow, Int.reducePow, Nat.reduceBEq, ↓reduceIte, UInt8.reduceToNat, UInt16.reduceToNat, UInt32.reduceToNat, UInt64.reduceToNat, Int.reduceToNat]; rfl), rfl, ⟨hw1, hw2, trivial⟩, ?_⟩
            exact ⟨rfl, rfl⟩
end Go.Proofs
end
section
open Go Go.Proofs Go.Sx Go.Dig
namespace Go.Proofs
set_option maxRecDepth 10000
set_option maxHeartbeats 1000000
set_option linter.unusedSimpArgs false
theorem ofInt_nat (n : Nat) : UInt64.ofInt (n : Int) = UInt64.ofNat n := by
  apply UInt64.toNat.inj
  rw [show UInt64.ofInt (n : Int) = UInt64.ofNat ((n : Int) % 2 ^ 64).toNat from rfl, UInt64.toNat_ofNat', UInt64.toNat_ofNat']
  omega
theorem nil45 (b o : Nat) : binX Tryd.prog .eql 186 (vp b o) (.pointer none) = some (.bool false) := by
  simp [binX, eqX, plainV, eqNilV, Tryd.underlying186, vp]
theorem nil45' : binX Tryd.prog .eql 186 (.pointer none) (.pointer none) = some (.bool true) := by
  simp [binX, eqX, plainV, eqNilV, Tryd.underlying186]
theorem nil45n (b o : Nat) : binX Tryd.prog .neq 186 (vp b o) (.pointer none) = some (.bool true) := by
  simp [binX, eqX, plainV, eqNilV, Tryd.underlying186, vp]
theorem nil45n' : binX Tryd.prog .neq 186 (.pointer none) (.pointer none) = some (.bool false) := by
  simp [binX, eqX, plainV, eqNilV, Tryd.underlying186]
set_option linter.defProp false
def uE4_1 := And.intro (And.intro (And.intro (And.intro (@load_hash0) (@load_hashS)) (And.intro (@load_hashR) (And.intro (@load_hashR2) (@load_hashM)))) (And.intro (And.intro (@load_hashT) (@load_hashSt)) (And.intro (@load_hashAll) (And.intro (@store_hashAll) (@store_hash0))))) (And.intro (And.intro (And.intro (@store_hashS) (@store_hashR)) (And.intro (@store_hashM) (And.intro (@store_hashT) (@store_hashSt)))) (And.intro (And.intro (@getD_set_same) (@nil45)) (And.intro (@nil45') (And.intro (@nil45n) (@nil45n')))))
theorem begin_spec (b : Nat) (bg : Bool) (st : List UInt32) (rest : List UInt8) (many : Int) (taken : UInt64) (w : World) (hG : GlobE w) (hb : 2 < b) (hs : st.length = 8) (hr : rest.length = 64)
    (ho : w.heap[b]? = some (.cells (hashC bg st rest many taken) 165 (0, 0))) :
    Rets Tryd.prog 130 #[vp b 0] w (fun v D => ∃ o, D = [(b, o)] ∧ v = .tuple #[] ∧ o = .cells (hashC true (if bg then st else initL) rest many taken) 165 (0, 0)) := by
  obtain ⟨e0, e1, f0, f1, h0, h1⟩ := hG
  have hil : initL.length = 8 := rfl
  refine Rets.enterM Tryd.func130 rfl (rs := []) Tryd.results130 Tryd.ntmps130 ho ?_
  simp only [List.size_toArray, List.length_cons, List.length_nil, Nat.reduceAdd, Nat.reduceSub, List.replicate_succ, List.replicate_zero, List.cons_append, List.nil_append]
  cases bg
  · ((try with_reducible refine Cw.go [] ?_); (try simp (disch := (first | assumption | omega | (simp only [lenS, lenT, UInt64.reduceToNat]; try omega))) only [↓Sx.S0, Sx.S1, Tryd.fx, uE4_1, Nat.reduceAdd, Nat.reducePow, Int.reducePow, Nat.reduceBEq, ↓reduceIte, UInt8.reduceToNat, UInt16.reduceToNat, UInt32.reduceToNat, UInt64.reduceToNat, Int.reduceToNat, h0]))
    refine ⟨_, _, _, (by simp (disch := (first | assumption | omega | (simp only [lenS, lenT, UInt64.reduceToNat]; try omega))) only [↓Sx.S0, Sx.S1, Tryd.fx, uE4_1, Nat.reduceAdd, Nat.reducePow, Int.reducePow, Nat.reduceBEq, ↓reduceIte, UInt8.reduceToNat, UInt16.reduceToNat, UInt32.reduceToNat, UInt64.reduceToNat, Int.reduceToNat]; rfl), rfl, trivial, ?_⟩
    exact ⟨rfl, rfl⟩
  · ((try with_reducible refine Cw.go [] ?_); (try simp (disch := (first | assumption | omega | (simp only [lenS, lenT, UInt64.reduceToNat]; try omega))) only [↓Sx.S0, Sx.S1, Tryd.fx, uE4_1, Nat.reduceAdd, Nat.reducePow, Int.reducePow, Nat.reduceBEq, ↓reduceIte, UInt8.reduceToNat, UInt16.reduceToNat, UInt32.reduceToNat, UInt64.reduceToNat, Int.reduceToNat, h0]))
    refine ⟨_, _, _, (by simp (disch := (first | assumption | omega | (simp only [lenS, lenT, UInt64.reduceToNat]; try omega))) only [↓Sx.S0, Sx.S1, Tryd.fx, uE4_1, Nat.reduceAdd, Nat.reducePow, Int.reducePow, Nat.reduceBEq, ↓reduceIte, UInt8.reduceToNat, UInt16.reduceToNat, UInt32.reduceToNat, UInt64.reduceToNat, Int.reduceToNat]; rfl), rfl, trivial, ?_⟩
    exact ⟨rfl, rfl⟩
theorem put_spec (b : Nat) (s : Hs) (taken : UInt64) (x : UInt8) (w : World) (hG : GlobE w) (hb : 2 < b) (hs : s.Ok)
    (ho : w.heap[b]? = some (.cells (hashH s taken) 165 (0, 0))) :
    Rets Tryd.prog 131 #[vp b 0, v8 x] w (fun v D => ∃ o, D = [(b, o)] ∧ v = .tuple #[] ∧ o = .cells (hashH (hput s x) taken) 165 (0, 0)) := by
  obtain ⟨st, rest, many⟩ := s
  obtain ⟨hst, hrt, hmn⟩ := hs
  simp only [hashH] at ho hst hrt hmn ⊢
  refine Rets.enterM Tryd.func131 rfl (rs := []) Tryd.results131 Tryd.ntmps131 ho ?_
  simp only [List.size_toArray, List.length_cons, List.length_nil, Nat.reduceAdd, Nat.reduceSub, List.replicate_succ, List.replicate_zero, List.cons_append, List.nil_append]
  ((try with_reducible refine Cw.go [] ?_); (try simp (disch := (first | assumption | omega | (simp only [lenS, lenT, UInt64.reduceToNat]; try omega))) only [↓Sx.S0, Sx.S1, Tryd.fx, uE4_1, Nat.reduceAdd, Nat.reducePow, Int.reducePow, Nat.reduceBEq, ↓reduceIte, UInt8.reduceToNat, UInt16.reduceToNat, UInt32.reduceToNat, UInt64.reduceToNat, Int.reduceToNat]))
  refine Cw.regionO [0, 1, 2, 3, 5, 6, 7, 4, 8, 9] [9] rfl (by kernel_rfl) (by kernel_rfl) ?_
  simp only [nl_cons, ↓pickL_nil, ↓pickL_cons, ↓nthO_0, ↓nthO_s, consO_some]
  refine Ow.goQ ?_
  simp (disch := (first | assumption | omega | (simp only [lenS, lenT, UInt64.reduceToNat]; try omega))) only [↓Sx.S0, Sx.S1, Tryd.fx, uE4_1, Nat.reduceAdd, Nat.reducePow, Int.reducePow, Nat.reduceBEq, ↓reduceIte, UInt8.reduceToNat, UInt16.reduceToNat, UInt32.reduceToNat, UInt64.reduceToNat, Int.reduceToNat]
  refine Ow.store rfl rfl rfl (by simp (disch := (first | assumption | omega | (simp only [lenS, lenT, UInt64.reduceToNat]; try omega))) only [↓Sx.S0, Sx.S1, Tryd.fx, uE4_1, Nat.reduceAdd, Nat.reducePow, Int.reducePow, Nat.reduceBEq, ↓reduceIte, UInt8.reduceToNat, UInt16.reduceToNat, UInt32.reduceToNat, UInt64.reduceToNat, Int.reduceToNat]; rfl) ?_
  refine Ow.go rfl ?_
  simp (disch := (first | assumption | omega | (simp only [lenS, lenT, UInt64.reduceToNat]; try omega))) only [↓Sx.S0, Sx.S1, Tryd.fx, uE4_1, Nat.reduceAdd, Nat.reducePow, Int.reducePow, Nat.reduceBEq, ↓reduceIte, UInt8.reduceToNat, UInt16.reduceToNat, UInt32.reduceToNat, UInt64.reduceToNat, Int.reduceToNat]
  ((try with_reducible refine Cw.go [] ?_); (try simp (disch := (first | assumption | omega | (simp only [lenS, lenT, UInt64.reduceToNat]; try omega))) only [↓Sx.S0, Sx.S1, Tryd.fx, uE4_1, Nat.reduceAdd, Nat.reducePow, Int.reducePow, Nat.reduceBEq, ↓reduceIte, UInt8.reduceToNat, UInt16.reduceToNat, UInt32.reduceToNat, UInt64.reduceToNat, Int.reduceToNat]))
  unfold hput
  by_cases h64 : many + 1 = 64
  · simp only [h64, ↓reduceIte]
    have h64' : (many : Int) + 1 = 64 := by omega
    have h63 : many = 63 := by omega
    subst h63
    rw [cd_it _ _ _ _ _ _ (by omega)]
    ((try with_reducible refine Cw.go [] ?_); (try simp (disch := (first | assumption | omega | (simp only [lenS, lenT, UInt64.reduceToNat]; try omega))) only [↓Sx.S0, Sx.S1, Tryd.fx, uE4_1, Nat.reduceAdd, Nat.reducePow, Int.reducePow, Nat.reduceBEq, ↓reduceIte, UInt8.reduceToNat, UInt16.reduceToNat, UInt32.reduceToNat, UInt64.reduceToNat, Int.reduceToNat]))
    refine Ow.callM rfl rfl Tryd.call154 (by simp [keys]) (fun w' hw' => take_spec _ _ _ _ _ _ w' (GlobE.of hG hw' (by simp [keys]; omega)) hb hst (by simp [hrt]) (hw'.has _ _ List.mem_cons_self)) ?_
    refine Ow.go rfl ?_
    simp (disch := (first | assumption | omega | (simp only [lenS, lenT, UInt64.reduceToNat]; try omega))) only [↓Sx.S0, Sx.S1, Tryd.fx, uE4_1, Nat.reduceAdd, Nat.reducePow, Int.reducePow, Nat.reduceBEq, ↓reduceIte, UInt8.reduceToNat, UInt16.reduceToNat, UInt32.reduceToNat, UInt64.reduceToNat, Int.reduceToNat]
    ((try with_reducible refine Cw.go [] ?_); (try simp (disch := (first | assumption | omega | (simp only [lenS, lenT, UInt64.reduceToNat]; try omega))) only [↓Sx.S0, Sx.S1, Tryd.fx, uE4_1, Nat.reduceAdd, Nat.reducePow, Int.reducePow, Nat.reduceBEq, ↓reduceIte, UInt8.reduceToNat, UInt16.reduceToNat, UInt32.reduceToNat, UInt64.reduceToNat, Int.reduceToNat]))
    refine ⟨_, _, _, (by simp (disch := (first | assumption | omega | (simp only [lenS, lenT, UInt64.reduceToNat]; try omega))) only [↓Sx.S0, Sx.S1, Tryd.fx, uE4_1, Nat.reduceAdd, Nat.reducePow, Int.reducePow, Nat.reduceBEq, ↓reduceIte, UInt8.reduceToNat, UInt16.reduceToNat, UInt32.reduceToNat, UInt64.reduceToNat, Int.reduceToNat]; rfl), rfl, trivial, ?_⟩
    exact ⟨rfl, rfl⟩
  · rw [cd_if _ _ _ _ _ _ (by omega)]
    simp only [h64, ↓reduceIte]
    ((try with_reducible refine Cw.go [] ?_); (try simp (disch := (first | assumption | omega | (simp only [lenS, lenT, UInt64.reduceToNat]; try omega))) only [↓Sx.S0, Sx.S1, Tryd.fx, uE4_1, Nat.reduceAdd, Nat.reducePow, Int.reducePow, Nat.reduceBEq, ↓reduceIte, UInt8.reduceToNat, UInt16.reduceToNat, UInt32.reduceToNat, UInt64.reduceToNat, Int.reduceToNat]))
    refine ⟨_, _, _, (by simp (disch := (first | assumption | omega | (simp only [lenS, lenT, UInt64.reduceToNat]; try omega))) only [↓Sx.S0, Sx.S1, Tryd.fx, uE4_1, Nat.reduceAdd, Nat.reducePow, Int.reducePow, Nat.reduceBEq, ↓reduceIte, UInt8.reduceToNat, UInt16.reduceToNat, UInt32.reduceToNat, UInt64.reduceToNat, Int.reduceToNat]; rfl), rfl, trivial, ?_⟩
    exact ⟨rfl, by rw [if_neg h64]; simp⟩
theorem write_spec1 (b : Nat) (bg : Bool) (s : Hs) (taken : UInt64) (x : Value) (b2 off : Nat) (l : List (List UInt8)) (arr : Array Value) (E : TypeId) (fz : Nat × Nat) (w : World) (hG : GlobE w) (hb : 2 < b) (hs : s.Ok) (hne : 0 < l.length → b ≠ b2)
    (hS : StrS w x l b2 off arr E fz) (hn : l.length < 1099511627776) (hz : ∀ i, i < l.length → (l.getD i []).length < 1099511627776)
    (ho : w.heap[b]? = some (.cells (hashC bg s.st s.rest s.many taken) 165 (0, 0))) :
    Rets Tryd.prog 102 #[vp b 0, x] w (fun v D => ∃ o, D = [(b, o)] ∧ v = .tuple #[] ∧ o = .cells (hashH (hputs (hbegin bg s) l.flatten) (takenL taken l)) 165 (0, 0)) := by
  obtain ⟨e0, e1, f0, f1, h0, h1⟩ := id hG
  obtain ⟨st, rest, many⟩ := s
  obtain ⟨hst, hrt, hmn⟩ := id hs
  simp only [hashH] at ho hst hrt hmn ⊢
  refine Rets.enterM Tryd.func102 rfl (rs := []) Tryd.results102 Tryd.ntmps102 ho ?_
  simp only [List.size_toArray, List.length_cons, List.length_nil, Nat.reduceAdd, Nat.reduceSub, List.replicate_succ, List.replicate_zero, List.cons_append, List.nil_append]
  ((try with_reducible refine Cw.go [] ?_); (try simp (disch := (first | assumption | omega | (simp only [lenS, lenT, UInt64.reduceToNat]; try omega))) only [↓Sx.S0, Sx.S1, Tryd.fx, uE4_1, Nat.reduceAdd, Nat.reducePow, Int.reducePow, Nat.reduceBEq, ↓reduceIte, UInt8.reduceToNat, UInt16.reduceToNat, UInt32.reduceToNat, UInt64.reduceToNat, Int.reduceToNat]))
  refine Ow.callM rfl rfl Tryd.call130 (by simp [keys]) (fun w' hw' => begin_spec _ _ _ _ _ _ w' (GlobE.of hG hw' (by simp [keys]; omega)) hb hst hrt (hw'.has _ _ List.mem_cons_self)) ?_
  refine Ow.go rfl ?_
  simp (disch := (first | assumption | omega | (simp only [lenS, lenT, UInt64.reduceToNat]; try omega))) only [↓Sx.S0, Sx.S1, Tryd.fx, uE4_1, Nat.reduceAdd, Nat.reducePow, Int.reducePow, Nat.reduceBEq, ↓reduceIte, UInt8.reduceToNat, UInt16.reduceToNat, UInt32.reduceToNat, UInt64.reduceToNat, Int.reduceToNat]
  ((try with_reducible refine Cw.go [] ?_); (try simp (disch := (first | assumption | omega | (simp only [lenS, lenT, UInt64.reduceToNat]; try omega))) only [↓Sx.S0, Sx.S1, Tryd.fx, uE4_1, Nat.reduceAdd, Nat.reducePow, Int.reducePow, Nat.reduceBEq, ↓reduceIte, UInt8.reduceToNat, UInt16.reduceToNat, UInt32.reduceToNat, UInt64.reduceToNat, Int.reduceToNat, hS.len]))
  have e : hashC true (if bg = true then st else initL) rest many taken = hashH (hputs (hbegin bg ⟨st, rest, many⟩) (l.take 0).flatten) (takenL taken (l.take 0)) := by cases bg <;> rfl
  rw [e]
  have hok0 := hbegin_ok bg hs
  generalize hbegin bg ⟨st, rest, many⟩ = S0 at *
  refine Cw.loopG (G := Nat) [14, 15, 16, 5, 17, 18, 19, 20, 21, 6, 22, 23, 24, 25, 26, 27, 28, 29, 30, 31, 32, 33, 34, 35, 36, 37, 38, 13] (fun g => [(13, vi g)]) (fun g => [(b, .cells (hashH (hputs S0 (l.take g).flatten) (takenL taken (l.take g))) 165 (0, 0))]) (fun g => g ≤ l.length) (fun g => l.length - g) 0 rfl rfl ?_ ?_
  · omega
  intro g j hg
  simp only [overFrom, pin, setF_0, setF_s, List.contains_cons, List.contains_nil, Nat.reduceBEq, Bool.or_false, Bool.false_or, Bool.or_true, Bool.true_or, Nat.reduceAdd, ↓reduceIte, Bool.false_eq_true]
  by_cases hlt : g < l.length
  · have hlg := hS.get g hlt
    have hb2 := hS.has (by omega)
    have hne2 := hne (by omega)
    have hzg := hz g hlt
    ((try with_reducible refine Cw.go [] ?_); (try simp (disch := (first | assumption | omega | (simp only [lenS, lenT, UInt64.reduceToNat]; try omega))) only [↓Sx.S0, Sx.S1, Tryd.fx, uE4_1, Nat.reduceAdd, Nat.reducePow, Int.reducePow, Nat.reduceBEq, ↓reduceIte, UInt8.reduceToNat, UInt16.reduceToNat, UInt32.reduceToNat, UInt64.reduceToNat, Int.reduceToNat, Sx.loadV_one, hb2, hlg, hS.idx]))
    have hok := hputs_ok (l.take g).flatten hok0
    rw [show hashH (hputs S0 (l.take g).flatten) (takenL taken (l.take g)) = hashH (hputs (hputs S0 (l.take g).flatten) ((l.getD g []).take 0)) (takenL taken (l.take g)) from rfl]
    refine Cw.loopG (G := Nat) [20, 21, 6, 22, 23, 24, 25, 26, 27, 19] (fun k => [(19, vi k)]) (fun k => [(b, .cells (hashH (hputs (hputs S0 (l.take g).flatten) ((l.getD g []).take k)) (takenL taken (l.take g))) 165 (0, 0))]) (fun k => k ≤ (l.getD g []).length) (fun k => (l.getD g []).length - k) 0 rfl rfl ?_ ?_
    · omega
    intro k jk hk
    simp only [overFrom, pin, setF_0, setF_s, List.contains_cons, List.contains_nil, Nat.reduceBEq, Bool.or_false, Bool.false_or, Bool.or_true, Bool.true_or, Nat.reduceAdd, ↓reduceIte, Bool.false_eq_true]
    by_cases hlk : k < (l.getD g []).length
    · ((try with_reducible refine Cw.go [] ?_); (try simp (disch := (first | assumption | omega | (simp only [lenS, lenT, UInt64.reduceToNat]; try omega))) only [↓Sx.S0, Sx.S1, Tryd.fx, uE4_1, Nat.reduceAdd, Nat.reducePow, Int.reducePow, Nat.reduceBEq, ↓reduceIte, UInt8.reduceToNat, UInt16.reduceToNat, UInt32.reduceToNat, UInt64.reduceToNat, Int.reduceToNat]))
      refine Ow.callM rfl rfl Tryd.call131 (by simp [keys]) (fun w' hw' => put_spec _ _ _ _ w' (GlobE.of hG hw' (by simp [keys]; omega)) hb (hputs_ok _ hok) (hw'.has _ _ List.mem_cons_self)) ?_
      refine Ow.go rfl ?_
      simp (disch := (first | assumption | omega | (simp only [lenS, lenT, UInt64.reduceToNat]; try omega))) only [↓Sx.S0, Sx.S1, Tryd.fx, uE4_1, Nat.reduceAdd, Nat.reducePow, Int.reducePow, Nat.reduceBEq, ↓reduceIte, UInt8.reduceToNat, UInt16.reduceToNat, UInt32.reduceToNat, UInt64.reduceToNat, Int.reduceToNat]
      ((try with_reducible refine Cw.go [] ?_); (try simp (disch := (first | assumption | omega | (simp only [lenS, lenT, UInt64.reduceToNat]; try omega))) only [↓Sx.S0, Sx.S1, Tryd.fx, uE4_1, Nat.reduceAdd, Nat.reducePow, Int.reducePow, Nat.reduceBEq, ↓reduceIte, UInt8.reduceToNat, UInt16.reduceToNat, UInt32.reduceToNat, UInt64.reduceToNat, Int.reduceToNat]))
      refine Again.mk (k + 1) (by omega) (by omega) ?_ rfl
      rw [hputs_succ _ _ _ hlk]
    · have hke : k = (l.getD g []).length := by omega
      subst hke
      have hok2 := hputs_ok (l.getD g []) hok
      have hok3 := hok2.st
      have hok4 := hok2.rest
      rw [List.take_length]
      unfold hashH
      ((try with_reducible refine Cw.go [] ?_); (try simp (disch := (first | assumption | omega | (simp only [lenS, lenT, UInt64.reduceToNat]; try omega))) only [↓Sx.S0, Sx.S1, Tryd.fx, uE4_1, Nat.reduceAdd, Nat.reducePow, Int.reducePow, Nat.reduceBEq, ↓reduceIte, UInt8.reduceToNat, UInt16.reduceToNat, UInt32.reduceToNat, UInt64.reduceToNat, Int.reduceToNat]))
      refine Again.mk (g + 1) (by omega) (by omega) ?_ rfl
      rw [flatten_succ _ _ hlt, hputs_append, takenL_succ _ _ _ hlt, show UInt64.ofInt ((l.getD g []).length : Int) = UInt64.ofNat (l.getD g []).length from ofInt_nat _]
  · have hge : g = l.length := by omega
    subst hge
    ((try with_reducible refine Cw.go [] ?_); (try simp (disch := (first | assumption | omega | (simp only [lenS, lenT, UInt64.reduceToNat]; try omega))) only [↓Sx.S0, Sx.S1, Tryd.fx, uE4_1, Nat.reduceAdd, Nat.reducePow, Int.reducePow, Nat.reduceBEq, ↓reduceIte, UInt8.reduceToNat, UInt16.reduceToNat, UInt32.reduceToNat, UInt64.reduceToNat, Int.reduceToNat]))
    rw [List.take_length]
    refine ⟨_, _, _, (by simp (disch := (first | assumption | omega | (simp only [lenS, lenT, UInt64.reduceToNat]; try omega))) only [↓Sx.S0, Sx.S1, Tryd.fx, uE4_1, Nat.reduceAdd, Nat.reducePow, Int.reducePow, Nat.reduceBEq, ↓reduceIte, UInt8.reduceToNat, UInt16.reduceToNat, UInt32.reduceToNat, UInt64.reduceToNat, Int.reduceToNat]; rfl), rfl, trivial, ?_⟩
    exact ⟨rfl, rfl⟩
end Go.Proofs
end
namespace Go.Dig
open Go.Sx
/-- The places that are filled with noughts. -/
def zeros (m : Nat) : Nat := (120 - m) % 64
def lenB (t : UInt64) (g : Nat) : UInt8 := UInt8.ofNat (shr_u64 (8 * t) (56 - 8 * g)).toNat
def len8 (t : UInt64) : List UInt8 := (List.range 8).map (lenB t)
def outB (st : List UInt32) (j : Nat) : UInt8 := UInt8.ofNat (shr_u32 (st.getD (j / 4) 0) (24 - 8 * (j % 4))).toNat
def outPre (st : List UInt32) (k : Nat) : List UInt8 := (List.range 32).map fun j => if j < k then outB st j else 0
def padded (s : Hs) (taken : UInt64) : Hs := hputs (hputs (hput s 128) (List.replicate (zeros (hput s 128).many) 0)) (len8 taken)
def hsum (s : Hs) (taken : UInt64) : List UInt8 := outPre (padded s taken).st 32
def H0 : Hs := ⟨initL, List.replicate 64 0, 0⟩
theorem H0_ok : H0.Ok := ⟨rfl, by simp [H0], by show (0 : Nat) < 64; omega⟩
def sumV (l : List (List UInt8)) : List UInt8 := hsum (hputs H0 l.flatten) (takenL 0 l)
theorem hput_many {s : Hs} (x : UInt8) (h : s.Ok) : (hput s x).many = (s.many + 1) % 64 := by
  have := h.many
  unfold hput
  split
  · show 0 = _; omega
  · show s.many + 1 = _; omega
theorem hputs_many {s : Hs} (l : List UInt8) (h : s.Ok) : (hputs s l).many = (s.many + l.length) % 64 := by
  induction l generalizing s with
  | nil => have := h.many; show s.many = _; simp; omega
  | cons x r ih =>
    show (hputs (hput s x) r).many = _
    rw [ih (hput_ok x h), hput_many x h, List.length_cons]; omega
theorem hputs_rep (s : Hs) (x : UInt8) (j : Nat) : hputs s (List.replicate (j + 1) x) = hput (hputs s (List.replicate j x)) x := by
  rw [List.replicate_succ', hputs_append]; rfl
theorem outPre_length (st : List UInt32) (k : Nat) : (outPre st k).length = 32 := by simp [outPre]
theorem outPre_zero (st : List UInt32) : outPre st 0 = List.replicate 32 0 := by
  apply List.ext_getElem
  · simp [outPre]
  intro k hk1 hk2
  simp only [outPre, List.getElem_map, List.getElem_range, List.getElem_replicate]
  rw [if_neg (by omega)]
theorem outPre_succ (st : List UInt32) (k : Nat) : (outPre st k).set k (outB st k) = outPre st (k + 1) := by
  apply List.ext_getElem
  · simp [outPre]
  intro j hk1 hk2
  rw [List.getElem_set]
  by_cases h : k = j
  · subst h; simp [outPre]
  · rw [if_neg h]
    simp only [outPre, List.getElem_map, List.getElem_range]
    by_cases h1 : j < k
    · rw [if_pos h1, if_pos (by omega)]
    · rw [if_neg h1, if_neg (by omega)]
theorem outB_at (st : List UInt32) (i r : Nat) (h : r < 4) : outB st (4 * i + r) = UInt8.ofNat (shr_u32 (st.getD i 0) (24 - 8 * r)).toNat := by
  unfold outB
  rw [show (4 * i + r) / 4 = i by omega, show (4 * i + r) % 4 = r by omega]
theorem shr_u32_zero (x : UInt32) : shr_u32 x 0 = x := by
  apply UInt32.toNat.inj
  have := x.toNat_lt
  rw [shr_u32, UInt32.toNat_ofNat']
  simp
theorem outPre_four (st : List UInt32) (i : Nat) :
    ((((outPre st (4 * i)).set (4 * i) (UInt8.ofNat (shr_u32 (st.getD i 0) 24).toNat)).set (4 * i + 1) (UInt8.ofNat (shr_u32 (st.getD i 0) 16).toNat)).set (4 * i + 2) (UInt8.ofNat (shr_u32 (st.getD i 0) 8).toNat)).set (4 * i + 3) (UInt8.ofNat (st.getD i 0).toNat) = outPre st (4 * (i + 1)) := by
  have h0 := outB_at st i 0 (by omega)
  have h1 := outB_at st i 1 (by omega)
  have h2 := outB_at st i 2 (by omega)
  have h3 := outB_at st i 3 (by omega)
  rw [Nat.add_zero] at h0
  rw [show 24 - 8 * 3 = 0 from rfl, shr_u32_zero] at h3
  rw [← h3, ← h2, ← h1, ← h0, outPre_succ, outPre_succ, outPre_succ, outPre_succ]
  rw [show 4 * (i + 1) = 4 * i + 1 + 1 + 1 + 1 by omega]
theorem len8_length (t : UInt64) : (len8 t).length = 8 := by simp [len8]
theorem len8_getD (t : UInt64) (g : Nat) (h : g < 8) : (len8 t).getD g 0 = lenB t g := by simp [len8, List.getD_eq_getElem?_getD, h]
end Go.Dig
section
open Go Go.Proofs Go.Sx Go.Dig
namespace Go.Proofs
set_option maxRecDepth 10000
set_option maxHeartbeats 1000000
set_option linter.unusedSimpArgs false
set_option linter.defProp false
def uE5_1 := And.intro (And.intro (And.intro (And.intro (@load_hash0) (@load_hashS)) (And.intro (@load_hashR) (And.intro (@load_hashR2) (@load_hashM)))) (And.intro (And.intro (@load_hashT) (@load_hashSt)) (And.intro (@load_hashAll) (And.intro (@store_hashAll) (@store_hash0))))) (And.intro (And.intro (And.intro (@store_hashS) (@store_hashR)) (And.intro (@store_hashM) (And.intro (@store_hashT) (@store_hashSt)))) (And.intro (And.intro (@getD_set_same) (@nil45)) (And.intro (@nil45') (And.intro (@nil45n) (@nil45n')))))
theorem zrHash : zeroV Tryd.prog 165 = some (.agg (hashC false (List.replicate 8 0) (List.replicate 64 0) 0 0)) := id (by kernel_rfl)
theorem cells_hash (bg : Bool) (st : List UInt32) (rest : List UInt8) (many : Int) (taken : UInt64) : Value.cells (.agg (hashC bg st rest many taken)) = hashC bg st rest many taken := cells_agg _
theorem store_hashHash {bg bg' : Bool} {st st' : List UInt32} {rest rest' : List UInt8} {many many' : Int} {taken taken' : UInt64} {E : TypeId} (h : st.length = 8 ∧ rest.length = 64 ∧ st'.length = 8 ∧ rest'.length = 64) :
    storeV (some (true, 75)) (some (.cells (hashC bg' st' rest' many' taken') E (0, 0))) 0 (.agg (hashC bg st rest many taken)) = some (.cells (hashC bg st rest many taken) E (0, 0)) :=
  store_hashAll _ ⟨h.1, h.2.1, hash_size h.2.2⟩
theorem hsum_spec (b : Nat) (bg : Bool) (s : Hs) (taken : UInt64) (w : World) (hG : GlobE w) (hb : 2 < b) (hs : s.Ok)
    (ho : w.heap[b]? = some (.cells (hashC bg s.st s.rest s.many taken) 165 (0, 0))) :
    Rets Tryd.prog 103 #[vp b 0] w (fun v D => v = .agg (a8 (hsum (hbegin bg s) taken)) ∧ D = []) := by
  obtain ⟨e0, e1, f0, f1, h0, h1⟩ := id hG
  obtain ⟨st, rest, many⟩ := s
  obtain ⟨hst, hrt, hmn⟩ := id hs
  simp only at ho hst hrt hmn ⊢
  refine Rets.enterV Tryd.func103 rfl (rs := [.cell 2 40]) Tryd.results103 Tryd.ntmps103 ?_
  simp only [List.size_toArray, List.length_cons, List.length_nil, Nat.reduceAdd, Nat.reduceSub, List.replicate_succ, List.replicate_zero, List.cons_append, List.nil_append]
  ((try with_reducible refine Cw.go [] ?_); (try simp (disch := (first | assumption | omega | (simp only [lenS, lenT, UInt64.reduceToNat]; try omega))) only [↓Sx.S0, Sx.S1, Tryd.fx, uE5_1, Nat.reduceAdd, Nat.reducePow, Int.reducePow, Nat.reduceBEq, ↓reduceIte, UInt8.reduceToNat, UInt16.reduceToNat, UInt32.reduceToNat, UInt64.reduceToNat, Int.reduceToNat]))
  refine Ow.alloc rfl rfl Tryd.zr40 fun b1 hb1 hw1 => ?_
  refine Ow.go rfl ?_
  simp (disch := (first | assumption | omega | (simp only [lenS, lenT, UInt64.reduceToNat]; try omega))) only [↓Sx.S0, Sx.S1, Tryd.fx, uE5_1, Nat.reduceAdd, Nat.reducePow, Int.reducePow, Nat.reduceBEq, ↓reduceIte, UInt8.reduceToNat, UInt16.reduceToNat, UInt32.reduceToNat, UInt64.reduceToNat, Int.reduceToNat]
  ((try with_reducible refine Cw.go [] ?_); (try simp (disch := (first | assumption | omega | (simp only [lenS, lenT, UInt64.reduceToNat]; try omega))) only [↓Sx.S0, Sx.S1, Tryd.fx, uE5_1, Nat.reduceAdd, Nat.reducePow, Int.reducePow, Nat.reduceBEq, ↓reduceIte, UInt8.reduceToNat, UInt16.reduceToNat, UInt32.reduceToNat, UInt64.reduceToNat, Int.reduceToNat]))
  refine Ow.alloc rfl rfl zrHash fun b2 hb2 hw2 => ?_
  obtain ⟨h12, -⟩ := hb2
  have hbl := (Array.getElem?_eq_some_iff.1 ho).1
  rw [cells_hash]
  refine Ow.go rfl ?_
  simp (disch := (first | assumption | omega | (simp only [lenS, lenT, UInt64.reduceToNat]; try omega))) only [↓Sx.S0, Sx.S1, Tryd.fx, uE5_1, Nat.reduceAdd, Nat.reducePow, Int.reducePow, Nat.reduceBEq, ↓reduceIte, UInt8.reduceToNat, UInt16.reduceToNat, UInt32.reduceToNat, UInt64.reduceToNat, Int.reduceToNat]
  ((try with_reducible refine Cw.go [] ?_); (try simp (disch := (first | assumption | omega | (simp only [lenS, lenT, UInt64.reduceToNat]; try omega))) only [↓Sx.S0, Sx.S1, Tryd.fx, uE5_1, Nat.reduceAdd, Nat.reducePow, Int.reducePow, Nat.reduceBEq, ↓reduceIte, UInt8.reduceToNat, UInt16.reduceToNat, UInt32.reduceToNat, UInt64.reduceToNat, Int.reduceToNat, ho, store_hashHash]))
  refine Ow.callM rfl rfl Tryd.call130 (by simp [keys]) (fun w' hw' => begin_spec _ _ _ _ _ _ w' (GlobE.of hG hw' (by simp [keys]; omega)) (by omega) hst hrt (hw'.has _ _ (List.mem_cons_of_mem _ List.mem_cons_self))) ?_
  refine Ow.go rfl ?_
  simp (disch := (first | assumption | omega | (simp only [lenS, lenT, UInt64.reduceToNat]; try omega))) only [↓Sx.S0, Sx.S1, Tryd.fx, uE5_1, Nat.reduceAdd, Nat.reducePow, Int.reducePow, Nat.reduceBEq, ↓reduceIte, UInt8.reduceToNat, UInt16.reduceToNat, UInt32.reduceToNat, UInt64.reduceToNat, Int.reduceToNat]
  ((try with_reducible refine Cw.go [] ?_); (try simp (disch := (first | assumption | omega | (simp only [lenS, lenT, UInt64.reduceToNat]; try omega))) only [↓Sx.S0, Sx.S1, Tryd.fx, uE5_1, Nat.reduceAdd, Nat.reducePow, Int.reducePow, Nat.reduceBEq, ↓reduceIte, UInt8.reduceToNat, UInt16.reduceToNat, UInt32.reduceToNat, UInt64.reduceToNat, Int.reduceToNat]))
  have e : hashC true (if bg = true then st else initL) rest many taken = hashH (hbegin bg ⟨st, rest, many⟩) taken := by cases bg <;> rfl
  rw [e]
  have hok0 := hbegin_ok bg hs
  generalize hbegin bg ⟨st, rest, many⟩ = S0 at *
  refine Ow.callM rfl rfl Tryd.call131 (by simp [keys]) (fun w' hw' => put_spec _ _ _ 128 w' (GlobE.of hG hw' (by simp [keys]; omega)) (by omega) hok0 (hw'.has _ _ (List.mem_cons_of_mem _ List.mem_cons_self))) ?_
  refine Ow.go rfl ?_
  simp (disch := (first | assumption | omega | (simp only [lenS, lenT, UInt64.reduceToNat]; try omega))) only [↓Sx.S0, Sx.S1, Tryd.fx, uE5_1, Nat.reduceAdd, Nat.reducePow, Int.reducePow, Nat.reduceBEq, ↓reduceIte, UInt8.reduceToNat, UInt16.reduceToNat, UInt32.reduceToNat, UInt64.reduceToNat, Int.reduceToNat]
  have hok1 := hput_ok 128 hok0
  have ep : padded S0 taken = hputs (hputs (hput S0 128) (List.replicate (zeros (hput S0 128).many) 0)) (len8 taken) := rfl
  unfold hsum
  rw [ep]
  generalize hput S0 128 = S1 at *
  ((try with_reducible refine Cw.go [] ?_); (try simp (disch := (first | assumption | omega | (simp only [lenS, lenT, UInt64.reduceToNat]; try omega))) only [↓Sx.S0, Sx.S1, Tryd.fx, uE5_1, Nat.reduceAdd, Nat.reducePow, Int.reducePow, Nat.reduceBEq, ↓reduceIte, UInt8.reduceToNat, UInt16.reduceToNat, UInt32.reduceToNat, UInt64.reduceToNat, Int.reduceToNat]))
  rw [show hashH S1 taken = hashH (hputs S1 (List.replicate 0 0)) taken from rfl]
  have hz : (S1.many + zeros S1.many) % 64 = 56 ∧ zeros S1.many < 64 := by have := hok1.many; unfold zeros; omega
  refine Cw.loopG (G := Nat) [15, 16, 17, 18] (fun g => []) (fun g => [(b1, .cells (a8 (List.replicate 32 0)) 40 (0, 0)), (b2, .cells (hashH (hputs S1 (List.replicate g 0)) taken) 165 (0, 0))]) (fun g => g ≤ zeros S1.many) (fun g => zeros S1.many - g) 0 rfl rfl ?_ ?_
  · omega
  intro g j hg
  simp only [overFrom, pin, setF_0, setF_s, List.contains_cons, List.contains_nil, Nat.reduceBEq, Bool.or_false, Bool.false_or, Bool.or_true, Bool.true_or, Nat.reduceAdd, ↓reduceIte, Bool.false_eq_true]
  have hokg := hputs_ok (List.replicate g 0) hok1
  have hm := hputs_many (List.replicate g 0) hok1
  rw [List.length_replicate] at hm
  have hg1 := hokg.st
  have hg2 := hokg.rest
  by_cases hlt : g < zeros S1.many
  · have hzz : (S1.many + g) % 64 ≠ 56 := by have := hok1.many; unfold zeros at hlt; omega
    unfold hashH
    ((try with_reducible refine Cw.go [] ?_); (try simp (disch := (first | assumption | omega | (simp only [lenS, lenT, UInt64.reduceToNat]; try omega))) only [↓Sx.S0, Sx.S1, Tryd.fx, uE5_1, Nat.reduceAdd, Nat.reducePow, Int.reducePow, Nat.reduceBEq, ↓reduceIte, UInt8.reduceToNat, UInt16.reduceToNat, UInt32.reduceToNat, UInt64.reduceToNat, Int.reduceToNat]))
    refine Ow.callM rfl rfl Tryd.call131 (by simp [keys]) (fun w' hw' => put_spec _ _ _ 0 w' (GlobE.of hG hw' (by simp [keys]; omega)) (by omega) hokg (hw'.has _ _ (List.mem_cons_of_mem _ List.mem_cons_self))) ?_
    refine Ow.go rfl ?_
    simp (disch := (first | assumption | omega | (simp only [lenS, lenT, UInt64.reduceToNat]; try omega))) only [↓Sx.S0, Sx.S1, Tryd.fx, uE5_1, Nat.reduceAdd, Nat.reducePow, Int.reducePow, Nat.reduceBEq, ↓reduceIte, UInt8.reduceToNat, UInt16.reduceToNat, UInt32.reduceToNat, UInt64.reduceToNat, Int.reduceToNat]
    ((try with_reducible refine Cw.go [] ?_); (try simp (disch := (first | assumption | omega | (simp only [lenS, lenT, UInt64.reduceToNat]; try omega))) only [↓Sx.S0, Sx.S1, Tryd.fx, uE5_1, Nat.reduceAdd, Nat.reducePow, Int.reducePow, Nat.reduceBEq, ↓reduceIte, UInt8.reduceToNat, UInt16.reduceToNat, UInt32.reduceToNat, UInt64.reduceToNat, Int.reduceToNat]))
    refine Again.mk (g + 1) (by omega) (by omega) ?_ rfl
    rw [hputs_rep]; rfl
  · have hge : g = zeros S1.many := by omega
    subst hge
    unfold hashH
    ((try with_reducible refine Cw.go [] ?_); (try simp (disch := (first | assumption | omega | (simp only [lenS, lenT, UInt64.reduceToNat]; try omega))) only [↓Sx.S0, Sx.S1, Tryd.fx, uE5_1, Nat.reduceAdd, Nat.reducePow, Int.reducePow, Nat.reduceBEq, ↓reduceIte, UInt8.reduceToNat, UInt16.reduceToNat, UInt32.reduceToNat, UInt64.reduceToNat, Int.reduceToNat]))
    generalize hputs S1 (List.replicate (zeros S1.many) 0) = S2 at *
    rw [show hashC true S2.st S2.rest S2.many taken = hashH (hputs S2 ((len8 taken).take 0)) taken from rfl]
    have h8 := len8_length taken
    refine Cw.loopG (G := Nat) [19, 20, 23, 24, 25, 26, 27, 28, 29, 21, 22, 4] (fun k => [(4, vi (56 - 8 * k))]) (fun k => [(b1, .cells (a8 (List.replicate 32 0)) 40 (0, 0)), (b2, .cells (hashH (hputs S2 ((len8 taken).take k)) taken) 165 (0, 0))]) (fun k => k ≤ 8) (fun k => 8 - k) 0 rfl rfl ?_ ?_
    · omega
    intro k jk hk
    simp only [overFrom, pin, setF_0, setF_s, List.contains_cons, List.contains_nil, Nat.reduceBEq, Bool.or_false, Bool.false_or, Bool.or_true, Bool.true_or, Nat.reduceAdd, ↓reduceIte, Bool.false_eq_true]
    have hokk := hputs_ok ((len8 taken).take k) hokg
    have hk1 := hokk.st
    have hk2 := hokk.rest
    by_cases hk8 : k < 8
    · unfold hashH
      ((try with_reducible refine Cw.go [] ?_); (try simp (disch := (first | assumption | omega | (simp only [lenS, lenT, UInt64.reduceToNat]; try omega))) only [↓Sx.S0, Sx.S1, Tryd.fx, uE5_1, Nat.reduceAdd, Nat.reducePow, Int.reducePow, Nat.reduceBEq, ↓reduceIte, UInt8.reduceToNat, UInt16.reduceToNat, UInt32.reduceToNat, UInt64.reduceToNat, Int.reduceToNat]))
      rw [show (56 - 8 * (k : Int)).toNat = 56 - 8 * k from by omega]
      refine Ow.callM rfl rfl Tryd.call131 (by simp [keys]) (fun w' hw' => put_spec _ _ _ (lenB taken k) w' (GlobE.of hG hw' (by simp [keys]; omega)) (by omega) hokk (hw'.has _ _ (List.mem_cons_of_mem _ List.mem_cons_self))) ?_
      refine Ow.go rfl ?_
      simp (disch := (first | assumption | omega | (simp only [lenS, lenT, UInt64.reduceToNat]; try omega))) only [↓Sx.S0, Sx.S1, Tryd.fx, uE5_1, Nat.reduceAdd, Nat.reducePow, Int.reducePow, Nat.reduceBEq, ↓reduceIte, UInt8.reduceToNat, UInt16.reduceToNat, UInt32.reduceToNat, UInt64.reduceToNat, Int.reduceToNat]
      ((try with_reducible refine Cw.go [] ?_); (try simp (disch := (first | assumption | omega | (simp only [lenS, lenT, UInt64.reduceToNat]; try omega))) only [↓Sx.S0, Sx.S1, Tryd.fx, uE5_1, Nat.reduceAdd, Nat.reducePow, Int.reducePow, Nat.reduceBEq, ↓reduceIte, UInt8.reduceToNat, UInt16.reduceToNat, UInt32.reduceToNat, UInt64.reduceToNat, Int.reduceToNat]))
      refine Again.mk (k + 1) (by omega) (by omega) ?_ ?_
      · rw [hputs_succ _ _ _ (by omega), len8_getD _ _ hk8]; rfl
      · rw [show (56 - 8 * ((k + 1 : Nat) : Int)) = 56 - 8 * (k : Int) - 8 from by omega]; rfl
    · have hke : k = 8 := by omega
      subst hke
      ((try with_reducible refine Cw.go [] ?_); (try simp (disch := (first | assumption | omega | (simp only [lenS, lenT, UInt64.reduceToNat]; try omega))) only [↓Sx.S0, Sx.S1, Tryd.fx, uE5_1, Nat.reduceAdd, Nat.reducePow, Int.reducePow, Nat.reduceBEq, ↓reduceIte, UInt8.reduceToNat, UInt16.reduceToNat, UInt32.reduceToNat, UInt64.reduceToNat, Int.reduceToNat]))
      rw [List.take_of_length_le (show (len8 taken).length ≤ 8 by omega)] at *
      generalize hputs S2 (len8 taken) = S3 at *
      refine Ow.alloc rfl rfl Tryd.zr40 fun b3 hb3 hw3 => ?_
      obtain ⟨h13, h23, -⟩ := hb3
      unfold hashH
      refine Ow.go rfl ?_
      simp (disch := (first | assumption | omega | (simp only [lenS, lenT, UInt64.reduceToNat]; try omega))) only [↓Sx.S0, Sx.S1, Tryd.fx, uE5_1, Nat.reduceAdd, Nat.reducePow, Int.reducePow, Nat.reduceBEq, ↓reduceIte, UInt8.reduceToNat, UInt16.reduceToNat, UInt32.reduceToNat, UInt64.reduceToNat, Int.reduceToNat]
      ((try with_reducible refine Cw.go [] ?_); (try simp (disch := (first | assumption | omega | (simp only [lenS, lenT, UInt64.reduceToNat]; try omega))) only [↓Sx.S0, Sx.S1, Tryd.fx, uE5_1, Nat.reduceAdd, Nat.reducePow, Int.reducePow, Nat.reduceBEq, ↓reduceIte, UInt8.reduceToNat, UInt16.reduceToNat, UInt32.reduceToNat, UInt64.reduceToNat, Int.reduceToNat]))
      rw [show a8 (List.replicate 32 0) = a8 (outPre S3.st (4 * 0)) from by rw [outPre_zero]]
      have h3s := (hputs_ok (len8 taken) hokg).st
      have hS3 : S3.st.length = 8 := hk1
      refine Cw.loopG (G := Nat) [33, 34, 35, 6, 7, 36, 37, 38, 39, 40, 41, 42, 43, 44, 45, 46, 47, 48, 49, 50, 51, 52, 53, 54, 55, 56, 57, 58, 59, 60, 61, 62, 32] (fun i => [(32, vi i)]) (fun i => [(b1, .cells (a8 (outPre S3.st (4 * 0))) 40 (0, 0)), (b2, .cells (hashC true S3.st S3.rest S3.many taken) 165 (0, 0)), (b3, .cells (a8 (outPre S3.st (4 * i))) 40 (0, 0))]) (fun i => i ≤ 8) (fun i => 8 - i) 0 rfl rfl ?_ ?_
      · omega
      intro i ji hi
      simp only [overFrom, pin, setF_0, setF_s, List.contains_cons, List.contains_nil, Nat.reduceBEq, Bool.or_false, Bool.false_or, Bool.or_true, Bool.true_or, Nat.reduceAdd, ↓reduceIte, Bool.false_eq_true]
      have hol := outPre_length S3.st (4 * i)
      have hol0 := outPre_length S3.st (4 * 0)
      by_cases hi8 : i < 8
      · ((try with_reducible refine Cw.go [] ?_); (try simp (disch := (first | assumption | omega | (simp only [lenS, lenT, UInt64.reduceToNat]; try omega))) only [↓Sx.S0, Sx.S1, Tryd.fx, uE5_1, Nat.reduceAdd, Nat.reducePow, Int.reducePow, Nat.reduceBEq, ↓reduceIte, UInt8.reduceToNat, UInt16.reduceToNat, UInt32.reduceToNat, UInt64.reduceToNat, Int.reduceToNat]))
        refine Again.mk (i + 1) (by omega) (by omega) ?_ rfl
        rw [outPre_four]
      · have hie : i = 8 := by omega
        subst hie
        ((try with_reducible refine Cw.go [] ?_); (try simp (disch := (first | assumption | omega | (simp only [lenS, lenT, UInt64.reduceToNat]; try omega))) only [↓Sx.S0, Sx.S1, Tryd.fx, uE5_1, Nat.reduceAdd, Nat.reducePow, Int.reducePow, Nat.reduceBEq, ↓reduceIte, UInt8.reduceToNat, UInt16.reduceToNat, UInt32.reduceToNat, UInt64.reduceToNat, Int.reduceToNat]))
        rw [show 4 * 8 = 32 from rfl]
        refine ⟨_, (by simp (disch := (first | assumption | omega | (simp only [lenS, lenT, UInt64.reduceToNat]; try omega))) only [↓Sx.S0, Sx.S1, Tryd.fx, uE5_1, Nat.reduceAdd, Nat.reducePow, Int.reducePow, Nat.reduceBEq, ↓reduceIte, UInt8.reduceToNat, UInt16.reduceToNat, UInt32.reduceToNat, UInt64.reduceToNat, Int.reduceToNat]; rfl), ⟨hw1, hw2, hw3, trivial⟩, ?_⟩
        rfl
end Go.Proofs
end
section
open Go Go.Proofs Go.Sx Go.Dig
namespace Go.Proofs
set_option maxRecDepth 10000
set_option maxHeartbeats 1000000
set_option linter.unusedSimpArgs false
set_option linter.defProp false
def uE6_1 := And.intro (And.intro (And.intro (And.intro (@load_hash0) (@load_hashS)) (And.intro (@load_hashR) (And.intro (@load_hashR2) (@load_hashM)))) (And.intro (And.intro (@load_hashT) (@load_hashSt)) (And.intro (@load_hashAll) (And.intro (@store_hashAll) (@store_hash0))))) (And.intro (And.intro (And.intro (@store_hashS) (@store_hashR)) (And.intro (@store_hashM) (And.intro (@store_hashT) (@store_hashSt)))) (And.intro (And.intro (@getD_set_same) (@nil45)) (And.intro (@nil45') (And.intro (@nil45n) (@nil45n')))))
theorem dsum_spec (x : Value) (b2 off : Nat) (l : List (List UInt8)) (arr : Array Value) (E : TypeId) (fz : Nat × Nat) (w : World) (hG : GlobE w)
    (hS : StrS w x l b2 off arr E fz) (hn : l.length < 1099511627776) (hz : ∀ i, i < l.length → (l.getD i []).length < 1099511627776) :
    Rets Tryd.prog 63 #[x] w (fun v D => v = .agg (a8 (sumV l)) ∧ D = []) := by
  obtain ⟨e0, e1, f0, f1, h0, h1⟩ := id hG
  have hg1 : 2 < w.heap.size := (Array.getElem?_eq_some_iff.1 h1).1
  have hbl : 0 < l.length → b2 < w.heap.size := fun h => (Array.getElem?_eq_some_iff.1 (hS.has h)).1
  refine Rets.enterV Tryd.func63 rfl (rs := [.cell 2 40]) Tryd.results63 Tryd.ntmps63 ?_
  simp only [List.size_toArray, List.length_cons, List.length_nil, Nat.reduceAdd, Nat.reduceSub, List.replicate_succ, List.replicate_zero, List.cons_append, List.nil_append]
  ((try with_reducible refine Cw.go [] ?_); (try simp (disch := (first | assumption | omega | (simp only [lenS, lenT, UInt64.reduceToNat]; try omega))) only [↓Sx.S0, Sx.S1, Tryd.fx, uE6_1, Nat.reduceAdd, Nat.reducePow, Int.reducePow, Nat.reduceBEq, ↓reduceIte, UInt8.reduceToNat, UInt16.reduceToNat, UInt32.reduceToNat, UInt64.reduceToNat, Int.reduceToNat]))
  refine Ow.alloc rfl rfl Tryd.zr40 fun b1 hb1 hw1 => ?_
  refine Ow.go rfl ?_
  simp (disch := (first | assumption | omega | (simp only [lenS, lenT, UInt64.reduceToNat]; try omega))) only [↓Sx.S0, Sx.S1, Tryd.fx, uE6_1, Nat.reduceAdd, Nat.reducePow, Int.reducePow, Nat.reduceBEq, ↓reduceIte, UInt8.reduceToNat, UInt16.reduceToNat, UInt32.reduceToNat, UInt64.reduceToNat, Int.reduceToNat]
  ((try with_reducible refine Cw.go [] ?_); (try simp (disch := (first | assumption | omega | (simp only [lenS, lenT, UInt64.reduceToNat]; try omega))) only [↓Sx.S0, Sx.S1, Tryd.fx, uE6_1, Nat.reduceAdd, Nat.reducePow, Int.reducePow, Nat.reduceBEq, ↓reduceIte, UInt8.reduceToNat, UInt16.reduceToNat, UInt32.reduceToNat, UInt64.reduceToNat, Int.reduceToNat]))
  refine Ow.alloc rfl rfl zrHash fun b3 hb3 hw3 => ?_
  obtain ⟨h13, -⟩ := hb3
  rw [cells_hash]
  refine Ow.go rfl ?_
  simp (disch := (first | assumption | omega | (simp only [lenS, lenT, UInt64.reduceToNat]; try omega))) only [↓Sx.S0, Sx.S1, Tryd.fx, uE6_1, Nat.reduceAdd, Nat.reducePow, Int.reducePow, Nat.reduceBEq, ↓reduceIte, UInt8.reduceToNat, UInt16.reduceToNat, UInt32.reduceToNat, UInt64.reduceToNat, Int.reduceToNat]
  ((try with_reducible refine Cw.go [] ?_); (try simp (disch := (first | assumption | omega | (simp only [lenS, lenT, UInt64.reduceToNat]; try omega))) only [↓Sx.S0, Sx.S1, Tryd.fx, uE6_1, Nat.reduceAdd, Nat.reducePow, Int.reducePow, Nat.reduceBEq, ↓reduceIte, UInt8.reduceToNat, UInt16.reduceToNat, UInt32.reduceToNat, UInt64.reduceToNat, Int.reduceToNat]))
  refine Ow.callM rfl rfl Tryd.call102 (by simp [keys]) (fun w' hw' => write_spec1 _ _ ⟨List.replicate 8 0, List.replicate 64 0, 0⟩ _ _ _ _ _ _ _ _ w' (GlobE.of hG hw' (by simp [keys]; omega)) (by omega) ⟨by simp, by simp, by simp⟩ (fun h => by have := hbl h; omega) (hS.old hw' (fun h => by have := hbl h; simp [keys]; omega)) hn hz (hw'.has _ _ (List.mem_cons_of_mem _ List.mem_cons_self))) ?_
  refine Ow.go rfl ?_
  simp (disch := (first | assumption | omega | (simp only [lenS, lenT, UInt64.reduceToNat]; try omega))) only [↓Sx.S0, Sx.S1, Tryd.fx, uE6_1, Nat.reduceAdd, Nat.reducePow, Int.reducePow, Nat.reduceBEq, ↓reduceIte, UInt8.reduceToNat, UInt16.reduceToNat, UInt32.reduceToNat, UInt64.reduceToNat, Int.reduceToNat]
  ((try with_reducible refine Cw.go [] ?_); (try simp (disch := (first | assumption | omega | (simp only [lenS, lenT, UInt64.reduceToNat]; try omega))) only [↓Sx.S0, Sx.S1, Tryd.fx, uE6_1, Nat.reduceAdd, Nat.reducePow, Int.reducePow, Nat.reduceBEq, ↓reduceIte, UInt8.reduceToNat, UInt16.reduceToNat, UInt32.reduceToNat, UInt64.reduceToNat, Int.reduceToNat]))
  have hok := hputs_ok l.flatten H0_ok
  have e : hbegin false ⟨List.replicate 8 0, List.replicate 64 0, 0⟩ = H0 := rfl
  rw [e]
  refine Ow.callFV rfl Tryd.call103 (fun w' hw' => hsum_spec _ true _ _ w' (GlobE.of hG hw' (by simp [keys]; omega)) (by omega) hok (hw'.has _ _ (List.mem_cons_of_mem _ List.mem_cons_self))) ?_
  have hsl : (hsum (hbegin true (hputs H0 l.flatten)) (takenL 0 l)).length = 32 := outPre_length _ _
  refine Ow.go rfl ?_
  simp (disch := (first | assumption | omega | (simp only [lenS, lenT, UInt64.reduceToNat]; try omega))) only [↓Sx.S0, Sx.S1, Tryd.fx, uE6_1, Nat.reduceAdd, Nat.reducePow, Int.reducePow, Nat.reduceBEq, ↓reduceIte, UInt8.reduceToNat, UInt16.reduceToNat, UInt32.reduceToNat, UInt64.reduceToNat, Int.reduceToNat]
  ((try with_reducible refine Cw.go [] ?_); (try simp (disch := (first | assumption | omega | (simp only [lenS, lenT, UInt64.reduceToNat]; try omega))) only [↓Sx.S0, Sx.S1, Tryd.fx, uE6_1, Nat.reduceAdd, Nat.reducePow, Int.reducePow, Nat.reduceBEq, ↓reduceIte, UInt8.reduceToNat, UInt16.reduceToNat, UInt32.reduceToNat, UInt64.reduceToNat, Int.reduceToNat]))
  refine ⟨_, (by simp (disch := (first | assumption | omega | (simp only [lenS, lenT, UInt64.reduceToNat]; try omega))) only [↓Sx.S0, Sx.S1, Tryd.fx, uE6_1, Nat.reduceAdd, Nat.reducePow, Int.reducePow, Nat.reduceBEq, ↓reduceIte, UInt8.reduceToNat, UInt16.reduceToNat, UInt32.reduceToNat, UInt64.reduceToNat, Int.reduceToNat]; rfl), ⟨hw1, hw3, trivial⟩, ?_⟩
  rfl
end Go.Proofs
end
namespace Go.Dig
open Go.Sx
/-- The bits' number, cut byte by byte. -/
def quoN (t : UInt64) : Nat → UInt64
  | 0 => t
  | n + 1 => quoN t n / 256
theorem quoN_toNat (t : UInt64) (n : Nat) : (quoN t n).toNat = t.toNat / 256 ^ n := by
  induction n with
  | zero => simp [quoN]
  | succ n ih =>
    show (quoN t n / 256).toNat = _
    rw [UInt64.toNat_div, ih, Nat.pow_succ, Nat.div_div_eq_div_mul]; rfl
def lenBB (t : UInt64) (j : Nat) : UInt8 := UInt8.ofNat (shr_u64 t (56 - 8 * j)).toNat
theorem lenBB_eq (t : UInt64) (i : Nat) (h : i < 8) : UInt8.ofNat (quoN t i % 256).toNat = lenBB t (7 - i) := by
  apply UInt8.toNat.inj
  unfold lenBB
  rw [UInt8.toNat_ofNat', UInt8.toNat_ofNat', UInt64.toNat_mod, quoN_toNat, shr_u64, UInt64.toNat_ofNat']
  have e : 56 - 8 * (7 - i) = 8 * i := by omega
  have ht := t.toNat_lt
  have hd : t.toNat / 2 ^ (8 * i) ≤ t.toNat := Nat.div_le_self _ _
  rw [e, Nat.mod_eq_of_lt (a := t.toNat / 2 ^ (8 * i)) (by omega)]
  have e2 : 256 ^ i = 2 ^ (8 * i) := by rw [Nat.pow_mul]
  rw [e2, show (256 : UInt64).toNat = 256 from rfl]
  omega
def tailPre (t : UInt64) (i : Nat) : List UInt8 := (List.range 8).map fun j => if 8 ≤ j + i then lenBB t j else 0
theorem tailPre_length (t : UInt64) (i : Nat) : (tailPre t i).length = 8 := by simp [tailPre]
theorem tailPre_zero (t : UInt64) : tailPre t 0 = List.replicate 8 0 := by
  apply List.ext_getElem
  · simp [tailPre]
  intro k hk1 hk2
  have : k < 8 := by simpa [tailPre] using hk1
  simp only [tailPre, List.getElem_map, List.getElem_range, List.getElem_replicate]
  rw [if_neg (by omega)]
theorem tailPre_succ (t : UInt64) (i : Nat) (h : i < 8) : (tailPre t i).set (7 - i) (UInt8.ofNat (quoN t i % 256).toNat) = tailPre t (i + 1) := by
  rw [lenBB_eq t i h]
  apply List.ext_getElem
  · simp [tailPre]
  intro j hj1 hj2
  have hj : j < 8 := by simpa [tailPre] using hj2
  rw [List.getElem_set]
  by_cases h1 : 7 - i = j
  · rw [if_pos h1]
    simp only [tailPre, List.getElem_map, List.getElem_range]
    rw [if_pos (by omega), h1]
  · rw [if_neg h1]
    simp only [tailPre, List.getElem_map, List.getElem_range]
    by_cases h2 : 8 ≤ j + i
    · rw [if_pos h2, if_pos (by omega)]
    · rw [if_neg h2, if_neg (by omega)]
theorem tailPre_all (t : UInt64) : tailPre (8 * t) 8 = len8 t := by
  unfold tailPre len8
  apply List.map_congr_left
  intro j hj
  rw [if_pos (by omega)]; rfl
/-- The text that the document cuts into blocks. -/
def padR (m : List UInt8) : List UInt8 := m ++ [128] ++ List.replicate (zeros ((m.length + 1) % 64)) 0 ++ len8 (UInt64.ofNat m.length)
theorem zeros_spec (n : Nat) : (n + zeros (n % 64)) % 64 = 56 ∧ zeros (n % 64) < 64 := by unfold zeros; omega
theorem padR_length (m : List UInt8) : (padR m).length % 64 = 0 ∧ (padR m).length ≤ m.length + 72 := by
  have := zeros_spec (m.length + 1)
  simp only [padR, List.length_append, List.length_replicate, len8_length, List.length_cons, List.length_nil]
  omega
/-- The document's digest. -/
def shaR (m : List UInt8) : List UInt8 := outPre (comps initL (padR m) ((padR m).length / 64)) 32
theorem addPre_all (st s : List UInt32) : addPre st s 8 = [st.getD 0 0 + s.getD 0 0, st.getD 1 0 + s.getD 1 0, st.getD 2 0 + s.getD 2 0, st.getD 3 0 + s.getD 3 0, st.getD 4 0 + s.getD 4 0, st.getD 5 0 + s.getD 5 0, st.getD 6 0 + s.getD 6 0, st.getD 7 0 + s.getD 7 0] := rfl
end Go.Dig
