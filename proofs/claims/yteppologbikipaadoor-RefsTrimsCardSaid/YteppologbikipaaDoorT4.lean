/-
  Part 4 of the walk: contracts of the functions that the law reaches, and the calculus they stand on.
  No conditions.
-/
import Derived.Test.YteppologbikipaaDoorT3
import Derived.ProofKit
import Derived.OpenShut
import Derived.WideKeyArgs
import Derived.ChangeSame
import Derived.ChangeMaps5
import Derived.Lib.LaidTab
import Derived.SliceStrings
import Derived.DataReads
section
open Go Go.Proofs Go.Sx Go.RefP
namespace Go.Proofs
set_option maxRecDepth 10000
set_option maxHeartbeats 4000000
set_option linter.unusedSimpArgs false
theorem prs_inj : ∀ {a b : List RefL}, prs a = prs b → a = b
  | [], [], _ => rfl
  | [], _ :: _, h => by cases h
  | _ :: _, [], h => by cases h
  | ⟨n, i, hi⟩ :: a, ⟨n2, i2, hi2⟩ :: b, h => by
    unfold prs at h
    simp only [List.map_cons, List.cons.injEq, Prod.mk.injEq] at h
    obtain ⟨⟨rfl, rfl⟩, h⟩ := h
    rw [prs_inj (show prs a = prs b from h)]
/-- Two rising lists of the same are one. -/
theorem rising_one : ∀ {a b : Vals}, Rising a → Rising b → a.Perm b → a = b
  | [], b, _, _, h => (List.Perm.nil_eq h)
  | x :: a, [], _, _, h => by have := h.length_eq; simp at this
  | x :: a, y :: b, ha, hb, h => by
    have hxy : x = y := by
      rcases List.mem_cons.1 (h.mem_iff.1 (List.mem_cons_self (a := x) (l := a))) with e | e
      · exact e
      · rcases List.mem_cons.1 (h.mem_iff.2 (List.mem_cons_self (a := y) (l := b))) with e2 | e2
        · exact e2.symm
        · have h1 := (List.pairwise_cons.1 ha).1 y e2
          have h2 := (List.pairwise_cons.1 hb).1 x e
          rw [ltB_asymm h1] at h2; cases h2
    subst hxy
    rw [rising_one (List.pairwise_cons.1 ha).2 (List.pairwise_cons.1 hb).2 ((List.perm_cons x).1 h)]
/-- What is sorted is the document's. -/
theorem sorted_one {o l' ls : List RefL} {m : Vals} (ho : (prs o).Perm m) (hr : Rel m (prs ls)) (hp : l'.Perm o) (hs : l'.Pairwise (fun x y => ltB y.name x.name = false)) : l' = ls := by
  have h1 : (prs l').Perm (prs ls) := ((hp.map _).trans ho).trans hr.1
  refine prs_inj (rising_one ?_ hr.2 h1)
  have hnd : ((prs l').map Prod.fst).Nodup := ((h1.map Prod.fst).nodup_iff).2 hr.2.nd
  unfold prs at hnd ⊢
  rw [List.map_map] at hnd
  unfold Rising
  rw [List.pairwise_map]
  have hne : l'.Pairwise (fun x y => x.name ≠ y.name) := List.pairwise_map.1 hnd
  refine (hs.and hne).imp ?_
  rintro x y ⟨ha, hb⟩
  exact ltB_total ha fun e => hb e.symm
def toR (p : List UInt8 × List UInt8) : RefL := ⟨p.1, mkId p.2⟩
theorem toR_pr {p : List UInt8 × List UInt8} (h : p.2.length = 32) : (toR p).name = p.1 ∧ (toR p).id.l = p.2 := by
  unfold toR; exact ⟨rfl, by show (mkId p.2).l = p.2; rw [mkId_eq h]⟩
theorem tp1 (a : Value) : (#[a] : Array Value)[0]? = some a := rfl
theorem tp3 (a b c : Value) : (#[a, b, c] : Array Value)[0]? = some a := rfl
structure LG where
  v : Value
  o : List RefL
  D : Heap
  it : Obj
  lf : Vals
set_option linter.defProp false
def uWZ2_1 := And.intro (And.intro (And.intro (And.intro (@rdIn_v8) (@rdIn_v16)) (And.intro (@rdIn_v32) (@rdIn_v64))) (And.intro (And.intro (@rdIn_vi) (@load_ref0)) (And.intro (@load_ref1) (And.intro (@cells_ref) (@eqIdz))))) (And.intro (And.intro (And.intro (@store_rr) (@load_ref)) (And.intro (@load_bk0) (@load_bk1))) (And.intro (And.intro (@load_bk) (@tup2_0)) (And.intro (@tup2_1) (And.intro (@tp1) (@tp3)))))
theorem list_spec (b : Nat) (om : Obj) (m : Vals) (ls : List RefL) (w : World) (ho : w.heap[b]? = some om) (hm : MapR om m) (hr : Rel m (prs ls)) (hlen : ls.length < 1000) :
    Rets Tryd.prog 73 #[vm b] w (XS w [] (fun v D => GrI D 42 33 v ls.length (ls.map refC).flatten)) := by
  have hbl := (Array.getElem?_eq_some_iff.1 ho).1
  have hml : m.length = ls.length := by rw [hr.1.length_eq, prs_len]
  have hid : ∀ p, p ∈ m → p.2.length = 32 := fun p hp => by
    have h1 := (hr.1.mem_iff).1 hp
    unfold prs at h1
    obtain ⟨r, -, rfl⟩ := List.mem_map.1 h1
    exact r.id.h
  have zrId : zeroV Tryd.prog 40 = some (.agg (a8 (List.replicate 32 0))) := Tryd.zr40
  rw [show (List.replicate 32 (0 : UInt8)) = z32 from rfl] at zrId
  refine Rets.enterX Tryd.func73 rfl (rs := [.tmp 2]) Tryd.results73 Tryd.ntmps73 (fun p hp => by cases hp) (by simp [keys]) ?_
  simp only [List.size_toArray, List.length_cons, List.length_nil, Nat.reduceAdd, Nat.reduceSub, List.replicate_succ, List.replicate_zero, List.cons_append, List.nil_append]
  ((try with_reducible refine Cw.go [] ?_); (try simp (disch := (first | assumption | omega | (simp only [lenS, lenT, UInt64.reduceToNat]; try omega))) only [↓Sx.S0, Sx.S1, Tryd.fx, uWZ2_1, Nat.reduceAdd, Nat.reducePow, Int.reducePow, Nat.reduceBEq, ↓reduceIte, UInt8.reduceToNat, UInt16.reduceToNat, UInt32.reduceToNat, UInt64.reduceToNat, Int.reduceToNat]))
  refine Ow.rangeMap rfl rfl Tryd.underlying126 rfl ho hm fun bi oi hbi hwi hI => ?_
  refine Ow.go rfl ?_
  simp (disch := (first | assumption | omega | (simp only [lenS, lenT, UInt64.reduceToNat]; try omega))) only [↓Sx.S0, Sx.S1, Tryd.fx, uWZ2_1, Nat.reduceAdd, Nat.reducePow, Int.reducePow, Nat.reduceBEq, ↓reduceIte, UInt8.reduceToNat, UInt16.reduceToNat, UInt32.reduceToNat, UInt64.reduceToNat, Int.reduceToNat]
  ((try with_reducible refine Cw.go [] ?_); (try simp (disch := (first | assumption | omega | (simp only [lenS, lenT, UInt64.reduceToNat]; try omega))) only [↓Sx.S0, Sx.S1, Tryd.fx, uWZ2_1, Nat.reduceAdd, Nat.reducePow, Int.reducePow, Nat.reduceBEq, ↓reduceIte, UInt8.reduceToNat, UInt16.reduceToNat, UInt32.reduceToNat, UInt64.reduceToNat, Int.reduceToNat]))
  refine Cw.loopG (G := LG) [8, 9, 10, 11, 12, 5, 4, 13, 14, 15, 16, 17, 18, 3] (fun g => [(3, g.v)]) (fun g => (bi, g.it) :: g.D) (fun g => New (bi + 1) g.D ∧ Gr g.D 42 33 g.v g.o.length (g.o.map refC).flatten ∧ ItR g.it b om m (prs g.o) g.lf ∧ g.o.length + g.lf.length = m.length) (fun g => g.lf.length) ⟨.slice none 0 0, [], [], oi, m⟩ rfl rfl ?_ ?_
  · exact ⟨trivial, Gr.nl, hI, by simp⟩
  intro g j hg
  simp only [overFrom, pin, setF_0, setF_s, List.contains_cons, List.contains_nil, Nat.reduceBEq, Bool.or_false, Bool.false_or, Bool.or_true, Bool.true_or, Nat.reduceAdd, ↓reduceIte, Bool.false_eq_true]
  obtain ⟨v, o, D, it, lf⟩ := g
  simp only at hg ⊢
  obtain ⟨hND, hGr, hI, hol⟩ := hg
  have hDb : b ∉ keys D := hND.not (by omega)
  have rdm : ∀ x, readB w ((bi, x) :: D) b = some om := fun x => by
    rw [read_other _ _ _ _ _ (by omega), read_none hDb]; exact ho
  ((try with_reducible refine Cw.go [] ?_); (try simp (disch := (first | assumption | omega | (simp only [lenS, lenT, UInt64.reduceToNat]; try omega))) only [↓Sx.S0, Sx.S1, Tryd.fx, uWZ2_1, Nat.reduceAdd, Nat.reducePow, Int.reducePow, Nat.reduceBEq, ↓reduceIte, UInt8.reduceToNat, UInt16.reduceToNat, UInt32.reduceToNat, UInt64.reduceToNat, Int.reduceToNat]))
  refine Ow.nextMap rfl rfl rfl (look_same _ _ _) (rdm _) hI (fun hlf => ?_) (fun p it' lf' hl' hI' => ?_)
  · subst hlf
    have hoo : (prs o).Perm m := by
      obtain ⟨es, clock, ds, -, -, -, -, -, -, hperm⟩ := hI
      rw [List.append_nil] at hperm; exact hperm
    have hol2 : o.length = ls.length := by simp at hol; omega
    have hzero : o.length = 0 → o = [] ∧ ls = [] := fun h => ⟨List.length_eq_zero_iff.1 h, List.length_eq_zero_iff.1 (by omega)⟩
    refine Ow.go rfl ?_
    simp (disch := (first | assumption | omega | (simp only [lenS, lenT, UInt64.reduceToNat]; try omega))) only [↓Sx.S0, Sx.S1, Tryd.fx, uWZ2_1, Nat.reduceAdd, Nat.reducePow, Int.reducePow, Nat.reduceBEq, ↓reduceIte, UInt8.reduceToNat, UInt16.reduceToNat, UInt32.reduceToNat, UInt64.reduceToNat, Int.reduceToNat]
    ((try with_reducible refine Cw.go [] ?_); (try simp (disch := (first | assumption | omega | (simp only [lenS, lenT, UInt64.reduceToNat]; try omega))) only [↓Sx.S0, Sx.S1, Tryd.fx, uWZ2_1, Nat.reduceAdd, Nat.reducePow, Int.reducePow, Nat.reduceBEq, ↓reduceIte, UInt8.reduceToNat, UInt16.reduceToNat, UInt32.reduceToNat, UInt64.reduceToNat, Int.reduceToNat]))
    rcases hGr with hbuf | ⟨h0, -, b0, rfl, hlk⟩
    · generalize hcs : (o.map refC).flatten = cs at hbuf
      generalize hn : o.length = n at hbuf
      cases hbuf with
      | nl =>
        refine Ow.callFV rfl Tryd.call112 (fun w' hw' => sortRef_none none 0 _ w') ?_
        refine Ow.go rfl ?_
        simp (disch := (first | assumption | omega | (simp only [lenS, lenT, UInt64.reduceToNat]; try omega))) only [↓Sx.S0, Sx.S1, Tryd.fx, uWZ2_1, Nat.reduceAdd, Nat.reducePow, Int.reducePow, Nat.reduceBEq, ↓reduceIte, UInt8.reduceToNat, UInt16.reduceToNat, UInt32.reduceToNat, UInt64.reduceToNat, Int.reduceToNat]
        ((try with_reducible refine Cw.go [] ?_); (try simp (disch := (first | assumption | omega | (simp only [lenS, lenT, UInt64.reduceToNat]; try omega))) only [↓Sx.S0, Sx.S1, Tryd.fx, uWZ2_1, Nat.reduceAdd, Nat.reducePow, Int.reducePow, Nat.reduceBEq, ↓reduceIte, UInt8.reduceToNat, UInt16.reduceToNat, UInt32.reduceToNat, UInt64.reduceToNat, Int.reduceToNat]))
        refine ⟨_, (by simp (disch := (first | assumption | omega | (simp only [lenS, lenT, UInt64.reduceToNat]; try omega))) only [↓Sx.S0, Sx.S1, Tryd.fx, uWZ2_1, Nat.reduceAdd, Nat.reducePow, Int.reducePow, Nat.reduceBEq, ↓reduceIte, UInt8.reduceToNat, UInt16.reduceToNat, UInt32.reduceToNat, UInt64.reduceToNat, Int.reduceToNat]; rfl), ?_⟩
        obtain ⟨-, rfl⟩ := hzero hn
        exact ⟨Ext.of_new ⟨hwi, hND.mono (by omega)⟩, (Gr.nl (L := [])).i fun q hq => by cases hq⟩
      | @at_ b0 _ c _ rest hl h1 h2 h3 h4 =>
        subst hn
        subst hcs
        have hk0 : bi + 1 ≤ b0 := hND.le _ (key_of_look hl)
        refine Ow.callE rfl rfl Tryd.call112 (List.mem_cons_of_mem _ (key_of_look hl)) (fun w' hw' => sortRef_spec (c := c) w' (hw'.has _ _ (List.mem_cons_of_mem _ (look_mem hl))) (by omega)) (fun v1 o1 hS => ?_)
        obtain ⟨rfl, l', hp, hs, rfl⟩ := hS
        obtain rfl := sorted_one hoo hr hp hs
        simp (disch := (first | assumption | omega | (simp only [lenS, lenT, UInt64.reduceToNat]; try omega))) only [setB_same, setB_other, List.cons_append, List.nil_append]
        refine Ow.go rfl ?_
        simp (disch := (first | assumption | omega | (simp only [lenS, lenT, UInt64.reduceToNat]; try omega))) only [↓Sx.S0, Sx.S1, Tryd.fx, uWZ2_1, Nat.reduceAdd, Nat.reducePow, Int.reducePow, Nat.reduceBEq, ↓reduceIte, UInt8.reduceToNat, UInt16.reduceToNat, UInt32.reduceToNat, UInt64.reduceToNat, Int.reduceToNat]
        ((try with_reducible refine Cw.go [] ?_); (try simp (disch := (first | assumption | omega | (simp only [lenS, lenT, UInt64.reduceToNat]; try omega))) only [↓Sx.S0, Sx.S1, Tryd.fx, uWZ2_1, Nat.reduceAdd, Nat.reducePow, Int.reducePow, Nat.reduceBEq, ↓reduceIte, UInt8.reduceToNat, UInt16.reduceToNat, UInt32.reduceToNat, UInt64.reduceToNat, Int.reduceToNat]))
        refine ⟨_, (by simp (disch := (first | assumption | omega | (simp only [lenS, lenT, UInt64.reduceToNat]; try omega))) only [↓Sx.S0, Sx.S1, Tryd.fx, uWZ2_1, Nat.reduceAdd, Nat.reducePow, Int.reducePow, Nat.reduceBEq, ↓reduceIte, UInt8.reduceToNat, UInt16.reduceToNat, UInt32.reduceToNat, UInt64.reduceToNat, Int.reduceToNat]; rfl), ?_⟩
        refine ⟨Ext.of_new ⟨hwi, New.of_le fun q hq => by rw [keys_setB] at hq; have := hND.le q hq; omega⟩, ?_⟩
        refine Gr.i (X := setB D b0 (.cells ((l'.map refC).flatten ++ rest).toArray 42 (0, 0))) (.inl ?_) fun q hq => List.mem_cons_of_mem _ hq
        show Buf _ 42 33 (vsl b0 0 o.length c) l'.length _
        rw [hol2]
        refine Buf.at_ (look_setB hl) ?_ ?_ (by omega) h4
        · rw [flat_len refC_len]
        · rw [h2, hol2]
    · obtain ⟨rfl, rfl⟩ := hzero h0
      refine Ow.callFV rfl Tryd.call112 (fun w' hw' => sortRef_none (some ⟨b0, 0, none⟩) 0 _ w') ?_
      refine Ow.go rfl ?_
      simp (disch := (first | assumption | omega | (simp only [lenS, lenT, UInt64.reduceToNat]; try omega))) only [↓Sx.S0, Sx.S1, Tryd.fx, uWZ2_1, Nat.reduceAdd, Nat.reducePow, Int.reducePow, Nat.reduceBEq, ↓reduceIte, UInt8.reduceToNat, UInt16.reduceToNat, UInt32.reduceToNat, UInt64.reduceToNat, Int.reduceToNat]
      ((try with_reducible refine Cw.go [] ?_); (try simp (disch := (first | assumption | omega | (simp only [lenS, lenT, UInt64.reduceToNat]; try omega))) only [↓Sx.S0, Sx.S1, Tryd.fx, uWZ2_1, Nat.reduceAdd, Nat.reducePow, Int.reducePow, Nat.reduceBEq, ↓reduceIte, UInt8.reduceToNat, UInt16.reduceToNat, UInt32.reduceToNat, UInt64.reduceToNat, Int.reduceToNat]))
      refine ⟨_, (by simp (disch := (first | assumption | omega | (simp only [lenS, lenT, UInt64.reduceToNat]; try omega))) only [↓Sx.S0, Sx.S1, Tryd.fx, uWZ2_1, Nat.reduceAdd, Nat.reducePow, Int.reducePow, Nat.reduceBEq, ↓reduceIte, UInt8.reduceToNat, UInt16.reduceToNat, UInt32.reduceToNat, UInt64.reduceToNat, Int.reduceToNat]; rfl), ?_⟩
      exact ⟨Ext.of_new ⟨hwi, hND.mono (by omega)⟩, Gr.i (X := D) (.inr ⟨rfl, rfl, b0, rfl, hlk⟩) fun q hq => List.mem_cons_of_mem _ hq⟩
  · simp (disch := (first | assumption | omega | (simp only [lenS, lenT, UInt64.reduceToNat]; try omega))) only [setB_same, setB_other, List.cons_append, List.nil_append]
    refine Ow.go rfl ?_
    simp (disch := (first | assumption | omega | (simp only [lenS, lenT, UInt64.reduceToNat]; try omega))) only [↓Sx.S0, Sx.S1, Tryd.fx, uWZ2_1, Nat.reduceAdd, Nat.reducePow, Int.reducePow, Nat.reduceBEq, ↓reduceIte, UInt8.reduceToNat, UInt16.reduceToNat, UInt32.reduceToNat, UInt64.reduceToNat, Int.reduceToNat]
    ((try with_reducible refine Cw.go [] ?_); (try simp (disch := (first | assumption | omega | (simp only [lenS, lenT, UInt64.reduceToNat]; try omega))) only [↓Sx.S0, Sx.S1, Tryd.fx, uWZ2_1, Nat.reduceAdd, Nat.reducePow, Int.reducePow, Nat.reduceBEq, ↓reduceIte, UInt8.reduceToNat, UInt16.reduceToNat, UInt32.reduceToNat, UInt64.reduceToNat, Int.reduceToNat]))
    refine Ow.entryMap rfl rfl rfl (read_same _ _ _ _) (rdm _) hI' ?_
    refine Ow.go rfl ?_
    simp (disch := (first | assumption | omega | (simp only [lenS, lenT, UInt64.reduceToNat]; try omega))) only [↓Sx.S0, Sx.S1, Tryd.fx, uWZ2_1, Nat.reduceAdd, Nat.reducePow, Int.reducePow, Nat.reduceBEq, ↓reduceIte, UInt8.reduceToNat, UInt16.reduceToNat, UInt32.reduceToNat, UInt64.reduceToNat, Int.reduceToNat]
    ((try with_reducible refine Cw.go [] ?_); (try simp (disch := (first | assumption | omega | (simp only [lenS, lenT, UInt64.reduceToNat]; try omega))) only [↓Sx.S0, Sx.S1, Tryd.fx, uWZ2_1, Nat.reduceAdd, Nat.reducePow, Int.reducePow, Nat.reduceBEq, ↓reduceIte, UInt8.reduceToNat, UInt16.reduceToNat, UInt32.reduceToNat, UInt64.reduceToNat, Int.reduceToNat]))
    refine Ow.alloc rfl rfl zrId fun b5 hb5 hw5 => ?_
    simp only [cells_agg, List.nil_append, List.cons_append]
    have hp5 : p.2.length = 32 := by
      obtain ⟨es, clock, ds, -, -, -, -, -, -, hperm⟩ := hI'
      exact hid p ((hperm.mem_iff).1 (by simp))
    obtain ⟨hn5, hi5⟩ := toR_pr hp5
    have hx5 : bi < b5 := above_to hb5 (by simp [keys])
    have hD5 : b5 ∉ keys D := fun h => by have := above_to hb5 (b := b5) (by simp [keys] at h ⊢; simp [h]); omega
    have hpr : prs (o ++ [toR p]) = prs o ++ [p] := by
      unfold prs
      rw [List.map_append, List.map_cons, List.map_nil]
      show _ ++ [((toR p).name, (toR p).id.l)] = _
      rw [hn5, hi5]
    rw [← hn5, ← hi5]
    rw [← hpr] at hI'
    clear hpr hn5 hi5
    refine Ow.permL (M := (bi, it') :: (b5, Obj.cells (a8 z32) 40 (0, 0)) :: D) (by classical exact List.perm_iff_count.2 fun a => by simp only [List.count_append, List.count_cons, List.count_nil] <;> omega) ?_
    have hil := (toR p).id.h
    have hst : storeV (some (true, 32)) (some (.cells (a8 z32) 40 (0, 0))) 0 (.agg (a8 (toR p).id.l)) = some (.cells (a8 (toR p).id.l) 40 (0, 0)) := store_all8 32 true _ _ _ ⟨hil, by simp [a8, z32]⟩
    have hld := load_idb (toR p).id.l 40 hil
    refine Ow.go rfl ?_
    simp (disch := (first | assumption | omega | (simp only [lenS, lenT, UInt64.reduceToNat]; try omega))) only [↓Sx.S0, Sx.S1, Tryd.fx, uWZ2_1, Nat.reduceAdd, Nat.reducePow, Int.reducePow, Nat.reduceBEq, ↓reduceIte, UInt8.reduceToNat, UInt16.reduceToNat, UInt32.reduceToNat, UInt64.reduceToNat, Int.reduceToNat, hst]
    ((try with_reducible refine Cw.go [] ?_); (try simp (disch := (first | assumption | omega | (simp only [lenS, lenT, UInt64.reduceToNat]; try omega))) only [↓Sx.S0, Sx.S1, Tryd.fx, uWZ2_1, Nat.reduceAdd, Nat.reducePow, Int.reducePow, Nat.reduceBEq, ↓reduceIte, UInt8.reduceToNat, UInt16.reduceToNat, UInt32.reduceToNat, UInt64.reduceToNat, Int.reduceToNat, hld]))
    refine Ow.build _ rfl (build_ref (toR p).name (toR p).id) ?_
    refine Ow.go rfl ?_
    simp (disch := (first | assumption | omega | (simp only [lenS, lenT, UInt64.reduceToNat]; try omega))) only [↓Sx.S0, Sx.S1, Tryd.fx, uWZ2_1, Nat.reduceAdd, Nat.reducePow, Int.reducePow, Nat.reduceBEq, ↓reduceIte, UInt8.reduceToNat, UInt16.reduceToNat, UInt32.reduceToNat, UInt64.reduceToNat, Int.reduceToNat]
    ((try with_reducible refine Cw.go [] ?_); (try simp (disch := (first | assumption | omega | (simp only [lenS, lenT, UInt64.reduceToNat]; try omega))) only [↓Sx.S0, Sx.S1, Tryd.fx, uWZ2_1, Nat.reduceAdd, Nat.reducePow, Int.reducePow, Nat.reduceBEq, ↓reduceIte, UInt8.reduceToNat, UInt16.reduceToNat, UInt32.reduceToNat, UInt64.reduceToNat, Int.reduceToNat]))
    generalize toR p = r at *
    refine Ow.buildSlice (e := 42) (refC r).toArray rfl rfl (sliceRef r) fun b9 hb9 hwb9 => ?_
    have hxb9 : bi < b9 := above_to hb9 (by simp [keys])
    refine Ow.permL (M := D ++ ((bi, it') :: (b5, Obj.cells (a8 r.id.l) 40 (0, 0)) :: [(b9, Obj.cells (refC r).toArray 42 (0, 0))])) (by classical exact List.perm_iff_count.2 fun a => by simp only [List.count_append, List.count_cons, List.count_nil] <;> omega) ?_
    refine Ow.appendX (e := 42) (k := 1) (new := refC r) (X := D) v rfl rfl rfl rfl Tryd.underlying23 Tryd.ag42 (by kernel_rfl) zrRef (by rw [cells_ref, List.size_toArray, refC_len]) Tryd.underlying23 (by intro k h; cases h) hGr (fun w' hw' => AppX.one1 (hw'.has b9 (.cells (refC r).toArray 42 (0, 0)) (by simp)) (refC_len r) (refC_one r)) (by omega) (by omega) (fun B3 v3 D3 hA3 hB3 hbuf3 hk13 hk23 hlk3 => ?_)
    have hxB3 : bi < B3 := above_to hA3 (by simp [keys_app, keys])
    have hND3 : New (bi + 1) D3 := New.of_le fun q hq => by
      rcases hk23 q hq with h | h
      · exact hND.le q h
      · omega
    refine Ow.permL (M := (bi, it') :: (D3 ++ [(b5, Obj.cells (a8 r.id.l) 40 (0, 0)), (b9, Obj.cells (refC r).toArray 42 (0, 0))])) (by classical exact List.perm_iff_count.2 fun a => by simp only [List.count_append, List.count_cons, List.count_nil] <;> omega) ?_
    have hGr3 : Gr (D3 ++ [(b5, Obj.cells (a8 r.id.l) 40 (0, 0)), (b9, Obj.cells (refC r).toArray 42 (0, 0))]) 42 33 v3 _ _ := Gr.app (.inl hbuf3)
    have hNE3 : New (bi + 1) (D3 ++ [(b5, Obj.cells (a8 r.id.l) 40 (0, 0)), (b9, Obj.cells (refC r).toArray 42 (0, 0))]) := hND3.app ⟨by omega, by omega, trivial⟩
    generalize D3 ++ [(b5, Obj.cells (a8 r.id.l) 40 (0, 0)), (b9, Obj.cells (refC r).toArray 42 (0, 0))] = E3 at *
    refine Ow.go rfl ?_
    simp (disch := (first | assumption | omega | (simp only [lenS, lenT, UInt64.reduceToNat]; try omega))) only [↓Sx.S0, Sx.S1, Tryd.fx, uWZ2_1, Nat.reduceAdd, Nat.reducePow, Int.reducePow, Nat.reduceBEq, ↓reduceIte, UInt8.reduceToNat, UInt16.reduceToNat, UInt32.reduceToNat, UInt64.reduceToNat, Int.reduceToNat]
    ((try with_reducible refine Cw.go [] ?_); (try simp (disch := (first | assumption | omega | (simp only [lenS, lenT, UInt64.reduceToNat]; try omega))) only [↓Sx.S0, Sx.S1, Tryd.fx, uWZ2_1, Nat.reduceAdd, Nat.reducePow, Int.reducePow, Nat.reduceBEq, ↓reduceIte, UInt8.reduceToNat, UInt16.reduceToNat, UInt32.reduceToNat, UInt64.reduceToNat, Int.reduceToNat]))
    refine Again.mk (LG.mk v3 (o ++ [r]) E3 it' lf') (by show lf'.length < lf.length; omega) ⟨hNE3, ?_, hI', by show (o ++ [r]).length + lf'.length = m.length; simp; omega⟩ rfl rfl
    show Gr E3 42 33 v3 (o ++ [r]).length ((o ++ [r]).map refC).flatten
    simpa using hGr3
end Go.Proofs
end
section
open Go Go.Proofs Go.Sx Go.RefP Go.RooP Go.Shelf Go.Sort
namespace Go.Proofs
set_option maxRecDepth 100000
set_option maxHeartbeats 400000
set_option linter.unusedSimpArgs false
/-! ### Ids, sorted -/
theorem cmpB_neg (a b : List UInt8) : Lib.compareBytes a b < 0 ↔ ltB a b = true := by
  rw [cmpB_eq]
  split
  · simp [*]
  · split <;> simp [*]
theorem ltId (x y : IdL) : ltOf (fun x y : IdL => Lib.compareBytes x.l y.l) x y = ltB x.l y.l := by
  unfold ltOf
  rw [Bool.eq_iff_iff, decide_eq_true_eq, cmpB_neg]
theorem swoId : SWO (ltOf fun x y : IdL => Lib.compareBytes x.l y.l) where
  irrefl x := by rw [ltId]; exact ltB_irrefl x.l
  trans x y z h1 h2 := by rw [ltId] at *; exact ltB_trans h1 h2
  ntrans x y z h1 h2 := by
    rw [ltId] at *
    cases h : ltB x.l z.l
    · rfl
    · by_cases hxy : x.l = y.l
      · rw [hxy, h2] at h; cases h
      · rw [ltB_trans (ltB_total h1 fun e => hxy e) h] at h2
        cases h2
theorem idC_cells (x : IdL) : ∀ v ∈ idLC x, v.oneCell' = true := fun v hv => List.all_eq_true.1 (idC_one x) v hv
theorem sortId_spec {b c : Nat} {l : List IdL} {rest : List Value} {E : TypeId} (w : World) (hb : w.heap[b]? = some (rowO idLC E rest l)) (hsz : l.length < 4611686018427387904) :
    Rets Tryd.prog 78 #[vsl b 0 l.length c, .func (.func 79) #[] #[]] w
      (fun v D => ∃ o, D = [(b, o)] ∧ v = .tuple #[] ∧ ∃ l' : List IdL, l'.Perm l ∧ l'.Pairwise (fun x y => ltB y.l x.l = false) ∧ o = rowO idLC E rest l') := by
  have h := @sort_rets IdL ⟨id0⟩ idLC 32 Tryd.prog Tryd.sortId_ren Tryd.sortId Tryd.isAgg40 Tryd.sizeOf40 idLC_len idC_cells (fun x y => Lib.compareBytes x.l y.l) swoId 79 Tryd.call79 cmpId_spec w b c E l rest hb hsz
  refine Rets.mono h ?_
  rintro v D ⟨o, rfl, rfl, l', hp, hs, rfl⟩
  exact ⟨_, rfl, rfl, l', hp, hs.imp fun {x y} h => (ltId y x).symm.trans h, rfl⟩
theorem sortId_none (p : Option Addr) (c : Nat) (fv : Value) (w : World) : Rets Tryd.prog 78 #[.slice p 0 c, fv] w (fun v D => v = .tuple #[] ∧ D = []) :=
  @sort_none Tryd.prog Tryd.sortId_ren Tryd.sortId p c fv w
set_option linter.defProp false
def uWZD_1 := And.intro (And.intro (@rdIn_v8) (@rdIn_vi)) (And.intro (@eqIdB) (@neIdB))
theorem CompactNo_spec (p : Option Addr) (c : Nat) (w : World) : Rets Tryd.prog 81 #[.slice p 0 c] w (fun v D => v = .slice p 0 c ∧ D = []) := by
  refine Rets.enterV Tryd.func81 rfl (rs := [.tmp 2]) Tryd.results81 Tryd.ntmps81 ?_
  simp only [List.size_toArray, List.length_cons, List.length_nil, Nat.reduceAdd, Nat.reduceSub, List.replicate_succ, List.replicate_zero, List.cons_append, List.nil_append]
  have hlen : lenV (.sl (true, 32)) (.slice p 0 c) = some (vi (0 : Nat)) := rfl
  have d1 : decide (((0 : Nat) : Int) < 2) = true := rfl
  ((try with_reducible refine Cw.go [] ?_); (try simp (disch := (first | assumption | omega | (simp only [lenS, lenT, UInt64.reduceToNat]; try omega))) only [↓Sx.S0, Sx.S1, Tryd.fx, uWZD_1, Nat.reduceAdd, Nat.reducePow, Int.reducePow, Nat.reduceBEq, ↓reduceIte, UInt8.reduceToNat, UInt16.reduceToNat, UInt32.reduceToNat, UInt64.reduceToNat, Int.reduceToNat, hlen, d1]))
  refine ⟨_, (by simp (disch := (first | assumption | omega | (simp only [lenS, lenT, UInt64.reduceToNat]; try omega))) only [↓Sx.S0, Sx.S1, Tryd.fx, uWZD_1, Nat.reduceAdd, Nat.reducePow, Int.reducePow, Nat.reduceBEq, ↓reduceIte, UInt8.reduceToNat, UInt16.reduceToNat, UInt32.reduceToNat, UInt64.reduceToNat, Int.reduceToNat]; rfl), trivial, ?_⟩
  rfl
/-! ### Roots -/
/-- The ids of refs that are some. -/
def nzI (l : List RefL) : List IdL := (l.map RefL.id).filter fun i => !(i.l == z32)
theorem nzI_take {l : List RefL} {g : Nat} (h : g < l.length) : nzI (l.take (g + 1)) = nzI (l.take g) ++ if (l.getD g ref0).id.l == z32 then [] else [(l.getD g ref0).id] := by
  rw [StP.take_snoc (z := ref0) h]
  unfold nzI
  rw [List.map_append, List.filter_append]
  congr 1
  simp only [List.map_cons, List.map_nil, List.filter_cons, List.filter_nil]
  cases ((l.getD g ref0).id.l == z32) <;> rfl
theorem nzI_le (l : List RefL) : (nzI l).length ≤ l.length := by
  unfold nzI
  have := List.length_filter_le (fun i : IdL => !(i.l == z32)) (l.map RefL.id)
  rw [List.length_map] at this; exact this
/-- The roots that a book has. -/
def rootsI (t l : List RefL) (k : List IdL) : Prop := ∃ s, s.Perm (nzI (t ++ l)) ∧ s.Pairwise (fun x y => ltB y.l x.l = false) ∧ k = uniqI s
/-- What Roots hands back. -/
def RootsS (t l : List RefL) (v : Value) (D : Heap) : Prop :=
  if rightB t l = true then ∃ k, rootsI t l k ∧ GrI D 40 32 v k.length (k.map idLC).flatten else v = .slice none 0 0
theorem neIdz (l : List UInt8) (h : l.length = 32) : binX Tryd.prog .neq 40 (.agg (a8 l)) (.agg (a8 z32)) = some (.bool (!(l == z32))) :=
  binX_a8n Tryd.underlying40 Tryd.underlying5 Tryd.ag5 (by kernel_rfl) l z32 ⟨h, by simp [z32]⟩
theorem slice2 (x y : Value) (hx : x.cells = #[x]) (hy : y.cells = #[y]) : sliceB Tryd.prog 175 2 [(0, x), (1, y)] = some (23, #[x, y]) := by
  have hz : zeroV Tryd.prog 23 = some (.slice none 0 0) := Tryd.zr23
  simp only [sliceB, Tryd.underlying175, Tryd.ag23, hz, Option.map_some]
  have hI : ∀ I : Array Value, I.size = 2 → (I.setIfInBounds 0 x).setIfInBounds 1 y = #[x, y] := by
    intro I h
    apply Array.ext
    · simp [h]
    · intro i h1 h2
      have h3 : i < 2 := by simpa using h2
      match i, h3 with
      | 0, _ => simp [h]
      | 1, _ => simp [h]
  simp [Instr.fill, hx, hy]
  exact hI _ (by simp)
theorem _root_.Go.Sx.SlV.cellX {α : Type} {m : Nat} {enc : α → List Value} {z : α} {w : World} {v : Value} {l : List α} (h : SlV m enc z w v l) : Value.oneCell' v = true ∧ v.cells = #[v] := by
  obtain ⟨b, off, c, arr, E, fz, -, -, ⟨rfl, -⟩ | ⟨rfl, -⟩⟩ := h
  · exact ⟨rfl, rfl⟩
  · exact ⟨rfl, rfl⟩
/-- A list of refs that was made: it has none, or its block is known. -/
theorem gri_row {D : Heap} {v : Value} {l : List RefL} (hn : (keys D).Nodup) (h : GrI D 42 33 v l.length (l.map refC).flatten) : l.length = 0 ∨ ∃ b c rest D', v = vsl b 0 l.length c ∧ D.Perm ((b, rowO refC 42 rest l) :: D') := by
  obtain ⟨X, hX, h | ⟨h0, -⟩⟩ := h
  · rcases h.inv with ⟨-, h0, -⟩ | ⟨b, c, rest, rfl, hl, h1, h2, h3, h4⟩
    · exact .inl h0
    · have hm := hX _ (look_mem hl)
      obtain ⟨D', hp⟩ := look_perm (look_of_mem hn hm)
      exact .inr ⟨b, c, rest, D', rfl, hp⟩
  · exact .inl h0
theorem gr_cons {D : Heap} {E : TypeId} {m n b5 : Nat} {v : Value} {cs : List Value} {x : Obj} (h : Gr D E m v n cs) (hb : b5 ∉ keys D) : Gr ((b5, x) :: D) E m v n cs :=
  h.keep fun b o _ hl => by
    have hne : b ≠ b5 := fun e => hb (e ▸ key_of_look hl)
    rw [look_other _ _ _ _ (by omega)]; exact hl
theorem sliceId (i : IdL) : sliceB Tryd.prog 52 1 [(0, .agg (a8 i.l))] = some (40, (idLC i).toArray) :=
  slice_one Tryd.underlying52 Tryd.ag40 zrIdB (by decide) (idLC_len i)
structure RoG where
  g : Nat
  v : Value
  o : List IdL
  D : Heap
set_option linter.defProp false
def uWZD_2 := And.intro (And.intro (And.intro (@rdIn_v8) (@rdIn_vi)) (And.intro (@load_ref0) (And.intro (@load_ref1) (@cells_ref)))) (And.intro (And.intro (@store_rr) (And.intro (@load_ref) (@load_bk0))) (And.intro (@load_bk1) (And.intro (@load_bk) (@tp1))))
theorem Roots_spec (vt vl : Value) (t l : List RefL) (w : World) (ht : RefSl w vt t) (hl : RefSl w vl l) (htl : t.length < 1000) (hll : l.length < 1000) (hnt : ShortN t) (hnl : ShortN l) :
    Rets Tryd.prog 40 #[.agg #[vt, vl]] w (XS w [] (RootsS t l)) := by
  refine Rets.enterX Tryd.func40 rfl (rs := [.tmp 2]) Tryd.results40 Tryd.ntmps40 (fun p hp => by cases hp) (by simp [keys]) ?_
  simp only [List.size_toArray, List.length_cons, List.length_nil, Nat.reduceAdd, Nat.reduceSub, List.replicate_succ, List.replicate_zero, List.cons_append, List.nil_append]
  ((try with_reducible refine Cw.go [] ?_); (try simp (disch := (first | assumption | omega | (simp only [lenS, lenT, UInt64.reduceToNat]; try omega))) only [↓Sx.S0, Sx.S1, Tryd.fx, uWZD_2, Nat.reduceAdd, Nat.reducePow, Int.reducePow, Nat.reduceBEq, ↓reduceIte, UInt8.reduceToNat, UInt16.reduceToNat, UInt32.reduceToNat, UInt64.reduceToNat, Int.reduceToNat]))
  refine Ow.box rfl rfl fun bx hbx hwx => ?_
  simp only [ev_tmp, getF_0, getF_s, cells_agg, List.nil_append, List.cons_append]
  refine Ow.go rfl ?_
  simp (disch := (first | assumption | omega | (simp only [lenS, lenT, UInt64.reduceToNat]; try omega))) only [↓Sx.S0, Sx.S1, Tryd.fx, uWZD_2, Nat.reduceAdd, Nat.reducePow, Int.reducePow, Nat.reduceBEq, ↓reduceIte, UInt8.reduceToNat, UInt16.reduceToNat, UInt32.reduceToNat, UInt64.reduceToNat, Int.reduceToNat]
  ((try with_reducible refine Cw.go [] ?_); (try simp (disch := (first | assumption | omega | (simp only [lenS, lenT, UInt64.reduceToNat]; try omega))) only [↓Sx.S0, Sx.S1, Tryd.fx, uWZD_2, Nat.reduceAdd, Nat.reducePow, Int.reducePow, Nat.reduceBEq, ↓reduceIte, UInt8.reduceToNat, UInt16.reduceToNat, UInt32.reduceToNat, UInt64.reduceToNat, Int.reduceToNat]))
  refine Ow.callFV rfl Tryd.call36 (fun w' hw' => Right_spec vt vl t l w' (ht.oldN hw' ⟨hwx, trivial⟩) (hl.oldN hw' ⟨hwx, trivial⟩) (by omega) (by omega) hnt hnl) ?_
  cases hr : rightB t l
  · refine Ow.go rfl ?_
    simp (disch := (first | assumption | omega | (simp only [lenS, lenT, UInt64.reduceToNat]; try omega))) only [↓Sx.S0, Sx.S1, Tryd.fx, uWZD_2, Nat.reduceAdd, Nat.reducePow, Int.reducePow, Nat.reduceBEq, ↓reduceIte, UInt8.reduceToNat, UInt16.reduceToNat, UInt32.reduceToNat, UInt64.reduceToNat, Int.reduceToNat]
    ((try with_reducible refine Cw.go [] ?_); (try simp (disch := (first | assumption | omega | (simp only [lenS, lenT, UInt64.reduceToNat]; try omega))) only [↓Sx.S0, Sx.S1, Tryd.fx, uWZD_2, Nat.reduceAdd, Nat.reducePow, Int.reducePow, Nat.reduceBEq, ↓reduceIte, UInt8.reduceToNat, UInt16.reduceToNat, UInt32.reduceToNat, UInt64.reduceToNat, Int.reduceToNat]))
    refine ⟨_, (by simp (disch := (first | assumption | omega | (simp only [lenS, lenT, UInt64.reduceToNat]; try omega))) only [↓Sx.S0, Sx.S1, Tryd.fx, uWZD_2, Nat.reduceAdd, Nat.reducePow, Int.reducePow, Nat.reduceBEq, ↓reduceIte, UInt8.reduceToNat, UInt16.reduceToNat, UInt32.reduceToNat, UInt64.reduceToNat, Int.reduceToNat]; rfl), ?_⟩
    refine ⟨Ext.of_new ⟨hwx, trivial⟩, ?_⟩
    unfold RootsS
    rw [if_neg (by rw [hr]; simp)]
    rfl
  · refine Ow.go rfl ?_
    simp (disch := (first | assumption | omega | (simp only [lenS, lenT, UInt64.reduceToNat]; try omega))) only [↓Sx.S0, Sx.S1, Tryd.fx, uWZD_2, Nat.reduceAdd, Nat.reducePow, Int.reducePow, Nat.reduceBEq, ↓reduceIte, UInt8.reduceToNat, UInt16.reduceToNat, UInt32.reduceToNat, UInt64.reduceToNat, Int.reduceToNat]
    ((try with_reducible refine Cw.go [] ?_); (try simp (disch := (first | assumption | omega | (simp only [lenS, lenT, UInt64.reduceToNat]; try omega))) only [↓Sx.S0, Sx.S1, Tryd.fx, uWZD_2, Nat.reduceAdd, Nat.reducePow, Int.reducePow, Nat.reduceBEq, ↓reduceIte, UInt8.reduceToNat, UInt16.reduceToNat, UInt32.reduceToNat, UInt64.reduceToNat, Int.reduceToNat]))
    have hct := SlV.cellX ht
    have hcl := SlV.cellX hl
    refine Ow.buildSlice (e := 23) #[vt, vl] rfl rfl (slice2 vt vl hct.2 hcl.2) fun b1 hb1 hw1 => ?_
    refine Ow.go rfl ?_
    simp (disch := (first | assumption | omega | (simp only [lenS, lenT, UInt64.reduceToNat]; try omega))) only [↓Sx.S0, Sx.S1, Tryd.fx, uWZD_2, Nat.reduceAdd, Nat.reducePow, Int.reducePow, Nat.reduceBEq, ↓reduceIte, UInt8.reduceToNat, UInt16.reduceToNat, UInt32.reduceToNat, UInt64.reduceToNat, Int.reduceToNat]
    have hN1 : New w.heap.size [(bx, Obj.cells #[vt, vl] 25 (0, 0)), (b1, Obj.cells #[vt, vl] 23 (0, 0))] := ⟨hwx, hw1, trivial⟩
    refine Ow.callC rfl rfl Tryd.call77 (fun w' hw' => ConcatRef_spec b1 vt vl t l w' (hw'.has _ _ (by simp)) (ht.oldN hw' hN1) (hl.oldN hw' hN1) htl hll) (fun B2 v2 D2 hA2 hB2 hN2 hS2 => ?_)
    have hlenC : ∀ m, lenV (.sl m) v2 = some (vi (t ++ l).length) := fun m => by obtain ⟨X, -, hX⟩ := hS2; exact hX.len m
    generalize hL : t ++ l = L at *
    have hLl : L.length < 2000 := by rw [← hL, List.length_append]; omega
    have hN2' := hN2.mono hB2
    refine Ow.go rfl ?_
    simp (disch := (first | assumption | omega | (simp only [lenS, lenT, UInt64.reduceToNat]; try omega))) only [↓Sx.S0, Sx.S1, Tryd.fx, uWZD_2, Nat.reduceAdd, Nat.reducePow, Int.reducePow, Nat.reduceBEq, ↓reduceIte, UInt8.reduceToNat, UInt16.reduceToNat, UInt32.reduceToNat, UInt64.reduceToNat, Int.reduceToNat, hlenC]
    refine Cw.world fun wz hwz => ?_
    have hnd : (keys D2).Nodup := (List.nodup_cons.1 (List.nodup_cons.1 hwz.nodup).2).2
    rcases gri_row hnd hS2 with h0 | ⟨bc, cc, rest, D', rfl, hp⟩
    · have hL0 : L = [] := List.length_eq_zero_iff.1 h0
      subst hL0
      have hkr : rootsI t l [] := ⟨[], by rw [hL]; exact List.Perm.refl _, List.Pairwise.nil, rfl⟩
      clear hwz wz
      ((try with_reducible refine Cw.go [] ?_); (try simp (disch := (first | assumption | omega | (simp only [lenS, lenT, UInt64.reduceToNat]; try omega))) only [↓Sx.S0, Sx.S1, Tryd.fx, uWZD_2, Nat.reduceAdd, Nat.reducePow, Int.reducePow, Nat.reduceBEq, ↓reduceIte, UInt8.reduceToNat, UInt16.reduceToNat, UInt32.reduceToNat, UInt64.reduceToNat, Int.reduceToNat]))
      refine Cw.loopG (G := Unit) [17, 18, 19, 5, 20, 21, 22, 23, 24, 25, 26, 27, 28, 3, 29, 16] (fun g => [(3, .slice none 0 0), (16, vi 0)]) (fun g => (bx, .cells #[vt, vl] 25 (0, 0)) :: (b1, Obj.cells #[vt, vl] 23 (0, 0)) :: D2) (fun g => True) (fun g => 0) () rfl rfl ?_ ?_
      · trivial
      intro g j hg
      simp only [overFrom, pin, setF_0, setF_s, List.contains_cons, List.contains_nil, Nat.reduceBEq, Bool.or_false, Bool.false_or, Bool.or_true, Bool.true_or, Nat.reduceAdd, ↓reduceIte, Bool.false_eq_true]
      have d0 : decide ((0 : Int) < ((([] : List RefL).length : Nat) : Int)) = false := rfl
      ((try with_reducible refine Cw.go [] ?_); (try simp (disch := (first | assumption | omega | (simp only [lenS, lenT, UInt64.reduceToNat]; try omega))) only [↓Sx.S0, Sx.S1, Tryd.fx, uWZD_2, Nat.reduceAdd, Nat.reducePow, Int.reducePow, Nat.reduceBEq, ↓reduceIte, UInt8.reduceToNat, UInt16.reduceToNat, UInt32.reduceToNat, UInt64.reduceToNat, Int.reduceToNat, d0]))
      refine Ow.callFV rfl Tryd.call78 (fun w' hw' => sortId_none none 0 _ w') ?_
      refine Ow.go rfl ?_
      simp (disch := (first | assumption | omega | (simp only [lenS, lenT, UInt64.reduceToNat]; try omega))) only [↓Sx.S0, Sx.S1, Tryd.fx, uWZD_2, Nat.reduceAdd, Nat.reducePow, Int.reducePow, Nat.reduceBEq, ↓reduceIte, UInt8.reduceToNat, UInt16.reduceToNat, UInt32.reduceToNat, UInt64.reduceToNat, Int.reduceToNat]
      ((try with_reducible refine Cw.go [] ?_); (try simp (disch := (first | assumption | omega | (simp only [lenS, lenT, UInt64.reduceToNat]; try omega))) only [↓Sx.S0, Sx.S1, Tryd.fx, uWZD_2, Nat.reduceAdd, Nat.reducePow, Int.reducePow, Nat.reduceBEq, ↓reduceIte, UInt8.reduceToNat, UInt16.reduceToNat, UInt32.reduceToNat, UInt64.reduceToNat, Int.reduceToNat]))
      refine Ow.callFV rfl Tryd.call81 (fun w' hw' => CompactNo_spec none 0 w') ?_
      refine Ow.go rfl ?_
      simp (disch := (first | assumption | omega | (simp only [lenS, lenT, UInt64.reduceToNat]; try omega))) only [↓Sx.S0, Sx.S1, Tryd.fx, uWZD_2, Nat.reduceAdd, Nat.reducePow, Int.reducePow, Nat.reduceBEq, ↓reduceIte, UInt8.reduceToNat, UInt16.reduceToNat, UInt32.reduceToNat, UInt64.reduceToNat, Int.reduceToNat]
      ((try with_reducible refine Cw.go [] ?_); (try simp (disch := (first | assumption | omega | (simp only [lenS, lenT, UInt64.reduceToNat]; try omega))) only [↓Sx.S0, Sx.S1, Tryd.fx, uWZD_2, Nat.reduceAdd, Nat.reducePow, Int.reducePow, Nat.reduceBEq, ↓reduceIte, UInt8.reduceToNat, UInt16.reduceToNat, UInt32.reduceToNat, UInt64.reduceToNat, Int.reduceToNat]))
      refine ⟨_, (by simp (disch := (first | assumption | omega | (simp only [lenS, lenT, UInt64.reduceToNat]; try omega))) only [↓Sx.S0, Sx.S1, Tryd.fx, uWZD_2, Nat.reduceAdd, Nat.reducePow, Int.reducePow, Nat.reduceBEq, ↓reduceIte, UInt8.reduceToNat, UInt16.reduceToNat, UInt32.reduceToNat, UInt64.reduceToNat, Int.reduceToNat]; rfl), ?_⟩
      refine ⟨Ext.of_new ⟨hwx, hw1, hN2'⟩, ?_⟩
      unfold RootsS
      rw [if_pos hr]
      exact ⟨[], hkr, (Gr.nl (L := [])).i fun q hq => by cases hq⟩
    · have hP := hN2.perm hp
      have hbx2 : bx < bc := Nat.lt_of_lt_of_le (above_to hA2 (by simp [keys])) hP.1
      have hb12 : b1 < bc := Nat.lt_of_lt_of_le (above_to hA2 (by simp [keys])) hP.1
      have hwc : w.heap.size ≤ bc := by omega
      have hND0 : New w.heap.size ((b1, Obj.cells #[vt, vl] 23 (0, 0)) :: D') := ⟨hw1, (hN2'.perm hp).2⟩
      refine Cw.permL (M := (bx, .cells #[vt, vl] 25 (0, 0)) :: (bc, rowO refC 42 rest L) :: (b1, Obj.cells #[vt, vl] 23 (0, 0)) :: D') (List.Perm.cons _ ((List.Perm.swap _ _ _).trans (List.Perm.cons _ hp.symm))) ?_
      clear hwz wz hS2 hnd hP hp hN2 hN2' hA2 hN1
      generalize ((b1, Obj.cells #[vt, vl] 23 (0, 0)) :: D') = D at *
      ((try with_reducible refine Cw.go [] ?_); (try simp (disch := (first | assumption | omega | (simp only [lenS, lenT, UInt64.reduceToNat]; try omega))) only [↓Sx.S0, Sx.S1, Tryd.fx, uWZD_2, Nat.reduceAdd, Nat.reducePow, Int.reducePow, Nat.reduceBEq, ↓reduceIte, UInt8.reduceToNat, UInt16.reduceToNat, UInt32.reduceToNat, UInt64.reduceToNat, Int.reduceToNat]))
      refine Cw.loopG (G := RoG) [17, 18, 19, 5, 20, 21, 22, 23, 24, 25, 26, 27, 28, 3, 29, 16] (fun g => [(3, g.v), (16, vi g.g)]) (fun g => (bx, .cells #[vt, vl] 25 (0, 0)) :: (bc, rowO refC 42 rest L) :: g.D) (fun g => g.g ≤ L.length ∧ New w.heap.size g.D ∧ Gr g.D 40 32 g.v g.o.length (g.o.map idLC).flatten ∧ g.o = nzI (L.take g.g) ∧ g.o.length ≤ g.g) (fun g => L.length - g.g) ⟨0, .slice none 0 0, [], D⟩ rfl rfl ?_ ?_
      · exact ⟨Nat.zero_le _, hND0, Gr.nl, rfl, Nat.le_refl _⟩
      intro g j hg
      simp only [overFrom, pin, setF_0, setF_s, List.contains_cons, List.contains_nil, Nat.reduceBEq, Bool.or_false, Bool.false_or, Bool.or_true, Bool.true_or, Nat.reduceAdd, ↓reduceIte, Bool.false_eq_true]
      obtain ⟨g, v, o, D⟩ := g
      simp only at hg ⊢
      obtain ⟨hgL, hND, hGr, ho, hol⟩ := hg
      by_cases hlt : g < L.length
      · have d1 : decide ((g : Int) < (L.length : Int)) = true := decide_eq_true (by omega)
        have hld : loadV (some (true, 33)) (some (rowO refC 42 rest L)) (g * 33) = some (.agg (refC (L.getD g ref0)).toArray) := load_row refC_len g hlt
        have hst := nzI_take hlt
        generalize hrr : L.getD g ref0 = r at *
        ((try with_reducible refine Cw.go [] ?_); (try simp (disch := (first | assumption | omega | (simp only [lenS, lenT, UInt64.reduceToNat]; try omega))) only [↓Sx.S0, Sx.S1, Tryd.fx, uWZD_2, Nat.reduceAdd, Nat.reducePow, Int.reducePow, Nat.reduceBEq, ↓reduceIte, UInt8.reduceToNat, UInt16.reduceToNat, UInt32.reduceToNat, UInt64.reduceToNat, Int.reduceToNat, d1, hld]))
        refine Ow.alloc rfl rfl zrRef fun b5 hb5 hw5 => ?_
        simp only [cells_agg, List.nil_append, List.cons_append]
        have hx5 : bx < b5 := above_to hb5 (by simp [keys])
        have hc5 : bc < b5 := above_to hb5 (by simp [keys])
        refine Ow.permL (M := (bx, .cells #[vt, vl] 25 (0, 0)) :: (bc, rowO refC 42 rest L) :: (b5, .cells (refC ref0).toArray 42 (0, 0)) :: D) (by classical exact List.perm_iff_count.2 fun a => by simp only [List.count_append, List.count_cons, List.count_nil] <;> omega) ?_
        have hil := r.id.h
        have hst5 := store_rr r ref0 42
        refine Ow.go rfl ?_
        simp (disch := (first | assumption | omega | (simp only [lenS, lenT, UInt64.reduceToNat]; try omega))) only [↓Sx.S0, Sx.S1, Tryd.fx, uWZD_2, Nat.reduceAdd, Nat.reducePow, Int.reducePow, Nat.reduceBEq, ↓reduceIte, UInt8.reduceToNat, UInt16.reduceToNat, UInt32.reduceToNat, UInt64.reduceToNat, Int.reduceToNat, hst5]
        ((try with_reducible refine Cw.go [] ?_); (try simp (disch := (first | assumption | omega | (simp only [lenS, lenT, UInt64.reduceToNat]; try omega))) only [↓Sx.S0, Sx.S1, Tryd.fx, uWZD_2, Nat.reduceAdd, Nat.reducePow, Int.reducePow, Nat.reduceBEq, ↓reduceIte, UInt8.reduceToNat, UInt16.reduceToNat, UInt32.reduceToNat, UInt64.reduceToNat, Int.reduceToNat]))
        refine Ow.build (.agg (a8 z32)) rfl build_id0 ?_
        cases hz : (r.id.l == z32)
        · rw [hz, if_neg (by simp)] at hst
          have hne := neIdz r.id.l hil
          rw [hz] at hne
          have d4 : (!false) = true := rfl
          refine Ow.go rfl ?_
          simp (disch := (first | assumption | omega | (simp only [lenS, lenT, UInt64.reduceToNat]; try omega))) only [↓Sx.S0, Sx.S1, Tryd.fx, uWZD_2, Nat.reduceAdd, Nat.reducePow, Int.reducePow, Nat.reduceBEq, ↓reduceIte, UInt8.reduceToNat, UInt16.reduceToNat, UInt32.reduceToNat, UInt64.reduceToNat, Int.reduceToNat, hne, d4]
          ((try with_reducible refine Cw.go [] ?_); (try simp (disch := (first | assumption | omega | (simp only [lenS, lenT, UInt64.reduceToNat]; try omega))) only [↓Sx.S0, Sx.S1, Tryd.fx, uWZD_2, Nat.reduceAdd, Nat.reducePow, Int.reducePow, Nat.reduceBEq, ↓reduceIte, UInt8.reduceToNat, UInt16.reduceToNat, UInt32.reduceToNat, UInt64.reduceToNat, Int.reduceToNat]))
          refine Ow.buildSlice (e := 40) (idLC r.id).toArray rfl rfl (sliceId r.id) fun b9 hb9 hw9 => ?_
          have hx9 : bx < b9 := above_to hb9 (by simp [keys])
          have hc9 : bc < b9 := above_to hb9 (by simp [keys])
          refine Ow.permL (M := D ++ [(bx, .cells #[vt, vl] 25 (0, 0)), (bc, rowO refC 42 rest L), (b5, .cells (refC r).toArray 42 (0, 0)), (b9, .cells (idLC r.id).toArray 40 (0, 0))]) (by classical exact List.perm_iff_count.2 fun a => by simp only [List.count_append, List.count_cons, List.count_nil] <;> omega) ?_
          refine Ow.go rfl ?_
          simp (disch := (first | assumption | omega | (simp only [lenS, lenT, UInt64.reduceToNat]; try omega))) only [↓Sx.S0, Sx.S1, Tryd.fx, uWZD_2, Nat.reduceAdd, Nat.reducePow, Int.reducePow, Nat.reduceBEq, ↓reduceIte, UInt8.reduceToNat, UInt16.reduceToNat, UInt32.reduceToNat, UInt64.reduceToNat, Int.reduceToNat]
          refine Ow.appendXG (e := 40) (k := 1) (new := idLC r.id) (X := D) v rfl rfl rfl rfl Tryd.underlying52 Tryd.ag40 (by kernel_rfl) zrIdB (by simp [cells_agg, a8]) Tryd.underlying52 (by intro k h; cases h) hGr (fun w' hw' => AppX.one1 (hw'.has b9 (.cells (idLC r.id).toArray 40 (0, 0)) (by simp)) (idLC_len r.id) (idC_one r.id)) (by omega) (fun B3 v3 D3 hA3 hB3 hG3 hk13 hk23 hlk3 => ?_)
          have hND3 : New w.heap.size D3 := New.of_le fun q hq => by
            rcases hk23 q hq with h | h
            · exact hND.le q h
            · omega
          refine Ow.permL (M := (bx, .cells #[vt, vl] 25 (0, 0)) :: (bc, rowO refC 42 rest L) :: (D3 ++ [(b5, .cells (refC r).toArray 42 (0, 0)), (b9, .cells (idLC r.id).toArray 40 (0, 0))])) (by classical exact List.perm_iff_count.2 fun a => by simp only [List.count_append, List.count_cons, List.count_nil] <;> omega) ?_
          have hG3' : Gr (D3 ++ [(b5, .cells (refC r).toArray 42 (0, 0)), (b9, .cells (idLC r.id).toArray 40 (0, 0))]) 40 32 v3 _ _ := hG3.app
          have hN3' : New w.heap.size (D3 ++ [(b5, Obj.cells (refC r).toArray 42 (0, 0)), (b9, .cells (idLC r.id).toArray 40 (0, 0))]) := hND3.app ⟨hw5, hw9, trivial⟩
          generalize (D3 ++ [(b5, Obj.cells (refC r).toArray 42 (0, 0)), (b9, .cells (idLC r.id).toArray 40 (0, 0))]) = E3 at *
          refine Ow.go rfl ?_
          simp (disch := (first | assumption | omega | (simp only [lenS, lenT, UInt64.reduceToNat]; try omega))) only [↓Sx.S0, Sx.S1, Tryd.fx, uWZD_2, Nat.reduceAdd, Nat.reducePow, Int.reducePow, Nat.reduceBEq, ↓reduceIte, UInt8.reduceToNat, UInt16.reduceToNat, UInt32.reduceToNat, UInt64.reduceToNat, Int.reduceToNat]
          ((try with_reducible refine Cw.go [] ?_); (try simp (disch := (first | assumption | omega | (simp only [lenS, lenT, UInt64.reduceToNat]; try omega))) only [↓Sx.S0, Sx.S1, Tryd.fx, uWZD_2, Nat.reduceAdd, Nat.reducePow, Int.reducePow, Nat.reduceBEq, ↓reduceIte, UInt8.reduceToNat, UInt16.reduceToNat, UInt32.reduceToNat, UInt64.reduceToNat, Int.reduceToNat]))
          refine Again.mk (G := RoG) ⟨g + 1, v3, o ++ [r.id], E3⟩ (by show L.length - (g + 1) < L.length - g; omega) ⟨hlt, hN3', ?_, ?_, by show (o ++ [r.id]).length ≤ g + 1; rw [List.length_append]; simp; omega⟩ rfl rfl
          · show Gr E3 40 32 v3 (o ++ [r.id]).length ((o ++ [r.id]).map idLC).flatten
            simpa using hG3'
          · show o ++ [r.id] = nzI (L.take (g + 1))
            rw [hst, ← ho]
        · rw [hz, if_pos rfl] at hst
          have hne := neIdz r.id.l hil
          rw [hz] at hne
          have d4 : (!true) = false := rfl
          refine Ow.go rfl ?_
          simp (disch := (first | assumption | omega | (simp only [lenS, lenT, UInt64.reduceToNat]; try omega))) only [↓Sx.S0, Sx.S1, Tryd.fx, uWZD_2, Nat.reduceAdd, Nat.reducePow, Int.reducePow, Nat.reduceBEq, ↓reduceIte, UInt8.reduceToNat, UInt16.reduceToNat, UInt32.reduceToNat, UInt64.reduceToNat, Int.reduceToNat, hne, d4]
          ((try with_reducible refine Cw.go [] ?_); (try simp (disch := (first | assumption | omega | (simp only [lenS, lenT, UInt64.reduceToNat]; try omega))) only [↓Sx.S0, Sx.S1, Tryd.fx, uWZD_2, Nat.reduceAdd, Nat.reducePow, Int.reducePow, Nat.reduceBEq, ↓reduceIte, UInt8.reduceToNat, UInt16.reduceToNat, UInt32.reduceToNat, UInt64.reduceToNat, Int.reduceToNat]))
          have hND5 : New w.heap.size ((b5, .cells (refC r).toArray 42 (0, 0)) :: D) := ⟨hw5, hND⟩
          have hnb : b5 ∉ keys D := fun h => Nat.lt_irrefl _ (above_to hb5 (by simp [keys] at h ⊢; simp [h]))
          refine Again.mk (G := RoG) ⟨g + 1, v, o, (b5, .cells (refC r).toArray 42 (0, 0)) :: D⟩ (by show L.length - (g + 1) < L.length - g; omega) ⟨hlt, hND5, ?_, ?_, by show o.length ≤ g + 1; omega⟩ rfl rfl
          · exact gr_cons hGr hnb
          · show o = nzI (L.take (g + 1))
            rw [hst, List.append_nil]; exact ho
      · obtain rfl : g = L.length := by omega
        have d1 : decide ((L.length : Int) < (L.length : Int)) = false := by simp
        refine Cw.world fun wz hwz => ?_
        have hnd1 := List.nodup_cons.1 hwz.nodup
        have hnd2 := List.nodup_cons.1 hnd1.2
        clear hwz wz
        ((try with_reducible refine Cw.go [] ?_); (try simp (disch := (first | assumption | omega | (simp only [lenS, lenT, UInt64.reduceToNat]; try omega))) only [↓Sx.S0, Sx.S1, Tryd.fx, uWZD_2, Nat.reduceAdd, Nat.reducePow, Int.reducePow, Nat.reduceBEq, ↓reduceIte, UInt8.reduceToNat, UInt16.reduceToNat, UInt32.reduceToNat, UInt64.reduceToNat, Int.reduceToNat, d1]))
        rw [List.take_length] at ho
        have hon : o.length ≤ L.length := hol
        rcases hGr with hbuf | ⟨h0, -, b0, rfl, hlk⟩
        · rcases hbuf.inv with ⟨rfl, h0, -⟩ | ⟨b0, c, rs, rfl, hlk, h1, h2, h3, h4⟩
          · have ho0 : o = [] := List.length_eq_zero_iff.1 h0
            refine Ow.callFV rfl Tryd.call78 (fun w' hw' => sortId_none none 0 _ w') ?_
            refine Ow.go rfl ?_
            simp (disch := (first | assumption | omega | (simp only [lenS, lenT, UInt64.reduceToNat]; try omega))) only [↓Sx.S0, Sx.S1, Tryd.fx, uWZD_2, Nat.reduceAdd, Nat.reducePow, Int.reducePow, Nat.reduceBEq, ↓reduceIte, UInt8.reduceToNat, UInt16.reduceToNat, UInt32.reduceToNat, UInt64.reduceToNat, Int.reduceToNat]
            ((try with_reducible refine Cw.go [] ?_); (try simp (disch := (first | assumption | omega | (simp only [lenS, lenT, UInt64.reduceToNat]; try omega))) only [↓Sx.S0, Sx.S1, Tryd.fx, uWZD_2, Nat.reduceAdd, Nat.reducePow, Int.reducePow, Nat.reduceBEq, ↓reduceIte, UInt8.reduceToNat, UInt16.reduceToNat, UInt32.reduceToNat, UInt64.reduceToNat, Int.reduceToNat]))
            refine Ow.callFV rfl Tryd.call81 (fun w' hw' => CompactNo_spec none 0 w') ?_
            refine Ow.go rfl ?_
            simp (disch := (first | assumption | omega | (simp only [lenS, lenT, UInt64.reduceToNat]; try omega))) only [↓Sx.S0, Sx.S1, Tryd.fx, uWZD_2, Nat.reduceAdd, Nat.reducePow, Int.reducePow, Nat.reduceBEq, ↓reduceIte, UInt8.reduceToNat, UInt16.reduceToNat, UInt32.reduceToNat, UInt64.reduceToNat, Int.reduceToNat]
            ((try with_reducible refine Cw.go [] ?_); (try simp (disch := (first | assumption | omega | (simp only [lenS, lenT, UInt64.reduceToNat]; try omega))) only [↓Sx.S0, Sx.S1, Tryd.fx, uWZD_2, Nat.reduceAdd, Nat.reducePow, Int.reducePow, Nat.reduceBEq, ↓reduceIte, UInt8.reduceToNat, UInt16.reduceToNat, UInt32.reduceToNat, UInt64.reduceToNat, Int.reduceToNat]))
            refine ⟨_, (by simp (disch := (first | assumption | omega | (simp only [lenS, lenT, UInt64.reduceToNat]; try omega))) only [↓Sx.S0, Sx.S1, Tryd.fx, uWZD_2, Nat.reduceAdd, Nat.reducePow, Int.reducePow, Nat.reduceBEq, ↓reduceIte, UInt8.reduceToNat, UInt16.reduceToNat, UInt32.reduceToNat, UInt64.reduceToNat, Int.reduceToNat]; rfl), ?_⟩
            refine ⟨Ext.of_new ⟨hwx, hwc, hND⟩, ?_⟩
            unfold RootsS
            rw [if_pos hr]
            exact ⟨[], ⟨[], by rw [hL, ← ho, ho0], List.Pairwise.nil, rfl⟩, (Gr.nl (L := [])).i fun q hq => by cases hq⟩
          · obtain ⟨D', hp⟩ := look_perm hlk
            have hP := hND.perm hp
            have hkb := key_of_look hlk
            have hne1 : bx ≠ b0 := fun e => hnd1.1 (by rw [e]; exact List.mem_cons_of_mem _ hkb)
            have hne2 : bc ≠ b0 := fun e => hnd2.1 (by rw [e]; exact hkb)
            refine Ow.permL (M := (b0, rowO idLC 40 rs o) :: (bx, .cells #[vt, vl] 25 (0, 0)) :: (bc, rowO refC 42 rest L) :: D') ((List.Perm.swap _ _ _).trans (List.Perm.cons _ ((List.Perm.swap _ _ _).trans (List.Perm.cons _ hp.symm)))) ?_
            refine Ow.callE rfl rfl Tryd.call78 List.mem_cons_self (fun w' hw' => sortId_spec (c := c) w' (hw'.has _ _ List.mem_cons_self) (by omega)) (fun v1 o1 hS => ?_)
            obtain ⟨rfl, l', hp', hs', rfl⟩ := hS
            have hll' : o.length = l'.length := hp'.length_eq.symm
            rw [hll']
            simp (disch := (first | assumption | omega | (simp only [lenS, lenT, UInt64.reduceToNat]; try omega))) only [setB_same, setB_other, List.cons_append, List.nil_append]
            refine Ow.go rfl ?_
            simp (disch := (first | assumption | omega | (simp only [lenS, lenT, UInt64.reduceToNat]; try omega))) only [↓Sx.S0, Sx.S1, Tryd.fx, uWZD_2, Nat.reduceAdd, Nat.reducePow, Int.reducePow, Nat.reduceBEq, ↓reduceIte, UInt8.reduceToNat, UInt16.reduceToNat, UInt32.reduceToNat, UInt64.reduceToNat, Int.reduceToNat]
            ((try with_reducible refine Cw.go [] ?_); (try simp (disch := (first | assumption | omega | (simp only [lenS, lenT, UInt64.reduceToNat]; try omega))) only [↓Sx.S0, Sx.S1, Tryd.fx, uWZD_2, Nat.reduceAdd, Nat.reducePow, Int.reducePow, Nat.reduceBEq, ↓reduceIte, UInt8.reduceToNat, UInt16.reduceToNat, UInt32.reduceToNat, UInt64.reduceToNat, Int.reduceToNat]))
            refine Ow.callE rfl rfl Tryd.call81 List.mem_cons_self (fun w' hw' => Compact_spec b0 c l' rs 40 w' (hw'.has _ _ List.mem_cons_self) (by omega) (by omega)) (fun v1 o1 hS => ?_)
            obtain ⟨rs', rfl, rfl, hrl⟩ := hS
            simp (disch := (first | assumption | omega | (simp only [lenS, lenT, UInt64.reduceToNat]; try omega))) only [setB_same, setB_other, List.cons_append, List.nil_append]
            refine Ow.go rfl ?_
            simp (disch := (first | assumption | omega | (simp only [lenS, lenT, UInt64.reduceToNat]; try omega))) only [↓Sx.S0, Sx.S1, Tryd.fx, uWZD_2, Nat.reduceAdd, Nat.reducePow, Int.reducePow, Nat.reduceBEq, ↓reduceIte, UInt8.reduceToNat, UInt16.reduceToNat, UInt32.reduceToNat, UInt64.reduceToNat, Int.reduceToNat]
            ((try with_reducible refine Cw.go [] ?_); (try simp (disch := (first | assumption | omega | (simp only [lenS, lenT, UInt64.reduceToNat]; try omega))) only [↓Sx.S0, Sx.S1, Tryd.fx, uWZD_2, Nat.reduceAdd, Nat.reducePow, Int.reducePow, Nat.reduceBEq, ↓reduceIte, UInt8.reduceToNat, UInt16.reduceToNat, UInt32.reduceToNat, UInt64.reduceToNat, Int.reduceToNat]))
            refine ⟨_, (by simp (disch := (first | assumption | omega | (simp only [lenS, lenT, UInt64.reduceToNat]; try omega))) only [↓Sx.S0, Sx.S1, Tryd.fx, uWZD_2, Nat.reduceAdd, Nat.reducePow, Int.reducePow, Nat.reduceBEq, ↓reduceIte, UInt8.reduceToNat, UInt16.reduceToNat, UInt32.reduceToNat, UInt64.reduceToNat, Int.reduceToNat]; rfl), ?_⟩
            refine ⟨Ext.of_new ⟨hP.1, hwx, hwc, hP.2⟩, ?_⟩
            unfold RootsS
            rw [if_pos hr]
            have hul := uniqI_le l'
            refine ⟨uniqI l', ⟨l', by rw [hL, ← ho]; exact hp', hs', rfl⟩, Gr.i (X := [(b0, .cells (((uniqI l').map idLC).flatten ++ rs').toArray 40 (0, 0))]) (.inl (.at_ (look_same _ _ _) (by rw [flat_len idLC_len]) (by rw [Nat.sub_mul]; omega) (by omega) (by omega))) fun q hq => by simp only [List.mem_singleton] at hq; rw [hq]; exact List.mem_cons_self⟩
        · refine Ow.callFV rfl Tryd.call78 (fun w' hw' => sortId_none (some ⟨b0, 0, none⟩) 0 _ w') ?_
          refine Ow.go rfl ?_
          simp (disch := (first | assumption | omega | (simp only [lenS, lenT, UInt64.reduceToNat]; try omega))) only [↓Sx.S0, Sx.S1, Tryd.fx, uWZD_2, Nat.reduceAdd, Nat.reducePow, Int.reducePow, Nat.reduceBEq, ↓reduceIte, UInt8.reduceToNat, UInt16.reduceToNat, UInt32.reduceToNat, UInt64.reduceToNat, Int.reduceToNat]
          ((try with_reducible refine Cw.go [] ?_); (try simp (disch := (first | assumption | omega | (simp only [lenS, lenT, UInt64.reduceToNat]; try omega))) only [↓Sx.S0, Sx.S1, Tryd.fx, uWZD_2, Nat.reduceAdd, Nat.reducePow, Int.reducePow, Nat.reduceBEq, ↓reduceIte, UInt8.reduceToNat, UInt16.reduceToNat, UInt32.reduceToNat, UInt64.reduceToNat, Int.reduceToNat]))
          refine Ow.callFV rfl Tryd.call81 (fun w' hw' => CompactNo_spec (some ⟨b0, 0, none⟩) 0 w') ?_
          refine Ow.go rfl ?_
          simp (disch := (first | assumption | omega | (simp only [lenS, lenT, UInt64.reduceToNat]; try omega))) only [↓Sx.S0, Sx.S1, Tryd.fx, uWZD_2, Nat.reduceAdd, Nat.reducePow, Int.reducePow, Nat.reduceBEq, ↓reduceIte, UInt8.reduceToNat, UInt16.reduceToNat, UInt32.reduceToNat, UInt64.reduceToNat, Int.reduceToNat]
          ((try with_reducible refine Cw.go [] ?_); (try simp (disch := (first | assumption | omega | (simp only [lenS, lenT, UInt64.reduceToNat]; try omega))) only [↓Sx.S0, Sx.S1, Tryd.fx, uWZD_2, Nat.reduceAdd, Nat.reducePow, Int.reducePow, Nat.reduceBEq, ↓reduceIte, UInt8.reduceToNat, UInt16.reduceToNat, UInt32.reduceToNat, UInt64.reduceToNat, Int.reduceToNat]))
          refine ⟨_, (by simp (disch := (first | assumption | omega | (simp only [lenS, lenT, UInt64.reduceToNat]; try omega))) only [↓Sx.S0, Sx.S1, Tryd.fx, uWZD_2, Nat.reduceAdd, Nat.reducePow, Int.reducePow, Nat.reduceBEq, ↓reduceIte, UInt8.reduceToNat, UInt16.reduceToNat, UInt32.reduceToNat, UInt64.reduceToNat, Int.reduceToNat]; rfl), ?_⟩
          refine ⟨Ext.of_new ⟨hwx, hwc, hND⟩, ?_⟩
          unfold RootsS
          rw [if_pos hr]
          have ho0 : o = [] := List.length_eq_zero_iff.1 h0
          refine ⟨[], ⟨[], by rw [hL, ← ho, ho0], List.Pairwise.nil, rfl⟩, Gr.i (X := D) (.inr ⟨rfl, rfl, b0, rfl, hlk⟩) fun q hq => List.mem_cons_of_mem _ (List.mem_cons_of_mem _ hq)⟩
end Go.Proofs
end
section
open Go Go.Proofs Go.Sx Go.RefP
namespace Go.Proofs
set_option maxRecDepth 10000
set_option maxHeartbeats 4000000
set_option linter.unusedSimpArgs false
theorem valR_if {t l : List RefL} {k : Nat} {ls : List RefL} (h : valR t l k = some ls) : t.length ≤ 16 ∧ l.length ≤ 100 ∧ tabOkR t = true ∧ logR l t k = some ls := by
  unfold valR at h
  split at h
  · rename_i hc; exact ⟨hc.1, hc.2.1, hc.2.2, h⟩
  · cases h
theorem logR_len {l t : List RefL} (ht : t.length ≤ 16) : ∀ (k : Nat) (ls : List RefL), logR l t k = some ls → ls.length ≤ 16
  | 0, ls, h => by
    unfold logR at h
    cases h; exact ht
  | k + 1, ls, h => by
    unfold logR at h
    cases hm : logR l t k with
    | none => rw [hm] at h; cases h
    | some m =>
      rw [hm, Option.bind_some] at h
      split at h
      · rename_i hc
        cases h
        simp only [Bool.and_eq_true, decide_eq_true_eq] at hc
        exact hc.2
      · cases h
/-- Behind some of the log of a right book. -/
theorem of_trim {t l : List RefL} (h : rightB t l = true) {k : Nat} (hk : k ≤ l.length) :
    ∃ m ls, ofM nameV z32 (prs t) (prs l) k = some m ∧ valR t l k = some ls ∧ Rel m (prs ls) ∧ ls.length ≤ 16 ∧ l.length ≤ 100 := by
  rw [← valR_right] at h
  cases hv : valR t l l.length with
  | none => rw [hv] at h; cases h
  | some le =>
    obtain ⟨h1, h2, h3, h4⟩ := valR_if hv
    cases hg : logR l t k with
    | none => rw [logR_stop hg _ hk] at h4; cases h4
    | some ls =>
      have hvk : valR t l k = some ls := by unfold valR; rw [if_pos ⟨h1, h2, h3⟩]; exact hg
      have hp := valR_prs t l k hk
      rw [hvk] at hp
      rcases of_rel nameV z32 (prs t) (prs l) (by rw [prs_len]; exact h2) k with ⟨-, hn⟩ | ⟨m, d, hm, hd, hr⟩
      · rw [hn] at hp; cases hp
      · rw [hd] at hp
        cases hp
        exact ⟨m, ls, hm, hvk, hr, logR_len h1 k ls hg, h2⟩
/-- How many first entries are taken together. -/
def trimK (n : Nat) (keep : Int) : Nat := ((n : Int) - max 0 (min keep n)).toNat
theorem trimK_le (n : Nat) (keep : Int) : trimK n keep ≤ n := by unfold trimK; omega
theorem trimK_eq (n : Nat) (keep : Int) : (n : Int) - max 0 (min keep n) = (trimK n keep : Nat) := by unfold trimK; omega
theorem minmax (n keep : Int) : (if (if n < keep then n else keep) > 0 then (if n < keep then n else keep) else 0) = max 0 (min keep n) := by
  split <;> split <;> omega
/-- What Trim hands back. -/
def TrimS (t l : List RefL) (keep : Int) (v : Value) (D : Heap) : Prop :=
  if rightB t l = true then ∃ vt vl ls, valR t l (trimK l.length keep) = some ls ∧ v = .tuple #[.agg #[vt, vl], vi 0] ∧ GrI D 42 33 vt ls.length (ls.map refC).flatten ∧ GrI D 42 33 vl (l.drop (trimK l.length keep)).length ((l.drop (trimK l.length keep)).map refC).flatten
  else v = .tuple #[.agg #[.slice none 0 0, .slice none 0 0], vi 1]
set_option linter.defProp false
def uWZ4_1 := And.intro (And.intro (And.intro (And.intro (@rdIn_v8) (@rdIn_v16)) (And.intro (@rdIn_v32) (@rdIn_v64))) (And.intro (And.intro (@rdIn_vi) (@load_ref0)) (And.intro (@load_ref1) (@cells_ref)))) (And.intro (And.intro (And.intro (@eqIdz) (@store_rr)) (And.intro (@load_ref) (@load_bk0))) (And.intro (And.intro (@load_bk1) (@load_bk)) (And.intro (@tup2_0) (And.intro (@tup2_1) (@store_bk0)))))
theorem Trim_spec (vt vl : Value) (t l : List RefL) (keep : Int) (w : World) (ht : RefSl w vt t) (hl : RefSl w vl l) (htl : t.length < 1000) (hll : l.length < 1000) (hnt : ShortN t) (hnl : ShortN l) :
    Rets Tryd.prog 31 #[.agg #[vt, vl], vi keep] w (XS w [] (TrimS t l keep)) := by
  refine Rets.enterX Tryd.func31 rfl (rs := [.cell 4 25, .tmp 5]) Tryd.results31 Tryd.ntmps31 (fun p hp => by cases hp) (by simp [keys]) ?_
  simp only [List.size_toArray, List.length_cons, List.length_nil, Nat.reduceAdd, Nat.reduceSub, List.replicate_succ, List.replicate_zero, List.cons_append, List.nil_append]
  ((try with_reducible refine Cw.go [5] ?_); (try simp (disch := (first | assumption | omega | (simp only [lenS, lenT, UInt64.reduceToNat]; try omega))) only [↓Sx.S0, Sx.S1, Tryd.fx, uWZ4_1, Nat.reduceAdd, Nat.reducePow, Int.reducePow, Nat.reduceBEq, ↓reduceIte, UInt8.reduceToNat, UInt16.reduceToNat, UInt32.reduceToNat, UInt64.reduceToNat, Int.reduceToNat]))
  refine Ow.box rfl rfl fun bx hbx hwx => ?_
  simp only [ev_tmp, getF_0, getF_s, cells_agg, List.nil_append, List.cons_append]
  refine Ow.go rfl ?_
  simp (disch := (first | assumption | omega | (simp only [lenS, lenT, UInt64.reduceToNat]; try omega))) only [↓Sx.S0, Sx.S1, Tryd.fx, uWZ4_1, Nat.reduceAdd, Nat.reducePow, Int.reducePow, Nat.reduceBEq, ↓reduceIte, UInt8.reduceToNat, UInt16.reduceToNat, UInt32.reduceToNat, UInt64.reduceToNat, Int.reduceToNat]
  refine Ow.alloc rfl rfl zrBk fun br hbr hwr => ?_
  simp only [cells_agg, List.nil_append, List.cons_append]
  obtain ⟨hxr, -⟩ := hbr
  refine Ow.go rfl ?_
  simp (disch := (first | assumption | omega | (simp only [lenS, lenT, UInt64.reduceToNat]; try omega))) only [↓Sx.S0, Sx.S1, Tryd.fx, uWZ4_1, Nat.reduceAdd, Nat.reducePow, Int.reducePow, Nat.reduceBEq, ↓reduceIte, UInt8.reduceToNat, UInt16.reduceToNat, UInt32.reduceToNat, UInt64.reduceToNat, Int.reduceToNat]
  ((try with_reducible refine Cw.go [] ?_); (try simp (disch := (first | assumption | omega | (simp only [lenS, lenT, UInt64.reduceToNat]; try omega))) only [↓Sx.S0, Sx.S1, Tryd.fx, uWZ4_1, Nat.reduceAdd, Nat.reducePow, Int.reducePow, Nat.reduceBEq, ↓reduceIte, UInt8.reduceToNat, UInt16.reduceToNat, UInt32.reduceToNat, UInt64.reduceToNat, Int.reduceToNat]))
  refine Ow.callFV rfl Tryd.call36 (fun w' hw' => Right_spec vt vl t l w' (ht.oldN hw' ⟨hwx, hwr, trivial⟩) (hl.oldN hw' ⟨hwx, hwr, trivial⟩) (by omega) (by omega) hnt hnl) ?_
  cases hr : rightB t l
  · refine Ow.go rfl ?_
    simp (disch := (first | assumption | omega | (simp only [lenS, lenT, UInt64.reduceToNat]; try omega))) only [↓Sx.S0, Sx.S1, Tryd.fx, uWZ4_1, Nat.reduceAdd, Nat.reducePow, Int.reducePow, Nat.reduceBEq, ↓reduceIte, UInt8.reduceToNat, UInt16.reduceToNat, UInt32.reduceToNat, UInt64.reduceToNat, Int.reduceToNat]
    ((try with_reducible refine Cw.go [] ?_); (try simp (disch := (first | assumption | omega | (simp only [lenS, lenT, UInt64.reduceToNat]; try omega))) only [↓Sx.S0, Sx.S1, Tryd.fx, uWZ4_1, Nat.reduceAdd, Nat.reducePow, Int.reducePow, Nat.reduceBEq, ↓reduceIte, UInt8.reduceToNat, UInt16.reduceToNat, UInt32.reduceToNat, UInt64.reduceToNat, Int.reduceToNat]))
    refine Ow.build (.agg #[.slice none 0 0, .slice none 0 0]) rfl (by kernel_rfl) ?_
    refine Ow.go rfl ?_
    simp (disch := (first | assumption | omega | (simp only [lenS, lenT, UInt64.reduceToNat]; try omega))) only [↓Sx.S0, Sx.S1, Tryd.fx, uWZ4_1, Nat.reduceAdd, Nat.reducePow, Int.reducePow, Nat.reduceBEq, ↓reduceIte, UInt8.reduceToNat, UInt16.reduceToNat, UInt32.reduceToNat, UInt64.reduceToNat, Int.reduceToNat]
    ((try with_reducible refine Cw.go [] ?_); (try simp (disch := (first | assumption | omega | (simp only [lenS, lenT, UInt64.reduceToNat]; try omega))) only [↓Sx.S0, Sx.S1, Tryd.fx, uWZ4_1, Nat.reduceAdd, Nat.reducePow, Int.reducePow, Nat.reduceBEq, ↓reduceIte, UInt8.reduceToNat, UInt16.reduceToNat, UInt32.reduceToNat, UInt64.reduceToNat, Int.reduceToNat]))
    refine ⟨_, (by simp (disch := (first | assumption | omega | (simp only [lenS, lenT, UInt64.reduceToNat]; try omega))) only [↓Sx.S0, Sx.S1, Tryd.fx, uWZ4_1, Nat.reduceAdd, Nat.reducePow, Int.reducePow, Nat.reduceBEq, ↓reduceIte, UInt8.reduceToNat, UInt16.reduceToNat, UInt32.reduceToNat, UInt64.reduceToNat, Int.reduceToNat]; rfl), ?_⟩
    refine ⟨Ext.of_new ⟨hwx, hwr, trivial⟩, ?_⟩
    unfold TrimS
    rw [if_neg (by rw [hr]; simp)]
    rfl
  · refine Ow.go rfl ?_
    simp (disch := (first | assumption | omega | (simp only [lenS, lenT, UInt64.reduceToNat]; try omega))) only [↓Sx.S0, Sx.S1, Tryd.fx, uWZ4_1, Nat.reduceAdd, Nat.reducePow, Int.reducePow, Nat.reduceBEq, ↓reduceIte, UInt8.reduceToNat, UInt16.reduceToNat, UInt32.reduceToNat, UInt64.reduceToNat, Int.reduceToNat]
    ((try with_reducible refine Cw.go [] ?_); (try simp (disch := (first | assumption | omega | (simp only [lenS, lenT, UInt64.reduceToNat]; try omega))) only [↓Sx.S0, Sx.S1, Tryd.fx, uWZ4_1, Nat.reduceAdd, Nat.reducePow, Int.reducePow, Nat.reduceBEq, ↓reduceIte, UInt8.reduceToNat, UInt16.reduceToNat, UInt32.reduceToNat, UInt64.reduceToNat, Int.reduceToNat, hl.len]))
    refine Ow.minI rfl rfl rfl ?_
    refine Ow.go rfl ?_
    simp (disch := (first | assumption | omega | (simp only [lenS, lenT, UInt64.reduceToNat]; try omega))) only [↓Sx.S0, Sx.S1, Tryd.fx, uWZ4_1, Nat.reduceAdd, Nat.reducePow, Int.reducePow, Nat.reduceBEq, ↓reduceIte, UInt8.reduceToNat, UInt16.reduceToNat, UInt32.reduceToNat, UInt64.reduceToNat, Int.reduceToNat]
    refine Ow.maxI (a := 0) rfl rfl rfl ?_
    rw [minmax]
    refine Ow.go rfl ?_
    simp (disch := (first | assumption | omega | (simp only [lenS, lenT, UInt64.reduceToNat]; try omega))) only [↓Sx.S0, Sx.S1, Tryd.fx, uWZ4_1, Nat.reduceAdd, Nat.reducePow, Int.reducePow, Nat.reduceBEq, ↓reduceIte, UInt8.reduceToNat, UInt16.reduceToNat, UInt32.reduceToNat, UInt64.reduceToNat, Int.reduceToNat]
    have hk := trimK_le l.length keep
    obtain ⟨m, ls, hm, hv, hrel, hls, hl100⟩ := of_trim hr hk
    rw [trimK_eq]
    ((try with_reducible refine Cw.go [] ?_); (try simp (disch := (first | assumption | omega | (simp only [lenS, lenT, UInt64.reduceToNat]; try omega))) only [↓Sx.S0, Sx.S1, Tryd.fx, uWZ4_1, Nat.reduceAdd, Nat.reducePow, Int.reducePow, Nat.reduceBEq, ↓reduceIte, UInt8.reduceToNat, UInt16.reduceToNat, UInt32.reduceToNat, UInt64.reduceToNat, Int.reduceToNat, load_bk]))
    refine Ow.callN rfl rfl Tryd.call72 (S := (fun B v D => OfS B t l (trimK l.length keep) v D)) (fun w' hw' => of_spec vt vl t l (trimK l.length keep) w' (ht.oldN hw' ⟨hwx, hwr, trivial⟩) (hl.oldN hw' ⟨hwx, hwr, trivial⟩) (by omega) (by omega) hk hnt hnl) (fun B v D h => h.new) (fun B v D hA hB hS => ?_)
    unfold OfS at hS
    rw [hm] at hS
    obtain ⟨bm, om, rfl, rfl, hom, hBm⟩ := hS
    have hxm : bx < bm := Nat.lt_of_lt_of_le (above_to hA (by simp [keys])) hBm
    have hrm : br < bm := Nat.lt_of_lt_of_le (above_to hA (by simp [keys])) hBm
    generalize hkk : trimK l.length keep = k at *
    refine Ow.go rfl ?_
    simp (disch := (first | assumption | omega | (simp only [lenS, lenT, UInt64.reduceToNat]; try omega))) only [↓Sx.S0, Sx.S1, Tryd.fx, uWZ4_1, Nat.reduceAdd, Nat.reducePow, Int.reducePow, Nat.reduceBEq, ↓reduceIte, UInt8.reduceToNat, UInt16.reduceToNat, UInt32.reduceToNat, UInt64.reduceToNat, Int.reduceToNat]
    ((try with_reducible refine Cw.go [] ?_); (try simp (disch := (first | assumption | omega | (simp only [lenS, lenT, UInt64.reduceToNat]; try omega))) only [↓Sx.S0, Sx.S1, Tryd.fx, uWZ4_1, Nat.reduceAdd, Nat.reducePow, Int.reducePow, Nat.reduceBEq, ↓reduceIte, UInt8.reduceToNat, UInt16.reduceToNat, UInt32.reduceToNat, UInt64.reduceToNat, Int.reduceToNat]))
    obtain ⟨vd, hvd, hld, -⟩ := SlV.dropE hl hk true
    refine Cw.regionS [bx] [0, 2, 4, 3, 5, 1, 6, 7, 8, 9] [8] (by kernel_rfl) (by kernel_rfl) (by kernel_rfl) ?_
    simp only [nl_cons, ↓pickL_nil, ↓pickL_cons, ↓nthO_0, ↓nthO_s, consO_some]
    refine Ow.goQ ?_
    simp (disch := (first | assumption | omega | (simp only [lenS, lenT, UInt64.reduceToNat]; try omega))) only [↓Sx.S0, Sx.S1, Tryd.fx, uWZ4_1, Nat.reduceAdd, Nat.reducePow, Int.reducePow, Nat.reduceBEq, ↓reduceIte, UInt8.reduceToNat, UInt16.reduceToNat, UInt32.reduceToNat, UInt64.reduceToNat, Int.reduceToNat, Tryd.ix23, hvd]
    refine Ow.soft rfl rfl rfl ?_
    refine Ow.callC rfl rfl Tryd.call73 (fun w' hw' => list_spec bm om m ls w' (hw'.has _ _ (by simp)) hom hrel (by omega)) (fun B1 v1 D1 hA1 hB1 hN1 hS1 => ?_)
    have hk1 : bm < B1 := above_to hA1 (by simp [keys])
    have hx1 : bx < B1 := above_to hA1 (by simp [keys])
    have hr1 : br < B1 := above_to hA1 (by simp [keys])
    have hn1 : New (w.heap.size) D1 := hN1.mono (by omega)
    with_reducible refine Ow.nil ?_
    refine ⟨by intro b hb; simp only [List.mem_cons, List.not_mem_nil, or_false] at hb; (try subst hb); simp only [List.cons_append, read_same], ?_⟩
    refine Ow.goQ ?_
    simp (disch := (first | assumption | omega | (simp only [lenS, lenT, UInt64.reduceToNat]; try omega))) only [↓Sx.S0, Sx.S1, Tryd.fx, uWZ4_1, Nat.reduceAdd, Nat.reducePow, Int.reducePow, Nat.reduceBEq, ↓reduceIte, UInt8.reduceToNat, UInt16.reduceToNat, UInt32.reduceToNat, UInt64.reduceToNat, Int.reduceToNat, Tryd.ix23, hvd]
    refine Ow.soft rfl rfl rfl ?_
    have hdl : (l.drop k).length < 1000 := by rw [List.length_drop]; omega
    refine Ow.callC rfl rfl Tryd.call47 (fun w' hw' => CloneRef_spec vd (l.drop k) w' (SlV.oldN hld hw' ⟨hwx, hwr, by omega, hn1⟩) (by omega)) (fun B2 v2 D2 hA2 hB2 hN2 hS2 => ?_)
    have hn2 : New (w.heap.size) D2 := hN2.mono (by omega)
    with_reducible refine Ow.nil ?_
    refine ⟨by intro b hb; simp only [List.mem_cons, List.not_mem_nil, or_false] at hb; (try subst hb); simp only [List.cons_append, read_same], ?_⟩
    refine Ow.goQ ?_
    simp (disch := (first | assumption | omega | (simp only [lenS, lenT, UInt64.reduceToNat]; try omega))) only [↓Sx.S0, Sx.S1, Tryd.fx, uWZ4_1, Nat.reduceAdd, Nat.reducePow, Int.reducePow, Nat.reduceBEq, ↓reduceIte, UInt8.reduceToNat, UInt16.reduceToNat, UInt32.reduceToNat, UInt64.reduceToNat, Int.reduceToNat]
    have hc1 := gri_cell hS1
    have hc2 := hS2.cell
    refine Ow.build (.agg #[v1, v2]) rfl (build_bk v1 v2 hc1.2 hc2.2) ?_
    refine Ow.goQ ?_
    simp (disch := (first | assumption | omega | (simp only [lenS, lenT, UInt64.reduceToNat]; try omega))) only [↓Sx.S0, Sx.S1, Tryd.fx, uWZ4_1, Nat.reduceAdd, Nat.reducePow, Int.reducePow, Nat.reduceBEq, ↓reduceIte, UInt8.reduceToNat, UInt16.reduceToNat, UInt32.reduceToNat, UInt64.reduceToNat, Int.reduceToNat]
    have hst := store_bk (.slice none 0 0) (.slice none 0 0) v1 v2 25 hc1.1 hc2.1
    refine Ow.store rfl rfl rfl (by simp (disch := (first | assumption | omega | (simp only [lenS, lenT, UInt64.reduceToNat]; try omega))) only [↓Sx.S0, Sx.S1, Tryd.fx, uWZ4_1, Nat.reduceAdd, Nat.reducePow, Int.reducePow, Nat.reduceBEq, ↓reduceIte, UInt8.reduceToNat, UInt16.reduceToNat, UInt32.reduceToNat, UInt64.reduceToNat, Int.reduceToNat, hst]; rfl) ?_
    refine Ow.goQ ?_
    simp (disch := (first | assumption | omega | (simp only [lenS, lenT, UInt64.reduceToNat]; try omega))) only [↓Sx.S0, Sx.S1, Tryd.fx, uWZ4_1, Nat.reduceAdd, Nat.reducePow, Int.reducePow, Nat.reduceBEq, ↓reduceIte, UInt8.reduceToNat, UInt16.reduceToNat, UInt32.reduceToNat, UInt64.reduceToNat, Int.reduceToNat]
    try with_reducible refine Ow.nil ?_
    ((try with_reducible refine Cw.go [] ?_); (try simp (disch := (first | assumption | omega | (simp only [lenS, lenT, UInt64.reduceToNat]; try omega))) only [↓Sx.S0, Sx.S1, Tryd.fx, uWZ4_1, Nat.reduceAdd, Nat.reducePow, Int.reducePow, Nat.reduceBEq, ↓reduceIte, UInt8.reduceToNat, UInt16.reduceToNat, UInt32.reduceToNat, UInt64.reduceToNat, Int.reduceToNat]))
    refine ⟨_, (by simp (disch := (first | assumption | omega | (simp only [lenS, lenT, UInt64.reduceToNat]; try omega))) only [↓Sx.S0, Sx.S1, Tryd.fx, uWZ4_1, Nat.reduceAdd, Nat.reducePow, Int.reducePow, Nat.reduceBEq, ↓reduceIte, UInt8.reduceToNat, UInt16.reduceToNat, UInt32.reduceToNat, UInt64.reduceToNat, Int.reduceToNat]; rfl), ?_⟩
    refine ⟨Ext.of_new ⟨hwx, hwr, by omega, hn1.app hn2⟩, ?_⟩
    unfold TrimS
    rw [if_pos hr, hkk]
    refine ⟨v1, v2, ls, hv, rfl, hS1.mono fun q hq => ?_, hS2.i fun q hq => ?_⟩
    · simp [hq]
    · simp [hq]
end Go.Proofs
end
section
open Go Go.Proofs Go.Sx Go.RefP Go.RooP
namespace Go.Proofs
set_option maxRecDepth 10000
set_option maxHeartbeats 400000
set_option linter.unusedSimpArgs false
/-- What refs.Values hands back. -/
def GoValsS (t l : List RefL) (v : Value) (D : Heap) : Prop :=
  match valR t l l.length with
  | some ls => GrI D 42 33 v ls.length (ls.map refC).flatten
  | none => v = .slice none 0 0
set_option linter.defProp false
def uWZE_1 := And.intro (And.intro (And.intro (And.intro (@rdIn_v8) (@rdIn_v16)) (And.intro (@rdIn_v32) (@rdIn_v64))) (And.intro (And.intro (@rdIn_vi) (@load_ref0)) (And.intro (@load_ref1) (@cells_ref)))) (And.intro (And.intro (And.intro (@eqIdz) (@store_rr)) (And.intro (@load_ref) (@load_bk0))) (And.intro (And.intro (@load_bk1) (@load_bk)) (And.intro (@tup2_0) (And.intro (@tup2_1) (@store_bk0)))))
theorem GoValues_spec (vt vl : Value) (t l : List RefL) (w : World) (ht : RefSl w vt t) (hl : RefSl w vl l) (htl : t.length < 1000) (hll : l.length < 1000) (hnt : ShortN t) (hnl : ShortN l) :
    Rets Tryd.prog 39 #[.agg #[vt, vl]] w (XS w [] (GoValsS t l)) := by
  refine Rets.enterX Tryd.func39 rfl (rs := [.tmp 2]) Tryd.results39 Tryd.ntmps39 (fun p hp => by cases hp) (by simp [keys]) ?_
  simp only [List.size_toArray, List.length_cons, List.length_nil, Nat.reduceAdd, Nat.reduceSub, List.replicate_succ, List.replicate_zero, List.cons_append, List.nil_append]
  ((try with_reducible refine Cw.go [] ?_); (try simp (disch := (first | assumption | omega | (simp only [lenS, lenT, UInt64.reduceToNat]; try omega))) only [↓Sx.S0, Sx.S1, Tryd.fx, uWZE_1, Nat.reduceAdd, Nat.reducePow, Int.reducePow, Nat.reduceBEq, ↓reduceIte, UInt8.reduceToNat, UInt16.reduceToNat, UInt32.reduceToNat, UInt64.reduceToNat, Int.reduceToNat]))
  refine Ow.box rfl rfl fun bx hbx hwx => ?_
  simp only [ev_tmp, getF_0, getF_s, cells_agg, List.nil_append, List.cons_append]
  refine Ow.go rfl ?_
  simp (disch := (first | assumption | omega | (simp only [lenS, lenT, UInt64.reduceToNat]; try omega))) only [↓Sx.S0, Sx.S1, Tryd.fx, uWZE_1, Nat.reduceAdd, Nat.reducePow, Int.reducePow, Nat.reduceBEq, ↓reduceIte, UInt8.reduceToNat, UInt16.reduceToNat, UInt32.reduceToNat, UInt64.reduceToNat, Int.reduceToNat]
  ((try with_reducible refine Cw.go [] ?_); (try simp (disch := (first | assumption | omega | (simp only [lenS, lenT, UInt64.reduceToNat]; try omega))) only [↓Sx.S0, Sx.S1, Tryd.fx, uWZE_1, Nat.reduceAdd, Nat.reducePow, Int.reducePow, Nat.reduceBEq, ↓reduceIte, UInt8.reduceToNat, UInt16.reduceToNat, UInt32.reduceToNat, UInt64.reduceToNat, Int.reduceToNat, hl.len]))
  refine Ow.callN rfl rfl Tryd.call72 (S := (fun B v D => OfS B t l l.length v D)) (fun w' hw' => of_spec vt vl t l l.length w' (ht.oldN hw' ⟨hwx, trivial⟩) (hl.oldN hw' ⟨hwx, trivial⟩) (by omega) (by omega) (Nat.le_refl _) hnt hnl) (fun B v D h => h.new) (fun B v D hA hB hS => ?_)
  have hnew := (hS.new).mono hB
  have hvr := valR_right t l
  cases hr : rightB t l
  · rw [hr] at hvr
    have hvn : valR t l l.length = none := by cases h : valR t l l.length <;> simp_all
    have hno : GoValsS t l (.slice none 0 0) ([(bx, Obj.cells #[vt, vl] 25 (0, 0))] ++ D) := by unfold GoValsS; rw [hvn]
    have hk : ∃ x, v = .tuple #[x, .bool false] := by
      unfold OfS at hS
      cases ho : ofM nameV z32 (prs t) (prs l) l.length with
      | none => rw [ho] at hS; exact ⟨_, hS.1⟩
      | some m =>
        rw [ho] at hS
        obtain ⟨b, o, rfl, -⟩ := hS
        have h100 : ¬ l.length ≤ 100 := by
          intro h100
          unfold rightB at hr
          have : rightM nameV z32 (prs t) (prs l) = true := by
            unfold rightM
            rw [prs_len, ho]
            simpa using h100
          rw [this] at hr; cases hr
        rw [decide_eq_false h100]
        exact ⟨_, rfl⟩
    obtain ⟨x, rfl⟩ := hk
    refine Ow.go rfl ?_
    simp (disch := (first | assumption | omega | (simp only [lenS, lenT, UInt64.reduceToNat]; try omega))) only [↓Sx.S0, Sx.S1, Tryd.fx, uWZE_1, Nat.reduceAdd, Nat.reducePow, Int.reducePow, Nat.reduceBEq, ↓reduceIte, UInt8.reduceToNat, UInt16.reduceToNat, UInt32.reduceToNat, UInt64.reduceToNat, Int.reduceToNat]
    ((try with_reducible refine Cw.go [] ?_); (try simp (disch := (first | assumption | omega | (simp only [lenS, lenT, UInt64.reduceToNat]; try omega))) only [↓Sx.S0, Sx.S1, Tryd.fx, uWZE_1, Nat.reduceAdd, Nat.reducePow, Int.reducePow, Nat.reduceBEq, ↓reduceIte, UInt8.reduceToNat, UInt16.reduceToNat, UInt32.reduceToNat, UInt64.reduceToNat, Int.reduceToNat]))
    refine ⟨_, (by simp (disch := (first | assumption | omega | (simp only [lenS, lenT, UInt64.reduceToNat]; try omega))) only [↓Sx.S0, Sx.S1, Tryd.fx, uWZE_1, Nat.reduceAdd, Nat.reducePow, Int.reducePow, Nat.reduceBEq, ↓reduceIte, UInt8.reduceToNat, UInt16.reduceToNat, UInt32.reduceToNat, UInt64.reduceToNat, Int.reduceToNat]; rfl), ?_⟩
    exact ⟨Ext.of_new ⟨hwx, hnew⟩, hno⟩
  · obtain ⟨m, ls, hm, hv, hrel, hls, hl100⟩ := of_trim hr (Nat.le_refl _)
    unfold OfS at hS
    rw [hm] at hS
    obtain ⟨bm, om, rfl, rfl, hom, hBm⟩ := hS
    have hxm : bx < bm := Nat.lt_of_lt_of_le (above_to hA (by simp [keys])) hBm
    rw [decide_eq_true hl100]
    refine Ow.go rfl ?_
    simp (disch := (first | assumption | omega | (simp only [lenS, lenT, UInt64.reduceToNat]; try omega))) only [↓Sx.S0, Sx.S1, Tryd.fx, uWZE_1, Nat.reduceAdd, Nat.reducePow, Int.reducePow, Nat.reduceBEq, ↓reduceIte, UInt8.reduceToNat, UInt16.reduceToNat, UInt32.reduceToNat, UInt64.reduceToNat, Int.reduceToNat]
    ((try with_reducible refine Cw.go [] ?_); (try simp (disch := (first | assumption | omega | (simp only [lenS, lenT, UInt64.reduceToNat]; try omega))) only [↓Sx.S0, Sx.S1, Tryd.fx, uWZE_1, Nat.reduceAdd, Nat.reducePow, Int.reducePow, Nat.reduceBEq, ↓reduceIte, UInt8.reduceToNat, UInt16.reduceToNat, UInt32.reduceToNat, UInt64.reduceToNat, Int.reduceToNat]))
    refine Ow.callC rfl rfl Tryd.call73 (fun w' hw' => list_spec bm om m ls w' (hw'.has _ _ (by simp)) hom hrel (by omega)) (fun B1 v1 D1 hA1 hB1 hN1 hS1 => ?_)
    refine Ow.go rfl ?_
    simp (disch := (first | assumption | omega | (simp only [lenS, lenT, UInt64.reduceToNat]; try omega))) only [↓Sx.S0, Sx.S1, Tryd.fx, uWZE_1, Nat.reduceAdd, Nat.reducePow, Int.reducePow, Nat.reduceBEq, ↓reduceIte, UInt8.reduceToNat, UInt16.reduceToNat, UInt32.reduceToNat, UInt64.reduceToNat, Int.reduceToNat]
    ((try with_reducible refine Cw.go [] ?_); (try simp (disch := (first | assumption | omega | (simp only [lenS, lenT, UInt64.reduceToNat]; try omega))) only [↓Sx.S0, Sx.S1, Tryd.fx, uWZE_1, Nat.reduceAdd, Nat.reducePow, Int.reducePow, Nat.reduceBEq, ↓reduceIte, UInt8.reduceToNat, UInt16.reduceToNat, UInt32.reduceToNat, UInt64.reduceToNat, Int.reduceToNat]))
    refine ⟨_, (by simp (disch := (first | assumption | omega | (simp only [lenS, lenT, UInt64.reduceToNat]; try omega))) only [↓Sx.S0, Sx.S1, Tryd.fx, uWZE_1, Nat.reduceAdd, Nat.reducePow, Int.reducePow, Nat.reduceBEq, ↓reduceIte, UInt8.reduceToNat, UInt16.reduceToNat, UInt32.reduceToNat, UInt64.reduceToNat, Int.reduceToNat]; rfl), ?_⟩
    refine ⟨Ext.of_new ⟨hwx, by omega, hN1.mono hB1⟩, ?_⟩
    unfold GoValsS
    rw [hv]
    exact hS1.mono fun q hq => by simp [hq]
end Go.Proofs
end
section
open Go Go.Proofs Go.Sx Go.RefP Go.RooP
namespace Go.Proofs
set_option maxRecDepth 10000
set_option maxHeartbeats 400000
set_option linter.unusedSimpArgs false
/-! ### What a trimming leaves: plain laws -/
theorem mem_setRG {x r : RefL} : ∀ {l : List RefL} {dn : Bool}, r ∈ setRG x l dn → (r = x ∧ dn = false) ∨ r ∈ l
  | [], dn, h => by
    unfold setRG at h
    cases dn
    · simp at h; exact .inl ⟨h, rfl⟩
    · simp at h
  | a :: l, dn, h => by
    unfold setRG at h
    split at h
    · rcases mem_setRG h with h | h
      · exact .inl h
      · exact .inr (List.mem_cons_of_mem _ h)
    · split at h
      · rename_i hc
        have hd : dn = false := by cases dn <;> simp_all
        rcases List.mem_cons.1 h with h | h
        · exact .inl ⟨h, hd⟩
        · rcases List.mem_cons.1 h with h | h
          · exact .inr (by rw [h]; exact List.mem_cons_self)
          · rcases mem_setRG h with h | h
            · cases h.2
            · exact .inr (List.mem_cons_of_mem _ h)
      · rcases List.mem_cons.1 h with h | h
        · exact .inr (by rw [h]; exact List.mem_cons_self)
        · rcases mem_setRG h with h | h
          · exact .inl h
          · exact .inr (List.mem_cons_of_mem _ h)
/-- Is a ref as it may be in a table? -/
def fineR (r : RefL) : Prop := nameV r.name = true ∧ (r.id.l == z32) = false
theorem logR_fine {l t : List RefL} (ht : ∀ r, r ∈ t → fineR r) : ∀ (k : Nat), k ≤ l.length → ∀ ls, logR l t k = some ls → (∀ r, r ∈ ls → fineR r) ∧ ∀ r, r ∈ ls → r ∈ t ∨ r ∈ l
  | 0, _, ls, h => by
    unfold logR at h
    cases h; exact ⟨ht, fun r hr => .inl hr⟩
  | k + 1, hk, ls, h => by
    unfold logR at h
    cases hm : logR l t k with
    | none => rw [hm] at h; cases h
    | some m =>
      rw [hm, Option.bind_some] at h
      obtain ⟨h1, h2⟩ := logR_fine ht k (by omega) m hm
      split at h
      · rename_i hc
        cases h
        simp only [Bool.and_eq_true, decide_eq_true_eq] at hc
        have hin : l.getD k ref0 ∈ l := StP.getD_mem (by omega)
        refine ⟨fun r hr => ?_, fun r hr => ?_⟩
        · rcases mem_setRG hr with ⟨rfl, hz⟩ | hr
          · exact ⟨hc.1, hz⟩
          · exact h1 r hr
        · rcases mem_setRG hr with ⟨rfl, -⟩ | hr
          · exact .inr hin
          · exact h2 r hr
      · cases h
theorem tab_fine {t : List RefL} (h : tabOkR t = true) : ∀ r, r ∈ t → fineR r := by
  intro r hr
  obtain ⟨i, hi, rfl⟩ := StP.mem_getD (z := ref0) hr
  have := (tabOkR_iff t).1 h i hi
  unfold tabOk at this
  rw [prs_getD t i hi] at this
  simp only [Bool.and_eq_true, Bool.not_eq_true'] at this
  exact ⟨this.1.1, this.1.2⟩
theorem tab_of_fine {ls : List RefL} (h1 : ∀ r, r ∈ ls → fineR r) (h2 : Rising (prs ls)) : tabOkR ls = true := by
  rw [tabOkR_iff]
  intro i hi
  have hf := h1 _ (StP.getD_mem (z := ref0) hi)
  unfold tabOk
  rw [prs_getD ls i hi]
  simp only [Bool.and_eq_true, Bool.not_eq_true', Bool.or_eq_true, beq_iff_eq]
  refine ⟨⟨hf.1, hf.2⟩, ?_⟩
  by_cases h0 : i = 0
  · exact .inl h0
  · right
    rw [prs_getD ls (i - 1) (by omega)]
    have := List.pairwise_iff_getElem.1 h2 (i - 1) i (by rw [prs_len]; omega) (by rw [prs_len]; exact hi) (by omega)
    have e : ∀ j (hj : j < ls.length), (prs ls)[j]'(by rw [prs_len]; exact hj) = ((ls.getD j ref0).name, (ls.getD j ref0).id.l) := by
      intro j hj
      rw [← prs_getD ls j hj, List.getD_eq_getElem?_getD, List.getElem?_eq_getElem (by rw [prs_len]; exact hj)]; rfl
    rw [e _ (by omega), e _ hi] at this
    exact this
theorem logR_drop {l t ls : List RefL} {k : Nat} (h : logR l t k = some ls) : ∀ j, logR (l.drop k) ls j = logR l t (k + j)
  | 0 => by rw [Nat.add_zero, h]; rfl
  | j + 1 => by
    rw [← Nat.add_assoc]
    unfold logR
    rw [logR_drop h j, StP.getD_drop]
/-- Behind a trimming all is right, and the values are the old ones. -/
theorem trim_keeps {t l : List RefL} (hr : rightB t l = true) {k : Nat} (hk : k ≤ l.length) {ls : List RefL} (hv : valR t l k = some ls) :
    rightB ls (l.drop k) = true ∧ valR ls (l.drop k) (l.drop k).length = valR t l l.length ∧ ∀ r, r ∈ ls → r ∈ t ∨ r ∈ l := by
  obtain ⟨m, ls', hm, hv', hrel, hls, hl100⟩ := of_trim hr hk
  rw [hv] at hv'
  obtain rfl := Option.some.inj hv'
  obtain ⟨h1, h2, h3, h4⟩ := valR_if hv
  obtain ⟨hf, hmem⟩ := logR_fine (tab_fine h3) k hk ls h4
  have htab := tab_of_fine hf hrel.2
  have hval : valR ls (l.drop k) (l.drop k).length = valR t l l.length := by
    unfold valR
    rw [if_pos ⟨hls, by rw [List.length_drop]; omega, htab⟩, if_pos ⟨h1, h2, h3⟩, logR_drop h4, List.length_drop]
    congr 1; omega
  refine ⟨?_, hval, hmem⟩
  rw [← valR_right, hval, valR_right, hr]
theorem getV_in {k v z : List UInt8} : ∀ {m : Vals}, KeysNd m → (k, v) ∈ m → getV k z m = v
  | [], _, h => by cases h
  | p :: m, hn, h => by
    unfold KeysNd at hn
    rw [List.map_cons, List.nodup_cons] at hn
    unfold getV
    rw [List.find?_cons]
    rcases List.mem_cons.1 h with rfl | h
    · simp
    · have hne : (k == p.1) = false := by
        rw [beq_eq_false_iff_ne]
        intro e
        exact hn.1 (by rw [← e]; exact List.mem_map.2 ⟨_, h, rfl⟩)
      rw [hne]
      exact getV_in (z := z) hn.2 h
theorem getV_out {k z : List UInt8} {m : Vals} (h : k ∉ m.map Prod.fst) : getV k z m = z := by
  unfold getV
  have : m.find? (fun p => k == p.1) = none := by
    rw [List.find?_eq_none]
    intro p hp e
    exact h (by rw [eq_of_beq e]; exact List.mem_map.2 ⟨p, hp, rfl⟩)
  rw [this]
theorem getV_set {r : Pr} {m : Vals} (h : KeysNd m) : getV r.1 z32 (setM z32 r m) = r.2 := by
  have hp := setM_perm (z := z32) (r := r) h
  split at hp
  · rename_i hz
    rw [eq_of_beq hz]
    refine getV_out fun hm => ?_
    exact but_notin r.1 m ((hp.map Prod.fst).mem_iff.1 hm)
  · have hnd : KeysNd (setM z32 r m) := by
      unfold KeysNd
      rw [(hp.map Prod.fst).nodup_iff, List.map_cons, List.nodup_cons]
      exact ⟨but_notin r.1 m, (List.Sublist.map _ List.filter_sublist).nodup h⟩
    exact getV_in hnd (hp.mem_iff.2 List.mem_cons_self)
/-- A name's value behind one more entry is that entry's. -/
theorem value_last {t l : List RefL} {r : RefL} (h : rightB t (l ++ [r]) = true) : valueB t (l ++ [r]) r.name = r.id.l := by
  obtain ⟨m, ls, hm, hv, hrel, hls, hl100⟩ := of_trim h (Nat.le_refl _)
  obtain ⟨m1, ls1, hm1, -, hrel1, -, -⟩ := of_trim h (k := l.length) (by simp)
  unfold valueB
  rw [hm]
  simp only
  rw [if_pos hl100]
  unfold ofM at hm hm1
  cases ht : tabM nameV z32 (prs t) (prs t).length with
  | none => rw [ht] at hm; cases hm
  | some mt =>
    rw [ht, Option.bind_some] at hm hm1
    rw [List.length_append, List.length_cons, List.length_nil, Nat.zero_add, logM_step hm1] at hm
    have e : (prs (l ++ [r])).getD l.length zp = (r.name, r.id.l) := by
      rw [prs_getD _ _ (by simp)]
      have : (l ++ [r]).getD l.length ref0 = r := by simp
      rw [this]
    rw [e] at hm
    split at hm
    · have := Option.some.inj hm
      rw [← this]
      exact getV_set (r := (r.name, r.id.l)) hrel1.nd
    · cases hm
theorem book_more (t l : List RefL) (r : RefL) : bookB t (l ++ [r]) = bookB t l ++ recordV (entryB r) := by
  unfold bookB logB
  simp
theorem mem_uniqI {x : IdL} {l : List IdL} (h : x ∈ uniqI l) : x ∈ l := by
  have h1 : x.l ∈ (uniqI l).map IdL.l := List.mem_map.2 ⟨x, h, rfl⟩
  rw [uniqI_map, mem_uniq] at h1
  obtain ⟨y, hy, e⟩ := List.mem_map.1 h1
  rw [← IdL.ext2 e]; exact hy
theorem uniqI_mem {x : IdL} {l : List IdL} (h : x ∈ l) : x ∈ uniqI l := by
  have h1 : x.l ∈ uniq (l.map IdL.l) := mem_uniq.2 (List.mem_map.2 ⟨x, h, rfl⟩)
  rw [← uniqI_map] at h1
  obtain ⟨y, hy, e⟩ := List.mem_map.1 h1
  rw [← IdL.ext2 e]; exact hy
/-- No root comes. -/
theorem roots_keep {t l ls l2 : List RefL} {k k2 : List IdL} (hls : ∀ r, r ∈ ls → r ∈ t ∨ r ∈ l) (hl2 : ∀ r, r ∈ l2 → r ∈ l) (h : rootsI t l k) (h2 : rootsI ls l2 k2) : ∀ x, x ∈ k2 → x ∈ k := by
  obtain ⟨s, hp, -, rfl⟩ := h
  obtain ⟨s2, hp2, -, rfl⟩ := h2
  intro x hx
  refine uniqI_mem (hp.mem_iff.2 ?_)
  have h1 := hp2.mem_iff.1 (mem_uniqI hx)
  unfold nzI at h1 ⊢
  rw [List.mem_filter] at h1 ⊢
  refine ⟨?_, h1.2⟩
  obtain ⟨r, hr, rfl⟩ := List.mem_map.1 h1.1
  refine List.mem_map.2 ⟨r, ?_, rfl⟩
  rcases List.mem_append.1 hr with hr | hr
  · exact List.mem_append.2 (hls r hr)
  · exact List.mem_append.2 (.inr (hl2 r hr))
end Go.Proofs
end
section
open Go Go.Proofs Go.Sx
namespace Go.Proofs
set_option maxRecDepth 10000
set_option maxHeartbeats 4000000
set_option linter.unusedSimpArgs false
/-! ### Numbers, texts and ids, as the law writes them -/
end Go.Proofs
end
section
open Go Go.Proofs Go.Sx Go.RefP
namespace Go.Proofs
set_option maxRecDepth 10000
set_option maxHeartbeats 4000000
set_option linter.unusedSimpArgs false
set_option linter.defProp false
def uWZ6_1 := And.intro (And.intro (And.intro (And.intro (@rdIn_v8) (@rdIn_v16)) (And.intro (@rdIn_v32) (@rdIn_v64))) (And.intro (And.intro (@rdIn_vi) (@load_ref0)) (And.intro (@load_ref1) (@cells_ref)))) (And.intro (And.intro (And.intro (@eqIdz) (@store_rr)) (And.intro (@load_ref) (@load_bk0))) (And.intro (And.intro (@load_bk1) (@load_bk)) (And.intro (@tup2_0) (And.intro (@tup2_1) (@store_bk0)))))
/-- What the document's Trim hands back. -/
def RefTrimS (v0 : Value) (t l : List RefL) (keep : Int) (v : Value) (D : Heap) : Prop :=
  ∃ vt vl ls, valR t l (trimK l.length keep) = some ls ∧ v = .agg #[vt, vl] ∧ GrI D 42 33 vt ls.length (ls.map refC).flatten ∧ sliceV (.sl (true, 33)) v0 (some (some ((trimK l.length keep : Nat) : Int))) none = some vl
end Go.Proofs
end
section
open Go Go.Proofs Go.Sx Go.RefP
namespace Go.Proofs
set_option maxRecDepth 10000
set_option maxHeartbeats 4000000
set_option linter.unusedSimpArgs false
/-- Is a book more than is looked at? -/
def LongN (l : List RefL) : Prop := ∃ g, g < l.length ∧ 100 < (l.getD g ref0).name.length
def GreatB (t l : List RefL) : Prop := 30 < t.length ∨ 110 < l.length ∨ LongN t ∨ LongN l
open Classical in
/-- The answer. -/
noncomputable def greatV (t l : List RefL) : Bool := decide (GreatB t l)
theorem great_yes {t l : List RefL} (h : GreatB t l) : greatV t l = true := by unfold greatV; simpa using h
theorem great_no {t l : List RefL} (h : ¬ GreatB t l) : greatV t l = false := by unfold greatV; simpa using h
set_option linter.defProp false
def uXD_1 := And.intro (And.intro (And.intro (@rdIn_v8) (@rdIn_v16)) (And.intro (@rdIn_v32) (@rdIn_v64))) (And.intro (And.intro (@rdIn_vi) (@load_bk0)) (And.intro (@load_bk1) (@load_bk)))
theorem Great_spec (vt vl : Value) (t l : List RefL) (w : World) (ht : RefSl w vt t) (hl : RefSl w vl l) :
    Rets Tryd.prog 12 #[.agg #[vt, vl]] w (fun v D => v = .bool (greatV t l) ∧ D = []) := by
  obtain ⟨b1, o1, a1, E1, f1, h1⟩ := ht.row
  obtain ⟨b2, o2, a2, E2, f2, h2⟩ := hl.row
  refine Rets.enterV Tryd.func12 rfl (rs := [.tmp 2]) Tryd.results12 Tryd.ntmps12 ?_
  simp only [List.size_toArray, List.length_cons, List.length_nil, Nat.reduceAdd, Nat.reduceSub, List.replicate_succ, List.replicate_zero, List.cons_append, List.nil_append]
  ((try with_reducible refine Cw.go [] ?_); (try simp (disch := (first | assumption | omega | (simp only [lenS, lenT, UInt64.reduceToNat]; try omega))) only [↓Sx.S0, Sx.S1, Tryd.fx, uXD_1, Nat.reduceAdd, Nat.reducePow, Int.reducePow, Nat.reduceBEq, ↓reduceIte, UInt8.reduceToNat, UInt16.reduceToNat, UInt32.reduceToNat, UInt64.reduceToNat, Int.reduceToNat]))
  refine Ow.box rfl rfl fun bx hbx hwx => ?_
  simp only [ev_tmp, getF_0, getF_s, cells_agg, List.nil_append, List.cons_append]
  refine Ow.go rfl ?_
  simp (disch := (first | assumption | omega | (simp only [lenS, lenT, UInt64.reduceToNat]; try omega))) only [↓Sx.S0, Sx.S1, Tryd.fx, uXD_1, Nat.reduceAdd, Nat.reducePow, Int.reducePow, Nat.reduceBEq, ↓reduceIte, UInt8.reduceToNat, UInt16.reduceToNat, UInt32.reduceToNat, UInt64.reduceToNat, Int.reduceToNat]
  by_cases c1 : 30 < t.length
  · have hd : decide ((30 : Int) < (t.length : Int)) = true := by simp; omega
    ((try with_reducible refine Cw.go [] ?_); (try simp (disch := (first | assumption | omega | (simp only [lenS, lenT, UInt64.reduceToNat]; try omega))) only [↓Sx.S0, Sx.S1, Tryd.fx, uXD_1, Nat.reduceAdd, Nat.reducePow, Int.reducePow, Nat.reduceBEq, ↓reduceIte, UInt8.reduceToNat, UInt16.reduceToNat, UInt32.reduceToNat, UInt64.reduceToNat, Int.reduceToNat, h1.len, h2.len, hd]))
    refine ⟨_, (by simp (disch := (first | assumption | omega | (simp only [lenS, lenT, UInt64.reduceToNat]; try omega))) only [↓Sx.S0, Sx.S1, Tryd.fx, uXD_1, Nat.reduceAdd, Nat.reducePow, Int.reducePow, Nat.reduceBEq, ↓reduceIte, UInt8.reduceToNat, UInt16.reduceToNat, UInt32.reduceToNat, UInt64.reduceToNat, Int.reduceToNat]; rfl), ⟨hwx, trivial⟩, ?_⟩
    rw [great_yes (.inl c1)]; rfl
  by_cases c2 : 110 < l.length
  · have hd : decide ((30 : Int) < (t.length : Int)) = false := by simp; omega
    have hd2 : decide ((110 : Int) < (l.length : Int)) = true := by simp; omega
    ((try with_reducible refine Cw.go [] ?_); (try simp (disch := (first | assumption | omega | (simp only [lenS, lenT, UInt64.reduceToNat]; try omega))) only [↓Sx.S0, Sx.S1, Tryd.fx, uXD_1, Nat.reduceAdd, Nat.reducePow, Int.reducePow, Nat.reduceBEq, ↓reduceIte, UInt8.reduceToNat, UInt16.reduceToNat, UInt32.reduceToNat, UInt64.reduceToNat, Int.reduceToNat, h1.len, h2.len, hd, hd2]))
    refine ⟨_, (by simp (disch := (first | assumption | omega | (simp only [lenS, lenT, UInt64.reduceToNat]; try omega))) only [↓Sx.S0, Sx.S1, Tryd.fx, uXD_1, Nat.reduceAdd, Nat.reducePow, Int.reducePow, Nat.reduceBEq, ↓reduceIte, UInt8.reduceToNat, UInt16.reduceToNat, UInt32.reduceToNat, UInt64.reduceToNat, Int.reduceToNat]; rfl), ⟨hwx, trivial⟩, ?_⟩
    rw [great_yes (.inr (.inl c2))]; rfl
  have hd : decide ((30 : Int) < (t.length : Int)) = false := by simp; omega
  have hd2 : decide ((110 : Int) < (l.length : Int)) = false := by simp; omega
  ((try with_reducible refine Cw.go [] ?_); (try simp (disch := (first | assumption | omega | (simp only [lenS, lenT, UInt64.reduceToNat]; try omega))) only [↓Sx.S0, Sx.S1, Tryd.fx, uXD_1, Nat.reduceAdd, Nat.reducePow, Int.reducePow, Nat.reduceBEq, ↓reduceIte, UInt8.reduceToNat, UInt16.reduceToNat, UInt32.reduceToNat, UInt64.reduceToNat, Int.reduceToNat, h1.len, h2.len, hd, hd2]))
  refine Cw.loopG (G := Nat) [15, 16, 17, 18, 19, 22, 23, 24, 25, 26, 27, 28, 29, 2, 20, 21, 3] (fun g => [(3, vi g)]) (fun g => [(bx, .cells #[vt, vl] 25 (0, 0))]) (fun g => g ≤ t.length ∧ ∀ i, i < g → (t.getD i ref0).name.length ≤ 100) (fun g => t.length - g) 0 rfl rfl ?_ ?_
  · exact ⟨by omega, fun i hi => by omega⟩
  intro g j hg
  simp only [overFrom, pin, setF_0, setF_s, List.contains_cons, List.contains_nil, Nat.reduceBEq, Bool.or_false, Bool.false_or, Bool.or_true, Bool.true_or, Nat.reduceAdd, ↓reduceIte, Bool.false_eq_true]
  obtain ⟨hgL, hgood⟩ := hg
  by_cases hlt : g < t.length
  · have hb1 := h1.has (by omega)
    have hne : b1 ≠ bx := Nat.ne_of_lt (Nat.lt_of_lt_of_le (h1.lt (by omega)) hwx)
    have ld1 : ∀ n, loadV (some (false, n)) (some (.cells a1 E1 f1)) (o1 + g * 33) = some (vs (t.getD g ref0).name) := fun n => (h1.cell (j := 0) (n := n) hlt (by decide)).trans rfl
    by_cases hq : 100 < (t.getD g ref0).name.length
    · ((try with_reducible refine Cw.go [] ?_); (try simp (disch := (first | assumption | omega | (simp only [lenS, lenT, UInt64.reduceToNat]; try omega))) only [↓Sx.S0, Sx.S1, Tryd.fx, uXD_1, Nat.reduceAdd, Nat.reducePow, Int.reducePow, Nat.reduceBEq, ↓reduceIte, UInt8.reduceToNat, UInt16.reduceToNat, UInt32.reduceToNat, UInt64.reduceToNat, Int.reduceToNat, h1.len, h1.idx, hb1, ld1]))
      refine ⟨_, (by simp (disch := (first | assumption | omega | (simp only [lenS, lenT, UInt64.reduceToNat]; try omega))) only [↓Sx.S0, Sx.S1, Tryd.fx, uXD_1, Nat.reduceAdd, Nat.reducePow, Int.reducePow, Nat.reduceBEq, ↓reduceIte, UInt8.reduceToNat, UInt16.reduceToNat, UInt32.reduceToNat, UInt64.reduceToNat, Int.reduceToNat]; rfl), ⟨hwx, trivial⟩, ?_⟩
      rw [great_yes (.inr (.inr (.inl ⟨g, hlt, hq⟩)))]; rfl
    · ((try with_reducible refine Cw.go [] ?_); (try simp (disch := (first | assumption | omega | (simp only [lenS, lenT, UInt64.reduceToNat]; try omega))) only [↓Sx.S0, Sx.S1, Tryd.fx, uXD_1, Nat.reduceAdd, Nat.reducePow, Int.reducePow, Nat.reduceBEq, ↓reduceIte, UInt8.reduceToNat, UInt16.reduceToNat, UInt32.reduceToNat, UInt64.reduceToNat, Int.reduceToNat, h1.len, h1.idx, hb1, ld1]))
      refine Again.mk (g + 1) (by omega) ⟨by omega, fun i hi => ?_⟩ rfl rfl
      by_cases hig : i = g
      · subst hig; omega
      · exact hgood i (by omega)
  · obtain rfl : g = t.length := by omega
    ((try with_reducible refine Cw.go [] ?_); (try simp (disch := (first | assumption | omega | (simp only [lenS, lenT, UInt64.reduceToNat]; try omega))) only [↓Sx.S0, Sx.S1, Tryd.fx, uXD_1, Nat.reduceAdd, Nat.reducePow, Int.reducePow, Nat.reduceBEq, ↓reduceIte, UInt8.reduceToNat, UInt16.reduceToNat, UInt32.reduceToNat, UInt64.reduceToNat, Int.reduceToNat, h1.len]))
    refine Cw.loopG (G := Nat) [30, 31, 32, 33, 34, 37, 38, 39, 40, 41, 42, 43, 44, 2, 35, 36, 4] (fun g => [(4, vi g)]) (fun g => [(bx, .cells #[vt, vl] 25 (0, 0))]) (fun g => g ≤ l.length ∧ ∀ i, i < g → (l.getD i ref0).name.length ≤ 100) (fun g => l.length - g) 0 rfl rfl ?_ ?_
    · exact ⟨by omega, fun i hi => by omega⟩
    intro g j hg
    simp only [overFrom, pin, setF_0, setF_s, List.contains_cons, List.contains_nil, Nat.reduceBEq, Bool.or_false, Bool.false_or, Bool.or_true, Bool.true_or, Nat.reduceAdd, ↓reduceIte, Bool.false_eq_true]
    obtain ⟨hgL2, hgood2⟩ := hg
    by_cases hlt2 : g < l.length
    · have hb2 := h2.has (by omega)
      have hne : b2 ≠ bx := Nat.ne_of_lt (Nat.lt_of_lt_of_le (h2.lt (by omega)) hwx)
      have ld2 : ∀ n, loadV (some (false, n)) (some (.cells a2 E2 f2)) (o2 + g * 33) = some (vs (l.getD g ref0).name) := fun n => (h2.cell (j := 0) (n := n) hlt2 (by decide)).trans rfl
      by_cases hq : 100 < (l.getD g ref0).name.length
      · ((try with_reducible refine Cw.go [] ?_); (try simp (disch := (first | assumption | omega | (simp only [lenS, lenT, UInt64.reduceToNat]; try omega))) only [↓Sx.S0, Sx.S1, Tryd.fx, uXD_1, Nat.reduceAdd, Nat.reducePow, Int.reducePow, Nat.reduceBEq, ↓reduceIte, UInt8.reduceToNat, UInt16.reduceToNat, UInt32.reduceToNat, UInt64.reduceToNat, Int.reduceToNat, h2.len, h2.idx, hb2, ld2]))
        refine ⟨_, (by simp (disch := (first | assumption | omega | (simp only [lenS, lenT, UInt64.reduceToNat]; try omega))) only [↓Sx.S0, Sx.S1, Tryd.fx, uXD_1, Nat.reduceAdd, Nat.reducePow, Int.reducePow, Nat.reduceBEq, ↓reduceIte, UInt8.reduceToNat, UInt16.reduceToNat, UInt32.reduceToNat, UInt64.reduceToNat, Int.reduceToNat]; rfl), ⟨hwx, trivial⟩, ?_⟩
        rw [great_yes (.inr (.inr (.inr ⟨g, hlt2, hq⟩)))]; rfl
      · ((try with_reducible refine Cw.go [] ?_); (try simp (disch := (first | assumption | omega | (simp only [lenS, lenT, UInt64.reduceToNat]; try omega))) only [↓Sx.S0, Sx.S1, Tryd.fx, uXD_1, Nat.reduceAdd, Nat.reducePow, Int.reducePow, Nat.reduceBEq, ↓reduceIte, UInt8.reduceToNat, UInt16.reduceToNat, UInt32.reduceToNat, UInt64.reduceToNat, Int.reduceToNat, h2.len, h2.idx, hb2, ld2]))
        refine Again.mk (g + 1) (by omega) ⟨by omega, fun i hi => ?_⟩ rfl rfl
        by_cases hig : i = g
        · subst hig; omega
        · exact hgood2 i (by omega)
    · obtain rfl : g = l.length := by omega
      ((try with_reducible refine Cw.go [] ?_); (try simp (disch := (first | assumption | omega | (simp only [lenS, lenT, UInt64.reduceToNat]; try omega))) only [↓Sx.S0, Sx.S1, Tryd.fx, uXD_1, Nat.reduceAdd, Nat.reducePow, Int.reducePow, Nat.reduceBEq, ↓reduceIte, UInt8.reduceToNat, UInt16.reduceToNat, UInt32.reduceToNat, UInt64.reduceToNat, Int.reduceToNat, h2.len]))
      have hno : ¬ GreatB t l := by
        rintro (h | h | ⟨i, hi, h⟩ | ⟨i, hi, h⟩)
        · omega
        · omega
        · have := hgood i hi; omega
        · have := hgood2 i hi; omega
      refine ⟨_, (by simp (disch := (first | assumption | omega | (simp only [lenS, lenT, UInt64.reduceToNat]; try omega))) only [↓Sx.S0, Sx.S1, Tryd.fx, uXD_1, Nat.reduceAdd, Nat.reducePow, Int.reducePow, Nat.reduceBEq, ↓reduceIte, UInt8.reduceToNat, UInt16.reduceToNat, UInt32.reduceToNat, UInt64.reduceToNat, Int.reduceToNat]; rfl), ⟨hwx, trivial⟩, ?_⟩
      rw [great_no hno]; rfl
end Go.Proofs
end
section
open Go Go.Proofs Go.Sx Go.RefP
namespace Go.Sx
end Go.Sx
namespace Go.Proofs
set_option maxRecDepth 10000
set_option maxHeartbeats 4000000
set_option linter.unusedSimpArgs false
theorem great_parts {t l : List RefL} (h : greatV t l = false) : t.length ≤ 30 ∧ l.length ≤ 110 ∧ SmallN t ∧ SmallN l := by
  have hn : ¬ GreatB t l := fun hg => by rw [great_yes hg] at h; cases h
  refine ⟨?_, ?_, fun g hg => ?_, fun g hg => ?_⟩
  · exact Nat.le_of_not_lt fun h => hn (.inl h)
  · exact Nat.le_of_not_lt fun h => hn (.inr (.inl h))
  · have : ¬ 100 < (t.getD g ref0).name.length := fun h => hn (.inr (.inr (.inl ⟨g, hg, h⟩)))
    omega
  · have : ¬ 100 < (l.getD g ref0).name.length := fun h => hn (.inr (.inr (.inr ⟨g, hg, h⟩)))
    omega
/-- What Add tells. -/
def addR (t l : List RefL) (r : RefL) : (List RefL × List RefL) × List UInt8 × Int :=
  if rightB t l = true ∧ nameV r.name = true then (if rightB t (l ++ [r]) = true then ((t, l ++ [r]), recordV (entryB r), 0) else (([], []), [], 18)) else (([], []), [], 1)
/-- What Trim tells. -/
def trimR (t l : List RefL) (keep : Int) : (List RefL × List RefL) × Int :=
  if rightB t l = true then (((valR t l (trimK l.length keep)).getD [], l.drop (trimK l.length keep)), 0) else (([], []), 1)
theorem gri_nl {D : Heap} : GrI D 42 33 (.slice none 0 0) ([] : List RefL).length (([] : List RefL).map refC).flatten := (Gr.nl (L := [])).i fun q hq => by cases hq
theorem AddS.tells {n : Nat} {t l : List RefL} {r : RefL} {v : Value} {D : Heap} (h : AddS n t l r.name r.id v D) : ∃ x1 x2, v = .tuple #[.agg #[x1, x2], vs (addR t l r).2.1, vi (addR t l r).2.2] ∧ GrI D 42 33 x1 (addR t l r).1.1.length ((addR t l r).1.1.map refC).flatten ∧ GrI D 42 33 x2 (addR t l r).1.2.length ((addR t l r).1.2.map refC).flatten := by
  unfold AddS at h
  unfold addR
  by_cases h1 : rightB t l = true ∧ nameV r.name = true
  · rw [if_pos h1] at h ⊢
    by_cases h2 : rightB t (l ++ [r]) = true
    · rw [if_pos h2] at h ⊢
      obtain ⟨a, b, rfl, h3, h4⟩ := h
      exact ⟨a, b, rfl, h3, by simpa using h4⟩
    · rw [if_neg h2] at h ⊢
      exact ⟨_, _, h, gri_nl, gri_nl⟩
  · rw [if_neg h1] at h ⊢
    exact ⟨_, _, h, gri_nl, gri_nl⟩
theorem TrimS.tells {t l : List RefL} {keep : Int} {v : Value} {D : Heap} (h : TrimS t l keep v D) : ∃ x1 x2, v = .tuple #[.agg #[x1, x2], vi (trimR t l keep).2] ∧ GrI D 42 33 x1 (trimR t l keep).1.1.length ((trimR t l keep).1.1.map refC).flatten ∧ GrI D 42 33 x2 (trimR t l keep).1.2.length ((trimR t l keep).1.2.map refC).flatten := by
  unfold TrimS at h
  unfold trimR
  by_cases h1 : rightB t l = true
  · rw [if_pos h1] at h ⊢
    obtain ⟨a, b, ls, h2, rfl, h3, h4⟩ := h
    rw [h2]
    exact ⟨a, b, rfl, h3, h4⟩
  · rw [if_neg h1] at h ⊢
    exact ⟨_, _, h, gri_nl, gri_nl⟩
theorem addR_len {t l : List RefL} {r : RefL} (ht : t.length ≤ 30) (hl : l.length ≤ 110) : (addR t l r).1.1.length < 1000 ∧ (addR t l r).1.2.length < 1000 := by
  unfold addR
  split
  · split
    · exact ⟨by show t.length < 1000; omega, by show (l ++ [r]).length < 1000; simp; omega⟩
    · exact ⟨by simp, by simp⟩
  · exact ⟨by simp, by simp⟩
theorem Add0_spec (vt vl : Value) (t l : List RefL) (nm : List UInt8) (id : IdL) (w : World) (hG : GlobC w) (ht : RefSl w vt t) (hl : RefSl w vl l) (htl : t.length < 1000) (hll : l.length < 1000) (hnt : ShortN t) (hnl : ShortN l) (hnm : nm.length < 1000000) :
    Rets Tryd.prog 14 #[.agg #[vt, vl], vs nm, .agg (a8 id.l)] w (XS w [] (AddS 0 t l nm id)) := Add_spec vt vl t l nm id w hG ht hl htl hll hnt hnl hnm
set_option linter.defProp false
def uWZ7_1 := And.intro (And.intro (And.intro (And.intro (@rdIn_v8) (@rdIn_v16)) (And.intro (@rdIn_v32) (@rdIn_v64))) (And.intro (And.intro (@rdIn_vi) (@load_bk0)) (And.intro (@load_bk1) (@load_bk)))) (And.intro (And.intro (And.intro (@tup2_0) (@tup2_1)) (And.intro (@tup3_0) (@tup3_1))) (And.intro (And.intro (@tup3_2) (@store_bk0)) (And.intro (@eqb) (And.intro (@eqIdz) (@load_ref)))))
end Go.Proofs
end
section
open Go Go.Proofs Go.Sx Go.RefP Go.RooP
namespace Go.Proofs
set_option maxRecDepth 10000
set_option maxHeartbeats 400000
set_option linter.unusedSimpArgs false
theorem recH_len {t : List RefL} (h : SmallN t) (ht : t.length ≤ 30) : (recordV (headB t)).length < 40000 := by
  have h1 := numL_clamp_len (t.length : Int)
  have h2 := tabB_len h t.length (Nat.le_refl _)
  rw [List.take_length] at h2
  have h3 := numL_clamp_len ((sealV (headB t)).length : Int)
  have h4 := sealV_len (headB t)
  simp only [recordV, textL, List.length_append] at h3 ⊢
  rw [h4] at h3 ⊢
  simp only [headB, List.length_append, List.length_cons, List.length_nil] at h3 ⊢
  have hc : clampN (t.length : Int) = clampN (t.length : Int) := rfl
  omega
theorem bookB_len {t l : List RefL} (ht : SmallN t) (hl : SmallN l) (h1 : t.length ≤ 30) (h2 : l.length ≤ 110) : (bookB t l).length < 1000000 := by
  have h3 := recH_len ht h1
  have h4 := logB_len hl l.length (Nat.le_refl _)
  rw [List.take_length] at h4
  unfold bookB
  rw [List.length_append]
  omega
theorem gri_read {w0 w : World} {L D : Heap} {E : TypeId} {v : Value} {l : List IdL} (h : GrI D E 32 v l.length (l.map idLC).flatten) (hD : ∀ p, p ∈ D → p ∈ L) (hw : Hp w0 L w) : l.length = 0 ∨ ∃ b c rest, v = vsl b 0 l.length c ∧ readB w0 L b = some (rowO idLC E rest l) := by
  obtain ⟨X, hX, h | ⟨h0, -⟩⟩ := h
  · rcases h.inv with ⟨-, h0, -⟩ | ⟨b, c, rest, rfl, hl, h1, h2, h3, h4⟩
    · exact .inl h0
    · exact .inr ⟨b, c, rest, rfl, read_look (look_of_mem hw.nodup (hD _ (hX _ (look_mem hl))))⟩
  · exact .inl h0
theorem small_mem {t l ls : List RefL} (h : ∀ r, r ∈ ls → r ∈ t ∨ r ∈ l) (ht : SmallN t) (hl : SmallN l) : SmallN ls := by
  intro g hg
  rcases h _ (StP.getD_mem (z := ref0) hg) with h | h
  · obtain ⟨i, hi, e⟩ := StP.mem_getD (z := ref0) h
    rw [← e]; exact ht i hi
  · obtain ⟨i, hi, e⟩ := StP.mem_getD (z := ref0) h
    rw [← e]; exact hl i hi
set_option linter.defProp false
def uWZG_1 := And.intro (And.intro (And.intro (And.intro (@rdIn_v8) (@rdIn_v16)) (And.intro (@rdIn_v32) (@rdIn_v64))) (And.intro (And.intro (@rdIn_vi) (@load_bk0)) (And.intro (@load_bk1) (@load_bk)))) (And.intro (And.intro (And.intro (@tup2_0) (@tup2_1)) (And.intro (@tup3_0) (@tup3_1))) (And.intro (And.intro (@tup3_2) (@store_bk0)) (And.intro (@eqIdB) (@neIdB))))
theorem RefsTrims_spec (vt vl : Value) (t l : List RefL) (nm : List UInt8) (id : IdL) (keep : Int) (w : World) (hG : GlobC w) (ht : RefSl w vt t) (hl : RefSl w vl l) :
    Rets Tryd.prog 7 #[.agg #[vt, vl], vs nm, .agg (a8 id.l), vi keep] w (fun v D => v = .bool true ∧ D = []) := by
  have hglt : (3 : Nat) < w.heap.size := by obtain ⟨e, f, h⟩ := hG; exact (Array.getElem?_eq_some_iff.1 h).1
  have hil := id.h
  have hli := load_idb id.l 40 hil
  refine Rets.enterV Tryd.func7 rfl (rs := [.tmp 8]) Tryd.results7 Tryd.ntmps7 ?_
  simp only [List.size_toArray, List.length_cons, List.length_nil, Nat.reduceAdd, Nat.reduceSub, List.replicate_succ, List.replicate_zero, List.cons_append, List.nil_append]
  ((try with_reducible refine Cw.go [1000007] ?_); (try simp (disch := (first | assumption | omega | (simp only [lenS, lenT, UInt64.reduceToNat]; try omega))) only [↓Sx.S0, Sx.S1, Tryd.fx, uWZG_1, Nat.reduceAdd, Nat.reducePow, Int.reducePow, Nat.reduceBEq, ↓reduceIte, UInt8.reduceToNat, UInt16.reduceToNat, UInt32.reduceToNat, UInt64.reduceToNat, Int.reduceToNat]))
  refine Ow.box rfl rfl fun bx hbx hwx => ?_
  simp only [ev_tmp, getF_0, getF_s, cells_agg, List.nil_append, List.cons_append]
  refine Ow.go rfl ?_
  simp (disch := (first | assumption | omega | (simp only [lenS, lenT, UInt64.reduceToNat]; try omega))) only [↓Sx.S0, Sx.S1, Tryd.fx, uWZG_1, Nat.reduceAdd, Nat.reducePow, Int.reducePow, Nat.reduceBEq, ↓reduceIte, UInt8.reduceToNat, UInt16.reduceToNat, UInt32.reduceToNat, UInt64.reduceToNat, Int.reduceToNat]
  refine Ow.box rfl rfl fun bi hbi hwi => ?_
  simp only [ev_tmp, getF_0, getF_s, cells_agg, List.nil_append, List.cons_append]
  refine Ow.go rfl ?_
  simp (disch := (first | assumption | omega | (simp only [lenS, lenT, UInt64.reduceToNat]; try omega))) only [↓Sx.S0, Sx.S1, Tryd.fx, uWZG_1, Nat.reduceAdd, Nat.reducePow, Int.reducePow, Nat.reduceBEq, ↓reduceIte, UInt8.reduceToNat, UInt16.reduceToNat, UInt32.reduceToNat, UInt64.reduceToNat, Int.reduceToNat]
  obtain ⟨hxi, -⟩ := hbi
  ((try with_reducible refine Cw.go [] ?_); (try simp (disch := (first | assumption | omega | (simp only [lenS, lenT, UInt64.reduceToNat]; try omega))) only [↓Sx.S0, Sx.S1, Tryd.fx, uWZG_1, Nat.reduceAdd, Nat.reducePow, Int.reducePow, Nat.reduceBEq, ↓reduceIte, UInt8.reduceToNat, UInt16.reduceToNat, UInt32.reduceToNat, UInt64.reduceToNat, Int.reduceToNat]))
  have hNb : New w.heap.size [(bx, Obj.cells #[vt, vl] 25 (0, 0)), (bi, Obj.cells (a8 id.l) 40 (0, 0))] := ⟨hwx, hwi, trivial⟩
  refine Ow.callFV rfl Tryd.call8 (fun w' hw' => alive16_spec w' (GlobC.of hG hw' (hNb.not hglt))) ?_
  refine Ow.go rfl ?_
  simp (disch := (first | assumption | omega | (simp only [lenS, lenT, UInt64.reduceToNat]; try omega))) only [↓Sx.S0, Sx.S1, Tryd.fx, uWZG_1, Nat.reduceAdd, Nat.reducePow, Int.reducePow, Nat.reduceBEq, ↓reduceIte, UInt8.reduceToNat, UInt16.reduceToNat, UInt32.reduceToNat, UInt64.reduceToNat, Int.reduceToNat]
  ((try with_reducible refine Cw.go [] ?_); (try simp (disch := (first | assumption | omega | (simp only [lenS, lenT, UInt64.reduceToNat]; try omega))) only [↓Sx.S0, Sx.S1, Tryd.fx, uWZG_1, Nat.reduceAdd, Nat.reducePow, Int.reducePow, Nat.reduceBEq, ↓reduceIte, UInt8.reduceToNat, UInt16.reduceToNat, UInt32.reduceToNat, UInt64.reduceToNat, Int.reduceToNat, load_bk]))
  refine Ow.callFV rfl Tryd.call12 (fun w' hw' => Great_spec vt vl t l w' (ht.oldN hw' hNb) (hl.oldN hw' hNb)) ?_
  cases hgr : greatV t l
  case true =>
    refine Ow.go rfl ?_
    simp (disch := (first | assumption | omega | (simp only [lenS, lenT, UInt64.reduceToNat]; try omega))) only [↓Sx.S0, Sx.S1, Tryd.fx, uWZG_1, Nat.reduceAdd, Nat.reducePow, Int.reducePow, Nat.reduceBEq, ↓reduceIte, UInt8.reduceToNat, UInt16.reduceToNat, UInt32.reduceToNat, UInt64.reduceToNat, Int.reduceToNat]
    ((try with_reducible refine Cw.go [] ?_); (try simp (disch := (first | assumption | omega | (simp only [lenS, lenT, UInt64.reduceToNat]; try omega))) only [↓Sx.S0, Sx.S1, Tryd.fx, uWZG_1, Nat.reduceAdd, Nat.reducePow, Int.reducePow, Nat.reduceBEq, ↓reduceIte, UInt8.reduceToNat, UInt16.reduceToNat, UInt32.reduceToNat, UInt64.reduceToNat, Int.reduceToNat]))
    refine Ow.callFV rfl Tryd.call8 (fun w' hw' => alive16_spec w' (GlobC.of hG hw' (hNb.not hglt))) ?_
    refine Ow.go rfl ?_
    simp (disch := (first | assumption | omega | (simp only [lenS, lenT, UInt64.reduceToNat]; try omega))) only [↓Sx.S0, Sx.S1, Tryd.fx, uWZG_1, Nat.reduceAdd, Nat.reducePow, Int.reducePow, Nat.reduceBEq, ↓reduceIte, UInt8.reduceToNat, UInt16.reduceToNat, UInt32.reduceToNat, UInt64.reduceToNat, Int.reduceToNat]
    ((try with_reducible refine Cw.go [] ?_); (try simp (disch := (first | assumption | omega | (simp only [lenS, lenT, UInt64.reduceToNat]; try omega))) only [↓Sx.S0, Sx.S1, Tryd.fx, uWZG_1, Nat.reduceAdd, Nat.reducePow, Int.reducePow, Nat.reduceBEq, ↓reduceIte, UInt8.reduceToNat, UInt16.reduceToNat, UInt32.reduceToNat, UInt64.reduceToNat, Int.reduceToNat]))
    refine ⟨_, (by simp (disch := (first | assumption | omega | (simp only [lenS, lenT, UInt64.reduceToNat]; try omega))) only [↓Sx.S0, Sx.S1, Tryd.fx, uWZG_1, Nat.reduceAdd, Nat.reducePow, Int.reducePow, Nat.reduceBEq, ↓reduceIte, UInt8.reduceToNat, UInt16.reduceToNat, UInt32.reduceToNat, UInt64.reduceToNat, Int.reduceToNat]; rfl), hNb, ?_⟩
    rfl
  obtain ⟨htl, hll, hnt, hnl⟩ := great_parts hgr
  by_cases hn : 100 < nm.length
  · have d1 : decide ((100 : Int) < (nm.length : Int)) = true := decide_eq_true (by omega)
    refine Ow.go rfl ?_
    simp (disch := (first | assumption | omega | (simp only [lenS, lenT, UInt64.reduceToNat]; try omega))) only [↓Sx.S0, Sx.S1, Tryd.fx, uWZG_1, Nat.reduceAdd, Nat.reducePow, Int.reducePow, Nat.reduceBEq, ↓reduceIte, UInt8.reduceToNat, UInt16.reduceToNat, UInt32.reduceToNat, UInt64.reduceToNat, Int.reduceToNat, d1]
    ((try with_reducible refine Cw.go [] ?_); (try simp (disch := (first | assumption | omega | (simp only [lenS, lenT, UInt64.reduceToNat]; try omega))) only [↓Sx.S0, Sx.S1, Tryd.fx, uWZG_1, Nat.reduceAdd, Nat.reducePow, Int.reducePow, Nat.reduceBEq, ↓reduceIte, UInt8.reduceToNat, UInt16.reduceToNat, UInt32.reduceToNat, UInt64.reduceToNat, Int.reduceToNat, d1]))
    refine Ow.callFV rfl Tryd.call8 (fun w' hw' => alive16_spec w' (GlobC.of hG hw' (hNb.not hglt))) ?_
    refine Ow.go rfl ?_
    simp (disch := (first | assumption | omega | (simp only [lenS, lenT, UInt64.reduceToNat]; try omega))) only [↓Sx.S0, Sx.S1, Tryd.fx, uWZG_1, Nat.reduceAdd, Nat.reducePow, Int.reducePow, Nat.reduceBEq, ↓reduceIte, UInt8.reduceToNat, UInt16.reduceToNat, UInt32.reduceToNat, UInt64.reduceToNat, Int.reduceToNat]
    ((try with_reducible refine Cw.go [] ?_); (try simp (disch := (first | assumption | omega | (simp only [lenS, lenT, UInt64.reduceToNat]; try omega))) only [↓Sx.S0, Sx.S1, Tryd.fx, uWZG_1, Nat.reduceAdd, Nat.reducePow, Int.reducePow, Nat.reduceBEq, ↓reduceIte, UInt8.reduceToNat, UInt16.reduceToNat, UInt32.reduceToNat, UInt64.reduceToNat, Int.reduceToNat]))
    refine ⟨_, (by simp (disch := (first | assumption | omega | (simp only [lenS, lenT, UInt64.reduceToNat]; try omega))) only [↓Sx.S0, Sx.S1, Tryd.fx, uWZG_1, Nat.reduceAdd, Nat.reducePow, Int.reducePow, Nat.reduceBEq, ↓reduceIte, UInt8.reduceToNat, UInt16.reduceToNat, UInt32.reduceToNat, UInt64.reduceToNat, Int.reduceToNat]; rfl), hNb, ?_⟩
    rfl
  have d1 : decide ((100 : Int) < (nm.length : Int)) = false := by simp; omega
  refine Ow.go rfl ?_
  simp (disch := (first | assumption | omega | (simp only [lenS, lenT, UInt64.reduceToNat]; try omega))) only [↓Sx.S0, Sx.S1, Tryd.fx, uWZG_1, Nat.reduceAdd, Nat.reducePow, Int.reducePow, Nat.reduceBEq, ↓reduceIte, UInt8.reduceToNat, UInt16.reduceToNat, UInt32.reduceToNat, UInt64.reduceToNat, Int.reduceToNat, d1, load_bk]
  refine Ow.callFV rfl Tryd.call36 (fun w' hw' => Right_spec vt vl t l w' (ht.oldN hw' hNb) (hl.oldN hw' hNb) (by omega) (by omega) hnt.short hnl.short) ?_
  cases hr : rightB t l
  case false =>
    refine Ow.go rfl ?_
    simp (disch := (first | assumption | omega | (simp only [lenS, lenT, UInt64.reduceToNat]; try omega))) only [↓Sx.S0, Sx.S1, Tryd.fx, uWZG_1, Nat.reduceAdd, Nat.reducePow, Int.reducePow, Nat.reduceBEq, ↓reduceIte, UInt8.reduceToNat, UInt16.reduceToNat, UInt32.reduceToNat, UInt64.reduceToNat, Int.reduceToNat]
    ((try with_reducible refine Cw.go [] ?_); (try simp (disch := (first | assumption | omega | (simp only [lenS, lenT, UInt64.reduceToNat]; try omega))) only [↓Sx.S0, Sx.S1, Tryd.fx, uWZG_1, Nat.reduceAdd, Nat.reducePow, Int.reducePow, Nat.reduceBEq, ↓reduceIte, UInt8.reduceToNat, UInt16.reduceToNat, UInt32.reduceToNat, UInt64.reduceToNat, Int.reduceToNat]))
    refine Ow.callFV rfl Tryd.call8 (fun w' hw' => alive16_spec w' (GlobC.of hG hw' (hNb.not hglt))) ?_
    refine Ow.go rfl ?_
    simp (disch := (first | assumption | omega | (simp only [lenS, lenT, UInt64.reduceToNat]; try omega))) only [↓Sx.S0, Sx.S1, Tryd.fx, uWZG_1, Nat.reduceAdd, Nat.reducePow, Int.reducePow, Nat.reduceBEq, ↓reduceIte, UInt8.reduceToNat, UInt16.reduceToNat, UInt32.reduceToNat, UInt64.reduceToNat, Int.reduceToNat]
    ((try with_reducible refine Cw.go [] ?_); (try simp (disch := (first | assumption | omega | (simp only [lenS, lenT, UInt64.reduceToNat]; try omega))) only [↓Sx.S0, Sx.S1, Tryd.fx, uWZG_1, Nat.reduceAdd, Nat.reducePow, Int.reducePow, Nat.reduceBEq, ↓reduceIte, UInt8.reduceToNat, UInt16.reduceToNat, UInt32.reduceToNat, UInt64.reduceToNat, Int.reduceToNat]))
    refine ⟨_, (by simp (disch := (first | assumption | omega | (simp only [lenS, lenT, UInt64.reduceToNat]; try omega))) only [↓Sx.S0, Sx.S1, Tryd.fx, uWZG_1, Nat.reduceAdd, Nat.reducePow, Int.reducePow, Nat.reduceBEq, ↓reduceIte, UInt8.reduceToNat, UInt16.reduceToNat, UInt32.reduceToNat, UInt64.reduceToNat, Int.reduceToNat]; rfl), hNb, ?_⟩
    rfl
  refine Ow.go rfl ?_
  simp (disch := (first | assumption | omega | (simp only [lenS, lenT, UInt64.reduceToNat]; try omega))) only [↓Sx.S0, Sx.S1, Tryd.fx, uWZG_1, Nat.reduceAdd, Nat.reducePow, Int.reducePow, Nat.reduceBEq, ↓reduceIte, UInt8.reduceToNat, UInt16.reduceToNat, UInt32.reduceToNat, UInt64.reduceToNat, Int.reduceToNat]
  ((try with_reducible refine Cw.go [] ?_); (try simp (disch := (first | assumption | omega | (simp only [lenS, lenT, UInt64.reduceToNat]; try omega))) only [↓Sx.S0, Sx.S1, Tryd.fx, uWZG_1, Nat.reduceAdd, Nat.reducePow, Int.reducePow, Nat.reduceBEq, ↓reduceIte, UInt8.reduceToNat, UInt16.reduceToNat, UInt32.reduceToNat, UInt64.reduceToNat, Int.reduceToNat, load_bk]))
  refine Ow.callFV rfl Tryd.call13 (fun w' hw' => Bytes_spec vt vl t l w' (GlobC.of hG hw' (hNb.not hglt)) (ht.oldN hw' hNb) (hl.oldN hw' hNb) (by omega) (by omega) hnt hnl) ?_
  rw [if_pos hr]
  refine Ow.go rfl ?_
  simp (disch := (first | assumption | omega | (simp only [lenS, lenT, UInt64.reduceToNat]; try omega))) only [↓Sx.S0, Sx.S1, Tryd.fx, uWZG_1, Nat.reduceAdd, Nat.reducePow, Int.reducePow, Nat.reduceBEq, ↓reduceIte, UInt8.reduceToNat, UInt16.reduceToNat, UInt32.reduceToNat, UInt64.reduceToNat, Int.reduceToNat]
  ((try with_reducible refine Cw.go [] ?_); (try simp (disch := (first | assumption | omega | (simp only [lenS, lenT, UInt64.reduceToNat]; try omega))) only [↓Sx.S0, Sx.S1, Tryd.fx, uWZG_1, Nat.reduceAdd, Nat.reducePow, Int.reducePow, Nat.reduceBEq, ↓reduceIte, UInt8.reduceToNat, UInt16.reduceToNat, UInt32.reduceToNat, UInt64.reduceToNat, Int.reduceToNat, load_bk, hli]))
  refine Ow.callC rfl rfl Tryd.call14 (fun w' hw' => Add0_spec vt vl t l nm id w' (GlobC.of hG hw' (hNb.not hglt)) (ht.oldN hw' hNb) (hl.oldN hw' hNb) (by omega) (by omega) hnt.short hnl.short (by omega)) (fun B1 v1 D1 hA1 hB1 hN1 hS1 => ?_)
  have hN1' := hN1.mono hB1
  obtain ⟨x1, x2, rfl, hg1, hg2⟩ := AddS.tells (r := ⟨nm, id⟩) hS1
  have hrn : (⟨nm, id⟩ : RefL).name = nm := rfl
  have hri : (⟨nm, id⟩ : RefL).id = id := rfl
  generalize hR : (⟨nm, id⟩ : RefL) = r at *
  obtain ⟨hla1, hla2⟩ := addR_len (r := r) htl hll
  generalize hAA : addR t l r = AA at *
  obtain ⟨⟨a1, a2⟩, sa, ae⟩ := AA
  simp only at hg1 hg2 hla1 hla2
  have hst1 := store_bk (.slice none 0 0) (.slice none 0 0) x1 x2 25 (gri_cell hg1).1 (gri_cell hg2).1
  refine Ow.go rfl ?_
  simp (disch := (first | assumption | omega | (simp only [lenS, lenT, UInt64.reduceToNat]; try omega))) only [↓Sx.S0, Sx.S1, Tryd.fx, uWZG_1, Nat.reduceAdd, Nat.reducePow, Int.reducePow, Nat.reduceBEq, ↓reduceIte, UInt8.reduceToNat, UInt16.reduceToNat, UInt32.reduceToNat, UInt64.reduceToNat, Int.reduceToNat]
  refine Ow.alloc rfl rfl zrBk fun b9 hb9 hw9 => ?_
  simp only [cells_agg, List.nil_append, List.cons_append]
  have hx9 : bx < b9 := above_to hb9 (by simp [keys])
  have hi9 : bi < b9 := above_to hb9 (by simp [keys])
  refine Ow.permL (M := (bx, .cells #[vt, vl] 25 (0, 0)) :: (bi, .cells (a8 id.l) 40 (0, 0)) :: (b9, .cells #[.slice none 0 0, .slice none 0 0] 25 (0, 0)) :: D1) (by classical exact List.perm_iff_count.2 fun a => by simp only [List.count_append, List.count_cons, List.count_nil] <;> omega) ?_
  refine Ow.go rfl ?_
  simp (disch := (first | assumption | omega | (simp only [lenS, lenT, UInt64.reduceToNat]; try omega))) only [↓Sx.S0, Sx.S1, Tryd.fx, uWZG_1, Nat.reduceAdd, Nat.reducePow, Int.reducePow, Nat.reduceBEq, ↓reduceIte, UInt8.reduceToNat, UInt16.reduceToNat, UInt32.reduceToNat, UInt64.reduceToNat, Int.reduceToNat, hst1]
  have hNc : New w.heap.size ((bx, Obj.cells #[vt, vl] 25 (0, 0)) :: (bi, Obj.cells (a8 id.l) 40 (0, 0)) :: (b9, Obj.cells #[x1, x2] 25 (0, 0)) :: D1) := ⟨hwx, hwi, hw9, hN1'⟩
  refine Cw.cut (G := Unit) 126 (fun g => [(1, vs nm), (3, vi keep), (4, vp bx 0), (6, vp bi 0), (8, .bool false)]) (fun g => (bx, Obj.cells #[vt, vl] 25 (0, 0)) :: (bi, Obj.cells (a8 id.l) 40 (0, 0)) :: (b9, Obj.cells #[x1, x2] 25 (0, 0)) :: D1) (fun g => True) ?_ ?_
  · have hok : (a1 = t ∧ a2 = l ++ [r] ∧ sa = recordV (entryB r) ∧ ae = 0 ∧ rightB t (l ++ [r]) = true) ∨ (ae == 0) = false := by
      unfold addR at hAA
      split at hAA
      · split at hAA
        · rename_i h2
          simp only [Prod.mk.injEq] at hAA
          obtain ⟨⟨rfl, rfl⟩, rfl, rfl⟩ := hAA; exact .inl ⟨rfl, rfl, rfl, rfl, h2⟩
        · simp only [Prod.mk.injEq] at hAA
          obtain ⟨⟨rfl, rfl⟩, rfl, rfl⟩ := hAA; exact .inr rfl
      · simp only [Prod.mk.injEq] at hAA
        obtain ⟨⟨rfl, rfl⟩, rfl, rfl⟩ := hAA; exact .inr rfl
    rcases hok with ⟨rfl, rfl, rfl, rfl, hr2⟩ | e
    · have e : ((0 : Int) == 0) = true := rfl
      have hnl2 : SmallN (l ++ [r]) := by
        intro g hg
        rw [List.length_append, List.length_cons, List.length_nil] at hg
        by_cases hgl : g < l.length
        · rw [StP.getD_app_l hgl]; exact hnl g hgl
        · rw [StP.getD_app_r (by omega), show g - l.length = 0 by omega]
          show r.name.length < 1000
          rw [hrn]; omega
      ((try with_reducible refine Cw.go [] ?_); (try simp (disch := (first | assumption | omega | (simp only [lenS, lenT, UInt64.reduceToNat]; try omega))) only [↓Sx.S0, Sx.S1, Tryd.fx, uWZG_1, Nat.reduceAdd, Nat.reducePow, Int.reducePow, Nat.reduceBEq, ↓reduceIte, UInt8.reduceToNat, UInt16.reduceToNat, UInt32.reduceToNat, UInt64.reduceToNat, Int.reduceToNat, e, load_bk]))
      have hdl : ∀ w', Hp w ((bx, Obj.cells #[vt, vl] 25 (0, 0)) :: (bi, Obj.cells (a8 id.l) 40 (0, 0)) :: (b9, Obj.cells #[x1, x2] 25 (0, 0)) :: D1) w' → RefSl w' x1 a1 ∧ RefSl w' x2 (l ++ [r]) := fun w' hw' =>
        ⟨GrI.slV (hg1.mono (fun p hp => by simp [hp])) hw' rfl rfl refC_len, GrI.slV (hg2.mono (fun p hp => by simp [hp])) hw' rfl rfl refC_len⟩
      refine Ow.callFV rfl Tryd.call13 (fun w' hw' => Bytes_spec x1 x2 a1 (l ++ [r]) w' (GlobC.of hG hw' (hNc.not hglt)) (hdl w' hw').1 (hdl w' hw').2 (by omega) (by omega) hnt hnl2) ?_
      rw [if_pos hr2]
      refine Ow.go rfl ?_
      simp (disch := (first | assumption | omega | (simp only [lenS, lenT, UInt64.reduceToNat]; try omega))) only [↓Sx.S0, Sx.S1, Tryd.fx, uWZG_1, Nat.reduceAdd, Nat.reducePow, Int.reducePow, Nat.reduceBEq, ↓reduceIte, UInt8.reduceToNat, UInt16.reduceToNat, UInt32.reduceToNat, UInt64.reduceToNat, Int.reduceToNat]
      ((try with_reducible refine Cw.go [] ?_); (try simp (disch := (first | assumption | omega | (simp only [lenS, lenT, UInt64.reduceToNat]; try omega))) only [↓Sx.S0, Sx.S1, Tryd.fx, uWZG_1, Nat.reduceAdd, Nat.reducePow, Int.reducePow, Nat.reduceBEq, ↓reduceIte, UInt8.reduceToNat, UInt16.reduceToNat, UInt32.reduceToNat, UInt64.reduceToNat, Int.reduceToNat]))
      rw [book_more]
      have hbl := bookB_len hnt hnl htl hll
      have hrl := recE_len (r := r) (by rw [hrn]; omega)
      have hadd := bin_add_s (bookB a1 l) (recordV (entryB r)) (by omega)
      have e2 : (bookB a1 l ++ recordV (entryB r) != bookB a1 l ++ recordV (entryB r)) = false := by simp
      have e0 : ((0 : Int) != 0) = false := rfl
      refine Cw.regionS [b9, bi] [0, 1, 2, 3, 4, 5, 6, 7, 8, 9, 11, 10, 13, 12, 14, 15] [] (by kernel_rfl) (by kernel_rfl) (by kernel_rfl) ?_
      simp only [nl_cons, ↓pickL_nil, ↓pickL_cons, ↓nthO_0, ↓nthO_s, consO_some]
      refine Ow.goQ ?_
      simp (disch := (first | assumption | omega | (simp only [lenS, lenT, UInt64.reduceToNat]; try omega))) only [↓Sx.S0, Sx.S1, Tryd.fx, uWZG_1, Nat.reduceAdd, Nat.reducePow, Int.reducePow, Nat.reduceBEq, ↓reduceIte, UInt8.reduceToNat, UInt16.reduceToNat, UInt32.reduceToNat, UInt64.reduceToNat, Int.reduceToNat, e0, hadd, e2, load_bk]
      have hvl := value_last hr2
      rw [hrn, hri] at hvl
      have hiz : (id.l == id.l) = true := by simp
      have hnb : (!true) = false := rfl
      refine Ow.soft rfl rfl rfl ?_
      refine Ow.callFV rfl Tryd.call37 (fun w' hw' => Value_spec x1 x2 a1 (l ++ [r]) nm w' (hdl w' hw').1 (hdl w' hw').2 (by omega) (by omega) hnt.short hnl2.short) ?_
      rw [hvl]
      with_reducible refine Ow.nil ?_
      refine ⟨by intro b hb; simp only [List.mem_cons, List.not_mem_nil, or_false] at hb; (try subst hb); rfl, ?_⟩
      refine Ow.goQ ?_
      simp (disch := (first | assumption | omega | (simp only [lenS, lenT, UInt64.reduceToNat]; try omega))) only [↓Sx.S0, Sx.S1, Tryd.fx, uWZG_1, Nat.reduceAdd, Nat.reducePow, Int.reducePow, Nat.reduceBEq, ↓reduceIte, UInt8.reduceToNat, UInt16.reduceToNat, UInt32.reduceToNat, UInt64.reduceToNat, Int.reduceToNat, load_bk, hli, hiz, hnb]
      try with_reducible refine Ow.nil ?_
      ((try with_reducible refine Cw.go [] ?_); (try simp (disch := (first | assumption | omega | (simp only [lenS, lenT, UInt64.reduceToNat]; try omega))) only [↓Sx.S0, Sx.S1, Tryd.fx, uWZG_1, Nat.reduceAdd, Nat.reducePow, Int.reducePow, Nat.reduceBEq, ↓reduceIte, UInt8.reduceToNat, UInt16.reduceToNat, UInt32.reduceToNat, UInt64.reduceToNat, Int.reduceToNat]))
      exact CutM.mk () trivial rfl rfl
    · ((try with_reducible refine Cw.go [] ?_); (try simp (disch := (first | assumption | omega | (simp only [lenS, lenT, UInt64.reduceToNat]; try omega))) only [↓Sx.S0, Sx.S1, Tryd.fx, uWZG_1, Nat.reduceAdd, Nat.reducePow, Int.reducePow, Nat.reduceBEq, ↓reduceIte, UInt8.reduceToNat, UInt16.reduceToNat, UInt32.reduceToNat, UInt64.reduceToNat, Int.reduceToNat, e]))
      exact CutM.mk () trivial rfl rfl
  intro u ju hu
  simp only [allF_s, allF_0, pin, setF_0, setF_s, Nat.reduceAdd]
  ((try with_reducible refine Cw.go [] ?_); (try simp (disch := (first | assumption | omega | (simp only [lenS, lenT, UInt64.reduceToNat]; try omega))) only [↓Sx.S0, Sx.S1, Tryd.fx, uWZG_1, Nat.reduceAdd, Nat.reducePow, Int.reducePow, Nat.reduceBEq, ↓reduceIte, UInt8.reduceToNat, UInt16.reduceToNat, UInt32.reduceToNat, UInt64.reduceToNat, Int.reduceToNat, load_bk]))
  refine Ow.callC rfl rfl Tryd.call31 (fun w' hw' => Trim_spec vt vl t l keep w' (ht.oldN hw' hNc) (hl.oldN hw' hNc) (by omega) (by omega) hnt.short hnl.short) (fun B2 v2 D2 hA2 hB2 hN2 hS2 => ?_)
  have hN2' := hN2.mono hB2
  unfold TrimS at hS2
  rw [if_pos hr] at hS2
  obtain ⟨y1, y2, ls, hv, rfl, hg3, hg4⟩ := hS2
  have hkl := trimK_le l.length keep
  generalize trimK l.length keep = k at *
  obtain ⟨hrd, hval, hmem⟩ := trim_keeps hr hkl hv
  obtain ⟨le, hle⟩ : ∃ le, valR t l l.length = some le := by
    have := valR_right t l
    rw [hr] at this
    exact Option.isSome_iff_exists.1 this
  rw [hle] at hval
  have hls16 := (of_trim hr hkl)
  obtain ⟨-, ls2, -, hv2, -, hls, -⟩ := hls16
  rw [hv] at hv2
  obtain rfl := Option.some.inj hv2
  have hnls : SmallN ls := small_mem hmem hnt hnl
  have hndr : SmallN (l.drop k) := small_mem (t := t) (l := l) (fun r hr => .inr (List.mem_of_mem_drop hr)) hnt hnl
  have hdl : (l.drop k).length ≤ 110 := by rw [List.length_drop]; omega
  generalize hld : l.drop k = ld at *
  have hst2 := store_bk (.slice none 0 0) (.slice none 0 0) y1 y2 25 (gri_cell hg3).1 (gri_cell hg4).1
  simp (disch := (first | assumption | omega | (simp only [lenS, lenT, UInt64.reduceToNat]; try omega))) only [setB_same, setB_other, List.cons_append, List.nil_append]
  refine Ow.go rfl ?_
  simp (disch := (first | assumption | omega | (simp only [lenS, lenT, UInt64.reduceToNat]; try omega))) only [↓Sx.S0, Sx.S1, Tryd.fx, uWZG_1, Nat.reduceAdd, Nat.reducePow, Int.reducePow, Nat.reduceBEq, ↓reduceIte, UInt8.reduceToNat, UInt16.reduceToNat, UInt32.reduceToNat, UInt64.reduceToNat, Int.reduceToNat]
  refine Ow.alloc rfl rfl zrBk fun bt hbt hwt => ?_
  simp only [cells_agg, List.nil_append, List.cons_append]
  have hxt : bx < bt := above_to hbt (by simp [keys])
  have hit : bi < bt := above_to hbt (by simp [keys])
  have h9t : b9 < bt := above_to hbt (by simp [keys])
  refine Ow.permL (M := (bx, .cells #[vt, vl] 25 (0, 0)) :: (bi, .cells (a8 id.l) 40 (0, 0)) :: (b9, .cells #[x1, x2] 25 (0, 0)) :: (bt, .cells #[.slice none 0 0, .slice none 0 0] 25 (0, 0)) :: (D1 ++ D2)) (by classical exact List.perm_iff_count.2 fun a => by simp only [List.count_append, List.count_cons, List.count_nil] <;> omega) ?_
  refine Ow.go rfl ?_
  simp (disch := (first | assumption | omega | (simp only [lenS, lenT, UInt64.reduceToNat]; try omega))) only [↓Sx.S0, Sx.S1, Tryd.fx, uWZG_1, Nat.reduceAdd, Nat.reducePow, Int.reducePow, Nat.reduceBEq, ↓reduceIte, UInt8.reduceToNat, UInt16.reduceToNat, UInt32.reduceToNat, UInt64.reduceToNat, Int.reduceToNat, hst2]
  have hNd : New w.heap.size ((bx, .cells #[vt, vl] 25 (0, 0)) :: (bi, .cells (a8 id.l) 40 (0, 0)) :: (b9, .cells #[x1, x2] 25 (0, 0)) :: (bt, .cells #[y1, y2] 25 (0, 0)) :: (D1 ++ D2)) := ⟨hwx, hwi, hw9, hwt, hN1'.app hN2'⟩
  have hyl : ∀ w' E, Hp w ((bx, .cells #[vt, vl] 25 (0, 0)) :: (bi, .cells (a8 id.l) 40 (0, 0)) :: (b9, .cells #[x1, x2] 25 (0, 0)) :: (bt, .cells #[y1, y2] 25 (0, 0)) :: (D1 ++ D2) ++ E) w' → RefSl w' y1 ls ∧ RefSl w' y2 ld := fun w' E hw' =>
    ⟨GrI.slV (hg3.mono (fun p hp => by simp [hp])) hw' rfl rfl refC_len, GrI.slV (hg4.mono (fun p hp => by simp [hp])) hw' rfl rfl refC_len⟩
  have e0 : ((0 : Int) != 0) = false := rfl
  have hnb : (!true) = false := rfl
  refine Cw.regionS [bt, bx] [0, 1, 2, 3, 4, 5, 6, 7, 8, 10, 9, 11, 12, 13, 14] [] (by kernel_rfl) (by kernel_rfl) (by kernel_rfl) ?_
  simp only [nl_cons, ↓pickL_nil, ↓pickL_cons, ↓nthO_0, ↓nthO_s, consO_some]
  refine Ow.goQ ?_
  simp (disch := (first | assumption | omega | (simp only [lenS, lenT, UInt64.reduceToNat]; try omega))) only [↓Sx.S0, Sx.S1, Tryd.fx, uWZG_1, Nat.reduceAdd, Nat.reducePow, Int.reducePow, Nat.reduceBEq, ↓reduceIte, UInt8.reduceToNat, UInt16.reduceToNat, UInt32.reduceToNat, UInt64.reduceToNat, Int.reduceToNat, e0, load_bk]
  refine Ow.soft rfl rfl rfl ?_
  refine Ow.callFV rfl Tryd.call36 (fun w' hw' => Right_spec y1 y2 ls ld w' (hyl w' [] (by simpa using hw')).1 (hyl w' [] (by simpa using hw')).2 (by omega) (by omega) hnls.short hndr.short) ?_
  rw [hrd]
  with_reducible refine Ow.nil ?_
  refine ⟨by intro b hb; simp only [List.mem_cons, List.not_mem_nil, or_false] at hb; (try subst hb); rfl, ?_⟩
  refine Ow.goQ ?_
  simp (disch := (first | assumption | omega | (simp only [lenS, lenT, UInt64.reduceToNat]; try omega))) only [↓Sx.S0, Sx.S1, Tryd.fx, uWZG_1, Nat.reduceAdd, Nat.reducePow, Int.reducePow, Nat.reduceBEq, ↓reduceIte, UInt8.reduceToNat, UInt16.reduceToNat, UInt32.reduceToNat, UInt64.reduceToNat, Int.reduceToNat, hnb, load_bk]
  refine Ow.soft rfl rfl rfl ?_
  refine Ow.callC rfl rfl Tryd.call39 (fun w' hw' => GoValues_spec vt vl t l w' (ht.oldN hw' hNd) (hl.oldN hw' hNd) (by omega) (by omega) hnt.short hnl.short) (fun B3 v3 D3 hA3 hB3 hN3 hS3 => ?_)
  unfold GoValsS at hS3
  rw [hle] at hS3
  have hN3' := hN3.mono hB3
  with_reducible refine Ow.nil ?_
  refine ⟨readB_appR (fun q hq => by simp only [List.mem_cons, List.not_mem_nil, or_false] at hq; rcases hq with rfl | rfl <;> simp [keys]), ?_⟩
  refine Ow.goQ ?_
  simp (disch := (first | assumption | omega | (simp only [lenS, lenT, UInt64.reduceToNat]; try omega))) only [↓Sx.S0, Sx.S1, Tryd.fx, uWZG_1, Nat.reduceAdd, Nat.reducePow, Int.reducePow, Nat.reduceBEq, ↓reduceIte, UInt8.reduceToNat, UInt16.reduceToNat, UInt32.reduceToNat, UInt64.reduceToNat, Int.reduceToNat, load_bk]
  refine Ow.soft rfl rfl rfl ?_
  refine Ow.callC rfl rfl Tryd.call39 (fun w' hw' => GoValues_spec y1 y2 ls ld w' (hyl w' _ hw').1 (hyl w' _ hw').2 (by omega) (by omega) hnls.short hndr.short) (fun B4 v4 D4 hA4 hB4 hN4 hS4 => ?_)
  unfold GoValsS at hS4
  rw [hval] at hS4
  have hN4' := hN4.mono hB4
  with_reducible refine Ow.nil ?_
  refine ⟨readB_appR (fun q hq => by simp only [List.mem_cons, List.not_mem_nil, or_false] at hq; rcases hq with rfl | rfl <;> simp [keys]), ?_⟩
  obtain ⟨-, le2, -, hve, -, hle16, -⟩ := of_trim hr (Nat.le_refl l.length)
  rw [hle] at hve
  obtain rfl := Option.some.inj hve
  have hsame : sameR le le = true := by unfold sameR; simp
  have hN34 : New w.heap.size (D1 ++ D2 ++ D3 ++ D4) := ((hN1'.app hN2').app hN3').app hN4'
  refine Ow.goQ ?_
  simp (disch := (first | assumption | omega | (simp only [lenS, lenT, UInt64.reduceToNat]; try omega))) only [↓Sx.S0, Sx.S1, Tryd.fx, uWZG_1, Nat.reduceAdd, Nat.reducePow, Int.reducePow, Nat.reduceBEq, ↓reduceIte, UInt8.reduceToNat, UInt16.reduceToNat, UInt32.reduceToNat, UInt64.reduceToNat, Int.reduceToNat]
  refine Ow.callFV rfl Tryd.call38 (fun w' hw' => SameRefsV_spec v3 v4 le le w' (GrI.slV (hS3.mono (fun p hp => by simp [hp])) hw' rfl rfl refC_len) (GrI.slV (hS4.mono (fun p hp => by simp [hp])) hw' rfl rfl refC_len) (by omega) (by omega)) ?_
  rw [hsame]
  refine Ow.goQ ?_
  simp (disch := (first | assumption | omega | (simp only [lenS, lenT, UInt64.reduceToNat]; try omega))) only [↓Sx.S0, Sx.S1, Tryd.fx, uWZG_1, Nat.reduceAdd, Nat.reducePow, Int.reducePow, Nat.reduceBEq, ↓reduceIte, UInt8.reduceToNat, UInt16.reduceToNat, UInt32.reduceToNat, UInt64.reduceToNat, Int.reduceToNat, hnb]
  try with_reducible refine Ow.nil ?_
  have hg3' : GrI (D1 ++ D2 ++ D3 ++ D4) 42 33 y1 ls.length (ls.map refC).flatten := hg3.mono fun p hp => by simp [hp]
  have hg4' : GrI (D1 ++ D2 ++ D3 ++ D4) 42 33 y2 ld.length (ld.map refC).flatten := hg4.mono fun p hp => by simp [hp]
  try simp only [List.cons_append, List.nil_append]
  clear hyl hg3 hg4 hS3 hS4 hst1 hst2 hg1 hg2
  generalize D1 ++ D2 ++ D3 ++ D4 = DD at *
  have hNe : New w.heap.size ((bx, .cells #[vt, vl] 25 (0, 0)) :: (bi, .cells (a8 id.l) 40 (0, 0)) :: (b9, .cells #[x1, x2] 25 (0, 0)) :: (bt, .cells #[y1, y2] 25 (0, 0)) :: DD) := ⟨hwx, hwi, hw9, hwt, hN34⟩
  ((try with_reducible refine Cw.go [] ?_); (try simp (disch := (first | assumption | omega | (simp only [lenS, lenT, UInt64.reduceToNat]; try omega))) only [↓Sx.S0, Sx.S1, Tryd.fx, uWZG_1, Nat.reduceAdd, Nat.reducePow, Int.reducePow, Nat.reduceBEq, ↓reduceIte, UInt8.reduceToNat, UInt16.reduceToNat, UInt32.reduceToNat, UInt64.reduceToNat, Int.reduceToNat]))
  refine Cw.regionS [bx, bt] [0, 2, 1, 3, 4, 5] [] (by kernel_rfl) (by kernel_rfl) (by kernel_rfl) ?_
  simp only [nl_cons, ↓pickL_nil, ↓pickL_cons, ↓nthO_0, ↓nthO_s, consO_some]
  refine Ow.goQ ?_
  simp (disch := (first | assumption | omega | (simp only [lenS, lenT, UInt64.reduceToNat]; try omega))) only [↓Sx.S0, Sx.S1, Tryd.fx, uWZG_1, Nat.reduceAdd, Nat.reducePow, Int.reducePow, Nat.reduceBEq, ↓reduceIte, UInt8.reduceToNat, UInt16.reduceToNat, UInt32.reduceToNat, UInt64.reduceToNat, Int.reduceToNat, load_bk]
  refine Ow.soft rfl rfl rfl ?_
  refine Ow.callC rfl rfl Tryd.call40 (fun w' hw' => Roots_spec vt vl t l w' (ht.oldN hw' hNe) (hl.oldN hw' hNe) (by omega) (by omega) hnt.short hnl.short) (fun B5 v5 D5 hA5 hB5 hN5 hS5 => ?_)
  unfold RootsS at hS5
  rw [if_pos hr] at hS5
  obtain ⟨k5, hk5, hg5⟩ := hS5
  have hN5' := hN5.mono hB5
  with_reducible refine Ow.nil ?_
  refine ⟨readB_appR (fun q hq => by simp only [List.mem_cons, List.not_mem_nil, or_false] at hq; rcases hq with rfl | rfl <;> simp [keys]), ?_⟩
  refine Ow.goQ ?_
  simp (disch := (first | assumption | omega | (simp only [lenS, lenT, UInt64.reduceToNat]; try omega))) only [↓Sx.S0, Sx.S1, Tryd.fx, uWZG_1, Nat.reduceAdd, Nat.reducePow, Int.reducePow, Nat.reduceBEq, ↓reduceIte, UInt8.reduceToNat, UInt16.reduceToNat, UInt32.reduceToNat, UInt64.reduceToNat, Int.reduceToNat, load_bk]
  refine Ow.soft rfl rfl rfl ?_
  refine Ow.callC rfl rfl Tryd.call40 (fun w' hw' => Roots_spec y1 y2 ls ld w' (GrI.slV (hg3'.mono (fun p hp => by simp [hp])) hw' rfl rfl refC_len) (GrI.slV (hg4'.mono (fun p hp => by simp [hp])) hw' rfl rfl refC_len) (by omega) (by omega) hnls.short hndr.short) (fun B6 v6 D6 hA6 hB6 hN6 hS6 => ?_)
  unfold RootsS at hS6
  rw [if_pos hrd] at hS6
  obtain ⟨k6, hk6, hg6⟩ := hS6
  have hN6' := hN6.mono hB6
  with_reducible refine Ow.nil ?_
  refine ⟨readB_appR (fun q hq => by simp only [List.mem_cons, List.not_mem_nil, or_false] at hq; rcases hq with rfl | rfl <;> simp [keys]), ?_⟩
  refine Ow.goQ ?_
  simp (disch := (first | assumption | omega | (simp only [lenS, lenT, UInt64.reduceToNat]; try omega))) only [↓Sx.S0, Sx.S1, Tryd.fx, uWZG_1, Nat.reduceAdd, Nat.reducePow, Int.reducePow, Nat.reduceBEq, ↓reduceIte, UInt8.reduceToNat, UInt16.reduceToNat, UInt32.reduceToNat, UInt64.reduceToNat, Int.reduceToNat]
  try with_reducible refine Ow.nil ?_
  have hin : ∀ x, x ∈ k6 → x ∈ k5 := roots_keep hmem (fun r hr => by rw [← hld] at hr; exact List.mem_of_mem_drop hr) hk5 hk6
  have hlen5 : ∀ m, lenV (.sl m) v5 = some (vi k5.length) := fun m => by obtain ⟨X, -, hX⟩ := hg5; exact hX.len m
  have hlen6 : ∀ m, lenV (.sl m) v6 = some (vi k6.length) := fun m => by obtain ⟨X, -, hX⟩ := hg6; exact hX.len m
  have hg5' : GrI ((bx, .cells #[vt, vl] 25 (0, 0)) :: (bi, .cells (a8 id.l) 40 (0, 0)) :: (b9, .cells #[x1, x2] 25 (0, 0)) :: (bt, .cells #[y1, y2] 25 (0, 0)) :: (DD ++ D5 ++ D6)) 40 32 v5 k5.length (k5.map idLC).flatten := hg5.mono fun p hp => by simp [hp]
  have hg6' : GrI ((bx, .cells #[vt, vl] 25 (0, 0)) :: (bi, .cells (a8 id.l) 40 (0, 0)) :: (b9, .cells #[x1, x2] 25 (0, 0)) :: (bt, .cells #[y1, y2] 25 (0, 0)) :: (DD ++ D5 ++ D6)) 40 32 v6 k6.length (k6.map idLC).flatten := hg6.mono fun p hp => by simp [hp]
  have hNf : New w.heap.size ((bx, .cells #[vt, vl] 25 (0, 0)) :: (bi, .cells (a8 id.l) 40 (0, 0)) :: (b9, .cells #[x1, x2] 25 (0, 0)) :: (bt, .cells #[y1, y2] 25 (0, 0)) :: (DD ++ D5 ++ D6)) := ⟨hwx, hwi, hw9, hwt, (hN34.app hN5').app hN6'⟩
  try simp only [List.cons_append, List.nil_append]
  clear hg5 hg6 hg3' hg4'
  have hlt5 : k5.length < 1000 := by
    obtain ⟨s, hp, -, rfl⟩ := hk5
    have h1 := uniqI_le s
    have h2 := nzI_le (t ++ l)
    rw [List.length_append] at h2
    have h3 := hp.length_eq
    omega
  have hlt6 : k6.length < 1000 := by
    obtain ⟨s, hp, -, rfl⟩ := hk6
    have h1 := uniqI_le s
    have h2 := nzI_le (ls ++ ld)
    rw [List.length_append] at h2
    have h3 := hp.length_eq
    omega
  generalize ((bx, .cells #[vt, vl] 25 (0, 0)) :: (bi, .cells (a8 id.l) 40 (0, 0)) :: (b9, .cells #[x1, x2] 25 (0, 0)) :: (bt, .cells #[y1, y2] 25 (0, 0)) :: (DD ++ D5 ++ D6) : Heap) = H at *
  ((try with_reducible refine Cw.go [] ?_); (try simp (disch := (first | assumption | omega | (simp only [lenS, lenT, UInt64.reduceToNat]; try omega))) only [↓Sx.S0, Sx.S1, Tryd.fx, uWZG_1, Nat.reduceAdd, Nat.reducePow, Int.reducePow, Nat.reduceBEq, ↓reduceIte, UInt8.reduceToNat, UInt16.reduceToNat, UInt32.reduceToNat, UInt64.reduceToNat, Int.reduceToNat]))
  refine Cw.loopG (G := Nat) [99, 100, 101, 102, 21, 22, 105, 106, 107, 108, 111, 112, 113, 114, 115, 116, 117, 118, 119, 120, 121, 122, 109, 110, 123, 124, 8, 103, 104, 20] (fun g => [(20, vi g)]) (fun g => H) (fun g => g ≤ k6.length) (fun g => k6.length - g) 0 rfl rfl ?_ ?_
  · exact Nat.zero_le _
  intro g j hg
  simp only [overFrom, pin, setF_0, setF_s, List.contains_cons, List.contains_nil, Nat.reduceBEq, Bool.or_false, Bool.false_or, Bool.or_true, Bool.true_or, Nat.reduceAdd, ↓reduceIte, Bool.false_eq_true]
  by_cases hlt : g < k6.length
  · have d6 : decide ((g : Int) < (k6.length : Int)) = true := decide_eq_true (by omega)
    refine Cw.world fun wz hwz => ?_
    have hmem6 : k6.getD g id0 ∈ k5 := hin _ (StP.getD_mem hlt)
    have hlt5' : 0 < k5.length := List.length_pos_of_mem hmem6
    rcases gri_read hg6' (fun p hp => hp) hwz with h0 | ⟨c6, cc6, rs6, rfl, rd6⟩
    · omega
    rcases gri_read hg5' (fun p hp => hp) hwz with h0 | ⟨c5, cc5, rs5, rfl, rd5⟩
    · omega
    clear hwz wz
    have hl6 : loadV (some (true, 32)) (some (rowO idLC 40 rs6 k6)) (g * 32) = some (.agg (a8 (k6.getD g id0).l)) := load_row idLC_len g hlt
    generalize hx6 : k6.getD g id0 = x6 at *
    ((try with_reducible refine Cw.go [] ?_); (try simp (disch := (first | assumption | omega | (simp only [lenS, lenT, UInt64.reduceToNat]; try omega))) only [↓Sx.S0, Sx.S1, Tryd.fx, uWZG_1, Nat.reduceAdd, Nat.reducePow, Int.reducePow, Nat.reduceBEq, ↓reduceIte, UInt8.reduceToNat, UInt16.reduceToNat, UInt32.reduceToNat, UInt64.reduceToNat, Int.reduceToNat, hlen6, d6]))
    refine Cw.loopG (G := (Nat × Bool)) [105, 106, 107, 108, 111, 112, 113, 114, 115, 116, 117, 118, 119, 120, 121, 122, 21, 109, 110, 22] (fun q => [(21, .bool q.2), (22, vi q.1)]) (fun q => H) (fun q => q.1 ≤ k5.length ∧ q.2 = (k5.take q.1).any fun y => y.l == x6.l) (fun q => k5.length - q.1) ⟨0, false⟩ rfl rfl ?_ ?_
    · exact ⟨Nat.zero_le _, rfl⟩
    intro q jq hq
    simp only [overFrom, pin, setF_0, setF_s, List.contains_cons, List.contains_nil, Nat.reduceBEq, Bool.or_false, Bool.false_or, Bool.or_true, Bool.true_or, Nat.reduceAdd, ↓reduceIte, Bool.false_eq_true]
    obtain ⟨q, bq⟩ := q
    simp only at hq ⊢
    obtain ⟨hq1, hq2⟩ := hq
    by_cases hlq : q < k5.length
    · have d5 : decide ((q : Int) < (k5.length : Int)) = true := decide_eq_true (by omega)
      have hl5 : loadV (some (true, 32)) (some (rowO idLC 40 rs5 k5)) (q * 32) = some (.agg (a8 (k5.getD q id0).l)) := load_row idLC_len q hlq
      ((try with_reducible refine Cw.go [] ?_); (try simp (disch := (first | assumption | omega | (simp only [lenS, lenT, UInt64.reduceToNat]; try omega))) only [↓Sx.S0, Sx.S1, Tryd.fx, uWZG_1, Nat.reduceAdd, Nat.reducePow, Int.reducePow, Nat.reduceBEq, ↓reduceIte, UInt8.reduceToNat, UInt16.reduceToNat, UInt32.reduceToNat, UInt64.reduceToNat, Int.reduceToNat, hlen5, d5]))
      have hany : ((k5.take (q + 1)).any fun y => y.l == x6.l) = (bq || (k5.getD q id0).l == x6.l) := by
        rw [StP.take_snoc (z := id0) hlq, List.any_append, ← hq2]; simp
      generalize hx5 : k5.getD q id0 = x5 at *
      refine Cw.regionS [c5, c6] [0, 1, 2, 3, 4, 6, 7, 8, 5, 9, 10, 11, 12] [] (by kernel_rfl) (by kernel_rfl) (by kernel_rfl) ?_
      simp only [nl_cons, ↓pickL_nil, ↓pickL_cons, ↓nthO_0, ↓nthO_s, consO_some]
      cases bq
      · refine Ow.goQ ?_
        simp (disch := (first | assumption | omega | (simp only [lenS, lenT, UInt64.reduceToNat]; try omega))) only [↓Sx.S0, Sx.S1, Tryd.fx, uWZG_1, Nat.reduceAdd, Nat.reducePow, Int.reducePow, Nat.reduceBEq, ↓reduceIte, UInt8.reduceToNat, UInt16.reduceToNat, UInt32.reduceToNat, UInt64.reduceToNat, Int.reduceToNat, rd5, rd6, hl5, hl6]
        try with_reducible refine Ow.nil ?_
        ((try with_reducible refine Cw.go [] ?_); (try simp (disch := (first | assumption | omega | (simp only [lenS, lenT, UInt64.reduceToNat]; try omega))) only [↓Sx.S0, Sx.S1, Tryd.fx, uWZG_1, Nat.reduceAdd, Nat.reducePow, Int.reducePow, Nat.reduceBEq, ↓reduceIte, UInt8.reduceToNat, UInt16.reduceToNat, UInt32.reduceToNat, UInt64.reduceToNat, Int.reduceToNat]))
        refine Again.mk (q + 1, x5.l == x6.l) (by show k5.length - (q + 1) < k5.length - q; omega) ⟨hlq, ?_⟩ rfl rfl
        show (x5.l == x6.l) = _
        rw [hany, Bool.false_or]
      · refine Ow.goQ ?_
        simp (disch := (first | assumption | omega | (simp only [lenS, lenT, UInt64.reduceToNat]; try omega))) only [↓Sx.S0, Sx.S1, Tryd.fx, uWZG_1, Nat.reduceAdd, Nat.reducePow, Int.reducePow, Nat.reduceBEq, ↓reduceIte, UInt8.reduceToNat, UInt16.reduceToNat, UInt32.reduceToNat, UInt64.reduceToNat, Int.reduceToNat]
        try with_reducible refine Ow.nil ?_
        ((try with_reducible refine Cw.go [] ?_); (try simp (disch := (first | assumption | omega | (simp only [lenS, lenT, UInt64.reduceToNat]; try omega))) only [↓Sx.S0, Sx.S1, Tryd.fx, uWZG_1, Nat.reduceAdd, Nat.reducePow, Int.reducePow, Nat.reduceBEq, ↓reduceIte, UInt8.reduceToNat, UInt16.reduceToNat, UInt32.reduceToNat, UInt64.reduceToNat, Int.reduceToNat]))
        refine Again.mk (q + 1, true) (by show k5.length - (q + 1) < k5.length - q; omega) ⟨hlq, ?_⟩ rfl rfl
        show true = _
        rw [hany, Bool.true_or]
    · obtain rfl : q = k5.length := by omega
      have d5 : decide ((k5.length : Int) < (k5.length : Int)) = false := by simp
      rw [List.take_length] at hq2
      have hbt' : bq = true := by
        rw [hq2, List.any_eq_true]
        exact ⟨x6, hmem6, by simp⟩
      subst hbt'
      ((try with_reducible refine Cw.go [] ?_); (try simp (disch := (first | assumption | omega | (simp only [lenS, lenT, UInt64.reduceToNat]; try omega))) only [↓Sx.S0, Sx.S1, Tryd.fx, uWZG_1, Nat.reduceAdd, Nat.reducePow, Int.reducePow, Nat.reduceBEq, ↓reduceIte, UInt8.reduceToNat, UInt16.reduceToNat, UInt32.reduceToNat, UInt64.reduceToNat, Int.reduceToNat, hlen5, d5, hnb]))
      refine Again.mk (g + 1) (by show k6.length - (g + 1) < k6.length - g; omega) hlt rfl rfl
  · obtain rfl : g = k6.length := by omega
    have d6 : decide ((k6.length : Int) < (k6.length : Int)) = false := by simp
    ((try with_reducible refine Cw.go [] ?_); (try simp (disch := (first | assumption | omega | (simp only [lenS, lenT, UInt64.reduceToNat]; try omega))) only [↓Sx.S0, Sx.S1, Tryd.fx, uWZG_1, Nat.reduceAdd, Nat.reducePow, Int.reducePow, Nat.reduceBEq, ↓reduceIte, UInt8.reduceToNat, UInt16.reduceToNat, UInt32.reduceToNat, UInt64.reduceToNat, Int.reduceToNat, hlen6, d6]))
    refine Ow.callFV rfl Tryd.call8 (fun w' hw' => alive16_spec w' (GlobC.of hG hw' (hNf.not hglt))) ?_
    refine Ow.go rfl ?_
    simp (disch := (first | assumption | omega | (simp only [lenS, lenT, UInt64.reduceToNat]; try omega))) only [↓Sx.S0, Sx.S1, Tryd.fx, uWZG_1, Nat.reduceAdd, Nat.reducePow, Int.reducePow, Nat.reduceBEq, ↓reduceIte, UInt8.reduceToNat, UInt16.reduceToNat, UInt32.reduceToNat, UInt64.reduceToNat, Int.reduceToNat]
    ((try with_reducible refine Cw.go [] ?_); (try simp (disch := (first | assumption | omega | (simp only [lenS, lenT, UInt64.reduceToNat]; try omega))) only [↓Sx.S0, Sx.S1, Tryd.fx, uWZG_1, Nat.reduceAdd, Nat.reducePow, Int.reducePow, Nat.reduceBEq, ↓reduceIte, UInt8.reduceToNat, UInt16.reduceToNat, UInt32.reduceToNat, UInt64.reduceToNat, Int.reduceToNat]))
    refine ⟨_, (by simp (disch := (first | assumption | omega | (simp only [lenS, lenT, UInt64.reduceToNat]; try omega))) only [↓Sx.S0, Sx.S1, Tryd.fx, uWZG_1, Nat.reduceAdd, Nat.reducePow, Int.reducePow, Nat.reduceBEq, ↓reduceIte, UInt8.reduceToNat, UInt16.reduceToNat, UInt32.reduceToNat, UInt64.reduceToNat, Int.reduceToNat]; rfl), hNf, ?_⟩
    rfl
end Go.Proofs
end
namespace Go.Sx
open Go Go.ChangeShapes Go.WideShapes Go.RowKit

theorem Hp.same0 {W W' : World} (h : Hp W [] W') {b : Nat} (hb : b < W.heap.size) : W'.heap[b]? = W.heap[b]? := h.old b hb (fun hm => by cases hm)
theorem Hp.kept {W W' : World} (h : Hp W [] W') (may : MemPlace → Prop) : W.keptBut W' may := by
  refine ⟨h.os, h.output, fun i hi => ?_⟩
  rw [h.same0 hi]
  cases ho : W.heap[i]? with
  | none => rfl
  | some o =>
    cases o <;> first
      | exact ⟨rfl, rfl, rfl, fun _ _ => rfl⟩
      | exact .inr ⟨rfl, rfl⟩
      | rfl
theorem Hp.sameAt {W W' : World} (h : Hp W [] W') {p : MemPlace} (hp : p.block < W.heap.size) : W.sameAt W' p := by
  cases p with
  | cell b off =>
    have := h.same0 (b := b) hp
    simp only [World.sameAt, World.cell?, this]
  | map b => exact h.same0 hp
theorem Hp.frozen {W W' : World} (h : Hp W [] W') {a : Addr} (ha : a.block < W.heap.size) : W'.frozen? a = W.frozen? a := by
  simp only [World.frozen?, h.same0 ha]

section
variable {H : Type} {enc : TypeId × Value → H} {P : Program}
theorem trodAll_stays (hl : laidOutB P = true) {W W' : World} {sp : Nat → Bool} (hp : Hp W [] W') : ∀ {ts : List TypeId} {vs : List Value} {ds : List (DataW H)} {ps : List MemPlace},
    (∀ t ∈ ts, P.readableRec t = true ∧ t < P.types.size) → (∀ p ∈ ps, p.block < W.heap.size) → (∀ p ∈ ps, sp p.block = true) →
    DataW.TrodAll enc P W 0 (fun _ => true) true ts vs ds ps → DataW.TrodAll enc P W' 0 sp true ts vs ds ps
  | [], _, _, _, _, _, _, h => by
    obtain ⟨rfl, rfl, rfl⟩ := trodAll_nil h
    exact trodAll_mk0
  | t :: ts, _, _, _, ht, hlt, hs, h => by
    obtain ⟨v, vs, d, ds, p, q, rfl, rfl, rfl, h1, h2⟩ := trodAll_cons h
    have hlt1 : ∀ x ∈ p, x.block < W.heap.size := fun x hx => hlt x (List.mem_append_left _ hx)
    exact trodAll_cons_mk (WideElems.Trod_stays hl (ht t List.mem_cons_self).1 (ht t List.mem_cons_self).2 h1 (fun x hx => hp.sameAt (hlt1 x hx)) (fun x hx => hs x (List.mem_append_left _ hx)))
      (trodAll_stays hl hp (fun u hu => ht u (List.mem_cons_of_mem _ hu)) (fun x hx => hlt x (List.mem_append_right _ hx)) (fun x hx => hs x (List.mem_append_right _ hx)) h2)

/-- WHAT THE ROW OF A LAW ASKS, from 'it answers true and turns nothing that was there'. -/
theorem post_true {f : Func} {s : ChangeSpec} {W W' : World} {args : Array Value} {ds gs : List (DataW H)} {before : List MemPlace} {tb : TypeId} (hl : laidOutB P = true)
    (hW : DataW.Whole enc P f.params.toList s.vars false W args.toList ds gs before) (hv : s.vars = []) (hpar : ∀ t ∈ f.params.toList, P.readableRec t = true ∧ t < P.types.size)
    (hr : f.resultTypes = #[tb]) (htb : P.underlying tb = some .bool) (hfn : s.fn H ds = { results := [.lit (.bool true)], args := ds }) (hp : Hp W [] W') :
    s.post enc P f false true false false W args (.bool true) W' := by
  have hlt := hW.lt
  have hW0 := hW
  obtain ⟨p, q, hA, hV, rfl, hz, hn⟩ := hW
  rw [hv] at hV
  obtain ⟨rfl, rfl⟩ := trodVars_none hV
  rw [List.append_nil] at hW0 hlt hz
  have hargs : ∀ sp : Nat → Bool, (∀ x ∈ p, sp x.block = true) → DataW.TrodAll enc P W' 0 sp true f.params.toList args.toList (s.fn H (ds ++ [])).args p := fun sp hs => by
    rw [List.append_nil, hfn]
    exact trodAll_stays hl hp hpar hlt hs hA
  have hvars : ∀ sp : Nat → Bool, DataW.TrodVars enc P W' sp s.vars (s.fn H (ds ++ [])).vars [] := fun sp => by
    rw [List.append_nil, hfn, hv]; rfl
  have hres : ∀ (b : Nat) (sp : Nat → Bool) (hd : Bool), DataW.TrodAll enc P W' b sp hd f.resultTypes.toList ((Value.bool true).resultList f.resultTypes.size) (s.fn H (ds ++ [])).results [] := fun b sp hd => by
    rw [List.append_nil, hfn, hr]
    exact trodAll_cons_mk (shut_bool htb true) trodAll_mk0
  have hold : ∀ x ∈ p, (fun b => decide (b < W.heap.size)) x.block = true := fun x hx => by simpa using hlt x hx
  refine ⟨ds, [], p, [], p, [], hW0, hres _ _ _, hargs _ hold, hvars _, hp.kept _, fun _ => ?_⟩
  refine ⟨ok_one hr rfl (okWide_bool_mk htb true), _, _, ([] ++ p) ++ [], ⟨[] ++ p, [], trodAll_append (hargs _ (fun _ _ => rfl)) (hres _ _ _), hvars _, rfl, ?_, fun h => by cases h⟩, ?_⟩
  · intro b off hx
    have hx' : MemPlace.cell b off ∈ p := by simpa using hx
    rw [hp.frozen (hlt _ hx')]
    exact hz b off hx'
  · intro x hx _
    simpa using hx
end
section
variable {P : Program} {W : World} {name : String} {k : IntKind} {zs : List Int}
theorem tab_of_vars {t e : TypeId} {g n : Nat} (hg : P.globalNamed name = some g) (hty : (P.globals[g]?).map (·.type) = some t) (ht : P.underlying t = some (.array n e)) (he : P.underlying e = some (.int k)) (hce : P.cellsOf e = 1) (hct : P.cellsOf t = n) :
    ∀ {laid : List (String × DataW Unit)} {ps : List MemPlace}, DataW.LaidVars P W laid ps → (name, Lib.tabData k zs) ∈ laid → Lib.TabIs P W name k zs
  | [], _, _, hm => by cases hm
  | (n', d') :: rest, ps, h, hm => by
    obtain ⟨g', t', cs, fuel, p, q, hg', ht', hvar, hd, hr, -⟩ := h
    rcases List.mem_cons.1 hm with hm | hm
    · cases hm
      obtain rfl := Option.some.inj (hg.symm.trans hg')
      obtain rfl := Option.some.inj (hty.symm.trans ht')
      unfold Lib.TabIs
      rw [hvar, ← Lib.cells_of_tab ht he hce hct hd]
    · exact tab_of_vars hg hty ht he hce hct hr hm
theorem heap_of_tab {g : Nat} (hg : P.globalNamed name = some g) (h : Lib.TabIs P W name k zs) : ∃ e f, W.heap[g]? = some (.cells (zs.map fun z => Value.int k z).toArray e f) := by
  unfold Lib.TabIs at h
  simp only [World.var?, hg, Option.bind_some] at h
  split at h
  · rename_i cs e f hb
    cases h
    exact ⟨e, f, hb⟩
  · cases h
end
section
variable {H : Type} {enc : TypeId × Value → H} {P : Program}
end
end Go.Sx
namespace Go.Sx
open Go
section
variable {P : Program}
theorem rowAt_le {fits : TypeId → Bool} {d : Nat} {e : TypeId} {count off n : Nat} (h : rowAt P fits d e count off n = true) : off ≤ count * P.cellsOf e := by
  cases d with
  | zero => simp [rowAt] at h
  | succ d =>
    unfold rowAt at h
    simp only at h
    split at h
    · cases h
    · rename_i hs
      have hs' : 0 < P.cellsOf e := Nat.pos_of_ne_zero hs
      have hd := Nat.div_add_mod off (P.cellsOf e)
      have hm := Nat.mod_lt off hs'
      rw [Bool.or_eq_true] at h
      rcases h with h | h
      · simp only [Bool.and_eq_true, beq_iff_eq, decide_eq_true_eq] at h
        have : off / P.cellsOf e * P.cellsOf e ≤ count * P.cellsOf e := Nat.mul_le_mul_right _ (by omega)
        rw [Nat.mul_comm (P.cellsOf e)] at hd
        omega
      · simp only [Bool.and_eq_true, decide_eq_true_eq] at h
        have : (off / P.cellsOf e + 1) * P.cellsOf e ≤ count * P.cellsOf e := Nat.mul_le_mul_right _ (by omega)
        rw [Nat.add_mul, Nat.one_mul] at this
        rw [Nat.mul_comm (P.cellsOf e)] at hd
        omega
theorem liesAt_le {e : TypeId} {count off : Nat} : ∀ {d : Nat} {u : TypeId} {n : Nat}, liesAt P d e count off u n = true → off ≤ count * P.cellsOf e
  | 0, u, n, h => by simp [liesAt] at h
  | d + 1, u, n, h => by
    unfold liesAt at h
    rw [Bool.or_eq_true] at h
    rcases h with h | h
    · exact rowAt_le h
    · split at h
      · exact liesAt_le h
      · cases h
theorem has_le {W : World} {r : Reach} {base : Nat} {a : Addr} {e : TypeId} {n : Nat} (h : W.has P r base a e n) : a.spot = none ∧ ∃ arr E fz, W.heap[a.block]? = some (.cells arr E fz) ∧ a.off ≤ arr.size := by
  obtain ⟨-, hs, row, cells, hsh, hl⟩ := h
  refine ⟨hs, ?_⟩
  unfold World.shape? at hsh
  split at hsh
  · rename_i c el fz hh
    cases hsh
    refine ⟨c, _, fz, hh, Nat.le_trans (liesAt_le hl) ?_⟩
    exact Nat.div_mul_le_self _ _
  · cases hsh
theorem okWide_sl {W : World} {r : Reach} {base : Nat} {t e : TypeId} {v : Value} (ht : P.underlying t = some (.slice e)) (h : Value.okWide P W r base t v) :
    v = .slice none 0 0 ∨ ∃ b off len cap arr E fz, v = vsl b off len cap ∧ len ≤ cap ∧ W.heap[b]? = some (.cells arr E fz) ∧ off ≤ arr.size := by
  obtain ⟨a, len, cap, rfl⟩ := Go.WideShapes.okWide_slice ht h
  unfold Value.okWide at h
  rw [ht] at h
  unfold Cell.okWide at h
  rw [ht] at h
  simp only at h
  unfold Cell.ok at h
  rw [ht] at h
  cases a with
  | none =>
    left
    simp only at h
    split at h
    all_goals first | (cases h; done) | simp_all
  | some a =>
    right
    simp only at h
    obtain ⟨hle, -, hh⟩ := h
    obtain ⟨hs, arr, E, fz, hb, ho⟩ := has_le hh
    obtain ⟨b, off, sp⟩ := a
    simp only at hs
    subst hs
    exact ⟨b, off, len, cap, arr, E, fz, rfl, hle, hb, ho⟩
theorem slV_of {α : Type} {enc : α → List Value} {z : α} {m : Nat} {W : World} {base b off c : Nat} {l : List α} {arr : Array Value} {E : TypeId} {fz : Nat × Nat} (hm0 : 0 < m) (hm : ∀ x, (enc x).length = m)
    (hcells : ∀ i, i < l.length → W.cells? base ((Addr.mk b off none).add (i * m)) m = some (enc (l.getD i z))) (hheap : W.heap[b]? = some (.cells arr E fz)) (hoff : off ≤ arr.size) (hc : l.length ≤ c) : SlV m enc z W (vsl b off l.length c) l := by
  have get : ∀ k, k < l.length → ∀ j, j < m → arr[off + k * m + j]? = (enc (l.getD k z))[j]? := by
    intro k hk j hj
    obtain ⟨-, hl, hg⟩ := World.cells?_some (hcells k hk)
    have := hg j (by omega)
    rw [add_spot, add_spot] at this
    simp only [World.cell?, hheap, Option.isSome_none, Bool.false_eq_true, if_false] at this
    exact this
  refine SlV.sl hheap get hc ?_
  by_cases h0 : l.length = 0
  · rw [h0]; omega
  · have h1 := get (l.length - 1) (by omega) (m - 1) (by omega)
    rw [List.getElem?_eq_getElem (by rw [hm]; omega)] at h1
    have h2 := (Array.getElem?_eq_some_iff.1 h1).1
    have h3 : (l.length - 1) * m + m = l.length * m := by
      rw [← Nat.succ_mul]; congr 1; omega
    omega
/-- An argument's row that is a slice of elements, each of which is told as one of some kind. -/
theorem open_slS {H : Type} {tell : TypeId × Value → H} {α : Type} {enc : α → List Value} {z : α} {m : Nat} {W : World} {r : Reach} {base b0 : Nat} {sp : Nat → Bool} {held : Bool} {fuel : Nat} {t e : TypeId} {v : Value} {x : DataW H × List MemPlace}
    (ht : P.underlying t = some (.slice e)) (he : P.cellsOf e = m) (hm0 : 0 < m) (hm : ∀ x, (enc x).length = m) (hval : Value.okWide P W r b0 t v)
    (hdec : ∀ n cs y, DataW.trod tell P W base sp held n e cs = some y → ∃ a, cs = enc a) (hd : DataW.trod tell P W base sp held fuel t [v] = some x) : ∃ l, SlV m enc z W v l := by
  rcases DataW.trod_slice ht hd with ⟨hcs, -⟩ | ⟨a, len, cap, elems, rest, n, -, hcs, -, -, hl, -, hlen, hel, -, -⟩
  · simp only [List.cons.injEq, and_true] at hcs
    subst hcs
    exact ⟨[], SlV.nil W⟩
  · simp only [List.cons.injEq, and_true] at hcs
    subst hcs
    rcases okWide_sl ht hval with h0 | ⟨b, off, len', cap', arr, E, fz, h1, -, hb, ho⟩
    · cases h0
    · unfold vsl at h1
      cases h1
      rw [he] at hel
      have hex : ∀ i, i < len → ∃ q, W.cells? base ((Addr.mk b off none).add (i * m)) m = some (enc q) := by
        intro i hi
        have h2 := hel i hi
        rw [List.getElem?_eq_getElem (by omega)] at h2
        cases hc : W.cells? base ((Addr.mk b off none).add (i * m)) m with
        | none => rw [hc] at h2; cases h2
        | some cs =>
          rw [hc] at h2
          obtain ⟨q, rfl⟩ := hdec _ _ _ h2
          exact ⟨q, rfl⟩
      obtain ⟨f, hf⟩ : ∃ f : Nat → α, ∀ i, i < len → W.cells? base ((Addr.mk b off none).add (i * m)) m = some (enc (f i)) := by
        classical
        refine ⟨fun i => if h : i < len then Classical.choose (hex i h) else z, fun i hi => ?_⟩
        simp only [dif_pos hi]
        exact Classical.choose_spec (hex i hi)
      have hll : ((List.range len).map f).length = len := by simp
      refine ⟨(List.range len).map f, ?_⟩
      have := slV_of (W := W) (base := base) (b := b) (off := off) (c := cap) (l := (List.range len).map f) (z := z) hm0 hm (fun i hi => by
        rw [hll] at hi
        rw [hf i hi]
        congr 2
        rw [List.getD_eq_getElem?_getD, List.getElem?_map, List.getElem?_range hi]; rfl) hb ho (by rw [hll]; exact hl)
      rw [hll] at this
      exact this
end
end Go.Sx
section
open Go Go.Proofs Go.Sx Go.RefP
namespace Go.Proofs
set_option maxRecDepth 10000
set_option maxHeartbeats 4000000
/-! ### An argument that is a book -/
theorem ints_v8 {H : Type} {tell : TypeId × Value → H} {W : World} {base : Nat} {sp : Nat → Bool} {held : Bool} {n : Nat} {cs : List Value} {y : DataW H × List MemPlace}
    (h : DataW.trod tell Tryd.prog W base sp held n 40 cs = some y) : ∃ i : IdL, cs = i.l.map v8 := by
  obtain ⟨xs, m, -, -, hlen, hxl, hel⟩ := DataW.trod_array Tryd.underlying40 h
  have hc : (Tryd.prog).cellsOf 40 = 32 := by kernel_rfl
  have h1 : (Tryd.prog).cellsOf 5 = 1 := by kernel_rfl
  rw [hc] at hlen
  rw [h1] at hel
  have hex : ∀ i (hi : i < cs.length), ∃ x : UInt8, cs[i] = v8 x := by
    intro i hi
    have h2 := hel i (by omega)
    rw [List.getElem?_eq_getElem (by omega), Nat.mul_one, List.drop_eq_getElem_cons hi, List.take_succ_cons, List.take_zero] at h2
    obtain ⟨z, hz, -, hw⟩ := DataW.trod_int Tryd.underlying5 h2
    simp only [List.cons.injEq, and_true] at hz
    rw [hz]
    simp only [Lit.wf, Bool.and_eq_true, decide_eq_true_eq] at hw
    have hw1 : 0 ≤ z := by simpa [IntKind.min, IntKind.bits, IntKind.signed] using hw.1
    have hw2 : z ≤ 255 := by simpa [IntKind.max, IntKind.bits, IntKind.signed] using hw.2
    refine ⟨UInt8.ofNat z.toNat, ?_⟩
    unfold v8
    rw [UInt8.toNat_ofNat', Nat.mod_eq_of_lt (by omega)]
    congr 1; omega
  have hl : ∃ l : List UInt8, cs = l.map v8 := by
    clear hel hlen hxl h
    induction cs with
    | nil => exact ⟨[], rfl⟩
    | cons c r ih =>
      obtain ⟨x, hx⟩ := hex 0 (by simp)
      obtain ⟨l, hl⟩ := ih (fun i hi => by have := hex (i + 1) (by simpa using hi); simpa using this)
      exact ⟨x :: l, by rw [hl]; simp at hx; simp [hx]⟩
  obtain ⟨l, rfl⟩ := hl
  exact ⟨⟨l, by simpa using hlen⟩, rfl⟩
theorem dec_ref {H : Type} {tell : TypeId × Value → H} {W : World} {base : Nat} {sp : Nat → Bool} {held : Bool} (n : Nat) (cs : List Value) (y : DataW H × List MemPlace)
    (h : DataW.trod tell Tryd.prog W base sp held n 42 cs = some y) : ∃ a : RefL, cs = refC a := by
  obtain ⟨y0, y1, n', -, hlen, h0, h1⟩ := ChangeShapes.trod_struct2 Tryd.underlying42 h
  have hc : (Tryd.prog).cellsOf 42 = 33 := by kernel_rfl
  have hc1 : (Tryd.prog).cellsOf 9 = 1 := by kernel_rfl
  have hc2 : (Tryd.prog).cellsOf 40 = 32 := by kernel_rfl
  simp only at h0 h1
  rw [hc1, List.drop_zero] at h0
  rw [hc2] at h1
  rw [hc] at hlen
  obtain ⟨s, hs, -, -⟩ := DataW.trod_string Tryd.underlying9 h0
  obtain ⟨i, hi⟩ := ints_v8 h1
  refine ⟨⟨s.data.toList, i⟩, ?_⟩
  have hd : cs = cs.take 1 ++ (cs.drop 1).take 32 := by
    rw [show (cs.drop 1).take 32 = cs.drop 1 from List.take_of_length_le (by rw [List.length_drop]; omega), List.take_append_drop]
  rw [hd, hs, hi]
  rfl
/-- The book. -/
theorem open_book {H : Type} {tell : TypeId × Value → H} {W : World} {r : Reach} {base b0 : Nat} {sp : Nat → Bool} {held : Bool} {fuel : Nat} {v : Value} {x : DataW H × List MemPlace}
    (hval : Value.okWide Tryd.prog W r b0 25 v) (hd : DataW.trod tell Tryd.prog W base sp held fuel 25 v.cells.toList = some x) : ∃ vt vl t l, v = .agg #[vt, vl] ∧ RefSl W vt t ∧ RefSl W vl l := by
  have hc : (Tryd.prog).cellsOf 25 = 2 := by kernel_rfl
  have hcr : (Tryd.prog).cellsOf 23 = 1 := by kernel_rfl
  have hcR : (Tryd.prog).cellsOf 42 = 33 := by kernel_rfl
  have hct : (Tryd.prog).cellTypes (Tryd.prog).depth 25 = some [23, 23] := by kernel_rfl
  obtain ⟨y0, y1, n', -, hlen, h0, h1⟩ := ChangeShapes.trod_struct2 Tryd.underlying25 hd
  unfold Value.okWide at hval
  rw [Tryd.underlying25] at hval
  obtain ⟨cs, rfl, hs, ts, hts, -, hcell⟩ := hval
  rw [hct] at hts
  cases hts
  rw [hc] at hs
  obtain ⟨vt, vl, rfl⟩ : ∃ a b, cs = #[a, b] := by
    obtain ⟨l⟩ := cs
    match l, hs with
    | [a, b], _ => exact ⟨a, b, rfl⟩
  simp only at h0 h1
  rw [hcr, cells_agg] at h0 h1
  have k0 : Value.okWide Tryd.prog W r b0 23 vt := by
    obtain ⟨u, hu, ho⟩ := hcell 0 vt rfl
    obtain rfl : 23 = u := by simpa using hu
    unfold Value.okWide
    rw [Tryd.underlying23]
    exact ho
  have k1 : Value.okWide Tryd.prog W r b0 23 vl := by
    obtain ⟨u, hu, ho⟩ := hcell 1 vl rfl
    obtain rfl : 23 = u := by simpa using hu
    unfold Value.okWide
    rw [Tryd.underlying23]
    exact ho
  obtain ⟨t, ht⟩ := open_slS (z := ref0) Tryd.underlying23 hcR (by decide) refC_len k0 dec_ref h0
  obtain ⟨l, hl⟩ := open_slS (z := ref0) Tryd.underlying23 hcR (by decide) refC_len k1 dec_ref h1
  exact ⟨vt, vl, t, l, rfl, ht, hl⟩
/-- The id. -/
theorem open_id {H : Type} {tell : TypeId × Value → H} {W : World} {r : Reach} {base b0 : Nat} {sp : Nat → Bool} {held : Bool} {fuel : Nat} {v : Value} {x : DataW H × List MemPlace}
    (hval : Value.okWide Tryd.prog W r b0 40 v) (hd : DataW.trod tell Tryd.prog W base sp held fuel 40 v.cells.toList = some x) : ∃ i : IdL, v = .agg (a8 i.l) := by
  unfold Value.okWide at hval
  rw [Tryd.underlying40] at hval
  obtain ⟨cs, rfl, -⟩ := hval
  rw [cells_agg] at hd
  obtain ⟨i, hi⟩ := ints_v8 hd
  refine ⟨i, ?_⟩
  congr 1
  exact Array.toList_inj.1 (by rw [hi]; rfl)
end Go.Proofs
end

