/-
  Part 4 of the walk: contracts of the functions that the law reaches, and the calculus they stand on.
  No conditions.
-/
import Derived.Test.YteppologbikipaaGreatDoorA3
import Derived.Lib.Small
import Derived.Lib.Walk
import Derived.Sort.Grow
import Derived.Deep.Draws
import Derived.Shelf.SlSortCmp.NoneTotal
import Derived.Shelf.SlLaysF0
import Derived.Ground.SlsfProg
import Derived.Maps.RangeRun
section
open Go Go.Proofs Go.Sx Go.RefP
namespace Go.Proofs
set_option maxRecDepth 10000
set_option maxHeartbeats 4000000
set_option linter.unusedSimpArgs false
/-- The document's Set, on refs. -/
def setRG (x : RefL) : List RefL → Bool → List RefL
  | [], dn => if dn then [] else [x]
  | p :: r, dn => if p.name == x.name then setRG x r dn else if !dn && !(ltB p.name x.name || p.name == x.name) then x :: p :: setRG x r true else p :: setRG x r dn
def setR (l : List RefL) (x : RefL) : List RefL := setRG x l (x.id.l == z32)
theorem prs_setRG (x : RefL) : ∀ (l : List RefL) (dn : Bool), prs (setRG x l dn) = setGo (x.name, x.id.l) (prs l) dn
  | [], dn => by cases dn <;> rfl
  | p :: r, dn => by
    unfold setRG
    have e : prs (p :: r) = (p.name, p.id.l) :: prs r := rfl
    rw [e, setGo]
    simp only
    split
    · exact prs_setRG x r dn
    · split
      · show _ :: _ :: prs _ = _
        rw [prs_setRG x r true]
      · show _ :: prs _ = _
        rw [prs_setRG x r dn]
theorem prs_setR (l : List RefL) (x : RefL) : prs (setR l x) = setL z32 (prs l) (x.name, x.id.l) := prs_setRG x l _
structure SG where
  g : Nat
  dn : Bool
  v : Value
  o : List RefL
  D : Heap
set_option linter.defProp false
def uWT_1 := And.intro (And.intro (And.intro (And.intro (@rdIn_v8) (@rdIn_v16)) (And.intro (@rdIn_v32) (@rdIn_v64))) (And.intro (And.intro (@rdIn_vi) (@load_ref0)) (And.intro (@load_ref1) (@cells_ref)))) (And.intro (And.intro (And.intro (@eqIdz) (@store_rr)) (And.intro (@load_ref) (@load_bk0))) (And.intro (And.intro (@load_bk1) (@load_bk)) (And.intro (@tup2_0) (@tup2_1))))
theorem Set_spec (vl : Value) (l : List RefL) (x : RefL) (w : World) (hl : RefSl w vl l) (hll : l.length < 1000) :
    Rets Tryz.prog 20 #[vl, .agg (refC x).toArray] w (XS w [] (fun v D => GrI D 48 33 v (setR l x).length ((setR l x).map refC).flatten)) := by
  have hxl := x.id.h
  obtain ⟨b1, o1, a1, E1, f1, h1⟩ := hl.row
  refine Rets.enterX Tryz.func20 rfl (rs := [.tmp 4]) Tryz.results20 Tryz.ntmps20 (fun p hp => by cases hp) (by simp [keys]) ?_
  simp only [List.size_toArray, List.length_cons, List.length_nil, Nat.reduceAdd, Nat.reduceSub, List.replicate_succ, List.replicate_zero, List.cons_append, List.nil_append]
  ((try with_reducible refine Cw.go [] ?_); (try simp (disch := (first | assumption | omega | (simp only [lenS, lenT, UInt64.reduceToNat]; try omega))) only [↓Sx.S0, Sx.S1, Tryz.fx, uWT_1, Nat.reduceAdd, Nat.reducePow, Int.reducePow, Nat.reduceBEq, ↓reduceIte, UInt8.reduceToNat, UInt16.reduceToNat, UInt32.reduceToNat, UInt64.reduceToNat, Int.reduceToNat]))
  refine Ow.box rfl rfl fun bx hbx hwx => ?_
  simp only [ev_tmp, getF_0, getF_s, cells_agg, List.nil_append, List.cons_append]
  refine Ow.go rfl ?_
  simp (disch := (first | assumption | omega | (simp only [lenS, lenT, UInt64.reduceToNat]; try omega))) only [↓Sx.S0, Sx.S1, Tryz.fx, uWT_1, Nat.reduceAdd, Nat.reducePow, Int.reducePow, Nat.reduceBEq, ↓reduceIte, UInt8.reduceToNat, UInt16.reduceToNat, UInt32.reduceToNat, UInt64.reduceToNat, Int.reduceToNat]
  ((try with_reducible refine Cw.go [] ?_); (try simp (disch := (first | assumption | omega | (simp only [lenS, lenT, UInt64.reduceToNat]; try omega))) only [↓Sx.S0, Sx.S1, Tryz.fx, uWT_1, Nat.reduceAdd, Nat.reducePow, Int.reducePow, Nat.reduceBEq, ↓reduceIte, UInt8.reduceToNat, UInt16.reduceToNat, UInt32.reduceToNat, UInt64.reduceToNat, Int.reduceToNat]))
  refine Ow.build (.agg (a8 z32)) rfl (by kernel_rfl) ?_
  refine Ow.go rfl ?_
  simp (disch := (first | assumption | omega | (simp only [lenS, lenT, UInt64.reduceToNat]; try omega))) only [↓Sx.S0, Sx.S1, Tryz.fx, uWT_1, Nat.reduceAdd, Nat.reducePow, Int.reducePow, Nat.reduceBEq, ↓reduceIte, UInt8.reduceToNat, UInt16.reduceToNat, UInt32.reduceToNat, UInt64.reduceToNat, Int.reduceToNat]
  ((try with_reducible refine Cw.go [] ?_); (try simp (disch := (first | assumption | omega | (simp only [lenS, lenT, UInt64.reduceToNat]; try omega))) only [↓Sx.S0, Sx.S1, Tryz.fx, uWT_1, Nat.reduceAdd, Nat.reducePow, Int.reducePow, Nat.reduceBEq, ↓reduceIte, UInt8.reduceToNat, UInt16.reduceToNat, UInt32.reduceToNat, UInt64.reduceToNat, Int.reduceToNat]))
  refine Cw.loopG (G := SG) [12, 13, 14, 15, 18, 19, 20, 21, 22, 23, 24, 25, 26, 27, 28, 29, 30, 31, 32, 33, 34, 35, 36, 37, 38, 39, 40, 41, 5, 6, 42, 43, 44, 45, 46, 47, 48, 16, 17, 7] (fun g => [(5, g.v), (6, .bool g.dn), (7, vi g.g)]) (fun g => (bx, .cells (refC x).toArray 48 (0, 0)) :: g.D) (fun g => g.g ≤ l.length ∧ New (bx + 1) g.D ∧ Gr g.D 48 33 g.v g.o.length (g.o.map refC).flatten ∧ setR l x = g.o ++ setRG x (l.drop g.g) g.dn ∧ g.o.length ≤ g.g + (if g.dn = true then 1 else 0)) (fun g => l.length - g.g) ⟨0, x.id.l == z32, .slice none 0 0, [], []⟩ rfl rfl ?_ ?_
  · exact ⟨Nat.zero_le _, trivial, Gr.nl, rfl, by simp⟩
  intro g j hg
  simp only [overFrom, pin, setF_0, setF_s, List.contains_cons, List.contains_nil, Nat.reduceBEq, Bool.or_false, Bool.false_or, Bool.or_true, Bool.true_or, Nat.reduceAdd, ↓reduceIte, Bool.false_eq_true]
  obtain ⟨g, dn, v, o, D⟩ := g
  simp only at hg ⊢
  obtain ⟨hgl, hND, hGr, heq, hol⟩ := hg
  by_cases hlt : g < l.length
  · have hb1 := h1.has (by omega)
    have hb1l := h1.lt (by omega)
    have hD1 : b1 ∉ keys D := hND.not (by omega)
    have rd1 : readB w ((bx, Obj.cells (refC x).toArray 48 (0, 0)) :: D) b1 = some (.cells a1 E1 f1) := by
      rw [read_other _ _ _ _ _ (by omega), read_none hD1]; exact hb1
    have ldn : loadV (some (false, 1)) (some (.cells a1 E1 f1)) (o1 + g * 33) = some (vs (l.getD g ref0).name) := h1.cell (j := 0) (n := 1) hlt (by omega)
    have ld1 := h1.load refC_len (by omega) hlt
    have hdr : l.drop g = l.getD g ref0 :: l.drop (g + 1) := by
      rw [List.drop_eq_getElem_cons hlt, List.getD_eq_getElem?_getD, List.getElem?_eq_getElem hlt]; rfl
    rw [hdr, setRG] at heq
    generalize hpp : l.getD g ref0 = p at *
    ((try with_reducible refine Cw.go [] ?_); (try simp (disch := (first | assumption | omega | (simp only [lenS, lenT, UInt64.reduceToNat]; try omega))) only [↓Sx.S0, Sx.S1, Tryz.fx, uWT_1, Nat.reduceAdd, Nat.reducePow, Int.reducePow, Nat.reduceBEq, ↓reduceIte, UInt8.reduceToNat, UInt16.reduceToNat, UInt32.reduceToNat, UInt64.reduceToNat, Int.reduceToNat, h1.len]))
    refine Cw.regionS [b1, bx] [0, 1, 2, 3, 5, 4, 6, 7] [] (by kernel_rfl) (by kernel_rfl) (by kernel_rfl) ?_
    simp only [nl_cons, ↓pickL_nil, ↓pickL_cons, ↓nthO_0, ↓nthO_s, consO_some]
    refine Ow.goQ ?_
    simp (disch := (first | assumption | omega | (simp only [lenS, lenT, UInt64.reduceToNat]; try omega))) only [↓Sx.S0, Sx.S1, Tryz.fx, uWT_1, Nat.reduceAdd, Nat.reducePow, Int.reducePow, Nat.reduceBEq, ↓reduceIte, UInt8.reduceToNat, UInt16.reduceToNat, UInt32.reduceToNat, UInt64.reduceToNat, Int.reduceToNat, h1.idx, rd1, ldn]
    try with_reducible refine Ow.nil ?_
    cases hq : (p.name == x.name)
    · rw [hq] at heq
      simp only [Bool.false_eq_true, ↓reduceIte, Bool.or_false] at heq
      ((try with_reducible refine Cw.go [] ?_); (try simp (disch := (first | assumption | omega | (simp only [lenS, lenT, UInt64.reduceToNat]; try omega))) only [↓Sx.S0, Sx.S1, Tryz.fx, uWT_1, Nat.reduceAdd, Nat.reducePow, Int.reducePow, Nat.reduceBEq, ↓reduceIte, UInt8.reduceToNat, UInt16.reduceToNat, UInt32.reduceToNat, UInt64.reduceToNat, Int.reduceToNat]))
      have rdx : readB w ((bx, Obj.cells (refC x).toArray 48 (0, 0)) :: D) bx = some (.cells (refC x).toArray 48 (0, 0)) := read_same _ _ _ _
      cases dn
      · simp only [Bool.not_false, Bool.true_and] at heq
        simp only [Bool.false_eq_true, ↓reduceIte] at hol
        cases hlb : ltB p.name x.name
        · have hlb' : Op.bytesLess p.name x.name = false := hlb
          rw [hlb] at heq
          simp only [Bool.not_false, ↓reduceIte] at heq
          refine Cw.regionS [b1, bx] [0, 1, 2, 3, 4, 5, 6, 8, 7, 9, 10, 11] [] (by kernel_rfl) (by kernel_rfl) (by kernel_rfl) ?_
          simp only [nl_cons, ↓pickL_nil, ↓pickL_cons, ↓nthO_0, ↓nthO_s, consO_some]
          refine Ow.goQ ?_
          simp (disch := (first | assumption | omega | (simp only [lenS, lenT, UInt64.reduceToNat]; try omega))) only [↓Sx.S0, Sx.S1, Tryz.fx, uWT_1, Nat.reduceAdd, Nat.reducePow, Int.reducePow, Nat.reduceBEq, ↓reduceIte, UInt8.reduceToNat, UInt16.reduceToNat, UInt32.reduceToNat, UInt64.reduceToNat, Int.reduceToNat, h1.idx, rd1, ldn, hq, hlb']
          try with_reducible refine Ow.nil ?_
          ((try with_reducible refine Cw.go [] ?_); (try simp (disch := (first | assumption | omega | (simp only [lenS, lenT, UInt64.reduceToNat]; try omega))) only [↓Sx.S0, Sx.S1, Tryz.fx, uWT_1, Nat.reduceAdd, Nat.reducePow, Int.reducePow, Nat.reduceBEq, ↓reduceIte, UInt8.reduceToNat, UInt16.reduceToNat, UInt32.reduceToNat, UInt64.reduceToNat, Int.reduceToNat]))
          refine Ow.buildSlice (e := 48) (refC x).toArray rfl rfl (sliceRef x) fun b8 hb8 hwb8 => ?_
          have hxb8 : bx < b8 := above_to hb8 (by simp [keys])
          refine Ow.permL (M := D ++ ((bx, Obj.cells (refC x).toArray 48 (0, 0)) :: [(b8, Obj.cells (refC x).toArray 48 (0, 0))])) (by classical exact List.perm_iff_count.2 fun a => by simp only [List.count_append, List.count_cons, List.count_nil] <;> omega) ?_
          refine Ow.appendX (e := 48) (k := 1) (new := refC x) (X := D) v rfl rfl rfl rfl Tryz.underlying22 Tryz.ag48 (by kernel_rfl) zrRef (by rw [cells_ref, List.size_toArray, refC_len]) Tryz.underlying22 (by intro k h; cases h) hGr (fun w' hw' => AppX.one1 (hw'.has b8 (.cells (refC x).toArray 48 (0, 0)) (by simp)) (refC_len x) (refC_one x)) (by omega) (by omega) (fun B2 v2 D2 hA2 hB2 hbuf2 hk12 hk22 hlk2 => ?_)
          have hxB2 : bx < B2 := above_to hA2 (by simp [keys_app, keys])
          have hND2 : New (bx + 1) D2 := New.of_le fun q hq => by
            rcases hk22 q hq with h | h
            · exact hND.le q h
            · omega
          refine Ow.permL (M := (bx, Obj.cells (refC x).toArray 48 (0, 0)) :: (D2 ++ [(b8, Obj.cells (refC x).toArray 48 (0, 0))])) (by classical exact List.perm_iff_count.2 fun a => by simp only [List.count_append, List.count_cons, List.count_nil] <;> omega) ?_
          have hGr2 : Gr (D2 ++ [(b8, Obj.cells (refC x).toArray 48 (0, 0))]) 48 33 v2 _ _ := Gr.app (.inl hbuf2)
          have hNE2 : New (bx + 1) (D2 ++ [(b8, Obj.cells (refC x).toArray 48 (0, 0))]) := hND2.app ⟨by omega, trivial⟩
          generalize D2 ++ [(b8, Obj.cells (refC x).toArray 48 (0, 0))] = E2 at *
          have rd2 : readB w ((bx, Obj.cells (refC x).toArray 48 (0, 0)) :: E2) b1 = some (.cells a1 E1 f1) := by rw [read_other _ _ _ _ _ (by omega), read_none (hNE2.not (by omega))]; exact hb1
          refine Ow.go rfl ?_
          simp (disch := (first | assumption | omega | (simp only [lenS, lenT, UInt64.reduceToNat]; try omega))) only [↓Sx.S0, Sx.S1, Tryz.fx, uWT_1, Nat.reduceAdd, Nat.reducePow, Int.reducePow, Nat.reduceBEq, ↓reduceIte, UInt8.reduceToNat, UInt16.reduceToNat, UInt32.reduceToNat, UInt64.reduceToNat, Int.reduceToNat, h1.idx, rd2, ld1]
          ((try with_reducible refine Cw.go [] ?_); (try simp (disch := (first | assumption | omega | (simp only [lenS, lenT, UInt64.reduceToNat]; try omega))) only [↓Sx.S0, Sx.S1, Tryz.fx, uWT_1, Nat.reduceAdd, Nat.reducePow, Int.reducePow, Nat.reduceBEq, ↓reduceIte, UInt8.reduceToNat, UInt16.reduceToNat, UInt32.reduceToNat, UInt64.reduceToNat, Int.reduceToNat, h1.idx, rd2, ld1]))
          refine Ow.buildSlice (e := 48) (refC p).toArray rfl rfl (sliceRef p) fun b9 hb9 hwb9 => ?_
          have hxb9 : bx < b9 := above_to hb9 (by simp [keys])
          refine Ow.permL (M := E2 ++ ((bx, Obj.cells (refC x).toArray 48 (0, 0)) :: [(b9, Obj.cells (refC p).toArray 48 (0, 0))])) (by classical exact List.perm_iff_count.2 fun a => by simp only [List.count_append, List.count_cons, List.count_nil] <;> omega) ?_
          refine Ow.appendX (e := 48) (k := 1) (new := refC p) (X := E2) v2 rfl rfl rfl rfl Tryz.underlying22 Tryz.ag48 (by kernel_rfl) zrRef (by rw [cells_ref, List.size_toArray, refC_len]) Tryz.underlying22 (by intro k h; cases h) hGr2 (fun w' hw' => AppX.one1 (hw'.has b9 (.cells (refC p).toArray 48 (0, 0)) (by simp)) (refC_len p) (refC_one p)) (by omega) (by omega) (fun B3 v3 D3 hA3 hB3 hbuf3 hk13 hk23 hlk3 => ?_)
          have hxB3 : bx < B3 := above_to hA3 (by simp [keys_app, keys])
          have hND3 : New (bx + 1) D3 := New.of_le fun q hq => by
            rcases hk23 q hq with h | h
            · exact hNE2.le q h
            · omega
          refine Ow.permL (M := (bx, Obj.cells (refC x).toArray 48 (0, 0)) :: (D3 ++ [(b9, Obj.cells (refC p).toArray 48 (0, 0))])) (by classical exact List.perm_iff_count.2 fun a => by simp only [List.count_append, List.count_cons, List.count_nil] <;> omega) ?_
          have hGr3 : Gr (D3 ++ [(b9, Obj.cells (refC p).toArray 48 (0, 0))]) 48 33 v3 _ _ := Gr.app (.inl hbuf3)
          have hNE3 : New (bx + 1) (D3 ++ [(b9, Obj.cells (refC p).toArray 48 (0, 0))]) := hND3.app ⟨by omega, trivial⟩
          generalize D3 ++ [(b9, Obj.cells (refC p).toArray 48 (0, 0))] = E3 at *
          refine Ow.go rfl ?_
          simp (disch := (first | assumption | omega | (simp only [lenS, lenT, UInt64.reduceToNat]; try omega))) only [↓Sx.S0, Sx.S1, Tryz.fx, uWT_1, Nat.reduceAdd, Nat.reducePow, Int.reducePow, Nat.reduceBEq, ↓reduceIte, UInt8.reduceToNat, UInt16.reduceToNat, UInt32.reduceToNat, UInt64.reduceToNat, Int.reduceToNat]
          ((try with_reducible refine Cw.go [] ?_); (try simp (disch := (first | assumption | omega | (simp only [lenS, lenT, UInt64.reduceToNat]; try omega))) only [↓Sx.S0, Sx.S1, Tryz.fx, uWT_1, Nat.reduceAdd, Nat.reducePow, Int.reducePow, Nat.reduceBEq, ↓reduceIte, UInt8.reduceToNat, UInt16.reduceToNat, UInt32.reduceToNat, UInt64.reduceToNat, Int.reduceToNat]))
          refine Again.mk (SG.mk (g + 1) true v3 (o ++ [x] ++ [p]) E3) (by show l.length - (g + 1) < l.length - g; omega) ⟨by show g + 1 ≤ l.length; omega, hNE3, ?_, by show setR l x = o ++ [x] ++ [p] ++ setRG x (l.drop (g + 1)) true; rw [heq]; simp, by simp; omega⟩ rfl rfl
          · show Gr E3 48 33 v3 (o ++ [x] ++ [p]).length (((o ++ [x] ++ [p])).map refC).flatten
            simpa using hGr3
        · have hlb' : Op.bytesLess p.name x.name = true := hlb
          rw [hlb] at heq
          simp only [Bool.not_true, Bool.false_eq_true, ↓reduceIte] at heq
          refine Cw.regionS [b1, bx] [0, 1, 2, 3, 4, 5, 6, 8, 7, 9, 10, 11] [] (by kernel_rfl) (by kernel_rfl) (by kernel_rfl) ?_
          simp only [nl_cons, ↓pickL_nil, ↓pickL_cons, ↓nthO_0, ↓nthO_s, consO_some]
          refine Ow.goQ ?_
          simp (disch := (first | assumption | omega | (simp only [lenS, lenT, UInt64.reduceToNat]; try omega))) only [↓Sx.S0, Sx.S1, Tryz.fx, uWT_1, Nat.reduceAdd, Nat.reducePow, Int.reducePow, Nat.reduceBEq, ↓reduceIte, UInt8.reduceToNat, UInt16.reduceToNat, UInt32.reduceToNat, UInt64.reduceToNat, Int.reduceToNat, h1.idx, rd1, ldn, hq, hlb']
          try with_reducible refine Ow.nil ?_
          ((try with_reducible refine Cw.go [] ?_); (try simp (disch := (first | assumption | omega | (simp only [lenS, lenT, UInt64.reduceToNat]; try omega))) only [↓Sx.S0, Sx.S1, Tryz.fx, uWT_1, Nat.reduceAdd, Nat.reducePow, Int.reducePow, Nat.reduceBEq, ↓reduceIte, UInt8.reduceToNat, UInt16.reduceToNat, UInt32.reduceToNat, UInt64.reduceToNat, Int.reduceToNat, h1.idx, rd1, ld1]))
          refine Ow.buildSlice (e := 48) (refC p).toArray rfl rfl (sliceRef p) fun b9 hb9 hwb9 => ?_
          have hxb9 : bx < b9 := above_to hb9 (by simp [keys])
          refine Ow.permL (M := D ++ ((bx, Obj.cells (refC x).toArray 48 (0, 0)) :: [(b9, Obj.cells (refC p).toArray 48 (0, 0))])) (by classical exact List.perm_iff_count.2 fun a => by simp only [List.count_append, List.count_cons, List.count_nil] <;> omega) ?_
          refine Ow.appendX (e := 48) (k := 1) (new := refC p) (X := D) v rfl rfl rfl rfl Tryz.underlying22 Tryz.ag48 (by kernel_rfl) zrRef (by rw [cells_ref, List.size_toArray, refC_len]) Tryz.underlying22 (by intro k h; cases h) hGr (fun w' hw' => AppX.one1 (hw'.has b9 (.cells (refC p).toArray 48 (0, 0)) (by simp)) (refC_len p) (refC_one p)) (by omega) (by omega) (fun B3 v3 D3 hA3 hB3 hbuf3 hk13 hk23 hlk3 => ?_)
          have hxB3 : bx < B3 := above_to hA3 (by simp [keys_app, keys])
          have hND3 : New (bx + 1) D3 := New.of_le fun q hq => by
            rcases hk23 q hq with h | h
            · exact hND.le q h
            · omega
          refine Ow.permL (M := (bx, Obj.cells (refC x).toArray 48 (0, 0)) :: (D3 ++ [(b9, Obj.cells (refC p).toArray 48 (0, 0))])) (by classical exact List.perm_iff_count.2 fun a => by simp only [List.count_append, List.count_cons, List.count_nil] <;> omega) ?_
          have hGr3 : Gr (D3 ++ [(b9, Obj.cells (refC p).toArray 48 (0, 0))]) 48 33 v3 _ _ := Gr.app (.inl hbuf3)
          have hNE3 : New (bx + 1) (D3 ++ [(b9, Obj.cells (refC p).toArray 48 (0, 0))]) := hND3.app ⟨by omega, trivial⟩
          generalize D3 ++ [(b9, Obj.cells (refC p).toArray 48 (0, 0))] = E3 at *
          refine Ow.go rfl ?_
          simp (disch := (first | assumption | omega | (simp only [lenS, lenT, UInt64.reduceToNat]; try omega))) only [↓Sx.S0, Sx.S1, Tryz.fx, uWT_1, Nat.reduceAdd, Nat.reducePow, Int.reducePow, Nat.reduceBEq, ↓reduceIte, UInt8.reduceToNat, UInt16.reduceToNat, UInt32.reduceToNat, UInt64.reduceToNat, Int.reduceToNat]
          ((try with_reducible refine Cw.go [] ?_); (try simp (disch := (first | assumption | omega | (simp only [lenS, lenT, UInt64.reduceToNat]; try omega))) only [↓Sx.S0, Sx.S1, Tryz.fx, uWT_1, Nat.reduceAdd, Nat.reducePow, Int.reducePow, Nat.reduceBEq, ↓reduceIte, UInt8.reduceToNat, UInt16.reduceToNat, UInt32.reduceToNat, UInt64.reduceToNat, Int.reduceToNat]))
          refine Again.mk (SG.mk (g + 1) false v3 (o ++ [p]) E3) (by show l.length - (g + 1) < l.length - g; omega) ⟨by show g + 1 ≤ l.length; omega, hNE3, ?_, by show setR l x = o ++ [p] ++ setRG x (l.drop (g + 1)) false; rw [heq]; simp, by simp; omega⟩ rfl rfl
          · show Gr E3 48 33 v3 (o ++ [p]).length (((o ++ [p])).map refC).flatten
            simpa using hGr3
      · simp only [Bool.not_true, Bool.false_and, Bool.false_eq_true, ↓reduceIte] at heq
        simp only [↓reduceIte] at hol
        refine Cw.regionS [b1, bx] [0, 1, 2, 3, 4, 5, 6, 8, 7, 9, 10, 11] [] (by kernel_rfl) (by kernel_rfl) (by kernel_rfl) ?_
        simp only [nl_cons, ↓pickL_nil, ↓pickL_cons, ↓nthO_0, ↓nthO_s, consO_some]
        refine Ow.goQ ?_
        simp (disch := (first | assumption | omega | (simp only [lenS, lenT, UInt64.reduceToNat]; try omega))) only [↓Sx.S0, Sx.S1, Tryz.fx, uWT_1, Nat.reduceAdd, Nat.reducePow, Int.reducePow, Nat.reduceBEq, ↓reduceIte, UInt8.reduceToNat, UInt16.reduceToNat, UInt32.reduceToNat, UInt64.reduceToNat, Int.reduceToNat, h1.idx, rd1, ldn, hq]
        try with_reducible refine Ow.nil ?_
        ((try with_reducible refine Cw.go [] ?_); (try simp (disch := (first | assumption | omega | (simp only [lenS, lenT, UInt64.reduceToNat]; try omega))) only [↓Sx.S0, Sx.S1, Tryz.fx, uWT_1, Nat.reduceAdd, Nat.reducePow, Int.reducePow, Nat.reduceBEq, ↓reduceIte, UInt8.reduceToNat, UInt16.reduceToNat, UInt32.reduceToNat, UInt64.reduceToNat, Int.reduceToNat, h1.idx, rd1, ld1]))
        refine Ow.buildSlice (e := 48) (refC p).toArray rfl rfl (sliceRef p) fun b9 hb9 hwb9 => ?_
        have hxb9 : bx < b9 := above_to hb9 (by simp [keys])
        refine Ow.permL (M := D ++ ((bx, Obj.cells (refC x).toArray 48 (0, 0)) :: [(b9, Obj.cells (refC p).toArray 48 (0, 0))])) (by classical exact List.perm_iff_count.2 fun a => by simp only [List.count_append, List.count_cons, List.count_nil] <;> omega) ?_
        refine Ow.appendX (e := 48) (k := 1) (new := refC p) (X := D) v rfl rfl rfl rfl Tryz.underlying22 Tryz.ag48 (by kernel_rfl) zrRef (by rw [cells_ref, List.size_toArray, refC_len]) Tryz.underlying22 (by intro k h; cases h) hGr (fun w' hw' => AppX.one1 (hw'.has b9 (.cells (refC p).toArray 48 (0, 0)) (by simp)) (refC_len p) (refC_one p)) (by omega) (by omega) (fun B3 v3 D3 hA3 hB3 hbuf3 hk13 hk23 hlk3 => ?_)
        have hxB3 : bx < B3 := above_to hA3 (by simp [keys_app, keys])
        have hND3 : New (bx + 1) D3 := New.of_le fun q hq => by
          rcases hk23 q hq with h | h
          · exact hND.le q h
          · omega
        refine Ow.permL (M := (bx, Obj.cells (refC x).toArray 48 (0, 0)) :: (D3 ++ [(b9, Obj.cells (refC p).toArray 48 (0, 0))])) (by classical exact List.perm_iff_count.2 fun a => by simp only [List.count_append, List.count_cons, List.count_nil] <;> omega) ?_
        have hGr3 : Gr (D3 ++ [(b9, Obj.cells (refC p).toArray 48 (0, 0))]) 48 33 v3 _ _ := Gr.app (.inl hbuf3)
        have hNE3 : New (bx + 1) (D3 ++ [(b9, Obj.cells (refC p).toArray 48 (0, 0))]) := hND3.app ⟨by omega, trivial⟩
        generalize D3 ++ [(b9, Obj.cells (refC p).toArray 48 (0, 0))] = E3 at *
        refine Ow.go rfl ?_
        simp (disch := (first | assumption | omega | (simp only [lenS, lenT, UInt64.reduceToNat]; try omega))) only [↓Sx.S0, Sx.S1, Tryz.fx, uWT_1, Nat.reduceAdd, Nat.reducePow, Int.reducePow, Nat.reduceBEq, ↓reduceIte, UInt8.reduceToNat, UInt16.reduceToNat, UInt32.reduceToNat, UInt64.reduceToNat, Int.reduceToNat]
        ((try with_reducible refine Cw.go [] ?_); (try simp (disch := (first | assumption | omega | (simp only [lenS, lenT, UInt64.reduceToNat]; try omega))) only [↓Sx.S0, Sx.S1, Tryz.fx, uWT_1, Nat.reduceAdd, Nat.reducePow, Int.reducePow, Nat.reduceBEq, ↓reduceIte, UInt8.reduceToNat, UInt16.reduceToNat, UInt32.reduceToNat, UInt64.reduceToNat, Int.reduceToNat]))
        refine Again.mk (SG.mk (g + 1) true v3 (o ++ [p]) E3) (by show l.length - (g + 1) < l.length - g; omega) ⟨by show g + 1 ≤ l.length; omega, hNE3, ?_, by show setR l x = o ++ [p] ++ setRG x (l.drop (g + 1)) true; rw [heq]; simp, by simp; omega⟩ rfl rfl
        · show Gr E3 48 33 v3 (o ++ [p]).length (((o ++ [p])).map refC).flatten
          simpa using hGr3
    · rw [hq] at heq
      simp only [↓reduceIte] at heq
      ((try with_reducible refine Cw.go [] ?_); (try simp (disch := (first | assumption | omega | (simp only [lenS, lenT, UInt64.reduceToNat]; try omega))) only [↓Sx.S0, Sx.S1, Tryz.fx, uWT_1, Nat.reduceAdd, Nat.reducePow, Int.reducePow, Nat.reduceBEq, ↓reduceIte, UInt8.reduceToNat, UInt16.reduceToNat, UInt32.reduceToNat, UInt64.reduceToNat, Int.reduceToNat]))
      exact Again.mk (SG.mk (g + 1) dn v o D) (by show l.length - (g + 1) < l.length - g; omega) ⟨by show g + 1 ≤ l.length; omega, hND, hGr, heq, Nat.le_trans hol (Nat.add_le_add_right (Nat.le_succ g) _)⟩ rfl rfl
  · obtain rfl : g = l.length := by omega
    rw [List.drop_length, setRG] at heq
    have rdx : readB w ((bx, Obj.cells (refC x).toArray 48 (0, 0)) :: D) bx = some (.cells (refC x).toArray 48 (0, 0)) := read_same _ _ _ _
    ((try with_reducible refine Cw.go [] ?_); (try simp (disch := (first | assumption | omega | (simp only [lenS, lenT, UInt64.reduceToNat]; try omega))) only [↓Sx.S0, Sx.S1, Tryz.fx, uWT_1, Nat.reduceAdd, Nat.reducePow, Int.reducePow, Nat.reduceBEq, ↓reduceIte, UInt8.reduceToNat, UInt16.reduceToNat, UInt32.reduceToNat, UInt64.reduceToNat, Int.reduceToNat, h1.len]))
    have hol2 : o.length ≤ l.length + 1 := by cases dn <;> simp at hol <;> omega
    cases dn
    · simp only [Bool.false_eq_true, ↓reduceIte] at heq
      ((try with_reducible refine Cw.go [] ?_); (try simp (disch := (first | assumption | omega | (simp only [lenS, lenT, UInt64.reduceToNat]; try omega))) only [↓Sx.S0, Sx.S1, Tryz.fx, uWT_1, Nat.reduceAdd, Nat.reducePow, Int.reducePow, Nat.reduceBEq, ↓reduceIte, UInt8.reduceToNat, UInt16.reduceToNat, UInt32.reduceToNat, UInt64.reduceToNat, Int.reduceToNat]))
      refine Ow.buildSlice (e := 48) (refC x).toArray rfl rfl (sliceRef x) fun b8 hb8 hwb8 => ?_
      have hxb8 : bx < b8 := above_to hb8 (by simp [keys])
      refine Ow.permL (M := D ++ ((bx, Obj.cells (refC x).toArray 48 (0, 0)) :: [(b8, Obj.cells (refC x).toArray 48 (0, 0))])) (by classical exact List.perm_iff_count.2 fun a => by simp only [List.count_append, List.count_cons, List.count_nil] <;> omega) ?_
      refine Ow.appendX (e := 48) (k := 1) (new := refC x) (X := D) v rfl rfl rfl rfl Tryz.underlying22 Tryz.ag48 (by kernel_rfl) zrRef (by rw [cells_ref, List.size_toArray, refC_len]) Tryz.underlying22 (by intro k h; cases h) hGr (fun w' hw' => AppX.one1 (hw'.has b8 (.cells (refC x).toArray 48 (0, 0)) (by simp)) (refC_len x) (refC_one x)) (by omega) (by omega) (fun B2 v2 D2 hA2 hB2 hbuf2 hk12 hk22 hlk2 => ?_)
      have hxB2 : bx < B2 := above_to hA2 (by simp [keys_app, keys])
      have hND2 : New (bx + 1) D2 := New.of_le fun q hq => by
        rcases hk22 q hq with h | h
        · exact hND.le q h
        · omega
      refine Ow.permL (M := (bx, Obj.cells (refC x).toArray 48 (0, 0)) :: (D2 ++ [(b8, Obj.cells (refC x).toArray 48 (0, 0))])) (by classical exact List.perm_iff_count.2 fun a => by simp only [List.count_append, List.count_cons, List.count_nil] <;> omega) ?_
      have hGr2 : Gr (D2 ++ [(b8, Obj.cells (refC x).toArray 48 (0, 0))]) 48 33 v2 _ _ := Gr.app (.inl hbuf2)
      have hNE2 : New (bx + 1) (D2 ++ [(b8, Obj.cells (refC x).toArray 48 (0, 0))]) := hND2.app ⟨by omega, trivial⟩
      generalize D2 ++ [(b8, Obj.cells (refC x).toArray 48 (0, 0))] = E2 at *
      refine Ow.go rfl ?_
      simp (disch := (first | assumption | omega | (simp only [lenS, lenT, UInt64.reduceToNat]; try omega))) only [↓Sx.S0, Sx.S1, Tryz.fx, uWT_1, Nat.reduceAdd, Nat.reducePow, Int.reducePow, Nat.reduceBEq, ↓reduceIte, UInt8.reduceToNat, UInt16.reduceToNat, UInt32.reduceToNat, UInt64.reduceToNat, Int.reduceToNat]
      ((try with_reducible refine Cw.go [] ?_); (try simp (disch := (first | assumption | omega | (simp only [lenS, lenT, UInt64.reduceToNat]; try omega))) only [↓Sx.S0, Sx.S1, Tryz.fx, uWT_1, Nat.reduceAdd, Nat.reducePow, Int.reducePow, Nat.reduceBEq, ↓reduceIte, UInt8.reduceToNat, UInt16.reduceToNat, UInt32.reduceToNat, UInt64.reduceToNat, Int.reduceToNat]))
      refine ⟨_, (by simp (disch := (first | assumption | omega | (simp only [lenS, lenT, UInt64.reduceToNat]; try omega))) only [↓Sx.S0, Sx.S1, Tryz.fx, uWT_1, Nat.reduceAdd, Nat.reducePow, Int.reducePow, Nat.reduceBEq, ↓reduceIte, UInt8.reduceToNat, UInt16.reduceToNat, UInt32.reduceToNat, UInt64.reduceToNat, Int.reduceToNat]; rfl), ?_⟩
      refine ⟨Ext.of_new ⟨hwx, hNE2.mono (by omega)⟩, ?_⟩
      rw [heq]
      refine Gr.i (X := E2) ?_ (fun q hq => by simp [hq])
      simpa [tupV] using hGr2
    · simp only [↓reduceIte, List.append_nil] at heq
      ((try with_reducible refine Cw.go [] ?_); (try simp (disch := (first | assumption | omega | (simp only [lenS, lenT, UInt64.reduceToNat]; try omega))) only [↓Sx.S0, Sx.S1, Tryz.fx, uWT_1, Nat.reduceAdd, Nat.reducePow, Int.reducePow, Nat.reduceBEq, ↓reduceIte, UInt8.reduceToNat, UInt16.reduceToNat, UInt32.reduceToNat, UInt64.reduceToNat, Int.reduceToNat]))
      refine ⟨_, (by simp (disch := (first | assumption | omega | (simp only [lenS, lenT, UInt64.reduceToNat]; try omega))) only [↓Sx.S0, Sx.S1, Tryz.fx, uWT_1, Nat.reduceAdd, Nat.reducePow, Int.reducePow, Nat.reduceBEq, ↓reduceIte, UInt8.reduceToNat, UInt16.reduceToNat, UInt32.reduceToNat, UInt64.reduceToNat, Int.reduceToNat]; rfl), ?_⟩
      refine ⟨Ext.of_new ⟨hwx, hND.mono (by omega)⟩, ?_⟩
      rw [heq]
      exact hGr.i fun q hq => by simp [hq]
end Go.Proofs
end
section
open Go Go.Proofs Go.Sx Go.RefP
namespace Go.Proofs
set_option maxRecDepth 10000
set_option maxHeartbeats 4000000
set_option linter.unusedSimpArgs false
theorem leq_lt (a b : List UInt8) : (Op.bytesLess a b || a == b) = !(ltB b a) := by
  cases h : ltB b a
  · cases h2 : (a == b)
    · have hne : a ≠ b := by simpa using h2
      have : ltB a b = true := ltB_total h (fun e => hne e.symm)
      show (ltB a b || false) = true
      rw [this]; rfl
    · simp
  · have h1 : ltB a b = false := ltB_asymm h
    have h2 : (a == b) = false := by
      rw [beq_eq_false_iff_ne]; exact fun e => ltB_ne h e.symm
    show (ltB a b || _) = false
    rw [h1, h2]; rfl
/-- The document's values behind some of the log. -/
def logR (l t : List RefL) : Nat → Option (List RefL)
  | 0 => some t
  | g + 1 => (logR l t g).bind fun m => if (nameV (l.getD g ref0).name && decide ((setR m (l.getD g ref0)).length ≤ 16)) = true then some (setR m (l.getD g ref0)) else none
def tabOkR (t : List RefL) : Bool := tabAll nameV z32 (prs t)
def valR (t l : List RefL) (k : Nat) : Option (List RefL) := if t.length ≤ 16 ∧ l.length ≤ 100 ∧ tabOkR t = true then logR l t k else none
theorem logR_prs (l t : List RefL) : ∀ k, k ≤ l.length → (logR l t k).map prs = logL nameV z32 (prs l) (prs t) k
  | 0, _ => rfl
  | k + 1, hk => by
    have ih := logR_prs l t k (by omega)
    unfold logR logL
    rw [← ih]
    cases logR l t k with
    | none => rfl
    | some m =>
      simp only [Option.bind_some, Option.map_some]
      rw [prs_getD l k hk, ← prs_setR, prs_len]
      split <;> rfl
theorem valR_prs (t l : List RefL) (k : Nat) (hk : k ≤ l.length) : (valR t l k).map prs = ofL nameV z32 (prs t) (prs l) k := by
  unfold valR ofL
  rw [prs_len, prs_len]
  by_cases h : t.length ≤ 16 ∧ l.length ≤ 100 ∧ tabOkR t = true
  · rw [if_pos h, if_pos (show _ ∧ _ ∧ tabAll nameV z32 (prs t) = true from h)]; exact logR_prs l t k hk
  · rw [if_neg h, if_neg (show ¬ (_ ∧ _ ∧ tabAll nameV z32 (prs t) = true) from h)]; rfl
theorem valR_right (t l : List RefL) : (valR t l l.length).isSome = rightB t l := by
  unfold rightB
  rw [right_eq, rightL, prs_len, ← valR_prs t l l.length (Nat.le_refl _)]
  cases valR t l l.length <;> rfl
theorem logR_stop {l t : List RefL} {g : Nat} (h : logR l t g = none) : ∀ k, g ≤ k → logR l t k = none := by
  intro k hk
  induction hk with
  | refl => exact h
  | step _ ih => unfold logR; rw [ih]; rfl
theorem logR_step {l t m : List RefL} {g : Nat} (h : logR l t g = some m) : logR l t (g + 1) = if (nameV (l.getD g ref0).name && decide ((setR m (l.getD g ref0)).length ≤ 16)) = true then some (setR m (l.getD g ref0)) else none := by
  rw [logR, h]; rfl
theorem tabOkR_iff (t : List RefL) : tabOkR t = true ↔ ∀ i, i < t.length → tabOk nameV z32 (prs t) i = true := by
  unfold tabOkR tabAll; rw [List.all_eq_true, prs_len]; simp
/-- What Values hands back. -/
def ValsS (t l : List RefL) (k : Nat) (v : Value) (D : Heap) : Prop :=
  match valR t l k with
  | some ls => ∃ x, v = .tuple #[x, .bool true] ∧ GrI D 48 33 x ls.length (ls.map refC).flatten
  | none => v = .tuple #[.slice none 0 0, .bool false]
theorem ValsS.no {t l : List RefL} {k : Nat} {D : Heap} (h : valR t l k = none) : ValsS t l k (.tuple #[.slice none 0 0, .bool false]) D := by unfold ValsS; rw [h]
structure VG where
  g : Nat
  v : Value
  ls : List RefL
  D : Heap
theorem refNameV_spec (s : List UInt8) (w : World) (hs : s.length < 1099511627776) :
    Rets Tryz.prog 19 #[vs s] w (fun v D => v = .bool (nameV s) ∧ D = []) := refName_spec s w hs
set_option linter.defProp false
def uWU_1 := And.intro (And.intro (And.intro (And.intro (@rdIn_v8) (@rdIn_v16)) (And.intro (@rdIn_v32) (@rdIn_v64))) (And.intro (And.intro (@rdIn_vi) (@load_ref0)) (And.intro (@load_ref1) (@cells_ref)))) (And.intro (And.intro (And.intro (@eqIdz) (@store_rr)) (And.intro (@load_ref) (@load_bk0))) (And.intro (And.intro (@load_bk1) (@load_bk)) (And.intro (@tup2_0) (@tup2_1))))
theorem Values_spec (vt vl : Value) (t l : List RefL) (k : Nat) (w : World) (ht : RefSl w vt t) (hl : RefSl w vl l) (htl : t.length < 1000000) (hll : l.length < 1000000) (hk : k ≤ l.length) (hnt : ShortN t) (hnl : ShortN l) :
    Rets Tryz.prog 6 #[.agg #[vt, vl], vi k] w (XS w [] (ValsS t l k)) := by
  refine Rets.enterX Tryz.func6 rfl (rs := [.tmp 4, .tmp 5]) Tryz.results6 Tryz.ntmps6 (fun p hp => by cases hp) (by simp [keys]) ?_
  simp only [List.size_toArray, List.length_cons, List.length_nil, Nat.reduceAdd, Nat.reduceSub, List.replicate_succ, List.replicate_zero, List.cons_append, List.nil_append]
  ((try with_reducible refine Cw.go [] ?_); (try simp (disch := (first | assumption | omega | (simp only [lenS, lenT, UInt64.reduceToNat]; try omega))) only [↓Sx.S0, Sx.S1, Tryz.fx, uWU_1, Nat.reduceAdd, Nat.reducePow, Int.reducePow, Nat.reduceBEq, ↓reduceIte, UInt8.reduceToNat, UInt16.reduceToNat, UInt32.reduceToNat, UInt64.reduceToNat, Int.reduceToNat]))
  refine Ow.box rfl rfl fun bx hbx hwx => ?_
  simp only [ev_tmp, getF_0, getF_s, cells_agg, List.nil_append, List.cons_append]
  refine Ow.go rfl ?_
  simp (disch := (first | assumption | omega | (simp only [lenS, lenT, UInt64.reduceToNat]; try omega))) only [↓Sx.S0, Sx.S1, Tryz.fx, uWU_1, Nat.reduceAdd, Nat.reducePow, Int.reducePow, Nat.reduceBEq, ↓reduceIte, UInt8.reduceToNat, UInt16.reduceToNat, UInt32.reduceToNat, UInt64.reduceToNat, Int.reduceToNat]
  by_cases h16 : t.length ≤ 16
  · have hd16 : decide ((16 : Int) < (t.length : Int)) = false := by simp; omega
    by_cases h100 : l.length ≤ 100
    · have hd100 : decide ((100 : Int) < (l.length : Int)) = false := by simp; omega
      obtain ⟨b1, o1, a1, E1, f1, h1⟩ := ht.row
      ((try with_reducible refine Cw.go [] ?_); (try simp (disch := (first | assumption | omega | (simp only [lenS, lenT, UInt64.reduceToNat]; try omega))) only [↓Sx.S0, Sx.S1, Tryz.fx, uWU_1, Nat.reduceAdd, Nat.reducePow, Int.reducePow, Nat.reduceBEq, ↓reduceIte, UInt8.reduceToNat, UInt16.reduceToNat, UInt32.reduceToNat, UInt64.reduceToNat, Int.reduceToNat, ht.len, hl.len, hd16, hd100]))
      refine Cw.loopG (G := Nat) [19, 20, 21, 22, 23, 26, 27, 28, 29, 30, 31, 32, 33, 34, 35, 36, 37, 38, 39, 40, 41, 42, 43, 44, 45, 46, 47, 48, 49, 50, 51, 52, 53, 54, 55, 56, 57, 58, 59, 60, 61, 62, 63, 4, 5, 24, 25, 6] (fun g => [(6, vi g)]) (fun g => [(bx, .cells #[vt, vl] 24 (0, 0))]) (fun g => g ≤ t.length ∧ ∀ i, i < g → tabOk nameV z32 (prs t) i = true) (fun g => t.length - g) 0 rfl rfl ?_ ?_
      · exact ⟨Nat.zero_le _, fun i hi => by omega⟩
      intro g j hg
      simp only [overFrom, pin, setF_0, setF_s, List.contains_cons, List.contains_nil, Nat.reduceBEq, Bool.or_false, Bool.false_or, Bool.or_true, Bool.true_or, Nat.reduceAdd, ↓reduceIte, Bool.false_eq_true]
      obtain ⟨hgl, hall⟩ := hg
      by_cases hlt : g < t.length
      · have hb1 := h1.has (by omega)
        have hb1l := h1.lt (by omega)
        have ldn : loadV (some (false, 1)) (some (.cells a1 E1 f1)) (o1 + g * 33) = some (vs (t.getD g ref0).name) := h1.cell (j := 0) (n := 1) hlt (by omega)
        have ldi : loadV (some (true, 32)) (some (.cells a1 E1 f1)) (o1 + g * 33 + 1) = some (.agg (a8 (t.getD g ref0).id.l)) := by
          rw [RowS.part h1 refC_len hlt (by omega) (by omega), ref_ext]
        have hnm := hnt g hlt
        have hpg := prs_getD t g hlt
        generalize hr : t.getD g ref0 = r at *
        have hil := r.id.h
        ((try with_reducible refine Cw.go [] ?_); (try simp (disch := (first | assumption | omega | (simp only [lenS, lenT, UInt64.reduceToNat]; try omega))) only [↓Sx.S0, Sx.S1, Tryz.fx, uWU_1, Nat.reduceAdd, Nat.reducePow, Int.reducePow, Nat.reduceBEq, ↓reduceIte, UInt8.reduceToNat, UInt16.reduceToNat, UInt32.reduceToNat, UInt64.reduceToNat, Int.reduceToNat, ht.len]))
        refine Cw.regionS [b1, bx] [0, 2, 1, 3, 4, 5, 6, 7, 8, 9, 11, 15, 10, 12, 13, 14, 16, 17, 18, 19, 20, 21, 22, 24, 28, 30, 31, 23, 25, 26, 27, 29, 32, 33, 34, 35, 36, 37] [] (by kernel_rfl) (by kernel_rfl) (by kernel_rfl) ?_
        simp only [nl_cons, ↓pickL_nil, ↓pickL_cons, ↓nthO_0, ↓nthO_s, consO_some]
        refine Ow.goQ ?_
        simp (disch := (first | assumption | omega | (simp only [lenS, lenT, UInt64.reduceToNat]; try omega))) only [↓Sx.S0, Sx.S1, Tryz.fx, uWU_1, Nat.reduceAdd, Nat.reducePow, Int.reducePow, Nat.reduceBEq, ↓reduceIte, UInt8.reduceToNat, UInt16.reduceToNat, UInt32.reduceToNat, UInt64.reduceToNat, Int.reduceToNat, h1.idx, hb1, ldn]
        refine Ow.callFV rfl Tryz.call19 (fun w' hw' => refNameV_spec r.name w' hnm) ?_
        cases hn : nameV r.name
        · have hok : tabOk nameV z32 (prs t) g = false := by unfold tabOk; rw [hpg]; simp only [hn, Bool.false_and]
          refine Ow.goQ ?_
          simp (disch := (first | assumption | omega | (simp only [lenS, lenT, UInt64.reduceToNat]; try omega))) only [↓Sx.S0, Sx.S1, Tryz.fx, uWU_1, Nat.reduceAdd, Nat.reducePow, Int.reducePow, Nat.reduceBEq, ↓reduceIte, UInt8.reduceToNat, UInt16.reduceToNat, UInt32.reduceToNat, UInt64.reduceToNat, Int.reduceToNat]
          try with_reducible refine Ow.nil ?_
          ((try with_reducible refine Cw.go [] ?_); (try simp (disch := (first | assumption | omega | (simp only [lenS, lenT, UInt64.reduceToNat]; try omega))) only [↓Sx.S0, Sx.S1, Tryz.fx, uWU_1, Nat.reduceAdd, Nat.reducePow, Int.reducePow, Nat.reduceBEq, ↓reduceIte, UInt8.reduceToNat, UInt16.reduceToNat, UInt32.reduceToNat, UInt64.reduceToNat, Int.reduceToNat]))
          refine ⟨_, (by simp (disch := (first | assumption | omega | (simp only [lenS, lenT, UInt64.reduceToNat]; try omega))) only [↓Sx.S0, Sx.S1, Tryz.fx, uWU_1, Nat.reduceAdd, Nat.reducePow, Int.reducePow, Nat.reduceBEq, ↓reduceIte, UInt8.reduceToNat, UInt16.reduceToNat, UInt32.reduceToNat, UInt64.reduceToNat, Int.reduceToNat]; rfl), ?_⟩
          exact ⟨Ext.of_new ⟨hwx, trivial⟩, ValsS.no (by unfold valR; rw [if_neg (fun h => by have := (tabOkR_iff t).1 h.2.2 g hlt; rw [hok] at this; cases this)])⟩
        · refine Ow.goQ ?_
          simp (disch := (first | assumption | omega | (simp only [lenS, lenT, UInt64.reduceToNat]; try omega))) only [↓Sx.S0, Sx.S1, Tryz.fx, uWU_1, Nat.reduceAdd, Nat.reducePow, Int.reducePow, Nat.reduceBEq, ↓reduceIte, UInt8.reduceToNat, UInt16.reduceToNat, UInt32.reduceToNat, UInt64.reduceToNat, Int.reduceToNat, h1.idx, hb1, ldi]
          refine Ow.build (.agg (a8 z32)) rfl (by kernel_rfl) ?_
          cases hz : (r.id.l == z32)
          · by_cases h0 : g = 0
            · have hd : decide ((0 : Int) < (g : Int)) = false := by simp [h0]
              have hok : tabOk nameV z32 (prs t) g = true := by unfold tabOk; rw [hpg]; simp only [hn, hz, h0, beq_self_eq_true, Bool.true_or, Bool.not_false, Bool.and_self]
              refine Ow.goQ ?_
              simp (disch := (first | assumption | omega | (simp only [lenS, lenT, UInt64.reduceToNat]; try omega))) only [↓Sx.S0, Sx.S1, Tryz.fx, uWU_1, Nat.reduceAdd, Nat.reducePow, Int.reducePow, Nat.reduceBEq, ↓reduceIte, UInt8.reduceToNat, UInt16.reduceToNat, UInt32.reduceToNat, UInt64.reduceToNat, Int.reduceToNat, hz, hd, h1.idx, hb1, ldi]
              try with_reducible refine Ow.nil ?_
              ((try with_reducible refine Cw.go [] ?_); (try simp (disch := (first | assumption | omega | (simp only [lenS, lenT, UInt64.reduceToNat]; try omega))) only [↓Sx.S0, Sx.S1, Tryz.fx, uWU_1, Nat.reduceAdd, Nat.reducePow, Int.reducePow, Nat.reduceBEq, ↓reduceIte, UInt8.reduceToNat, UInt16.reduceToNat, UInt32.reduceToNat, UInt64.reduceToNat, Int.reduceToNat]))
              refine Again.mk (g + 1) (by omega) ⟨hlt, fun i hi => ?_⟩ rfl rfl
              by_cases e : i = g
              · rw [e]; exact hok
              · exact hall i (by omega)
            · have hd : decide ((0 : Int) < (g : Int)) = true := by simp; omega
              have ld2 : loadV (some (false, 1)) (some (.cells a1 E1 f1)) (o1 + (g - 1) * 33) = some (vs (t.getD (g - 1) ref0).name) := h1.cell (j := 0) (n := 1) (show g - 1 < t.length by omega) (by omega)
              have hix : indexAddrV (.sl (true, 33)) vt (some ((g : Int) - 1)) = some (vp b1 (o1 + (g - 1) * 33)) := by
                have := h1.idx true (g - 1) (by omega)
                rw [show ((g - 1 : Nat) : Int) = (g : Int) - 1 by omega] at this
                exact this
              have hpp := prs_getD t (g - 1) (show g - 1 < t.length by omega)
              have hg0 : (g == 0) = false := by simpa using h0
              have hok0 : tabOk nameV z32 (prs t) g = ltB (t.getD (g - 1) ref0).name r.name := by unfold tabOk; rw [hpg, hpp]; simp only [hn, hz, hg0, Bool.false_or, Bool.not_false, Bool.true_and]
              have hleq := leq_lt r.name (t.getD (g - 1) ref0).name
              cases hq : ltB (t.getD (g - 1) ref0).name r.name
              · have hok := hok0.trans hq
                rw [hq, Bool.not_false] at hleq
                refine Ow.goQ ?_
                simp (disch := (first | assumption | omega | (simp only [lenS, lenT, UInt64.reduceToNat]; try omega))) only [↓Sx.S0, Sx.S1, Tryz.fx, uWU_1, Nat.reduceAdd, Nat.reducePow, Int.reducePow, Nat.reduceBEq, ↓reduceIte, UInt8.reduceToNat, UInt16.reduceToNat, UInt32.reduceToNat, UInt64.reduceToNat, Int.reduceToNat, hz, hd, hix, h1.idx, hb1, ld2, ldn, ldi, hleq]
                try with_reducible refine Ow.nil ?_
                ((try with_reducible refine Cw.go [] ?_); (try simp (disch := (first | assumption | omega | (simp only [lenS, lenT, UInt64.reduceToNat]; try omega))) only [↓Sx.S0, Sx.S1, Tryz.fx, uWU_1, Nat.reduceAdd, Nat.reducePow, Int.reducePow, Nat.reduceBEq, ↓reduceIte, UInt8.reduceToNat, UInt16.reduceToNat, UInt32.reduceToNat, UInt64.reduceToNat, Int.reduceToNat]))
                refine ⟨_, (by simp (disch := (first | assumption | omega | (simp only [lenS, lenT, UInt64.reduceToNat]; try omega))) only [↓Sx.S0, Sx.S1, Tryz.fx, uWU_1, Nat.reduceAdd, Nat.reducePow, Int.reducePow, Nat.reduceBEq, ↓reduceIte, UInt8.reduceToNat, UInt16.reduceToNat, UInt32.reduceToNat, UInt64.reduceToNat, Int.reduceToNat]; rfl), ?_⟩
                exact ⟨Ext.of_new ⟨hwx, trivial⟩, ValsS.no (by unfold valR; rw [if_neg (fun h => by have := (tabOkR_iff t).1 h.2.2 g hlt; rw [hok] at this; cases this)])⟩
              · have hok := hok0.trans hq
                rw [hq, Bool.not_true] at hleq
                refine Ow.goQ ?_
                simp (disch := (first | assumption | omega | (simp only [lenS, lenT, UInt64.reduceToNat]; try omega))) only [↓Sx.S0, Sx.S1, Tryz.fx, uWU_1, Nat.reduceAdd, Nat.reducePow, Int.reducePow, Nat.reduceBEq, ↓reduceIte, UInt8.reduceToNat, UInt16.reduceToNat, UInt32.reduceToNat, UInt64.reduceToNat, Int.reduceToNat, hz, hd, hix, h1.idx, hb1, ld2, ldn, ldi, hleq]
                try with_reducible refine Ow.nil ?_
                ((try with_reducible refine Cw.go [] ?_); (try simp (disch := (first | assumption | omega | (simp only [lenS, lenT, UInt64.reduceToNat]; try omega))) only [↓Sx.S0, Sx.S1, Tryz.fx, uWU_1, Nat.reduceAdd, Nat.reducePow, Int.reducePow, Nat.reduceBEq, ↓reduceIte, UInt8.reduceToNat, UInt16.reduceToNat, UInt32.reduceToNat, UInt64.reduceToNat, Int.reduceToNat]))
                refine Again.mk (g + 1) (by omega) ⟨hlt, fun i hi => ?_⟩ rfl rfl
                by_cases e : i = g
                · rw [e]; exact hok
                · exact hall i (by omega)
          · have hok : tabOk nameV z32 (prs t) g = false := by unfold tabOk; rw [hpg]; simp only [hz, Bool.not_true, Bool.and_false, Bool.false_and]
            refine Ow.goQ ?_
            simp (disch := (first | assumption | omega | (simp only [lenS, lenT, UInt64.reduceToNat]; try omega))) only [↓Sx.S0, Sx.S1, Tryz.fx, uWU_1, Nat.reduceAdd, Nat.reducePow, Int.reducePow, Nat.reduceBEq, ↓reduceIte, UInt8.reduceToNat, UInt16.reduceToNat, UInt32.reduceToNat, UInt64.reduceToNat, Int.reduceToNat, hz, h1.idx, hb1, ldi]
            try with_reducible refine Ow.nil ?_
            ((try with_reducible refine Cw.go [] ?_); (try simp (disch := (first | assumption | omega | (simp only [lenS, lenT, UInt64.reduceToNat]; try omega))) only [↓Sx.S0, Sx.S1, Tryz.fx, uWU_1, Nat.reduceAdd, Nat.reducePow, Int.reducePow, Nat.reduceBEq, ↓reduceIte, UInt8.reduceToNat, UInt16.reduceToNat, UInt32.reduceToNat, UInt64.reduceToNat, Int.reduceToNat]))
            refine ⟨_, (by simp (disch := (first | assumption | omega | (simp only [lenS, lenT, UInt64.reduceToNat]; try omega))) only [↓Sx.S0, Sx.S1, Tryz.fx, uWU_1, Nat.reduceAdd, Nat.reducePow, Int.reducePow, Nat.reduceBEq, ↓reduceIte, UInt8.reduceToNat, UInt16.reduceToNat, UInt32.reduceToNat, UInt64.reduceToNat, Int.reduceToNat]; rfl), ?_⟩
            exact ⟨Ext.of_new ⟨hwx, trivial⟩, ValsS.no (by unfold valR; rw [if_neg (fun h => by have := (tabOkR_iff t).1 h.2.2 g hlt; rw [hok] at this; cases this)])⟩
      · obtain rfl : g = t.length := by omega
        have hv0 : ∀ k, valR t l k = logR l t k := fun k => by unfold valR; rw [if_pos ⟨h16, h100, (tabOkR_iff t).2 hall⟩]
        ((try with_reducible refine Cw.go [] ?_); (try simp (disch := (first | assumption | omega | (simp only [lenS, lenT, UInt64.reduceToNat]; try omega))) only [↓Sx.S0, Sx.S1, Tryz.fx, uWU_1, Nat.reduceAdd, Nat.reducePow, Int.reducePow, Nat.reduceBEq, ↓reduceIte, UInt8.reduceToNat, UInt16.reduceToNat, UInt32.reduceToNat, UInt64.reduceToNat, Int.reduceToNat, ht.len]))
        refine Ow.appendG (e := 48) (k := t.length) (new := (t.map refC).flatten) (n := 0) (cs := []) (.slice none 0 0) rfl rfl rfl Tryz.underlying22 Tryz.ag48 (by kernel_rfl) zrRef (by rw [cells_ref, List.size_toArray, refC_len]) Tryz.underlying22 (by intro k h; cases h) Gr.nl (fun w' hw' => (ht.oldN hw' ⟨hwx, trivial⟩).appX refC_len refC_one) (flat_len refC_len t) (by omega) (fun v2 D2 hG2 _ hW2 hS2 => ?_)
        rw [Nat.zero_add, List.nil_append] at hG2
        have hN2 : New w.heap.size D2 := New.of_le fun c hc => by
          rcases hW2.new c hc with h | ⟨-, h⟩
          · simp [keys] at h; omega
          · exact h
        have lk2 : Sx.look D2 bx = some (.cells #[vt, vl] 24 (0, 0)) := hW2.look bx _ (by simp [slB]) (look_same _ _ _)
        obtain ⟨b3, o3, a3, E3, f3, h3⟩ := hl.row
        refine Ow.go rfl ?_
        simp (disch := (first | assumption | omega | (simp only [lenS, lenT, UInt64.reduceToNat]; try omega))) only [↓Sx.S0, Sx.S1, Tryz.fx, uWU_1, Nat.reduceAdd, Nat.reducePow, Int.reducePow, Nat.reduceBEq, ↓reduceIte, UInt8.reduceToNat, UInt16.reduceToNat, UInt32.reduceToNat, UInt64.reduceToNat, Int.reduceToNat]
        ((try with_reducible refine Cw.go [] ?_); (try simp (disch := (first | assumption | omega | (simp only [lenS, lenT, UInt64.reduceToNat]; try omega))) only [↓Sx.S0, Sx.S1, Tryz.fx, uWU_1, Nat.reduceAdd, Nat.reducePow, Int.reducePow, Nat.reduceBEq, ↓reduceIte, UInt8.reduceToNat, UInt16.reduceToNat, UInt32.reduceToNat, UInt64.reduceToNat, Int.reduceToNat]))
        refine Cw.loopG (G := VG) [68, 69, 70, 73, 74, 75, 76, 77, 78, 79, 7, 80, 81, 82, 83, 84, 85, 86, 87, 88, 89, 90, 91, 92, 4, 5, 71, 72, 8] (fun g => [(7, g.v), (8, vi g.g)]) (fun g => g.D) (fun g => g.g ≤ k ∧ New w.heap.size g.D ∧ Sx.look g.D bx = some (.cells #[vt, vl] 24 (0, 0)) ∧ GrI g.D 48 33 g.v g.ls.length (g.ls.map refC).flatten ∧ logR l t g.g = some g.ls ∧ g.ls.length ≤ 16) (fun g => k - g.g) ⟨0, v2, t, D2⟩ rfl rfl ?_ ?_
        · exact ⟨Nat.zero_le _, hN2, lk2, hG2.i fun p hp => hp, rfl, h16⟩
        intro g j hg
        simp only [overFrom, pin, setF_0, setF_s, List.contains_cons, List.contains_nil, Nat.reduceBEq, Bool.or_false, Bool.false_or, Bool.or_true, Bool.true_or, Nat.reduceAdd, ↓reduceIte, Bool.false_eq_true]
        obtain ⟨g, v, ls, D⟩ := g
        simp only at hg ⊢
        obtain ⟨hgk, hND, hlk, hGr, hlg, hls⟩ := hg
        have rdx : readB w D bx = some (.cells #[vt, vl] 24 (0, 0)) := read_look hlk
        by_cases hlt : g < k
        · have hb3 := h3.has (by omega)
          have hb3l := h3.lt (by omega)
          have rd3 : readB w D b3 = some (.cells a3 E3 f3) := by rw [read_none (hND.not hb3l)]; exact hb3
          have ld3 := h3.load refC_len (by omega) (show g < l.length by omega)
          have ldn : loadV (some (false, 1)) (some (.cells a3 E3 f3)) (o3 + g * 33) = some (vs (l.getD g ref0).name) := h3.cell (j := 0) (n := 1) (show g < l.length by omega) (by omega)
          have hnm := hnl g (by omega)
          have hst := logR_step hlg
          generalize hr : l.getD g ref0 = r at *
          have hix3 := h3.idx true g (show g < l.length by omega)
          ((try with_reducible refine Cw.go [] ?_); (try simp (disch := (first | assumption | omega | (simp only [lenS, lenT, UInt64.reduceToNat]; try omega))) only [↓Sx.S0, Sx.S1, Tryz.fx, uWU_1, Nat.reduceAdd, Nat.reducePow, Int.reducePow, Nat.reduceBEq, ↓reduceIte, UInt8.reduceToNat, UInt16.reduceToNat, UInt32.reduceToNat, UInt64.reduceToNat, Int.reduceToNat, rdx, rd3, hix3, ld3]))
          refine Ow.callC rfl rfl Tryz.call20 (fun w' hw' => Set_spec v ls r w' (hGr.slV hw' rfl rfl refC_len) (by omega)) (fun B4 v4 D4 hA4 hB4 hN4 hS4 => ?_)
          have lk4 : Sx.look (D ++ D4) bx = some (.cells #[vt, vl] 24 (0, 0)) := look_app hlk
          have hNE : New w.heap.size (D ++ D4) := hND.app (hN4.mono hB4)
          have hGE : GrI (D ++ D4) 48 33 v4 (setR ls r).length ((setR ls r).map refC).flatten := hS4.mono fun p hp => List.mem_append_right _ hp
          have hlen4 : ∀ m, lenV (.sl m) v4 = some (vi (setR ls r).length) := fun m => by obtain ⟨X, -, hX⟩ := hS4; exact hX.len m
          generalize D ++ D4 = E at *
          have rdx4 : readB w E bx = some (.cells #[vt, vl] 24 (0, 0)) := read_look lk4
          have rd34 : readB w E b3 = some (.cells a3 E3 f3) := by rw [read_none (hNE.not hb3l)]; exact hb3
          refine Ow.go rfl ?_
          simp (disch := (first | assumption | omega | (simp only [lenS, lenT, UInt64.reduceToNat]; try omega))) only [↓Sx.S0, Sx.S1, Tryz.fx, uWU_1, Nat.reduceAdd, Nat.reducePow, Int.reducePow, Nat.reduceBEq, ↓reduceIte, UInt8.reduceToNat, UInt16.reduceToNat, UInt32.reduceToNat, UInt64.reduceToNat, Int.reduceToNat]
          ((try with_reducible refine Cw.go [] ?_); (try simp (disch := (first | assumption | omega | (simp only [lenS, lenT, UInt64.reduceToNat]; try omega))) only [↓Sx.S0, Sx.S1, Tryz.fx, uWU_1, Nat.reduceAdd, Nat.reducePow, Int.reducePow, Nat.reduceBEq, ↓reduceIte, UInt8.reduceToNat, UInt16.reduceToNat, UInt32.reduceToNat, UInt64.reduceToNat, Int.reduceToNat, rdx4, rd34, hix3, ldn]))
          refine Ow.callFV rfl Tryz.call19 (fun w' hw' => refNameV_spec r.name w' hnm) ?_
          cases hn : nameV r.name
          · refine Ow.go rfl ?_
            simp (disch := (first | assumption | omega | (simp only [lenS, lenT, UInt64.reduceToNat]; try omega))) only [↓Sx.S0, Sx.S1, Tryz.fx, uWU_1, Nat.reduceAdd, Nat.reducePow, Int.reducePow, Nat.reduceBEq, ↓reduceIte, UInt8.reduceToNat, UInt16.reduceToNat, UInt32.reduceToNat, UInt64.reduceToNat, Int.reduceToNat]
            ((try with_reducible refine Cw.go [] ?_); (try simp (disch := (first | assumption | omega | (simp only [lenS, lenT, UInt64.reduceToNat]; try omega))) only [↓Sx.S0, Sx.S1, Tryz.fx, uWU_1, Nat.reduceAdd, Nat.reducePow, Int.reducePow, Nat.reduceBEq, ↓reduceIte, UInt8.reduceToNat, UInt16.reduceToNat, UInt32.reduceToNat, UInt64.reduceToNat, Int.reduceToNat]))
            refine ⟨_, (by simp (disch := (first | assumption | omega | (simp only [lenS, lenT, UInt64.reduceToNat]; try omega))) only [↓Sx.S0, Sx.S1, Tryz.fx, uWU_1, Nat.reduceAdd, Nat.reducePow, Int.reducePow, Nat.reduceBEq, ↓reduceIte, UInt8.reduceToNat, UInt16.reduceToNat, UInt32.reduceToNat, UInt64.reduceToNat, Int.reduceToNat]; rfl), ?_⟩
            exact ⟨Ext.of_new hNE, ValsS.no (by rw [hv0]; exact logR_stop (g := g + 1) (by rw [hst, hn]; rfl) k hlt)⟩
          · by_cases h17 : (setR ls r).length ≤ 16
            · have hd : decide ((16 : Int) < ((setR ls r).length : Int)) = false := by simp; omega
              refine Ow.go rfl ?_
              simp (disch := (first | assumption | omega | (simp only [lenS, lenT, UInt64.reduceToNat]; try omega))) only [↓Sx.S0, Sx.S1, Tryz.fx, uWU_1, Nat.reduceAdd, Nat.reducePow, Int.reducePow, Nat.reduceBEq, ↓reduceIte, UInt8.reduceToNat, UInt16.reduceToNat, UInt32.reduceToNat, UInt64.reduceToNat, Int.reduceToNat, hlen4, hd]
              ((try with_reducible refine Cw.go [] ?_); (try simp (disch := (first | assumption | omega | (simp only [lenS, lenT, UInt64.reduceToNat]; try omega))) only [↓Sx.S0, Sx.S1, Tryz.fx, uWU_1, Nat.reduceAdd, Nat.reducePow, Int.reducePow, Nat.reduceBEq, ↓reduceIte, UInt8.reduceToNat, UInt16.reduceToNat, UInt32.reduceToNat, UInt64.reduceToNat, Int.reduceToNat]))
              refine Again.mk (VG.mk (g + 1) v4 (setR ls r) E) (by show k - (g + 1) < k - g; omega) ⟨hlt, hNE, lk4, hGE, ?_, h17⟩ rfl rfl
              show logR l t (g + 1) = some (setR ls r)
              rw [hst, hn, if_pos (by simpa using h17)]
            · have hd : decide ((16 : Int) < ((setR ls r).length : Int)) = true := by simp; omega
              refine Ow.go rfl ?_
              simp (disch := (first | assumption | omega | (simp only [lenS, lenT, UInt64.reduceToNat]; try omega))) only [↓Sx.S0, Sx.S1, Tryz.fx, uWU_1, Nat.reduceAdd, Nat.reducePow, Int.reducePow, Nat.reduceBEq, ↓reduceIte, UInt8.reduceToNat, UInt16.reduceToNat, UInt32.reduceToNat, UInt64.reduceToNat, Int.reduceToNat, hlen4, hd]
              ((try with_reducible refine Cw.go [] ?_); (try simp (disch := (first | assumption | omega | (simp only [lenS, lenT, UInt64.reduceToNat]; try omega))) only [↓Sx.S0, Sx.S1, Tryz.fx, uWU_1, Nat.reduceAdd, Nat.reducePow, Int.reducePow, Nat.reduceBEq, ↓reduceIte, UInt8.reduceToNat, UInt16.reduceToNat, UInt32.reduceToNat, UInt64.reduceToNat, Int.reduceToNat]))
              refine ⟨_, (by simp (disch := (first | assumption | omega | (simp only [lenS, lenT, UInt64.reduceToNat]; try omega))) only [↓Sx.S0, Sx.S1, Tryz.fx, uWU_1, Nat.reduceAdd, Nat.reducePow, Int.reducePow, Nat.reduceBEq, ↓reduceIte, UInt8.reduceToNat, UInt16.reduceToNat, UInt32.reduceToNat, UInt64.reduceToNat, Int.reduceToNat]; rfl), ?_⟩
              exact ⟨Ext.of_new hNE, ValsS.no (by rw [hv0]; exact logR_stop (g := g + 1) (by rw [hst, hn, if_neg (by simp; omega)]) k hlt)⟩
        · obtain rfl : g = k := by omega
          ((try with_reducible refine Cw.go [] ?_); (try simp (disch := (first | assumption | omega | (simp only [lenS, lenT, UInt64.reduceToNat]; try omega))) only [↓Sx.S0, Sx.S1, Tryz.fx, uWU_1, Nat.reduceAdd, Nat.reducePow, Int.reducePow, Nat.reduceBEq, ↓reduceIte, UInt8.reduceToNat, UInt16.reduceToNat, UInt32.reduceToNat, UInt64.reduceToNat, Int.reduceToNat]))
          refine ⟨_, (by simp (disch := (first | assumption | omega | (simp only [lenS, lenT, UInt64.reduceToNat]; try omega))) only [↓Sx.S0, Sx.S1, Tryz.fx, uWU_1, Nat.reduceAdd, Nat.reducePow, Int.reducePow, Nat.reduceBEq, ↓reduceIte, UInt8.reduceToNat, UInt16.reduceToNat, UInt32.reduceToNat, UInt64.reduceToNat, Int.reduceToNat]; rfl), ?_⟩
          refine ⟨Ext.of_new hND, ?_⟩
          unfold ValsS
          rw [hv0, hlg]
          exact ⟨v, rfl, hGr⟩
    · have hd100 : decide ((100 : Int) < (l.length : Int)) = true := by simp; omega
      ((try with_reducible refine Cw.go [] ?_); (try simp (disch := (first | assumption | omega | (simp only [lenS, lenT, UInt64.reduceToNat]; try omega))) only [↓Sx.S0, Sx.S1, Tryz.fx, uWU_1, Nat.reduceAdd, Nat.reducePow, Int.reducePow, Nat.reduceBEq, ↓reduceIte, UInt8.reduceToNat, UInt16.reduceToNat, UInt32.reduceToNat, UInt64.reduceToNat, Int.reduceToNat, ht.len, hl.len, hd16, hd100]))
      refine ⟨_, (by simp (disch := (first | assumption | omega | (simp only [lenS, lenT, UInt64.reduceToNat]; try omega))) only [↓Sx.S0, Sx.S1, Tryz.fx, uWU_1, Nat.reduceAdd, Nat.reducePow, Int.reducePow, Nat.reduceBEq, ↓reduceIte, UInt8.reduceToNat, UInt16.reduceToNat, UInt32.reduceToNat, UInt64.reduceToNat, Int.reduceToNat]; rfl), ?_⟩
      exact ⟨Ext.of_new ⟨hwx, trivial⟩, ValsS.no (by unfold valR; rw [if_neg (fun h => h100 h.2.1)])⟩
  · have hd16 : decide ((16 : Int) < (t.length : Int)) = true := by simp; omega
    ((try with_reducible refine Cw.go [] ?_); (try simp (disch := (first | assumption | omega | (simp only [lenS, lenT, UInt64.reduceToNat]; try omega))) only [↓Sx.S0, Sx.S1, Tryz.fx, uWU_1, Nat.reduceAdd, Nat.reducePow, Int.reducePow, Nat.reduceBEq, ↓reduceIte, UInt8.reduceToNat, UInt16.reduceToNat, UInt32.reduceToNat, UInt64.reduceToNat, Int.reduceToNat, ht.len, hl.len, hd16]))
    refine ⟨_, (by simp (disch := (first | assumption | omega | (simp only [lenS, lenT, UInt64.reduceToNat]; try omega))) only [↓Sx.S0, Sx.S1, Tryz.fx, uWU_1, Nat.reduceAdd, Nat.reducePow, Int.reducePow, Nat.reduceBEq, ↓reduceIte, UInt8.reduceToNat, UInt16.reduceToNat, UInt32.reduceToNat, UInt64.reduceToNat, Int.reduceToNat]; rfl), ?_⟩
    exact ⟨Ext.of_new ⟨hwx, trivial⟩, ValsS.no (by unfold valR; rw [if_neg (fun h => h16 h.1)])⟩
end Go.Proofs
end
section
open Go Go.Proofs Go.Sx Go.RefP
namespace Go.Proofs
set_option maxRecDepth 10000
set_option maxHeartbeats 4000000
set_option linter.unusedSimpArgs false
set_option linter.defProp false
def uWV_1 := And.intro (And.intro (And.intro (And.intro (@rdIn_v8) (@rdIn_v16)) (And.intro (@rdIn_v32) (And.intro (@rdIn_v64) (@rdIn_vi)))) (And.intro (And.intro (@load_ref0) (@load_ref1)) (And.intro (@cells_ref) (And.intro (@eqIdz) (@store_rr))))) (And.intro (And.intro (And.intro (@load_ref) (@load_bk0)) (And.intro (@load_bk1) (And.intro (@load_bk) (@tup2_0)))) (And.intro (And.intro (@tup2_1) (And.intro (@load_rd0) (@load_rd1))) (And.intro (@load_rd2) (And.intro (@store_rd1) (@store_rd2)))))
/-- The bytes of a record that stands at a place, and where it ends. -/
def partR (s : List UInt8) (a : Nat) : List UInt8 × Nat × Bool :=
  let t := textR s a 0 65536
  if t.2.2 ≠ 0 then ([], 0, false) else ((unsealV t.1).1, t.2.1, (unsealV t.1).2)
theorem SameRefsV_spec (x y : Value) (l1 l2 : List RefL) (w : World) (h1 : RefSl w x l1) (h2 : RefSl w y l2) (hl1 : l1.length < 1000000) (hl2 : l2.length < 1000000) :
    Rets Tryz.prog 12 #[x, y] w (fun v D => v = .bool (sameR l1 l2) ∧ D = []) := by
  obtain ⟨b1, o1, a1, E1, f1, r1⟩ := h1.row
  obtain ⟨b2, o2, a2, E2, f2, r2⟩ := h2.row
  exact SameRefs_spec x y b1 o1 b2 o2 l1 l2 a1 a2 E1 E2 f1 f2 w r1 r2 hl1 hl2
end Go.Proofs
end
section
open Go Go.Proofs Go.Sx Go.RefP
namespace Go.Proofs
set_option maxRecDepth 10000
set_option maxHeartbeats 4000000
set_option linter.unusedSimpArgs false
/-- The id with a first byte of 1. -/
def id1 : IdL := ⟨1 :: List.replicate 31 0, by simp⟩
/-- The ref that alive adds. -/
def mainR : RefL := ⟨[109, 97, 105, 110], id1⟩
theorem numL_s (n : Nat) (l : List UInt8) (h : clampN (l.length : Int) = n) (hn : n < 128) : numL (clampN (l.length : Int)) = [UInt8.ofNat n] := by rw [h, numL_small hn]
theorem alive_head : recordV (headB []) = [6, 72, 0] ++ (sealV [72, 0]).drop 2 := by
  have h1 : headB [] = [72, 0] := by
    unfold headB tabB
    rw [show ((([] : List RefL).length : Int)) = (([] : List UInt8).length : Int) from rfl, numL_s 0 [] (by kernel_rfl) (by decide)]; rfl
  rw [h1]
  unfold recordV textL
  rw [numL_s 6 (sealV [72, 0]) (by kernel_rfl) (by decide)]
  exact id (show ([UInt8.ofNat 6] ++ sealV [72, 0] : List UInt8) = _ by kernel_rfl)
theorem alive_entry : entryB mainR = [69, 4, 109, 97, 105, 110] ++ id1.l := by
  unfold entryB textL
  rw [numL_s 4 _ (by kernel_rfl) (by decide)]
  rfl
theorem alive_rec : recordV (entryB mainR) = 42 :: sealV ([69, 4, 109, 97, 105, 110] ++ id1.l) := by
  rw [alive_entry]
  unfold recordV textL
  rw [numL_s 42 _ (by kernel_rfl) (by decide)]
  rfl
theorem alive_book : bookB [] [mainR] = ([6, 72, 0] ++ (sealV [72, 0]).drop 2) ++ (42 :: sealV ([69, 4, 109, 97, 105, 110] ++ id1.l)) := by
  unfold bookB logB
  rw [alive_head]
  simp only [List.map_cons, List.map_nil, List.flatten_cons, List.flatten_nil, List.append_nil, alive_rec]
theorem alive_right0 : rightB [] [] = true := by kernel_rfl
theorem alive_right : rightB [] [mainR] = true := by kernel_rfl
theorem alive_name : nameV [109, 97, 105, 110] = true := by kernel_rfl
theorem alive_read : bookR (bookB [] [mainR] ++ [120]) = some ([], [mainR], (bookB [] [mainR]).length) := by
  rw [alive_book]
  kernel_rfl
theorem alive_value : valueB [] [mainR] [109, 97, 105, 110] = id1.l := by kernel_rfl
end Go.Proofs
end
section
open Go Go.Proofs Go.Sx Go.RefP
namespace Go.Proofs
set_option maxRecDepth 10000
set_option maxHeartbeats 4000000
set_option linter.unusedSimpArgs false
theorem mainSmall : SmallN [mainR] := by
  intro g h
  have h0 : g = 0 := by simpa using h
  subst h0
  show (4 : Nat) < 1000
  decide
theorem book_drop : (bookB [] [mainR]).drop ((bookB [] [mainR]).length - (recordV (entryB mainR)).length) = recordV (entryB mainR) := by
  unfold bookB logB
  simp only [List.map_cons, List.map_nil, List.flatten_cons, List.flatten_nil, List.append_nil, List.length_append, Nat.add_sub_cancel_right, List.drop_left]
theorem book_lens : (recordV (entryB mainR)).length < (bookB [] [mainR]).length ∧ (bookB [] [mainR]).length < 1000 := by
  rw [alive_book, alive_rec]
  exact of_decide_eq_true (id (by kernel_rfl))
set_option linter.defProp false
def uWY_1 := And.intro (And.intro (And.intro (And.intro (@rdIn_v8) (@rdIn_v16)) (And.intro (@rdIn_v32) (And.intro (@rdIn_v64) (@rdIn_vi)))) (And.intro (And.intro (@load_ref0) (@load_ref1)) (And.intro (@cells_ref) (And.intro (@eqIdz) (@store_rr))))) (And.intro (And.intro (And.intro (@load_ref) (@load_bk0)) (And.intro (@load_bk1) (And.intro (@load_bk) (@tup2_0)))) (And.intro (And.intro (@tup2_1) (@tup3_0)) (And.intro (@tup3_1) (And.intro (@tup3_2) (@store_bk0)))))
theorem alive16_spec (w : World) (hG : GlobC w) : Rets Tryz.prog 4 #[] w (fun v D => v = .bool true ∧ D = []) := by
  have hglt : (1 : Nat) < w.heap.size := by obtain ⟨e, f, h⟩ := hG; exact (Array.getElem?_eq_some_iff.1 h).1
  refine Rets.enterV Tryz.func4 rfl (rs := [.tmp 0]) Tryz.results4 Tryz.ntmps4 ?_
  simp only [List.size_toArray, List.length_cons, List.length_nil, Nat.reduceAdd, Nat.reduceSub, List.replicate_succ, List.replicate_zero, List.cons_append, List.nil_append]
  ((try with_reducible refine Cw.go [] ?_); (try simp (disch := (first | assumption | omega | (simp only [lenS, lenT, UInt64.reduceToNat]; try omega))) only [↓Sx.S0, Sx.S1, Tryz.fx, uWY_1, Nat.reduceAdd, Nat.reducePow, Int.reducePow, Nat.reduceBEq, ↓reduceIte, UInt8.reduceToNat, UInt16.reduceToNat, UInt32.reduceToNat, UInt64.reduceToNat, Int.reduceToNat]))
  refine Ow.build (.agg #[.slice none 0 0, .slice none 0 0]) rfl (by kernel_rfl) ?_
  refine Ow.go rfl ?_
  simp (disch := (first | assumption | omega | (simp only [lenS, lenT, UInt64.reduceToNat]; try omega))) only [↓Sx.S0, Sx.S1, Tryz.fx, uWY_1, Nat.reduceAdd, Nat.reducePow, Int.reducePow, Nat.reduceBEq, ↓reduceIte, UInt8.reduceToNat, UInt16.reduceToNat, UInt32.reduceToNat, UInt64.reduceToNat, Int.reduceToNat]
  refine Ow.build (.agg (a8 id1.l)) rfl (by kernel_rfl) ?_
  refine Ow.go rfl ?_
  simp (disch := (first | assumption | omega | (simp only [lenS, lenT, UInt64.reduceToNat]; try omega))) only [↓Sx.S0, Sx.S1, Tryz.fx, uWY_1, Nat.reduceAdd, Nat.reducePow, Int.reducePow, Nat.reduceBEq, ↓reduceIte, UInt8.reduceToNat, UInt16.reduceToNat, UInt32.reduceToNat, UInt64.reduceToNat, Int.reduceToNat]
  refine Ow.callC rfl rfl Tryz.call17 (fun w' hw' => Add_spec (.slice none 0 0) (.slice none 0 0) [] [] [109, 97, 105, 110] id1 w' (GlobC.of hG hw' (by simp [keys])) (SlV.nil w') (SlV.nil w') (by simp) (by simp) (fun g h => by simp at h) (fun g h => by simp at h) (by simp)) (fun B1 v1 D1 hA1 hB1 hN1 hS1 => ?_)
  unfold AddS at hS1
  rw [if_pos ⟨alive_right0, alive_name⟩, if_pos (by exact alive_right)] at hS1
  obtain ⟨vt, vl, rfl, hGt, hGl⟩ := hS1
  have hstt := store_bk (.slice none 0 0) (.slice none 0 0) vt vl 24 (gri_cell hGt).1 (gri_cell hGl).1
  have hN1' := hN1.mono hB1
  refine Ow.go rfl ?_
  simp (disch := (first | assumption | omega | (simp only [lenS, lenT, UInt64.reduceToNat]; try omega))) only [↓Sx.S0, Sx.S1, Tryz.fx, uWY_1, Nat.reduceAdd, Nat.reducePow, Int.reducePow, Nat.reduceBEq, ↓reduceIte, UInt8.reduceToNat, UInt16.reduceToNat, UInt32.reduceToNat, UInt64.reduceToNat, Int.reduceToNat]
  refine Ow.alloc rfl rfl zrBk fun b2 hb2 hw2 => ?_
  simp only [cells_agg, List.nil_append, List.cons_append]
  refine Ow.permL (M := (b2, .cells #[.slice none 0 0, .slice none 0 0] 24 (0, 0)) :: D1) (by classical exact List.perm_iff_count.2 fun a => by simp only [List.count_append, List.count_cons, List.count_nil] <;> omega) ?_
  refine Ow.go rfl ?_
  simp (disch := (first | assumption | omega | (simp only [lenS, lenT, UInt64.reduceToNat]; try omega))) only [↓Sx.S0, Sx.S1, Tryz.fx, uWY_1, Nat.reduceAdd, Nat.reducePow, Int.reducePow, Nat.reduceBEq, ↓reduceIte, UInt8.reduceToNat, UInt16.reduceToNat, UInt32.reduceToNat, UInt64.reduceToNat, Int.reduceToNat, hstt]
  ((try with_reducible refine Cw.go [] ?_); (try simp (disch := (first | assumption | omega | (simp only [lenS, lenT, UInt64.reduceToNat]; try omega))) only [↓Sx.S0, Sx.S1, Tryz.fx, uWY_1, Nat.reduceAdd, Nat.reducePow, Int.reducePow, Nat.reduceBEq, ↓reduceIte, UInt8.reduceToNat, UInt16.reduceToNat, UInt32.reduceToNat, UInt64.reduceToNat, Int.reduceToNat, load_bk]))
  refine Ow.callFV rfl Tryz.call7 (fun w' hw' => Bytes_spec vt vl [] [mainR] w' (GlobC.of hG hw' (New.not (L := (b2, .cells #[vt, vl] 24 (0, 0)) :: D1) (by exact ⟨hw2, hN1'⟩) hglt)) (GrI.slV (hGt.mono (fun p hp => by simp [hp])) hw' rfl rfl refC_len) (GrI.slV (hGl.mono (fun p hp => by simp [hp])) hw' rfl rfl refC_len) (by simp) (by simp) (fun g h => by simp at h) mainSmall) ?_
  rw [if_pos alive_right]
  have hlen := book_lens
  have hdrop := book_drop
  have hread := alive_read
  have hrr : (⟨[109, 97, 105, 110], id1⟩ : RefL) = mainR := rfl
  rw [hrr] at hGl ⊢
  generalize recordV (entryB mainR) = rr at *
  generalize bookB [] [mainR] = bb at *
  refine Ow.go rfl ?_
  simp (disch := (first | assumption | omega | (simp only [lenS, lenT, UInt64.reduceToNat]; try omega))) only [↓Sx.S0, Sx.S1, Tryz.fx, uWY_1, Nat.reduceAdd, Nat.reducePow, Int.reducePow, Nat.reduceBEq, ↓reduceIte, UInt8.reduceToNat, UInt16.reduceToNat, UInt32.reduceToNat, UInt64.reduceToNat, Int.reduceToNat]
  ((try with_reducible refine Cw.go [] ?_); (try simp (disch := (first | assumption | omega | (simp only [lenS, lenT, UInt64.reduceToNat]; try omega))) only [↓Sx.S0, Sx.S1, Tryz.fx, uWY_1, Nat.reduceAdd, Nat.reducePow, Int.reducePow, Nat.reduceBEq, ↓reduceIte, UInt8.reduceToNat, UInt16.reduceToNat, UInt32.reduceToNat, UInt64.reduceToNat, Int.reduceToNat]))
  refine Ow.callC rfl rfl Tryz.call18 (fun w' hw' => Read_spec (bb ++ [120]) w' (GlobC.of hG hw' (New.not (L := (b2, .cells #[vt, vl] 24 (0, 0)) :: D1) (by exact ⟨hw2, hN1'⟩) hglt)) (by simp; omega)) (fun B3 v3 D3 hA3 hB3 hN3 hS3 => ?_)
  unfold ReadS at hS3
  rw [hread] at hS3
  obtain ⟨ut, ul, rfl, hHt, hHl⟩ := hS3
  have hN3' := hN3.mono hB3
  have hst3 := store_bk (.slice none 0 0) (.slice none 0 0) ut ul 24 (gri_cell hHt).1 (gri_cell hHl).1
  refine Ow.go rfl ?_
  simp (disch := (first | assumption | omega | (simp only [lenS, lenT, UInt64.reduceToNat]; try omega))) only [↓Sx.S0, Sx.S1, Tryz.fx, uWY_1, Nat.reduceAdd, Nat.reducePow, Int.reducePow, Nat.reduceBEq, ↓reduceIte, UInt8.reduceToNat, UInt16.reduceToNat, UInt32.reduceToNat, UInt64.reduceToNat, Int.reduceToNat]
  refine Ow.alloc rfl rfl zrBk fun b6 hb6 hw6 => ?_
  simp only [cells_agg, List.nil_append, List.cons_append]
  refine Ow.permL (M := (b6, .cells #[.slice none 0 0, .slice none 0 0] 24 (0, 0)) :: ((b2, .cells #[vt, vl] 24 (0, 0)) :: (D1 ++ D3))) (by classical exact List.perm_iff_count.2 fun a => by simp only [List.count_append, List.count_cons, List.count_nil] <;> omega) ?_
  refine Ow.go rfl ?_
  simp (disch := (first | assumption | omega | (simp only [lenS, lenT, UInt64.reduceToNat]; try omega))) only [↓Sx.S0, Sx.S1, Tryz.fx, uWY_1, Nat.reduceAdd, Nat.reducePow, Int.reducePow, Nat.reduceBEq, ↓reduceIte, UInt8.reduceToNat, UInt16.reduceToNat, UInt32.reduceToNat, UInt64.reduceToNat, Int.reduceToNat, hst3]
  have hNN : New w.heap.size (D1 ++ D3) := hN1'.app hN3'
  have e0 : ((0 : Int) == 0) = true := rfl
  have e1 : (((bb.length : Nat) : Int) == (bb.length : Int)) = true := by simp
  have e2 : decide ((rr.length : Int) < (bb.length : Int)) = true := by simp; omega
  have e3 : ((bb.length : Int) - (rr.length : Int)).toNat = bb.length - rr.length := by omega
  have e4 : (rr == rr) = true := by simp
  have hsl : sliceV .str (vs bb) (some (some ((bb.length : Int) - (rr.length : Int)))) none = some (vs rr) := by
    rw [slice_str_lo bb _ ⟨by omega, by omega⟩, e3, hdrop]
  ((try with_reducible refine Cw.go [] ?_); (try simp (disch := (first | assumption | omega | (simp only [lenS, lenT, UInt64.reduceToNat]; try omega))) only [↓Sx.S0, Sx.S1, Tryz.fx, uWY_1, Nat.reduceAdd, Nat.reducePow, Int.reducePow, Nat.reduceBEq, ↓reduceIte, UInt8.reduceToNat, UInt16.reduceToNat, UInt32.reduceToNat, UInt64.reduceToNat, Int.reduceToNat, e0, e1, e2, hsl, e4, load_bk]))
  refine Ow.callFV rfl Tryz.call10 (fun w' hw' => Value_spec ut ul [] [mainR] [109, 97, 105, 110] w' (GrI.slV (hHt.mono (fun p hp => by simp [hp])) hw' rfl rfl refC_len) (GrI.slV (hHl.mono (fun p hp => by simp [hp])) hw' rfl rfl refC_len) (by simp) (by simp) (fun g h => by simp at h) mainSmall.short) ?_
  rw [alive_value]
  refine Ow.go rfl ?_
  simp (disch := (first | assumption | omega | (simp only [lenS, lenT, UInt64.reduceToNat]; try omega))) only [↓Sx.S0, Sx.S1, Tryz.fx, uWY_1, Nat.reduceAdd, Nat.reducePow, Int.reducePow, Nat.reduceBEq, ↓reduceIte, UInt8.reduceToNat, UInt16.reduceToNat, UInt32.reduceToNat, UInt64.reduceToNat, Int.reduceToNat]
  refine Ow.build (.agg (a8 id1.l)) rfl (by kernel_rfl) ?_
  have e5 := eqId id1.l id1.l ⟨id1.h, id1.h⟩
  have e6 : (id1.l == id1.l) = true := by simp
  refine Ow.go rfl ?_
  simp (disch := (first | assumption | omega | (simp only [lenS, lenT, UInt64.reduceToNat]; try omega))) only [↓Sx.S0, Sx.S1, Tryz.fx, uWY_1, Nat.reduceAdd, Nat.reducePow, Int.reducePow, Nat.reduceBEq, ↓reduceIte, UInt8.reduceToNat, UInt16.reduceToNat, UInt32.reduceToNat, UInt64.reduceToNat, Int.reduceToNat, e5, e6]
  ((try with_reducible refine Cw.go [] ?_); (try simp (disch := (first | assumption | omega | (simp only [lenS, lenT, UInt64.reduceToNat]; try omega))) only [↓Sx.S0, Sx.S1, Tryz.fx, uWY_1, Nat.reduceAdd, Nat.reducePow, Int.reducePow, Nat.reduceBEq, ↓reduceIte, UInt8.reduceToNat, UInt16.reduceToNat, UInt32.reduceToNat, UInt64.reduceToNat, Int.reduceToNat]))
  refine ⟨_, (by simp (disch := (first | assumption | omega | (simp only [lenS, lenT, UInt64.reduceToNat]; try omega))) only [↓Sx.S0, Sx.S1, Tryz.fx, uWY_1, Nat.reduceAdd, Nat.reducePow, Int.reducePow, Nat.reduceBEq, ↓reduceIte, UInt8.reduceToNat, UInt16.reduceToNat, UInt32.reduceToNat, UInt64.reduceToNat, Int.reduceToNat]; rfl), ⟨hw6, hw2, hNN⟩, ?_⟩
  rfl
end Go.Proofs
end
section
open Go Go.Proofs Go.Sx Go.RefP
namespace Go.Proofs
set_option maxRecDepth 100000
set_option maxHeartbeats 4000000
set_option linter.unusedSimpArgs false
/-- How two texts compare. -/
def cmpS (a b : List UInt8) : Int := if ltB a b = true then -1 else if ltB b a = true then 1 else 0
theorem isNaNS (a : List UInt8) (w : World) : Calls Tryz.prog 74 #[vs a] w fun e w' => e = .returned (.bool false) ∧ w' = w := by
  unfold vs
  go_enter Tryz.func74, Tryz.ntmps74
  go_wp2
  go_ret
  exact ⟨by simp, rfl⟩
theorem cmpS_spec (a b : List UInt8) (w : World) : Calls Tryz.prog 55 #[vs a, vs b] w fun e w' => e = .returned (.int .i64 (cmpS a b)) ∧ w' = w := by
  have e7 : ∀ args w, (callFunc 74 args).run Tryz.prog w = .ok (.enter 74 args) w := Tryz.call74
  unfold vs
  go_enter Tryz.func55, Tryz.ntmps55
  go_wp2_with (go_at_call 74; refine (isNaNS _ _).mono ?_; rintro e w' ⟨rfl, hw⟩; rw [hw])
  · go_ret
    refine ⟨?_, rfl⟩
    unfold cmpS ltB
    rw [if_pos (by assumption)]
    rfl
  · rw [show (binOp .gtr 9 (Value.string { data := a.toArray }) (Value.string { data := b.toArray })).run Tryz.prog w = .ok (.bool (ltB b a)) w by have h := run_binV (P := Tryz.prog) (t := 9) w (bin_gtr_s a b); rw [leq_lt, Bool.not_not] at h; exact h]
    go_wp2
    · go_ret
      refine ⟨?_, rfl⟩
      rename_i h1 _ _ h2
      unfold cmpS
      rw [if_neg (by unfold ltB; simp_all), if_pos (by simp_all)]
      rfl
    · go_ret
      refine ⟨?_, rfl⟩
      unfold cmpS
      rw [if_neg (by unfold ltB; simp_all), if_neg (by simp_all)]
      rfl
/-- The comparison of two refs: two blocks are laid. -/
theorem cmpRef_spec (x y : RefL) (W : World) : Calls Tryz.prog 54 #[.agg (refC x).toArray, .agg (refC y).toArray] W fun e w' => e = .returned (.int .i64 (cmpS x.name y.name)) ∧ ∃ q os', w' = Go.Sort.grow (W.drewN q) os' := by
  have hcon := fun W' => cmpS_spec x.name y.name W'
  obtain ⟨cx, hcx⟩ : ∃ cx, refC x = vs x.name :: cx := ⟨_, rfl⟩
  obtain ⟨cy, hcy⟩ : ∃ cy, refC y = vs y.name :: cy := ⟨_, rfl⟩
  rw [hcx, hcy]
  generalize cmpS x.name y.name = r at hcon ⊢
  generalize vs x.name = a at hcon ⊢
  generalize vs y.name = b at hcon ⊢
  go_enter Tryz.func54, Tryz.ntmps54
  go_wp2_with (go_at_call 55; refine (hcon _).mono ?_; rintro e w' ⟨rfl, rfl⟩)
  go_ret
  exact ⟨rfl, 0, _, by rw [Go.Sort.alloc_eq_grow, Go.Sort.alloc_eq_grow, Go.Sort.grow_grow]; rfl⟩
end Go.Proofs
end
namespace Go.Sx
open Go Go.Proofs Go.Shelf Go.Sort
section
variable {α : Type} [Inhabited α] {enc : α → List Value} {k : Nat}
theorem flat_get (hk : ∀ x, (enc x).length = k) : ∀ (l : List α) (t : Nat), t < l.length * k → (l.map enc).flatten[t]? = some ((enc l[t / k]!)[t % k]!)
  | [], t, h => by simp at h
  | x :: r, t, h => by
    have k0 : 0 < k := by
      rcases Nat.eq_zero_or_pos k with h0 | h0
      · subst h0; simp at h
      · exact h0
    rw [List.map_cons, List.flatten_cons]
    by_cases ht : t < k
    · rw [List.getElem?_append_left (by rw [hk]; exact ht), Nat.div_eq_of_lt ht, Nat.mod_eq_of_lt ht]
      simp only [List.getElem!_cons_zero]
      rw [getElem!_pos (enc x) t (by rw [hk]; exact ht), List.getElem?_eq_getElem]
    · obtain ⟨u, rfl⟩ : ∃ u, t = k + u := ⟨t - k, by omega⟩
      have hl : (x :: r).length * k = r.length * k + k := by rw [List.length_cons, Nat.add_mul, Nat.one_mul]
      rw [List.getElem?_append_right (by rw [hk]; omega), hk, Nat.add_sub_cancel_left, flat_get hk r u (by omega)]
      rw [Nat.add_div_left u k0, Nat.add_mod_left]
      simp
theorem flatK_eq (hk : ∀ x, (enc x).length = k) (l : List α) : flatK enc k l.toArray = (l.map enc).flatten.toArray := by
  have hl : (l.map enc).flatten.length = l.length * k := by
    induction l with
    | nil => simp
    | cons x r ih => rw [List.map_cons, List.flatten_cons, List.length_append, ih, hk, List.length_cons, Nat.add_mul, Nat.one_mul]; omega
  apply Array.ext
  · rw [size_flatK, List.size_toArray, List.size_toArray, hl]
  · intro t h1 h2
    rw [size_flatK, List.size_toArray] at h1
    have h := flat_get hk l t h1
    have h3 := get_flatK enc k l.toArray t (by rw [List.size_toArray]; exact h1)
    rw [getElem!_pos _ t (by rw [size_flatK, List.size_toArray]; exact h1)] at h3
    rw [h3]
    have h4 : (l.map enc).flatten.toArray[t]? = some ((enc l[t / k]!)[t % k]!) := by rw [List.getElem?_toArray]; exact h
    rw [Array.getElem?_eq_getElem h2] at h4
    have := Option.some.inj h4
    rw [this]
    simp
theorem putCells_row {F F' rest : List Value} (h : F.length = F'.length) : putCells id 0 F'.toArray (F ++ rest).toArray = (F' ++ rest).toArray := by
  unfold putCells
  apply Array.ext
  · simp [h]
  · intro t h1 h2
    simp only [Array.getElem_mapIdx, List.getElem_toArray, List.size_toArray, Nat.zero_le, true_and, Nat.zero_add, Nat.sub_zero, id]
    split
    · rename_i ht
      rw [getElem!_pos _ t (by simpa using ht), List.getElem_toArray, List.getElem_append_left ht]
    · rename_i ht
      rw [List.getElem_append_right (by omega), List.getElem_append_right (by omega)]
      simp only [h]
/-- A row is sorted. -/
theorem sort_rets {P : Program} {ρ : Ren} (L : SlLaysF0.n6 P ρ) (aE : ∀ w, (isAgg (ρ.t 24)).run P w = .ok true w) (zE : ∀ w, (Go.sizeOf (ρ.t 24)).run P w = .ok k w) (hk : ∀ x, (enc x).length = k) (h1 : ∀ x, ∀ v ∈ enc x, v.oneCell' = true) (cf : α → α → Int) (hO : SWO (ltOf cf)) (g : FuncId)
    (eg : ∀ args w, (callFunc g args).run P w = .ok (.enter g args) w) (hcmp : ∀ x y W, Calls P g #[.agg (enc x).toArray, .agg (enc y).toArray] W fun e w' => e = .returned (.int .i64 (cf x y)) ∧ ∃ q os', w' = grow (W.drewN q) os')
    {w : World} {b c : Nat} {E : TypeId} {l : List α} {rest : List Value} (hb : w.heap[b]? = some (.cells ((l.map enc).flatten ++ rest).toArray E (0, 0))) (hsz : l.length < 4611686018427387904) :
    Rets P (ρ.f 6) #[vsl b 0 l.length c, .func (.func g) #[] #[]] w (fun v D => ∃ o, D = [(b, o)] ∧ v = .tuple #[] ∧ ∃ l' : List α, l'.Perm l ∧ l'.Pairwise (fun x y => ltOf cf y x = false) ∧ o = .cells ((l'.map enc).flatten ++ rest).toArray E (0, 0)) := by
  have hbl := (Array.getElem?_eq_some_iff.1 hb).1
  have hH : HoldsK enc k w b 0 l.toArray := by
    unfold HoldsK Holds
    intro t ht
    rw [size_flatK, List.size_toArray] at ht
    rw [get_flatK _ _ _ _ (by rw [List.size_toArray]; exact ht)]
    have h := flat_get hk l t ht
    have hlt := (List.getElem?_eq_some_iff.1 h).1
    refine ⟨?_, ?_⟩
    · simp only [World.cell?, hb, Option.isSome_none, Bool.false_eq_true, ↓reduceIte, Nat.zero_add, List.getElem?_toArray, id]
      rw [List.getElem?_append_left hlt, h]; simp
    · simp only [World.frozen?, hb]; simp
  have hcon := AnyQ.slices_SortFunc L k aE zE enc hk h1 cf hO g #[] b 0 c l.toArray w eg (fun m os dk _ x y => hcmp x y _) hH hbl (by rw [List.size_toArray]; exact hsz)
  refine Calls.mono hcon ?_
  rintro e w' ⟨rfl, d', n, os, hp, hs, rfl⟩
  obtain ⟨l', rfl⟩ : ∃ l' : List α, d' = l'.toArray := ⟨d'.toList, by simp⟩
  obtain ⟨hz, -, hp⟩ := hp
  rw [List.size_toArray, List.size_toArray] at hz
  have hfl : ∀ m : List α, (m.map enc).flatten.length = m.length * k := fun m => by
    have := congrArg Array.size (flatK_eq (enc := enc) hk m)
    rw [size_flatK, List.size_toArray, List.size_toArray] at this
    exact this.symm
  have hob : (sortWorldK enc k w b 0 n l'.toArray os).heap[b]? = some (.cells ((l'.map enc).flatten ++ rest).toArray E (0, 0)) := by
    show ((w.heap.modify b (onCells (putCells id 0 (flatK enc k l'.toArray)))) ++ os)[b]? = _
    rw [Array.getElem?_append_left (by rw [Array.size_modify]; exact hbl), Array.getElem?_modify, if_pos rfl, hb, flatK_eq hk, Option.map_some]
    simp only [onCells]
    rw [putCells_row (by rw [hfl, hfl, hz])]
  refine ⟨.tuple #[], [(b, _)], rfl, ⟨?_, by simp [keys], ?_, ?_, rfl, rfl, rfl⟩, _, rfl, rfl, l', ?_, ?_, rfl⟩
  · intro b' o' hm
    simp only [List.mem_singleton, Prod.mk.injEq] at hm
    rw [hm.1, hm.2]; exact hob
  · intro b' hb' hn
    have hne : b ≠ b' := fun h => hn (by simp [keys, h])
    show ((w.heap.modify b (onCells (putCells id 0 (flatK enc k l'.toArray)))) ++ os)[b']? = _
    rw [Array.getElem?_append_left (by rw [Array.size_modify]; exact hb'), Array.getElem?_modify, if_neg hne]
  · show w.heap.size ≤ ((w.heap.modify b (onCells (putCells id 0 (flatK enc k l'.toArray)))) ++ os).size
    rw [Array.size_append, Array.size_modify]; omega
  · have h2 : List.take l.length l' = l' := List.take_of_length_le (by omega)
    rw [← h2]
    simpa using hp
  · rw [List.pairwise_iff_getElem]
    intro i j hi hj hij
    have := hs i j (Nat.zero_le _) hij (by rw [List.size_toArray]; omega)
    simpa [hi, hj] using this
/-- No element. -/
theorem sort_none {P : Program} {ρ : Ren} (L : SlLaysF0.n6 P ρ) (p : Option Addr) (c : Nat) (fv : Value) (w : World) : Rets P (ρ.f 6) #[.slice p 0 c, fv] w (fun v D => v = .tuple #[] ∧ D = []) :=
  Calls.mono (AnyF.slices_SortFunc_none L p c fv w) fun _ _ ⟨he, hw⟩ => ⟨_, [], he, by rw [hw]; exact Hp.refl w, rfl, rfl⟩
end
end Go.Sx
section
namespace Go.Proofs
open Go Go.Shelf
set_option maxRecDepth 100000
def Tryz.sortRef_ren : Go.Shelf.Ren := ⟨fun | 6 => 53 | 15 => 58 | 14 => 73 | 28 => 83 | 29 => 84 | 20 => 91 | 21 => 92 | 22 => 93 | 23 => 94 | 24 => 95 | 25 => 96 | 26 => 97 | 27 => 98 | 46 => 108 | 47 => 100 | 48 => 101 | 49 => 109 | 50 => 110 | 57 => 112 | n => n, fun | 22 => 22 | 24 => 48 | 25 => 96 | 3 => 3 | 39 => 101 | 0 => 0 | 53 => 103 | 55 => 127 | 4 => 4 | 46 => 119 | 45 => 118 | 50 => 123 | 5 => 5 | 9 => 9 | 66 => 139 | 70 => 143 | 76 => 150 | 77 => 151 | n => n, fun | n => n⟩
theorem Tryz.sortRef : Go.Proofs.SlLaysF0.n6 Tryz.prog Tryz.sortRef_ren := {
  mixed := by kernel_rfl
  f6 := ⟨Tryz.f53.name, by decide, Tryz.func53.trans (congrArg some (by kernel_rfl))⟩
  f14 := ⟨Tryz.f73.name, by decide, Tryz.func73.trans (congrArg some (by kernel_rfl))⟩
  f15 := Tryz.func58.trans (congrArg some (by kernel_rfl))
  f20 := ⟨Tryz.f91.name, by decide, Tryz.func91.trans (congrArg some (by kernel_rfl))⟩
  f21 := ⟨Tryz.f92.name, by decide, Tryz.func92.trans (congrArg some (by kernel_rfl))⟩
  f22 := ⟨Tryz.f93.name, by decide, Tryz.func93.trans (congrArg some (by kernel_rfl))⟩
  f23 := ⟨Tryz.f94.name, by decide, Tryz.func94.trans (congrArg some (by kernel_rfl))⟩
  f24 := ⟨Tryz.f95.name, by decide, Tryz.func95.trans (congrArg some (by kernel_rfl))⟩
  f25 := ⟨Tryz.f96.name, by decide, Tryz.func96.trans (congrArg some (by kernel_rfl))⟩
  f26 := ⟨Tryz.f97.name, by decide, Tryz.func97.trans (congrArg some (by kernel_rfl))⟩
  f27 := ⟨Tryz.f98.name, by decide, Tryz.func98.trans (congrArg some (by kernel_rfl))⟩
  f28 := Tryz.func83.trans (congrArg some (by kernel_rfl))
  f29 := Tryz.func84.trans (congrArg some (by kernel_rfl))
  f46 := ⟨Tryz.f108.name, by decide, Tryz.func108.trans (congrArg some (by kernel_rfl))⟩
  f47 := Tryz.func100.trans (congrArg some (by kernel_rfl))
  f48 := Tryz.func101.trans (congrArg some (by kernel_rfl))
  f49 := ⟨Tryz.f109.name, by decide, Tryz.func109.trans (congrArg some (by kernel_rfl))⟩
  f50 := ⟨Tryz.f110.name, by decide, Tryz.func110.trans (congrArg some (by kernel_rfl))⟩
  f57 := ⟨Tryz.f112.name, by decide, Tryz.func112.trans (congrArg some (by kernel_rfl))⟩
  t0 := Tryz.underlying0
  a0 := Tryz.isAgg0
  z0 := Tryz.sizeOf0
  v0 := Tryz.zeroValue0
  t3 := Tryz.underlying3
  a3 := Tryz.isAgg3
  z3 := Tryz.sizeOf3
  v3 := Tryz.zeroValue3
  t4 := Tryz.underlying4
  a4 := Tryz.isAgg4
  z4 := Tryz.sizeOf4
  v4 := Tryz.zeroValue4
  t5 := Tryz.underlying5
  a5 := Tryz.isAgg5
  z5 := Tryz.sizeOf5
  v5 := Tryz.zeroValue5
  t9 := Tryz.underlying9
  a9 := Tryz.isAgg9
  z9 := Tryz.sizeOf9
  v9 := Tryz.zeroValue9
  t22 := Tryz.underlying22
  a22 := Tryz.isAgg22
  z22 := Tryz.sizeOf22
  v22 := Tryz.zeroValue22
  t25 := Tryz.underlying96
  a25 := Tryz.isAgg96
  z25 := Tryz.sizeOf96
  v25 := Tryz.zeroValue96
  t39 := Tryz.underlying101
  a39 := Tryz.isAgg101
  z39 := Tryz.sizeOf101
  v39 := Tryz.zeroValue101
  t45 := Tryz.underlying118
  a45 := Tryz.isAgg118
  z45 := Tryz.sizeOf118
  v45 := Tryz.zeroValue118
  t46 := Tryz.underlying119
  a46 := Tryz.isAgg119
  z46 := Tryz.sizeOf119
  v46 := Tryz.zeroValue119
  t50 := Tryz.underlying123
  a50 := Tryz.isAgg123
  z50 := Tryz.sizeOf123
  v50 := Tryz.zeroValue123
  t53 := Tryz.underlying103
  a53 := Tryz.isAgg103
  z53 := Tryz.sizeOf103
  v53 := Tryz.zeroValue103
  t55 := Tryz.underlying127
  a55 := Tryz.isAgg127
  z55 := Tryz.sizeOf127
  v55 := Tryz.zeroValue127
  t66 := Tryz.underlying139
  a66 := Tryz.isAgg139
  z66 := Tryz.sizeOf139
  v66 := Tryz.zeroValue139
  t70 := Tryz.underlying143
  a70 := Tryz.isAgg143
  z70 := Tryz.sizeOf143
  v70 := Tryz.zeroValue143
  t76 := Tryz.underlying150
  a76 := Tryz.isAgg150
  z76 := Tryz.sizeOf150
  v76 := Tryz.zeroValue150
  t77 := Tryz.underlying151
  a77 := Tryz.isAgg151
  z77 := Tryz.sizeOf151
  v77 := Tryz.zeroValue151 }
def Tryz.sortId_ren : Go.Shelf.Ren := ⟨fun | 6 => 30 | 15 => 58 | 14 => 57 | 28 => 83 | 29 => 84 | 20 => 75 | 21 => 76 | 22 => 77 | 23 => 78 | 24 => 79 | 25 => 80 | 26 => 81 | 27 => 82 | 46 => 99 | 47 => 100 | 48 => 101 | 49 => 102 | 50 => 103 | 57 => 111 | n => n, fun | 22 => 36 | 24 => 34 | 25 => 71 | 3 => 3 | 39 => 101 | 0 => 0 | 53 => 103 | 55 => 127 | 4 => 4 | 46 => 119 | 45 => 118 | 50 => 123 | 5 => 5 | 9 => 9 | 66 => 139 | 70 => 143 | 76 => 150 | 77 => 151 | n => n, fun | n => n⟩
theorem Tryz.sortId : Go.Proofs.SlLaysF0.n6 Tryz.prog Tryz.sortId_ren := {
  mixed := by kernel_rfl
  f6 := ⟨Tryz.f30.name, by decide, Tryz.func30.trans (congrArg some (by kernel_rfl))⟩
  f14 := ⟨Tryz.f57.name, by decide, Tryz.func57.trans (congrArg some (by kernel_rfl))⟩
  f15 := Tryz.func58.trans (congrArg some (by kernel_rfl))
  f20 := ⟨Tryz.f75.name, by decide, Tryz.func75.trans (congrArg some (by kernel_rfl))⟩
  f21 := ⟨Tryz.f76.name, by decide, Tryz.func76.trans (congrArg some (by kernel_rfl))⟩
  f22 := ⟨Tryz.f77.name, by decide, Tryz.func77.trans (congrArg some (by kernel_rfl))⟩
  f23 := ⟨Tryz.f78.name, by decide, Tryz.func78.trans (congrArg some (by kernel_rfl))⟩
  f24 := ⟨Tryz.f79.name, by decide, Tryz.func79.trans (congrArg some (by kernel_rfl))⟩
  f25 := ⟨Tryz.f80.name, by decide, Tryz.func80.trans (congrArg some (by kernel_rfl))⟩
  f26 := ⟨Tryz.f81.name, by decide, Tryz.func81.trans (congrArg some (by kernel_rfl))⟩
  f27 := ⟨Tryz.f82.name, by decide, Tryz.func82.trans (congrArg some (by kernel_rfl))⟩
  f28 := Tryz.func83.trans (congrArg some (by kernel_rfl))
  f29 := Tryz.func84.trans (congrArg some (by kernel_rfl))
  f46 := ⟨Tryz.f99.name, by decide, Tryz.func99.trans (congrArg some (by kernel_rfl))⟩
  f47 := Tryz.func100.trans (congrArg some (by kernel_rfl))
  f48 := Tryz.func101.trans (congrArg some (by kernel_rfl))
  f49 := ⟨Tryz.f102.name, by decide, Tryz.func102.trans (congrArg some (by kernel_rfl))⟩
  f50 := ⟨Tryz.f103.name, by decide, Tryz.func103.trans (congrArg some (by kernel_rfl))⟩
  f57 := ⟨Tryz.f111.name, by decide, Tryz.func111.trans (congrArg some (by kernel_rfl))⟩
  t0 := Tryz.underlying0
  a0 := Tryz.isAgg0
  z0 := Tryz.sizeOf0
  v0 := Tryz.zeroValue0
  t3 := Tryz.underlying3
  a3 := Tryz.isAgg3
  z3 := Tryz.sizeOf3
  v3 := Tryz.zeroValue3
  t4 := Tryz.underlying4
  a4 := Tryz.isAgg4
  z4 := Tryz.sizeOf4
  v4 := Tryz.zeroValue4
  t5 := Tryz.underlying5
  a5 := Tryz.isAgg5
  z5 := Tryz.sizeOf5
  v5 := Tryz.zeroValue5
  t9 := Tryz.underlying9
  a9 := Tryz.isAgg9
  z9 := Tryz.sizeOf9
  v9 := Tryz.zeroValue9
  t22 := Tryz.underlying36
  a22 := Tryz.isAgg36
  z22 := Tryz.sizeOf36
  v22 := Tryz.zeroValue36
  t25 := Tryz.underlying71
  a25 := Tryz.isAgg71
  z25 := Tryz.sizeOf71
  v25 := Tryz.zeroValue71
  t39 := Tryz.underlying101
  a39 := Tryz.isAgg101
  z39 := Tryz.sizeOf101
  v39 := Tryz.zeroValue101
  t45 := Tryz.underlying118
  a45 := Tryz.isAgg118
  z45 := Tryz.sizeOf118
  v45 := Tryz.zeroValue118
  t46 := Tryz.underlying119
  a46 := Tryz.isAgg119
  z46 := Tryz.sizeOf119
  v46 := Tryz.zeroValue119
  t50 := Tryz.underlying123
  a50 := Tryz.isAgg123
  z50 := Tryz.sizeOf123
  v50 := Tryz.zeroValue123
  t53 := Tryz.underlying103
  a53 := Tryz.isAgg103
  z53 := Tryz.sizeOf103
  v53 := Tryz.zeroValue103
  t55 := Tryz.underlying127
  a55 := Tryz.isAgg127
  z55 := Tryz.sizeOf127
  v55 := Tryz.zeroValue127
  t66 := Tryz.underlying139
  a66 := Tryz.isAgg139
  z66 := Tryz.sizeOf139
  v66 := Tryz.zeroValue139
  t70 := Tryz.underlying143
  a70 := Tryz.isAgg143
  z70 := Tryz.sizeOf143
  v70 := Tryz.zeroValue143
  t76 := Tryz.underlying150
  a76 := Tryz.isAgg150
  z76 := Tryz.sizeOf150
  v76 := Tryz.zeroValue150
  t77 := Tryz.underlying151
  a77 := Tryz.isAgg151
  z77 := Tryz.sizeOf151
  v77 := Tryz.zeroValue151 }
end Go.Proofs
end
section
open Go Go.Proofs Go.Sx Go.RefP Go.Shelf Go.Sort
namespace Go.Proofs
set_option maxRecDepth 100000
set_option maxHeartbeats 4000000
theorem cmpS_neg (a b : List UInt8) : cmpS a b < 0 ↔ ltB a b = true := by
  unfold cmpS
  split
  · simp [*]
  · split <;> simp [*]
theorem ltRef (x y : RefL) : ltOf (fun x y : RefL => cmpS x.name y.name) x y = ltB x.name y.name := by
  unfold ltOf
  rw [Bool.eq_iff_iff, decide_eq_true_eq, cmpS_neg]
theorem swoRef : SWO (ltOf fun x y : RefL => cmpS x.name y.name) where
  irrefl x := by rw [ltRef]; exact ltB_irrefl x.name
  trans x y z h1 h2 := by rw [ltRef] at *; exact ltB_trans h1 h2
  ntrans x y z h1 h2 := by
    rw [ltRef] at *
    cases h : ltB x.name z.name
    · rfl
    · by_cases hxy : x.name = y.name
      · rw [hxy, h2] at h; cases h
      · rw [ltB_trans (ltB_total h1 fun e => hxy e) h] at h2
        cases h2
theorem refC_cells (x : RefL) : ∀ v ∈ refC x, v.oneCell' = true := fun v hv => List.all_eq_true.1 (refC_one x) v hv
theorem sortRef_spec {b c : Nat} {l : List RefL} {rest : List Value} {E : TypeId} (w : World) (hb : w.heap[b]? = some (.cells ((l.map refC).flatten ++ rest).toArray E (0, 0))) (hsz : l.length < 4611686018427387904) :
    Rets Tryz.prog 53 #[vsl b 0 l.length c, .func (.func 54) #[] #[]] w
      (fun v D => ∃ o, D = [(b, o)] ∧ v = .tuple #[] ∧ ∃ l' : List RefL, l'.Perm l ∧ l'.Pairwise (fun x y => ltB y.name x.name = false) ∧ o = .cells ((l'.map refC).flatten ++ rest).toArray E (0, 0)) := by
  have h := @sort_rets RefL ⟨ref0⟩ refC 33 Tryz.prog Tryz.sortRef_ren Tryz.sortRef Tryz.isAgg48 Tryz.sizeOf48 refC_len refC_cells (fun x y => cmpS x.name y.name) swoRef 54 Tryz.call54 cmpRef_spec w b c E l rest hb hsz
  refine Rets.mono h ?_
  rintro v D ⟨o, rfl, rfl, l', hp, hs, rfl⟩
  exact ⟨_, rfl, rfl, l', hp, hs.imp fun {x y} h => (ltRef y x).symm.trans h, rfl⟩
theorem sortRef_none (p : Option Addr) (c : Nat) (fv : Value) (w : World) : Rets Tryz.prog 53 #[.slice p 0 c, fv] w (fun v D => v = .tuple #[] ∧ D = []) :=
  @sort_none Tryz.prog Tryz.sortRef_ren Tryz.sortRef p c fv w
end Go.Proofs
end
namespace Go.Sx
open Go
def kv (e : MapEntry) : Value × Value := (e.key, e.val)
/-- An iterator over a map of m: what it has told, and what is left. -/
def ItR (o : Obj) (bm : Nat) (om : Obj) (m dn lf : Vals) : Prop :=
  ∃ es clock, ∃ ds : List MapEntry, om = .map es clock ∧ (es.toList.map (·.born) ++ [clock]).Pairwise (· < ·) ∧ o = .mapIter (some bm) clock (ds.map (·.born)).toArray clock ∧
    ds.map kv = dn.map pairV ∧ (∀ d, d ∈ ds → d ∈ es.toList) ∧ ((es.toList.filter fun e => !(ds.map (·.born)).contains e.born).map kv = lf.map pairV) ∧ (dn ++ lf).Perm m
theorem born_nodup {l : List MapEntry} {c : Nat} (h : (l.map (·.born) ++ [c]).Pairwise (· < ·)) : (l.map (·.born)).Nodup :=
  ((List.pairwise_append.1 h).1).imp fun h => Nat.ne_of_lt h
theorem born_lt {l : List MapEntry} {c : Nat} (h : (l.map (·.born) ++ [c]).Pairwise (· < ·)) : ∀ x, x ∈ l → x.born < c := fun x hx =>
  (List.pairwise_append.1 h).2.2 _ (List.mem_map.2 ⟨x, hx, rfl⟩) c (List.mem_singleton.2 rfl)
theorem left_list (es : Array MapEntry) (ds : List MapEntry) : (leftOf es (ds.map (·.born)).toArray).toList = es.toList.filter fun e => !(ds.map (·.born)).contains e.born := by
  unfold leftOf
  rw [Array.toList_filter]
  simp
theorem ItR.start {bm : Nat} {om : Obj} {m : Vals} (h : MapR om m) : ∃ es clock, om = .map es clock ∧ ItR (.mapIter (some bm) clock #[] clock) bm om m [] m := by
  obtain ⟨es, clock, rfl, h1, h2⟩ := h
  refine ⟨es, clock, rfl, es, clock, [], rfl, h2, rfl, rfl, (fun d hd => by cases hd), ?_, by rw [List.nil_append]⟩
  rw [show (es.toList.filter fun e => !(([] : List MapEntry).map (·.born)).contains e.born) = es.toList from List.filter_eq_self.2 (fun _ _ => rfl)]
  exact h1
/-- A step. -/
theorem ItR.step {bm : Nat} {om : Obj} {m dn lf : Vals} {es : Array MapEntry} {clock : Nat} {ds : List MapEntry} {e : MapEntry} (hb : (es.toList.map (·.born) ++ [clock]).Pairwise (· < ·))
    (hd : ds.map kv = dn.map pairV) (hm : ∀ d, d ∈ ds → d ∈ es.toList) (hl : (es.toList.filter fun e => !(ds.map (·.born)).contains e.born).map kv = lf.map pairV) (hp : (dn ++ lf).Perm m)
    (he : e ∈ es.toList.filter fun e => !(ds.map (·.born)).contains e.born) (hom : om = .map es clock) :
    ∃ p lf', kv e = pairV p ∧ lf.length = lf'.length + 1 ∧ ItR (.mapIter (some bm) clock ((ds.map (·.born)).toArray.push e.born) clock) bm om m (dn ++ [p]) lf' := by
  obtain ⟨A, C, hAC⟩ := List.append_of_mem he
  rw [hAC, List.map_append, List.map_cons] at hl
  obtain ⟨l1, l2, rfl, h1, h2⟩ := List.append_eq_map_iff.1 hl
  obtain ⟨p, l3, rfl, h3, h4⟩ := (List.map_eq_cons_iff.1 h2)
  refine ⟨p, l1 ++ l3, h3.symm, by simp; omega, es, clock, ds ++ [e], hom, hb, by simp, by simp [hd, h3], ?_, ?_, ?_⟩
  · intro d hd'
    rcases List.mem_append.1 hd' with h | h
    · exact hm d h
    · rw [List.mem_singleton] at h; subst h; exact (List.mem_filter.1 he).1
  · have hnd : ((A ++ e :: C).map (·.born)).Nodup := by
      rw [← hAC]
      exact (born_nodup hb).sublist ((List.filter_sublist).map _)
    have e1 : (es.toList.filter fun x => !((ds ++ [e]).map (·.born)).contains x.born) = (A ++ e :: C).filter fun x => !(x.born == e.born) := by
      rw [← hAC, List.filter_filter]
      refine List.filter_congr fun x hx => ?_
      simp only [List.map_append, List.map_cons, List.map_nil, List.contains_append, List.contains_cons, List.contains_nil, Bool.or_false, Bool.not_or]
      rw [Bool.and_comm]
    rw [List.map_append, List.map_cons, List.nodup_append] at hnd
    obtain ⟨-, hn2, hn3⟩ := hnd
    rw [List.nodup_cons] at hn2
    have e2 : ((A ++ e :: C).filter fun x => !(x.born == e.born)) = A ++ C := by
      rw [List.filter_append, List.filter_cons]
      simp only [beq_self_eq_true, Bool.not_true, Bool.false_eq_true, ↓reduceIte]
      congr 1
      · refine List.filter_eq_self.2 fun x hx => ?_
        have := hn3 x.born (List.mem_map.2 ⟨x, hx, rfl⟩) e.born List.mem_cons_self
        simpa using this
      · refine List.filter_eq_self.2 fun x hx => ?_
        have : x.born ≠ e.born := fun h => hn2.1 (h ▸ List.mem_map.2 ⟨x, hx, rfl⟩)
        simpa using this
    rw [e1, e2, List.map_append, List.map_append, h1, h4]
  · refine List.Perm.trans ?_ hp
    rw [List.append_assoc]
    refine List.Perm.append_left dn ?_
    rw [List.singleton_append]
    exact List.perm_middle.symm
section
variable {P : Program} {w0 : World} {f : Fr} {L : Heap} {N : Fr → Heap → Prop} {ops : Array Oper} {rest : List Oper} {md : Md}
  {d : Option Tmp} {ty : TypeId} {ps : String} {af : Array Edge} {g : Option (Nat × Bool)}
/-- The iterator's value. -/
def itv (b : Nat) : Value := .pointer (some ⟨b, 0, none⟩)
/-- A loop over a map begins. -/
theorem Ow.rangeMap {t kt vt : TypeId} {x : Operand} {bm : Nat} {om : Obj} {m : Vals} {md' : Md} (he : md.turn = some md') (hs : skipped ops f ⟨d, .range t x, ty, ps, af, g⟩ = false) (hu : P.underlying t = some (.map kt vt))
    (hx : ev f x = vm bm) (hl : readB w0 L bm = some om) (hm : MapR om m)
    (hn : ∀ b o, Above L b → w0.heap.size ≤ b → ItR o bm om m [] m → Ow P w0 ops md' rest (putF f d (itv b)) (L ++ [(b, o)]) N) :
    Ow P w0 ops md (⟨d, .range t x, ty, ps, af, g⟩ :: rest) f L N := by
  obtain ⟨es, clock, rfl, hI⟩ := ItR.start (bm := bm) hm
  refine Ow.step he rfl hs fun w hw => .inl ⟨itv w.heap.size, w.alloc (.mapIter (some bm) clock #[] clock), _, ?_, hw.alloc _, hn _ _ (above_of fun b hb => hw.lt hb) hw.size hI⟩
  have hb := hw.read hl
  have : (Instr.range t (vm bm)).run P w = .ok (itv w.heap.size) (w.alloc (.mapIter (some bm) clock #[] clock)) := by
    simp only [Instr.range, vm, Sem.run_bind, run_underlying hu w, Result.andThen_ok, run_getMap hb]
    rfl
  simp only [execOp, Sem.run_bind, hx]
  rw [this]; rfl
/-- A step of it. -/
theorem Ow.nextMap {x : Operand} {r bm : Nat} {o om : Obj} {m dn lf : Vals} {md' : Md} (he : md.turn = some md') (hs : skipped ops f ⟨d, .next x false, ty, ps, af, g⟩ = false)
    (hx : ev f x = itv r) (hl : look L r = some o) (hlm : readB w0 L bm = some om) (hI : ItR o bm om m dn lf)
    (h0 : lf = [] → Ow P w0 ops md' rest (putF f d (.tuple #[.bool false])) L N)
    (h1 : ∀ p o' lf', lf.length = lf'.length + 1 → ItR o' bm om m (dn ++ [p]) lf' → Ow P w0 ops md' rest (putF f d (.tuple #[.bool true, vs p.1, .agg (a8 p.2)])) (setB L r o') N) :
    Ow P w0 ops md (⟨d, .next x false, ty, ps, af, g⟩ :: rest) f L N := by
  refine Ow.step he rfl hs fun w hw => ?_
  have hr := hw.has _ _ (look_mem hl)
  have hb := hw.read hlm
  obtain ⟨es, clock, ds, rfl, hbo, rfl, hd, hm, hlf, hp⟩ := hI
  rcases run_next_at (P := P) w ty r bm clock clock (ds.map (·.born)).toArray es clock hr hb (born_lt hbo) (Nat.le_refl _) with ⟨hz, hrun⟩ | ⟨e, hem, w1, hw1, hrun⟩
  · refine .inl ⟨.tuple #[.bool false], w, L, ?_, hw, h0 ?_⟩
    · simp only [execOp, Sem.run_bind, hx, itv]
      rw [hrun]; rfl
    · have : (leftOf es (ds.map (·.born)).toArray).toList = [] := by
        rw [Array.toList_eq_nil_iff]; exact Array.eq_empty_of_size_eq_zero hz
      rw [left_list] at this
      rw [this] at hlf
      exact (List.map_eq_nil_iff.1 hlf.symm)
  · rw [left_list] at hem
    obtain ⟨p, lf', hk, hlen, hI'⟩ := ItR.step (bm := bm) hbo hd hm hlf hp hem rfl
    simp only [kv, pairV, Prod.mk.injEq] at hk
    have hw1' : Hp w0 L w1 := by rcases hw1 with rfl | rfl; exact hw; exact hw.drew
    refine .inl ⟨.tuple #[.bool true, vs p.1, .agg (a8 p.2)], ChangeMaps.setBlock w1 r (.mapIter (some bm) clock ((ds.map (·.born)).toArray.push e.born) clock), _, ?_, hw1'.set (key_of_look hl) rfl rfl rfl rfl, h1 p _ lf' hlen hI'⟩
    simp only [execOp, Sem.run_bind, hx, itv]
    rw [hrun, hk.1, hk.2]; rfl
/-- What a step told. -/
theorem Ow.entryMap {x : Operand} {r bm : Nat} {o om : Obj} {m dn lf : Vals} {p : List UInt8 × List UInt8} {md' : Md} (he : md.turn = some md') (hs : skipped ops f ⟨d, .entry x, ty, ps, af, g⟩ = false)
    (hx : ev f x = itv r) (hl : readB w0 L r = some o) (hlm : readB w0 L bm = some om) (hI : ItR o bm om m (dn ++ [p]) lf)
    (hn : Ow P w0 ops md' rest (putF f d (.tuple #[vs p.1, .agg (a8 p.2)])) L N) :
    Ow P w0 ops md (⟨d, .entry x, ty, ps, af, g⟩ :: rest) f L N := by
  refine Ow.step he rfl hs fun w hw => .inl ⟨_, w, L, ?_, hw, hn⟩
  have hr := hw.read hl
  have hb := hw.read hlm
  obtain ⟨es, clock, ds, rfl, hbo, rfl, hd, hm, hlf, hp⟩ := hI
  rw [List.map_append, List.map_cons, List.map_nil] at hd
  obtain ⟨d1, d2, rfl, -, h2⟩ := List.map_eq_append_iff.1 hd
  obtain ⟨e, d3, rfl, h3, h4⟩ := List.map_eq_cons_iff.1 h2
  obtain rfl := List.map_eq_nil_iff.1 h4
  simp only [kv, pairV, Prod.mk.injEq] at h3
  have hs' : ((d1 ++ [e]).map (·.born)).toArray = (d1.map (·.born)).toArray.push e.born := by simp
  rw [hs'] at hr
  have hrun := run_entry_at (P := P) w r bm clock (d1.map (·.born)).toArray es clock e hr hb (hm e (by simp)) (born_nodup hbo)
  simp only [execOp, Sem.run_bind, hx, itv]
  rw [hrun, h3.1, h3.2]; rfl
end
end Go.Sx
section
open Go Go.Proofs Go.Sx Go.RefP
namespace Go.Proofs
set_option maxRecDepth 10000
set_option maxHeartbeats 4000000
set_option linter.unusedSimpArgs false
theorem prs_inj : ∀ {a b : List RefL}, prs a = prs b → a = b
  | [], [], _ => rfl
  | [], _ :: _, h => by cases h
  | _ :: _, [], h => by cases h
  | ⟨n, i, hi⟩ :: a, ⟨n2, i2, hi2⟩ :: b, h => by
    unfold prs at h
    simp only [List.map_cons, List.cons.injEq, Prod.mk.injEq] at h
    obtain ⟨⟨rfl, rfl⟩, h⟩ := h
    rw [prs_inj (show prs a = prs b from h)]
/-- Two rising lists of the same are one. -/
theorem rising_one : ∀ {a b : Vals}, Rising a → Rising b → a.Perm b → a = b
  | [], b, _, _, h => (List.Perm.nil_eq h)
  | x :: a, [], _, _, h => by have := h.length_eq; simp at this
  | x :: a, y :: b, ha, hb, h => by
    have hxy : x = y := by
      rcases List.mem_cons.1 (h.mem_iff.1 (List.mem_cons_self (a := x) (l := a))) with e | e
      · exact e
      · rcases List.mem_cons.1 (h.mem_iff.2 (List.mem_cons_self (a := y) (l := b))) with e2 | e2
        · exact e2.symm
        · have h1 := (List.pairwise_cons.1 ha).1 y e2
          have h2 := (List.pairwise_cons.1 hb).1 x e
          rw [ltB_asymm h1] at h2; cases h2
    subst hxy
    rw [rising_one (List.pairwise_cons.1 ha).2 (List.pairwise_cons.1 hb).2 ((List.perm_cons x).1 h)]
/-- What is sorted is the document's. -/
theorem sorted_one {o l' ls : List RefL} {m : Vals} (ho : (prs o).Perm m) (hr : Rel m (prs ls)) (hp : l'.Perm o) (hs : l'.Pairwise (fun x y => ltB y.name x.name = false)) : l' = ls := by
  have h1 : (prs l').Perm (prs ls) := ((hp.map _).trans ho).trans hr.1
  refine prs_inj (rising_one ?_ hr.2 h1)
  have hnd : ((prs l').map Prod.fst).Nodup := ((h1.map Prod.fst).nodup_iff).2 hr.2.nd
  unfold prs at hnd ⊢
  rw [List.map_map] at hnd
  unfold Rising
  rw [List.pairwise_map]
  have hne : l'.Pairwise (fun x y => x.name ≠ y.name) := List.pairwise_map.1 hnd
  refine (hs.and hne).imp ?_
  rintro x y ⟨ha, hb⟩
  exact ltB_total ha fun e => hb e.symm
def toR (p : List UInt8 × List UInt8) : RefL := ⟨p.1, mkId p.2⟩
theorem toR_pr {p : List UInt8 × List UInt8} (h : p.2.length = 32) : (toR p).name = p.1 ∧ (toR p).id.l = p.2 := by
  unfold toR; exact ⟨rfl, by show (mkId p.2).l = p.2; rw [mkId_eq h]⟩
theorem tp1 (a : Value) : (#[a] : Array Value)[0]? = some a := rfl
theorem tp3 (a b c : Value) : (#[a, b, c] : Array Value)[0]? = some a := rfl
structure LG where
  v : Value
  o : List RefL
  D : Heap
  it : Obj
  lf : Vals
set_option linter.defProp false
def uWZ2_1 := And.intro (And.intro (And.intro (And.intro (@rdIn_v8) (@rdIn_v16)) (And.intro (@rdIn_v32) (@rdIn_v64))) (And.intro (And.intro (@rdIn_vi) (@load_ref0)) (And.intro (@load_ref1) (And.intro (@cells_ref) (@eqIdz))))) (And.intro (And.intro (And.intro (@store_rr) (@load_ref)) (And.intro (@load_bk0) (@load_bk1))) (And.intro (And.intro (@load_bk) (@tup2_0)) (And.intro (@tup2_1) (And.intro (@tp1) (@tp3)))))
theorem list_spec (b : Nat) (om : Obj) (m : Vals) (ls : List RefL) (w : World) (ho : w.heap[b]? = some om) (hm : MapR om m) (hr : Rel m (prs ls)) (hlen : ls.length < 1000) :
    Rets Tryz.prog 28 #[vm b] w (XS w [] (fun v D => GrI D 48 33 v ls.length (ls.map refC).flatten)) := by
  have hbl := (Array.getElem?_eq_some_iff.1 ho).1
  have hml : m.length = ls.length := by rw [hr.1.length_eq, prs_len]
  have hid : ∀ p, p ∈ m → p.2.length = 32 := fun p hp => by
    have h1 := (hr.1.mem_iff).1 hp
    unfold prs at h1
    obtain ⟨r, -, rfl⟩ := List.mem_map.1 h1
    exact r.id.h
  have zrId : zeroV Tryz.prog 34 = some (.agg (a8 (List.replicate 32 0))) := Tryz.zr34
  rw [show (List.replicate 32 (0 : UInt8)) = z32 from rfl] at zrId
  refine Rets.enterX Tryz.func28 rfl (rs := [.tmp 2]) Tryz.results28 Tryz.ntmps28 (fun p hp => by cases hp) (by simp [keys]) ?_
  simp only [List.size_toArray, List.length_cons, List.length_nil, Nat.reduceAdd, Nat.reduceSub, List.replicate_succ, List.replicate_zero, List.cons_append, List.nil_append]
  ((try with_reducible refine Cw.go [] ?_); (try simp (disch := (first | assumption | omega | (simp only [lenS, lenT, UInt64.reduceToNat]; try omega))) only [↓Sx.S0, Sx.S1, Tryz.fx, uWZ2_1, Nat.reduceAdd, Nat.reducePow, Int.reducePow, Nat.reduceBEq, ↓reduceIte, UInt8.reduceToNat, UInt16.reduceToNat, UInt32.reduceToNat, UInt64.reduceToNat, Int.reduceToNat]))
  refine Ow.rangeMap rfl rfl Tryz.underlying64 rfl ho hm fun bi oi hbi hwi hI => ?_
  refine Ow.go rfl ?_
  simp (disch := (first | assumption | omega | (simp only [lenS, lenT, UInt64.reduceToNat]; try omega))) only [↓Sx.S0, Sx.S1, Tryz.fx, uWZ2_1, Nat.reduceAdd, Nat.reducePow, Int.reducePow, Nat.reduceBEq, ↓reduceIte, UInt8.reduceToNat, UInt16.reduceToNat, UInt32.reduceToNat, UInt64.reduceToNat, Int.reduceToNat]
  ((try with_reducible refine Cw.go [] ?_); (try simp (disch := (first | assumption | omega | (simp only [lenS, lenT, UInt64.reduceToNat]; try omega))) only [↓Sx.S0, Sx.S1, Tryz.fx, uWZ2_1, Nat.reduceAdd, Nat.reducePow, Int.reducePow, Nat.reduceBEq, ↓reduceIte, UInt8.reduceToNat, UInt16.reduceToNat, UInt32.reduceToNat, UInt64.reduceToNat, Int.reduceToNat]))
  refine Cw.loopG (G := LG) [8, 9, 10, 11, 12, 5, 4, 13, 14, 15, 16, 17, 18, 3] (fun g => [(3, g.v)]) (fun g => (bi, g.it) :: g.D) (fun g => New (bi + 1) g.D ∧ Gr g.D 48 33 g.v g.o.length (g.o.map refC).flatten ∧ ItR g.it b om m (prs g.o) g.lf ∧ g.o.length + g.lf.length = m.length) (fun g => g.lf.length) ⟨.slice none 0 0, [], [], oi, m⟩ rfl rfl ?_ ?_
  · exact ⟨trivial, Gr.nl, hI, by simp⟩
  intro g j hg
  simp only [overFrom, pin, setF_0, setF_s, List.contains_cons, List.contains_nil, Nat.reduceBEq, Bool.or_false, Bool.false_or, Bool.or_true, Bool.true_or, Nat.reduceAdd, ↓reduceIte, Bool.false_eq_true]
  obtain ⟨v, o, D, it, lf⟩ := g
  simp only at hg ⊢
  obtain ⟨hND, hGr, hI, hol⟩ := hg
  have hDb : b ∉ keys D := hND.not (by omega)
  have rdm : ∀ x, readB w ((bi, x) :: D) b = some om := fun x => by
    rw [read_other _ _ _ _ _ (by omega), read_none hDb]; exact ho
  ((try with_reducible refine Cw.go [] ?_); (try simp (disch := (first | assumption | omega | (simp only [lenS, lenT, UInt64.reduceToNat]; try omega))) only [↓Sx.S0, Sx.S1, Tryz.fx, uWZ2_1, Nat.reduceAdd, Nat.reducePow, Int.reducePow, Nat.reduceBEq, ↓reduceIte, UInt8.reduceToNat, UInt16.reduceToNat, UInt32.reduceToNat, UInt64.reduceToNat, Int.reduceToNat]))
  refine Ow.nextMap rfl rfl rfl (look_same _ _ _) (rdm _) hI (fun hlf => ?_) (fun p it' lf' hl' hI' => ?_)
  · subst hlf
    have hoo : (prs o).Perm m := by
      obtain ⟨es, clock, ds, -, -, -, -, -, -, hperm⟩ := hI
      rw [List.append_nil] at hperm; exact hperm
    have hol2 : o.length = ls.length := by simp at hol; omega
    have hzero : o.length = 0 → o = [] ∧ ls = [] := fun h => ⟨List.length_eq_zero_iff.1 h, List.length_eq_zero_iff.1 (by omega)⟩
    refine Ow.go rfl ?_
    simp (disch := (first | assumption | omega | (simp only [lenS, lenT, UInt64.reduceToNat]; try omega))) only [↓Sx.S0, Sx.S1, Tryz.fx, uWZ2_1, Nat.reduceAdd, Nat.reducePow, Int.reducePow, Nat.reduceBEq, ↓reduceIte, UInt8.reduceToNat, UInt16.reduceToNat, UInt32.reduceToNat, UInt64.reduceToNat, Int.reduceToNat]
    ((try with_reducible refine Cw.go [] ?_); (try simp (disch := (first | assumption | omega | (simp only [lenS, lenT, UInt64.reduceToNat]; try omega))) only [↓Sx.S0, Sx.S1, Tryz.fx, uWZ2_1, Nat.reduceAdd, Nat.reducePow, Int.reducePow, Nat.reduceBEq, ↓reduceIte, UInt8.reduceToNat, UInt16.reduceToNat, UInt32.reduceToNat, UInt64.reduceToNat, Int.reduceToNat]))
    rcases hGr with hbuf | ⟨h0, -, b0, rfl, hlk⟩
    · generalize hcs : (o.map refC).flatten = cs at hbuf
      generalize hn : o.length = n at hbuf
      cases hbuf with
      | nl =>
        refine Ow.callFV rfl Tryz.call53 (fun w' hw' => sortRef_none none 0 _ w') ?_
        refine Ow.go rfl ?_
        simp (disch := (first | assumption | omega | (simp only [lenS, lenT, UInt64.reduceToNat]; try omega))) only [↓Sx.S0, Sx.S1, Tryz.fx, uWZ2_1, Nat.reduceAdd, Nat.reducePow, Int.reducePow, Nat.reduceBEq, ↓reduceIte, UInt8.reduceToNat, UInt16.reduceToNat, UInt32.reduceToNat, UInt64.reduceToNat, Int.reduceToNat]
        ((try with_reducible refine Cw.go [] ?_); (try simp (disch := (first | assumption | omega | (simp only [lenS, lenT, UInt64.reduceToNat]; try omega))) only [↓Sx.S0, Sx.S1, Tryz.fx, uWZ2_1, Nat.reduceAdd, Nat.reducePow, Int.reducePow, Nat.reduceBEq, ↓reduceIte, UInt8.reduceToNat, UInt16.reduceToNat, UInt32.reduceToNat, UInt64.reduceToNat, Int.reduceToNat]))
        refine ⟨_, (by simp (disch := (first | assumption | omega | (simp only [lenS, lenT, UInt64.reduceToNat]; try omega))) only [↓Sx.S0, Sx.S1, Tryz.fx, uWZ2_1, Nat.reduceAdd, Nat.reducePow, Int.reducePow, Nat.reduceBEq, ↓reduceIte, UInt8.reduceToNat, UInt16.reduceToNat, UInt32.reduceToNat, UInt64.reduceToNat, Int.reduceToNat]; rfl), ?_⟩
        obtain ⟨-, rfl⟩ := hzero hn
        exact ⟨Ext.of_new ⟨hwi, hND.mono (by omega)⟩, (Gr.nl (L := [])).i fun q hq => by cases hq⟩
      | @at_ b0 _ c _ rest hl h1 h2 h3 h4 =>
        subst hn
        subst hcs
        have hk0 : bi + 1 ≤ b0 := hND.le _ (key_of_look hl)
        refine Ow.callE rfl rfl Tryz.call53 (List.mem_cons_of_mem _ (key_of_look hl)) (fun w' hw' => sortRef_spec (c := c) w' (hw'.has _ _ (List.mem_cons_of_mem _ (look_mem hl))) (by omega)) (fun v1 o1 hS => ?_)
        obtain ⟨rfl, l', hp, hs, rfl⟩ := hS
        obtain rfl := sorted_one hoo hr hp hs
        simp (disch := (first | assumption | omega | (simp only [lenS, lenT, UInt64.reduceToNat]; try omega))) only [setB_same, setB_other, List.cons_append, List.nil_append]
        refine Ow.go rfl ?_
        simp (disch := (first | assumption | omega | (simp only [lenS, lenT, UInt64.reduceToNat]; try omega))) only [↓Sx.S0, Sx.S1, Tryz.fx, uWZ2_1, Nat.reduceAdd, Nat.reducePow, Int.reducePow, Nat.reduceBEq, ↓reduceIte, UInt8.reduceToNat, UInt16.reduceToNat, UInt32.reduceToNat, UInt64.reduceToNat, Int.reduceToNat]
        ((try with_reducible refine Cw.go [] ?_); (try simp (disch := (first | assumption | omega | (simp only [lenS, lenT, UInt64.reduceToNat]; try omega))) only [↓Sx.S0, Sx.S1, Tryz.fx, uWZ2_1, Nat.reduceAdd, Nat.reducePow, Int.reducePow, Nat.reduceBEq, ↓reduceIte, UInt8.reduceToNat, UInt16.reduceToNat, UInt32.reduceToNat, UInt64.reduceToNat, Int.reduceToNat]))
        refine ⟨_, (by simp (disch := (first | assumption | omega | (simp only [lenS, lenT, UInt64.reduceToNat]; try omega))) only [↓Sx.S0, Sx.S1, Tryz.fx, uWZ2_1, Nat.reduceAdd, Nat.reducePow, Int.reducePow, Nat.reduceBEq, ↓reduceIte, UInt8.reduceToNat, UInt16.reduceToNat, UInt32.reduceToNat, UInt64.reduceToNat, Int.reduceToNat]; rfl), ?_⟩
        refine ⟨Ext.of_new ⟨hwi, New.of_le fun q hq => by rw [keys_setB] at hq; have := hND.le q hq; omega⟩, ?_⟩
        refine Gr.i (X := setB D b0 (.cells ((l'.map refC).flatten ++ rest).toArray 48 (0, 0))) (.inl ?_) fun q hq => List.mem_cons_of_mem _ hq
        show Buf _ 48 33 (vsl b0 0 o.length c) l'.length _
        rw [hol2]
        refine Buf.at_ (look_setB hl) ?_ ?_ (by omega) h4
        · rw [flat_len refC_len]
        · rw [h2, hol2]
    · obtain ⟨rfl, rfl⟩ := hzero h0
      refine Ow.callFV rfl Tryz.call53 (fun w' hw' => sortRef_none (some ⟨b0, 0, none⟩) 0 _ w') ?_
      refine Ow.go rfl ?_
      simp (disch := (first | assumption | omega | (simp only [lenS, lenT, UInt64.reduceToNat]; try omega))) only [↓Sx.S0, Sx.S1, Tryz.fx, uWZ2_1, Nat.reduceAdd, Nat.reducePow, Int.reducePow, Nat.reduceBEq, ↓reduceIte, UInt8.reduceToNat, UInt16.reduceToNat, UInt32.reduceToNat, UInt64.reduceToNat, Int.reduceToNat]
      ((try with_reducible refine Cw.go [] ?_); (try simp (disch := (first | assumption | omega | (simp only [lenS, lenT, UInt64.reduceToNat]; try omega))) only [↓Sx.S0, Sx.S1, Tryz.fx, uWZ2_1, Nat.reduceAdd, Nat.reducePow, Int.reducePow, Nat.reduceBEq, ↓reduceIte, UInt8.reduceToNat, UInt16.reduceToNat, UInt32.reduceToNat, UInt64.reduceToNat, Int.reduceToNat]))
      refine ⟨_, (by simp (disch := (first | assumption | omega | (simp only [lenS, lenT, UInt64.reduceToNat]; try omega))) only [↓Sx.S0, Sx.S1, Tryz.fx, uWZ2_1, Nat.reduceAdd, Nat.reducePow, Int.reducePow, Nat.reduceBEq, ↓reduceIte, UInt8.reduceToNat, UInt16.reduceToNat, UInt32.reduceToNat, UInt64.reduceToNat, Int.reduceToNat]; rfl), ?_⟩
      exact ⟨Ext.of_new ⟨hwi, hND.mono (by omega)⟩, Gr.i (X := D) (.inr ⟨rfl, rfl, b0, rfl, hlk⟩) fun q hq => List.mem_cons_of_mem _ hq⟩
  · simp (disch := (first | assumption | omega | (simp only [lenS, lenT, UInt64.reduceToNat]; try omega))) only [setB_same, setB_other, List.cons_append, List.nil_append]
    refine Ow.go rfl ?_
    simp (disch := (first | assumption | omega | (simp only [lenS, lenT, UInt64.reduceToNat]; try omega))) only [↓Sx.S0, Sx.S1, Tryz.fx, uWZ2_1, Nat.reduceAdd, Nat.reducePow, Int.reducePow, Nat.reduceBEq, ↓reduceIte, UInt8.reduceToNat, UInt16.reduceToNat, UInt32.reduceToNat, UInt64.reduceToNat, Int.reduceToNat]
    ((try with_reducible refine Cw.go [] ?_); (try simp (disch := (first | assumption | omega | (simp only [lenS, lenT, UInt64.reduceToNat]; try omega))) only [↓Sx.S0, Sx.S1, Tryz.fx, uWZ2_1, Nat.reduceAdd, Nat.reducePow, Int.reducePow, Nat.reduceBEq, ↓reduceIte, UInt8.reduceToNat, UInt16.reduceToNat, UInt32.reduceToNat, UInt64.reduceToNat, Int.reduceToNat]))
    refine Ow.entryMap rfl rfl rfl (read_same _ _ _ _) (rdm _) hI' ?_
    refine Ow.go rfl ?_
    simp (disch := (first | assumption | omega | (simp only [lenS, lenT, UInt64.reduceToNat]; try omega))) only [↓Sx.S0, Sx.S1, Tryz.fx, uWZ2_1, Nat.reduceAdd, Nat.reducePow, Int.reducePow, Nat.reduceBEq, ↓reduceIte, UInt8.reduceToNat, UInt16.reduceToNat, UInt32.reduceToNat, UInt64.reduceToNat, Int.reduceToNat]
    ((try with_reducible refine Cw.go [] ?_); (try simp (disch := (first | assumption | omega | (simp only [lenS, lenT, UInt64.reduceToNat]; try omega))) only [↓Sx.S0, Sx.S1, Tryz.fx, uWZ2_1, Nat.reduceAdd, Nat.reducePow, Int.reducePow, Nat.reduceBEq, ↓reduceIte, UInt8.reduceToNat, UInt16.reduceToNat, UInt32.reduceToNat, UInt64.reduceToNat, Int.reduceToNat]))
    refine Ow.alloc rfl rfl zrId fun b5 hb5 hw5 => ?_
    simp only [cells_agg, List.nil_append, List.cons_append]
    have hp5 : p.2.length = 32 := by
      obtain ⟨es, clock, ds, -, -, -, -, -, -, hperm⟩ := hI'
      exact hid p ((hperm.mem_iff).1 (by simp))
    obtain ⟨hn5, hi5⟩ := toR_pr hp5
    have hx5 : bi < b5 := above_to hb5 (by simp [keys])
    have hD5 : b5 ∉ keys D := fun h => by have := above_to hb5 (b := b5) (by simp [keys] at h ⊢; simp [h]); omega
    have hpr : prs (o ++ [toR p]) = prs o ++ [p] := by
      unfold prs
      rw [List.map_append, List.map_cons, List.map_nil]
      show _ ++ [((toR p).name, (toR p).id.l)] = _
      rw [hn5, hi5]
    rw [← hn5, ← hi5]
    rw [← hpr] at hI'
    clear hpr hn5 hi5
    refine Ow.permL (M := (bi, it') :: (b5, Obj.cells (a8 z32) 34 (0, 0)) :: D) (by classical exact List.perm_iff_count.2 fun a => by simp only [List.count_append, List.count_cons, List.count_nil] <;> omega) ?_
    have hil := (toR p).id.h
    have hst : storeV (some (true, 32)) (some (.cells (a8 z32) 34 (0, 0))) 0 (.agg (a8 (toR p).id.l)) = some (.cells (a8 (toR p).id.l) 34 (0, 0)) := store_all8 32 true _ _ _ ⟨hil, by simp [a8, z32]⟩
    have hld := load_idb (toR p).id.l 34 hil
    refine Ow.go rfl ?_
    simp (disch := (first | assumption | omega | (simp only [lenS, lenT, UInt64.reduceToNat]; try omega))) only [↓Sx.S0, Sx.S1, Tryz.fx, uWZ2_1, Nat.reduceAdd, Nat.reducePow, Int.reducePow, Nat.reduceBEq, ↓reduceIte, UInt8.reduceToNat, UInt16.reduceToNat, UInt32.reduceToNat, UInt64.reduceToNat, Int.reduceToNat, hst]
    ((try with_reducible refine Cw.go [] ?_); (try simp (disch := (first | assumption | omega | (simp only [lenS, lenT, UInt64.reduceToNat]; try omega))) only [↓Sx.S0, Sx.S1, Tryz.fx, uWZ2_1, Nat.reduceAdd, Nat.reducePow, Int.reducePow, Nat.reduceBEq, ↓reduceIte, UInt8.reduceToNat, UInt16.reduceToNat, UInt32.reduceToNat, UInt64.reduceToNat, Int.reduceToNat, hld]))
    refine Ow.build _ rfl (build_ref (toR p).name (toR p).id) ?_
    refine Ow.go rfl ?_
    simp (disch := (first | assumption | omega | (simp only [lenS, lenT, UInt64.reduceToNat]; try omega))) only [↓Sx.S0, Sx.S1, Tryz.fx, uWZ2_1, Nat.reduceAdd, Nat.reducePow, Int.reducePow, Nat.reduceBEq, ↓reduceIte, UInt8.reduceToNat, UInt16.reduceToNat, UInt32.reduceToNat, UInt64.reduceToNat, Int.reduceToNat]
    ((try with_reducible refine Cw.go [] ?_); (try simp (disch := (first | assumption | omega | (simp only [lenS, lenT, UInt64.reduceToNat]; try omega))) only [↓Sx.S0, Sx.S1, Tryz.fx, uWZ2_1, Nat.reduceAdd, Nat.reducePow, Int.reducePow, Nat.reduceBEq, ↓reduceIte, UInt8.reduceToNat, UInt16.reduceToNat, UInt32.reduceToNat, UInt64.reduceToNat, Int.reduceToNat]))
    generalize toR p = r at *
    refine Ow.buildSlice (e := 48) (refC r).toArray rfl rfl (sliceRef r) fun b9 hb9 hwb9 => ?_
    have hxb9 : bi < b9 := above_to hb9 (by simp [keys])
    refine Ow.permL (M := D ++ ((bi, it') :: (b5, Obj.cells (a8 r.id.l) 34 (0, 0)) :: [(b9, Obj.cells (refC r).toArray 48 (0, 0))])) (by classical exact List.perm_iff_count.2 fun a => by simp only [List.count_append, List.count_cons, List.count_nil] <;> omega) ?_
    refine Ow.appendX (e := 48) (k := 1) (new := refC r) (X := D) v rfl rfl rfl rfl Tryz.underlying22 Tryz.ag48 (by kernel_rfl) zrRef (by rw [cells_ref, List.size_toArray, refC_len]) Tryz.underlying22 (by intro k h; cases h) hGr (fun w' hw' => AppX.one1 (hw'.has b9 (.cells (refC r).toArray 48 (0, 0)) (by simp)) (refC_len r) (refC_one r)) (by omega) (by omega) (fun B3 v3 D3 hA3 hB3 hbuf3 hk13 hk23 hlk3 => ?_)
    have hxB3 : bi < B3 := above_to hA3 (by simp [keys_app, keys])
    have hND3 : New (bi + 1) D3 := New.of_le fun q hq => by
      rcases hk23 q hq with h | h
      · exact hND.le q h
      · omega
    refine Ow.permL (M := (bi, it') :: (D3 ++ [(b5, Obj.cells (a8 r.id.l) 34 (0, 0)), (b9, Obj.cells (refC r).toArray 48 (0, 0))])) (by classical exact List.perm_iff_count.2 fun a => by simp only [List.count_append, List.count_cons, List.count_nil] <;> omega) ?_
    have hGr3 : Gr (D3 ++ [(b5, Obj.cells (a8 r.id.l) 34 (0, 0)), (b9, Obj.cells (refC r).toArray 48 (0, 0))]) 48 33 v3 _ _ := Gr.app (.inl hbuf3)
    have hNE3 : New (bi + 1) (D3 ++ [(b5, Obj.cells (a8 r.id.l) 34 (0, 0)), (b9, Obj.cells (refC r).toArray 48 (0, 0))]) := hND3.app ⟨by omega, by omega, trivial⟩
    generalize D3 ++ [(b5, Obj.cells (a8 r.id.l) 34 (0, 0)), (b9, Obj.cells (refC r).toArray 48 (0, 0))] = E3 at *
    refine Ow.go rfl ?_
    simp (disch := (first | assumption | omega | (simp only [lenS, lenT, UInt64.reduceToNat]; try omega))) only [↓Sx.S0, Sx.S1, Tryz.fx, uWZ2_1, Nat.reduceAdd, Nat.reducePow, Int.reducePow, Nat.reduceBEq, ↓reduceIte, UInt8.reduceToNat, UInt16.reduceToNat, UInt32.reduceToNat, UInt64.reduceToNat, Int.reduceToNat]
    ((try with_reducible refine Cw.go [] ?_); (try simp (disch := (first | assumption | omega | (simp only [lenS, lenT, UInt64.reduceToNat]; try omega))) only [↓Sx.S0, Sx.S1, Tryz.fx, uWZ2_1, Nat.reduceAdd, Nat.reducePow, Int.reducePow, Nat.reduceBEq, ↓reduceIte, UInt8.reduceToNat, UInt16.reduceToNat, UInt32.reduceToNat, UInt64.reduceToNat, Int.reduceToNat]))
    refine Again.mk (LG.mk v3 (o ++ [r]) E3 it' lf') (by show lf'.length < lf.length; omega) ⟨hNE3, ?_, hI', by show (o ++ [r]).length + lf'.length = m.length; simp; omega⟩ rfl rfl
    show Gr E3 48 33 v3 (o ++ [r]).length ((o ++ [r]).map refC).flatten
    simpa using hGr3
end Go.Proofs
end
section
open Go Go.Proofs Go.Sx Go.RefP
namespace Go.Proofs
set_option maxRecDepth 10000
set_option maxHeartbeats 4000000
set_option linter.unusedSimpArgs false
theorem valR_if {t l : List RefL} {k : Nat} {ls : List RefL} (h : valR t l k = some ls) : t.length ≤ 16 ∧ l.length ≤ 100 ∧ tabOkR t = true ∧ logR l t k = some ls := by
  unfold valR at h
  split at h
  · rename_i hc; exact ⟨hc.1, hc.2.1, hc.2.2, h⟩
  · cases h
theorem logR_len {l t : List RefL} (ht : t.length ≤ 16) : ∀ (k : Nat) (ls : List RefL), logR l t k = some ls → ls.length ≤ 16
  | 0, ls, h => by
    unfold logR at h
    cases h; exact ht
  | k + 1, ls, h => by
    unfold logR at h
    cases hm : logR l t k with
    | none => rw [hm] at h; cases h
    | some m =>
      rw [hm, Option.bind_some] at h
      split at h
      · rename_i hc
        cases h
        simp only [Bool.and_eq_true, decide_eq_true_eq] at hc
        exact hc.2
      · cases h
/-- Behind some of the log of a right book. -/
theorem of_trim {t l : List RefL} (h : rightB t l = true) {k : Nat} (hk : k ≤ l.length) :
    ∃ m ls, ofM nameV z32 (prs t) (prs l) k = some m ∧ valR t l k = some ls ∧ Rel m (prs ls) ∧ ls.length ≤ 16 ∧ l.length ≤ 100 := by
  rw [← valR_right] at h
  cases hv : valR t l l.length with
  | none => rw [hv] at h; cases h
  | some le =>
    obtain ⟨h1, h2, h3, h4⟩ := valR_if hv
    cases hg : logR l t k with
    | none => rw [logR_stop hg _ hk] at h4; cases h4
    | some ls =>
      have hvk : valR t l k = some ls := by unfold valR; rw [if_pos ⟨h1, h2, h3⟩]; exact hg
      have hp := valR_prs t l k hk
      rw [hvk] at hp
      rcases of_rel nameV z32 (prs t) (prs l) (by rw [prs_len]; exact h2) k with ⟨-, hn⟩ | ⟨m, d, hm, hd, hr⟩
      · rw [hn] at hp; cases hp
      · rw [hd] at hp
        cases hp
        exact ⟨m, ls, hm, hvk, hr, logR_len h1 k ls hg, h2⟩
/-- How many first entries are taken together. -/
def trimK (n : Nat) (keep : Int) : Nat := ((n : Int) - max 0 (min keep n)).toNat
/-- What Trim hands back. -/
def TrimS (t l : List RefL) (keep : Int) (v : Value) (D : Heap) : Prop :=
  if rightB t l = true then ∃ vt vl ls, valR t l (trimK l.length keep) = some ls ∧ v = .tuple #[.agg #[vt, vl], vi 0] ∧ GrI D 48 33 vt ls.length (ls.map refC).flatten ∧ GrI D 48 33 vl (l.drop (trimK l.length keep)).length ((l.drop (trimK l.length keep)).map refC).flatten
  else v = .tuple #[.agg #[.slice none 0 0, .slice none 0 0], vi 1]
set_option linter.defProp false
def uWZ4_1 := And.intro (And.intro (And.intro (And.intro (@rdIn_v8) (@rdIn_v16)) (And.intro (@rdIn_v32) (@rdIn_v64))) (And.intro (And.intro (@rdIn_vi) (@load_ref0)) (And.intro (@load_ref1) (@cells_ref)))) (And.intro (And.intro (And.intro (@eqIdz) (@store_rr)) (And.intro (@load_ref) (@load_bk0))) (And.intro (And.intro (@load_bk1) (@load_bk)) (And.intro (@tup2_0) (And.intro (@tup2_1) (@store_bk0)))))
end Go.Proofs
end
section
open Go Go.Proofs Go.Sx
namespace Go.Proofs
set_option maxRecDepth 10000
set_option maxHeartbeats 4000000
set_option linter.unusedSimpArgs false
/-! ### Numbers, texts and ids, as the law writes them -/
theorem clampN_nat {n : Nat} (h : n < 1099511627776) : clampN (n : Int) = n := by unfold clampN maxN; omega
theorem NumberR_spec : ∀ (k : Nat) (n : Int) (w : World), clampN n ≤ k →
    Rets Tryz.prog 35 #[vi n] w (fun v D => v = vs (numL (clampN n)) ∧ D = []) := by
  intro k
  induction k using Nat.strongRecOn with
  | ind k ih =>
    intro n w hk
    refine Rets.enterV Tryz.func35 rfl (rs := [.tmp 2]) Tryz.results35 Tryz.ntmps35 ?_
    simp only [List.size_toArray, List.length_cons, List.length_nil, Nat.reduceAdd, Nat.reduceSub, List.replicate_succ, List.replicate_zero, List.cons_append, List.nil_append]
    by_cases h0 : n < 0
    · have d1 : decide (n < 0) = true := decide_eq_true h0
      have e : clampN n = 0 := by unfold clampN maxN; omega
      rw [e]
      ((try with_reducible refine Cw.go [] ?_); (try simp (disch := (first | assumption | omega | (simp only [lenS, lenT, UInt64.reduceToNat]; try omega))) only [↓Sx.S0, Sx.S1, Tryz.fx, Nat.reduceAdd, Nat.reducePow, Int.reducePow, Nat.reduceBEq, ↓reduceIte, UInt8.reduceToNat, UInt16.reduceToNat, UInt32.reduceToNat, UInt64.reduceToNat, Int.reduceToNat, d1]))
      refine Ow.buildSlice (e := 5) #[v8 0] rfl rfl (by kernel_rfl) fun b1 hb1 hw1 => ?_
      rw [show (#[v8 0] : Array Value) = a8 [0] from rfl]
      refine Ow.go rfl ?_
      simp (disch := (first | assumption | omega | (simp only [lenS, lenT, UInt64.reduceToNat]; try omega))) only [↓Sx.S0, Sx.S1, Tryz.fx, Nat.reduceAdd, Nat.reducePow, Int.reducePow, Nat.reduceBEq, ↓reduceIte, UInt8.reduceToNat, UInt16.reduceToNat, UInt32.reduceToNat, UInt64.reduceToNat, Int.reduceToNat]
      ((try with_reducible refine Cw.go [] ?_); (try simp (disch := (first | assumption | omega | (simp only [lenS, lenT, UInt64.reduceToNat]; try omega))) only [↓Sx.S0, Sx.S1, Tryz.fx, Nat.reduceAdd, Nat.reducePow, Int.reducePow, Nat.reduceBEq, ↓reduceIte, UInt8.reduceToNat, UInt16.reduceToNat, UInt32.reduceToNat, UInt64.reduceToNat, Int.reduceToNat]))
      refine ⟨_, (by simp (disch := (first | assumption | omega | (simp only [lenS, lenT, UInt64.reduceToNat]; try omega))) only [↓Sx.S0, Sx.S1, Tryz.fx, Nat.reduceAdd, Nat.reducePow, Int.reducePow, Nat.reduceBEq, ↓reduceIte, UInt8.reduceToNat, UInt16.reduceToNat, UInt32.reduceToNat, UInt64.reduceToNat, Int.reduceToNat]; rfl), ⟨hw1, trivial⟩, ?_⟩
      rw [numL_small (by omega)]; rfl
    · have d1 : decide (n < 0) = false := decide_eq_false h0
      generalize hm : clampN n = m at hk ⊢
      have hm2 : m ≤ 1099511627775 := by unfold clampN maxN at hm; omega
      by_cases h1 : n > 1099511627775
      · have d2 : decide (1099511627775 < n) = true := decide_eq_true h1
        have e : (1099511627775 : Int) = (m : Int) := by unfold clampN maxN at hm; omega
        ((try with_reducible refine Cw.go [5] ?_); (try simp (disch := (first | assumption | omega | (simp only [lenS, lenT, UInt64.reduceToNat]; try omega))) only [↓Sx.S0, Sx.S1, Tryz.fx, Nat.reduceAdd, Nat.reducePow, Int.reducePow, Nat.reduceBEq, ↓reduceIte, UInt8.reduceToNat, UInt16.reduceToNat, UInt32.reduceToNat, UInt64.reduceToNat, Int.reduceToNat, d1, d2]))
        rw [e]
        by_cases h2 : m < 128
        · have d3 : decide ((m : Int) < 128) = true := decide_eq_true (by omega)
          rw [numL_small h2]
          ((try with_reducible refine Cw.go [] ?_); (try simp (disch := (first | assumption | omega | (simp only [lenS, lenT, UInt64.reduceToNat]; try omega))) only [↓Sx.S0, Sx.S1, Tryz.fx, Nat.reduceAdd, Nat.reducePow, Int.reducePow, Nat.reduceBEq, ↓reduceIte, UInt8.reduceToNat, UInt16.reduceToNat, UInt32.reduceToNat, UInt64.reduceToNat, Int.reduceToNat, d1, d3]))
          generalize hc : UInt8.ofInt (m : Int) = c
          have hc' : c = UInt8.ofNat m := by rw [← hc, byte_int]
          refine Ow.buildSlice (e := 5) #[v8 c] rfl rfl (by kernel_rfl) fun b1 hb1 hw1 => ?_
          rw [show (#[v8 c] : Array Value) = a8 [c] from rfl]
          have e4 : List.take 1 (List.drop 0 [c]) = [c] := rfl
          refine Ow.go rfl ?_
          simp (disch := (first | assumption | omega | (simp only [lenS, lenT, UInt64.reduceToNat]; try omega))) only [↓Sx.S0, Sx.S1, Tryz.fx, Nat.reduceAdd, Nat.reducePow, Int.reducePow, Nat.reduceBEq, ↓reduceIte, UInt8.reduceToNat, UInt16.reduceToNat, UInt32.reduceToNat, UInt64.reduceToNat, Int.reduceToNat, e4]
          ((try with_reducible refine Cw.go [] ?_); (try simp (disch := (first | assumption | omega | (simp only [lenS, lenT, UInt64.reduceToNat]; try omega))) only [↓Sx.S0, Sx.S1, Tryz.fx, Nat.reduceAdd, Nat.reducePow, Int.reducePow, Nat.reduceBEq, ↓reduceIte, UInt8.reduceToNat, UInt16.reduceToNat, UInt32.reduceToNat, UInt64.reduceToNat, Int.reduceToNat]))
          refine ⟨_, (by simp (disch := (first | assumption | omega | (simp only [lenS, lenT, UInt64.reduceToNat]; try omega))) only [↓Sx.S0, Sx.S1, Tryz.fx, Nat.reduceAdd, Nat.reducePow, Int.reducePow, Nat.reduceBEq, ↓reduceIte, UInt8.reduceToNat, UInt16.reduceToNat, UInt32.reduceToNat, UInt64.reduceToNat, Int.reduceToNat]; rfl), ⟨hw1, trivial⟩, ?_⟩
          rw [hc']; rfl
        · have d3 : decide ((m : Int) < 128) = false := decide_eq_false (by omega)
          have ih2 := fun w => ih (m / 128) (by omega) ((m / 128 : Nat) : Int) w (by rw [clampN_nat (by omega)]; omega)
          rw [clampN_nat (by omega)] at ih2
          have hl2 := numL_len_lt 6 (m / 128) (by omega) (by omega)
          rw [numL_big h2]
          ((try with_reducible refine Cw.go [] ?_); (try simp (disch := (first | assumption | omega | (simp only [lenS, lenT, UInt64.reduceToNat]; try omega))) only [↓Sx.S0, Sx.S1, Tryz.fx, Nat.reduceAdd, Nat.reducePow, Int.reducePow, Nat.reduceBEq, ↓reduceIte, UInt8.reduceToNat, UInt16.reduceToNat, UInt32.reduceToNat, UInt64.reduceToNat, Int.reduceToNat, d1, d3]))
          refine Cw.regionK 11 (by kernel_rfl) (by kernel_rfl) ?_
          refine OwK.run [0, 1, 2, 3, 6, 7] [true, true, true, true, false, false, true, true, false, false, false] 5 rfl (by kernel_rfl) (by kernel_rfl) fun k hk => ?_
          simp only [nl_cons, ↓pickL_nil, ↓pickL_cons, ↓nthO_0, ↓nthO_s, consO_some]
          simp (disch := (first | assumption | omega | (simp only [lenS, lenT, UInt64.reduceToNat]; try omega))) only [↓Sx.S0, Sx.S1, Tryz.fx, Nat.reduceAdd, Nat.reducePow, Int.reducePow, Nat.reduceBEq, ↓reduceIte, UInt8.reduceToNat, UInt16.reduceToNat, UInt32.reduceToNat, UInt64.reduceToNat, Int.reduceToNat]
          (with_reducible refine hk _ _ _ ?_); clear hk k
          generalize hc : UInt8.ofInt ((m : Int) % 128 + 128) = c
          have hc' : c = UInt8.ofNat (m % 128 + 128) := by rw [← hc, show ((m : Int) % 128 + 128) = ((m % 128 + 128 : Nat) : Int) from rfl, byte_int]
          rw [show (m : Int) / 128 = ((m / 128 : Nat) : Int) from rfl]
          refine OwK.two 4 8 _ _ (by kernel_rfl) rfl rfl ?_ ?_
          · refine Ow.buildSlice (e := 5) #[v8 c] rfl rfl (by kernel_rfl) fun b1 hb1 hw1 => ?_
            rw [show (#[v8 c] : Array Value) = a8 [c] from rfl]
            have e4 : List.take 1 (List.drop 0 [c]) = [c] := rfl
            refine Ow.go rfl ?_
            simp (disch := (first | assumption | omega | (simp only [lenS, lenT, UInt64.reduceToNat]; try omega))) only [↓Sx.S0, Sx.S1, Tryz.fx, Nat.reduceAdd, Nat.reducePow, Int.reducePow, Nat.reduceBEq, ↓reduceIte, UInt8.reduceToNat, UInt16.reduceToNat, UInt32.reduceToNat, UInt64.reduceToNat, Int.reduceToNat, e4]
            try with_reducible refine Ow.nil ?_
            refine OwK.two 5 8 _ _ (by kernel_rfl) rfl rfl ?_ ?_
            · refine Ow.go rfl ?_
              simp (disch := (first | assumption | omega | (simp only [lenS, lenT, UInt64.reduceToNat]; try omega))) only [↓Sx.S0, Sx.S1, Tryz.fx, Nat.reduceAdd, Nat.reducePow, Int.reducePow, Nat.reduceBEq, ↓reduceIte, UInt8.reduceToNat, UInt16.reduceToNat, UInt32.reduceToNat, UInt64.reduceToNat, Int.reduceToNat, e4]
              refine OwK.rest [8, 9, 10] [4, 8] rfl (by kernel_rfl) (by kernel_rfl) ?_
              simp only [nl_cons, ↓pickL_nil, ↓pickL_cons, ↓nthO_0, ↓nthO_s, consO_some]
              refine Ow.callFV rfl Tryz.call35 (fun w' hw' => ih2 w') ?_
              refine Ow.go rfl ?_
              simp (disch := (first | assumption | omega | (simp only [lenS, lenT, UInt64.reduceToNat]; try omega))) only [↓Sx.S0, Sx.S1, Tryz.fx, Nat.reduceAdd, Nat.reducePow, Int.reducePow, Nat.reduceBEq, ↓reduceIte, UInt8.reduceToNat, UInt16.reduceToNat, UInt32.reduceToNat, UInt64.reduceToNat, Int.reduceToNat]
              ((try with_reducible refine Cw.go [] ?_); (try simp (disch := (first | assumption | omega | (simp only [lenS, lenT, UInt64.reduceToNat]; try omega))) only [↓Sx.S0, Sx.S1, Tryz.fx, Nat.reduceAdd, Nat.reducePow, Int.reducePow, Nat.reduceBEq, ↓reduceIte, UInt8.reduceToNat, UInt16.reduceToNat, UInt32.reduceToNat, UInt64.reduceToNat, Int.reduceToNat]))
              refine ⟨_, (by simp (disch := (first | assumption | omega | (simp only [lenS, lenT, UInt64.reduceToNat]; try omega))) only [↓Sx.S0, Sx.S1, Tryz.fx, Nat.reduceAdd, Nat.reducePow, Int.reducePow, Nat.reduceBEq, ↓reduceIte, UInt8.reduceToNat, UInt16.reduceToNat, UInt32.reduceToNat, UInt64.reduceToNat, Int.reduceToNat]; rfl), ⟨hw1, trivial⟩, ?_⟩
              rw [hc']; rfl
            · refine Ow.callFV rfl Tryz.call35 (fun w' hw' => ih2 w') ?_
              refine Ow.go rfl ?_
              simp (disch := (first | assumption | omega | (simp only [lenS, lenT, UInt64.reduceToNat]; try omega))) only [↓Sx.S0, Sx.S1, Tryz.fx, Nat.reduceAdd, Nat.reducePow, Int.reducePow, Nat.reduceBEq, ↓reduceIte, UInt8.reduceToNat, UInt16.reduceToNat, UInt32.reduceToNat, UInt64.reduceToNat, Int.reduceToNat]
              refine OwK.rest [5, 9, 10] [4, 8] rfl (by kernel_rfl) (by kernel_rfl) ?_
              simp only [nl_cons, ↓pickL_nil, ↓pickL_cons, ↓nthO_0, ↓nthO_s, consO_some]
              refine Ow.go rfl ?_
              simp (disch := (first | assumption | omega | (simp only [lenS, lenT, UInt64.reduceToNat]; try omega))) only [↓Sx.S0, Sx.S1, Tryz.fx, Nat.reduceAdd, Nat.reducePow, Int.reducePow, Nat.reduceBEq, ↓reduceIte, UInt8.reduceToNat, UInt16.reduceToNat, UInt32.reduceToNat, UInt64.reduceToNat, Int.reduceToNat, e4]
              ((try with_reducible refine Cw.go [] ?_); (try simp (disch := (first | assumption | omega | (simp only [lenS, lenT, UInt64.reduceToNat]; try omega))) only [↓Sx.S0, Sx.S1, Tryz.fx, Nat.reduceAdd, Nat.reducePow, Int.reducePow, Nat.reduceBEq, ↓reduceIte, UInt8.reduceToNat, UInt16.reduceToNat, UInt32.reduceToNat, UInt64.reduceToNat, Int.reduceToNat]))
              refine ⟨_, (by simp (disch := (first | assumption | omega | (simp only [lenS, lenT, UInt64.reduceToNat]; try omega))) only [↓Sx.S0, Sx.S1, Tryz.fx, Nat.reduceAdd, Nat.reducePow, Int.reducePow, Nat.reduceBEq, ↓reduceIte, UInt8.reduceToNat, UInt16.reduceToNat, UInt32.reduceToNat, UInt64.reduceToNat, Int.reduceToNat]; rfl), ⟨hw1, trivial⟩, ?_⟩
              rw [hc']; rfl
          · refine Ow.callFV rfl Tryz.call35 (fun w' hw' => ih2 w') ?_
            refine Ow.go rfl ?_
            simp (disch := (first | assumption | omega | (simp only [lenS, lenT, UInt64.reduceToNat]; try omega))) only [↓Sx.S0, Sx.S1, Tryz.fx, Nat.reduceAdd, Nat.reducePow, Int.reducePow, Nat.reduceBEq, ↓reduceIte, UInt8.reduceToNat, UInt16.reduceToNat, UInt32.reduceToNat, UInt64.reduceToNat, Int.reduceToNat]
            refine OwK.rest [4, 5, 9, 10] [4, 8] rfl (by kernel_rfl) (by kernel_rfl) ?_
            simp only [nl_cons, ↓pickL_nil, ↓pickL_cons, ↓nthO_0, ↓nthO_s, consO_some]
            refine Ow.buildSlice (e := 5) #[v8 c] rfl rfl (by kernel_rfl) fun b1 hb1 hw1 => ?_
            rw [show (#[v8 c] : Array Value) = a8 [c] from rfl]
            have e4 : List.take 1 (List.drop 0 [c]) = [c] := rfl
            refine Ow.go rfl ?_
            simp (disch := (first | assumption | omega | (simp only [lenS, lenT, UInt64.reduceToNat]; try omega))) only [↓Sx.S0, Sx.S1, Tryz.fx, Nat.reduceAdd, Nat.reducePow, Int.reducePow, Nat.reduceBEq, ↓reduceIte, UInt8.reduceToNat, UInt16.reduceToNat, UInt32.reduceToNat, UInt64.reduceToNat, Int.reduceToNat, e4]
            ((try with_reducible refine Cw.go [] ?_); (try simp (disch := (first | assumption | omega | (simp only [lenS, lenT, UInt64.reduceToNat]; try omega))) only [↓Sx.S0, Sx.S1, Tryz.fx, Nat.reduceAdd, Nat.reducePow, Int.reducePow, Nat.reduceBEq, ↓reduceIte, UInt8.reduceToNat, UInt16.reduceToNat, UInt32.reduceToNat, UInt64.reduceToNat, Int.reduceToNat]))
            refine ⟨_, (by simp (disch := (first | assumption | omega | (simp only [lenS, lenT, UInt64.reduceToNat]; try omega))) only [↓Sx.S0, Sx.S1, Tryz.fx, Nat.reduceAdd, Nat.reducePow, Int.reducePow, Nat.reduceBEq, ↓reduceIte, UInt8.reduceToNat, UInt16.reduceToNat, UInt32.reduceToNat, UInt64.reduceToNat, Int.reduceToNat]; rfl), ⟨hw1, trivial⟩, ?_⟩
            rw [hc']; rfl
      · have d2 : decide (1099511627775 < n) = false := decide_eq_false h1
        have e : n = (m : Int) := by unfold clampN maxN at hm; omega
        subst e
        ((try with_reducible refine Cw.go [5] ?_); (try simp (disch := (first | assumption | omega | (simp only [lenS, lenT, UInt64.reduceToNat]; try omega))) only [↓Sx.S0, Sx.S1, Tryz.fx, Nat.reduceAdd, Nat.reducePow, Int.reducePow, Nat.reduceBEq, ↓reduceIte, UInt8.reduceToNat, UInt16.reduceToNat, UInt32.reduceToNat, UInt64.reduceToNat, Int.reduceToNat, d1, d2]))
        by_cases h2 : m < 128
        · have d3 : decide ((m : Int) < 128) = true := decide_eq_true (by omega)
          rw [numL_small h2]
          ((try with_reducible refine Cw.go [] ?_); (try simp (disch := (first | assumption | omega | (simp only [lenS, lenT, UInt64.reduceToNat]; try omega))) only [↓Sx.S0, Sx.S1, Tryz.fx, Nat.reduceAdd, Nat.reducePow, Int.reducePow, Nat.reduceBEq, ↓reduceIte, UInt8.reduceToNat, UInt16.reduceToNat, UInt32.reduceToNat, UInt64.reduceToNat, Int.reduceToNat, d1, d3]))
          generalize hc : UInt8.ofInt (m : Int) = c
          have hc' : c = UInt8.ofNat m := by rw [← hc, byte_int]
          refine Ow.buildSlice (e := 5) #[v8 c] rfl rfl (by kernel_rfl) fun b1 hb1 hw1 => ?_
          rw [show (#[v8 c] : Array Value) = a8 [c] from rfl]
          have e4 : List.take 1 (List.drop 0 [c]) = [c] := rfl
          refine Ow.go rfl ?_
          simp (disch := (first | assumption | omega | (simp only [lenS, lenT, UInt64.reduceToNat]; try omega))) only [↓Sx.S0, Sx.S1, Tryz.fx, Nat.reduceAdd, Nat.reducePow, Int.reducePow, Nat.reduceBEq, ↓reduceIte, UInt8.reduceToNat, UInt16.reduceToNat, UInt32.reduceToNat, UInt64.reduceToNat, Int.reduceToNat, e4]
          ((try with_reducible refine Cw.go [] ?_); (try simp (disch := (first | assumption | omega | (simp only [lenS, lenT, UInt64.reduceToNat]; try omega))) only [↓Sx.S0, Sx.S1, Tryz.fx, Nat.reduceAdd, Nat.reducePow, Int.reducePow, Nat.reduceBEq, ↓reduceIte, UInt8.reduceToNat, UInt16.reduceToNat, UInt32.reduceToNat, UInt64.reduceToNat, Int.reduceToNat]))
          refine ⟨_, (by simp (disch := (first | assumption | omega | (simp only [lenS, lenT, UInt64.reduceToNat]; try omega))) only [↓Sx.S0, Sx.S1, Tryz.fx, Nat.reduceAdd, Nat.reducePow, Int.reducePow, Nat.reduceBEq, ↓reduceIte, UInt8.reduceToNat, UInt16.reduceToNat, UInt32.reduceToNat, UInt64.reduceToNat, Int.reduceToNat]; rfl), ⟨hw1, trivial⟩, ?_⟩
          rw [hc']; rfl
        · have d3 : decide ((m : Int) < 128) = false := decide_eq_false (by omega)
          have ih2 := fun w => ih (m / 128) (by omega) ((m / 128 : Nat) : Int) w (by rw [clampN_nat (by omega)]; omega)
          rw [clampN_nat (by omega)] at ih2
          have hl2 := numL_len_lt 6 (m / 128) (by omega) (by omega)
          rw [numL_big h2]
          ((try with_reducible refine Cw.go [] ?_); (try simp (disch := (first | assumption | omega | (simp only [lenS, lenT, UInt64.reduceToNat]; try omega))) only [↓Sx.S0, Sx.S1, Tryz.fx, Nat.reduceAdd, Nat.reducePow, Int.reducePow, Nat.reduceBEq, ↓reduceIte, UInt8.reduceToNat, UInt16.reduceToNat, UInt32.reduceToNat, UInt64.reduceToNat, Int.reduceToNat, d1, d3]))
          refine Cw.regionK 11 (by kernel_rfl) (by kernel_rfl) ?_
          refine OwK.run [0, 1, 2, 3, 6, 7] [true, true, true, true, false, false, true, true, false, false, false] 5 rfl (by kernel_rfl) (by kernel_rfl) fun k hk => ?_
          simp only [nl_cons, ↓pickL_nil, ↓pickL_cons, ↓nthO_0, ↓nthO_s, consO_some]
          simp (disch := (first | assumption | omega | (simp only [lenS, lenT, UInt64.reduceToNat]; try omega))) only [↓Sx.S0, Sx.S1, Tryz.fx, Nat.reduceAdd, Nat.reducePow, Int.reducePow, Nat.reduceBEq, ↓reduceIte, UInt8.reduceToNat, UInt16.reduceToNat, UInt32.reduceToNat, UInt64.reduceToNat, Int.reduceToNat]
          (with_reducible refine hk _ _ _ ?_); clear hk k
          generalize hc : UInt8.ofInt ((m : Int) % 128 + 128) = c
          have hc' : c = UInt8.ofNat (m % 128 + 128) := by rw [← hc, show ((m : Int) % 128 + 128) = ((m % 128 + 128 : Nat) : Int) from rfl, byte_int]
          rw [show (m : Int) / 128 = ((m / 128 : Nat) : Int) from rfl]
          refine OwK.two 4 8 _ _ (by kernel_rfl) rfl rfl ?_ ?_
          · refine Ow.buildSlice (e := 5) #[v8 c] rfl rfl (by kernel_rfl) fun b1 hb1 hw1 => ?_
            rw [show (#[v8 c] : Array Value) = a8 [c] from rfl]
            have e4 : List.take 1 (List.drop 0 [c]) = [c] := rfl
            refine Ow.go rfl ?_
            simp (disch := (first | assumption | omega | (simp only [lenS, lenT, UInt64.reduceToNat]; try omega))) only [↓Sx.S0, Sx.S1, Tryz.fx, Nat.reduceAdd, Nat.reducePow, Int.reducePow, Nat.reduceBEq, ↓reduceIte, UInt8.reduceToNat, UInt16.reduceToNat, UInt32.reduceToNat, UInt64.reduceToNat, Int.reduceToNat, e4]
            try with_reducible refine Ow.nil ?_
            refine OwK.two 5 8 _ _ (by kernel_rfl) rfl rfl ?_ ?_
            · refine Ow.go rfl ?_
              simp (disch := (first | assumption | omega | (simp only [lenS, lenT, UInt64.reduceToNat]; try omega))) only [↓Sx.S0, Sx.S1, Tryz.fx, Nat.reduceAdd, Nat.reducePow, Int.reducePow, Nat.reduceBEq, ↓reduceIte, UInt8.reduceToNat, UInt16.reduceToNat, UInt32.reduceToNat, UInt64.reduceToNat, Int.reduceToNat, e4]
              refine OwK.rest [8, 9, 10] [4, 8] rfl (by kernel_rfl) (by kernel_rfl) ?_
              simp only [nl_cons, ↓pickL_nil, ↓pickL_cons, ↓nthO_0, ↓nthO_s, consO_some]
              refine Ow.callFV rfl Tryz.call35 (fun w' hw' => ih2 w') ?_
              refine Ow.go rfl ?_
              simp (disch := (first | assumption | omega | (simp only [lenS, lenT, UInt64.reduceToNat]; try omega))) only [↓Sx.S0, Sx.S1, Tryz.fx, Nat.reduceAdd, Nat.reducePow, Int.reducePow, Nat.reduceBEq, ↓reduceIte, UInt8.reduceToNat, UInt16.reduceToNat, UInt32.reduceToNat, UInt64.reduceToNat, Int.reduceToNat]
              ((try with_reducible refine Cw.go [] ?_); (try simp (disch := (first | assumption | omega | (simp only [lenS, lenT, UInt64.reduceToNat]; try omega))) only [↓Sx.S0, Sx.S1, Tryz.fx, Nat.reduceAdd, Nat.reducePow, Int.reducePow, Nat.reduceBEq, ↓reduceIte, UInt8.reduceToNat, UInt16.reduceToNat, UInt32.reduceToNat, UInt64.reduceToNat, Int.reduceToNat]))
              refine ⟨_, (by simp (disch := (first | assumption | omega | (simp only [lenS, lenT, UInt64.reduceToNat]; try omega))) only [↓Sx.S0, Sx.S1, Tryz.fx, Nat.reduceAdd, Nat.reducePow, Int.reducePow, Nat.reduceBEq, ↓reduceIte, UInt8.reduceToNat, UInt16.reduceToNat, UInt32.reduceToNat, UInt64.reduceToNat, Int.reduceToNat]; rfl), ⟨hw1, trivial⟩, ?_⟩
              rw [hc']; rfl
            · refine Ow.callFV rfl Tryz.call35 (fun w' hw' => ih2 w') ?_
              refine Ow.go rfl ?_
              simp (disch := (first | assumption | omega | (simp only [lenS, lenT, UInt64.reduceToNat]; try omega))) only [↓Sx.S0, Sx.S1, Tryz.fx, Nat.reduceAdd, Nat.reducePow, Int.reducePow, Nat.reduceBEq, ↓reduceIte, UInt8.reduceToNat, UInt16.reduceToNat, UInt32.reduceToNat, UInt64.reduceToNat, Int.reduceToNat]
              refine OwK.rest [5, 9, 10] [4, 8] rfl (by kernel_rfl) (by kernel_rfl) ?_
              simp only [nl_cons, ↓pickL_nil, ↓pickL_cons, ↓nthO_0, ↓nthO_s, consO_some]
              refine Ow.go rfl ?_
              simp (disch := (first | assumption | omega | (simp only [lenS, lenT, UInt64.reduceToNat]; try omega))) only [↓Sx.S0, Sx.S1, Tryz.fx, Nat.reduceAdd, Nat.reducePow, Int.reducePow, Nat.reduceBEq, ↓reduceIte, UInt8.reduceToNat, UInt16.reduceToNat, UInt32.reduceToNat, UInt64.reduceToNat, Int.reduceToNat, e4]
              ((try with_reducible refine Cw.go [] ?_); (try simp (disch := (first | assumption | omega | (simp only [lenS, lenT, UInt64.reduceToNat]; try omega))) only [↓Sx.S0, Sx.S1, Tryz.fx, Nat.reduceAdd, Nat.reducePow, Int.reducePow, Nat.reduceBEq, ↓reduceIte, UInt8.reduceToNat, UInt16.reduceToNat, UInt32.reduceToNat, UInt64.reduceToNat, Int.reduceToNat]))
              refine ⟨_, (by simp (disch := (first | assumption | omega | (simp only [lenS, lenT, UInt64.reduceToNat]; try omega))) only [↓Sx.S0, Sx.S1, Tryz.fx, Nat.reduceAdd, Nat.reducePow, Int.reducePow, Nat.reduceBEq, ↓reduceIte, UInt8.reduceToNat, UInt16.reduceToNat, UInt32.reduceToNat, UInt64.reduceToNat, Int.reduceToNat]; rfl), ⟨hw1, trivial⟩, ?_⟩
              rw [hc']; rfl
          · refine Ow.callFV rfl Tryz.call35 (fun w' hw' => ih2 w') ?_
            refine Ow.go rfl ?_
            simp (disch := (first | assumption | omega | (simp only [lenS, lenT, UInt64.reduceToNat]; try omega))) only [↓Sx.S0, Sx.S1, Tryz.fx, Nat.reduceAdd, Nat.reducePow, Int.reducePow, Nat.reduceBEq, ↓reduceIte, UInt8.reduceToNat, UInt16.reduceToNat, UInt32.reduceToNat, UInt64.reduceToNat, Int.reduceToNat]
            refine OwK.rest [4, 5, 9, 10] [4, 8] rfl (by kernel_rfl) (by kernel_rfl) ?_
            simp only [nl_cons, ↓pickL_nil, ↓pickL_cons, ↓nthO_0, ↓nthO_s, consO_some]
            refine Ow.buildSlice (e := 5) #[v8 c] rfl rfl (by kernel_rfl) fun b1 hb1 hw1 => ?_
            rw [show (#[v8 c] : Array Value) = a8 [c] from rfl]
            have e4 : List.take 1 (List.drop 0 [c]) = [c] := rfl
            refine Ow.go rfl ?_
            simp (disch := (first | assumption | omega | (simp only [lenS, lenT, UInt64.reduceToNat]; try omega))) only [↓Sx.S0, Sx.S1, Tryz.fx, Nat.reduceAdd, Nat.reducePow, Int.reducePow, Nat.reduceBEq, ↓reduceIte, UInt8.reduceToNat, UInt16.reduceToNat, UInt32.reduceToNat, UInt64.reduceToNat, Int.reduceToNat, e4]
            ((try with_reducible refine Cw.go [] ?_); (try simp (disch := (first | assumption | omega | (simp only [lenS, lenT, UInt64.reduceToNat]; try omega))) only [↓Sx.S0, Sx.S1, Tryz.fx, Nat.reduceAdd, Nat.reducePow, Int.reducePow, Nat.reduceBEq, ↓reduceIte, UInt8.reduceToNat, UInt16.reduceToNat, UInt32.reduceToNat, UInt64.reduceToNat, Int.reduceToNat]))
            refine ⟨_, (by simp (disch := (first | assumption | omega | (simp only [lenS, lenT, UInt64.reduceToNat]; try omega))) only [↓Sx.S0, Sx.S1, Tryz.fx, Nat.reduceAdd, Nat.reducePow, Int.reducePow, Nat.reduceBEq, ↓reduceIte, UInt8.reduceToNat, UInt16.reduceToNat, UInt32.reduceToNat, UInt64.reduceToNat, Int.reduceToNat]; rfl), ⟨hw1, trivial⟩, ?_⟩
            rw [hc']; rfl
theorem TextR_spec (s : List UInt8) (w : World) (hs : s.length < 1099511627776) :
    Rets Tryz.prog 36 #[vs s] w (fun v D => v = vs (textL s) ∧ D = []) := by
  have hnl := numL_clamp_len (s.length : Int)
  refine Rets.enterV Tryz.func36 rfl (rs := [.tmp 2]) Tryz.results36 Tryz.ntmps36 ?_
  simp only [List.size_toArray, List.length_cons, List.length_nil, Nat.reduceAdd, Nat.reduceSub, List.replicate_succ, List.replicate_zero, List.cons_append, List.nil_append]
  ((try with_reducible refine Cw.go [] ?_); (try simp (disch := (first | assumption | omega | (simp only [lenS, lenT, UInt64.reduceToNat]; try omega))) only [↓Sx.S0, Sx.S1, Tryz.fx, Nat.reduceAdd, Nat.reducePow, Int.reducePow, Nat.reduceBEq, ↓reduceIte, UInt8.reduceToNat, UInt16.reduceToNat, UInt32.reduceToNat, UInt64.reduceToNat, Int.reduceToNat]))
  refine Ow.callFV rfl Tryz.call35 (fun w' hw' => NumberR_spec _ _ w' (Nat.le_refl _)) ?_
  refine Ow.go rfl ?_
  simp (disch := (first | assumption | omega | (simp only [lenS, lenT, UInt64.reduceToNat]; try omega))) only [↓Sx.S0, Sx.S1, Tryz.fx, Nat.reduceAdd, Nat.reducePow, Int.reducePow, Nat.reduceBEq, ↓reduceIte, UInt8.reduceToNat, UInt16.reduceToNat, UInt32.reduceToNat, UInt64.reduceToNat, Int.reduceToNat]
  ((try with_reducible refine Cw.go [] ?_); (try simp (disch := (first | assumption | omega | (simp only [lenS, lenT, UInt64.reduceToNat]; try omega))) only [↓Sx.S0, Sx.S1, Tryz.fx, Nat.reduceAdd, Nat.reducePow, Int.reducePow, Nat.reduceBEq, ↓reduceIte, UInt8.reduceToNat, UInt16.reduceToNat, UInt32.reduceToNat, UInt64.reduceToNat, Int.reduceToNat]))
  refine ⟨_, (by simp (disch := (first | assumption | omega | (simp only [lenS, lenT, UInt64.reduceToNat]; try omega))) only [↓Sx.S0, Sx.S1, Tryz.fx, Nat.reduceAdd, Nat.reducePow, Int.reducePow, Nat.reduceBEq, ↓reduceIte, UInt8.reduceToNat, UInt16.reduceToNat, UInt32.reduceToNat, UInt64.reduceToNat, Int.reduceToNat]; rfl), trivial, ?_⟩
  rfl
theorem IdR_spec (x : IdL) (w : World) :
    Rets Tryz.prog 37 #[.agg (a8 x.l)] w (fun v D => v = vs x.l ∧ D = []) := by
  have hxl := x.h
  refine Rets.enterV Tryz.func37 rfl (rs := [.tmp 2]) Tryz.results37 Tryz.ntmps37 ?_
  simp only [List.size_toArray, List.length_cons, List.length_nil, Nat.reduceAdd, Nat.reduceSub, List.replicate_succ, List.replicate_zero, List.cons_append, List.nil_append]
  ((try with_reducible refine Cw.go [] ?_); (try simp (disch := (first | assumption | omega | (simp only [lenS, lenT, UInt64.reduceToNat]; try omega))) only [↓Sx.S0, Sx.S1, Tryz.fx, Nat.reduceAdd, Nat.reducePow, Int.reducePow, Nat.reduceBEq, ↓reduceIte, UInt8.reduceToNat, UInt16.reduceToNat, UInt32.reduceToNat, UInt64.reduceToNat, Int.reduceToNat]))
  refine Ow.box rfl rfl fun bx hbx hwx => ?_
  simp only [ev_tmp, getF_0, getF_s, cells_agg, List.nil_append, List.cons_append]
  refine Ow.go rfl ?_
  simp (disch := (first | assumption | omega | (simp only [lenS, lenT, UInt64.reduceToNat]; try omega))) only [↓Sx.S0, Sx.S1, Tryz.fx, Nat.reduceAdd, Nat.reducePow, Int.reducePow, Nat.reduceBEq, ↓reduceIte, UInt8.reduceToNat, UInt16.reduceToNat, UInt32.reduceToNat, UInt64.reduceToNat, Int.reduceToNat]
  have e4 : List.take 32 (List.drop 0 x.l) = x.l := by rw [List.drop_zero, List.take_of_length_le (by omega)]
  ((try with_reducible refine Cw.go [] ?_); (try simp (disch := (first | assumption | omega | (simp only [lenS, lenT, UInt64.reduceToNat]; try omega))) only [↓Sx.S0, Sx.S1, Tryz.fx, Nat.reduceAdd, Nat.reducePow, Int.reducePow, Nat.reduceBEq, ↓reduceIte, UInt8.reduceToNat, UInt16.reduceToNat, UInt32.reduceToNat, UInt64.reduceToNat, Int.reduceToNat, e4]))
  refine ⟨_, (by simp (disch := (first | assumption | omega | (simp only [lenS, lenT, UInt64.reduceToNat]; try omega))) only [↓Sx.S0, Sx.S1, Tryz.fx, Nat.reduceAdd, Nat.reducePow, Int.reducePow, Nat.reduceBEq, ↓reduceIte, UInt8.reduceToNat, UInt16.reduceToNat, UInt32.reduceToNat, UInt64.reduceToNat, Int.reduceToNat]; rfl), ⟨hwx, trivial⟩, ?_⟩
  rfl
end Go.Proofs
end
section
open Go Go.Proofs Go.Sx Go.RefP
namespace Go.Proofs
set_option maxRecDepth 10000
set_option maxHeartbeats 4000000
set_option linter.unusedSimpArgs false
set_option linter.defProp false
def uWZ6_1 := And.intro (And.intro (And.intro (And.intro (@rdIn_v8) (@rdIn_v16)) (And.intro (@rdIn_v32) (@rdIn_v64))) (And.intro (And.intro (@rdIn_vi) (@load_ref0)) (And.intro (@load_ref1) (@cells_ref)))) (And.intro (And.intro (And.intro (@eqIdz) (@store_rr)) (And.intro (@load_ref) (@load_bk0))) (And.intro (And.intro (@load_bk1) (@load_bk)) (And.intro (@tup2_0) (And.intro (@tup2_1) (@store_bk0)))))
theorem refEntry_spec (r : RefL) (w : World) (hs : r.name.length < 1000) :
    Rets Tryz.prog 39 #[.agg (refC r).toArray] w (fun v D => v = vs (recordV (entryB r)) ∧ D = []) := by
  have hil := r.id.h
  refine Rets.enterV Tryz.func39 rfl (rs := [.tmp 2]) Tryz.results39 Tryz.ntmps39 ?_
  simp only [List.size_toArray, List.length_cons, List.length_nil, Nat.reduceAdd, Nat.reduceSub, List.replicate_succ, List.replicate_zero, List.cons_append, List.nil_append]
  ((try with_reducible refine Cw.go [] ?_); (try simp (disch := (first | assumption | omega | (simp only [lenS, lenT, UInt64.reduceToNat]; try omega))) only [↓Sx.S0, Sx.S1, Tryz.fx, uWZ6_1, Nat.reduceAdd, Nat.reducePow, Int.reducePow, Nat.reduceBEq, ↓reduceIte, UInt8.reduceToNat, UInt16.reduceToNat, UInt32.reduceToNat, UInt64.reduceToNat, Int.reduceToNat]))
  refine Ow.box rfl rfl fun bx hbx hwx => ?_
  simp only [ev_tmp, getF_0, getF_s, cells_agg, List.nil_append, List.cons_append]
  refine Ow.go rfl ?_
  simp (disch := (first | assumption | omega | (simp only [lenS, lenT, UInt64.reduceToNat]; try omega))) only [↓Sx.S0, Sx.S1, Tryz.fx, uWZ6_1, Nat.reduceAdd, Nat.reducePow, Int.reducePow, Nat.reduceBEq, ↓reduceIte, UInt8.reduceToNat, UInt16.reduceToNat, UInt32.reduceToNat, UInt64.reduceToNat, Int.reduceToNat]
  ((try with_reducible refine Cw.go [] ?_); (try simp (disch := (first | assumption | omega | (simp only [lenS, lenT, UInt64.reduceToNat]; try omega))) only [↓Sx.S0, Sx.S1, Tryz.fx, uWZ6_1, Nat.reduceAdd, Nat.reducePow, Int.reducePow, Nat.reduceBEq, ↓reduceIte, UInt8.reduceToNat, UInt16.reduceToNat, UInt32.reduceToNat, UInt64.reduceToNat, Int.reduceToNat]))
  refine Cw.regionO [0, 4, 1, 5, 2, 3, 6, 7, 8, 9, 10] [] rfl (by kernel_rfl) (by kernel_rfl) ?_
  simp only [nl_cons, ↓pickL_nil, ↓pickL_cons, ↓nthO_0, ↓nthO_s, consO_some]
  refine Ow.goQ ?_
  simp (disch := (first | assumption | omega | (simp only [lenS, lenT, UInt64.reduceToNat]; try omega))) only [↓Sx.S0, Sx.S1, Tryz.fx, uWZ6_1, Nat.reduceAdd, Nat.reducePow, Int.reducePow, Nat.reduceBEq, ↓reduceIte, UInt8.reduceToNat, UInt16.reduceToNat, UInt32.reduceToNat, UInt64.reduceToNat, Int.reduceToNat]
  have hel : (entryB r).length < 1100 := by
    have h1 := numL_clamp_len (r.name.length : Int)
    unfold entryB textL
    simp only [List.length_append, List.length_cons, List.length_nil]
    omega
  have hsl := sealV_len (entryB r)
  have htl : (textL r.name).length < 1100 := by
    have h1 := numL_clamp_len (r.name.length : Int)
    unfold textL
    simp only [List.length_append]
    omega
  have ha1 := bin_add_s [69] (textL r.name) (by simp; omega)
  have ha2 : binV .add (vs ([69] ++ textL r.name)) (vs r.id.l) = some (vs (entryB r)) := bin_add_s ([69] ++ textL r.name) r.id.l (by simp; omega)
  refine Ow.callFV rfl Tryz.call36 (fun w' hw' => TextR_spec r.name w' (by omega)) ?_
  refine Ow.goQ ?_
  simp (disch := (first | assumption | omega | (simp only [lenS, lenT, UInt64.reduceToNat]; try omega))) only [↓Sx.S0, Sx.S1, Tryz.fx, uWZ6_1, Nat.reduceAdd, Nat.reducePow, Int.reducePow, Nat.reduceBEq, ↓reduceIte, UInt8.reduceToNat, UInt16.reduceToNat, UInt32.reduceToNat, UInt64.reduceToNat, Int.reduceToNat, ha1]
  refine Ow.callFV rfl Tryz.call37 (fun w' hw' => IdR_spec r.id w') ?_
  refine Ow.goQ ?_
  simp (disch := (first | assumption | omega | (simp only [lenS, lenT, UInt64.reduceToNat]; try omega))) only [↓Sx.S0, Sx.S1, Tryz.fx, uWZ6_1, Nat.reduceAdd, Nat.reducePow, Int.reducePow, Nat.reduceBEq, ↓reduceIte, UInt8.reduceToNat, UInt16.reduceToNat, UInt32.reduceToNat, UInt64.reduceToNat, Int.reduceToNat, ha2]
  refine Ow.callFV rfl Tryz.call38 (fun w' hw' => refSeal_spec (entryB r) w' (by omega)) ?_
  refine Ow.goQ ?_
  simp (disch := (first | assumption | omega | (simp only [lenS, lenT, UInt64.reduceToNat]; try omega))) only [↓Sx.S0, Sx.S1, Tryz.fx, uWZ6_1, Nat.reduceAdd, Nat.reducePow, Int.reducePow, Nat.reduceBEq, ↓reduceIte, UInt8.reduceToNat, UInt16.reduceToNat, UInt32.reduceToNat, UInt64.reduceToNat, Int.reduceToNat]
  refine Ow.callFV rfl Tryz.call36 (fun w' hw' => TextR_spec (sealV (entryB r)) w' (by omega)) ?_
  refine Ow.goQ ?_
  simp (disch := (first | assumption | omega | (simp only [lenS, lenT, UInt64.reduceToNat]; try omega))) only [↓Sx.S0, Sx.S1, Tryz.fx, uWZ6_1, Nat.reduceAdd, Nat.reducePow, Int.reducePow, Nat.reduceBEq, ↓reduceIte, UInt8.reduceToNat, UInt16.reduceToNat, UInt32.reduceToNat, UInt64.reduceToNat, Int.reduceToNat]
  try with_reducible refine Ow.nil ?_
  ((try with_reducible refine Cw.go [] ?_); (try simp (disch := (first | assumption | omega | (simp only [lenS, lenT, UInt64.reduceToNat]; try omega))) only [↓Sx.S0, Sx.S1, Tryz.fx, uWZ6_1, Nat.reduceAdd, Nat.reducePow, Int.reducePow, Nat.reduceBEq, ↓reduceIte, UInt8.reduceToNat, UInt16.reduceToNat, UInt32.reduceToNat, UInt64.reduceToNat, Int.reduceToNat]))
  refine ⟨_, (by simp (disch := (first | assumption | omega | (simp only [lenS, lenT, UInt64.reduceToNat]; try omega))) only [↓Sx.S0, Sx.S1, Tryz.fx, uWZ6_1, Nat.reduceAdd, Nat.reducePow, Int.reducePow, Nat.reduceBEq, ↓reduceIte, UInt8.reduceToNat, UInt16.reduceToNat, UInt32.reduceToNat, UInt64.reduceToNat, Int.reduceToNat]; rfl), ⟨hwx, trivial⟩, ?_⟩
  rfl
/-- What the document's Trim hands back. -/
def RefTrimS (v0 : Value) (t l : List RefL) (keep : Int) (v : Value) (D : Heap) : Prop :=
  ∃ vt vl ls, valR t l (trimK l.length keep) = some ls ∧ v = .agg #[vt, vl] ∧ GrI D 48 33 vt ls.length (ls.map refC).flatten ∧ sliceV (.sl (true, 33)) v0 (some (some ((trimK l.length keep : Nat) : Int))) none = some vl
end Go.Proofs
end
section
open Go Go.Proofs Go.Sx Go.RefP Go.RooP Go.Shelf Go.Sort
namespace Go.Proofs
set_option maxRecDepth 100000
set_option maxHeartbeats 400000
set_option linter.unusedSimpArgs false
/-! ### Ids, sorted -/
theorem cmpB_neg (a b : List UInt8) : Lib.compareBytes a b < 0 ↔ ltB a b = true := by
  rw [cmpB_eq]
  split
  · simp [*]
  · split <;> simp [*]
theorem ltId (x y : IdL) : ltOf (fun x y : IdL => Lib.compareBytes x.l y.l) x y = ltB x.l y.l := by
  unfold ltOf
  rw [Bool.eq_iff_iff, decide_eq_true_eq, cmpB_neg]
theorem swoId : SWO (ltOf fun x y : IdL => Lib.compareBytes x.l y.l) where
  irrefl x := by rw [ltId]; exact ltB_irrefl x.l
  trans x y z h1 h2 := by rw [ltId] at *; exact ltB_trans h1 h2
  ntrans x y z h1 h2 := by
    rw [ltId] at *
    cases h : ltB x.l z.l
    · rfl
    · by_cases hxy : x.l = y.l
      · rw [hxy, h2] at h; cases h
      · rw [ltB_trans (ltB_total h1 fun e => hxy e) h] at h2
        cases h2
theorem idC_cells (x : IdL) : ∀ v ∈ idLC x, v.oneCell' = true := fun v hv => List.all_eq_true.1 (idC_one x) v hv
theorem sortId_spec {b c : Nat} {l : List IdL} {rest : List Value} {E : TypeId} (w : World) (hb : w.heap[b]? = some (rowO idLC E rest l)) (hsz : l.length < 4611686018427387904) :
    Rets Tryz.prog 30 #[vsl b 0 l.length c, .func (.func 31) #[] #[]] w
      (fun v D => ∃ o, D = [(b, o)] ∧ v = .tuple #[] ∧ ∃ l' : List IdL, l'.Perm l ∧ l'.Pairwise (fun x y => ltB y.l x.l = false) ∧ o = rowO idLC E rest l') := by
  have h := @sort_rets IdL ⟨id0⟩ idLC 32 Tryz.prog Tryz.sortId_ren Tryz.sortId Tryz.isAgg34 Tryz.sizeOf34 idLC_len idC_cells (fun x y => Lib.compareBytes x.l y.l) swoId 31 Tryz.call31 cmpId_spec w b c E l rest hb hsz
  refine Rets.mono h ?_
  rintro v D ⟨o, rfl, rfl, l', hp, hs, rfl⟩
  exact ⟨_, rfl, rfl, l', hp, hs.imp fun {x y} h => (ltId y x).symm.trans h, rfl⟩
theorem sortId_none (p : Option Addr) (c : Nat) (fv : Value) (w : World) : Rets Tryz.prog 30 #[.slice p 0 c, fv] w (fun v D => v = .tuple #[] ∧ D = []) :=
  @sort_none Tryz.prog Tryz.sortId_ren Tryz.sortId p c fv w
set_option linter.defProp false
def uWZD_1 := And.intro (And.intro (@rdIn_v8) (@rdIn_vi)) (And.intro (@eqIdB) (@neIdB))
theorem CompactNo_spec (p : Option Addr) (c : Nat) (w : World) : Rets Tryz.prog 33 #[.slice p 0 c] w (fun v D => v = .slice p 0 c ∧ D = []) := by
  refine Rets.enterV Tryz.func33 rfl (rs := [.tmp 2]) Tryz.results33 Tryz.ntmps33 ?_
  simp only [List.size_toArray, List.length_cons, List.length_nil, Nat.reduceAdd, Nat.reduceSub, List.replicate_succ, List.replicate_zero, List.cons_append, List.nil_append]
  have hlen : lenV (.sl (true, 32)) (.slice p 0 c) = some (vi (0 : Nat)) := rfl
  have d1 : decide (((0 : Nat) : Int) < 2) = true := rfl
  ((try with_reducible refine Cw.go [] ?_); (try simp (disch := (first | assumption | omega | (simp only [lenS, lenT, UInt64.reduceToNat]; try omega))) only [↓Sx.S0, Sx.S1, Tryz.fx, uWZD_1, Nat.reduceAdd, Nat.reducePow, Int.reducePow, Nat.reduceBEq, ↓reduceIte, UInt8.reduceToNat, UInt16.reduceToNat, UInt32.reduceToNat, UInt64.reduceToNat, Int.reduceToNat, hlen, d1]))
  refine ⟨_, (by simp (disch := (first | assumption | omega | (simp only [lenS, lenT, UInt64.reduceToNat]; try omega))) only [↓Sx.S0, Sx.S1, Tryz.fx, uWZD_1, Nat.reduceAdd, Nat.reducePow, Int.reducePow, Nat.reduceBEq, ↓reduceIte, UInt8.reduceToNat, UInt16.reduceToNat, UInt32.reduceToNat, UInt64.reduceToNat, Int.reduceToNat]; rfl), trivial, ?_⟩
  rfl
/-! ### Roots -/
/-- The ids of refs that are some. -/
def nzI (l : List RefL) : List IdL := (l.map RefL.id).filter fun i => !(i.l == z32)
theorem nzI_take {l : List RefL} {g : Nat} (h : g < l.length) : nzI (l.take (g + 1)) = nzI (l.take g) ++ if (l.getD g ref0).id.l == z32 then [] else [(l.getD g ref0).id] := by
  rw [StP.take_snoc (z := ref0) h]
  unfold nzI
  rw [List.map_append, List.filter_append]
  congr 1
  simp only [List.map_cons, List.map_nil, List.filter_cons, List.filter_nil]
  cases ((l.getD g ref0).id.l == z32) <;> rfl
theorem nzI_le (l : List RefL) : (nzI l).length ≤ l.length := by
  unfold nzI
  have := List.length_filter_le (fun i : IdL => !(i.l == z32)) (l.map RefL.id)
  rw [List.length_map] at this; exact this
/-- The roots that a book has. -/
def rootsI (t l : List RefL) (k : List IdL) : Prop := ∃ s, s.Perm (nzI (t ++ l)) ∧ s.Pairwise (fun x y => ltB y.l x.l = false) ∧ k = uniqI s
/-- What Roots hands back. -/
def RootsS (t l : List RefL) (v : Value) (D : Heap) : Prop :=
  if rightB t l = true then ∃ k, rootsI t l k ∧ GrI D 34 32 v k.length (k.map idLC).flatten else v = .slice none 0 0
theorem neIdz (l : List UInt8) (h : l.length = 32) : binX Tryz.prog .neq 34 (.agg (a8 l)) (.agg (a8 z32)) = some (.bool (!(l == z32))) :=
  binX_a8n Tryz.underlying34 Tryz.underlying5 Tryz.ag5 (by kernel_rfl) l z32 ⟨h, by simp [z32]⟩
theorem slice2 (x y : Value) (hx : x.cells = #[x]) (hy : y.cells = #[y]) : sliceB Tryz.prog 97 2 [(0, x), (1, y)] = some (22, #[x, y]) := by
  have hz : zeroV Tryz.prog 22 = some (.slice none 0 0) := Tryz.zr22
  simp only [sliceB, Tryz.underlying97, Tryz.ag22, hz, Option.map_some]
  have hI : ∀ I : Array Value, I.size = 2 → (I.setIfInBounds 0 x).setIfInBounds 1 y = #[x, y] := by
    intro I h
    apply Array.ext
    · simp [h]
    · intro i h1 h2
      have h3 : i < 2 := by simpa using h2
      match i, h3 with
      | 0, _ => simp [h]
      | 1, _ => simp [h]
  simp [Instr.fill, hx, hy]
  exact hI _ (by simp)
theorem _root_.Go.Sx.SlV.cellX {α : Type} {m : Nat} {enc : α → List Value} {z : α} {w : World} {v : Value} {l : List α} (h : SlV m enc z w v l) : Value.oneCell' v = true ∧ v.cells = #[v] := by
  obtain ⟨b, off, c, arr, E, fz, -, -, ⟨rfl, -⟩ | ⟨rfl, -⟩⟩ := h
  · exact ⟨rfl, rfl⟩
  · exact ⟨rfl, rfl⟩
/-- A list of refs that was made: it has none, or its block is known. -/
theorem gri_row {D : Heap} {v : Value} {l : List RefL} (hn : (keys D).Nodup) (h : GrI D 48 33 v l.length (l.map refC).flatten) : l.length = 0 ∨ ∃ b c rest D', v = vsl b 0 l.length c ∧ D.Perm ((b, rowO refC 48 rest l) :: D') := by
  obtain ⟨X, hX, h | ⟨h0, -⟩⟩ := h
  · rcases h.inv with ⟨-, h0, -⟩ | ⟨b, c, rest, rfl, hl, h1, h2, h3, h4⟩
    · exact .inl h0
    · have hm := hX _ (look_mem hl)
      obtain ⟨D', hp⟩ := look_perm (look_of_mem hn hm)
      exact .inr ⟨b, c, rest, D', rfl, hp⟩
  · exact .inl h0
theorem gr_cons {D : Heap} {E : TypeId} {m n b5 : Nat} {v : Value} {cs : List Value} {x : Obj} (h : Gr D E m v n cs) (hb : b5 ∉ keys D) : Gr ((b5, x) :: D) E m v n cs :=
  h.keep fun b o _ hl => by
    have hne : b ≠ b5 := fun e => hb (e ▸ key_of_look hl)
    rw [look_other _ _ _ _ (by omega)]; exact hl
theorem sliceId (i : IdL) : sliceB Tryz.prog 36 1 [(0, .agg (a8 i.l))] = some (34, (idLC i).toArray) :=
  slice_one Tryz.underlying36 Tryz.ag34 zrIdB (by decide) (idLC_len i)
structure RoG where
  g : Nat
  v : Value
  o : List IdL
  D : Heap
set_option linter.defProp false
def uWZD_2 := And.intro (And.intro (And.intro (@rdIn_v8) (@rdIn_vi)) (And.intro (@load_ref0) (And.intro (@load_ref1) (@cells_ref)))) (And.intro (And.intro (@store_rr) (And.intro (@load_ref) (@load_bk0))) (And.intro (@load_bk1) (And.intro (@load_bk) (@tp1))))
theorem Roots_spec (vt vl : Value) (t l : List RefL) (w : World) (ht : RefSl w vt t) (hl : RefSl w vl l) (htl : t.length < 1000) (hll : l.length < 1000) (hnt : ShortN t) (hnl : ShortN l) :
    Rets Tryz.prog 11 #[.agg #[vt, vl]] w (XS w [] (RootsS t l)) := by
  refine Rets.enterX Tryz.func11 rfl (rs := [.tmp 2]) Tryz.results11 Tryz.ntmps11 (fun p hp => by cases hp) (by simp [keys]) ?_
  simp only [List.size_toArray, List.length_cons, List.length_nil, Nat.reduceAdd, Nat.reduceSub, List.replicate_succ, List.replicate_zero, List.cons_append, List.nil_append]
  ((try with_reducible refine Cw.go [] ?_); (try simp (disch := (first | assumption | omega | (simp only [lenS, lenT, UInt64.reduceToNat]; try omega))) only [↓Sx.S0, Sx.S1, Tryz.fx, uWZD_2, Nat.reduceAdd, Nat.reducePow, Int.reducePow, Nat.reduceBEq, ↓reduceIte, UInt8.reduceToNat, UInt16.reduceToNat, UInt32.reduceToNat, UInt64.reduceToNat, Int.reduceToNat]))
  refine Ow.box rfl rfl fun bx hbx hwx => ?_
  simp only [ev_tmp, getF_0, getF_s, cells_agg, List.nil_append, List.cons_append]
  refine Ow.go rfl ?_
  simp (disch := (first | assumption | omega | (simp only [lenS, lenT, UInt64.reduceToNat]; try omega))) only [↓Sx.S0, Sx.S1, Tryz.fx, uWZD_2, Nat.reduceAdd, Nat.reducePow, Int.reducePow, Nat.reduceBEq, ↓reduceIte, UInt8.reduceToNat, UInt16.reduceToNat, UInt32.reduceToNat, UInt64.reduceToNat, Int.reduceToNat]
  ((try with_reducible refine Cw.go [] ?_); (try simp (disch := (first | assumption | omega | (simp only [lenS, lenT, UInt64.reduceToNat]; try omega))) only [↓Sx.S0, Sx.S1, Tryz.fx, uWZD_2, Nat.reduceAdd, Nat.reducePow, Int.reducePow, Nat.reduceBEq, ↓reduceIte, UInt8.reduceToNat, UInt16.reduceToNat, UInt32.reduceToNat, UInt64.reduceToNat, Int.reduceToNat]))
  refine Ow.callFV rfl Tryz.call8 (fun w' hw' => Right_spec vt vl t l w' (ht.oldN hw' ⟨hwx, trivial⟩) (hl.oldN hw' ⟨hwx, trivial⟩) (by omega) (by omega) hnt hnl) ?_
  cases hr : rightB t l
  · refine Ow.go rfl ?_
    simp (disch := (first | assumption | omega | (simp only [lenS, lenT, UInt64.reduceToNat]; try omega))) only [↓Sx.S0, Sx.S1, Tryz.fx, uWZD_2, Nat.reduceAdd, Nat.reducePow, Int.reducePow, Nat.reduceBEq, ↓reduceIte, UInt8.reduceToNat, UInt16.reduceToNat, UInt32.reduceToNat, UInt64.reduceToNat, Int.reduceToNat]
    ((try with_reducible refine Cw.go [] ?_); (try simp (disch := (first | assumption | omega | (simp only [lenS, lenT, UInt64.reduceToNat]; try omega))) only [↓Sx.S0, Sx.S1, Tryz.fx, uWZD_2, Nat.reduceAdd, Nat.reducePow, Int.reducePow, Nat.reduceBEq, ↓reduceIte, UInt8.reduceToNat, UInt16.reduceToNat, UInt32.reduceToNat, UInt64.reduceToNat, Int.reduceToNat]))
    refine ⟨_, (by simp (disch := (first | assumption | omega | (simp only [lenS, lenT, UInt64.reduceToNat]; try omega))) only [↓Sx.S0, Sx.S1, Tryz.fx, uWZD_2, Nat.reduceAdd, Nat.reducePow, Int.reducePow, Nat.reduceBEq, ↓reduceIte, UInt8.reduceToNat, UInt16.reduceToNat, UInt32.reduceToNat, UInt64.reduceToNat, Int.reduceToNat]; rfl), ?_⟩
    refine ⟨Ext.of_new ⟨hwx, trivial⟩, ?_⟩
    unfold RootsS
    rw [if_neg (by rw [hr]; simp)]
    rfl
  · refine Ow.go rfl ?_
    simp (disch := (first | assumption | omega | (simp only [lenS, lenT, UInt64.reduceToNat]; try omega))) only [↓Sx.S0, Sx.S1, Tryz.fx, uWZD_2, Nat.reduceAdd, Nat.reducePow, Int.reducePow, Nat.reduceBEq, ↓reduceIte, UInt8.reduceToNat, UInt16.reduceToNat, UInt32.reduceToNat, UInt64.reduceToNat, Int.reduceToNat]
    ((try with_reducible refine Cw.go [] ?_); (try simp (disch := (first | assumption | omega | (simp only [lenS, lenT, UInt64.reduceToNat]; try omega))) only [↓Sx.S0, Sx.S1, Tryz.fx, uWZD_2, Nat.reduceAdd, Nat.reducePow, Int.reducePow, Nat.reduceBEq, ↓reduceIte, UInt8.reduceToNat, UInt16.reduceToNat, UInt32.reduceToNat, UInt64.reduceToNat, Int.reduceToNat]))
    have hct := SlV.cellX ht
    have hcl := SlV.cellX hl
    refine Ow.buildSlice (e := 22) #[vt, vl] rfl rfl (slice2 vt vl hct.2 hcl.2) fun b1 hb1 hw1 => ?_
    refine Ow.go rfl ?_
    simp (disch := (first | assumption | omega | (simp only [lenS, lenT, UInt64.reduceToNat]; try omega))) only [↓Sx.S0, Sx.S1, Tryz.fx, uWZD_2, Nat.reduceAdd, Nat.reducePow, Int.reducePow, Nat.reduceBEq, ↓reduceIte, UInt8.reduceToNat, UInt16.reduceToNat, UInt32.reduceToNat, UInt64.reduceToNat, Int.reduceToNat]
    have hN1 : New w.heap.size [(bx, Obj.cells #[vt, vl] 24 (0, 0)), (b1, Obj.cells #[vt, vl] 22 (0, 0))] := ⟨hwx, hw1, trivial⟩
    refine Ow.callC rfl rfl Tryz.call29 (fun w' hw' => ConcatRef_spec b1 vt vl t l w' (hw'.has _ _ (by simp)) (ht.oldN hw' hN1) (hl.oldN hw' hN1) htl hll) (fun B2 v2 D2 hA2 hB2 hN2 hS2 => ?_)
    have hlenC : ∀ m, lenV (.sl m) v2 = some (vi (t ++ l).length) := fun m => by obtain ⟨X, -, hX⟩ := hS2; exact hX.len m
    generalize hL : t ++ l = L at *
    have hLl : L.length < 2000 := by rw [← hL, List.length_append]; omega
    have hN2' := hN2.mono hB2
    refine Ow.go rfl ?_
    simp (disch := (first | assumption | omega | (simp only [lenS, lenT, UInt64.reduceToNat]; try omega))) only [↓Sx.S0, Sx.S1, Tryz.fx, uWZD_2, Nat.reduceAdd, Nat.reducePow, Int.reducePow, Nat.reduceBEq, ↓reduceIte, UInt8.reduceToNat, UInt16.reduceToNat, UInt32.reduceToNat, UInt64.reduceToNat, Int.reduceToNat, hlenC]
    refine Cw.world fun wz hwz => ?_
    have hnd : (keys D2).Nodup := (List.nodup_cons.1 (List.nodup_cons.1 hwz.nodup).2).2
    rcases gri_row hnd hS2 with h0 | ⟨bc, cc, rest, D', rfl, hp⟩
    · have hL0 : L = [] := List.length_eq_zero_iff.1 h0
      subst hL0
      have hkr : rootsI t l [] := ⟨[], by rw [hL]; exact List.Perm.refl _, List.Pairwise.nil, rfl⟩
      clear hwz wz
      ((try with_reducible refine Cw.go [] ?_); (try simp (disch := (first | assumption | omega | (simp only [lenS, lenT, UInt64.reduceToNat]; try omega))) only [↓Sx.S0, Sx.S1, Tryz.fx, uWZD_2, Nat.reduceAdd, Nat.reducePow, Int.reducePow, Nat.reduceBEq, ↓reduceIte, UInt8.reduceToNat, UInt16.reduceToNat, UInt32.reduceToNat, UInt64.reduceToNat, Int.reduceToNat]))
      refine Cw.loopG (G := Unit) [17, 18, 19, 5, 20, 21, 22, 23, 24, 25, 26, 27, 28, 3, 29, 16] (fun g => [(3, .slice none 0 0), (16, vi 0)]) (fun g => (bx, .cells #[vt, vl] 24 (0, 0)) :: (b1, Obj.cells #[vt, vl] 22 (0, 0)) :: D2) (fun g => True) (fun g => 0) () rfl rfl ?_ ?_
      · trivial
      intro g j hg
      simp only [overFrom, pin, setF_0, setF_s, List.contains_cons, List.contains_nil, Nat.reduceBEq, Bool.or_false, Bool.false_or, Bool.or_true, Bool.true_or, Nat.reduceAdd, ↓reduceIte, Bool.false_eq_true]
      have d0 : decide ((0 : Int) < ((([] : List RefL).length : Nat) : Int)) = false := rfl
      ((try with_reducible refine Cw.go [] ?_); (try simp (disch := (first | assumption | omega | (simp only [lenS, lenT, UInt64.reduceToNat]; try omega))) only [↓Sx.S0, Sx.S1, Tryz.fx, uWZD_2, Nat.reduceAdd, Nat.reducePow, Int.reducePow, Nat.reduceBEq, ↓reduceIte, UInt8.reduceToNat, UInt16.reduceToNat, UInt32.reduceToNat, UInt64.reduceToNat, Int.reduceToNat, d0]))
      refine Ow.callFV rfl Tryz.call30 (fun w' hw' => sortId_none none 0 _ w') ?_
      refine Ow.go rfl ?_
      simp (disch := (first | assumption | omega | (simp only [lenS, lenT, UInt64.reduceToNat]; try omega))) only [↓Sx.S0, Sx.S1, Tryz.fx, uWZD_2, Nat.reduceAdd, Nat.reducePow, Int.reducePow, Nat.reduceBEq, ↓reduceIte, UInt8.reduceToNat, UInt16.reduceToNat, UInt32.reduceToNat, UInt64.reduceToNat, Int.reduceToNat]
      ((try with_reducible refine Cw.go [] ?_); (try simp (disch := (first | assumption | omega | (simp only [lenS, lenT, UInt64.reduceToNat]; try omega))) only [↓Sx.S0, Sx.S1, Tryz.fx, uWZD_2, Nat.reduceAdd, Nat.reducePow, Int.reducePow, Nat.reduceBEq, ↓reduceIte, UInt8.reduceToNat, UInt16.reduceToNat, UInt32.reduceToNat, UInt64.reduceToNat, Int.reduceToNat]))
      refine Ow.callFV rfl Tryz.call33 (fun w' hw' => CompactNo_spec none 0 w') ?_
      refine Ow.go rfl ?_
      simp (disch := (first | assumption | omega | (simp only [lenS, lenT, UInt64.reduceToNat]; try omega))) only [↓Sx.S0, Sx.S1, Tryz.fx, uWZD_2, Nat.reduceAdd, Nat.reducePow, Int.reducePow, Nat.reduceBEq, ↓reduceIte, UInt8.reduceToNat, UInt16.reduceToNat, UInt32.reduceToNat, UInt64.reduceToNat, Int.reduceToNat]
      ((try with_reducible refine Cw.go [] ?_); (try simp (disch := (first | assumption | omega | (simp only [lenS, lenT, UInt64.reduceToNat]; try omega))) only [↓Sx.S0, Sx.S1, Tryz.fx, uWZD_2, Nat.reduceAdd, Nat.reducePow, Int.reducePow, Nat.reduceBEq, ↓reduceIte, UInt8.reduceToNat, UInt16.reduceToNat, UInt32.reduceToNat, UInt64.reduceToNat, Int.reduceToNat]))
      refine ⟨_, (by simp (disch := (first | assumption | omega | (simp only [lenS, lenT, UInt64.reduceToNat]; try omega))) only [↓Sx.S0, Sx.S1, Tryz.fx, uWZD_2, Nat.reduceAdd, Nat.reducePow, Int.reducePow, Nat.reduceBEq, ↓reduceIte, UInt8.reduceToNat, UInt16.reduceToNat, UInt32.reduceToNat, UInt64.reduceToNat, Int.reduceToNat]; rfl), ?_⟩
      refine ⟨Ext.of_new ⟨hwx, hw1, hN2'⟩, ?_⟩
      unfold RootsS
      rw [if_pos hr]
      exact ⟨[], hkr, (Gr.nl (L := [])).i fun q hq => by cases hq⟩
    · have hP := hN2.perm hp
      have hbx2 : bx < bc := Nat.lt_of_lt_of_le (above_to hA2 (by simp [keys])) hP.1
      have hb12 : b1 < bc := Nat.lt_of_lt_of_le (above_to hA2 (by simp [keys])) hP.1
      have hwc : w.heap.size ≤ bc := by omega
      have hND0 : New w.heap.size ((b1, Obj.cells #[vt, vl] 22 (0, 0)) :: D') := ⟨hw1, (hN2'.perm hp).2⟩
      refine Cw.permL (M := (bx, .cells #[vt, vl] 24 (0, 0)) :: (bc, rowO refC 48 rest L) :: (b1, Obj.cells #[vt, vl] 22 (0, 0)) :: D') (List.Perm.cons _ ((List.Perm.swap _ _ _).trans (List.Perm.cons _ hp.symm))) ?_
      clear hwz wz hS2 hnd hP hp hN2 hN2' hA2 hN1
      generalize ((b1, Obj.cells #[vt, vl] 22 (0, 0)) :: D') = D at *
      ((try with_reducible refine Cw.go [] ?_); (try simp (disch := (first | assumption | omega | (simp only [lenS, lenT, UInt64.reduceToNat]; try omega))) only [↓Sx.S0, Sx.S1, Tryz.fx, uWZD_2, Nat.reduceAdd, Nat.reducePow, Int.reducePow, Nat.reduceBEq, ↓reduceIte, UInt8.reduceToNat, UInt16.reduceToNat, UInt32.reduceToNat, UInt64.reduceToNat, Int.reduceToNat]))
      refine Cw.loopG (G := RoG) [17, 18, 19, 5, 20, 21, 22, 23, 24, 25, 26, 27, 28, 3, 29, 16] (fun g => [(3, g.v), (16, vi g.g)]) (fun g => (bx, .cells #[vt, vl] 24 (0, 0)) :: (bc, rowO refC 48 rest L) :: g.D) (fun g => g.g ≤ L.length ∧ New w.heap.size g.D ∧ Gr g.D 34 32 g.v g.o.length (g.o.map idLC).flatten ∧ g.o = nzI (L.take g.g) ∧ g.o.length ≤ g.g) (fun g => L.length - g.g) ⟨0, .slice none 0 0, [], D⟩ rfl rfl ?_ ?_
      · exact ⟨Nat.zero_le _, hND0, Gr.nl, rfl, Nat.le_refl _⟩
      intro g j hg
      simp only [overFrom, pin, setF_0, setF_s, List.contains_cons, List.contains_nil, Nat.reduceBEq, Bool.or_false, Bool.false_or, Bool.or_true, Bool.true_or, Nat.reduceAdd, ↓reduceIte, Bool.false_eq_true]
      obtain ⟨g, v, o, D⟩ := g
      simp only at hg ⊢
      obtain ⟨hgL, hND, hGr, ho, hol⟩ := hg
      by_cases hlt : g < L.length
      · have d1 : decide ((g : Int) < (L.length : Int)) = true := decide_eq_true (by omega)
        have hld : loadV (some (true, 33)) (some (rowO refC 48 rest L)) (g * 33) = some (.agg (refC (L.getD g ref0)).toArray) := load_row refC_len g hlt
        have hst := nzI_take hlt
        generalize hrr : L.getD g ref0 = r at *
        ((try with_reducible refine Cw.go [] ?_); (try simp (disch := (first | assumption | omega | (simp only [lenS, lenT, UInt64.reduceToNat]; try omega))) only [↓Sx.S0, Sx.S1, Tryz.fx, uWZD_2, Nat.reduceAdd, Nat.reducePow, Int.reducePow, Nat.reduceBEq, ↓reduceIte, UInt8.reduceToNat, UInt16.reduceToNat, UInt32.reduceToNat, UInt64.reduceToNat, Int.reduceToNat, d1, hld]))
        refine Ow.alloc rfl rfl zrRef fun b5 hb5 hw5 => ?_
        simp only [cells_agg, List.nil_append, List.cons_append]
        have hx5 : bx < b5 := above_to hb5 (by simp [keys])
        have hc5 : bc < b5 := above_to hb5 (by simp [keys])
        refine Ow.permL (M := (bx, .cells #[vt, vl] 24 (0, 0)) :: (bc, rowO refC 48 rest L) :: (b5, .cells (refC ref0).toArray 48 (0, 0)) :: D) (by classical exact List.perm_iff_count.2 fun a => by simp only [List.count_append, List.count_cons, List.count_nil] <;> omega) ?_
        have hil := r.id.h
        have hst5 := store_rr r ref0 48
        refine Ow.go rfl ?_
        simp (disch := (first | assumption | omega | (simp only [lenS, lenT, UInt64.reduceToNat]; try omega))) only [↓Sx.S0, Sx.S1, Tryz.fx, uWZD_2, Nat.reduceAdd, Nat.reducePow, Int.reducePow, Nat.reduceBEq, ↓reduceIte, UInt8.reduceToNat, UInt16.reduceToNat, UInt32.reduceToNat, UInt64.reduceToNat, Int.reduceToNat, hst5]
        ((try with_reducible refine Cw.go [] ?_); (try simp (disch := (first | assumption | omega | (simp only [lenS, lenT, UInt64.reduceToNat]; try omega))) only [↓Sx.S0, Sx.S1, Tryz.fx, uWZD_2, Nat.reduceAdd, Nat.reducePow, Int.reducePow, Nat.reduceBEq, ↓reduceIte, UInt8.reduceToNat, UInt16.reduceToNat, UInt32.reduceToNat, UInt64.reduceToNat, Int.reduceToNat]))
        refine Ow.build (.agg (a8 z32)) rfl build_id0 ?_
        cases hz : (r.id.l == z32)
        · rw [hz, if_neg (by simp)] at hst
          have hne := neIdz r.id.l hil
          rw [hz] at hne
          have d4 : (!false) = true := rfl
          refine Ow.go rfl ?_
          simp (disch := (first | assumption | omega | (simp only [lenS, lenT, UInt64.reduceToNat]; try omega))) only [↓Sx.S0, Sx.S1, Tryz.fx, uWZD_2, Nat.reduceAdd, Nat.reducePow, Int.reducePow, Nat.reduceBEq, ↓reduceIte, UInt8.reduceToNat, UInt16.reduceToNat, UInt32.reduceToNat, UInt64.reduceToNat, Int.reduceToNat, hne, d4]
          ((try with_reducible refine Cw.go [] ?_); (try simp (disch := (first | assumption | omega | (simp only [lenS, lenT, UInt64.reduceToNat]; try omega))) only [↓Sx.S0, Sx.S1, Tryz.fx, uWZD_2, Nat.reduceAdd, Nat.reducePow, Int.reducePow, Nat.reduceBEq, ↓reduceIte, UInt8.reduceToNat, UInt16.reduceToNat, UInt32.reduceToNat, UInt64.reduceToNat, Int.reduceToNat]))
          refine Ow.buildSlice (e := 34) (idLC r.id).toArray rfl rfl (sliceId r.id) fun b9 hb9 hw9 => ?_
          have hx9 : bx < b9 := above_to hb9 (by simp [keys])
          have hc9 : bc < b9 := above_to hb9 (by simp [keys])
          refine Ow.permL (M := D ++ [(bx, .cells #[vt, vl] 24 (0, 0)), (bc, rowO refC 48 rest L), (b5, .cells (refC r).toArray 48 (0, 0)), (b9, .cells (idLC r.id).toArray 34 (0, 0))]) (by classical exact List.perm_iff_count.2 fun a => by simp only [List.count_append, List.count_cons, List.count_nil] <;> omega) ?_
          refine Ow.go rfl ?_
          simp (disch := (first | assumption | omega | (simp only [lenS, lenT, UInt64.reduceToNat]; try omega))) only [↓Sx.S0, Sx.S1, Tryz.fx, uWZD_2, Nat.reduceAdd, Nat.reducePow, Int.reducePow, Nat.reduceBEq, ↓reduceIte, UInt8.reduceToNat, UInt16.reduceToNat, UInt32.reduceToNat, UInt64.reduceToNat, Int.reduceToNat]
          refine Ow.appendXG (e := 34) (k := 1) (new := idLC r.id) (X := D) v rfl rfl rfl rfl Tryz.underlying36 Tryz.ag34 (by kernel_rfl) zrIdB (by simp [cells_agg, a8]) Tryz.underlying36 (by intro k h; cases h) hGr (fun w' hw' => AppX.one1 (hw'.has b9 (.cells (idLC r.id).toArray 34 (0, 0)) (by simp)) (idLC_len r.id) (idC_one r.id)) (by omega) (fun B3 v3 D3 hA3 hB3 hG3 hk13 hk23 hlk3 => ?_)
          have hND3 : New w.heap.size D3 := New.of_le fun q hq => by
            rcases hk23 q hq with h | h
            · exact hND.le q h
            · omega
          refine Ow.permL (M := (bx, .cells #[vt, vl] 24 (0, 0)) :: (bc, rowO refC 48 rest L) :: (D3 ++ [(b5, .cells (refC r).toArray 48 (0, 0)), (b9, .cells (idLC r.id).toArray 34 (0, 0))])) (by classical exact List.perm_iff_count.2 fun a => by simp only [List.count_append, List.count_cons, List.count_nil] <;> omega) ?_
          have hG3' : Gr (D3 ++ [(b5, .cells (refC r).toArray 48 (0, 0)), (b9, .cells (idLC r.id).toArray 34 (0, 0))]) 34 32 v3 _ _ := hG3.app
          have hN3' : New w.heap.size (D3 ++ [(b5, Obj.cells (refC r).toArray 48 (0, 0)), (b9, .cells (idLC r.id).toArray 34 (0, 0))]) := hND3.app ⟨hw5, hw9, trivial⟩
          generalize (D3 ++ [(b5, Obj.cells (refC r).toArray 48 (0, 0)), (b9, .cells (idLC r.id).toArray 34 (0, 0))]) = E3 at *
          refine Ow.go rfl ?_
          simp (disch := (first | assumption | omega | (simp only [lenS, lenT, UInt64.reduceToNat]; try omega))) only [↓Sx.S0, Sx.S1, Tryz.fx, uWZD_2, Nat.reduceAdd, Nat.reducePow, Int.reducePow, Nat.reduceBEq, ↓reduceIte, UInt8.reduceToNat, UInt16.reduceToNat, UInt32.reduceToNat, UInt64.reduceToNat, Int.reduceToNat]
          ((try with_reducible refine Cw.go [] ?_); (try simp (disch := (first | assumption | omega | (simp only [lenS, lenT, UInt64.reduceToNat]; try omega))) only [↓Sx.S0, Sx.S1, Tryz.fx, uWZD_2, Nat.reduceAdd, Nat.reducePow, Int.reducePow, Nat.reduceBEq, ↓reduceIte, UInt8.reduceToNat, UInt16.reduceToNat, UInt32.reduceToNat, UInt64.reduceToNat, Int.reduceToNat]))
          refine Again.mk (G := RoG) ⟨g + 1, v3, o ++ [r.id], E3⟩ (by show L.length - (g + 1) < L.length - g; omega) ⟨hlt, hN3', ?_, ?_, by show (o ++ [r.id]).length ≤ g + 1; rw [List.length_append]; simp; omega⟩ rfl rfl
          · show Gr E3 34 32 v3 (o ++ [r.id]).length ((o ++ [r.id]).map idLC).flatten
            simpa using hG3'
          · show o ++ [r.id] = nzI (L.take (g + 1))
            rw [hst, ← ho]
        · rw [hz, if_pos rfl] at hst
          have hne := neIdz r.id.l hil
          rw [hz] at hne
          have d4 : (!true) = false := rfl
          refine Ow.go rfl ?_
          simp (disch := (first | assumption | omega | (simp only [lenS, lenT, UInt64.reduceToNat]; try omega))) only [↓Sx.S0, Sx.S1, Tryz.fx, uWZD_2, Nat.reduceAdd, Nat.reducePow, Int.reducePow, Nat.reduceBEq, ↓reduceIte, UInt8.reduceToNat, UInt16.reduceToNat, UInt32.reduceToNat, UInt64.reduceToNat, Int.reduceToNat, hne, d4]
          ((try with_reducible refine Cw.go [] ?_); (try simp (disch := (first | assumption | omega | (simp only [lenS, lenT, UInt64.reduceToNat]; try omega))) only [↓Sx.S0, Sx.S1, Tryz.fx, uWZD_2, Nat.reduceAdd, Nat.reducePow, Int.reducePow, Nat.reduceBEq, ↓reduceIte, UInt8.reduceToNat, UInt16.reduceToNat, UInt32.reduceToNat, UInt64.reduceToNat, Int.reduceToNat]))
          have hND5 : New w.heap.size ((b5, .cells (refC r).toArray 48 (0, 0)) :: D) := ⟨hw5, hND⟩
          have hnb : b5 ∉ keys D := fun h => Nat.lt_irrefl _ (above_to hb5 (by simp [keys] at h ⊢; simp [h]))
          refine Again.mk (G := RoG) ⟨g + 1, v, o, (b5, .cells (refC r).toArray 48 (0, 0)) :: D⟩ (by show L.length - (g + 1) < L.length - g; omega) ⟨hlt, hND5, ?_, ?_, by show o.length ≤ g + 1; omega⟩ rfl rfl
          · exact gr_cons hGr hnb
          · show o = nzI (L.take (g + 1))
            rw [hst, List.append_nil]; exact ho
      · obtain rfl : g = L.length := by omega
        have d1 : decide ((L.length : Int) < (L.length : Int)) = false := by simp
        refine Cw.world fun wz hwz => ?_
        have hnd1 := List.nodup_cons.1 hwz.nodup
        have hnd2 := List.nodup_cons.1 hnd1.2
        clear hwz wz
        ((try with_reducible refine Cw.go [] ?_); (try simp (disch := (first | assumption | omega | (simp only [lenS, lenT, UInt64.reduceToNat]; try omega))) only [↓Sx.S0, Sx.S1, Tryz.fx, uWZD_2, Nat.reduceAdd, Nat.reducePow, Int.reducePow, Nat.reduceBEq, ↓reduceIte, UInt8.reduceToNat, UInt16.reduceToNat, UInt32.reduceToNat, UInt64.reduceToNat, Int.reduceToNat, d1]))
        rw [List.take_length] at ho
        have hon : o.length ≤ L.length := hol
        rcases hGr with hbuf | ⟨h0, -, b0, rfl, hlk⟩
        · rcases hbuf.inv with ⟨rfl, h0, -⟩ | ⟨b0, c, rs, rfl, hlk, h1, h2, h3, h4⟩
          · have ho0 : o = [] := List.length_eq_zero_iff.1 h0
            refine Ow.callFV rfl Tryz.call30 (fun w' hw' => sortId_none none 0 _ w') ?_
            refine Ow.go rfl ?_
            simp (disch := (first | assumption | omega | (simp only [lenS, lenT, UInt64.reduceToNat]; try omega))) only [↓Sx.S0, Sx.S1, Tryz.fx, uWZD_2, Nat.reduceAdd, Nat.reducePow, Int.reducePow, Nat.reduceBEq, ↓reduceIte, UInt8.reduceToNat, UInt16.reduceToNat, UInt32.reduceToNat, UInt64.reduceToNat, Int.reduceToNat]
            ((try with_reducible refine Cw.go [] ?_); (try simp (disch := (first | assumption | omega | (simp only [lenS, lenT, UInt64.reduceToNat]; try omega))) only [↓Sx.S0, Sx.S1, Tryz.fx, uWZD_2, Nat.reduceAdd, Nat.reducePow, Int.reducePow, Nat.reduceBEq, ↓reduceIte, UInt8.reduceToNat, UInt16.reduceToNat, UInt32.reduceToNat, UInt64.reduceToNat, Int.reduceToNat]))
            refine Ow.callFV rfl Tryz.call33 (fun w' hw' => CompactNo_spec none 0 w') ?_
            refine Ow.go rfl ?_
            simp (disch := (first | assumption | omega | (simp only [lenS, lenT, UInt64.reduceToNat]; try omega))) only [↓Sx.S0, Sx.S1, Tryz.fx, uWZD_2, Nat.reduceAdd, Nat.reducePow, Int.reducePow, Nat.reduceBEq, ↓reduceIte, UInt8.reduceToNat, UInt16.reduceToNat, UInt32.reduceToNat, UInt64.reduceToNat, Int.reduceToNat]
            ((try with_reducible refine Cw.go [] ?_); (try simp (disch := (first | assumption | omega | (simp only [lenS, lenT, UInt64.reduceToNat]; try omega))) only [↓Sx.S0, Sx.S1, Tryz.fx, uWZD_2, Nat.reduceAdd, Nat.reducePow, Int.reducePow, Nat.reduceBEq, ↓reduceIte, UInt8.reduceToNat, UInt16.reduceToNat, UInt32.reduceToNat, UInt64.reduceToNat, Int.reduceToNat]))
            refine ⟨_, (by simp (disch := (first | assumption | omega | (simp only [lenS, lenT, UInt64.reduceToNat]; try omega))) only [↓Sx.S0, Sx.S1, Tryz.fx, uWZD_2, Nat.reduceAdd, Nat.reducePow, Int.reducePow, Nat.reduceBEq, ↓reduceIte, UInt8.reduceToNat, UInt16.reduceToNat, UInt32.reduceToNat, UInt64.reduceToNat, Int.reduceToNat]; rfl), ?_⟩
            refine ⟨Ext.of_new ⟨hwx, hwc, hND⟩, ?_⟩
            unfold RootsS
            rw [if_pos hr]
            exact ⟨[], ⟨[], by rw [hL, ← ho, ho0], List.Pairwise.nil, rfl⟩, (Gr.nl (L := [])).i fun q hq => by cases hq⟩
          · obtain ⟨D', hp⟩ := look_perm hlk
            have hP := hND.perm hp
            have hkb := key_of_look hlk
            have hne1 : bx ≠ b0 := fun e => hnd1.1 (by rw [e]; exact List.mem_cons_of_mem _ hkb)
            have hne2 : bc ≠ b0 := fun e => hnd2.1 (by rw [e]; exact hkb)
            refine Ow.permL (M := (b0, rowO idLC 34 rs o) :: (bx, .cells #[vt, vl] 24 (0, 0)) :: (bc, rowO refC 48 rest L) :: D') ((List.Perm.swap _ _ _).trans (List.Perm.cons _ ((List.Perm.swap _ _ _).trans (List.Perm.cons _ hp.symm)))) ?_
            refine Ow.callE rfl rfl Tryz.call30 List.mem_cons_self (fun w' hw' => sortId_spec (c := c) w' (hw'.has _ _ List.mem_cons_self) (by omega)) (fun v1 o1 hS => ?_)
            obtain ⟨rfl, l', hp', hs', rfl⟩ := hS
            have hll' : o.length = l'.length := hp'.length_eq.symm
            rw [hll']
            simp (disch := (first | assumption | omega | (simp only [lenS, lenT, UInt64.reduceToNat]; try omega))) only [setB_same, setB_other, List.cons_append, List.nil_append]
            refine Ow.go rfl ?_
            simp (disch := (first | assumption | omega | (simp only [lenS, lenT, UInt64.reduceToNat]; try omega))) only [↓Sx.S0, Sx.S1, Tryz.fx, uWZD_2, Nat.reduceAdd, Nat.reducePow, Int.reducePow, Nat.reduceBEq, ↓reduceIte, UInt8.reduceToNat, UInt16.reduceToNat, UInt32.reduceToNat, UInt64.reduceToNat, Int.reduceToNat]
            ((try with_reducible refine Cw.go [] ?_); (try simp (disch := (first | assumption | omega | (simp only [lenS, lenT, UInt64.reduceToNat]; try omega))) only [↓Sx.S0, Sx.S1, Tryz.fx, uWZD_2, Nat.reduceAdd, Nat.reducePow, Int.reducePow, Nat.reduceBEq, ↓reduceIte, UInt8.reduceToNat, UInt16.reduceToNat, UInt32.reduceToNat, UInt64.reduceToNat, Int.reduceToNat]))
            refine Ow.callE rfl rfl Tryz.call33 List.mem_cons_self (fun w' hw' => Compact_spec b0 c l' rs 34 w' (hw'.has _ _ List.mem_cons_self) (by omega) (by omega)) (fun v1 o1 hS => ?_)
            obtain ⟨rs', rfl, rfl, hrl⟩ := hS
            simp (disch := (first | assumption | omega | (simp only [lenS, lenT, UInt64.reduceToNat]; try omega))) only [setB_same, setB_other, List.cons_append, List.nil_append]
            refine Ow.go rfl ?_
            simp (disch := (first | assumption | omega | (simp only [lenS, lenT, UInt64.reduceToNat]; try omega))) only [↓Sx.S0, Sx.S1, Tryz.fx, uWZD_2, Nat.reduceAdd, Nat.reducePow, Int.reducePow, Nat.reduceBEq, ↓reduceIte, UInt8.reduceToNat, UInt16.reduceToNat, UInt32.reduceToNat, UInt64.reduceToNat, Int.reduceToNat]
            ((try with_reducible refine Cw.go [] ?_); (try simp (disch := (first | assumption | omega | (simp only [lenS, lenT, UInt64.reduceToNat]; try omega))) only [↓Sx.S0, Sx.S1, Tryz.fx, uWZD_2, Nat.reduceAdd, Nat.reducePow, Int.reducePow, Nat.reduceBEq, ↓reduceIte, UInt8.reduceToNat, UInt16.reduceToNat, UInt32.reduceToNat, UInt64.reduceToNat, Int.reduceToNat]))
            refine ⟨_, (by simp (disch := (first | assumption | omega | (simp only [lenS, lenT, UInt64.reduceToNat]; try omega))) only [↓Sx.S0, Sx.S1, Tryz.fx, uWZD_2, Nat.reduceAdd, Nat.reducePow, Int.reducePow, Nat.reduceBEq, ↓reduceIte, UInt8.reduceToNat, UInt16.reduceToNat, UInt32.reduceToNat, UInt64.reduceToNat, Int.reduceToNat]; rfl), ?_⟩
            refine ⟨Ext.of_new ⟨hP.1, hwx, hwc, hP.2⟩, ?_⟩
            unfold RootsS
            rw [if_pos hr]
            have hul := uniqI_le l'
            refine ⟨uniqI l', ⟨l', by rw [hL, ← ho]; exact hp', hs', rfl⟩, Gr.i (X := [(b0, .cells (((uniqI l').map idLC).flatten ++ rs').toArray 34 (0, 0))]) (.inl (.at_ (look_same _ _ _) (by rw [flat_len idLC_len]) (by rw [Nat.sub_mul]; omega) (by omega) (by omega))) fun q hq => by simp only [List.mem_singleton] at hq; rw [hq]; exact List.mem_cons_self⟩
        · refine Ow.callFV rfl Tryz.call30 (fun w' hw' => sortId_none (some ⟨b0, 0, none⟩) 0 _ w') ?_
          refine Ow.go rfl ?_
          simp (disch := (first | assumption | omega | (simp only [lenS, lenT, UInt64.reduceToNat]; try omega))) only [↓Sx.S0, Sx.S1, Tryz.fx, uWZD_2, Nat.reduceAdd, Nat.reducePow, Int.reducePow, Nat.reduceBEq, ↓reduceIte, UInt8.reduceToNat, UInt16.reduceToNat, UInt32.reduceToNat, UInt64.reduceToNat, Int.reduceToNat]
          ((try with_reducible refine Cw.go [] ?_); (try simp (disch := (first | assumption | omega | (simp only [lenS, lenT, UInt64.reduceToNat]; try omega))) only [↓Sx.S0, Sx.S1, Tryz.fx, uWZD_2, Nat.reduceAdd, Nat.reducePow, Int.reducePow, Nat.reduceBEq, ↓reduceIte, UInt8.reduceToNat, UInt16.reduceToNat, UInt32.reduceToNat, UInt64.reduceToNat, Int.reduceToNat]))
          refine Ow.callFV rfl Tryz.call33 (fun w' hw' => CompactNo_spec (some ⟨b0, 0, none⟩) 0 w') ?_
          refine Ow.go rfl ?_
          simp (disch := (first | assumption | omega | (simp only [lenS, lenT, UInt64.reduceToNat]; try omega))) only [↓Sx.S0, Sx.S1, Tryz.fx, uWZD_2, Nat.reduceAdd, Nat.reducePow, Int.reducePow, Nat.reduceBEq, ↓reduceIte, UInt8.reduceToNat, UInt16.reduceToNat, UInt32.reduceToNat, UInt64.reduceToNat, Int.reduceToNat]
          ((try with_reducible refine Cw.go [] ?_); (try simp (disch := (first | assumption | omega | (simp only [lenS, lenT, UInt64.reduceToNat]; try omega))) only [↓Sx.S0, Sx.S1, Tryz.fx, uWZD_2, Nat.reduceAdd, Nat.reducePow, Int.reducePow, Nat.reduceBEq, ↓reduceIte, UInt8.reduceToNat, UInt16.reduceToNat, UInt32.reduceToNat, UInt64.reduceToNat, Int.reduceToNat]))
          refine ⟨_, (by simp (disch := (first | assumption | omega | (simp only [lenS, lenT, UInt64.reduceToNat]; try omega))) only [↓Sx.S0, Sx.S1, Tryz.fx, uWZD_2, Nat.reduceAdd, Nat.reducePow, Int.reducePow, Nat.reduceBEq, ↓reduceIte, UInt8.reduceToNat, UInt16.reduceToNat, UInt32.reduceToNat, UInt64.reduceToNat, Int.reduceToNat]; rfl), ?_⟩
          refine ⟨Ext.of_new ⟨hwx, hwc, hND⟩, ?_⟩
          unfold RootsS
          rw [if_pos hr]
          have ho0 : o = [] := List.length_eq_zero_iff.1 h0
          refine ⟨[], ⟨[], by rw [hL, ← ho, ho0], List.Pairwise.nil, rfl⟩, Gr.i (X := D) (.inr ⟨rfl, rfl, b0, rfl, hlk⟩) fun q hq => List.mem_cons_of_mem _ (List.mem_cons_of_mem _ hq)⟩
end Go.Proofs
end
section
open Go Go.Proofs Go.Sx Go.RefP Go.RooP
namespace Go.Proofs
set_option maxRecDepth 10000
set_option maxHeartbeats 400000
set_option linter.unusedSimpArgs false
/-- What refs.Values hands back. -/
def GoValsS (t l : List RefL) (v : Value) (D : Heap) : Prop :=
  match valR t l l.length with
  | some ls => GrI D 48 33 v ls.length (ls.map refC).flatten
  | none => v = .slice none 0 0
set_option linter.defProp false
def uWZE_1 := And.intro (And.intro (And.intro (And.intro (@rdIn_v8) (@rdIn_v16)) (And.intro (@rdIn_v32) (@rdIn_v64))) (And.intro (And.intro (@rdIn_vi) (@load_ref0)) (And.intro (@load_ref1) (@cells_ref)))) (And.intro (And.intro (And.intro (@eqIdz) (@store_rr)) (And.intro (@load_ref) (@load_bk0))) (And.intro (And.intro (@load_bk1) (@load_bk)) (And.intro (@tup2_0) (And.intro (@tup2_1) (@store_bk0)))))
theorem GoValues_spec (vt vl : Value) (t l : List RefL) (w : World) (ht : RefSl w vt t) (hl : RefSl w vl l) (htl : t.length < 1000) (hll : l.length < 1000) (hnt : ShortN t) (hnl : ShortN l) :
    Rets Tryz.prog 9 #[.agg #[vt, vl]] w (XS w [] (GoValsS t l)) := by
  refine Rets.enterX Tryz.func9 rfl (rs := [.tmp 2]) Tryz.results9 Tryz.ntmps9 (fun p hp => by cases hp) (by simp [keys]) ?_
  simp only [List.size_toArray, List.length_cons, List.length_nil, Nat.reduceAdd, Nat.reduceSub, List.replicate_succ, List.replicate_zero, List.cons_append, List.nil_append]
  ((try with_reducible refine Cw.go [] ?_); (try simp (disch := (first | assumption | omega | (simp only [lenS, lenT, UInt64.reduceToNat]; try omega))) only [↓Sx.S0, Sx.S1, Tryz.fx, uWZE_1, Nat.reduceAdd, Nat.reducePow, Int.reducePow, Nat.reduceBEq, ↓reduceIte, UInt8.reduceToNat, UInt16.reduceToNat, UInt32.reduceToNat, UInt64.reduceToNat, Int.reduceToNat]))
  refine Ow.box rfl rfl fun bx hbx hwx => ?_
  simp only [ev_tmp, getF_0, getF_s, cells_agg, List.nil_append, List.cons_append]
  refine Ow.go rfl ?_
  simp (disch := (first | assumption | omega | (simp only [lenS, lenT, UInt64.reduceToNat]; try omega))) only [↓Sx.S0, Sx.S1, Tryz.fx, uWZE_1, Nat.reduceAdd, Nat.reducePow, Int.reducePow, Nat.reduceBEq, ↓reduceIte, UInt8.reduceToNat, UInt16.reduceToNat, UInt32.reduceToNat, UInt64.reduceToNat, Int.reduceToNat]
  ((try with_reducible refine Cw.go [] ?_); (try simp (disch := (first | assumption | omega | (simp only [lenS, lenT, UInt64.reduceToNat]; try omega))) only [↓Sx.S0, Sx.S1, Tryz.fx, uWZE_1, Nat.reduceAdd, Nat.reducePow, Int.reducePow, Nat.reduceBEq, ↓reduceIte, UInt8.reduceToNat, UInt16.reduceToNat, UInt32.reduceToNat, UInt64.reduceToNat, Int.reduceToNat, hl.len]))
  refine Ow.callN rfl rfl Tryz.call27 (S := (fun B v D => OfS B t l l.length v D)) (fun w' hw' => of_spec vt vl t l l.length w' (ht.oldN hw' ⟨hwx, trivial⟩) (hl.oldN hw' ⟨hwx, trivial⟩) (by omega) (by omega) (Nat.le_refl _) hnt hnl) (fun B v D h => h.new) (fun B v D hA hB hS => ?_)
  have hnew := (hS.new).mono hB
  have hvr := valR_right t l
  cases hr : rightB t l
  · rw [hr] at hvr
    have hvn : valR t l l.length = none := by cases h : valR t l l.length <;> simp_all
    have hno : GoValsS t l (.slice none 0 0) ([(bx, Obj.cells #[vt, vl] 24 (0, 0))] ++ D) := by unfold GoValsS; rw [hvn]
    have hk : ∃ x, v = .tuple #[x, .bool false] := by
      unfold OfS at hS
      cases ho : ofM nameV z32 (prs t) (prs l) l.length with
      | none => rw [ho] at hS; exact ⟨_, hS.1⟩
      | some m =>
        rw [ho] at hS
        obtain ⟨b, o, rfl, -⟩ := hS
        have h100 : ¬ l.length ≤ 100 := by
          intro h100
          unfold rightB at hr
          have : rightM nameV z32 (prs t) (prs l) = true := by
            unfold rightM
            rw [prs_len, ho]
            simpa using h100
          rw [this] at hr; cases hr
        rw [decide_eq_false h100]
        exact ⟨_, rfl⟩
    obtain ⟨x, rfl⟩ := hk
    refine Ow.go rfl ?_
    simp (disch := (first | assumption | omega | (simp only [lenS, lenT, UInt64.reduceToNat]; try omega))) only [↓Sx.S0, Sx.S1, Tryz.fx, uWZE_1, Nat.reduceAdd, Nat.reducePow, Int.reducePow, Nat.reduceBEq, ↓reduceIte, UInt8.reduceToNat, UInt16.reduceToNat, UInt32.reduceToNat, UInt64.reduceToNat, Int.reduceToNat]
    ((try with_reducible refine Cw.go [] ?_); (try simp (disch := (first | assumption | omega | (simp only [lenS, lenT, UInt64.reduceToNat]; try omega))) only [↓Sx.S0, Sx.S1, Tryz.fx, uWZE_1, Nat.reduceAdd, Nat.reducePow, Int.reducePow, Nat.reduceBEq, ↓reduceIte, UInt8.reduceToNat, UInt16.reduceToNat, UInt32.reduceToNat, UInt64.reduceToNat, Int.reduceToNat]))
    refine ⟨_, (by simp (disch := (first | assumption | omega | (simp only [lenS, lenT, UInt64.reduceToNat]; try omega))) only [↓Sx.S0, Sx.S1, Tryz.fx, uWZE_1, Nat.reduceAdd, Nat.reducePow, Int.reducePow, Nat.reduceBEq, ↓reduceIte, UInt8.reduceToNat, UInt16.reduceToNat, UInt32.reduceToNat, UInt64.reduceToNat, Int.reduceToNat]; rfl), ?_⟩
    exact ⟨Ext.of_new ⟨hwx, hnew⟩, hno⟩
  · obtain ⟨m, ls, hm, hv, hrel, hls, hl100⟩ := of_trim hr (Nat.le_refl _)
    unfold OfS at hS
    rw [hm] at hS
    obtain ⟨bm, om, rfl, rfl, hom, hBm⟩ := hS
    have hxm : bx < bm := Nat.lt_of_lt_of_le (above_to hA (by simp [keys])) hBm
    rw [decide_eq_true hl100]
    refine Ow.go rfl ?_
    simp (disch := (first | assumption | omega | (simp only [lenS, lenT, UInt64.reduceToNat]; try omega))) only [↓Sx.S0, Sx.S1, Tryz.fx, uWZE_1, Nat.reduceAdd, Nat.reducePow, Int.reducePow, Nat.reduceBEq, ↓reduceIte, UInt8.reduceToNat, UInt16.reduceToNat, UInt32.reduceToNat, UInt64.reduceToNat, Int.reduceToNat]
    ((try with_reducible refine Cw.go [] ?_); (try simp (disch := (first | assumption | omega | (simp only [lenS, lenT, UInt64.reduceToNat]; try omega))) only [↓Sx.S0, Sx.S1, Tryz.fx, uWZE_1, Nat.reduceAdd, Nat.reducePow, Int.reducePow, Nat.reduceBEq, ↓reduceIte, UInt8.reduceToNat, UInt16.reduceToNat, UInt32.reduceToNat, UInt64.reduceToNat, Int.reduceToNat]))
    refine Ow.callC rfl rfl Tryz.call28 (fun w' hw' => list_spec bm om m ls w' (hw'.has _ _ (by simp)) hom hrel (by omega)) (fun B1 v1 D1 hA1 hB1 hN1 hS1 => ?_)
    refine Ow.go rfl ?_
    simp (disch := (first | assumption | omega | (simp only [lenS, lenT, UInt64.reduceToNat]; try omega))) only [↓Sx.S0, Sx.S1, Tryz.fx, uWZE_1, Nat.reduceAdd, Nat.reducePow, Int.reducePow, Nat.reduceBEq, ↓reduceIte, UInt8.reduceToNat, UInt16.reduceToNat, UInt32.reduceToNat, UInt64.reduceToNat, Int.reduceToNat]
    ((try with_reducible refine Cw.go [] ?_); (try simp (disch := (first | assumption | omega | (simp only [lenS, lenT, UInt64.reduceToNat]; try omega))) only [↓Sx.S0, Sx.S1, Tryz.fx, uWZE_1, Nat.reduceAdd, Nat.reducePow, Int.reducePow, Nat.reduceBEq, ↓reduceIte, UInt8.reduceToNat, UInt16.reduceToNat, UInt32.reduceToNat, UInt64.reduceToNat, Int.reduceToNat]))
    refine ⟨_, (by simp (disch := (first | assumption | omega | (simp only [lenS, lenT, UInt64.reduceToNat]; try omega))) only [↓Sx.S0, Sx.S1, Tryz.fx, uWZE_1, Nat.reduceAdd, Nat.reducePow, Int.reducePow, Nat.reduceBEq, ↓reduceIte, UInt8.reduceToNat, UInt16.reduceToNat, UInt32.reduceToNat, UInt64.reduceToNat, Int.reduceToNat]; rfl), ?_⟩
    refine ⟨Ext.of_new ⟨hwx, by omega, hN1.mono hB1⟩, ?_⟩
    unfold GoValsS
    rw [hv]
    exact hS1.mono fun q hq => by simp [hq]
end Go.Proofs
end
section
open Go Go.Proofs Go.Sx Go.RefP
namespace Go.Proofs
set_option maxRecDepth 10000
set_option maxHeartbeats 4000000
set_option linter.unusedSimpArgs false
/-- Is a book more than is looked at? -/
def LongN (l : List RefL) : Prop := ∃ g, g < l.length ∧ 100 < (l.getD g ref0).name.length
def GreatB (t l : List RefL) : Prop := 30 < t.length ∨ 110 < l.length ∨ LongN t ∨ LongN l
open Classical in
/-- The answer. -/
noncomputable def greatV (t l : List RefL) : Bool := decide (GreatB t l)
theorem great_yes {t l : List RefL} (h : GreatB t l) : greatV t l = true := by unfold greatV; simpa using h
theorem great_no {t l : List RefL} (h : ¬ GreatB t l) : greatV t l = false := by unfold greatV; simpa using h
set_option linter.defProp false
def uXD_1 := And.intro (And.intro (And.intro (@rdIn_v8) (@rdIn_v16)) (And.intro (@rdIn_v32) (@rdIn_v64))) (And.intro (And.intro (@rdIn_vi) (@load_bk0)) (And.intro (@load_bk1) (@load_bk)))
theorem Great_spec (vt vl : Value) (t l : List RefL) (w : World) (ht : RefSl w vt t) (hl : RefSl w vl l) :
    Rets Tryz.prog 5 #[.agg #[vt, vl]] w (fun v D => v = .bool (greatV t l) ∧ D = []) := by
  obtain ⟨b1, o1, a1, E1, f1, h1⟩ := ht.row
  obtain ⟨b2, o2, a2, E2, f2, h2⟩ := hl.row
  refine Rets.enterV Tryz.func5 rfl (rs := [.tmp 2]) Tryz.results5 Tryz.ntmps5 ?_
  simp only [List.size_toArray, List.length_cons, List.length_nil, Nat.reduceAdd, Nat.reduceSub, List.replicate_succ, List.replicate_zero, List.cons_append, List.nil_append]
  ((try with_reducible refine Cw.go [] ?_); (try simp (disch := (first | assumption | omega | (simp only [lenS, lenT, UInt64.reduceToNat]; try omega))) only [↓Sx.S0, Sx.S1, Tryz.fx, uXD_1, Nat.reduceAdd, Nat.reducePow, Int.reducePow, Nat.reduceBEq, ↓reduceIte, UInt8.reduceToNat, UInt16.reduceToNat, UInt32.reduceToNat, UInt64.reduceToNat, Int.reduceToNat]))
  refine Ow.box rfl rfl fun bx hbx hwx => ?_
  simp only [ev_tmp, getF_0, getF_s, cells_agg, List.nil_append, List.cons_append]
  refine Ow.go rfl ?_
  simp (disch := (first | assumption | omega | (simp only [lenS, lenT, UInt64.reduceToNat]; try omega))) only [↓Sx.S0, Sx.S1, Tryz.fx, uXD_1, Nat.reduceAdd, Nat.reducePow, Int.reducePow, Nat.reduceBEq, ↓reduceIte, UInt8.reduceToNat, UInt16.reduceToNat, UInt32.reduceToNat, UInt64.reduceToNat, Int.reduceToNat]
  by_cases c1 : 30 < t.length
  · have hd : decide ((30 : Int) < (t.length : Int)) = true := by simp; omega
    ((try with_reducible refine Cw.go [] ?_); (try simp (disch := (first | assumption | omega | (simp only [lenS, lenT, UInt64.reduceToNat]; try omega))) only [↓Sx.S0, Sx.S1, Tryz.fx, uXD_1, Nat.reduceAdd, Nat.reducePow, Int.reducePow, Nat.reduceBEq, ↓reduceIte, UInt8.reduceToNat, UInt16.reduceToNat, UInt32.reduceToNat, UInt64.reduceToNat, Int.reduceToNat, h1.len, h2.len, hd]))
    refine ⟨_, (by simp (disch := (first | assumption | omega | (simp only [lenS, lenT, UInt64.reduceToNat]; try omega))) only [↓Sx.S0, Sx.S1, Tryz.fx, uXD_1, Nat.reduceAdd, Nat.reducePow, Int.reducePow, Nat.reduceBEq, ↓reduceIte, UInt8.reduceToNat, UInt16.reduceToNat, UInt32.reduceToNat, UInt64.reduceToNat, Int.reduceToNat]; rfl), ⟨hwx, trivial⟩, ?_⟩
    rw [great_yes (.inl c1)]; rfl
  by_cases c2 : 110 < l.length
  · have hd : decide ((30 : Int) < (t.length : Int)) = false := by simp; omega
    have hd2 : decide ((110 : Int) < (l.length : Int)) = true := by simp; omega
    ((try with_reducible refine Cw.go [] ?_); (try simp (disch := (first | assumption | omega | (simp only [lenS, lenT, UInt64.reduceToNat]; try omega))) only [↓Sx.S0, Sx.S1, Tryz.fx, uXD_1, Nat.reduceAdd, Nat.reducePow, Int.reducePow, Nat.reduceBEq, ↓reduceIte, UInt8.reduceToNat, UInt16.reduceToNat, UInt32.reduceToNat, UInt64.reduceToNat, Int.reduceToNat, h1.len, h2.len, hd, hd2]))
    refine ⟨_, (by simp (disch := (first | assumption | omega | (simp only [lenS, lenT, UInt64.reduceToNat]; try omega))) only [↓Sx.S0, Sx.S1, Tryz.fx, uXD_1, Nat.reduceAdd, Nat.reducePow, Int.reducePow, Nat.reduceBEq, ↓reduceIte, UInt8.reduceToNat, UInt16.reduceToNat, UInt32.reduceToNat, UInt64.reduceToNat, Int.reduceToNat]; rfl), ⟨hwx, trivial⟩, ?_⟩
    rw [great_yes (.inr (.inl c2))]; rfl
  have hd : decide ((30 : Int) < (t.length : Int)) = false := by simp; omega
  have hd2 : decide ((110 : Int) < (l.length : Int)) = false := by simp; omega
  ((try with_reducible refine Cw.go [] ?_); (try simp (disch := (first | assumption | omega | (simp only [lenS, lenT, UInt64.reduceToNat]; try omega))) only [↓Sx.S0, Sx.S1, Tryz.fx, uXD_1, Nat.reduceAdd, Nat.reducePow, Int.reducePow, Nat.reduceBEq, ↓reduceIte, UInt8.reduceToNat, UInt16.reduceToNat, UInt32.reduceToNat, UInt64.reduceToNat, Int.reduceToNat, h1.len, h2.len, hd, hd2]))
  refine Cw.loopG (G := Nat) [15, 16, 17, 18, 19, 22, 23, 24, 25, 26, 27, 28, 29, 2, 20, 21, 3] (fun g => [(3, vi g)]) (fun g => [(bx, .cells #[vt, vl] 24 (0, 0))]) (fun g => g ≤ t.length ∧ ∀ i, i < g → (t.getD i ref0).name.length ≤ 100) (fun g => t.length - g) 0 rfl rfl ?_ ?_
  · exact ⟨by omega, fun i hi => by omega⟩
  intro g j hg
  simp only [overFrom, pin, setF_0, setF_s, List.contains_cons, List.contains_nil, Nat.reduceBEq, Bool.or_false, Bool.false_or, Bool.or_true, Bool.true_or, Nat.reduceAdd, ↓reduceIte, Bool.false_eq_true]
  obtain ⟨hgL, hgood⟩ := hg
  by_cases hlt : g < t.length
  · have hb1 := h1.has (by omega)
    have hne : b1 ≠ bx := Nat.ne_of_lt (Nat.lt_of_lt_of_le (h1.lt (by omega)) hwx)
    have ld1 : ∀ n, loadV (some (false, n)) (some (.cells a1 E1 f1)) (o1 + g * 33) = some (vs (t.getD g ref0).name) := fun n => (h1.cell (j := 0) (n := n) hlt (by decide)).trans rfl
    by_cases hq : 100 < (t.getD g ref0).name.length
    · ((try with_reducible refine Cw.go [] ?_); (try simp (disch := (first | assumption | omega | (simp only [lenS, lenT, UInt64.reduceToNat]; try omega))) only [↓Sx.S0, Sx.S1, Tryz.fx, uXD_1, Nat.reduceAdd, Nat.reducePow, Int.reducePow, Nat.reduceBEq, ↓reduceIte, UInt8.reduceToNat, UInt16.reduceToNat, UInt32.reduceToNat, UInt64.reduceToNat, Int.reduceToNat, h1.len, h1.idx, hb1, ld1]))
      refine ⟨_, (by simp (disch := (first | assumption | omega | (simp only [lenS, lenT, UInt64.reduceToNat]; try omega))) only [↓Sx.S0, Sx.S1, Tryz.fx, uXD_1, Nat.reduceAdd, Nat.reducePow, Int.reducePow, Nat.reduceBEq, ↓reduceIte, UInt8.reduceToNat, UInt16.reduceToNat, UInt32.reduceToNat, UInt64.reduceToNat, Int.reduceToNat]; rfl), ⟨hwx, trivial⟩, ?_⟩
      rw [great_yes (.inr (.inr (.inl ⟨g, hlt, hq⟩)))]; rfl
    · ((try with_reducible refine Cw.go [] ?_); (try simp (disch := (first | assumption | omega | (simp only [lenS, lenT, UInt64.reduceToNat]; try omega))) only [↓Sx.S0, Sx.S1, Tryz.fx, uXD_1, Nat.reduceAdd, Nat.reducePow, Int.reducePow, Nat.reduceBEq, ↓reduceIte, UInt8.reduceToNat, UInt16.reduceToNat, UInt32.reduceToNat, UInt64.reduceToNat, Int.reduceToNat, h1.len, h1.idx, hb1, ld1]))
      refine Again.mk (g + 1) (by omega) ⟨by omega, fun i hi => ?_⟩ rfl rfl
      by_cases hig : i = g
      · subst hig; omega
      · exact hgood i (by omega)
  · obtain rfl : g = t.length := by omega
    ((try with_reducible refine Cw.go [] ?_); (try simp (disch := (first | assumption | omega | (simp only [lenS, lenT, UInt64.reduceToNat]; try omega))) only [↓Sx.S0, Sx.S1, Tryz.fx, uXD_1, Nat.reduceAdd, Nat.reducePow, Int.reducePow, Nat.reduceBEq, ↓reduceIte, UInt8.reduceToNat, UInt16.reduceToNat, UInt32.reduceToNat, UInt64.reduceToNat, Int.reduceToNat, h1.len]))
    refine Cw.loopG (G := Nat) [30, 31, 32, 33, 34, 37, 38, 39, 40, 41, 42, 43, 44, 2, 35, 36, 4] (fun g => [(4, vi g)]) (fun g => [(bx, .cells #[vt, vl] 24 (0, 0))]) (fun g => g ≤ l.length ∧ ∀ i, i < g → (l.getD i ref0).name.length ≤ 100) (fun g => l.length - g) 0 rfl rfl ?_ ?_
    · exact ⟨by omega, fun i hi => by omega⟩
    intro g j hg
    simp only [overFrom, pin, setF_0, setF_s, List.contains_cons, List.contains_nil, Nat.reduceBEq, Bool.or_false, Bool.false_or, Bool.or_true, Bool.true_or, Nat.reduceAdd, ↓reduceIte, Bool.false_eq_true]
    obtain ⟨hgL2, hgood2⟩ := hg
    by_cases hlt2 : g < l.length
    · have hb2 := h2.has (by omega)
      have hne : b2 ≠ bx := Nat.ne_of_lt (Nat.lt_of_lt_of_le (h2.lt (by omega)) hwx)
      have ld2 : ∀ n, loadV (some (false, n)) (some (.cells a2 E2 f2)) (o2 + g * 33) = some (vs (l.getD g ref0).name) := fun n => (h2.cell (j := 0) (n := n) hlt2 (by decide)).trans rfl
      by_cases hq : 100 < (l.getD g ref0).name.length
      · ((try with_reducible refine Cw.go [] ?_); (try simp (disch := (first | assumption | omega | (simp only [lenS, lenT, UInt64.reduceToNat]; try omega))) only [↓Sx.S0, Sx.S1, Tryz.fx, uXD_1, Nat.reduceAdd, Nat.reducePow, Int.reducePow, Nat.reduceBEq, ↓reduceIte, UInt8.reduceToNat, UInt16.reduceToNat, UInt32.reduceToNat, UInt64.reduceToNat, Int.reduceToNat, h2.len, h2.idx, hb2, ld2]))
        refine ⟨_, (by simp (disch := (first | assumption | omega | (simp only [lenS, lenT, UInt64.reduceToNat]; try omega))) only [↓Sx.S0, Sx.S1, Tryz.fx, uXD_1, Nat.reduceAdd, Nat.reducePow, Int.reducePow, Nat.reduceBEq, ↓reduceIte, UInt8.reduceToNat, UInt16.reduceToNat, UInt32.reduceToNat, UInt64.reduceToNat, Int.reduceToNat]; rfl), ⟨hwx, trivial⟩, ?_⟩
        rw [great_yes (.inr (.inr (.inr ⟨g, hlt2, hq⟩)))]; rfl
      · ((try with_reducible refine Cw.go [] ?_); (try simp (disch := (first | assumption | omega | (simp only [lenS, lenT, UInt64.reduceToNat]; try omega))) only [↓Sx.S0, Sx.S1, Tryz.fx, uXD_1, Nat.reduceAdd, Nat.reducePow, Int.reducePow, Nat.reduceBEq, ↓reduceIte, UInt8.reduceToNat, UInt16.reduceToNat, UInt32.reduceToNat, UInt64.reduceToNat, Int.reduceToNat, h2.len, h2.idx, hb2, ld2]))
        refine Again.mk (g + 1) (by omega) ⟨by omega, fun i hi => ?_⟩ rfl rfl
        by_cases hig : i = g
        · subst hig; omega
        · exact hgood2 i (by omega)
    · obtain rfl : g = l.length := by omega
      ((try with_reducible refine Cw.go [] ?_); (try simp (disch := (first | assumption | omega | (simp only [lenS, lenT, UInt64.reduceToNat]; try omega))) only [↓Sx.S0, Sx.S1, Tryz.fx, uXD_1, Nat.reduceAdd, Nat.reducePow, Int.reducePow, Nat.reduceBEq, ↓reduceIte, UInt8.reduceToNat, UInt16.reduceToNat, UInt32.reduceToNat, UInt64.reduceToNat, Int.reduceToNat, h2.len]))
      have hno : ¬ GreatB t l := by
        rintro (h | h | ⟨i, hi, h⟩ | ⟨i, hi, h⟩)
        · omega
        · omega
        · have := hgood i hi; omega
        · have := hgood2 i hi; omega
      refine ⟨_, (by simp (disch := (first | assumption | omega | (simp only [lenS, lenT, UInt64.reduceToNat]; try omega))) only [↓Sx.S0, Sx.S1, Tryz.fx, uXD_1, Nat.reduceAdd, Nat.reducePow, Int.reducePow, Nat.reduceBEq, ↓reduceIte, UInt8.reduceToNat, UInt16.reduceToNat, UInt32.reduceToNat, UInt64.reduceToNat, Int.reduceToNat]; rfl), ⟨hwx, trivial⟩, ?_⟩
      rw [great_no hno]; rfl
end Go.Proofs
end
section
open Go Go.Proofs Go.Sx Go.RefP Go.RooP
namespace Go.Proofs
set_option maxRecDepth 10000
set_option maxHeartbeats 400000
set_option linter.unusedSimpArgs false
theorem refC_id (y : RefL) : (refC y).toArray.extract 1 (1 + 32) = a8 y.id.l := by
  have hil := y.id.h
  apply Array.ext'
  simp [refC, a8, hil]
  rw [List.take_of_length_le (by simp [hil])]
  rfl
/-- A name's value among some. -/
def valL (n : List UInt8) : List RefL → List UInt8
  | [] => z32
  | r :: l => if r.name == n then r.id.l else valL n l
set_option linter.defProp false
def uRR2_1 := And.intro (And.intro (And.intro (@rdIn_v8) (@rdIn_v16)) (And.intro (@rdIn_v32) (@rdIn_v64))) (And.intro (And.intro (@rdIn_vi) (@load_ref0)) (And.intro (@load_ref1) (And.intro (@cells_ref) (@load_idA))))
theorem RefValue_spec (v : Value) (l : List RefL) (n : List UInt8) (w : World) (hl : RefSl w v l) (hll : l.length < 1000000) :
    Rets Tryz.prog 13 #[v, vs n] w (fun v' D => v' = .agg (a8 (valL n l)) ∧ D = []) := by
  obtain ⟨b, off, arr, E, fz, hr⟩ := hl.row
  have ln := hl.len
  have zrId : zeroV Tryz.prog 34 = some (.agg (a8 (List.replicate 32 0))) := Tryz.zr34
  rw [show (List.replicate 32 (0 : UInt8)) = z32 from rfl] at zrId
  have hzl : z32.length = 32 := by simp [z32]
  refine Rets.enterV Tryz.func13 rfl (rs := [.cell 4 34]) Tryz.results13 Tryz.ntmps13 ?_
  simp only [List.size_toArray, List.length_cons, List.length_nil, Nat.reduceAdd, Nat.reduceSub, List.replicate_succ, List.replicate_zero, List.cons_append, List.nil_append]
  ((try with_reducible refine Cw.go [] ?_); (try simp (disch := (first | assumption | omega | (simp only [lenS, lenT, UInt64.reduceToNat]; try omega))) only [↓Sx.S0, Sx.S1, Tryz.fx, uRR2_1, Nat.reduceAdd, Nat.reducePow, Int.reducePow, Nat.reduceBEq, ↓reduceIte, UInt8.reduceToNat, UInt16.reduceToNat, UInt32.reduceToNat, UInt64.reduceToNat, Int.reduceToNat]))
  refine Ow.alloc rfl rfl zrId fun b4 hb4 hw4 => ?_
  simp only [cells_agg, List.nil_append, List.cons_append]
  refine Ow.go rfl ?_
  simp (disch := (first | assumption | omega | (simp only [lenS, lenT, UInt64.reduceToNat]; try omega))) only [↓Sx.S0, Sx.S1, Tryz.fx, uRR2_1, Nat.reduceAdd, Nat.reducePow, Int.reducePow, Nat.reduceBEq, ↓reduceIte, UInt8.reduceToNat, UInt16.reduceToNat, UInt32.reduceToNat, UInt64.reduceToNat, Int.reduceToNat]
  ((try with_reducible refine Cw.go [] ?_); (try simp (disch := (first | assumption | omega | (simp only [lenS, lenT, UInt64.reduceToNat]; try omega))) only [↓Sx.S0, Sx.S1, Tryz.fx, uRR2_1, Nat.reduceAdd, Nat.reducePow, Int.reducePow, Nat.reduceBEq, ↓reduceIte, UInt8.reduceToNat, UInt16.reduceToNat, UInt32.reduceToNat, UInt64.reduceToNat, Int.reduceToNat]))
  refine Cw.loopG (G := Nat) [6, 7, 8, 9, 12, 13, 14, 15, 16, 17, 18, 19, 20, 21, 22, 23, 10, 11, 5] (fun g => [(5, vi g)]) (fun g => [(b4, .cells (a8 z32) 34 (0, 0))]) (fun g => g ≤ l.length ∧ valL n l = valL n (l.drop g)) (fun g => l.length - g) 0 rfl rfl ?_ ?_
  · exact ⟨Nat.zero_le _, rfl⟩
  intro g j hg
  simp only [overFrom, pin, setF_0, setF_s, List.contains_cons, List.contains_nil, Nat.reduceBEq, Bool.or_false, Bool.false_or, Bool.or_true, Bool.true_or, Nat.reduceAdd, ↓reduceIte, Bool.false_eq_true]
  obtain ⟨h1, h2⟩ := hg
  by_cases hlt : g < l.length
  · have hb0 : 0 < l.length := by omega
    have hbl := hr.lt hb0
    have r2 := hr.has hb0
    have hne : b4 ≠ b := by omega
    have i2 := hr.idx true g hlt
    have ldn : loadV (some (false, 1)) (some (.cells arr E fz)) (off + g * 33) = some (vs (l.getD g ref0).name) := hr.cell (j := 0) (n := 1) hlt (by omega)
    have ldi : loadV (some (true, 32)) (some (.cells arr E fz)) (off + g * 33 + 1) = some (.agg (a8 (l.getD g ref0).id.l)) := by
      have h := hr.part refC_len (o := 1) (n := 32) hlt (by omega) (by omega)
      rw [h, refC_id]
    have hdc := StP.drop_cons (z := ref0) hlt
    generalize hy : l.getD g ref0 = y at *
    have hil := y.id.h
    have rb : readB w [(b4, Obj.cells (a8 z32) 34 (0, 0))] b = some (.cells arr E fz) := by rw [read_none (by simp [keys]; omega)]; exact r2
    have d1 : decide ((g : Int) < (l.length : Int)) = true := decide_eq_true (by omega)
    have hst : storeV (some (true, 32)) (some (.cells (a8 z32) 34 (0, 0))) 0 (.agg (a8 y.id.l)) = some (.cells (a8 y.id.l) 34 (0, 0)) := store_all8 32 true _ _ _ ⟨hil, by simp [a8, z32]⟩
    cases hn : (y.name == n)
    · ((try with_reducible refine Cw.go [] ?_); (try simp (disch := (first | assumption | omega | (simp only [lenS, lenT, UInt64.reduceToNat]; try omega))) only [↓Sx.S0, Sx.S1, Tryz.fx, uRR2_1, Nat.reduceAdd, Nat.reducePow, Int.reducePow, Nat.reduceBEq, ↓reduceIte, UInt8.reduceToNat, UInt16.reduceToNat, UInt32.reduceToNat, UInt64.reduceToNat, Int.reduceToNat, ln, d1, i2, rb, ldn, hn]))
      refine Again.mk (G := Nat) (g + 1) (by show l.length - (g + 1) < l.length - g; omega) ⟨hlt, ?_⟩ rfl rfl
      rw [h2, hdc, valL, if_neg (by rw [hn]; simp)]
    · ((try with_reducible refine Cw.go [] ?_); (try simp (disch := (first | assumption | omega | (simp only [lenS, lenT, UInt64.reduceToNat]; try omega))) only [↓Sx.S0, Sx.S1, Tryz.fx, uRR2_1, Nat.reduceAdd, Nat.reducePow, Int.reducePow, Nat.reduceBEq, ↓reduceIte, UInt8.reduceToNat, UInt16.reduceToNat, UInt32.reduceToNat, UInt64.reduceToNat, Int.reduceToNat, ln, d1, i2, rb, ldn, hn, ldi, hst]))
      refine ⟨_, (by simp (disch := (first | assumption | omega | (simp only [lenS, lenT, UInt64.reduceToNat]; try omega))) only [↓Sx.S0, Sx.S1, Tryz.fx, uRR2_1, Nat.reduceAdd, Nat.reducePow, Int.reducePow, Nat.reduceBEq, ↓reduceIte, UInt8.reduceToNat, UInt16.reduceToNat, UInt32.reduceToNat, UInt64.reduceToNat, Int.reduceToNat]; rfl), ⟨hw4, trivial⟩, ?_⟩
      rw [h2, hdc, valL, if_pos hn]; rfl
  · obtain rfl : g = l.length := by omega
    have d1 : decide ((l.length : Int) < (l.length : Int)) = false := by simp
    ((try with_reducible refine Cw.go [] ?_); (try simp (disch := (first | assumption | omega | (simp only [lenS, lenT, UInt64.reduceToNat]; try omega))) only [↓Sx.S0, Sx.S1, Tryz.fx, uRR2_1, Nat.reduceAdd, Nat.reducePow, Int.reducePow, Nat.reduceBEq, ↓reduceIte, UInt8.reduceToNat, UInt16.reduceToNat, UInt32.reduceToNat, UInt64.reduceToNat, Int.reduceToNat, ln, d1]))
    refine Ow.build (.agg (a8 z32)) rfl build_id0 ?_
    have hst : storeV (some (true, 32)) (some (.cells (a8 z32) 34 (0, 0))) 0 (.agg (a8 z32)) = some (.cells (a8 z32) 34 (0, 0)) := store_all8 32 true _ _ _ ⟨hzl, by simp [a8, z32]⟩
    refine Ow.go rfl ?_
    simp (disch := (first | assumption | omega | (simp only [lenS, lenT, UInt64.reduceToNat]; try omega))) only [↓Sx.S0, Sx.S1, Tryz.fx, uRR2_1, Nat.reduceAdd, Nat.reducePow, Int.reducePow, Nat.reduceBEq, ↓reduceIte, UInt8.reduceToNat, UInt16.reduceToNat, UInt32.reduceToNat, UInt64.reduceToNat, Int.reduceToNat, hst]
    rw [show z32 = id0.l from rfl]
    refine ⟨_, (by simp (disch := (first | assumption | omega | (simp only [lenS, lenT, UInt64.reduceToNat]; try omega))) only [↓Sx.S0, Sx.S1, Tryz.fx, uRR2_1, Nat.reduceAdd, Nat.reducePow, Int.reducePow, Nat.reduceBEq, ↓reduceIte, UInt8.reduceToNat, UInt16.reduceToNat, UInt32.reduceToNat, UInt64.reduceToNat, Int.reduceToNat]; rfl), ⟨hw4, trivial⟩, ?_⟩
    rw [h2, List.drop_length]; rfl
/-- All ids, in their places. -/
def putAll (l : List IdL) : List IdL := l.foldl (fun a x => putL x a) []
theorem putAll_snoc (l : List IdL) (x : IdL) : putAll (l ++ [x]) = putL x (putAll l) := by unfold putAll; rw [List.foldl_append]; rfl
theorem putAll_len (l : List IdL) : (putAll l).length ≤ l.length := by
  have h : ∀ (l a : List IdL), (l.foldl (fun a x => putL x a) a).length ≤ a.length + l.length := by
    intro l
    induction l with
    | nil => intro a; simp
    | cons x l ih =>
      intro a
      rw [List.foldl_cons, List.length_cons]
      have h1 := ih (putL x a)
      have h2 := putL_len x a
      omega
  have := h l []
  unfold putAll
  simpa using this
def rootsD (t l : List RefL) : List IdL := putAll (t.map RefL.id ++ nzI l)
structure RdG where
  g : Nat
  v : Value
  o : List IdL
  D : Heap
set_option linter.defProp false
def uRR2_2 := And.intro (And.intro (@rdIn_v8) (And.intro (@rdIn_vi) (@load_bk0))) (And.intro (@load_bk1) (And.intro (@load_bk) (@load_idA)))
theorem RefRoots_spec (vt vl : Value) (t l : List RefL) (w : World) (ht : RefSl w vt t) (hl : RefSl w vl l) (htl : t.length < 1000) (hll : l.length < 1000) :
    Rets Tryz.prog 15 #[.agg #[vt, vl]] w (XS w [] (fun v D => GrI D 34 32 v (rootsD t l).length ((rootsD t l).map idLC).flatten)) := by
  obtain ⟨b1, o1, a1, E1, f1, h1⟩ := ht.row
  obtain ⟨b2, o2, a2, E2, f2, h2⟩ := hl.row
  refine Rets.enterX Tryz.func15 rfl (rs := [.tmp 2]) Tryz.results15 Tryz.ntmps15 (fun p hp => by cases hp) (by simp [keys]) ?_
  simp only [List.size_toArray, List.length_cons, List.length_nil, Nat.reduceAdd, Nat.reduceSub, List.replicate_succ, List.replicate_zero, List.cons_append, List.nil_append]
  ((try with_reducible refine Cw.go [] ?_); (try simp (disch := (first | assumption | omega | (simp only [lenS, lenT, UInt64.reduceToNat]; try omega))) only [↓Sx.S0, Sx.S1, Tryz.fx, uRR2_2, Nat.reduceAdd, Nat.reducePow, Int.reducePow, Nat.reduceBEq, ↓reduceIte, UInt8.reduceToNat, UInt16.reduceToNat, UInt32.reduceToNat, UInt64.reduceToNat, Int.reduceToNat]))
  refine Ow.box rfl rfl fun bx hbx hwx => ?_
  simp only [ev_tmp, getF_0, getF_s, cells_agg, List.nil_append, List.cons_append]
  refine Ow.go rfl ?_
  simp (disch := (first | assumption | omega | (simp only [lenS, lenT, UInt64.reduceToNat]; try omega))) only [↓Sx.S0, Sx.S1, Tryz.fx, uRR2_2, Nat.reduceAdd, Nat.reducePow, Int.reducePow, Nat.reduceBEq, ↓reduceIte, UInt8.reduceToNat, UInt16.reduceToNat, UInt32.reduceToNat, UInt64.reduceToNat, Int.reduceToNat]
  ((try with_reducible refine Cw.go [] ?_); (try simp (disch := (first | assumption | omega | (simp only [lenS, lenT, UInt64.reduceToNat]; try omega))) only [↓Sx.S0, Sx.S1, Tryz.fx, uRR2_2, Nat.reduceAdd, Nat.reducePow, Int.reducePow, Nat.reduceBEq, ↓reduceIte, UInt8.reduceToNat, UInt16.reduceToNat, UInt32.reduceToNat, UInt64.reduceToNat, Int.reduceToNat]))
  refine Cw.loopG (G := RdG) [6, 7, 8, 9, 10, 13, 14, 15, 16, 17, 18, 19, 20, 3, 11, 12, 4] (fun g => [(3, g.v), (4, vi g.g)]) (fun g => (bx, .cells #[vt, vl] 24 (0, 0)) :: g.D) (fun g => g.g ≤ t.length ∧ New w.heap.size g.D ∧ GrI g.D 34 32 g.v g.o.length (g.o.map idLC).flatten ∧ g.o = putAll ((t.take g.g).map RefL.id)) (fun g => t.length - g.g) ⟨0, .slice none 0 0, [], []⟩ rfl rfl ?_ ?_
  · exact ⟨Nat.zero_le _, trivial, (Gr.nl (L := [])).i (fun q hq => by cases hq), rfl⟩
  intro g j hg
  simp only [overFrom, pin, setF_0, setF_s, List.contains_cons, List.contains_nil, Nat.reduceBEq, Bool.or_false, Bool.false_or, Bool.or_true, Bool.true_or, Nat.reduceAdd, ↓reduceIte, Bool.false_eq_true]
  obtain ⟨g, v, o, D⟩ := g
  simp only at hg ⊢
  obtain ⟨hgt, hND, hGr, ho⟩ := hg
  have hol : o.length ≤ g := by
    have := putAll_len ((t.take g).map RefL.id)
    rw [← ho, List.length_map, List.length_take] at this; omega
  by_cases hlt : g < t.length
  · have hb0 : 0 < t.length := by omega
    have hbl := h1.lt hb0
    have hne : bx ≠ b1 := by omega
    have rd1 : readB w ((bx, Obj.cells #[vt, vl] 24 (0, 0)) :: D) b1 = some (.cells a1 E1 f1) := by
      rw [read_none (by simp only [keys, List.map_cons, List.mem_cons, not_or]; exact ⟨by omega, hND.not hbl⟩)]; exact h1.has hb0
    have i1 := h1.idx true g hlt
    have ldi : loadV (some (true, 32)) (some (.cells a1 E1 f1)) (o1 + g * 33 + 1) = some (.agg (a8 (t.getD g ref0).id.l)) := by
      have h := h1.part refC_len (o := 1) (n := 32) hlt (by omega) (by omega)
      rw [h, refC_id]
    have htk := StP.take_snoc (z := ref0) hlt
    generalize hy : t.getD g ref0 = y at *
    have d1 : decide ((g : Int) < (t.length : Int)) = true := decide_eq_true (by omega)
    ((try with_reducible refine Cw.go [] ?_); (try simp (disch := (first | assumption | omega | (simp only [lenS, lenT, UInt64.reduceToNat]; try omega))) only [↓Sx.S0, Sx.S1, Tryz.fx, uRR2_2, Nat.reduceAdd, Nat.reducePow, Int.reducePow, Nat.reduceBEq, ↓reduceIte, UInt8.reduceToNat, UInt16.reduceToNat, UInt32.reduceToNat, UInt64.reduceToNat, Int.reduceToNat, ht.len, d1, i1, rd1, ldi]))
    have hNx : New w.heap.size ((bx, Obj.cells #[vt, vl] 24 (0, 0)) :: D) := ⟨hwx, hND⟩
    refine Ow.callC rfl rfl Tryz.call34 (fun w' hw' => PutId_spec v o y.id w' (GrI.slV (hGr.mono (fun p hp => List.mem_cons_of_mem _ hp)) hw' rfl rfl idLC_len) (by omega)) (fun B4 v4 D4 hA4 hB4 hN4 hS4 => ?_)
    have hN4' := hN4.mono hB4
    refine Ow.go rfl ?_
    simp (disch := (first | assumption | omega | (simp only [lenS, lenT, UInt64.reduceToNat]; try omega))) only [↓Sx.S0, Sx.S1, Tryz.fx, uRR2_2, Nat.reduceAdd, Nat.reducePow, Int.reducePow, Nat.reduceBEq, ↓reduceIte, UInt8.reduceToNat, UInt16.reduceToNat, UInt32.reduceToNat, UInt64.reduceToNat, Int.reduceToNat]
    ((try with_reducible refine Cw.go [] ?_); (try simp (disch := (first | assumption | omega | (simp only [lenS, lenT, UInt64.reduceToNat]; try omega))) only [↓Sx.S0, Sx.S1, Tryz.fx, uRR2_2, Nat.reduceAdd, Nat.reducePow, Int.reducePow, Nat.reduceBEq, ↓reduceIte, UInt8.reduceToNat, UInt16.reduceToNat, UInt32.reduceToNat, UInt64.reduceToNat, Int.reduceToNat]))
    refine Again.mk (G := RdG) ⟨g + 1, v4, putL y.id o, D ++ D4⟩ (by show t.length - (g + 1) < t.length - g; omega) ⟨hlt, hND.app hN4', ?_, ?_⟩ rfl rfl
    · rcases hS4 with ⟨rfl, hpo⟩ | hS4
      · show GrI (D ++ D4) _ _ _ (putL y.id o).length _
        rw [hpo]
        exact hGr.mono fun p hp => List.mem_append_left _ hp
      · exact hS4.mono fun p hp => List.mem_append_right _ hp
    · show putL y.id o = putAll ((t.take (g + 1)).map RefL.id)
      rw [htk, List.map_append, List.map_cons, List.map_nil, putAll_snoc, ← ho]
  · obtain rfl : g = t.length := by omega
    have d1 : decide ((t.length : Int) < (t.length : Int)) = false := by simp
    rw [List.take_length] at ho
    ((try with_reducible refine Cw.go [] ?_); (try simp (disch := (first | assumption | omega | (simp only [lenS, lenT, UInt64.reduceToNat]; try omega))) only [↓Sx.S0, Sx.S1, Tryz.fx, uRR2_2, Nat.reduceAdd, Nat.reducePow, Int.reducePow, Nat.reduceBEq, ↓reduceIte, UInt8.reduceToNat, UInt16.reduceToNat, UInt32.reduceToNat, UInt64.reduceToNat, Int.reduceToNat, ht.len, d1]))
    refine Cw.loopG (G := RdG) [21, 22, 23, 24, 25, 28, 29, 30, 31, 32, 33, 34, 35, 36, 37, 38, 39, 40, 41, 42, 43, 3, 26, 27, 5] (fun g => [(3, g.v), (5, vi g.g)]) (fun g => (bx, .cells #[vt, vl] 24 (0, 0)) :: g.D) (fun g => g.g ≤ l.length ∧ New w.heap.size g.D ∧ GrI g.D 34 32 g.v g.o.length (g.o.map idLC).flatten ∧ g.o = putAll (t.map RefL.id ++ nzI (l.take g.g))) (fun g => l.length - g.g) ⟨0, v, o, D⟩ rfl rfl ?_ ?_
    · exact ⟨Nat.zero_le _, hND, hGr, by show o = putAll (t.map RefL.id ++ []); rw [List.append_nil]; exact ho⟩
    clear ho hGr hND hol
    intro g j hg
    simp only [overFrom, pin, setF_0, setF_s, List.contains_cons, List.contains_nil, Nat.reduceBEq, Bool.or_false, Bool.false_or, Bool.or_true, Bool.true_or, Nat.reduceAdd, ↓reduceIte, Bool.false_eq_true]
    obtain ⟨g, v, o, D⟩ := g
    simp only at hg ⊢
    obtain ⟨hgl, hND, hGr, ho⟩ := hg
    have hol : o.length ≤ 2000 := by
      have := putAll_len (t.map RefL.id ++ nzI (l.take g))
      have h2 := nzI_le (l.take g)
      rw [← ho, List.length_append, List.length_map] at this
      rw [List.length_take] at h2
      omega
    by_cases hlt : g < l.length
    · have hb0 : 0 < l.length := by omega
      have hbl := h2.lt hb0
      have hne : bx ≠ b2 := by omega
      have rd1 : readB w ((bx, Obj.cells #[vt, vl] 24 (0, 0)) :: D) b2 = some (.cells a2 E2 f2) := by
        rw [read_none (by simp only [keys, List.map_cons, List.mem_cons, not_or]; exact ⟨by omega, hND.not hbl⟩)]; exact h2.has hb0
      have i1 := h2.idx true g hlt
      have ldi : loadV (some (true, 32)) (some (.cells a2 E2 f2)) (o2 + g * 33 + 1) = some (.agg (a8 (l.getD g ref0).id.l)) := by
        have h := h2.part refC_len (o := 1) (n := 32) hlt (by omega) (by omega)
        rw [h, refC_id]
      have hst := nzI_take hlt
      generalize hy : l.getD g ref0 = y at *
      have hne := neIdz y.id.l y.id.h
      have d1 : decide ((g : Int) < (l.length : Int)) = true := decide_eq_true (by omega)
      ((try with_reducible refine Cw.go [] ?_); (try simp (disch := (first | assumption | omega | (simp only [lenS, lenT, UInt64.reduceToNat]; try omega))) only [↓Sx.S0, Sx.S1, Tryz.fx, uRR2_2, Nat.reduceAdd, Nat.reducePow, Int.reducePow, Nat.reduceBEq, ↓reduceIte, UInt8.reduceToNat, UInt16.reduceToNat, UInt32.reduceToNat, UInt64.reduceToNat, Int.reduceToNat, hl.len, d1, i1, rd1, ldi]))
      refine Ow.build (.agg (a8 z32)) rfl build_id0 ?_
      cases hz : (y.id.l == z32)
      · rw [hz, if_neg (by simp)] at hst
        rw [hz] at hne
        have d4 : (!false) = true := rfl
        refine Ow.go rfl ?_
        simp (disch := (first | assumption | omega | (simp only [lenS, lenT, UInt64.reduceToNat]; try omega))) only [↓Sx.S0, Sx.S1, Tryz.fx, uRR2_2, Nat.reduceAdd, Nat.reducePow, Int.reducePow, Nat.reduceBEq, ↓reduceIte, UInt8.reduceToNat, UInt16.reduceToNat, UInt32.reduceToNat, UInt64.reduceToNat, Int.reduceToNat, hne, d4]
        ((try with_reducible refine Cw.go [] ?_); (try simp (disch := (first | assumption | omega | (simp only [lenS, lenT, UInt64.reduceToNat]; try omega))) only [↓Sx.S0, Sx.S1, Tryz.fx, uRR2_2, Nat.reduceAdd, Nat.reducePow, Int.reducePow, Nat.reduceBEq, ↓reduceIte, UInt8.reduceToNat, UInt16.reduceToNat, UInt32.reduceToNat, UInt64.reduceToNat, Int.reduceToNat, hl.len, i1, rd1, ldi]))
        have hNx : New w.heap.size ((bx, Obj.cells #[vt, vl] 24 (0, 0)) :: D) := ⟨hwx, hND⟩
        refine Ow.callC rfl rfl Tryz.call34 (fun w' hw' => PutId_spec v o y.id w' (GrI.slV (hGr.mono (fun p hp => List.mem_cons_of_mem _ hp)) hw' rfl rfl idLC_len) (by omega)) (fun B4 v4 D4 hA4 hB4 hN4 hS4 => ?_)
        have hN4' := hN4.mono hB4
        refine Ow.go rfl ?_
        simp (disch := (first | assumption | omega | (simp only [lenS, lenT, UInt64.reduceToNat]; try omega))) only [↓Sx.S0, Sx.S1, Tryz.fx, uRR2_2, Nat.reduceAdd, Nat.reducePow, Int.reducePow, Nat.reduceBEq, ↓reduceIte, UInt8.reduceToNat, UInt16.reduceToNat, UInt32.reduceToNat, UInt64.reduceToNat, Int.reduceToNat]
        ((try with_reducible refine Cw.go [] ?_); (try simp (disch := (first | assumption | omega | (simp only [lenS, lenT, UInt64.reduceToNat]; try omega))) only [↓Sx.S0, Sx.S1, Tryz.fx, uRR2_2, Nat.reduceAdd, Nat.reducePow, Int.reducePow, Nat.reduceBEq, ↓reduceIte, UInt8.reduceToNat, UInt16.reduceToNat, UInt32.reduceToNat, UInt64.reduceToNat, Int.reduceToNat]))
        refine Again.mk (G := RdG) ⟨g + 1, v4, putL y.id o, D ++ D4⟩ (by show l.length - (g + 1) < l.length - g; omega) ⟨hlt, hND.app hN4', ?_, ?_⟩ rfl rfl
        · rcases hS4 with ⟨rfl, hpo⟩ | hS4
          · show GrI (D ++ D4) _ _ _ (putL y.id o).length _
            rw [hpo]
            exact hGr.mono fun p hp => List.mem_append_left _ hp
          · exact hS4.mono fun p hp => List.mem_append_right _ hp
        · show putL y.id o = putAll (t.map RefL.id ++ nzI (l.take (g + 1)))
          rw [hst, ← List.append_assoc, putAll_snoc, ← ho]
      · rw [hz, if_pos rfl, List.append_nil] at hst
        rw [hz] at hne
        have d4 : (!true) = false := rfl
        refine Ow.go rfl ?_
        simp (disch := (first | assumption | omega | (simp only [lenS, lenT, UInt64.reduceToNat]; try omega))) only [↓Sx.S0, Sx.S1, Tryz.fx, uRR2_2, Nat.reduceAdd, Nat.reducePow, Int.reducePow, Nat.reduceBEq, ↓reduceIte, UInt8.reduceToNat, UInt16.reduceToNat, UInt32.reduceToNat, UInt64.reduceToNat, Int.reduceToNat, hne, d4]
        ((try with_reducible refine Cw.go [] ?_); (try simp (disch := (first | assumption | omega | (simp only [lenS, lenT, UInt64.reduceToNat]; try omega))) only [↓Sx.S0, Sx.S1, Tryz.fx, uRR2_2, Nat.reduceAdd, Nat.reducePow, Int.reducePow, Nat.reduceBEq, ↓reduceIte, UInt8.reduceToNat, UInt16.reduceToNat, UInt32.reduceToNat, UInt64.reduceToNat, Int.reduceToNat]))
        refine Again.mk (G := RdG) ⟨g + 1, v, o, D⟩ (by show l.length - (g + 1) < l.length - g; omega) ⟨hlt, hND, hGr, ?_⟩ rfl rfl
        show o = putAll (t.map RefL.id ++ nzI (l.take (g + 1)))
        rw [hst]; exact ho
    · obtain rfl : g = l.length := by omega
      have d1 : decide ((l.length : Int) < (l.length : Int)) = false := by simp
      rw [List.take_length] at ho
      ((try with_reducible refine Cw.go [] ?_); (try simp (disch := (first | assumption | omega | (simp only [lenS, lenT, UInt64.reduceToNat]; try omega))) only [↓Sx.S0, Sx.S1, Tryz.fx, uRR2_2, Nat.reduceAdd, Nat.reducePow, Int.reducePow, Nat.reduceBEq, ↓reduceIte, UInt8.reduceToNat, UInt16.reduceToNat, UInt32.reduceToNat, UInt64.reduceToNat, Int.reduceToNat, hl.len, d1]))
      refine ⟨_, (by simp (disch := (first | assumption | omega | (simp only [lenS, lenT, UInt64.reduceToNat]; try omega))) only [↓Sx.S0, Sx.S1, Tryz.fx, uRR2_2, Nat.reduceAdd, Nat.reducePow, Int.reducePow, Nat.reduceBEq, ↓reduceIte, UInt8.reduceToNat, UInt16.reduceToNat, UInt32.reduceToNat, UInt64.reduceToNat, Int.reduceToNat]; rfl), ?_⟩
      refine ⟨Ext.of_new ⟨hwx, hND⟩, ?_⟩
      show GrI _ _ _ v _ _
      unfold rootsD
      rw [← ho]
      exact hGr.mono fun p hp => List.mem_cons_of_mem _ hp
end Go.Proofs
end
section
open Go Go.Proofs Go.Sx Go.RefP Go.RooP
namespace Go.Proofs
set_option maxRecDepth 10000
set_option maxHeartbeats 400000
set_option linter.unusedSimpArgs false
theorem recHd_len {t : List RefL} (h : SmallN t) (ht : t.length < 1000) : (headB t).length < 1200000 ∧ (recordV (headB t)).length < 1200100 := by
  have h1 := numL_clamp_len (t.length : Int)
  have h2 := tabB_len h t.length (Nat.le_refl _)
  rw [List.take_length] at h2
  have h3 := numL_clamp_len ((sealV (headB t)).length : Int)
  have h4 := sealV_len (headB t)
  have h5 : (headB t).length < 1200000 := by
    simp only [headB, List.length_append, List.length_cons, List.length_nil]
    omega
  refine ⟨h5, ?_⟩
  simp only [recordV, textL, List.length_append] at h3 ⊢
  rw [h4] at h3 ⊢
  omega
set_option linter.defProp false
def uRR3_1 := And.intro (And.intro (@rdIn_v8) (And.intro (@rdIn_vi) (@load_bk0))) (And.intro (@load_bk1) (And.intro (@load_bk) (@load_idA)))
theorem RefBytes_spec (vt vl : Value) (t l : List RefL) (w : World) (ht : RefSl w vt t) (hl : RefSl w vl l) (htl : t.length < 1000) (hll : l.length < 1000) (hnt : SmallN t) (hnl : SmallN l) :
    Rets Tryz.prog 16 #[.agg #[vt, vl]] w (fun v D => v = vs (bookB t l) ∧ D = []) := by
  obtain ⟨b1, o1, a1, E1, f1, h1⟩ := ht.row
  obtain ⟨b2, o2, a2, E2, f2, h2⟩ := hl.row
  obtain ⟨hhd, hrd⟩ := recHd_len hnt htl
  refine Rets.enterV Tryz.func16 rfl (rs := [.tmp 2]) Tryz.results16 Tryz.ntmps16 ?_
  simp only [List.size_toArray, List.length_cons, List.length_nil, Nat.reduceAdd, Nat.reduceSub, List.replicate_succ, List.replicate_zero, List.cons_append, List.nil_append]
  ((try with_reducible refine Cw.go [] ?_); (try simp (disch := (first | assumption | omega | (simp only [lenS, lenT, UInt64.reduceToNat]; try omega))) only [↓Sx.S0, Sx.S1, Tryz.fx, uRR3_1, Nat.reduceAdd, Nat.reducePow, Int.reducePow, Nat.reduceBEq, ↓reduceIte, UInt8.reduceToNat, UInt16.reduceToNat, UInt32.reduceToNat, UInt64.reduceToNat, Int.reduceToNat]))
  refine Ow.box rfl rfl fun bx hbx hwx => ?_
  simp only [ev_tmp, getF_0, getF_s, cells_agg, List.nil_append, List.cons_append]
  refine Ow.go rfl ?_
  simp (disch := (first | assumption | omega | (simp only [lenS, lenT, UInt64.reduceToNat]; try omega))) only [↓Sx.S0, Sx.S1, Tryz.fx, uRR3_1, Nat.reduceAdd, Nat.reducePow, Int.reducePow, Nat.reduceBEq, ↓reduceIte, UInt8.reduceToNat, UInt16.reduceToNat, UInt32.reduceToNat, UInt64.reduceToNat, Int.reduceToNat]
  ((try with_reducible refine Cw.go [] ?_); (try simp (disch := (first | assumption | omega | (simp only [lenS, lenT, UInt64.reduceToNat]; try omega))) only [↓Sx.S0, Sx.S1, Tryz.fx, uRR3_1, Nat.reduceAdd, Nat.reducePow, Int.reducePow, Nat.reduceBEq, ↓reduceIte, UInt8.reduceToNat, UInt16.reduceToNat, UInt32.reduceToNat, UInt64.reduceToNat, Int.reduceToNat, ht.len]))
  have hnt0 := numL_clamp_len (t.length : Int)
  have ha0 := bin_add_s [72] (numL (clampN (t.length : Int))) (by simp; omega)
  have hPl : ([72] ++ numL (clampN (t.length : Int))).length < 100 := by simp only [List.length_append, List.length_cons, List.length_nil]; omega
  have hP2 : headB t = [72] ++ numL (clampN (t.length : Int)) ++ tabB t := rfl
  generalize hP : [72] ++ numL (clampN (t.length : Int)) = P at ha0 hPl hP2
  refine Ow.callFV rfl Tryz.call35 (fun w' hw' => NumberR_spec _ (t.length : Int) w' (Nat.le_refl _)) ?_
  refine Ow.go rfl ?_
  simp (disch := (first | assumption | omega | (simp only [lenS, lenT, UInt64.reduceToNat]; try omega))) only [↓Sx.S0, Sx.S1, Tryz.fx, uRR3_1, Nat.reduceAdd, Nat.reducePow, Int.reducePow, Nat.reduceBEq, ↓reduceIte, UInt8.reduceToNat, UInt16.reduceToNat, UInt32.reduceToNat, UInt64.reduceToNat, Int.reduceToNat, ha0]
  ((try with_reducible refine Cw.go [] ?_); (try simp (disch := (first | assumption | omega | (simp only [lenS, lenT, UInt64.reduceToNat]; try omega))) only [↓Sx.S0, Sx.S1, Tryz.fx, uRR3_1, Nat.reduceAdd, Nat.reducePow, Int.reducePow, Nat.reduceBEq, ↓reduceIte, UInt8.reduceToNat, UInt16.reduceToNat, UInt32.reduceToNat, UInt64.reduceToNat, Int.reduceToNat]))
  rw [show P = P ++ tabB (t.take 0) by simp [tabB]]
  refine Cw.loopG (G := Nat) [12, 13, 14, 15, 16, 19, 20, 21, 22, 23, 24, 25, 26, 27, 28, 29, 30, 31, 32, 33, 34, 35, 3, 17, 18, 4] (fun g => [(3, vs (P ++ tabB (t.take g))), (4, vi g)]) (fun g => [(bx, .cells #[vt, vl] 24 (0, 0))]) (fun g => g ≤ t.length) (fun g => t.length - g) 0 rfl rfl ?_ ?_
  · exact Nat.zero_le _
  intro g j hg
  simp only [overFrom, pin, setF_0, setF_s, List.contains_cons, List.contains_nil, Nat.reduceBEq, Bool.or_false, Bool.false_or, Bool.or_true, Bool.true_or, Nat.reduceAdd, ↓reduceIte, Bool.false_eq_true]
  have htb := tabB_len hnt g hg
  by_cases hlt : g < t.length
  · have hb0 : 0 < t.length := by omega
    have hbl := h1.lt hb0
    have hne : bx ≠ b1 := by omega
    have rd1 : readB w [(bx, Obj.cells #[vt, vl] 24 (0, 0))] b1 = some (.cells a1 E1 f1) := by
      rw [read_none (by simp [keys]; omega)]; exact h1.has hb0
    have i1 := h1.idx true g hlt
    have ldn : loadV (some (false, 1)) (some (.cells a1 E1 f1)) (o1 + g * 33) = some (vs (t.getD g ref0).name) := h1.cell (j := 0) (n := 1) hlt (by omega)
    have ldi : loadV (some (true, 32)) (some (.cells a1 E1 f1)) (o1 + g * 33 + 1) = some (.agg (a8 (t.getD g ref0).id.l)) := by
      have h := h1.part refC_len (o := 1) (n := 32) hlt (by omega) (by omega)
      rw [h, refC_id]
    have hsu := tabB_succ t g hlt
    have hnm := hnt g hlt
    have hrl := refB_len hnm
    generalize hy : t.getD g ref0 = y at *
    have hil := y.id.h
    have htx : (textL y.name).length < 1100 := by
      have h1 := numL_clamp_len (y.name.length : Int)
      unfold textL
      simp only [List.length_append]
      omega
    have d1 : decide ((g : Int) < (t.length : Int)) = true := decide_eq_true (by omega)
    generalize hs : P ++ tabB (t.take g) = s at *
    have hsl : s.length < 1200100 := by rw [← hs]; simp only [List.length_append, List.length_cons, List.length_nil]; omega
    have ha1 := bin_add_s s (textL y.name) (by omega)
    have ha2 := bin_add_s (s ++ textL y.name) y.id.l (by rw [List.length_append]; omega)
    ((try with_reducible refine Cw.go [] ?_); (try simp (disch := (first | assumption | omega | (simp only [lenS, lenT, UInt64.reduceToNat]; try omega))) only [↓Sx.S0, Sx.S1, Tryz.fx, uRR3_1, Nat.reduceAdd, Nat.reducePow, Int.reducePow, Nat.reduceBEq, ↓reduceIte, UInt8.reduceToNat, UInt16.reduceToNat, UInt32.reduceToNat, UInt64.reduceToNat, Int.reduceToNat, ht.len, d1]))
    refine Cw.regionO [0, 1, 3, 9, 11, 2, 4, 5, 6, 10, 12, 13, 14, 7, 8, 15, 16, 17] [] rfl (by kernel_rfl) (by kernel_rfl) ?_
    simp only [nl_cons, ↓pickL_nil, ↓pickL_cons, ↓nthO_0, ↓nthO_s, consO_some]
    refine Ow.goQ ?_
    simp (disch := (first | assumption | omega | (simp only [lenS, lenT, UInt64.reduceToNat]; try omega))) only [↓Sx.S0, Sx.S1, Tryz.fx, uRR3_1, Nat.reduceAdd, Nat.reducePow, Int.reducePow, Nat.reduceBEq, ↓reduceIte, UInt8.reduceToNat, UInt16.reduceToNat, UInt32.reduceToNat, UInt64.reduceToNat, Int.reduceToNat, i1, rd1, ldn, ldi]
    refine Ow.callFV rfl Tryz.call36 (fun w' hw' => TextR_spec y.name w' (by omega)) ?_
    refine Ow.goQ ?_
    simp (disch := (first | assumption | omega | (simp only [lenS, lenT, UInt64.reduceToNat]; try omega))) only [↓Sx.S0, Sx.S1, Tryz.fx, uRR3_1, Nat.reduceAdd, Nat.reducePow, Int.reducePow, Nat.reduceBEq, ↓reduceIte, UInt8.reduceToNat, UInt16.reduceToNat, UInt32.reduceToNat, UInt64.reduceToNat, Int.reduceToNat, ha1]
    refine Ow.callFV rfl Tryz.call37 (fun w' hw' => IdR_spec y.id w') ?_
    refine Ow.goQ ?_
    simp (disch := (first | assumption | omega | (simp only [lenS, lenT, UInt64.reduceToNat]; try omega))) only [↓Sx.S0, Sx.S1, Tryz.fx, uRR3_1, Nat.reduceAdd, Nat.reducePow, Int.reducePow, Nat.reduceBEq, ↓reduceIte, UInt8.reduceToNat, UInt16.reduceToNat, UInt32.reduceToNat, UInt64.reduceToNat, Int.reduceToNat, ha2]
    try with_reducible refine Ow.nil ?_
    ((try with_reducible refine Cw.go [] ?_); (try simp (disch := (first | assumption | omega | (simp only [lenS, lenT, UInt64.reduceToNat]; try omega))) only [↓Sx.S0, Sx.S1, Tryz.fx, uRR3_1, Nat.reduceAdd, Nat.reducePow, Int.reducePow, Nat.reduceBEq, ↓reduceIte, UInt8.reduceToNat, UInt16.reduceToNat, UInt32.reduceToNat, UInt64.reduceToNat, Int.reduceToNat]))
    refine Again.mk (G := Nat) (g + 1) (by show t.length - (g + 1) < t.length - g; omega) hlt rfl ?_
    rw [hsu, ← List.append_assoc, hs, refB, ← List.append_assoc]
    rfl
  · obtain rfl : g = t.length := by omega
    have d1 : decide ((t.length : Int) < (t.length : Int)) = false := by simp
    rw [List.take_length, ← hP2]
    ((try with_reducible refine Cw.go [] ?_); (try simp (disch := (first | assumption | omega | (simp only [lenS, lenT, UInt64.reduceToNat]; try omega))) only [↓Sx.S0, Sx.S1, Tryz.fx, uRR3_1, Nat.reduceAdd, Nat.reducePow, Int.reducePow, Nat.reduceBEq, ↓reduceIte, UInt8.reduceToNat, UInt16.reduceToNat, UInt32.reduceToNat, UInt64.reduceToNat, Int.reduceToNat, ht.len, d1]))
    have hsl := sealV_len (headB t)
    refine Ow.callFV rfl Tryz.call38 (fun w' hw' => refSeal_spec (headB t) w' (by omega)) ?_
    refine Ow.go rfl ?_
    simp (disch := (first | assumption | omega | (simp only [lenS, lenT, UInt64.reduceToNat]; try omega))) only [↓Sx.S0, Sx.S1, Tryz.fx, uRR3_1, Nat.reduceAdd, Nat.reducePow, Int.reducePow, Nat.reduceBEq, ↓reduceIte, UInt8.reduceToNat, UInt16.reduceToNat, UInt32.reduceToNat, UInt64.reduceToNat, Int.reduceToNat]
    refine Ow.callFV rfl Tryz.call36 (fun w' hw' => TextR_spec (sealV (headB t)) w' (by omega)) ?_
    refine Ow.go rfl ?_
    simp (disch := (first | assumption | omega | (simp only [lenS, lenT, UInt64.reduceToNat]; try omega))) only [↓Sx.S0, Sx.S1, Tryz.fx, uRR3_1, Nat.reduceAdd, Nat.reducePow, Int.reducePow, Nat.reduceBEq, ↓reduceIte, UInt8.reduceToNat, UInt16.reduceToNat, UInt32.reduceToNat, UInt64.reduceToNat, Int.reduceToNat]
    ((try with_reducible refine Cw.go [] ?_); (try simp (disch := (first | assumption | omega | (simp only [lenS, lenT, UInt64.reduceToNat]; try omega))) only [↓Sx.S0, Sx.S1, Tryz.fx, uRR3_1, Nat.reduceAdd, Nat.reducePow, Int.reducePow, Nat.reduceBEq, ↓reduceIte, UInt8.reduceToNat, UInt16.reduceToNat, UInt32.reduceToNat, UInt64.reduceToNat, Int.reduceToNat]))
    rw [show textL (sealV (headB t)) = recordV (headB t) from rfl]
    have hbk : recordV (headB t) ++ logB l = bookB t l := rfl
    generalize hHd : recordV (headB t) = hd at *
    rw [show hd = hd ++ logB (l.take 0) by simp [logB]]
    refine Cw.loopG (G := Nat) [39, 40, 41, 42, 43, 46, 47, 48, 49, 50, 51, 52, 53, 5, 44, 45, 6] (fun g => [(5, vs (hd ++ logB (l.take g))), (6, vi g)]) (fun g => [(bx, .cells #[vt, vl] 24 (0, 0))]) (fun g => g ≤ l.length) (fun g => l.length - g) 0 rfl rfl ?_ ?_
    · exact Nat.zero_le _
    intro g j hg
    simp only [overFrom, pin, setF_0, setF_s, List.contains_cons, List.contains_nil, Nat.reduceBEq, Bool.or_false, Bool.false_or, Bool.or_true, Bool.true_or, Nat.reduceAdd, ↓reduceIte, Bool.false_eq_true]
    have htb := logB_len hnl g hg
    by_cases hlt : g < l.length
    · have hb0 : 0 < l.length := by omega
      have hbl := h2.lt hb0
      have hne : bx ≠ b2 := by omega
      have rd1 : readB w [(bx, Obj.cells #[vt, vl] 24 (0, 0))] b2 = some (.cells a2 E2 f2) := by
        rw [read_none (by simp [keys]; omega)]; exact h2.has hb0
      have i1 := h2.idx true g hlt
      have ld2 := h2.load refC_len (by omega) hlt
      have hsu := logB_succ l g hlt
      have hnm := hnl g hlt
      have hrl := recE_len hnm
      generalize hy : l.getD g ref0 = y at *
      have d1 : decide ((g : Int) < (l.length : Int)) = true := decide_eq_true (by omega)
      generalize hs : hd ++ logB (l.take g) = s at *
      have hsl : s.length < 3000000 := by rw [← hs]; simp only [List.length_append]; omega
      have ha1 := bin_add_s s (recordV (entryB y)) (by omega)
      ((try with_reducible refine Cw.go [] ?_); (try simp (disch := (first | assumption | omega | (simp only [lenS, lenT, UInt64.reduceToNat]; try omega))) only [↓Sx.S0, Sx.S1, Tryz.fx, uRR3_1, Nat.reduceAdd, Nat.reducePow, Int.reducePow, Nat.reduceBEq, ↓reduceIte, UInt8.reduceToNat, UInt16.reduceToNat, UInt32.reduceToNat, UInt64.reduceToNat, Int.reduceToNat, hl.len, d1, i1, rd1, ld2]))
      refine Ow.callFV rfl Tryz.call39 (fun w' hw' => refEntry_spec y w' hnm) ?_
      refine Ow.go rfl ?_
      simp (disch := (first | assumption | omega | (simp only [lenS, lenT, UInt64.reduceToNat]; try omega))) only [↓Sx.S0, Sx.S1, Tryz.fx, uRR3_1, Nat.reduceAdd, Nat.reducePow, Int.reducePow, Nat.reduceBEq, ↓reduceIte, UInt8.reduceToNat, UInt16.reduceToNat, UInt32.reduceToNat, UInt64.reduceToNat, Int.reduceToNat, ha1]
      ((try with_reducible refine Cw.go [] ?_); (try simp (disch := (first | assumption | omega | (simp only [lenS, lenT, UInt64.reduceToNat]; try omega))) only [↓Sx.S0, Sx.S1, Tryz.fx, uRR3_1, Nat.reduceAdd, Nat.reducePow, Int.reducePow, Nat.reduceBEq, ↓reduceIte, UInt8.reduceToNat, UInt16.reduceToNat, UInt32.reduceToNat, UInt64.reduceToNat, Int.reduceToNat]))
      refine Again.mk (G := Nat) (g + 1) (by show l.length - (g + 1) < l.length - g; omega) hlt rfl ?_
      rw [hsu, ← List.append_assoc, hs]
      rfl
    · obtain rfl : g = l.length := by omega
      have d1 : decide ((l.length : Int) < (l.length : Int)) = false := by simp
      rw [List.take_length, hbk]
      ((try with_reducible refine Cw.go [] ?_); (try simp (disch := (first | assumption | omega | (simp only [lenS, lenT, UInt64.reduceToNat]; try omega))) only [↓Sx.S0, Sx.S1, Tryz.fx, uRR3_1, Nat.reduceAdd, Nat.reducePow, Int.reducePow, Nat.reduceBEq, ↓reduceIte, UInt8.reduceToNat, UInt16.reduceToNat, UInt32.reduceToNat, UInt64.reduceToNat, Int.reduceToNat, hl.len, d1]))
      refine ⟨_, (by simp (disch := (first | assumption | omega | (simp only [lenS, lenT, UInt64.reduceToNat]; try omega))) only [↓Sx.S0, Sx.S1, Tryz.fx, uRR3_1, Nat.reduceAdd, Nat.reducePow, Int.reducePow, Nat.reduceBEq, ↓reduceIte, UInt8.reduceToNat, UInt16.reduceToNat, UInt32.reduceToNat, UInt64.reduceToNat, Int.reduceToNat]; rfl), ⟨hwx, trivial⟩, ?_⟩
      rfl
end Go.Proofs
end
section
open Go Go.Proofs Go.Sx Go.RefP Go.RooP
namespace Go.Proofs
set_option maxRecDepth 10000
set_option maxHeartbeats 400000
set_option linter.unusedSimpArgs false
/-! ### What a trimming leaves: plain laws -/
/-- Is a ref as it may be in a table? -/
def fineR (r : RefL) : Prop := nameV r.name = true ∧ (r.id.l == z32) = false
theorem tab_fine {t : List RefL} (h : tabOkR t = true) : ∀ r, r ∈ t → fineR r := by
  intro r hr
  obtain ⟨i, hi, rfl⟩ := StP.mem_getD (z := ref0) hr
  have := (tabOkR_iff t).1 h i hi
  unfold tabOk at this
  rw [prs_getD t i hi] at this
  simp only [Bool.and_eq_true, Bool.not_eq_true'] at this
  exact ⟨this.1.1, this.1.2⟩
theorem getV_in {k v z : List UInt8} : ∀ {m : Vals}, KeysNd m → (k, v) ∈ m → getV k z m = v
  | [], _, h => by cases h
  | p :: m, hn, h => by
    unfold KeysNd at hn
    rw [List.map_cons, List.nodup_cons] at hn
    unfold getV
    rw [List.find?_cons]
    rcases List.mem_cons.1 h with rfl | h
    · simp
    · have hne : (k == p.1) = false := by
        rw [beq_eq_false_iff_ne]
        intro e
        exact hn.1 (by rw [← e]; exact List.mem_map.2 ⟨_, h, rfl⟩)
      rw [hne]
      exact getV_in (z := z) hn.2 h
theorem getV_out {k z : List UInt8} {m : Vals} (h : k ∉ m.map Prod.fst) : getV k z m = z := by
  unfold getV
  have : m.find? (fun p => k == p.1) = none := by
    rw [List.find?_eq_none]
    intro p hp e
    exact h (by rw [eq_of_beq e]; exact List.mem_map.2 ⟨p, hp, rfl⟩)
  rw [this]
end Go.Proofs
end
section
open Go Go.Proofs Go.Sx Go.RefP Go.RooP
namespace Go.Proofs
set_option maxRecDepth 10000
set_option maxHeartbeats 400000
set_option linter.unusedSimpArgs false
/-! ### Two lists of ids -/
set_option linter.defProp false
def uRR4_1 := And.intro (And.intro (@eqIdB) (@neIdB)) (And.intro (@load_idA) (And.intro (@rdIn_v8) (@rdIn_vi)))
instance : DecidableEq IdL := fun a b => if h : a.l = b.l then .isTrue (IdL.ext2 h) else .isFalse (fun e => h (by rw [e]))
theorem SameIdsR_spec (v1 v2 : Value) (l1 l2 : List IdL) (w : World) (hv1 : IdSl w v1 l1) (hv2 : IdSl w v2 l2) (hl1 : l1.length < 1000000) (_hl2 : l2.length < 1000000) :
    Rets Tryz.prog 14 #[v1, v2] w (fun v' D => v' = .bool (decide (l1 = l2)) ∧ D = []) := by
  obtain ⟨b1, off1, arr1, E1, fz1, hr1⟩ := hv1.row
  obtain ⟨b2, off2, arr2, E2, fz2, hr2⟩ := hv2.row
  have ln1 := hv1.len
  have ln2 := hv2.len
  refine Rets.enterV Tryz.func14 rfl (rs := [.tmp 4]) Tryz.results14 Tryz.ntmps14 ?_
  simp only [List.size_toArray, List.length_cons, List.length_nil, Nat.reduceAdd, Nat.reduceSub, List.replicate_succ, List.replicate_zero, List.cons_append, List.nil_append]
  by_cases hl : l1.length = l2.length
  · ((try with_reducible refine Cw.go [] ?_); (try simp (disch := (first | assumption | omega | (simp only [lenS, lenT, UInt64.reduceToNat]; try omega))) only [↓Sx.S0, Sx.S1, Tryz.fx, uRR4_1, Nat.reduceAdd, Nat.reducePow, Int.reducePow, Nat.reduceBEq, ↓reduceIte, UInt8.reduceToNat, UInt16.reduceToNat, UInt32.reduceToNat, UInt64.reduceToNat, Int.reduceToNat, ln1, ln2]))
    refine Cw.loopG (G := Nat) [11, 12, 13, 14, 17, 18, 19, 20, 21, 22, 23, 24, 25, 4, 15, 16, 5] (fun g => [(5, vi g)]) (fun g => []) (fun g => g ≤ l1.length ∧ l1.take g = l2.take g) (fun g => l1.length - g) 0 rfl rfl ?_ ?_
    · exact ⟨Nat.zero_le _, rfl⟩
    · intro k jk hk
      simp only [overFrom, pin, setF_0, setF_s, List.contains_cons, List.contains_nil, Nat.reduceBEq, Bool.or_false, Bool.false_or, Bool.or_true, Bool.true_or, Nat.reduceAdd, ↓reduceIte, Bool.false_eq_true]
      obtain ⟨h1, h2⟩ := hk
      by_cases hk : k < l1.length
      · have h0 : 0 < l1.length := by omega
        have ra := hr1.has h0
        have rb := hr2.has (show 0 < l2.length by omega)
        have ia := hr1.idx true k hk
        have ib := hr2.idx true k (show k < l2.length by omega)
        have la := row_idA hr1 hk
        have lb := row_idA hr2 (show k < l2.length by omega)
        ((try with_reducible refine Cw.go [] ?_); (try simp (disch := (first | assumption | omega | (simp only [lenS, lenT, UInt64.reduceToNat]; try omega))) only [↓Sx.S0, Sx.S1, Tryz.fx, uRR4_1, Nat.reduceAdd, Nat.reducePow, Int.reducePow, Nat.reduceBEq, ↓reduceIte, UInt8.reduceToNat, UInt16.reduceToNat, UInt32.reduceToNat, UInt64.reduceToNat, Int.reduceToNat, ln1]))
        refine Cw.regionS [b1, b2] [0, 1, 2, 4, 5, 6, 3, 7, 8] [] (by kernel_rfl) (by kernel_rfl) (by kernel_rfl) ?_
        simp only [nl_cons, ↓pickL_nil, ↓pickL_cons, ↓nthO_0, ↓nthO_s, consO_some]
        refine Ow.goQ ?_
        simp (disch := (first | assumption | omega | (simp only [lenS, lenT, UInt64.reduceToNat]; try omega))) only [↓Sx.S0, Sx.S1, Tryz.fx, uRR4_1, Nat.reduceAdd, Nat.reducePow, Int.reducePow, Nat.reduceBEq, ↓reduceIte, UInt8.reduceToNat, UInt16.reduceToNat, UInt32.reduceToNat, UInt64.reduceToNat, Int.reduceToNat, ra, rb, ia, ib, la, lb]
        cases hq : ((l1.getD k id0).l == (l2.getD k id0).l)
        · have : decide (l1 = l2) = false := decide_eq_false (fun e => by rw [e] at hq; simp at hq)
          rw [this]
          ((try with_reducible refine Cw.go [] ?_); (try simp (disch := (first | assumption | omega | (simp only [lenS, lenT, UInt64.reduceToNat]; try omega))) only [↓Sx.S0, Sx.S1, Tryz.fx, uRR4_1, Nat.reduceAdd, Nat.reducePow, Int.reducePow, Nat.reduceBEq, ↓reduceIte, UInt8.reduceToNat, UInt16.reduceToNat, UInt32.reduceToNat, UInt64.reduceToNat, Int.reduceToNat, hq]))
          refine ⟨_, (by simp (disch := (first | assumption | omega | (simp only [lenS, lenT, UInt64.reduceToNat]; try omega))) only [↓Sx.S0, Sx.S1, Tryz.fx, uRR4_1, Nat.reduceAdd, Nat.reducePow, Int.reducePow, Nat.reduceBEq, ↓reduceIte, UInt8.reduceToNat, UInt16.reduceToNat, UInt32.reduceToNat, UInt64.reduceToNat, Int.reduceToNat]; rfl), trivial, ?_⟩
          rfl
        · ((try with_reducible refine Cw.go [] ?_); (try simp (disch := (first | assumption | omega | (simp only [lenS, lenT, UInt64.reduceToNat]; try omega))) only [↓Sx.S0, Sx.S1, Tryz.fx, uRR4_1, Nat.reduceAdd, Nat.reducePow, Int.reducePow, Nat.reduceBEq, ↓reduceIte, UInt8.reduceToNat, UInt16.reduceToNat, UInt32.reduceToNat, UInt64.reduceToNat, Int.reduceToNat, hq]))
          refine Again.mk (k + 1) (by omega) ⟨hk, ?_⟩ rfl rfl
          have e : l1.getD k id0 = l2.getD k id0 := IdL.ext2 (by simpa using hq)
          rw [StP.take_snoc (z := id0) hk, StP.take_snoc (z := id0) (show k < l2.length by omega), h2, e]
      · obtain rfl : k = l1.length := by omega
        have : l1 = l2 := by rw [List.take_length, hl, List.take_length] at h2; exact h2
        rw [decide_eq_true this]
        ((try with_reducible refine Cw.go [] ?_); (try simp (disch := (first | assumption | omega | (simp only [lenS, lenT, UInt64.reduceToNat]; try omega))) only [↓Sx.S0, Sx.S1, Tryz.fx, uRR4_1, Nat.reduceAdd, Nat.reducePow, Int.reducePow, Nat.reduceBEq, ↓reduceIte, UInt8.reduceToNat, UInt16.reduceToNat, UInt32.reduceToNat, UInt64.reduceToNat, Int.reduceToNat, ln1]))
        refine ⟨_, (by simp (disch := (first | assumption | omega | (simp only [lenS, lenT, UInt64.reduceToNat]; try omega))) only [↓Sx.S0, Sx.S1, Tryz.fx, uRR4_1, Nat.reduceAdd, Nat.reducePow, Int.reducePow, Nat.reduceBEq, ↓reduceIte, UInt8.reduceToNat, UInt16.reduceToNat, UInt32.reduceToNat, UInt64.reduceToNat, Int.reduceToNat]; rfl), trivial, ?_⟩
        rfl
  · have : decide (l1 = l2) = false := decide_eq_false (fun e => hl (by rw [e]))
    rw [this]
    ((try with_reducible refine Cw.go [] ?_); (try simp (disch := (first | assumption | omega | (simp only [lenS, lenT, UInt64.reduceToNat]; try omega))) only [↓Sx.S0, Sx.S1, Tryz.fx, uRR4_1, Nat.reduceAdd, Nat.reducePow, Int.reducePow, Nat.reduceBEq, ↓reduceIte, UInt8.reduceToNat, UInt16.reduceToNat, UInt32.reduceToNat, UInt64.reduceToNat, Int.reduceToNat, ln1, ln2]))
    refine ⟨_, (by simp (disch := (first | assumption | omega | (simp only [lenS, lenT, UInt64.reduceToNat]; try omega))) only [↓Sx.S0, Sx.S1, Tryz.fx, uRR4_1, Nat.reduceAdd, Nat.reducePow, Int.reducePow, Nat.reduceBEq, ↓reduceIte, UInt8.reduceToNat, UInt16.reduceToNat, UInt32.reduceToNat, UInt64.reduceToNat, Int.reduceToNat]; rfl), trivial, ?_⟩
    rfl

/-! ### What is the document's -/
theorem getV_perm {k z : List UInt8} {m m2 : Vals} (hp : m.Perm m2) (hn : KeysNd m2) : getV k z m = getV k z m2 := by
  have hn1 : KeysNd m := ((hp.map Prod.fst).nodup_iff).2 hn
  by_cases h : ∃ v, (k, v) ∈ m
  · obtain ⟨v, hv⟩ := h
    rw [getV_in hn1 hv, getV_in hn (hp.mem_iff.1 hv)]
  · have h1 : k ∉ m.map Prod.fst := fun hm => by
      obtain ⟨p, hp, e⟩ := List.mem_map.1 hm
      exact h ⟨p.2, by rw [← e]; exact hp⟩
    rw [getV_out h1, getV_out fun hm => h1 ((hp.map Prod.fst).mem_iff.2 hm)]
theorem valL_get (n : List UInt8) : ∀ (l : List RefL), valL n l = getV n z32 (prs l)
  | [] => rfl
  | r :: l => by
    have e : prs (r :: l) = (r.name, r.id.l) :: prs l := rfl
    rw [e]
    unfold valL getV
    rw [List.find?_cons]
    rw [show (n == r.name) = (r.name == n) from Bool.beq_comm]
    cases h : (r.name == n)
    · rw [if_neg (by simp)]
      exact valL_get n l
    · rw [if_pos rfl]
theorem value_doc {t l le : List RefL} {n : List UInt8} (hr : rightB t l = true) (hv : valR t l l.length = some le) : valueB t l n = valL n le := by
  obtain ⟨m, ls, hm, hv2, hrel, -, hl100⟩ := of_trim hr (Nat.le_refl _)
  rw [hv] at hv2
  obtain rfl := Option.some.inj hv2
  unfold valueB
  rw [hm]
  simp only
  rw [if_pos hl100, valL_get]
  exact getV_perm hrel.1 hrel.2.nd
theorem putAll_map (l : List IdL) : (putAll l).map IdL.l = (l.map IdL.l).foldl (fun a x => putI x a) [] := by
  have h : ∀ (l a : List IdL), (l.foldl (fun a x => putL x a) a).map IdL.l = (l.map IdL.l).foldl (fun a x => putI x a) (a.map IdL.l) := by
    intro l
    induction l with
    | nil => intro a; rfl
    | cons x l ih => intro a; rw [List.foldl_cons, ih, putL_map]; rfl
  exact h l []
theorem mapL_inj : ∀ {a b : List IdL}, a.map IdL.l = b.map IdL.l → a = b
  | [], [], _ => rfl
  | [], _ :: _, h => by cases h
  | _ :: _, [], h => by cases h
  | x :: a, y :: b, h => by
    simp only [List.map_cons, List.cons.injEq] at h
    rw [IdL.ext2 h.1, mapL_inj h.2]
theorem nzI_all {t l : List RefL} (h : ∀ r, r ∈ t → fineR r) : nzI (t ++ l) = t.map RefL.id ++ nzI l := by
  unfold nzI
  rw [List.map_append, List.filter_append]
  congr 1
  rw [List.filter_eq_self]
  intro i hi
  obtain ⟨r, hr, rfl⟩ := List.mem_map.1 hi
  rw [(h r hr).2]; rfl
/-- The roots are the document's. -/
theorem roots_doc {t l : List RefL} {k : List IdL} (hr : rightB t l = true) (h : rootsI t l k) : k = rootsD t l := by
  obtain ⟨s, hp, hs, rfl⟩ := h
  have hf : ∀ r, r ∈ t → fineR r := by
    have h1 := valR_right t l
    rw [hr] at h1
    obtain ⟨le, hle⟩ := Option.isSome_iff_exists.1 h1
    exact tab_fine (valR_if hle).2.2.1
  refine mapL_inj ?_
  unfold rootsD
  rw [uniqI_map, putAll_map, ← nzI_all hf]
  exact uniq_put (hp.map _) (List.pairwise_map.2 hs)
end Go.Proofs
end
