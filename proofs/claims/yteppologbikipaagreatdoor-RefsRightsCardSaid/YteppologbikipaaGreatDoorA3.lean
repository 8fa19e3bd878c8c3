/-
  Part 3 of the walk: contracts of the functions that the law reaches, and the calculus they stand on.
  No conditions.
-/
import Derived.Test.YteppologbikipaaGreatDoorA2
import Derived.RangeFuncLeaves
import Derived.RangeFuncIn
import Derived.RangeFuncSeq
import Derived.RangeFuncRecord
import Derived.TacticsIn
import Derived.Laws.MakeOwn
import Derived.Lib.Small
import Derived.Lib.Walk
import Derived.Lib.Bytealg
import Derived.Sort.Grow
import Derived.Deep.Draws
import Derived.Deep.QuietTactic
section
open Go Go.Proofs Go.Sx Go.RefP
namespace Go.Proofs
set_option maxRecDepth 10000
set_option maxHeartbeats 4000000
set_option linter.unusedSimpArgs false
theorem zrBk : zeroV Tryz.prog 24 = some (.agg #[.slice none 0 0, .slice none 0 0]) := id (by kernel_rfl)
theorem load_idb (l : List UInt8) (E : TypeId) (h : l.length = 32) : loadV (some (true, 32)) (some (.cells (a8 l) E (0, 0))) 0 = some (.agg (a8 l)) := load_all8 l E (0, 0) 32 h
theorem store_bk (p q x y : Value) (E : TypeId) (hx : Value.oneCell' x = true) (hy : Value.oneCell' y = true) : storeV (some (true, 2)) (some (.cells #[p, q] E (0, 0))) 0 (.agg #[x, y]) = some (.cells #[x, y] E (0, 0)) :=
  store_all 2 true #[x, y] #[p, q] E ⟨rfl, rfl⟩ (by simp [hx, hy])
theorem store_bk0 (p q : Value) (E : TypeId) : storeV (some (true, 2)) (some (.cells #[p, q] E (0, 0))) 0 (.agg #[.slice none 0 0, .slice none 0 0]) = some (.cells #[.slice none 0 0, .slice none 0 0] E (0, 0)) := store_bk _ _ _ _ E rfl rfl
/-- What Add hands back. -/
def AddS (_n : Nat) (t l : List RefL) (nm : List UInt8) (id : IdL) (v : Value) (D : Heap) : Prop :=
  if rightB t l = true ∧ nameV nm = true then
    (if rightB t (l ++ [⟨nm, id⟩]) = true then ∃ vt vl, v = .tuple #[.agg #[vt, vl], vs (recordV (entryB ⟨nm, id⟩)), vi 0] ∧ GrI D 48 33 vt t.length (t.map refC).flatten ∧ GrI D 48 33 vl (l.length + 1) ((l ++ [(⟨nm, id⟩ : RefL)]).map refC).flatten
     else v = .tuple #[.agg #[.slice none 0 0, .slice none 0 0], vs [], vi 18])
  else v = .tuple #[.agg #[.slice none 0 0, .slice none 0 0], vs [], vi 1]
theorem AddS.arg {n : Nat} {t l : List RefL} {nm : List UInt8} {id : IdL} {D : Heap} (h : ¬ (rightB t l = true ∧ nameV nm = true)) : AddS n t l nm id (.tuple #[.agg #[.slice none 0 0, .slice none 0 0], vs [], vi 1]) D := by
  unfold AddS; rw [if_neg h]
theorem AddS.full {n : Nat} {t l : List RefL} {nm : List UInt8} {id : IdL} {D : Heap} (h : rightB t l = true ∧ nameV nm = true) (h2 : rightB t (l ++ [(⟨nm, id⟩ : RefL)]) = false) : AddS n t l nm id (.tuple #[.agg #[.slice none 0 0, .slice none 0 0], vs [], vi 18]) D := by
  unfold AddS; rw [if_pos h, if_neg (by rw [h2]; simp)]
theorem AddS.ok {n : Nat} {t l : List RefL} {nm : List UInt8} {id : IdL} {D : Heap} {vt vl : Value} (h : rightB t l = true ∧ nameV nm = true) (h2 : rightB t (l ++ [(⟨nm, id⟩ : RefL)]) = true) (h3 : GrI D 48 33 vt t.length (t.map refC).flatten) (h4 : GrI D 48 33 vl (l.length + 1) ((l ++ [(⟨nm, id⟩ : RefL)]).map refC).flatten) :
    AddS n t l nm id (.tuple #[.agg #[vt, vl], vs (recordV (entryB ⟨nm, id⟩)), vi 0]) D := by
  unfold AddS; rw [if_pos h, if_pos h2]; exact ⟨vt, vl, rfl, h3, h4⟩
theorem build_bk (x y : Value) (hx : x.cells = #[x]) (hy : y.cells = #[y]) : buildV (plcT Tryz.prog 24) (zeroV Tryz.prog 24) [(0, x), (1, y)] = some (.agg #[x, y]) := by
  have hp : plcT Tryz.prog 24 = some [(0, 1), (1, 1)] := id (by kernel_rfl)
  rw [hp, zrBk]
  simp [buildV, fillV, hx, hy, putC]
theorem sliceRef (r : RefL) : sliceB Tryz.prog 22 1 [(0, .agg (refC r).toArray)] = some (48, (refC r).toArray) :=
  slice_one Tryz.underlying22 (id (by kernel_rfl)) zrRef (by decide) (refC_len r)
theorem newE {z : Obj} {n : Nat} {E : Heap} {p : Nat → Prop} (h : E = [] ∨ ∃ b, E = [(b, z)] ∧ n ≤ b ∧ p b) : New n E := by
  rcases h with rfl | ⟨b, rfl, hb, -⟩
  · trivial
  · exact ⟨hb, trivial⟩
structure AG where
  D1 : Heap
  D2 : Heap
  v1 : Value
  v2 : Value
  b7 : Nat
set_option linter.defProp false
def uWQ_1 := And.intro (And.intro (And.intro (And.intro (@rdIn_v8) (@rdIn_v16)) (And.intro (@rdIn_v32) (@rdIn_v64))) (And.intro (And.intro (@rdIn_vi) (@load_ref0)) (And.intro (@load_ref1) (@cells_ref)))) (And.intro (And.intro (And.intro (@eqIdz) (@store_rr)) (And.intro (@load_ref) (@load_bk0))) (And.intro (And.intro (@load_bk1) (@load_bk)) (And.intro (@tup2_0) (And.intro (@tup2_1) (@store_bk0)))))
theorem Add_spec (vt vl : Value) (t l : List RefL) (nm : List UInt8) (id : IdL) (w : World) (hG : GlobC w) (ht : RefSl w vt t) (hl : RefSl w vl l) (htl : t.length < 1000) (hll : l.length < 1000) (hnt : ShortN t) (hnl : ShortN l) (hnm : nm.length < 1000000) :
    Rets Tryz.prog 17 #[.agg #[vt, vl], vs nm, .agg (a8 id.l)] w (XS w [] (AddS w.heap.size t l nm id)) := by
  have hil := id.h
  have hglt : (1 : Nat) < w.heap.size := by obtain ⟨e, f, h⟩ := hG; exact (Array.getElem?_eq_some_iff.1 h).1
  refine Rets.enterX Tryz.func17 rfl (rs := [.cell 6 24, .tmp 7, .tmp 8]) Tryz.results17 Tryz.ntmps17 (fun p hp => by cases hp) (by simp [keys]) ?_
  simp only [List.size_toArray, List.length_cons, List.length_nil, Nat.reduceAdd, Nat.reduceSub, List.replicate_succ, List.replicate_zero, List.cons_append, List.nil_append]
  ((try with_reducible refine Cw.go [5] ?_); (try simp (disch := (first | assumption | omega | (simp only [lenS, lenT, UInt64.reduceToNat]; try omega))) only [↓Sx.S0, Sx.S1, Tryz.fx, uWQ_1, Nat.reduceAdd, Nat.reducePow, Int.reducePow, Nat.reduceBEq, ↓reduceIte, UInt8.reduceToNat, UInt16.reduceToNat, UInt32.reduceToNat, UInt64.reduceToNat, Int.reduceToNat]))
  refine Ow.box rfl rfl fun bx hbx hwx => ?_
  simp only [ev_tmp, getF_0, getF_s, cells_agg, List.nil_append, List.cons_append]
  refine Ow.go rfl ?_
  simp (disch := (first | assumption | omega | (simp only [lenS, lenT, UInt64.reduceToNat]; try omega))) only [↓Sx.S0, Sx.S1, Tryz.fx, uWQ_1, Nat.reduceAdd, Nat.reducePow, Int.reducePow, Nat.reduceBEq, ↓reduceIte, UInt8.reduceToNat, UInt16.reduceToNat, UInt32.reduceToNat, UInt64.reduceToNat, Int.reduceToNat]
  refine Ow.box rfl rfl fun bi hbi hwi => ?_
  simp only [ev_tmp, getF_0, getF_s, cells_agg, List.nil_append, List.cons_append]
  refine Ow.go rfl ?_
  simp (disch := (first | assumption | omega | (simp only [lenS, lenT, UInt64.reduceToNat]; try omega))) only [↓Sx.S0, Sx.S1, Tryz.fx, uWQ_1, Nat.reduceAdd, Nat.reducePow, Int.reducePow, Nat.reduceBEq, ↓reduceIte, UInt8.reduceToNat, UInt16.reduceToNat, UInt32.reduceToNat, UInt64.reduceToNat, Int.reduceToNat]
  obtain ⟨hxi, -⟩ := hbi
  refine Ow.alloc rfl rfl zrBk fun br hbr hwr => ?_
  simp only [cells_agg, List.nil_append, List.cons_append]
  obtain ⟨hxr, hir, -⟩ := hbr
  refine Ow.go rfl ?_
  simp (disch := (first | assumption | omega | (simp only [lenS, lenT, UInt64.reduceToNat]; try omega))) only [↓Sx.S0, Sx.S1, Tryz.fx, uWQ_1, Nat.reduceAdd, Nat.reducePow, Int.reducePow, Nat.reduceBEq, ↓reduceIte, UInt8.reduceToNat, UInt16.reduceToNat, UInt32.reduceToNat, UInt64.reduceToNat, Int.reduceToNat]
  ((try with_reducible refine Cw.go [] ?_); (try simp (disch := (first | assumption | omega | (simp only [lenS, lenT, UInt64.reduceToNat]; try omega))) only [↓Sx.S0, Sx.S1, Tryz.fx, uWQ_1, Nat.reduceAdd, Nat.reducePow, Int.reducePow, Nat.reduceBEq, ↓reduceIte, UInt8.reduceToNat, UInt16.reduceToNat, UInt32.reduceToNat, UInt64.reduceToNat, Int.reduceToNat]))
  refine Ow.callFV rfl Tryz.call8 (fun w' hw' => Right_spec vt vl t l w' (ht.oldN hw' ⟨hwx, hwi, hwr, trivial⟩) (hl.oldN hw' ⟨hwx, hwi, hwr, trivial⟩) (by omega) (by omega) hnt hnl) ?_
  cases hr : rightB t l
  · refine Ow.go rfl ?_
    simp (disch := (first | assumption | omega | (simp only [lenS, lenT, UInt64.reduceToNat]; try omega))) only [↓Sx.S0, Sx.S1, Tryz.fx, uWQ_1, Nat.reduceAdd, Nat.reducePow, Int.reducePow, Nat.reduceBEq, ↓reduceIte, UInt8.reduceToNat, UInt16.reduceToNat, UInt32.reduceToNat, UInt64.reduceToNat, Int.reduceToNat]
    ((try with_reducible refine Cw.go [] ?_); (try simp (disch := (first | assumption | omega | (simp only [lenS, lenT, UInt64.reduceToNat]; try omega))) only [↓Sx.S0, Sx.S1, Tryz.fx, uWQ_1, Nat.reduceAdd, Nat.reducePow, Int.reducePow, Nat.reduceBEq, ↓reduceIte, UInt8.reduceToNat, UInt16.reduceToNat, UInt32.reduceToNat, UInt64.reduceToNat, Int.reduceToNat]))
    refine Ow.build (.agg #[.slice none 0 0, .slice none 0 0]) rfl (by kernel_rfl) ?_
    refine Ow.go rfl ?_
    simp (disch := (first | assumption | omega | (simp only [lenS, lenT, UInt64.reduceToNat]; try omega))) only [↓Sx.S0, Sx.S1, Tryz.fx, uWQ_1, Nat.reduceAdd, Nat.reducePow, Int.reducePow, Nat.reduceBEq, ↓reduceIte, UInt8.reduceToNat, UInt16.reduceToNat, UInt32.reduceToNat, UInt64.reduceToNat, Int.reduceToNat]
    ((try with_reducible refine Cw.go [] ?_); (try simp (disch := (first | assumption | omega | (simp only [lenS, lenT, UInt64.reduceToNat]; try omega))) only [↓Sx.S0, Sx.S1, Tryz.fx, uWQ_1, Nat.reduceAdd, Nat.reducePow, Int.reducePow, Nat.reduceBEq, ↓reduceIte, UInt8.reduceToNat, UInt16.reduceToNat, UInt32.reduceToNat, UInt64.reduceToNat, Int.reduceToNat]))
    refine ⟨_, (by simp (disch := (first | assumption | omega | (simp only [lenS, lenT, UInt64.reduceToNat]; try omega))) only [↓Sx.S0, Sx.S1, Tryz.fx, uWQ_1, Nat.reduceAdd, Nat.reducePow, Int.reducePow, Nat.reduceBEq, ↓reduceIte, UInt8.reduceToNat, UInt16.reduceToNat, UInt32.reduceToNat, UInt64.reduceToNat, Int.reduceToNat]; rfl), ?_⟩
    refine ⟨Ext.of_new ⟨hwx, hwi, hwr, trivial⟩, ?_⟩
    exact AddS.arg (by simp [hr])
  · refine Ow.go rfl ?_
    simp (disch := (first | assumption | omega | (simp only [lenS, lenT, UInt64.reduceToNat]; try omega))) only [↓Sx.S0, Sx.S1, Tryz.fx, uWQ_1, Nat.reduceAdd, Nat.reducePow, Int.reducePow, Nat.reduceBEq, ↓reduceIte, UInt8.reduceToNat, UInt16.reduceToNat, UInt32.reduceToNat, UInt64.reduceToNat, Int.reduceToNat]
    refine Ow.callFV rfl Tryz.call40 (fun w' hw' => isNameV_spec nm w' (by omega)) ?_
    cases hn : nameV nm
    · refine Ow.go rfl ?_
      simp (disch := (first | assumption | omega | (simp only [lenS, lenT, UInt64.reduceToNat]; try omega))) only [↓Sx.S0, Sx.S1, Tryz.fx, uWQ_1, Nat.reduceAdd, Nat.reducePow, Int.reducePow, Nat.reduceBEq, ↓reduceIte, UInt8.reduceToNat, UInt16.reduceToNat, UInt32.reduceToNat, UInt64.reduceToNat, Int.reduceToNat]
      ((try with_reducible refine Cw.go [] ?_); (try simp (disch := (first | assumption | omega | (simp only [lenS, lenT, UInt64.reduceToNat]; try omega))) only [↓Sx.S0, Sx.S1, Tryz.fx, uWQ_1, Nat.reduceAdd, Nat.reducePow, Int.reducePow, Nat.reduceBEq, ↓reduceIte, UInt8.reduceToNat, UInt16.reduceToNat, UInt32.reduceToNat, UInt64.reduceToNat, Int.reduceToNat]))
      refine Ow.build (.agg #[.slice none 0 0, .slice none 0 0]) rfl (by kernel_rfl) ?_
      refine Ow.go rfl ?_
      simp (disch := (first | assumption | omega | (simp only [lenS, lenT, UInt64.reduceToNat]; try omega))) only [↓Sx.S0, Sx.S1, Tryz.fx, uWQ_1, Nat.reduceAdd, Nat.reducePow, Int.reducePow, Nat.reduceBEq, ↓reduceIte, UInt8.reduceToNat, UInt16.reduceToNat, UInt32.reduceToNat, UInt64.reduceToNat, Int.reduceToNat]
      ((try with_reducible refine Cw.go [] ?_); (try simp (disch := (first | assumption | omega | (simp only [lenS, lenT, UInt64.reduceToNat]; try omega))) only [↓Sx.S0, Sx.S1, Tryz.fx, uWQ_1, Nat.reduceAdd, Nat.reducePow, Int.reducePow, Nat.reduceBEq, ↓reduceIte, UInt8.reduceToNat, UInt16.reduceToNat, UInt32.reduceToNat, UInt64.reduceToNat, Int.reduceToNat]))
      refine ⟨_, (by simp (disch := (first | assumption | omega | (simp only [lenS, lenT, UInt64.reduceToNat]; try omega))) only [↓Sx.S0, Sx.S1, Tryz.fx, uWQ_1, Nat.reduceAdd, Nat.reducePow, Int.reducePow, Nat.reduceBEq, ↓reduceIte, UInt8.reduceToNat, UInt16.reduceToNat, UInt32.reduceToNat, UInt64.reduceToNat, Int.reduceToNat]; rfl), ?_⟩
      refine ⟨Ext.of_new ⟨hwx, hwi, hwr, trivial⟩, ?_⟩
      exact AddS.arg (by simp [hn])
    · refine Ow.go rfl ?_
      simp (disch := (first | assumption | omega | (simp only [lenS, lenT, UInt64.reduceToNat]; try omega))) only [↓Sx.S0, Sx.S1, Tryz.fx, uWQ_1, Nat.reduceAdd, Nat.reducePow, Int.reducePow, Nat.reduceBEq, ↓reduceIte, UInt8.reduceToNat, UInt16.reduceToNat, UInt32.reduceToNat, UInt64.reduceToNat, Int.reduceToNat]
      ((try with_reducible refine Cw.go [] ?_); (try simp (disch := (first | assumption | omega | (simp only [lenS, lenT, UInt64.reduceToNat]; try omega))) only [↓Sx.S0, Sx.S1, Tryz.fx, uWQ_1, Nat.reduceAdd, Nat.reducePow, Int.reducePow, Nat.reduceBEq, ↓reduceIte, UInt8.reduceToNat, UInt16.reduceToNat, UInt32.reduceToNat, UInt64.reduceToNat, Int.reduceToNat]))
      refine Ow.build _ rfl (build_ref nm id) ?_
      refine Ow.go rfl ?_
      simp (disch := (first | assumption | omega | (simp only [lenS, lenT, UInt64.reduceToNat]; try omega))) only [↓Sx.S0, Sx.S1, Tryz.fx, uWQ_1, Nat.reduceAdd, Nat.reducePow, Int.reducePow, Nat.reduceBEq, ↓reduceIte, UInt8.reduceToNat, UInt16.reduceToNat, UInt32.reduceToNat, UInt64.reduceToNat, Int.reduceToNat]
      refine Ow.alloc rfl rfl zrRef fun b9 hb9 hw9 => ?_
      simp only [cells_agg, List.nil_append, List.cons_append]
      obtain ⟨hx9, hi9, hr9, -⟩ := hb9
      generalize hR : (⟨nm, id⟩ : RefL) = r
      refine Ow.go rfl ?_
      simp (disch := (first | assumption | omega | (simp only [lenS, lenT, UInt64.reduceToNat]; try omega))) only [↓Sx.S0, Sx.S1, Tryz.fx, uWQ_1, Nat.reduceAdd, Nat.reducePow, Int.reducePow, Nat.reduceBEq, ↓reduceIte, UInt8.reduceToNat, UInt16.reduceToNat, UInt32.reduceToNat, UInt64.reduceToNat, Int.reduceToNat]
      ((try with_reducible refine Cw.go [] ?_); (try simp (disch := (first | assumption | omega | (simp only [lenS, lenT, UInt64.reduceToNat]; try omega))) only [↓Sx.S0, Sx.S1, Tryz.fx, uWQ_1, Nat.reduceAdd, Nat.reducePow, Int.reducePow, Nat.reduceBEq, ↓reduceIte, UInt8.reduceToNat, UInt16.reduceToNat, UInt32.reduceToNat, UInt64.reduceToNat, Int.reduceToNat]))
      refine Cw.regionD [bx, b9] [11] 10 10 24 11 _ rfl (by kernel_rfl) (by kernel_rfl) rfl (by kernel_rfl) zrBk (fun hD => ?_)
      simp only [List.replicate_succ, List.replicate_zero]
      refine OwD.run [0, 3, 1, 4, 6] [true, true, false, true, true, false, true, false, false, false, false, false] 6 rfl hD (by kernel_rfl) fun k hk => ?_
      simp only [nl_cons, ↓pickL_nil, ↓pickL_cons, ↓nthO_0, ↓nthO_s, consO_some]
      simp (disch := (first | assumption | omega | (simp only [lenS, lenT, UInt64.reduceToNat]; try omega))) only [↓Sx.S0, Sx.S1, Tryz.fx, uWQ_1, Nat.reduceAdd, Nat.reducePow, Int.reducePow, Nat.reduceBEq, ↓reduceIte, UInt8.reduceToNat, UInt16.reduceToNat, UInt32.reduceToNat, UInt64.reduceToNat, Int.reduceToNat, Md.next_sofnil, Md.next_sofnil]
      (with_reducible refine hk _ _ _ ?_); clear hk k
      generalize hL0 : [(bx, Obj.cells #[vt, vl] 24 (0, 0)), (bi, Obj.cells (a8 id.l) 34 (0, 0)), (br, Obj.cells #[Value.slice none 0 0, Value.slice none 0 0] 24 (0, 0)), (b9, Obj.cells (refC r).toArray 48 (0, 0))] = L0
      have hN0 : New w.heap.size L0 := by rw [← hL0]; exact ⟨hwx, hwi, hwr, hw9, trivial⟩
      have hkx : bx ∈ keys L0 := by rw [← hL0]; simp [keys]
      have hk9 : b9 ∈ keys L0 := by rw [← hL0]; simp [keys]
      have hle : ∀ c, c ∈ keys L0 → c ≤ b9 := by
        rw [← hL0]; intro c hc; simp only [keys, List.map_cons, List.map_nil, List.mem_cons, List.not_mem_nil, or_false] at hc; omega
      have hRL : ∀ r, r ∈ [bx, b9] → r ∈ keys L0 := by
        intro r hr; simp only [List.mem_cons, List.not_mem_nil, or_false] at hr; rcases hr with rfl | rfl <;> assumption
      refine OwD.via (G := AG) (fun g => [Value.agg #[vt, vl], vs nm, Value.agg (a8 id.l), vp bx 0, undef, vp bi 0, vp br 0, vs [], vi 0, vp b9 0, undef, Value.agg #[vt, vl], Value.bool true, Value.bool false, Value.bool false, vs nm, Value.bool true, Value.bool false, Value.bool false, undef, vs nm, Value.agg (a8 id.l), Value.agg (refC r).toArray, vp bx 0, vt, g.v1, vp bx 1, vl, g.v2, Value.agg (refC r).toArray, vsl g.b7 0 1 1, undef, undef, undef, undef, undef, undef, undef, undef, undef]) (fun g => L0 ++ g.D1 ++ g.D2 ++ [(g.b7, Obj.cells (refC r).toArray 48 (0, 0))]) (fun g => New (b9 + 1) g.D1 ∧ New (b9 + 1) g.D2 ∧ b9 < g.b7 ∧ Gr g.D1 48 33 g.v1 t.length (t.map refC).flatten ∧ Gr g.D2 48 33 g.v2 l.length (l.map refC).flatten) 3 [true, true, true, true, true, true, true, true, false, false, false, false] (fun key => ?_) (fun g hg => ?_)
      · refine OwD.two 2 7 _ _ hD rfl rfl (by kernel_rfl) (fun E hE => ?_) (fun E hE => ?_)
        · have hEN : New w.heap.size E := newE hE
          refine Ow.callC rfl rfl Tryz.call41 (fun w' hw' => CloneRef_spec vt t w' (ht.oldN hw' (hN0.app hEN)) (by omega)) (fun B1 v1 D1 hA1 hB1 hN1 hS1 => ?_)
          have hM1 : New (b9 + 1) D1 := hN1.mono (above_to hA1 (by simp [keys_app, hk9]))
          with_reducible refine Ow.nil ?_
          refine ⟨_, perm_mid, readB_appR (fun r hr => by simp [keys_app, hRL r hr]), ?_⟩
          simp only [List.set_cons_zero, List.set_cons_succ, putF_some, setF_0, setF_s]
          refine OwD.two 5 7 _ _ hD rfl rfl (by kernel_rfl) (fun E hE => ?_) (fun E hE => ?_)
          · have hEN : New w.heap.size E := newE hE
            refine Ow.callC rfl rfl Tryz.call41 (fun w' hw' => CloneRef_spec vl l w' (hl.oldN hw' ((hN0.app (hN1.mono hB1)).app hEN)) (by omega)) (fun B2 v2 D2 hA2 hB2 hN2 hS2 => ?_)
            have hM2 : New (b9 + 1) D2 := hN2.mono (above_to hA2 (by simp [keys_app, hk9]))
            with_reducible refine Ow.nil ?_
            refine ⟨_, perm_mid, readB_appR (fun r hr => by simp [keys_app, hRL r hr]), ?_⟩
            simp only [List.set_cons_zero, List.set_cons_succ, putF_some, setF_0, setF_s]
            refine OwD.soft 7 _ hD rfl (by kernel_rfl) (fun E hE => ?_)
            refine Ow.buildSlice (e := 48) (refC r).toArray rfl rfl (sliceRef r) fun b7 hb7 hw7 => ?_
            have hM7 : b9 < b7 := above_to hb7 (by simp [keys_app, hk9])
            with_reducible refine Ow.nil ?_
            refine ⟨_, perm_mid, readB_appR (fun r hr => by simp [keys_app, hRL r hr]), ?_⟩
            simp only [List.set_cons_zero, List.set_cons_succ, putF_some, setF_0, setF_s]
            exact key ⟨D1, D2, v1, v2, b7⟩ _ _ ⟨hM1, hM2, hM7, hS1, hS2⟩ rfl (by classical exact List.perm_iff_count.2 fun a => by simp only [List.count_append, List.count_cons, List.count_nil] <;> omega)
          · have hEN : New w.heap.size E := newE hE
            refine Ow.buildSlice (e := 48) (refC r).toArray rfl rfl (sliceRef r) fun b7 hb7 hw7 => ?_
            have hM7 : b9 < b7 := above_to hb7 (by simp [keys_app, hk9])
            with_reducible refine Ow.nil ?_
            refine ⟨_, perm_mid, readB_appR (fun r hr => by simp [keys_app, hRL r hr]), ?_⟩
            simp only [List.set_cons_zero, List.set_cons_succ, putF_some, setF_0, setF_s]
            refine OwD.soft 5 _ hD rfl (by kernel_rfl) (fun E hE => ?_)
            have hEN : New w.heap.size E := newE hE
            refine Ow.callC rfl rfl Tryz.call41 (fun w' hw' => CloneRef_spec vl l w' (hl.oldN hw' (((hN0.app (hN1.mono hB1)).app (show New w.heap.size [(b7, Obj.cells (refC r).toArray 48 (0, 0))] from ⟨hw7, trivial⟩)).app hEN)) (by omega)) (fun B2 v2 D2 hA2 hB2 hN2 hS2 => ?_)
            have hM2 : New (b9 + 1) D2 := hN2.mono (above_to hA2 (by simp [keys_app, hk9]))
            with_reducible refine Ow.nil ?_
            refine ⟨_, perm_mid, readB_appR (fun r hr => by simp [keys_app, hRL r hr]), ?_⟩
            simp only [List.set_cons_zero, List.set_cons_succ, putF_some, setF_0, setF_s]
            exact key ⟨D1, D2, v1, v2, b7⟩ _ _ ⟨hM1, hM2, hM7, hS1, hS2⟩ rfl (by classical exact List.perm_iff_count.2 fun a => by simp only [List.count_append, List.count_cons, List.count_nil] <;> omega)
        · have hEN : New w.heap.size E := newE hE
          refine Ow.buildSlice (e := 48) (refC r).toArray rfl rfl (sliceRef r) fun b7 hb7 hw7 => ?_
          have hM7 : b9 < b7 := above_to hb7 (by simp [keys_app, hk9])
          with_reducible refine Ow.nil ?_
          refine ⟨_, perm_mid, readB_appR (fun r hr => by simp [keys_app, hRL r hr]), ?_⟩
          simp only [List.set_cons_zero, List.set_cons_succ, putF_some, setF_0, setF_s]
          refine OwD.soft 2 _ hD rfl (by kernel_rfl) (fun E hE => ?_)
          have hEN : New w.heap.size E := newE hE
          refine Ow.callC rfl rfl Tryz.call41 (fun w' hw' => CloneRef_spec vt t w' (ht.oldN hw' ((hN0.app (show New w.heap.size [(b7, Obj.cells (refC r).toArray 48 (0, 0))] from ⟨hw7, trivial⟩)).app hEN)) (by omega)) (fun B1 v1 D1 hA1 hB1 hN1 hS1 => ?_)
          have hM1 : New (b9 + 1) D1 := hN1.mono (above_to hA1 (by simp [keys_app, hk9]))
          with_reducible refine Ow.nil ?_
          refine ⟨_, perm_mid, readB_appR (fun r hr => by simp [keys_app, hRL r hr]), ?_⟩
          simp only [List.set_cons_zero, List.set_cons_succ, putF_some, setF_0, setF_s]
          refine OwD.soft 5 _ hD rfl (by kernel_rfl) (fun E hE => ?_)
          have hEN : New w.heap.size E := newE hE
          refine Ow.callC rfl rfl Tryz.call41 (fun w' hw' => CloneRef_spec vl l w' (hl.oldN hw' (((hN0.app (show New w.heap.size [(b7, Obj.cells (refC r).toArray 48 (0, 0))] from ⟨hw7, trivial⟩)).app (hN1.mono hB1)).app hEN)) (by omega)) (fun B2 v2 D2 hA2 hB2 hN2 hS2 => ?_)
          have hM2 : New (b9 + 1) D2 := hN2.mono (above_to hA2 (by simp [keys_app, hk9]))
          with_reducible refine Ow.nil ?_
          refine ⟨_, perm_mid, readB_appR (fun r hr => by simp [keys_app, hRL r hr]), ?_⟩
          simp only [List.set_cons_zero, List.set_cons_succ, putF_some, setF_0, setF_s]
          exact key ⟨D1, D2, v1, v2, b7⟩ _ _ ⟨hM1, hM2, hM7, hS1, hS2⟩ rfl (by classical exact List.perm_iff_count.2 fun a => by simp only [List.count_append, List.count_cons, List.count_nil] <;> omega)
      · obtain ⟨D1, D2, v1, v2, b7⟩ := g
        obtain ⟨hn1, hn2, hb7, hg1, hg2⟩ := hg
        simp only at hn1 hn2 hb7 hg1 hg2 ⊢
        refine OwD.soft 8 _ hD rfl (by kernel_rfl) (fun E hE => ?_)
        have hEN := newE hE
        refine Ow.permL (M := D2 ++ (L0 ++ D1 ++ [(b7, Obj.cells (refC r).toArray 48 (0, 0))] ++ E)) (by classical exact List.perm_iff_count.2 fun a => by simp only [List.count_append, List.count_cons, List.count_nil] <;> omega) ?_
        refine Ow.appendX (e := 48) (k := 1) (new := refC r) (X := D2) v2 rfl rfl rfl rfl Tryz.underlying22 Tryz.ag48 (by kernel_rfl) zrRef (by rw [cells_ref, List.size_toArray, refC_len]) Tryz.underlying22 (by intro k h; cases h) hg2 (fun w' hw' => AppX.one1 (hw'.has b7 (.cells (refC r).toArray 48 (0, 0)) (by simp)) (refC_len r) (refC_one r)) (by omega) (by omega) (fun B v3 D3 hA3 hB3 hbuf hk1 hk2 hlk => ?_)
        have hB9 : b9 < B := above_to hA3 (by simp [keys_app, hk9])
        have hn3 : New (b9 + 1) D3 := New.of_le fun c hc => by
          rcases hk2 c hc with h | h
          · exact hn2.le c h
          · omega
        have hRD : ∀ r, r ∈ [bx, b9] → r ∉ keys D3 := fun r hr hm => by have := hn3.le r hm; have := hle r (hRL r hr); omega
        with_reducible refine Ow.nil ?_
        refine ⟨D3 ++ (L0 ++ D1 ++ [(b7, Obj.cells (refC r).toArray 48 (0, 0))]), (by classical exact List.perm_iff_count.2 fun a => by simp only [List.count_append, List.count_cons, List.count_nil] <;> omega), fun r hr => ?_, ?_⟩
        · have h0 := hRL r hr
          rw [readB_appr (hRD r hr), readB_app (by simp [keys_app, h0]), readB_app h0, readB_app (by simp [keys_app, h0]), readB_app (by simp [keys_app, h0]), readB_app h0]
        simp only [List.set_cons_zero, List.set_cons_succ, putF_some, setF_0, setF_s]
        refine OwD.soft 9 _ hD rfl (by kernel_rfl) (fun E2 hE2 => ?_)
        refine Ow.build (.agg #[v1, v3]) rfl (build_bk v1 v3 hg1.cell.2 hbuf.cell.2) ?_
        with_reducible refine Ow.nil ?_
        refine ⟨D3 ++ (L0 ++ D1 ++ [(b7, Obj.cells (refC r).toArray 48 (0, 0))]), List.Perm.refl _, fun _ _ => rfl, ?_⟩
        simp only [List.set_cons_zero, List.set_cons_succ, putF_some, setF_0, setF_s]
        refine OwD.real [11] rfl hD (by kernel_rfl) (by kernel_rfl) (by kernel_rfl) (by kernel_rfl) (fun r hr => .inl (by simp [keys_app, hRL r hr])) ?_
        simp only [nl_cons, ↓pickL_nil, ↓pickL_cons, ↓nthO_0, ↓nthO_s, consO_some]
        intro b10 hw10 hbL
        simp only [setF_0, setF_s]
        refine Ow.store rfl rfl rfl (L' := (D3 ++ (L0 ++ D1 ++ [(b7, Obj.cells (refC r).toArray 48 (0, 0))])) ++ [(b10, Obj.cells #[v1, v3] 24 (0, 0))]) ?_ ?_
        · simp only [ev_tmp, getF_0, getF_s]
          rw [Tryz.ag24, storeAt_p, look_app_r' hbL, cells_agg, store_bk _ _ _ _ _ hg1.cell.1 hbuf.cell.1, upd_some, setB_app_r hbL]
          exact []
        subst hL0
        refine Ow.goQ ?_
        simp (disch := (first | assumption | omega | (simp only [lenS, lenT, UInt64.reduceToNat]; try omega))) only [↓Sx.S0, Sx.S1, Tryz.fx, uWQ_1, Nat.reduceAdd, Nat.reducePow, Int.reducePow, Nat.reduceBEq, ↓reduceIte, UInt8.reduceToNat, UInt16.reduceToNat, UInt32.reduceToNat, UInt64.reduceToNat, Int.reduceToNat]
        refine Cw.permL (M := [(bx, Obj.cells #[vt, vl] 24 (0, 0)), (bi, Obj.cells (a8 id.l) 34 (0, 0)), (br, Obj.cells #[Value.slice none 0 0, Value.slice none 0 0] 24 (0, 0)), (b9, Obj.cells (refC r).toArray 48 (0, 0)), (b10, Obj.cells #[v1, v3] 24 (0, 0)), (b7, Obj.cells (refC r).toArray 48 (0, 0))] ++ (D1 ++ D3)) (by classical exact List.perm_iff_count.2 fun a => by simp only [List.count_append, List.count_cons, List.count_nil] <;> omega) ?_
        simp only [List.cons_append, List.nil_append]
        have hn7 : w.heap.size ≤ b7 := by omega
        have hn1' := hn1.mono (show w.heap.size ≤ b9 + 1 by omega)
        have hn3' := hn3.mono (show w.heap.size ≤ b9 + 1 by omega)
        have hnD := hn1'.app hn3'
        have hb10k : bx ≠ b10 ∧ bi ≠ b10 ∧ br ≠ b10 ∧ b9 ≠ b10 := by
          simp only [keys_app, List.mem_append, not_or] at hbL
          obtain ⟨-, ⟨h0, -⟩, -⟩ := hbL
          simp only [keys, List.map_cons, List.map_nil, List.mem_cons, List.not_mem_nil, or_false, not_or] at h0
          obtain ⟨h1, h2, h3, h4⟩ := h0
          exact ⟨Ne.symm h1, Ne.symm h2, Ne.symm h3, Ne.symm h4⟩
        obtain ⟨hx10, hi10, hr10, h910⟩ := hb10k
        have hfl : (l.map refC).flatten ++ refC r = ((l ++ [r]).map refC).flatten := by simp
        rw [hfl] at hbuf
        have hgr3 : Gr D3 48 33 v3 (l.length + 1) ((l ++ [r]).map refC).flatten := .inl hbuf
        have hrn : r.name.length < 1000000 := by rw [← hR]; exact hnm
        have hsh : ShortN (l ++ [r]) := by
          intro g hg
          by_cases hlt : g < l.length
          · have := hnl g hlt
            rwa [List.getD_eq_getElem?_getD, List.getElem?_append_left hlt, ← List.getD_eq_getElem?_getD]
          · have : g = l.length := by simp at hg; omega
            subst this
            rw [List.getD_eq_getElem?_getD, List.getElem?_append_right (Nat.le_refl _)]
            simp; omega
        ((try with_reducible refine Cw.go [] ?_); (try simp (disch := (first | assumption | omega | (simp only [lenS, lenT, UInt64.reduceToNat]; try omega))) only [↓Sx.S0, Sx.S1, Tryz.fx, uWQ_1, Nat.reduceAdd, Nat.reducePow, Int.reducePow, Nat.reduceBEq, ↓reduceIte, UInt8.reduceToNat, UInt16.reduceToNat, UInt32.reduceToNat, UInt64.reduceToNat, Int.reduceToNat, load_bk]))
        refine Ow.callFV rfl Tryz.call8 (fun w' hw' => Right_spec v1 v3 t (l ++ [r]) w' (hg1.slM (fun b o hm => hw'.has b o (by simp [hm])) rfl rfl refC_len) (hgr3.slM (fun b o hm => hw'.has b o (by simp [hm])) (by simp) rfl refC_len) (by omega) (by simp; omega) hnt hsh) ?_
        cases hr2 : rightB t (l ++ [r])
        · refine Ow.go rfl ?_
          simp (disch := (first | assumption | omega | (simp only [lenS, lenT, UInt64.reduceToNat]; try omega))) only [↓Sx.S0, Sx.S1, Tryz.fx, uWQ_1, Nat.reduceAdd, Nat.reducePow, Int.reducePow, Nat.reduceBEq, ↓reduceIte, UInt8.reduceToNat, UInt16.reduceToNat, UInt32.reduceToNat, UInt64.reduceToNat, Int.reduceToNat]
          ((try with_reducible refine Cw.go [] ?_); (try simp (disch := (first | assumption | omega | (simp only [lenS, lenT, UInt64.reduceToNat]; try omega))) only [↓Sx.S0, Sx.S1, Tryz.fx, uWQ_1, Nat.reduceAdd, Nat.reducePow, Int.reducePow, Nat.reduceBEq, ↓reduceIte, UInt8.reduceToNat, UInt16.reduceToNat, UInt32.reduceToNat, UInt64.reduceToNat, Int.reduceToNat]))
          refine Ow.build (.agg #[.slice none 0 0, .slice none 0 0]) rfl (by kernel_rfl) ?_
          refine Ow.go rfl ?_
          simp (disch := (first | assumption | omega | (simp only [lenS, lenT, UInt64.reduceToNat]; try omega))) only [↓Sx.S0, Sx.S1, Tryz.fx, uWQ_1, Nat.reduceAdd, Nat.reducePow, Int.reducePow, Nat.reduceBEq, ↓reduceIte, UInt8.reduceToNat, UInt16.reduceToNat, UInt32.reduceToNat, UInt64.reduceToNat, Int.reduceToNat]
          ((try with_reducible refine Cw.go [] ?_); (try simp (disch := (first | assumption | omega | (simp only [lenS, lenT, UInt64.reduceToNat]; try omega))) only [↓Sx.S0, Sx.S1, Tryz.fx, uWQ_1, Nat.reduceAdd, Nat.reducePow, Int.reducePow, Nat.reduceBEq, ↓reduceIte, UInt8.reduceToNat, UInt16.reduceToNat, UInt32.reduceToNat, UInt64.reduceToNat, Int.reduceToNat]))
          refine ⟨_, (by simp (disch := (first | assumption | omega | (simp only [lenS, lenT, UInt64.reduceToNat]; try omega))) only [↓Sx.S0, Sx.S1, Tryz.fx, uWQ_1, Nat.reduceAdd, Nat.reducePow, Int.reducePow, Nat.reduceBEq, ↓reduceIte, UInt8.reduceToNat, UInt16.reduceToNat, UInt32.reduceToNat, UInt64.reduceToNat, Int.reduceToNat]; rfl), ?_⟩
          refine ⟨Ext.of_new ⟨hwx, hwi, hwr, hw9, hw10, hn7, hnD⟩, ?_⟩
          exact AddS.full ⟨hr, hn⟩ (by rw [hR]; exact hr2)
        · refine Ow.go rfl ?_
          simp (disch := (first | assumption | omega | (simp only [lenS, lenT, UInt64.reduceToNat]; try omega))) only [↓Sx.S0, Sx.S1, Tryz.fx, uWQ_1, Nat.reduceAdd, Nat.reducePow, Int.reducePow, Nat.reduceBEq, ↓reduceIte, UInt8.reduceToNat, UInt16.reduceToNat, UInt32.reduceToNat, UInt64.reduceToNat, Int.reduceToNat]
          ((try with_reducible refine Cw.go [] ?_); (try simp (disch := (first | assumption | omega | (simp only [lenS, lenT, UInt64.reduceToNat]; try omega))) only [↓Sx.S0, Sx.S1, Tryz.fx, uWQ_1, Nat.reduceAdd, Nat.reducePow, Int.reducePow, Nat.reduceBEq, ↓reduceIte, UInt8.reduceToNat, UInt16.reduceToNat, UInt32.reduceToNat, UInt64.reduceToNat, Int.reduceToNat]))
          refine Cw.regionO [0, 1, 2, 3, 4, 5] [3] rfl (by kernel_rfl) (by kernel_rfl) ?_
          simp only [nl_cons, ↓pickL_nil, ↓pickL_cons, ↓nthO_0, ↓nthO_s, consO_some]
          refine Ow.goQ ?_
          simp (disch := (first | assumption | omega | (simp only [lenS, lenT, UInt64.reduceToNat]; try omega))) only [↓Sx.S0, Sx.S1, Tryz.fx, uWQ_1, Nat.reduceAdd, Nat.reducePow, Int.reducePow, Nat.reduceBEq, ↓reduceIte, UInt8.reduceToNat, UInt16.reduceToNat, UInt32.reduceToNat, UInt64.reduceToNat, Int.reduceToNat, load_bk]
          refine Ow.callFV rfl Tryz.call26 (fun w' hw' => (entryRecord_spec r w' (GlobC.of hG hw' (New.not (L := (bx, Obj.cells #[vt, vl] 24 (0, 0)) :: (bi, Obj.cells (a8 id.l) 34 (0, 0)) :: (br, Obj.cells #[Value.slice none 0 0, Value.slice none 0 0] 24 (0, 0)) :: (b9, Obj.cells (refC r).toArray 48 (0, 0)) :: (b10, Obj.cells #[v1, v3] 24 (0, 0)) :: (b7, Obj.cells (refC r).toArray 48 (0, 0)) :: (D1 ++ D3)) ⟨hwx, hwi, hwr, hw9, hw10, hn7, hnD⟩ hglt)) hrn).quiet) ?_
          have hst := store_bk (.slice none 0 0) (.slice none 0 0) v1 v3 24 hg1.cell.1 hbuf.cell.1
          refine Ow.store rfl rfl rfl (by simp (disch := (first | assumption | omega | (simp only [lenS, lenT, UInt64.reduceToNat]; try omega))) only [↓Sx.S0, Sx.S1, Tryz.fx, uWQ_1, Nat.reduceAdd, Nat.reducePow, Int.reducePow, Nat.reduceBEq, ↓reduceIte, UInt8.reduceToNat, UInt16.reduceToNat, UInt32.reduceToNat, UInt64.reduceToNat, Int.reduceToNat, hst]; rfl) ?_
          refine Ow.goQ ?_
          simp (disch := (first | assumption | omega | (simp only [lenS, lenT, UInt64.reduceToNat]; try omega))) only [↓Sx.S0, Sx.S1, Tryz.fx, uWQ_1, Nat.reduceAdd, Nat.reducePow, Int.reducePow, Nat.reduceBEq, ↓reduceIte, UInt8.reduceToNat, UInt16.reduceToNat, UInt32.reduceToNat, UInt64.reduceToNat, Int.reduceToNat]
          try with_reducible refine Ow.nil ?_
          ((try with_reducible refine Cw.go [] ?_); (try simp (disch := (first | assumption | omega | (simp only [lenS, lenT, UInt64.reduceToNat]; try omega))) only [↓Sx.S0, Sx.S1, Tryz.fx, uWQ_1, Nat.reduceAdd, Nat.reducePow, Int.reducePow, Nat.reduceBEq, ↓reduceIte, UInt8.reduceToNat, UInt16.reduceToNat, UInt32.reduceToNat, UInt64.reduceToNat, Int.reduceToNat]))
          refine ⟨_, (by simp (disch := (first | assumption | omega | (simp only [lenS, lenT, UInt64.reduceToNat]; try omega))) only [↓Sx.S0, Sx.S1, Tryz.fx, uWQ_1, Nat.reduceAdd, Nat.reducePow, Int.reducePow, Nat.reduceBEq, ↓reduceIte, UInt8.reduceToNat, UInt16.reduceToNat, UInt32.reduceToNat, UInt64.reduceToNat, Int.reduceToNat]; rfl), ?_⟩
          refine ⟨Ext.of_new ⟨hwx, hwi, hwr, hw9, hw10, hn7, hnD⟩, ?_⟩
          have hfin := AddS.ok (n := w.heap.size) (D := (bx, Obj.cells #[vt, vl] 24 (0, 0)) :: (bi, Obj.cells (a8 id.l) 34 (0, 0)) :: (br, Obj.cells #[v1, v3] 24 (0, 0)) :: (b9, Obj.cells (refC r).toArray 48 (0, 0)) :: (b10, Obj.cells #[v1, v3] 24 (0, 0)) :: (b7, Obj.cells (refC r).toArray 48 (0, 0)) :: (D1 ++ D3)) ⟨hr, hn⟩ (by rw [hR]; exact hr2) (hg1.i fun p hp => by simp [hp]) (by rw [hR]; exact hgr3.i fun p hp => by simp [hp])
          rw [hR] at hfin
          exact hfin
end Go.Proofs
end
namespace Go.StP
open Go Go.Sx
variable {α : Type} (key : α → List UInt8)
/-- Is one to stand ahead of the other one? -/
def lt (a b : α) : Bool := ltB (key a) (key b)
def Sorted (l : List α) : Prop := l.Pairwise fun a b => lt key b a = false
/-- What bears a key, in order. -/
def of (k : List UInt8) (l : List α) : List α := l.filter fun a => key a == k
/-- The same, for every key. -/
def St (l l' : List α) : Prop := ∀ k, of key k l' = of key k l
theorem St.refl (l : List α) : St key l l := fun _ => rfl
variable {key}
theorem St.trans {a b c : List α} (h : St key a b) (h' : St key b c) : St key a c := fun k => (h' k).trans (h k)
theorem St.symm {a b : List α} (h : St key a b) : St key b a := fun k => (h k).symm
theorem of_app (k : List UInt8) (a b : List α) : of key k (a ++ b) = of key k a ++ of key k b := List.filter_append ..
theorem St.app {a a' b b' : List α} (h : St key a a') (h' : St key b b') : St key (a ++ b) (a' ++ b') := fun k => by rw [of_app, of_app, h, h']
theorem mem_of {k : List UInt8} {l : List α} {x : α} : x ∈ of key k l ↔ x ∈ l ∧ key x = k := by
  unfold of; rw [List.mem_filter]; simp
theorem St.mem {a b : List α} (h : St key a b) (x : α) : x ∈ b ↔ x ∈ a := by
  have e := h (key x)
  have h1 : x ∈ b ↔ x ∈ of key (key x) b := by rw [mem_of]; simp
  have h2 : x ∈ a ↔ x ∈ of key (key x) a := by rw [mem_of]; simp
  rw [h1, h2, e]
theorem of_none {k : List UInt8} {l : List α} (h : ∀ x, x ∈ l → key x ≠ k) : of key k l = [] := by
  unfold of
  rw [List.filter_eq_nil_iff]
  intro x hx
  simpa using h x hx
/-- Two lists that share no key may change places. -/
theorem St.swap {a b : List α} (h : ∀ x, x ∈ a → ∀ y, y ∈ b → key x ≠ key y) : St key (a ++ b) (b ++ a) := by
  intro k
  rw [of_app, of_app]
  by_cases ha : ∃ x, x ∈ a ∧ key x = k
  · obtain ⟨x, hx, rfl⟩ := ha
    have : of key (key x) b = [] := of_none fun y hy e => h x hx y hy e.symm
    rw [this, List.append_nil, List.nil_append]
  · have : of key k a = [] := of_none fun x hx e => ha ⟨x, hx, e⟩
    rw [this, List.append_nil, List.nil_append]
theorem lt_trans {a b c : α} (h : lt key a b = true) (k : lt key b c = true) : lt key a c = true := ltB_trans h k
theorem lt_irrefl (a : α) : lt key a a = false := ltB_irrefl _
theorem eq_of {a b : α} (h : lt key a b = false) (k : lt key b a = false) : key a = key b := by
  cases hk : decide (key a = key b)
  · have hne : key a ≠ key b := of_decide_eq_false hk
    have := ltB_total h hne
    unfold lt at k
    rw [this] at k; cases k
  · exact of_decide_eq_true hk
theorem St.head {a b : α} {l l' : List α} (hs : Sorted key (a :: l)) (hs' : Sorted key (b :: l')) (h : St key (a :: l) (b :: l')) : a = b ∧ St key l l' := by
  have h1 : lt key b a = false := by
    have hb : b ∈ a :: l := (h.mem b).1 List.mem_cons_self
    rcases List.mem_cons.1 hb with rfl | hb
    · exact lt_irrefl _
    · exact (List.pairwise_cons.1 hs).1 b hb
  have h2 : lt key a b = false := by
    have ha : a ∈ b :: l' := (h.mem a).2 List.mem_cons_self
    rcases List.mem_cons.1 ha with rfl | ha
    · exact lt_irrefl _
    · exact (List.pairwise_cons.1 hs').1 a ha
  have hk : key a = key b := eq_of h2 h1
  have he := h (key a)
  unfold of at he
  rw [List.filter_cons, List.filter_cons, if_pos (by simp [hk]), if_pos (by simp)] at he
  have hab : b = a := (List.cons.inj he).1
  refine ⟨hab.symm, fun k => ?_⟩
  have hk' := h k
  subst hab
  unfold of at hk' ⊢
  rw [List.filter_cons, List.filter_cons] at hk'
  split at hk'
  · exact (List.cons.inj hk').2
  · exact hk'
/-- There is one such list. -/
theorem St.eq : ∀ {l l' : List α}, Sorted key l → Sorted key l' → St key l l' → l = l'
  | [], [], _, _, _ => rfl
  | [], b :: l', _, _, h => by
    have : b ∈ ([] : List α) := (h.mem b).1 List.mem_cons_self
    cases this
  | a :: l, [], _, _, h => by
    have : a ∈ ([] : List α) := (h.mem a).2 List.mem_cons_self
    cases this
  | a :: l, b :: l', hs, hs', h => by
    obtain ⟨rfl, h'⟩ := St.head hs hs' h
    rw [St.eq (List.pairwise_cons.1 hs).2 (List.pairwise_cons.1 hs').2 h']
theorem Sorted.app {a b : List α} (ha : Sorted key a) (hb : Sorted key b) (h : ∀ x, x ∈ a → ∀ y, y ∈ b → lt key y x = false) : Sorted key (a ++ b) :=
  List.pairwise_append.2 ⟨ha, hb, h⟩
theorem Sorted.left {a b : List α} (h : Sorted key (a ++ b)) : Sorted key a := (List.pairwise_append.1 h).1
theorem Sorted.right {a b : List α} (h : Sorted key (a ++ b)) : Sorted key b := (List.pairwise_append.1 h).2.1
end Go.StP
namespace Go.Sx
open Go
section
variable {α : Type} (enc : α → List Value)
/-- A block of elements. -/
def rowO (E : TypeId) (rest : List Value) (d : List α) : Obj := .cells ((d.map enc).flatten ++ rest).toArray E (0, 0)
variable {enc} {m : Nat} {E : TypeId} {rest : List Value} {d : List α} {z : α}
theorem row_split (hm : ∀ x, (enc x).length = m) {k : Nat} (hk : k < d.length) : ∃ A C, (d.map enc).flatten ++ rest = A ++ (enc (d.getD k z) ++ C) ∧ A.length = k * m ∧ ∀ x, ((d.set k x).map enc).flatten ++ rest = A ++ (enc x ++ C) := by
  refine ⟨((d.take k).map enc).flatten, ((d.drop (k + 1)).map enc).flatten ++ rest, ?_, ?_, fun x => ?_⟩
  · have e : d = d.take k ++ d.getD k z :: d.drop (k + 1) := by
      rw [List.getD_eq_getElem?_getD, List.getElem?_eq_getElem hk, Option.getD_some, List.getElem_cons_drop, List.take_append_drop]
    have e2 := congrArg (fun l => (l.map enc).flatten ++ rest) e
    simp only [List.map_append, List.map_cons, List.flatten_append, List.flatten_cons, List.append_assoc] at e2
    exact e2
  · rw [flat_len hm, List.length_take, Nat.min_eq_left (Nat.le_of_lt hk)]
  · have e : d.set k x = d.take k ++ x :: d.drop (k + 1) := List.set_eq_take_append_cons_drop.trans (by rw [if_pos hk])
    rw [e]
    simp only [List.map_append, List.map_cons, List.flatten_append, List.flatten_cons, List.append_assoc]
theorem load_row (hm : ∀ x, (enc x).length = m) (k : Nat) (hk : k < d.length) : loadV (some (true, m)) (some (rowO enc E rest d)) (k * m) = some (.agg (enc (d.getD k z)).toArray) := by
  obtain ⟨A, C, e, hA, -⟩ := row_split (z := z) (rest := rest) hm hk
  unfold rowO
  rw [e]
  exact load_agg A _ C E (0, 0) hA (hm _)
theorem store_row (hm : ∀ x, (enc x).length = m) (h1 : ∀ x, (enc x).all Value.oneCell' = true) (k : Nat) (x : α) (a : Bool) (hk : k < d.length) :
    storeV (some (a, m)) (some (rowO enc E rest d)) (k * m) (.agg (enc x).toArray) = some (rowO enc E rest (d.set k x)) := by
  obtain ⟨A, C, e, hA, e2⟩ := row_split (z := x) (rest := rest) hm hk
  unfold rowO
  rw [e, e2 x]
  exact store_mid A _ _ C a _ E hA (hm _) (cells_agg _) (hm _) (h1 _)
end
section
variable {P : Program} {w0 : World} {f : Fr} {L : Heap} {N : Fr → Heap → Prop} {ops : Array Oper} {rest : List Oper} {md : Md} {d : Option Tmp} {ty : TypeId} {ps : String} {af : Array Edge} {g : Option (Nat × Bool)}
end
end Go.Sx
namespace Go.StP
open Go Go.Sx
variable {α : Type} {key : α → List UInt8} {z : α}
/-! ### Places -/
theorem mem_getD {l : List α} {x : α} (h : x ∈ l) : ∃ k, k < l.length ∧ l.getD k z = x := by
  obtain ⟨k, hk, rfl⟩ := List.mem_iff_getElem.1 h
  exact ⟨k, hk, by rw [List.getD_eq_getElem?_getD, List.getElem?_eq_getElem hk]; rfl⟩
theorem getD_take {l : List α} {k n : Nat} (h : k < n) : (l.take n).getD k z = l.getD k z := by
  rw [List.getD_eq_getElem?_getD, List.getD_eq_getElem?_getD, List.getElem?_take, if_pos h]
theorem getD_drop {l : List α} {k n : Nat} : (l.drop n).getD k z = l.getD (n + k) z := by
  rw [List.getD_eq_getElem?_getD, List.getD_eq_getElem?_getD, List.getElem?_drop]
theorem drop_cons {l : List α} {k : Nat} (h : k < l.length) : l.drop k = l.getD k z :: l.drop (k + 1) := by
  rw [List.getD_eq_getElem?_getD, List.getElem?_eq_getElem h]
  exact List.drop_eq_getElem_cons h
theorem take_snoc {l : List α} {k : Nat} (h : k < l.length) : l.take (k + 1) = l.take k ++ [l.getD k z] := by
  rw [List.getD_eq_getElem?_getD, List.getElem?_eq_getElem h]
  exact List.take_succ_eq_append_getElem h
theorem Sorted.at_ {l : List α} (h : Sorted key l) {i j : Nat} (hij : i ≤ j) (hj : j < l.length) : lt key (l.getD j z) (l.getD i z) = false := by
  rcases Nat.lt_or_eq_of_le hij with h1 | rfl
  · have := List.pairwise_iff_getElem.1 h i j (by omega) hj h1
    rw [List.getD_eq_getElem?_getD, List.getD_eq_getElem?_getD, List.getElem?_eq_getElem hj, List.getElem?_eq_getElem (show i < l.length by omega)]
    exact this
  · exact lt_irrefl _
/-! ### Two that stand side by side change places -/
/-- x stands in s, behind the first k of it. -/
def slide (a s : List α) (x : α) (b : List α) (k : Nat) : List α := a ++ (s.take k ++ (x :: (s.drop k ++ b)))
end Go.StP
namespace Go.Sx
open Go
/-- Every function may be called; a round's frame, or none. -/
def wideR (r : Option Nat) : Fence := { Fence.wide with round := r }
def noDefer : Op → Bool
  | .defer _ => false
  | _ => true
section
variable {P : Program} {w0 : World} {f : Fr} {L : Heap} {K : Kont} {N : Fr → Heap → Prop} {ops : Array Oper} {rest : List Oper} {r : Option Nat} {n : Nat}
theorem calls_wideR {k : FuncId} {args : Array Value} {w : World} {R : Ending → World → Prop} (h : Calls P k args w R) : CallsIn (wideR r) n P k args w R :=
  (callsIn_wide.2 h : CallsIn Fence.wide n P k args w R)
theorem rows_wideR {row : String} {args : Array Value} {w : World} {R : Value → World → Prop} (h : Rows P row args w R) : RowsIn (wideR r) n P row args w R :=
  (fun c cs _ => let ⟨v, w', hr, s⟩ := h c cs; ⟨v, w', hr, stepsIn_wide.2 s⟩ : RowsIn Fence.wide n P row args w R)
theorem oper_in {o : Oper} {a : Act} {w : World} {next : Act → World → Prop} {Q : Exit → Act → World → Prop} (hd : noDefer o.op = true) (h : o.wp P a w next Q) : o.wpIn (wideR r) n P a w next Q := by
  refine ⟨fun _ _ => trivial, ?_⟩
  rw [Oper.semAt_eq _ _ _ (fun c e => by rw [e] at hd; cases hd)]
  unfold Oper.wp at h
  generalize (execOp a.eval o).run P w = x at h
  match x, h with
  | .ok (.value v) _, h => exact h
  | .ok .skip _, h => exact h
  | .ok (.defer e) _, h => exact h
  | .ok (.enter k args) w', h =>
    have h' : Calls P k args w' _ := h
    exact ⟨fun (e : false = true) => (by cases e), calls_wideR h'⟩
  | .ok (.row row args) w', h =>
    have h' : Rows P row args w' _ := h
    exact ⟨fun (e : false = true) => (by cases e), rows_wideR h'⟩
  | .halt (.panic u) _, h => exact h
theorem list_in {Q : Exit → Act → World → Prop} {l2 : List Oper} : ∀ (l1 : List Oper) (a : Act) (w : World), (l1.all fun o => noDefer o.op) = true →
    wpList P ops (fun e a w => e = .normal ∧ wpListIn (wideR r) n P ops Q l2 a w) l1 a w → wpListIn (wideR r) n P ops Q (l1 ++ l2) a w
  | [], _, _, _, h => h.2
  | o :: l1, a, w, hd, h => by
    rw [List.cons_append]
    unfold wpList at h
    unfold wpListIn
    rw [List.all_cons, Bool.and_eq_true] at hd
    split at h
    · rename_i hw
      rw [if_pos hw]
      rcases h with h | ⟨-, hl⟩
      · exact oper_in hd.1 (upon_mono (fun a w hx => list_in l1 a w hd.2 hx) (fun e a w hne hq => hne hq.1) h)
      · obtain ⟨_, _, he, -⟩ := hl
        cases he
    · rename_i hw
      rw [if_neg hw]
      exact ⟨fun _ _ => trivial, list_in l1 _ _ hd.2 h⟩
/-- Operations of a region, in a round or not, where yield may be called. -/
def OwI (r : Option Nat) (P : Program) (w0 : World) (ops : Array Oper) (l : List Oper) (f : Fr) (L : Heap) (N : Fr → Heap → Prop) : Prop :=
  ∀ w, Hp w0 L w → wpListIn (wideR r) 0 P ops (postN w0 N) l (act f) w
theorem OwI.nil (h : N f L) : OwI r P w0 ops [] f L N := fun _ hw => ⟨rfl, rfl, L, hw, by simpa [act] using h⟩
theorem OwI.pre {l1 l2 : List Oper} (hd : (l1.all fun o => noDefer o.op) = true) (h : Ow P w0 ops .seq l1 f L (fun f' L' => OwI r P w0 ops l2 f' L' N)) : OwI r P w0 ops (l1 ++ l2) f L N := by
  intro w hw
  refine list_in l1 _ _ hd ?_
  have h1 := h w hw
  have mono : ∀ (l : List Oper) (a : Act) (w : World), wpList P ops (postN w0 (fun f' L' => OwI r P w0 ops l2 f' L' N)) l a w → wpList P ops (fun e a w => e = .normal ∧ wpListIn (wideR r) 0 P ops (postN w0 N) l2 a w) l a w := by
    intro l
    induction l with
    | nil =>
      rintro a w ⟨-, hd', L', hp, hO⟩
      refine ⟨rfl, ?_⟩
      have := hO w hp
      rwa [← act_of hd'] at this
    | cons o l ih =>
      intro a w h
      unfold wpList at h ⊢
      split at h
      · rename_i hw
        rw [if_pos hw]
        rcases h with h | ⟨-, hl⟩
        · exact .inl (upon_mono ih (fun e a w hne hq => hne hq.1) h)
        · obtain ⟨_, _, he, -⟩ := hl
          cases he
      · rename_i hw
        rw [if_neg hw]
        exact ih _ _ h
  exact mono l1 _ _ h1
theorem Ow.mono_seq {l : List Oper} {N' : Fr → Heap → Prop} (h : Ow P w0 ops .seq l f L N) (hN : ∀ f L, N f L → N' f L) : Ow P w0 ops .seq l f L N' := by
  intro w hw
  have h1 := h w hw
  clear h
  revert h1
  generalize act f = a
  clear hw
  induction l generalizing a w with
  | nil => rintro ⟨h1, h2, L', h3, h4⟩; exact ⟨h1, h2, L', h3, hN _ _ h4⟩
  | cons o l ih =>
    intro h
    unfold wpList at h ⊢
    split at h
    · rename_i hw
      rw [if_pos hw]
      rcases h with h | ⟨-, hl⟩
      · exact .inl (upon_mono (fun a w hx => ih w a hx) (fun e a w hne hq => hne hq.1) h)
      · obtain ⟨_, _, he, -⟩ := hl
        cases he
    · rename_i hw
      rw [if_neg hw]
      exact ih _ _ h
theorem OwI.all {l : List Oper} (hd : (l.all fun o => noDefer o.op) = true) (h : Ow P w0 ops .seq l f L N) : OwI r P w0 ops l f L N := by
  have := OwI.pre (r := r) (l2 := []) (N := N) hd (Ow.mono_seq h (fun f L hN => OwI.nil hN))
  simpa using this
/-- A code in a round's frame. -/
def CwR (r : Option Nat) (P : Program) (w0 : World) (c : Code) (f : Fr) (L : Heap) (K : Kont) : Prop := ∀ w, Hp w0 L w → c.wpIn (wideR r) 0 P (post w0 K) (act f) w
theorem CwR.region {id : Nat} {l : List Oper} (hd : (l.all fun o => noDefer o.op) = true) (h : Ow P w0 l.toArray .seq l f L (K .normal)) : CwR r P w0 (.region id l.toArray false) f L K :=
  fun w hw => wpIn_mono (wpIn_region_lit (OwI.all hd h w hw)) fun _ _ _ h => postN_post h
theorem CwR.block {id : Nat} {c : Code} (h : CwR r P w0 c f L (blockK id K)) : CwR r P w0 (.block id c) f L K := by
  intro w hw
  refine wpIn_block (wpIn_mono (h w hw) ?_)
  rintro e a w' ⟨hd, L', hp, k⟩
  cases e with
  | exit i =>
    simp only [Exit.inBlock]
    simp only [blockK] at k
    split
    · rename_i e; rw [if_pos e] at k; exact ⟨hd, L', hp, k⟩
    · rename_i e; rw [if_neg e] at k; exact ⟨hd, L', hp, k⟩
  | _ => exact ⟨hd, L', hp, k⟩
theorem Hp.put {w : World} (h : Hp w0 L w) {b : Nat} {o : Obj} (hb : b ∈ keys L) : Hp w0 (setB L b o) (w.putObj b o) := h.set hb rfl rfl rfl rfl
/-- What a round does, by its parts. -/
theorem YieldAt.of {l : Nat} {rc : Loop} {X : Heap} {args : Array Value} {w : World} {r0 : Option Nat} {S : Heap → Prop} (hX : Hp w X w) (hl : look X l = some (.loop rc)) (hr : rc.state = .ready) (hp : rc.pending = none) (hs : args.size = rc.params.size)
    (h : CwR (some l) P w rc.assign ((rc.params.zip args).foldl (fun tmps (p : Tmp × Value) => tmps.setIfInBounds p.1 p.2) rc.tmps).toList X (fun e f1 L1 => e = .normal ∧ look L1 l = some (.loop rc) ∧
      CwR (some l) P w rc.body f1 (setB L1 l (.loop { rc with state := .busy })) (fun e _ L2 => e = .normal ∧ look L2 l = some (.loop { rc with state := .busy }) ∧ S (setB L2 l (.loop rc))))) :
    YieldAt (wideR r0) 0 P l args w (fun e w' => ∃ D, e = .returned (.bool true) ∧ Hp w D w' ∧ S D) := by
  obtain ⟨st, pe, fn0, tm, pa, asg, bo, de⟩ := rc
  obtain rfl : st = .ready := hr
  obtain rfl : pe = none := hp
  have hl0 := hX.has _ _ (look_mem hl)
  refine ⟨fn0, _, asg, bo, run_yield hl0 hs, roundIn_of_wpIn (F := wideR r0) (n := 0) trivial ?_⟩
  have h1 := h w hX
  have ea : act ((pa.zip args).foldl (fun tmps (p : Tmp × Value) => tmps.setIfInBounds p.1 p.2) tm).toList = { tmps := (pa.zip args).foldl (fun tmps (p : Tmp × Value) => tmps.setIfInBounds p.1 p.2) tm, defers := [] } := by
    simp [act]
  simp only at h1
  rw [ea] at h1
  refine wpIn_mono h1 ?_
  rintro e a1 w1 ⟨hd1, L1, hp1, rfl, hl1, hbody⟩
  have hb1 := run_beginRound (P := P) (hp1.has _ _ (look_mem hl1)) rfl
  refine ⟨_, hb1, ?_⟩
  have h2 := hbody _ (hp1.put (o := .loop { state := .busy, pending := none, fn := fn0, tmps := tm, params := pa, assign := asg, body := bo, defers := de }) (key_of_look hl1))
  rw [← act_of hd1] at h2
  refine wpIn_mono h2 ?_
  rintro e a2 w2 ⟨hd2, L2, hp2, rfl, hl2, hS⟩
  have he := run_endRound (P := P) none (hp2.has _ _ (look_mem hl2))
  exact ⟨_, _, he, _, rfl, hp2.put (key_of_look hl2), hS⟩
/-! ### With a mark among the deferred calls -/
def postD (ds : List Deferred) (w0 : World) (K : Kont) (e : Exit) (a : Act) (w : World) : Prop := a.defers = ds ∧ ∃ L, Hp w0 L w ∧ K e a.tmps.toList L
def CwE (ds : List Deferred) (P : Program) (w0 : World) (c : Code) (f : Fr) (L : Heap) (K : Kont) : Prop := ∀ w, Hp w0 L w → c.wp P (postD ds w0 K) ⟨f.toArray, ds⟩ w
theorem CwE.seq {ds : List Deferred} {x y : Code} (h : CwE ds P w0 x f L (thenK (fun f L => CwE ds P w0 y f L K) K)) : CwE ds P w0 (.seq x y) f L K := by
  intro w hw
  refine wp_seq (wp_mono (h w hw) ?_)
  rintro e a w' ⟨hd, L', hp, k⟩
  cases e with
  | normal =>
    have := k w' hp
    have ea : a = ⟨a.tmps.toList.toArray, ds⟩ := by cases a; simp only at hd; subst hd; simp
    rw [ea]
    exact this
  | _ => exact ⟨hd, L', hp, k⟩
theorem CwE.ret {ds : List Deferred} (h : K .ret f L) : CwE ds P w0 .ret f L K := fun _ hw => wp_ret ⟨rfl, L, hw, by simpa using h⟩
/-- Values, one by one. -/
def evVs (P : Program) (w0 : World) (L : Heap) : List Oper → Fr → Option Fr
  | [], f => some f
  | o :: r, f => match o.guard, evalV P w0 L f o.op with
    | none, some v => evVs P w0 L r (putF f o.dst v)
    | _, _ => none
theorem evVs_sound {ds : List Deferred} {Q : Exit → Act → World → Prop} {w : World} (hw : Hp w0 L w) : ∀ (l : List Oper) (f f' : Fr), evVs P w0 L l f = some f' → Q .normal ⟨f'.toArray, ds⟩ w → wpList P ops Q l ⟨f.toArray, ds⟩ w
  | [], f, f', h, hQ => by cases h; exact hQ
  | o :: l, f, f', h, hQ => by
    unfold evVs at h
    split at h
    · rename_i v hg hv
      unfold wpList
      have hwn : Region.wanted o (yielded ops (⟨f.toArray, ds⟩ : Act).tmps) = true := by unfold Region.wanted; rw [hg]
      rw [if_pos hwn]
      refine .inl ?_
      unfold Oper.wp
      have he : (⟨f.toArray, ds⟩ : Act).eval = ev f := by
        have := act_eval' f
        funext x
        exact (congrFun this x)
      rw [he, run_evalV hw hv]
      have hp : (⟨f.toArray, ds⟩ : Act).put o.dst v = ⟨(putF f o.dst v).toArray, ds⟩ := by
        have := act_put f o.dst v
        cases hd : o.dst with
        | none => rfl
        | some d => simp only [Act.put, putF, setF_eq]
      show wpList P ops Q l ((⟨f.toArray, ds⟩ : Act).put o.dst v) w
      rw [hp]
      exact evVs_sound hw l _ f' h hQ
    · cases h
theorem CwE.region {ds : List Deferred} {id : Nat} {l : List Oper} {f' : Fr} (h : evVs P w0 L l f = some f') (hk : K .normal f' L) : CwE ds P w0 (.region id l.toArray false) f L K :=
  fun w hw => wp_region_lit (evVs_sound hw l f f' h ⟨rfl, L, hw, by simpa using hk⟩)
theorem Gr.at_ {L : Heap} {E : TypeId} {m n : Nat} {v : Value} {cs : List Value} (h : Gr L E m v n cs) {b : Nat} (hb : slB v = some b) : ∃ a, look L b = some (.cells a E (0, 0)) := by
  rcases h with h | ⟨rfl, rfl, c, rfl, hl⟩
  · rcases h.inv with ⟨rfl, -, -⟩ | ⟨c, cc, rest, rfl, hl, -⟩
    · cases hb
    · have : c = b := by simpa [slB, vsl] using hb
      subst this; exact ⟨_, hl⟩
  · have : c = b := by simpa [slB, vsl] using hb
    subst this; exact ⟨_, hl⟩
theorem Gr.ne {L : Heap} {E : TypeId} {m n : Nat} {v : Value} {cs : List Value} (h : Gr L E m v n cs) {b : Nat} {o : Obj} (hl : look L b = some o) (ho : ∀ a, o ≠ .cells a E (0, 0)) : slB v ≠ some b := fun e => by
  obtain ⟨a, ha⟩ := h.at_ e
  rw [hl] at ha
  exact ho a (Option.some.inj ha)
theorem Gr.setB {L : Heap} {E : TypeId} {m n : Nat} {v : Value} {cs : List Value} (h : Gr L E m v n cs) {b : Nat} (hb : slB v ≠ some b) (x : Obj) : Gr (setB L b x) E m v n cs :=
  h.keep fun c o hc ho => by rw [look_setB_ne (fun e : b = c => hb (by rw [e]; exact hc))]; exact ho
/-- The loop's record. -/
def recR (fn : FuncId) (f : Fr) (ps : Array Tmp) (assign body : Code) (dk : Nat) (st : LoopState) : Loop := { state := st, pending := none, fn, tmps := f.toArray, params := ps, assign, body, defers := dk }
/-- An iterator over some elements: whatever is done at each of them. -/
def SeqOk (P : Program) (gf : Nat) (lb : Array Value) {α : Type} (enc : α → Value) (xs : List α) (w : World) : Prop :=
  ∀ (l : Nat) (J : List α → Heap → Prop) (w1 : World) (X : Heap), (∀ b, b < w.heap.size → w1.heap[b]? = w.heap[b]?) → (∀ b, b ∈ keys X → w.heap.size ≤ b) → w.heap.size ≤ w1.heap.size → Hp w1 X w1 → J [] X → (∀ pre X Y, J pre X → J pre (X ++ Y)) →
    (∀ pre x post X2 w2, xs = pre ++ x :: post → Hp w2 X2 w2 → (∀ b, b ∈ keys X2 → w.heap.size ≤ b) → J pre X2 → YieldAt (wideR none) 0 P l #[enc x] w2 (fun e w3 => ∃ D, e = .returned (.bool true) ∧ Hp w2 D w3 ∧ Ext w2 X2 D ∧ J (pre ++ [x]) D)) →
    Rets P gf (#[.func (.yield l) #[] #[]] ++ lb) w1 (XS w1 X (fun _ D => J xs D))
end
end Go.Sx
namespace Go.Sx
open Go
section
variable {α : Type} {m : Nat} {enc : α → List Value} {z : α} {w : World} {v : Value} {l : List α}
/-- The last ones. -/
theorem SlV.dropE (h : SlV m enc z w v l) {k : Nat} (hk : k ≤ l.length) (a : Bool) : ∃ v', sliceV (.sl (a, m)) v (some (some (k : Int))) none = some v' ∧ SlV m enc z w v' (l.drop k) ∧ (∀ b, slB v' = some b → slB v = some b) := by
  obtain ⟨b, off, c, arr, E, fz, hr, hc, hv⟩ := h
  have hl : (l.drop k).length = l.length - k := by simp
  rcases hv with ⟨rfl, rfl, rfl⟩ | ⟨rfl, hhas, hsz⟩
  · obtain rfl : k = 0 := by simpa using hk
    exact ⟨.slice none 0 0, rfl, SlV.nil w, fun b hb => hb⟩
  · have hsl : sliceV (.sl (a, m)) (vsl b off l.length c) (some (some (k : Int))) none = some (vsl b (if c = k then off else off + k * m) (l.length - k) (c - k)) := by
      unfold sliceV vsl
      simp only [bnd_lo _ _ _ (⟨by omega, by omega⟩ : (0 : Int) ≤ (k : Int) ∧ (k : Int) ≤ (l.length : Int)), Int.toNat_natCast]
      by_cases hck : c = k
      · simp [hck]
      · simp only [hck, ↓reduceIte, Option.map_some, add_spot]
    refine ⟨_, hsl, ?_, fun b' hb => hb⟩
    have hkm : k * m + (l.length - k) * m = l.length * m := by rw [← Nat.add_mul]; congr 1; omega
    by_cases hck : c = k
    · have h0 : l.length - k = 0 := by omega
      rw [if_pos hck]
      refine ⟨b, off, c - k, arr, E, fz, RowS.sl' hl.symm (fun h => by omega) (fun i hi => by omega), by omega, .inr ⟨by rw [hl], hhas, by rw [hl, h0]; omega⟩⟩
    · rw [if_neg hck]
      refine ⟨b, off + k * m, c - k, arr, E, fz, RowS.sl' hl.symm (fun h => hhas) ?_, by omega, .inr ⟨by rw [hl], hhas, by rw [hl]; omega⟩⟩
      intro i hi j hj
      rw [hl] at hi
      rw [List.getD_eq_getElem?_getD, List.getElem?_drop, ← List.getD_eq_getElem?_getD, ← hr.get (k + i) (by omega) j hj]
      congr 1
      rw [Nat.add_mul]; omega
end
section
variable {P : Program} {w0 : World} {f : Fr} {L : Heap} {N : Fr → Heap → Prop} {ops : Array Oper} {rest : List Oper} {md : Md} {d : Option Tmp} {ty : TypeId} {ps : String} {af : Array Edge} {g : Option (Nat × Bool)}
end
section
variable {P : Program} {w0 : World} {f : Fr} {L : Heap} {K : Kont}
/-- In the world of the moment. -/
theorem Cw.world {c : Code} (h : ∀ w, Hp w0 L w → Cw P w0 c f L K) : Cw P w0 c f L K := fun w hw => h w hw w hw
/-- What the world of the moment holds where the list of blocks does. -/
theorem Gr.read {E : TypeId} {m n : Nat} {v : Value} {cs : List Value} (h : Gr L E m v n cs) {b : Nat} (hb : slB v = some b) {w : World} (hw : Hp w0 L w) {o : Obj} (ho : w.heap[b]? = some o) : readB w0 L b = some o := by
  obtain ⟨a, ha⟩ := h.at_ hb
  rw [hw.has _ _ (look_mem ha)] at ho
  rw [read_look ha]; exact ho
end
end Go.Sx
namespace Go.Sx
open Go
section
variable {α : Type} {m : Nat} {enc : α → List Value} {z : α}
end
section
variable {P : Program} {w0 : World} {f : Fr} {L : Heap} {N : Fr → Heap → Prop} {ops : Array Oper} {rest : List Oper} {md : Md} {d : Option Tmp} {ty : TypeId} {ps : String} {af : Array Edge} {g : Option (Nat × Bool)}
/-- A slice is made. -/
theorem Ow.makeSlice {t e : TypeId} {m : Bool × Nat} {z : Value} {x y : Operand} {n c : Nat} {md' : Md} (he : md.turn = some md') (hs : skipped ops f ⟨d, .makeSlice t x y, ty, ps, af, g⟩ = false)
    (hu : P.underlying t = some (.slice e)) (hm : aggT P e = some m) (hi : bytesOk P e = true) (hz : zeroV P e = some z) (hx : ev f x = vi n) (hy : ev f y = vi c) (hnc : n ≤ c) (hbig : c ≤ 2 ^ 38)
    (hn : ∀ b, Above L b → w0.heap.size ≤ b → Ow P w0 ops md' rest (putF f d (vsl b 0 n c)) (L ++ [(b, .cells (madeCells z.cells (c * m.2)) e (0, 0))]) N) :
    Ow P w0 ops md (⟨d, .makeSlice t x y, ty, ps, af, g⟩ :: rest) f L N := by
  refine Ow.step he rfl hs fun w hw => .inl ⟨vsl w.heap.size 0 n c, w.alloc (.cells (madeCells z.cells (c * m.2)) e (0, 0)), _, ?_, hw.alloc _, hn _ (above_of fun b hb => hw.lt hb) hw.size⟩
  obtain ⟨i, hie, -, hb⟩ := bytesOk_spec hi hbig
  have hiz : i.zero = some z := by
    unfold zeroV at hz
    rw [hie] at hz
    exact hz
  have him : i.size = m.2 := by
    unfold aggT at hm
    rw [hie] at hm
    split at hm
    · rename_i h1 h2
      cases h2
      cases hm
      rfl
    · cases hm
  have hbb : (i.bytes : Int) * (c : Int) ≤ 281474976710656 := by
    have : ((i.bytes * c : Nat) : Int) ≤ 281474976710656 := by rw [Nat.mul_comm]; exact Int.ofNat_le.2 hb
    rwa [Int.natCast_mul] at this
  have hr := run_make (P := P) w t e i z hu hie hiz .i64 .i64 (n : Int) (c : Int) (by omega) (by omega) hbb (by omega)
  simp only [Int.toNat_natCast, him] at hr
  show (execOp (ev f) _).run P w = _
  simp only [execOp, Sem.run_bind]
  rw [hx, hy]
  show ((Instr.makeSlice t (.int .i64 (n : Int)) (.int .i64 (c : Int))).run P w).andThen _ = _
  rw [hr]
  rfl
/-- What is appended to a slice of a chunk, if only nothing. -/
theorem Ow.appendXG {ts tx e : TypeId} {m : Bool × Nat} {z : Value} {s x : Operand} {n k : Nat} {cs new : List Value} {dx : TypeDesc} {md' : Md} {X Y : Heap} (sv : Value) (hL : L = X ++ Y) (hsv : ev f s = sv) (he : md.turn = some md')
    (hs : skipped ops f ⟨d, .call ⟨.builtin .append, #[s, x], #[ts, tx]⟩, ty, ps, af, g⟩ = false)
    (hu : P.underlying ts = some (.slice e)) (hm : aggT P e = some m) (hi : bytesOk P e = true) (hz : zeroV P e = some z) (hzs : z.cells.size = m.2) (hux : P.underlying tx = some dx) (hnx : ∀ k, dx ≠ .int k)
    (hB : Gr X e m.2 sv n cs) (hX : ∀ w, Hp w0 L w → AppX P w m.2 (ev f x) k new) (hbig : 2 * (n + k) + 768 ≤ 2 ^ 38)
    (hn : ∀ B v' D, Above L B → w0.heap.size ≤ B → Gr D e m.2 v' (n + k) (cs ++ new) → (∀ c, c ∈ keys X → c ∈ keys D) → (∀ c, c ∈ keys D → c ∈ keys X ∨ B ≤ c) → (∀ c o, slB sv ≠ some c → look X c = some o → look D c = some o) → Ow P w0 ops md' rest (putF f d v') (D ++ Y) N) :
    Ow P w0 ops md (⟨d, .call ⟨.builtin .append, #[s, x], #[ts, tx]⟩, ty, ps, af, g⟩ :: rest) f L N := by
  subst hL
  refine Ow.step he rfl hs fun w hw => ?_
  have hp := hw.part
  have hA : Above (X ++ Y) w.heap.size := above_of fun b hb => hw.lt hb
  have fin : ∀ v' w' D, (Builtin.append_ #[ts, tx] ty #[sv, ev f x]).run P w = .ok v' w' → Hp w D w' → Gr D e m.2 v' (n + k) (cs ++ new) → (∀ c, c ∈ keys X → c ∈ keys D) → (∀ c, c ∈ keys D → c ∈ keys X ∨ w.heap.size ≤ c) → (∀ c o, slB sv ≠ some c → look X c = some o → look D c = some o) →
      (∃ v w' L', (execOp (ev f) ⟨d, .call ⟨.builtin .append, #[s, x], #[ts, tx]⟩, ty, ps, af, g⟩).run P w = .ok (.value v) w' ∧ Hp w0 L' w' ∧ Ow P w0 ops md' rest (putF f d v) L' N) := by
    intro v' w' D hr hD hb h1 h2 h3
    refine ⟨v', w', D ++ Y, ?_, hw.join hD h1 h2, hn w.heap.size v' D hA hw.size hb h1 h2 h3⟩
    simp only [execOp, resolve, Sem.run_bind, Sem.run_pure, Result.andThen_ok, invoke, builtin, List.map_toArray, List.map_cons, List.map_nil, hsv]
    rw [hr]
    rfl
  rcases hB with hB | ⟨rfl, rfl, b, rfl, hlk⟩
  · obtain ⟨v', w', D, hr, hD, hb, hg, -⟩ := run_append (w0 := w) (L := X) (ty := ty) (x := ev f x) hp hu hm hi hz hzs hux hnx hB (fun w2 hw2 => hX w2 (by
      refine hw.join hw2 (fun c hc => hc) (fun c hc => .inl hc))) hbig
    exact .inl (fin v' w' D hr hD (.inl hb) hg.keys (fun c hc => (hg.new c hc).imp id And.right) hg.look)
  · rcases run_appendEm (w0 := w) (L := X) (ty := ty) (b := b) (x := ev f x) hp hu hm hi hz hzs hux hnx (fun w2 hw2 => hX w2 (by
      refine hw.join hw2 (fun c hc => hc) (fun c hc => .inl hc))) hbig with ⟨h0, hr⟩ | ⟨-, v', w', D, hr, hD, hb, hg, -⟩
    · subst h0
      have hnw := (hX w hw).size
      obtain rfl : new = [] := List.eq_nil_of_length_eq_zero (by rw [hnw, Nat.zero_mul])
      exact .inl (fin _ w X hr hp (.inr ⟨rfl, rfl, b, rfl, hlk⟩) (fun c hc => hc) (fun c hc => .inl hc) (fun c o _ hl => hl))
    · exact .inl (fin v' w' D hr hD (.inl hb) hg.keys (fun c hc => (hg.new c hc).imp id And.right) (fun c o _ hl => hg.look c o (by simp [slB]) hl))
end
/-- A known block stands first, the others behind it. -/
theorem look_perm {b : Nat} {o : Obj} : ∀ {D : Heap}, look D b = some o → ∃ D', D.Perm ((b, o) :: D')
  | [], h => by cases h
  | (c, x) :: r, h => by
    unfold look at h
    split at h
    · rename_i e
      cases h
      subst e
      exact ⟨r, List.Perm.refl _⟩
    · obtain ⟨D', hD⟩ := look_perm h
      exact ⟨(c, x) :: D', (hD.cons _).trans (List.Perm.swap _ _ _)⟩
theorem New.perm {n : Nat} {D D' : Heap} (h : New n D) (hp : D.Perm D') : New n D' := New.of_le fun c hc => h.le c ((hp.map Prod.fst).mem_iff.2 hc)
end Go.Sx
namespace Go.Sx
open Go
section
variable {P : Program} {w0 : World} {f : Fr} {L : Heap} {N : Fr → Heap → Prop} {ops : Array Oper} {rest : List Oper} {md : Md} {d : Option Tmp} {ty : TypeId} {ps : String} {af : Array Edge} {g : Option (Nat × Bool)}
/-- So many zeros behind no slice. -/
theorem Ow.growN {ts tx e : TypeId} {m : Bool × Nat} {z : Value} {s x : Operand} {k : Nat} {kd : IntKind} {md' : Md} (he : md.turn = some md')
    (hs : skipped ops f ⟨d, .call ⟨.builtin .append, #[s, x], #[ts, tx]⟩, ty, ps, af, g⟩ = false)
    (hu : P.underlying ts = some (.slice e)) (hm : aggT P e = some m) (hi : bytesOk P e = true) (hz : zeroV P e = some z) (hzs : z.cells.size = m.2) (hm0 : 0 < m.2) (hux : P.underlying tx = some (.int kd))
    (hsv : ev f s = .slice none 0 0) (hx : ev f x = vi k) (hk : 0 < k) (hbig : 2 * k + 768 ≤ 2 ^ 38)
    (hn : ∀ (b c : Nat) (zs : List Value), Above L b → w0.heap.size ≤ b → k ≤ c → zs.length = c * m.2 → Ow P w0 ops md' rest (putF f d (vsl b 0 k c)) (L ++ [(b, .cells zs.toArray e (0, 0))]) N) :
    Ow P w0 ops md (⟨d, .call ⟨.builtin .append, #[s, x], #[ts, tx]⟩, ty, ps, af, g⟩ :: rest) f L N := by
  refine Ow.step he rfl hs fun w hw => ?_
  obtain ⟨i, hi, hb0, hbig⟩ := bytesOk_spec hi hbig
  have hti : ∀ w, (typeInfo e).run P w = .ok i w := by
    intro w
    simp only [typeInfo, program, Sem.run_bind]
    show Result.andThen (Result.ok P w) _ = _
    simp only [Result.andThen_ok, hi]
    rfl
  have e1 : ∀ {α β : Type} (a : α) (f : α → World → Result β), (Sem.run P (pure a) w).andThen f = f a w := fun _ _ => rfl
  have hzv := run_zeroV (P := P) hz
  have room : ∀ (b : Nat) (w : World), (askRoom b).run P w = .ok () w := by
    intro b w
    unfold askRoom
    split <;> rfl
  have hbg' : ¬ (Builtin.nextslicecap (0 + k) 0 * i.bytes > 2 ^ 48) := by
    have := nextslicecap_le (N := 0 + k) (c := 0) (by omega)
    have h2 := Nat.mul_le_mul_right i.bytes this
    have h3 : (2 * (0 + k) + 768) = 2 * k + 768 := by omega
    rw [h3] at h2
    omega
  have hkb : k * i.bytes ≤ 2 ^ 48 := Nat.le_trans (Nat.mul_le_mul_right _ (by omega)) hbig
  have hpos : ¬ 0 + k ≤ 0 := by omega
  have hwr : IntKind.i64.wrap (k : Int) = (k : Int) := wrap_i64 _ ⟨by omega, by omega⟩
  have has : ∀ w, (asInt (vi (k : Int))).run P w = .ok (k : Int) w := fun _ => rfl
  have hneg : ¬ ((k : Int) < 0) := by omega
  have hmul : ¬ ((k : Int) * (i.bytes : Int) > 2 ^ 48) := by
    have : ((k * i.bytes : Nat) : Int) ≤ 281474976710656 := Int.ofNat_le.2 hkb
    rw [Int.natCast_mul] at this
    have e : (2 : Int) ^ 48 = 281474976710656 := rfl
    rw [e]; omega
  have hnz : ¬ k * m.2 = 0 := by
    intro h
    rcases Nat.mul_eq_zero.1 h with h | h <;> omega
  have hmax : ¬ (((0 + k : Nat) : Int) > IntKind.i64.max) := by
    have e : IntKind.i64.max = 9223372036854775807 := rfl
    rw [e]; omega
  have hrun : ∃ v' w' L', (Builtin.append_ #[ts, tx] ty #[.slice none 0 0, vi (k : Int)]).run P w = .ok v' w' ∧ Hp w0 L' w' ∧ Ow P w0 ops md' rest (putF f d v') L' N := by
    simp only [Builtin.append_, List.getElem?_toArray, List.getElem?_cons_zero, List.getElem?_cons_succ, Sem.run_bind, run_underlying hu w, Result.andThen_ok, run_sizeOf hm w, run_underlying hux w, e1, ↓reduceIte, has, hwr, hneg, hti, hmul, Int.toNat_natCast, hpos, hmax, false_and, hbg', Bool.not_true, Bool.false_eq_true, hnz, hzv]
    have hch : (choose (Question.appendCap (0 + k) 0 e)).run P w = .ok ((0 + k) + w.tape w.drawn (.appendCap (0 + k) 0 e) % (2 ^ 63 - (0 + k))) w.drew := rfl
    rw [hch]
    generalize hcc : (0 + k) + w.tape w.drawn (.appendCap (0 + k) 0 e) % (2 ^ 63 - (0 + k)) = c
    have hw1 := hw.drew
    have hold : (Builtin.firstCells m.2 0 (Value.slice none 0 0)).run P w.drew = .ok #[] w.drew := rfl
    simp only [Result.andThen_ok, room, hold]
    refine ⟨_, _, L ++ [(w.drew.heap.size, .cells ((Builtin.zeroCells z.cells k).toList ++ (Builtin.zeroCells z.cells (c - (0 + k))).toList).toArray e (0, 0))], rfl, ?_, ?_⟩
    · have ea : ((Builtin.zeroCells z.cells k).toList ++ (Builtin.zeroCells z.cells (c - (0 + k))).toList).toArray = #[] ++ Builtin.zeroCells z.cells k ++ Builtin.zeroCells z.cells (c - (0 + k)) := by apply Array.ext'; simp
      rw [ea]
      exact hw1.alloc _
    · rw [Nat.zero_add] at *
      refine hn _ c _ (above_of fun b hb => hw1.lt hb) hw1.size (by omega) ?_
      simp only [Builtin.zeroCells, List.length_append, Array.length_toList, Array.size_map, Array.size_range, hzs]
      rw [← Nat.add_mul]
      congr 1
      omega
  obtain ⟨v', w', L', hr, hp, hO⟩ := hrun
  refine .inl ⟨v', w', L', ?_, hp, hO⟩
  simp only [execOp, resolve, Sem.run_bind, Sem.run_pure, Result.andThen_ok, invoke, builtin, List.map_toArray, List.map_cons, List.map_nil, hsv, hx]
  rw [hr]
  rfl
/-- A part of a row is cleared: so many elements. -/
theorem Ow.clearRow {ts e : TypeId} {z : Value} {x : Operand} {b off n c : Nat} {cs : Array Value} {E : TypeId} {md' : Md} (he : md.turn = some md')
    (hs : skipped ops f ⟨d, .call ⟨.builtin .clear, #[x], #[ts]⟩, ty, ps, af, g⟩ = false) (hu : P.underlying ts = some (.slice e)) (hz : zeroV P e = some z) (hz1 : ∀ v, v ∈ (Builtin.zeroCells z.cells n).toList → v.oneCell' = true)
    (hx : ev f x = vsl b off n c) (h0 : 0 < n) (hl : look L b = some (.cells cs E (0, 0))) (hn : off + n * z.cells.size ≤ cs.size)
    (hO : Ow P w0 ops md' rest (putF f d (.tuple #[])) (setB L b (.cells (putC cs off (Builtin.zeroCells z.cells n).toList) E (0, 0))) N) :
    Ow P w0 ops md (⟨d, .call ⟨.builtin .clear, #[x], #[ts]⟩, ty, ps, af, g⟩ :: rest) f L N := by
  refine Ow.step he rfl hs fun w hw => ?_
  have hhb := hw.has _ _ (look_mem hl)
  have hzv := run_zeroV (P := P) hz
  have hst := run_storeCells (P := P) (b := b) (off := off) (E := E) (fz := (0, 0)) (Builtin.zeroCells z.cells n).toList 0 cs w hhb (by simp [Builtin.zeroCells]; omega) (.inl (Nat.le_refl 0)) (List.all_eq_true.2 hz1)
  refine .inl ⟨.tuple #[], { w with heap := w.heap.setIfInBounds b (.cells (putC cs off (Builtin.zeroCells z.cells n).toList) E (0, 0)) }, _, ?_, hw.set (key_of_look hl) rfl rfl rfl rfl, hO⟩
  simp only [execOp, resolve, Sem.run_bind, Sem.run_pure, Result.andThen_ok, invoke, builtin, List.map_toArray, List.map_cons, List.map_nil, hx]
  obtain ⟨n, rfl⟩ : ∃ n', n = n' + 1 := ⟨n - 1, by omega⟩
  simp only [Builtin.clear_, vsl, List.getElem?_toArray, List.getElem?_cons_zero, Sem.run_bind, run_underlying hu w, Result.andThen_ok, hzv]
  rw [Nat.add_zero] at hst
  rw [hst]
  rfl
end
end Go.Sx
section
open Go Go.Proofs Go.Sx Go.RefP
namespace Go.Proofs
set_option maxRecDepth 10000
set_option maxHeartbeats 400000
set_option linter.unusedSimpArgs false
set_option linter.defProp false
def uWZA_1 := And.intro (And.intro (@rdIn_v8) (@rdIn_v16)) (And.intro (@rdIn_v32) (And.intro (@rdIn_v64) (@rdIn_vi)))
theorem slice_zero (a : Bool) (m b n c : Nat) : sliceV (.sl (a, m)) (vsl b 0 n c) none (some (some 0)) = some (vsl b 0 0 c) := by
  simp [sliceV, vsl, bndV, Addr.add]
/-- Room for so many refs, behind none. -/
theorem GrowRef_spec (n : Nat) (w : World) (hn : n < 1000000) : Rets Tryz.prog 56 #[.slice none 0 0, vi n] w
    (XS w [] (fun v D => Gr D 48 33 v 0 [])) := by
  refine Rets.enterX Tryz.func56 rfl (rs := [.tmp 4]) Tryz.results56 Tryz.ntmps56 (fun p hp => by cases hp) (by simp [keys]) ?_
  simp only [List.size_toArray, List.length_cons, List.length_nil, Nat.reduceAdd, Nat.reduceSub, List.replicate_succ, List.replicate_zero, List.cons_append, List.nil_append]
  have e0 : (n : Int) - (0 - 0) = n := by omega
  have ec : capV (.sl (true, 33)) (.slice none 0 0) = some (vi 0) := rfl
  have el : lenV (.sl (true, 33)) (.slice none 0 0) = some (vi 0) := rfl
  have es : sliceV (.sl (true, 33)) (.slice none 0 0) none (some (some 0)) = some (.slice none 0 0) := rfl
  by_cases h : n = 0
  · subst h
    ((try with_reducible refine Cw.go [] ?_); (try simp (disch := (first | assumption | omega | (simp only [lenS, lenT, UInt64.reduceToNat]; try omega))) only [↓Sx.S0, Sx.S1, Tryz.fx, uWZA_1, Nat.reduceAdd, Nat.reducePow, Int.reducePow, Nat.reduceBEq, ↓reduceIte, UInt8.reduceToNat, UInt16.reduceToNat, UInt32.reduceToNat, UInt64.reduceToNat, Int.reduceToNat, ec, el]))
    refine ⟨_, (by simp (disch := (first | assumption | omega | (simp only [lenS, lenT, UInt64.reduceToNat]; try omega))) only [↓Sx.S0, Sx.S1, Tryz.fx, uWZA_1, Nat.reduceAdd, Nat.reducePow, Int.reducePow, Nat.reduceBEq, ↓reduceIte, UInt8.reduceToNat, UInt16.reduceToNat, UInt32.reduceToNat, UInt64.reduceToNat, Int.reduceToNat]; rfl), ?_⟩
    exact ⟨Ext.of_new trivial, Gr.nl⟩
  · have d1 : decide ((0 : Int) < (n : Int)) = true := decide_eq_true (by omega)
    ((try with_reducible refine Cw.go [] ?_); (try simp (disch := (first | assumption | omega | (simp only [lenS, lenT, UInt64.reduceToNat]; try omega))) only [↓Sx.S0, Sx.S1, Tryz.fx, uWZA_1, Nat.reduceAdd, Nat.reducePow, Int.reducePow, Nat.reduceBEq, ↓reduceIte, UInt8.reduceToNat, UInt16.reduceToNat, UInt32.reduceToNat, UInt64.reduceToNat, Int.reduceToNat, ec, el, e0, d1, es]))
    refine Ow.growN (e := 48) rfl rfl Tryz.underlying22 Tryz.ag48 (by kernel_rfl) zrRef (by rw [cells_ref, List.size_toArray, refC_len]) (by simp) Tryz.underlying3 rfl rfl (by omega) (by omega) (fun b c zs hA hB hc hz => ?_)
    refine Ow.go rfl ?_
    simp (disch := (first | assumption | omega | (simp only [lenS, lenT, UInt64.reduceToNat]; try omega))) only [↓Sx.S0, Sx.S1, Tryz.fx, uWZA_1, Nat.reduceAdd, Nat.reducePow, Int.reducePow, Nat.reduceBEq, ↓reduceIte, UInt8.reduceToNat, UInt16.reduceToNat, UInt32.reduceToNat, UInt64.reduceToNat, Int.reduceToNat, el, slice_zero]
    ((try with_reducible refine Cw.go [] ?_); (try simp (disch := (first | assumption | omega | (simp only [lenS, lenT, UInt64.reduceToNat]; try omega))) only [↓Sx.S0, Sx.S1, Tryz.fx, uWZA_1, Nat.reduceAdd, Nat.reducePow, Int.reducePow, Nat.reduceBEq, ↓reduceIte, UInt8.reduceToNat, UInt16.reduceToNat, UInt32.reduceToNat, UInt64.reduceToNat, Int.reduceToNat]))
    refine ⟨_, (by simp (disch := (first | assumption | omega | (simp only [lenS, lenT, UInt64.reduceToNat]; try omega))) only [↓Sx.S0, Sx.S1, Tryz.fx, uWZA_1, Nat.reduceAdd, Nat.reducePow, Int.reducePow, Nat.reduceBEq, ↓reduceIte, UInt8.reduceToNat, UInt16.reduceToNat, UInt32.reduceToNat, UInt64.reduceToNat, Int.reduceToNat]; rfl), ?_⟩
    refine ⟨Ext.of_new ⟨hB, trivial⟩, .inl (.at_ (rest := zs) ?_ rfl (by rw [hz]; rfl) (Nat.zero_le _) (by omega))⟩
    exact look_same _ _ _
def sum2 (a b : Nat) : Nat → Nat
  | 0 => 0
  | 1 => a
  | _ => a + b
def cat2 (a b : List RefL) : Nat → List RefL
  | 0 => []
  | 1 => a
  | _ => a ++ b
theorem row2_0 (x y : Value) (E : TypeId) (n : Nat) : loadV (some (false, n)) (some (.cells #[x, y] E (0, 0))) 0 = some x := (rfl)
theorem row2_1 (x y : Value) (E : TypeId) (n : Nat) : loadV (some (false, n)) (some (.cells #[x, y] E (0, 0))) 1 = some y := (rfl)
theorem idx2_0 (b : Nat) : indexAddrV (.sl (false, 1)) (vsl b 0 2 2) (some ((0 : Nat) : Int)) = some (vp b 0) := rfl
theorem idx2_1 (b : Nat) : indexAddrV (.sl (false, 1)) (vsl b 0 2 2) (some ((1 : Nat) : Int)) = some (vp b 1) := rfl
structure KG where
  g : Nat
  v : Value
  D : Heap
/-- Two lists of refs, one behind the other. -/
theorem ConcatRef_spec (b : Nat) (x y : Value) (t l : List RefL) (w : World) (hb : w.heap[b]? = some (.cells #[x, y] 22 (0, 0))) (ht : RefSl w x t) (hl : RefSl w y l) (htl : t.length < 1000) (hll : l.length < 1000) :
    Rets Tryz.prog 29 #[vsl b 0 2 2] w (XS w [] (fun v D => GrI D 48 33 v (t ++ l).length ((t ++ l).map refC).flatten)) := by
  have hbl := (Array.getElem?_eq_some_iff.1 hb).1
  refine Rets.enterX Tryz.func29 rfl (rs := [.tmp 2]) Tryz.results29 Tryz.ntmps29 (fun p hp => by cases hp) (by simp [keys]) ?_
  simp only [List.size_toArray, List.length_cons, List.length_nil, Nat.reduceAdd, Nat.reduceSub, List.replicate_succ, List.replicate_zero, List.cons_append, List.nil_append]
  ((try with_reducible refine Cw.go [] ?_); (try simp (disch := (first | assumption | omega | (simp only [lenS, lenT, UInt64.reduceToNat]; try omega))) only [↓Sx.S0, Sx.S1, Tryz.fx, uWZA_1, Nat.reduceAdd, Nat.reducePow, Int.reducePow, Nat.reduceBEq, ↓reduceIte, UInt8.reduceToNat, UInt16.reduceToNat, UInt32.reduceToNat, UInt64.reduceToNat, Int.reduceToNat]))
  have hlen2 : lenV (.sl (false, 1)) (vsl b 0 2 2) = some (vi (2 : Nat)) := rfl
  ((try with_reducible refine Cw.go [] ?_); (try simp (disch := (first | assumption | omega | (simp only [lenS, lenT, UInt64.reduceToNat]; try omega))) only [↓Sx.S0, Sx.S1, Tryz.fx, uWZA_1, Nat.reduceAdd, Nat.reducePow, Int.reducePow, Nat.reduceBEq, ↓reduceIte, UInt8.reduceToNat, UInt16.reduceToNat, UInt32.reduceToNat, UInt64.reduceToNat, Int.reduceToNat, hlen2]))
  refine Cw.loopG (G := Nat) [12, 13, 14, 5, 15, 16, 17, 18, 3, 19, 20, 21, 22, 11] (fun g => [(3, vi (sum2 t.length l.length g)), (11, vi g)]) (fun g => []) (fun g => g ≤ 2) (fun g => 2 - g) 0 rfl rfl ?_ ?_
  · exact Nat.zero_le _
  intro g j hg
  simp only [overFrom, pin, setF_0, setF_s, List.contains_cons, List.contains_nil, Nat.reduceBEq, Bool.or_false, Bool.false_or, Bool.or_true, Bool.true_or, Nat.reduceAdd, ↓reduceIte, Bool.false_eq_true]
  have rdb : ∀ D, New w.heap.size D → readB w D b = some (.cells #[x, y] 22 (0, 0)) := fun D hD => by rw [read_none (hD.not hbl)]; exact hb
  match g, hg with
  | 0, hg =>
    have d1 : decide (((0 : Nat) : Int) < ((2 : Nat) : Int)) = true := rfl
    have hb0 : sum2 t.length l.length 0 = 0 := rfl
    have e1 : ((sum2 t.length l.length 0 : Nat) : Int) + (t.length : Int) = (sum2 t.length l.length 1 : Nat) := by simp [sum2]
    have d2 : decide (((sum2 t.length l.length 1 : Nat) : Int) < 0) = false := by simp
    ((try with_reducible refine Cw.go [] ?_); (try simp (disch := (first | assumption | omega | (simp only [lenS, lenT, UInt64.reduceToNat]; try omega))) only [↓Sx.S0, Sx.S1, Tryz.fx, uWZA_1, Nat.reduceAdd, Nat.reducePow, Int.reducePow, Nat.reduceBEq, ↓reduceIte, UInt8.reduceToNat, UInt16.reduceToNat, UInt32.reduceToNat, UInt64.reduceToNat, Int.reduceToNat, d1, idx2_0, rdb [] trivial, row2_0, ht.len, e1, d2]))
    refine Again.mk (G := Nat) (S := fun g => [(3, vi (sum2 t.length l.length g)), (11, vi g)]) (H := fun _ => []) (J := fun g => g ≤ 2) (μ := fun g => 2 - g) 1 (by show 2 - 1 < 2 - 0; omega) (by show 1 ≤ 2; omega) rfl rfl
  | 1, hg =>
    have d1 : decide (((1 : Nat) : Int) < ((2 : Nat) : Int)) = true := rfl
    have hb0 : sum2 t.length l.length 1 = t.length := rfl
    have e1 : ((sum2 t.length l.length 1 : Nat) : Int) + (l.length : Int) = (sum2 t.length l.length 2 : Nat) := by simp [sum2]
    have d2 : decide (((sum2 t.length l.length 2 : Nat) : Int) < 0) = false := by simp
    ((try with_reducible refine Cw.go [] ?_); (try simp (disch := (first | assumption | omega | (simp only [lenS, lenT, UInt64.reduceToNat]; try omega))) only [↓Sx.S0, Sx.S1, Tryz.fx, uWZA_1, Nat.reduceAdd, Nat.reducePow, Int.reducePow, Nat.reduceBEq, ↓reduceIte, UInt8.reduceToNat, UInt16.reduceToNat, UInt32.reduceToNat, UInt64.reduceToNat, Int.reduceToNat, d1, idx2_1, rdb [] trivial, row2_1, hl.len, e1, d2]))
    refine Again.mk (G := Nat) (S := fun g => [(3, vi (sum2 t.length l.length g)), (11, vi g)]) (H := fun _ => []) (J := fun g => g ≤ 2) (μ := fun g => 2 - g) 2 (by show 2 - 2 < 2 - 1; omega) (by show 2 ≤ 2; omega) rfl rfl
  | 2, hg =>
    have d1 : decide (((2 : Nat) : Int) < ((2 : Nat) : Int)) = false := rfl
    ((try with_reducible refine Cw.go [] ?_); (try simp (disch := (first | assumption | omega | (simp only [lenS, lenT, UInt64.reduceToNat]; try omega))) only [↓Sx.S0, Sx.S1, Tryz.fx, uWZA_1, Nat.reduceAdd, Nat.reducePow, Int.reducePow, Nat.reduceBEq, ↓reduceIte, UInt8.reduceToNat, UInt16.reduceToNat, UInt32.reduceToNat, UInt64.reduceToNat, Int.reduceToNat, d1]))
    refine Ow.callC rfl rfl Tryz.call56 (fun w' hw' => GrowRef_spec (sum2 t.length l.length 2) w' (by simp [sum2]; omega)) (fun B1 v1 D1 hA1 hB1 hN1 hG1 => ?_)
    refine Ow.go rfl ?_
    simp (disch := (first | assumption | omega | (simp only [lenS, lenT, UInt64.reduceToNat]; try omega))) only [↓Sx.S0, Sx.S1, Tryz.fx, uWZA_1, Nat.reduceAdd, Nat.reducePow, Int.reducePow, Nat.reduceBEq, ↓reduceIte, UInt8.reduceToNat, UInt16.reduceToNat, UInt32.reduceToNat, UInt64.reduceToNat, Int.reduceToNat]
    ((try with_reducible refine Cw.go [] ?_); (try simp (disch := (first | assumption | omega | (simp only [lenS, lenT, UInt64.reduceToNat]; try omega))) only [↓Sx.S0, Sx.S1, Tryz.fx, uWZA_1, Nat.reduceAdd, Nat.reducePow, Int.reducePow, Nat.reduceBEq, ↓reduceIte, UInt8.reduceToNat, UInt16.reduceToNat, UInt32.reduceToNat, UInt64.reduceToNat, Int.reduceToNat, hlen2]))
    have hN1' : New w.heap.size D1 := hN1.mono hB1
    refine Cw.loopG (G := KG) [28, 29, 30, 8, 31, 32, 33, 6, 34, 27] (fun g => [(6, g.v), (27, vi g.g)]) (fun g => g.D) (fun g => g.g ≤ 2 ∧ New w.heap.size g.D ∧ Gr g.D 48 33 g.v (cat2 t l g.g).length ((cat2 t l g.g).map refC).flatten) (fun g => 2 - g.g) ⟨0, v1, D1⟩ rfl rfl ?_ ?_
    · exact ⟨Nat.zero_le _, hN1', hG1⟩
    intro g j hg
    simp only [overFrom, pin, setF_0, setF_s, List.contains_cons, List.contains_nil, Nat.reduceBEq, Bool.or_false, Bool.false_or, Bool.or_true, Bool.true_or, Nat.reduceAdd, ↓reduceIte, Bool.false_eq_true]
    obtain ⟨g, v, D⟩ := g
    simp only at hg ⊢
    obtain ⟨hg2, hND, hGr⟩ := hg
    match g, hg2, hGr with
    | 0, _, hGr =>
      have d1 : decide (((0 : Nat) : Int) < ((2 : Nat) : Int)) = true := rfl
      ((try with_reducible refine Cw.go [] ?_); (try simp (disch := (first | assumption | omega | (simp only [lenS, lenT, UInt64.reduceToNat]; try omega))) only [↓Sx.S0, Sx.S1, Tryz.fx, uWZA_1, Nat.reduceAdd, Nat.reducePow, Int.reducePow, Nat.reduceBEq, ↓reduceIte, UInt8.reduceToNat, UInt16.reduceToNat, UInt32.reduceToNat, UInt64.reduceToNat, Int.reduceToNat, d1, idx2_0, rdb D hND, row2_0]))
      refine Ow.appendXG (e := 48) (k := t.length) (new := (t.map refC).flatten) (X := D) (Y := []) v (by simp) rfl rfl rfl Tryz.underlying22 Tryz.ag48 (by kernel_rfl) zrRef (by rw [cells_ref, List.size_toArray, refC_len]) Tryz.underlying22 (by intro k h; cases h) hGr (fun w' hw' => (ht.oldN hw' (by simpa using hND)).appX refC_len refC_one) (by simp [cat2]; omega) (fun B3 v3 D3 hA3 hB3 hG3 hk13 hk23 hlk3 => ?_)
      have hN3 : New w.heap.size D3 := New.of_le fun q hq => by
        rcases hk23 q hq with h | h
        · exact hND.le q h
        · omega
      refine Ow.go rfl ?_
      simp (disch := (first | assumption | omega | (simp only [lenS, lenT, UInt64.reduceToNat]; try omega))) only [↓Sx.S0, Sx.S1, Tryz.fx, uWZA_1, Nat.reduceAdd, Nat.reducePow, Int.reducePow, Nat.reduceBEq, ↓reduceIte, UInt8.reduceToNat, UInt16.reduceToNat, UInt32.reduceToNat, UInt64.reduceToNat, Int.reduceToNat]
      ((try with_reducible refine Cw.go [] ?_); (try simp (disch := (first | assumption | omega | (simp only [lenS, lenT, UInt64.reduceToNat]; try omega))) only [↓Sx.S0, Sx.S1, Tryz.fx, uWZA_1, Nat.reduceAdd, Nat.reducePow, Int.reducePow, Nat.reduceBEq, ↓reduceIte, UInt8.reduceToNat, UInt16.reduceToNat, UInt32.reduceToNat, UInt64.reduceToNat, Int.reduceToNat]))
      refine Again.mk (KG.mk 1 v3 (D3 ++ [])) (by show 2 - 1 < 2 - 0; omega) ⟨by show 1 ≤ 2; omega, by simpa using hN3, ?_⟩ rfl rfl
      simpa [cat2] using hG3
    | 1, _, hGr =>
      have d1 : decide (((1 : Nat) : Int) < ((2 : Nat) : Int)) = true := rfl
      ((try with_reducible refine Cw.go [] ?_); (try simp (disch := (first | assumption | omega | (simp only [lenS, lenT, UInt64.reduceToNat]; try omega))) only [↓Sx.S0, Sx.S1, Tryz.fx, uWZA_1, Nat.reduceAdd, Nat.reducePow, Int.reducePow, Nat.reduceBEq, ↓reduceIte, UInt8.reduceToNat, UInt16.reduceToNat, UInt32.reduceToNat, UInt64.reduceToNat, Int.reduceToNat, d1, idx2_1, rdb D hND, row2_1]))
      refine Ow.appendXG (e := 48) (k := l.length) (new := (l.map refC).flatten) (X := D) (Y := []) v (by simp) rfl rfl rfl Tryz.underlying22 Tryz.ag48 (by kernel_rfl) zrRef (by rw [cells_ref, List.size_toArray, refC_len]) Tryz.underlying22 (by intro k h; cases h) hGr (fun w' hw' => (hl.oldN hw' (by simpa using hND)).appX refC_len refC_one) (by simp [cat2]; omega) (fun B3 v3 D3 hA3 hB3 hG3 hk13 hk23 hlk3 => ?_)
      have hN3 : New w.heap.size D3 := New.of_le fun q hq => by
        rcases hk23 q hq with h | h
        · exact hND.le q h
        · omega
      refine Ow.go rfl ?_
      simp (disch := (first | assumption | omega | (simp only [lenS, lenT, UInt64.reduceToNat]; try omega))) only [↓Sx.S0, Sx.S1, Tryz.fx, uWZA_1, Nat.reduceAdd, Nat.reducePow, Int.reducePow, Nat.reduceBEq, ↓reduceIte, UInt8.reduceToNat, UInt16.reduceToNat, UInt32.reduceToNat, UInt64.reduceToNat, Int.reduceToNat]
      ((try with_reducible refine Cw.go [] ?_); (try simp (disch := (first | assumption | omega | (simp only [lenS, lenT, UInt64.reduceToNat]; try omega))) only [↓Sx.S0, Sx.S1, Tryz.fx, uWZA_1, Nat.reduceAdd, Nat.reducePow, Int.reducePow, Nat.reduceBEq, ↓reduceIte, UInt8.reduceToNat, UInt16.reduceToNat, UInt32.reduceToNat, UInt64.reduceToNat, Int.reduceToNat]))
      refine Again.mk (KG.mk 2 v3 (D3 ++ [])) (by show 2 - 2 < 2 - 1; omega) ⟨by show 2 ≤ 2; omega, by simpa using hN3, ?_⟩ rfl rfl
      simpa [cat2] using hG3
    | 2, _, hGr =>
      have d1 : decide (((2 : Nat) : Int) < ((2 : Nat) : Int)) = false := rfl
      ((try with_reducible refine Cw.go [] ?_); (try simp (disch := (first | assumption | omega | (simp only [lenS, lenT, UInt64.reduceToNat]; try omega))) only [↓Sx.S0, Sx.S1, Tryz.fx, uWZA_1, Nat.reduceAdd, Nat.reducePow, Int.reducePow, Nat.reduceBEq, ↓reduceIte, UInt8.reduceToNat, UInt16.reduceToNat, UInt32.reduceToNat, UInt64.reduceToNat, Int.reduceToNat, d1]))
      refine ⟨_, (by simp (disch := (first | assumption | omega | (simp only [lenS, lenT, UInt64.reduceToNat]; try omega))) only [↓Sx.S0, Sx.S1, Tryz.fx, uWZA_1, Nat.reduceAdd, Nat.reducePow, Int.reducePow, Nat.reduceBEq, ↓reduceIte, UInt8.reduceToNat, UInt16.reduceToNat, UInt32.reduceToNat, UInt64.reduceToNat, Int.reduceToNat]; rfl), ?_⟩
      have hGr' : Gr D 48 33 v (t ++ l).length ((t ++ l).map refC).flatten := hGr
      exact ⟨Ext.of_new hND, hGr'.i fun q hq => hq⟩
end Go.Proofs
end
section
open Go Go.Proofs Go.Sx Go.RefP
namespace Go.Proofs
set_option maxRecDepth 100000
set_option maxHeartbeats 400000
set_option linter.unusedSimpArgs false
theorem cmpB_eq : ∀ (a b : List UInt8), Lib.compareBytes a b = if ltB a b = true then -1 else if ltB b a = true then 1 else 0
  | [], [] => by simp [Lib.compareBytes, ltB, Op.bytesLess]
  | _ :: _, [] => by simp [Lib.compareBytes, ltB, Op.bytesLess]
  | [], _ :: _ => by simp [Lib.compareBytes, ltB, Op.bytesLess]
  | a :: x, b :: y => by
    have ih := cmpB_eq x y
    unfold Lib.compareBytes
    rw [ltB_eq, ltB_eq] at *
    rw [ih]
    simp only [List.cons_lt_cons_iff, decide_eq_true_eq]
    by_cases h1 : a < b
    · simp [h1]
    · by_cases h2 : b < a
      · have : ¬ a = b := fun e => by subst e; exact h1 h2
        simp [h1, h2, this]
      · have : a = b := UInt8.le_antisymm (UInt8.not_lt.1 h2) (UInt8.not_lt.1 h1)
        subst this
        simp [h1]
theorem run_loadBytesX {b : Nat} {E : TypeId} {fz : Nat × Nat} {arr : Array Value} {w : World} (hb : w.heap[b]? = some (.cells arr E fz)) : ∀ (l : List UInt8) (off : Nat) (acc : ByteArray), (∀ j, j < l.length → arr[off + j]? = some (v8 (l.getD j 0))) →
    (Extern.Bytes.loadBytes ⟨b, off, none⟩ l.length acc).run Tryz.prog w = .ok (acc ++ ⟨l.toArray⟩) w
  | [], off, acc, _ => by
    show Result.ok acc w = _
    congr 1
    apply ByteArray.ext
    simp
  | x :: l, off, acc, h => by
    have h0 := h 0 (by simp)
    simp only [Nat.add_zero, List.getD_cons_zero] at h0
    have hc : w.cell? ⟨b, off, none⟩ = some (v8 x) := by rw [cell_of_row w b _ arr E fz hb]; exact h0
    have hld : (load ⟨b, off, none⟩).run Tryz.prog w = .ok (v8 x) w := by
      simp only [load, Sem.run, hc]
    rw [List.length_cons, Extern.Bytes.loadBytes, Sem.run_bind, hld, Result.andThen_ok]
    simp only [v8, add_spot]
    have e : ((x.toNat : Int).toNat.toUInt8) = x := by
      rw [Int.toNat_natCast]
      exact UInt8.ofNat_toNat
    rw [e, run_loadBytesX hb l (off + 1) _ (fun j hj => by
      have := h (j + 1) (by simpa using hj)
      rw [List.getD_cons_succ] at this
      rw [← this]; congr 1; omega)]
    congr 1
    apply ByteArray.ext
    simp
theorem bytesOf_run {b : Nat} {l : List UInt8} {E : TypeId} {w : World} (hb : w.heap[b]? = some (.cells (a8 l) E (0, 0))) : (Extern.Bytes.bytesOf (vsl b 0 l.length l.length)).run Tryz.prog w = .ok ⟨l.toArray⟩ w := by
  have h := run_loadBytesX hb l 0 .empty (fun j hj => by simp [a8, v8, hj])
  show (Extern.Bytes.loadBytes ⟨b, 0, none⟩ l.length .empty).run Tryz.prog w = _
  rw [h]
  congr 1
theorem cmpB_run {b c : Nat} {l m : List UInt8} {E E2 : TypeId} {w : World} (hb : w.heap[b]? = some (.cells (a8 l) E (0, 0))) (hc : w.heap[c]? = some (.cells (a8 m) E2 (0, 0))) :
    (callFunc 59 #[vsl b 0 l.length l.length, vsl c 0 m.length m.length]).run Tryz.prog w = .ok (.value (.int .i64 (Lib.compareBytes l m))) w := by
  rw [run_callFunc_extern Tryz.func59 (by kernel_rfl) (by kernel_rfl) (by kernel_rfl) (e := Extern.BytealgCompare.compare) (by kernel_rfl)]
  show ((Extern.BytealgCompare.compare #[vsl b 0 l.length l.length, vsl c 0 m.length m.length]).run Tryz.prog w).andThen _ = _
  have : (Extern.BytealgCompare.compare #[vsl b 0 l.length l.length, vsl c 0 m.length m.length]).run Tryz.prog w = .ok (.int .i64 (Lib.compareBytes l m)) w := by
    change Sem.run Tryz.prog (do pure (goInt (Extern.BytealgCompare.cmp (← Extern.Bytes.bytesOf _) (← Extern.Bytes.bytesOf _)))) w = _
    have h1 := bytesOf_run hb
    have h2 := bytesOf_run hc
    rw [Sem.run_bind]
    erw [h1]
    rw [Result.andThen_ok, Sem.run_bind]
    erw [h2]
    rw [Result.andThen_ok, Lib.cmp_eq]
    rfl
  rw [this]; rfl
theorem cmpBytes_spec {b c : Nat} {l m : List UInt8} {E E2 : TypeId} {w : World} (hb : w.heap[b]? = some (.cells (a8 l) E (0, 0))) (hc : w.heap[c]? = some (.cells (a8 m) E2 (0, 0))) :
    Calls Tryz.prog 32 #[vsl b 0 l.length l.length, vsl c 0 m.length m.length] w fun e w' => e = .returned (.int .i64 (Lib.compareBytes l m)) ∧ w' = w := by
  have hr := cmpB_run hb hc
  generalize vsl b 0 l.length l.length = x at hr ⊢
  generalize vsl c 0 m.length m.length = y at hr ⊢
  go_enter Tryz.func32, Tryz.ntmps32
  go_wp2
  go_ret
  exact ⟨rfl, rfl⟩
/-- The comparison of two ids: two blocks are laid. -/
theorem cmpBytes32_spec {b c : Nat} {x y : IdL} {E E2 : TypeId} {w : World} (hb : w.heap[b]? = some (.cells (a8 x.l) E (0, 0))) (hc : w.heap[c]? = some (.cells (a8 y.l) E2 (0, 0))) :
    Calls Tryz.prog 32 #[.slice (some ⟨b, 0, none⟩) 32 32, .slice (some ⟨c, 0, none⟩) 32 32] w fun e w' => e = .returned (.int .i64 (Lib.compareBytes x.l y.l)) ∧ w' = w := by
  have h := cmpBytes_spec hb hc
  rw [x.h, y.h] at h
  exact h
theorem cmpId_spec (x y : IdL) (W : World) : Calls Tryz.prog 31 #[.agg (a8 x.l), .agg (a8 y.l)] W fun e w' => e = .returned (.int .i64 (Lib.compareBytes x.l y.l)) ∧ ∃ q os', w' = Go.Sort.grow (W.drewN q) os' := by
  have hx : (Value.agg (a8 x.l)).cells = a8 x.l := rfl
  have hy : (Value.agg (a8 y.l)).cells = a8 y.l := rfl
  go_enter Tryz.func31, Tryz.ntmps31
  go_wp2
  have h0 : ((W.alloc (Obj.cells (a8 x.l) 34)).alloc (Obj.cells (a8 y.l) 34)).heap[W.heap.size]? = some (.cells (a8 x.l) 34 (0, 0)) := by
    show ((W.heap.push _).push _)[W.heap.size]? = _
    rw [Array.getElem?_push, if_neg (by simp), Array.getElem?_push, if_pos rfl]
  have h1 : ((W.alloc (Obj.cells (a8 x.l) 34)).alloc (Obj.cells (a8 y.l) 34)).heap[W.heap.size + 1]? = some (.cells (a8 y.l) 34 (0, 0)) := by
    show ((W.heap.push _).push _)[W.heap.size + 1]? = _
    rw [Array.getElem?_push, if_pos (by simp)]
  refine wp_region_quiet_lit (by kernel_rfl) (by kernel_rfl) ?_
  quiet_step (skip)
  quiet_step (skip)
  (refine wpQuiet_step (fun K hK => ?_)
   go_simp)
  refine ⟨.int .i64 (Lib.compareBytes x.l y.l), fun n => Calls.quiet_of_same (cmpBytes32_spec h0 h1), hK _ ?_⟩
  clear hK K
  quiet_step (skip)
  refine wpQuiet_nil ?_
  intro _ hw'
  obtain ⟨nq, rfl⟩ := hw'
  go_wp2
  go_ret
  trace_state
  exact ⟨rfl, nq, _, by rw [Go.Sort.alloc_eq_grow, Go.Sort.alloc_eq_grow, Go.Sort.grow_grow]; rfl⟩
end Go.Proofs
end
namespace Go.RooP
open Go Go.Sx
abbrev Il := List (List UInt8)
/-- An id in its place, once. -/
def putI (x : List UInt8) : Il → Il
  | [] => [x]
  | a :: l => if ltB a x = true then a :: putI x l else if a == x then a :: l else x :: a :: l
def Ris (l : Il) : Prop := l.Pairwise fun a b => ltB a b = true
theorem mem_putI {x y : List UInt8} : ∀ {l : Il}, y ∈ putI x l ↔ y = x ∨ y ∈ l
  | [] => by simp [putI]
  | a :: l => by
    unfold putI
    split
    · rw [List.mem_cons, mem_putI (l := l), List.mem_cons]
      constructor
      · rintro (h | h | h) <;> simp [h]
      · rintro (h | h | h) <;> simp [h]
    · split
      · rename_i h; have h := eq_of_beq h; subst h
        rw [List.mem_cons]
        constructor
        · rintro (h | h) <;> simp [h]
        · rintro (h | h | h) <;> simp [h]
      · rw [List.mem_cons]
theorem putI_ris {x : List UInt8} : ∀ {l : Il}, Ris l → Ris (putI x l)
  | [], _ => by simp [putI, Ris]
  | a :: l, h => by
    have h1 := List.pairwise_cons.1 h
    unfold putI
    split
    · rename_i hlt
      refine List.pairwise_cons.2 ⟨fun y hy => ?_, putI_ris h1.2⟩
      rcases mem_putI.1 hy with rfl | hy
      · exact hlt
      · exact h1.1 y hy
    · rename_i hlt
      split
      · exact h
      · rename_i hne
        have hxa : ltB x a = true := ltB_total (by simpa using hlt) (fun e => hne (by simp [e]))
        refine List.pairwise_cons.2 ⟨fun y hy => ?_, h⟩
        rcases List.mem_cons.1 hy with rfl | hy
        · exact hxa
        · exact ltB_trans hxa (h1.1 y hy)
/-- Two rising lists of the same are one. -/
theorem Ris.ext : ∀ {a b : Il}, Ris a → Ris b → (∀ x, x ∈ a ↔ x ∈ b) → a = b
  | [], [], _, _, _ => rfl
  | [], y :: b, _, _, h => by have := (h y).2 List.mem_cons_self; cases this
  | x :: a, [], _, _, h => by have := (h x).1 List.mem_cons_self; cases this
  | x :: a, y :: b, ha, hb, h => by
    have pa := List.pairwise_cons.1 ha
    have pb := List.pairwise_cons.1 hb
    have hxy : x = y := by
      rcases List.mem_cons.1 ((h x).1 List.mem_cons_self) with e | e
      · exact e
      · rcases List.mem_cons.1 ((h y).2 List.mem_cons_self) with e2 | e2
        · exact e2.symm
        · have h1 := pa.1 y e2
          have h2 := pb.1 x e
          rw [ltB_asymm h1] at h2; cases h2
    subst hxy
    congr 1
    refine Ris.ext pa.2 pb.2 fun z => ?_
    have hz := h z
    rw [List.mem_cons, List.mem_cons] at hz
    constructor
    · intro hm
      rcases hz.1 (.inr hm) with rfl | h3
      · have := pa.1 z hm; rw [ltB_irrefl] at this; cases this
      · exact h3
    · intro hm
      rcases hz.2 (.inr hm) with rfl | h3
      · have := pb.1 z hm; rw [ltB_irrefl] at this; cases this
      · exact h3
/-- Without what stands behind its like. -/
def uniq : Il → Il
  | [] => []
  | [a] => [a]
  | a :: b :: l => if a == b then uniq (b :: l) else a :: uniq (b :: l)
def Srt (l : Il) : Prop := l.Pairwise fun a b => ltB b a = false
theorem mem_uniq {x : List UInt8} : ∀ {l : Il}, x ∈ uniq l ↔ x ∈ l
  | [] => by simp [uniq]
  | [a] => by simp [uniq]
  | a :: b :: l => by
    unfold uniq
    split
    · rename_i h; have h := eq_of_beq h; subst h
      rw [mem_uniq (l := a :: l)]; simp
    · rw [List.mem_cons, mem_uniq (l := b :: l)]; simp
theorem uniq_ris : ∀ {l : Il}, Srt l → Ris (uniq l)
  | [], _ => by simp [uniq, Ris]
  | [a], _ => by simp [uniq, Ris]
  | a :: b :: l, h => by
    have h1 := List.pairwise_cons.1 h
    unfold uniq
    split
    · exact uniq_ris h1.2
    · rename_i hne
      refine List.pairwise_cons.2 ⟨fun y hy => ?_, uniq_ris h1.2⟩
      have hab : ltB a b = true := by
        refine ltB_total (h1.1 b List.mem_cons_self) fun e => hne (by simp [e])
      rcases List.mem_cons.1 (mem_uniq.1 hy) with rfl | hy
      · exact hab
      · have h2 := (List.pairwise_cons.1 h1.2).1 y hy
        by_cases e : b = y
        · rw [← e]; exact hab
        · exact ltB_trans hab (ltB_total h2 fun e' => e e'.symm)
/-- What is sorted, without the doubles, is what is put in its place one by one. -/
theorem uniq_put {l s : Il} (hp : s.Perm l) (hs : Srt s) : uniq s = l.foldl (fun a x => putI x a) [] := by
  have key : ∀ (l a : Il), Ris a → Ris (l.foldl (fun a x => putI x a) a) ∧ ∀ x, x ∈ l.foldl (fun a x => putI x a) a ↔ x ∈ a ∨ x ∈ l := by
    intro l
    induction l with
    | nil => intro a ha; exact ⟨ha, by simp⟩
    | cons y l ih =>
      intro a ha
      obtain ⟨h1, h2⟩ := ih (putI y a) (putI_ris ha)
      refine ⟨h1, fun x => ?_⟩
      rw [List.foldl_cons, h2, mem_putI, List.mem_cons]
      constructor
      · rintro ((h | h) | h) <;> simp [h]
      · rintro (h | h | h) <;> simp [h]
  obtain ⟨h1, h2⟩ := key l [] List.Pairwise.nil
  refine Ris.ext (uniq_ris hs) h1 fun x => ?_
  rw [mem_uniq, h2, hp.mem_iff]; simp
end Go.RooP
section
open Go Go.Proofs Go.Sx Go.RefP Go.RooP Go.StP
namespace Go.Proofs
set_option maxRecDepth 10000
set_option maxHeartbeats 400000
set_option linter.unusedSimpArgs false
/-! ### Ids in slices -/
theorem idC_one (x : IdL) : (idLC x).all Value.oneCell' = true := all_v8 _
theorem eqIdB (a b : IdL) : binX Tryz.prog .eql 34 (.agg (a8 a.l)) (.agg (a8 b.l)) = some (.bool (a.l == b.l)) :=
  binX_a8 Tryz.underlying34 Tryz.underlying5 Tryz.ag5 (by kernel_rfl) a.l b.l ⟨a.h, b.h⟩
theorem neIdB (a b : IdL) : binX Tryz.prog .neq 34 (.agg (a8 a.l)) (.agg (a8 b.l)) = some (.bool (!(a.l == b.l))) :=
  binX_a8n Tryz.underlying34 Tryz.underlying5 Tryz.ag5 (by kernel_rfl) a.l b.l ⟨a.h, b.h⟩
theorem IdL.ext2 {a b : IdL} (h : a.l = b.l) : a = b := by cases a; cases b; simp only at h; subst h; rfl
/-- Without what stands behind its like. -/
def uniqI : List IdL → List IdL
  | [] => []
  | [a] => [a]
  | a :: b :: l => if a.l == b.l then uniqI (b :: l) else a :: uniqI (b :: l)
theorem uniqI_map : ∀ (l : List IdL), (uniqI l).map IdL.l = uniq (l.map IdL.l)
  | [] => rfl
  | [a] => rfl
  | a :: b :: l => by
    unfold uniqI
    simp only [List.map_cons, uniq]
    split
    · exact uniqI_map (b :: l)
    · rw [List.map_cons, uniqI_map (b :: l)]; rfl
/-- What is kept of some, behind a last one. -/
def keepI (p : IdL) : List IdL → List IdL
  | [] => []
  | b :: l => if p.l == b.l then keepI b l else b :: keepI b l
theorem uniqI_keep : ∀ (a : IdL) (l : List IdL), uniqI (a :: l) = a :: keepI a l
  | a, [] => rfl
  | a, b :: l => by
    unfold uniqI keepI
    rw [uniqI_keep b l]
    split
    · rename_i h; rw [IdL.ext2 (eq_of_beq h)]
    · rfl
theorem keepI_snoc (x : IdL) : ∀ (p : IdL) (l : List IdL), keepI p (l ++ [x]) = if ((p :: l).getD l.length id0).l == x.l then keepI p l else keepI p l ++ [x]
  | p, [] => by
    simp only [List.nil_append, keepI, List.length_nil, List.getD_cons_zero]
  | p, b :: l => by
    rw [List.cons_append, keepI, keepI, keepI_snoc x b l, List.length_cons, List.getD_cons_succ]
    split <;> split <;> rfl
theorem uniqI_take {l : List IdL} {j : Nat} (h1 : 1 ≤ j) (h2 : j < l.length) : uniqI (l.take (j + 1)) = if (l.getD (j - 1) id0).l == (l.getD j id0).l then uniqI (l.take j) else uniqI (l.take j) ++ [l.getD j id0] := by
  rw [take_snoc (z := id0) h2]
  obtain ⟨a, m, hm⟩ : ∃ a m, l.take j = a :: m := by
    cases h : l.take j with
    | nil =>
      have := congrArg List.length h
      rw [List.length_take, Nat.min_eq_left (by omega)] at this
      simp at this; omega
    | cons a m => exact ⟨a, m, rfl⟩
  have hml : m.length + 1 = j := by
    have := congrArg List.length hm
    rw [List.length_take, Nat.min_eq_left (by omega)] at this
    simp at this; omega
  have hg : (a :: m).getD m.length id0 = l.getD (j - 1) id0 := by
    rw [← hm, getD_take (z := id0) (by omega)]
    congr 1; omega
  rw [hm, List.cons_append, uniqI_keep, uniqI_keep, keepI_snoc, hg]
  split <;> rfl
theorem uniqI_le : ∀ (l : List IdL), (uniqI l).length ≤ l.length
  | [] => Nat.le_refl _
  | [a] => Nat.le_refl _
  | a :: b :: l => by
    unfold uniqI
    have := uniqI_le (b :: l)
    split
    · simp only [List.length_cons] at *; omega
    · simp only [List.length_cons] at *; omega
theorem slice_from (a : Bool) (m b n c k : Nat) (hk : k ≤ n) (hc : k < c) : sliceV (.sl (a, m)) (vsl b 0 n c) (some (some (k : Int))) none = some (vsl b (k * m) (n - k) (c - k)) := by
  unfold sliceV vsl
  simp only [bnd_lo _ _ _ (⟨by omega, by omega⟩ : (0 : Int) ≤ (k : Int) ∧ (k : Int) ≤ (n : Int)), Int.toNat_natCast]
  rw [if_neg (by omega)]
  simp [add_spot]
theorem slice_to (a : Bool) (m b n c k : Nat) (hk : k ≤ c) : sliceV (.sl (a, m)) (vsl b 0 n c) none (some (some (k : Int))) = some (vsl b 0 k c) := by
  unfold sliceV vsl
  simp only [bnd_hi _ _ _ (⟨by omega, by omega⟩ : (0 : Int) ≤ (k : Int) ∧ (k : Int) ≤ (c : Int)), Int.toNat_natCast]
  simp
  intro h; rfl
/-- What Compact leaves. -/
def CompS (b c : Nat) (l : List IdL) (rn : Nat) (E : TypeId) (v : Value) (o : Obj) : Prop :=
  ∃ rest', v = vsl b 0 (uniqI l).length c ∧ o = .cells (((uniqI l).map idLC).flatten ++ rest').toArray E (0, 0) ∧ rest'.length + (uniqI l).length * 32 = l.length * 32 + rn
theorem zrIdB : zeroV Tryz.prog 34 = some (.agg (a8 (List.replicate 32 0))) := Tryz.zr34
theorem zero_at (i : Nat) : (Value.agg (a8 (List.replicate 32 0))).cells[i % (Value.agg (a8 (List.replicate 32 0))).cells.size]! = v8 0 := by
  rw [cells_agg]
  have h : (a8 (List.replicate 32 0)).size = 32 := by simp [a8]
  have h2 : i % (a8 (List.replicate 32 0)).size < (a8 (List.replicate 32 0)).size := by rw [h]; omega
  rw [getElem!_pos (a8 (List.replicate 32 0)) _ h2]
  simp only [a8, List.getElem_toArray, List.getElem_map, List.getElem_replicate]
  rfl
structure CG where
  g : Nat
  k : Nat
  m : List IdL
set_option linter.defProp false
def uWZC_1 := And.intro (And.intro (@rdIn_v8) (@rdIn_vi)) (And.intro (@eqIdB) (@neIdB))
theorem Compact_spec (b c : Nat) (l : List IdL) (rest : List Value) (E : TypeId) (w : World) (hb : w.heap[b]? = some (rowO idLC E rest l)) (hc : l.length ≤ c) (hl : l.length < 1000000) :
    Rets Tryz.prog 33 #[vsl b 0 l.length c] w (fun v D => ∃ o, D = [(b, o)] ∧ CompS b c l rest.length E v o) := by
  refine Rets.enterM Tryz.func33 rfl (rs := [.tmp 2]) Tryz.results33 Tryz.ntmps33 hb ?_
  simp only [List.size_toArray, List.length_cons, List.length_nil, Nat.reduceAdd, Nat.reduceSub, List.replicate_succ, List.replicate_zero, List.cons_append, List.nil_append]
  have hlen : lenV (.sl (true, 32)) (vsl b 0 l.length c) = some (vi l.length) := rfl
  by_cases h2 : l.length < 2
  · have d1 : decide ((l.length : Int) < 2) = true := decide_eq_true (by omega)
    ((try with_reducible refine Cw.go [] ?_); (try simp (disch := (first | assumption | omega | (simp only [lenS, lenT, UInt64.reduceToNat]; try omega))) only [↓Sx.S0, Sx.S1, Tryz.fx, uWZC_1, Nat.reduceAdd, Nat.reducePow, Int.reducePow, Nat.reduceBEq, ↓reduceIte, UInt8.reduceToNat, UInt16.reduceToNat, UInt32.reduceToNat, UInt64.reduceToNat, Int.reduceToNat, hlen, d1]))
    have hu : uniqI l = l := by
      match l, h2 with
      | [], _ => rfl
      | [a], _ => rfl
    refine ⟨_, _, _, (by simp (disch := (first | assumption | omega | (simp only [lenS, lenT, UInt64.reduceToNat]; try omega))) only [↓Sx.S0, Sx.S1, Tryz.fx, uWZC_1, Nat.reduceAdd, Nat.reducePow, Int.reducePow, Nat.reduceBEq, ↓reduceIte, UInt8.reduceToNat, UInt16.reduceToNat, UInt32.reduceToNat, UInt64.reduceToNat, Int.reduceToNat]; rfl), rfl, trivial, ?_⟩
    exact ⟨rest, by rw [hu]; rfl, by rw [hu]; rfl, by rw [hu]; omega⟩
  have d1 : decide ((l.length : Int) < 2) = false := decide_eq_false (by omega)
  ((try with_reducible refine Cw.go [] ?_); (try simp (disch := (first | assumption | omega | (simp only [lenS, lenT, UInt64.reduceToNat]; try omega))) only [↓Sx.S0, Sx.S1, Tryz.fx, uWZC_1, Nat.reduceAdd, Nat.reducePow, Int.reducePow, Nat.reduceBEq, ↓reduceIte, UInt8.reduceToNat, UInt16.reduceToNat, UInt32.reduceToNat, UInt64.reduceToNat, Int.reduceToNat, hlen, d1]))
  refine Cw.loopG (G := Nat) [10, 11, 12, 13, 16, 17, 18, 19, 20, 21, 22, 23, 24, 25, 26, 27, 28, 4, 5, 29, 30, 31, 32, 35, 36, 37, 38, 39, 40, 41, 42, 43, 44, 45, 46, 47, 48, 49, 50, 51, 52, 53, 3, 33, 34, 54, 55, 56, 57, 58, 59, 2, 14, 15] (fun g => [(3, vi g)]) (fun g => [(b, rowO idLC E rest l)]) (fun g => 1 ≤ g ∧ g ≤ l.length ∧ uniqI (l.take g) = l.take g) (fun g => l.length - g) 1 rfl rfl ?_ ?_
  · refine ⟨Nat.le_refl _, by omega, ?_⟩
    cases l with
    | nil => rfl
    | cons a l => rfl
  intro g j hg
  simp only [overFrom, pin, setF_0, setF_s, List.contains_cons, List.contains_nil, Nat.reduceBEq, Bool.or_false, Bool.false_or, Bool.or_true, Bool.true_or, Nat.reduceAdd, ↓reduceIte, Bool.false_eq_true]
  obtain ⟨h1, hgl, hu⟩ := hg
  by_cases hlt : g < l.length
  · have hld : loadV (some (true, 32)) (some (rowO idLC E rest l)) (g * 32) = some (.agg (a8 (l.getD g id0).l)) := load_row idLC_len g hlt
    have hld1 : loadV (some (true, 32)) (some (rowO idLC E rest l)) ((g - 1) * 32) = some (.agg (a8 (l.getD (g - 1) id0).l)) := load_row idLC_len (g - 1) (by omega)
    have d2 : decide ((g : Int) < (l.length : Int)) = true := decide_eq_true (by omega)
    have hst := uniqI_take h1 hlt
    generalize hx : l.getD g id0 = x at *
    generalize hy : l.getD (g - 1) id0 = y at *
    have hsym : (x.l == y.l) = (y.l == x.l) := Bool.beq_comm
    ((try with_reducible refine Cw.go [] ?_); (try simp (disch := (first | assumption | omega | (simp only [lenS, lenT, UInt64.reduceToNat]; try omega))) only [↓Sx.S0, Sx.S1, Tryz.fx, uWZC_1, Nat.reduceAdd, Nat.reducePow, Int.reducePow, Nat.reduceBEq, ↓reduceIte, UInt8.reduceToNat, UInt16.reduceToNat, UInt32.reduceToNat, UInt64.reduceToNat, Int.reduceToNat, hlen, d2]))
    refine Cw.regionS [b] [0, 1, 2, 4, 5, 6, 7, 3, 8, 9] [] (by kernel_rfl) (by kernel_rfl) (by kernel_rfl) ?_
    simp only [nl_cons, ↓pickL_nil, ↓pickL_cons, ↓nthO_0, ↓nthO_s, consO_some]
    refine Ow.goQ ?_
    simp (disch := (first | assumption | omega | (simp only [lenS, lenT, UInt64.reduceToNat]; try omega))) only [↓Sx.S0, Sx.S1, Tryz.fx, uWZC_1, Nat.reduceAdd, Nat.reducePow, Int.reducePow, Nat.reduceBEq, ↓reduceIte, UInt8.reduceToNat, UInt16.reduceToNat, UInt32.reduceToNat, UInt64.reduceToNat, Int.reduceToNat, hlen, hld, hld1]
    cases hxy : (y.l == x.l)
    · rw [hxy] at hsym
      rw [hxy, if_neg (by simp)] at hst
      ((try with_reducible refine Cw.go [] ?_); (try simp (disch := (first | assumption | omega | (simp only [lenS, lenT, UInt64.reduceToNat]; try omega))) only [↓Sx.S0, Sx.S1, Tryz.fx, uWZC_1, Nat.reduceAdd, Nat.reducePow, Int.reducePow, Nat.reduceBEq, ↓reduceIte, UInt8.reduceToNat, UInt16.reduceToNat, UInt32.reduceToNat, UInt64.reduceToNat, Int.reduceToNat, hsym]))
      refine Again.mk (G := Nat) (g + 1) (by show l.length - (g + 1) < l.length - g; omega) ⟨by show 1 ≤ g + 1; omega, hlt, ?_⟩ rfl rfl
      rw [hst, hu, ← hx, ← take_snoc hlt]
    · rw [hxy] at hsym
      rw [hxy, if_pos rfl, hu] at hst
      have hs2 := slice_from true 32 b l.length c g (by omega) (by omega)
      ((try with_reducible refine Cw.go [] ?_); (try simp (disch := (first | assumption | omega | (simp only [lenS, lenT, UInt64.reduceToNat]; try omega))) only [↓Sx.S0, Sx.S1, Tryz.fx, uWZC_1, Nat.reduceAdd, Nat.reducePow, Int.reducePow, Nat.reduceBEq, ↓reduceIte, UInt8.reduceToNat, UInt16.reduceToNat, UInt32.reduceToNat, UInt64.reduceToNat, Int.reduceToNat, hsym, hs2]))
      have hlen2 : lenV (.sl (true, 32)) (vsl b (g * 32) (l.length - g) (c - g)) = some (vi (l.length - g : Nat)) := rfl
      have hul : (l.take g).length = g := by rw [List.length_take, Nat.min_eq_left (by omega)]
      refine Cw.loopG (G := CG) [29, 30, 31, 32, 35, 36, 37, 38, 39, 40, 41, 42, 43, 44, 45, 46, 47, 48, 49, 50, 51, 52, 53, 3, 33, 34, 5] (fun q => [(3, vi q.k), (5, vi q.g)]) (fun q => [(b, rowO idLC E rest q.m)]) (fun q => 1 ≤ q.g ∧ g + q.g ≤ l.length ∧ q.m.length = l.length ∧ q.m.take q.k = uniqI (l.take (g + q.g)) ∧ (uniqI (l.take (g + q.g))).length = q.k ∧ q.k + 1 ≤ g + q.g ∧ q.m.drop (g + q.g - 1) = l.drop (g + q.g - 1)) (fun q => l.length - q.g) ⟨1, g, l⟩ rfl rfl ?_ ?_
      · refine ⟨Nat.le_refl _, by show g + 1 ≤ l.length; omega, rfl, ?_, ?_, Nat.le_refl _, rfl⟩
        · rw [hst]
        · rw [hst]; exact hul
      intro q jq hq
      simp only [overFrom, pin, setF_0, setF_s, List.contains_cons, List.contains_nil, Nat.reduceBEq, Bool.or_false, Bool.false_or, Bool.or_true, Bool.true_or, Nat.reduceAdd, ↓reduceIte, Bool.false_eq_true]
      obtain ⟨q, k, m⟩ := q
      simp only at hq ⊢
      obtain ⟨hq1, hqn, hml, htk, hkl, hk1, hdr⟩ := hq
      by_cases hql : g + q < l.length
      · have d3 : decide ((q : Int) < ((l.length - g : Nat) : Int)) = true := decide_eq_true (by omega)
        have e1 : g * 32 + q * 32 = (g + q) * 32 := by omega
        have e2 : g * 32 + (q - 1) * 32 = (g + q - 1) * 32 := by omega
        have hm0 : m.getD (g + q) id0 = l.getD (g + q) id0 := by
          have h := congrArg (fun z => List.getD z 1 id0) hdr
          simp only [getD_drop] at h
          rw [show g + q - 1 + 1 = g + q by omega] at h
          exact h
        have hm1 : m.getD (g + q - 1) id0 = l.getD (g + q - 1) id0 := by
          have h := congrArg (fun z => List.getD z 0 id0) hdr
          simp only [getD_drop] at h
          exact h
        have hl2 : loadV (some (true, 32)) (some (rowO idLC E rest m)) ((g + q) * 32) = some (.agg (a8 (m.getD (g + q) id0).l)) := load_row idLC_len (g + q) (by omega)
        have hl3 : loadV (some (true, 32)) (some (rowO idLC E rest m)) ((g + q - 1) * 32) = some (.agg (a8 (m.getD (g + q - 1) id0).l)) := load_row idLC_len (g + q - 1) (by omega)
        rw [← e1] at hl2
        rw [← e2] at hl3
        rw [hm0] at hl2
        rw [hm1] at hl3
        have hst2 := uniqI_take (l := l) (j := g + q) (by omega) hql
        generalize hx2 : l.getD (g + q) id0 = x2 at *
        generalize hy2 : l.getD (g + q - 1) id0 = y2 at *
        have hsym2 : (x2.l == y2.l) = (y2.l == x2.l) := Bool.beq_comm
        ((try with_reducible refine Cw.go [] ?_); (try simp (disch := (first | assumption | omega | (simp only [lenS, lenT, UInt64.reduceToNat]; try omega))) only [↓Sx.S0, Sx.S1, Tryz.fx, uWZC_1, Nat.reduceAdd, Nat.reducePow, Int.reducePow, Nat.reduceBEq, ↓reduceIte, UInt8.reduceToNat, UInt16.reduceToNat, UInt32.reduceToNat, UInt64.reduceToNat, Int.reduceToNat, hlen2, d3]))
        refine Cw.regionS [b] [0, 1, 2, 4, 5, 6, 7, 3, 8, 9] [] (by kernel_rfl) (by kernel_rfl) (by kernel_rfl) ?_
        simp only [nl_cons, ↓pickL_nil, ↓pickL_cons, ↓nthO_0, ↓nthO_s, consO_some]
        refine Ow.goQ ?_
        simp (disch := (first | assumption | omega | (simp only [lenS, lenT, UInt64.reduceToNat]; try omega))) only [↓Sx.S0, Sx.S1, Tryz.fx, uWZC_1, Nat.reduceAdd, Nat.reducePow, Int.reducePow, Nat.reduceBEq, ↓reduceIte, UInt8.reduceToNat, UInt16.reduceToNat, UInt32.reduceToNat, UInt64.reduceToNat, Int.reduceToNat, hlen2, hl2, hl3]
        cases hxy2 : (y2.l == x2.l)
        · rw [hxy2] at hsym2
          rw [hxy2, if_neg (by simp)] at hst2
          have hsr := store_row (enc := idLC) (E := E) (rest := rest) (d := m) idLC_len idC_one k x2 true (by omega)
          rw [show (idLC x2).toArray = a8 x2.l from rfl] at hsr
          have d4 : (!false) = true := rfl
          ((try with_reducible refine Cw.go [] ?_); (try simp (disch := (first | assumption | omega | (simp only [lenS, lenT, UInt64.reduceToNat]; try omega))) only [↓Sx.S0, Sx.S1, Tryz.fx, uWZC_1, Nat.reduceAdd, Nat.reducePow, Int.reducePow, Nat.reduceBEq, ↓reduceIte, UInt8.reduceToNat, UInt16.reduceToNat, UInt32.reduceToNat, UInt64.reduceToNat, Int.reduceToNat, hsym2, d4, hl2, hsr]))
          have hkn : k < g + q := by omega
          refine Again.mk (G := CG) ⟨q + 1, k + 1, m.set k x2⟩ (by show l.length - (q + 1) < l.length - q; omega) ⟨by show 1 ≤ q + 1; omega, by show g + (q + 1) ≤ l.length; omega, by show (m.set k x2).length = l.length; rw [List.length_set]; exact hml, ?_, ?_, by show k + 1 + 1 ≤ g + (q + 1); omega, ?_⟩ rfl rfl
          · show (m.set k x2).take (k + 1) = uniqI (l.take (g + (q + 1)))
            rw [← Nat.add_assoc, hst2, take_snoc (z := id0) (by rw [List.length_set]; omega), List.take_set_of_le (Nat.le_refl _), htk]
            congr 1
            rw [List.getD_eq_getElem?_getD, List.getElem?_set_self (by omega)]; rfl
          · show (uniqI (l.take (g + (q + 1)))).length = k + 1
            rw [← Nat.add_assoc, hst2, List.length_append, hkl]; rfl
          · show (m.set k x2).drop (g + (q + 1) - 1) = l.drop (g + (q + 1) - 1)
            rw [List.drop_set_of_lt (by omega)]
            have h := congrArg (List.drop 1) hdr
            rw [List.drop_drop, List.drop_drop] at h
            rw [show g + (q + 1) - 1 = g + q - 1 + 1 by omega]; exact h
        · rw [hxy2] at hsym2
          rw [hxy2, if_pos rfl] at hst2
          have d4 : (!true) = false := rfl
          ((try with_reducible refine Cw.go [] ?_); (try simp (disch := (first | assumption | omega | (simp only [lenS, lenT, UInt64.reduceToNat]; try omega))) only [↓Sx.S0, Sx.S1, Tryz.fx, uWZC_1, Nat.reduceAdd, Nat.reducePow, Int.reducePow, Nat.reduceBEq, ↓reduceIte, UInt8.reduceToNat, UInt16.reduceToNat, UInt32.reduceToNat, UInt64.reduceToNat, Int.reduceToNat, hsym2, d4]))
          refine Again.mk (G := CG) ⟨q + 1, k, m⟩ (by show l.length - (q + 1) < l.length - q; omega) ⟨by show 1 ≤ q + 1; omega, by show g + (q + 1) ≤ l.length; omega, hml, ?_, ?_, by show k + 1 ≤ g + (q + 1); omega, ?_⟩ rfl rfl
          · show m.take k = uniqI (l.take (g + (q + 1)))
            rw [← Nat.add_assoc, hst2]; exact htk
          · show (uniqI (l.take (g + (q + 1)))).length = k
            rw [← Nat.add_assoc, hst2]; exact hkl
          · show m.drop (g + (q + 1) - 1) = l.drop (g + (q + 1) - 1)
            have h := congrArg (List.drop 1) hdr
            rw [List.drop_drop, List.drop_drop] at h
            rw [show g + (q + 1) - 1 = g + q - 1 + 1 by omega]; exact h
      · obtain rfl : q = l.length - g := by omega
        have d3 : decide (((l.length - g : Nat) : Int) < ((l.length - g : Nat) : Int)) = false := by simp
        have hgq : g + (l.length - g) = l.length := by omega
        rw [hgq] at hk1 htk hkl
        rw [List.take_length] at htk hkl
        have hcl := slice_from true 32 b l.length c k (by omega) (by omega)
        have hct := slice_to true 32 b l.length c k (by omega)
        ((try with_reducible refine Cw.go [] ?_); (try simp (disch := (first | assumption | omega | (simp only [lenS, lenT, UInt64.reduceToNat]; try omega))) only [↓Sx.S0, Sx.S1, Tryz.fx, uWZC_1, Nat.reduceAdd, Nat.reducePow, Int.reducePow, Nat.reduceBEq, ↓reduceIte, UInt8.reduceToNat, UInt16.reduceToNat, UInt32.reduceToNat, UInt64.reduceToNat, Int.reduceToNat, hlen2, d3, hcl]))
        have hsp : (m.map idLC).flatten ++ rest = ((uniqI l).map idLC).flatten ++ (((m.drop k).map idLC).flatten ++ rest) := by
          rw [← htk, ← List.append_assoc, ← List.flatten_append, ← List.map_append, List.take_append_drop]
        have hAl : (((uniqI l).map idLC).flatten).length = k * 32 := by rw [flat_len idLC_len, hkl]
        have hBl : (((m.drop k).map idLC).flatten ++ rest).length = (l.length - k) * 32 + rest.length := by
          rw [List.length_append, flat_len idLC_len, List.length_drop, hml]
        have hzl : (Builtin.zeroCells (Value.agg (a8 (List.replicate 32 0))).cells (l.length - k)).toList.length = (l.length - k) * 32 := by
          simp [Builtin.zeroCells, cells_agg, a8]
        refine Ow.clearRow (e := 34) (cs := ((m.map idLC).flatten ++ rest).toArray) (E := E) rfl rfl Tryz.underlying36 zrIdB ?_ rfl (by omega) (look_same _ _ _) ?_ ?_
        · intro v hv
          obtain rfl : v = v8 0 := by
            simp only [Builtin.zeroCells, Array.toList_map, List.mem_map] at hv
            obtain ⟨i, -, rfl⟩ := hv
            exact zero_at i
          rfl
        · have h1 : ((m.map idLC).flatten ++ rest).length = k * 32 + ((l.length - k) * 32 + rest.length) := by rw [hsp, List.length_append, hAl, hBl]
          have e32 : (Value.agg (a8 (List.replicate 32 0))).cells.size = 32 := by rw [cells_agg]; simp [a8]
          rw [e32, List.size_toArray, h1]
          omega
        rw [hsp, ← hAl, putC_app _ _ _ (by rw [hzl, hBl]; omega)]
        generalize hzz : (Builtin.zeroCells (Value.agg (a8 (List.replicate 32 0))).cells (l.length - k)).toList = zz at *
        refine Ow.go rfl ?_
        simp (disch := (first | assumption | omega | (simp only [lenS, lenT, UInt64.reduceToNat]; try omega))) only [↓Sx.S0, Sx.S1, Tryz.fx, uWZC_1, Nat.reduceAdd, Nat.reducePow, Int.reducePow, Nat.reduceBEq, ↓reduceIte, UInt8.reduceToNat, UInt16.reduceToNat, UInt32.reduceToNat, UInt64.reduceToNat, Int.reduceToNat]
        ((try with_reducible refine Cw.go [] ?_); (try simp (disch := (first | assumption | omega | (simp only [lenS, lenT, UInt64.reduceToNat]; try omega))) only [↓Sx.S0, Sx.S1, Tryz.fx, uWZC_1, Nat.reduceAdd, Nat.reducePow, Int.reducePow, Nat.reduceBEq, ↓reduceIte, UInt8.reduceToNat, UInt16.reduceToNat, UInt32.reduceToNat, UInt64.reduceToNat, Int.reduceToNat, hct]))
        rw [List.append_assoc]
        refine ⟨_, _, _, (by simp (disch := (first | assumption | omega | (simp only [lenS, lenT, UInt64.reduceToNat]; try omega))) only [↓Sx.S0, Sx.S1, Tryz.fx, uWZC_1, Nat.reduceAdd, Nat.reducePow, Int.reducePow, Nat.reduceBEq, ↓reduceIte, UInt8.reduceToNat, UInt16.reduceToNat, UInt32.reduceToNat, UInt64.reduceToNat, Int.reduceToNat]; rfl), rfl, trivial, ?_⟩
        exact ⟨_, by rw [hkl]; rfl, rfl, by rw [List.length_append, List.length_drop, hzl, hBl, hkl]; omega⟩
  · obtain rfl : g = l.length := by omega
    have d2 : decide ((l.length : Int) < (l.length : Int)) = false := by simp
    rw [List.take_length] at hu
    ((try with_reducible refine Cw.go [] ?_); (try simp (disch := (first | assumption | omega | (simp only [lenS, lenT, UInt64.reduceToNat]; try omega))) only [↓Sx.S0, Sx.S1, Tryz.fx, uWZC_1, Nat.reduceAdd, Nat.reducePow, Int.reducePow, Nat.reduceBEq, ↓reduceIte, UInt8.reduceToNat, UInt16.reduceToNat, UInt32.reduceToNat, UInt64.reduceToNat, Int.reduceToNat, hlen, d2]))
    refine ⟨_, _, _, (by simp (disch := (first | assumption | omega | (simp only [lenS, lenT, UInt64.reduceToNat]; try omega))) only [↓Sx.S0, Sx.S1, Tryz.fx, uWZC_1, Nat.reduceAdd, Nat.reducePow, Int.reducePow, Nat.reduceBEq, ↓reduceIte, UInt8.reduceToNat, UInt16.reduceToNat, UInt32.reduceToNat, UInt64.reduceToNat, Int.reduceToNat]; rfl), rfl, trivial, ?_⟩
    exact ⟨rest, by rw [hu]; rfl, by rw [hu]; rfl, by rw [hu]; omega⟩
end Go.Proofs
end
section
open Go Go.Proofs Go.Sx Go.RefP Go.RooP
namespace Go.Proofs
set_option maxRecDepth 10000
set_option maxHeartbeats 400000
set_option linter.unusedSimpArgs false
/-! ### The document's order of ids -/
theorem lt_at : ∀ (g : Nat) (a b : List UInt8), a.take g = b.take g → g < a.length → g < b.length → a.getD g 0 ≠ b.getD g 0 → ltB a b = decide (a.getD g 0 < b.getD g 0)
  | _, [], _, _, h, _, _ => by simp at h
  | _, _ :: _, [], _, _, h, _ => by simp at h
  | 0, x :: a, y :: b, _, _, _, hne => by
    simp only [List.getD_cons_zero] at hne ⊢
    rw [ltB_eq]
    simp only [List.cons_lt_cons_iff]
    simp [hne]
  | g + 1, x :: a, y :: b, h, h1, h2, hne => by
    simp only [List.take_succ_cons, List.cons.injEq] at h
    simp only [List.getD_cons_succ] at hne ⊢
    obtain ⟨rfl, h⟩ := h
    have ih := lt_at g a b h (by simpa using h1) (by simpa using h2) hne
    rw [ltB_eq] at ih ⊢
    rw [← ih]
    simp
set_option linter.defProp false
def uRR1_1 := And.intro (And.intro (@rdIn_v8) (@rdIn_vi)) (And.intro (@eqIdB) (@neIdB))
theorem LessI_spec (x y : IdL) (w : World) : Rets Tryz.prog 60 #[.agg (a8 x.l), .agg (a8 y.l)] w (fun v D => v = .bool (ltB x.l y.l) ∧ D = []) := by
  have hx := x.h
  have hy := y.h
  refine Rets.enterV Tryz.func60 rfl (rs := [.tmp 4]) Tryz.results60 Tryz.ntmps60 ?_
  simp only [List.size_toArray, List.length_cons, List.length_nil, Nat.reduceAdd, Nat.reduceSub, List.replicate_succ, List.replicate_zero, List.cons_append, List.nil_append]
  ((try with_reducible refine Cw.go [] ?_); (try simp (disch := (first | assumption | omega | (simp only [lenS, lenT, UInt64.reduceToNat]; try omega))) only [↓Sx.S0, Sx.S1, Tryz.fx, uRR1_1, Nat.reduceAdd, Nat.reducePow, Int.reducePow, Nat.reduceBEq, ↓reduceIte, UInt8.reduceToNat, UInt16.reduceToNat, UInt32.reduceToNat, UInt64.reduceToNat, Int.reduceToNat]))
  refine Ow.box rfl rfl fun b2 hb2 hw2 => ?_
  simp only [ev_tmp, getF_0, getF_s, cells_agg, List.nil_append, List.cons_append]
  refine Ow.go rfl ?_
  simp (disch := (first | assumption | omega | (simp only [lenS, lenT, UInt64.reduceToNat]; try omega))) only [↓Sx.S0, Sx.S1, Tryz.fx, uRR1_1, Nat.reduceAdd, Nat.reducePow, Int.reducePow, Nat.reduceBEq, ↓reduceIte, UInt8.reduceToNat, UInt16.reduceToNat, UInt32.reduceToNat, UInt64.reduceToNat, Int.reduceToNat]
  refine Ow.box rfl rfl fun b3 hb3 hw3 => ?_
  simp only [ev_tmp, getF_0, getF_s, cells_agg, List.nil_append, List.cons_append]
  refine Ow.go rfl ?_
  simp (disch := (first | assumption | omega | (simp only [lenS, lenT, UInt64.reduceToNat]; try omega))) only [↓Sx.S0, Sx.S1, Tryz.fx, uRR1_1, Nat.reduceAdd, Nat.reducePow, Int.reducePow, Nat.reduceBEq, ↓reduceIte, UInt8.reduceToNat, UInt16.reduceToNat, UInt32.reduceToNat, UInt64.reduceToNat, Int.reduceToNat]
  obtain ⟨h23, -⟩ := hb3
  ((try with_reducible refine Cw.go [] ?_); (try simp (disch := (first | assumption | omega | (simp only [lenS, lenT, UInt64.reduceToNat]; try omega))) only [↓Sx.S0, Sx.S1, Tryz.fx, uRR1_1, Nat.reduceAdd, Nat.reducePow, Int.reducePow, Nat.reduceBEq, ↓reduceIte, UInt8.reduceToNat, UInt16.reduceToNat, UInt32.reduceToNat, UInt64.reduceToNat, Int.reduceToNat]))
  refine Cw.loopG (G := Nat) [6, 7, 10, 11, 12, 13, 14, 15, 16, 17, 18, 19, 20, 21, 22, 23, 4, 8, 9, 5] (fun g => [(5, vi g)]) (fun g => [(b2, .cells (a8 x.l) 34 (0, 0)), (b3, .cells (a8 y.l) 34 (0, 0))]) (fun g => g ≤ 32 ∧ x.l.take g = y.l.take g) (fun g => 32 - g) 0 rfl rfl ?_ ?_
  · exact ⟨Nat.zero_le _, rfl⟩
  intro g j hg
  simp only [overFrom, pin, setF_0, setF_s, List.contains_cons, List.contains_nil, Nat.reduceBEq, Bool.or_false, Bool.false_or, Bool.or_true, Bool.true_or, Nat.reduceAdd, ↓reduceIte, Bool.false_eq_true]
  obtain ⟨hg1, hg2⟩ := hg
  by_cases hlt : g < 32
  · have d1 : decide ((g : Int) < 32) = true := decide_eq_true (by omega)
    ((try with_reducible refine Cw.go [] ?_); (try simp (disch := (first | assumption | omega | (simp only [lenS, lenT, UInt64.reduceToNat]; try omega))) only [↓Sx.S0, Sx.S1, Tryz.fx, uRR1_1, Nat.reduceAdd, Nat.reducePow, Int.reducePow, Nat.reduceBEq, ↓reduceIte, UInt8.reduceToNat, UInt16.reduceToNat, UInt32.reduceToNat, UInt64.reduceToNat, Int.reduceToNat, d1]))
    refine Cw.regionS [b2, b3] [0, 1, 3, 4, 2, 5, 6] [] (by kernel_rfl) (by kernel_rfl) (by kernel_rfl) ?_
    simp only [nl_cons, ↓pickL_nil, ↓pickL_cons, ↓nthO_0, ↓nthO_s, consO_some]
    refine Ow.goQ ?_
    simp (disch := (first | assumption | omega | (simp only [lenS, lenT, UInt64.reduceToNat]; try omega))) only [↓Sx.S0, Sx.S1, Tryz.fx, uRR1_1, Nat.reduceAdd, Nat.reducePow, Int.reducePow, Nat.reduceBEq, ↓reduceIte, UInt8.reduceToNat, UInt16.reduceToNat, UInt32.reduceToNat, UInt64.reduceToNat, Int.reduceToNat]
    by_cases hne : x.l.getD g 0 = y.l.getD g 0
    · have d2 : (x.l.getD g 0 != y.l.getD g 0) = false := by rw [hne]; exact bne_self_eq_false _
      ((try with_reducible refine Cw.go [] ?_); (try simp (disch := (first | assumption | omega | (simp only [lenS, lenT, UInt64.reduceToNat]; try omega))) only [↓Sx.S0, Sx.S1, Tryz.fx, uRR1_1, Nat.reduceAdd, Nat.reducePow, Int.reducePow, Nat.reduceBEq, ↓reduceIte, UInt8.reduceToNat, UInt16.reduceToNat, UInt32.reduceToNat, UInt64.reduceToNat, Int.reduceToNat, d2]))
      refine Again.mk (G := Nat) (g + 1) (by show 32 - (g + 1) < 32 - g; omega) ⟨by show g + 1 ≤ 32; omega, ?_⟩ rfl rfl
      rw [StP.take_snoc (z := 0) (by omega), StP.take_snoc (z := 0) (by omega), hg2, hne]
    · have d2 : (x.l.getD g 0 != y.l.getD g 0) = true := by simpa using hne
      ((try with_reducible refine Cw.go [] ?_); (try simp (disch := (first | assumption | omega | (simp only [lenS, lenT, UInt64.reduceToNat]; try omega))) only [↓Sx.S0, Sx.S1, Tryz.fx, uRR1_1, Nat.reduceAdd, Nat.reducePow, Int.reducePow, Nat.reduceBEq, ↓reduceIte, UInt8.reduceToNat, UInt16.reduceToNat, UInt32.reduceToNat, UInt64.reduceToNat, Int.reduceToNat, d2]))
      refine Cw.regionS [b2, b3] [0, 1, 3, 4, 2, 5, 6, 7] [] (by kernel_rfl) (by kernel_rfl) (by kernel_rfl) ?_
      simp only [nl_cons, ↓pickL_nil, ↓pickL_cons, ↓nthO_0, ↓nthO_s, consO_some]
      refine Ow.goQ ?_
      simp (disch := (first | assumption | omega | (simp only [lenS, lenT, UInt64.reduceToNat]; try omega))) only [↓Sx.S0, Sx.S1, Tryz.fx, uRR1_1, Nat.reduceAdd, Nat.reducePow, Int.reducePow, Nat.reduceBEq, ↓reduceIte, UInt8.reduceToNat, UInt16.reduceToNat, UInt32.reduceToNat, UInt64.reduceToNat, Int.reduceToNat]
      try with_reducible refine Ow.nil ?_
      ((try with_reducible refine Cw.go [] ?_); (try simp (disch := (first | assumption | omega | (simp only [lenS, lenT, UInt64.reduceToNat]; try omega))) only [↓Sx.S0, Sx.S1, Tryz.fx, uRR1_1, Nat.reduceAdd, Nat.reducePow, Int.reducePow, Nat.reduceBEq, ↓reduceIte, UInt8.reduceToNat, UInt16.reduceToNat, UInt32.reduceToNat, UInt64.reduceToNat, Int.reduceToNat]))
      refine ⟨_, (by simp (disch := (first | assumption | omega | (simp only [lenS, lenT, UInt64.reduceToNat]; try omega))) only [↓Sx.S0, Sx.S1, Tryz.fx, uRR1_1, Nat.reduceAdd, Nat.reducePow, Int.reducePow, Nat.reduceBEq, ↓reduceIte, UInt8.reduceToNat, UInt16.reduceToNat, UInt32.reduceToNat, UInt64.reduceToNat, Int.reduceToNat]; rfl), ⟨hw2, hw3, trivial⟩, ?_⟩
      rw [lt_at g x.l y.l hg2 (by omega) (by omega) hne]; rfl
  · obtain rfl : g = 32 := by omega
    have d1 : decide (((32 : Nat) : Int) < 32) = false := rfl
    ((try with_reducible refine Cw.go [] ?_); (try simp (disch := (first | assumption | omega | (simp only [lenS, lenT, UInt64.reduceToNat]; try omega))) only [↓Sx.S0, Sx.S1, Tryz.fx, uRR1_1, Nat.reduceAdd, Nat.reducePow, Int.reducePow, Nat.reduceBEq, ↓reduceIte, UInt8.reduceToNat, UInt16.reduceToNat, UInt32.reduceToNat, UInt64.reduceToNat, Int.reduceToNat, d1]))
    have e : ltB x.l y.l = false := by
      rw [List.take_of_length_le (by omega), List.take_of_length_le (by omega)] at hg2
      rw [hg2]; exact ltB_irrefl _
    refine ⟨_, (by simp (disch := (first | assumption | omega | (simp only [lenS, lenT, UInt64.reduceToNat]; try omega))) only [↓Sx.S0, Sx.S1, Tryz.fx, uRR1_1, Nat.reduceAdd, Nat.reducePow, Int.reducePow, Nat.reduceBEq, ↓reduceIte, UInt8.reduceToNat, UInt16.reduceToNat, UInt32.reduceToNat, UInt64.reduceToNat, Int.reduceToNat]; rfl), ⟨hw2, hw3, trivial⟩, ?_⟩
    rw [e]; rfl
/-- An id in its place, once. -/
def putL (x : IdL) : List IdL → List IdL
  | [] => [x]
  | a :: l => if ltB a.l x.l = true then a :: putL x l else if a.l == x.l then a :: l else x :: a :: l
theorem putL_map (x : IdL) : ∀ (l : List IdL), (putL x l).map IdL.l = putI x.l (l.map IdL.l)
  | [] => rfl
  | a :: l => by
    unfold putL
    simp only [List.map_cons, putI]
    split
    · rw [List.map_cons, putL_map x l]
    · split <;> rfl
theorem putL_len (x : IdL) : ∀ (l : List IdL), (putL x l).length ≤ l.length + 1
  | [] => Nat.le_refl _
  | a :: l => by
    unfold putL
    have := putL_len x l
    split
    · simp only [List.length_cons]; omega
    · split <;> simp
abbrev IdSl (w : World) (v : Value) (l : List IdL) : Prop := SlV 32 idLC id0 w v l
theorem sliceIdA (i : IdL) : sliceB Tryz.prog 36 1 [(0, .agg (a8 i.l))] = some (34, (idLC i).toArray) :=
  slice_one Tryz.underlying36 Tryz.ag34 zrIdB (by decide) (idLC_len i)
theorem load_idA (x : IdL) (E : TypeId) : loadV (some (true, 32)) (some (.cells (a8 x.l) E (0, 0))) 0 = some (.agg (a8 x.l)) := load_all8 _ E (0, 0) 32 x.h
theorem row_idA {w : World} {v : Value} {l : List IdL} {b off : Nat} {arr : Array Value} {E : TypeId} {fz : Nat × Nat} (h : RowS 32 idLC id0 w v l b off arr E fz) {k : Nat} (hk : k < l.length) :
    loadV (some (true, 32)) (some (.cells arr E fz)) (off + k * 32) = some (.agg (a8 (l.getD k id0).l)) := RowS.load h idLC_len (by omega) hk
/-- What PutId hands back. -/
def PutS (v : Value) (l : List IdL) (x : IdL) (v' : Value) (D : Heap) : Prop :=
  (v' = v ∧ putL x l = l) ∨ GrI D 34 32 v' (putL x l).length ((putL x l).map idLC).flatten
set_option linter.defProp false
def uRR1_2 := And.intro (And.intro (@rdIn_v8) (@rdIn_vi)) (And.intro (@eqIdB) (And.intro (@neIdB) (@load_idA)))
theorem PutId_spec (v : Value) (l : List IdL) (x : IdL) (w : World) (hv : IdSl w v l) (hl : l.length < 100000) :
    Rets Tryz.prog 34 #[v, .agg (a8 x.l)] w (XS w [] (PutS v l x)) := by
  obtain ⟨b, off, arr, E, fz, hr⟩ := hv.row
  have ln := hv.len
  refine Rets.enterX Tryz.func34 rfl (rs := [.tmp 4]) Tryz.results34 Tryz.ntmps34 (fun p hp => by cases hp) (by simp [keys]) ?_
  simp only [List.size_toArray, List.length_cons, List.length_nil, Nat.reduceAdd, Nat.reduceSub, List.replicate_succ, List.replicate_zero, List.cons_append, List.nil_append]
  ((try with_reducible refine Cw.go [] ?_); (try simp (disch := (first | assumption | omega | (simp only [lenS, lenT, UInt64.reduceToNat]; try omega))) only [↓Sx.S0, Sx.S1, Tryz.fx, uRR1_2, Nat.reduceAdd, Nat.reducePow, Int.reducePow, Nat.reduceBEq, ↓reduceIte, UInt8.reduceToNat, UInt16.reduceToNat, UInt32.reduceToNat, UInt64.reduceToNat, Int.reduceToNat]))
  refine Ow.box rfl rfl fun b3 hb3 hw3 => ?_
  simp only [ev_tmp, getF_0, getF_s, cells_agg, List.nil_append, List.cons_append]
  refine Ow.go rfl ?_
  simp (disch := (first | assumption | omega | (simp only [lenS, lenT, UInt64.reduceToNat]; try omega))) only [↓Sx.S0, Sx.S1, Tryz.fx, uRR1_2, Nat.reduceAdd, Nat.reducePow, Int.reducePow, Nat.reduceBEq, ↓reduceIte, UInt8.reduceToNat, UInt16.reduceToNat, UInt32.reduceToNat, UInt64.reduceToNat, Int.reduceToNat]
  ((try with_reducible refine Cw.go [] ?_); (try simp (disch := (first | assumption | omega | (simp only [lenS, lenT, UInt64.reduceToNat]; try omega))) only [↓Sx.S0, Sx.S1, Tryz.fx, uRR1_2, Nat.reduceAdd, Nat.reducePow, Int.reducePow, Nat.reduceBEq, ↓reduceIte, UInt8.reduceToNat, UInt16.reduceToNat, UInt32.reduceToNat, UInt64.reduceToNat, Int.reduceToNat]))
  have hN3 : New w.heap.size [(b3, Obj.cells (a8 x.l) 34 (0, 0))] := ⟨hw3, trivial⟩
  refine Cw.loopG (G := Nat) [7, 8, 9, 10, 11, 12, 13, 14, 15, 16, 17, 18, 19, 20, 5] (fun g => [(5, vi g)]) (fun g => [(b3, .cells (a8 x.l) 34 (0, 0))]) (fun g => g ≤ l.length ∧ putL x l = l.take g ++ putL x (l.drop g)) (fun g => l.length - g) 0 rfl rfl ?_ ?_
  · exact ⟨Nat.zero_le _, rfl⟩
  intro g j hg
  simp only [overFrom, pin, setF_0, setF_s, List.contains_cons, List.contains_nil, Nat.reduceBEq, Bool.or_false, Bool.false_or, Bool.or_true, Bool.true_or, Nat.reduceAdd, ↓reduceIte, Bool.false_eq_true]
  obtain ⟨h1, h2⟩ := hg
  obtain ⟨vt, hvt, hlt', -⟩ := hv.take h1 true
  obtain ⟨vd, hvd, hld', -⟩ := hv.dropE h1 true
  by_cases hlt : g < l.length
  · have hb0 : 0 < l.length := by omega
    have hbl := hr.lt hb0
    have r2 := hr.has hb0
    have hne : b3 ≠ b := by omega
    have i2 := hr.idx true g hlt
    have l2 := row_idA hr hlt
    have hdc := StP.drop_cons (z := id0) hlt
    generalize hy : l.getD g id0 = y at *
    have rb : readB w [(b3, Obj.cells (a8 x.l) 34 (0, 0))] b = some (.cells arr E fz) := by rw [read_none (by simp [keys]; omega)]; exact r2
    have d1 : decide ((g : Int) < (l.length : Int)) = true := decide_eq_true (by omega)
    ((try with_reducible refine Cw.go [] ?_); (try simp (disch := (first | assumption | omega | (simp only [lenS, lenT, UInt64.reduceToNat]; try omega))) only [↓Sx.S0, Sx.S1, Tryz.fx, uRR1_2, Nat.reduceAdd, Nat.reducePow, Int.reducePow, Nat.reduceBEq, ↓reduceIte, UInt8.reduceToNat, UInt16.reduceToNat, UInt32.reduceToNat, UInt64.reduceToNat, Int.reduceToNat]))
    refine Cw.regionS [b, b3] [0, 1, 2, 3, 4, 5, 6, 7, 8, 9, 10, 11] [] (by kernel_rfl) (by kernel_rfl) (by kernel_rfl) ?_
    simp only [nl_cons, ↓pickL_nil, ↓pickL_cons, ↓nthO_0, ↓nthO_s, consO_some]
    refine Ow.goQ ?_
    simp (disch := (first | assumption | omega | (simp only [lenS, lenT, UInt64.reduceToNat]; try omega))) only [↓Sx.S0, Sx.S1, Tryz.fx, uRR1_2, Nat.reduceAdd, Nat.reducePow, Int.reducePow, Nat.reduceBEq, ↓reduceIte, UInt8.reduceToNat, UInt16.reduceToNat, UInt32.reduceToNat, UInt64.reduceToNat, Int.reduceToNat, ln, d1, i2, rb, l2]
    refine Ow.soft rfl rfl rfl ?_
    refine Ow.callFV rfl Tryz.call60 (fun w' hw' => LessI_spec y x w') ?_
    with_reducible refine Ow.nil ?_
    refine ⟨by intro b hb; simp only [List.mem_cons, List.not_mem_nil, or_false] at hb; (try subst hb); rfl, ?_⟩
    cases hyx : ltB y.l x.l
    · refine Ow.goQ ?_
      simp (disch := (first | assumption | omega | (simp only [lenS, lenT, UInt64.reduceToNat]; try omega))) only [↓Sx.S0, Sx.S1, Tryz.fx, uRR1_2, Nat.reduceAdd, Nat.reducePow, Int.reducePow, Nat.reduceBEq, ↓reduceIte, UInt8.reduceToNat, UInt16.reduceToNat, UInt32.reduceToNat, UInt64.reduceToNat, Int.reduceToNat]
      try with_reducible refine Ow.nil ?_
      ((try with_reducible refine Cw.go [] ?_); (try simp (disch := (first | assumption | omega | (simp only [lenS, lenT, UInt64.reduceToNat]; try omega))) only [↓Sx.S0, Sx.S1, Tryz.fx, uRR1_2, Nat.reduceAdd, Nat.reducePow, Int.reducePow, Nat.reduceBEq, ↓reduceIte, UInt8.reduceToNat, UInt16.reduceToNat, UInt32.reduceToNat, UInt64.reduceToNat, Int.reduceToNat]))
      refine Cw.regionS [b, b3] [0, 1, 2, 3, 4, 5, 6, 7, 8, 9, 10, 11] [] (by kernel_rfl) (by kernel_rfl) (by kernel_rfl) ?_
      simp only [nl_cons, ↓pickL_nil, ↓pickL_cons, ↓nthO_0, ↓nthO_s, consO_some]
      refine Ow.goQ ?_
      simp (disch := (first | assumption | omega | (simp only [lenS, lenT, UInt64.reduceToNat]; try omega))) only [↓Sx.S0, Sx.S1, Tryz.fx, uRR1_2, Nat.reduceAdd, Nat.reducePow, Int.reducePow, Nat.reduceBEq, ↓reduceIte, UInt8.reduceToNat, UInt16.reduceToNat, UInt32.reduceToNat, UInt64.reduceToNat, Int.reduceToNat, ln, d1, i2, rb, l2]
      cases hxy : (y.l == x.l)
      · have d5 : (y.l == x.l) = false := hxy
        ((try with_reducible refine Cw.go [] ?_); (try simp (disch := (first | assumption | omega | (simp only [lenS, lenT, UInt64.reduceToNat]; try omega))) only [↓Sx.S0, Sx.S1, Tryz.fx, uRR1_2, Nat.reduceAdd, Nat.reducePow, Int.reducePow, Nat.reduceBEq, ↓reduceIte, UInt8.reduceToNat, UInt16.reduceToNat, UInt32.reduceToNat, UInt64.reduceToNat, Int.reduceToNat, hvt]))
        have hpe : putL x l = l.take g ++ x :: l.drop g := by rw [h2, hdc, putL, if_neg (by rw [hyx]; simp), if_neg (by rw [hxy]; simp)]
        have htl : (l.take g).length ≤ l.length := by rw [List.length_take]; omega
        have hdl : (l.drop g).length ≤ l.length := by rw [List.length_drop]; omega
        refine Ow.appendXG (e := 34) (k := (l.take g).length) (new := ((l.take g).map idLC).flatten) (X := []) (n := 0) (cs := []) (.slice none 0 0) rfl rfl rfl rfl Tryz.underlying36 Tryz.ag34 (by kernel_rfl) zrIdB (by simp [cells_agg, a8]) Tryz.underlying36 (by intro k h; cases h) Gr.nl (fun w' hw' => (hlt'.oldN hw' hN3).appX idLC_len idC_one) (by omega) (fun B4 v4 D4 hA4 hB4 hG4 hk14 hk24 hlk4 => ?_)
        have hN4 : New w.heap.size D4 := New.of_le fun q hq => by
          rcases hk24 q hq with h | h
          · cases h
          · omega
        rw [Nat.zero_add, List.nil_append] at hG4
        refine Ow.permL (M := (b3, Obj.cells (a8 x.l) 34 (0, 0)) :: D4) (by classical exact List.perm_iff_count.2 fun a => by simp only [List.count_append, List.count_cons, List.count_nil] <;> omega) ?_
        refine Ow.go rfl ?_
        simp (disch := (first | assumption | omega | (simp only [lenS, lenT, UInt64.reduceToNat]; try omega))) only [↓Sx.S0, Sx.S1, Tryz.fx, uRR1_2, Nat.reduceAdd, Nat.reducePow, Int.reducePow, Nat.reduceBEq, ↓reduceIte, UInt8.reduceToNat, UInt16.reduceToNat, UInt32.reduceToNat, UInt64.reduceToNat, Int.reduceToNat]
        ((try with_reducible refine Cw.go [] ?_); (try simp (disch := (first | assumption | omega | (simp only [lenS, lenT, UInt64.reduceToNat]; try omega))) only [↓Sx.S0, Sx.S1, Tryz.fx, uRR1_2, Nat.reduceAdd, Nat.reducePow, Int.reducePow, Nat.reduceBEq, ↓reduceIte, UInt8.reduceToNat, UInt16.reduceToNat, UInt32.reduceToNat, UInt64.reduceToNat, Int.reduceToNat]))
        refine Ow.buildSlice (e := 34) (idLC x).toArray rfl rfl (sliceIdA x) fun b6 hb6 hw6 => ?_
        refine Ow.permL (M := D4 ++ [(b3, Obj.cells (a8 x.l) 34 (0, 0)), (b6, Obj.cells (idLC x).toArray 34 (0, 0))]) (by classical exact List.perm_iff_count.2 fun a => by simp only [List.count_append, List.count_cons, List.count_nil] <;> omega) ?_
        refine Ow.go rfl ?_
        simp (disch := (first | assumption | omega | (simp only [lenS, lenT, UInt64.reduceToNat]; try omega))) only [↓Sx.S0, Sx.S1, Tryz.fx, uRR1_2, Nat.reduceAdd, Nat.reducePow, Int.reducePow, Nat.reduceBEq, ↓reduceIte, UInt8.reduceToNat, UInt16.reduceToNat, UInt32.reduceToNat, UInt64.reduceToNat, Int.reduceToNat]
        refine Ow.appendXG (e := 34) (k := 1) (new := idLC x) (X := D4) v4 rfl rfl rfl rfl Tryz.underlying36 Tryz.ag34 (by kernel_rfl) zrIdB (by simp [cells_agg, a8]) Tryz.underlying36 (by intro k h; cases h) hG4 (fun w' hw' => AppX.one1 (hw'.has b6 (.cells (idLC x).toArray 34 (0, 0)) (by simp)) (idLC_len x) (idC_one x)) (by omega) (fun B5 v5 D5 hA5 hB5 hG5 hk15 hk25 hlk5 => ?_)
        have hN5 : New w.heap.size D5 := New.of_le fun q hq => by
          rcases hk25 q hq with h | h
          · exact hN4.le q h
          · omega
        have hN5' : New w.heap.size (D5 ++ [(b3, Obj.cells (a8 x.l) 34 (0, 0)), (b6, Obj.cells (idLC x).toArray 34 (0, 0))]) := hN5.app ⟨hw3, hw6, trivial⟩
        refine Ow.go rfl ?_
        simp (disch := (first | assumption | omega | (simp only [lenS, lenT, UInt64.reduceToNat]; try omega))) only [↓Sx.S0, Sx.S1, Tryz.fx, uRR1_2, Nat.reduceAdd, Nat.reducePow, Int.reducePow, Nat.reduceBEq, ↓reduceIte, UInt8.reduceToNat, UInt16.reduceToNat, UInt32.reduceToNat, UInt64.reduceToNat, Int.reduceToNat]
        ((try with_reducible refine Cw.go [] ?_); (try simp (disch := (first | assumption | omega | (simp only [lenS, lenT, UInt64.reduceToNat]; try omega))) only [↓Sx.S0, Sx.S1, Tryz.fx, uRR1_2, Nat.reduceAdd, Nat.reducePow, Int.reducePow, Nat.reduceBEq, ↓reduceIte, UInt8.reduceToNat, UInt16.reduceToNat, UInt32.reduceToNat, UInt64.reduceToNat, Int.reduceToNat, hvd]))
        refine Ow.appendXG (e := 34) (k := (l.drop g).length) (new := ((l.drop g).map idLC).flatten) (X := D5) v5 rfl rfl rfl rfl Tryz.underlying36 Tryz.ag34 (by kernel_rfl) zrIdB (by simp [cells_agg, a8]) Tryz.underlying36 (by intro k h; cases h) hG5 (fun w' hw' => (hld'.oldN hw' hN5').appX idLC_len idC_one) (by omega) (fun B6 v6 D6 hA6 hB6 hG6 hk16 hk26 hlk6 => ?_)
        have hN6 : New w.heap.size D6 := New.of_le fun q hq => by
          rcases hk26 q hq with h | h
          · exact hN5.le q h
          · omega
        refine Ow.go rfl ?_
        simp (disch := (first | assumption | omega | (simp only [lenS, lenT, UInt64.reduceToNat]; try omega))) only [↓Sx.S0, Sx.S1, Tryz.fx, uRR1_2, Nat.reduceAdd, Nat.reducePow, Int.reducePow, Nat.reduceBEq, ↓reduceIte, UInt8.reduceToNat, UInt16.reduceToNat, UInt32.reduceToNat, UInt64.reduceToNat, Int.reduceToNat]
        ((try with_reducible refine Cw.go [] ?_); (try simp (disch := (first | assumption | omega | (simp only [lenS, lenT, UInt64.reduceToNat]; try omega))) only [↓Sx.S0, Sx.S1, Tryz.fx, uRR1_2, Nat.reduceAdd, Nat.reducePow, Int.reducePow, Nat.reduceBEq, ↓reduceIte, UInt8.reduceToNat, UInt16.reduceToNat, UInt32.reduceToNat, UInt64.reduceToNat, Int.reduceToNat]))
        refine ⟨_, (by simp (disch := (first | assumption | omega | (simp only [lenS, lenT, UInt64.reduceToNat]; try omega))) only [↓Sx.S0, Sx.S1, Tryz.fx, uRR1_2, Nat.reduceAdd, Nat.reducePow, Int.reducePow, Nat.reduceBEq, ↓reduceIte, UInt8.reduceToNat, UInt16.reduceToNat, UInt32.reduceToNat, UInt64.reduceToNat, Int.reduceToNat]; rfl), ?_⟩
        refine ⟨Ext.of_new (hN6.app ⟨hw3, hw6, trivial⟩), .inr (Gr.i (X := D6) ?_ fun q hq => List.mem_append_left _ hq)⟩
        rw [hpe]
        have e1 : (l.take g).length + 1 + (l.drop g).length = (l.take g ++ x :: l.drop g).length := by simp only [List.length_append, List.length_cons]; omega
        rw [e1] at hG6
        show Gr D6 34 32 v6 _ _
        simpa only [List.map_append, List.map_cons, List.flatten_append, List.flatten_cons, List.append_assoc] using hG6
      · have hpl : putL x l = l := by
          rw [h2, hdc, putL, if_neg (by rw [hyx]; simp), if_pos hxy, ← hdc, List.take_append_drop]
        ((try with_reducible refine Cw.go [] ?_); (try simp (disch := (first | assumption | omega | (simp only [lenS, lenT, UInt64.reduceToNat]; try omega))) only [↓Sx.S0, Sx.S1, Tryz.fx, uRR1_2, Nat.reduceAdd, Nat.reducePow, Int.reducePow, Nat.reduceBEq, ↓reduceIte, UInt8.reduceToNat, UInt16.reduceToNat, UInt32.reduceToNat, UInt64.reduceToNat, Int.reduceToNat]))
        refine ⟨_, (by simp (disch := (first | assumption | omega | (simp only [lenS, lenT, UInt64.reduceToNat]; try omega))) only [↓Sx.S0, Sx.S1, Tryz.fx, uRR1_2, Nat.reduceAdd, Nat.reducePow, Int.reducePow, Nat.reduceBEq, ↓reduceIte, UInt8.reduceToNat, UInt16.reduceToNat, UInt32.reduceToNat, UInt64.reduceToNat, Int.reduceToNat]; rfl), ?_⟩
        exact ⟨Ext.of_new hN3, .inl ⟨rfl, hpl⟩⟩
    · refine Ow.goQ ?_
      simp (disch := (first | assumption | omega | (simp only [lenS, lenT, UInt64.reduceToNat]; try omega))) only [↓Sx.S0, Sx.S1, Tryz.fx, uRR1_2, Nat.reduceAdd, Nat.reducePow, Int.reducePow, Nat.reduceBEq, ↓reduceIte, UInt8.reduceToNat, UInt16.reduceToNat, UInt32.reduceToNat, UInt64.reduceToNat, Int.reduceToNat]
      try with_reducible refine Ow.nil ?_
      ((try with_reducible refine Cw.go [] ?_); (try simp (disch := (first | assumption | omega | (simp only [lenS, lenT, UInt64.reduceToNat]; try omega))) only [↓Sx.S0, Sx.S1, Tryz.fx, uRR1_2, Nat.reduceAdd, Nat.reducePow, Int.reducePow, Nat.reduceBEq, ↓reduceIte, UInt8.reduceToNat, UInt16.reduceToNat, UInt32.reduceToNat, UInt64.reduceToNat, Int.reduceToNat]))
      refine Again.mk (G := Nat) (g + 1) (by show l.length - (g + 1) < l.length - g; omega) ⟨hlt, ?_⟩ rfl rfl
      rw [h2, hdc, putL, if_pos hyx, StP.take_snoc (z := id0) hlt, hy, List.append_assoc]; rfl
  · obtain rfl : g = l.length := by omega
    have d1 : decide ((l.length : Int) < (l.length : Int)) = false := by simp
    ((try with_reducible refine Cw.go [] ?_); (try simp (disch := (first | assumption | omega | (simp only [lenS, lenT, UInt64.reduceToNat]; try omega))) only [↓Sx.S0, Sx.S1, Tryz.fx, uRR1_2, Nat.reduceAdd, Nat.reducePow, Int.reducePow, Nat.reduceBEq, ↓reduceIte, UInt8.reduceToNat, UInt16.reduceToNat, UInt32.reduceToNat, UInt64.reduceToNat, Int.reduceToNat]))
    refine Cw.regionS [] [0, 1, 2, 3, 4, 5, 6, 7, 8, 9, 10, 11] [] (by kernel_rfl) (by kernel_rfl) (by kernel_rfl) ?_
    simp only [nl_cons, ↓pickL_nil, ↓pickL_cons, ↓nthO_0, ↓nthO_s, consO_some]
    refine Ow.goQ ?_
    simp (disch := (first | assumption | omega | (simp only [lenS, lenT, UInt64.reduceToNat]; try omega))) only [↓Sx.S0, Sx.S1, Tryz.fx, uRR1_2, Nat.reduceAdd, Nat.reducePow, Int.reducePow, Nat.reduceBEq, ↓reduceIte, UInt8.reduceToNat, UInt16.reduceToNat, UInt32.reduceToNat, UInt64.reduceToNat, Int.reduceToNat, ln, d1]
    try with_reducible refine Ow.nil ?_
    ((try with_reducible refine Cw.go [] ?_); (try simp (disch := (first | assumption | omega | (simp only [lenS, lenT, UInt64.reduceToNat]; try omega))) only [↓Sx.S0, Sx.S1, Tryz.fx, uRR1_2, Nat.reduceAdd, Nat.reducePow, Int.reducePow, Nat.reduceBEq, ↓reduceIte, UInt8.reduceToNat, UInt16.reduceToNat, UInt32.reduceToNat, UInt64.reduceToNat, Int.reduceToNat]))
    refine Cw.regionS [] [0, 1, 2, 3, 4, 5, 6, 7, 8, 9, 10, 11] [] (by kernel_rfl) (by kernel_rfl) (by kernel_rfl) ?_
    simp only [nl_cons, ↓pickL_nil, ↓pickL_cons, ↓nthO_0, ↓nthO_s, consO_some]
    refine Ow.goQ ?_
    simp (disch := (first | assumption | omega | (simp only [lenS, lenT, UInt64.reduceToNat]; try omega))) only [↓Sx.S0, Sx.S1, Tryz.fx, uRR1_2, Nat.reduceAdd, Nat.reducePow, Int.reducePow, Nat.reduceBEq, ↓reduceIte, UInt8.reduceToNat, UInt16.reduceToNat, UInt32.reduceToNat, UInt64.reduceToNat, Int.reduceToNat, ln, d1]
    try with_reducible refine Ow.nil ?_
    ((try with_reducible refine Cw.go [] ?_); (try simp (disch := (first | assumption | omega | (simp only [lenS, lenT, UInt64.reduceToNat]; try omega))) only [↓Sx.S0, Sx.S1, Tryz.fx, uRR1_2, Nat.reduceAdd, Nat.reducePow, Int.reducePow, Nat.reduceBEq, ↓reduceIte, UInt8.reduceToNat, UInt16.reduceToNat, UInt32.reduceToNat, UInt64.reduceToNat, Int.reduceToNat, hvt]))
    generalize hgl : l.length = g at *
    have hpe : putL x l = l.take g ++ x :: l.drop g := by rw [h2, ← hgl, List.drop_length]; rfl
    have htl : (l.take g).length ≤ l.length := by rw [List.length_take]; omega
    have hdl : (l.drop g).length ≤ l.length := by rw [List.length_drop]; omega
    refine Ow.appendXG (e := 34) (k := (l.take g).length) (new := ((l.take g).map idLC).flatten) (X := []) (n := 0) (cs := []) (.slice none 0 0) rfl rfl rfl rfl Tryz.underlying36 Tryz.ag34 (by kernel_rfl) zrIdB (by simp [cells_agg, a8]) Tryz.underlying36 (by intro k h; cases h) Gr.nl (fun w' hw' => (hlt'.oldN hw' hN3).appX idLC_len idC_one) (by omega) (fun B4 v4 D4 hA4 hB4 hG4 hk14 hk24 hlk4 => ?_)
    have hN4 : New w.heap.size D4 := New.of_le fun q hq => by
      rcases hk24 q hq with h | h
      · cases h
      · omega
    rw [Nat.zero_add, List.nil_append] at hG4
    refine Ow.permL (M := (b3, Obj.cells (a8 x.l) 34 (0, 0)) :: D4) (by classical exact List.perm_iff_count.2 fun a => by simp only [List.count_append, List.count_cons, List.count_nil] <;> omega) ?_
    refine Ow.go rfl ?_
    simp (disch := (first | assumption | omega | (simp only [lenS, lenT, UInt64.reduceToNat]; try omega))) only [↓Sx.S0, Sx.S1, Tryz.fx, uRR1_2, Nat.reduceAdd, Nat.reducePow, Int.reducePow, Nat.reduceBEq, ↓reduceIte, UInt8.reduceToNat, UInt16.reduceToNat, UInt32.reduceToNat, UInt64.reduceToNat, Int.reduceToNat]
    ((try with_reducible refine Cw.go [] ?_); (try simp (disch := (first | assumption | omega | (simp only [lenS, lenT, UInt64.reduceToNat]; try omega))) only [↓Sx.S0, Sx.S1, Tryz.fx, uRR1_2, Nat.reduceAdd, Nat.reducePow, Int.reducePow, Nat.reduceBEq, ↓reduceIte, UInt8.reduceToNat, UInt16.reduceToNat, UInt32.reduceToNat, UInt64.reduceToNat, Int.reduceToNat]))
    refine Ow.buildSlice (e := 34) (idLC x).toArray rfl rfl (sliceIdA x) fun b6 hb6 hw6 => ?_
    refine Ow.permL (M := D4 ++ [(b3, Obj.cells (a8 x.l) 34 (0, 0)), (b6, Obj.cells (idLC x).toArray 34 (0, 0))]) (by classical exact List.perm_iff_count.2 fun a => by simp only [List.count_append, List.count_cons, List.count_nil] <;> omega) ?_
    refine Ow.go rfl ?_
    simp (disch := (first | assumption | omega | (simp only [lenS, lenT, UInt64.reduceToNat]; try omega))) only [↓Sx.S0, Sx.S1, Tryz.fx, uRR1_2, Nat.reduceAdd, Nat.reducePow, Int.reducePow, Nat.reduceBEq, ↓reduceIte, UInt8.reduceToNat, UInt16.reduceToNat, UInt32.reduceToNat, UInt64.reduceToNat, Int.reduceToNat]
    refine Ow.appendXG (e := 34) (k := 1) (new := idLC x) (X := D4) v4 rfl rfl rfl rfl Tryz.underlying36 Tryz.ag34 (by kernel_rfl) zrIdB (by simp [cells_agg, a8]) Tryz.underlying36 (by intro k h; cases h) hG4 (fun w' hw' => AppX.one1 (hw'.has b6 (.cells (idLC x).toArray 34 (0, 0)) (by simp)) (idLC_len x) (idC_one x)) (by omega) (fun B5 v5 D5 hA5 hB5 hG5 hk15 hk25 hlk5 => ?_)
    have hN5 : New w.heap.size D5 := New.of_le fun q hq => by
      rcases hk25 q hq with h | h
      · exact hN4.le q h
      · omega
    have hN5' : New w.heap.size (D5 ++ [(b3, Obj.cells (a8 x.l) 34 (0, 0)), (b6, Obj.cells (idLC x).toArray 34 (0, 0))]) := hN5.app ⟨hw3, hw6, trivial⟩
    refine Ow.go rfl ?_
    simp (disch := (first | assumption | omega | (simp only [lenS, lenT, UInt64.reduceToNat]; try omega))) only [↓Sx.S0, Sx.S1, Tryz.fx, uRR1_2, Nat.reduceAdd, Nat.reducePow, Int.reducePow, Nat.reduceBEq, ↓reduceIte, UInt8.reduceToNat, UInt16.reduceToNat, UInt32.reduceToNat, UInt64.reduceToNat, Int.reduceToNat]
    ((try with_reducible refine Cw.go [] ?_); (try simp (disch := (first | assumption | omega | (simp only [lenS, lenT, UInt64.reduceToNat]; try omega))) only [↓Sx.S0, Sx.S1, Tryz.fx, uRR1_2, Nat.reduceAdd, Nat.reducePow, Int.reducePow, Nat.reduceBEq, ↓reduceIte, UInt8.reduceToNat, UInt16.reduceToNat, UInt32.reduceToNat, UInt64.reduceToNat, Int.reduceToNat, hvd]))
    refine Ow.appendXG (e := 34) (k := (l.drop g).length) (new := ((l.drop g).map idLC).flatten) (X := D5) v5 rfl rfl rfl rfl Tryz.underlying36 Tryz.ag34 (by kernel_rfl) zrIdB (by simp [cells_agg, a8]) Tryz.underlying36 (by intro k h; cases h) hG5 (fun w' hw' => (hld'.oldN hw' hN5').appX idLC_len idC_one) (by omega) (fun B6 v6 D6 hA6 hB6 hG6 hk16 hk26 hlk6 => ?_)
    have hN6 : New w.heap.size D6 := New.of_le fun q hq => by
      rcases hk26 q hq with h | h
      · exact hN5.le q h
      · omega
    refine Ow.go rfl ?_
    simp (disch := (first | assumption | omega | (simp only [lenS, lenT, UInt64.reduceToNat]; try omega))) only [↓Sx.S0, Sx.S1, Tryz.fx, uRR1_2, Nat.reduceAdd, Nat.reducePow, Int.reducePow, Nat.reduceBEq, ↓reduceIte, UInt8.reduceToNat, UInt16.reduceToNat, UInt32.reduceToNat, UInt64.reduceToNat, Int.reduceToNat]
    ((try with_reducible refine Cw.go [] ?_); (try simp (disch := (first | assumption | omega | (simp only [lenS, lenT, UInt64.reduceToNat]; try omega))) only [↓Sx.S0, Sx.S1, Tryz.fx, uRR1_2, Nat.reduceAdd, Nat.reducePow, Int.reducePow, Nat.reduceBEq, ↓reduceIte, UInt8.reduceToNat, UInt16.reduceToNat, UInt32.reduceToNat, UInt64.reduceToNat, Int.reduceToNat]))
    refine ⟨_, (by simp (disch := (first | assumption | omega | (simp only [lenS, lenT, UInt64.reduceToNat]; try omega))) only [↓Sx.S0, Sx.S1, Tryz.fx, uRR1_2, Nat.reduceAdd, Nat.reducePow, Int.reducePow, Nat.reduceBEq, ↓reduceIte, UInt8.reduceToNat, UInt16.reduceToNat, UInt32.reduceToNat, UInt64.reduceToNat, Int.reduceToNat]; rfl), ?_⟩
    refine ⟨Ext.of_new (hN6.app ⟨hw3, hw6, trivial⟩), .inr (Gr.i (X := D6) ?_ fun q hq => List.mem_append_left _ hq)⟩
    rw [hpe]
    have e1 : (l.take g).length + 1 + (l.drop g).length = (l.take g ++ x :: l.drop g).length := by simp only [List.length_append, List.length_cons]; omega
    rw [e1] at hG6
    show Gr D6 34 32 v6 _ _
    simpa only [List.map_append, List.map_cons, List.flatten_append, List.flatten_cons, List.append_assoc] using hG6
end Go.Proofs
end
section
open Go Go.Proofs Go.Sx Go.RefP
namespace Go.Proofs
set_option maxRecDepth 10000
set_option maxHeartbeats 4000000
set_option linter.unusedSimpArgs false
theorem rowId (id : IdL) : ∀ k, k < [id].length → ∀ j, j < 32 → (a8 id.l)[0 + k * 32 + j]? = (idLC ([id].getD k id0))[j]? := by
  intro k hk j hj
  obtain rfl : k = 0 := by simpa using hk
  simp only [Nat.zero_mul, Nat.zero_add, List.getD_cons_zero]
  rw [← idLC_a8, List.getElem?_toArray]
/-- A ref's bytes in a table. -/
def refB (r : RefL) : List UInt8 := textL r.name ++ r.id.l
def tabB (t : List RefL) : List UInt8 := (t.map refB).flatten
def headB (t : List RefL) : List UInt8 := [72] ++ numL (clampN t.length) ++ tabB t
def logB (l : List RefL) : List UInt8 := (l.map fun r => recordV (entryB r)).flatten
/-- A book's bytes. -/
def bookB (t l : List RefL) : List UInt8 := recordV (headB t) ++ logB l
/-- Names that are small. -/
def SmallN (l : List RefL) : Prop := ∀ g, g < l.length → (l.getD g ref0).name.length < 1000
theorem SmallN.short {l : List RefL} (h : SmallN l) : ShortN l := fun g hg => Nat.lt_trans (h g hg) (by omega)
theorem refB_len {r : RefL} (h : r.name.length < 1000) : (refB r).length < 1100 := by
  have := numL_clamp_len (r.name.length : Int)
  have := r.id.h
  simp only [refB, textL, List.length_append]; omega
theorem take_suc (t : List RefL) (g : Nat) (h : g < t.length) : t.take (g + 1) = t.take g ++ [t.getD g ref0] := by
  rw [List.take_add_one, List.getElem?_eq_getElem h, List.getD_eq_getElem?_getD, List.getElem?_eq_getElem h]; rfl
theorem tabB_succ (t : List RefL) (g : Nat) (h : g < t.length) : tabB (t.take (g + 1)) = tabB (t.take g) ++ refB (t.getD g ref0) := by
  unfold tabB
  rw [take_suc t g h, List.map_append, List.flatten_append]; simp only [List.map_cons, List.map_nil, List.flatten_cons, List.flatten_nil, List.append_nil]
theorem logB_succ (t : List RefL) (g : Nat) (h : g < t.length) : logB (t.take (g + 1)) = logB (t.take g) ++ recordV (entryB (t.getD g ref0)) := by
  unfold logB
  rw [take_suc t g h, List.map_append, List.flatten_append]; simp only [List.map_cons, List.map_nil, List.flatten_cons, List.flatten_nil, List.append_nil]
theorem tabB_len {t : List RefL} (h : SmallN t) : ∀ g, g ≤ t.length → (tabB (t.take g)).length ≤ g * 1100
  | 0, _ => by simp [tabB]
  | g + 1, hg => by
    rw [tabB_succ t g hg, List.length_append]
    have := tabB_len h g (by omega)
    have := refB_len (h g hg)
    omega
theorem recE_len {r : RefL} (h : r.name.length < 1000) : (recordV (entryB r)).length < 1200 := by
  have h1 := numL_clamp_len (r.name.length : Int)
  have h2 := r.id.h
  have h3 := numL_clamp_len ((sealV (entryB r)).length : Int)
  have h4 := sealV_len (entryB r)
  simp only [recordV, textL, List.length_append] at h3 ⊢
  rw [h4] at h3 ⊢
  simp only [entryB, textL, List.length_append, List.length_cons, List.length_nil] at h3 ⊢
  omega
theorem logB_len {t : List RefL} (h : SmallN t) : ∀ g, g ≤ t.length → (logB (t.take g)).length ≤ g * 1200
  | 0, _ => by simp [logB]
  | g + 1, hg => by
    rw [logB_succ t g hg, List.length_append]
    have := logB_len h g (by omega)
    have := recE_len (h g hg)
    omega
theorem came_out {w0 : World} {L X D : Heap} (hC : Came w0 L X D) {b : Nat} (hb : b ∈ keys L) (hX : b ∉ keys X) : b ∉ keys D := fun hm => by
  rcases hC.new b hm with h | ⟨h, -⟩
  · exact hX h
  · exact Nat.lt_irrefl _ (above_to h hb)
theorem came_new {w0 : World} {L X D : Heap} (hC : Came w0 L X D) (hX : New w0.heap.size X) : New w0.heap.size D := New.of_le fun c hc => by
  rcases hC.new c hc with h | ⟨-, h⟩
  · exact hX.le c h
  · exact h
set_option linter.defProp false
def uWR_1 := And.intro (And.intro (And.intro (And.intro (@rdIn_v8) (@rdIn_v16)) (And.intro (@rdIn_v32) (@rdIn_v64))) (And.intro (And.intro (@rdIn_vi) (@load_ref0)) (And.intro (@load_ref1) (@cells_ref)))) (And.intro (And.intro (And.intro (@eqIdz) (@store_rr)) (And.intro (@load_ref) (@load_bk0))) (And.intro (And.intro (@load_bk1) (@load_bk)) (And.intro (@tup2_0) (@tup2_1))))
theorem Bytes_spec (vt vl : Value) (t l : List RefL) (w : World) (hG : GlobC w) (ht : RefSl w vt t) (hl : RefSl w vl l) (htl : t.length < 1000) (hll : l.length < 1000) (hnt : SmallN t) (hnl : SmallN l) :
    Rets Tryz.prog 7 #[.agg #[vt, vl]] w (fun v D => v = (if rightB t l = true then .tuple #[vs (bookB t l), vi 0] else .tuple #[vs [], vi 1]) ∧ D = []) := by
  have hglt : (1 : Nat) < w.heap.size := by obtain ⟨e, f, h⟩ := hG; exact (Array.getElem?_eq_some_iff.1 h).1
  refine Rets.enterV Tryz.func7 rfl (rs := [.tmp 2, .tmp 3]) Tryz.results7 Tryz.ntmps7 ?_
  simp only [List.size_toArray, List.length_cons, List.length_nil, Nat.reduceAdd, Nat.reduceSub, List.replicate_succ, List.replicate_zero, List.cons_append, List.nil_append]
  ((try with_reducible refine Cw.go [] ?_); (try simp (disch := (first | assumption | omega | (simp only [lenS, lenT, UInt64.reduceToNat]; try omega))) only [↓Sx.S0, Sx.S1, Tryz.fx, uWR_1, Nat.reduceAdd, Nat.reducePow, Int.reducePow, Nat.reduceBEq, ↓reduceIte, UInt8.reduceToNat, UInt16.reduceToNat, UInt32.reduceToNat, UInt64.reduceToNat, Int.reduceToNat]))
  refine Ow.box rfl rfl fun bx hbx hwx => ?_
  simp only [ev_tmp, getF_0, getF_s, cells_agg, List.nil_append, List.cons_append]
  refine Ow.go rfl ?_
  simp (disch := (first | assumption | omega | (simp only [lenS, lenT, UInt64.reduceToNat]; try omega))) only [↓Sx.S0, Sx.S1, Tryz.fx, uWR_1, Nat.reduceAdd, Nat.reducePow, Int.reducePow, Nat.reduceBEq, ↓reduceIte, UInt8.reduceToNat, UInt16.reduceToNat, UInt32.reduceToNat, UInt64.reduceToNat, Int.reduceToNat]
  ((try with_reducible refine Cw.go [] ?_); (try simp (disch := (first | assumption | omega | (simp only [lenS, lenT, UInt64.reduceToNat]; try omega))) only [↓Sx.S0, Sx.S1, Tryz.fx, uWR_1, Nat.reduceAdd, Nat.reducePow, Int.reducePow, Nat.reduceBEq, ↓reduceIte, UInt8.reduceToNat, UInt16.reduceToNat, UInt32.reduceToNat, UInt64.reduceToNat, Int.reduceToNat, load_bk]))
  refine Ow.callFV rfl Tryz.call8 (fun w' hw' => Right_spec vt vl t l w' (ht.oldN hw' ⟨hwx, trivial⟩) (hl.oldN hw' ⟨hwx, trivial⟩) (by omega) (by omega) hnt.short hnl.short) ?_
  cases hr : rightB t l
  · refine Ow.go rfl ?_
    simp (disch := (first | assumption | omega | (simp only [lenS, lenT, UInt64.reduceToNat]; try omega))) only [↓Sx.S0, Sx.S1, Tryz.fx, uWR_1, Nat.reduceAdd, Nat.reducePow, Int.reducePow, Nat.reduceBEq, ↓reduceIte, UInt8.reduceToNat, UInt16.reduceToNat, UInt32.reduceToNat, UInt64.reduceToNat, Int.reduceToNat]
    ((try with_reducible refine Cw.go [] ?_); (try simp (disch := (first | assumption | omega | (simp only [lenS, lenT, UInt64.reduceToNat]; try omega))) only [↓Sx.S0, Sx.S1, Tryz.fx, uWR_1, Nat.reduceAdd, Nat.reducePow, Int.reducePow, Nat.reduceBEq, ↓reduceIte, UInt8.reduceToNat, UInt16.reduceToNat, UInt32.reduceToNat, UInt64.reduceToNat, Int.reduceToNat]))
    refine ⟨_, (by simp (disch := (first | assumption | omega | (simp only [lenS, lenT, UInt64.reduceToNat]; try omega))) only [↓Sx.S0, Sx.S1, Tryz.fx, uWR_1, Nat.reduceAdd, Nat.reducePow, Int.reducePow, Nat.reduceBEq, ↓reduceIte, UInt8.reduceToNat, UInt16.reduceToNat, UInt32.reduceToNat, UInt64.reduceToNat, Int.reduceToNat]; rfl), ⟨hwx, trivial⟩, ?_⟩
    rfl
  · refine Ow.go rfl ?_
    simp (disch := (first | assumption | omega | (simp only [lenS, lenT, UInt64.reduceToNat]; try omega))) only [↓Sx.S0, Sx.S1, Tryz.fx, uWR_1, Nat.reduceAdd, Nat.reducePow, Int.reducePow, Nat.reduceBEq, ↓reduceIte, UInt8.reduceToNat, UInt16.reduceToNat, UInt32.reduceToNat, UInt64.reduceToNat, Int.reduceToNat]
    ((try with_reducible refine Cw.go [] ?_); (try simp (disch := (first | assumption | omega | (simp only [lenS, lenT, UInt64.reduceToNat]; try omega))) only [↓Sx.S0, Sx.S1, Tryz.fx, uWR_1, Nat.reduceAdd, Nat.reducePow, Int.reducePow, Nat.reduceBEq, ↓reduceIte, UInt8.reduceToNat, UInt16.reduceToNat, UInt32.reduceToNat, UInt64.reduceToNat, Int.reduceToNat]))
    refine Ow.alloc rfl rfl Tryz.zr56 fun b4 hb4 hw4 => ?_
    obtain ⟨hx4, -⟩ := hb4
    refine Ow.go rfl ?_
    simp (disch := (first | assumption | omega | (simp only [lenS, lenT, UInt64.reduceToNat]; try omega))) only [↓Sx.S0, Sx.S1, Tryz.fx, uWR_1, Nat.reduceAdd, Nat.reducePow, Int.reducePow, Nat.reduceBEq, ↓reduceIte, UInt8.reduceToNat, UInt16.reduceToNat, UInt32.reduceToNat, UInt64.reduceToNat, Int.reduceToNat]
    refine Ow.permL (M := [(b4, .cells #[.pointer none, .slice none 0 0] 56 (0, 0))] ++ [(bx, .cells #[vt, vl] 24 (0, 0))]) (by classical exact List.perm_iff_count.2 fun a => by simp only [List.count_append, List.count_cons, List.count_nil] <;> omega) ?_
    rw [List.cons_append, List.nil_append]
    have hZ : BldAt b4 [] [(b4, .cells #[.pointer none, .slice none 0 0] 56 (0, 0))] := BldAt.zero b4 (look_same _ _ _)
    ((try with_reducible refine Cw.go [] ?_); (try simp (disch := (first | assumption | omega | (simp only [lenS, lenT, UInt64.reduceToNat]; try omega))) only [↓Sx.S0, Sx.S1, Tryz.fx, uWR_1, Nat.reduceAdd, Nat.reducePow, Int.reducePow, Nat.reduceBEq, ↓reduceIte, UInt8.reduceToNat, UInt16.reduceToNat, UInt32.reduceToNat, UInt64.reduceToNat, Int.reduceToNat]))
    refine Ow.buildSlice (e := 9) #[vs [72]] rfl rfl (by kernel_rfl) fun b5 hb5 hw5 => ?_
    obtain ⟨h45, hx5, -⟩ := hb5
    refine Ow.go rfl ?_
    simp (disch := (first | assumption | omega | (simp only [lenS, lenT, UInt64.reduceToNat]; try omega))) only [↓Sx.S0, Sx.S1, Tryz.fx, uWR_1, Nat.reduceAdd, Nat.reducePow, Int.reducePow, Nat.reduceBEq, ↓reduceIte, UInt8.reduceToNat, UInt16.reduceToNat, UInt32.reduceToNat, UInt64.reduceToNat, Int.reduceToNat]
    refine Ow.callX (Y := [(bx, .cells #[vt, vl] 24 (0, 0)), (b5, .cells #[vs [72]] 9 (0, 0))]) (by simp) rfl rfl Tryz.call21 (fun w' hw' hX hn => WRaw_spec b4 [(b4, .cells #[.pointer none, .slice none 0 0] 56 (0, 0))] [] _ b5 0 [[72]] _ _ _ w' hZ hX hn (StrS.lit [[72]] rfl rfl (hw'.has _ _ (List.mem_cons_of_mem _ (List.mem_cons_of_mem _ List.mem_cons_self)))) (fun _ hm => by simp [keys] at hm; omega) (by simp) (by simp)) (fun v6 D6 hC6 hS6 => ?_)
    obtain ⟨rfl, hB6⟩ := hS6
    simp only [List.flatten_cons, List.flatten_nil, List.append_nil, List.nil_append] at hB6
    have hx6 : bx ∉ keys D6 := came_out hC6 (by simp [keys]) (by simp [keys]; omega)
    have hN6 : New w.heap.size D6 := came_new hC6 ⟨hw4, trivial⟩
    have rd6 : readB w (D6 ++ [(bx, .cells #[vt, vl] 24 (0, 0)), (b5, .cells #[vs [72]] 9 (0, 0))]) bx = some (.cells #[vt, vl] 24 (0, 0)) := read_look (by rw [look_app_r hx6]; exact look_same _ _ _)
    refine Ow.go rfl ?_
    simp (disch := (first | assumption | omega | (simp only [lenS, lenT, UInt64.reduceToNat]; try omega))) only [↓Sx.S0, Sx.S1, Tryz.fx, uWR_1, Nat.reduceAdd, Nat.reducePow, Int.reducePow, Nat.reduceBEq, ↓reduceIte, UInt8.reduceToNat, UInt16.reduceToNat, UInt32.reduceToNat, UInt64.reduceToNat, Int.reduceToNat]
    ((try with_reducible refine Cw.go [] ?_); (try simp (disch := (first | assumption | omega | (simp only [lenS, lenT, UInt64.reduceToNat]; try omega))) only [↓Sx.S0, Sx.S1, Tryz.fx, uWR_1, Nat.reduceAdd, Nat.reducePow, Int.reducePow, Nat.reduceBEq, ↓reduceIte, UInt8.reduceToNat, UInt16.reduceToNat, UInt32.reduceToNat, UInt64.reduceToNat, Int.reduceToNat, rd6, ht.len]))
    refine Ow.buildSlice (e := 3) #[vi t.length] rfl rfl (by kernel_rfl) fun b7 hb7 hw7 => ?_
    refine Ow.go rfl ?_
    simp (disch := (first | assumption | omega | (simp only [lenS, lenT, UInt64.reduceToNat]; try omega))) only [↓Sx.S0, Sx.S1, Tryz.fx, uWR_1, Nat.reduceAdd, Nat.reducePow, Int.reducePow, Nat.reduceBEq, ↓reduceIte, UInt8.reduceToNat, UInt16.reduceToNat, UInt32.reduceToNat, UInt64.reduceToNat, Int.reduceToNat]
    refine Ow.callX (Y := [(bx, .cells #[vt, vl] 24 (0, 0)), (b5, .cells #[vs [72]] 9 (0, 0)), (b7, .cells #[vi t.length] 3 (0, 0))]) (by simp) rfl rfl Tryz.call22 (fun w' hw' hX hn => WNumber_spec b4 D6 _ _ b7 0 [(t.length : Int)] _ _ _ w' hB6 hX hn (OneS.lit [(t.length : Int)] rfl rfl (hw'.has _ _ (List.mem_append_right _ List.mem_cons_self))) (fun _ hm => Nat.lt_irrefl _ (above_to hb7 (by rw [keys_app]; exact List.mem_append_left _ hm))) (by simp)) (fun v8 D8 hC8 hS8 => ?_)
    obtain ⟨rfl, hB8⟩ := hS8
    rw [numsL_one] at hB8
    have hx7 : bx < b7 := above_to hb7 (by simp [keys_app, keys])
    have hx8 : bx ∉ keys D8 := came_out hC8 (by simp [keys_app, keys]) hx6
    have hN8 : New w.heap.size D8 := came_new hC8 hN6
    have rd8 : readB w (D8 ++ [(bx, .cells #[vt, vl] 24 (0, 0)), (b5, .cells #[vs [72]] 9 (0, 0)), (b7, .cells #[vi t.length] 3 (0, 0))]) bx = some (.cells #[vt, vl] 24 (0, 0)) := read_look (by rw [look_app_r hx8]; exact look_same _ _ _)
    refine Ow.go rfl ?_
    simp (disch := (first | assumption | omega | (simp only [lenS, lenT, UInt64.reduceToNat]; try omega))) only [↓Sx.S0, Sx.S1, Tryz.fx, uWR_1, Nat.reduceAdd, Nat.reducePow, Int.reducePow, Nat.reduceBEq, ↓reduceIte, UInt8.reduceToNat, UInt16.reduceToNat, UInt32.reduceToNat, UInt64.reduceToNat, Int.reduceToNat]
    ((try with_reducible refine Cw.go [] ?_); (try simp (disch := (first | assumption | omega | (simp only [lenS, lenT, UInt64.reduceToNat]; try omega))) only [↓Sx.S0, Sx.S1, Tryz.fx, uWR_1, Nat.reduceAdd, Nat.reducePow, Int.reducePow, Nat.reduceBEq, ↓reduceIte, UInt8.reduceToNat, UInt16.reduceToNat, UInt32.reduceToNat, UInt64.reduceToNat, Int.reduceToNat, rd8, ht.len]))
    refine Cw.permL (M := (D8 ++ [(b5, .cells #[vs [72]] 9 (0, 0)), (b7, .cells #[vi t.length] 3 (0, 0))]) ++ [(bx, .cells #[vt, vl] 24 (0, 0))]) (by classical exact List.perm_iff_count.2 fun a => by simp only [List.count_append, List.count_cons, List.count_nil] <;> omega) ?_
    obtain ⟨b1, o1, a1, E1, f1, h1⟩ := ht.row
    refine Cw.loopG (G := WG) [24, 25, 26, 6, 27, 28, 29, 30, 31, 32, 33, 34, 35, 23] (fun g => [(23, vi g.g)]) (fun g => g.D ++ [(bx, .cells #[vt, vl] 24 (0, 0))]) (fun g => g.g ≤ t.length ∧ New w.heap.size g.D ∧ bx ∉ keys g.D ∧ BldAt b4 ([72] ++ numL (clampN t.length) ++ tabB (t.take g.g)) g.D) (fun g => t.length - g.g) ⟨0, D8 ++ [(b5, .cells #[vs [72]] 9 (0, 0)), (b7, .cells #[vi t.length] 3 (0, 0))]⟩ rfl rfl ?_ ?_
    · exact ⟨Nat.zero_le _, hN8.app ⟨hw5, hw7, trivial⟩, by intro hm; rw [keys_app] at hm; exact (List.mem_append.1 hm).elim hx8 (fun h => by simp [keys] at h; omega), by simpa [tabB] using BldAt.app hB8⟩
    intro g j hg
    simp only [overFrom, pin, setF_0, setF_s, List.contains_cons, List.contains_nil, Nat.reduceBEq, Bool.or_false, Bool.false_or, Bool.or_true, Bool.true_or, Nat.reduceAdd, ↓reduceIte, Bool.false_eq_true]
    obtain ⟨g, D⟩ := g
    simp only at hg ⊢
    obtain ⟨hgL, hN, hxD, hBD⟩ := hg
    by_cases hlt : g < t.length
    · have hb1 := h1.has (by omega)
      have hb1l := h1.lt (by omega)
      have ld1 := h1.load refC_len (by omega) hlt
      have hNL : New w.heap.size (D ++ [(bx, .cells #[vt, vl] 24 (0, 0))]) := hN.app ⟨hwx, trivial⟩
      have rd1 : readB w (D ++ [(bx, .cells #[vt, vl] 24 (0, 0))]) b1 = some (.cells a1 E1 f1) := by rw [read_none (hNL.not hb1l)]; exact hb1
      have hnm := hnt g hlt
      have hsu := tabB_succ t g hlt
      have htl := tabB_len hnt g hgL
      generalize hrr : t.getD g ref0 = r at *
      ((try with_reducible refine Cw.go [11] ?_); (try simp (disch := (first | assumption | omega | (simp only [lenS, lenT, UInt64.reduceToNat]; try omega))) only [↓Sx.S0, Sx.S1, Tryz.fx, uWR_1, Nat.reduceAdd, Nat.reducePow, Int.reducePow, Nat.reduceBEq, ↓reduceIte, UInt8.reduceToNat, UInt16.reduceToNat, UInt32.reduceToNat, UInt64.reduceToNat, Int.reduceToNat, h1.idx, rd1, ld1]))
      refine Ow.alloc rfl rfl zrRef fun b6 hb6 hw6 => ?_
      simp only [cells_agg, List.nil_append, List.cons_append]
      have hx6 : bx < b6 := above_to hb6 (by simp [keys_app, keys])
      have lk6 : ∀ o, Sx.look (D ++ [(bx, Obj.cells #[vt, vl] 24 (0, 0))] ++ [(b6, o)]) b6 = some o := fun o => look_new hb6
      have st6 : ∀ o x, setB (D ++ [(bx, Obj.cells #[vt, vl] 24 (0, 0))] ++ [(b6, o)]) b6 x = D ++ [(bx, Obj.cells #[vt, vl] 24 (0, 0))] ++ [(b6, x)] := fun o x => setB_new hb6
      have rr6 : ∀ o, readB w (D ++ [(bx, Obj.cells #[vt, vl] 24 (0, 0))] ++ [(b6, o)]) b6 = some o := fun o => read_look (lk6 o)
      refine Ow.go rfl ?_
      simp (disch := (first | assumption | omega | (simp only [lenS, lenT, UInt64.reduceToNat]; try omega))) only [↓Sx.S0, Sx.S1, Tryz.fx, uWR_1, Nat.reduceAdd, Nat.reducePow, Int.reducePow, Nat.reduceBEq, ↓reduceIte, UInt8.reduceToNat, UInt16.reduceToNat, UInt32.reduceToNat, UInt64.reduceToNat, Int.reduceToNat, lk6, st6, nh_any]
      ((try with_reducible refine Cw.go [] ?_); (try simp (disch := (first | assumption | omega | (simp only [lenS, lenT, UInt64.reduceToNat]; try omega))) only [↓Sx.S0, Sx.S1, Tryz.fx, uWR_1, Nat.reduceAdd, Nat.reducePow, Int.reducePow, Nat.reduceBEq, ↓reduceIte, UInt8.reduceToNat, UInt16.reduceToNat, UInt32.reduceToNat, UInt64.reduceToNat, Int.reduceToNat, lk6, st6, rr6, nh_any]))
      refine Ow.buildSlice (e := 9) #[vs r.name] rfl rfl (by kernel_rfl) fun b9 hb9 hw9 => ?_
      have hnl := numL_clamp_len (r.name.length : Int)
      have htx : textsL [r.name] = textL r.name := by simp [textsL]
      have htn : (textL r.name).length = (numL (clampN r.name.length)).length + r.name.length := by unfold textL; rw [List.length_append]
      have hnt0 := numL_clamp_len (t.length : Int)
      rw [List.append_assoc, List.append_assoc]
      simp only [List.cons_append, List.nil_append]
      refine Ow.go rfl ?_
      simp (disch := (first | assumption | omega | (simp only [lenS, lenT, UInt64.reduceToNat]; try omega))) only [↓Sx.S0, Sx.S1, Tryz.fx, uWR_1, Nat.reduceAdd, Nat.reducePow, Int.reducePow, Nat.reduceBEq, ↓reduceIte, UInt8.reduceToNat, UInt16.reduceToNat, UInt32.reduceToNat, UInt64.reduceToNat, Int.reduceToNat]
      refine Ow.callX (Y := [(bx, Obj.cells #[vt, vl] 24 (0, 0)), (b6, .cells (refC r).toArray 48 (0, 0)), (b9, .cells #[vs r.name] 9 (0, 0))]) (by simp) rfl rfl Tryz.call23 (fun w' hw' hX hn => WText_spec b4 D _ _ b9 0 [r.name] _ _ _ w' hBD hX hn (StrS.lit [r.name] rfl rfl (hw'.has _ _ (List.mem_append_right _ (List.mem_cons_of_mem _ (List.mem_cons_of_mem _ List.mem_cons_self))))) (fun _ hm => Nat.lt_irrefl _ (above_to hb9 (by simp [keys_app, hm]))) (by rw [htx]; simp only [List.length_append, List.length_cons, List.length_nil]; omega) (by simp)) (fun v10 D10 hC10 hS10 => ?_)
      obtain ⟨rfl, hB10⟩ := hS10
      rw [htx] at hB10
      have hx10 : bx ∉ keys D10 := came_out hC10 (by simp [keys_app, keys]) hxD
      have h610 : b6 ∉ keys D10 := came_out hC10 (by simp [keys_app, keys]) (fun hm => Nat.lt_irrefl _ (above_to hb6 (by simp [keys_app, hm])))
      have hN10 : New w.heap.size D10 := came_new hC10 hN
      have rd10 : readB w (D10 ++ [(bx, Obj.cells #[vt, vl] 24 (0, 0)), (b6, .cells (refC r).toArray 48 (0, 0)), (b9, .cells #[vs r.name] 9 (0, 0))]) b6 = some (.cells (refC r).toArray 48 (0, 0)) := read_look (by rw [look_app_r h610, look_other _ _ _ _ (by omega)]; exact look_same _ _ _)
      refine Ow.go rfl ?_
      simp (disch := (first | assumption | omega | (simp only [lenS, lenT, UInt64.reduceToNat]; try omega))) only [↓Sx.S0, Sx.S1, Tryz.fx, uWR_1, Nat.reduceAdd, Nat.reducePow, Int.reducePow, Nat.reduceBEq, ↓reduceIte, UInt8.reduceToNat, UInt16.reduceToNat, UInt32.reduceToNat, UInt64.reduceToNat, Int.reduceToNat]
      ((try with_reducible refine Cw.go [] ?_); (try simp (disch := (first | assumption | omega | (simp only [lenS, lenT, UInt64.reduceToNat]; try omega))) only [↓Sx.S0, Sx.S1, Tryz.fx, uWR_1, Nat.reduceAdd, Nat.reducePow, Int.reducePow, Nat.reduceBEq, ↓reduceIte, UInt8.reduceToNat, UInt16.reduceToNat, UInt32.reduceToNat, UInt64.reduceToNat, Int.reduceToNat, rd10]))
      refine Ow.buildSlice (e := 34) (a8 r.id.l) rfl rfl (slice_id r.id) fun b11 hb11 hw11 => ?_
      have hil := idsL_len [r.id]
      have hil2 := r.id.h
      have hids : idsL [r.id] = r.id.l := by simp [idsL]
      have hx9 : bx < b9 := above_to hb9 (by simp [keys_app, keys])
      have hx11 : bx < b11 := above_to hb11 (by simp [keys_app, keys])
      rw [List.append_assoc]
      simp only [List.cons_append, List.nil_append]
      refine Ow.go rfl ?_
      simp (disch := (first | assumption | omega | (simp only [lenS, lenT, UInt64.reduceToNat]; try omega))) only [↓Sx.S0, Sx.S1, Tryz.fx, uWR_1, Nat.reduceAdd, Nat.reducePow, Int.reducePow, Nat.reduceBEq, ↓reduceIte, UInt8.reduceToNat, UInt16.reduceToNat, UInt32.reduceToNat, UInt64.reduceToNat, Int.reduceToNat]
      refine Ow.callX (Y := [(bx, Obj.cells #[vt, vl] 24 (0, 0)), (b6, .cells (refC r).toArray 48 (0, 0)), (b9, .cells #[vs r.name] 9 (0, 0)), (b11, .cells (a8 r.id.l) 34 (0, 0))]) (by simp) rfl rfl Tryz.call24 (fun w' hw' hX hn => WId_spec b4 D10 _ _ b11 0 [r.id] _ _ _ w' hB10 hX hn (RowS.sl rfl (hw'.has b11 (.cells (a8 r.id.l) 34 (0, 0)) (List.mem_append_right _ (List.mem_cons_of_mem _ (List.mem_cons_of_mem _ (List.mem_cons_of_mem _ List.mem_cons_self))))) (rowId r.id)) (fun _ hm => Nat.lt_irrefl _ (above_to hb11 (by simp [keys_app, hm]))) (by simp only [List.length_append, List.length_cons, List.length_nil]; omega)) (fun v12 D12 hC12 hS12 => ?_)
      obtain ⟨rfl, hB12⟩ := hS12
      rw [hids] at hB12
      have hx12 : bx ∉ keys D12 := came_out hC12 (by simp [keys_app, keys]) hx10
      have hN12 : New w.heap.size D12 := came_new hC12 hN10
      refine Ow.go rfl ?_
      simp (disch := (first | assumption | omega | (simp only [lenS, lenT, UInt64.reduceToNat]; try omega))) only [↓Sx.S0, Sx.S1, Tryz.fx, uWR_1, Nat.reduceAdd, Nat.reducePow, Int.reducePow, Nat.reduceBEq, ↓reduceIte, UInt8.reduceToNat, UInt16.reduceToNat, UInt32.reduceToNat, UInt64.reduceToNat, Int.reduceToNat]
      try with_reducible refine Ow.nil ?_
      refine Cw.permL (M := (D12 ++ [(b6, .cells (refC r).toArray 48 (0, 0)), (b9, .cells #[vs r.name] 9 (0, 0)), (b11, .cells (a8 r.id.l) 34 (0, 0))]) ++ [(bx, .cells #[vt, vl] 24 (0, 0))]) (by classical exact List.perm_iff_count.2 fun a => by simp only [List.count_append, List.count_cons, List.count_nil] <;> omega) ?_
      ((try with_reducible refine Cw.go [] ?_); (try simp (disch := (first | assumption | omega | (simp only [lenS, lenT, UInt64.reduceToNat]; try omega))) only [↓Sx.S0, Sx.S1, Tryz.fx, uWR_1, Nat.reduceAdd, Nat.reducePow, Int.reducePow, Nat.reduceBEq, ↓reduceIte, UInt8.reduceToNat, UInt16.reduceToNat, UInt32.reduceToNat, UInt64.reduceToNat, Int.reduceToNat]))
      refine Again.mk (WG.mk (g + 1) (D12 ++ [(b6, .cells (refC r).toArray 48 (0, 0)), (b9, .cells #[vs r.name] 9 (0, 0)), (b11, .cells (a8 r.id.l) 34 (0, 0))])) (by show t.length - (g + 1) < t.length - g; omega) ⟨by show g + 1 ≤ t.length; omega, hN12.app ⟨hw6, hw9, hw11, trivial⟩, ?_, ?_⟩ rfl rfl
      · intro hm; rw [keys_app] at hm; exact (List.mem_append.1 hm).elim hx12 (fun h => by simp [keys] at h; omega)
      · show BldAt b4 ([72] ++ numL (clampN t.length) ++ tabB (t.take (g + 1))) _
        rw [hsu, refB]
        simp only [List.append_assoc] at hB12 ⊢
        exact BldAt.app hB12
    · obtain rfl : g = t.length := by omega
      have htl := tabB_len hnt t.length (Nat.le_refl _)
      rw [List.take_length] at htl hBD
      have hnt0 := numL_clamp_len (t.length : Int)
      ((try with_reducible refine Cw.go [] ?_); (try simp (disch := (first | assumption | omega | (simp only [lenS, lenT, UInt64.reduceToNat]; try omega))) only [↓Sx.S0, Sx.S1, Tryz.fx, uWR_1, Nat.reduceAdd, Nat.reducePow, Int.reducePow, Nat.reduceBEq, ↓reduceIte, UInt8.reduceToNat, UInt16.reduceToNat, UInt32.reduceToNat, UInt64.reduceToNat, Int.reduceToNat]))
      refine Ow.callX (Y := [(bx, Obj.cells #[vt, vl] 24 (0, 0))]) (by simp) rfl rfl Tryz.call25 (fun w' hw' hX hn => record_spec b4 D _ w' (GlobC.of hG hw' (New.not (L := D ++ [(bx, Obj.cells #[vt, vl] 24 (0, 0))]) (hN.app ⟨hwx, trivial⟩) hglt)) (hN.not hglt) hBD hX hn (by simp only [List.length_append, List.length_cons, List.length_nil]; omega)) (fun v13 D13 hC13 hS13 => ?_)
      have hS13' : v13 = vs (recordV (headB t)) := hS13
      subst hS13'
      have hdl : (recordV (headB t)).length < 1200000 := by
        have h3 := numL_clamp_len ((sealV (headB t)).length : Int)
        have h4 := sealV_len (headB t)
        simp only [recordV, textL, List.length_append]
        rw [h4] at h3 ⊢
        simp only [headB, List.length_append, List.length_cons, List.length_nil] at h3 ⊢
        omega
      have hbk : ∀ x, recordV (headB t) ++ x = recordV (headB t) ++ x := fun _ => rfl
      generalize hHd : recordV (headB t) = hd at *
      have hx13 : bx ∉ keys D13 := came_out hC13 (by simp [keys_app, keys]) hxD
      have hN13 : New w.heap.size D13 := came_new hC13 hN
      have rd13 : readB w (D13 ++ [(bx, .cells #[vt, vl] 24 (0, 0))]) bx = some (.cells #[vt, vl] 24 (0, 0)) := read_look (by rw [look_app_r hx13]; exact look_same _ _ _)
      refine Ow.go rfl ?_
      simp (disch := (first | assumption | omega | (simp only [lenS, lenT, UInt64.reduceToNat]; try omega))) only [↓Sx.S0, Sx.S1, Tryz.fx, uWR_1, Nat.reduceAdd, Nat.reducePow, Int.reducePow, Nat.reduceBEq, ↓reduceIte, UInt8.reduceToNat, UInt16.reduceToNat, UInt32.reduceToNat, UInt64.reduceToNat, Int.reduceToNat]
      ((try with_reducible refine Cw.go [] ?_); (try simp (disch := (first | assumption | omega | (simp only [lenS, lenT, UInt64.reduceToNat]; try omega))) only [↓Sx.S0, Sx.S1, Tryz.fx, uWR_1, Nat.reduceAdd, Nat.reducePow, Int.reducePow, Nat.reduceBEq, ↓reduceIte, UInt8.reduceToNat, UInt16.reduceToNat, UInt32.reduceToNat, UInt64.reduceToNat, Int.reduceToNat, rd13, hl.len]))
      obtain ⟨b2, o2, a2, E2, f2, h2⟩ := hl.row
      rw [show hd = hd ++ logB (l.take 0) by simp [logB]]
      refine Cw.loopG (G := WG) [41, 42, 43, 9, 44, 45, 46, 47, 7, 48, 40] (fun g => [(40, vi g.g), (7, vs (hd ++ logB (l.take g.g)))]) (fun g => g.D) (fun g => g.g ≤ l.length ∧ New w.heap.size g.D) (fun g => l.length - g.g) ⟨0, D13 ++ [(bx, .cells #[vt, vl] 24 (0, 0))]⟩ rfl rfl ?_ ?_
      · exact ⟨Nat.zero_le _, hN13.app ⟨hwx, trivial⟩⟩
      intro g j hg
      simp only [overFrom, pin, setF_0, setF_s, List.contains_cons, List.contains_nil, Nat.reduceBEq, Bool.or_false, Bool.false_or, Bool.or_true, Bool.true_or, Nat.reduceAdd, ↓reduceIte, Bool.false_eq_true]
      obtain ⟨g, D⟩ := g
      simp only at hg ⊢
      obtain ⟨hgL, hN⟩ := hg
      have hll2 := logB_len hnl g hgL
      by_cases hlt : g < l.length
      · have hb2 := h2.has (by omega)
        have hb2l := h2.lt (by omega)
        have ld2 := h2.load refC_len (by omega) hlt
        have rd2 : readB w D b2 = some (.cells a2 E2 f2) := by rw [read_none (hN.not hb2l)]; exact hb2
        have hnm := hnl g hlt
        have hsu := logB_succ l g hlt
        have hrl := recE_len hnm
        generalize hrr : l.getD g ref0 = r at *
        ((try with_reducible refine Cw.go [17] ?_); (try simp (disch := (first | assumption | omega | (simp only [lenS, lenT, UInt64.reduceToNat]; try omega))) only [↓Sx.S0, Sx.S1, Tryz.fx, uWR_1, Nat.reduceAdd, Nat.reducePow, Int.reducePow, Nat.reduceBEq, ↓reduceIte, UInt8.reduceToNat, UInt16.reduceToNat, UInt32.reduceToNat, UInt64.reduceToNat, Int.reduceToNat, h2.idx, rd2, ld2]))
        refine Ow.alloc rfl rfl zrRef fun b9 hb9 hw9 => ?_
        simp only [cells_agg, List.nil_append, List.cons_append]
        have lk9 : ∀ o, Sx.look (D ++ [(b9, o)]) b9 = some o := fun o => look_new hb9
        have st9 : ∀ o x, setB (D ++ [(b9, o)]) b9 x = D ++ [(b9, x)] := fun o x => setB_new hb9
        have rr9 : ∀ o, readB w (D ++ [(b9, o)]) b9 = some o := fun o => read_look (lk9 o)
        refine Ow.go rfl ?_
        simp (disch := (first | assumption | omega | (simp only [lenS, lenT, UInt64.reduceToNat]; try omega))) only [↓Sx.S0, Sx.S1, Tryz.fx, uWR_1, Nat.reduceAdd, Nat.reducePow, Int.reducePow, Nat.reduceBEq, ↓reduceIte, UInt8.reduceToNat, UInt16.reduceToNat, UInt32.reduceToNat, UInt64.reduceToNat, Int.reduceToNat, lk9, st9, nh_any]
        ((try with_reducible refine Cw.go [] ?_); (try simp (disch := (first | assumption | omega | (simp only [lenS, lenT, UInt64.reduceToNat]; try omega))) only [↓Sx.S0, Sx.S1, Tryz.fx, uWR_1, Nat.reduceAdd, Nat.reducePow, Int.reducePow, Nat.reduceBEq, ↓reduceIte, UInt8.reduceToNat, UInt16.reduceToNat, UInt32.reduceToNat, UInt64.reduceToNat, Int.reduceToNat, rr9]))
        refine Ow.callFV rfl Tryz.call26 (fun w' hw' => (entryRecord_spec r w' (GlobC.of hG hw' (New.not (L := D ++ [(b9, Obj.cells (refC r).toArray 48 (0, 0))]) (hN.app ⟨hw9, trivial⟩) hglt)) (by omega)).quiet) ?_
        refine Ow.go rfl ?_
        simp (disch := (first | assumption | omega | (simp only [lenS, lenT, UInt64.reduceToNat]; try omega))) only [↓Sx.S0, Sx.S1, Tryz.fx, uWR_1, Nat.reduceAdd, Nat.reducePow, Int.reducePow, Nat.reduceBEq, ↓reduceIte, UInt8.reduceToNat, UInt16.reduceToNat, UInt32.reduceToNat, UInt64.reduceToNat, Int.reduceToNat]
        ((try with_reducible refine Cw.go [] ?_); (try simp (disch := (first | assumption | omega | (simp only [lenS, lenT, UInt64.reduceToNat]; try omega))) only [↓Sx.S0, Sx.S1, Tryz.fx, uWR_1, Nat.reduceAdd, Nat.reducePow, Int.reducePow, Nat.reduceBEq, ↓reduceIte, UInt8.reduceToNat, UInt16.reduceToNat, UInt32.reduceToNat, UInt64.reduceToNat, Int.reduceToNat]))
        refine Again.mk (WG.mk (g + 1) (D ++ [(b9, Obj.cells (refC r).toArray 48 (0, 0))])) (by show l.length - (g + 1) < l.length - g; omega) ⟨by show g + 1 ≤ l.length; omega, hN.app ⟨hw9, trivial⟩⟩ rfl ?_
        rw [hsu, ← List.append_assoc]
        rfl
      · obtain rfl : g = l.length := by omega
        ((try with_reducible refine Cw.go [] ?_); (try simp (disch := (first | assumption | omega | (simp only [lenS, lenT, UInt64.reduceToNat]; try omega))) only [↓Sx.S0, Sx.S1, Tryz.fx, uWR_1, Nat.reduceAdd, Nat.reducePow, Int.reducePow, Nat.reduceBEq, ↓reduceIte, UInt8.reduceToNat, UInt16.reduceToNat, UInt32.reduceToNat, UInt64.reduceToNat, Int.reduceToNat]))
        refine ⟨_, (by simp (disch := (first | assumption | omega | (simp only [lenS, lenT, UInt64.reduceToNat]; try omega))) only [↓Sx.S0, Sx.S1, Tryz.fx, uWR_1, Nat.reduceAdd, Nat.reducePow, Int.reducePow, Nat.reduceBEq, ↓reduceIte, UInt8.reduceToNat, UInt16.reduceToNat, UInt32.reduceToNat, UInt64.reduceToNat, Int.reduceToNat]; rfl), hN, ?_⟩
        (rw [List.take_length]; simp only [bookB, hHd, ↓reduceIte]; rfl)
end Go.Proofs
end
section
open Go Go.Proofs Go.Sx Go.RefP
namespace Go.Proofs
set_option maxRecDepth 10000
set_option maxHeartbeats 4000000
set_option linter.unusedSimpArgs false
set_option linter.defProp false
def uWS_1 := And.intro (And.intro (And.intro (And.intro (@rdIn_v8) (@rdIn_v16)) (And.intro (@rdIn_v32) (@rdIn_v64))) (And.intro (And.intro (@rdIn_vi) (@load_ref0)) (And.intro (@load_ref1) (@cells_ref)))) (And.intro (And.intro (And.intro (@eqIdz) (@store_rr)) (And.intro (@load_ref) (@load_bk0))) (And.intro (And.intro (@load_bk1) (@load_bk)) (And.intro (@tup2_0) (And.intro (@tup2_1) (@store_bk0)))))
theorem REnd_nil (w : World) : Rets Tryz.prog 46 #[.pointer none] w (fun v D => v = vi 3 ∧ D = []) := by
  refine Rets.enterV Tryz.func46 rfl (rs := [.tmp 2]) Tryz.results46 Tryz.ntmps46 ?_
  simp only [List.size_toArray, List.length_cons, List.length_nil, Nat.reduceAdd, Nat.reduceSub, List.replicate_succ, List.replicate_zero, List.cons_append, List.nil_append]
  ((try with_reducible refine Cw.go [] ?_); (try simp (disch := (first | assumption | omega | (simp only [lenS, lenT, UInt64.reduceToNat]; try omega))) only [↓Sx.S0, Sx.S1, Tryz.fx, uWS_1, Nat.reduceAdd, Nat.reducePow, Int.reducePow, Nat.reduceBEq, ↓reduceIte, UInt8.reduceToNat, UInt16.reduceToNat, UInt32.reduceToNat, UInt64.reduceToNat, Int.reduceToNat]))
  refine Ow.callFV rfl Tryz.call67 (fun w' hw' => RErr_nil w') ?_
  refine Ow.go rfl ?_
  simp (disch := (first | assumption | omega | (simp only [lenS, lenT, UInt64.reduceToNat]; try omega))) only [↓Sx.S0, Sx.S1, Tryz.fx, uWS_1, Nat.reduceAdd, Nat.reducePow, Int.reducePow, Nat.reduceBEq, ↓reduceIte, UInt8.reduceToNat, UInt16.reduceToNat, UInt32.reduceToNat, UInt64.reduceToNat, Int.reduceToNat]
  ((try with_reducible refine Cw.go [] ?_); (try simp (disch := (first | assumption | omega | (simp only [lenS, lenT, UInt64.reduceToNat]; try omega))) only [↓Sx.S0, Sx.S1, Tryz.fx, uWS_1, Nat.reduceAdd, Nat.reducePow, Int.reducePow, Nat.reduceBEq, ↓reduceIte, UInt8.reduceToNat, UInt16.reduceToNat, UInt32.reduceToNat, UInt64.reduceToNat, Int.reduceToNat]))
  refine ⟨_, (by simp (disch := (first | assumption | omega | (simp only [lenS, lenT, UInt64.reduceToNat]; try omega))) only [↓Sx.S0, Sx.S1, Tryz.fx, uWS_1, Nat.reduceAdd, Nat.reducePow, Int.reducePow, Nat.reduceBEq, ↓reduceIte, UInt8.reduceToNat, UInt16.reduceToNat, UInt32.reduceToNat, UInt64.reduceToNat, Int.reduceToNat]; rfl), trivial, ?_⟩
  rfl
theorem RNumber_nil (m : Int) (w : World) : Rets Tryz.prog 44 #[.pointer none, vi m] w (fun v D => v = vi 0 ∧ D = []) := by
  refine Rets.enterV Tryz.func44 rfl (rs := [.tmp 4]) Tryz.results44 Tryz.ntmps44 ?_
  simp only [List.size_toArray, List.length_cons, List.length_nil, Nat.reduceAdd, Nat.reduceSub, List.replicate_succ, List.replicate_zero, List.cons_append, List.nil_append]
  ((try with_reducible refine Cw.go [] ?_); (try simp (disch := (first | assumption | omega | (simp only [lenS, lenT, UInt64.reduceToNat]; try omega))) only [↓Sx.S0, Sx.S1, Tryz.fx, uWS_1, Nat.reduceAdd, Nat.reducePow, Int.reducePow, Nat.reduceBEq, ↓reduceIte, UInt8.reduceToNat, UInt16.reduceToNat, UInt32.reduceToNat, UInt64.reduceToNat, Int.reduceToNat]))
  refine Cw.scopeS ?_
  ((try with_reducible refine Cw.go [] ?_); (try simp (disch := (first | assumption | omega | (simp only [lenS, lenT, UInt64.reduceToNat]; try omega))) only [↓Sx.S0, Sx.S1, Tryz.fx, uWS_1, Nat.reduceAdd, Nat.reducePow, Int.reducePow, Nat.reduceBEq, ↓reduceIte, UInt8.reduceToNat, UInt16.reduceToNat, UInt32.reduceToNat, UInt64.reduceToNat, Int.reduceToNat]))
  refine Ow.callFV rfl Tryz.call67 (fun w' hw' => RErr_nil w') ?_
  refine Ow.go rfl ?_
  simp (disch := (first | assumption | omega | (simp only [lenS, lenT, UInt64.reduceToNat]; try omega))) only [↓Sx.S0, Sx.S1, Tryz.fx, uWS_1, Nat.reduceAdd, Nat.reducePow, Int.reducePow, Nat.reduceBEq, ↓reduceIte, UInt8.reduceToNat, UInt16.reduceToNat, UInt32.reduceToNat, UInt64.reduceToNat, Int.reduceToNat]
  ((try with_reducible refine Cw.go [] ?_); (try simp (disch := (first | assumption | omega | (simp only [lenS, lenT, UInt64.reduceToNat]; try omega))) only [↓Sx.S0, Sx.S1, Tryz.fx, uWS_1, Nat.reduceAdd, Nat.reducePow, Int.reducePow, Nat.reduceBEq, ↓reduceIte, UInt8.reduceToNat, UInt16.reduceToNat, UInt32.reduceToNat, UInt64.reduceToNat, Int.reduceToNat]))
  refine ⟨_, (by simp (disch := (first | assumption | omega | (simp only [lenS, lenT, UInt64.reduceToNat]; try omega))) only [↓Sx.S0, Sx.S1, Tryz.fx, uWS_1, Nat.reduceAdd, Nat.reducePow, Int.reducePow, Nat.reduceBEq, ↓reduceIte, UInt8.reduceToNat, UInt16.reduceToNat, UInt32.reduceToNat, UInt64.reduceToNat, Int.reduceToNat]; rfl), trivial, ?_⟩
  rfl
theorem numGo_most (most : Int) : ∀ (l : List UInt8) (k n m k' : Nat), numGo most l k n = .ok (m, k') → (m : Int) ≤ most
  | [], _, _, _, _, h => by simp [numGo] at h
  | c :: r, k, n, m, k', h => by
    unfold numGo at h
    split at h
    · split at h
      · cases h
      · exact numGo_most most r _ _ _ _ h
    · split at h
      · cases h
      · split at h
        · rename_i hh
          cases h
          exact hh.2
        · cases h
theorem numR_most {s : List UInt8} {a : Nat} {e most : Int} (h0 : 0 ≤ most) : 0 ≤ (numR s a e most).1 ∧ (numR s a e most).1 ≤ most := by
  unfold numR
  split
  · exact ⟨Int.le_refl 0, h0⟩
  · split
    · rename_i n k h
      exact ⟨Int.natCast_nonneg _, numGo_most most _ _ _ _ _ h⟩
    · exact ⟨Int.le_refl 0, h0⟩
theorem refR_name {s : List UInt8} {a : Nat} {e : Int} (hs : s.length < 1099511627776) : (refR s a e).1.name.length < 1099511627776 := textR_len (e := e) (most := 32) hs
theorem refsR_short {s : List UInt8} {a : Nat} {e : Int} (hs : s.length < 1099511627776) : ∀ g, ShortN (refsR s a e g).1
  | 0 => fun g hg => by simp [refsR] at hg
  | g + 1 => by
    intro i hi
    rw [refsR_length] at hi
    unfold refsR
    simp only
    by_cases hlt : i < g
    · rw [List.getD_eq_getElem?_getD, List.getElem?_append_left (by rw [refsR_length]; exact hlt), ← List.getD_eq_getElem?_getD]
      exact refsR_short hs g i (by rw [refsR_length]; exact hlt)
    · have : i = (refsR s a e g).1.length := by rw [refsR_length]; omega
      subst this
      rw [List.getD_eq_getElem?_getD, List.getElem?_append_right (Nat.le_refl _)]
      simp only [Nat.sub_self, List.getElem?_cons_zero, Option.getD_some]
      exact refR_name hs
/-- What Read hands back. -/
def ReadS (s : List UInt8) (v : Value) (D : Heap) : Prop :=
  match bookR s with
  | some (tb, log, at_) => ∃ vt vl, v = .tuple #[.agg #[vt, vl], vi at_, vi 0] ∧ GrI D 48 33 vt tb.length (tb.map refC).flatten ∧ GrI D 48 33 vl log.length (log.map refC).flatten
  | none => v = .tuple #[.agg #[.slice none 0 0, .slice none 0 0], vi 0, vi 2]
theorem setB_appr {b : Nat} {x : Obj} : ∀ {D L : Heap}, b ∉ keys D → setB (D ++ L) b x = D ++ setB L b x
  | [], _, _ => rfl
  | (c, y) :: r, L, h => by
    simp only [keys, List.map_cons, List.mem_cons, not_or] at h
    rw [List.cons_append, setB_other _ _ _ _ _ (Ne.symm h.1), setB_appr (by simpa [keys] using h.2)]; rfl
theorem REndR_spec (b : Nat) (s : List UInt8) (a : Nat) (e : Int) (w : World) (ho : w.heap[b]? = some (.cells #[vs s, vi a, vi e] 108 (0, 0))) :
    Rets Tryz.prog 46 #[vp b 0] w (fun v D => v = vi (endR s a e) ∧ D = []) := REnd_spec b s a e w ho
theorem short_snoc {l : List RefL} {r : RefL} (h : ShortN l) (hr : r.name.length < 1099511627776) : ShortN (l ++ [r]) := by
  intro g hg
  by_cases hlt : g < l.length
  · have := h g hlt
    rwa [List.getD_eq_getElem?_getD, List.getElem?_append_left hlt, ← List.getD_eq_getElem?_getD]
  · have : g = l.length := by simp at hg; omega
    subst this
    rw [List.getD_eq_getElem?_getD, List.getElem?_append_right (Nat.le_refl _)]
    simpa using hr
theorem head_none {s : List UInt8} (h : (recR s 0 0 [72]).1 = none) : bookR s = none := by
  unfold bookR headR
  generalize recR s 0 0 [72] = p at h ⊢
  obtain ⟨o, q⟩ := p
  simp only at h
  subst h
  rfl
theorem head_some {s c : List UInt8} (h : (recR s 0 0 [72]).1 = some c) :
    headR s = if endR c (refsR c (numR c 0 0 16).2.1 (numR c 0 0 16).2.2 (numR c 0 0 16).1.toNat).2.1 (refsR c (numR c 0 0 16).2.1 (numR c 0 0 16).2.2 (numR c 0 0 16).1.toNat).2.2 = 0 ∧ rightB (refsR c (numR c 0 0 16).2.1 (numR c 0 0 16).2.2 (numR c 0 0 16).1.toNat).1 [] = true then some ((refsR c (numR c 0 0 16).2.1 (numR c 0 0 16).2.2 (numR c 0 0 16).1.toNat).1, (recR s 0 0 [72]).2.1) else none := by
  unfold headR
  generalize recR s 0 0 [72] = p at h ⊢
  obtain ⟨o, a, e⟩ := p
  simp only at h
  subst h
  rfl
theorem head_no {s : List UInt8} (h : headR s = none) : bookR s = none := by unfold bookR; rw [h]; rfl
theorem rec_le {s : List UInt8} {a : Nat} {e : Int} {p : List UInt8} (ha : a ≤ s.length) : a ≤ (recR s a e p).2.1 ∧ (recR s a e p).2.1 ≤ s.length := textR_le ha
theorem next_none {s : List UInt8} {tb log : List RefL} {at_ : Nat} (h : (recR s at_ 0 [69]).1 = none) : nextR s tb log at_ = none := by
  unfold nextR
  generalize recR s at_ 0 [69] = p at h ⊢
  obtain ⟨o, q⟩ := p
  simp only at h
  subst h
  rfl
theorem next_some {s : List UInt8} {tb log : List RefL} {at_ : Nat} {c : List UInt8} (h : (recR s at_ 0 [69]).1 = some c) :
    nextR s tb log at_ = if endR c (refR c 0 0).2.1 (refR c 0 0).2.2 = 0 ∧ rightB tb (log ++ [(refR c 0 0).1]) = true then some (log ++ [(refR c 0 0).1], (recR s at_ 0 [69]).2.1) else none := by
  unfold nextR
  generalize recR s at_ 0 [69] = p at h ⊢
  obtain ⟨o, a, e⟩ := p
  simp only at h
  subst h
  rfl
theorem book_done {s : List UInt8} {tb log : List RefL} {at_ a0 : Nat} (hh : headR s = some (tb, a0)) (hl : ∀ k, 101 ≤ k + log.length → logsR s tb k log at_ = logsR s tb 101 [] a0) (hn : nextR s tb log at_ = none) : bookR s = some (tb, log, at_) := by
  unfold bookR
  rw [hh, Option.map_some, ← hl 101 (by omega)]
  unfold logsR
  rw [hn]
structure RG where
  lab : Nat
  br : Nat
  b6 : Nat
  b7 : Nat
  vt : Value
  vl : Value
  x : Value
  y : Value
  tb : List RefL
  log : List RefL
  at_ : Nat
  D : Heap
structure HG where
  g : Nat
  vt : Value
  D : Heap
def bkO (x y : Value) : Obj := .cells #[x, y] 24 (0, 0)
def rdO (s : List UInt8) (a e : Int) : Obj := .cells #[vs s, vi a, vi e] 108 (0, 0)
def nlV : Value := .slice none 0 0
/-- What holds at the labels. -/
def RJ (s : List UInt8) (n b2 : Nat) (g : RG) : Prop :=
  (g.lab = 1 ∧ n ≤ g.br ∧ n ≤ g.b6 ∧ n ≤ g.b7 ∧ b2 ≠ g.br ∧ b2 ≠ g.b6 ∧ b2 ≠ g.b7 ∧ g.br ≠ g.b6 ∧ g.br ≠ g.b7 ∧ g.b6 ≠ g.b7 ∧ New n g.D ∧
    GrI g.D 48 33 g.vt g.tb.length (g.tb.map refC).flatten ∧ GrI g.D 48 33 g.vl g.log.length (g.log.map refC).flatten ∧
    Value.oneCell' g.x = true ∧ Value.oneCell' g.y = true ∧ ShortN g.tb ∧ ShortN g.log ∧ g.tb.length < 1000 ∧ g.log.length ≤ 100 ∧ g.at_ ≤ s.length ∧
    ∃ a0, headR s = some (g.tb, a0) ∧ ∀ k, 101 ≤ k + g.log.length → logsR s g.tb k g.log g.at_ = logsR s g.tb 101 [] a0) ∨
  (g.lab = 2 ∧ n ≤ g.b6 ∧ b2 ≠ g.b6 ∧ New n g.D ∧
    GrI g.D 48 33 g.vt g.tb.length (g.tb.map refC).flatten ∧ GrI g.D 48 33 g.vl g.log.length (g.log.map refC).flatten ∧ bookR s = some (g.tb, g.log, g.at_)) ∨
  (g.lab = 0 ∧ New n g.D ∧ bookR s = none)
def RH (s : List UInt8) (b2 : Nat) (g : RG) : Heap :=
  match g.lab with
  | 1 => (b2, bkO nlV nlV) :: (g.br, rdO s g.at_ 0) :: (g.b6, bkO g.vt g.vl) :: (g.b7, bkO g.x g.y) :: g.D
  | 2 => (b2, bkO nlV nlV) :: (g.b6, bkO g.vt g.vl) :: g.D
  | _ => (b2, bkO nlV nlV) :: g.D
def RSl (g : RG) : List (Nat × Value) :=
  match g.lab with
  | 1 => [(5, vp g.br 0), (6, vp g.b6 0), (7, vp g.b7 0)]
  | 2 => [(6, vp g.b6 0), (8, vi g.at_)]
  | _ => []
def RL (g : RG) : Nat :=
  match g.lab with
  | 1 => 1
  | 2 => 2
  | _ => 0
theorem gri_cell {D : Heap} {E : TypeId} {m n : Nat} {v : Value} {cs : List Value} (h : GrI D E m v n cs) : Value.oneCell' v = true ∧ v.cells = #[v] := by
  obtain ⟨X, -, h⟩ := h; exact h.cell
theorem Read_spec (s : List UInt8) (w : World) (hG : GlobC w) (hs : s.length < 1000000) :
    Rets Tryz.prog 18 #[vs s] w (XS w [] (ReadS s)) := by
  have hglt : (1 : Nat) < w.heap.size := by obtain ⟨e, f, h⟩ := hG; exact (Array.getElem?_eq_some_iff.1 h).1
  refine Rets.enterX Tryz.func18 rfl (rs := [.cell 2 24, .tmp 3, .tmp 4]) Tryz.results18 Tryz.ntmps18 (fun p hp => by cases hp) (by simp [keys]) ?_
  simp only [List.size_toArray, List.length_cons, List.length_nil, Nat.reduceAdd, Nat.reduceSub, List.replicate_succ, List.replicate_zero, List.cons_append, List.nil_append]
  ((try with_reducible refine Cw.go [] ?_); (try simp (disch := (first | assumption | omega | (simp only [lenS, lenT, UInt64.reduceToNat]; try omega))) only [↓Sx.S0, Sx.S1, Tryz.fx, uWS_1, Nat.reduceAdd, Nat.reducePow, Int.reducePow, Nat.reduceBEq, ↓reduceIte, UInt8.reduceToNat, UInt16.reduceToNat, UInt32.reduceToNat, UInt64.reduceToNat, Int.reduceToNat]))
  refine Ow.alloc rfl rfl zrBk fun b2 hb2 hw2 => ?_
  simp only [cells_agg, List.nil_append, List.cons_append]
  refine Ow.go rfl ?_
  simp (disch := (first | assumption | omega | (simp only [lenS, lenT, UInt64.reduceToNat]; try omega))) only [↓Sx.S0, Sx.S1, Tryz.fx, uWS_1, Nat.reduceAdd, Nat.reducePow, Int.reducePow, Nat.reduceBEq, ↓reduceIte, UInt8.reduceToNat, UInt16.reduceToNat, UInt32.reduceToNat, UInt64.reduceToNat, Int.reduceToNat]
  ((try with_reducible refine Cw.go [] ?_); (try simp (disch := (first | assumption | omega | (simp only [lenS, lenT, UInt64.reduceToNat]; try omega))) only [↓Sx.S0, Sx.S1, Tryz.fx, uWS_1, Nat.reduceAdd, Nat.reducePow, Int.reducePow, Nat.reduceBEq, ↓reduceIte, UInt8.reduceToNat, UInt16.reduceToNat, UInt32.reduceToNat, UInt64.reduceToNat, Int.reduceToNat]))
  refine Cw.scopeL (G := RG) (fun g => RL g) [10, 11, 5, 6, 7, 8, 12, 13, 9, 14, 15, 16, 17, 18, 19, 20, 21, 22, 23, 24, 25, 26, 27, 28, 29, 30, 31, 32, 33, 34, 35, 36, 37, 38, 39, 40, 41, 42, 43, 44, 45, 46, 47, 48, 49, 50, 51, 52, 53, 54, 55, 56, 57, 58, 59, 60, 3, 4, 61] (fun g => RSl g) (fun g => RH s b2 g) (fun g => RJ s w.heap.size b2 g) (fun g => (if g.lab = 1 then 102 - g.log.length else 0)) ?_ ?_ ?_
  · intro g
    unfold RL
    split <;> rfl
  · intro g j hg
    rcases hg with hg | hg | hg
    · obtain ⟨lab, br, b6, b7, vt, vl, x, y, tb, log, at_, D⟩ := g
      obtain ⟨hlab, hg⟩ := hg
      simp only at hlab
      subst hlab
      simp only [RL, RSl, RH] at hg ⊢
      obtain ⟨hwr, hw6, hw7, h2r, h26, h27, hr6, hr7, h67, hN, hgt, hgl, hox, hoy, hst, hsl, htl, hll, hat, a0, hhd, hlg⟩ := hg
      simp only [bkO, rdO, nlV]
      simp only [contP, hasL, Bool.or_false, Bool.false_or, Bool.or_true, Bool.true_or, Nat.reduceBEq, beq_self_eq_true, ↓reduceIte, Bool.false_eq_true]
      simp only [overFrom, pin, setF_0, setF_s, List.contains_cons, List.contains_nil, Nat.reduceBEq, Bool.or_false, Bool.false_or, Bool.or_true, Bool.true_or, Nat.reduceAdd, ↓reduceIte, Bool.false_eq_true]
      try with_reducible refine thenK_normal ?_
      ((try with_reducible refine Cw.go [14] ?_); (try simp (disch := (first | assumption | omega | (simp only [lenS, lenT, UInt64.reduceToNat]; try omega))) only [↓Sx.S0, Sx.S1, Tryz.fx, uWS_1, Nat.reduceAdd, Nat.reducePow, Int.reducePow, Nat.reduceBEq, ↓reduceIte, UInt8.reduceToNat, UInt16.reduceToNat, UInt32.reduceToNat, UInt64.reduceToNat, Int.reduceToNat]))
      refine Ow.callFV rfl Tryz.call47 (fun w' hw' => RAt_spec br s at_ 0 w' (hw'.has _ _ (List.mem_cons_of_mem _ List.mem_cons_self))) ?_
      refine Ow.go rfl ?_
      simp (disch := (first | assumption | omega | (simp only [lenS, lenT, UInt64.reduceToNat]; try omega))) only [↓Sx.S0, Sx.S1, Tryz.fx, uWS_1, Nat.reduceAdd, Nat.reducePow, Int.reducePow, Nat.reduceBEq, ↓reduceIte, UInt8.reduceToNat, UInt16.reduceToNat, UInt32.reduceToNat, UInt64.reduceToNat, Int.reduceToNat]
      ((try with_reducible refine Cw.go [] ?_); (try simp (disch := (first | assumption | omega | (simp only [lenS, lenT, UInt64.reduceToNat]; try omega))) only [↓Sx.S0, Sx.S1, Tryz.fx, uWS_1, Nat.reduceAdd, Nat.reducePow, Int.reducePow, Nat.reduceBEq, ↓reduceIte, UInt8.reduceToNat, UInt16.reduceToNat, UInt32.reduceToNat, UInt64.reduceToNat, Int.reduceToNat]))
      refine Ow.permL (M := [(br, .cells #[vs s, vi at_, vi 0] 108 (0, 0))] ++ ((b2, .cells #[.slice none 0 0, .slice none 0 0] 24 (0, 0)) :: (b6, .cells #[vt, vl] 24 (0, 0)) :: (b7, .cells #[x, y] 24 (0, 0)) :: D)) (by classical exact List.perm_iff_count.2 fun a => by simp only [List.count_append, List.count_cons, List.count_nil] <;> omega) ?_
      refine Ow.callX (Y := ((b2, .cells #[.slice none 0 0, .slice none 0 0] 24 (0, 0)) :: (b6, .cells #[vt, vl] 24 (0, 0)) :: (b7, .cells #[x, y] 24 (0, 0)) :: D)) (by simp) rfl rfl Tryz.call43 (fun w' hw' hX hn => unrecord_spec br s at_ 0 [69] w' (GlobC.of hG hw' (New.not (L := [(br, .cells #[vs s, vi at_, vi 0] 108 (0, 0))] ++ ((b2, .cells #[.slice none 0 0, .slice none 0 0] 24 (0, 0)) :: (b6, .cells #[vt, vl] 24 (0, 0)) :: (b7, .cells #[x, y] 24 (0, 0)) :: D)) (by exact ⟨hwr, hw2, hw6, hw7, hN⟩) hglt)) (by omega) hat (by omega) (hX _ List.mem_cons_self)) (fun v1 D1 hC1 hS1 => ?_)
      rcases hS1 with ⟨hno, rfl, rfl⟩ | ⟨b', c, hc, rfl, hb', hne, rfl⟩
      · refine Ow.permL (M := (b2, .cells #[.slice none 0 0, .slice none 0 0] 24 (0, 0)) :: (b6, .cells #[vt, vl] 24 (0, 0)) :: (br, .cells #[vs s, vi (recR s at_ 0 [69]).2.1, vi (recR s at_ 0 [69]).2.2] 108 (0, 0)) :: (b7, .cells #[x, y] 24 (0, 0)) :: D) (by classical exact List.perm_iff_count.2 fun a => by simp only [List.count_append, List.count_cons, List.count_nil] <;> omega) ?_
        refine Ow.go rfl ?_
        simp (disch := (first | assumption | omega | (simp only [lenS, lenT, UInt64.reduceToNat]; try omega))) only [↓Sx.S0, Sx.S1, Tryz.fx, uWS_1, Nat.reduceAdd, Nat.reducePow, Int.reducePow, Nat.reduceBEq, ↓reduceIte, UInt8.reduceToNat, UInt16.reduceToNat, UInt32.reduceToNat, UInt64.reduceToNat, Int.reduceToNat]
        ((try with_reducible refine Cw.go [] ?_); (try simp (disch := (first | assumption | omega | (simp only [lenS, lenT, UInt64.reduceToNat]; try omega))) only [↓Sx.S0, Sx.S1, Tryz.fx, uWS_1, Nat.reduceAdd, Nat.reducePow, Int.reducePow, Nat.reduceBEq, ↓reduceIte, UInt8.reduceToNat, UInt16.reduceToNat, UInt32.reduceToNat, UInt64.reduceToNat, Int.reduceToNat, nilR']))
        refine Jump.mk ⟨2, br, b6, b7, vt, vl, x, y, tb, log, at_, (br, .cells #[vs s, vi (recR s at_ 0 [69]).2.1, vi (recR s at_ 0 [69]).2.2] 108 (0, 0)) :: (b7, .cells #[x, y] 24 (0, 0)) :: D⟩ rfl (by show 0 < 102 - log.length; omega) (.inr (.inl ⟨rfl, hw6, h26, ⟨hwr, hw7, hN⟩, hgt.mono fun p hp => by simp [hp], hgl.mono fun p hp => by simp [hp], ?_⟩)) rfl rfl
        exact book_done hhd hlg (next_none hno)
      · have hbA : b2 < b' ∧ br < b' ∧ b6 < b' ∧ b7 < b' := by
          rcases hC1.new b' (by simp [keys]) with h | ⟨h, -⟩
          · simp [keys] at h; omega
          · obtain ⟨q1, q2, q3, q4, -⟩ := h
            exact ⟨q2, q1, q3, q4⟩
        obtain ⟨h2b, hrb, h6b, h7b⟩ := hbA
        have hcl := recR_len (by omega) hc
        have hce := recR_err hc
        rw [hce]
        have hle0 := rec_le (p := [69]) (e := 0) hat
        generalize hto : (recR s at_ 0 [69]).2.1 = to at *
        refine Ow.go rfl ?_
        simp (disch := (first | assumption | omega | (simp only [lenS, lenT, UInt64.reduceToNat]; try omega))) only [↓Sx.S0, Sx.S1, Tryz.fx, uWS_1, Nat.reduceAdd, Nat.reducePow, Int.reducePow, Nat.reduceBEq, ↓reduceIte, UInt8.reduceToNat, UInt16.reduceToNat, UInt32.reduceToNat, UInt64.reduceToNat, Int.reduceToNat]
        ((try with_reducible refine Cw.go [] ?_); (try simp (disch := (first | assumption | omega | (simp only [lenS, lenT, UInt64.reduceToNat]; try omega))) only [↓Sx.S0, Sx.S1, Tryz.fx, uWS_1, Nat.reduceAdd, Nat.reducePow, Int.reducePow, Nat.reduceBEq, ↓reduceIte, UInt8.reduceToNat, UInt16.reduceToNat, UInt32.reduceToNat, UInt64.reduceToNat, Int.reduceToNat, nilR]))
        refine Cw.regionS [b6] [0, 2, 5, 1, 3, 4, 6, 7, 8, 9, 10] [10] (by kernel_rfl) (by kernel_rfl) (by kernel_rfl) ?_
        simp only [nl_cons, ↓pickL_nil, ↓pickL_cons, ↓nthO_0, ↓nthO_s, consO_some]
        refine Ow.goQ ?_
        simp (disch := (first | assumption | omega | (simp only [lenS, lenT, UInt64.reduceToNat]; try omega))) only [↓Sx.S0, Sx.S1, Tryz.fx, uWS_1, Nat.reduceAdd, Nat.reducePow, Int.reducePow, Nat.reduceBEq, ↓reduceIte, UInt8.reduceToNat, UInt16.reduceToNat, UInt32.reduceToNat, UInt64.reduceToNat, Int.reduceToNat]
        refine Ow.soft rfl rfl rfl ?_
        refine Ow.callC rfl rfl Tryz.call41 (fun w' hw' => CloneRef_spec vl log w' (GrI.slV (hgl.mono (fun p hp => by simp [hp])) hw' rfl rfl refC_len) (by omega)) (fun B1 v3 Dc hA1 hB1 hN1 hS3 => ?_)
        have hAc := hA1
        try simp only [List.cons_append, List.nil_append] at hAc
        obtain ⟨qr, qb, q2, q6, q7, -⟩ := hAc
        with_reducible refine Ow.nil ?_
        refine ⟨readB_appR (by simp [keys]), ?_⟩
        try simp only [List.cons_append, List.nil_append]
        refine Ow.soft rfl rfl rfl ?_
        refine Ow.callM rfl rfl Tryz.call45 (by simp [keys]) (fun w' hw' => one_spec b' c 0 0 w' (Nat.zero_le _) (by omega) (hw'.has _ _ (List.mem_cons_of_mem _ List.mem_cons_self))) ?_
        with_reducible refine Ow.nil ?_
        refine ⟨fun b hb => read_setB_ne (by simp only [List.mem_cons, List.not_mem_nil, or_false] at hb; omega), ?_⟩
        rw [oneR_eq]
        have hfn := refR_name (s := c) (a := 0) (e := 0) hcl
        have hfl := refR_le (s := c) (a := 0) (e := 0) (Nat.zero_le _)
        have hns := next_some (tb := tb) (log := log) hc
        rw [hto] at hns
        generalize refR c 0 0 = rr at *
        obtain ⟨r, ra, re⟩ := rr
        simp only at hfn hfl hns ⊢
        simp (disch := (first | assumption | omega | (simp only [lenS, lenT, UInt64.reduceToNat]; try omega))) only [setB_same, setB_other, List.cons_append, List.nil_append]
        try simp only [List.cons_append, List.nil_append]
        refine Ow.soft rfl rfl rfl ?_
        refine Ow.buildSlice (e := 48) (refC r).toArray rfl rfl (sliceRef r) fun b8 hb8 hw8 => ?_
        have h68 : b6 < b8 := above_to hb8 (by simp [keys])
        have h78 : b7 < b8 := above_to hb8 (by simp [keys])
        have h28 : b2 < b8 := above_to hb8 (by simp [keys])
        have hr8 : br < b8 := above_to hb8 (by simp [keys])
        have hb8' : b' < b8 := above_to hb8 (by simp [keys])
        with_reducible refine Ow.nil ?_
        refine ⟨readB_appR (by simp [keys]), ?_⟩
        try simp only [List.cons_append, List.nil_append]
        refine Ow.soft rfl rfl rfl ?_
        refine Ow.permL (M := Dc ++ (((br, .cells #[vs s, vi to, vi 0] 108 (0, 0)) :: (b', .cells #[vs c, vi ra, vi re] 108 (0, 0)) :: (b2, .cells #[.slice none 0 0, .slice none 0 0] 24 (0, 0)) :: (b6, .cells #[vt, vl] 24 (0, 0)) :: (b7, .cells #[x, y] 24 (0, 0)) :: D) ++ [(b8, .cells (refC r).toArray 48 (0, 0))])) (by classical exact List.perm_iff_count.2 fun a => by simp only [List.count_append, List.count_cons, List.count_nil] <;> omega) ?_
        refine Ow.appendX (e := 48) (k := 1) (new := refC r) (X := Dc) v3 rfl rfl rfl rfl Tryz.underlying22 Tryz.ag48 (by kernel_rfl) zrRef (by rw [cells_ref, List.size_toArray, refC_len]) Tryz.underlying22 (by intro k h; cases h) hS3 (fun w' hw' => AppX.one1 (hw'.has b8 (.cells (refC r).toArray 48 (0, 0)) (by simp)) (refC_len r) (refC_one r)) (by omega) (by omega) (fun B v4 D4 hA4 hB4 hbuf hk1 hk2 hlk => ?_)
        have hB8 : b8 < B := above_to hA4 (by simp [keys_app, keys])
        have hno4 : ∀ q, q < B1 → q < B → q ∉ keys D4 := fun q h1 h2 hm => by
          rcases hk2 q hm with h | h
          · have := hN1.le q h; omega
          · omega
        have h64 := hno4 b6 q6 (by omega)
        have h74 := hno4 b7 q7 (by omega)
        with_reducible refine Ow.nil ?_
        refine ⟨fun q hq => ?_, ?_⟩
        · rw [List.mem_singleton] at hq
          subst hq
          rw [readB_appr h64]
          simp (disch := omega) only [List.cons_append, List.nil_append, read_same, read_other]
        try simp only [List.cons_append, List.nil_append]
        refine Ow.build (.agg #[vt, v4]) rfl (build_bk vt v4 (gri_cell hgt).2 hbuf.cell.2) ?_
        have hst7 : storeAtV (aggT Tryz.prog 24) (D4 ++ (((br, .cells #[vs s, vi to, vi 0] 108 (0, 0)) :: (b', .cells #[vs c, vi ra, vi re] 108 (0, 0)) :: (b2, .cells #[.slice none 0 0, .slice none 0 0] 24 (0, 0)) :: (b6, .cells #[vt, vl] 24 (0, 0)) :: (b7, .cells #[x, y] 24 (0, 0)) :: D) ++ [(b8, .cells (refC r).toArray 48 (0, 0))])) (vp b7 0) (.agg #[vt, v4]) = some (D4 ++ (((br, .cells #[vs s, vi to, vi 0] 108 (0, 0)) :: (b', .cells #[vs c, vi ra, vi re] 108 (0, 0)) :: (b2, .cells #[.slice none 0 0, .slice none 0 0] 24 (0, 0)) :: (b6, .cells #[vt, vl] 24 (0, 0)) :: (b7, .cells #[vt, v4] 24 (0, 0)) :: D) ++ [(b8, .cells (refC r).toArray 48 (0, 0))])) := by
          rw [Tryz.ag24, storeAt_p, look_app_r h74]
          simp (disch := omega) only [List.cons_append, look_same, look_other]
          rw [store_bk _ _ _ _ _ (gri_cell hgt).1 hbuf.cell.1, upd_some, setB_appr h74]
          simp (disch := omega) only [setB_same, setB_other]
        refine Ow.store rfl rfl rfl hst7 ?_
        refine Ow.goQ ?_
        simp (disch := (first | assumption | omega | (simp only [lenS, lenT, UInt64.reduceToNat]; try omega))) only [↓Sx.S0, Sx.S1, Tryz.fx, uWS_1, Nat.reduceAdd, Nat.reducePow, Int.reducePow, Nat.reduceBEq, ↓reduceIte, UInt8.reduceToNat, UInt16.reduceToNat, UInt32.reduceToNat, UInt64.reduceToNat, Int.reduceToNat]
        refine Cw.permL (M := (b2, .cells #[.slice none 0 0, .slice none 0 0] 24 (0, 0)) :: (br, .cells #[vs s, vi to, vi 0] 108 (0, 0)) :: (b6, .cells #[vt, vl] 24 (0, 0)) :: (b7, .cells #[vt, v4] 24 (0, 0)) :: (b', .cells #[vs c, vi ra, vi re] 108 (0, 0)) :: (b8, .cells (refC r).toArray 48 (0, 0)) :: (D ++ D4)) (by classical exact List.perm_iff_count.2 fun a => by simp only [List.count_append, List.count_cons, List.count_nil] <;> omega) ?_
        try simp only [putF_some, putF_none, setF_0, setF_s]
        have hND : New w.heap.size (D ++ D4) := hN.app (New.of_le fun q hq => by
          rcases hk2 q hq with h | h
          · have := hN1.le q h; omega
          · omega)
        have hNn : New w.heap.size ((br, .cells #[vs s, vi to, vi 0] 108 (0, 0)) :: (b7, .cells #[vt, v4] 24 (0, 0)) :: (b', .cells #[vs c, vi ra, vi re] 108 (0, 0)) :: (b8, .cells (refC r).toArray 48 (0, 0)) :: (D ++ D4)) := ⟨hwr, hw7, (by omega), hw8, hND⟩
        have hfl4 : (log.map refC).flatten ++ refC r = ((log ++ [r]).map refC).flatten := by simp
        rw [hfl4] at hbuf
        have hgr4 : Gr D4 48 33 v4 (log.length + 1) ((log ++ [r]).map refC).flatten := .inl hbuf
        have hsh4 : ShortN (log ++ [r]) := short_snoc hsl hfn
        ((try with_reducible refine Cw.go [] ?_); (try simp (disch := (first | assumption | omega | (simp only [lenS, lenT, UInt64.reduceToNat]; try omega))) only [↓Sx.S0, Sx.S1, Tryz.fx, uWS_1, Nat.reduceAdd, Nat.reducePow, Int.reducePow, Nat.reduceBEq, ↓reduceIte, UInt8.reduceToNat, UInt16.reduceToNat, UInt32.reduceToNat, UInt64.reduceToNat, Int.reduceToNat]))
        refine Ow.callFV rfl Tryz.call46 (fun w' hw' => REndR_spec b' c ra re w' (hw'.has _ _ (by simp))) ?_
        by_cases he : endR c ra re = 0
        · have hb : (endR c ra re != 0) = false := by simp [he]
          refine Ow.go rfl ?_
          simp (disch := (first | assumption | omega | (simp only [lenS, lenT, UInt64.reduceToNat]; try omega))) only [↓Sx.S0, Sx.S1, Tryz.fx, uWS_1, Nat.reduceAdd, Nat.reducePow, Int.reducePow, Nat.reduceBEq, ↓reduceIte, UInt8.reduceToNat, UInt16.reduceToNat, UInt32.reduceToNat, UInt64.reduceToNat, Int.reduceToNat, hb]
          ((try with_reducible refine Cw.go [] ?_); (try simp (disch := (first | assumption | omega | (simp only [lenS, lenT, UInt64.reduceToNat]; try omega))) only [↓Sx.S0, Sx.S1, Tryz.fx, uWS_1, Nat.reduceAdd, Nat.reducePow, Int.reducePow, Nat.reduceBEq, ↓reduceIte, UInt8.reduceToNat, UInt16.reduceToNat, UInt32.reduceToNat, UInt64.reduceToNat, Int.reduceToNat, load_bk]))
          refine Ow.callFV rfl Tryz.call8 (fun w' hw' => Right_spec vt v4 tb (log ++ [r]) w' (GrI.slV (hgt.mono (fun p hp => by simp [hp])) hw' rfl rfl refC_len) (hgr4.slM (fun b o hm => hw'.has b o (by simp [hm])) (by simp) rfl refC_len) (by omega) (by simp; omega) hst hsh4) ?_
          cases hr : rightB tb (log ++ [r])
          · refine Ow.permL (M := (b2, .cells #[.slice none 0 0, .slice none 0 0] 24 (0, 0)) :: (b6, .cells #[vt, vl] 24 (0, 0)) :: ((br, .cells #[vs s, vi to, vi 0] 108 (0, 0)) :: (b7, .cells #[vt, v4] 24 (0, 0)) :: (b', .cells #[vs c, vi ra, vi re] 108 (0, 0)) :: (b8, .cells (refC r).toArray 48 (0, 0)) :: (D ++ D4))) (by classical exact List.perm_iff_count.2 fun a => by simp only [List.count_append, List.count_cons, List.count_nil] <;> omega) ?_
            refine Ow.go rfl ?_
            simp (disch := (first | assumption | omega | (simp only [lenS, lenT, UInt64.reduceToNat]; try omega))) only [↓Sx.S0, Sx.S1, Tryz.fx, uWS_1, Nat.reduceAdd, Nat.reducePow, Int.reducePow, Nat.reduceBEq, ↓reduceIte, UInt8.reduceToNat, UInt16.reduceToNat, UInt32.reduceToNat, UInt64.reduceToNat, Int.reduceToNat]
            ((try with_reducible refine Cw.go [] ?_); (try simp (disch := (first | assumption | omega | (simp only [lenS, lenT, UInt64.reduceToNat]; try omega))) only [↓Sx.S0, Sx.S1, Tryz.fx, uWS_1, Nat.reduceAdd, Nat.reducePow, Int.reducePow, Nat.reduceBEq, ↓reduceIte, UInt8.reduceToNat, UInt16.reduceToNat, UInt32.reduceToNat, UInt64.reduceToNat, Int.reduceToNat]))
            refine Jump.mk ⟨2, br, b6, b7, vt, vl, x, y, tb, log, at_, ((br, .cells #[vs s, vi to, vi 0] 108 (0, 0)) :: (b7, .cells #[vt, v4] 24 (0, 0)) :: (b', .cells #[vs c, vi ra, vi re] 108 (0, 0)) :: (b8, .cells (refC r).toArray 48 (0, 0)) :: (D ++ D4))⟩ rfl (by show 0 < 102 - log.length; omega) (.inr (.inl ⟨rfl, hw6, h26, hNn, hgt.mono fun p hp => by simp [hp], hgl.mono fun p hp => by simp [hp], ?_⟩)) rfl rfl
            exact book_done hhd hlg (by rw [hns, if_neg (by simp [hr])])
          · rw [if_pos ⟨he, hr⟩] at hns
            have hlb := rightB_len hr
            have hst6 := store_bk vt vl vt v4 24 (gri_cell hgt).1 hbuf.cell.1
            refine Ow.go rfl ?_
            simp (disch := (first | assumption | omega | (simp only [lenS, lenT, UInt64.reduceToNat]; try omega))) only [↓Sx.S0, Sx.S1, Tryz.fx, uWS_1, Nat.reduceAdd, Nat.reducePow, Int.reducePow, Nat.reduceBEq, ↓reduceIte, UInt8.reduceToNat, UInt16.reduceToNat, UInt32.reduceToNat, UInt64.reduceToNat, Int.reduceToNat]
            ((try with_reducible refine Cw.go [] ?_); (try simp (disch := (first | assumption | omega | (simp only [lenS, lenT, UInt64.reduceToNat]; try omega))) only [↓Sx.S0, Sx.S1, Tryz.fx, uWS_1, Nat.reduceAdd, Nat.reducePow, Int.reducePow, Nat.reduceBEq, ↓reduceIte, UInt8.reduceToNat, UInt16.reduceToNat, UInt32.reduceToNat, UInt64.reduceToNat, Int.reduceToNat, load_bk, hst6]))
            have hgr4i : GrI ((b', .cells #[vs c, vi ra, vi re] 108 (0, 0)) :: (b8, .cells (refC r).toArray 48 (0, 0)) :: (D ++ D4)) 48 33 v4 (log ++ [r]).length ((log ++ [r]).map refC).flatten := by
              rw [List.length_append]; exact hgr4.i fun p hp => by simp [hp]
            refine Jump.mk ⟨1, br, b6, b7, vt, v4, vt, v4, tb, log ++ [r], to, (b', .cells #[vs c, vi ra, vi re] 108 (0, 0)) :: (b8, .cells (refC r).toArray 48 (0, 0)) :: (D ++ D4)⟩ rfl (by show 102 - (log ++ [r]).length < 102 - log.length; rw [List.length_append, List.length_singleton]; omega) (.inl ⟨rfl, hwr, hw6, hw7, h2r, h26, h27, hr6, hr7, h67, ⟨(by omega), hw8, hND⟩, hgt.mono fun p hp => by simp [hp], hgr4i, (gri_cell hgt).1, hbuf.cell.1, hst, hsh4, htl, hlb, hle0.2, a0, hhd, ?_⟩) rfl rfl
            intro k hk
            simp only at hk ⊢
            rw [List.length_append, List.length_singleton] at hk
            rw [← hlg (k + 1) (by omega), logsR, hns]
        · have hb : (endR c ra re != 0) = true := by simpa using he
          refine Ow.permL (M := (b2, .cells #[.slice none 0 0, .slice none 0 0] 24 (0, 0)) :: (b6, .cells #[vt, vl] 24 (0, 0)) :: ((br, .cells #[vs s, vi to, vi 0] 108 (0, 0)) :: (b7, .cells #[vt, v4] 24 (0, 0)) :: (b', .cells #[vs c, vi ra, vi re] 108 (0, 0)) :: (b8, .cells (refC r).toArray 48 (0, 0)) :: (D ++ D4))) (by classical exact List.perm_iff_count.2 fun a => by simp only [List.count_append, List.count_cons, List.count_nil] <;> omega) ?_
          refine Ow.go rfl ?_
          simp (disch := (first | assumption | omega | (simp only [lenS, lenT, UInt64.reduceToNat]; try omega))) only [↓Sx.S0, Sx.S1, Tryz.fx, uWS_1, Nat.reduceAdd, Nat.reducePow, Int.reducePow, Nat.reduceBEq, ↓reduceIte, UInt8.reduceToNat, UInt16.reduceToNat, UInt32.reduceToNat, UInt64.reduceToNat, Int.reduceToNat, hb]
          ((try with_reducible refine Cw.go [] ?_); (try simp (disch := (first | assumption | omega | (simp only [lenS, lenT, UInt64.reduceToNat]; try omega))) only [↓Sx.S0, Sx.S1, Tryz.fx, uWS_1, Nat.reduceAdd, Nat.reducePow, Int.reducePow, Nat.reduceBEq, ↓reduceIte, UInt8.reduceToNat, UInt16.reduceToNat, UInt32.reduceToNat, UInt64.reduceToNat, Int.reduceToNat]))
          refine Jump.mk ⟨2, br, b6, b7, vt, vl, x, y, tb, log, at_, ((br, .cells #[vs s, vi to, vi 0] 108 (0, 0)) :: (b7, .cells #[vt, v4] 24 (0, 0)) :: (b', .cells #[vs c, vi ra, vi re] 108 (0, 0)) :: (b8, .cells (refC r).toArray 48 (0, 0)) :: (D ++ D4))⟩ rfl (by show 0 < 102 - log.length; omega) (.inr (.inl ⟨rfl, hw6, h26, hNn, hgt.mono fun p hp => by simp [hp], hgl.mono fun p hp => by simp [hp], ?_⟩)) rfl rfl
          exact book_done hhd hlg (by rw [hns, if_neg (fun h => he h.1)])
    · obtain ⟨lab, br, b6, b7, vt, vl, x, y, tb, log, at_, D⟩ := g
      obtain ⟨hlab, hg⟩ := hg
      simp only at hlab
      subst hlab
      simp only [RL, RSl, RH] at hg ⊢
      obtain ⟨hw6, h26, hN, hgt, hgl, hbk⟩ := hg
      simp only [bkO, rdO, nlV]
      simp only [contP, hasL, Bool.or_false, Bool.false_or, Bool.or_true, Bool.true_or, Nat.reduceBEq, beq_self_eq_true, ↓reduceIte, Bool.false_eq_true]
      simp only [overFrom, pin, setF_0, setF_s, List.contains_cons, List.contains_nil, Nat.reduceBEq, Bool.or_false, Bool.false_or, Bool.or_true, Bool.true_or, Nat.reduceAdd, ↓reduceIte, Bool.false_eq_true]
      try with_reducible refine thenK_normal ?_
      have hst2 := store_bk (.slice none 0 0) (.slice none 0 0) vt vl 24 (gri_cell hgt).1 (gri_cell hgl).1
      ((try with_reducible refine Cw.go [] ?_); (try simp (disch := (first | assumption | omega | (simp only [lenS, lenT, UInt64.reduceToNat]; try omega))) only [↓Sx.S0, Sx.S1, Tryz.fx, uWS_1, Nat.reduceAdd, Nat.reducePow, Int.reducePow, Nat.reduceBEq, ↓reduceIte, UInt8.reduceToNat, UInt16.reduceToNat, UInt32.reduceToNat, UInt64.reduceToNat, Int.reduceToNat, load_bk, hst2]))
      refine ⟨_, (by simp (disch := (first | assumption | omega | (simp only [lenS, lenT, UInt64.reduceToNat]; try omega))) only [↓Sx.S0, Sx.S1, Tryz.fx, uWS_1, Nat.reduceAdd, Nat.reducePow, Int.reducePow, Nat.reduceBEq, ↓reduceIte, UInt8.reduceToNat, UInt16.reduceToNat, UInt32.reduceToNat, UInt64.reduceToNat, Int.reduceToNat]; rfl), ?_⟩
      refine ⟨Ext.of_new ⟨hw2, hw6, hN⟩, ?_⟩
      unfold ReadS
      rw [hbk]
      exact ⟨vt, vl, rfl, hgt.mono fun p hp => by simp [hp], hgl.mono fun p hp => by simp [hp]⟩
    · obtain ⟨lab, br, b6, b7, vt, vl, x, y, tb, log, at_, D⟩ := g
      obtain ⟨hlab, hg⟩ := hg
      simp only at hlab
      subst hlab
      simp only [RL, RSl, RH] at hg ⊢
      obtain ⟨hN, hbk⟩ := hg
      simp only [bkO, rdO, nlV]
      simp only [contP, hasL, Bool.or_false, Bool.false_or, Bool.or_true, Bool.true_or, Nat.reduceBEq, beq_self_eq_true, ↓reduceIte, Bool.false_eq_true]
      simp only [overFrom, pin, setF_0, setF_s, List.contains_cons, List.contains_nil, Nat.reduceBEq, Bool.or_false, Bool.false_or, Bool.or_true, Bool.true_or, Nat.reduceAdd, ↓reduceIte, Bool.false_eq_true]
      try with_reducible refine thenK_normal ?_
      ((try with_reducible refine Cw.go [] ?_); (try simp (disch := (first | assumption | omega | (simp only [lenS, lenT, UInt64.reduceToNat]; try omega))) only [↓Sx.S0, Sx.S1, Tryz.fx, uWS_1, Nat.reduceAdd, Nat.reducePow, Int.reducePow, Nat.reduceBEq, ↓reduceIte, UInt8.reduceToNat, UInt16.reduceToNat, UInt32.reduceToNat, UInt64.reduceToNat, Int.reduceToNat]))
      refine Ow.build (.agg #[.slice none 0 0, .slice none 0 0]) rfl (by kernel_rfl) ?_
      refine Ow.go rfl ?_
      simp (disch := (first | assumption | omega | (simp only [lenS, lenT, UInt64.reduceToNat]; try omega))) only [↓Sx.S0, Sx.S1, Tryz.fx, uWS_1, Nat.reduceAdd, Nat.reducePow, Int.reducePow, Nat.reduceBEq, ↓reduceIte, UInt8.reduceToNat, UInt16.reduceToNat, UInt32.reduceToNat, UInt64.reduceToNat, Int.reduceToNat]
      ((try with_reducible refine Cw.go [] ?_); (try simp (disch := (first | assumption | omega | (simp only [lenS, lenT, UInt64.reduceToNat]; try omega))) only [↓Sx.S0, Sx.S1, Tryz.fx, uWS_1, Nat.reduceAdd, Nat.reducePow, Int.reducePow, Nat.reduceBEq, ↓reduceIte, UInt8.reduceToNat, UInt16.reduceToNat, UInt32.reduceToNat, UInt64.reduceToNat, Int.reduceToNat]))
      refine ⟨_, (by simp (disch := (first | assumption | omega | (simp only [lenS, lenT, UInt64.reduceToNat]; try omega))) only [↓Sx.S0, Sx.S1, Tryz.fx, uWS_1, Nat.reduceAdd, Nat.reducePow, Int.reducePow, Nat.reduceBEq, ↓reduceIte, UInt8.reduceToNat, UInt16.reduceToNat, UInt32.reduceToNat, UInt64.reduceToNat, Int.reduceToNat]; rfl), ?_⟩
      refine ⟨Ext.of_new ⟨hw2, hN⟩, ?_⟩
      unfold ReadS
      rw [hbk]; rfl
  · intro key
    repeat ((try with_reducible refine Cw.go [999999] ?_); (simp (disch := (first | assumption | omega | (simp only [lenS, lenT, UInt64.reduceToNat]; try omega))) only [↓Sx.S0, Sx.S1, Tryz.fx, uWS_1, Nat.reduceAdd, Nat.reducePow, Int.reducePow, Nat.reduceBEq, ↓reduceIte, UInt8.reduceToNat, UInt16.reduceToNat, UInt32.reduceToNat, UInt64.reduceToNat, Int.reduceToNat]))
    refine Ow.callF rfl rfl Tryz.call42 (S := fun B v D => ∃ b', B ≤ b' ∧ v = vp b' 0 ∧ D = [(b', .cells #[vs s, vi 0, vi 0] 108 (0, 0))]) (fun w' hw' => RNew_spec s w') ?_
    rintro B v D hab hB ⟨br, hbr, rfl, rfl⟩
    obtain ⟨h2B, -⟩ := hab
    refine ⟨_, Mrg.fresh (by intro q hq; simp only [keys, List.map_cons, List.map_nil, List.mem_singleton] at hq; omega), ?_⟩
    simp only [List.cons_append, List.nil_append]
    refine Ow.go rfl ?_
    simp (disch := (first | assumption | omega | (simp only [lenS, lenT, UInt64.reduceToNat]; try omega))) only [↓Sx.S0, Sx.S1, Tryz.fx, uWS_1, Nat.reduceAdd, Nat.reducePow, Int.reducePow, Nat.reduceBEq, ↓reduceIte, UInt8.reduceToNat, UInt16.reduceToNat, UInt32.reduceToNat, UInt64.reduceToNat, Int.reduceToNat]
    repeat ((try with_reducible refine Cw.go [999999] ?_); (simp (disch := (first | assumption | omega | (simp only [lenS, lenT, UInt64.reduceToNat]; try omega))) only [↓Sx.S0, Sx.S1, Tryz.fx, uWS_1, Nat.reduceAdd, Nat.reducePow, Int.reducePow, Nat.reduceBEq, ↓reduceIte, UInt8.reduceToNat, UInt16.reduceToNat, UInt32.reduceToNat, UInt64.reduceToNat, Int.reduceToNat]))
    refine Ow.alloc rfl rfl zrBk fun b6 hb6 hw6 => ?_
    simp only [cells_agg, List.nil_append, List.cons_append]
    obtain ⟨h26, hr6, -⟩ := hb6
    refine Ow.go rfl ?_
    simp (disch := (first | assumption | omega | (simp only [lenS, lenT, UInt64.reduceToNat]; try omega))) only [↓Sx.S0, Sx.S1, Tryz.fx, uWS_1, Nat.reduceAdd, Nat.reducePow, Int.reducePow, Nat.reduceBEq, ↓reduceIte, UInt8.reduceToNat, UInt16.reduceToNat, UInt32.reduceToNat, UInt64.reduceToNat, Int.reduceToNat]
    refine Ow.alloc rfl rfl zrBk fun b7 hb7 hw7 => ?_
    simp only [cells_agg, List.nil_append, List.cons_append]
    obtain ⟨h27, hr7, h67, -⟩ := hb7
    refine Ow.go rfl ?_
    simp (disch := (first | assumption | omega | (simp only [lenS, lenT, UInt64.reduceToNat]; try omega))) only [↓Sx.S0, Sx.S1, Tryz.fx, uWS_1, Nat.reduceAdd, Nat.reducePow, Int.reducePow, Nat.reduceBEq, ↓reduceIte, UInt8.reduceToNat, UInt16.reduceToNat, UInt32.reduceToNat, UInt64.reduceToNat, Int.reduceToNat]
    repeat ((try with_reducible refine Cw.go [999999] ?_); (simp (disch := (first | assumption | omega | (simp only [lenS, lenT, UInt64.reduceToNat]; try omega))) only [↓Sx.S0, Sx.S1, Tryz.fx, uWS_1, Nat.reduceAdd, Nat.reducePow, Int.reducePow, Nat.reduceBEq, ↓reduceIte, UInt8.reduceToNat, UInt16.reduceToNat, UInt32.reduceToNat, UInt64.reduceToNat, Int.reduceToNat]))
    refine Ow.permL (M := [(br, .cells #[vs s, vi 0, vi 0] 108 (0, 0))] ++ [(b2, .cells #[.slice none 0 0, .slice none 0 0] 24 (0, 0)), (b6, .cells #[.slice none 0 0, .slice none 0 0] 24 (0, 0)), (b7, .cells #[.slice none 0 0, .slice none 0 0] 24 (0, 0))]) (by classical exact List.perm_iff_count.2 fun a => by simp only [List.count_append, List.count_cons, List.count_nil] <;> omega) ?_
    refine Ow.callX (Y := [(b2, .cells #[.slice none 0 0, .slice none 0 0] 24 (0, 0)), (b6, .cells #[.slice none 0 0, .slice none 0 0] 24 (0, 0)), (b7, .cells #[.slice none 0 0, .slice none 0 0] 24 (0, 0))]) (by simp) rfl rfl Tryz.call43 (fun w' hw' hX hn => unrecord_spec br s 0 0 [72] w' (GlobC.of hG hw' (New.not (L := [(br, .cells #[vs s, vi 0, vi 0] 108 (0, 0))] ++ [(b2, .cells #[.slice none 0 0, .slice none 0 0] 24 (0, 0)), (b6, .cells #[.slice none 0 0, .slice none 0 0] 24 (0, 0)), (b7, .cells #[.slice none 0 0, .slice none 0 0] 24 (0, 0))]) (by exact ⟨(by omega), hw2, hw6, hw7, trivial⟩) hglt)) (by omega) (Nat.zero_le _) (by omega) (hX _ List.mem_cons_self)) (fun v1 D1 hC1 hS1 => ?_)
    rcases hS1 with ⟨hno, rfl, rfl⟩ | ⟨b', c, hc, rfl, hb', hne, rfl⟩
    · refine Ow.go rfl ?_
      simp (disch := (first | assumption | omega | (simp only [lenS, lenT, UInt64.reduceToNat]; try omega))) only [↓Sx.S0, Sx.S1, Tryz.fx, uWS_1, Nat.reduceAdd, Nat.reducePow, Int.reducePow, Nat.reduceBEq, ↓reduceIte, UInt8.reduceToNat, UInt16.reduceToNat, UInt32.reduceToNat, UInt64.reduceToNat, Int.reduceToNat]
      repeat ((try with_reducible refine Cw.go [999999] ?_); (simp (disch := (first | assumption | omega | (simp only [lenS, lenT, UInt64.reduceToNat]; try omega))) only [↓Sx.S0, Sx.S1, Tryz.fx, uWS_1, Nat.reduceAdd, Nat.reducePow, Int.reducePow, Nat.reduceBEq, ↓reduceIte, UInt8.reduceToNat, UInt16.reduceToNat, UInt32.reduceToNat, UInt64.reduceToNat, Int.reduceToNat]))
      refine Ow.callFV rfl Tryz.call44 (fun w' hw' => RNumber_nil 16 w') ?_
      refine Ow.go rfl ?_
      simp (disch := (first | assumption | omega | (simp only [lenS, lenT, UInt64.reduceToNat]; try omega))) only [↓Sx.S0, Sx.S1, Tryz.fx, uWS_1, Nat.reduceAdd, Nat.reducePow, Int.reducePow, Nat.reduceBEq, ↓reduceIte, UInt8.reduceToNat, UInt16.reduceToNat, UInt32.reduceToNat, UInt64.reduceToNat, Int.reduceToNat]
      repeat ((try with_reducible refine Cw.go [999999] ?_); (simp (disch := (first | assumption | omega | (simp only [lenS, lenT, UInt64.reduceToNat]; try omega))) only [↓Sx.S0, Sx.S1, Tryz.fx, uWS_1, Nat.reduceAdd, Nat.reducePow, Int.reducePow, Nat.reduceBEq, ↓reduceIte, UInt8.reduceToNat, UInt16.reduceToNat, UInt32.reduceToNat, UInt64.reduceToNat, Int.reduceToNat]))
      refine Cw.loopG (G := Unit) [17, 18, 19, 20, 21, 22, 23, 24, 25, 16] (fun g => [(16, vi 0)]) (fun g => [(br, .cells #[vs s, vi (recR s 0 0 [72]).2.1, vi (recR s 0 0 [72]).2.2] 108 (0, 0)), (b2, .cells #[.slice none 0 0, .slice none 0 0] 24 (0, 0)), (b6, .cells #[.slice none 0 0, .slice none 0 0] 24 (0, 0)), (b7, .cells #[.slice none 0 0, .slice none 0 0] 24 (0, 0))]) (fun g => True) (fun g => 0) () rfl rfl ?_ ?_
      · trivial
      intro g j hg
      simp only [overFrom, pin, setF_0, setF_s, List.contains_cons, List.contains_nil, Nat.reduceBEq, Bool.or_false, Bool.false_or, Bool.or_true, Bool.true_or, Nat.reduceAdd, ↓reduceIte, Bool.false_eq_true]
      repeat ((try with_reducible refine Cw.go [999999] ?_); (simp (disch := (first | assumption | omega | (simp only [lenS, lenT, UInt64.reduceToNat]; try omega))) only [↓Sx.S0, Sx.S1, Tryz.fx, uWS_1, Nat.reduceAdd, Nat.reducePow, Int.reducePow, Nat.reduceBEq, ↓reduceIte, UInt8.reduceToNat, UInt16.reduceToNat, UInt32.reduceToNat, UInt64.reduceToNat, Int.reduceToNat]))
      have h30 : ((3 : Int) != 0) = true := rfl
      refine Ow.callFV rfl Tryz.call46 (fun w' hw' => REnd_nil w') ?_
      refine Ow.permL (M := (b2, .cells #[.slice none 0 0, .slice none 0 0] 24 (0, 0)) :: [(br, .cells #[vs s, vi (recR s 0 0 [72]).2.1, vi (recR s 0 0 [72]).2.2] 108 (0, 0)), (b6, .cells #[.slice none 0 0, .slice none 0 0] 24 (0, 0)), (b7, .cells #[.slice none 0 0, .slice none 0 0] 24 (0, 0))]) (by classical exact List.perm_iff_count.2 fun a => by simp only [List.count_append, List.count_cons, List.count_nil] <;> omega) ?_
      refine Ow.go rfl ?_
      simp (disch := (first | assumption | omega | (simp only [lenS, lenT, UInt64.reduceToNat]; try omega))) only [↓Sx.S0, Sx.S1, Tryz.fx, uWS_1, Nat.reduceAdd, Nat.reducePow, Int.reducePow, Nat.reduceBEq, ↓reduceIte, UInt8.reduceToNat, UInt16.reduceToNat, UInt32.reduceToNat, UInt64.reduceToNat, Int.reduceToNat, h30]
      repeat ((try with_reducible refine Cw.go [999999] ?_); (simp (disch := (first | assumption | omega | (simp only [lenS, lenT, UInt64.reduceToNat]; try omega))) only [↓Sx.S0, Sx.S1, Tryz.fx, uWS_1, Nat.reduceAdd, Nat.reducePow, Int.reducePow, Nat.reduceBEq, ↓reduceIte, UInt8.reduceToNat, UInt16.reduceToNat, UInt32.reduceToNat, UInt64.reduceToNat, Int.reduceToNat]))
      exact Jump.mk ⟨0, br, b6, b7, nlV, nlV, nlV, nlV, [], [], 0, [(br, .cells #[vs s, vi (recR s 0 0 [72]).2.1, vi (recR s 0 0 [72]).2.2] 108 (0, 0)), (b6, .cells #[.slice none 0 0, .slice none 0 0] 24 (0, 0)), (b7, .cells #[.slice none 0 0, .slice none 0 0] 24 (0, 0))]⟩ rfl trivial (.inr (.inr ⟨rfl, ⟨(by omega), hw6, hw7, trivial⟩, head_none hno⟩)) rfl rfl
    · have hbA : b2 < b' ∧ br < b' ∧ b6 < b' ∧ b7 < b' := by
        rcases hC1.new b' (by simp [keys]) with h | ⟨h, -⟩
        · simp [keys] at h; omega
        · obtain ⟨q1, q2, q3, q4, -⟩ := h
          exact ⟨q2, q1, q3, q4⟩
      obtain ⟨h2b, hrb, h6b, h7b⟩ := hbA
      have hcl := recR_len (by omega) hc
      have hce := recR_err hc
      have hhd := head_some hc
      rw [hce]
      have hle0 := rec_le (s := s) (a := 0) (p := [72]) (e := 0) (Nat.zero_le _)
      generalize hto : (recR s 0 0 [72]).2.1 = to at *
      simp only [List.cons_append, List.nil_append]
      refine Ow.go rfl ?_
      simp (disch := (first | assumption | omega | (simp only [lenS, lenT, UInt64.reduceToNat]; try omega))) only [↓Sx.S0, Sx.S1, Tryz.fx, uWS_1, Nat.reduceAdd, Nat.reducePow, Int.reducePow, Nat.reduceBEq, ↓reduceIte, UInt8.reduceToNat, UInt16.reduceToNat, UInt32.reduceToNat, UInt64.reduceToNat, Int.reduceToNat]
      repeat ((try with_reducible refine Cw.go [999999] ?_); (simp (disch := (first | assumption | omega | (simp only [lenS, lenT, UInt64.reduceToNat]; try omega))) only [↓Sx.S0, Sx.S1, Tryz.fx, uWS_1, Nat.reduceAdd, Nat.reducePow, Int.reducePow, Nat.reduceBEq, ↓reduceIte, UInt8.reduceToNat, UInt16.reduceToNat, UInt32.reduceToNat, UInt64.reduceToNat, Int.reduceToNat]))
      refine Ow.callM rfl rfl Tryz.call44 (by simp [keys]) (fun w' hw' => RNumber_spec b' c 0 0 16 w' (Nat.zero_le _) (by omega) (hw'.has _ _ (List.mem_cons_of_mem _ List.mem_cons_self))) ?_
      have hnm := numR_most (s := c) (a := 0) (e := 0) (most := 16) (by omega)
      have hnle := numR_le (s := c) (a := 0) (e := 0) (most := 16) (Nat.zero_le _)
      generalize numR c 0 0 16 = nn at *
      obtain ⟨n1, na, ne⟩ := nn
      simp only at hnm hnle hhd ⊢
      obtain ⟨k, rfl⟩ := Int.eq_ofNat_of_zero_le hnm.1
      have hk16 : k ≤ 16 := by omega
      simp (disch := (first | assumption | omega | (simp only [lenS, lenT, UInt64.reduceToNat]; try omega))) only [setB_same, setB_other, List.cons_append, List.nil_append]
      refine Ow.go rfl ?_
      simp (disch := (first | assumption | omega | (simp only [lenS, lenT, UInt64.reduceToNat]; try omega))) only [↓Sx.S0, Sx.S1, Tryz.fx, uWS_1, Nat.reduceAdd, Nat.reducePow, Int.reducePow, Nat.reduceBEq, ↓reduceIte, UInt8.reduceToNat, UInt16.reduceToNat, UInt32.reduceToNat, UInt64.reduceToNat, Int.reduceToNat]
      repeat ((try with_reducible refine Cw.go [999999] ?_); (simp (disch := (first | assumption | omega | (simp only [lenS, lenT, UInt64.reduceToNat]; try omega))) only [↓Sx.S0, Sx.S1, Tryz.fx, uWS_1, Nat.reduceAdd, Nat.reducePow, Int.reducePow, Nat.reduceBEq, ↓reduceIte, UInt8.reduceToNat, UInt16.reduceToNat, UInt32.reduceToNat, UInt64.reduceToNat, Int.reduceToNat]))
      refine Cw.permL (M := (b', .cells #[vs c, vi na, vi ne] 108 (0, 0)) :: (b6, .cells #[.slice none 0 0, .slice none 0 0] 24 (0, 0)) :: (br, .cells #[vs s, vi to, vi 0] 108 (0, 0)) :: (b2, .cells #[.slice none 0 0, .slice none 0 0] 24 (0, 0)) :: (b7, .cells #[.slice none 0 0, .slice none 0 0] 24 (0, 0)) :: []) (by classical exact List.perm_iff_count.2 fun a => by simp only [List.count_append, List.count_cons, List.count_nil] <;> omega) ?_
      refine Cw.loopG (G := HG) [17, 18, 19, 20, 21, 22, 23, 24, 25, 16] (fun g => [(16, vi g.g)]) (fun g => (b', .cells #[vs c, vi (refsR c na ne g.g).2.1, vi (refsR c na ne g.g).2.2] 108 (0, 0)) :: (b6, .cells #[g.vt, .slice none 0 0] 24 (0, 0)) :: (br, .cells #[vs s, vi to, vi 0] 108 (0, 0)) :: (b2, .cells #[.slice none 0 0, .slice none 0 0] 24 (0, 0)) :: (b7, .cells #[.slice none 0 0, .slice none 0 0] 24 (0, 0)) :: g.D) (fun g => g.g ≤ k ∧ New (b' + 1) g.D ∧ Gr g.D 48 33 g.vt g.g ((refsR c na ne g.g).1.map refC).flatten) (fun g => k - g.g) ⟨0, .slice none 0 0, []⟩ rfl rfl ?_ ?_
      · exact ⟨Nat.zero_le _, trivial, Gr.nl⟩
      intro g j hg
      simp only [overFrom, pin, setF_0, setF_s, List.contains_cons, List.contains_nil, Nat.reduceBEq, Bool.or_false, Bool.false_or, Bool.or_true, Bool.true_or, Nat.reduceAdd, ↓reduceIte, Bool.false_eq_true]
      obtain ⟨g, vt, D⟩ := g
      simp only at hg ⊢
      obtain ⟨hgk, hND, hGr⟩ := hg
      have hrle := refsR_le (e := ne) hnle.2 g
      by_cases hlt : g < k
      · repeat ((try with_reducible refine Cw.go [999999] ?_); (simp (disch := (first | assumption | omega | (simp only [lenS, lenT, UInt64.reduceToNat]; try omega))) only [↓Sx.S0, Sx.S1, Tryz.fx, uWS_1, Nat.reduceAdd, Nat.reducePow, Int.reducePow, Nat.reduceBEq, ↓reduceIte, UInt8.reduceToNat, UInt16.reduceToNat, UInt32.reduceToNat, UInt64.reduceToNat, Int.reduceToNat]))
        refine Cw.regionS [b6] [0, 2, 1, 3, 4, 5, 6, 7] [7] (by kernel_rfl) (by kernel_rfl) (by kernel_rfl) ?_
        simp only [nl_cons, ↓pickL_nil, ↓pickL_cons, ↓nthO_0, ↓nthO_s, consO_some]
        refine Ow.goQ ?_
        simp (disch := (first | assumption | omega | (simp only [lenS, lenT, UInt64.reduceToNat]; try omega))) only [↓Sx.S0, Sx.S1, Tryz.fx, uWS_1, Nat.reduceAdd, Nat.reducePow, Int.reducePow, Nat.reduceBEq, ↓reduceIte, UInt8.reduceToNat, UInt16.reduceToNat, UInt32.reduceToNat, UInt64.reduceToNat, Int.reduceToNat]
        refine Ow.soft rfl rfl rfl ?_
        refine Ow.callM rfl rfl Tryz.call45 (by simp [keys]) (fun w' hw' => one_spec b' c (refsR c na ne g).2.1 (refsR c na ne g).2.2 w' hrle.2 (by omega) (hw'.has _ _ List.mem_cons_self)) ?_
        with_reducible refine Ow.nil ?_
        refine ⟨fun b hb => read_setB_ne (by simp only [List.mem_cons, List.not_mem_nil, or_false] at hb; omega), ?_⟩
        rw [oneR_eq]
        have hfn := refR_name (s := c) (a := (refsR c na ne g).2.1) (e := (refsR c na ne g).2.2) hcl
        have hrs : refsR c na ne (g + 1) = ((refsR c na ne g).1 ++ [(refR c (refsR c na ne g).2.1 (refsR c na ne g).2.2).1], (refR c (refsR c na ne g).2.1 (refsR c na ne g).2.2).2) := rfl
        generalize refR c (refsR c na ne g).2.1 (refsR c na ne g).2.2 = rr at *
        obtain ⟨r, ra, re⟩ := rr
        simp only at hfn hrs ⊢
        simp (disch := (first | assumption | omega | (simp only [lenS, lenT, UInt64.reduceToNat]; try omega))) only [setB_same, setB_other, List.cons_append, List.nil_append]
        refine Ow.soft rfl rfl rfl ?_
        refine Ow.buildSlice (e := 48) (refC r).toArray rfl rfl (sliceRef r) fun b8 hb8 hw8 => ?_
        have hb8' : b' < b8 := above_to hb8 (by simp [keys])
        with_reducible refine Ow.nil ?_
        refine ⟨readB_appR (by simp [keys]), ?_⟩
        try simp only [List.cons_append, List.nil_append]
        refine Ow.soft rfl rfl rfl ?_
        refine Ow.permL (M := D ++ ((b', .cells #[vs c, vi ra, vi re] 108 (0, 0)) :: (b6, .cells #[vt, .slice none 0 0] 24 (0, 0)) :: (br, .cells #[vs s, vi to, vi 0] 108 (0, 0)) :: (b2, .cells #[.slice none 0 0, .slice none 0 0] 24 (0, 0)) :: (b7, .cells #[.slice none 0 0, .slice none 0 0] 24 (0, 0)) :: [(b8, .cells (refC r).toArray 48 (0, 0))])) (by classical exact List.perm_iff_count.2 fun a => by simp only [List.count_append, List.count_cons, List.count_nil] <;> omega) ?_
        refine Ow.appendX (e := 48) (k := 1) (new := refC r) (X := D) vt rfl rfl rfl rfl Tryz.underlying22 Tryz.ag48 (by kernel_rfl) zrRef (by rw [cells_ref, List.size_toArray, refC_len]) Tryz.underlying22 (by intro k h; cases h) hGr (fun w' hw' => AppX.one1 (hw'.has b8 (.cells (refC r).toArray 48 (0, 0)) (by simp)) (refC_len r) (refC_one r)) (by omega) (by omega) (fun B v4 D4 hA4 hB4 hbuf hk1 hk2 hlk => ?_)
        have hB8 : b' < B := above_to hA4 (by simp [keys_app, keys])
        have hN4 : New (b' + 1) D4 := New.of_le fun q hq => by
          rcases hk2 q hq with h | h
          · exact hND.le q h
          · omega
        have h64 : b6 ∉ keys D4 := hN4.not (by omega)
        with_reducible refine Ow.nil ?_
        refine ⟨fun q hq => ?_, ?_⟩
        · rw [List.mem_singleton] at hq
          subst hq
          rw [readB_appr h64]
          simp (disch := omega) only [List.cons_append, List.nil_append, read_same, read_other]
        try simp only [List.cons_append, List.nil_append]
        have hst6 : storeAtV (aggT Tryz.prog 22) (D4 ++ ((b', .cells #[vs c, vi ra, vi re] 108 (0, 0)) :: (b6, .cells #[vt, .slice none 0 0] 24 (0, 0)) :: (br, .cells #[vs s, vi to, vi 0] 108 (0, 0)) :: (b2, .cells #[.slice none 0 0, .slice none 0 0] 24 (0, 0)) :: (b7, .cells #[.slice none 0 0, .slice none 0 0] 24 (0, 0)) :: [(b8, .cells (refC r).toArray 48 (0, 0))])) (vp b6 0) v4 = some (D4 ++ ((b', .cells #[vs c, vi ra, vi re] 108 (0, 0)) :: (b6, .cells #[v4, .slice none 0 0] 24 (0, 0)) :: (br, .cells #[vs s, vi to, vi 0] 108 (0, 0)) :: (b2, .cells #[.slice none 0 0, .slice none 0 0] 24 (0, 0)) :: (b7, .cells #[.slice none 0 0, .slice none 0 0] 24 (0, 0)) :: [(b8, .cells (refC r).toArray 48 (0, 0))])) := by
          rw [Tryz.ag22, storeAt_p, look_app_r h64]
          simp (disch := omega) only [look_same, look_other]
          rw [store_b0 _ _ _ _ hbuf.cell, upd_some, setB_appr h64]
          simp (disch := omega) only [setB_same, setB_other]
        refine Ow.goQ ?_
        simp (disch := (first | assumption | omega | (simp only [lenS, lenT, UInt64.reduceToNat]; try omega))) only [↓Sx.S0, Sx.S1, Tryz.fx, uWS_1, Nat.reduceAdd, Nat.reducePow, Int.reducePow, Nat.reduceBEq, ↓reduceIte, UInt8.reduceToNat, UInt16.reduceToNat, UInt32.reduceToNat, UInt64.reduceToNat, Int.reduceToNat]
        refine Ow.store rfl rfl rfl hst6 ?_
        try with_reducible refine Ow.nil ?_
        refine Cw.permL (M := (b', .cells #[vs c, vi ra, vi re] 108 (0, 0)) :: (b6, .cells #[v4, .slice none 0 0] 24 (0, 0)) :: (br, .cells #[vs s, vi to, vi 0] 108 (0, 0)) :: (b2, .cells #[.slice none 0 0, .slice none 0 0] 24 (0, 0)) :: (b7, .cells #[.slice none 0 0, .slice none 0 0] 24 (0, 0)) :: (D4 ++ [(b8, .cells (refC r).toArray 48 (0, 0))])) (by classical exact List.perm_iff_count.2 fun a => by simp only [List.count_append, List.count_cons, List.count_nil] <;> omega) ?_
        repeat ((try with_reducible refine Cw.go [999999] ?_); (simp (disch := (first | assumption | omega | (simp only [lenS, lenT, UInt64.reduceToNat]; try omega))) only [↓Sx.S0, Sx.S1, Tryz.fx, uWS_1, Nat.reduceAdd, Nat.reducePow, Int.reducePow, Nat.reduceBEq, ↓reduceIte, UInt8.reduceToNat, UInt16.reduceToNat, UInt32.reduceToNat, UInt64.reduceToNat, Int.reduceToNat]))
        refine Again.mk (HG.mk (g + 1) v4 (D4 ++ [(b8, .cells (refC r).toArray 48 (0, 0))])) (by show k - (g + 1) < k - g; omega) ⟨by show g + 1 ≤ k; omega, hN4.app ⟨by omega, trivial⟩, ?_⟩ ?_ rfl
        · show Gr (D4 ++ [(b8, .cells (refC r).toArray 48 (0, 0))]) 48 33 v4 (g + 1) ((refsR c na ne (g + 1)).1.map refC).flatten
          rw [hrs]
          have e : (((refsR c na ne g).1 ++ [r]).map refC).flatten = ((refsR c na ne g).1.map refC).flatten ++ refC r := by simp
          rw [e]
          exact Gr.app (.inl hbuf)
        · simp only [hrs]
      · obtain rfl : g = k := by omega
        have hshT := refsR_short (a := na) (e := ne) hcl g
        have hlenT := refsR_length c na ne g
        rw [Int.toNat_natCast] at hhd
        generalize refsR c na ne g = tt at *
        obtain ⟨tb, ra, re⟩ := tt
        simp only at hhd hshT hlenT hGr hrle ⊢
        have hNw : New w.heap.size ((br, .cells #[vs s, vi to, vi 0] 108 (0, 0)) :: (b', .cells #[vs c, vi ra, vi re] 108 (0, 0)) :: (b6, .cells #[vt, .slice none 0 0] 24 (0, 0)) :: (b7, .cells #[.slice none 0 0, .slice none 0 0] 24 (0, 0)) :: D) := ⟨by omega, by omega, by omega, by omega, hND.mono (by omega)⟩
        rw [← hlenT] at hGr
        repeat ((try with_reducible refine Cw.go [999999] ?_); (simp (disch := (first | assumption | omega | (simp only [lenS, lenT, UInt64.reduceToNat]; try omega))) only [↓Sx.S0, Sx.S1, Tryz.fx, uWS_1, Nat.reduceAdd, Nat.reducePow, Int.reducePow, Nat.reduceBEq, ↓reduceIte, UInt8.reduceToNat, UInt16.reduceToNat, UInt32.reduceToNat, UInt64.reduceToNat, Int.reduceToNat]))
        refine Ow.callFV rfl Tryz.call46 (fun w' hw' => REndR_spec b' c ra re w' (hw'.has _ _ List.mem_cons_self)) ?_
        by_cases he : endR c ra re = 0
        · have hb : (endR c ra re != 0) = false := by simp [he]
          refine Ow.go rfl ?_
          simp (disch := (first | assumption | omega | (simp only [lenS, lenT, UInt64.reduceToNat]; try omega))) only [↓Sx.S0, Sx.S1, Tryz.fx, uWS_1, Nat.reduceAdd, Nat.reducePow, Int.reducePow, Nat.reduceBEq, ↓reduceIte, UInt8.reduceToNat, UInt16.reduceToNat, UInt32.reduceToNat, UInt64.reduceToNat, Int.reduceToNat, hb]
          repeat ((try with_reducible refine Cw.go [999999] ?_); (simp (disch := (first | assumption | omega | (simp only [lenS, lenT, UInt64.reduceToNat]; try omega))) only [↓Sx.S0, Sx.S1, Tryz.fx, uWS_1, Nat.reduceAdd, Nat.reducePow, Int.reducePow, Nat.reduceBEq, ↓reduceIte, UInt8.reduceToNat, UInt16.reduceToNat, UInt32.reduceToNat, UInt64.reduceToNat, Int.reduceToNat, load_bk]))
          refine Ow.callFV rfl Tryz.call8 (fun w' hw' => Right_spec vt (.slice none 0 0) tb [] w' (hGr.slM (fun b o hm => hw'.has b o (by simp [hm])) rfl rfl refC_len) (SlV.nil w') (by omega) (by simp) hshT (fun g hg => by simp at hg)) ?_
          cases hr : rightB tb []
          · refine Ow.permL (M := (b2, .cells #[.slice none 0 0, .slice none 0 0] 24 (0, 0)) :: ((br, .cells #[vs s, vi to, vi 0] 108 (0, 0)) :: (b', .cells #[vs c, vi ra, vi re] 108 (0, 0)) :: (b6, .cells #[vt, .slice none 0 0] 24 (0, 0)) :: (b7, .cells #[.slice none 0 0, .slice none 0 0] 24 (0, 0)) :: D)) (by classical exact List.perm_iff_count.2 fun a => by simp only [List.count_append, List.count_cons, List.count_nil] <;> omega) ?_
            refine Ow.go rfl ?_
            simp (disch := (first | assumption | omega | (simp only [lenS, lenT, UInt64.reduceToNat]; try omega))) only [↓Sx.S0, Sx.S1, Tryz.fx, uWS_1, Nat.reduceAdd, Nat.reducePow, Int.reducePow, Nat.reduceBEq, ↓reduceIte, UInt8.reduceToNat, UInt16.reduceToNat, UInt32.reduceToNat, UInt64.reduceToNat, Int.reduceToNat]
            repeat ((try with_reducible refine Cw.go [999999] ?_); (simp (disch := (first | assumption | omega | (simp only [lenS, lenT, UInt64.reduceToNat]; try omega))) only [↓Sx.S0, Sx.S1, Tryz.fx, uWS_1, Nat.reduceAdd, Nat.reducePow, Int.reducePow, Nat.reduceBEq, ↓reduceIte, UInt8.reduceToNat, UInt16.reduceToNat, UInt32.reduceToNat, UInt64.reduceToNat, Int.reduceToNat]))
            exact Jump.mk ⟨0, br, b6, b7, nlV, nlV, nlV, nlV, [], [], 0, ((br, .cells #[vs s, vi to, vi 0] 108 (0, 0)) :: (b', .cells #[vs c, vi ra, vi re] 108 (0, 0)) :: (b6, .cells #[vt, .slice none 0 0] 24 (0, 0)) :: (b7, .cells #[.slice none 0 0, .slice none 0 0] 24 (0, 0)) :: D)⟩ rfl trivial (.inr (.inr ⟨rfl, hNw, head_no (by rw [hhd, if_neg (by simp [hr])])⟩)) rfl rfl
          · rw [if_pos ⟨he, hr⟩] at hhd
            refine Ow.permL (M := (b2, .cells #[.slice none 0 0, .slice none 0 0] 24 (0, 0)) :: (br, .cells #[vs s, vi to, vi 0] 108 (0, 0)) :: (b6, .cells #[vt, .slice none 0 0] 24 (0, 0)) :: (b7, .cells #[.slice none 0 0, .slice none 0 0] 24 (0, 0)) :: ((b', .cells #[vs c, vi ra, vi re] 108 (0, 0)) :: D)) (by classical exact List.perm_iff_count.2 fun a => by simp only [List.count_append, List.count_cons, List.count_nil] <;> omega) ?_
            refine Ow.go rfl ?_
            simp (disch := (first | assumption | omega | (simp only [lenS, lenT, UInt64.reduceToNat]; try omega))) only [↓Sx.S0, Sx.S1, Tryz.fx, uWS_1, Nat.reduceAdd, Nat.reducePow, Int.reducePow, Nat.reduceBEq, ↓reduceIte, UInt8.reduceToNat, UInt16.reduceToNat, UInt32.reduceToNat, UInt64.reduceToNat, Int.reduceToNat]
            have key0 := fun f' => key (⟨1, br, b6, b7, vt, .slice none 0 0, .slice none 0 0, .slice none 0 0, tb, [], to, ((b', .cells #[vs c, vi ra, vi re] 108 (0, 0)) :: D)⟩) f'
            simp only [contP, hasL, Bool.or_false, Bool.false_or, Bool.or_true, Bool.true_or, Nat.reduceBEq, beq_self_eq_true, ↓reduceIte, Bool.false_eq_true] at key0
            clear key
            repeat ((try with_reducible refine Cw.go [999999] ?_); (simp (disch := (first | assumption | omega | (simp only [lenS, lenT, UInt64.reduceToNat]; try omega))) only [↓Sx.S0, Sx.S1, Tryz.fx, uWS_1, Nat.reduceAdd, Nat.reducePow, Int.reducePow, Nat.reduceBEq, ↓reduceIte, UInt8.reduceToNat, UInt16.reduceToNat, UInt32.reduceToNat, UInt64.reduceToNat, Int.reduceToNat]))
            refine Cw.label ?_
            refine key0 _ (.inl ⟨rfl, (by simp only; omega), hw6, hw7, (by simp only; omega), (by simp only; omega), (by simp only; omega), (by simp only; omega), (by simp only; omega), (by simp only; omega), ⟨by omega, hND.mono (by omega)⟩, hGr.i fun p hp => by simp [hp], Gr.nl.i (X := []) fun p hp => (by cases hp), rfl, rfl, hshT, fun g hg => (by simp at hg), by simp only; omega, by simp, hle0.2, to, hhd, ?_⟩) ?_
            · intro k hk
              exact logsR_more s tb k 101 [] to (by simpa using hk) (by simp) (by simp)
            · rfl
        · have hb : (endR c ra re != 0) = true := by simpa using he
          refine Ow.permL (M := (b2, .cells #[.slice none 0 0, .slice none 0 0] 24 (0, 0)) :: ((br, .cells #[vs s, vi to, vi 0] 108 (0, 0)) :: (b', .cells #[vs c, vi ra, vi re] 108 (0, 0)) :: (b6, .cells #[vt, .slice none 0 0] 24 (0, 0)) :: (b7, .cells #[.slice none 0 0, .slice none 0 0] 24 (0, 0)) :: D)) (by classical exact List.perm_iff_count.2 fun a => by simp only [List.count_append, List.count_cons, List.count_nil] <;> omega) ?_
          refine Ow.go rfl ?_
          simp (disch := (first | assumption | omega | (simp only [lenS, lenT, UInt64.reduceToNat]; try omega))) only [↓Sx.S0, Sx.S1, Tryz.fx, uWS_1, Nat.reduceAdd, Nat.reducePow, Int.reducePow, Nat.reduceBEq, ↓reduceIte, UInt8.reduceToNat, UInt16.reduceToNat, UInt32.reduceToNat, UInt64.reduceToNat, Int.reduceToNat, hb]
          repeat ((try with_reducible refine Cw.go [999999] ?_); (simp (disch := (first | assumption | omega | (simp only [lenS, lenT, UInt64.reduceToNat]; try omega))) only [↓Sx.S0, Sx.S1, Tryz.fx, uWS_1, Nat.reduceAdd, Nat.reducePow, Int.reducePow, Nat.reduceBEq, ↓reduceIte, UInt8.reduceToNat, UInt16.reduceToNat, UInt32.reduceToNat, UInt64.reduceToNat, Int.reduceToNat]))
          exact Jump.mk ⟨0, br, b6, b7, nlV, nlV, nlV, nlV, [], [], 0, ((br, .cells #[vs s, vi to, vi 0] 108 (0, 0)) :: (b', .cells #[vs c, vi ra, vi re] 108 (0, 0)) :: (b6, .cells #[vt, .slice none 0 0] 24 (0, 0)) :: (b7, .cells #[.slice none 0 0, .slice none 0 0] 24 (0, 0)) :: D)⟩ rfl trivial (.inr (.inr ⟨rfl, hNw, head_no (by rw [hhd, if_neg (fun h => he h.1)])⟩)) rfl rfl
end Go.Proofs
end
