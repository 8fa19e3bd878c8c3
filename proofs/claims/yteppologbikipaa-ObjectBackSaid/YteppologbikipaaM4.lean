/-
  Part 4 of the walk: contracts of the functions that the law reaches, and the calculus they stand on.
  No conditions.
-/
import Derived.Test.YteppologbikipaaM3
import Derived.Lib.Strings
import Derived.Lib.Bytealg
import Derived.ProofKit
import Derived.OpenShut
import Derived.WideKeyArgs
import Derived.ChangeSame
import Derived.ChangeMaps5
import Derived.Lib.LaidTab
import Derived.SliceStrings
import Derived.DataReads
import Derived.Deep.Strs
section
open Go Go.Proofs Go.Sx Go.StP
namespace Go.Proofs
set_option maxRecDepth 10000
set_option maxHeartbeats 400000
set_option linter.unusedSimpArgs false
set_option linter.defProp false
def uPA_1 := And.intro (And.intro (And.intro (@load_ob) (@load_ob0)) (And.intro (@load_ob1) (@store_ob))) (And.intro (And.intro (@Sx.tup2_0) (@Sx.tup2_1)) (And.intro (@rdIn_v8) (@rdIn_vi)))
theorem RightO_spec (k : Int) (t : List UInt8) (w : World) : Rets Try.prog 48 #[obV k t] w (fun v D => v = .bool (RdOk k t) ∧ D = []) := by
  refine Rets.enterV Try.func48 rfl (rs := [.tmp 2]) Try.results48 Try.ntmps48 ?_
  simp only [List.size_toArray, List.length_cons, List.length_nil, Nat.reduceAdd, Nat.reduceSub, List.replicate_succ, List.replicate_zero, List.cons_append, List.nil_append]
  ((try with_reducible refine Cw.go [] ?_); (try simp (disch := (first | assumption | omega | (simp only [lenS, lenT, UInt64.reduceToNat]; try omega))) only [↓S0, S1, Try.fx, uPA_1, Nat.reduceAdd, Nat.reducePow, Int.reducePow, Nat.reduceBEq, ↓reduceIte, UInt8.reduceToNat, UInt16.reduceToNat, UInt32.reduceToNat, UInt64.reduceToNat, Int.reduceToNat]))
  refine Ow.box rfl rfl fun b1 hb1 hw1 => ?_
  simp only [ev_tmp, getF_0, getF_s, cells_agg, List.nil_append]
  refine Ow.go rfl ?_
  simp (disch := (first | assumption | omega | (simp only [lenS, lenT, UInt64.reduceToNat]; try omega))) only [↓S0, S1, Try.fx, uPA_1, Nat.reduceAdd, Nat.reducePow, Int.reducePow, Nat.reduceBEq, ↓reduceIte, UInt8.reduceToNat, UInt16.reduceToNat, UInt32.reduceToNat, UInt64.reduceToNat, Int.reduceToNat]
  refine Ow.callC rfl rfl Try.call42 (fun w' hw' => readO_spec k t w') (fun B v D hA hB hN hS => ?_)
  obtain ⟨p, rfl, -⟩ := hS
  refine Ow.go rfl ?_
  simp (disch := (first | assumption | omega | (simp only [lenS, lenT, UInt64.reduceToNat]; try omega))) only [↓S0, S1, Try.fx, uPA_1, Nat.reduceAdd, Nat.reducePow, Int.reducePow, Nat.reduceBEq, ↓reduceIte, UInt8.reduceToNat, UInt16.reduceToNat, UInt32.reduceToNat, UInt64.reduceToNat, Int.reduceToNat]
  ((try with_reducible refine Cw.go [] ?_); (try simp (disch := (first | assumption | omega | (simp only [lenS, lenT, UInt64.reduceToNat]; try omega))) only [↓S0, S1, Try.fx, uPA_1, Nat.reduceAdd, Nat.reducePow, Int.reducePow, Nat.reduceBEq, ↓reduceIte, UInt8.reduceToNat, UInt16.reduceToNat, UInt32.reduceToNat, UInt64.reduceToNat, Int.reduceToNat]))
  refine ⟨_, (by simp (disch := (first | assumption | omega | (simp only [lenS, lenT, UInt64.reduceToNat]; try omega))) only [↓S0, S1, Try.fx, uPA_1, Nat.reduceAdd, Nat.reducePow, Int.reducePow, Nat.reduceBEq, ↓reduceIte, UInt8.reduceToNat, UInt16.reduceToNat, UInt32.reduceToNat, UInt64.reduceToNat, Int.reduceToNat]; rfl), ⟨hw1, New.mono hB hN⟩, ?_⟩
  rfl
/-- What is made of an object that should be. -/
def madeK (k : Int) (t : List UInt8) (ok : Bool) : Int := if ok && RdOk k t then k else 0
def madeT (k : Int) (t : List UInt8) (ok : Bool) : List UInt8 := if ok && RdOk k t then t else []
def madeE (k : Int) (t : List UInt8) (ok : Bool) : Int := if ok && RdOk k t then 0 else 1
theorem zrOb : zeroV Try.prog 31 = some (obV 0 []) := id (by kernel_rfl)
theorem build_ob0 : buildV (plcT Try.prog 31) (zeroV Try.prog 31) [] = some (obV 0 []) := by
  have hp : plcT Try.prog 31 = some [(0, 1), (1, 1)] := id (by kernel_rfl)
  rw [hp, zrOb]; rfl
theorem build_ob2 (k : Int) (t : List UInt8) : buildV (plcT Try.prog 31) (zeroV Try.prog 31) [(0, vi k), (1, vs t)] = some (obV k t) := by
  have hp : plcT Try.prog 31 = some [(0, 1), (1, 1)] := id (by kernel_rfl)
  rw [hp, zrOb]; rfl
theorem made_spec (k : Int) (t : List UInt8) (ok : Bool) (w : World) : Rets Try.prog 27 #[obV k t, .bool ok] w (fun v D => v = .tuple #[obV (madeK k t ok) (madeT k t ok), vi (madeE k t ok)] ∧ D = []) := by
  refine Rets.enterV Try.func27 rfl (rs := [.cell 4 31, .tmp 5]) Try.results27 Try.ntmps27 ?_
  simp only [List.size_toArray, List.length_cons, List.length_nil, Nat.reduceAdd, Nat.reduceSub, List.replicate_succ, List.replicate_zero, List.cons_append, List.nil_append]
  ((try with_reducible refine Cw.go [] ?_); (try simp (disch := (first | assumption | omega | (simp only [lenS, lenT, UInt64.reduceToNat]; try omega))) only [↓S0, S1, Try.fx, uPA_1, Nat.reduceAdd, Nat.reducePow, Int.reducePow, Nat.reduceBEq, ↓reduceIte, UInt8.reduceToNat, UInt16.reduceToNat, UInt32.reduceToNat, UInt64.reduceToNat, Int.reduceToNat]))
  refine Ow.box rfl rfl fun b2 hb2 hw2 => ?_
  simp only [ev_tmp, getF_0, getF_s, cells_agg, List.nil_append]
  refine Ow.go rfl ?_
  simp (disch := (first | assumption | omega | (simp only [lenS, lenT, UInt64.reduceToNat]; try omega))) only [↓S0, S1, Try.fx, uPA_1, Nat.reduceAdd, Nat.reducePow, Int.reducePow, Nat.reduceBEq, ↓reduceIte, UInt8.reduceToNat, UInt16.reduceToNat, UInt32.reduceToNat, UInt64.reduceToNat, Int.reduceToNat]
  refine Ow.alloc rfl rfl zrOb fun b4 hb4 hw4 => ?_
  simp only [cells_agg, List.nil_append, List.cons_append]
  have h24 : b2 < b4 := above_to hb4 (by simp [keys])
  unfold madeK madeT madeE
  cases ok
  · refine Ow.go rfl ?_
    simp (disch := (first | assumption | omega | (simp only [lenS, lenT, UInt64.reduceToNat]; try omega))) only [↓S0, S1, Try.fx, uPA_1, Nat.reduceAdd, Nat.reducePow, Int.reducePow, Nat.reduceBEq, ↓reduceIte, UInt8.reduceToNat, UInt16.reduceToNat, UInt32.reduceToNat, UInt64.reduceToNat, Int.reduceToNat]
    refine Ow.build (obV 0 []) rfl build_ob0 ?_
    refine Ow.go rfl ?_
    simp (disch := (first | assumption | omega | (simp only [lenS, lenT, UInt64.reduceToNat]; try omega))) only [↓S0, S1, Try.fx, uPA_1, Nat.reduceAdd, Nat.reducePow, Int.reducePow, Nat.reduceBEq, ↓reduceIte, UInt8.reduceToNat, UInt16.reduceToNat, UInt32.reduceToNat, UInt64.reduceToNat, Int.reduceToNat]
    ((try with_reducible refine Cw.go [] ?_); (try simp (disch := (first | assumption | omega | (simp only [lenS, lenT, UInt64.reduceToNat]; try omega))) only [↓S0, S1, Try.fx, uPA_1, Nat.reduceAdd, Nat.reducePow, Int.reducePow, Nat.reduceBEq, ↓reduceIte, UInt8.reduceToNat, UInt16.reduceToNat, UInt32.reduceToNat, UInt64.reduceToNat, Int.reduceToNat]))
    refine ⟨_, (by simp (disch := (first | assumption | omega | (simp only [lenS, lenT, UInt64.reduceToNat]; try omega))) only [↓S0, S1, Try.fx, uPA_1, Nat.reduceAdd, Nat.reducePow, Int.reducePow, Nat.reduceBEq, ↓reduceIte, UInt8.reduceToNat, UInt16.reduceToNat, UInt32.reduceToNat, UInt64.reduceToNat, Int.reduceToNat]; rfl), ⟨hw2, hw4, trivial⟩, ?_⟩
    rfl
  · refine Ow.go rfl ?_
    simp (disch := (first | assumption | omega | (simp only [lenS, lenT, UInt64.reduceToNat]; try omega))) only [↓S0, S1, Try.fx, uPA_1, Nat.reduceAdd, Nat.reducePow, Int.reducePow, Nat.reduceBEq, ↓reduceIte, UInt8.reduceToNat, UInt16.reduceToNat, UInt32.reduceToNat, UInt64.reduceToNat, Int.reduceToNat]
    refine Ow.callFV rfl Try.call48 (fun w' hw' => RightO_spec k t w') ?_
    cases hr : RdOk k t
    · refine Ow.go rfl ?_
      simp (disch := (first | assumption | omega | (simp only [lenS, lenT, UInt64.reduceToNat]; try omega))) only [↓S0, S1, Try.fx, uPA_1, Nat.reduceAdd, Nat.reducePow, Int.reducePow, Nat.reduceBEq, ↓reduceIte, UInt8.reduceToNat, UInt16.reduceToNat, UInt32.reduceToNat, UInt64.reduceToNat, Int.reduceToNat]
      refine Ow.build (obV 0 []) rfl build_ob0 ?_
      refine Ow.go rfl ?_
      simp (disch := (first | assumption | omega | (simp only [lenS, lenT, UInt64.reduceToNat]; try omega))) only [↓S0, S1, Try.fx, uPA_1, Nat.reduceAdd, Nat.reducePow, Int.reducePow, Nat.reduceBEq, ↓reduceIte, UInt8.reduceToNat, UInt16.reduceToNat, UInt32.reduceToNat, UInt64.reduceToNat, Int.reduceToNat]
      ((try with_reducible refine Cw.go [] ?_); (try simp (disch := (first | assumption | omega | (simp only [lenS, lenT, UInt64.reduceToNat]; try omega))) only [↓S0, S1, Try.fx, uPA_1, Nat.reduceAdd, Nat.reducePow, Int.reducePow, Nat.reduceBEq, ↓reduceIte, UInt8.reduceToNat, UInt16.reduceToNat, UInt32.reduceToNat, UInt64.reduceToNat, Int.reduceToNat]))
      refine ⟨_, (by simp (disch := (first | assumption | omega | (simp only [lenS, lenT, UInt64.reduceToNat]; try omega))) only [↓S0, S1, Try.fx, uPA_1, Nat.reduceAdd, Nat.reducePow, Int.reducePow, Nat.reduceBEq, ↓reduceIte, UInt8.reduceToNat, UInt16.reduceToNat, UInt32.reduceToNat, UInt64.reduceToNat, Int.reduceToNat]; rfl), ⟨hw2, hw4, trivial⟩, ?_⟩
      rfl
    · refine Ow.go rfl ?_
      simp (disch := (first | assumption | omega | (simp only [lenS, lenT, UInt64.reduceToNat]; try omega))) only [↓S0, S1, Try.fx, uPA_1, Nat.reduceAdd, Nat.reducePow, Int.reducePow, Nat.reduceBEq, ↓reduceIte, UInt8.reduceToNat, UInt16.reduceToNat, UInt32.reduceToNat, UInt64.reduceToNat, Int.reduceToNat]
      ((try with_reducible refine Cw.go [] ?_); (try simp (disch := (first | assumption | omega | (simp only [lenS, lenT, UInt64.reduceToNat]; try omega))) only [↓S0, S1, Try.fx, uPA_1, Nat.reduceAdd, Nat.reducePow, Int.reducePow, Nat.reduceBEq, ↓reduceIte, UInt8.reduceToNat, UInt16.reduceToNat, UInt32.reduceToNat, UInt64.reduceToNat, Int.reduceToNat]))
      refine ⟨_, (by simp (disch := (first | assumption | omega | (simp only [lenS, lenT, UInt64.reduceToNat]; try omega))) only [↓S0, S1, Try.fx, uPA_1, Nat.reduceAdd, Nat.reducePow, Int.reducePow, Nat.reduceBEq, ↓reduceIte, UInt8.reduceToNat, UInt16.reduceToNat, UInt32.reduceToNat, UInt64.reduceToNat, Int.reduceToNat]; rfl), ⟨hw2, hw4, trivial⟩, ?_⟩
      rfl
theorem Blob_spec (t : List UInt8) (w : World) : Rets Try.prog 10 #[vs t] w (fun v D => v = .tuple #[obV (madeK 1 t true) (madeT 1 t true), vi (madeE 1 t true)] ∧ D = []) := by
  refine Rets.enterV Try.func10 rfl (rs := [.cell 2 31, .tmp 3]) Try.results10 Try.ntmps10 ?_
  simp only [List.size_toArray, List.length_cons, List.length_nil, Nat.reduceAdd, Nat.reduceSub, List.replicate_succ, List.replicate_zero, List.cons_append, List.nil_append]
  ((try with_reducible refine Cw.go [] ?_); (try simp (disch := (first | assumption | omega | (simp only [lenS, lenT, UInt64.reduceToNat]; try omega))) only [↓S0, S1, Try.fx, uPA_1, Nat.reduceAdd, Nat.reducePow, Int.reducePow, Nat.reduceBEq, ↓reduceIte, UInt8.reduceToNat, UInt16.reduceToNat, UInt32.reduceToNat, UInt64.reduceToNat, Int.reduceToNat]))
  refine Ow.alloc rfl rfl zrOb fun b2 hb2 hw2 => ?_
  simp only [cells_agg, List.nil_append, List.cons_append]
  refine Ow.go rfl ?_
  simp (disch := (first | assumption | omega | (simp only [lenS, lenT, UInt64.reduceToNat]; try omega))) only [↓S0, S1, Try.fx, uPA_1, Nat.reduceAdd, Nat.reducePow, Int.reducePow, Nat.reduceBEq, ↓reduceIte, UInt8.reduceToNat, UInt16.reduceToNat, UInt32.reduceToNat, UInt64.reduceToNat, Int.reduceToNat]
  refine Ow.build (obV 1 t) rfl (build_ob2 1 t) ?_
  refine Ow.go rfl ?_
  simp (disch := (first | assumption | omega | (simp only [lenS, lenT, UInt64.reduceToNat]; try omega))) only [↓S0, S1, Try.fx, uPA_1, Nat.reduceAdd, Nat.reducePow, Int.reducePow, Nat.reduceBEq, ↓reduceIte, UInt8.reduceToNat, UInt16.reduceToNat, UInt32.reduceToNat, UInt64.reduceToNat, Int.reduceToNat]
  refine Ow.callFV rfl Try.call27 (fun w' hw' => made_spec 1 t true w') ?_
  refine Ow.go rfl ?_
  simp (disch := (first | assumption | omega | (simp only [lenS, lenT, UInt64.reduceToNat]; try omega))) only [↓S0, S1, Try.fx, uPA_1, Nat.reduceAdd, Nat.reducePow, Int.reducePow, Nat.reduceBEq, ↓reduceIte, UInt8.reduceToNat, UInt16.reduceToNat, UInt32.reduceToNat, UInt64.reduceToNat, Int.reduceToNat]
  ((try with_reducible refine Cw.go [] ?_); (try simp (disch := (first | assumption | omega | (simp only [lenS, lenT, UInt64.reduceToNat]; try omega))) only [↓S0, S1, Try.fx, uPA_1, Nat.reduceAdd, Nat.reducePow, Int.reducePow, Nat.reduceBEq, ↓reduceIte, UInt8.reduceToNat, UInt16.reduceToNat, UInt32.reduceToNat, UInt64.reduceToNat, Int.reduceToNat]))
  refine ⟨_, (by simp (disch := (first | assumption | omega | (simp only [lenS, lenT, UInt64.reduceToNat]; try omega))) only [↓S0, S1, Try.fx, uPA_1, Nat.reduceAdd, Nat.reducePow, Int.reducePow, Nat.reduceBEq, ↓reduceIte, UInt8.reduceToNat, UInt16.reduceToNat, UInt32.reduceToNat, UInt64.reduceToNat, Int.reduceToNat]; rfl), ⟨hw2, trivial⟩, ?_⟩
  rfl
end Go.Proofs
end
section
open Go Go.Proofs Go.Sx Go.StP
namespace Go.Proofs
set_option maxRecDepth 10000
set_option maxHeartbeats 400000
set_option linter.unusedSimpArgs false
set_option linter.defProp false
def uPB_1 := And.intro (And.intro (And.intro (@load_ob) (And.intro (@load_ob0) (@load_ob1))) (And.intro (@store_ob) (And.intro (@Sx.tup2_0) (@Sx.tup2_1)))) (And.intro (And.intro (@load_com0) (And.intro (@load_com1) (@load_com2))) (And.intro (And.intro (@load_com) (@cells_com)) (And.intro (@rdIn_v8) (@rdIn_vi))))
theorem BldAt.zeroE (b : Nat) {L : Heap} (h : Sx.look L b = some (.cells #[.pointer none, .slice none 0 0] 74 (0, 0))) : BldAt b [] L :=
  ⟨_, _, h, .inl rfl, .nl, fun h => by cases h⟩
theorem zrWr : zeroV Try.prog 74 = some (.agg #[.pointer none, .slice none 0 0]) := id (by kernel_rfl)
theorem slice_idE (x : IdL) : sliceB Try.prog 25 1 [(0, .agg (a8 x.l))] = some (24, a8 x.l) := slice_one (cs := x.l.map v8) Try.underlying25 aggIdE zrIdE (by decide) (by simp [x.h])
theorem row_oneId (x : IdL) {w' : World} {b : Nat} (h : w'.heap[b]? = some (.cells (a8 x.l) 24 (0, 0))) : RowS 32 idLC id0 w' (vsl b 0 1 1) [x] b 0 (a8 x.l) 24 (0, 0) := RowS.sl rfl h (by
  intro k hk j hj
  obtain rfl : k = 0 := by simpa using hk
  simp only [Nat.zero_mul, Nat.zero_add, List.getD_cons_zero]
  rw [← idLC_a8, List.getElem?_toArray])
theorem Came.newE {w0 : World} {L X D : Heap} {b : Nat} (hC : Came w0 L X D) (hN : New (b + 1) X) (hb : b ∈ keys L) : New (b + 1) D := New.of_le fun c hc => by
  rcases hC.new c hc with h | ⟨h, -⟩
  · exact hN.le c h
  · have := above_to h hb; omega
end Go.Proofs
end
section
open Go Go.Proofs Go.Sx Go.StP
namespace Go.Proofs
set_option maxRecDepth 10000
set_option maxHeartbeats 400000
set_option linter.unusedSimpArgs false
set_option linter.defProp false
def uPC_1 := And.intro (And.intro (And.intro (@load_ob) (And.intro (@load_ob0) (@load_ob1))) (And.intro (And.intro (@store_ob) (@Sx.tup2_0)) (And.intro (@Sx.tup2_1) (@load_ent0)))) (And.intro (And.intro (@load_ent1) (And.intro (@load_ent2) (@load_ent))) (And.intro (And.intro (@store_entr) (@cells_ent)) (And.intro (@rdIn_v8) (@rdIn_vi))))
structure WrG where
  g : Nat
  D : Heap
theorem Came.newF {w0 : World} {L X D : Heap} {m b : Nat} (hC : Came w0 L X D) (hN : New m X) (hb : b ∈ keys L) (hm : m ≤ b + 1) : New m D := New.of_le fun c hc => by
  rcases hC.new c hc with h | ⟨h, -⟩
  · exact hN.le c h
  · have := above_to h hb; omega
theorem st_mem {l Z : List EntL} (h : StE l Z) {y : EntL} (hy : y ∈ Z) : y ∈ l := by
  have h1 := h y.name
  have h2 : y ∈ StP.of EntL.name y.name Z := List.mem_filter.2 ⟨hy, by simp⟩
  rw [h1] at h2
  exact (List.mem_filter.1 h2).1
theorem treeB_len2 {l : List EntL} (hsh : ∀ e, e ∈ l → e.name.length < 10000) : ∀ k, k ≤ l.length → (treeB (l.take k)).length ≤ k * 10060
  | 0, _ => by simp [treeB]
  | k + 1, hk => by
    have ih := treeB_len2 hsh k (by omega)
    have hn := hsh _ (getD_mem (z := ent0) (show k < l.length by omega))
    have h1 : (textL (l.getD k ent0).name).length = (numL (clampN (l.getD k ent0).name.length)).length + (l.getD k ent0).name.length := by unfold textL; rw [List.length_append]
    have h4 := numL_clamp_len ((l.getD k ent0).name.length : Int)
    have h2 := numL_clamp_len (l.getD k ent0).kind
    have h3 := (l.getD k ent0).id.h
    rw [treeB_snoc (by omega)]
    unfold entB
    simp only [List.length_append]
    omega
theorem TreeO_spec (v : Value) (l : List EntL) (w : World) (hv : EntS w v l) (hl : l.length < 1000) (hsh : ∀ e, e ∈ l → e.name.length < 10000) :
    Rets Try.prog 11 #[v] w (XS w [] (fun v' _ => ∃ Z, SortOf l Z ∧ v' = .tuple #[obV (madeK 2 (treeB Z) (entsOk Z)) (madeT 2 (treeB Z) (entsOk Z)), vi (madeE 2 (treeB Z) (entsOk Z))])) := by
  have ln := hv.len
  refine Rets.enterX Try.func11 rfl (rs := [.cell 2 31, .tmp 3]) Try.results11 Try.ntmps11 (fun p hp => by cases hp) (by simp [keys]) ?_
  simp only [List.size_toArray, List.length_cons, List.length_nil, Nat.reduceAdd, Nat.reduceSub, List.replicate_succ, List.replicate_zero, List.cons_append, List.nil_append]
  ((try with_reducible refine Cw.go [] ?_); (try simp (disch := (first | assumption | omega | (simp only [lenS, lenT, UInt64.reduceToNat]; try omega))) only [↓S0, S1, Try.fx, uPC_1, Nat.reduceAdd, Nat.reducePow, Int.reducePow, Nat.reduceBEq, ↓reduceIte, UInt8.reduceToNat, UInt16.reduceToNat, UInt32.reduceToNat, UInt64.reduceToNat, Int.reduceToNat]))
  refine Ow.alloc rfl rfl zrOb fun b2 hb2 hw2 => ?_
  simp only [cells_agg, List.nil_append, List.cons_append]
  refine Ow.go rfl ?_
  simp (disch := (first | assumption | omega | (simp only [lenS, lenT, UInt64.reduceToNat]; try omega))) only [↓S0, S1, Try.fx, uPC_1, Nat.reduceAdd, Nat.reducePow, Int.reducePow, Nat.reduceBEq, ↓reduceIte, UInt8.reduceToNat, UInt16.reduceToNat, UInt32.reduceToNat, UInt64.reduceToNat, Int.reduceToNat]
  refine Ow.callF rfl rfl Try.call29 (S := fun B v' D => ∃ b1, B ≤ b1 ∧ v' = .func (.func 55) #[] #[vp b1 0] ∧ D = [(b1, .cells #[v] 22 (0, 0))]) (fun w' hw' => Values_spec v w' (SlV.one hv)) ?_
  rintro B v D hab hB ⟨b1, hb1, rfl, rfl⟩
  obtain ⟨h2B, -⟩ := hab
  refine ⟨_, Mrg.fresh (by intro q hq; simp only [keys, List.map_cons, List.map_nil, List.mem_singleton] at hq; omega), ?_⟩
  simp only [List.cons_append, List.nil_append]
  refine Ow.go rfl ?_
  simp (disch := (first | assumption | omega | (simp only [lenS, lenT, UInt64.reduceToNat]; try omega))) only [↓S0, S1, Try.fx, uPC_1, Nat.reduceAdd, Nat.reducePow, Int.reducePow, Nat.reduceBEq, ↓reduceIte, UInt8.reduceToNat, UInt16.reduceToNat, UInt32.reduceToNat, UInt64.reduceToNat, Int.reduceToNat]
  refine Ow.callC rfl rfl Try.call28 (fun w' hw' => Sorted_spec _ _ l w' Try.call55 (by omega) (fun w2 h2 => Values1_seq b1 v l w2 (hv.oldN (hw'.trans_nil h2) ⟨by omega, by omega, trivial⟩) ((hw'.trans_nil h2).has _ _ (List.mem_cons_of_mem _ List.mem_cons_self)) (by omega))) (fun B2 v2 D2 hA2 hB2 hN2 hS2 => ?_)
  obtain ⟨Z, hZ, hG⟩ := hS2
  refine Ow.go rfl ?_
  simp (disch := (first | assumption | omega | (simp only [lenS, lenT, UInt64.reduceToNat]; try omega))) only [↓S0, S1, Try.fx, uPC_1, Nat.reduceAdd, Nat.reducePow, Int.reducePow, Nat.reduceBEq, ↓reduceIte, UInt8.reduceToNat, UInt16.reduceToNat, UInt32.reduceToNat, UInt64.reduceToNat, Int.reduceToNat]
  refine Ow.alloc rfl rfl zrWr fun bw hbw hww => ?_
  simp only [cells_agg, List.nil_append, List.cons_append]
  have h2w : b2 < bw := above_to hbw (by simp [keys])
  have h1w : b1 < bw := above_to hbw (by simp [keys])
  have hDw : ∀ c, c ∈ keys D2 → c < bw := fun c hc => above_to hbw (by simp only [keys, List.map_cons, List.mem_cons]; exact .inr (.inr hc))
  refine Ow.permL (M := [(bw, Obj.cells #[.pointer none, .slice none 0 0] 74 (0, 0))] ++ (D2 ++ [(b2, Obj.cells #[vi 0, vs []] 31 (0, 0)), (b1, Obj.cells #[v] 22 (0, 0))])) (by classical exact List.perm_iff_count.2 fun a => by simp only [List.count_append, List.count_cons, List.count_nil] <;> omega) ?_
  have hB0 : BldAt bw [] [(bw, Obj.cells #[.pointer none, .slice none 0 0] 74 (0, 0))] := BldAt.zeroE bw (look_same _ _ _)
  have hN0 : New bw [(bw, Obj.cells #[.pointer none, .slice none 0 0] 74 (0, 0))] := ⟨Nat.le_refl _, trivial⟩
  have hM0 : bw ∈ keys [(bw, Obj.cells #[.pointer none, .slice none 0 0] 74 (0, 0))] := by simp [keys]
  generalize [(bw, Obj.cells #[.pointer none, .slice none 0 0] 74 (0, 0))] = D0 at hB0 hN0 hM0 ⊢
  have ln2 := hG.len
  refine Ow.go rfl ?_
  simp (disch := (first | assumption | omega | (simp only [lenS, lenT, UInt64.reduceToNat]; try omega))) only [↓S0, S1, Try.fx, uPC_1, Nat.reduceAdd, Nat.reducePow, Int.reducePow, Nat.reduceBEq, ↓reduceIte, UInt8.reduceToNat, UInt16.reduceToNat, UInt32.reduceToNat, UInt64.reduceToNat, Int.reduceToNat, ln2]
  have hZl := hZ.1
  have hshZ : ∀ e, e ∈ Z → e.name.length < 10000 := fun e he => hsh e (st_mem hZ.2.2 he)
  refine Cw.loopG (G := WrG) [13, 14, 15, 6, 16, 17, 18, 19, 20, 21, 22, 23, 24, 25, 26, 27, 28, 12] (fun q => [(12, vi q.g)]) (fun q => q.D ++ (D2 ++ [(b2, Obj.cells #[vi 0, vs []] 31 (0, 0)), (b1, Obj.cells #[v] 22 (0, 0))])) (fun q => q.g ≤ l.length ∧ BldAt bw (treeB (Z.take q.g)) q.D ∧ New bw q.D ∧ bw ∈ keys q.D) (fun q => l.length - q.g) ⟨0, D0⟩ rfl rfl ?_ ?_
  · exact ⟨Nat.zero_le _, hB0, hN0, hM0⟩
  · intro q jq hq
    simp only [overFrom, pin, setF_0, setF_s, List.contains_cons, List.contains_nil, Nat.reduceBEq, Bool.or_false, Bool.false_or, Bool.or_true, Bool.true_or, Nat.reduceAdd, ↓reduceIte, Bool.false_eq_true]
    obtain ⟨k, D⟩ := q
    simp only at hq ⊢
    obtain ⟨h1, hB1, hN1, hM1⟩ := hq
    by_cases hk : k < l.length
    · have hkZ : k < Z.length := by omega
      obtain ⟨c, cc, rest, hv2, hlk⟩ : ∃ c cc rest, v2 = vsl c 0 l.length cc ∧ Sx.look D2 c = some (entO rest Z) := by
        rcases hG with h | ⟨h, -⟩
        · rcases h.inv with ⟨-, h, -⟩ | ⟨c, cc, rest, h, hlk, -⟩
          · omega
          · exact ⟨c, cc, rest, h, hlk⟩
        · omega
      subst hv2
      have hcw := hDw c (key_of_look hlk)
      have rdz : ∀ M, readB w (D ++ (D2 ++ M)) c = some (entO rest Z) := fun M => read_look (by rw [look_app_r (hN1.not hcw)]; exact look_app hlk)
      have ldz := load_entR (rest := rest) k hkZ
      generalize hx : Z.getD k ent0 = x at ldz
      ((try with_reducible refine Cw.go [] ?_); (try simp (disch := (first | assumption | omega | (simp only [lenS, lenT, UInt64.reduceToNat]; try omega))) only [↓S0, S1, Try.fx, uPC_1, Nat.reduceAdd, Nat.reducePow, Int.reducePow, Nat.reduceBEq, ↓reduceIte, UInt8.reduceToNat, UInt16.reduceToNat, UInt32.reduceToNat, UInt64.reduceToNat, Int.reduceToNat, rdz, ldz]))
      refine Ow.alloc rfl rfl zrEnt fun b6 hb6 hw6 => ?_
      simp only [cells_agg, List.nil_append, List.cons_append]
      have hw6' : bw < b6 := above_to hb6 (by simp only [keys, List.map_append, List.mem_append] at hM1 ⊢; simp [hM1])
      refine Ow.permL (M := (b6, Obj.cells (entC ent0).toArray 45 (0, 0)) :: (D ++ (D2 ++ [(b2, Obj.cells #[vi 0, vs []] 31 (0, 0)), (b1, Obj.cells #[v] 22 (0, 0))]))) (by classical exact List.perm_iff_count.2 fun a => by simp only [List.count_append, List.count_cons, List.count_nil] <;> omega) ?_
      refine Ow.go rfl ?_
      simp (disch := (first | assumption | omega | (simp only [lenS, lenT, UInt64.reduceToNat]; try omega))) only [↓S0, S1, Try.fx, uPC_1, Nat.reduceAdd, Nat.reducePow, Int.reducePow, Nat.reduceBEq, ↓reduceIte, UInt8.reduceToNat, UInt16.reduceToNat, UInt32.reduceToNat, UInt64.reduceToNat, Int.reduceToNat]
      have hxn : x.name.length < 10000 := by rw [← hx]; exact hsh _ (st_mem hZ.2.2 (getD_mem hkZ))
      have htl : textsL [x.name] = textL x.name := by simp [textsL]
      have tll := textL_len (s := x.name) (by omega)
      have tnl : (textL x.name).length = (numL (clampN x.name.length)).length + x.name.length := by unfold textL; rw [List.length_append]
      have nl1 := numL_clamp_len (x.name.length : Int)
      have nl2 := numL_clamp_len x.kind
      have tbl := treeB_len2 hshZ k (by omega)
      refine Ow.buildSlice (e := 3) #[vi x.kind] rfl rfl (by kernel_rfl) fun b18 hb18 hw18 => ?_
      have hD18 : b18 ∉ keys D := fun hm => Nat.lt_irrefl _ (above_to hb18 (by simp only [keys, List.map_cons, List.map_append, List.mem_cons, List.mem_append] at hm ⊢; simp [hm]))
      have hw18' : bw < b18 := above_to hb18 (by simp only [keys, List.map_cons, List.map_append, List.mem_cons, List.mem_append] at hM1 ⊢; simp [hM1])
      refine Ow.permL (M := D ++ ((b6, Obj.cells (entC x).toArray 45 (0, 0)) :: (b18, Obj.cells #[vi x.kind] 3 (0, 0)) :: (D2 ++ [(b2, Obj.cells #[vi 0, vs []] 31 (0, 0)), (b1, Obj.cells #[v] 22 (0, 0))]))) (by classical exact List.perm_iff_count.2 fun a => by simp only [List.count_append, List.count_cons, List.count_nil] <;> omega) ?_
      refine Ow.go rfl ?_
      simp (disch := (first | assumption | omega | (simp only [lenS, lenT, UInt64.reduceToNat]; try omega))) only [↓S0, S1, Try.fx, uPC_1, Nat.reduceAdd, Nat.reducePow, Int.reducePow, Nat.reduceBEq, ↓reduceIte, UInt8.reduceToNat, UInt16.reduceToNat, UInt32.reduceToNat, UInt64.reduceToNat, Int.reduceToNat]
      refine Ow.callX (Y := ((b6, Obj.cells (entC x).toArray 45 (0, 0)) :: (b18, Obj.cells #[vi x.kind] 3 (0, 0)) :: (D2 ++ [(b2, Obj.cells #[vi 0, vs []] 31 (0, 0)), (b1, Obj.cells #[v] 22 (0, 0))]))) (by simp) rfl rfl Try.call32 (fun w' hw' hX hn => WNumber_spec bw D _ _ b18 0 [x.kind] _ _ _ w' hB1 hX hn (OneS.lit [x.kind] rfl rfl (hw'.has _ _ (List.mem_append_right _ (List.mem_cons_of_mem _ List.mem_cons_self)))) (fun _ => hD18) (by simp only [List.length_cons, List.length_nil]; omega)) (fun u1 E1 hC1 hS1 => ?_)
      obtain ⟨rfl, hB1'⟩ := hS1
      have hN1' := Came.newF hC1 hN1 (b := b18) (by simp [keys]) (by omega)
      have hM1' := hC1.all _ hM1
      have hB2 := hB1'.app (Y := [(b18, Obj.cells #[vi x.kind] 3 (0, 0))])
      have hN2 := hN1'.app (show New bw [(b18, Obj.cells #[vi x.kind] 3 (0, 0))] from ⟨by omega, trivial⟩)
      have hM2 : bw ∈ keys (E1 ++ [(b18, Obj.cells #[vi x.kind] 3 (0, 0))]) := by rw [keys_app]; exact List.mem_append_left _ hM1'
      refine Ow.permL (M := (b6, Obj.cells (entC x).toArray 45 (0, 0)) :: ((E1 ++ [(b18, Obj.cells #[vi x.kind] 3 (0, 0))]) ++ (D2 ++ [(b2, Obj.cells #[vi 0, vs []] 31 (0, 0)), (b1, Obj.cells #[v] 22 (0, 0))]))) (by classical exact List.perm_iff_count.2 fun a => by simp only [List.count_append, List.count_cons, List.count_nil] <;> omega) ?_
      generalize E1 ++ [(b18, Obj.cells #[vi x.kind] 3 (0, 0))] = F2 at hB2 hN2 hM2 ⊢
      refine Ow.go rfl ?_
      simp (disch := (first | assumption | omega | (simp only [lenS, lenT, UInt64.reduceToNat]; try omega))) only [↓S0, S1, Try.fx, uPC_1, Nat.reduceAdd, Nat.reducePow, Int.reducePow, Nat.reduceBEq, ↓reduceIte, UInt8.reduceToNat, UInt16.reduceToNat, UInt32.reduceToNat, UInt64.reduceToNat, Int.reduceToNat]
      rw [numsL_one] at hB2
      refine Ow.buildSlice (e := 9) #[vs x.name] rfl rfl (by kernel_rfl) fun b22 hb22 hw22 => ?_
      have hD22 : b22 ∉ keys F2 := fun hm => Nat.lt_irrefl _ (above_to hb22 (by simp only [keys, List.map_cons, List.map_append, List.mem_cons, List.mem_append] at hm ⊢; simp [hm]))
      have hw22' : bw < b22 := above_to hb22 (by simp only [keys, List.map_cons, List.map_append, List.mem_cons, List.mem_append] at hM2 ⊢; simp [hM2])
      refine Ow.permL (M := F2 ++ ((b6, Obj.cells (entC x).toArray 45 (0, 0)) :: (b22, Obj.cells #[vs x.name] 9 (0, 0)) :: (D2 ++ [(b2, Obj.cells #[vi 0, vs []] 31 (0, 0)), (b1, Obj.cells #[v] 22 (0, 0))]))) (by classical exact List.perm_iff_count.2 fun a => by simp only [List.count_append, List.count_cons, List.count_nil] <;> omega) ?_
      refine Ow.go rfl ?_
      simp (disch := (first | assumption | omega | (simp only [lenS, lenT, UInt64.reduceToNat]; try omega))) only [↓S0, S1, Try.fx, uPC_1, Nat.reduceAdd, Nat.reducePow, Int.reducePow, Nat.reduceBEq, ↓reduceIte, UInt8.reduceToNat, UInt16.reduceToNat, UInt32.reduceToNat, UInt64.reduceToNat, Int.reduceToNat]
      refine Ow.callX (Y := ((b6, Obj.cells (entC x).toArray 45 (0, 0)) :: (b22, Obj.cells #[vs x.name] 9 (0, 0)) :: (D2 ++ [(b2, Obj.cells #[vi 0, vs []] 31 (0, 0)), (b1, Obj.cells #[v] 22 (0, 0))]))) (by simp) rfl rfl Try.call33 (fun w' hw' hX hn => WText_spec bw F2 _ _ b22 0 [x.name] _ _ _ w' hB2 hX hn (StrS.lit [x.name] rfl rfl (hw'.has _ _ (List.mem_append_right _ (List.mem_cons_of_mem _ List.mem_cons_self)))) (fun _ => hD22) (by rw [htl]; simp only [List.length_append, List.length_cons, List.length_nil]; omega) (by simp)) (fun u2 E2 hC2 hS2 => ?_)
      obtain ⟨rfl, hB2'⟩ := hS2
      have hN2' := Came.newF hC2 hN2 (b := b22) (by simp [keys]) (by omega)
      have hM2' := hC2.all _ hM2
      have hB3 := hB2'.app (Y := [(b22, Obj.cells #[vs x.name] 9 (0, 0))])
      have hN3 := hN2'.app (show New bw [(b22, Obj.cells #[vs x.name] 9 (0, 0))] from ⟨by omega, trivial⟩)
      have hM3 : bw ∈ keys (E2 ++ [(b22, Obj.cells #[vs x.name] 9 (0, 0))]) := by rw [keys_app]; exact List.mem_append_left _ hM2'
      refine Ow.permL (M := (b6, Obj.cells (entC x).toArray 45 (0, 0)) :: ((E2 ++ [(b22, Obj.cells #[vs x.name] 9 (0, 0))]) ++ (D2 ++ [(b2, Obj.cells #[vi 0, vs []] 31 (0, 0)), (b1, Obj.cells #[v] 22 (0, 0))]))) (by classical exact List.perm_iff_count.2 fun a => by simp only [List.count_append, List.count_cons, List.count_nil] <;> omega) ?_
      generalize E2 ++ [(b22, Obj.cells #[vs x.name] 9 (0, 0))] = F3 at hB3 hN3 hM3 ⊢
      refine Ow.go rfl ?_
      simp (disch := (first | assumption | omega | (simp only [lenS, lenT, UInt64.reduceToNat]; try omega))) only [↓S0, S1, Try.fx, uPC_1, Nat.reduceAdd, Nat.reducePow, Int.reducePow, Nat.reduceBEq, ↓reduceIte, UInt8.reduceToNat, UInt16.reduceToNat, UInt32.reduceToNat, UInt64.reduceToNat, Int.reduceToNat]
      rw [htl] at hB3
      refine Ow.buildSlice (e := 24) (a8 x.id.l) rfl rfl (slice_idE x.id) fun b26 hb26 hw26 => ?_
      have hD26 : b26 ∉ keys F3 := fun hm => Nat.lt_irrefl _ (above_to hb26 (by simp only [keys, List.map_cons, List.map_append, List.mem_cons, List.mem_append] at hm ⊢; simp [hm]))
      have hw26' : bw < b26 := above_to hb26 (by simp only [keys, List.map_cons, List.map_append, List.mem_cons, List.mem_append] at hM3 ⊢; simp [hM3])
      refine Ow.permL (M := F3 ++ ((b6, Obj.cells (entC x).toArray 45 (0, 0)) :: (b26, Obj.cells (a8 x.id.l) 24 (0, 0)) :: (D2 ++ [(b2, Obj.cells #[vi 0, vs []] 31 (0, 0)), (b1, Obj.cells #[v] 22 (0, 0))]))) (by classical exact List.perm_iff_count.2 fun a => by simp only [List.count_append, List.count_cons, List.count_nil] <;> omega) ?_
      refine Ow.go rfl ?_
      simp (disch := (first | assumption | omega | (simp only [lenS, lenT, UInt64.reduceToNat]; try omega))) only [↓S0, S1, Try.fx, uPC_1, Nat.reduceAdd, Nat.reducePow, Int.reducePow, Nat.reduceBEq, ↓reduceIte, UInt8.reduceToNat, UInt16.reduceToNat, UInt32.reduceToNat, UInt64.reduceToNat, Int.reduceToNat]
      refine Ow.callX (Y := ((b6, Obj.cells (entC x).toArray 45 (0, 0)) :: (b26, Obj.cells (a8 x.id.l) 24 (0, 0)) :: (D2 ++ [(b2, Obj.cells #[vi 0, vs []] 31 (0, 0)), (b1, Obj.cells #[v] 22 (0, 0))]))) (by simp) rfl rfl Try.call34 (fun w' hw' hX hn => WId_spec bw F3 _ _ b26 0 [x.id] _ _ _ w' hB3 hX hn (row_oneId x.id (hw'.has _ _ (List.mem_append_right _ (List.mem_cons_of_mem _ List.mem_cons_self)))) (fun _ => hD26) (by simp only [List.length_append, List.length_cons, List.length_nil]; omega)) (fun u3 E3 hC3 hS3 => ?_)
      obtain ⟨rfl, hB3'⟩ := hS3
      have hN3' := Came.newF hC3 hN3 (b := b26) (by simp [keys]) (by omega)
      have hM3' := hC3.all _ hM3
      have hB4 := hB3'.app (Y := [(b26, Obj.cells (a8 x.id.l) 24 (0, 0))])
      have hN4 := hN3'.app (show New bw [(b26, Obj.cells (a8 x.id.l) 24 (0, 0))] from ⟨by omega, trivial⟩)
      have hM4 : bw ∈ keys (E3 ++ [(b26, Obj.cells (a8 x.id.l) 24 (0, 0))]) := by rw [keys_app]; exact List.mem_append_left _ hM3'
      refine Ow.permL (M := (b6, Obj.cells (entC x).toArray 45 (0, 0)) :: ((E3 ++ [(b26, Obj.cells (a8 x.id.l) 24 (0, 0))]) ++ (D2 ++ [(b2, Obj.cells #[vi 0, vs []] 31 (0, 0)), (b1, Obj.cells #[v] 22 (0, 0))]))) (by classical exact List.perm_iff_count.2 fun a => by simp only [List.count_append, List.count_cons, List.count_nil] <;> omega) ?_
      generalize E3 ++ [(b26, Obj.cells (a8 x.id.l) 24 (0, 0))] = F4 at hB4 hN4 hM4 ⊢
      refine Ow.permL (M := (F4 ++ [(b6, Obj.cells (entC x).toArray 45 (0, 0))]) ++ (D2 ++ [(b2, Obj.cells #[vi 0, vs []] 31 (0, 0)), (b1, Obj.cells #[v] 22 (0, 0))])) (by classical exact List.perm_iff_count.2 fun a => by simp only [List.count_append, List.count_cons, List.count_nil] <;> omega) ?_
      refine Ow.go rfl ?_
      simp (disch := (first | assumption | omega | (simp only [lenS, lenT, UInt64.reduceToNat]; try omega))) only [↓S0, S1, Try.fx, uPC_1, Nat.reduceAdd, Nat.reducePow, Int.reducePow, Nat.reduceBEq, ↓reduceIte, UInt8.reduceToNat, UInt16.reduceToNat, UInt32.reduceToNat, UInt64.reduceToNat, Int.reduceToNat]
      refine Again.mk (WrG.mk (k + 1) (F4 ++ [(b6, Obj.cells (entC x).toArray 45 (0, 0))])) (by show l.length - (k + 1) < l.length - k; omega) ⟨by show k + 1 ≤ l.length; omega, ?_, hN4.app ⟨by omega, trivial⟩, by show bw ∈ keys (F4 ++ _); rw [keys_app]; exact List.mem_append_left _ hM4⟩ rfl rfl
      show BldAt bw (treeB (Z.take (k + 1))) (F4 ++ _)
      rw [treeB_snoc' hkZ, hx]
      have e1 : idsL [x.id] = x.id.l := by simp [idsL]
      rw [e1] at hB4
      exact hB4.app
    · obtain rfl : k = l.length := by omega
      have hall : Z.take l.length = Z := List.take_of_length_le (by omega)
      rw [hall] at hB1
      ((try with_reducible refine Cw.go [] ?_); (try simp (disch := (first | assumption | omega | (simp only [lenS, lenT, UInt64.reduceToNat]; try omega))) only [↓S0, S1, Try.fx, uPC_1, Nat.reduceAdd, Nat.reducePow, Int.reducePow, Nat.reduceBEq, ↓reduceIte, UInt8.reduceToNat, UInt16.reduceToNat, UInt32.reduceToNat, UInt64.reduceToNat, Int.reduceToNat]))
      have tbl := treeB_len2 hshZ Z.length (Nat.le_refl _)
      rw [List.take_length] at tbl
      have hsZ : ShortE Z := fun i hi => by have := hshZ _ (getD_mem (z := ent0) hi); omega
      refine Ow.callX (Y := (D2 ++ [(b2, Obj.cells #[vi 0, vs []] 31 (0, 0)), (b1, Obj.cells #[v] 22 (0, 0))])) (by simp) rfl rfl Try.call35 (fun w' hw' hX hn => WString_spec bw D (treeB Z) w' hB1 hX hn (by omega)) (fun v5 D5 hC5 hS5 => ?_)
      obtain rfl := hS5
      have hN5 := Came.newF hC5 hN1 (b := bw) (by rw [keys_app]; exact List.mem_append_left _ hM1) (by omega)
      have hN2' : New w.heap.size D2 := hN2.mono (by omega)
      have hNe : New w.heap.size (D5 ++ (D2 ++ [(b2, Obj.cells #[vi 0, vs []] 31 (0, 0)), (b1, Obj.cells #[v] 22 (0, 0))])) := (New.mono (by omega) hN5).app (hN2'.app ⟨hw2, by omega, trivial⟩)
      refine Ow.go rfl ?_
      simp (disch := (first | assumption | omega | (simp only [lenS, lenT, UInt64.reduceToNat]; try omega))) only [↓S0, S1, Try.fx, uPC_1, Nat.reduceAdd, Nat.reducePow, Int.reducePow, Nat.reduceBEq, ↓reduceIte, UInt8.reduceToNat, UInt16.reduceToNat, UInt32.reduceToNat, UInt64.reduceToNat, Int.reduceToNat]
      refine Ow.build (obV 2 (treeB Z)) rfl (build_ob2 2 _) ?_
      refine Ow.go rfl ?_
      simp (disch := (first | assumption | omega | (simp only [lenS, lenT, UInt64.reduceToNat]; try omega))) only [↓S0, S1, Try.fx, uPC_1, Nat.reduceAdd, Nat.reducePow, Int.reducePow, Nat.reduceBEq, ↓reduceIte, UInt8.reduceToNat, UInt16.reduceToNat, UInt32.reduceToNat, UInt64.reduceToNat, Int.reduceToNat]
      refine Ow.callFV rfl Try.call36 (fun w' hw' => entries_spec v2 Z w' (hG.slM (fun b o hm => hw'.has b o (by simp [hm])) hZl rfl entC_len) (by omega) hsZ) ?_
      refine Ow.go rfl ?_
      simp (disch := (first | assumption | omega | (simp only [lenS, lenT, UInt64.reduceToNat]; try omega))) only [↓S0, S1, Try.fx, uPC_1, Nat.reduceAdd, Nat.reducePow, Int.reducePow, Nat.reduceBEq, ↓reduceIte, UInt8.reduceToNat, UInt16.reduceToNat, UInt32.reduceToNat, UInt64.reduceToNat, Int.reduceToNat]
      refine Ow.callFV rfl Try.call27 (fun w' hw' => made_spec 2 (treeB Z) (entsOk Z) w') ?_
      refine Ow.permL (M := (b2, Obj.cells #[vi 0, vs []] 31 (0, 0)) :: (D5 ++ (D2 ++ [(b1, Obj.cells #[v] 22 (0, 0))]))) (by classical exact List.perm_iff_count.2 fun a => by simp only [List.count_append, List.count_cons, List.count_nil] <;> omega) ?_
      refine Ow.go rfl ?_
      simp (disch := (first | assumption | omega | (simp only [lenS, lenT, UInt64.reduceToNat]; try omega))) only [↓S0, S1, Try.fx, uPC_1, Nat.reduceAdd, Nat.reducePow, Int.reducePow, Nat.reduceBEq, ↓reduceIte, UInt8.reduceToNat, UInt16.reduceToNat, UInt32.reduceToNat, UInt64.reduceToNat, Int.reduceToNat]
      ((try with_reducible refine Cw.go [] ?_); (try simp (disch := (first | assumption | omega | (simp only [lenS, lenT, UInt64.reduceToNat]; try omega))) only [↓S0, S1, Try.fx, uPC_1, Nat.reduceAdd, Nat.reducePow, Int.reducePow, Nat.reduceBEq, ↓reduceIte, UInt8.reduceToNat, UInt16.reduceToNat, UInt32.reduceToNat, UInt64.reduceToNat, Int.reduceToNat]))
      refine ⟨_, (by simp (disch := (first | assumption | omega | (simp only [lenS, lenT, UInt64.reduceToNat]; try omega))) only [↓S0, S1, Try.fx, uPC_1, Nat.reduceAdd, Nat.reducePow, Int.reducePow, Nat.reduceBEq, ↓reduceIte, UInt8.reduceToNat, UInt16.reduceToNat, UInt32.reduceToNat, UInt64.reduceToNat, Int.reduceToNat]; rfl), ?_⟩
      exact ⟨Ext.of_new ⟨hw2, (New.mono (by omega) hN5).app (hN2'.app ⟨by omega, trivial⟩)⟩, Z, hZ, rfl⟩
end Go.Proofs
end
section
open Go Go.Proofs Go.Sx Go.StP
namespace Go.Proofs
set_option maxRecDepth 10000
set_option maxHeartbeats 400000
set_option linter.unusedSimpArgs false
theorem RdOk_in {k : Int} {t : List UInt8} (h : RdOk k t = true) : 1 ≤ k ∧ k ≤ 3 ∧ t.length ≤ 4096 := by
  unfold RdOk at h
  split at h
  · assumption
  · cases h
set_option linter.defProp false
def uPD_1 := And.intro (And.intro (And.intro (@load_ob) (@load_ob0)) (And.intro (@load_ob1) (And.intro (@store_ob) (@Sx.tup2_0)))) (And.intro (And.intro (@Sx.tup2_1) (And.intro (@load_ro0) (@load_ro1))) (And.intro (@load_ro2) (And.intro (@rdIn_v8) (@rdIn_vi))))
def EntsS (k : Int) (t : List UInt8) (v : Value) (D : Heap) : Prop :=
  if RdOk k t = true ∧ k = 2 then ∃ v1, v = .tuple #[v1, vi 0] ∧ Gr D 45 34 v1 (entsE t).1.length ((entsE t).1.map entC).flatten else v = .tuple #[.slice none 0 0, vi 1]
def ComsS (k : Int) (t : List UInt8) (v : Value) (D : Heap) : Prop :=
  if RdOk k t = true ∧ k = 3 then ∃ p, v = .tuple #[.agg (comC (comE t).1.tree p (comE t).1.text).toArray, vi 0] ∧ Gr D 24 32 p (comE t).1.par.length ((comE t).1.par.map idLC).flatten else v = .tuple #[.agg (comC id0 (.slice none 0 0) []).toArray, vi 1]
end Go.Proofs
end
section
open Go Go.Proofs Go.Sx Go.StP
namespace Go.Proofs
set_option maxRecDepth 10000
set_option maxHeartbeats 400000
set_option linter.unusedSimpArgs false
set_option linter.defProp false
def uPE_1 := And.intro (And.intro (And.intro (@load_ob) (@load_ob0)) (And.intro (@load_ob1) (@store_ob))) (And.intro (And.intro (@Sx.tup2_0) (@Sx.tup2_1)) (And.intro (@rdIn_v8) (@rdIn_vi)))
def headB (k : Int) : List UInt8 := (([32, 98, 116, 99] : List UInt8).take (k + 1).toNat).drop k.toNat
def frameB (k : Int) (t : List UInt8) : List UInt8 := headB k ++ textL t
theorem FrameO_spec (k : Int) (t : List UInt8) (w : World) : Rets Try.prog 25 #[obV k t] w (XS w [] (fun v _ => v = if RdOk k t then .tuple #[vs (frameB k t), vi 0] else .tuple #[vs [], vi 1])) := by
  refine Rets.enterX Try.func25 rfl (rs := [.tmp 2, .tmp 3]) Try.results25 Try.ntmps25 (fun p hp => by cases hp) (by simp [keys]) ?_
  simp only [List.size_toArray, List.length_cons, List.length_nil, Nat.reduceAdd, Nat.reduceSub, List.replicate_succ, List.replicate_zero, List.cons_append, List.nil_append]
  ((try with_reducible refine Cw.go [] ?_); (try simp (disch := (first | assumption | omega | (simp only [lenS, lenT, UInt64.reduceToNat]; try omega))) only [↓S0, S1, Try.fx, uPE_1, Nat.reduceAdd, Nat.reducePow, Int.reducePow, Nat.reduceBEq, ↓reduceIte, UInt8.reduceToNat, UInt16.reduceToNat, UInt32.reduceToNat, UInt64.reduceToNat, Int.reduceToNat]))
  refine Ow.box rfl rfl fun b1 hb1 hw1 => ?_
  simp only [ev_tmp, getF_0, getF_s, cells_agg, List.nil_append]
  refine Ow.go rfl ?_
  simp (disch := (first | assumption | omega | (simp only [lenS, lenT, UInt64.reduceToNat]; try omega))) only [↓S0, S1, Try.fx, uPE_1, Nat.reduceAdd, Nat.reducePow, Int.reducePow, Nat.reduceBEq, ↓reduceIte, UInt8.reduceToNat, UInt16.reduceToNat, UInt32.reduceToNat, UInt64.reduceToNat, Int.reduceToNat]
  refine Ow.callFV rfl Try.call48 (fun w' hw' => RightO_spec k t w') ?_
  cases hr : RdOk k t
  · refine Ow.go rfl ?_
    simp (disch := (first | assumption | omega | (simp only [lenS, lenT, UInt64.reduceToNat]; try omega))) only [↓S0, S1, Try.fx, uPE_1, Nat.reduceAdd, Nat.reducePow, Int.reducePow, Nat.reduceBEq, ↓reduceIte, UInt8.reduceToNat, UInt16.reduceToNat, UInt32.reduceToNat, UInt64.reduceToNat, Int.reduceToNat]
    ((try with_reducible refine Cw.go [] ?_); (try simp (disch := (first | assumption | omega | (simp only [lenS, lenT, UInt64.reduceToNat]; try omega))) only [↓S0, S1, Try.fx, uPE_1, Nat.reduceAdd, Nat.reducePow, Int.reducePow, Nat.reduceBEq, ↓reduceIte, UInt8.reduceToNat, UInt16.reduceToNat, UInt32.reduceToNat, UInt64.reduceToNat, Int.reduceToNat]))
    refine ⟨_, (by simp (disch := (first | assumption | omega | (simp only [lenS, lenT, UInt64.reduceToNat]; try omega))) only [↓S0, S1, Try.fx, uPE_1, Nat.reduceAdd, Nat.reducePow, Int.reducePow, Nat.reduceBEq, ↓reduceIte, UInt8.reduceToNat, UInt16.reduceToNat, UInt32.reduceToNat, UInt64.reduceToNat, Int.reduceToNat]; rfl), ?_⟩
    exact ⟨Ext.of_new ⟨hw1, trivial⟩, rfl⟩
  · obtain ⟨hk1, hk3, htl⟩ := RdOk_in hr
    have hhl : (headB k).length ≤ 4 := by unfold headB; simp only [List.length_drop, List.length_take, List.length_cons, List.length_nil]; omega
    refine Ow.go rfl ?_
    simp (disch := (first | assumption | omega | (simp only [lenS, lenT, UInt64.reduceToNat]; try omega))) only [↓S0, S1, Try.fx, uPE_1, Nat.reduceAdd, Nat.reducePow, Int.reducePow, Nat.reduceBEq, ↓reduceIte, UInt8.reduceToNat, UInt16.reduceToNat, UInt32.reduceToNat, UInt64.reduceToNat, Int.reduceToNat]
    refine Ow.alloc rfl rfl zrWr fun b4 hb4 hw4 => ?_
    simp only [cells_agg, List.nil_append, List.cons_append]
    have h14 : b1 < b4 := above_to hb4 (by simp [keys])
    refine Ow.permL (M := [(b4, Obj.cells #[.pointer none, .slice none 0 0] 74 (0, 0))] ++ [(b1, Obj.cells #[vi k, vs t] 31 (0, 0))]) (by classical exact List.perm_iff_count.2 fun a => by simp only [List.count_append, List.count_cons, List.count_nil] <;> omega) ?_
    have hB0 : BldAt b4 [] [(b4, Obj.cells #[.pointer none, .slice none 0 0] 74 (0, 0))] := BldAt.zeroE b4 (look_same _ _ _)
    have hN0 : New (b1 + 1) [(b4, Obj.cells #[.pointer none, .slice none 0 0] 74 (0, 0))] := ⟨by omega, trivial⟩
    generalize [(b4, Obj.cells #[.pointer none, .slice none 0 0] 74 (0, 0))] = D0 at hB0 hN0 ⊢
    have rdc : ∀ {D}, New (b1 + 1) D → ∀ M, readB w (D ++ (b1, Obj.cells #[vi k, vs t] 31 (0, 0)) :: M) b1 = some (.cells #[vi k, vs t] 31 (0, 0)) := fun hn M => read_look (by rw [look_app_r (hn.not (by omega))]; exact look_same _ _ _)
    have r0 := rdc hN0
    have hsl : sliceV .str (vs ([32, 98, 116, 99] : List UInt8)) (some (some k)) (some (some (k + 1))) = some (vs (headB k)) := slice_str_both _ _ _ ⟨by omega, by omega, by simp only [List.length_cons, List.length_nil]; omega⟩
    refine Ow.go rfl ?_
    simp (disch := (first | assumption | omega | (simp only [lenS, lenT, UInt64.reduceToNat]; try omega))) only [↓S0, S1, Try.fx, uPE_1, Nat.reduceAdd, Nat.reducePow, Int.reducePow, Nat.reduceBEq, ↓reduceIte, UInt8.reduceToNat, UInt16.reduceToNat, UInt32.reduceToNat, UInt64.reduceToNat, Int.reduceToNat, r0, hsl]
    refine Ow.buildSlice (e := 9) #[vs (headB k)] rfl rfl (by kernel_rfl) fun b14 hb14 hw14 => ?_
    have h114 : b1 < b14 := above_to hb14 (by simp [keys])
    have hD14 : b14 ∉ keys D0 := fun hm => Nat.lt_irrefl _ (above_to hb14 (by rw [keys_app]; exact List.mem_append_left _ hm))
    refine Ow.go rfl ?_
    simp (disch := (first | assumption | omega | (simp only [lenS, lenT, UInt64.reduceToNat]; try omega))) only [↓S0, S1, Try.fx, uPE_1, Nat.reduceAdd, Nat.reducePow, Int.reducePow, Nat.reduceBEq, ↓reduceIte, UInt8.reduceToNat, UInt16.reduceToNat, UInt32.reduceToNat, UInt64.reduceToNat, Int.reduceToNat]
    refine Ow.callX (Y := [(b1, Obj.cells #[vi k, vs t] 31 (0, 0)), (b14, Obj.cells #[vs (headB k)] 9 (0, 0))]) (by simp) rfl rfl Try.call52 (fun w' hw' hX hn => WRaw_spec b4 D0 _ _ b14 0 [headB k] _ _ _ w' hB0 hX hn (StrS.lit [headB k] rfl rfl (hw'.has _ _ (List.mem_append_right _ List.mem_cons_self))) (fun _ => hD14) (by simp; omega) (by simp)) (fun u0 E0 hC0 hS0 => ?_)
    obtain ⟨rfl, hB0'⟩ := hS0
    have hN0' := Came.newE hC0 hN0 (by simp [keys])
    have hB1 := hB0'.app (Y := [(b14, Obj.cells #[vs (headB k)] 9 (0, 0))])
    have hN1 := hN0'.app (show New (b1 + 1) [(b14, Obj.cells #[vs (headB k)] 9 (0, 0))] from ⟨by omega, trivial⟩)
    refine Ow.permL (M := (E0 ++ [(b14, Obj.cells #[vs (headB k)] 9 (0, 0))]) ++ [(b1, Obj.cells #[vi k, vs t] 31 (0, 0))]) (by classical exact List.perm_iff_count.2 fun a => by simp only [List.count_append, List.count_cons, List.count_nil] <;> omega) ?_
    generalize E0 ++ [(b14, Obj.cells #[vs (headB k)] 9 (0, 0))] = F1 at hB1 hN1 ⊢
    simp only [List.flatten_cons, List.flatten_nil, List.append_nil, List.nil_append] at hB1
    have r1 := rdc hN1
    refine Ow.go rfl ?_
    simp (disch := (first | assumption | omega | (simp only [lenS, lenT, UInt64.reduceToNat]; try omega))) only [↓S0, S1, Try.fx, uPE_1, Nat.reduceAdd, Nat.reducePow, Int.reducePow, Nat.reduceBEq, ↓reduceIte, UInt8.reduceToNat, UInt16.reduceToNat, UInt32.reduceToNat, UInt64.reduceToNat, Int.reduceToNat, r1]
    have htx : textsL [t] = textL t := by simp [textsL]
    have tll := textL_len (s := t) (by omega)
    have tnl : (textL t).length = (numL (clampN t.length)).length + t.length := by unfold textL; rw [List.length_append]
    have nl1 := numL_clamp_len (t.length : Int)
    refine Ow.buildSlice (e := 9) #[vs t] rfl rfl (by kernel_rfl) fun b18 hb18 hw18 => ?_
    have h118 : b1 < b18 := above_to hb18 (by simp [keys])
    have hD18 : b18 ∉ keys F1 := fun hm => Nat.lt_irrefl _ (above_to hb18 (by rw [keys_app]; exact List.mem_append_left _ hm))
    refine Ow.go rfl ?_
    simp (disch := (first | assumption | omega | (simp only [lenS, lenT, UInt64.reduceToNat]; try omega))) only [↓S0, S1, Try.fx, uPE_1, Nat.reduceAdd, Nat.reducePow, Int.reducePow, Nat.reduceBEq, ↓reduceIte, UInt8.reduceToNat, UInt16.reduceToNat, UInt32.reduceToNat, UInt64.reduceToNat, Int.reduceToNat]
    refine Ow.callX (Y := [(b1, Obj.cells #[vi k, vs t] 31 (0, 0)), (b18, Obj.cells #[vs t] 9 (0, 0))]) (by simp) rfl rfl Try.call33 (fun w' hw' hX hn => WText_spec b4 F1 _ _ b18 0 [t] _ _ _ w' hB1 hX hn (StrS.lit [t] rfl rfl (hw'.has _ _ (List.mem_append_right _ List.mem_cons_self))) (fun _ => hD18) (by rw [htx]; omega) (by simp)) (fun u1 E1 hC1 hS1 => ?_)
    obtain ⟨rfl, hB1'⟩ := hS1
    have hN1' := Came.newE hC1 hN1 (by simp [keys])
    have hB2 := hB1'.app (Y := [(b18, Obj.cells #[vs t] 9 (0, 0))])
    have hN2 := hN1'.app (show New (b1 + 1) [(b18, Obj.cells #[vs t] 9 (0, 0))] from ⟨by omega, trivial⟩)
    refine Ow.permL (M := (E1 ++ [(b18, Obj.cells #[vs t] 9 (0, 0))]) ++ [(b1, Obj.cells #[vi k, vs t] 31 (0, 0))]) (by classical exact List.perm_iff_count.2 fun a => by simp only [List.count_append, List.count_cons, List.count_nil] <;> omega) ?_
    generalize E1 ++ [(b18, Obj.cells #[vs t] 9 (0, 0))] = F2 at hB2 hN2 ⊢
    rw [htx] at hB2
    refine Ow.go rfl ?_
    simp (disch := (first | assumption | omega | (simp only [lenS, lenT, UInt64.reduceToNat]; try omega))) only [↓S0, S1, Try.fx, uPE_1, Nat.reduceAdd, Nat.reducePow, Int.reducePow, Nat.reduceBEq, ↓reduceIte, UInt8.reduceToNat, UInt16.reduceToNat, UInt32.reduceToNat, UInt64.reduceToNat, Int.reduceToNat]
    refine Ow.callX (Y := [(b1, Obj.cells #[vi k, vs t] 31 (0, 0))]) (by simp) rfl rfl Try.call35 (fun w' hw' hX hn => WString_spec b4 F2 _ w' hB2 hX hn (by rw [List.length_append]; omega)) (fun v5 D5 hC5 hS5 => ?_)
    obtain rfl := hS5
    have hN5 := Came.newE hC5 hN2 (by simp [keys])
    refine Ow.go rfl ?_
    simp (disch := (first | assumption | omega | (simp only [lenS, lenT, UInt64.reduceToNat]; try omega))) only [↓S0, S1, Try.fx, uPE_1, Nat.reduceAdd, Nat.reducePow, Int.reducePow, Nat.reduceBEq, ↓reduceIte, UInt8.reduceToNat, UInt16.reduceToNat, UInt32.reduceToNat, UInt64.reduceToNat, Int.reduceToNat]
    ((try with_reducible refine Cw.go [] ?_); (try simp (disch := (first | assumption | omega | (simp only [lenS, lenT, UInt64.reduceToNat]; try omega))) only [↓S0, S1, Try.fx, uPE_1, Nat.reduceAdd, Nat.reducePow, Int.reducePow, Nat.reduceBEq, ↓reduceIte, UInt8.reduceToNat, UInt16.reduceToNat, UInt32.reduceToNat, UInt64.reduceToNat, Int.reduceToNat]))
    refine ⟨_, (by simp (disch := (first | assumption | omega | (simp only [lenS, lenT, UInt64.reduceToNat]; try omega))) only [↓S0, S1, Try.fx, uPE_1, Nat.reduceAdd, Nat.reducePow, Int.reducePow, Nat.reduceBEq, ↓reduceIte, UInt8.reduceToNat, UInt16.reduceToNat, UInt32.reduceToNat, UInt64.reduceToNat, Int.reduceToNat]; rfl), ?_⟩
    exact ⟨Ext.of_new ((New.mono (by omega) hN5).app ⟨hw1, trivial⟩), rfl⟩
end Go.Proofs
end
section
open Go Go.Proofs Go.Sx Go.StP
namespace Go.Proofs
set_option maxRecDepth 10000
set_option maxHeartbeats 400000
set_option linter.unusedSimpArgs false
set_option linter.defProp false
def uPF_1 := And.intro (And.intro (And.intro (@load_ob) (@load_ob0)) (And.intro (@load_ob1) (@store_ob))) (And.intro (And.intro (@Sx.tup2_0) (@Sx.tup2_1)) (And.intro (@cells_com) (And.intro (@rdIn_v8) (@rdIn_vi))))
def rightL (k : Int) (t : List UInt8) : Bool := if 4096 < t.length then false else if k = 2 then (readE t).isSome else if k = 3 then (readC t).isSome else k == 1
theorem RightL_spec (k : Int) (t : List UInt8) (w : World) : Rets Try.prog 51 #[obV k t] w (fun v D => v = .bool (rightL k t) ∧ D = []) := by
  refine Rets.enterV Try.func51 rfl (rs := [.tmp 2]) Try.results51 Try.ntmps51 ?_
  simp only [List.size_toArray, List.length_cons, List.length_nil, Nat.reduceAdd, Nat.reduceSub, List.replicate_succ, List.replicate_zero, List.cons_append, List.nil_append]
  ((try with_reducible refine Cw.go [] ?_); (try simp (disch := (first | assumption | omega | (simp only [lenS, lenT, UInt64.reduceToNat]; try omega))) only [↓S0, S1, Try.fx, uPF_1, Nat.reduceAdd, Nat.reducePow, Int.reducePow, Nat.reduceBEq, ↓reduceIte, UInt8.reduceToNat, UInt16.reduceToNat, UInt32.reduceToNat, UInt64.reduceToNat, Int.reduceToNat]))
  refine Ow.box rfl rfl fun b1 hb1 hw1 => ?_
  simp only [ev_tmp, getF_0, getF_s, cells_agg, List.nil_append]
  refine Ow.go rfl ?_
  simp (disch := (first | assumption | omega | (simp only [lenS, lenT, UInt64.reduceToNat]; try omega))) only [↓S0, S1, Try.fx, uPF_1, Nat.reduceAdd, Nat.reducePow, Int.reducePow, Nat.reduceBEq, ↓reduceIte, UInt8.reduceToNat, UInt16.reduceToNat, UInt32.reduceToNat, UInt64.reduceToNat, Int.reduceToNat]
  unfold rightL
  by_cases h3 : 4096 < t.length
  · have d1 : decide (4096 < (t.length : Int)) = true := decide_eq_true (by omega)
    rw [if_pos h3]
    ((try with_reducible refine Cw.go [] ?_); (try simp (disch := (first | assumption | omega | (simp only [lenS, lenT, UInt64.reduceToNat]; try omega))) only [↓S0, S1, Try.fx, uPF_1, Nat.reduceAdd, Nat.reducePow, Int.reducePow, Nat.reduceBEq, ↓reduceIte, UInt8.reduceToNat, UInt16.reduceToNat, UInt32.reduceToNat, UInt64.reduceToNat, Int.reduceToNat, d1]))
    refine ⟨_, (by simp (disch := (first | assumption | omega | (simp only [lenS, lenT, UInt64.reduceToNat]; try omega))) only [↓S0, S1, Try.fx, uPF_1, Nat.reduceAdd, Nat.reducePow, Int.reducePow, Nat.reduceBEq, ↓reduceIte, UInt8.reduceToNat, UInt16.reduceToNat, UInt32.reduceToNat, UInt64.reduceToNat, Int.reduceToNat]; rfl), ⟨hw1, trivial⟩, ?_⟩
    rfl
  · have d1 : decide (4096 < (t.length : Int)) = false := decide_eq_false (by omega)
    rw [if_neg h3]
    by_cases h2 : k = 2
    · subst h2
      rw [if_pos rfl]
      ((try with_reducible refine Cw.go [] ?_); (try simp (disch := (first | assumption | omega | (simp only [lenS, lenT, UInt64.reduceToNat]; try omega))) only [↓S0, S1, Try.fx, uPF_1, Nat.reduceAdd, Nat.reducePow, Int.reducePow, Nat.reduceBEq, ↓reduceIte, UInt8.reduceToNat, UInt16.reduceToNat, UInt32.reduceToNat, UInt64.reduceToNat, Int.reduceToNat, d1]))
      refine Ow.callC rfl rfl Try.call71 (fun w' hw' => EntriesR_spec t w' (by omega)) (fun B v D hA hB hN hS => ?_)
      obtain ⟨p, b, rfl, hb⟩ : ∃ p b, v = .tuple #[p, .bool b] ∧ (readE t).isSome = b := by
        unfold ReadES at hS
        cases h : readE t with
        | none => rw [h] at hS; exact ⟨_, _, hS, rfl⟩
        | some l => rw [h] at hS; obtain ⟨v1, rfl, -⟩ := hS; exact ⟨_, _, rfl, rfl⟩
      rw [hb]
      refine Ow.go rfl ?_
      simp (disch := (first | assumption | omega | (simp only [lenS, lenT, UInt64.reduceToNat]; try omega))) only [↓S0, S1, Try.fx, uPF_1, Nat.reduceAdd, Nat.reducePow, Int.reducePow, Nat.reduceBEq, ↓reduceIte, UInt8.reduceToNat, UInt16.reduceToNat, UInt32.reduceToNat, UInt64.reduceToNat, Int.reduceToNat]
      ((try with_reducible refine Cw.go [] ?_); (try simp (disch := (first | assumption | omega | (simp only [lenS, lenT, UInt64.reduceToNat]; try omega))) only [↓S0, S1, Try.fx, uPF_1, Nat.reduceAdd, Nat.reducePow, Int.reducePow, Nat.reduceBEq, ↓reduceIte, UInt8.reduceToNat, UInt16.reduceToNat, UInt32.reduceToNat, UInt64.reduceToNat, Int.reduceToNat]))
      refine ⟨_, (by simp (disch := (first | assumption | omega | (simp only [lenS, lenT, UInt64.reduceToNat]; try omega))) only [↓S0, S1, Try.fx, uPF_1, Nat.reduceAdd, Nat.reducePow, Int.reducePow, Nat.reduceBEq, ↓reduceIte, UInt8.reduceToNat, UInt16.reduceToNat, UInt32.reduceToNat, UInt64.reduceToNat, Int.reduceToNat]; rfl), ⟨hw1, New.mono hB hN⟩, ?_⟩
      rfl
    · have d2 : (k == 2) = false := by simpa using h2
      rw [if_neg h2]
      by_cases h4 : k = 3
      · subst h4
        rw [if_pos rfl]
        ((try with_reducible refine Cw.go [] ?_); (try simp (disch := (first | assumption | omega | (simp only [lenS, lenT, UInt64.reduceToNat]; try omega))) only [↓S0, S1, Try.fx, uPF_1, Nat.reduceAdd, Nat.reducePow, Int.reducePow, Nat.reduceBEq, ↓reduceIte, UInt8.reduceToNat, UInt16.reduceToNat, UInt32.reduceToNat, UInt64.reduceToNat, Int.reduceToNat, d1, d2]))
        refine Ow.callC rfl rfl Try.call72 (fun w' hw' => CommitRd_spec t w' (by omega)) (fun B v D hA hB hN hS => ?_)
        obtain ⟨c, p, x, b, rfl, hp, hb⟩ : ∃ c p x b, v = .tuple #[.agg (comC c p x).toArray, .bool b] ∧ Value.oneCell' p = true ∧ (readC t).isSome = b := by
          unfold ReadCS at hS
          cases h : readC t with
          | none => rw [h] at hS; exact ⟨_, _, _, _, hS, rfl, rfl⟩
          | some l => rw [h] at hS; obtain ⟨v1, rfl, hg⟩ := hS; exact ⟨_, _, _, _, rfl, hg.cell.1, rfl⟩
        rw [hb]
        have stq : ∀ a E, storeV (some (a, 34)) (some (.cells (comC id0 (.slice none 0 0) []).toArray E (0, 0))) 0 (.agg (comC c p x).toArray) = some (.cells (comC c p x).toArray E (0, 0)) := fun a E => store_com _ _ _ _ a E (by rw [List.size_toArray, comC_len]) hp
        refine Ow.go rfl ?_
        simp (disch := (first | assumption | omega | (simp only [lenS, lenT, UInt64.reduceToNat]; try omega))) only [↓S0, S1, Try.fx, uPF_1, Nat.reduceAdd, Nat.reducePow, Int.reducePow, Nat.reduceBEq, ↓reduceIte, UInt8.reduceToNat, UInt16.reduceToNat, UInt32.reduceToNat, UInt64.reduceToNat, Int.reduceToNat]
        refine Ow.alloc rfl rfl zrCom fun b5 hb5 hw5 => ?_
        simp only [cells_agg, List.nil_append, List.cons_append]
        refine Ow.permL (M := (b5, Obj.cells (comC id0 (.slice none 0 0) []).toArray 27 (0, 0)) :: (b1, Obj.cells #[vi 3, vs t] 31 (0, 0)) :: D) (by classical exact List.perm_iff_count.2 fun a => by simp only [List.count_append, List.count_cons, List.count_nil] <;> omega) ?_
        refine Ow.go rfl ?_
        simp (disch := (first | assumption | omega | (simp only [lenS, lenT, UInt64.reduceToNat]; try omega))) only [↓S0, S1, Try.fx, uPF_1, Nat.reduceAdd, Nat.reducePow, Int.reducePow, Nat.reduceBEq, ↓reduceIte, UInt8.reduceToNat, UInt16.reduceToNat, UInt32.reduceToNat, UInt64.reduceToNat, Int.reduceToNat, stq]
        ((try with_reducible refine Cw.go [] ?_); (try simp (disch := (first | assumption | omega | (simp only [lenS, lenT, UInt64.reduceToNat]; try omega))) only [↓S0, S1, Try.fx, uPF_1, Nat.reduceAdd, Nat.reducePow, Int.reducePow, Nat.reduceBEq, ↓reduceIte, UInt8.reduceToNat, UInt16.reduceToNat, UInt32.reduceToNat, UInt64.reduceToNat, Int.reduceToNat]))
        refine ⟨_, (by simp (disch := (first | assumption | omega | (simp only [lenS, lenT, UInt64.reduceToNat]; try omega))) only [↓S0, S1, Try.fx, uPF_1, Nat.reduceAdd, Nat.reducePow, Int.reducePow, Nat.reduceBEq, ↓reduceIte, UInt8.reduceToNat, UInt16.reduceToNat, UInt32.reduceToNat, UInt64.reduceToNat, Int.reduceToNat]; rfl), ⟨hw5, hw1, New.mono hB hN⟩, ?_⟩
        rfl
      · have d3 : (k == 3) = false := by simpa using h4
        rw [if_neg h4]
        ((try with_reducible refine Cw.go [] ?_); (try simp (disch := (first | assumption | omega | (simp only [lenS, lenT, UInt64.reduceToNat]; try omega))) only [↓S0, S1, Try.fx, uPF_1, Nat.reduceAdd, Nat.reducePow, Int.reducePow, Nat.reduceBEq, ↓reduceIte, UInt8.reduceToNat, UInt16.reduceToNat, UInt32.reduceToNat, UInt64.reduceToNat, Int.reduceToNat, d1, d2, d3]))
        refine ⟨_, (by simp (disch := (first | assumption | omega | (simp only [lenS, lenT, UInt64.reduceToNat]; try omega))) only [↓S0, S1, Try.fx, uPF_1, Nat.reduceAdd, Nat.reducePow, Int.reducePow, Nat.reduceBEq, ↓reduceIte, UInt8.reduceToNat, UInt16.reduceToNat, UInt32.reduceToNat, UInt64.reduceToNat, Int.reduceToNat]; rfl), ⟨hw1, trivial⟩, ?_⟩
        rfl
end Go.Proofs
end
section
open Go Go.Proofs Go.Sx Go.StP
namespace Go.Proofs
set_option maxRecDepth 10000
set_option maxHeartbeats 400000
set_option linter.unusedSimpArgs false
/-! ### What was read was written so -/
theorem numL_posE (n : Nat) : 0 < (numL n).length := by
  by_cases h : n < 128
  · rw [numL_small h]; simp
  · rw [numL_big h]; simp
theorem numGo_canon (most : Int) : ∀ (l : List UInt8) (k acc m k' : Nat), numGo most l k acc = .ok (m, k') → ∃ n, l = numL n ++ l.drop (k' - k) ∧ m = acc + n * 128 ^ k ∧ (0 < k → 0 < n) ∧ k < k' := by
  intro l
  induction l with
  | nil => intro k acc m k' h; simp [numGo] at h
  | cons c r ih =>
    intro k acc m k' h
    unfold numGo at h
    have hcl := c.toNat_lt
    split at h
    · rename_i hc
      split at h
      · cases h
      · obtain ⟨n, h1, h2, h3, h4⟩ := ih _ _ _ _ h
        have hn := h3 (by omega)
        refine ⟨c.toNat % 128 + 128 * n, ?_, ?_, fun _ => by omega, by omega⟩
        · rw [numL_big (by omega), show (c.toNat % 128 + 128 * n) / 128 = n by omega, show (c.toNat % 128 + 128 * n) % 128 + 128 = c.toNat by omega]
          rw [show k' - k = (k' - (k + 1)) + 1 by omega, List.drop_succ_cons, List.cons_append, ← h1]
          simp
        · rw [h2, Nat.pow_succ, Nat.add_mul, Nat.add_assoc]
          congr 2
          rw [Nat.mul_comm 128 n, Nat.mul_assoc, Nat.mul_comm (128 ^ k) 128]
    · rename_i hc
      split at h
      · cases h
      · rename_i hz
        split at h
        · cases h
          refine ⟨c.toNat, ?_, ?_, fun hk => by omega, by omega⟩
          · rw [numL_small (by omega), Nat.add_sub_cancel_left]
            simp
          · rw [Nat.mod_eq_of_lt (by omega)]
        · cases h
theorem clampN_idE {n : Nat} (h : n ≤ 1099511627775) : clampN (n : Int) = n := clampN_nat (by omega)
theorem numGo_boundE (most : Int) : ∀ (l : List UInt8) (k n m k' : Nat), numGo most l k n = .ok (m, k') → m ≤ 1099511627775
  | [], _, _, _, _, h => by simp [numGo] at h
  | c :: r, k, n, m, k', h => by
    unfold numGo at h
    split at h
    · split at h
      · cases h
      · exact numGo_boundE most r _ _ _ _ h
    · split at h
      · cases h
      · split at h
        · rename_i hh
          cases h
          exact hh.1
        · cases h
theorem numR_canon {s : List UInt8} {a : Nat} {most : Int} (h : (numR s a 0 most).2.2 = 0) : ∃ n : Nat, (numR s a 0 most).1 = (n : Int) ∧ n ≤ 1099511627775 ∧ (n : Int) ≤ most ∧ s.drop a = numL n ++ s.drop (numR s a 0 most).2.1 := by
  unfold numR at h ⊢
  rw [if_neg (by simp)] at h ⊢
  cases hg : numGo most (s.drop a) 0 0 with
  | ok p =>
    obtain ⟨m, k⟩ := p
    obtain ⟨n, h1, h2, -, -⟩ := numGo_canon _ _ _ _ _ _ hg
    obtain rfl : m = n := by rw [h2]; simp
    refine ⟨m, rfl, numGo_boundE _ _ _ _ _ _ hg, numGo_mostE _ _ _ _ _ _ hg, ?_⟩
    rw [Nat.sub_zero, List.drop_drop] at h1
    exact h1
  | error x =>
    rw [hg] at h
    exfalso
    have : x = 0 := by have : ((x : Nat) : Int) = 0 := h; omega
    subst this
    exact numGo_0 _ _ _ _ hg
theorem rawR_canon {s : List UInt8} {a : Nat} {n : Int} (ha : a ≤ s.length) (h : (rawR s a 0 n).2.2 = 0) : 0 ≤ n ∧ (rawR s a 0 n).1.length = n.toNat ∧ s.drop a = (rawR s a 0 n).1 ++ s.drop (rawR s a 0 n).2.1 := by
  unfold rawR at h ⊢
  rw [if_neg (by simp)] at h ⊢
  split at h
  · exact absurd (show (2 : Int) = 0 from h) (by decide)
  · rename_i h1
    rw [if_neg h1]
    split at h
    · exact absurd (show (3 : Int) = 0 from h) (by decide)
    · rename_i h2
      rw [if_neg h2]
      refine ⟨by omega, ?_, ?_⟩
      · simp only [List.length_take, List.length_drop]; omega
      · simp only
        rw [← List.drop_drop, List.take_append_drop]
theorem textR_canon {s : List UInt8} {a : Nat} {most : Int} (ha : a ≤ s.length) (h : (textR s a 0 most).2.2 = 0) : ((textR s a 0 most).1.length : Int) ≤ most ∧ s.drop a = textL (textR s a 0 most).1 ++ s.drop (textR s a 0 most).2.1 := by
  have hle := numR_le (e := 0) (most := most) ha
  have e1 : (numR s a 0 most).2.2 = 0 := Decidable.byContradiction fun hn => by
    unfold textR at h
    simp only [rawR_e hn] at h
    rw [if_pos hn] at h
    exact hn h
  obtain ⟨n, hn, hb, hm, hd⟩ := numR_canon e1
  unfold textR at h ⊢
  simp only at h ⊢
  generalize numR s a 0 most = p at *
  obtain ⟨p1, p2, p3⟩ := p
  simp only at e1 hn hd hle h ⊢
  subst e1 hn
  have e2 : (rawR s p2 0 (n : Int)).2.2 = 0 := Decidable.byContradiction fun hh => by rw [if_pos hh] at h; exact hh h
  rw [if_neg (by simp [e2])]
  obtain ⟨-, hl, hr⟩ := rawR_canon hle.2 e2
  rw [Int.toNat_natCast] at hl
  refine ⟨by rw [hl]; exact hm, ?_⟩
  unfold textL
  rw [hl, clampN_idE hb, List.append_assoc, ← hr]
  exact hd
theorem idR_canon {s : List UInt8} {a : Nat} (ha : a ≤ s.length) (h : (idR s a 0).2.2 = 0) : s.drop a = (mkIdE (idR s a 0).1).l ++ s.drop (idR s a 0).2.1 := by
  have e2 : (rawR s a 0 32).2.2 = 0 := h
  obtain ⟨-, hl, hr⟩ := rawR_canon ha e2
  rw [mkIdE_eq (idE_len s a 0)]
  unfold idR
  simp only
  have hl' : (rawR s a 0 32).1.length = 32 := hl
  rw [if_pos hl']
  exact hr
theorem entR_canon {s : List UInt8} {a : Nat} (ha : a ≤ s.length) (h : (entR s a 0).2.2 = 0) : s.drop a = entB (entR s a 0).1 ++ s.drop (entR s a 0).2.1 := by
  have hq := numR_le (e := 0) (most := 2) ha
  unfold entR at h ⊢
  simp only at h ⊢
  have e1 : (numR s a 0 2).2.2 = 0 := Decidable.byContradiction fun hn => by
    rw [idR_e (by rw [textR_e hn]; exact hn), textR_e hn] at h; exact hn h
  obtain ⟨n, hn, hb, -, hd⟩ := numR_canon e1
  generalize numR s a 0 2 = p at *
  obtain ⟨p1, p2, p3⟩ := p
  simp only at e1 hn hd hq h ⊢
  subst e1 hn
  have ht := textE_le (e := 0) (most := 32) hq.2
  have e2 : (textR s p2 0 32).2.2 = 0 := Decidable.byContradiction fun hn => by rw [idR_e hn] at h; exact hn h
  obtain ⟨-, hd2⟩ := textR_canon hq.2 e2
  generalize textR s p2 0 32 = q at *
  obtain ⟨q1, q2, q3⟩ := q
  simp only at e2 hd2 ht h ⊢
  subst e2
  have hd3 := idR_canon ht.2 h
  unfold entB
  simp only
  rw [clampN_idE hb, List.append_assoc, List.append_assoc, ← hd3, ← hd2]
  exact hd
theorem treeB_app1 (l : List EntL) (x : EntL) : treeB (l ++ [x]) = treeB l ++ entB x := by unfold treeB; simp
theorem entsGo_canon {s : List UInt8} : ∀ (n a : Nat) (e : Int) (l : List EntL), a ≤ s.length → (e = 0 → s = treeB l ++ s.drop a) → ((entsGo s n a e l).2.2 = 0 → s = treeB (entsGo s n a e l).1 ++ s.drop (entsGo s n a e l).2.1)
  | 0, _, _, _, _, h => h
  | n + 1, a, e, l, ha, h => by
    by_cases hc : e = 0 ∧ a < s.length
    · rw [entsGo_on hc]
      refine entsGo_canon n _ _ _ (entR_le ha).2 fun h0 => ?_
      obtain ⟨rfl, -⟩ := hc
      rw [treeB_app1, List.append_assoc, ← entR_canon ha h0]
      exact h rfl
    · rw [entsGo_end hc]
      exact h
theorem endE_zero {s : List UInt8} {a : Nat} {e : Int} (h : endE s a e = 0) : e = 0 ∧ s.length ≤ a := by
  unfold endE at h
  split at h
  · rename_i he; exact absurd h he
  · rename_i he
    split at h
    · exact absurd h (by decide)
    · exact ⟨Decidable.byContradiction he, by omega⟩
theorem entsE_canon {s : List UInt8} (h : endE s (entsE s).2.1 (entsE s).2.2 = 0) : treeB (entsE s).1 = s := by
  obtain ⟨h1, h2⟩ := endE_zero h
  have := entsGo_canon (s := s) (s.length + 1) 0 0 [] (Nat.zero_le _) (fun _ => by simp [treeB]) h1
  rw [show entsGo s (s.length + 1) 0 0 [] = entsE s from rfl, List.drop_eq_nil_of_le h2, List.append_nil] at this
  exact this.symm
/-- Entries, read without an error, are read to the end. -/
theorem entsGo_over {s : List UInt8} : ∀ (n a : Nat) (e : Int) (l : List EntL), a ≤ s.length → (e = 0 → s.length < a + n) → (entsGo s n a e l).2.2 = 0 → s.length ≤ (entsGo s n a e l).2.1
  | 0, a, e, l, ha, hf, h => by have := hf h; show s.length ≤ a; omega
  | n + 1, a, e, l, ha, hf, h => by
    by_cases hc : e = 0 ∧ a < s.length
    · rw [entsGo_on hc] at h ⊢
      refine entsGo_over n _ _ _ (entR_le ha).2 (fun h0 => ?_) h
      obtain ⟨rfl, -⟩ := hc
      have := entR_up ha h0
      have := hf rfl
      omega
    · rw [entsGo_end hc] at h ⊢
      have h' : e = 0 := h
      exact Decidable.byContradiction fun hn => hc ⟨h', by have hn' : ¬ s.length ≤ a := hn; omega⟩
theorem endE_ents (s : List UInt8) : (endE s (entsE s).2.1 (entsE s).2.2 = 0) ↔ (entsE s).2.2 = 0 := by
  refine ⟨fun h => (endE_zero h).1, fun h => ?_⟩
  have := entsGo_over (s := s) (s.length + 1) 0 0 [] (Nat.zero_le _) (fun _ => by omega) h
  have h2 : s.length ≤ (entsE s).2.1 := this
  unfold endE
  rw [if_neg (by simp [h]), if_neg (by omega)]
/-! ### Commits -/
theorem idsB_app1 (l : List IdL) (x : IdL) : idsB (l ++ [x]) = idsB l ++ x.l := by unfold idsB; simp
theorem idsGo_canon {s : List UInt8} {a : Nat} (ha : a ≤ s.length) : ∀ n, (idsGo s a 0 n).2.2 = 0 → s.drop a = idsB (idsGo s a 0 n).1 ++ s.drop (idsGo s a 0 n).2.1
  | 0, _ => by simp [idsGo, idsB]
  | n + 1, h => by
    unfold idsGo at h ⊢
    simp only at h ⊢
    have e1 : (idsGo s a 0 n).2.2 = 0 := Decidable.byContradiction fun hn => by rw [idR_e hn] at h; exact hn h
    have ih := idsGo_canon ha n e1
    have hl := idsGo_le (e := 0) ha n
    generalize idsGo s a 0 n = p at *
    obtain ⟨p1, p2, p3⟩ := p
    simp only at e1 ih hl h ⊢
    subst e1
    rw [idsB_app1, List.append_assoc, ← idR_canon hl h]
    exact ih
theorem idsGo_e {s : List UInt8} {a : Nat} {e : Int} (he : e ≠ 0) : ∀ n, (idsGo s a e n).2 = (a, e)
  | 0 => rfl
  | n + 1 => by
    have ih := idsGo_e (s := s) (a := a) he n
    unfold idsGo
    simp only
    rw [ih, idR_e he]
theorem comE_canon {s : List UInt8} (h : endE s (comE s).2.1 (comE s).2.2 = 0) : comB (comE s).1 = s := by
  obtain ⟨h1, h2⟩ := endE_zero h
  have ip := idE_le (s := s) (a := 0) (e := 0) (Nat.zero_le _)
  have np := numR_le (e := (idR s 0 0).2.2) (most := 4) ip.2
  unfold comE at h1 h2 ⊢
  simp only at h1 h2 ⊢
  have e3 : (comP s).2.2 = 0 := Decidable.byContradiction fun hn => by unfold comT at h1; rw [textR_e hn] at h1; exact hn h1
  have e2 : (comN s).2.2 = 0 := Decidable.byContradiction fun hn => by unfold comP at e3; rw [idsGo_e hn] at e3; exact hn e3
  have e1 : (idR s 0 0).2.2 = 0 := Decidable.byContradiction fun hn => by unfold comN at e2; rw [numR_e hn] at e2; exact hn e2
  have d1 := idR_canon (Nat.zero_le _) e1
  rw [e1] at np
  have hcN : comN s = numR s (idR s 0 0).2.1 0 4 := by unfold comN; rw [e1]
  rw [hcN] at e2
  obtain ⟨n, hn, hb, -, d2⟩ := numR_canon e2
  have hcP : comP s = idsGo s (comN s).2.1 0 n := by unfold comP; rw [hcN, e2, hn, Int.toNat_natCast]
  have hp : (comN s).2.1 ≤ s.length := by rw [hcN]; exact np.2
  rw [hcP] at e3
  have d3 := idsGo_canon hp n e3
  have hpl : (comP s).1.length = n := by rw [hcP, idsGo_len]
  have hcT : comT s = textR s (comP s).2.1 0 64 := by unfold comT; rw [hcP, e3]
  have hle : (comP s).2.1 ≤ s.length := by rw [hcP]; exact idsGo_le hp n
  rw [hcT] at h1
  obtain ⟨-, d4⟩ := textR_canon hle h1
  rw [← hcT] at d4
  rw [← hcP] at d3
  rw [← hcN] at d2
  unfold comB comHd
  simp only
  rw [hpl, clampN_idE hb]
  rw [List.drop_eq_nil_of_le h2, List.append_nil] at d4
  rw [List.append_assoc, List.append_assoc, ← d4, ← d3, ← d2, ← d1]
  rfl
/-- The program's answer and the law's. -/
theorem RdOk_right (k : Int) (t : List UInt8) : RdOk k t = rightL k t := by
  unfold RdOk rightL
  by_cases h4 : 4096 < t.length
  · rw [if_neg (by omega), if_pos h4]
  · rw [if_neg h4]
    by_cases h2 : k = 2
    · subst h2
      rw [if_pos (by omega), if_neg (by decide), if_pos rfl, if_pos rfl]
      unfold readE
      by_cases hz : endE t (entsE t).2.1 (entsE t).2.2 = 0
      · have := entsE_canon hz
        have h1 := (endE_ents t).1 hz
        rw [hz]
        cases ho : entsOk (entsE t).1
        · rw [if_neg (fun h => by cases h.2.1)]; rfl
        · rw [if_pos ⟨h1, rfl, this⟩]; rfl
      · have h' : ¬ (entsE t).2.2 = 0 := fun h => hz ((endE_ents t).2 h)
        simp [hz, h']
    · by_cases h3 : k = 3
      · subst h3
        rw [if_pos (by omega), if_neg (by decide), if_neg (by decide), if_neg (by decide), if_pos rfl]
        unfold readC
        by_cases hz : endE t (comE t).2.1 (comE t).2.2 = 0
        · have := comE_canon hz
          cases ho : comOk (comE t).1 <;> simp [hz, this]
        · simp [hz]
      · rw [if_neg h2, if_neg h3]
        by_cases h1 : k = 1
        · subst h1
          rw [if_pos (by omega)]; rfl
        · rw [if_neg (by omega)]
          simp [h1, h2]
/-! ### What was written is read -/
theorem numGo_numLE (most : Int) (r : List UInt8) : ∀ (n k acc : Nat), (0 < k → 0 < n) → k + (numL n).length ≤ 6 → acc + n * 128 ^ k ≤ 1099511627775 → ((acc + n * 128 ^ k : Nat) : Int) ≤ most →
    numGo most (numL n ++ r) k acc = .ok (acc + n * 128 ^ k, k + (numL n).length) := by
  intro n
  induction n using Nat.strongRecOn with
  | ind n ih =>
    intro k acc hk hl hs hm
    by_cases h : n < 128
    · rw [numL_small h, List.cons_append, List.nil_append, numGo]
      have hc : (UInt8.ofNat n).toNat = n := by rw [UInt8.toNat_ofNat']; omega
      rw [hc, Nat.mod_eq_of_lt h, if_neg (by omega), if_neg (by omega), if_pos ⟨hs, hm⟩]
      rfl
    · have hb := numL_big h
      rw [hb] at hl ⊢
      rw [List.cons_append, numGo]
      have hc : (UInt8.ofNat (n % 128 + 128)).toNat = n % 128 + 128 := by rw [UInt8.toNat_ofNat']; omega
      have hp := numL_posE (n / 128)
      rw [List.length_cons] at hl
      have e : acc + (n % 128 + 128) % 128 * 128 ^ k + n / 128 * 128 ^ (k + 1) = acc + n * 128 ^ k := by
        have h1 : (n % 128 + 128) % 128 = n % 128 := by omega
        rw [h1, Nat.pow_succ, Nat.add_assoc]
        congr 1
        have h2 : n / 128 * (128 ^ k * 128) = (n / 128 * 128) * 128 ^ k := by rw [Nat.mul_comm (128 ^ k), Nat.mul_assoc]
        rw [h2, ← Nat.add_mul]
        congr 1
        omega
      rw [hc, if_pos (by omega), if_neg (by omega), ih (n / 128) (by omega) (k + 1) _ (fun _ => by omega) (by omega) (by rw [e]; exact hs) (by rw [e]; exact hm), e, List.length_cons]
      congr 2
      omega
theorem numR_appE (A r : List UInt8) (n : Nat) (most : Int) (hn : n ≤ 1099511627775) (hm : (n : Int) ≤ most) : numR (A ++ (numL n ++ r)) A.length 0 most = ((n : Int), A.length + (numL n).length, 0) := by
  have hl := numL_len_lt 6 n (by omega) (by omega)
  have h := numGo_numLE most r n 0 0 (fun h => absurd h (Nat.lt_irrefl 0)) (by omega) (by simpa using hn) (by simpa using hm)
  simp only [Nat.pow_zero, Nat.mul_one, Nat.zero_add] at h
  exact numR_ok rfl (by rw [List.drop_left]; exact h)
theorem rawR_appE (A x r : List UInt8) : rawR (A ++ (x ++ r)) A.length 0 (x.length : Int) = (x, A.length + x.length, 0) := by
  unfold rawR
  rw [if_neg (by simp), if_neg (by omega), if_neg (by simp only [List.length_append]; omega), List.drop_left, Int.toNat_natCast, List.take_left]
theorem textR_appE (A t r : List UInt8) (most : Int) (hn : t.length ≤ 1099511627775) (hm : (t.length : Int) ≤ most) : textR (A ++ (textL t ++ r)) A.length 0 most = (t, A.length + (textL t).length, 0) := by
  have h1 := numR_appE A (t ++ r) t.length most hn hm
  have h2 := rawR_appE (A ++ numL t.length) t r
  unfold textR textL
  rw [clampN_idE (by omega)]
  rw [List.append_assoc, h1]
  simp only
  rw [List.append_assoc, List.length_append] at h2
  rw [h2]
  simp only [ne_eq, not_true_eq_false, ↓reduceIte, List.length_append, Nat.add_assoc]
theorem idR_appE (A r : List UInt8) (i : IdL) : idR (A ++ (i.l ++ r)) A.length 0 = (i.l, A.length + 32, 0) := by
  have h := rawR_appE A i.l r
  have hi := i.h
  rw [hi] at h
  unfold idR
  rw [show (32 : Int) = ((32 : Nat) : Int) from rfl, h]
  simp only [hi, ↓reduceIte]
theorem mkIdE_l (i : IdL) : mkIdE i.l = i := by unfold mkIdE; rw [dif_pos i.h]
theorem entR_appE (A r : List UInt8) (x : EntL) (hk : 0 ≤ x.kind ∧ x.kind ≤ 2) (hn : x.name.length ≤ 32) : entR (A ++ (entB x ++ r)) A.length 0 = (x, A.length + (entB x).length, 0) := by
  obtain ⟨nm, kd, id⟩ := x
  simp only at hk hn
  obtain ⟨k, rfl⟩ := Int.eq_ofNat_of_zero_le hk.1
  have h1 := numR_appE A (textL nm ++ (id.l ++ r)) k 2 (by omega) hk.2
  have h2 := textR_appE (A ++ numL k) nm (id.l ++ r) 32 (by omega) (by omega)
  have h3 := idR_appE (A ++ numL k ++ textL nm) r id
  unfold entR entB
  simp only
  rw [clampN_idE (by omega)]
  simp only [List.append_assoc, List.length_append] at h1 h2 h3 ⊢
  rw [h1]
  simp only
  rw [h2]
  simp only [Nat.add_assoc] at h3 ⊢
  rw [h3]
  simp only [mkIdE_l, id.h, Nat.add_assoc]
def EntsShort (l : List EntL) : Prop := ∀ x, x ∈ l → 0 ≤ x.kind ∧ x.kind ≤ 2 ∧ x.name.length ≤ 32
theorem entB_pos (x : EntL) : 0 < (entB x).length := by
  unfold entB
  simp only [List.length_append]
  have := x.id.h
  omega
theorem treeB_cons (x : EntL) (l : List EntL) : treeB (x :: l) = entB x ++ treeB l := by unfold treeB; simp
theorem entsGo_app : ∀ (l A : List EntL) (n : Nat), EntsShort l → (treeB l).length < n → entsGo (treeB A ++ treeB l) n (treeB A).length 0 A = (A ++ l, (treeB A ++ treeB l).length, 0)
  | [], A, n, _, hn => by
    rw [entsGo_end (fun h => by have := h.2; simp [treeB] at this)]
    simp [treeB]
  | x :: l, A, n, hs, hn => by
    obtain ⟨m, rfl⟩ : ∃ m, n = m + 1 := ⟨n - 1, by omega⟩
    have hx := hs x List.mem_cons_self
    have hp := entB_pos x
    rw [treeB_cons] at hn ⊢
    rw [List.length_append] at hn
    rw [entsGo_on ⟨rfl, by simp only [List.length_append]; omega⟩, entR_appE _ _ _ ⟨hx.1, hx.2.1⟩ hx.2.2]
    simp only
    have ih := entsGo_app l (A ++ [x]) m (fun y hy => hs y (List.mem_cons_of_mem _ hy)) (by omega)
    rw [treeB_app1, List.append_assoc, List.length_append, List.append_assoc] at ih
    exact ih
theorem entsE_treeB {l : List EntL} (h : EntsShort l) : entsE (treeB l) = (l, (treeB l).length, 0) := by
  have h1 := entsGo_app l [] ((treeB l).length + 1) h (by omega)
  rw [show treeB [] = [] from rfl, List.nil_append, List.nil_append, List.length_nil] at h1
  exact h1
theorem entsOk_short {l : List EntL} (h : entsOk l = true) : l.length ≤ 32 ∧ ∀ x, x ∈ l → (x.kind = 1 ∨ x.kind = 2) ∧ x.name.length ≤ 32 := by
  unfold entsOk at h
  simp only [Bool.and_eq_true, decide_eq_true_eq, List.all_eq_true, List.mem_range] at h
  refine ⟨h.1, fun x hx => ?_⟩
  obtain ⟨i, hi, rfl⟩ := List.getElem_of_mem hx
  have h2 := h.2 i hi
  unfold entOk nameV at h2
  rw [List.getD_eq_getElem?_getD, List.getElem?_eq_getElem hi, Option.getD_some] at h2
  simp only [Bool.and_eq_true, Bool.or_eq_true, decide_eq_true_eq, beq_iff_eq] at h2
  exact ⟨h2.1.2, h2.1.1.1.2⟩
theorem numL_len1 {n : Nat} (h : n < 128) : (numL n).length = 1 := by rw [numL_small h]; rfl
theorem treeB_small : ∀ {l : List EntL}, (∀ x, x ∈ l → (x.kind = 1 ∨ x.kind = 2) ∧ x.name.length ≤ 32) → (treeB l).length ≤ l.length * 66
  | [], _ => by simp [treeB]
  | x :: l, h => by
    have ih := treeB_small (l := l) fun y hy => h y (List.mem_cons_of_mem _ hy)
    have hx := h x List.mem_cons_self
    have h1 : (numL (clampN x.kind)).length = 1 := by
      rcases hx.1 with e | e <;> rw [e] <;> exact numL_len1 (by decide)
    have h2 : (textL x.name).length ≤ 33 := by
      unfold textL
      rw [clampN_idE (by omega), List.length_append, numL_len1 (by omega)]
      omega
    have h3 := x.id.h
    rw [treeB_cons, List.length_append, List.length_cons]
    unfold entB
    simp only [List.length_append]
    omega
theorem RdOk_tree {l : List EntL} (h : entsOk l = true) : RdOk 2 (treeB l) = true := by
  have hs := entsOk_short h
  have hl := treeB_small hs.2
  have he : entsE (treeB l) = (l, (treeB l).length, 0) := entsE_treeB fun x hx => by
    have := hs.2 x hx
    omega
  unfold RdOk
  rw [if_pos (by omega), if_neg (by decide), if_pos rfl, he]
  simp only [endE, h]
  simp
end Go.Proofs
end
section
open Go Go.Proofs Go.Sx Go.StP
namespace Go.Proofs
set_option maxRecDepth 10000
set_option maxHeartbeats 400000
set_option linter.unusedSimpArgs false
/-! ### Frames, read -/
theorem idxByte_run (s : List UInt8) (c : UInt8) (w : World) : (callFunc 90 #[vs s, v8 c]).run Try.prog w = .ok (.value (vi (Lib.indexByte s c))) w := by
  rw [run_callFunc_extern Try.func90 (by kernel_rfl) (by kernel_rfl) (by kernel_rfl) (e := Extern.BytealgIndexByte.indexByte) (by kernel_rfl)]
  have h := Lib.run_indexByteString (P := Try.prog) ⟨s.toArray⟩ (c.toNat : Int) w
  have e : ((c.toNat : Int)).toNat.toUInt8 = c := by simp
  rw [e] at h
  show ((Extern.BytealgIndexByte.indexByte #[.string ⟨s.toArray⟩, .int .u8 (c.toNat : Int)]).run Try.prog w).andThen _ = _
  rw [h]; rfl
theorem IndexByte_spec (s : List UInt8) (c : UInt8) (w : World) : Rets Try.prog 81 #[vs s, v8 c] w (fun v D => v = vi (Lib.indexByte s c) ∧ D = []) := by
  refine Rets.enterV Try.func81 rfl (rs := [.tmp 4]) Try.results81 Try.ntmps81 ?_
  simp only [List.size_toArray, List.length_cons, List.length_nil, Nat.reduceAdd, Nat.reduceSub, List.replicate_succ, List.replicate_zero, List.cons_append, List.nil_append]
  ((try with_reducible refine Cw.go [] ?_); (try simp (disch := (first | assumption | omega | (simp only [lenS, lenT, UInt64.reduceToNat]; try omega))) only [↓S0, S1, Try.fx, Nat.reduceAdd, Nat.reducePow, Int.reducePow, Nat.reduceBEq, ↓reduceIte, UInt8.reduceToNat, UInt16.reduceToNat, UInt32.reduceToNat, UInt64.reduceToNat, Int.reduceToNat]))
  refine Ow.callExt rfl rfl (fun w => idxByte_run s c w) ?_
  refine Ow.go rfl ?_
  simp (disch := (first | assumption | omega | (simp only [lenS, lenT, UInt64.reduceToNat]; try omega))) only [↓S0, S1, Try.fx, Nat.reduceAdd, Nat.reducePow, Int.reducePow, Nat.reduceBEq, ↓reduceIte, UInt8.reduceToNat, UInt16.reduceToNat, UInt32.reduceToNat, UInt64.reduceToNat, Int.reduceToNat]
  ((try with_reducible refine Cw.go [] ?_); (try simp (disch := (first | assumption | omega | (simp only [lenS, lenT, UInt64.reduceToNat]; try omega))) only [↓S0, S1, Try.fx, Nat.reduceAdd, Nat.reducePow, Int.reducePow, Nat.reduceBEq, ↓reduceIte, UInt8.reduceToNat, UInt16.reduceToNat, UInt32.reduceToNat, UInt64.reduceToNat, Int.reduceToNat]))
  refine ⟨_, (by simp (disch := (first | assumption | omega | (simp only [lenS, lenT, UInt64.reduceToNat]; try omega))) only [↓S0, S1, Try.fx, Nat.reduceAdd, Nat.reducePow, Int.reducePow, Nat.reduceBEq, ↓reduceIte, UInt8.reduceToNat, UInt16.reduceToNat, UInt32.reduceToNat, UInt64.reduceToNat, Int.reduceToNat]; rfl), trivial, ?_⟩
  rfl
/-- Where a text of one byte at most stands. -/
def idxT (s : List UInt8) : List UInt8 → Int
  | [] => 0
  | c :: _ => Lib.indexByte s c
theorem sliteIndex_spec (s x : List UInt8) (w : World) (hx : x.length ≤ 1) (hs : 2 ≤ s.length) (_hsl : s.length < 1099511627776) : Rets Try.prog 64 #[vs s, vs x] w (fun v D => v = vi (idxT s x) ∧ D = []) := by
  refine Rets.enterV Try.func64 rfl (rs := [.tmp 4]) Try.results64 Try.ntmps64 ?_
  simp only [List.size_toArray, List.length_cons, List.length_nil, Nat.reduceAdd, Nat.reduceSub, List.replicate_succ, List.replicate_zero, List.cons_append, List.nil_append]
  match x, hx with
  | [], _ =>
    have d1 : (((([] : List UInt8).length : Nat) : Int) == 0) = true := rfl
    ((try with_reducible refine Cw.go [] ?_); (try simp (disch := (first | assumption | omega | (simp only [lenS, lenT, UInt64.reduceToNat]; try omega))) only [↓S0, S1, Try.fx, Nat.reduceAdd, Nat.reducePow, Int.reducePow, Nat.reduceBEq, ↓reduceIte, UInt8.reduceToNat, UInt16.reduceToNat, UInt32.reduceToNat, UInt64.reduceToNat, Int.reduceToNat, d1]))
    refine ⟨_, (by simp (disch := (first | assumption | omega | (simp only [lenS, lenT, UInt64.reduceToNat]; try omega))) only [↓S0, S1, Try.fx, Nat.reduceAdd, Nat.reducePow, Int.reducePow, Nat.reduceBEq, ↓reduceIte, UInt8.reduceToNat, UInt16.reduceToNat, UInt32.reduceToNat, UInt64.reduceToNat, Int.reduceToNat]; rfl), trivial, ?_⟩
    rfl
  | [c], _ =>
    have d1 : ((([c] : List UInt8).length : Int) == 0) = false := rfl
    have d2 : ([c] == s) = false := beq_eq_false_iff_ne.2 fun e => by rw [← e] at hs; simp at hs
    have d3 : ((([c] : List UInt8).length : Int) == 1) = true := rfl
    have i0 : ([c] : List UInt8).getD 0 0 = c := rfl
    ((try with_reducible refine Cw.go [] ?_); (try simp (disch := (first | assumption | omega | (simp only [lenS, lenT, UInt64.reduceToNat]; try omega))) only [↓S0, S1, Try.fx, Nat.reduceAdd, Nat.reducePow, Int.reducePow, Nat.reduceBEq, ↓reduceIte, UInt8.reduceToNat, UInt16.reduceToNat, UInt32.reduceToNat, UInt64.reduceToNat, Int.reduceToNat, d1, d2, d3, i0]))
    refine Ow.callFV rfl Try.call81 (fun w' hw' => IndexByte_spec s c w') ?_
    refine Ow.go rfl ?_
    simp (disch := (first | assumption | omega | (simp only [lenS, lenT, UInt64.reduceToNat]; try omega))) only [↓S0, S1, Try.fx, Nat.reduceAdd, Nat.reducePow, Int.reducePow, Nat.reduceBEq, ↓reduceIte, UInt8.reduceToNat, UInt16.reduceToNat, UInt32.reduceToNat, UInt64.reduceToNat, Int.reduceToNat]
    ((try with_reducible refine Cw.go [] ?_); (try simp (disch := (first | assumption | omega | (simp only [lenS, lenT, UInt64.reduceToNat]; try omega))) only [↓S0, S1, Try.fx, Nat.reduceAdd, Nat.reducePow, Int.reducePow, Nat.reduceBEq, ↓reduceIte, UInt8.reduceToNat, UInt16.reduceToNat, UInt32.reduceToNat, UInt64.reduceToNat, Int.reduceToNat]))
    refine ⟨_, (by simp (disch := (first | assumption | omega | (simp only [lenS, lenT, UInt64.reduceToNat]; try omega))) only [↓S0, S1, Try.fx, Nat.reduceAdd, Nat.reducePow, Int.reducePow, Nat.reduceBEq, ↓reduceIte, UInt8.reduceToNat, UInt16.reduceToNat, UInt32.reduceToNat, UInt64.reduceToNat, Int.reduceToNat]; rfl), trivial, ?_⟩
    rfl
theorem Index_spec (s x : List UInt8) (w : World) (hx : x.length ≤ 1) (hs : 2 ≤ s.length) (hsl : s.length < 1099511627776) : Rets Try.prog 44 #[vs s, vs x] w (fun v D => v = vi (idxT s x) ∧ D = []) := by
  refine Rets.enterV Try.func44 rfl (rs := [.tmp 4]) Try.results44 Try.ntmps44 ?_
  simp only [List.size_toArray, List.length_cons, List.length_nil, Nat.reduceAdd, Nat.reduceSub, List.replicate_succ, List.replicate_zero, List.cons_append, List.nil_append]
  ((try with_reducible refine Cw.go [] ?_); (try simp (disch := (first | assumption | omega | (simp only [lenS, lenT, UInt64.reduceToNat]; try omega))) only [↓S0, S1, Try.fx, Nat.reduceAdd, Nat.reducePow, Int.reducePow, Nat.reduceBEq, ↓reduceIte, UInt8.reduceToNat, UInt16.reduceToNat, UInt32.reduceToNat, UInt64.reduceToNat, Int.reduceToNat]))
  refine Ow.callFV rfl Try.call64 (fun w' hw' => sliteIndex_spec s x w' hx hs hsl) ?_
  refine Ow.go rfl ?_
  simp (disch := (first | assumption | omega | (simp only [lenS, lenT, UInt64.reduceToNat]; try omega))) only [↓S0, S1, Try.fx, Nat.reduceAdd, Nat.reducePow, Int.reducePow, Nat.reduceBEq, ↓reduceIte, UInt8.reduceToNat, UInt16.reduceToNat, UInt32.reduceToNat, UInt64.reduceToNat, Int.reduceToNat]
  ((try with_reducible refine Cw.go [] ?_); (try simp (disch := (first | assumption | omega | (simp only [lenS, lenT, UInt64.reduceToNat]; try omega))) only [↓S0, S1, Try.fx, Nat.reduceAdd, Nat.reducePow, Int.reducePow, Nat.reduceBEq, ↓reduceIte, UInt8.reduceToNat, UInt16.reduceToNat, UInt32.reduceToNat, UInt64.reduceToNat, Int.reduceToNat]))
  refine ⟨_, (by simp (disch := (first | assumption | omega | (simp only [lenS, lenT, UInt64.reduceToNat]; try omega))) only [↓S0, S1, Try.fx, Nat.reduceAdd, Nat.reducePow, Int.reducePow, Nat.reduceBEq, ↓reduceIte, UInt8.reduceToNat, UInt16.reduceToNat, UInt32.reduceToNat, UInt64.reduceToNat, Int.reduceToNat]; rfl), trivial, ?_⟩
  rfl
abbrev letL : List UInt8 := [32, 98, 116, 99]
/-- The kind and the text of a frame, and whether it is one. -/
def frR (s : List UInt8) : List UInt8 × Nat × Int := rawR s 0 0 1
def frT (s : List UInt8) : List UInt8 × Nat × Int := textR s (frR s).2.1 (frR s).2.2 4096
def frK (s : List UInt8) : Int := idxT letL (frR s).1
def frOk (s : List UInt8) : Bool := endE s (frT s).2.1 (frT s).2.2 == 0 && RdOk (frK s) (frT s).1
theorem frR_len (s : List UInt8) : (frR s).1.length ≤ 1 := by
  unfold frR rawR
  rw [if_neg (by simp), if_neg (by decide)]
  split
  · simp
  · simp only [List.length_take, Int.toNat_one]; omega
def ReadFS (s : List UInt8) (v : Value) : Prop := v = .tuple #[obV (if frOk s then frK s else 0) (if frOk s then (frT s).1 else []), vi (if frOk s then 0 else 2)]
set_option linter.defProp false
def uPH_1 := And.intro (And.intro (And.intro (@load_ob) (@load_ob0)) (And.intro (@load_ob1) (@store_ob))) (And.intro (And.intro (@Sx.tup2_0) (@Sx.tup2_1)) (And.intro (@rdIn_v8) (@rdIn_vi)))
theorem ReadO_spec (s : List UInt8) (w : World) (hs : s.length < 100000) : Rets Try.prog 23 #[vs s] w (fun v D => ReadFS s v ∧ D = []) := by
  refine Rets.enterV Try.func23 rfl (rs := [.cell 2 31, .tmp 3]) Try.results23 Try.ntmps23 ?_
  simp only [List.size_toArray, List.length_cons, List.length_nil, Nat.reduceAdd, Nat.reduceSub, List.replicate_succ, List.replicate_zero, List.cons_append, List.nil_append]
  ((try with_reducible refine Cw.go [] ?_); (try simp (disch := (first | assumption | omega | (simp only [lenS, lenT, UInt64.reduceToNat]; try omega))) only [↓S0, S1, Try.fx, uPH_1, Nat.reduceAdd, Nat.reducePow, Int.reducePow, Nat.reduceBEq, ↓reduceIte, UInt8.reduceToNat, UInt16.reduceToNat, UInt32.reduceToNat, UInt64.reduceToNat, Int.reduceToNat]))
  refine Ow.alloc rfl rfl zrOb fun b2 hb2 hw2 => ?_
  simp only [cells_agg, List.nil_append, List.cons_append]
  refine Ow.go rfl ?_
  simp (disch := (first | assumption | omega | (simp only [lenS, lenT, UInt64.reduceToNat]; try omega))) only [↓S0, S1, Try.fx, uPH_1, Nat.reduceAdd, Nat.reducePow, Int.reducePow, Nat.reduceBEq, ↓reduceIte, UInt8.reduceToNat, UInt16.reduceToNat, UInt32.reduceToNat, UInt64.reduceToNat, Int.reduceToNat]
  refine Ow.callF rfl rfl Try.call43 (S := fun B v D => ∃ b', B ≤ b' ∧ v = vp b' 0 ∧ D = [(b', .cells #[vs s, vi 0, vi 0] 108 (0, 0))]) (fun w' hw' => RNew_spec s w') ?_
  rintro B v D hab hB ⟨bw, hbw, rfl, rfl⟩
  obtain ⟨h2B, -⟩ := hab
  refine ⟨_, Mrg.fresh (by intro q hq; simp only [keys, List.map_cons, List.map_nil, List.mem_singleton] at hq; omega), ?_⟩
  simp only [List.cons_append, List.nil_append]
  refine Ow.permL (M := [(bw, .cells #[vs s, vi 0, vi 0] 108 (0, 0)), (b2, Obj.cells #[vi 0, vs []] 31 (0, 0))]) (by classical exact List.perm_iff_count.2 fun a => by simp only [List.count_append, List.count_cons, List.count_nil] <;> omega) ?_
  have hne : bw ≠ b2 := by omega
  refine Ow.go rfl ?_
  simp (disch := (first | assumption | omega | (simp only [lenS, lenT, UInt64.reduceToNat]; try omega))) only [↓S0, S1, Try.fx, uPH_1, Nat.reduceAdd, Nat.reducePow, Int.reducePow, Nat.reduceBEq, ↓reduceIte, UInt8.reduceToNat, UInt16.reduceToNat, UInt32.reduceToNat, UInt64.reduceToNat, Int.reduceToNat]
  ((try with_reducible refine Cw.go [] ?_); (try simp (disch := (first | assumption | omega | (simp only [lenS, lenT, UInt64.reduceToNat]; try omega))) only [↓S0, S1, Try.fx, uPH_1, Nat.reduceAdd, Nat.reducePow, Int.reducePow, Nat.reduceBEq, ↓reduceIte, UInt8.reduceToNat, UInt16.reduceToNat, UInt32.reduceToNat, UInt64.reduceToNat, Int.reduceToNat]))
  refine Ow.callM rfl rfl Try.call45 (by simp [keys]) (fun w' hw' => RRaw_spec bw s 0 0 1 w' (Nat.zero_le _) (by omega) (hw'.has _ _ List.mem_cons_self)) ?_
  have r1 := rawR_le (s := s) (a := 0) (e := 0) (n := 1) (Nat.zero_le _)
  have r2 := frR_len s
  have hT : frT s = textR s (frR s).2.1 (frR s).2.2 4096 := rfl
  have hK : frK s = idxT letL (frR s).1 := rfl
  have hO : frOk s = (endE s (frT s).2.1 (frT s).2.2 == 0 && RdOk (frK s) (frT s).1) := rfl
  unfold ReadFS
  rw [show rawR s 0 0 1 = frR s from rfl] at r1 ⊢
  generalize frR s = p at *
  obtain ⟨x, a1, e1⟩ := p
  simp only at r1 r2 hT hK ⊢
  simp (disch := (first | assumption | omega | (simp only [lenS, lenT, UInt64.reduceToNat]; try omega))) only [setB_same, setB_other, List.cons_append, List.nil_append]
  refine Ow.go rfl ?_
  simp (disch := (first | assumption | omega | (simp only [lenS, lenT, UInt64.reduceToNat]; try omega))) only [↓S0, S1, Try.fx, uPH_1, Nat.reduceAdd, Nat.reducePow, Int.reducePow, Nat.reduceBEq, ↓reduceIte, UInt8.reduceToNat, UInt16.reduceToNat, UInt32.reduceToNat, UInt64.reduceToNat, Int.reduceToNat]
  refine Ow.callFV rfl Try.call44 (fun w' hw' => Index_spec letL x w' r2 (by decide) (by decide)) ?_
  rw [← hK]
  refine Ow.go rfl ?_
  simp (disch := (first | assumption | omega | (simp only [lenS, lenT, UInt64.reduceToNat]; try omega))) only [↓S0, S1, Try.fx, uPH_1, Nat.reduceAdd, Nat.reducePow, Int.reducePow, Nat.reduceBEq, ↓reduceIte, UInt8.reduceToNat, UInt16.reduceToNat, UInt32.reduceToNat, UInt64.reduceToNat, Int.reduceToNat]
  refine Ow.callM rfl rfl Try.call46 (by simp [keys]) (fun w' hw' => RText_spec bw s a1 e1 4096 w' r1.2 (by omega) (hw'.has _ _ List.mem_cons_self)) ?_
  rw [← hT]
  generalize frT s = q at *
  obtain ⟨tt, a2, e2⟩ := q
  simp only at hO ⊢
  simp (disch := (first | assumption | omega | (simp only [lenS, lenT, UInt64.reduceToNat]; try omega))) only [setB_same, setB_other, List.cons_append, List.nil_append]
  refine Ow.go rfl ?_
  simp (disch := (first | assumption | omega | (simp only [lenS, lenT, UInt64.reduceToNat]; try omega))) only [↓S0, S1, Try.fx, uPH_1, Nat.reduceAdd, Nat.reducePow, Int.reducePow, Nat.reduceBEq, ↓reduceIte, UInt8.reduceToNat, UInt16.reduceToNat, UInt32.reduceToNat, UInt64.reduceToNat, Int.reduceToNat]
  refine Ow.build (obV (frK s) tt) rfl (build_ob2 _ tt) ?_
  refine Ow.go rfl ?_
  simp (disch := (first | assumption | omega | (simp only [lenS, lenT, UInt64.reduceToNat]; try omega))) only [↓S0, S1, Try.fx, uPH_1, Nat.reduceAdd, Nat.reducePow, Int.reducePow, Nat.reduceBEq, ↓reduceIte, UInt8.reduceToNat, UInt16.reduceToNat, UInt32.reduceToNat, UInt64.reduceToNat, Int.reduceToNat]
  refine Ow.alloc rfl rfl zrOb fun b5 hb5 hw5 => ?_
  simp only [cells_agg, List.nil_append, List.cons_append]
  have h5w : bw < b5 := above_to hb5 (by simp [keys])
  have h52 : b2 < b5 := above_to hb5 (by simp [keys])
  refine Ow.go rfl ?_
  simp (disch := (first | assumption | omega | (simp only [lenS, lenT, UInt64.reduceToNat]; try omega))) only [↓S0, S1, Try.fx, uPH_1, Nat.reduceAdd, Nat.reducePow, Int.reducePow, Nat.reduceBEq, ↓reduceIte, UInt8.reduceToNat, UInt16.reduceToNat, UInt32.reduceToNat, UInt64.reduceToNat, Int.reduceToNat]
  refine Ow.callFV rfl Try.call47 (fun w' hw' => REndE_spec bw s a2 e2 w' (hw'.has _ _ List.mem_cons_self)) ?_
  by_cases he : endE s a2 e2 = 0
  · have d1 : (endE s a2 e2 != 0) = false := by simp [he]
    have d1' : (endE s a2 e2 == 0) = true := by simp [he]
    rw [d1', Bool.true_and] at hO
    refine Ow.go rfl ?_
    simp (disch := (first | assumption | omega | (simp only [lenS, lenT, UInt64.reduceToNat]; try omega))) only [↓S0, S1, Try.fx, uPH_1, Nat.reduceAdd, Nat.reducePow, Int.reducePow, Nat.reduceBEq, ↓reduceIte, UInt8.reduceToNat, UInt16.reduceToNat, UInt32.reduceToNat, UInt64.reduceToNat, Int.reduceToNat, d1]
    refine Ow.callFV rfl Try.call48 (fun w' hw' => RightO_spec (frK s) tt w') ?_
    rw [hO]
    cases hr : RdOk (frK s) tt
    · refine Ow.go rfl ?_
      simp (disch := (first | assumption | omega | (simp only [lenS, lenT, UInt64.reduceToNat]; try omega))) only [↓S0, S1, Try.fx, uPH_1, Nat.reduceAdd, Nat.reducePow, Int.reducePow, Nat.reduceBEq, ↓reduceIte, UInt8.reduceToNat, UInt16.reduceToNat, UInt32.reduceToNat, UInt64.reduceToNat, Int.reduceToNat]
      refine Ow.build (obV 0 []) rfl build_ob0 ?_
      refine Ow.go rfl ?_
      simp (disch := (first | assumption | omega | (simp only [lenS, lenT, UInt64.reduceToNat]; try omega))) only [↓S0, S1, Try.fx, uPH_1, Nat.reduceAdd, Nat.reducePow, Int.reducePow, Nat.reduceBEq, ↓reduceIte, UInt8.reduceToNat, UInt16.reduceToNat, UInt32.reduceToNat, UInt64.reduceToNat, Int.reduceToNat]
      ((try with_reducible refine Cw.go [] ?_); (try simp (disch := (first | assumption | omega | (simp only [lenS, lenT, UInt64.reduceToNat]; try omega))) only [↓S0, S1, Try.fx, uPH_1, Nat.reduceAdd, Nat.reducePow, Int.reducePow, Nat.reduceBEq, ↓reduceIte, UInt8.reduceToNat, UInt16.reduceToNat, UInt32.reduceToNat, UInt64.reduceToNat, Int.reduceToNat]))
      refine ⟨_, (by simp (disch := (first | assumption | omega | (simp only [lenS, lenT, UInt64.reduceToNat]; try omega))) only [↓S0, S1, Try.fx, uPH_1, Nat.reduceAdd, Nat.reducePow, Int.reducePow, Nat.reduceBEq, ↓reduceIte, UInt8.reduceToNat, UInt16.reduceToNat, UInt32.reduceToNat, UInt64.reduceToNat, Int.reduceToNat]; rfl), ⟨by omega, hw2, hw5, trivial⟩, ?_⟩
      rfl
    · refine Ow.go rfl ?_
      simp (disch := (first | assumption | omega | (simp only [lenS, lenT, UInt64.reduceToNat]; try omega))) only [↓S0, S1, Try.fx, uPH_1, Nat.reduceAdd, Nat.reducePow, Int.reducePow, Nat.reduceBEq, ↓reduceIte, UInt8.reduceToNat, UInt16.reduceToNat, UInt32.reduceToNat, UInt64.reduceToNat, Int.reduceToNat]
      ((try with_reducible refine Cw.go [] ?_); (try simp (disch := (first | assumption | omega | (simp only [lenS, lenT, UInt64.reduceToNat]; try omega))) only [↓S0, S1, Try.fx, uPH_1, Nat.reduceAdd, Nat.reducePow, Int.reducePow, Nat.reduceBEq, ↓reduceIte, UInt8.reduceToNat, UInt16.reduceToNat, UInt32.reduceToNat, UInt64.reduceToNat, Int.reduceToNat]))
      refine ⟨_, (by simp (disch := (first | assumption | omega | (simp only [lenS, lenT, UInt64.reduceToNat]; try omega))) only [↓S0, S1, Try.fx, uPH_1, Nat.reduceAdd, Nat.reducePow, Int.reducePow, Nat.reduceBEq, ↓reduceIte, UInt8.reduceToNat, UInt16.reduceToNat, UInt32.reduceToNat, UInt64.reduceToNat, Int.reduceToNat]; rfl), ⟨by omega, hw2, hw5, trivial⟩, ?_⟩
      rfl
  · have d1 : (endE s a2 e2 != 0) = true := by simpa using he
    have d1' : (endE s a2 e2 == 0) = false := by simpa using he
    rw [d1', Bool.false_and] at hO
    rw [hO]
    refine Ow.go rfl ?_
    simp (disch := (first | assumption | omega | (simp only [lenS, lenT, UInt64.reduceToNat]; try omega))) only [↓S0, S1, Try.fx, uPH_1, Nat.reduceAdd, Nat.reducePow, Int.reducePow, Nat.reduceBEq, ↓reduceIte, UInt8.reduceToNat, UInt16.reduceToNat, UInt32.reduceToNat, UInt64.reduceToNat, Int.reduceToNat, d1]
    refine Ow.build (obV 0 []) rfl build_ob0 ?_
    refine Ow.go rfl ?_
    simp (disch := (first | assumption | omega | (simp only [lenS, lenT, UInt64.reduceToNat]; try omega))) only [↓S0, S1, Try.fx, uPH_1, Nat.reduceAdd, Nat.reducePow, Int.reducePow, Nat.reduceBEq, ↓reduceIte, UInt8.reduceToNat, UInt16.reduceToNat, UInt32.reduceToNat, UInt64.reduceToNat, Int.reduceToNat]
    ((try with_reducible refine Cw.go [] ?_); (try simp (disch := (first | assumption | omega | (simp only [lenS, lenT, UInt64.reduceToNat]; try omega))) only [↓S0, S1, Try.fx, uPH_1, Nat.reduceAdd, Nat.reducePow, Int.reducePow, Nat.reduceBEq, ↓reduceIte, UInt8.reduceToNat, UInt16.reduceToNat, UInt32.reduceToNat, UInt64.reduceToNat, Int.reduceToNat]))
    refine ⟨_, (by simp (disch := (first | assumption | omega | (simp only [lenS, lenT, UInt64.reduceToNat]; try omega))) only [↓S0, S1, Try.fx, uPH_1, Nat.reduceAdd, Nat.reducePow, Int.reducePow, Nat.reduceBEq, ↓reduceIte, UInt8.reduceToNat, UInt16.reduceToNat, UInt32.reduceToNat, UInt64.reduceToNat, Int.reduceToNat]; rfl), ⟨by omega, hw2, hw5, trivial⟩, ?_⟩
    rfl
end Go.Proofs
end
section
open Go Go.Proofs Go.Sx Go.StP
namespace Go.Proofs
set_option maxRecDepth 10000
set_option maxHeartbeats 400000
set_option linter.unusedSimpArgs false
/-! ### Frames, as the law reads them -/
def fkC (c : UInt8) : Int := if c = 98 then 1 else if c = 116 then 2 else if c = 99 then 3 else 0
def lfT (r : List UInt8) : List UInt8 × Nat × Int := textR r 0 0 4096
def lfK (s : List UInt8) : Int := match s with | [] => 0 | c :: _ => fkC c
def lfOk (s : List UInt8) : Bool := lfK s != 0 && endE (s.drop 1) (lfT (s.drop 1)).2.1 (lfT (s.drop 1)).2.2 == 0 && rightL (lfK s) (lfT (s.drop 1)).1
def ReadLS (s : List UInt8) (v : Value) : Prop := v = .tuple #[obV (if lfOk s then lfK s else 0) (if lfOk s then (lfT (s.drop 1)).1 else []), .bool (lfOk s)]
theorem store_ob0 (k k' : Int) (t : List UInt8) (a : Bool) (E : TypeId) : storeV (some (a, 1)) (some (.cells #[vi k', vs t] E (0, 0))) 0 (vi k) = some (.cells #[vi k, vs t] E (0, 0)) := (rfl)
theorem store_ob1 (k : Int) (t t' : List UInt8) (a : Bool) (E : TypeId) : storeV (some (a, 1)) (some (.cells #[vi k, vs t'] E (0, 0))) 1 (vs t) = some (.cells #[vi k, vs t] E (0, 0)) := (rfl)
set_option linter.defProp false
def uPI_1 := And.intro (And.intro (And.intro (@load_ob) (@load_ob0)) (And.intro (@load_ob1) (And.intro (@store_ob) (@store_ob0)))) (And.intro (And.intro (@store_ob1) (@Sx.tup2_0)) (And.intro (@Sx.tup2_1) (And.intro (@rdIn_v8) (@rdIn_vi))))
theorem ReadL_spec (s : List UInt8) (w : World) (hs : s.length < 100000) : Rets Try.prog 24 #[vs s] w (fun v D => ReadLS s v ∧ D = []) := by
  refine Rets.enterV Try.func24 rfl (rs := [.cell 2 31, .tmp 3]) Try.results24 Try.ntmps24 ?_
  simp only [List.size_toArray, List.length_cons, List.length_nil, Nat.reduceAdd, Nat.reduceSub, List.replicate_succ, List.replicate_zero, List.cons_append, List.nil_append]
  ((try with_reducible refine Cw.go [1000004] ?_); (try simp (disch := (first | assumption | omega | (simp only [lenS, lenT, UInt64.reduceToNat]; try omega))) only [↓S0, S1, Try.fx, uPI_1, Nat.reduceAdd, Nat.reducePow, Int.reducePow, Nat.reduceBEq, ↓reduceIte, UInt8.reduceToNat, UInt16.reduceToNat, UInt32.reduceToNat, UInt64.reduceToNat, Int.reduceToNat]))
  refine Ow.alloc rfl rfl zrOb fun b2 hb2 hw2 => ?_
  simp only [cells_agg, List.nil_append, List.cons_append]
  refine Ow.go rfl ?_
  simp (disch := (first | assumption | omega | (simp only [lenS, lenT, UInt64.reduceToNat]; try omega))) only [↓S0, S1, Try.fx, uPI_1, Nat.reduceAdd, Nat.reducePow, Int.reducePow, Nat.reduceBEq, ↓reduceIte, UInt8.reduceToNat, UInt16.reduceToNat, UInt32.reduceToNat, UInt64.reduceToNat, Int.reduceToNat]
  by_cases hl : s.length = 0
  · obtain rfl : s = [] := List.eq_nil_of_length_eq_zero hl
    have d1 : (((([] : List UInt8).length : Nat) : Int) == 0) = true := rfl
    ((try with_reducible refine Cw.go [] ?_); (try simp (disch := (first | assumption | omega | (simp only [lenS, lenT, UInt64.reduceToNat]; try omega))) only [↓S0, S1, Try.fx, uPI_1, Nat.reduceAdd, Nat.reducePow, Int.reducePow, Nat.reduceBEq, ↓reduceIte, UInt8.reduceToNat, UInt16.reduceToNat, UInt32.reduceToNat, UInt64.reduceToNat, Int.reduceToNat, d1]))
    refine Ow.build (obV 0 []) rfl build_ob0 ?_
    refine Ow.go rfl ?_
    simp (disch := (first | assumption | omega | (simp only [lenS, lenT, UInt64.reduceToNat]; try omega))) only [↓S0, S1, Try.fx, uPI_1, Nat.reduceAdd, Nat.reducePow, Int.reducePow, Nat.reduceBEq, ↓reduceIte, UInt8.reduceToNat, UInt16.reduceToNat, UInt32.reduceToNat, UInt64.reduceToNat, Int.reduceToNat]
    ((try with_reducible refine Cw.go [] ?_); (try simp (disch := (first | assumption | omega | (simp only [lenS, lenT, UInt64.reduceToNat]; try omega))) only [↓S0, S1, Try.fx, uPI_1, Nat.reduceAdd, Nat.reducePow, Int.reducePow, Nat.reduceBEq, ↓reduceIte, UInt8.reduceToNat, UInt16.reduceToNat, UInt32.reduceToNat, UInt64.reduceToNat, Int.reduceToNat]))
    refine ⟨_, (by simp (disch := (first | assumption | omega | (simp only [lenS, lenT, UInt64.reduceToNat]; try omega))) only [↓S0, S1, Try.fx, uPI_1, Nat.reduceAdd, Nat.reducePow, Int.reducePow, Nat.reduceBEq, ↓reduceIte, UInt8.reduceToNat, UInt16.reduceToNat, UInt32.reduceToNat, UInt64.reduceToNat, Int.reduceToNat]; rfl), ⟨hw2, trivial⟩, ?_⟩
    rfl
  · have d1 : ((s.length : Int) == 0) = false := beq_eq_false_iff_ne.2 (by omega)
    obtain ⟨c, r, rfl⟩ : ∃ c r, s = c :: r := by cases s with | nil => exact absurd rfl hl | cons c r => exact ⟨c, r, rfl⟩
    have hd1 : (c :: r).drop 1 = r := rfl
    have g0 : (c :: r).getD 0 0 = c := rfl
    have hlen : (c :: r).length = r.length + 1 := rfl
    have hrl : r.length < 100000 := by omega
    ((try with_reducible refine Cw.go [] ?_); (try simp (disch := (first | assumption | omega | (simp only [lenS, lenT, UInt64.reduceToNat]; try omega))) only [↓S0, S1, Try.fx, uPI_1, Nat.reduceAdd, Nat.reducePow, Int.reducePow, Nat.reduceBEq, ↓reduceIte, UInt8.reduceToNat, UInt16.reduceToNat, UInt32.reduceToNat, UInt64.reduceToNat, Int.reduceToNat, d1]))
    refine Ow.build (obV 0 []) rfl build_ob0 ?_
    refine Ow.go rfl ?_
    simp (disch := (first | assumption | omega | (simp only [lenS, lenT, UInt64.reduceToNat]; try omega))) only [↓S0, S1, Try.fx, uPI_1, Nat.reduceAdd, Nat.reducePow, Int.reducePow, Nat.reduceBEq, ↓reduceIte, UInt8.reduceToNat, UInt16.reduceToNat, UInt32.reduceToNat, UInt64.reduceToNat, Int.reduceToNat]
    refine Ow.alloc rfl rfl zrOb fun b4 hb4 hw4 => ?_
    simp only [cells_agg, List.nil_append, List.cons_append]
    have h24 : b2 < b4 := above_to hb4 (by simp [keys])
    have ht := textE_le (s := r) (a := 0) (e := 0) (most := 4096) (Nat.zero_le _)
    have hLT : lfT r = textR r 0 0 4096 := rfl
    have hO : lfOk (c :: r) = (fkC c != 0 && endE r (lfT r).2.1 (lfT r).2.2 == 0 && rightL (fkC c) (lfT r).1) := rfl
    have hK : lfK (c :: r) = fkC c := rfl
    unfold ReadLS
    rw [hK, hd1]
    have htx : (textR r 0 0 4096).1.length ≤ r.length := textE_len _ _ _ _
    have hf0 : fkC c = 0 ∨ fkC c = 1 ∨ fkC c = 2 ∨ fkC c = 3 := by
      unfold fkC; split <;> (try split) <;> (try split) <;> simp
    refine Ow.go rfl ?_
    simp (disch := (first | assumption | omega | (simp only [lenS, lenT, UInt64.reduceToNat]; try omega))) only [↓S0, S1, Try.fx, uPI_1, Nat.reduceAdd, Nat.reducePow, Int.reducePow, Nat.reduceBEq, ↓reduceIte, UInt8.reduceToNat, UInt16.reduceToNat, UInt32.reduceToNat, UInt64.reduceToNat, Int.reduceToNat]
    ((try with_reducible refine Cw.go [1000004] ?_); (try simp (disch := (first | assumption | omega | (simp only [lenS, lenT, UInt64.reduceToNat]; try omega))) only [↓S0, S1, Try.fx, uPI_1, Nat.reduceAdd, Nat.reducePow, Int.reducePow, Nat.reduceBEq, ↓reduceIte, UInt8.reduceToNat, UInt16.reduceToNat, UInt32.reduceToNat, UInt64.reduceToNat, Int.reduceToNat, g0]))
    refine Cw.cut (G := Int) 40 (fun g => [(0, vs (c :: r)), (2, vp b2 0), (3, .bool false), (4, vp b4 0)]) (fun g => [(b2, Obj.cells #[vi 0, vs []] 31 (0, 0)), (b4, Obj.cells #[vi g, vs []] 31 (0, 0))]) (fun g => g = fkC c ∧ g ≠ 0) ?_ ?_
    · by_cases c1 : c = 98
      · subst c1
        ((try with_reducible refine Cw.go [] ?_); (try simp (disch := (first | assumption | omega | (simp only [lenS, lenT, UInt64.reduceToNat]; try omega))) only [↓S0, S1, Try.fx, uPI_1, Nat.reduceAdd, Nat.reducePow, Int.reducePow, Nat.reduceBEq, ↓reduceIte, UInt8.reduceToNat, UInt16.reduceToNat, UInt32.reduceToNat, UInt64.reduceToNat, Int.reduceToNat, g0]))
        exact CutM.mk 1 ⟨rfl, by decide⟩ rfl rfl
      · have e1 : (c == 98) = false := by simpa using c1
        by_cases c2 : c = 116
        · subst c2
          ((try with_reducible refine Cw.go [] ?_); (try simp (disch := (first | assumption | omega | (simp only [lenS, lenT, UInt64.reduceToNat]; try omega))) only [↓S0, S1, Try.fx, uPI_1, Nat.reduceAdd, Nat.reducePow, Int.reducePow, Nat.reduceBEq, ↓reduceIte, UInt8.reduceToNat, UInt16.reduceToNat, UInt32.reduceToNat, UInt64.reduceToNat, Int.reduceToNat, e1, g0]))
          exact CutM.mk 2 ⟨rfl, by decide⟩ rfl rfl
        · have e2 : (c == 116) = false := by simpa using c2
          by_cases c3 : c = 99
          · subst c3
            ((try with_reducible refine Cw.go [] ?_); (try simp (disch := (first | assumption | omega | (simp only [lenS, lenT, UInt64.reduceToNat]; try omega))) only [↓S0, S1, Try.fx, uPI_1, Nat.reduceAdd, Nat.reducePow, Int.reducePow, Nat.reduceBEq, ↓reduceIte, UInt8.reduceToNat, UInt16.reduceToNat, UInt32.reduceToNat, UInt64.reduceToNat, Int.reduceToNat, e1, e2, g0]))
            exact CutM.mk 3 ⟨rfl, by decide⟩ rfl rfl
          · have e3 : (c == 99) = false := by simpa using c3
            have hk : fkC c = 0 := by unfold fkC; rw [if_neg c1, if_neg c2, if_neg c3]
            rw [hk] at hO ⊢
            rw [hO]
            ((try with_reducible refine Cw.go [] ?_); (try simp (disch := (first | assumption | omega | (simp only [lenS, lenT, UInt64.reduceToNat]; try omega))) only [↓S0, S1, Try.fx, uPI_1, Nat.reduceAdd, Nat.reducePow, Int.reducePow, Nat.reduceBEq, ↓reduceIte, UInt8.reduceToNat, UInt16.reduceToNat, UInt32.reduceToNat, UInt64.reduceToNat, Int.reduceToNat, e1, e2, e3, g0]))
            refine Ow.build (obV 0 []) rfl build_ob0 ?_
            refine Ow.go rfl ?_
            simp (disch := (first | assumption | omega | (simp only [lenS, lenT, UInt64.reduceToNat]; try omega))) only [↓S0, S1, Try.fx, uPI_1, Nat.reduceAdd, Nat.reducePow, Int.reducePow, Nat.reduceBEq, ↓reduceIte, UInt8.reduceToNat, UInt16.reduceToNat, UInt32.reduceToNat, UInt64.reduceToNat, Int.reduceToNat]
            ((try with_reducible refine Cw.go [] ?_); (try simp (disch := (first | assumption | omega | (simp only [lenS, lenT, UInt64.reduceToNat]; try omega))) only [↓S0, S1, Try.fx, uPI_1, Nat.reduceAdd, Nat.reducePow, Int.reducePow, Nat.reduceBEq, ↓reduceIte, UInt8.reduceToNat, UInt16.reduceToNat, UInt32.reduceToNat, UInt64.reduceToNat, Int.reduceToNat]))
            refine ⟨_, (by simp (disch := (first | assumption | omega | (simp only [lenS, lenT, UInt64.reduceToNat]; try omega))) only [↓S0, S1, Try.fx, uPI_1, Nat.reduceAdd, Nat.reducePow, Int.reducePow, Nat.reduceBEq, ↓reduceIte, UInt8.reduceToNat, UInt16.reduceToNat, UInt32.reduceToNat, UInt64.reduceToNat, Int.reduceToNat]; rfl), ⟨hw2, hw4, trivial⟩, ?_⟩
            rfl
    · intro g j hg
      simp only [allF_s, allF_0, pin, setF_0, setF_s, Nat.reduceAdd]
      obtain ⟨rfl, hk0⟩ := hg
      have d0 : (fkC c != 0) = true := by simpa using hk0
      rw [d0, Bool.true_and] at hO
      generalize fkC c = k at hO ⊢
      ((try with_reducible refine Cw.go [] ?_); (try simp (disch := (first | assumption | omega | (simp only [lenS, lenT, UInt64.reduceToNat]; try omega))) only [↓S0, S1, Try.fx, uPI_1, Nat.reduceAdd, Nat.reducePow, Int.reducePow, Nat.reduceBEq, ↓reduceIte, UInt8.reduceToNat, UInt16.reduceToNat, UInt32.reduceToNat, UInt64.reduceToNat, Int.reduceToNat, hd1]))
      refine Ow.build (.agg #[vs r, vi 0, vi 0]) rfl (build_rdr r) ?_
      refine Ow.go rfl ?_
      simp (disch := (first | assumption | omega | (simp only [lenS, lenT, UInt64.reduceToNat]; try omega))) only [↓S0, S1, Try.fx, uPI_1, Nat.reduceAdd, Nat.reducePow, Int.reducePow, Nat.reduceBEq, ↓reduceIte, UInt8.reduceToNat, UInt16.reduceToNat, UInt32.reduceToNat, UInt64.reduceToNat, Int.reduceToNat]
      refine Ow.box rfl rfl fun br hbr hwr => ?_
      have h2r : b2 < br := above_to hbr (by simp [keys])
      have h4r : b4 < br := above_to hbr (by simp [keys])
      simp only [ev_tmp, getF_0, getF_s, cells_agg, List.nil_append, List.cons_append]
      refine Ow.go rfl ?_
      simp (disch := (first | assumption | omega | (simp only [lenS, lenT, UInt64.reduceToNat]; try omega))) only [↓S0, S1, Try.fx, uPI_1, Nat.reduceAdd, Nat.reducePow, Int.reducePow, Nat.reduceBEq, ↓reduceIte, UInt8.reduceToNat, UInt16.reduceToNat, UInt32.reduceToNat, UInt64.reduceToNat, Int.reduceToNat]
      refine Ow.callM rfl rfl Try.call49 (by simp [keys]) (fun w' hw' => refText_spec br r 0 0 4096 w' (Nat.zero_le _) (by omega) (hw'.has _ _ (by simp))) ?_
      rw [← hLT] at ht htx ⊢
      generalize lfT r = q at *
      obtain ⟨tt, a2, e2⟩ := q
      simp only at hO ht htx ⊢
      simp (disch := (first | assumption | omega | (simp only [lenS, lenT, UInt64.reduceToNat]; try omega))) only [setB_same, setB_other, List.cons_append, List.nil_append]
      refine Ow.go rfl ?_
      simp (disch := (first | assumption | omega | (simp only [lenS, lenT, UInt64.reduceToNat]; try omega))) only [↓S0, S1, Try.fx, uPI_1, Nat.reduceAdd, Nat.reducePow, Int.reducePow, Nat.reduceBEq, ↓reduceIte, UInt8.reduceToNat, UInt16.reduceToNat, UInt32.reduceToNat, UInt64.reduceToNat, Int.reduceToNat]
      refine Ow.callFV rfl Try.call50 (fun w' hw' => refEndE_spec br r a2 e2 w' (hw'.has _ _ (by simp))) ?_
      by_cases he : endE r a2 e2 = 0
      · have d5 : (endE r a2 e2 != 0) = false := by simp [he]
        have d6 : (endE r a2 e2 == 0) = true := by simp [he]
        rw [d6, Bool.true_and] at hO
        rw [hO]
        refine Ow.go rfl ?_
        simp (disch := (first | assumption | omega | (simp only [lenS, lenT, UInt64.reduceToNat]; try omega))) only [↓S0, S1, Try.fx, uPI_1, Nat.reduceAdd, Nat.reducePow, Int.reducePow, Nat.reduceBEq, ↓reduceIte, UInt8.reduceToNat, UInt16.reduceToNat, UInt32.reduceToNat, UInt64.reduceToNat, Int.reduceToNat, d5]
        refine Ow.callFV rfl Try.call51 (fun w' hw' => RightL_spec k tt w') ?_
        cases hr : rightL k tt
        · refine Ow.go rfl ?_
          simp (disch := (first | assumption | omega | (simp only [lenS, lenT, UInt64.reduceToNat]; try omega))) only [↓S0, S1, Try.fx, uPI_1, Nat.reduceAdd, Nat.reducePow, Int.reducePow, Nat.reduceBEq, ↓reduceIte, UInt8.reduceToNat, UInt16.reduceToNat, UInt32.reduceToNat, UInt64.reduceToNat, Int.reduceToNat]
          refine Ow.build (obV 0 []) rfl build_ob0 ?_
          refine Ow.go rfl ?_
          simp (disch := (first | assumption | omega | (simp only [lenS, lenT, UInt64.reduceToNat]; try omega))) only [↓S0, S1, Try.fx, uPI_1, Nat.reduceAdd, Nat.reducePow, Int.reducePow, Nat.reduceBEq, ↓reduceIte, UInt8.reduceToNat, UInt16.reduceToNat, UInt32.reduceToNat, UInt64.reduceToNat, Int.reduceToNat]
          ((try with_reducible refine Cw.go [] ?_); (try simp (disch := (first | assumption | omega | (simp only [lenS, lenT, UInt64.reduceToNat]; try omega))) only [↓S0, S1, Try.fx, uPI_1, Nat.reduceAdd, Nat.reducePow, Int.reducePow, Nat.reduceBEq, ↓reduceIte, UInt8.reduceToNat, UInt16.reduceToNat, UInt32.reduceToNat, UInt64.reduceToNat, Int.reduceToNat]))
          refine ⟨_, (by simp (disch := (first | assumption | omega | (simp only [lenS, lenT, UInt64.reduceToNat]; try omega))) only [↓S0, S1, Try.fx, uPI_1, Nat.reduceAdd, Nat.reducePow, Int.reducePow, Nat.reduceBEq, ↓reduceIte, UInt8.reduceToNat, UInt16.reduceToNat, UInt32.reduceToNat, UInt64.reduceToNat, Int.reduceToNat]; rfl), ⟨hw2, hw4, hwr, trivial⟩, ?_⟩
          rfl
        · refine Ow.go rfl ?_
          simp (disch := (first | assumption | omega | (simp only [lenS, lenT, UInt64.reduceToNat]; try omega))) only [↓S0, S1, Try.fx, uPI_1, Nat.reduceAdd, Nat.reducePow, Int.reducePow, Nat.reduceBEq, ↓reduceIte, UInt8.reduceToNat, UInt16.reduceToNat, UInt32.reduceToNat, UInt64.reduceToNat, Int.reduceToNat]
          ((try with_reducible refine Cw.go [] ?_); (try simp (disch := (first | assumption | omega | (simp only [lenS, lenT, UInt64.reduceToNat]; try omega))) only [↓S0, S1, Try.fx, uPI_1, Nat.reduceAdd, Nat.reducePow, Int.reducePow, Nat.reduceBEq, ↓reduceIte, UInt8.reduceToNat, UInt16.reduceToNat, UInt32.reduceToNat, UInt64.reduceToNat, Int.reduceToNat]))
          refine ⟨_, (by simp (disch := (first | assumption | omega | (simp only [lenS, lenT, UInt64.reduceToNat]; try omega))) only [↓S0, S1, Try.fx, uPI_1, Nat.reduceAdd, Nat.reducePow, Int.reducePow, Nat.reduceBEq, ↓reduceIte, UInt8.reduceToNat, UInt16.reduceToNat, UInt32.reduceToNat, UInt64.reduceToNat, Int.reduceToNat]; rfl), ⟨hw2, hw4, hwr, trivial⟩, ?_⟩
          rfl
      · have d5 : (endE r a2 e2 != 0) = true := by simpa using he
        have d6 : (endE r a2 e2 == 0) = false := by simpa using he
        rw [d6, Bool.false_and] at hO
        rw [hO]
        refine Ow.go rfl ?_
        simp (disch := (first | assumption | omega | (simp only [lenS, lenT, UInt64.reduceToNat]; try omega))) only [↓S0, S1, Try.fx, uPI_1, Nat.reduceAdd, Nat.reducePow, Int.reducePow, Nat.reduceBEq, ↓reduceIte, UInt8.reduceToNat, UInt16.reduceToNat, UInt32.reduceToNat, UInt64.reduceToNat, Int.reduceToNat, d5]
        refine Ow.build (obV 0 []) rfl build_ob0 ?_
        refine Ow.go rfl ?_
        simp (disch := (first | assumption | omega | (simp only [lenS, lenT, UInt64.reduceToNat]; try omega))) only [↓S0, S1, Try.fx, uPI_1, Nat.reduceAdd, Nat.reducePow, Int.reducePow, Nat.reduceBEq, ↓reduceIte, UInt8.reduceToNat, UInt16.reduceToNat, UInt32.reduceToNat, UInt64.reduceToNat, Int.reduceToNat]
        ((try with_reducible refine Cw.go [] ?_); (try simp (disch := (first | assumption | omega | (simp only [lenS, lenT, UInt64.reduceToNat]; try omega))) only [↓S0, S1, Try.fx, uPI_1, Nat.reduceAdd, Nat.reducePow, Int.reducePow, Nat.reduceBEq, ↓reduceIte, UInt8.reduceToNat, UInt16.reduceToNat, UInt32.reduceToNat, UInt64.reduceToNat, Int.reduceToNat]))
        refine ⟨_, (by simp (disch := (first | assumption | omega | (simp only [lenS, lenT, UInt64.reduceToNat]; try omega))) only [↓S0, S1, Try.fx, uPI_1, Nat.reduceAdd, Nat.reducePow, Int.reducePow, Nat.reduceBEq, ↓reduceIte, UInt8.reduceToNat, UInt16.reduceToNat, UInt32.reduceToNat, UInt64.reduceToNat, Int.reduceToNat]; rfl), ⟨hw2, hw4, hwr, trivial⟩, ?_⟩
        rfl
end Go.Proofs
end
section
open Go Go.Proofs Go.Sx Go.StP
namespace Go.Proofs
set_option maxRecDepth 10000
set_option maxHeartbeats 400000
set_option linter.unusedSimpArgs false
/-! ### Children -/
structure ChildL where
  id : IdL
  kind : Int
def chdC (r : ChildL) : List Value := r.id.l.map v8 ++ ([vi r.kind])
def chd0 : ChildL := ⟨id0, 0⟩
theorem chdC_len (r : ChildL) : (chdC r).length = 33 := by simp [chdC, r.id.h]
theorem cells_chd (r : ChildL) : Value.cells (.agg (chdC r).toArray) = (chdC r).toArray := cells_agg _
theorem chdC_one (r : ChildL) : (chdC r).all Value.oneCell' = true := by
  unfold chdC
  simp only [List.all_append, List.all_cons, List.all_nil, all_v8, Bool.and_true, Bool.true_and]
  rfl
theorem zrChd : zeroV Try.prog 61 = some (.agg (chdC chd0).toArray) := id (by kernel_rfl)
theorem aggChd : aggT Try.prog 61 = some (true, 33) := id (by kernel_rfl)
theorem chd_at0 (r : ChildL) : chdC r = ([] : List Value) ++ ((r.id.l.map v8) ++ ([vi r.kind])) := by
  unfold chdC; simp only [List.append_assoc, List.nil_append, List.append_nil]
theorem chd_p0 (r : ChildL) : partV (true, 32) (chdC r).toArray 0 = some (Value.agg (a8 r.id.l)) := by
  rw [chd_at0, part_agg _ _ _ (by simp) (by simp [r.id.h])]; rfl
theorem chd_at1 (r : ChildL) : chdC r = ((r.id.l.map v8)) ++ (([vi r.kind]) ++ (([] : List Value))) := by
  unfold chdC; simp only [List.append_assoc, List.nil_append, List.append_nil]
theorem chd_p1 (r : ChildL) : partV (false, 1) (chdC r).toArray 32 = some (vi r.kind) := by
  rw [chd_at1]; exact part_one _ _ _ (by simp [r.id.h])
theorem stoodChd : Try.prog.stoodInHeld 61 = false := by kernel_rfl
theorem guardChd : Try.prog.eqGuardType Try.prog.depth 61 = false := by kernel_rfl
theorem eqDChd (r r' : ChildL) : eqD Try.prog 8 61 (.agg (chdC r).toArray) (.agg (chdC r').toArray) = some ((r.id.l == r'.id.l) && (r.kind == r'.kind)) := by
  have hd : ∀ (a b : IdL), eqD Try.prog 7 24 (.agg (a8 a.l)) (.agg (a8 b.l)) = some (a.l == b.l) := fun a b => eqD_a8 (d := 5) Try.underlying24 Try.underlying5 Try.ag5 _ _ a.h b.h
  have hi : ∀ (a b : Int), eqD Try.prog 7 3 (vi a) (vi b) = some (a == b) := by
    intro a b; unfold eqD; rw [Try.underlying3]; rfl
  have agd : aggT Try.prog 24 = some (true, 32) := id (by kernel_rfl)
  have agi : aggT Try.prog 3 = some (false, 1) := id (by kernel_rfl)
  unfold eqD
  rw [Try.underlying61]
  simp only
  rw [stoodChd]
  simp only [Bool.false_eq_true, ↓reduceIte, eqFieldsV, eqPartV, agd, agi, chd_p0, chd_p1, hd, hi]
  cases (r.id.l == r'.id.l) <;> cases (r.kind == r'.kind) <;> simp
theorem eqChd (r r' : ChildL) : binX Try.prog .eql 61 (.agg (chdC r).toArray) (.agg (chdC r').toArray) = some (.bool ((r.id.l == r'.id.l) && (r.kind == r'.kind))) := by
  unfold binX eqX; rw [guardChd]; simp [plainV, eqDChd]
theorem build_chd (r : ChildL) : buildV (plcT Try.prog 61) (zeroV Try.prog 61) [(0, Value.agg (a8 r.id.l)), (1, vi r.kind)] = some (.agg (chdC r).toArray) := by
  have hp : plcT Try.prog 61 = some [(0, 32), (32, 1)] := id (by kernel_rfl)
  rw [hp, zrChd]
  have e0 : (chdC chd0).toArray = (([] : List Value) ++ ((chd0.id.l.map v8) ++ ([vi chd0.kind]))).toArray := by congr 1 <;> simp only [chdC, List.append_assoc, List.nil_append, List.append_nil]
  have q0 : putC (([] : List Value) ++ ((chd0.id.l.map v8) ++ ([vi chd0.kind]))).toArray 0 (r.id.l.map v8) = (([] : List Value) ++ ((r.id.l.map v8) ++ ([vi chd0.kind]))).toArray := put_mid _ _ _ _ (by simp) (by simp [chd0.id.h, r.id.h])
  have s0 : (([] : List Value) ++ ((chd0.id.l.map v8) ++ ([vi chd0.kind]))).toArray.size = 33 := by simp [r.id.h, chd0.id.h]
  have z0 : (Value.cells (Value.agg (a8 r.id.l))).toList = r.id.l.map v8 := by rw [cells_agg]; rfl
  have y0 : (Value.cells (Value.agg (a8 r.id.l))).size = 32 := by rw [← Array.length_toList, z0]; simp [r.id.h]
  have e1 : (([] : List Value) ++ ((r.id.l.map v8) ++ ([vi chd0.kind]))).toArray = (((r.id.l.map v8)) ++ (([vi chd0.kind]) ++ (([] : List Value)))).toArray := by congr 1 <;> simp only [chdC, List.append_assoc, List.nil_append, List.append_nil]
  have q1 : putC (((r.id.l.map v8)) ++ (([vi chd0.kind]) ++ (([] : List Value)))).toArray 32 ([vi r.kind]) = (((r.id.l.map v8)) ++ (([vi r.kind]) ++ (([] : List Value)))).toArray := put_mid _ _ _ _ (by simp [r.id.h]) (rfl)
  have s1 : (((r.id.l.map v8)) ++ (([vi chd0.kind]) ++ (([] : List Value)))).toArray.size = 33 := by simp [r.id.h, chd0.id.h]
  have z1 : (Value.cells (vi r.kind)).toList = [vi r.kind] := by rfl
  have y1 : (Value.cells (vi r.kind)).size = 1 := by rw [← Array.length_toList, z1]; simp
  have e2 : (((r.id.l.map v8)) ++ (([vi r.kind]) ++ (([] : List Value)))).toArray = (chdC r).toArray := by congr 1 <;> simp only [chdC, List.append_assoc, List.nil_append, List.append_nil]
  simp only [buildV]
  rw [e0]
  unfold fillV
  simp only [List.getElem?_cons_zero, List.getElem?_cons_succ, z0, y0]
  rw [if_pos ⟨trivial, by rw [s0]; decide⟩, q0]
  rw [e1]
  unfold fillV
  simp only [List.getElem?_cons_zero, List.getElem?_cons_succ, z1, y1]
  rw [if_pos ⟨trivial, by rw [s1]; decide⟩, q1]
  rw [e2]; rfl
abbrev ChdS (w : World) (v : Value) (l : List ChildL) : Prop := SlV 33 chdC chd0 w v l
def chOfE (e : EntL) : ChildL := ⟨e.id, e.kind⟩
def chOfP (i : IdL) : ChildL := ⟨i, 3⟩
/-- What an object names. -/
def childL (k : Int) (t : List UInt8) : List ChildL :=
  if RdOk k t then (if k = 2 then (entsE t).1.map chOfE else if k = 3 then ⟨(comE t).1.tree, 2⟩ :: (comE t).1.par.map chOfP else []) else []
theorem Gr.rows {α : Type} {L : Heap} {E : TypeId} {m : Nat} {v : Value} {enc : α → List Value} {l : List α} (h : Gr L E m v l.length (l.map enc).flatten) (h0 : 0 < l.length) : ∃ b c rest, v = vsl b 0 l.length c ∧ Sx.look L b = some (rowO enc E rest l) := by
  rcases h with h | ⟨h, -⟩
  · rcases h.inv with ⟨-, h, -⟩ | ⟨b, c, rest, hv, hl, -⟩
    · omega
    · exact ⟨b, c, rest, hv, hl⟩
  · omega
abbrev idRO (rest : List Value) (l : List IdL) : Obj := rowO idLC 24 rest l
theorem load_idRO {rest : List Value} {l : List IdL} (k : Nat) (hk : k < l.length) : loadV (some (true, 32)) (some (idRO rest l)) (k * 32) = some (.agg (a8 (l.getD k id0).l)) := by
  have := load_row (z := id0) (E := 24) (rest := rest) (idLC_len') k hk
  rw [this, ← idLC_a8]
/-- All blocks of a chunk are younger than those of another, and than b. -/
def SepK (b : Nat) (D E : Heap) : Prop := ∀ c, c ∈ keys E → b < c ∧ ∀ d, d ∈ keys D → d < c
theorem SepK.nil {b : Nat} {D : Heap} : SepK b D [] := fun c hc => by cases hc
theorem SepK.cons {b c : Nat} {o : Obj} {D E : Heap} (h : SepK b D E) (h1 : b < c) (h2 : ∀ d, d ∈ keys D → d < c) : SepK b D ((c, o) :: E) := fun x hx => by
  simp only [keys, List.map_cons, List.mem_cons] at hx
  rcases hx with rfl | hx
  · exact ⟨h1, h2⟩
  · exact h x hx
theorem SepK.app {b : Nat} {D E F : Heap} (h : SepK b D E) (h2 : SepK b D F) : SepK b D (E ++ F) := fun x hx => by
  rw [keys_app, List.mem_append] at hx
  rcases hx with hx | hx
  · exact h x hx
  · exact h2 x hx
theorem SepK.grow {b B : Nat} {D E F : Heap} (h : SepK b D E) (hk : ∀ c, c ∈ keys F → c ∈ keys E ∨ B ≤ c) (h1 : b < B) (h2 : ∀ d, d ∈ keys D → d < B) : SepK b D F := fun x hx => by
  rcases hk x hx with h' | h'
  · exact h x h'
  · exact ⟨by omega, fun d hd => by have := h2 d hd; omega⟩
theorem SepK.look {b : Nat} {D E : Heap} {c : Nat} {o x : Obj} (h : SepK b D E) (hl : Sx.look E c = some o) : Sx.look ((b, x) :: (D ++ E)) c = some o := by
  have := h c (key_of_look hl)
  rw [look_other _ _ _ _ (by omega), look_app_r (fun hm => by have := this.2 c hm; omega)]
  exact hl
theorem load_ro2i (r v : Value) (t : IdL) (p : Value) (y : List UInt8) (E : TypeId) (fz : Nat × Nat) : loadV (some (true, 32)) (some (.cells (roC r v t p y).toArray E fz)) 2 = some (.agg (a8 t.l)) := by
  have e : roC r v t p y = [r, v] ++ (t.l.map v8 ++ ([p] ++ [vs y])) := by unfold roC comC; simp
  rw [e]; exact load_agg [r, v] _ _ E fz rfl (by simp [t.h])
structure ChG where
  g : Nat
  v : Value
  D : Heap
theorem map_take_succ {α β : Type} (f : α → β) (z : α) {l : List α} {k : Nat} (hk : k < l.length) : (l.take (k + 1)).map f = (l.take k).map f ++ [f (l.getD k z)] := by
  rw [List.take_succ_eq_append_getElem hk, List.map_append, List.getD_eq_getElem?_getD, List.getElem?_eq_getElem hk]; rfl
theorem Gr.snoc {α : Type} {L : Heap} {E : TypeId} {m n : Nat} {v : Value} {enc : α → List Value} {l : List α} {x : α} (hn : n = l.length) (h : Buf L E m v (n + 1) ((l.map enc).flatten ++ enc x)) : Gr L E m v (l ++ [x]).length ((l ++ [x]).map enc).flatten := by
  subst hn
  rw [List.length_append, List.map_append, List.flatten_append, show ([x].map enc).flatten = enc x by simp]
  exact .inl h
set_option linter.defProp false
def uPJ_1 := And.intro (And.intro (And.intro (And.intro (@load_ob) (@load_ob0)) (And.intro (@load_ob1) (And.intro (@store_ob) (@Sx.tup2_0)))) (And.intro (And.intro (@Sx.tup2_1) (@load_ro0)) (And.intro (@load_ro1) (And.intro (@load_ro2) (@load_ro2i))))) (And.intro (And.intro (And.intro (@load_ro34) (@load_ent0)) (And.intro (@load_ent1) (And.intro (@load_ent2) (@load_ent)))) (And.intro (And.intro (@store_entr) (@cells_ent)) (And.intro (@load_idb) (And.intro (@rdIn_v8) (@rdIn_vi)))))
theorem ChildrenO_spec (k : Int) (t : List UInt8) (w : World) : Rets Try.prog 26 #[obV k t] w (XS w [] (fun v D => Gr D 61 33 v (childL k t).length ((childL k t).map chdC).flatten)) := by
  refine Rets.enterX Try.func26 rfl (rs := [.tmp 2]) Try.results26 Try.ntmps26 (fun p hp => by cases hp) (by simp [keys]) ?_
  simp only [List.size_toArray, List.length_cons, List.length_nil, Nat.reduceAdd, Nat.reduceSub, List.replicate_succ, List.replicate_zero, List.cons_append, List.nil_append]
  ((try with_reducible refine Cw.go [] ?_); (try simp (disch := (first | assumption | omega | (simp only [lenS, lenT, UInt64.reduceToNat]; try omega))) only [↓S0, S1, Try.fx, uPJ_1, Nat.reduceAdd, Nat.reducePow, Int.reducePow, Nat.reduceBEq, ↓reduceIte, UInt8.reduceToNat, UInt16.reduceToNat, UInt32.reduceToNat, UInt64.reduceToNat, Int.reduceToNat]))
  refine Ow.box rfl rfl fun b1 hb1 hw1 => ?_
  simp only [ev_tmp, getF_0, getF_s, cells_agg, List.nil_append]
  refine Ow.go rfl ?_
  simp (disch := (first | assumption | omega | (simp only [lenS, lenT, UInt64.reduceToNat]; try omega))) only [↓S0, S1, Try.fx, uPJ_1, Nat.reduceAdd, Nat.reducePow, Int.reducePow, Nat.reduceBEq, ↓reduceIte, UInt8.reduceToNat, UInt16.reduceToNat, UInt32.reduceToNat, UInt64.reduceToNat, Int.reduceToNat]
  refine Ow.callC rfl rfl Try.call42 (fun w' hw' => readO_spec k t w') (fun B v D hA hB hN hS => ?_)
  obtain ⟨p, rfl, hS⟩ := hS
  obtain ⟨h1B, -⟩ := hA
  have hNe : New w.heap.size ((b1, Obj.cells #[vi k, vs t] 31 (0, 0)) :: D) := ⟨hw1, New.mono hB hN⟩
  cases hr : RdOk k t
  · refine Ow.go rfl ?_
    simp (disch := (first | assumption | omega | (simp only [lenS, lenT, UInt64.reduceToNat]; try omega))) only [↓S0, S1, Try.fx, uPJ_1, Nat.reduceAdd, Nat.reducePow, Int.reducePow, Nat.reduceBEq, ↓reduceIte, UInt8.reduceToNat, UInt16.reduceToNat, UInt32.reduceToNat, UInt64.reduceToNat, Int.reduceToNat]
    ((try with_reducible refine Cw.go [] ?_); (try simp (disch := (first | assumption | omega | (simp only [lenS, lenT, UInt64.reduceToNat]; try omega))) only [↓S0, S1, Try.fx, uPJ_1, Nat.reduceAdd, Nat.reducePow, Int.reducePow, Nat.reduceBEq, ↓reduceIte, UInt8.reduceToNat, UInt16.reduceToNat, UInt32.reduceToNat, UInt64.reduceToNat, Int.reduceToNat]))
    refine ⟨_, (by simp (disch := (first | assumption | omega | (simp only [lenS, lenT, UInt64.reduceToNat]; try omega))) only [↓S0, S1, Try.fx, uPJ_1, Nat.reduceAdd, Nat.reducePow, Int.reducePow, Nat.reduceBEq, ↓reduceIte, UInt8.reduceToNat, UInt16.reduceToNat, UInt32.reduceToNat, UInt64.reduceToNat, Int.reduceToNat]; rfl), ?_⟩
    refine ⟨Ext.of_new hNe, ?_⟩
    unfold childL
    rw [hr]
    exact Gr.nl
  · obtain ⟨bo, bw, v1, c1, x1, y1, rfl, hlk, hg2, hg3, hgn⟩ := hS (RdOk_in hr)
    have hob := hN.le bo (key_of_look hlk)
    have hob1 : b1 ≠ bo := by omega
    obtain ⟨l, hG1, hl2, hln, hl32⟩ : ∃ l : List EntL, Gr D 45 34 v1 l.length (l.map entC).flatten ∧ (k = 2 → l = (entsE t).1) ∧ (k ≠ 2 → l = []) ∧ l.length ≤ 32 := by
      by_cases h2 : k = 2
      · refine ⟨(entsE t).1, hg2 h2, fun _ => rfl, fun h => absurd h2 h, ?_⟩
        subst h2
        have := hr
        unfold RdOk at this
        rw [if_pos (RdOk_in hr), if_neg (by decide), if_pos rfl] at this
        simp only [Bool.and_eq_true] at this
        exact (entsOk_short this.2).1
      · exact ⟨[], by rw [hgn h2]; exact Gr.nl, fun h => absurd h h2, fun _ => rfl, Nat.zero_le _⟩
    have ln1 := hG1.len
    have rdo : ∀ M, readB w (D ++ M) bo = some (.cells (roC (vp bw 0) v1 c1 x1 y1).toArray 87 (0, 0)) := fun M => read_look (look_app hlk)
    have rdo0 : readB w D bo = some (.cells (roC (vp bw 0) v1 c1 x1 y1).toArray 87 (0, 0)) := read_look hlk
    refine Ow.go rfl ?_
    simp (disch := (first | assumption | omega | (simp only [lenS, lenT, UInt64.reduceToNat]; try omega))) only [↓S0, S1, Try.fx, uPJ_1, Nat.reduceAdd, Nat.reducePow, Int.reducePow, Nat.reduceBEq, ↓reduceIte, UInt8.reduceToNat, UInt16.reduceToNat, UInt32.reduceToNat, UInt64.reduceToNat, Int.reduceToNat]
    ((try with_reducible refine Cw.go [] ?_); (try simp (disch := (first | assumption | omega | (simp only [lenS, lenT, UInt64.reduceToNat]; try omega))) only [↓S0, S1, Try.fx, uPJ_1, Nat.reduceAdd, Nat.reducePow, Int.reducePow, Nat.reduceBEq, ↓reduceIte, UInt8.reduceToNat, UInt16.reduceToNat, UInt32.reduceToNat, UInt64.reduceToNat, Int.reduceToNat, rdo0, ln1]))
    refine Cw.permL (M := (b1, Obj.cells #[vi k, vs t] 31 (0, 0)) :: (D ++ [])) (by rw [List.append_nil]) ?_
    refine Cw.loopG (G := ChG) [23, 24, 25, 7, 26, 27, 28, 29, 30, 31, 32, 33, 5, 34, 22] (fun q => [(5, q.v), (22, vi q.g)]) (fun q => (b1, Obj.cells #[vi k, vs t] 31 (0, 0)) :: (D ++ q.D)) (fun q => q.g ≤ l.length ∧ New w.heap.size q.D ∧ SepK b1 D q.D ∧ Gr q.D 61 33 q.v ((l.take q.g).map chOfE).length (((l.take q.g).map chOfE).map chdC).flatten) (fun q => l.length - q.g) ⟨0, .slice none 0 0, []⟩ rfl rfl ?_ ?_
    · exact ⟨Nat.zero_le _, trivial, SepK.nil, Gr.nl⟩
    · intro q jq hq
      simp only [overFrom, pin, setF_0, setF_s, List.contains_cons, List.contains_nil, Nat.reduceBEq, Bool.or_false, Bool.false_or, Bool.or_true, Bool.true_or, Nat.reduceAdd, ↓reduceIte, Bool.false_eq_true]
      obtain ⟨g, v, D2⟩ := q
      simp only at hq ⊢
      obtain ⟨hgl, hN2, hSp, hG⟩ := hq
      by_cases hlt : g < l.length
      · obtain ⟨c, cc, rest, rfl, hlc⟩ := Gr.rows hG1 (by omega)
        have hcb := hN.le c (key_of_look hlc)
        have hc1 : b1 ≠ c := by omega
        have rdc : ∀ M, readB w (D ++ M) c = some (entO rest l) := fun M => read_look (look_app hlc)
        have ldc := load_entR (rest := rest) g hlt
        have hml := map_take_succ chOfE ent0 hlt
        have hmll : ((l.take g).map chOfE).length = g := by rw [List.length_map, List.length_take]; omega
        generalize hx : l.getD g ent0 = x at ldc hml
        ((try with_reducible refine Cw.go [] ?_); (try simp (disch := (first | assumption | omega | (simp only [lenS, lenT, UInt64.reduceToNat]; try omega))) only [↓S0, S1, Try.fx, uPJ_1, Nat.reduceAdd, Nat.reducePow, Int.reducePow, Nat.reduceBEq, ↓reduceIte, UInt8.reduceToNat, UInt16.reduceToNat, UInt32.reduceToNat, UInt64.reduceToNat, Int.reduceToNat, rdc, ldc]))
        refine Ow.alloc rfl rfl zrEnt fun b7 hb7 hw7 => ?_
        simp only [cells_agg, List.nil_append, List.cons_append]
        have h17 : b1 < b7 := above_to hb7 (by simp [keys])
        refine Ow.permL (M := (b7, Obj.cells (entC ent0).toArray 45 (0, 0)) :: (b1, Obj.cells #[vi k, vs t] 31 (0, 0)) :: (D ++ D2)) (by classical exact List.perm_iff_count.2 fun a => by simp only [List.count_append, List.count_cons, List.count_nil] <;> omega) ?_
        refine Ow.go rfl ?_
        simp (disch := (first | assumption | omega | (simp only [lenS, lenT, UInt64.reduceToNat]; try omega))) only [↓S0, S1, Try.fx, uPJ_1, Nat.reduceAdd, Nat.reducePow, Int.reducePow, Nat.reduceBEq, ↓reduceIte, UInt8.reduceToNat, UInt16.reduceToNat, UInt32.reduceToNat, UInt64.reduceToNat, Int.reduceToNat]
        ((try with_reducible refine Cw.go [] ?_); (try simp (disch := (first | assumption | omega | (simp only [lenS, lenT, UInt64.reduceToNat]; try omega))) only [↓S0, S1, Try.fx, uPJ_1, Nat.reduceAdd, Nat.reducePow, Int.reducePow, Nat.reduceBEq, ↓reduceIte, UInt8.reduceToNat, UInt16.reduceToNat, UInt32.reduceToNat, UInt64.reduceToNat, Int.reduceToNat]))
        refine Ow.build (.agg (chdC (chOfE x)).toArray) rfl (build_chd (chOfE x)) ?_
        refine Ow.go rfl ?_
        simp (disch := (first | assumption | omega | (simp only [lenS, lenT, UInt64.reduceToNat]; try omega))) only [↓S0, S1, Try.fx, uPJ_1, Nat.reduceAdd, Nat.reducePow, Int.reducePow, Nat.reduceBEq, ↓reduceIte, UInt8.reduceToNat, UInt16.reduceToNat, UInt32.reduceToNat, UInt64.reduceToNat, Int.reduceToNat]
        refine Ow.buildSlice (e := 61) (chdC (chOfE x)).toArray rfl rfl (slice_one Try.underlying58 aggChd zrChd (by decide) (chdC_len _)) fun b13 hb13 hw13 => ?_
        refine Ow.permL (M := D2 ++ ((b7, Obj.cells (entC x).toArray 45 (0, 0)) :: (b13, Obj.cells (chdC (chOfE x)).toArray 61 (0, 0)) :: (b1, Obj.cells #[vi k, vs t] 31 (0, 0)) :: D)) (by classical exact List.perm_iff_count.2 fun a => by simp only [List.count_append, List.count_cons, List.count_nil] <;> omega) ?_
        refine Ow.go rfl ?_
        simp (disch := (first | assumption | omega | (simp only [lenS, lenT, UInt64.reduceToNat]; try omega))) only [↓S0, S1, Try.fx, uPJ_1, Nat.reduceAdd, Nat.reducePow, Int.reducePow, Nat.reduceBEq, ↓reduceIte, UInt8.reduceToNat, UInt16.reduceToNat, UInt32.reduceToNat, UInt64.reduceToNat, Int.reduceToNat]
        refine Ow.appendX (e := 61) (k := 1) (new := chdC (chOfE x)) (X := D2) v rfl rfl rfl rfl Try.underlying58 aggChd (by kernel_rfl) zrChd (by rw [cells_chd, List.size_toArray, chdC_len]) Try.underlying58 (by intro k h; cases h) hG (fun w' hw' => AppX.one1 (hw'.has b13 (.cells (chdC (chOfE x)).toArray 61 (0, 0)) (by simp)) (chdC_len _) (chdC_one _)) (by omega) (by rw [hmll]; omega) (fun B2 v4 D4 hA4 hB4 hbuf hk1 hk2 hlk4 => ?_)
        have hN4 : New w.heap.size D4 := New.of_le fun q hq => by
          rcases hk2 q hq with h | h
          · exact hN2.le q h
          · omega
        have hSp4 : SepK b1 D (D4 ++ [(b7, Obj.cells (entC x).toArray 45 (0, 0)), (b13, Obj.cells (chdC (chOfE x)).toArray 61 (0, 0))]) := by
          refine (hSp.grow hk2 (above_to hA4 (by simp [keys_app, keys])) fun d hd => above_to hA4 (by simp only [keys, List.map_cons, List.map_nil, List.map_append, List.mem_cons, List.mem_append] at hd ⊢; simp [hd])).app ?_
          exact (SepK.nil.cons (above_to hb13 (by simp [keys])) fun d hd => above_to hb13 (by simp only [keys, List.map_cons, List.map_nil, List.map_append, List.mem_cons, List.mem_append] at hd ⊢; simp [hd])).cons h17 fun d hd => above_to hb7 (by simp only [keys, List.map_cons, List.map_nil, List.map_append, List.mem_cons, List.mem_append] at hd ⊢; simp [hd])
        refine Ow.permL (M := (b1, Obj.cells #[vi k, vs t] 31 (0, 0)) :: (D ++ (D4 ++ [(b7, Obj.cells (entC x).toArray 45 (0, 0)), (b13, Obj.cells (chdC (chOfE x)).toArray 61 (0, 0))]))) (by classical exact List.perm_iff_count.2 fun a => by simp only [List.count_append, List.count_cons, List.count_nil] <;> omega) ?_
        refine Ow.go rfl ?_
        simp (disch := (first | assumption | omega | (simp only [lenS, lenT, UInt64.reduceToNat]; try omega))) only [↓S0, S1, Try.fx, uPJ_1, Nat.reduceAdd, Nat.reducePow, Int.reducePow, Nat.reduceBEq, ↓reduceIte, UInt8.reduceToNat, UInt16.reduceToNat, UInt32.reduceToNat, UInt64.reduceToNat, Int.reduceToNat]
        ((try with_reducible refine Cw.go [] ?_); (try simp (disch := (first | assumption | omega | (simp only [lenS, lenT, UInt64.reduceToNat]; try omega))) only [↓S0, S1, Try.fx, uPJ_1, Nat.reduceAdd, Nat.reducePow, Int.reducePow, Nat.reduceBEq, ↓reduceIte, UInt8.reduceToNat, UInt16.reduceToNat, UInt32.reduceToNat, UInt64.reduceToNat, Int.reduceToNat]))
        refine Again.mk (ChG.mk (g + 1) v4 (D4 ++ [(b7, Obj.cells (entC x).toArray 45 (0, 0)), (b13, Obj.cells (chdC (chOfE x)).toArray 61 (0, 0))])) (by show l.length - (g + 1) < l.length - g; omega) ⟨by show g + 1 ≤ l.length; omega, hN4.app ⟨hw7, hw13, trivial⟩, hSp4, ?_⟩ rfl rfl
        show Gr _ _ _ _ ((l.take (g + 1)).map chOfE).length (((l.take (g + 1)).map chOfE).map chdC).flatten
        rw [hml]
        exact Gr.app (Gr.snoc rfl hbuf)
      · obtain rfl : g = l.length := by omega
        rw [List.take_length] at hG
        by_cases h3 : k = 3
        · obtain rfl : l = [] := hln (by omega)
          subst h3
          obtain ⟨rfl, rfl, hgp⟩ := hg3 rfl
          have d3 : ((3 : Int) == 3) = true := rfl
          have hpl := comE_par t
          have lnp := hgp.len
          have hcl : childL 3 t = ⟨(comE t).1.tree, 2⟩ :: (comE t).1.par.map chOfP := by
            unfold childL
            rw [hr, if_pos rfl, if_neg (by decide), if_pos rfl]
          have rdo2 := rdo D2
          generalize (comE t).1.par = pl at *
          generalize (comE t).1.tree = T at *
          ((try with_reducible refine Cw.go [] ?_); (try simp (disch := (first | assumption | omega | (simp only [lenS, lenT, UInt64.reduceToNat]; try omega))) only [↓S0, S1, Try.fx, uPJ_1, Nat.reduceAdd, Nat.reducePow, Int.reducePow, Nat.reduceBEq, ↓reduceIte, UInt8.reduceToNat, UInt16.reduceToNat, UInt32.reduceToNat, UInt64.reduceToNat, Int.reduceToNat, d3, rdo2]))
          have bT := build_chd ⟨T, 2⟩
          refine Ow.build (.agg (chdC ⟨T, 2⟩).toArray) rfl bT ?_
          refine Ow.go rfl ?_
          simp (disch := (first | assumption | omega | (simp only [lenS, lenT, UInt64.reduceToNat]; try omega))) only [↓S0, S1, Try.fx, uPJ_1, Nat.reduceAdd, Nat.reducePow, Int.reducePow, Nat.reduceBEq, ↓reduceIte, UInt8.reduceToNat, UInt16.reduceToNat, UInt32.reduceToNat, UInt64.reduceToNat, Int.reduceToNat]
          refine Ow.buildSlice (e := 61) (chdC ⟨T, 2⟩).toArray rfl rfl (slice_one Try.underlying58 aggChd zrChd (by decide) (chdC_len _)) fun b13 hb13 hw13 => ?_
          refine Ow.permL (M := D2 ++ ((b13, Obj.cells (chdC ⟨T, 2⟩).toArray 61 (0, 0)) :: (b1, Obj.cells #[vi 3, vs t] 31 (0, 0)) :: D)) (by classical exact List.perm_iff_count.2 fun a => by simp only [List.count_append, List.count_cons, List.count_nil] <;> omega) ?_
          refine Ow.go rfl ?_
          simp (disch := (first | assumption | omega | (simp only [lenS, lenT, UInt64.reduceToNat]; try omega))) only [↓S0, S1, Try.fx, uPJ_1, Nat.reduceAdd, Nat.reducePow, Int.reducePow, Nat.reduceBEq, ↓reduceIte, UInt8.reduceToNat, UInt16.reduceToNat, UInt32.reduceToNat, UInt64.reduceToNat, Int.reduceToNat]
          refine Ow.appendX (e := 61) (k := 1) (new := chdC ⟨T, 2⟩) (X := D2) v rfl rfl rfl rfl Try.underlying58 aggChd (by kernel_rfl) zrChd (by rw [cells_chd, List.size_toArray, chdC_len]) Try.underlying58 (by intro k h; cases h) hG (fun w' hw' => AppX.one1 (hw'.has b13 (.cells (chdC ⟨T, 2⟩).toArray 61 (0, 0)) (by simp)) (chdC_len _) (chdC_one _)) (by omega) (by simp) (fun B2 v4 D4 hA4 hB4 hbuf hk1 hk2 hlk4 => ?_)
          have hN4 : New w.heap.size D4 := New.of_le fun q hq => by
            rcases hk2 q hq with h | h
            · exact hN2.le q h
            · omega
          have hSp4 : SepK b1 D (D4 ++ [(b13, Obj.cells (chdC ⟨T, 2⟩).toArray 61 (0, 0))]) := by
            refine (hSp.grow hk2 (above_to hA4 (by simp [keys_app, keys])) fun d hd => above_to hA4 (by simp only [keys, List.map_cons, List.map_nil, List.map_append, List.mem_cons, List.mem_append] at hd ⊢; simp [hd])).app ?_
            exact SepK.nil.cons (above_to hb13 (by simp [keys])) fun d hd => above_to hb13 (by simp only [keys, List.map_cons, List.map_nil, List.map_append, List.mem_cons, List.mem_append] at hd ⊢; simp [hd])
          refine Ow.permL (M := (b1, Obj.cells #[vi 3, vs t] 31 (0, 0)) :: (D ++ (D4 ++ [(b13, Obj.cells (chdC ⟨T, 2⟩).toArray 61 (0, 0))]))) (by classical exact List.perm_iff_count.2 fun a => by simp only [List.count_append, List.count_cons, List.count_nil] <;> omega) ?_
          have hG4 : Gr (D4 ++ [(b13, Obj.cells (chdC ⟨T, 2⟩).toArray 61 (0, 0))]) 61 33 v4 (⟨T, 2⟩ :: (pl.take 0).map chOfP : List ChildL).length ((⟨T, 2⟩ :: (pl.take 0).map chOfP : List ChildL).map chdC).flatten := by
            have := Gr.snoc (l := ([] : List ChildL)) (x := ⟨T, 2⟩) rfl (by simpa using hbuf)
            exact this.app
          have hN5 := hN4.app (show New w.heap.size [(b13, Obj.cells (chdC ⟨T, 2⟩).toArray 61 (0, 0))] from ⟨hw13, trivial⟩)
          generalize D4 ++ [(b13, Obj.cells (chdC ⟨T, 2⟩).toArray 61 (0, 0))] = D5 at hSp4 hG4 hN5 ⊢
          have rdo5 := rdo D5
          refine Ow.go rfl ?_
          simp (disch := (first | assumption | omega | (simp only [lenS, lenT, UInt64.reduceToNat]; try omega))) only [↓S0, S1, Try.fx, uPJ_1, Nat.reduceAdd, Nat.reducePow, Int.reducePow, Nat.reduceBEq, ↓reduceIte, UInt8.reduceToNat, UInt16.reduceToNat, UInt32.reduceToNat, UInt64.reduceToNat, Int.reduceToNat]
          ((try with_reducible refine Cw.go [] ?_); (try simp (disch := (first | assumption | omega | (simp only [lenS, lenT, UInt64.reduceToNat]; try omega))) only [↓S0, S1, Try.fx, uPJ_1, Nat.reduceAdd, Nat.reducePow, Int.reducePow, Nat.reduceBEq, ↓reduceIte, UInt8.reduceToNat, UInt16.reduceToNat, UInt32.reduceToNat, UInt64.reduceToNat, Int.reduceToNat, rdo5, lnp]))
          refine Cw.loopG (G := ChG) [54, 55, 56, 9, 57, 58, 59, 60, 61, 5, 62, 53] (fun q => [(5, q.v), (53, vi q.g)]) (fun q => (b1, Obj.cells #[vi 3, vs t] 31 (0, 0)) :: (D ++ q.D)) (fun q => q.g ≤ pl.length ∧ New w.heap.size q.D ∧ SepK b1 D q.D ∧ Gr q.D 61 33 q.v (⟨T, 2⟩ :: (pl.take q.g).map chOfP : List ChildL).length ((⟨T, 2⟩ :: (pl.take q.g).map chOfP : List ChildL).map chdC).flatten) (fun q => pl.length - q.g) ⟨0, v4, D5⟩ rfl rfl ?_ ?_
          · exact ⟨Nat.zero_le _, hN5, hSp4, hG4⟩
          · intro q jq hq
            simp only [overFrom, pin, setF_0, setF_s, List.contains_cons, List.contains_nil, Nat.reduceBEq, Bool.or_false, Bool.false_or, Bool.or_true, Bool.true_or, Nat.reduceAdd, ↓reduceIte, Bool.false_eq_true]
            obtain ⟨g, v, D2⟩ := q
            simp only at hq ⊢
            obtain ⟨hgl, hN2, hSp, hG⟩ := hq
            by_cases hlt : g < pl.length
            · obtain ⟨c, cc, rest, rfl, hlc⟩ := Gr.rows hgp (by omega)
              have hcb := hN.le c (key_of_look hlc)
              have hc1 : b1 ≠ c := by omega
              have rdc : ∀ M, readB w (D ++ M) c = some (idRO rest pl) := fun M => read_look (look_app hlc)
              have ldc := load_idRO (rest := rest) g hlt
              have hml := map_take_succ chOfP id0 hlt
              have hmll : ((pl.take g).map chOfP).length = g := by rw [List.length_map, List.length_take]; omega
              generalize hx : pl.getD g id0 = x at ldc hml
              have hxl := x.h
              ((try with_reducible refine Cw.go [] ?_); (try simp (disch := (first | assumption | omega | (simp only [lenS, lenT, UInt64.reduceToNat]; try omega))) only [↓S0, S1, Try.fx, uPJ_1, Nat.reduceAdd, Nat.reducePow, Int.reducePow, Nat.reduceBEq, ↓reduceIte, UInt8.reduceToNat, UInt16.reduceToNat, UInt32.reduceToNat, UInt64.reduceToNat, Int.reduceToNat, rdc, ldc]))
              refine Ow.alloc rfl rfl zrIdE fun b7 hb7 hw7 => ?_
              simp only [cells_agg, List.nil_append, List.cons_append]
              have h17 : b1 < b7 := above_to hb7 (by simp [keys])
              refine Ow.permL (M := (b7, Obj.cells (a8 id0.l) 24 (0, 0)) :: (b1, Obj.cells #[vi 3, vs t] 31 (0, 0)) :: (D ++ D2)) (by classical exact List.perm_iff_count.2 fun a => by simp only [List.count_append, List.count_cons, List.count_nil] <;> omega) ?_
              have hz0 := id0.h
              refine Ow.go rfl ?_
              simp (disch := (first | assumption | omega | (simp only [lenS, lenT, UInt64.reduceToNat]; try omega))) only [↓S0, S1, Try.fx, uPJ_1, Nat.reduceAdd, Nat.reducePow, Int.reducePow, Nat.reduceBEq, ↓reduceIte, UInt8.reduceToNat, UInt16.reduceToNat, UInt32.reduceToNat, UInt64.reduceToNat, Int.reduceToNat]
              ((try with_reducible refine Cw.go [] ?_); (try simp (disch := (first | assumption | omega | (simp only [lenS, lenT, UInt64.reduceToNat]; try omega))) only [↓S0, S1, Try.fx, uPJ_1, Nat.reduceAdd, Nat.reducePow, Int.reducePow, Nat.reduceBEq, ↓reduceIte, UInt8.reduceToNat, UInt16.reduceToNat, UInt32.reduceToNat, UInt64.reduceToNat, Int.reduceToNat]))
              have bX := build_chd (chOfP x)
              refine Ow.build (.agg (chdC (chOfP x)).toArray) rfl bX ?_
              refine Ow.go rfl ?_
              simp (disch := (first | assumption | omega | (simp only [lenS, lenT, UInt64.reduceToNat]; try omega))) only [↓S0, S1, Try.fx, uPJ_1, Nat.reduceAdd, Nat.reducePow, Int.reducePow, Nat.reduceBEq, ↓reduceIte, UInt8.reduceToNat, UInt16.reduceToNat, UInt32.reduceToNat, UInt64.reduceToNat, Int.reduceToNat]
              refine Ow.buildSlice (e := 61) (chdC (chOfP x)).toArray rfl rfl (slice_one Try.underlying58 aggChd zrChd (by decide) (chdC_len _)) fun b13 hb13 hw13 => ?_
              refine Ow.permL (M := D2 ++ ((b7, Obj.cells (a8 x.l) 24 (0, 0)) :: (b13, Obj.cells (chdC (chOfP x)).toArray 61 (0, 0)) :: (b1, Obj.cells #[vi 3, vs t] 31 (0, 0)) :: D)) (by classical exact List.perm_iff_count.2 fun a => by simp only [List.count_append, List.count_cons, List.count_nil] <;> omega) ?_
              refine Ow.go rfl ?_
              simp (disch := (first | assumption | omega | (simp only [lenS, lenT, UInt64.reduceToNat]; try omega))) only [↓S0, S1, Try.fx, uPJ_1, Nat.reduceAdd, Nat.reducePow, Int.reducePow, Nat.reduceBEq, ↓reduceIte, UInt8.reduceToNat, UInt16.reduceToNat, UInt32.reduceToNat, UInt64.reduceToNat, Int.reduceToNat]
              refine Ow.appendX (e := 61) (k := 1) (new := chdC (chOfP x)) (X := D2) v rfl rfl rfl rfl Try.underlying58 aggChd (by kernel_rfl) zrChd (by rw [cells_chd, List.size_toArray, chdC_len]) Try.underlying58 (by intro k h; cases h) hG (fun w' hw' => AppX.one1 (hw'.has b13 (.cells (chdC (chOfP x)).toArray 61 (0, 0)) (by simp)) (chdC_len _) (chdC_one _)) (by omega) (by rw [List.length_cons, hmll]; omega) (fun B2 v4 D4 hA4 hB4 hbuf hk1 hk2 hlk4 => ?_)
              have hN4 : New w.heap.size D4 := New.of_le fun q hq => by
                rcases hk2 q hq with h | h
                · exact hN2.le q h
                · omega
              have hSp4 : SepK b1 D (D4 ++ [(b7, Obj.cells (a8 x.l) 24 (0, 0)), (b13, Obj.cells (chdC (chOfP x)).toArray 61 (0, 0))]) := by
                refine (hSp.grow hk2 (above_to hA4 (by simp [keys_app, keys])) fun d hd => above_to hA4 (by simp only [keys, List.map_cons, List.map_nil, List.map_append, List.mem_cons, List.mem_append] at hd ⊢; simp [hd])).app ?_
                exact (SepK.nil.cons (above_to hb13 (by simp [keys])) fun d hd => above_to hb13 (by simp only [keys, List.map_cons, List.map_nil, List.map_append, List.mem_cons, List.mem_append] at hd ⊢; simp [hd])).cons h17 fun d hd => above_to hb7 (by simp only [keys, List.map_cons, List.map_nil, List.map_append, List.mem_cons, List.mem_append] at hd ⊢; simp [hd])
              refine Ow.permL (M := (b1, Obj.cells #[vi 3, vs t] 31 (0, 0)) :: (D ++ (D4 ++ [(b7, Obj.cells (a8 x.l) 24 (0, 0)), (b13, Obj.cells (chdC (chOfP x)).toArray 61 (0, 0))]))) (by classical exact List.perm_iff_count.2 fun a => by simp only [List.count_append, List.count_cons, List.count_nil] <;> omega) ?_
              refine Ow.go rfl ?_
              simp (disch := (first | assumption | omega | (simp only [lenS, lenT, UInt64.reduceToNat]; try omega))) only [↓S0, S1, Try.fx, uPJ_1, Nat.reduceAdd, Nat.reducePow, Int.reducePow, Nat.reduceBEq, ↓reduceIte, UInt8.reduceToNat, UInt16.reduceToNat, UInt32.reduceToNat, UInt64.reduceToNat, Int.reduceToNat]
              ((try with_reducible refine Cw.go [] ?_); (try simp (disch := (first | assumption | omega | (simp only [lenS, lenT, UInt64.reduceToNat]; try omega))) only [↓S0, S1, Try.fx, uPJ_1, Nat.reduceAdd, Nat.reducePow, Int.reducePow, Nat.reduceBEq, ↓reduceIte, UInt8.reduceToNat, UInt16.reduceToNat, UInt32.reduceToNat, UInt64.reduceToNat, Int.reduceToNat]))
              refine Again.mk (ChG.mk (g + 1) v4 (D4 ++ [(b7, Obj.cells (a8 x.l) 24 (0, 0)), (b13, Obj.cells (chdC (chOfP x)).toArray 61 (0, 0))])) (by show pl.length - (g + 1) < pl.length - g; omega) ⟨by show g + 1 ≤ pl.length; omega, hN4.app ⟨hw7, hw13, trivial⟩, hSp4, ?_⟩ rfl rfl
              show Gr _ _ _ _ (⟨T, 2⟩ :: (pl.take (g + 1)).map chOfP : List ChildL).length ((⟨T, 2⟩ :: (pl.take (g + 1)).map chOfP : List ChildL).map chdC).flatten
              rw [hml]
              exact Gr.app (Gr.snoc (l := (⟨T, 2⟩ :: (pl.take g).map chOfP : List ChildL)) rfl hbuf)
            · obtain rfl : g = pl.length := by omega
              rw [List.take_length] at hG
              ((try with_reducible refine Cw.go [] ?_); (try simp (disch := (first | assumption | omega | (simp only [lenS, lenT, UInt64.reduceToNat]; try omega))) only [↓S0, S1, Try.fx, uPJ_1, Nat.reduceAdd, Nat.reducePow, Int.reducePow, Nat.reduceBEq, ↓reduceIte, UInt8.reduceToNat, UInt16.reduceToNat, UInt32.reduceToNat, UInt64.reduceToNat, Int.reduceToNat]))
              refine ⟨_, (by simp (disch := (first | assumption | omega | (simp only [lenS, lenT, UInt64.reduceToNat]; try omega))) only [↓S0, S1, Try.fx, uPJ_1, Nat.reduceAdd, Nat.reducePow, Int.reducePow, Nat.reduceBEq, ↓reduceIte, UInt8.reduceToNat, UInt16.reduceToNat, UInt32.reduceToNat, UInt64.reduceToNat, Int.reduceToNat]; rfl), ?_⟩
              refine ⟨Ext.of_new ⟨hw1, (New.mono hB hN).app hN2⟩, ?_⟩
              rw [hcl]
              exact hG.keep fun b o hb ho => hSp.look ho
        · have d3 : (k == 3) = false := by simpa using h3
          ((try with_reducible refine Cw.go [] ?_); (try simp (disch := (first | assumption | omega | (simp only [lenS, lenT, UInt64.reduceToNat]; try omega))) only [↓S0, S1, Try.fx, uPJ_1, Nat.reduceAdd, Nat.reducePow, Int.reducePow, Nat.reduceBEq, ↓reduceIte, UInt8.reduceToNat, UInt16.reduceToNat, UInt32.reduceToNat, UInt64.reduceToNat, Int.reduceToNat, d3]))
          refine ⟨_, (by simp (disch := (first | assumption | omega | (simp only [lenS, lenT, UInt64.reduceToNat]; try omega))) only [↓S0, S1, Try.fx, uPJ_1, Nat.reduceAdd, Nat.reducePow, Int.reducePow, Nat.reduceBEq, ↓reduceIte, UInt8.reduceToNat, UInt16.reduceToNat, UInt32.reduceToNat, UInt64.reduceToNat, Int.reduceToNat]; rfl), ?_⟩
          refine ⟨Ext.of_new ⟨hw1, (New.mono hB hN).app hN2⟩, ?_⟩
          have e : childL k t = l.map chOfE := by
            unfold childL
            rw [hr, if_pos rfl, if_neg h3]
            by_cases h2 : k = 2
            · rw [if_pos h2, ← hl2 h2]
            · rw [if_neg h2, hln h2]; rfl
          rw [e]
          exact hG.keep fun b o hb ho => hSp.look ho
end Go.Proofs
end
section
open Go Go.Proofs Go.Sx Go.StP
namespace Go.Proofs
set_option maxRecDepth 10000
set_option maxHeartbeats 400000
set_option linter.unusedSimpArgs false
/-! ### What every right program answers -/
def id3 : IdL := ⟨3 :: List.replicate 31 0, by simp⟩
def enX : EntL := ⟨[120], 2, id3⟩
def enY : EntL := ⟨[121], 1, id0⟩
theorem alive_sort {Z : List EntL} (h : SortOf [enY, enX] Z) : Z = [enX, enY] := by
  refine h.eq ⟨rfl, ?_, ?_⟩
  · show StP.Sorted EntL.name [enX, enY]
    unfold StP.Sorted
    refine List.pairwise_cons.2 ⟨fun b hb => ?_, List.pairwise_singleton _ _⟩
    rw [List.mem_singleton.1 hb]; decide
  · exact StP.St.swap (a := [enY]) (b := [enX]) fun x hx y hy => by
      rw [List.mem_singleton.1 hx, List.mem_singleton.1 hy]; decide
theorem alive_ok : entsOk [enX, enY] = true := by decide
theorem alive_child : childL 2 (treeB [enX, enY]) = [⟨id3, 2⟩, ⟨id0, 1⟩] := by
  unfold childL
  rw [RdOk_tree alive_ok, if_pos rfl, if_pos rfl, entsE_treeB fun x hx => by
    rcases List.mem_cons.1 hx with rfl | hx
    · decide
    · rw [List.mem_singleton.1 hx]; decide]
  rfl
theorem alive_frame : frameB 1 [97, 98] = [98, 2, 97, 98] := by
  unfold frameB textL
  rw [show clampN (([97, 98] : List UInt8).length : Int) = 2 from rfl, numL_small (by decide)]; rfl
theorem build_id3 : buildV (plcT Try.prog 24) (zeroV Try.prog 24) [(0, v8 3)] = some (.agg (a8 id3.l)) := id (by kernel_rfl)
theorem build_enY : buildV (plcT Try.prog 45) (zeroV Try.prog 45) [(0, vs [121]), (1, vi 1)] = some (.agg (entC enY).toArray) := id (by kernel_rfl)
theorem slice_yx : sliceB Try.prog 22 2 [(0, .agg (entC enY).toArray), (1, .agg (entC enX).toArray)] = some (45, (entC enY ++ entC enX).toArray) := id (by kernel_rfl)
theorem Gr.row0 {D : Heap} {v : Value} {l : List ChildL} (h : Gr D 61 33 v l.length (l.map chdC).flatten) (h0 : 0 < l.length) : ∃ b c rest, v = vsl b 0 l.length c ∧ Sx.look D b = some (rowO chdC 61 rest l) ∧ loadV (some (true, 33)) (some (rowO chdC 61 rest l)) (0 * 33) = some (.agg (chdC (l.getD 0 chd0)).toArray) := by
  obtain ⟨b, c, rest, hv, hl⟩ := Gr.rows h h0
  refine ⟨b, c, rest, hv, hl, ?_⟩
  have := load_row (z := chd0) (E := 61) (rest := rest) chdC_len 0 h0
  exact this
set_option linter.defProp false
def uPK_1 := And.intro (And.intro (And.intro (@load_ob) (@load_ob0)) (And.intro (@load_ob1) (@store_ob))) (And.intro (And.intro (@Sx.tup2_0) (@Sx.tup2_1)) (And.intro (@eqChd) (And.intro (@rdIn_v8) (@rdIn_vi))))
theorem alive_spec (w : World) : Rets Try.prog 8 #[] w (fun v D => v = .bool true ∧ D = []) := by
  refine Rets.enterV Try.func8 rfl (rs := [.tmp 0]) Try.results8 Try.ntmps8 ?_
  simp only [List.size_toArray, List.length_cons, List.length_nil, Nat.reduceAdd, Nat.reduceSub, List.replicate_succ, List.replicate_zero, List.cons_append, List.nil_append]
  ((try with_reducible refine Cw.go [] ?_); (try simp (disch := (first | assumption | omega | (simp only [lenS, lenT, UInt64.reduceToNat]; try omega))) only [↓S0, S1, Try.fx, uPK_1, Nat.reduceAdd, Nat.reducePow, Int.reducePow, Nat.reduceBEq, ↓reduceIte, UInt8.reduceToNat, UInt16.reduceToNat, UInt32.reduceToNat, UInt64.reduceToNat, Int.reduceToNat]))
  refine Ow.callFV rfl Try.call10 (fun w' hw' => Blob_spec [97, 98] w') ?_
  rw [show madeK 1 [97, 98] true = 1 from rfl, show madeT 1 [97, 98] true = [97, 98] from rfl, show madeE 1 [97, 98] true = 0 from rfl]
  refine Ow.go rfl ?_
  simp (disch := (first | assumption | omega | (simp only [lenS, lenT, UInt64.reduceToNat]; try omega))) only [↓S0, S1, Try.fx, uPK_1, Nat.reduceAdd, Nat.reducePow, Int.reducePow, Nat.reduceBEq, ↓reduceIte, UInt8.reduceToNat, UInt16.reduceToNat, UInt32.reduceToNat, UInt64.reduceToNat, Int.reduceToNat]
  refine Ow.alloc rfl rfl zrOb fun b1 hb1 hw1 => ?_
  simp only [cells_agg, List.nil_append, List.cons_append]
  refine Ow.go rfl ?_
  simp (disch := (first | assumption | omega | (simp only [lenS, lenT, UInt64.reduceToNat]; try omega))) only [↓S0, S1, Try.fx, uPK_1, Nat.reduceAdd, Nat.reducePow, Int.reducePow, Nat.reduceBEq, ↓reduceIte, UInt8.reduceToNat, UInt16.reduceToNat, UInt32.reduceToNat, UInt64.reduceToNat, Int.reduceToNat]
  ((try with_reducible refine Cw.go [] ?_); (try simp (disch := (first | assumption | omega | (simp only [lenS, lenT, UInt64.reduceToNat]; try omega))) only [↓S0, S1, Try.fx, uPK_1, Nat.reduceAdd, Nat.reducePow, Int.reducePow, Nat.reduceBEq, ↓reduceIte, UInt8.reduceToNat, UInt16.reduceToNat, UInt32.reduceToNat, UInt64.reduceToNat, Int.reduceToNat]))
  refine Ow.callC rfl rfl Try.call25 (fun w' hw' => FrameO_spec 1 [97, 98] w') (fun B v D hA hB hN hS => ?_)
  rw [show RdOk 1 [97, 98] = true from rfl, if_pos rfl, alive_frame] at hS
  subst hS
  obtain ⟨h1B, -⟩ := hA
  refine Ow.go rfl ?_
  simp (disch := (first | assumption | omega | (simp only [lenS, lenT, UInt64.reduceToNat]; try omega))) only [↓S0, S1, Try.fx, uPK_1, Nat.reduceAdd, Nat.reducePow, Int.reducePow, Nat.reduceBEq, ↓reduceIte, UInt8.reduceToNat, UInt16.reduceToNat, UInt32.reduceToNat, UInt64.reduceToNat, Int.reduceToNat]
  refine Ow.build (.agg (entC enY).toArray) rfl build_enY ?_
  refine Ow.build (.agg (a8 id3.l)) rfl build_id3 ?_
  refine Ow.build (.agg (entC enX).toArray) rfl (build_ent enX) ?_
  refine Ow.go rfl ?_
  simp (disch := (first | assumption | omega | (simp only [lenS, lenT, UInt64.reduceToNat]; try omega))) only [↓S0, S1, Try.fx, uPK_1, Nat.reduceAdd, Nat.reducePow, Int.reducePow, Nat.reduceBEq, ↓reduceIte, UInt8.reduceToNat, UInt16.reduceToNat, UInt32.reduceToNat, UInt64.reduceToNat, Int.reduceToNat]
  refine Ow.buildSlice (e := 45) (entC enY ++ entC enX).toArray rfl rfl slice_yx fun b13 hb13 hw13 => ?_
  refine Ow.go rfl ?_
  simp (disch := (first | assumption | omega | (simp only [lenS, lenT, UInt64.reduceToNat]; try omega))) only [↓S0, S1, Try.fx, uPK_1, Nat.reduceAdd, Nat.reducePow, Int.reducePow, Nat.reduceBEq, ↓reduceIte, UInt8.reduceToNat, UInt16.reduceToNat, UInt32.reduceToNat, UInt64.reduceToNat, Int.reduceToNat]
  have hr13 : ∀ w', w'.heap[b13]? = some (.cells (entC enY ++ entC enX).toArray 45 (0, 0)) → EntS w' (vsl b13 0 2 2) [enY, enX] := fun w' h => SlV.sl (l := [enY, enX]) h (fun k hk j hj => by
    simp only [Nat.zero_add, List.getElem?_toArray]
    have h2 : k = 0 ∨ k = 1 := by simp at hk; omega
    rcases h2 with rfl | rfl
    · rw [Nat.zero_mul, Nat.zero_add, List.getElem?_append_left (by rw [entC_len]; exact hj)]; rfl
    · rw [Nat.one_mul, List.getElem?_append_right (by rw [entC_len]; omega), entC_len, Nat.add_sub_cancel_left]; rfl) (by decide) (by simp [entC_len])
  refine Ow.callC rfl rfl Try.call11 (fun w' hw' => TreeO_spec _ [enY, enX] w' (hr13 w' (hw'.has _ _ (by simp))) (by decide) (by decide)) (fun B2 v2 D2 hA2 hB2 hN2 hS2 => ?_)
  obtain ⟨Z, hZ, rfl⟩ := hS2
  rw [alive_sort hZ]
  rw [show madeK 2 (treeB [enX, enY]) (entsOk [enX, enY]) = 2 by unfold madeK; rw [alive_ok, RdOk_tree alive_ok]; rfl,
    show madeT 2 (treeB [enX, enY]) (entsOk [enX, enY]) = treeB [enX, enY] by unfold madeT; rw [alive_ok, RdOk_tree alive_ok]; rfl,
    show madeE 2 (treeB [enX, enY]) (entsOk [enX, enY]) = 0 by unfold madeE; rw [alive_ok, RdOk_tree alive_ok]; rfl]
  have hN3 : New w.heap.size ((b1, Obj.cells #[vi 1, vs [97, 98]] 31 (0, 0)) :: D ++ [(b13, Obj.cells (entC enY ++ entC enX).toArray 45 (0, 0))] ++ D2) :=
    (New.app (show New w.heap.size ((b1, Obj.cells #[vi 1, vs [97, 98]] 31 (0, 0)) :: D) from ⟨hw1, New.mono hB hN⟩) (show New w.heap.size [(b13, Obj.cells (entC enY ++ entC enX).toArray 45 (0, 0))] from ⟨hw13, trivial⟩)).app (New.mono hB2 hN2)
  refine Ow.go rfl ?_
  simp (disch := (first | assumption | omega | (simp only [lenS, lenT, UInt64.reduceToNat]; try omega))) only [↓S0, S1, Try.fx, uPK_1, Nat.reduceAdd, Nat.reducePow, Int.reducePow, Nat.reduceBEq, ↓reduceIte, UInt8.reduceToNat, UInt16.reduceToNat, UInt32.reduceToNat, UInt64.reduceToNat, Int.reduceToNat]
  refine Ow.alloc rfl rfl zrOb fun b5 hb5 hw5 => ?_
  simp only [cells_agg, List.nil_append, List.cons_append]
  refine Ow.permL (M := (b5, Obj.cells #[vi 0, vs []] 31 (0, 0)) :: ((b1, Obj.cells #[vi 1, vs [97, 98]] 31 (0, 0)) :: D ++ [(b13, Obj.cells (entC enY ++ entC enX).toArray 45 (0, 0))] ++ D2)) (by classical exact List.perm_iff_count.2 fun a => by simp only [List.count_append, List.count_cons, List.count_nil] <;> omega) ?_
  generalize (b1, Obj.cells #[vi 1, vs [97, 98]] 31 (0, 0)) :: D ++ [(b13, Obj.cells (entC enY ++ entC enX).toArray 45 (0, 0))] ++ D2 = E at hN3 ⊢
  refine Ow.go rfl ?_
  simp (disch := (first | assumption | omega | (simp only [lenS, lenT, UInt64.reduceToNat]; try omega))) only [↓S0, S1, Try.fx, uPK_1, Nat.reduceAdd, Nat.reducePow, Int.reducePow, Nat.reduceBEq, ↓reduceIte, UInt8.reduceToNat, UInt16.reduceToNat, UInt32.reduceToNat, UInt64.reduceToNat, Int.reduceToNat]
  ((try with_reducible refine Cw.go [] ?_); (try simp (disch := (first | assumption | omega | (simp only [lenS, lenT, UInt64.reduceToNat]; try omega))) only [↓S0, S1, Try.fx, uPK_1, Nat.reduceAdd, Nat.reducePow, Int.reducePow, Nat.reduceBEq, ↓reduceIte, UInt8.reduceToNat, UInt16.reduceToNat, UInt32.reduceToNat, UInt64.reduceToNat, Int.reduceToNat]))
  refine Ow.callC rfl rfl Try.call26 (fun w' hw' => ChildrenO_spec 2 (treeB [enX, enY]) w') (fun B4 v4 D4 hA4 hB4 hN4 hS4 => ?_)
  rw [alive_child] at hS4
  obtain ⟨CL, hCL⟩ : ∃ CL, CL = ([⟨id3, 2⟩, ⟨id0, 1⟩] : List ChildL) := ⟨_, rfl⟩
  have e2 : ((CL.length : Int) == 2) = true := by rw [hCL]; rfl
  have l2 : 0 < CL.length := by rw [hCL]; decide
  have g0 : CL.getD 0 chd0 = ⟨id3, 2⟩ := by rw [hCL]; rfl
  rw [← hCL] at hS4
  obtain ⟨c, cc, rest, rfl, hlc, hld⟩ := Gr.row0 hS4 l2
  have rdc : readB w ((b5, Obj.cells #[vi 2, vs (treeB [enX, enY])] 31 (0, 0)) :: (E ++ D4)) c = some (rowO chdC 61 rest CL) := by
    refine read_look ?_
    have hc5 := above_to hA4 (b := b5) (by simp [keys])
    have := hN4.le c (key_of_look hlc)
    rw [look_other _ _ _ _ (by omega), look_app_r (fun hm => ?_)]
    · exact hlc
    · have := above_to hA4 (b := c) (by simp only [keys, List.map_cons, List.mem_cons] at hm ⊢; exact .inr hm)
      omega
  rw [g0] at hld
  have cN : New w.heap.size ((b5, Obj.cells #[vi 2, vs (treeB [enX, enY])] 31 (0, 0)) :: (E ++ D4)) := ⟨hw5, hN3.app (New.mono hB4 hN4)⟩
  refine Ow.go rfl ?_
  simp (disch := (first | assumption | omega | (simp only [lenS, lenT, UInt64.reduceToNat]; try omega))) only [↓S0, S1, Try.fx, uPK_1, Nat.reduceAdd, Nat.reducePow, Int.reducePow, Nat.reduceBEq, ↓reduceIte, UInt8.reduceToNat, UInt16.reduceToNat, UInt32.reduceToNat, UInt64.reduceToNat, Int.reduceToNat, e2, rdc, hld]
  refine Ow.build (.agg (a8 id3.l)) rfl build_id3 ?_
  refine Ow.build (.agg (chdC ⟨id3, 2⟩).toArray) rfl (build_chd ⟨id3, 2⟩) ?_
  have e9 : ((ChildL.mk id3 2).id.l == (ChildL.mk id3 2).id.l && (ChildL.mk id3 2).kind == (ChildL.mk id3 2).kind) = true := by simp
  refine Ow.go rfl ?_
  simp (disch := (first | assumption | omega | (simp only [lenS, lenT, UInt64.reduceToNat]; try omega))) only [↓S0, S1, Try.fx, uPK_1, Nat.reduceAdd, Nat.reducePow, Int.reducePow, Nat.reduceBEq, ↓reduceIte, UInt8.reduceToNat, UInt16.reduceToNat, UInt32.reduceToNat, UInt64.reduceToNat, Int.reduceToNat, e9]
  ((try with_reducible refine Cw.go [] ?_); (try simp (disch := (first | assumption | omega | (simp only [lenS, lenT, UInt64.reduceToNat]; try omega))) only [↓S0, S1, Try.fx, uPK_1, Nat.reduceAdd, Nat.reducePow, Int.reducePow, Nat.reduceBEq, ↓reduceIte, UInt8.reduceToNat, UInt16.reduceToNat, UInt32.reduceToNat, UInt64.reduceToNat, Int.reduceToNat]))
  refine ⟨_, (by simp (disch := (first | assumption | omega | (simp only [lenS, lenT, UInt64.reduceToNat]; try omega))) only [↓S0, S1, Try.fx, uPK_1, Nat.reduceAdd, Nat.reducePow, Int.reducePow, Nat.reduceBEq, ↓reduceIte, UInt8.reduceToNat, UInt16.reduceToNat, UInt32.reduceToNat, UInt64.reduceToNat, Int.reduceToNat]; rfl), cN, ?_⟩
  rfl
/-! ### What is more than is looked at -/
def greatE (l : List EntL) : Bool := decide (60 < l.length) || l.any fun e => decide (100 < e.name.length)
set_option linter.defProp false
def uPK_2 := And.intro (And.intro (And.intro (@load_ent0) (@load_ent1)) (And.intro (@load_ent2) (@load_ent))) (And.intro (And.intro (@store_entr) (@cells_ent)) (And.intro (@rdIn_v8) (@rdIn_vi)))
end Go.Proofs
end
section
open Go Go.Proofs Go.Sx Go.StP
namespace Go.Proofs
set_option maxRecDepth 10000
set_option maxHeartbeats 400000
set_option linter.unusedSimpArgs false
/-! ### Frames: the program's answer and the law's -/
theorem numR_shiftE (s : List UInt8) (a : Nat) (e most : Int) : numR s (a + 1) e most = ((numR (s.drop 1) a e most).1, (numR (s.drop 1) a e most).2.1 + 1, (numR (s.drop 1) a e most).2.2) := by
  unfold numR
  rw [List.drop_drop, Nat.add_comm 1 a]
  by_cases he : e ≠ 0
  · rw [if_pos he, if_pos he]
  · rw [if_neg he, if_neg he]
    cases numGo most (List.drop (a + 1) s) 0 0 with
    | error x => rfl
    | ok p => simp only [Prod.mk.injEq, true_and]; exact ⟨by omega, trivial⟩
theorem rawR_shiftE (s : List UInt8) (a : Nat) (e n : Int) (hs : 1 ≤ s.length) : rawR s (a + 1) e n = ((rawR (s.drop 1) a e n).1, (rawR (s.drop 1) a e n).2.1 + 1, (rawR (s.drop 1) a e n).2.2) := by
  unfold rawR
  rw [List.length_drop, List.drop_drop, Nat.add_comm 1 a]
  have hq : ((s.length : Int) - ((a + 1 : Nat) : Int) < n) = (((s.length - 1 : Nat) : Int) - (a : Int) < n) := by rw [eq_iff_iff]; omega
  simp only [hq]
  by_cases he : e ≠ 0
  · simp only [if_pos he]
  · simp only [if_neg he]
    by_cases hn : n < 0
    · simp only [if_pos hn]
    · simp only [if_neg hn]
      by_cases hl : ((s.length - 1 : Nat) : Int) - (a : Int) < n
      · simp only [if_pos hl]
      · simp only [if_neg hl, Prod.mk.injEq, true_and]
        exact ⟨by omega, trivial⟩
theorem textR_shiftE (s : List UInt8) (a : Nat) (e most : Int) (hs : 1 ≤ s.length) : textR s (a + 1) e most = ((textR (s.drop 1) a e most).1, (textR (s.drop 1) a e most).2.1 + 1, (textR (s.drop 1) a e most).2.2) := by
  unfold textR
  simp only [numR_shiftE]
  rw [rawR_shiftE _ _ _ _ hs]
  simp only
  split <;> rfl
theorem frR_cons (c : UInt8) (r : List UInt8) : frR (c :: r) = ([c], 1, 0) := by
  unfold frR rawR
  rw [if_neg (by simp), if_neg (by decide), if_neg (by simp only [List.length_cons]; omega)]
  rfl
theorem frT_cons (c : UInt8) (r : List UInt8) : frT (c :: r) = ((lfT r).1, (lfT r).2.1 + 1, (lfT r).2.2) := by
  unfold frT
  rw [frR_cons]
  exact textR_shiftE (c :: r) 0 0 4096 (by simp)
theorem endE_cons (c : UInt8) (r : List UInt8) (a : Nat) (e : Int) : endE (c :: r) (a + 1) e = endE r a e := by
  unfold endE
  rw [List.length_cons]
  have : ((((a + 1 : Nat) : Int) < ((r.length + 1 : Nat) : Int)) = ((a : Int) < (r.length : Int))) := by rw [eq_iff_iff]; omega
  simp only [this]
theorem frK_cons (c : UInt8) (r : List UInt8) : (fkC c = 0 ∧ ¬ (1 ≤ frK (c :: r) ∧ frK (c :: r) ≤ 3)) ∨ (fkC c ≠ 0 ∧ frK (c :: r) = fkC c ∧ headB (fkC c) = [c]) := by
  have e : frK (c :: r) = Lib.indexByte letL c := by unfold frK; rw [frR_cons]; rfl
  rw [e]
  by_cases h1 : c = 98
  · subst h1; exact .inr ⟨by decide, rfl, rfl⟩
  by_cases h2 : c = 116
  · subst h2; exact .inr ⟨by decide, rfl, rfl⟩
  by_cases h3 : c = 99
  · subst h3; exact .inr ⟨by decide, rfl, rfl⟩
  refine .inl ⟨by unfold fkC; rw [if_neg h1, if_neg h2, if_neg h3], ?_⟩
  have b1 : ((98 : UInt8) == c) = false := beq_eq_false_iff_ne.2 (Ne.symm h1)
  have b2 : ((116 : UInt8) == c) = false := beq_eq_false_iff_ne.2 (Ne.symm h2)
  have b3 : ((99 : UInt8) == c) = false := beq_eq_false_iff_ne.2 (Ne.symm h3)
  simp only [Lib.indexByte, b1, b2, b3, Bool.false_eq_true, ↓reduceIte]
  split <;> simp
theorem RdOk_no {k : Int} {t : List UInt8} (h : ¬ (1 ≤ k ∧ k ≤ 3)) : RdOk k t = false := by
  unfold RdOk; rw [if_neg (fun h' => h ⟨h'.1, h'.2.1⟩)]
theorem fr_lf (s : List UInt8) : frOk s = lfOk s ∧ (frOk s = true → frK s = lfK s ∧ (frT s).1 = (lfT (s.drop 1)).1) := by
  cases s with
  | nil =>
    have h : frOk [] = false := by
      unfold frOk
      rw [RdOk_no (k := frK []) (by decide), Bool.and_false]
    exact ⟨by rw [h]; rfl, fun h' => by rw [h] at h'; cases h'⟩
  | cons c r =>
    have e1 : frOk (c :: r) = (endE r (lfT r).2.1 (lfT r).2.2 == 0 && RdOk (frK (c :: r)) (lfT r).1) := by
      unfold frOk; rw [frT_cons, endE_cons]
    have e2 : lfOk (c :: r) = (fkC c != 0 && endE r (lfT r).2.1 (lfT r).2.2 == 0 && rightL (fkC c) (lfT r).1) := rfl
    rcases frK_cons c r with ⟨h1, h2⟩ | ⟨h1, h2, -⟩
    · rw [e1, e2, RdOk_no h2, h1, Bool.and_false]
      exact ⟨rfl, fun h => by cases h⟩
    · have h3 : (fkC c != 0) = true := by simpa using h1
      rw [e1, e2, h2, h3, RdOk_right, Bool.true_and]
      refine ⟨rfl, fun _ => ⟨rfl, ?_⟩⟩
      rw [frT_cons]; rfl
/-! ### A frame is that of what it is read as, and an object is read of its frame -/
theorem frame_of {s : List UInt8} (h : frOk s = true) : RdOk (frK s) (frT s).1 = true ∧ frameB (frK s) (frT s).1 = s := by
  have h0 := h
  unfold frOk at h0
  simp only [Bool.and_eq_true, beq_iff_eq] at h0
  refine ⟨h0.2, ?_⟩
  cases s with
  | nil => rw [RdOk_no (k := frK []) (by decide)] at h0; cases h0.2
  | cons c r =>
    rw [frT_cons, endE_cons] at h0
    obtain ⟨h1, h2⟩ := endE_zero h0.1
    obtain ⟨-, h3⟩ := textR_canon (s := r) (a := 0) (most := 4096) (Nat.zero_le _) h1
    rcases frK_cons c r with ⟨-, h5⟩ | ⟨-, h5, h6⟩
    · rw [RdOk_no h5] at h0; cases h0.2
    · unfold frameB
      rw [h5, h6, frT_cons]
      have h7 : r.drop (textR r 0 0 4096).2.1 = [] := List.drop_eq_nil_of_le h2
      rw [h7, List.append_nil, List.drop_zero] at h3
      show [c] ++ textL (textR r 0 0 4096).1 = c :: r
      rw [← h3]; rfl
theorem headB_k {k : Int} (h : 1 ≤ k ∧ k ≤ 3) : ∃ c, headB k = [c] ∧ Lib.indexByte letL c = k := by
  rcases (show k = 1 ∨ k = 2 ∨ k = 3 by omega) with rfl | rfl | rfl
  · exact ⟨98, rfl, rfl⟩
  · exact ⟨116, rfl, rfl⟩
  · exact ⟨99, rfl, rfl⟩
theorem read_frame {k : Int} {t : List UInt8} (h : RdOk k t = true) : frOk (frameB k t) = true ∧ frK (frameB k t) = k ∧ (frT (frameB k t)).1 = t := by
  obtain ⟨h1, h2, h3⟩ := RdOk_in h
  obtain ⟨c, hc, hi⟩ := headB_k ⟨h1, h2⟩
  have e : frameB k t = c :: textL t := by unfold frameB; rw [hc]; rfl
  have hk : frK (c :: textL t) = k := by
    have : frK (c :: textL t) = Lib.indexByte letL c := by unfold frK; rw [frR_cons]; rfl
    rw [this, hi]
  have ht := textR_appE [] t [] 4096 (by omega) (by omega)
  rw [List.nil_append, List.append_nil, List.length_nil, Nat.zero_add] at ht
  have hl : lfT (textL t) = (t, (textL t).length, 0) := ht
  rw [e]
  refine ⟨?_, hk, ?_⟩
  · unfold frOk
    rw [hk, frT_cons, endE_cons, hl]
    simp [endE, h]
  · rw [frT_cons, hl]
theorem frameB_len {k : Int} {t : List UInt8} (h : RdOk k t = true) : (frameB k t).length < 100000 := by
  obtain ⟨h1, h2, h3⟩ := RdOk_in h
  obtain ⟨c, hc, -⟩ := headB_k ⟨h1, h2⟩
  unfold frameB textL
  rw [hc, List.length_append, List.length_append]
  have := numL_clamp_len (t.length : Int)
  simp only [List.length_cons, List.length_nil]
  omega
/-! ### The laws -/
structure ObjL where
  kind : Int
  body : List UInt8
def objC (r : ObjL) : List Value := [vi r.kind] ++ ([vs r.body])
def obj0 : ObjL := ⟨0, []⟩
theorem obj_at0 (r : ObjL) : objC r = ([] : List Value) ++ (([vi r.kind]) ++ ([vs r.body])) := by
  unfold objC; simp only [List.append_assoc, List.nil_append, List.append_nil]
theorem obj_p0 (r : ObjL) : partV (false, 1) (objC r).toArray 0 = some (vi r.kind) := by
  rw [obj_at0]; exact part_one _ _ _ (by simp)
theorem obj_at1 (r : ObjL) : objC r = (([vi r.kind])) ++ (([vs r.body]) ++ (([] : List Value))) := by
  unfold objC; simp only [List.append_assoc, List.nil_append, List.append_nil]
theorem obj_p1 (r : ObjL) : partV (false, 1) (objC r).toArray 1 = some (vs r.body) := by
  rw [obj_at1]; exact part_one _ _ _ (by simp)
theorem stoodObj : Try.prog.stoodInHeld 31 = false := by kernel_rfl
theorem guardObj : Try.prog.eqGuardType Try.prog.depth 31 = false := by kernel_rfl
theorem eqDObj (r r' : ObjL) : eqD Try.prog 8 31 (.agg (objC r).toArray) (.agg (objC r').toArray) = some ((r.kind == r'.kind) && (r.body == r'.body)) := by
  have hi : ∀ (a b : Int), eqD Try.prog 7 3 (vi a) (vi b) = some (a == b) := by
    intro a b; unfold eqD; rw [Try.underlying3]; rfl
  have hs : ∀ (a b : List UInt8), eqD Try.prog 7 9 (vs a) (vs b) = some (a == b) := by
    intro a b; unfold eqD; rw [Try.underlying9]; simp only [vs, bs_beq]
  have agi : aggT Try.prog 3 = some (false, 1) := id (by kernel_rfl)
  have ags : aggT Try.prog 9 = some (false, 1) := id (by kernel_rfl)
  unfold eqD
  rw [Try.underlying31]
  simp only
  rw [stoodObj]
  simp only [Bool.false_eq_true, ↓reduceIte, eqFieldsV, eqPartV, agi, ags, obj_p0, obj_p1, hi, hs]
  cases (r.kind == r'.kind) <;> cases (r.body == r'.body) <;> simp
theorem eqObj (r r' : ObjL) : binX Try.prog .eql 31 (.agg (objC r).toArray) (.agg (objC r').toArray) = some (.bool ((r.kind == r'.kind) && (r.body == r'.body))) := by
  unfold binX eqX; rw [guardObj]; simp [plainV, eqDObj]
theorem neObj (r r' : ObjL) : binX Try.prog .neq 31 (.agg (objC r).toArray) (.agg (objC r').toArray) = some (.bool (!((r.kind == r'.kind) && (r.body == r'.body)))) := by
  unfold binX eqX; rw [guardObj]; simp [plainV, eqDObj]
theorem eqOb (k k' : Int) (t t' : List UInt8) : binX Try.prog .eql 31 (obV k t) (obV k' t') = some (.bool ((k == k') && (t == t'))) := eqObj ⟨k, t⟩ ⟨k', t'⟩
theorem neOb (k k' : Int) (t t' : List UInt8) : binX Try.prog .neq 31 (obV k t) (obV k' t') = some (.bool (!((k == k') && (t == t')))) := neObj ⟨k, t⟩ ⟨k', t'⟩
theorem eqBo (a b : Bool) : binX Try.prog .eql 4 (.bool a) (.bool b) = some (.bool (a == b)) := by
  simp [binX, eqX, plainV, eqNilV, Try.underlying4]
set_option linter.defProp false
def uPL_1 := And.intro (And.intro (And.intro (@load_ob) (And.intro (@load_ob0) (@load_ob1))) (And.intro (And.intro (@store_ob) (@Sx.tup2_0)) (And.intro (@Sx.tup2_1) (@eqOb)))) (And.intro (And.intro (And.intro (@neOb) (@eqBo)) (And.intro (@Bool.and_true) (@Bool.true_and))) (And.intro (And.intro (@Bool.and_false) (@Bool.false_and)) (And.intro (@rdIn_v8) (@rdIn_vi))))
theorem ObjectReads_spec (s : List UInt8) (w : World) : Rets Try.prog 6 #[vs s] w (fun v D => v = .bool true ∧ D = []) := by
  refine Rets.enterV Try.func6 rfl (rs := [.tmp 2]) Try.results6 Try.ntmps6 ?_
  simp only [List.size_toArray, List.length_cons, List.length_nil, Nat.reduceAdd, Nat.reduceSub, List.replicate_succ, List.replicate_zero, List.cons_append, List.nil_append]
  ((try with_reducible refine Cw.go [] ?_); (try simp (disch := (first | assumption | omega | (simp only [lenS, lenT, UInt64.reduceToNat]; try omega))) only [↓S0, S1, Try.fx, uPL_1, Nat.reduceAdd, Nat.reducePow, Int.reducePow, Nat.reduceBEq, ↓reduceIte, UInt8.reduceToNat, UInt16.reduceToNat, UInt32.reduceToNat, UInt64.reduceToNat, Int.reduceToNat]))
  refine Ow.callFV rfl Try.call8 (fun w' hw' => alive_spec w') ?_
  refine Ow.go rfl ?_
  simp (disch := (first | assumption | omega | (simp only [lenS, lenT, UInt64.reduceToNat]; try omega))) only [↓S0, S1, Try.fx, uPL_1, Nat.reduceAdd, Nat.reducePow, Int.reducePow, Nat.reduceBEq, ↓reduceIte, UInt8.reduceToNat, UInt16.reduceToNat, UInt32.reduceToNat, UInt64.reduceToNat, Int.reduceToNat]
  by_cases h6 : 6000 < s.length
  · have d1 : decide ((6000 : Int) < (s.length : Int)) = true := decide_eq_true (by omega)
    ((try with_reducible refine Cw.go [] ?_); (try simp (disch := (first | assumption | omega | (simp only [lenS, lenT, UInt64.reduceToNat]; try omega))) only [↓S0, S1, Try.fx, uPL_1, Nat.reduceAdd, Nat.reducePow, Int.reducePow, Nat.reduceBEq, ↓reduceIte, UInt8.reduceToNat, UInt16.reduceToNat, UInt32.reduceToNat, UInt64.reduceToNat, Int.reduceToNat, d1]))
    refine Ow.callFV rfl Try.call8 (fun w' hw' => alive_spec w') ?_
    refine Ow.go rfl ?_
    simp (disch := (first | assumption | omega | (simp only [lenS, lenT, UInt64.reduceToNat]; try omega))) only [↓S0, S1, Try.fx, uPL_1, Nat.reduceAdd, Nat.reducePow, Int.reducePow, Nat.reduceBEq, ↓reduceIte, UInt8.reduceToNat, UInt16.reduceToNat, UInt32.reduceToNat, UInt64.reduceToNat, Int.reduceToNat]
    ((try with_reducible refine Cw.go [] ?_); (try simp (disch := (first | assumption | omega | (simp only [lenS, lenT, UInt64.reduceToNat]; try omega))) only [↓S0, S1, Try.fx, uPL_1, Nat.reduceAdd, Nat.reducePow, Int.reducePow, Nat.reduceBEq, ↓reduceIte, UInt8.reduceToNat, UInt16.reduceToNat, UInt32.reduceToNat, UInt64.reduceToNat, Int.reduceToNat]))
    refine ⟨_, (by simp (disch := (first | assumption | omega | (simp only [lenS, lenT, UInt64.reduceToNat]; try omega))) only [↓S0, S1, Try.fx, uPL_1, Nat.reduceAdd, Nat.reducePow, Int.reducePow, Nat.reduceBEq, ↓reduceIte, UInt8.reduceToNat, UInt16.reduceToNat, UInt32.reduceToNat, UInt64.reduceToNat, Int.reduceToNat]; rfl), trivial, ?_⟩
    rfl
  · have d1 : decide ((6000 : Int) < (s.length : Int)) = false := decide_eq_false (by omega)
    ((try with_reducible refine Cw.go [] ?_); (try simp (disch := (first | assumption | omega | (simp only [lenS, lenT, UInt64.reduceToNat]; try omega))) only [↓S0, S1, Try.fx, uPL_1, Nat.reduceAdd, Nat.reducePow, Int.reducePow, Nat.reduceBEq, ↓reduceIte, UInt8.reduceToNat, UInt16.reduceToNat, UInt32.reduceToNat, UInt64.reduceToNat, Int.reduceToNat, d1]))
    refine Ow.callF rfl rfl Try.call23 (S := fun _ v D => ReadFS s v ∧ D = []) (fun w' hw' => ReadO_spec s w' (by omega)) ?_
    rintro B v D - - ⟨hv, rfl⟩
    refine ⟨_, Mrg.nil, ?_⟩
    unfold ReadFS at hv
    subst hv
    refine Ow.go rfl ?_
    simp (disch := (first | assumption | omega | (simp only [lenS, lenT, UInt64.reduceToNat]; try omega))) only [↓S0, S1, Try.fx, uPL_1, Nat.reduceAdd, Nat.reducePow, Int.reducePow, Nat.reduceBEq, ↓reduceIte, UInt8.reduceToNat, UInt16.reduceToNat, UInt32.reduceToNat, UInt64.reduceToNat, Int.reduceToNat]
    refine Ow.alloc rfl rfl zrOb fun b3 hb3 hw3 => ?_
    simp only [cells_agg, List.nil_append, List.cons_append]
    refine Ow.go rfl ?_
    simp (disch := (first | assumption | omega | (simp only [lenS, lenT, UInt64.reduceToNat]; try omega))) only [↓S0, S1, Try.fx, uPL_1, Nat.reduceAdd, Nat.reducePow, Int.reducePow, Nat.reduceBEq, ↓reduceIte, UInt8.reduceToNat, UInt16.reduceToNat, UInt32.reduceToNat, UInt64.reduceToNat, Int.reduceToNat]
    refine Ow.callF rfl rfl Try.call24 (S := fun _ v D => ReadLS s v ∧ D = []) (fun w' hw' => ReadL_spec s w' (by omega)) ?_
    rintro B v D - - ⟨hv, rfl⟩
    refine ⟨_, Mrg.nil, ?_⟩
    unfold ReadLS at hv
    subst hv
    refine Ow.go rfl ?_
    simp (disch := (first | assumption | omega | (simp only [lenS, lenT, UInt64.reduceToNat]; try omega))) only [↓S0, S1, Try.fx, uPL_1, Nat.reduceAdd, Nat.reducePow, Int.reducePow, Nat.reduceBEq, ↓reduceIte, UInt8.reduceToNat, UInt16.reduceToNat, UInt32.reduceToNat, UInt64.reduceToNat, Int.reduceToNat]
    refine Ow.alloc rfl rfl zrOb fun b5 hb5 hw5 => ?_
    simp only [cells_agg, List.nil_append, List.cons_append]
    have h35 : b3 < b5 := above_to hb5 (by simp [keys])
    refine Ow.go rfl ?_
    simp (disch := (first | assumption | omega | (simp only [lenS, lenT, UInt64.reduceToNat]; try omega))) only [↓S0, S1, Try.fx, uPL_1, Nat.reduceAdd, Nat.reducePow, Int.reducePow, Nat.reduceBEq, ↓reduceIte, UInt8.reduceToNat, UInt16.reduceToNat, UInt32.reduceToNat, UInt64.reduceToNat, Int.reduceToNat]
    ((try with_reducible refine Cw.go [] ?_); (try simp (disch := (first | assumption | omega | (simp only [lenS, lenT, UInt64.reduceToNat]; try omega))) only [↓S0, S1, Try.fx, uPL_1, Nat.reduceAdd, Nat.reducePow, Int.reducePow, Nat.reduceBEq, ↓reduceIte, UInt8.reduceToNat, UInt16.reduceToNat, UInt32.reduceToNat, UInt64.reduceToNat, Int.reduceToNat]))
    refine Ow.callFV rfl Try.call8 (fun w' hw' => alive_spec w') ?_
    obtain ⟨he, hk⟩ := fr_lf s
    rw [← he]
    cases ho : frOk s
    · refine Ow.go rfl ?_
      simp (disch := (first | assumption | omega | (simp only [lenS, lenT, UInt64.reduceToNat]; try omega))) only [↓S0, S1, Try.fx, uPL_1, Nat.reduceAdd, Nat.reducePow, Int.reducePow, Nat.reduceBEq, ↓reduceIte, UInt8.reduceToNat, UInt16.reduceToNat, UInt32.reduceToNat, UInt64.reduceToNat, Int.reduceToNat]
      ((try with_reducible refine Cw.go [] ?_); (try simp (disch := (first | assumption | omega | (simp only [lenS, lenT, UInt64.reduceToNat]; try omega))) only [↓S0, S1, Try.fx, uPL_1, Nat.reduceAdd, Nat.reducePow, Int.reducePow, Nat.reduceBEq, ↓reduceIte, UInt8.reduceToNat, UInt16.reduceToNat, UInt32.reduceToNat, UInt64.reduceToNat, Int.reduceToNat]))
      refine ⟨_, (by simp (disch := (first | assumption | omega | (simp only [lenS, lenT, UInt64.reduceToNat]; try omega))) only [↓S0, S1, Try.fx, uPL_1, Nat.reduceAdd, Nat.reducePow, Int.reducePow, Nat.reduceBEq, ↓reduceIte, UInt8.reduceToNat, UInt16.reduceToNat, UInt32.reduceToNat, UInt64.reduceToNat, Int.reduceToNat]; rfl), ⟨hw3, hw5, trivial⟩, ?_⟩
      rfl
    · obtain ⟨hk1, hk2⟩ := hk ho
      rw [← hk1, ← hk2]
      have d2 : (frK s == frK s && (frT s).1 == (frT s).1) = true := by simp
      refine Ow.go rfl ?_
      simp (disch := (first | assumption | omega | (simp only [lenS, lenT, UInt64.reduceToNat]; try omega))) only [↓S0, S1, Try.fx, uPL_1, Nat.reduceAdd, Nat.reducePow, Int.reducePow, Nat.reduceBEq, ↓reduceIte, UInt8.reduceToNat, UInt16.reduceToNat, UInt32.reduceToNat, UInt64.reduceToNat, Int.reduceToNat, d2]
      ((try with_reducible refine Cw.go [] ?_); (try simp (disch := (first | assumption | omega | (simp only [lenS, lenT, UInt64.reduceToNat]; try omega))) only [↓S0, S1, Try.fx, uPL_1, Nat.reduceAdd, Nat.reducePow, Int.reducePow, Nat.reduceBEq, ↓reduceIte, UInt8.reduceToNat, UInt16.reduceToNat, UInt32.reduceToNat, UInt64.reduceToNat, Int.reduceToNat]))
      refine ⟨_, (by simp (disch := (first | assumption | omega | (simp only [lenS, lenT, UInt64.reduceToNat]; try omega))) only [↓S0, S1, Try.fx, uPL_1, Nat.reduceAdd, Nat.reducePow, Int.reducePow, Nat.reduceBEq, ↓reduceIte, UInt8.reduceToNat, UInt16.reduceToNat, UInt32.reduceToNat, UInt64.reduceToNat, Int.reduceToNat]; rfl), ⟨hw3, hw5, trivial⟩, ?_⟩
      rfl
end Go.Proofs
end
section
open Go Go.Proofs Go.Sx Go.StP
namespace Go.Proofs
set_option maxRecDepth 10000
set_option maxHeartbeats 400000
set_option linter.unusedSimpArgs false
set_option linter.defProp false
def uPM_1 := And.intro (And.intro (And.intro (@load_ob) (And.intro (@load_ob0) (@load_ob1))) (And.intro (And.intro (@store_ob) (@Sx.tup2_0)) (And.intro (@Sx.tup2_1) (@eqOb)))) (And.intro (And.intro (And.intro (@neOb) (@eqBo)) (And.intro (@Bool.and_true) (@Bool.true_and))) (And.intro (And.intro (@Bool.and_false) (@Bool.false_and)) (And.intro (@rdIn_v8) (@rdIn_vi))))
theorem ObjectBack_spec (k : Int) (t s : List UInt8) (w : World) : Rets Try.prog 7 #[obV k t, vs s] w (fun v D => v = .bool true ∧ D = []) := by
  refine Rets.enterV Try.func7 rfl (rs := [.tmp 4]) Try.results7 Try.ntmps7 ?_
  simp only [List.size_toArray, List.length_cons, List.length_nil, Nat.reduceAdd, Nat.reduceSub, List.replicate_succ, List.replicate_zero, List.cons_append, List.nil_append]
  ((try with_reducible refine Cw.go [1000006] ?_); (try simp (disch := (first | assumption | omega | (simp only [lenS, lenT, UInt64.reduceToNat]; try omega))) only [↓S0, S1, Try.fx, uPM_1, Nat.reduceAdd, Nat.reducePow, Int.reducePow, Nat.reduceBEq, ↓reduceIte, UInt8.reduceToNat, UInt16.reduceToNat, UInt32.reduceToNat, UInt64.reduceToNat, Int.reduceToNat]))
  refine Ow.box rfl rfl fun b2 hb2 hw2 => ?_
  simp only [ev_tmp, getF_0, getF_s, cells_agg, List.nil_append]
  refine Ow.go rfl ?_
  simp (disch := (first | assumption | omega | (simp only [lenS, lenT, UInt64.reduceToNat]; try omega))) only [↓S0, S1, Try.fx, uPM_1, Nat.reduceAdd, Nat.reducePow, Int.reducePow, Nat.reduceBEq, ↓reduceIte, UInt8.reduceToNat, UInt16.reduceToNat, UInt32.reduceToNat, UInt64.reduceToNat, Int.reduceToNat]
  refine Ow.callFV rfl Try.call8 (fun w' hw' => alive_spec w') ?_
  refine Ow.go rfl ?_
  simp (disch := (first | assumption | omega | (simp only [lenS, lenT, UInt64.reduceToNat]; try omega))) only [↓S0, S1, Try.fx, uPM_1, Nat.reduceAdd, Nat.reducePow, Int.reducePow, Nat.reduceBEq, ↓reduceIte, UInt8.reduceToNat, UInt16.reduceToNat, UInt32.reduceToNat, UInt64.reduceToNat, Int.reduceToNat]
  by_cases h6 : 6000 < t.length
  · have d1 : decide ((6000 : Int) < (t.length : Int)) = true := decide_eq_true (by omega)
    ((try with_reducible refine Cw.go [] ?_); (try simp (disch := (first | assumption | omega | (simp only [lenS, lenT, UInt64.reduceToNat]; try omega))) only [↓S0, S1, Try.fx, uPM_1, Nat.reduceAdd, Nat.reducePow, Int.reducePow, Nat.reduceBEq, ↓reduceIte, UInt8.reduceToNat, UInt16.reduceToNat, UInt32.reduceToNat, UInt64.reduceToNat, Int.reduceToNat, d1]))
    refine Ow.callFV rfl Try.call8 (fun w' hw' => alive_spec w') ?_
    refine Ow.go rfl ?_
    simp (disch := (first | assumption | omega | (simp only [lenS, lenT, UInt64.reduceToNat]; try omega))) only [↓S0, S1, Try.fx, uPM_1, Nat.reduceAdd, Nat.reducePow, Int.reducePow, Nat.reduceBEq, ↓reduceIte, UInt8.reduceToNat, UInt16.reduceToNat, UInt32.reduceToNat, UInt64.reduceToNat, Int.reduceToNat]
    ((try with_reducible refine Cw.go [] ?_); (try simp (disch := (first | assumption | omega | (simp only [lenS, lenT, UInt64.reduceToNat]; try omega))) only [↓S0, S1, Try.fx, uPM_1, Nat.reduceAdd, Nat.reducePow, Int.reducePow, Nat.reduceBEq, ↓reduceIte, UInt8.reduceToNat, UInt16.reduceToNat, UInt32.reduceToNat, UInt64.reduceToNat, Int.reduceToNat]))
    refine ⟨_, (by simp (disch := (first | assumption | omega | (simp only [lenS, lenT, UInt64.reduceToNat]; try omega))) only [↓S0, S1, Try.fx, uPM_1, Nat.reduceAdd, Nat.reducePow, Int.reducePow, Nat.reduceBEq, ↓reduceIte, UInt8.reduceToNat, UInt16.reduceToNat, UInt32.reduceToNat, UInt64.reduceToNat, Int.reduceToNat]; rfl), ⟨hw2, trivial⟩, ?_⟩
    rfl
  by_cases h7 : 6000 < s.length
  · have d1 : decide ((6000 : Int) < (t.length : Int)) = false := decide_eq_false (by omega)
    have d2 : decide ((6000 : Int) < (s.length : Int)) = true := decide_eq_true (by omega)
    ((try with_reducible refine Cw.go [] ?_); (try simp (disch := (first | assumption | omega | (simp only [lenS, lenT, UInt64.reduceToNat]; try omega))) only [↓S0, S1, Try.fx, uPM_1, Nat.reduceAdd, Nat.reducePow, Int.reducePow, Nat.reduceBEq, ↓reduceIte, UInt8.reduceToNat, UInt16.reduceToNat, UInt32.reduceToNat, UInt64.reduceToNat, Int.reduceToNat, d1, d2]))
    refine Ow.callFV rfl Try.call8 (fun w' hw' => alive_spec w') ?_
    refine Ow.go rfl ?_
    simp (disch := (first | assumption | omega | (simp only [lenS, lenT, UInt64.reduceToNat]; try omega))) only [↓S0, S1, Try.fx, uPM_1, Nat.reduceAdd, Nat.reducePow, Int.reducePow, Nat.reduceBEq, ↓reduceIte, UInt8.reduceToNat, UInt16.reduceToNat, UInt32.reduceToNat, UInt64.reduceToNat, Int.reduceToNat]
    ((try with_reducible refine Cw.go [] ?_); (try simp (disch := (first | assumption | omega | (simp only [lenS, lenT, UInt64.reduceToNat]; try omega))) only [↓S0, S1, Try.fx, uPM_1, Nat.reduceAdd, Nat.reducePow, Int.reducePow, Nat.reduceBEq, ↓reduceIte, UInt8.reduceToNat, UInt16.reduceToNat, UInt32.reduceToNat, UInt64.reduceToNat, Int.reduceToNat]))
    refine ⟨_, (by simp (disch := (first | assumption | omega | (simp only [lenS, lenT, UInt64.reduceToNat]; try omega))) only [↓S0, S1, Try.fx, uPM_1, Nat.reduceAdd, Nat.reducePow, Int.reducePow, Nat.reduceBEq, ↓reduceIte, UInt8.reduceToNat, UInt16.reduceToNat, UInt32.reduceToNat, UInt64.reduceToNat, Int.reduceToNat]; rfl), ⟨hw2, trivial⟩, ?_⟩
    rfl
  have d1 : decide ((6000 : Int) < (t.length : Int)) = false := decide_eq_false (by omega)
  have d2 : decide ((6000 : Int) < (s.length : Int)) = false := decide_eq_false (by omega)
  ((try with_reducible refine Cw.go [1000006] ?_); (try simp (disch := (first | assumption | omega | (simp only [lenS, lenT, UInt64.reduceToNat]; try omega))) only [↓S0, S1, Try.fx, uPM_1, Nat.reduceAdd, Nat.reducePow, Int.reducePow, Nat.reduceBEq, ↓reduceIte, UInt8.reduceToNat, UInt16.reduceToNat, UInt32.reduceToNat, UInt64.reduceToNat, Int.reduceToNat, d1, d2]))
  refine Ow.callF rfl rfl Try.call23 (S := fun _ v D => ReadFS s v ∧ D = []) (fun w' hw' => ReadO_spec s w' (by omega)) ?_
  rintro B v D - - ⟨hv, rfl⟩
  refine ⟨_, Mrg.nil, ?_⟩
  unfold ReadFS at hv
  subst hv
  refine Ow.go rfl ?_
  simp (disch := (first | assumption | omega | (simp only [lenS, lenT, UInt64.reduceToNat]; try omega))) only [↓S0, S1, Try.fx, uPM_1, Nat.reduceAdd, Nat.reducePow, Int.reducePow, Nat.reduceBEq, ↓reduceIte, UInt8.reduceToNat, UInt16.reduceToNat, UInt32.reduceToNat, UInt64.reduceToNat, Int.reduceToNat]
  refine Ow.alloc rfl rfl zrOb fun b5 hb5 hw5 => ?_
  simp only [cells_agg, List.nil_append, List.cons_append]
  have h25 : b2 < b5 := above_to hb5 (by simp [keys])
  refine Ow.go rfl ?_
  simp (disch := (first | assumption | omega | (simp only [lenS, lenT, UInt64.reduceToNat]; try omega))) only [↓S0, S1, Try.fx, uPM_1, Nat.reduceAdd, Nat.reducePow, Int.reducePow, Nat.reduceBEq, ↓reduceIte, UInt8.reduceToNat, UInt16.reduceToNat, UInt32.reduceToNat, UInt64.reduceToNat, Int.reduceToNat]
  refine Cw.cut (G := (Heap × Int × List UInt8)) 76 (fun g => [(1, vs s), (2, vp b2 0), (4, .bool false)]) (fun g => (b2, Obj.cells #[vi k, vs t] 31 (0, 0)) :: g.1) (fun g => New w.heap.size g.1) ?_ ?_
  · cases ho : frOk s
    · have e : ((2 : Int) == 0) = false := rfl
      ((try with_reducible refine Cw.go [] ?_); (try simp (disch := (first | assumption | omega | (simp only [lenS, lenT, UInt64.reduceToNat]; try omega))) only [↓S0, S1, Try.fx, uPM_1, Nat.reduceAdd, Nat.reducePow, Int.reducePow, Nat.reduceBEq, ↓reduceIte, UInt8.reduceToNat, UInt16.reduceToNat, UInt32.reduceToNat, UInt64.reduceToNat, Int.reduceToNat, e]))
      exact CutM.mk ([(b5, Obj.cells #[vi 0, vs []] 31 (0, 0))], 0, []) ⟨hw5, trivial⟩ rfl rfl
    · obtain ⟨hr, hf⟩ := frame_of ho
      ((try with_reducible refine Cw.go [] ?_); (try simp (disch := (first | assumption | omega | (simp only [lenS, lenT, UInt64.reduceToNat]; try omega))) only [↓S0, S1, Try.fx, uPM_1, Nat.reduceAdd, Nat.reducePow, Int.reducePow, Nat.reduceBEq, ↓reduceIte, UInt8.reduceToNat, UInt16.reduceToNat, UInt32.reduceToNat, UInt64.reduceToNat, Int.reduceToNat]))
      refine Ow.callC rfl rfl Try.call25 (fun w' hw' => FrameO_spec (frK s) (frT s).1 w') (fun B v D hA hB hN hS => ?_)
      rw [hr, if_pos rfl, hf] at hS
      subst hS
      have d3 : (s != s) = false := by simp
      refine Ow.go rfl ?_
      simp (disch := (first | assumption | omega | (simp only [lenS, lenT, UInt64.reduceToNat]; try omega))) only [↓S0, S1, Try.fx, uPM_1, Nat.reduceAdd, Nat.reducePow, Int.reducePow, Nat.reduceBEq, ↓reduceIte, UInt8.reduceToNat, UInt16.reduceToNat, UInt32.reduceToNat, UInt64.reduceToNat, Int.reduceToNat]
      ((try with_reducible refine Cw.go [] ?_); (try simp (disch := (first | assumption | omega | (simp only [lenS, lenT, UInt64.reduceToNat]; try omega))) only [↓S0, S1, Try.fx, uPM_1, Nat.reduceAdd, Nat.reducePow, Int.reducePow, Nat.reduceBEq, ↓reduceIte, UInt8.reduceToNat, UInt16.reduceToNat, UInt32.reduceToNat, UInt64.reduceToNat, Int.reduceToNat, d3]))
      exact CutM.mk ((b5, Obj.cells #[vi (frK s), vs (frT s).1] 31 (0, 0)) :: D, 0, []) ⟨hw5, New.mono hB hN⟩ rfl rfl
  · intro g j hg
    simp only [allF_s, allF_0, pin, setF_0, setF_s, Nat.reduceAdd]
    obtain ⟨D, k', t'⟩ := g
    simp only at hg ⊢
    ((try with_reducible refine Cw.go [] ?_); (try simp (disch := (first | assumption | omega | (simp only [lenS, lenT, UInt64.reduceToNat]; try omega))) only [↓S0, S1, Try.fx, uPM_1, Nat.reduceAdd, Nat.reducePow, Int.reducePow, Nat.reduceBEq, ↓reduceIte, UInt8.reduceToNat, UInt16.reduceToNat, UInt32.reduceToNat, UInt64.reduceToNat, Int.reduceToNat]))
    refine Ow.callC rfl rfl Try.call25 (fun w' hw' => FrameO_spec k t w') (fun B v D2 hA hB hN hS => ?_)
    cases hr : RdOk k t
    · rw [hr, if_neg (by decide)] at hS
      subst hS
      refine Ow.go rfl ?_
      simp (disch := (first | assumption | omega | (simp only [lenS, lenT, UInt64.reduceToNat]; try omega))) only [↓S0, S1, Try.fx, uPM_1, Nat.reduceAdd, Nat.reducePow, Int.reducePow, Nat.reduceBEq, ↓reduceIte, UInt8.reduceToNat, UInt16.reduceToNat, UInt32.reduceToNat, UInt64.reduceToNat, Int.reduceToNat]
      ((try with_reducible refine Cw.go [] ?_); (try simp (disch := (first | assumption | omega | (simp only [lenS, lenT, UInt64.reduceToNat]; try omega))) only [↓S0, S1, Try.fx, uPM_1, Nat.reduceAdd, Nat.reducePow, Int.reducePow, Nat.reduceBEq, ↓reduceIte, UInt8.reduceToNat, UInt16.reduceToNat, UInt32.reduceToNat, UInt64.reduceToNat, Int.reduceToNat]))
      refine Ow.callF rfl rfl Try.call23 (S := fun _ v D => ReadFS [] v ∧ D = []) (fun w' hw' => ReadO_spec [] w' (by decide)) ?_
      rintro B9 v9 D9 - - ⟨hv, rfl⟩
      refine ⟨_, Mrg.nil, ?_⟩
      have h0 : frOk [] = false := by unfold frOk; rw [RdOk_no (k := frK []) (by decide), Bool.and_false]
      unfold ReadFS at hv
      rw [h0] at hv
      subst hv
      refine Ow.go rfl ?_
      simp (disch := (first | assumption | omega | (simp only [lenS, lenT, UInt64.reduceToNat]; try omega))) only [↓S0, S1, Try.fx, uPM_1, Nat.reduceAdd, Nat.reducePow, Int.reducePow, Nat.reduceBEq, ↓reduceIte, UInt8.reduceToNat, UInt16.reduceToNat, UInt32.reduceToNat, UInt64.reduceToNat, Int.reduceToNat]
      refine Ow.alloc rfl rfl zrOb fun b11 hb11 hw11 => ?_
      simp only [cells_agg, List.nil_append, List.cons_append]
      have h2b : b2 < b11 := above_to hb11 (by simp [keys])
      refine Ow.permL (M := (b11, Obj.cells #[vi 0, vs []] 31 (0, 0)) :: (b2, Obj.cells #[vi k, vs t] 31 (0, 0)) :: (D ++ D2)) (by classical exact List.perm_iff_count.2 fun a => by simp only [List.count_append, List.count_cons, List.count_nil] <;> omega) ?_
      refine Ow.go rfl ?_
      simp (disch := (first | assumption | omega | (simp only [lenS, lenT, UInt64.reduceToNat]; try omega))) only [↓S0, S1, Try.fx, uPM_1, Nat.reduceAdd, Nat.reducePow, Int.reducePow, Nat.reduceBEq, ↓reduceIte, UInt8.reduceToNat, UInt16.reduceToNat, UInt32.reduceToNat, UInt64.reduceToNat, Int.reduceToNat]
      ((try with_reducible refine Cw.go [] ?_); (try simp (disch := (first | assumption | omega | (simp only [lenS, lenT, UInt64.reduceToNat]; try omega))) only [↓S0, S1, Try.fx, uPM_1, Nat.reduceAdd, Nat.reducePow, Int.reducePow, Nat.reduceBEq, ↓reduceIte, UInt8.reduceToNat, UInt16.reduceToNat, UInt32.reduceToNat, UInt64.reduceToNat, Int.reduceToNat]))
      refine Ow.callFV rfl Try.call8 (fun w' hw' => alive_spec w') ?_
      have e1 : ((1 : Int) != 0) = true := rfl
      refine Ow.go rfl ?_
      simp (disch := (first | assumption | omega | (simp only [lenS, lenT, UInt64.reduceToNat]; try omega))) only [↓S0, S1, Try.fx, uPM_1, Nat.reduceAdd, Nat.reducePow, Int.reducePow, Nat.reduceBEq, ↓reduceIte, UInt8.reduceToNat, UInt16.reduceToNat, UInt32.reduceToNat, UInt64.reduceToNat, Int.reduceToNat, e1]
      ((try with_reducible refine Cw.go [] ?_); (try simp (disch := (first | assumption | omega | (simp only [lenS, lenT, UInt64.reduceToNat]; try omega))) only [↓S0, S1, Try.fx, uPM_1, Nat.reduceAdd, Nat.reducePow, Int.reducePow, Nat.reduceBEq, ↓reduceIte, UInt8.reduceToNat, UInt16.reduceToNat, UInt32.reduceToNat, UInt64.reduceToNat, Int.reduceToNat]))
      refine ⟨_, (by simp (disch := (first | assumption | omega | (simp only [lenS, lenT, UInt64.reduceToNat]; try omega))) only [↓S0, S1, Try.fx, uPM_1, Nat.reduceAdd, Nat.reducePow, Int.reducePow, Nat.reduceBEq, ↓reduceIte, UInt8.reduceToNat, UInt16.reduceToNat, UInt32.reduceToNat, UInt64.reduceToNat, Int.reduceToNat]; rfl), ⟨hw11, hw2, hg.app (New.mono hB hN)⟩, ?_⟩
      rfl
    · rw [hr, if_pos rfl] at hS
      subst hS
      obtain ⟨q1, q2, q3⟩ := read_frame hr
      refine Ow.go rfl ?_
      simp (disch := (first | assumption | omega | (simp only [lenS, lenT, UInt64.reduceToNat]; try omega))) only [↓S0, S1, Try.fx, uPM_1, Nat.reduceAdd, Nat.reducePow, Int.reducePow, Nat.reduceBEq, ↓reduceIte, UInt8.reduceToNat, UInt16.reduceToNat, UInt32.reduceToNat, UInt64.reduceToNat, Int.reduceToNat]
      ((try with_reducible refine Cw.go [] ?_); (try simp (disch := (first | assumption | omega | (simp only [lenS, lenT, UInt64.reduceToNat]; try omega))) only [↓S0, S1, Try.fx, uPM_1, Nat.reduceAdd, Nat.reducePow, Int.reducePow, Nat.reduceBEq, ↓reduceIte, UInt8.reduceToNat, UInt16.reduceToNat, UInt32.reduceToNat, UInt64.reduceToNat, Int.reduceToNat]))
      refine Ow.callF rfl rfl Try.call23 (S := fun _ v D => ReadFS (frameB k t) v ∧ D = []) (fun w' hw' => ReadO_spec (frameB k t) w' (frameB_len hr)) ?_
      rintro B9 v9 D9 - - ⟨hv, rfl⟩
      refine ⟨_, Mrg.nil, ?_⟩
      unfold ReadFS at hv
      rw [q1, q2, q3] at hv
      subst hv
      refine Ow.go rfl ?_
      simp (disch := (first | assumption | omega | (simp only [lenS, lenT, UInt64.reduceToNat]; try omega))) only [↓S0, S1, Try.fx, uPM_1, Nat.reduceAdd, Nat.reducePow, Int.reducePow, Nat.reduceBEq, ↓reduceIte, UInt8.reduceToNat, UInt16.reduceToNat, UInt32.reduceToNat, UInt64.reduceToNat, Int.reduceToNat]
      refine Ow.alloc rfl rfl zrOb fun b11 hb11 hw11 => ?_
      simp only [cells_agg, List.nil_append, List.cons_append]
      have h2b : b2 < b11 := above_to hb11 (by simp [keys])
      refine Ow.permL (M := (b11, Obj.cells #[vi 0, vs []] 31 (0, 0)) :: (b2, Obj.cells #[vi k, vs t] 31 (0, 0)) :: (D ++ D2)) (by classical exact List.perm_iff_count.2 fun a => by simp only [List.count_append, List.count_cons, List.count_nil] <;> omega) ?_
      refine Ow.go rfl ?_
      simp (disch := (first | assumption | omega | (simp only [lenS, lenT, UInt64.reduceToNat]; try omega))) only [↓S0, S1, Try.fx, uPM_1, Nat.reduceAdd, Nat.reducePow, Int.reducePow, Nat.reduceBEq, ↓reduceIte, UInt8.reduceToNat, UInt16.reduceToNat, UInt32.reduceToNat, UInt64.reduceToNat, Int.reduceToNat]
      ((try with_reducible refine Cw.go [] ?_); (try simp (disch := (first | assumption | omega | (simp only [lenS, lenT, UInt64.reduceToNat]; try omega))) only [↓S0, S1, Try.fx, uPM_1, Nat.reduceAdd, Nat.reducePow, Int.reducePow, Nat.reduceBEq, ↓reduceIte, UInt8.reduceToNat, UInt16.reduceToNat, UInt32.reduceToNat, UInt64.reduceToNat, Int.reduceToNat]))
      refine Ow.callFV rfl Try.call8 (fun w' hw' => alive_spec w') ?_
      have e1 : (k == k && t == t) = true := by simp
      have e0 : ((0 : Int) != 0) = false := rfl
      refine Ow.go rfl ?_
      simp (disch := (first | assumption | omega | (simp only [lenS, lenT, UInt64.reduceToNat]; try omega))) only [↓S0, S1, Try.fx, uPM_1, Nat.reduceAdd, Nat.reducePow, Int.reducePow, Nat.reduceBEq, ↓reduceIte, UInt8.reduceToNat, UInt16.reduceToNat, UInt32.reduceToNat, UInt64.reduceToNat, Int.reduceToNat, e1, e0]
      ((try with_reducible refine Cw.go [] ?_); (try simp (disch := (first | assumption | omega | (simp only [lenS, lenT, UInt64.reduceToNat]; try omega))) only [↓S0, S1, Try.fx, uPM_1, Nat.reduceAdd, Nat.reducePow, Int.reducePow, Nat.reduceBEq, ↓reduceIte, UInt8.reduceToNat, UInt16.reduceToNat, UInt32.reduceToNat, UInt64.reduceToNat, Int.reduceToNat]))
      refine ⟨_, (by simp (disch := (first | assumption | omega | (simp only [lenS, lenT, UInt64.reduceToNat]; try omega))) only [↓S0, S1, Try.fx, uPM_1, Nat.reduceAdd, Nat.reducePow, Int.reducePow, Nat.reduceBEq, ↓reduceIte, UInt8.reduceToNat, UInt16.reduceToNat, UInt32.reduceToNat, UInt64.reduceToNat, Int.reduceToNat]; rfl), ⟨hw11, hw2, hg.app (New.mono hB hN)⟩, ?_⟩
      rfl
end Go.Proofs
end
namespace Go.Sx
open Go Go.ChangeShapes Go.WideShapes Go.RowKit

theorem Hp.same0 {W W' : World} (h : Hp W [] W') {b : Nat} (hb : b < W.heap.size) : W'.heap[b]? = W.heap[b]? := h.old b hb (fun hm => by cases hm)
theorem Hp.kept {W W' : World} (h : Hp W [] W') (may : MemPlace → Prop) : W.keptBut W' may := by
  refine ⟨h.os, h.output, fun i hi => ?_⟩
  rw [h.same0 hi]
  cases ho : W.heap[i]? with
  | none => rfl
  | some o =>
    cases o <;> first
      | exact ⟨rfl, rfl, rfl, fun _ _ => rfl⟩
      | exact .inr ⟨rfl, rfl⟩
      | rfl
theorem Hp.sameAt {W W' : World} (h : Hp W [] W') {p : MemPlace} (hp : p.block < W.heap.size) : W.sameAt W' p := by
  cases p with
  | cell b off =>
    have := h.same0 (b := b) hp
    simp only [World.sameAt, World.cell?, this]
  | map b => exact h.same0 hp
theorem Hp.frozen {W W' : World} (h : Hp W [] W') {a : Addr} (ha : a.block < W.heap.size) : W'.frozen? a = W.frozen? a := by
  simp only [World.frozen?, h.same0 ha]

section
variable {H : Type} {enc : TypeId × Value → H} {P : Program}
theorem trodAll_stays (hl : laidOutB P = true) {W W' : World} {sp : Nat → Bool} (hp : Hp W [] W') : ∀ {ts : List TypeId} {vs : List Value} {ds : List (DataW H)} {ps : List MemPlace},
    (∀ t ∈ ts, P.readableRec t = true ∧ t < P.types.size) → (∀ p ∈ ps, p.block < W.heap.size) → (∀ p ∈ ps, sp p.block = true) →
    DataW.TrodAll enc P W 0 (fun _ => true) true ts vs ds ps → DataW.TrodAll enc P W' 0 sp true ts vs ds ps
  | [], _, _, _, _, _, _, h => by
    obtain ⟨rfl, rfl, rfl⟩ := trodAll_nil h
    exact trodAll_mk0
  | t :: ts, _, _, _, ht, hlt, hs, h => by
    obtain ⟨v, vs, d, ds, p, q, rfl, rfl, rfl, h1, h2⟩ := trodAll_cons h
    have hlt1 : ∀ x ∈ p, x.block < W.heap.size := fun x hx => hlt x (List.mem_append_left _ hx)
    exact trodAll_cons_mk (WideElems.Trod_stays hl (ht t List.mem_cons_self).1 (ht t List.mem_cons_self).2 h1 (fun x hx => hp.sameAt (hlt1 x hx)) (fun x hx => hs x (List.mem_append_left _ hx)))
      (trodAll_stays hl hp (fun u hu => ht u (List.mem_cons_of_mem _ hu)) (fun x hx => hlt x (List.mem_append_right _ hx)) (fun x hx => hs x (List.mem_append_right _ hx)) h2)

/-- WHAT THE ROW OF A LAW ASKS, from 'it answers true and turns nothing that was there'. -/
theorem post_true {f : Func} {s : ChangeSpec} {W W' : World} {args : Array Value} {ds gs : List (DataW H)} {before : List MemPlace} {tb : TypeId} (hl : laidOutB P = true)
    (hW : DataW.Whole enc P f.params.toList s.vars false W args.toList ds gs before) (hv : s.vars = []) (hpar : ∀ t ∈ f.params.toList, P.readableRec t = true ∧ t < P.types.size)
    (hr : f.resultTypes = #[tb]) (htb : P.underlying tb = some .bool) (hfn : s.fn H ds = { results := [.lit (.bool true)], args := ds }) (hp : Hp W [] W') :
    s.post enc P f false true false false W args (.bool true) W' := by
  have hlt := hW.lt
  have hW0 := hW
  obtain ⟨p, q, hA, hV, rfl, hz, hn⟩ := hW
  rw [hv] at hV
  obtain ⟨rfl, rfl⟩ := trodVars_none hV
  rw [List.append_nil] at hW0 hlt hz
  have hargs : ∀ sp : Nat → Bool, (∀ x ∈ p, sp x.block = true) → DataW.TrodAll enc P W' 0 sp true f.params.toList args.toList (s.fn H (ds ++ [])).args p := fun sp hs => by
    rw [List.append_nil, hfn]
    exact trodAll_stays hl hp hpar hlt hs hA
  have hvars : ∀ sp : Nat → Bool, DataW.TrodVars enc P W' sp s.vars (s.fn H (ds ++ [])).vars [] := fun sp => by
    rw [List.append_nil, hfn, hv]; rfl
  have hres : ∀ (b : Nat) (sp : Nat → Bool) (hd : Bool), DataW.TrodAll enc P W' b sp hd f.resultTypes.toList ((Value.bool true).resultList f.resultTypes.size) (s.fn H (ds ++ [])).results [] := fun b sp hd => by
    rw [List.append_nil, hfn, hr]
    exact trodAll_cons_mk (shut_bool htb true) trodAll_mk0
  have hold : ∀ x ∈ p, (fun b => decide (b < W.heap.size)) x.block = true := fun x hx => by simpa using hlt x hx
  refine ⟨ds, [], p, [], p, [], hW0, hres _ _ _, hargs _ hold, hvars _, hp.kept _, fun _ => ?_⟩
  refine ⟨ok_one hr rfl (okWide_bool_mk htb true), _, _, ([] ++ p) ++ [], ⟨[] ++ p, [], trodAll_append (hargs _ (fun _ _ => rfl)) (hres _ _ _), hvars _, rfl, ?_, fun h => by cases h⟩, ?_⟩
  · intro b off hx
    have hx' : MemPlace.cell b off ∈ p := by simpa using hx
    rw [hp.frozen (hlt _ hx')]
    exact hz b off hx'
  · intro x hx _
    simpa using hx
end
section
variable {P : Program} {W : World} {name : String} {k : IntKind} {zs : List Int}
end
section
variable {H : Type} {enc : TypeId × Value → H} {P : Program}
end
end Go.Sx
namespace Go.Sx
open Go
section
variable {P : Program}
end
end Go.Sx
section
open Go Go.Proofs Go.Sx Go.StP Go.ChangeShapes
namespace Go.Proofs
set_option maxRecDepth 10000
set_option maxHeartbeats 400000
/-! ### Arguments, opened -/
theorem open_obj {H : Type} {enc : TypeId × Value → H} {W : World} {r : Reach} {b0 base : Nat} {sp : Nat → Bool} {held : Bool} {v : Value} {d : DataW H} {p : List MemPlace}
    (hval : Value.okWide Try.prog W r b0 31 v) (hd : DataW.Trod enc Try.prog W base sp held 31 v d p) : ∃ k t, v = obV k t := by
  have hc : (Try.prog).cellsOf 31 = 2 := by kernel_rfl
  have hc3 : (Try.prog).cellsOf 3 = 1 := by kernel_rfl
  have hcT : (Try.prog).cellsOf 9 = 1 := by kernel_rfl
  obtain ⟨fu, hf⟩ := hd
  obtain ⟨y0, y1, n', -, hlen, h0, h1⟩ := ChangeShapes.trod_struct2 Try.underlying31 hf
  unfold Value.okWide at hval
  rw [Try.underlying31] at hval
  obtain ⟨cs, rfl, hs, ts, hts, -, hcell⟩ := hval
  obtain ⟨cs⟩ := cs
  rw [cells_agg] at h0 h1 hlen
  simp only at h0 h1 hlen
  rw [hc3, List.drop_zero] at h0
  rw [hcT] at h1
  rw [hc] at hlen
  obtain ⟨z, hz, -, -⟩ := DataW.trod_int Try.underlying3 h0
  obtain ⟨s, hs2, -, -⟩ := DataW.trod_string Try.underlying9 h1
  have hd : cs = cs.take 1 ++ (cs.drop 1).take 1 := by
    rw [show (cs.drop 1).take 1 = cs.drop 1 from List.take_of_length_le (by rw [List.length_drop]; omega), List.take_append_drop]
  rw [hz, hs2] at hd
  exact ⟨z, s.data.toList, by rw [hd]; rfl⟩
end Go.Proofs
end
