/-
  Part 4 of the walk: contracts of the functions that the law reaches, and the calculus they stand on.
  No conditions.
-/
import Derived.Test.YteppologbikipaaN3
import Derived.Lib.Strings
import Derived.Lib.Bytealg
import Derived.ProofKit
import Derived.OpenShut
import Derived.WideKeyArgs
import Derived.ChangeSame
import Derived.ChangeMaps5
import Derived.Lib.LaidTab
import Derived.SliceStrings
import Derived.DataReads
import Derived.Deep.Strs
import Derived.Laws.MakeOwn
section
open Go Go.Proofs Go.Sx Go.StP
namespace Go.Proofs
set_option maxRecDepth 10000
set_option maxHeartbeats 400000
set_option linter.unusedSimpArgs false
set_option linter.defProp false
def uPC_1 := And.intro (And.intro (And.intro (@load_ob) (And.intro (@load_ob0) (@load_ob1))) (And.intro (And.intro (@store_ob) (@Sx.tup2_0)) (And.intro (@Sx.tup2_1) (@load_ent0)))) (And.intro (And.intro (@load_ent1) (And.intro (@load_ent2) (@load_ent))) (And.intro (And.intro (@store_entr) (@cells_ent)) (And.intro (@rdIn_v8) (@rdIn_vi))))
structure WrG where
  g : Nat
  D : Heap
theorem Came.newF {w0 : World} {L X D : Heap} {m b : Nat} (hC : Came w0 L X D) (hN : New m X) (hb : b ∈ keys L) (hm : m ≤ b + 1) : New m D := New.of_le fun c hc => by
  rcases hC.new c hc with h | ⟨h, -⟩
  · exact hN.le c h
  · have := above_to h hb; omega
theorem st_mem {l Z : List EntL} (h : StE l Z) {y : EntL} (hy : y ∈ Z) : y ∈ l := by
  have h1 := h y.name
  have h2 : y ∈ StP.of EntL.name y.name Z := List.mem_filter.2 ⟨hy, by simp⟩
  rw [h1] at h2
  exact (List.mem_filter.1 h2).1
theorem treeB_len2 {l : List EntL} (hsh : ∀ e, e ∈ l → e.name.length < 10000) : ∀ k, k ≤ l.length → (treeB (l.take k)).length ≤ k * 10060
  | 0, _ => by simp [treeB]
  | k + 1, hk => by
    have ih := treeB_len2 hsh k (by omega)
    have hn := hsh _ (getD_mem (z := ent0) (show k < l.length by omega))
    have h1 : (textL (l.getD k ent0).name).length = (numL (clampN (l.getD k ent0).name.length)).length + (l.getD k ent0).name.length := by unfold textL; rw [List.length_append]
    have h4 := numL_clamp_len ((l.getD k ent0).name.length : Int)
    have h2 := numL_clamp_len (l.getD k ent0).kind
    have h3 := (l.getD k ent0).id.h
    rw [treeB_snoc (by omega)]
    unfold entB
    simp only [List.length_append]
    omega
theorem TreeO_spec (v : Value) (l : List EntL) (w : World) (hv : EntS w v l) (hl : l.length < 1000) (hsh : ∀ e, e ∈ l → e.name.length < 10000) :
    Rets Try.prog 11 #[v] w (XS w [] (fun v' _ => ∃ Z, SortOf l Z ∧ v' = .tuple #[obV (madeK 2 (treeB Z) (entsOk Z)) (madeT 2 (treeB Z) (entsOk Z)), vi (madeE 2 (treeB Z) (entsOk Z))])) := by
  have ln := hv.len
  refine Rets.enterX Try.func11 rfl (rs := [.cell 2 31, .tmp 3]) Try.results11 Try.ntmps11 (fun p hp => by cases hp) (by simp [keys]) ?_
  simp only [List.size_toArray, List.length_cons, List.length_nil, Nat.reduceAdd, Nat.reduceSub, List.replicate_succ, List.replicate_zero, List.cons_append, List.nil_append]
  ((try with_reducible refine Cw.go [] ?_); (try simp (disch := (first | assumption | omega | (simp only [lenS, lenT, UInt64.reduceToNat]; try omega))) only [↓S0, S1, Try.fx, uPC_1, Nat.reduceAdd, Nat.reducePow, Int.reducePow, Nat.reduceBEq, ↓reduceIte, UInt8.reduceToNat, UInt16.reduceToNat, UInt32.reduceToNat, UInt64.reduceToNat, Int.reduceToNat]))
  refine Ow.alloc rfl rfl zrOb fun b2 hb2 hw2 => ?_
  simp only [cells_agg, List.nil_append, List.cons_append]
  refine Ow.go rfl ?_
  simp (disch := (first | assumption | omega | (simp only [lenS, lenT, UInt64.reduceToNat]; try omega))) only [↓S0, S1, Try.fx, uPC_1, Nat.reduceAdd, Nat.reducePow, Int.reducePow, Nat.reduceBEq, ↓reduceIte, UInt8.reduceToNat, UInt16.reduceToNat, UInt32.reduceToNat, UInt64.reduceToNat, Int.reduceToNat]
  refine Ow.callF rfl rfl Try.call29 (S := fun B v' D => ∃ b1, B ≤ b1 ∧ v' = .func (.func 55) #[] #[vp b1 0] ∧ D = [(b1, .cells #[v] 22 (0, 0))]) (fun w' hw' => Values_spec v w' (SlV.one hv)) ?_
  rintro B v D hab hB ⟨b1, hb1, rfl, rfl⟩
  obtain ⟨h2B, -⟩ := hab
  refine ⟨_, Mrg.fresh (by intro q hq; simp only [keys, List.map_cons, List.map_nil, List.mem_singleton] at hq; omega), ?_⟩
  simp only [List.cons_append, List.nil_append]
  refine Ow.go rfl ?_
  simp (disch := (first | assumption | omega | (simp only [lenS, lenT, UInt64.reduceToNat]; try omega))) only [↓S0, S1, Try.fx, uPC_1, Nat.reduceAdd, Nat.reducePow, Int.reducePow, Nat.reduceBEq, ↓reduceIte, UInt8.reduceToNat, UInt16.reduceToNat, UInt32.reduceToNat, UInt64.reduceToNat, Int.reduceToNat]
  refine Ow.callC rfl rfl Try.call28 (fun w' hw' => Sorted_spec _ _ l w' Try.call55 (by omega) (fun w2 h2 => Values1_seq b1 v l w2 (hv.oldN (hw'.trans_nil h2) ⟨by omega, by omega, trivial⟩) ((hw'.trans_nil h2).has _ _ (List.mem_cons_of_mem _ List.mem_cons_self)) (by omega))) (fun B2 v2 D2 hA2 hB2 hN2 hS2 => ?_)
  obtain ⟨Z, hZ, hG⟩ := hS2
  refine Ow.go rfl ?_
  simp (disch := (first | assumption | omega | (simp only [lenS, lenT, UInt64.reduceToNat]; try omega))) only [↓S0, S1, Try.fx, uPC_1, Nat.reduceAdd, Nat.reducePow, Int.reducePow, Nat.reduceBEq, ↓reduceIte, UInt8.reduceToNat, UInt16.reduceToNat, UInt32.reduceToNat, UInt64.reduceToNat, Int.reduceToNat]
  refine Ow.alloc rfl rfl zrWr fun bw hbw hww => ?_
  simp only [cells_agg, List.nil_append, List.cons_append]
  have h2w : b2 < bw := above_to hbw (by simp [keys])
  have h1w : b1 < bw := above_to hbw (by simp [keys])
  have hDw : ∀ c, c ∈ keys D2 → c < bw := fun c hc => above_to hbw (by simp only [keys, List.map_cons, List.mem_cons]; exact .inr (.inr hc))
  refine Ow.permL (M := [(bw, Obj.cells #[.pointer none, .slice none 0 0] 74 (0, 0))] ++ (D2 ++ [(b2, Obj.cells #[vi 0, vs []] 31 (0, 0)), (b1, Obj.cells #[v] 22 (0, 0))])) (by classical exact List.perm_iff_count.2 fun a => by simp only [List.count_append, List.count_cons, List.count_nil] <;> omega) ?_
  have hB0 : BldAt bw [] [(bw, Obj.cells #[.pointer none, .slice none 0 0] 74 (0, 0))] := BldAt.zeroE bw (look_same _ _ _)
  have hN0 : New bw [(bw, Obj.cells #[.pointer none, .slice none 0 0] 74 (0, 0))] := ⟨Nat.le_refl _, trivial⟩
  have hM0 : bw ∈ keys [(bw, Obj.cells #[.pointer none, .slice none 0 0] 74 (0, 0))] := by simp [keys]
  generalize [(bw, Obj.cells #[.pointer none, .slice none 0 0] 74 (0, 0))] = D0 at hB0 hN0 hM0 ⊢
  have ln2 := hG.len
  refine Ow.go rfl ?_
  simp (disch := (first | assumption | omega | (simp only [lenS, lenT, UInt64.reduceToNat]; try omega))) only [↓S0, S1, Try.fx, uPC_1, Nat.reduceAdd, Nat.reducePow, Int.reducePow, Nat.reduceBEq, ↓reduceIte, UInt8.reduceToNat, UInt16.reduceToNat, UInt32.reduceToNat, UInt64.reduceToNat, Int.reduceToNat, ln2]
  have hZl := hZ.1
  have hshZ : ∀ e, e ∈ Z → e.name.length < 10000 := fun e he => hsh e (st_mem hZ.2.2 he)
  refine Cw.loopG (G := WrG) [13, 14, 15, 6, 16, 17, 18, 19, 20, 21, 22, 23, 24, 25, 26, 27, 28, 12] (fun q => [(12, vi q.g)]) (fun q => q.D ++ (D2 ++ [(b2, Obj.cells #[vi 0, vs []] 31 (0, 0)), (b1, Obj.cells #[v] 22 (0, 0))])) (fun q => q.g ≤ l.length ∧ BldAt bw (treeB (Z.take q.g)) q.D ∧ New bw q.D ∧ bw ∈ keys q.D) (fun q => l.length - q.g) ⟨0, D0⟩ rfl rfl ?_ ?_
  · exact ⟨Nat.zero_le _, hB0, hN0, hM0⟩
  · intro q jq hq
    simp only [overFrom, pin, setF_0, setF_s, List.contains_cons, List.contains_nil, Nat.reduceBEq, Bool.or_false, Bool.false_or, Bool.or_true, Bool.true_or, Nat.reduceAdd, ↓reduceIte, Bool.false_eq_true]
    obtain ⟨k, D⟩ := q
    simp only at hq ⊢
    obtain ⟨h1, hB1, hN1, hM1⟩ := hq
    by_cases hk : k < l.length
    · have hkZ : k < Z.length := by omega
      obtain ⟨c, cc, rest, hv2, hlk⟩ : ∃ c cc rest, v2 = vsl c 0 l.length cc ∧ Sx.look D2 c = some (entO rest Z) := by
        rcases hG with h | ⟨h, -⟩
        · rcases h.inv with ⟨-, h, -⟩ | ⟨c, cc, rest, h, hlk, -⟩
          · omega
          · exact ⟨c, cc, rest, h, hlk⟩
        · omega
      subst hv2
      have hcw := hDw c (key_of_look hlk)
      have rdz : ∀ M, readB w (D ++ (D2 ++ M)) c = some (entO rest Z) := fun M => read_look (by rw [look_app_r (hN1.not hcw)]; exact look_app hlk)
      have ldz := load_entR (rest := rest) k hkZ
      generalize hx : Z.getD k ent0 = x at ldz
      ((try with_reducible refine Cw.go [] ?_); (try simp (disch := (first | assumption | omega | (simp only [lenS, lenT, UInt64.reduceToNat]; try omega))) only [↓S0, S1, Try.fx, uPC_1, Nat.reduceAdd, Nat.reducePow, Int.reducePow, Nat.reduceBEq, ↓reduceIte, UInt8.reduceToNat, UInt16.reduceToNat, UInt32.reduceToNat, UInt64.reduceToNat, Int.reduceToNat, rdz, ldz]))
      refine Ow.alloc rfl rfl zrEnt fun b6 hb6 hw6 => ?_
      simp only [cells_agg, List.nil_append, List.cons_append]
      have hw6' : bw < b6 := above_to hb6 (by simp only [keys, List.map_append, List.mem_append] at hM1 ⊢; simp [hM1])
      refine Ow.permL (M := (b6, Obj.cells (entC ent0).toArray 45 (0, 0)) :: (D ++ (D2 ++ [(b2, Obj.cells #[vi 0, vs []] 31 (0, 0)), (b1, Obj.cells #[v] 22 (0, 0))]))) (by classical exact List.perm_iff_count.2 fun a => by simp only [List.count_append, List.count_cons, List.count_nil] <;> omega) ?_
      refine Ow.go rfl ?_
      simp (disch := (first | assumption | omega | (simp only [lenS, lenT, UInt64.reduceToNat]; try omega))) only [↓S0, S1, Try.fx, uPC_1, Nat.reduceAdd, Nat.reducePow, Int.reducePow, Nat.reduceBEq, ↓reduceIte, UInt8.reduceToNat, UInt16.reduceToNat, UInt32.reduceToNat, UInt64.reduceToNat, Int.reduceToNat]
      have hxn : x.name.length < 10000 := by rw [← hx]; exact hsh _ (st_mem hZ.2.2 (getD_mem hkZ))
      have htl : textsL [x.name] = textL x.name := by simp [textsL]
      have tll := textL_len (s := x.name) (by omega)
      have tnl : (textL x.name).length = (numL (clampN x.name.length)).length + x.name.length := by unfold textL; rw [List.length_append]
      have nl1 := numL_clamp_len (x.name.length : Int)
      have nl2 := numL_clamp_len x.kind
      have tbl := treeB_len2 hshZ k (by omega)
      refine Ow.buildSlice (e := 3) #[vi x.kind] rfl rfl (by kernel_rfl) fun b18 hb18 hw18 => ?_
      have hD18 : b18 ∉ keys D := fun hm => Nat.lt_irrefl _ (above_to hb18 (by simp only [keys, List.map_cons, List.map_append, List.mem_cons, List.mem_append] at hm ⊢; simp [hm]))
      have hw18' : bw < b18 := above_to hb18 (by simp only [keys, List.map_cons, List.map_append, List.mem_cons, List.mem_append] at hM1 ⊢; simp [hM1])
      refine Ow.permL (M := D ++ ((b6, Obj.cells (entC x).toArray 45 (0, 0)) :: (b18, Obj.cells #[vi x.kind] 3 (0, 0)) :: (D2 ++ [(b2, Obj.cells #[vi 0, vs []] 31 (0, 0)), (b1, Obj.cells #[v] 22 (0, 0))]))) (by classical exact List.perm_iff_count.2 fun a => by simp only [List.count_append, List.count_cons, List.count_nil] <;> omega) ?_
      refine Ow.go rfl ?_
      simp (disch := (first | assumption | omega | (simp only [lenS, lenT, UInt64.reduceToNat]; try omega))) only [↓S0, S1, Try.fx, uPC_1, Nat.reduceAdd, Nat.reducePow, Int.reducePow, Nat.reduceBEq, ↓reduceIte, UInt8.reduceToNat, UInt16.reduceToNat, UInt32.reduceToNat, UInt64.reduceToNat, Int.reduceToNat]
      refine Ow.callX (Y := ((b6, Obj.cells (entC x).toArray 45 (0, 0)) :: (b18, Obj.cells #[vi x.kind] 3 (0, 0)) :: (D2 ++ [(b2, Obj.cells #[vi 0, vs []] 31 (0, 0)), (b1, Obj.cells #[v] 22 (0, 0))]))) (by simp) rfl rfl Try.call32 (fun w' hw' hX hn => WNumber_spec bw D _ _ b18 0 [x.kind] _ _ _ w' hB1 hX hn (OneS.lit [x.kind] rfl rfl (hw'.has _ _ (List.mem_append_right _ (List.mem_cons_of_mem _ List.mem_cons_self)))) (fun _ => hD18) (by simp only [List.length_cons, List.length_nil]; omega)) (fun u1 E1 hC1 hS1 => ?_)
      obtain ⟨rfl, hB1'⟩ := hS1
      have hN1' := Came.newF hC1 hN1 (b := b18) (by simp [keys]) (by omega)
      have hM1' := hC1.all _ hM1
      have hB2 := hB1'.app (Y := [(b18, Obj.cells #[vi x.kind] 3 (0, 0))])
      have hN2 := hN1'.app (show New bw [(b18, Obj.cells #[vi x.kind] 3 (0, 0))] from ⟨by omega, trivial⟩)
      have hM2 : bw ∈ keys (E1 ++ [(b18, Obj.cells #[vi x.kind] 3 (0, 0))]) := by rw [keys_app]; exact List.mem_append_left _ hM1'
      refine Ow.permL (M := (b6, Obj.cells (entC x).toArray 45 (0, 0)) :: ((E1 ++ [(b18, Obj.cells #[vi x.kind] 3 (0, 0))]) ++ (D2 ++ [(b2, Obj.cells #[vi 0, vs []] 31 (0, 0)), (b1, Obj.cells #[v] 22 (0, 0))]))) (by classical exact List.perm_iff_count.2 fun a => by simp only [List.count_append, List.count_cons, List.count_nil] <;> omega) ?_
      generalize E1 ++ [(b18, Obj.cells #[vi x.kind] 3 (0, 0))] = F2 at hB2 hN2 hM2 ⊢
      refine Ow.go rfl ?_
      simp (disch := (first | assumption | omega | (simp only [lenS, lenT, UInt64.reduceToNat]; try omega))) only [↓S0, S1, Try.fx, uPC_1, Nat.reduceAdd, Nat.reducePow, Int.reducePow, Nat.reduceBEq, ↓reduceIte, UInt8.reduceToNat, UInt16.reduceToNat, UInt32.reduceToNat, UInt64.reduceToNat, Int.reduceToNat]
      rw [numsL_one] at hB2
      refine Ow.buildSlice (e := 9) #[vs x.name] rfl rfl (by kernel_rfl) fun b22 hb22 hw22 => ?_
      have hD22 : b22 ∉ keys F2 := fun hm => Nat.lt_irrefl _ (above_to hb22 (by simp only [keys, List.map_cons, List.map_append, List.mem_cons, List.mem_append] at hm ⊢; simp [hm]))
      have hw22' : bw < b22 := above_to hb22 (by simp only [keys, List.map_cons, List.map_append, List.mem_cons, List.mem_append] at hM2 ⊢; simp [hM2])
      refine Ow.permL (M := F2 ++ ((b6, Obj.cells (entC x).toArray 45 (0, 0)) :: (b22, Obj.cells #[vs x.name] 9 (0, 0)) :: (D2 ++ [(b2, Obj.cells #[vi 0, vs []] 31 (0, 0)), (b1, Obj.cells #[v] 22 (0, 0))]))) (by classical exact List.perm_iff_count.2 fun a => by simp only [List.count_append, List.count_cons, List.count_nil] <;> omega) ?_
      refine Ow.go rfl ?_
      simp (disch := (first | assumption | omega | (simp only [lenS, lenT, UInt64.reduceToNat]; try omega))) only [↓S0, S1, Try.fx, uPC_1, Nat.reduceAdd, Nat.reducePow, Int.reducePow, Nat.reduceBEq, ↓reduceIte, UInt8.reduceToNat, UInt16.reduceToNat, UInt32.reduceToNat, UInt64.reduceToNat, Int.reduceToNat]
      refine Ow.callX (Y := ((b6, Obj.cells (entC x).toArray 45 (0, 0)) :: (b22, Obj.cells #[vs x.name] 9 (0, 0)) :: (D2 ++ [(b2, Obj.cells #[vi 0, vs []] 31 (0, 0)), (b1, Obj.cells #[v] 22 (0, 0))]))) (by simp) rfl rfl Try.call33 (fun w' hw' hX hn => WText_spec bw F2 _ _ b22 0 [x.name] _ _ _ w' hB2 hX hn (StrS.lit [x.name] rfl rfl (hw'.has _ _ (List.mem_append_right _ (List.mem_cons_of_mem _ List.mem_cons_self)))) (fun _ => hD22) (by rw [htl]; simp only [List.length_append, List.length_cons, List.length_nil]; omega) (by simp)) (fun u2 E2 hC2 hS2 => ?_)
      obtain ⟨rfl, hB2'⟩ := hS2
      have hN2' := Came.newF hC2 hN2 (b := b22) (by simp [keys]) (by omega)
      have hM2' := hC2.all _ hM2
      have hB3 := hB2'.app (Y := [(b22, Obj.cells #[vs x.name] 9 (0, 0))])
      have hN3 := hN2'.app (show New bw [(b22, Obj.cells #[vs x.name] 9 (0, 0))] from ⟨by omega, trivial⟩)
      have hM3 : bw ∈ keys (E2 ++ [(b22, Obj.cells #[vs x.name] 9 (0, 0))]) := by rw [keys_app]; exact List.mem_append_left _ hM2'
      refine Ow.permL (M := (b6, Obj.cells (entC x).toArray 45 (0, 0)) :: ((E2 ++ [(b22, Obj.cells #[vs x.name] 9 (0, 0))]) ++ (D2 ++ [(b2, Obj.cells #[vi 0, vs []] 31 (0, 0)), (b1, Obj.cells #[v] 22 (0, 0))]))) (by classical exact List.perm_iff_count.2 fun a => by simp only [List.count_append, List.count_cons, List.count_nil] <;> omega) ?_
      generalize E2 ++ [(b22, Obj.cells #[vs x.name] 9 (0, 0))] = F3 at hB3 hN3 hM3 ⊢
      refine Ow.go rfl ?_
      simp (disch := (first | assumption | omega | (simp only [lenS, lenT, UInt64.reduceToNat]; try omega))) only [↓S0, S1, Try.fx, uPC_1, Nat.reduceAdd, Nat.reducePow, Int.reducePow, Nat.reduceBEq, ↓reduceIte, UInt8.reduceToNat, UInt16.reduceToNat, UInt32.reduceToNat, UInt64.reduceToNat, Int.reduceToNat]
      rw [htl] at hB3
      refine Ow.buildSlice (e := 24) (a8 x.id.l) rfl rfl (slice_idE x.id) fun b26 hb26 hw26 => ?_
      have hD26 : b26 ∉ keys F3 := fun hm => Nat.lt_irrefl _ (above_to hb26 (by simp only [keys, List.map_cons, List.map_append, List.mem_cons, List.mem_append] at hm ⊢; simp [hm]))
      have hw26' : bw < b26 := above_to hb26 (by simp only [keys, List.map_cons, List.map_append, List.mem_cons, List.mem_append] at hM3 ⊢; simp [hM3])
      refine Ow.permL (M := F3 ++ ((b6, Obj.cells (entC x).toArray 45 (0, 0)) :: (b26, Obj.cells (a8 x.id.l) 24 (0, 0)) :: (D2 ++ [(b2, Obj.cells #[vi 0, vs []] 31 (0, 0)), (b1, Obj.cells #[v] 22 (0, 0))]))) (by classical exact List.perm_iff_count.2 fun a => by simp only [List.count_append, List.count_cons, List.count_nil] <;> omega) ?_
      refine Ow.go rfl ?_
      simp (disch := (first | assumption | omega | (simp only [lenS, lenT, UInt64.reduceToNat]; try omega))) only [↓S0, S1, Try.fx, uPC_1, Nat.reduceAdd, Nat.reducePow, Int.reducePow, Nat.reduceBEq, ↓reduceIte, UInt8.reduceToNat, UInt16.reduceToNat, UInt32.reduceToNat, UInt64.reduceToNat, Int.reduceToNat]
      refine Ow.callX (Y := ((b6, Obj.cells (entC x).toArray 45 (0, 0)) :: (b26, Obj.cells (a8 x.id.l) 24 (0, 0)) :: (D2 ++ [(b2, Obj.cells #[vi 0, vs []] 31 (0, 0)), (b1, Obj.cells #[v] 22 (0, 0))]))) (by simp) rfl rfl Try.call34 (fun w' hw' hX hn => WId_spec bw F3 _ _ b26 0 [x.id] _ _ _ w' hB3 hX hn (row_oneId x.id (hw'.has _ _ (List.mem_append_right _ (List.mem_cons_of_mem _ List.mem_cons_self)))) (fun _ => hD26) (by simp only [List.length_append, List.length_cons, List.length_nil]; omega)) (fun u3 E3 hC3 hS3 => ?_)
      obtain ⟨rfl, hB3'⟩ := hS3
      have hN3' := Came.newF hC3 hN3 (b := b26) (by simp [keys]) (by omega)
      have hM3' := hC3.all _ hM3
      have hB4 := hB3'.app (Y := [(b26, Obj.cells (a8 x.id.l) 24 (0, 0))])
      have hN4 := hN3'.app (show New bw [(b26, Obj.cells (a8 x.id.l) 24 (0, 0))] from ⟨by omega, trivial⟩)
      have hM4 : bw ∈ keys (E3 ++ [(b26, Obj.cells (a8 x.id.l) 24 (0, 0))]) := by rw [keys_app]; exact List.mem_append_left _ hM3'
      refine Ow.permL (M := (b6, Obj.cells (entC x).toArray 45 (0, 0)) :: ((E3 ++ [(b26, Obj.cells (a8 x.id.l) 24 (0, 0))]) ++ (D2 ++ [(b2, Obj.cells #[vi 0, vs []] 31 (0, 0)), (b1, Obj.cells #[v] 22 (0, 0))]))) (by classical exact List.perm_iff_count.2 fun a => by simp only [List.count_append, List.count_cons, List.count_nil] <;> omega) ?_
      generalize E3 ++ [(b26, Obj.cells (a8 x.id.l) 24 (0, 0))] = F4 at hB4 hN4 hM4 ⊢
      refine Ow.permL (M := (F4 ++ [(b6, Obj.cells (entC x).toArray 45 (0, 0))]) ++ (D2 ++ [(b2, Obj.cells #[vi 0, vs []] 31 (0, 0)), (b1, Obj.cells #[v] 22 (0, 0))])) (by classical exact List.perm_iff_count.2 fun a => by simp only [List.count_append, List.count_cons, List.count_nil] <;> omega) ?_
      refine Ow.go rfl ?_
      simp (disch := (first | assumption | omega | (simp only [lenS, lenT, UInt64.reduceToNat]; try omega))) only [↓S0, S1, Try.fx, uPC_1, Nat.reduceAdd, Nat.reducePow, Int.reducePow, Nat.reduceBEq, ↓reduceIte, UInt8.reduceToNat, UInt16.reduceToNat, UInt32.reduceToNat, UInt64.reduceToNat, Int.reduceToNat]
      refine Again.mk (WrG.mk (k + 1) (F4 ++ [(b6, Obj.cells (entC x).toArray 45 (0, 0))])) (by show l.length - (k + 1) < l.length - k; omega) ⟨by show k + 1 ≤ l.length; omega, ?_, hN4.app ⟨by omega, trivial⟩, by show bw ∈ keys (F4 ++ _); rw [keys_app]; exact List.mem_append_left _ hM4⟩ rfl rfl
      show BldAt bw (treeB (Z.take (k + 1))) (F4 ++ _)
      rw [treeB_snoc' hkZ, hx]
      have e1 : idsL [x.id] = x.id.l := by simp [idsL]
      rw [e1] at hB4
      exact hB4.app
    · obtain rfl : k = l.length := by omega
      have hall : Z.take l.length = Z := List.take_of_length_le (by omega)
      rw [hall] at hB1
      ((try with_reducible refine Cw.go [] ?_); (try simp (disch := (first | assumption | omega | (simp only [lenS, lenT, UInt64.reduceToNat]; try omega))) only [↓S0, S1, Try.fx, uPC_1, Nat.reduceAdd, Nat.reducePow, Int.reducePow, Nat.reduceBEq, ↓reduceIte, UInt8.reduceToNat, UInt16.reduceToNat, UInt32.reduceToNat, UInt64.reduceToNat, Int.reduceToNat]))
      have tbl := treeB_len2 hshZ Z.length (Nat.le_refl _)
      rw [List.take_length] at tbl
      have hsZ : ShortE Z := fun i hi => by have := hshZ _ (getD_mem (z := ent0) hi); omega
      refine Ow.callX (Y := (D2 ++ [(b2, Obj.cells #[vi 0, vs []] 31 (0, 0)), (b1, Obj.cells #[v] 22 (0, 0))])) (by simp) rfl rfl Try.call35 (fun w' hw' hX hn => WString_spec bw D (treeB Z) w' hB1 hX hn (by omega)) (fun v5 D5 hC5 hS5 => ?_)
      obtain rfl := hS5
      have hN5 := Came.newF hC5 hN1 (b := bw) (by rw [keys_app]; exact List.mem_append_left _ hM1) (by omega)
      have hN2' : New w.heap.size D2 := hN2.mono (by omega)
      have hNe : New w.heap.size (D5 ++ (D2 ++ [(b2, Obj.cells #[vi 0, vs []] 31 (0, 0)), (b1, Obj.cells #[v] 22 (0, 0))])) := (New.mono (by omega) hN5).app (hN2'.app ⟨hw2, by omega, trivial⟩)
      refine Ow.go rfl ?_
      simp (disch := (first | assumption | omega | (simp only [lenS, lenT, UInt64.reduceToNat]; try omega))) only [↓S0, S1, Try.fx, uPC_1, Nat.reduceAdd, Nat.reducePow, Int.reducePow, Nat.reduceBEq, ↓reduceIte, UInt8.reduceToNat, UInt16.reduceToNat, UInt32.reduceToNat, UInt64.reduceToNat, Int.reduceToNat]
      refine Ow.build (obV 2 (treeB Z)) rfl (build_ob2 2 _) ?_
      refine Ow.go rfl ?_
      simp (disch := (first | assumption | omega | (simp only [lenS, lenT, UInt64.reduceToNat]; try omega))) only [↓S0, S1, Try.fx, uPC_1, Nat.reduceAdd, Nat.reducePow, Int.reducePow, Nat.reduceBEq, ↓reduceIte, UInt8.reduceToNat, UInt16.reduceToNat, UInt32.reduceToNat, UInt64.reduceToNat, Int.reduceToNat]
      refine Ow.callFV rfl Try.call36 (fun w' hw' => entries_spec v2 Z w' (hG.slM (fun b o hm => hw'.has b o (by simp [hm])) hZl rfl entC_len) (by omega) hsZ) ?_
      refine Ow.go rfl ?_
      simp (disch := (first | assumption | omega | (simp only [lenS, lenT, UInt64.reduceToNat]; try omega))) only [↓S0, S1, Try.fx, uPC_1, Nat.reduceAdd, Nat.reducePow, Int.reducePow, Nat.reduceBEq, ↓reduceIte, UInt8.reduceToNat, UInt16.reduceToNat, UInt32.reduceToNat, UInt64.reduceToNat, Int.reduceToNat]
      refine Ow.callFV rfl Try.call27 (fun w' hw' => made_spec 2 (treeB Z) (entsOk Z) w') ?_
      refine Ow.permL (M := (b2, Obj.cells #[vi 0, vs []] 31 (0, 0)) :: (D5 ++ (D2 ++ [(b1, Obj.cells #[v] 22 (0, 0))]))) (by classical exact List.perm_iff_count.2 fun a => by simp only [List.count_append, List.count_cons, List.count_nil] <;> omega) ?_
      refine Ow.go rfl ?_
      simp (disch := (first | assumption | omega | (simp only [lenS, lenT, UInt64.reduceToNat]; try omega))) only [↓S0, S1, Try.fx, uPC_1, Nat.reduceAdd, Nat.reducePow, Int.reducePow, Nat.reduceBEq, ↓reduceIte, UInt8.reduceToNat, UInt16.reduceToNat, UInt32.reduceToNat, UInt64.reduceToNat, Int.reduceToNat]
      ((try with_reducible refine Cw.go [] ?_); (try simp (disch := (first | assumption | omega | (simp only [lenS, lenT, UInt64.reduceToNat]; try omega))) only [↓S0, S1, Try.fx, uPC_1, Nat.reduceAdd, Nat.reducePow, Int.reducePow, Nat.reduceBEq, ↓reduceIte, UInt8.reduceToNat, UInt16.reduceToNat, UInt32.reduceToNat, UInt64.reduceToNat, Int.reduceToNat]))
      refine ⟨_, (by simp (disch := (first | assumption | omega | (simp only [lenS, lenT, UInt64.reduceToNat]; try omega))) only [↓S0, S1, Try.fx, uPC_1, Nat.reduceAdd, Nat.reducePow, Int.reducePow, Nat.reduceBEq, ↓reduceIte, UInt8.reduceToNat, UInt16.reduceToNat, UInt32.reduceToNat, UInt64.reduceToNat, Int.reduceToNat]; rfl), ?_⟩
      exact ⟨Ext.of_new ⟨hw2, (New.mono (by omega) hN5).app (hN2'.app ⟨by omega, trivial⟩)⟩, Z, hZ, rfl⟩
end Go.Proofs
end
section
open Go Go.Proofs Go.Sx Go.StP
namespace Go.Proofs
set_option maxRecDepth 10000
set_option maxHeartbeats 400000
set_option linter.unusedSimpArgs false
theorem RdOk_in {k : Int} {t : List UInt8} (h : RdOk k t = true) : 1 ≤ k ∧ k ≤ 3 ∧ t.length ≤ 4096 := by
  unfold RdOk at h
  split at h
  · assumption
  · cases h
set_option linter.defProp false
def uPD_1 := And.intro (And.intro (And.intro (@load_ob) (@load_ob0)) (And.intro (@load_ob1) (And.intro (@store_ob) (@Sx.tup2_0)))) (And.intro (And.intro (@Sx.tup2_1) (And.intro (@load_ro0) (@load_ro1))) (And.intro (@load_ro2) (And.intro (@rdIn_v8) (@rdIn_vi))))
def EntsS (k : Int) (t : List UInt8) (v : Value) (D : Heap) : Prop :=
  if RdOk k t = true ∧ k = 2 then ∃ v1, v = .tuple #[v1, vi 0] ∧ Gr D 45 34 v1 (entsE t).1.length ((entsE t).1.map entC).flatten else v = .tuple #[.slice none 0 0, vi 1]
theorem EntriesO_spec (k : Int) (t : List UInt8) (w : World) : Rets Try.prog 20 #[obV k t] w (XS w [] (EntsS k t)) := by
  refine Rets.enterX Try.func20 rfl (rs := [.tmp 2, .tmp 3]) Try.results20 Try.ntmps20 (fun p hp => by cases hp) (by simp [keys]) ?_
  simp only [List.size_toArray, List.length_cons, List.length_nil, Nat.reduceAdd, Nat.reduceSub, List.replicate_succ, List.replicate_zero, List.cons_append, List.nil_append]
  ((try with_reducible refine Cw.go [] ?_); (try simp (disch := (first | assumption | omega | (simp only [lenS, lenT, UInt64.reduceToNat]; try omega))) only [↓S0, S1, Try.fx, uPD_1, Nat.reduceAdd, Nat.reducePow, Int.reducePow, Nat.reduceBEq, ↓reduceIte, UInt8.reduceToNat, UInt16.reduceToNat, UInt32.reduceToNat, UInt64.reduceToNat, Int.reduceToNat]))
  refine Ow.box rfl rfl fun b1 hb1 hw1 => ?_
  simp only [ev_tmp, getF_0, getF_s, cells_agg, List.nil_append]
  refine Ow.go rfl ?_
  simp (disch := (first | assumption | omega | (simp only [lenS, lenT, UInt64.reduceToNat]; try omega))) only [↓S0, S1, Try.fx, uPD_1, Nat.reduceAdd, Nat.reducePow, Int.reducePow, Nat.reduceBEq, ↓reduceIte, UInt8.reduceToNat, UInt16.reduceToNat, UInt32.reduceToNat, UInt64.reduceToNat, Int.reduceToNat]
  refine Ow.callC rfl rfl Try.call42 (fun w' hw' => readO_spec k t w') (fun B v D hA hB hN hS => ?_)
  obtain ⟨p, rfl, hS⟩ := hS
  obtain ⟨h1B, -⟩ := hA
  have hNe : New w.heap.size ((b1, Obj.cells #[vi k, vs t] 31 (0, 0)) :: D) := ⟨hw1, New.mono hB hN⟩
  cases hr : RdOk k t
  · refine Ow.go rfl ?_
    simp (disch := (first | assumption | omega | (simp only [lenS, lenT, UInt64.reduceToNat]; try omega))) only [↓S0, S1, Try.fx, uPD_1, Nat.reduceAdd, Nat.reducePow, Int.reducePow, Nat.reduceBEq, ↓reduceIte, UInt8.reduceToNat, UInt16.reduceToNat, UInt32.reduceToNat, UInt64.reduceToNat, Int.reduceToNat]
    ((try with_reducible refine Cw.go [] ?_); (try simp (disch := (first | assumption | omega | (simp only [lenS, lenT, UInt64.reduceToNat]; try omega))) only [↓S0, S1, Try.fx, uPD_1, Nat.reduceAdd, Nat.reducePow, Int.reducePow, Nat.reduceBEq, ↓reduceIte, UInt8.reduceToNat, UInt16.reduceToNat, UInt32.reduceToNat, UInt64.reduceToNat, Int.reduceToNat]))
    refine ⟨_, (by simp (disch := (first | assumption | omega | (simp only [lenS, lenT, UInt64.reduceToNat]; try omega))) only [↓S0, S1, Try.fx, uPD_1, Nat.reduceAdd, Nat.reducePow, Int.reducePow, Nat.reduceBEq, ↓reduceIte, UInt8.reduceToNat, UInt16.reduceToNat, UInt32.reduceToNat, UInt64.reduceToNat, Int.reduceToNat]; rfl), ?_⟩
    refine ⟨Ext.of_new hNe, ?_⟩
    unfold EntsS
    rw [hr, if_neg (by simp)]; rfl
  · by_cases h2 : k = 2
    · subst h2
      have d1 : ((2 : Int) != 2) = false := rfl
      obtain ⟨bo, bw, v1, c1, x1, y1, rfl, hlk, hg, -⟩ := hS (RdOk_in hr)
      have hob := hN.le bo (key_of_look hlk)
      have rdo : readB w D bo = some (.cells (roC (vp bw 0) v1 c1 x1 y1).toArray 87 (0, 0)) := read_look hlk
      refine Ow.go rfl ?_
      simp (disch := (first | assumption | omega | (simp only [lenS, lenT, UInt64.reduceToNat]; try omega))) only [↓S0, S1, Try.fx, uPD_1, Nat.reduceAdd, Nat.reducePow, Int.reducePow, Nat.reduceBEq, ↓reduceIte, UInt8.reduceToNat, UInt16.reduceToNat, UInt32.reduceToNat, UInt64.reduceToNat, Int.reduceToNat, d1]
      ((try with_reducible refine Cw.go [] ?_); (try simp (disch := (first | assumption | omega | (simp only [lenS, lenT, UInt64.reduceToNat]; try omega))) only [↓S0, S1, Try.fx, uPD_1, Nat.reduceAdd, Nat.reducePow, Int.reducePow, Nat.reduceBEq, ↓reduceIte, UInt8.reduceToNat, UInt16.reduceToNat, UInt32.reduceToNat, UInt64.reduceToNat, Int.reduceToNat, rdo]))
      refine ⟨_, (by simp (disch := (first | assumption | omega | (simp only [lenS, lenT, UInt64.reduceToNat]; try omega))) only [↓S0, S1, Try.fx, uPD_1, Nat.reduceAdd, Nat.reducePow, Int.reducePow, Nat.reduceBEq, ↓reduceIte, UInt8.reduceToNat, UInt16.reduceToNat, UInt32.reduceToNat, UInt64.reduceToNat, Int.reduceToNat]; rfl), ?_⟩
      refine ⟨Ext.of_new hNe, ?_⟩
      unfold EntsS
      rw [if_pos ⟨hr, rfl⟩]
      exact ⟨v1, rfl, (hg rfl).keep fun b o hb ho => by
        have := hN.le b (key_of_look ho)
        rw [look_other _ _ _ _ (by omega)]; exact ho⟩
    · have d1 : (k != 2) = true := by simpa using h2
      refine Ow.go rfl ?_
      simp (disch := (first | assumption | omega | (simp only [lenS, lenT, UInt64.reduceToNat]; try omega))) only [↓S0, S1, Try.fx, uPD_1, Nat.reduceAdd, Nat.reducePow, Int.reducePow, Nat.reduceBEq, ↓reduceIte, UInt8.reduceToNat, UInt16.reduceToNat, UInt32.reduceToNat, UInt64.reduceToNat, Int.reduceToNat, d1]
      ((try with_reducible refine Cw.go [] ?_); (try simp (disch := (first | assumption | omega | (simp only [lenS, lenT, UInt64.reduceToNat]; try omega))) only [↓S0, S1, Try.fx, uPD_1, Nat.reduceAdd, Nat.reducePow, Int.reducePow, Nat.reduceBEq, ↓reduceIte, UInt8.reduceToNat, UInt16.reduceToNat, UInt32.reduceToNat, UInt64.reduceToNat, Int.reduceToNat]))
      refine ⟨_, (by simp (disch := (first | assumption | omega | (simp only [lenS, lenT, UInt64.reduceToNat]; try omega))) only [↓S0, S1, Try.fx, uPD_1, Nat.reduceAdd, Nat.reducePow, Int.reducePow, Nat.reduceBEq, ↓reduceIte, UInt8.reduceToNat, UInt16.reduceToNat, UInt32.reduceToNat, UInt64.reduceToNat, Int.reduceToNat]; rfl), ?_⟩
      refine ⟨Ext.of_new hNe, ?_⟩
      unfold EntsS
      rw [if_neg (fun h => h2 h.2)]; rfl
def ComsS (k : Int) (t : List UInt8) (v : Value) (D : Heap) : Prop :=
  if RdOk k t = true ∧ k = 3 then ∃ p, v = .tuple #[.agg (comC (comE t).1.tree p (comE t).1.text).toArray, vi 0] ∧ Gr D 24 32 p (comE t).1.par.length ((comE t).1.par.map idLC).flatten else v = .tuple #[.agg (comC id0 (.slice none 0 0) []).toArray, vi 1]
theorem CommitsO_spec (k : Int) (t : List UInt8) (w : World) : Rets Try.prog 21 #[obV k t] w (XS w [] (ComsS k t)) := by
  refine Rets.enterX Try.func21 rfl (rs := [.cell 2 27, .tmp 3]) Try.results21 Try.ntmps21 (fun p hp => by cases hp) (by simp [keys]) ?_
  simp only [List.size_toArray, List.length_cons, List.length_nil, Nat.reduceAdd, Nat.reduceSub, List.replicate_succ, List.replicate_zero, List.cons_append, List.nil_append]
  ((try with_reducible refine Cw.go [] ?_); (try simp (disch := (first | assumption | omega | (simp only [lenS, lenT, UInt64.reduceToNat]; try omega))) only [↓S0, S1, Try.fx, uPD_1, Nat.reduceAdd, Nat.reducePow, Int.reducePow, Nat.reduceBEq, ↓reduceIte, UInt8.reduceToNat, UInt16.reduceToNat, UInt32.reduceToNat, UInt64.reduceToNat, Int.reduceToNat]))
  refine Ow.box rfl rfl fun b1 hb1 hw1 => ?_
  simp only [ev_tmp, getF_0, getF_s, cells_agg, List.nil_append]
  refine Ow.go rfl ?_
  simp (disch := (first | assumption | omega | (simp only [lenS, lenT, UInt64.reduceToNat]; try omega))) only [↓S0, S1, Try.fx, uPD_1, Nat.reduceAdd, Nat.reducePow, Int.reducePow, Nat.reduceBEq, ↓reduceIte, UInt8.reduceToNat, UInt16.reduceToNat, UInt32.reduceToNat, UInt64.reduceToNat, Int.reduceToNat]
  refine Ow.alloc rfl rfl zrCom fun b2 hb2 hw2 => ?_
  simp only [cells_agg, List.nil_append, List.cons_append]
  have h12 : b1 < b2 := above_to hb2 (by simp [keys])
  have stz : ∀ a E, storeV (some (a, 34)) (some (.cells (comC id0 (.slice none 0 0) []).toArray E (0, 0))) 0 (.agg (comC id0 (.slice none 0 0) []).toArray) = some (.cells (comC id0 (.slice none 0 0) []).toArray E (0, 0)) := fun a E => store_com _ _ _ _ a E (by rw [List.size_toArray, comC_len]) rfl
  refine Ow.go rfl ?_
  simp (disch := (first | assumption | omega | (simp only [lenS, lenT, UInt64.reduceToNat]; try omega))) only [↓S0, S1, Try.fx, uPD_1, Nat.reduceAdd, Nat.reducePow, Int.reducePow, Nat.reduceBEq, ↓reduceIte, UInt8.reduceToNat, UInt16.reduceToNat, UInt32.reduceToNat, UInt64.reduceToNat, Int.reduceToNat]
  refine Ow.callC rfl rfl Try.call42 (fun w' hw' => readO_spec k t w') (fun B v D hA hB hN hS => ?_)
  obtain ⟨p, rfl, hS⟩ := hS
  obtain ⟨h1B, h2B, -⟩ := hA
  have hNe : ∀ o, New w.heap.size ((b1, Obj.cells #[vi k, vs t] 31 (0, 0)) :: (b2, o) :: D) := fun o => ⟨hw1, hw2, New.mono hB hN⟩
  cases hr : RdOk k t
  · refine Ow.go rfl ?_
    simp (disch := (first | assumption | omega | (simp only [lenS, lenT, UInt64.reduceToNat]; try omega))) only [↓S0, S1, Try.fx, uPD_1, Nat.reduceAdd, Nat.reducePow, Int.reducePow, Nat.reduceBEq, ↓reduceIte, UInt8.reduceToNat, UInt16.reduceToNat, UInt32.reduceToNat, UInt64.reduceToNat, Int.reduceToNat]
    refine Ow.build (.agg (comC id0 (.slice none 0 0) []).toArray) rfl build_com0 ?_
    refine Ow.go rfl ?_
    simp (disch := (first | assumption | omega | (simp only [lenS, lenT, UInt64.reduceToNat]; try omega))) only [↓S0, S1, Try.fx, uPD_1, Nat.reduceAdd, Nat.reducePow, Int.reducePow, Nat.reduceBEq, ↓reduceIte, UInt8.reduceToNat, UInt16.reduceToNat, UInt32.reduceToNat, UInt64.reduceToNat, Int.reduceToNat, stz, load_com]
    ((try with_reducible refine Cw.go [] ?_); (try simp (disch := (first | assumption | omega | (simp only [lenS, lenT, UInt64.reduceToNat]; try omega))) only [↓S0, S1, Try.fx, uPD_1, Nat.reduceAdd, Nat.reducePow, Int.reducePow, Nat.reduceBEq, ↓reduceIte, UInt8.reduceToNat, UInt16.reduceToNat, UInt32.reduceToNat, UInt64.reduceToNat, Int.reduceToNat, load_com]))
    refine ⟨_, (by simp (disch := (first | assumption | omega | (simp only [lenS, lenT, UInt64.reduceToNat]; try omega))) only [↓S0, S1, Try.fx, uPD_1, Nat.reduceAdd, Nat.reducePow, Int.reducePow, Nat.reduceBEq, ↓reduceIte, UInt8.reduceToNat, UInt16.reduceToNat, UInt32.reduceToNat, UInt64.reduceToNat, Int.reduceToNat, load_com]; rfl), ?_⟩
    refine ⟨Ext.of_new (hNe _), ?_⟩
    unfold ComsS
    rw [hr, if_neg (by simp)]; rfl
  · by_cases h2 : k = 3
    · subst h2
      have d1 : ((3 : Int) != 3) = false := rfl
      obtain ⟨bo, bw, v1, c1, x1, y1, rfl, hlk, -, hg, -⟩ := hS (RdOk_in hr)
      obtain ⟨rfl, rfl, hg3⟩ := hg rfl
      have hob := hN.le bo (key_of_look hlk)
      have rdo : readB w D bo = some (.cells (roC (vp bw 0) v1 (comE t).1.tree x1 (comE t).1.text).toArray 87 (0, 0)) := read_look hlk
      have stq : ∀ a E, storeV (some (a, 34)) (some (.cells (comC id0 (.slice none 0 0) []).toArray E (0, 0))) 0 (.agg (comC (comE t).1.tree x1 (comE t).1.text).toArray) = some (.cells (comC (comE t).1.tree x1 (comE t).1.text).toArray E (0, 0)) := fun a E => store_com _ _ _ _ a E (by rw [List.size_toArray, comC_len]) hg3.cell.1
      refine Ow.go rfl ?_
      simp (disch := (first | assumption | omega | (simp only [lenS, lenT, UInt64.reduceToNat]; try omega))) only [↓S0, S1, Try.fx, uPD_1, Nat.reduceAdd, Nat.reducePow, Int.reducePow, Nat.reduceBEq, ↓reduceIte, UInt8.reduceToNat, UInt16.reduceToNat, UInt32.reduceToNat, UInt64.reduceToNat, Int.reduceToNat, d1]
      ((try with_reducible refine Cw.go [] ?_); (try simp (disch := (first | assumption | omega | (simp only [lenS, lenT, UInt64.reduceToNat]; try omega))) only [↓S0, S1, Try.fx, uPD_1, Nat.reduceAdd, Nat.reducePow, Int.reducePow, Nat.reduceBEq, ↓reduceIte, UInt8.reduceToNat, UInt16.reduceToNat, UInt32.reduceToNat, UInt64.reduceToNat, Int.reduceToNat, rdo, stq, cells_com]))
      refine ⟨_, (by simp (disch := (first | assumption | omega | (simp only [lenS, lenT, UInt64.reduceToNat]; try omega))) only [↓S0, S1, Try.fx, uPD_1, Nat.reduceAdd, Nat.reducePow, Int.reducePow, Nat.reduceBEq, ↓reduceIte, UInt8.reduceToNat, UInt16.reduceToNat, UInt32.reduceToNat, UInt64.reduceToNat, Int.reduceToNat, load_com]; rfl), ?_⟩
      refine ⟨Ext.of_new (hNe _), ?_⟩
      unfold ComsS
      rw [if_pos ⟨hr, rfl⟩]
      exact ⟨x1, rfl, hg3.keep fun b o hb ho => by
        have := hN.le b (key_of_look ho)
        rw [look_other _ _ _ _ (by omega), look_other _ _ _ _ (by omega)]; exact ho⟩
    · have d1 : (k != 3) = true := by simpa using h2
      refine Ow.go rfl ?_
      simp (disch := (first | assumption | omega | (simp only [lenS, lenT, UInt64.reduceToNat]; try omega))) only [↓S0, S1, Try.fx, uPD_1, Nat.reduceAdd, Nat.reducePow, Int.reducePow, Nat.reduceBEq, ↓reduceIte, UInt8.reduceToNat, UInt16.reduceToNat, UInt32.reduceToNat, UInt64.reduceToNat, Int.reduceToNat, d1]
      refine Ow.build (.agg (comC id0 (.slice none 0 0) []).toArray) rfl build_com0 ?_
      refine Ow.go rfl ?_
      simp (disch := (first | assumption | omega | (simp only [lenS, lenT, UInt64.reduceToNat]; try omega))) only [↓S0, S1, Try.fx, uPD_1, Nat.reduceAdd, Nat.reducePow, Int.reducePow, Nat.reduceBEq, ↓reduceIte, UInt8.reduceToNat, UInt16.reduceToNat, UInt32.reduceToNat, UInt64.reduceToNat, Int.reduceToNat, stz, load_com]
      ((try with_reducible refine Cw.go [] ?_); (try simp (disch := (first | assumption | omega | (simp only [lenS, lenT, UInt64.reduceToNat]; try omega))) only [↓S0, S1, Try.fx, uPD_1, Nat.reduceAdd, Nat.reducePow, Int.reducePow, Nat.reduceBEq, ↓reduceIte, UInt8.reduceToNat, UInt16.reduceToNat, UInt32.reduceToNat, UInt64.reduceToNat, Int.reduceToNat, load_com]))
      refine ⟨_, (by simp (disch := (first | assumption | omega | (simp only [lenS, lenT, UInt64.reduceToNat]; try omega))) only [↓S0, S1, Try.fx, uPD_1, Nat.reduceAdd, Nat.reducePow, Int.reducePow, Nat.reduceBEq, ↓reduceIte, UInt8.reduceToNat, UInt16.reduceToNat, UInt32.reduceToNat, UInt64.reduceToNat, Int.reduceToNat, load_com]; rfl), ?_⟩
      refine ⟨Ext.of_new (hNe _), ?_⟩
      unfold ComsS
      rw [if_neg (fun h => h2 h.2)]; rfl
end Go.Proofs
end
section
open Go Go.Proofs Go.Sx Go.StP
namespace Go.Proofs
set_option maxRecDepth 10000
set_option maxHeartbeats 400000
set_option linter.unusedSimpArgs false
set_option linter.defProp false
def uPE_1 := And.intro (And.intro (And.intro (@load_ob) (@load_ob0)) (And.intro (@load_ob1) (@store_ob))) (And.intro (And.intro (@Sx.tup2_0) (@Sx.tup2_1)) (And.intro (@rdIn_v8) (@rdIn_vi)))
def headB (k : Int) : List UInt8 := (([32, 98, 116, 99] : List UInt8).take (k + 1).toNat).drop k.toNat
def frameB (k : Int) (t : List UInt8) : List UInt8 := headB k ++ textL t
theorem FrameO_spec (k : Int) (t : List UInt8) (w : World) : Rets Try.prog 25 #[obV k t] w (XS w [] (fun v _ => v = if RdOk k t then .tuple #[vs (frameB k t), vi 0] else .tuple #[vs [], vi 1])) := by
  refine Rets.enterX Try.func25 rfl (rs := [.tmp 2, .tmp 3]) Try.results25 Try.ntmps25 (fun p hp => by cases hp) (by simp [keys]) ?_
  simp only [List.size_toArray, List.length_cons, List.length_nil, Nat.reduceAdd, Nat.reduceSub, List.replicate_succ, List.replicate_zero, List.cons_append, List.nil_append]
  ((try with_reducible refine Cw.go [] ?_); (try simp (disch := (first | assumption | omega | (simp only [lenS, lenT, UInt64.reduceToNat]; try omega))) only [↓S0, S1, Try.fx, uPE_1, Nat.reduceAdd, Nat.reducePow, Int.reducePow, Nat.reduceBEq, ↓reduceIte, UInt8.reduceToNat, UInt16.reduceToNat, UInt32.reduceToNat, UInt64.reduceToNat, Int.reduceToNat]))
  refine Ow.box rfl rfl fun b1 hb1 hw1 => ?_
  simp only [ev_tmp, getF_0, getF_s, cells_agg, List.nil_append]
  refine Ow.go rfl ?_
  simp (disch := (first | assumption | omega | (simp only [lenS, lenT, UInt64.reduceToNat]; try omega))) only [↓S0, S1, Try.fx, uPE_1, Nat.reduceAdd, Nat.reducePow, Int.reducePow, Nat.reduceBEq, ↓reduceIte, UInt8.reduceToNat, UInt16.reduceToNat, UInt32.reduceToNat, UInt64.reduceToNat, Int.reduceToNat]
  refine Ow.callFV rfl Try.call48 (fun w' hw' => RightO_spec k t w') ?_
  cases hr : RdOk k t
  · refine Ow.go rfl ?_
    simp (disch := (first | assumption | omega | (simp only [lenS, lenT, UInt64.reduceToNat]; try omega))) only [↓S0, S1, Try.fx, uPE_1, Nat.reduceAdd, Nat.reducePow, Int.reducePow, Nat.reduceBEq, ↓reduceIte, UInt8.reduceToNat, UInt16.reduceToNat, UInt32.reduceToNat, UInt64.reduceToNat, Int.reduceToNat]
    ((try with_reducible refine Cw.go [] ?_); (try simp (disch := (first | assumption | omega | (simp only [lenS, lenT, UInt64.reduceToNat]; try omega))) only [↓S0, S1, Try.fx, uPE_1, Nat.reduceAdd, Nat.reducePow, Int.reducePow, Nat.reduceBEq, ↓reduceIte, UInt8.reduceToNat, UInt16.reduceToNat, UInt32.reduceToNat, UInt64.reduceToNat, Int.reduceToNat]))
    refine ⟨_, (by simp (disch := (first | assumption | omega | (simp only [lenS, lenT, UInt64.reduceToNat]; try omega))) only [↓S0, S1, Try.fx, uPE_1, Nat.reduceAdd, Nat.reducePow, Int.reducePow, Nat.reduceBEq, ↓reduceIte, UInt8.reduceToNat, UInt16.reduceToNat, UInt32.reduceToNat, UInt64.reduceToNat, Int.reduceToNat]; rfl), ?_⟩
    exact ⟨Ext.of_new ⟨hw1, trivial⟩, rfl⟩
  · obtain ⟨hk1, hk3, htl⟩ := RdOk_in hr
    have hhl : (headB k).length ≤ 4 := by unfold headB; simp only [List.length_drop, List.length_take, List.length_cons, List.length_nil]; omega
    refine Ow.go rfl ?_
    simp (disch := (first | assumption | omega | (simp only [lenS, lenT, UInt64.reduceToNat]; try omega))) only [↓S0, S1, Try.fx, uPE_1, Nat.reduceAdd, Nat.reducePow, Int.reducePow, Nat.reduceBEq, ↓reduceIte, UInt8.reduceToNat, UInt16.reduceToNat, UInt32.reduceToNat, UInt64.reduceToNat, Int.reduceToNat]
    refine Ow.alloc rfl rfl zrWr fun b4 hb4 hw4 => ?_
    simp only [cells_agg, List.nil_append, List.cons_append]
    have h14 : b1 < b4 := above_to hb4 (by simp [keys])
    refine Ow.permL (M := [(b4, Obj.cells #[.pointer none, .slice none 0 0] 74 (0, 0))] ++ [(b1, Obj.cells #[vi k, vs t] 31 (0, 0))]) (by classical exact List.perm_iff_count.2 fun a => by simp only [List.count_append, List.count_cons, List.count_nil] <;> omega) ?_
    have hB0 : BldAt b4 [] [(b4, Obj.cells #[.pointer none, .slice none 0 0] 74 (0, 0))] := BldAt.zeroE b4 (look_same _ _ _)
    have hN0 : New (b1 + 1) [(b4, Obj.cells #[.pointer none, .slice none 0 0] 74 (0, 0))] := ⟨by omega, trivial⟩
    generalize [(b4, Obj.cells #[.pointer none, .slice none 0 0] 74 (0, 0))] = D0 at hB0 hN0 ⊢
    have rdc : ∀ {D}, New (b1 + 1) D → ∀ M, readB w (D ++ (b1, Obj.cells #[vi k, vs t] 31 (0, 0)) :: M) b1 = some (.cells #[vi k, vs t] 31 (0, 0)) := fun hn M => read_look (by rw [look_app_r (hn.not (by omega))]; exact look_same _ _ _)
    have r0 := rdc hN0
    have hsl : sliceV .str (vs ([32, 98, 116, 99] : List UInt8)) (some (some k)) (some (some (k + 1))) = some (vs (headB k)) := slice_str_both _ _ _ ⟨by omega, by omega, by simp only [List.length_cons, List.length_nil]; omega⟩
    refine Ow.go rfl ?_
    simp (disch := (first | assumption | omega | (simp only [lenS, lenT, UInt64.reduceToNat]; try omega))) only [↓S0, S1, Try.fx, uPE_1, Nat.reduceAdd, Nat.reducePow, Int.reducePow, Nat.reduceBEq, ↓reduceIte, UInt8.reduceToNat, UInt16.reduceToNat, UInt32.reduceToNat, UInt64.reduceToNat, Int.reduceToNat, r0, hsl]
    refine Ow.buildSlice (e := 9) #[vs (headB k)] rfl rfl (by kernel_rfl) fun b14 hb14 hw14 => ?_
    have h114 : b1 < b14 := above_to hb14 (by simp [keys])
    have hD14 : b14 ∉ keys D0 := fun hm => Nat.lt_irrefl _ (above_to hb14 (by rw [keys_app]; exact List.mem_append_left _ hm))
    refine Ow.go rfl ?_
    simp (disch := (first | assumption | omega | (simp only [lenS, lenT, UInt64.reduceToNat]; try omega))) only [↓S0, S1, Try.fx, uPE_1, Nat.reduceAdd, Nat.reducePow, Int.reducePow, Nat.reduceBEq, ↓reduceIte, UInt8.reduceToNat, UInt16.reduceToNat, UInt32.reduceToNat, UInt64.reduceToNat, Int.reduceToNat]
    refine Ow.callX (Y := [(b1, Obj.cells #[vi k, vs t] 31 (0, 0)), (b14, Obj.cells #[vs (headB k)] 9 (0, 0))]) (by simp) rfl rfl Try.call52 (fun w' hw' hX hn => WRaw_spec b4 D0 _ _ b14 0 [headB k] _ _ _ w' hB0 hX hn (StrS.lit [headB k] rfl rfl (hw'.has _ _ (List.mem_append_right _ List.mem_cons_self))) (fun _ => hD14) (by simp; omega) (by simp)) (fun u0 E0 hC0 hS0 => ?_)
    obtain ⟨rfl, hB0'⟩ := hS0
    have hN0' := Came.newE hC0 hN0 (by simp [keys])
    have hB1 := hB0'.app (Y := [(b14, Obj.cells #[vs (headB k)] 9 (0, 0))])
    have hN1 := hN0'.app (show New (b1 + 1) [(b14, Obj.cells #[vs (headB k)] 9 (0, 0))] from ⟨by omega, trivial⟩)
    refine Ow.permL (M := (E0 ++ [(b14, Obj.cells #[vs (headB k)] 9 (0, 0))]) ++ [(b1, Obj.cells #[vi k, vs t] 31 (0, 0))]) (by classical exact List.perm_iff_count.2 fun a => by simp only [List.count_append, List.count_cons, List.count_nil] <;> omega) ?_
    generalize E0 ++ [(b14, Obj.cells #[vs (headB k)] 9 (0, 0))] = F1 at hB1 hN1 ⊢
    simp only [List.flatten_cons, List.flatten_nil, List.append_nil, List.nil_append] at hB1
    have r1 := rdc hN1
    refine Ow.go rfl ?_
    simp (disch := (first | assumption | omega | (simp only [lenS, lenT, UInt64.reduceToNat]; try omega))) only [↓S0, S1, Try.fx, uPE_1, Nat.reduceAdd, Nat.reducePow, Int.reducePow, Nat.reduceBEq, ↓reduceIte, UInt8.reduceToNat, UInt16.reduceToNat, UInt32.reduceToNat, UInt64.reduceToNat, Int.reduceToNat, r1]
    have htx : textsL [t] = textL t := by simp [textsL]
    have tll := textL_len (s := t) (by omega)
    have tnl : (textL t).length = (numL (clampN t.length)).length + t.length := by unfold textL; rw [List.length_append]
    have nl1 := numL_clamp_len (t.length : Int)
    refine Ow.buildSlice (e := 9) #[vs t] rfl rfl (by kernel_rfl) fun b18 hb18 hw18 => ?_
    have h118 : b1 < b18 := above_to hb18 (by simp [keys])
    have hD18 : b18 ∉ keys F1 := fun hm => Nat.lt_irrefl _ (above_to hb18 (by rw [keys_app]; exact List.mem_append_left _ hm))
    refine Ow.go rfl ?_
    simp (disch := (first | assumption | omega | (simp only [lenS, lenT, UInt64.reduceToNat]; try omega))) only [↓S0, S1, Try.fx, uPE_1, Nat.reduceAdd, Nat.reducePow, Int.reducePow, Nat.reduceBEq, ↓reduceIte, UInt8.reduceToNat, UInt16.reduceToNat, UInt32.reduceToNat, UInt64.reduceToNat, Int.reduceToNat]
    refine Ow.callX (Y := [(b1, Obj.cells #[vi k, vs t] 31 (0, 0)), (b18, Obj.cells #[vs t] 9 (0, 0))]) (by simp) rfl rfl Try.call33 (fun w' hw' hX hn => WText_spec b4 F1 _ _ b18 0 [t] _ _ _ w' hB1 hX hn (StrS.lit [t] rfl rfl (hw'.has _ _ (List.mem_append_right _ List.mem_cons_self))) (fun _ => hD18) (by rw [htx]; omega) (by simp)) (fun u1 E1 hC1 hS1 => ?_)
    obtain ⟨rfl, hB1'⟩ := hS1
    have hN1' := Came.newE hC1 hN1 (by simp [keys])
    have hB2 := hB1'.app (Y := [(b18, Obj.cells #[vs t] 9 (0, 0))])
    have hN2 := hN1'.app (show New (b1 + 1) [(b18, Obj.cells #[vs t] 9 (0, 0))] from ⟨by omega, trivial⟩)
    refine Ow.permL (M := (E1 ++ [(b18, Obj.cells #[vs t] 9 (0, 0))]) ++ [(b1, Obj.cells #[vi k, vs t] 31 (0, 0))]) (by classical exact List.perm_iff_count.2 fun a => by simp only [List.count_append, List.count_cons, List.count_nil] <;> omega) ?_
    generalize E1 ++ [(b18, Obj.cells #[vs t] 9 (0, 0))] = F2 at hB2 hN2 ⊢
    rw [htx] at hB2
    refine Ow.go rfl ?_
    simp (disch := (first | assumption | omega | (simp only [lenS, lenT, UInt64.reduceToNat]; try omega))) only [↓S0, S1, Try.fx, uPE_1, Nat.reduceAdd, Nat.reducePow, Int.reducePow, Nat.reduceBEq, ↓reduceIte, UInt8.reduceToNat, UInt16.reduceToNat, UInt32.reduceToNat, UInt64.reduceToNat, Int.reduceToNat]
    refine Ow.callX (Y := [(b1, Obj.cells #[vi k, vs t] 31 (0, 0))]) (by simp) rfl rfl Try.call35 (fun w' hw' hX hn => WString_spec b4 F2 _ w' hB2 hX hn (by rw [List.length_append]; omega)) (fun v5 D5 hC5 hS5 => ?_)
    obtain rfl := hS5
    have hN5 := Came.newE hC5 hN2 (by simp [keys])
    refine Ow.go rfl ?_
    simp (disch := (first | assumption | omega | (simp only [lenS, lenT, UInt64.reduceToNat]; try omega))) only [↓S0, S1, Try.fx, uPE_1, Nat.reduceAdd, Nat.reducePow, Int.reducePow, Nat.reduceBEq, ↓reduceIte, UInt8.reduceToNat, UInt16.reduceToNat, UInt32.reduceToNat, UInt64.reduceToNat, Int.reduceToNat]
    ((try with_reducible refine Cw.go [] ?_); (try simp (disch := (first | assumption | omega | (simp only [lenS, lenT, UInt64.reduceToNat]; try omega))) only [↓S0, S1, Try.fx, uPE_1, Nat.reduceAdd, Nat.reducePow, Int.reducePow, Nat.reduceBEq, ↓reduceIte, UInt8.reduceToNat, UInt16.reduceToNat, UInt32.reduceToNat, UInt64.reduceToNat, Int.reduceToNat]))
    refine ⟨_, (by simp (disch := (first | assumption | omega | (simp only [lenS, lenT, UInt64.reduceToNat]; try omega))) only [↓S0, S1, Try.fx, uPE_1, Nat.reduceAdd, Nat.reducePow, Int.reducePow, Nat.reduceBEq, ↓reduceIte, UInt8.reduceToNat, UInt16.reduceToNat, UInt32.reduceToNat, UInt64.reduceToNat, Int.reduceToNat]; rfl), ?_⟩
    exact ⟨Ext.of_new ((New.mono (by omega) hN5).app ⟨hw1, trivial⟩), rfl⟩
end Go.Proofs
end
section
open Go Go.Proofs Go.Sx Go.StP
namespace Go.Proofs
set_option maxRecDepth 10000
set_option maxHeartbeats 400000
set_option linter.unusedSimpArgs false
set_option linter.defProp false
def uPF_1 := And.intro (And.intro (And.intro (@load_ob) (@load_ob0)) (And.intro (@load_ob1) (@store_ob))) (And.intro (And.intro (@Sx.tup2_0) (@Sx.tup2_1)) (And.intro (@cells_com) (And.intro (@rdIn_v8) (@rdIn_vi))))
def rightL (k : Int) (t : List UInt8) : Bool := if 4096 < t.length then false else if k = 2 then (readE t).isSome else if k = 3 then (readC t).isSome else k == 1
end Go.Proofs
end
section
open Go Go.Proofs Go.Sx Go.StP
namespace Go.Proofs
set_option maxRecDepth 10000
set_option maxHeartbeats 400000
set_option linter.unusedSimpArgs false
/-! ### What was read was written so -/
theorem numL_posE (n : Nat) : 0 < (numL n).length := by
  by_cases h : n < 128
  · rw [numL_small h]; simp
  · rw [numL_big h]; simp
theorem clampN_idE {n : Nat} (h : n ≤ 1099511627775) : clampN (n : Int) = n := clampN_nat (by omega)
theorem treeB_app1 (l : List EntL) (x : EntL) : treeB (l ++ [x]) = treeB l ++ entB x := by unfold treeB; simp
/-! ### Commits -/
/-! ### What was written is read -/
theorem numGo_numLE (most : Int) (r : List UInt8) : ∀ (n k acc : Nat), (0 < k → 0 < n) → k + (numL n).length ≤ 6 → acc + n * 128 ^ k ≤ 1099511627775 → ((acc + n * 128 ^ k : Nat) : Int) ≤ most →
    numGo most (numL n ++ r) k acc = .ok (acc + n * 128 ^ k, k + (numL n).length) := by
  intro n
  induction n using Nat.strongRecOn with
  | ind n ih =>
    intro k acc hk hl hs hm
    by_cases h : n < 128
    · rw [numL_small h, List.cons_append, List.nil_append, numGo]
      have hc : (UInt8.ofNat n).toNat = n := by rw [UInt8.toNat_ofNat']; omega
      rw [hc, Nat.mod_eq_of_lt h, if_neg (by omega), if_neg (by omega), if_pos ⟨hs, hm⟩]
      rfl
    · have hb := numL_big h
      rw [hb] at hl ⊢
      rw [List.cons_append, numGo]
      have hc : (UInt8.ofNat (n % 128 + 128)).toNat = n % 128 + 128 := by rw [UInt8.toNat_ofNat']; omega
      have hp := numL_posE (n / 128)
      rw [List.length_cons] at hl
      have e : acc + (n % 128 + 128) % 128 * 128 ^ k + n / 128 * 128 ^ (k + 1) = acc + n * 128 ^ k := by
        have h1 : (n % 128 + 128) % 128 = n % 128 := by omega
        rw [h1, Nat.pow_succ, Nat.add_assoc]
        congr 1
        have h2 : n / 128 * (128 ^ k * 128) = (n / 128 * 128) * 128 ^ k := by rw [Nat.mul_comm (128 ^ k), Nat.mul_assoc]
        rw [h2, ← Nat.add_mul]
        congr 1
        omega
      rw [hc, if_pos (by omega), if_neg (by omega), ih (n / 128) (by omega) (k + 1) _ (fun _ => by omega) (by omega) (by rw [e]; exact hs) (by rw [e]; exact hm), e, List.length_cons]
      congr 2
      omega
theorem numR_appE (A r : List UInt8) (n : Nat) (most : Int) (hn : n ≤ 1099511627775) (hm : (n : Int) ≤ most) : numR (A ++ (numL n ++ r)) A.length 0 most = ((n : Int), A.length + (numL n).length, 0) := by
  have hl := numL_len_lt 6 n (by omega) (by omega)
  have h := numGo_numLE most r n 0 0 (fun h => absurd h (Nat.lt_irrefl 0)) (by omega) (by simpa using hn) (by simpa using hm)
  simp only [Nat.pow_zero, Nat.mul_one, Nat.zero_add] at h
  exact numR_ok rfl (by rw [List.drop_left]; exact h)
theorem rawR_appE (A x r : List UInt8) : rawR (A ++ (x ++ r)) A.length 0 (x.length : Int) = (x, A.length + x.length, 0) := by
  unfold rawR
  rw [if_neg (by simp), if_neg (by omega), if_neg (by simp only [List.length_append]; omega), List.drop_left, Int.toNat_natCast, List.take_left]
theorem textR_appE (A t r : List UInt8) (most : Int) (hn : t.length ≤ 1099511627775) (hm : (t.length : Int) ≤ most) : textR (A ++ (textL t ++ r)) A.length 0 most = (t, A.length + (textL t).length, 0) := by
  have h1 := numR_appE A (t ++ r) t.length most hn hm
  have h2 := rawR_appE (A ++ numL t.length) t r
  unfold textR textL
  rw [clampN_idE (by omega)]
  rw [List.append_assoc, h1]
  simp only
  rw [List.append_assoc, List.length_append] at h2
  rw [h2]
  simp only [ne_eq, not_true_eq_false, ↓reduceIte, List.length_append, Nat.add_assoc]
theorem idR_appE (A r : List UInt8) (i : IdL) : idR (A ++ (i.l ++ r)) A.length 0 = (i.l, A.length + 32, 0) := by
  have h := rawR_appE A i.l r
  have hi := i.h
  rw [hi] at h
  unfold idR
  rw [show (32 : Int) = ((32 : Nat) : Int) from rfl, h]
  simp only [hi, ↓reduceIte]
theorem mkIdE_l (i : IdL) : mkIdE i.l = i := by unfold mkIdE; rw [dif_pos i.h]
theorem entR_appE (A r : List UInt8) (x : EntL) (hk : 0 ≤ x.kind ∧ x.kind ≤ 2) (hn : x.name.length ≤ 32) : entR (A ++ (entB x ++ r)) A.length 0 = (x, A.length + (entB x).length, 0) := by
  obtain ⟨nm, kd, id⟩ := x
  simp only at hk hn
  obtain ⟨k, rfl⟩ := Int.eq_ofNat_of_zero_le hk.1
  have h1 := numR_appE A (textL nm ++ (id.l ++ r)) k 2 (by omega) hk.2
  have h2 := textR_appE (A ++ numL k) nm (id.l ++ r) 32 (by omega) (by omega)
  have h3 := idR_appE (A ++ numL k ++ textL nm) r id
  unfold entR entB
  simp only
  rw [clampN_idE (by omega)]
  simp only [List.append_assoc, List.length_append] at h1 h2 h3 ⊢
  rw [h1]
  simp only
  rw [h2]
  simp only [Nat.add_assoc] at h3 ⊢
  rw [h3]
  simp only [mkIdE_l, id.h, Nat.add_assoc]
def EntsShort (l : List EntL) : Prop := ∀ x, x ∈ l → 0 ≤ x.kind ∧ x.kind ≤ 2 ∧ x.name.length ≤ 32
theorem entB_pos (x : EntL) : 0 < (entB x).length := by
  unfold entB
  simp only [List.length_append]
  have := x.id.h
  omega
theorem treeB_cons (x : EntL) (l : List EntL) : treeB (x :: l) = entB x ++ treeB l := by unfold treeB; simp
theorem entsGo_app : ∀ (l A : List EntL) (n : Nat), EntsShort l → (treeB l).length < n → entsGo (treeB A ++ treeB l) n (treeB A).length 0 A = (A ++ l, (treeB A ++ treeB l).length, 0)
  | [], A, n, _, hn => by
    rw [entsGo_end (fun h => by have := h.2; simp [treeB] at this)]
    simp [treeB]
  | x :: l, A, n, hs, hn => by
    obtain ⟨m, rfl⟩ : ∃ m, n = m + 1 := ⟨n - 1, by omega⟩
    have hx := hs x List.mem_cons_self
    have hp := entB_pos x
    rw [treeB_cons] at hn ⊢
    rw [List.length_append] at hn
    rw [entsGo_on ⟨rfl, by simp only [List.length_append]; omega⟩, entR_appE _ _ _ ⟨hx.1, hx.2.1⟩ hx.2.2]
    simp only
    have ih := entsGo_app l (A ++ [x]) m (fun y hy => hs y (List.mem_cons_of_mem _ hy)) (by omega)
    rw [treeB_app1, List.append_assoc, List.length_append, List.append_assoc] at ih
    exact ih
theorem entsE_treeB {l : List EntL} (h : EntsShort l) : entsE (treeB l) = (l, (treeB l).length, 0) := by
  have h1 := entsGo_app l [] ((treeB l).length + 1) h (by omega)
  rw [show treeB [] = [] from rfl, List.nil_append, List.nil_append, List.length_nil] at h1
  exact h1
theorem entsOk_short {l : List EntL} (h : entsOk l = true) : l.length ≤ 32 ∧ ∀ x, x ∈ l → (x.kind = 1 ∨ x.kind = 2) ∧ x.name.length ≤ 32 := by
  unfold entsOk at h
  simp only [Bool.and_eq_true, decide_eq_true_eq, List.all_eq_true, List.mem_range] at h
  refine ⟨h.1, fun x hx => ?_⟩
  obtain ⟨i, hi, rfl⟩ := List.getElem_of_mem hx
  have h2 := h.2 i hi
  unfold entOk nameV at h2
  rw [List.getD_eq_getElem?_getD, List.getElem?_eq_getElem hi, Option.getD_some] at h2
  simp only [Bool.and_eq_true, Bool.or_eq_true, decide_eq_true_eq, beq_iff_eq] at h2
  exact ⟨h2.1.2, h2.1.1.1.2⟩
theorem numL_len1 {n : Nat} (h : n < 128) : (numL n).length = 1 := by rw [numL_small h]; rfl
theorem treeB_small : ∀ {l : List EntL}, (∀ x, x ∈ l → (x.kind = 1 ∨ x.kind = 2) ∧ x.name.length ≤ 32) → (treeB l).length ≤ l.length * 66
  | [], _ => by simp [treeB]
  | x :: l, h => by
    have ih := treeB_small (l := l) fun y hy => h y (List.mem_cons_of_mem _ hy)
    have hx := h x List.mem_cons_self
    have h1 : (numL (clampN x.kind)).length = 1 := by
      rcases hx.1 with e | e <;> rw [e] <;> exact numL_len1 (by decide)
    have h2 : (textL x.name).length ≤ 33 := by
      unfold textL
      rw [clampN_idE (by omega), List.length_append, numL_len1 (by omega)]
      omega
    have h3 := x.id.h
    rw [treeB_cons, List.length_append, List.length_cons]
    unfold entB
    simp only [List.length_append]
    omega
theorem RdOk_tree {l : List EntL} (h : entsOk l = true) : RdOk 2 (treeB l) = true := by
  have hs := entsOk_short h
  have hl := treeB_small hs.2
  have he : entsE (treeB l) = (l, (treeB l).length, 0) := entsE_treeB fun x hx => by
    have := hs.2 x hx
    omega
  unfold RdOk
  rw [if_pos (by omega), if_neg (by decide), if_pos rfl, he]
  simp only [endE, h]
  simp
theorem idsGo_appE (A r : List UInt8) : ∀ (l _B : List IdL), ∀ k, k ≤ l.length → idsGo (A ++ (idsB l ++ r)) A.length 0 k = (l.take k, A.length + (idsB (l.take k)).length, 0)
  | l, B, 0, _ => by simp [idsGo, idsB]
  | l, B, k + 1, hk => by
    have ih := idsGo_appE A r l B k (by omega)
    have hlt : k < l.length := hk
    have hsp : idsB l = idsB (l.take k) ++ ((l.getD k id0).l ++ idsB (l.drop (k + 1))) := by
      conv => lhs; rw [← List.take_append_drop k l]
      unfold idsB
      rw [List.map_append, List.flatten_append, List.drop_eq_getElem_cons hlt, List.getD_eq_getElem?_getD, List.getElem?_eq_getElem hlt, List.map_cons, List.flatten_cons]
      rfl
    have h1 := idR_appE (A ++ idsB (l.take k)) (idsB (l.drop (k + 1)) ++ r) (l.getD k id0)
    have e : A ++ idsB (l.take k) ++ ((l.getD k id0).l ++ (idsB (l.drop (k + 1)) ++ r)) = A ++ (idsB l ++ r) := by
      rw [hsp]; simp only [List.append_assoc]
    rw [e, List.length_append] at h1
    unfold idsGo
    rw [ih]
    simp only
    rw [h1, idsB_snoc hlt]
    simp only [mkIdE_l, List.length_append, (l.getD k id0).h, Nat.add_assoc]
    rw [List.take_succ_eq_append_getElem hlt, List.getD_eq_getElem?_getD, List.getElem?_eq_getElem hlt]
    rfl
theorem comE_comB {c : ComL} (hp : c.par.length ≤ 4) (ht : c.text.length ≤ 64) : comE (comB c) = (c, (comB c).length, 0) := by
  obtain ⟨tr, pr, tx⟩ := c
  simp only at hp ht
  have e0 : comB ⟨tr, pr, tx⟩ = tr.l ++ (numL pr.length ++ (idsB pr ++ textL tx)) := by
    unfold comB comHd; simp only [List.append_assoc]; rw [clampN_idE (by omega)]
  have h1 := idR_appE [] (numL pr.length ++ (idsB pr ++ textL tx)) tr
  rw [List.nil_append, List.length_nil, ← e0] at h1
  have h2 := numR_appE tr.l (idsB pr ++ textL tx) pr.length 4 (by omega) (by omega)
  rw [← e0, tr.h] at h2
  have h3 := idsGo_appE (tr.l ++ numL pr.length) (textL tx) pr [] pr.length (Nat.le_refl _)
  rw [List.append_assoc, ← e0, List.length_append, tr.h, List.take_length] at h3
  have h4 := textR_appE (tr.l ++ numL pr.length ++ idsB pr) tx [] 64 (by omega) (by omega)
  rw [List.append_nil, List.append_assoc, List.append_assoc, ← e0, List.length_append, List.length_append, tr.h] at h4
  have hN : comN (comB ⟨tr, pr, tx⟩) = ((pr.length : Int), 32 + (numL pr.length).length, 0) := by
    unfold comN; rw [h1]; simp only [Nat.zero_add]; exact h2
  have hP : comP (comB ⟨tr, pr, tx⟩) = (pr, 32 + (numL pr.length).length + (idsB pr).length, 0) := by
    unfold comP; rw [hN]; simp only [Int.toNat_natCast]; exact h3
  have hT : comT (comB ⟨tr, pr, tx⟩) = (tx, 32 + (numL pr.length).length + (idsB pr).length + (textL tx).length, 0) := by
    unfold comT; rw [hP]; exact h4
  have hl : (comB ⟨tr, pr, tx⟩).length = 32 + (numL pr.length).length + (idsB pr).length + (textL tx).length := by
    rw [e0]; simp only [List.length_append, tr.h]; omega
  unfold comE
  rw [h1, hP, hT, hl]
  simp only [mkIdE_l]
theorem comOk_short {c : ComL} (h : comOk c = true) : c.par.length ≤ 4 ∧ c.text.length ≤ 64 := by
  unfold comOk at h
  simp only [Bool.and_eq_true, decide_eq_true_eq] at h
  exact h.1
theorem RdOk_com {c : ComL} (h : comOk c = true) : RdOk 3 (comB c) = true := by
  have hs := comOk_short h
  have he := comE_comB hs.1 hs.2
  have hl : (comB c).length ≤ 4096 := by
    unfold comB comHd textL
    rw [clampN_idE (by omega), clampN_idE (by omega)]
    simp only [List.length_append, idsB_len, c.tree.h]
    have h1 := numL_len1 (n := c.par.length) (by omega)
    have h2 := numL_len1 (n := c.text.length) (by omega)
    omega
  unfold RdOk
  rw [if_pos (by omega), if_neg (by decide), if_neg (by decide), he]
  simp only [endE, h]
  simp
end Go.Proofs
end
section
open Go Go.Proofs Go.Sx Go.StP
namespace Go.Proofs
set_option maxRecDepth 10000
set_option maxHeartbeats 400000
set_option linter.unusedSimpArgs false
/-! ### Frames, read -/
/-- Where a text of one byte at most stands. -/
def idxT (s : List UInt8) : List UInt8 → Int
  | [] => 0
  | c :: _ => Lib.indexByte s c
abbrev letL : List UInt8 := [32, 98, 116, 99]
/-- The kind and the text of a frame, and whether it is one. -/
def frR (s : List UInt8) : List UInt8 × Nat × Int := rawR s 0 0 1
def frT (s : List UInt8) : List UInt8 × Nat × Int := textR s (frR s).2.1 (frR s).2.2 4096
def frK (s : List UInt8) : Int := idxT letL (frR s).1
def frOk (s : List UInt8) : Bool := endE s (frT s).2.1 (frT s).2.2 == 0 && RdOk (frK s) (frT s).1
def ReadFS (s : List UInt8) (v : Value) : Prop := v = .tuple #[obV (if frOk s then frK s else 0) (if frOk s then (frT s).1 else []), vi (if frOk s then 0 else 2)]
set_option linter.defProp false
def uPH_1 := And.intro (And.intro (And.intro (@load_ob) (@load_ob0)) (And.intro (@load_ob1) (@store_ob))) (And.intro (And.intro (@Sx.tup2_0) (@Sx.tup2_1)) (And.intro (@rdIn_v8) (@rdIn_vi)))
end Go.Proofs
end
section
open Go Go.Proofs Go.Sx Go.StP
namespace Go.Proofs
set_option maxRecDepth 10000
set_option maxHeartbeats 400000
set_option linter.unusedSimpArgs false
/-! ### Frames, as the law reads them -/
def fkC (c : UInt8) : Int := if c = 98 then 1 else if c = 116 then 2 else if c = 99 then 3 else 0
def lfT (r : List UInt8) : List UInt8 × Nat × Int := textR r 0 0 4096
def lfK (s : List UInt8) : Int := match s with | [] => 0 | c :: _ => fkC c
def lfOk (s : List UInt8) : Bool := lfK s != 0 && endE (s.drop 1) (lfT (s.drop 1)).2.1 (lfT (s.drop 1)).2.2 == 0 && rightL (lfK s) (lfT (s.drop 1)).1
def ReadLS (s : List UInt8) (v : Value) : Prop := v = .tuple #[obV (if lfOk s then lfK s else 0) (if lfOk s then (lfT (s.drop 1)).1 else []), .bool (lfOk s)]
theorem store_ob0 (k k' : Int) (t : List UInt8) (a : Bool) (E : TypeId) : storeV (some (a, 1)) (some (.cells #[vi k', vs t] E (0, 0))) 0 (vi k) = some (.cells #[vi k, vs t] E (0, 0)) := (rfl)
theorem store_ob1 (k : Int) (t t' : List UInt8) (a : Bool) (E : TypeId) : storeV (some (a, 1)) (some (.cells #[vi k, vs t'] E (0, 0))) 1 (vs t) = some (.cells #[vi k, vs t] E (0, 0)) := (rfl)
set_option linter.defProp false
def uPI_1 := And.intro (And.intro (And.intro (@load_ob) (@load_ob0)) (And.intro (@load_ob1) (And.intro (@store_ob) (@store_ob0)))) (And.intro (And.intro (@store_ob1) (@Sx.tup2_0)) (And.intro (@Sx.tup2_1) (And.intro (@rdIn_v8) (@rdIn_vi))))
end Go.Proofs
end
section
open Go Go.Proofs Go.Sx Go.StP
namespace Go.Proofs
set_option maxRecDepth 10000
set_option maxHeartbeats 400000
set_option linter.unusedSimpArgs false
/-! ### Children -/
structure ChildL where
  id : IdL
  kind : Int
def chdC (r : ChildL) : List Value := r.id.l.map v8 ++ ([vi r.kind])
def chd0 : ChildL := ⟨id0, 0⟩
theorem chdC_len (r : ChildL) : (chdC r).length = 33 := by simp [chdC, r.id.h]
theorem cells_chd (r : ChildL) : Value.cells (.agg (chdC r).toArray) = (chdC r).toArray := cells_agg _
theorem chdC_one (r : ChildL) : (chdC r).all Value.oneCell' = true := by
  unfold chdC
  simp only [List.all_append, List.all_cons, List.all_nil, all_v8, Bool.and_true, Bool.true_and]
  rfl
theorem zrChd : zeroV Try.prog 61 = some (.agg (chdC chd0).toArray) := id (by kernel_rfl)
theorem aggChd : aggT Try.prog 61 = some (true, 33) := id (by kernel_rfl)
theorem chd_at0 (r : ChildL) : chdC r = ([] : List Value) ++ ((r.id.l.map v8) ++ ([vi r.kind])) := by
  unfold chdC; simp only [List.append_assoc, List.nil_append, List.append_nil]
theorem chd_p0 (r : ChildL) : partV (true, 32) (chdC r).toArray 0 = some (Value.agg (a8 r.id.l)) := by
  rw [chd_at0, part_agg _ _ _ (by simp) (by simp [r.id.h])]; rfl
theorem chd_at1 (r : ChildL) : chdC r = ((r.id.l.map v8)) ++ (([vi r.kind]) ++ (([] : List Value))) := by
  unfold chdC; simp only [List.append_assoc, List.nil_append, List.append_nil]
theorem chd_p1 (r : ChildL) : partV (false, 1) (chdC r).toArray 32 = some (vi r.kind) := by
  rw [chd_at1]; exact part_one _ _ _ (by simp [r.id.h])
theorem stoodChd : Try.prog.stoodInHeld 61 = false := by kernel_rfl
theorem guardChd : Try.prog.eqGuardType Try.prog.depth 61 = false := by kernel_rfl
theorem eqDChd (r r' : ChildL) : eqD Try.prog 8 61 (.agg (chdC r).toArray) (.agg (chdC r').toArray) = some ((r.id.l == r'.id.l) && (r.kind == r'.kind)) := by
  have hd : ∀ (a b : IdL), eqD Try.prog 7 24 (.agg (a8 a.l)) (.agg (a8 b.l)) = some (a.l == b.l) := fun a b => eqD_a8 (d := 5) Try.underlying24 Try.underlying5 Try.ag5 _ _ a.h b.h
  have hi : ∀ (a b : Int), eqD Try.prog 7 3 (vi a) (vi b) = some (a == b) := by
    intro a b; unfold eqD; rw [Try.underlying3]; rfl
  have agd : aggT Try.prog 24 = some (true, 32) := id (by kernel_rfl)
  have agi : aggT Try.prog 3 = some (false, 1) := id (by kernel_rfl)
  unfold eqD
  rw [Try.underlying61]
  simp only
  rw [stoodChd]
  simp only [Bool.false_eq_true, ↓reduceIte, eqFieldsV, eqPartV, agd, agi, chd_p0, chd_p1, hd, hi]
  cases (r.id.l == r'.id.l) <;> cases (r.kind == r'.kind) <;> simp
theorem eqChd (r r' : ChildL) : binX Try.prog .eql 61 (.agg (chdC r).toArray) (.agg (chdC r').toArray) = some (.bool ((r.id.l == r'.id.l) && (r.kind == r'.kind))) := by
  unfold binX eqX; rw [guardChd]; simp [plainV, eqDChd]
theorem build_chd (r : ChildL) : buildV (plcT Try.prog 61) (zeroV Try.prog 61) [(0, Value.agg (a8 r.id.l)), (1, vi r.kind)] = some (.agg (chdC r).toArray) := by
  have hp : plcT Try.prog 61 = some [(0, 32), (32, 1)] := id (by kernel_rfl)
  rw [hp, zrChd]
  have e0 : (chdC chd0).toArray = (([] : List Value) ++ ((chd0.id.l.map v8) ++ ([vi chd0.kind]))).toArray := by congr 1 <;> simp only [chdC, List.append_assoc, List.nil_append, List.append_nil]
  have q0 : putC (([] : List Value) ++ ((chd0.id.l.map v8) ++ ([vi chd0.kind]))).toArray 0 (r.id.l.map v8) = (([] : List Value) ++ ((r.id.l.map v8) ++ ([vi chd0.kind]))).toArray := put_mid _ _ _ _ (by simp) (by simp [chd0.id.h, r.id.h])
  have s0 : (([] : List Value) ++ ((chd0.id.l.map v8) ++ ([vi chd0.kind]))).toArray.size = 33 := by simp [r.id.h, chd0.id.h]
  have z0 : (Value.cells (Value.agg (a8 r.id.l))).toList = r.id.l.map v8 := by rw [cells_agg]; rfl
  have y0 : (Value.cells (Value.agg (a8 r.id.l))).size = 32 := by rw [← Array.length_toList, z0]; simp [r.id.h]
  have e1 : (([] : List Value) ++ ((r.id.l.map v8) ++ ([vi chd0.kind]))).toArray = (((r.id.l.map v8)) ++ (([vi chd0.kind]) ++ (([] : List Value)))).toArray := by congr 1 <;> simp only [chdC, List.append_assoc, List.nil_append, List.append_nil]
  have q1 : putC (((r.id.l.map v8)) ++ (([vi chd0.kind]) ++ (([] : List Value)))).toArray 32 ([vi r.kind]) = (((r.id.l.map v8)) ++ (([vi r.kind]) ++ (([] : List Value)))).toArray := put_mid _ _ _ _ (by simp [r.id.h]) (rfl)
  have s1 : (((r.id.l.map v8)) ++ (([vi chd0.kind]) ++ (([] : List Value)))).toArray.size = 33 := by simp [r.id.h, chd0.id.h]
  have z1 : (Value.cells (vi r.kind)).toList = [vi r.kind] := by rfl
  have y1 : (Value.cells (vi r.kind)).size = 1 := by rw [← Array.length_toList, z1]; simp
  have e2 : (((r.id.l.map v8)) ++ (([vi r.kind]) ++ (([] : List Value)))).toArray = (chdC r).toArray := by congr 1 <;> simp only [chdC, List.append_assoc, List.nil_append, List.append_nil]
  simp only [buildV]
  rw [e0]
  unfold fillV
  simp only [List.getElem?_cons_zero, List.getElem?_cons_succ, z0, y0]
  rw [if_pos ⟨trivial, by rw [s0]; decide⟩, q0]
  rw [e1]
  unfold fillV
  simp only [List.getElem?_cons_zero, List.getElem?_cons_succ, z1, y1]
  rw [if_pos ⟨trivial, by rw [s1]; decide⟩, q1]
  rw [e2]; rfl
abbrev ChdS (w : World) (v : Value) (l : List ChildL) : Prop := SlV 33 chdC chd0 w v l
def chOfE (e : EntL) : ChildL := ⟨e.id, e.kind⟩
def chOfP (i : IdL) : ChildL := ⟨i, 3⟩
/-- What an object names. -/
def childL (k : Int) (t : List UInt8) : List ChildL :=
  if RdOk k t then (if k = 2 then (entsE t).1.map chOfE else if k = 3 then ⟨(comE t).1.tree, 2⟩ :: (comE t).1.par.map chOfP else []) else []
theorem Gr.rows {α : Type} {L : Heap} {E : TypeId} {m : Nat} {v : Value} {enc : α → List Value} {l : List α} (h : Gr L E m v l.length (l.map enc).flatten) (h0 : 0 < l.length) : ∃ b c rest, v = vsl b 0 l.length c ∧ Sx.look L b = some (rowO enc E rest l) := by
  rcases h with h | ⟨h, -⟩
  · rcases h.inv with ⟨-, h, -⟩ | ⟨b, c, rest, hv, hl, -⟩
    · omega
    · exact ⟨b, c, rest, hv, hl⟩
  · omega
abbrev idRO (rest : List Value) (l : List IdL) : Obj := rowO idLC 24 rest l
theorem load_idRO {rest : List Value} {l : List IdL} (k : Nat) (hk : k < l.length) : loadV (some (true, 32)) (some (idRO rest l)) (k * 32) = some (.agg (a8 (l.getD k id0).l)) := by
  have := load_row (z := id0) (E := 24) (rest := rest) (idLC_len') k hk
  rw [this, ← idLC_a8]
/-- All blocks of a chunk are younger than those of another, and than b. -/
def SepK (b : Nat) (D E : Heap) : Prop := ∀ c, c ∈ keys E → b < c ∧ ∀ d, d ∈ keys D → d < c
theorem SepK.nil {b : Nat} {D : Heap} : SepK b D [] := fun c hc => by cases hc
theorem SepK.cons {b c : Nat} {o : Obj} {D E : Heap} (h : SepK b D E) (h1 : b < c) (h2 : ∀ d, d ∈ keys D → d < c) : SepK b D ((c, o) :: E) := fun x hx => by
  simp only [keys, List.map_cons, List.mem_cons] at hx
  rcases hx with rfl | hx
  · exact ⟨h1, h2⟩
  · exact h x hx
theorem SepK.app {b : Nat} {D E F : Heap} (h : SepK b D E) (h2 : SepK b D F) : SepK b D (E ++ F) := fun x hx => by
  rw [keys_app, List.mem_append] at hx
  rcases hx with hx | hx
  · exact h x hx
  · exact h2 x hx
theorem SepK.grow {b B : Nat} {D E F : Heap} (h : SepK b D E) (hk : ∀ c, c ∈ keys F → c ∈ keys E ∨ B ≤ c) (h1 : b < B) (h2 : ∀ d, d ∈ keys D → d < B) : SepK b D F := fun x hx => by
  rcases hk x hx with h' | h'
  · exact h x h'
  · exact ⟨by omega, fun d hd => by have := h2 d hd; omega⟩
theorem SepK.look {b : Nat} {D E : Heap} {c : Nat} {o x : Obj} (h : SepK b D E) (hl : Sx.look E c = some o) : Sx.look ((b, x) :: (D ++ E)) c = some o := by
  have := h c (key_of_look hl)
  rw [look_other _ _ _ _ (by omega), look_app_r (fun hm => by have := this.2 c hm; omega)]
  exact hl
theorem load_ro2i (r v : Value) (t : IdL) (p : Value) (y : List UInt8) (E : TypeId) (fz : Nat × Nat) : loadV (some (true, 32)) (some (.cells (roC r v t p y).toArray E fz)) 2 = some (.agg (a8 t.l)) := by
  have e : roC r v t p y = [r, v] ++ (t.l.map v8 ++ ([p] ++ [vs y])) := by unfold roC comC; simp
  rw [e]; exact load_agg [r, v] _ _ E fz rfl (by simp [t.h])
structure ChG where
  g : Nat
  v : Value
  D : Heap
theorem map_take_succ {α β : Type} (f : α → β) (z : α) {l : List α} {k : Nat} (hk : k < l.length) : (l.take (k + 1)).map f = (l.take k).map f ++ [f (l.getD k z)] := by
  rw [List.take_succ_eq_append_getElem hk, List.map_append, List.getD_eq_getElem?_getD, List.getElem?_eq_getElem hk]; rfl
theorem Gr.snoc {α : Type} {L : Heap} {E : TypeId} {m n : Nat} {v : Value} {enc : α → List Value} {l : List α} {x : α} (hn : n = l.length) (h : Buf L E m v (n + 1) ((l.map enc).flatten ++ enc x)) : Gr L E m v (l ++ [x]).length ((l ++ [x]).map enc).flatten := by
  subst hn
  rw [List.length_append, List.map_append, List.flatten_append, show ([x].map enc).flatten = enc x by simp]
  exact .inl h
set_option linter.defProp false
def uPJ_1 := And.intro (And.intro (And.intro (And.intro (@load_ob) (@load_ob0)) (And.intro (@load_ob1) (And.intro (@store_ob) (@Sx.tup2_0)))) (And.intro (And.intro (@Sx.tup2_1) (@load_ro0)) (And.intro (@load_ro1) (And.intro (@load_ro2) (@load_ro2i))))) (And.intro (And.intro (And.intro (@load_ro34) (@load_ent0)) (And.intro (@load_ent1) (And.intro (@load_ent2) (@load_ent)))) (And.intro (And.intro (@store_entr) (@cells_ent)) (And.intro (@load_idb) (And.intro (@rdIn_v8) (@rdIn_vi)))))
theorem ChildrenO_spec (k : Int) (t : List UInt8) (w : World) : Rets Try.prog 26 #[obV k t] w (XS w [] (fun v D => Gr D 61 33 v (childL k t).length ((childL k t).map chdC).flatten)) := by
  refine Rets.enterX Try.func26 rfl (rs := [.tmp 2]) Try.results26 Try.ntmps26 (fun p hp => by cases hp) (by simp [keys]) ?_
  simp only [List.size_toArray, List.length_cons, List.length_nil, Nat.reduceAdd, Nat.reduceSub, List.replicate_succ, List.replicate_zero, List.cons_append, List.nil_append]
  ((try with_reducible refine Cw.go [] ?_); (try simp (disch := (first | assumption | omega | (simp only [lenS, lenT, UInt64.reduceToNat]; try omega))) only [↓S0, S1, Try.fx, uPJ_1, Nat.reduceAdd, Nat.reducePow, Int.reducePow, Nat.reduceBEq, ↓reduceIte, UInt8.reduceToNat, UInt16.reduceToNat, UInt32.reduceToNat, UInt64.reduceToNat, Int.reduceToNat]))
  refine Ow.box rfl rfl fun b1 hb1 hw1 => ?_
  simp only [ev_tmp, getF_0, getF_s, cells_agg, List.nil_append]
  refine Ow.go rfl ?_
  simp (disch := (first | assumption | omega | (simp only [lenS, lenT, UInt64.reduceToNat]; try omega))) only [↓S0, S1, Try.fx, uPJ_1, Nat.reduceAdd, Nat.reducePow, Int.reducePow, Nat.reduceBEq, ↓reduceIte, UInt8.reduceToNat, UInt16.reduceToNat, UInt32.reduceToNat, UInt64.reduceToNat, Int.reduceToNat]
  refine Ow.callC rfl rfl Try.call42 (fun w' hw' => readO_spec k t w') (fun B v D hA hB hN hS => ?_)
  obtain ⟨p, rfl, hS⟩ := hS
  obtain ⟨h1B, -⟩ := hA
  have hNe : New w.heap.size ((b1, Obj.cells #[vi k, vs t] 31 (0, 0)) :: D) := ⟨hw1, New.mono hB hN⟩
  cases hr : RdOk k t
  · refine Ow.go rfl ?_
    simp (disch := (first | assumption | omega | (simp only [lenS, lenT, UInt64.reduceToNat]; try omega))) only [↓S0, S1, Try.fx, uPJ_1, Nat.reduceAdd, Nat.reducePow, Int.reducePow, Nat.reduceBEq, ↓reduceIte, UInt8.reduceToNat, UInt16.reduceToNat, UInt32.reduceToNat, UInt64.reduceToNat, Int.reduceToNat]
    ((try with_reducible refine Cw.go [] ?_); (try simp (disch := (first | assumption | omega | (simp only [lenS, lenT, UInt64.reduceToNat]; try omega))) only [↓S0, S1, Try.fx, uPJ_1, Nat.reduceAdd, Nat.reducePow, Int.reducePow, Nat.reduceBEq, ↓reduceIte, UInt8.reduceToNat, UInt16.reduceToNat, UInt32.reduceToNat, UInt64.reduceToNat, Int.reduceToNat]))
    refine ⟨_, (by simp (disch := (first | assumption | omega | (simp only [lenS, lenT, UInt64.reduceToNat]; try omega))) only [↓S0, S1, Try.fx, uPJ_1, Nat.reduceAdd, Nat.reducePow, Int.reducePow, Nat.reduceBEq, ↓reduceIte, UInt8.reduceToNat, UInt16.reduceToNat, UInt32.reduceToNat, UInt64.reduceToNat, Int.reduceToNat]; rfl), ?_⟩
    refine ⟨Ext.of_new hNe, ?_⟩
    unfold childL
    rw [hr]
    exact Gr.nl
  · obtain ⟨bo, bw, v1, c1, x1, y1, rfl, hlk, hg2, hg3, hgn⟩ := hS (RdOk_in hr)
    have hob := hN.le bo (key_of_look hlk)
    have hob1 : b1 ≠ bo := by omega
    obtain ⟨l, hG1, hl2, hln, hl32⟩ : ∃ l : List EntL, Gr D 45 34 v1 l.length (l.map entC).flatten ∧ (k = 2 → l = (entsE t).1) ∧ (k ≠ 2 → l = []) ∧ l.length ≤ 32 := by
      by_cases h2 : k = 2
      · refine ⟨(entsE t).1, hg2 h2, fun _ => rfl, fun h => absurd h2 h, ?_⟩
        subst h2
        have := hr
        unfold RdOk at this
        rw [if_pos (RdOk_in hr), if_neg (by decide), if_pos rfl] at this
        simp only [Bool.and_eq_true] at this
        exact (entsOk_short this.2).1
      · exact ⟨[], by rw [hgn h2]; exact Gr.nl, fun h => absurd h h2, fun _ => rfl, Nat.zero_le _⟩
    have ln1 := hG1.len
    have rdo : ∀ M, readB w (D ++ M) bo = some (.cells (roC (vp bw 0) v1 c1 x1 y1).toArray 87 (0, 0)) := fun M => read_look (look_app hlk)
    have rdo0 : readB w D bo = some (.cells (roC (vp bw 0) v1 c1 x1 y1).toArray 87 (0, 0)) := read_look hlk
    refine Ow.go rfl ?_
    simp (disch := (first | assumption | omega | (simp only [lenS, lenT, UInt64.reduceToNat]; try omega))) only [↓S0, S1, Try.fx, uPJ_1, Nat.reduceAdd, Nat.reducePow, Int.reducePow, Nat.reduceBEq, ↓reduceIte, UInt8.reduceToNat, UInt16.reduceToNat, UInt32.reduceToNat, UInt64.reduceToNat, Int.reduceToNat]
    ((try with_reducible refine Cw.go [] ?_); (try simp (disch := (first | assumption | omega | (simp only [lenS, lenT, UInt64.reduceToNat]; try omega))) only [↓S0, S1, Try.fx, uPJ_1, Nat.reduceAdd, Nat.reducePow, Int.reducePow, Nat.reduceBEq, ↓reduceIte, UInt8.reduceToNat, UInt16.reduceToNat, UInt32.reduceToNat, UInt64.reduceToNat, Int.reduceToNat, rdo0, ln1]))
    refine Cw.permL (M := (b1, Obj.cells #[vi k, vs t] 31 (0, 0)) :: (D ++ [])) (by rw [List.append_nil]) ?_
    refine Cw.loopG (G := ChG) [23, 24, 25, 7, 26, 27, 28, 29, 30, 31, 32, 33, 5, 34, 22] (fun q => [(5, q.v), (22, vi q.g)]) (fun q => (b1, Obj.cells #[vi k, vs t] 31 (0, 0)) :: (D ++ q.D)) (fun q => q.g ≤ l.length ∧ New w.heap.size q.D ∧ SepK b1 D q.D ∧ Gr q.D 61 33 q.v ((l.take q.g).map chOfE).length (((l.take q.g).map chOfE).map chdC).flatten) (fun q => l.length - q.g) ⟨0, .slice none 0 0, []⟩ rfl rfl ?_ ?_
    · exact ⟨Nat.zero_le _, trivial, SepK.nil, Gr.nl⟩
    · intro q jq hq
      simp only [overFrom, pin, setF_0, setF_s, List.contains_cons, List.contains_nil, Nat.reduceBEq, Bool.or_false, Bool.false_or, Bool.or_true, Bool.true_or, Nat.reduceAdd, ↓reduceIte, Bool.false_eq_true]
      obtain ⟨g, v, D2⟩ := q
      simp only at hq ⊢
      obtain ⟨hgl, hN2, hSp, hG⟩ := hq
      by_cases hlt : g < l.length
      · obtain ⟨c, cc, rest, rfl, hlc⟩ := Gr.rows hG1 (by omega)
        have hcb := hN.le c (key_of_look hlc)
        have hc1 : b1 ≠ c := by omega
        have rdc : ∀ M, readB w (D ++ M) c = some (entO rest l) := fun M => read_look (look_app hlc)
        have ldc := load_entR (rest := rest) g hlt
        have hml := map_take_succ chOfE ent0 hlt
        have hmll : ((l.take g).map chOfE).length = g := by rw [List.length_map, List.length_take]; omega
        generalize hx : l.getD g ent0 = x at ldc hml
        ((try with_reducible refine Cw.go [] ?_); (try simp (disch := (first | assumption | omega | (simp only [lenS, lenT, UInt64.reduceToNat]; try omega))) only [↓S0, S1, Try.fx, uPJ_1, Nat.reduceAdd, Nat.reducePow, Int.reducePow, Nat.reduceBEq, ↓reduceIte, UInt8.reduceToNat, UInt16.reduceToNat, UInt32.reduceToNat, UInt64.reduceToNat, Int.reduceToNat, rdc, ldc]))
        refine Ow.alloc rfl rfl zrEnt fun b7 hb7 hw7 => ?_
        simp only [cells_agg, List.nil_append, List.cons_append]
        have h17 : b1 < b7 := above_to hb7 (by simp [keys])
        refine Ow.permL (M := (b7, Obj.cells (entC ent0).toArray 45 (0, 0)) :: (b1, Obj.cells #[vi k, vs t] 31 (0, 0)) :: (D ++ D2)) (by classical exact List.perm_iff_count.2 fun a => by simp only [List.count_append, List.count_cons, List.count_nil] <;> omega) ?_
        refine Ow.go rfl ?_
        simp (disch := (first | assumption | omega | (simp only [lenS, lenT, UInt64.reduceToNat]; try omega))) only [↓S0, S1, Try.fx, uPJ_1, Nat.reduceAdd, Nat.reducePow, Int.reducePow, Nat.reduceBEq, ↓reduceIte, UInt8.reduceToNat, UInt16.reduceToNat, UInt32.reduceToNat, UInt64.reduceToNat, Int.reduceToNat]
        ((try with_reducible refine Cw.go [] ?_); (try simp (disch := (first | assumption | omega | (simp only [lenS, lenT, UInt64.reduceToNat]; try omega))) only [↓S0, S1, Try.fx, uPJ_1, Nat.reduceAdd, Nat.reducePow, Int.reducePow, Nat.reduceBEq, ↓reduceIte, UInt8.reduceToNat, UInt16.reduceToNat, UInt32.reduceToNat, UInt64.reduceToNat, Int.reduceToNat]))
        refine Ow.build (.agg (chdC (chOfE x)).toArray) rfl (build_chd (chOfE x)) ?_
        refine Ow.go rfl ?_
        simp (disch := (first | assumption | omega | (simp only [lenS, lenT, UInt64.reduceToNat]; try omega))) only [↓S0, S1, Try.fx, uPJ_1, Nat.reduceAdd, Nat.reducePow, Int.reducePow, Nat.reduceBEq, ↓reduceIte, UInt8.reduceToNat, UInt16.reduceToNat, UInt32.reduceToNat, UInt64.reduceToNat, Int.reduceToNat]
        refine Ow.buildSlice (e := 61) (chdC (chOfE x)).toArray rfl rfl (slice_one Try.underlying58 aggChd zrChd (by decide) (chdC_len _)) fun b13 hb13 hw13 => ?_
        refine Ow.permL (M := D2 ++ ((b7, Obj.cells (entC x).toArray 45 (0, 0)) :: (b13, Obj.cells (chdC (chOfE x)).toArray 61 (0, 0)) :: (b1, Obj.cells #[vi k, vs t] 31 (0, 0)) :: D)) (by classical exact List.perm_iff_count.2 fun a => by simp only [List.count_append, List.count_cons, List.count_nil] <;> omega) ?_
        refine Ow.go rfl ?_
        simp (disch := (first | assumption | omega | (simp only [lenS, lenT, UInt64.reduceToNat]; try omega))) only [↓S0, S1, Try.fx, uPJ_1, Nat.reduceAdd, Nat.reducePow, Int.reducePow, Nat.reduceBEq, ↓reduceIte, UInt8.reduceToNat, UInt16.reduceToNat, UInt32.reduceToNat, UInt64.reduceToNat, Int.reduceToNat]
        refine Ow.appendX (e := 61) (k := 1) (new := chdC (chOfE x)) (X := D2) v rfl rfl rfl rfl Try.underlying58 aggChd (by kernel_rfl) zrChd (by rw [cells_chd, List.size_toArray, chdC_len]) Try.underlying58 (by intro k h; cases h) hG (fun w' hw' => AppX.one1 (hw'.has b13 (.cells (chdC (chOfE x)).toArray 61 (0, 0)) (by simp)) (chdC_len _) (chdC_one _)) (by omega) (by rw [hmll]; omega) (fun B2 v4 D4 hA4 hB4 hbuf hk1 hk2 hlk4 => ?_)
        have hN4 : New w.heap.size D4 := New.of_le fun q hq => by
          rcases hk2 q hq with h | h
          · exact hN2.le q h
          · omega
        have hSp4 : SepK b1 D (D4 ++ [(b7, Obj.cells (entC x).toArray 45 (0, 0)), (b13, Obj.cells (chdC (chOfE x)).toArray 61 (0, 0))]) := by
          refine (hSp.grow hk2 (above_to hA4 (by simp [keys_app, keys])) fun d hd => above_to hA4 (by simp only [keys, List.map_cons, List.map_nil, List.map_append, List.mem_cons, List.mem_append] at hd ⊢; simp [hd])).app ?_
          exact (SepK.nil.cons (above_to hb13 (by simp [keys])) fun d hd => above_to hb13 (by simp only [keys, List.map_cons, List.map_nil, List.map_append, List.mem_cons, List.mem_append] at hd ⊢; simp [hd])).cons h17 fun d hd => above_to hb7 (by simp only [keys, List.map_cons, List.map_nil, List.map_append, List.mem_cons, List.mem_append] at hd ⊢; simp [hd])
        refine Ow.permL (M := (b1, Obj.cells #[vi k, vs t] 31 (0, 0)) :: (D ++ (D4 ++ [(b7, Obj.cells (entC x).toArray 45 (0, 0)), (b13, Obj.cells (chdC (chOfE x)).toArray 61 (0, 0))]))) (by classical exact List.perm_iff_count.2 fun a => by simp only [List.count_append, List.count_cons, List.count_nil] <;> omega) ?_
        refine Ow.go rfl ?_
        simp (disch := (first | assumption | omega | (simp only [lenS, lenT, UInt64.reduceToNat]; try omega))) only [↓S0, S1, Try.fx, uPJ_1, Nat.reduceAdd, Nat.reducePow, Int.reducePow, Nat.reduceBEq, ↓reduceIte, UInt8.reduceToNat, UInt16.reduceToNat, UInt32.reduceToNat, UInt64.reduceToNat, Int.reduceToNat]
        ((try with_reducible refine Cw.go [] ?_); (try simp (disch := (first | assumption | omega | (simp only [lenS, lenT, UInt64.reduceToNat]; try omega))) only [↓S0, S1, Try.fx, uPJ_1, Nat.reduceAdd, Nat.reducePow, Int.reducePow, Nat.reduceBEq, ↓reduceIte, UInt8.reduceToNat, UInt16.reduceToNat, UInt32.reduceToNat, UInt64.reduceToNat, Int.reduceToNat]))
        refine Again.mk (ChG.mk (g + 1) v4 (D4 ++ [(b7, Obj.cells (entC x).toArray 45 (0, 0)), (b13, Obj.cells (chdC (chOfE x)).toArray 61 (0, 0))])) (by show l.length - (g + 1) < l.length - g; omega) ⟨by show g + 1 ≤ l.length; omega, hN4.app ⟨hw7, hw13, trivial⟩, hSp4, ?_⟩ rfl rfl
        show Gr _ _ _ _ ((l.take (g + 1)).map chOfE).length (((l.take (g + 1)).map chOfE).map chdC).flatten
        rw [hml]
        exact Gr.app (Gr.snoc rfl hbuf)
      · obtain rfl : g = l.length := by omega
        rw [List.take_length] at hG
        by_cases h3 : k = 3
        · obtain rfl : l = [] := hln (by omega)
          subst h3
          obtain ⟨rfl, rfl, hgp⟩ := hg3 rfl
          have d3 : ((3 : Int) == 3) = true := rfl
          have hpl := comE_par t
          have lnp := hgp.len
          have hcl : childL 3 t = ⟨(comE t).1.tree, 2⟩ :: (comE t).1.par.map chOfP := by
            unfold childL
            rw [hr, if_pos rfl, if_neg (by decide), if_pos rfl]
          have rdo2 := rdo D2
          generalize (comE t).1.par = pl at *
          generalize (comE t).1.tree = T at *
          ((try with_reducible refine Cw.go [] ?_); (try simp (disch := (first | assumption | omega | (simp only [lenS, lenT, UInt64.reduceToNat]; try omega))) only [↓S0, S1, Try.fx, uPJ_1, Nat.reduceAdd, Nat.reducePow, Int.reducePow, Nat.reduceBEq, ↓reduceIte, UInt8.reduceToNat, UInt16.reduceToNat, UInt32.reduceToNat, UInt64.reduceToNat, Int.reduceToNat, d3, rdo2]))
          have bT := build_chd ⟨T, 2⟩
          refine Ow.build (.agg (chdC ⟨T, 2⟩).toArray) rfl bT ?_
          refine Ow.go rfl ?_
          simp (disch := (first | assumption | omega | (simp only [lenS, lenT, UInt64.reduceToNat]; try omega))) only [↓S0, S1, Try.fx, uPJ_1, Nat.reduceAdd, Nat.reducePow, Int.reducePow, Nat.reduceBEq, ↓reduceIte, UInt8.reduceToNat, UInt16.reduceToNat, UInt32.reduceToNat, UInt64.reduceToNat, Int.reduceToNat]
          refine Ow.buildSlice (e := 61) (chdC ⟨T, 2⟩).toArray rfl rfl (slice_one Try.underlying58 aggChd zrChd (by decide) (chdC_len _)) fun b13 hb13 hw13 => ?_
          refine Ow.permL (M := D2 ++ ((b13, Obj.cells (chdC ⟨T, 2⟩).toArray 61 (0, 0)) :: (b1, Obj.cells #[vi 3, vs t] 31 (0, 0)) :: D)) (by classical exact List.perm_iff_count.2 fun a => by simp only [List.count_append, List.count_cons, List.count_nil] <;> omega) ?_
          refine Ow.go rfl ?_
          simp (disch := (first | assumption | omega | (simp only [lenS, lenT, UInt64.reduceToNat]; try omega))) only [↓S0, S1, Try.fx, uPJ_1, Nat.reduceAdd, Nat.reducePow, Int.reducePow, Nat.reduceBEq, ↓reduceIte, UInt8.reduceToNat, UInt16.reduceToNat, UInt32.reduceToNat, UInt64.reduceToNat, Int.reduceToNat]
          refine Ow.appendX (e := 61) (k := 1) (new := chdC ⟨T, 2⟩) (X := D2) v rfl rfl rfl rfl Try.underlying58 aggChd (by kernel_rfl) zrChd (by rw [cells_chd, List.size_toArray, chdC_len]) Try.underlying58 (by intro k h; cases h) hG (fun w' hw' => AppX.one1 (hw'.has b13 (.cells (chdC ⟨T, 2⟩).toArray 61 (0, 0)) (by simp)) (chdC_len _) (chdC_one _)) (by omega) (by simp) (fun B2 v4 D4 hA4 hB4 hbuf hk1 hk2 hlk4 => ?_)
          have hN4 : New w.heap.size D4 := New.of_le fun q hq => by
            rcases hk2 q hq with h | h
            · exact hN2.le q h
            · omega
          have hSp4 : SepK b1 D (D4 ++ [(b13, Obj.cells (chdC ⟨T, 2⟩).toArray 61 (0, 0))]) := by
            refine (hSp.grow hk2 (above_to hA4 (by simp [keys_app, keys])) fun d hd => above_to hA4 (by simp only [keys, List.map_cons, List.map_nil, List.map_append, List.mem_cons, List.mem_append] at hd ⊢; simp [hd])).app ?_
            exact SepK.nil.cons (above_to hb13 (by simp [keys])) fun d hd => above_to hb13 (by simp only [keys, List.map_cons, List.map_nil, List.map_append, List.mem_cons, List.mem_append] at hd ⊢; simp [hd])
          refine Ow.permL (M := (b1, Obj.cells #[vi 3, vs t] 31 (0, 0)) :: (D ++ (D4 ++ [(b13, Obj.cells (chdC ⟨T, 2⟩).toArray 61 (0, 0))]))) (by classical exact List.perm_iff_count.2 fun a => by simp only [List.count_append, List.count_cons, List.count_nil] <;> omega) ?_
          have hG4 : Gr (D4 ++ [(b13, Obj.cells (chdC ⟨T, 2⟩).toArray 61 (0, 0))]) 61 33 v4 (⟨T, 2⟩ :: (pl.take 0).map chOfP : List ChildL).length ((⟨T, 2⟩ :: (pl.take 0).map chOfP : List ChildL).map chdC).flatten := by
            have := Gr.snoc (l := ([] : List ChildL)) (x := ⟨T, 2⟩) rfl (by simpa using hbuf)
            exact this.app
          have hN5 := hN4.app (show New w.heap.size [(b13, Obj.cells (chdC ⟨T, 2⟩).toArray 61 (0, 0))] from ⟨hw13, trivial⟩)
          generalize D4 ++ [(b13, Obj.cells (chdC ⟨T, 2⟩).toArray 61 (0, 0))] = D5 at hSp4 hG4 hN5 ⊢
          have rdo5 := rdo D5
          refine Ow.go rfl ?_
          simp (disch := (first | assumption | omega | (simp only [lenS, lenT, UInt64.reduceToNat]; try omega))) only [↓S0, S1, Try.fx, uPJ_1, Nat.reduceAdd, Nat.reducePow, Int.reducePow, Nat.reduceBEq, ↓reduceIte, UInt8.reduceToNat, UInt16.reduceToNat, UInt32.reduceToNat, UInt64.reduceToNat, Int.reduceToNat]
          ((try with_reducible refine Cw.go [] ?_); (try simp (disch := (first | assumption | omega | (simp only [lenS, lenT, UInt64.reduceToNat]; try omega))) only [↓S0, S1, Try.fx, uPJ_1, Nat.reduceAdd, Nat.reducePow, Int.reducePow, Nat.reduceBEq, ↓reduceIte, UInt8.reduceToNat, UInt16.reduceToNat, UInt32.reduceToNat, UInt64.reduceToNat, Int.reduceToNat, rdo5, lnp]))
          refine Cw.loopG (G := ChG) [54, 55, 56, 9, 57, 58, 59, 60, 61, 5, 62, 53] (fun q => [(5, q.v), (53, vi q.g)]) (fun q => (b1, Obj.cells #[vi 3, vs t] 31 (0, 0)) :: (D ++ q.D)) (fun q => q.g ≤ pl.length ∧ New w.heap.size q.D ∧ SepK b1 D q.D ∧ Gr q.D 61 33 q.v (⟨T, 2⟩ :: (pl.take q.g).map chOfP : List ChildL).length ((⟨T, 2⟩ :: (pl.take q.g).map chOfP : List ChildL).map chdC).flatten) (fun q => pl.length - q.g) ⟨0, v4, D5⟩ rfl rfl ?_ ?_
          · exact ⟨Nat.zero_le _, hN5, hSp4, hG4⟩
          · intro q jq hq
            simp only [overFrom, pin, setF_0, setF_s, List.contains_cons, List.contains_nil, Nat.reduceBEq, Bool.or_false, Bool.false_or, Bool.or_true, Bool.true_or, Nat.reduceAdd, ↓reduceIte, Bool.false_eq_true]
            obtain ⟨g, v, D2⟩ := q
            simp only at hq ⊢
            obtain ⟨hgl, hN2, hSp, hG⟩ := hq
            by_cases hlt : g < pl.length
            · obtain ⟨c, cc, rest, rfl, hlc⟩ := Gr.rows hgp (by omega)
              have hcb := hN.le c (key_of_look hlc)
              have hc1 : b1 ≠ c := by omega
              have rdc : ∀ M, readB w (D ++ M) c = some (idRO rest pl) := fun M => read_look (look_app hlc)
              have ldc := load_idRO (rest := rest) g hlt
              have hml := map_take_succ chOfP id0 hlt
              have hmll : ((pl.take g).map chOfP).length = g := by rw [List.length_map, List.length_take]; omega
              generalize hx : pl.getD g id0 = x at ldc hml
              have hxl := x.h
              ((try with_reducible refine Cw.go [] ?_); (try simp (disch := (first | assumption | omega | (simp only [lenS, lenT, UInt64.reduceToNat]; try omega))) only [↓S0, S1, Try.fx, uPJ_1, Nat.reduceAdd, Nat.reducePow, Int.reducePow, Nat.reduceBEq, ↓reduceIte, UInt8.reduceToNat, UInt16.reduceToNat, UInt32.reduceToNat, UInt64.reduceToNat, Int.reduceToNat, rdc, ldc]))
              refine Ow.alloc rfl rfl zrIdE fun b7 hb7 hw7 => ?_
              simp only [cells_agg, List.nil_append, List.cons_append]
              have h17 : b1 < b7 := above_to hb7 (by simp [keys])
              refine Ow.permL (M := (b7, Obj.cells (a8 id0.l) 24 (0, 0)) :: (b1, Obj.cells #[vi 3, vs t] 31 (0, 0)) :: (D ++ D2)) (by classical exact List.perm_iff_count.2 fun a => by simp only [List.count_append, List.count_cons, List.count_nil] <;> omega) ?_
              have hz0 := id0.h
              refine Ow.go rfl ?_
              simp (disch := (first | assumption | omega | (simp only [lenS, lenT, UInt64.reduceToNat]; try omega))) only [↓S0, S1, Try.fx, uPJ_1, Nat.reduceAdd, Nat.reducePow, Int.reducePow, Nat.reduceBEq, ↓reduceIte, UInt8.reduceToNat, UInt16.reduceToNat, UInt32.reduceToNat, UInt64.reduceToNat, Int.reduceToNat]
              ((try with_reducible refine Cw.go [] ?_); (try simp (disch := (first | assumption | omega | (simp only [lenS, lenT, UInt64.reduceToNat]; try omega))) only [↓S0, S1, Try.fx, uPJ_1, Nat.reduceAdd, Nat.reducePow, Int.reducePow, Nat.reduceBEq, ↓reduceIte, UInt8.reduceToNat, UInt16.reduceToNat, UInt32.reduceToNat, UInt64.reduceToNat, Int.reduceToNat]))
              have bX := build_chd (chOfP x)
              refine Ow.build (.agg (chdC (chOfP x)).toArray) rfl bX ?_
              refine Ow.go rfl ?_
              simp (disch := (first | assumption | omega | (simp only [lenS, lenT, UInt64.reduceToNat]; try omega))) only [↓S0, S1, Try.fx, uPJ_1, Nat.reduceAdd, Nat.reducePow, Int.reducePow, Nat.reduceBEq, ↓reduceIte, UInt8.reduceToNat, UInt16.reduceToNat, UInt32.reduceToNat, UInt64.reduceToNat, Int.reduceToNat]
              refine Ow.buildSlice (e := 61) (chdC (chOfP x)).toArray rfl rfl (slice_one Try.underlying58 aggChd zrChd (by decide) (chdC_len _)) fun b13 hb13 hw13 => ?_
              refine Ow.permL (M := D2 ++ ((b7, Obj.cells (a8 x.l) 24 (0, 0)) :: (b13, Obj.cells (chdC (chOfP x)).toArray 61 (0, 0)) :: (b1, Obj.cells #[vi 3, vs t] 31 (0, 0)) :: D)) (by classical exact List.perm_iff_count.2 fun a => by simp only [List.count_append, List.count_cons, List.count_nil] <;> omega) ?_
              refine Ow.go rfl ?_
              simp (disch := (first | assumption | omega | (simp only [lenS, lenT, UInt64.reduceToNat]; try omega))) only [↓S0, S1, Try.fx, uPJ_1, Nat.reduceAdd, Nat.reducePow, Int.reducePow, Nat.reduceBEq, ↓reduceIte, UInt8.reduceToNat, UInt16.reduceToNat, UInt32.reduceToNat, UInt64.reduceToNat, Int.reduceToNat]
              refine Ow.appendX (e := 61) (k := 1) (new := chdC (chOfP x)) (X := D2) v rfl rfl rfl rfl Try.underlying58 aggChd (by kernel_rfl) zrChd (by rw [cells_chd, List.size_toArray, chdC_len]) Try.underlying58 (by intro k h; cases h) hG (fun w' hw' => AppX.one1 (hw'.has b13 (.cells (chdC (chOfP x)).toArray 61 (0, 0)) (by simp)) (chdC_len _) (chdC_one _)) (by omega) (by rw [List.length_cons, hmll]; omega) (fun B2 v4 D4 hA4 hB4 hbuf hk1 hk2 hlk4 => ?_)
              have hN4 : New w.heap.size D4 := New.of_le fun q hq => by
                rcases hk2 q hq with h | h
                · exact hN2.le q h
                · omega
              have hSp4 : SepK b1 D (D4 ++ [(b7, Obj.cells (a8 x.l) 24 (0, 0)), (b13, Obj.cells (chdC (chOfP x)).toArray 61 (0, 0))]) := by
                refine (hSp.grow hk2 (above_to hA4 (by simp [keys_app, keys])) fun d hd => above_to hA4 (by simp only [keys, List.map_cons, List.map_nil, List.map_append, List.mem_cons, List.mem_append] at hd ⊢; simp [hd])).app ?_
                exact (SepK.nil.cons (above_to hb13 (by simp [keys])) fun d hd => above_to hb13 (by simp only [keys, List.map_cons, List.map_nil, List.map_append, List.mem_cons, List.mem_append] at hd ⊢; simp [hd])).cons h17 fun d hd => above_to hb7 (by simp only [keys, List.map_cons, List.map_nil, List.map_append, List.mem_cons, List.mem_append] at hd ⊢; simp [hd])
              refine Ow.permL (M := (b1, Obj.cells #[vi 3, vs t] 31 (0, 0)) :: (D ++ (D4 ++ [(b7, Obj.cells (a8 x.l) 24 (0, 0)), (b13, Obj.cells (chdC (chOfP x)).toArray 61 (0, 0))]))) (by classical exact List.perm_iff_count.2 fun a => by simp only [List.count_append, List.count_cons, List.count_nil] <;> omega) ?_
              refine Ow.go rfl ?_
              simp (disch := (first | assumption | omega | (simp only [lenS, lenT, UInt64.reduceToNat]; try omega))) only [↓S0, S1, Try.fx, uPJ_1, Nat.reduceAdd, Nat.reducePow, Int.reducePow, Nat.reduceBEq, ↓reduceIte, UInt8.reduceToNat, UInt16.reduceToNat, UInt32.reduceToNat, UInt64.reduceToNat, Int.reduceToNat]
              ((try with_reducible refine Cw.go [] ?_); (try simp (disch := (first | assumption | omega | (simp only [lenS, lenT, UInt64.reduceToNat]; try omega))) only [↓S0, S1, Try.fx, uPJ_1, Nat.reduceAdd, Nat.reducePow, Int.reducePow, Nat.reduceBEq, ↓reduceIte, UInt8.reduceToNat, UInt16.reduceToNat, UInt32.reduceToNat, UInt64.reduceToNat, Int.reduceToNat]))
              refine Again.mk (ChG.mk (g + 1) v4 (D4 ++ [(b7, Obj.cells (a8 x.l) 24 (0, 0)), (b13, Obj.cells (chdC (chOfP x)).toArray 61 (0, 0))])) (by show pl.length - (g + 1) < pl.length - g; omega) ⟨by show g + 1 ≤ pl.length; omega, hN4.app ⟨hw7, hw13, trivial⟩, hSp4, ?_⟩ rfl rfl
              show Gr _ _ _ _ (⟨T, 2⟩ :: (pl.take (g + 1)).map chOfP : List ChildL).length ((⟨T, 2⟩ :: (pl.take (g + 1)).map chOfP : List ChildL).map chdC).flatten
              rw [hml]
              exact Gr.app (Gr.snoc (l := (⟨T, 2⟩ :: (pl.take g).map chOfP : List ChildL)) rfl hbuf)
            · obtain rfl : g = pl.length := by omega
              rw [List.take_length] at hG
              ((try with_reducible refine Cw.go [] ?_); (try simp (disch := (first | assumption | omega | (simp only [lenS, lenT, UInt64.reduceToNat]; try omega))) only [↓S0, S1, Try.fx, uPJ_1, Nat.reduceAdd, Nat.reducePow, Int.reducePow, Nat.reduceBEq, ↓reduceIte, UInt8.reduceToNat, UInt16.reduceToNat, UInt32.reduceToNat, UInt64.reduceToNat, Int.reduceToNat]))
              refine ⟨_, (by simp (disch := (first | assumption | omega | (simp only [lenS, lenT, UInt64.reduceToNat]; try omega))) only [↓S0, S1, Try.fx, uPJ_1, Nat.reduceAdd, Nat.reducePow, Int.reducePow, Nat.reduceBEq, ↓reduceIte, UInt8.reduceToNat, UInt16.reduceToNat, UInt32.reduceToNat, UInt64.reduceToNat, Int.reduceToNat]; rfl), ?_⟩
              refine ⟨Ext.of_new ⟨hw1, (New.mono hB hN).app hN2⟩, ?_⟩
              rw [hcl]
              exact hG.keep fun b o hb ho => hSp.look ho
        · have d3 : (k == 3) = false := by simpa using h3
          ((try with_reducible refine Cw.go [] ?_); (try simp (disch := (first | assumption | omega | (simp only [lenS, lenT, UInt64.reduceToNat]; try omega))) only [↓S0, S1, Try.fx, uPJ_1, Nat.reduceAdd, Nat.reducePow, Int.reducePow, Nat.reduceBEq, ↓reduceIte, UInt8.reduceToNat, UInt16.reduceToNat, UInt32.reduceToNat, UInt64.reduceToNat, Int.reduceToNat, d3]))
          refine ⟨_, (by simp (disch := (first | assumption | omega | (simp only [lenS, lenT, UInt64.reduceToNat]; try omega))) only [↓S0, S1, Try.fx, uPJ_1, Nat.reduceAdd, Nat.reducePow, Int.reducePow, Nat.reduceBEq, ↓reduceIte, UInt8.reduceToNat, UInt16.reduceToNat, UInt32.reduceToNat, UInt64.reduceToNat, Int.reduceToNat]; rfl), ?_⟩
          refine ⟨Ext.of_new ⟨hw1, (New.mono hB hN).app hN2⟩, ?_⟩
          have e : childL k t = l.map chOfE := by
            unfold childL
            rw [hr, if_pos rfl, if_neg h3]
            by_cases h2 : k = 2
            · rw [if_pos h2, ← hl2 h2]
            · rw [if_neg h2, hln h2]; rfl
          rw [e]
          exact hG.keep fun b o hb ho => hSp.look ho
end Go.Proofs
end
section
open Go Go.Proofs Go.Sx Go.StP
namespace Go.Proofs
set_option maxRecDepth 10000
set_option maxHeartbeats 400000
set_option linter.unusedSimpArgs false
/-! ### What every right program answers -/
def id3 : IdL := ⟨3 :: List.replicate 31 0, by simp⟩
def enX : EntL := ⟨[120], 2, id3⟩
def enY : EntL := ⟨[121], 1, id0⟩
theorem alive_sort {Z : List EntL} (h : SortOf [enY, enX] Z) : Z = [enX, enY] := by
  refine h.eq ⟨rfl, ?_, ?_⟩
  · show StP.Sorted EntL.name [enX, enY]
    unfold StP.Sorted
    refine List.pairwise_cons.2 ⟨fun b hb => ?_, List.pairwise_singleton _ _⟩
    rw [List.mem_singleton.1 hb]; decide
  · exact StP.St.swap (a := [enY]) (b := [enX]) fun x hx y hy => by
      rw [List.mem_singleton.1 hx, List.mem_singleton.1 hy]; decide
theorem alive_ok : entsOk [enX, enY] = true := by decide
theorem alive_child : childL 2 (treeB [enX, enY]) = [⟨id3, 2⟩, ⟨id0, 1⟩] := by
  unfold childL
  rw [RdOk_tree alive_ok, if_pos rfl, if_pos rfl, entsE_treeB fun x hx => by
    rcases List.mem_cons.1 hx with rfl | hx
    · decide
    · rw [List.mem_singleton.1 hx]; decide]
  rfl
theorem alive_frame : frameB 1 [97, 98] = [98, 2, 97, 98] := by
  unfold frameB textL
  rw [show clampN (([97, 98] : List UInt8).length : Int) = 2 from rfl, numL_small (by decide)]; rfl
theorem build_id3 : buildV (plcT Try.prog 24) (zeroV Try.prog 24) [(0, v8 3)] = some (.agg (a8 id3.l)) := id (by kernel_rfl)
theorem build_enY : buildV (plcT Try.prog 45) (zeroV Try.prog 45) [(0, vs [121]), (1, vi 1)] = some (.agg (entC enY).toArray) := id (by kernel_rfl)
theorem slice_yx : sliceB Try.prog 22 2 [(0, .agg (entC enY).toArray), (1, .agg (entC enX).toArray)] = some (45, (entC enY ++ entC enX).toArray) := id (by kernel_rfl)
theorem Gr.row0 {D : Heap} {v : Value} {l : List ChildL} (h : Gr D 61 33 v l.length (l.map chdC).flatten) (h0 : 0 < l.length) : ∃ b c rest, v = vsl b 0 l.length c ∧ Sx.look D b = some (rowO chdC 61 rest l) ∧ loadV (some (true, 33)) (some (rowO chdC 61 rest l)) (0 * 33) = some (.agg (chdC (l.getD 0 chd0)).toArray) := by
  obtain ⟨b, c, rest, hv, hl⟩ := Gr.rows h h0
  refine ⟨b, c, rest, hv, hl, ?_⟩
  have := load_row (z := chd0) (E := 61) (rest := rest) chdC_len 0 h0
  exact this
set_option linter.defProp false
def uPK_1 := And.intro (And.intro (And.intro (@load_ob) (@load_ob0)) (And.intro (@load_ob1) (@store_ob))) (And.intro (And.intro (@Sx.tup2_0) (@Sx.tup2_1)) (And.intro (@eqChd) (And.intro (@rdIn_v8) (@rdIn_vi))))
theorem alive_spec (w : World) : Rets Try.prog 8 #[] w (fun v D => v = .bool true ∧ D = []) := by
  refine Rets.enterV Try.func8 rfl (rs := [.tmp 0]) Try.results8 Try.ntmps8 ?_
  simp only [List.size_toArray, List.length_cons, List.length_nil, Nat.reduceAdd, Nat.reduceSub, List.replicate_succ, List.replicate_zero, List.cons_append, List.nil_append]
  ((try with_reducible refine Cw.go [] ?_); (try simp (disch := (first | assumption | omega | (simp only [lenS, lenT, UInt64.reduceToNat]; try omega))) only [↓S0, S1, Try.fx, uPK_1, Nat.reduceAdd, Nat.reducePow, Int.reducePow, Nat.reduceBEq, ↓reduceIte, UInt8.reduceToNat, UInt16.reduceToNat, UInt32.reduceToNat, UInt64.reduceToNat, Int.reduceToNat]))
  refine Ow.callFV rfl Try.call10 (fun w' hw' => Blob_spec [97, 98] w') ?_
  rw [show madeK 1 [97, 98] true = 1 from rfl, show madeT 1 [97, 98] true = [97, 98] from rfl, show madeE 1 [97, 98] true = 0 from rfl]
  refine Ow.go rfl ?_
  simp (disch := (first | assumption | omega | (simp only [lenS, lenT, UInt64.reduceToNat]; try omega))) only [↓S0, S1, Try.fx, uPK_1, Nat.reduceAdd, Nat.reducePow, Int.reducePow, Nat.reduceBEq, ↓reduceIte, UInt8.reduceToNat, UInt16.reduceToNat, UInt32.reduceToNat, UInt64.reduceToNat, Int.reduceToNat]
  refine Ow.alloc rfl rfl zrOb fun b1 hb1 hw1 => ?_
  simp only [cells_agg, List.nil_append, List.cons_append]
  refine Ow.go rfl ?_
  simp (disch := (first | assumption | omega | (simp only [lenS, lenT, UInt64.reduceToNat]; try omega))) only [↓S0, S1, Try.fx, uPK_1, Nat.reduceAdd, Nat.reducePow, Int.reducePow, Nat.reduceBEq, ↓reduceIte, UInt8.reduceToNat, UInt16.reduceToNat, UInt32.reduceToNat, UInt64.reduceToNat, Int.reduceToNat]
  ((try with_reducible refine Cw.go [] ?_); (try simp (disch := (first | assumption | omega | (simp only [lenS, lenT, UInt64.reduceToNat]; try omega))) only [↓S0, S1, Try.fx, uPK_1, Nat.reduceAdd, Nat.reducePow, Int.reducePow, Nat.reduceBEq, ↓reduceIte, UInt8.reduceToNat, UInt16.reduceToNat, UInt32.reduceToNat, UInt64.reduceToNat, Int.reduceToNat]))
  refine Ow.callC rfl rfl Try.call25 (fun w' hw' => FrameO_spec 1 [97, 98] w') (fun B v D hA hB hN hS => ?_)
  rw [show RdOk 1 [97, 98] = true from rfl, if_pos rfl, alive_frame] at hS
  subst hS
  obtain ⟨h1B, -⟩ := hA
  refine Ow.go rfl ?_
  simp (disch := (first | assumption | omega | (simp only [lenS, lenT, UInt64.reduceToNat]; try omega))) only [↓S0, S1, Try.fx, uPK_1, Nat.reduceAdd, Nat.reducePow, Int.reducePow, Nat.reduceBEq, ↓reduceIte, UInt8.reduceToNat, UInt16.reduceToNat, UInt32.reduceToNat, UInt64.reduceToNat, Int.reduceToNat]
  refine Ow.build (.agg (entC enY).toArray) rfl build_enY ?_
  refine Ow.build (.agg (a8 id3.l)) rfl build_id3 ?_
  refine Ow.build (.agg (entC enX).toArray) rfl (build_ent enX) ?_
  refine Ow.go rfl ?_
  simp (disch := (first | assumption | omega | (simp only [lenS, lenT, UInt64.reduceToNat]; try omega))) only [↓S0, S1, Try.fx, uPK_1, Nat.reduceAdd, Nat.reducePow, Int.reducePow, Nat.reduceBEq, ↓reduceIte, UInt8.reduceToNat, UInt16.reduceToNat, UInt32.reduceToNat, UInt64.reduceToNat, Int.reduceToNat]
  refine Ow.buildSlice (e := 45) (entC enY ++ entC enX).toArray rfl rfl slice_yx fun b13 hb13 hw13 => ?_
  refine Ow.go rfl ?_
  simp (disch := (first | assumption | omega | (simp only [lenS, lenT, UInt64.reduceToNat]; try omega))) only [↓S0, S1, Try.fx, uPK_1, Nat.reduceAdd, Nat.reducePow, Int.reducePow, Nat.reduceBEq, ↓reduceIte, UInt8.reduceToNat, UInt16.reduceToNat, UInt32.reduceToNat, UInt64.reduceToNat, Int.reduceToNat]
  have hr13 : ∀ w', w'.heap[b13]? = some (.cells (entC enY ++ entC enX).toArray 45 (0, 0)) → EntS w' (vsl b13 0 2 2) [enY, enX] := fun w' h => SlV.sl (l := [enY, enX]) h (fun k hk j hj => by
    simp only [Nat.zero_add, List.getElem?_toArray]
    have h2 : k = 0 ∨ k = 1 := by simp at hk; omega
    rcases h2 with rfl | rfl
    · rw [Nat.zero_mul, Nat.zero_add, List.getElem?_append_left (by rw [entC_len]; exact hj)]; rfl
    · rw [Nat.one_mul, List.getElem?_append_right (by rw [entC_len]; omega), entC_len, Nat.add_sub_cancel_left]; rfl) (by decide) (by simp [entC_len])
  refine Ow.callC rfl rfl Try.call11 (fun w' hw' => TreeO_spec _ [enY, enX] w' (hr13 w' (hw'.has _ _ (by simp))) (by decide) (by decide)) (fun B2 v2 D2 hA2 hB2 hN2 hS2 => ?_)
  obtain ⟨Z, hZ, rfl⟩ := hS2
  rw [alive_sort hZ]
  rw [show madeK 2 (treeB [enX, enY]) (entsOk [enX, enY]) = 2 by unfold madeK; rw [alive_ok, RdOk_tree alive_ok]; rfl,
    show madeT 2 (treeB [enX, enY]) (entsOk [enX, enY]) = treeB [enX, enY] by unfold madeT; rw [alive_ok, RdOk_tree alive_ok]; rfl,
    show madeE 2 (treeB [enX, enY]) (entsOk [enX, enY]) = 0 by unfold madeE; rw [alive_ok, RdOk_tree alive_ok]; rfl]
  have hN3 : New w.heap.size ((b1, Obj.cells #[vi 1, vs [97, 98]] 31 (0, 0)) :: D ++ [(b13, Obj.cells (entC enY ++ entC enX).toArray 45 (0, 0))] ++ D2) :=
    (New.app (show New w.heap.size ((b1, Obj.cells #[vi 1, vs [97, 98]] 31 (0, 0)) :: D) from ⟨hw1, New.mono hB hN⟩) (show New w.heap.size [(b13, Obj.cells (entC enY ++ entC enX).toArray 45 (0, 0))] from ⟨hw13, trivial⟩)).app (New.mono hB2 hN2)
  refine Ow.go rfl ?_
  simp (disch := (first | assumption | omega | (simp only [lenS, lenT, UInt64.reduceToNat]; try omega))) only [↓S0, S1, Try.fx, uPK_1, Nat.reduceAdd, Nat.reducePow, Int.reducePow, Nat.reduceBEq, ↓reduceIte, UInt8.reduceToNat, UInt16.reduceToNat, UInt32.reduceToNat, UInt64.reduceToNat, Int.reduceToNat]
  refine Ow.alloc rfl rfl zrOb fun b5 hb5 hw5 => ?_
  simp only [cells_agg, List.nil_append, List.cons_append]
  refine Ow.permL (M := (b5, Obj.cells #[vi 0, vs []] 31 (0, 0)) :: ((b1, Obj.cells #[vi 1, vs [97, 98]] 31 (0, 0)) :: D ++ [(b13, Obj.cells (entC enY ++ entC enX).toArray 45 (0, 0))] ++ D2)) (by classical exact List.perm_iff_count.2 fun a => by simp only [List.count_append, List.count_cons, List.count_nil] <;> omega) ?_
  generalize (b1, Obj.cells #[vi 1, vs [97, 98]] 31 (0, 0)) :: D ++ [(b13, Obj.cells (entC enY ++ entC enX).toArray 45 (0, 0))] ++ D2 = E at hN3 ⊢
  refine Ow.go rfl ?_
  simp (disch := (first | assumption | omega | (simp only [lenS, lenT, UInt64.reduceToNat]; try omega))) only [↓S0, S1, Try.fx, uPK_1, Nat.reduceAdd, Nat.reducePow, Int.reducePow, Nat.reduceBEq, ↓reduceIte, UInt8.reduceToNat, UInt16.reduceToNat, UInt32.reduceToNat, UInt64.reduceToNat, Int.reduceToNat]
  ((try with_reducible refine Cw.go [] ?_); (try simp (disch := (first | assumption | omega | (simp only [lenS, lenT, UInt64.reduceToNat]; try omega))) only [↓S0, S1, Try.fx, uPK_1, Nat.reduceAdd, Nat.reducePow, Int.reducePow, Nat.reduceBEq, ↓reduceIte, UInt8.reduceToNat, UInt16.reduceToNat, UInt32.reduceToNat, UInt64.reduceToNat, Int.reduceToNat]))
  refine Ow.callC rfl rfl Try.call26 (fun w' hw' => ChildrenO_spec 2 (treeB [enX, enY]) w') (fun B4 v4 D4 hA4 hB4 hN4 hS4 => ?_)
  rw [alive_child] at hS4
  obtain ⟨CL, hCL⟩ : ∃ CL, CL = ([⟨id3, 2⟩, ⟨id0, 1⟩] : List ChildL) := ⟨_, rfl⟩
  have e2 : ((CL.length : Int) == 2) = true := by rw [hCL]; rfl
  have l2 : 0 < CL.length := by rw [hCL]; decide
  have g0 : CL.getD 0 chd0 = ⟨id3, 2⟩ := by rw [hCL]; rfl
  rw [← hCL] at hS4
  obtain ⟨c, cc, rest, rfl, hlc, hld⟩ := Gr.row0 hS4 l2
  have rdc : readB w ((b5, Obj.cells #[vi 2, vs (treeB [enX, enY])] 31 (0, 0)) :: (E ++ D4)) c = some (rowO chdC 61 rest CL) := by
    refine read_look ?_
    have hc5 := above_to hA4 (b := b5) (by simp [keys])
    have := hN4.le c (key_of_look hlc)
    rw [look_other _ _ _ _ (by omega), look_app_r (fun hm => ?_)]
    · exact hlc
    · have := above_to hA4 (b := c) (by simp only [keys, List.map_cons, List.mem_cons] at hm ⊢; exact .inr hm)
      omega
  rw [g0] at hld
  have cN : New w.heap.size ((b5, Obj.cells #[vi 2, vs (treeB [enX, enY])] 31 (0, 0)) :: (E ++ D4)) := ⟨hw5, hN3.app (New.mono hB4 hN4)⟩
  refine Ow.go rfl ?_
  simp (disch := (first | assumption | omega | (simp only [lenS, lenT, UInt64.reduceToNat]; try omega))) only [↓S0, S1, Try.fx, uPK_1, Nat.reduceAdd, Nat.reducePow, Int.reducePow, Nat.reduceBEq, ↓reduceIte, UInt8.reduceToNat, UInt16.reduceToNat, UInt32.reduceToNat, UInt64.reduceToNat, Int.reduceToNat, e2, rdc, hld]
  refine Ow.build (.agg (a8 id3.l)) rfl build_id3 ?_
  refine Ow.build (.agg (chdC ⟨id3, 2⟩).toArray) rfl (build_chd ⟨id3, 2⟩) ?_
  have e9 : ((ChildL.mk id3 2).id.l == (ChildL.mk id3 2).id.l && (ChildL.mk id3 2).kind == (ChildL.mk id3 2).kind) = true := by simp
  refine Ow.go rfl ?_
  simp (disch := (first | assumption | omega | (simp only [lenS, lenT, UInt64.reduceToNat]; try omega))) only [↓S0, S1, Try.fx, uPK_1, Nat.reduceAdd, Nat.reducePow, Int.reducePow, Nat.reduceBEq, ↓reduceIte, UInt8.reduceToNat, UInt16.reduceToNat, UInt32.reduceToNat, UInt64.reduceToNat, Int.reduceToNat, e9]
  ((try with_reducible refine Cw.go [] ?_); (try simp (disch := (first | assumption | omega | (simp only [lenS, lenT, UInt64.reduceToNat]; try omega))) only [↓S0, S1, Try.fx, uPK_1, Nat.reduceAdd, Nat.reducePow, Int.reducePow, Nat.reduceBEq, ↓reduceIte, UInt8.reduceToNat, UInt16.reduceToNat, UInt32.reduceToNat, UInt64.reduceToNat, Int.reduceToNat]))
  refine ⟨_, (by simp (disch := (first | assumption | omega | (simp only [lenS, lenT, UInt64.reduceToNat]; try omega))) only [↓S0, S1, Try.fx, uPK_1, Nat.reduceAdd, Nat.reducePow, Int.reducePow, Nat.reduceBEq, ↓reduceIte, UInt8.reduceToNat, UInt16.reduceToNat, UInt32.reduceToNat, UInt64.reduceToNat, Int.reduceToNat]; rfl), cN, ?_⟩
  rfl
/-! ### What is more than is looked at -/
def greatE (l : List EntL) : Bool := decide (60 < l.length) || l.any fun e => decide (100 < e.name.length)
set_option linter.defProp false
def uPK_2 := And.intro (And.intro (And.intro (@load_ent0) (@load_ent1)) (And.intro (@load_ent2) (@load_ent))) (And.intro (And.intro (@store_entr) (@cells_ent)) (And.intro (@rdIn_v8) (@rdIn_vi)))
theorem great_spec (v : Value) (l : List EntL) (w : World) (hv : EntS w v l) : Rets Try.prog 9 #[v] w (fun v' D => v' = .bool (greatE l) ∧ D = []) := by
  obtain ⟨b, off, arr, E, fz, hr⟩ := hv.row
  have ln := hv.len
  refine Rets.enterV Try.func9 rfl (rs := [.tmp 2]) Try.results9 Try.ntmps9 ?_
  simp only [List.size_toArray, List.length_cons, List.length_nil, Nat.reduceAdd, Nat.reduceSub, List.replicate_succ, List.replicate_zero, List.cons_append, List.nil_append]
  by_cases h60 : 60 < l.length
  · have d1 : decide ((60 : Int) < (l.length : Int)) = true := decide_eq_true (by omega)
    ((try with_reducible refine Cw.go [] ?_); (try simp (disch := (first | assumption | omega | (simp only [lenS, lenT, UInt64.reduceToNat]; try omega))) only [↓S0, S1, Try.fx, uPK_2, Nat.reduceAdd, Nat.reducePow, Int.reducePow, Nat.reduceBEq, ↓reduceIte, UInt8.reduceToNat, UInt16.reduceToNat, UInt32.reduceToNat, UInt64.reduceToNat, Int.reduceToNat, ln, d1]))
    refine ⟨_, (by simp (disch := (first | assumption | omega | (simp only [lenS, lenT, UInt64.reduceToNat]; try omega))) only [↓S0, S1, Try.fx, uPK_2, Nat.reduceAdd, Nat.reducePow, Int.reducePow, Nat.reduceBEq, ↓reduceIte, UInt8.reduceToNat, UInt16.reduceToNat, UInt32.reduceToNat, UInt64.reduceToNat, Int.reduceToNat]; rfl), trivial, ?_⟩
    unfold greatE; rw [decide_eq_true h60]; rfl
  · have d1 : decide ((60 : Int) < (l.length : Int)) = false := decide_eq_false (by omega)
    ((try with_reducible refine Cw.go [] ?_); (try simp (disch := (first | assumption | omega | (simp only [lenS, lenT, UInt64.reduceToNat]; try omega))) only [↓S0, S1, Try.fx, uPK_2, Nat.reduceAdd, Nat.reducePow, Int.reducePow, Nat.reduceBEq, ↓reduceIte, UInt8.reduceToNat, UInt16.reduceToNat, UInt32.reduceToNat, UInt64.reduceToNat, Int.reduceToNat, ln, d1]))
    refine Cw.loopG (G := Nat) [7, 8, 9, 10, 13, 14, 15, 16, 17, 18, 19, 2, 11, 12, 3] (fun g => [(3, vi g)]) (fun g => []) (fun g => g ≤ l.length ∧ ∀ i, i < g → ¬ 100 < (l.getD i ent0).name.length) (fun g => l.length - g) 0 rfl rfl ?_ ?_
    · exact ⟨Nat.zero_le _, fun i hi => absurd hi (Nat.not_lt_zero i)⟩
    · intro k jk hk
      simp only [overFrom, pin, setF_0, setF_s, List.contains_cons, List.contains_nil, Nat.reduceBEq, Bool.or_false, Bool.false_or, Bool.or_true, Bool.true_or, Nat.reduceAdd, ↓reduceIte, Bool.false_eq_true]
      obtain ⟨h1, h2⟩ := hk
      by_cases hk : k < l.length
      · have h0 : 0 < l.length := by omega
        have hbl := hr.lt h0
        have r2 := hr.has h0
        have i2 := hr.idx true k hk
        have m0 : ∀ n, loadV (some (false, n)) (some (.cells arr E fz)) (off + k * 34) = some (vs (l.getD k ent0).name) := fun n => row_ent0 hr hk n
        by_cases hn : 100 < (l.getD k ent0).name.length
        · have d2 : decide ((100 : Int) < ((l.getD k ent0).name.length : Int)) = true := decide_eq_true (by omega)
          ((try with_reducible refine Cw.go [] ?_); (try simp (disch := (first | assumption | omega | (simp only [lenS, lenT, UInt64.reduceToNat]; try omega))) only [↓S0, S1, Try.fx, uPK_2, Nat.reduceAdd, Nat.reducePow, Int.reducePow, Nat.reduceBEq, ↓reduceIte, UInt8.reduceToNat, UInt16.reduceToNat, UInt32.reduceToNat, UInt64.reduceToNat, Int.reduceToNat, ln, r2, i2, m0, d2]))
          refine ⟨_, (by simp (disch := (first | assumption | omega | (simp only [lenS, lenT, UInt64.reduceToNat]; try omega))) only [↓S0, S1, Try.fx, uPK_2, Nat.reduceAdd, Nat.reducePow, Int.reducePow, Nat.reduceBEq, ↓reduceIte, UInt8.reduceToNat, UInt16.reduceToNat, UInt32.reduceToNat, UInt64.reduceToNat, Int.reduceToNat]; rfl), trivial, ?_⟩
          unfold greatE; rw [List.any_eq_true.2 ⟨l.getD k ent0, getD_mem hk, decide_eq_true hn⟩, Bool.or_true]; rfl
        · have d2 : decide ((100 : Int) < ((l.getD k ent0).name.length : Int)) = false := decide_eq_false (by omega)
          ((try with_reducible refine Cw.go [] ?_); (try simp (disch := (first | assumption | omega | (simp only [lenS, lenT, UInt64.reduceToNat]; try omega))) only [↓S0, S1, Try.fx, uPK_2, Nat.reduceAdd, Nat.reducePow, Int.reducePow, Nat.reduceBEq, ↓reduceIte, UInt8.reduceToNat, UInt16.reduceToNat, UInt32.reduceToNat, UInt64.reduceToNat, Int.reduceToNat, ln, r2, i2, m0, d2]))
          refine Again.mk (k + 1) (by omega) ⟨by omega, fun i hi => ?_⟩ rfl rfl
          by_cases e : i = k
          · rw [e]; exact hn
          · exact h2 i (by omega)
      · obtain rfl : k = l.length := by omega
        ((try with_reducible refine Cw.go [] ?_); (try simp (disch := (first | assumption | omega | (simp only [lenS, lenT, UInt64.reduceToNat]; try omega))) only [↓S0, S1, Try.fx, uPK_2, Nat.reduceAdd, Nat.reducePow, Int.reducePow, Nat.reduceBEq, ↓reduceIte, UInt8.reduceToNat, UInt16.reduceToNat, UInt32.reduceToNat, UInt64.reduceToNat, Int.reduceToNat, ln]))
        refine ⟨_, (by simp (disch := (first | assumption | omega | (simp only [lenS, lenT, UInt64.reduceToNat]; try omega))) only [↓S0, S1, Try.fx, uPK_2, Nat.reduceAdd, Nat.reducePow, Int.reducePow, Nat.reduceBEq, ↓reduceIte, UInt8.reduceToNat, UInt16.reduceToNat, UInt32.reduceToNat, UInt64.reduceToNat, Int.reduceToNat]; rfl), trivial, ?_⟩
        unfold greatE; rw [decide_eq_false h60, Bool.false_or, List.any_eq_false.2 fun x hx => ?_]
        · rfl
        · obtain ⟨i, hi, rfl⟩ := List.getElem_of_mem hx
          have := h2 i hi
          rw [List.getD_eq_getElem?_getD, List.getElem?_eq_getElem hi] at this
          simpa using this
end Go.Proofs
end
section
open Go Go.Proofs Go.Sx Go.StP
namespace Go.Proofs
set_option maxRecDepth 10000
set_option maxHeartbeats 400000
set_option linter.unusedSimpArgs false
/-! ### Frames: the program's answer and the law's -/
/-! ### A frame is that of what it is read as, and an object is read of its frame -/
/-! ### The laws -/
structure ObjL where
  kind : Int
  body : List UInt8
def objC (r : ObjL) : List Value := [vi r.kind] ++ ([vs r.body])
def obj0 : ObjL := ⟨0, []⟩
theorem obj_at0 (r : ObjL) : objC r = ([] : List Value) ++ (([vi r.kind]) ++ ([vs r.body])) := by
  unfold objC; simp only [List.append_assoc, List.nil_append, List.append_nil]
theorem obj_p0 (r : ObjL) : partV (false, 1) (objC r).toArray 0 = some (vi r.kind) := by
  rw [obj_at0]; exact part_one _ _ _ (by simp)
theorem obj_at1 (r : ObjL) : objC r = (([vi r.kind])) ++ (([vs r.body]) ++ (([] : List Value))) := by
  unfold objC; simp only [List.append_assoc, List.nil_append, List.append_nil]
theorem obj_p1 (r : ObjL) : partV (false, 1) (objC r).toArray 1 = some (vs r.body) := by
  rw [obj_at1]; exact part_one _ _ _ (by simp)
theorem stoodObj : Try.prog.stoodInHeld 31 = false := by kernel_rfl
theorem guardObj : Try.prog.eqGuardType Try.prog.depth 31 = false := by kernel_rfl
theorem eqDObj (r r' : ObjL) : eqD Try.prog 8 31 (.agg (objC r).toArray) (.agg (objC r').toArray) = some ((r.kind == r'.kind) && (r.body == r'.body)) := by
  have hi : ∀ (a b : Int), eqD Try.prog 7 3 (vi a) (vi b) = some (a == b) := by
    intro a b; unfold eqD; rw [Try.underlying3]; rfl
  have hs : ∀ (a b : List UInt8), eqD Try.prog 7 9 (vs a) (vs b) = some (a == b) := by
    intro a b; unfold eqD; rw [Try.underlying9]; simp only [vs, bs_beq]
  have agi : aggT Try.prog 3 = some (false, 1) := id (by kernel_rfl)
  have ags : aggT Try.prog 9 = some (false, 1) := id (by kernel_rfl)
  unfold eqD
  rw [Try.underlying31]
  simp only
  rw [stoodObj]
  simp only [Bool.false_eq_true, ↓reduceIte, eqFieldsV, eqPartV, agi, ags, obj_p0, obj_p1, hi, hs]
  cases (r.kind == r'.kind) <;> cases (r.body == r'.body) <;> simp
theorem eqObj (r r' : ObjL) : binX Try.prog .eql 31 (.agg (objC r).toArray) (.agg (objC r').toArray) = some (.bool ((r.kind == r'.kind) && (r.body == r'.body))) := by
  unfold binX eqX; rw [guardObj]; simp [plainV, eqDObj]
theorem neObj (r r' : ObjL) : binX Try.prog .neq 31 (.agg (objC r).toArray) (.agg (objC r').toArray) = some (.bool (!((r.kind == r'.kind) && (r.body == r'.body)))) := by
  unfold binX eqX; rw [guardObj]; simp [plainV, eqDObj]
theorem eqOb (k k' : Int) (t t' : List UInt8) : binX Try.prog .eql 31 (obV k t) (obV k' t') = some (.bool ((k == k') && (t == t'))) := eqObj ⟨k, t⟩ ⟨k', t'⟩
theorem neOb (k k' : Int) (t t' : List UInt8) : binX Try.prog .neq 31 (obV k t) (obV k' t') = some (.bool (!((k == k') && (t == t')))) := neObj ⟨k, t⟩ ⟨k', t'⟩
theorem eqBo (a b : Bool) : binX Try.prog .eql 4 (.bool a) (.bool b) = some (.bool (a == b)) := by
  simp [binX, eqX, plainV, eqNilV, Try.underlying4]
set_option linter.defProp false
def uPL_1 := And.intro (And.intro (And.intro (@load_ob) (And.intro (@load_ob0) (@load_ob1))) (And.intro (And.intro (@store_ob) (@Sx.tup2_0)) (And.intro (@Sx.tup2_1) (@eqOb)))) (And.intro (And.intro (And.intro (@neOb) (@eqBo)) (And.intro (@Bool.and_true) (@Bool.true_and))) (And.intro (And.intro (@Bool.and_false) (@Bool.false_and)) (And.intro (@rdIn_v8) (@rdIn_vi))))
end Go.Proofs
end
section
open Go Go.Proofs Go.Sx Go.StP
namespace Go.Proofs
set_option maxRecDepth 10000
set_option maxHeartbeats 400000
set_option linter.unusedSimpArgs false
set_option linter.defProp false
def uPM_1 := And.intro (And.intro (And.intro (@load_ob) (And.intro (@load_ob0) (@load_ob1))) (And.intro (And.intro (@store_ob) (@Sx.tup2_0)) (And.intro (@Sx.tup2_1) (@eqOb)))) (And.intro (And.intro (And.intro (@neOb) (@eqBo)) (And.intro (@Bool.and_true) (@Bool.true_and))) (And.intro (And.intro (@Bool.and_false) (@Bool.false_and)) (And.intro (@rdIn_v8) (@rdIn_vi))))
end Go.Proofs
end
namespace Go.Sx
open Go Go.ChangeShapes Go.WideShapes Go.RowKit

theorem Hp.same0 {W W' : World} (h : Hp W [] W') {b : Nat} (hb : b < W.heap.size) : W'.heap[b]? = W.heap[b]? := h.old b hb (fun hm => by cases hm)
theorem Hp.kept {W W' : World} (h : Hp W [] W') (may : MemPlace → Prop) : W.keptBut W' may := by
  refine ⟨h.os, h.output, fun i hi => ?_⟩
  rw [h.same0 hi]
  cases ho : W.heap[i]? with
  | none => rfl
  | some o =>
    cases o <;> first
      | exact ⟨rfl, rfl, rfl, fun _ _ => rfl⟩
      | exact .inr ⟨rfl, rfl⟩
      | rfl
theorem Hp.sameAt {W W' : World} (h : Hp W [] W') {p : MemPlace} (hp : p.block < W.heap.size) : W.sameAt W' p := by
  cases p with
  | cell b off =>
    have := h.same0 (b := b) hp
    simp only [World.sameAt, World.cell?, this]
  | map b => exact h.same0 hp
theorem Hp.frozen {W W' : World} (h : Hp W [] W') {a : Addr} (ha : a.block < W.heap.size) : W'.frozen? a = W.frozen? a := by
  simp only [World.frozen?, h.same0 ha]

section
variable {H : Type} {enc : TypeId × Value → H} {P : Program}
theorem trodAll_stays (hl : laidOutB P = true) {W W' : World} {sp : Nat → Bool} (hp : Hp W [] W') : ∀ {ts : List TypeId} {vs : List Value} {ds : List (DataW H)} {ps : List MemPlace},
    (∀ t ∈ ts, P.readableRec t = true ∧ t < P.types.size) → (∀ p ∈ ps, p.block < W.heap.size) → (∀ p ∈ ps, sp p.block = true) →
    DataW.TrodAll enc P W 0 (fun _ => true) true ts vs ds ps → DataW.TrodAll enc P W' 0 sp true ts vs ds ps
  | [], _, _, _, _, _, _, h => by
    obtain ⟨rfl, rfl, rfl⟩ := trodAll_nil h
    exact trodAll_mk0
  | t :: ts, _, _, _, ht, hlt, hs, h => by
    obtain ⟨v, vs, d, ds, p, q, rfl, rfl, rfl, h1, h2⟩ := trodAll_cons h
    have hlt1 : ∀ x ∈ p, x.block < W.heap.size := fun x hx => hlt x (List.mem_append_left _ hx)
    exact trodAll_cons_mk (WideElems.Trod_stays hl (ht t List.mem_cons_self).1 (ht t List.mem_cons_self).2 h1 (fun x hx => hp.sameAt (hlt1 x hx)) (fun x hx => hs x (List.mem_append_left _ hx)))
      (trodAll_stays hl hp (fun u hu => ht u (List.mem_cons_of_mem _ hu)) (fun x hx => hlt x (List.mem_append_right _ hx)) (fun x hx => hs x (List.mem_append_right _ hx)) h2)

/-- WHAT THE ROW OF A LAW ASKS, from 'it answers true and turns nothing that was there'. -/
theorem post_true {f : Func} {s : ChangeSpec} {W W' : World} {args : Array Value} {ds gs : List (DataW H)} {before : List MemPlace} {tb : TypeId} (hl : laidOutB P = true)
    (hW : DataW.Whole enc P f.params.toList s.vars false W args.toList ds gs before) (hv : s.vars = []) (hpar : ∀ t ∈ f.params.toList, P.readableRec t = true ∧ t < P.types.size)
    (hr : f.resultTypes = #[tb]) (htb : P.underlying tb = some .bool) (hfn : s.fn H ds = { results := [.lit (.bool true)], args := ds }) (hp : Hp W [] W') :
    s.post enc P f false true false false W args (.bool true) W' := by
  have hlt := hW.lt
  have hW0 := hW
  obtain ⟨p, q, hA, hV, rfl, hz, hn⟩ := hW
  rw [hv] at hV
  obtain ⟨rfl, rfl⟩ := trodVars_none hV
  rw [List.append_nil] at hW0 hlt hz
  have hargs : ∀ sp : Nat → Bool, (∀ x ∈ p, sp x.block = true) → DataW.TrodAll enc P W' 0 sp true f.params.toList args.toList (s.fn H (ds ++ [])).args p := fun sp hs => by
    rw [List.append_nil, hfn]
    exact trodAll_stays hl hp hpar hlt hs hA
  have hvars : ∀ sp : Nat → Bool, DataW.TrodVars enc P W' sp s.vars (s.fn H (ds ++ [])).vars [] := fun sp => by
    rw [List.append_nil, hfn, hv]; rfl
  have hres : ∀ (b : Nat) (sp : Nat → Bool) (hd : Bool), DataW.TrodAll enc P W' b sp hd f.resultTypes.toList ((Value.bool true).resultList f.resultTypes.size) (s.fn H (ds ++ [])).results [] := fun b sp hd => by
    rw [List.append_nil, hfn, hr]
    exact trodAll_cons_mk (shut_bool htb true) trodAll_mk0
  have hold : ∀ x ∈ p, (fun b => decide (b < W.heap.size)) x.block = true := fun x hx => by simpa using hlt x hx
  refine ⟨ds, [], p, [], p, [], hW0, hres _ _ _, hargs _ hold, hvars _, hp.kept _, fun _ => ?_⟩
  refine ⟨ok_one hr rfl (okWide_bool_mk htb true), _, _, ([] ++ p) ++ [], ⟨[] ++ p, [], trodAll_append (hargs _ (fun _ _ => rfl)) (hres _ _ _), hvars _, rfl, ?_, fun h => by cases h⟩, ?_⟩
  · intro b off hx
    have hx' : MemPlace.cell b off ∈ p := by simpa using hx
    rw [hp.frozen (hlt _ hx')]
    exact hz b off hx'
  · intro x hx _
    simpa using hx
end
section
variable {P : Program} {W : World} {name : String} {k : IntKind} {zs : List Int}
end
section
variable {H : Type} {enc : TypeId × Value → H} {P : Program}
end
end Go.Sx
namespace Go.Sx
open Go
section
variable {P : Program}
theorem rowAt_le {fits : TypeId → Bool} {d : Nat} {e : TypeId} {count off n : Nat} (h : rowAt P fits d e count off n = true) : off ≤ count * P.cellsOf e := by
  cases d with
  | zero => simp [rowAt] at h
  | succ d =>
    unfold rowAt at h
    simp only at h
    split at h
    · cases h
    · rename_i hs
      have hs' : 0 < P.cellsOf e := Nat.pos_of_ne_zero hs
      have hd := Nat.div_add_mod off (P.cellsOf e)
      have hm := Nat.mod_lt off hs'
      rw [Bool.or_eq_true] at h
      rcases h with h | h
      · simp only [Bool.and_eq_true, beq_iff_eq, decide_eq_true_eq] at h
        have : off / P.cellsOf e * P.cellsOf e ≤ count * P.cellsOf e := Nat.mul_le_mul_right _ (by omega)
        rw [Nat.mul_comm (P.cellsOf e)] at hd
        omega
      · simp only [Bool.and_eq_true, decide_eq_true_eq] at h
        have : (off / P.cellsOf e + 1) * P.cellsOf e ≤ count * P.cellsOf e := Nat.mul_le_mul_right _ (by omega)
        rw [Nat.add_mul, Nat.one_mul] at this
        rw [Nat.mul_comm (P.cellsOf e)] at hd
        omega
theorem liesAt_le {e : TypeId} {count off : Nat} : ∀ {d : Nat} {u : TypeId} {n : Nat}, liesAt P d e count off u n = true → off ≤ count * P.cellsOf e
  | 0, u, n, h => by simp [liesAt] at h
  | d + 1, u, n, h => by
    unfold liesAt at h
    rw [Bool.or_eq_true] at h
    rcases h with h | h
    · exact rowAt_le h
    · split at h
      · exact liesAt_le h
      · cases h
theorem has_le {W : World} {r : Reach} {base : Nat} {a : Addr} {e : TypeId} {n : Nat} (h : W.has P r base a e n) : a.spot = none ∧ ∃ arr E fz, W.heap[a.block]? = some (.cells arr E fz) ∧ a.off ≤ arr.size := by
  obtain ⟨-, hs, row, cells, hsh, hl⟩ := h
  refine ⟨hs, ?_⟩
  unfold World.shape? at hsh
  split at hsh
  · rename_i c el fz hh
    cases hsh
    refine ⟨c, _, fz, hh, Nat.le_trans (liesAt_le hl) ?_⟩
    exact Nat.div_mul_le_self _ _
  · cases hsh
theorem okWide_sl {W : World} {r : Reach} {base : Nat} {t e : TypeId} {v : Value} (ht : P.underlying t = some (.slice e)) (h : Value.okWide P W r base t v) :
    v = .slice none 0 0 ∨ ∃ b off len cap arr E fz, v = vsl b off len cap ∧ len ≤ cap ∧ W.heap[b]? = some (.cells arr E fz) ∧ off ≤ arr.size := by
  obtain ⟨a, len, cap, rfl⟩ := Go.WideShapes.okWide_slice ht h
  unfold Value.okWide at h
  rw [ht] at h
  unfold Cell.okWide at h
  rw [ht] at h
  simp only at h
  unfold Cell.ok at h
  rw [ht] at h
  cases a with
  | none =>
    left
    simp only at h
    split at h
    all_goals first | (cases h; done) | simp_all
  | some a =>
    right
    simp only at h
    obtain ⟨hle, -, hh⟩ := h
    obtain ⟨hs, arr, E, fz, hb, ho⟩ := has_le hh
    obtain ⟨b, off, sp⟩ := a
    simp only at hs
    subst hs
    exact ⟨b, off, len, cap, arr, E, fz, rfl, hle, hb, ho⟩
theorem slV_of {α : Type} {enc : α → List Value} {z : α} {m : Nat} {W : World} {base b off c : Nat} {l : List α} {arr : Array Value} {E : TypeId} {fz : Nat × Nat} (hm0 : 0 < m) (hm : ∀ x, (enc x).length = m)
    (hcells : ∀ i, i < l.length → W.cells? base ((Addr.mk b off none).add (i * m)) m = some (enc (l.getD i z))) (hheap : W.heap[b]? = some (.cells arr E fz)) (hoff : off ≤ arr.size) (hc : l.length ≤ c) : SlV m enc z W (vsl b off l.length c) l := by
  have get : ∀ k, k < l.length → ∀ j, j < m → arr[off + k * m + j]? = (enc (l.getD k z))[j]? := by
    intro k hk j hj
    obtain ⟨-, hl, hg⟩ := World.cells?_some (hcells k hk)
    have := hg j (by omega)
    rw [add_spot, add_spot] at this
    simp only [World.cell?, hheap, Option.isSome_none, Bool.false_eq_true, if_false] at this
    exact this
  refine SlV.sl hheap get hc ?_
  by_cases h0 : l.length = 0
  · rw [h0]; omega
  · have h1 := get (l.length - 1) (by omega) (m - 1) (by omega)
    rw [List.getElem?_eq_getElem (by rw [hm]; omega)] at h1
    have h2 := (Array.getElem?_eq_some_iff.1 h1).1
    have h3 : (l.length - 1) * m + m = l.length * m := by
      rw [← Nat.succ_mul]; congr 1; omega
    omega
/-- An argument's row that is a slice of elements, each of which is told as one of some kind. -/
theorem open_slS {H : Type} {tell : TypeId × Value → H} {α : Type} {enc : α → List Value} {z : α} {m : Nat} {W : World} {r : Reach} {base b0 : Nat} {sp : Nat → Bool} {held : Bool} {fuel : Nat} {t e : TypeId} {v : Value} {x : DataW H × List MemPlace}
    (ht : P.underlying t = some (.slice e)) (he : P.cellsOf e = m) (hm0 : 0 < m) (hm : ∀ x, (enc x).length = m) (hval : Value.okWide P W r b0 t v)
    (hdec : ∀ n cs y, DataW.trod tell P W base sp held n e cs = some y → ∃ a, cs = enc a) (hd : DataW.trod tell P W base sp held fuel t [v] = some x) : ∃ l, SlV m enc z W v l := by
  rcases DataW.trod_slice ht hd with ⟨hcs, -⟩ | ⟨a, len, cap, elems, rest, n, -, hcs, -, -, hl, -, hlen, hel, -, -⟩
  · simp only [List.cons.injEq, and_true] at hcs
    subst hcs
    exact ⟨[], SlV.nil W⟩
  · simp only [List.cons.injEq, and_true] at hcs
    subst hcs
    rcases okWide_sl ht hval with h0 | ⟨b, off, len', cap', arr, E, fz, h1, -, hb, ho⟩
    · cases h0
    · unfold vsl at h1
      cases h1
      rw [he] at hel
      have hex : ∀ i, i < len → ∃ q, W.cells? base ((Addr.mk b off none).add (i * m)) m = some (enc q) := by
        intro i hi
        have h2 := hel i hi
        rw [List.getElem?_eq_getElem (by omega)] at h2
        cases hc : W.cells? base ((Addr.mk b off none).add (i * m)) m with
        | none => rw [hc] at h2; cases h2
        | some cs =>
          rw [hc] at h2
          obtain ⟨q, rfl⟩ := hdec _ _ _ h2
          exact ⟨q, rfl⟩
      obtain ⟨f, hf⟩ : ∃ f : Nat → α, ∀ i, i < len → W.cells? base ((Addr.mk b off none).add (i * m)) m = some (enc (f i)) := by
        classical
        refine ⟨fun i => if h : i < len then Classical.choose (hex i h) else z, fun i hi => ?_⟩
        simp only [dif_pos hi]
        exact Classical.choose_spec (hex i hi)
      have hll : ((List.range len).map f).length = len := by simp
      refine ⟨(List.range len).map f, ?_⟩
      have := slV_of (W := W) (base := base) (b := b) (off := off) (c := cap) (l := (List.range len).map f) (z := z) hm0 hm (fun i hi => by
        rw [hll] at hi
        rw [hf i hi]
        congr 2
        rw [List.getD_eq_getElem?_getD, List.getElem?_map, List.getElem?_range hi]; rfl) hb ho (by rw [hll]; exact hl)
      rw [hll] at this
      exact this
end
end Go.Sx
section
open Go Go.Proofs Go.Sx Go.StP Go.ChangeShapes
namespace Go.Proofs
set_option maxRecDepth 10000
set_option maxHeartbeats 400000
/-! ### Arguments, opened -/
theorem ints_v8E {H : Type} {tell : TypeId × Value → H} {W : World} {base : Nat} {sp : Nat → Bool} {held : Bool} {n : Nat} {cs : List Value} {y : DataW H × List MemPlace}
    (h : DataW.trod tell Try.prog W base sp held n 24 cs = some y) : ∃ i : IdL, cs = i.l.map v8 := by
  obtain ⟨xs, m, -, -, hlen, hxl, hel⟩ := DataW.trod_array Try.underlying24 h
  have hc : (Try.prog).cellsOf 24 = 32 := by kernel_rfl
  have h1 : (Try.prog).cellsOf 5 = 1 := by kernel_rfl
  rw [hc] at hlen
  rw [h1] at hel
  have hex : ∀ i (hi : i < cs.length), ∃ x : UInt8, cs[i] = v8 x := by
    intro i hi
    have h2 := hel i (by omega)
    rw [List.getElem?_eq_getElem (by omega), Nat.mul_one, List.drop_eq_getElem_cons hi, List.take_succ_cons, List.take_zero] at h2
    obtain ⟨z, hz, -, hw⟩ := DataW.trod_int Try.underlying5 h2
    simp only [List.cons.injEq, and_true] at hz
    rw [hz]
    simp only [Lit.wf, Bool.and_eq_true, decide_eq_true_eq] at hw
    have hw1 : 0 ≤ z := by simpa [IntKind.min, IntKind.bits, IntKind.signed] using hw.1
    have hw2 : z ≤ 255 := by simpa [IntKind.max, IntKind.bits, IntKind.signed] using hw.2
    refine ⟨UInt8.ofNat z.toNat, ?_⟩
    unfold v8
    rw [UInt8.toNat_ofNat', Nat.mod_eq_of_lt (by omega)]
    congr 1; omega
  have hl : ∃ l : List UInt8, cs = l.map v8 := by
    clear hel hlen hxl h
    induction cs with
    | nil => exact ⟨[], rfl⟩
    | cons c r ih =>
      obtain ⟨x, hx⟩ := hex 0 (by simp)
      obtain ⟨l, hl⟩ := ih (fun i hi => by have := hex (i + 1) (by simpa using hi); simpa using this)
      exact ⟨x :: l, by rw [hl]; simp at hx; simp [hx]⟩
  obtain ⟨l, rfl⟩ := hl
  exact ⟨⟨l, by simpa using hlen⟩, rfl⟩
theorem ids_of {H : Type} {tell : TypeId × Value → H} {W : World} {base : Nat} {sp : Nat → Bool} {held : Bool} (n : Nat) (cs : List Value) (y : DataW H × List MemPlace)
    (h : DataW.trod tell Try.prog W base sp held n 24 cs = some y) : ∃ i : IdL, cs = idLC i := ints_v8E h
theorem dec_ent {H : Type} {tell : TypeId × Value → H} {W : World} {base : Nat} {sp : Nat → Bool} {held : Bool} (n : Nat) (cs : List Value) (y : DataW H × List MemPlace)
    (h : DataW.trod tell Try.prog W base sp held n 45 cs = some y) : ∃ a : EntL, cs = entC a := by
  obtain ⟨y0, y1, y2, n', -, hlen, h0, h1, h2⟩ := Deep.trod_struct3 Try.underlying45 h
  have hc : (Try.prog).cellsOf 45 = 34 := by kernel_rfl
  have hc1 : (Try.prog).cellsOf 9 = 1 := by kernel_rfl
  have hc3 : (Try.prog).cellsOf 3 = 1 := by kernel_rfl
  have hc2 : (Try.prog).cellsOf 24 = 32 := by kernel_rfl
  simp only at h0 h1 h2
  rw [hc1, List.drop_zero] at h0
  rw [hc3] at h1
  rw [hc2] at h2
  rw [hc] at hlen
  obtain ⟨s, hs, -, -⟩ := DataW.trod_string Try.underlying9 h0
  obtain ⟨z, hz, -, -⟩ := DataW.trod_int Try.underlying3 h1
  obtain ⟨i, hi⟩ := ints_v8E h2
  refine ⟨⟨s.data.toList, z, i⟩, ?_⟩
  have hd : cs = cs.take 1 ++ ((cs.drop 1).take 1 ++ (cs.drop 2).take 32) := by
    rw [show (cs.drop 2).take 32 = cs.drop 2 from List.take_of_length_le (by rw [List.length_drop]; omega), show cs.drop 2 = (cs.drop 1).drop 1 by rw [List.drop_drop], List.take_append_drop, List.take_append_drop]
  rw [hd, hs, hz, hi]
  rfl
theorem open_ents {H : Type} {enc : TypeId × Value → H} {W : World} {r : Reach} {b0 base : Nat} {sp : Nat → Bool} {held : Bool} {v : Value} {d : DataW H} {p : List MemPlace}
    (hval : Value.okWide Try.prog W r b0 22 v) (hd : DataW.Trod enc Try.prog W base sp held 22 v d p) : ∃ l, EntS W v l := by
  obtain ⟨a0, len, cap, rfl⟩ := WideShapes.okWide_slice Try.underlying22 hval
  obtain ⟨fu, hf⟩ := hd
  exact open_slS (z := ent0) Try.underlying22 (by kernel_rfl) (by decide) entC_len hval dec_ent hf
theorem cell_ok {W : World} {r : Reach} {b0 : Nat} {t e : TypeId} {v : Value} (ht : Try.prog.underlying t = some (.slice e)) (h : Cell.okWide Try.prog W r b0 t v) : Value.okWide Try.prog W r b0 t v := by
  unfold Value.okWide
  rw [ht]
  exact h
theorem open_com {H : Type} {enc : TypeId × Value → H} {W : World} {r : Reach} {b0 base : Nat} {sp : Nat → Bool} {held : Bool} {v : Value} {d : DataW H} {p : List MemPlace}
    (hval : Value.okWide Try.prog W r b0 27 v) (hd : DataW.Trod enc Try.prog W base sp held 27 v d p) : ∃ c, ComS W v c := by
  have hc : (Try.prog).cellsOf 27 = 34 := by kernel_rfl
  have hcI : (Try.prog).cellsOf 24 = 32 := by kernel_rfl
  have hcS : (Try.prog).cellsOf 25 = 1 := by kernel_rfl
  have hcT : (Try.prog).cellsOf 9 = 1 := by kernel_rfl
  have hct : (Try.prog).cellTypes (Try.prog).depth 27 = some (List.replicate 32 5 ++ [25, 9]) := by kernel_rfl
  obtain ⟨fu, hf⟩ := hd
  obtain ⟨y0, y1, y2, n', -, hlen, h0, h1, h2⟩ := Deep.trod_struct3 Try.underlying27 hf
  unfold Value.okWide at hval
  rw [Try.underlying27] at hval
  obtain ⟨cs, rfl, hs, ts, hts, -, hcell⟩ := hval
  rw [hct] at hts
  cases hts
  rw [hc] at hs
  obtain ⟨cs⟩ := cs
  rw [cells_agg] at h0 h1 h2 hlen
  simp only at h0 h1 h2 hlen
  rw [hcI, List.drop_zero] at h0
  rw [hcS] at h1
  rw [hcT] at h2
  rw [hc] at hlen
  obtain ⟨i, hi⟩ := ints_v8E h0
  obtain ⟨s, hs2, -, -⟩ := DataW.trod_string Try.underlying9 h2
  obtain ⟨q, hq⟩ : ∃ q, (cs.drop 32).take 1 = [q] := by
    rw [List.drop_eq_getElem_cons (by omega), List.take_succ_cons, List.take_zero]; exact ⟨_, rfl⟩
  rw [hq] at h1
  have hd : cs = cs.take 32 ++ ((cs.drop 32).take 1 ++ (cs.drop 33).take 1) := by
    rw [show (cs.drop 33).take 1 = cs.drop 33 from List.take_of_length_le (by rw [List.length_drop]; omega), show cs.drop 33 = (cs.drop 32).drop 1 by rw [List.drop_drop], List.take_append_drop, List.take_append_drop]
  rw [hi, hq, hs2] at hd
  have hk : Value.okWide Try.prog W r b0 25 q := by
    obtain ⟨u, hu, ho⟩ := hcell 32 q (by rw [hd]; simp [i.h])
    obtain rfl : 25 = u := by simpa using hu
    exact cell_ok Try.underlying25 ho
  obtain ⟨l, hl⟩ := open_slS (z := id0) Try.underlying25 hcI (by decide) idLC_len' hk ids_of h1
  exact ⟨⟨i, l, s.data.toList⟩, q, by rw [hd]; rfl, hl⟩
end Go.Proofs
end
section
open Go Go.Proofs Go.Sx Go.StP
namespace Go.Proofs
set_option maxRecDepth 10000
set_option maxHeartbeats 1000000
set_option linter.unusedSimpArgs false
/-! ### What is made -/
theorem ComS.oldN {w w' : World} {L : Heap} {v : Value} {c : ComL} (h : ComS w v c) (hw : Hp w L w') (hn : New w.heap.size L) : ComS w' v c := by
  obtain ⟨p, hv, hp⟩ := h
  exact ⟨p, hv, hp.oldN hw hn⟩
theorem made_blob (s : List UInt8) : (s.length ≤ 4096 → madeK 1 s true = 1 ∧ madeT 1 s true = s ∧ madeE 1 s true = 0) ∧ (¬ s.length ≤ 4096 → madeK 1 s true = 0 ∧ madeT 1 s true = [] ∧ madeE 1 s true = 1) := by
  constructor
  · intro h
    have : RdOk 1 s = true := by unfold RdOk; rw [if_pos (by omega)]; rfl
    unfold madeK madeT madeE
    rw [this]; exact ⟨rfl, rfl, rfl⟩
  · intro h
    have : RdOk 1 s = false := by unfold RdOk; rw [if_neg (by omega)]
    unfold madeK madeT madeE
    rw [this]; exact ⟨rfl, rfl, rfl⟩
theorem made_tree (Z : List EntL) : madeK 2 (treeB Z) (entsOk Z) = (if entsOk Z then 2 else 0) ∧ madeT 2 (treeB Z) (entsOk Z) = (if entsOk Z then treeB Z else []) ∧ madeE 2 (treeB Z) (entsOk Z) = (if entsOk Z then 0 else 1) := by
  unfold madeK madeT madeE
  cases h : entsOk Z
  · exact ⟨rfl, rfl, rfl⟩
  · rw [RdOk_tree h]; exact ⟨rfl, rfl, rfl⟩
theorem made_com (c : ComL) : madeK 3 (comB c) (comOk c) = (if comOk c then 3 else 0) ∧ madeT 3 (comB c) (comOk c) = (if comOk c then comB c else []) ∧ madeE 3 (comB c) (comOk c) = (if comOk c then 0 else 1) := by
  unfold madeK madeT madeE
  cases h : comOk c
  · exact ⟨rfl, rfl, rfl⟩
  · rw [RdOk_com h]; exact ⟨rfl, rfl, rfl⟩
theorem greatE_no {l : List EntL} (h : greatE l = false) : l.length ≤ 60 ∧ ∀ e, e ∈ l → e.name.length ≤ 100 := by
  unfold greatE at h
  rw [Bool.or_eq_false_iff] at h
  refine ⟨by have := of_decide_eq_false h.1; omega, fun e he => ?_⟩
  have := List.any_eq_false.1 h.2 e he
  simpa using this
theorem neBo (a b : Bool) : binX Try.prog .neq 4 (.bool a) (.bool b) = some (.bool (!(a == b))) := by
  simp [binX, eqX, plainV, eqNilV, Try.underlying4]
set_option linter.defProp false
def uPO_1 := And.intro (And.intro (And.intro (And.intro (@load_ob) (@load_ob0)) (And.intro (@load_ob1) (And.intro (@store_ob) (@Sx.tup2_0)))) (And.intro (And.intro (@Sx.tup2_1) (@load_com0)) (And.intro (@load_com1) (And.intro (@load_com2) (@load_com))))) (And.intro (And.intro (And.intro (@cells_com) (@eqOb)) (And.intro (@neOb) (And.intro (@eqBo) (@neBo)))) (And.intro (And.intro (@Bool.and_true) (And.intro (@Bool.true_and) (@Bool.and_false))) (And.intro (@Bool.false_and) (And.intro (@rdIn_v8) (@rdIn_vi)))))
theorem ObjectMakes_spec (w : World) (s : List UInt8) (v : Value) (l : List EntL) (hl : EntS w v l) (vc : Value) (c : ComL) (hc : ComS w vc c) : Rets Try.prog 3 #[vs s, v, vc] w (fun v D => v = .bool true ∧ D = []) := by
  obtain ⟨p, rfl, hp⟩ := id hc
  have lnp := hp.len
  refine Rets.enterV Try.func3 rfl (rs := [.tmp 6]) Try.results3 Try.ntmps3 ?_
  simp only [List.size_toArray, List.length_cons, List.length_nil, Nat.reduceAdd, Nat.reduceSub, List.replicate_succ, List.replicate_zero, List.cons_append, List.nil_append]
  ((try with_reducible refine Cw.go [1000008] ?_); (try simp (disch := (first | assumption | omega | (simp only [lenS, lenT, UInt64.reduceToNat]; try omega))) only [↓S0, S1, Try.fx, uPO_1, Nat.reduceAdd, Nat.reducePow, Int.reducePow, Nat.reduceBEq, ↓reduceIte, UInt8.reduceToNat, UInt16.reduceToNat, UInt32.reduceToNat, UInt64.reduceToNat, Int.reduceToNat]))
  refine Ow.box rfl rfl fun b5 hb5 hw5 => ?_
  simp only [ev_tmp, getF_0, getF_s, cells_com, List.nil_append]
  refine Ow.go rfl ?_
  simp (disch := (first | assumption | omega | (simp only [lenS, lenT, UInt64.reduceToNat]; try omega))) only [↓S0, S1, Try.fx, uPO_1, Nat.reduceAdd, Nat.reducePow, Int.reducePow, Nat.reduceBEq, ↓reduceIte, UInt8.reduceToNat, UInt16.reduceToNat, UInt32.reduceToNat, UInt64.reduceToNat, Int.reduceToNat]
  refine Ow.callFV rfl Try.call8 (fun w' hw' => alive_spec w') ?_
  refine Ow.go rfl ?_
  simp (disch := (first | assumption | omega | (simp only [lenS, lenT, UInt64.reduceToNat]; try omega))) only [↓S0, S1, Try.fx, uPO_1, Nat.reduceAdd, Nat.reducePow, Int.reducePow, Nat.reduceBEq, ↓reduceIte, UInt8.reduceToNat, UInt16.reduceToNat, UInt32.reduceToNat, UInt64.reduceToNat, Int.reduceToNat]
  by_cases h6 : 6000 < s.length
  · have d1 : decide ((6000 : Int) < (s.length : Int)) = true := decide_eq_true (by omega)
    ((try with_reducible refine Cw.go [] ?_); (try simp (disch := (first | assumption | omega | (simp only [lenS, lenT, UInt64.reduceToNat]; try omega))) only [↓S0, S1, Try.fx, uPO_1, Nat.reduceAdd, Nat.reducePow, Int.reducePow, Nat.reduceBEq, ↓reduceIte, UInt8.reduceToNat, UInt16.reduceToNat, UInt32.reduceToNat, UInt64.reduceToNat, Int.reduceToNat, d1]))
    refine Ow.callFV rfl Try.call8 (fun w' hw' => alive_spec w') ?_
    refine Ow.go rfl ?_
    simp (disch := (first | assumption | omega | (simp only [lenS, lenT, UInt64.reduceToNat]; try omega))) only [↓S0, S1, Try.fx, uPO_1, Nat.reduceAdd, Nat.reducePow, Int.reducePow, Nat.reduceBEq, ↓reduceIte, UInt8.reduceToNat, UInt16.reduceToNat, UInt32.reduceToNat, UInt64.reduceToNat, Int.reduceToNat]
    ((try with_reducible refine Cw.go [] ?_); (try simp (disch := (first | assumption | omega | (simp only [lenS, lenT, UInt64.reduceToNat]; try omega))) only [↓S0, S1, Try.fx, uPO_1, Nat.reduceAdd, Nat.reducePow, Int.reducePow, Nat.reduceBEq, ↓reduceIte, UInt8.reduceToNat, UInt16.reduceToNat, UInt32.reduceToNat, UInt64.reduceToNat, Int.reduceToNat]))
    refine ⟨_, (by simp (disch := (first | assumption | omega | (simp only [lenS, lenT, UInt64.reduceToNat]; try omega))) only [↓S0, S1, Try.fx, uPO_1, Nat.reduceAdd, Nat.reducePow, Int.reducePow, Nat.reduceBEq, ↓reduceIte, UInt8.reduceToNat, UInt16.reduceToNat, UInt32.reduceToNat, UInt64.reduceToNat, Int.reduceToNat]; rfl), ⟨hw5, trivial⟩, ?_⟩
    rfl
  have d1 : decide ((6000 : Int) < (s.length : Int)) = false := decide_eq_false (by omega)
  ((try with_reducible refine Cw.go [] ?_); (try simp (disch := (first | assumption | omega | (simp only [lenS, lenT, UInt64.reduceToNat]; try omega))) only [↓S0, S1, Try.fx, uPO_1, Nat.reduceAdd, Nat.reducePow, Int.reducePow, Nat.reduceBEq, ↓reduceIte, UInt8.reduceToNat, UInt16.reduceToNat, UInt32.reduceToNat, UInt64.reduceToNat, Int.reduceToNat, d1]))
  refine Ow.callFV rfl Try.call9 (fun w' hw' => great_spec v l w' (hl.oldN hw' ⟨hw5, trivial⟩)) ?_
  cases hg : greatE l
  case true =>
    refine Ow.go rfl ?_
    simp (disch := (first | assumption | omega | (simp only [lenS, lenT, UInt64.reduceToNat]; try omega))) only [↓S0, S1, Try.fx, uPO_1, Nat.reduceAdd, Nat.reducePow, Int.reducePow, Nat.reduceBEq, ↓reduceIte, UInt8.reduceToNat, UInt16.reduceToNat, UInt32.reduceToNat, UInt64.reduceToNat, Int.reduceToNat]
    refine Ow.callFV rfl Try.call8 (fun w' hw' => alive_spec w') ?_
    refine Ow.go rfl ?_
    simp (disch := (first | assumption | omega | (simp only [lenS, lenT, UInt64.reduceToNat]; try omega))) only [↓S0, S1, Try.fx, uPO_1, Nat.reduceAdd, Nat.reducePow, Int.reducePow, Nat.reduceBEq, ↓reduceIte, UInt8.reduceToNat, UInt16.reduceToNat, UInt32.reduceToNat, UInt64.reduceToNat, Int.reduceToNat]
    ((try with_reducible refine Cw.go [] ?_); (try simp (disch := (first | assumption | omega | (simp only [lenS, lenT, UInt64.reduceToNat]; try omega))) only [↓S0, S1, Try.fx, uPO_1, Nat.reduceAdd, Nat.reducePow, Int.reducePow, Nat.reduceBEq, ↓reduceIte, UInt8.reduceToNat, UInt16.reduceToNat, UInt32.reduceToNat, UInt64.reduceToNat, Int.reduceToNat]))
    refine ⟨_, (by simp (disch := (first | assumption | omega | (simp only [lenS, lenT, UInt64.reduceToNat]; try omega))) only [↓S0, S1, Try.fx, uPO_1, Nat.reduceAdd, Nat.reducePow, Int.reducePow, Nat.reduceBEq, ↓reduceIte, UInt8.reduceToNat, UInt16.reduceToNat, UInt32.reduceToNat, UInt64.reduceToNat, Int.reduceToNat]; rfl), ⟨hw5, trivial⟩, ?_⟩
    rfl
  obtain ⟨hl60, hl100⟩ := greatE_no hg
  by_cases h7 : 20 < c.par.length
  · have d2 : decide ((20 : Int) < (c.par.length : Int)) = true := decide_eq_true (by omega)
    refine Ow.go rfl ?_
    simp (disch := (first | assumption | omega | (simp only [lenS, lenT, UInt64.reduceToNat]; try omega))) only [↓S0, S1, Try.fx, uPO_1, Nat.reduceAdd, Nat.reducePow, Int.reducePow, Nat.reduceBEq, ↓reduceIte, UInt8.reduceToNat, UInt16.reduceToNat, UInt32.reduceToNat, UInt64.reduceToNat, Int.reduceToNat, lnp, d2]
    refine Ow.callFV rfl Try.call8 (fun w' hw' => alive_spec w') ?_
    refine Ow.go rfl ?_
    simp (disch := (first | assumption | omega | (simp only [lenS, lenT, UInt64.reduceToNat]; try omega))) only [↓S0, S1, Try.fx, uPO_1, Nat.reduceAdd, Nat.reducePow, Int.reducePow, Nat.reduceBEq, ↓reduceIte, UInt8.reduceToNat, UInt16.reduceToNat, UInt32.reduceToNat, UInt64.reduceToNat, Int.reduceToNat]
    ((try with_reducible refine Cw.go [] ?_); (try simp (disch := (first | assumption | omega | (simp only [lenS, lenT, UInt64.reduceToNat]; try omega))) only [↓S0, S1, Try.fx, uPO_1, Nat.reduceAdd, Nat.reducePow, Int.reducePow, Nat.reduceBEq, ↓reduceIte, UInt8.reduceToNat, UInt16.reduceToNat, UInt32.reduceToNat, UInt64.reduceToNat, Int.reduceToNat]))
    refine ⟨_, (by simp (disch := (first | assumption | omega | (simp only [lenS, lenT, UInt64.reduceToNat]; try omega))) only [↓S0, S1, Try.fx, uPO_1, Nat.reduceAdd, Nat.reducePow, Int.reducePow, Nat.reduceBEq, ↓reduceIte, UInt8.reduceToNat, UInt16.reduceToNat, UInt32.reduceToNat, UInt64.reduceToNat, Int.reduceToNat]; rfl), ⟨hw5, trivial⟩, ?_⟩
    rfl
  have d2 : decide ((20 : Int) < (c.par.length : Int)) = false := decide_eq_false (by omega)
  by_cases h8 : 300 < c.text.length
  · have d3 : decide ((300 : Int) < (c.text.length : Int)) = true := decide_eq_true (by omega)
    refine Ow.go rfl ?_
    simp (disch := (first | assumption | omega | (simp only [lenS, lenT, UInt64.reduceToNat]; try omega))) only [↓S0, S1, Try.fx, uPO_1, Nat.reduceAdd, Nat.reducePow, Int.reducePow, Nat.reduceBEq, ↓reduceIte, UInt8.reduceToNat, UInt16.reduceToNat, UInt32.reduceToNat, UInt64.reduceToNat, Int.reduceToNat, lnp, d2, d3]
    refine Ow.callFV rfl Try.call8 (fun w' hw' => alive_spec w') ?_
    refine Ow.go rfl ?_
    simp (disch := (first | assumption | omega | (simp only [lenS, lenT, UInt64.reduceToNat]; try omega))) only [↓S0, S1, Try.fx, uPO_1, Nat.reduceAdd, Nat.reducePow, Int.reducePow, Nat.reduceBEq, ↓reduceIte, UInt8.reduceToNat, UInt16.reduceToNat, UInt32.reduceToNat, UInt64.reduceToNat, Int.reduceToNat]
    ((try with_reducible refine Cw.go [] ?_); (try simp (disch := (first | assumption | omega | (simp only [lenS, lenT, UInt64.reduceToNat]; try omega))) only [↓S0, S1, Try.fx, uPO_1, Nat.reduceAdd, Nat.reducePow, Int.reducePow, Nat.reduceBEq, ↓reduceIte, UInt8.reduceToNat, UInt16.reduceToNat, UInt32.reduceToNat, UInt64.reduceToNat, Int.reduceToNat]))
    refine ⟨_, (by simp (disch := (first | assumption | omega | (simp only [lenS, lenT, UInt64.reduceToNat]; try omega))) only [↓S0, S1, Try.fx, uPO_1, Nat.reduceAdd, Nat.reducePow, Int.reducePow, Nat.reduceBEq, ↓reduceIte, UInt8.reduceToNat, UInt16.reduceToNat, UInt32.reduceToNat, UInt64.reduceToNat, Int.reduceToNat]; rfl), ⟨hw5, trivial⟩, ?_⟩
    rfl
  have d3 : decide ((300 : Int) < (c.text.length : Int)) = false := decide_eq_false (by omega)
  refine Ow.go rfl ?_
  simp (disch := (first | assumption | omega | (simp only [lenS, lenT, UInt64.reduceToNat]; try omega))) only [↓S0, S1, Try.fx, uPO_1, Nat.reduceAdd, Nat.reducePow, Int.reducePow, Nat.reduceBEq, ↓reduceIte, UInt8.reduceToNat, UInt16.reduceToNat, UInt32.reduceToNat, UInt64.reduceToNat, Int.reduceToNat, lnp, d2, d3]
  refine Ow.callFV rfl Try.call10 (fun w' hw' => Blob_spec s w') ?_
  obtain ⟨m1, m2⟩ := made_blob s
  generalize madeK 1 s true = kB at *
  generalize madeT 1 s true = tB at *
  generalize madeE 1 s true = eB at *
  refine Ow.go rfl ?_
  simp (disch := (first | assumption | omega | (simp only [lenS, lenT, UInt64.reduceToNat]; try omega))) only [↓S0, S1, Try.fx, uPO_1, Nat.reduceAdd, Nat.reducePow, Int.reducePow, Nat.reduceBEq, ↓reduceIte, UInt8.reduceToNat, UInt16.reduceToNat, UInt32.reduceToNat, UInt64.reduceToNat, Int.reduceToNat]
  refine Ow.alloc rfl rfl zrOb fun b7 hb7 hw7 => ?_
  simp only [cells_agg, List.nil_append, List.cons_append]
  have h57 : b5 < b7 := above_to hb7 (by simp [keys])
  refine Ow.go rfl ?_
  simp (disch := (first | assumption | omega | (simp only [lenS, lenT, UInt64.reduceToNat]; try omega))) only [↓S0, S1, Try.fx, uPO_1, Nat.reduceAdd, Nat.reducePow, Int.reducePow, Nat.reduceBEq, ↓reduceIte, UInt8.reduceToNat, UInt16.reduceToNat, UInt32.reduceToNat, UInt64.reduceToNat, Int.reduceToNat]
  refine Ow.callC rfl rfl Try.call11 (fun w' hw' => TreeO_spec v l w' (hl.oldN hw' ⟨hw5, hw7, trivial⟩) (by omega) (fun e he => by have := hl100 e he; omega)) (fun B1 v1 D1 hA1 hB1 hN1 hS1 => ?_)
  obtain ⟨Z, hZ, rfl⟩ := hS1
  obtain ⟨t1, t2, t3⟩ := made_tree Z
  rw [t1, t2, t3]
  refine Ow.go rfl ?_
  simp (disch := (first | assumption | omega | (simp only [lenS, lenT, UInt64.reduceToNat]; try omega))) only [↓S0, S1, Try.fx, uPO_1, Nat.reduceAdd, Nat.reducePow, Int.reducePow, Nat.reduceBEq, ↓reduceIte, UInt8.reduceToNat, UInt16.reduceToNat, UInt32.reduceToNat, UInt64.reduceToNat, Int.reduceToNat]
  refine Ow.alloc rfl rfl zrOb fun b9 hb9 hw9 => ?_
  simp only [cells_agg, List.nil_append, List.cons_append]
  have h59 : b5 < b9 := above_to hb9 (by simp [keys])
  have h79 : b7 < b9 := above_to hb9 (by simp [keys])
  have hD1 : New w.heap.size D1 := New.mono hB1 hN1
  refine Ow.permL (M := (b5, Obj.cells (comC c.tree p c.text).toArray 27 (0, 0)) :: (b7, Obj.cells #[vi kB, vs tB] 31 (0, 0)) :: (b9, Obj.cells #[vi 0, vs []] 31 (0, 0)) :: D1) (by classical exact List.perm_iff_count.2 fun a => by simp only [List.count_append, List.count_cons, List.count_nil] <;> omega) ?_
  refine Ow.go rfl ?_
  simp (disch := (first | assumption | omega | (simp only [lenS, lenT, UInt64.reduceToNat]; try omega))) only [↓S0, S1, Try.fx, uPO_1, Nat.reduceAdd, Nat.reducePow, Int.reducePow, Nat.reduceBEq, ↓reduceIte, UInt8.reduceToNat, UInt16.reduceToNat, UInt32.reduceToNat, UInt64.reduceToNat, Int.reduceToNat]
  ((try with_reducible refine Cw.go [] ?_); (try simp (disch := (first | assumption | omega | (simp only [lenS, lenT, UInt64.reduceToNat]; try omega))) only [↓S0, S1, Try.fx, uPO_1, Nat.reduceAdd, Nat.reducePow, Int.reducePow, Nat.reduceBEq, ↓reduceIte, UInt8.reduceToNat, UInt16.reduceToNat, UInt32.reduceToNat, UInt64.reduceToNat, Int.reduceToNat]))
  refine Ow.callC rfl rfl Try.call12 (fun w' hw' => CommitO_spec _ c w' (hc.oldN hw' ⟨hw5, hw7, hw9, hD1⟩) (by omega) (by omega)) (fun B2 v2 D2 hA2 hB2 hN2 hS2 => ?_)
  obtain ⟨q1, q2, q3⟩ := made_com c
  rw [q1, q2, q3] at hS2
  subst hS2
  refine Ow.go rfl ?_
  simp (disch := (first | assumption | omega | (simp only [lenS, lenT, UInt64.reduceToNat]; try omega))) only [↓S0, S1, Try.fx, uPO_1, Nat.reduceAdd, Nat.reducePow, Int.reducePow, Nat.reduceBEq, ↓reduceIte, UInt8.reduceToNat, UInt16.reduceToNat, UInt32.reduceToNat, UInt64.reduceToNat, Int.reduceToNat]
  refine Ow.alloc rfl rfl zrOb fun b11 hb11 hw11 => ?_
  simp only [cells_agg, List.nil_append, List.cons_append]
  have h511 : b5 < b11 := above_to hb11 (by simp [keys])
  have h711 : b7 < b11 := above_to hb11 (by simp [keys])
  have h911 : b9 < b11 := above_to hb11 (by simp [keys])
  have hJ : New w.heap.size (D1 ++ D2) := hD1.app (New.mono hB2 hN2)
  refine Ow.permL (M := (b5, Obj.cells (comC c.tree p c.text).toArray 27 (0, 0)) :: (b7, Obj.cells #[vi kB, vs tB] 31 (0, 0)) :: (b9, Obj.cells #[vi (if entsOk Z then 2 else 0), vs (if entsOk Z then treeB Z else [])] 31 (0, 0)) :: (b11, Obj.cells #[vi 0, vs []] 31 (0, 0)) :: (D1 ++ D2)) (by classical exact List.perm_iff_count.2 fun a => by simp only [List.count_append, List.count_cons, List.count_nil] <;> omega) ?_
  generalize D1 ++ D2 = J at hJ ⊢
  refine Ow.go rfl ?_
  simp (disch := (first | assumption | omega | (simp only [lenS, lenT, UInt64.reduceToNat]; try omega))) only [↓S0, S1, Try.fx, uPO_1, Nat.reduceAdd, Nat.reducePow, Int.reducePow, Nat.reduceBEq, ↓reduceIte, UInt8.reduceToNat, UInt16.reduceToNat, UInt32.reduceToNat, UInt64.reduceToNat, Int.reduceToNat]
  refine Cw.cut (G := Unit) 139 (fun g => [(1, v), (5, vp b5 0), (9, vp b9 0), (10, vi (if entsOk Z then 0 else 1)), (11, vp b11 0), (12, vi (if comOk c then 0 else 1))]) (fun g => (b5, Obj.cells (comC c.tree p c.text).toArray 27 (0, 0)) :: (b7, Obj.cells #[vi kB, vs tB] 31 (0, 0)) :: (b9, Obj.cells #[vi (if entsOk Z then 2 else 0), vs (if entsOk Z then treeB Z else [])] 31 (0, 0)) :: (b11, Obj.cells #[vi (if comOk c then 3 else 0), vs (if comOk c then comB c else [])] 31 (0, 0)) :: J) (fun g => True) ?_ ?_
  · by_cases h4 : s.length ≤ 4096
    · obtain ⟨rfl, rfl, rfl⟩ := m1 h4
      have d4 : decide ((4096 : Int) < (tB.length : Int)) = false := decide_eq_false (by omega)
      have d5 : decide ((tB.length : Int) ≤ (4096 : Int)) = true := decide_eq_true (by omega)
      have d6 : ((0 : Int) != 0) = false := rfl
      have d7 : (!((1 : Int) == 1 && tB == tB)) = false := by simp
      ((try with_reducible refine Cw.go [] ?_); (try simp (disch := (first | assumption | omega | (simp only [lenS, lenT, UInt64.reduceToNat]; try omega))) only [↓S0, S1, Try.fx, uPO_1, Nat.reduceAdd, Nat.reducePow, Int.reducePow, Nat.reduceBEq, ↓reduceIte, UInt8.reduceToNat, UInt16.reduceToNat, UInt32.reduceToNat, UInt64.reduceToNat, Int.reduceToNat, d4, d5, d6]))
      refine Ow.build (obV 1 tB) rfl (build_ob2 1 tB) ?_
      refine Ow.go rfl ?_
      simp (disch := (first | assumption | omega | (simp only [lenS, lenT, UInt64.reduceToNat]; try omega))) only [↓S0, S1, Try.fx, uPO_1, Nat.reduceAdd, Nat.reducePow, Int.reducePow, Nat.reduceBEq, ↓reduceIte, UInt8.reduceToNat, UInt16.reduceToNat, UInt32.reduceToNat, UInt64.reduceToNat, Int.reduceToNat, d7, Bool.not_true]
      ((try with_reducible refine Cw.go [] ?_); (try simp (disch := (first | assumption | omega | (simp only [lenS, lenT, UInt64.reduceToNat]; try omega))) only [↓S0, S1, Try.fx, uPO_1, Nat.reduceAdd, Nat.reducePow, Int.reducePow, Nat.reduceBEq, ↓reduceIte, UInt8.reduceToNat, UInt16.reduceToNat, UInt32.reduceToNat, UInt64.reduceToNat, Int.reduceToNat]))
      exact CutM.mk () trivial rfl rfl
    · obtain ⟨rfl, rfl, rfl⟩ := m2 h4
      have d4 : decide ((4096 : Int) < (s.length : Int)) = true := decide_eq_true (by omega)
      have d5 : decide ((s.length : Int) ≤ (4096 : Int)) = false := decide_eq_false (by omega)
      have d6 : ((1 : Int) != 1) = false := rfl
      have d7 : (!((0 : Int) == 0 && ([] : List UInt8) == [])) = false := rfl
      ((try with_reducible refine Cw.go [] ?_); (try simp (disch := (first | assumption | omega | (simp only [lenS, lenT, UInt64.reduceToNat]; try omega))) only [↓S0, S1, Try.fx, uPO_1, Nat.reduceAdd, Nat.reducePow, Int.reducePow, Nat.reduceBEq, ↓reduceIte, UInt8.reduceToNat, UInt16.reduceToNat, UInt32.reduceToNat, UInt64.reduceToNat, Int.reduceToNat, d4, d5, d6]))
      refine Ow.build (obV 0 []) rfl build_ob0 ?_
      refine Ow.go rfl ?_
      simp (disch := (first | assumption | omega | (simp only [lenS, lenT, UInt64.reduceToNat]; try omega))) only [↓S0, S1, Try.fx, uPO_1, Nat.reduceAdd, Nat.reducePow, Int.reducePow, Nat.reduceBEq, ↓reduceIte, UInt8.reduceToNat, UInt16.reduceToNat, UInt32.reduceToNat, UInt64.reduceToNat, Int.reduceToNat, d4, d5, d6, d7, Bool.not_true]
      ((try with_reducible refine Cw.go [] ?_); (try simp (disch := (first | assumption | omega | (simp only [lenS, lenT, UInt64.reduceToNat]; try omega))) only [↓S0, S1, Try.fx, uPO_1, Nat.reduceAdd, Nat.reducePow, Int.reducePow, Nat.reduceBEq, ↓reduceIte, UInt8.reduceToNat, UInt16.reduceToNat, UInt32.reduceToNat, UInt64.reduceToNat, Int.reduceToNat]))
      exact CutM.mk () trivial rfl rfl
  · intro u ju hu
    simp only [allF_s, allF_0, pin, setF_0, setF_s, Nat.reduceAdd]
    clear u hu
    ((try with_reducible refine Cw.go [1000011, 1000013] ?_); (try simp (disch := (first | assumption | omega | (simp only [lenS, lenT, UInt64.reduceToNat]; try omega))) only [↓S0, S1, Try.fx, uPO_1, Nat.reduceAdd, Nat.reducePow, Int.reducePow, Nat.reduceBEq, ↓reduceIte, UInt8.reduceToNat, UInt16.reduceToNat, UInt32.reduceToNat, UInt64.reduceToNat, Int.reduceToNat]))
    refine Ow.callC rfl rfl Try.call13 (fun w' hw' => SortedR_spec v l w' (hl.oldN hw' ⟨hw5, hw7, hw9, hw11, hJ⟩) (by omega)) (fun B3 v3 D3 hA3 hB3 hN3 hS3 => ?_)
    obtain ⟨Z', hZ', hG3⟩ := hS3
    obtain rfl := hZ.eq hZ'
    have hZl : Z.length = l.length := hZ.1
    have hZs : ShortE Z := fun i hi => by have := hl100 _ (st_mem hZ.2.2 (getD_mem (z := ent0) hi)); omega
    have hD3 : New w.heap.size D3 := New.mono hB3 hN3
    have hrow : ∀ w', Hp w ((b5, Obj.cells (comC c.tree p c.text).toArray 27 (0, 0)) :: (b7, Obj.cells #[vi kB, vs tB] 31 (0, 0)) :: (b9, Obj.cells #[vi (if entsOk Z then 2 else 0), vs (if entsOk Z then treeB Z else [])] 31 (0, 0)) :: (b11, Obj.cells #[vi (if comOk c then 3 else 0), vs (if comOk c then comB c else [])] 31 (0, 0)) :: (J ++ D3)) w' → EntS w' v3 Z := fun w' hw' => hG3.slM (fun b o hm => hw'.has b o (by simp [hm])) hZl rfl entC_len
    have hNe : New w.heap.size ((b5, Obj.cells (comC c.tree p c.text).toArray 27 (0, 0)) :: (b7, Obj.cells #[vi kB, vs tB] 31 (0, 0)) :: (b9, Obj.cells #[vi (if entsOk Z then 2 else 0), vs (if entsOk Z then treeB Z else [])] 31 (0, 0)) :: (b11, Obj.cells #[vi (if comOk c then 3 else 0), vs (if comOk c then comB c else [])] 31 (0, 0)) :: (J ++ D3)) := ⟨hw5, hw7, hw9, hw11, hJ.app hD3⟩
    simp only [List.cons_append]
    generalize J ++ D3 = J2 at hrow hNe ⊢
    refine Ow.go rfl ?_
    simp (disch := (first | assumption | omega | (simp only [lenS, lenT, UInt64.reduceToNat]; try omega))) only [↓S0, S1, Try.fx, uPO_1, Nat.reduceAdd, Nat.reducePow, Int.reducePow, Nat.reduceBEq, ↓reduceIte, UInt8.reduceToNat, UInt16.reduceToNat, UInt32.reduceToNat, UInt64.reduceToNat, Int.reduceToNat]
    refine Cw.cut (G := Unit) 139 (fun g => [(5, vp b5 0), (11, vp b11 0), (12, vi (if comOk c then 0 else 1))]) (fun g => (b5, Obj.cells (comC c.tree p c.text).toArray 27 (0, 0)) :: (b7, Obj.cells #[vi kB, vs tB] 31 (0, 0)) :: (b9, Obj.cells #[vi (if entsOk Z then 2 else 0), vs (if entsOk Z then treeB Z else [])] 31 (0, 0)) :: (b11, Obj.cells #[vi (if comOk c then 3 else 0), vs (if comOk c then comB c else [])] 31 (0, 0)) :: J2) (fun g => True) ?_ ?_
    · ((try with_reducible refine Cw.go [] ?_); (try simp (disch := (first | assumption | omega | (simp only [lenS, lenT, UInt64.reduceToNat]; try omega))) only [↓S0, S1, Try.fx, uPO_1, Nat.reduceAdd, Nat.reducePow, Int.reducePow, Nat.reduceBEq, ↓reduceIte, UInt8.reduceToNat, UInt16.reduceToNat, UInt32.reduceToNat, UInt64.reduceToNat, Int.reduceToNat]))
      refine Cw.regionS [b9] [0, 2, 3, 1, 4, 5, 6, 7, 8, 10, 9, 11, 12, 13, 14, 15, 16, 17, 18, 19, 20, 21, 22, 24, 23, 25, 26, 27, 28] [] (by kernel_rfl) (by kernel_rfl) (by kernel_rfl) ?_
      simp only [nl_cons, ↓pickL_nil, ↓pickL_cons, ↓nthO_0, ↓nthO_s, consO_some]
      refine Ow.goQ ?_
      simp (disch := (first | assumption | omega | (simp only [lenS, lenT, UInt64.reduceToNat]; try omega))) only [↓S0, S1, Try.fx, uPO_1, Nat.reduceAdd, Nat.reducePow, Int.reducePow, Nat.reduceBEq, ↓reduceIte, UInt8.reduceToNat, UInt16.reduceToNat, UInt32.reduceToNat, UInt64.reduceToNat, Int.reduceToNat]
      refine Ow.callFV rfl Try.call14 (fun w' hw' => TreeRight_spec v3 Z w' (hrow w' hw') (by omega) hZs) ?_
      have d6 : ((0 : Int) != 0) = false := rfl
      have d8 : ((1 : Int) != 1) = false := rfl
      have d9 : ((1 : Int) == 0) = false := rfl
      have d10 : ((1 : Int) != 0) = true := rfl
      cases ho : entsOk Z
      · have d7 : (!((0 : Int) == 0 && ([] : List UInt8) == [])) = false := rfl
        refine Ow.goQ ?_
        simp (disch := (first | assumption | omega | (simp only [lenS, lenT, UInt64.reduceToNat]; try omega))) only [↓S0, S1, Try.fx, uPO_1, Nat.reduceAdd, Nat.reducePow, Int.reducePow, Nat.reduceBEq, ↓reduceIte, UInt8.reduceToNat, UInt16.reduceToNat, UInt32.reduceToNat, UInt64.reduceToNat, Int.reduceToNat, d6, d8, d9, d10, Bool.not_true]
        refine Ow.build (obV 0 []) rfl build_ob0 ?_
        refine Ow.goQ ?_
        simp (disch := (first | assumption | omega | (simp only [lenS, lenT, UInt64.reduceToNat]; try omega))) only [↓S0, S1, Try.fx, uPO_1, Nat.reduceAdd, Nat.reducePow, Int.reducePow, Nat.reduceBEq, ↓reduceIte, UInt8.reduceToNat, UInt16.reduceToNat, UInt32.reduceToNat, UInt64.reduceToNat, Int.reduceToNat, d6, d7, d8, d9, d10, Bool.not_true]
        ((try with_reducible refine Cw.go [] ?_); (try simp (disch := (first | assumption | omega | (simp only [lenS, lenT, UInt64.reduceToNat]; try omega))) only [↓S0, S1, Try.fx, uPO_1, Nat.reduceAdd, Nat.reducePow, Int.reducePow, Nat.reduceBEq, ↓reduceIte, UInt8.reduceToNat, UInt16.reduceToNat, UInt32.reduceToNat, UInt64.reduceToNat, Int.reduceToNat]))
        exact CutM.mk () trivial rfl rfl
      · simp only [ho, ↓reduceIte] at hrow
        refine Ow.goQ ?_
        simp (disch := (first | assumption | omega | (simp only [lenS, lenT, UInt64.reduceToNat]; try omega))) only [↓S0, S1, Try.fx, uPO_1, Nat.reduceAdd, Nat.reducePow, Int.reducePow, Nat.reduceBEq, ↓reduceIte, UInt8.reduceToNat, UInt16.reduceToNat, UInt32.reduceToNat, UInt64.reduceToNat, Int.reduceToNat, d6, d8, d9, d10, Bool.not_true]
        refine Ow.callFV rfl Try.call15 (fun w' hw' => TreeBody_spec v3 Z w' (hrow w' hw') (by omega) hZs) ?_
        have d7 : (!((2 : Int) == 2 && treeB Z == treeB Z)) = false := by simp
        refine Ow.goQ ?_
        simp (disch := (first | assumption | omega | (simp only [lenS, lenT, UInt64.reduceToNat]; try omega))) only [↓S0, S1, Try.fx, uPO_1, Nat.reduceAdd, Nat.reducePow, Int.reducePow, Nat.reduceBEq, ↓reduceIte, UInt8.reduceToNat, UInt16.reduceToNat, UInt32.reduceToNat, UInt64.reduceToNat, Int.reduceToNat, d6, d8, d9, d10, Bool.not_true]
        refine Ow.build (obV 2 (treeB Z)) rfl (build_ob2 2 _) ?_
        refine Ow.goQ ?_
        simp (disch := (first | assumption | omega | (simp only [lenS, lenT, UInt64.reduceToNat]; try omega))) only [↓S0, S1, Try.fx, uPO_1, Nat.reduceAdd, Nat.reducePow, Int.reducePow, Nat.reduceBEq, ↓reduceIte, UInt8.reduceToNat, UInt16.reduceToNat, UInt32.reduceToNat, UInt64.reduceToNat, Int.reduceToNat, d6, d7, d8, d9, d10, Bool.not_true]
        ((try with_reducible refine Cw.go [] ?_); (try simp (disch := (first | assumption | omega | (simp only [lenS, lenT, UInt64.reduceToNat]; try omega))) only [↓S0, S1, Try.fx, uPO_1, Nat.reduceAdd, Nat.reducePow, Int.reducePow, Nat.reduceBEq, ↓reduceIte, UInt8.reduceToNat, UInt16.reduceToNat, UInt32.reduceToNat, UInt64.reduceToNat, Int.reduceToNat]))
        exact CutM.mk () trivial rfl rfl
    · intro u ju hu
      simp only [allF_s, allF_0, pin, setF_0, setF_s, Nat.reduceAdd]
      clear u hu
      have hcm : ∀ w', Hp w ((b5, Obj.cells (comC c.tree p c.text).toArray 27 (0, 0)) :: (b7, Obj.cells #[vi kB, vs tB] 31 (0, 0)) :: (b9, Obj.cells #[vi (if entsOk Z then 2 else 0), vs (if entsOk Z then treeB Z else [])] 31 (0, 0)) :: (b11, Obj.cells #[vi (if comOk c then 3 else 0), vs (if comOk c then comB c else [])] 31 (0, 0)) :: J2) w' → ComS w' (.agg (comC c.tree p c.text).toArray) c := fun w' hw' => hc.oldN hw' hNe
      ((try with_reducible refine Cw.go [] ?_); (try simp (disch := (first | assumption | omega | (simp only [lenS, lenT, UInt64.reduceToNat]; try omega))) only [↓S0, S1, Try.fx, uPO_1, Nat.reduceAdd, Nat.reducePow, Int.reducePow, Nat.reduceBEq, ↓reduceIte, UInt8.reduceToNat, UInt16.reduceToNat, UInt32.reduceToNat, UInt64.reduceToNat, Int.reduceToNat]))
      refine Cw.regionS [b5, b11] [2, 3, 0, 1, 4, 5, 6, 7, 8, 9, 10, 11, 12, 13, 14, 15, 16, 17, 18, 19, 20, 21, 22, 24, 23, 25, 26, 27, 28] [] (by kernel_rfl) (by kernel_rfl) (by kernel_rfl) ?_
      simp only [nl_cons, ↓pickL_nil, ↓pickL_cons, ↓nthO_0, ↓nthO_s, consO_some]
      refine Ow.goQ ?_
      simp (disch := (first | assumption | omega | (simp only [lenS, lenT, UInt64.reduceToNat]; try omega))) only [↓S0, S1, Try.fx, uPO_1, Nat.reduceAdd, Nat.reducePow, Int.reducePow, Nat.reduceBEq, ↓reduceIte, UInt8.reduceToNat, UInt16.reduceToNat, UInt32.reduceToNat, UInt64.reduceToNat, Int.reduceToNat]
      refine Ow.callFV rfl Try.call16 (fun w' hw' => CommitRight_spec _ c w' (hcm w' hw') (by omega) (by omega)) ?_
      have d6 : ((0 : Int) != 0) = false := rfl
      have d8 : ((1 : Int) != 1) = false := rfl
      have d9 : ((1 : Int) == 0) = false := rfl
      have d10 : ((1 : Int) != 0) = true := rfl
      cases ho : comOk c
      · have d7 : (!((0 : Int) == 0 && ([] : List UInt8) == [])) = false := rfl
        refine Ow.goQ ?_
        simp (disch := (first | assumption | omega | (simp only [lenS, lenT, UInt64.reduceToNat]; try omega))) only [↓S0, S1, Try.fx, uPO_1, Nat.reduceAdd, Nat.reducePow, Int.reducePow, Nat.reduceBEq, ↓reduceIte, UInt8.reduceToNat, UInt16.reduceToNat, UInt32.reduceToNat, UInt64.reduceToNat, Int.reduceToNat, d6, d8, d9, d10, Bool.not_true]
        refine Ow.build (obV 0 []) rfl build_ob0 ?_
        refine Ow.goQ ?_
        simp (disch := (first | assumption | omega | (simp only [lenS, lenT, UInt64.reduceToNat]; try omega))) only [↓S0, S1, Try.fx, uPO_1, Nat.reduceAdd, Nat.reducePow, Int.reducePow, Nat.reduceBEq, ↓reduceIte, UInt8.reduceToNat, UInt16.reduceToNat, UInt32.reduceToNat, UInt64.reduceToNat, Int.reduceToNat, d6, d7, d8, d9, d10, Bool.not_true]
        ((try with_reducible refine Cw.go [] ?_); (try simp (disch := (first | assumption | omega | (simp only [lenS, lenT, UInt64.reduceToNat]; try omega))) only [↓S0, S1, Try.fx, uPO_1, Nat.reduceAdd, Nat.reducePow, Int.reducePow, Nat.reduceBEq, ↓reduceIte, UInt8.reduceToNat, UInt16.reduceToNat, UInt32.reduceToNat, UInt64.reduceToNat, Int.reduceToNat]))
        refine Ow.callFV rfl Try.call8 (fun w' hw' => alive_spec w') ?_
        refine Ow.go rfl ?_
        simp (disch := (first | assumption | omega | (simp only [lenS, lenT, UInt64.reduceToNat]; try omega))) only [↓S0, S1, Try.fx, uPO_1, Nat.reduceAdd, Nat.reducePow, Int.reducePow, Nat.reduceBEq, ↓reduceIte, UInt8.reduceToNat, UInt16.reduceToNat, UInt32.reduceToNat, UInt64.reduceToNat, Int.reduceToNat]
        ((try with_reducible refine Cw.go [] ?_); (try simp (disch := (first | assumption | omega | (simp only [lenS, lenT, UInt64.reduceToNat]; try omega))) only [↓S0, S1, Try.fx, uPO_1, Nat.reduceAdd, Nat.reducePow, Int.reducePow, Nat.reduceBEq, ↓reduceIte, UInt8.reduceToNat, UInt16.reduceToNat, UInt32.reduceToNat, UInt64.reduceToNat, Int.reduceToNat]))
        simp only [ho, Bool.false_eq_true, ↓reduceIte] at hNe
        refine ⟨_, (by simp (disch := (first | assumption | omega | (simp only [lenS, lenT, UInt64.reduceToNat]; try omega))) only [↓S0, S1, Try.fx, uPO_1, Nat.reduceAdd, Nat.reducePow, Int.reducePow, Nat.reduceBEq, ↓reduceIte, UInt8.reduceToNat, UInt16.reduceToNat, UInt32.reduceToNat, UInt64.reduceToNat, Int.reduceToNat]; rfl), hNe, ?_⟩
        rfl
      · simp only [ho, ↓reduceIte] at hcm hNe
        refine Ow.goQ ?_
        simp (disch := (first | assumption | omega | (simp only [lenS, lenT, UInt64.reduceToNat]; try omega))) only [↓S0, S1, Try.fx, uPO_1, Nat.reduceAdd, Nat.reducePow, Int.reducePow, Nat.reduceBEq, ↓reduceIte, UInt8.reduceToNat, UInt16.reduceToNat, UInt32.reduceToNat, UInt64.reduceToNat, Int.reduceToNat, d6, d8, d9, d10, Bool.not_true]
        refine Ow.callFV rfl Try.call17 (fun w' hw' => CommitBody_spec _ c w' (hcm w' hw') (by omega) (by omega)) ?_
        have d7 : (!((3 : Int) == 3 && comB c == comB c)) = false := by simp
        refine Ow.goQ ?_
        simp (disch := (first | assumption | omega | (simp only [lenS, lenT, UInt64.reduceToNat]; try omega))) only [↓S0, S1, Try.fx, uPO_1, Nat.reduceAdd, Nat.reducePow, Int.reducePow, Nat.reduceBEq, ↓reduceIte, UInt8.reduceToNat, UInt16.reduceToNat, UInt32.reduceToNat, UInt64.reduceToNat, Int.reduceToNat, d6, d8, d9, d10, Bool.not_true]
        refine Ow.build (obV 3 (comB c)) rfl (build_ob2 3 _) ?_
        refine Ow.goQ ?_
        simp (disch := (first | assumption | omega | (simp only [lenS, lenT, UInt64.reduceToNat]; try omega))) only [↓S0, S1, Try.fx, uPO_1, Nat.reduceAdd, Nat.reducePow, Int.reducePow, Nat.reduceBEq, ↓reduceIte, UInt8.reduceToNat, UInt16.reduceToNat, UInt32.reduceToNat, UInt64.reduceToNat, Int.reduceToNat, d6, d7, d8, d9, d10, Bool.not_true]
        ((try with_reducible refine Cw.go [] ?_); (try simp (disch := (first | assumption | omega | (simp only [lenS, lenT, UInt64.reduceToNat]; try omega))) only [↓S0, S1, Try.fx, uPO_1, Nat.reduceAdd, Nat.reducePow, Int.reducePow, Nat.reduceBEq, ↓reduceIte, UInt8.reduceToNat, UInt16.reduceToNat, UInt32.reduceToNat, UInt64.reduceToNat, Int.reduceToNat]))
        refine Ow.callFV rfl Try.call8 (fun w' hw' => alive_spec w') ?_
        refine Ow.go rfl ?_
        simp (disch := (first | assumption | omega | (simp only [lenS, lenT, UInt64.reduceToNat]; try omega))) only [↓S0, S1, Try.fx, uPO_1, Nat.reduceAdd, Nat.reducePow, Int.reducePow, Nat.reduceBEq, ↓reduceIte, UInt8.reduceToNat, UInt16.reduceToNat, UInt32.reduceToNat, UInt64.reduceToNat, Int.reduceToNat]
        ((try with_reducible refine Cw.go [] ?_); (try simp (disch := (first | assumption | omega | (simp only [lenS, lenT, UInt64.reduceToNat]; try omega))) only [↓S0, S1, Try.fx, uPO_1, Nat.reduceAdd, Nat.reducePow, Int.reducePow, Nat.reduceBEq, ↓reduceIte, UInt8.reduceToNat, UInt16.reduceToNat, UInt32.reduceToNat, UInt64.reduceToNat, Int.reduceToNat]))
        refine ⟨_, (by simp (disch := (first | assumption | omega | (simp only [lenS, lenT, UInt64.reduceToNat]; try omega))) only [↓S0, S1, Try.fx, uPO_1, Nat.reduceAdd, Nat.reducePow, Int.reducePow, Nat.reduceBEq, ↓reduceIte, UInt8.reduceToNat, UInt16.reduceToNat, UInt32.reduceToNat, UInt64.reduceToNat, Int.reduceToNat]; rfl), hNe, ?_⟩
        rfl
end Go.Proofs
end
section
open Go Go.Proofs Go.Sx Go.StP
namespace Go.Proofs
set_option maxRecDepth 10000
set_option maxHeartbeats 1000000
set_option linter.unusedSimpArgs false
/-! ### What is told -/
theorem entsE_ok {Z : List EntL} (h : entsOk Z = true) : (entsE (treeB Z)).1 = Z := by
  have hs := entsOk_short h
  rw [entsE_treeB fun x hx => by have := hs.2 x hx; omega]
theorem entOk_of {Z : List EntL} (h : entsOk Z = true) {i : Nat} (hi : i < Z.length) : entOk Z i = true := by
  unfold entsOk at h
  simp only [Bool.and_eq_true, List.all_eq_true, List.mem_range] at h
  exact h.2 i hi
theorem entLt_of {Z : List EntL} (h : entsOk Z = true) {i : Nat} (hi : i < Z.length) (h0 : 0 < i) : Op.bytesLess (Z.getD (i - 1) ent0).name (Z.getD i ent0).name = true := by
  have h1 := entOk_of h hi
  unfold entOk at h1
  have e0 : (i == 0) = false := beq_eq_false_iff_ne.2 (by omega)
  rw [e0, Bool.false_or] at h1
  simp only [Bool.and_eq_true] at h1
  exact h1.2
theorem comE_ok {c : ComL} (h : comOk c = true) : (comE (comB c)).1 = c := by
  have hs := comOk_short h
  rw [comE_comB hs.1 hs.2]
theorem comEq_self (c : ComL) : comEq c c = true := by unfold comEq; simp
def inE (x : EntL) (Z : List EntL) : Bool := Z.any fun y => (y.name == x.name) && (y.kind == x.kind) && (y.id.l == x.id.l)
theorem inE_take {x : EntL} {Z : List EntL} {k : Nat} (hk : k < Z.length) : inE x (Z.take (k + 1)) = (inE x (Z.take k) || ((Z.getD k ent0).name == x.name && (Z.getD k ent0).kind == x.kind && (Z.getD k ent0).id.l == x.id.l)) := by
  unfold inE
  rw [List.take_succ_eq_append_getElem hk, List.any_append, List.getD_eq_getElem?_getD, List.getElem?_eq_getElem hk]
  simp
theorem inE_mem {x : EntL} {Z : List EntL} (h : x ∈ Z) : inE x Z = true := by
  unfold inE
  rw [List.any_eq_true]
  exact ⟨x, h, by simp⟩
theorem ix_pred {v : Value} {n : Nat} {k : Nat} {a : Bool} {m : Nat} {b c : Nat} (hv : v = vsl b 0 n c) (hk : k < n) (h0 : 0 < k) : indexAddrV (.sl (a, m)) v (some ((k : Int) - 1)) = some (vp b ((k - 1) * m)) := by
  subst hv
  rw [show (k : Int) - 1 = ((k - 1 : Nat) : Int) by omega, indexAddr_sl _ _ _ _ _ _ (by omega)]
  simp
theorem load_entN {rest : List Value} {Z : List EntL} (k : Nat) (hk : k < Z.length) (n : Nat) : loadV (some (false, n)) (some (entO rest Z)) (k * 34) = some (vs (Z.getD k ent0).name) := by
  obtain ⟨A, C, e, hA, -⟩ := row_split (z := ent0) (rest := rest) entC_len hk
  show loadV (some (false, n)) (some (.cells ((Z.map entC).flatten ++ rest).toArray 45 (0, 0))) (k * 34) = _
  rw [e]
  generalize Z.getD k ent0 = x
  unfold entC
  simp only [List.append_assoc]
  exact load_one A _ (vs x.name) n _ _ hA
structure TlG where
  k : Nat
  b : Bool
set_option linter.defProp false
def uPP_1 := And.intro (And.intro (And.intro (And.intro (@load_ob) (And.intro (@load_ob0) (@load_ob1))) (And.intro (@store_ob) (And.intro (@Sx.tup2_0) (@Sx.tup2_1)))) (And.intro (And.intro (@load_com0) (And.intro (@load_com1) (@load_com2))) (And.intro (@load_com) (And.intro (@cells_com) (@load_ent))))) (And.intro (And.intro (And.intro (@load_ent0) (And.intro (@cells_ent) (@eqOb))) (And.intro (@neOb) (And.intro (@eqBo) (@neBo)))) (And.intro (And.intro (@eqEnt) (And.intro (@Bool.and_true) (@Bool.true_and))) (And.intro (And.intro (@Bool.and_false) (@Bool.false_and)) (And.intro (@rdIn_v8) (@rdIn_vi)))))
theorem ObjectTells_spec (w : World) (v : Value) (l : List EntL) (hl : EntS w v l) (vc : Value) (c : ComL) (hc : ComS w vc c) : Rets Try.prog 5 #[v, vc] w (fun v D => v = .bool true ∧ D = []) := by
  obtain ⟨p, rfl, hp⟩ := id hc
  have lnp := hp.len
  have lnl := hl.len
  obtain ⟨b, off, arr, E, fz, hr⟩ := hl.row
  refine Rets.enterV Try.func5 rfl (rs := [.tmp 4]) Try.results5 Try.ntmps5 ?_
  simp only [List.size_toArray, List.length_cons, List.length_nil, Nat.reduceAdd, Nat.reduceSub, List.replicate_succ, List.replicate_zero, List.cons_append, List.nil_append]
  ((try with_reducible refine Cw.go [1000006] ?_); (try simp (disch := (first | assumption | omega | (simp only [lenS, lenT, UInt64.reduceToNat]; try omega))) only [↓S0, S1, Try.fx, uPP_1, Nat.reduceAdd, Nat.reducePow, Int.reducePow, Nat.reduceBEq, ↓reduceIte, UInt8.reduceToNat, UInt16.reduceToNat, UInt32.reduceToNat, UInt64.reduceToNat, Int.reduceToNat]))
  refine Ow.box rfl rfl fun b3 hb3 hw3 => ?_
  simp only [ev_tmp, getF_0, getF_s, cells_com, List.nil_append]
  refine Ow.go rfl ?_
  simp (disch := (first | assumption | omega | (simp only [lenS, lenT, UInt64.reduceToNat]; try omega))) only [↓S0, S1, Try.fx, uPP_1, Nat.reduceAdd, Nat.reducePow, Int.reducePow, Nat.reduceBEq, ↓reduceIte, UInt8.reduceToNat, UInt16.reduceToNat, UInt32.reduceToNat, UInt64.reduceToNat, Int.reduceToNat]
  refine Ow.callFV rfl Try.call8 (fun w' hw' => alive_spec w') ?_
  refine Ow.go rfl ?_
  simp (disch := (first | assumption | omega | (simp only [lenS, lenT, UInt64.reduceToNat]; try omega))) only [↓S0, S1, Try.fx, uPP_1, Nat.reduceAdd, Nat.reducePow, Int.reducePow, Nat.reduceBEq, ↓reduceIte, UInt8.reduceToNat, UInt16.reduceToNat, UInt32.reduceToNat, UInt64.reduceToNat, Int.reduceToNat]
  refine Ow.callFV rfl Try.call9 (fun w' hw' => great_spec v l w' (hl.oldN hw' ⟨hw3, trivial⟩)) ?_
  cases hg : greatE l
  case true =>
    refine Ow.go rfl ?_
    simp (disch := (first | assumption | omega | (simp only [lenS, lenT, UInt64.reduceToNat]; try omega))) only [↓S0, S1, Try.fx, uPP_1, Nat.reduceAdd, Nat.reducePow, Int.reducePow, Nat.reduceBEq, ↓reduceIte, UInt8.reduceToNat, UInt16.reduceToNat, UInt32.reduceToNat, UInt64.reduceToNat, Int.reduceToNat]
    refine Ow.callFV rfl Try.call8 (fun w' hw' => alive_spec w') ?_
    refine Ow.go rfl ?_
    simp (disch := (first | assumption | omega | (simp only [lenS, lenT, UInt64.reduceToNat]; try omega))) only [↓S0, S1, Try.fx, uPP_1, Nat.reduceAdd, Nat.reducePow, Int.reducePow, Nat.reduceBEq, ↓reduceIte, UInt8.reduceToNat, UInt16.reduceToNat, UInt32.reduceToNat, UInt64.reduceToNat, Int.reduceToNat]
    ((try with_reducible refine Cw.go [] ?_); (try simp (disch := (first | assumption | omega | (simp only [lenS, lenT, UInt64.reduceToNat]; try omega))) only [↓S0, S1, Try.fx, uPP_1, Nat.reduceAdd, Nat.reducePow, Int.reducePow, Nat.reduceBEq, ↓reduceIte, UInt8.reduceToNat, UInt16.reduceToNat, UInt32.reduceToNat, UInt64.reduceToNat, Int.reduceToNat]))
    refine ⟨_, (by simp (disch := (first | assumption | omega | (simp only [lenS, lenT, UInt64.reduceToNat]; try omega))) only [↓S0, S1, Try.fx, uPP_1, Nat.reduceAdd, Nat.reducePow, Int.reducePow, Nat.reduceBEq, ↓reduceIte, UInt8.reduceToNat, UInt16.reduceToNat, UInt32.reduceToNat, UInt64.reduceToNat, Int.reduceToNat]; rfl), ⟨hw3, trivial⟩, ?_⟩
    rfl
  obtain ⟨hl60, hl100⟩ := greatE_no hg
  by_cases h7 : 20 < c.par.length
  · have d2 : decide ((20 : Int) < (c.par.length : Int)) = true := decide_eq_true (by omega)
    refine Ow.go rfl ?_
    simp (disch := (first | assumption | omega | (simp only [lenS, lenT, UInt64.reduceToNat]; try omega))) only [↓S0, S1, Try.fx, uPP_1, Nat.reduceAdd, Nat.reducePow, Int.reducePow, Nat.reduceBEq, ↓reduceIte, UInt8.reduceToNat, UInt16.reduceToNat, UInt32.reduceToNat, UInt64.reduceToNat, Int.reduceToNat, lnp, d2]
    refine Ow.callFV rfl Try.call8 (fun w' hw' => alive_spec w') ?_
    refine Ow.go rfl ?_
    simp (disch := (first | assumption | omega | (simp only [lenS, lenT, UInt64.reduceToNat]; try omega))) only [↓S0, S1, Try.fx, uPP_1, Nat.reduceAdd, Nat.reducePow, Int.reducePow, Nat.reduceBEq, ↓reduceIte, UInt8.reduceToNat, UInt16.reduceToNat, UInt32.reduceToNat, UInt64.reduceToNat, Int.reduceToNat]
    ((try with_reducible refine Cw.go [] ?_); (try simp (disch := (first | assumption | omega | (simp only [lenS, lenT, UInt64.reduceToNat]; try omega))) only [↓S0, S1, Try.fx, uPP_1, Nat.reduceAdd, Nat.reducePow, Int.reducePow, Nat.reduceBEq, ↓reduceIte, UInt8.reduceToNat, UInt16.reduceToNat, UInt32.reduceToNat, UInt64.reduceToNat, Int.reduceToNat]))
    refine ⟨_, (by simp (disch := (first | assumption | omega | (simp only [lenS, lenT, UInt64.reduceToNat]; try omega))) only [↓S0, S1, Try.fx, uPP_1, Nat.reduceAdd, Nat.reducePow, Int.reducePow, Nat.reduceBEq, ↓reduceIte, UInt8.reduceToNat, UInt16.reduceToNat, UInt32.reduceToNat, UInt64.reduceToNat, Int.reduceToNat]; rfl), ⟨hw3, trivial⟩, ?_⟩
    rfl
  have d2 : decide ((20 : Int) < (c.par.length : Int)) = false := decide_eq_false (by omega)
  by_cases h8 : 300 < c.text.length
  · have d3 : decide ((300 : Int) < (c.text.length : Int)) = true := decide_eq_true (by omega)
    refine Ow.go rfl ?_
    simp (disch := (first | assumption | omega | (simp only [lenS, lenT, UInt64.reduceToNat]; try omega))) only [↓S0, S1, Try.fx, uPP_1, Nat.reduceAdd, Nat.reducePow, Int.reducePow, Nat.reduceBEq, ↓reduceIte, UInt8.reduceToNat, UInt16.reduceToNat, UInt32.reduceToNat, UInt64.reduceToNat, Int.reduceToNat, lnp, d2, d3]
    refine Ow.callFV rfl Try.call8 (fun w' hw' => alive_spec w') ?_
    refine Ow.go rfl ?_
    simp (disch := (first | assumption | omega | (simp only [lenS, lenT, UInt64.reduceToNat]; try omega))) only [↓S0, S1, Try.fx, uPP_1, Nat.reduceAdd, Nat.reducePow, Int.reducePow, Nat.reduceBEq, ↓reduceIte, UInt8.reduceToNat, UInt16.reduceToNat, UInt32.reduceToNat, UInt64.reduceToNat, Int.reduceToNat]
    ((try with_reducible refine Cw.go [] ?_); (try simp (disch := (first | assumption | omega | (simp only [lenS, lenT, UInt64.reduceToNat]; try omega))) only [↓S0, S1, Try.fx, uPP_1, Nat.reduceAdd, Nat.reducePow, Int.reducePow, Nat.reduceBEq, ↓reduceIte, UInt8.reduceToNat, UInt16.reduceToNat, UInt32.reduceToNat, UInt64.reduceToNat, Int.reduceToNat]))
    refine ⟨_, (by simp (disch := (first | assumption | omega | (simp only [lenS, lenT, UInt64.reduceToNat]; try omega))) only [↓S0, S1, Try.fx, uPP_1, Nat.reduceAdd, Nat.reducePow, Int.reducePow, Nat.reduceBEq, ↓reduceIte, UInt8.reduceToNat, UInt16.reduceToNat, UInt32.reduceToNat, UInt64.reduceToNat, Int.reduceToNat]; rfl), ⟨hw3, trivial⟩, ?_⟩
    rfl
  have d3 : decide ((300 : Int) < (c.text.length : Int)) = false := decide_eq_false (by omega)
  refine Ow.go rfl ?_
  simp (disch := (first | assumption | omega | (simp only [lenS, lenT, UInt64.reduceToNat]; try omega))) only [↓S0, S1, Try.fx, uPP_1, Nat.reduceAdd, Nat.reducePow, Int.reducePow, Nat.reduceBEq, ↓reduceIte, UInt8.reduceToNat, UInt16.reduceToNat, UInt32.reduceToNat, UInt64.reduceToNat, Int.reduceToNat, lnp, d2, d3]
  refine Ow.callC rfl rfl Try.call11 (fun w' hw' => TreeO_spec v l w' (hl.oldN hw' ⟨hw3, trivial⟩) (by omega) (fun e he => by have := hl100 e he; omega)) (fun B1 v1 D1 hA1 hB1 hN1 hS1 => ?_)
  obtain ⟨Z, hZ, rfl⟩ := hS1
  obtain ⟨t1, t2, t3⟩ := made_tree Z
  rw [t1, t2, t3]
  have hZl : Z.length = l.length := hZ.1
  refine Ow.go rfl ?_
  simp (disch := (first | assumption | omega | (simp only [lenS, lenT, UInt64.reduceToNat]; try omega))) only [↓S0, S1, Try.fx, uPP_1, Nat.reduceAdd, Nat.reducePow, Int.reducePow, Nat.reduceBEq, ↓reduceIte, UInt8.reduceToNat, UInt16.reduceToNat, UInt32.reduceToNat, UInt64.reduceToNat, Int.reduceToNat]
  refine Ow.alloc rfl rfl zrOb fun b5 hb5 hw5 => ?_
  simp only [cells_agg, List.nil_append, List.cons_append]
  have h35 : b3 < b5 := above_to hb5 (by simp [keys])
  have hD1 : New w.heap.size D1 := New.mono hB1 hN1
  refine Ow.permL (M := (b3, Obj.cells (comC c.tree p c.text).toArray 27 (0, 0)) :: (b5, Obj.cells #[vi 0, vs []] 31 (0, 0)) :: D1) (by classical exact List.perm_iff_count.2 fun a => by simp only [List.count_append, List.count_cons, List.count_nil] <;> omega) ?_
  refine Ow.go rfl ?_
  simp (disch := (first | assumption | omega | (simp only [lenS, lenT, UInt64.reduceToNat]; try omega))) only [↓S0, S1, Try.fx, uPP_1, Nat.reduceAdd, Nat.reducePow, Int.reducePow, Nat.reduceBEq, ↓reduceIte, UInt8.reduceToNat, UInt16.reduceToNat, UInt32.reduceToNat, UInt64.reduceToNat, Int.reduceToNat]
  refine Cw.cut (G := Heap) 121 (fun g => [(3, vp b3 0), (4, .bool false)]) (fun g => (b3, Obj.cells (comC c.tree p c.text).toArray 27 (0, 0)) :: g) (fun g => New w.heap.size g) ?_ ?_
  · cases ho : entsOk Z
    · have e : ((1 : Int) == 0) = false := rfl
      ((try with_reducible refine Cw.go [] ?_); (try simp (disch := (first | assumption | omega | (simp only [lenS, lenT, UInt64.reduceToNat]; try omega))) only [↓S0, S1, Try.fx, uPP_1, Nat.reduceAdd, Nat.reducePow, Int.reducePow, Nat.reduceBEq, ↓reduceIte, UInt8.reduceToNat, UInt16.reduceToNat, UInt32.reduceToNat, UInt64.reduceToNat, Int.reduceToNat, e]))
      exact CutM.mk ((b5, Obj.cells #[vi 0, vs []] 31 (0, 0)) :: D1) ⟨hw5, hD1⟩ rfl rfl
    · ((try with_reducible refine Cw.go [] ?_); (try simp (disch := (first | assumption | omega | (simp only [lenS, lenT, UInt64.reduceToNat]; try omega))) only [↓S0, S1, Try.fx, uPP_1, Nat.reduceAdd, Nat.reducePow, Int.reducePow, Nat.reduceBEq, ↓reduceIte, UInt8.reduceToNat, UInt16.reduceToNat, UInt32.reduceToNat, UInt64.reduceToNat, Int.reduceToNat]))
      refine Ow.callC rfl rfl Try.call20 (fun w' hw' => EntriesO_spec 2 (treeB Z) w') (fun B2 v2 D2 hA2 hB2 hN2 hS2 => ?_)
      unfold EntsS at hS2
      rw [if_pos ⟨RdOk_tree ho, rfl⟩, entsE_ok ho, hZl] at hS2
      obtain ⟨vm, rfl, hG⟩ := hS2
      have lnm := hG.len
      have hD2 : New w.heap.size D2 := New.mono hB2 hN2
      have e0 : ((0 : Int) != 0) = false := rfl
      have e1 : ((l.length : Int) != (l.length : Int)) = false := by simp
      refine Ow.go rfl ?_
      simp (disch := (first | assumption | omega | (simp only [lenS, lenT, UInt64.reduceToNat]; try omega))) only [↓S0, S1, Try.fx, uPP_1, Nat.reduceAdd, Nat.reducePow, Int.reducePow, Nat.reduceBEq, ↓reduceIte, UInt8.reduceToNat, UInt16.reduceToNat, UInt32.reduceToNat, UInt64.reduceToNat, Int.reduceToNat]
      ((try with_reducible refine Cw.go [] ?_); (try simp (disch := (first | assumption | omega | (simp only [lenS, lenT, UInt64.reduceToNat]; try omega))) only [↓S0, S1, Try.fx, uPP_1, Nat.reduceAdd, Nat.reducePow, Int.reducePow, Nat.reduceBEq, ↓reduceIte, UInt8.reduceToNat, UInt16.reduceToNat, UInt32.reduceToNat, UInt64.reduceToNat, Int.reduceToNat, e0, e1, lnm, lnl]))
      refine Cw.permL (M := (b3, Obj.cells (comC c.tree p c.text).toArray 27 (0, 0)) :: (b5, Obj.cells #[vi 2, vs (treeB Z)] 31 (0, 0)) :: (D2 ++ D1)) (by classical exact List.perm_iff_count.2 fun a => by simp only [List.count_append, List.count_cons, List.count_nil] <;> omega) ?_
      refine Cw.loopG (G := Nat) [54, 55, 56, 57, 10, 11, 60, 61, 62, 63, 66, 67, 68, 69, 70, 71, 72, 73, 74, 75, 76, 77, 64, 65, 78, 79, 80, 81, 82, 83, 84, 85, 86, 87, 88, 89, 90, 91, 92, 93, 94, 95, 96, 97, 4, 58, 59, 9] (fun g => [(4, .bool false), (9, vi g)]) (fun g => (b3, Obj.cells (comC c.tree p c.text).toArray 27 (0, 0)) :: (b5, Obj.cells #[vi 2, vs (treeB Z)] 31 (0, 0)) :: (D2 ++ D1)) (fun g => g ≤ l.length) (fun g => l.length - g) 0 rfl rfl ?_ ?_
      · exact Nat.zero_le _
      · intro i ji hi
        simp only [overFrom, pin, setF_0, setF_s, List.contains_cons, List.contains_nil, Nat.reduceBEq, Bool.or_false, Bool.false_or, Bool.or_true, Bool.true_or, Nat.reduceAdd, ↓reduceIte, Bool.false_eq_true]
        have hi' : i ≤ l.length := hi
        clear hi
        by_cases hi : i < l.length
        · have hZi : i < Z.length := by omega
          have hGz : Gr D2 45 34 vm Z.length (Z.map entC).flatten := by rw [hZl]; exact hG
          obtain ⟨cb, cc, rest, hvm, hlc⟩ := Gr.rows hGz (by omega)
          have hcb := hN2.le cb (key_of_look hlc)
          have hc3 : b3 < cb := by have := above_to hA2 (b := b3) (by simp [keys]); omega
          have hc5 : b5 < cb := by have := above_to hA2 (b := b5) (by simp [keys]); omega
          have rdc : readB w (D2 ++ D1) cb = some (entO rest Z) := read_look (look_app hlc)
          have hbl := hr.lt (by omega)
          have rdl : readB w (D2 ++ D1) b = some (.cells arr E fz) := (read_none ((hD2.app hD1).not hbl)).trans (hr.has (by omega))
          have il := hr.idx true i hi
          have ll := row_ent hr hi
          have hmem : l.getD i ent0 ∈ Z := (StP.St.mem hZ.2.2 _).2 (getD_mem hi)
          ((try with_reducible refine Cw.go [] ?_); (try simp (disch := (first | assumption | omega | (simp only [lenS, lenT, UInt64.reduceToNat]; try omega))) only [↓S0, S1, Try.fx, uPP_1, Nat.reduceAdd, Nat.reducePow, Int.reducePow, Nat.reduceBEq, ↓reduceIte, UInt8.reduceToNat, UInt16.reduceToNat, UInt32.reduceToNat, UInt64.reduceToNat, Int.reduceToNat, lnl]))
          refine Cw.loopG (G := TlG) [60, 61, 62, 63, 66, 67, 68, 69, 70, 71, 72, 73, 74, 75, 76, 77, 10, 64, 65, 11] (fun q => [(10, .bool q.b), (11, vi q.k)]) (fun q => (b3, Obj.cells (comC c.tree p c.text).toArray 27 (0, 0)) :: (b5, Obj.cells #[vi 2, vs (treeB Z)] 31 (0, 0)) :: (D2 ++ D1)) (fun q => q.k ≤ l.length ∧ q.b = inE (l.getD i ent0) (Z.take q.k)) (fun q => l.length - q.k) ⟨0, false⟩ rfl rfl ?_ ?_
          · exact ⟨Nat.zero_le _, rfl⟩
          · intro q jq hq
            simp only [overFrom, pin, setF_0, setF_s, List.contains_cons, List.contains_nil, Nat.reduceBEq, Bool.or_false, Bool.false_or, Bool.or_true, Bool.true_or, Nat.reduceAdd, ↓reduceIte, Bool.false_eq_true]
            obtain ⟨k, bb⟩ := q
            simp only at hq ⊢
            obtain ⟨hk', rfl⟩ := hq
            by_cases hk : k < l.length
            · have hkZ : k < Z.length := by omega
              have ldk := load_entR (rest := rest) k hkZ
              have hin := inE_take (x := l.getD i ent0) hkZ
              subst hvm
              ((try with_reducible refine Cw.go [] ?_); (try simp (disch := (first | assumption | omega | (simp only [lenS, lenT, UInt64.reduceToNat]; try omega))) only [↓S0, S1, Try.fx, uPP_1, Nat.reduceAdd, Nat.reducePow, Int.reducePow, Nat.reduceBEq, ↓reduceIte, UInt8.reduceToNat, UInt16.reduceToNat, UInt32.reduceToNat, UInt64.reduceToNat, Int.reduceToNat, lnm]))
              refine Cw.regionS [cb, b] [0, 1, 2, 3, 4, 6, 7, 8, 5, 9, 10, 11, 12] [] (by kernel_rfl) (by kernel_rfl) (by kernel_rfl) ?_
              simp only [nl_cons, ↓pickL_nil, ↓pickL_cons, ↓nthO_0, ↓nthO_s, consO_some]
              cases h1 : inE (l.getD i ent0) (Z.take k)
              · rw [h1, Bool.false_or] at hin
                refine Ow.goQ ?_
                simp (disch := (first | assumption | omega | (simp only [lenS, lenT, UInt64.reduceToNat]; try omega))) only [↓S0, S1, Try.fx, uPP_1, Nat.reduceAdd, Nat.reducePow, Int.reducePow, Nat.reduceBEq, ↓reduceIte, UInt8.reduceToNat, UInt16.reduceToNat, UInt32.reduceToNat, UInt64.reduceToNat, Int.reduceToNat, rdc, rdl, ldk, il, ll]
                exact Again.mk ⟨k + 1, _⟩ (by show l.length - (k + 1) < l.length - k; omega) ⟨by show k + 1 ≤ l.length; omega, hin.symm⟩ rfl rfl
              · rw [h1, Bool.true_or] at hin
                refine Ow.goQ ?_
                simp (disch := (first | assumption | omega | (simp only [lenS, lenT, UInt64.reduceToNat]; try omega))) only [↓S0, S1, Try.fx, uPP_1, Nat.reduceAdd, Nat.reducePow, Int.reducePow, Nat.reduceBEq, ↓reduceIte, UInt8.reduceToNat, UInt16.reduceToNat, UInt32.reduceToNat, UInt64.reduceToNat, Int.reduceToNat]
                exact Again.mk ⟨k + 1, true⟩ (by show l.length - (k + 1) < l.length - k; omega) ⟨by show k + 1 ≤ l.length; omega, hin.symm⟩ rfl rfl
            · obtain rfl : k = l.length := by omega
              have hT : inE (l.getD i ent0) (Z.take l.length) = true := by rw [← hZl, List.take_length]; exact inE_mem hmem
              rw [hT]
              ((try with_reducible refine Cw.go [] ?_); (try simp (disch := (first | assumption | omega | (simp only [lenS, lenT, UInt64.reduceToNat]; try omega))) only [↓S0, S1, Try.fx, uPP_1, Nat.reduceAdd, Nat.reducePow, Int.reducePow, Nat.reduceBEq, ↓reduceIte, UInt8.reduceToNat, UInt16.reduceToNat, UInt32.reduceToNat, UInt64.reduceToNat, Int.reduceToNat, lnm]))
              by_cases h0 : i = 0
              · have d4 : decide ((0 : Int) < (i : Int)) = false := decide_eq_false (by omega)
                refine Cw.regionS [cb] [0, 1, 2, 3, 4, 5, 6, 7, 8, 9, 10, 12, 13, 14, 15, 11, 16, 17, 18, 19] [] (by kernel_rfl) (by kernel_rfl) (by kernel_rfl) ?_
                simp only [nl_cons, ↓pickL_nil, ↓pickL_cons, ↓nthO_0, ↓nthO_s, consO_some]
                refine Ow.goQ ?_
                simp (disch := (first | assumption | omega | (simp only [lenS, lenT, UInt64.reduceToNat]; try omega))) only [↓S0, S1, Try.fx, uPP_1, Nat.reduceAdd, Nat.reducePow, Int.reducePow, Nat.reduceBEq, ↓reduceIte, UInt8.reduceToNat, UInt16.reduceToNat, UInt32.reduceToNat, UInt64.reduceToNat, Int.reduceToNat, d4]
                ((try with_reducible refine Cw.go [] ?_); (try simp (disch := (first | assumption | omega | (simp only [lenS, lenT, UInt64.reduceToNat]; try omega))) only [↓S0, S1, Try.fx, uPP_1, Nat.reduceAdd, Nat.reducePow, Int.reducePow, Nat.reduceBEq, ↓reduceIte, UInt8.reduceToNat, UInt16.reduceToNat, UInt32.reduceToNat, UInt64.reduceToNat, Int.reduceToNat]))
                exact Again.mk (i + 1) (by omega) (by omega) rfl rfl
              · have d4 : decide ((0 : Int) < (i : Int)) = true := decide_eq_true (by omega)
                have ip := ix_pred (a := true) (m := 34) hvm (show i < Z.length by omega) (by omega)
                have ldi := load_entR (rest := rest) i hZi
                have n0 : ∀ n, loadV (some (false, n)) (some (entO rest Z)) (i * 34) = some (vs (Z.getD i ent0).name) := fun n => load_entN i hZi n
                have n1 : ∀ n, loadV (some (false, n)) (some (entO rest Z)) ((i - 1) * 34) = some (vs (Z.getD (i - 1) ent0).name) := fun n => load_entN (i - 1) (by omega) n
                have hlt := entLt_of ho hZi (by omega)
                rw [hvm] at ip
                subst hvm
                refine Cw.regionS [cb] [0, 1, 2, 3, 4, 5, 6, 7, 8, 9, 10, 12, 13, 14, 15, 11, 16, 17, 18, 19] [] (by kernel_rfl) (by kernel_rfl) (by kernel_rfl) ?_
                simp only [nl_cons, ↓pickL_nil, ↓pickL_cons, ↓nthO_0, ↓nthO_s, consO_some]
                refine Ow.goQ ?_
                simp (disch := (first | assumption | omega | (simp only [lenS, lenT, UInt64.reduceToNat]; try omega))) only [↓S0, S1, Try.fx, uPP_1, Nat.reduceAdd, Nat.reducePow, Int.reducePow, Nat.reduceBEq, ↓reduceIte, UInt8.reduceToNat, UInt16.reduceToNat, UInt32.reduceToNat, UInt64.reduceToNat, Int.reduceToNat, d4, ip, n0, n1, rdc, hlt]
                ((try with_reducible refine Cw.go [] ?_); (try simp (disch := (first | assumption | omega | (simp only [lenS, lenT, UInt64.reduceToNat]; try omega))) only [↓S0, S1, Try.fx, uPP_1, Nat.reduceAdd, Nat.reducePow, Int.reducePow, Nat.reduceBEq, ↓reduceIte, UInt8.reduceToNat, UInt16.reduceToNat, UInt32.reduceToNat, UInt64.reduceToNat, Int.reduceToNat]))
                exact Again.mk (i + 1) (by omega) (by omega) rfl rfl
        · obtain rfl : i = l.length := by omega
          ((try with_reducible refine Cw.go [] ?_); (try simp (disch := (first | assumption | omega | (simp only [lenS, lenT, UInt64.reduceToNat]; try omega))) only [↓S0, S1, Try.fx, uPP_1, Nat.reduceAdd, Nat.reducePow, Int.reducePow, Nat.reduceBEq, ↓reduceIte, UInt8.reduceToNat, UInt16.reduceToNat, UInt32.reduceToNat, UInt64.reduceToNat, Int.reduceToNat, lnl]))
          exact CutM.mk ((b5, Obj.cells #[vi 2, vs (treeB Z)] 31 (0, 0)) :: (D2 ++ D1)) ⟨hw5, hD2.app hD1⟩ rfl rfl
  · intro G jG hG
    simp only [allF_s, allF_0, pin, setF_0, setF_s, Nat.reduceAdd]
    ((try with_reducible refine Cw.go [] ?_); (try simp (disch := (first | assumption | omega | (simp only [lenS, lenT, UInt64.reduceToNat]; try omega))) only [↓S0, S1, Try.fx, uPP_1, Nat.reduceAdd, Nat.reducePow, Int.reducePow, Nat.reduceBEq, ↓reduceIte, UInt8.reduceToNat, UInt16.reduceToNat, UInt32.reduceToNat, UInt64.reduceToNat, Int.reduceToNat]))
    refine Ow.callC rfl rfl Try.call12 (fun w' hw' => CommitO_spec _ c w' (hc.oldN hw' ⟨hw3, hG⟩) (by omega) (by omega)) (fun B2 v2 D2 hA2 hB2 hN2 hS2 => ?_)
    obtain ⟨q1, q2, q3⟩ := made_com c
    rw [q1, q2, q3] at hS2
    subst hS2
    have hD2 : New w.heap.size D2 := New.mono hB2 hN2
    refine Ow.go rfl ?_
    simp (disch := (first | assumption | omega | (simp only [lenS, lenT, UInt64.reduceToNat]; try omega))) only [↓S0, S1, Try.fx, uPP_1, Nat.reduceAdd, Nat.reducePow, Int.reducePow, Nat.reduceBEq, ↓reduceIte, UInt8.reduceToNat, UInt16.reduceToNat, UInt32.reduceToNat, UInt64.reduceToNat, Int.reduceToNat]
    refine Ow.alloc rfl rfl zrOb fun b12 hb12 hw12 => ?_
    simp only [cells_agg, List.nil_append, List.cons_append]
    have h312 : b3 < b12 := above_to hb12 (by simp [keys])
    refine Ow.permL (M := (b3, Obj.cells (comC c.tree p c.text).toArray 27 (0, 0)) :: (b12, Obj.cells #[vi 0, vs []] 31 (0, 0)) :: (G ++ D2)) (by classical exact List.perm_iff_count.2 fun a => by simp only [List.count_append, List.count_cons, List.count_nil] <;> omega) ?_
    have hJ : New w.heap.size (G ++ D2) := hG.app hD2
    generalize G ++ D2 = J at hJ ⊢
    refine Ow.go rfl ?_
    simp (disch := (first | assumption | omega | (simp only [lenS, lenT, UInt64.reduceToNat]; try omega))) only [↓S0, S1, Try.fx, uPP_1, Nat.reduceAdd, Nat.reducePow, Int.reducePow, Nat.reduceBEq, ↓reduceIte, UInt8.reduceToNat, UInt16.reduceToNat, UInt32.reduceToNat, UInt64.reduceToNat, Int.reduceToNat]
    cases ho : comOk c
    · have e : ((1 : Int) != 0) = true := rfl
      ((try with_reducible refine Cw.go [] ?_); (try simp (disch := (first | assumption | omega | (simp only [lenS, lenT, UInt64.reduceToNat]; try omega))) only [↓S0, S1, Try.fx, uPP_1, Nat.reduceAdd, Nat.reducePow, Int.reducePow, Nat.reduceBEq, ↓reduceIte, UInt8.reduceToNat, UInt16.reduceToNat, UInt32.reduceToNat, UInt64.reduceToNat, Int.reduceToNat, e]))
      refine Ow.callFV rfl Try.call8 (fun w' hw' => alive_spec w') ?_
      refine Ow.go rfl ?_
      simp (disch := (first | assumption | omega | (simp only [lenS, lenT, UInt64.reduceToNat]; try omega))) only [↓S0, S1, Try.fx, uPP_1, Nat.reduceAdd, Nat.reducePow, Int.reducePow, Nat.reduceBEq, ↓reduceIte, UInt8.reduceToNat, UInt16.reduceToNat, UInt32.reduceToNat, UInt64.reduceToNat, Int.reduceToNat]
      ((try with_reducible refine Cw.go [] ?_); (try simp (disch := (first | assumption | omega | (simp only [lenS, lenT, UInt64.reduceToNat]; try omega))) only [↓S0, S1, Try.fx, uPP_1, Nat.reduceAdd, Nat.reducePow, Int.reducePow, Nat.reduceBEq, ↓reduceIte, UInt8.reduceToNat, UInt16.reduceToNat, UInt32.reduceToNat, UInt64.reduceToNat, Int.reduceToNat]))
      refine ⟨_, (by simp (disch := (first | assumption | omega | (simp only [lenS, lenT, UInt64.reduceToNat]; try omega))) only [↓S0, S1, Try.fx, uPP_1, Nat.reduceAdd, Nat.reducePow, Int.reducePow, Nat.reduceBEq, ↓reduceIte, UInt8.reduceToNat, UInt16.reduceToNat, UInt32.reduceToNat, UInt64.reduceToNat, Int.reduceToNat]; rfl), ⟨hw3, hw12, hJ⟩, ?_⟩
      rfl
    · have e0 : ((0 : Int) != 0) = false := rfl
      ((try with_reducible refine Cw.go [] ?_); (try simp (disch := (first | assumption | omega | (simp only [lenS, lenT, UInt64.reduceToNat]; try omega))) only [↓S0, S1, Try.fx, uPP_1, Nat.reduceAdd, Nat.reducePow, Int.reducePow, Nat.reduceBEq, ↓reduceIte, UInt8.reduceToNat, UInt16.reduceToNat, UInt32.reduceToNat, UInt64.reduceToNat, Int.reduceToNat, e0]))
      refine Ow.callC rfl rfl Try.call21 (fun w' hw' => CommitsO_spec 3 (comB c) w') (fun B4 v4 D4 hA4 hB4 hN4 hS4 => ?_)
      unfold ComsS at hS4
      rw [if_pos ⟨RdOk_com ho, rfl⟩, comE_ok ho] at hS4
      obtain ⟨p2, rfl, hG4⟩ := hS4
      have hD4 : New w.heap.size D4 := New.mono hB4 hN4
      have st4 : ∀ a E, storeV (some (a, 34)) (some (.cells (comC id0 (.slice none 0 0) []).toArray E (0, 0))) 0 (.agg (comC c.tree p2 c.text).toArray) = some (.cells (comC c.tree p2 c.text).toArray E (0, 0)) := fun a E => store_com _ _ _ _ a E (by rw [List.size_toArray, comC_len]) hG4.cell.1
      refine Ow.go rfl ?_
      simp (disch := (first | assumption | omega | (simp only [lenS, lenT, UInt64.reduceToNat]; try omega))) only [↓S0, S1, Try.fx, uPP_1, Nat.reduceAdd, Nat.reducePow, Int.reducePow, Nat.reduceBEq, ↓reduceIte, UInt8.reduceToNat, UInt16.reduceToNat, UInt32.reduceToNat, UInt64.reduceToNat, Int.reduceToNat]
      refine Ow.alloc rfl rfl zrCom fun b14 hb14 hw14 => ?_
      simp only [cells_agg, List.nil_append, List.cons_append]
      have h314 : b3 < b14 := above_to hb14 (by simp [keys])
      have h1214 : b12 < b14 := above_to hb14 (by simp [keys])
      refine Ow.permL (M := (b3, Obj.cells (comC c.tree p c.text).toArray 27 (0, 0)) :: (b12, Obj.cells #[vi 3, vs (comB c)] 31 (0, 0)) :: (b14, Obj.cells (comC id0 (.slice none 0 0) []).toArray 27 (0, 0)) :: (J ++ D4)) (by classical exact List.perm_iff_count.2 fun a => by simp only [List.count_append, List.count_cons, List.count_nil] <;> omega) ?_
      have hNe : New w.heap.size ((b3, Obj.cells (comC c.tree p c.text).toArray 27 (0, 0)) :: (b12, Obj.cells #[vi 3, vs (comB c)] 31 (0, 0)) :: (b14, Obj.cells (comC c.tree p2 c.text).toArray 27 (0, 0)) :: (J ++ D4)) := ⟨hw3, hw12, hw14, hJ.app hD4⟩
      have hs2 : ∀ w', Hp w ((b3, Obj.cells (comC c.tree p c.text).toArray 27 (0, 0)) :: (b12, Obj.cells #[vi 3, vs (comB c)] 31 (0, 0)) :: (b14, Obj.cells (comC c.tree p2 c.text).toArray 27 (0, 0)) :: (J ++ D4)) w' → ComS w' (.agg (comC c.tree p2 c.text).toArray) c := fun w' hw' => ⟨p2, rfl, hG4.slM (fun b o hm => hw'.has b o (by simp [hm])) rfl rfl idLC_len'⟩
      refine Ow.go rfl ?_
      simp (disch := (first | assumption | omega | (simp only [lenS, lenT, UInt64.reduceToNat]; try omega))) only [↓S0, S1, Try.fx, uPP_1, Nat.reduceAdd, Nat.reducePow, Int.reducePow, Nat.reduceBEq, ↓reduceIte, UInt8.reduceToNat, UInt16.reduceToNat, UInt32.reduceToNat, UInt64.reduceToNat, Int.reduceToNat, st4]
      ((try with_reducible refine Cw.go [] ?_); (try simp (disch := (first | assumption | omega | (simp only [lenS, lenT, UInt64.reduceToNat]; try omega))) only [↓S0, S1, Try.fx, uPP_1, Nat.reduceAdd, Nat.reducePow, Int.reducePow, Nat.reduceBEq, ↓reduceIte, UInt8.reduceToNat, UInt16.reduceToNat, UInt32.reduceToNat, UInt64.reduceToNat, Int.reduceToNat]))
      refine Ow.callFV rfl Try.call8 (fun w' hw' => alive_spec w') ?_
      refine Ow.go rfl ?_
      simp (disch := (first | assumption | omega | (simp only [lenS, lenT, UInt64.reduceToNat]; try omega))) only [↓S0, S1, Try.fx, uPP_1, Nat.reduceAdd, Nat.reducePow, Int.reducePow, Nat.reduceBEq, ↓reduceIte, UInt8.reduceToNat, UInt16.reduceToNat, UInt32.reduceToNat, UInt64.reduceToNat, Int.reduceToNat]
      refine Ow.callFV rfl Try.call22 (fun w' hw' => SameCommit_spec _ _ c c w' (hc.oldN hw' hNe) (hs2 w' hw') (by omega) (by omega)) ?_
      rw [comEq_self]
      refine Ow.go rfl ?_
      simp (disch := (first | assumption | omega | (simp only [lenS, lenT, UInt64.reduceToNat]; try omega))) only [↓S0, S1, Try.fx, uPP_1, Nat.reduceAdd, Nat.reducePow, Int.reducePow, Nat.reduceBEq, ↓reduceIte, UInt8.reduceToNat, UInt16.reduceToNat, UInt32.reduceToNat, UInt64.reduceToNat, Int.reduceToNat]
      ((try with_reducible refine Cw.go [] ?_); (try simp (disch := (first | assumption | omega | (simp only [lenS, lenT, UInt64.reduceToNat]; try omega))) only [↓S0, S1, Try.fx, uPP_1, Nat.reduceAdd, Nat.reducePow, Int.reducePow, Nat.reduceBEq, ↓reduceIte, UInt8.reduceToNat, UInt16.reduceToNat, UInt32.reduceToNat, UInt64.reduceToNat, Int.reduceToNat]))
      refine ⟨_, (by simp (disch := (first | assumption | omega | (simp only [lenS, lenT, UInt64.reduceToNat]; try omega))) only [↓S0, S1, Try.fx, uPP_1, Nat.reduceAdd, Nat.reducePow, Int.reducePow, Nat.reduceBEq, ↓reduceIte, UInt8.reduceToNat, UInt16.reduceToNat, UInt32.reduceToNat, UInt64.reduceToNat, Int.reduceToNat]; rfl), hNe, ?_⟩
      rfl
end Go.Proofs
end
namespace Go.Sx
open Go
section
variable {α : Type} {m : Nat} {enc : α → List Value} {z : α}
theorem range_rows (hm : (enc z).length = m) (h0 : 0 < m) : ∀ c : Nat, (List.range (c * m)).map (fun x => (enc z)[x % m]!) = ((List.replicate c z).map enc).flatten
  | 0 => by simp
  | c + 1 => by
    have ih := range_rows hm h0 c
    have e : (c + 1) * m = c * m + m := Nat.succ_mul c m
    rw [e, List.range_add, List.map_append, ih, List.replicate_succ', List.map_append, List.flatten_append]
    congr 1
    simp only [List.map_cons, List.map_nil, List.flatten_cons, List.flatten_nil, List.append_nil, List.map_map]
    refine List.ext_getElem (by simp [hm]) fun i h1 h2 => ?_
    have hi : i < m := by simpa using h1
    simp only [List.getElem_map, List.getElem_range, Function.comp]
    have e2 : (c * m + i) % m = i := by rw [Nat.add_comm, Nat.add_mul_mod_self_right, Nat.mod_eq_of_lt hi]
    rw [e2, getElem!_pos]
/-- Cells of elements that hold nothing. -/
theorem made_rows (hm : (enc z).length = m) (h0 : 0 < m) (c : Nat) : madeCells (Value.cells (.agg (enc z).toArray)) (c * m) = ((List.replicate c z).map enc).flatten.toArray := by
  rw [cells_agg, ← range_rows hm h0 c]
  unfold madeCells
  apply Array.toList_inj.1
  simp [hm]
end
section
variable {P : Program} {w0 : World} {f : Fr} {L : Heap} {N : Fr → Heap → Prop} {ops : Array Oper} {rest : List Oper} {md : Md} {d : Option Tmp} {ty : TypeId} {ps : String} {af : Array Edge} {g : Option (Nat × Bool)}
/-- A slice is made. -/
theorem Ow.makeSlice {t e : TypeId} {m : Bool × Nat} {z : Value} {x y : Operand} {n c : Nat} {md' : Md} (he : md.turn = some md') (hs : skipped ops f ⟨d, .makeSlice t x y, ty, ps, af, g⟩ = false)
    (hu : P.underlying t = some (.slice e)) (hm : aggT P e = some m) (hi : bytesOk P e = true) (hz : zeroV P e = some z) (hx : ev f x = vi n) (hy : ev f y = vi c) (hnc : n ≤ c) (hbig : c ≤ 2 ^ 38)
    (hn : ∀ b, Above L b → w0.heap.size ≤ b → Ow P w0 ops md' rest (putF f d (vsl b 0 n c)) (L ++ [(b, .cells (madeCells z.cells (c * m.2)) e (0, 0))]) N) :
    Ow P w0 ops md (⟨d, .makeSlice t x y, ty, ps, af, g⟩ :: rest) f L N := by
  refine Ow.step he rfl hs fun w hw => .inl ⟨vsl w.heap.size 0 n c, w.alloc (.cells (madeCells z.cells (c * m.2)) e (0, 0)), _, ?_, hw.alloc _, hn _ (above_of fun b hb => hw.lt hb) hw.size⟩
  obtain ⟨i, hie, -, hb⟩ := bytesOk_spec hi hbig
  have hiz : i.zero = some z := by
    unfold zeroV at hz
    rw [hie] at hz
    exact hz
  have him : i.size = m.2 := by
    unfold aggT at hm
    rw [hie] at hm
    split at hm
    · rename_i h1 h2
      cases h2
      cases hm
      rfl
    · cases hm
  have hbb : (i.bytes : Int) * (c : Int) ≤ 281474976710656 := by
    have : ((i.bytes * c : Nat) : Int) ≤ 281474976710656 := by rw [Nat.mul_comm]; exact Int.ofNat_le.2 hb
    rwa [Int.natCast_mul] at this
  have hr := run_make (P := P) w t e i z hu hie hiz .i64 .i64 (n : Int) (c : Int) (by omega) (by omega) hbb (by omega)
  simp only [Int.toNat_natCast, him] at hr
  show (execOp (ev f) _).run P w = _
  simp only [execOp, Sem.run_bind]
  rw [hx, hy]
  show ((Instr.makeSlice t (.int .i64 (n : Int)) (.int .i64 (c : Int))).run P w).andThen _ = _
  rw [hr]
  rfl
/-- A row is copied into a block. -/
theorem Ow.copyRow {td tx e : TypeId} {m : Bool × Nat} {x y : Operand} {b off n c k : Nat} {new : List Value} {cs : Array Value} {E : TypeId} {md' : Md} (he : md.turn = some md')
    (hs : skipped ops f ⟨d, .call ⟨.builtin .copy, #[x, y], #[td, tx]⟩, ty, ps, af, g⟩ = false) (hu : P.underlying td = some (.slice e)) (hm : aggT P e = some m)
    (hx : ev f x = vsl b off n c) (hX : ∀ w, Hp w0 L w → AppX P w m.2 (ev f y) k new) (hk : k ≤ n) (hl : look L b = some (.cells cs E (0, 0))) (hn : off + k * m.2 ≤ cs.size)
    (hO : Ow P w0 ops md' rest (putF f d (vi k)) (setB L b (.cells (putC cs off new) E (0, 0))) N) :
    Ow P w0 ops md (⟨d, .call ⟨.builtin .copy, #[x, y], #[td, tx]⟩, ty, ps, af, g⟩ :: rest) f L N := by
  refine Ow.step he rfl hs fun w hw => ?_
  have hb := hw.has _ _ (look_mem hl)
  obtain ⟨h1, h2, h3, h4⟩ := hX w hw
  have hst := run_storeCells (P := P) (b := b) (off := off) (E := E) (fz := (0, 0)) new 0 cs w hb (by rw [h4]; omega) (.inl (Nat.le_refl 0)) h3
  refine .inl ⟨vi k, { w with heap := w.heap.setIfInBounds b (.cells (putC cs off new) E (0, 0)) }, _, ?_, hw.set (key_of_look hl) rfl rfl rfl rfl, hO⟩
  simp only [execOp, resolve, Sem.run_bind, Sem.run_pure, Result.andThen_ok, invoke, builtin, List.map_toArray, List.map_cons, List.map_nil, hx]
  have : (Builtin.copy_ #[td, tx] ty #[vsl b off n c, ev f y]).run P w = .ok (vi k) { w with heap := w.heap.setIfInBounds b (.cells (putC cs off new) E (0, 0)) } := by
    simp only [Builtin.copy_, vsl, List.getElem?_toArray, List.getElem?_cons_zero, List.getElem?_cons_succ, Sem.run_bind, run_underlying hu w, Result.andThen_ok, h1, run_sizeOf hm w]
    rw [show k.min n = k from Nat.min_eq_left hk, h2]
    simp only [Result.andThen_ok]
    rw [hst]
    rfl
  rw [this]
  rfl
/-- What is appended to a slice of a chunk, if only nothing. -/
theorem Ow.appendXG {ts tx e : TypeId} {m : Bool × Nat} {z : Value} {s x : Operand} {n k : Nat} {cs new : List Value} {dx : TypeDesc} {md' : Md} {X Y : Heap} (sv : Value) (hL : L = X ++ Y) (hsv : ev f s = sv) (he : md.turn = some md')
    (hs : skipped ops f ⟨d, .call ⟨.builtin .append, #[s, x], #[ts, tx]⟩, ty, ps, af, g⟩ = false)
    (hu : P.underlying ts = some (.slice e)) (hm : aggT P e = some m) (hi : bytesOk P e = true) (hz : zeroV P e = some z) (hzs : z.cells.size = m.2) (hux : P.underlying tx = some dx) (hnx : ∀ k, dx ≠ .int k)
    (hB : Gr X e m.2 sv n cs) (hX : ∀ w, Hp w0 L w → AppX P w m.2 (ev f x) k new) (hbig : 2 * (n + k) + 768 ≤ 2 ^ 38)
    (hn : ∀ B v' D, Above L B → w0.heap.size ≤ B → Gr D e m.2 v' (n + k) (cs ++ new) → (∀ c, c ∈ keys X → c ∈ keys D) → (∀ c, c ∈ keys D → c ∈ keys X ∨ B ≤ c) → (∀ c o, slB sv ≠ some c → look X c = some o → look D c = some o) → Ow P w0 ops md' rest (putF f d v') (D ++ Y) N) :
    Ow P w0 ops md (⟨d, .call ⟨.builtin .append, #[s, x], #[ts, tx]⟩, ty, ps, af, g⟩ :: rest) f L N := by
  subst hL
  refine Ow.step he rfl hs fun w hw => ?_
  have hp := hw.part
  have hA : Above (X ++ Y) w.heap.size := above_of fun b hb => hw.lt hb
  have fin : ∀ v' w' D, (Builtin.append_ #[ts, tx] ty #[sv, ev f x]).run P w = .ok v' w' → Hp w D w' → Gr D e m.2 v' (n + k) (cs ++ new) → (∀ c, c ∈ keys X → c ∈ keys D) → (∀ c, c ∈ keys D → c ∈ keys X ∨ w.heap.size ≤ c) → (∀ c o, slB sv ≠ some c → look X c = some o → look D c = some o) →
      (∃ v w' L', (execOp (ev f) ⟨d, .call ⟨.builtin .append, #[s, x], #[ts, tx]⟩, ty, ps, af, g⟩).run P w = .ok (.value v) w' ∧ Hp w0 L' w' ∧ Ow P w0 ops md' rest (putF f d v) L' N) := by
    intro v' w' D hr hD hb h1 h2 h3
    refine ⟨v', w', D ++ Y, ?_, hw.join hD h1 h2, hn w.heap.size v' D hA hw.size hb h1 h2 h3⟩
    simp only [execOp, resolve, Sem.run_bind, Sem.run_pure, Result.andThen_ok, invoke, builtin, List.map_toArray, List.map_cons, List.map_nil, hsv]
    rw [hr]
    rfl
  rcases hB with hB | ⟨rfl, rfl, b, rfl, hlk⟩
  · obtain ⟨v', w', D, hr, hD, hb, hg, -⟩ := run_append (w0 := w) (L := X) (ty := ty) (x := ev f x) hp hu hm hi hz hzs hux hnx hB (fun w2 hw2 => hX w2 (by
      refine hw.join hw2 (fun c hc => hc) (fun c hc => .inl hc))) hbig
    exact .inl (fin v' w' D hr hD (.inl hb) hg.keys (fun c hc => (hg.new c hc).imp id And.right) hg.look)
  · rcases run_appendEm (w0 := w) (L := X) (ty := ty) (b := b) (x := ev f x) hp hu hm hi hz hzs hux hnx (fun w2 hw2 => hX w2 (by
      refine hw.join hw2 (fun c hc => hc) (fun c hc => .inl hc))) hbig with ⟨h0, hr⟩ | ⟨-, v', w', D, hr, hD, hb, hg, -⟩
    · subst h0
      have hnw := (hX w hw).size
      obtain rfl : new = [] := List.eq_nil_of_length_eq_zero (by rw [hnw, Nat.zero_mul])
      exact .inl (fin _ w X hr hp (.inr ⟨rfl, rfl, b, rfl, hlk⟩) (fun c hc => hc) (fun c hc => .inl hc) (fun c o _ hl => hl))
    · exact .inl (fin v' w' D hr hD (.inl hb) hg.keys (fun c hc => (hg.new c hc).imp id And.right) (fun c o _ hl => hg.look c o (by simp [slB]) hl))
/-- A slice up to its room, and what stands behind its elements. -/
theorem slice_cap (a : Bool) (m b n c : Nat) : sliceV (.sl (a, m)) (vsl b 0 n c) none (some (some (c : Int))) = some (vsl b 0 c c) := by
  unfold sliceV vsl
  simp [bnd_hi]
  intro _
  rfl
theorem slice_lo (a : Bool) (m b n k : Nat) (h : 0 < k) : sliceV (.sl (a, m)) (vsl b 0 (n + k) (n + k)) (some (some (n : Int))) none = some (vsl b (n * m) k k) := by
  unfold sliceV vsl
  simp only [bnd_lo _ _ _ (⟨by omega, by omega⟩ : (0 : Int) ≤ (n : Int) ∧ (n : Int) ≤ ((n + k : Nat) : Int)), Int.toNat_natCast]
  rw [if_neg (by omega)]
  simp [add_spot]
end
/-- A known block stands first, the others behind it. -/
theorem look_perm {b : Nat} {o : Obj} : ∀ {D : Heap}, look D b = some o → ∃ D', D.Perm ((b, o) :: D')
  | [], h => by cases h
  | (c, x) :: r, h => by
    unfold look at h
    split at h
    · rename_i e
      cases h
      subst e
      exact ⟨r, List.Perm.refl _⟩
    · obtain ⟨D', hD⟩ := look_perm h
      exact ⟨(c, x) :: D', (hD.cons _).trans (List.Perm.swap _ _ _)⟩
theorem New.perm {n : Nat} {D D' : Heap} (h : New n D) (hp : D.Perm D') : New n D' := New.of_le fun c hc => h.le c ((hp.map Prod.fst).mem_iff.2 hc)
end Go.Sx
section
open Go Go.Proofs Go.Sx Go.StP
namespace Go.Proofs
set_option maxRecDepth 10000
set_option maxHeartbeats 1000000
set_option linter.unusedSimpArgs false
/-! ### What is handed in is kept -/
def rest2 : List Value := ([ent0, ent0].map entC).flatten
theorem room_rows (l : List EntL) : putC (((List.replicate (l.length + 2) ent0).map entC).flatten.toArray) 0 ((l.map entC).flatten) = ((l.map entC).flatten ++ rest2).toArray := by
  have e : ((List.replicate (l.length + 2) ent0).map entC).flatten = [] ++ (((List.replicate l.length ent0).map entC).flatten ++ rest2) := by
    rw [← List.replicate_append_replicate, List.map_append, List.flatten_append]; rfl
  have hl : ((l.map entC).flatten).length = (((List.replicate l.length ent0).map entC).flatten).length := by
    rw [flat_len entC_len, flat_len entC_len, List.length_replicate]
  rw [e]
  have h := putC_app ((l.map entC).flatten) [] (((List.replicate l.length ent0).map entC).flatten ++ rest2) (by rw [List.length_append]; omega)
  rw [hl, List.drop_left, List.nil_append, List.length_nil] at h
  rw [List.nil_append]
  rw [List.nil_append] at h
  exact h
abbrev id9 : IdL := ⟨9 :: List.replicate 31 0, by simp⟩
theorem build_id9 : buildV (plcT Try.prog 24) (zeroV Try.prog 24) [(0, v8 9)] = some (.agg (a8 id9.l)) := id (by kernel_rfl)
theorem store_idRO {rest : List Value} {d : List IdL} (k : Nat) (x : IdL) (a : Bool) (hk : k < d.length) : storeV (some (a, 32)) (some (idRO rest d)) (k * 32) (.agg (a8 x.l)) = some (idRO rest (d.set k x)) := by
  have := store_row (E := 24) (rest := rest) idLC_len' idLC_one' k x a hk
  rw [← idLC_a8]
  exact this
theorem rows_ents {w' : World} {b c : Nat} {rest : List Value} {l : List EntL} (h : w'.heap[b]? = some (entO rest l)) (hc : l.length ≤ c) : EntS w' (vsl b 0 l.length c) l := SlV.sl h (fun k hk j hj => by
  obtain ⟨A, C, e, hA, -⟩ := row_split (z := ent0) (rest := rest) entC_len hk
  rw [e, List.getElem?_toArray, Nat.zero_add, List.getElem?_append_right (by omega), hA, Nat.add_sub_cancel_left, List.getElem?_append_left (by rw [entC_len]; exact hj)]) hc (by
  rw [List.size_toArray, List.length_append, flat_len entC_len]; omega)
theorem rows_tail {w' : World} {b : Nat} {l : List EntL} (h : w'.heap[b]? = some (entO rest2 l)) : EntS w' (vsl b (l.length * 34) 2 2) [ent0, ent0] := SlV.sl (l := [ent0, ent0]) h (fun k hk j hj => by
  have e : (l.map entC).flatten ++ rest2 = (l.map entC).flatten ++ (entC ent0 ++ entC ent0) := by unfold rest2; simp
  rw [e, List.getElem?_toArray, List.getElem?_append_right (by rw [flat_len entC_len]; omega), flat_len entC_len]
  have h2 : k = 0 ∨ k = 1 := by simp at hk; omega
  rcases h2 with rfl | rfl
  · rw [show l.length * 34 + 0 * 34 + j - l.length * 34 = j by omega, List.getElem?_append_left (by rw [entC_len]; exact hj)]; rfl
  · rw [show l.length * 34 + 1 * 34 + j - l.length * 34 = 34 + j by omega, List.getElem?_append_right (by rw [entC_len]; omega), entC_len, Nat.add_sub_cancel_left]; rfl) (by decide) (by
  rw [List.size_toArray, List.length_append, flat_len entC_len]; unfold rest2; simp [entC_len])
theorem two_ents {w' : World} {b : Nat} (h : w'.heap[b]? = some (.cells ((List.replicate 2 ent0).map entC).flatten.toArray 45 (0, 0))) : EntS w' (vsl b 0 2 2) [ent0, ent0] := by
  have := rows_ents (w' := w') (b := b) (c := 2) (rest := []) (l := [ent0, ent0]) (by rw [h]; simp [rowO, List.replicate]) (Nat.le_refl _)
  exact this
structure KpG where
  g : Nat
  d : List EntL
structure KpH where
  g : Nat
  d : List IdL
set_option linter.defProp false
def uPQ_1 := And.intro (And.intro (And.intro (And.intro (@load_ob) (And.intro (@load_ob0) (@load_ob1))) (And.intro (@store_ob) (And.intro (@Sx.tup2_0) (@Sx.tup2_1)))) (And.intro (And.intro (@load_com0) (And.intro (@load_com1) (@load_com2))) (And.intro (@load_com) (And.intro (@cells_com) (@load_ent))))) (And.intro (And.intro (And.intro (@load_ent0) (And.intro (@cells_ent) (@eqOb))) (And.intro (@neOb) (And.intro (@eqBo) (@neBo)))) (And.intro (And.intro (@Bool.and_true) (And.intro (@Bool.true_and) (@Bool.and_false))) (And.intro (@Bool.false_and) (And.intro (@rdIn_v8) (@rdIn_vi)))))
theorem ObjectKeeps_spec (w : World) (v : Value) (l : List EntL) (hl : EntS w v l) (vc : Value) (c : ComL) (hc : ComS w vc c) : Rets Try.prog 4 #[v, vc] w (fun v D => v = .bool true ∧ D = []) := by
  obtain ⟨p, rfl, hp⟩ := id hc
  have lnp := hp.len
  have lnl := hl.len
  refine Rets.enterV Try.func4 rfl (rs := [.tmp 4]) Try.results4 Try.ntmps4 ?_
  simp only [List.size_toArray, List.length_cons, List.length_nil, Nat.reduceAdd, Nat.reduceSub, List.replicate_succ, List.replicate_zero, List.cons_append, List.nil_append]
  ((try with_reducible refine Cw.go [1000018] ?_); (try simp (disch := (first | assumption | omega | (simp only [lenS, lenT, UInt64.reduceToNat]; try omega))) only [↓S0, S1, Try.fx, uPQ_1, Nat.reduceAdd, Nat.reducePow, Int.reducePow, Nat.reduceBEq, ↓reduceIte, UInt8.reduceToNat, UInt16.reduceToNat, UInt32.reduceToNat, UInt64.reduceToNat, Int.reduceToNat]))
  refine Ow.box rfl rfl fun b3 hb3 hw3 => ?_
  simp only [ev_tmp, getF_0, getF_s, cells_com, List.nil_append]
  refine Ow.go rfl ?_
  simp (disch := (first | assumption | omega | (simp only [lenS, lenT, UInt64.reduceToNat]; try omega))) only [↓S0, S1, Try.fx, uPQ_1, Nat.reduceAdd, Nat.reducePow, Int.reducePow, Nat.reduceBEq, ↓reduceIte, UInt8.reduceToNat, UInt16.reduceToNat, UInt32.reduceToNat, UInt64.reduceToNat, Int.reduceToNat]
  refine Ow.callFV rfl Try.call8 (fun w' hw' => alive_spec w') ?_
  refine Ow.go rfl ?_
  simp (disch := (first | assumption | omega | (simp only [lenS, lenT, UInt64.reduceToNat]; try omega))) only [↓S0, S1, Try.fx, uPQ_1, Nat.reduceAdd, Nat.reducePow, Int.reducePow, Nat.reduceBEq, ↓reduceIte, UInt8.reduceToNat, UInt16.reduceToNat, UInt32.reduceToNat, UInt64.reduceToNat, Int.reduceToNat]
  refine Ow.callFV rfl Try.call9 (fun w' hw' => great_spec v l w' (hl.oldN hw' ⟨hw3, trivial⟩)) ?_
  cases hg : greatE l
  case true =>
    refine Ow.go rfl ?_
    simp (disch := (first | assumption | omega | (simp only [lenS, lenT, UInt64.reduceToNat]; try omega))) only [↓S0, S1, Try.fx, uPQ_1, Nat.reduceAdd, Nat.reducePow, Int.reducePow, Nat.reduceBEq, ↓reduceIte, UInt8.reduceToNat, UInt16.reduceToNat, UInt32.reduceToNat, UInt64.reduceToNat, Int.reduceToNat]
    refine Ow.callFV rfl Try.call8 (fun w' hw' => alive_spec w') ?_
    refine Ow.go rfl ?_
    simp (disch := (first | assumption | omega | (simp only [lenS, lenT, UInt64.reduceToNat]; try omega))) only [↓S0, S1, Try.fx, uPQ_1, Nat.reduceAdd, Nat.reducePow, Int.reducePow, Nat.reduceBEq, ↓reduceIte, UInt8.reduceToNat, UInt16.reduceToNat, UInt32.reduceToNat, UInt64.reduceToNat, Int.reduceToNat]
    ((try with_reducible refine Cw.go [] ?_); (try simp (disch := (first | assumption | omega | (simp only [lenS, lenT, UInt64.reduceToNat]; try omega))) only [↓S0, S1, Try.fx, uPQ_1, Nat.reduceAdd, Nat.reducePow, Int.reducePow, Nat.reduceBEq, ↓reduceIte, UInt8.reduceToNat, UInt16.reduceToNat, UInt32.reduceToNat, UInt64.reduceToNat, Int.reduceToNat]))
    refine ⟨_, (by simp (disch := (first | assumption | omega | (simp only [lenS, lenT, UInt64.reduceToNat]; try omega))) only [↓S0, S1, Try.fx, uPQ_1, Nat.reduceAdd, Nat.reducePow, Int.reducePow, Nat.reduceBEq, ↓reduceIte, UInt8.reduceToNat, UInt16.reduceToNat, UInt32.reduceToNat, UInt64.reduceToNat, Int.reduceToNat]; rfl), ⟨hw3, trivial⟩, ?_⟩
    rfl
  obtain ⟨hl60, hl100⟩ := greatE_no hg
  by_cases h7 : 20 < c.par.length
  · have d2 : decide ((20 : Int) < (c.par.length : Int)) = true := decide_eq_true (by omega)
    refine Ow.go rfl ?_
    simp (disch := (first | assumption | omega | (simp only [lenS, lenT, UInt64.reduceToNat]; try omega))) only [↓S0, S1, Try.fx, uPQ_1, Nat.reduceAdd, Nat.reducePow, Int.reducePow, Nat.reduceBEq, ↓reduceIte, UInt8.reduceToNat, UInt16.reduceToNat, UInt32.reduceToNat, UInt64.reduceToNat, Int.reduceToNat, lnp, d2]
    refine Ow.callFV rfl Try.call8 (fun w' hw' => alive_spec w') ?_
    refine Ow.go rfl ?_
    simp (disch := (first | assumption | omega | (simp only [lenS, lenT, UInt64.reduceToNat]; try omega))) only [↓S0, S1, Try.fx, uPQ_1, Nat.reduceAdd, Nat.reducePow, Int.reducePow, Nat.reduceBEq, ↓reduceIte, UInt8.reduceToNat, UInt16.reduceToNat, UInt32.reduceToNat, UInt64.reduceToNat, Int.reduceToNat]
    ((try with_reducible refine Cw.go [] ?_); (try simp (disch := (first | assumption | omega | (simp only [lenS, lenT, UInt64.reduceToNat]; try omega))) only [↓S0, S1, Try.fx, uPQ_1, Nat.reduceAdd, Nat.reducePow, Int.reducePow, Nat.reduceBEq, ↓reduceIte, UInt8.reduceToNat, UInt16.reduceToNat, UInt32.reduceToNat, UInt64.reduceToNat, Int.reduceToNat]))
    refine ⟨_, (by simp (disch := (first | assumption | omega | (simp only [lenS, lenT, UInt64.reduceToNat]; try omega))) only [↓S0, S1, Try.fx, uPQ_1, Nat.reduceAdd, Nat.reducePow, Int.reducePow, Nat.reduceBEq, ↓reduceIte, UInt8.reduceToNat, UInt16.reduceToNat, UInt32.reduceToNat, UInt64.reduceToNat, Int.reduceToNat]; rfl), ⟨hw3, trivial⟩, ?_⟩
    rfl
  have d2 : decide ((20 : Int) < (c.par.length : Int)) = false := decide_eq_false (by omega)
  by_cases h8 : 300 < c.text.length
  · have d3 : decide ((300 : Int) < (c.text.length : Int)) = true := decide_eq_true (by omega)
    refine Ow.go rfl ?_
    simp (disch := (first | assumption | omega | (simp only [lenS, lenT, UInt64.reduceToNat]; try omega))) only [↓S0, S1, Try.fx, uPQ_1, Nat.reduceAdd, Nat.reducePow, Int.reducePow, Nat.reduceBEq, ↓reduceIte, UInt8.reduceToNat, UInt16.reduceToNat, UInt32.reduceToNat, UInt64.reduceToNat, Int.reduceToNat, lnp, d2, d3]
    refine Ow.callFV rfl Try.call8 (fun w' hw' => alive_spec w') ?_
    refine Ow.go rfl ?_
    simp (disch := (first | assumption | omega | (simp only [lenS, lenT, UInt64.reduceToNat]; try omega))) only [↓S0, S1, Try.fx, uPQ_1, Nat.reduceAdd, Nat.reducePow, Int.reducePow, Nat.reduceBEq, ↓reduceIte, UInt8.reduceToNat, UInt16.reduceToNat, UInt32.reduceToNat, UInt64.reduceToNat, Int.reduceToNat]
    ((try with_reducible refine Cw.go [] ?_); (try simp (disch := (first | assumption | omega | (simp only [lenS, lenT, UInt64.reduceToNat]; try omega))) only [↓S0, S1, Try.fx, uPQ_1, Nat.reduceAdd, Nat.reducePow, Int.reducePow, Nat.reduceBEq, ↓reduceIte, UInt8.reduceToNat, UInt16.reduceToNat, UInt32.reduceToNat, UInt64.reduceToNat, Int.reduceToNat]))
    refine ⟨_, (by simp (disch := (first | assumption | omega | (simp only [lenS, lenT, UInt64.reduceToNat]; try omega))) only [↓S0, S1, Try.fx, uPQ_1, Nat.reduceAdd, Nat.reducePow, Int.reducePow, Nat.reduceBEq, ↓reduceIte, UInt8.reduceToNat, UInt16.reduceToNat, UInt32.reduceToNat, UInt64.reduceToNat, Int.reduceToNat]; rfl), ⟨hw3, trivial⟩, ?_⟩
    rfl
  have d3 : decide ((300 : Int) < (c.text.length : Int)) = false := decide_eq_false (by omega)
  refine Ow.go rfl ?_
  simp (disch := (first | assumption | omega | (simp only [lenS, lenT, UInt64.reduceToNat]; try omega))) only [↓S0, S1, Try.fx, uPQ_1, Nat.reduceAdd, Nat.reducePow, Int.reducePow, Nat.reduceBEq, ↓reduceIte, UInt8.reduceToNat, UInt16.reduceToNat, UInt32.reduceToNat, UInt64.reduceToNat, Int.reduceToNat, lnp, lnl, d2, d3]
  refine Ow.makeSlice (e := 45) (n := l.length) (c := l.length + 2) rfl rfl Try.underlying22 aggEnt (by kernel_rfl) zrEnt rfl rfl (by omega) (by omega) fun b5 hb5 hw5 => ?_
  have h35 : b3 < b5 := above_to hb5 (by simp [keys])
  have mk := made_rows (enc := entC) (z := ent0) (m := 34) (entC_len ent0) (by decide) (l.length + 2)
  simp only [mk, List.cons_append, List.nil_append]
  refine Ow.go rfl ?_
  simp (disch := (first | assumption | omega | (simp only [lenS, lenT, UInt64.reduceToNat]; try omega))) only [↓S0, S1, Try.fx, uPQ_1, Nat.reduceAdd, Nat.reducePow, Int.reducePow, Nat.reduceBEq, ↓reduceIte, UInt8.reduceToNat, UInt16.reduceToNat, UInt32.reduceToNat, UInt64.reduceToNat, Int.reduceToNat]
  refine Ow.copyRow (b := b5) (off := 0) (n := l.length) (k := l.length) (new := (l.map entC).flatten) (cs := ((List.replicate (l.length + 2) ent0).map entC).flatten.toArray) (E := 45) rfl rfl Try.underlying22 aggEnt rfl (fun w' hw' => (hl.oldN hw' ⟨hw3, hw5, trivial⟩).appX entC_len entC_one) (Nat.le_refl _) (by simp (disch := omega) only [look_same, look_other]) (by rw [List.size_toArray, flat_len entC_len, List.length_replicate]; show 0 + l.length * 34 ≤ _; omega) ?_
  rw [room_rows]
  simp (disch := (first | assumption | omega | (simp only [lenS, lenT, UInt64.reduceToNat]; try omega))) only [setB_same, setB_other, List.cons_append, List.nil_append]
  rw [show Obj.cells ((l.map entC).flatten ++ rest2).toArray 45 (0, 0) = entO rest2 l from rfl]
  refine Ow.go rfl ?_
  simp (disch := (first | assumption | omega | (simp only [lenS, lenT, UInt64.reduceToNat]; try omega))) only [↓S0, S1, Try.fx, uPQ_1, Nat.reduceAdd, Nat.reducePow, Int.reducePow, Nat.reduceBEq, ↓reduceIte, UInt8.reduceToNat, UInt16.reduceToNat, UInt32.reduceToNat, UInt64.reduceToNat, Int.reduceToNat]
  refine Ow.buildSlice (e := 24) #[] rfl rfl (by kernel_rfl) fun b44 hb44 hw44 => ?_
  refine Ow.go rfl ?_
  simp (disch := (first | assumption | omega | (simp only [lenS, lenT, UInt64.reduceToNat]; try omega))) only [↓S0, S1, Try.fx, uPQ_1, Nat.reduceAdd, Nat.reducePow, Int.reducePow, Nat.reduceBEq, ↓reduceIte, UInt8.reduceToNat, UInt16.reduceToNat, UInt32.reduceToNat, UInt64.reduceToNat, Int.reduceToNat]
  refine Ow.permL (M := [(b44, Obj.cells #[] 24 (0, 0))] ++ [(b3, Obj.cells (comC c.tree p c.text).toArray 27 (0, 0)), (b5, entO rest2 l)]) (by classical exact List.perm_iff_count.2 fun a => by simp only [List.count_append, List.count_cons, List.count_nil] <;> omega) ?_
  refine Ow.appendXG (e := 24) (n := 0) (cs := []) (k := c.par.length) (new := (c.par.map idLC).flatten) (X := [(b44, Obj.cells #[] 24 (0, 0))]) (vsl b44 0 0 0) rfl rfl rfl rfl Try.underlying25 aggIdE (by kernel_rfl) zrIdE (by rw [cells_agg, size_a8, id0.h]) Try.underlying25 (by intro k h; cases h) (.inr ⟨rfl, rfl, b44, rfl, look_same _ _ _⟩) (fun w' hw' => (hp.oldN hw' ⟨hw44, hw3, hw5, trivial⟩).appX idLC_len' idLC_one') (by omega) (fun B6 v6 D6 hA6 hB6 hG6 hk1 hk2 hlk6 => ?_)
  rw [Nat.zero_add, List.nil_append] at hG6
  have hD6 : New w.heap.size D6 := New.of_le fun q hq => by
    rcases hk2 q hq with h | h
    · simp only [keys, List.map_cons, List.map_nil, List.mem_singleton] at h; omega
    · omega
  refine Ow.permL (M := (b3, Obj.cells (comC c.tree p c.text).toArray 27 (0, 0)) :: (b5, entO rest2 l) :: D6) (by classical exact List.perm_iff_count.2 fun a => by simp only [List.count_append, List.count_cons, List.count_nil] <;> omega) ?_
  refine Ow.go rfl ?_
  simp (disch := (first | assumption | omega | (simp only [lenS, lenT, UInt64.reduceToNat]; try omega))) only [↓S0, S1, Try.fx, uPQ_1, Nat.reduceAdd, Nat.reducePow, Int.reducePow, Nat.reduceBEq, ↓reduceIte, UInt8.reduceToNat, UInt16.reduceToNat, UInt32.reduceToNat, UInt64.reduceToNat, Int.reduceToNat]
  ((try with_reducible refine Cw.go [] ?_); (try simp (disch := (first | assumption | omega | (simp only [lenS, lenT, UInt64.reduceToNat]; try omega))) only [↓S0, S1, Try.fx, uPQ_1, Nat.reduceAdd, Nat.reducePow, Int.reducePow, Nat.reduceBEq, ↓reduceIte, UInt8.reduceToNat, UInt16.reduceToNat, UInt32.reduceToNat, UInt64.reduceToNat, Int.reduceToNat]))
  refine Ow.alloc rfl rfl zrCom fun b7 hb7 hw7 => ?_
  simp only [cells_agg, List.nil_append, List.cons_append]
  have h37 : b3 < b7 := above_to hb7 (by simp [keys])
  have h57 : b5 < b7 := above_to hb7 (by simp [keys])
  have st7 : ∀ a E, storeV (some (a, 34)) (some (.cells (comC id0 (.slice none 0 0) []).toArray E (0, 0))) 0 (.agg (comC c.tree p c.text).toArray) = some (.cells (comC c.tree p c.text).toArray E (0, 0)) := fun a E => store_com _ _ _ _ a E (by rw [List.size_toArray, comC_len]) (by
    obtain ⟨b, off, c', arr, E, fz, -, -, hv⟩ := hp
    rcases hv with ⟨rfl, -⟩ | ⟨rfl, -⟩ <;> rfl)
  have st7b := fun a E => store_com1 c.tree p v6 c.text a E hG6.cell
  refine Ow.permL (M := (b3, Obj.cells (comC c.tree p c.text).toArray 27 (0, 0)) :: (b5, entO rest2 l) :: (b7, Obj.cells (comC id0 (.slice none 0 0) []).toArray 27 (0, 0)) :: D6) (by classical exact List.perm_iff_count.2 fun a => by simp only [List.count_append, List.count_cons, List.count_nil] <;> omega) ?_
  refine Ow.go rfl ?_
  simp (disch := (first | assumption | omega | (simp only [lenS, lenT, UInt64.reduceToNat]; try omega))) only [↓S0, S1, Try.fx, uPQ_1, Nat.reduceAdd, Nat.reducePow, Int.reducePow, Nat.reduceBEq, ↓reduceIte, UInt8.reduceToNat, UInt16.reduceToNat, UInt32.reduceToNat, UInt64.reduceToNat, Int.reduceToNat, st7]
  ((try with_reducible refine Cw.go [] ?_); (try simp (disch := (first | assumption | omega | (simp only [lenS, lenT, UInt64.reduceToNat]; try omega))) only [↓S0, S1, Try.fx, uPQ_1, Nat.reduceAdd, Nat.reducePow, Int.reducePow, Nat.reduceBEq, ↓reduceIte, UInt8.reduceToNat, UInt16.reduceToNat, UInt32.reduceToNat, UInt64.reduceToNat, Int.reduceToNat, st7b]))
  have hroom : ∀ w' : World, w'.heap[b5]? = some (entO rest2 l) → EntS w' (vsl b5 0 l.length (l.length + 2)) l := fun w' h => rows_ents h (by omega)
  refine Ow.callC rfl rfl Try.call11 (fun w' hw' => TreeO_spec _ l w' (hroom w' (hw'.has _ _ (by simp))) (by omega) (fun e he => by have := hl100 e he; omega)) (fun B1 v1 D1 hA1 hB1 hN1 hS1 => ?_)
  obtain ⟨Z, hZ, rfl⟩ := hS1
  obtain ⟨t1, t2, t3⟩ := made_tree Z
  rw [t1, t2, t3]
  have hZl : Z.length = l.length := hZ.1
  have hD1 : New w.heap.size D1 := New.mono hB1 hN1
  refine Ow.go rfl ?_
  simp (disch := (first | assumption | omega | (simp only [lenS, lenT, UInt64.reduceToNat]; try omega))) only [↓S0, S1, Try.fx, uPQ_1, Nat.reduceAdd, Nat.reducePow, Int.reducePow, Nat.reduceBEq, ↓reduceIte, UInt8.reduceToNat, UInt16.reduceToNat, UInt32.reduceToNat, UInt64.reduceToNat, Int.reduceToNat]
  refine Ow.alloc rfl rfl zrOb fun b8 hb8 hw8 => ?_
  simp only [cells_agg, List.nil_append, List.cons_append]
  have h38 : b3 < b8 := above_to hb8 (by simp [keys])
  have h58 : b5 < b8 := above_to hb8 (by simp [keys])
  have h78 : b7 < b8 := above_to hb8 (by simp [keys])
  have hcb8 : ∀ x, x ∈ keys D6 → x < b8 := fun x hx => above_to hb8 (by simp only [keys, List.map_cons, List.map_append, List.mem_cons, List.mem_append] at hx ⊢; simp [hx])
  refine Ow.permL (M := (b3, Obj.cells (comC c.tree p c.text).toArray 27 (0, 0)) :: (b5, entO rest2 l) :: (b7, Obj.cells (comC c.tree v6 c.text).toArray 27 (0, 0)) :: (b8, Obj.cells #[vi 0, vs []] 31 (0, 0)) :: (D6 ++ D1)) (by classical exact List.perm_iff_count.2 fun a => by simp only [List.count_append, List.count_cons, List.count_nil] <;> omega) ?_
  refine Ow.go rfl ?_
  simp (disch := (first | assumption | omega | (simp only [lenS, lenT, UInt64.reduceToNat]; try omega))) only [↓S0, S1, Try.fx, uPQ_1, Nat.reduceAdd, Nat.reducePow, Int.reducePow, Nat.reduceBEq, ↓reduceIte, UInt8.reduceToNat, UInt16.reduceToNat, UInt32.reduceToNat, UInt64.reduceToNat, Int.reduceToNat]
  ((try with_reducible refine Cw.go [] ?_); (try simp (disch := (first | assumption | omega | (simp only [lenS, lenT, UInt64.reduceToNat]; try omega))) only [↓S0, S1, Try.fx, uPQ_1, Nat.reduceAdd, Nat.reducePow, Int.reducePow, Nat.reduceBEq, ↓reduceIte, UInt8.reduceToNat, UInt16.reduceToNat, UInt32.reduceToNat, UInt64.reduceToNat, Int.reduceToNat]))
  refine Ow.callC rfl rfl Try.call12 (fun w' hw' => CommitO_spec (.agg (comC c.tree v6 c.text).toArray) c w' ⟨v6, rfl, hG6.slM (fun b o hm => hw'.has b o (by simp [hm])) rfl rfl idLC_len'⟩ (by omega) (by omega)) (fun B2 v2 D2 hA2 hB2 hN2 hS2 => ?_)
  obtain ⟨q1, q2, q3⟩ := made_com c
  rw [q1, q2, q3] at hS2
  subst hS2
  have hD2 : New w.heap.size D2 := New.mono hB2 hN2
  refine Ow.go rfl ?_
  simp (disch := (first | assumption | omega | (simp only [lenS, lenT, UInt64.reduceToNat]; try omega))) only [↓S0, S1, Try.fx, uPQ_1, Nat.reduceAdd, Nat.reducePow, Int.reducePow, Nat.reduceBEq, ↓reduceIte, UInt8.reduceToNat, UInt16.reduceToNat, UInt32.reduceToNat, UInt64.reduceToNat, Int.reduceToNat]
  refine Ow.alloc rfl rfl zrOb fun b10 hb10 hw10 => ?_
  simp only [cells_agg, List.nil_append, List.cons_append]
  have h310 : b3 < b10 := above_to hb10 (by simp [keys])
  have h510 : b5 < b10 := above_to hb10 (by simp [keys])
  have h710 : b7 < b10 := above_to hb10 (by simp [keys])
  have h810 : b8 < b10 := above_to hb10 (by simp [keys])
  have hJ : New w.heap.size (D1 ++ D2) := hD1.app hD2
  refine Ow.permL (M := (b3, Obj.cells (comC c.tree p c.text).toArray 27 (0, 0)) :: (b5, entO rest2 l) :: (b7, Obj.cells (comC c.tree v6 c.text).toArray 27 (0, 0)) :: (b8, Obj.cells #[vi (if entsOk Z then 2 else 0), vs (if entsOk Z then treeB Z else [])] 31 (0, 0)) :: (b10, Obj.cells #[vi 0, vs []] 31 (0, 0)) :: (D6 ++ (D1 ++ D2))) (by classical exact List.perm_iff_count.2 fun a => by simp only [List.count_append, List.count_cons, List.count_nil] <;> omega) ?_
  generalize D1 ++ D2 = J at hJ ⊢
  refine Ow.go rfl ?_
  simp (disch := (first | assumption | omega | (simp only [lenS, lenT, UInt64.reduceToNat]; try omega))) only [↓S0, S1, Try.fx, uPQ_1, Nat.reduceAdd, Nat.reducePow, Int.reducePow, Nat.reduceBEq, ↓reduceIte, UInt8.reduceToNat, UInt16.reduceToNat, UInt32.reduceToNat, UInt64.reduceToNat, Int.reduceToNat]
  ((try with_reducible refine Cw.go [] ?_); (try simp (disch := (first | assumption | omega | (simp only [lenS, lenT, UInt64.reduceToNat]; try omega))) only [↓S0, S1, Try.fx, uPQ_1, Nat.reduceAdd, Nat.reducePow, Int.reducePow, Nat.reduceBEq, ↓reduceIte, UInt8.reduceToNat, UInt16.reduceToNat, UInt32.reduceToNat, UInt64.reduceToNat, Int.reduceToNat]))
  have hNe : New w.heap.size ((b3, Obj.cells (comC c.tree p c.text).toArray 27 (0, 0)) :: (b5, entO rest2 l) :: (b7, Obj.cells (comC c.tree v6 c.text).toArray 27 (0, 0)) :: (b8, Obj.cells #[vi (if entsOk Z then 2 else 0), vs (if entsOk Z then treeB Z else [])] 31 (0, 0)) :: (b10, Obj.cells #[vi (if comOk c then 3 else 0), vs (if comOk c then comB c else [])] 31 (0, 0)) :: (D6 ++ J)) := ⟨hw3, hw5, hw7, hw8, hw10, hD6.app hJ⟩
  refine Cw.regionS [b3] [0, 1, 2, 3, 4, 5, 6, 7, 8, 9, 10, 11, 12, 13, 14, 15, 16, 17, 18, 19, 20, 21, 22] [] (by kernel_rfl) (by kernel_rfl) (by kernel_rfl) ?_
  simp only [nl_cons, ↓pickL_nil, ↓pickL_cons, ↓nthO_0, ↓nthO_s, consO_some]
  refine Ow.goQ ?_
  simp (disch := (first | assumption | omega | (simp only [lenS, lenT, UInt64.reduceToNat]; try omega))) only [↓S0, S1, Try.fx, uPQ_1, Nat.reduceAdd, Nat.reducePow, Int.reducePow, Nat.reduceBEq, ↓reduceIte, UInt8.reduceToNat, UInt16.reduceToNat, UInt32.reduceToNat, UInt64.reduceToNat, Int.reduceToNat]
  refine Ow.callFV rfl Try.call18 (fun w' hw' => SameEntries_spec _ _ l l w' (hroom w' (hw'.has _ _ (by simp))) (hl.oldN hw' hNe) (by omega) (by omega)) ?_
  rw [show decide (l = l) = true from decide_eq_true rfl]
  have sc1 := slice_cap true 34 b5 l.length (l.length + 2)
  have sc2 := slice_lo true 34 b5 l.length 2 (by decide)
  refine Ow.goQ ?_
  simp (disch := (first | assumption | omega | (simp only [lenS, lenT, UInt64.reduceToNat]; try omega))) only [↓S0, S1, Try.fx, uPQ_1, Nat.reduceAdd, Nat.reducePow, Int.reducePow, Nat.reduceBEq, ↓reduceIte, UInt8.reduceToNat, UInt16.reduceToNat, UInt32.reduceToNat, UInt64.reduceToNat, Int.reduceToNat, sc1, sc2, lnl, Bool.not_true]
  refine Ow.soft rfl rfl rfl ?_
  refine Ow.makeSlice (e := 45) (n := 2) (c := 2) rfl rfl Try.underlying22 aggEnt (by kernel_rfl) zrEnt rfl rfl (by omega) (by omega) fun b12 hb12 hw12 => ?_
  have mk2 := made_rows (enc := entC) (z := ent0) (m := 34) (entC_len ent0) (by decide) 2
  simp only [mk2, List.cons_append, List.append_assoc]
  with_reducible refine Ow.nil ?_
  refine ⟨fun r hr => by rw [List.mem_singleton.1 hr]; simp only [read_same], ?_⟩
  refine Ow.callFV rfl Try.call18 (fun w' hw' => SameEntries_spec _ _ [ent0, ent0] [ent0, ent0] w' (rows_tail (hw'.has _ _ (by simp))) (two_ents (hw'.has _ _ (by simp))) (by decide) (by decide)) ?_
  rw [show decide ([ent0, ent0] = [ent0, ent0]) = true from decide_eq_true rfl]
  refine Ow.goQ ?_
  simp (disch := (first | assumption | omega | (simp only [lenS, lenT, UInt64.reduceToNat]; try omega))) only [↓S0, S1, Try.fx, uPQ_1, Nat.reduceAdd, Nat.reducePow, Int.reducePow, Nat.reduceBEq, ↓reduceIte, UInt8.reduceToNat, UInt16.reduceToNat, UInt32.reduceToNat, UInt64.reduceToNat, Int.reduceToNat, sc1, sc2, lnl, Bool.not_true]
  have hNe2 : New w.heap.size ((b3, Obj.cells (comC c.tree p c.text).toArray 27 (0, 0)) :: (b5, entO rest2 l) :: (b7, Obj.cells (comC c.tree v6 c.text).toArray 27 (0, 0)) :: (b8, Obj.cells #[vi (if entsOk Z then 2 else 0), vs (if entsOk Z then treeB Z else [])] 31 (0, 0)) :: (b10, Obj.cells #[vi (if comOk c then 3 else 0), vs (if comOk c then comB c else [])] 31 (0, 0)) :: (D6 ++ (J ++ [(b12, Obj.cells ((List.replicate 2 ent0).map entC).flatten.toArray 45 (0, 0))]))) := ⟨hw3, hw5, hw7, hw8, hw10, hD6.app (hJ.app ⟨hw12, trivial⟩)⟩
  refine Ow.callFV rfl Try.call19 (fun w' hw' => SameIds_spec _ _ c.par c.par w' (hG6.slM (fun b o hm => hw'.has b o (by simp [hm])) rfl rfl idLC_len') (hp.oldN hw' hNe2) (by omega) (by omega)) ?_
  rw [show decide (c.par = c.par) = true from decide_eq_true rfl]
  refine Ow.goQ ?_
  simp (disch := (first | assumption | omega | (simp only [lenS, lenT, UInt64.reduceToNat]; try omega))) only [↓S0, S1, Try.fx, uPQ_1, Nat.reduceAdd, Nat.reducePow, Int.reducePow, Nat.reduceBEq, ↓reduceIte, UInt8.reduceToNat, UInt16.reduceToNat, UInt32.reduceToNat, UInt64.reduceToNat, Int.reduceToNat, Bool.not_true]
  ((try with_reducible refine Cw.go [] ?_); (try simp (disch := (first | assumption | omega | (simp only [lenS, lenT, UInt64.reduceToNat]; try omega))) only [↓S0, S1, Try.fx, uPQ_1, Nat.reduceAdd, Nat.reducePow, Int.reducePow, Nat.reduceBEq, ↓reduceIte, UInt8.reduceToNat, UInt16.reduceToNat, UInt32.reduceToNat, UInt64.reduceToNat, Int.reduceToNat]))
  have hJ2 : New w.heap.size (J ++ [(b12, Obj.cells ((List.replicate 2 ent0).map entC).flatten.toArray 45 (0, 0))]) := hJ.app ⟨hw12, trivial⟩
  generalize J ++ [(b12, Obj.cells ((List.replicate 2 ent0).map entC).flatten.toArray 45 (0, 0))] = J2 at hJ2 ⊢
  clear hNe2
  refine Cw.loopG (G := KpG) [84, 85, 86, 87, 90, 91, 92, 93, 88, 89, 12] (fun q => [(12, vi q.g)]) (fun q => (b3, Obj.cells (comC c.tree p c.text).toArray 27 (0, 0)) :: (b5, entO rest2 q.d) :: (b7, Obj.cells (comC c.tree v6 c.text).toArray 27 (0, 0)) :: (b8, Obj.cells #[vi (if entsOk Z then 2 else 0), vs (if entsOk Z then treeB Z else [])] 31 (0, 0)) :: (b10, Obj.cells #[vi (if comOk c then 3 else 0), vs (if comOk c then comB c else [])] 31 (0, 0)) :: (D6 ++ J2)) (fun q => q.d.length = l.length ∧ q.g ≤ l.length) (fun q => l.length - q.g) ⟨0, l⟩ rfl rfl ?_ ?_
  · exact ⟨rfl, Nat.zero_le _⟩
  · intro q jq hq
    simp only [overFrom, pin, setF_0, setF_s, List.contains_cons, List.contains_nil, Nat.reduceBEq, Bool.or_false, Bool.false_or, Bool.or_true, Bool.true_or, Nat.reduceAdd, ↓reduceIte, Bool.false_eq_true]
    obtain ⟨k, d⟩ := q
    simp only at hq ⊢
    obtain ⟨hdl, hk'⟩ := hq
    by_cases hk : k < l.length
    · have ste := fun a => store_entR (rest := rest2) (d := d) k ent0 a (by omega)
      ((try with_reducible refine Cw.go [] ?_); (try simp (disch := (first | assumption | omega | (simp only [lenS, lenT, UInt64.reduceToNat]; try omega))) only [↓S0, S1, Try.fx, uPQ_1, Nat.reduceAdd, Nat.reducePow, Int.reducePow, Nat.reduceBEq, ↓reduceIte, UInt8.reduceToNat, UInt16.reduceToNat, UInt32.reduceToNat, UInt64.reduceToNat, Int.reduceToNat]))
      refine Ow.build (.agg (entC ent0).toArray) rfl build_ent00 ?_
      refine Ow.go rfl ?_
      simp (disch := (first | assumption | omega | (simp only [lenS, lenT, UInt64.reduceToNat]; try omega))) only [↓S0, S1, Try.fx, uPQ_1, Nat.reduceAdd, Nat.reducePow, Int.reducePow, Nat.reduceBEq, ↓reduceIte, UInt8.reduceToNat, UInt16.reduceToNat, UInt32.reduceToNat, UInt64.reduceToNat, Int.reduceToNat, ste]
      ((try with_reducible refine Cw.go [] ?_); (try simp (disch := (first | assumption | omega | (simp only [lenS, lenT, UInt64.reduceToNat]; try omega))) only [↓S0, S1, Try.fx, uPQ_1, Nat.reduceAdd, Nat.reducePow, Int.reducePow, Nat.reduceBEq, ↓reduceIte, UInt8.reduceToNat, UInt16.reduceToNat, UInt32.reduceToNat, UInt64.reduceToNat, Int.reduceToNat]))
      exact Again.mk (KpG.mk (k + 1) (d.set k ent0)) (by show l.length - (k + 1) < l.length - k; omega) ⟨by show (d.set k ent0).length = l.length; rw [List.length_set]; exact hdl, by show k + 1 ≤ l.length; omega⟩ rfl rfl
    · obtain rfl : k = l.length := by omega
      ((try with_reducible refine Cw.go [] ?_); (try simp (disch := (first | assumption | omega | (simp only [lenS, lenT, UInt64.reduceToNat]; try omega))) only [↓S0, S1, Try.fx, uPQ_1, Nat.reduceAdd, Nat.reducePow, Int.reducePow, Nat.reduceBEq, ↓reduceIte, UInt8.reduceToNat, UInt16.reduceToNat, UInt32.reduceToNat, UInt64.reduceToNat, Int.reduceToNat]))
      have hK : New w.heap.size ((b5, entO rest2 d) :: (b7, Obj.cells (comC c.tree v6 c.text).toArray 27 (0, 0)) :: J2) := ⟨hw5, hw7, hJ2⟩
      refine Cw.permL (M := (b3, Obj.cells (comC c.tree p c.text).toArray 27 (0, 0)) :: (b8, Obj.cells #[vi (if entsOk Z then 2 else 0), vs (if entsOk Z then treeB Z else [])] 31 (0, 0)) :: (b10, Obj.cells #[vi (if comOk c then 3 else 0), vs (if comOk c then comB c else [])] 31 (0, 0)) :: (D6 ++ ((b5, entO rest2 d) :: (b7, Obj.cells (comC c.tree v6 c.text).toArray 27 (0, 0)) :: J2))) (by classical exact List.perm_iff_count.2 fun a => by simp only [List.count_append, List.count_cons, List.count_nil] <;> omega) ?_
      generalize (b5, entO rest2 d) :: (b7, Obj.cells (comC c.tree v6 c.text).toArray 27 (0, 0)) :: J2 = K at hK ⊢
      refine Cw.cut (G := Heap) 135 (fun g => [(0, v), (3, vp b3 0), (4, .bool false), (8, vp b8 0), (9, vi (if entsOk Z then 0 else 1)), (10, vp b10 0), (11, vi (if comOk c then 0 else 1))]) (fun g => (b3, Obj.cells (comC c.tree p c.text).toArray 27 (0, 0)) :: (b8, Obj.cells #[vi (if entsOk Z then 2 else 0), vs (if entsOk Z then treeB Z else [])] 31 (0, 0)) :: (b10, Obj.cells #[vi (if comOk c then 3 else 0), vs (if comOk c then comB c else [])] 31 (0, 0)) :: g) (fun g => New w.heap.size g) ?_ ?_
      · have lng := hG6.len
        by_cases h0 : c.par.length = 0
        · ((try with_reducible refine Cw.go [] ?_); (try simp (disch := (first | assumption | omega | (simp only [lenS, lenT, UInt64.reduceToNat]; try omega))) only [↓S0, S1, Try.fx, uPQ_1, Nat.reduceAdd, Nat.reducePow, Int.reducePow, Nat.reduceBEq, ↓reduceIte, UInt8.reduceToNat, UInt16.reduceToNat, UInt32.reduceToNat, UInt64.reduceToNat, Int.reduceToNat]))
          refine Cw.loopG (G := Nat) [94, 95, 96, 97, 100, 101, 102, 103, 98, 99, 13] (fun g => [(13, vi g)]) (fun g => (b3, Obj.cells (comC c.tree p c.text).toArray 27 (0, 0)) :: (b8, Obj.cells #[vi (if entsOk Z then 2 else 0), vs (if entsOk Z then treeB Z else [])] 31 (0, 0)) :: (b10, Obj.cells #[vi (if comOk c then 3 else 0), vs (if comOk c then comB c else [])] 31 (0, 0)) :: (D6 ++ K)) (fun g => g = 0) (fun g => 0) 0 rfl rfl ?_ ?_
          · rfl
          · intro i ji hi
            simp only [overFrom, pin, setF_0, setF_s, List.contains_cons, List.contains_nil, Nat.reduceBEq, Bool.or_false, Bool.false_or, Bool.or_true, Bool.true_or, Nat.reduceAdd, ↓reduceIte, Bool.false_eq_true]
            subst hi
            have d9 : decide (((0 : Nat) : Int) < (c.par.length : Int)) = false := decide_eq_false (by omega)
            ((try with_reducible refine Cw.go [] ?_); (try simp (disch := (first | assumption | omega | (simp only [lenS, lenT, UInt64.reduceToNat]; try omega))) only [↓S0, S1, Try.fx, uPQ_1, Nat.reduceAdd, Nat.reducePow, Int.reducePow, Nat.reduceBEq, ↓reduceIte, UInt8.reduceToNat, UInt16.reduceToNat, UInt32.reduceToNat, UInt64.reduceToNat, Int.reduceToNat, lng, d9]))
            exact CutM.mk (D6 ++ K) (hD6.app hK) rfl rfl
        · obtain ⟨cb, cc, rest, hv6, hlc⟩ := Gr.rows hG6 (by omega)
          obtain ⟨D7, hP7⟩ := look_perm hlc
          have hc8 : cb < b8 := hcb8 cb (key_of_look hlc)
          have hc3 : b3 < cb := by
            rcases hk2 cb (key_of_look hlc) with h | h
            · simp only [keys, List.map_cons, List.map_nil, List.mem_singleton] at h
              have := above_to hb44 (b := b3) (by simp [keys]); omega
            · have := above_to hA6 (b := b3) (by simp [keys]); omega
          have hc10 : cb < b10 := by omega
          have hD7 : New w.heap.size D7 := (hD6.perm hP7).2
          have hwc : w.heap.size ≤ cb := hD6.le cb (key_of_look hlc)
          subst hv6
          ((try with_reducible refine Cw.go [] ?_); (try simp (disch := (first | assumption | omega | (simp only [lenS, lenT, UInt64.reduceToNat]; try omega))) only [↓S0, S1, Try.fx, uPQ_1, Nat.reduceAdd, Nat.reducePow, Int.reducePow, Nat.reduceBEq, ↓reduceIte, UInt8.reduceToNat, UInt16.reduceToNat, UInt32.reduceToNat, UInt64.reduceToNat, Int.reduceToNat]))
          refine Cw.permL (M := (b3, Obj.cells (comC c.tree p c.text).toArray 27 (0, 0)) :: (b8, Obj.cells #[vi (if entsOk Z then 2 else 0), vs (if entsOk Z then treeB Z else [])] 31 (0, 0)) :: (b10, Obj.cells #[vi (if comOk c then 3 else 0), vs (if comOk c then comB c else [])] 31 (0, 0)) :: (cb, idRO rest c.par) :: (D7 ++ K)) (by
            have h1 := hP7.append_right K
            rw [List.cons_append] at h1
            exact (((h1.cons _).cons _).cons _).symm) ?_
          refine Cw.loopG (G := KpH) [94, 95, 96, 97, 100, 101, 102, 103, 98, 99, 13] (fun q => [(13, vi q.g)]) (fun q => (b3, Obj.cells (comC c.tree p c.text).toArray 27 (0, 0)) :: (b8, Obj.cells #[vi (if entsOk Z then 2 else 0), vs (if entsOk Z then treeB Z else [])] 31 (0, 0)) :: (b10, Obj.cells #[vi (if comOk c then 3 else 0), vs (if comOk c then comB c else [])] 31 (0, 0)) :: (cb, idRO rest q.d) :: (D7 ++ K)) (fun q => q.d.length = c.par.length ∧ q.g ≤ c.par.length) (fun q => c.par.length - q.g) ⟨0, c.par⟩ rfl rfl ?_ ?_
          · exact ⟨rfl, Nat.zero_le _⟩
          · intro q jq hq
            simp only [overFrom, pin, setF_0, setF_s, List.contains_cons, List.contains_nil, Nat.reduceBEq, Bool.or_false, Bool.false_or, Bool.or_true, Bool.true_or, Nat.reduceAdd, ↓reduceIte, Bool.false_eq_true]
            obtain ⟨k, e⟩ := q
            simp only at hq ⊢
            obtain ⟨hel, hk'⟩ := hq
            by_cases hk : k < c.par.length
            · have sti := fun a => store_idRO (rest := rest) (d := e) k id9 a (by omega)
              ((try with_reducible refine Cw.go [] ?_); (try simp (disch := (first | assumption | omega | (simp only [lenS, lenT, UInt64.reduceToNat]; try omega))) only [↓S0, S1, Try.fx, uPQ_1, Nat.reduceAdd, Nat.reducePow, Int.reducePow, Nat.reduceBEq, ↓reduceIte, UInt8.reduceToNat, UInt16.reduceToNat, UInt32.reduceToNat, UInt64.reduceToNat, Int.reduceToNat]))
              refine Ow.build (.agg (a8 id9.l)) rfl build_id9 ?_
              refine Ow.go rfl ?_
              simp (disch := (first | assumption | omega | (simp only [lenS, lenT, UInt64.reduceToNat]; try omega))) only [↓S0, S1, Try.fx, uPQ_1, Nat.reduceAdd, Nat.reducePow, Int.reducePow, Nat.reduceBEq, ↓reduceIte, UInt8.reduceToNat, UInt16.reduceToNat, UInt32.reduceToNat, UInt64.reduceToNat, Int.reduceToNat, sti]
              ((try with_reducible refine Cw.go [] ?_); (try simp (disch := (first | assumption | omega | (simp only [lenS, lenT, UInt64.reduceToNat]; try omega))) only [↓S0, S1, Try.fx, uPQ_1, Nat.reduceAdd, Nat.reducePow, Int.reducePow, Nat.reduceBEq, ↓reduceIte, UInt8.reduceToNat, UInt16.reduceToNat, UInt32.reduceToNat, UInt64.reduceToNat, Int.reduceToNat]))
              exact Again.mk (KpH.mk (k + 1) (e.set k id9)) (by show c.par.length - (k + 1) < c.par.length - k; omega) ⟨by show (e.set k id9).length = c.par.length; rw [List.length_set]; exact hel, by show k + 1 ≤ c.par.length; omega⟩ rfl rfl
            · obtain rfl : k = c.par.length := by omega
              ((try with_reducible refine Cw.go [] ?_); (try simp (disch := (first | assumption | omega | (simp only [lenS, lenT, UInt64.reduceToNat]; try omega))) only [↓S0, S1, Try.fx, uPQ_1, Nat.reduceAdd, Nat.reducePow, Int.reducePow, Nat.reduceBEq, ↓reduceIte, UInt8.reduceToNat, UInt16.reduceToNat, UInt32.reduceToNat, UInt64.reduceToNat, Int.reduceToNat]))
              exact CutM.mk ((cb, idRO rest e) :: (D7 ++ K)) ⟨hwc, hD7.app hK⟩ rfl rfl
      · intro G jG hG
        simp only [allF_s, allF_0, pin, setF_0, setF_s, Nat.reduceAdd]
        ((try with_reducible refine Cw.go [] ?_); (try simp (disch := (first | assumption | omega | (simp only [lenS, lenT, UInt64.reduceToNat]; try omega))) only [↓S0, S1, Try.fx, uPQ_1, Nat.reduceAdd, Nat.reducePow, Int.reducePow, Nat.reduceBEq, ↓reduceIte, UInt8.reduceToNat, UInt16.reduceToNat, UInt32.reduceToNat, UInt64.reduceToNat, Int.reduceToNat]))
        refine Ow.callC rfl rfl Try.call11 (fun w' hw' => TreeO_spec v l w' (hl.oldN hw' ⟨hw3, hw8, hw10, hG⟩) (by omega) (fun e he => by have := hl100 e he; omega)) (fun B3' v3 D3 hA3 hB3 hN3 hS3 => ?_)
        obtain ⟨Z2, hZ2, rfl⟩ := hS3
        obtain rfl := hZ.eq hZ2
        rw [t1, t2, t3]
        have hD3 : New w.heap.size D3 := New.mono hB3 hN3
        refine Ow.go rfl ?_
        simp (disch := (first | assumption | omega | (simp only [lenS, lenT, UInt64.reduceToNat]; try omega))) only [↓S0, S1, Try.fx, uPQ_1, Nat.reduceAdd, Nat.reducePow, Int.reducePow, Nat.reduceBEq, ↓reduceIte, UInt8.reduceToNat, UInt16.reduceToNat, UInt32.reduceToNat, UInt64.reduceToNat, Int.reduceToNat]
        refine Ow.alloc rfl rfl zrOb fun b14 hb14 hw14 => ?_
        simp only [cells_agg, List.nil_append, List.cons_append]
        have h314 : b3 < b14 := above_to hb14 (by simp [keys])
        have h814 : b8 < b14 := above_to hb14 (by simp [keys])
        have h1014 : b10 < b14 := above_to hb14 (by simp [keys])
        refine Ow.permL (M := (b3, Obj.cells (comC c.tree p c.text).toArray 27 (0, 0)) :: (b8, Obj.cells #[vi (if entsOk Z then 2 else 0), vs (if entsOk Z then treeB Z else [])] 31 (0, 0)) :: (b10, Obj.cells #[vi (if comOk c then 3 else 0), vs (if comOk c then comB c else [])] 31 (0, 0)) :: (b14, Obj.cells #[vi 0, vs []] 31 (0, 0)) :: (G ++ D3)) (by classical exact List.perm_iff_count.2 fun a => by simp only [List.count_append, List.count_cons, List.count_nil] <;> omega) ?_
        have hG3 : New w.heap.size (G ++ D3) := hG.app hD3
        generalize G ++ D3 = G2 at hG3 ⊢
        refine Ow.go rfl ?_
        simp (disch := (first | assumption | omega | (simp only [lenS, lenT, UInt64.reduceToNat]; try omega))) only [↓S0, S1, Try.fx, uPQ_1, Nat.reduceAdd, Nat.reducePow, Int.reducePow, Nat.reduceBEq, ↓reduceIte, UInt8.reduceToNat, UInt16.reduceToNat, UInt32.reduceToNat, UInt64.reduceToNat, Int.reduceToNat]
        ((try with_reducible refine Cw.go [] ?_); (try simp (disch := (first | assumption | omega | (simp only [lenS, lenT, UInt64.reduceToNat]; try omega))) only [↓S0, S1, Try.fx, uPQ_1, Nat.reduceAdd, Nat.reducePow, Int.reducePow, Nat.reduceBEq, ↓reduceIte, UInt8.reduceToNat, UInt16.reduceToNat, UInt32.reduceToNat, UInt64.reduceToNat, Int.reduceToNat]))
        refine Ow.callC rfl rfl Try.call12 (fun w' hw' => CommitO_spec _ c w' (hc.oldN hw' ⟨hw3, hw8, hw10, hw14, hG3⟩) (by omega) (by omega)) (fun B4 v4 D4 hA4 hB4 hN4 hS4 => ?_)
        rw [q1, q2, q3] at hS4
        subst hS4
        have hD4 : New w.heap.size D4 := New.mono hB4 hN4
        refine Ow.go rfl ?_
        simp (disch := (first | assumption | omega | (simp only [lenS, lenT, UInt64.reduceToNat]; try omega))) only [↓S0, S1, Try.fx, uPQ_1, Nat.reduceAdd, Nat.reducePow, Int.reducePow, Nat.reduceBEq, ↓reduceIte, UInt8.reduceToNat, UInt16.reduceToNat, UInt32.reduceToNat, UInt64.reduceToNat, Int.reduceToNat]
        refine Ow.alloc rfl rfl zrOb fun b16 hb16 hw16 => ?_
        simp only [cells_agg, List.nil_append, List.cons_append]
        have h316 : b3 < b16 := above_to hb16 (by simp [keys])
        have h816 : b8 < b16 := above_to hb16 (by simp [keys])
        have h1016 : b10 < b16 := above_to hb16 (by simp [keys])
        have h1416 : b14 < b16 := above_to hb16 (by simp [keys])
        refine Ow.permL (M := (b3, Obj.cells (comC c.tree p c.text).toArray 27 (0, 0)) :: (b8, Obj.cells #[vi (if entsOk Z then 2 else 0), vs (if entsOk Z then treeB Z else [])] 31 (0, 0)) :: (b10, Obj.cells #[vi (if comOk c then 3 else 0), vs (if comOk c then comB c else [])] 31 (0, 0)) :: (b14, Obj.cells #[vi (if entsOk Z then 2 else 0), vs (if entsOk Z then treeB Z else [])] 31 (0, 0)) :: (b16, Obj.cells #[vi 0, vs []] 31 (0, 0)) :: (G2 ++ D4)) (by classical exact List.perm_iff_count.2 fun a => by simp only [List.count_append, List.count_cons, List.count_nil] <;> omega) ?_
        have hG4 : New w.heap.size (G2 ++ D4) := hG3.app hD4
        generalize G2 ++ D4 = G4 at hG4 ⊢
        refine Ow.go rfl ?_
        simp (disch := (first | assumption | omega | (simp only [lenS, lenT, UInt64.reduceToNat]; try omega))) only [↓S0, S1, Try.fx, uPQ_1, Nat.reduceAdd, Nat.reducePow, Int.reducePow, Nat.reduceBEq, ↓reduceIte, UInt8.reduceToNat, UInt16.reduceToNat, UInt32.reduceToNat, UInt64.reduceToNat, Int.reduceToNat]
        ((try with_reducible refine Cw.go [] ?_); (try simp (disch := (first | assumption | omega | (simp only [lenS, lenT, UInt64.reduceToNat]; try omega))) only [↓S0, S1, Try.fx, uPQ_1, Nat.reduceAdd, Nat.reducePow, Int.reducePow, Nat.reduceBEq, ↓reduceIte, UInt8.reduceToNat, UInt16.reduceToNat, UInt32.reduceToNat, UInt64.reduceToNat, Int.reduceToNat]))
        refine Ow.callFV rfl Try.call8 (fun w' hw' => alive_spec w') ?_
        generalize (if entsOk Z then (2 : Int) else 0) = x1
        generalize (if entsOk Z then treeB Z else []) = x2
        generalize (if entsOk Z then (0 : Int) else 1) = x3
        generalize (if comOk c then (3 : Int) else 0) = y1
        generalize (if comOk c then comB c else []) = y2
        generalize (if comOk c then (0 : Int) else 1) = y3
        refine Ow.go rfl ?_
        simp (disch := (first | assumption | omega | (simp only [lenS, lenT, UInt64.reduceToNat]; try omega))) only [↓S0, S1, Try.fx, uPQ_1, Nat.reduceAdd, Nat.reducePow, Int.reducePow, Nat.reduceBEq, ↓reduceIte, UInt8.reduceToNat, UInt16.reduceToNat, UInt32.reduceToNat, UInt64.reduceToNat, Int.reduceToNat]
        ((try with_reducible refine Cw.go [] ?_); (try simp (disch := (first | assumption | omega | (simp only [lenS, lenT, UInt64.reduceToNat]; try omega))) only [↓S0, S1, Try.fx, uPQ_1, Nat.reduceAdd, Nat.reducePow, Int.reducePow, Nat.reduceBEq, ↓reduceIte, UInt8.reduceToNat, UInt16.reduceToNat, UInt32.reduceToNat, UInt64.reduceToNat, Int.reduceToNat]))
        refine ⟨_, (by simp (disch := (first | assumption | omega | (simp only [lenS, lenT, UInt64.reduceToNat]; try omega))) only [↓S0, S1, Try.fx, uPQ_1, Nat.reduceAdd, Nat.reducePow, Int.reducePow, Nat.reduceBEq, ↓reduceIte, UInt8.reduceToNat, UInt16.reduceToNat, UInt32.reduceToNat, UInt64.reduceToNat, Int.reduceToNat]; rfl), ⟨hw3, hw8, hw10, hw14, hw16, hG4⟩, ?_⟩
        rfl
end Go.Proofs
end
