/-
  Part 4 of the walk: contracts of the functions that the law reaches, and the calculus they stand on.
  No conditions.
-/
import Derived.Test.YteppologbikipaaDoorA3
open Go Go.Proofs Go.Sx Go.RefP
namespace Go.Proofs
set_option maxRecDepth 10000
set_option maxHeartbeats 4000000
set_option linter.unusedSimpArgs false
theorem zrBk : zeroV Tryd.prog 25 = some (.agg #[.slice none 0 0, .slice none 0 0]) := id (by kernel_rfl)
theorem store_bk (p q x y : Value) (E : TypeId) (hx : Value.oneCell' x = true) (hy : Value.oneCell' y = true) : storeV (some (true, 2)) (some (.cells #[p, q] E (0, 0))) 0 (.agg #[x, y]) = some (.cells #[x, y] E (0, 0)) :=
  store_all 2 true #[x, y] #[p, q] E ⟨rfl, rfl⟩ (by simp [hx, hy])
theorem store_bk0 (p q : Value) (E : TypeId) : storeV (some (true, 2)) (some (.cells #[p, q] E (0, 0))) 0 (.agg #[.slice none 0 0, .slice none 0 0]) = some (.cells #[.slice none 0 0, .slice none 0 0] E (0, 0)) := store_bk _ _ _ _ E rfl rfl
/-- What Add hands back. -/
def AddS (n : Nat) (t l : List RefL) (nm : List UInt8) (id : IdL) (v : Value) (D : Heap) : Prop :=
  if rightB t l = true ∧ nameV nm = true then
    (if rightB t (l ++ [⟨nm, id⟩]) = true then ∃ vt vl, v = .tuple #[.agg #[vt, vl], vs (recordV (entryB ⟨nm, id⟩)), vi 0] ∧ GrI D 42 33 vt t.length (t.map refC).flatten ∧ GrI D 42 33 vl (l.length + 1) ((l ++ [(⟨nm, id⟩ : RefL)]).map refC).flatten
     else v = .tuple #[.agg #[.slice none 0 0, .slice none 0 0], vs [], vi 18])
  else v = .tuple #[.agg #[.slice none 0 0, .slice none 0 0], vs [], vi 1]
theorem AddS.arg {n : Nat} {t l : List RefL} {nm : List UInt8} {id : IdL} {D : Heap} (h : ¬ (rightB t l = true ∧ nameV nm = true)) : AddS n t l nm id (.tuple #[.agg #[.slice none 0 0, .slice none 0 0], vs [], vi 1]) D := by
  unfold AddS; rw [if_neg h]
theorem AddS.full {n : Nat} {t l : List RefL} {nm : List UInt8} {id : IdL} {D : Heap} (h : rightB t l = true ∧ nameV nm = true) (h2 : rightB t (l ++ [(⟨nm, id⟩ : RefL)]) = false) : AddS n t l nm id (.tuple #[.agg #[.slice none 0 0, .slice none 0 0], vs [], vi 18]) D := by
  unfold AddS; rw [if_pos h, if_neg (by rw [h2]; simp)]
theorem AddS.ok {n : Nat} {t l : List RefL} {nm : List UInt8} {id : IdL} {D : Heap} {vt vl : Value} (h : rightB t l = true ∧ nameV nm = true) (h2 : rightB t (l ++ [(⟨nm, id⟩ : RefL)]) = true) (h3 : GrI D 42 33 vt t.length (t.map refC).flatten) (h4 : GrI D 42 33 vl (l.length + 1) ((l ++ [(⟨nm, id⟩ : RefL)]).map refC).flatten) :
    AddS n t l nm id (.tuple #[.agg #[vt, vl], vs (recordV (entryB ⟨nm, id⟩)), vi 0]) D := by
  unfold AddS; rw [if_pos h, if_pos h2]; exact ⟨vt, vl, rfl, h3, h4⟩
theorem build_bk (x y : Value) (hx : x.cells = #[x]) (hy : y.cells = #[y]) : buildV (plcT Tryd.prog 25) (zeroV Tryd.prog 25) [(0, x), (1, y)] = some (.agg #[x, y]) := by
  have hp : plcT Tryd.prog 25 = some [(0, 1), (1, 1)] := id (by kernel_rfl)
  rw [hp, zrBk]
  simp [buildV, fillV, hx, hy, putC]
theorem sliceRef (r : RefL) : sliceB Tryd.prog 23 1 [(0, .agg (refC r).toArray)] = some (42, (refC r).toArray) :=
  slice_one Tryd.underlying23 (id (by kernel_rfl)) zrRef (by decide) (refC_len r)
theorem newE {z : Obj} {n : Nat} {E : Heap} {p : Nat → Prop} (h : E = [] ∨ ∃ b, E = [(b, z)] ∧ n ≤ b ∧ p b) : New n E := by
  rcases h with rfl | ⟨b, rfl, hb, -⟩
  · trivial
  · exact ⟨hb, trivial⟩
structure AG where
  D1 : Heap
  D2 : Heap
  v1 : Value
  v2 : Value
  b7 : Nat
theorem Add_spec (vt vl : Value) (t l : List RefL) (nm : List UInt8) (id : IdL) (w : World) (hG : GlobC w) (ht : RefSl w vt t) (hl : RefSl w vl l) (htl : t.length < 1000) (hll : l.length < 1000) (hnt : ShortN t) (hnl : ShortN l) (hnm : nm.length < 1000000) :
    Rets Tryd.prog 14 #[.agg #[vt, vl], vs nm, .agg (a8 id.l)] w (XS w [] (AddS w.heap.size t l nm id)) := by
  have hil := id.h
  have hglt : (3 : Nat) < w.heap.size := by obtain ⟨e, f, h⟩ := hG; exact (Array.getElem?_eq_some_iff.1 h).1
  refine Rets.enterX Tryd.func14 rfl (rs := [.cell 6 25, .tmp 7, .tmp 8]) Tryd.results14 Tryd.ntmps14 (fun p hp => by cases hp) (by simp [keys]) ?_
  simp only [List.size_toArray, List.length_cons, List.length_nil, Nat.reduceAdd, Nat.reduceSub, List.replicate_succ, List.replicate_zero, List.cons_append, List.nil_append]
  repeat' first | with_reducible (first | refine Cw.seq ?_ | refine thenK_normal ?_ | refine Ow.nil ?_) | ((with_reducible refine Cw.region (Ow.run rfl fun k hk => ?_)); simp (disch := (first | omega | (simp only [lenS, lenT, UInt64.reduceToNat] ; try omega))) only [↓vcL_none, ↓vcB_box, lit_str, lit_i64]; (with_reducible refine hk _ _ _ _ ?_); clear hk k) | with_reducible (first | refine Cw.block ?_ | refine Cw.skip ?_ | refine Cw.exit ?_ | refine Cw.ret ?_ | refine thenK_exit ?_ | refine thenK_ret ?_ | refine blockK_normal ?_ | refine blockK_ret ?_ | refine blockK_exit ?_ | refine blockK_pass rfl ?_) | ((with_reducible refine Cw.condC ?_); first | refine CwC.pt rfl (by omega) ?_ | refine CwC.pf rfl (by omega) ?_ | refine CwC.it rfl (by omega) ?_ | refine CwC.if rfl (by omega) ?_ | refine CwC.nt rfl (by omega) ?_ | refine CwC.nf rfl (by omega) ?_ | refine CwC.tt rfl ?_ | refine CwC.ff rfl ?_ | refine CwC.bt rfl (by assumption) ?_ | (refine CwC.bf rfl ?_ ?_; focus assumption))
  refine Ow.box rfl rfl fun bx hbx hwx => ?_
  simp only [ev_tmp, getF_0, getF_s, cells_agg, List.nil_append, List.cons_append]
  refine Ow.run rfl fun k hk => ?_
  simp (disch := (first | omega | (simp only [lenS, lenT, UInt64.reduceToNat] ; try omega))) only [↓vcL_none, ↓vcB_box, putF_some, setF_s, setF_0]
  (with_reducible refine hk _ _ _ _ ?_); clear hk k
  refine Ow.box rfl rfl fun bi hbi hwi => ?_
  simp only [ev_tmp, getF_0, getF_s, cells_agg, List.nil_append, List.cons_append]
  refine Ow.run rfl fun k hk => ?_
  simp (disch := (first | omega | (simp only [lenS, lenT, UInt64.reduceToNat] ; try omega))) only [↓vcL_none, ↓vcB_alloc, putF_some, setF_s, setF_0]
  (with_reducible refine hk _ _ _ _ ?_); clear hk k
  obtain ⟨hxi, -⟩ := hbi
  refine Ow.alloc rfl rfl zrBk fun br hbr hwr => ?_
  simp only [cells_agg, List.nil_append, List.cons_append]
  obtain ⟨hxr, hir, -⟩ := hbr
  refine Ow.run rfl fun k hk => ?_
  simp (disch := (first | omega | (simp only [lenS, lenT, UInt64.reduceToNat] ; try omega))) only [↓vcL_none, ↓vcB_assign, ↓ov_some, putF_some, setF_s, setF_0, ↓ev_const, nf_cons, ↓vcL_nil, Md.next_seq]
  (with_reducible refine hk _ _ _ _ ?_); clear hk k
  repeat' first | with_reducible (first | refine Cw.seq ?_ | refine thenK_normal ?_ | refine Ow.nil ?_) | ((with_reducible refine Cw.region (Ow.run rfl fun k hk => ?_)); simp (disch := (first | omega | (simp only [lenS, lenT, UInt64.reduceToNat] ; try omega))) only [↓vcL_none, ↓vcB_load, rd_seq_load, ↓ib_true, Tryd.ag25, ↓ev_tmp, ↓getF_s, ↓getF_0, loadAt_p, read_same, load_bk, ↓ov_some, putF_some, setF_s, setF_0, nf_cons, ↓vcB_call, Md.next_seq]; (with_reducible refine hk _ _ _ _ ?_); clear hk k) | with_reducible (first | refine Cw.block ?_ | refine Cw.skip ?_ | refine Cw.exit ?_ | refine Cw.ret ?_ | refine thenK_exit ?_ | refine thenK_ret ?_ | refine blockK_normal ?_ | refine blockK_ret ?_ | refine blockK_exit ?_ | refine blockK_pass rfl ?_) | ((with_reducible refine Cw.condC ?_); first | refine CwC.pt rfl (by omega) ?_ | refine CwC.pf rfl (by omega) ?_ | refine CwC.it rfl (by omega) ?_ | refine CwC.if rfl (by omega) ?_ | refine CwC.nt rfl (by omega) ?_ | refine CwC.nf rfl (by omega) ?_ | refine CwC.tt rfl ?_ | refine CwC.ff rfl ?_ | refine CwC.bt rfl (by assumption) ?_ | (refine CwC.bf rfl ?_ ?_; focus assumption))
  refine Ow.callFV rfl Tryd.call36 (fun w' hw' => Right_spec vt vl t l w' (ht.oldN hw' ⟨hwx, hwi, hwr, trivial⟩) (hl.oldN hw' ⟨hwx, hwi, hwr, trivial⟩) (by omega) (by omega) hnt hnl) ?_
  cases hr : rightB t l
  · refine Ow.run rfl fun k hk => ?_
    simp (disch := (first | omega | (simp only [lenS, lenT, UInt64.reduceToNat] ; try omega))) only [↓vcL_none, ↓vcB_unOp, ↓ev_tmp, putF_some, setF_s, setF_0, ↓getF_s, ↓getF_0, un_not, Bool.not_false, ↓ov_some, nf_cons, ↓vcB_move, ↓vcL_some, yieldF_lit, ↓nthO_s, ↓nthO_0, yieldL_some, boolOf_b, some_beq, beq_false, Bool.not_true, ↓ib_false, ↓vcB_pick, ↓ev_const, pick_t, ↓vcL_nil, Md.next_seq]
    (with_reducible refine hk _ _ _ _ ?_); clear hk k
    repeat' first | with_reducible (first | refine Cw.seq ?_ | refine thenK_normal ?_ | refine Ow.nil ?_) | ((with_reducible refine Cw.region (Ow.run rfl fun k hk => ?_)); simp (disch := (first | omega | (simp only [lenS, lenT, UInt64.reduceToNat] ; try omega))) only [↓vcL_none, ↓vcB_build, lit_str, lit_i64]; (with_reducible refine hk _ _ _ _ ?_); clear hk k) | with_reducible (first | refine Cw.block ?_ | refine Cw.skip ?_ | refine Cw.exit ?_ | refine Cw.ret ?_ | refine thenK_exit ?_ | refine thenK_ret ?_ | refine blockK_normal ?_ | refine blockK_ret ?_ | refine blockK_exit ?_ | refine blockK_pass rfl ?_) | ((with_reducible refine Cw.condC ?_); first | refine CwC.pt rfl (by omega) ?_ | refine CwC.pf rfl (by omega) ?_ | refine CwC.it rfl (by omega) ?_ | refine CwC.if rfl (by omega) ?_ | refine CwC.nt rfl (by omega) ?_ | refine CwC.nf rfl (by omega) ?_ | refine CwC.tt rfl ?_ | refine CwC.ff rfl ?_ | refine CwC.bt rfl (by assumption) ?_ | (refine CwC.bf rfl ?_ ?_; focus assumption))
    refine Ow.build (.agg #[.slice none 0 0, .slice none 0 0]) rfl (by kernel_rfl) ?_
    refine Ow.run rfl fun k hk => ?_
    simp (disch := (first | omega | (simp only [lenS, lenT, UInt64.reduceToNat] ; try omega))) only [↓vcL_none, ↓vcB_store, Tryd.ag25, ↓ev_tmp, putF_some, setF_s, setF_0, ↓getF_s, ↓getF_0, storeAt_p, look_other, look_same, store_bk0, upd_some, setB_other, setB_same, oh_some, ↓vcB_assign, ↓ov_some, ↓ev_const, nf_cons, ↓vcL_nil, Md.next_seq, nh_cons]
    (with_reducible refine hk _ _ _ _ ?_); clear hk k
    repeat' first | with_reducible (first | refine Cw.seq ?_ | refine thenK_normal ?_ | refine Ow.nil ?_) | ((with_reducible refine Cw.region (Ow.run rfl fun k hk => ?_)); simp (disch := (first | omega | (simp only [lenS, lenT, UInt64.reduceToNat] ; try omega))) only []; (with_reducible refine hk _ _ _ _ ?_); clear hk k) | with_reducible (first | refine Cw.block ?_ | refine Cw.skip ?_ | refine Cw.exit ?_ | refine Cw.ret ?_ | refine thenK_exit ?_ | refine thenK_ret ?_ | refine blockK_normal ?_ | refine blockK_ret ?_ | refine blockK_exit ?_ | refine blockK_pass rfl ?_) | ((with_reducible refine Cw.condC ?_); first | refine CwC.pt rfl (by omega) ?_ | refine CwC.pf rfl (by omega) ?_ | refine CwC.it rfl (by omega) ?_ | refine CwC.if rfl (by omega) ?_ | refine CwC.nt rfl (by omega) ?_ | refine CwC.nf rfl (by omega) ?_ | refine CwC.tt rfl ?_ | refine CwC.ff rfl ?_ | refine CwC.bt rfl (by assumption) ?_ | (refine CwC.bf rfl ?_ ?_; focus assumption))
    refine ⟨_, (by simp (disch := (first | omega | (simp only [lenS, lenT, UInt64.reduceToNat] ; try omega))) only [resVs_cons, resV_cell, Tryd.ag25, ↓getF_s, ↓getF_0, loadAt_p, read_other, read_same, load_bk, resV_tmp, resVs_nil, cons2_some]; rfl), ?_⟩
    refine ⟨Ext.of_new ⟨hwx, hwi, hwr, trivial⟩, ?_⟩
    exact AddS.arg (by simp [hr])
  · refine Ow.run rfl fun k hk => ?_
    simp (disch := (first | omega | (simp only [lenS, lenT, UInt64.reduceToNat] ; try omega))) only [↓vcL_none, ↓vcB_unOp, ↓ev_tmp, putF_some, setF_s, setF_0, ↓getF_s, ↓getF_0, un_not, Bool.not_true, ↓ov_some, nf_cons, ↓vcB_move, ↓vcL_some, yieldF_lit, ↓nthO_s, ↓nthO_0, yieldL_some, boolOf_b, beq_self_eq_true, ↓ib_true, ↓vcB_call, Md.next_seq]
    (with_reducible refine hk _ _ _ _ ?_); clear hk k
    refine Ow.callFV rfl Tryd.call59 (fun w' hw' => isNameV_spec nm w' (by omega)) ?_
    cases hn : nameV nm
    · refine Ow.run rfl fun k hk => ?_
      simp (disch := (first | omega | (simp only [lenS, lenT, UInt64.reduceToNat] ; try omega))) only [↓vcL_some, putF_some, setF_s, setF_0, yieldF_lit, ↓nthO_s, ↓nthO_0, yieldL_some, ↓getF_s, ↓getF_0, boolOf_b, beq_self_eq_true, ↓ib_true, ↓vcB_unOp, ↓ev_tmp, un_not, Bool.not_false, ↓ov_some, nf_cons, ↓vcL_none, ↓vcB_pick, ↓ev_const, pick_f, ↓vcL_nil, Md.next_seq]
      (with_reducible refine hk _ _ _ _ ?_); clear hk k
      repeat' first | with_reducible (first | refine Cw.seq ?_ | refine thenK_normal ?_ | refine Ow.nil ?_) | ((with_reducible refine Cw.region (Ow.run rfl fun k hk => ?_)); simp (disch := (first | omega | (simp only [lenS, lenT, UInt64.reduceToNat] ; try omega))) only [↓vcL_none, ↓vcB_build, lit_str, lit_i64]; (with_reducible refine hk _ _ _ _ ?_); clear hk k) | with_reducible (first | refine Cw.block ?_ | refine Cw.skip ?_ | refine Cw.exit ?_ | refine Cw.ret ?_ | refine thenK_exit ?_ | refine thenK_ret ?_ | refine blockK_normal ?_ | refine blockK_ret ?_ | refine blockK_exit ?_ | refine blockK_pass rfl ?_) | ((with_reducible refine Cw.condC ?_); first | refine CwC.pt rfl (by omega) ?_ | refine CwC.pf rfl (by omega) ?_ | refine CwC.it rfl (by omega) ?_ | refine CwC.if rfl (by omega) ?_ | refine CwC.nt rfl (by omega) ?_ | refine CwC.nf rfl (by omega) ?_ | refine CwC.tt rfl ?_ | refine CwC.ff rfl ?_ | refine CwC.bt rfl (by assumption) ?_ | (refine CwC.bf rfl ?_ ?_; focus assumption))
      refine Ow.build (.agg #[.slice none 0 0, .slice none 0 0]) rfl (by kernel_rfl) ?_
      refine Ow.run rfl fun k hk => ?_
      simp (disch := (first | omega | (simp only [lenS, lenT, UInt64.reduceToNat] ; try omega))) only [↓vcL_none, ↓vcB_store, Tryd.ag25, ↓ev_tmp, putF_some, setF_s, setF_0, ↓getF_s, ↓getF_0, storeAt_p, look_other, look_same, store_bk0, upd_some, setB_other, setB_same, oh_some, ↓vcB_assign, ↓ov_some, ↓ev_const, nf_cons, ↓vcL_nil, Md.next_seq, nh_cons]
      (with_reducible refine hk _ _ _ _ ?_); clear hk k
      repeat' first | with_reducible (first | refine Cw.seq ?_ | refine thenK_normal ?_ | refine Ow.nil ?_) | ((with_reducible refine Cw.region (Ow.run rfl fun k hk => ?_)); simp (disch := (first | omega | (simp only [lenS, lenT, UInt64.reduceToNat] ; try omega))) only []; (with_reducible refine hk _ _ _ _ ?_); clear hk k) | with_reducible (first | refine Cw.block ?_ | refine Cw.skip ?_ | refine Cw.exit ?_ | refine Cw.ret ?_ | refine thenK_exit ?_ | refine thenK_ret ?_ | refine blockK_normal ?_ | refine blockK_ret ?_ | refine blockK_exit ?_ | refine blockK_pass rfl ?_) | ((with_reducible refine Cw.condC ?_); first | refine CwC.pt rfl (by omega) ?_ | refine CwC.pf rfl (by omega) ?_ | refine CwC.it rfl (by omega) ?_ | refine CwC.if rfl (by omega) ?_ | refine CwC.nt rfl (by omega) ?_ | refine CwC.nf rfl (by omega) ?_ | refine CwC.tt rfl ?_ | refine CwC.ff rfl ?_ | refine CwC.bt rfl (by assumption) ?_ | (refine CwC.bf rfl ?_ ?_; focus assumption))
      refine ⟨_, (by simp (disch := (first | omega | (simp only [lenS, lenT, UInt64.reduceToNat] ; try omega))) only [resVs_cons, resV_cell, Tryd.ag25, ↓getF_s, ↓getF_0, loadAt_p, read_other, read_same, load_bk, resV_tmp, resVs_nil, cons2_some]; rfl), ?_⟩
      refine ⟨Ext.of_new ⟨hwx, hwi, hwr, trivial⟩, ?_⟩
      exact AddS.arg (by simp [hn])
    · refine Ow.run rfl fun k hk => ?_
      simp (disch := (first | omega | (simp only [lenS, lenT, UInt64.reduceToNat] ; try omega))) only [↓vcL_some, putF_some, setF_s, setF_0, yieldF_lit, ↓nthO_s, ↓nthO_0, yieldL_some, ↓getF_s, ↓getF_0, boolOf_b, beq_self_eq_true, ↓ib_true, ↓vcB_unOp, ↓ev_tmp, un_not, Bool.not_true, ↓ov_some, nf_cons, ↓vcL_none, ↓vcB_pick, ↓ev_const, pick_f, ↓vcL_nil, Md.next_seq]
      (with_reducible refine hk _ _ _ _ ?_); clear hk k
      repeat' first | with_reducible (first | refine Cw.seq ?_ | refine thenK_normal ?_ | refine Ow.nil ?_) | ((with_reducible refine Cw.region (Ow.run rfl fun k hk => ?_)); simp (disch := (first | omega | (simp only [lenS, lenT, UInt64.reduceToNat] ; try omega))) only [↓vcL_none, ↓vcB_move, ↓ov_some, ↓ev_tmp, ↓getF_s, ↓getF_0, putF_some, setF_s, setF_0, nf_cons, ↓vcB_load, Md.next_seq, rd_seq_load, ↓ib_true, Tryd.ag40, loadAt_p, read_other, read_same, load_all8, ↓vcB_build]; (with_reducible refine hk _ _ _ _ ?_); clear hk k) | with_reducible (first | refine Cw.block ?_ | refine Cw.skip ?_ | refine Cw.exit ?_ | refine Cw.ret ?_ | refine thenK_exit ?_ | refine thenK_ret ?_ | refine blockK_normal ?_ | refine blockK_ret ?_ | refine blockK_exit ?_ | refine blockK_pass rfl ?_) | ((with_reducible refine Cw.condC ?_); first | refine CwC.pt rfl (by omega) ?_ | refine CwC.pf rfl (by omega) ?_ | refine CwC.it rfl (by omega) ?_ | refine CwC.if rfl (by omega) ?_ | refine CwC.nt rfl (by omega) ?_ | refine CwC.nf rfl (by omega) ?_ | refine CwC.tt rfl ?_ | refine CwC.ff rfl ?_ | refine CwC.bt rfl (by assumption) ?_ | (refine CwC.bf rfl ?_ ?_; focus assumption))
      refine Ow.build _ rfl (build_ref nm id) ?_
      refine Ow.run rfl fun k hk => ?_
      simp (disch := (first | omega | (simp only [lenS, lenT, UInt64.reduceToNat] ; try omega))) only [↓vcL_none, ↓vcB_alloc, Md.next_seq, putF_some, setF_s, setF_0]
      (with_reducible refine hk _ _ _ _ ?_); clear hk k
      refine Ow.alloc rfl rfl zrRef fun b9 hb9 hw9 => ?_
      simp only [cells_agg, List.nil_append, List.cons_append]
      obtain ⟨hx9, hi9, hr9, -⟩ := hb9
      generalize hR : (⟨nm, id⟩ : RefL) = r
      refine Ow.run rfl fun k hk => ?_
      simp (disch := (first | omega | (simp only [lenS, lenT, UInt64.reduceToNat] ; try omega))) only [↓vcL_none, ↓vcB_store, Tryd.ag42, ↓ev_tmp, putF_some, setF_s, setF_0, ↓getF_s, ↓getF_0, storeAt_p, look_other, look_same, store_rr, upd_some, setB_other, setB_same, oh_some, ↓vcL_nil, Md.next_seq, nh_cons]
      (with_reducible refine hk _ _ _ _ ?_); clear hk k
      repeat' first | with_reducible (first | refine Cw.seq ?_ | refine thenK_normal ?_ | refine Ow.nil ?_) | ((with_reducible refine Cw.region (Ow.run rfl fun k hk => ?_)); simp (disch := (first | omega | (simp only [lenS, lenT, UInt64.reduceToNat] ; try omega))) only []; (with_reducible refine hk _ _ _ _ ?_); clear hk k) | with_reducible (first | refine Cw.block ?_ | refine Cw.skip ?_ | refine Cw.exit ?_ | refine Cw.ret ?_ | refine thenK_exit ?_ | refine thenK_ret ?_ | refine blockK_normal ?_ | refine blockK_ret ?_ | refine blockK_exit ?_ | refine blockK_pass rfl ?_) | ((with_reducible refine Cw.condC ?_); first | refine CwC.pt rfl (by omega) ?_ | refine CwC.pf rfl (by omega) ?_ | refine CwC.it rfl (by omega) ?_ | refine CwC.if rfl (by omega) ?_ | refine CwC.nt rfl (by omega) ?_ | refine CwC.nf rfl (by omega) ?_ | refine CwC.tt rfl ?_ | refine CwC.ff rfl ?_ | refine CwC.bt rfl (by assumption) ?_ | (refine CwC.bf rfl ?_ ?_; focus assumption))
      refine Cw.regionD [bx, b9] [11] 10 10 25 11 _ rfl (by kernel_rfl) (by kernel_rfl) rfl (by kernel_rfl) zrBk (fun hD => ?_)
      simp only [List.replicate_succ, List.replicate_zero]
      refine OwD.run [0, 3, 1, 4, 6] [true, true, false, true, true, false, true, false, false, false, false, false] 6 rfl hD (by kernel_rfl) fun k hk => ?_
      simp only [nl_cons, ↓pickL_nil, ↓pickL_cons, ↓nthO_0, ↓nthO_s, consO_some]
      simp (disch := (first | omega | (simp only [lenS, lenT, UInt64.reduceToNat] ; try omega))) only [↓vcL_none, ↓vcB_fieldAddr, Tryd.fl25_0, ↓ev_tmp, ↓getF_s, ↓getF_0, fieldAddr_p, Nat.add_zero, ↓ov_some, putF_some, setF_s, setF_0, nf_cons, Tryd.fl25_1, Nat.zero_add, ↓vcB_load, Md.next_sofnil, ↓rd_sof_load, rdIn_p, List.contains_cons, beq_self_eq_true, List.contains_nil, Bool.or_false, Bool.true_or, ↓ib_true, Tryd.ag23, loadAt_p, read_same, load_bk0, load_bk1, Bool.or_true, Tryd.ag42, read_other, load_ref, ↓vcL_nil]
      (with_reducible refine hk _ _ _ ?_); clear hk k
      generalize hL0 : [(bx, Obj.cells #[vt, vl] 25 (0, 0)), (bi, Obj.cells (a8 id.l) 40 (0, 0)), (br, Obj.cells #[Value.slice none 0 0, Value.slice none 0 0] 25 (0, 0)), (b9, Obj.cells (refC r).toArray 42 (0, 0))] = L0
      have hN0 : New w.heap.size L0 := by rw [← hL0]; exact ⟨hwx, hwi, hwr, hw9, trivial⟩
      have hkx : bx ∈ keys L0 := by rw [← hL0]; simp [keys]
      have hk9 : b9 ∈ keys L0 := by rw [← hL0]; simp [keys]
      have hle : ∀ c, c ∈ keys L0 → c ≤ b9 := by
        rw [← hL0]; intro c hc; simp only [keys, List.map_cons, List.map_nil, List.mem_cons, List.not_mem_nil, or_false] at hc; omega
      have hRL : ∀ r, r ∈ [bx, b9] → r ∈ keys L0 := by
        intro r hr; simp only [List.mem_cons, List.not_mem_nil, or_false] at hr; rcases hr with rfl | rfl <;> assumption
      refine OwD.via (G := AG) (fun g => [Value.agg #[vt, vl], vs nm, Value.agg (a8 id.l), vp bx 0, undef, vp bi 0, vp br 0, vs [], vi 0, vp b9 0, undef, Value.agg #[vt, vl], Value.bool true, Value.bool false, Value.bool false, vs nm, Value.bool true, Value.bool false, Value.bool false, undef, vs nm, Value.agg (a8 id.l), Value.agg (refC r).toArray, vp bx 0, vt, g.v1, vp bx 1, vl, g.v2, Value.agg (refC r).toArray, vsl g.b7 0 1 1, undef, undef, undef, undef, undef, undef, undef, undef, undef]) (fun g => L0 ++ g.D1 ++ g.D2 ++ [(g.b7, Obj.cells (refC r).toArray 42 (0, 0))]) (fun g => New (b9 + 1) g.D1 ∧ New (b9 + 1) g.D2 ∧ b9 < g.b7 ∧ Gr g.D1 42 33 g.v1 t.length (t.map refC).flatten ∧ Gr g.D2 42 33 g.v2 l.length (l.map refC).flatten) 3 [true, true, true, true, true, true, true, true, false, false, false, false] (fun key => ?_) (fun g hg => ?_)
      · refine OwD.two 2 7 _ _ hD rfl rfl (by kernel_rfl) (fun E hE => ?_) (fun E hE => ?_)
        · have hEN : New w.heap.size E := newE hE
          refine Ow.callC rfl rfl Tryd.call47 (fun w' hw' => CloneRef_spec vt t w' (ht.oldN hw' (hN0.app hEN)) (by omega)) (fun B1 v1 D1 hA1 hB1 hN1 hS1 => ?_)
          have hM1 : New (b9 + 1) D1 := hN1.mono (above_to hA1 (by simp [keys_app, hk9]))
          with_reducible refine Ow.nil ?_
          refine ⟨_, perm_mid, readB_appR (fun r hr => by simp [keys_app, hRL r hr]), ?_⟩
          simp only [List.set_cons_zero, List.set_cons_succ, putF_some, setF_0, setF_s]
          refine OwD.two 5 7 _ _ hD rfl rfl (by kernel_rfl) (fun E hE => ?_) (fun E hE => ?_)
          · have hEN : New w.heap.size E := newE hE
            refine Ow.callC rfl rfl Tryd.call47 (fun w' hw' => CloneRef_spec vl l w' (hl.oldN hw' ((hN0.app (hN1.mono hB1)).app hEN)) (by omega)) (fun B2 v2 D2 hA2 hB2 hN2 hS2 => ?_)
            have hM2 : New (b9 + 1) D2 := hN2.mono (above_to hA2 (by simp [keys_app, hk9]))
            with_reducible refine Ow.nil ?_
            refine ⟨_, perm_mid, readB_appR (fun r hr => by simp [keys_app, hRL r hr]), ?_⟩
            simp only [List.set_cons_zero, List.set_cons_succ, putF_some, setF_0, setF_s]
            refine OwD.soft 7 _ hD rfl (by kernel_rfl) (fun E hE => ?_)
            refine Ow.buildSlice (e := 42) (refC r).toArray rfl rfl (sliceRef r) fun b7 hb7 hw7 => ?_
            have hM7 : b9 < b7 := above_to hb7 (by simp [keys_app, hk9])
            with_reducible refine Ow.nil ?_
            refine ⟨_, perm_mid, readB_appR (fun r hr => by simp [keys_app, hRL r hr]), ?_⟩
            simp only [List.set_cons_zero, List.set_cons_succ, putF_some, setF_0, setF_s]
            exact key ⟨D1, D2, v1, v2, b7⟩ _ _ ⟨hM1, hM2, hM7, hS1, hS2⟩ rfl (by classical exact List.perm_iff_count.2 fun a => by simp only [List.count_append, List.count_cons, List.count_nil] <;> omega)
          · have hEN : New w.heap.size E := newE hE
            refine Ow.buildSlice (e := 42) (refC r).toArray rfl rfl (sliceRef r) fun b7 hb7 hw7 => ?_
            have hM7 : b9 < b7 := above_to hb7 (by simp [keys_app, hk9])
            with_reducible refine Ow.nil ?_
            refine ⟨_, perm_mid, readB_appR (fun r hr => by simp [keys_app, hRL r hr]), ?_⟩
            simp only [List.set_cons_zero, List.set_cons_succ, putF_some, setF_0, setF_s]
            refine OwD.soft 5 _ hD rfl (by kernel_rfl) (fun E hE => ?_)
            have hEN : New w.heap.size E := newE hE
            refine Ow.callC rfl rfl Tryd.call47 (fun w' hw' => CloneRef_spec vl l w' (hl.oldN hw' (((hN0.app (hN1.mono hB1)).app (show New w.heap.size [(b7, Obj.cells (refC r).toArray 42 (0, 0))] from ⟨hw7, trivial⟩)).app hEN)) (by omega)) (fun B2 v2 D2 hA2 hB2 hN2 hS2 => ?_)
            have hM2 : New (b9 + 1) D2 := hN2.mono (above_to hA2 (by simp [keys_app, hk9]))
            with_reducible refine Ow.nil ?_
            refine ⟨_, perm_mid, readB_appR (fun r hr => by simp [keys_app, hRL r hr]), ?_⟩
            simp only [List.set_cons_zero, List.set_cons_succ, putF_some, setF_0, setF_s]
            exact key ⟨D1, D2, v1, v2, b7⟩ _ _ ⟨hM1, hM2, hM7, hS1, hS2⟩ rfl (by classical exact List.perm_iff_count.2 fun a => by simp only [List.count_append, List.count_cons, List.count_nil] <;> omega)
        · have hEN : New w.heap.size E := newE hE
          refine Ow.buildSlice (e := 42) (refC r).toArray rfl rfl (sliceRef r) fun b7 hb7 hw7 => ?_
          have hM7 : b9 < b7 := above_to hb7 (by simp [keys_app, hk9])
          with_reducible refine Ow.nil ?_
          refine ⟨_, perm_mid, readB_appR (fun r hr => by simp [keys_app, hRL r hr]), ?_⟩
          simp only [List.set_cons_zero, List.set_cons_succ, putF_some, setF_0, setF_s]
          refine OwD.soft 2 _ hD rfl (by kernel_rfl) (fun E hE => ?_)
          have hEN : New w.heap.size E := newE hE
          refine Ow.callC rfl rfl Tryd.call47 (fun w' hw' => CloneRef_spec vt t w' (ht.oldN hw' ((hN0.app (show New w.heap.size [(b7, Obj.cells (refC r).toArray 42 (0, 0))] from ⟨hw7, trivial⟩)).app hEN)) (by omega)) (fun B1 v1 D1 hA1 hB1 hN1 hS1 => ?_)
          have hM1 : New (b9 + 1) D1 := hN1.mono (above_to hA1 (by simp [keys_app, hk9]))
          with_reducible refine Ow.nil ?_
          refine ⟨_, perm_mid, readB_appR (fun r hr => by simp [keys_app, hRL r hr]), ?_⟩
          simp only [List.set_cons_zero, List.set_cons_succ, putF_some, setF_0, setF_s]
          refine OwD.soft 5 _ hD rfl (by kernel_rfl) (fun E hE => ?_)
          have hEN : New w.heap.size E := newE hE
          refine Ow.callC rfl rfl Tryd.call47 (fun w' hw' => CloneRef_spec vl l w' (hl.oldN hw' (((hN0.app (show New w.heap.size [(b7, Obj.cells (refC r).toArray 42 (0, 0))] from ⟨hw7, trivial⟩)).app (hN1.mono hB1)).app hEN)) (by omega)) (fun B2 v2 D2 hA2 hB2 hN2 hS2 => ?_)
          have hM2 : New (b9 + 1) D2 := hN2.mono (above_to hA2 (by simp [keys_app, hk9]))
          with_reducible refine Ow.nil ?_
          refine ⟨_, perm_mid, readB_appR (fun r hr => by simp [keys_app, hRL r hr]), ?_⟩
          simp only [List.set_cons_zero, List.set_cons_succ, putF_some, setF_0, setF_s]
          exact key ⟨D1, D2, v1, v2, b7⟩ _ _ ⟨hM1, hM2, hM7, hS1, hS2⟩ rfl (by classical exact List.perm_iff_count.2 fun a => by simp only [List.count_append, List.count_cons, List.count_nil] <;> omega)
      · obtain ⟨D1, D2, v1, v2, b7⟩ := g
        obtain ⟨hn1, hn2, hb7, hg1, hg2⟩ := hg
        simp only at hn1 hn2 hb7 hg1 hg2 ⊢
        refine OwD.soft 8 _ hD rfl (by kernel_rfl) (fun E hE => ?_)
        have hEN := newE hE
        refine Ow.permL (M := D2 ++ (L0 ++ D1 ++ [(b7, Obj.cells (refC r).toArray 42 (0, 0))] ++ E)) (by classical exact List.perm_iff_count.2 fun a => by simp only [List.count_append, List.count_cons, List.count_nil] <;> omega) ?_
        refine Ow.appendX (e := 42) (k := 1) (new := refC r) (X := D2) v2 rfl rfl rfl rfl Tryd.underlying23 Tryd.ag42 (by kernel_rfl) zrRef (by rw [cells_ref, List.size_toArray, refC_len]) Tryd.underlying23 (by intro k h; cases h) hg2 (fun w' hw' => AppX.one1 (hw'.has b7 (.cells (refC r).toArray 42 (0, 0)) (by simp)) (refC_len r) (refC_one r)) (by omega) (by omega) (fun B v3 D3 hA3 hB3 hbuf hk1 hk2 hlk => ?_)
        have hB9 : b9 < B := above_to hA3 (by simp [keys_app, hk9])
        have hn3 : New (b9 + 1) D3 := New.of_le fun c hc => by
          rcases hk2 c hc with h | h
          · exact hn2.le c h
          · omega
        have hRD : ∀ r, r ∈ [bx, b9] → r ∉ keys D3 := fun r hr hm => by have := hn3.le r hm; have := hle r (hRL r hr); omega
        with_reducible refine Ow.nil ?_
        refine ⟨D3 ++ (L0 ++ D1 ++ [(b7, Obj.cells (refC r).toArray 42 (0, 0))]), (by classical exact List.perm_iff_count.2 fun a => by simp only [List.count_append, List.count_cons, List.count_nil] <;> omega), fun r hr => ?_, ?_⟩
        · have h0 := hRL r hr
          rw [readB_appr (hRD r hr), readB_app (by simp [keys_app, h0]), readB_app h0, readB_app (by simp [keys_app, h0]), readB_app (by simp [keys_app, h0]), readB_app h0]
        simp only [List.set_cons_zero, List.set_cons_succ, putF_some, setF_0, setF_s]
        refine OwD.soft 9 _ hD rfl (by kernel_rfl) (fun E2 hE2 => ?_)
        refine Ow.build (.agg #[v1, v3]) rfl (build_bk v1 v3 hg1.cell.2 hbuf.cell.2) ?_
        with_reducible refine Ow.nil ?_
        refine ⟨D3 ++ (L0 ++ D1 ++ [(b7, Obj.cells (refC r).toArray 42 (0, 0))]), List.Perm.refl _, fun _ _ => rfl, ?_⟩
        simp only [List.set_cons_zero, List.set_cons_succ, putF_some, setF_0, setF_s]
        refine OwD.real [11] rfl hD (by kernel_rfl) (by kernel_rfl) (by kernel_rfl) (by kernel_rfl) (fun r hr => .inl (by simp [keys_app, hRL r hr])) ?_
        simp only [nl_cons, ↓pickL_nil, ↓pickL_cons, ↓nthO_0, ↓nthO_s, consO_some]
        intro b10 hw10 hbL
        simp only [setF_0, setF_s]
        refine Ow.store rfl rfl rfl (L' := (D3 ++ (L0 ++ D1 ++ [(b7, Obj.cells (refC r).toArray 42 (0, 0))])) ++ [(b10, Obj.cells #[v1, v3] 25 (0, 0))]) ?_ ?_
        · simp only [ev_tmp, getF_0, getF_s]
          rw [Tryd.ag25, storeAt_p, look_app_r' hbL, cells_agg, store_bk _ _ _ _ _ hg1.cell.1 hbuf.cell.1, upd_some, setB_app_r hbL]
          exact []
        with_reducible refine Ow.nil ?_
        with_reducible refine thenK_normal ?_
        subst hL0
        refine Cw.permL (M := [(bx, Obj.cells #[vt, vl] 25 (0, 0)), (bi, Obj.cells (a8 id.l) 40 (0, 0)), (br, Obj.cells #[Value.slice none 0 0, Value.slice none 0 0] 25 (0, 0)), (b9, Obj.cells (refC r).toArray 42 (0, 0)), (b10, Obj.cells #[v1, v3] 25 (0, 0)), (b7, Obj.cells (refC r).toArray 42 (0, 0))] ++ (D1 ++ D3)) (by classical exact List.perm_iff_count.2 fun a => by simp only [List.count_append, List.count_cons, List.count_nil] <;> omega) ?_
        simp only [List.cons_append, List.nil_append]
        have hn7 : w.heap.size ≤ b7 := by omega
        have hn1' := hn1.mono (show w.heap.size ≤ b9 + 1 by omega)
        have hn3' := hn3.mono (show w.heap.size ≤ b9 + 1 by omega)
        have hnD := hn1'.app hn3'
        have hb10k : bx ≠ b10 ∧ bi ≠ b10 ∧ br ≠ b10 ∧ b9 ≠ b10 := by
          simp only [keys_app, List.mem_append, not_or] at hbL
          obtain ⟨-, ⟨h0, -⟩, -⟩ := hbL
          simp only [keys, List.map_cons, List.map_nil, List.mem_cons, List.not_mem_nil, or_false, not_or] at h0
          obtain ⟨h1, h2, h3, h4⟩ := h0
          exact ⟨Ne.symm h1, Ne.symm h2, Ne.symm h3, Ne.symm h4⟩
        obtain ⟨hx10, hi10, hr10, h910⟩ := hb10k
        have hfl : (l.map refC).flatten ++ refC r = ((l ++ [r]).map refC).flatten := by simp
        rw [hfl] at hbuf
        have hgr3 : Gr D3 42 33 v3 (l.length + 1) ((l ++ [r]).map refC).flatten := .inl hbuf
        have hrn : r.name.length < 1000000 := by rw [← hR]; exact hnm
        have hsh : ShortN (l ++ [r]) := by
          intro g hg
          by_cases hlt : g < l.length
          · have := hnl g hlt
            rwa [List.getD_eq_getElem?_getD, List.getElem?_append_left hlt, ← List.getD_eq_getElem?_getD]
          · have : g = l.length := by simp at hg; omega
            subst this
            rw [List.getD_eq_getElem?_getD, List.getElem?_append_right (Nat.le_refl _)]
            simp; omega
        repeat' first | with_reducible (first | refine Cw.seq ?_ | refine thenK_normal ?_ | refine Ow.nil ?_) | ((with_reducible refine Cw.region (Ow.run rfl fun k hk => ?_)); simp (disch := (first | omega | (simp only [lenS, lenT, UInt64.reduceToNat] ; try omega))) only [↓vcL_none, ↓vcB_load, putF_none, rd_seq_load, ↓ib_true, Tryd.ag25, ↓ev_tmp, ↓getF_s, ↓getF_0, loadAt_p, read_other, read_same, load_bk, ↓ov_some, putF_some, setF_s, setF_0, nf_cons, ↓vcB_call, Md.next_seq]; (with_reducible refine hk _ _ _ _ ?_); clear hk k) | with_reducible (first | refine Cw.block ?_ | refine Cw.skip ?_ | refine Cw.exit ?_ | refine Cw.ret ?_ | refine thenK_exit ?_ | refine thenK_ret ?_ | refine blockK_normal ?_ | refine blockK_ret ?_ | refine blockK_exit ?_ | refine blockK_pass rfl ?_) | ((with_reducible refine Cw.condC ?_); first | refine CwC.pt rfl (by omega) ?_ | refine CwC.pf rfl (by omega) ?_ | refine CwC.it rfl (by omega) ?_ | refine CwC.if rfl (by omega) ?_ | refine CwC.nt rfl (by omega) ?_ | refine CwC.nf rfl (by omega) ?_ | refine CwC.tt rfl ?_ | refine CwC.ff rfl ?_ | refine CwC.bt rfl (by assumption) ?_ | (refine CwC.bf rfl ?_ ?_; focus assumption))
        refine Ow.callFV rfl Tryd.call36 (fun w' hw' => Right_spec v1 v3 t (l ++ [r]) w' (hg1.slM (fun b o hm => hw'.has b o (by simp [hm])) rfl rfl refC_len) (hgr3.slM (fun b o hm => hw'.has b o (by simp [hm])) (by simp) rfl refC_len) (by omega) (by simp; omega) hnt hsh) ?_
        cases hr2 : rightB t (l ++ [r])
        · refine Ow.run rfl fun k hk => ?_
          simp (disch := (first | omega | (simp only [lenS, lenT, UInt64.reduceToNat] ; try omega))) only [↓vcL_none, ↓vcB_unOp, ↓ev_tmp, putF_some, setF_s, setF_0, ↓getF_s, ↓getF_0, un_not, Bool.not_false, ↓ov_some, nf_cons, ↓vcL_nil, Md.next_seq]
          (with_reducible refine hk _ _ _ _ ?_); clear hk k
          repeat' first | with_reducible (first | refine Cw.seq ?_ | refine thenK_normal ?_ | refine Ow.nil ?_) | ((with_reducible refine Cw.region (Ow.run rfl fun k hk => ?_)); simp (disch := (first | omega | (simp only [lenS, lenT, UInt64.reduceToNat] ; try omega))) only [↓vcL_none, ↓vcB_build, lit_str, lit_i64]; (with_reducible refine hk _ _ _ _ ?_); clear hk k) | with_reducible (first | refine Cw.block ?_ | refine Cw.skip ?_ | refine Cw.exit ?_ | refine Cw.ret ?_ | refine thenK_exit ?_ | refine thenK_ret ?_ | refine blockK_normal ?_ | refine blockK_ret ?_ | refine blockK_exit ?_ | refine blockK_pass rfl ?_) | ((with_reducible refine Cw.condC ?_); first | refine CwC.pt rfl (by omega) ?_ | refine CwC.pf rfl (by omega) ?_ | refine CwC.it rfl (by omega) ?_ | refine CwC.if rfl (by omega) ?_ | refine CwC.nt rfl (by omega) ?_ | refine CwC.nf rfl (by omega) ?_ | refine CwC.tt rfl ?_ | refine CwC.ff rfl ?_ | refine CwC.bt rfl (by assumption) ?_ | (refine CwC.bf rfl ?_ ?_; focus assumption))
          refine Ow.build (.agg #[.slice none 0 0, .slice none 0 0]) rfl (by kernel_rfl) ?_
          refine Ow.run rfl fun k hk => ?_
          simp (disch := (first | omega | (simp only [lenS, lenT, UInt64.reduceToNat] ; try omega))) only [↓vcL_none, ↓vcB_store, Tryd.ag25, ↓ev_tmp, putF_some, setF_s, setF_0, ↓getF_s, ↓getF_0, storeAt_p, look_other, look_same, store_bk0, upd_some, setB_other, setB_same, oh_some, ↓vcB_assign, ↓ov_some, ↓ev_const, nf_cons, ↓vcL_nil, Md.next_seq, nh_cons]
          (with_reducible refine hk _ _ _ _ ?_); clear hk k
          repeat' first | with_reducible (first | refine Cw.seq ?_ | refine thenK_normal ?_ | refine Ow.nil ?_) | ((with_reducible refine Cw.region (Ow.run rfl fun k hk => ?_)); simp (disch := (first | omega | (simp only [lenS, lenT, UInt64.reduceToNat] ; try omega))) only []; (with_reducible refine hk _ _ _ _ ?_); clear hk k) | with_reducible (first | refine Cw.block ?_ | refine Cw.skip ?_ | refine Cw.exit ?_ | refine Cw.ret ?_ | refine thenK_exit ?_ | refine thenK_ret ?_ | refine blockK_normal ?_ | refine blockK_ret ?_ | refine blockK_exit ?_ | refine blockK_pass rfl ?_) | ((with_reducible refine Cw.condC ?_); first | refine CwC.pt rfl (by omega) ?_ | refine CwC.pf rfl (by omega) ?_ | refine CwC.it rfl (by omega) ?_ | refine CwC.if rfl (by omega) ?_ | refine CwC.nt rfl (by omega) ?_ | refine CwC.nf rfl (by omega) ?_ | refine CwC.tt rfl ?_ | refine CwC.ff rfl ?_ | refine CwC.bt rfl (by assumption) ?_ | (refine CwC.bf rfl ?_ ?_; focus assumption))
          refine ⟨_, (by simp (disch := (first | omega | (simp only [lenS, lenT, UInt64.reduceToNat] ; try omega))) only [resVs_cons, resV_cell, Tryd.ag25, ↓getF_s, ↓getF_0, loadAt_p, read_other, read_same, load_bk, resV_tmp, resVs_nil, cons2_some]; rfl), ?_⟩
          refine ⟨Ext.of_new ⟨hwx, hwi, hwr, hw9, hw10, hn7, hnD⟩, ?_⟩
          exact AddS.full ⟨hr, hn⟩ (by rw [hR]; exact hr2)
        · refine Ow.run rfl fun k hk => ?_
          simp (disch := (first | omega | (simp only [lenS, lenT, UInt64.reduceToNat] ; try omega))) only [↓vcL_none, ↓vcB_unOp, ↓ev_tmp, putF_some, setF_s, setF_0, ↓getF_s, ↓getF_0, un_not, Bool.not_true, ↓ov_some, nf_cons, ↓vcL_nil, Md.next_seq]
          (with_reducible refine hk _ _ _ _ ?_); clear hk k
          repeat' first | with_reducible (first | refine Cw.seq ?_ | refine thenK_normal ?_ | refine Ow.nil ?_) | ((with_reducible refine Cw.region (Ow.run rfl fun k hk => ?_)); simp (disch := (first | omega | (simp only [lenS, lenT, UInt64.reduceToNat] ; try omega))) only []; (with_reducible refine hk _ _ _ _ ?_); clear hk k) | with_reducible (first | refine Cw.block ?_ | refine Cw.skip ?_ | refine Cw.exit ?_ | refine Cw.ret ?_ | refine thenK_exit ?_ | refine thenK_ret ?_ | refine blockK_normal ?_ | refine blockK_ret ?_ | refine blockK_exit ?_ | refine blockK_pass rfl ?_) | ((with_reducible refine Cw.condC ?_); first | refine CwC.pt rfl (by omega) ?_ | refine CwC.pf rfl (by omega) ?_ | refine CwC.it rfl (by omega) ?_ | refine CwC.if rfl (by omega) ?_ | refine CwC.nt rfl (by omega) ?_ | refine CwC.nf rfl (by omega) ?_ | refine CwC.tt rfl ?_ | refine CwC.ff rfl ?_ | refine CwC.bt rfl (by assumption) ?_ | (refine CwC.bf rfl ?_ ?_; focus assumption))
          refine Cw.regionO [0, 1, 2, 3, 4, 5] [3] rfl (by kernel_rfl) (by kernel_rfl) ?_
          simp only [nl_cons, ↓pickL_nil, ↓pickL_cons, ↓nthO_0, ↓nthO_s, consO_some]
          refine Ow.runQ fun k hk => ?_
          simp (disch := (first | omega | (simp only [lenS, lenT, UInt64.reduceToNat] ; try omega))) only [↓vcL_none, ↓vcB_load, rd_qui_load, ↓ib_true, Tryd.ag25, ↓ev_tmp, ↓getF_s, ↓getF_0, loadAt_p, read_other, read_same, load_bk, ↓ov_some, putF_some, setF_s, setF_0, nf_cons, Md.next_qui, List.contains_cons, Nat.reduceBEq, List.contains_nil, Bool.or_false, Bool.false_eq_true, ↓reduceIte, Tryd.ag42, load_ref, ↓vcB_call, lit_i64]
          (with_reducible refine hk _ _ _ _ ?_); clear hk k
          refine Ow.callFV rfl Tryd.call58 (fun w' hw' => (entryRecord_spec r w' (GlobC.of hG hw' (New.not (L := (bx, Obj.cells #[vt, vl] 25 (0, 0)) :: (bi, Obj.cells (a8 id.l) 40 (0, 0)) :: (br, Obj.cells #[Value.slice none 0 0, Value.slice none 0 0] 25 (0, 0)) :: (b9, Obj.cells (refC r).toArray 42 (0, 0)) :: (b10, Obj.cells #[v1, v3] 25 (0, 0)) :: (b7, Obj.cells (refC r).toArray 42 (0, 0)) :: (D1 ++ D3)) ⟨hwx, hwi, hwr, hw9, hw10, hn7, hnD⟩ hglt)) hrn).quiet) ?_
          have hst := store_bk (.slice none 0 0) (.slice none 0 0) v1 v3 25 hg1.cell.1 hbuf.cell.1
          refine Ow.store rfl rfl rfl (by simp (disch := (first | omega | (simp only [lenS, lenT, UInt64.reduceToNat] ; try omega))) only [Tryd.ag25, ↓ev_tmp, putF_some, setF_s, setF_0, ↓getF_s, ↓getF_0, storeAt_p, look_other, look_same, hst, upd_some, setB_other, setB_same]; rfl) ?_
          refine Ow.runQ fun k hk => ?_
          simp (disch := (first | omega | (simp only [lenS, lenT, UInt64.reduceToNat] ; try omega))) only [↓vcL_none, ↓vcB_assign, ↓ov_some, putF_some, setF_s, setF_0, putF_none, ↓ev_tmp, ↓getF_s, ↓getF_0, nf_cons, ↓ev_const, ↓vcL_nil, Md.next_any]
          (with_reducible refine hk _ _ _ _ ?_); clear hk k
          with_reducible refine Ow.nil ?_
          repeat' first | with_reducible (first | refine Cw.seq ?_ | refine thenK_normal ?_ | refine Ow.nil ?_) | ((with_reducible refine Cw.region (Ow.run rfl fun k hk => ?_)); simp (disch := (first | omega | (simp only [lenS, lenT, UInt64.reduceToNat] ; try omega))) only []; (with_reducible refine hk _ _ _ _ ?_); clear hk k) | with_reducible (first | refine Cw.block ?_ | refine Cw.skip ?_ | refine Cw.exit ?_ | refine Cw.ret ?_ | refine thenK_exit ?_ | refine thenK_ret ?_ | refine blockK_normal ?_ | refine blockK_ret ?_ | refine blockK_exit ?_ | refine blockK_pass rfl ?_) | ((with_reducible refine Cw.condC ?_); first | refine CwC.pt rfl (by omega) ?_ | refine CwC.pf rfl (by omega) ?_ | refine CwC.it rfl (by omega) ?_ | refine CwC.if rfl (by omega) ?_ | refine CwC.nt rfl (by omega) ?_ | refine CwC.nf rfl (by omega) ?_ | refine CwC.tt rfl ?_ | refine CwC.ff rfl ?_ | refine CwC.bt rfl (by assumption) ?_ | (refine CwC.bf rfl ?_ ?_; focus assumption))
          refine ⟨_, (by simp (disch := (first | omega | (simp only [lenS, lenT, UInt64.reduceToNat] ; try omega))) only [resVs_cons, resV_cell, Tryd.ag25, ↓getF_s, ↓getF_0, loadAt_p, read_other, read_same, load_bk, resV_tmp, resVs_nil, cons2_some]; rfl), ?_⟩
          refine ⟨Ext.of_new ⟨hwx, hwi, hwr, hw9, hw10, hn7, hnD⟩, ?_⟩
          have hfin := AddS.ok (n := w.heap.size) (D := (bx, Obj.cells #[vt, vl] 25 (0, 0)) :: (bi, Obj.cells (a8 id.l) 40 (0, 0)) :: (br, Obj.cells #[v1, v3] 25 (0, 0)) :: (b9, Obj.cells (refC r).toArray 42 (0, 0)) :: (b10, Obj.cells #[v1, v3] 25 (0, 0)) :: (b7, Obj.cells (refC r).toArray 42 (0, 0)) :: (D1 ++ D3)) ⟨hr, hn⟩ (by rw [hR]; exact hr2) (hg1.i fun p hp => by simp [hp]) (by rw [hR]; exact hgr3.i fun p hp => by simp [hp])
          rw [hR] at hfin
          exact hfin
end Go.Proofs
open Go Go.Proofs Go.Sx Go.RefP
namespace Go.Proofs
set_option maxRecDepth 10000
set_option maxHeartbeats 4000000
set_option linter.unusedSimpArgs false
theorem rowId (id : IdL) : ∀ k, k < [id].length → ∀ j, j < 32 → (a8 id.l)[0 + k * 32 + j]? = (idLC ([id].getD k id0))[j]? := by
  intro k hk j hj
  obtain rfl : k = 0 := by simpa using hk
  simp only [Nat.zero_mul, Nat.zero_add, List.getD_cons_zero]
  rw [← idLC_a8, List.getElem?_toArray]
/-- A ref's bytes in a table. -/
def refB (r : RefL) : List UInt8 := textL r.name ++ r.id.l
def tabB (t : List RefL) : List UInt8 := (t.map refB).flatten
def headB (t : List RefL) : List UInt8 := [72] ++ numL (clampN t.length) ++ tabB t
def logB (l : List RefL) : List UInt8 := (l.map fun r => recordV (entryB r)).flatten
/-- A book's bytes. -/
def bookB (t l : List RefL) : List UInt8 := recordV (headB t) ++ logB l
/-- Names that are small. -/
def SmallN (l : List RefL) : Prop := ∀ g, g < l.length → (l.getD g ref0).name.length < 1000
theorem SmallN.short {l : List RefL} (h : SmallN l) : ShortN l := fun g hg => Nat.lt_trans (h g hg) (by omega)
theorem refB_len {r : RefL} (h : r.name.length < 1000) : (refB r).length < 1100 := by
  have := numL_clamp_len (r.name.length : Int)
  have := r.id.h
  simp only [refB, textL, List.length_append]; omega
theorem take_suc (t : List RefL) (g : Nat) (h : g < t.length) : t.take (g + 1) = t.take g ++ [t.getD g ref0] := by
  rw [List.take_add_one, List.getElem?_eq_getElem h, List.getD_eq_getElem?_getD, List.getElem?_eq_getElem h]; rfl
theorem tabB_succ (t : List RefL) (g : Nat) (h : g < t.length) : tabB (t.take (g + 1)) = tabB (t.take g) ++ refB (t.getD g ref0) := by
  unfold tabB
  rw [take_suc t g h, List.map_append, List.flatten_append]; simp only [List.map_cons, List.map_nil, List.flatten_cons, List.flatten_nil, List.append_nil]
theorem logB_succ (t : List RefL) (g : Nat) (h : g < t.length) : logB (t.take (g + 1)) = logB (t.take g) ++ recordV (entryB (t.getD g ref0)) := by
  unfold logB
  rw [take_suc t g h, List.map_append, List.flatten_append]; simp only [List.map_cons, List.map_nil, List.flatten_cons, List.flatten_nil, List.append_nil]
theorem tabB_len {t : List RefL} (h : SmallN t) : ∀ g, g ≤ t.length → (tabB (t.take g)).length ≤ g * 1100
  | 0, _ => by simp [tabB]
  | g + 1, hg => by
    rw [tabB_succ t g hg, List.length_append]
    have := tabB_len h g (by omega)
    have := refB_len (h g hg)
    omega
theorem recE_len {r : RefL} (h : r.name.length < 1000) : (recordV (entryB r)).length < 1200 := by
  have h1 := numL_clamp_len (r.name.length : Int)
  have h2 := r.id.h
  have h3 := numL_clamp_len ((sealV (entryB r)).length : Int)
  have h4 := sealV_len (entryB r)
  simp only [recordV, textL, List.length_append] at h3 ⊢
  rw [h4] at h3 ⊢
  simp only [entryB, textL, List.length_append, List.length_cons, List.length_nil] at h3 ⊢
  omega
theorem logB_len {t : List RefL} (h : SmallN t) : ∀ g, g ≤ t.length → (logB (t.take g)).length ≤ g * 1200
  | 0, _ => by simp [logB]
  | g + 1, hg => by
    rw [logB_succ t g hg, List.length_append]
    have := logB_len h g (by omega)
    have := recE_len (h g hg)
    omega
theorem came_out {w0 : World} {L X D : Heap} (hC : Came w0 L X D) {b : Nat} (hb : b ∈ keys L) (hX : b ∉ keys X) : b ∉ keys D := fun hm => by
  rcases hC.new b hm with h | ⟨h, -⟩
  · exact hX h
  · exact Nat.lt_irrefl _ (above_to h hb)
theorem came_new {w0 : World} {L X D : Heap} (hC : Came w0 L X D) (hX : New w0.heap.size X) : New w0.heap.size D := New.of_le fun c hc => by
  rcases hC.new c hc with h | ⟨-, h⟩
  · exact hX.le c h
  · exact h
theorem Bytes_spec (vt vl : Value) (t l : List RefL) (w : World) (hG : GlobC w) (ht : RefSl w vt t) (hl : RefSl w vl l) (htl : t.length < 1000) (hll : l.length < 1000) (hnt : SmallN t) (hnl : SmallN l) :
    Rets Tryd.prog 13 #[.agg #[vt, vl]] w (fun v D => v = (if rightB t l = true then .tuple #[vs (bookB t l), vi 0] else .tuple #[vs [], vi 1]) ∧ D = []) := by
  have hglt : (3 : Nat) < w.heap.size := by obtain ⟨e, f, h⟩ := hG; exact (Array.getElem?_eq_some_iff.1 h).1
  refine Rets.enterV Tryd.func13 rfl (rs := [.tmp 2, .tmp 3]) Tryd.results13 Tryd.ntmps13 ?_
  simp only [List.size_toArray, List.length_cons, List.length_nil, Nat.reduceAdd, Nat.reduceSub, List.replicate_succ, List.replicate_zero, List.cons_append, List.nil_append]
  repeat' first | with_reducible (first | refine Cw.seq ?_ | refine thenK_normal ?_ | refine Ow.nil ?_) | ((with_reducible refine Cw.region (Ow.run rfl fun k hk => ?_)); simp (disch := (first | omega | (simp only [lenS, lenT, UInt64.reduceToNat] ; try omega))) only [↓vcL_none, ↓vcB_box, lit_str, lit_i64]; (with_reducible refine hk _ _ _ _ ?_); clear hk k) | with_reducible (first | refine Cw.block ?_ | refine Cw.skip ?_ | refine Cw.exit ?_ | refine Cw.ret ?_ | refine thenK_exit ?_ | refine thenK_ret ?_ | refine blockK_normal ?_ | refine blockK_ret ?_ | refine blockK_exit ?_ | refine blockK_pass rfl ?_) | ((with_reducible refine Cw.condC ?_); first | refine CwC.pt rfl (by omega) ?_ | refine CwC.pf rfl (by omega) ?_ | refine CwC.it rfl (by omega) ?_ | refine CwC.if rfl (by omega) ?_ | refine CwC.nt rfl (by omega) ?_ | refine CwC.nf rfl (by omega) ?_ | refine CwC.tt rfl ?_ | refine CwC.ff rfl ?_ | refine CwC.bt rfl (by assumption) ?_ | (refine CwC.bf rfl ?_ ?_; focus assumption))
  refine Ow.box rfl rfl fun bx hbx hwx => ?_
  simp only [ev_tmp, getF_0, getF_s, cells_agg, List.nil_append, List.cons_append]
  refine Ow.run rfl fun k hk => ?_
  simp (disch := (first | omega | (simp only [lenS, lenT, UInt64.reduceToNat] ; try omega))) only [↓vcL_none, ↓vcB_assign, ↓ov_some, putF_some, setF_s, setF_0, ↓ev_const, nf_cons, ↓vcL_nil, Md.next_seq]
  (with_reducible refine hk _ _ _ _ ?_); clear hk k
  repeat' first | with_reducible (first | refine Cw.seq ?_ | refine thenK_normal ?_ | refine Ow.nil ?_) | ((with_reducible refine Cw.region (Ow.run rfl fun k hk => ?_)); simp (disch := (first | omega | (simp only [lenS, lenT, UInt64.reduceToNat] ; try omega))) only [↓vcL_none, ↓vcB_load, rd_seq_load, ↓ib_true, Tryd.ag25, ↓ev_tmp, ↓getF_s, ↓getF_0, loadAt_p, read_same, load_bk, ↓ov_some, putF_some, setF_s, setF_0, nf_cons, ↓vcB_call, Md.next_seq]; (with_reducible refine hk _ _ _ _ ?_); clear hk k) | with_reducible (first | refine Cw.block ?_ | refine Cw.skip ?_ | refine Cw.exit ?_ | refine Cw.ret ?_ | refine thenK_exit ?_ | refine thenK_ret ?_ | refine blockK_normal ?_ | refine blockK_ret ?_ | refine blockK_exit ?_ | refine blockK_pass rfl ?_) | ((with_reducible refine Cw.condC ?_); first | refine CwC.pt rfl (by omega) ?_ | refine CwC.pf rfl (by omega) ?_ | refine CwC.it rfl (by omega) ?_ | refine CwC.if rfl (by omega) ?_ | refine CwC.nt rfl (by omega) ?_ | refine CwC.nf rfl (by omega) ?_ | refine CwC.tt rfl ?_ | refine CwC.ff rfl ?_ | refine CwC.bt rfl (by assumption) ?_ | (refine CwC.bf rfl ?_ ?_; focus assumption))
  refine Ow.callFV rfl Tryd.call36 (fun w' hw' => Right_spec vt vl t l w' (ht.oldN hw' ⟨hwx, trivial⟩) (hl.oldN hw' ⟨hwx, trivial⟩) (by omega) (by omega) hnt.short hnl.short) ?_
  cases hr : rightB t l
  · refine Ow.run rfl fun k hk => ?_
    simp (disch := (first | omega | (simp only [lenS, lenT, UInt64.reduceToNat] ; try omega))) only [↓vcL_none, ↓vcB_unOp, ↓ev_tmp, putF_some, setF_s, setF_0, ↓getF_s, ↓getF_0, un_not, Bool.not_false, ↓ov_some, nf_cons, ↓vcL_nil, Md.next_seq]
    (with_reducible refine hk _ _ _ _ ?_); clear hk k
    repeat' first | with_reducible (first | refine Cw.seq ?_ | refine thenK_normal ?_ | refine Ow.nil ?_) | ((with_reducible refine Cw.region (Ow.run rfl fun k hk => ?_)); simp (disch := (first | omega | (simp only [lenS, lenT, UInt64.reduceToNat] ; try omega))) only [↓vcL_none, ↓vcB_assign, ↓ov_some, ↓ev_const, lit_str, putF_some, setF_s, setF_0, nf_cons, lit_i64, ↓vcL_nil, Md.next_seq]; (with_reducible refine hk _ _ _ _ ?_); clear hk k) | with_reducible (first | refine Cw.block ?_ | refine Cw.skip ?_ | refine Cw.exit ?_ | refine Cw.ret ?_ | refine thenK_exit ?_ | refine thenK_ret ?_ | refine blockK_normal ?_ | refine blockK_ret ?_ | refine blockK_exit ?_ | refine blockK_pass rfl ?_) | ((with_reducible refine Cw.condC ?_); first | refine CwC.pt rfl (by omega) ?_ | refine CwC.pf rfl (by omega) ?_ | refine CwC.it rfl (by omega) ?_ | refine CwC.if rfl (by omega) ?_ | refine CwC.nt rfl (by omega) ?_ | refine CwC.nf rfl (by omega) ?_ | refine CwC.tt rfl ?_ | refine CwC.ff rfl ?_ | refine CwC.bt rfl (by assumption) ?_ | (refine CwC.bf rfl ?_ ?_; focus assumption))
    refine ⟨_, (by simp (disch := (first | omega | (simp only [lenS, lenT, UInt64.reduceToNat] ; try omega))) only [resVs_cons, resV_tmp, ↓getF_s, ↓getF_0, resVs_nil, cons2_some]; rfl), ⟨hwx, trivial⟩, ?_⟩
    rfl
  · refine Ow.run rfl fun k hk => ?_
    simp (disch := (first | omega | (simp only [lenS, lenT, UInt64.reduceToNat] ; try omega))) only [↓vcL_none, ↓vcB_unOp, ↓ev_tmp, putF_some, setF_s, setF_0, ↓getF_s, ↓getF_0, un_not, Bool.not_true, ↓ov_some, nf_cons, ↓vcL_nil, Md.next_seq]
    (with_reducible refine hk _ _ _ _ ?_); clear hk k
    repeat' first | with_reducible (first | refine Cw.seq ?_ | refine thenK_normal ?_ | refine Ow.nil ?_) | ((with_reducible refine Cw.region (Ow.run rfl fun k hk => ?_)); simp (disch := (first | omega | (simp only [lenS, lenT, UInt64.reduceToNat] ; try omega))) only [↓vcL_none, ↓vcB_alloc]; (with_reducible refine hk _ _ _ _ ?_); clear hk k) | with_reducible (first | refine Cw.block ?_ | refine Cw.skip ?_ | refine Cw.exit ?_ | refine Cw.ret ?_ | refine thenK_exit ?_ | refine thenK_ret ?_ | refine blockK_normal ?_ | refine blockK_ret ?_ | refine blockK_exit ?_ | refine blockK_pass rfl ?_) | ((with_reducible refine Cw.condC ?_); first | refine CwC.pt rfl (by omega) ?_ | refine CwC.pf rfl (by omega) ?_ | refine CwC.it rfl (by omega) ?_ | refine CwC.if rfl (by omega) ?_ | refine CwC.nt rfl (by omega) ?_ | refine CwC.nf rfl (by omega) ?_ | refine CwC.tt rfl ?_ | refine CwC.ff rfl ?_ | refine CwC.bt rfl (by assumption) ?_ | (refine CwC.bf rfl ?_ ?_; focus assumption))
    refine Ow.alloc rfl rfl Tryd.zr98 fun b4 hb4 hw4 => ?_
    obtain ⟨hx4, -⟩ := hb4
    refine Ow.run rfl fun k hk => ?_
    simp (disch := (first | omega | (simp only [lenS, lenT, UInt64.reduceToNat] ; try omega))) only [↓vcL_nil, putF_some, setF_s, setF_0, cells_agg, List.cons_append, List.nil_append]
    (with_reducible refine hk _ _ _ _ ?_); clear hk k
    with_reducible refine Ow.nil ?_
    with_reducible refine thenK_normal ?_
    refine Cw.permL (M := [(b4, .cells #[.pointer none, .slice none 0 0] 98 (0, 0))] ++ [(bx, .cells #[vt, vl] 25 (0, 0))]) (by classical exact List.perm_iff_count.2 fun a => by simp only [List.count_append, List.count_cons, List.count_nil] <;> omega) ?_
    rw [List.cons_append, List.nil_append]
    have hZ : BldAt b4 [] [(b4, .cells #[.pointer none, .slice none 0 0] 98 (0, 0))] := BldAt.zero b4 (look_same _ _ _)
    repeat' first | with_reducible (first | refine Cw.seq ?_ | refine thenK_normal ?_ | refine Ow.nil ?_) | ((with_reducible refine Cw.region (Ow.run rfl fun k hk => ?_)); simp (disch := (first | omega | (simp only [lenS, lenT, UInt64.reduceToNat] ; try omega))) only [↓vcL_none, ↓vcB_buildSlice, lit_str]; (with_reducible refine hk _ _ _ _ ?_); clear hk k) | with_reducible (first | refine Cw.block ?_ | refine Cw.skip ?_ | refine Cw.exit ?_ | refine Cw.ret ?_ | refine thenK_exit ?_ | refine thenK_ret ?_ | refine blockK_normal ?_ | refine blockK_ret ?_ | refine blockK_exit ?_ | refine blockK_pass rfl ?_) | ((with_reducible refine Cw.condC ?_); first | refine CwC.pt rfl (by omega) ?_ | refine CwC.pf rfl (by omega) ?_ | refine CwC.it rfl (by omega) ?_ | refine CwC.if rfl (by omega) ?_ | refine CwC.nt rfl (by omega) ?_ | refine CwC.nf rfl (by omega) ?_ | refine CwC.tt rfl ?_ | refine CwC.ff rfl ?_ | refine CwC.bt rfl (by assumption) ?_ | (refine CwC.bf rfl ?_ ?_; focus assumption))
    refine Ow.buildSlice (e := 9) #[vs [72]] rfl rfl (by kernel_rfl) fun b5 hb5 hw5 => ?_
    obtain ⟨h45, hx5, -⟩ := hb5
    refine Ow.run rfl fun k hk => ?_
    simp (disch := (first | omega | (simp only [lenS, lenT, UInt64.reduceToNat] ; try omega))) only [↓vcL_none, ↓vcB_call, putF_some, setF_s, setF_0, List.cons_append, List.nil_append]
    (with_reducible refine hk _ _ _ _ ?_); clear hk k
    refine Ow.callX (Y := [(bx, .cells #[vt, vl] 25 (0, 0)), (b5, .cells #[vs [72]] 9 (0, 0))]) (by simp) rfl rfl Tryd.call53 (fun w' hw' hX hn => WRaw_spec b4 [(b4, .cells #[.pointer none, .slice none 0 0] 98 (0, 0))] [] _ b5 0 [[72]] _ _ _ w' hZ hX hn (StrS.lit [[72]] rfl rfl (hw'.has _ _ (List.mem_cons_of_mem _ (List.mem_cons_of_mem _ List.mem_cons_self)))) (fun _ hm => by simp [keys] at hm; omega) (by simp) (by simp)) (fun v6 D6 hC6 hS6 => ?_)
    obtain ⟨rfl, hB6⟩ := hS6
    simp only [List.flatten_cons, List.flatten_nil, List.append_nil, List.nil_append] at hB6
    have hx6 : bx ∉ keys D6 := came_out hC6 (by simp [keys]) (by simp [keys]; omega)
    have hN6 : New w.heap.size D6 := came_new hC6 ⟨hw4, trivial⟩
    have rd6 : readB w (D6 ++ [(bx, .cells #[vt, vl] 25 (0, 0)), (b5, .cells #[vs [72]] 9 (0, 0))]) bx = some (.cells #[vt, vl] 25 (0, 0)) := read_look (by rw [look_app_r hx6]; exact look_same _ _ _)
    refine Ow.run rfl fun k hk => ?_
    simp (disch := (first | omega | (simp only [lenS, lenT, UInt64.reduceToNat] ; try omega))) only [↓vcL_nil, putF_some, setF_s, setF_0]
    (with_reducible refine hk _ _ _ _ ?_); clear hk k
    repeat' first | with_reducible (first | refine Cw.seq ?_ | refine thenK_normal ?_ | refine Ow.nil ?_) | ((with_reducible refine Cw.region (Ow.run rfl fun k hk => ?_)); simp (disch := (first | omega | (simp only [lenS, lenT, UInt64.reduceToNat] ; try omega))) only [↓vcL_none, ↓vcB_fieldAddr, Tryd.fl25_0, ↓ev_tmp, ↓getF_s, ↓getF_0, fieldAddr_p, Nat.add_zero, ↓ov_some, putF_some, setF_s, setF_0, nf_cons, ↓vcB_load, Md.next_seq, rd_seq_load, ↓ib_true, Tryd.ag23, loadAt_p, rd6, load_bk0, ↓vcB_len, Tryd.ix23, ht.len, ↓vcB_buildSlice]; (with_reducible refine hk _ _ _ _ ?_); clear hk k) | with_reducible (first | refine Cw.block ?_ | refine Cw.skip ?_ | refine Cw.exit ?_ | refine Cw.ret ?_ | refine thenK_exit ?_ | refine thenK_ret ?_ | refine blockK_normal ?_ | refine blockK_ret ?_ | refine blockK_exit ?_ | refine blockK_pass rfl ?_) | ((with_reducible refine Cw.condC ?_); first | refine CwC.pt rfl (by omega) ?_ | refine CwC.pf rfl (by omega) ?_ | refine CwC.it rfl (by omega) ?_ | refine CwC.if rfl (by omega) ?_ | refine CwC.nt rfl (by omega) ?_ | refine CwC.nf rfl (by omega) ?_ | refine CwC.tt rfl ?_ | refine CwC.ff rfl ?_ | refine CwC.bt rfl (by assumption) ?_ | (refine CwC.bf rfl ?_ ?_; focus assumption))
    refine Ow.buildSlice (e := 3) #[vi t.length] rfl rfl (by kernel_rfl) fun b7 hb7 hw7 => ?_
    refine Ow.run rfl fun k hk => ?_
    simp (disch := (first | omega | (simp only [lenS, lenT, UInt64.reduceToNat] ; try omega))) only [↓vcL_none, ↓vcB_call, putF_some, setF_s, setF_0]
    (with_reducible refine hk _ _ _ _ ?_); clear hk k
    refine Ow.callX (Y := [(bx, .cells #[vt, vl] 25 (0, 0)), (b5, .cells #[vs [72]] 9 (0, 0)), (b7, .cells #[vi t.length] 3 (0, 0))]) (by simp) rfl rfl Tryd.call54 (fun w' hw' hX hn => WNumber_spec b4 D6 _ _ b7 0 [(t.length : Int)] _ _ _ w' hB6 hX hn (OneS.lit [(t.length : Int)] rfl rfl (hw'.has _ _ (List.mem_append_right _ List.mem_cons_self))) (fun _ hm => Nat.lt_irrefl _ (above_to hb7 (by rw [keys_app]; exact List.mem_append_left _ hm))) (by simp)) (fun v8 D8 hC8 hS8 => ?_)
    obtain ⟨rfl, hB8⟩ := hS8
    rw [numsL_one] at hB8
    have hx7 : bx < b7 := above_to hb7 (by simp [keys_app, keys])
    have hx8 : bx ∉ keys D8 := came_out hC8 (by simp [keys_app, keys]) hx6
    have hN8 : New w.heap.size D8 := came_new hC8 hN6
    have rd8 : readB w (D8 ++ [(bx, .cells #[vt, vl] 25 (0, 0)), (b5, .cells #[vs [72]] 9 (0, 0)), (b7, .cells #[vi t.length] 3 (0, 0))]) bx = some (.cells #[vt, vl] 25 (0, 0)) := read_look (by rw [look_app_r hx8]; exact look_same _ _ _)
    refine Ow.run rfl fun k hk => ?_
    simp (disch := (first | omega | (simp only [lenS, lenT, UInt64.reduceToNat] ; try omega))) only [↓vcL_nil, putF_some, setF_s, setF_0]
    (with_reducible refine hk _ _ _ _ ?_); clear hk k
    repeat' first | with_reducible (first | refine Cw.seq ?_ | refine thenK_normal ?_ | refine Ow.nil ?_) | ((with_reducible refine Cw.region (Ow.run rfl fun k hk => ?_)); simp (disch := (first | omega | (simp only [lenS, lenT, UInt64.reduceToNat] ; try omega))) only [↓vcL_none, ↓vcB_fieldAddr, Tryd.fl25_0, ↓ev_tmp, ↓getF_s, ↓getF_0, fieldAddr_p, Nat.add_zero, ↓ov_some, putF_some, setF_s, setF_0, nf_cons, ↓vcB_load, Md.next_seq, rd_seq_load, ↓ib_true, Tryd.ag23, loadAt_p, rd8, load_bk0, ↓vcB_len, Tryd.ix23, ht.len, ↓vcB_move, ↓ev_const, lit_i64, ↓vcL_nil]; (with_reducible refine hk _ _ _ _ ?_); clear hk k) | with_reducible (first | refine Cw.block ?_ | refine Cw.skip ?_ | refine Cw.exit ?_ | refine Cw.ret ?_ | refine thenK_exit ?_ | refine thenK_ret ?_ | refine blockK_normal ?_ | refine blockK_ret ?_ | refine blockK_exit ?_ | refine blockK_pass rfl ?_) | ((with_reducible refine Cw.condC ?_); first | refine CwC.pt rfl (by omega) ?_ | refine CwC.pf rfl (by omega) ?_ | refine CwC.it rfl (by omega) ?_ | refine CwC.if rfl (by omega) ?_ | refine CwC.nt rfl (by omega) ?_ | refine CwC.nf rfl (by omega) ?_ | refine CwC.tt rfl ?_ | refine CwC.ff rfl ?_ | refine CwC.bt rfl (by assumption) ?_ | (refine CwC.bf rfl ?_ ?_; focus assumption))
    refine Cw.permL (M := (D8 ++ [(b5, .cells #[vs [72]] 9 (0, 0)), (b7, .cells #[vi t.length] 3 (0, 0))]) ++ [(bx, .cells #[vt, vl] 25 (0, 0))]) (by classical exact List.perm_iff_count.2 fun a => by simp only [List.count_append, List.count_cons, List.count_nil] <;> omega) ?_
    obtain ⟨b1, o1, a1, E1, f1, h1⟩ := ht.row
    refine Cw.loopG (G := WG) [24, 25, 26, 6, 27, 28, 29, 30, 31, 32, 33, 34, 35, 23] (fun g => [(23, vi g.g)]) (fun g => g.D ++ [(bx, .cells #[vt, vl] 25 (0, 0))]) (fun g => g.g ≤ t.length ∧ New w.heap.size g.D ∧ bx ∉ keys g.D ∧ BldAt b4 ([72] ++ numL (clampN t.length) ++ tabB (t.take g.g)) g.D) (fun g => t.length - g.g) ⟨0, D8 ++ [(b5, .cells #[vs [72]] 9 (0, 0)), (b7, .cells #[vi t.length] 3 (0, 0))]⟩ rfl rfl ?_ ?_
    · exact ⟨Nat.zero_le _, hN8.app ⟨hw5, hw7, trivial⟩, by intro hm; rw [keys_app] at hm; exact (List.mem_append.1 hm).elim hx8 (fun h => by simp [keys] at h; omega), by simpa [tabB] using BldAt.app hB8⟩
    intro g j hg
    simp only [overFrom, pin, setF_0, setF_s, List.contains_cons, List.contains_nil, Nat.reduceBEq, Bool.or_false, Bool.false_or, Bool.or_true, Bool.true_or, Nat.reduceAdd, ↓reduceIte, Bool.false_eq_true]
    obtain ⟨g, D⟩ := g
    simp only at hg ⊢
    obtain ⟨hgL, hN, hxD, hBD⟩ := hg
    by_cases hlt : g < t.length
    · have hb1 := h1.has (by omega)
      have hb1l := h1.lt (by omega)
      have ld1 := h1.load refC_len (by omega) hlt
      have hNL : New w.heap.size (D ++ [(bx, .cells #[vt, vl] 25 (0, 0))]) := hN.app ⟨hwx, trivial⟩
      have rd1 : readB w (D ++ [(bx, .cells #[vt, vl] 25 (0, 0))]) b1 = some (.cells a1 E1 f1) := by rw [read_none (hNL.not hb1l)]; exact hb1
      have hnm := hnt g hlt
      have hsu := tabB_succ t g hlt
      have htl := tabB_len hnt g hgL
      generalize hrr : t.getD g ref0 = r at *
      repeat' first | with_reducible (first | refine Cw.seq ?_ | refine thenK_normal ?_ | refine Ow.nil ?_) | ((with_reducible refine Cw.region (Ow.run rfl fun k hk => ?_)); simp (disch := (first | omega | (simp only [lenS, lenT, UInt64.reduceToNat] ; try omega))) only [↓vcL_none, ↓vcB_binOp, ↓ev_tmp, ↓getF_s, ↓getF_0, binX_vi_vi, bin_lss_i, ↓ov_some, putF_some, setF_s, setF_0, nf_cons, ↓vcL_nil, Md.next_seq]; (with_reducible refine hk _ _ _ _ ?_); clear hk k) | with_reducible (first | refine Cw.block ?_ | refine Cw.skip ?_ | refine Cw.exit ?_ | refine Cw.ret ?_ | refine thenK_exit ?_ | refine thenK_ret ?_ | refine blockK_normal ?_ | refine blockK_ret ?_ | refine blockK_exit ?_ | refine blockK_pass rfl ?_) | ((with_reducible refine Cw.condC ?_); first | refine CwC.pt rfl (by omega) ?_ | refine CwC.pf rfl (by omega) ?_ | refine CwC.it rfl (by omega) ?_ | refine CwC.if rfl (by omega) ?_ | refine CwC.nt rfl (by omega) ?_ | refine CwC.nf rfl (by omega) ?_ | refine CwC.tt rfl ?_ | refine CwC.ff rfl ?_ | refine CwC.bt rfl (by assumption) ?_ | (refine CwC.bf rfl ?_ ?_; focus assumption))
      refine Cw.region (Ow.run rfl fun k hk => ?_)
      simp (disch := (first | omega | (simp only [lenS, lenT, UInt64.reduceToNat] ; try omega))) only [↓vcL_none, ↓vcB_indexAddr, Tryd.ix23, ↓ev_tmp, ↓getF_s, ↓getF_0, ixI_vi, h1.idx, ↓ov_some, putF_some, setF_s, setF_0, nf_cons, ↓vcB_load, Md.next_seq, rd_seq_load, ↓ib_true, Tryd.ag42, loadAt_p, rd1, ld1, ↓vcB_alloc]
      (with_reducible refine hk _ _ _ _ ?_); clear hk k
      refine Ow.alloc rfl rfl zrRef fun b6 hb6 hw6 => ?_
      simp only [cells_agg, List.nil_append, List.cons_append]
      have hx6 : bx < b6 := above_to hb6 (by simp [keys_app, keys])
      have lk6 : ∀ o, Sx.look (D ++ [(bx, Obj.cells #[vt, vl] 25 (0, 0))] ++ [(b6, o)]) b6 = some o := fun o => look_new hb6
      have st6 : ∀ o x, setB (D ++ [(bx, Obj.cells #[vt, vl] 25 (0, 0))] ++ [(b6, o)]) b6 x = D ++ [(bx, Obj.cells #[vt, vl] 25 (0, 0))] ++ [(b6, x)] := fun o x => setB_new hb6
      have rr6 : ∀ o, readB w (D ++ [(bx, Obj.cells #[vt, vl] 25 (0, 0))] ++ [(b6, o)]) b6 = some o := fun o => read_look (lk6 o)
      refine Ow.run rfl fun k hk => ?_
      simp (disch := (first | omega | (simp only [lenS, lenT, UInt64.reduceToNat] ; try omega))) only [↓vcL_none, ↓vcB_store, Tryd.ag42, ↓ev_tmp, putF_some, setF_s, setF_0, ↓getF_s, ↓getF_0, storeAt_p, lk6, store_rr, upd_some, st6, oh_some, ↓vcL_nil, Md.next_seq, nh_any]
      (with_reducible refine hk _ _ _ _ ?_); clear hk k
      repeat' first | with_reducible (first | refine Cw.seq ?_ | refine thenK_normal ?_ | refine Ow.nil ?_) | ((with_reducible refine Cw.region (Ow.run rfl fun k hk => ?_)); simp (disch := (first | omega | (simp only [lenS, lenT, UInt64.reduceToNat] ; try omega))) only [↓vcL_none, ↓vcB_fieldAddr, Tryd.fl42_0, ↓ev_tmp, ↓getF_s, ↓getF_0, fieldAddr_p, Nat.add_zero, ↓ov_some, putF_some, setF_s, setF_0, nf_cons, ↓vcB_load, Md.next_seq, rd_seq_load, ↓ib_true, Tryd.ag9, loadAt_p, rr6, load_ref0, ↓vcB_buildSlice]; (with_reducible refine hk _ _ _ _ ?_); clear hk k) | with_reducible (first | refine Cw.block ?_ | refine Cw.skip ?_ | refine Cw.exit ?_ | refine Cw.ret ?_ | refine thenK_exit ?_ | refine thenK_ret ?_ | refine blockK_normal ?_ | refine blockK_ret ?_ | refine blockK_exit ?_ | refine blockK_pass rfl ?_) | ((with_reducible refine Cw.condC ?_); first | refine CwC.pt rfl (by omega) ?_ | refine CwC.pf rfl (by omega) ?_ | refine CwC.it rfl (by omega) ?_ | refine CwC.if rfl (by omega) ?_ | refine CwC.nt rfl (by omega) ?_ | refine CwC.nf rfl (by omega) ?_ | refine CwC.tt rfl ?_ | refine CwC.ff rfl ?_ | refine CwC.bt rfl (by assumption) ?_ | (refine CwC.bf rfl ?_ ?_; focus assumption))
      refine Ow.buildSlice (e := 9) #[vs r.name] rfl rfl (by kernel_rfl) fun b9 hb9 hw9 => ?_
      have hnl := numL_clamp_len (r.name.length : Int)
      have htx : textsL [r.name] = textL r.name := by simp [textsL]
      have htn : (textL r.name).length = (numL (clampN r.name.length)).length + r.name.length := by unfold textL; rw [List.length_append]
      have hnt0 := numL_clamp_len (t.length : Int)
      rw [List.append_assoc, List.append_assoc]
      simp only [List.cons_append, List.nil_append]
      refine Ow.run rfl fun k hk => ?_
      simp (disch := (first | omega | (simp only [lenS, lenT, UInt64.reduceToNat] ; try omega))) only [↓vcL_none, ↓vcB_call, putF_some, setF_s, setF_0]
      (with_reducible refine hk _ _ _ _ ?_); clear hk k
      refine Ow.callX (Y := [(bx, Obj.cells #[vt, vl] 25 (0, 0)), (b6, .cells (refC r).toArray 42 (0, 0)), (b9, .cells #[vs r.name] 9 (0, 0))]) (by simp) rfl rfl Tryd.call55 (fun w' hw' hX hn => WText_spec b4 D _ _ b9 0 [r.name] _ _ _ w' hBD hX hn (StrS.lit [r.name] rfl rfl (hw'.has _ _ (List.mem_append_right _ (List.mem_cons_of_mem _ (List.mem_cons_of_mem _ List.mem_cons_self))))) (fun _ hm => Nat.lt_irrefl _ (above_to hb9 (by simp [keys_app, hm]))) (by rw [htx]; simp only [List.length_append, List.length_cons, List.length_nil]; omega) (by simp)) (fun v10 D10 hC10 hS10 => ?_)
      obtain ⟨rfl, hB10⟩ := hS10
      rw [htx] at hB10
      have hx10 : bx ∉ keys D10 := came_out hC10 (by simp [keys_app, keys]) hxD
      have h610 : b6 ∉ keys D10 := came_out hC10 (by simp [keys_app, keys]) (fun hm => Nat.lt_irrefl _ (above_to hb6 (by simp [keys_app, hm])))
      have hN10 : New w.heap.size D10 := came_new hC10 hN
      have rd10 : readB w (D10 ++ [(bx, Obj.cells #[vt, vl] 25 (0, 0)), (b6, .cells (refC r).toArray 42 (0, 0)), (b9, .cells #[vs r.name] 9 (0, 0))]) b6 = some (.cells (refC r).toArray 42 (0, 0)) := read_look (by rw [look_app_r h610, look_other _ _ _ _ (by omega)]; exact look_same _ _ _)
      refine Ow.run rfl fun k hk => ?_
      simp (disch := (first | omega | (simp only [lenS, lenT, UInt64.reduceToNat] ; try omega))) only [↓vcL_nil, putF_some, setF_s, setF_0]
      (with_reducible refine hk _ _ _ _ ?_); clear hk k
      repeat' first | with_reducible (first | refine Cw.seq ?_ | refine thenK_normal ?_ | refine Ow.nil ?_) | ((with_reducible refine Cw.region (Ow.run rfl fun k hk => ?_)); simp (disch := (first | omega | (simp only [lenS, lenT, UInt64.reduceToNat] ; try omega))) only [↓vcL_none, ↓vcB_fieldAddr, Tryd.fl42_1, ↓ev_tmp, ↓getF_s, ↓getF_0, fieldAddr_p, Nat.zero_add, ↓ov_some, putF_some, setF_s, setF_0, nf_cons, ↓vcB_load, Md.next_seq, rd_seq_load, ↓ib_true, Tryd.ag40, loadAt_p, rd10, load_ref1, ↓vcB_buildSlice]; (with_reducible refine hk _ _ _ _ ?_); clear hk k) | with_reducible (first | refine Cw.block ?_ | refine Cw.skip ?_ | refine Cw.exit ?_ | refine Cw.ret ?_ | refine thenK_exit ?_ | refine thenK_ret ?_ | refine blockK_normal ?_ | refine blockK_ret ?_ | refine blockK_exit ?_ | refine blockK_pass rfl ?_) | ((with_reducible refine Cw.condC ?_); first | refine CwC.pt rfl (by omega) ?_ | refine CwC.pf rfl (by omega) ?_ | refine CwC.it rfl (by omega) ?_ | refine CwC.if rfl (by omega) ?_ | refine CwC.nt rfl (by omega) ?_ | refine CwC.nf rfl (by omega) ?_ | refine CwC.tt rfl ?_ | refine CwC.ff rfl ?_ | refine CwC.bt rfl (by assumption) ?_ | (refine CwC.bf rfl ?_ ?_; focus assumption))
      refine Ow.buildSlice (e := 40) (a8 r.id.l) rfl rfl (slice_id r.id) fun b11 hb11 hw11 => ?_
      have hil := idsL_len [r.id]
      have hil2 := r.id.h
      have hids : idsL [r.id] = r.id.l := by simp [idsL]
      have hx9 : bx < b9 := above_to hb9 (by simp [keys_app, keys])
      have hx11 : bx < b11 := above_to hb11 (by simp [keys_app, keys])
      rw [List.append_assoc]
      simp only [List.cons_append, List.nil_append]
      refine Ow.run rfl fun k hk => ?_
      simp (disch := (first | omega | (simp only [lenS, lenT, UInt64.reduceToNat] ; try omega))) only [↓vcL_none, ↓vcB_call, putF_some, setF_s, setF_0]
      (with_reducible refine hk _ _ _ _ ?_); clear hk k
      refine Ow.callX (Y := [(bx, Obj.cells #[vt, vl] 25 (0, 0)), (b6, .cells (refC r).toArray 42 (0, 0)), (b9, .cells #[vs r.name] 9 (0, 0)), (b11, .cells (a8 r.id.l) 40 (0, 0))]) (by simp) rfl rfl Tryd.call56 (fun w' hw' hX hn => WId_spec b4 D10 _ _ b11 0 [r.id] _ _ _ w' hB10 hX hn (RowS.sl rfl (hw'.has b11 (.cells (a8 r.id.l) 40 (0, 0)) (List.mem_append_right _ (List.mem_cons_of_mem _ (List.mem_cons_of_mem _ (List.mem_cons_of_mem _ List.mem_cons_self))))) (rowId r.id)) (fun _ hm => Nat.lt_irrefl _ (above_to hb11 (by simp [keys_app, hm]))) (by simp only [List.length_append, List.length_cons, List.length_nil]; omega)) (fun v12 D12 hC12 hS12 => ?_)
      obtain ⟨rfl, hB12⟩ := hS12
      rw [hids] at hB12
      have hx12 : bx ∉ keys D12 := came_out hC12 (by simp [keys_app, keys]) hx10
      have hN12 : New w.heap.size D12 := came_new hC12 hN10
      refine Ow.run rfl fun k hk => ?_
      simp (disch := (first | omega | (simp only [lenS, lenT, UInt64.reduceToNat] ; try omega))) only [↓vcL_nil, putF_some, setF_s, setF_0]
      (with_reducible refine hk _ _ _ _ ?_); clear hk k
      with_reducible refine Ow.nil ?_
      with_reducible refine blockK_normal ?_
      with_reducible refine thenK_normal ?_
      refine Cw.permL (M := (D12 ++ [(b6, .cells (refC r).toArray 42 (0, 0)), (b9, .cells #[vs r.name] 9 (0, 0)), (b11, .cells (a8 r.id.l) 40 (0, 0))]) ++ [(bx, .cells #[vt, vl] 25 (0, 0))]) (by classical exact List.perm_iff_count.2 fun a => by simp only [List.count_append, List.count_cons, List.count_nil] <;> omega) ?_
      repeat' first | with_reducible (first | refine Cw.seq ?_ | refine thenK_normal ?_ | refine Ow.nil ?_) | ((with_reducible refine Cw.region (Ow.run rfl fun k hk => ?_)); simp (disch := (first | omega | (simp only [lenS, lenT, UInt64.reduceToNat] ; try omega))) only [↓vcL_none, ↓vcB_binOp, ↓ev_tmp, ↓getF_s, ↓getF_0, ↓ev_const, lit_i64, binX_vi_vi, bin_add_i, ↓ov_some, putF_some, setF_s, setF_0, nf_cons, ↓vcB_move, ↓vcL_nil, Md.next_seq]; (with_reducible refine hk _ _ _ _ ?_); clear hk k) | with_reducible (first | refine Cw.block ?_ | refine Cw.skip ?_ | refine Cw.exit ?_ | refine Cw.ret ?_ | refine thenK_exit ?_ | refine thenK_ret ?_ | refine blockK_normal ?_ | refine blockK_ret ?_ | refine blockK_exit ?_ | refine blockK_pass rfl ?_) | ((with_reducible refine Cw.condC ?_); first | refine CwC.pt rfl (by omega) ?_ | refine CwC.pf rfl (by omega) ?_ | refine CwC.it rfl (by omega) ?_ | refine CwC.if rfl (by omega) ?_ | refine CwC.nt rfl (by omega) ?_ | refine CwC.nf rfl (by omega) ?_ | refine CwC.tt rfl ?_ | refine CwC.ff rfl ?_ | refine CwC.bt rfl (by assumption) ?_ | (refine CwC.bf rfl ?_ ?_; focus assumption))
      refine Again.mk (WG.mk (g + 1) (D12 ++ [(b6, .cells (refC r).toArray 42 (0, 0)), (b9, .cells #[vs r.name] 9 (0, 0)), (b11, .cells (a8 r.id.l) 40 (0, 0))])) (by show t.length - (g + 1) < t.length - g; omega) ⟨by show g + 1 ≤ t.length; omega, hN12.app ⟨hw6, hw9, hw11, trivial⟩, ?_, ?_⟩ rfl rfl
      · intro hm; rw [keys_app] at hm; exact (List.mem_append.1 hm).elim hx12 (fun h => by simp [keys] at h; omega)
      · show BldAt b4 ([72] ++ numL (clampN t.length) ++ tabB (t.take (g + 1))) _
        rw [hsu, refB]
        simp only [List.append_assoc] at hB12 ⊢
        exact BldAt.app hB12
    · obtain rfl : g = t.length := by omega
      have htl := tabB_len hnt t.length (Nat.le_refl _)
      rw [List.take_length] at htl hBD
      have hnt0 := numL_clamp_len (t.length : Int)
      repeat' first | with_reducible (first | refine Cw.seq ?_ | refine thenK_normal ?_ | refine Ow.nil ?_) | ((with_reducible refine Cw.region (Ow.run rfl fun k hk => ?_)); simp (disch := (first | omega | (simp only [lenS, lenT, UInt64.reduceToNat] ; try omega))) only [↓vcL_none, ↓vcB_binOp, ↓ev_tmp, ↓getF_s, ↓getF_0, binX_vi_vi, bin_lss_i, ↓ov_some, putF_some, setF_s, setF_0, nf_cons, ↓vcL_nil, Md.next_seq, ↓vcB_call]; (with_reducible refine hk _ _ _ _ ?_); clear hk k) | with_reducible (first | refine Cw.block ?_ | refine Cw.skip ?_ | refine Cw.exit ?_ | refine Cw.ret ?_ | refine thenK_exit ?_ | refine thenK_ret ?_ | refine blockK_normal ?_ | refine blockK_ret ?_ | refine blockK_exit ?_ | refine blockK_pass rfl ?_) | ((with_reducible refine Cw.condC ?_); first | refine CwC.pt rfl (by omega) ?_ | refine CwC.pf rfl (by omega) ?_ | refine CwC.it rfl (by omega) ?_ | refine CwC.if rfl (by omega) ?_ | refine CwC.nt rfl (by omega) ?_ | refine CwC.nf rfl (by omega) ?_ | refine CwC.tt rfl ?_ | refine CwC.ff rfl ?_ | refine CwC.bt rfl (by assumption) ?_ | (refine CwC.bf rfl ?_ ?_; focus assumption))
      refine Ow.callX (Y := [(bx, Obj.cells #[vt, vl] 25 (0, 0))]) (by simp) rfl rfl Tryd.call57 (fun w' hw' hX hn => record_spec b4 D _ w' (GlobC.of hG hw' (New.not (L := D ++ [(bx, Obj.cells #[vt, vl] 25 (0, 0))]) (hN.app ⟨hwx, trivial⟩) hglt)) (hN.not hglt) hBD hX hn (by simp only [List.length_append, List.length_cons, List.length_nil]; omega)) (fun v13 D13 hC13 hS13 => ?_)
      have hS13' : v13 = vs (recordV (headB t)) := hS13
      subst hS13'
      have hdl : (recordV (headB t)).length < 1200000 := by
        have h3 := numL_clamp_len ((sealV (headB t)).length : Int)
        have h4 := sealV_len (headB t)
        simp only [recordV, textL, List.length_append]
        rw [h4] at h3 ⊢
        simp only [headB, List.length_append, List.length_cons, List.length_nil] at h3 ⊢
        omega
      have hbk : ∀ x, recordV (headB t) ++ x = recordV (headB t) ++ x := fun _ => rfl
      generalize hHd : recordV (headB t) = hd at *
      have hx13 : bx ∉ keys D13 := came_out hC13 (by simp [keys_app, keys]) hxD
      have hN13 : New w.heap.size D13 := came_new hC13 hN
      have rd13 : readB w (D13 ++ [(bx, .cells #[vt, vl] 25 (0, 0))]) bx = some (.cells #[vt, vl] 25 (0, 0)) := read_look (by rw [look_app_r hx13]; exact look_same _ _ _)
      refine Ow.run rfl fun k hk => ?_
      simp (disch := (first | omega | (simp only [lenS, lenT, UInt64.reduceToNat] ; try omega))) only [↓vcL_none, ↓vcB_assign, ↓ov_some, putF_some, setF_s, setF_0, ↓ev_tmp, ↓getF_s, ↓getF_0, nf_cons, ↓vcL_nil, Md.next_seq]
      (with_reducible refine hk _ _ _ _ ?_); clear hk k
      repeat' first | with_reducible (first | refine Cw.seq ?_ | refine thenK_normal ?_ | refine Ow.nil ?_) | ((with_reducible refine Cw.region (Ow.run rfl fun k hk => ?_)); simp (disch := (first | omega | (simp only [lenS, lenT, UInt64.reduceToNat] ; try omega))) only [↓vcL_none, ↓vcB_fieldAddr, Tryd.fl25_1, ↓ev_tmp, ↓getF_s, ↓getF_0, fieldAddr_p, Nat.zero_add, ↓ov_some, putF_some, setF_s, setF_0, nf_cons, ↓vcB_load, Md.next_seq, rd_seq_load, ↓ib_true, Tryd.ag23, loadAt_p, rd13, load_bk1, ↓vcB_len, Tryd.ix23, hl.len, ↓vcB_move, ↓ev_const, lit_i64, ↓vcL_nil]; (with_reducible refine hk _ _ _ _ ?_); clear hk k) | with_reducible (first | refine Cw.block ?_ | refine Cw.skip ?_ | refine Cw.exit ?_ | refine Cw.ret ?_ | refine thenK_exit ?_ | refine thenK_ret ?_ | refine blockK_normal ?_ | refine blockK_ret ?_ | refine blockK_exit ?_ | refine blockK_pass rfl ?_) | ((with_reducible refine Cw.condC ?_); first | refine CwC.pt rfl (by omega) ?_ | refine CwC.pf rfl (by omega) ?_ | refine CwC.it rfl (by omega) ?_ | refine CwC.if rfl (by omega) ?_ | refine CwC.nt rfl (by omega) ?_ | refine CwC.nf rfl (by omega) ?_ | refine CwC.tt rfl ?_ | refine CwC.ff rfl ?_ | refine CwC.bt rfl (by assumption) ?_ | (refine CwC.bf rfl ?_ ?_; focus assumption))
      obtain ⟨b2, o2, a2, E2, f2, h2⟩ := hl.row
      rw [show hd = hd ++ logB (l.take 0) by simp [logB]]
      refine Cw.loopG (G := WG) [41, 42, 43, 9, 44, 45, 46, 47, 7, 48, 40] (fun g => [(40, vi g.g), (7, vs (hd ++ logB (l.take g.g)))]) (fun g => g.D) (fun g => g.g ≤ l.length ∧ New w.heap.size g.D) (fun g => l.length - g.g) ⟨0, D13 ++ [(bx, .cells #[vt, vl] 25 (0, 0))]⟩ rfl rfl ?_ ?_
      · exact ⟨Nat.zero_le _, hN13.app ⟨hwx, trivial⟩⟩
      intro g j hg
      simp only [overFrom, pin, setF_0, setF_s, List.contains_cons, List.contains_nil, Nat.reduceBEq, Bool.or_false, Bool.false_or, Bool.or_true, Bool.true_or, Nat.reduceAdd, ↓reduceIte, Bool.false_eq_true]
      obtain ⟨g, D⟩ := g
      simp only at hg ⊢
      obtain ⟨hgL, hN⟩ := hg
      have hll2 := logB_len hnl g hgL
      by_cases hlt : g < l.length
      · have hb2 := h2.has (by omega)
        have hb2l := h2.lt (by omega)
        have ld2 := h2.load refC_len (by omega) hlt
        have rd2 : readB w D b2 = some (.cells a2 E2 f2) := by rw [read_none (hN.not hb2l)]; exact hb2
        have hnm := hnl g hlt
        have hsu := logB_succ l g hlt
        have hrl := recE_len hnm
        generalize hrr : l.getD g ref0 = r at *
        repeat' first | with_reducible (first | refine Cw.seq ?_ | refine thenK_normal ?_ | refine Ow.nil ?_) | ((with_reducible refine Cw.region (Ow.run rfl fun k hk => ?_)); simp (disch := (first | omega | (simp only [lenS, lenT, UInt64.reduceToNat] ; try omega))) only [↓vcL_none, ↓vcB_binOp, ↓ev_tmp, ↓getF_s, ↓getF_0, binX_vi_vi, bin_lss_i, ↓ov_some, putF_some, setF_s, setF_0, nf_cons, ↓vcL_nil, Md.next_seq]; (with_reducible refine hk _ _ _ _ ?_); clear hk k) | with_reducible (first | refine Cw.block ?_ | refine Cw.skip ?_ | refine Cw.exit ?_ | refine Cw.ret ?_ | refine thenK_exit ?_ | refine thenK_ret ?_ | refine blockK_normal ?_ | refine blockK_ret ?_ | refine blockK_exit ?_ | refine blockK_pass rfl ?_) | ((with_reducible refine Cw.condC ?_); first | refine CwC.pt rfl (by omega) ?_ | refine CwC.pf rfl (by omega) ?_ | refine CwC.it rfl (by omega) ?_ | refine CwC.if rfl (by omega) ?_ | refine CwC.nt rfl (by omega) ?_ | refine CwC.nf rfl (by omega) ?_ | refine CwC.tt rfl ?_ | refine CwC.ff rfl ?_ | refine CwC.bt rfl (by assumption) ?_ | (refine CwC.bf rfl ?_ ?_; focus assumption))
        refine Cw.region (Ow.run rfl fun k hk => ?_)
        simp (disch := (first | omega | (simp only [lenS, lenT, UInt64.reduceToNat] ; try omega))) only [↓vcL_none, ↓vcB_indexAddr, Tryd.ix23, ↓ev_tmp, ↓getF_s, ↓getF_0, ixI_vi, h2.idx, ↓ov_some, putF_some, setF_s, setF_0, nf_cons, ↓vcB_load, Md.next_seq, rd_seq_load, ↓ib_true, Tryd.ag42, loadAt_p, rd2, ld2, ↓vcB_alloc]
        (with_reducible refine hk _ _ _ _ ?_); clear hk k
        refine Ow.alloc rfl rfl zrRef fun b9 hb9 hw9 => ?_
        simp only [cells_agg, List.nil_append, List.cons_append]
        have lk9 : ∀ o, Sx.look (D ++ [(b9, o)]) b9 = some o := fun o => look_new hb9
        have st9 : ∀ o x, setB (D ++ [(b9, o)]) b9 x = D ++ [(b9, x)] := fun o x => setB_new hb9
        have rr9 : ∀ o, readB w (D ++ [(b9, o)]) b9 = some o := fun o => read_look (lk9 o)
        refine Ow.run rfl fun k hk => ?_
        simp (disch := (first | omega | (simp only [lenS, lenT, UInt64.reduceToNat] ; try omega))) only [↓vcL_none, ↓vcB_store, Tryd.ag42, ↓ev_tmp, putF_some, setF_s, setF_0, ↓getF_s, ↓getF_0, storeAt_p, lk9, store_rr, upd_some, st9, oh_some, ↓vcL_nil, Md.next_seq, nh_any]
        (with_reducible refine hk _ _ _ _ ?_); clear hk k
        repeat' first | with_reducible (first | refine Cw.seq ?_ | refine thenK_normal ?_ | refine Ow.nil ?_) | ((with_reducible refine Cw.region (Ow.run rfl fun k hk => ?_)); simp (disch := (first | omega | (simp only [lenS, lenT, UInt64.reduceToNat] ; try omega))) only [↓vcL_none, ↓vcB_move, ↓ov_some, ↓ev_tmp, ↓getF_s, ↓getF_0, putF_some, setF_s, setF_0, nf_cons, ↓vcB_load, Md.next_seq, rd_seq_load, ↓ib_true, Tryd.ag42, loadAt_p, rr9, load_ref, ↓vcB_call]; (with_reducible refine hk _ _ _ _ ?_); clear hk k) | with_reducible (first | refine Cw.block ?_ | refine Cw.skip ?_ | refine Cw.exit ?_ | refine Cw.ret ?_ | refine thenK_exit ?_ | refine thenK_ret ?_ | refine blockK_normal ?_ | refine blockK_ret ?_ | refine blockK_exit ?_ | refine blockK_pass rfl ?_) | ((with_reducible refine Cw.condC ?_); first | refine CwC.pt rfl (by omega) ?_ | refine CwC.pf rfl (by omega) ?_ | refine CwC.it rfl (by omega) ?_ | refine CwC.if rfl (by omega) ?_ | refine CwC.nt rfl (by omega) ?_ | refine CwC.nf rfl (by omega) ?_ | refine CwC.tt rfl ?_ | refine CwC.ff rfl ?_ | refine CwC.bt rfl (by assumption) ?_ | (refine CwC.bf rfl ?_ ?_; focus assumption))
        refine Ow.callFV rfl Tryd.call58 (fun w' hw' => (entryRecord_spec r w' (GlobC.of hG hw' (New.not (L := D ++ [(b9, Obj.cells (refC r).toArray 42 (0, 0))]) (hN.app ⟨hw9, trivial⟩) hglt)) (by omega)).quiet) ?_
        refine Ow.run rfl fun k hk => ?_
        simp (disch := (first | omega | (simp only [lenS, lenT, UInt64.reduceToNat] ; try omega))) only [↓vcL_none, ↓vcB_binOp, ↓ev_tmp, putF_some, setF_s, setF_0, ↓getF_s, ↓getF_0, binX_vs, bin_add_s, ↓ov_some, nf_cons, ↓vcB_assign, ↓vcL_nil, Md.next_seq]
        (with_reducible refine hk _ _ _ _ ?_); clear hk k
        repeat' first | with_reducible (first | refine Cw.seq ?_ | refine thenK_normal ?_ | refine Ow.nil ?_) | ((with_reducible refine Cw.region (Ow.run rfl fun k hk => ?_)); simp (disch := (first | omega | (simp only [lenS, lenT, UInt64.reduceToNat] ; try omega))) only [↓vcL_none, ↓vcB_binOp, ↓ev_tmp, ↓getF_s, ↓getF_0, ↓ev_const, lit_i64, binX_vi_vi, bin_add_i, ↓ov_some, putF_some, setF_s, setF_0, nf_cons, ↓vcB_move, ↓vcL_nil, Md.next_seq]; (with_reducible refine hk _ _ _ _ ?_); clear hk k) | with_reducible (first | refine Cw.block ?_ | refine Cw.skip ?_ | refine Cw.exit ?_ | refine Cw.ret ?_ | refine thenK_exit ?_ | refine thenK_ret ?_ | refine blockK_normal ?_ | refine blockK_ret ?_ | refine blockK_exit ?_ | refine blockK_pass rfl ?_) | ((with_reducible refine Cw.condC ?_); first | refine CwC.pt rfl (by omega) ?_ | refine CwC.pf rfl (by omega) ?_ | refine CwC.it rfl (by omega) ?_ | refine CwC.if rfl (by omega) ?_ | refine CwC.nt rfl (by omega) ?_ | refine CwC.nf rfl (by omega) ?_ | refine CwC.tt rfl ?_ | refine CwC.ff rfl ?_ | refine CwC.bt rfl (by assumption) ?_ | (refine CwC.bf rfl ?_ ?_; focus assumption))
        refine Again.mk (WG.mk (g + 1) (D ++ [(b9, Obj.cells (refC r).toArray 42 (0, 0))])) (by show l.length - (g + 1) < l.length - g; omega) ⟨by show g + 1 ≤ l.length; omega, hN.app ⟨hw9, trivial⟩⟩ rfl ?_
        rw [hsu, ← List.append_assoc]
        rfl
      · obtain rfl : g = l.length := by omega
        repeat' first | with_reducible (first | refine Cw.seq ?_ | refine thenK_normal ?_ | refine Ow.nil ?_) | ((with_reducible refine Cw.region (Ow.run rfl fun k hk => ?_)); simp (disch := (first | omega | (simp only [lenS, lenT, UInt64.reduceToNat] ; try omega))) only [↓vcL_none, ↓vcB_binOp, ↓ev_tmp, ↓getF_s, ↓getF_0, binX_vi_vi, bin_lss_i, ↓ov_some, putF_some, setF_s, setF_0, nf_cons, ↓vcL_nil, Md.next_seq, ↓vcB_move, ↓vcB_assign, ↓ev_const, lit_i64]; (with_reducible refine hk _ _ _ _ ?_); clear hk k) | with_reducible (first | refine Cw.block ?_ | refine Cw.skip ?_ | refine Cw.exit ?_ | refine Cw.ret ?_ | refine thenK_exit ?_ | refine thenK_ret ?_ | refine blockK_normal ?_ | refine blockK_ret ?_ | refine blockK_exit ?_ | refine blockK_pass rfl ?_) | ((with_reducible refine Cw.condC ?_); first | refine CwC.pt rfl (by omega) ?_ | refine CwC.pf rfl (by omega) ?_ | refine CwC.it rfl (by omega) ?_ | refine CwC.if rfl (by omega) ?_ | refine CwC.nt rfl (by omega) ?_ | refine CwC.nf rfl (by omega) ?_ | refine CwC.tt rfl ?_ | refine CwC.ff rfl ?_ | refine CwC.bt rfl (by assumption) ?_ | (refine CwC.bf rfl ?_ ?_; focus assumption))
        refine ⟨_, (by simp (disch := (first | omega | (simp only [lenS, lenT, UInt64.reduceToNat] ; try omega))) only [resVs_cons, resV_tmp, ↓getF_s, ↓getF_0, resVs_nil, cons2_some]; rfl), hN, ?_⟩
        (rw [List.take_length]; simp only [bookB, hHd, ↓reduceIte]; rfl)
end Go.Proofs
open Go Go.Proofs Go.Sx Go.RefP
namespace Go.Proofs
set_option maxRecDepth 10000
set_option maxHeartbeats 4000000
set_option linter.unusedSimpArgs false
theorem REnd_nil (w : World) : Rets Tryd.prog 45 #[.pointer none] w (fun v D => v = vi 3 ∧ D = []) := by
  refine Rets.enterV Tryd.func45 rfl (rs := [.tmp 2]) Tryd.results45 Tryd.ntmps45 ?_
  simp only [List.size_toArray, List.length_cons, List.length_nil, Nat.reduceAdd, Nat.reduceSub, List.replicate_succ, List.replicate_zero, List.cons_append, List.nil_append]
  repeat' first | with_reducible (first | refine Cw.seq ?_ | refine thenK_normal ?_ | refine Ow.nil ?_) | ((with_reducible refine Cw.region (Ow.run rfl fun k hk => ?_)); simp (disch := (first | omega | (simp only [lenS, lenT, UInt64.reduceToNat] ; try omega))) only [↓vcL_none, ↓vcB_assign, ↓ov_some, ↓ev_const, lit_i64, putF_some, setF_s, setF_0, nf_cons, ↓vcL_nil, Md.next_seq, ↓vcB_move, ↓ev_tmp, ↓getF_0, ↓vcB_call]; (with_reducible refine hk _ _ _ _ ?_); clear hk k) | with_reducible (first | refine Cw.block ?_ | refine Cw.skip ?_ | refine Cw.exit ?_ | refine Cw.ret ?_ | refine Cw.label ?_ | refine Cw.goto ?_ | refine thenK_exit ?_ | refine thenK_ret ?_ | refine thenK_goto ?_ | refine blockK_normal ?_ | refine blockK_ret ?_ | refine blockK_goto ?_ | refine blockK_exit ?_ | refine blockK_pass rfl ?_ | refine scopeK_normal ?_ | refine scopeK_ret ?_ | refine scopeK_exit ?_ | refine scopeK_goto ?_) | ((with_reducible refine Cw.condC ?_); first | refine CwC.pt rfl (by omega) ?_ | refine CwC.pf rfl (by omega) ?_ | refine CwC.it rfl (by omega) ?_ | refine CwC.if rfl (by omega) ?_ | refine CwC.nt rfl (by omega) ?_ | refine CwC.nf rfl (by omega) ?_ | refine CwC.tt rfl ?_ | refine CwC.ff rfl ?_ | refine CwC.bt rfl (by assumption) ?_ | (refine CwC.bf rfl ?_ ?_; focus assumption))
  refine Ow.callFV rfl Tryd.call85 (fun w' hw' => RErr_nil w') ?_
  refine Ow.run rfl fun k hk => ?_
  simp (disch := (first | omega | (simp only [lenS, lenT, UInt64.reduceToNat] ; try omega))) only [↓vcL_none, ↓vcB_assign, ↓ov_some, putF_some, setF_s, setF_0, ↓ev_tmp, ↓getF_s, ↓getF_0, nf_cons, ↓vcL_nil, Md.next_seq]
  (with_reducible refine hk _ _ _ _ ?_); clear hk k
  repeat' first | with_reducible (first | refine Cw.seq ?_ | refine thenK_normal ?_ | refine Ow.nil ?_) | ((with_reducible refine Cw.region (Ow.run rfl fun k hk => ?_)); simp (disch := (first | omega | (simp only [lenS, lenT, UInt64.reduceToNat] ; try omega))) only [↓vcL_none, ↓vcB_move, ↓ov_some, ↓ev_tmp, ↓getF_s, ↓getF_0, putF_some, setF_s, setF_0, nf_cons, ↓vcB_binOp, ↓ev_const, lit_i64, binX_vi_vi, bin_neq_i, ↓vcL_nil, Md.next_seq, ↓vcB_assign]; (with_reducible refine hk _ _ _ _ ?_); clear hk k) | with_reducible (first | refine Cw.block ?_ | refine Cw.skip ?_ | refine Cw.exit ?_ | refine Cw.ret ?_ | refine Cw.label ?_ | refine Cw.goto ?_ | refine thenK_exit ?_ | refine thenK_ret ?_ | refine thenK_goto ?_ | refine blockK_normal ?_ | refine blockK_ret ?_ | refine blockK_goto ?_ | refine blockK_exit ?_ | refine blockK_pass rfl ?_ | refine scopeK_normal ?_ | refine scopeK_ret ?_ | refine scopeK_exit ?_ | refine scopeK_goto ?_) | ((with_reducible refine Cw.condC ?_); first | refine CwC.pt rfl (by omega) ?_ | refine CwC.pf rfl (by omega) ?_ | refine CwC.it rfl (by omega) ?_ | refine CwC.if rfl (by omega) ?_ | refine CwC.nt rfl (by omega) ?_ | refine CwC.nf rfl (by omega) ?_ | refine CwC.tt rfl ?_ | refine CwC.ff rfl ?_ | refine CwC.bt rfl (by assumption) ?_ | (refine CwC.bf rfl ?_ ?_; focus assumption))
  refine ⟨_, (by simp (disch := (first | omega | (simp only [lenS, lenT, UInt64.reduceToNat] ; try omega))) only [resVs_cons, resV_tmp, ↓getF_s, ↓getF_0, resVs_nil, cons2_some]; rfl), trivial, ?_⟩
  rfl
theorem RNumber_nil (m : Int) (w : World) : Rets Tryd.prog 43 #[.pointer none, vi m] w (fun v D => v = vi 0 ∧ D = []) := by
  refine Rets.enterV Tryd.func43 rfl (rs := [.tmp 4]) Tryd.results43 Tryd.ntmps43 ?_
  simp only [List.size_toArray, List.length_cons, List.length_nil, Nat.reduceAdd, Nat.reduceSub, List.replicate_succ, List.replicate_zero, List.cons_append, List.nil_append]
  repeat' first | with_reducible (first | refine Cw.seq ?_ | refine thenK_normal ?_ | refine Ow.nil ?_) | ((with_reducible refine Cw.region (Ow.run rfl fun k hk => ?_)); simp (disch := (first | omega | (simp only [lenS, lenT, UInt64.reduceToNat] ; try omega))) only [↓vcL_none, ↓vcB_assign, ↓ov_some, ↓ev_const, lit_i64, putF_some, setF_s, setF_0, nf_cons, ↓vcL_nil, Md.next_seq]; (with_reducible refine hk _ _ _ _ ?_); clear hk k) | with_reducible (first | refine Cw.block ?_ | refine Cw.skip ?_ | refine Cw.exit ?_ | refine Cw.ret ?_ | refine Cw.label ?_ | refine Cw.goto ?_ | refine thenK_exit ?_ | refine thenK_ret ?_ | refine thenK_goto ?_ | refine blockK_normal ?_ | refine blockK_ret ?_ | refine blockK_goto ?_ | refine blockK_exit ?_ | refine blockK_pass rfl ?_ | refine scopeK_normal ?_ | refine scopeK_ret ?_ | refine scopeK_exit ?_ | refine scopeK_goto ?_) | ((with_reducible refine Cw.condC ?_); first | refine CwC.pt rfl (by omega) ?_ | refine CwC.pf rfl (by omega) ?_ | refine CwC.it rfl (by omega) ?_ | refine CwC.if rfl (by omega) ?_ | refine CwC.nt rfl (by omega) ?_ | refine CwC.nf rfl (by omega) ?_ | refine CwC.tt rfl ?_ | refine CwC.ff rfl ?_ | refine CwC.bt rfl (by assumption) ?_ | (refine CwC.bf rfl ?_ ?_; focus assumption))
  refine Cw.scopeS ?_
  repeat' first | with_reducible (first | refine Cw.seq ?_ | refine thenK_normal ?_ | refine Ow.nil ?_) | ((with_reducible refine Cw.region (Ow.run rfl fun k hk => ?_)); simp (disch := (first | omega | (simp only [lenS, lenT, UInt64.reduceToNat] ; try omega))) only [↓vcL_none, ↓vcB_move, ↓ov_some, ↓ev_tmp, ↓getF_0, putF_some, setF_s, setF_0, nf_cons, ↓vcB_call, Md.next_seq, lit_i64]; (with_reducible refine hk _ _ _ _ ?_); clear hk k) | with_reducible (first | refine Cw.block ?_ | refine Cw.skip ?_ | refine Cw.exit ?_ | refine Cw.ret ?_ | refine Cw.label ?_ | refine Cw.goto ?_ | refine thenK_exit ?_ | refine thenK_ret ?_ | refine thenK_goto ?_ | refine blockK_normal ?_ | refine blockK_ret ?_ | refine blockK_goto ?_ | refine blockK_exit ?_ | refine blockK_pass rfl ?_ | refine scopeK_normal ?_ | refine scopeK_ret ?_ | refine scopeK_exit ?_ | refine scopeK_goto ?_) | ((with_reducible refine Cw.condC ?_); first | refine CwC.pt rfl (by omega) ?_ | refine CwC.pf rfl (by omega) ?_ | refine CwC.it rfl (by omega) ?_ | refine CwC.if rfl (by omega) ?_ | refine CwC.nt rfl (by omega) ?_ | refine CwC.nf rfl (by omega) ?_ | refine CwC.tt rfl ?_ | refine CwC.ff rfl ?_ | refine CwC.bt rfl (by assumption) ?_ | (refine CwC.bf rfl ?_ ?_; focus assumption))
  refine Ow.callFV rfl Tryd.call85 (fun w' hw' => RErr_nil w') ?_
  refine Ow.run rfl fun k hk => ?_
  simp (disch := (first | omega | (simp only [lenS, lenT, UInt64.reduceToNat] ; try omega))) only [↓vcL_none, ↓vcB_binOp, ↓ev_tmp, putF_some, setF_s, setF_0, ↓getF_s, ↓getF_0, ↓ev_const, binX_vi_vi, bin_neq_i, ↓ov_some, nf_cons, ↓vcL_nil, Md.next_seq]
  (with_reducible refine hk _ _ _ _ ?_); clear hk k
  repeat' first | with_reducible (first | refine Cw.seq ?_ | refine thenK_normal ?_ | refine Ow.nil ?_) | ((with_reducible refine Cw.region (Ow.run rfl fun k hk => ?_)); simp (disch := (first | omega | (simp only [lenS, lenT, UInt64.reduceToNat] ; try omega))) only [↓vcL_none, ↓vcB_assign, ↓ov_some, ↓ev_const, lit_i64, putF_some, setF_s, setF_0, nf_cons, ↓vcL_nil, Md.next_seq]; (with_reducible refine hk _ _ _ _ ?_); clear hk k) | with_reducible (first | refine Cw.block ?_ | refine Cw.skip ?_ | refine Cw.exit ?_ | refine Cw.ret ?_ | refine Cw.label ?_ | refine Cw.goto ?_ | refine thenK_exit ?_ | refine thenK_ret ?_ | refine thenK_goto ?_ | refine blockK_normal ?_ | refine blockK_ret ?_ | refine blockK_goto ?_ | refine blockK_exit ?_ | refine blockK_pass rfl ?_ | refine scopeK_normal ?_ | refine scopeK_ret ?_ | refine scopeK_exit ?_ | refine scopeK_goto ?_) | ((with_reducible refine Cw.condC ?_); first | refine CwC.pt rfl (by omega) ?_ | refine CwC.pf rfl (by omega) ?_ | refine CwC.it rfl (by omega) ?_ | refine CwC.if rfl (by omega) ?_ | refine CwC.nt rfl (by omega) ?_ | refine CwC.nf rfl (by omega) ?_ | refine CwC.tt rfl ?_ | refine CwC.ff rfl ?_ | refine CwC.bt rfl (by assumption) ?_ | (refine CwC.bf rfl ?_ ?_; focus assumption))
  refine ⟨_, (by simp (disch := (first | omega | (simp only [lenS, lenT, UInt64.reduceToNat] ; try omega))) only [resVs_cons, resV_tmp, ↓getF_s, ↓getF_0, resVs_nil, cons2_some]; rfl), trivial, ?_⟩
  rfl
theorem numGo_most (most : Int) : ∀ (l : List UInt8) (k n m k' : Nat), numGo most l k n = .ok (m, k') → (m : Int) ≤ most
  | [], _, _, _, _, h => by simp [numGo] at h
  | c :: r, k, n, m, k', h => by
    unfold numGo at h
    split at h
    · split at h
      · cases h
      · exact numGo_most most r _ _ _ _ h
    · split at h
      · cases h
      · split at h
        · rename_i hh
          cases h
          exact hh.2
        · cases h
theorem numR_most {s : List UInt8} {a : Nat} {e most : Int} (h0 : 0 ≤ most) : 0 ≤ (numR s a e most).1 ∧ (numR s a e most).1 ≤ most := by
  unfold numR
  split
  · exact ⟨Int.le_refl 0, h0⟩
  · split
    · rename_i n k h
      exact ⟨Int.natCast_nonneg _, numGo_most most _ _ _ _ _ h⟩
    · exact ⟨Int.le_refl 0, h0⟩
theorem refR_name {s : List UInt8} {a : Nat} {e : Int} (hs : s.length < 1099511627776) : (refR s a e).1.name.length < 1099511627776 := textR_len (e := e) (most := 32) hs
theorem refsR_short {s : List UInt8} {a : Nat} {e : Int} (hs : s.length < 1099511627776) : ∀ g, ShortN (refsR s a e g).1
  | 0 => fun g hg => by simp [refsR] at hg
  | g + 1 => by
    intro i hi
    rw [refsR_length] at hi
    unfold refsR
    simp only
    by_cases hlt : i < g
    · rw [List.getD_eq_getElem?_getD, List.getElem?_append_left (by rw [refsR_length]; exact hlt), ← List.getD_eq_getElem?_getD]
      exact refsR_short hs g i (by rw [refsR_length]; exact hlt)
    · have : i = (refsR s a e g).1.length := by rw [refsR_length]; omega
      subst this
      rw [List.getD_eq_getElem?_getD, List.getElem?_append_right (Nat.le_refl _)]
      simp only [Nat.sub_self, List.getElem?_cons_zero, Option.getD_some]
      exact refR_name hs
/-- What Read hands back. -/
def ReadS (s : List UInt8) (v : Value) (D : Heap) : Prop :=
  match bookR s with
  | some (tb, log, at_) => ∃ vt vl, v = .tuple #[.agg #[vt, vl], vi at_, vi 0] ∧ GrI D 42 33 vt tb.length (tb.map refC).flatten ∧ GrI D 42 33 vl log.length (log.map refC).flatten
  | none => v = .tuple #[.agg #[.slice none 0 0, .slice none 0 0], vi 0, vi 2]
theorem setB_appr {b : Nat} {x : Obj} : ∀ {D L : Heap}, b ∉ keys D → setB (D ++ L) b x = D ++ setB L b x
  | [], _, _ => rfl
  | (c, y) :: r, L, h => by
    simp only [keys, List.map_cons, List.mem_cons, not_or] at h
    rw [List.cons_append, setB_other _ _ _ _ _ (Ne.symm h.1), setB_appr (by simpa [keys] using h.2)]; rfl
theorem REndR_spec (b : Nat) (s : List UInt8) (a : Nat) (e : Int) (w : World) (ho : w.heap[b]? = some (.cells #[vs s, vi a, vi e] 139 (0, 0))) :
    Rets Tryd.prog 45 #[vp b 0] w (fun v D => v = vi (endR s a e) ∧ D = []) := REnd_spec b s a e w ho
theorem short_snoc {l : List RefL} {r : RefL} (h : ShortN l) (hr : r.name.length < 1099511627776) : ShortN (l ++ [r]) := by
  intro g hg
  by_cases hlt : g < l.length
  · have := h g hlt
    rwa [List.getD_eq_getElem?_getD, List.getElem?_append_left hlt, ← List.getD_eq_getElem?_getD]
  · have : g = l.length := by simp at hg; omega
    subst this
    rw [List.getD_eq_getElem?_getD, List.getElem?_append_right (Nat.le_refl _)]
    simpa using hr
theorem head_none {s : List UInt8} (h : (recR s 0 0 [72]).1 = none) : bookR s = none := by
  unfold bookR headR
  generalize recR s 0 0 [72] = p at h ⊢
  obtain ⟨o, q⟩ := p
  simp only at h
  subst h
  rfl
theorem head_some {s c : List UInt8} (h : (recR s 0 0 [72]).1 = some c) :
    headR s = if endR c (refsR c (numR c 0 0 16).2.1 (numR c 0 0 16).2.2 (numR c 0 0 16).1.toNat).2.1 (refsR c (numR c 0 0 16).2.1 (numR c 0 0 16).2.2 (numR c 0 0 16).1.toNat).2.2 = 0 ∧ rightB (refsR c (numR c 0 0 16).2.1 (numR c 0 0 16).2.2 (numR c 0 0 16).1.toNat).1 [] = true then some ((refsR c (numR c 0 0 16).2.1 (numR c 0 0 16).2.2 (numR c 0 0 16).1.toNat).1, (recR s 0 0 [72]).2.1) else none := by
  unfold headR
  generalize recR s 0 0 [72] = p at h ⊢
  obtain ⟨o, a, e⟩ := p
  simp only at h
  subst h
  rfl
theorem head_no {s : List UInt8} (h : headR s = none) : bookR s = none := by unfold bookR; rw [h]; rfl
theorem rec_le {s : List UInt8} {a : Nat} {e : Int} {p : List UInt8} (ha : a ≤ s.length) : a ≤ (recR s a e p).2.1 ∧ (recR s a e p).2.1 ≤ s.length := textR_le ha
theorem next_none {s : List UInt8} {tb log : List RefL} {at_ : Nat} (h : (recR s at_ 0 [69]).1 = none) : nextR s tb log at_ = none := by
  unfold nextR
  generalize recR s at_ 0 [69] = p at h ⊢
  obtain ⟨o, q⟩ := p
  simp only at h
  subst h
  rfl
theorem next_some {s : List UInt8} {tb log : List RefL} {at_ : Nat} {c : List UInt8} (h : (recR s at_ 0 [69]).1 = some c) :
    nextR s tb log at_ = if endR c (refR c 0 0).2.1 (refR c 0 0).2.2 = 0 ∧ rightB tb (log ++ [(refR c 0 0).1]) = true then some (log ++ [(refR c 0 0).1], (recR s at_ 0 [69]).2.1) else none := by
  unfold nextR
  generalize recR s at_ 0 [69] = p at h ⊢
  obtain ⟨o, a, e⟩ := p
  simp only at h
  subst h
  rfl
theorem book_done {s : List UInt8} {tb log : List RefL} {at_ a0 : Nat} (hh : headR s = some (tb, a0)) (hl : ∀ k, 101 ≤ k + log.length → logsR s tb k log at_ = logsR s tb 101 [] a0) (hn : nextR s tb log at_ = none) : bookR s = some (tb, log, at_) := by
  unfold bookR
  rw [hh, Option.map_some, ← hl 101 (by omega)]
  unfold logsR
  rw [hn]
structure RG where
  lab : Nat
  br : Nat
  b6 : Nat
  b7 : Nat
  vt : Value
  vl : Value
  x : Value
  y : Value
  tb : List RefL
  log : List RefL
  at_ : Nat
  D : Heap
structure HG where
  g : Nat
  vt : Value
  D : Heap
def bkO (x y : Value) : Obj := .cells #[x, y] 25 (0, 0)
def rdO (s : List UInt8) (a e : Int) : Obj := .cells #[vs s, vi a, vi e] 139 (0, 0)
def nlV : Value := .slice none 0 0
/-- What holds at the labels. -/
def RJ (s : List UInt8) (n b2 : Nat) (g : RG) : Prop :=
  (g.lab = 1 ∧ n ≤ g.br ∧ n ≤ g.b6 ∧ n ≤ g.b7 ∧ b2 ≠ g.br ∧ b2 ≠ g.b6 ∧ b2 ≠ g.b7 ∧ g.br ≠ g.b6 ∧ g.br ≠ g.b7 ∧ g.b6 ≠ g.b7 ∧ New n g.D ∧
    GrI g.D 42 33 g.vt g.tb.length (g.tb.map refC).flatten ∧ GrI g.D 42 33 g.vl g.log.length (g.log.map refC).flatten ∧
    Value.oneCell' g.x = true ∧ Value.oneCell' g.y = true ∧ ShortN g.tb ∧ ShortN g.log ∧ g.tb.length < 1000 ∧ g.log.length ≤ 100 ∧ g.at_ ≤ s.length ∧
    ∃ a0, headR s = some (g.tb, a0) ∧ ∀ k, 101 ≤ k + g.log.length → logsR s g.tb k g.log g.at_ = logsR s g.tb 101 [] a0) ∨
  (g.lab = 2 ∧ n ≤ g.b6 ∧ b2 ≠ g.b6 ∧ New n g.D ∧
    GrI g.D 42 33 g.vt g.tb.length (g.tb.map refC).flatten ∧ GrI g.D 42 33 g.vl g.log.length (g.log.map refC).flatten ∧ bookR s = some (g.tb, g.log, g.at_)) ∨
  (g.lab = 0 ∧ New n g.D ∧ bookR s = none)
def RH (s : List UInt8) (b2 : Nat) (g : RG) : Heap :=
  match g.lab with
  | 1 => (b2, bkO nlV nlV) :: (g.br, rdO s g.at_ 0) :: (g.b6, bkO g.vt g.vl) :: (g.b7, bkO g.x g.y) :: g.D
  | 2 => (b2, bkO nlV nlV) :: (g.b6, bkO g.vt g.vl) :: g.D
  | _ => (b2, bkO nlV nlV) :: g.D
def RSl (g : RG) : List (Nat × Value) :=
  match g.lab with
  | 1 => [(5, vp g.br 0), (6, vp g.b6 0), (7, vp g.b7 0)]
  | 2 => [(6, vp g.b6 0), (8, vi g.at_)]
  | _ => []
def RL (g : RG) : Nat :=
  match g.lab with
  | 1 => 1
  | 2 => 2
  | _ => 0
theorem gri_cell {D : Heap} {E : TypeId} {m n : Nat} {v : Value} {cs : List Value} (h : GrI D E m v n cs) : Value.oneCell' v = true ∧ v.cells = #[v] := by
  obtain ⟨X, -, h⟩ := h; exact h.cell
theorem Read_spec (s : List UInt8) (w : World) (hG : GlobC w) (hs : s.length < 1000000) :
    Rets Tryd.prog 9 #[vs s] w (XS w [] (ReadS s)) := by
  have hglt : (3 : Nat) < w.heap.size := by obtain ⟨e, f, h⟩ := hG; exact (Array.getElem?_eq_some_iff.1 h).1
  refine Rets.enterX Tryd.func9 rfl (rs := [.cell 2 25, .tmp 3, .tmp 4]) Tryd.results9 Tryd.ntmps9 (fun p hp => by cases hp) (by simp [keys]) ?_
  simp only [List.size_toArray, List.length_cons, List.length_nil, Nat.reduceAdd, Nat.reduceSub, List.replicate_succ, List.replicate_zero, List.cons_append, List.nil_append]
  repeat' first | with_reducible (first | refine Cw.seq ?_ | refine thenK_normal ?_ | refine Ow.nil ?_) | ((with_reducible refine Cw.region (Ow.run rfl fun k hk => ?_)); simp (disch := (first | omega | (simp only [lenS, lenT, UInt64.reduceToNat] ; try omega))) only [↓vcL_none, ↓vcB_alloc, lit_i64]; (with_reducible refine hk _ _ _ _ ?_); clear hk k) | with_reducible (first | refine Cw.block ?_ | refine Cw.skip ?_ | refine Cw.exit ?_ | refine Cw.ret ?_ | refine Cw.label ?_ | refine Cw.goto ?_ | refine thenK_exit ?_ | refine thenK_ret ?_ | refine thenK_goto ?_ | refine blockK_normal ?_ | refine blockK_ret ?_ | refine blockK_goto ?_ | refine blockK_exit ?_ | refine blockK_pass rfl ?_ | refine scopeK_normal ?_ | refine scopeK_ret ?_ | refine scopeK_exit ?_ | refine scopeK_goto ?_) | ((with_reducible refine Cw.condC ?_); first | refine CwC.pt rfl (by omega) ?_ | refine CwC.pf rfl (by omega) ?_ | refine CwC.it rfl (by omega) ?_ | refine CwC.if rfl (by omega) ?_ | refine CwC.nt rfl (by omega) ?_ | refine CwC.nf rfl (by omega) ?_ | refine CwC.tt rfl ?_ | refine CwC.ff rfl ?_ | refine CwC.bt rfl (by assumption) ?_ | (refine CwC.bf rfl ?_ ?_; focus assumption))
  refine Ow.alloc rfl rfl zrBk fun b2 hb2 hw2 => ?_
  simp only [cells_agg, List.nil_append, List.cons_append]
  refine Ow.run rfl fun k hk => ?_
  simp (disch := (first | omega | (simp only [lenS, lenT, UInt64.reduceToNat] ; try omega))) only [↓vcL_none, ↓vcB_assign, ↓ov_some, putF_some, setF_s, setF_0, ↓ev_const, nf_cons, ↓vcL_nil, Md.next_seq]
  (with_reducible refine hk _ _ _ _ ?_); clear hk k
  repeat' first | with_reducible (first | refine Cw.seq ?_ | refine thenK_normal ?_ | refine Ow.nil ?_) | ((with_reducible refine Cw.region (Ow.run rfl fun k hk => ?_)); simp (disch := (first | omega | (simp only [lenS, lenT, UInt64.reduceToNat] ; try omega))) only []; (with_reducible refine hk _ _ _ _ ?_); clear hk k) | with_reducible (first | refine Cw.block ?_ | refine Cw.skip ?_ | refine Cw.exit ?_ | refine Cw.ret ?_ | refine Cw.label ?_ | refine Cw.goto ?_ | refine thenK_exit ?_ | refine thenK_ret ?_ | refine thenK_goto ?_ | refine blockK_normal ?_ | refine blockK_ret ?_ | refine blockK_goto ?_ | refine blockK_exit ?_ | refine blockK_pass rfl ?_ | refine scopeK_normal ?_ | refine scopeK_ret ?_ | refine scopeK_exit ?_ | refine scopeK_goto ?_) | ((with_reducible refine Cw.condC ?_); first | refine CwC.pt rfl (by omega) ?_ | refine CwC.pf rfl (by omega) ?_ | refine CwC.it rfl (by omega) ?_ | refine CwC.if rfl (by omega) ?_ | refine CwC.nt rfl (by omega) ?_ | refine CwC.nf rfl (by omega) ?_ | refine CwC.tt rfl ?_ | refine CwC.ff rfl ?_ | refine CwC.bt rfl (by assumption) ?_ | (refine CwC.bf rfl ?_ ?_; focus assumption))
  refine Cw.scopeL (G := RG) (fun g => RL g) [10, 11, 5, 6, 7, 8, 12, 13, 9, 14, 15, 16, 17, 18, 19, 20, 21, 22, 23, 24, 25, 26, 27, 28, 29, 30, 31, 32, 33, 34, 35, 36, 37, 38, 39, 40, 41, 42, 43, 44, 45, 46, 47, 48, 49, 50, 51, 52, 53, 54, 55, 56, 57, 58, 59, 60, 3, 4, 61] (fun g => RSl g) (fun g => RH s b2 g) (fun g => RJ s w.heap.size b2 g) (fun g => (if g.lab = 1 then 102 - g.log.length else 0)) ?_ ?_ ?_
  · intro g
    unfold RL
    split <;> rfl
  · intro g j hg
    rcases hg with hg | hg | hg
    · obtain ⟨lab, br, b6, b7, vt, vl, x, y, tb, log, at_, D⟩ := g
      obtain ⟨hlab, hg⟩ := hg
      simp only at hlab
      subst hlab
      simp only [RL, RSl, RH] at hg ⊢
      obtain ⟨hwr, hw6, hw7, h2r, h26, h27, hr6, hr7, h67, hN, hgt, hgl, hox, hoy, hst, hsl, htl, hll, hat, a0, hhd, hlg⟩ := hg
      simp only [bkO, rdO, nlV]
      simp only [contP, hasL, Bool.or_false, Bool.false_or, Bool.or_true, Bool.true_or, Nat.reduceBEq, beq_self_eq_true, ↓reduceIte, Bool.false_eq_true]
      simp only [overFrom, pin, setF_0, setF_s, List.contains_cons, List.contains_nil, Nat.reduceBEq, Bool.or_false, Bool.false_or, Bool.or_true, Bool.true_or, Nat.reduceAdd, ↓reduceIte, Bool.false_eq_true]
      repeat' first | with_reducible (first | refine Cw.seq ?_ | refine thenK_normal ?_ | refine Ow.nil ?_) | ((with_reducible refine Cw.region (Ow.run rfl fun k hk => ?_)); simp (disch := (first | omega | (simp only [lenS, lenT, UInt64.reduceToNat] ; try omega))) only [↓vcL_none, ↓vcB_move, ↓ov_some, ↓ev_tmp, ↓getF_s, ↓getF_0, putF_some, setF_s, setF_0, nf_cons, ↓vcB_call, Md.next_seq]; (with_reducible refine hk _ _ _ _ ?_); clear hk k) | with_reducible (first | refine Cw.block ?_ | refine Cw.skip ?_ | refine Cw.exit ?_ | refine Cw.ret ?_ | refine Cw.label ?_ | refine Cw.goto ?_ | refine thenK_exit ?_ | refine thenK_ret ?_ | refine thenK_goto ?_ | refine blockK_normal ?_ | refine blockK_ret ?_ | refine blockK_goto ?_ | refine blockK_exit ?_ | refine blockK_pass rfl ?_ | refine scopeK_normal ?_ | refine scopeK_ret ?_ | refine scopeK_exit ?_ | refine scopeK_goto ?_) | ((with_reducible refine Cw.condC ?_); first | refine CwC.pt rfl (by omega) ?_ | refine CwC.pf rfl (by omega) ?_ | refine CwC.it rfl (by omega) ?_ | refine CwC.if rfl (by omega) ?_ | refine CwC.nt rfl (by omega) ?_ | refine CwC.nf rfl (by omega) ?_ | refine CwC.tt rfl ?_ | refine CwC.ff rfl ?_ | refine CwC.bt rfl (by assumption) ?_ | (refine CwC.bf rfl ?_ ?_; focus assumption))
      refine Ow.callFV rfl Tryd.call46 (fun w' hw' => RAt_spec br s at_ 0 w' (hw'.has _ _ (List.mem_cons_of_mem _ List.mem_cons_self))) ?_
      refine Ow.run rfl fun k hk => ?_
      simp (disch := (first | omega | (simp only [lenS, lenT, UInt64.reduceToNat] ; try omega))) only [↓vcL_none, ↓vcB_assign, ↓ov_some, putF_some, setF_s, setF_0, ↓ev_tmp, ↓getF_s, ↓getF_0, nf_cons, ↓vcL_nil, Md.next_seq]
      (with_reducible refine hk _ _ _ _ ?_); clear hk k
      repeat' first | with_reducible (first | refine Cw.seq ?_ | refine thenK_normal ?_ | refine Ow.nil ?_) | ((with_reducible refine Cw.region (Ow.run rfl fun k hk => ?_)); simp (disch := (first | omega | (simp only [lenS, lenT, UInt64.reduceToNat] ; try omega))) only [↓vcL_none, ↓vcB_move, ↓ov_some, ↓ev_tmp, ↓getF_s, ↓getF_0, putF_some, setF_s, setF_0, nf_cons, ↓vcB_call, Md.next_seq, lit_str]; (with_reducible refine hk _ _ _ _ ?_); clear hk k) | with_reducible (first | refine Cw.block ?_ | refine Cw.skip ?_ | refine Cw.exit ?_ | refine Cw.ret ?_ | refine Cw.label ?_ | refine Cw.goto ?_ | refine thenK_exit ?_ | refine thenK_ret ?_ | refine thenK_goto ?_ | refine blockK_normal ?_ | refine blockK_ret ?_ | refine blockK_goto ?_ | refine blockK_exit ?_ | refine blockK_pass rfl ?_ | refine scopeK_normal ?_ | refine scopeK_ret ?_ | refine scopeK_exit ?_ | refine scopeK_goto ?_) | ((with_reducible refine Cw.condC ?_); first | refine CwC.pt rfl (by omega) ?_ | refine CwC.pf rfl (by omega) ?_ | refine CwC.it rfl (by omega) ?_ | refine CwC.if rfl (by omega) ?_ | refine CwC.nt rfl (by omega) ?_ | refine CwC.nf rfl (by omega) ?_ | refine CwC.tt rfl ?_ | refine CwC.ff rfl ?_ | refine CwC.bt rfl (by assumption) ?_ | (refine CwC.bf rfl ?_ ?_; focus assumption))
      refine Ow.permL (M := [(br, .cells #[vs s, vi at_, vi 0] 139 (0, 0))] ++ ((b2, .cells #[.slice none 0 0, .slice none 0 0] 25 (0, 0)) :: (b6, .cells #[vt, vl] 25 (0, 0)) :: (b7, .cells #[x, y] 25 (0, 0)) :: D)) (by classical exact List.perm_iff_count.2 fun a => by simp only [List.count_append, List.count_cons, List.count_nil] <;> omega) ?_
      refine Ow.callX (Y := ((b2, .cells #[.slice none 0 0, .slice none 0 0] 25 (0, 0)) :: (b6, .cells #[vt, vl] 25 (0, 0)) :: (b7, .cells #[x, y] 25 (0, 0)) :: D)) (by simp) rfl rfl Tryd.call42 (fun w' hw' hX hn => unrecord_spec br s at_ 0 [69] w' (GlobC.of hG hw' (New.not (L := [(br, .cells #[vs s, vi at_, vi 0] 139 (0, 0))] ++ ((b2, .cells #[.slice none 0 0, .slice none 0 0] 25 (0, 0)) :: (b6, .cells #[vt, vl] 25 (0, 0)) :: (b7, .cells #[x, y] 25 (0, 0)) :: D)) (by exact ⟨hwr, hw2, hw6, hw7, hN⟩) hglt)) (by omega) hat (by omega) (hX _ List.mem_cons_self)) (fun v1 D1 hC1 hS1 => ?_)
      rcases hS1 with ⟨hno, rfl, rfl⟩ | ⟨b', c, hc, rfl, hb', hne, rfl⟩
      · refine Ow.run rfl fun k hk => ?_
        simp (disch := (first | omega | (simp only [lenS, lenT, UInt64.reduceToNat] ; try omega))) only [↓vcL_none, ↓vcB_assign, ↓ov_some, putF_some, setF_s, setF_0, ↓ev_tmp, ↓getF_s, ↓getF_0, nf_cons, ↓vcL_nil, Md.next_seq, List.cons_append, List.nil_append]
        (with_reducible refine hk _ _ _ _ ?_); clear hk k
        with_reducible refine Ow.nil ?_
        with_reducible refine thenK_normal ?_
        refine Cw.permL (M := (b2, .cells #[.slice none 0 0, .slice none 0 0] 25 (0, 0)) :: (b6, .cells #[vt, vl] 25 (0, 0)) :: (br, .cells #[vs s, vi (recR s at_ 0 [69]).2.1, vi (recR s at_ 0 [69]).2.2] 139 (0, 0)) :: (b7, .cells #[x, y] 25 (0, 0)) :: D) (by classical exact List.perm_iff_count.2 fun a => by simp only [List.count_append, List.count_cons, List.count_nil] <;> omega) ?_
        repeat' first | with_reducible (first | refine Cw.seq ?_ | refine thenK_normal ?_ | refine Ow.nil ?_) | ((with_reducible refine Cw.region (Ow.run rfl fun k hk => ?_)); simp (disch := (first | omega | (simp only [lenS, lenT, UInt64.reduceToNat] ; try omega))) only [↓vcL_none, ↓vcB_move, ↓ov_some, ↓ev_tmp, ↓getF_s, ↓getF_0, putF_some, setF_s, setF_0, nf_cons, ↓vcB_binOp, ↓ev_const, nilR', ↓vcL_nil, Md.next_seq]; (with_reducible refine hk _ _ _ _ ?_); clear hk k) | with_reducible (first | refine Cw.block ?_ | refine Cw.skip ?_ | refine Cw.exit ?_ | refine Cw.ret ?_ | refine Cw.label ?_ | refine Cw.goto ?_ | refine thenK_exit ?_ | refine thenK_ret ?_ | refine thenK_goto ?_ | refine blockK_normal ?_ | refine blockK_ret ?_ | refine blockK_goto ?_ | refine blockK_exit ?_ | refine blockK_pass rfl ?_ | refine scopeK_normal ?_ | refine scopeK_ret ?_ | refine scopeK_exit ?_ | refine scopeK_goto ?_) | ((with_reducible refine Cw.condC ?_); first | refine CwC.pt rfl (by omega) ?_ | refine CwC.pf rfl (by omega) ?_ | refine CwC.it rfl (by omega) ?_ | refine CwC.if rfl (by omega) ?_ | refine CwC.nt rfl (by omega) ?_ | refine CwC.nf rfl (by omega) ?_ | refine CwC.tt rfl ?_ | refine CwC.ff rfl ?_ | refine CwC.bt rfl (by assumption) ?_ | (refine CwC.bf rfl ?_ ?_; focus assumption))
        refine Jump.mk ⟨2, br, b6, b7, vt, vl, x, y, tb, log, at_, (br, .cells #[vs s, vi (recR s at_ 0 [69]).2.1, vi (recR s at_ 0 [69]).2.2] 139 (0, 0)) :: (b7, .cells #[x, y] 25 (0, 0)) :: D⟩ rfl (by show 0 < 102 - log.length; omega) (.inr (.inl ⟨rfl, hw6, h26, ⟨hwr, hw7, hN⟩, hgt.mono fun p hp => by simp [hp], hgl.mono fun p hp => by simp [hp], ?_⟩)) rfl rfl
        exact book_done hhd hlg (next_none hno)
      · have hbA : b2 < b' ∧ br < b' ∧ b6 < b' ∧ b7 < b' := by
          rcases hC1.new b' (by simp [keys]) with h | ⟨h, -⟩
          · simp [keys] at h; omega
          · obtain ⟨q1, q2, q3, q4, -⟩ := h
            exact ⟨q2, q1, q3, q4⟩
        obtain ⟨h2b, hrb, h6b, h7b⟩ := hbA
        have hcl := recR_len (by omega) hc
        have hce := recR_err hc
        rw [hce]
        have hle0 := rec_le (p := [69]) (e := 0) hat
        generalize hto : (recR s at_ 0 [69]).2.1 = to at *
        refine Ow.run rfl fun k hk => ?_
        simp (disch := (first | omega | (simp only [lenS, lenT, UInt64.reduceToNat] ; try omega))) only [↓vcL_none, ↓vcB_assign, ↓ov_some, putF_some, setF_s, setF_0, ↓ev_tmp, ↓getF_s, ↓getF_0, nf_cons, ↓vcL_nil, Md.next_seq, List.cons_append, List.nil_append]
        (with_reducible refine hk _ _ _ _ ?_); clear hk k
        repeat' first | with_reducible (first | refine Cw.seq ?_ | refine thenK_normal ?_ | refine Ow.nil ?_) | ((with_reducible refine Cw.region (Ow.run rfl fun k hk => ?_)); simp (disch := (first | omega | (simp only [lenS, lenT, UInt64.reduceToNat] ; try omega))) only [↓vcL_none, ↓vcB_move, ↓ov_some, ↓ev_tmp, ↓getF_s, ↓getF_0, putF_some, setF_s, setF_0, nf_cons, ↓vcB_binOp, ↓ev_const, nilR, ↓vcL_nil, Md.next_seq]; (with_reducible refine hk _ _ _ _ ?_); clear hk k) | with_reducible (first | refine Cw.block ?_ | refine Cw.skip ?_ | refine Cw.exit ?_ | refine Cw.ret ?_ | refine Cw.label ?_ | refine Cw.goto ?_ | refine thenK_exit ?_ | refine thenK_ret ?_ | refine thenK_goto ?_ | refine blockK_normal ?_ | refine blockK_ret ?_ | refine blockK_goto ?_ | refine blockK_exit ?_ | refine blockK_pass rfl ?_ | refine scopeK_normal ?_ | refine scopeK_ret ?_ | refine scopeK_exit ?_ | refine scopeK_goto ?_) | ((with_reducible refine Cw.condC ?_); first | refine CwC.pt rfl (by omega) ?_ | refine CwC.pf rfl (by omega) ?_ | refine CwC.it rfl (by omega) ?_ | refine CwC.if rfl (by omega) ?_ | refine CwC.nt rfl (by omega) ?_ | refine CwC.nf rfl (by omega) ?_ | refine CwC.tt rfl ?_ | refine CwC.ff rfl ?_ | refine CwC.bt rfl (by assumption) ?_ | (refine CwC.bf rfl ?_ ?_; focus assumption))
        refine Cw.regionS [b6] [0, 2, 5, 1, 3, 4, 6, 7, 8, 9, 10] [10] (by kernel_rfl) (by kernel_rfl) (by kernel_rfl) ?_
        simp only [nl_cons, ↓pickL_nil, ↓pickL_cons, ↓nthO_0, ↓nthO_s, consO_some]
        refine Ow.runQ fun k hk => ?_
        simp (disch := (first | omega | (simp only [lenS, lenT, UInt64.reduceToNat] ; try omega))) only [↓vcL_none, ↓vcB_fieldAddr, Tryd.fl25_0, ↓ev_tmp, ↓getF_s, ↓getF_0, fieldAddr_p, Nat.add_zero, ↓ov_some, putF_some, setF_s, setF_0, nf_cons, Tryd.fl25_1, Nat.zero_add, ↓vcB_move, ↓vcB_load, Md.next_sof, List.contains_cons, Nat.reduceBEq, List.contains_nil, Bool.or_false, Bool.false_eq_true, ↓reduceIte, ↓rd_sof_load, rdIn_p, beq_self_eq_true, ↓ib_true, Tryd.ag23, loadAt_p, read_other, read_same, load_bk0, load_bk1, ↓vcB_call]
        (with_reducible refine hk _ _ _ _ ?_); clear hk k
        refine Ow.soft rfl rfl rfl ?_
        refine Ow.callC rfl rfl Tryd.call47 (fun w' hw' => CloneRef_spec vl log w' (GrI.slV (hgl.mono (fun p hp => by simp [hp])) hw' rfl rfl refC_len) (by omega)) (fun B1 v3 Dc hA1 hB1 hN1 hS3 => ?_)
        have hAc := hA1
        try simp only [List.cons_append, List.nil_append] at hAc
        obtain ⟨qr, qb, q2, q6, q7, -⟩ := hAc
        with_reducible refine Ow.nil ?_
        refine ⟨readB_appR (by simp [keys]), ?_⟩
        try simp only [List.cons_append, List.nil_append]
        refine Ow.soft rfl rfl rfl ?_
        refine Ow.callM rfl rfl Tryd.call44 (by simp [keys]) (fun w' hw' => one_spec b' c 0 0 w' (Nat.zero_le _) (by omega) (hw'.has _ _ (List.mem_cons_of_mem _ List.mem_cons_self))) ?_
        with_reducible refine Ow.nil ?_
        refine ⟨fun b hb => read_setB_ne (by simp only [List.mem_cons, List.not_mem_nil, or_false] at hb; omega), ?_⟩
        rw [oneR_eq]
        have hfn := refR_name (s := c) (a := 0) (e := 0) hcl
        have hfl := refR_le (s := c) (a := 0) (e := 0) (Nat.zero_le _)
        have hns := next_some (tb := tb) (log := log) hc
        rw [hto] at hns
        generalize refR c 0 0 = rr at *
        obtain ⟨r, ra, re⟩ := rr
        simp only at hfn hfl hns ⊢
        simp (disch := (first | omega | (simp only [lenS, lenT, UInt64.reduceToNat] ; try omega))) only [setB_other, setB_same]
        try simp only [List.cons_append, List.nil_append]
        refine Ow.soft rfl rfl rfl ?_
        refine Ow.buildSlice (e := 42) (refC r).toArray rfl rfl (sliceRef r) fun b8 hb8 hw8 => ?_
        have h68 : b6 < b8 := above_to hb8 (by simp [keys])
        have h78 : b7 < b8 := above_to hb8 (by simp [keys])
        have h28 : b2 < b8 := above_to hb8 (by simp [keys])
        have hr8 : br < b8 := above_to hb8 (by simp [keys])
        have hb8' : b' < b8 := above_to hb8 (by simp [keys])
        with_reducible refine Ow.nil ?_
        refine ⟨readB_appR (by simp [keys]), ?_⟩
        try simp only [List.cons_append, List.nil_append]
        refine Ow.soft rfl rfl rfl ?_
        refine Ow.permL (M := Dc ++ (((br, .cells #[vs s, vi to, vi 0] 139 (0, 0)) :: (b', .cells #[vs c, vi ra, vi re] 139 (0, 0)) :: (b2, .cells #[.slice none 0 0, .slice none 0 0] 25 (0, 0)) :: (b6, .cells #[vt, vl] 25 (0, 0)) :: (b7, .cells #[x, y] 25 (0, 0)) :: D) ++ [(b8, .cells (refC r).toArray 42 (0, 0))])) (by classical exact List.perm_iff_count.2 fun a => by simp only [List.count_append, List.count_cons, List.count_nil] <;> omega) ?_
        refine Ow.appendX (e := 42) (k := 1) (new := refC r) (X := Dc) v3 rfl rfl rfl rfl Tryd.underlying23 Tryd.ag42 (by kernel_rfl) zrRef (by rw [cells_ref, List.size_toArray, refC_len]) Tryd.underlying23 (by intro k h; cases h) hS3 (fun w' hw' => AppX.one1 (hw'.has b8 (.cells (refC r).toArray 42 (0, 0)) (by simp)) (refC_len r) (refC_one r)) (by omega) (by omega) (fun B v4 D4 hA4 hB4 hbuf hk1 hk2 hlk => ?_)
        have hB8 : b8 < B := above_to hA4 (by simp [keys_app, keys])
        have hno4 : ∀ q, q < B1 → q < B → q ∉ keys D4 := fun q h1 h2 hm => by
          rcases hk2 q hm with h | h
          · have := hN1.le q h; omega
          · omega
        have h64 := hno4 b6 q6 (by omega)
        have h74 := hno4 b7 q7 (by omega)
        with_reducible refine Ow.nil ?_
        refine ⟨fun q hq => ?_, ?_⟩
        · rw [List.mem_singleton] at hq
          subst hq
          rw [readB_appr h64]
          simp (disch := omega) only [List.cons_append, read_other, read_same]
        try simp only [List.cons_append, List.nil_append]
        refine Ow.build (.agg #[vt, v4]) rfl (build_bk vt v4 (gri_cell hgt).2 hbuf.cell.2) ?_
        have hst7 : storeAtV (aggT Tryd.prog 25) (D4 ++ (((br, .cells #[vs s, vi to, vi 0] 139 (0, 0)) :: (b', .cells #[vs c, vi ra, vi re] 139 (0, 0)) :: (b2, .cells #[.slice none 0 0, .slice none 0 0] 25 (0, 0)) :: (b6, .cells #[vt, vl] 25 (0, 0)) :: (b7, .cells #[x, y] 25 (0, 0)) :: D) ++ [(b8, .cells (refC r).toArray 42 (0, 0))])) (vp b7 0) (.agg #[vt, v4]) = some (D4 ++ (((br, .cells #[vs s, vi to, vi 0] 139 (0, 0)) :: (b', .cells #[vs c, vi ra, vi re] 139 (0, 0)) :: (b2, .cells #[.slice none 0 0, .slice none 0 0] 25 (0, 0)) :: (b6, .cells #[vt, vl] 25 (0, 0)) :: (b7, .cells #[vt, v4] 25 (0, 0)) :: D) ++ [(b8, .cells (refC r).toArray 42 (0, 0))])) := by
          rw [Tryd.ag25, storeAt_p, look_app_r h74]
          simp (disch := omega) only [List.cons_append, look_other, look_same]
          rw [store_bk _ _ _ _ _ (gri_cell hgt).1 hbuf.cell.1, upd_some, setB_appr h74]
          simp (disch := omega) only [setB_other, setB_same]
        refine Ow.store rfl rfl rfl hst7 ?_
        with_reducible refine Ow.nil ?_
        with_reducible refine thenK_normal ?_
        refine Cw.permL (M := (b2, .cells #[.slice none 0 0, .slice none 0 0] 25 (0, 0)) :: (br, .cells #[vs s, vi to, vi 0] 139 (0, 0)) :: (b6, .cells #[vt, vl] 25 (0, 0)) :: (b7, .cells #[vt, v4] 25 (0, 0)) :: (b', .cells #[vs c, vi ra, vi re] 139 (0, 0)) :: (b8, .cells (refC r).toArray 42 (0, 0)) :: (D ++ D4)) (by classical exact List.perm_iff_count.2 fun a => by simp only [List.count_append, List.count_cons, List.count_nil] <;> omega) ?_
        simp only [putF_some, putF_none, setF_0, setF_s]
        have hND : New w.heap.size (D ++ D4) := hN.app (New.of_le fun q hq => by
          rcases hk2 q hq with h | h
          · have := hN1.le q h; omega
          · omega)
        have hNn : New w.heap.size ((br, .cells #[vs s, vi to, vi 0] 139 (0, 0)) :: (b7, .cells #[vt, v4] 25 (0, 0)) :: (b', .cells #[vs c, vi ra, vi re] 139 (0, 0)) :: (b8, .cells (refC r).toArray 42 (0, 0)) :: (D ++ D4)) := ⟨hwr, hw7, (by omega), hw8, hND⟩
        have hfl4 : (log.map refC).flatten ++ refC r = ((log ++ [r]).map refC).flatten := by simp
        rw [hfl4] at hbuf
        have hgr4 : Gr D4 42 33 v4 (log.length + 1) ((log ++ [r]).map refC).flatten := .inl hbuf
        have hsh4 : ShortN (log ++ [r]) := short_snoc hsl hfn
        repeat' first | with_reducible (first | refine Cw.seq ?_ | refine thenK_normal ?_ | refine Ow.nil ?_) | ((with_reducible refine Cw.region (Ow.run rfl fun k hk => ?_)); simp (disch := (first | omega | (simp only [lenS, lenT, UInt64.reduceToNat] ; try omega))) only [↓vcL_none, ↓vcB_move, ↓ov_some, ↓ev_tmp, ↓getF_s, ↓getF_0, putF_some, setF_s, setF_0, nf_cons, ↓vcB_call, Md.next_seq, lit_i64]; (with_reducible refine hk _ _ _ _ ?_); clear hk k) | with_reducible (first | refine Cw.block ?_ | refine Cw.skip ?_ | refine Cw.exit ?_ | refine Cw.ret ?_ | refine Cw.label ?_ | refine Cw.goto ?_ | refine thenK_exit ?_ | refine thenK_ret ?_ | refine thenK_goto ?_ | refine blockK_normal ?_ | refine blockK_ret ?_ | refine blockK_goto ?_ | refine blockK_exit ?_ | refine blockK_pass rfl ?_ | refine scopeK_normal ?_ | refine scopeK_ret ?_ | refine scopeK_exit ?_ | refine scopeK_goto ?_) | ((with_reducible refine Cw.condC ?_); first | refine CwC.pt rfl (by omega) ?_ | refine CwC.pf rfl (by omega) ?_ | refine CwC.it rfl (by omega) ?_ | refine CwC.if rfl (by omega) ?_ | refine CwC.nt rfl (by omega) ?_ | refine CwC.nf rfl (by omega) ?_ | refine CwC.tt rfl ?_ | refine CwC.ff rfl ?_ | refine CwC.bt rfl (by assumption) ?_ | (refine CwC.bf rfl ?_ ?_; focus assumption))
        refine Ow.callFV rfl Tryd.call45 (fun w' hw' => REndR_spec b' c ra re w' (hw'.has _ _ (by simp))) ?_
        by_cases he : endR c ra re = 0
        · have hb : (endR c ra re != 0) = false := by simp [he]
          refine Ow.run rfl fun k hk => ?_
          simp (disch := (first | omega | (simp only [lenS, lenT, UInt64.reduceToNat] ; try omega))) only [↓vcL_none, ↓vcB_binOp, ↓ev_tmp, putF_some, setF_s, setF_0, ↓getF_s, ↓getF_0, ↓ev_const, binX_vi_vi, bin_neq_i, hb, ↓ov_some, nf_cons, ↓vcB_move, ↓vcL_some, lit_i64, yieldF_lit, ↓nthO_s, ↓nthO_0, yieldL_some, boolOf_b, beq_self_eq_true, ↓ib_true, ↓vcB_load, Md.next_seq, rd_seq_load, Tryd.ag25, loadAt_p, read_other, read_same, load_bk, ↓vcB_call]
          (with_reducible refine hk _ _ _ _ ?_); clear hk k
          repeat' first | with_reducible (first | refine Cw.seq ?_ | refine thenK_normal ?_ | refine Ow.nil ?_) | ((with_reducible refine Cw.region (Ow.run rfl fun k hk => ?_)); simp (disch := (first | omega | (simp only [lenS, lenT, UInt64.reduceToNat] ; try omega))) only []; (with_reducible refine hk _ _ _ _ ?_); clear hk k) | with_reducible (first | refine Cw.block ?_ | refine Cw.skip ?_ | refine Cw.exit ?_ | refine Cw.ret ?_ | refine Cw.label ?_ | refine Cw.goto ?_ | refine thenK_exit ?_ | refine thenK_ret ?_ | refine thenK_goto ?_ | refine blockK_normal ?_ | refine blockK_ret ?_ | refine blockK_goto ?_ | refine blockK_exit ?_ | refine blockK_pass rfl ?_ | refine scopeK_normal ?_ | refine scopeK_ret ?_ | refine scopeK_exit ?_ | refine scopeK_goto ?_) | ((with_reducible refine Cw.condC ?_); first | refine CwC.pt rfl (by omega) ?_ | refine CwC.pf rfl (by omega) ?_ | refine CwC.it rfl (by omega) ?_ | refine CwC.if rfl (by omega) ?_ | refine CwC.nt rfl (by omega) ?_ | refine CwC.nf rfl (by omega) ?_ | refine CwC.tt rfl ?_ | refine CwC.ff rfl ?_ | refine CwC.bt rfl (by assumption) ?_ | (refine CwC.bf rfl ?_ ?_; focus assumption))
          refine Ow.callFV rfl Tryd.call36 (fun w' hw' => Right_spec vt v4 tb (log ++ [r]) w' (GrI.slV (hgt.mono (fun p hp => by simp [hp])) hw' rfl rfl refC_len) (hgr4.slM (fun b o hm => hw'.has b o (by simp [hm])) (by simp) rfl refC_len) (by omega) (by simp; omega) hst hsh4) ?_
          cases hr : rightB tb (log ++ [r])
          · refine Ow.run rfl fun k hk => ?_
            simp (disch := (first | omega | (simp only [lenS, lenT, UInt64.reduceToNat] ; try omega))) only [↓vcL_some, lit_i64, putF_some, setF_s, setF_0, yieldF_lit, ↓nthO_s, ↓nthO_0, yieldL_some, ↓getF_s, ↓getF_0, boolOf_b, beq_self_eq_true, ↓ib_true, ↓vcB_unOp, ↓ev_tmp, un_not, Bool.not_false, ↓ov_some, nf_cons, ↓vcL_none, ↓vcB_pick, ↓ev_const, pick_f, ↓vcL_nil, Md.next_seq]
            (with_reducible refine hk _ _ _ _ ?_); clear hk k
            with_reducible refine Ow.nil ?_
            with_reducible refine thenK_normal ?_
            refine Cw.permL (M := (b2, .cells #[.slice none 0 0, .slice none 0 0] 25 (0, 0)) :: (b6, .cells #[vt, vl] 25 (0, 0)) :: ((br, .cells #[vs s, vi to, vi 0] 139 (0, 0)) :: (b7, .cells #[vt, v4] 25 (0, 0)) :: (b', .cells #[vs c, vi ra, vi re] 139 (0, 0)) :: (b8, .cells (refC r).toArray 42 (0, 0)) :: (D ++ D4))) (by classical exact List.perm_iff_count.2 fun a => by simp only [List.count_append, List.count_cons, List.count_nil] <;> omega) ?_
            repeat' first | with_reducible (first | refine Cw.seq ?_ | refine thenK_normal ?_ | refine Ow.nil ?_) | ((with_reducible refine Cw.region (Ow.run rfl fun k hk => ?_)); simp (disch := (first | omega | (simp only [lenS, lenT, UInt64.reduceToNat] ; try omega))) only []; (with_reducible refine hk _ _ _ _ ?_); clear hk k) | with_reducible (first | refine Cw.block ?_ | refine Cw.skip ?_ | refine Cw.exit ?_ | refine Cw.ret ?_ | refine Cw.label ?_ | refine Cw.goto ?_ | refine thenK_exit ?_ | refine thenK_ret ?_ | refine thenK_goto ?_ | refine blockK_normal ?_ | refine blockK_ret ?_ | refine blockK_goto ?_ | refine blockK_exit ?_ | refine blockK_pass rfl ?_ | refine scopeK_normal ?_ | refine scopeK_ret ?_ | refine scopeK_exit ?_ | refine scopeK_goto ?_) | ((with_reducible refine Cw.condC ?_); first | refine CwC.pt rfl (by omega) ?_ | refine CwC.pf rfl (by omega) ?_ | refine CwC.it rfl (by omega) ?_ | refine CwC.if rfl (by omega) ?_ | refine CwC.nt rfl (by omega) ?_ | refine CwC.nf rfl (by omega) ?_ | refine CwC.tt rfl ?_ | refine CwC.ff rfl ?_ | refine CwC.bt rfl (by assumption) ?_ | (refine CwC.bf rfl ?_ ?_; focus assumption))
            refine Jump.mk ⟨2, br, b6, b7, vt, vl, x, y, tb, log, at_, ((br, .cells #[vs s, vi to, vi 0] 139 (0, 0)) :: (b7, .cells #[vt, v4] 25 (0, 0)) :: (b', .cells #[vs c, vi ra, vi re] 139 (0, 0)) :: (b8, .cells (refC r).toArray 42 (0, 0)) :: (D ++ D4))⟩ rfl (by show 0 < 102 - log.length; omega) (.inr (.inl ⟨rfl, hw6, h26, hNn, hgt.mono fun p hp => by simp [hp], hgl.mono fun p hp => by simp [hp], ?_⟩)) rfl rfl
            exact book_done hhd hlg (by rw [hns, if_neg (by simp [hr])])
          · rw [if_pos ⟨he, hr⟩] at hns
            have hlb := rightB_len hr
            have hst6 := store_bk vt vl vt v4 25 (gri_cell hgt).1 hbuf.cell.1
            refine Ow.run rfl fun k hk => ?_
            simp (disch := (first | omega | (simp only [lenS, lenT, UInt64.reduceToNat] ; try omega))) only [↓vcL_some, lit_i64, putF_some, setF_s, setF_0, yieldF_lit, ↓nthO_s, ↓nthO_0, yieldL_some, ↓getF_s, ↓getF_0, boolOf_b, beq_self_eq_true, ↓ib_true, ↓vcB_unOp, ↓ev_tmp, un_not, Bool.not_true, ↓ov_some, nf_cons, ↓vcL_none, ↓vcB_pick, ↓ev_const, pick_f, ↓vcL_nil, Md.next_seq]
            (with_reducible refine hk _ _ _ _ ?_); clear hk k
            repeat' first | with_reducible (first | refine Cw.seq ?_ | refine thenK_normal ?_ | refine Ow.nil ?_) | ((with_reducible refine Cw.region (Ow.run rfl fun k hk => ?_)); simp (disch := (first | omega | (simp only [lenS, lenT, UInt64.reduceToNat] ; try omega))) only [↓vcL_none, ↓vcB_load, rd_seq_load, ↓ib_true, Tryd.ag25, ↓ev_tmp, ↓getF_s, ↓getF_0, loadAt_p, read_other, read_same, load_bk, ↓ov_some, putF_some, setF_s, setF_0, nf_cons, ↓vcB_store, storeAt_p, look_other, look_same, hst6, upd_some, setB_other, setB_same, oh_some, ↓vcL_nil, Md.next_seq, nh_cons]; (with_reducible refine hk _ _ _ _ ?_); clear hk k) | with_reducible (first | refine Cw.block ?_ | refine Cw.skip ?_ | refine Cw.exit ?_ | refine Cw.ret ?_ | refine Cw.label ?_ | refine Cw.goto ?_ | refine thenK_exit ?_ | refine thenK_ret ?_ | refine thenK_goto ?_ | refine blockK_normal ?_ | refine blockK_ret ?_ | refine blockK_goto ?_ | refine blockK_exit ?_ | refine blockK_pass rfl ?_ | refine scopeK_normal ?_ | refine scopeK_ret ?_ | refine scopeK_exit ?_ | refine scopeK_goto ?_) | ((with_reducible refine Cw.condC ?_); first | refine CwC.pt rfl (by omega) ?_ | refine CwC.pf rfl (by omega) ?_ | refine CwC.it rfl (by omega) ?_ | refine CwC.if rfl (by omega) ?_ | refine CwC.nt rfl (by omega) ?_ | refine CwC.nf rfl (by omega) ?_ | refine CwC.tt rfl ?_ | refine CwC.ff rfl ?_ | refine CwC.bt rfl (by assumption) ?_ | (refine CwC.bf rfl ?_ ?_; focus assumption))
            have hgr4i : GrI ((b', .cells #[vs c, vi ra, vi re] 139 (0, 0)) :: (b8, .cells (refC r).toArray 42 (0, 0)) :: (D ++ D4)) 42 33 v4 (log ++ [r]).length ((log ++ [r]).map refC).flatten := by
              rw [List.length_append]; exact hgr4.i fun p hp => by simp [hp]
            refine Jump.mk ⟨1, br, b6, b7, vt, v4, vt, v4, tb, log ++ [r], to, (b', .cells #[vs c, vi ra, vi re] 139 (0, 0)) :: (b8, .cells (refC r).toArray 42 (0, 0)) :: (D ++ D4)⟩ rfl (by show 102 - (log ++ [r]).length < 102 - log.length; rw [List.length_append, List.length_singleton]; omega) (.inl ⟨rfl, hwr, hw6, hw7, h2r, h26, h27, hr6, hr7, h67, ⟨(by omega), hw8, hND⟩, hgt.mono fun p hp => by simp [hp], hgr4i, (gri_cell hgt).1, hbuf.cell.1, hst, hsh4, htl, hlb, hle0.2, a0, hhd, ?_⟩) rfl rfl
            intro k hk
            simp only at hk ⊢
            rw [List.length_append, List.length_singleton] at hk
            rw [← hlg (k + 1) (by omega), logsR, hns]
        · have hb : (endR c ra re != 0) = true := by simpa using he
          refine Ow.run rfl fun k hk => ?_
          simp (disch := (first | omega | (simp only [lenS, lenT, UInt64.reduceToNat] ; try omega))) only [↓vcL_none, ↓vcB_binOp, ↓ev_tmp, putF_some, setF_s, setF_0, ↓getF_s, ↓getF_0, ↓ev_const, binX_vi_vi, bin_neq_i, hb, ↓ov_some, nf_cons, ↓vcB_move, ↓vcL_some, lit_i64, yieldF_lit, ↓nthO_s, ↓nthO_0, yieldL_some, boolOf_b, some_beq, beq_false, Bool.not_true, ↓ib_false, ↓vcB_pick, pick_t, ↓vcL_nil, Md.next_seq]
          (with_reducible refine hk _ _ _ _ ?_); clear hk k
          with_reducible refine Ow.nil ?_
          with_reducible refine thenK_normal ?_
          refine Cw.permL (M := (b2, .cells #[.slice none 0 0, .slice none 0 0] 25 (0, 0)) :: (b6, .cells #[vt, vl] 25 (0, 0)) :: ((br, .cells #[vs s, vi to, vi 0] 139 (0, 0)) :: (b7, .cells #[vt, v4] 25 (0, 0)) :: (b', .cells #[vs c, vi ra, vi re] 139 (0, 0)) :: (b8, .cells (refC r).toArray 42 (0, 0)) :: (D ++ D4))) (by classical exact List.perm_iff_count.2 fun a => by simp only [List.count_append, List.count_cons, List.count_nil] <;> omega) ?_
          repeat' first | with_reducible (first | refine Cw.seq ?_ | refine thenK_normal ?_ | refine Ow.nil ?_) | ((with_reducible refine Cw.region (Ow.run rfl fun k hk => ?_)); simp (disch := (first | omega | (simp only [lenS, lenT, UInt64.reduceToNat] ; try omega))) only []; (with_reducible refine hk _ _ _ _ ?_); clear hk k) | with_reducible (first | refine Cw.block ?_ | refine Cw.skip ?_ | refine Cw.exit ?_ | refine Cw.ret ?_ | refine Cw.label ?_ | refine Cw.goto ?_ | refine thenK_exit ?_ | refine thenK_ret ?_ | refine thenK_goto ?_ | refine blockK_normal ?_ | refine blockK_ret ?_ | refine blockK_goto ?_ | refine blockK_exit ?_ | refine blockK_pass rfl ?_ | refine scopeK_normal ?_ | refine scopeK_ret ?_ | refine scopeK_exit ?_ | refine scopeK_goto ?_) | ((with_reducible refine Cw.condC ?_); first | refine CwC.pt rfl (by omega) ?_ | refine CwC.pf rfl (by omega) ?_ | refine CwC.it rfl (by omega) ?_ | refine CwC.if rfl (by omega) ?_ | refine CwC.nt rfl (by omega) ?_ | refine CwC.nf rfl (by omega) ?_ | refine CwC.tt rfl ?_ | refine CwC.ff rfl ?_ | refine CwC.bt rfl (by assumption) ?_ | (refine CwC.bf rfl ?_ ?_; focus assumption))
          refine Jump.mk ⟨2, br, b6, b7, vt, vl, x, y, tb, log, at_, ((br, .cells #[vs s, vi to, vi 0] 139 (0, 0)) :: (b7, .cells #[vt, v4] 25 (0, 0)) :: (b', .cells #[vs c, vi ra, vi re] 139 (0, 0)) :: (b8, .cells (refC r).toArray 42 (0, 0)) :: (D ++ D4))⟩ rfl (by show 0 < 102 - log.length; omega) (.inr (.inl ⟨rfl, hw6, h26, hNn, hgt.mono fun p hp => by simp [hp], hgl.mono fun p hp => by simp [hp], ?_⟩)) rfl rfl
          exact book_done hhd hlg (by rw [hns, if_neg (fun h => he h.1)])
    · obtain ⟨lab, br, b6, b7, vt, vl, x, y, tb, log, at_, D⟩ := g
      obtain ⟨hlab, hg⟩ := hg
      simp only at hlab
      subst hlab
      simp only [RL, RSl, RH] at hg ⊢
      obtain ⟨hw6, h26, hN, hgt, hgl, hbk⟩ := hg
      simp only [bkO, rdO, nlV]
      simp only [contP, hasL, Bool.or_false, Bool.false_or, Bool.or_true, Bool.true_or, Nat.reduceBEq, beq_self_eq_true, ↓reduceIte, Bool.false_eq_true]
      simp only [overFrom, pin, setF_0, setF_s, List.contains_cons, List.contains_nil, Nat.reduceBEq, Bool.or_false, Bool.false_or, Bool.or_true, Bool.true_or, Nat.reduceAdd, ↓reduceIte, Bool.false_eq_true]
      have hst2 := store_bk (.slice none 0 0) (.slice none 0 0) vt vl 25 (gri_cell hgt).1 (gri_cell hgl).1
      repeat' first | with_reducible (first | refine Cw.seq ?_ | refine thenK_normal ?_ | refine Ow.nil ?_) | ((with_reducible refine Cw.region (Ow.run rfl fun k hk => ?_)); simp (disch := (first | omega | (simp only [lenS, lenT, UInt64.reduceToNat] ; try omega))) only [↓vcL_none, ↓vcB_load, rd_seq_load, ↓ib_true, Tryd.ag25, ↓ev_tmp, ↓getF_s, ↓getF_0, loadAt_p, read_other, read_same, load_bk, ↓ov_some, putF_some, setF_s, setF_0, nf_cons, ↓vcB_move, ↓vcB_store, storeAt_p, look_same, hst2, upd_some, setB_same, oh_some, ↓vcB_assign, ↓ev_const, lit_i64, ↓vcL_nil, Md.next_seq, nh_cons]; (with_reducible refine hk _ _ _ _ ?_); clear hk k) | with_reducible (first | refine Cw.block ?_ | refine Cw.skip ?_ | refine Cw.exit ?_ | refine Cw.ret ?_ | refine Cw.label ?_ | refine Cw.goto ?_ | refine thenK_exit ?_ | refine thenK_ret ?_ | refine thenK_goto ?_ | refine blockK_normal ?_ | refine blockK_ret ?_ | refine blockK_goto ?_ | refine blockK_exit ?_ | refine blockK_pass rfl ?_ | refine scopeK_normal ?_ | refine scopeK_ret ?_ | refine scopeK_exit ?_ | refine scopeK_goto ?_) | ((with_reducible refine Cw.condC ?_); first | refine CwC.pt rfl (by omega) ?_ | refine CwC.pf rfl (by omega) ?_ | refine CwC.it rfl (by omega) ?_ | refine CwC.if rfl (by omega) ?_ | refine CwC.nt rfl (by omega) ?_ | refine CwC.nf rfl (by omega) ?_ | refine CwC.tt rfl ?_ | refine CwC.ff rfl ?_ | refine CwC.bt rfl (by assumption) ?_ | (refine CwC.bf rfl ?_ ?_; focus assumption))
      refine ⟨_, (by simp (disch := (first | omega | (simp only [lenS, lenT, UInt64.reduceToNat] ; try omega))) only [resVs_cons, resV_cell, Tryd.ag25, ↓getF_s, ↓getF_0, loadAt_p, read_same, load_bk, resV_tmp, resVs_nil, cons2_some]; rfl), ?_⟩
      refine ⟨Ext.of_new ⟨hw2, hw6, hN⟩, ?_⟩
      unfold ReadS
      rw [hbk]
      exact ⟨vt, vl, rfl, hgt.mono fun p hp => by simp [hp], hgl.mono fun p hp => by simp [hp]⟩
    · obtain ⟨lab, br, b6, b7, vt, vl, x, y, tb, log, at_, D⟩ := g
      obtain ⟨hlab, hg⟩ := hg
      simp only at hlab
      subst hlab
      simp only [RL, RSl, RH] at hg ⊢
      obtain ⟨hN, hbk⟩ := hg
      simp only [bkO, rdO, nlV]
      simp only [contP, hasL, Bool.or_false, Bool.false_or, Bool.or_true, Bool.true_or, Nat.reduceBEq, beq_self_eq_true, ↓reduceIte, Bool.false_eq_true]
      simp only [overFrom, pin, setF_0, setF_s, List.contains_cons, List.contains_nil, Nat.reduceBEq, Bool.or_false, Bool.false_or, Bool.or_true, Bool.true_or, Nat.reduceAdd, ↓reduceIte, Bool.false_eq_true]
      repeat' first | with_reducible (first | refine Cw.seq ?_ | refine thenK_normal ?_ | refine Ow.nil ?_) | ((with_reducible refine Cw.region (Ow.run rfl fun k hk => ?_)); simp (disch := (first | omega | (simp only [lenS, lenT, UInt64.reduceToNat] ; try omega))) only [↓vcL_none, ↓vcB_build, lit_i64]; (with_reducible refine hk _ _ _ _ ?_); clear hk k) | with_reducible (first | refine Cw.block ?_ | refine Cw.skip ?_ | refine Cw.exit ?_ | refine Cw.ret ?_ | refine Cw.label ?_ | refine Cw.goto ?_ | refine thenK_exit ?_ | refine thenK_ret ?_ | refine thenK_goto ?_ | refine blockK_normal ?_ | refine blockK_ret ?_ | refine blockK_goto ?_ | refine blockK_exit ?_ | refine blockK_pass rfl ?_ | refine scopeK_normal ?_ | refine scopeK_ret ?_ | refine scopeK_exit ?_ | refine scopeK_goto ?_) | ((with_reducible refine Cw.condC ?_); first | refine CwC.pt rfl (by omega) ?_ | refine CwC.pf rfl (by omega) ?_ | refine CwC.it rfl (by omega) ?_ | refine CwC.if rfl (by omega) ?_ | refine CwC.nt rfl (by omega) ?_ | refine CwC.nf rfl (by omega) ?_ | refine CwC.tt rfl ?_ | refine CwC.ff rfl ?_ | refine CwC.bt rfl (by assumption) ?_ | (refine CwC.bf rfl ?_ ?_; focus assumption))
      refine Ow.build (.agg #[.slice none 0 0, .slice none 0 0]) rfl (by kernel_rfl) ?_
      refine Ow.run rfl fun k hk => ?_
      simp (disch := (first | omega | (simp only [lenS, lenT, UInt64.reduceToNat] ; try omega))) only [↓vcL_none, ↓vcB_store, Tryd.ag25, ↓ev_tmp, putF_some, setF_s, setF_0, ↓getF_s, ↓getF_0, storeAt_p, look_same, store_bk0, upd_some, setB_same, oh_some, ↓vcB_assign, ↓ov_some, ↓ev_const, nf_cons, ↓vcL_nil, Md.next_seq, nh_cons]
      (with_reducible refine hk _ _ _ _ ?_); clear hk k
      repeat' first | with_reducible (first | refine Cw.seq ?_ | refine thenK_normal ?_ | refine Ow.nil ?_) | ((with_reducible refine Cw.region (Ow.run rfl fun k hk => ?_)); simp (disch := (first | omega | (simp only [lenS, lenT, UInt64.reduceToNat] ; try omega))) only []; (with_reducible refine hk _ _ _ _ ?_); clear hk k) | with_reducible (first | refine Cw.block ?_ | refine Cw.skip ?_ | refine Cw.exit ?_ | refine Cw.ret ?_ | refine Cw.label ?_ | refine Cw.goto ?_ | refine thenK_exit ?_ | refine thenK_ret ?_ | refine thenK_goto ?_ | refine blockK_normal ?_ | refine blockK_ret ?_ | refine blockK_goto ?_ | refine blockK_exit ?_ | refine blockK_pass rfl ?_ | refine scopeK_normal ?_ | refine scopeK_ret ?_ | refine scopeK_exit ?_ | refine scopeK_goto ?_) | ((with_reducible refine Cw.condC ?_); first | refine CwC.pt rfl (by omega) ?_ | refine CwC.pf rfl (by omega) ?_ | refine CwC.it rfl (by omega) ?_ | refine CwC.if rfl (by omega) ?_ | refine CwC.nt rfl (by omega) ?_ | refine CwC.nf rfl (by omega) ?_ | refine CwC.tt rfl ?_ | refine CwC.ff rfl ?_ | refine CwC.bt rfl (by assumption) ?_ | (refine CwC.bf rfl ?_ ?_; focus assumption))
      refine ⟨_, (by simp (disch := (first | omega | (simp only [lenS, lenT, UInt64.reduceToNat] ; try omega))) only [resVs_cons, resV_cell, Tryd.ag25, ↓getF_s, ↓getF_0, loadAt_p, read_same, load_bk, resV_tmp, resVs_nil, cons2_some]; rfl), ?_⟩
      refine ⟨Ext.of_new ⟨hw2, hN⟩, ?_⟩
      unfold ReadS
      rw [hbk]; rfl
  · intro key
    repeat' first | with_reducible (first | refine Cw.seq ?_ | refine thenK_normal ?_ | refine Ow.nil ?_) | ((with_reducible refine Cw.region (Ow.run rfl fun k hk => ?_)); simp (disch := (first | omega | (simp only [lenS, lenT, UInt64.reduceToNat] ; try omega))) only [↓vcL_none, ↓vcB_move, ↓ov_some, ↓ev_tmp, ↓getF_0, putF_some, setF_s, setF_0, nf_cons, ↓vcB_call, Md.next_seq]; (with_reducible refine hk _ _ _ _ ?_); clear hk k) | with_reducible (first | refine Cw.block ?_ | refine Cw.skip ?_ | refine Cw.exit ?_ | refine Cw.ret ?_ | refine Cw.goto ?_ | refine thenK_exit ?_ | refine thenK_ret ?_ | refine thenK_goto ?_ | refine blockK_normal ?_ | refine blockK_ret ?_ | refine blockK_goto ?_ | refine blockK_exit ?_ | refine blockK_pass rfl ?_ | refine scopeK_normal ?_ | refine scopeK_ret ?_ | refine scopeK_exit ?_ | refine scopeK_goto ?_) | ((with_reducible refine Cw.condC ?_); first | refine CwC.pt rfl (by omega) ?_ | refine CwC.pf rfl (by omega) ?_ | refine CwC.it rfl (by omega) ?_ | refine CwC.if rfl (by omega) ?_ | refine CwC.nt rfl (by omega) ?_ | refine CwC.nf rfl (by omega) ?_ | refine CwC.tt rfl ?_ | refine CwC.ff rfl ?_ | refine CwC.bt rfl (by assumption) ?_ | (refine CwC.bf rfl ?_ ?_; focus assumption))
    refine Ow.callF rfl rfl Tryd.call41 (S := fun B v D => ∃ b', B ≤ b' ∧ v = vp b' 0 ∧ D = [(b', .cells #[vs s, vi 0, vi 0] 139 (0, 0))]) (fun w' hw' => RNew_spec s w') ?_
    rintro B v D hab hB ⟨br, hbr, rfl, rfl⟩
    obtain ⟨h2B, -⟩ := hab
    refine ⟨_, Mrg.fresh (by intro q hq; simp only [keys, List.map_cons, List.map_nil, List.mem_singleton] at hq; omega), ?_⟩
    simp only [List.cons_append, List.nil_append]
    refine Ow.run rfl fun k hk => ?_
    simp (disch := (first | omega | (simp only [lenS, lenT, UInt64.reduceToNat] ; try omega))) only [↓vcL_none, ↓vcB_assign, ↓ov_some, putF_some, setF_s, setF_0, ↓ev_tmp, ↓getF_s, ↓getF_0, nf_cons, ↓vcL_nil, Md.next_seq]
    (with_reducible refine hk _ _ _ _ ?_); clear hk k
    repeat' first | with_reducible (first | refine Cw.seq ?_ | refine thenK_normal ?_ | refine Ow.nil ?_) | ((with_reducible refine Cw.region (Ow.run rfl fun k hk => ?_)); simp (disch := (first | omega | (simp only [lenS, lenT, UInt64.reduceToNat] ; try omega))) only [↓vcL_none, ↓vcB_alloc]; (with_reducible refine hk _ _ _ _ ?_); clear hk k) | with_reducible (first | refine Cw.block ?_ | refine Cw.skip ?_ | refine Cw.exit ?_ | refine Cw.ret ?_ | refine Cw.goto ?_ | refine thenK_exit ?_ | refine thenK_ret ?_ | refine thenK_goto ?_ | refine blockK_normal ?_ | refine blockK_ret ?_ | refine blockK_goto ?_ | refine blockK_exit ?_ | refine blockK_pass rfl ?_ | refine scopeK_normal ?_ | refine scopeK_ret ?_ | refine scopeK_exit ?_ | refine scopeK_goto ?_) | ((with_reducible refine Cw.condC ?_); first | refine CwC.pt rfl (by omega) ?_ | refine CwC.pf rfl (by omega) ?_ | refine CwC.it rfl (by omega) ?_ | refine CwC.if rfl (by omega) ?_ | refine CwC.nt rfl (by omega) ?_ | refine CwC.nf rfl (by omega) ?_ | refine CwC.tt rfl ?_ | refine CwC.ff rfl ?_ | refine CwC.bt rfl (by assumption) ?_ | (refine CwC.bf rfl ?_ ?_; focus assumption))
    refine Ow.alloc rfl rfl zrBk fun b6 hb6 hw6 => ?_
    simp only [cells_agg, List.nil_append, List.cons_append]
    obtain ⟨h26, hr6, -⟩ := hb6
    refine Ow.run rfl fun k hk => ?_
    simp (disch := (first | omega | (simp only [lenS, lenT, UInt64.reduceToNat] ; try omega))) only [↓vcL_none, ↓vcB_alloc, putF_some, setF_s, setF_0]
    (with_reducible refine hk _ _ _ _ ?_); clear hk k
    refine Ow.alloc rfl rfl zrBk fun b7 hb7 hw7 => ?_
    simp only [cells_agg, List.nil_append, List.cons_append]
    obtain ⟨h27, hr7, h67, -⟩ := hb7
    refine Ow.run rfl fun k hk => ?_
    simp (disch := (first | omega | (simp only [lenS, lenT, UInt64.reduceToNat] ; try omega))) only [↓vcL_nil, putF_some, setF_s, setF_0]
    (with_reducible refine hk _ _ _ _ ?_); clear hk k
    repeat' first | with_reducible (first | refine Cw.seq ?_ | refine thenK_normal ?_ | refine Ow.nil ?_) | ((with_reducible refine Cw.region (Ow.run rfl fun k hk => ?_)); simp (disch := (first | omega | (simp only [lenS, lenT, UInt64.reduceToNat] ; try omega))) only [↓vcL_none, ↓vcB_assign, ↓ov_some, ↓ev_const, lit_i64, putF_some, setF_s, setF_0, nf_cons, ↓vcL_nil, Md.next_seq, ↓vcB_move, ↓ev_tmp, ↓getF_s, ↓getF_0, ↓vcB_call, lit_str]; (with_reducible refine hk _ _ _ _ ?_); clear hk k) | with_reducible (first | refine Cw.block ?_ | refine Cw.skip ?_ | refine Cw.exit ?_ | refine Cw.ret ?_ | refine Cw.goto ?_ | refine thenK_exit ?_ | refine thenK_ret ?_ | refine thenK_goto ?_ | refine blockK_normal ?_ | refine blockK_ret ?_ | refine blockK_goto ?_ | refine blockK_exit ?_ | refine blockK_pass rfl ?_ | refine scopeK_normal ?_ | refine scopeK_ret ?_ | refine scopeK_exit ?_ | refine scopeK_goto ?_) | ((with_reducible refine Cw.condC ?_); first | refine CwC.pt rfl (by omega) ?_ | refine CwC.pf rfl (by omega) ?_ | refine CwC.it rfl (by omega) ?_ | refine CwC.if rfl (by omega) ?_ | refine CwC.nt rfl (by omega) ?_ | refine CwC.nf rfl (by omega) ?_ | refine CwC.tt rfl ?_ | refine CwC.ff rfl ?_ | refine CwC.bt rfl (by assumption) ?_ | (refine CwC.bf rfl ?_ ?_; focus assumption))
    refine Ow.permL (M := [(br, .cells #[vs s, vi 0, vi 0] 139 (0, 0))] ++ [(b2, .cells #[.slice none 0 0, .slice none 0 0] 25 (0, 0)), (b6, .cells #[.slice none 0 0, .slice none 0 0] 25 (0, 0)), (b7, .cells #[.slice none 0 0, .slice none 0 0] 25 (0, 0))]) (by classical exact List.perm_iff_count.2 fun a => by simp only [List.count_append, List.count_cons, List.count_nil] <;> omega) ?_
    refine Ow.callX (Y := [(b2, .cells #[.slice none 0 0, .slice none 0 0] 25 (0, 0)), (b6, .cells #[.slice none 0 0, .slice none 0 0] 25 (0, 0)), (b7, .cells #[.slice none 0 0, .slice none 0 0] 25 (0, 0))]) (by simp) rfl rfl Tryd.call42 (fun w' hw' hX hn => unrecord_spec br s 0 0 [72] w' (GlobC.of hG hw' (New.not (L := [(br, .cells #[vs s, vi 0, vi 0] 139 (0, 0))] ++ [(b2, .cells #[.slice none 0 0, .slice none 0 0] 25 (0, 0)), (b6, .cells #[.slice none 0 0, .slice none 0 0] 25 (0, 0)), (b7, .cells #[.slice none 0 0, .slice none 0 0] 25 (0, 0))]) (by exact ⟨(by omega), hw2, hw6, hw7, trivial⟩) hglt)) (by omega) (Nat.zero_le _) (by omega) (hX _ List.mem_cons_self)) (fun v1 D1 hC1 hS1 => ?_)
    rcases hS1 with ⟨hno, rfl, rfl⟩ | ⟨b', c, hc, rfl, hb', hne, rfl⟩
    · refine Ow.run rfl fun k hk => ?_
      simp (disch := (first | omega | (simp only [lenS, lenT, UInt64.reduceToNat] ; try omega))) only [↓vcL_none, ↓vcB_assign, ↓ov_some, putF_some, setF_s, setF_0, ↓ev_tmp, ↓getF_s, ↓getF_0, nf_cons, ↓vcL_nil, Md.next_seq, List.cons_append, List.nil_append]
      (with_reducible refine hk _ _ _ _ ?_); clear hk k
      repeat' first | with_reducible (first | refine Cw.seq ?_ | refine thenK_normal ?_ | refine Ow.nil ?_) | ((with_reducible refine Cw.region (Ow.run rfl fun k hk => ?_)); simp (disch := (first | omega | (simp only [lenS, lenT, UInt64.reduceToNat] ; try omega))) only [↓vcL_none, ↓vcB_move, ↓ov_some, ↓ev_tmp, ↓getF_s, ↓getF_0, putF_some, setF_s, setF_0, nf_cons, ↓vcB_call, Md.next_seq, lit_i64]; (with_reducible refine hk _ _ _ _ ?_); clear hk k) | with_reducible (first | refine Cw.block ?_ | refine Cw.skip ?_ | refine Cw.exit ?_ | refine Cw.ret ?_ | refine Cw.goto ?_ | refine thenK_exit ?_ | refine thenK_ret ?_ | refine thenK_goto ?_ | refine blockK_normal ?_ | refine blockK_ret ?_ | refine blockK_goto ?_ | refine blockK_exit ?_ | refine blockK_pass rfl ?_ | refine scopeK_normal ?_ | refine scopeK_ret ?_ | refine scopeK_exit ?_ | refine scopeK_goto ?_) | ((with_reducible refine Cw.condC ?_); first | refine CwC.pt rfl (by omega) ?_ | refine CwC.pf rfl (by omega) ?_ | refine CwC.it rfl (by omega) ?_ | refine CwC.if rfl (by omega) ?_ | refine CwC.nt rfl (by omega) ?_ | refine CwC.nf rfl (by omega) ?_ | refine CwC.tt rfl ?_ | refine CwC.ff rfl ?_ | refine CwC.bt rfl (by assumption) ?_ | (refine CwC.bf rfl ?_ ?_; focus assumption))
      refine Ow.callFV rfl Tryd.call43 (fun w' hw' => RNumber_nil 16 w') ?_
      refine Ow.run rfl fun k hk => ?_
      simp (disch := (first | omega | (simp only [lenS, lenT, UInt64.reduceToNat] ; try omega))) only [↓vcL_none, ↓vcB_move, ↓ov_some, putF_some, setF_s, setF_0, ↓ev_const, nf_cons, ↓vcL_nil, Md.next_seq]
      (with_reducible refine hk _ _ _ _ ?_); clear hk k
      repeat' first | with_reducible (first | refine Cw.seq ?_ | refine thenK_normal ?_ | refine Ow.nil ?_) | ((with_reducible refine Cw.region (Ow.run rfl fun k hk => ?_)); simp (disch := (first | omega | (simp only [lenS, lenT, UInt64.reduceToNat] ; try omega))) only []; (with_reducible refine hk _ _ _ _ ?_); clear hk k) | with_reducible (first | refine Cw.block ?_ | refine Cw.skip ?_ | refine Cw.exit ?_ | refine Cw.ret ?_ | refine Cw.goto ?_ | refine thenK_exit ?_ | refine thenK_ret ?_ | refine thenK_goto ?_ | refine blockK_normal ?_ | refine blockK_ret ?_ | refine blockK_goto ?_ | refine blockK_exit ?_ | refine blockK_pass rfl ?_ | refine scopeK_normal ?_ | refine scopeK_ret ?_ | refine scopeK_exit ?_ | refine scopeK_goto ?_) | ((with_reducible refine Cw.condC ?_); first | refine CwC.pt rfl (by omega) ?_ | refine CwC.pf rfl (by omega) ?_ | refine CwC.it rfl (by omega) ?_ | refine CwC.if rfl (by omega) ?_ | refine CwC.nt rfl (by omega) ?_ | refine CwC.nf rfl (by omega) ?_ | refine CwC.tt rfl ?_ | refine CwC.ff rfl ?_ | refine CwC.bt rfl (by assumption) ?_ | (refine CwC.bf rfl ?_ ?_; focus assumption))
      refine Cw.loopG (G := Unit) [17, 18, 19, 20, 21, 22, 23, 24, 25, 16] (fun g => [(16, vi 0)]) (fun g => [(br, .cells #[vs s, vi (recR s 0 0 [72]).2.1, vi (recR s 0 0 [72]).2.2] 139 (0, 0)), (b2, .cells #[.slice none 0 0, .slice none 0 0] 25 (0, 0)), (b6, .cells #[.slice none 0 0, .slice none 0 0] 25 (0, 0)), (b7, .cells #[.slice none 0 0, .slice none 0 0] 25 (0, 0))]) (fun g => True) (fun g => 0) () rfl rfl ?_ ?_
      · trivial
      intro g j hg
      simp only [overFrom, pin, setF_0, setF_s, List.contains_cons, List.contains_nil, Nat.reduceBEq, Bool.or_false, Bool.false_or, Bool.or_true, Bool.true_or, Nat.reduceAdd, ↓reduceIte, Bool.false_eq_true]
      repeat' first | with_reducible (first | refine Cw.seq ?_ | refine thenK_normal ?_ | refine Ow.nil ?_) | ((with_reducible refine Cw.region (Ow.run rfl fun k hk => ?_)); simp (disch := (first | omega | (simp only [lenS, lenT, UInt64.reduceToNat] ; try omega))) only [↓vcL_none, ↓vcB_binOp, ↓ev_tmp, ↓getF_s, ↓getF_0, binX_vi_vi, bin_lss_i, ↓ov_some, putF_some, setF_s, setF_0, nf_cons, ↓vcL_nil, Md.next_seq, ↓vcB_move, ↓vcB_call, lit_i64]; (with_reducible refine hk _ _ _ _ ?_); clear hk k) | with_reducible (first | refine Cw.block ?_ | refine Cw.skip ?_ | refine Cw.exit ?_ | refine Cw.ret ?_ | refine Cw.goto ?_ | refine thenK_exit ?_ | refine thenK_ret ?_ | refine thenK_goto ?_ | refine blockK_normal ?_ | refine blockK_ret ?_ | refine blockK_goto ?_ | refine blockK_exit ?_ | refine blockK_pass rfl ?_ | refine scopeK_normal ?_ | refine scopeK_ret ?_ | refine scopeK_exit ?_ | refine scopeK_goto ?_) | ((with_reducible refine Cw.condC ?_); first | refine CwC.pt rfl (by omega) ?_ | refine CwC.pf rfl (by omega) ?_ | refine CwC.it rfl (by omega) ?_ | refine CwC.if rfl (by omega) ?_ | refine CwC.nt rfl (by omega) ?_ | refine CwC.nf rfl (by omega) ?_ | refine CwC.tt rfl ?_ | refine CwC.ff rfl ?_ | refine CwC.bt rfl (by assumption) ?_ | (refine CwC.bf rfl ?_ ?_; focus assumption))
      have h30 : ((3 : Int) != 0) = true := rfl
      refine Ow.callFV rfl Tryd.call45 (fun w' hw' => REnd_nil w') ?_
      refine Ow.run rfl fun k hk => ?_
      simp (disch := (first | omega | (simp only [lenS, lenT, UInt64.reduceToNat] ; try omega))) only [↓vcL_none, ↓vcB_binOp, ↓ev_tmp, putF_some, setF_s, setF_0, ↓getF_s, ↓getF_0, ↓ev_const, binX_vi_vi, bin_neq_i, h30, ↓ov_some, nf_cons, ↓vcB_move, ↓vcL_some, lit_i64, yieldF_lit, ↓nthO_s, ↓nthO_0, yieldL_some, boolOf_b, some_beq, beq_false, Bool.not_true, ↓ib_false, ↓vcB_pick, pick_t, ↓vcL_nil, Md.next_seq]
      (with_reducible refine hk _ _ _ _ ?_); clear hk k
      with_reducible refine Ow.nil ?_
      with_reducible refine thenK_normal ?_
      refine Cw.permL (M := (b2, .cells #[.slice none 0 0, .slice none 0 0] 25 (0, 0)) :: [(br, .cells #[vs s, vi (recR s 0 0 [72]).2.1, vi (recR s 0 0 [72]).2.2] 139 (0, 0)), (b6, .cells #[.slice none 0 0, .slice none 0 0] 25 (0, 0)), (b7, .cells #[.slice none 0 0, .slice none 0 0] 25 (0, 0))]) (by classical exact List.perm_iff_count.2 fun a => by simp only [List.count_append, List.count_cons, List.count_nil] <;> omega) ?_
      repeat' first | with_reducible (first | refine Cw.seq ?_ | refine thenK_normal ?_ | refine Ow.nil ?_) | ((with_reducible refine Cw.region (Ow.run rfl fun k hk => ?_)); simp (disch := (first | omega | (simp only [lenS, lenT, UInt64.reduceToNat] ; try omega))) only []; (with_reducible refine hk _ _ _ _ ?_); clear hk k) | with_reducible (first | refine Cw.block ?_ | refine Cw.skip ?_ | refine Cw.exit ?_ | refine Cw.ret ?_ | refine Cw.goto ?_ | refine thenK_exit ?_ | refine thenK_ret ?_ | refine thenK_goto ?_ | refine blockK_normal ?_ | refine blockK_ret ?_ | refine blockK_goto ?_ | refine blockK_exit ?_ | refine blockK_pass rfl ?_ | refine scopeK_normal ?_ | refine scopeK_ret ?_ | refine scopeK_exit ?_ | refine scopeK_goto ?_) | ((with_reducible refine Cw.condC ?_); first | refine CwC.pt rfl (by omega) ?_ | refine CwC.pf rfl (by omega) ?_ | refine CwC.it rfl (by omega) ?_ | refine CwC.if rfl (by omega) ?_ | refine CwC.nt rfl (by omega) ?_ | refine CwC.nf rfl (by omega) ?_ | refine CwC.tt rfl ?_ | refine CwC.ff rfl ?_ | refine CwC.bt rfl (by assumption) ?_ | (refine CwC.bf rfl ?_ ?_; focus assumption))
      exact Jump.mk ⟨0, br, b6, b7, nlV, nlV, nlV, nlV, [], [], 0, [(br, .cells #[vs s, vi (recR s 0 0 [72]).2.1, vi (recR s 0 0 [72]).2.2] 139 (0, 0)), (b6, .cells #[.slice none 0 0, .slice none 0 0] 25 (0, 0)), (b7, .cells #[.slice none 0 0, .slice none 0 0] 25 (0, 0))]⟩ rfl trivial (.inr (.inr ⟨rfl, ⟨(by omega), hw6, hw7, trivial⟩, head_none hno⟩)) rfl rfl
    · have hbA : b2 < b' ∧ br < b' ∧ b6 < b' ∧ b7 < b' := by
        rcases hC1.new b' (by simp [keys]) with h | ⟨h, -⟩
        · simp [keys] at h; omega
        · obtain ⟨q1, q2, q3, q4, -⟩ := h
          exact ⟨q2, q1, q3, q4⟩
      obtain ⟨h2b, hrb, h6b, h7b⟩ := hbA
      have hcl := recR_len (by omega) hc
      have hce := recR_err hc
      have hhd := head_some hc
      rw [hce]
      have hle0 := rec_le (s := s) (a := 0) (p := [72]) (e := 0) (Nat.zero_le _)
      generalize hto : (recR s 0 0 [72]).2.1 = to at *
      simp only [List.cons_append, List.nil_append]
      refine Ow.run rfl fun k hk => ?_
      simp (disch := (first | omega | (simp only [lenS, lenT, UInt64.reduceToNat] ; try omega))) only [↓vcL_none, ↓vcB_assign, ↓ov_some, putF_some, setF_s, setF_0, ↓ev_tmp, ↓getF_s, ↓getF_0, nf_cons, ↓vcL_nil, Md.next_seq]
      (with_reducible refine hk _ _ _ _ ?_); clear hk k
      repeat' first | with_reducible (first | refine Cw.seq ?_ | refine thenK_normal ?_ | refine Ow.nil ?_) | ((with_reducible refine Cw.region (Ow.run rfl fun k hk => ?_)); simp (disch := (first | omega | (simp only [lenS, lenT, UInt64.reduceToNat] ; try omega))) only [↓vcL_none, ↓vcB_move, ↓ov_some, ↓ev_tmp, ↓getF_s, ↓getF_0, putF_some, setF_s, setF_0, nf_cons, ↓vcB_call, Md.next_seq, lit_i64]; (with_reducible refine hk _ _ _ _ ?_); clear hk k) | with_reducible (first | refine Cw.block ?_ | refine Cw.skip ?_ | refine Cw.exit ?_ | refine Cw.ret ?_ | refine Cw.goto ?_ | refine thenK_exit ?_ | refine thenK_ret ?_ | refine thenK_goto ?_ | refine blockK_normal ?_ | refine blockK_ret ?_ | refine blockK_goto ?_ | refine blockK_exit ?_ | refine blockK_pass rfl ?_ | refine scopeK_normal ?_ | refine scopeK_ret ?_ | refine scopeK_exit ?_ | refine scopeK_goto ?_) | ((with_reducible refine Cw.condC ?_); first | refine CwC.pt rfl (by omega) ?_ | refine CwC.pf rfl (by omega) ?_ | refine CwC.it rfl (by omega) ?_ | refine CwC.if rfl (by omega) ?_ | refine CwC.nt rfl (by omega) ?_ | refine CwC.nf rfl (by omega) ?_ | refine CwC.tt rfl ?_ | refine CwC.ff rfl ?_ | refine CwC.bt rfl (by assumption) ?_ | (refine CwC.bf rfl ?_ ?_; focus assumption))
      refine Ow.callM rfl rfl Tryd.call43 (by simp [keys]) (fun w' hw' => RNumber_spec b' c 0 0 16 w' (Nat.zero_le _) (by omega) (hw'.has _ _ (List.mem_cons_of_mem _ List.mem_cons_self))) ?_
      have hnm := numR_most (s := c) (a := 0) (e := 0) (most := 16) (by omega)
      have hnle := numR_le (s := c) (a := 0) (e := 0) (most := 16) (Nat.zero_le _)
      generalize numR c 0 0 16 = nn at *
      obtain ⟨n1, na, ne⟩ := nn
      simp only at hnm hnle hhd ⊢
      obtain ⟨k, rfl⟩ := Int.eq_ofNat_of_zero_le hnm.1
      have hk16 : k ≤ 16 := by omega
      simp (disch := (first | omega | (simp only [lenS, lenT, UInt64.reduceToNat] ; try omega))) only [setB_other, setB_same]
      refine Ow.run rfl fun k hk => ?_
      simp (disch := (first | omega | (simp only [lenS, lenT, UInt64.reduceToNat] ; try omega))) only [↓vcL_none, ↓vcB_move, ↓ov_some, putF_some, setF_s, setF_0, ↓ev_const, nf_cons, ↓vcL_nil, Md.next_seq]
      (with_reducible refine hk _ _ _ _ ?_); clear hk k
      repeat' first | with_reducible (first | refine Cw.seq ?_ | refine thenK_normal ?_ | refine Ow.nil ?_) | ((with_reducible refine Cw.region (Ow.run rfl fun k hk => ?_)); simp (disch := (first | omega | (simp only [lenS, lenT, UInt64.reduceToNat] ; try omega))) only []; (with_reducible refine hk _ _ _ _ ?_); clear hk k) | with_reducible (first | refine Cw.block ?_ | refine Cw.skip ?_ | refine Cw.exit ?_ | refine Cw.ret ?_ | refine Cw.goto ?_ | refine thenK_exit ?_ | refine thenK_ret ?_ | refine thenK_goto ?_ | refine blockK_normal ?_ | refine blockK_ret ?_ | refine blockK_goto ?_ | refine blockK_exit ?_ | refine blockK_pass rfl ?_ | refine scopeK_normal ?_ | refine scopeK_ret ?_ | refine scopeK_exit ?_ | refine scopeK_goto ?_) | ((with_reducible refine Cw.condC ?_); first | refine CwC.pt rfl (by omega) ?_ | refine CwC.pf rfl (by omega) ?_ | refine CwC.it rfl (by omega) ?_ | refine CwC.if rfl (by omega) ?_ | refine CwC.nt rfl (by omega) ?_ | refine CwC.nf rfl (by omega) ?_ | refine CwC.tt rfl ?_ | refine CwC.ff rfl ?_ | refine CwC.bt rfl (by assumption) ?_ | (refine CwC.bf rfl ?_ ?_; focus assumption))
      refine Cw.permL (M := (b', .cells #[vs c, vi na, vi ne] 139 (0, 0)) :: (b6, .cells #[.slice none 0 0, .slice none 0 0] 25 (0, 0)) :: (br, .cells #[vs s, vi to, vi 0] 139 (0, 0)) :: (b2, .cells #[.slice none 0 0, .slice none 0 0] 25 (0, 0)) :: (b7, .cells #[.slice none 0 0, .slice none 0 0] 25 (0, 0)) :: []) (by classical exact List.perm_iff_count.2 fun a => by simp only [List.count_append, List.count_cons, List.count_nil] <;> omega) ?_
      refine Cw.loopG (G := HG) [17, 18, 19, 20, 21, 22, 23, 24, 25, 16] (fun g => [(16, vi g.g)]) (fun g => (b', .cells #[vs c, vi (refsR c na ne g.g).2.1, vi (refsR c na ne g.g).2.2] 139 (0, 0)) :: (b6, .cells #[g.vt, .slice none 0 0] 25 (0, 0)) :: (br, .cells #[vs s, vi to, vi 0] 139 (0, 0)) :: (b2, .cells #[.slice none 0 0, .slice none 0 0] 25 (0, 0)) :: (b7, .cells #[.slice none 0 0, .slice none 0 0] 25 (0, 0)) :: g.D) (fun g => g.g ≤ k ∧ New (b' + 1) g.D ∧ Gr g.D 42 33 g.vt g.g ((refsR c na ne g.g).1.map refC).flatten) (fun g => k - g.g) ⟨0, .slice none 0 0, []⟩ rfl rfl ?_ ?_
      · exact ⟨Nat.zero_le _, trivial, Gr.nl⟩
      intro g j hg
      simp only [overFrom, pin, setF_0, setF_s, List.contains_cons, List.contains_nil, Nat.reduceBEq, Bool.or_false, Bool.false_or, Bool.or_true, Bool.true_or, Nat.reduceAdd, ↓reduceIte, Bool.false_eq_true]
      obtain ⟨g, vt, D⟩ := g
      simp only at hg ⊢
      obtain ⟨hgk, hND, hGr⟩ := hg
      have hrle := refsR_le (e := ne) hnle.2 g
      by_cases hlt : g < k
      · repeat' first | with_reducible (first | refine Cw.seq ?_ | refine thenK_normal ?_ | refine Ow.nil ?_) | ((with_reducible refine Cw.region (Ow.run rfl fun k hk => ?_)); simp (disch := (first | omega | (simp only [lenS, lenT, UInt64.reduceToNat] ; try omega))) only [↓vcL_none, ↓vcB_binOp, ↓ev_tmp, ↓getF_s, ↓getF_0, binX_vi_vi, bin_lss_i, ↓ov_some, putF_some, setF_s, setF_0, nf_cons, ↓vcL_nil, Md.next_seq]; (with_reducible refine hk _ _ _ _ ?_); clear hk k) | with_reducible (first | refine Cw.block ?_ | refine Cw.skip ?_ | refine Cw.exit ?_ | refine Cw.ret ?_ | refine Cw.goto ?_ | refine thenK_exit ?_ | refine thenK_ret ?_ | refine thenK_goto ?_ | refine blockK_normal ?_ | refine blockK_ret ?_ | refine blockK_goto ?_ | refine blockK_exit ?_ | refine blockK_pass rfl ?_ | refine scopeK_normal ?_ | refine scopeK_ret ?_ | refine scopeK_exit ?_ | refine scopeK_goto ?_) | ((with_reducible refine Cw.condC ?_); first | refine CwC.pt rfl (by omega) ?_ | refine CwC.pf rfl (by omega) ?_ | refine CwC.it rfl (by omega) ?_ | refine CwC.if rfl (by omega) ?_ | refine CwC.nt rfl (by omega) ?_ | refine CwC.nf rfl (by omega) ?_ | refine CwC.tt rfl ?_ | refine CwC.ff rfl ?_ | refine CwC.bt rfl (by assumption) ?_ | (refine CwC.bf rfl ?_ ?_; focus assumption))
        refine Cw.regionS [b6] [0, 2, 1, 3, 4, 5, 6, 7] [7] (by kernel_rfl) (by kernel_rfl) (by kernel_rfl) ?_
        simp only [nl_cons, ↓pickL_nil, ↓pickL_cons, ↓nthO_0, ↓nthO_s, consO_some]
        refine Ow.runQ fun k hk => ?_
        simp (disch := (first | omega | (simp only [lenS, lenT, UInt64.reduceToNat] ; try omega))) only [↓vcL_none, ↓vcB_fieldAddr, Tryd.fl25_0, ↓ev_tmp, ↓getF_s, ↓getF_0, fieldAddr_p, Nat.add_zero, ↓ov_some, putF_some, setF_s, setF_0, nf_cons, ↓vcB_move, ↓vcB_load, Md.next_sof, List.contains_cons, Nat.reduceBEq, List.contains_nil, Bool.or_false, Bool.false_eq_true, ↓reduceIte, ↓rd_sof_load, rdIn_p, beq_self_eq_true, ↓ib_true, Tryd.ag23, loadAt_p, read_other, read_same, load_bk0, ↓vcB_call]
        (with_reducible refine hk _ _ _ _ ?_); clear hk k
        refine Ow.soft rfl rfl rfl ?_
        refine Ow.callM rfl rfl Tryd.call44 (by simp [keys]) (fun w' hw' => one_spec b' c (refsR c na ne g).2.1 (refsR c na ne g).2.2 w' hrle.2 (by omega) (hw'.has _ _ List.mem_cons_self)) ?_
        with_reducible refine Ow.nil ?_
        refine ⟨fun b hb => read_setB_ne (by simp only [List.mem_cons, List.not_mem_nil, or_false] at hb; omega), ?_⟩
        rw [oneR_eq]
        have hfn := refR_name (s := c) (a := (refsR c na ne g).2.1) (e := (refsR c na ne g).2.2) hcl
        have hrs : refsR c na ne (g + 1) = ((refsR c na ne g).1 ++ [(refR c (refsR c na ne g).2.1 (refsR c na ne g).2.2).1], (refR c (refsR c na ne g).2.1 (refsR c na ne g).2.2).2) := rfl
        generalize refR c (refsR c na ne g).2.1 (refsR c na ne g).2.2 = rr at *
        obtain ⟨r, ra, re⟩ := rr
        simp only at hfn hrs ⊢
        simp (disch := (first | omega | (simp only [lenS, lenT, UInt64.reduceToNat] ; try omega))) only [setB_same]
        refine Ow.soft rfl rfl rfl ?_
        refine Ow.buildSlice (e := 42) (refC r).toArray rfl rfl (sliceRef r) fun b8 hb8 hw8 => ?_
        have hb8' : b' < b8 := above_to hb8 (by simp [keys])
        with_reducible refine Ow.nil ?_
        refine ⟨readB_appR (by simp [keys]), ?_⟩
        try simp only [List.cons_append, List.nil_append]
        refine Ow.soft rfl rfl rfl ?_
        refine Ow.permL (M := D ++ ((b', .cells #[vs c, vi ra, vi re] 139 (0, 0)) :: (b6, .cells #[vt, .slice none 0 0] 25 (0, 0)) :: (br, .cells #[vs s, vi to, vi 0] 139 (0, 0)) :: (b2, .cells #[.slice none 0 0, .slice none 0 0] 25 (0, 0)) :: (b7, .cells #[.slice none 0 0, .slice none 0 0] 25 (0, 0)) :: [(b8, .cells (refC r).toArray 42 (0, 0))])) (by classical exact List.perm_iff_count.2 fun a => by simp only [List.count_append, List.count_cons, List.count_nil] <;> omega) ?_
        refine Ow.appendX (e := 42) (k := 1) (new := refC r) (X := D) vt rfl rfl rfl rfl Tryd.underlying23 Tryd.ag42 (by kernel_rfl) zrRef (by rw [cells_ref, List.size_toArray, refC_len]) Tryd.underlying23 (by intro k h; cases h) hGr (fun w' hw' => AppX.one1 (hw'.has b8 (.cells (refC r).toArray 42 (0, 0)) (by simp)) (refC_len r) (refC_one r)) (by omega) (by omega) (fun B v4 D4 hA4 hB4 hbuf hk1 hk2 hlk => ?_)
        have hB8 : b' < B := above_to hA4 (by simp [keys_app, keys])
        have hN4 : New (b' + 1) D4 := New.of_le fun q hq => by
          rcases hk2 q hq with h | h
          · exact hND.le q h
          · omega
        have h64 : b6 ∉ keys D4 := hN4.not (by omega)
        with_reducible refine Ow.nil ?_
        refine ⟨fun q hq => ?_, ?_⟩
        · rw [List.mem_singleton] at hq
          subst hq
          rw [readB_appr h64]
          simp (disch := omega) only [read_other, read_same]
        try simp only [List.cons_append, List.nil_append]
        have hst6 : storeAtV (aggT Tryd.prog 23) (D4 ++ ((b', .cells #[vs c, vi ra, vi re] 139 (0, 0)) :: (b6, .cells #[vt, .slice none 0 0] 25 (0, 0)) :: (br, .cells #[vs s, vi to, vi 0] 139 (0, 0)) :: (b2, .cells #[.slice none 0 0, .slice none 0 0] 25 (0, 0)) :: (b7, .cells #[.slice none 0 0, .slice none 0 0] 25 (0, 0)) :: [(b8, .cells (refC r).toArray 42 (0, 0))])) (vp b6 0) v4 = some (D4 ++ ((b', .cells #[vs c, vi ra, vi re] 139 (0, 0)) :: (b6, .cells #[v4, .slice none 0 0] 25 (0, 0)) :: (br, .cells #[vs s, vi to, vi 0] 139 (0, 0)) :: (b2, .cells #[.slice none 0 0, .slice none 0 0] 25 (0, 0)) :: (b7, .cells #[.slice none 0 0, .slice none 0 0] 25 (0, 0)) :: [(b8, .cells (refC r).toArray 42 (0, 0))])) := by
          rw [Tryd.ag23, storeAt_p, look_app_r h64]
          simp (disch := omega) only [look_other, look_same]
          rw [store_b0 _ _ _ _ hbuf.cell, upd_some, setB_appr h64]
          simp (disch := omega) only [setB_other, setB_same]
        refine Ow.runQ fun k hk => ?_
        simp (disch := (first | omega | (simp only [lenS, lenT, UInt64.reduceToNat] ; try omega))) only [↓vcL_none, ↓vcB_fieldAddr, Tryd.fl25_0, ↓ev_tmp, putF_some, setF_s, setF_0, ↓getF_s, ↓getF_0, fieldAddr_p, Nat.add_zero, ↓ov_some, nf_cons, ↓vcB_store_f, Md.next_sof, List.contains_cons, Nat.reduceBEq, List.contains_nil, Bool.or_false, Bool.false_eq_true, ↓reduceIte]
        (with_reducible refine hk _ _ _ _ ?_); clear hk k
        refine Ow.store rfl rfl rfl hst6 ?_
        with_reducible refine Ow.nil ?_
        with_reducible refine blockK_normal ?_
        with_reducible refine thenK_normal ?_
        refine Cw.permL (M := (b', .cells #[vs c, vi ra, vi re] 139 (0, 0)) :: (b6, .cells #[v4, .slice none 0 0] 25 (0, 0)) :: (br, .cells #[vs s, vi to, vi 0] 139 (0, 0)) :: (b2, .cells #[.slice none 0 0, .slice none 0 0] 25 (0, 0)) :: (b7, .cells #[.slice none 0 0, .slice none 0 0] 25 (0, 0)) :: (D4 ++ [(b8, .cells (refC r).toArray 42 (0, 0))])) (by classical exact List.perm_iff_count.2 fun a => by simp only [List.count_append, List.count_cons, List.count_nil] <;> omega) ?_
        repeat' first | with_reducible (first | refine Cw.seq ?_ | refine thenK_normal ?_ | refine Ow.nil ?_) | ((with_reducible refine Cw.region (Ow.run rfl fun k hk => ?_)); simp (disch := (first | omega | (simp only [lenS, lenT, UInt64.reduceToNat] ; try omega))) only [↓vcL_none, ↓vcB_binOp, ↓ev_tmp, putF_none, ↓getF_s, ↓getF_0, ↓ev_const, lit_i64, binX_vi_vi, bin_add_i, ↓ov_some, putF_some, setF_s, setF_0, nf_cons, ↓vcB_move, ↓vcL_nil, Md.next_seq]; (with_reducible refine hk _ _ _ _ ?_); clear hk k) | with_reducible (first | refine Cw.block ?_ | refine Cw.skip ?_ | refine Cw.exit ?_ | refine Cw.ret ?_ | refine Cw.goto ?_ | refine thenK_exit ?_ | refine thenK_ret ?_ | refine thenK_goto ?_ | refine blockK_normal ?_ | refine blockK_ret ?_ | refine blockK_goto ?_ | refine blockK_exit ?_ | refine blockK_pass rfl ?_ | refine scopeK_normal ?_ | refine scopeK_ret ?_ | refine scopeK_exit ?_ | refine scopeK_goto ?_) | ((with_reducible refine Cw.condC ?_); first | refine CwC.pt rfl (by omega) ?_ | refine CwC.pf rfl (by omega) ?_ | refine CwC.it rfl (by omega) ?_ | refine CwC.if rfl (by omega) ?_ | refine CwC.nt rfl (by omega) ?_ | refine CwC.nf rfl (by omega) ?_ | refine CwC.tt rfl ?_ | refine CwC.ff rfl ?_ | refine CwC.bt rfl (by assumption) ?_ | (refine CwC.bf rfl ?_ ?_; focus assumption))
        refine Again.mk (HG.mk (g + 1) v4 (D4 ++ [(b8, .cells (refC r).toArray 42 (0, 0))])) (by show k - (g + 1) < k - g; omega) ⟨by show g + 1 ≤ k; omega, hN4.app ⟨by omega, trivial⟩, ?_⟩ ?_ rfl
        · show Gr (D4 ++ [(b8, .cells (refC r).toArray 42 (0, 0))]) 42 33 v4 (g + 1) ((refsR c na ne (g + 1)).1.map refC).flatten
          rw [hrs]
          have e : (((refsR c na ne g).1 ++ [r]).map refC).flatten = ((refsR c na ne g).1.map refC).flatten ++ refC r := by simp
          rw [e]
          exact Gr.app (.inl hbuf)
        · simp only [hrs]
      · obtain rfl : g = k := by omega
        have hshT := refsR_short (a := na) (e := ne) hcl g
        have hlenT := refsR_length c na ne g
        rw [Int.toNat_natCast] at hhd
        generalize refsR c na ne g = tt at *
        obtain ⟨tb, ra, re⟩ := tt
        simp only at hhd hshT hlenT hGr hrle ⊢
        have hNw : New w.heap.size ((br, .cells #[vs s, vi to, vi 0] 139 (0, 0)) :: (b', .cells #[vs c, vi ra, vi re] 139 (0, 0)) :: (b6, .cells #[vt, .slice none 0 0] 25 (0, 0)) :: (b7, .cells #[.slice none 0 0, .slice none 0 0] 25 (0, 0)) :: D) := ⟨by omega, by omega, by omega, by omega, hND.mono (by omega)⟩
        rw [← hlenT] at hGr
        repeat' first | with_reducible (first | refine Cw.seq ?_ | refine thenK_normal ?_ | refine Ow.nil ?_) | ((with_reducible refine Cw.region (Ow.run rfl fun k hk => ?_)); simp (disch := (first | omega | (simp only [lenS, lenT, UInt64.reduceToNat] ; try omega))) only [↓vcL_none, ↓vcB_binOp, ↓ev_tmp, ↓getF_s, ↓getF_0, binX_vi_vi, bin_lss_i, ↓ov_some, putF_some, setF_s, setF_0, nf_cons, ↓vcL_nil, Md.next_seq, ↓vcB_move, ↓vcB_call, lit_i64]; (with_reducible refine hk _ _ _ _ ?_); clear hk k) | with_reducible (first | refine Cw.block ?_ | refine Cw.skip ?_ | refine Cw.exit ?_ | refine Cw.ret ?_ | refine Cw.goto ?_ | refine thenK_exit ?_ | refine thenK_ret ?_ | refine thenK_goto ?_ | refine blockK_normal ?_ | refine blockK_ret ?_ | refine blockK_goto ?_ | refine blockK_exit ?_ | refine blockK_pass rfl ?_ | refine scopeK_normal ?_ | refine scopeK_ret ?_ | refine scopeK_exit ?_ | refine scopeK_goto ?_) | ((with_reducible refine Cw.condC ?_); first | refine CwC.pt rfl (by omega) ?_ | refine CwC.pf rfl (by omega) ?_ | refine CwC.it rfl (by omega) ?_ | refine CwC.if rfl (by omega) ?_ | refine CwC.nt rfl (by omega) ?_ | refine CwC.nf rfl (by omega) ?_ | refine CwC.tt rfl ?_ | refine CwC.ff rfl ?_ | refine CwC.bt rfl (by assumption) ?_ | (refine CwC.bf rfl ?_ ?_; focus assumption))
        refine Ow.callFV rfl Tryd.call45 (fun w' hw' => REndR_spec b' c ra re w' (hw'.has _ _ List.mem_cons_self)) ?_
        by_cases he : endR c ra re = 0
        · have hb : (endR c ra re != 0) = false := by simp [he]
          refine Ow.run rfl fun k hk => ?_
          simp (disch := (first | omega | (simp only [lenS, lenT, UInt64.reduceToNat] ; try omega))) only [↓vcL_none, ↓vcB_binOp, ↓ev_tmp, putF_some, setF_s, setF_0, ↓getF_s, ↓getF_0, ↓ev_const, binX_vi_vi, bin_neq_i, hb, ↓ov_some, nf_cons, ↓vcB_move, ↓vcL_some, lit_i64, yieldF_lit, ↓nthO_s, ↓nthO_0, yieldL_some, boolOf_b, beq_self_eq_true, ↓ib_true, ↓vcB_load, Md.next_seq, rd_seq_load, Tryd.ag25, loadAt_p, read_other, read_same, load_bk, ↓vcB_call]
          (with_reducible refine hk _ _ _ _ ?_); clear hk k
          repeat' first | with_reducible (first | refine Cw.seq ?_ | refine thenK_normal ?_ | refine Ow.nil ?_) | ((with_reducible refine Cw.region (Ow.run rfl fun k hk => ?_)); simp (disch := (first | omega | (simp only [lenS, lenT, UInt64.reduceToNat] ; try omega))) only []; (with_reducible refine hk _ _ _ _ ?_); clear hk k) | with_reducible (first | refine Cw.block ?_ | refine Cw.skip ?_ | refine Cw.exit ?_ | refine Cw.ret ?_ | refine Cw.goto ?_ | refine thenK_exit ?_ | refine thenK_ret ?_ | refine thenK_goto ?_ | refine blockK_normal ?_ | refine blockK_ret ?_ | refine blockK_goto ?_ | refine blockK_exit ?_ | refine blockK_pass rfl ?_ | refine scopeK_normal ?_ | refine scopeK_ret ?_ | refine scopeK_exit ?_ | refine scopeK_goto ?_) | ((with_reducible refine Cw.condC ?_); first | refine CwC.pt rfl (by omega) ?_ | refine CwC.pf rfl (by omega) ?_ | refine CwC.it rfl (by omega) ?_ | refine CwC.if rfl (by omega) ?_ | refine CwC.nt rfl (by omega) ?_ | refine CwC.nf rfl (by omega) ?_ | refine CwC.tt rfl ?_ | refine CwC.ff rfl ?_ | refine CwC.bt rfl (by assumption) ?_ | (refine CwC.bf rfl ?_ ?_; focus assumption))
          refine Ow.callFV rfl Tryd.call36 (fun w' hw' => Right_spec vt (.slice none 0 0) tb [] w' (hGr.slM (fun b o hm => hw'.has b o (by simp [hm])) rfl rfl refC_len) (SlV.nil w') (by omega) (by simp) hshT (fun g hg => by simp at hg)) ?_
          cases hr : rightB tb []
          · refine Ow.run rfl fun k hk => ?_
            simp (disch := (first | omega | (simp only [lenS, lenT, UInt64.reduceToNat] ; try omega))) only [↓vcL_some, lit_i64, putF_some, setF_s, setF_0, yieldF_lit, ↓nthO_s, ↓nthO_0, yieldL_some, ↓getF_s, ↓getF_0, boolOf_b, beq_self_eq_true, ↓ib_true, ↓vcB_unOp, ↓ev_tmp, un_not, Bool.not_false, ↓ov_some, nf_cons, ↓vcL_none, ↓vcB_pick, ↓ev_const, pick_f, ↓vcL_nil, Md.next_seq]
            (with_reducible refine hk _ _ _ _ ?_); clear hk k
            with_reducible refine Ow.nil ?_
            with_reducible refine thenK_normal ?_
            refine Cw.permL (M := (b2, .cells #[.slice none 0 0, .slice none 0 0] 25 (0, 0)) :: ((br, .cells #[vs s, vi to, vi 0] 139 (0, 0)) :: (b', .cells #[vs c, vi ra, vi re] 139 (0, 0)) :: (b6, .cells #[vt, .slice none 0 0] 25 (0, 0)) :: (b7, .cells #[.slice none 0 0, .slice none 0 0] 25 (0, 0)) :: D)) (by classical exact List.perm_iff_count.2 fun a => by simp only [List.count_append, List.count_cons, List.count_nil] <;> omega) ?_
            repeat' first | with_reducible (first | refine Cw.seq ?_ | refine thenK_normal ?_ | refine Ow.nil ?_) | ((with_reducible refine Cw.region (Ow.run rfl fun k hk => ?_)); simp (disch := (first | omega | (simp only [lenS, lenT, UInt64.reduceToNat] ; try omega))) only []; (with_reducible refine hk _ _ _ _ ?_); clear hk k) | with_reducible (first | refine Cw.block ?_ | refine Cw.skip ?_ | refine Cw.exit ?_ | refine Cw.ret ?_ | refine Cw.goto ?_ | refine thenK_exit ?_ | refine thenK_ret ?_ | refine thenK_goto ?_ | refine blockK_normal ?_ | refine blockK_ret ?_ | refine blockK_goto ?_ | refine blockK_exit ?_ | refine blockK_pass rfl ?_ | refine scopeK_normal ?_ | refine scopeK_ret ?_ | refine scopeK_exit ?_ | refine scopeK_goto ?_) | ((with_reducible refine Cw.condC ?_); first | refine CwC.pt rfl (by omega) ?_ | refine CwC.pf rfl (by omega) ?_ | refine CwC.it rfl (by omega) ?_ | refine CwC.if rfl (by omega) ?_ | refine CwC.nt rfl (by omega) ?_ | refine CwC.nf rfl (by omega) ?_ | refine CwC.tt rfl ?_ | refine CwC.ff rfl ?_ | refine CwC.bt rfl (by assumption) ?_ | (refine CwC.bf rfl ?_ ?_; focus assumption))
            exact Jump.mk ⟨0, br, b6, b7, nlV, nlV, nlV, nlV, [], [], 0, ((br, .cells #[vs s, vi to, vi 0] 139 (0, 0)) :: (b', .cells #[vs c, vi ra, vi re] 139 (0, 0)) :: (b6, .cells #[vt, .slice none 0 0] 25 (0, 0)) :: (b7, .cells #[.slice none 0 0, .slice none 0 0] 25 (0, 0)) :: D)⟩ rfl trivial (.inr (.inr ⟨rfl, hNw, head_no (by rw [hhd, if_neg (by simp [hr])])⟩)) rfl rfl
          · rw [if_pos ⟨he, hr⟩] at hhd
            refine Ow.run rfl fun k hk => ?_
            simp (disch := (first | omega | (simp only [lenS, lenT, UInt64.reduceToNat] ; try omega))) only [↓vcL_some, lit_i64, putF_some, setF_s, setF_0, yieldF_lit, ↓nthO_s, ↓nthO_0, yieldL_some, ↓getF_s, ↓getF_0, boolOf_b, beq_self_eq_true, ↓ib_true, ↓vcB_unOp, ↓ev_tmp, un_not, Bool.not_true, ↓ov_some, nf_cons, ↓vcL_none, ↓vcB_pick, ↓ev_const, pick_f, ↓vcL_nil, Md.next_seq]
            (with_reducible refine hk _ _ _ _ ?_); clear hk k
            with_reducible refine Ow.nil ?_
            with_reducible refine thenK_normal ?_
            refine Cw.permL (M := (b2, .cells #[.slice none 0 0, .slice none 0 0] 25 (0, 0)) :: (br, .cells #[vs s, vi to, vi 0] 139 (0, 0)) :: (b6, .cells #[vt, .slice none 0 0] 25 (0, 0)) :: (b7, .cells #[.slice none 0 0, .slice none 0 0] 25 (0, 0)) :: ((b', .cells #[vs c, vi ra, vi re] 139 (0, 0)) :: D)) (by classical exact List.perm_iff_count.2 fun a => by simp only [List.count_append, List.count_cons, List.count_nil] <;> omega) ?_
            have key0 := fun f' => key (⟨1, br, b6, b7, vt, .slice none 0 0, .slice none 0 0, .slice none 0 0, tb, [], to, ((b', .cells #[vs c, vi ra, vi re] 139 (0, 0)) :: D)⟩) f'
            simp only [contP, hasL, Bool.or_false, Bool.false_or, Bool.or_true, Bool.true_or, Nat.reduceBEq, beq_self_eq_true, ↓reduceIte, Bool.false_eq_true] at key0
            clear key
            repeat' first | with_reducible (first | refine Cw.seq ?_ | refine thenK_normal ?_ | refine Ow.nil ?_) | ((with_reducible refine Cw.region (Ow.run rfl fun k hk => ?_)); simp (disch := (first | omega | (simp only [lenS, lenT, UInt64.reduceToNat] ; try omega))) only []; (with_reducible refine hk _ _ _ _ ?_); clear hk k) | with_reducible (first | refine Cw.block ?_ | refine Cw.skip ?_ | refine Cw.exit ?_ | refine Cw.ret ?_ | refine Cw.goto ?_ | refine thenK_exit ?_ | refine thenK_ret ?_ | refine thenK_goto ?_ | refine blockK_normal ?_ | refine blockK_ret ?_ | refine blockK_goto ?_ | refine blockK_exit ?_ | refine blockK_pass rfl ?_ | refine scopeK_normal ?_ | refine scopeK_ret ?_ | refine scopeK_exit ?_ | refine scopeK_goto ?_) | ((with_reducible refine Cw.condC ?_); first | refine CwC.pt rfl (by omega) ?_ | refine CwC.pf rfl (by omega) ?_ | refine CwC.it rfl (by omega) ?_ | refine CwC.if rfl (by omega) ?_ | refine CwC.nt rfl (by omega) ?_ | refine CwC.nf rfl (by omega) ?_ | refine CwC.tt rfl ?_ | refine CwC.ff rfl ?_ | refine CwC.bt rfl (by assumption) ?_ | (refine CwC.bf rfl ?_ ?_; focus assumption))
            refine Cw.label ?_
            refine key0 _ (.inl ⟨rfl, (by simp only; omega), hw6, hw7, (by simp only; omega), (by simp only; omega), (by simp only; omega), (by simp only; omega), (by simp only; omega), (by simp only; omega), ⟨by omega, hND.mono (by omega)⟩, hGr.i fun p hp => by simp [hp], Gr.nl.i (X := []) fun p hp => (by cases hp), rfl, rfl, hshT, fun g hg => (by simp at hg), by simp only; omega, by simp, hle0.2, to, hhd, ?_⟩) ?_
            · intro k hk
              exact logsR_more s tb k 101 [] to (by simpa using hk) (by simp) (by simp)
            · rfl
        · have hb : (endR c ra re != 0) = true := by simpa using he
          refine Ow.run rfl fun k hk => ?_
          simp (disch := (first | omega | (simp only [lenS, lenT, UInt64.reduceToNat] ; try omega))) only [↓vcL_none, ↓vcB_binOp, ↓ev_tmp, putF_some, setF_s, setF_0, ↓getF_s, ↓getF_0, ↓ev_const, binX_vi_vi, bin_neq_i, hb, ↓ov_some, nf_cons, ↓vcB_move, ↓vcL_some, lit_i64, yieldF_lit, ↓nthO_s, ↓nthO_0, yieldL_some, boolOf_b, some_beq, beq_false, Bool.not_true, ↓ib_false, ↓vcB_pick, pick_t, ↓vcL_nil, Md.next_seq]
          (with_reducible refine hk _ _ _ _ ?_); clear hk k
          with_reducible refine Ow.nil ?_
          with_reducible refine thenK_normal ?_
          refine Cw.permL (M := (b2, .cells #[.slice none 0 0, .slice none 0 0] 25 (0, 0)) :: ((br, .cells #[vs s, vi to, vi 0] 139 (0, 0)) :: (b', .cells #[vs c, vi ra, vi re] 139 (0, 0)) :: (b6, .cells #[vt, .slice none 0 0] 25 (0, 0)) :: (b7, .cells #[.slice none 0 0, .slice none 0 0] 25 (0, 0)) :: D)) (by classical exact List.perm_iff_count.2 fun a => by simp only [List.count_append, List.count_cons, List.count_nil] <;> omega) ?_
          repeat' first | with_reducible (first | refine Cw.seq ?_ | refine thenK_normal ?_ | refine Ow.nil ?_) | ((with_reducible refine Cw.region (Ow.run rfl fun k hk => ?_)); simp (disch := (first | omega | (simp only [lenS, lenT, UInt64.reduceToNat] ; try omega))) only []; (with_reducible refine hk _ _ _ _ ?_); clear hk k) | with_reducible (first | refine Cw.block ?_ | refine Cw.skip ?_ | refine Cw.exit ?_ | refine Cw.ret ?_ | refine Cw.goto ?_ | refine thenK_exit ?_ | refine thenK_ret ?_ | refine thenK_goto ?_ | refine blockK_normal ?_ | refine blockK_ret ?_ | refine blockK_goto ?_ | refine blockK_exit ?_ | refine blockK_pass rfl ?_ | refine scopeK_normal ?_ | refine scopeK_ret ?_ | refine scopeK_exit ?_ | refine scopeK_goto ?_) | ((with_reducible refine Cw.condC ?_); first | refine CwC.pt rfl (by omega) ?_ | refine CwC.pf rfl (by omega) ?_ | refine CwC.it rfl (by omega) ?_ | refine CwC.if rfl (by omega) ?_ | refine CwC.nt rfl (by omega) ?_ | refine CwC.nf rfl (by omega) ?_ | refine CwC.tt rfl ?_ | refine CwC.ff rfl ?_ | refine CwC.bt rfl (by assumption) ?_ | (refine CwC.bf rfl ?_ ?_; focus assumption))
          exact Jump.mk ⟨0, br, b6, b7, nlV, nlV, nlV, nlV, [], [], 0, ((br, .cells #[vs s, vi to, vi 0] 139 (0, 0)) :: (b', .cells #[vs c, vi ra, vi re] 139 (0, 0)) :: (b6, .cells #[vt, .slice none 0 0] 25 (0, 0)) :: (b7, .cells #[.slice none 0 0, .slice none 0 0] 25 (0, 0)) :: D)⟩ rfl trivial (.inr (.inr ⟨rfl, hNw, head_no (by rw [hhd, if_neg (fun h => he h.1)])⟩)) rfl rfl
end Go.Proofs
open Go Go.Proofs Go.Sx Go.RefP
namespace Go.Proofs
set_option maxRecDepth 10000
set_option maxHeartbeats 4000000
set_option linter.unusedSimpArgs false
/-- The document's Set, on refs. -/
def setRG (x : RefL) : List RefL → Bool → List RefL
  | [], dn => if dn then [] else [x]
  | p :: r, dn => if p.name == x.name then setRG x r dn else if !dn && !(ltB p.name x.name || p.name == x.name) then x :: p :: setRG x r true else p :: setRG x r dn
def setR (l : List RefL) (x : RefL) : List RefL := setRG x l (x.id.l == z32)
structure SG where
  g : Nat
  dn : Bool
  v : Value
  o : List RefL
  D : Heap
end Go.Proofs
open Go Go.Proofs Go.Sx Go.RefP
namespace Go.Proofs
set_option maxRecDepth 10000
set_option maxHeartbeats 4000000
set_option linter.unusedSimpArgs false
/-- The document's values behind some of the log. -/
def logR (l t : List RefL) : Nat → Option (List RefL)
  | 0 => some t
  | g + 1 => (logR l t g).bind fun m => if (nameV (l.getD g ref0).name && decide ((setR m (l.getD g ref0)).length ≤ 16)) = true then some (setR m (l.getD g ref0)) else none
def tabOkR (t : List RefL) : Bool := tabAll nameV z32 (prs t)
def valR (t l : List RefL) (k : Nat) : Option (List RefL) := if t.length ≤ 16 ∧ l.length ≤ 100 ∧ tabOkR t = true then logR l t k else none
/-- What Values hands back. -/
def ValsS (t l : List RefL) (k : Nat) (v : Value) (D : Heap) : Prop :=
  match valR t l k with
  | some ls => ∃ x, v = .tuple #[x, .bool true] ∧ GrI D 42 33 x ls.length (ls.map refC).flatten
  | none => v = .tuple #[.slice none 0 0, .bool false]
theorem ValsS.no {t l : List RefL} {k : Nat} {D : Heap} (h : valR t l k = none) : ValsS t l k (.tuple #[.slice none 0 0, .bool false]) D := by unfold ValsS; rw [h]
structure VG where
  g : Nat
  v : Value
  ls : List RefL
  D : Heap
end Go.Proofs
open Go Go.Proofs Go.Sx Go.RefP
namespace Go.Proofs
set_option maxRecDepth 10000
set_option maxHeartbeats 4000000
set_option linter.unusedSimpArgs false
/-- The bytes of a record that stands at a place, and where it ends. -/
def partR (s : List UInt8) (a : Nat) : List UInt8 × Nat × Bool :=
  let t := textR s a 0 65536
  if t.2.2 ≠ 0 then ([], 0, false) else ((unsealV t.1).1, t.2.1, (unsealV t.1).2)
theorem SameRefsV_spec (x y : Value) (l1 l2 : List RefL) (w : World) (h1 : RefSl w x l1) (h2 : RefSl w y l2) (hl1 : l1.length < 1000000) (hl2 : l2.length < 1000000) :
    Rets Tryd.prog 38 #[x, y] w (fun v D => v = .bool (sameR l1 l2) ∧ D = []) := by
  obtain ⟨b1, o1, a1, E1, f1, r1⟩ := h1.row
  obtain ⟨b2, o2, a2, E2, f2, r2⟩ := h2.row
  exact SameRefs_spec x y b1 o1 b2 o2 l1 l2 a1 a2 E1 E2 f1 f2 w r1 r2 hl1 hl2
/-- The same books? -/
theorem Same_spec (vt vl ut ul : Value) (t l t2 l2 : List RefL) (w : World) (ht : RefSl w vt t) (hl : RefSl w vl l) (ht2 : RefSl w ut t2) (hl2 : RefSl w ul l2) (h1 : t.length < 1000000) (h2 : l.length < 1000000) (h3 : t2.length < 1000000) (h4 : l2.length < 1000000) :
    Rets Tryd.prog 11 #[.agg #[vt, vl], .agg #[ut, ul]] w (fun v D => v = .bool (sameR t t2 && sameR l l2) ∧ D = []) := by
  refine Rets.enterV Tryd.func11 rfl (rs := [.tmp 4]) Tryd.results11 Tryd.ntmps11 ?_
  simp only [List.size_toArray, List.length_cons, List.length_nil, Nat.reduceAdd, Nat.reduceSub, List.replicate_succ, List.replicate_zero, List.cons_append, List.nil_append]
  repeat' first | with_reducible (first | refine Cw.seq ?_ | refine thenK_normal ?_ | refine Ow.nil ?_) | ((with_reducible refine Cw.region (Ow.run rfl fun k hk => ?_)); simp (disch := (first | omega | (simp only [lenS, lenT, UInt64.reduceToNat] ; try omega))) only [↓vcL_none, ↓vcB_box]; (with_reducible refine hk _ _ _ _ ?_); clear hk k) | with_reducible (first | refine Cw.block ?_ | refine Cw.skip ?_ | refine Cw.exit ?_ | refine Cw.ret ?_ | refine thenK_exit ?_ | refine thenK_ret ?_ | refine blockK_normal ?_ | refine blockK_ret ?_ | refine blockK_exit ?_ | refine blockK_pass rfl ?_) | ((with_reducible refine Cw.condC ?_); first | refine CwC.pt rfl (by omega) ?_ | refine CwC.pf rfl (by omega) ?_ | refine CwC.it rfl (by omega) ?_ | refine CwC.if rfl (by omega) ?_ | refine CwC.nt rfl (by omega) ?_ | refine CwC.nf rfl (by omega) ?_ | refine CwC.tt rfl ?_ | refine CwC.ff rfl ?_ | refine CwC.bt rfl (by assumption) ?_ | (refine CwC.bf rfl ?_ ?_; focus assumption))
  refine Ow.box rfl rfl fun bx hbx hwx => ?_
  simp only [ev_tmp, getF_0, getF_s, cells_agg, List.nil_append, List.cons_append]
  refine Ow.run rfl fun k hk => ?_
  simp (disch := (first | omega | (simp only [lenS, lenT, UInt64.reduceToNat] ; try omega))) only [↓vcL_none, ↓vcB_box, putF_some, setF_s, setF_0]
  (with_reducible refine hk _ _ _ _ ?_); clear hk k
  refine Ow.box rfl rfl fun by_ hby hwy => ?_
  simp only [ev_tmp, getF_0, getF_s, cells_agg, List.nil_append, List.cons_append]
  refine Ow.run rfl fun k hk => ?_
  simp (disch := (first | omega | (simp only [lenS, lenT, UInt64.reduceToNat] ; try omega))) only [↓vcL_none, ↓vcB_assign, ↓ov_some, putF_some, setF_s, setF_0, ↓ev_const, nf_cons, ↓vcL_nil, Md.next_seq]
  (with_reducible refine hk _ _ _ _ ?_); clear hk k
  obtain ⟨hxy, -⟩ := hby
  repeat' first | with_reducible (first | refine Cw.seq ?_ | refine thenK_normal ?_ | refine Ow.nil ?_) | ((with_reducible refine Cw.region (Ow.run rfl fun k hk => ?_)); simp (disch := (first | omega | (simp only [lenS, lenT, UInt64.reduceToNat] ; try omega))) only [↓vcL_none, ↓vcB_fieldAddr, Tryd.fl25_0, ↓ev_tmp, ↓getF_s, ↓getF_0, fieldAddr_p, Nat.add_zero, ↓ov_some, putF_some, setF_s, setF_0, nf_cons, ↓vcB_load, Md.next_seq, rd_seq_load, ↓ib_true, Tryd.ag23, loadAt_p, read_same, load_bk0, read_other, ↓vcB_call]; (with_reducible refine hk _ _ _ _ ?_); clear hk k) | with_reducible (first | refine Cw.block ?_ | refine Cw.skip ?_ | refine Cw.exit ?_ | refine Cw.ret ?_ | refine thenK_exit ?_ | refine thenK_ret ?_ | refine blockK_normal ?_ | refine blockK_ret ?_ | refine blockK_exit ?_ | refine blockK_pass rfl ?_) | ((with_reducible refine Cw.condC ?_); first | refine CwC.pt rfl (by omega) ?_ | refine CwC.pf rfl (by omega) ?_ | refine CwC.it rfl (by omega) ?_ | refine CwC.if rfl (by omega) ?_ | refine CwC.nt rfl (by omega) ?_ | refine CwC.nf rfl (by omega) ?_ | refine CwC.tt rfl ?_ | refine CwC.ff rfl ?_ | refine CwC.bt rfl (by assumption) ?_ | (refine CwC.bf rfl ?_ ?_; focus assumption))
  refine Ow.callFV rfl Tryd.call38 (fun w' hw' => SameRefsV_spec vt ut t t2 w' (ht.oldN hw' ⟨hwx, hwy, trivial⟩) (ht2.oldN hw' ⟨hwx, hwy, trivial⟩) h1 h3) ?_
  cases sameR t t2
  · refine Ow.run rfl fun k hk => ?_
    simp (disch := (first | omega | (simp only [lenS, lenT, UInt64.reduceToNat] ; try omega))) only [↓vcL_none, ↓vcB_move, ↓ov_some, putF_some, setF_s, setF_0, ↓ev_tmp, ↓getF_s, ↓getF_0, nf_cons, ↓vcL_some, yieldF_lit, ↓nthO_s, ↓nthO_0, yieldL_some, boolOf_b, some_beq, beq_true, ↓ib_false, ↓vcB_pick, ↓ev_const, pick_f, ↓vcB_assign, ↓vcL_nil, Md.next_seq]
    (with_reducible refine hk _ _ _ _ ?_); clear hk k
    repeat' first | with_reducible (first | refine Cw.seq ?_ | refine thenK_normal ?_ | refine Ow.nil ?_) | ((with_reducible refine Cw.region (Ow.run rfl fun k hk => ?_)); simp (disch := (first | omega | (simp only [lenS, lenT, UInt64.reduceToNat] ; try omega))) only []; (with_reducible refine hk _ _ _ _ ?_); clear hk k) | with_reducible (first | refine Cw.block ?_ | refine Cw.skip ?_ | refine Cw.exit ?_ | refine Cw.ret ?_ | refine thenK_exit ?_ | refine thenK_ret ?_ | refine blockK_normal ?_ | refine blockK_ret ?_ | refine blockK_exit ?_ | refine blockK_pass rfl ?_) | ((with_reducible refine Cw.condC ?_); first | refine CwC.pt rfl (by omega) ?_ | refine CwC.pf rfl (by omega) ?_ | refine CwC.it rfl (by omega) ?_ | refine CwC.if rfl (by omega) ?_ | refine CwC.nt rfl (by omega) ?_ | refine CwC.nf rfl (by omega) ?_ | refine CwC.tt rfl ?_ | refine CwC.ff rfl ?_ | refine CwC.bt rfl (by assumption) ?_ | (refine CwC.bf rfl ?_ ?_; focus assumption))
    refine ⟨_, (by simp (disch := (first | omega | (simp only [lenS, lenT, UInt64.reduceToNat] ; try omega))) only [resVs_cons, resV_tmp, ↓getF_s, ↓getF_0, resVs_nil, cons2_some]; rfl), ⟨hwx, hwy, trivial⟩, ?_⟩
    rfl
  · refine Ow.run rfl fun k hk => ?_
    simp (disch := (first | omega | (simp only [lenS, lenT, UInt64.reduceToNat] ; try omega))) only [↓vcL_none, ↓vcB_move, ↓ov_some, putF_some, setF_s, setF_0, ↓ev_tmp, ↓getF_s, ↓getF_0, nf_cons, ↓vcL_some, yieldF_lit, ↓nthO_s, ↓nthO_0, yieldL_some, boolOf_b, beq_self_eq_true, ↓ib_true, ↓vcB_fieldAddr, Tryd.fl25_1, fieldAddr_p, Nat.zero_add, ↓vcB_load, Md.next_seq, rd_seq_load, Tryd.ag23, loadAt_p, read_same, load_bk1, read_other, ↓vcB_call]
    (with_reducible refine hk _ _ _ _ ?_); clear hk k
    repeat' first | with_reducible (first | refine Cw.seq ?_ | refine thenK_normal ?_ | refine Ow.nil ?_) | ((with_reducible refine Cw.region (Ow.run rfl fun k hk => ?_)); simp (disch := (first | omega | (simp only [lenS, lenT, UInt64.reduceToNat] ; try omega))) only []; (with_reducible refine hk _ _ _ _ ?_); clear hk k) | with_reducible (first | refine Cw.block ?_ | refine Cw.skip ?_ | refine Cw.exit ?_ | refine Cw.ret ?_ | refine thenK_exit ?_ | refine thenK_ret ?_ | refine blockK_normal ?_ | refine blockK_ret ?_ | refine blockK_exit ?_ | refine blockK_pass rfl ?_) | ((with_reducible refine Cw.condC ?_); first | refine CwC.pt rfl (by omega) ?_ | refine CwC.pf rfl (by omega) ?_ | refine CwC.it rfl (by omega) ?_ | refine CwC.if rfl (by omega) ?_ | refine CwC.nt rfl (by omega) ?_ | refine CwC.nf rfl (by omega) ?_ | refine CwC.tt rfl ?_ | refine CwC.ff rfl ?_ | refine CwC.bt rfl (by assumption) ?_ | (refine CwC.bf rfl ?_ ?_; focus assumption))
    refine Ow.callFV rfl Tryd.call38 (fun w' hw' => SameRefsV_spec vl ul l l2 w' (hl.oldN hw' ⟨hwx, hwy, trivial⟩) (hl2.oldN hw' ⟨hwx, hwy, trivial⟩) h2 h4) ?_
    refine Ow.run rfl fun k hk => ?_
    simp (disch := (first | omega | (simp only [lenS, lenT, UInt64.reduceToNat] ; try omega))) only [↓vcL_none, ↓vcB_pick, ↓ev_tmp, putF_some, setF_s, setF_0, ↓getF_s, ↓getF_0, ↓ev_const, pick_t, ↓ov_some, nf_cons, ↓vcB_assign, ↓vcL_nil, Md.next_seq]
    (with_reducible refine hk _ _ _ _ ?_); clear hk k
    repeat' first | with_reducible (first | refine Cw.seq ?_ | refine thenK_normal ?_ | refine Ow.nil ?_) | ((with_reducible refine Cw.region (Ow.run rfl fun k hk => ?_)); simp (disch := (first | omega | (simp only [lenS, lenT, UInt64.reduceToNat] ; try omega))) only []; (with_reducible refine hk _ _ _ _ ?_); clear hk k) | with_reducible (first | refine Cw.block ?_ | refine Cw.skip ?_ | refine Cw.exit ?_ | refine Cw.ret ?_ | refine thenK_exit ?_ | refine thenK_ret ?_ | refine blockK_normal ?_ | refine blockK_ret ?_ | refine blockK_exit ?_ | refine blockK_pass rfl ?_) | ((with_reducible refine Cw.condC ?_); first | refine CwC.pt rfl (by omega) ?_ | refine CwC.pf rfl (by omega) ?_ | refine CwC.it rfl (by omega) ?_ | refine CwC.if rfl (by omega) ?_ | refine CwC.nt rfl (by omega) ?_ | refine CwC.nf rfl (by omega) ?_ | refine CwC.tt rfl ?_ | refine CwC.ff rfl ?_ | refine CwC.bt rfl (by assumption) ?_ | (refine CwC.bf rfl ?_ ?_; focus assumption))
    refine ⟨_, (by simp (disch := (first | omega | (simp only [lenS, lenT, UInt64.reduceToNat] ; try omega))) only [resVs_cons, resV_tmp, ↓getF_s, ↓getF_0, resVs_nil, cons2_some]; rfl), ⟨hwx, hwy, trivial⟩, ?_⟩
    rfl
end Go.Proofs
open Go Go.Proofs Go.Sx Go.RefP
namespace Go.Sx
end Go.Sx
namespace Go.Proofs
set_option maxRecDepth 10000
set_option maxHeartbeats 4000000
set_option linter.unusedSimpArgs false
/-- What the document's Read hands back. -/
def RefReadS (s : List UInt8) (v : Value) (D : Heap) : Prop :=
  match bookR s with
  | some (tb, log, at_) => ∃ vt vl, v = .tuple #[.agg #[vt, vl], vi at_, .bool true] ∧ GrI D 42 33 vt tb.length (tb.map refC).flatten ∧ GrI D 42 33 vl log.length (log.map refC).flatten
  | none => v = .tuple #[.agg #[.slice none 0 0, .slice none 0 0], vi 0, .bool false]
theorem RefReadS.no {s : List UInt8} {D : Heap} (h : bookR s = none) : RefReadS s (.tuple #[.agg #[.slice none 0 0, .slice none 0 0], vi 0, .bool false]) D := by unfold RefReadS; rw [h]
theorem cutP_one (u : List UInt8) (p : UInt8) : cutP u [p] = if u.head? = some p then (u.drop 1, true) else (u, false) := by
  unfold cutP
  cases u with
  | nil => simp
  | cons c r => by_cases h : c = p <;> simp [h]
theorem build_bk1 (x : Value) (hx : x.cells = #[x]) : buildV (plcT Tryd.prog 25) (zeroV Tryd.prog 25) [(0, x)] = some (.agg #[x, .slice none 0 0]) := by
  have hp : plcT Tryd.prog 25 = some [(0, 1), (1, 1)] := id (by kernel_rfl)
  rw [hp, zrBk]
  simp [buildV, fillV, hx, putC]
structure DG where
  g : Nat
  log : List RefL
  vl : Value
  at_ : Nat
  D : Heap
end Go.Proofs
open Go Go.Proofs Go.Sx Go.RefP
namespace Go.Proofs
set_option maxRecDepth 10000
set_option maxHeartbeats 4000000
set_option linter.unusedSimpArgs false
/-- The id with a first byte of 1. -/
def id1 : IdL := ⟨1 :: List.replicate 31 0, by simp⟩
/-- The ref that alive adds. -/
def mainR : RefL := ⟨[109, 97, 105, 110], id1⟩
theorem numL_s (n : Nat) (l : List UInt8) (h : clampN (l.length : Int) = n) (hn : n < 128) : numL (clampN (l.length : Int)) = [UInt8.ofNat n] := by rw [h, numL_small hn]
theorem alive_head : recordV (headB []) = [6, 72, 0] ++ (sealV [72, 0]).drop 2 := by
  have h1 : headB [] = [72, 0] := by
    unfold headB tabB
    rw [show ((([] : List RefL).length : Int)) = (([] : List UInt8).length : Int) from rfl, numL_s 0 [] (by kernel_rfl) (by decide)]; rfl
  rw [h1]
  unfold recordV textL
  rw [numL_s 6 (sealV [72, 0]) (by kernel_rfl) (by decide)]
  exact id (show ([UInt8.ofNat 6] ++ sealV [72, 0] : List UInt8) = _ by kernel_rfl)
theorem alive_entry : entryB mainR = [69, 4, 109, 97, 105, 110] ++ id1.l := by
  unfold entryB textL
  rw [numL_s 4 _ (by kernel_rfl) (by decide)]
  rfl
theorem alive_rec : recordV (entryB mainR) = 42 :: sealV ([69, 4, 109, 97, 105, 110] ++ id1.l) := by
  rw [alive_entry]
  unfold recordV textL
  rw [numL_s 42 _ (by kernel_rfl) (by decide)]
  rfl
theorem alive_book : bookB [] [mainR] = ([6, 72, 0] ++ (sealV [72, 0]).drop 2) ++ (42 :: sealV ([69, 4, 109, 97, 105, 110] ++ id1.l)) := by
  unfold bookB logB
  rw [alive_head]
  simp only [List.map_cons, List.map_nil, List.flatten_cons, List.flatten_nil, List.append_nil, alive_rec]
theorem alive_right0 : rightB [] [] = true := by kernel_rfl
theorem alive_right : rightB [] [mainR] = true := by kernel_rfl
theorem alive_name : nameV [109, 97, 105, 110] = true := by kernel_rfl
theorem alive_read : bookR (bookB [] [mainR] ++ [120]) = some ([], [mainR], (bookB [] [mainR]).length) := by
  rw [alive_book]
  kernel_rfl
theorem alive_value : valueB [] [mainR] [109, 97, 105, 110] = id1.l := by kernel_rfl
end Go.Proofs
open Go Go.Proofs Go.Sx Go.RefP
namespace Go.Proofs
set_option maxRecDepth 10000
set_option maxHeartbeats 4000000
set_option linter.unusedSimpArgs false
theorem mainSmall : SmallN [mainR] := by
  intro g h
  have h0 : g = 0 := by simpa using h
  subst h0
  show (4 : Nat) < 1000
  decide
theorem book_drop : (bookB [] [mainR]).drop ((bookB [] [mainR]).length - (recordV (entryB mainR)).length) = recordV (entryB mainR) := by
  unfold bookB logB
  simp only [List.map_cons, List.map_nil, List.flatten_cons, List.flatten_nil, List.append_nil, List.length_append, Nat.add_sub_cancel_right, List.drop_left]
theorem book_lens : (recordV (entryB mainR)).length < (bookB [] [mainR]).length ∧ (bookB [] [mainR]).length < 1000 := by
  rw [alive_book, alive_rec]
  exact of_decide_eq_true (id (by kernel_rfl))
theorem alive16_spec (w : World) (hG : GlobC w) : Rets Tryd.prog 8 #[] w (fun v D => v = .bool true ∧ D = []) := by
  have hglt : (3 : Nat) < w.heap.size := by obtain ⟨e, f, h⟩ := hG; exact (Array.getElem?_eq_some_iff.1 h).1
  refine Rets.enterV Tryd.func8 rfl (rs := [.tmp 0]) Tryd.results8 Tryd.ntmps8 ?_
  simp only [List.size_toArray, List.length_cons, List.length_nil, Nat.reduceAdd, Nat.reduceSub, List.replicate_succ, List.replicate_zero, List.cons_append, List.nil_append]
  repeat' first | with_reducible (first | refine Cw.seq ?_ | refine thenK_normal ?_ | refine Ow.nil ?_) | ((with_reducible refine Cw.region (Ow.run rfl fun k hk => ?_)); simp (disch := (first | omega | (simp only [lenS, lenT, UInt64.reduceToNat] ; try omega))) only [↓vcL_none, ↓vcB_assign, ↓ov_some, ↓ev_const, putF_some, setF_0, nf_cons, ↓vcL_nil, Md.next_seq, ↓vcB_build, lit_u8, lit_str]; (with_reducible refine hk _ _ _ _ ?_); clear hk k) | with_reducible (first | refine Cw.block ?_ | refine Cw.skip ?_ | refine Cw.exit ?_ | refine Cw.ret ?_ | refine thenK_exit ?_ | refine thenK_ret ?_ | refine blockK_normal ?_ | refine blockK_ret ?_ | refine blockK_exit ?_ | refine blockK_pass rfl ?_) | ((with_reducible refine Cw.condC ?_); first | refine CwC.pt rfl (by omega) ?_ | refine CwC.pf rfl (by omega) ?_ | refine CwC.it rfl (by omega) ?_ | refine CwC.if rfl (by omega) ?_ | refine CwC.nt rfl (by omega) ?_ | refine CwC.nf rfl (by omega) ?_ | refine CwC.tt rfl ?_ | refine CwC.ff rfl ?_ | refine CwC.bt rfl (by assumption) ?_ | (refine CwC.bf rfl ?_ ?_; focus assumption))
  refine Ow.build (.agg #[.slice none 0 0, .slice none 0 0]) rfl (by kernel_rfl) ?_
  refine Ow.run rfl fun k hk => ?_
  simp (disch := (first | omega | (simp only [lenS, lenT, UInt64.reduceToNat] ; try omega))) only [↓vcL_none, ↓vcB_build, Md.next_seq, putF_some, setF_s, setF_0]
  (with_reducible refine hk _ _ _ _ ?_); clear hk k
  refine Ow.build (.agg (a8 id1.l)) rfl (by kernel_rfl) ?_
  refine Ow.run rfl fun k hk => ?_
  simp (disch := (first | omega | (simp only [lenS, lenT, UInt64.reduceToNat] ; try omega))) only [↓vcL_none, ↓vcB_call, Md.next_seq, putF_some, setF_s, setF_0]
  (with_reducible refine hk _ _ _ _ ?_); clear hk k
  refine Ow.callC rfl rfl Tryd.call14 (fun w' hw' => Add_spec (.slice none 0 0) (.slice none 0 0) [] [] [109, 97, 105, 110] id1 w' (GlobC.of hG hw' (by simp [keys])) (SlV.nil w') (SlV.nil w') (by simp) (by simp) (fun g h => by simp at h) (fun g h => by simp at h) (by simp)) (fun B1 v1 D1 hA1 hB1 hN1 hS1 => ?_)
  unfold AddS at hS1
  rw [if_pos ⟨alive_right0, alive_name⟩, if_pos (by exact alive_right)] at hS1
  obtain ⟨vt, vl, rfl, hGt, hGl⟩ := hS1
  have hstt := store_bk (.slice none 0 0) (.slice none 0 0) vt vl 25 (gri_cell hGt).1 (gri_cell hGl).1
  have hN1' := hN1.mono hB1
  refine Ow.run rfl fun k hk => ?_
  simp (disch := (first | omega | (simp only [lenS, lenT, UInt64.reduceToNat] ; try omega))) only [↓vcL_none, ↓vcB_move, ↓ov_some, putF_some, setF_s, setF_0, ↓ev_tmp, ↓getF_s, ↓getF_0, nf_cons, ↓vcB_extract, extract_t, tup3_0, tup3_1, tup3_2, ↓vcB_alloc, Md.next_seq, List.nil_append]
  (with_reducible refine hk _ _ _ _ ?_); clear hk k
  refine Ow.alloc rfl rfl zrBk fun b2 hb2 hw2 => ?_
  simp only [cells_agg, List.nil_append, List.cons_append]
  refine Ow.permL (M := (b2, .cells #[.slice none 0 0, .slice none 0 0] 25 (0, 0)) :: D1) (by classical exact List.perm_iff_count.2 fun a => by simp only [List.count_append, List.count_cons, List.count_nil] <;> omega) ?_
  refine Ow.run rfl fun k hk => ?_
  simp (disch := (first | omega | (simp only [lenS, lenT, UInt64.reduceToNat] ; try omega))) only [↓vcL_none, ↓vcB_store, Tryd.ag25, ↓ev_tmp, putF_some, setF_s, setF_0, ↓getF_s, ↓getF_0, storeAt_p, look_same, hstt, upd_some, setB_same, oh_some, ↓vcB_assign, ↓ov_some, nf_cons, ↓vcL_nil, Md.next_seq, nh_cons]
  (with_reducible refine hk _ _ _ _ ?_); clear hk k
  repeat' first | with_reducible (first | refine Cw.seq ?_ | refine thenK_normal ?_ | refine Ow.nil ?_) | ((with_reducible refine Cw.region (Ow.run rfl fun k hk => ?_)); simp (disch := (first | omega | (simp only [lenS, lenT, UInt64.reduceToNat] ; try omega))) only [↓vcL_none, ↓vcB_load, rd_seq_load, ↓ib_true, Tryd.ag25, ↓ev_tmp, ↓getF_s, ↓getF_0, loadAt_p, read_same, load_bk, ↓ov_some, putF_some, setF_s, setF_0, nf_cons, ↓vcB_call, Md.next_seq]; (with_reducible refine hk _ _ _ _ ?_); clear hk k) | with_reducible (first | refine Cw.block ?_ | refine Cw.skip ?_ | refine Cw.exit ?_ | refine Cw.ret ?_ | refine thenK_exit ?_ | refine thenK_ret ?_ | refine blockK_normal ?_ | refine blockK_ret ?_ | refine blockK_exit ?_ | refine blockK_pass rfl ?_) | ((with_reducible refine Cw.condC ?_); first | refine CwC.pt rfl (by omega) ?_ | refine CwC.pf rfl (by omega) ?_ | refine CwC.it rfl (by omega) ?_ | refine CwC.if rfl (by omega) ?_ | refine CwC.nt rfl (by omega) ?_ | refine CwC.nf rfl (by omega) ?_ | refine CwC.tt rfl ?_ | refine CwC.ff rfl ?_ | refine CwC.bt rfl (by assumption) ?_ | (refine CwC.bf rfl ?_ ?_; focus assumption))
  refine Ow.callFV rfl Tryd.call13 (fun w' hw' => Bytes_spec vt vl [] [mainR] w' (GlobC.of hG hw' (New.not (L := (b2, .cells #[vt, vl] 25 (0, 0)) :: D1) (by exact ⟨hw2, hN1'⟩) hglt)) (GrI.slV (hGt.mono (fun p hp => by simp [hp])) hw' rfl rfl refC_len) (GrI.slV (hGl.mono (fun p hp => by simp [hp])) hw' rfl rfl refC_len) (by simp) (by simp) (fun g h => by simp at h) mainSmall) ?_
  rw [if_pos alive_right]
  have hlen := book_lens
  have hdrop := book_drop
  have hread := alive_read
  have hrr : (⟨[109, 97, 105, 110], id1⟩ : RefL) = mainR := rfl
  rw [hrr] at hGl ⊢
  generalize recordV (entryB mainR) = rr at *
  generalize bookB [] [mainR] = bb at *
  refine Ow.run rfl fun k hk => ?_
  simp (disch := (first | omega | (simp only [lenS, lenT, UInt64.reduceToNat] ; try omega))) only [↓vcL_none, ↓vcB_move, ↓ov_some, putF_some, setF_s, setF_0, ↓ev_tmp, ↓getF_s, ↓getF_0, nf_cons, ↓vcB_extract, extract_t, tup2_0, tup2_1, ↓vcB_assign, ↓vcL_nil, Md.next_seq]
  (with_reducible refine hk _ _ _ _ ?_); clear hk k
  repeat' first | with_reducible (first | refine Cw.seq ?_ | refine thenK_normal ?_ | refine Ow.nil ?_) | ((with_reducible refine Cw.region (Ow.run rfl fun k hk => ?_)); simp (disch := (first | omega | (simp only [lenS, lenT, UInt64.reduceToNat] ; try omega))) only [↓vcL_none, ↓vcB_move, ↓ov_some, ↓ev_tmp, ↓getF_s, ↓getF_0, putF_some, setF_s, setF_0, nf_cons, ↓vcB_binOp, ↓ev_const, lit_str, binX_vs, bin_add_s, ↓vcB_call, Md.next_seq]; (with_reducible refine hk _ _ _ _ ?_); clear hk k) | with_reducible (first | refine Cw.block ?_ | refine Cw.skip ?_ | refine Cw.exit ?_ | refine Cw.ret ?_ | refine thenK_exit ?_ | refine thenK_ret ?_ | refine blockK_normal ?_ | refine blockK_ret ?_ | refine blockK_exit ?_ | refine blockK_pass rfl ?_) | ((with_reducible refine Cw.condC ?_); first | refine CwC.pt rfl (by omega) ?_ | refine CwC.pf rfl (by omega) ?_ | refine CwC.it rfl (by omega) ?_ | refine CwC.if rfl (by omega) ?_ | refine CwC.nt rfl (by omega) ?_ | refine CwC.nf rfl (by omega) ?_ | refine CwC.tt rfl ?_ | refine CwC.ff rfl ?_ | refine CwC.bt rfl (by assumption) ?_ | (refine CwC.bf rfl ?_ ?_; focus assumption))
  refine Ow.callC rfl rfl Tryd.call9 (fun w' hw' => Read_spec (bb ++ [120]) w' (GlobC.of hG hw' (New.not (L := (b2, .cells #[vt, vl] 25 (0, 0)) :: D1) (by exact ⟨hw2, hN1'⟩) hglt)) (by simp; omega)) (fun B3 v3 D3 hA3 hB3 hN3 hS3 => ?_)
  unfold ReadS at hS3
  rw [hread] at hS3
  obtain ⟨ut, ul, rfl, hHt, hHl⟩ := hS3
  have hN3' := hN3.mono hB3
  have hst3 := store_bk (.slice none 0 0) (.slice none 0 0) ut ul 25 (gri_cell hHt).1 (gri_cell hHl).1
  refine Ow.run rfl fun k hk => ?_
  simp (disch := (first | omega | (simp only [lenS, lenT, UInt64.reduceToNat] ; try omega))) only [↓vcL_none, ↓vcB_move, ↓ov_some, putF_some, setF_s, setF_0, ↓ev_tmp, ↓getF_s, ↓getF_0, nf_cons, ↓vcB_extract, extract_t, tup3_0, tup3_1, tup3_2, ↓vcB_alloc, Md.next_seq, List.cons_append]
  (with_reducible refine hk _ _ _ _ ?_); clear hk k
  refine Ow.alloc rfl rfl zrBk fun b6 hb6 hw6 => ?_
  simp only [cells_agg, List.nil_append, List.cons_append]
  refine Ow.permL (M := (b6, .cells #[.slice none 0 0, .slice none 0 0] 25 (0, 0)) :: ((b2, .cells #[vt, vl] 25 (0, 0)) :: (D1 ++ D3))) (by classical exact List.perm_iff_count.2 fun a => by simp only [List.count_append, List.count_cons, List.count_nil] <;> omega) ?_
  refine Ow.run rfl fun k hk => ?_
  simp (disch := (first | omega | (simp only [lenS, lenT, UInt64.reduceToNat] ; try omega))) only [↓vcL_none, ↓vcB_store, Tryd.ag25, ↓ev_tmp, putF_some, setF_s, setF_0, ↓getF_s, ↓getF_0, storeAt_p, look_same, hst3, upd_some, setB_same, oh_some, ↓vcB_assign, ↓ov_some, nf_cons, ↓vcL_nil, Md.next_seq, nh_cons]
  (with_reducible refine hk _ _ _ _ ?_); clear hk k
  have hNN : New w.heap.size (D1 ++ D3) := hN1'.app hN3'
  have e0 : ((0 : Int) == 0) = true := rfl
  have e1 : (((bb.length : Nat) : Int) == (bb.length : Int)) = true := by simp
  have e2 : decide ((rr.length : Int) < (bb.length : Int)) = true := by simp; omega
  have e3 : ((bb.length : Int) - (rr.length : Int)).toNat = bb.length - rr.length := by omega
  have e4 : (rr == rr) = true := by simp
  have hsl : sliceV .str (vs bb) (some (some ((bb.length : Int) - (rr.length : Int)))) none = some (vs rr) := by
    rw [slice_str_lo bb _ ⟨by omega, by omega⟩, e3, hdrop]
  repeat' first | with_reducible (first | refine Cw.seq ?_ | refine thenK_normal ?_ | refine Ow.nil ?_) | ((with_reducible refine Cw.region (Ow.run rfl fun k hk => ?_)); simp (disch := (first | omega | (simp only [lenS, lenT, UInt64.reduceToNat] ; try omega))) only [↓vcL_none, ↓vcB_move, ↓ov_some, ↓ev_tmp, ↓getF_s, ↓getF_0, putF_some, setF_s, setF_0, nf_cons, ↓vcB_binOp, ↓ev_const, lit_i64, binX_vi_vi, bin_eql_i, beq_self_eq_true, ↓vcL_some, lit_str, lit_u8, yieldF_lit, ↓nthO_s, ↓nthO_0, yieldL_some, boolOf_b, ↓ib_true, ↓vcB_pick, pick_t, ↓vcB_len, Tryd.ix9, len_str, bin_gtr_i, e2, bin_sub_i, ↓vcB_slice, Option.map_some, ixI_vi, Option.map_none, hsl, binX_vs, bin_eql_s, ↓vcB_load, Md.next_seq, rd_seq_load, Tryd.ag25, loadAt_p, read_same, load_bk, ↓vcB_call]; (with_reducible refine hk _ _ _ _ ?_); clear hk k) | with_reducible (first | refine Cw.block ?_ | refine Cw.skip ?_ | refine Cw.exit ?_ | refine Cw.ret ?_ | refine thenK_exit ?_ | refine thenK_ret ?_ | refine blockK_normal ?_ | refine blockK_ret ?_ | refine blockK_exit ?_ | refine blockK_pass rfl ?_) | ((with_reducible refine Cw.condC ?_); first | refine CwC.pt rfl (by omega) ?_ | refine CwC.pf rfl (by omega) ?_ | refine CwC.it rfl (by omega) ?_ | refine CwC.if rfl (by omega) ?_ | refine CwC.nt rfl (by omega) ?_ | refine CwC.nf rfl (by omega) ?_ | refine CwC.tt rfl ?_ | refine CwC.ff rfl ?_ | refine CwC.bt rfl (by assumption) ?_ | (refine CwC.bf rfl ?_ ?_; focus assumption))
  refine Ow.callFV rfl Tryd.call37 (fun w' hw' => Value_spec ut ul [] [mainR] [109, 97, 105, 110] w' (GrI.slV (hHt.mono (fun p hp => by simp [hp])) hw' rfl rfl refC_len) (GrI.slV (hHl.mono (fun p hp => by simp [hp])) hw' rfl rfl refC_len) (by simp) (by simp) (fun g h => by simp at h) mainSmall.short) ?_
  rw [alive_value]
  refine Ow.run rfl fun k hk => ?_
  simp (disch := (first | omega | (simp only [lenS, lenT, UInt64.reduceToNat] ; try omega))) only [↓vcL_some, lit_i64, lit_str, lit_u8, putF_some, setF_s, setF_0, yieldF_lit, ↓nthO_s, ↓nthO_0, yieldL_some, ↓getF_s, ↓getF_0, boolOf_b, beq_self_eq_true, ↓ib_true, ↓vcB_build, Md.next_seq]
  (with_reducible refine hk _ _ _ _ ?_); clear hk k
  refine Ow.build (.agg (a8 id1.l)) rfl (by kernel_rfl) ?_
  have e5 := eqId id1.l id1.l ⟨id1.h, id1.h⟩
  have e6 : (id1.l == id1.l) = true := by simp
  refine Ow.run rfl fun k hk => ?_
  simp (disch := (first | omega | (simp only [lenS, lenT, UInt64.reduceToNat] ; try omega))) only [↓vcL_some, lit_i64, lit_str, lit_u8, putF_some, setF_s, setF_0, yieldF_lit, ↓nthO_s, ↓nthO_0, yieldL_some, ↓getF_s, ↓getF_0, boolOf_b, beq_self_eq_true, ↓ib_true, ↓vcB_binOp, ↓ev_tmp, e5, ↓ov_some, nf_cons, ↓vcL_none, ↓vcB_pick, ↓ev_const, pick_t, ↓vcB_assign, ↓vcL_nil, Md.next_seq]
  (with_reducible refine hk _ _ _ _ ?_); clear hk k
  repeat' first | with_reducible (first | refine Cw.seq ?_ | refine thenK_normal ?_ | refine Ow.nil ?_) | ((with_reducible refine Cw.region (Ow.run rfl fun k hk => ?_)); simp (disch := (first | omega | (simp only [lenS, lenT, UInt64.reduceToNat] ; try omega))) only []; (with_reducible refine hk _ _ _ _ ?_); clear hk k) | with_reducible (first | refine Cw.block ?_ | refine Cw.skip ?_ | refine Cw.exit ?_ | refine Cw.ret ?_ | refine thenK_exit ?_ | refine thenK_ret ?_ | refine blockK_normal ?_ | refine blockK_ret ?_ | refine blockK_exit ?_ | refine blockK_pass rfl ?_) | ((with_reducible refine Cw.condC ?_); first | refine CwC.pt rfl (by omega) ?_ | refine CwC.pf rfl (by omega) ?_ | refine CwC.it rfl (by omega) ?_ | refine CwC.if rfl (by omega) ?_ | refine CwC.nt rfl (by omega) ?_ | refine CwC.nf rfl (by omega) ?_ | refine CwC.tt rfl ?_ | refine CwC.ff rfl ?_ | refine CwC.bt rfl (by assumption) ?_ | (refine CwC.bf rfl ?_ ?_; focus assumption))
  refine ⟨_, (by simp (disch := (first | omega | (simp only [lenS, lenT, UInt64.reduceToNat] ; try omega))) only [resVs_cons, resV_tmp, ↓getF_0, resVs_nil, cons2_some]; rfl), ⟨hw6, hw2, hNN⟩, ?_⟩
  rfl
end Go.Proofs
open Go Go.Proofs Go.Sx Go.RefP
namespace Go.Proofs
set_option maxRecDepth 10000
set_option maxHeartbeats 4000000
set_option linter.unusedSimpArgs false
theorem sameR_refl (l : List RefL) : sameR l l = true := by unfold sameR; simp
end Go.Proofs
open Go Go.Proofs Go.Sx Go.RefP
namespace Go.Proofs
set_option maxRecDepth 10000
set_option maxHeartbeats 4000000
/-! ### What was written is read -/
theorem numL_pos (n : Nat) : 0 < (numL n).length := by
  by_cases h : n < 128
  · rw [numL_small h]; simp
  · rw [numL_big h]; simp
theorem numGo_numL (most : Int) (r : List UInt8) : ∀ (n k acc : Nat), (0 < k → 0 < n) → k + (numL n).length ≤ 6 → acc + n * 128 ^ k ≤ 1099511627775 → ((acc + n * 128 ^ k : Nat) : Int) ≤ most →
    numGo most (numL n ++ r) k acc = .ok (acc + n * 128 ^ k, k + (numL n).length) := by
  intro n
  induction n using Nat.strongRecOn with
  | ind n ih =>
    intro k acc hk hl hs hm
    by_cases h : n < 128
    · rw [numL_small h, List.cons_append, List.nil_append, numGo]
      have hc : (UInt8.ofNat n).toNat = n := by rw [UInt8.toNat_ofNat']; omega
      rw [hc, Nat.mod_eq_of_lt h, if_neg (by omega), if_neg (by omega), if_pos ⟨hs, hm⟩]
      rfl
    · have hb := numL_big h
      rw [hb] at hl ⊢
      rw [List.cons_append, numGo]
      have hc : (UInt8.ofNat (n % 128 + 128)).toNat = n % 128 + 128 := by rw [UInt8.toNat_ofNat']; omega
      have hp := numL_pos (n / 128)
      rw [List.length_cons] at hl
      have e : acc + (n % 128 + 128) % 128 * 128 ^ k + n / 128 * 128 ^ (k + 1) = acc + n * 128 ^ k := by
        have h1 : (n % 128 + 128) % 128 = n % 128 := by omega
        rw [h1, Nat.pow_succ, Nat.add_assoc]
        congr 1
        have h2 : n / 128 * (128 ^ k * 128) = (n / 128 * 128) * 128 ^ k := by rw [Nat.mul_comm (128 ^ k), Nat.mul_assoc]
        rw [h2, ← Nat.add_mul]
        congr 1
        omega
      rw [hc, if_pos (by omega), if_neg (by omega), ih (n / 128) (by omega) (k + 1) _ (fun _ => by omega) (by omega) (by rw [e]; exact hs) (by rw [e]; exact hm), e, List.length_cons]
      congr 2
      omega
theorem drop_app (A B : List UInt8) : (A ++ B).drop A.length = B := List.drop_left
theorem numR_app (A r : List UInt8) (n : Nat) (most : Int) (hn : n ≤ 1099511627775) (hm : (n : Int) ≤ most) : numR (A ++ (numL n ++ r)) A.length 0 most = ((n : Int), A.length + (numL n).length, 0) := by
  have hl := numL_len_lt 6 n (by omega) (by omega)
  have h := numGo_numL most r n 0 0 (fun h => absurd h (Nat.lt_irrefl 0)) (by omega) (by simpa using hn) (by simpa using hm)
  simp only [Nat.pow_zero, Nat.mul_one, Nat.zero_add] at h
  exact numR_ok rfl (by rw [drop_app]; exact h)
theorem rawR_app (A x r : List UInt8) : rawR (A ++ (x ++ r)) A.length 0 (x.length : Int) = (x, A.length + x.length, 0) := by
  unfold rawR
  rw [if_neg (by simp), if_neg (by omega), if_neg (by simp only [List.length_append]; omega), drop_app, Int.toNat_natCast, List.take_left]
theorem textR_app (A t r : List UInt8) (most : Int) (hn : t.length ≤ 1099511627775) (hm : (t.length : Int) ≤ most) : textR (A ++ (textL t ++ r)) A.length 0 most = (t, A.length + (textL t).length, 0) := by
  have h1 := numR_app A (t ++ r) t.length most hn hm
  have h2 := rawR_app (A ++ numL t.length) t r
  unfold textR textL
  rw [clampN_id (by omega)]
  rw [List.append_assoc, h1]
  simp only
  rw [List.append_assoc, List.length_append] at h2
  rw [h2]
  simp only [ne_eq, not_true_eq_false, ↓reduceIte, List.length_append, Nat.add_assoc]
theorem idR_app (A r : List UInt8) (i : IdL) : idR (A ++ (i.l ++ r)) A.length 0 = (i.l, A.length + 32, 0) := by
  have h := rawR_app A i.l r
  have hi := i.h
  rw [hi] at h
  unfold idR
  rw [show (32 : Int) = ((32 : Nat) : Int) from rfl, h]
  simp only [hi, ↓reduceIte]
theorem unseal_seal (x : List UInt8) : unsealV (sealV x) = (x, true) := by
  have hl := sealV_len x
  have ht : (sealV x).take ((sealV x).length - 4) = x := by
    rw [hl, Nat.add_sub_cancel]
    unfold sealV
    exact List.take_left
  unfold unsealV
  rw [if_neg (by omega), ht, if_pos rfl]
theorem recR_app (A x r : List UInt8) (p : UInt8) (hx : x.length ≤ 65531) : recR (A ++ (recordV (p :: x) ++ r)) A.length 0 [p] = (some x, A.length + (recordV (p :: x)).length, 0) := by
  have hl := sealV_len (p :: x)
  rw [List.length_cons] at hl
  have ht := textR_app A (sealV (p :: x)) r 65536 (by omega) (by omega)
  unfold recR recordV
  rw [ht]
  simp only [unseal_seal, cutP_one]
  simp
theorem mkId_l (i : IdL) : mkId i.l = i := by rw [mkId_eq i.h]
theorem refR_app (A r : List UInt8) (x : RefL) (hx : x.name.length ≤ 32) : refR (A ++ (refB x ++ r)) A.length 0 = (x, A.length + (refB x).length, 0) := by
  have h1 := textR_app A x.name (x.id.l ++ r) 32 (by omega) (by omega)
  have h2 := idR_app (A ++ textL x.name) r x.id
  unfold refR refB
  rw [List.append_assoc, h1]
  simp only
  rw [List.append_assoc, List.length_append] at h2
  rw [h2]
  simp only [mkId_l, List.length_append, x.id.h, Nat.add_assoc]
def NamesOk (l : List RefL) : Prop := ∀ g, g < l.length → (l.getD g ref0).name.length ≤ 32
theorem tabB_split (t : List RefL) (g : Nat) (h : g < t.length) : tabB t = tabB (t.take g) ++ (refB (t.getD g ref0) ++ tabB (t.drop (g + 1))) := by
  conv => lhs; rw [← List.take_append_drop g t]
  unfold tabB
  rw [List.map_append, List.flatten_append, List.drop_eq_getElem_cons h, List.getD_eq_getElem?_getD, List.getElem?_eq_getElem h]
  rfl
theorem tabB_append (t : List RefL) (x : RefL) : tabB (t ++ [x]) = tabB t ++ refB x := by unfold tabB; simp
theorem refsR_app (A r : List UInt8) (t : List RefL) (ht : NamesOk t) : ∀ g, g ≤ t.length → refsR (A ++ (tabB t ++ r)) A.length 0 g = (t.take g, A.length + (tabB (t.take g)).length, 0)
  | 0, _ => by simp [refsR, tabB]
  | g + 1, hg => by
    have ih := refsR_app A r t ht g (by omega)
    have h1 := refR_app (A ++ tabB (t.take g)) (tabB (t.drop (g + 1)) ++ r) (t.getD g ref0) (ht g hg)
    have e : A ++ tabB (t.take g) ++ (refB (t.getD g ref0) ++ (tabB (t.drop (g + 1)) ++ r)) = A ++ (tabB t ++ r) := by
      rw [tabB_split t g hg]; simp only [List.append_assoc]
    rw [e, List.length_append] at h1
    unfold refsR
    rw [ih]
    simp only
    rw [h1, take_suc t g hg, tabB_append]
    simp only [List.length_append, Nat.add_assoc]
end Go.Proofs
open Go Go.Proofs Go.Sx Go.RefP
namespace Go.Proofs
set_option maxRecDepth 10000
set_option maxHeartbeats 4000000
theorem nameV_len {s : List UInt8} (h : nameV s = true) : s.length ≤ 32 := by
  unfold nameV at h
  simp only [Bool.and_eq_true, decide_eq_true_eq] at h
  exact h.1.2
/-- What a right book is. -/
theorem right_parts {t l : List RefL} (h : rightB t l = true) : t.length ≤ 16 ∧ l.length ≤ 100 ∧ NamesOk t ∧ (∀ g, g < l.length → nameV (l.getD g ref0).name = true) ∧ ∀ j, j ≤ l.length → rightB t (l.take j) = true := by
  unfold rightB rightM at h
  rw [Bool.and_eq_true, decide_eq_true_eq, prs_len] at h
  obtain ⟨ho, hl⟩ := h
  unfold ofM at ho
  rw [tabM_eq _ (Nat.le_refl _), prs_len] at ho
  by_cases hc : t.length ≤ 16 ∧ ∀ i, i < t.length → tabOk nameV z32 (prs t) i = true
  · rw [if_pos hc, Option.bind_some] at ho
    have hsome : ∀ j, j ≤ l.length → (logM nameV z32 (prs l) ((prs t).take t.length) j).isSome = true := by
      intro j hj
      cases hn : logM nameV z32 (prs l) ((prs t).take t.length) j with
      | some m => rfl
      | none => rw [logM_stop hn _ hj] at ho; cases ho
    refine ⟨hc.1, hl, fun g hg => ?_, fun g hg => ?_, fun j hj => ?_⟩
    · have := hc.2 g hg
      unfold tabOk at this
      rw [prs_getD t g hg] at this
      simp only [Bool.and_eq_true] at this
      exact nameV_len this.1.1
    · have h1 := hsome (g + 1) hg
      unfold logM at h1
      cases hn : logM nameV z32 (prs l) ((prs t).take t.length) g with
      | none => rw [hn] at h1; cases h1
      | some m =>
        rw [hn, Option.bind_some, prs_getD l g hg] at h1
        split at h1
        · rename_i hh
          rw [Bool.and_eq_true] at hh
          exact hh.1
        · cases h1
    · unfold rightB rightM
      rw [Bool.and_eq_true, decide_eq_true_eq, prs_len]
      have hlt : (l.take j).length = j := by simp; omega
      rw [hlt]
      refine ⟨?_, by omega⟩
      unfold ofM
      rw [tabM_eq _ (Nat.le_refl _), prs_len, if_pos hc, Option.bind_some, prs_take, logM_take j (Nat.le_refl _)]
      exact hsome j hj
  · rw [if_neg hc] at ho; cases ho
theorem headB_cons (t : List RefL) : headB t = 72 :: (numL (clampN t.length) ++ tabB t) := by unfold headB; simp
theorem entryB_cons (r : RefL) : entryB r = 69 :: refB r := by unfold entryB refB; simp
theorem endR_zero (s : List UInt8) (a : Nat) (h : s.length ≤ a) : endR s a 0 = 0 := by
  unfold endR
  rw [if_neg (by simp), if_neg (by omega)]
theorem headR_app (t : List RefL) (r : List UInt8) (h : rightB t [] = true) : headR (recordV (headB t) ++ r) = some (t, (recordV (headB t)).length) := by
  obtain ⟨h16, -, hnm, -, -⟩ := right_parts h
  have htl := tabB_len (t := t) (fun g hg => Nat.lt_of_le_of_lt (hnm g hg) (by omega)) t.length (Nat.le_refl _)
  rw [List.take_length] at htl
  have hnl := numL_clamp_len (t.length : Int)
  have hr := recR_app [] (numL (clampN t.length) ++ tabB t) r 72 (by rw [List.length_append]; omega)
  rw [List.nil_append, ← headB_cons] at hr
  simp only [List.length_nil, Nat.zero_add] at hr
  have h1 : (recR (recordV (headB t) ++ r) 0 0 [72]).1 = some (numL (clampN t.length) ++ tabB t) := by rw [hr]
  rw [head_some h1, hr]
  simp only
  have hn := numR_app [] (tabB t) t.length 16 (by omega) (by omega)
  rw [clampN_id (by omega)] at *
  simp only [List.nil_append, List.length_nil, Nat.zero_add] at hn
  have hrs := refsR_app (numL t.length) [] t hnm t.length (Nat.le_refl _)
  rw [List.append_nil, List.take_length] at hrs
  rw [hn]
  simp only [Int.toNat_natCast]
  rw [hrs]
  simp only
  rw [if_pos ⟨endR_zero _ _ (by rw [List.length_append]; omega), h⟩]
theorem nextR_app (tb log : List RefL) (A r : List UInt8) (x : RefL) (hx : x.name.length ≤ 32) :
    nextR (A ++ (recordV (entryB x) ++ r)) tb log A.length = if rightB tb (log ++ [x]) = true then some (log ++ [x], A.length + (recordV (entryB x)).length) else none := by
  have hrl := refB_len (r := x) (by omega)
  have hr := recR_app A (refB x) r 69 (by omega)
  rw [← entryB_cons] at hr
  have h1 : (recR (A ++ (recordV (entryB x) ++ r)) A.length 0 [69]).1 = some (refB x) := by rw [hr]
  rw [next_some h1, hr]
  have hf := refR_app [] [] x hx
  simp only [List.nil_append, List.append_nil, List.length_nil, Nat.zero_add] at hf
  rw [hf]
  simp only
  by_cases hb : rightB tb (log ++ [x]) = true
  · rw [if_pos ⟨endR_zero _ _ (Nat.le_refl _), hb⟩, if_pos hb]
  · rw [if_neg (fun h => hb h.2), if_neg hb]
theorem logB_split (l : List RefL) (g : Nat) (h : g < l.length) : logB l = logB (l.take g) ++ (recordV (entryB (l.getD g ref0)) ++ logB (l.drop (g + 1))) := by
  conv => lhs; rw [← List.take_append_drop g l]
  unfold logB
  rw [List.map_append, List.flatten_append, List.drop_eq_getElem_cons h, List.getD_eq_getElem?_getD, List.getElem?_eq_getElem h]
  rfl
/-- The entries that stand whole behind a head are read, one by one. -/
theorem logsR_app (tb l : List RefL) (A r : List UInt8) (hr : ∀ j, j ≤ l.length → rightB tb (l.take j) = true) (hn : ∀ g, g < l.length → (l.getD g ref0).name.length ≤ 32)
    (hstop : nextR (A ++ (logB l ++ r)) tb l (A.length + (logB l).length) = none) : ∀ (n g : Nat), g ≤ l.length → l.length - g < n →
    logsR (A ++ (logB l ++ r)) tb n (l.take g) (A.length + (logB (l.take g)).length) = (l, A.length + (logB l).length)
  | 0, g, _, h => by omega
  | n + 1, g, hg, h => by
    unfold logsR
    by_cases hlt : g < l.length
    · have h1 := nextR_app tb (l.take g) (A ++ logB (l.take g)) (logB (l.drop (g + 1)) ++ r) (l.getD g ref0) (hn g hlt)
      have e : A ++ logB (l.take g) ++ (recordV (entryB (l.getD g ref0)) ++ (logB (l.drop (g + 1)) ++ r)) = A ++ (logB l ++ r) := by
        rw [logB_split l g hlt]; simp only [List.append_assoc]
      rw [e, ← take_suc l g hlt, if_pos (hr (g + 1) hlt), List.length_append] at h1
      rw [h1]
      simp only
      have h2 := logsR_app tb l A r hr hn hstop n (g + 1) hlt (by omega)
      rw [logB_succ l g hlt, List.length_append, ← Nat.add_assoc] at h2
      exact h2
    · obtain rfl : g = l.length := by omega
      rw [List.take_length, hstop]
/-- What was written is read. -/
theorem bookR_app (tb l : List RefL) (r : List UInt8) (h : rightB tb l = true) (hstop : nextR (recordV (headB tb) ++ (logB l ++ r)) tb l ((recordV (headB tb)).length + (logB l).length) = none) :
    bookR (recordV (headB tb) ++ (logB l ++ r)) = some (tb, l, (recordV (headB tb)).length + (logB l).length) := by
  obtain ⟨-, hl, -, hnl, hpre⟩ := right_parts h
  have h0 := hpre 0 (Nat.zero_le _)
  rw [List.take_zero] at h0
  unfold bookR
  rw [headR_app tb _ h0, Option.map_some]
  have := logsR_app tb l (recordV (headB tb)) r hpre (fun g hg => nameV_len (hnl g hg)) hstop 101 0 (Nat.zero_le _) (by omega)
  rw [List.take_zero] at this
  simp only
  rw [show (recordV (headB tb)).length = (recordV (headB tb)).length + (logB ([] : List RefL)).length by simp [logB], this]
  simp [logB]
end Go.Proofs
open Go Go.Proofs Go.Sx Go.RefP
namespace Go.Proofs
set_option maxRecDepth 10000
set_option maxHeartbeats 4000000
/-! ### What is cut short is not read -/
theorem numGo_cut (most : Int) : ∀ (n j k acc : Nat), j < (numL n).length → ∃ x : Nat, numGo most ((numL n).take j) k acc = .error x ∧ x ≠ 0 := by
  intro n
  induction n using Nat.strongRecOn with
  | ind n ih =>
    intro j k acc hj
    cases j with
    | zero => exact ⟨3, by rw [List.take_zero]; rfl, by decide⟩
    | succ j =>
      by_cases h : n < 128
      · rw [numL_small h] at hj; simp at hj
      · have hb := numL_big h
        rw [hb] at hj ⊢
        rw [List.length_cons] at hj
        rw [List.take_succ_cons, numGo]
        have hc : (UInt8.ofNat (n % 128 + 128)).toNat = n % 128 + 128 := by rw [UInt8.toNat_ofNat']; omega
        rw [hc, if_pos (by omega)]
        by_cases h6 : k + 1 = 6
        · rw [if_pos h6]; exact ⟨4, rfl, by decide⟩
        · rw [if_neg h6]; exact ih (n / 128) (by omega) j (k + 1) _ (by omega)
theorem rawR_short {s : List UInt8} {a : Nat} {n : Int} (h0 : 0 ≤ n) (h : (s.length : Int) - a < n) : rawR s a 0 n = ([], a, 3) := by
  unfold rawR
  rw [if_neg (by simp), if_neg (by omega), if_pos h]
theorem textR_cut (A t : List UInt8) (most : Int) (j : Nat) (hn : t.length ≤ 1099511627775) (hm : (t.length : Int) ≤ most) (hj : j < (textL t).length) : (textR (A ++ (textL t).take j) A.length 0 most).2.2 ≠ 0 := by
  have ec : clampN t.length = t.length := clampN_id (by omega)
  unfold textL at hj ⊢
  rw [ec, List.length_append] at hj
  rw [ec]
  by_cases h : j < (numL t.length).length
  · rw [List.take_append_of_le_length (by omega)]
    obtain ⟨x, hx, h0⟩ := numGo_cut most t.length j 0 0 h
    have hr : numR (A ++ (numL t.length).take j) A.length 0 most = (0, A.length, (x : Int)) := numR_err rfl (by rw [drop_app]; exact hx)
    have hx0 : (x : Int) ≠ 0 := by omega
    unfold textR
    rw [hr]
    simp only
    unfold rawR
    rw [if_pos hx0, if_pos hx0]
    exact hx0
  · obtain ⟨i, rfl⟩ : ∃ i, j = (numL t.length).length + i := ⟨j - (numL t.length).length, by omega⟩
    rw [List.take_length_add_append]
    have h1 := numR_app A (t.take i) t.length most hn hm
    unfold textR
    rw [h1]
    simp only
    rw [rawR_short (by omega) (by simp only [List.length_append, List.length_take]; omega)]
    simp
theorem recR_cut (A x : List UInt8) (p : UInt8) (j : Nat) (hx : x.length ≤ 65531) (hj : j < (recordV (p :: x)).length) : (recR (A ++ (recordV (p :: x)).take j) A.length 0 [p]).1 = none := by
  have hl := sealV_len (p :: x)
  rw [List.length_cons] at hl
  have ht := textR_cut A (sealV (p :: x)) 65536 j (by omega) (by omega) hj
  unfold recR
  simp only
  unfold recordV
  rw [if_neg (fun h => ht h.2.2)]
theorem nextR_cut (tb log : List RefL) (A : List UInt8) (x : RefL) (j : Nat) (hx : x.name.length ≤ 32) (hj : j < (recordV (entryB x)).length) : nextR (A ++ (recordV (entryB x)).take j) tb log A.length = none := by
  have hrl := refB_len (r := x) (by omega)
  rw [entryB_cons] at hj ⊢
  exact next_none (recR_cut A (refB x) 69 j (by omega) hj)
theorem nextR_end (tb log : List RefL) (A : List UInt8) : nextR A tb log A.length = none := by
  have h := nextR_cut tb log A ref0 0 (by simp [ref0]) (by unfold recordV textL; rw [List.length_append]; have := numL_pos (clampN (sealV (entryB ref0)).length); omega)
  rw [List.take_zero, List.append_nil] at h
  exact h
theorem bookR_short (t : List RefL) (j : Nat) (h : rightB t [] = true) (hj : j < (recordV (headB t)).length) : bookR ((recordV (headB t)).take j) = none := by
  obtain ⟨h16, -, hnm, -, -⟩ := right_parts h
  have htl := tabB_len (t := t) (fun g hg => Nat.lt_of_le_of_lt (hnm g hg) (by omega)) t.length (Nat.le_refl _)
  rw [List.take_length] at htl
  have hnl := numL_clamp_len (t.length : Int)
  rw [headB_cons] at hj ⊢
  have := recR_cut [] (numL (clampN t.length) ++ tabB t) 72 j (by rw [List.length_append]; omega) hj
  rw [List.nil_append] at this
  exact head_none this
/-- A book's bytes. -/
def bytesB (t l : List RefL) : List UInt8 := recordV (headB t) ++ logB l
theorem bookR_bytes {t l : List RefL} (h : rightB t l = true) : bookR (bytesB t l) = some (t, l, (bytesB t l).length) := by
  have := bookR_app t l [] h (by
    rw [List.append_nil, ← List.length_append]; exact nextR_end t l _)
  rw [List.append_nil] at this
  unfold bytesB
  rw [this, List.length_append]
/-- Of a beginning: the entries that are whole there. -/
theorem bookR_cut {t l : List RefL} (h : rightB t l = true) (a k : Nat) (ha : a ≤ (bytesB t l).length) (hk : k ≤ l.length) (h1 : (recordV (headB t)).length + (logB (l.take k)).length ≤ a)
    (h2 : k = l.length ∨ a < (recordV (headB t)).length + (logB (l.take (k + 1))).length) :
    bookR ((bytesB t l).take a) = some (t, l.take k, (recordV (headB t)).length + (logB (l.take k)).length) := by
  obtain ⟨-, -, -, hnm, hpre⟩ := right_parts h
  have hbl : (bytesB t l).length = (recordV (headB t)).length + (logB l).length := by unfold bytesB; rw [List.length_append]
  by_cases hlt : k < l.length
  · have h3 := h2.resolve_left (by omega)
    rw [logB_succ l k hlt, List.length_append] at h3
    obtain ⟨j, rfl⟩ : ∃ j, a = (recordV (headB t) ++ logB (l.take k)).length + j := ⟨a - (recordV (headB t) ++ logB (l.take k)).length, by rw [List.length_append]; omega⟩
    rw [List.length_append] at h3
    have hj : j < (recordV (entryB (l.getD k ref0))).length := by omega
    have e : (bytesB t l).take ((recordV (headB t) ++ logB (l.take k)).length + j) = recordV (headB t) ++ (logB (l.take k) ++ (recordV (entryB (l.getD k ref0))).take j) := by
      unfold bytesB
      rw [logB_split l k hlt, ← List.append_assoc, List.take_length_add_append, List.take_append_of_le_length (by omega), List.append_assoc]
    rw [e]
    refine bookR_app t (l.take k) _ (hpre k hk) ?_
    have := nextR_cut t (l.take k) (recordV (headB t) ++ logB (l.take k)) (l.getD k ref0) j (nameV_len (hnm k hlt)) hj
    rw [List.append_assoc, List.length_append] at this
    exact this
  · obtain rfl : k = l.length := by omega
    rw [List.take_length] at h1 ⊢
    rw [← hbl]
    rw [List.take_of_length_le (by omega)]
    exact bookR_bytes h
end Go.Proofs
