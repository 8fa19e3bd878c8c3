/-
  Part 5 of the walk: contracts of the functions that the law reaches, and the calculus they stand on.
  No conditions.
-/
import Derived.Test.YteppologbikipaaDoorA4
import Derived.ProofKit
import Derived.OpenShut
import Derived.WideKeyArgs
import Derived.ChangeSame
import Derived.ChangeMaps5
import Derived.Lib.LaidTab
import Derived.SliceStrings
import Derived.DataReads
open Go Go.Proofs Go.Sx Go.RefP
namespace Go.Proofs
set_option maxRecDepth 10000
set_option maxHeartbeats 4000000
set_option linter.unusedSimpArgs false
/-- Is a book more than is looked at? -/
def LongN (l : List RefL) : Prop := ∃ g, g < l.length ∧ 100 < (l.getD g ref0).name.length
def GreatB (t l : List RefL) : Prop := 30 < t.length ∨ 110 < l.length ∨ LongN t ∨ LongN l
open Classical in
/-- The answer. -/
noncomputable def greatV (t l : List RefL) : Bool := decide (GreatB t l)
theorem great_yes {t l : List RefL} (h : GreatB t l) : greatV t l = true := by unfold greatV; simpa using h
theorem great_no {t l : List RefL} (h : ¬ GreatB t l) : greatV t l = false := by unfold greatV; simpa using h
theorem Great_spec (vt vl : Value) (t l : List RefL) (w : World) (ht : RefSl w vt t) (hl : RefSl w vl l) :
    Rets Tryd.prog 12 #[.agg #[vt, vl]] w (fun v D => v = .bool (greatV t l) ∧ D = []) := by
  obtain ⟨b1, o1, a1, E1, f1, h1⟩ := ht.row
  obtain ⟨b2, o2, a2, E2, f2, h2⟩ := hl.row
  refine Rets.enterV Tryd.func12 rfl (rs := [.tmp 2]) Tryd.results12 Tryd.ntmps12 ?_
  simp only [List.size_toArray, List.length_cons, List.length_nil, Nat.reduceAdd, Nat.reduceSub, List.replicate_succ, List.replicate_zero, List.cons_append, List.nil_append]
  repeat' first | with_reducible (first | refine Cw.seq ?_ | refine thenK_normal ?_ | refine Ow.nil ?_) | ((with_reducible refine Cw.region (Ow.run rfl fun k hk => ?_)); simp (disch := (first | omega | (simp only [lenS, lenT, UInt64.reduceToNat] ; try omega))) only [↓vcL_none, ↓vcB_box]; (with_reducible refine hk _ _ _ _ ?_); clear hk k) | with_reducible (first | refine Cw.block ?_ | refine Cw.skip ?_ | refine Cw.exit ?_ | refine Cw.ret ?_ | refine thenK_exit ?_ | refine thenK_ret ?_ | refine blockK_normal ?_ | refine blockK_ret ?_ | refine blockK_exit ?_ | refine blockK_pass rfl ?_) | ((with_reducible refine Cw.condC ?_); first | refine CwC.pt rfl (by omega) ?_ | refine CwC.pf rfl (by omega) ?_ | refine CwC.it rfl (by omega) ?_ | refine CwC.if rfl (by omega) ?_ | refine CwC.nt rfl (by omega) ?_ | refine CwC.nf rfl (by omega) ?_ | refine CwC.tt rfl ?_ | refine CwC.ff rfl ?_ | refine CwC.bt rfl (by assumption) ?_ | (refine CwC.bf rfl ?_ ?_; focus assumption))
  refine Ow.box rfl rfl fun bx hbx hwx => ?_
  simp only [ev_tmp, getF_0, getF_s, cells_agg, List.nil_append, List.cons_append]
  refine Ow.run rfl fun k hk => ?_
  simp (disch := (first | omega | (simp only [lenS, lenT, UInt64.reduceToNat] ; try omega))) only [↓vcL_none, ↓vcB_assign, ↓ov_some, putF_some, setF_s, setF_0, ↓ev_const, nf_cons, ↓vcL_nil, Md.next_seq]
  (with_reducible refine hk _ _ _ _ ?_); clear hk k
  by_cases c1 : 30 < t.length
  · have hd : decide ((30 : Int) < (t.length : Int)) = true := by simp; omega
    repeat' first | with_reducible (first | refine Cw.seq ?_ | refine thenK_normal ?_ | refine Ow.nil ?_) | ((with_reducible refine Cw.region (Ow.run rfl fun k hk => ?_)); simp (disch := (first | omega | (simp only [lenS, lenT, UInt64.reduceToNat] ; try omega))) only [↓vcL_none, ↓vcB_fieldAddr, Tryd.fl25_0, ↓ev_tmp, ↓getF_s, ↓getF_0, fieldAddr_p, Nat.add_zero, ↓ov_some, putF_some, setF_s, setF_0, nf_cons, ↓vcB_load, Md.next_seq, rd_seq_load, ↓ib_true, Tryd.ag23, loadAt_p, read_same, load_bk0, ↓vcB_len, Tryd.ix23, h1.len, ↓vcB_binOp, ↓ev_const, lit_i64, binX_vi_vi, bin_gtr_i, hd, ↓vcB_move, ↓vcL_some, yieldF_lit, ↓nthO_s, ↓nthO_0, yieldL_some, boolOf_b, some_beq, beq_false, Bool.not_true, ↓ib_false, ↓vcB_pick, pick_t, ↓vcL_nil, ↓vcB_assign]; (with_reducible refine hk _ _ _ _ ?_); clear hk k) | with_reducible (first | refine Cw.block ?_ | refine Cw.skip ?_ | refine Cw.exit ?_ | refine Cw.ret ?_ | refine thenK_exit ?_ | refine thenK_ret ?_ | refine blockK_normal ?_ | refine blockK_ret ?_ | refine blockK_exit ?_ | refine blockK_pass rfl ?_) | ((with_reducible refine Cw.condC ?_); first | refine CwC.pt rfl (by omega) ?_ | refine CwC.pf rfl (by omega) ?_ | refine CwC.it rfl (by omega) ?_ | refine CwC.if rfl (by omega) ?_ | refine CwC.nt rfl (by omega) ?_ | refine CwC.nf rfl (by omega) ?_ | refine CwC.tt rfl ?_ | refine CwC.ff rfl ?_ | refine CwC.bt rfl (by assumption) ?_ | (refine CwC.bf rfl ?_ ?_; focus assumption))
    refine ⟨_, (by simp (disch := (first | omega | (simp only [lenS, lenT, UInt64.reduceToNat] ; try omega))) only [resVs_cons, resV_tmp, ↓getF_s, ↓getF_0, resVs_nil, cons2_some]; rfl), ⟨hwx, trivial⟩, ?_⟩
    rw [great_yes (.inl c1)]; rfl
  by_cases c2 : 110 < l.length
  · have hd : decide ((30 : Int) < (t.length : Int)) = false := by simp; omega
    have hd2 : decide ((110 : Int) < (l.length : Int)) = true := by simp; omega
    repeat' first | with_reducible (first | refine Cw.seq ?_ | refine thenK_normal ?_ | refine Ow.nil ?_) | ((with_reducible refine Cw.region (Ow.run rfl fun k hk => ?_)); simp (disch := (first | omega | (simp only [lenS, lenT, UInt64.reduceToNat] ; try omega))) only [↓vcL_none, ↓vcB_fieldAddr, Tryd.fl25_0, ↓ev_tmp, ↓getF_s, ↓getF_0, fieldAddr_p, Nat.add_zero, ↓ov_some, putF_some, setF_s, setF_0, nf_cons, ↓vcB_load, Md.next_seq, rd_seq_load, ↓ib_true, Tryd.ag23, loadAt_p, read_same, load_bk0, ↓vcB_len, Tryd.ix23, h1.len, ↓vcB_binOp, ↓ev_const, lit_i64, binX_vi_vi, bin_gtr_i, hd, ↓vcB_move, ↓vcL_some, yieldF_lit, ↓nthO_s, ↓nthO_0, yieldL_some, boolOf_b, beq_self_eq_true, Tryd.fl25_1, Nat.zero_add, load_bk1, h2.len, hd2, ↓vcB_pick, pick_f, ↓vcL_nil, ↓vcB_assign]; (with_reducible refine hk _ _ _ _ ?_); clear hk k) | with_reducible (first | refine Cw.block ?_ | refine Cw.skip ?_ | refine Cw.exit ?_ | refine Cw.ret ?_ | refine thenK_exit ?_ | refine thenK_ret ?_ | refine blockK_normal ?_ | refine blockK_ret ?_ | refine blockK_exit ?_ | refine blockK_pass rfl ?_) | ((with_reducible refine Cw.condC ?_); first | refine CwC.pt rfl (by omega) ?_ | refine CwC.pf rfl (by omega) ?_ | refine CwC.it rfl (by omega) ?_ | refine CwC.if rfl (by omega) ?_ | refine CwC.nt rfl (by omega) ?_ | refine CwC.nf rfl (by omega) ?_ | refine CwC.tt rfl ?_ | refine CwC.ff rfl ?_ | refine CwC.bt rfl (by assumption) ?_ | (refine CwC.bf rfl ?_ ?_; focus assumption))
    refine ⟨_, (by simp (disch := (first | omega | (simp only [lenS, lenT, UInt64.reduceToNat] ; try omega))) only [resVs_cons, resV_tmp, ↓getF_s, ↓getF_0, resVs_nil, cons2_some]; rfl), ⟨hwx, trivial⟩, ?_⟩
    rw [great_yes (.inr (.inl c2))]; rfl
  have hd : decide ((30 : Int) < (t.length : Int)) = false := by simp; omega
  have hd2 : decide ((110 : Int) < (l.length : Int)) = false := by simp; omega
  repeat' first | with_reducible (first | refine Cw.seq ?_ | refine thenK_normal ?_ | refine Ow.nil ?_) | ((with_reducible refine Cw.region (Ow.run rfl fun k hk => ?_)); simp (disch := (first | omega | (simp only [lenS, lenT, UInt64.reduceToNat] ; try omega))) only [↓vcL_none, ↓vcB_fieldAddr, Tryd.fl25_0, ↓ev_tmp, ↓getF_s, ↓getF_0, fieldAddr_p, Nat.add_zero, ↓ov_some, putF_some, setF_s, setF_0, nf_cons, ↓vcB_load, Md.next_seq, rd_seq_load, ↓ib_true, Tryd.ag23, loadAt_p, read_same, load_bk0, ↓vcB_len, Tryd.ix23, h1.len, ↓vcB_binOp, ↓ev_const, lit_i64, binX_vi_vi, bin_gtr_i, hd, ↓vcB_move, ↓vcL_some, yieldF_lit, ↓nthO_s, ↓nthO_0, yieldL_some, boolOf_b, beq_self_eq_true, Tryd.fl25_1, Nat.zero_add, load_bk1, h2.len, hd2, ↓vcB_pick, pick_f, ↓vcL_nil, ↓vcB_assign]; (with_reducible refine hk _ _ _ _ ?_); clear hk k) | with_reducible (first | refine Cw.block ?_ | refine Cw.skip ?_ | refine Cw.exit ?_ | refine Cw.ret ?_ | refine thenK_exit ?_ | refine thenK_ret ?_ | refine blockK_normal ?_ | refine blockK_ret ?_ | refine blockK_exit ?_ | refine blockK_pass rfl ?_) | ((with_reducible refine Cw.condC ?_); first | refine CwC.pt rfl (by omega) ?_ | refine CwC.pf rfl (by omega) ?_ | refine CwC.it rfl (by omega) ?_ | refine CwC.if rfl (by omega) ?_ | refine CwC.nt rfl (by omega) ?_ | refine CwC.nf rfl (by omega) ?_ | refine CwC.tt rfl ?_ | refine CwC.ff rfl ?_ | refine CwC.bt rfl (by assumption) ?_ | (refine CwC.bf rfl ?_ ?_; focus assumption))
  refine Cw.loopG (G := Nat) [15, 16, 17, 18, 19, 22, 23, 24, 25, 26, 27, 28, 29, 2, 20, 21, 3] (fun g => [(3, vi g)]) (fun g => [(bx, .cells #[vt, vl] 25 (0, 0))]) (fun g => g ≤ t.length ∧ ∀ i, i < g → (t.getD i ref0).name.length ≤ 100) (fun g => t.length - g) 0 rfl rfl ?_ ?_
  · exact ⟨by omega, fun i hi => by omega⟩
  intro g j hg
  simp only [overFrom, pin, setF_0, setF_s, List.contains_cons, List.contains_nil, Nat.reduceBEq, Bool.or_false, Bool.false_or, Bool.or_true, Bool.true_or, Nat.reduceAdd, ↓reduceIte, Bool.false_eq_true]
  obtain ⟨hgL, hgood⟩ := hg
  by_cases hlt : g < t.length
  · have hb1 := h1.has (by omega)
    have hne : b1 ≠ bx := Nat.ne_of_lt (Nat.lt_of_lt_of_le (h1.lt (by omega)) hwx)
    have ld1 : ∀ n, loadV (some (false, n)) (some (.cells a1 E1 f1)) (o1 + g * 33) = some (vs (t.getD g ref0).name) := fun n => (h1.cell (j := 0) (n := n) hlt (by decide)).trans rfl
    by_cases hq : 100 < (t.getD g ref0).name.length
    · repeat' first | with_reducible (first | refine Cw.seq ?_ | refine thenK_normal ?_ | refine Ow.nil ?_) | ((with_reducible refine Cw.region (Ow.run rfl fun k hk => ?_)); simp (disch := (first | omega | (simp only [lenS, lenT, UInt64.reduceToNat] ; try omega))) only [↓vcL_none, ↓vcB_move, ↓ov_some, ↓ev_tmp, ↓getF_s, ↓getF_0, putF_some, setF_s, setF_0, nf_cons, ↓vcB_fieldAddr, Tryd.fl25_0, fieldAddr_p, Nat.add_zero, ↓vcB_load, Md.next_seq, rd_seq_load, ↓ib_true, Tryd.ag23, loadAt_p, read_same, load_bk0, ↓vcB_len, Tryd.ix23, h1.len, ↓vcB_binOp, binX_vi_vi, bin_lss_i, ↓vcL_nil, ↓vcB_indexAddr, ixI_vi, h1.idx, Tryd.fl42_0, Tryd.ag9, read_other, read_old, hb1, ld1, Tryd.ix9, len_str, ↓ev_const, lit_i64, bin_gtr_i, ↓vcB_assign]; (with_reducible refine hk _ _ _ _ ?_); clear hk k) | with_reducible (first | refine Cw.block ?_ | refine Cw.skip ?_ | refine Cw.exit ?_ | refine Cw.ret ?_ | refine thenK_exit ?_ | refine thenK_ret ?_ | refine blockK_normal ?_ | refine blockK_ret ?_ | refine blockK_exit ?_ | refine blockK_pass rfl ?_) | ((with_reducible refine Cw.condC ?_); first | refine CwC.pt rfl (by omega) ?_ | refine CwC.pf rfl (by omega) ?_ | refine CwC.it rfl (by omega) ?_ | refine CwC.if rfl (by omega) ?_ | refine CwC.nt rfl (by omega) ?_ | refine CwC.nf rfl (by omega) ?_ | refine CwC.tt rfl ?_ | refine CwC.ff rfl ?_ | refine CwC.bt rfl (by assumption) ?_ | (refine CwC.bf rfl ?_ ?_; focus assumption))
      refine ⟨_, (by simp (disch := (first | omega | (simp only [lenS, lenT, UInt64.reduceToNat] ; try omega))) only [resVs_cons, resV_tmp, ↓getF_s, ↓getF_0, resVs_nil, cons2_some]; rfl), ⟨hwx, trivial⟩, ?_⟩
      rw [great_yes (.inr (.inr (.inl ⟨g, hlt, hq⟩)))]; rfl
    · repeat' first | with_reducible (first | refine Cw.seq ?_ | refine thenK_normal ?_ | refine Ow.nil ?_) | ((with_reducible refine Cw.region (Ow.run rfl fun k hk => ?_)); simp (disch := (first | omega | (simp only [lenS, lenT, UInt64.reduceToNat] ; try omega))) only [↓vcL_none, ↓vcB_move, ↓ov_some, ↓ev_tmp, ↓getF_s, ↓getF_0, putF_some, setF_s, setF_0, nf_cons, ↓vcB_fieldAddr, Tryd.fl25_0, fieldAddr_p, Nat.add_zero, ↓vcB_load, Md.next_seq, rd_seq_load, ↓ib_true, Tryd.ag23, loadAt_p, read_same, load_bk0, ↓vcB_len, Tryd.ix23, h1.len, ↓vcB_binOp, binX_vi_vi, bin_lss_i, ↓vcL_nil, ↓vcB_indexAddr, ixI_vi, h1.idx, Tryd.fl42_0, Tryd.ag9, read_other, read_old, hb1, ld1, Tryd.ix9, len_str, ↓ev_const, lit_i64, bin_gtr_i, bin_add_i, ↓vcB_assign]; (with_reducible refine hk _ _ _ _ ?_); clear hk k) | with_reducible (first | refine Cw.block ?_ | refine Cw.skip ?_ | refine Cw.exit ?_ | refine Cw.ret ?_ | refine thenK_exit ?_ | refine thenK_ret ?_ | refine blockK_normal ?_ | refine blockK_ret ?_ | refine blockK_exit ?_ | refine blockK_pass rfl ?_) | ((with_reducible refine Cw.condC ?_); first | refine CwC.pt rfl (by omega) ?_ | refine CwC.pf rfl (by omega) ?_ | refine CwC.it rfl (by omega) ?_ | refine CwC.if rfl (by omega) ?_ | refine CwC.nt rfl (by omega) ?_ | refine CwC.nf rfl (by omega) ?_ | refine CwC.tt rfl ?_ | refine CwC.ff rfl ?_ | refine CwC.bt rfl (by assumption) ?_ | (refine CwC.bf rfl ?_ ?_; focus assumption))
      refine Again.mk (g + 1) (by omega) ⟨by omega, fun i hi => ?_⟩ rfl rfl
      by_cases hig : i = g
      · subst hig; omega
      · exact hgood i (by omega)
  · obtain rfl : g = t.length := by omega
    repeat' first | with_reducible (first | refine Cw.seq ?_ | refine thenK_normal ?_ | refine Ow.nil ?_) | ((with_reducible refine Cw.region (Ow.run rfl fun k hk => ?_)); simp (disch := (first | omega | (simp only [lenS, lenT, UInt64.reduceToNat] ; try omega))) only [↓vcL_none, ↓vcB_move, ↓ov_some, ↓ev_tmp, ↓getF_s, ↓getF_0, putF_some, setF_s, setF_0, nf_cons, ↓vcB_fieldAddr, Tryd.fl25_0, fieldAddr_p, Nat.add_zero, ↓vcB_load, Md.next_seq, rd_seq_load, ↓ib_true, Tryd.ag23, loadAt_p, read_same, load_bk0, ↓vcB_len, Tryd.ix23, h1.len, ↓vcB_binOp, binX_vi_vi, bin_lss_i, ↓vcL_nil, ↓vcB_assign, ↓ev_const, lit_i64]; (with_reducible refine hk _ _ _ _ ?_); clear hk k) | with_reducible (first | refine Cw.block ?_ | refine Cw.skip ?_ | refine Cw.exit ?_ | refine Cw.ret ?_ | refine thenK_exit ?_ | refine thenK_ret ?_ | refine blockK_normal ?_ | refine blockK_ret ?_ | refine blockK_exit ?_ | refine blockK_pass rfl ?_) | ((with_reducible refine Cw.condC ?_); first | refine CwC.pt rfl (by omega) ?_ | refine CwC.pf rfl (by omega) ?_ | refine CwC.it rfl (by omega) ?_ | refine CwC.if rfl (by omega) ?_ | refine CwC.nt rfl (by omega) ?_ | refine CwC.nf rfl (by omega) ?_ | refine CwC.tt rfl ?_ | refine CwC.ff rfl ?_ | refine CwC.bt rfl (by assumption) ?_ | (refine CwC.bf rfl ?_ ?_; focus assumption))
    refine Cw.loopG (G := Nat) [30, 31, 32, 33, 34, 37, 38, 39, 40, 41, 42, 43, 44, 2, 35, 36, 4] (fun g => [(4, vi g)]) (fun g => [(bx, .cells #[vt, vl] 25 (0, 0))]) (fun g => g ≤ l.length ∧ ∀ i, i < g → (l.getD i ref0).name.length ≤ 100) (fun g => l.length - g) 0 rfl rfl ?_ ?_
    · exact ⟨by omega, fun i hi => by omega⟩
    intro g j hg
    simp only [overFrom, pin, setF_0, setF_s, List.contains_cons, List.contains_nil, Nat.reduceBEq, Bool.or_false, Bool.false_or, Bool.or_true, Bool.true_or, Nat.reduceAdd, ↓reduceIte, Bool.false_eq_true]
    obtain ⟨hgL2, hgood2⟩ := hg
    by_cases hlt2 : g < l.length
    · have hb2 := h2.has (by omega)
      have hne : b2 ≠ bx := Nat.ne_of_lt (Nat.lt_of_lt_of_le (h2.lt (by omega)) hwx)
      have ld2 : ∀ n, loadV (some (false, n)) (some (.cells a2 E2 f2)) (o2 + g * 33) = some (vs (l.getD g ref0).name) := fun n => (h2.cell (j := 0) (n := n) hlt2 (by decide)).trans rfl
      by_cases hq : 100 < (l.getD g ref0).name.length
      · repeat' first | with_reducible (first | refine Cw.seq ?_ | refine thenK_normal ?_ | refine Ow.nil ?_) | ((with_reducible refine Cw.region (Ow.run rfl fun k hk => ?_)); simp (disch := (first | omega | (simp only [lenS, lenT, UInt64.reduceToNat] ; try omega))) only [↓vcL_none, ↓vcB_move, ↓ov_some, ↓ev_tmp, ↓getF_s, ↓getF_0, putF_some, setF_s, setF_0, nf_cons, ↓vcB_fieldAddr, Tryd.fl25_1, fieldAddr_p, Nat.zero_add, ↓vcB_load, Md.next_seq, rd_seq_load, ↓ib_true, Tryd.ag23, loadAt_p, read_same, load_bk1, ↓vcB_len, Tryd.ix23, h2.len, ↓vcB_binOp, binX_vi_vi, bin_lss_i, ↓vcL_nil, ↓vcB_indexAddr, ixI_vi, h2.idx, Tryd.fl42_0, Nat.add_zero, Tryd.ag9, read_other, read_old, hb2, ld2, Tryd.ix9, len_str, ↓ev_const, lit_i64, bin_gtr_i, ↓vcB_assign]; (with_reducible refine hk _ _ _ _ ?_); clear hk k) | with_reducible (first | refine Cw.block ?_ | refine Cw.skip ?_ | refine Cw.exit ?_ | refine Cw.ret ?_ | refine thenK_exit ?_ | refine thenK_ret ?_ | refine blockK_normal ?_ | refine blockK_ret ?_ | refine blockK_exit ?_ | refine blockK_pass rfl ?_) | ((with_reducible refine Cw.condC ?_); first | refine CwC.pt rfl (by omega) ?_ | refine CwC.pf rfl (by omega) ?_ | refine CwC.it rfl (by omega) ?_ | refine CwC.if rfl (by omega) ?_ | refine CwC.nt rfl (by omega) ?_ | refine CwC.nf rfl (by omega) ?_ | refine CwC.tt rfl ?_ | refine CwC.ff rfl ?_ | refine CwC.bt rfl (by assumption) ?_ | (refine CwC.bf rfl ?_ ?_; focus assumption))
        refine ⟨_, (by simp (disch := (first | omega | (simp only [lenS, lenT, UInt64.reduceToNat] ; try omega))) only [resVs_cons, resV_tmp, ↓getF_s, ↓getF_0, resVs_nil, cons2_some]; rfl), ⟨hwx, trivial⟩, ?_⟩
        rw [great_yes (.inr (.inr (.inr ⟨g, hlt2, hq⟩)))]; rfl
      · repeat' first | with_reducible (first | refine Cw.seq ?_ | refine thenK_normal ?_ | refine Ow.nil ?_) | ((with_reducible refine Cw.region (Ow.run rfl fun k hk => ?_)); simp (disch := (first | omega | (simp only [lenS, lenT, UInt64.reduceToNat] ; try omega))) only [↓vcL_none, ↓vcB_move, ↓ov_some, ↓ev_tmp, ↓getF_s, ↓getF_0, putF_some, setF_s, setF_0, nf_cons, ↓vcB_fieldAddr, Tryd.fl25_1, fieldAddr_p, Nat.zero_add, ↓vcB_load, Md.next_seq, rd_seq_load, ↓ib_true, Tryd.ag23, loadAt_p, read_same, load_bk1, ↓vcB_len, Tryd.ix23, h2.len, ↓vcB_binOp, binX_vi_vi, bin_lss_i, ↓vcL_nil, ↓vcB_indexAddr, ixI_vi, h2.idx, Tryd.fl42_0, Nat.add_zero, Tryd.ag9, read_other, read_old, hb2, ld2, Tryd.ix9, len_str, ↓ev_const, lit_i64, bin_gtr_i, bin_add_i, ↓vcB_assign]; (with_reducible refine hk _ _ _ _ ?_); clear hk k) | with_reducible (first | refine Cw.block ?_ | refine Cw.skip ?_ | refine Cw.exit ?_ | refine Cw.ret ?_ | refine thenK_exit ?_ | refine thenK_ret ?_ | refine blockK_normal ?_ | refine blockK_ret ?_ | refine blockK_exit ?_ | refine blockK_pass rfl ?_) | ((with_reducible refine Cw.condC ?_); first | refine CwC.pt rfl (by omega) ?_ | refine CwC.pf rfl (by omega) ?_ | refine CwC.it rfl (by omega) ?_ | refine CwC.if rfl (by omega) ?_ | refine CwC.nt rfl (by omega) ?_ | refine CwC.nf rfl (by omega) ?_ | refine CwC.tt rfl ?_ | refine CwC.ff rfl ?_ | refine CwC.bt rfl (by assumption) ?_ | (refine CwC.bf rfl ?_ ?_; focus assumption))
        refine Again.mk (g + 1) (by omega) ⟨by omega, fun i hi => ?_⟩ rfl rfl
        by_cases hig : i = g
        · subst hig; omega
        · exact hgood2 i (by omega)
    · obtain rfl : g = l.length := by omega
      repeat' first | with_reducible (first | refine Cw.seq ?_ | refine thenK_normal ?_ | refine Ow.nil ?_) | ((with_reducible refine Cw.region (Ow.run rfl fun k hk => ?_)); simp (disch := (first | omega | (simp only [lenS, lenT, UInt64.reduceToNat] ; try omega))) only [↓vcL_none, ↓vcB_move, ↓ov_some, ↓ev_tmp, ↓getF_s, ↓getF_0, putF_some, setF_s, setF_0, nf_cons, ↓vcB_fieldAddr, Tryd.fl25_1, fieldAddr_p, Nat.zero_add, ↓vcB_load, Md.next_seq, rd_seq_load, ↓ib_true, Tryd.ag23, loadAt_p, read_same, load_bk1, ↓vcB_len, Tryd.ix23, h2.len, ↓vcB_binOp, binX_vi_vi, bin_lss_i, ↓vcL_nil, ↓vcB_assign, ↓ev_const]; (with_reducible refine hk _ _ _ _ ?_); clear hk k) | with_reducible (first | refine Cw.block ?_ | refine Cw.skip ?_ | refine Cw.exit ?_ | refine Cw.ret ?_ | refine thenK_exit ?_ | refine thenK_ret ?_ | refine blockK_normal ?_ | refine blockK_ret ?_ | refine blockK_exit ?_ | refine blockK_pass rfl ?_) | ((with_reducible refine Cw.condC ?_); first | refine CwC.pt rfl (by omega) ?_ | refine CwC.pf rfl (by omega) ?_ | refine CwC.it rfl (by omega) ?_ | refine CwC.if rfl (by omega) ?_ | refine CwC.nt rfl (by omega) ?_ | refine CwC.nf rfl (by omega) ?_ | refine CwC.tt rfl ?_ | refine CwC.ff rfl ?_ | refine CwC.bt rfl (by assumption) ?_ | (refine CwC.bf rfl ?_ ?_; focus assumption))
      have hno : ¬ GreatB t l := by
        rintro (h | h | ⟨i, hi, h⟩ | ⟨i, hi, h⟩)
        · omega
        · omega
        · have := hgood i hi; omega
        · have := hgood2 i hi; omega
      refine ⟨_, (by simp (disch := (first | omega | (simp only [lenS, lenT, UInt64.reduceToNat] ; try omega))) only [resVs_cons, resV_tmp, ↓getF_s, ↓getF_0, resVs_nil, cons2_some]; rfl), ⟨hwx, trivial⟩, ?_⟩
      rw [great_no hno]; rfl
end Go.Proofs
open Go Go.Proofs Go.Sx Go.RefP
namespace Go.Proofs
set_option maxRecDepth 10000
set_option maxHeartbeats 4000000
set_option linter.unusedSimpArgs false
theorem bookB_eq (t l : List RefL) : bookB t l = bytesB t l := by unfold bookB bytesB; rfl
theorem great_parts {t l : List RefL} (h : greatV t l = false) : t.length ≤ 30 ∧ l.length ≤ 110 ∧ SmallN t ∧ SmallN l := by
  have hn : ¬ GreatB t l := fun hg => by rw [great_yes hg] at h; cases h
  refine ⟨?_, ?_, fun g hg => ?_, fun g hg => ?_⟩
  · exact Nat.le_of_not_lt fun h => hn (.inl h)
  · exact Nat.le_of_not_lt fun h => hn (.inr (.inl h))
  · have : ¬ 100 < (t.getD g ref0).name.length := fun h => hn (.inr (.inr (.inl ⟨g, hg, h⟩)))
    omega
  · have : ¬ 100 < (l.getD g ref0).name.length := fun h => hn (.inr (.inr (.inr ⟨g, hg, h⟩)))
    omega
theorem _root_.Go.Sx.SlV.cellE {α : Type} {m : Nat} {enc : α → List Value} {z : α} {w : World} {v : Value} {l : List α} (h : SlV m enc z w v l) : Value.oneCell' v = true ∧ v.cells = #[v] := by
  obtain ⟨b, off, c, arr, E, fz, -, -, ⟨rfl, -, -⟩ | ⟨rfl, -, -⟩⟩ := h
  · exact ⟨rfl, rfl⟩
  · exact ⟨rfl, rfl⟩
theorem cut_at (t l : List RefL) (a : Nat) (h : (recordV (headB t)).length ≤ a) : ∃ k, k ≤ l.length ∧ (recordV (headB t)).length + (logB (l.take k)).length ≤ a ∧ (k = l.length ∨ a < (recordV (headB t)).length + (logB (l.take (k + 1))).length) := by
  suffices hs : ∀ n, n ≤ l.length → (∃ k, k ≤ l.length ∧ (recordV (headB t)).length + (logB (l.take k)).length ≤ a ∧ (k = l.length ∨ a < (recordV (headB t)).length + (logB (l.take (k + 1))).length)) ∨ (recordV (headB t)).length + (logB (l.take n)).length ≤ a by
    rcases hs l.length (Nat.le_refl _) with h1 | h1
    · exact h1
    · exact ⟨l.length, Nat.le_refl _, h1, .inl rfl⟩
  intro n
  induction n with
  | zero => intro _; right; rw [List.take_zero]; simpa [logB] using h
  | succ n ih =>
    intro hn
    rcases ih (by omega) with h1 | h1
    · exact .inl h1
    · by_cases h2 : (recordV (headB t)).length + (logB (l.take (n + 1))).length ≤ a
      · exact .inr h2
      · exact .inl ⟨n, by omega, h1, .inr (by omega)⟩
theorem right_one {x : RefL} (h : nameV x.name = true) : rightB [] [x] = true := by
  unfold rightB rightM ofM prs
  simp only [List.map_nil, List.map_cons, List.length_nil, List.length_cons, tabM, Option.bind_some, logM, List.getD_cons_zero, h, Bool.true_and]
  have : (setM z32 (x.name, x.id.l) []).length ≤ 16 := by unfold setM; split <;> simp [updV, delV]
  simp [this]
theorem Add0_spec (vt vl : Value) (t l : List RefL) (nm : List UInt8) (id : IdL) (w : World) (hG : GlobC w) (ht : RefSl w vt t) (hl : RefSl w vl l) (htl : t.length < 1000) (hll : l.length < 1000) (hnt : ShortN t) (hnl : ShortN l) (hnm : nm.length < 1000000) :
    Rets Tryd.prog 14 #[.agg #[vt, vl], vs nm, .agg (a8 id.l)] w (XS w [] (AddS 0 t l nm id)) := Add_spec vt vl t l nm id w hG ht hl htl hll hnt hnl hnm
theorem _root_.Go.Sx.Cw.forgetS {P : Program} {w0 : World} {f : Fr} {L : Heap} {c : Code} {K : Kont} (M : Heap) (hnew : New w0.heap.size L) (hs : M.Sublist L) (h : Cw P w0 c f M K) : Cw P w0 c f L K := fun w hw =>
  Cw.forgetN M hnew (fun _ hp => hs.subset hp) ((hs.map Prod.fst).nodup hw.nodup) h w hw
theorem logB_mono (l : List RefL) {k : Nat} (hk : k ≤ l.length) {g : Nat} (h : g ≤ k) : (logB (l.take g)).length ≤ (logB (l.take k)).length := by
  induction k with
  | zero => rw [show g = 0 by omega]; exact Nat.le_refl _
  | succ k ih =>
    by_cases hg : g = k + 1
    · rw [hg]; exact Nat.le_refl _
    · have := ih (by omega) (by omega)
      rw [logB_succ l k (by omega), List.length_append]; omega
theorem readB_out {w : World} {L : Heap} {b : Nat} (h : b ∉ keys L) : readB w L b = w.heap[b]? := by
  have h0 := readB_appr (L := []) (w0 := w) h
  rw [List.append_nil] at h0
  rw [h0, readB_nil]
theorem ref_id (x : RefL) : (refC x).toArray.extract 1 (1 + 32) = a8 x.id.l := by
  apply Array.ext'
  rw [extract_getD]
  have := x.id.h
  simp only [refC, List.drop_succ_cons, List.drop_zero, a8]
  rw [List.take_of_length_le (by simp [this])]
  rfl
theorem bytes_len {t l : List RefL} (hnt : SmallN t) (hnl : SmallN l) (htl : t.length ≤ 30) (hll : l.length ≤ 110) : (bytesB t l).length < 1000000 := by
  have h1 := tabB_len hnt t.length (Nat.le_refl _)
  have h2 := logB_len hnl l.length (Nat.le_refl _)
  rw [List.take_length] at h1 h2
  have h3 := numL_clamp_len (t.length : Int)
  have h4 := sealV_len (headB t)
  have h5 := numL_clamp_len ((sealV (headB t)).length : Int)
  have h6 : (headB t).length = 1 + ((numL (clampN t.length)).length + (tabB t).length) := by rw [headB_cons, List.length_cons, List.length_append]; omega
  unfold bytesB recordV textL
  simp only [List.length_append]
  omega
theorem adds_one {n : Nat} {nm : List UInt8} {id : IdL} {v : Value} {D : Heap} (h : nameV nm = true) (hS : AddS n [] [] nm id v D) : ∃ vt vl, v = .tuple #[.agg #[vt, vl], vs (recordV (entryB ⟨nm, id⟩)), vi 0] ∧ GrI D 42 33 vt 0 [] ∧ GrI D 42 33 vl 1 (refC ⟨nm, id⟩) := by
  unfold AddS at hS
  rw [if_pos ⟨rfl, h⟩, List.nil_append, if_pos (right_one (x := ⟨nm, id⟩) h)] at hS
  simpa using hS
theorem RefsCut_spec (vt vl : Value) (t l : List RefL) (cut : UInt16) (w : World) (hG : GlobC w) (ht : RefSl w vt t) (hl : RefSl w vl l) :
    Rets Tryd.prog 4 #[.agg #[vt, vl], v16 cut] w (fun v D => v = .bool true ∧ D = []) := by
  have hglt : (3 : Nat) < w.heap.size := by obtain ⟨e, f, h⟩ := hG; exact (Array.getElem?_eq_some_iff.1 h).1
  obtain ⟨b2, o2, a2, E2, f2, h2⟩ := hl.row
  refine Rets.enterV Tryd.func4 rfl (rs := [.tmp 4]) Tryd.results4 Tryd.ntmps4 ?_
  simp only [List.size_toArray, List.length_cons, List.length_nil, Nat.reduceAdd, Nat.reduceSub, List.replicate_succ, List.replicate_zero, List.cons_append, List.nil_append]
  repeat' first | with_reducible (first | refine Cw.seq ?_ | refine thenK_normal ?_ | refine Ow.nil ?_) | ((with_reducible refine Cw.region (Ow.run rfl fun k hk => ?_)); simp (disch := (first | omega | (simp only [lenS, lenT, UInt64.reduceToNat] ; try omega))) only [↓vcL_none, ↓vcB_box]; (with_reducible refine hk _ _ _ _ ?_); clear hk k) | with_reducible (first | refine Cw.block ?_ | refine Cw.skip ?_ | refine Cw.exit ?_ | refine Cw.ret ?_ | refine thenK_exit ?_ | refine thenK_ret ?_ | refine blockK_normal ?_ | refine blockK_ret ?_ | refine blockK_exit ?_ | refine blockK_pass rfl ?_) | ((with_reducible refine Cw.condC ?_); first | refine CwC.pt rfl (by omega) ?_ | refine CwC.pf rfl (by omega) ?_ | refine CwC.it rfl (by omega) ?_ | refine CwC.if rfl (by omega) ?_ | refine CwC.nt rfl (by omega) ?_ | refine CwC.nf rfl (by omega) ?_ | refine CwC.tt rfl ?_ | refine CwC.ff rfl ?_ | refine CwC.bt rfl (by assumption) ?_ | (refine CwC.bf rfl ?_ ?_; focus assumption))
  refine Ow.box rfl rfl fun bx hbx hwx => ?_
  simp only [ev_tmp, getF_0, getF_s, cells_agg, List.nil_append, List.cons_append]
  refine Ow.run rfl fun k hk => ?_
  simp (disch := (first | omega | (simp only [lenS, lenT, UInt64.reduceToNat] ; try omega))) only [↓vcL_none, ↓vcB_assign, ↓ov_some, putF_some, setF_s, setF_0, ↓ev_const, nf_cons, ↓vcL_nil, Md.next_seq]
  (with_reducible refine hk _ _ _ _ ?_); clear hk k
  repeat' first | with_reducible (first | refine Cw.seq ?_ | refine thenK_normal ?_ | refine Ow.nil ?_) | ((with_reducible refine Cw.region (Ow.run rfl fun k hk => ?_)); simp (disch := (first | omega | (simp only [lenS, lenT, UInt64.reduceToNat] ; try omega))) only [↓vcL_none, ↓vcB_call]; (with_reducible refine hk _ _ _ _ ?_); clear hk k) | with_reducible (first | refine Cw.block ?_ | refine Cw.skip ?_ | refine Cw.exit ?_ | refine Cw.ret ?_ | refine thenK_exit ?_ | refine thenK_ret ?_ | refine blockK_normal ?_ | refine blockK_ret ?_ | refine blockK_exit ?_ | refine blockK_pass rfl ?_) | ((with_reducible refine Cw.condC ?_); first | refine CwC.pt rfl (by omega) ?_ | refine CwC.pf rfl (by omega) ?_ | refine CwC.it rfl (by omega) ?_ | refine CwC.if rfl (by omega) ?_ | refine CwC.nt rfl (by omega) ?_ | refine CwC.nf rfl (by omega) ?_ | refine CwC.tt rfl ?_ | refine CwC.ff rfl ?_ | refine CwC.bt rfl (by assumption) ?_ | (refine CwC.bf rfl ?_ ?_; focus assumption))
  refine Ow.callFV rfl Tryd.call8 (fun w' hw' => alive16_spec w' (GlobC.of hG hw' (New.not (L := [(bx, .cells #[vt, vl] 25 (0, 0))]) ⟨hwx, trivial⟩ hglt))) ?_
  refine Ow.run rfl fun k hk => ?_
  simp (disch := (first | omega | (simp only [lenS, lenT, UInt64.reduceToNat] ; try omega))) only [↓vcL_none, ↓vcB_unOp, ↓ev_tmp, putF_some, setF_s, setF_0, ↓getF_s, ↓getF_0, un_not, Bool.not_true, ↓ov_some, nf_cons, ↓vcL_nil, Md.next_seq]
  (with_reducible refine hk _ _ _ _ ?_); clear hk k
  repeat' first | with_reducible (first | refine Cw.seq ?_ | refine thenK_normal ?_ | refine Ow.nil ?_) | ((with_reducible refine Cw.region (Ow.run rfl fun k hk => ?_)); simp (disch := (first | omega | (simp only [lenS, lenT, UInt64.reduceToNat] ; try omega))) only [↓vcL_none, ↓vcB_load, rd_seq_load, ↓ib_true, Tryd.ag25, ↓ev_tmp, ↓getF_s, ↓getF_0, loadAt_p, read_same, load_bk, ↓ov_some, putF_some, setF_s, setF_0, nf_cons, ↓vcB_call, Md.next_seq]; (with_reducible refine hk _ _ _ _ ?_); clear hk k) | with_reducible (first | refine Cw.block ?_ | refine Cw.skip ?_ | refine Cw.exit ?_ | refine Cw.ret ?_ | refine thenK_exit ?_ | refine thenK_ret ?_ | refine blockK_normal ?_ | refine blockK_ret ?_ | refine blockK_exit ?_ | refine blockK_pass rfl ?_) | ((with_reducible refine Cw.condC ?_); first | refine CwC.pt rfl (by omega) ?_ | refine CwC.pf rfl (by omega) ?_ | refine CwC.it rfl (by omega) ?_ | refine CwC.if rfl (by omega) ?_ | refine CwC.nt rfl (by omega) ?_ | refine CwC.nf rfl (by omega) ?_ | refine CwC.tt rfl ?_ | refine CwC.ff rfl ?_ | refine CwC.bt rfl (by assumption) ?_ | (refine CwC.bf rfl ?_ ?_; focus assumption))
  refine Ow.callFV rfl Tryd.call12 (fun w' hw' => Great_spec vt vl t l w' (ht.oldN hw' ⟨hwx, trivial⟩) (hl.oldN hw' ⟨hwx, trivial⟩)) ?_
  cases hgr : greatV t l
  case true =>
    refine Ow.run rfl fun k hk => ?_
    simp (disch := (first | omega | (simp only [lenS, lenT, UInt64.reduceToNat] ; try omega))) only [↓vcL_nil, Md.next_seq, putF_some, setF_s, setF_0]
    (with_reducible refine hk _ _ _ _ ?_); clear hk k
    repeat' first | with_reducible (first | refine Cw.seq ?_ | refine thenK_normal ?_ | refine Ow.nil ?_) | ((with_reducible refine Cw.region (Ow.run rfl fun k hk => ?_)); simp (disch := (first | omega | (simp only [lenS, lenT, UInt64.reduceToNat] ; try omega))) only [↓vcL_none, ↓vcB_call]; (with_reducible refine hk _ _ _ _ ?_); clear hk k) | with_reducible (first | refine Cw.block ?_ | refine Cw.skip ?_ | refine Cw.exit ?_ | refine Cw.ret ?_ | refine thenK_exit ?_ | refine thenK_ret ?_ | refine blockK_normal ?_ | refine blockK_ret ?_ | refine blockK_exit ?_ | refine blockK_pass rfl ?_) | ((with_reducible refine Cw.condC ?_); first | refine CwC.pt rfl (by omega) ?_ | refine CwC.pf rfl (by omega) ?_ | refine CwC.it rfl (by omega) ?_ | refine CwC.if rfl (by omega) ?_ | refine CwC.nt rfl (by omega) ?_ | refine CwC.nf rfl (by omega) ?_ | refine CwC.tt rfl ?_ | refine CwC.ff rfl ?_ | refine CwC.bt rfl (by assumption) ?_ | (refine CwC.bf rfl ?_ ?_; focus assumption))
    refine Ow.callFV rfl Tryd.call8 (fun w' hw' => alive16_spec w' (GlobC.of hG hw' (New.not (L := [(bx, .cells #[vt, vl] 25 (0, 0))]) ⟨hwx, trivial⟩ hglt))) ?_
    refine Ow.run rfl fun k hk => ?_
    simp (disch := (first | omega | (simp only [lenS, lenT, UInt64.reduceToNat] ; try omega))) only [↓vcL_none, ↓vcB_assign, ↓ov_some, putF_some, setF_s, setF_0, ↓ev_tmp, ↓getF_s, ↓getF_0, nf_cons, ↓vcL_nil, Md.next_seq]
    (with_reducible refine hk _ _ _ _ ?_); clear hk k
    repeat' first | with_reducible (first | refine Cw.seq ?_ | refine thenK_normal ?_ | refine Ow.nil ?_) | ((with_reducible refine Cw.region (Ow.run rfl fun k hk => ?_)); simp (disch := (first | omega | (simp only [lenS, lenT, UInt64.reduceToNat] ; try omega))) only []; (with_reducible refine hk _ _ _ _ ?_); clear hk k) | with_reducible (first | refine Cw.block ?_ | refine Cw.skip ?_ | refine Cw.exit ?_ | refine Cw.ret ?_ | refine thenK_exit ?_ | refine thenK_ret ?_ | refine blockK_normal ?_ | refine blockK_ret ?_ | refine blockK_exit ?_ | refine blockK_pass rfl ?_) | ((with_reducible refine Cw.condC ?_); first | refine CwC.pt rfl (by omega) ?_ | refine CwC.pf rfl (by omega) ?_ | refine CwC.it rfl (by omega) ?_ | refine CwC.if rfl (by omega) ?_ | refine CwC.nt rfl (by omega) ?_ | refine CwC.nf rfl (by omega) ?_ | refine CwC.tt rfl ?_ | refine CwC.ff rfl ?_ | refine CwC.bt rfl (by assumption) ?_ | (refine CwC.bf rfl ?_ ?_; focus assumption))
    refine ⟨_, (by simp (disch := (first | omega | (simp only [lenS, lenT, UInt64.reduceToNat] ; try omega))) only [resVs_cons, resV_tmp, ↓getF_s, ↓getF_0, resVs_nil, cons2_some]; rfl), ⟨hwx, trivial⟩, ?_⟩
    rfl
  obtain ⟨htl, hll, hnt, hnl⟩ := great_parts hgr
  refine Ow.run rfl fun k hk => ?_
  simp (disch := (first | omega | (simp only [lenS, lenT, UInt64.reduceToNat] ; try omega))) only [↓vcL_nil, Md.next_seq, putF_some, setF_s, setF_0]
  (with_reducible refine hk _ _ _ _ ?_); clear hk k
  repeat' first | with_reducible (first | refine Cw.seq ?_ | refine thenK_normal ?_ | refine Ow.nil ?_) | ((with_reducible refine Cw.region (Ow.run rfl fun k hk => ?_)); simp (disch := (first | omega | (simp only [lenS, lenT, UInt64.reduceToNat] ; try omega))) only [↓vcL_none, ↓vcB_load, rd_seq_load, ↓ib_true, Tryd.ag25, ↓ev_tmp, ↓getF_s, ↓getF_0, loadAt_p, read_same, load_bk, ↓ov_some, putF_some, setF_s, setF_0, nf_cons, ↓vcB_call, Md.next_seq]; (with_reducible refine hk _ _ _ _ ?_); clear hk k) | with_reducible (first | refine Cw.block ?_ | refine Cw.skip ?_ | refine Cw.exit ?_ | refine Cw.ret ?_ | refine thenK_exit ?_ | refine thenK_ret ?_ | refine blockK_normal ?_ | refine blockK_ret ?_ | refine blockK_exit ?_ | refine blockK_pass rfl ?_) | ((with_reducible refine Cw.condC ?_); first | refine CwC.pt rfl (by omega) ?_ | refine CwC.pf rfl (by omega) ?_ | refine CwC.it rfl (by omega) ?_ | refine CwC.if rfl (by omega) ?_ | refine CwC.nt rfl (by omega) ?_ | refine CwC.nf rfl (by omega) ?_ | refine CwC.tt rfl ?_ | refine CwC.ff rfl ?_ | refine CwC.bt rfl (by assumption) ?_ | (refine CwC.bf rfl ?_ ?_; focus assumption))
  refine Ow.callFV rfl Tryd.call13 (fun w' hw' => Bytes_spec vt vl t l w' (GlobC.of hG hw' (New.not (L := [(bx, .cells #[vt, vl] 25 (0, 0))]) ⟨hwx, trivial⟩ hglt)) (ht.oldN hw' ⟨hwx, trivial⟩) (hl.oldN hw' ⟨hwx, trivial⟩) (by omega) (by omega) hnt hnl) ?_
  by_cases hrt : rightB t l = true
  case neg =>
    rw [if_neg hrt]
    have e1 : ((1 : Int) != 0) = true := rfl
    refine Ow.run rfl fun k hk => ?_
    simp (disch := (first | omega | (simp only [lenS, lenT, UInt64.reduceToNat] ; try omega))) only [↓vcL_none, ↓vcB_move, ↓ov_some, putF_some, setF_s, setF_0, ↓ev_tmp, ↓getF_s, ↓getF_0, nf_cons, ↓vcB_extract, extract_t, tup2_0, tup2_1, ↓vcB_assign, ↓vcL_nil, Md.next_seq]
    (with_reducible refine hk _ _ _ _ ?_); clear hk k
    repeat' first | with_reducible (first | refine Cw.seq ?_ | refine thenK_normal ?_ | refine Ow.nil ?_) | ((with_reducible refine Cw.region (Ow.run rfl fun k hk => ?_)); simp (disch := (first | omega | (simp only [lenS, lenT, UInt64.reduceToNat] ; try omega))) only [↓vcL_none, ↓vcB_move, ↓ov_some, ↓ev_tmp, ↓getF_s, ↓getF_0, putF_some, setF_s, setF_0, nf_cons, ↓vcB_binOp, ↓ev_const, lit_i64, binX_vi_vi, bin_neq_i, e1, ↓vcL_nil, Md.next_seq, ↓vcB_call]; (with_reducible refine hk _ _ _ _ ?_); clear hk k) | with_reducible (first | refine Cw.block ?_ | refine Cw.skip ?_ | refine Cw.exit ?_ | refine Cw.ret ?_ | refine thenK_exit ?_ | refine thenK_ret ?_ | refine blockK_normal ?_ | refine blockK_ret ?_ | refine blockK_exit ?_ | refine blockK_pass rfl ?_) | ((with_reducible refine Cw.condC ?_); first | refine CwC.pt rfl (by omega) ?_ | refine CwC.pf rfl (by omega) ?_ | refine CwC.it rfl (by omega) ?_ | refine CwC.if rfl (by omega) ?_ | refine CwC.nt rfl (by omega) ?_ | refine CwC.nf rfl (by omega) ?_ | refine CwC.tt rfl ?_ | refine CwC.ff rfl ?_ | refine CwC.bt rfl (by assumption) ?_ | (refine CwC.bf rfl ?_ ?_; focus assumption))
    refine Ow.callFV rfl Tryd.call8 (fun w' hw' => alive16_spec w' (GlobC.of hG hw' (New.not (L := [(bx, .cells #[vt, vl] 25 (0, 0))]) ⟨hwx, trivial⟩ hglt))) ?_
    refine Ow.run rfl fun k hk => ?_
    simp (disch := (first | omega | (simp only [lenS, lenT, UInt64.reduceToNat] ; try omega))) only [↓vcL_none, ↓vcB_assign, ↓ov_some, putF_some, setF_s, setF_0, ↓ev_tmp, ↓getF_s, ↓getF_0, nf_cons, ↓vcL_nil, Md.next_seq]
    (with_reducible refine hk _ _ _ _ ?_); clear hk k
    repeat' first | with_reducible (first | refine Cw.seq ?_ | refine thenK_normal ?_ | refine Ow.nil ?_) | ((with_reducible refine Cw.region (Ow.run rfl fun k hk => ?_)); simp (disch := (first | omega | (simp only [lenS, lenT, UInt64.reduceToNat] ; try omega))) only []; (with_reducible refine hk _ _ _ _ ?_); clear hk k) | with_reducible (first | refine Cw.block ?_ | refine Cw.skip ?_ | refine Cw.exit ?_ | refine Cw.ret ?_ | refine thenK_exit ?_ | refine thenK_ret ?_ | refine blockK_normal ?_ | refine blockK_ret ?_ | refine blockK_exit ?_ | refine blockK_pass rfl ?_) | ((with_reducible refine Cw.condC ?_); first | refine CwC.pt rfl (by omega) ?_ | refine CwC.pf rfl (by omega) ?_ | refine CwC.it rfl (by omega) ?_ | refine CwC.if rfl (by omega) ?_ | refine CwC.nt rfl (by omega) ?_ | refine CwC.nf rfl (by omega) ?_ | refine CwC.tt rfl ?_ | refine CwC.ff rfl ?_ | refine CwC.bt rfl (by assumption) ?_ | (refine CwC.bf rfl ?_ ?_; focus assumption))
    refine ⟨_, (by simp (disch := (first | omega | (simp only [lenS, lenT, UInt64.reduceToNat] ; try omega))) only [resVs_cons, resV_tmp, ↓getF_s, ↓getF_0, resVs_nil, cons2_some]; rfl), ⟨hwx, trivial⟩, ?_⟩
    rfl
  rw [if_pos hrt, bookB_eq]
  have hbk := bookR_bytes hrt
  obtain ⟨-, -, -, hnm, -⟩ := right_parts hrt
  have e0 : ((0 : Int) != 0) = false := rfl
  have hbl : (bytesB t l).length < 1000000 := bytes_len hnt hnl htl hll
  refine Ow.run rfl fun k hk => ?_
  simp (disch := (first | omega | (simp only [lenS, lenT, UInt64.reduceToNat] ; try omega))) only [↓vcL_none, ↓vcB_move, ↓ov_some, putF_some, setF_s, setF_0, ↓ev_tmp, ↓getF_s, ↓getF_0, nf_cons, ↓vcB_extract, extract_t, tup2_0, tup2_1, ↓vcB_assign, ↓vcL_nil, Md.next_seq]
  (with_reducible refine hk _ _ _ _ ?_); clear hk k
  repeat' first | with_reducible (first | refine Cw.seq ?_ | refine thenK_normal ?_ | refine Ow.nil ?_) | ((with_reducible refine Cw.region (Ow.run rfl fun k hk => ?_)); simp (disch := (first | omega | (simp only [lenS, lenT, UInt64.reduceToNat] ; try omega))) only [↓vcL_none, ↓vcB_move, ↓ov_some, ↓ev_tmp, ↓getF_s, ↓getF_0, putF_some, setF_s, setF_0, nf_cons, ↓vcB_binOp, ↓ev_const, lit_i64, binX_vi_vi, bin_neq_i, e0, ↓vcL_nil, Md.next_seq, ↓vcB_call]; (with_reducible refine hk _ _ _ _ ?_); clear hk k) | with_reducible (first | refine Cw.block ?_ | refine Cw.skip ?_ | refine Cw.exit ?_ | refine Cw.ret ?_ | refine thenK_exit ?_ | refine thenK_ret ?_ | refine blockK_normal ?_ | refine blockK_ret ?_ | refine blockK_exit ?_ | refine blockK_pass rfl ?_) | ((with_reducible refine Cw.condC ?_); first | refine CwC.pt rfl (by omega) ?_ | refine CwC.pf rfl (by omega) ?_ | refine CwC.it rfl (by omega) ?_ | refine CwC.if rfl (by omega) ?_ | refine CwC.nt rfl (by omega) ?_ | refine CwC.nf rfl (by omega) ?_ | refine CwC.tt rfl ?_ | refine CwC.ff rfl ?_ | refine CwC.bt rfl (by assumption) ?_ | (refine CwC.bf rfl ?_ ?_; focus assumption))
  refine Ow.callC rfl rfl Tryd.call9 (fun w' hw' => Read_spec (bytesB t l) w' (GlobC.of hG hw' (New.not (L := [(bx, .cells #[vt, vl] 25 (0, 0))]) ⟨hwx, trivial⟩ hglt)) (by omega)) (fun B1 v1 D1 hA1 hB1 hN1 hS1 => ?_)
  have hN1' := hN1.mono hB1
  unfold ReadS at hS1
  rw [hbk] at hS1
  obtain ⟨v1t, v1l, rfl, hGt, hGl⟩ := hS1
  have hst1 := store_bk (.slice none 0 0) (.slice none 0 0) v1t v1l 25 (gri_cell hGt).1 (gri_cell hGl).1
  refine Ow.run rfl fun k hk => ?_
  simp (disch := (first | omega | (simp only [lenS, lenT, UInt64.reduceToNat] ; try omega))) only [↓vcL_none, ↓vcB_move, ↓ov_some, putF_some, setF_s, setF_0, ↓ev_tmp, ↓getF_s, ↓getF_0, nf_cons, ↓vcB_extract, extract_t, tup3_0, tup3_1, tup3_2, ↓vcB_alloc, Md.next_seq, List.cons_append, List.nil_append]
  (with_reducible refine hk _ _ _ _ ?_); clear hk k
  refine Ow.alloc rfl rfl zrBk fun b7 hb7 hw7 => ?_
  simp only [cells_agg, List.nil_append, List.cons_append]
  have hx7 : bx < b7 := above_to hb7 (by simp [keys])
  refine Ow.permL (M := (bx, .cells #[vt, vl] 25 (0, 0)) :: (b7, .cells #[.slice none 0 0, .slice none 0 0] 25 (0, 0)) :: D1) (by classical exact List.perm_iff_count.2 fun a => by simp only [List.count_append, List.count_cons, List.count_nil] <;> omega) ?_
  have hn1 : (((bytesB t l).length : Int) != ((bytesB t l).length : Int)) = false := by simp
  have hNA : New w.heap.size ((bx, .cells #[vt, vl] 25 (0, 0)) :: (b7, .cells #[v1t, v1l] 25 (0, 0)) :: D1) := ⟨hwx, hw7, hN1'⟩
  refine Ow.run rfl fun k hk => ?_
  simp (disch := (first | omega | (simp only [lenS, lenT, UInt64.reduceToNat] ; try omega))) only [↓vcL_none, ↓vcB_store, Tryd.ag25, ↓ev_tmp, putF_some, setF_s, setF_0, ↓getF_s, ↓getF_0, storeAt_p, look_other, look_same, hst1, upd_some, setB_other, setB_same, oh_some, ↓vcB_assign, ↓ov_some, nf_cons, ↓vcL_nil, Md.next_seq, nh_cons]
  (with_reducible refine hk _ _ _ _ ?_); clear hk k
  repeat' first | with_reducible (first | refine Cw.seq ?_ | refine thenK_normal ?_ | refine Ow.nil ?_) | ((with_reducible refine Cw.region (Ow.run rfl fun k hk => ?_)); simp (disch := (first | omega | (simp only [lenS, lenT, UInt64.reduceToNat] ; try omega))) only [↓vcL_none, ↓vcB_move, ↓ov_some, ↓ev_tmp, ↓getF_s, ↓getF_0, putF_some, setF_s, setF_0, nf_cons, ↓vcB_binOp, ↓ev_const, lit_i64, binX_vi_vi, bin_neq_i, e0, ↓vcL_some, yieldF_lit, ↓nthO_s, ↓nthO_0, yieldL_some, boolOf_b, beq_self_eq_true, ↓ib_true, ↓vcB_len, Tryd.ix9, len_str, hn1, ↓vcB_pick, pick_f, ↓vcB_load, Md.next_seq, rd_seq_load, Tryd.ag25, loadAt_p, read_same, load_bk, read_other, ↓vcB_call]; (with_reducible refine hk _ _ _ _ ?_); clear hk k) | with_reducible (first | refine Cw.block ?_ | refine Cw.skip ?_ | refine Cw.exit ?_ | refine Cw.ret ?_ | refine thenK_exit ?_ | refine thenK_ret ?_ | refine blockK_normal ?_ | refine blockK_ret ?_ | refine blockK_exit ?_ | refine blockK_pass rfl ?_) | ((with_reducible refine Cw.condC ?_); first | refine CwC.pt rfl (by omega) ?_ | refine CwC.pf rfl (by omega) ?_ | refine CwC.it rfl (by omega) ?_ | refine CwC.if rfl (by omega) ?_ | refine CwC.nt rfl (by omega) ?_ | refine CwC.nf rfl (by omega) ?_ | refine CwC.tt rfl ?_ | refine CwC.ff rfl ?_ | refine CwC.bt rfl (by assumption) ?_ | (refine CwC.bf rfl ?_ ?_; focus assumption))
  refine Ow.callFV rfl Tryd.call11 (fun w' hw' => Same_spec vt vl v1t v1l t l t l w' (ht.oldN hw' hNA) (hl.oldN hw' hNA) (GrI.slV (hGt.mono (fun p hp => by simp [hp])) hw' rfl rfl refC_len) (GrI.slV (hGl.mono (fun p hp => by simp [hp])) hw' rfl rfl refC_len) (by omega) (by omega) (by omega) (by omega)) ?_
  rw [sameR_refl, sameR_refl, Bool.and_self]
  refine Ow.run rfl fun k hk => ?_
  simp (disch := (first | omega | (simp only [lenS, lenT, UInt64.reduceToNat] ; try omega))) only [↓vcL_some, lit_i64, putF_some, setF_s, setF_0, yieldF_lit, ↓nthO_s, ↓nthO_0, yieldL_some, ↓getF_s, ↓getF_0, boolOf_b, beq_self_eq_true, ↓ib_true, ↓vcB_unOp, ↓ev_tmp, un_not, Bool.not_true, ↓ov_some, nf_cons, ↓vcL_none, ↓vcB_pick, ↓ev_const, pick_f, ↓vcL_nil, Md.next_seq]
  (with_reducible refine hk _ _ _ _ ?_); clear hk k
  repeat' first | with_reducible (first | refine Cw.seq ?_ | refine thenK_normal ?_ | refine Ow.nil ?_) | ((with_reducible refine Cw.region (Ow.run rfl fun k hk => ?_)); simp (disch := (first | omega | (simp only [lenS, lenT, UInt64.reduceToNat] ; try omega))) only [↓vcL_none, ↓vcB_move, ↓ov_some, ↓ev_tmp, ↓getF_s, ↓getF_0, putF_some, setF_s, setF_0, nf_cons, ↓vcB_convert, Md.next_seq, rd_seq_convert, ↓ib_true, Tryd.cv33_3, conv_int, conv_u16_i64, lit_i64, ↓vcB_len, Tryd.ix9, len_str, ↓vcB_binOp, ↓ev_const, binX_vi_vi, bin_add_i, bin_rem_i, ↓vcB_assign, ↓vcL_nil, ↓vcB_fieldAddr, Tryd.fl25_0, fieldAddr_p, Nat.add_zero, ↓vcB_load, rd_seq_load, Tryd.ag23, loadAt_p, read_same, load_bk0, ↓vcB_build]; (with_reducible refine hk _ _ _ _ ?_); clear hk k) | with_reducible (first | refine Cw.block ?_ | refine Cw.skip ?_ | refine Cw.exit ?_ | refine Cw.ret ?_ | refine thenK_exit ?_ | refine thenK_ret ?_ | refine blockK_normal ?_ | refine blockK_ret ?_ | refine blockK_exit ?_ | refine blockK_pass rfl ?_) | ((with_reducible refine Cw.condC ?_); first | refine CwC.pt rfl (by omega) ?_ | refine CwC.pf rfl (by omega) ?_ | refine CwC.it rfl (by omega) ?_ | refine CwC.if rfl (by omega) ?_ | refine CwC.nt rfl (by omega) ?_ | refine CwC.nf rfl (by omega) ?_ | refine CwC.tt rfl ?_ | refine CwC.ff rfl ?_ | refine CwC.bt rfl (by assumption) ?_ | (refine CwC.bf rfl ?_ ?_; focus assumption))
  have hr0 : rightB t [] = true := by
    obtain ⟨-, -, -, -, hp⟩ := right_parts hrt
    have := hp 0 (Nat.zero_le _)
    rwa [List.take_zero] at this
  obtain ⟨a, hae, hal⟩ : ∃ a : Nat, ((cut.toNat : Int) % ((bytesB t l).length + 1)) = (a : Int) ∧ a ≤ (bytesB t l).length :=
    ⟨cut.toNat % ((bytesB t l).length + 1), by push_cast; rfl, by have := Nat.mod_lt cut.toNat (show 0 < (bytesB t l).length + 1 by omega); omega⟩
  rw [hae]
  refine Ow.build (.agg #[vt, .slice none 0 0]) rfl (build_bk1 vt ht.cellE.2) ?_
  refine Ow.run rfl fun k hk => ?_
  simp (disch := (first | omega | (simp only [lenS, lenT, UInt64.reduceToNat] ; try omega))) only [↓vcL_none, ↓vcB_call, Md.next_seq, putF_some, setF_s, setF_0]
  (with_reducible refine hk _ _ _ _ ?_); clear hk k
  refine Ow.callFV rfl Tryd.call13 (fun w' hw' => Bytes_spec vt (.slice none 0 0) t [] w' (GlobC.of hG hw' (New.not (L := (bx, .cells #[vt, vl] 25 (0, 0)) :: (b7, .cells #[v1t, v1l] 25 (0, 0)) :: D1) hNA hglt)) (ht.oldN hw' hNA) (SlV.nil w') (by omega) (by simp) hnt (fun g hg => by simp at hg)) ?_
  rw [if_pos hr0, bookB_eq]
  refine Ow.run rfl fun k hk => ?_
  simp (disch := (first | omega | (simp only [lenS, lenT, UInt64.reduceToNat] ; try omega))) only [↓vcL_none, ↓vcB_move, ↓ov_some, putF_some, setF_s, setF_0, ↓ev_tmp, ↓getF_s, ↓getF_0, nf_cons, ↓vcB_extract, extract_t, tup2_0, tup2_1, ↓vcB_assign, ↓vcL_nil, Md.next_seq]
  (with_reducible refine hk _ _ _ _ ?_); clear hk k
  repeat' first | with_reducible (first | refine Cw.seq ?_ | refine thenK_normal ?_ | refine Ow.nil ?_) | ((with_reducible refine Cw.region (Ow.run rfl fun k hk => ?_)); simp (disch := (first | omega | (simp only [lenS, lenT, UInt64.reduceToNat] ; try omega))) only [↓vcL_none, ↓vcB_move, ↓ov_some, ↓ev_tmp, ↓getF_s, ↓getF_0, putF_some, setF_s, setF_0, nf_cons, ↓vcB_slice, Tryd.ix9, Option.map_none, Option.map_some, ixI_vi, slice_str_hi, Int.toNat_natCast, ↓vcB_call, Md.next_seq]; (with_reducible refine hk _ _ _ _ ?_); clear hk k) | with_reducible (first | refine Cw.block ?_ | refine Cw.skip ?_ | refine Cw.exit ?_ | refine Cw.ret ?_ | refine thenK_exit ?_ | refine thenK_ret ?_ | refine blockK_normal ?_ | refine blockK_ret ?_ | refine blockK_exit ?_ | refine blockK_pass rfl ?_) | ((with_reducible refine Cw.condC ?_); first | refine CwC.pt rfl (by omega) ?_ | refine CwC.pf rfl (by omega) ?_ | refine CwC.it rfl (by omega) ?_ | refine CwC.if rfl (by omega) ?_ | refine CwC.nt rfl (by omega) ?_ | refine CwC.nf rfl (by omega) ?_ | refine CwC.tt rfl ?_ | refine CwC.ff rfl ?_ | refine CwC.bt rfl (by assumption) ?_ | (refine CwC.bf rfl ?_ ?_; focus assumption))
  have hta : ((bytesB t l).take a).length < 1000000 := by rw [List.length_take]; omega
  refine Ow.callC rfl rfl Tryd.call9 (fun w' hw' => Read_spec ((bytesB t l).take a) w' (GlobC.of hG hw' (New.not (L := (bx, .cells #[vt, vl] 25 (0, 0)) :: (b7, .cells #[v1t, v1l] 25 (0, 0)) :: D1) hNA hglt)) hta) (fun B2 v2 D2 hA2 hB2 hN2 hS2 => ?_)
  have hN2' := hN2.mono hB2
  have h72 : b7 < B2 := above_to hA2 (by simp [keys])
  unfold ReadS at hS2
  by_cases hsh : a < (bytesB t []).length
  · have hnone : bookR ((bytesB t l).take a) = none := by
      have e : bytesB t [] = recordV (headB t) := by unfold bytesB logB; simp
      rw [e] at hsh
      have := bookR_short t a hr0 hsh
      unfold bytesB
      rwa [List.take_append_of_le_length (by omega)]
    rw [hnone] at hS2
    simp only at hS2
    subst hS2
    refine Ow.run rfl fun k hk => ?_
    simp (disch := (first | omega | (simp only [lenS, lenT, UInt64.reduceToNat] ; try omega))) only [↓vcL_none, ↓vcB_move, ↓ov_some, putF_some, setF_s, setF_0, ↓ev_tmp, ↓getF_s, ↓getF_0, nf_cons, ↓vcB_extract, extract_t, tup3_0, tup3_1, tup3_2, ↓vcB_alloc, Md.next_seq, List.cons_append]
    (with_reducible refine hk _ _ _ _ ?_); clear hk k
    refine Ow.alloc rfl rfl zrBk fun b13 hb13 hw13 => ?_
    simp only [cells_agg, List.nil_append, List.cons_append]
    have hx13 : bx < b13 := above_to hb13 (by simp [keys])
    have h713 : b7 < b13 := above_to hb13 (by simp [keys])
    refine Ow.permL (M := (bx, .cells #[vt, vl] 25 (0, 0)) :: (b13, .cells #[.slice none 0 0, .slice none 0 0] 25 (0, 0)) :: (b7, .cells #[v1t, v1l] 25 (0, 0)) :: (D1 ++ D2)) (by classical exact List.perm_iff_count.2 fun a => by simp only [List.count_append, List.count_cons, List.count_nil] <;> omega) ?_
    have hNB : New w.heap.size ((bx, .cells #[vt, vl] 25 (0, 0)) :: (b13, .cells #[.slice none 0 0, .slice none 0 0] 25 (0, 0)) :: (b7, .cells #[v1t, v1l] 25 (0, 0)) :: (D1 ++ D2)) := ⟨hwx, hw13, hw7, hN1'.app hN2'⟩
    have hd : decide ((a : Int) < ((bytesB t []).length : Int)) = true := by simp; omega
    have e1 : ((2 : Int) == 2) = true := rfl
    have e2 : ((0 : Int) == 0) = true := rfl
    refine Ow.run rfl fun k hk => ?_
    simp (disch := (first | omega | (simp only [lenS, lenT, UInt64.reduceToNat] ; try omega))) only [↓vcL_none, ↓vcB_store, Tryd.ag25, ↓ev_tmp, putF_some, setF_s, setF_0, ↓getF_s, ↓getF_0, storeAt_p, look_other, look_same, store_bk0, upd_some, setB_other, setB_same, oh_some, ↓vcB_assign, ↓ov_some, nf_cons, ↓vcL_nil, Md.next_seq, nh_cons]
    (with_reducible refine hk _ _ _ _ ?_); clear hk k
    repeat' first | with_reducible (first | refine Cw.seq ?_ | refine thenK_normal ?_ | refine Ow.nil ?_) | ((with_reducible refine Cw.region (Ow.run rfl fun k hk => ?_)); simp (disch := (first | omega | (simp only [lenS, lenT, UInt64.reduceToNat] ; try omega))) only [↓vcL_none, ↓vcB_move, ↓ov_some, ↓ev_tmp, ↓getF_s, ↓getF_0, putF_some, setF_s, setF_0, nf_cons, ↓vcB_binOp, ↓ev_const, lit_i64, binX_vi_vi, bin_neq_i, e0, ↓vcL_some, yieldF_lit, ↓nthO_s, ↓nthO_0, yieldL_some, boolOf_b, beq_self_eq_true, ↓ib_true, ↓vcB_len, Tryd.ix9, len_str, bin_lss_i, hd, ↓vcB_pick, pick_f, ↓vcL_nil, Md.next_seq, ↓vcB_call]; (with_reducible refine hk _ _ _ _ ?_); clear hk k) | with_reducible (first | refine Cw.block ?_ | refine Cw.skip ?_ | refine Cw.exit ?_ | refine Cw.ret ?_ | refine thenK_exit ?_ | refine thenK_ret ?_ | refine blockK_normal ?_ | refine blockK_ret ?_ | refine blockK_exit ?_ | refine blockK_pass rfl ?_) | ((with_reducible refine Cw.condC ?_); first | refine CwC.pt rfl (by omega) ?_ | refine CwC.pf rfl (by omega) ?_ | refine CwC.it rfl (by omega) ?_ | refine CwC.if rfl (by omega) ?_ | refine CwC.nt rfl (by omega) ?_ | refine CwC.nf rfl (by omega) ?_ | refine CwC.tt rfl ?_ | refine CwC.ff rfl ?_ | refine CwC.bt rfl (by assumption) ?_ | (refine CwC.bf rfl ?_ ?_; focus assumption))
    refine Ow.callFV rfl Tryd.call8 (fun w' hw' => alive16_spec w' (GlobC.of hG hw' (New.not hNB hglt))) ?_
    refine Ow.run rfl fun k hk => ?_
    simp (disch := (first | omega | (simp only [lenS, lenT, UInt64.reduceToNat] ; try omega))) only [↓vcL_none, ↓vcB_move, ↓ov_some, putF_some, setF_s, setF_0, ↓ev_tmp, ↓getF_s, ↓getF_0, nf_cons, ↓vcL_some, lit_i64, yieldF_lit, ↓nthO_s, ↓nthO_0, yieldL_some, boolOf_b, beq_self_eq_true, ↓ib_true, ↓vcB_binOp, ↓ev_const, binX_vi_vi, bin_eql_i, ↓vcB_pick, pick_t, ↓vcB_load, Md.next_seq, rd_seq_load, Tryd.ag25, loadAt_p, read_other, read_same, load_bk, ↓vcB_build]
    (with_reducible refine hk _ _ _ _ ?_); clear hk k
    repeat' first | with_reducible (first | refine Cw.seq ?_ | refine thenK_normal ?_ | refine Ow.nil ?_) | ((with_reducible refine Cw.region (Ow.run rfl fun k hk => ?_)); simp (disch := (first | omega | (simp only [lenS, lenT, UInt64.reduceToNat] ; try omega))) only []; (with_reducible refine hk _ _ _ _ ?_); clear hk k) | with_reducible (first | refine Cw.block ?_ | refine Cw.skip ?_ | refine Cw.exit ?_ | refine Cw.ret ?_ | refine thenK_exit ?_ | refine thenK_ret ?_ | refine blockK_normal ?_ | refine blockK_ret ?_ | refine blockK_exit ?_ | refine blockK_pass rfl ?_) | ((with_reducible refine Cw.condC ?_); first | refine CwC.pt rfl (by omega) ?_ | refine CwC.pf rfl (by omega) ?_ | refine CwC.it rfl (by omega) ?_ | refine CwC.if rfl (by omega) ?_ | refine CwC.nt rfl (by omega) ?_ | refine CwC.nf rfl (by omega) ?_ | refine CwC.tt rfl ?_ | refine CwC.ff rfl ?_ | refine CwC.bt rfl (by assumption) ?_ | (refine CwC.bf rfl ?_ ?_; focus assumption))
    refine Ow.build (.agg #[.slice none 0 0, .slice none 0 0]) rfl (by kernel_rfl) ?_
    refine Ow.run rfl fun k hk => ?_
    simp (disch := (first | omega | (simp only [lenS, lenT, UInt64.reduceToNat] ; try omega))) only [↓vcL_some, lit_i64, putF_some, setF_s, setF_0, yieldF_lit, ↓nthO_s, ↓nthO_0, yieldL_some, ↓getF_s, ↓getF_0, boolOf_b, beq_self_eq_true, ↓ib_true, ↓vcB_call, Md.next_seq]
    (with_reducible refine hk _ _ _ _ ?_); clear hk k
    refine Ow.callFV rfl Tryd.call11 (fun w' hw' => Same_spec (.slice none 0 0) (.slice none 0 0) (.slice none 0 0) (.slice none 0 0) [] [] [] [] w' (SlV.nil w') (SlV.nil w') (SlV.nil w') (SlV.nil w') (by simp) (by simp) (by simp) (by simp)) ?_
    rw [sameR_refl, Bool.and_self]
    refine Ow.run rfl fun k hk => ?_
    simp (disch := (first | omega | (simp only [lenS, lenT, UInt64.reduceToNat] ; try omega))) only [↓vcL_none, ↓vcB_pick, ↓ev_tmp, putF_some, setF_s, setF_0, ↓getF_s, ↓getF_0, ↓ev_const, pick_t, ↓ov_some, nf_cons, ↓vcB_assign, ↓vcL_nil, Md.next_seq]
    (with_reducible refine hk _ _ _ _ ?_); clear hk k
    repeat' first | with_reducible (first | refine Cw.seq ?_ | refine thenK_normal ?_ | refine Ow.nil ?_) | ((with_reducible refine Cw.region (Ow.run rfl fun k hk => ?_)); simp (disch := (first | omega | (simp only [lenS, lenT, UInt64.reduceToNat] ; try omega))) only []; (with_reducible refine hk _ _ _ _ ?_); clear hk k) | with_reducible (first | refine Cw.block ?_ | refine Cw.skip ?_ | refine Cw.exit ?_ | refine Cw.ret ?_ | refine thenK_exit ?_ | refine thenK_ret ?_ | refine blockK_normal ?_ | refine blockK_ret ?_ | refine blockK_exit ?_ | refine blockK_pass rfl ?_) | ((with_reducible refine Cw.condC ?_); first | refine CwC.pt rfl (by omega) ?_ | refine CwC.pf rfl (by omega) ?_ | refine CwC.it rfl (by omega) ?_ | refine CwC.if rfl (by omega) ?_ | refine CwC.nt rfl (by omega) ?_ | refine CwC.nf rfl (by omega) ?_ | refine CwC.tt rfl ?_ | refine CwC.ff rfl ?_ | refine CwC.bt rfl (by assumption) ?_ | (refine CwC.bf rfl ?_ ?_; focus assumption))
    refine ⟨_, (by simp (disch := (first | omega | (simp only [lenS, lenT, UInt64.reduceToNat] ; try omega))) only [resVs_cons, resV_tmp, ↓getF_s, ↓getF_0, resVs_nil, cons2_some]; rfl), hNB, ?_⟩
    rfl
  · have hbl0 : (bytesB t []).length = (recordV (headB t)).length := by unfold bytesB logB; simp
    obtain ⟨k, hkl, hk1, hk2⟩ := cut_at t l a (by omega)
    have hcut := bookR_cut hrt a k hal hkl hk1 hk2
    rw [hcut] at hS2
    obtain ⟨v2t, v2l, rfl, hHt, hHl⟩ := hS2
    have hst2 := store_bk (.slice none 0 0) (.slice none 0 0) v2t v2l 25 (gri_cell hHt).1 (gri_cell hHl).1
    refine Ow.run rfl fun k hk => ?_
    simp (disch := (first | omega | (simp only [lenS, lenT, UInt64.reduceToNat] ; try omega))) only [↓vcL_none, ↓vcB_move, ↓ov_some, putF_some, setF_s, setF_0, ↓ev_tmp, ↓getF_s, ↓getF_0, nf_cons, ↓vcB_extract, extract_t, tup3_0, tup3_1, tup3_2, ↓vcB_alloc, Md.next_seq, List.cons_append]
    (with_reducible refine hk _ _ _ _ ?_); clear hk k
    refine Ow.alloc rfl rfl zrBk fun b13 hb13 hw13 => ?_
    simp only [cells_agg, List.nil_append, List.cons_append]
    have hx13 : bx < b13 := above_to hb13 (by simp [keys])
    have h713 : b7 < b13 := above_to hb13 (by simp [keys])
    refine Ow.permL (M := (bx, .cells #[vt, vl] 25 (0, 0)) :: (b13, .cells #[.slice none 0 0, .slice none 0 0] 25 (0, 0)) :: (b7, .cells #[v1t, v1l] 25 (0, 0)) :: (D1 ++ D2)) (by classical exact List.perm_iff_count.2 fun a => by simp only [List.count_append, List.count_cons, List.count_nil] <;> omega) ?_
    have hNB : New w.heap.size ((bx, .cells #[vt, vl] 25 (0, 0)) :: (b13, .cells #[v2t, v2l] 25 (0, 0)) :: (b7, .cells #[v1t, v1l] 25 (0, 0)) :: (D1 ++ D2)) := ⟨hwx, hw13, hw7, hN1'.app hN2'⟩
    have hd : decide ((a : Int) < ((bytesB t []).length : Int)) = false := by simp; omega
    refine Ow.run rfl fun k hk => ?_
    simp (disch := (first | omega | (simp only [lenS, lenT, UInt64.reduceToNat] ; try omega))) only [↓vcL_none, ↓vcB_store, Tryd.ag25, ↓ev_tmp, putF_some, setF_s, setF_0, ↓getF_s, ↓getF_0, storeAt_p, look_other, look_same, hst2, upd_some, setB_other, setB_same, oh_some, ↓vcB_assign, ↓ov_some, nf_cons, ↓vcL_nil, Md.next_seq, nh_cons]
    (with_reducible refine hk _ _ _ _ ?_); clear hk k
    repeat' first | with_reducible (first | refine Cw.seq ?_ | refine thenK_normal ?_ | refine Ow.nil ?_) | ((with_reducible refine Cw.region (Ow.run rfl fun k hk => ?_)); simp (disch := (first | omega | (simp only [lenS, lenT, UInt64.reduceToNat] ; try omega))) only [↓vcL_none, ↓vcB_move, ↓ov_some, ↓ev_tmp, ↓getF_s, ↓getF_0, putF_some, setF_s, setF_0, nf_cons, ↓vcB_binOp, ↓ev_const, lit_i64, binX_vi_vi, bin_neq_i, e0, ↓vcL_some, yieldF_lit, ↓nthO_s, ↓nthO_0, yieldL_some, boolOf_b, beq_self_eq_true, ↓ib_true, ↓vcB_len, Tryd.ix9, len_str, bin_lss_i, hd, ↓vcB_pick, pick_f, ↓vcL_nil, Md.next_seq, ↓vcB_assign]; (with_reducible refine hk _ _ _ _ ?_); clear hk k) | with_reducible (first | refine Cw.block ?_ | refine Cw.skip ?_ | refine Cw.exit ?_ | refine Cw.ret ?_ | refine thenK_exit ?_ | refine thenK_ret ?_ | refine blockK_normal ?_ | refine blockK_ret ?_ | refine blockK_exit ?_ | refine blockK_pass rfl ?_) | ((with_reducible refine Cw.condC ?_); first | refine CwC.pt rfl (by omega) ?_ | refine CwC.pf rfl (by omega) ?_ | refine CwC.it rfl (by omega) ?_ | refine CwC.if rfl (by omega) ?_ | refine CwC.nt rfl (by omega) ?_ | refine CwC.nf rfl (by omega) ?_ | refine CwC.tt rfl ?_ | refine CwC.ff rfl ?_ | refine CwC.bt rfl (by assumption) ?_ | (refine CwC.bf rfl ?_ ?_; focus assumption))
    rw [show (bytesB t []).length = (recordV (headB t)).length + (logB (l.take 0)).length by rw [hbl0]; simp [logB]]
    refine Cw.loopG (G := Nat) [100, 101, 102, 103, 104, 108, 109, 110, 111, 112, 113, 114, 115, 116, 117, 118, 119, 120, 121, 107, 122, 123, 124, 19, 20, 21, 125, 126, 127, 128, 129, 130, 131, 132, 133, 134, 17, 135, 136, 16, 105, 106, 18] (fun g => [(16, vi g), (17, vi ((recordV (headB t)).length + (logB (l.take g)).length : Nat)), (18, vi g)]) (fun g => ((bx, .cells #[vt, vl] 25 (0, 0)) :: (b13, .cells #[v2t, v2l] 25 (0, 0)) :: (b7, .cells #[v1t, v1l] 25 (0, 0)) :: (D1 ++ D2))) (fun g => g ≤ k) (fun g => l.length - g) 0 rfl rfl ?_ ?_
    · exact Nat.zero_le _
    intro g j hg
    simp only [overFrom, pin, setF_0, setF_s, List.contains_cons, List.contains_nil, Nat.reduceBEq, Bool.or_false, Bool.false_or, Bool.or_true, Bool.true_or, Nat.reduceAdd, ↓reduceIte, Bool.false_eq_true]
    by_cases hlt : g < l.length
    · have hb2 := h2.has (by omega)
      have ld2 : ∀ n, loadV (some (false, n)) (some (.cells a2 E2 f2)) (o2 + g * 33) = some (vs (l.getD g ref0).name) := fun n => (h2.cell (j := 0) (n := n) hlt (by decide)).trans rfl
      have ld3 : loadV (some (true, 32)) (some (.cells a2 E2 f2)) (o2 + g * 33 + 1) = some (.agg (a8 (l.getD g ref0).id.l)) := (h2.part refC_len (o := 1) (n := 32) hlt (by decide) (by decide)).trans (by rw [ref_id])
      have hrd2 : readB w ((bx, .cells #[vt, vl] 25 (0, 0)) :: (b13, .cells #[v2t, v2l] 25 (0, 0)) :: (b7, .cells #[v1t, v1l] 25 (0, 0)) :: (D1 ++ D2)) b2 = some (.cells a2 E2 f2) := by
        have h0 := readB_appr (L := []) (w0 := w) (hNB.not (h2.lt (by omega)))
        rw [List.append_nil] at h0
        rw [h0, readB_nil, hb2]
      repeat' first | with_reducible (first | refine Cw.seq ?_ | refine thenK_normal ?_ | refine Ow.nil ?_) | ((with_reducible refine Cw.region (Ow.run rfl fun k hk => ?_)); simp (disch := (first | omega | (simp only [lenS, lenT, UInt64.reduceToNat] ; try omega))) only [↓vcL_none, ↓vcB_move, ↓ov_some, ↓ev_tmp, ↓getF_s, ↓getF_0, putF_some, setF_s, setF_0, nf_cons, ↓vcB_fieldAddr, Tryd.fl25_1, fieldAddr_p, Nat.zero_add, ↓vcB_load, Md.next_seq, rd_seq_load, ↓ib_true, Tryd.ag23, loadAt_p, read_same, load_bk1, ↓vcB_len, Tryd.ix23, h2.len, ↓vcB_binOp, binX_vi_vi, bin_lss_i, ↓vcL_nil]; (with_reducible refine hk _ _ _ _ ?_); clear hk k) | with_reducible (first | refine Cw.block ?_ | refine Cw.skip ?_ | refine Cw.exit ?_ | refine Cw.ret ?_ | refine thenK_exit ?_ | refine thenK_ret ?_ | refine blockK_normal ?_ | refine blockK_ret ?_ | refine blockK_exit ?_ | refine blockK_pass rfl ?_) | ((with_reducible refine Cw.condC ?_); first | refine CwC.pt rfl (by omega) ?_ | refine CwC.pf rfl (by omega) ?_ | refine CwC.it rfl (by omega) ?_ | refine CwC.if rfl (by omega) ?_ | refine CwC.nt rfl (by omega) ?_ | refine CwC.nf rfl (by omega) ?_ | refine CwC.tt rfl ?_ | refine CwC.ff rfl ?_ | refine CwC.bt rfl (by assumption) ?_ | (refine CwC.bf rfl ?_ ?_; focus assumption))
      refine Cw.regionD [bx, b2] [19] 18 19 25 21 _ rfl (by kernel_rfl) (by kernel_rfl) rfl (by kernel_rfl) zrBk (fun hD => ?_)
      simp only [List.replicate_succ, List.replicate_zero]
      refine OwD.run [1, 2, 3, 4, 5, 6, 7, 8, 9, 10, 11, 12] [false, true, true, true, true, true, true, true, true, true, true, true, true, false, false, false, false, false, false, false, false, false] 9 rfl hD (by kernel_rfl) fun k hk => ?_
      simp only [nl_cons, ↓pickL_nil, ↓pickL_cons, ↓nthO_0, ↓nthO_s, consO_some]
      simp (disch := (first | omega | (simp only [lenS, lenT, UInt64.reduceToNat] ; try omega))) only [↓vcL_none, ↓vcB_fieldAddr, Tryd.fl25_1, ↓ev_tmp, ↓getF_s, ↓getF_0, fieldAddr_p, Nat.zero_add, ↓ov_some, putF_some, setF_s, setF_0, nf_cons, ↓vcB_load, Md.next_sofnil, ↓rd_sof_load, rdIn_p, List.contains_cons, beq_self_eq_true, List.contains_nil, Bool.or_false, Bool.true_or, ↓ib_true, Tryd.ag23, loadAt_p, read_same, load_bk1, ↓vcB_move, ↓vcB_indexAddr, Tryd.ix23, ixI_vi, h2.idx, Tryd.fl42_0, Nat.add_zero, Bool.or_true, Tryd.ag9, ↓hrd2, ld2, Tryd.fl42_1, Tryd.ag40, ld3, ↓vcL_nil]
      (with_reducible refine hk _ _ _ ?_); clear hk k
      refine OwD.soft 0 _ hD rfl (by kernel_rfl) (fun E hE => ?_)
      refine Ow.build (.agg #[.slice none 0 0, .slice none 0 0]) rfl (by kernel_rfl) ?_
      with_reducible refine Ow.nil ?_
      refine ⟨_, List.Perm.refl _, fun _ _ => rfl, ?_⟩
      simp only [List.set_cons_zero, List.set_cons_succ, putF_some, setF_0, setF_s]
      refine OwD.soft 13 _ hD rfl (by kernel_rfl) (fun E hE => ?_)
      have hEN : New w.heap.size E := newE hE
      refine Ow.callC rfl rfl Tryd.call14 (fun w' hw' => Add0_spec (.slice none 0 0) (.slice none 0 0) [] [] (l.getD g ref0).name (l.getD g ref0).id w' (GlobC.of hG hw' (New.not (hNB.app hEN) hglt)) (SlV.nil w') (SlV.nil w') (by simp) (by simp) (fun i hi => by simp at hi) (fun i hi => by simp at hi) (Nat.lt_trans (hnl g hlt) (by omega))) (fun B3 v3 D3 hA3 hB3 hN3 hS3 => ?_)
      have hN3' := hN3.mono hB3
      obtain ⟨v3t, v3l, rfl, hIt, hIl⟩ := adds_one (hnm g hlt) hS3
      have hst3 := store_bk (.slice none 0 0) (.slice none 0 0) v3t v3l 25 (gri_cell hIt).1 (gri_cell hIl).1
      with_reducible refine Ow.nil ?_
      refine ⟨_, perm_mid, fun r hr => ?_, ?_⟩
      · simp only [List.mem_cons, List.not_mem_nil, or_false] at hr
        rcases hr with rfl | rfl
        · exact readB_app (by simp [keys])
        · rw [readB_out ((hNB.app hN3').not (h2.lt (by omega))), readB_out (hNB.not (h2.lt (by omega)))]
      simp only [List.set_cons_zero, List.set_cons_succ, putF_some, setF_0, setF_s]
      refine OwD.run [14, 15, 16, 17] [true, true, true, true, true, true, true, true, true, true, true, true, true, true, true, true, true, true, false, false, false, false] 3 rfl hD (by kernel_rfl) fun k hk => ?_
      simp only [nl_cons, ↓pickL_nil, ↓pickL_cons, ↓nthO_0, ↓nthO_s, consO_some]
      simp (disch := (first | omega | (simp only [lenS, lenT, UInt64.reduceToNat] ; try omega))) only [↓vcL_none, ↓vcB_move, ↓ov_some, ↓ev_tmp, ↓getF_s, ↓getF_0, putF_some, setF_s, setF_0, nf_cons, ↓vcB_extract, extract_t, tup3_0, tup3_1, tup3_2, ↓vcL_nil, Md.next_sofnil, List.cons_append]
      (with_reducible refine hk _ _ _ ?_); clear hk k
      refine OwD.real [19, 20, 21] rfl hD (by kernel_rfl) (by kernel_rfl) (by kernel_rfl) (by kernel_rfl) (fun r hr => by simp only [List.mem_cons, List.not_mem_nil, or_false] at hr; rcases hr with rfl | rfl; exact .inl (by simp [keys]); exact .inr (h2.lt (by omega))) ?_
      simp only [nl_cons, ↓pickL_nil, ↓pickL_cons, ↓nthO_0, ↓nthO_s, consO_some]
      intro b19 hw19 hbL
      simp only [setF_0, setF_s]
      refine Ow.store rfl rfl rfl (L' := ((bx, .cells #[vt, vl] 25 (0, 0)) :: (b13, .cells #[v2t, v2l] 25 (0, 0)) :: (b7, .cells #[v1t, v1l] 25 (0, 0)) :: (D1 ++ D2 ++ D3)) ++ [(b19, .cells #[v3t, v3l] 25 (0, 0))]) ?_ ?_
      · simp only [ev_tmp, getF_0, getF_s]
        rw [Tryd.ag25, storeAt_p, look_app_r' hbL, cells_agg, hst3, upd_some, setB_app_r hbL]
        exact []
      refine Ow.run rfl fun k hk => ?_
      simp (disch := (first | omega | (simp only [lenS, lenT, UInt64.reduceToNat] ; try omega))) only [↓vcL_none, ↓vcB_assign, ↓ov_some, putF_none, ↓ev_tmp, ↓getF_s, ↓getF_0, putF_some, setF_s, setF_0, nf_cons, ↓vcL_nil, Md.next_any, List.cons_append]
      (with_reducible refine hk _ _ _ _ ?_); clear hk k
      with_reducible refine Ow.nil ?_
      with_reducible refine thenK_normal ?_
      refine Cw.forgetS ((bx, .cells #[vt, vl] 25 (0, 0)) :: (b13, .cells #[v2t, v2l] 25 (0, 0)) :: (b7, .cells #[v1t, v1l] 25 (0, 0)) :: (D1 ++ D2)) ?_ ?_ ?_
      · exact New.app (show New w.heap.size ((bx, .cells #[vt, vl] 25 (0, 0)) :: (b13, .cells #[v2t, v2l] 25 (0, 0)) :: (b7, .cells #[v1t, v1l] 25 (0, 0)) :: (D1 ++ D2 ++ D3)) from ⟨hwx, hw13, hw7, (hN1'.app hN2').app hN3'⟩) ⟨hw19, trivial⟩
      · exact List.Sublist.cons_cons _ (List.Sublist.cons_cons _ (List.Sublist.cons_cons _ ((List.sublist_append_left _ _).trans (List.sublist_append_left _ _))))
      have hre : (⟨(l.getD g ref0).name, (l.getD g ref0).id⟩ : RefL) = l.getD g ref0 := rfl
      rw [hre]
      have hrl := recE_len (hnl g hlt)
      have hgm := logB_mono l hkl hg
      have hsuc := logB_succ l g hlt
      have hsl := congrArg List.length hsuc
      rw [List.length_append] at hsl
      by_cases hgk : g = k
      · subst hgk
        have h3 := hk2.resolve_left (by omega)
        have hd2 : decide ((a : Int) < ((((recordV (headB t)).length + (logB (l.take g)).length : Nat) : Int) + ((recordV (entryB (l.getD g ref0))).length : Int))) = true := by
          rw [hsl] at h3
          simp only [decide_eq_true_eq]
          omega
        repeat' first | with_reducible (first | refine Cw.seq ?_ | refine thenK_normal ?_ | refine Ow.nil ?_) | ((with_reducible refine Cw.region (Ow.run rfl fun k hk => ?_)); simp (disch := (first | omega | (simp only [lenS, lenT, UInt64.reduceToNat] ; try omega))) only [↓vcL_none, ↓vcB_move, ↓ov_some, ↓ev_tmp, ↓getF_s, ↓getF_0, putF_some, setF_s, setF_0, nf_cons, ↓vcB_len, Tryd.ix9, len_str, ↓vcB_binOp, binX_vi_vi, bin_add_i, bin_gtr_i, hd2, ↓vcL_nil, Md.next_seq]; (with_reducible refine hk _ _ _ _ ?_); clear hk k) | with_reducible (first | refine Cw.block ?_ | refine Cw.skip ?_ | refine Cw.exit ?_ | refine Cw.ret ?_ | refine thenK_exit ?_ | refine thenK_ret ?_ | refine blockK_normal ?_ | refine blockK_ret ?_ | refine blockK_exit ?_ | refine blockK_pass rfl ?_) | ((with_reducible refine Cw.condC ?_); first | refine CwC.pt rfl (by omega) ?_ | refine CwC.pf rfl (by omega) ?_ | refine CwC.it rfl (by omega) ?_ | refine CwC.if rfl (by omega) ?_ | refine CwC.nt rfl (by omega) ?_ | refine CwC.nf rfl (by omega) ?_ | refine CwC.tt rfl ?_ | refine CwC.ff rfl ?_ | refine CwC.bt rfl (by assumption) ?_ | (refine CwC.bf rfl ?_ ?_; focus assumption))
        obtain ⟨vk, hsk, hRk, -⟩ := hl.take hkl true
        have hne0 : ((0 : Int) == 0) = true := rfl
        have heq : ((((recordV (headB t)).length + (logB (l.take g)).length : Nat) : Int) == (((recordV (headB t)).length + (logB (l.take g)).length : Nat) : Int)) = true := by simp
        refine Cw.regionS [bx, b13] [0, 1, 2, 3, 4, 5, 6, 7, 8, 9, 10, 12, 14, 16, 11, 13, 15, 17, 18, 19, 20, 21] [] (by kernel_rfl) (by kernel_rfl) (by kernel_rfl) ?_
        simp only [nl_cons, ↓pickL_nil, ↓pickL_cons, ↓nthO_0, ↓nthO_s, consO_some]
        refine Ow.soft rfl rfl rfl ?_
        refine Ow.callFV rfl Tryd.call8 (fun w' hw' => alive16_spec w' (GlobC.of hG hw' (New.not hNB hglt))) ?_
        with_reducible refine Ow.nil ?_
        refine ⟨by intro b hb; simp only [List.mem_cons, List.not_mem_nil, or_false] at hb; (try subst hb); rfl, ?_⟩
        refine Ow.runQ fun k hk => ?_
        simp (disch := (first | omega | (simp only [lenS, lenT, UInt64.reduceToNat] ; try omega))) only [↓vcL_none, ↓vcB_move, ↓ov_some, putF_some, setF_s, setF_0, ↓ev_tmp, ↓getF_s, ↓getF_0, nf_cons, ↓vcL_some, lit_i64, yieldF_lit, ↓nthO_s, ↓nthO_0, yieldL_some, boolOf_b, beq_self_eq_true, ↓ib_true, ↓vcB_binOp, ↓ev_const, binX_vi_vi, bin_eql_i, ↓vcB_pick, pick_t, ↓vcB_fieldAddr, Tryd.fl25_0, fieldAddr_p, Nat.add_zero, Tryd.fl25_1, Nat.zero_add, ↓vcB_load, Md.next_sof, List.contains_nil, Bool.false_eq_true, ↓reduceIte, ↓rd_sof_load, rdIn_p, List.contains_cons, Bool.or_false, Bool.or_true, Tryd.ag25, loadAt_p, read_other, read_same, load_bk, Bool.true_or, Tryd.ag23, load_bk0, load_bk1, ↓vcB_slice, Tryd.ix23, Option.map_none, Option.map_some, ixI_vi, ↓hsk, ↓vcB_build]
        (with_reducible refine hk _ _ _ _ ?_); clear hk k
        refine Ow.build (.agg #[vt, vk]) rfl (build_bk vt vk ht.cellE.2 hRk.cellE.2) ?_
        refine Ow.runQ fun k hk => ?_
        simp (disch := (first | omega | (simp only [lenS, lenT, UInt64.reduceToNat] ; try omega))) only [↓vcL_some, lit_i64, putF_some, setF_s, setF_0, yieldF_lit, ↓nthO_s, ↓nthO_0, yieldL_some, ↓getF_s, ↓getF_0, boolOf_b, beq_self_eq_true, ↓ib_true, ↓vcB_call, Md.next_sof, List.contains_nil, Bool.false_eq_true, ↓reduceIte]
        (with_reducible refine hk _ _ _ _ ?_); clear hk k
        refine Ow.soft rfl rfl rfl ?_
        refine Ow.callFV rfl Tryd.call11 (fun w' hw' => Same_spec v2t v2l vt vk t (l.take g) t (l.take g) w' (GrI.slV (hHt.mono (fun p hp => by simp [hp])) hw' rfl rfl refC_len) (GrI.slV (hHl.mono (fun p hp => by simp [hp])) hw' rfl rfl refC_len) (ht.oldN hw' hNB) (hRk.oldN hw' hNB) (by omega) (by rw [List.length_take]; omega) (by omega) (by rw [List.length_take]; omega)) ?_
        with_reducible refine Ow.nil ?_
        refine ⟨by intro b hb; simp only [List.mem_cons, List.not_mem_nil, or_false] at hb; (try subst hb); rfl, ?_⟩
        rw [sameR_refl, sameR_refl, Bool.and_self]
        refine Ow.runQ fun k hk => ?_
        simp (disch := (first | omega | (simp only [lenS, lenT, UInt64.reduceToNat] ; try omega))) only [↓vcL_none, ↓vcB_pick, ↓ev_tmp, putF_some, setF_s, setF_0, ↓getF_s, ↓getF_0, ↓ev_const, pick_t, ↓ov_some, nf_cons, ↓vcB_assign, ↓vcL_nil, Md.next_sof, List.contains_nil, Bool.false_eq_true, ↓reduceIte]
        (with_reducible refine hk _ _ _ _ ?_); clear hk k
        with_reducible refine Ow.nil ?_
        repeat' first | with_reducible (first | refine Cw.seq ?_ | refine thenK_normal ?_ | refine Ow.nil ?_) | ((with_reducible refine Cw.region (Ow.run rfl fun k hk => ?_)); simp (disch := (first | omega | (simp only [lenS, lenT, UInt64.reduceToNat] ; try omega))) only []; (with_reducible refine hk _ _ _ _ ?_); clear hk k) | with_reducible (first | refine Cw.block ?_ | refine Cw.skip ?_ | refine Cw.exit ?_ | refine Cw.ret ?_ | refine thenK_exit ?_ | refine thenK_ret ?_ | refine blockK_normal ?_ | refine blockK_ret ?_ | refine blockK_exit ?_ | refine blockK_pass rfl ?_) | ((with_reducible refine Cw.condC ?_); first | refine CwC.pt rfl (by omega) ?_ | refine CwC.pf rfl (by omega) ?_ | refine CwC.it rfl (by omega) ?_ | refine CwC.if rfl (by omega) ?_ | refine CwC.nt rfl (by omega) ?_ | refine CwC.nf rfl (by omega) ?_ | refine CwC.tt rfl ?_ | refine CwC.ff rfl ?_ | refine CwC.bt rfl (by assumption) ?_ | (refine CwC.bf rfl ?_ ?_; focus assumption))
        refine ⟨_, (by simp (disch := (first | omega | (simp only [lenS, lenT, UInt64.reduceToNat] ; try omega))) only [resVs_cons, resV_tmp, ↓getF_s, ↓getF_0, resVs_nil, cons2_some]; rfl), hNB, ?_⟩
        rfl
      · have hg1 := logB_mono l hkl (show g + 1 ≤ k by omega)
        have hd2 : decide ((a : Int) < ((((recordV (headB t)).length + (logB (l.take g)).length : Nat) : Int) + ((recordV (entryB (l.getD g ref0))).length : Int))) = false := by
          simp only [decide_eq_false_iff_not]
          omega
        have e17 : ((((recordV (headB t)).length + (logB (l.take g)).length : Nat) : Int) + ((recordV (entryB (l.getD g ref0))).length : Int)) = (((recordV (headB t)).length + (logB (l.take (g + 1))).length : Nat) : Int) := by rw [hsl]; push_cast; omega
        repeat' first | with_reducible (first | refine Cw.seq ?_ | refine thenK_normal ?_ | refine Ow.nil ?_) | ((with_reducible refine Cw.region (Ow.run rfl fun k hk => ?_)); simp (disch := (first | omega | (simp only [lenS, lenT, UInt64.reduceToNat] ; try omega))) only [↓vcL_none, ↓vcB_move, ↓ov_some, ↓ev_tmp, ↓getF_s, ↓getF_0, putF_some, setF_s, setF_0, nf_cons, ↓vcB_len, Tryd.ix9, len_str, ↓vcB_binOp, binX_vi_vi, bin_add_i, bin_gtr_i, hd2, ↓vcL_nil, Md.next_seq, ↓vcB_assign, ↓ev_const, lit_i64]; (with_reducible refine hk _ _ _ _ ?_); clear hk k) | with_reducible (first | refine Cw.block ?_ | refine Cw.skip ?_ | refine Cw.exit ?_ | refine Cw.ret ?_ | refine thenK_exit ?_ | refine thenK_ret ?_ | refine blockK_normal ?_ | refine blockK_ret ?_ | refine blockK_exit ?_ | refine blockK_pass rfl ?_) | ((with_reducible refine Cw.condC ?_); first | refine CwC.pt rfl (by omega) ?_ | refine CwC.pf rfl (by omega) ?_ | refine CwC.it rfl (by omega) ?_ | refine CwC.if rfl (by omega) ?_ | refine CwC.nt rfl (by omega) ?_ | refine CwC.nf rfl (by omega) ?_ | refine CwC.tt rfl ?_ | refine CwC.ff rfl ?_ | refine CwC.bt rfl (by assumption) ?_ | (refine CwC.bf rfl ?_ ?_; focus assumption))
        rw [e17]
        exact Again.mk (g + 1) (by omega) (show g + 1 ≤ k by omega) rfl rfl
    · obtain rfl : g = k := by omega
      repeat' first | with_reducible (first | refine Cw.seq ?_ | refine thenK_normal ?_ | refine Ow.nil ?_) | ((with_reducible refine Cw.region (Ow.run rfl fun k hk => ?_)); simp (disch := (first | omega | (simp only [lenS, lenT, UInt64.reduceToNat] ; try omega))) only [↓vcL_none, ↓vcB_move, ↓ov_some, ↓ev_tmp, ↓getF_s, ↓getF_0, putF_some, setF_s, setF_0, nf_cons, ↓vcB_fieldAddr, Tryd.fl25_1, fieldAddr_p, Nat.zero_add, ↓vcB_load, Md.next_seq, rd_seq_load, ↓ib_true, Tryd.ag23, loadAt_p, read_same, load_bk1, ↓vcB_len, Tryd.ix23, h2.len, ↓vcB_binOp, binX_vi_vi, bin_lss_i, ↓vcL_nil]; (with_reducible refine hk _ _ _ _ ?_); clear hk k) | with_reducible (first | refine Cw.block ?_ | refine Cw.skip ?_ | refine Cw.exit ?_ | refine Cw.ret ?_ | refine thenK_exit ?_ | refine thenK_ret ?_ | refine blockK_normal ?_ | refine blockK_ret ?_ | refine blockK_exit ?_ | refine blockK_pass rfl ?_) | ((with_reducible refine Cw.condC ?_); first | refine CwC.pt rfl (by omega) ?_ | refine CwC.pf rfl (by omega) ?_ | refine CwC.it rfl (by omega) ?_ | refine CwC.if rfl (by omega) ?_ | refine CwC.nt rfl (by omega) ?_ | refine CwC.nf rfl (by omega) ?_ | refine CwC.tt rfl ?_ | refine CwC.ff rfl ?_ | refine CwC.bt rfl (by assumption) ?_ | (refine CwC.bf rfl ?_ ?_; focus assumption))
      obtain ⟨vk, hsk, hRk, -⟩ := hl.take hkl true
      have hne0 : ((0 : Int) == 0) = true := rfl
      have heq : ((((recordV (headB t)).length + (logB (l.take g)).length : Nat) : Int) == (((recordV (headB t)).length + (logB (l.take g)).length : Nat) : Int)) = true := by simp
      refine Cw.regionS [bx, b13] [0, 1, 2, 3, 4, 5, 6, 7, 8, 9, 10, 12, 14, 16, 11, 13, 15, 17, 18, 19, 20, 21] [] (by kernel_rfl) (by kernel_rfl) (by kernel_rfl) ?_
      simp only [nl_cons, ↓pickL_nil, ↓pickL_cons, ↓nthO_0, ↓nthO_s, consO_some]
      refine Ow.soft rfl rfl rfl ?_
      refine Ow.callFV rfl Tryd.call8 (fun w' hw' => alive16_spec w' (GlobC.of hG hw' (New.not hNB hglt))) ?_
      with_reducible refine Ow.nil ?_
      refine ⟨by intro b hb; simp only [List.mem_cons, List.not_mem_nil, or_false] at hb; (try subst hb); rfl, ?_⟩
      refine Ow.runQ fun k hk => ?_
      simp (disch := (first | omega | (simp only [lenS, lenT, UInt64.reduceToNat] ; try omega))) only [↓vcL_none, ↓vcB_move, ↓ov_some, putF_some, setF_s, setF_0, ↓ev_tmp, ↓getF_s, ↓getF_0, nf_cons, ↓vcL_some, lit_i64, yieldF_lit, ↓nthO_s, ↓nthO_0, yieldL_some, boolOf_b, beq_self_eq_true, ↓ib_true, ↓vcB_binOp, ↓ev_const, binX_vi_vi, bin_eql_i, ↓vcB_pick, pick_t, ↓vcB_fieldAddr, Tryd.fl25_0, fieldAddr_p, Nat.add_zero, Tryd.fl25_1, Nat.zero_add, ↓vcB_load, Md.next_sof, List.contains_nil, Bool.false_eq_true, ↓reduceIte, ↓rd_sof_load, rdIn_p, List.contains_cons, Bool.or_false, Bool.or_true, Tryd.ag25, loadAt_p, read_other, read_same, load_bk, Bool.true_or, Tryd.ag23, load_bk0, load_bk1, ↓vcB_slice, Tryd.ix23, Option.map_none, Option.map_some, ixI_vi, ↓hsk, ↓vcB_build]
      (with_reducible refine hk _ _ _ _ ?_); clear hk k
      refine Ow.build (.agg #[vt, vk]) rfl (build_bk vt vk ht.cellE.2 hRk.cellE.2) ?_
      refine Ow.runQ fun k hk => ?_
      simp (disch := (first | omega | (simp only [lenS, lenT, UInt64.reduceToNat] ; try omega))) only [↓vcL_some, lit_i64, putF_some, setF_s, setF_0, yieldF_lit, ↓nthO_s, ↓nthO_0, yieldL_some, ↓getF_s, ↓getF_0, boolOf_b, beq_self_eq_true, ↓ib_true, ↓vcB_call, Md.next_sof, List.contains_nil, Bool.false_eq_true, ↓reduceIte]
      (with_reducible refine hk _ _ _ _ ?_); clear hk k
      refine Ow.soft rfl rfl rfl ?_
      refine Ow.callFV rfl Tryd.call11 (fun w' hw' => Same_spec v2t v2l vt vk t (l.take g) t (l.take g) w' (GrI.slV (hHt.mono (fun p hp => by simp [hp])) hw' rfl rfl refC_len) (GrI.slV (hHl.mono (fun p hp => by simp [hp])) hw' rfl rfl refC_len) (ht.oldN hw' hNB) (hRk.oldN hw' hNB) (by omega) (by rw [List.length_take]; omega) (by omega) (by rw [List.length_take]; omega)) ?_
      with_reducible refine Ow.nil ?_
      refine ⟨by intro b hb; simp only [List.mem_cons, List.not_mem_nil, or_false] at hb; (try subst hb); rfl, ?_⟩
      rw [sameR_refl, sameR_refl, Bool.and_self]
      refine Ow.runQ fun k hk => ?_
      simp (disch := (first | omega | (simp only [lenS, lenT, UInt64.reduceToNat] ; try omega))) only [↓vcL_none, ↓vcB_pick, ↓ev_tmp, putF_some, setF_s, setF_0, ↓getF_s, ↓getF_0, ↓ev_const, pick_t, ↓ov_some, nf_cons, ↓vcB_assign, ↓vcL_nil, Md.next_sof, List.contains_nil, Bool.false_eq_true, ↓reduceIte]
      (with_reducible refine hk _ _ _ _ ?_); clear hk k
      with_reducible refine Ow.nil ?_
      repeat' first | with_reducible (first | refine Cw.seq ?_ | refine thenK_normal ?_ | refine Ow.nil ?_) | ((with_reducible refine Cw.region (Ow.run rfl fun k hk => ?_)); simp (disch := (first | omega | (simp only [lenS, lenT, UInt64.reduceToNat] ; try omega))) only []; (with_reducible refine hk _ _ _ _ ?_); clear hk k) | with_reducible (first | refine Cw.block ?_ | refine Cw.skip ?_ | refine Cw.exit ?_ | refine Cw.ret ?_ | refine thenK_exit ?_ | refine thenK_ret ?_ | refine blockK_normal ?_ | refine blockK_ret ?_ | refine blockK_exit ?_ | refine blockK_pass rfl ?_) | ((with_reducible refine Cw.condC ?_); first | refine CwC.pt rfl (by omega) ?_ | refine CwC.pf rfl (by omega) ?_ | refine CwC.it rfl (by omega) ?_ | refine CwC.if rfl (by omega) ?_ | refine CwC.nt rfl (by omega) ?_ | refine CwC.nf rfl (by omega) ?_ | refine CwC.tt rfl ?_ | refine CwC.ff rfl ?_ | refine CwC.bt rfl (by assumption) ?_ | (refine CwC.bf rfl ?_ ?_; focus assumption))
      refine ⟨_, (by simp (disch := (first | omega | (simp only [lenS, lenT, UInt64.reduceToNat] ; try omega))) only [resVs_cons, resV_tmp, ↓getF_s, ↓getF_0, resVs_nil, cons2_some]; rfl), hNB, ?_⟩
      rfl
end Go.Proofs
namespace Go.Sx
open Go Go.ChangeShapes Go.WideShapes Go.RowKit

theorem Hp.same0 {W W' : World} (h : Hp W [] W') {b : Nat} (hb : b < W.heap.size) : W'.heap[b]? = W.heap[b]? := h.old b hb (fun hm => by cases hm)
theorem Hp.kept {W W' : World} (h : Hp W [] W') (may : MemPlace → Prop) : W.keptBut W' may := by
  refine ⟨h.os, h.output, fun i hi => ?_⟩
  rw [h.same0 hi]
  cases ho : W.heap[i]? with
  | none => rfl
  | some o =>
    cases o <;> first
      | exact ⟨rfl, rfl, rfl, fun _ _ => rfl⟩
      | exact .inr ⟨rfl, rfl⟩
      | rfl
theorem Hp.sameAt {W W' : World} (h : Hp W [] W') {p : MemPlace} (hp : p.block < W.heap.size) : W.sameAt W' p := by
  cases p with
  | cell b off =>
    have := h.same0 (b := b) hp
    simp only [World.sameAt, World.cell?, this]
  | map b => exact h.same0 hp
theorem Hp.frozen {W W' : World} (h : Hp W [] W') {a : Addr} (ha : a.block < W.heap.size) : W'.frozen? a = W.frozen? a := by
  simp only [World.frozen?, h.same0 ha]

section
variable {H : Type} {enc : TypeId × Value → H} {P : Program}
theorem trodAll_stays (hl : laidOutB P = true) {W W' : World} {sp : Nat → Bool} (hp : Hp W [] W') : ∀ {ts : List TypeId} {vs : List Value} {ds : List (DataW H)} {ps : List MemPlace},
    (∀ t ∈ ts, P.readableRec t = true ∧ t < P.types.size) → (∀ p ∈ ps, p.block < W.heap.size) → (∀ p ∈ ps, sp p.block = true) →
    DataW.TrodAll enc P W 0 (fun _ => true) true ts vs ds ps → DataW.TrodAll enc P W' 0 sp true ts vs ds ps
  | [], _, _, _, _, _, _, h => by
    obtain ⟨rfl, rfl, rfl⟩ := trodAll_nil h
    exact trodAll_mk0
  | t :: ts, _, _, _, ht, hlt, hs, h => by
    obtain ⟨v, vs, d, ds, p, q, rfl, rfl, rfl, h1, h2⟩ := trodAll_cons h
    have hlt1 : ∀ x ∈ p, x.block < W.heap.size := fun x hx => hlt x (List.mem_append_left _ hx)
    exact trodAll_cons_mk (WideElems.Trod_stays hl (ht t List.mem_cons_self).1 (ht t List.mem_cons_self).2 h1 (fun x hx => hp.sameAt (hlt1 x hx)) (fun x hx => hs x (List.mem_append_left _ hx)))
      (trodAll_stays hl hp (fun u hu => ht u (List.mem_cons_of_mem _ hu)) (fun x hx => hlt x (List.mem_append_right _ hx)) (fun x hx => hs x (List.mem_append_right _ hx)) h2)

/-- WHAT THE ROW OF A LAW ASKS, from 'it answers true and turns nothing that was there'. -/
theorem post_true {f : Func} {s : ChangeSpec} {W W' : World} {args : Array Value} {ds gs : List (DataW H)} {before : List MemPlace} {tb : TypeId} (hl : laidOutB P = true)
    (hW : DataW.Whole enc P f.params.toList s.vars false W args.toList ds gs before) (hv : s.vars = []) (hpar : ∀ t ∈ f.params.toList, P.readableRec t = true ∧ t < P.types.size)
    (hr : f.resultTypes = #[tb]) (htb : P.underlying tb = some .bool) (hfn : s.fn H ds = { results := [.lit (.bool true)], args := ds }) (hp : Hp W [] W') :
    s.post enc P f false true false false W args (.bool true) W' := by
  have hlt := hW.lt
  have hW0 := hW
  obtain ⟨p, q, hA, hV, rfl, hz, hn⟩ := hW
  rw [hv] at hV
  obtain ⟨rfl, rfl⟩ := trodVars_none hV
  rw [List.append_nil] at hW0 hlt hz
  have hargs : ∀ sp : Nat → Bool, (∀ x ∈ p, sp x.block = true) → DataW.TrodAll enc P W' 0 sp true f.params.toList args.toList (s.fn H (ds ++ [])).args p := fun sp hs => by
    rw [List.append_nil, hfn]
    exact trodAll_stays hl hp hpar hlt hs hA
  have hvars : ∀ sp : Nat → Bool, DataW.TrodVars enc P W' sp s.vars (s.fn H (ds ++ [])).vars [] := fun sp => by
    rw [List.append_nil, hfn, hv]; rfl
  have hres : ∀ (b : Nat) (sp : Nat → Bool) (hd : Bool), DataW.TrodAll enc P W' b sp hd f.resultTypes.toList ((Value.bool true).resultList f.resultTypes.size) (s.fn H (ds ++ [])).results [] := fun b sp hd => by
    rw [List.append_nil, hfn, hr]
    exact trodAll_cons_mk (shut_bool htb true) trodAll_mk0
  have hold : ∀ x ∈ p, (fun b => decide (b < W.heap.size)) x.block = true := fun x hx => by simpa using hlt x hx
  refine ⟨ds, [], p, [], p, [], hW0, hres _ _ _, hargs _ hold, hvars _, hp.kept _, fun _ => ?_⟩
  refine ⟨ok_one hr rfl (okWide_bool_mk htb true), _, _, ([] ++ p) ++ [], ⟨[] ++ p, [], trodAll_append (hargs _ (fun _ _ => rfl)) (hres _ _ _), hvars _, rfl, ?_, fun h => by cases h⟩, ?_⟩
  · intro b off hx
    have hx' : MemPlace.cell b off ∈ p := by simpa using hx
    rw [hp.frozen (hlt _ hx')]
    exact hz b off hx'
  · intro x hx _
    simpa using hx
end
section
variable {P : Program} {W : World} {name : String} {k : IntKind} {zs : List Int}
theorem tab_of_vars {t e : TypeId} {g n : Nat} (hg : P.globalNamed name = some g) (hty : (P.globals[g]?).map (·.type) = some t) (ht : P.underlying t = some (.array n e)) (he : P.underlying e = some (.int k)) (hce : P.cellsOf e = 1) (hct : P.cellsOf t = n) :
    ∀ {laid : List (String × DataW Unit)} {ps : List MemPlace}, DataW.LaidVars P W laid ps → (name, Lib.tabData k zs) ∈ laid → Lib.TabIs P W name k zs
  | [], _, _, hm => by cases hm
  | (n', d') :: rest, ps, h, hm => by
    obtain ⟨g', t', cs, fuel, p, q, hg', ht', hvar, hd, hr, -⟩ := h
    rcases List.mem_cons.1 hm with hm | hm
    · cases hm
      obtain rfl := Option.some.inj (hg.symm.trans hg')
      obtain rfl := Option.some.inj (hty.symm.trans ht')
      unfold Lib.TabIs
      rw [hvar, ← Lib.cells_of_tab ht he hce hct hd]
    · exact tab_of_vars hg hty ht he hce hct hr hm
theorem heap_of_tab {g : Nat} (hg : P.globalNamed name = some g) (h : Lib.TabIs P W name k zs) : ∃ e f, W.heap[g]? = some (.cells (zs.map fun z => Value.int k z).toArray e f) := by
  unfold Lib.TabIs at h
  simp only [World.var?, hg, Option.bind_some] at h
  split at h
  · rename_i cs e f hb
    cases h
    exact ⟨e, f, hb⟩
  · cases h
end
section
variable {H : Type} {enc : TypeId × Value → H} {P : Program}
end
end Go.Sx
namespace Go.Sx
open Go
section
variable {P : Program}
theorem rowAt_le {fits : TypeId → Bool} {d : Nat} {e : TypeId} {count off n : Nat} (h : rowAt P fits d e count off n = true) : off ≤ count * P.cellsOf e := by
  cases d with
  | zero => simp [rowAt] at h
  | succ d =>
    unfold rowAt at h
    simp only at h
    split at h
    · cases h
    · rename_i hs
      have hs' : 0 < P.cellsOf e := Nat.pos_of_ne_zero hs
      have hd := Nat.div_add_mod off (P.cellsOf e)
      have hm := Nat.mod_lt off hs'
      rw [Bool.or_eq_true] at h
      rcases h with h | h
      · simp only [Bool.and_eq_true, beq_iff_eq, decide_eq_true_eq] at h
        have : off / P.cellsOf e * P.cellsOf e ≤ count * P.cellsOf e := Nat.mul_le_mul_right _ (by omega)
        rw [Nat.mul_comm (P.cellsOf e)] at hd
        omega
      · simp only [Bool.and_eq_true, decide_eq_true_eq] at h
        have : (off / P.cellsOf e + 1) * P.cellsOf e ≤ count * P.cellsOf e := Nat.mul_le_mul_right _ (by omega)
        rw [Nat.add_mul, Nat.one_mul] at this
        rw [Nat.mul_comm (P.cellsOf e)] at hd
        omega
theorem liesAt_le {e : TypeId} {count off : Nat} : ∀ {d : Nat} {u : TypeId} {n : Nat}, liesAt P d e count off u n = true → off ≤ count * P.cellsOf e
  | 0, u, n, h => by simp [liesAt] at h
  | d + 1, u, n, h => by
    unfold liesAt at h
    rw [Bool.or_eq_true] at h
    rcases h with h | h
    · exact rowAt_le h
    · split at h
      · exact liesAt_le h
      · cases h
theorem has_le {W : World} {r : Reach} {base : Nat} {a : Addr} {e : TypeId} {n : Nat} (h : W.has P r base a e n) : a.spot = none ∧ ∃ arr E fz, W.heap[a.block]? = some (.cells arr E fz) ∧ a.off ≤ arr.size := by
  obtain ⟨-, hs, row, cells, hsh, hl⟩ := h
  refine ⟨hs, ?_⟩
  unfold World.shape? at hsh
  split at hsh
  · rename_i c el fz hh
    cases hsh
    refine ⟨c, _, fz, hh, Nat.le_trans (liesAt_le hl) ?_⟩
    exact Nat.div_mul_le_self _ _
  · cases hsh
theorem okWide_sl {W : World} {r : Reach} {base : Nat} {t e : TypeId} {v : Value} (ht : P.underlying t = some (.slice e)) (h : Value.okWide P W r base t v) :
    v = .slice none 0 0 ∨ ∃ b off len cap arr E fz, v = vsl b off len cap ∧ len ≤ cap ∧ W.heap[b]? = some (.cells arr E fz) ∧ off ≤ arr.size := by
  obtain ⟨a, len, cap, rfl⟩ := Go.WideShapes.okWide_slice ht h
  unfold Value.okWide at h
  rw [ht] at h
  unfold Cell.okWide at h
  rw [ht] at h
  simp only at h
  unfold Cell.ok at h
  rw [ht] at h
  cases a with
  | none =>
    left
    simp only at h
    split at h
    all_goals first | (cases h; done) | simp_all
  | some a =>
    right
    simp only at h
    obtain ⟨hle, -, hh⟩ := h
    obtain ⟨hs, arr, E, fz, hb, ho⟩ := has_le hh
    obtain ⟨b, off, sp⟩ := a
    simp only at hs
    subst hs
    exact ⟨b, off, len, cap, arr, E, fz, rfl, hle, hb, ho⟩
theorem slV_of {α : Type} {enc : α → List Value} {z : α} {m : Nat} {W : World} {base b off c : Nat} {l : List α} {arr : Array Value} {E : TypeId} {fz : Nat × Nat} (hm0 : 0 < m) (hm : ∀ x, (enc x).length = m)
    (hcells : ∀ i, i < l.length → W.cells? base ((Addr.mk b off none).add (i * m)) m = some (enc (l.getD i z))) (hheap : W.heap[b]? = some (.cells arr E fz)) (hoff : off ≤ arr.size) (hc : l.length ≤ c) : SlV m enc z W (vsl b off l.length c) l := by
  have get : ∀ k, k < l.length → ∀ j, j < m → arr[off + k * m + j]? = (enc (l.getD k z))[j]? := by
    intro k hk j hj
    obtain ⟨-, hl, hg⟩ := World.cells?_some (hcells k hk)
    have := hg j (by omega)
    rw [add_spot, add_spot] at this
    simp only [World.cell?, hheap, Option.isSome_none, Bool.false_eq_true, if_false] at this
    exact this
  refine SlV.sl hheap get hc ?_
  by_cases h0 : l.length = 0
  · rw [h0]; omega
  · have h1 := get (l.length - 1) (by omega) (m - 1) (by omega)
    rw [List.getElem?_eq_getElem (by rw [hm]; omega)] at h1
    have h2 := (Array.getElem?_eq_some_iff.1 h1).1
    have h3 : (l.length - 1) * m + m = l.length * m := by
      rw [← Nat.succ_mul]; congr 1; omega
    omega
/-- An argument's row that is a slice of elements, each of which is told as one of some kind. -/
theorem open_slS {H : Type} {tell : TypeId × Value → H} {α : Type} {enc : α → List Value} {z : α} {m : Nat} {W : World} {r : Reach} {base b0 : Nat} {sp : Nat → Bool} {held : Bool} {fuel : Nat} {t e : TypeId} {v : Value} {x : DataW H × List MemPlace}
    (ht : P.underlying t = some (.slice e)) (he : P.cellsOf e = m) (hm0 : 0 < m) (hm : ∀ x, (enc x).length = m) (hval : Value.okWide P W r b0 t v)
    (hdec : ∀ n cs y, DataW.trod tell P W base sp held n e cs = some y → ∃ a, cs = enc a) (hd : DataW.trod tell P W base sp held fuel t [v] = some x) : ∃ l, SlV m enc z W v l := by
  rcases DataW.trod_slice ht hd with ⟨hcs, -⟩ | ⟨a, len, cap, elems, rest, n, -, hcs, -, -, hl, -, hlen, hel, -, -⟩
  · simp only [List.cons.injEq, and_true] at hcs
    subst hcs
    exact ⟨[], SlV.nil W⟩
  · simp only [List.cons.injEq, and_true] at hcs
    subst hcs
    rcases okWide_sl ht hval with h0 | ⟨b, off, len', cap', arr, E, fz, h1, -, hb, ho⟩
    · cases h0
    · unfold vsl at h1
      cases h1
      rw [he] at hel
      have hex : ∀ i, i < len → ∃ q, W.cells? base ((Addr.mk b off none).add (i * m)) m = some (enc q) := by
        intro i hi
        have h2 := hel i hi
        rw [List.getElem?_eq_getElem (by omega)] at h2
        cases hc : W.cells? base ((Addr.mk b off none).add (i * m)) m with
        | none => rw [hc] at h2; cases h2
        | some cs =>
          rw [hc] at h2
          obtain ⟨q, rfl⟩ := hdec _ _ _ h2
          exact ⟨q, rfl⟩
      obtain ⟨f, hf⟩ : ∃ f : Nat → α, ∀ i, i < len → W.cells? base ((Addr.mk b off none).add (i * m)) m = some (enc (f i)) := by
        classical
        refine ⟨fun i => if h : i < len then Classical.choose (hex i h) else z, fun i hi => ?_⟩
        simp only [dif_pos hi]
        exact Classical.choose_spec (hex i hi)
      have hll : ((List.range len).map f).length = len := by simp
      refine ⟨(List.range len).map f, ?_⟩
      have := slV_of (W := W) (base := base) (b := b) (off := off) (c := cap) (l := (List.range len).map f) (z := z) hm0 hm (fun i hi => by
        rw [hll] at hi
        rw [hf i hi]
        congr 2
        rw [List.getD_eq_getElem?_getD, List.getElem?_map, List.getElem?_range hi]; rfl) hb ho (by rw [hll]; exact hl)
      rw [hll] at this
      exact this
end
end Go.Sx
open Go Go.Proofs Go.Sx Go.RefP
namespace Go.Proofs
set_option maxRecDepth 10000
set_option maxHeartbeats 4000000
/-! ### An argument that is a book -/
theorem ints_v8 {H : Type} {tell : TypeId × Value → H} {W : World} {base : Nat} {sp : Nat → Bool} {held : Bool} {n : Nat} {cs : List Value} {y : DataW H × List MemPlace}
    (h : DataW.trod tell Tryd.prog W base sp held n 40 cs = some y) : ∃ i : IdL, cs = i.l.map v8 := by
  obtain ⟨xs, m, -, -, hlen, hxl, hel⟩ := DataW.trod_array Tryd.underlying40 h
  have hc : (Tryd.prog).cellsOf 40 = 32 := by kernel_rfl
  have h1 : (Tryd.prog).cellsOf 5 = 1 := by kernel_rfl
  rw [hc] at hlen
  rw [h1] at hel
  have hex : ∀ i (hi : i < cs.length), ∃ x : UInt8, cs[i] = v8 x := by
    intro i hi
    have h2 := hel i (by omega)
    rw [List.getElem?_eq_getElem (by omega), Nat.mul_one, List.drop_eq_getElem_cons hi, List.take_succ_cons, List.take_zero] at h2
    obtain ⟨z, hz, -, hw⟩ := DataW.trod_int Tryd.underlying5 h2
    simp only [List.cons.injEq, and_true] at hz
    rw [hz]
    simp only [Lit.wf, Bool.and_eq_true, decide_eq_true_eq] at hw
    have hw1 : 0 ≤ z := by simpa [IntKind.min, IntKind.bits, IntKind.signed] using hw.1
    have hw2 : z ≤ 255 := by simpa [IntKind.max, IntKind.bits, IntKind.signed] using hw.2
    refine ⟨UInt8.ofNat z.toNat, ?_⟩
    unfold v8
    rw [UInt8.toNat_ofNat', Nat.mod_eq_of_lt (by omega)]
    congr 1; omega
  have hl : ∃ l : List UInt8, cs = l.map v8 := by
    clear hel hlen hxl h
    induction cs with
    | nil => exact ⟨[], rfl⟩
    | cons c r ih =>
      obtain ⟨x, hx⟩ := hex 0 (by simp)
      obtain ⟨l, hl⟩ := ih (fun i hi => by have := hex (i + 1) (by simpa using hi); simpa using this)
      exact ⟨x :: l, by rw [hl]; simp at hx; simp [hx]⟩
  obtain ⟨l, rfl⟩ := hl
  exact ⟨⟨l, by simpa using hlen⟩, rfl⟩
theorem dec_ref {H : Type} {tell : TypeId × Value → H} {W : World} {base : Nat} {sp : Nat → Bool} {held : Bool} (n : Nat) (cs : List Value) (y : DataW H × List MemPlace)
    (h : DataW.trod tell Tryd.prog W base sp held n 42 cs = some y) : ∃ a : RefL, cs = refC a := by
  obtain ⟨y0, y1, n', -, hlen, h0, h1⟩ := ChangeShapes.trod_struct2 Tryd.underlying42 h
  have hc : (Tryd.prog).cellsOf 42 = 33 := by kernel_rfl
  have hc1 : (Tryd.prog).cellsOf 9 = 1 := by kernel_rfl
  have hc2 : (Tryd.prog).cellsOf 40 = 32 := by kernel_rfl
  simp only at h0 h1
  rw [hc1, List.drop_zero] at h0
  rw [hc2] at h1
  rw [hc] at hlen
  obtain ⟨s, hs, -, -⟩ := DataW.trod_string Tryd.underlying9 h0
  obtain ⟨i, hi⟩ := ints_v8 h1
  refine ⟨⟨s.data.toList, i⟩, ?_⟩
  have hd : cs = cs.take 1 ++ (cs.drop 1).take 32 := by
    rw [show (cs.drop 1).take 32 = cs.drop 1 from List.take_of_length_le (by rw [List.length_drop]; omega), List.take_append_drop]
  rw [hd, hs, hi]
  rfl
/-- The book. -/
theorem open_book {H : Type} {tell : TypeId × Value → H} {W : World} {r : Reach} {base b0 : Nat} {sp : Nat → Bool} {held : Bool} {fuel : Nat} {v : Value} {x : DataW H × List MemPlace}
    (hval : Value.okWide Tryd.prog W r b0 25 v) (hd : DataW.trod tell Tryd.prog W base sp held fuel 25 v.cells.toList = some x) : ∃ vt vl t l, v = .agg #[vt, vl] ∧ RefSl W vt t ∧ RefSl W vl l := by
  have hc : (Tryd.prog).cellsOf 25 = 2 := by kernel_rfl
  have hcr : (Tryd.prog).cellsOf 23 = 1 := by kernel_rfl
  have hcR : (Tryd.prog).cellsOf 42 = 33 := by kernel_rfl
  have hct : (Tryd.prog).cellTypes (Tryd.prog).depth 25 = some [23, 23] := by kernel_rfl
  obtain ⟨y0, y1, n', -, hlen, h0, h1⟩ := ChangeShapes.trod_struct2 Tryd.underlying25 hd
  unfold Value.okWide at hval
  rw [Tryd.underlying25] at hval
  obtain ⟨cs, rfl, hs, ts, hts, -, hcell⟩ := hval
  rw [hct] at hts
  cases hts
  rw [hc] at hs
  obtain ⟨vt, vl, rfl⟩ : ∃ a b, cs = #[a, b] := by
    obtain ⟨l⟩ := cs
    match l, hs with
    | [a, b], _ => exact ⟨a, b, rfl⟩
  simp only at h0 h1
  rw [hcr, cells_agg] at h0 h1
  have k0 : Value.okWide Tryd.prog W r b0 23 vt := by
    obtain ⟨u, hu, ho⟩ := hcell 0 vt rfl
    obtain rfl : 23 = u := by simpa using hu
    unfold Value.okWide
    rw [Tryd.underlying23]
    exact ho
  have k1 : Value.okWide Tryd.prog W r b0 23 vl := by
    obtain ⟨u, hu, ho⟩ := hcell 1 vl rfl
    obtain rfl : 23 = u := by simpa using hu
    unfold Value.okWide
    rw [Tryd.underlying23]
    exact ho
  obtain ⟨t, ht⟩ := open_slS (z := ref0) Tryd.underlying23 hcR (by decide) refC_len k0 dec_ref h0
  obtain ⟨l, hl⟩ := open_slS (z := ref0) Tryd.underlying23 hcR (by decide) refC_len k1 dec_ref h1
  exact ⟨vt, vl, t, l, rfl, ht, hl⟩
end Go.Proofs
