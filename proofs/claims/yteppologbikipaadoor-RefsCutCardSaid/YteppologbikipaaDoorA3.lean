/-
  Part 3 of the walk: contracts of the functions that the law reaches, and the calculus they stand on.
  No conditions.
-/
import Derived.Test.YteppologbikipaaDoorA2
open Go Go.Proofs Go.Sx
namespace Go.Proofs
set_option maxRecDepth 10000
set_option maxHeartbeats 4000000
set_option linter.unusedSimpArgs false
theorem HasPrefix_spec (s p : List UInt8) (w : World) (hs : s.length < 1099511627776) : Rets Tryd.prog 147 #[vs s, vs p] w (fun v D => v = .bool (decide (p.length ≤ s.length) && (s.take p.length == p)) ∧ D = []) := by
  refine Rets.enterV Tryd.func147 rfl (rs := [.tmp 4]) Tryd.results147 Tryd.ntmps147 ?_
  simp only [List.size_toArray, List.length_cons, List.length_nil, Nat.reduceAdd, Nat.reduceSub, List.replicate_succ, List.replicate_zero, List.cons_append, List.nil_append]
  by_cases h : p.length ≤ s.length
  · have e1 : decide ((p.length : Int) ≤ (s.length : Int)) = true := decide_eq_true (by omega)
    repeat' first | with_reducible (first | refine Cw.seq ?_ | refine thenK_normal ?_ | refine Ow.nil ?_) | ((with_reducible refine Cw.region (Ow.run rfl fun k hk => ?_)); simp (disch := (first | omega | (simp only [lenS, lenT, UInt64.reduceToNat] ; try omega))) only [↓vcL_none, ↓vcB_assign, ↓ov_some, ↓ev_const, putF_some, setF_s, setF_0, nf_cons, ↓vcL_nil, Md.next_seq, ↓vcB_move, ↓ev_tmp, ↓getF_0, ↓vcB_len, Tryd.ix9, ↓getF_s, len_str, ↓vcB_binOp, binX_vi_vi, bin_geq_i, e1, ↓vcL_some, yieldF_lit, ↓nthO_s, ↓nthO_0, yieldL_some, boolOf_b, beq_self_eq_true, ↓ib_true, ↓vcB_slice, Option.map_none, Option.map_some, ixI_vi, slice_str_hi, Int.toNat_natCast, binX_vs, bin_eql_s, ↓vcB_pick, pick_t]; (with_reducible refine hk _ _ _ _ ?_); clear hk k) | with_reducible (first | refine Cw.block ?_ | refine Cw.skip ?_ | refine Cw.exit ?_ | refine Cw.ret ?_ | refine thenK_exit ?_ | refine thenK_ret ?_ | refine blockK_normal ?_ | refine blockK_ret ?_ | refine blockK_exit ?_ | refine blockK_pass rfl ?_) | ((with_reducible refine Cw.condC ?_); first | refine CwC.pt rfl (by omega) ?_ | refine CwC.pf rfl (by omega) ?_ | refine CwC.it rfl (by omega) ?_ | refine CwC.if rfl (by omega) ?_ | refine CwC.nt rfl (by omega) ?_ | refine CwC.nf rfl (by omega) ?_ | refine CwC.tt rfl ?_ | refine CwC.ff rfl ?_ | refine CwC.bt rfl (by assumption) ?_ | (refine CwC.bf rfl ?_ ?_; focus assumption))
    refine ⟨_, (by simp (disch := (first | omega | (simp only [lenS, lenT, UInt64.reduceToNat] ; try omega))) only [resVs_cons, resV_tmp, ↓getF_s, ↓getF_0, resVs_nil, cons2_some]; rfl), trivial, ?_⟩
    simp [tupV, h]
  · have e1 : decide ((p.length : Int) ≤ (s.length : Int)) = false := decide_eq_false (by omega)
    repeat' first | with_reducible (first | refine Cw.seq ?_ | refine thenK_normal ?_ | refine Ow.nil ?_) | ((with_reducible refine Cw.region (Ow.run rfl fun k hk => ?_)); simp (disch := (first | omega | (simp only [lenS, lenT, UInt64.reduceToNat] ; try omega))) only [↓vcL_none, ↓vcB_assign, ↓ov_some, ↓ev_const, putF_some, setF_s, setF_0, nf_cons, ↓vcL_nil, Md.next_seq, ↓vcB_move, ↓ev_tmp, ↓getF_0, ↓vcB_len, Tryd.ix9, ↓getF_s, len_str, ↓vcB_binOp, binX_vi_vi, bin_geq_i, e1, ↓vcL_some, yieldF_lit, ↓nthO_s, ↓nthO_0, yieldL_some, boolOf_b, some_beq, beq_true, ↓ib_false, ↓vcB_pick, pick_f]; (with_reducible refine hk _ _ _ _ ?_); clear hk k) | with_reducible (first | refine Cw.block ?_ | refine Cw.skip ?_ | refine Cw.exit ?_ | refine Cw.ret ?_ | refine thenK_exit ?_ | refine thenK_ret ?_ | refine blockK_normal ?_ | refine blockK_ret ?_ | refine blockK_exit ?_ | refine blockK_pass rfl ?_) | ((with_reducible refine Cw.condC ?_); first | refine CwC.pt rfl (by omega) ?_ | refine CwC.pf rfl (by omega) ?_ | refine CwC.it rfl (by omega) ?_ | refine CwC.if rfl (by omega) ?_ | refine CwC.nt rfl (by omega) ?_ | refine CwC.nf rfl (by omega) ?_ | refine CwC.tt rfl ?_ | refine CwC.ff rfl ?_ | refine CwC.bt rfl (by assumption) ?_ | (refine CwC.bf rfl ?_ ?_; focus assumption))
    refine ⟨_, (by simp (disch := (first | omega | (simp only [lenS, lenT, UInt64.reduceToNat] ; try omega))) only [resVs_cons, resV_tmp, ↓getF_s, ↓getF_0, resVs_nil, cons2_some]; rfl), trivial, ?_⟩
    simp [tupV, h]
/-- A text without its beginning. -/
def cutP (s p : List UInt8) : List UInt8 × Bool := if (decide (p.length ≤ s.length) && (s.take p.length == p)) = true then (s.drop p.length, true) else (s, false)
theorem CutPrefixL_spec (s p : List UInt8) (w : World) (hs : s.length < 1099511627776) : Rets Tryd.prog 121 #[vs s, vs p] w (fun v D => v = .tuple #[vs (cutP s p).1, .bool (cutP s p).2] ∧ D = []) := by
  refine Rets.enterV Tryd.func121 rfl (rs := [.tmp 4, .tmp 5]) Tryd.results121 Tryd.ntmps121 ?_
  simp only [List.size_toArray, List.length_cons, List.length_nil, Nat.reduceAdd, Nat.reduceSub, List.replicate_succ, List.replicate_zero, List.cons_append, List.nil_append]
  repeat' first | with_reducible (first | refine Cw.seq ?_ | refine thenK_normal ?_ | refine Ow.nil ?_) | ((with_reducible refine Cw.region (Ow.run rfl fun k hk => ?_)); simp (disch := (first | omega | (simp only [lenS, lenT, UInt64.reduceToNat] ; try omega))) only [↓vcL_none, ↓vcB_assign, ↓ov_some, ↓ev_const, lit_str, putF_some, setF_s, setF_0, nf_cons, ↓vcL_nil, Md.next_seq, ↓vcB_move, ↓ev_tmp, ↓getF_0, ↓getF_s, ↓vcB_call]; (with_reducible refine hk _ _ _ _ ?_); clear hk k) | with_reducible (first | refine Cw.block ?_ | refine Cw.skip ?_ | refine Cw.exit ?_ | refine Cw.ret ?_ | refine thenK_exit ?_ | refine thenK_ret ?_ | refine blockK_normal ?_ | refine blockK_ret ?_ | refine blockK_exit ?_ | refine blockK_pass rfl ?_) | ((with_reducible refine Cw.condC ?_); first | refine CwC.pt rfl (by omega) ?_ | refine CwC.pf rfl (by omega) ?_ | refine CwC.it rfl (by omega) ?_ | refine CwC.if rfl (by omega) ?_ | refine CwC.nt rfl (by omega) ?_ | refine CwC.nf rfl (by omega) ?_ | refine CwC.tt rfl ?_ | refine CwC.ff rfl ?_ | refine CwC.bt rfl (by assumption) ?_ | (refine CwC.bf rfl ?_ ?_; focus assumption))
  refine Ow.callFV rfl Tryd.call147 (fun w' hw' => HasPrefix_spec s p w' hs) ?_
  refine Ow.run rfl fun k hk => ?_
  simp (disch := (first | omega | (simp only [lenS, lenT, UInt64.reduceToNat] ; try omega))) only [↓vcL_none, ↓vcB_unOp, ↓ev_tmp, putF_some, setF_s, setF_0, ↓getF_s, ↓getF_0, un_not, ↓ov_some, nf_cons, ↓vcL_nil, Md.next_seq]
  (with_reducible refine hk _ _ _ _ ?_); clear hk k
  unfold cutP
  cases h : (decide (p.length ≤ s.length) && (s.take p.length == p))
  · repeat' first | with_reducible (first | refine Cw.seq ?_ | refine thenK_normal ?_ | refine Ow.nil ?_) | ((with_reducible refine Cw.region (Ow.run rfl fun k hk => ?_)); simp (disch := (first | omega | (simp only [lenS, lenT, UInt64.reduceToNat] ; try omega))) only [↓vcL_none, ↓vcB_move, ↓ov_some, Bool.not_false, ↓ev_tmp, ↓getF_0, putF_some, setF_s, setF_0, nf_cons, ↓vcB_assign, ↓getF_s, ↓ev_const, ↓vcL_nil, Md.next_seq]; (with_reducible refine hk _ _ _ _ ?_); clear hk k) | with_reducible (first | refine Cw.block ?_ | refine Cw.skip ?_ | refine Cw.exit ?_ | refine Cw.ret ?_ | refine thenK_exit ?_ | refine thenK_ret ?_ | refine blockK_normal ?_ | refine blockK_ret ?_ | refine blockK_exit ?_ | refine blockK_pass rfl ?_) | ((with_reducible refine Cw.condC ?_); first | refine CwC.pt rfl (by omega) ?_ | refine CwC.pf rfl (by omega) ?_ | refine CwC.it rfl (by omega) ?_ | refine CwC.if rfl (by omega) ?_ | refine CwC.nt rfl (by omega) ?_ | refine CwC.nf rfl (by omega) ?_ | refine CwC.tt rfl ?_ | refine CwC.ff rfl ?_ | refine CwC.bt rfl (by assumption) ?_ | (refine CwC.bf rfl ?_ ?_; focus assumption))
    refine ⟨_, (by simp (disch := (first | omega | (simp only [lenS, lenT, UInt64.reduceToNat] ; try omega))) only [resVs_cons, resV_tmp, ↓getF_s, ↓getF_0, resVs_nil, cons2_some]; rfl), trivial, ?_⟩
    rfl
  · have hle : p.length ≤ s.length := by
      rw [Bool.and_eq_true, decide_eq_true_eq] at h; exact h.1
    repeat' first | with_reducible (first | refine Cw.seq ?_ | refine thenK_normal ?_ | refine Ow.nil ?_) | ((with_reducible refine Cw.region (Ow.run rfl fun k hk => ?_)); simp (disch := (first | omega | (simp only [lenS, lenT, UInt64.reduceToNat] ; try omega))) only [↓vcL_none, ↓vcB_move, ↓ov_some, Bool.not_true, ↓ev_tmp, ↓getF_0, putF_some, setF_s, setF_0, nf_cons, ↓getF_s, ↓vcB_len, Tryd.ix9, len_str, ↓vcB_slice, Option.map_some, ixI_vi, Option.map_none, slice_str_lo, Int.toNat_natCast, ↓vcB_assign, ↓ev_const, ↓vcL_nil, Md.next_seq]; (with_reducible refine hk _ _ _ _ ?_); clear hk k) | with_reducible (first | refine Cw.block ?_ | refine Cw.skip ?_ | refine Cw.exit ?_ | refine Cw.ret ?_ | refine thenK_exit ?_ | refine thenK_ret ?_ | refine blockK_normal ?_ | refine blockK_ret ?_ | refine blockK_exit ?_ | refine blockK_pass rfl ?_) | ((with_reducible refine Cw.condC ?_); first | refine CwC.pt rfl (by omega) ?_ | refine CwC.pf rfl (by omega) ?_ | refine CwC.it rfl (by omega) ?_ | refine CwC.if rfl (by omega) ?_ | refine CwC.nt rfl (by omega) ?_ | refine CwC.nf rfl (by omega) ?_ | refine CwC.tt rfl ?_ | refine CwC.ff rfl ?_ | refine CwC.bt rfl (by assumption) ?_ | (refine CwC.bf rfl ?_ ?_; focus assumption))
    refine ⟨_, (by simp (disch := (first | omega | (simp only [lenS, lenT, UInt64.reduceToNat] ; try omega))) only [resVs_cons, resV_tmp, ↓getF_s, ↓getF_0, resVs_nil, cons2_some]; rfl), trivial, ?_⟩
    rfl
theorem CutPrefix_spec (s p : List UInt8) (w : World) (hs : s.length < 1099511627776) : Rets Tryd.prog 84 #[vs s, vs p] w (fun v D => v = .tuple #[vs (cutP s p).1, .bool (cutP s p).2] ∧ D = []) := by
  refine Rets.enterV Tryd.func84 rfl (rs := [.tmp 4, .tmp 5]) Tryd.results84 Tryd.ntmps84 ?_
  simp only [List.size_toArray, List.length_cons, List.length_nil, Nat.reduceAdd, Nat.reduceSub, List.replicate_succ, List.replicate_zero, List.cons_append, List.nil_append]
  repeat' first | with_reducible (first | refine Cw.seq ?_ | refine thenK_normal ?_ | refine Ow.nil ?_) | ((with_reducible refine Cw.region (Ow.run rfl fun k hk => ?_)); simp (disch := (first | omega | (simp only [lenS, lenT, UInt64.reduceToNat] ; try omega))) only [↓vcL_none, ↓vcB_assign, ↓ov_some, ↓ev_const, lit_str, putF_some, setF_s, setF_0, nf_cons, ↓vcL_nil, Md.next_seq, ↓vcB_move, ↓ev_tmp, ↓getF_0, ↓getF_s, ↓vcB_call]; (with_reducible refine hk _ _ _ _ ?_); clear hk k) | with_reducible (first | refine Cw.block ?_ | refine Cw.skip ?_ | refine Cw.exit ?_ | refine Cw.ret ?_ | refine thenK_exit ?_ | refine thenK_ret ?_ | refine blockK_normal ?_ | refine blockK_ret ?_ | refine blockK_exit ?_ | refine blockK_pass rfl ?_) | ((with_reducible refine Cw.condC ?_); first | refine CwC.pt rfl (by omega) ?_ | refine CwC.pf rfl (by omega) ?_ | refine CwC.it rfl (by omega) ?_ | refine CwC.if rfl (by omega) ?_ | refine CwC.nt rfl (by omega) ?_ | refine CwC.nf rfl (by omega) ?_ | refine CwC.tt rfl ?_ | refine CwC.ff rfl ?_ | refine CwC.bt rfl (by assumption) ?_ | (refine CwC.bf rfl ?_ ?_; focus assumption))
  refine Ow.callFV rfl Tryd.call121 (fun w' hw' => CutPrefixL_spec s p w' hs) ?_
  refine Ow.run rfl fun k hk => ?_
  simp (disch := (first | omega | (simp only [lenS, lenT, UInt64.reduceToNat] ; try omega))) only [↓vcL_none, ↓vcB_extract, ↓ev_tmp, putF_some, setF_s, setF_0, ↓getF_s, ↓getF_0, extract_t, tup2_0, ↓ov_some, nf_cons, tup2_1, ↓vcB_assign, ↓vcL_nil, Md.next_seq]
  (with_reducible refine hk _ _ _ _ ?_); clear hk k
  repeat' first | with_reducible (first | refine Cw.seq ?_ | refine thenK_normal ?_ | refine Ow.nil ?_) | ((with_reducible refine Cw.region (Ow.run rfl fun k hk => ?_)); simp (disch := (first | omega | (simp only [lenS, lenT, UInt64.reduceToNat] ; try omega))) only []; (with_reducible refine hk _ _ _ _ ?_); clear hk k) | with_reducible (first | refine Cw.block ?_ | refine Cw.skip ?_ | refine Cw.exit ?_ | refine Cw.ret ?_ | refine thenK_exit ?_ | refine thenK_ret ?_ | refine blockK_normal ?_ | refine blockK_ret ?_ | refine blockK_exit ?_ | refine blockK_pass rfl ?_) | ((with_reducible refine Cw.condC ?_); first | refine CwC.pt rfl (by omega) ?_ | refine CwC.pf rfl (by omega) ?_ | refine CwC.it rfl (by omega) ?_ | refine CwC.if rfl (by omega) ?_ | refine CwC.nt rfl (by omega) ?_ | refine CwC.nf rfl (by omega) ?_ | refine CwC.tt rfl ?_ | refine CwC.ff rfl ?_ | refine CwC.bt rfl (by assumption) ?_ | (refine CwC.bf rfl ?_ ?_; focus assumption))
  refine ⟨_, (by simp (disch := (first | omega | (simp only [lenS, lenT, UInt64.reduceToNat] ; try omega))) only [resVs_cons, resV_tmp, ↓getF_s, ↓getF_0, resVs_nil, cons2_some]; rfl), trivial, ?_⟩
  rfl
/-! ### Names -/
def badR (c : Int) : Bool := decide (c < 33) || decide (126 < c) || (c == 47)
def badB (b : UInt8) : Bool := decide (b.toNat < 33) || decide (126 < b.toNat) || (b.toNat == 47)
theorem eqb (a b : Bool) : binX Tryd.prog .eql 4 (.bool a) (.bool b) = some (.bool (a == b)) := by
  simp [binX, eqX, plainV, eqNilV, Tryd.underlying4]
theorem tup1_0 (a : Value) : (#[a] : Array Value)[0]? = some a := (rfl)
theorem isNameC_spec (c : Int) (w : World) : Rets Tryd.prog 94 #[v32i c] w (fun v D => v = .bool (badR c) ∧ D = []) := by
  refine Rets.enterV Tryd.func94 rfl (rs := [.tmp 2]) Tryd.results94 Tryd.ntmps94 ?_
  simp only [List.size_toArray, List.length_cons, List.length_nil, Nat.reduceAdd, Nat.reduceSub, List.replicate_succ, List.replicate_zero, List.cons_append, List.nil_append]
  unfold badR
  cases h1 : decide (c < 33)
  · cases h2 : decide (126 < c)
    · repeat' first | with_reducible (first | refine Cw.seq ?_ | refine thenK_normal ?_ | refine Ow.nil ?_) | ((with_reducible refine Cw.region (Ow.run rfl fun k hk => ?_)); simp (disch := (first | omega | (simp only [lenS, lenT, UInt64.reduceToNat] ; try omega))) only [↓vcL_none, ↓vcB_assign, ↓ov_some, ↓ev_const, putF_some, setF_s, setF_0, nf_cons, ↓vcL_nil, Md.next_seq, ↓vcB_move, ↓ev_tmp, ↓getF_0, ↓vcB_binOp, ↓getF_s, lit_i32, binX_i32, bin_lss_i32, h1, ↓vcL_some, yieldF_lit, ↓nthO_s, ↓nthO_0, yieldL_some, boolOf_b, beq_self_eq_true, ↓ib_true, bin_gtr_i32, h2, ↓vcB_pick, pick_f, bin_eql_i32]; (with_reducible refine hk _ _ _ _ ?_); clear hk k) | with_reducible (first | refine Cw.block ?_ | refine Cw.skip ?_ | refine Cw.exit ?_ | refine Cw.ret ?_ | refine thenK_exit ?_ | refine thenK_ret ?_ | refine blockK_normal ?_ | refine blockK_ret ?_ | refine blockK_exit ?_ | refine blockK_pass rfl ?_) | ((with_reducible refine Cw.condC ?_); first | refine CwC.pt rfl (by omega) ?_ | refine CwC.pf rfl (by omega) ?_ | refine CwC.it rfl (by omega) ?_ | refine CwC.if rfl (by omega) ?_ | refine CwC.nt rfl (by omega) ?_ | refine CwC.nf rfl (by omega) ?_ | refine CwC.tt rfl ?_ | refine CwC.ff rfl ?_ | refine CwC.bt rfl (by assumption) ?_ | (refine CwC.bf rfl ?_ ?_; focus assumption))
      refine ⟨_, (by simp (disch := (first | omega | (simp only [lenS, lenT, UInt64.reduceToNat] ; try omega))) only [resVs_cons, resV_tmp, ↓getF_s, ↓getF_0, resVs_nil, cons2_some]; rfl), trivial, ?_⟩
      simp [tupV]
    · repeat' first | with_reducible (first | refine Cw.seq ?_ | refine thenK_normal ?_ | refine Ow.nil ?_) | ((with_reducible refine Cw.region (Ow.run rfl fun k hk => ?_)); simp (disch := (first | omega | (simp only [lenS, lenT, UInt64.reduceToNat] ; try omega))) only [↓vcL_none, ↓vcB_assign, ↓ov_some, ↓ev_const, putF_some, setF_s, setF_0, nf_cons, ↓vcL_nil, Md.next_seq, ↓vcB_move, ↓ev_tmp, ↓getF_0, ↓vcB_binOp, ↓getF_s, lit_i32, binX_i32, bin_lss_i32, h1, ↓vcL_some, yieldF_lit, ↓nthO_s, ↓nthO_0, yieldL_some, boolOf_b, beq_self_eq_true, ↓ib_true, bin_gtr_i32, h2, ↓vcB_pick, pick_f, some_beq, beq_false, Bool.not_true, ↓ib_false, pick_t]; (with_reducible refine hk _ _ _ _ ?_); clear hk k) | with_reducible (first | refine Cw.block ?_ | refine Cw.skip ?_ | refine Cw.exit ?_ | refine Cw.ret ?_ | refine thenK_exit ?_ | refine thenK_ret ?_ | refine blockK_normal ?_ | refine blockK_ret ?_ | refine blockK_exit ?_ | refine blockK_pass rfl ?_) | ((with_reducible refine Cw.condC ?_); first | refine CwC.pt rfl (by omega) ?_ | refine CwC.pf rfl (by omega) ?_ | refine CwC.it rfl (by omega) ?_ | refine CwC.if rfl (by omega) ?_ | refine CwC.nt rfl (by omega) ?_ | refine CwC.nf rfl (by omega) ?_ | refine CwC.tt rfl ?_ | refine CwC.ff rfl ?_ | refine CwC.bt rfl (by assumption) ?_ | (refine CwC.bf rfl ?_ ?_; focus assumption))
      refine ⟨_, (by simp (disch := (first | omega | (simp only [lenS, lenT, UInt64.reduceToNat] ; try omega))) only [resVs_cons, resV_tmp, ↓getF_s, ↓getF_0, resVs_nil, cons2_some]; rfl), trivial, ?_⟩
      simp [tupV]
  · repeat' first | with_reducible (first | refine Cw.seq ?_ | refine thenK_normal ?_ | refine Ow.nil ?_) | ((with_reducible refine Cw.region (Ow.run rfl fun k hk => ?_)); simp (disch := (first | omega | (simp only [lenS, lenT, UInt64.reduceToNat] ; try omega))) only [↓vcL_none, ↓vcB_assign, ↓ov_some, ↓ev_const, putF_some, setF_s, setF_0, nf_cons, ↓vcL_nil, Md.next_seq, ↓vcB_move, ↓ev_tmp, ↓getF_0, ↓vcB_binOp, ↓getF_s, lit_i32, binX_i32, bin_lss_i32, h1, ↓vcL_some, yieldF_lit, ↓nthO_s, ↓nthO_0, yieldL_some, boolOf_b, some_beq, beq_false, Bool.not_true, ↓ib_false, ↓vcB_pick, pick_t]; (with_reducible refine hk _ _ _ _ ?_); clear hk k) | with_reducible (first | refine Cw.block ?_ | refine Cw.skip ?_ | refine Cw.exit ?_ | refine Cw.ret ?_ | refine thenK_exit ?_ | refine thenK_ret ?_ | refine blockK_normal ?_ | refine blockK_ret ?_ | refine blockK_exit ?_ | refine blockK_pass rfl ?_) | ((with_reducible refine Cw.condC ?_); first | refine CwC.pt rfl (by omega) ?_ | refine CwC.pf rfl (by omega) ?_ | refine CwC.it rfl (by omega) ?_ | refine CwC.if rfl (by omega) ?_ | refine CwC.nt rfl (by omega) ?_ | refine CwC.nf rfl (by omega) ?_ | refine CwC.tt rfl ?_ | refine CwC.ff rfl ?_ | refine CwC.bt rfl (by assumption) ?_ | (refine CwC.bf rfl ?_ ?_; focus assumption))
    refine ⟨_, (by simp (disch := (first | omega | (simp only [lenS, lenT, UInt64.reduceToNat] ; try omega))) only [resVs_cons, resV_tmp, ↓getF_s, ↓getF_0, resVs_nil, cons2_some]; rfl), trivial, ?_⟩
    simp [tupV]
theorem bad_rune (l : List UInt8) (i : Nat) (h : i < l.length) : badR ((Utf8.decode ⟨l.toArray⟩ i).1 : Nat) = badB (l.getD i 0) ∧ (badB (l.getD i 0) = false → (Utf8.decode ⟨l.toArray⟩ i).2 = 1) := by
  obtain ⟨h0, h1, h2⟩ := decode_rune l i h
  by_cases hc : (l.getD i 0).toNat < 128
  · rw [h1 hc]
    refine ⟨?_, fun _ => rfl⟩
    unfold badR badB
    congr 1
    · congr 1
      · apply decide_eq_decide.2; omega
      · apply decide_eq_decide.2; omega
    · rw [Bool.eq_iff_iff, beq_iff_eq, beq_iff_eq]; omega
  · have h2' := h2 (by omega)
    have hb : badB (l.getD i 0) = true := by
      unfold badB
      rw [decide_eq_true (show 126 < (l.getD i 0).toNat by omega)]; simp
    rw [hb]
    refine ⟨?_, fun h => by cases h⟩
    unfold badR
    rw [decide_eq_true (show (126 : Int) < (((Utf8.decode ⟨l.toArray⟩ i).1 : Nat) : Int) by omega)]; simp
theorem indexFunc_spec (s : List UInt8) (k : FuncId) (hk : ∀ a w, (callFunc k a).run Tryd.prog w = .ok (.enter k a) w) (hc : ∀ c w, Rets Tryd.prog k #[v32i c] w (fun v D => v = .bool (badR c) ∧ D = [])) (w : World) (hs : s.length < 1099511627776) :
    Rets Tryd.prog 150 #[vs s, .func (.func k) #[] #[], .bool true] w (fun v D => ∃ n : Int, v = vi n ∧ (0 ≤ n ↔ s.any badB = true) ∧ D = []) := by
  refine Rets.mono (S := fun v D => (∃ n : Int, v = vi n ∧ (0 ≤ n ↔ s.any badB = true)) ∧ D = []) ?_ (by rintro v D ⟨⟨n, h1, h2⟩, h3⟩; exact ⟨n, h1, h2, h3⟩)
  refine Rets.enterV Tryd.func150 rfl (rs := [.tmp 6]) Tryd.results150 Tryd.ntmps150 ?_
  simp only [List.size_toArray, List.length_cons, List.length_nil, Nat.reduceAdd, Nat.reduceSub, List.replicate_succ, List.replicate_zero, List.cons_append, List.nil_append]
  repeat' first | with_reducible (first | refine Cw.seq ?_ | refine thenK_normal ?_ | refine Ow.nil ?_) | ((with_reducible refine Cw.region (Ow.run rfl fun k hk => ?_)); simp (disch := (first | omega | (simp only [lenS, lenT, UInt64.reduceToNat] ; try omega))) only [↓vcL_none, ↓vcB_assign, ↓ov_some, ↓ev_const, lit_i64, putF_some, setF_s, setF_0, nf_cons, ↓vcL_nil, Md.next_seq, ↓vcB_move, ↓ev_tmp, ↓getF_0, ↓vcB_range]; (with_reducible refine hk _ _ _ _ ?_); clear hk k) | with_reducible (first | refine Cw.block ?_ | refine Cw.skip ?_ | refine Cw.exit ?_ | refine Cw.ret ?_ | refine thenK_exit ?_ | refine thenK_ret ?_ | refine blockK_normal ?_ | refine blockK_ret ?_ | refine blockK_exit ?_ | refine blockK_pass rfl ?_) | ((with_reducible refine Cw.condC ?_); first | refine CwC.pt rfl (by omega) ?_ | refine CwC.pf rfl (by omega) ?_ | refine CwC.it rfl (by omega) ?_ | refine CwC.if rfl (by omega) ?_ | refine CwC.nt rfl (by omega) ?_ | refine CwC.nf rfl (by omega) ?_ | refine CwC.tt rfl ?_ | refine CwC.ff rfl ?_ | refine CwC.bt rfl (by assumption) ?_ | (refine CwC.bf rfl ?_ ?_; focus assumption))
  refine Ow.rangeText rfl rfl Tryd.underlying9 rfl fun b1 hb1 hw1 => ?_
  refine Ow.run rfl fun k hk => ?_
  simp (disch := (first | omega | (simp only [lenS, lenT, UInt64.reduceToNat] ; try omega))) only [↓vcL_nil, putF_some, setF_s, setF_0, List.nil_append]
  (with_reducible refine hk _ _ _ _ ?_); clear hk k
  repeat' first | with_reducible (first | refine Cw.seq ?_ | refine thenK_normal ?_ | refine Ow.nil ?_) | ((with_reducible refine Cw.region (Ow.run rfl fun k hk => ?_)); simp (disch := (first | omega | (simp only [lenS, lenT, UInt64.reduceToNat] ; try omega))) only []; (with_reducible refine hk _ _ _ _ ?_); clear hk k) | with_reducible (first | refine Cw.block ?_ | refine Cw.skip ?_ | refine Cw.exit ?_ | refine Cw.ret ?_ | refine thenK_exit ?_ | refine thenK_ret ?_ | refine blockK_normal ?_ | refine blockK_ret ?_ | refine blockK_exit ?_ | refine blockK_pass rfl ?_) | ((with_reducible refine Cw.condC ?_); first | refine CwC.pt rfl (by omega) ?_ | refine CwC.pf rfl (by omega) ?_ | refine CwC.it rfl (by omega) ?_ | refine CwC.if rfl (by omega) ?_ | refine CwC.nt rfl (by omega) ?_ | refine CwC.nf rfl (by omega) ?_ | refine CwC.tt rfl ?_ | refine CwC.ff rfl ?_ | refine CwC.bt rfl (by assumption) ?_ | (refine CwC.bf rfl ?_ ?_; focus assumption))
  refine Cw.loopG (G := Nat) [11, 12, 13, 14, 7, 8, 15, 16, 17, 18, 19, 20, 6] (fun g => []) (fun g => [(b1, .stringIter ⟨s.toArray⟩ g)]) (fun g => g ≤ s.length ∧ ∀ i, i < g → badB (s.getD i 0) = false) (fun g => s.length - g) 0 rfl rfl ?_ ?_
  · exact ⟨by omega, fun i hi => by omega⟩
  intro g j hg
  simp only [overFrom, pin, setF_0, setF_s, List.contains_cons, List.contains_nil, Nat.reduceBEq, Bool.or_false, Bool.false_or, Bool.or_true, Bool.true_or, Nat.reduceAdd, ↓reduceIte, Bool.false_eq_true]
  obtain ⟨hgL, hgood⟩ := hg
  by_cases hlt : g < s.length
  · have hbr := bad_rune s g hlt
    repeat' first | with_reducible (first | refine Cw.seq ?_ | refine thenK_normal ?_ | refine Ow.nil ?_) | ((with_reducible refine Cw.region (Ow.run rfl fun k hk => ?_)); simp (disch := (first | omega | (simp only [lenS, lenT, UInt64.reduceToNat] ; try omega))) only [↓vcL_none, ↓vcB_next]; (with_reducible refine hk _ _ _ _ ?_); clear hk k) | with_reducible (first | refine Cw.block ?_ | refine Cw.skip ?_ | refine Cw.exit ?_ | refine Cw.ret ?_ | refine thenK_exit ?_ | refine thenK_ret ?_ | refine blockK_normal ?_ | refine blockK_ret ?_ | refine blockK_exit ?_ | refine blockK_pass rfl ?_) | ((with_reducible refine Cw.condC ?_); first | refine CwC.pt rfl (by omega) ?_ | refine CwC.pf rfl (by omega) ?_ | refine CwC.it rfl (by omega) ?_ | refine CwC.if rfl (by omega) ?_ | refine CwC.nt rfl (by omega) ?_ | refine CwC.nf rfl (by omega) ?_ | refine CwC.tt rfl ?_ | refine CwC.ff rfl ?_ | refine CwC.bt rfl (by assumption) ?_ | (refine CwC.bf rfl ?_ ?_; focus assumption))
    refine Ow.nextText rfl rfl rfl (look_same _ _ _) hlt ?_
    rw [setB_same]
    generalize hdd : Utf8.decode ⟨s.toArray⟩ g = dd at *
    obtain ⟨c, n⟩ := dd
    simp only at hbr ⊢
    refine Ow.run rfl fun k hk => ?_
    simp (disch := (first | omega | (simp only [lenS, lenT, UInt64.reduceToNat] ; try omega))) only [↓vcL_none, ↓vcB_extract, ↓ev_tmp, putF_some, setF_s, setF_0, ↓getF_s, ↓getF_0, extract_t, tup3_0, ↓ov_some, nf_cons, ↓vcL_nil, Md.next_seq]
    (with_reducible refine hk _ _ _ _ ?_); clear hk k
    repeat' first | with_reducible (first | refine Cw.seq ?_ | refine thenK_normal ?_ | refine Ow.nil ?_) | ((with_reducible refine Cw.region (Ow.run rfl fun k hk => ?_)); simp (disch := (first | omega | (simp only [lenS, lenT, UInt64.reduceToNat] ; try omega))) only [↓vcL_none, ↓vcB_extract, ↓ev_tmp, ↓getF_s, ↓getF_0, extract_t, tup3_1, ↓ov_some, putF_some, setF_s, setF_0, nf_cons, tup3_2, ↓vcB_assign, ↓vcL_nil, Md.next_seq, ↓vcB_move, ↓vcB_call]; (with_reducible refine hk _ _ _ _ ?_); clear hk k) | with_reducible (first | refine Cw.block ?_ | refine Cw.skip ?_ | refine Cw.exit ?_ | refine Cw.ret ?_ | refine thenK_exit ?_ | refine thenK_ret ?_ | refine blockK_normal ?_ | refine blockK_ret ?_ | refine blockK_exit ?_ | refine blockK_pass rfl ?_) | ((with_reducible refine Cw.condC ?_); first | refine CwC.pt rfl (by omega) ?_ | refine CwC.pf rfl (by omega) ?_ | refine CwC.it rfl (by omega) ?_ | refine CwC.if rfl (by omega) ?_ | refine CwC.nt rfl (by omega) ?_ | refine CwC.nf rfl (by omega) ?_ | refine CwC.tt rfl ?_ | refine CwC.ff rfl ?_ | refine CwC.bt rfl (by assumption) ?_ | (refine CwC.bf rfl ?_ ?_; focus assumption))
    refine Ow.callFn1 (v := .bool (badR c)) (k := k) rfl rfl rfl hk (fun w' hw' => hc _ w') ?_
    rw [hbr.1]
    refine Ow.run rfl fun k hk => ?_
    simp (disch := (first | omega | (simp only [lenS, lenT, UInt64.reduceToNat] ; try omega))) only [↓vcL_none, ↓vcB_move, ↓ov_some, putF_some, setF_s, setF_0, ↓ev_tmp, ↓getF_s, ↓getF_0, nf_cons, ↓vcB_binOp, eqb, beq_true, ↓vcL_nil, Md.next_seq]
    (with_reducible refine hk _ _ _ _ ?_); clear hk k
    cases hbb : badB (s.getD g 0)
    · repeat' first | with_reducible (first | refine Cw.seq ?_ | refine thenK_normal ?_ | refine Ow.nil ?_) | ((with_reducible refine Cw.region (Ow.run rfl fun k hk => ?_)); simp (disch := (first | omega | (simp only [lenS, lenT, UInt64.reduceToNat] ; try omega))) only []; (with_reducible refine hk _ _ _ _ ?_); clear hk k) | with_reducible (first | refine Cw.block ?_ | refine Cw.skip ?_ | refine Cw.exit ?_ | refine Cw.ret ?_ | refine thenK_exit ?_ | refine thenK_ret ?_ | refine blockK_normal ?_ | refine blockK_ret ?_ | refine blockK_exit ?_ | refine blockK_pass rfl ?_) | ((with_reducible refine Cw.condC ?_); first | refine CwC.pt rfl (by omega) ?_ | refine CwC.pf rfl (by omega) ?_ | refine CwC.it rfl (by omega) ?_ | refine CwC.if rfl (by omega) ?_ | refine CwC.nt rfl (by omega) ?_ | refine CwC.nf rfl (by omega) ?_ | refine CwC.tt rfl ?_ | refine CwC.ff rfl ?_ | refine CwC.bt rfl (by assumption) ?_ | (refine CwC.bf rfl ?_ ?_; focus assumption))
      refine Again.mk (g + 1) (by omega) ⟨by omega, fun i hi => ?_⟩ ?_ rfl
      · by_cases hig : i = g
        · rw [hig]; exact hbb
        · exact hgood i (by omega)
      · rw [hbr.2 hbb]
    · repeat' first | with_reducible (first | refine Cw.seq ?_ | refine thenK_normal ?_ | refine Ow.nil ?_) | ((with_reducible refine Cw.region (Ow.run rfl fun k hk => ?_)); simp (disch := (first | omega | (simp only [lenS, lenT, UInt64.reduceToNat] ; try omega))) only [↓vcL_none, ↓vcB_move, ↓ov_some, ↓ev_tmp, ↓getF_s, ↓getF_0, putF_some, setF_s, setF_0, nf_cons, ↓vcB_assign, ↓vcL_nil, Md.next_seq]; (with_reducible refine hk _ _ _ _ ?_); clear hk k) | with_reducible (first | refine Cw.block ?_ | refine Cw.skip ?_ | refine Cw.exit ?_ | refine Cw.ret ?_ | refine thenK_exit ?_ | refine thenK_ret ?_ | refine blockK_normal ?_ | refine blockK_ret ?_ | refine blockK_exit ?_ | refine blockK_pass rfl ?_) | ((with_reducible refine Cw.condC ?_); first | refine CwC.pt rfl (by omega) ?_ | refine CwC.pf rfl (by omega) ?_ | refine CwC.it rfl (by omega) ?_ | refine CwC.if rfl (by omega) ?_ | refine CwC.nt rfl (by omega) ?_ | refine CwC.nf rfl (by omega) ?_ | refine CwC.tt rfl ?_ | refine CwC.ff rfl ?_ | refine CwC.bt rfl (by assumption) ?_ | (refine CwC.bf rfl ?_ ?_; focus assumption))
      refine ⟨_, (by simp (disch := (first | omega | (simp only [lenS, lenT, UInt64.reduceToNat] ; try omega))) only [resVs_cons, resV_tmp, ↓getF_s, ↓getF_0, resVs_nil, cons2_some]; rfl), ⟨hw1, trivial⟩, ?_⟩
      refine ⟨(g : Int), rfl, ⟨fun _ => ?_, fun _ => by omega⟩⟩
      rw [List.any_eq_true]
      refine ⟨s.getD g 0, ?_, hbb⟩
      rw [List.getD_eq_getElem?_getD, List.getElem?_eq_getElem hlt]
      exact List.getElem_mem hlt
  · obtain rfl : g = s.length := by omega
    repeat' first | with_reducible (first | refine Cw.seq ?_ | refine thenK_normal ?_ | refine Ow.nil ?_) | ((with_reducible refine Cw.region (Ow.run rfl fun k hk => ?_)); simp (disch := (first | omega | (simp only [lenS, lenT, UInt64.reduceToNat] ; try omega))) only [↓vcL_none, ↓vcB_next]; (with_reducible refine hk _ _ _ _ ?_); clear hk k) | with_reducible (first | refine Cw.block ?_ | refine Cw.skip ?_ | refine Cw.exit ?_ | refine Cw.ret ?_ | refine thenK_exit ?_ | refine thenK_ret ?_ | refine blockK_normal ?_ | refine blockK_ret ?_ | refine blockK_exit ?_ | refine blockK_pass rfl ?_) | ((with_reducible refine Cw.condC ?_); first | refine CwC.pt rfl (by omega) ?_ | refine CwC.pf rfl (by omega) ?_ | refine CwC.it rfl (by omega) ?_ | refine CwC.if rfl (by omega) ?_ | refine CwC.nt rfl (by omega) ?_ | refine CwC.nf rfl (by omega) ?_ | refine CwC.tt rfl ?_ | refine CwC.ff rfl ?_ | refine CwC.bt rfl (by assumption) ?_ | (refine CwC.bf rfl ?_ ?_; focus assumption))
    refine Ow.nextOver rfl rfl rfl (look_same _ _ _) hlt ?_
    refine Ow.run rfl fun k hk => ?_
    simp (disch := (first | omega | (simp only [lenS, lenT, UInt64.reduceToNat] ; try omega))) only [↓vcL_none, ↓vcB_extract, ↓ev_tmp, putF_some, setF_s, setF_0, ↓getF_s, ↓getF_0, extract_t, tup1_0, ↓ov_some, nf_cons, ↓vcL_nil, Md.next_seq]
    (with_reducible refine hk _ _ _ _ ?_); clear hk k
    repeat' first | with_reducible (first | refine Cw.seq ?_ | refine thenK_normal ?_ | refine Ow.nil ?_) | ((with_reducible refine Cw.region (Ow.run rfl fun k hk => ?_)); simp (disch := (first | omega | (simp only [lenS, lenT, UInt64.reduceToNat] ; try omega))) only [↓vcL_none, ↓vcB_assign, ↓ov_some, ↓ev_const, lit_i64, putF_some, setF_s, setF_0, nf_cons, ↓vcL_nil, Md.next_seq]; (with_reducible refine hk _ _ _ _ ?_); clear hk k) | with_reducible (first | refine Cw.block ?_ | refine Cw.skip ?_ | refine Cw.exit ?_ | refine Cw.ret ?_ | refine thenK_exit ?_ | refine thenK_ret ?_ | refine blockK_normal ?_ | refine blockK_ret ?_ | refine blockK_exit ?_ | refine blockK_pass rfl ?_) | ((with_reducible refine Cw.condC ?_); first | refine CwC.pt rfl (by omega) ?_ | refine CwC.pf rfl (by omega) ?_ | refine CwC.it rfl (by omega) ?_ | refine CwC.if rfl (by omega) ?_ | refine CwC.nt rfl (by omega) ?_ | refine CwC.nf rfl (by omega) ?_ | refine CwC.tt rfl ?_ | refine CwC.ff rfl ?_ | refine CwC.bt rfl (by assumption) ?_ | (refine CwC.bf rfl ?_ ?_; focus assumption))
    refine ⟨_, (by simp (disch := (first | omega | (simp only [lenS, lenT, UInt64.reduceToNat] ; try omega))) only [resVs_cons, resV_tmp, ↓getF_s, ↓getF_0, resVs_nil, cons2_some]; rfl), ⟨hw1, trivial⟩, ?_⟩
    refine ⟨-1, rfl, ⟨fun h => by omega, fun h => ?_⟩⟩
    rw [List.any_eq_true] at h
    obtain ⟨x, hx, hxb⟩ := h
    obtain ⟨i, hi, rfl⟩ := List.getElem_of_mem hx
    have := hgood i hi
    rw [List.getD_eq_getElem?_getD, List.getElem?_eq_getElem hi] at this
    exact absurd hxb (by simpa using this)
theorem IndexFunc_spec (s : List UInt8) (k : FuncId) (hk : ∀ a w, (callFunc k a).run Tryd.prog w = .ok (.enter k a) w) (hc : ∀ c w, Rets Tryd.prog k #[v32i c] w (fun v D => v = .bool (badR c) ∧ D = [])) (w : World) (hs : s.length < 1099511627776) :
    Rets Tryd.prog 124 #[vs s, .func (.func k) #[] #[]] w (fun v D => ∃ n : Int, v = vi n ∧ (0 ≤ n ↔ s.any badB = true) ∧ D = []) := by
  refine Rets.mono (S := fun v D => (∃ n : Int, v = vi n ∧ (0 ≤ n ↔ s.any badB = true)) ∧ D = []) ?_ (by rintro v D ⟨⟨n, h1, h2⟩, h3⟩; exact ⟨n, h1, h2, h3⟩)
  refine Rets.enterV Tryd.func124 rfl (rs := [.tmp 4]) Tryd.results124 Tryd.ntmps124 ?_
  simp only [List.size_toArray, List.length_cons, List.length_nil, Nat.reduceAdd, Nat.reduceSub, List.replicate_succ, List.replicate_zero, List.cons_append, List.nil_append]
  repeat' first | with_reducible (first | refine Cw.seq ?_ | refine thenK_normal ?_ | refine Ow.nil ?_) | ((with_reducible refine Cw.region (Ow.run rfl fun k hk => ?_)); simp (disch := (first | omega | (simp only [lenS, lenT, UInt64.reduceToNat] ; try omega))) only [↓vcL_none, ↓vcB_assign, ↓ov_some, ↓ev_const, lit_i64, putF_some, setF_s, setF_0, nf_cons, ↓vcL_nil, Md.next_seq, ↓vcB_move, ↓ev_tmp, ↓getF_0, ↓getF_s, ↓vcB_call]; (with_reducible refine hk _ _ _ _ ?_); clear hk k) | with_reducible (first | refine Cw.block ?_ | refine Cw.skip ?_ | refine Cw.exit ?_ | refine Cw.ret ?_ | refine thenK_exit ?_ | refine thenK_ret ?_ | refine blockK_normal ?_ | refine blockK_ret ?_ | refine blockK_exit ?_ | refine blockK_pass rfl ?_) | ((with_reducible refine Cw.condC ?_); first | refine CwC.pt rfl (by omega) ?_ | refine CwC.pf rfl (by omega) ?_ | refine CwC.it rfl (by omega) ?_ | refine CwC.if rfl (by omega) ?_ | refine CwC.nt rfl (by omega) ?_ | refine CwC.nf rfl (by omega) ?_ | refine CwC.tt rfl ?_ | refine CwC.ff rfl ?_ | refine CwC.bt rfl (by assumption) ?_ | (refine CwC.bf rfl ?_ ?_; focus assumption))
  refine Ow.callF rfl rfl Tryd.call150 (S := fun _ v D => ∃ n : Int, v = vi n ∧ (0 ≤ n ↔ s.any badB = true) ∧ D = []) (fun w' hw' => indexFunc_spec s k hk hc w' hs) ?_
  rintro B v D - - ⟨n, rfl, hn, rfl⟩
  refine ⟨_, Mrg.nil, ?_⟩
  refine Ow.run rfl fun k hk => ?_
  simp (disch := (first | omega | (simp only [lenS, lenT, UInt64.reduceToNat] ; try omega))) only [↓vcL_none, ↓vcB_assign, ↓ov_some, putF_some, setF_s, setF_0, ↓ev_tmp, ↓getF_s, ↓getF_0, nf_cons, ↓vcL_nil, Md.next_seq]
  (with_reducible refine hk _ _ _ _ ?_); clear hk k
  repeat' first | with_reducible (first | refine Cw.seq ?_ | refine thenK_normal ?_ | refine Ow.nil ?_) | ((with_reducible refine Cw.region (Ow.run rfl fun k hk => ?_)); simp (disch := (first | omega | (simp only [lenS, lenT, UInt64.reduceToNat] ; try omega))) only []; (with_reducible refine hk _ _ _ _ ?_); clear hk k) | with_reducible (first | refine Cw.block ?_ | refine Cw.skip ?_ | refine Cw.exit ?_ | refine Cw.ret ?_ | refine thenK_exit ?_ | refine thenK_ret ?_ | refine blockK_normal ?_ | refine blockK_ret ?_ | refine blockK_exit ?_ | refine blockK_pass rfl ?_) | ((with_reducible refine Cw.condC ?_); first | refine CwC.pt rfl (by omega) ?_ | refine CwC.pf rfl (by omega) ?_ | refine CwC.it rfl (by omega) ?_ | refine CwC.if rfl (by omega) ?_ | refine CwC.nt rfl (by omega) ?_ | refine CwC.nf rfl (by omega) ?_ | refine CwC.tt rfl ?_ | refine CwC.ff rfl ?_ | refine CwC.bt rfl (by assumption) ?_ | (refine CwC.bf rfl ?_ ?_; focus assumption))
  refine ⟨_, (by simp (disch := (first | omega | (simp only [lenS, lenT, UInt64.reduceToNat] ; try omega))) only [resVs_cons, resV_tmp, ↓getF_s, ↓getF_0, resVs_nil, cons2_some]; rfl), trivial, ?_⟩
  exact ⟨n, rfl, hn⟩
theorem ContainsFunc_spec (s : List UInt8) (k : FuncId) (hk : ∀ a w, (callFunc k a).run Tryd.prog w = .ok (.enter k a) w) (hc : ∀ c w, Rets Tryd.prog k #[v32i c] w (fun v D => v = .bool (badR c) ∧ D = [])) (w : World) (hs : s.length < 1099511627776) :
    Rets Tryd.prog 93 #[vs s, .func (.func k) #[] #[]] w (fun v D => v = .bool (s.any badB) ∧ D = []) := by
  refine Rets.enterV Tryd.func93 rfl (rs := [.tmp 4]) Tryd.results93 Tryd.ntmps93 ?_
  simp only [List.size_toArray, List.length_cons, List.length_nil, Nat.reduceAdd, Nat.reduceSub, List.replicate_succ, List.replicate_zero, List.cons_append, List.nil_append]
  repeat' first | with_reducible (first | refine Cw.seq ?_ | refine thenK_normal ?_ | refine Ow.nil ?_) | ((with_reducible refine Cw.region (Ow.run rfl fun k hk => ?_)); simp (disch := (first | omega | (simp only [lenS, lenT, UInt64.reduceToNat] ; try omega))) only [↓vcL_none, ↓vcB_assign, ↓ov_some, ↓ev_const, putF_some, setF_s, setF_0, nf_cons, ↓vcL_nil, Md.next_seq, ↓vcB_move, ↓ev_tmp, ↓getF_0, ↓getF_s, ↓vcB_call, lit_i64]; (with_reducible refine hk _ _ _ _ ?_); clear hk k) | with_reducible (first | refine Cw.block ?_ | refine Cw.skip ?_ | refine Cw.exit ?_ | refine Cw.ret ?_ | refine thenK_exit ?_ | refine thenK_ret ?_ | refine blockK_normal ?_ | refine blockK_ret ?_ | refine blockK_exit ?_ | refine blockK_pass rfl ?_) | ((with_reducible refine Cw.condC ?_); first | refine CwC.pt rfl (by omega) ?_ | refine CwC.pf rfl (by omega) ?_ | refine CwC.it rfl (by omega) ?_ | refine CwC.if rfl (by omega) ?_ | refine CwC.nt rfl (by omega) ?_ | refine CwC.nf rfl (by omega) ?_ | refine CwC.tt rfl ?_ | refine CwC.ff rfl ?_ | refine CwC.bt rfl (by assumption) ?_ | (refine CwC.bf rfl ?_ ?_; focus assumption))
  refine Ow.callF rfl rfl Tryd.call124 (S := fun _ v D => ∃ n : Int, v = vi n ∧ (0 ≤ n ↔ s.any badB = true) ∧ D = []) (fun w' hw' => IndexFunc_spec s k hk hc w' hs) ?_
  rintro B v D - - ⟨n, rfl, hn, rfl⟩
  refine ⟨_, Mrg.nil, ?_⟩
  refine Ow.run rfl fun k hk => ?_
  simp (disch := (first | omega | (simp only [lenS, lenT, UInt64.reduceToNat] ; try omega))) only [↓vcL_none, ↓vcB_binOp, ↓ev_tmp, putF_some, setF_s, setF_0, ↓getF_s, ↓getF_0, ↓ev_const, binX_vi_vi, bin_geq_i, ↓ov_some, nf_cons, ↓vcB_assign, ↓vcL_nil, Md.next_seq]
  (with_reducible refine hk _ _ _ _ ?_); clear hk k
  repeat' first | with_reducible (first | refine Cw.seq ?_ | refine thenK_normal ?_ | refine Ow.nil ?_) | ((with_reducible refine Cw.region (Ow.run rfl fun k hk => ?_)); simp (disch := (first | omega | (simp only [lenS, lenT, UInt64.reduceToNat] ; try omega))) only []; (with_reducible refine hk _ _ _ _ ?_); clear hk k) | with_reducible (first | refine Cw.block ?_ | refine Cw.skip ?_ | refine Cw.exit ?_ | refine Cw.ret ?_ | refine thenK_exit ?_ | refine thenK_ret ?_ | refine blockK_normal ?_ | refine blockK_ret ?_ | refine blockK_exit ?_ | refine blockK_pass rfl ?_) | ((with_reducible refine Cw.condC ?_); first | refine CwC.pt rfl (by omega) ?_ | refine CwC.pf rfl (by omega) ?_ | refine CwC.it rfl (by omega) ?_ | refine CwC.if rfl (by omega) ?_ | refine CwC.nt rfl (by omega) ?_ | refine CwC.nf rfl (by omega) ?_ | refine CwC.tt rfl ?_ | refine CwC.ff rfl ?_ | refine CwC.bt rfl (by assumption) ?_ | (refine CwC.bf rfl ?_ ?_; focus assumption))
  refine ⟨_, (by simp (disch := (first | omega | (simp only [lenS, lenT, UInt64.reduceToNat] ; try omega))) only [resVs_cons, resV_tmp, ↓getF_s, ↓getF_0, resVs_nil, cons2_some]; rfl), trivial, ?_⟩
  exact congrArg Value.bool (by rw [Bool.eq_iff_iff, decide_eq_true_eq]; exact hn)
theorem isName_spec (s : List UInt8) (w : World) (hs : s.length < 1099511627776) :
    Rets Tryd.prog 59 #[vs s] w (fun v D => v = .bool (!(s == []) && decide (s.length ≤ 32) && !(s.any badB)) ∧ D = []) := by
  refine Rets.enterV Tryd.func59 rfl (rs := [.tmp 2]) Tryd.results59 Tryd.ntmps59 ?_
  simp only [List.size_toArray, List.length_cons, List.length_nil, Nat.reduceAdd, Nat.reduceSub, List.replicate_succ, List.replicate_zero, List.cons_append, List.nil_append]
  cases h0 : (s != [])
  · have e0 : (s == []) = true := by simpa using h0
    repeat' first | with_reducible (first | refine Cw.seq ?_ | refine thenK_normal ?_ | refine Ow.nil ?_) | ((with_reducible refine Cw.region (Ow.run rfl fun k hk => ?_)); simp (disch := (first | omega | (simp only [lenS, lenT, UInt64.reduceToNat] ; try omega))) only [↓vcL_none, ↓vcB_assign, ↓ov_some, ↓ev_const, putF_some, setF_s, setF_0, nf_cons, ↓vcL_nil, Md.next_seq, ↓vcB_move, ↓ev_tmp, ↓getF_0, ↓vcB_binOp, ↓getF_s, lit_str, binX_vs, bin_neq_s, h0, ↓vcL_some, lit_i64, yieldF_lit, ↓nthO_s, ↓nthO_0, yieldL_some, boolOf_b, some_beq, beq_true, ↓ib_false, ↓vcB_pick, pick_f]; (with_reducible refine hk _ _ _ _ ?_); clear hk k) | with_reducible (first | refine Cw.block ?_ | refine Cw.skip ?_ | refine Cw.exit ?_ | refine Cw.ret ?_ | refine thenK_exit ?_ | refine thenK_ret ?_ | refine blockK_normal ?_ | refine blockK_ret ?_ | refine blockK_exit ?_ | refine blockK_pass rfl ?_) | ((with_reducible refine Cw.condC ?_); first | refine CwC.pt rfl (by omega) ?_ | refine CwC.pf rfl (by omega) ?_ | refine CwC.it rfl (by omega) ?_ | refine CwC.if rfl (by omega) ?_ | refine CwC.nt rfl (by omega) ?_ | refine CwC.nf rfl (by omega) ?_ | refine CwC.tt rfl ?_ | refine CwC.ff rfl ?_ | refine CwC.bt rfl (by assumption) ?_ | (refine CwC.bf rfl ?_ ?_; focus assumption))
    refine ⟨_, (by simp (disch := (first | omega | (simp only [lenS, lenT, UInt64.reduceToNat] ; try omega))) only [resVs_cons, resV_tmp, ↓getF_s, ↓getF_0, resVs_nil, cons2_some]; rfl), trivial, ?_⟩
    simp [tupV, e0]
  · have e0 : (s == []) = false := by simpa using h0
    cases h1 : decide ((s.length : Int) ≤ 32)
    · have e1 : decide (s.length ≤ 32) = false := decide_eq_false (by have := of_decide_eq_false h1; omega)
      repeat' first | with_reducible (first | refine Cw.seq ?_ | refine thenK_normal ?_ | refine Ow.nil ?_) | ((with_reducible refine Cw.region (Ow.run rfl fun k hk => ?_)); simp (disch := (first | omega | (simp only [lenS, lenT, UInt64.reduceToNat] ; try omega))) only [↓vcL_none, ↓vcB_assign, ↓ov_some, ↓ev_const, putF_some, setF_s, setF_0, nf_cons, ↓vcL_nil, Md.next_seq, ↓vcB_move, ↓ev_tmp, ↓getF_0, ↓vcB_binOp, ↓getF_s, lit_str, binX_vs, bin_neq_s, h0, ↓vcL_some, lit_i64, yieldF_lit, ↓nthO_s, ↓nthO_0, yieldL_some, boolOf_b, beq_self_eq_true, ↓ib_true, ↓vcB_len, Tryd.ix9, len_str, binX_vi_vi, bin_leq_i, h1, ↓vcB_pick, pick_t, some_beq, beq_true, ↓ib_false, pick_f]; (with_reducible refine hk _ _ _ _ ?_); clear hk k) | with_reducible (first | refine Cw.block ?_ | refine Cw.skip ?_ | refine Cw.exit ?_ | refine Cw.ret ?_ | refine thenK_exit ?_ | refine thenK_ret ?_ | refine blockK_normal ?_ | refine blockK_ret ?_ | refine blockK_exit ?_ | refine blockK_pass rfl ?_) | ((with_reducible refine Cw.condC ?_); first | refine CwC.pt rfl (by omega) ?_ | refine CwC.pf rfl (by omega) ?_ | refine CwC.it rfl (by omega) ?_ | refine CwC.if rfl (by omega) ?_ | refine CwC.nt rfl (by omega) ?_ | refine CwC.nf rfl (by omega) ?_ | refine CwC.tt rfl ?_ | refine CwC.ff rfl ?_ | refine CwC.bt rfl (by assumption) ?_ | (refine CwC.bf rfl ?_ ?_; focus assumption))
      refine ⟨_, (by simp (disch := (first | omega | (simp only [lenS, lenT, UInt64.reduceToNat] ; try omega))) only [resVs_cons, resV_tmp, ↓getF_s, ↓getF_0, resVs_nil, cons2_some]; rfl), trivial, ?_⟩
      simp only [tupV, e0, e1, Bool.not_false, Bool.true_and, Bool.false_and, Bool.and_false]
    · have e1 : decide (s.length ≤ 32) = true := decide_eq_true (by have := of_decide_eq_true h1; omega)
      repeat' first | with_reducible (first | refine Cw.seq ?_ | refine thenK_normal ?_ | refine Ow.nil ?_) | ((with_reducible refine Cw.region (Ow.run rfl fun k hk => ?_)); simp (disch := (first | omega | (simp only [lenS, lenT, UInt64.reduceToNat] ; try omega))) only [↓vcL_none, ↓vcB_assign, ↓ov_some, ↓ev_const, putF_some, setF_s, setF_0, nf_cons, ↓vcL_nil, Md.next_seq, ↓vcB_move, ↓ev_tmp, ↓getF_0, ↓vcB_binOp, ↓getF_s, lit_str, binX_vs, bin_neq_s, h0, ↓vcL_some, lit_i64, yieldF_lit, ↓nthO_s, ↓nthO_0, yieldL_some, boolOf_b, beq_self_eq_true, ↓ib_true, ↓vcB_len, Tryd.ix9, len_str, binX_vi_vi, bin_leq_i, h1, ↓vcB_pick, pick_t, ↓vcB_call]; (with_reducible refine hk _ _ _ _ ?_); clear hk k) | with_reducible (first | refine Cw.block ?_ | refine Cw.skip ?_ | refine Cw.exit ?_ | refine Cw.ret ?_ | refine thenK_exit ?_ | refine thenK_ret ?_ | refine blockK_normal ?_ | refine blockK_ret ?_ | refine blockK_exit ?_ | refine blockK_pass rfl ?_) | ((with_reducible refine Cw.condC ?_); first | refine CwC.pt rfl (by omega) ?_ | refine CwC.pf rfl (by omega) ?_ | refine CwC.it rfl (by omega) ?_ | refine CwC.if rfl (by omega) ?_ | refine CwC.nt rfl (by omega) ?_ | refine CwC.nf rfl (by omega) ?_ | refine CwC.tt rfl ?_ | refine CwC.ff rfl ?_ | refine CwC.bt rfl (by assumption) ?_ | (refine CwC.bf rfl ?_ ?_; focus assumption))
      refine Ow.callFV rfl Tryd.call93 (fun w' hw' => ContainsFunc_spec s 94 Tryd.call94 isNameC_spec w' hs) ?_
      refine Ow.run rfl fun k hk => ?_
      simp (disch := (first | omega | (simp only [lenS, lenT, UInt64.reduceToNat] ; try omega))) only [↓vcL_some, lit_str, lit_i64, putF_some, setF_s, setF_0, yieldF_lit, ↓nthO_s, ↓nthO_0, yieldL_some, ↓getF_s, ↓getF_0, boolOf_b, beq_self_eq_true, ↓ib_true, ↓vcB_unOp, ↓ev_tmp, un_not, ↓ov_some, nf_cons, ↓vcL_none, ↓vcB_pick, ↓ev_const, pick_t, ↓vcB_assign, ↓vcL_nil, Md.next_seq]
      (with_reducible refine hk _ _ _ _ ?_); clear hk k
      repeat' first | with_reducible (first | refine Cw.seq ?_ | refine thenK_normal ?_ | refine Ow.nil ?_) | ((with_reducible refine Cw.region (Ow.run rfl fun k hk => ?_)); simp (disch := (first | omega | (simp only [lenS, lenT, UInt64.reduceToNat] ; try omega))) only []; (with_reducible refine hk _ _ _ _ ?_); clear hk k) | with_reducible (first | refine Cw.block ?_ | refine Cw.skip ?_ | refine Cw.exit ?_ | refine Cw.ret ?_ | refine thenK_exit ?_ | refine thenK_ret ?_ | refine blockK_normal ?_ | refine blockK_ret ?_ | refine blockK_exit ?_ | refine blockK_pass rfl ?_) | ((with_reducible refine Cw.condC ?_); first | refine CwC.pt rfl (by omega) ?_ | refine CwC.pf rfl (by omega) ?_ | refine CwC.it rfl (by omega) ?_ | refine CwC.if rfl (by omega) ?_ | refine CwC.nt rfl (by omega) ?_ | refine CwC.nf rfl (by omega) ?_ | refine CwC.tt rfl ?_ | refine CwC.ff rfl ?_ | refine CwC.bt rfl (by assumption) ?_ | (refine CwC.bf rfl ?_ ?_; focus assumption))
      refine ⟨_, (by simp (disch := (first | omega | (simp only [lenS, lenT, UInt64.reduceToNat] ; try omega))) only [resVs_cons, resV_tmp, ↓getF_s, ↓getF_0, resVs_nil, cons2_some]; rfl), trivial, ?_⟩
      simp only [tupV, e0, e1, Bool.not_false, Bool.true_and]
end Go.Proofs
open Go Go.Proofs Go.Sx
namespace Go.Proofs
set_option maxRecDepth 10000
set_option maxHeartbeats 4000000
set_option linter.unusedSimpArgs false
/-- May a text be a name? -/
def nameV (s : List UInt8) : Bool := !(s == []) && decide (s.length ≤ 32) && !(s.any badB)
end Go.Proofs
open Go Go.Proofs Go.Sx
namespace Go.Proofs
set_option maxRecDepth 10000
set_option maxHeartbeats 4000000
set_option linter.unusedSimpArgs false
/-! ### Refs -/
structure RefL where
  name : List UInt8
  id : IdL
def refC (r : RefL) : List Value := vs r.name :: r.id.l.map v8
theorem refC_len (r : RefL) : (refC r).length = 33 := by simp [refC, r.id.h]
theorem load_ref0 (r : RefL) (E : TypeId) (n : Nat) : loadV (some (false, n)) (some (.cells (refC r).toArray E (0, 0))) 0 = some (vs r.name) := (rfl)
theorem load_ref1 (r : RefL) (E : TypeId) : loadV (some (true, 32)) (some (.cells (refC r).toArray E (0, 0))) 1 = some (.agg (a8 r.id.l)) := by
  have hs : 1 + 32 ≤ (refC r).toArray.size := by rw [List.size_toArray, refC_len]; decide
  simp only [loadV, hs, ↓reduceIte]
  congr 2
  show (refC r).toArray.extract 1 33 = (r.id.l.map v8).toArray
  rw [List.extract_toArray]
  congr 1
  unfold refC
  rw [List.extract_eq_take_drop, List.drop_succ_cons, List.drop_zero, List.take_of_length_le (by simp [r.id.h])]
theorem cells_ref (r : RefL) : Value.cells (.agg (refC r).toArray) = (refC r).toArray := cells_agg _
theorem eqId (l l' : List UInt8) (h : l.length = 32 ∧ l'.length = 32) : binX Tryd.prog .eql 40 (.agg (a8 l)) (.agg (a8 l')) = some (.bool (l == l')) :=
  binX_a8 Tryd.underlying40 Tryd.underlying5 Tryd.ag5 (by kernel_rfl) l l' h
/-- A name is given a value, or taken away. -/
def setV (r : RefL) (m : Vals) : Vals := if r.id.l == z32 then delV r.name (updV r.name r.id.l m) else updV r.name r.id.l m
theorem set_spec (b : Nat) (o : Obj) (m : Vals) (r : RefL) (w : World) (ho : w.heap[b]? = some o) (hm : MapR o m) :
    Rets Tryd.prog 111 #[vm b, .agg (refC r).toArray] w (fun v D => ∃ o', D = [(b, o')] ∧ v = .bool (decide ((setV r m).length ≤ 16)) ∧ MapR o' (setV r m)) := by
  have hbl := (Array.getElem?_eq_some_iff.1 ho).1
  refine Rets.enterM Tryd.func111 rfl (rs := [.tmp 4]) Tryd.results111 Tryd.ntmps111 ho ?_
  simp only [List.size_toArray, List.length_cons, List.length_nil, Nat.reduceAdd, Nat.reduceSub, List.replicate_succ, List.replicate_zero, List.cons_append, List.nil_append]
  repeat' first | with_reducible (first | refine Cw.seq ?_ | refine thenK_normal ?_ | refine Ow.nil ?_) | ((with_reducible refine Cw.region (Ow.run rfl fun k hk => ?_)); simp (disch := (first | omega | (simp only [lenS, lenT, UInt64.reduceToNat] ; try omega))) only [↓vcL_none, ↓vcB_box]; (with_reducible refine hk _ _ _ _ ?_); clear hk k) | with_reducible (first | refine Cw.block ?_ | refine Cw.skip ?_ | refine Cw.exit ?_ | refine Cw.ret ?_ | refine thenK_exit ?_ | refine thenK_ret ?_ | refine blockK_normal ?_ | refine blockK_ret ?_ | refine blockK_exit ?_ | refine blockK_pass rfl ?_) | ((with_reducible refine Cw.condC ?_); first | refine CwC.pt rfl (by omega) ?_ | refine CwC.pf rfl (by omega) ?_ | refine CwC.it rfl (by omega) ?_ | refine CwC.if rfl (by omega) ?_ | refine CwC.nt rfl (by omega) ?_ | refine CwC.nf rfl (by omega) ?_ | refine CwC.tt rfl ?_ | refine CwC.ff rfl ?_ | refine CwC.bt rfl (by assumption) ?_ | (refine CwC.bf rfl ?_ ?_; focus assumption))
  refine Ow.box rfl rfl fun b1 hb1 hw1 => ?_
  obtain ⟨h01, -⟩ := hb1
  refine Ow.run rfl fun k hk => ?_
  simp (disch := (first | omega | (simp only [lenS, lenT, UInt64.reduceToNat] ; try omega))) only [↓vcL_none, ↓vcB_assign, ↓ov_some, putF_some, setF_s, setF_0, ↓ev_const, nf_cons, ↓vcL_nil, Md.next_seq, ↓ev_tmp, ↓getF_s, ↓getF_0, cells_agg, List.cons_append, List.nil_append]
  (with_reducible refine hk _ _ _ _ ?_); clear hk k
  repeat' first | with_reducible (first | refine Cw.seq ?_ | refine thenK_normal ?_ | refine Ow.nil ?_) | ((with_reducible refine Cw.region (Ow.run rfl fun k hk => ?_)); simp (disch := (first | omega | (simp only [lenS, lenT, UInt64.reduceToNat] ; try omega))) only [↓vcL_none, ↓vcB_move, ↓ov_some, ↓ev_tmp, ↓getF_0, putF_some, setF_s, setF_0, nf_cons, ↓vcB_fieldAddr, Tryd.fl42_0, ↓getF_s, fieldAddr_p, Nat.add_zero, ↓vcB_load, Md.next_seq, rd_seq_load, ↓ib_true, Tryd.ag9, loadAt_p, read_other, read_same, load_ref0, Tryd.fl42_1, Nat.zero_add, Tryd.ag40, load_ref1, ↓vcB_mapUpdate]; (with_reducible refine hk _ _ _ _ ?_); clear hk k) | with_reducible (first | refine Cw.block ?_ | refine Cw.skip ?_ | refine Cw.exit ?_ | refine Cw.ret ?_ | refine thenK_exit ?_ | refine thenK_ret ?_ | refine blockK_normal ?_ | refine blockK_ret ?_ | refine blockK_exit ?_ | refine blockK_pass rfl ?_) | ((with_reducible refine Cw.condC ?_); first | refine CwC.pt rfl (by omega) ?_ | refine CwC.pf rfl (by omega) ?_ | refine CwC.it rfl (by omega) ?_ | refine CwC.if rfl (by omega) ?_ | refine CwC.nt rfl (by omega) ?_ | refine CwC.nf rfl (by omega) ?_ | refine CwC.tt rfl ?_ | refine CwC.ff rfl ?_ | refine CwC.bt rfl (by assumption) ?_ | (refine CwC.bf rfl ?_ ?_; focus assumption))
  refine Ow.mapUpdate rfl rfl Tryd.underlying126 Tryd.underlying9 rfl rfl rfl (look_same _ _ _) hm (fun o1 hm1 => ?_)
  rw [setB_same]
  have hil := r.id.h
  have hz := show z32.length = 32 by simp [z32]
  refine Ow.run rfl fun k hk => ?_
  simp (disch := (first | omega | (simp only [lenS, lenT, UInt64.reduceToNat] ; try omega))) only [↓vcL_nil, putF_none]
  (with_reducible refine hk _ _ _ _ ?_); clear hk k
  repeat' first | with_reducible (first | refine Cw.seq ?_ | refine thenK_normal ?_ | refine Ow.nil ?_) | ((with_reducible refine Cw.region (Ow.run rfl fun k hk => ?_)); simp (disch := (first | omega | (simp only [lenS, lenT, UInt64.reduceToNat] ; try omega))) only [↓vcL_none, ↓vcB_fieldAddr, Tryd.fl42_1, ↓ev_tmp, ↓getF_s, ↓getF_0, fieldAddr_p, Nat.zero_add, ↓ov_some, putF_some, setF_s, setF_0, nf_cons, ↓vcB_load, Md.next_seq, rd_seq_load, ↓ib_true, Tryd.ag40, loadAt_p, read_other, read_same, load_ref1, ↓vcB_build]; (with_reducible refine hk _ _ _ _ ?_); clear hk k) | with_reducible (first | refine Cw.block ?_ | refine Cw.skip ?_ | refine Cw.exit ?_ | refine Cw.ret ?_ | refine thenK_exit ?_ | refine thenK_ret ?_ | refine blockK_normal ?_ | refine blockK_ret ?_ | refine blockK_exit ?_ | refine blockK_pass rfl ?_) | ((with_reducible refine Cw.condC ?_); first | refine CwC.pt rfl (by omega) ?_ | refine CwC.pf rfl (by omega) ?_ | refine CwC.it rfl (by omega) ?_ | refine CwC.if rfl (by omega) ?_ | refine CwC.nt rfl (by omega) ?_ | refine CwC.nf rfl (by omega) ?_ | refine CwC.tt rfl ?_ | refine CwC.ff rfl ?_ | refine CwC.bt rfl (by assumption) ?_ | (refine CwC.bf rfl ?_ ?_; focus assumption))
  refine Ow.build (.agg (a8 z32)) rfl (by kernel_rfl) ?_
  refine Ow.run rfl fun k hk => ?_
  simp (disch := (first | omega | (simp only [lenS, lenT, UInt64.reduceToNat] ; try omega))) only [↓vcL_none, ↓vcB_binOp, ↓ev_tmp, putF_some, setF_s, setF_0, ↓getF_s, ↓getF_0, eqId, ↓ov_some, nf_cons, ↓vcL_nil, Md.next_seq]
  (with_reducible refine hk _ _ _ _ ?_); clear hk k
  unfold setV
  cases hid : (r.id.l == z32)
  · simp only [Bool.false_eq_true, ↓reduceIte]
    repeat' first | with_reducible (first | refine Cw.seq ?_ | refine thenK_normal ?_ | refine Ow.nil ?_) | ((with_reducible refine Cw.region (Ow.run rfl fun k hk => ?_)); simp (disch := (first | omega | (simp only [lenS, lenT, UInt64.reduceToNat] ; try omega))) only []; (with_reducible refine hk _ _ _ _ ?_); clear hk k) | with_reducible (first | refine Cw.block ?_ | refine Cw.skip ?_ | refine Cw.exit ?_ | refine Cw.ret ?_ | refine thenK_exit ?_ | refine thenK_ret ?_ | refine blockK_normal ?_ | refine blockK_ret ?_ | refine blockK_exit ?_ | refine blockK_pass rfl ?_) | ((with_reducible refine Cw.condC ?_); first | refine CwC.pt rfl (by omega) ?_ | refine CwC.pf rfl (by omega) ?_ | refine CwC.it rfl (by omega) ?_ | refine CwC.if rfl (by omega) ?_ | refine CwC.nt rfl (by omega) ?_ | refine CwC.nf rfl (by omega) ?_ | refine CwC.tt rfl ?_ | refine CwC.ff rfl ?_ | refine CwC.bt rfl (by assumption) ?_ | (refine CwC.bf rfl ?_ ?_; focus assumption))
    refine Cw.region ?_
    refine Ow.value rfl rfl rfl ?_
    refine Ow.lenMap rfl rfl Tryd.underlying126 rfl (read_same _ _ _ _) hm1 ?_
    refine Ow.run rfl fun k hk => ?_
    simp (disch := (first | omega | (simp only [lenS, lenT, UInt64.reduceToNat] ; try omega))) only [↓vcL_none, ↓vcB_binOp, ↓ev_tmp, ↓getF_0, putF_some, setF_s, setF_0, ↓getF_s, ↓ev_const, lit_i64, binX_vi_vi, bin_leq_i, ↓ov_some, nf_cons, ↓vcB_assign, ↓vcL_nil, Md.next_seq]
    (with_reducible refine hk _ _ _ _ ?_); clear hk k
    repeat' first | with_reducible (first | refine Cw.seq ?_ | refine thenK_normal ?_ | refine Ow.nil ?_) | ((with_reducible refine Cw.region (Ow.run rfl fun k hk => ?_)); simp (disch := (first | omega | (simp only [lenS, lenT, UInt64.reduceToNat] ; try omega))) only []; (with_reducible refine hk _ _ _ _ ?_); clear hk k) | with_reducible (first | refine Cw.block ?_ | refine Cw.skip ?_ | refine Cw.exit ?_ | refine Cw.ret ?_ | refine thenK_exit ?_ | refine thenK_ret ?_ | refine blockK_normal ?_ | refine blockK_ret ?_ | refine blockK_exit ?_ | refine blockK_pass rfl ?_) | ((with_reducible refine Cw.condC ?_); first | refine CwC.pt rfl (by omega) ?_ | refine CwC.pf rfl (by omega) ?_ | refine CwC.it rfl (by omega) ?_ | refine CwC.if rfl (by omega) ?_ | refine CwC.nt rfl (by omega) ?_ | refine CwC.nf rfl (by omega) ?_ | refine CwC.tt rfl ?_ | refine CwC.ff rfl ?_ | refine CwC.bt rfl (by assumption) ?_ | (refine CwC.bf rfl ?_ ?_; focus assumption))
    refine ⟨_, _, _, (by simp (disch := omega) only [resVs_cons, resV_tmp, getF_s, getF_0, resVs_nil, cons2_some]; rfl), rfl, ⟨hw1, trivial⟩, ?_, hm1⟩
    exact congrArg Value.bool (decide_eq_decide.2 (by omega))
  · simp only [↓reduceIte]
    repeat' first | with_reducible (first | refine Cw.seq ?_ | refine thenK_normal ?_ | refine Ow.nil ?_) | ((with_reducible refine Cw.region (Ow.run rfl fun k hk => ?_)); simp (disch := (first | omega | (simp only [lenS, lenT, UInt64.reduceToNat] ; try omega))) only [↓vcL_none, ↓vcB_move, ↓ov_some, ↓ev_tmp, ↓getF_0, putF_some, setF_s, setF_0, nf_cons, ↓vcB_fieldAddr, Tryd.fl42_0, ↓getF_s, fieldAddr_p, Nat.add_zero, ↓vcB_load, Md.next_seq, rd_seq_load, ↓ib_true, Tryd.ag9, loadAt_p, read_other, read_same, load_ref0, ↓vcB_delete]; (with_reducible refine hk _ _ _ _ ?_); clear hk k) | with_reducible (first | refine Cw.block ?_ | refine Cw.skip ?_ | refine Cw.exit ?_ | refine Cw.ret ?_ | refine thenK_exit ?_ | refine thenK_ret ?_ | refine blockK_normal ?_ | refine blockK_ret ?_ | refine blockK_exit ?_ | refine blockK_pass rfl ?_) | ((with_reducible refine Cw.condC ?_); first | refine CwC.pt rfl (by omega) ?_ | refine CwC.pf rfl (by omega) ?_ | refine CwC.it rfl (by omega) ?_ | refine CwC.if rfl (by omega) ?_ | refine CwC.nt rfl (by omega) ?_ | refine CwC.nf rfl (by omega) ?_ | refine CwC.tt rfl ?_ | refine CwC.ff rfl ?_ | refine CwC.bt rfl (by assumption) ?_ | (refine CwC.bf rfl ?_ ?_; focus assumption))
    refine Ow.mapDelete rfl rfl Tryd.underlying126 Tryd.underlying9 rfl rfl (look_same _ _ _) hm1 (fun o2 hm2 => ?_)
    rw [setB_same]
    refine Ow.run rfl fun k hk => ?_
    simp (disch := (first | omega | (simp only [lenS, lenT, UInt64.reduceToNat] ; try omega))) only [↓vcL_nil, putF_none]
    (with_reducible refine hk _ _ _ _ ?_); clear hk k
    repeat' first | with_reducible (first | refine Cw.seq ?_ | refine thenK_normal ?_ | refine Ow.nil ?_) | ((with_reducible refine Cw.region (Ow.run rfl fun k hk => ?_)); simp (disch := (first | omega | (simp only [lenS, lenT, UInt64.reduceToNat] ; try omega))) only []; (with_reducible refine hk _ _ _ _ ?_); clear hk k) | with_reducible (first | refine Cw.block ?_ | refine Cw.skip ?_ | refine Cw.exit ?_ | refine Cw.ret ?_ | refine thenK_exit ?_ | refine thenK_ret ?_ | refine blockK_normal ?_ | refine blockK_ret ?_ | refine blockK_exit ?_ | refine blockK_pass rfl ?_) | ((with_reducible refine Cw.condC ?_); first | refine CwC.pt rfl (by omega) ?_ | refine CwC.pf rfl (by omega) ?_ | refine CwC.it rfl (by omega) ?_ | refine CwC.if rfl (by omega) ?_ | refine CwC.nt rfl (by omega) ?_ | refine CwC.nf rfl (by omega) ?_ | refine CwC.tt rfl ?_ | refine CwC.ff rfl ?_ | refine CwC.bt rfl (by assumption) ?_ | (refine CwC.bf rfl ?_ ?_; focus assumption))
    refine Cw.region ?_
    refine Ow.value rfl rfl rfl ?_
    refine Ow.lenMap rfl rfl Tryd.underlying126 rfl (read_same _ _ _ _) hm2 ?_
    refine Ow.run rfl fun k hk => ?_
    simp (disch := (first | omega | (simp only [lenS, lenT, UInt64.reduceToNat] ; try omega))) only [↓vcL_none, ↓vcB_binOp, ↓ev_tmp, ↓getF_0, putF_some, setF_s, setF_0, ↓getF_s, ↓ev_const, lit_i64, binX_vi_vi, bin_leq_i, ↓ov_some, nf_cons, ↓vcB_assign, ↓vcL_nil, Md.next_seq]
    (with_reducible refine hk _ _ _ _ ?_); clear hk k
    repeat' first | with_reducible (first | refine Cw.seq ?_ | refine thenK_normal ?_ | refine Ow.nil ?_) | ((with_reducible refine Cw.region (Ow.run rfl fun k hk => ?_)); simp (disch := (first | omega | (simp only [lenS, lenT, UInt64.reduceToNat] ; try omega))) only []; (with_reducible refine hk _ _ _ _ ?_); clear hk k) | with_reducible (first | refine Cw.block ?_ | refine Cw.skip ?_ | refine Cw.exit ?_ | refine Cw.ret ?_ | refine thenK_exit ?_ | refine thenK_ret ?_ | refine blockK_normal ?_ | refine blockK_ret ?_ | refine blockK_exit ?_ | refine blockK_pass rfl ?_) | ((with_reducible refine Cw.condC ?_); first | refine CwC.pt rfl (by omega) ?_ | refine CwC.pf rfl (by omega) ?_ | refine CwC.it rfl (by omega) ?_ | refine CwC.if rfl (by omega) ?_ | refine CwC.nt rfl (by omega) ?_ | refine CwC.nf rfl (by omega) ?_ | refine CwC.tt rfl ?_ | refine CwC.ff rfl ?_ | refine CwC.bt rfl (by assumption) ?_ | (refine CwC.bf rfl ?_ ?_; focus assumption))
    refine ⟨_, _, _, (by simp (disch := omega) only [resVs_cons, resV_tmp, getF_s, getF_0, resVs_nil, cons2_some]; rfl), rfl, ⟨hw1, trivial⟩, ?_, hm2⟩
    exact congrArg Value.bool (decide_eq_decide.2 (by omega))
end Go.Proofs
open Go Go.Proofs Go.Sx
namespace Go.Proofs
set_option maxRecDepth 10000
set_option maxHeartbeats 4000000
set_option linter.unusedSimpArgs false
theorem build_ref (n : List UInt8) (id : IdL) : buildV (plcT Tryd.prog 42) (zeroV Tryd.prog 42) [(0, vs n), (1, .agg (a8 id.l))] = some (.agg (refC ⟨n, id⟩).toArray) := by
  have hz : zeroV Tryd.prog 42 = some (.agg (vs [] :: (List.replicate 32 (0 : UInt8)).map v8).toArray) := Tryd.zr42
  rw [Tryd.pc42, hz]
  have h1 : (Value.cells (vs n)) = #[vs n] := rfl
  have h2 : Value.cells (.agg (a8 id.l)) = (id.l.map v8).toArray := cells_agg _
  have hp1 : putC (vs [] :: (List.replicate 32 (0 : UInt8)).map v8).toArray 0 [vs n] = (vs n :: (List.replicate 32 (0 : UInt8)).map v8).toArray := rfl
  have hp2 := putC_app (id.l.map v8) [vs n] ((List.replicate 32 (0 : UInt8)).map v8) (by simp [id.h])
  simp only [List.cons_append, List.nil_append, List.length_cons, List.length_nil, Nat.zero_add] at hp2
  have hd : List.drop (id.l.map v8).length ((List.replicate 32 (0 : UInt8)).map v8) = [] := List.drop_eq_nil_of_le (by simp [id.h])
  rw [hd, List.append_nil] at hp2
  have s1 : (vs [] :: (List.replicate 32 (0 : UInt8)).map v8).toArray.size = 33 := by simp
  have s2 : (vs n :: (List.replicate 32 (0 : UInt8)).map v8).toArray.size = 33 := by simp
  have s3 : (id.l.map v8).toArray.size = 32 := by simp [id.h]
  simp only [buildV, fillV, List.getElem?_cons_zero, List.getElem?_cons_succ, h1, h2, s3]
  rw [if_pos ⟨rfl, by rw [s1]; decide⟩, if_pos ⟨trivial, by rw [hp1, s2]; decide⟩, hp1, hp2]
  rfl
theorem idR_len {s : List UInt8} {a : Nat} {e : Int} (ha : a ≤ s.length) : (idR s a e).1.length = 32 := by
  unfold idR
  simp only
  split
  · assumption
  · simp [z32]
theorem idR_le {s : List UInt8} {a : Nat} {e : Int} (ha : a ≤ s.length) : a ≤ (idR s a e).2.1 ∧ (idR s a e).2.1 ≤ s.length := rawR_le ha
theorem textR_le {s : List UInt8} {a : Nat} {e most : Int} (ha : a ≤ s.length) : a ≤ (textR s a e most).2.1 ∧ (textR s a e most).2.1 ≤ s.length := by
  have hp := numR_le (e := e) (most := most) ha
  have hq := rawR_le (e := (numR s a e most).2.2) (n := (numR s a e most).1) hp.2
  unfold textR
  simp only
  split
  · exact ⟨Nat.le_refl _, ha⟩
  · exact ⟨by omega, hq.2⟩
theorem store_ref (old : Array Value) (r : RefL) (E : TypeId) (h : old.size = 33) : storeV (some (true, 33)) (some (.cells old E (0, 0))) 0 (.agg (refC r).toArray) = some (.cells (refC r).toArray E (0, 0)) := by
  have h1 : Value.cells (.agg (refC r).toArray) = (refC r).toArray := cells_agg _
  have hp := putC_app (refC r) [] old.toList (by rw [refC_len, Array.length_toList, h]; exact Nat.le_refl _)
  simp only [List.nil_append, List.length_nil, Array.toArray_toList] at hp
  have hd : List.drop (refC r).length old.toList = [] := List.drop_eq_nil_of_le (by rw [refC_len, Array.length_toList, h]; exact Nat.le_refl _)
  rw [hd, List.append_nil] at hp
  have ho : (refC r).all Value.oneCell' = true := by
    unfold refC
    rw [List.all_cons, List.all_map, Bool.and_eq_true]
    exact ⟨rfl, List.all_eq_true.2 fun x _ => rfl⟩
  unfold storeV
  simp only [h1]
  rw [if_pos ⟨by rw [List.size_toArray, refC_len], by omega, .inl (Nat.le_refl 0), ho⟩, hp]
theorem load_ref (r : RefL) (E : TypeId) : loadV (some (true, 33)) (some (.cells (refC r).toArray E (0, 0))) 0 = some (.agg (refC r).toArray) := load_all _ E (0, 0) 33 (by rw [List.size_toArray, refC_len])
theorem store_rr (r r' : RefL) (E : TypeId) : storeV (some (true, 33)) (some (.cells (refC r').toArray E (0, 0))) 0 (.agg (refC r).toArray) = some (.cells (refC r).toArray E (0, 0)) := store_ref _ _ _ (by rw [List.size_toArray, refC_len])
def ref0 : RefL := ⟨[], id0⟩
theorem zrRef : zeroV Tryd.prog 42 = some (.agg (refC ref0).toArray) := Tryd.zr42
/-- A ref. -/
def oneR (s : List UInt8) (a : Nat) (e : Int) (ha : a ≤ s.length) : RefL × Nat × Int :=
  (⟨(textR s a e 32).1, ⟨(idR s (textR s a e 32).2.1 (textR s a e 32).2.2).1, idR_len (textR_le ha).2⟩⟩, (idR s (textR s a e 32).2.1 (textR s a e 32).2.2).2)
theorem one_spec (b : Nat) (s : List UInt8) (a : Nat) (e : Int) (w : World) (ha : a ≤ s.length) (hs : s.length < 1099511627776) (ho : w.heap[b]? = some (.cells #[vs s, vi a, vi e] 139 (0, 0))) :
    Rets Tryd.prog 44 #[vp b 0] w (fun v D => ∃ o, D = [(b, o)] ∧ v = .agg (refC (oneR s a e ha).1).toArray ∧ o = .cells #[vs s, vi (oneR s a e ha).2.1, vi (oneR s a e ha).2.2] 139 (0, 0)) := by
  have hbl := (Array.getElem?_eq_some_iff.1 ho).1
  have ht := textR_le (e := e) (most := 32) ha
  unfold oneR
  refine Rets.enterM Tryd.func44 rfl (rs := [.cell 2 42]) Tryd.results44 Tryd.ntmps44 ho ?_
  simp only [List.size_toArray, List.length_cons, List.length_nil, Nat.reduceAdd, Nat.reduceSub, List.replicate_succ, List.replicate_zero, List.cons_append, List.nil_append]
  repeat' first | with_reducible (first | refine Cw.seq ?_ | refine thenK_normal ?_ | refine Ow.nil ?_) | ((with_reducible refine Cw.region (Ow.run rfl fun k hk => ?_)); simp (disch := (first | omega | (simp only [lenS, lenT, UInt64.reduceToNat] ; try omega))) only [↓vcL_none, ↓vcB_alloc]; (with_reducible refine hk _ _ _ _ ?_); clear hk k) | with_reducible (first | refine Cw.block ?_ | refine Cw.skip ?_ | refine Cw.exit ?_ | refine Cw.ret ?_ | refine thenK_exit ?_ | refine thenK_ret ?_ | refine blockK_normal ?_ | refine blockK_ret ?_ | refine blockK_exit ?_ | refine blockK_pass rfl ?_) | ((with_reducible refine Cw.condC ?_); first | refine CwC.pt rfl (by omega) ?_ | refine CwC.pf rfl (by omega) ?_ | refine CwC.it rfl (by omega) ?_ | refine CwC.if rfl (by omega) ?_ | refine CwC.nt rfl (by omega) ?_ | refine CwC.nf rfl (by omega) ?_ | refine CwC.tt rfl ?_ | refine CwC.ff rfl ?_ | refine CwC.bt rfl (by assumption) ?_ | (refine CwC.bf rfl ?_ ?_; focus assumption))
  refine Ow.alloc rfl rfl zrRef fun b1 hb1 hw1 => ?_
  rw [cells_ref]
  obtain ⟨h01, -⟩ := hb1
  refine Ow.run rfl fun k hk => ?_
  simp (disch := (first | omega | (simp only [lenS, lenT, UInt64.reduceToNat] ; try omega))) only [↓vcL_nil, putF_some, setF_s, setF_0, List.cons_append, List.nil_append]
  (with_reducible refine hk _ _ _ _ ?_); clear hk k
  repeat' first | with_reducible (first | refine Cw.seq ?_ | refine thenK_normal ?_ | refine Ow.nil ?_) | ((with_reducible refine Cw.region (Ow.run rfl fun k hk => ?_)); simp (disch := (first | omega | (simp only [lenS, lenT, UInt64.reduceToNat] ; try omega))) only [↓vcL_none, ↓vcB_move, ↓ov_some, ↓ev_tmp, ↓getF_0, putF_some, setF_s, setF_0, nf_cons, ↓vcB_call, Md.next_seq, lit_i64]; (with_reducible refine hk _ _ _ _ ?_); clear hk k) | with_reducible (first | refine Cw.block ?_ | refine Cw.skip ?_ | refine Cw.exit ?_ | refine Cw.ret ?_ | refine thenK_exit ?_ | refine thenK_ret ?_ | refine blockK_normal ?_ | refine blockK_ret ?_ | refine blockK_exit ?_ | refine blockK_pass rfl ?_) | ((with_reducible refine Cw.condC ?_); first | refine CwC.pt rfl (by omega) ?_ | refine CwC.pf rfl (by omega) ?_ | refine CwC.it rfl (by omega) ?_ | refine CwC.if rfl (by omega) ?_ | refine CwC.nt rfl (by omega) ?_ | refine CwC.nf rfl (by omega) ?_ | refine CwC.tt rfl ?_ | refine CwC.ff rfl ?_ | refine CwC.bt rfl (by assumption) ?_ | (refine CwC.bf rfl ?_ ?_; focus assumption))
  refine Ow.callM rfl rfl Tryd.call83 (by simp [keys]) (fun w' hw' => RText_spec b s a e 32 w' ha hs (hw'.has _ _ List.mem_cons_self)) ?_
  refine Ow.run rfl fun k hk => ?_
  simp (disch := (first | omega | (simp only [lenS, lenT, UInt64.reduceToNat] ; try omega))) only [↓vcL_none, ↓vcB_move, ↓ov_some, putF_some, setF_s, setF_0, ↓ev_tmp, ↓getF_0, nf_cons, ↓vcB_call, Md.next_seq, setB_same]
  (with_reducible refine hk _ _ _ _ ?_); clear hk k
  refine Ow.callM rfl rfl Tryd.call87 (by simp [keys]) (fun w' hw' => RId_spec b s _ _ w' ht.2 hs (hw'.has _ _ List.mem_cons_self)) ?_
  rw [setB_same]
  refine Ow.build _ rfl (build_ref (textR s a e 32).1 ⟨(idR s (textR s a e 32).2.1 (textR s a e 32).2.2).1, idR_len (textR_le ha).2⟩) ?_
  generalize (⟨(textR s a e 32).1, ⟨(idR s (textR s a e 32).2.1 (textR s a e 32).2.2).1, idR_len (textR_le ha).2⟩⟩ : RefL) = r
  generalize hq : (idR s (textR s a e 32).2.1 (textR s a e 32).2.2).2 = q
  refine Ow.run rfl fun k hk => ?_
  simp (disch := (first | omega | (simp only [lenS, lenT, UInt64.reduceToNat] ; try omega))) only [↓vcL_none, ↓vcB_store, Tryd.ag42, ↓ev_tmp, putF_some, setF_s, setF_0, ↓getF_s, ↓getF_0, storeAt_p, look_other, look_same, store_rr, upd_some, setB_other, setB_same, oh_some, ↓vcL_nil, Md.next_seq, nh_cons]
  (with_reducible refine hk _ _ _ _ ?_); clear hk k
  repeat' first | with_reducible (first | refine Cw.seq ?_ | refine thenK_normal ?_ | refine Ow.nil ?_) | ((with_reducible refine Cw.region (Ow.run rfl fun k hk => ?_)); simp (disch := (first | omega | (simp only [lenS, lenT, UInt64.reduceToNat] ; try omega))) only []; (with_reducible refine hk _ _ _ _ ?_); clear hk k) | with_reducible (first | refine Cw.block ?_ | refine Cw.skip ?_ | refine Cw.exit ?_ | refine Cw.ret ?_ | refine thenK_exit ?_ | refine thenK_ret ?_ | refine blockK_normal ?_ | refine blockK_ret ?_ | refine blockK_exit ?_ | refine blockK_pass rfl ?_) | ((with_reducible refine Cw.condC ?_); first | refine CwC.pt rfl (by omega) ?_ | refine CwC.pf rfl (by omega) ?_ | refine CwC.it rfl (by omega) ?_ | refine CwC.if rfl (by omega) ?_ | refine CwC.nt rfl (by omega) ?_ | refine CwC.nf rfl (by omega) ?_ | refine CwC.tt rfl ?_ | refine CwC.ff rfl ?_ | refine CwC.bt rfl (by assumption) ?_ | (refine CwC.bf rfl ?_ ?_; focus assumption))
  refine ⟨_, _, _, (by simp (disch := (first | omega | (simp only [lenS, lenT, UInt64.reduceToNat] ; try omega))) only [resVs_cons, resV_cell, Tryd.ag42, ↓getF_s, ↓getF_0, loadAt_p, read_other, read_same, load_ref, resVs_nil, cons2_some]; rfl), rfl, ⟨hw1, trivial⟩, ?_⟩
  exact ⟨rfl, rfl⟩
/-- A record that begins so: what stands in it; the reader behind it. -/
def recR (s : List UInt8) (a : Nat) (e : Int) (p : List UInt8) : Option (List UInt8) × Nat × Int :=
  let t := textR s a e 65536
  let u := unsealV t.1
  let c := cutP u.1 p
  (if u.2 = true ∧ c.2 = true ∧ t.2.2 = 0 then some c.1 else none, t.2)
end Go.Proofs
open Go Go.Proofs Go.Sx
namespace Go.Proofs
set_option maxRecDepth 10000
set_option maxHeartbeats 4000000
set_option linter.unusedSimpArgs false
theorem textR_len {s : List UInt8} {a : Nat} {e most : Int} (hs : s.length < 1099511627776) : (textR s a e most).1.length < 1099511627776 := by
  have : ∀ (b : Nat) (e n : Int), (rawR s b e n).1.length ≤ s.length := by
    intro b e n
    unfold rawR
    split
    · simp
    · split
      · simp
      · split
        · simp
        · simp only [List.length_take, List.length_drop]; omega
  unfold textR
  simp only
  split
  · simp
  · exact Nat.lt_of_le_of_lt (this _ _ _) hs
theorem unsealV_len (s : List UInt8) : (unsealV s).1.length ≤ s.length := by
  unfold unsealV
  split
  · simp
  · split
    · simp only [List.length_take]; omega
    · simp
/-- What unrecord leaves: the reader; and another one, if a record stood there. -/
def RecS (s : List UInt8) (a : Nat) (e : Int) (p : List UInt8) (b n : Nat) (v : Value) (D : Heap) : Prop :=
  ((recR s a e p).1 = none ∧ v = .pointer none ∧ D = [(b, .cells #[vs s, vi (recR s a e p).2.1, vi (recR s a e p).2.2] 139 (0, 0))]) ∨
  ∃ b' c, (recR s a e p).1 = some c ∧ v = vp b' 0 ∧ n ≤ b' ∧ b ≠ b' ∧ D = [(b, .cells #[vs s, vi (recR s a e p).2.1, vi (recR s a e p).2.2] 139 (0, 0)), (b', .cells #[vs c, vi 0, vi 0] 139 (0, 0))]
theorem recR_len {s : List UInt8} {a : Nat} {e : Int} {p c : List UInt8} (hs : s.length < 1099511627776) (h : (recR s a e p).1 = some c) : c.length < 1099511627776 := by
  have h1 := textR_len (a := a) (e := e) (most := 65536) hs
  have h2 := unsealV_len (textR s a e 65536).1
  unfold recR at h
  simp only at h
  split at h
  · simp only [Option.some.injEq] at h
    subst h
    unfold cutP
    split
    · simp only [List.length_drop]; omega
    · simp only; omega
  · cases h
theorem recR_err {s : List UInt8} {a : Nat} {e : Int} {p c : List UInt8} (h : (recR s a e p).1 = some c) : (recR s a e p).2.2 = 0 := by
  unfold recR at h ⊢
  simp only at h ⊢
  split at h
  · rename_i hh; exact hh.2.2
  · cases h
theorem unrecord_spec (b : Nat) (s : List UInt8) (a : Nat) (e : Int) (p : List UInt8) (w : World) (hG : GlobC w) (hbg : b ≠ 3) (ha : a ≤ s.length) (hs : s.length < 1099511627776) (ho : w.heap[b]? = some (.cells #[vs s, vi a, vi e] 139 (0, 0))) :
    Rets Tryd.prog 42 #[vp b 0, vs p] w (XS w [(b, .cells #[vs s, vi a, vi e] 139 (0, 0))] (RecS s a e p b 0)) := by
  have hbl := (Array.getElem?_eq_some_iff.1 ho).1
  have htl := textR_len (a := a) (e := e) (most := 65536) hs
  have hul := unsealV_len (textR s a e 65536).1
  have hr : recR s a e p = (if (unsealV (textR s a e 65536).1).2 = true ∧ (cutP (unsealV (textR s a e 65536).1).1 p).2 = true ∧ (textR s a e 65536).2.2 = 0 then some (cutP (unsealV (textR s a e 65536).1).1 p).1 else none, (textR s a e 65536).2) := rfl
  unfold RecS
  rw [hr]
  have hX0 : ∀ q, q ∈ [(b, Obj.cells #[vs s, vi a, vi e] 139 (0, 0))] → w.heap[q.1]? = some q.2 := by
    intro q hq
    obtain rfl := List.mem_singleton.1 hq
    exact ho
  refine Rets.enterX Tryd.func42 rfl (rs := [.tmp 4]) Tryd.results42 Tryd.ntmps42 hX0 (by simp [keys]) ?_
  simp only [List.size_toArray, List.length_cons, List.length_nil, Nat.reduceAdd, Nat.reduceSub, List.replicate_succ, List.replicate_zero, List.cons_append, List.nil_append]
  repeat' first | with_reducible (first | refine Cw.seq ?_ | refine thenK_normal ?_ | refine Ow.nil ?_) | ((with_reducible refine Cw.region (Ow.run rfl fun k hk => ?_)); simp (disch := (first | omega | (simp only [lenS, lenT, UInt64.reduceToNat] ; try omega))) only [↓vcL_none, ↓vcB_assign, ↓ov_some, ↓ev_const, putF_some, setF_s, setF_0, nf_cons, ↓vcL_nil, Md.next_seq, ↓vcB_move, ↓ev_tmp, ↓getF_0, ↓vcB_call, lit_i64]; (with_reducible refine hk _ _ _ _ ?_); clear hk k) | with_reducible (first | refine Cw.block ?_ | refine Cw.skip ?_ | refine Cw.exit ?_ | refine Cw.ret ?_ | refine thenK_exit ?_ | refine thenK_ret ?_ | refine blockK_normal ?_ | refine blockK_ret ?_ | refine blockK_exit ?_ | refine blockK_pass rfl ?_) | ((with_reducible refine Cw.condC ?_); first | refine CwC.pt rfl (by omega) ?_ | refine CwC.pf rfl (by omega) ?_ | refine CwC.it rfl (by omega) ?_ | refine CwC.if rfl (by omega) ?_ | refine CwC.nt rfl (by omega) ?_ | refine CwC.nf rfl (by omega) ?_ | refine CwC.tt rfl ?_ | refine CwC.ff rfl ?_ | refine CwC.bt rfl (by assumption) ?_ | (refine CwC.bf rfl ?_ ?_; focus assumption))
  refine Ow.callM rfl rfl Tryd.call83 (by simp [keys]) (fun w' hw' => RText_spec b s a e 65536 w' ha hs (hw'.has _ _ List.mem_cons_self)) ?_
  rw [setB_same]
  generalize textR s a e 65536 = t at *
  obtain ⟨t, a2, e2⟩ := t
  simp only at htl hul ⊢
  refine Ow.run rfl fun k hk => ?_
  simp (disch := (first | omega | (simp only [lenS, lenT, UInt64.reduceToNat] ; try omega))) only [↓vcL_none, ↓vcB_call, putF_some, setF_s, setF_0]
  (with_reducible refine hk _ _ _ _ ?_); clear hk k
  refine Ow.callFV rfl Tryd.call82 (fun w' hw' => cUnseal_spec t w' (GlobC.of hG hw' (by simp [keys]; omega)) htl) ?_
  generalize unsealV t = u at *
  obtain ⟨u, ok⟩ := u
  simp only at hul ⊢
  refine Ow.run rfl fun k hk => ?_
  simp (disch := (first | omega | (simp only [lenS, lenT, UInt64.reduceToNat] ; try omega))) only [↓vcL_none, ↓vcB_move, ↓ov_some, putF_some, setF_s, setF_0, ↓ev_tmp, ↓getF_s, ↓getF_0, nf_cons, ↓vcB_extract, extract_t, tup2_0, tup2_1, ↓vcB_assign, ↓vcL_nil, Md.next_seq]
  (with_reducible refine hk _ _ _ _ ?_); clear hk k
  repeat' first | with_reducible (first | refine Cw.seq ?_ | refine thenK_normal ?_ | refine Ow.nil ?_) | ((with_reducible refine Cw.region (Ow.run rfl fun k hk => ?_)); simp (disch := (first | omega | (simp only [lenS, lenT, UInt64.reduceToNat] ; try omega))) only [↓vcL_none, ↓vcB_move, ↓ov_some, ↓ev_tmp, ↓getF_s, ↓getF_0, putF_some, setF_s, setF_0, nf_cons, ↓vcB_call, Md.next_seq]; (with_reducible refine hk _ _ _ _ ?_); clear hk k) | with_reducible (first | refine Cw.block ?_ | refine Cw.skip ?_ | refine Cw.exit ?_ | refine Cw.ret ?_ | refine thenK_exit ?_ | refine thenK_ret ?_ | refine blockK_normal ?_ | refine blockK_ret ?_ | refine blockK_exit ?_ | refine blockK_pass rfl ?_) | ((with_reducible refine Cw.condC ?_); first | refine CwC.pt rfl (by omega) ?_ | refine CwC.pf rfl (by omega) ?_ | refine CwC.it rfl (by omega) ?_ | refine CwC.if rfl (by omega) ?_ | refine CwC.nt rfl (by omega) ?_ | refine CwC.nf rfl (by omega) ?_ | refine CwC.tt rfl ?_ | refine CwC.ff rfl ?_ | refine CwC.bt rfl (by assumption) ?_ | (refine CwC.bf rfl ?_ ?_; focus assumption))
  refine Ow.callFV rfl Tryd.call84 (fun w' hw' => CutPrefix_spec u p w' (by omega)) ?_
  generalize cutP u p = c at *
  obtain ⟨c, is⟩ := c
  simp only
  refine Ow.run rfl fun k hk => ?_
  simp (disch := (first | omega | (simp only [lenS, lenT, UInt64.reduceToNat] ; try omega))) only [↓vcL_none, ↓vcB_move, ↓ov_some, putF_some, setF_s, setF_0, ↓ev_tmp, ↓getF_s, ↓getF_0, nf_cons, ↓vcB_extract, extract_t, tup2_0, tup2_1, ↓vcB_assign, ↓vcL_nil, Md.next_seq]
  (with_reducible refine hk _ _ _ _ ?_); clear hk k
  repeat' first | with_reducible (first | refine Cw.seq ?_ | refine thenK_normal ?_ | refine Ow.nil ?_) | ((with_reducible refine Cw.region (Ow.run rfl fun k hk => ?_)); simp (disch := (first | omega | (simp only [lenS, lenT, UInt64.reduceToNat] ; try omega))) only []; (with_reducible refine hk _ _ _ _ ?_); clear hk k) | with_reducible (first | refine Cw.block ?_ | refine Cw.skip ?_ | refine Cw.exit ?_ | refine Cw.ret ?_ | refine thenK_exit ?_ | refine thenK_ret ?_ | refine blockK_normal ?_ | refine blockK_ret ?_ | refine blockK_exit ?_ | refine blockK_pass rfl ?_) | ((with_reducible refine Cw.condC ?_); first | refine CwC.pt rfl (by omega) ?_ | refine CwC.pf rfl (by omega) ?_ | refine CwC.it rfl (by omega) ?_ | refine CwC.if rfl (by omega) ?_ | refine CwC.nt rfl (by omega) ?_ | refine CwC.nf rfl (by omega) ?_ | refine CwC.tt rfl ?_ | refine CwC.ff rfl ?_ | refine CwC.bt rfl (by assumption) ?_ | (refine CwC.bf rfl ?_ ?_; focus assumption))
  cases ok
  · repeat' first | with_reducible (first | refine Cw.seq ?_ | refine thenK_normal ?_ | refine Ow.nil ?_) | ((with_reducible refine Cw.region (Ow.run rfl fun k hk => ?_)); simp (disch := (first | omega | (simp only [lenS, lenT, UInt64.reduceToNat] ; try omega))) only [↓vcL_none, ↓vcB_move, ↓ov_some, ↓ev_tmp, ↓getF_s, ↓getF_0, putF_some, setF_s, setF_0, nf_cons, ↓vcB_unOp, un_not, Bool.not_false, ↓vcL_some, lit_i64, yieldF_lit, ↓nthO_s, ↓nthO_0, yieldL_some, boolOf_b, some_beq, beq_false, Bool.not_true, ↓ib_false, ↓vcB_pick, ↓ev_const, pick_t, ↓vcL_nil, Md.next_seq, ↓vcB_assign]; (with_reducible refine hk _ _ _ _ ?_); clear hk k) | with_reducible (first | refine Cw.block ?_ | refine Cw.skip ?_ | refine Cw.exit ?_ | refine Cw.ret ?_ | refine thenK_exit ?_ | refine thenK_ret ?_ | refine blockK_normal ?_ | refine blockK_ret ?_ | refine blockK_exit ?_ | refine blockK_pass rfl ?_) | ((with_reducible refine Cw.condC ?_); first | refine CwC.pt rfl (by omega) ?_ | refine CwC.pf rfl (by omega) ?_ | refine CwC.it rfl (by omega) ?_ | refine CwC.if rfl (by omega) ?_ | refine CwC.nt rfl (by omega) ?_ | refine CwC.nf rfl (by omega) ?_ | refine CwC.tt rfl ?_ | refine CwC.ff rfl ?_ | refine CwC.bt rfl (by assumption) ?_ | (refine CwC.bf rfl ?_ ?_; focus assumption))
    refine ⟨_, (by simp (disch := (first | omega | (simp only [lenS, lenT, UInt64.reduceToNat] ; try omega))) only [resVs_cons, resV_tmp, ↓getF_s, ↓getF_0, resVs_nil, cons2_some]; rfl), ?_⟩
    exact ⟨Ext.refl _ _ |>.keys rfl, .inl ⟨by simp, rfl, rfl⟩⟩
  · cases is
    · repeat' first | with_reducible (first | refine Cw.seq ?_ | refine thenK_normal ?_ | refine Ow.nil ?_) | ((with_reducible refine Cw.region (Ow.run rfl fun k hk => ?_)); simp (disch := (first | omega | (simp only [lenS, lenT, UInt64.reduceToNat] ; try omega))) only [↓vcL_none, ↓vcB_move, ↓ov_some, ↓ev_tmp, ↓getF_s, ↓getF_0, putF_some, setF_s, setF_0, nf_cons, ↓vcB_unOp, un_not, Bool.not_true, ↓vcL_some, lit_i64, yieldF_lit, ↓nthO_s, ↓nthO_0, yieldL_some, boolOf_b, beq_self_eq_true, ↓ib_true, Bool.not_false, ↓vcB_pick, ↓ev_const, pick_f, some_beq, beq_false, ↓ib_false, pick_t, ↓vcL_nil, Md.next_seq, ↓vcB_assign]; (with_reducible refine hk _ _ _ _ ?_); clear hk k) | with_reducible (first | refine Cw.block ?_ | refine Cw.skip ?_ | refine Cw.exit ?_ | refine Cw.ret ?_ | refine thenK_exit ?_ | refine thenK_ret ?_ | refine blockK_normal ?_ | refine blockK_ret ?_ | refine blockK_exit ?_ | refine blockK_pass rfl ?_) | ((with_reducible refine Cw.condC ?_); first | refine CwC.pt rfl (by omega) ?_ | refine CwC.pf rfl (by omega) ?_ | refine CwC.it rfl (by omega) ?_ | refine CwC.if rfl (by omega) ?_ | refine CwC.nt rfl (by omega) ?_ | refine CwC.nf rfl (by omega) ?_ | refine CwC.tt rfl ?_ | refine CwC.ff rfl ?_ | refine CwC.bt rfl (by assumption) ?_ | (refine CwC.bf rfl ?_ ?_; focus assumption))
      refine ⟨_, (by simp (disch := (first | omega | (simp only [lenS, lenT, UInt64.reduceToNat] ; try omega))) only [resVs_cons, resV_tmp, ↓getF_s, ↓getF_0, resVs_nil, cons2_some]; rfl), ?_⟩
      exact ⟨Ext.refl _ _ |>.keys rfl, .inl ⟨by simp, rfl, rfl⟩⟩
    · repeat' first | with_reducible (first | refine Cw.seq ?_ | refine thenK_normal ?_ | refine Ow.nil ?_) | ((with_reducible refine Cw.region (Ow.run rfl fun k hk => ?_)); simp (disch := (first | omega | (simp only [lenS, lenT, UInt64.reduceToNat] ; try omega))) only [↓vcL_none, ↓vcB_move, ↓ov_some, ↓ev_tmp, ↓getF_s, ↓getF_0, putF_some, setF_s, setF_0, nf_cons, ↓vcB_unOp, un_not, Bool.not_true, ↓vcL_some, lit_i64, yieldF_lit, ↓nthO_s, ↓nthO_0, yieldL_some, boolOf_b, beq_self_eq_true, ↓ib_true, ↓vcB_pick, ↓ev_const, pick_f, ↓vcB_call, Md.next_seq]; (with_reducible refine hk _ _ _ _ ?_); clear hk k) | with_reducible (first | refine Cw.block ?_ | refine Cw.skip ?_ | refine Cw.exit ?_ | refine Cw.ret ?_ | refine thenK_exit ?_ | refine thenK_ret ?_ | refine blockK_normal ?_ | refine blockK_ret ?_ | refine blockK_exit ?_ | refine blockK_pass rfl ?_) | ((with_reducible refine Cw.condC ?_); first | refine CwC.pt rfl (by omega) ?_ | refine CwC.pf rfl (by omega) ?_ | refine CwC.it rfl (by omega) ?_ | refine CwC.if rfl (by omega) ?_ | refine CwC.nt rfl (by omega) ?_ | refine CwC.nf rfl (by omega) ?_ | refine CwC.tt rfl ?_ | refine CwC.ff rfl ?_ | refine CwC.bt rfl (by assumption) ?_ | (refine CwC.bf rfl ?_ ?_; focus assumption))
      refine Ow.callFV rfl Tryd.call85 (fun w' hw' => RErr_spec b s _ e2 w' (hw'.has _ _ List.mem_cons_self)) ?_
      refine Ow.run rfl fun k hk => ?_
      simp (disch := (first | omega | (simp only [lenS, lenT, UInt64.reduceToNat] ; try omega))) only [↓vcL_some, lit_i64, putF_some, setF_s, setF_0, yieldF_lit, ↓nthO_s, ↓nthO_0, yieldL_some, ↓getF_s, ↓getF_0, boolOf_b, beq_self_eq_true, ↓ib_true, ↓vcB_binOp, ↓ev_tmp, ↓ev_const, binX_vi_vi, bin_neq_i, ↓ov_some, nf_cons, ↓vcL_none, ↓vcB_pick, pick_f, ↓vcL_nil, Md.next_seq]
      (with_reducible refine hk _ _ _ _ ?_); clear hk k
      by_cases he : e2 = 0
      · repeat' first | with_reducible (first | refine Cw.seq ?_ | refine thenK_normal ?_ | refine Ow.nil ?_) | ((with_reducible refine Cw.region (Ow.run rfl fun k hk => ?_)); simp (disch := (first | omega | (simp only [lenS, lenT, UInt64.reduceToNat] ; try omega))) only [↓vcL_none, ↓vcB_move, ↓ov_some, ↓ev_tmp, ↓getF_s, ↓getF_0, putF_some, setF_s, setF_0, nf_cons, ↓vcB_call, Md.next_seq]; (with_reducible refine hk _ _ _ _ ?_); clear hk k) | with_reducible (first | refine Cw.block ?_ | refine Cw.skip ?_ | refine Cw.exit ?_ | refine Cw.ret ?_ | refine thenK_exit ?_ | refine thenK_ret ?_ | refine blockK_normal ?_ | refine blockK_ret ?_ | refine blockK_exit ?_ | refine blockK_pass rfl ?_) | ((with_reducible refine Cw.condC ?_); first | refine CwC.pt rfl (by omega) ?_ | refine CwC.pf rfl (by omega) ?_ | refine CwC.it rfl (by omega) ?_ | refine CwC.if rfl (by omega) ?_ | refine CwC.nt rfl (by omega) ?_ | refine CwC.nf rfl (by omega) ?_ | refine CwC.tt rfl ?_ | refine CwC.ff rfl ?_ | refine CwC.bt rfl (by assumption) ?_ | (refine CwC.bf rfl ?_ ?_; focus assumption))
        refine Ow.callF rfl rfl Tryd.call41 (S := fun B v D => ∃ b', B ≤ b' ∧ v = vp b' 0 ∧ D = [(b', .cells #[vs c, vi 0, vi 0] 139 (0, 0))]) (fun w' hw' => RNew_spec c w') ?_
        rintro B v D hab hB ⟨b', hb', rfl, rfl⟩
        refine ⟨_, Mrg.fresh (by intro q hq; simp only [keys, List.map_cons, List.map_nil, List.mem_singleton] at hq; omega), ?_⟩
        obtain ⟨hab1, -⟩ := hab
        refine Ow.run rfl fun k hk => ?_
        simp (disch := (first | omega | (simp only [lenS, lenT, UInt64.reduceToNat] ; try omega))) only [↓vcL_none, ↓vcB_assign, ↓ov_some, putF_some, setF_s, setF_0, ↓ev_tmp, ↓getF_s, ↓getF_0, nf_cons, ↓vcL_nil, Md.next_seq, List.cons_append, List.nil_append]
        (with_reducible refine hk _ _ _ _ ?_); clear hk k
        repeat' first | with_reducible (first | refine Cw.seq ?_ | refine thenK_normal ?_ | refine Ow.nil ?_) | ((with_reducible refine Cw.region (Ow.run rfl fun k hk => ?_)); simp (disch := (first | omega | (simp only [lenS, lenT, UInt64.reduceToNat] ; try omega))) only []; (with_reducible refine hk _ _ _ _ ?_); clear hk k) | with_reducible (first | refine Cw.block ?_ | refine Cw.skip ?_ | refine Cw.exit ?_ | refine Cw.ret ?_ | refine thenK_exit ?_ | refine thenK_ret ?_ | refine blockK_normal ?_ | refine blockK_ret ?_ | refine blockK_exit ?_ | refine blockK_pass rfl ?_) | ((with_reducible refine Cw.condC ?_); first | refine CwC.pt rfl (by omega) ?_ | refine CwC.pf rfl (by omega) ?_ | refine CwC.it rfl (by omega) ?_ | refine CwC.if rfl (by omega) ?_ | refine CwC.nt rfl (by omega) ?_ | refine CwC.nf rfl (by omega) ?_ | refine CwC.tt rfl ?_ | refine CwC.ff rfl ?_ | refine CwC.bt rfl (by assumption) ?_ | (refine CwC.bf rfl ?_ ?_; focus assumption))
        refine ⟨_, (by simp (disch := (first | omega | (simp only [lenS, lenT, UInt64.reduceToNat] ; try omega))) only [resVs_cons, resV_tmp, ↓getF_s, ↓getF_0, resVs_nil, cons2_some]; rfl), ?_⟩
        refine ⟨?_, .inr ⟨b', c, by simp [he], rfl, by omega, by omega, rfl⟩⟩
        · exact (Ext.refl _ _ |>.keys rfl : Ext w [(b, Obj.cells #[vs s, vi a, vi e] 139 (0, 0))] [(b, Obj.cells #[vs s, vi a2, vi e2] 139 (0, 0))]).app (by omega)
      · repeat' first | with_reducible (first | refine Cw.seq ?_ | refine thenK_normal ?_ | refine Ow.nil ?_) | ((with_reducible refine Cw.region (Ow.run rfl fun k hk => ?_)); simp (disch := (first | omega | (simp only [lenS, lenT, UInt64.reduceToNat] ; try omega))) only [↓vcL_none, ↓vcB_assign, ↓ov_some, ↓ev_const, putF_some, setF_s, setF_0, nf_cons, ↓vcL_nil, Md.next_seq]; (with_reducible refine hk _ _ _ _ ?_); clear hk k) | with_reducible (first | refine Cw.block ?_ | refine Cw.skip ?_ | refine Cw.exit ?_ | refine Cw.ret ?_ | refine thenK_exit ?_ | refine thenK_ret ?_ | refine blockK_normal ?_ | refine blockK_ret ?_ | refine blockK_exit ?_ | refine blockK_pass rfl ?_) | ((with_reducible refine Cw.condC ?_); first | refine CwC.pt rfl (by omega) ?_ | refine CwC.pf rfl (by omega) ?_ | refine CwC.it rfl (by omega) ?_ | refine CwC.if rfl (by omega) ?_ | refine CwC.nt rfl (by omega) ?_ | refine CwC.nf rfl (by omega) ?_ | refine CwC.tt rfl ?_ | refine CwC.ff rfl ?_ | refine CwC.bt rfl (by assumption) ?_ | (refine CwC.bf rfl ?_ ?_; focus assumption))
        refine ⟨_, (by simp (disch := (first | omega | (simp only [lenS, lenT, UInt64.reduceToNat] ; try omega))) only [resVs_cons, resV_tmp, ↓getF_s, ↓getF_0, resVs_nil, cons2_some]; rfl), ?_⟩
        exact ⟨Ext.refl _ _ |>.keys rfl, .inl ⟨by simp [he], rfl, rfl⟩⟩
end Go.Proofs
open Go Go.Proofs Go.Sx
namespace Go.Proofs
set_option maxRecDepth 10000
set_option maxHeartbeats 4000000
set_option linter.unusedSimpArgs false
theorem refC_one (r : RefL) : (refC r).all Value.oneCell' = true := by
  unfold refC
  rw [List.all_cons, List.all_map, Bool.and_eq_true]
  exact ⟨rfl, List.all_eq_true.2 fun x _ => rfl⟩
abbrev RefSl (w : World) (v : Value) (l : List RefL) : Prop := SlV 33 refC ref0 w v l
theorem nilRefs (b o n c : Nat) : binX Tryd.prog .eql 23 (vsl b o n c) (.slice none 0 0) = some (.bool false) := by
  simp [binX, eqX, plainV, eqNilV, Tryd.underlying23, vsl]
theorem nilRefs' : binX Tryd.prog .eql 23 (.slice none 0 0) (.slice none 0 0) = some (.bool true) := by
  simp [binX, eqX, plainV, eqNilV, Tryd.underlying23]
theorem CloneRef_spec (v : Value) (ls : List RefL) (w : World) (hv : RefSl w v ls) (hl : ls.length < 1000000) :
    Rets Tryd.prog 47 #[v] w (XS w [] (fun v D => Gr D 42 33 v ls.length (ls.map refC).flatten)) := by
  obtain ⟨b, off, c, arr, E, fz, hr, hc, ⟨rfl, rfl, rfl⟩ | ⟨rfl, hb, hsz⟩⟩ := hv
  · refine Rets.enterX Tryd.func47 rfl (rs := [.tmp 2]) Tryd.results47 Tryd.ntmps47 (fun p hp => by cases hp) (by simp [keys]) ?_
    simp only [List.size_toArray, List.length_cons, List.length_nil, Nat.reduceAdd, Nat.reduceSub, List.replicate_succ, List.replicate_zero, List.cons_append, List.nil_append]
    repeat' first | with_reducible (first | refine Cw.seq ?_ | refine thenK_normal ?_ | refine Ow.nil ?_) | ((with_reducible refine Cw.region (Ow.run rfl fun k hk => ?_)); simp (disch := (first | omega | (simp only [lenS, lenT, UInt64.reduceToNat] ; try omega))) only [↓vcL_none, ↓vcB_assign, ↓ov_some, ↓ev_const, putF_some, setF_s, setF_0, nf_cons, ↓vcL_nil, Md.next_seq, ↓vcB_move, ↓ev_tmp, ↓getF_0, ↓vcB_binOp, ↓getF_s, nilRefs']; (with_reducible refine hk _ _ _ _ ?_); clear hk k) | with_reducible (first | refine Cw.block ?_ | refine Cw.skip ?_ | refine Cw.exit ?_ | refine Cw.ret ?_ | refine thenK_exit ?_ | refine thenK_ret ?_ | refine blockK_normal ?_ | refine blockK_ret ?_ | refine blockK_exit ?_ | refine blockK_pass rfl ?_) | ((with_reducible refine Cw.condC ?_); first | refine CwC.pt rfl (by omega) ?_ | refine CwC.pf rfl (by omega) ?_ | refine CwC.it rfl (by omega) ?_ | refine CwC.if rfl (by omega) ?_ | refine CwC.nt rfl (by omega) ?_ | refine CwC.nf rfl (by omega) ?_ | refine CwC.tt rfl ?_ | refine CwC.ff rfl ?_ | refine CwC.bt rfl (by assumption) ?_ | (refine CwC.bf rfl ?_ ?_; focus assumption))
    refine ⟨_, (by simp (disch := (first | omega | (simp only [lenS, lenT, UInt64.reduceToNat] ; try omega))) only [resVs_cons, resV_tmp, ↓getF_s, ↓getF_0, resVs_nil, cons2_some]; rfl), ?_⟩
    exact ⟨Ext.refl _ _, Gr.nl⟩
  · have hbl := (Array.getElem?_eq_some_iff.1 hb).1
    have hv : RefSl w (vsl b off ls.length c) ls := ⟨b, off, c, arr, E, fz, hr, hc, .inr ⟨rfl, hb, hsz⟩⟩
    refine Rets.enterX Tryd.func47 rfl (rs := [.tmp 2]) Tryd.results47 Tryd.ntmps47 (fun p hp => by cases hp) (by simp [keys]) ?_
    simp only [List.size_toArray, List.length_cons, List.length_nil, Nat.reduceAdd, Nat.reduceSub, List.replicate_succ, List.replicate_zero, List.cons_append, List.nil_append]
    repeat' first | with_reducible (first | refine Cw.seq ?_ | refine thenK_normal ?_ | refine Ow.nil ?_) | ((with_reducible refine Cw.region (Ow.run rfl fun k hk => ?_)); simp (disch := (first | omega | (simp only [lenS, lenT, UInt64.reduceToNat] ; try omega))) only [↓vcL_none, ↓vcB_assign, ↓ov_some, ↓ev_const, putF_some, setF_s, setF_0, nf_cons, ↓vcL_nil, Md.next_seq, ↓vcB_move, ↓ev_tmp, ↓getF_0, ↓vcB_binOp, ↓getF_s, nilRefs, ↓vcB_buildSlice]; (with_reducible refine hk _ _ _ _ ?_); clear hk k) | with_reducible (first | refine Cw.block ?_ | refine Cw.skip ?_ | refine Cw.exit ?_ | refine Cw.ret ?_ | refine thenK_exit ?_ | refine thenK_ret ?_ | refine blockK_normal ?_ | refine blockK_ret ?_ | refine blockK_exit ?_ | refine blockK_pass rfl ?_) | ((with_reducible refine Cw.condC ?_); first | refine CwC.pt rfl (by omega) ?_ | refine CwC.pf rfl (by omega) ?_ | refine CwC.it rfl (by omega) ?_ | refine CwC.if rfl (by omega) ?_ | refine CwC.nt rfl (by omega) ?_ | refine CwC.nf rfl (by omega) ?_ | refine CwC.tt rfl ?_ | refine CwC.ff rfl ?_ | refine CwC.bt rfl (by assumption) ?_ | (refine CwC.bf rfl ?_ ?_; focus assumption))
    refine Ow.buildSlice (e := 42) #[] rfl rfl (by kernel_rfl) fun b1 hb1 hw1 => ?_
    refine Ow.run rfl fun k hk => ?_
    simp (disch := (first | omega | (simp only [lenS, lenT, UInt64.reduceToNat] ; try omega))) only [↓vcL_none, ↓vcB_move, ↓ov_some, putF_some, setF_s, setF_0, ↓ev_tmp, ↓getF_0, nf_cons, ↓vcB_append, Md.next_seq, List.nil_append]
    (with_reducible refine hk _ _ _ _ ?_); clear hk k
    refine Ow.appendG (e := 42) (k := ls.length) (new := (ls.map refC).flatten) (vsl b1 0 0 0) rfl rfl rfl Tryd.underlying23 Tryd.ag42 (by kernel_rfl) zrRef (by rw [cells_ref, List.size_toArray, refC_len]) Tryd.underlying23 (by intro k h; cases h) (.inr ⟨rfl, rfl, b1, rfl, look_new hb1⟩) (fun w' hw' => (hv.oldN hw' ⟨hw1, trivial⟩).appX refC_len refC_one) (flat_len refC_len ls) (by omega) (fun v2 L2 hB hB2 hG hS => ?_)
    rw [Nat.zero_add, List.nil_append] at hB
    refine Ow.run rfl fun k hk => ?_
    simp (disch := (first | omega | (simp only [lenS, lenT, UInt64.reduceToNat] ; try omega))) only [↓vcL_none, ↓vcB_assign, ↓ov_some, putF_some, setF_s, setF_0, ↓ev_tmp, ↓getF_s, ↓getF_0, nf_cons, ↓vcL_nil, Md.next_seq]
    (with_reducible refine hk _ _ _ _ ?_); clear hk k
    repeat' first | with_reducible (first | refine Cw.seq ?_ | refine thenK_normal ?_ | refine Ow.nil ?_) | ((with_reducible refine Cw.region (Ow.run rfl fun k hk => ?_)); simp (disch := (first | omega | (simp only [lenS, lenT, UInt64.reduceToNat] ; try omega))) only []; (with_reducible refine hk _ _ _ _ ?_); clear hk k) | with_reducible (first | refine Cw.block ?_ | refine Cw.skip ?_ | refine Cw.exit ?_ | refine Cw.ret ?_ | refine thenK_exit ?_ | refine thenK_ret ?_ | refine blockK_normal ?_ | refine blockK_ret ?_ | refine blockK_exit ?_ | refine blockK_pass rfl ?_) | ((with_reducible refine Cw.condC ?_); first | refine CwC.pt rfl (by omega) ?_ | refine CwC.pf rfl (by omega) ?_ | refine CwC.it rfl (by omega) ?_ | refine CwC.if rfl (by omega) ?_ | refine CwC.nt rfl (by omega) ?_ | refine CwC.nf rfl (by omega) ?_ | refine CwC.tt rfl ?_ | refine CwC.ff rfl ?_ | refine CwC.bt rfl (by assumption) ?_ | (refine CwC.bf rfl ?_ ?_; focus assumption))
    refine ⟨_, (by simp (disch := (first | omega | (simp only [lenS, lenT, UInt64.reduceToNat] ; try omega))) only [resVs_cons, resV_tmp, ↓getF_s, ↓getF_0, resVs_nil, cons2_some]; rfl), ?_⟩
    exact ⟨((Ext.refl w []).app (o := Obj.cells #[] 42 (0, 0)) hw1).grew hG, hB⟩
end Go.Proofs
open Go Go.Proofs Go.Sx
namespace Go.Proofs
set_option maxRecDepth 10000
set_option maxHeartbeats 4000000
set_option linter.unusedSimpArgs false
theorem GlobC.ofE {w w' : World} {X L : Heap} (h : GlobC w) (hE : Ext w X L) (hw : Hp w L w') (hn : (3 : Nat) ∉ keys X) : GlobC w' := by
  have hlt : (3 : Nat) < w.heap.size := by obtain ⟨e, f, h⟩ := h; exact (Array.getElem?_eq_some_iff.1 h).1
  exact GlobC.of h hw (hE.not hlt hn)
theorem BldAt.zero (b : Nat) {L : Heap} (h : Sx.look L b = some (.cells #[.pointer none, .slice none 0 0] 98 (0, 0))) : BldAt b [] L :=
  ⟨_, _, h, .inl rfl, .nl, fun h => by cases h⟩
theorem clampN_id {n : Nat} (h : n < 1099511627776) : clampN (n : Int) = n := by unfold clampN maxN; omega
/-- Some bytes as a record. -/
def recordV (l : List UInt8) : List UInt8 := textL (sealV l)
theorem record_spec (b : Nat) (X : Heap) (l : List UInt8) (w : World) (hG : GlobC w) (hg : (3 : Nat) ∉ keys X) (hB : BldAt b l X) (hX : ∀ p, p ∈ X → w.heap[p.1]? = some p.2) (hn : (keys X).Nodup) (hl : l.length < 1073741824) :
    Rets Tryd.prog 57 #[vp b 0] w (XS w X (fun v _ => v = vs (recordV l))) := by
  refine Rets.enterX Tryd.func57 rfl (rs := [.tmp 2]) Tryd.results57 Tryd.ntmps57 hX hn ?_
  simp only [List.size_toArray, List.length_cons, List.length_nil, Nat.reduceAdd, Nat.reduceSub, List.replicate_succ, List.replicate_zero, List.cons_append, List.nil_append]
  repeat' first | with_reducible (first | refine Cw.seq ?_ | refine thenK_normal ?_ | refine Ow.nil ?_) | ((with_reducible refine Cw.region (Ow.run rfl fun k hk => ?_)); simp (disch := (first | omega | (simp only [lenS, lenT, UInt64.reduceToNat] ; try omega))) only [↓vcL_none, ↓vcB_assign, ↓ov_some, ↓ev_const, lit_str, putF_some, setF_s, setF_0, nf_cons, ↓vcL_nil, Md.next_seq, ↓vcB_alloc]; (with_reducible refine hk _ _ _ _ ?_); clear hk k) | with_reducible (first | refine Cw.block ?_ | refine Cw.skip ?_ | refine Cw.exit ?_ | refine Cw.ret ?_ | refine thenK_exit ?_ | refine thenK_ret ?_ | refine blockK_normal ?_ | refine blockK_ret ?_ | refine blockK_exit ?_ | refine blockK_pass rfl ?_) | ((with_reducible refine Cw.condC ?_); first | refine CwC.pt rfl (by omega) ?_ | refine CwC.pf rfl (by omega) ?_ | refine CwC.it rfl (by omega) ?_ | refine CwC.if rfl (by omega) ?_ | refine CwC.nt rfl (by omega) ?_ | refine CwC.nf rfl (by omega) ?_ | refine CwC.tt rfl ?_ | refine CwC.ff rfl ?_ | refine CwC.bt rfl (by assumption) ?_ | (refine CwC.bf rfl ?_ ?_; focus assumption))
  refine Ow.alloc rfl rfl Tryd.zr98 fun b1 hb1 hw1 => ?_
  refine Ow.run rfl fun k hk => ?_
  simp (disch := (first | omega | (simp only [lenS, lenT, UInt64.reduceToNat] ; try omega))) only [↓vcL_nil, putF_some, setF_s, setF_0, cells_agg]
  (with_reducible refine hk _ _ _ _ ?_); clear hk k
  have hE0 := (Ext.refl w X).app (o := .cells #[.pointer none, .slice none 0 0] 98 (0, 0)) hw1
  repeat' first | with_reducible (first | refine Cw.seq ?_ | refine thenK_normal ?_ | refine Ow.nil ?_) | ((with_reducible refine Cw.region (Ow.run rfl fun k hk => ?_)); simp (disch := (first | omega | (simp only [lenS, lenT, UInt64.reduceToNat] ; try omega))) only [↓vcL_none, ↓vcB_move, ↓ov_some, ↓ev_tmp, ↓getF_0, putF_some, setF_s, setF_0, nf_cons, ↓vcB_call, Md.next_seq]; (with_reducible refine hk _ _ _ _ ?_); clear hk k) | with_reducible (first | refine Cw.block ?_ | refine Cw.skip ?_ | refine Cw.exit ?_ | refine Cw.ret ?_ | refine thenK_exit ?_ | refine thenK_ret ?_ | refine blockK_normal ?_ | refine blockK_ret ?_ | refine blockK_exit ?_ | refine blockK_pass rfl ?_) | ((with_reducible refine Cw.condC ?_); first | refine CwC.pt rfl (by omega) ?_ | refine CwC.pf rfl (by omega) ?_ | refine CwC.it rfl (by omega) ?_ | refine CwC.if rfl (by omega) ?_ | refine CwC.nt rfl (by omega) ?_ | refine CwC.nf rfl (by omega) ?_ | refine CwC.tt rfl ?_ | refine CwC.ff rfl ?_ | refine CwC.bt rfl (by assumption) ?_ | (refine CwC.bf rfl ?_ ?_; focus assumption))
  refine Ow.callX (Y := [(b1, .cells #[.pointer none, .slice none 0 0] 98 (0, 0))]) (by simp) rfl rfl Tryd.call62 (fun w' hw' hX hn => WString_spec b X l w' hB hX hn (by omega)) (fun v2 D2 hC hS2 => ?_)
  subst hS2
  have hE2 := hE0.came hC
  have hb1D : b1 ∉ keys D2 := fun hm => by
    rcases hC.new b1 hm with h | ⟨h, -⟩
    · exact Nat.lt_irrefl _ (above_to hb1 h)
    · exact Nat.lt_irrefl _ (above_to h (by rw [keys_app]; exact List.mem_append_right _ List.mem_cons_self))
  have hZ : BldAt b1 [] (D2 ++ [(b1, .cells #[.pointer none, .slice none 0 0] 98 (0, 0))]) := BldAt.zero b1 (by rw [look_app_r hb1D]; exact look_same _ _ _)
  generalize D2 ++ [(b1, Obj.cells #[.pointer none, .slice none 0 0] 98 (0, 0))] = D3 at *
  refine Ow.run rfl fun k hk => ?_
  simp (disch := (first | omega | (simp only [lenS, lenT, UInt64.reduceToNat] ; try omega))) only [↓vcL_none, ↓vcB_call, putF_some, setF_s, setF_0]
  (with_reducible refine hk _ _ _ _ ?_); clear hk k
  refine Ow.callFV rfl Tryd.call92 (fun w' hw' => cSeal_spec l w' (GlobC.ofE hG hE2 hw' hg) (by omega)) ?_
  refine Ow.run rfl fun k hk => ?_
  simp (disch := (first | omega | (simp only [lenS, lenT, UInt64.reduceToNat] ; try omega))) only [↓vcL_none, ↓vcB_buildSlice, Md.next_seq, putF_some, setF_s, setF_0]
  (with_reducible refine hk _ _ _ _ ?_); clear hk k
  have hsl := sealV_len l
  refine Ow.buildSlice (e := 9) #[vs (sealV l)] rfl rfl (by kernel_rfl) fun b4 hb4 hw4 => ?_
  refine Ow.run rfl fun k hk => ?_
  simp (disch := (first | omega | (simp only [lenS, lenT, UInt64.reduceToNat] ; try omega))) only [↓vcL_none, ↓vcB_call, putF_some, setF_s, setF_0]
  (with_reducible refine hk _ _ _ _ ?_); clear hk k
  have htl : (textsL [sealV l]) = recordV l := by simp [textsL, recordV]
  have hnl := numL_clamp_len ((sealV l).length : Int)
  have hrl : (recordV l).length = (numL (clampN (sealV l).length)).length + (sealV l).length := by unfold recordV textL; rw [List.length_append]
  refine Ow.callX (Y := [(b4, .cells #[vs (sealV l)] 9 (0, 0))]) (by simp) rfl rfl Tryd.call55 (fun w' hw' hX hn => WText_spec b1 D3 [] _ b4 0 [sealV l] _ _ _ w' hZ hX hn (StrS.lit [sealV l] rfl rfl (hw'.has _ _ (List.mem_append_right _ List.mem_cons_self))) (fun _ hm => Nat.lt_irrefl _ (above_to hb4 hm)) (by rw [htl]; simp only [List.length_nil]; omega) (by simp)) (fun v5 D5 hC5 hS5 => ?_)
  obtain ⟨rfl, hB5⟩ := hS5
  rw [htl, List.nil_append] at hB5
  have hE5 := (hE2.app (o := .cells #[vs (sealV l)] 9 (0, 0)) hw4).came hC5
  have hB6 := BldAt.app (Y := [(b4, .cells #[vs (sealV l)] 9 (0, 0))]) hB5
  generalize D5 ++ [(b4, Obj.cells #[vs (sealV l)] 9 (0, 0))] = D6 at *
  refine Ow.run rfl fun k hk => ?_
  simp (disch := (first | omega | (simp only [lenS, lenT, UInt64.reduceToNat] ; try omega))) only [↓vcL_nil, putF_some, setF_s, setF_0]
  (with_reducible refine hk _ _ _ _ ?_); clear hk k
  repeat' first | with_reducible (first | refine Cw.seq ?_ | refine thenK_normal ?_ | refine Ow.nil ?_) | ((with_reducible refine Cw.region (Ow.run rfl fun k hk => ?_)); simp (disch := (first | omega | (simp only [lenS, lenT, UInt64.reduceToNat] ; try omega))) only [↓vcL_none, ↓vcB_call]; (with_reducible refine hk _ _ _ _ ?_); clear hk k) | with_reducible (first | refine Cw.block ?_ | refine Cw.skip ?_ | refine Cw.exit ?_ | refine Cw.ret ?_ | refine thenK_exit ?_ | refine thenK_ret ?_ | refine blockK_normal ?_ | refine blockK_ret ?_ | refine blockK_exit ?_ | refine blockK_pass rfl ?_) | ((with_reducible refine Cw.condC ?_); first | refine CwC.pt rfl (by omega) ?_ | refine CwC.pf rfl (by omega) ?_ | refine CwC.it rfl (by omega) ?_ | refine CwC.if rfl (by omega) ?_ | refine CwC.nt rfl (by omega) ?_ | refine CwC.nf rfl (by omega) ?_ | refine CwC.tt rfl ?_ | refine CwC.ff rfl ?_ | refine CwC.bt rfl (by assumption) ?_ | (refine CwC.bf rfl ?_ ?_; focus assumption))
  refine Ow.callX (Y := []) (by simp) rfl rfl Tryd.call62 (fun w' hw' hX hn => WString_spec b1 D6 (recordV l) w' hB6 hX hn (by omega)) (fun v7 D7 hC7 hS7 => ?_)
  subst hS7
  rw [List.append_nil]
  refine Ow.run rfl fun k hk => ?_
  simp (disch := (first | omega | (simp only [lenS, lenT, UInt64.reduceToNat] ; try omega))) only [↓vcL_none, ↓vcB_assign, ↓ov_some, putF_some, setF_s, setF_0, ↓ev_tmp, ↓getF_s, ↓getF_0, nf_cons, ↓vcL_nil, Md.next_seq]
  (with_reducible refine hk _ _ _ _ ?_); clear hk k
  repeat' first | with_reducible (first | refine Cw.seq ?_ | refine thenK_normal ?_ | refine Ow.nil ?_) | ((with_reducible refine Cw.region (Ow.run rfl fun k hk => ?_)); simp (disch := (first | omega | (simp only [lenS, lenT, UInt64.reduceToNat] ; try omega))) only []; (with_reducible refine hk _ _ _ _ ?_); clear hk k) | with_reducible (first | refine Cw.block ?_ | refine Cw.skip ?_ | refine Cw.exit ?_ | refine Cw.ret ?_ | refine thenK_exit ?_ | refine thenK_ret ?_ | refine blockK_normal ?_ | refine blockK_ret ?_ | refine blockK_exit ?_ | refine blockK_pass rfl ?_) | ((with_reducible refine Cw.condC ?_); first | refine CwC.pt rfl (by omega) ?_ | refine CwC.pf rfl (by omega) ?_ | refine CwC.it rfl (by omega) ?_ | refine CwC.if rfl (by omega) ?_ | refine CwC.nt rfl (by omega) ?_ | refine CwC.nf rfl (by omega) ?_ | refine CwC.tt rfl ?_ | refine CwC.ff rfl ?_ | refine CwC.bt rfl (by assumption) ?_ | (refine CwC.bf rfl ?_ ?_; focus assumption))
  refine ⟨_, (by simp (disch := (first | omega | (simp only [lenS, lenT, UInt64.reduceToNat] ; try omega))) only [resVs_cons, resV_tmp, ↓getF_s, ↓getF_0, resVs_nil, cons2_some]; rfl), ?_⟩
  exact ⟨hE5.came0 hC7, rfl⟩
end Go.Proofs
open Go Go.Proofs Go.Sx
namespace Go.Proofs
set_option maxRecDepth 10000
set_option maxHeartbeats 4000000
set_option linter.unusedSimpArgs false
theorem Cw.perm {P : Program} {w0 : World} {c : Code} {f : Fr} {L : Heap} {K : Kont} (M : Heap) (hs : ∀ p, p ∈ M ↔ p ∈ L) (hn : (keys M).Nodup) (h : Cw P w0 c f M K) : Cw P w0 c f L K := fun w hw => h w (hw.same hs hn)
theorem slice_id (id : IdL) : sliceB Tryd.prog 52 1 [(0, .agg (a8 id.l))] = some (40, a8 id.l) := by
  have h2 : Value.cells (.agg (a8 id.l)) = (id.l.map v8).toArray := cells_agg _
  have hz : zeroV Tryd.prog 40 = some (.agg ((List.replicate 32 (0 : UInt8)).map v8).toArray) := Tryd.zr40
  have s3 : (id.l.map v8).toArray.size = 32 := by simp [id.h]
  have hp2 := putC_app (id.l.map v8) [] ((List.replicate 32 (0 : UInt8)).map v8) (by simp [id.h])
  have hd : List.drop (id.l.map v8).length ((List.replicate 32 (0 : UInt8)).map v8) = [] := List.drop_eq_nil_of_le (by simp [id.h])
  rw [hd, List.append_nil, List.nil_append] at hp2
  have hzz : ((Array.range (1 * 32)).map fun x => (Value.cells (.agg ((List.replicate 32 (0 : UInt8)).map v8).toArray))[x % (Value.cells (.agg ((List.replicate 32 (0 : UInt8)).map v8).toArray)).size]!) = ((List.replicate 32 (0 : UInt8)).map v8).toArray := by kernel_rfl
  simp only [sliceB, Tryd.underlying52, Tryd.ag40, hz, Option.map_some]
  rw [if_neg (by decide), if_neg (by decide)]
  simp only
  rw [hzz]
  have hfl : Instr.fill (fun i => some (i * 32, 32)) ((List.replicate 32 (0 : UInt8)).map v8).toArray [(0, Value.agg (a8 id.l))] = some (a8 id.l) := by
    have s4 : (((List.replicate 32 (0 : UInt8)).map v8).toArray).size = 32 := by simp
    unfold Instr.fill
    simp only [h2, s3, s4, Nat.zero_mul, ne_eq, not_true_eq_false, decide_false, Bool.false_or, Nat.zero_add, Nat.lt_irrefl, gt_iff_lt, Bool.false_eq_true, ↓reduceIte]
    unfold Instr.fill
    congr 1
    have hz := foldl_putC (id.l.map v8) 0 0 ((List.replicate 32 (0 : UInt8)).map v8).toArray
    have hp : putC ((List.replicate 32 (0 : UInt8)).map v8).toArray 0 (id.l.map v8) = (id.l.map v8).toArray := hp2
    rw [Nat.add_zero, hp] at hz
    simp only [Nat.zero_add] at hz
    rw [← Array.foldl_toList, Array.toList_zipIdx]
    exact hz
  rw [hfl]
  rfl
/-- An entry's bytes. -/
def entryB (r : RefL) : List UInt8 := [69] ++ textL r.name ++ r.id.l
theorem entryRecord_spec (r : RefL) (w : World) (hG : GlobC w) (hr : r.name.length < 1000000) :
    Rets Tryd.prog 58 #[.agg (refC r).toArray] w (XS w [] (fun v _ => v = vs (recordV (entryB r)))) := by
  have hg3 : (3 : Nat) < w.heap.size := by obtain ⟨e, f, h⟩ := hG; exact (Array.getElem?_eq_some_iff.1 h).1
  refine Rets.enterX Tryd.func58 rfl (rs := [.tmp 2]) Tryd.results58 Tryd.ntmps58 (fun p hp => by cases hp) (by simp [keys]) ?_
  simp only [List.size_toArray, List.length_cons, List.length_nil, Nat.reduceAdd, Nat.reduceSub, List.replicate_succ, List.replicate_zero, List.cons_append, List.nil_append]
  repeat' first | with_reducible (first | refine Cw.seq ?_ | refine thenK_normal ?_ | refine Ow.nil ?_) | ((with_reducible refine Cw.region (Ow.run rfl fun k hk => ?_)); simp (disch := (first | omega | (simp only [lenS, lenT, UInt64.reduceToNat] ; try omega))) only [↓vcL_none, ↓vcB_box, lit_str]; (with_reducible refine hk _ _ _ _ ?_); clear hk k) | with_reducible (first | refine Cw.block ?_ | refine Cw.skip ?_ | refine Cw.exit ?_ | refine Cw.ret ?_ | refine thenK_exit ?_ | refine thenK_ret ?_ | refine blockK_normal ?_ | refine blockK_ret ?_ | refine blockK_exit ?_ | refine blockK_pass rfl ?_) | ((with_reducible refine Cw.condC ?_); first | refine CwC.pt rfl (by omega) ?_ | refine CwC.pf rfl (by omega) ?_ | refine CwC.it rfl (by omega) ?_ | refine CwC.if rfl (by omega) ?_ | refine CwC.nt rfl (by omega) ?_ | refine CwC.nf rfl (by omega) ?_ | refine CwC.tt rfl ?_ | refine CwC.ff rfl ?_ | refine CwC.bt rfl (by assumption) ?_ | (refine CwC.bf rfl ?_ ?_; focus assumption))
  refine Ow.box rfl rfl fun b0 hb0 hw0 => ?_
  simp only [ev_tmp, getF_0, cells_ref, List.nil_append]
  refine Ow.run rfl fun k hk => ?_
  simp (disch := (first | omega | (simp only [lenS, lenT, UInt64.reduceToNat] ; try omega))) only [↓vcL_none, ↓vcB_assign, ↓ov_some, putF_some, setF_s, setF_0, ↓ev_const, nf_cons, ↓vcL_nil, Md.next_seq]
  (with_reducible refine hk _ _ _ _ ?_); clear hk k
  repeat' first | with_reducible (first | refine Cw.seq ?_ | refine thenK_normal ?_ | refine Ow.nil ?_) | ((with_reducible refine Cw.region (Ow.run rfl fun k hk => ?_)); simp (disch := (first | omega | (simp only [lenS, lenT, UInt64.reduceToNat] ; try omega))) only [↓vcL_none, ↓vcB_alloc]; (with_reducible refine hk _ _ _ _ ?_); clear hk k) | with_reducible (first | refine Cw.block ?_ | refine Cw.skip ?_ | refine Cw.exit ?_ | refine Cw.ret ?_ | refine thenK_exit ?_ | refine thenK_ret ?_ | refine blockK_normal ?_ | refine blockK_ret ?_ | refine blockK_exit ?_ | refine blockK_pass rfl ?_) | ((with_reducible refine Cw.condC ?_); first | refine CwC.pt rfl (by omega) ?_ | refine CwC.pf rfl (by omega) ?_ | refine CwC.it rfl (by omega) ?_ | refine CwC.if rfl (by omega) ?_ | refine CwC.nt rfl (by omega) ?_ | refine CwC.nf rfl (by omega) ?_ | refine CwC.tt rfl ?_ | refine CwC.ff rfl ?_ | refine CwC.bt rfl (by assumption) ?_ | (refine CwC.bf rfl ?_ ?_; focus assumption))
  refine Ow.alloc rfl rfl Tryd.zr98 fun b1 hb1 hw1 => ?_
  obtain ⟨h01, -⟩ := hb1
  refine Ow.run rfl fun k hk => ?_
  simp (disch := (first | omega | (simp only [lenS, lenT, UInt64.reduceToNat] ; try omega))) only [↓vcL_nil, putF_some, setF_s, setF_0, cells_agg, List.cons_append, List.nil_append]
  (with_reducible refine hk _ _ _ _ ?_); clear hk k
  with_reducible refine Ow.nil ?_
  with_reducible refine thenK_normal ?_
  refine Cw.perm [(b1, .cells #[.pointer none, .slice none 0 0] 98 (0, 0)), (b0, .cells (refC r).toArray 42 (0, 0))] (by intro p; simp [or_comm]) (by simp [keys]; omega) ?_
  have hE0 : Ext w [] [(b1, Obj.cells #[.pointer none, .slice none 0 0] 98 (0, 0)), (b0, Obj.cells (refC r).toArray 42 (0, 0))] :=
    ((Ext.refl w []).app hw1).app hw0
  have hZ : BldAt b1 [] [(b1, .cells #[.pointer none, .slice none 0 0] 98 (0, 0))] := BldAt.zero b1 (look_same _ _ _)
  repeat' first | with_reducible (first | refine Cw.seq ?_ | refine thenK_normal ?_ | refine Ow.nil ?_) | ((with_reducible refine Cw.region (Ow.run rfl fun k hk => ?_)); simp (disch := (first | omega | (simp only [lenS, lenT, UInt64.reduceToNat] ; try omega))) only [↓vcL_none, ↓vcB_buildSlice, lit_str]; (with_reducible refine hk _ _ _ _ ?_); clear hk k) | with_reducible (first | refine Cw.block ?_ | refine Cw.skip ?_ | refine Cw.exit ?_ | refine Cw.ret ?_ | refine thenK_exit ?_ | refine thenK_ret ?_ | refine blockK_normal ?_ | refine blockK_ret ?_ | refine blockK_exit ?_ | refine blockK_pass rfl ?_) | ((with_reducible refine Cw.condC ?_); first | refine CwC.pt rfl (by omega) ?_ | refine CwC.pf rfl (by omega) ?_ | refine CwC.it rfl (by omega) ?_ | refine CwC.if rfl (by omega) ?_ | refine CwC.nt rfl (by omega) ?_ | refine CwC.nf rfl (by omega) ?_ | refine CwC.tt rfl ?_ | refine CwC.ff rfl ?_ | refine CwC.bt rfl (by assumption) ?_ | (refine CwC.bf rfl ?_ ?_; focus assumption))
  refine Ow.buildSlice (e := 9) #[vs [69]] rfl rfl (by kernel_rfl) fun b2 hb2 hw2 => ?_
  obtain ⟨h12, h02, -⟩ := hb2
  have hE1 := hE0.app (o := .cells #[vs [69]] 9 (0, 0)) hw2
  refine Ow.run rfl fun k hk => ?_
  simp (disch := (first | omega | (simp only [lenS, lenT, UInt64.reduceToNat] ; try omega))) only [↓vcL_none, ↓vcB_call, putF_some, setF_s, setF_0, List.cons_append, List.nil_append]
  (with_reducible refine hk _ _ _ _ ?_); clear hk k
  refine Ow.callX (Y := [(b0, .cells (refC r).toArray 42 (0, 0)), (b2, .cells #[vs [69]] 9 (0, 0))]) (by simp) rfl rfl Tryd.call53 (fun w' hw' hX hn => WRaw_spec b1 [(b1, .cells #[.pointer none, .slice none 0 0] 98 (0, 0))] [] _ b2 0 [[69]] _ _ _ w' hZ hX hn (StrS.lit [[69]] rfl rfl (hw'.has _ _ (List.mem_cons_of_mem _ (List.mem_cons_of_mem _ List.mem_cons_self)))) (fun _ hm => by simp [keys] at hm; omega) (by simp) (by simp)) (fun v3 D3 hC3 hS3 => ?_)
  obtain ⟨rfl, hB3⟩ := hS3
  have hE3 := Ext.came (D := [(b1, Obj.cells #[.pointer none, .slice none 0 0] 98 (0, 0))]) (Y := [(b0, Obj.cells (refC r).toArray 42 (0, 0)), (b2, .cells #[vs [69]] 9 (0, 0))]) hE1 hC3
  have hb0D : b0 ∉ keys D3 := fun hm => by
    rcases hC3.new b0 hm with h | ⟨h, -⟩
    · simp [keys] at h; omega
    · exact Nat.lt_irrefl _ (above_to h (by simp [keys]))
  simp only [List.flatten_cons, List.flatten_nil, List.append_nil, List.nil_append] at hB3
  have rd0 : readB w (D3 ++ [(b0, Obj.cells (refC r).toArray 42 (0, 0)), (b2, .cells #[vs [69]] 9 (0, 0))]) b0 = some (.cells (refC r).toArray 42 (0, 0)) := read_look (by rw [look_app_r hb0D]; exact look_same _ _ _)
  refine Ow.run rfl fun k hk => ?_
  simp (disch := (first | omega | (simp only [lenS, lenT, UInt64.reduceToNat] ; try omega))) only [↓vcL_nil, putF_some, setF_s, setF_0]
  (with_reducible refine hk _ _ _ _ ?_); clear hk k
  repeat' first | with_reducible (first | refine Cw.seq ?_ | refine thenK_normal ?_ | refine Ow.nil ?_) | ((with_reducible refine Cw.region (Ow.run rfl fun k hk => ?_)); simp (disch := (first | omega | (simp only [lenS, lenT, UInt64.reduceToNat] ; try omega))) only [↓vcL_none, ↓vcB_fieldAddr, Tryd.fl42_0, ↓ev_tmp, ↓getF_s, ↓getF_0, fieldAddr_p, Nat.add_zero, ↓ov_some, putF_some, setF_s, setF_0, nf_cons, ↓vcB_load, Md.next_seq, rd_seq_load, ↓ib_true, Tryd.ag9, loadAt_p, rd0, load_ref0, ↓vcB_buildSlice]; (with_reducible refine hk _ _ _ _ ?_); clear hk k) | with_reducible (first | refine Cw.block ?_ | refine Cw.skip ?_ | refine Cw.exit ?_ | refine Cw.ret ?_ | refine thenK_exit ?_ | refine thenK_ret ?_ | refine blockK_normal ?_ | refine blockK_ret ?_ | refine blockK_exit ?_ | refine blockK_pass rfl ?_) | ((with_reducible refine Cw.condC ?_); first | refine CwC.pt rfl (by omega) ?_ | refine CwC.pf rfl (by omega) ?_ | refine CwC.it rfl (by omega) ?_ | refine CwC.if rfl (by omega) ?_ | refine CwC.nt rfl (by omega) ?_ | refine CwC.nf rfl (by omega) ?_ | refine CwC.tt rfl ?_ | refine CwC.ff rfl ?_ | refine CwC.bt rfl (by assumption) ?_ | (refine CwC.bf rfl ?_ ?_; focus assumption))
  refine Ow.buildSlice (e := 9) #[vs r.name] rfl rfl (by kernel_rfl) fun b4 hb4 hw4 => ?_
  have hnl := numL_clamp_len (r.name.length : Int)
  have htl : textsL [r.name] = textL r.name := by simp [textsL]
  have htn : (textL r.name).length = (numL (clampN r.name.length)).length + r.name.length := by unfold textL; rw [List.length_append]
  have hb14 : b1 ∈ keys D3 := hC3.all b1 (by simp [keys])
  have hE4 := hE3.app (o := .cells #[vs r.name] 9 (0, 0)) hw4
  refine Ow.run rfl fun k hk => ?_
  simp (disch := (first | omega | (simp only [lenS, lenT, UInt64.reduceToNat] ; try omega))) only [↓vcL_none, ↓vcB_call, putF_some, setF_s, setF_0]
  (with_reducible refine hk _ _ _ _ ?_); clear hk k
  refine Ow.callX (Y := [(b0, .cells (refC r).toArray 42 (0, 0)), (b2, .cells #[vs [69]] 9 (0, 0)), (b4, .cells #[vs r.name] 9 (0, 0))]) (by simp) rfl rfl Tryd.call55 (fun w' hw' hX hn => WText_spec b1 D3 [69] _ b4 0 [r.name] _ _ _ w' hB3 hX hn (StrS.lit [r.name] rfl rfl (hw'.has _ _ (List.mem_append_right _ List.mem_cons_self))) (fun _ hm => Nat.lt_irrefl _ (above_to hb4 (by rw [keys_app]; exact List.mem_append_left _ hm))) (by rw [htl]; simp only [List.length_cons, List.length_nil]; omega) (by simp)) (fun v5 D5 hC5 hS5 => ?_)
  obtain ⟨rfl, hB5⟩ := hS5
  rw [htl] at hB5
  have hE5 := Ext.came (D := D3) (Y := [(b0, Obj.cells (refC r).toArray 42 (0, 0)), (b2, .cells #[vs [69]] 9 (0, 0)), (b4, .cells #[vs r.name] 9 (0, 0))]) (by simpa using hE4) hC5
  have hb0D5 : b0 ∉ keys D5 := fun hm => by
    rcases hC5.new b0 hm with h | ⟨h, -⟩
    · exact hb0D h
    · exact Nat.lt_irrefl _ (above_to h (by simp [keys]))
  have rd5 : readB w (D5 ++ [(b0, Obj.cells (refC r).toArray 42 (0, 0)), (b2, .cells #[vs [69]] 9 (0, 0)), (b4, .cells #[vs r.name] 9 (0, 0))]) b0 = some (.cells (refC r).toArray 42 (0, 0)) := read_look (by rw [look_app_r hb0D5]; exact look_same _ _ _)
  refine Ow.run rfl fun k hk => ?_
  simp (disch := (first | omega | (simp only [lenS, lenT, UInt64.reduceToNat] ; try omega))) only [↓vcL_nil, putF_some, setF_s, setF_0]
  (with_reducible refine hk _ _ _ _ ?_); clear hk k
  repeat' first | with_reducible (first | refine Cw.seq ?_ | refine thenK_normal ?_ | refine Ow.nil ?_) | ((with_reducible refine Cw.region (Ow.run rfl fun k hk => ?_)); simp (disch := (first | omega | (simp only [lenS, lenT, UInt64.reduceToNat] ; try omega))) only [↓vcL_none, ↓vcB_fieldAddr, Tryd.fl42_1, ↓ev_tmp, ↓getF_s, ↓getF_0, fieldAddr_p, Nat.zero_add, ↓ov_some, putF_some, setF_s, setF_0, nf_cons, ↓vcB_load, Md.next_seq, rd_seq_load, ↓ib_true, Tryd.ag40, loadAt_p, rd5, load_ref1, ↓vcB_buildSlice]; (with_reducible refine hk _ _ _ _ ?_); clear hk k) | with_reducible (first | refine Cw.block ?_ | refine Cw.skip ?_ | refine Cw.exit ?_ | refine Cw.ret ?_ | refine thenK_exit ?_ | refine thenK_ret ?_ | refine blockK_normal ?_ | refine blockK_ret ?_ | refine blockK_exit ?_ | refine blockK_pass rfl ?_) | ((with_reducible refine Cw.condC ?_); first | refine CwC.pt rfl (by omega) ?_ | refine CwC.pf rfl (by omega) ?_ | refine CwC.it rfl (by omega) ?_ | refine CwC.if rfl (by omega) ?_ | refine CwC.nt rfl (by omega) ?_ | refine CwC.nf rfl (by omega) ?_ | refine CwC.tt rfl ?_ | refine CwC.ff rfl ?_ | refine CwC.bt rfl (by assumption) ?_ | (refine CwC.bf rfl ?_ ?_; focus assumption))
  refine Ow.buildSlice (e := 40) (a8 r.id.l) rfl rfl (slice_id r.id) fun b6 hb6 hw6 => ?_
  have hE6 := hE5.app (o := .cells (a8 r.id.l) 40 (0, 0)) hw6
  have hS6 : ∀ w', w'.heap[b6]? = some (.cells (a8 r.id.l) 40 (0, 0)) → RowS 32 idLC id0 w' (vsl b6 0 1 1) [r.id] b6 0 (a8 r.id.l) 40 (0, 0) := fun w' h => RowS.sl rfl h (by
    intro k hk j hj
    obtain rfl : k = 0 := by simpa using hk
    simp only [Nat.zero_mul, Nat.zero_add, List.getD_cons_zero]
    rw [← idLC_a8, List.getElem?_toArray])
  have hil := idsL_len [r.id]
  refine Ow.run rfl fun k hk => ?_
  simp (disch := (first | omega | (simp only [lenS, lenT, UInt64.reduceToNat] ; try omega))) only [↓vcL_none, ↓vcB_call, putF_some, setF_s, setF_0]
  (with_reducible refine hk _ _ _ _ ?_); clear hk k
  refine Ow.callX (Y := [(b0, .cells (refC r).toArray 42 (0, 0)), (b2, .cells #[vs [69]] 9 (0, 0)), (b4, .cells #[vs r.name] 9 (0, 0)), (b6, .cells (a8 r.id.l) 40 (0, 0))]) (by simp) rfl rfl Tryd.call56 (fun w' hw' hX hn => WId_spec b1 D5 _ _ b6 0 [r.id] _ _ _ w' hB5 hX hn (hS6 w' (hw'.has _ _ (List.mem_append_right _ List.mem_cons_self))) (fun _ hm => Nat.lt_irrefl _ (above_to hb6 (by rw [keys_app]; exact List.mem_append_left _ hm))) (by simp only [List.length_append, List.length_cons, List.length_nil]; omega)) (fun v7 D7 hC7 hS7 => ?_)
  obtain ⟨rfl, hB7⟩ := hS7
  have hE7 := Ext.came (D := D5) (Y := [(b0, Obj.cells (refC r).toArray 42 (0, 0)), (b2, .cells #[vs [69]] 9 (0, 0)), (b4, .cells #[vs r.name] 9 (0, 0)), (b6, .cells (a8 r.id.l) 40 (0, 0))]) (by simpa using hE6) hC7
  have hB8 := BldAt.app (Y := [(b0, Obj.cells (refC r).toArray 42 (0, 0)), (b2, .cells #[vs [69]] 9 (0, 0)), (b4, .cells #[vs r.name] 9 (0, 0)), (b6, .cells (a8 r.id.l) 40 (0, 0))]) hB7
  rw [show [69] ++ textL r.name ++ idsL [r.id] = entryB r by simp [idsL, entryB]] at hB8
  have hel : (entryB r).length = 1 + (textL r.name).length + r.id.l.length := by simp [entryB]; omega
  have hil2 := r.id.h
  generalize D7 ++ [(b0, Obj.cells (refC r).toArray 42 (0, 0)), (b2, .cells #[vs [69]] 9 (0, 0)), (b4, .cells #[vs r.name] 9 (0, 0)), (b6, .cells (a8 r.id.l) 40 (0, 0))] = D8 at *
  refine Ow.run rfl fun k hk => ?_
  simp (disch := (first | omega | (simp only [lenS, lenT, UInt64.reduceToNat] ; try omega))) only [↓vcL_nil, putF_some, setF_s, setF_0]
  (with_reducible refine hk _ _ _ _ ?_); clear hk k
  repeat' first | with_reducible (first | refine Cw.seq ?_ | refine thenK_normal ?_ | refine Ow.nil ?_) | ((with_reducible refine Cw.region (Ow.run rfl fun k hk => ?_)); simp (disch := (first | omega | (simp only [lenS, lenT, UInt64.reduceToNat] ; try omega))) only [↓vcL_none, ↓vcB_call]; (with_reducible refine hk _ _ _ _ ?_); clear hk k) | with_reducible (first | refine Cw.block ?_ | refine Cw.skip ?_ | refine Cw.exit ?_ | refine Cw.ret ?_ | refine thenK_exit ?_ | refine thenK_ret ?_ | refine blockK_normal ?_ | refine blockK_ret ?_ | refine blockK_exit ?_ | refine blockK_pass rfl ?_) | ((with_reducible refine Cw.condC ?_); first | refine CwC.pt rfl (by omega) ?_ | refine CwC.pf rfl (by omega) ?_ | refine CwC.it rfl (by omega) ?_ | refine CwC.if rfl (by omega) ?_ | refine CwC.nt rfl (by omega) ?_ | refine CwC.nf rfl (by omega) ?_ | refine CwC.tt rfl ?_ | refine CwC.ff rfl ?_ | refine CwC.bt rfl (by assumption) ?_ | (refine CwC.bf rfl ?_ ?_; focus assumption))
  refine Ow.callX (Y := []) (by simp) rfl rfl Tryd.call57 (fun w' hw' hX hn => record_spec b1 D8 (entryB r) w' (GlobC.ofE hG hE7 hw' (by simp [keys])) (hE7.not hg3 (by simp [keys])) hB8 hX hn (by omega)) (fun v9 D9 hC9 hS9 => ?_)
  subst hS9
  rw [List.append_nil]
  refine Ow.run rfl fun k hk => ?_
  simp (disch := (first | omega | (simp only [lenS, lenT, UInt64.reduceToNat] ; try omega))) only [↓vcL_none, ↓vcB_assign, ↓ov_some, putF_some, setF_s, setF_0, ↓ev_tmp, ↓getF_s, ↓getF_0, nf_cons, ↓vcL_nil, Md.next_seq]
  (with_reducible refine hk _ _ _ _ ?_); clear hk k
  repeat' first | with_reducible (first | refine Cw.seq ?_ | refine thenK_normal ?_ | refine Ow.nil ?_) | ((with_reducible refine Cw.region (Ow.run rfl fun k hk => ?_)); simp (disch := (first | omega | (simp only [lenS, lenT, UInt64.reduceToNat] ; try omega))) only []; (with_reducible refine hk _ _ _ _ ?_); clear hk k) | with_reducible (first | refine Cw.block ?_ | refine Cw.skip ?_ | refine Cw.exit ?_ | refine Cw.ret ?_ | refine thenK_exit ?_ | refine thenK_ret ?_ | refine blockK_normal ?_ | refine blockK_ret ?_ | refine blockK_exit ?_ | refine blockK_pass rfl ?_) | ((with_reducible refine Cw.condC ?_); first | refine CwC.pt rfl (by omega) ?_ | refine CwC.pf rfl (by omega) ?_ | refine CwC.it rfl (by omega) ?_ | refine CwC.if rfl (by omega) ?_ | refine CwC.nt rfl (by omega) ?_ | refine CwC.nf rfl (by omega) ?_ | refine CwC.tt rfl ?_ | refine CwC.ff rfl ?_ | refine CwC.bt rfl (by assumption) ?_ | (refine CwC.bf rfl ?_ ?_; focus assumption))
  refine ⟨_, (by simp (disch := (first | omega | (simp only [lenS, lenT, UInt64.reduceToNat] ; try omega))) only [resVs_cons, resV_tmp, ↓getF_s, ↓getF_0, resVs_nil, cons2_some]; rfl), ?_⟩
  exact ⟨hE7.came0 hC9, rfl⟩
end Go.Proofs
open Go Go.Proofs Go.Sx
namespace Go.Proofs
set_option maxRecDepth 10000
/-! ### Refs that are compared -/
theorem ref_ext (r : RefL) : (refC r).toArray.extract 1 33 = a8 r.id.l := by
  show (refC r).toArray.extract 1 33 = (r.id.l.map v8).toArray
  rw [List.extract_toArray]
  congr 1
  unfold refC
  rw [List.extract_eq_take_drop, List.drop_succ_cons, List.drop_zero, List.take_of_length_le (by simp [r.id.h])]
theorem stoodRef : Tryd.prog.stoodInHeld 42 = false := by kernel_rfl
theorem guardRef : Tryd.prog.eqGuardType Tryd.prog.depth 42 = false := by kernel_rfl
theorem aggStr : aggT Tryd.prog 9 = some (false, 1) := by kernel_rfl
theorem aggId : aggT Tryd.prog 40 = some (true, 32) := by kernel_rfl
theorem eqRef0 (r r' : RefL) : eqD Tryd.prog 8 42 (.agg (refC r).toArray) (.agg (refC r').toArray) = some (r.name == r'.name && r.id.l == r'.id.l) := by
  have hn : eqD Tryd.prog 7 9 (vs r.name) (vs r'.name) = some (r.name == r'.name) := by
    unfold eqD
    rw [Tryd.underlying9]
    simp only [vs, bs_beq]
  have hi : eqD Tryd.prog 7 40 (.agg (a8 r.id.l)) (.agg (a8 r'.id.l)) = some (r.id.l == r'.id.l) :=
    eqD_a8 (d := 5) Tryd.underlying40 Tryd.underlying5 Tryd.ag5 _ _ r.id.h r'.id.h
  unfold eqD
  rw [Tryd.underlying42]
  simp only
  rw [stoodRef]
  have p0 : ∀ (r : RefL), partV (false, 1) (refC r).toArray 0 = some (vs r.name) := fun r => rfl
  have p1 : ∀ (r : RefL), partV (true, 32) (refC r).toArray 1 = some (.agg (a8 r.id.l)) := fun r => by
    show some (Value.agg ((refC r).toArray.extract 1 33)) = _
    rw [ref_ext]
  simp only [Bool.false_eq_true, ↓reduceIte, eqFieldsV, aggStr, aggId, eqPartV, p0, p1, hn, hi]
  cases (r.name == r'.name) <;> cases (r.id.l == r'.id.l) <;> simp
theorem neRef (r r' : RefL) : binX Tryd.prog .neq 42 (.agg (refC r).toArray) (.agg (refC r').toArray) = some (.bool (!(r.name == r'.name && r.id.l == r'.id.l))) := by
  unfold binX eqX
  rw [guardRef]
  simp [plainV, eqRef0]
end Go.Proofs
open Go Go.Proofs Go.Sx
namespace Go.Proofs
set_option maxRecDepth 10000
set_option maxHeartbeats 4000000
set_option linter.unusedSimpArgs false
def keyR (r : RefL) : List UInt8 × List UInt8 := (r.name, r.id.l)
/-- The same refs? -/
def sameR (a b : List RefL) : Bool := a.map keyR == b.map keyR
theorem sameR_no {a b : List RefL} {i : Nat} (ha : i < a.length) (hb : i < b.length) (h : (((a.getD i ref0).name == (b.getD i ref0).name) && ((a.getD i ref0).id.l == (b.getD i ref0).id.l)) = false) : sameR a b = false := by
  unfold sameR
  rw [beq_eq_false_iff_ne]
  intro e
  have := congrArg (·[i]?) e
  simp only [List.getElem?_map, List.getElem?_eq_getElem ha, List.getElem?_eq_getElem hb, Option.map_some, Option.some.injEq, keyR, Prod.mk.injEq] at this
  rw [List.getD_eq_getElem?_getD, List.getD_eq_getElem?_getD, List.getElem?_eq_getElem ha, List.getElem?_eq_getElem hb] at h
  simp [this.1, this.2] at h
theorem sameR_yes {a b : List RefL} (hl : a.length = b.length) (h : ∀ i, i < a.length → (((a.getD i ref0).name == (b.getD i ref0).name) && ((a.getD i ref0).id.l == (b.getD i ref0).id.l)) = true) : sameR a b = true := by
  unfold sameR
  rw [beq_iff_eq]
  apply List.ext_getElem?
  intro i
  rw [List.getElem?_map, List.getElem?_map]
  by_cases hi : i < a.length
  · have hi' : i < b.length := by omega
    have := h i hi
    rw [List.getD_eq_getElem?_getD, List.getD_eq_getElem?_getD, List.getElem?_eq_getElem hi, List.getElem?_eq_getElem hi'] at this
    simp only [Option.getD_some, Bool.and_eq_true, beq_iff_eq] at this
    rw [List.getElem?_eq_getElem hi, List.getElem?_eq_getElem hi']
    simp [keyR, this.1, this.2]
  · rw [List.getElem?_eq_none (by omega), List.getElem?_eq_none (by omega)]
theorem SameRefs_spec (x y : Value) (b1 o1 b2 o2 : Nat) (l1 l2 : List RefL) (a1 a2 : Array Value) (E1 E2 : TypeId) (f1 f2 : Nat × Nat) (w : World) (h1 : RowS 33 refC ref0 w x l1 b1 o1 a1 E1 f1) (h2 : RowS 33 refC ref0 w y l2 b2 o2 a2 E2 f2) (hl1 : l1.length < 1000000) (hl2 : l2.length < 1000000) :
    Rets Tryd.prog 38 #[x, y] w (fun v D => v = .bool (sameR l1 l2) ∧ D = []) := by
  refine Rets.enterV Tryd.func38 rfl (rs := [.tmp 4]) Tryd.results38 Tryd.ntmps38 ?_
  simp only [List.size_toArray, List.length_cons, List.length_nil, Nat.reduceAdd, Nat.reduceSub, List.replicate_succ, List.replicate_zero, List.cons_append, List.nil_append]
  repeat' first | with_reducible (first | refine Cw.seq ?_ | refine thenK_normal ?_ | refine Ow.nil ?_) | ((with_reducible refine Cw.region (Ow.run rfl fun k hk => ?_)); simp (disch := (first | omega | (simp only [lenS, lenT, UInt64.reduceToNat] ; try omega))) only [↓vcL_none, ↓vcB_assign, ↓ov_some, ↓ev_const, putF_some, setF_s, setF_0, nf_cons, ↓vcL_nil, Md.next_seq, ↓vcB_move, ↓ev_tmp, ↓getF_0, ↓vcB_len, Tryd.ix23, ↓getF_s, h1.len, h2.len, ↓vcB_binOp, binX_vi_vi, bin_neq_i]; (with_reducible refine hk _ _ _ _ ?_); clear hk k) | with_reducible (first | refine Cw.block ?_ | refine Cw.skip ?_ | refine Cw.exit ?_ | refine Cw.ret ?_ | refine thenK_exit ?_ | refine thenK_ret ?_ | refine blockK_normal ?_ | refine blockK_ret ?_ | refine blockK_exit ?_ | refine blockK_pass rfl ?_) | ((with_reducible refine Cw.condC ?_); first | refine CwC.pt rfl (by omega) ?_ | refine CwC.pf rfl (by omega) ?_ | refine CwC.it rfl (by omega) ?_ | refine CwC.if rfl (by omega) ?_ | refine CwC.nt rfl (by omega) ?_ | refine CwC.nf rfl (by omega) ?_ | refine CwC.tt rfl ?_ | refine CwC.ff rfl ?_ | refine CwC.bt rfl (by assumption) ?_ | (refine CwC.bf rfl ?_ ?_; focus assumption))
  by_cases hle : l1.length = l2.length
  · repeat' first | with_reducible (first | refine Cw.seq ?_ | refine thenK_normal ?_ | refine Ow.nil ?_) | ((with_reducible refine Cw.region (Ow.run rfl fun k hk => ?_)); simp (disch := (first | omega | (simp only [lenS, lenT, UInt64.reduceToNat] ; try omega))) only [↓vcL_none, ↓vcB_assign, ↓ov_some, ↓ev_const, lit_i64, putF_some, setF_s, setF_0, nf_cons, ↓vcL_nil, Md.next_seq]; (with_reducible refine hk _ _ _ _ ?_); clear hk k) | with_reducible (first | refine Cw.block ?_ | refine Cw.skip ?_ | refine Cw.exit ?_ | refine Cw.ret ?_ | refine thenK_exit ?_ | refine thenK_ret ?_ | refine blockK_normal ?_ | refine blockK_ret ?_ | refine blockK_exit ?_ | refine blockK_pass rfl ?_) | ((with_reducible refine Cw.condC ?_); first | refine CwC.pt rfl (by omega) ?_ | refine CwC.pf rfl (by omega) ?_ | refine CwC.it rfl (by omega) ?_ | refine CwC.if rfl (by omega) ?_ | refine CwC.nt rfl (by omega) ?_ | refine CwC.nf rfl (by omega) ?_ | refine CwC.tt rfl ?_ | refine CwC.ff rfl ?_ | refine CwC.bt rfl (by assumption) ?_ | (refine CwC.bf rfl ?_ ?_; focus assumption))
    refine Cw.loopG (G := Nat) [11, 12, 13, 14, 17, 18, 19, 20, 21, 22, 23, 24, 25, 4, 15, 16, 5] (fun g => [(5, vi g)]) (fun g => []) (fun g => g ≤ l1.length ∧ ∀ i, i < g → (((l1.getD i ref0).name == (l2.getD i ref0).name) && ((l1.getD i ref0).id.l == (l2.getD i ref0).id.l)) = true) (fun g => l1.length - g) 0 rfl rfl ?_ ?_
    · exact ⟨by omega, fun i hi => by omega⟩
    intro g j hg
    simp only [overFrom, pin, setF_0, setF_s, List.contains_cons, List.contains_nil, Nat.reduceBEq, Bool.or_false, Bool.false_or, Bool.or_true, Bool.true_or, Nat.reduceAdd, ↓reduceIte, Bool.false_eq_true]
    obtain ⟨hgL, hgood⟩ := hg
    by_cases hlt : g < l1.length
    · have hlt2 : g < l2.length := by omega
      have hb1 := h1.has (by omega)
      have hb2 := h2.has (by omega)
      have ld1 := h1.load refC_len (by omega) hlt
      have ld2 := h2.load refC_len (by omega) hlt2
      repeat' first | with_reducible (first | refine Cw.seq ?_ | refine thenK_normal ?_ | refine Ow.nil ?_) | ((with_reducible refine Cw.region (Ow.run rfl fun k hk => ?_)); simp (disch := (first | omega | (simp only [lenS, lenT, UInt64.reduceToNat] ; try omega))) only [↓vcL_none, ↓vcB_move, ↓ov_some, ↓ev_tmp, ↓getF_s, ↓getF_0, putF_some, setF_s, setF_0, nf_cons, ↓vcB_len, Tryd.ix23, h1.len, ↓vcB_binOp, binX_vi_vi, bin_lss_i, ↓vcL_nil, Md.next_seq]; (with_reducible refine hk _ _ _ _ ?_); clear hk k) | with_reducible (first | refine Cw.block ?_ | refine Cw.skip ?_ | refine Cw.exit ?_ | refine Cw.ret ?_ | refine thenK_exit ?_ | refine thenK_ret ?_ | refine blockK_normal ?_ | refine blockK_ret ?_ | refine blockK_exit ?_ | refine blockK_pass rfl ?_) | ((with_reducible refine Cw.condC ?_); first | refine CwC.pt rfl (by omega) ?_ | refine CwC.pf rfl (by omega) ?_ | refine CwC.it rfl (by omega) ?_ | refine CwC.if rfl (by omega) ?_ | refine CwC.nt rfl (by omega) ?_ | refine CwC.nf rfl (by omega) ?_ | refine CwC.tt rfl ?_ | refine CwC.ff rfl ?_ | refine CwC.bt rfl (by assumption) ?_ | (refine CwC.bf rfl ?_ ?_; focus assumption))
      refine Cw.regionS [b1, b2] [0, 1, 2, 4, 5, 6, 3, 7, 8] [] (by kernel_rfl) (by kernel_rfl) (by kernel_rfl) ?_
      simp only [nl_cons, ↓pickL_nil, ↓pickL_cons, ↓nthO_0, ↓nthO_s, consO_some]
      refine Ow.runQ fun k hk => ?_
      simp (disch := (first | omega | (simp only [lenS, lenT, UInt64.reduceToNat] ; try omega))) only [↓vcL_none, ↓vcB_move, ↓ov_some, ↓ev_tmp, ↓getF_0, putF_some, setF_s, setF_0, nf_cons, ↓getF_s, ↓vcB_indexAddr, Tryd.ix23, ixI_vi, h1.idx, h2.idx, ↓vcB_load, Md.next_sof, List.contains_nil, Bool.false_eq_true, ↓reduceIte, ↓rd_sof_load, rdIn_p, List.contains_cons, beq_self_eq_true, Bool.or_false, Bool.true_or, ↓ib_true, Tryd.ag42, loadAt_p, read_old, hb1, ld1, Bool.or_true, hb2, ld2, ↓vcB_binOp, neRef, ↓vcL_nil]
      (with_reducible refine hk _ _ _ _ ?_); clear hk k
      with_reducible refine Ow.nil ?_
      cases hq : (((l1.getD g ref0).name == (l2.getD g ref0).name) && ((l1.getD g ref0).id.l == (l2.getD g ref0).id.l))
      · repeat' first | with_reducible (first | refine Cw.seq ?_ | refine thenK_normal ?_ | refine Ow.nil ?_) | ((with_reducible refine Cw.region (Ow.run rfl fun k hk => ?_)); simp (disch := (first | omega | (simp only [lenS, lenT, UInt64.reduceToNat] ; try omega))) only [↓vcL_none, ↓vcB_assign, ↓ov_some, Bool.not_false, ↓ev_const, putF_some, setF_s, setF_0, nf_cons, ↓vcL_nil, Md.next_seq]; (with_reducible refine hk _ _ _ _ ?_); clear hk k) | with_reducible (first | refine Cw.block ?_ | refine Cw.skip ?_ | refine Cw.exit ?_ | refine Cw.ret ?_ | refine thenK_exit ?_ | refine thenK_ret ?_ | refine blockK_normal ?_ | refine blockK_ret ?_ | refine blockK_exit ?_ | refine blockK_pass rfl ?_) | ((with_reducible refine Cw.condC ?_); first | refine CwC.pt rfl (by omega) ?_ | refine CwC.pf rfl (by omega) ?_ | refine CwC.it rfl (by omega) ?_ | refine CwC.if rfl (by omega) ?_ | refine CwC.nt rfl (by omega) ?_ | refine CwC.nf rfl (by omega) ?_ | refine CwC.tt rfl ?_ | refine CwC.ff rfl ?_ | refine CwC.bt rfl (by assumption) ?_ | (refine CwC.bf rfl ?_ ?_; focus assumption))
        refine ⟨_, (by simp (disch := (first | omega | (simp only [lenS, lenT, UInt64.reduceToNat] ; try omega))) only [resVs_cons, resV_tmp, ↓getF_s, ↓getF_0, resVs_nil, cons2_some]; rfl), trivial, ?_⟩
        rw [sameR_no hlt hlt2 hq]; rfl
      · repeat' first | with_reducible (first | refine Cw.seq ?_ | refine thenK_normal ?_ | refine Ow.nil ?_) | ((with_reducible refine Cw.region (Ow.run rfl fun k hk => ?_)); simp (disch := (first | omega | (simp only [lenS, lenT, UInt64.reduceToNat] ; try omega))) only [↓vcL_none, ↓vcB_move, ↓ov_some, Bool.not_true, ↓ev_tmp, ↓getF_s, ↓getF_0, putF_some, setF_s, setF_0, nf_cons, ↓vcB_binOp, ↓ev_const, lit_i64, binX_vi_vi, bin_add_i, ↓vcB_assign, ↓vcL_nil, Md.next_seq]; (with_reducible refine hk _ _ _ _ ?_); clear hk k) | with_reducible (first | refine Cw.block ?_ | refine Cw.skip ?_ | refine Cw.exit ?_ | refine Cw.ret ?_ | refine thenK_exit ?_ | refine thenK_ret ?_ | refine blockK_normal ?_ | refine blockK_ret ?_ | refine blockK_exit ?_ | refine blockK_pass rfl ?_) | ((with_reducible refine Cw.condC ?_); first | refine CwC.pt rfl (by omega) ?_ | refine CwC.pf rfl (by omega) ?_ | refine CwC.it rfl (by omega) ?_ | refine CwC.if rfl (by omega) ?_ | refine CwC.nt rfl (by omega) ?_ | refine CwC.nf rfl (by omega) ?_ | refine CwC.tt rfl ?_ | refine CwC.ff rfl ?_ | refine CwC.bt rfl (by assumption) ?_ | (refine CwC.bf rfl ?_ ?_; focus assumption))
        refine Again.mk (g + 1) (by omega) ⟨by omega, fun i hi => ?_⟩ rfl rfl
        by_cases hig : i = g
        · rw [hig]; exact hq
        · exact hgood i (by omega)
    · obtain rfl : g = l1.length := by omega
      repeat' first | with_reducible (first | refine Cw.seq ?_ | refine thenK_normal ?_ | refine Ow.nil ?_) | ((with_reducible refine Cw.region (Ow.run rfl fun k hk => ?_)); simp (disch := (first | omega | (simp only [lenS, lenT, UInt64.reduceToNat] ; try omega))) only [↓vcL_none, ↓vcB_move, ↓ov_some, ↓ev_tmp, ↓getF_s, ↓getF_0, putF_some, setF_s, setF_0, nf_cons, ↓vcB_len, Tryd.ix23, h1.len, ↓vcB_binOp, binX_vi_vi, bin_lss_i, ↓vcL_nil, Md.next_seq, ↓vcB_assign, ↓ev_const]; (with_reducible refine hk _ _ _ _ ?_); clear hk k) | with_reducible (first | refine Cw.block ?_ | refine Cw.skip ?_ | refine Cw.exit ?_ | refine Cw.ret ?_ | refine thenK_exit ?_ | refine thenK_ret ?_ | refine blockK_normal ?_ | refine blockK_ret ?_ | refine blockK_exit ?_ | refine blockK_pass rfl ?_) | ((with_reducible refine Cw.condC ?_); first | refine CwC.pt rfl (by omega) ?_ | refine CwC.pf rfl (by omega) ?_ | refine CwC.it rfl (by omega) ?_ | refine CwC.if rfl (by omega) ?_ | refine CwC.nt rfl (by omega) ?_ | refine CwC.nf rfl (by omega) ?_ | refine CwC.tt rfl ?_ | refine CwC.ff rfl ?_ | refine CwC.bt rfl (by assumption) ?_ | (refine CwC.bf rfl ?_ ?_; focus assumption))
      rw [sameR_yes hle hgood]
      refine ⟨_, (by simp (disch := (first | omega | (simp only [lenS, lenT, UInt64.reduceToNat] ; try omega))) only [resVs_cons, resV_tmp, ↓getF_s, ↓getF_0, resVs_nil, cons2_some]; rfl), trivial, ?_⟩
      rfl
  · repeat' first | with_reducible (first | refine Cw.seq ?_ | refine thenK_normal ?_ | refine Ow.nil ?_) | ((with_reducible refine Cw.region (Ow.run rfl fun k hk => ?_)); simp (disch := (first | omega | (simp only [lenS, lenT, UInt64.reduceToNat] ; try omega))) only [↓vcL_none, ↓vcB_assign, ↓ov_some, ↓ev_const, putF_some, setF_s, setF_0, nf_cons, ↓vcL_nil, Md.next_seq]; (with_reducible refine hk _ _ _ _ ?_); clear hk k) | with_reducible (first | refine Cw.block ?_ | refine Cw.skip ?_ | refine Cw.exit ?_ | refine Cw.ret ?_ | refine thenK_exit ?_ | refine thenK_ret ?_ | refine blockK_normal ?_ | refine blockK_ret ?_ | refine blockK_exit ?_ | refine blockK_pass rfl ?_) | ((with_reducible refine Cw.condC ?_); first | refine CwC.pt rfl (by omega) ?_ | refine CwC.pf rfl (by omega) ?_ | refine CwC.it rfl (by omega) ?_ | refine CwC.if rfl (by omega) ?_ | refine CwC.nt rfl (by omega) ?_ | refine CwC.nf rfl (by omega) ?_ | refine CwC.tt rfl ?_ | refine CwC.ff rfl ?_ | refine CwC.bt rfl (by assumption) ?_ | (refine CwC.bf rfl ?_ ?_; focus assumption))
    have : sameR l1 l2 = false := by
      unfold sameR
      rw [beq_eq_false_iff_ne]
      intro e
      exact hle (by simpa using congrArg List.length e)
    rw [this]
    refine ⟨_, (by simp (disch := (first | omega | (simp only [lenS, lenT, UInt64.reduceToNat] ; try omega))) only [resVs_cons, resV_tmp, ↓getF_s, ↓getF_0, resVs_nil, cons2_some]; rfl), trivial, ?_⟩
    rfl
end Go.Proofs
open Go Go.Proofs Go.Sx Go.RefP
namespace Go.Proofs
set_option maxRecDepth 10000
set_option maxHeartbeats 4000000
/-! ### Reading one byte further on is reading what begins there -/
/-- Some bytes as an id. -/
def mkId (l : List UInt8) : IdL := if h : l.length = 32 then ⟨l, h⟩ else id0
theorem mkId_eq {l : List UInt8} (h : l.length = 32) : mkId l = ⟨l, h⟩ := by unfold mkId; rw [dif_pos h]
/-- A ref is read. -/
def refR (s : List UInt8) (a : Nat) (e : Int) : RefL × Nat × Int :=
  (⟨(textR s a e 32).1, mkId (idR s (textR s a e 32).2.1 (textR s a e 32).2.2).1⟩, (idR s (textR s a e 32).2.1 (textR s a e 32).2.2).2)
theorem oneR_eq (s : List UInt8) (a : Nat) (e : Int) (ha : a ≤ s.length) : oneR s a e ha = refR s a e := by
  unfold oneR refR
  rw [mkId_eq (idR_len (textR_le ha).2)]
theorem refR_le {s : List UInt8} {a : Nat} {e : Int} (ha : a ≤ s.length) : a ≤ (refR s a e).2.1 ∧ (refR s a e).2.1 ≤ s.length := by
  have h1 := textR_le (e := e) (most := 32) ha
  have h2 := idR_le (e := (textR s a e 32).2.2) h1.2
  unfold refR
  exact ⟨by simp only; omega, h2.2⟩
/-- So many refs are read. -/
def refsR (s : List UInt8) (a : Nat) (e : Int) : Nat → List RefL × Nat × Int
  | 0 => ([], a, e)
  | g + 1 => ((refsR s a e g).1 ++ [(refR s (refsR s a e g).2.1 (refsR s a e g).2.2).1], (refR s (refsR s a e g).2.1 (refsR s a e g).2.2).2)
theorem refsR_le {s : List UInt8} {a : Nat} {e : Int} (ha : a ≤ s.length) : ∀ g, a ≤ (refsR s a e g).2.1 ∧ (refsR s a e g).2.1 ≤ s.length
  | 0 => ⟨Nat.le_refl _, ha⟩
  | g + 1 => by
    have ih := refsR_le (e := e) ha g
    have h := refR_le (e := (refsR s a e g).2.2) ih.2
    unfold refsR
    exact ⟨by simp only; omega, h.2⟩
theorem refsR_length (s : List UInt8) (a : Nat) (e : Int) : ∀ g, (refsR s a e g).1.length = g
  | 0 => rfl
  | g + 1 => by unfold refsR; simp [refsR_length s a e g]
/-- The error at the end. -/
def endR (s : List UInt8) (a : Nat) (e : Int) : Int := if e ≠ 0 then e else if (a : Int) < s.length then 5 else 0
/-- Names and ids of refs. -/
def prs (l : List RefL) : Vals := l.map fun r => (r.name, r.id.l)
theorem prs_len (l : List RefL) : (prs l).length = l.length := by simp [prs]
theorem prs_getD (l : List RefL) (g : Nat) (h : g < l.length) : (prs l).getD g zp = ((l.getD g ref0).name, (l.getD g ref0).id.l) := by
  unfold prs
  rw [List.getD_eq_getElem?_getD, List.getD_eq_getElem?_getD, List.getElem?_map, List.getElem?_eq_getElem h]; rfl
/-- May a book be? -/
def rightB (t l : List RefL) : Bool := rightM nameV z32 (prs t) (prs l)
/-- A head: the table, and where it ends. -/
def headR (s : List UInt8) : Option (List RefL × Nat) :=
  match recR s 0 0 [72] with
  | (none, _) => none
  | (some c, at_, _) =>
    let n := numR c 0 0 16
    let tb := refsR c n.2.1 n.2.2 n.1.toNat
    if endR c tb.2.1 tb.2.2 = 0 ∧ rightB tb.1 [] = true then some (tb.1, at_) else none
/-- One more entry. -/
def nextR (s : List UInt8) (tb : List RefL) (log : List RefL) (at_ : Nat) : Option (List RefL × Nat) :=
  match recR s at_ 0 [69] with
  | (none, _) => none
  | (some c, to, _) => if endR c (refR c 0 0).2.1 (refR c 0 0).2.2 = 0 ∧ rightB tb (log ++ [(refR c 0 0).1]) = true then some (log ++ [(refR c 0 0).1], to) else none
/-- As many entries as there are. -/
def logsR (s : List UInt8) (tb : List RefL) : Nat → List RefL → Nat → List RefL × Nat
  | 0, log, at_ => (log, at_)
  | n + 1, log, at_ => match nextR s tb log at_ with
    | none => (log, at_)
    | some p => logsR s tb n p.1 p.2
/-- The book of some bytes. -/
def bookR (s : List UInt8) : Option (List RefL × List RefL × Nat) := (headR s).map fun h => (h.1, logsR s h.1 101 [] h.2)
theorem rightB_len {t l : List RefL} (h : rightB t l = true) : l.length ≤ 100 := by
  unfold rightB rightM at h
  rw [Bool.and_eq_true, decide_eq_true_eq, prs_len] at h
  exact h.2
theorem nextR_len {s : List UInt8} {tb log : List RefL} {at_ : Nat} {p : List RefL × Nat} (h : nextR s tb log at_ = some p) : p.1.length = log.length + 1 ∧ p.1.length ≤ 100 := by
  unfold nextR at h
  split at h
  · cases h
  · split at h
    · rename_i h2
      cases h
      exact ⟨by simp, rightB_len h2.2⟩
    · cases h
theorem logsR_more (s : List UInt8) (tb : List RefL) : ∀ (n m : Nat) (log : List RefL) (at_ : Nat), 101 ≤ n + log.length → 101 ≤ m + log.length → log.length ≤ 100 → logsR s tb n log at_ = logsR s tb m log at_
  | 0, _, log, at_, h1, _, h3 => by omega
  | n + 1, 0, log, at_, _, h2, h3 => by omega
  | n + 1, m + 1, log, at_, h1, h2, h3 => by
    unfold logsR
    cases hn : nextR s tb log at_ with
    | none => rfl
    | some p =>
      have := nextR_len hn
      exact logsR_more s tb n m p.1 p.2 (by omega) (by omega) this.2
end Go.Proofs
open Go Go.Proofs Go.Sx Go.RefP
namespace Go.Proofs
set_option maxRecDepth 10000
set_option maxHeartbeats 4000000
set_option linter.unusedSimpArgs false
theorem prs_take (l : List RefL) (k : Nat) : prs (l.take k) = (prs l).take k := by unfold prs; rw [List.map_take]
theorem setV_eq (r : RefL) (m : Vals) : setV r m = setM z32 (r.name, r.id.l) m := rfl
def Book0 (v : Value) (a b : Value) : Prop := v = .agg #[a, b]
theorem load_bk0 (a b : Value) (E : TypeId) (n : Nat) : loadV (some (false, n)) (some (.cells #[a, b] E (0, 0))) 0 = some a := (rfl)
theorem load_bk1 (a b : Value) (E : TypeId) (n : Nat) : loadV (some (false, n)) (some (.cells #[a, b] E (0, 0))) 1 = some b := (rfl)
theorem eqIdz (l : List UInt8) (h : l.length = 32) : binX Tryd.prog .eql 40 (.agg (a8 l)) (.agg (a8 z32)) = some (.bool (l == z32)) := eqId l z32 ⟨h, by simp [z32]⟩
theorem isNameV_spec (s : List UInt8) (w : World) (hs : s.length < 1099511627776) :
    Rets Tryd.prog 59 #[vs s] w (fun v D => v = .bool (nameV s) ∧ D = []) := isName_spec s w hs
structure OG where
  g : Nat
  m : Vals
  o : Obj
theorem logM_take {nm : List UInt8 → Bool} {z : List UInt8} {l m0 : Vals} {n : Nat} : ∀ k, k ≤ n → logM nm z (l.take n) m0 k = logM nm z l m0 k
  | 0, _ => rfl
  | k + 1, h => by
    unfold logM
    rw [logM_take k (by omega)]
    have : (l.take n).getD k zp = l.getD k zp := by rw [List.getD_eq_getElem?_getD, List.getD_eq_getElem?_getD, List.getElem?_take_of_lt (by omega)]
    rw [this]
/-- What 'of' hands back. -/
def OfS (n : Nat) (t l : List RefL) (k : Nat) (v : Value) (D : Heap) : Prop :=
  match ofM nameV z32 (prs t) (prs l) k with
  | some m => ∃ b o, v = .tuple #[vm b, .bool (decide (l.length ≤ 100))] ∧ D = [(b, o)] ∧ MapR o m ∧ n ≤ b
  | none => v = .tuple #[.map none, .bool false] ∧ New n D
theorem tabM_step {nm : List UInt8 → Bool} {z : List UInt8} {t m : Vals} {g : Nat} (h : tabM nm z t g = some m) : tabM nm z t (g + 1) = if (tabOk nm z t g && decide ((setM z (t.getD g zp) m).length ≤ 16)) = true then some (setM z (t.getD g zp) m) else none := by
  rw [tabM, h]; rfl
theorem logM_step {nm : List UInt8 → Bool} {z : List UInt8} {l m0 m : Vals} {g : Nat} (h : logM nm z l m0 g = some m) : logM nm z l m0 (g + 1) = if (nm (l.getD g zp).1 && decide ((setM z (l.getD g zp) m).length ≤ 16)) = true then some (setM z (l.getD g zp) m) else none := by
  rw [logM, h]; rfl
theorem OfS.tab {n : Nat} {t l : List RefL} {k g : Nat} (h : tabM nameV z32 (prs t) (g + 1) = none) (hg : g < t.length) {D : Heap} (hD : New n D) : OfS n t l k (.tuple #[.map none, .bool false]) D := by
  unfold OfS ofM
  rw [tabM_stop h _ (by rw [prs_len]; exact hg)]
  exact ⟨rfl, hD⟩
theorem OfS.log {n : Nat} {t l : List RefL} {k g : Nat} {m : Vals} (ht : tabM nameV z32 (prs t) t.length = some m) (h : logM nameV z32 (prs l) m (g + 1) = none) (hg : g < k) {D : Heap} (hD : New n D) : OfS n t l k (.tuple #[.map none, .bool false]) D := by
  unfold OfS ofM
  rw [prs_len, ht, Option.bind_some, logM_stop h _ hg]
  exact ⟨rfl, hD⟩
theorem OfS.new {n : Nat} {t l : List RefL} {k : Nat} {v : Value} {D : Heap} (h : OfS n t l k v D) : New n D := by
  unfold OfS at h
  split at h
  · obtain ⟨b, o, -, rfl, -, hb⟩ := h
    exact ⟨hb, trivial⟩
  · exact h.2
theorem of_spec (vt vl : Value) (t l : List RefL) (k : Nat) (w : World) (ht : RefSl w vt t) (hl : RefSl w vl l) (htl : t.length < 1000000) (hll : l.length < 1000000) (hk : k ≤ l.length)
    (hnt : ∀ g, g < t.length → (t.getD g ref0).name.length < 1099511627776) (hnl : ∀ g, g < l.length → (l.getD g ref0).name.length < 1099511627776) :
    Rets Tryd.prog 72 #[.agg #[vt, vl], vi k] w (OfS w.heap.size t l k) := by
  refine Rets.enter Tryd.func72 rfl (rs := [.tmp 4, .tmp 5]) Tryd.results72 Tryd.ntmps72 ?_
  simp only [List.size_toArray, List.length_cons, List.length_nil, Nat.reduceAdd, Nat.reduceSub, List.replicate_succ, List.replicate_zero, List.cons_append, List.nil_append]
  obtain ⟨b1, o1, a1, E1, f1, h1⟩ := ht.row
  repeat' first | with_reducible (first | refine Cw.seq ?_ | refine thenK_normal ?_ | refine Ow.nil ?_) | ((with_reducible refine Cw.region (Ow.run rfl fun k hk => ?_)); simp (disch := (first | omega | (simp only [lenS, lenT, UInt64.reduceToNat] ; try omega))) only [↓vcL_none, ↓vcB_box]; (with_reducible refine hk _ _ _ _ ?_); clear hk k) | with_reducible (first | refine Cw.block ?_ | refine Cw.skip ?_ | refine Cw.exit ?_ | refine Cw.ret ?_ | refine thenK_exit ?_ | refine thenK_ret ?_ | refine blockK_normal ?_ | refine blockK_ret ?_ | refine blockK_exit ?_ | refine blockK_pass rfl ?_) | ((with_reducible refine Cw.condC ?_); first | refine CwC.pt rfl (by omega) ?_ | refine CwC.pf rfl (by omega) ?_ | refine CwC.it rfl (by omega) ?_ | refine CwC.if rfl (by omega) ?_ | refine CwC.nt rfl (by omega) ?_ | refine CwC.nf rfl (by omega) ?_ | refine CwC.tt rfl ?_ | refine CwC.ff rfl ?_ | refine CwC.bt rfl (by assumption) ?_ | (refine CwC.bf rfl ?_ ?_; focus assumption))
  refine Ow.box rfl rfl fun bx hbx hwx => ?_
  simp only [ev_tmp, getF_0, getF_s, cells_agg, List.nil_append, List.cons_append]
  refine Ow.run rfl fun k hk => ?_
  simp (disch := (first | omega | (simp only [lenS, lenT, UInt64.reduceToNat] ; try omega))) only [↓vcL_none, ↓vcB_assign, ↓ov_some, putF_some, setF_s, setF_0, ↓ev_const, nf_cons, ↓vcL_nil, Md.next_seq]
  (with_reducible refine hk _ _ _ _ ?_); clear hk k
  repeat' first | with_reducible (first | refine Cw.seq ?_ | refine thenK_normal ?_ | refine Ow.nil ?_) | ((with_reducible refine Cw.region (Ow.run rfl fun k hk => ?_)); simp (disch := (first | omega | (simp only [lenS, lenT, UInt64.reduceToNat] ; try omega))) only [↓vcL_none, ↓vcB_makeMap]; (with_reducible refine hk _ _ _ _ ?_); clear hk k) | with_reducible (first | refine Cw.block ?_ | refine Cw.skip ?_ | refine Cw.exit ?_ | refine Cw.ret ?_ | refine thenK_exit ?_ | refine thenK_ret ?_ | refine blockK_normal ?_ | refine blockK_ret ?_ | refine blockK_exit ?_ | refine blockK_pass rfl ?_) | ((with_reducible refine Cw.condC ?_); first | refine CwC.pt rfl (by omega) ?_ | refine CwC.pf rfl (by omega) ?_ | refine CwC.it rfl (by omega) ?_ | refine CwC.if rfl (by omega) ?_ | refine CwC.nt rfl (by omega) ?_ | refine CwC.nf rfl (by omega) ?_ | refine CwC.tt rfl ?_ | refine CwC.ff rfl ?_ | refine CwC.bt rfl (by assumption) ?_ | (refine CwC.bf rfl ?_ ?_; focus assumption))
  refine Ow.makeMap rfl rfl fun bm o hbm hwm hm0 => ?_
  obtain ⟨hxm, -⟩ := hbm
  rw [List.cons_append, List.nil_append]
  refine Ow.run rfl fun k hk => ?_
  simp (disch := (first | omega | (simp only [lenS, lenT, UInt64.reduceToNat] ; try omega))) only [↓vcL_none, ↓vcB_assign, ↓ov_some, putF_some, setF_s, setF_0, ↓ev_tmp, ↓getF_s, ↓getF_0, nf_cons, ↓vcL_nil, Md.next_seq]
  (with_reducible refine hk _ _ _ _ ?_); clear hk k
  repeat' first | with_reducible (first | refine Cw.seq ?_ | refine thenK_normal ?_ | refine Ow.nil ?_) | ((with_reducible refine Cw.region (Ow.run rfl fun k hk => ?_)); simp (disch := (first | omega | (simp only [lenS, lenT, UInt64.reduceToNat] ; try omega))) only [↓vcL_none, ↓vcB_fieldAddr, Tryd.fl25_0, ↓ev_tmp, ↓getF_s, ↓getF_0, fieldAddr_p, Nat.add_zero, ↓ov_some, putF_some, setF_s, setF_0, nf_cons, ↓vcB_load, Md.next_seq, rd_seq_load, ↓ib_true, Tryd.ag23, loadAt_p, read_same, load_bk0, ↓vcB_len, Tryd.ix23, ht.len, ↓vcB_move, ↓ev_const, lit_i64, ↓vcL_nil]; (with_reducible refine hk _ _ _ _ ?_); clear hk k) | with_reducible (first | refine Cw.block ?_ | refine Cw.skip ?_ | refine Cw.exit ?_ | refine Cw.ret ?_ | refine thenK_exit ?_ | refine thenK_ret ?_ | refine blockK_normal ?_ | refine blockK_ret ?_ | refine blockK_exit ?_ | refine blockK_pass rfl ?_) | ((with_reducible refine Cw.condC ?_); first | refine CwC.pt rfl (by omega) ?_ | refine CwC.pf rfl (by omega) ?_ | refine CwC.it rfl (by omega) ?_ | refine CwC.if rfl (by omega) ?_ | refine CwC.nt rfl (by omega) ?_ | refine CwC.nf rfl (by omega) ?_ | refine CwC.tt rfl ?_ | refine CwC.ff rfl ?_ | refine CwC.bt rfl (by assumption) ?_ | (refine CwC.bf rfl ?_ ?_; focus assumption))
  refine Cw.loopG (G := OG) [16, 17, 18, 19, 8, 7, 20, 21, 22, 23, 24, 25, 26, 27, 28, 29, 30, 31, 32, 33, 34, 35, 36, 37, 38, 39, 40, 41, 42, 43, 44, 45, 46, 47, 48, 49, 50, 51, 4, 5, 52, 15] (fun g => [(15, vi g.g)]) (fun g => [(bx, .cells #[vt, vl] 25 (0, 0)), (bm, g.o)]) (fun g => g.g ≤ t.length ∧ tabM nameV z32 (prs t) g.g = some g.m ∧ MapR g.o g.m) (fun g => t.length - g.g) ⟨0, [], o⟩ rfl rfl ?_ ?_
  · exact ⟨Nat.zero_le _, rfl, hm0⟩
  intro g j hg
  simp only [overFrom, pin, setF_0, setF_s, List.contains_cons, List.contains_nil, Nat.reduceBEq, Bool.or_false, Bool.false_or, Bool.or_true, Bool.true_or, Nat.reduceAdd, ↓reduceIte, Bool.false_eq_true]
  obtain ⟨g, m, o⟩ := g
  simp only at hg ⊢
  obtain ⟨hgl, hgm, hgo⟩ := hg
  by_cases hlt : g < t.length
  · have hb1 := h1.has (by omega)
    have hb1l := h1.lt (by omega)
    have ld1 := h1.load refC_len (by omega) hlt
    repeat' first | with_reducible (first | refine Cw.seq ?_ | refine thenK_normal ?_ | refine Ow.nil ?_) | ((with_reducible refine Cw.region (Ow.run rfl fun k hk => ?_)); simp (disch := (first | omega | (simp only [lenS, lenT, UInt64.reduceToNat] ; try omega))) only [↓vcL_none, ↓vcB_binOp, ↓ev_tmp, ↓getF_s, ↓getF_0, binX_vi_vi, bin_lss_i, ↓ov_some, putF_some, setF_s, setF_0, nf_cons, ↓vcL_nil, Md.next_seq]; (with_reducible refine hk _ _ _ _ ?_); clear hk k) | with_reducible (first | refine Cw.block ?_ | refine Cw.skip ?_ | refine Cw.exit ?_ | refine Cw.ret ?_ | refine thenK_exit ?_ | refine thenK_ret ?_ | refine blockK_normal ?_ | refine blockK_ret ?_ | refine blockK_exit ?_ | refine blockK_pass rfl ?_) | ((with_reducible refine Cw.condC ?_); first | refine CwC.pt rfl (by omega) ?_ | refine CwC.pf rfl (by omega) ?_ | refine CwC.it rfl (by omega) ?_ | refine CwC.if rfl (by omega) ?_ | refine CwC.nt rfl (by omega) ?_ | refine CwC.nf rfl (by omega) ?_ | refine CwC.tt rfl ?_ | refine CwC.ff rfl ?_ | refine CwC.bt rfl (by assumption) ?_ | (refine CwC.bf rfl ?_ ?_; focus assumption))
    refine Cw.region (Ow.run rfl fun k hk => ?_)
    simp (disch := (first | omega | (simp only [lenS, lenT, UInt64.reduceToNat] ; try omega))) only [↓vcL_none, ↓vcB_move, ↓ov_some, ↓ev_tmp, ↓getF_s, ↓getF_0, putF_some, setF_s, setF_0, nf_cons, ↓vcB_indexAddr, Tryd.ix23, ixI_vi, h1.idx, ↓vcB_load, Md.next_seq, rd_seq_load, ↓ib_true, Tryd.ag42, loadAt_p, read_other, read_old, hb1, ld1, ↓vcB_alloc]
    (with_reducible refine hk _ _ _ _ ?_); clear hk k
    refine Ow.alloc rfl rfl zrRef fun b5 hb5 hw5 => ?_
    simp only [cells_agg, List.nil_append, List.cons_append]
    obtain ⟨hx5, hm5, -⟩ := hb5
    refine Ow.run rfl fun k hk => ?_
    simp (disch := (first | omega | (simp only [lenS, lenT, UInt64.reduceToNat] ; try omega))) only [↓vcL_none, ↓vcB_assign, ↓ov_some, putF_some, setF_s, setF_0, ↓ev_tmp, ↓getF_s, ↓getF_0, nf_cons, ↓vcB_store, Tryd.ag42, storeAt_p, look_other, look_same, store_rr, upd_some, setB_other, setB_same, oh_some, ↓vcL_nil, Md.next_seq, nh_cons]
    (with_reducible refine hk _ _ _ _ ?_); clear hk k
    repeat' first | with_reducible (first | refine Cw.seq ?_ | refine thenK_normal ?_ | refine Ow.nil ?_) | ((with_reducible refine Cw.region (Ow.run rfl fun k hk => ?_)); simp (disch := (first | omega | (simp only [lenS, lenT, UInt64.reduceToNat] ; try omega))) only []; (with_reducible refine hk _ _ _ _ ?_); clear hk k) | with_reducible (first | refine Cw.block ?_ | refine Cw.skip ?_ | refine Cw.exit ?_ | refine Cw.ret ?_ | refine thenK_exit ?_ | refine thenK_ret ?_ | refine blockK_normal ?_ | refine blockK_ret ?_ | refine blockK_exit ?_ | refine blockK_pass rfl ?_) | ((with_reducible refine Cw.condC ?_); first | refine CwC.pt rfl (by omega) ?_ | refine CwC.pf rfl (by omega) ?_ | refine CwC.it rfl (by omega) ?_ | refine CwC.if rfl (by omega) ?_ | refine CwC.nt rfl (by omega) ?_ | refine CwC.nf rfl (by omega) ?_ | refine CwC.tt rfl ?_ | refine CwC.ff rfl ?_ | refine CwC.bt rfl (by assumption) ?_ | (refine CwC.bf rfl ?_ ?_; focus assumption))
    have hil := (t.getD g ref0).id.h
    have hnm := hnt g hlt
    have hpg := prs_getD t g hlt
    generalize hr : t.getD g ref0 = r at *
    refine Cw.regionS [bx, b1, b5] [0, 1, 2, 3, 4, 5, 7, 6, 8, 9, 10, 11, 12, 13, 14, 16, 17, 21, 15, 18, 19, 20, 22, 23, 24, 25, 26, 27, 28, 29, 30, 31] [] (by kernel_rfl) (by kernel_rfl) (by kernel_rfl) ?_
    simp only [nl_cons, ↓pickL_nil, ↓pickL_cons, ↓nthO_0, ↓nthO_s, consO_some]
    refine Ow.runQ fun k hk => ?_
    simp (disch := (first | omega | (simp only [lenS, lenT, UInt64.reduceToNat] ; try omega))) only [↓vcL_none, ↓vcB_fieldAddr, Tryd.fl42_0, ↓ev_tmp, ↓getF_s, ↓getF_0, fieldAddr_p, Nat.add_zero, ↓ov_some, putF_some, setF_s, setF_0, nf_cons, ↓vcB_load, Md.next_sof, List.contains_nil, Bool.false_eq_true, ↓reduceIte, ↓rd_sof_load, rdIn_p, List.contains_cons, beq_self_eq_true, Bool.or_false, Bool.or_true, ↓ib_true, Tryd.ag9, loadAt_p, read_other, read_same, load_ref0, ↓vcB_call, lit_i64]
    (with_reducible refine hk _ _ _ _ ?_); clear hk k
    refine Ow.callFV rfl Tryd.call59 (fun w' hw' => isNameV_spec r.name w' hnm) ?_
    cases hn : nameV r.name
    · have hok : tabOk nameV z32 (prs t) g = false := by unfold tabOk; rw [hpg]; simp only [hn, Bool.false_and]
      refine Ow.runQ fun k hk => ?_
      simp (disch := (first | omega | (simp only [lenS, lenT, UInt64.reduceToNat] ; try omega))) only [↓vcL_none, ↓vcB_unOp, ↓ev_tmp, putF_some, setF_s, setF_0, ↓getF_s, ↓getF_0, un_not, Bool.not_false, ↓ov_some, nf_cons, ↓vcB_move, ↓vcL_some, lit_i64, yieldF_lit, ↓nthO_s, ↓nthO_0, yieldL_some, boolOf_b, some_beq, beq_false, Bool.not_true, ↓ib_false, ↓vcB_pick, ↓ev_const, pick_t, boolOf_undef, none_beq, ↓vcL_nil, Md.next_sof, List.contains_nil, Bool.false_eq_true, ↓reduceIte]
      (with_reducible refine hk _ _ _ _ ?_); clear hk k
      with_reducible refine Ow.nil ?_
      repeat' first | with_reducible (first | refine Cw.seq ?_ | refine thenK_normal ?_ | refine Ow.nil ?_) | ((with_reducible refine Cw.region (Ow.run rfl fun k hk => ?_)); simp (disch := (first | omega | (simp only [lenS, lenT, UInt64.reduceToNat] ; try omega))) only [↓vcL_none, ↓vcB_assign, ↓ov_some, ↓ev_const, putF_some, setF_s, setF_0, nf_cons, ↓vcL_nil, Md.next_seq]; (with_reducible refine hk _ _ _ _ ?_); clear hk k) | with_reducible (first | refine Cw.block ?_ | refine Cw.skip ?_ | refine Cw.exit ?_ | refine Cw.ret ?_ | refine thenK_exit ?_ | refine thenK_ret ?_ | refine blockK_normal ?_ | refine blockK_ret ?_ | refine blockK_exit ?_ | refine blockK_pass rfl ?_) | ((with_reducible refine Cw.condC ?_); first | refine CwC.pt rfl (by omega) ?_ | refine CwC.pf rfl (by omega) ?_ | refine CwC.it rfl (by omega) ?_ | refine CwC.if rfl (by omega) ?_ | refine CwC.nt rfl (by omega) ?_ | refine CwC.nf rfl (by omega) ?_ | refine CwC.tt rfl ?_ | refine CwC.ff rfl ?_ | refine CwC.bt rfl (by assumption) ?_ | (refine CwC.bf rfl ?_ ?_; focus assumption))
      refine ⟨_, (by simp (disch := (first | omega | (simp only [lenS, lenT, UInt64.reduceToNat] ; try omega))) only [resVs_cons, resV_tmp, ↓getF_s, ↓getF_0, resVs_nil, cons2_some]; rfl), ?_⟩
      exact OfS.tab (by rw [tabM_step hgm, hok]; rfl) hlt ⟨hwx, hwm, hw5, trivial⟩
    · refine Ow.runQ fun k hk => ?_
      simp (disch := (first | omega | (simp only [lenS, lenT, UInt64.reduceToNat] ; try omega))) only [↓vcL_none, ↓vcB_unOp, ↓ev_tmp, putF_some, setF_s, setF_0, ↓getF_s, ↓getF_0, un_not, Bool.not_true, ↓ov_some, nf_cons, ↓vcB_move, ↓vcL_some, lit_i64, yieldF_lit, ↓nthO_s, ↓nthO_0, yieldL_some, boolOf_b, beq_self_eq_true, ↓ib_true, ↓vcB_fieldAddr, Tryd.fl42_1, fieldAddr_p, Nat.zero_add, ↓vcB_build, Md.next_sof, List.contains_nil, Bool.false_eq_true, ↓reduceIte]
      (with_reducible refine hk _ _ _ _ ?_); clear hk k
      refine Ow.build (.agg (a8 z32)) rfl (by kernel_rfl) ?_
      cases hz : (r.id.l == z32)
      · by_cases h0 : g = 0
        · have hd : decide ((0 : Int) < (g : Int)) = false := by simp [h0]
          have hok : tabOk nameV z32 (prs t) g = true := by unfold tabOk; rw [hpg]; simp only [hn, hz, h0, beq_self_eq_true, Bool.true_or, Bool.not_false, Bool.and_self]
          refine Ow.runQ fun k hk => ?_
          simp (disch := (first | omega | (simp only [lenS, lenT, UInt64.reduceToNat] ; try omega))) only [↓vcL_some, lit_i64, putF_some, setF_s, setF_0, yieldF_lit, ↓nthO_s, ↓nthO_0, yieldL_some, ↓getF_s, ↓getF_0, boolOf_b, beq_self_eq_true, ↓ib_true, ↓vcB_load, Md.next_sof, List.contains_nil, Bool.false_eq_true, ↓reduceIte, ↓rd_sof_load, ↓ev_tmp, rdIn_p, List.contains_cons, Bool.or_false, Bool.or_true, Tryd.ag40, loadAt_p, read_other, read_same, load_ref1, ↓ov_some, nf_cons, ↓vcB_binOp, eqIdz, hz, ↓vcL_none, ↓vcB_pick, ↓ev_const, pick_f, ↓vcB_move, binX_vi_vi, bin_gtr_i, hd, some_beq, beq_true, ↓ib_false, Tryd.ag42, load_ref, ↓vcB_call]
          (with_reducible refine hk _ _ _ _ ?_); clear hk k
          refine Ow.soft rfl rfl rfl ?_
          refine Ow.callE rfl rfl Tryd.call111 (by simp [keys]) (fun w' hw' => set_spec bm o m r w' (hw'.has _ _ (List.mem_cons_of_mem _ List.mem_cons_self)) hgo) (fun v o' hS => ?_)
          with_reducible refine Ow.nil ?_
          refine ⟨fun b hb => read_setB_ne (by simp only [List.mem_cons, List.not_mem_nil, or_false] at hb; omega), ?_⟩
          simp (disch := (first | omega | (simp only [lenS, lenT, UInt64.reduceToNat] ; try omega))) only [setB_other, setB_same]
          obtain ⟨rfl, hm'⟩ := hS
          rw [setV_eq] at hm' ⊢
          by_cases h16 : (setM z32 (r.name, r.id.l) m).length ≤ 16
          · have hd2 : decide ((setM z32 (r.name, r.id.l) m).length ≤ 16) = true := by simpa using h16
            refine Ow.runQ fun k hk => ?_
            simp (disch := (first | omega | (simp only [lenS, lenT, UInt64.reduceToNat] ; try omega))) only [↓vcL_some, lit_i64, hd2, putF_some, setF_s, setF_0, yieldF_lit, ↓nthO_s, ↓nthO_0, yieldL_some, ↓getF_s, ↓getF_0, boolOf_b, beq_self_eq_true, ↓ib_true, ↓vcB_unOp, ↓ev_tmp, un_not, Bool.not_true, ↓ov_some, nf_cons, ↓vcL_none, ↓vcB_pick, ↓ev_const, pick_f, ↓vcL_nil, Md.next_sof, List.contains_nil, Bool.false_eq_true, ↓reduceIte]
            (with_reducible refine hk _ _ _ _ ?_); clear hk k
            with_reducible refine Ow.nil ?_
            with_reducible refine thenK_normal ?_
            refine Cw.forgetN [(bx, .cells #[vt, vl] 25 (0, 0)), (bm, o')] (by exact ⟨hwx, hwm, hw5, trivial⟩) (by intro p hp; simp only [List.mem_cons, List.not_mem_nil, or_false] at hp ⊢; all_goals (first | (rcases hp with rfl | hp <;> simp_all) | (subst hp; simp) | simp_all)) (by simp [keys] <;> omega) ?_
            repeat' first | with_reducible (first | refine Cw.seq ?_ | refine thenK_normal ?_ | refine Ow.nil ?_) | ((with_reducible refine Cw.region (Ow.run rfl fun k hk => ?_)); simp (disch := (first | omega | (simp only [lenS, lenT, UInt64.reduceToNat] ; try omega))) only [↓vcL_none, ↓vcB_binOp, ↓ev_tmp, ↓getF_s, ↓getF_0, ↓ev_const, lit_i64, binX_vi_vi, bin_add_i, ↓ov_some, putF_some, setF_s, setF_0, nf_cons, ↓vcB_move, ↓vcL_nil, Md.next_seq]; (with_reducible refine hk _ _ _ _ ?_); clear hk k) | with_reducible (first | refine Cw.block ?_ | refine Cw.skip ?_ | refine Cw.exit ?_ | refine Cw.ret ?_ | refine thenK_exit ?_ | refine thenK_ret ?_ | refine blockK_normal ?_ | refine blockK_ret ?_ | refine blockK_exit ?_ | refine blockK_pass rfl ?_) | ((with_reducible refine Cw.condC ?_); first | refine CwC.pt rfl (by omega) ?_ | refine CwC.pf rfl (by omega) ?_ | refine CwC.it rfl (by omega) ?_ | refine CwC.if rfl (by omega) ?_ | refine CwC.nt rfl (by omega) ?_ | refine CwC.nf rfl (by omega) ?_ | refine CwC.tt rfl ?_ | refine CwC.ff rfl ?_ | refine CwC.bt rfl (by assumption) ?_ | (refine CwC.bf rfl ?_ ?_; focus assumption))
            refine Again.mk ⟨g + 1, setM z32 (r.name, r.id.l) m, o'⟩ (by simp only; omega) ⟨hlt, ?_, hm'⟩ rfl rfl
            rw [tabM_step hgm, hok, hpg, Bool.true_and, hd2, if_pos rfl]
          · have hd2 : decide ((setM z32 (r.name, r.id.l) m).length ≤ 16) = false := by simpa using h16
            refine Ow.runQ fun k hk => ?_
            simp (disch := (first | omega | (simp only [lenS, lenT, UInt64.reduceToNat] ; try omega))) only [↓vcL_some, lit_i64, hd2, putF_some, setF_s, setF_0, yieldF_lit, ↓nthO_s, ↓nthO_0, yieldL_some, ↓getF_s, ↓getF_0, boolOf_b, beq_self_eq_true, ↓ib_true, ↓vcB_unOp, ↓ev_tmp, un_not, Bool.not_false, ↓ov_some, nf_cons, ↓vcL_none, ↓vcB_pick, ↓ev_const, pick_f, ↓vcL_nil, Md.next_sof, List.contains_nil, Bool.false_eq_true, ↓reduceIte]
            (with_reducible refine hk _ _ _ _ ?_); clear hk k
            with_reducible refine Ow.nil ?_
            repeat' first | with_reducible (first | refine Cw.seq ?_ | refine thenK_normal ?_ | refine Ow.nil ?_) | ((with_reducible refine Cw.region (Ow.run rfl fun k hk => ?_)); simp (disch := (first | omega | (simp only [lenS, lenT, UInt64.reduceToNat] ; try omega))) only [↓vcL_none, ↓vcB_assign, ↓ov_some, ↓ev_const, putF_some, setF_s, setF_0, nf_cons, ↓vcL_nil, Md.next_seq]; (with_reducible refine hk _ _ _ _ ?_); clear hk k) | with_reducible (first | refine Cw.block ?_ | refine Cw.skip ?_ | refine Cw.exit ?_ | refine Cw.ret ?_ | refine thenK_exit ?_ | refine thenK_ret ?_ | refine blockK_normal ?_ | refine blockK_ret ?_ | refine blockK_exit ?_ | refine blockK_pass rfl ?_) | ((with_reducible refine Cw.condC ?_); first | refine CwC.pt rfl (by omega) ?_ | refine CwC.pf rfl (by omega) ?_ | refine CwC.it rfl (by omega) ?_ | refine CwC.if rfl (by omega) ?_ | refine CwC.nt rfl (by omega) ?_ | refine CwC.nf rfl (by omega) ?_ | refine CwC.tt rfl ?_ | refine CwC.ff rfl ?_ | refine CwC.bt rfl (by assumption) ?_ | (refine CwC.bf rfl ?_ ?_; focus assumption))
            refine ⟨_, (by simp (disch := (first | omega | (simp only [lenS, lenT, UInt64.reduceToNat] ; try omega))) only [resVs_cons, resV_tmp, ↓getF_s, ↓getF_0, resVs_nil, cons2_some]; rfl), ?_⟩
            exact OfS.tab (by rw [tabM_step hgm, hpg, hd2, Bool.and_false]; rfl) hlt ⟨hwx, hwm, hw5, trivial⟩
        · have hd : decide ((0 : Int) < (g : Int)) = true := by simp; omega
          have ld2 : loadV (some (false, 1)) (some (.cells a1 E1 f1)) (o1 + (g - 1) * 33) = some (vs (t.getD (g - 1) ref0).name) := h1.cell (j := 0) (n := 1) (show g - 1 < t.length by omega) (by omega)
          have hix : indexAddrV (.sl (true, 33)) vt (some ((g : Int) - 1)) = some (vp b1 (o1 + (g - 1) * 33)) := by
            have := h1.idx true (g - 1) (by omega)
            rw [show ((g - 1 : Nat) : Int) = (g : Int) - 1 by omega] at this
            exact this
          have hpp := prs_getD t (g - 1) (show g - 1 < t.length by omega)
          have hg0 : (g == 0) = false := by simpa using h0
          have hok : tabOk nameV z32 (prs t) g = ltB (t.getD (g - 1) ref0).name r.name := by unfold tabOk; rw [hpg, hpp]; simp only [hn, hz, hg0, Bool.false_or, Bool.not_false, Bool.true_and]
          cases hq : Op.bytesLess (t.getD (g - 1) ref0).name r.name
          · refine Ow.runQ fun k hk => ?_
            simp (disch := (first | omega | (simp only [lenS, lenT, UInt64.reduceToNat] ; try omega))) only [↓vcL_some, lit_i64, putF_some, setF_s, setF_0, yieldF_lit, ↓nthO_s, ↓nthO_0, yieldL_some, ↓getF_s, ↓getF_0, boolOf_b, beq_self_eq_true, ↓ib_true, ↓vcB_load, Md.next_sof, List.contains_nil, Bool.false_eq_true, ↓reduceIte, ↓rd_sof_load, ↓ev_tmp, rdIn_p, List.contains_cons, Bool.or_false, Bool.or_true, Tryd.ag40, loadAt_p, read_other, read_same, load_ref1, ↓ov_some, nf_cons, ↓vcB_binOp, eqIdz, hz, ↓vcL_none, ↓vcB_pick, ↓ev_const, pick_f, ↓vcB_move, binX_vi_vi, bin_gtr_i, hd, ↓vcB_fieldAddr, Tryd.fl25_0, fieldAddr_p, Nat.add_zero, bin_sub_i, Tryd.fl42_0, Bool.true_or, Tryd.ag23, load_bk0, ↓vcB_indexAddr, Tryd.ix23, ixI_vi, hix, Tryd.ag9, read_old, hb1, ld2, load_ref0, binX_vs, bin_geq_s, hq, Bool.not_false, pick_t, some_beq, beq_false, Bool.not_true, ↓ib_false, ↓vcL_nil]
            (with_reducible refine hk _ _ _ _ ?_); clear hk k
            with_reducible refine Ow.nil ?_
            repeat' first | with_reducible (first | refine Cw.seq ?_ | refine thenK_normal ?_ | refine Ow.nil ?_) | ((with_reducible refine Cw.region (Ow.run rfl fun k hk => ?_)); simp (disch := (first | omega | (simp only [lenS, lenT, UInt64.reduceToNat] ; try omega))) only [↓vcL_none, ↓vcB_assign, ↓ov_some, ↓ev_const, putF_some, setF_s, setF_0, nf_cons, ↓vcL_nil, Md.next_seq]; (with_reducible refine hk _ _ _ _ ?_); clear hk k) | with_reducible (first | refine Cw.block ?_ | refine Cw.skip ?_ | refine Cw.exit ?_ | refine Cw.ret ?_ | refine thenK_exit ?_ | refine thenK_ret ?_ | refine blockK_normal ?_ | refine blockK_ret ?_ | refine blockK_exit ?_ | refine blockK_pass rfl ?_) | ((with_reducible refine Cw.condC ?_); first | refine CwC.pt rfl (by omega) ?_ | refine CwC.pf rfl (by omega) ?_ | refine CwC.it rfl (by omega) ?_ | refine CwC.if rfl (by omega) ?_ | refine CwC.nt rfl (by omega) ?_ | refine CwC.nf rfl (by omega) ?_ | refine CwC.tt rfl ?_ | refine CwC.ff rfl ?_ | refine CwC.bt rfl (by assumption) ?_ | (refine CwC.bf rfl ?_ ?_; focus assumption))
            refine ⟨_, (by simp (disch := (first | omega | (simp only [lenS, lenT, UInt64.reduceToNat] ; try omega))) only [resVs_cons, resV_tmp, ↓getF_s, ↓getF_0, resVs_nil, cons2_some]; rfl), ?_⟩
            exact OfS.tab (by rw [tabM_step hgm, hok, show ltB (t.getD (g - 1) ref0).name r.name = false from hq]; rfl) hlt ⟨hwx, hwm, hw5, trivial⟩
          · refine Ow.runQ fun k hk => ?_
            simp (disch := (first | omega | (simp only [lenS, lenT, UInt64.reduceToNat] ; try omega))) only [↓vcL_some, lit_i64, putF_some, setF_s, setF_0, yieldF_lit, ↓nthO_s, ↓nthO_0, yieldL_some, ↓getF_s, ↓getF_0, boolOf_b, beq_self_eq_true, ↓ib_true, ↓vcB_load, Md.next_sof, List.contains_nil, Bool.false_eq_true, ↓reduceIte, ↓rd_sof_load, ↓ev_tmp, rdIn_p, List.contains_cons, Bool.or_false, Bool.or_true, Tryd.ag40, loadAt_p, read_other, read_same, load_ref1, ↓ov_some, nf_cons, ↓vcB_binOp, eqIdz, hz, ↓vcL_none, ↓vcB_pick, ↓ev_const, pick_f, ↓vcB_move, binX_vi_vi, bin_gtr_i, hd, ↓vcB_fieldAddr, Tryd.fl25_0, fieldAddr_p, Nat.add_zero, bin_sub_i, Tryd.fl42_0, Bool.true_or, Tryd.ag23, load_bk0, ↓vcB_indexAddr, Tryd.ix23, ixI_vi, hix, Tryd.ag9, read_old, hb1, ld2, load_ref0, binX_vs, bin_geq_s, hq, Bool.not_true, pick_t, Tryd.ag42, load_ref, ↓vcB_call]
            (with_reducible refine hk _ _ _ _ ?_); clear hk k
            refine Ow.soft rfl rfl rfl ?_
            refine Ow.callE rfl rfl Tryd.call111 (by simp [keys]) (fun w' hw' => set_spec bm o m r w' (hw'.has _ _ (List.mem_cons_of_mem _ List.mem_cons_self)) hgo) (fun v o' hS => ?_)
            with_reducible refine Ow.nil ?_
            refine ⟨fun b hb => read_setB_ne (by simp only [List.mem_cons, List.not_mem_nil, or_false] at hb; omega), ?_⟩
            simp (disch := (first | omega | (simp only [lenS, lenT, UInt64.reduceToNat] ; try omega))) only [setB_other, setB_same]
            obtain ⟨rfl, hm'⟩ := hS
            rw [setV_eq] at hm' ⊢
            by_cases h16 : (setM z32 (r.name, r.id.l) m).length ≤ 16
            · have hd2 : decide ((setM z32 (r.name, r.id.l) m).length ≤ 16) = true := by simpa using h16
              refine Ow.runQ fun k hk => ?_
              simp (disch := (first | omega | (simp only [lenS, lenT, UInt64.reduceToNat] ; try omega))) only [↓vcL_some, lit_i64, hd2, putF_some, setF_s, setF_0, yieldF_lit, ↓nthO_s, ↓nthO_0, yieldL_some, ↓getF_s, ↓getF_0, boolOf_b, beq_self_eq_true, ↓ib_true, ↓vcB_unOp, ↓ev_tmp, un_not, Bool.not_true, ↓ov_some, nf_cons, ↓vcL_none, ↓vcB_pick, ↓ev_const, pick_f, ↓vcL_nil, Md.next_sof, List.contains_nil, Bool.false_eq_true, ↓reduceIte]
              (with_reducible refine hk _ _ _ _ ?_); clear hk k
              with_reducible refine Ow.nil ?_
              with_reducible refine thenK_normal ?_
              refine Cw.forgetN [(bx, .cells #[vt, vl] 25 (0, 0)), (bm, o')] (by exact ⟨hwx, hwm, hw5, trivial⟩) (by intro p hp; simp only [List.mem_cons, List.not_mem_nil, or_false] at hp ⊢; all_goals (first | (rcases hp with rfl | hp <;> simp_all) | (subst hp; simp) | simp_all)) (by simp [keys] <;> omega) ?_
              repeat' first | with_reducible (first | refine Cw.seq ?_ | refine thenK_normal ?_ | refine Ow.nil ?_) | ((with_reducible refine Cw.region (Ow.run rfl fun k hk => ?_)); simp (disch := (first | omega | (simp only [lenS, lenT, UInt64.reduceToNat] ; try omega))) only [↓vcL_none, ↓vcB_binOp, ↓ev_tmp, ↓getF_s, ↓getF_0, ↓ev_const, lit_i64, binX_vi_vi, bin_add_i, ↓ov_some, putF_some, setF_s, setF_0, nf_cons, ↓vcB_move, ↓vcL_nil, Md.next_seq]; (with_reducible refine hk _ _ _ _ ?_); clear hk k) | with_reducible (first | refine Cw.block ?_ | refine Cw.skip ?_ | refine Cw.exit ?_ | refine Cw.ret ?_ | refine thenK_exit ?_ | refine thenK_ret ?_ | refine blockK_normal ?_ | refine blockK_ret ?_ | refine blockK_exit ?_ | refine blockK_pass rfl ?_) | ((with_reducible refine Cw.condC ?_); first | refine CwC.pt rfl (by omega) ?_ | refine CwC.pf rfl (by omega) ?_ | refine CwC.it rfl (by omega) ?_ | refine CwC.if rfl (by omega) ?_ | refine CwC.nt rfl (by omega) ?_ | refine CwC.nf rfl (by omega) ?_ | refine CwC.tt rfl ?_ | refine CwC.ff rfl ?_ | refine CwC.bt rfl (by assumption) ?_ | (refine CwC.bf rfl ?_ ?_; focus assumption))
              refine Again.mk ⟨g + 1, setM z32 (r.name, r.id.l) m, o'⟩ (by simp only; omega) ⟨hlt, ?_, hm'⟩ rfl rfl
              rw [tabM_step hgm, hok, hpg, hd2, Bool.and_true]
              exact if_pos hq
            · have hd2 : decide ((setM z32 (r.name, r.id.l) m).length ≤ 16) = false := by simpa using h16
              refine Ow.runQ fun k hk => ?_
              simp (disch := (first | omega | (simp only [lenS, lenT, UInt64.reduceToNat] ; try omega))) only [↓vcL_some, lit_i64, hd2, putF_some, setF_s, setF_0, yieldF_lit, ↓nthO_s, ↓nthO_0, yieldL_some, ↓getF_s, ↓getF_0, boolOf_b, beq_self_eq_true, ↓ib_true, ↓vcB_unOp, ↓ev_tmp, un_not, Bool.not_false, ↓ov_some, nf_cons, ↓vcL_none, ↓vcB_pick, ↓ev_const, pick_f, ↓vcL_nil, Md.next_sof, List.contains_nil, Bool.false_eq_true, ↓reduceIte]
              (with_reducible refine hk _ _ _ _ ?_); clear hk k
              with_reducible refine Ow.nil ?_
              repeat' first | with_reducible (first | refine Cw.seq ?_ | refine thenK_normal ?_ | refine Ow.nil ?_) | ((with_reducible refine Cw.region (Ow.run rfl fun k hk => ?_)); simp (disch := (first | omega | (simp only [lenS, lenT, UInt64.reduceToNat] ; try omega))) only [↓vcL_none, ↓vcB_assign, ↓ov_some, ↓ev_const, putF_some, setF_s, setF_0, nf_cons, ↓vcL_nil, Md.next_seq]; (with_reducible refine hk _ _ _ _ ?_); clear hk k) | with_reducible (first | refine Cw.block ?_ | refine Cw.skip ?_ | refine Cw.exit ?_ | refine Cw.ret ?_ | refine thenK_exit ?_ | refine thenK_ret ?_ | refine blockK_normal ?_ | refine blockK_ret ?_ | refine blockK_exit ?_ | refine blockK_pass rfl ?_) | ((with_reducible refine Cw.condC ?_); first | refine CwC.pt rfl (by omega) ?_ | refine CwC.pf rfl (by omega) ?_ | refine CwC.it rfl (by omega) ?_ | refine CwC.if rfl (by omega) ?_ | refine CwC.nt rfl (by omega) ?_ | refine CwC.nf rfl (by omega) ?_ | refine CwC.tt rfl ?_ | refine CwC.ff rfl ?_ | refine CwC.bt rfl (by assumption) ?_ | (refine CwC.bf rfl ?_ ?_; focus assumption))
              refine ⟨_, (by simp (disch := (first | omega | (simp only [lenS, lenT, UInt64.reduceToNat] ; try omega))) only [resVs_cons, resV_tmp, ↓getF_s, ↓getF_0, resVs_nil, cons2_some]; rfl), ?_⟩
              exact OfS.tab (by rw [tabM_step hgm, hpg, hd2, Bool.and_false]; rfl) hlt ⟨hwx, hwm, hw5, trivial⟩
      · have hok : tabOk nameV z32 (prs t) g = false := by unfold tabOk; rw [hpg]; simp only [hz, Bool.not_true, Bool.and_false, Bool.false_and]
        refine Ow.runQ fun k hk => ?_
        simp (disch := (first | omega | (simp only [lenS, lenT, UInt64.reduceToNat] ; try omega))) only [↓vcL_some, lit_i64, putF_some, setF_s, setF_0, yieldF_lit, ↓nthO_s, ↓nthO_0, yieldL_some, ↓getF_s, ↓getF_0, boolOf_b, beq_self_eq_true, ↓ib_true, ↓vcB_load, Md.next_sof, List.contains_nil, Bool.false_eq_true, ↓reduceIte, ↓rd_sof_load, ↓ev_tmp, rdIn_p, List.contains_cons, Bool.or_false, Bool.or_true, Tryd.ag40, loadAt_p, read_other, read_same, load_ref1, ↓ov_some, nf_cons, ↓vcB_binOp, eqIdz, hz, ↓vcL_none, ↓vcB_pick, ↓ev_const, pick_f, ↓vcB_move, some_beq, beq_false, Bool.not_true, ↓ib_false, boolOf_undef, none_beq, pick_t, ↓vcL_nil]
        (with_reducible refine hk _ _ _ _ ?_); clear hk k
        with_reducible refine Ow.nil ?_
        repeat' first | with_reducible (first | refine Cw.seq ?_ | refine thenK_normal ?_ | refine Ow.nil ?_) | ((with_reducible refine Cw.region (Ow.run rfl fun k hk => ?_)); simp (disch := (first | omega | (simp only [lenS, lenT, UInt64.reduceToNat] ; try omega))) only [↓vcL_none, ↓vcB_assign, ↓ov_some, ↓ev_const, putF_some, setF_s, setF_0, nf_cons, ↓vcL_nil, Md.next_seq]; (with_reducible refine hk _ _ _ _ ?_); clear hk k) | with_reducible (first | refine Cw.block ?_ | refine Cw.skip ?_ | refine Cw.exit ?_ | refine Cw.ret ?_ | refine thenK_exit ?_ | refine thenK_ret ?_ | refine blockK_normal ?_ | refine blockK_ret ?_ | refine blockK_exit ?_ | refine blockK_pass rfl ?_) | ((with_reducible refine Cw.condC ?_); first | refine CwC.pt rfl (by omega) ?_ | refine CwC.pf rfl (by omega) ?_ | refine CwC.it rfl (by omega) ?_ | refine CwC.if rfl (by omega) ?_ | refine CwC.nt rfl (by omega) ?_ | refine CwC.nf rfl (by omega) ?_ | refine CwC.tt rfl ?_ | refine CwC.ff rfl ?_ | refine CwC.bt rfl (by assumption) ?_ | (refine CwC.bf rfl ?_ ?_; focus assumption))
        refine ⟨_, (by simp (disch := (first | omega | (simp only [lenS, lenT, UInt64.reduceToNat] ; try omega))) only [resVs_cons, resV_tmp, ↓getF_s, ↓getF_0, resVs_nil, cons2_some]; rfl), ?_⟩
        exact OfS.tab (by rw [tabM_step hgm, hok]; rfl) hlt ⟨hwx, hwm, hw5, trivial⟩
  · obtain rfl : g = t.length := by omega
    obtain ⟨b2, o2, a2, E2, f2, h2⟩ := hl.row
    obtain ⟨vl', hsl, hlk, -⟩ := hl.take hk true
    obtain ⟨b3, o3, a3, E3, f3, h3⟩ := hlk.row
    have hkl : (l.take k).length = k := by simp; omega
    have hlen3 := hlk.len
    rw [hkl] at hlen3
    repeat' first | with_reducible (first | refine Cw.seq ?_ | refine thenK_normal ?_ | refine Ow.nil ?_) | ((with_reducible refine Cw.region (Ow.run rfl fun k hk => ?_)); simp (disch := (first | omega | (simp only [lenS, lenT, UInt64.reduceToNat] ; try omega))) only [↓vcL_none, ↓vcB_binOp, ↓ev_tmp, ↓getF_s, ↓getF_0, binX_vi_vi, bin_lss_i, ↓ov_some, putF_some, setF_s, setF_0, nf_cons, ↓vcL_nil, Md.next_seq, ↓vcB_fieldAddr, Tryd.fl25_1, fieldAddr_p, Nat.zero_add, ↓vcB_load, rd_seq_load, ↓ib_true, Tryd.ag23, loadAt_p, read_same, load_bk1, ↓vcB_move, ↓vcB_slice, Tryd.ix23, Option.map_none, Option.map_some, ixI_vi, hsl, ↓vcB_len, hlen3, ↓ev_const, lit_i64]; (with_reducible refine hk _ _ _ _ ?_); clear hk k) | with_reducible (first | refine Cw.block ?_ | refine Cw.skip ?_ | refine Cw.exit ?_ | refine Cw.ret ?_ | refine thenK_exit ?_ | refine thenK_ret ?_ | refine blockK_normal ?_ | refine blockK_ret ?_ | refine blockK_exit ?_ | refine blockK_pass rfl ?_) | ((with_reducible refine Cw.condC ?_); first | refine CwC.pt rfl (by omega) ?_ | refine CwC.pf rfl (by omega) ?_ | refine CwC.it rfl (by omega) ?_ | refine CwC.if rfl (by omega) ?_ | refine CwC.nt rfl (by omega) ?_ | refine CwC.nf rfl (by omega) ?_ | refine CwC.tt rfl ?_ | refine CwC.ff rfl ?_ | refine CwC.bt rfl (by assumption) ?_ | (refine CwC.bf rfl ?_ ?_; focus assumption))
    refine Cw.loopG (G := OG) [59, 60, 61, 10, 62, 63, 64, 65, 66, 67, 68, 69, 70, 71, 4, 5, 72, 58] (fun g => [(58, vi g.g)]) (fun g => [(bx, .cells #[vt, vl] 25 (0, 0)), (bm, g.o)]) (fun g => g.g ≤ k ∧ logM nameV z32 (prs l) m g.g = some g.m ∧ MapR g.o g.m) (fun g => k - g.g) ⟨0, m, o⟩ rfl rfl ?_ ?_
    · exact ⟨Nat.zero_le _, rfl, hgo⟩
    intro g j hg
    simp only [overFrom, pin, setF_0, setF_s, List.contains_cons, List.contains_nil, Nat.reduceBEq, Bool.or_false, Bool.false_or, Bool.or_true, Bool.true_or, Nat.reduceAdd, ↓reduceIte, Bool.false_eq_true]
    obtain ⟨g, mm, o⟩ := g
    simp only at hg ⊢
    obtain ⟨hgl2, hgm2, hgo2⟩ := hg
    by_cases hlt2 : g < k
    · have hb3 := h3.has (by omega)
      have hb3l := h3.lt (by omega)
      have ld3 := h3.load refC_len (by omega) (show g < (l.take k).length by omega)
      have hgt : (l.take k).getD g ref0 = l.getD g ref0 := by rw [List.getD_eq_getElem?_getD, List.getD_eq_getElem?_getD, List.getElem?_take_of_lt hlt2]
      rw [hgt] at ld3
      have hix3 := h3.idx true g (by omega)
      have hil := (l.getD g ref0).id.h
      have hnm := hnl g (by omega)
      have hpg := prs_getD l g (by omega)
      generalize hr : l.getD g ref0 = r at *
      repeat' first | with_reducible (first | refine Cw.seq ?_ | refine thenK_normal ?_ | refine Ow.nil ?_) | ((with_reducible refine Cw.region (Ow.run rfl fun k hk => ?_)); simp (disch := (first | omega | (simp only [lenS, lenT, UInt64.reduceToNat] ; try omega))) only [↓vcL_none, ↓vcB_binOp, ↓ev_tmp, ↓getF_s, ↓getF_0, binX_vi_vi, bin_lss_i, ↓ov_some, putF_some, setF_s, setF_0, nf_cons, ↓vcL_nil, Md.next_seq]; (with_reducible refine hk _ _ _ _ ?_); clear hk k) | with_reducible (first | refine Cw.block ?_ | refine Cw.skip ?_ | refine Cw.exit ?_ | refine Cw.ret ?_ | refine thenK_exit ?_ | refine thenK_ret ?_ | refine blockK_normal ?_ | refine blockK_ret ?_ | refine blockK_exit ?_ | refine blockK_pass rfl ?_) | ((with_reducible refine Cw.condC ?_); first | refine CwC.pt rfl (by omega) ?_ | refine CwC.pf rfl (by omega) ?_ | refine CwC.it rfl (by omega) ?_ | refine CwC.if rfl (by omega) ?_ | refine CwC.nt rfl (by omega) ?_ | refine CwC.nf rfl (by omega) ?_ | refine CwC.tt rfl ?_ | refine CwC.ff rfl ?_ | refine CwC.bt rfl (by assumption) ?_ | (refine CwC.bf rfl ?_ ?_; focus assumption))
      refine Cw.region (Ow.run rfl fun k hk => ?_)
      simp (disch := (first | omega | (simp only [lenS, lenT, UInt64.reduceToNat] ; try omega))) only [↓vcL_none, ↓vcB_indexAddr, Tryd.ix23, ↓ev_tmp, ↓getF_s, ↓getF_0, ixI_vi, hix3, ↓ov_some, putF_some, setF_s, setF_0, nf_cons, ↓vcB_load, Md.next_seq, rd_seq_load, ↓ib_true, Tryd.ag42, loadAt_p, read_other, read_old, hb3, ld3, ↓vcB_alloc]
      (with_reducible refine hk _ _ _ _ ?_); clear hk k
      refine Ow.alloc rfl rfl zrRef fun b5 hb5 hw5 => ?_
      simp only [cells_agg, List.nil_append, List.cons_append]
      obtain ⟨hx5, hm5, -⟩ := hb5
      refine Ow.run rfl fun k hk => ?_
      simp (disch := (first | omega | (simp only [lenS, lenT, UInt64.reduceToNat] ; try omega))) only [↓vcL_none, ↓vcB_store, Tryd.ag42, ↓ev_tmp, putF_some, setF_s, setF_0, ↓getF_s, ↓getF_0, storeAt_p, look_other, look_same, store_rr, upd_some, setB_other, setB_same, oh_some, ↓vcL_nil, Md.next_seq, nh_cons]
      (with_reducible refine hk _ _ _ _ ?_); clear hk k
      repeat' first | with_reducible (first | refine Cw.seq ?_ | refine thenK_normal ?_ | refine Ow.nil ?_) | ((with_reducible refine Cw.region (Ow.run rfl fun k hk => ?_)); simp (disch := (first | omega | (simp only [lenS, lenT, UInt64.reduceToNat] ; try omega))) only [↓vcL_none, ↓vcB_fieldAddr, Tryd.fl42_0, ↓ev_tmp, ↓getF_s, ↓getF_0, fieldAddr_p, Nat.add_zero, ↓ov_some, putF_some, setF_s, setF_0, nf_cons, ↓vcB_load, Md.next_seq, rd_seq_load, ↓ib_true, Tryd.ag9, loadAt_p, read_other, read_same, load_ref0, ↓vcB_call]; (with_reducible refine hk _ _ _ _ ?_); clear hk k) | with_reducible (first | refine Cw.block ?_ | refine Cw.skip ?_ | refine Cw.exit ?_ | refine Cw.ret ?_ | refine thenK_exit ?_ | refine thenK_ret ?_ | refine blockK_normal ?_ | refine blockK_ret ?_ | refine blockK_exit ?_ | refine blockK_pass rfl ?_) | ((with_reducible refine Cw.condC ?_); first | refine CwC.pt rfl (by omega) ?_ | refine CwC.pf rfl (by omega) ?_ | refine CwC.it rfl (by omega) ?_ | refine CwC.if rfl (by omega) ?_ | refine CwC.nt rfl (by omega) ?_ | refine CwC.nf rfl (by omega) ?_ | refine CwC.tt rfl ?_ | refine CwC.ff rfl ?_ | refine CwC.bt rfl (by assumption) ?_ | (refine CwC.bf rfl ?_ ?_; focus assumption))
      refine Ow.callFV rfl Tryd.call59 (fun w' hw' => isNameV_spec r.name w' hnm) ?_
      cases hn : nameV r.name
      · refine Ow.run rfl fun k hk => ?_
        simp (disch := (first | omega | (simp only [lenS, lenT, UInt64.reduceToNat] ; try omega))) only [↓vcL_none, ↓vcB_unOp, ↓ev_tmp, putF_some, setF_s, setF_0, ↓getF_s, ↓getF_0, un_not, Bool.not_false, ↓ov_some, nf_cons, ↓vcB_move, ↓vcL_some, yieldF_lit, ↓nthO_s, ↓nthO_0, yieldL_some, boolOf_b, some_beq, beq_false, Bool.not_true, ↓ib_false, ↓vcB_pick, ↓ev_const, pick_t, ↓vcL_nil, Md.next_seq]
        (with_reducible refine hk _ _ _ _ ?_); clear hk k
        with_reducible refine Ow.nil ?_
        repeat' first | with_reducible (first | refine Cw.seq ?_ | refine thenK_normal ?_ | refine Ow.nil ?_) | ((with_reducible refine Cw.region (Ow.run rfl fun k hk => ?_)); simp (disch := (first | omega | (simp only [lenS, lenT, UInt64.reduceToNat] ; try omega))) only [↓vcL_none, ↓vcB_assign, ↓ov_some, ↓ev_const, putF_some, setF_s, setF_0, nf_cons, ↓vcL_nil, Md.next_seq]; (with_reducible refine hk _ _ _ _ ?_); clear hk k) | with_reducible (first | refine Cw.block ?_ | refine Cw.skip ?_ | refine Cw.exit ?_ | refine Cw.ret ?_ | refine thenK_exit ?_ | refine thenK_ret ?_ | refine blockK_normal ?_ | refine blockK_ret ?_ | refine blockK_exit ?_ | refine blockK_pass rfl ?_) | ((with_reducible refine Cw.condC ?_); first | refine CwC.pt rfl (by omega) ?_ | refine CwC.pf rfl (by omega) ?_ | refine CwC.it rfl (by omega) ?_ | refine CwC.if rfl (by omega) ?_ | refine CwC.nt rfl (by omega) ?_ | refine CwC.nf rfl (by omega) ?_ | refine CwC.tt rfl ?_ | refine CwC.ff rfl ?_ | refine CwC.bt rfl (by assumption) ?_ | (refine CwC.bf rfl ?_ ?_; focus assumption))
        refine ⟨_, (by simp (disch := (first | omega | (simp only [lenS, lenT, UInt64.reduceToNat] ; try omega))) only [resVs_cons, resV_tmp, ↓getF_s, ↓getF_0, resVs_nil, cons2_some]; rfl), ?_⟩
        exact OfS.log hgm (by rw [logM_step hgm2, hpg]; simp only [hn, Bool.false_and, Bool.false_eq_true, ↓reduceIte]) hlt2 ⟨hwx, hwm, hw5, trivial⟩
      · refine Ow.run rfl fun k hk => ?_
        simp (disch := (first | omega | (simp only [lenS, lenT, UInt64.reduceToNat] ; try omega))) only [↓vcL_none, ↓vcB_unOp, ↓ev_tmp, putF_some, setF_s, setF_0, ↓getF_s, ↓getF_0, un_not, Bool.not_true, ↓ov_some, nf_cons, ↓vcB_move, ↓vcL_some, yieldF_lit, ↓nthO_s, ↓nthO_0, yieldL_some, boolOf_b, beq_self_eq_true, ↓ib_true, ↓vcB_load, Md.next_seq, rd_seq_load, Tryd.ag42, loadAt_p, read_other, read_same, load_ref, ↓vcB_call]
        (with_reducible refine hk _ _ _ _ ?_); clear hk k
        refine Ow.callE rfl rfl Tryd.call111 (by simp [keys]) (fun w' hw' => set_spec bm o mm r w' (hw'.has _ _ (List.mem_cons_of_mem _ List.mem_cons_self)) hgo2) (fun v o' hS => ?_)
        simp (disch := (first | omega | (simp only [lenS, lenT, UInt64.reduceToNat] ; try omega))) only [setB_other, setB_same]
        obtain ⟨rfl, hm'⟩ := hS
        rw [setV_eq] at hm' ⊢
        by_cases h16 : (setM z32 (r.name, r.id.l) mm).length ≤ 16
        · have hd2 : decide ((setM z32 (r.name, r.id.l) mm).length ≤ 16) = true := by simpa using h16
          refine Ow.run rfl fun k hk => ?_
          simp (disch := (first | omega | (simp only [lenS, lenT, UInt64.reduceToNat] ; try omega))) only [↓vcL_some, hd2, putF_some, setF_s, setF_0, yieldF_lit, ↓nthO_s, ↓nthO_0, yieldL_some, ↓getF_s, ↓getF_0, boolOf_b, beq_self_eq_true, ↓ib_true, ↓vcB_unOp, ↓ev_tmp, un_not, Bool.not_true, ↓ov_some, nf_cons, ↓vcL_none, ↓vcB_pick, ↓ev_const, pick_f, ↓vcL_nil, Md.next_seq]
          (with_reducible refine hk _ _ _ _ ?_); clear hk k
          with_reducible refine Ow.nil ?_
          with_reducible refine thenK_normal ?_
          refine Cw.forgetN [(bx, .cells #[vt, vl] 25 (0, 0)), (bm, o')] (by exact ⟨hwx, hwm, hw5, trivial⟩) (by intro p hp; simp only [List.mem_cons, List.not_mem_nil, or_false] at hp ⊢; all_goals (first | (rcases hp with rfl | hp <;> simp_all) | (subst hp; simp) | simp_all)) (by simp [keys] <;> omega) ?_
          repeat' first | with_reducible (first | refine Cw.seq ?_ | refine thenK_normal ?_ | refine Ow.nil ?_) | ((with_reducible refine Cw.region (Ow.run rfl fun k hk => ?_)); simp (disch := (first | omega | (simp only [lenS, lenT, UInt64.reduceToNat] ; try omega))) only [↓vcL_none, ↓vcB_binOp, ↓ev_tmp, ↓getF_s, ↓getF_0, ↓ev_const, lit_i64, binX_vi_vi, bin_add_i, ↓ov_some, putF_some, setF_s, setF_0, nf_cons, ↓vcB_move, ↓vcL_nil, Md.next_seq]; (with_reducible refine hk _ _ _ _ ?_); clear hk k) | with_reducible (first | refine Cw.block ?_ | refine Cw.skip ?_ | refine Cw.exit ?_ | refine Cw.ret ?_ | refine thenK_exit ?_ | refine thenK_ret ?_ | refine blockK_normal ?_ | refine blockK_ret ?_ | refine blockK_exit ?_ | refine blockK_pass rfl ?_) | ((with_reducible refine Cw.condC ?_); first | refine CwC.pt rfl (by omega) ?_ | refine CwC.pf rfl (by omega) ?_ | refine CwC.it rfl (by omega) ?_ | refine CwC.if rfl (by omega) ?_ | refine CwC.nt rfl (by omega) ?_ | refine CwC.nf rfl (by omega) ?_ | refine CwC.tt rfl ?_ | refine CwC.ff rfl ?_ | refine CwC.bt rfl (by assumption) ?_ | (refine CwC.bf rfl ?_ ?_; focus assumption))
          refine Again.mk ⟨g + 1, setM z32 (r.name, r.id.l) mm, o'⟩ (by simp only; omega) ⟨hlt2, ?_, hm'⟩ rfl rfl
          rw [logM_step hgm2, hpg]
          simp only [hn, hd2, Bool.and_true, ↓reduceIte]
        · have hd2 : decide ((setM z32 (r.name, r.id.l) mm).length ≤ 16) = false := by simpa using h16
          refine Ow.run rfl fun k hk => ?_
          simp (disch := (first | omega | (simp only [lenS, lenT, UInt64.reduceToNat] ; try omega))) only [↓vcL_some, hd2, putF_some, setF_s, setF_0, yieldF_lit, ↓nthO_s, ↓nthO_0, yieldL_some, ↓getF_s, ↓getF_0, boolOf_b, beq_self_eq_true, ↓ib_true, ↓vcB_unOp, ↓ev_tmp, un_not, Bool.not_false, ↓ov_some, nf_cons, ↓vcL_none, ↓vcB_pick, ↓ev_const, pick_f, ↓vcL_nil, Md.next_seq]
          (with_reducible refine hk _ _ _ _ ?_); clear hk k
          with_reducible refine Ow.nil ?_
          repeat' first | with_reducible (first | refine Cw.seq ?_ | refine thenK_normal ?_ | refine Ow.nil ?_) | ((with_reducible refine Cw.region (Ow.run rfl fun k hk => ?_)); simp (disch := (first | omega | (simp only [lenS, lenT, UInt64.reduceToNat] ; try omega))) only [↓vcL_none, ↓vcB_assign, ↓ov_some, ↓ev_const, putF_some, setF_s, setF_0, nf_cons, ↓vcL_nil, Md.next_seq]; (with_reducible refine hk _ _ _ _ ?_); clear hk k) | with_reducible (first | refine Cw.block ?_ | refine Cw.skip ?_ | refine Cw.exit ?_ | refine Cw.ret ?_ | refine thenK_exit ?_ | refine thenK_ret ?_ | refine blockK_normal ?_ | refine blockK_ret ?_ | refine blockK_exit ?_ | refine blockK_pass rfl ?_) | ((with_reducible refine Cw.condC ?_); first | refine CwC.pt rfl (by omega) ?_ | refine CwC.pf rfl (by omega) ?_ | refine CwC.it rfl (by omega) ?_ | refine CwC.if rfl (by omega) ?_ | refine CwC.nt rfl (by omega) ?_ | refine CwC.nf rfl (by omega) ?_ | refine CwC.tt rfl ?_ | refine CwC.ff rfl ?_ | refine CwC.bt rfl (by assumption) ?_ | (refine CwC.bf rfl ?_ ?_; focus assumption))
          refine ⟨_, (by simp (disch := (first | omega | (simp only [lenS, lenT, UInt64.reduceToNat] ; try omega))) only [resVs_cons, resV_tmp, ↓getF_s, ↓getF_0, resVs_nil, cons2_some]; rfl), ?_⟩
          exact OfS.log hgm (by rw [logM_step hgm2, hpg]; simp only [hd2, Bool.and_false, Bool.false_eq_true, ↓reduceIte]) hlt2 ⟨hwx, hwm, hw5, trivial⟩
    · obtain rfl : g = k := by omega
      repeat' first | with_reducible (first | refine Cw.seq ?_ | refine thenK_normal ?_ | refine Ow.nil ?_) | ((with_reducible refine Cw.region (Ow.run rfl fun k hk => ?_)); simp (disch := (first | omega | (simp only [lenS, lenT, UInt64.reduceToNat] ; try omega))) only [↓vcL_none, ↓vcB_binOp, ↓ev_tmp, ↓getF_s, ↓getF_0, binX_vi_vi, bin_lss_i, ↓ov_some, putF_some, setF_s, setF_0, nf_cons, ↓vcL_nil, Md.next_seq]; (with_reducible refine hk _ _ _ _ ?_); clear hk k) | with_reducible (first | refine Cw.block ?_ | refine Cw.skip ?_ | refine Cw.exit ?_ | refine Cw.ret ?_ | refine thenK_exit ?_ | refine thenK_ret ?_ | refine blockK_normal ?_ | refine blockK_ret ?_ | refine blockK_exit ?_ | refine blockK_pass rfl ?_) | ((with_reducible refine Cw.condC ?_); first | refine CwC.pt rfl (by omega) ?_ | refine CwC.pf rfl (by omega) ?_ | refine CwC.it rfl (by omega) ?_ | refine CwC.if rfl (by omega) ?_ | refine CwC.nt rfl (by omega) ?_ | refine CwC.nf rfl (by omega) ?_ | refine CwC.tt rfl ?_ | refine CwC.ff rfl ?_ | refine CwC.bt rfl (by assumption) ?_ | (refine CwC.bf rfl ?_ ?_; focus assumption))
      refine Cw.regionS [bx] [0, 1, 5, 2, 3, 4, 6] [] (by kernel_rfl) (by kernel_rfl) (by kernel_rfl) ?_
      simp only [nl_cons, ↓pickL_nil, ↓pickL_cons, ↓nthO_0, ↓nthO_s, consO_some]
      refine Ow.runQ fun k hk => ?_
      simp (disch := (first | omega | (simp only [lenS, lenT, UInt64.reduceToNat] ; try omega))) only [↓vcL_none, ↓vcB_move, ↓ov_some, ↓ev_tmp, ↓getF_s, ↓getF_0, putF_some, setF_s, setF_0, nf_cons, ↓vcB_fieldAddr, Tryd.fl25_1, fieldAddr_p, Nat.zero_add, ↓vcB_assign, ↓vcB_load, Md.next_sof, List.contains_nil, Bool.false_eq_true, ↓reduceIte, ↓rd_sof_load, rdIn_p, List.contains_cons, beq_self_eq_true, Bool.or_false, ↓ib_true, Tryd.ag23, loadAt_p, read_same, load_bk1, ↓vcB_len, Tryd.ix23, hl.len, ↓vcB_binOp, ↓ev_const, lit_i64, binX_vi_vi, bin_leq_i, ↓vcL_nil]
      (with_reducible refine hk _ _ _ _ ?_); clear hk k
      with_reducible refine Ow.nil ?_
      with_reducible refine thenK_normal ?_
      refine Cw.forgetN [(bm, o)] (by exact ⟨hwx, hwm, trivial⟩) (by intro p hp; simp only [List.mem_cons, List.not_mem_nil, or_false] at hp ⊢; all_goals (first | (rcases hp with rfl | hp <;> simp_all) | (subst hp; simp) | simp_all)) (by simp [keys] <;> omega) ?_
      repeat' first | with_reducible (first | refine Cw.seq ?_ | refine thenK_normal ?_ | refine Ow.nil ?_) | ((with_reducible refine Cw.region (Ow.run rfl fun k hk => ?_)); simp (disch := (first | omega | (simp only [lenS, lenT, UInt64.reduceToNat] ; try omega))) only []; (with_reducible refine hk _ _ _ _ ?_); clear hk k) | with_reducible (first | refine Cw.block ?_ | refine Cw.skip ?_ | refine Cw.exit ?_ | refine Cw.ret ?_ | refine thenK_exit ?_ | refine thenK_ret ?_ | refine blockK_normal ?_ | refine blockK_ret ?_ | refine blockK_exit ?_ | refine blockK_pass rfl ?_) | ((with_reducible refine Cw.condC ?_); first | refine CwC.pt rfl (by omega) ?_ | refine CwC.pf rfl (by omega) ?_ | refine CwC.it rfl (by omega) ?_ | refine CwC.if rfl (by omega) ?_ | refine CwC.nt rfl (by omega) ?_ | refine CwC.nf rfl (by omega) ?_ | refine CwC.tt rfl ?_ | refine CwC.ff rfl ?_ | refine CwC.bt rfl (by assumption) ?_ | (refine CwC.bf rfl ?_ ?_; focus assumption))
      refine ⟨_, (by simp (disch := (first | omega | (simp only [lenS, lenT, UInt64.reduceToNat] ; try omega))) only [resVs_cons, resV_tmp, ↓getF_s, ↓getF_0, resVs_nil, cons2_some]; rfl), ?_⟩
      unfold OfS ofM
      rw [prs_len, hgm, Option.bind_some, hgm2]
      exact ⟨bm, o, congrArg (fun b => Value.tuple #[vm bm, .bool b]) (decide_eq_decide.2 (by omega)), rfl, hgo2, hwm⟩
end Go.Proofs
open Go Go.Proofs Go.Sx Go.RefP
namespace Go.Proofs
set_option maxRecDepth 10000
set_option maxHeartbeats 4000000
set_option linter.unusedSimpArgs false
theorem load_bk (a b : Value) (E : TypeId) : loadV (some (true, 2)) (some (.cells #[a, b] E (0, 0))) 0 = some (.agg #[a, b]) := load_all _ E (0, 0) 2 rfl
/-- Names that are not too long. -/
def ShortN (l : List RefL) : Prop := ∀ g, g < l.length → (l.getD g ref0).name.length < 1099511627776
theorem Right_spec (vt vl : Value) (t l : List RefL) (w : World) (ht : RefSl w vt t) (hl : RefSl w vl l) (htl : t.length < 1000000) (hll : l.length < 1000000) (hnt : ShortN t) (hnl : ShortN l) :
    Rets Tryd.prog 36 #[.agg #[vt, vl]] w (fun v D => v = .bool (rightB t l) ∧ D = []) := by
  refine Rets.enterV Tryd.func36 rfl (rs := [.tmp 2]) Tryd.results36 Tryd.ntmps36 ?_
  simp only [List.size_toArray, List.length_cons, List.length_nil, Nat.reduceAdd, Nat.reduceSub, List.replicate_succ, List.replicate_zero, List.cons_append, List.nil_append]
  repeat' first | with_reducible (first | refine Cw.seq ?_ | refine thenK_normal ?_ | refine Ow.nil ?_) | ((with_reducible refine Cw.region (Ow.run rfl fun k hk => ?_)); simp (disch := (first | omega | (simp only [lenS, lenT, UInt64.reduceToNat] ; try omega))) only [↓vcL_none, ↓vcB_box]; (with_reducible refine hk _ _ _ _ ?_); clear hk k) | with_reducible (first | refine Cw.block ?_ | refine Cw.skip ?_ | refine Cw.exit ?_ | refine Cw.ret ?_ | refine thenK_exit ?_ | refine thenK_ret ?_ | refine blockK_normal ?_ | refine blockK_ret ?_ | refine blockK_exit ?_ | refine blockK_pass rfl ?_) | ((with_reducible refine Cw.condC ?_); first | refine CwC.pt rfl (by omega) ?_ | refine CwC.pf rfl (by omega) ?_ | refine CwC.it rfl (by omega) ?_ | refine CwC.if rfl (by omega) ?_ | refine CwC.nt rfl (by omega) ?_ | refine CwC.nf rfl (by omega) ?_ | refine CwC.tt rfl ?_ | refine CwC.ff rfl ?_ | refine CwC.bt rfl (by assumption) ?_ | (refine CwC.bf rfl ?_ ?_; focus assumption))
  refine Ow.box rfl rfl fun bx hbx hwx => ?_
  simp only [ev_tmp, getF_0, getF_s, cells_agg, List.nil_append, List.cons_append]
  refine Ow.run rfl fun k hk => ?_
  simp (disch := (first | omega | (simp only [lenS, lenT, UInt64.reduceToNat] ; try omega))) only [↓vcL_none, ↓vcB_assign, ↓ov_some, putF_some, setF_s, setF_0, ↓ev_const, nf_cons, ↓vcL_nil, Md.next_seq]
  (with_reducible refine hk _ _ _ _ ?_); clear hk k
  repeat' first | with_reducible (first | refine Cw.seq ?_ | refine thenK_normal ?_ | refine Ow.nil ?_) | ((with_reducible refine Cw.region (Ow.run rfl fun k hk => ?_)); simp (disch := (first | omega | (simp only [lenS, lenT, UInt64.reduceToNat] ; try omega))) only [↓vcL_none, ↓vcB_load, rd_seq_load, ↓ib_true, Tryd.ag25, ↓ev_tmp, ↓getF_s, ↓getF_0, loadAt_p, read_same, load_bk, ↓ov_some, putF_some, setF_s, setF_0, nf_cons, ↓vcB_fieldAddr, Tryd.fl25_1, fieldAddr_p, Nat.zero_add, Md.next_seq, Tryd.ag23, load_bk1, ↓vcB_len, Tryd.ix23, hl.len, ↓vcB_call]; (with_reducible refine hk _ _ _ _ ?_); clear hk k) | with_reducible (first | refine Cw.block ?_ | refine Cw.skip ?_ | refine Cw.exit ?_ | refine Cw.ret ?_ | refine thenK_exit ?_ | refine thenK_ret ?_ | refine blockK_normal ?_ | refine blockK_ret ?_ | refine blockK_exit ?_ | refine blockK_pass rfl ?_) | ((with_reducible refine Cw.condC ?_); first | refine CwC.pt rfl (by omega) ?_ | refine CwC.pf rfl (by omega) ?_ | refine CwC.it rfl (by omega) ?_ | refine CwC.if rfl (by omega) ?_ | refine CwC.nt rfl (by omega) ?_ | refine CwC.nf rfl (by omega) ?_ | refine CwC.tt rfl ?_ | refine CwC.ff rfl ?_ | refine CwC.bt rfl (by assumption) ?_ | (refine CwC.bf rfl ?_ ?_; focus assumption))
  refine Ow.callN rfl rfl Tryd.call72 (S := (fun B v D => OfS B t l l.length v D)) (fun w' hw' => of_spec vt vl t l l.length w' (ht.oldN hw' ⟨hwx, trivial⟩) (hl.oldN hw' ⟨hwx, trivial⟩) htl hll (Nat.le_refl _) hnt hnl) (fun B v D h => h.new) (fun B v D hA hB hS => ?_)
  have hnew := hS.new
  unfold OfS at hS
  simp only [rightB, rightM, prs_len]
  cases ho : ofM nameV z32 (prs t) (prs l) l.length with
  | none =>
    rw [ho] at hS
    obtain ⟨rfl, hD⟩ := hS
    refine Ow.run rfl fun k hk => ?_
    simp (disch := (first | omega | (simp only [lenS, lenT, UInt64.reduceToNat] ; try omega))) only [↓vcL_none, ↓vcB_move, ↓ov_some, putF_some, setF_s, setF_0, ↓ev_tmp, ↓getF_s, ↓getF_0, nf_cons, ↓vcB_extract, extract_t, tup2_0, tup2_1, ↓vcB_assign, ↓vcL_nil, Md.next_seq, List.cons_append, List.nil_append]
    (with_reducible refine hk _ _ _ _ ?_); clear hk k
    repeat' first | with_reducible (first | refine Cw.seq ?_ | refine thenK_normal ?_ | refine Ow.nil ?_) | ((with_reducible refine Cw.region (Ow.run rfl fun k hk => ?_)); simp (disch := (first | omega | (simp only [lenS, lenT, UInt64.reduceToNat] ; try omega))) only [↓vcL_none, ↓vcB_move, ↓ov_some, ↓ev_tmp, ↓getF_s, ↓getF_0, putF_some, setF_s, setF_0, nf_cons, ↓vcB_assign, ↓vcL_nil, Md.next_seq]; (with_reducible refine hk _ _ _ _ ?_); clear hk k) | with_reducible (first | refine Cw.block ?_ | refine Cw.skip ?_ | refine Cw.exit ?_ | refine Cw.ret ?_ | refine thenK_exit ?_ | refine thenK_ret ?_ | refine blockK_normal ?_ | refine blockK_ret ?_ | refine blockK_exit ?_ | refine blockK_pass rfl ?_) | ((with_reducible refine Cw.condC ?_); first | refine CwC.pt rfl (by omega) ?_ | refine CwC.pf rfl (by omega) ?_ | refine CwC.it rfl (by omega) ?_ | refine CwC.if rfl (by omega) ?_ | refine CwC.nt rfl (by omega) ?_ | refine CwC.nf rfl (by omega) ?_ | refine CwC.tt rfl ?_ | refine CwC.ff rfl ?_ | refine CwC.bt rfl (by assumption) ?_ | (refine CwC.bf rfl ?_ ?_; focus assumption))
    refine ⟨_, (by simp (disch := (first | omega | (simp only [lenS, lenT, UInt64.reduceToNat] ; try omega))) only [resVs_cons, resV_tmp, ↓getF_s, ↓getF_0, resVs_nil, cons2_some]; rfl), ⟨hwx, hnew.mono hB⟩, ?_⟩
    rfl
  | some m =>
    rw [ho] at hS
    obtain ⟨b, o, rfl, rfl, hm, hb⟩ := hS
    refine Ow.run rfl fun k hk => ?_
    simp (disch := (first | omega | (simp only [lenS, lenT, UInt64.reduceToNat] ; try omega))) only [↓vcL_none, ↓vcB_move, ↓ov_some, putF_some, setF_s, setF_0, ↓ev_tmp, ↓getF_s, ↓getF_0, nf_cons, ↓vcB_extract, extract_t, tup2_0, tup2_1, ↓vcB_assign, ↓vcL_nil, Md.next_seq, List.cons_append, List.nil_append]
    (with_reducible refine hk _ _ _ _ ?_); clear hk k
    repeat' first | with_reducible (first | refine Cw.seq ?_ | refine thenK_normal ?_ | refine Ow.nil ?_) | ((with_reducible refine Cw.region (Ow.run rfl fun k hk => ?_)); simp (disch := (first | omega | (simp only [lenS, lenT, UInt64.reduceToNat] ; try omega))) only [↓vcL_none, ↓vcB_move, ↓ov_some, ↓ev_tmp, ↓getF_s, ↓getF_0, putF_some, setF_s, setF_0, nf_cons, ↓vcB_assign, ↓vcL_nil, Md.next_seq]; (with_reducible refine hk _ _ _ _ ?_); clear hk k) | with_reducible (first | refine Cw.block ?_ | refine Cw.skip ?_ | refine Cw.exit ?_ | refine Cw.ret ?_ | refine thenK_exit ?_ | refine thenK_ret ?_ | refine blockK_normal ?_ | refine blockK_ret ?_ | refine blockK_exit ?_ | refine blockK_pass rfl ?_) | ((with_reducible refine Cw.condC ?_); first | refine CwC.pt rfl (by omega) ?_ | refine CwC.pf rfl (by omega) ?_ | refine CwC.it rfl (by omega) ?_ | refine CwC.if rfl (by omega) ?_ | refine CwC.nt rfl (by omega) ?_ | refine CwC.nf rfl (by omega) ?_ | refine CwC.tt rfl ?_ | refine CwC.ff rfl ?_ | refine CwC.bt rfl (by assumption) ?_ | (refine CwC.bf rfl ?_ ?_; focus assumption))
    refine ⟨_, (by simp (disch := (first | omega | (simp only [lenS, lenT, UInt64.reduceToNat] ; try omega))) only [resVs_cons, resV_tmp, ↓getF_s, ↓getF_0, resVs_nil, cons2_some]; rfl), ⟨hwx, Nat.le_trans hB hb, trivial⟩, ?_⟩
    simp [tupV]
theorem getV_len {m : Vals} {n z : List UInt8} (h : AllLen m) (hz : z.length = 32) : (getV n z m).length = 32 := by
  unfold getV
  cases hf : m.find? fun p => n == p.1 with
  | none => exact hz
  | some p => exact h p (List.mem_of_find?_eq_some hf)
theorem prs_ids (l : List RefL) : ∀ g, g < (prs l).length → ((prs l).getD g zp).2.length = 32 := by
  intro g hg
  rw [prs_len] at hg
  rw [prs_getD l g hg]
  exact (l.getD g ref0).id.h
/-- A name's value. -/
def valueB (t l : List RefL) (n : List UInt8) : List UInt8 :=
  match ofM nameV z32 (prs t) (prs l) l.length with
  | some m => if l.length ≤ 100 then getV n z32 m else z32
  | none => z32
theorem Value_spec (vt vl : Value) (t l : List RefL) (n : List UInt8) (w : World) (ht : RefSl w vt t) (hl : RefSl w vl l) (htl : t.length < 1000000) (hll : l.length < 1000000) (hnt : ShortN t) (hnl : ShortN l) :
    Rets Tryd.prog 37 #[.agg #[vt, vl], vs n] w (fun v D => v = .agg (a8 (valueB t l n)) ∧ D = []) := by
  refine Rets.enterV Tryd.func37 rfl (rs := [.cell 4 40]) Tryd.results37 Tryd.ntmps37 ?_
  simp only [List.size_toArray, List.length_cons, List.length_nil, Nat.reduceAdd, Nat.reduceSub, List.replicate_succ, List.replicate_zero, List.cons_append, List.nil_append]
  repeat' first | with_reducible (first | refine Cw.seq ?_ | refine thenK_normal ?_ | refine Ow.nil ?_) | ((with_reducible refine Cw.region (Ow.run rfl fun k hk => ?_)); simp (disch := (first | omega | (simp only [lenS, lenT, UInt64.reduceToNat] ; try omega))) only [↓vcL_none, ↓vcB_box]; (with_reducible refine hk _ _ _ _ ?_); clear hk k) | with_reducible (first | refine Cw.block ?_ | refine Cw.skip ?_ | refine Cw.exit ?_ | refine Cw.ret ?_ | refine thenK_exit ?_ | refine thenK_ret ?_ | refine blockK_normal ?_ | refine blockK_ret ?_ | refine blockK_exit ?_ | refine blockK_pass rfl ?_) | ((with_reducible refine Cw.condC ?_); first | refine CwC.pt rfl (by omega) ?_ | refine CwC.pf rfl (by omega) ?_ | refine CwC.it rfl (by omega) ?_ | refine CwC.if rfl (by omega) ?_ | refine CwC.nt rfl (by omega) ?_ | refine CwC.nf rfl (by omega) ?_ | refine CwC.tt rfl ?_ | refine CwC.ff rfl ?_ | refine CwC.bt rfl (by assumption) ?_ | (refine CwC.bf rfl ?_ ?_; focus assumption))
  refine Ow.box rfl rfl fun bx hbx hwx => ?_
  simp only [ev_tmp, getF_0, getF_s, cells_agg, List.nil_append, List.cons_append]
  refine Ow.run rfl fun k hk => ?_
  simp (disch := (first | omega | (simp only [lenS, lenT, UInt64.reduceToNat] ; try omega))) only [↓vcL_none, ↓vcB_alloc, putF_some, setF_s, setF_0]
  (with_reducible refine hk _ _ _ _ ?_); clear hk k
  have zrId : zeroV Tryd.prog 40 = some (.agg (a8 (List.replicate 32 0))) := Tryd.zr40
  rw [show (List.replicate 32 (0 : UInt8)) = z32 from rfl] at zrId
  have hzl : z32.length = 32 := by simp [z32]
  refine Ow.alloc rfl rfl zrId fun b1 hb1 hw1 => ?_
  simp only [cells_agg, List.nil_append, List.cons_append]
  obtain ⟨hx1, -⟩ := hb1
  refine Ow.run rfl fun k hk => ?_
  simp (disch := (first | omega | (simp only [lenS, lenT, UInt64.reduceToNat] ; try omega))) only [↓vcL_nil, putF_some, setF_s, setF_0]
  (with_reducible refine hk _ _ _ _ ?_); clear hk k
  repeat' first | with_reducible (first | refine Cw.seq ?_ | refine thenK_normal ?_ | refine Ow.nil ?_) | ((with_reducible refine Cw.region (Ow.run rfl fun k hk => ?_)); simp (disch := (first | omega | (simp only [lenS, lenT, UInt64.reduceToNat] ; try omega))) only [↓vcL_none, ↓vcB_load, rd_seq_load, ↓ib_true, Tryd.ag25, ↓ev_tmp, ↓getF_s, ↓getF_0, loadAt_p, read_same, load_bk, ↓ov_some, putF_some, setF_s, setF_0, nf_cons, ↓vcB_fieldAddr, Tryd.fl25_1, fieldAddr_p, Nat.zero_add, Md.next_seq, Tryd.ag23, load_bk1, ↓vcB_len, Tryd.ix23, hl.len, ↓vcB_call]; (with_reducible refine hk _ _ _ _ ?_); clear hk k) | with_reducible (first | refine Cw.block ?_ | refine Cw.skip ?_ | refine Cw.exit ?_ | refine Cw.ret ?_ | refine thenK_exit ?_ | refine thenK_ret ?_ | refine blockK_normal ?_ | refine blockK_ret ?_ | refine blockK_exit ?_ | refine blockK_pass rfl ?_) | ((with_reducible refine Cw.condC ?_); first | refine CwC.pt rfl (by omega) ?_ | refine CwC.pf rfl (by omega) ?_ | refine CwC.it rfl (by omega) ?_ | refine CwC.if rfl (by omega) ?_ | refine CwC.nt rfl (by omega) ?_ | refine CwC.nf rfl (by omega) ?_ | refine CwC.tt rfl ?_ | refine CwC.ff rfl ?_ | refine CwC.bt rfl (by assumption) ?_ | (refine CwC.bf rfl ?_ ?_; focus assumption))
  refine Ow.callN rfl rfl Tryd.call72 (S := (fun B v D => OfS B t l l.length v D)) (fun w' hw' => of_spec vt vl t l l.length w' (ht.oldN hw' ⟨hwx, hw1, trivial⟩) (hl.oldN hw' ⟨hwx, hw1, trivial⟩) htl hll (Nat.le_refl _) hnt hnl) (fun B v D h => h.new) (fun B v D hA hB hS => ?_)
  have hnew := hS.new
  unfold OfS at hS
  unfold valueB
  cases ho : ofM nameV z32 (prs t) (prs l) l.length with
  | none =>
    rw [ho] at hS
    obtain ⟨rfl, hD⟩ := hS
    refine Ow.run rfl fun k hk => ?_
    simp (disch := (first | omega | (simp only [lenS, lenT, UInt64.reduceToNat] ; try omega))) only [↓vcL_none, ↓vcB_move, ↓ov_some, putF_some, setF_s, setF_0, ↓ev_tmp, ↓getF_s, ↓getF_0, nf_cons, ↓vcB_extract, extract_t, tup2_0, tup2_1, ↓vcB_assign, ↓vcL_nil, Md.next_seq, List.cons_append, List.nil_append]
    (with_reducible refine hk _ _ _ _ ?_); clear hk k
    repeat' first | with_reducible (first | refine Cw.seq ?_ | refine thenK_normal ?_ | refine Ow.nil ?_) | ((with_reducible refine Cw.region (Ow.run rfl fun k hk => ?_)); simp (disch := (first | omega | (simp only [lenS, lenT, UInt64.reduceToNat] ; try omega))) only [↓vcL_none, ↓vcB_move, ↓ov_some, ↓ev_tmp, ↓getF_s, ↓getF_0, putF_some, setF_s, setF_0, nf_cons, ↓vcB_unOp, un_not, Bool.not_false, ↓vcL_nil, Md.next_seq, ↓vcB_build]; (with_reducible refine hk _ _ _ _ ?_); clear hk k) | with_reducible (first | refine Cw.block ?_ | refine Cw.skip ?_ | refine Cw.exit ?_ | refine Cw.ret ?_ | refine thenK_exit ?_ | refine thenK_ret ?_ | refine blockK_normal ?_ | refine blockK_ret ?_ | refine blockK_exit ?_ | refine blockK_pass rfl ?_) | ((with_reducible refine Cw.condC ?_); first | refine CwC.pt rfl (by omega) ?_ | refine CwC.pf rfl (by omega) ?_ | refine CwC.it rfl (by omega) ?_ | refine CwC.if rfl (by omega) ?_ | refine CwC.nt rfl (by omega) ?_ | refine CwC.nf rfl (by omega) ?_ | refine CwC.tt rfl ?_ | refine CwC.ff rfl ?_ | refine CwC.bt rfl (by assumption) ?_ | (refine CwC.bf rfl ?_ ?_; focus assumption))
    refine Ow.build (.agg (a8 z32)) rfl (by kernel_rfl) ?_
    refine Ow.run rfl fun k hk => ?_
    simp (disch := (first | omega | (simp only [lenS, lenT, UInt64.reduceToNat] ; try omega))) only [↓vcL_none, ↓vcB_store, Tryd.ag40, ↓ev_tmp, putF_some, setF_s, setF_0, ↓getF_s, ↓getF_0, storeAt_p, look_other, look_same, store_all8, upd_some, setB_other, setB_same, oh_some, ↓vcL_nil, Md.next_seq, nh_cons]
    (with_reducible refine hk _ _ _ _ ?_); clear hk k
    repeat' first | with_reducible (first | refine Cw.seq ?_ | refine thenK_normal ?_ | refine Ow.nil ?_) | ((with_reducible refine Cw.region (Ow.run rfl fun k hk => ?_)); simp (disch := (first | omega | (simp only [lenS, lenT, UInt64.reduceToNat] ; try omega))) only []; (with_reducible refine hk _ _ _ _ ?_); clear hk k) | with_reducible (first | refine Cw.block ?_ | refine Cw.skip ?_ | refine Cw.exit ?_ | refine Cw.ret ?_ | refine thenK_exit ?_ | refine thenK_ret ?_ | refine blockK_normal ?_ | refine blockK_ret ?_ | refine blockK_exit ?_ | refine blockK_pass rfl ?_) | ((with_reducible refine Cw.condC ?_); first | refine CwC.pt rfl (by omega) ?_ | refine CwC.pf rfl (by omega) ?_ | refine CwC.it rfl (by omega) ?_ | refine CwC.if rfl (by omega) ?_ | refine CwC.nt rfl (by omega) ?_ | refine CwC.nf rfl (by omega) ?_ | refine CwC.tt rfl ?_ | refine CwC.ff rfl ?_ | refine CwC.bt rfl (by assumption) ?_ | (refine CwC.bf rfl ?_ ?_; focus assumption))
    refine ⟨_, (by simp (disch := (first | omega | (simp only [lenS, lenT, UInt64.reduceToNat] ; try omega))) only [resVs_cons, resV_cell, Tryd.ag40, ↓getF_s, ↓getF_0, loadAt_p, read_other, read_same, load_all8, resVs_nil, cons2_some]; rfl), ⟨hwx, hw1, hnew.mono hB⟩, ?_⟩
    rfl
  | some m =>
    rw [ho] at hS
    obtain ⟨b, o, rfl, rfl, hm, hb⟩ := hS
    obtain ⟨hxb, h1b, -⟩ := hA
    have hwb := Nat.le_trans hB hb
    by_cases h100 : l.length ≤ 100
    · have hd : decide (l.length ≤ 100) = true := by simpa using h100
      simp only [if_pos h100]
      refine Ow.run rfl fun k hk => ?_
      simp (disch := (first | omega | (simp only [lenS, lenT, UInt64.reduceToNat] ; try omega))) only [↓vcL_none, ↓vcB_move, ↓ov_some, putF_some, setF_s, setF_0, ↓ev_tmp, ↓getF_s, ↓getF_0, nf_cons, ↓vcB_extract, extract_t, tup2_0, tup2_1, ↓vcB_assign, ↓vcL_nil, Md.next_seq, List.cons_append, List.nil_append]
      (with_reducible refine hk _ _ _ _ ?_); clear hk k
      repeat' first | with_reducible (first | refine Cw.seq ?_ | refine thenK_normal ?_ | refine Ow.nil ?_) | ((with_reducible refine Cw.region (Ow.run rfl fun k hk => ?_)); simp (disch := (first | omega | (simp only [lenS, lenT, UInt64.reduceToNat] ; try omega))) only [↓vcL_none, ↓vcB_move, ↓ov_some, hd, ↓ev_tmp, ↓getF_s, ↓getF_0, putF_some, setF_s, setF_0, nf_cons, ↓vcB_unOp, un_not, Bool.not_true, ↓vcL_nil, Md.next_seq, ↓vcB_lookup]; (with_reducible refine hk _ _ _ _ ?_); clear hk k) | with_reducible (first | refine Cw.block ?_ | refine Cw.skip ?_ | refine Cw.exit ?_ | refine Cw.ret ?_ | refine thenK_exit ?_ | refine thenK_ret ?_ | refine blockK_normal ?_ | refine blockK_ret ?_ | refine blockK_exit ?_ | refine blockK_pass rfl ?_) | ((with_reducible refine Cw.condC ?_); first | refine CwC.pt rfl (by omega) ?_ | refine CwC.pf rfl (by omega) ?_ | refine CwC.it rfl (by omega) ?_ | refine CwC.if rfl (by omega) ?_ | refine CwC.nt rfl (by omega) ?_ | refine CwC.nf rfl (by omega) ?_ | refine CwC.tt rfl ?_ | refine CwC.ff rfl ?_ | refine CwC.bt rfl (by assumption) ?_ | (refine CwC.bf rfl ?_ ?_; focus assumption))
      refine Ow.mapGet rfl rfl Tryd.underlying126 Tryd.underlying9 zrId rfl rfl (read_look (by rw [look_other _ _ _ _ (by omega), look_other _ _ _ _ (by omega)]; exact look_same _ _ _)) hm ?_
      have hgl := getV_len (n := n) (ofM_len (prs_ids t) (prs_ids l) (by rw [prs_len]; exact Nat.le_refl _) ho) hzl
      refine Ow.run rfl fun k hk => ?_
      simp (disch := (first | omega | (simp only [lenS, lenT, UInt64.reduceToNat] ; try omega))) only [↓vcL_none, ↓vcB_store, Tryd.ag40, ↓ev_tmp, putF_some, setF_s, setF_0, ↓getF_s, ↓getF_0, storeAt_p, look_other, look_same, store_all8, upd_some, setB_other, setB_same, oh_some, ↓vcL_nil, Md.next_seq, nh_cons]
      (with_reducible refine hk _ _ _ _ ?_); clear hk k
      repeat' first | with_reducible (first | refine Cw.seq ?_ | refine thenK_normal ?_ | refine Ow.nil ?_) | ((with_reducible refine Cw.region (Ow.run rfl fun k hk => ?_)); simp (disch := (first | omega | (simp only [lenS, lenT, UInt64.reduceToNat] ; try omega))) only []; (with_reducible refine hk _ _ _ _ ?_); clear hk k) | with_reducible (first | refine Cw.block ?_ | refine Cw.skip ?_ | refine Cw.exit ?_ | refine Cw.ret ?_ | refine thenK_exit ?_ | refine thenK_ret ?_ | refine blockK_normal ?_ | refine blockK_ret ?_ | refine blockK_exit ?_ | refine blockK_pass rfl ?_) | ((with_reducible refine Cw.condC ?_); first | refine CwC.pt rfl (by omega) ?_ | refine CwC.pf rfl (by omega) ?_ | refine CwC.it rfl (by omega) ?_ | refine CwC.if rfl (by omega) ?_ | refine CwC.nt rfl (by omega) ?_ | refine CwC.nf rfl (by omega) ?_ | refine CwC.tt rfl ?_ | refine CwC.ff rfl ?_ | refine CwC.bt rfl (by assumption) ?_ | (refine CwC.bf rfl ?_ ?_; focus assumption))
      refine ⟨_, (by simp (disch := (first | omega | (simp only [lenS, lenT, UInt64.reduceToNat] ; try omega))) only [resVs_cons, resV_cell, Tryd.ag40, ↓getF_s, ↓getF_0, loadAt_p, read_other, read_same, load_all8, resVs_nil, cons2_some]; rfl), ⟨hwx, hw1, hwb, trivial⟩, ?_⟩
      rfl
    · have hd : decide (l.length ≤ 100) = false := by simpa using h100
      simp only [if_neg h100]
      refine Ow.run rfl fun k hk => ?_
      simp (disch := (first | omega | (simp only [lenS, lenT, UInt64.reduceToNat] ; try omega))) only [↓vcL_none, ↓vcB_move, ↓ov_some, putF_some, setF_s, setF_0, ↓ev_tmp, ↓getF_s, ↓getF_0, nf_cons, ↓vcB_extract, extract_t, tup2_0, tup2_1, ↓vcB_assign, ↓vcL_nil, Md.next_seq, List.cons_append, List.nil_append]
      (with_reducible refine hk _ _ _ _ ?_); clear hk k
      repeat' first | with_reducible (first | refine Cw.seq ?_ | refine thenK_normal ?_ | refine Ow.nil ?_) | ((with_reducible refine Cw.region (Ow.run rfl fun k hk => ?_)); simp (disch := (first | omega | (simp only [lenS, lenT, UInt64.reduceToNat] ; try omega))) only [↓vcL_none, ↓vcB_move, ↓ov_some, hd, ↓ev_tmp, ↓getF_s, ↓getF_0, putF_some, setF_s, setF_0, nf_cons, ↓vcB_unOp, un_not, Bool.not_false, ↓vcL_nil, Md.next_seq, ↓vcB_build]; (with_reducible refine hk _ _ _ _ ?_); clear hk k) | with_reducible (first | refine Cw.block ?_ | refine Cw.skip ?_ | refine Cw.exit ?_ | refine Cw.ret ?_ | refine thenK_exit ?_ | refine thenK_ret ?_ | refine blockK_normal ?_ | refine blockK_ret ?_ | refine blockK_exit ?_ | refine blockK_pass rfl ?_) | ((with_reducible refine Cw.condC ?_); first | refine CwC.pt rfl (by omega) ?_ | refine CwC.pf rfl (by omega) ?_ | refine CwC.it rfl (by omega) ?_ | refine CwC.if rfl (by omega) ?_ | refine CwC.nt rfl (by omega) ?_ | refine CwC.nf rfl (by omega) ?_ | refine CwC.tt rfl ?_ | refine CwC.ff rfl ?_ | refine CwC.bt rfl (by assumption) ?_ | (refine CwC.bf rfl ?_ ?_; focus assumption))
      refine Ow.build (.agg (a8 z32)) rfl (by kernel_rfl) ?_
      refine Ow.run rfl fun k hk => ?_
      simp (disch := (first | omega | (simp only [lenS, lenT, UInt64.reduceToNat] ; try omega))) only [↓vcL_none, ↓vcB_store, Tryd.ag40, ↓ev_tmp, putF_some, setF_s, setF_0, ↓getF_s, ↓getF_0, storeAt_p, look_other, look_same, store_all8, upd_some, setB_other, setB_same, oh_some, ↓vcL_nil, Md.next_seq, nh_cons]
      (with_reducible refine hk _ _ _ _ ?_); clear hk k
      repeat' first | with_reducible (first | refine Cw.seq ?_ | refine thenK_normal ?_ | refine Ow.nil ?_) | ((with_reducible refine Cw.region (Ow.run rfl fun k hk => ?_)); simp (disch := (first | omega | (simp only [lenS, lenT, UInt64.reduceToNat] ; try omega))) only []; (with_reducible refine hk _ _ _ _ ?_); clear hk k) | with_reducible (first | refine Cw.block ?_ | refine Cw.skip ?_ | refine Cw.exit ?_ | refine Cw.ret ?_ | refine thenK_exit ?_ | refine thenK_ret ?_ | refine blockK_normal ?_ | refine blockK_ret ?_ | refine blockK_exit ?_ | refine blockK_pass rfl ?_) | ((with_reducible refine Cw.condC ?_); first | refine CwC.pt rfl (by omega) ?_ | refine CwC.pf rfl (by omega) ?_ | refine CwC.it rfl (by omega) ?_ | refine CwC.if rfl (by omega) ?_ | refine CwC.nt rfl (by omega) ?_ | refine CwC.nf rfl (by omega) ?_ | refine CwC.tt rfl ?_ | refine CwC.ff rfl ?_ | refine CwC.bt rfl (by assumption) ?_ | (refine CwC.bf rfl ?_ ?_; focus assumption))
      refine ⟨_, (by simp (disch := (first | omega | (simp only [lenS, lenT, UInt64.reduceToNat] ; try omega))) only [resVs_cons, resV_cell, Tryd.ag40, ↓getF_s, ↓getF_0, loadAt_p, read_other, read_same, load_all8, resVs_nil, cons2_some]; rfl), ⟨hwx, hw1, hwb, trivial⟩, ?_⟩
      rfl
end Go.Proofs
