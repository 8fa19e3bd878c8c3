/-
  Part 3 of the walk: contracts of the functions that the law reaches, and the calculus they stand on.
  No conditions.
-/
import Derived.Test.YteppologbikipaaDoorA2
open Go Go.Proofs Go.Sx
namespace Go.Proofs
set_option maxRecDepth 10000
set_option maxHeartbeats 4000000
set_option linter.unusedSimpArgs false
theorem refText_spec (b : Nat) (s : List UInt8) (a : Nat) (e most : Int) (w : World) (ha : a ≤ s.length) (hs : s.length < 1099511627776) (ho : w.heap[b]? = some (.cells #[vs s, vi a, vi e] 90 (0, 0))) :
    Rets Tryd.prog 50 #[vp b 0, vi most] w (fun v D => ∃ o, D = [(b, o)] ∧ v = vs (textR s a e most).1 ∧ o = .cells #[vs s, vi (textR s a e most).2.1, vi (textR s a e most).2.2] 90 (0, 0)) := by
  refine Rets.enterM Tryd.func50 rfl (rs := [.tmp 4]) Tryd.results50 Tryd.ntmps50 ho ?_
  simp only [List.size_toArray, List.length_cons, List.length_nil, Nat.reduceAdd, Nat.reduceSub, List.replicate_succ, List.replicate_zero, List.cons_append, List.nil_append]
  repeat' first | with_reducible (first | refine Cw.seq ?_ | refine thenK_normal ?_ | refine Ow.nil ?_) | ((with_reducible refine Cw.region (Ow.run rfl fun k hk => ?_)); simp (disch := (first | omega | (simp only [lenS, lenT, UInt64.reduceToNat] ; try omega))) only [↓vcL_none, ↓vcB_assign, ↓ov_some, ↓ev_const, lit_str, putF_some, setF_s, setF_0, nf_cons, ↓vcL_nil, Md.next_seq, ↓vcB_move, ↓ev_tmp, ↓getF_0, ↓vcB_nilCheck, ↓getF_s, nil_p, ↓vcB_fieldAddr, Tryd.fl90_2, fieldAddr_p, Nat.zero_add, ↓vcB_load, rd_seq_load, ↓ib_true, Tryd.ag3, loadAt_p, read_same, load_rd2, ↓vcB_binOp, lit_i64, binX_vi_vi, bin_neq_i]; (with_reducible refine hk _ _ _ _ ?_); clear hk k) | with_reducible (first | refine Cw.block ?_ | refine Cw.skip ?_ | refine Cw.exit ?_ | refine Cw.ret ?_ | refine thenK_exit ?_ | refine thenK_ret ?_ | refine blockK_normal ?_ | refine blockK_ret ?_ | refine blockK_exit ?_ | refine blockK_pass rfl ?_) | ((with_reducible refine Cw.condC ?_); first | refine CwC.pt rfl (by omega) ?_ | refine CwC.pf rfl (by omega) ?_ | refine CwC.it rfl (by omega) ?_ | refine CwC.if rfl (by omega) ?_ | refine CwC.nt rfl (by omega) ?_ | refine CwC.nf rfl (by omega) ?_ | refine CwC.tt rfl ?_ | refine CwC.ff rfl ?_ | refine CwC.bt rfl (by assumption) ?_ | (refine CwC.bf rfl ?_ ?_; focus assumption))
  by_cases he : e = 0
  · repeat' first | with_reducible (first | refine Cw.seq ?_ | refine thenK_normal ?_ | refine Ow.nil ?_) | ((with_reducible refine Cw.region (Ow.run rfl fun k hk => ?_)); simp (disch := (first | omega | (simp only [lenS, lenT, UInt64.reduceToNat] ; try omega))) only [↓vcL_none, ↓vcB_move, ↓ov_some, ↓ev_tmp, ↓getF_0, putF_some, setF_s, setF_0, nf_cons, ↓vcB_nilCheck, ↓getF_s, nil_p, ↓vcB_fieldAddr, Tryd.fl90_1, fieldAddr_p, Nat.zero_add, ↓vcB_load, Md.next_seq, rd_seq_load, ↓ib_true, Tryd.ag3, loadAt_p, read_same, load_rd1, ↓vcB_assign, ↓vcL_nil, ↓vcB_call]; (with_reducible refine hk _ _ _ _ ?_); clear hk k) | with_reducible (first | refine Cw.block ?_ | refine Cw.skip ?_ | refine Cw.exit ?_ | refine Cw.ret ?_ | refine thenK_exit ?_ | refine thenK_ret ?_ | refine blockK_normal ?_ | refine blockK_ret ?_ | refine blockK_exit ?_ | refine blockK_pass rfl ?_) | ((with_reducible refine Cw.condC ?_); first | refine CwC.pt rfl (by omega) ?_ | refine CwC.pf rfl (by omega) ?_ | refine CwC.it rfl (by omega) ?_ | refine CwC.if rfl (by omega) ?_ | refine CwC.nt rfl (by omega) ?_ | refine CwC.nf rfl (by omega) ?_ | refine CwC.tt rfl ?_ | refine CwC.ff rfl ?_ | refine CwC.bt rfl (by assumption) ?_ | (refine CwC.bf rfl ?_ ?_; focus assumption))
    have hp := numR_le (e := e) (most := most) ha
    unfold textR
    refine Ow.callM rfl rfl Tryd.call49 (by simp [keys]) (fun w' hw' => refNumber_spec b s a e most w' ha hs (hw'.has _ _ List.mem_cons_self)) ?_
    generalize numR s a e most = p at *
    obtain ⟨n, a1, e1⟩ := p
    simp only at hp ⊢
    refine Ow.run rfl fun k hk => ?_
    simp (disch := (first | omega | (simp only [lenS, lenT, UInt64.reduceToNat] ; try omega))) only [↓vcL_none, ↓vcB_assign, ↓ov_some, putF_some, setF_s, setF_0, ↓ev_tmp, ↓getF_s, ↓getF_0, nf_cons, ↓vcL_nil, Md.next_seq, setB_same]
    (with_reducible refine hk _ _ _ _ ?_); clear hk k
    repeat' first | with_reducible (first | refine Cw.seq ?_ | refine thenK_normal ?_ | refine Ow.nil ?_) | ((with_reducible refine Cw.region (Ow.run rfl fun k hk => ?_)); simp (disch := (first | omega | (simp only [lenS, lenT, UInt64.reduceToNat] ; try omega))) only [↓vcL_none, ↓vcB_move, ↓ov_some, ↓ev_tmp, ↓getF_0, putF_some, setF_s, setF_0, nf_cons, ↓getF_s, ↓vcB_call, Md.next_seq]; (with_reducible refine hk _ _ _ _ ?_); clear hk k) | with_reducible (first | refine Cw.block ?_ | refine Cw.skip ?_ | refine Cw.exit ?_ | refine Cw.ret ?_ | refine thenK_exit ?_ | refine thenK_ret ?_ | refine blockK_normal ?_ | refine blockK_ret ?_ | refine blockK_exit ?_ | refine blockK_pass rfl ?_) | ((with_reducible refine Cw.condC ?_); first | refine CwC.pt rfl (by omega) ?_ | refine CwC.pf rfl (by omega) ?_ | refine CwC.it rfl (by omega) ?_ | refine CwC.if rfl (by omega) ?_ | refine CwC.nt rfl (by omega) ?_ | refine CwC.nf rfl (by omega) ?_ | refine CwC.tt rfl ?_ | refine CwC.ff rfl ?_ | refine CwC.bt rfl (by assumption) ?_ | (refine CwC.bf rfl ?_ ?_; focus assumption))
    refine Ow.callM rfl rfl Tryd.call89 (by simp [keys]) (fun w' hw' => refRaw_spec b s a1 e1 n w' hp.2 hs (hw'.has _ _ List.mem_cons_self)) ?_
    generalize rawR s a1 e1 n = q at *
    obtain ⟨t, a2, e2⟩ := q
    simp only
    refine Ow.run rfl fun k hk => ?_
    simp (disch := (first | omega | (simp only [lenS, lenT, UInt64.reduceToNat] ; try omega))) only [↓vcL_none, ↓vcB_assign, ↓ov_some, putF_some, setF_s, setF_0, ↓ev_tmp, ↓getF_s, ↓getF_0, nf_cons, ↓vcL_nil, Md.next_seq, setB_same]
    (with_reducible refine hk _ _ _ _ ?_); clear hk k
    repeat' first | with_reducible (first | refine Cw.seq ?_ | refine thenK_normal ?_ | refine Ow.nil ?_) | ((with_reducible refine Cw.region (Ow.run rfl fun k hk => ?_)); simp (disch := (first | omega | (simp only [lenS, lenT, UInt64.reduceToNat] ; try omega))) only [↓vcL_none, ↓vcB_move, ↓ov_some, ↓ev_tmp, ↓getF_0, putF_some, setF_s, setF_0, nf_cons, ↓vcB_nilCheck, ↓getF_s, nil_p, ↓vcB_fieldAddr, Tryd.fl90_2, fieldAddr_p, Nat.zero_add, ↓vcB_load, Md.next_seq, rd_seq_load, ↓ib_true, Tryd.ag3, loadAt_p, read_same, load_rd2, ↓vcB_binOp, ↓ev_const, lit_i64, binX_vi_vi, bin_neq_i, ↓vcL_nil]; (with_reducible refine hk _ _ _ _ ?_); clear hk k) | with_reducible (first | refine Cw.block ?_ | refine Cw.skip ?_ | refine Cw.exit ?_ | refine Cw.ret ?_ | refine thenK_exit ?_ | refine thenK_ret ?_ | refine blockK_normal ?_ | refine blockK_ret ?_ | refine blockK_exit ?_ | refine blockK_pass rfl ?_) | ((with_reducible refine Cw.condC ?_); first | refine CwC.pt rfl (by omega) ?_ | refine CwC.pf rfl (by omega) ?_ | refine CwC.it rfl (by omega) ?_ | refine CwC.if rfl (by omega) ?_ | refine CwC.nt rfl (by omega) ?_ | refine CwC.nf rfl (by omega) ?_ | refine CwC.tt rfl ?_ | refine CwC.ff rfl ?_ | refine CwC.bt rfl (by assumption) ?_ | (refine CwC.bf rfl ?_ ?_; focus assumption))
    by_cases he2 : e2 = 0
    · repeat' first | with_reducible (first | refine Cw.seq ?_ | refine thenK_normal ?_ | refine Ow.nil ?_) | ((with_reducible refine Cw.region (Ow.run rfl fun k hk => ?_)); simp (disch := (first | omega | (simp only [lenS, lenT, UInt64.reduceToNat] ; try omega))) only [↓vcL_none, ↓vcB_move, ↓ov_some, ↓ev_tmp, ↓getF_s, ↓getF_0, putF_some, setF_s, setF_0, nf_cons, ↓vcB_assign, ↓vcL_nil, Md.next_seq]; (with_reducible refine hk _ _ _ _ ?_); clear hk k) | with_reducible (first | refine Cw.block ?_ | refine Cw.skip ?_ | refine Cw.exit ?_ | refine Cw.ret ?_ | refine thenK_exit ?_ | refine thenK_ret ?_ | refine blockK_normal ?_ | refine blockK_ret ?_ | refine blockK_exit ?_ | refine blockK_pass rfl ?_) | ((with_reducible refine Cw.condC ?_); first | refine CwC.pt rfl (by omega) ?_ | refine CwC.pf rfl (by omega) ?_ | refine CwC.it rfl (by omega) ?_ | refine CwC.if rfl (by omega) ?_ | refine CwC.nt rfl (by omega) ?_ | refine CwC.nf rfl (by omega) ?_ | refine CwC.tt rfl ?_ | refine CwC.ff rfl ?_ | refine CwC.bt rfl (by assumption) ?_ | (refine CwC.bf rfl ?_ ?_; focus assumption))
      refine ⟨_, _, _, (by simp (disch := (first | omega | (simp only [lenS, lenT, UInt64.reduceToNat] ; try omega))) only [resVs_cons, resV_tmp, ↓getF_s, ↓getF_0, resVs_nil, cons2_some]; rfl), rfl, trivial, ?_⟩
      simp [he2, tupV]
    · repeat' first | with_reducible (first | refine Cw.seq ?_ | refine thenK_normal ?_ | refine Ow.nil ?_) | ((with_reducible refine Cw.region (Ow.run rfl fun k hk => ?_)); simp (disch := (first | omega | (simp only [lenS, lenT, UInt64.reduceToNat] ; try omega))) only [↓vcL_none, ↓vcB_move, ↓ov_some, ↓ev_tmp, ↓getF_0, putF_some, setF_s, setF_0, nf_cons, ↓getF_s, ↓vcB_nilCheck, nil_p, ↓vcB_fieldAddr, Tryd.fl90_1, fieldAddr_p, Nat.zero_add, ↓vcB_store, Tryd.ag3, storeAt_p, look_same, store_rd1, upd_some, setB_same, oh_some, ↓vcL_nil, Md.next_seq, nh_cons, ↓vcB_assign, ↓ev_const, lit_str]; (with_reducible refine hk _ _ _ _ ?_); clear hk k) | with_reducible (first | refine Cw.block ?_ | refine Cw.skip ?_ | refine Cw.exit ?_ | refine Cw.ret ?_ | refine thenK_exit ?_ | refine thenK_ret ?_ | refine blockK_normal ?_ | refine blockK_ret ?_ | refine blockK_exit ?_ | refine blockK_pass rfl ?_) | ((with_reducible refine Cw.condC ?_); first | refine CwC.pt rfl (by omega) ?_ | refine CwC.pf rfl (by omega) ?_ | refine CwC.it rfl (by omega) ?_ | refine CwC.if rfl (by omega) ?_ | refine CwC.nt rfl (by omega) ?_ | refine CwC.nf rfl (by omega) ?_ | refine CwC.tt rfl ?_ | refine CwC.ff rfl ?_ | refine CwC.bt rfl (by assumption) ?_ | (refine CwC.bf rfl ?_ ?_; focus assumption))
      refine ⟨_, _, _, (by simp (disch := (first | omega | (simp only [lenS, lenT, UInt64.reduceToNat] ; try omega))) only [resVs_cons, resV_tmp, ↓getF_s, ↓getF_0, resVs_nil, cons2_some]; rfl), rfl, trivial, ?_⟩
      simp [he2, tupV]
  · repeat' first | with_reducible (first | refine Cw.seq ?_ | refine thenK_normal ?_ | refine Ow.nil ?_) | ((with_reducible refine Cw.region (Ow.run rfl fun k hk => ?_)); simp (disch := (first | omega | (simp only [lenS, lenT, UInt64.reduceToNat] ; try omega))) only [↓vcL_none, ↓vcB_assign, ↓ov_some, ↓ev_const, lit_str, putF_some, setF_s, setF_0, nf_cons, ↓vcL_nil, Md.next_seq]; (with_reducible refine hk _ _ _ _ ?_); clear hk k) | with_reducible (first | refine Cw.block ?_ | refine Cw.skip ?_ | refine Cw.exit ?_ | refine Cw.ret ?_ | refine thenK_exit ?_ | refine thenK_ret ?_ | refine blockK_normal ?_ | refine blockK_ret ?_ | refine blockK_exit ?_ | refine blockK_pass rfl ?_) | ((with_reducible refine Cw.condC ?_); first | refine CwC.pt rfl (by omega) ?_ | refine CwC.pf rfl (by omega) ?_ | refine CwC.it rfl (by omega) ?_ | refine CwC.if rfl (by omega) ?_ | refine CwC.nt rfl (by omega) ?_ | refine CwC.nf rfl (by omega) ?_ | refine CwC.tt rfl ?_ | refine CwC.ff rfl ?_ | refine CwC.bt rfl (by assumption) ?_ | (refine CwC.bf rfl ?_ ?_; focus assumption))
    have : textR s a e most = ([], a, e) := by
      unfold textR numR rawR
      simp [he]
    rw [this]
    refine ⟨_, _, _, (by simp (disch := (first | omega | (simp only [lenS, lenT, UInt64.reduceToNat] ; try omega))) only [resVs_cons, resV_tmp, ↓getF_s, ↓getF_0, resVs_nil, cons2_some]; rfl), rfl, trivial, ?_⟩
    exact ⟨rfl, rfl⟩
def idPre (t : List UInt8) (g : Nat) : List UInt8 := t.take g ++ List.replicate (32 - g) 0
theorem idPre_len (t : List UInt8) (g : Nat) (h : g ≤ t.length) (h2 : t.length ≤ 32) : (idPre t g).length = 32 := by
  unfold idPre; rw [List.length_append, List.length_take, List.length_replicate]; omega
theorem idPre_succ (t : List UInt8) (g : Nat) (h : g < t.length) (h2 : t.length ≤ 32) : (idPre t g).set g (t.getD g 0) = idPre t (g + 1) := by
  unfold idPre
  have hl : (t.take g).length = g := by rw [List.length_take]; omega
  obtain ⟨m, hm⟩ : ∃ m, 32 - g = m + 1 := ⟨31 - g, by omega⟩
  rw [hm, List.replicate_succ, List.set_append_right _ _ (by omega), hl, Nat.sub_self, List.set_cons_zero, List.take_succ_eq_append_getElem h, List.getD_eq_getElem?_getD, List.getElem?_eq_getElem h, show 32 - (g + 1) = m by omega, List.append_assoc]
  rfl
theorem idPre_all (t : List UInt8) (h : t = [] ∨ t.length = 32) : idPre t t.length = (if t.length = 32 then t else z32) := by
  unfold idPre
  rcases h with rfl | h
  · rfl
  · rw [if_pos h, h, List.take_of_length_le (by omega)]; simp
theorem refId_spec (b : Nat) (s : List UInt8) (a : Nat) (e : Int) (w : World) (ha : a ≤ s.length) (hs : s.length < 1099511627776) (ho : w.heap[b]? = some (.cells #[vs s, vi a, vi e] 90 (0, 0))) :
    Rets Tryd.prog 51 #[vp b 0] w (fun v D => ∃ o, D = [(b, o)] ∧ v = .agg (a8 (idR s a e).1) ∧ o = .cells #[vs s, vi (idR s a e).2.1, vi (idR s a e).2.2] 90 (0, 0)) := by
  have hbl := (Array.getElem?_eq_some_iff.1 ho).1
  have hq := rawR_len (e := e) ha
  unfold idR
  refine Rets.enterM Tryd.func51 rfl (rs := [.cell 2 40]) Tryd.results51 Tryd.ntmps51 ho ?_
  simp only [List.size_toArray, List.length_cons, List.length_nil, Nat.reduceAdd, Nat.reduceSub, List.replicate_succ, List.replicate_zero, List.cons_append, List.nil_append]
  repeat' first | with_reducible (first | refine Cw.seq ?_ | refine thenK_normal ?_ | refine Ow.nil ?_) | ((with_reducible refine Cw.region (Ow.run rfl fun k hk => ?_)); simp (disch := (first | omega | (simp only [lenS, lenT, UInt64.reduceToNat] ; try omega))) only [↓vcL_none, ↓vcB_alloc]; (with_reducible refine hk _ _ _ _ ?_); clear hk k) | with_reducible (first | refine Cw.block ?_ | refine Cw.skip ?_ | refine Cw.exit ?_ | refine Cw.ret ?_ | refine thenK_exit ?_ | refine thenK_ret ?_ | refine blockK_normal ?_ | refine blockK_ret ?_ | refine blockK_exit ?_ | refine blockK_pass rfl ?_) | ((with_reducible refine Cw.condC ?_); first | refine CwC.pt rfl (by omega) ?_ | refine CwC.pf rfl (by omega) ?_ | refine CwC.it rfl (by omega) ?_ | refine CwC.if rfl (by omega) ?_ | refine CwC.nt rfl (by omega) ?_ | refine CwC.nf rfl (by omega) ?_ | refine CwC.tt rfl ?_ | refine CwC.ff rfl ?_ | refine CwC.bt rfl (by assumption) ?_ | (refine CwC.bf rfl ?_ ?_; focus assumption))
  refine Ow.alloc rfl rfl Tryd.zr40 fun b2 hb2 hw2 => ?_
  obtain ⟨h12, -⟩ := hb2
  refine Ow.run rfl fun k hk => ?_
  simp (disch := (first | omega | (simp only [lenS, lenT, UInt64.reduceToNat] ; try omega))) only [↓vcL_nil, putF_some, setF_s, setF_0, cells_agg, List.cons_append, List.nil_append]
  (with_reducible refine hk _ _ _ _ ?_); clear hk k
  repeat' first | with_reducible (first | refine Cw.seq ?_ | refine thenK_normal ?_ | refine Ow.nil ?_) | ((with_reducible refine Cw.region (Ow.run rfl fun k hk => ?_)); simp (disch := (first | omega | (simp only [lenS, lenT, UInt64.reduceToNat] ; try omega))) only [↓vcL_none, ↓vcB_move, ↓ov_some, ↓ev_tmp, ↓getF_0, putF_some, setF_s, setF_0, nf_cons, ↓vcB_call, Md.next_seq, lit_i64]; (with_reducible refine hk _ _ _ _ ?_); clear hk k) | with_reducible (first | refine Cw.block ?_ | refine Cw.skip ?_ | refine Cw.exit ?_ | refine Cw.ret ?_ | refine thenK_exit ?_ | refine thenK_ret ?_ | refine blockK_normal ?_ | refine blockK_ret ?_ | refine blockK_exit ?_ | refine blockK_pass rfl ?_) | ((with_reducible refine Cw.condC ?_); first | refine CwC.pt rfl (by omega) ?_ | refine CwC.pf rfl (by omega) ?_ | refine CwC.it rfl (by omega) ?_ | refine CwC.if rfl (by omega) ?_ | refine CwC.nt rfl (by omega) ?_ | refine CwC.nf rfl (by omega) ?_ | refine CwC.tt rfl ?_ | refine CwC.ff rfl ?_ | refine CwC.bt rfl (by assumption) ?_ | (refine CwC.bf rfl ?_ ?_; focus assumption))
  refine Ow.callM rfl rfl Tryd.call89 (by simp [keys]) (fun w' hw' => refRaw_spec b s a e 32 w' ha hs (hw'.has _ _ List.mem_cons_self)) ?_
  generalize rawR s a e 32 = q at *
  obtain ⟨t, a2, e2⟩ := q
  simp only at hq ⊢
  have ht32 : t.length ≤ 32 := by rcases hq with rfl | h <;> simp_all
  refine Ow.run rfl fun k hk => ?_
  simp (disch := (first | omega | (simp only [lenS, lenT, UInt64.reduceToNat] ; try omega))) only [↓vcL_none, ↓vcB_assign, ↓ov_some, putF_some, setF_s, setF_0, ↓ev_tmp, ↓getF_s, ↓getF_0, nf_cons, ↓vcL_nil, Md.next_seq, setB_same]
  (with_reducible refine hk _ _ _ _ ?_); clear hk k
  repeat' first | with_reducible (first | refine Cw.seq ?_ | refine thenK_normal ?_ | refine Ow.nil ?_) | ((with_reducible refine Cw.region (Ow.run rfl fun k hk => ?_)); simp (disch := (first | omega | (simp only [lenS, lenT, UInt64.reduceToNat] ; try omega))) only [↓vcL_none, ↓vcB_alloc]; (with_reducible refine hk _ _ _ _ ?_); clear hk k) | with_reducible (first | refine Cw.block ?_ | refine Cw.skip ?_ | refine Cw.exit ?_ | refine Cw.ret ?_ | refine thenK_exit ?_ | refine thenK_ret ?_ | refine blockK_normal ?_ | refine blockK_ret ?_ | refine blockK_exit ?_ | refine blockK_pass rfl ?_) | ((with_reducible refine Cw.condC ?_); first | refine CwC.pt rfl (by omega) ?_ | refine CwC.pf rfl (by omega) ?_ | refine CwC.it rfl (by omega) ?_ | refine CwC.if rfl (by omega) ?_ | refine CwC.nt rfl (by omega) ?_ | refine CwC.nf rfl (by omega) ?_ | refine CwC.tt rfl ?_ | refine CwC.ff rfl ?_ | refine CwC.bt rfl (by assumption) ?_ | (refine CwC.bf rfl ?_ ?_; focus assumption))
  refine Ow.alloc rfl rfl Tryd.zr40 fun b3 hb3 hw3 => ?_
  refine Ow.run rfl fun k hk => ?_
  simp (disch := (first | omega | (simp only [lenS, lenT, UInt64.reduceToNat] ; try omega))) only [↓vcL_nil, putF_some, setF_s, setF_0, cells_agg, List.cons_append, List.nil_append]
  (with_reducible refine hk _ _ _ _ ?_); clear hk k
  obtain ⟨h13, h23, -⟩ := hb3
  rw [show a8 (List.replicate 32 0) = a8 (idPre t 0) from rfl]
  repeat' first | with_reducible (first | refine Cw.seq ?_ | refine thenK_normal ?_ | refine Ow.nil ?_) | ((with_reducible refine Cw.region (Ow.run rfl fun k hk => ?_)); simp (disch := (first | omega | (simp only [lenS, lenT, UInt64.reduceToNat] ; try omega))) only [↓vcL_none, ↓vcB_assign, ↓ov_some, ↓ev_const, lit_i64, putF_some, setF_s, setF_0, nf_cons, ↓vcL_nil, Md.next_seq]; (with_reducible refine hk _ _ _ _ ?_); clear hk k) | with_reducible (first | refine Cw.block ?_ | refine Cw.skip ?_ | refine Cw.exit ?_ | refine Cw.ret ?_ | refine thenK_exit ?_ | refine thenK_ret ?_ | refine blockK_normal ?_ | refine blockK_ret ?_ | refine blockK_exit ?_ | refine blockK_pass rfl ?_) | ((with_reducible refine Cw.condC ?_); first | refine CwC.pt rfl (by omega) ?_ | refine CwC.pf rfl (by omega) ?_ | refine CwC.it rfl (by omega) ?_ | refine CwC.if rfl (by omega) ?_ | refine CwC.nt rfl (by omega) ?_ | refine CwC.nf rfl (by omega) ?_ | refine CwC.tt rfl ?_ | refine CwC.ff rfl ?_ | refine CwC.bt rfl (by assumption) ?_ | (refine CwC.bf rfl ?_ ?_; focus assumption))
  refine Cw.loopG (G := Nat) [8, 9, 10, 11, 14, 15, 16, 17, 18, 12, 13, 5] (fun g => [(5, vi g)]) (fun g => [(b, .cells #[vs s, vi a2, vi e2] 90 (0, 0)), (b2, .cells (a8 z32) 40 (0, 0)), (b3, .cells (a8 (idPre t g)) 40 (0, 0))]) (fun g => g ≤ t.length) (fun g => t.length - g) 0 rfl rfl ?_ ?_
  · omega
  intro g j hg
  simp only [overFrom, pin, setF_0, setF_s, List.contains_cons, List.contains_nil, Nat.reduceBEq, Bool.or_false, Bool.false_or, Bool.or_true, Bool.true_or, Nat.reduceAdd, ↓reduceIte, Bool.false_eq_true]
  by_cases hlt : g < t.length
  · have hil := idPre_len t g hg ht32
    repeat' first | with_reducible (first | refine Cw.seq ?_ | refine thenK_normal ?_ | refine Ow.nil ?_) | ((with_reducible refine Cw.region (Ow.run rfl fun k hk => ?_)); simp (disch := (first | omega | (simp only [lenS, lenT, UInt64.reduceToNat] ; try omega))) only [↓vcL_none, ↓vcB_move, ↓ov_some, ↓ev_tmp, ↓getF_s, ↓getF_0, putF_some, setF_s, setF_0, nf_cons, ↓vcB_len, Tryd.ix9, len_str, ↓vcB_binOp, binX_vi_vi, bin_lss_i, ↓vcL_nil, Md.next_seq, ↓vcB_index, ixI_vi, index_str, Int.toNat_natCast, ↓vcB_indexAddr, Tryd.ix40, indexAddr_arr, Nat.mul_one, Nat.zero_add, ↓vcB_store, Tryd.ag5, storeAt_p, look_other, look_same, store_a8, upd_some, setB_other, setB_same, oh_some, nh_cons, ↓ev_const, lit_i64, bin_add_i, ↓vcB_assign]; (with_reducible refine hk _ _ _ _ ?_); clear hk k) | with_reducible (first | refine Cw.block ?_ | refine Cw.skip ?_ | refine Cw.exit ?_ | refine Cw.ret ?_ | refine thenK_exit ?_ | refine thenK_ret ?_ | refine blockK_normal ?_ | refine blockK_ret ?_ | refine blockK_exit ?_ | refine blockK_pass rfl ?_) | ((with_reducible refine Cw.condC ?_); first | refine CwC.pt rfl (by omega) ?_ | refine CwC.pf rfl (by omega) ?_ | refine CwC.it rfl (by omega) ?_ | refine CwC.if rfl (by omega) ?_ | refine CwC.nt rfl (by omega) ?_ | refine CwC.nf rfl (by omega) ?_ | refine CwC.tt rfl ?_ | refine CwC.ff rfl ?_ | refine CwC.bt rfl (by assumption) ?_ | (refine CwC.bf rfl ?_ ?_; focus assumption))
    refine Again.mk (g + 1) (by omega) (by omega) ?_ rfl
    rw [idPre_succ t g hlt ht32]
  · obtain rfl : g = t.length := by omega
    rw [idPre_all t hq]
    have hil : (if t.length = 32 then t else z32).length = 32 := by
      split
      · assumption
      · simp [z32]
    have hz32 : z32.length = 32 := by simp [z32]
    generalize (if t.length = 32 then t else z32) = id at *
    repeat' first | with_reducible (first | refine Cw.seq ?_ | refine thenK_normal ?_ | refine Ow.nil ?_) | ((with_reducible refine Cw.region (Ow.run rfl fun k hk => ?_)); simp (disch := (first | omega | (simp only [lenS, lenT, UInt64.reduceToNat] ; try omega))) only [↓vcL_none, ↓vcB_move, ↓ov_some, ↓ev_tmp, ↓getF_s, ↓getF_0, putF_some, setF_s, setF_0, nf_cons, ↓vcB_len, Tryd.ix9, len_str, ↓vcB_binOp, binX_vi_vi, bin_lss_i, ↓vcL_nil, Md.next_seq, ↓vcB_load, rd_seq_load, ↓ib_true, Tryd.ag40, loadAt_p, read_other, read_same, load_all8, ↓vcB_store, storeAt_p, look_other, look_same, store_all8, upd_some, setB_other, setB_same, oh_some, nh_cons]; (with_reducible refine hk _ _ _ _ ?_); clear hk k) | with_reducible (first | refine Cw.block ?_ | refine Cw.skip ?_ | refine Cw.exit ?_ | refine Cw.ret ?_ | refine thenK_exit ?_ | refine thenK_ret ?_ | refine blockK_normal ?_ | refine blockK_ret ?_ | refine blockK_exit ?_ | refine blockK_pass rfl ?_) | ((with_reducible refine Cw.condC ?_); first | refine CwC.pt rfl (by omega) ?_ | refine CwC.pf rfl (by omega) ?_ | refine CwC.it rfl (by omega) ?_ | refine CwC.if rfl (by omega) ?_ | refine CwC.nt rfl (by omega) ?_ | refine CwC.nf rfl (by omega) ?_ | refine CwC.tt rfl ?_ | refine CwC.ff rfl ?_ | refine CwC.bt rfl (by assumption) ?_ | (refine CwC.bf rfl ?_ ?_; focus assumption))
    refine ⟨_, _, _, (by simp (disch := (first | omega | (simp only [lenS, lenT, UInt64.reduceToNat] ; try omega))) only [resVs_cons, resV_cell, Tryd.ag40, ↓getF_s, ↓getF_0, loadAt_p, read_other, read_same, load_all8, resVs_nil, cons2_some]; rfl), rfl, ⟨hw2, hw3, trivial⟩, ?_⟩
    exact ⟨rfl, rfl⟩
end Go.Proofs
open Go Go.Proofs Go.Sx
namespace Go.Proofs
set_option maxRecDepth 10000
set_option maxHeartbeats 4000000
set_option linter.unusedSimpArgs false
/-! ### Sums -/
def hvL : List UInt32 := [0x00000000, 0x1db71064, 0x3b6e20c8, 0x26d930ac, 0x76dc4190, 0x6b6b51f4, 0x4db26158, 0x5005713c, 0xedb88320, 0xf00f9344, 0xd6d6a3e8, 0xcb61b38c, 0x9b64c2b0, 0x86d3d2d4, 0xa00ae278, 0xbdbdf21c]
def half32 (n : UInt32) : UInt32 := shr_u32 n 4 ^^^ hvL.getD (n &&& 15).toNat 0
def halfs (n : UInt32) : Nat → UInt32
  | 0 => n
  | k + 1 => half32 (halfs n k)
def feedV (n : UInt32) (b : UInt8) : UInt32 := halfs (n ^^^ UInt32.ofNat b.toNat) 2
theorem and15_u32 (n : UInt32) : (n &&& 15).toNat < 16 := by
  rw [UInt32.toNat_and]
  exact Nat.lt_of_le_of_lt Nat.and_le_right (by decide)
/-- The table of the sums' steps. -/
def GlobC (w : World) : Prop := ∃ e f, w.heap[(3 : Nat)]? = some (.cells (a32 hvL) e f)
theorem GlobC.of {w w' : World} {L : Heap} (h : GlobC w) (hw : Hp w L w') (hn : (3 : Nat) ∉ keys L) : GlobC w' := by
  obtain ⟨e, f, h⟩ := h
  exact ⟨e, f, by rw [hw.old _ (Array.getElem?_eq_some_iff.1 h).1 hn]; exact h⟩
theorem hvL_len : hvL.length = 16 := rfl
theorem feed_spec (n : UInt32) (b : UInt8) (w : World) (hG : GlobC w) :
    Rets Tryd.prog 170 #[v32 n, v8 b] w (fun v D => v = v32 (feedV n b) ∧ D = []) := by
  obtain ⟨e, f, htab⟩ := hG
  refine Rets.enterV Tryd.func170 rfl (rs := [.tmp 4]) Tryd.results170 Tryd.ntmps170 ?_
  simp only [List.size_toArray, List.length_cons, List.length_nil, Nat.reduceAdd, Nat.reduceSub, List.replicate_succ, List.replicate_zero, List.cons_append, List.nil_append]
  repeat' first | with_reducible (first | refine Cw.seq ?_ | refine thenK_normal ?_ | refine Ow.nil ?_) | ((with_reducible refine Cw.region (Ow.run rfl fun k hk => ?_)); simp (disch := (first | omega | (simp only [lenS, lenT, UInt64.reduceToNat] ; try omega))) only [↓vcL_none, ↓vcB_assign, ↓ov_some, ↓ev_const, lit_u32, putF_some, setF_s, setF_0, nf_cons, ↓vcL_nil, Md.next_seq, ↓vcB_move, ↓ev_tmp, ↓getF_0, ↓getF_s, ↓vcB_convert, rd_seq_convert, ↓ib_true, Tryd.cv5_160, conv_int, conv_u8_u32, ↓vcB_binOp, binX_v32_v32, bin_xor_u32, lit_i64]; (with_reducible refine hk _ _ _ _ ?_); clear hk k) | with_reducible (first | refine Cw.block ?_ | refine Cw.skip ?_ | refine Cw.exit ?_ | refine Cw.ret ?_ | refine thenK_exit ?_ | refine thenK_ret ?_ | refine blockK_normal ?_ | refine blockK_ret ?_ | refine blockK_exit ?_ | refine blockK_pass rfl ?_) | ((with_reducible refine Cw.condC ?_); first | refine CwC.pt rfl (by omega) ?_ | refine CwC.pf rfl (by omega) ?_ | refine CwC.it rfl (by omega) ?_ | refine CwC.if rfl (by omega) ?_ | refine CwC.nt rfl (by omega) ?_ | refine CwC.nf rfl (by omega) ?_ | refine CwC.tt rfl ?_ | refine CwC.ff rfl ?_ | refine CwC.bt rfl (by assumption) ?_ | (refine CwC.bf rfl ?_ ?_; focus assumption))
  unfold feedV
  generalize n ^^^ UInt32.ofNat b.toNat = m
  rw [show v32 m = v32 (halfs m 0) from rfl]
  refine Cw.loopG (G := Nat) [10, 11, 12, 13, 14, 15, 16, 17, 0, 18, 9] (fun g => [(0, v32 (halfs m g)), (9, vi g)]) (fun g => []) (fun g => g ≤ 2) (fun g => 2 - g) 0 rfl rfl ?_ ?_
  · omega
  intro g j hg
  simp only [overFrom, pin, setF_0, setF_s, List.contains_cons, List.contains_nil, Nat.reduceBEq, Bool.or_false, Bool.false_or, Bool.or_true, Bool.true_or, Nat.reduceAdd, ↓reduceIte, Bool.false_eq_true]
  by_cases hlt : g < 2
  · have h15 := and15_u32 (halfs m g)
    have hl := hvL_len
    repeat' first | with_reducible (first | refine Cw.seq ?_ | refine thenK_normal ?_ | refine Ow.nil ?_) | ((with_reducible refine Cw.region (Ow.run rfl fun k hk => ?_)); simp (disch := (first | omega | (simp only [lenS, lenT, UInt64.reduceToNat] ; try omega))) only [↓vcL_none, ↓vcB_binOp, ↓ev_tmp, ↓getF_s, ↓getF_0, ↓ev_const, lit_i64, binX_vi_vi, bin_lss_i, ↓ov_some, putF_some, setF_s, setF_0, nf_cons, ↓vcL_nil, Md.next_seq, ↓vcB_move, lit_u64, binX_v32_v64, bin_shr_u32_u64, UInt64.reduceToNat, lit_u32, binX_v32_v32, bin_and_u32, ↓vcB_indexAddr, Tryd.ix233, ↓ev_global, ixI_v32, indexAddr_arr, Int.toNat_natCast, Nat.mul_one, Nat.zero_add, ↓vcB_load, rd_seq_load, ↓ib_true, Tryd.ag160, loadAt_p, read_old, htab, load_a32, bin_xor_u32, ↓vcB_assign, bin_add_i]; (with_reducible refine hk _ _ _ _ ?_); clear hk k) | with_reducible (first | refine Cw.block ?_ | refine Cw.skip ?_ | refine Cw.exit ?_ | refine Cw.ret ?_ | refine thenK_exit ?_ | refine thenK_ret ?_ | refine blockK_normal ?_ | refine blockK_ret ?_ | refine blockK_exit ?_ | refine blockK_pass rfl ?_) | ((with_reducible refine Cw.condC ?_); first | refine CwC.pt rfl (by omega) ?_ | refine CwC.pf rfl (by omega) ?_ | refine CwC.it rfl (by omega) ?_ | refine CwC.if rfl (by omega) ?_ | refine CwC.nt rfl (by omega) ?_ | refine CwC.nf rfl (by omega) ?_ | refine CwC.tt rfl ?_ | refine CwC.ff rfl ?_ | refine CwC.bt rfl (by assumption) ?_ | (refine CwC.bf rfl ?_ ?_; focus assumption))
    refine Again.mk (g + 1) (by omega) (by omega) rfl rfl
  · obtain rfl : g = 2 := by omega
    repeat' first | with_reducible (first | refine Cw.seq ?_ | refine thenK_normal ?_ | refine Ow.nil ?_) | ((with_reducible refine Cw.region (Ow.run rfl fun k hk => ?_)); simp (disch := (first | omega | (simp only [lenS, lenT, UInt64.reduceToNat] ; try omega))) only [↓vcL_none, ↓vcB_binOp, ↓ev_tmp, ↓getF_s, ↓getF_0, ↓ev_const, lit_i64, binX_vi_vi, bin_lss_i, ↓ov_some, putF_some, setF_s, setF_0, nf_cons, ↓vcL_nil, Md.next_seq, ↓vcB_move, ↓vcB_assign]; (with_reducible refine hk _ _ _ _ ?_); clear hk k) | with_reducible (first | refine Cw.block ?_ | refine Cw.skip ?_ | refine Cw.exit ?_ | refine Cw.ret ?_ | refine thenK_exit ?_ | refine thenK_ret ?_ | refine blockK_normal ?_ | refine blockK_ret ?_ | refine blockK_exit ?_ | refine blockK_pass rfl ?_) | ((with_reducible refine Cw.condC ?_); first | refine CwC.pt rfl (by omega) ?_ | refine CwC.pf rfl (by omega) ?_ | refine CwC.it rfl (by omega) ?_ | refine CwC.if rfl (by omega) ?_ | refine CwC.nt rfl (by omega) ?_ | refine CwC.nf rfl (by omega) ?_ | refine CwC.tt rfl ?_ | refine CwC.ff rfl ?_ | refine CwC.bt rfl (by assumption) ?_ | (refine CwC.bf rfl ?_ ?_; focus assumption))
    refine ⟨_, (by simp (disch := (first | omega | (simp only [lenS, lenT, UInt64.reduceToNat] ; try omega))) only [resVs_cons, resV_tmp, ↓getF_s, ↓getF_0, resVs_nil, cons2_some]; rfl), trivial, ?_⟩
    rfl
def crcGo (n : UInt32) (s : List UInt8) : UInt32 := s.foldl feedV n
theorem crcGo_succ (n : UInt32) (s : List UInt8) (g : Nat) (h : g < s.length) : crcGo n (s.take (g + 1)) = feedV (crcGo n (s.take g)) (s.getD g 0) := by
  unfold crcGo
  rw [List.take_succ_eq_append_getElem h, List.foldl_append, List.getD_eq_getElem?_getD, List.getElem?_eq_getElem h]
  rfl
theorem cAdd_spec (n : UInt32) (s : List UInt8) (w : World) (hG : GlobC w) (hs : s.length < 1099511627776) :
    Rets Tryd.prog 149 #[v32 n, vs s] w (fun v D => v = v32 (~~~ (crcGo (~~~ n) s)) ∧ D = []) := by
  refine Rets.enterV Tryd.func149 rfl (rs := [.tmp 4]) Tryd.results149 Tryd.ntmps149 ?_
  simp only [List.size_toArray, List.length_cons, List.length_nil, Nat.reduceAdd, Nat.reduceSub, List.replicate_succ, List.replicate_zero, List.cons_append, List.nil_append]
  repeat' first | with_reducible (first | refine Cw.seq ?_ | refine thenK_normal ?_ | refine Ow.nil ?_) | ((with_reducible refine Cw.region (Ow.run rfl fun k hk => ?_)); simp (disch := (first | omega | (simp only [lenS, lenT, UInt64.reduceToNat] ; try omega))) only [↓vcL_none, ↓vcB_assign, ↓ov_some, ↓ev_const, lit_u32, putF_some, setF_s, setF_0, nf_cons, ↓vcL_nil, Md.next_seq, ↓vcB_move, ↓ev_tmp, ↓getF_0, ↓vcB_unOp, ↓getF_s, un_xor_u32, ↓vcB_len, Tryd.ix9, len_str, lit_i64]; (with_reducible refine hk _ _ _ _ ?_); clear hk k) | with_reducible (first | refine Cw.block ?_ | refine Cw.skip ?_ | refine Cw.exit ?_ | refine Cw.ret ?_ | refine thenK_exit ?_ | refine thenK_ret ?_ | refine blockK_normal ?_ | refine blockK_ret ?_ | refine blockK_exit ?_ | refine blockK_pass rfl ?_) | ((with_reducible refine Cw.condC ?_); first | refine CwC.pt rfl (by omega) ?_ | refine CwC.pf rfl (by omega) ?_ | refine CwC.it rfl (by omega) ?_ | refine CwC.if rfl (by omega) ?_ | refine CwC.nt rfl (by omega) ?_ | refine CwC.nf rfl (by omega) ?_ | refine CwC.tt rfl ?_ | refine CwC.ff rfl ?_ | refine CwC.bt rfl (by assumption) ?_ | (refine CwC.bf rfl ?_ ?_; focus assumption))
  rw [show v32 (~~~ n) = v32 (crcGo (~~~ n) (s.take 0)) from rfl]
  refine Cw.loopG (G := Nat) [12, 13, 6, 14, 15, 16, 17, 18, 5, 19, 11] (fun g => [(5, v32 (crcGo (~~~ n) (s.take g))), (11, vi g)]) (fun g => []) (fun g => g ≤ s.length) (fun g => s.length - g) 0 rfl rfl ?_ ?_
  · omega
  intro g j hg
  simp only [overFrom, pin, setF_0, setF_s, List.contains_cons, List.contains_nil, Nat.reduceBEq, Bool.or_false, Bool.false_or, Bool.or_true, Bool.true_or, Nat.reduceAdd, ↓reduceIte, Bool.false_eq_true]
  by_cases hlt : g < s.length
  · repeat' first | with_reducible (first | refine Cw.seq ?_ | refine thenK_normal ?_ | refine Ow.nil ?_) | ((with_reducible refine Cw.region (Ow.run rfl fun k hk => ?_)); simp (disch := (first | omega | (simp only [lenS, lenT, UInt64.reduceToNat] ; try omega))) only [↓vcL_none, ↓vcB_binOp, ↓ev_tmp, ↓getF_s, ↓getF_0, binX_vi_vi, bin_lss_i, ↓ov_some, putF_some, setF_s, setF_0, nf_cons, ↓vcL_nil, Md.next_seq, ↓vcB_move, ↓vcB_assign, ↓vcB_index, Tryd.ix9, ixI_vi, index_str, Int.toNat_natCast, ↓vcB_call]; (with_reducible refine hk _ _ _ _ ?_); clear hk k) | with_reducible (first | refine Cw.block ?_ | refine Cw.skip ?_ | refine Cw.exit ?_ | refine Cw.ret ?_ | refine thenK_exit ?_ | refine thenK_ret ?_ | refine blockK_normal ?_ | refine blockK_ret ?_ | refine blockK_exit ?_ | refine blockK_pass rfl ?_) | ((with_reducible refine Cw.condC ?_); first | refine CwC.pt rfl (by omega) ?_ | refine CwC.pf rfl (by omega) ?_ | refine CwC.it rfl (by omega) ?_ | refine CwC.if rfl (by omega) ?_ | refine CwC.nt rfl (by omega) ?_ | refine CwC.nf rfl (by omega) ?_ | refine CwC.tt rfl ?_ | refine CwC.ff rfl ?_ | refine CwC.bt rfl (by assumption) ?_ | (refine CwC.bf rfl ?_ ?_; focus assumption))
    refine Ow.callFV rfl Tryd.call170 (fun w' hw' => feed_spec _ _ w' (GlobC.of hG hw' (by simp [keys]))) ?_
    refine Ow.run rfl fun k hk => ?_
    simp (disch := (first | omega | (simp only [lenS, lenT, UInt64.reduceToNat] ; try omega))) only [↓vcL_none, ↓vcB_assign, ↓ov_some, putF_some, setF_s, setF_0, ↓ev_tmp, ↓getF_s, ↓getF_0, nf_cons, ↓vcL_nil, Md.next_seq]
    (with_reducible refine hk _ _ _ _ ?_); clear hk k
    repeat' first | with_reducible (first | refine Cw.seq ?_ | refine thenK_normal ?_ | refine Ow.nil ?_) | ((with_reducible refine Cw.region (Ow.run rfl fun k hk => ?_)); simp (disch := (first | omega | (simp only [lenS, lenT, UInt64.reduceToNat] ; try omega))) only [↓vcL_none, ↓vcB_binOp, ↓ev_tmp, ↓getF_s, ↓getF_0, ↓ev_const, lit_i64, binX_vi_vi, bin_add_i, ↓ov_some, putF_some, setF_s, setF_0, nf_cons, ↓vcB_move, ↓vcL_nil, Md.next_seq]; (with_reducible refine hk _ _ _ _ ?_); clear hk k) | with_reducible (first | refine Cw.block ?_ | refine Cw.skip ?_ | refine Cw.exit ?_ | refine Cw.ret ?_ | refine thenK_exit ?_ | refine thenK_ret ?_ | refine blockK_normal ?_ | refine blockK_ret ?_ | refine blockK_exit ?_ | refine blockK_pass rfl ?_) | ((with_reducible refine Cw.condC ?_); first | refine CwC.pt rfl (by omega) ?_ | refine CwC.pf rfl (by omega) ?_ | refine CwC.it rfl (by omega) ?_ | refine CwC.if rfl (by omega) ?_ | refine CwC.nt rfl (by omega) ?_ | refine CwC.nf rfl (by omega) ?_ | refine CwC.tt rfl ?_ | refine CwC.ff rfl ?_ | refine CwC.bt rfl (by assumption) ?_ | (refine CwC.bf rfl ?_ ?_; focus assumption))
    refine Again.mk (g + 1) (by omega) (by omega) rfl ?_
    rw [crcGo_succ _ _ _ hlt]
    rfl
  · obtain rfl : g = s.length := by omega
    repeat' first | with_reducible (first | refine Cw.seq ?_ | refine thenK_normal ?_ | refine Ow.nil ?_) | ((with_reducible refine Cw.region (Ow.run rfl fun k hk => ?_)); simp (disch := (first | omega | (simp only [lenS, lenT, UInt64.reduceToNat] ; try omega))) only [↓vcL_none, ↓vcB_binOp, ↓ev_tmp, ↓getF_s, ↓getF_0, binX_vi_vi, bin_lss_i, ↓ov_some, putF_some, setF_s, setF_0, nf_cons, ↓vcL_nil, Md.next_seq, ↓vcB_move, ↓vcB_unOp, un_xor_u32, ↓vcB_assign]; (with_reducible refine hk _ _ _ _ ?_); clear hk k) | with_reducible (first | refine Cw.block ?_ | refine Cw.skip ?_ | refine Cw.exit ?_ | refine Cw.ret ?_ | refine thenK_exit ?_ | refine thenK_ret ?_ | refine blockK_normal ?_ | refine blockK_ret ?_ | refine blockK_exit ?_ | refine blockK_pass rfl ?_) | ((with_reducible refine Cw.condC ?_); first | refine CwC.pt rfl (by omega) ?_ | refine CwC.pf rfl (by omega) ?_ | refine CwC.it rfl (by omega) ?_ | refine CwC.if rfl (by omega) ?_ | refine CwC.nt rfl (by omega) ?_ | refine CwC.nf rfl (by omega) ?_ | refine CwC.tt rfl ?_ | refine CwC.ff rfl ?_ | refine CwC.bt rfl (by assumption) ?_ | (refine CwC.bf rfl ?_ ?_; focus assumption))
    rw [List.take_length]
    refine ⟨_, (by simp (disch := (first | omega | (simp only [lenS, lenT, UInt64.reduceToNat] ; try omega))) only [resVs_cons, resV_tmp, ↓getF_s, ↓getF_0, resVs_nil, cons2_some]; rfl), trivial, ?_⟩
    rfl
def crcV (s : List UInt8) : UInt32 := ~~~ (crcGo (~~~ (0 : UInt32)) s)
theorem cSum_spec (b : Nat) (s : List UInt8) (E : TypeId) (w : World) (hG : GlobC w) (hs : s.length < 1099511627776) (ho : w.heap[b]? = some (.cells #[vs s] E (0, 0))) :
    Rets Tryd.prog 123 #[vsl b 0 1 1] w (fun v D => v = v32 (crcV s) ∧ D = []) := by
  have hS : StrS w (vsl b 0 1 1) [s] b 0 #[vs s] E (0, 0) := StrS.lit [s] rfl rfl ho
  refine Rets.enterV Tryd.func123 rfl (rs := [.tmp 2]) Tryd.results123 Tryd.ntmps123 ?_
  simp only [List.size_toArray, List.length_cons, List.length_nil, Nat.reduceAdd, Nat.reduceSub, List.replicate_succ, List.replicate_zero, List.cons_append, List.nil_append]
  repeat' first | with_reducible (first | refine Cw.seq ?_ | refine thenK_normal ?_ | refine Ow.nil ?_) | ((with_reducible refine Cw.region (Ow.run rfl fun k hk => ?_)); simp (disch := (first | omega | (simp only [lenS, lenT, UInt64.reduceToNat] ; try omega))) only [↓vcL_none, ↓vcB_assign, ↓ov_some, ↓ev_const, lit_u32, putF_some, setF_s, setF_0, nf_cons, ↓vcL_nil, Md.next_seq, ↓vcB_move, ↓ev_tmp, ↓getF_0, ↓vcB_len, Tryd.ix144, ↓getF_s, len_sl, lit_i64]; (with_reducible refine hk _ _ _ _ ?_); clear hk k) | with_reducible (first | refine Cw.block ?_ | refine Cw.skip ?_ | refine Cw.exit ?_ | refine Cw.ret ?_ | refine thenK_exit ?_ | refine thenK_ret ?_ | refine blockK_normal ?_ | refine blockK_ret ?_ | refine blockK_exit ?_ | refine blockK_pass rfl ?_) | ((with_reducible refine Cw.condC ?_); first | refine CwC.pt rfl (by omega) ?_ | refine CwC.pf rfl (by omega) ?_ | refine CwC.it rfl (by omega) ?_ | refine CwC.if rfl (by omega) ?_ | refine CwC.nt rfl (by omega) ?_ | refine CwC.nf rfl (by omega) ?_ | refine CwC.tt rfl ?_ | refine CwC.ff rfl ?_ | refine CwC.bt rfl (by assumption) ?_ | (refine CwC.bf rfl ?_ ?_; focus assumption))
  refine Cw.loopG (G := Nat) [9, 10, 11, 5, 12, 13, 14, 3, 15, 8] (fun g => [(3, v32 (if g = 0 then 0 else crcV s)), (8, vi g)]) (fun g => []) (fun g => g ≤ 1) (fun g => 1 - g) 0 rfl rfl ?_ ?_
  · omega
  intro g j hg
  simp only [overFrom, pin, setF_0, setF_s, List.contains_cons, List.contains_nil, Nat.reduceBEq, Bool.or_false, Bool.false_or, Bool.or_true, Bool.true_or, Nat.reduceAdd, ↓reduceIte, Bool.false_eq_true]
  by_cases hlt : g < 1
  · obtain rfl : g = 0 := by omega
    have hlg := hS.get 0 (by simp)
    have hrd := hS.has (by simp)
    have hix := fun m => hS.idx m 0 (by simp)
    repeat' first | with_reducible (first | refine Cw.seq ?_ | refine thenK_normal ?_ | refine Ow.nil ?_) | ((with_reducible refine Cw.region (Ow.run rfl fun k hk => ?_)); simp (disch := (first | omega | (simp only [lenS, lenT, UInt64.reduceToNat] ; try omega))) only [↓vcL_none, ↓vcB_binOp, ↓ev_tmp, ↓getF_s, ↓getF_0, binX_vi_vi, bin_lss_i, ↓ov_some, ↓reduceIte, putF_some, setF_s, setF_0, nf_cons, ↓vcL_nil, Md.next_seq, ↓vcB_indexAddr, Tryd.ix144, ixI_vi, hix, Nat.mul_one, Nat.add_zero, ↓vcB_load, rd_seq_load, ↓ib_true, Tryd.ag9, loadAt_p, read_old, hrd, loadV_one, hlg, ↓vcB_assign, ↓vcB_move, ↓vcB_call]; (with_reducible refine hk _ _ _ _ ?_); clear hk k) | with_reducible (first | refine Cw.block ?_ | refine Cw.skip ?_ | refine Cw.exit ?_ | refine Cw.ret ?_ | refine thenK_exit ?_ | refine thenK_ret ?_ | refine blockK_normal ?_ | refine blockK_ret ?_ | refine blockK_exit ?_ | refine blockK_pass rfl ?_) | ((with_reducible refine Cw.condC ?_); first | refine CwC.pt rfl (by omega) ?_ | refine CwC.pf rfl (by omega) ?_ | refine CwC.it rfl (by omega) ?_ | refine CwC.if rfl (by omega) ?_ | refine CwC.nt rfl (by omega) ?_ | refine CwC.nf rfl (by omega) ?_ | refine CwC.tt rfl ?_ | refine CwC.ff rfl ?_ | refine CwC.bt rfl (by assumption) ?_ | (refine CwC.bf rfl ?_ ?_; focus assumption))
    refine Ow.callFV rfl Tryd.call149 (fun w' hw' => cAdd_spec 0 s w' (GlobC.of hG hw' (by simp [keys])) hs) ?_
    refine Ow.run rfl fun k hk => ?_
    simp (disch := (first | omega | (simp only [lenS, lenT, UInt64.reduceToNat] ; try omega))) only [↓vcL_none, ↓vcB_assign, ↓ov_some, putF_some, setF_s, setF_0, ↓ev_tmp, ↓getF_s, ↓getF_0, nf_cons, ↓vcL_nil, Md.next_seq]
    (with_reducible refine hk _ _ _ _ ?_); clear hk k
    repeat' first | with_reducible (first | refine Cw.seq ?_ | refine thenK_normal ?_ | refine Ow.nil ?_) | ((with_reducible refine Cw.region (Ow.run rfl fun k hk => ?_)); simp (disch := (first | omega | (simp only [lenS, lenT, UInt64.reduceToNat] ; try omega))) only [↓vcL_none, ↓vcB_binOp, ↓ev_tmp, ↓getF_s, ↓getF_0, ↓ev_const, lit_i64, binX_vi_vi, bin_add_i, ↓ov_some, putF_some, setF_s, setF_0, nf_cons, ↓vcB_move, ↓vcL_nil, Md.next_seq]; (with_reducible refine hk _ _ _ _ ?_); clear hk k) | with_reducible (first | refine Cw.block ?_ | refine Cw.skip ?_ | refine Cw.exit ?_ | refine Cw.ret ?_ | refine thenK_exit ?_ | refine thenK_ret ?_ | refine blockK_normal ?_ | refine blockK_ret ?_ | refine blockK_exit ?_ | refine blockK_pass rfl ?_) | ((with_reducible refine Cw.condC ?_); first | refine CwC.pt rfl (by omega) ?_ | refine CwC.pf rfl (by omega) ?_ | refine CwC.it rfl (by omega) ?_ | refine CwC.if rfl (by omega) ?_ | refine CwC.nt rfl (by omega) ?_ | refine CwC.nf rfl (by omega) ?_ | refine CwC.tt rfl ?_ | refine CwC.ff rfl ?_ | refine CwC.bt rfl (by assumption) ?_ | (refine CwC.bf rfl ?_ ?_; focus assumption))
    refine Again.mk 1 (by omega) (by omega) rfl rfl
  · obtain rfl : g = 1 := by omega
    repeat' first | with_reducible (first | refine Cw.seq ?_ | refine thenK_normal ?_ | refine Ow.nil ?_) | ((with_reducible refine Cw.region (Ow.run rfl fun k hk => ?_)); simp (disch := (first | omega | (simp only [lenS, lenT, UInt64.reduceToNat] ; try omega))) only [↓vcL_none, ↓vcB_binOp, ↓ev_tmp, ↓getF_s, ↓getF_0, binX_vi_vi, bin_lss_i, ↓ov_some, putF_some, setF_s, setF_0, nf_cons, ↓vcL_nil, Md.next_seq, ↓vcB_move, ↓vcB_assign]; (with_reducible refine hk _ _ _ _ ?_); clear hk k) | with_reducible (first | refine Cw.block ?_ | refine Cw.skip ?_ | refine Cw.exit ?_ | refine Cw.ret ?_ | refine thenK_exit ?_ | refine thenK_ret ?_ | refine blockK_normal ?_ | refine blockK_ret ?_ | refine blockK_exit ?_ | refine blockK_pass rfl ?_) | ((with_reducible refine Cw.condC ?_); first | refine CwC.pt rfl (by omega) ?_ | refine CwC.pf rfl (by omega) ?_ | refine CwC.it rfl (by omega) ?_ | refine CwC.if rfl (by omega) ?_ | refine CwC.nt rfl (by omega) ?_ | refine CwC.nf rfl (by omega) ?_ | refine CwC.tt rfl ?_ | refine CwC.ff rfl ?_ | refine CwC.bt rfl (by assumption) ?_ | (refine CwC.bf rfl ?_ ?_; focus assumption))
    refine ⟨_, (by simp (disch := (first | omega | (simp only [lenS, lenT, UInt64.reduceToNat] ; try omega))) only [resVs_cons, resV_tmp, ↓getF_s, ↓getF_0, resVs_nil, cons2_some]; rfl), trivial, ?_⟩
    rfl
def sumPre (n : UInt32) (g : Nat) : List UInt8 := (List.range 4).map fun j => if j < g then UInt8.ofNat (shr_u32 n (8 * j)).toNat else 0
def sum4 (n : UInt32) : List UInt8 := sumPre n 4
theorem sumPre_len (n : UInt32) (g : Nat) : (sumPre n g).length = 4 := by simp [sumPre]
theorem sumPre_succ (n : UInt32) (g : Nat) (h : g < 4) : (sumPre n g).set g (UInt8.ofNat (shr_u32 n (8 * g)).toNat) = sumPre n (g + 1) := by
  have : g = 0 ∨ g = 1 ∨ g = 2 ∨ g = 3 := by omega
  rcases this with rfl | rfl | rfl | rfl <;> rfl
def sealV (s : List UInt8) : List UInt8 := s ++ sum4 (crcV s)
theorem cSeal_spec (s : List UInt8) (w : World) (hG : GlobC w) (hs : s.length < 1099511627776) :
    Rets Tryd.prog 92 #[vs s] w (fun v D => v = vs (sealV s) ∧ D = []) := by
  have hgl : (3 : Nat) < w.heap.size := by obtain ⟨e, f, h⟩ := hG; exact (Array.getElem?_eq_some_iff.1 h).1
  refine Rets.enterV Tryd.func92 rfl (rs := [.tmp 2]) Tryd.results92 Tryd.ntmps92 ?_
  simp only [List.size_toArray, List.length_cons, List.length_nil, Nat.reduceAdd, Nat.reduceSub, List.replicate_succ, List.replicate_zero, List.cons_append, List.nil_append]
  repeat' first | with_reducible (first | refine Cw.seq ?_ | refine thenK_normal ?_ | refine Ow.nil ?_) | ((with_reducible refine Cw.region (Ow.run rfl fun k hk => ?_)); simp (disch := (first | omega | (simp only [lenS, lenT, UInt64.reduceToNat] ; try omega))) only [↓vcL_none, ↓vcB_assign, ↓ov_some, ↓ev_const, lit_str, putF_some, setF_s, setF_0, nf_cons, ↓vcL_nil, Md.next_seq, ↓vcB_move, ↓ev_tmp, ↓getF_0, ↓vcB_buildSlice]; (with_reducible refine hk _ _ _ _ ?_); clear hk k) | with_reducible (first | refine Cw.block ?_ | refine Cw.skip ?_ | refine Cw.exit ?_ | refine Cw.ret ?_ | refine thenK_exit ?_ | refine thenK_ret ?_ | refine blockK_normal ?_ | refine blockK_ret ?_ | refine blockK_exit ?_ | refine blockK_pass rfl ?_) | ((with_reducible refine Cw.condC ?_); first | refine CwC.pt rfl (by omega) ?_ | refine CwC.pf rfl (by omega) ?_ | refine CwC.it rfl (by omega) ?_ | refine CwC.if rfl (by omega) ?_ | refine CwC.nt rfl (by omega) ?_ | refine CwC.nf rfl (by omega) ?_ | refine CwC.tt rfl ?_ | refine CwC.ff rfl ?_ | refine CwC.bt rfl (by assumption) ?_ | (refine CwC.bf rfl ?_ ?_; focus assumption))
  refine Ow.buildSlice (e := 9) #[vs s] rfl rfl (by kernel_rfl) fun b1 hb1 hw1 => ?_
  refine Ow.run rfl fun k hk => ?_
  simp (disch := (first | omega | (simp only [lenS, lenT, UInt64.reduceToNat] ; try omega))) only [↓vcL_none, ↓vcB_call, putF_some, setF_s, setF_0, List.nil_append]
  (with_reducible refine hk _ _ _ _ ?_); clear hk k
  refine Ow.callFV rfl Tryd.call123 (fun w' hw' => cSum_spec b1 s _ w' (GlobC.of hG hw' (by simp [keys]; omega)) hs (hw'.has _ _ List.mem_cons_self)) ?_
  refine Ow.run rfl fun k hk => ?_
  simp (disch := (first | omega | (simp only [lenS, lenT, UInt64.reduceToNat] ; try omega))) only [↓vcL_none, ↓vcB_assign, ↓ov_some, putF_some, setF_s, setF_0, ↓ev_tmp, ↓getF_s, ↓getF_0, nf_cons, ↓vcL_nil, Md.next_seq]
  (with_reducible refine hk _ _ _ _ ?_); clear hk k
  repeat' first | with_reducible (first | refine Cw.seq ?_ | refine thenK_normal ?_ | refine Ow.nil ?_) | ((with_reducible refine Cw.region (Ow.run rfl fun k hk => ?_)); simp (disch := (first | omega | (simp only [lenS, lenT, UInt64.reduceToNat] ; try omega))) only [↓vcL_none, ↓vcB_alloc]; (with_reducible refine hk _ _ _ _ ?_); clear hk k) | with_reducible (first | refine Cw.block ?_ | refine Cw.skip ?_ | refine Cw.exit ?_ | refine Cw.ret ?_ | refine thenK_exit ?_ | refine thenK_ret ?_ | refine blockK_normal ?_ | refine blockK_ret ?_ | refine blockK_exit ?_ | refine blockK_pass rfl ?_) | ((with_reducible refine Cw.condC ?_); first | refine CwC.pt rfl (by omega) ?_ | refine CwC.pf rfl (by omega) ?_ | refine CwC.it rfl (by omega) ?_ | refine CwC.if rfl (by omega) ?_ | refine CwC.nt rfl (by omega) ?_ | refine CwC.nf rfl (by omega) ?_ | refine CwC.tt rfl ?_ | refine CwC.ff rfl ?_ | refine CwC.bt rfl (by assumption) ?_ | (refine CwC.bf rfl ?_ ?_; focus assumption))
  unfold sealV
  generalize crcV s = n
  refine Ow.alloc rfl rfl Tryd.zr180 fun b2 hb2 hw2 => ?_
  obtain ⟨h12, -⟩ := hb2
  refine Ow.run rfl fun k hk => ?_
  simp (disch := (first | omega | (simp only [lenS, lenT, UInt64.reduceToNat] ; try omega))) only [↓vcL_nil, putF_some, setF_s, setF_0, cells_agg, List.cons_append, List.nil_append]
  (with_reducible refine hk _ _ _ _ ?_); clear hk k
  repeat' first | with_reducible (first | refine Cw.seq ?_ | refine thenK_normal ?_ | refine Ow.nil ?_) | ((with_reducible refine Cw.region (Ow.run rfl fun k hk => ?_)); simp (disch := (first | omega | (simp only [lenS, lenT, UInt64.reduceToNat] ; try omega))) only [↓vcL_none, ↓vcB_move, ↓ov_some, ↓ev_const, lit_i64, putF_some, setF_s, setF_0, nf_cons, ↓vcL_nil, Md.next_seq]; (with_reducible refine hk _ _ _ _ ?_); clear hk k) | with_reducible (first | refine Cw.block ?_ | refine Cw.skip ?_ | refine Cw.exit ?_ | refine Cw.ret ?_ | refine thenK_exit ?_ | refine thenK_ret ?_ | refine blockK_normal ?_ | refine blockK_ret ?_ | refine blockK_exit ?_ | refine blockK_pass rfl ?_) | ((with_reducible refine Cw.condC ?_); first | refine CwC.pt rfl (by omega) ?_ | refine CwC.pf rfl (by omega) ?_ | refine CwC.it rfl (by omega) ?_ | refine CwC.if rfl (by omega) ?_ | refine CwC.nt rfl (by omega) ?_ | refine CwC.nf rfl (by omega) ?_ | refine CwC.tt rfl ?_ | refine CwC.ff rfl ?_ | refine CwC.bt rfl (by assumption) ?_ | (refine CwC.bf rfl ?_ ?_; focus assumption))
  rw [show a8 (List.replicate 4 0) = a8 (sumPre n 0) from rfl]
  refine Cw.loopG (G := Nat) [10, 11, 5, 12, 13, 14, 15, 16, 17, 18, 19, 9] (fun g => [(9, vi g)]) (fun g => [(b1, .cells #[vs s] 9 (0, 0)), (b2, .cells (a8 (sumPre n g)) 180 (0, 0))]) (fun g => g ≤ 4) (fun g => 4 - g) 0 rfl rfl ?_ ?_
  · omega
  intro g j hg
  simp only [overFrom, pin, setF_0, setF_s, List.contains_cons, List.contains_nil, Nat.reduceBEq, Bool.or_false, Bool.false_or, Bool.or_true, Bool.true_or, Nat.reduceAdd, ↓reduceIte, Bool.false_eq_true]
  have hpl := sumPre_len n g
  by_cases hlt : g < 4
  · repeat' first | with_reducible (first | refine Cw.seq ?_ | refine thenK_normal ?_ | refine Ow.nil ?_) | ((with_reducible refine Cw.region (Ow.run rfl fun k hk => ?_)); simp (disch := (first | omega | (simp only [lenS, lenT, UInt64.reduceToNat] ; try omega))) only [↓vcL_none, ↓vcB_binOp, ↓ev_tmp, ↓getF_s, ↓getF_0, ↓ev_const, lit_i64, binX_vi_vi, bin_lss_i, ↓ov_some, putF_some, setF_s, setF_0, nf_cons, ↓vcL_nil, Md.next_seq, ↓vcB_move, ↓vcB_assign, bin_mul_i, binX_v32_vi, bin_shr_u32_vi, toNat_lit_mul, ↓vcB_convert, rd_seq_convert, ↓ib_true, Tryd.cv160_5, conv_int, conv_u32_u8, ↓vcB_indexAddr, Tryd.ix180, ixI_vi, indexAddr_arr, Int.toNat_natCast, Nat.mul_one, Nat.zero_add, ↓vcB_store, Tryd.ag5, storeAt_p, look_other, look_same, store_a8, upd_some, setB_other, setB_same, oh_some, nh_cons, bin_add_i]; (with_reducible refine hk _ _ _ _ ?_); clear hk k) | with_reducible (first | refine Cw.block ?_ | refine Cw.skip ?_ | refine Cw.exit ?_ | refine Cw.ret ?_ | refine thenK_exit ?_ | refine thenK_ret ?_ | refine blockK_normal ?_ | refine blockK_ret ?_ | refine blockK_exit ?_ | refine blockK_pass rfl ?_) | ((with_reducible refine Cw.condC ?_); first | refine CwC.pt rfl (by omega) ?_ | refine CwC.pf rfl (by omega) ?_ | refine CwC.it rfl (by omega) ?_ | refine CwC.if rfl (by omega) ?_ | refine CwC.nt rfl (by omega) ?_ | refine CwC.nf rfl (by omega) ?_ | refine CwC.tt rfl ?_ | refine CwC.ff rfl ?_ | refine CwC.bt rfl (by assumption) ?_ | (refine CwC.bf rfl ?_ ?_; focus assumption))
    refine Again.mk (g + 1) (by omega) (by omega) ?_ rfl
    rw [sumPre_succ n g hlt]
  · obtain rfl : g = 4 := by omega
    repeat' first | with_reducible (first | refine Cw.seq ?_ | refine thenK_normal ?_ | refine Ow.nil ?_) | ((with_reducible refine Cw.region (Ow.run rfl fun k hk => ?_)); simp (disch := (first | omega | (simp only [lenS, lenT, UInt64.reduceToNat] ; try omega))) only [↓vcL_none, ↓vcB_binOp, ↓ev_tmp, ↓getF_s, ↓getF_0, ↓ev_const, lit_i64, binX_vi_vi, bin_lss_i, ↓ov_some, putF_some, setF_s, setF_0, nf_cons, ↓vcL_nil, Md.next_seq, ↓vcB_move, ↓vcB_slice, Tryd.ix180, Option.map_none, slice_arr_all, ↓vcB_convert, rd_seq_convert, ↓ib_true, Tryd.cv94_9, conv_bytesStr, read_other, read_same, text_a8, binX_vs, bin_add_s, ↓vcB_assign]; (with_reducible refine hk _ _ _ _ ?_); clear hk k) | with_reducible (first | refine Cw.block ?_ | refine Cw.skip ?_ | refine Cw.exit ?_ | refine Cw.ret ?_ | refine thenK_exit ?_ | refine thenK_ret ?_ | refine blockK_normal ?_ | refine blockK_ret ?_ | refine blockK_exit ?_ | refine blockK_pass rfl ?_) | ((with_reducible refine Cw.condC ?_); first | refine CwC.pt rfl (by omega) ?_ | refine CwC.pf rfl (by omega) ?_ | refine CwC.it rfl (by omega) ?_ | refine CwC.if rfl (by omega) ?_ | refine CwC.nt rfl (by omega) ?_ | refine CwC.nf rfl (by omega) ?_ | refine CwC.tt rfl ?_ | refine CwC.ff rfl ?_ | refine CwC.bt rfl (by assumption) ?_ | (refine CwC.bf rfl ?_ ?_; focus assumption))
    refine ⟨_, (by simp (disch := (first | omega | (simp only [lenS, lenT, UInt64.reduceToNat] ; try omega))) only [resVs_cons, resV_tmp, ↓getF_s, ↓getF_0, resVs_nil, cons2_some]; rfl), ⟨hw1, hw2, trivial⟩, ?_⟩
    rw [List.drop_zero, List.take_of_length_le (by omega)]; rfl
/-- What was sealed. -/
def unsealV (s : List UInt8) : List UInt8 × Bool :=
  if s.length < 4 then ([], false) else if sealV (s.take (s.length - 4)) = s then (s.take (s.length - 4), true) else ([], false)
theorem sealV_len (s : List UInt8) : (sealV s).length = s.length + 4 := by unfold sealV sum4; rw [List.length_append, sumPre_len]
theorem cUnseal_spec (s : List UInt8) (w : World) (hG : GlobC w) (hs : s.length < 1099511627776) :
    Rets Tryd.prog 82 #[vs s] w (fun v D => v = .tuple #[vs (unsealV s).1, .bool (unsealV s).2] ∧ D = []) := by
  refine Rets.enterV Tryd.func82 rfl (rs := [.tmp 2, .tmp 3]) Tryd.results82 Tryd.ntmps82 ?_
  simp only [List.size_toArray, List.length_cons, List.length_nil, Nat.reduceAdd, Nat.reduceSub, List.replicate_succ, List.replicate_zero, List.cons_append, List.nil_append]
  repeat' first | with_reducible (first | refine Cw.seq ?_ | refine thenK_normal ?_ | refine Ow.nil ?_) | ((with_reducible refine Cw.region (Ow.run rfl fun k hk => ?_)); simp (disch := (first | omega | (simp only [lenS, lenT, UInt64.reduceToNat] ; try omega))) only [↓vcL_none, ↓vcB_assign, ↓ov_some, ↓ev_const, lit_str, putF_some, setF_s, setF_0, nf_cons, ↓vcL_nil, Md.next_seq]; (with_reducible refine hk _ _ _ _ ?_); clear hk k) | with_reducible (first | refine Cw.block ?_ | refine Cw.skip ?_ | refine Cw.exit ?_ | refine Cw.ret ?_ | refine thenK_exit ?_ | refine thenK_ret ?_ | refine blockK_normal ?_ | refine blockK_ret ?_ | refine blockK_exit ?_ | refine blockK_pass rfl ?_) | ((with_reducible refine Cw.condC ?_); first | refine CwC.pt rfl (by omega) ?_ | refine CwC.pf rfl (by omega) ?_ | refine CwC.it rfl (by omega) ?_ | refine CwC.if rfl (by omega) ?_ | refine CwC.nt rfl (by omega) ?_ | refine CwC.nf rfl (by omega) ?_ | refine CwC.tt rfl ?_ | refine CwC.ff rfl ?_ | refine CwC.bt rfl (by assumption) ?_ | (refine CwC.bf rfl ?_ ?_; focus assumption))
  unfold unsealV
  by_cases h4 : s.length < 4
  · have e1 : decide ((s.length : Int) < 4) = true := decide_eq_true (by omega)
    rw [if_pos h4]
    repeat' first | with_reducible (first | refine Cw.seq ?_ | refine thenK_normal ?_ | refine Ow.nil ?_) | ((with_reducible refine Cw.region (Ow.run rfl fun k hk => ?_)); simp (disch := (first | omega | (simp only [lenS, lenT, UInt64.reduceToNat] ; try omega))) only [↓vcL_none, ↓vcB_move, ↓ov_some, ↓ev_tmp, ↓getF_0, putF_some, setF_s, setF_0, nf_cons, ↓vcB_len, Tryd.ix9, ↓getF_s, len_str, ↓vcB_binOp, ↓ev_const, lit_i64, binX_vi_vi, bin_lss_i, e1, ↓vcL_some, yieldF_lit, ↓nthO_s, ↓nthO_0, yieldL_some, boolOf_b, some_beq, beq_false, Bool.not_true, ↓ib_false, ↓vcB_pick, pick_t, ↓vcL_nil, Md.next_seq, ↓vcB_assign, lit_str]; (with_reducible refine hk _ _ _ _ ?_); clear hk k) | with_reducible (first | refine Cw.block ?_ | refine Cw.skip ?_ | refine Cw.exit ?_ | refine Cw.ret ?_ | refine thenK_exit ?_ | refine thenK_ret ?_ | refine blockK_normal ?_ | refine blockK_ret ?_ | refine blockK_exit ?_ | refine blockK_pass rfl ?_) | ((with_reducible refine Cw.condC ?_); first | refine CwC.pt rfl (by omega) ?_ | refine CwC.pf rfl (by omega) ?_ | refine CwC.it rfl (by omega) ?_ | refine CwC.if rfl (by omega) ?_ | refine CwC.nt rfl (by omega) ?_ | refine CwC.nf rfl (by omega) ?_ | refine CwC.tt rfl ?_ | refine CwC.ff rfl ?_ | refine CwC.bt rfl (by assumption) ?_ | (refine CwC.bf rfl ?_ ?_; focus assumption))
    refine ⟨_, (by simp (disch := (first | omega | (simp only [lenS, lenT, UInt64.reduceToNat] ; try omega))) only [resVs_cons, resV_tmp, ↓getF_s, ↓getF_0, resVs_nil, cons2_some]; rfl), trivial, ?_⟩
    rfl
  · have e1 : decide ((s.length : Int) < 4) = false := decide_eq_false (by omega)
    have e2 : ((s.length : Int) - 4).toNat = s.length - 4 := by omega
    rw [if_neg h4]
    refine Cw.region ?_
    refine Ow.run rfl fun k hk => ?_
    simp (disch := (first | omega | (simp only [lenS, lenT, UInt64.reduceToNat] ; try omega))) only [↓vcL_none, ↓vcB_move, ↓ov_some, ↓ev_tmp, ↓getF_0, putF_some, setF_s, setF_0, nf_cons, ↓vcB_len, Tryd.ix9, ↓getF_s, len_str, ↓vcB_binOp, ↓ev_const, lit_i64, binX_vi_vi, bin_lss_i, e1, ↓vcL_some, yieldF_lit, ↓nthO_s, ↓nthO_0, yieldL_some, boolOf_b, beq_self_eq_true, ↓ib_true, bin_sub_i, ↓vcB_slice, Option.map_none, Option.map_some, ixI_vi, slice_str_hi, e2, ↓vcB_call, Md.next_seq]
    (with_reducible refine hk _ _ _ _ ?_); clear hk k
    refine Ow.callFV rfl Tryd.call92 (fun w' hw' => cSeal_spec (s.take (s.length - 4)) w' (GlobC.of hG hw' (by simp [keys])) (by rw [List.length_take]; omega)) ?_
    refine Ow.run rfl fun k hk => ?_
    simp (disch := (first | omega | (simp only [lenS, lenT, UInt64.reduceToNat] ; try omega))) only [↓vcL_some, lit_i64, putF_some, setF_s, setF_0, yieldF_lit, ↓nthO_s, ↓nthO_0, yieldL_some, ↓getF_s, ↓getF_0, boolOf_b, beq_self_eq_true, ↓ib_true, ↓vcB_move, ↓ov_some, ↓ev_tmp, nf_cons, ↓vcB_binOp, binX_vs, bin_neq_s, ↓vcL_none, ↓vcB_pick, ↓ev_const, pick_f, ↓vcL_nil, Md.next_seq]
    (with_reducible refine hk _ _ _ _ ?_); clear hk k
    cases hq : (sealV (s.take (s.length - 4)) != s)
    · rw [if_pos (by simpa using hq)]
      repeat' first | with_reducible (first | refine Cw.seq ?_ | refine thenK_normal ?_ | refine Ow.nil ?_) | ((with_reducible refine Cw.region (Ow.run rfl fun k hk => ?_)); simp (disch := (first | omega | (simp only [lenS, lenT, UInt64.reduceToNat] ; try omega))) only [↓vcL_none, ↓vcB_move, ↓ov_some, ↓ev_tmp, ↓getF_0, putF_some, setF_s, setF_0, nf_cons, ↓vcB_len, Tryd.ix9, ↓getF_s, len_str, ↓vcB_binOp, ↓ev_const, lit_i64, binX_vi_vi, bin_sub_i, ↓vcB_slice, Option.map_none, Option.map_some, ixI_vi, slice_str_hi, e2, ↓vcB_assign, ↓vcL_nil, Md.next_seq]; (with_reducible refine hk _ _ _ _ ?_); clear hk k) | with_reducible (first | refine Cw.block ?_ | refine Cw.skip ?_ | refine Cw.exit ?_ | refine Cw.ret ?_ | refine thenK_exit ?_ | refine thenK_ret ?_ | refine blockK_normal ?_ | refine blockK_ret ?_ | refine blockK_exit ?_ | refine blockK_pass rfl ?_) | ((with_reducible refine Cw.condC ?_); first | refine CwC.pt rfl (by omega) ?_ | refine CwC.pf rfl (by omega) ?_ | refine CwC.it rfl (by omega) ?_ | refine CwC.if rfl (by omega) ?_ | refine CwC.nt rfl (by omega) ?_ | refine CwC.nf rfl (by omega) ?_ | refine CwC.tt rfl ?_ | refine CwC.ff rfl ?_ | refine CwC.bt rfl (by assumption) ?_ | (refine CwC.bf rfl ?_ ?_; focus assumption))
      refine ⟨_, (by simp (disch := (first | omega | (simp only [lenS, lenT, UInt64.reduceToNat] ; try omega))) only [resVs_cons, resV_tmp, ↓getF_s, ↓getF_0, resVs_nil, cons2_some]; rfl), trivial, ?_⟩
      rfl
    · rw [if_neg (by simpa using hq)]
      repeat' first | with_reducible (first | refine Cw.seq ?_ | refine thenK_normal ?_ | refine Ow.nil ?_) | ((with_reducible refine Cw.region (Ow.run rfl fun k hk => ?_)); simp (disch := (first | omega | (simp only [lenS, lenT, UInt64.reduceToNat] ; try omega))) only [↓vcL_none, ↓vcB_assign, ↓ov_some, ↓ev_const, lit_str, putF_some, setF_s, setF_0, nf_cons, ↓vcL_nil, Md.next_seq]; (with_reducible refine hk _ _ _ _ ?_); clear hk k) | with_reducible (first | refine Cw.block ?_ | refine Cw.skip ?_ | refine Cw.exit ?_ | refine Cw.ret ?_ | refine thenK_exit ?_ | refine thenK_ret ?_ | refine blockK_normal ?_ | refine blockK_ret ?_ | refine blockK_exit ?_ | refine blockK_pass rfl ?_) | ((with_reducible refine Cw.condC ?_); first | refine CwC.pt rfl (by omega) ?_ | refine CwC.pf rfl (by omega) ?_ | refine CwC.it rfl (by omega) ?_ | refine CwC.if rfl (by omega) ?_ | refine CwC.nt rfl (by omega) ?_ | refine CwC.nf rfl (by omega) ?_ | refine CwC.tt rfl ?_ | refine CwC.ff rfl ?_ | refine CwC.bt rfl (by assumption) ?_ | (refine CwC.bf rfl ?_ ?_; focus assumption))
      refine ⟨_, (by simp (disch := (first | omega | (simp only [lenS, lenT, UInt64.reduceToNat] ; try omega))) only [resVs_cons, resV_tmp, ↓getF_s, ↓getF_0, resVs_nil, cons2_some]; rfl), trivial, ?_⟩
      rfl
end Go.Proofs
open Go Go.Proofs Go.Sx
namespace Go.Proofs
set_option maxRecDepth 10000
set_option maxHeartbeats 4000000
set_option linter.unusedSimpArgs false
def stepV (n : UInt32) : UInt32 := if n % 2 == 1 then n / 2 ^^^ 3988292384 else n / 2
theorem stepV_B (n : UInt32) : (stepV n).toBitVec = stB n.toBitVec := by
  have hd : (n / 2).toBitVec = n.toBitVec >>> 1 := by
    apply BitVec.eq_of_toNat_eq
    rw [UInt32.toBitVec_div, BitVec.toNat_udiv, BitVec.toNat_ushiftRight]
    rfl
  have hm : (n % 2 == 1) = n.toBitVec.getLsbD 0 := by
    rw [BitVec.getLsbD, Nat.testBit_eq_decide_div_mod_eq, Nat.pow_zero, Nat.div_one, Bool.eq_iff_iff, beq_iff_eq, decide_eq_true_eq, ← UInt32.toNat_inj, UInt32.toNat_mod]
    rfl
  unfold stepV stB
  rw [hm]
  cases n.toBitVec.getLsbD 0
  · rw [if_neg (by decide), hd]; simp [kB]
  · rw [if_pos rfl, UInt32.toBitVec_xor, hd]; rfl
theorem half_step (n : UInt32) : half32 n = stepV (stepV (stepV (stepV n))) := by
  apply UInt32.toBitVec_inj.1
  rw [stepV_B, stepV_B, stepV_B, stepV_B, halfB]
  unfold half32
  rw [UInt32.toBitVec_xor]
  congr 1
  · apply BitVec.eq_of_toNat_eq
    unfold shr_u32
    rw [BitVec.toNat_ushiftRight, Nat.shiftRight_eq_div_pow]
    have := n.toNat_lt
    simp only [UInt32.toNat_toBitVec, UInt32.toNat_ofNat']
    omega
  · have e : (n &&& 15).toNat = n.toBitVec.toNat % 16 := by
      rw [UInt32.toNat_and, show (15 : UInt32).toNat = 2 ^ 4 - 1 from rfl, Nat.and_two_pow_sub_one_eq_mod]
      rfl
    rw [e]
    have hlt : n.toBitVec.toNat % 16 < 16 := Nat.mod_lt _ (by omega)
    generalize n.toBitVec.toNat % 16 = m at hlt
    have : ∀ m, m < 16 → (hvL.getD m 0).toBitVec = hvB.getD m 0 := by decide
    exact this m hlt
def steps (n : UInt32) : Nat → UInt32
  | 0 => n
  | k + 1 => stepV (steps n k)
theorem feed_steps (n : UInt32) : steps n 8 = halfs n 2 := by
  show stepV (stepV (stepV (stepV (stepV (stepV (stepV (stepV n))))))) = half32 (half32 n)
  rw [half_step, half_step]
theorem Step_spec (n : UInt32) (w : World) : Rets Tryd.prog 164 #[v32 n] w (fun v D => v = v32 (stepV n) ∧ D = []) := by
  have hrem : binV .rem (v32 n) (v32 2) = some (v32 (n % 2)) := bin_rem_u32 _ _ (by decide)
  have hquo : binV .quo (v32 n) (v32 2) = some (v32 (n / 2)) := bin_quo_u32 _ _ (by decide)
  refine Rets.enterV Tryd.func164 rfl (rs := [.tmp 2]) Tryd.results164 Tryd.ntmps164 ?_
  simp only [List.size_toArray, List.length_cons, List.length_nil, Nat.reduceAdd, Nat.reduceSub, List.replicate_succ, List.replicate_zero, List.cons_append, List.nil_append]
  unfold stepV
  repeat' first | with_reducible (first | refine Cw.seq ?_ | refine thenK_normal ?_ | refine Ow.nil ?_) | ((with_reducible refine Cw.region (Ow.run rfl fun k hk => ?_)); simp (disch := (first | omega | (simp only [lenS, lenT, UInt64.reduceToNat] ; try omega))) only [↓vcL_none, ↓vcB_assign, ↓ov_some, ↓ev_const, lit_u32, putF_some, setF_s, setF_0, nf_cons, ↓vcL_nil, Md.next_seq, ↓vcB_move, ↓ev_tmp, ↓getF_0, ↓vcB_binOp, ↓getF_s, binX_v32_v32, hrem, bin_eql_u32]; (with_reducible refine hk _ _ _ _ ?_); clear hk k) | with_reducible (first | refine Cw.block ?_ | refine Cw.skip ?_ | refine Cw.exit ?_ | refine Cw.ret ?_ | refine thenK_exit ?_ | refine thenK_ret ?_ | refine blockK_normal ?_ | refine blockK_ret ?_ | refine blockK_exit ?_ | refine blockK_pass rfl ?_) | ((with_reducible refine Cw.condC ?_); first | refine CwC.pt rfl (by omega) ?_ | refine CwC.pf rfl (by omega) ?_ | refine CwC.it rfl (by omega) ?_ | refine CwC.if rfl (by omega) ?_ | refine CwC.nt rfl (by omega) ?_ | refine CwC.nf rfl (by omega) ?_ | refine CwC.tt rfl ?_ | refine CwC.ff rfl ?_ | refine CwC.bt rfl (by assumption) ?_ | (refine CwC.bf rfl ?_ ?_; focus assumption))
  cases h : (n % 2 == 1)
  · repeat' first | with_reducible (first | refine Cw.seq ?_ | refine thenK_normal ?_ | refine Ow.nil ?_) | ((with_reducible refine Cw.region (Ow.run rfl fun k hk => ?_)); simp (disch := (first | omega | (simp only [lenS, lenT, UInt64.reduceToNat] ; try omega))) only [↓vcL_none, ↓vcB_move, ↓ov_some, ↓ev_tmp, ↓getF_0, putF_some, setF_s, setF_0, nf_cons, ↓vcB_binOp, ↓getF_s, ↓ev_const, lit_u32, binX_v32_v32, hquo, ↓vcB_assign, ↓vcL_nil, Md.next_seq]; (with_reducible refine hk _ _ _ _ ?_); clear hk k) | with_reducible (first | refine Cw.block ?_ | refine Cw.skip ?_ | refine Cw.exit ?_ | refine Cw.ret ?_ | refine thenK_exit ?_ | refine thenK_ret ?_ | refine blockK_normal ?_ | refine blockK_ret ?_ | refine blockK_exit ?_ | refine blockK_pass rfl ?_) | ((with_reducible refine Cw.condC ?_); first | refine CwC.pt rfl (by omega) ?_ | refine CwC.pf rfl (by omega) ?_ | refine CwC.it rfl (by omega) ?_ | refine CwC.if rfl (by omega) ?_ | refine CwC.nt rfl (by omega) ?_ | refine CwC.nf rfl (by omega) ?_ | refine CwC.tt rfl ?_ | refine CwC.ff rfl ?_ | refine CwC.bt rfl (by assumption) ?_ | (refine CwC.bf rfl ?_ ?_; focus assumption))
    refine ⟨_, (by simp (disch := (first | omega | (simp only [lenS, lenT, UInt64.reduceToNat] ; try omega))) only [resVs_cons, resV_tmp, ↓getF_s, ↓getF_0, resVs_nil, cons2_some]; rfl), trivial, ?_⟩
    rfl
  · repeat' first | with_reducible (first | refine Cw.seq ?_ | refine thenK_normal ?_ | refine Ow.nil ?_) | ((with_reducible refine Cw.region (Ow.run rfl fun k hk => ?_)); simp (disch := (first | omega | (simp only [lenS, lenT, UInt64.reduceToNat] ; try omega))) only [↓vcL_none, ↓vcB_move, ↓ov_some, ↓ev_tmp, ↓getF_0, putF_some, setF_s, setF_0, nf_cons, ↓vcB_binOp, ↓getF_s, ↓ev_const, lit_u32, binX_v32_v32, hquo, bin_xor_u32, ↓vcB_assign, ↓vcL_nil, Md.next_seq]; (with_reducible refine hk _ _ _ _ ?_); clear hk k) | with_reducible (first | refine Cw.block ?_ | refine Cw.skip ?_ | refine Cw.exit ?_ | refine Cw.ret ?_ | refine thenK_exit ?_ | refine thenK_ret ?_ | refine blockK_normal ?_ | refine blockK_ret ?_ | refine blockK_exit ?_ | refine blockK_pass rfl ?_) | ((with_reducible refine Cw.condC ?_); first | refine CwC.pt rfl (by omega) ?_ | refine CwC.pf rfl (by omega) ?_ | refine CwC.it rfl (by omega) ?_ | refine CwC.if rfl (by omega) ?_ | refine CwC.nt rfl (by omega) ?_ | refine CwC.nf rfl (by omega) ?_ | refine CwC.tt rfl ?_ | refine CwC.ff rfl ?_ | refine CwC.bt rfl (by assumption) ?_ | (refine CwC.bf rfl ?_ ?_; focus assumption))
    refine ⟨_, (by simp (disch := (first | omega | (simp only [lenS, lenT, UInt64.reduceToNat] ; try omega))) only [resVs_cons, resV_tmp, ↓getF_s, ↓getF_0, resVs_nil, cons2_some]; rfl), trivial, ?_⟩
    rfl
theorem Feed_spec (n : UInt32) (b : UInt8) (w : World) : Rets Tryd.prog 136 #[v32 n, v8 b] w (fun v D => v = v32 (feedV n b) ∧ D = []) := by
  refine Rets.enterV Tryd.func136 rfl (rs := [.tmp 4]) Tryd.results136 Tryd.ntmps136 ?_
  simp only [List.size_toArray, List.length_cons, List.length_nil, Nat.reduceAdd, Nat.reduceSub, List.replicate_succ, List.replicate_zero, List.cons_append, List.nil_append]
  repeat' first | with_reducible (first | refine Cw.seq ?_ | refine thenK_normal ?_ | refine Ow.nil ?_) | ((with_reducible refine Cw.region (Ow.run rfl fun k hk => ?_)); simp (disch := (first | omega | (simp only [lenS, lenT, UInt64.reduceToNat] ; try omega))) only [↓vcL_none, ↓vcB_assign, ↓ov_some, ↓ev_const, lit_u32, putF_some, setF_s, setF_0, nf_cons, ↓vcL_nil, Md.next_seq, ↓vcB_move, ↓ev_tmp, ↓getF_0, ↓getF_s, ↓vcB_convert, rd_seq_convert, ↓ib_true, Tryd.cv5_160, conv_int, conv_u8_u32, ↓vcB_binOp, binX_v32_v32, bin_xor_u32, lit_i64]; (with_reducible refine hk _ _ _ _ ?_); clear hk k) | with_reducible (first | refine Cw.block ?_ | refine Cw.skip ?_ | refine Cw.exit ?_ | refine Cw.ret ?_ | refine thenK_exit ?_ | refine thenK_ret ?_ | refine blockK_normal ?_ | refine blockK_ret ?_ | refine blockK_exit ?_ | refine blockK_pass rfl ?_) | ((with_reducible refine Cw.condC ?_); first | refine CwC.pt rfl (by omega) ?_ | refine CwC.pf rfl (by omega) ?_ | refine CwC.it rfl (by omega) ?_ | refine CwC.if rfl (by omega) ?_ | refine CwC.nt rfl (by omega) ?_ | refine CwC.nf rfl (by omega) ?_ | refine CwC.tt rfl ?_ | refine CwC.ff rfl ?_ | refine CwC.bt rfl (by assumption) ?_ | (refine CwC.bf rfl ?_ ?_; focus assumption))
  unfold feedV
  generalize n ^^^ UInt32.ofNat b.toNat = m
  rw [← feed_steps, show v32 m = v32 (steps m 0) from rfl]
  refine Cw.loopG (G := Nat) [10, 11, 14, 15, 0, 12, 13, 5] (fun g => [(0, v32 (steps m g)), (5, vi g)]) (fun g => []) (fun g => g ≤ 8) (fun g => 8 - g) 0 rfl rfl ?_ ?_
  · omega
  intro g j hg
  simp only [overFrom, pin, setF_0, setF_s, List.contains_cons, List.contains_nil, Nat.reduceBEq, Bool.or_false, Bool.false_or, Bool.or_true, Bool.true_or, Nat.reduceAdd, ↓reduceIte, Bool.false_eq_true]
  by_cases hlt : g < 8
  · repeat' first | with_reducible (first | refine Cw.seq ?_ | refine thenK_normal ?_ | refine Ow.nil ?_) | ((with_reducible refine Cw.region (Ow.run rfl fun k hk => ?_)); simp (disch := (first | omega | (simp only [lenS, lenT, UInt64.reduceToNat] ; try omega))) only [↓vcL_none, ↓vcB_move, ↓ov_some, ↓ev_tmp, ↓getF_s, ↓getF_0, putF_some, setF_s, setF_0, nf_cons, ↓vcB_binOp, ↓ev_const, lit_i64, binX_vi_vi, bin_lss_i, ↓vcL_nil, Md.next_seq, ↓vcB_call]; (with_reducible refine hk _ _ _ _ ?_); clear hk k) | with_reducible (first | refine Cw.block ?_ | refine Cw.skip ?_ | refine Cw.exit ?_ | refine Cw.ret ?_ | refine thenK_exit ?_ | refine thenK_ret ?_ | refine blockK_normal ?_ | refine blockK_ret ?_ | refine blockK_exit ?_ | refine blockK_pass rfl ?_) | ((with_reducible refine Cw.condC ?_); first | refine CwC.pt rfl (by omega) ?_ | refine CwC.pf rfl (by omega) ?_ | refine CwC.it rfl (by omega) ?_ | refine CwC.if rfl (by omega) ?_ | refine CwC.nt rfl (by omega) ?_ | refine CwC.nf rfl (by omega) ?_ | refine CwC.tt rfl ?_ | refine CwC.ff rfl ?_ | refine CwC.bt rfl (by assumption) ?_ | (refine CwC.bf rfl ?_ ?_; focus assumption))
    refine Ow.callFV rfl Tryd.call164 (fun w' hw' => Step_spec _ w') ?_
    refine Ow.run rfl fun k hk => ?_
    simp (disch := (first | omega | (simp only [lenS, lenT, UInt64.reduceToNat] ; try omega))) only [↓vcL_none, ↓vcB_assign, ↓ov_some, putF_some, setF_s, setF_0, ↓ev_tmp, ↓getF_s, ↓getF_0, nf_cons, ↓vcL_nil, Md.next_seq]
    (with_reducible refine hk _ _ _ _ ?_); clear hk k
    repeat' first | with_reducible (first | refine Cw.seq ?_ | refine thenK_normal ?_ | refine Ow.nil ?_) | ((with_reducible refine Cw.region (Ow.run rfl fun k hk => ?_)); simp (disch := (first | omega | (simp only [lenS, lenT, UInt64.reduceToNat] ; try omega))) only [↓vcL_none, ↓vcB_move, ↓ov_some, ↓ev_tmp, ↓getF_s, ↓getF_0, putF_some, setF_s, setF_0, nf_cons, ↓vcB_binOp, ↓ev_const, lit_i64, binX_vi_vi, bin_add_i, ↓vcB_assign, ↓vcL_nil, Md.next_seq]; (with_reducible refine hk _ _ _ _ ?_); clear hk k) | with_reducible (first | refine Cw.block ?_ | refine Cw.skip ?_ | refine Cw.exit ?_ | refine Cw.ret ?_ | refine thenK_exit ?_ | refine thenK_ret ?_ | refine blockK_normal ?_ | refine blockK_ret ?_ | refine blockK_exit ?_ | refine blockK_pass rfl ?_) | ((with_reducible refine Cw.condC ?_); first | refine CwC.pt rfl (by omega) ?_ | refine CwC.pf rfl (by omega) ?_ | refine CwC.it rfl (by omega) ?_ | refine CwC.if rfl (by omega) ?_ | refine CwC.nt rfl (by omega) ?_ | refine CwC.nf rfl (by omega) ?_ | refine CwC.tt rfl ?_ | refine CwC.ff rfl ?_ | refine CwC.bt rfl (by assumption) ?_ | (refine CwC.bf rfl ?_ ?_; focus assumption))
    refine Again.mk (g + 1) (by omega) (by omega) rfl rfl
  · obtain rfl : g = 8 := by omega
    repeat' first | with_reducible (first | refine Cw.seq ?_ | refine thenK_normal ?_ | refine Ow.nil ?_) | ((with_reducible refine Cw.region (Ow.run rfl fun k hk => ?_)); simp (disch := (first | omega | (simp only [lenS, lenT, UInt64.reduceToNat] ; try omega))) only [↓vcL_none, ↓vcB_move, ↓ov_some, ↓ev_tmp, ↓getF_s, ↓getF_0, putF_some, setF_s, setF_0, nf_cons, ↓vcB_binOp, ↓ev_const, lit_i64, binX_vi_vi, bin_lss_i, ↓vcL_nil, Md.next_seq, ↓vcB_assign]; (with_reducible refine hk _ _ _ _ ?_); clear hk k) | with_reducible (first | refine Cw.block ?_ | refine Cw.skip ?_ | refine Cw.exit ?_ | refine Cw.ret ?_ | refine thenK_exit ?_ | refine thenK_ret ?_ | refine blockK_normal ?_ | refine blockK_ret ?_ | refine blockK_exit ?_ | refine blockK_pass rfl ?_) | ((with_reducible refine Cw.condC ?_); first | refine CwC.pt rfl (by omega) ?_ | refine CwC.pf rfl (by omega) ?_ | refine CwC.it rfl (by omega) ?_ | refine CwC.if rfl (by omega) ?_ | refine CwC.nt rfl (by omega) ?_ | refine CwC.nf rfl (by omega) ?_ | refine CwC.tt rfl ?_ | refine CwC.ff rfl ?_ | refine CwC.bt rfl (by assumption) ?_ | (refine CwC.bf rfl ?_ ?_; focus assumption))
    refine ⟨_, (by simp (disch := (first | omega | (simp only [lenS, lenT, UInt64.reduceToNat] ; try omega))) only [resVs_cons, resV_tmp, ↓getF_s, ↓getF_0, resVs_nil, cons2_some]; rfl), trivial, ?_⟩
    rfl
theorem sub_not (n : UInt32) : 4294967295 - n = ~~~ n := by
  apply UInt32.toBitVec_inj.1
  rw [UInt32.toBitVec_sub, UInt32.toBitVec_not, ← BitVec.allOnes_sub_eq_not]
  rfl
theorem refCrc_spec (s : List UInt8) (w : World) (hs : s.length < 1099511627776) : Rets Tryd.prog 115 #[vs s] w (fun v D => v = v32 (crcV s) ∧ D = []) := by
  refine Rets.enterV Tryd.func115 rfl (rs := [.tmp 2]) Tryd.results115 Tryd.ntmps115 ?_
  simp only [List.size_toArray, List.length_cons, List.length_nil, Nat.reduceAdd, Nat.reduceSub, List.replicate_succ, List.replicate_zero, List.cons_append, List.nil_append]
  repeat' first | with_reducible (first | refine Cw.seq ?_ | refine thenK_normal ?_ | refine Ow.nil ?_) | ((with_reducible refine Cw.region (Ow.run rfl fun k hk => ?_)); simp (disch := (first | omega | (simp only [lenS, lenT, UInt64.reduceToNat] ; try omega))) only [↓vcL_none, ↓vcB_assign, ↓ov_some, ↓ev_const, lit_u32, putF_some, setF_s, setF_0, nf_cons, ↓vcL_nil, Md.next_seq, lit_i64]; (with_reducible refine hk _ _ _ _ ?_); clear hk k) | with_reducible (first | refine Cw.block ?_ | refine Cw.skip ?_ | refine Cw.exit ?_ | refine Cw.ret ?_ | refine thenK_exit ?_ | refine thenK_ret ?_ | refine blockK_normal ?_ | refine blockK_ret ?_ | refine blockK_exit ?_ | refine blockK_pass rfl ?_) | ((with_reducible refine Cw.condC ?_); first | refine CwC.pt rfl (by omega) ?_ | refine CwC.pf rfl (by omega) ?_ | refine CwC.it rfl (by omega) ?_ | refine CwC.if rfl (by omega) ?_ | refine CwC.nt rfl (by omega) ?_ | refine CwC.nf rfl (by omega) ?_ | refine CwC.tt rfl ?_ | refine CwC.ff rfl ?_ | refine CwC.bt rfl (by assumption) ?_ | (refine CwC.bf rfl ?_ ?_; focus assumption))
  rw [show v32 4294967295 = v32 (crcGo (~~~ (0 : UInt32)) (s.take 0)) from rfl]
  refine Cw.loopG (G := Nat) [5, 6, 7, 8, 11, 12, 13, 14, 15, 3, 9, 10, 4] (fun g => [(3, v32 (crcGo (~~~ (0 : UInt32)) (s.take g))), (4, vi g)]) (fun g => []) (fun g => g ≤ s.length) (fun g => s.length - g) 0 rfl rfl ?_ ?_
  · omega
  intro g j hg
  simp only [overFrom, pin, setF_0, setF_s, List.contains_cons, List.contains_nil, Nat.reduceBEq, Bool.or_false, Bool.false_or, Bool.or_true, Bool.true_or, Nat.reduceAdd, ↓reduceIte, Bool.false_eq_true]
  by_cases hlt : g < s.length
  · repeat' first | with_reducible (first | refine Cw.seq ?_ | refine thenK_normal ?_ | refine Ow.nil ?_) | ((with_reducible refine Cw.region (Ow.run rfl fun k hk => ?_)); simp (disch := (first | omega | (simp only [lenS, lenT, UInt64.reduceToNat] ; try omega))) only [↓vcL_none, ↓vcB_move, ↓ov_some, ↓ev_tmp, ↓getF_s, ↓getF_0, putF_some, setF_s, setF_0, nf_cons, ↓vcB_len, Tryd.ix9, len_str, ↓vcB_binOp, binX_vi_vi, bin_lss_i, ↓vcL_nil, Md.next_seq, ↓vcB_index, ixI_vi, index_str, Int.toNat_natCast, ↓vcB_call]; (with_reducible refine hk _ _ _ _ ?_); clear hk k) | with_reducible (first | refine Cw.block ?_ | refine Cw.skip ?_ | refine Cw.exit ?_ | refine Cw.ret ?_ | refine thenK_exit ?_ | refine thenK_ret ?_ | refine blockK_normal ?_ | refine blockK_ret ?_ | refine blockK_exit ?_ | refine blockK_pass rfl ?_) | ((with_reducible refine Cw.condC ?_); first | refine CwC.pt rfl (by omega) ?_ | refine CwC.pf rfl (by omega) ?_ | refine CwC.it rfl (by omega) ?_ | refine CwC.if rfl (by omega) ?_ | refine CwC.nt rfl (by omega) ?_ | refine CwC.nf rfl (by omega) ?_ | refine CwC.tt rfl ?_ | refine CwC.ff rfl ?_ | refine CwC.bt rfl (by assumption) ?_ | (refine CwC.bf rfl ?_ ?_; focus assumption))
    refine Ow.callFV rfl Tryd.call136 (fun w' hw' => Feed_spec _ _ w') ?_
    refine Ow.run rfl fun k hk => ?_
    simp (disch := (first | omega | (simp only [lenS, lenT, UInt64.reduceToNat] ; try omega))) only [↓vcL_none, ↓vcB_assign, ↓ov_some, putF_some, setF_s, setF_0, ↓ev_tmp, ↓getF_s, ↓getF_0, nf_cons, ↓vcL_nil, Md.next_seq]
    (with_reducible refine hk _ _ _ _ ?_); clear hk k
    repeat' first | with_reducible (first | refine Cw.seq ?_ | refine thenK_normal ?_ | refine Ow.nil ?_) | ((with_reducible refine Cw.region (Ow.run rfl fun k hk => ?_)); simp (disch := (first | omega | (simp only [lenS, lenT, UInt64.reduceToNat] ; try omega))) only [↓vcL_none, ↓vcB_move, ↓ov_some, ↓ev_tmp, ↓getF_s, ↓getF_0, putF_some, setF_s, setF_0, nf_cons, ↓vcB_binOp, ↓ev_const, lit_i64, binX_vi_vi, bin_add_i, ↓vcB_assign, ↓vcL_nil, Md.next_seq]; (with_reducible refine hk _ _ _ _ ?_); clear hk k) | with_reducible (first | refine Cw.block ?_ | refine Cw.skip ?_ | refine Cw.exit ?_ | refine Cw.ret ?_ | refine thenK_exit ?_ | refine thenK_ret ?_ | refine blockK_normal ?_ | refine blockK_ret ?_ | refine blockK_exit ?_ | refine blockK_pass rfl ?_) | ((with_reducible refine Cw.condC ?_); first | refine CwC.pt rfl (by omega) ?_ | refine CwC.pf rfl (by omega) ?_ | refine CwC.it rfl (by omega) ?_ | refine CwC.if rfl (by omega) ?_ | refine CwC.nt rfl (by omega) ?_ | refine CwC.nf rfl (by omega) ?_ | refine CwC.tt rfl ?_ | refine CwC.ff rfl ?_ | refine CwC.bt rfl (by assumption) ?_ | (refine CwC.bf rfl ?_ ?_; focus assumption))
    refine Again.mk (g + 1) (by omega) (by omega) rfl ?_
    rw [crcGo_succ _ _ _ hlt]
    rfl
  · obtain rfl : g = s.length := by omega
    repeat' first | with_reducible (first | refine Cw.seq ?_ | refine thenK_normal ?_ | refine Ow.nil ?_) | ((with_reducible refine Cw.region (Ow.run rfl fun k hk => ?_)); simp (disch := (first | omega | (simp only [lenS, lenT, UInt64.reduceToNat] ; try omega))) only [↓vcL_none, ↓vcB_move, ↓ov_some, ↓ev_tmp, ↓getF_s, ↓getF_0, putF_some, setF_s, setF_0, nf_cons, ↓vcB_len, Tryd.ix9, len_str, ↓vcB_binOp, binX_vi_vi, bin_lss_i, ↓vcL_nil, Md.next_seq, ↓ev_const, lit_u32, binX_v32_v32, bin_sub_u32, ↓vcB_assign]; (with_reducible refine hk _ _ _ _ ?_); clear hk k) | with_reducible (first | refine Cw.block ?_ | refine Cw.skip ?_ | refine Cw.exit ?_ | refine Cw.ret ?_ | refine thenK_exit ?_ | refine thenK_ret ?_ | refine blockK_normal ?_ | refine blockK_ret ?_ | refine blockK_exit ?_ | refine blockK_pass rfl ?_) | ((with_reducible refine Cw.condC ?_); first | refine CwC.pt rfl (by omega) ?_ | refine CwC.pf rfl (by omega) ?_ | refine CwC.it rfl (by omega) ?_ | refine CwC.if rfl (by omega) ?_ | refine CwC.nt rfl (by omega) ?_ | refine CwC.nf rfl (by omega) ?_ | refine CwC.tt rfl ?_ | refine CwC.ff rfl ?_ | refine CwC.bt rfl (by assumption) ?_ | (refine CwC.bf rfl ?_ ?_; focus assumption))
    rw [List.take_length]
    rw [sub_not]
    refine ⟨_, (by simp (disch := (first | omega | (simp only [lenS, lenT, UInt64.reduceToNat] ; try omega))) only [resVs_cons, resV_tmp, ↓getF_s, ↓getF_0, resVs_nil, cons2_some]; rfl), trivial, ?_⟩
    rfl
theorem sum4_eq (n : UInt32) : sum4 n = [UInt8.ofNat (n % 256).toNat, UInt8.ofNat (n / 256 % 256).toNat, UInt8.ofNat (n / 65536 % 256).toNat, UInt8.ofNat (n / 16777216).toNat] := by
  show [UInt8.ofNat (shr_u32 n 0).toNat, UInt8.ofNat (shr_u32 n 8).toNat, UInt8.ofNat (shr_u32 n 16).toNat, UInt8.ofNat (shr_u32 n 24).toNat] = _
  have hn := n.toNat_lt
  congr 1
  · apply UInt8.toNat_inj.1
    simp [shr_u32]
  · congr 1
    · apply UInt8.toNat_inj.1
      simp [shr_u32]
    · congr 1
      · apply UInt8.toNat_inj.1
        simp [shr_u32]
      · congr 1
        apply UInt8.toNat_inj.1
        simp [shr_u32]
theorem refSeal_spec (s : List UInt8) (w : World) (hs : s.length < 1099511627776) :
    Rets Tryd.prog 75 #[vs s] w (fun v D => v = vs (sealV s) ∧ D = []) := by
  refine Rets.enterV Tryd.func75 rfl (rs := [.tmp 2]) Tryd.results75 Tryd.ntmps75 ?_
  simp only [List.size_toArray, List.length_cons, List.length_nil, Nat.reduceAdd, Nat.reduceSub, List.replicate_succ, List.replicate_zero, List.cons_append, List.nil_append]
  repeat' first | with_reducible (first | refine Cw.seq ?_ | refine thenK_normal ?_ | refine Ow.nil ?_) | ((with_reducible refine Cw.region (Ow.run rfl fun k hk => ?_)); simp (disch := (first | omega | (simp only [lenS, lenT, UInt64.reduceToNat] ; try omega))) only [↓vcL_none, ↓vcB_assign, ↓ov_some, ↓ev_const, lit_str, putF_some, setF_s, setF_0, nf_cons, ↓vcL_nil, Md.next_seq, ↓vcB_move, ↓ev_tmp, ↓getF_0, ↓vcB_call]; (with_reducible refine hk _ _ _ _ ?_); clear hk k) | with_reducible (first | refine Cw.block ?_ | refine Cw.skip ?_ | refine Cw.exit ?_ | refine Cw.ret ?_ | refine thenK_exit ?_ | refine thenK_ret ?_ | refine blockK_normal ?_ | refine blockK_ret ?_ | refine blockK_exit ?_ | refine blockK_pass rfl ?_) | ((with_reducible refine Cw.condC ?_); first | refine CwC.pt rfl (by omega) ?_ | refine CwC.pf rfl (by omega) ?_ | refine CwC.it rfl (by omega) ?_ | refine CwC.if rfl (by omega) ?_ | refine CwC.nt rfl (by omega) ?_ | refine CwC.nf rfl (by omega) ?_ | refine CwC.tt rfl ?_ | refine CwC.ff rfl ?_ | refine CwC.bt rfl (by assumption) ?_ | (refine CwC.bf rfl ?_ ?_; focus assumption))
  refine Ow.callFV rfl Tryd.call115 (fun w' hw' => refCrc_spec s w' hs) ?_
  refine Ow.run rfl fun k hk => ?_
  simp (disch := (first | omega | (simp only [lenS, lenT, UInt64.reduceToNat] ; try omega))) only [↓vcL_none, ↓vcB_assign, ↓ov_some, putF_some, setF_s, setF_0, ↓ev_tmp, ↓getF_s, ↓getF_0, nf_cons, ↓vcL_nil, Md.next_seq]
  (with_reducible refine hk _ _ _ _ ?_); clear hk k
  unfold sealV
  rw [sum4_eq]
  generalize crcV s = n
  have h1 : binV .rem (v32 n) (v32 256) = some (v32 (n % 256)) := bin_rem_u32 _ _ (by decide)
  have h2 : binV .quo (v32 n) (v32 256) = some (v32 (n / 256)) := bin_quo_u32 _ _ (by decide)
  have h3 : binV .rem (v32 (n / 256)) (v32 256) = some (v32 (n / 256 % 256)) := bin_rem_u32 _ _ (by decide)
  have h4 : binV .quo (v32 n) (v32 65536) = some (v32 (n / 65536)) := bin_quo_u32 _ _ (by decide)
  have h5 : binV .rem (v32 (n / 65536)) (v32 256) = some (v32 (n / 65536 % 256)) := bin_rem_u32 _ _ (by decide)
  have h6 : binV .quo (v32 n) (v32 16777216) = some (v32 (n / 16777216)) := bin_quo_u32 _ _ (by decide)
  repeat' first | with_reducible (first | refine Cw.seq ?_ | refine thenK_normal ?_ | refine Ow.nil ?_) | ((with_reducible refine Cw.region (Ow.run rfl fun k hk => ?_)); simp (disch := (first | omega | (simp only [lenS, lenT, UInt64.reduceToNat] ; try omega))) only [↓vcL_none, ↓vcB_move, ↓ov_some, ↓ev_tmp, ↓getF_0, putF_some, setF_s, setF_0, nf_cons, ↓getF_s, ↓vcB_binOp, ↓ev_const, lit_u32, binX_v32_v32, h1, ↓vcB_convert, Md.next_seq, rd_seq_convert, ↓ib_true, Tryd.cv160_5, conv_int, conv_u32_u8, h2, h3, h4, h5, h6, ↓vcB_buildSlice]; (with_reducible refine hk _ _ _ _ ?_); clear hk k) | with_reducible (first | refine Cw.block ?_ | refine Cw.skip ?_ | refine Cw.exit ?_ | refine Cw.ret ?_ | refine thenK_exit ?_ | refine thenK_ret ?_ | refine blockK_normal ?_ | refine blockK_ret ?_ | refine blockK_exit ?_ | refine blockK_pass rfl ?_) | ((with_reducible refine Cw.condC ?_); first | refine CwC.pt rfl (by omega) ?_ | refine CwC.pf rfl (by omega) ?_ | refine CwC.it rfl (by omega) ?_ | refine CwC.if rfl (by omega) ?_ | refine CwC.nt rfl (by omega) ?_ | refine CwC.nf rfl (by omega) ?_ | refine CwC.tt rfl ?_ | refine CwC.ff rfl ?_ | refine CwC.bt rfl (by assumption) ?_ | (refine CwC.bf rfl ?_ ?_; focus assumption))
  generalize UInt8.ofNat (n % 256).toNat = q0
  generalize UInt8.ofNat (n / 256 % 256).toNat = q1
  generalize UInt8.ofNat (n / 65536 % 256).toNat = q2
  generalize UInt8.ofNat (n / 16777216).toNat = q3
  refine Ow.buildSlice (e := 5) #[v8 q0, v8 q1, v8 q2, v8 q3] rfl rfl (by kernel_rfl) fun b1 hb1 hw1 => ?_
  rw [show (#[v8 q0, v8 q1, v8 q2, v8 q3] : Array Value) = a8 [q0, q1, q2, q3] from rfl]
  have hl4 : [q0, q1, q2, q3].length = 4 := rfl
  have e4 : List.take 4 (List.drop 0 [q0, q1, q2, q3]) = [q0, q1, q2, q3] := rfl
  generalize [q0, q1, q2, q3] = q at *
  refine Ow.run rfl fun k hk => ?_
  simp (disch := (first | omega | (simp only [lenS, lenT, UInt64.reduceToNat] ; try omega))) only [↓vcL_none, ↓vcB_convert, putF_some, setF_s, setF_0, rd_seq_convert, ↓ib_true, List.nil_append, Tryd.cv94_9, ↓ev_tmp, ↓getF_s, ↓getF_0, conv_bytesStr, read_same, text_a8, e4, ↓ov_some, nf_cons, ↓vcB_binOp, binX_vs, bin_add_s, ↓vcB_assign, ↓vcL_nil, Md.next_seq]
  (with_reducible refine hk _ _ _ _ ?_); clear hk k
  repeat' first | with_reducible (first | refine Cw.seq ?_ | refine thenK_normal ?_ | refine Ow.nil ?_) | ((with_reducible refine Cw.region (Ow.run rfl fun k hk => ?_)); simp (disch := (first | omega | (simp only [lenS, lenT, UInt64.reduceToNat] ; try omega))) only []; (with_reducible refine hk _ _ _ _ ?_); clear hk k) | with_reducible (first | refine Cw.block ?_ | refine Cw.skip ?_ | refine Cw.exit ?_ | refine Cw.ret ?_ | refine thenK_exit ?_ | refine thenK_ret ?_ | refine blockK_normal ?_ | refine blockK_ret ?_ | refine blockK_exit ?_ | refine blockK_pass rfl ?_) | ((with_reducible refine Cw.condC ?_); first | refine CwC.pt rfl (by omega) ?_ | refine CwC.pf rfl (by omega) ?_ | refine CwC.it rfl (by omega) ?_ | refine CwC.if rfl (by omega) ?_ | refine CwC.nt rfl (by omega) ?_ | refine CwC.nf rfl (by omega) ?_ | refine CwC.tt rfl ?_ | refine CwC.ff rfl ?_ | refine CwC.bt rfl (by assumption) ?_ | (refine CwC.bf rfl ?_ ?_; focus assumption))
  refine ⟨_, (by simp (disch := (first | omega | (simp only [lenS, lenT, UInt64.reduceToNat] ; try omega))) only [resVs_cons, resV_tmp, ↓getF_s, ↓getF_0, resVs_nil, cons2_some]; rfl), ⟨hw1, trivial⟩, ?_⟩
  rfl
theorem refUnseal_spec (s : List UInt8) (w : World) (hs : s.length < 1099511627776) :
    Rets Tryd.prog 88 #[vs s] w (fun v D => v = .tuple #[vs (unsealV s).1, .bool (unsealV s).2] ∧ D = []) := by
  refine Rets.enterV Tryd.func88 rfl (rs := [.tmp 2, .tmp 3]) Tryd.results88 Tryd.ntmps88 ?_
  simp only [List.size_toArray, List.length_cons, List.length_nil, Nat.reduceAdd, Nat.reduceSub, List.replicate_succ, List.replicate_zero, List.cons_append, List.nil_append]
  repeat' first | with_reducible (first | refine Cw.seq ?_ | refine thenK_normal ?_ | refine Ow.nil ?_) | ((with_reducible refine Cw.region (Ow.run rfl fun k hk => ?_)); simp (disch := (first | omega | (simp only [lenS, lenT, UInt64.reduceToNat] ; try omega))) only [↓vcL_none, ↓vcB_assign, ↓ov_some, ↓ev_const, lit_str, putF_some, setF_s, setF_0, nf_cons, ↓vcL_nil, Md.next_seq]; (with_reducible refine hk _ _ _ _ ?_); clear hk k) | with_reducible (first | refine Cw.block ?_ | refine Cw.skip ?_ | refine Cw.exit ?_ | refine Cw.ret ?_ | refine thenK_exit ?_ | refine thenK_ret ?_ | refine blockK_normal ?_ | refine blockK_ret ?_ | refine blockK_exit ?_ | refine blockK_pass rfl ?_) | ((with_reducible refine Cw.condC ?_); first | refine CwC.pt rfl (by omega) ?_ | refine CwC.pf rfl (by omega) ?_ | refine CwC.it rfl (by omega) ?_ | refine CwC.if rfl (by omega) ?_ | refine CwC.nt rfl (by omega) ?_ | refine CwC.nf rfl (by omega) ?_ | refine CwC.tt rfl ?_ | refine CwC.ff rfl ?_ | refine CwC.bt rfl (by assumption) ?_ | (refine CwC.bf rfl ?_ ?_; focus assumption))
  unfold unsealV
  by_cases h4 : s.length < 4
  · have e1 : decide ((s.length : Int) < 4) = true := decide_eq_true (by omega)
    rw [if_pos h4]
    repeat' first | with_reducible (first | refine Cw.seq ?_ | refine thenK_normal ?_ | refine Ow.nil ?_) | ((with_reducible refine Cw.region (Ow.run rfl fun k hk => ?_)); simp (disch := (first | omega | (simp only [lenS, lenT, UInt64.reduceToNat] ; try omega))) only [↓vcL_none, ↓vcB_move, ↓ov_some, ↓ev_tmp, ↓getF_0, putF_some, setF_s, setF_0, nf_cons, ↓vcB_len, Tryd.ix9, ↓getF_s, len_str, ↓vcB_binOp, ↓ev_const, lit_i64, binX_vi_vi, bin_lss_i, e1, ↓vcL_some, yieldF_lit, ↓nthO_s, ↓nthO_0, yieldL_some, boolOf_b, some_beq, beq_false, Bool.not_true, ↓ib_false, ↓vcB_pick, pick_t, ↓vcL_nil, Md.next_seq, ↓vcB_assign, lit_str]; (with_reducible refine hk _ _ _ _ ?_); clear hk k) | with_reducible (first | refine Cw.block ?_ | refine Cw.skip ?_ | refine Cw.exit ?_ | refine Cw.ret ?_ | refine thenK_exit ?_ | refine thenK_ret ?_ | refine blockK_normal ?_ | refine blockK_ret ?_ | refine blockK_exit ?_ | refine blockK_pass rfl ?_) | ((with_reducible refine Cw.condC ?_); first | refine CwC.pt rfl (by omega) ?_ | refine CwC.pf rfl (by omega) ?_ | refine CwC.it rfl (by omega) ?_ | refine CwC.if rfl (by omega) ?_ | refine CwC.nt rfl (by omega) ?_ | refine CwC.nf rfl (by omega) ?_ | refine CwC.tt rfl ?_ | refine CwC.ff rfl ?_ | refine CwC.bt rfl (by assumption) ?_ | (refine CwC.bf rfl ?_ ?_; focus assumption))
    refine ⟨_, (by simp (disch := (first | omega | (simp only [lenS, lenT, UInt64.reduceToNat] ; try omega))) only [resVs_cons, resV_tmp, ↓getF_s, ↓getF_0, resVs_nil, cons2_some]; rfl), trivial, ?_⟩
    rfl
  · have e1 : decide ((s.length : Int) < 4) = false := decide_eq_false (by omega)
    have e2 : ((s.length : Int) - 4).toNat = s.length - 4 := by omega
    rw [if_neg h4]
    refine Cw.region ?_
    refine Ow.run rfl fun k hk => ?_
    simp (disch := (first | omega | (simp only [lenS, lenT, UInt64.reduceToNat] ; try omega))) only [↓vcL_none, ↓vcB_move, ↓ov_some, ↓ev_tmp, ↓getF_0, putF_some, setF_s, setF_0, nf_cons, ↓vcB_len, Tryd.ix9, ↓getF_s, len_str, ↓vcB_binOp, ↓ev_const, lit_i64, binX_vi_vi, bin_lss_i, e1, ↓vcL_some, yieldF_lit, ↓nthO_s, ↓nthO_0, yieldL_some, boolOf_b, beq_self_eq_true, ↓ib_true, bin_sub_i, ↓vcB_slice, Option.map_none, Option.map_some, ixI_vi, slice_str_hi, e2, ↓vcB_call, Md.next_seq]
    (with_reducible refine hk _ _ _ _ ?_); clear hk k
    refine Ow.callFV rfl Tryd.call75 (fun w' hw' => refSeal_spec (s.take (s.length - 4)) w' (by rw [List.length_take]; omega)) ?_
    refine Ow.run rfl fun k hk => ?_
    simp (disch := (first | omega | (simp only [lenS, lenT, UInt64.reduceToNat] ; try omega))) only [↓vcL_some, lit_i64, putF_some, setF_s, setF_0, yieldF_lit, ↓nthO_s, ↓nthO_0, yieldL_some, ↓getF_s, ↓getF_0, boolOf_b, beq_self_eq_true, ↓ib_true, ↓vcB_move, ↓ov_some, ↓ev_tmp, nf_cons, ↓vcB_binOp, binX_vs, bin_neq_s, ↓vcL_none, ↓vcB_pick, ↓ev_const, pick_f, ↓vcL_nil, Md.next_seq]
    (with_reducible refine hk _ _ _ _ ?_); clear hk k
    cases hq : (sealV (s.take (s.length - 4)) != s)
    · rw [if_pos (by simpa using hq)]
      repeat' first | with_reducible (first | refine Cw.seq ?_ | refine thenK_normal ?_ | refine Ow.nil ?_) | ((with_reducible refine Cw.region (Ow.run rfl fun k hk => ?_)); simp (disch := (first | omega | (simp only [lenS, lenT, UInt64.reduceToNat] ; try omega))) only [↓vcL_none, ↓vcB_move, ↓ov_some, ↓ev_tmp, ↓getF_0, putF_some, setF_s, setF_0, nf_cons, ↓vcB_len, Tryd.ix9, ↓getF_s, len_str, ↓vcB_binOp, ↓ev_const, lit_i64, binX_vi_vi, bin_sub_i, ↓vcB_slice, Option.map_none, Option.map_some, ixI_vi, slice_str_hi, e2, ↓vcB_assign, ↓vcL_nil, Md.next_seq]; (with_reducible refine hk _ _ _ _ ?_); clear hk k) | with_reducible (first | refine Cw.block ?_ | refine Cw.skip ?_ | refine Cw.exit ?_ | refine Cw.ret ?_ | refine thenK_exit ?_ | refine thenK_ret ?_ | refine blockK_normal ?_ | refine blockK_ret ?_ | refine blockK_exit ?_ | refine blockK_pass rfl ?_) | ((with_reducible refine Cw.condC ?_); first | refine CwC.pt rfl (by omega) ?_ | refine CwC.pf rfl (by omega) ?_ | refine CwC.it rfl (by omega) ?_ | refine CwC.if rfl (by omega) ?_ | refine CwC.nt rfl (by omega) ?_ | refine CwC.nf rfl (by omega) ?_ | refine CwC.tt rfl ?_ | refine CwC.ff rfl ?_ | refine CwC.bt rfl (by assumption) ?_ | (refine CwC.bf rfl ?_ ?_; focus assumption))
      refine ⟨_, (by simp (disch := (first | omega | (simp only [lenS, lenT, UInt64.reduceToNat] ; try omega))) only [resVs_cons, resV_tmp, ↓getF_s, ↓getF_0, resVs_nil, cons2_some]; rfl), trivial, ?_⟩
      rfl
    · rw [if_neg (by simpa using hq)]
      repeat' first | with_reducible (first | refine Cw.seq ?_ | refine thenK_normal ?_ | refine Ow.nil ?_) | ((with_reducible refine Cw.region (Ow.run rfl fun k hk => ?_)); simp (disch := (first | omega | (simp only [lenS, lenT, UInt64.reduceToNat] ; try omega))) only [↓vcL_none, ↓vcB_assign, ↓ov_some, ↓ev_const, lit_str, putF_some, setF_s, setF_0, nf_cons, ↓vcL_nil, Md.next_seq]; (with_reducible refine hk _ _ _ _ ?_); clear hk k) | with_reducible (first | refine Cw.block ?_ | refine Cw.skip ?_ | refine Cw.exit ?_ | refine Cw.ret ?_ | refine thenK_exit ?_ | refine thenK_ret ?_ | refine blockK_normal ?_ | refine blockK_ret ?_ | refine blockK_exit ?_ | refine blockK_pass rfl ?_) | ((with_reducible refine Cw.condC ?_); first | refine CwC.pt rfl (by omega) ?_ | refine CwC.pf rfl (by omega) ?_ | refine CwC.it rfl (by omega) ?_ | refine CwC.if rfl (by omega) ?_ | refine CwC.nt rfl (by omega) ?_ | refine CwC.nf rfl (by omega) ?_ | refine CwC.tt rfl ?_ | refine CwC.ff rfl ?_ | refine CwC.bt rfl (by assumption) ?_ | (refine CwC.bf rfl ?_ ?_; focus assumption))
      refine ⟨_, (by simp (disch := (first | omega | (simp only [lenS, lenT, UInt64.reduceToNat] ; try omega))) only [resVs_cons, resV_tmp, ↓getF_s, ↓getF_0, resVs_nil, cons2_some]; rfl), trivial, ?_⟩
      rfl
end Go.Proofs
open Go Go.Proofs Go.Sx
namespace Go.Proofs
set_option maxRecDepth 10000
set_option maxHeartbeats 4000000
set_option linter.unusedSimpArgs false
theorem HasPrefix_spec (s p : List UInt8) (w : World) (hs : s.length < 1099511627776) : Rets Tryd.prog 147 #[vs s, vs p] w (fun v D => v = .bool (decide (p.length ≤ s.length) && (s.take p.length == p)) ∧ D = []) := by
  refine Rets.enterV Tryd.func147 rfl (rs := [.tmp 4]) Tryd.results147 Tryd.ntmps147 ?_
  simp only [List.size_toArray, List.length_cons, List.length_nil, Nat.reduceAdd, Nat.reduceSub, List.replicate_succ, List.replicate_zero, List.cons_append, List.nil_append]
  by_cases h : p.length ≤ s.length
  · have e1 : decide ((p.length : Int) ≤ (s.length : Int)) = true := decide_eq_true (by omega)
    repeat' first | with_reducible (first | refine Cw.seq ?_ | refine thenK_normal ?_ | refine Ow.nil ?_) | ((with_reducible refine Cw.region (Ow.run rfl fun k hk => ?_)); simp (disch := (first | omega | (simp only [lenS, lenT, UInt64.reduceToNat] ; try omega))) only [↓vcL_none, ↓vcB_assign, ↓ov_some, ↓ev_const, putF_some, setF_s, setF_0, nf_cons, ↓vcL_nil, Md.next_seq, ↓vcB_move, ↓ev_tmp, ↓getF_0, ↓vcB_len, Tryd.ix9, ↓getF_s, len_str, ↓vcB_binOp, binX_vi_vi, bin_geq_i, e1, ↓vcL_some, yieldF_lit, ↓nthO_s, ↓nthO_0, yieldL_some, boolOf_b, beq_self_eq_true, ↓ib_true, ↓vcB_slice, Option.map_none, Option.map_some, ixI_vi, slice_str_hi, Int.toNat_natCast, binX_vs, bin_eql_s, ↓vcB_pick, pick_t]; (with_reducible refine hk _ _ _ _ ?_); clear hk k) | with_reducible (first | refine Cw.block ?_ | refine Cw.skip ?_ | refine Cw.exit ?_ | refine Cw.ret ?_ | refine thenK_exit ?_ | refine thenK_ret ?_ | refine blockK_normal ?_ | refine blockK_ret ?_ | refine blockK_exit ?_ | refine blockK_pass rfl ?_) | ((with_reducible refine Cw.condC ?_); first | refine CwC.pt rfl (by omega) ?_ | refine CwC.pf rfl (by omega) ?_ | refine CwC.it rfl (by omega) ?_ | refine CwC.if rfl (by omega) ?_ | refine CwC.nt rfl (by omega) ?_ | refine CwC.nf rfl (by omega) ?_ | refine CwC.tt rfl ?_ | refine CwC.ff rfl ?_ | refine CwC.bt rfl (by assumption) ?_ | (refine CwC.bf rfl ?_ ?_; focus assumption))
    refine ⟨_, (by simp (disch := (first | omega | (simp only [lenS, lenT, UInt64.reduceToNat] ; try omega))) only [resVs_cons, resV_tmp, ↓getF_s, ↓getF_0, resVs_nil, cons2_some]; rfl), trivial, ?_⟩
    simp [tupV, h]
  · have e1 : decide ((p.length : Int) ≤ (s.length : Int)) = false := decide_eq_false (by omega)
    repeat' first | with_reducible (first | refine Cw.seq ?_ | refine thenK_normal ?_ | refine Ow.nil ?_) | ((with_reducible refine Cw.region (Ow.run rfl fun k hk => ?_)); simp (disch := (first | omega | (simp only [lenS, lenT, UInt64.reduceToNat] ; try omega))) only [↓vcL_none, ↓vcB_assign, ↓ov_some, ↓ev_const, putF_some, setF_s, setF_0, nf_cons, ↓vcL_nil, Md.next_seq, ↓vcB_move, ↓ev_tmp, ↓getF_0, ↓vcB_len, Tryd.ix9, ↓getF_s, len_str, ↓vcB_binOp, binX_vi_vi, bin_geq_i, e1, ↓vcL_some, yieldF_lit, ↓nthO_s, ↓nthO_0, yieldL_some, boolOf_b, some_beq, beq_true, ↓ib_false, ↓vcB_pick, pick_f]; (with_reducible refine hk _ _ _ _ ?_); clear hk k) | with_reducible (first | refine Cw.block ?_ | refine Cw.skip ?_ | refine Cw.exit ?_ | refine Cw.ret ?_ | refine thenK_exit ?_ | refine thenK_ret ?_ | refine blockK_normal ?_ | refine blockK_ret ?_ | refine blockK_exit ?_ | refine blockK_pass rfl ?_) | ((with_reducible refine Cw.condC ?_); first | refine CwC.pt rfl (by omega) ?_ | refine CwC.pf rfl (by omega) ?_ | refine CwC.it rfl (by omega) ?_ | refine CwC.if rfl (by omega) ?_ | refine CwC.nt rfl (by omega) ?_ | refine CwC.nf rfl (by omega) ?_ | refine CwC.tt rfl ?_ | refine CwC.ff rfl ?_ | refine CwC.bt rfl (by assumption) ?_ | (refine CwC.bf rfl ?_ ?_; focus assumption))
    refine ⟨_, (by simp (disch := (first | omega | (simp only [lenS, lenT, UInt64.reduceToNat] ; try omega))) only [resVs_cons, resV_tmp, ↓getF_s, ↓getF_0, resVs_nil, cons2_some]; rfl), trivial, ?_⟩
    simp [tupV, h]
/-- A text without its beginning. -/
def cutP (s p : List UInt8) : List UInt8 × Bool := if (decide (p.length ≤ s.length) && (s.take p.length == p)) = true then (s.drop p.length, true) else (s, false)
theorem CutPrefixL_spec (s p : List UInt8) (w : World) (hs : s.length < 1099511627776) : Rets Tryd.prog 121 #[vs s, vs p] w (fun v D => v = .tuple #[vs (cutP s p).1, .bool (cutP s p).2] ∧ D = []) := by
  refine Rets.enterV Tryd.func121 rfl (rs := [.tmp 4, .tmp 5]) Tryd.results121 Tryd.ntmps121 ?_
  simp only [List.size_toArray, List.length_cons, List.length_nil, Nat.reduceAdd, Nat.reduceSub, List.replicate_succ, List.replicate_zero, List.cons_append, List.nil_append]
  repeat' first | with_reducible (first | refine Cw.seq ?_ | refine thenK_normal ?_ | refine Ow.nil ?_) | ((with_reducible refine Cw.region (Ow.run rfl fun k hk => ?_)); simp (disch := (first | omega | (simp only [lenS, lenT, UInt64.reduceToNat] ; try omega))) only [↓vcL_none, ↓vcB_assign, ↓ov_some, ↓ev_const, lit_str, putF_some, setF_s, setF_0, nf_cons, ↓vcL_nil, Md.next_seq, ↓vcB_move, ↓ev_tmp, ↓getF_0, ↓getF_s, ↓vcB_call]; (with_reducible refine hk _ _ _ _ ?_); clear hk k) | with_reducible (first | refine Cw.block ?_ | refine Cw.skip ?_ | refine Cw.exit ?_ | refine Cw.ret ?_ | refine thenK_exit ?_ | refine thenK_ret ?_ | refine blockK_normal ?_ | refine blockK_ret ?_ | refine blockK_exit ?_ | refine blockK_pass rfl ?_) | ((with_reducible refine Cw.condC ?_); first | refine CwC.pt rfl (by omega) ?_ | refine CwC.pf rfl (by omega) ?_ | refine CwC.it rfl (by omega) ?_ | refine CwC.if rfl (by omega) ?_ | refine CwC.nt rfl (by omega) ?_ | refine CwC.nf rfl (by omega) ?_ | refine CwC.tt rfl ?_ | refine CwC.ff rfl ?_ | refine CwC.bt rfl (by assumption) ?_ | (refine CwC.bf rfl ?_ ?_; focus assumption))
  refine Ow.callFV rfl Tryd.call147 (fun w' hw' => HasPrefix_spec s p w' hs) ?_
  refine Ow.run rfl fun k hk => ?_
  simp (disch := (first | omega | (simp only [lenS, lenT, UInt64.reduceToNat] ; try omega))) only [↓vcL_none, ↓vcB_unOp, ↓ev_tmp, putF_some, setF_s, setF_0, ↓getF_s, ↓getF_0, un_not, ↓ov_some, nf_cons, ↓vcL_nil, Md.next_seq]
  (with_reducible refine hk _ _ _ _ ?_); clear hk k
  unfold cutP
  cases h : (decide (p.length ≤ s.length) && (s.take p.length == p))
  · repeat' first | with_reducible (first | refine Cw.seq ?_ | refine thenK_normal ?_ | refine Ow.nil ?_) | ((with_reducible refine Cw.region (Ow.run rfl fun k hk => ?_)); simp (disch := (first | omega | (simp only [lenS, lenT, UInt64.reduceToNat] ; try omega))) only [↓vcL_none, ↓vcB_move, ↓ov_some, Bool.not_false, ↓ev_tmp, ↓getF_0, putF_some, setF_s, setF_0, nf_cons, ↓vcB_assign, ↓getF_s, ↓ev_const, ↓vcL_nil, Md.next_seq]; (with_reducible refine hk _ _ _ _ ?_); clear hk k) | with_reducible (first | refine Cw.block ?_ | refine Cw.skip ?_ | refine Cw.exit ?_ | refine Cw.ret ?_ | refine thenK_exit ?_ | refine thenK_ret ?_ | refine blockK_normal ?_ | refine blockK_ret ?_ | refine blockK_exit ?_ | refine blockK_pass rfl ?_) | ((with_reducible refine Cw.condC ?_); first | refine CwC.pt rfl (by omega) ?_ | refine CwC.pf rfl (by omega) ?_ | refine CwC.it rfl (by omega) ?_ | refine CwC.if rfl (by omega) ?_ | refine CwC.nt rfl (by omega) ?_ | refine CwC.nf rfl (by omega) ?_ | refine CwC.tt rfl ?_ | refine CwC.ff rfl ?_ | refine CwC.bt rfl (by assumption) ?_ | (refine CwC.bf rfl ?_ ?_; focus assumption))
    refine ⟨_, (by simp (disch := (first | omega | (simp only [lenS, lenT, UInt64.reduceToNat] ; try omega))) only [resVs_cons, resV_tmp, ↓getF_s, ↓getF_0, resVs_nil, cons2_some]; rfl), trivial, ?_⟩
    rfl
  · have hle : p.length ≤ s.length := by
      rw [Bool.and_eq_true, decide_eq_true_eq] at h; exact h.1
    repeat' first | with_reducible (first | refine Cw.seq ?_ | refine thenK_normal ?_ | refine Ow.nil ?_) | ((with_reducible refine Cw.region (Ow.run rfl fun k hk => ?_)); simp (disch := (first | omega | (simp only [lenS, lenT, UInt64.reduceToNat] ; try omega))) only [↓vcL_none, ↓vcB_move, ↓ov_some, Bool.not_true, ↓ev_tmp, ↓getF_0, putF_some, setF_s, setF_0, nf_cons, ↓getF_s, ↓vcB_len, Tryd.ix9, len_str, ↓vcB_slice, Option.map_some, ixI_vi, Option.map_none, slice_str_lo, Int.toNat_natCast, ↓vcB_assign, ↓ev_const, ↓vcL_nil, Md.next_seq]; (with_reducible refine hk _ _ _ _ ?_); clear hk k) | with_reducible (first | refine Cw.block ?_ | refine Cw.skip ?_ | refine Cw.exit ?_ | refine Cw.ret ?_ | refine thenK_exit ?_ | refine thenK_ret ?_ | refine blockK_normal ?_ | refine blockK_ret ?_ | refine blockK_exit ?_ | refine blockK_pass rfl ?_) | ((with_reducible refine Cw.condC ?_); first | refine CwC.pt rfl (by omega) ?_ | refine CwC.pf rfl (by omega) ?_ | refine CwC.it rfl (by omega) ?_ | refine CwC.if rfl (by omega) ?_ | refine CwC.nt rfl (by omega) ?_ | refine CwC.nf rfl (by omega) ?_ | refine CwC.tt rfl ?_ | refine CwC.ff rfl ?_ | refine CwC.bt rfl (by assumption) ?_ | (refine CwC.bf rfl ?_ ?_; focus assumption))
    refine ⟨_, (by simp (disch := (first | omega | (simp only [lenS, lenT, UInt64.reduceToNat] ; try omega))) only [resVs_cons, resV_tmp, ↓getF_s, ↓getF_0, resVs_nil, cons2_some]; rfl), trivial, ?_⟩
    rfl
theorem CutPrefix_spec (s p : List UInt8) (w : World) (hs : s.length < 1099511627776) : Rets Tryd.prog 84 #[vs s, vs p] w (fun v D => v = .tuple #[vs (cutP s p).1, .bool (cutP s p).2] ∧ D = []) := by
  refine Rets.enterV Tryd.func84 rfl (rs := [.tmp 4, .tmp 5]) Tryd.results84 Tryd.ntmps84 ?_
  simp only [List.size_toArray, List.length_cons, List.length_nil, Nat.reduceAdd, Nat.reduceSub, List.replicate_succ, List.replicate_zero, List.cons_append, List.nil_append]
  repeat' first | with_reducible (first | refine Cw.seq ?_ | refine thenK_normal ?_ | refine Ow.nil ?_) | ((with_reducible refine Cw.region (Ow.run rfl fun k hk => ?_)); simp (disch := (first | omega | (simp only [lenS, lenT, UInt64.reduceToNat] ; try omega))) only [↓vcL_none, ↓vcB_assign, ↓ov_some, ↓ev_const, lit_str, putF_some, setF_s, setF_0, nf_cons, ↓vcL_nil, Md.next_seq, ↓vcB_move, ↓ev_tmp, ↓getF_0, ↓getF_s, ↓vcB_call]; (with_reducible refine hk _ _ _ _ ?_); clear hk k) | with_reducible (first | refine Cw.block ?_ | refine Cw.skip ?_ | refine Cw.exit ?_ | refine Cw.ret ?_ | refine thenK_exit ?_ | refine thenK_ret ?_ | refine blockK_normal ?_ | refine blockK_ret ?_ | refine blockK_exit ?_ | refine blockK_pass rfl ?_) | ((with_reducible refine Cw.condC ?_); first | refine CwC.pt rfl (by omega) ?_ | refine CwC.pf rfl (by omega) ?_ | refine CwC.it rfl (by omega) ?_ | refine CwC.if rfl (by omega) ?_ | refine CwC.nt rfl (by omega) ?_ | refine CwC.nf rfl (by omega) ?_ | refine CwC.tt rfl ?_ | refine CwC.ff rfl ?_ | refine CwC.bt rfl (by assumption) ?_ | (refine CwC.bf rfl ?_ ?_; focus assumption))
  refine Ow.callFV rfl Tryd.call121 (fun w' hw' => CutPrefixL_spec s p w' hs) ?_
  refine Ow.run rfl fun k hk => ?_
  simp (disch := (first | omega | (simp only [lenS, lenT, UInt64.reduceToNat] ; try omega))) only [↓vcL_none, ↓vcB_extract, ↓ev_tmp, putF_some, setF_s, setF_0, ↓getF_s, ↓getF_0, extract_t, tup2_0, ↓ov_some, nf_cons, tup2_1, ↓vcB_assign, ↓vcL_nil, Md.next_seq]
  (with_reducible refine hk _ _ _ _ ?_); clear hk k
  repeat' first | with_reducible (first | refine Cw.seq ?_ | refine thenK_normal ?_ | refine Ow.nil ?_) | ((with_reducible refine Cw.region (Ow.run rfl fun k hk => ?_)); simp (disch := (first | omega | (simp only [lenS, lenT, UInt64.reduceToNat] ; try omega))) only []; (with_reducible refine hk _ _ _ _ ?_); clear hk k) | with_reducible (first | refine Cw.block ?_ | refine Cw.skip ?_ | refine Cw.exit ?_ | refine Cw.ret ?_ | refine thenK_exit ?_ | refine thenK_ret ?_ | refine blockK_normal ?_ | refine blockK_ret ?_ | refine blockK_exit ?_ | refine blockK_pass rfl ?_) | ((with_reducible refine Cw.condC ?_); first | refine CwC.pt rfl (by omega) ?_ | refine CwC.pf rfl (by omega) ?_ | refine CwC.it rfl (by omega) ?_ | refine CwC.if rfl (by omega) ?_ | refine CwC.nt rfl (by omega) ?_ | refine CwC.nf rfl (by omega) ?_ | refine CwC.tt rfl ?_ | refine CwC.ff rfl ?_ | refine CwC.bt rfl (by assumption) ?_ | (refine CwC.bf rfl ?_ ?_; focus assumption))
  refine ⟨_, (by simp (disch := (first | omega | (simp only [lenS, lenT, UInt64.reduceToNat] ; try omega))) only [resVs_cons, resV_tmp, ↓getF_s, ↓getF_0, resVs_nil, cons2_some]; rfl), trivial, ?_⟩
  rfl
/-! ### Names -/
def badR (c : Int) : Bool := decide (c < 33) || decide (126 < c) || (c == 47)
def badB (b : UInt8) : Bool := decide (b.toNat < 33) || decide (126 < b.toNat) || (b.toNat == 47)
theorem eqb (a b : Bool) : binX Tryd.prog .eql 4 (.bool a) (.bool b) = some (.bool (a == b)) := by
  simp [binX, eqX, plainV, eqNilV, Tryd.underlying4]
theorem tup1_0 (a : Value) : (#[a] : Array Value)[0]? = some a := (rfl)
theorem isNameC_spec (c : Int) (w : World) : Rets Tryd.prog 94 #[v32i c] w (fun v D => v = .bool (badR c) ∧ D = []) := by
  refine Rets.enterV Tryd.func94 rfl (rs := [.tmp 2]) Tryd.results94 Tryd.ntmps94 ?_
  simp only [List.size_toArray, List.length_cons, List.length_nil, Nat.reduceAdd, Nat.reduceSub, List.replicate_succ, List.replicate_zero, List.cons_append, List.nil_append]
  unfold badR
  cases h1 : decide (c < 33)
  · cases h2 : decide (126 < c)
    · repeat' first | with_reducible (first | refine Cw.seq ?_ | refine thenK_normal ?_ | refine Ow.nil ?_) | ((with_reducible refine Cw.region (Ow.run rfl fun k hk => ?_)); simp (disch := (first | omega | (simp only [lenS, lenT, UInt64.reduceToNat] ; try omega))) only [↓vcL_none, ↓vcB_assign, ↓ov_some, ↓ev_const, putF_some, setF_s, setF_0, nf_cons, ↓vcL_nil, Md.next_seq, ↓vcB_move, ↓ev_tmp, ↓getF_0, ↓vcB_binOp, ↓getF_s, lit_i32, binX_i32, bin_lss_i32, h1, ↓vcL_some, yieldF_lit, ↓nthO_s, ↓nthO_0, yieldL_some, boolOf_b, beq_self_eq_true, ↓ib_true, bin_gtr_i32, h2, ↓vcB_pick, pick_f, bin_eql_i32]; (with_reducible refine hk _ _ _ _ ?_); clear hk k) | with_reducible (first | refine Cw.block ?_ | refine Cw.skip ?_ | refine Cw.exit ?_ | refine Cw.ret ?_ | refine thenK_exit ?_ | refine thenK_ret ?_ | refine blockK_normal ?_ | refine blockK_ret ?_ | refine blockK_exit ?_ | refine blockK_pass rfl ?_) | ((with_reducible refine Cw.condC ?_); first | refine CwC.pt rfl (by omega) ?_ | refine CwC.pf rfl (by omega) ?_ | refine CwC.it rfl (by omega) ?_ | refine CwC.if rfl (by omega) ?_ | refine CwC.nt rfl (by omega) ?_ | refine CwC.nf rfl (by omega) ?_ | refine CwC.tt rfl ?_ | refine CwC.ff rfl ?_ | refine CwC.bt rfl (by assumption) ?_ | (refine CwC.bf rfl ?_ ?_; focus assumption))
      refine ⟨_, (by simp (disch := (first | omega | (simp only [lenS, lenT, UInt64.reduceToNat] ; try omega))) only [resVs_cons, resV_tmp, ↓getF_s, ↓getF_0, resVs_nil, cons2_some]; rfl), trivial, ?_⟩
      simp [tupV]
    · repeat' first | with_reducible (first | refine Cw.seq ?_ | refine thenK_normal ?_ | refine Ow.nil ?_) | ((with_reducible refine Cw.region (Ow.run rfl fun k hk => ?_)); simp (disch := (first | omega | (simp only [lenS, lenT, UInt64.reduceToNat] ; try omega))) only [↓vcL_none, ↓vcB_assign, ↓ov_some, ↓ev_const, putF_some, setF_s, setF_0, nf_cons, ↓vcL_nil, Md.next_seq, ↓vcB_move, ↓ev_tmp, ↓getF_0, ↓vcB_binOp, ↓getF_s, lit_i32, binX_i32, bin_lss_i32, h1, ↓vcL_some, yieldF_lit, ↓nthO_s, ↓nthO_0, yieldL_some, boolOf_b, beq_self_eq_true, ↓ib_true, bin_gtr_i32, h2, ↓vcB_pick, pick_f, some_beq, beq_false, Bool.not_true, ↓ib_false, pick_t]; (with_reducible refine hk _ _ _ _ ?_); clear hk k) | with_reducible (first | refine Cw.block ?_ | refine Cw.skip ?_ | refine Cw.exit ?_ | refine Cw.ret ?_ | refine thenK_exit ?_ | refine thenK_ret ?_ | refine blockK_normal ?_ | refine blockK_ret ?_ | refine blockK_exit ?_ | refine blockK_pass rfl ?_) | ((with_reducible refine Cw.condC ?_); first | refine CwC.pt rfl (by omega) ?_ | refine CwC.pf rfl (by omega) ?_ | refine CwC.it rfl (by omega) ?_ | refine CwC.if rfl (by omega) ?_ | refine CwC.nt rfl (by omega) ?_ | refine CwC.nf rfl (by omega) ?_ | refine CwC.tt rfl ?_ | refine CwC.ff rfl ?_ | refine CwC.bt rfl (by assumption) ?_ | (refine CwC.bf rfl ?_ ?_; focus assumption))
      refine ⟨_, (by simp (disch := (first | omega | (simp only [lenS, lenT, UInt64.reduceToNat] ; try omega))) only [resVs_cons, resV_tmp, ↓getF_s, ↓getF_0, resVs_nil, cons2_some]; rfl), trivial, ?_⟩
      simp [tupV]
  · repeat' first | with_reducible (first | refine Cw.seq ?_ | refine thenK_normal ?_ | refine Ow.nil ?_) | ((with_reducible refine Cw.region (Ow.run rfl fun k hk => ?_)); simp (disch := (first | omega | (simp only [lenS, lenT, UInt64.reduceToNat] ; try omega))) only [↓vcL_none, ↓vcB_assign, ↓ov_some, ↓ev_const, putF_some, setF_s, setF_0, nf_cons, ↓vcL_nil, Md.next_seq, ↓vcB_move, ↓ev_tmp, ↓getF_0, ↓vcB_binOp, ↓getF_s, lit_i32, binX_i32, bin_lss_i32, h1, ↓vcL_some, yieldF_lit, ↓nthO_s, ↓nthO_0, yieldL_some, boolOf_b, some_beq, beq_false, Bool.not_true, ↓ib_false, ↓vcB_pick, pick_t]; (with_reducible refine hk _ _ _ _ ?_); clear hk k) | with_reducible (first | refine Cw.block ?_ | refine Cw.skip ?_ | refine Cw.exit ?_ | refine Cw.ret ?_ | refine thenK_exit ?_ | refine thenK_ret ?_ | refine blockK_normal ?_ | refine blockK_ret ?_ | refine blockK_exit ?_ | refine blockK_pass rfl ?_) | ((with_reducible refine Cw.condC ?_); first | refine CwC.pt rfl (by omega) ?_ | refine CwC.pf rfl (by omega) ?_ | refine CwC.it rfl (by omega) ?_ | refine CwC.if rfl (by omega) ?_ | refine CwC.nt rfl (by omega) ?_ | refine CwC.nf rfl (by omega) ?_ | refine CwC.tt rfl ?_ | refine CwC.ff rfl ?_ | refine CwC.bt rfl (by assumption) ?_ | (refine CwC.bf rfl ?_ ?_; focus assumption))
    refine ⟨_, (by simp (disch := (first | omega | (simp only [lenS, lenT, UInt64.reduceToNat] ; try omega))) only [resVs_cons, resV_tmp, ↓getF_s, ↓getF_0, resVs_nil, cons2_some]; rfl), trivial, ?_⟩
    simp [tupV]
theorem bad_rune (l : List UInt8) (i : Nat) (h : i < l.length) : badR ((Utf8.decode ⟨l.toArray⟩ i).1 : Nat) = badB (l.getD i 0) ∧ (badB (l.getD i 0) = false → (Utf8.decode ⟨l.toArray⟩ i).2 = 1) := by
  obtain ⟨h0, h1, h2⟩ := decode_rune l i h
  by_cases hc : (l.getD i 0).toNat < 128
  · rw [h1 hc]
    refine ⟨?_, fun _ => rfl⟩
    unfold badR badB
    congr 1
    · congr 1
      · apply decide_eq_decide.2; omega
      · apply decide_eq_decide.2; omega
    · rw [Bool.eq_iff_iff, beq_iff_eq, beq_iff_eq]; omega
  · have h2' := h2 (by omega)
    have hb : badB (l.getD i 0) = true := by
      unfold badB
      rw [decide_eq_true (show 126 < (l.getD i 0).toNat by omega)]; simp
    rw [hb]
    refine ⟨?_, fun h => by cases h⟩
    unfold badR
    rw [decide_eq_true (show (126 : Int) < (((Utf8.decode ⟨l.toArray⟩ i).1 : Nat) : Int) by omega)]; simp
theorem indexFunc_spec (s : List UInt8) (k : FuncId) (hk : ∀ a w, (callFunc k a).run Tryd.prog w = .ok (.enter k a) w) (hc : ∀ c w, Rets Tryd.prog k #[v32i c] w (fun v D => v = .bool (badR c) ∧ D = [])) (w : World) (hs : s.length < 1099511627776) :
    Rets Tryd.prog 150 #[vs s, .func (.func k) #[] #[], .bool true] w (fun v D => ∃ n : Int, v = vi n ∧ (0 ≤ n ↔ s.any badB = true) ∧ D = []) := by
  refine Rets.mono (S := fun v D => (∃ n : Int, v = vi n ∧ (0 ≤ n ↔ s.any badB = true)) ∧ D = []) ?_ (by rintro v D ⟨⟨n, h1, h2⟩, h3⟩; exact ⟨n, h1, h2, h3⟩)
  refine Rets.enterV Tryd.func150 rfl (rs := [.tmp 6]) Tryd.results150 Tryd.ntmps150 ?_
  simp only [List.size_toArray, List.length_cons, List.length_nil, Nat.reduceAdd, Nat.reduceSub, List.replicate_succ, List.replicate_zero, List.cons_append, List.nil_append]
  repeat' first | with_reducible (first | refine Cw.seq ?_ | refine thenK_normal ?_ | refine Ow.nil ?_) | ((with_reducible refine Cw.region (Ow.run rfl fun k hk => ?_)); simp (disch := (first | omega | (simp only [lenS, lenT, UInt64.reduceToNat] ; try omega))) only [↓vcL_none, ↓vcB_assign, ↓ov_some, ↓ev_const, lit_i64, putF_some, setF_s, setF_0, nf_cons, ↓vcL_nil, Md.next_seq, ↓vcB_move, ↓ev_tmp, ↓getF_0, ↓vcB_range]; (with_reducible refine hk _ _ _ _ ?_); clear hk k) | with_reducible (first | refine Cw.block ?_ | refine Cw.skip ?_ | refine Cw.exit ?_ | refine Cw.ret ?_ | refine thenK_exit ?_ | refine thenK_ret ?_ | refine blockK_normal ?_ | refine blockK_ret ?_ | refine blockK_exit ?_ | refine blockK_pass rfl ?_) | ((with_reducible refine Cw.condC ?_); first | refine CwC.pt rfl (by omega) ?_ | refine CwC.pf rfl (by omega) ?_ | refine CwC.it rfl (by omega) ?_ | refine CwC.if rfl (by omega) ?_ | refine CwC.nt rfl (by omega) ?_ | refine CwC.nf rfl (by omega) ?_ | refine CwC.tt rfl ?_ | refine CwC.ff rfl ?_ | refine CwC.bt rfl (by assumption) ?_ | (refine CwC.bf rfl ?_ ?_; focus assumption))
  refine Ow.rangeText rfl rfl Tryd.underlying9 rfl fun b1 hb1 hw1 => ?_
  refine Ow.run rfl fun k hk => ?_
  simp (disch := (first | omega | (simp only [lenS, lenT, UInt64.reduceToNat] ; try omega))) only [↓vcL_nil, putF_some, setF_s, setF_0, List.nil_append]
  (with_reducible refine hk _ _ _ _ ?_); clear hk k
  repeat' first | with_reducible (first | refine Cw.seq ?_ | refine thenK_normal ?_ | refine Ow.nil ?_) | ((with_reducible refine Cw.region (Ow.run rfl fun k hk => ?_)); simp (disch := (first | omega | (simp only [lenS, lenT, UInt64.reduceToNat] ; try omega))) only []; (with_reducible refine hk _ _ _ _ ?_); clear hk k) | with_reducible (first | refine Cw.block ?_ | refine Cw.skip ?_ | refine Cw.exit ?_ | refine Cw.ret ?_ | refine thenK_exit ?_ | refine thenK_ret ?_ | refine blockK_normal ?_ | refine blockK_ret ?_ | refine blockK_exit ?_ | refine blockK_pass rfl ?_) | ((with_reducible refine Cw.condC ?_); first | refine CwC.pt rfl (by omega) ?_ | refine CwC.pf rfl (by omega) ?_ | refine CwC.it rfl (by omega) ?_ | refine CwC.if rfl (by omega) ?_ | refine CwC.nt rfl (by omega) ?_ | refine CwC.nf rfl (by omega) ?_ | refine CwC.tt rfl ?_ | refine CwC.ff rfl ?_ | refine CwC.bt rfl (by assumption) ?_ | (refine CwC.bf rfl ?_ ?_; focus assumption))
  refine Cw.loopG (G := Nat) [11, 12, 13, 14, 7, 8, 15, 16, 17, 18, 19, 20, 6] (fun g => []) (fun g => [(b1, .stringIter ⟨s.toArray⟩ g)]) (fun g => g ≤ s.length ∧ ∀ i, i < g → badB (s.getD i 0) = false) (fun g => s.length - g) 0 rfl rfl ?_ ?_
  · exact ⟨by omega, fun i hi => by omega⟩
  intro g j hg
  simp only [overFrom, pin, setF_0, setF_s, List.contains_cons, List.contains_nil, Nat.reduceBEq, Bool.or_false, Bool.false_or, Bool.or_true, Bool.true_or, Nat.reduceAdd, ↓reduceIte, Bool.false_eq_true]
  obtain ⟨hgL, hgood⟩ := hg
  by_cases hlt : g < s.length
  · have hbr := bad_rune s g hlt
    repeat' first | with_reducible (first | refine Cw.seq ?_ | refine thenK_normal ?_ | refine Ow.nil ?_) | ((with_reducible refine Cw.region (Ow.run rfl fun k hk => ?_)); simp (disch := (first | omega | (simp only [lenS, lenT, UInt64.reduceToNat] ; try omega))) only [↓vcL_none, ↓vcB_next]; (with_reducible refine hk _ _ _ _ ?_); clear hk k) | with_reducible (first | refine Cw.block ?_ | refine Cw.skip ?_ | refine Cw.exit ?_ | refine Cw.ret ?_ | refine thenK_exit ?_ | refine thenK_ret ?_ | refine blockK_normal ?_ | refine blockK_ret ?_ | refine blockK_exit ?_ | refine blockK_pass rfl ?_) | ((with_reducible refine Cw.condC ?_); first | refine CwC.pt rfl (by omega) ?_ | refine CwC.pf rfl (by omega) ?_ | refine CwC.it rfl (by omega) ?_ | refine CwC.if rfl (by omega) ?_ | refine CwC.nt rfl (by omega) ?_ | refine CwC.nf rfl (by omega) ?_ | refine CwC.tt rfl ?_ | refine CwC.ff rfl ?_ | refine CwC.bt rfl (by assumption) ?_ | (refine CwC.bf rfl ?_ ?_; focus assumption))
    refine Ow.nextText rfl rfl rfl (look_same _ _ _) hlt ?_
    rw [setB_same]
    generalize hdd : Utf8.decode ⟨s.toArray⟩ g = dd at *
    obtain ⟨c, n⟩ := dd
    simp only at hbr ⊢
    refine Ow.run rfl fun k hk => ?_
    simp (disch := (first | omega | (simp only [lenS, lenT, UInt64.reduceToNat] ; try omega))) only [↓vcL_none, ↓vcB_extract, ↓ev_tmp, putF_some, setF_s, setF_0, ↓getF_s, ↓getF_0, extract_t, tup3_0, ↓ov_some, nf_cons, ↓vcL_nil, Md.next_seq]
    (with_reducible refine hk _ _ _ _ ?_); clear hk k
    repeat' first | with_reducible (first | refine Cw.seq ?_ | refine thenK_normal ?_ | refine Ow.nil ?_) | ((with_reducible refine Cw.region (Ow.run rfl fun k hk => ?_)); simp (disch := (first | omega | (simp only [lenS, lenT, UInt64.reduceToNat] ; try omega))) only [↓vcL_none, ↓vcB_extract, ↓ev_tmp, ↓getF_s, ↓getF_0, extract_t, tup3_1, ↓ov_some, putF_some, setF_s, setF_0, nf_cons, tup3_2, ↓vcB_assign, ↓vcL_nil, Md.next_seq, ↓vcB_move, ↓vcB_call]; (with_reducible refine hk _ _ _ _ ?_); clear hk k) | with_reducible (first | refine Cw.block ?_ | refine Cw.skip ?_ | refine Cw.exit ?_ | refine Cw.ret ?_ | refine thenK_exit ?_ | refine thenK_ret ?_ | refine blockK_normal ?_ | refine blockK_ret ?_ | refine blockK_exit ?_ | refine blockK_pass rfl ?_) | ((with_reducible refine Cw.condC ?_); first | refine CwC.pt rfl (by omega) ?_ | refine CwC.pf rfl (by omega) ?_ | refine CwC.it rfl (by omega) ?_ | refine CwC.if rfl (by omega) ?_ | refine CwC.nt rfl (by omega) ?_ | refine CwC.nf rfl (by omega) ?_ | refine CwC.tt rfl ?_ | refine CwC.ff rfl ?_ | refine CwC.bt rfl (by assumption) ?_ | (refine CwC.bf rfl ?_ ?_; focus assumption))
    refine Ow.callFn1 (v := .bool (badR c)) (k := k) rfl rfl rfl hk (fun w' hw' => hc _ w') ?_
    rw [hbr.1]
    refine Ow.run rfl fun k hk => ?_
    simp (disch := (first | omega | (simp only [lenS, lenT, UInt64.reduceToNat] ; try omega))) only [↓vcL_none, ↓vcB_move, ↓ov_some, putF_some, setF_s, setF_0, ↓ev_tmp, ↓getF_s, ↓getF_0, nf_cons, ↓vcB_binOp, eqb, beq_true, ↓vcL_nil, Md.next_seq]
    (with_reducible refine hk _ _ _ _ ?_); clear hk k
    cases hbb : badB (s.getD g 0)
    · repeat' first | with_reducible (first | refine Cw.seq ?_ | refine thenK_normal ?_ | refine Ow.nil ?_) | ((with_reducible refine Cw.region (Ow.run rfl fun k hk => ?_)); simp (disch := (first | omega | (simp only [lenS, lenT, UInt64.reduceToNat] ; try omega))) only []; (with_reducible refine hk _ _ _ _ ?_); clear hk k) | with_reducible (first | refine Cw.block ?_ | refine Cw.skip ?_ | refine Cw.exit ?_ | refine Cw.ret ?_ | refine thenK_exit ?_ | refine thenK_ret ?_ | refine blockK_normal ?_ | refine blockK_ret ?_ | refine blockK_exit ?_ | refine blockK_pass rfl ?_) | ((with_reducible refine Cw.condC ?_); first | refine CwC.pt rfl (by omega) ?_ | refine CwC.pf rfl (by omega) ?_ | refine CwC.it rfl (by omega) ?_ | refine CwC.if rfl (by omega) ?_ | refine CwC.nt rfl (by omega) ?_ | refine CwC.nf rfl (by omega) ?_ | refine CwC.tt rfl ?_ | refine CwC.ff rfl ?_ | refine CwC.bt rfl (by assumption) ?_ | (refine CwC.bf rfl ?_ ?_; focus assumption))
      refine Again.mk (g + 1) (by omega) ⟨by omega, fun i hi => ?_⟩ ?_ rfl
      · by_cases hig : i = g
        · rw [hig]; exact hbb
        · exact hgood i (by omega)
      · rw [hbr.2 hbb]
    · repeat' first | with_reducible (first | refine Cw.seq ?_ | refine thenK_normal ?_ | refine Ow.nil ?_) | ((with_reducible refine Cw.region (Ow.run rfl fun k hk => ?_)); simp (disch := (first | omega | (simp only [lenS, lenT, UInt64.reduceToNat] ; try omega))) only [↓vcL_none, ↓vcB_move, ↓ov_some, ↓ev_tmp, ↓getF_s, ↓getF_0, putF_some, setF_s, setF_0, nf_cons, ↓vcB_assign, ↓vcL_nil, Md.next_seq]; (with_reducible refine hk _ _ _ _ ?_); clear hk k) | with_reducible (first | refine Cw.block ?_ | refine Cw.skip ?_ | refine Cw.exit ?_ | refine Cw.ret ?_ | refine thenK_exit ?_ | refine thenK_ret ?_ | refine blockK_normal ?_ | refine blockK_ret ?_ | refine blockK_exit ?_ | refine blockK_pass rfl ?_) | ((with_reducible refine Cw.condC ?_); first | refine CwC.pt rfl (by omega) ?_ | refine CwC.pf rfl (by omega) ?_ | refine CwC.it rfl (by omega) ?_ | refine CwC.if rfl (by omega) ?_ | refine CwC.nt rfl (by omega) ?_ | refine CwC.nf rfl (by omega) ?_ | refine CwC.tt rfl ?_ | refine CwC.ff rfl ?_ | refine CwC.bt rfl (by assumption) ?_ | (refine CwC.bf rfl ?_ ?_; focus assumption))
      refine ⟨_, (by simp (disch := (first | omega | (simp only [lenS, lenT, UInt64.reduceToNat] ; try omega))) only [resVs_cons, resV_tmp, ↓getF_s, ↓getF_0, resVs_nil, cons2_some]; rfl), ⟨hw1, trivial⟩, ?_⟩
      refine ⟨(g : Int), rfl, ⟨fun _ => ?_, fun _ => by omega⟩⟩
      rw [List.any_eq_true]
      refine ⟨s.getD g 0, ?_, hbb⟩
      rw [List.getD_eq_getElem?_getD, List.getElem?_eq_getElem hlt]
      exact List.getElem_mem hlt
  · obtain rfl : g = s.length := by omega
    repeat' first | with_reducible (first | refine Cw.seq ?_ | refine thenK_normal ?_ | refine Ow.nil ?_) | ((with_reducible refine Cw.region (Ow.run rfl fun k hk => ?_)); simp (disch := (first | omega | (simp only [lenS, lenT, UInt64.reduceToNat] ; try omega))) only [↓vcL_none, ↓vcB_next]; (with_reducible refine hk _ _ _ _ ?_); clear hk k) | with_reducible (first | refine Cw.block ?_ | refine Cw.skip ?_ | refine Cw.exit ?_ | refine Cw.ret ?_ | refine thenK_exit ?_ | refine thenK_ret ?_ | refine blockK_normal ?_ | refine blockK_ret ?_ | refine blockK_exit ?_ | refine blockK_pass rfl ?_) | ((with_reducible refine Cw.condC ?_); first | refine CwC.pt rfl (by omega) ?_ | refine CwC.pf rfl (by omega) ?_ | refine CwC.it rfl (by omega) ?_ | refine CwC.if rfl (by omega) ?_ | refine CwC.nt rfl (by omega) ?_ | refine CwC.nf rfl (by omega) ?_ | refine CwC.tt rfl ?_ | refine CwC.ff rfl ?_ | refine CwC.bt rfl (by assumption) ?_ | (refine CwC.bf rfl ?_ ?_; focus assumption))
    refine Ow.nextOver rfl rfl rfl (look_same _ _ _) hlt ?_
    refine Ow.run rfl fun k hk => ?_
    simp (disch := (first | omega | (simp only [lenS, lenT, UInt64.reduceToNat] ; try omega))) only [↓vcL_none, ↓vcB_extract, ↓ev_tmp, putF_some, setF_s, setF_0, ↓getF_s, ↓getF_0, extract_t, tup1_0, ↓ov_some, nf_cons, ↓vcL_nil, Md.next_seq]
    (with_reducible refine hk _ _ _ _ ?_); clear hk k
    repeat' first | with_reducible (first | refine Cw.seq ?_ | refine thenK_normal ?_ | refine Ow.nil ?_) | ((with_reducible refine Cw.region (Ow.run rfl fun k hk => ?_)); simp (disch := (first | omega | (simp only [lenS, lenT, UInt64.reduceToNat] ; try omega))) only [↓vcL_none, ↓vcB_assign, ↓ov_some, ↓ev_const, lit_i64, putF_some, setF_s, setF_0, nf_cons, ↓vcL_nil, Md.next_seq]; (with_reducible refine hk _ _ _ _ ?_); clear hk k) | with_reducible (first | refine Cw.block ?_ | refine Cw.skip ?_ | refine Cw.exit ?_ | refine Cw.ret ?_ | refine thenK_exit ?_ | refine thenK_ret ?_ | refine blockK_normal ?_ | refine blockK_ret ?_ | refine blockK_exit ?_ | refine blockK_pass rfl ?_) | ((with_reducible refine Cw.condC ?_); first | refine CwC.pt rfl (by omega) ?_ | refine CwC.pf rfl (by omega) ?_ | refine CwC.it rfl (by omega) ?_ | refine CwC.if rfl (by omega) ?_ | refine CwC.nt rfl (by omega) ?_ | refine CwC.nf rfl (by omega) ?_ | refine CwC.tt rfl ?_ | refine CwC.ff rfl ?_ | refine CwC.bt rfl (by assumption) ?_ | (refine CwC.bf rfl ?_ ?_; focus assumption))
    refine ⟨_, (by simp (disch := (first | omega | (simp only [lenS, lenT, UInt64.reduceToNat] ; try omega))) only [resVs_cons, resV_tmp, ↓getF_s, ↓getF_0, resVs_nil, cons2_some]; rfl), ⟨hw1, trivial⟩, ?_⟩
    refine ⟨-1, rfl, ⟨fun h => by omega, fun h => ?_⟩⟩
    rw [List.any_eq_true] at h
    obtain ⟨x, hx, hxb⟩ := h
    obtain ⟨i, hi, rfl⟩ := List.getElem_of_mem hx
    have := hgood i hi
    rw [List.getD_eq_getElem?_getD, List.getElem?_eq_getElem hi] at this
    exact absurd hxb (by simpa using this)
theorem IndexFunc_spec (s : List UInt8) (k : FuncId) (hk : ∀ a w, (callFunc k a).run Tryd.prog w = .ok (.enter k a) w) (hc : ∀ c w, Rets Tryd.prog k #[v32i c] w (fun v D => v = .bool (badR c) ∧ D = [])) (w : World) (hs : s.length < 1099511627776) :
    Rets Tryd.prog 124 #[vs s, .func (.func k) #[] #[]] w (fun v D => ∃ n : Int, v = vi n ∧ (0 ≤ n ↔ s.any badB = true) ∧ D = []) := by
  refine Rets.mono (S := fun v D => (∃ n : Int, v = vi n ∧ (0 ≤ n ↔ s.any badB = true)) ∧ D = []) ?_ (by rintro v D ⟨⟨n, h1, h2⟩, h3⟩; exact ⟨n, h1, h2, h3⟩)
  refine Rets.enterV Tryd.func124 rfl (rs := [.tmp 4]) Tryd.results124 Tryd.ntmps124 ?_
  simp only [List.size_toArray, List.length_cons, List.length_nil, Nat.reduceAdd, Nat.reduceSub, List.replicate_succ, List.replicate_zero, List.cons_append, List.nil_append]
  repeat' first | with_reducible (first | refine Cw.seq ?_ | refine thenK_normal ?_ | refine Ow.nil ?_) | ((with_reducible refine Cw.region (Ow.run rfl fun k hk => ?_)); simp (disch := (first | omega | (simp only [lenS, lenT, UInt64.reduceToNat] ; try omega))) only [↓vcL_none, ↓vcB_assign, ↓ov_some, ↓ev_const, lit_i64, putF_some, setF_s, setF_0, nf_cons, ↓vcL_nil, Md.next_seq, ↓vcB_move, ↓ev_tmp, ↓getF_0, ↓getF_s, ↓vcB_call]; (with_reducible refine hk _ _ _ _ ?_); clear hk k) | with_reducible (first | refine Cw.block ?_ | refine Cw.skip ?_ | refine Cw.exit ?_ | refine Cw.ret ?_ | refine thenK_exit ?_ | refine thenK_ret ?_ | refine blockK_normal ?_ | refine blockK_ret ?_ | refine blockK_exit ?_ | refine blockK_pass rfl ?_) | ((with_reducible refine Cw.condC ?_); first | refine CwC.pt rfl (by omega) ?_ | refine CwC.pf rfl (by omega) ?_ | refine CwC.it rfl (by omega) ?_ | refine CwC.if rfl (by omega) ?_ | refine CwC.nt rfl (by omega) ?_ | refine CwC.nf rfl (by omega) ?_ | refine CwC.tt rfl ?_ | refine CwC.ff rfl ?_ | refine CwC.bt rfl (by assumption) ?_ | (refine CwC.bf rfl ?_ ?_; focus assumption))
  refine Ow.callF rfl rfl Tryd.call150 (S := fun _ v D => ∃ n : Int, v = vi n ∧ (0 ≤ n ↔ s.any badB = true) ∧ D = []) (fun w' hw' => indexFunc_spec s k hk hc w' hs) ?_
  rintro B v D - - ⟨n, rfl, hn, rfl⟩
  refine ⟨_, Mrg.nil, ?_⟩
  refine Ow.run rfl fun k hk => ?_
  simp (disch := (first | omega | (simp only [lenS, lenT, UInt64.reduceToNat] ; try omega))) only [↓vcL_none, ↓vcB_assign, ↓ov_some, putF_some, setF_s, setF_0, ↓ev_tmp, ↓getF_s, ↓getF_0, nf_cons, ↓vcL_nil, Md.next_seq]
  (with_reducible refine hk _ _ _ _ ?_); clear hk k
  repeat' first | with_reducible (first | refine Cw.seq ?_ | refine thenK_normal ?_ | refine Ow.nil ?_) | ((with_reducible refine Cw.region (Ow.run rfl fun k hk => ?_)); simp (disch := (first | omega | (simp only [lenS, lenT, UInt64.reduceToNat] ; try omega))) only []; (with_reducible refine hk _ _ _ _ ?_); clear hk k) | with_reducible (first | refine Cw.block ?_ | refine Cw.skip ?_ | refine Cw.exit ?_ | refine Cw.ret ?_ | refine thenK_exit ?_ | refine thenK_ret ?_ | refine blockK_normal ?_ | refine blockK_ret ?_ | refine blockK_exit ?_ | refine blockK_pass rfl ?_) | ((with_reducible refine Cw.condC ?_); first | refine CwC.pt rfl (by omega) ?_ | refine CwC.pf rfl (by omega) ?_ | refine CwC.it rfl (by omega) ?_ | refine CwC.if rfl (by omega) ?_ | refine CwC.nt rfl (by omega) ?_ | refine CwC.nf rfl (by omega) ?_ | refine CwC.tt rfl ?_ | refine CwC.ff rfl ?_ | refine CwC.bt rfl (by assumption) ?_ | (refine CwC.bf rfl ?_ ?_; focus assumption))
  refine ⟨_, (by simp (disch := (first | omega | (simp only [lenS, lenT, UInt64.reduceToNat] ; try omega))) only [resVs_cons, resV_tmp, ↓getF_s, ↓getF_0, resVs_nil, cons2_some]; rfl), trivial, ?_⟩
  exact ⟨n, rfl, hn⟩
theorem ContainsFunc_spec (s : List UInt8) (k : FuncId) (hk : ∀ a w, (callFunc k a).run Tryd.prog w = .ok (.enter k a) w) (hc : ∀ c w, Rets Tryd.prog k #[v32i c] w (fun v D => v = .bool (badR c) ∧ D = [])) (w : World) (hs : s.length < 1099511627776) :
    Rets Tryd.prog 93 #[vs s, .func (.func k) #[] #[]] w (fun v D => v = .bool (s.any badB) ∧ D = []) := by
  refine Rets.enterV Tryd.func93 rfl (rs := [.tmp 4]) Tryd.results93 Tryd.ntmps93 ?_
  simp only [List.size_toArray, List.length_cons, List.length_nil, Nat.reduceAdd, Nat.reduceSub, List.replicate_succ, List.replicate_zero, List.cons_append, List.nil_append]
  repeat' first | with_reducible (first | refine Cw.seq ?_ | refine thenK_normal ?_ | refine Ow.nil ?_) | ((with_reducible refine Cw.region (Ow.run rfl fun k hk => ?_)); simp (disch := (first | omega | (simp only [lenS, lenT, UInt64.reduceToNat] ; try omega))) only [↓vcL_none, ↓vcB_assign, ↓ov_some, ↓ev_const, putF_some, setF_s, setF_0, nf_cons, ↓vcL_nil, Md.next_seq, ↓vcB_move, ↓ev_tmp, ↓getF_0, ↓getF_s, ↓vcB_call, lit_i64]; (with_reducible refine hk _ _ _ _ ?_); clear hk k) | with_reducible (first | refine Cw.block ?_ | refine Cw.skip ?_ | refine Cw.exit ?_ | refine Cw.ret ?_ | refine thenK_exit ?_ | refine thenK_ret ?_ | refine blockK_normal ?_ | refine blockK_ret ?_ | refine blockK_exit ?_ | refine blockK_pass rfl ?_) | ((with_reducible refine Cw.condC ?_); first | refine CwC.pt rfl (by omega) ?_ | refine CwC.pf rfl (by omega) ?_ | refine CwC.it rfl (by omega) ?_ | refine CwC.if rfl (by omega) ?_ | refine CwC.nt rfl (by omega) ?_ | refine CwC.nf rfl (by omega) ?_ | refine CwC.tt rfl ?_ | refine CwC.ff rfl ?_ | refine CwC.bt rfl (by assumption) ?_ | (refine CwC.bf rfl ?_ ?_; focus assumption))
  refine Ow.callF rfl rfl Tryd.call124 (S := fun _ v D => ∃ n : Int, v = vi n ∧ (0 ≤ n ↔ s.any badB = true) ∧ D = []) (fun w' hw' => IndexFunc_spec s k hk hc w' hs) ?_
  rintro B v D - - ⟨n, rfl, hn, rfl⟩
  refine ⟨_, Mrg.nil, ?_⟩
  refine Ow.run rfl fun k hk => ?_
  simp (disch := (first | omega | (simp only [lenS, lenT, UInt64.reduceToNat] ; try omega))) only [↓vcL_none, ↓vcB_binOp, ↓ev_tmp, putF_some, setF_s, setF_0, ↓getF_s, ↓getF_0, ↓ev_const, binX_vi_vi, bin_geq_i, ↓ov_some, nf_cons, ↓vcB_assign, ↓vcL_nil, Md.next_seq]
  (with_reducible refine hk _ _ _ _ ?_); clear hk k
  repeat' first | with_reducible (first | refine Cw.seq ?_ | refine thenK_normal ?_ | refine Ow.nil ?_) | ((with_reducible refine Cw.region (Ow.run rfl fun k hk => ?_)); simp (disch := (first | omega | (simp only [lenS, lenT, UInt64.reduceToNat] ; try omega))) only []; (with_reducible refine hk _ _ _ _ ?_); clear hk k) | with_reducible (first | refine Cw.block ?_ | refine Cw.skip ?_ | refine Cw.exit ?_ | refine Cw.ret ?_ | refine thenK_exit ?_ | refine thenK_ret ?_ | refine blockK_normal ?_ | refine blockK_ret ?_ | refine blockK_exit ?_ | refine blockK_pass rfl ?_) | ((with_reducible refine Cw.condC ?_); first | refine CwC.pt rfl (by omega) ?_ | refine CwC.pf rfl (by omega) ?_ | refine CwC.it rfl (by omega) ?_ | refine CwC.if rfl (by omega) ?_ | refine CwC.nt rfl (by omega) ?_ | refine CwC.nf rfl (by omega) ?_ | refine CwC.tt rfl ?_ | refine CwC.ff rfl ?_ | refine CwC.bt rfl (by assumption) ?_ | (refine CwC.bf rfl ?_ ?_; focus assumption))
  refine ⟨_, (by simp (disch := (first | omega | (simp only [lenS, lenT, UInt64.reduceToNat] ; try omega))) only [resVs_cons, resV_tmp, ↓getF_s, ↓getF_0, resVs_nil, cons2_some]; rfl), trivial, ?_⟩
  exact congrArg Value.bool (by rw [Bool.eq_iff_iff, decide_eq_true_eq]; exact hn)
theorem isName_spec (s : List UInt8) (w : World) (hs : s.length < 1099511627776) :
    Rets Tryd.prog 59 #[vs s] w (fun v D => v = .bool (!(s == []) && decide (s.length ≤ 32) && !(s.any badB)) ∧ D = []) := by
  refine Rets.enterV Tryd.func59 rfl (rs := [.tmp 2]) Tryd.results59 Tryd.ntmps59 ?_
  simp only [List.size_toArray, List.length_cons, List.length_nil, Nat.reduceAdd, Nat.reduceSub, List.replicate_succ, List.replicate_zero, List.cons_append, List.nil_append]
  cases h0 : (s != [])
  · have e0 : (s == []) = true := by simpa using h0
    repeat' first | with_reducible (first | refine Cw.seq ?_ | refine thenK_normal ?_ | refine Ow.nil ?_) | ((with_reducible refine Cw.region (Ow.run rfl fun k hk => ?_)); simp (disch := (first | omega | (simp only [lenS, lenT, UInt64.reduceToNat] ; try omega))) only [↓vcL_none, ↓vcB_assign, ↓ov_some, ↓ev_const, putF_some, setF_s, setF_0, nf_cons, ↓vcL_nil, Md.next_seq, ↓vcB_move, ↓ev_tmp, ↓getF_0, ↓vcB_binOp, ↓getF_s, lit_str, binX_vs, bin_neq_s, h0, ↓vcL_some, lit_i64, yieldF_lit, ↓nthO_s, ↓nthO_0, yieldL_some, boolOf_b, some_beq, beq_true, ↓ib_false, ↓vcB_pick, pick_f]; (with_reducible refine hk _ _ _ _ ?_); clear hk k) | with_reducible (first | refine Cw.block ?_ | refine Cw.skip ?_ | refine Cw.exit ?_ | refine Cw.ret ?_ | refine thenK_exit ?_ | refine thenK_ret ?_ | refine blockK_normal ?_ | refine blockK_ret ?_ | refine blockK_exit ?_ | refine blockK_pass rfl ?_) | ((with_reducible refine Cw.condC ?_); first | refine CwC.pt rfl (by omega) ?_ | refine CwC.pf rfl (by omega) ?_ | refine CwC.it rfl (by omega) ?_ | refine CwC.if rfl (by omega) ?_ | refine CwC.nt rfl (by omega) ?_ | refine CwC.nf rfl (by omega) ?_ | refine CwC.tt rfl ?_ | refine CwC.ff rfl ?_ | refine CwC.bt rfl (by assumption) ?_ | (refine CwC.bf rfl ?_ ?_; focus assumption))
    refine ⟨_, (by simp (disch := (first | omega | (simp only [lenS, lenT, UInt64.reduceToNat] ; try omega))) only [resVs_cons, resV_tmp, ↓getF_s, ↓getF_0, resVs_nil, cons2_some]; rfl), trivial, ?_⟩
    simp [tupV, e0]
  · have e0 : (s == []) = false := by simpa using h0
    cases h1 : decide ((s.length : Int) ≤ 32)
    · have e1 : decide (s.length ≤ 32) = false := decide_eq_false (by have := of_decide_eq_false h1; omega)
      repeat' first | with_reducible (first | refine Cw.seq ?_ | refine thenK_normal ?_ | refine Ow.nil ?_) | ((with_reducible refine Cw.region (Ow.run rfl fun k hk => ?_)); simp (disch := (first | omega | (simp only [lenS, lenT, UInt64.reduceToNat] ; try omega))) only [↓vcL_none, ↓vcB_assign, ↓ov_some, ↓ev_const, putF_some, setF_s, setF_0, nf_cons, ↓vcL_nil, Md.next_seq, ↓vcB_move, ↓ev_tmp, ↓getF_0, ↓vcB_binOp, ↓getF_s, lit_str, binX_vs, bin_neq_s, h0, ↓vcL_some, lit_i64, yieldF_lit, ↓nthO_s, ↓nthO_0, yieldL_some, boolOf_b, beq_self_eq_true, ↓ib_true, ↓vcB_len, Tryd.ix9, len_str, binX_vi_vi, bin_leq_i, h1, ↓vcB_pick, pick_t, some_beq, beq_true, ↓ib_false, pick_f]; (with_reducible refine hk _ _ _ _ ?_); clear hk k) | with_reducible (first | refine Cw.block ?_ | refine Cw.skip ?_ | refine Cw.exit ?_ | refine Cw.ret ?_ | refine thenK_exit ?_ | refine thenK_ret ?_ | refine blockK_normal ?_ | refine blockK_ret ?_ | refine blockK_exit ?_ | refine blockK_pass rfl ?_) | ((with_reducible refine Cw.condC ?_); first | refine CwC.pt rfl (by omega) ?_ | refine CwC.pf rfl (by omega) ?_ | refine CwC.it rfl (by omega) ?_ | refine CwC.if rfl (by omega) ?_ | refine CwC.nt rfl (by omega) ?_ | refine CwC.nf rfl (by omega) ?_ | refine CwC.tt rfl ?_ | refine CwC.ff rfl ?_ | refine CwC.bt rfl (by assumption) ?_ | (refine CwC.bf rfl ?_ ?_; focus assumption))
      refine ⟨_, (by simp (disch := (first | omega | (simp only [lenS, lenT, UInt64.reduceToNat] ; try omega))) only [resVs_cons, resV_tmp, ↓getF_s, ↓getF_0, resVs_nil, cons2_some]; rfl), trivial, ?_⟩
      simp only [tupV, e0, e1, Bool.not_false, Bool.true_and, Bool.false_and, Bool.and_false]
    · have e1 : decide (s.length ≤ 32) = true := decide_eq_true (by have := of_decide_eq_true h1; omega)
      repeat' first | with_reducible (first | refine Cw.seq ?_ | refine thenK_normal ?_ | refine Ow.nil ?_) | ((with_reducible refine Cw.region (Ow.run rfl fun k hk => ?_)); simp (disch := (first | omega | (simp only [lenS, lenT, UInt64.reduceToNat] ; try omega))) only [↓vcL_none, ↓vcB_assign, ↓ov_some, ↓ev_const, putF_some, setF_s, setF_0, nf_cons, ↓vcL_nil, Md.next_seq, ↓vcB_move, ↓ev_tmp, ↓getF_0, ↓vcB_binOp, ↓getF_s, lit_str, binX_vs, bin_neq_s, h0, ↓vcL_some, lit_i64, yieldF_lit, ↓nthO_s, ↓nthO_0, yieldL_some, boolOf_b, beq_self_eq_true, ↓ib_true, ↓vcB_len, Tryd.ix9, len_str, binX_vi_vi, bin_leq_i, h1, ↓vcB_pick, pick_t, ↓vcB_call]; (with_reducible refine hk _ _ _ _ ?_); clear hk k) | with_reducible (first | refine Cw.block ?_ | refine Cw.skip ?_ | refine Cw.exit ?_ | refine Cw.ret ?_ | refine thenK_exit ?_ | refine thenK_ret ?_ | refine blockK_normal ?_ | refine blockK_ret ?_ | refine blockK_exit ?_ | refine blockK_pass rfl ?_) | ((with_reducible refine Cw.condC ?_); first | refine CwC.pt rfl (by omega) ?_ | refine CwC.pf rfl (by omega) ?_ | refine CwC.it rfl (by omega) ?_ | refine CwC.if rfl (by omega) ?_ | refine CwC.nt rfl (by omega) ?_ | refine CwC.nf rfl (by omega) ?_ | refine CwC.tt rfl ?_ | refine CwC.ff rfl ?_ | refine CwC.bt rfl (by assumption) ?_ | (refine CwC.bf rfl ?_ ?_; focus assumption))
      refine Ow.callFV rfl Tryd.call93 (fun w' hw' => ContainsFunc_spec s 94 Tryd.call94 isNameC_spec w' hs) ?_
      refine Ow.run rfl fun k hk => ?_
      simp (disch := (first | omega | (simp only [lenS, lenT, UInt64.reduceToNat] ; try omega))) only [↓vcL_some, lit_str, lit_i64, putF_some, setF_s, setF_0, yieldF_lit, ↓nthO_s, ↓nthO_0, yieldL_some, ↓getF_s, ↓getF_0, boolOf_b, beq_self_eq_true, ↓ib_true, ↓vcB_unOp, ↓ev_tmp, un_not, ↓ov_some, nf_cons, ↓vcL_none, ↓vcB_pick, ↓ev_const, pick_t, ↓vcB_assign, ↓vcL_nil, Md.next_seq]
      (with_reducible refine hk _ _ _ _ ?_); clear hk k
      repeat' first | with_reducible (first | refine Cw.seq ?_ | refine thenK_normal ?_ | refine Ow.nil ?_) | ((with_reducible refine Cw.region (Ow.run rfl fun k hk => ?_)); simp (disch := (first | omega | (simp only [lenS, lenT, UInt64.reduceToNat] ; try omega))) only []; (with_reducible refine hk _ _ _ _ ?_); clear hk k) | with_reducible (first | refine Cw.block ?_ | refine Cw.skip ?_ | refine Cw.exit ?_ | refine Cw.ret ?_ | refine thenK_exit ?_ | refine thenK_ret ?_ | refine blockK_normal ?_ | refine blockK_ret ?_ | refine blockK_exit ?_ | refine blockK_pass rfl ?_) | ((with_reducible refine Cw.condC ?_); first | refine CwC.pt rfl (by omega) ?_ | refine CwC.pf rfl (by omega) ?_ | refine CwC.it rfl (by omega) ?_ | refine CwC.if rfl (by omega) ?_ | refine CwC.nt rfl (by omega) ?_ | refine CwC.nf rfl (by omega) ?_ | refine CwC.tt rfl ?_ | refine CwC.ff rfl ?_ | refine CwC.bt rfl (by assumption) ?_ | (refine CwC.bf rfl ?_ ?_; focus assumption))
      refine ⟨_, (by simp (disch := (first | omega | (simp only [lenS, lenT, UInt64.reduceToNat] ; try omega))) only [resVs_cons, resV_tmp, ↓getF_s, ↓getF_0, resVs_nil, cons2_some]; rfl), trivial, ?_⟩
      simp only [tupV, e0, e1, Bool.not_false, Bool.true_and]
end Go.Proofs
open Go Go.Proofs Go.Sx
namespace Go.Proofs
set_option maxRecDepth 10000
set_option maxHeartbeats 4000000
set_option linter.unusedSimpArgs false
/-- May a text be a name? -/
def nameV (s : List UInt8) : Bool := !(s == []) && decide (s.length ≤ 32) && !(s.any badB)
theorem badB_eq (c : UInt8) : badB c = (decide (c < 33) || decide (126 < c) || (c == 47)) := by
  unfold badB
  congr 1
  rw [Bool.eq_iff_iff, beq_iff_eq, beq_iff_eq, ← UInt8.toNat_inj]; rfl
theorem refName_spec (s : List UInt8) (w : World) (hs : s.length < 1099511627776) :
    Rets Tryd.prog 34 #[vs s] w (fun v D => v = .bool (nameV s) ∧ D = []) := by
  refine Rets.enterV Tryd.func34 rfl (rs := [.tmp 2]) Tryd.results34 Tryd.ntmps34 ?_
  simp only [List.size_toArray, List.length_cons, List.length_nil, Nat.reduceAdd, Nat.reduceSub, List.replicate_succ, List.replicate_zero, List.cons_append, List.nil_append]
  repeat' first | with_reducible (first | refine Cw.seq ?_ | refine thenK_normal ?_ | refine Ow.nil ?_) | ((with_reducible refine Cw.region (Ow.run rfl fun k hk => ?_)); simp (disch := (first | omega | (simp only [lenS, lenT, UInt64.reduceToNat] ; try omega))) only [↓vcL_none, ↓vcB_assign, ↓ov_some, ↓ev_const, putF_some, setF_s, setF_0, nf_cons, ↓vcL_nil, Md.next_seq, lit_i64]; (with_reducible refine hk _ _ _ _ ?_); clear hk k) | with_reducible (first | refine Cw.block ?_ | refine Cw.skip ?_ | refine Cw.exit ?_ | refine Cw.ret ?_ | refine thenK_exit ?_ | refine thenK_ret ?_ | refine blockK_normal ?_ | refine blockK_ret ?_ | refine blockK_exit ?_ | refine blockK_pass rfl ?_) | ((with_reducible refine Cw.condC ?_); first | refine CwC.pt rfl (by omega) ?_ | refine CwC.pf rfl (by omega) ?_ | refine CwC.it rfl (by omega) ?_ | refine CwC.if rfl (by omega) ?_ | refine CwC.nt rfl (by omega) ?_ | refine CwC.nf rfl (by omega) ?_ | refine CwC.tt rfl ?_ | refine CwC.ff rfl ?_ | refine CwC.bt rfl (by assumption) ?_ | (refine CwC.bf rfl ?_ ?_; focus assumption))
  refine Cw.loopG (G := Nat) [4, 5, 6, 7, 10, 11, 12, 13, 14, 15, 16, 17, 18, 19, 20, 21, 22, 23, 24, 25, 2, 8, 9, 3] (fun g => [(3, vi g)]) (fun g => []) (fun g => g ≤ s.length ∧ ∀ i, i < g → badB (s.getD i 0) = false) (fun g => s.length - g) 0 rfl rfl ?_ ?_
  · exact ⟨by omega, fun i hi => by omega⟩
  intro g j hg
  simp only [overFrom, pin, setF_0, setF_s, List.contains_cons, List.contains_nil, Nat.reduceBEq, Bool.or_false, Bool.false_or, Bool.or_true, Bool.true_or, Nat.reduceAdd, ↓reduceIte, Bool.false_eq_true]
  obtain ⟨hgL, hgood⟩ := hg
  by_cases hlt : g < s.length
  · have hb := badB_eq (s.getD g 0)
    have hbad : badB (s.getD g 0) = true → nameV s = false := by
      intro h
      have : s.any badB = true := List.any_eq_true.2 ⟨s.getD g 0, by rw [List.getD_eq_getElem?_getD, List.getElem?_eq_getElem hlt]; exact List.getElem_mem hlt, h⟩
      unfold nameV
      rw [this]; simp
    have hgo : badB (s.getD g 0) = false → ∀ i, i < g + 1 → badB (s.getD i 0) = false := fun h i hi => by
      by_cases hig : i = g
      · rw [hig]; exact h
      · exact hgood i (by omega)
    generalize hc : s.getD g 0 = c at *
    cases h1 : decide (c < 33)
    · cases h2 : decide (126 < c)
      · cases h3 : (c == 47)
        · repeat' first | with_reducible (first | refine Cw.seq ?_ | refine thenK_normal ?_ | refine Ow.nil ?_) | ((with_reducible refine Cw.region (Ow.run rfl fun k hk => ?_)); simp (disch := (first | omega | (simp only [lenS, lenT, UInt64.reduceToNat] ; try omega))) only [↓vcL_none, ↓vcB_move, ↓ov_some, ↓ev_tmp, ↓getF_s, ↓getF_0, putF_some, setF_s, setF_0, nf_cons, ↓vcB_len, Tryd.ix9, len_str, ↓vcB_binOp, binX_vi_vi, bin_lss_i, ↓vcL_nil, Md.next_seq, ↓vcB_index, ixI_vi, index_str, Int.toNat_natCast, hc, ↓ev_const, lit_u8, binX_v8_v8, bin_lss_u8, h1, ↓vcL_some, yieldF_lit, ↓nthO_s, ↓nthO_0, yieldL_some, boolOf_b, beq_self_eq_true, ↓ib_true, bin_gtr_u8, h2, ↓vcB_pick, pick_f, bin_eql_u8, h3, lit_i64, bin_add_i, ↓vcB_assign]; (with_reducible refine hk _ _ _ _ ?_); clear hk k) | with_reducible (first | refine Cw.block ?_ | refine Cw.skip ?_ | refine Cw.exit ?_ | refine Cw.ret ?_ | refine thenK_exit ?_ | refine thenK_ret ?_ | refine blockK_normal ?_ | refine blockK_ret ?_ | refine blockK_exit ?_ | refine blockK_pass rfl ?_) | ((with_reducible refine Cw.condC ?_); first | refine CwC.pt rfl (by omega) ?_ | refine CwC.pf rfl (by omega) ?_ | refine CwC.it rfl (by omega) ?_ | refine CwC.if rfl (by omega) ?_ | refine CwC.nt rfl (by omega) ?_ | refine CwC.nf rfl (by omega) ?_ | refine CwC.tt rfl ?_ | refine CwC.ff rfl ?_ | refine CwC.bt rfl (by assumption) ?_ | (refine CwC.bf rfl ?_ ?_; focus assumption))
          refine Again.mk (g + 1) (by omega) ⟨by omega, hgo (by rw [hb, h1, h2, h3]; rfl)⟩ rfl rfl
        · repeat' first | with_reducible (first | refine Cw.seq ?_ | refine thenK_normal ?_ | refine Ow.nil ?_) | ((with_reducible refine Cw.region (Ow.run rfl fun k hk => ?_)); simp (disch := (first | omega | (simp only [lenS, lenT, UInt64.reduceToNat] ; try omega))) only [↓vcL_none, ↓vcB_move, ↓ov_some, ↓ev_tmp, ↓getF_s, ↓getF_0, putF_some, setF_s, setF_0, nf_cons, ↓vcB_len, Tryd.ix9, len_str, ↓vcB_binOp, binX_vi_vi, bin_lss_i, ↓vcL_nil, Md.next_seq, ↓vcB_index, ixI_vi, index_str, Int.toNat_natCast, hc, ↓ev_const, lit_u8, binX_v8_v8, bin_lss_u8, h1, ↓vcL_some, yieldF_lit, ↓nthO_s, ↓nthO_0, yieldL_some, boolOf_b, beq_self_eq_true, ↓ib_true, bin_gtr_u8, h2, ↓vcB_pick, pick_f, bin_eql_u8, h3, ↓vcB_assign]; (with_reducible refine hk _ _ _ _ ?_); clear hk k) | with_reducible (first | refine Cw.block ?_ | refine Cw.skip ?_ | refine Cw.exit ?_ | refine Cw.ret ?_ | refine thenK_exit ?_ | refine thenK_ret ?_ | refine blockK_normal ?_ | refine blockK_ret ?_ | refine blockK_exit ?_ | refine blockK_pass rfl ?_) | ((with_reducible refine Cw.condC ?_); first | refine CwC.pt rfl (by omega) ?_ | refine CwC.pf rfl (by omega) ?_ | refine CwC.it rfl (by omega) ?_ | refine CwC.if rfl (by omega) ?_ | refine CwC.nt rfl (by omega) ?_ | refine CwC.nf rfl (by omega) ?_ | refine CwC.tt rfl ?_ | refine CwC.ff rfl ?_ | refine CwC.bt rfl (by assumption) ?_ | (refine CwC.bf rfl ?_ ?_; focus assumption))
          rw [hbad (by rw [hb, h1, h2, h3]; rfl)]
          refine ⟨_, (by simp (disch := (first | omega | (simp only [lenS, lenT, UInt64.reduceToNat] ; try omega))) only [resVs_cons, resV_tmp, ↓getF_s, ↓getF_0, resVs_nil, cons2_some]; rfl), trivial, ?_⟩
          rfl
      · repeat' first | with_reducible (first | refine Cw.seq ?_ | refine thenK_normal ?_ | refine Ow.nil ?_) | ((with_reducible refine Cw.region (Ow.run rfl fun k hk => ?_)); simp (disch := (first | omega | (simp only [lenS, lenT, UInt64.reduceToNat] ; try omega))) only [↓vcL_none, ↓vcB_move, ↓ov_some, ↓ev_tmp, ↓getF_s, ↓getF_0, putF_some, setF_s, setF_0, nf_cons, ↓vcB_len, Tryd.ix9, len_str, ↓vcB_binOp, binX_vi_vi, bin_lss_i, ↓vcL_nil, Md.next_seq, ↓vcB_index, ixI_vi, index_str, Int.toNat_natCast, hc, ↓ev_const, lit_u8, binX_v8_v8, bin_lss_u8, h1, ↓vcL_some, yieldF_lit, ↓nthO_s, ↓nthO_0, yieldL_some, boolOf_b, beq_self_eq_true, ↓ib_true, bin_gtr_u8, h2, ↓vcB_pick, pick_f, some_beq, beq_false, Bool.not_true, ↓ib_false, pick_t, ↓vcB_assign]; (with_reducible refine hk _ _ _ _ ?_); clear hk k) | with_reducible (first | refine Cw.block ?_ | refine Cw.skip ?_ | refine Cw.exit ?_ | refine Cw.ret ?_ | refine thenK_exit ?_ | refine thenK_ret ?_ | refine blockK_normal ?_ | refine blockK_ret ?_ | refine blockK_exit ?_ | refine blockK_pass rfl ?_) | ((with_reducible refine Cw.condC ?_); first | refine CwC.pt rfl (by omega) ?_ | refine CwC.pf rfl (by omega) ?_ | refine CwC.it rfl (by omega) ?_ | refine CwC.if rfl (by omega) ?_ | refine CwC.nt rfl (by omega) ?_ | refine CwC.nf rfl (by omega) ?_ | refine CwC.tt rfl ?_ | refine CwC.ff rfl ?_ | refine CwC.bt rfl (by assumption) ?_ | (refine CwC.bf rfl ?_ ?_; focus assumption))
        rw [hbad (by rw [hb, h1, h2]; rfl)]
        refine ⟨_, (by simp (disch := (first | omega | (simp only [lenS, lenT, UInt64.reduceToNat] ; try omega))) only [resVs_cons, resV_tmp, ↓getF_s, ↓getF_0, resVs_nil, cons2_some]; rfl), trivial, ?_⟩
        rfl
    · repeat' first | with_reducible (first | refine Cw.seq ?_ | refine thenK_normal ?_ | refine Ow.nil ?_) | ((with_reducible refine Cw.region (Ow.run rfl fun k hk => ?_)); simp (disch := (first | omega | (simp only [lenS, lenT, UInt64.reduceToNat] ; try omega))) only [↓vcL_none, ↓vcB_move, ↓ov_some, ↓ev_tmp, ↓getF_s, ↓getF_0, putF_some, setF_s, setF_0, nf_cons, ↓vcB_len, Tryd.ix9, len_str, ↓vcB_binOp, binX_vi_vi, bin_lss_i, ↓vcL_nil, Md.next_seq, ↓vcB_index, ixI_vi, index_str, Int.toNat_natCast, hc, ↓ev_const, lit_u8, binX_v8_v8, bin_lss_u8, h1, ↓vcL_some, yieldF_lit, ↓nthO_s, ↓nthO_0, yieldL_some, boolOf_b, some_beq, beq_false, Bool.not_true, ↓ib_false, ↓vcB_pick, pick_t, ↓vcB_assign]; (with_reducible refine hk _ _ _ _ ?_); clear hk k) | with_reducible (first | refine Cw.block ?_ | refine Cw.skip ?_ | refine Cw.exit ?_ | refine Cw.ret ?_ | refine thenK_exit ?_ | refine thenK_ret ?_ | refine blockK_normal ?_ | refine blockK_ret ?_ | refine blockK_exit ?_ | refine blockK_pass rfl ?_) | ((with_reducible refine Cw.condC ?_); first | refine CwC.pt rfl (by omega) ?_ | refine CwC.pf rfl (by omega) ?_ | refine CwC.it rfl (by omega) ?_ | refine CwC.if rfl (by omega) ?_ | refine CwC.nt rfl (by omega) ?_ | refine CwC.nf rfl (by omega) ?_ | refine CwC.tt rfl ?_ | refine CwC.ff rfl ?_ | refine CwC.bt rfl (by assumption) ?_ | (refine CwC.bf rfl ?_ ?_; focus assumption))
      rw [hbad (by rw [hb, h1]; simp)]
      refine ⟨_, (by simp (disch := (first | omega | (simp only [lenS, lenT, UInt64.reduceToNat] ; try omega))) only [resVs_cons, resV_tmp, ↓getF_s, ↓getF_0, resVs_nil, cons2_some]; rfl), trivial, ?_⟩
      rfl
  · obtain rfl : g = s.length := by omega
    have hany : s.any badB = false := by
      rw [List.any_eq_false]
      intro x hx
      obtain ⟨i, hi, rfl⟩ := List.getElem_of_mem hx
      have := hgood i hi
      rw [List.getD_eq_getElem?_getD, List.getElem?_eq_getElem hi] at this
      simpa using this
    unfold nameV
    rw [hany]
    cases h1 : decide (1 ≤ (s.length : Int))
    · have e0 : (s == []) = true := by
        have := of_decide_eq_false h1
        rw [List.eq_nil_of_length_eq_zero (show s.length = 0 by omega)]; rfl
      repeat' first | with_reducible (first | refine Cw.seq ?_ | refine thenK_normal ?_ | refine Ow.nil ?_) | ((with_reducible refine Cw.region (Ow.run rfl fun k hk => ?_)); simp (disch := (first | omega | (simp only [lenS, lenT, UInt64.reduceToNat] ; try omega))) only [↓vcL_none, ↓vcB_move, ↓ov_some, ↓ev_tmp, ↓getF_s, ↓getF_0, putF_some, setF_s, setF_0, nf_cons, ↓vcB_len, Tryd.ix9, len_str, ↓vcB_binOp, binX_vi_vi, bin_lss_i, ↓vcL_nil, Md.next_seq, ↓ev_const, lit_i64, bin_geq_i, h1, ↓vcL_some, yieldF_lit, ↓nthO_s, ↓nthO_0, yieldL_some, boolOf_b, some_beq, beq_true, ↓ib_false, ↓vcB_pick, pick_f, ↓vcB_assign]; (with_reducible refine hk _ _ _ _ ?_); clear hk k) | with_reducible (first | refine Cw.block ?_ | refine Cw.skip ?_ | refine Cw.exit ?_ | refine Cw.ret ?_ | refine thenK_exit ?_ | refine thenK_ret ?_ | refine blockK_normal ?_ | refine blockK_ret ?_ | refine blockK_exit ?_ | refine blockK_pass rfl ?_) | ((with_reducible refine Cw.condC ?_); first | refine CwC.pt rfl (by omega) ?_ | refine CwC.pf rfl (by omega) ?_ | refine CwC.it rfl (by omega) ?_ | refine CwC.if rfl (by omega) ?_ | refine CwC.nt rfl (by omega) ?_ | refine CwC.nf rfl (by omega) ?_ | refine CwC.tt rfl ?_ | refine CwC.ff rfl ?_ | refine CwC.bt rfl (by assumption) ?_ | (refine CwC.bf rfl ?_ ?_; focus assumption))
      refine ⟨_, (by simp (disch := (first | omega | (simp only [lenS, lenT, UInt64.reduceToNat] ; try omega))) only [resVs_cons, resV_tmp, ↓getF_s, ↓getF_0, resVs_nil, cons2_some]; rfl), trivial, ?_⟩
      simp only [tupV, e0, Bool.not_true, Bool.false_and]
    · have e0 : (s == []) = false := by
        have := of_decide_eq_true h1
        cases s with
        | nil => simp at this
        | cons x r => rfl
      have e1 : decide ((s.length : Int) ≤ 32) = decide (s.length ≤ 32) := decide_eq_decide.2 (by omega)
      repeat' first | with_reducible (first | refine Cw.seq ?_ | refine thenK_normal ?_ | refine Ow.nil ?_) | ((with_reducible refine Cw.region (Ow.run rfl fun k hk => ?_)); simp (disch := (first | omega | (simp only [lenS, lenT, UInt64.reduceToNat] ; try omega))) only [↓vcL_none, ↓vcB_move, ↓ov_some, ↓ev_tmp, ↓getF_s, ↓getF_0, putF_some, setF_s, setF_0, nf_cons, ↓vcB_len, Tryd.ix9, len_str, ↓vcB_binOp, binX_vi_vi, bin_lss_i, ↓vcL_nil, Md.next_seq, ↓ev_const, lit_i64, bin_geq_i, h1, ↓vcL_some, yieldF_lit, ↓nthO_s, ↓nthO_0, yieldL_some, boolOf_b, beq_self_eq_true, ↓ib_true, bin_leq_i, ↓vcB_pick, pick_t, ↓vcB_assign]; (with_reducible refine hk _ _ _ _ ?_); clear hk k) | with_reducible (first | refine Cw.block ?_ | refine Cw.skip ?_ | refine Cw.exit ?_ | refine Cw.ret ?_ | refine thenK_exit ?_ | refine thenK_ret ?_ | refine blockK_normal ?_ | refine blockK_ret ?_ | refine blockK_exit ?_ | refine blockK_pass rfl ?_) | ((with_reducible refine Cw.condC ?_); first | refine CwC.pt rfl (by omega) ?_ | refine CwC.pf rfl (by omega) ?_ | refine CwC.it rfl (by omega) ?_ | refine CwC.if rfl (by omega) ?_ | refine CwC.nt rfl (by omega) ?_ | refine CwC.nf rfl (by omega) ?_ | refine CwC.tt rfl ?_ | refine CwC.ff rfl ?_ | refine CwC.bt rfl (by assumption) ?_ | (refine CwC.bf rfl ?_ ?_; focus assumption))
      refine ⟨_, (by simp (disch := (first | omega | (simp only [lenS, lenT, UInt64.reduceToNat] ; try omega))) only [resVs_cons, resV_tmp, ↓getF_s, ↓getF_0, resVs_nil, cons2_some]; rfl), trivial, ?_⟩
      simp only [tupV, e0, e1, Bool.not_false, Bool.true_and, Bool.and_true]
end Go.Proofs
open Go Go.Proofs Go.Sx
namespace Go.Proofs
set_option maxRecDepth 10000
set_option maxHeartbeats 4000000
set_option linter.unusedSimpArgs false
/-! ### Refs -/
structure RefL where
  name : List UInt8
  id : IdL
def refC (r : RefL) : List Value := vs r.name :: r.id.l.map v8
theorem refC_len (r : RefL) : (refC r).length = 33 := by simp [refC, r.id.h]
theorem load_ref0 (r : RefL) (E : TypeId) (n : Nat) : loadV (some (false, n)) (some (.cells (refC r).toArray E (0, 0))) 0 = some (vs r.name) := (rfl)
theorem load_ref1 (r : RefL) (E : TypeId) : loadV (some (true, 32)) (some (.cells (refC r).toArray E (0, 0))) 1 = some (.agg (a8 r.id.l)) := by
  have hs : 1 + 32 ≤ (refC r).toArray.size := by rw [List.size_toArray, refC_len]; decide
  simp only [loadV, hs, ↓reduceIte]
  congr 2
  show (refC r).toArray.extract 1 33 = (r.id.l.map v8).toArray
  rw [List.extract_toArray]
  congr 1
  unfold refC
  rw [List.extract_eq_take_drop, List.drop_succ_cons, List.drop_zero, List.take_of_length_le (by simp [r.id.h])]
theorem cells_ref (r : RefL) : Value.cells (.agg (refC r).toArray) = (refC r).toArray := cells_agg _
theorem eqId (l l' : List UInt8) (h : l.length = 32 ∧ l'.length = 32) : binX Tryd.prog .eql 40 (.agg (a8 l)) (.agg (a8 l')) = some (.bool (l == l')) :=
  binX_a8 Tryd.underlying40 Tryd.underlying5 Tryd.ag5 (by kernel_rfl) l l' h
/-- A name is given a value, or taken away. -/
def setV (r : RefL) (m : Vals) : Vals := if r.id.l == z32 then delV r.name (updV r.name r.id.l m) else updV r.name r.id.l m
theorem set_spec (b : Nat) (o : Obj) (m : Vals) (r : RefL) (w : World) (ho : w.heap[b]? = some o) (hm : MapR o m) :
    Rets Tryd.prog 111 #[vm b, .agg (refC r).toArray] w (fun v D => ∃ o', D = [(b, o')] ∧ v = .bool (decide ((setV r m).length ≤ 16)) ∧ MapR o' (setV r m)) := by
  have hbl := (Array.getElem?_eq_some_iff.1 ho).1
  refine Rets.enterM Tryd.func111 rfl (rs := [.tmp 4]) Tryd.results111 Tryd.ntmps111 ho ?_
  simp only [List.size_toArray, List.length_cons, List.length_nil, Nat.reduceAdd, Nat.reduceSub, List.replicate_succ, List.replicate_zero, List.cons_append, List.nil_append]
  repeat' first | with_reducible (first | refine Cw.seq ?_ | refine thenK_normal ?_ | refine Ow.nil ?_) | ((with_reducible refine Cw.region (Ow.run rfl fun k hk => ?_)); simp (disch := (first | omega | (simp only [lenS, lenT, UInt64.reduceToNat] ; try omega))) only [↓vcL_none, ↓vcB_box]; (with_reducible refine hk _ _ _ _ ?_); clear hk k) | with_reducible (first | refine Cw.block ?_ | refine Cw.skip ?_ | refine Cw.exit ?_ | refine Cw.ret ?_ | refine thenK_exit ?_ | refine thenK_ret ?_ | refine blockK_normal ?_ | refine blockK_ret ?_ | refine blockK_exit ?_ | refine blockK_pass rfl ?_) | ((with_reducible refine Cw.condC ?_); first | refine CwC.pt rfl (by omega) ?_ | refine CwC.pf rfl (by omega) ?_ | refine CwC.it rfl (by omega) ?_ | refine CwC.if rfl (by omega) ?_ | refine CwC.nt rfl (by omega) ?_ | refine CwC.nf rfl (by omega) ?_ | refine CwC.tt rfl ?_ | refine CwC.ff rfl ?_ | refine CwC.bt rfl (by assumption) ?_ | (refine CwC.bf rfl ?_ ?_; focus assumption))
  refine Ow.box rfl rfl fun b1 hb1 hw1 => ?_
  obtain ⟨h01, -⟩ := hb1
  refine Ow.run rfl fun k hk => ?_
  simp (disch := (first | omega | (simp only [lenS, lenT, UInt64.reduceToNat] ; try omega))) only [↓vcL_none, ↓vcB_assign, ↓ov_some, putF_some, setF_s, setF_0, ↓ev_const, nf_cons, ↓vcL_nil, Md.next_seq, ↓ev_tmp, ↓getF_s, ↓getF_0, cells_agg, List.cons_append, List.nil_append]
  (with_reducible refine hk _ _ _ _ ?_); clear hk k
  repeat' first | with_reducible (first | refine Cw.seq ?_ | refine thenK_normal ?_ | refine Ow.nil ?_) | ((with_reducible refine Cw.region (Ow.run rfl fun k hk => ?_)); simp (disch := (first | omega | (simp only [lenS, lenT, UInt64.reduceToNat] ; try omega))) only [↓vcL_none, ↓vcB_move, ↓ov_some, ↓ev_tmp, ↓getF_0, putF_some, setF_s, setF_0, nf_cons, ↓vcB_fieldAddr, Tryd.fl42_0, ↓getF_s, fieldAddr_p, Nat.add_zero, ↓vcB_load, Md.next_seq, rd_seq_load, ↓ib_true, Tryd.ag9, loadAt_p, read_other, read_same, load_ref0, Tryd.fl42_1, Nat.zero_add, Tryd.ag40, load_ref1, ↓vcB_mapUpdate]; (with_reducible refine hk _ _ _ _ ?_); clear hk k) | with_reducible (first | refine Cw.block ?_ | refine Cw.skip ?_ | refine Cw.exit ?_ | refine Cw.ret ?_ | refine thenK_exit ?_ | refine thenK_ret ?_ | refine blockK_normal ?_ | refine blockK_ret ?_ | refine blockK_exit ?_ | refine blockK_pass rfl ?_) | ((with_reducible refine Cw.condC ?_); first | refine CwC.pt rfl (by omega) ?_ | refine CwC.pf rfl (by omega) ?_ | refine CwC.it rfl (by omega) ?_ | refine CwC.if rfl (by omega) ?_ | refine CwC.nt rfl (by omega) ?_ | refine CwC.nf rfl (by omega) ?_ | refine CwC.tt rfl ?_ | refine CwC.ff rfl ?_ | refine CwC.bt rfl (by assumption) ?_ | (refine CwC.bf rfl ?_ ?_; focus assumption))
  refine Ow.mapUpdate rfl rfl Tryd.underlying126 Tryd.underlying9 rfl rfl rfl (look_same _ _ _) hm (fun o1 hm1 => ?_)
  rw [setB_same]
  have hil := r.id.h
  have hz := show z32.length = 32 by simp [z32]
  refine Ow.run rfl fun k hk => ?_
  simp (disch := (first | omega | (simp only [lenS, lenT, UInt64.reduceToNat] ; try omega))) only [↓vcL_nil, putF_none]
  (with_reducible refine hk _ _ _ _ ?_); clear hk k
  repeat' first | with_reducible (first | refine Cw.seq ?_ | refine thenK_normal ?_ | refine Ow.nil ?_) | ((with_reducible refine Cw.region (Ow.run rfl fun k hk => ?_)); simp (disch := (first | omega | (simp only [lenS, lenT, UInt64.reduceToNat] ; try omega))) only [↓vcL_none, ↓vcB_fieldAddr, Tryd.fl42_1, ↓ev_tmp, ↓getF_s, ↓getF_0, fieldAddr_p, Nat.zero_add, ↓ov_some, putF_some, setF_s, setF_0, nf_cons, ↓vcB_load, Md.next_seq, rd_seq_load, ↓ib_true, Tryd.ag40, loadAt_p, read_other, read_same, load_ref1, ↓vcB_build]; (with_reducible refine hk _ _ _ _ ?_); clear hk k) | with_reducible (first | refine Cw.block ?_ | refine Cw.skip ?_ | refine Cw.exit ?_ | refine Cw.ret ?_ | refine thenK_exit ?_ | refine thenK_ret ?_ | refine blockK_normal ?_ | refine blockK_ret ?_ | refine blockK_exit ?_ | refine blockK_pass rfl ?_) | ((with_reducible refine Cw.condC ?_); first | refine CwC.pt rfl (by omega) ?_ | refine CwC.pf rfl (by omega) ?_ | refine CwC.it rfl (by omega) ?_ | refine CwC.if rfl (by omega) ?_ | refine CwC.nt rfl (by omega) ?_ | refine CwC.nf rfl (by omega) ?_ | refine CwC.tt rfl ?_ | refine CwC.ff rfl ?_ | refine CwC.bt rfl (by assumption) ?_ | (refine CwC.bf rfl ?_ ?_; focus assumption))
  refine Ow.build (.agg (a8 z32)) rfl (by kernel_rfl) ?_
  refine Ow.run rfl fun k hk => ?_
  simp (disch := (first | omega | (simp only [lenS, lenT, UInt64.reduceToNat] ; try omega))) only [↓vcL_none, ↓vcB_binOp, ↓ev_tmp, putF_some, setF_s, setF_0, ↓getF_s, ↓getF_0, eqId, ↓ov_some, nf_cons, ↓vcL_nil, Md.next_seq]
  (with_reducible refine hk _ _ _ _ ?_); clear hk k
  unfold setV
  cases hid : (r.id.l == z32)
  · simp only [Bool.false_eq_true, ↓reduceIte]
    repeat' first | with_reducible (first | refine Cw.seq ?_ | refine thenK_normal ?_ | refine Ow.nil ?_) | ((with_reducible refine Cw.region (Ow.run rfl fun k hk => ?_)); simp (disch := (first | omega | (simp only [lenS, lenT, UInt64.reduceToNat] ; try omega))) only []; (with_reducible refine hk _ _ _ _ ?_); clear hk k) | with_reducible (first | refine Cw.block ?_ | refine Cw.skip ?_ | refine Cw.exit ?_ | refine Cw.ret ?_ | refine thenK_exit ?_ | refine thenK_ret ?_ | refine blockK_normal ?_ | refine blockK_ret ?_ | refine blockK_exit ?_ | refine blockK_pass rfl ?_) | ((with_reducible refine Cw.condC ?_); first | refine CwC.pt rfl (by omega) ?_ | refine CwC.pf rfl (by omega) ?_ | refine CwC.it rfl (by omega) ?_ | refine CwC.if rfl (by omega) ?_ | refine CwC.nt rfl (by omega) ?_ | refine CwC.nf rfl (by omega) ?_ | refine CwC.tt rfl ?_ | refine CwC.ff rfl ?_ | refine CwC.bt rfl (by assumption) ?_ | (refine CwC.bf rfl ?_ ?_; focus assumption))
    refine Cw.region ?_
    refine Ow.value rfl rfl rfl ?_
    refine Ow.lenMap rfl rfl Tryd.underlying126 rfl (read_same _ _ _ _) hm1 ?_
    refine Ow.run rfl fun k hk => ?_
    simp (disch := (first | omega | (simp only [lenS, lenT, UInt64.reduceToNat] ; try omega))) only [↓vcL_none, ↓vcB_binOp, ↓ev_tmp, ↓getF_0, putF_some, setF_s, setF_0, ↓getF_s, ↓ev_const, lit_i64, binX_vi_vi, bin_leq_i, ↓ov_some, nf_cons, ↓vcB_assign, ↓vcL_nil, Md.next_seq]
    (with_reducible refine hk _ _ _ _ ?_); clear hk k
    repeat' first | with_reducible (first | refine Cw.seq ?_ | refine thenK_normal ?_ | refine Ow.nil ?_) | ((with_reducible refine Cw.region (Ow.run rfl fun k hk => ?_)); simp (disch := (first | omega | (simp only [lenS, lenT, UInt64.reduceToNat] ; try omega))) only []; (with_reducible refine hk _ _ _ _ ?_); clear hk k) | with_reducible (first | refine Cw.block ?_ | refine Cw.skip ?_ | refine Cw.exit ?_ | refine Cw.ret ?_ | refine thenK_exit ?_ | refine thenK_ret ?_ | refine blockK_normal ?_ | refine blockK_ret ?_ | refine blockK_exit ?_ | refine blockK_pass rfl ?_) | ((with_reducible refine Cw.condC ?_); first | refine CwC.pt rfl (by omega) ?_ | refine CwC.pf rfl (by omega) ?_ | refine CwC.it rfl (by omega) ?_ | refine CwC.if rfl (by omega) ?_ | refine CwC.nt rfl (by omega) ?_ | refine CwC.nf rfl (by omega) ?_ | refine CwC.tt rfl ?_ | refine CwC.ff rfl ?_ | refine CwC.bt rfl (by assumption) ?_ | (refine CwC.bf rfl ?_ ?_; focus assumption))
    refine ⟨_, _, _, (by simp (disch := omega) only [resVs_cons, resV_tmp, getF_s, getF_0, resVs_nil, cons2_some]; rfl), rfl, ⟨hw1, trivial⟩, ?_, hm1⟩
    exact congrArg Value.bool (decide_eq_decide.2 (by omega))
  · simp only [↓reduceIte]
    repeat' first | with_reducible (first | refine Cw.seq ?_ | refine thenK_normal ?_ | refine Ow.nil ?_) | ((with_reducible refine Cw.region (Ow.run rfl fun k hk => ?_)); simp (disch := (first | omega | (simp only [lenS, lenT, UInt64.reduceToNat] ; try omega))) only [↓vcL_none, ↓vcB_move, ↓ov_some, ↓ev_tmp, ↓getF_0, putF_some, setF_s, setF_0, nf_cons, ↓vcB_fieldAddr, Tryd.fl42_0, ↓getF_s, fieldAddr_p, Nat.add_zero, ↓vcB_load, Md.next_seq, rd_seq_load, ↓ib_true, Tryd.ag9, loadAt_p, read_other, read_same, load_ref0, ↓vcB_delete]; (with_reducible refine hk _ _ _ _ ?_); clear hk k) | with_reducible (first | refine Cw.block ?_ | refine Cw.skip ?_ | refine Cw.exit ?_ | refine Cw.ret ?_ | refine thenK_exit ?_ | refine thenK_ret ?_ | refine blockK_normal ?_ | refine blockK_ret ?_ | refine blockK_exit ?_ | refine blockK_pass rfl ?_) | ((with_reducible refine Cw.condC ?_); first | refine CwC.pt rfl (by omega) ?_ | refine CwC.pf rfl (by omega) ?_ | refine CwC.it rfl (by omega) ?_ | refine CwC.if rfl (by omega) ?_ | refine CwC.nt rfl (by omega) ?_ | refine CwC.nf rfl (by omega) ?_ | refine CwC.tt rfl ?_ | refine CwC.ff rfl ?_ | refine CwC.bt rfl (by assumption) ?_ | (refine CwC.bf rfl ?_ ?_; focus assumption))
    refine Ow.mapDelete rfl rfl Tryd.underlying126 Tryd.underlying9 rfl rfl (look_same _ _ _) hm1 (fun o2 hm2 => ?_)
    rw [setB_same]
    refine Ow.run rfl fun k hk => ?_
    simp (disch := (first | omega | (simp only [lenS, lenT, UInt64.reduceToNat] ; try omega))) only [↓vcL_nil, putF_none]
    (with_reducible refine hk _ _ _ _ ?_); clear hk k
    repeat' first | with_reducible (first | refine Cw.seq ?_ | refine thenK_normal ?_ | refine Ow.nil ?_) | ((with_reducible refine Cw.region (Ow.run rfl fun k hk => ?_)); simp (disch := (first | omega | (simp only [lenS, lenT, UInt64.reduceToNat] ; try omega))) only []; (with_reducible refine hk _ _ _ _ ?_); clear hk k) | with_reducible (first | refine Cw.block ?_ | refine Cw.skip ?_ | refine Cw.exit ?_ | refine Cw.ret ?_ | refine thenK_exit ?_ | refine thenK_ret ?_ | refine blockK_normal ?_ | refine blockK_ret ?_ | refine blockK_exit ?_ | refine blockK_pass rfl ?_) | ((with_reducible refine Cw.condC ?_); first | refine CwC.pt rfl (by omega) ?_ | refine CwC.pf rfl (by omega) ?_ | refine CwC.it rfl (by omega) ?_ | refine CwC.if rfl (by omega) ?_ | refine CwC.nt rfl (by omega) ?_ | refine CwC.nf rfl (by omega) ?_ | refine CwC.tt rfl ?_ | refine CwC.ff rfl ?_ | refine CwC.bt rfl (by assumption) ?_ | (refine CwC.bf rfl ?_ ?_; focus assumption))
    refine Cw.region ?_
    refine Ow.value rfl rfl rfl ?_
    refine Ow.lenMap rfl rfl Tryd.underlying126 rfl (read_same _ _ _ _) hm2 ?_
    refine Ow.run rfl fun k hk => ?_
    simp (disch := (first | omega | (simp only [lenS, lenT, UInt64.reduceToNat] ; try omega))) only [↓vcL_none, ↓vcB_binOp, ↓ev_tmp, ↓getF_0, putF_some, setF_s, setF_0, ↓getF_s, ↓ev_const, lit_i64, binX_vi_vi, bin_leq_i, ↓ov_some, nf_cons, ↓vcB_assign, ↓vcL_nil, Md.next_seq]
    (with_reducible refine hk _ _ _ _ ?_); clear hk k
    repeat' first | with_reducible (first | refine Cw.seq ?_ | refine thenK_normal ?_ | refine Ow.nil ?_) | ((with_reducible refine Cw.region (Ow.run rfl fun k hk => ?_)); simp (disch := (first | omega | (simp only [lenS, lenT, UInt64.reduceToNat] ; try omega))) only []; (with_reducible refine hk _ _ _ _ ?_); clear hk k) | with_reducible (first | refine Cw.block ?_ | refine Cw.skip ?_ | refine Cw.exit ?_ | refine Cw.ret ?_ | refine thenK_exit ?_ | refine thenK_ret ?_ | refine blockK_normal ?_ | refine blockK_ret ?_ | refine blockK_exit ?_ | refine blockK_pass rfl ?_) | ((with_reducible refine Cw.condC ?_); first | refine CwC.pt rfl (by omega) ?_ | refine CwC.pf rfl (by omega) ?_ | refine CwC.it rfl (by omega) ?_ | refine CwC.if rfl (by omega) ?_ | refine CwC.nt rfl (by omega) ?_ | refine CwC.nf rfl (by omega) ?_ | refine CwC.tt rfl ?_ | refine CwC.ff rfl ?_ | refine CwC.bt rfl (by assumption) ?_ | (refine CwC.bf rfl ?_ ?_; focus assumption))
    refine ⟨_, _, _, (by simp (disch := omega) only [resVs_cons, resV_tmp, getF_s, getF_0, resVs_nil, cons2_some]; rfl), rfl, ⟨hw1, trivial⟩, ?_, hm2⟩
    exact congrArg Value.bool (decide_eq_decide.2 (by omega))
end Go.Proofs
open Go Go.Proofs Go.Sx
namespace Go.Proofs
set_option maxRecDepth 10000
set_option maxHeartbeats 4000000
set_option linter.unusedSimpArgs false
theorem build_ref (n : List UInt8) (id : IdL) : buildV (plcT Tryd.prog 42) (zeroV Tryd.prog 42) [(0, vs n), (1, .agg (a8 id.l))] = some (.agg (refC ⟨n, id⟩).toArray) := by
  have hz : zeroV Tryd.prog 42 = some (.agg (vs [] :: (List.replicate 32 (0 : UInt8)).map v8).toArray) := Tryd.zr42
  rw [Tryd.pc42, hz]
  have h1 : (Value.cells (vs n)) = #[vs n] := rfl
  have h2 : Value.cells (.agg (a8 id.l)) = (id.l.map v8).toArray := cells_agg _
  have hp1 : putC (vs [] :: (List.replicate 32 (0 : UInt8)).map v8).toArray 0 [vs n] = (vs n :: (List.replicate 32 (0 : UInt8)).map v8).toArray := rfl
  have hp2 := putC_app (id.l.map v8) [vs n] ((List.replicate 32 (0 : UInt8)).map v8) (by simp [id.h])
  simp only [List.cons_append, List.nil_append, List.length_cons, List.length_nil, Nat.zero_add] at hp2
  have hd : List.drop (id.l.map v8).length ((List.replicate 32 (0 : UInt8)).map v8) = [] := List.drop_eq_nil_of_le (by simp [id.h])
  rw [hd, List.append_nil] at hp2
  have s1 : (vs [] :: (List.replicate 32 (0 : UInt8)).map v8).toArray.size = 33 := by simp
  have s2 : (vs n :: (List.replicate 32 (0 : UInt8)).map v8).toArray.size = 33 := by simp
  have s3 : (id.l.map v8).toArray.size = 32 := by simp [id.h]
  simp only [buildV, fillV, List.getElem?_cons_zero, List.getElem?_cons_succ, h1, h2, s3]
  rw [if_pos ⟨rfl, by rw [s1]; decide⟩, if_pos ⟨trivial, by rw [hp1, s2]; decide⟩, hp1, hp2]
  rfl
theorem idR_len {s : List UInt8} {a : Nat} {e : Int} (ha : a ≤ s.length) : (idR s a e).1.length = 32 := by
  unfold idR
  simp only
  split
  · assumption
  · simp [z32]
theorem idR_le {s : List UInt8} {a : Nat} {e : Int} (ha : a ≤ s.length) : a ≤ (idR s a e).2.1 ∧ (idR s a e).2.1 ≤ s.length := rawR_le ha
theorem textR_le {s : List UInt8} {a : Nat} {e most : Int} (ha : a ≤ s.length) : a ≤ (textR s a e most).2.1 ∧ (textR s a e most).2.1 ≤ s.length := by
  have hp := numR_le (e := e) (most := most) ha
  have hq := rawR_le (e := (numR s a e most).2.2) (n := (numR s a e most).1) hp.2
  unfold textR
  simp only
  split
  · exact ⟨Nat.le_refl _, ha⟩
  · exact ⟨by omega, hq.2⟩
theorem store_ref (old : Array Value) (r : RefL) (E : TypeId) (h : old.size = 33) : storeV (some (true, 33)) (some (.cells old E (0, 0))) 0 (.agg (refC r).toArray) = some (.cells (refC r).toArray E (0, 0)) := by
  have h1 : Value.cells (.agg (refC r).toArray) = (refC r).toArray := cells_agg _
  have hp := putC_app (refC r) [] old.toList (by rw [refC_len, Array.length_toList, h]; exact Nat.le_refl _)
  simp only [List.nil_append, List.length_nil, Array.toArray_toList] at hp
  have hd : List.drop (refC r).length old.toList = [] := List.drop_eq_nil_of_le (by rw [refC_len, Array.length_toList, h]; exact Nat.le_refl _)
  rw [hd, List.append_nil] at hp
  have ho : (refC r).all Value.oneCell' = true := by
    unfold refC
    rw [List.all_cons, List.all_map, Bool.and_eq_true]
    exact ⟨rfl, List.all_eq_true.2 fun x _ => rfl⟩
  unfold storeV
  simp only [h1]
  rw [if_pos ⟨by rw [List.size_toArray, refC_len], by omega, .inl (Nat.le_refl 0), ho⟩, hp]
theorem load_ref (r : RefL) (E : TypeId) : loadV (some (true, 33)) (some (.cells (refC r).toArray E (0, 0))) 0 = some (.agg (refC r).toArray) := load_all _ E (0, 0) 33 (by rw [List.size_toArray, refC_len])
theorem store_rr (r r' : RefL) (E : TypeId) : storeV (some (true, 33)) (some (.cells (refC r').toArray E (0, 0))) 0 (.agg (refC r).toArray) = some (.cells (refC r).toArray E (0, 0)) := store_ref _ _ _ (by rw [List.size_toArray, refC_len])
def ref0 : RefL := ⟨[], id0⟩
theorem zrRef : zeroV Tryd.prog 42 = some (.agg (refC ref0).toArray) := Tryd.zr42
/-- A ref. -/
def oneR (s : List UInt8) (a : Nat) (e : Int) (ha : a ≤ s.length) : RefL × Nat × Int :=
  (⟨(textR s a e 32).1, ⟨(idR s (textR s a e 32).2.1 (textR s a e 32).2.2).1, idR_len (textR_le ha).2⟩⟩, (idR s (textR s a e 32).2.1 (textR s a e 32).2.2).2)
theorem one_spec (b : Nat) (s : List UInt8) (a : Nat) (e : Int) (w : World) (ha : a ≤ s.length) (hs : s.length < 1099511627776) (ho : w.heap[b]? = some (.cells #[vs s, vi a, vi e] 139 (0, 0))) :
    Rets Tryd.prog 44 #[vp b 0] w (fun v D => ∃ o, D = [(b, o)] ∧ v = .agg (refC (oneR s a e ha).1).toArray ∧ o = .cells #[vs s, vi (oneR s a e ha).2.1, vi (oneR s a e ha).2.2] 139 (0, 0)) := by
  have hbl := (Array.getElem?_eq_some_iff.1 ho).1
  have ht := textR_le (e := e) (most := 32) ha
  unfold oneR
  refine Rets.enterM Tryd.func44 rfl (rs := [.cell 2 42]) Tryd.results44 Tryd.ntmps44 ho ?_
  simp only [List.size_toArray, List.length_cons, List.length_nil, Nat.reduceAdd, Nat.reduceSub, List.replicate_succ, List.replicate_zero, List.cons_append, List.nil_append]
  repeat' first | with_reducible (first | refine Cw.seq ?_ | refine thenK_normal ?_ | refine Ow.nil ?_) | ((with_reducible refine Cw.region (Ow.run rfl fun k hk => ?_)); simp (disch := (first | omega | (simp only [lenS, lenT, UInt64.reduceToNat] ; try omega))) only [↓vcL_none, ↓vcB_alloc]; (with_reducible refine hk _ _ _ _ ?_); clear hk k) | with_reducible (first | refine Cw.block ?_ | refine Cw.skip ?_ | refine Cw.exit ?_ | refine Cw.ret ?_ | refine thenK_exit ?_ | refine thenK_ret ?_ | refine blockK_normal ?_ | refine blockK_ret ?_ | refine blockK_exit ?_ | refine blockK_pass rfl ?_) | ((with_reducible refine Cw.condC ?_); first | refine CwC.pt rfl (by omega) ?_ | refine CwC.pf rfl (by omega) ?_ | refine CwC.it rfl (by omega) ?_ | refine CwC.if rfl (by omega) ?_ | refine CwC.nt rfl (by omega) ?_ | refine CwC.nf rfl (by omega) ?_ | refine CwC.tt rfl ?_ | refine CwC.ff rfl ?_ | refine CwC.bt rfl (by assumption) ?_ | (refine CwC.bf rfl ?_ ?_; focus assumption))
  refine Ow.alloc rfl rfl zrRef fun b1 hb1 hw1 => ?_
  rw [cells_ref]
  obtain ⟨h01, -⟩ := hb1
  refine Ow.run rfl fun k hk => ?_
  simp (disch := (first | omega | (simp only [lenS, lenT, UInt64.reduceToNat] ; try omega))) only [↓vcL_nil, putF_some, setF_s, setF_0, List.cons_append, List.nil_append]
  (with_reducible refine hk _ _ _ _ ?_); clear hk k
  repeat' first | with_reducible (first | refine Cw.seq ?_ | refine thenK_normal ?_ | refine Ow.nil ?_) | ((with_reducible refine Cw.region (Ow.run rfl fun k hk => ?_)); simp (disch := (first | omega | (simp only [lenS, lenT, UInt64.reduceToNat] ; try omega))) only [↓vcL_none, ↓vcB_move, ↓ov_some, ↓ev_tmp, ↓getF_0, putF_some, setF_s, setF_0, nf_cons, ↓vcB_call, Md.next_seq, lit_i64]; (with_reducible refine hk _ _ _ _ ?_); clear hk k) | with_reducible (first | refine Cw.block ?_ | refine Cw.skip ?_ | refine Cw.exit ?_ | refine Cw.ret ?_ | refine thenK_exit ?_ | refine thenK_ret ?_ | refine blockK_normal ?_ | refine blockK_ret ?_ | refine blockK_exit ?_ | refine blockK_pass rfl ?_) | ((with_reducible refine Cw.condC ?_); first | refine CwC.pt rfl (by omega) ?_ | refine CwC.pf rfl (by omega) ?_ | refine CwC.it rfl (by omega) ?_ | refine CwC.if rfl (by omega) ?_ | refine CwC.nt rfl (by omega) ?_ | refine CwC.nf rfl (by omega) ?_ | refine CwC.tt rfl ?_ | refine CwC.ff rfl ?_ | refine CwC.bt rfl (by assumption) ?_ | (refine CwC.bf rfl ?_ ?_; focus assumption))
  refine Ow.callM rfl rfl Tryd.call83 (by simp [keys]) (fun w' hw' => RText_spec b s a e 32 w' ha hs (hw'.has _ _ List.mem_cons_self)) ?_
  refine Ow.run rfl fun k hk => ?_
  simp (disch := (first | omega | (simp only [lenS, lenT, UInt64.reduceToNat] ; try omega))) only [↓vcL_none, ↓vcB_move, ↓ov_some, putF_some, setF_s, setF_0, ↓ev_tmp, ↓getF_0, nf_cons, ↓vcB_call, Md.next_seq, setB_same]
  (with_reducible refine hk _ _ _ _ ?_); clear hk k
  refine Ow.callM rfl rfl Tryd.call87 (by simp [keys]) (fun w' hw' => RId_spec b s _ _ w' ht.2 hs (hw'.has _ _ List.mem_cons_self)) ?_
  rw [setB_same]
  refine Ow.build _ rfl (build_ref (textR s a e 32).1 ⟨(idR s (textR s a e 32).2.1 (textR s a e 32).2.2).1, idR_len (textR_le ha).2⟩) ?_
  generalize (⟨(textR s a e 32).1, ⟨(idR s (textR s a e 32).2.1 (textR s a e 32).2.2).1, idR_len (textR_le ha).2⟩⟩ : RefL) = r
  generalize hq : (idR s (textR s a e 32).2.1 (textR s a e 32).2.2).2 = q
  refine Ow.run rfl fun k hk => ?_
  simp (disch := (first | omega | (simp only [lenS, lenT, UInt64.reduceToNat] ; try omega))) only [↓vcL_none, ↓vcB_store, Tryd.ag42, ↓ev_tmp, putF_some, setF_s, setF_0, ↓getF_s, ↓getF_0, storeAt_p, look_other, look_same, store_rr, upd_some, setB_other, setB_same, oh_some, ↓vcL_nil, Md.next_seq, nh_cons]
  (with_reducible refine hk _ _ _ _ ?_); clear hk k
  repeat' first | with_reducible (first | refine Cw.seq ?_ | refine thenK_normal ?_ | refine Ow.nil ?_) | ((with_reducible refine Cw.region (Ow.run rfl fun k hk => ?_)); simp (disch := (first | omega | (simp only [lenS, lenT, UInt64.reduceToNat] ; try omega))) only []; (with_reducible refine hk _ _ _ _ ?_); clear hk k) | with_reducible (first | refine Cw.block ?_ | refine Cw.skip ?_ | refine Cw.exit ?_ | refine Cw.ret ?_ | refine thenK_exit ?_ | refine thenK_ret ?_ | refine blockK_normal ?_ | refine blockK_ret ?_ | refine blockK_exit ?_ | refine blockK_pass rfl ?_) | ((with_reducible refine Cw.condC ?_); first | refine CwC.pt rfl (by omega) ?_ | refine CwC.pf rfl (by omega) ?_ | refine CwC.it rfl (by omega) ?_ | refine CwC.if rfl (by omega) ?_ | refine CwC.nt rfl (by omega) ?_ | refine CwC.nf rfl (by omega) ?_ | refine CwC.tt rfl ?_ | refine CwC.ff rfl ?_ | refine CwC.bt rfl (by assumption) ?_ | (refine CwC.bf rfl ?_ ?_; focus assumption))
  refine ⟨_, _, _, (by simp (disch := (first | omega | (simp only [lenS, lenT, UInt64.reduceToNat] ; try omega))) only [resVs_cons, resV_cell, Tryd.ag42, ↓getF_s, ↓getF_0, loadAt_p, read_other, read_same, load_ref, resVs_nil, cons2_some]; rfl), rfl, ⟨hw1, trivial⟩, ?_⟩
  exact ⟨rfl, rfl⟩
/-- A record that begins so: what stands in it; the reader behind it. -/
def recR (s : List UInt8) (a : Nat) (e : Int) (p : List UInt8) : Option (List UInt8) × Nat × Int :=
  let t := textR s a e 65536
  let u := unsealV t.1
  let c := cutP u.1 p
  (if u.2 = true ∧ c.2 = true ∧ t.2.2 = 0 then some c.1 else none, t.2)
end Go.Proofs
open Go Go.Proofs Go.Sx
namespace Go.Proofs
set_option maxRecDepth 10000
set_option maxHeartbeats 4000000
set_option linter.unusedSimpArgs false
theorem textR_len {s : List UInt8} {a : Nat} {e most : Int} (hs : s.length < 1099511627776) : (textR s a e most).1.length < 1099511627776 := by
  have : ∀ (b : Nat) (e n : Int), (rawR s b e n).1.length ≤ s.length := by
    intro b e n
    unfold rawR
    split
    · simp
    · split
      · simp
      · split
        · simp
        · simp only [List.length_take, List.length_drop]; omega
  unfold textR
  simp only
  split
  · simp
  · exact Nat.lt_of_le_of_lt (this _ _ _) hs
theorem unsealV_len (s : List UInt8) : (unsealV s).1.length ≤ s.length := by
  unfold unsealV
  split
  · simp
  · split
    · simp only [List.length_take]; omega
    · simp
/-- What unrecord leaves: the reader; and another one, if a record stood there. -/
def RecS (s : List UInt8) (a : Nat) (e : Int) (p : List UInt8) (b n : Nat) (v : Value) (D : Heap) : Prop :=
  ((recR s a e p).1 = none ∧ v = .pointer none ∧ D = [(b, .cells #[vs s, vi (recR s a e p).2.1, vi (recR s a e p).2.2] 139 (0, 0))]) ∨
  ∃ b' c, (recR s a e p).1 = some c ∧ v = vp b' 0 ∧ n ≤ b' ∧ b ≠ b' ∧ D = [(b, .cells #[vs s, vi (recR s a e p).2.1, vi (recR s a e p).2.2] 139 (0, 0)), (b', .cells #[vs c, vi 0, vi 0] 139 (0, 0))]
theorem recR_len {s : List UInt8} {a : Nat} {e : Int} {p c : List UInt8} (hs : s.length < 1099511627776) (h : (recR s a e p).1 = some c) : c.length < 1099511627776 := by
  have h1 := textR_len (a := a) (e := e) (most := 65536) hs
  have h2 := unsealV_len (textR s a e 65536).1
  unfold recR at h
  simp only at h
  split at h
  · simp only [Option.some.injEq] at h
    subst h
    unfold cutP
    split
    · simp only [List.length_drop]; omega
    · simp only; omega
  · cases h
theorem recR_err {s : List UInt8} {a : Nat} {e : Int} {p c : List UInt8} (h : (recR s a e p).1 = some c) : (recR s a e p).2.2 = 0 := by
  unfold recR at h ⊢
  simp only at h ⊢
  split at h
  · rename_i hh; exact hh.2.2
  · cases h
theorem unrecord_spec (b : Nat) (s : List UInt8) (a : Nat) (e : Int) (p : List UInt8) (w : World) (hG : GlobC w) (hbg : b ≠ 3) (ha : a ≤ s.length) (hs : s.length < 1099511627776) (ho : w.heap[b]? = some (.cells #[vs s, vi a, vi e] 139 (0, 0))) :
    Rets Tryd.prog 42 #[vp b 0, vs p] w (XS w [(b, .cells #[vs s, vi a, vi e] 139 (0, 0))] (RecS s a e p b 0)) := by
  have hbl := (Array.getElem?_eq_some_iff.1 ho).1
  have htl := textR_len (a := a) (e := e) (most := 65536) hs
  have hul := unsealV_len (textR s a e 65536).1
  have hr : recR s a e p = (if (unsealV (textR s a e 65536).1).2 = true ∧ (cutP (unsealV (textR s a e 65536).1).1 p).2 = true ∧ (textR s a e 65536).2.2 = 0 then some (cutP (unsealV (textR s a e 65536).1).1 p).1 else none, (textR s a e 65536).2) := rfl
  unfold RecS
  rw [hr]
  have hX0 : ∀ q, q ∈ [(b, Obj.cells #[vs s, vi a, vi e] 139 (0, 0))] → w.heap[q.1]? = some q.2 := by
    intro q hq
    obtain rfl := List.mem_singleton.1 hq
    exact ho
  refine Rets.enterX Tryd.func42 rfl (rs := [.tmp 4]) Tryd.results42 Tryd.ntmps42 hX0 (by simp [keys]) ?_
  simp only [List.size_toArray, List.length_cons, List.length_nil, Nat.reduceAdd, Nat.reduceSub, List.replicate_succ, List.replicate_zero, List.cons_append, List.nil_append]
  repeat' first | with_reducible (first | refine Cw.seq ?_ | refine thenK_normal ?_ | refine Ow.nil ?_) | ((with_reducible refine Cw.region (Ow.run rfl fun k hk => ?_)); simp (disch := (first | omega | (simp only [lenS, lenT, UInt64.reduceToNat] ; try omega))) only [↓vcL_none, ↓vcB_assign, ↓ov_some, ↓ev_const, putF_some, setF_s, setF_0, nf_cons, ↓vcL_nil, Md.next_seq, ↓vcB_move, ↓ev_tmp, ↓getF_0, ↓vcB_call, lit_i64]; (with_reducible refine hk _ _ _ _ ?_); clear hk k) | with_reducible (first | refine Cw.block ?_ | refine Cw.skip ?_ | refine Cw.exit ?_ | refine Cw.ret ?_ | refine thenK_exit ?_ | refine thenK_ret ?_ | refine blockK_normal ?_ | refine blockK_ret ?_ | refine blockK_exit ?_ | refine blockK_pass rfl ?_) | ((with_reducible refine Cw.condC ?_); first | refine CwC.pt rfl (by omega) ?_ | refine CwC.pf rfl (by omega) ?_ | refine CwC.it rfl (by omega) ?_ | refine CwC.if rfl (by omega) ?_ | refine CwC.nt rfl (by omega) ?_ | refine CwC.nf rfl (by omega) ?_ | refine CwC.tt rfl ?_ | refine CwC.ff rfl ?_ | refine CwC.bt rfl (by assumption) ?_ | (refine CwC.bf rfl ?_ ?_; focus assumption))
  refine Ow.callM rfl rfl Tryd.call83 (by simp [keys]) (fun w' hw' => RText_spec b s a e 65536 w' ha hs (hw'.has _ _ List.mem_cons_self)) ?_
  rw [setB_same]
  generalize textR s a e 65536 = t at *
  obtain ⟨t, a2, e2⟩ := t
  simp only at htl hul ⊢
  refine Ow.run rfl fun k hk => ?_
  simp (disch := (first | omega | (simp only [lenS, lenT, UInt64.reduceToNat] ; try omega))) only [↓vcL_none, ↓vcB_call, putF_some, setF_s, setF_0]
  (with_reducible refine hk _ _ _ _ ?_); clear hk k
  refine Ow.callFV rfl Tryd.call82 (fun w' hw' => cUnseal_spec t w' (GlobC.of hG hw' (by simp [keys]; omega)) htl) ?_
  generalize unsealV t = u at *
  obtain ⟨u, ok⟩ := u
  simp only at hul ⊢
  refine Ow.run rfl fun k hk => ?_
  simp (disch := (first | omega | (simp only [lenS, lenT, UInt64.reduceToNat] ; try omega))) only [↓vcL_none, ↓vcB_move, ↓ov_some, putF_some, setF_s, setF_0, ↓ev_tmp, ↓getF_s, ↓getF_0, nf_cons, ↓vcB_extract, extract_t, tup2_0, tup2_1, ↓vcB_assign, ↓vcL_nil, Md.next_seq]
  (with_reducible refine hk _ _ _ _ ?_); clear hk k
  repeat' first | with_reducible (first | refine Cw.seq ?_ | refine thenK_normal ?_ | refine Ow.nil ?_) | ((with_reducible refine Cw.region (Ow.run rfl fun k hk => ?_)); simp (disch := (first | omega | (simp only [lenS, lenT, UInt64.reduceToNat] ; try omega))) only [↓vcL_none, ↓vcB_move, ↓ov_some, ↓ev_tmp, ↓getF_s, ↓getF_0, putF_some, setF_s, setF_0, nf_cons, ↓vcB_call, Md.next_seq]; (with_reducible refine hk _ _ _ _ ?_); clear hk k) | with_reducible (first | refine Cw.block ?_ | refine Cw.skip ?_ | refine Cw.exit ?_ | refine Cw.ret ?_ | refine thenK_exit ?_ | refine thenK_ret ?_ | refine blockK_normal ?_ | refine blockK_ret ?_ | refine blockK_exit ?_ | refine blockK_pass rfl ?_) | ((with_reducible refine Cw.condC ?_); first | refine CwC.pt rfl (by omega) ?_ | refine CwC.pf rfl (by omega) ?_ | refine CwC.it rfl (by omega) ?_ | refine CwC.if rfl (by omega) ?_ | refine CwC.nt rfl (by omega) ?_ | refine CwC.nf rfl (by omega) ?_ | refine CwC.tt rfl ?_ | refine CwC.ff rfl ?_ | refine CwC.bt rfl (by assumption) ?_ | (refine CwC.bf rfl ?_ ?_; focus assumption))
  refine Ow.callFV rfl Tryd.call84 (fun w' hw' => CutPrefix_spec u p w' (by omega)) ?_
  generalize cutP u p = c at *
  obtain ⟨c, is⟩ := c
  simp only
  refine Ow.run rfl fun k hk => ?_
  simp (disch := (first | omega | (simp only [lenS, lenT, UInt64.reduceToNat] ; try omega))) only [↓vcL_none, ↓vcB_move, ↓ov_some, putF_some, setF_s, setF_0, ↓ev_tmp, ↓getF_s, ↓getF_0, nf_cons, ↓vcB_extract, extract_t, tup2_0, tup2_1, ↓vcB_assign, ↓vcL_nil, Md.next_seq]
  (with_reducible refine hk _ _ _ _ ?_); clear hk k
  repeat' first | with_reducible (first | refine Cw.seq ?_ | refine thenK_normal ?_ | refine Ow.nil ?_) | ((with_reducible refine Cw.region (Ow.run rfl fun k hk => ?_)); simp (disch := (first | omega | (simp only [lenS, lenT, UInt64.reduceToNat] ; try omega))) only []; (with_reducible refine hk _ _ _ _ ?_); clear hk k) | with_reducible (first | refine Cw.block ?_ | refine Cw.skip ?_ | refine Cw.exit ?_ | refine Cw.ret ?_ | refine thenK_exit ?_ | refine thenK_ret ?_ | refine blockK_normal ?_ | refine blockK_ret ?_ | refine blockK_exit ?_ | refine blockK_pass rfl ?_) | ((with_reducible refine Cw.condC ?_); first | refine CwC.pt rfl (by omega) ?_ | refine CwC.pf rfl (by omega) ?_ | refine CwC.it rfl (by omega) ?_ | refine CwC.if rfl (by omega) ?_ | refine CwC.nt rfl (by omega) ?_ | refine CwC.nf rfl (by omega) ?_ | refine CwC.tt rfl ?_ | refine CwC.ff rfl ?_ | refine CwC.bt rfl (by assumption) ?_ | (refine CwC.bf rfl ?_ ?_; focus assumption))
  cases ok
  · repeat' first | with_reducible (first | refine Cw.seq ?_ | refine thenK_normal ?_ | refine Ow.nil ?_) | ((with_reducible refine Cw.region (Ow.run rfl fun k hk => ?_)); simp (disch := (first | omega | (simp only [lenS, lenT, UInt64.reduceToNat] ; try omega))) only [↓vcL_none, ↓vcB_move, ↓ov_some, ↓ev_tmp, ↓getF_s, ↓getF_0, putF_some, setF_s, setF_0, nf_cons, ↓vcB_unOp, un_not, Bool.not_false, ↓vcL_some, lit_i64, yieldF_lit, ↓nthO_s, ↓nthO_0, yieldL_some, boolOf_b, some_beq, beq_false, Bool.not_true, ↓ib_false, ↓vcB_pick, ↓ev_const, pick_t, ↓vcL_nil, Md.next_seq, ↓vcB_assign]; (with_reducible refine hk _ _ _ _ ?_); clear hk k) | with_reducible (first | refine Cw.block ?_ | refine Cw.skip ?_ | refine Cw.exit ?_ | refine Cw.ret ?_ | refine thenK_exit ?_ | refine thenK_ret ?_ | refine blockK_normal ?_ | refine blockK_ret ?_ | refine blockK_exit ?_ | refine blockK_pass rfl ?_) | ((with_reducible refine Cw.condC ?_); first | refine CwC.pt rfl (by omega) ?_ | refine CwC.pf rfl (by omega) ?_ | refine CwC.it rfl (by omega) ?_ | refine CwC.if rfl (by omega) ?_ | refine CwC.nt rfl (by omega) ?_ | refine CwC.nf rfl (by omega) ?_ | refine CwC.tt rfl ?_ | refine CwC.ff rfl ?_ | refine CwC.bt rfl (by assumption) ?_ | (refine CwC.bf rfl ?_ ?_; focus assumption))
    refine ⟨_, (by simp (disch := (first | omega | (simp only [lenS, lenT, UInt64.reduceToNat] ; try omega))) only [resVs_cons, resV_tmp, ↓getF_s, ↓getF_0, resVs_nil, cons2_some]; rfl), ?_⟩
    exact ⟨Ext.refl _ _ |>.keys rfl, .inl ⟨by simp, rfl, rfl⟩⟩
  · cases is
    · repeat' first | with_reducible (first | refine Cw.seq ?_ | refine thenK_normal ?_ | refine Ow.nil ?_) | ((with_reducible refine Cw.region (Ow.run rfl fun k hk => ?_)); simp (disch := (first | omega | (simp only [lenS, lenT, UInt64.reduceToNat] ; try omega))) only [↓vcL_none, ↓vcB_move, ↓ov_some, ↓ev_tmp, ↓getF_s, ↓getF_0, putF_some, setF_s, setF_0, nf_cons, ↓vcB_unOp, un_not, Bool.not_true, ↓vcL_some, lit_i64, yieldF_lit, ↓nthO_s, ↓nthO_0, yieldL_some, boolOf_b, beq_self_eq_true, ↓ib_true, Bool.not_false, ↓vcB_pick, ↓ev_const, pick_f, some_beq, beq_false, ↓ib_false, pick_t, ↓vcL_nil, Md.next_seq, ↓vcB_assign]; (with_reducible refine hk _ _ _ _ ?_); clear hk k) | with_reducible (first | refine Cw.block ?_ | refine Cw.skip ?_ | refine Cw.exit ?_ | refine Cw.ret ?_ | refine thenK_exit ?_ | refine thenK_ret ?_ | refine blockK_normal ?_ | refine blockK_ret ?_ | refine blockK_exit ?_ | refine blockK_pass rfl ?_) | ((with_reducible refine Cw.condC ?_); first | refine CwC.pt rfl (by omega) ?_ | refine CwC.pf rfl (by omega) ?_ | refine CwC.it rfl (by omega) ?_ | refine CwC.if rfl (by omega) ?_ | refine CwC.nt rfl (by omega) ?_ | refine CwC.nf rfl (by omega) ?_ | refine CwC.tt rfl ?_ | refine CwC.ff rfl ?_ | refine CwC.bt rfl (by assumption) ?_ | (refine CwC.bf rfl ?_ ?_; focus assumption))
      refine ⟨_, (by simp (disch := (first | omega | (simp only [lenS, lenT, UInt64.reduceToNat] ; try omega))) only [resVs_cons, resV_tmp, ↓getF_s, ↓getF_0, resVs_nil, cons2_some]; rfl), ?_⟩
      exact ⟨Ext.refl _ _ |>.keys rfl, .inl ⟨by simp, rfl, rfl⟩⟩
    · repeat' first | with_reducible (first | refine Cw.seq ?_ | refine thenK_normal ?_ | refine Ow.nil ?_) | ((with_reducible refine Cw.region (Ow.run rfl fun k hk => ?_)); simp (disch := (first | omega | (simp only [lenS, lenT, UInt64.reduceToNat] ; try omega))) only [↓vcL_none, ↓vcB_move, ↓ov_some, ↓ev_tmp, ↓getF_s, ↓getF_0, putF_some, setF_s, setF_0, nf_cons, ↓vcB_unOp, un_not, Bool.not_true, ↓vcL_some, lit_i64, yieldF_lit, ↓nthO_s, ↓nthO_0, yieldL_some, boolOf_b, beq_self_eq_true, ↓ib_true, ↓vcB_pick, ↓ev_const, pick_f, ↓vcB_call, Md.next_seq]; (with_reducible refine hk _ _ _ _ ?_); clear hk k) | with_reducible (first | refine Cw.block ?_ | refine Cw.skip ?_ | refine Cw.exit ?_ | refine Cw.ret ?_ | refine thenK_exit ?_ | refine thenK_ret ?_ | refine blockK_normal ?_ | refine blockK_ret ?_ | refine blockK_exit ?_ | refine blockK_pass rfl ?_) | ((with_reducible refine Cw.condC ?_); first | refine CwC.pt rfl (by omega) ?_ | refine CwC.pf rfl (by omega) ?_ | refine CwC.it rfl (by omega) ?_ | refine CwC.if rfl (by omega) ?_ | refine CwC.nt rfl (by omega) ?_ | refine CwC.nf rfl (by omega) ?_ | refine CwC.tt rfl ?_ | refine CwC.ff rfl ?_ | refine CwC.bt rfl (by assumption) ?_ | (refine CwC.bf rfl ?_ ?_; focus assumption))
      refine Ow.callFV rfl Tryd.call85 (fun w' hw' => RErr_spec b s _ e2 w' (hw'.has _ _ List.mem_cons_self)) ?_
      refine Ow.run rfl fun k hk => ?_
      simp (disch := (first | omega | (simp only [lenS, lenT, UInt64.reduceToNat] ; try omega))) only [↓vcL_some, lit_i64, putF_some, setF_s, setF_0, yieldF_lit, ↓nthO_s, ↓nthO_0, yieldL_some, ↓getF_s, ↓getF_0, boolOf_b, beq_self_eq_true, ↓ib_true, ↓vcB_binOp, ↓ev_tmp, ↓ev_const, binX_vi_vi, bin_neq_i, ↓ov_some, nf_cons, ↓vcL_none, ↓vcB_pick, pick_f, ↓vcL_nil, Md.next_seq]
      (with_reducible refine hk _ _ _ _ ?_); clear hk k
      by_cases he : e2 = 0
      · repeat' first | with_reducible (first | refine Cw.seq ?_ | refine thenK_normal ?_ | refine Ow.nil ?_) | ((with_reducible refine Cw.region (Ow.run rfl fun k hk => ?_)); simp (disch := (first | omega | (simp only [lenS, lenT, UInt64.reduceToNat] ; try omega))) only [↓vcL_none, ↓vcB_move, ↓ov_some, ↓ev_tmp, ↓getF_s, ↓getF_0, putF_some, setF_s, setF_0, nf_cons, ↓vcB_call, Md.next_seq]; (with_reducible refine hk _ _ _ _ ?_); clear hk k) | with_reducible (first | refine Cw.block ?_ | refine Cw.skip ?_ | refine Cw.exit ?_ | refine Cw.ret ?_ | refine thenK_exit ?_ | refine thenK_ret ?_ | refine blockK_normal ?_ | refine blockK_ret ?_ | refine blockK_exit ?_ | refine blockK_pass rfl ?_) | ((with_reducible refine Cw.condC ?_); first | refine CwC.pt rfl (by omega) ?_ | refine CwC.pf rfl (by omega) ?_ | refine CwC.it rfl (by omega) ?_ | refine CwC.if rfl (by omega) ?_ | refine CwC.nt rfl (by omega) ?_ | refine CwC.nf rfl (by omega) ?_ | refine CwC.tt rfl ?_ | refine CwC.ff rfl ?_ | refine CwC.bt rfl (by assumption) ?_ | (refine CwC.bf rfl ?_ ?_; focus assumption))
        refine Ow.callF rfl rfl Tryd.call41 (S := fun B v D => ∃ b', B ≤ b' ∧ v = vp b' 0 ∧ D = [(b', .cells #[vs c, vi 0, vi 0] 139 (0, 0))]) (fun w' hw' => RNew_spec c w') ?_
        rintro B v D hab hB ⟨b', hb', rfl, rfl⟩
        refine ⟨_, Mrg.fresh (by intro q hq; simp only [keys, List.map_cons, List.map_nil, List.mem_singleton] at hq; omega), ?_⟩
        obtain ⟨hab1, -⟩ := hab
        refine Ow.run rfl fun k hk => ?_
        simp (disch := (first | omega | (simp only [lenS, lenT, UInt64.reduceToNat] ; try omega))) only [↓vcL_none, ↓vcB_assign, ↓ov_some, putF_some, setF_s, setF_0, ↓ev_tmp, ↓getF_s, ↓getF_0, nf_cons, ↓vcL_nil, Md.next_seq, List.cons_append, List.nil_append]
        (with_reducible refine hk _ _ _ _ ?_); clear hk k
        repeat' first | with_reducible (first | refine Cw.seq ?_ | refine thenK_normal ?_ | refine Ow.nil ?_) | ((with_reducible refine Cw.region (Ow.run rfl fun k hk => ?_)); simp (disch := (first | omega | (simp only [lenS, lenT, UInt64.reduceToNat] ; try omega))) only []; (with_reducible refine hk _ _ _ _ ?_); clear hk k) | with_reducible (first | refine Cw.block ?_ | refine Cw.skip ?_ | refine Cw.exit ?_ | refine Cw.ret ?_ | refine thenK_exit ?_ | refine thenK_ret ?_ | refine blockK_normal ?_ | refine blockK_ret ?_ | refine blockK_exit ?_ | refine blockK_pass rfl ?_) | ((with_reducible refine Cw.condC ?_); first | refine CwC.pt rfl (by omega) ?_ | refine CwC.pf rfl (by omega) ?_ | refine CwC.it rfl (by omega) ?_ | refine CwC.if rfl (by omega) ?_ | refine CwC.nt rfl (by omega) ?_ | refine CwC.nf rfl (by omega) ?_ | refine CwC.tt rfl ?_ | refine CwC.ff rfl ?_ | refine CwC.bt rfl (by assumption) ?_ | (refine CwC.bf rfl ?_ ?_; focus assumption))
        refine ⟨_, (by simp (disch := (first | omega | (simp only [lenS, lenT, UInt64.reduceToNat] ; try omega))) only [resVs_cons, resV_tmp, ↓getF_s, ↓getF_0, resVs_nil, cons2_some]; rfl), ?_⟩
        refine ⟨?_, .inr ⟨b', c, by simp [he], rfl, by omega, by omega, rfl⟩⟩
        · exact (Ext.refl _ _ |>.keys rfl : Ext w [(b, Obj.cells #[vs s, vi a, vi e] 139 (0, 0))] [(b, Obj.cells #[vs s, vi a2, vi e2] 139 (0, 0))]).app (by omega)
      · repeat' first | with_reducible (first | refine Cw.seq ?_ | refine thenK_normal ?_ | refine Ow.nil ?_) | ((with_reducible refine Cw.region (Ow.run rfl fun k hk => ?_)); simp (disch := (first | omega | (simp only [lenS, lenT, UInt64.reduceToNat] ; try omega))) only [↓vcL_none, ↓vcB_assign, ↓ov_some, ↓ev_const, putF_some, setF_s, setF_0, nf_cons, ↓vcL_nil, Md.next_seq]; (with_reducible refine hk _ _ _ _ ?_); clear hk k) | with_reducible (first | refine Cw.block ?_ | refine Cw.skip ?_ | refine Cw.exit ?_ | refine Cw.ret ?_ | refine thenK_exit ?_ | refine thenK_ret ?_ | refine blockK_normal ?_ | refine blockK_ret ?_ | refine blockK_exit ?_ | refine blockK_pass rfl ?_) | ((with_reducible refine Cw.condC ?_); first | refine CwC.pt rfl (by omega) ?_ | refine CwC.pf rfl (by omega) ?_ | refine CwC.it rfl (by omega) ?_ | refine CwC.if rfl (by omega) ?_ | refine CwC.nt rfl (by omega) ?_ | refine CwC.nf rfl (by omega) ?_ | refine CwC.tt rfl ?_ | refine CwC.ff rfl ?_ | refine CwC.bt rfl (by assumption) ?_ | (refine CwC.bf rfl ?_ ?_; focus assumption))
        refine ⟨_, (by simp (disch := (first | omega | (simp only [lenS, lenT, UInt64.reduceToNat] ; try omega))) only [resVs_cons, resV_tmp, ↓getF_s, ↓getF_0, resVs_nil, cons2_some]; rfl), ?_⟩
        exact ⟨Ext.refl _ _ |>.keys rfl, .inl ⟨by simp [he], rfl, rfl⟩⟩
end Go.Proofs
open Go Go.Proofs Go.Sx
namespace Go.Proofs
set_option maxRecDepth 10000
set_option maxHeartbeats 4000000
set_option linter.unusedSimpArgs false
theorem refC_one (r : RefL) : (refC r).all Value.oneCell' = true := by
  unfold refC
  rw [List.all_cons, List.all_map, Bool.and_eq_true]
  exact ⟨rfl, List.all_eq_true.2 fun x _ => rfl⟩
abbrev RefSl (w : World) (v : Value) (l : List RefL) : Prop := SlV 33 refC ref0 w v l
theorem nilRefs (b o n c : Nat) : binX Tryd.prog .eql 23 (vsl b o n c) (.slice none 0 0) = some (.bool false) := by
  simp [binX, eqX, plainV, eqNilV, Tryd.underlying23, vsl]
theorem nilRefs' : binX Tryd.prog .eql 23 (.slice none 0 0) (.slice none 0 0) = some (.bool true) := by
  simp [binX, eqX, plainV, eqNilV, Tryd.underlying23]
theorem CloneRef_spec (v : Value) (ls : List RefL) (w : World) (hv : RefSl w v ls) (hl : ls.length < 1000000) :
    Rets Tryd.prog 47 #[v] w (XS w [] (fun v D => Gr D 42 33 v ls.length (ls.map refC).flatten)) := by
  obtain ⟨b, off, c, arr, E, fz, hr, hc, ⟨rfl, rfl, rfl⟩ | ⟨rfl, hb, hsz⟩⟩ := hv
  · refine Rets.enterX Tryd.func47 rfl (rs := [.tmp 2]) Tryd.results47 Tryd.ntmps47 (fun p hp => by cases hp) (by simp [keys]) ?_
    simp only [List.size_toArray, List.length_cons, List.length_nil, Nat.reduceAdd, Nat.reduceSub, List.replicate_succ, List.replicate_zero, List.cons_append, List.nil_append]
    repeat' first | with_reducible (first | refine Cw.seq ?_ | refine thenK_normal ?_ | refine Ow.nil ?_) | ((with_reducible refine Cw.region (Ow.run rfl fun k hk => ?_)); simp (disch := (first | omega | (simp only [lenS, lenT, UInt64.reduceToNat] ; try omega))) only [↓vcL_none, ↓vcB_assign, ↓ov_some, ↓ev_const, putF_some, setF_s, setF_0, nf_cons, ↓vcL_nil, Md.next_seq, ↓vcB_move, ↓ev_tmp, ↓getF_0, ↓vcB_binOp, ↓getF_s, nilRefs']; (with_reducible refine hk _ _ _ _ ?_); clear hk k) | with_reducible (first | refine Cw.block ?_ | refine Cw.skip ?_ | refine Cw.exit ?_ | refine Cw.ret ?_ | refine thenK_exit ?_ | refine thenK_ret ?_ | refine blockK_normal ?_ | refine blockK_ret ?_ | refine blockK_exit ?_ | refine blockK_pass rfl ?_) | ((with_reducible refine Cw.condC ?_); first | refine CwC.pt rfl (by omega) ?_ | refine CwC.pf rfl (by omega) ?_ | refine CwC.it rfl (by omega) ?_ | refine CwC.if rfl (by omega) ?_ | refine CwC.nt rfl (by omega) ?_ | refine CwC.nf rfl (by omega) ?_ | refine CwC.tt rfl ?_ | refine CwC.ff rfl ?_ | refine CwC.bt rfl (by assumption) ?_ | (refine CwC.bf rfl ?_ ?_; focus assumption))
    refine ⟨_, (by simp (disch := (first | omega | (simp only [lenS, lenT, UInt64.reduceToNat] ; try omega))) only [resVs_cons, resV_tmp, ↓getF_s, ↓getF_0, resVs_nil, cons2_some]; rfl), ?_⟩
    exact ⟨Ext.refl _ _, Gr.nl⟩
  · have hbl := (Array.getElem?_eq_some_iff.1 hb).1
    have hv : RefSl w (vsl b off ls.length c) ls := ⟨b, off, c, arr, E, fz, hr, hc, .inr ⟨rfl, hb, hsz⟩⟩
    refine Rets.enterX Tryd.func47 rfl (rs := [.tmp 2]) Tryd.results47 Tryd.ntmps47 (fun p hp => by cases hp) (by simp [keys]) ?_
    simp only [List.size_toArray, List.length_cons, List.length_nil, Nat.reduceAdd, Nat.reduceSub, List.replicate_succ, List.replicate_zero, List.cons_append, List.nil_append]
    repeat' first | with_reducible (first | refine Cw.seq ?_ | refine thenK_normal ?_ | refine Ow.nil ?_) | ((with_reducible refine Cw.region (Ow.run rfl fun k hk => ?_)); simp (disch := (first | omega | (simp only [lenS, lenT, UInt64.reduceToNat] ; try omega))) only [↓vcL_none, ↓vcB_assign, ↓ov_some, ↓ev_const, putF_some, setF_s, setF_0, nf_cons, ↓vcL_nil, Md.next_seq, ↓vcB_move, ↓ev_tmp, ↓getF_0, ↓vcB_binOp, ↓getF_s, nilRefs, ↓vcB_buildSlice]; (with_reducible refine hk _ _ _ _ ?_); clear hk k) | with_reducible (first | refine Cw.block ?_ | refine Cw.skip ?_ | refine Cw.exit ?_ | refine Cw.ret ?_ | refine thenK_exit ?_ | refine thenK_ret ?_ | refine blockK_normal ?_ | refine blockK_ret ?_ | refine blockK_exit ?_ | refine blockK_pass rfl ?_) | ((with_reducible refine Cw.condC ?_); first | refine CwC.pt rfl (by omega) ?_ | refine CwC.pf rfl (by omega) ?_ | refine CwC.it rfl (by omega) ?_ | refine CwC.if rfl (by omega) ?_ | refine CwC.nt rfl (by omega) ?_ | refine CwC.nf rfl (by omega) ?_ | refine CwC.tt rfl ?_ | refine CwC.ff rfl ?_ | refine CwC.bt rfl (by assumption) ?_ | (refine CwC.bf rfl ?_ ?_; focus assumption))
    refine Ow.buildSlice (e := 42) #[] rfl rfl (by kernel_rfl) fun b1 hb1 hw1 => ?_
    refine Ow.run rfl fun k hk => ?_
    simp (disch := (first | omega | (simp only [lenS, lenT, UInt64.reduceToNat] ; try omega))) only [↓vcL_none, ↓vcB_move, ↓ov_some, putF_some, setF_s, setF_0, ↓ev_tmp, ↓getF_0, nf_cons, ↓vcB_append, Md.next_seq, List.nil_append]
    (with_reducible refine hk _ _ _ _ ?_); clear hk k
    refine Ow.appendG (e := 42) (k := ls.length) (new := (ls.map refC).flatten) (vsl b1 0 0 0) rfl rfl rfl Tryd.underlying23 Tryd.ag42 (by kernel_rfl) zrRef (by rw [cells_ref, List.size_toArray, refC_len]) Tryd.underlying23 (by intro k h; cases h) (.inr ⟨rfl, rfl, b1, rfl, look_new hb1⟩) (fun w' hw' => (hv.oldN hw' ⟨hw1, trivial⟩).appX refC_len refC_one) (flat_len refC_len ls) (by omega) (fun v2 L2 hB hB2 hG hS => ?_)
    rw [Nat.zero_add, List.nil_append] at hB
    refine Ow.run rfl fun k hk => ?_
    simp (disch := (first | omega | (simp only [lenS, lenT, UInt64.reduceToNat] ; try omega))) only [↓vcL_none, ↓vcB_assign, ↓ov_some, putF_some, setF_s, setF_0, ↓ev_tmp, ↓getF_s, ↓getF_0, nf_cons, ↓vcL_nil, Md.next_seq]
    (with_reducible refine hk _ _ _ _ ?_); clear hk k
    repeat' first | with_reducible (first | refine Cw.seq ?_ | refine thenK_normal ?_ | refine Ow.nil ?_) | ((with_reducible refine Cw.region (Ow.run rfl fun k hk => ?_)); simp (disch := (first | omega | (simp only [lenS, lenT, UInt64.reduceToNat] ; try omega))) only []; (with_reducible refine hk _ _ _ _ ?_); clear hk k) | with_reducible (first | refine Cw.block ?_ | refine Cw.skip ?_ | refine Cw.exit ?_ | refine Cw.ret ?_ | refine thenK_exit ?_ | refine thenK_ret ?_ | refine blockK_normal ?_ | refine blockK_ret ?_ | refine blockK_exit ?_ | refine blockK_pass rfl ?_) | ((with_reducible refine Cw.condC ?_); first | refine CwC.pt rfl (by omega) ?_ | refine CwC.pf rfl (by omega) ?_ | refine CwC.it rfl (by omega) ?_ | refine CwC.if rfl (by omega) ?_ | refine CwC.nt rfl (by omega) ?_ | refine CwC.nf rfl (by omega) ?_ | refine CwC.tt rfl ?_ | refine CwC.ff rfl ?_ | refine CwC.bt rfl (by assumption) ?_ | (refine CwC.bf rfl ?_ ?_; focus assumption))
    refine ⟨_, (by simp (disch := (first | omega | (simp only [lenS, lenT, UInt64.reduceToNat] ; try omega))) only [resVs_cons, resV_tmp, ↓getF_s, ↓getF_0, resVs_nil, cons2_some]; rfl), ?_⟩
    exact ⟨((Ext.refl w []).app (o := Obj.cells #[] 42 (0, 0)) hw1).grew hG, hB⟩
end Go.Proofs
open Go Go.Proofs Go.Sx
namespace Go.Proofs
set_option maxRecDepth 10000
set_option maxHeartbeats 4000000
set_option linter.unusedSimpArgs false
theorem GlobC.ofE {w w' : World} {X L : Heap} (h : GlobC w) (hE : Ext w X L) (hw : Hp w L w') (hn : (3 : Nat) ∉ keys X) : GlobC w' := by
  have hlt : (3 : Nat) < w.heap.size := by obtain ⟨e, f, h⟩ := h; exact (Array.getElem?_eq_some_iff.1 h).1
  exact GlobC.of h hw (hE.not hlt hn)
theorem BldAt.zero (b : Nat) {L : Heap} (h : Sx.look L b = some (.cells #[.pointer none, .slice none 0 0] 98 (0, 0))) : BldAt b [] L :=
  ⟨_, _, h, .inl rfl, .nl, fun h => by cases h⟩
/-- Some bytes as a record. -/
def recordV (l : List UInt8) : List UInt8 := textL (sealV l)
theorem record_spec (b : Nat) (X : Heap) (l : List UInt8) (w : World) (hG : GlobC w) (hg : (3 : Nat) ∉ keys X) (hB : BldAt b l X) (hX : ∀ p, p ∈ X → w.heap[p.1]? = some p.2) (hn : (keys X).Nodup) (hl : l.length < 1073741824) :
    Rets Tryd.prog 57 #[vp b 0] w (XS w X (fun v _ => v = vs (recordV l))) := by
  refine Rets.enterX Tryd.func57 rfl (rs := [.tmp 2]) Tryd.results57 Tryd.ntmps57 hX hn ?_
  simp only [List.size_toArray, List.length_cons, List.length_nil, Nat.reduceAdd, Nat.reduceSub, List.replicate_succ, List.replicate_zero, List.cons_append, List.nil_append]
  repeat' first | with_reducible (first | refine Cw.seq ?_ | refine thenK_normal ?_ | refine Ow.nil ?_) | ((with_reducible refine Cw.region (Ow.run rfl fun k hk => ?_)); simp (disch := (first | omega | (simp only [lenS, lenT, UInt64.reduceToNat] ; try omega))) only [↓vcL_none, ↓vcB_assign, ↓ov_some, ↓ev_const, lit_str, putF_some, setF_s, setF_0, nf_cons, ↓vcL_nil, Md.next_seq, ↓vcB_alloc]; (with_reducible refine hk _ _ _ _ ?_); clear hk k) | with_reducible (first | refine Cw.block ?_ | refine Cw.skip ?_ | refine Cw.exit ?_ | refine Cw.ret ?_ | refine thenK_exit ?_ | refine thenK_ret ?_ | refine blockK_normal ?_ | refine blockK_ret ?_ | refine blockK_exit ?_ | refine blockK_pass rfl ?_) | ((with_reducible refine Cw.condC ?_); first | refine CwC.pt rfl (by omega) ?_ | refine CwC.pf rfl (by omega) ?_ | refine CwC.it rfl (by omega) ?_ | refine CwC.if rfl (by omega) ?_ | refine CwC.nt rfl (by omega) ?_ | refine CwC.nf rfl (by omega) ?_ | refine CwC.tt rfl ?_ | refine CwC.ff rfl ?_ | refine CwC.bt rfl (by assumption) ?_ | (refine CwC.bf rfl ?_ ?_; focus assumption))
  refine Ow.alloc rfl rfl Tryd.zr98 fun b1 hb1 hw1 => ?_
  refine Ow.run rfl fun k hk => ?_
  simp (disch := (first | omega | (simp only [lenS, lenT, UInt64.reduceToNat] ; try omega))) only [↓vcL_nil, putF_some, setF_s, setF_0, cells_agg]
  (with_reducible refine hk _ _ _ _ ?_); clear hk k
  have hE0 := (Ext.refl w X).app (o := .cells #[.pointer none, .slice none 0 0] 98 (0, 0)) hw1
  repeat' first | with_reducible (first | refine Cw.seq ?_ | refine thenK_normal ?_ | refine Ow.nil ?_) | ((with_reducible refine Cw.region (Ow.run rfl fun k hk => ?_)); simp (disch := (first | omega | (simp only [lenS, lenT, UInt64.reduceToNat] ; try omega))) only [↓vcL_none, ↓vcB_move, ↓ov_some, ↓ev_tmp, ↓getF_0, putF_some, setF_s, setF_0, nf_cons, ↓vcB_call, Md.next_seq]; (with_reducible refine hk _ _ _ _ ?_); clear hk k) | with_reducible (first | refine Cw.block ?_ | refine Cw.skip ?_ | refine Cw.exit ?_ | refine Cw.ret ?_ | refine thenK_exit ?_ | refine thenK_ret ?_ | refine blockK_normal ?_ | refine blockK_ret ?_ | refine blockK_exit ?_ | refine blockK_pass rfl ?_) | ((with_reducible refine Cw.condC ?_); first | refine CwC.pt rfl (by omega) ?_ | refine CwC.pf rfl (by omega) ?_ | refine CwC.it rfl (by omega) ?_ | refine CwC.if rfl (by omega) ?_ | refine CwC.nt rfl (by omega) ?_ | refine CwC.nf rfl (by omega) ?_ | refine CwC.tt rfl ?_ | refine CwC.ff rfl ?_ | refine CwC.bt rfl (by assumption) ?_ | (refine CwC.bf rfl ?_ ?_; focus assumption))
  refine Ow.callX (Y := [(b1, .cells #[.pointer none, .slice none 0 0] 98 (0, 0))]) (by simp) rfl rfl Tryd.call62 (fun w' hw' hX hn => WString_spec b X l w' hB hX hn (by omega)) (fun v2 D2 hC hS2 => ?_)
  subst hS2
  have hE2 := hE0.came hC
  have hb1D : b1 ∉ keys D2 := fun hm => by
    rcases hC.new b1 hm with h | ⟨h, -⟩
    · exact Nat.lt_irrefl _ (above_to hb1 h)
    · exact Nat.lt_irrefl _ (above_to h (by rw [keys_app]; exact List.mem_append_right _ List.mem_cons_self))
  have hZ : BldAt b1 [] (D2 ++ [(b1, .cells #[.pointer none, .slice none 0 0] 98 (0, 0))]) := BldAt.zero b1 (by rw [look_app_r hb1D]; exact look_same _ _ _)
  generalize D2 ++ [(b1, Obj.cells #[.pointer none, .slice none 0 0] 98 (0, 0))] = D3 at *
  refine Ow.run rfl fun k hk => ?_
  simp (disch := (first | omega | (simp only [lenS, lenT, UInt64.reduceToNat] ; try omega))) only [↓vcL_none, ↓vcB_call, putF_some, setF_s, setF_0]
  (with_reducible refine hk _ _ _ _ ?_); clear hk k
  refine Ow.callFV rfl Tryd.call92 (fun w' hw' => cSeal_spec l w' (GlobC.ofE hG hE2 hw' hg) (by omega)) ?_
  refine Ow.run rfl fun k hk => ?_
  simp (disch := (first | omega | (simp only [lenS, lenT, UInt64.reduceToNat] ; try omega))) only [↓vcL_none, ↓vcB_buildSlice, Md.next_seq, putF_some, setF_s, setF_0]
  (with_reducible refine hk _ _ _ _ ?_); clear hk k
  have hsl := sealV_len l
  refine Ow.buildSlice (e := 9) #[vs (sealV l)] rfl rfl (by kernel_rfl) fun b4 hb4 hw4 => ?_
  refine Ow.run rfl fun k hk => ?_
  simp (disch := (first | omega | (simp only [lenS, lenT, UInt64.reduceToNat] ; try omega))) only [↓vcL_none, ↓vcB_call, putF_some, setF_s, setF_0]
  (with_reducible refine hk _ _ _ _ ?_); clear hk k
  have htl : (textsL [sealV l]) = recordV l := by simp [textsL, recordV]
  have hnl := numL_clamp_len ((sealV l).length : Int)
  have hrl : (recordV l).length = (numL (clampN (sealV l).length)).length + (sealV l).length := by unfold recordV textL; rw [List.length_append]
  refine Ow.callX (Y := [(b4, .cells #[vs (sealV l)] 9 (0, 0))]) (by simp) rfl rfl Tryd.call55 (fun w' hw' hX hn => WText_spec b1 D3 [] _ b4 0 [sealV l] _ _ _ w' hZ hX hn (StrS.lit [sealV l] rfl rfl (hw'.has _ _ (List.mem_append_right _ List.mem_cons_self))) (fun _ hm => Nat.lt_irrefl _ (above_to hb4 hm)) (by rw [htl]; simp only [List.length_nil]; omega) (by simp)) (fun v5 D5 hC5 hS5 => ?_)
  obtain ⟨rfl, hB5⟩ := hS5
  rw [htl, List.nil_append] at hB5
  have hE5 := (hE2.app (o := .cells #[vs (sealV l)] 9 (0, 0)) hw4).came hC5
  have hB6 := BldAt.app (Y := [(b4, .cells #[vs (sealV l)] 9 (0, 0))]) hB5
  generalize D5 ++ [(b4, Obj.cells #[vs (sealV l)] 9 (0, 0))] = D6 at *
  refine Ow.run rfl fun k hk => ?_
  simp (disch := (first | omega | (simp only [lenS, lenT, UInt64.reduceToNat] ; try omega))) only [↓vcL_nil, putF_some, setF_s, setF_0]
  (with_reducible refine hk _ _ _ _ ?_); clear hk k
  repeat' first | with_reducible (first | refine Cw.seq ?_ | refine thenK_normal ?_ | refine Ow.nil ?_) | ((with_reducible refine Cw.region (Ow.run rfl fun k hk => ?_)); simp (disch := (first | omega | (simp only [lenS, lenT, UInt64.reduceToNat] ; try omega))) only [↓vcL_none, ↓vcB_call]; (with_reducible refine hk _ _ _ _ ?_); clear hk k) | with_reducible (first | refine Cw.block ?_ | refine Cw.skip ?_ | refine Cw.exit ?_ | refine Cw.ret ?_ | refine thenK_exit ?_ | refine thenK_ret ?_ | refine blockK_normal ?_ | refine blockK_ret ?_ | refine blockK_exit ?_ | refine blockK_pass rfl ?_) | ((with_reducible refine Cw.condC ?_); first | refine CwC.pt rfl (by omega) ?_ | refine CwC.pf rfl (by omega) ?_ | refine CwC.it rfl (by omega) ?_ | refine CwC.if rfl (by omega) ?_ | refine CwC.nt rfl (by omega) ?_ | refine CwC.nf rfl (by omega) ?_ | refine CwC.tt rfl ?_ | refine CwC.ff rfl ?_ | refine CwC.bt rfl (by assumption) ?_ | (refine CwC.bf rfl ?_ ?_; focus assumption))
  refine Ow.callX (Y := []) (by simp) rfl rfl Tryd.call62 (fun w' hw' hX hn => WString_spec b1 D6 (recordV l) w' hB6 hX hn (by omega)) (fun v7 D7 hC7 hS7 => ?_)
  subst hS7
  rw [List.append_nil]
  refine Ow.run rfl fun k hk => ?_
  simp (disch := (first | omega | (simp only [lenS, lenT, UInt64.reduceToNat] ; try omega))) only [↓vcL_none, ↓vcB_assign, ↓ov_some, putF_some, setF_s, setF_0, ↓ev_tmp, ↓getF_s, ↓getF_0, nf_cons, ↓vcL_nil, Md.next_seq]
  (with_reducible refine hk _ _ _ _ ?_); clear hk k
  repeat' first | with_reducible (first | refine Cw.seq ?_ | refine thenK_normal ?_ | refine Ow.nil ?_) | ((with_reducible refine Cw.region (Ow.run rfl fun k hk => ?_)); simp (disch := (first | omega | (simp only [lenS, lenT, UInt64.reduceToNat] ; try omega))) only []; (with_reducible refine hk _ _ _ _ ?_); clear hk k) | with_reducible (first | refine Cw.block ?_ | refine Cw.skip ?_ | refine Cw.exit ?_ | refine Cw.ret ?_ | refine thenK_exit ?_ | refine thenK_ret ?_ | refine blockK_normal ?_ | refine blockK_ret ?_ | refine blockK_exit ?_ | refine blockK_pass rfl ?_) | ((with_reducible refine Cw.condC ?_); first | refine CwC.pt rfl (by omega) ?_ | refine CwC.pf rfl (by omega) ?_ | refine CwC.it rfl (by omega) ?_ | refine CwC.if rfl (by omega) ?_ | refine CwC.nt rfl (by omega) ?_ | refine CwC.nf rfl (by omega) ?_ | refine CwC.tt rfl ?_ | refine CwC.ff rfl ?_ | refine CwC.bt rfl (by assumption) ?_ | (refine CwC.bf rfl ?_ ?_; focus assumption))
  refine ⟨_, (by simp (disch := (first | omega | (simp only [lenS, lenT, UInt64.reduceToNat] ; try omega))) only [resVs_cons, resV_tmp, ↓getF_s, ↓getF_0, resVs_nil, cons2_some]; rfl), ?_⟩
  exact ⟨hE5.came0 hC7, rfl⟩
end Go.Proofs
