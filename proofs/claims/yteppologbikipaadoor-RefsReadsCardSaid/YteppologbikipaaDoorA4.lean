/-
  Part 4 of the walk: contracts of the functions that the law reaches, and the calculus they stand on.
  No conditions.
-/
import Derived.Test.YteppologbikipaaDoorA3
open Go Go.Proofs Go.Sx
namespace Go.Proofs
set_option maxRecDepth 10000
set_option maxHeartbeats 4000000
set_option linter.unusedSimpArgs false
theorem Cw.perm {P : Program} {w0 : World} {c : Code} {f : Fr} {L : Heap} {K : Kont} (M : Heap) (hs : ∀ p, p ∈ M ↔ p ∈ L) (hn : (keys M).Nodup) (h : Cw P w0 c f M K) : Cw P w0 c f L K := fun w hw => h w (hw.same hs hn)
theorem slice_id (id : IdL) : sliceB Tryd.prog 52 1 [(0, .agg (a8 id.l))] = some (40, a8 id.l) := by
  have h2 : Value.cells (.agg (a8 id.l)) = (id.l.map v8).toArray := cells_agg _
  have hz : zeroV Tryd.prog 40 = some (.agg ((List.replicate 32 (0 : UInt8)).map v8).toArray) := Tryd.zr40
  have s3 : (id.l.map v8).toArray.size = 32 := by simp [id.h]
  have hp2 := putC_app (id.l.map v8) [] ((List.replicate 32 (0 : UInt8)).map v8) (by simp [id.h])
  have hd : List.drop (id.l.map v8).length ((List.replicate 32 (0 : UInt8)).map v8) = [] := List.drop_eq_nil_of_le (by simp [id.h])
  rw [hd, List.append_nil, List.nil_append] at hp2
  have hzz : ((Array.range (1 * 32)).map fun x => (Value.cells (.agg ((List.replicate 32 (0 : UInt8)).map v8).toArray))[x % (Value.cells (.agg ((List.replicate 32 (0 : UInt8)).map v8).toArray)).size]!) = ((List.replicate 32 (0 : UInt8)).map v8).toArray := by kernel_rfl
  simp only [sliceB, Tryd.underlying52, Tryd.ag40, hz, Option.map_some]
  rw [if_neg (by decide), if_neg (by decide)]
  simp only
  rw [hzz]
  have hfl : Instr.fill (fun i => some (i * 32, 32)) ((List.replicate 32 (0 : UInt8)).map v8).toArray [(0, Value.agg (a8 id.l))] = some (a8 id.l) := by
    have s4 : (((List.replicate 32 (0 : UInt8)).map v8).toArray).size = 32 := by simp
    unfold Instr.fill
    simp only [h2, s3, s4, Nat.zero_mul, ne_eq, not_true_eq_false, decide_false, Bool.false_or, Nat.zero_add, Nat.lt_irrefl, gt_iff_lt, Bool.false_eq_true, ↓reduceIte]
    unfold Instr.fill
    congr 1
    have hz := foldl_putC (id.l.map v8) 0 0 ((List.replicate 32 (0 : UInt8)).map v8).toArray
    have hp : putC ((List.replicate 32 (0 : UInt8)).map v8).toArray 0 (id.l.map v8) = (id.l.map v8).toArray := hp2
    rw [Nat.add_zero, hp] at hz
    simp only [Nat.zero_add] at hz
    rw [← Array.foldl_toList, Array.toList_zipIdx]
    exact hz
  rw [hfl]
  rfl
/-- An entry's bytes. -/
def entryB (r : RefL) : List UInt8 := [69] ++ textL r.name ++ r.id.l
theorem entryRecord_spec (r : RefL) (w : World) (hG : GlobC w) (hr : r.name.length < 1000000) :
    Rets Tryd.prog 58 #[.agg (refC r).toArray] w (XS w [] (fun v _ => v = vs (recordV (entryB r)))) := by
  have hg3 : (3 : Nat) < w.heap.size := by obtain ⟨e, f, h⟩ := hG; exact (Array.getElem?_eq_some_iff.1 h).1
  refine Rets.enterX Tryd.func58 rfl (rs := [.tmp 2]) Tryd.results58 Tryd.ntmps58 (fun p hp => by cases hp) (by simp [keys]) ?_
  simp only [List.size_toArray, List.length_cons, List.length_nil, Nat.reduceAdd, Nat.reduceSub, List.replicate_succ, List.replicate_zero, List.cons_append, List.nil_append]
  repeat' first | with_reducible (first | refine Cw.seq ?_ | refine thenK_normal ?_ | refine Ow.nil ?_) | ((with_reducible refine Cw.region (Ow.run rfl fun k hk => ?_)); simp (disch := (first | omega | (simp only [lenS, lenT, UInt64.reduceToNat] ; try omega))) only [↓vcL_none, ↓vcB_box, lit_str]; (with_reducible refine hk _ _ _ _ ?_); clear hk k) | with_reducible (first | refine Cw.block ?_ | refine Cw.skip ?_ | refine Cw.exit ?_ | refine Cw.ret ?_ | refine thenK_exit ?_ | refine thenK_ret ?_ | refine blockK_normal ?_ | refine blockK_ret ?_ | refine blockK_exit ?_ | refine blockK_pass rfl ?_) | ((with_reducible refine Cw.condC ?_); first | refine CwC.pt rfl (by omega) ?_ | refine CwC.pf rfl (by omega) ?_ | refine CwC.it rfl (by omega) ?_ | refine CwC.if rfl (by omega) ?_ | refine CwC.nt rfl (by omega) ?_ | refine CwC.nf rfl (by omega) ?_ | refine CwC.tt rfl ?_ | refine CwC.ff rfl ?_ | refine CwC.bt rfl (by assumption) ?_ | (refine CwC.bf rfl ?_ ?_; focus assumption))
  refine Ow.box rfl rfl fun b0 hb0 hw0 => ?_
  simp only [ev_tmp, getF_0, cells_ref, List.nil_append]
  refine Ow.run rfl fun k hk => ?_
  simp (disch := (first | omega | (simp only [lenS, lenT, UInt64.reduceToNat] ; try omega))) only [↓vcL_none, ↓vcB_assign, ↓ov_some, putF_some, setF_s, setF_0, ↓ev_const, nf_cons, ↓vcL_nil, Md.next_seq]
  (with_reducible refine hk _ _ _ _ ?_); clear hk k
  repeat' first | with_reducible (first | refine Cw.seq ?_ | refine thenK_normal ?_ | refine Ow.nil ?_) | ((with_reducible refine Cw.region (Ow.run rfl fun k hk => ?_)); simp (disch := (first | omega | (simp only [lenS, lenT, UInt64.reduceToNat] ; try omega))) only [↓vcL_none, ↓vcB_alloc]; (with_reducible refine hk _ _ _ _ ?_); clear hk k) | with_reducible (first | refine Cw.block ?_ | refine Cw.skip ?_ | refine Cw.exit ?_ | refine Cw.ret ?_ | refine thenK_exit ?_ | refine thenK_ret ?_ | refine blockK_normal ?_ | refine blockK_ret ?_ | refine blockK_exit ?_ | refine blockK_pass rfl ?_) | ((with_reducible refine Cw.condC ?_); first | refine CwC.pt rfl (by omega) ?_ | refine CwC.pf rfl (by omega) ?_ | refine CwC.it rfl (by omega) ?_ | refine CwC.if rfl (by omega) ?_ | refine CwC.nt rfl (by omega) ?_ | refine CwC.nf rfl (by omega) ?_ | refine CwC.tt rfl ?_ | refine CwC.ff rfl ?_ | refine CwC.bt rfl (by assumption) ?_ | (refine CwC.bf rfl ?_ ?_; focus assumption))
  refine Ow.alloc rfl rfl Tryd.zr98 fun b1 hb1 hw1 => ?_
  obtain ⟨h01, -⟩ := hb1
  refine Ow.run rfl fun k hk => ?_
  simp (disch := (first | omega | (simp only [lenS, lenT, UInt64.reduceToNat] ; try omega))) only [↓vcL_nil, putF_some, setF_s, setF_0, cells_agg, List.cons_append, List.nil_append]
  (with_reducible refine hk _ _ _ _ ?_); clear hk k
  with_reducible refine Ow.nil ?_
  with_reducible refine thenK_normal ?_
  refine Cw.perm [(b1, .cells #[.pointer none, .slice none 0 0] 98 (0, 0)), (b0, .cells (refC r).toArray 42 (0, 0))] (by intro p; simp [or_comm]) (by simp [keys]; omega) ?_
  have hE0 : Ext w [] [(b1, Obj.cells #[.pointer none, .slice none 0 0] 98 (0, 0)), (b0, Obj.cells (refC r).toArray 42 (0, 0))] :=
    ((Ext.refl w []).app hw1).app hw0
  have hZ : BldAt b1 [] [(b1, .cells #[.pointer none, .slice none 0 0] 98 (0, 0))] := BldAt.zero b1 (look_same _ _ _)
  repeat' first | with_reducible (first | refine Cw.seq ?_ | refine thenK_normal ?_ | refine Ow.nil ?_) | ((with_reducible refine Cw.region (Ow.run rfl fun k hk => ?_)); simp (disch := (first | omega | (simp only [lenS, lenT, UInt64.reduceToNat] ; try omega))) only [↓vcL_none, ↓vcB_buildSlice, lit_str]; (with_reducible refine hk _ _ _ _ ?_); clear hk k) | with_reducible (first | refine Cw.block ?_ | refine Cw.skip ?_ | refine Cw.exit ?_ | refine Cw.ret ?_ | refine thenK_exit ?_ | refine thenK_ret ?_ | refine blockK_normal ?_ | refine blockK_ret ?_ | refine blockK_exit ?_ | refine blockK_pass rfl ?_) | ((with_reducible refine Cw.condC ?_); first | refine CwC.pt rfl (by omega) ?_ | refine CwC.pf rfl (by omega) ?_ | refine CwC.it rfl (by omega) ?_ | refine CwC.if rfl (by omega) ?_ | refine CwC.nt rfl (by omega) ?_ | refine CwC.nf rfl (by omega) ?_ | refine CwC.tt rfl ?_ | refine CwC.ff rfl ?_ | refine CwC.bt rfl (by assumption) ?_ | (refine CwC.bf rfl ?_ ?_; focus assumption))
  refine Ow.buildSlice (e := 9) #[vs [69]] rfl rfl (by kernel_rfl) fun b2 hb2 hw2 => ?_
  obtain ⟨h12, h02, -⟩ := hb2
  have hE1 := hE0.app (o := .cells #[vs [69]] 9 (0, 0)) hw2
  refine Ow.run rfl fun k hk => ?_
  simp (disch := (first | omega | (simp only [lenS, lenT, UInt64.reduceToNat] ; try omega))) only [↓vcL_none, ↓vcB_call, putF_some, setF_s, setF_0, List.cons_append, List.nil_append]
  (with_reducible refine hk _ _ _ _ ?_); clear hk k
  refine Ow.callX (Y := [(b0, .cells (refC r).toArray 42 (0, 0)), (b2, .cells #[vs [69]] 9 (0, 0))]) (by simp) rfl rfl Tryd.call53 (fun w' hw' hX hn => WRaw_spec b1 [(b1, .cells #[.pointer none, .slice none 0 0] 98 (0, 0))] [] _ b2 0 [[69]] _ _ _ w' hZ hX hn (StrS.lit [[69]] rfl rfl (hw'.has _ _ (List.mem_cons_of_mem _ (List.mem_cons_of_mem _ List.mem_cons_self)))) (fun _ hm => by simp [keys] at hm; omega) (by simp) (by simp)) (fun v3 D3 hC3 hS3 => ?_)
  obtain ⟨rfl, hB3⟩ := hS3
  have hE3 := Ext.came (D := [(b1, Obj.cells #[.pointer none, .slice none 0 0] 98 (0, 0))]) (Y := [(b0, Obj.cells (refC r).toArray 42 (0, 0)), (b2, .cells #[vs [69]] 9 (0, 0))]) hE1 hC3
  have hb0D : b0 ∉ keys D3 := fun hm => by
    rcases hC3.new b0 hm with h | ⟨h, -⟩
    · simp [keys] at h; omega
    · exact Nat.lt_irrefl _ (above_to h (by simp [keys]))
  simp only [List.flatten_cons, List.flatten_nil, List.append_nil, List.nil_append] at hB3
  have rd0 : readB w (D3 ++ [(b0, Obj.cells (refC r).toArray 42 (0, 0)), (b2, .cells #[vs [69]] 9 (0, 0))]) b0 = some (.cells (refC r).toArray 42 (0, 0)) := read_look (by rw [look_app_r hb0D]; exact look_same _ _ _)
  refine Ow.run rfl fun k hk => ?_
  simp (disch := (first | omega | (simp only [lenS, lenT, UInt64.reduceToNat] ; try omega))) only [↓vcL_nil, putF_some, setF_s, setF_0]
  (with_reducible refine hk _ _ _ _ ?_); clear hk k
  repeat' first | with_reducible (first | refine Cw.seq ?_ | refine thenK_normal ?_ | refine Ow.nil ?_) | ((with_reducible refine Cw.region (Ow.run rfl fun k hk => ?_)); simp (disch := (first | omega | (simp only [lenS, lenT, UInt64.reduceToNat] ; try omega))) only [↓vcL_none, ↓vcB_fieldAddr, Tryd.fl42_0, ↓ev_tmp, ↓getF_s, ↓getF_0, fieldAddr_p, Nat.add_zero, ↓ov_some, putF_some, setF_s, setF_0, nf_cons, ↓vcB_load, Md.next_seq, rd_seq_load, ↓ib_true, Tryd.ag9, loadAt_p, rd0, load_ref0, ↓vcB_buildSlice]; (with_reducible refine hk _ _ _ _ ?_); clear hk k) | with_reducible (first | refine Cw.block ?_ | refine Cw.skip ?_ | refine Cw.exit ?_ | refine Cw.ret ?_ | refine thenK_exit ?_ | refine thenK_ret ?_ | refine blockK_normal ?_ | refine blockK_ret ?_ | refine blockK_exit ?_ | refine blockK_pass rfl ?_) | ((with_reducible refine Cw.condC ?_); first | refine CwC.pt rfl (by omega) ?_ | refine CwC.pf rfl (by omega) ?_ | refine CwC.it rfl (by omega) ?_ | refine CwC.if rfl (by omega) ?_ | refine CwC.nt rfl (by omega) ?_ | refine CwC.nf rfl (by omega) ?_ | refine CwC.tt rfl ?_ | refine CwC.ff rfl ?_ | refine CwC.bt rfl (by assumption) ?_ | (refine CwC.bf rfl ?_ ?_; focus assumption))
  refine Ow.buildSlice (e := 9) #[vs r.name] rfl rfl (by kernel_rfl) fun b4 hb4 hw4 => ?_
  have hnl := numL_clamp_len (r.name.length : Int)
  have htl : textsL [r.name] = textL r.name := by simp [textsL]
  have htn : (textL r.name).length = (numL (clampN r.name.length)).length + r.name.length := by unfold textL; rw [List.length_append]
  have hb14 : b1 ∈ keys D3 := hC3.all b1 (by simp [keys])
  have hE4 := hE3.app (o := .cells #[vs r.name] 9 (0, 0)) hw4
  refine Ow.run rfl fun k hk => ?_
  simp (disch := (first | omega | (simp only [lenS, lenT, UInt64.reduceToNat] ; try omega))) only [↓vcL_none, ↓vcB_call, putF_some, setF_s, setF_0]
  (with_reducible refine hk _ _ _ _ ?_); clear hk k
  refine Ow.callX (Y := [(b0, .cells (refC r).toArray 42 (0, 0)), (b2, .cells #[vs [69]] 9 (0, 0)), (b4, .cells #[vs r.name] 9 (0, 0))]) (by simp) rfl rfl Tryd.call55 (fun w' hw' hX hn => WText_spec b1 D3 [69] _ b4 0 [r.name] _ _ _ w' hB3 hX hn (StrS.lit [r.name] rfl rfl (hw'.has _ _ (List.mem_append_right _ List.mem_cons_self))) (fun _ hm => Nat.lt_irrefl _ (above_to hb4 (by rw [keys_app]; exact List.mem_append_left _ hm))) (by rw [htl]; simp only [List.length_cons, List.length_nil]; omega) (by simp)) (fun v5 D5 hC5 hS5 => ?_)
  obtain ⟨rfl, hB5⟩ := hS5
  rw [htl] at hB5
  have hE5 := Ext.came (D := D3) (Y := [(b0, Obj.cells (refC r).toArray 42 (0, 0)), (b2, .cells #[vs [69]] 9 (0, 0)), (b4, .cells #[vs r.name] 9 (0, 0))]) (by simpa using hE4) hC5
  have hb0D5 : b0 ∉ keys D5 := fun hm => by
    rcases hC5.new b0 hm with h | ⟨h, -⟩
    · exact hb0D h
    · exact Nat.lt_irrefl _ (above_to h (by simp [keys]))
  have rd5 : readB w (D5 ++ [(b0, Obj.cells (refC r).toArray 42 (0, 0)), (b2, .cells #[vs [69]] 9 (0, 0)), (b4, .cells #[vs r.name] 9 (0, 0))]) b0 = some (.cells (refC r).toArray 42 (0, 0)) := read_look (by rw [look_app_r hb0D5]; exact look_same _ _ _)
  refine Ow.run rfl fun k hk => ?_
  simp (disch := (first | omega | (simp only [lenS, lenT, UInt64.reduceToNat] ; try omega))) only [↓vcL_nil, putF_some, setF_s, setF_0]
  (with_reducible refine hk _ _ _ _ ?_); clear hk k
  repeat' first | with_reducible (first | refine Cw.seq ?_ | refine thenK_normal ?_ | refine Ow.nil ?_) | ((with_reducible refine Cw.region (Ow.run rfl fun k hk => ?_)); simp (disch := (first | omega | (simp only [lenS, lenT, UInt64.reduceToNat] ; try omega))) only [↓vcL_none, ↓vcB_fieldAddr, Tryd.fl42_1, ↓ev_tmp, ↓getF_s, ↓getF_0, fieldAddr_p, Nat.zero_add, ↓ov_some, putF_some, setF_s, setF_0, nf_cons, ↓vcB_load, Md.next_seq, rd_seq_load, ↓ib_true, Tryd.ag40, loadAt_p, rd5, load_ref1, ↓vcB_buildSlice]; (with_reducible refine hk _ _ _ _ ?_); clear hk k) | with_reducible (first | refine Cw.block ?_ | refine Cw.skip ?_ | refine Cw.exit ?_ | refine Cw.ret ?_ | refine thenK_exit ?_ | refine thenK_ret ?_ | refine blockK_normal ?_ | refine blockK_ret ?_ | refine blockK_exit ?_ | refine blockK_pass rfl ?_) | ((with_reducible refine Cw.condC ?_); first | refine CwC.pt rfl (by omega) ?_ | refine CwC.pf rfl (by omega) ?_ | refine CwC.it rfl (by omega) ?_ | refine CwC.if rfl (by omega) ?_ | refine CwC.nt rfl (by omega) ?_ | refine CwC.nf rfl (by omega) ?_ | refine CwC.tt rfl ?_ | refine CwC.ff rfl ?_ | refine CwC.bt rfl (by assumption) ?_ | (refine CwC.bf rfl ?_ ?_; focus assumption))
  refine Ow.buildSlice (e := 40) (a8 r.id.l) rfl rfl (slice_id r.id) fun b6 hb6 hw6 => ?_
  have hE6 := hE5.app (o := .cells (a8 r.id.l) 40 (0, 0)) hw6
  have hS6 : ∀ w', w'.heap[b6]? = some (.cells (a8 r.id.l) 40 (0, 0)) → RowS 32 idLC id0 w' (vsl b6 0 1 1) [r.id] b6 0 (a8 r.id.l) 40 (0, 0) := fun w' h => RowS.sl rfl h (by
    intro k hk j hj
    obtain rfl : k = 0 := by simpa using hk
    simp only [Nat.zero_mul, Nat.zero_add, List.getD_cons_zero]
    rw [← idLC_a8, List.getElem?_toArray])
  have hil := idsL_len [r.id]
  refine Ow.run rfl fun k hk => ?_
  simp (disch := (first | omega | (simp only [lenS, lenT, UInt64.reduceToNat] ; try omega))) only [↓vcL_none, ↓vcB_call, putF_some, setF_s, setF_0]
  (with_reducible refine hk _ _ _ _ ?_); clear hk k
  refine Ow.callX (Y := [(b0, .cells (refC r).toArray 42 (0, 0)), (b2, .cells #[vs [69]] 9 (0, 0)), (b4, .cells #[vs r.name] 9 (0, 0)), (b6, .cells (a8 r.id.l) 40 (0, 0))]) (by simp) rfl rfl Tryd.call56 (fun w' hw' hX hn => WId_spec b1 D5 _ _ b6 0 [r.id] _ _ _ w' hB5 hX hn (hS6 w' (hw'.has _ _ (List.mem_append_right _ List.mem_cons_self))) (fun _ hm => Nat.lt_irrefl _ (above_to hb6 (by rw [keys_app]; exact List.mem_append_left _ hm))) (by simp only [List.length_append, List.length_cons, List.length_nil]; omega)) (fun v7 D7 hC7 hS7 => ?_)
  obtain ⟨rfl, hB7⟩ := hS7
  have hE7 := Ext.came (D := D5) (Y := [(b0, Obj.cells (refC r).toArray 42 (0, 0)), (b2, .cells #[vs [69]] 9 (0, 0)), (b4, .cells #[vs r.name] 9 (0, 0)), (b6, .cells (a8 r.id.l) 40 (0, 0))]) (by simpa using hE6) hC7
  have hB8 := BldAt.app (Y := [(b0, Obj.cells (refC r).toArray 42 (0, 0)), (b2, .cells #[vs [69]] 9 (0, 0)), (b4, .cells #[vs r.name] 9 (0, 0)), (b6, .cells (a8 r.id.l) 40 (0, 0))]) hB7
  rw [show [69] ++ textL r.name ++ idsL [r.id] = entryB r by simp [idsL, entryB]] at hB8
  have hel : (entryB r).length = 1 + (textL r.name).length + r.id.l.length := by simp [entryB]; omega
  have hil2 := r.id.h
  generalize D7 ++ [(b0, Obj.cells (refC r).toArray 42 (0, 0)), (b2, .cells #[vs [69]] 9 (0, 0)), (b4, .cells #[vs r.name] 9 (0, 0)), (b6, .cells (a8 r.id.l) 40 (0, 0))] = D8 at *
  refine Ow.run rfl fun k hk => ?_
  simp (disch := (first | omega | (simp only [lenS, lenT, UInt64.reduceToNat] ; try omega))) only [↓vcL_nil, putF_some, setF_s, setF_0]
  (with_reducible refine hk _ _ _ _ ?_); clear hk k
  repeat' first | with_reducible (first | refine Cw.seq ?_ | refine thenK_normal ?_ | refine Ow.nil ?_) | ((with_reducible refine Cw.region (Ow.run rfl fun k hk => ?_)); simp (disch := (first | omega | (simp only [lenS, lenT, UInt64.reduceToNat] ; try omega))) only [↓vcL_none, ↓vcB_call]; (with_reducible refine hk _ _ _ _ ?_); clear hk k) | with_reducible (first | refine Cw.block ?_ | refine Cw.skip ?_ | refine Cw.exit ?_ | refine Cw.ret ?_ | refine thenK_exit ?_ | refine thenK_ret ?_ | refine blockK_normal ?_ | refine blockK_ret ?_ | refine blockK_exit ?_ | refine blockK_pass rfl ?_) | ((with_reducible refine Cw.condC ?_); first | refine CwC.pt rfl (by omega) ?_ | refine CwC.pf rfl (by omega) ?_ | refine CwC.it rfl (by omega) ?_ | refine CwC.if rfl (by omega) ?_ | refine CwC.nt rfl (by omega) ?_ | refine CwC.nf rfl (by omega) ?_ | refine CwC.tt rfl ?_ | refine CwC.ff rfl ?_ | refine CwC.bt rfl (by assumption) ?_ | (refine CwC.bf rfl ?_ ?_; focus assumption))
  refine Ow.callX (Y := []) (by simp) rfl rfl Tryd.call57 (fun w' hw' hX hn => record_spec b1 D8 (entryB r) w' (GlobC.ofE hG hE7 hw' (by simp [keys])) (hE7.not hg3 (by simp [keys])) hB8 hX hn (by omega)) (fun v9 D9 hC9 hS9 => ?_)
  subst hS9
  rw [List.append_nil]
  refine Ow.run rfl fun k hk => ?_
  simp (disch := (first | omega | (simp only [lenS, lenT, UInt64.reduceToNat] ; try omega))) only [↓vcL_none, ↓vcB_assign, ↓ov_some, putF_some, setF_s, setF_0, ↓ev_tmp, ↓getF_s, ↓getF_0, nf_cons, ↓vcL_nil, Md.next_seq]
  (with_reducible refine hk _ _ _ _ ?_); clear hk k
  repeat' first | with_reducible (first | refine Cw.seq ?_ | refine thenK_normal ?_ | refine Ow.nil ?_) | ((with_reducible refine Cw.region (Ow.run rfl fun k hk => ?_)); simp (disch := (first | omega | (simp only [lenS, lenT, UInt64.reduceToNat] ; try omega))) only []; (with_reducible refine hk _ _ _ _ ?_); clear hk k) | with_reducible (first | refine Cw.block ?_ | refine Cw.skip ?_ | refine Cw.exit ?_ | refine Cw.ret ?_ | refine thenK_exit ?_ | refine thenK_ret ?_ | refine blockK_normal ?_ | refine blockK_ret ?_ | refine blockK_exit ?_ | refine blockK_pass rfl ?_) | ((with_reducible refine Cw.condC ?_); first | refine CwC.pt rfl (by omega) ?_ | refine CwC.pf rfl (by omega) ?_ | refine CwC.it rfl (by omega) ?_ | refine CwC.if rfl (by omega) ?_ | refine CwC.nt rfl (by omega) ?_ | refine CwC.nf rfl (by omega) ?_ | refine CwC.tt rfl ?_ | refine CwC.ff rfl ?_ | refine CwC.bt rfl (by assumption) ?_ | (refine CwC.bf rfl ?_ ?_; focus assumption))
  refine ⟨_, (by simp (disch := (first | omega | (simp only [lenS, lenT, UInt64.reduceToNat] ; try omega))) only [resVs_cons, resV_tmp, ↓getF_s, ↓getF_0, resVs_nil, cons2_some]; rfl), ?_⟩
  exact ⟨hE7.came0 hC9, rfl⟩
end Go.Proofs
open Go Go.Proofs Go.Sx
namespace Go.Proofs
set_option maxRecDepth 10000
/-! ### Refs that are compared -/
theorem ref_ext (r : RefL) : (refC r).toArray.extract 1 33 = a8 r.id.l := by
  show (refC r).toArray.extract 1 33 = (r.id.l.map v8).toArray
  rw [List.extract_toArray]
  congr 1
  unfold refC
  rw [List.extract_eq_take_drop, List.drop_succ_cons, List.drop_zero, List.take_of_length_le (by simp [r.id.h])]
theorem stoodRef : Tryd.prog.stoodInHeld 42 = false := by kernel_rfl
theorem guardRef : Tryd.prog.eqGuardType Tryd.prog.depth 42 = false := by kernel_rfl
theorem aggStr : aggT Tryd.prog 9 = some (false, 1) := by kernel_rfl
theorem aggId : aggT Tryd.prog 40 = some (true, 32) := by kernel_rfl
theorem eqRef0 (r r' : RefL) : eqD Tryd.prog 8 42 (.agg (refC r).toArray) (.agg (refC r').toArray) = some (r.name == r'.name && r.id.l == r'.id.l) := by
  have hn : eqD Tryd.prog 7 9 (vs r.name) (vs r'.name) = some (r.name == r'.name) := by
    unfold eqD
    rw [Tryd.underlying9]
    simp only [vs, bs_beq]
  have hi : eqD Tryd.prog 7 40 (.agg (a8 r.id.l)) (.agg (a8 r'.id.l)) = some (r.id.l == r'.id.l) :=
    eqD_a8 (d := 5) Tryd.underlying40 Tryd.underlying5 Tryd.ag5 _ _ r.id.h r'.id.h
  unfold eqD
  rw [Tryd.underlying42]
  simp only
  rw [stoodRef]
  have p0 : ∀ (r : RefL), partV (false, 1) (refC r).toArray 0 = some (vs r.name) := fun r => rfl
  have p1 : ∀ (r : RefL), partV (true, 32) (refC r).toArray 1 = some (.agg (a8 r.id.l)) := fun r => by
    show some (Value.agg ((refC r).toArray.extract 1 33)) = _
    rw [ref_ext]
  simp only [Bool.false_eq_true, ↓reduceIte, eqFieldsV, aggStr, aggId, eqPartV, p0, p1, hn, hi]
  cases (r.name == r'.name) <;> cases (r.id.l == r'.id.l) <;> simp
theorem neRef (r r' : RefL) : binX Tryd.prog .neq 42 (.agg (refC r).toArray) (.agg (refC r').toArray) = some (.bool (!(r.name == r'.name && r.id.l == r'.id.l))) := by
  unfold binX eqX
  rw [guardRef]
  simp [plainV, eqRef0]
end Go.Proofs
open Go Go.Proofs Go.Sx
namespace Go.Proofs
set_option maxRecDepth 10000
set_option maxHeartbeats 4000000
set_option linter.unusedSimpArgs false
def keyR (r : RefL) : List UInt8 × List UInt8 := (r.name, r.id.l)
/-- The same refs? -/
def sameR (a b : List RefL) : Bool := a.map keyR == b.map keyR
theorem sameR_no {a b : List RefL} {i : Nat} (ha : i < a.length) (hb : i < b.length) (h : (((a.getD i ref0).name == (b.getD i ref0).name) && ((a.getD i ref0).id.l == (b.getD i ref0).id.l)) = false) : sameR a b = false := by
  unfold sameR
  rw [beq_eq_false_iff_ne]
  intro e
  have := congrArg (·[i]?) e
  simp only [List.getElem?_map, List.getElem?_eq_getElem ha, List.getElem?_eq_getElem hb, Option.map_some, Option.some.injEq, keyR, Prod.mk.injEq] at this
  rw [List.getD_eq_getElem?_getD, List.getD_eq_getElem?_getD, List.getElem?_eq_getElem ha, List.getElem?_eq_getElem hb] at h
  simp [this.1, this.2] at h
theorem sameR_yes {a b : List RefL} (hl : a.length = b.length) (h : ∀ i, i < a.length → (((a.getD i ref0).name == (b.getD i ref0).name) && ((a.getD i ref0).id.l == (b.getD i ref0).id.l)) = true) : sameR a b = true := by
  unfold sameR
  rw [beq_iff_eq]
  apply List.ext_getElem?
  intro i
  rw [List.getElem?_map, List.getElem?_map]
  by_cases hi : i < a.length
  · have hi' : i < b.length := by omega
    have := h i hi
    rw [List.getD_eq_getElem?_getD, List.getD_eq_getElem?_getD, List.getElem?_eq_getElem hi, List.getElem?_eq_getElem hi'] at this
    simp only [Option.getD_some, Bool.and_eq_true, beq_iff_eq] at this
    rw [List.getElem?_eq_getElem hi, List.getElem?_eq_getElem hi']
    simp [keyR, this.1, this.2]
  · rw [List.getElem?_eq_none (by omega), List.getElem?_eq_none (by omega)]
theorem SameRefs_spec (x y : Value) (b1 o1 b2 o2 : Nat) (l1 l2 : List RefL) (a1 a2 : Array Value) (E1 E2 : TypeId) (f1 f2 : Nat × Nat) (w : World) (h1 : RowS 33 refC ref0 w x l1 b1 o1 a1 E1 f1) (h2 : RowS 33 refC ref0 w y l2 b2 o2 a2 E2 f2) (hl1 : l1.length < 1000000) (hl2 : l2.length < 1000000) :
    Rets Tryd.prog 38 #[x, y] w (fun v D => v = .bool (sameR l1 l2) ∧ D = []) := by
  refine Rets.enterV Tryd.func38 rfl (rs := [.tmp 4]) Tryd.results38 Tryd.ntmps38 ?_
  simp only [List.size_toArray, List.length_cons, List.length_nil, Nat.reduceAdd, Nat.reduceSub, List.replicate_succ, List.replicate_zero, List.cons_append, List.nil_append]
  repeat' first | with_reducible (first | refine Cw.seq ?_ | refine thenK_normal ?_ | refine Ow.nil ?_) | ((with_reducible refine Cw.region (Ow.run rfl fun k hk => ?_)); simp (disch := (first | omega | (simp only [lenS, lenT, UInt64.reduceToNat] ; try omega))) only [↓vcL_none, ↓vcB_assign, ↓ov_some, ↓ev_const, putF_some, setF_s, setF_0, nf_cons, ↓vcL_nil, Md.next_seq, ↓vcB_move, ↓ev_tmp, ↓getF_0, ↓vcB_len, Tryd.ix23, ↓getF_s, h1.len, h2.len, ↓vcB_binOp, binX_vi_vi, bin_neq_i]; (with_reducible refine hk _ _ _ _ ?_); clear hk k) | with_reducible (first | refine Cw.block ?_ | refine Cw.skip ?_ | refine Cw.exit ?_ | refine Cw.ret ?_ | refine thenK_exit ?_ | refine thenK_ret ?_ | refine blockK_normal ?_ | refine blockK_ret ?_ | refine blockK_exit ?_ | refine blockK_pass rfl ?_) | ((with_reducible refine Cw.condC ?_); first | refine CwC.pt rfl (by omega) ?_ | refine CwC.pf rfl (by omega) ?_ | refine CwC.it rfl (by omega) ?_ | refine CwC.if rfl (by omega) ?_ | refine CwC.nt rfl (by omega) ?_ | refine CwC.nf rfl (by omega) ?_ | refine CwC.tt rfl ?_ | refine CwC.ff rfl ?_ | refine CwC.bt rfl (by assumption) ?_ | (refine CwC.bf rfl ?_ ?_; focus assumption))
  by_cases hle : l1.length = l2.length
  · repeat' first | with_reducible (first | refine Cw.seq ?_ | refine thenK_normal ?_ | refine Ow.nil ?_) | ((with_reducible refine Cw.region (Ow.run rfl fun k hk => ?_)); simp (disch := (first | omega | (simp only [lenS, lenT, UInt64.reduceToNat] ; try omega))) only [↓vcL_none, ↓vcB_assign, ↓ov_some, ↓ev_const, lit_i64, putF_some, setF_s, setF_0, nf_cons, ↓vcL_nil, Md.next_seq]; (with_reducible refine hk _ _ _ _ ?_); clear hk k) | with_reducible (first | refine Cw.block ?_ | refine Cw.skip ?_ | refine Cw.exit ?_ | refine Cw.ret ?_ | refine thenK_exit ?_ | refine thenK_ret ?_ | refine blockK_normal ?_ | refine blockK_ret ?_ | refine blockK_exit ?_ | refine blockK_pass rfl ?_) | ((with_reducible refine Cw.condC ?_); first | refine CwC.pt rfl (by omega) ?_ | refine CwC.pf rfl (by omega) ?_ | refine CwC.it rfl (by omega) ?_ | refine CwC.if rfl (by omega) ?_ | refine CwC.nt rfl (by omega) ?_ | refine CwC.nf rfl (by omega) ?_ | refine CwC.tt rfl ?_ | refine CwC.ff rfl ?_ | refine CwC.bt rfl (by assumption) ?_ | (refine CwC.bf rfl ?_ ?_; focus assumption))
    refine Cw.loopG (G := Nat) [11, 12, 13, 14, 17, 18, 19, 20, 21, 22, 23, 24, 25, 4, 15, 16, 5] (fun g => [(5, vi g)]) (fun g => []) (fun g => g ≤ l1.length ∧ ∀ i, i < g → (((l1.getD i ref0).name == (l2.getD i ref0).name) && ((l1.getD i ref0).id.l == (l2.getD i ref0).id.l)) = true) (fun g => l1.length - g) 0 rfl rfl ?_ ?_
    · exact ⟨by omega, fun i hi => by omega⟩
    intro g j hg
    simp only [overFrom, pin, setF_0, setF_s, List.contains_cons, List.contains_nil, Nat.reduceBEq, Bool.or_false, Bool.false_or, Bool.or_true, Bool.true_or, Nat.reduceAdd, ↓reduceIte, Bool.false_eq_true]
    obtain ⟨hgL, hgood⟩ := hg
    by_cases hlt : g < l1.length
    · have hlt2 : g < l2.length := by omega
      have hb1 := h1.has (by omega)
      have hb2 := h2.has (by omega)
      have ld1 := h1.load refC_len (by omega) hlt
      have ld2 := h2.load refC_len (by omega) hlt2
      repeat' first | with_reducible (first | refine Cw.seq ?_ | refine thenK_normal ?_ | refine Ow.nil ?_) | ((with_reducible refine Cw.region (Ow.run rfl fun k hk => ?_)); simp (disch := (first | omega | (simp only [lenS, lenT, UInt64.reduceToNat] ; try omega))) only [↓vcL_none, ↓vcB_move, ↓ov_some, ↓ev_tmp, ↓getF_s, ↓getF_0, putF_some, setF_s, setF_0, nf_cons, ↓vcB_len, Tryd.ix23, h1.len, ↓vcB_binOp, binX_vi_vi, bin_lss_i, ↓vcL_nil, Md.next_seq]; (with_reducible refine hk _ _ _ _ ?_); clear hk k) | with_reducible (first | refine Cw.block ?_ | refine Cw.skip ?_ | refine Cw.exit ?_ | refine Cw.ret ?_ | refine thenK_exit ?_ | refine thenK_ret ?_ | refine blockK_normal ?_ | refine blockK_ret ?_ | refine blockK_exit ?_ | refine blockK_pass rfl ?_) | ((with_reducible refine Cw.condC ?_); first | refine CwC.pt rfl (by omega) ?_ | refine CwC.pf rfl (by omega) ?_ | refine CwC.it rfl (by omega) ?_ | refine CwC.if rfl (by omega) ?_ | refine CwC.nt rfl (by omega) ?_ | refine CwC.nf rfl (by omega) ?_ | refine CwC.tt rfl ?_ | refine CwC.ff rfl ?_ | refine CwC.bt rfl (by assumption) ?_ | (refine CwC.bf rfl ?_ ?_; focus assumption))
      refine Cw.regionS [b1, b2] [0, 1, 2, 4, 5, 6, 3, 7, 8] [] (by kernel_rfl) (by kernel_rfl) (by kernel_rfl) ?_
      simp only [nl_cons, ↓pickL_nil, ↓pickL_cons, ↓nthO_0, ↓nthO_s, consO_some]
      refine Ow.runQ fun k hk => ?_
      simp (disch := (first | omega | (simp only [lenS, lenT, UInt64.reduceToNat] ; try omega))) only [↓vcL_none, ↓vcB_move, ↓ov_some, ↓ev_tmp, ↓getF_0, putF_some, setF_s, setF_0, nf_cons, ↓getF_s, ↓vcB_indexAddr, Tryd.ix23, ixI_vi, h1.idx, h2.idx, ↓vcB_load, Md.next_sof, List.contains_nil, Bool.false_eq_true, ↓reduceIte, ↓rd_sof_load, rdIn_p, List.contains_cons, beq_self_eq_true, Bool.or_false, Bool.true_or, ↓ib_true, Tryd.ag42, loadAt_p, read_old, hb1, ld1, Bool.or_true, hb2, ld2, ↓vcB_binOp, neRef, ↓vcL_nil]
      (with_reducible refine hk _ _ _ _ ?_); clear hk k
      with_reducible refine Ow.nil ?_
      cases hq : (((l1.getD g ref0).name == (l2.getD g ref0).name) && ((l1.getD g ref0).id.l == (l2.getD g ref0).id.l))
      · repeat' first | with_reducible (first | refine Cw.seq ?_ | refine thenK_normal ?_ | refine Ow.nil ?_) | ((with_reducible refine Cw.region (Ow.run rfl fun k hk => ?_)); simp (disch := (first | omega | (simp only [lenS, lenT, UInt64.reduceToNat] ; try omega))) only [↓vcL_none, ↓vcB_assign, ↓ov_some, Bool.not_false, ↓ev_const, putF_some, setF_s, setF_0, nf_cons, ↓vcL_nil, Md.next_seq]; (with_reducible refine hk _ _ _ _ ?_); clear hk k) | with_reducible (first | refine Cw.block ?_ | refine Cw.skip ?_ | refine Cw.exit ?_ | refine Cw.ret ?_ | refine thenK_exit ?_ | refine thenK_ret ?_ | refine blockK_normal ?_ | refine blockK_ret ?_ | refine blockK_exit ?_ | refine blockK_pass rfl ?_) | ((with_reducible refine Cw.condC ?_); first | refine CwC.pt rfl (by omega) ?_ | refine CwC.pf rfl (by omega) ?_ | refine CwC.it rfl (by omega) ?_ | refine CwC.if rfl (by omega) ?_ | refine CwC.nt rfl (by omega) ?_ | refine CwC.nf rfl (by omega) ?_ | refine CwC.tt rfl ?_ | refine CwC.ff rfl ?_ | refine CwC.bt rfl (by assumption) ?_ | (refine CwC.bf rfl ?_ ?_; focus assumption))
        refine ⟨_, (by simp (disch := (first | omega | (simp only [lenS, lenT, UInt64.reduceToNat] ; try omega))) only [resVs_cons, resV_tmp, ↓getF_s, ↓getF_0, resVs_nil, cons2_some]; rfl), trivial, ?_⟩
        rw [sameR_no hlt hlt2 hq]; rfl
      · repeat' first | with_reducible (first | refine Cw.seq ?_ | refine thenK_normal ?_ | refine Ow.nil ?_) | ((with_reducible refine Cw.region (Ow.run rfl fun k hk => ?_)); simp (disch := (first | omega | (simp only [lenS, lenT, UInt64.reduceToNat] ; try omega))) only [↓vcL_none, ↓vcB_move, ↓ov_some, Bool.not_true, ↓ev_tmp, ↓getF_s, ↓getF_0, putF_some, setF_s, setF_0, nf_cons, ↓vcB_binOp, ↓ev_const, lit_i64, binX_vi_vi, bin_add_i, ↓vcB_assign, ↓vcL_nil, Md.next_seq]; (with_reducible refine hk _ _ _ _ ?_); clear hk k) | with_reducible (first | refine Cw.block ?_ | refine Cw.skip ?_ | refine Cw.exit ?_ | refine Cw.ret ?_ | refine thenK_exit ?_ | refine thenK_ret ?_ | refine blockK_normal ?_ | refine blockK_ret ?_ | refine blockK_exit ?_ | refine blockK_pass rfl ?_) | ((with_reducible refine Cw.condC ?_); first | refine CwC.pt rfl (by omega) ?_ | refine CwC.pf rfl (by omega) ?_ | refine CwC.it rfl (by omega) ?_ | refine CwC.if rfl (by omega) ?_ | refine CwC.nt rfl (by omega) ?_ | refine CwC.nf rfl (by omega) ?_ | refine CwC.tt rfl ?_ | refine CwC.ff rfl ?_ | refine CwC.bt rfl (by assumption) ?_ | (refine CwC.bf rfl ?_ ?_; focus assumption))
        refine Again.mk (g + 1) (by omega) ⟨by omega, fun i hi => ?_⟩ rfl rfl
        by_cases hig : i = g
        · rw [hig]; exact hq
        · exact hgood i (by omega)
    · obtain rfl : g = l1.length := by omega
      repeat' first | with_reducible (first | refine Cw.seq ?_ | refine thenK_normal ?_ | refine Ow.nil ?_) | ((with_reducible refine Cw.region (Ow.run rfl fun k hk => ?_)); simp (disch := (first | omega | (simp only [lenS, lenT, UInt64.reduceToNat] ; try omega))) only [↓vcL_none, ↓vcB_move, ↓ov_some, ↓ev_tmp, ↓getF_s, ↓getF_0, putF_some, setF_s, setF_0, nf_cons, ↓vcB_len, Tryd.ix23, h1.len, ↓vcB_binOp, binX_vi_vi, bin_lss_i, ↓vcL_nil, Md.next_seq, ↓vcB_assign, ↓ev_const]; (with_reducible refine hk _ _ _ _ ?_); clear hk k) | with_reducible (first | refine Cw.block ?_ | refine Cw.skip ?_ | refine Cw.exit ?_ | refine Cw.ret ?_ | refine thenK_exit ?_ | refine thenK_ret ?_ | refine blockK_normal ?_ | refine blockK_ret ?_ | refine blockK_exit ?_ | refine blockK_pass rfl ?_) | ((with_reducible refine Cw.condC ?_); first | refine CwC.pt rfl (by omega) ?_ | refine CwC.pf rfl (by omega) ?_ | refine CwC.it rfl (by omega) ?_ | refine CwC.if rfl (by omega) ?_ | refine CwC.nt rfl (by omega) ?_ | refine CwC.nf rfl (by omega) ?_ | refine CwC.tt rfl ?_ | refine CwC.ff rfl ?_ | refine CwC.bt rfl (by assumption) ?_ | (refine CwC.bf rfl ?_ ?_; focus assumption))
      rw [sameR_yes hle hgood]
      refine ⟨_, (by simp (disch := (first | omega | (simp only [lenS, lenT, UInt64.reduceToNat] ; try omega))) only [resVs_cons, resV_tmp, ↓getF_s, ↓getF_0, resVs_nil, cons2_some]; rfl), trivial, ?_⟩
      rfl
  · repeat' first | with_reducible (first | refine Cw.seq ?_ | refine thenK_normal ?_ | refine Ow.nil ?_) | ((with_reducible refine Cw.region (Ow.run rfl fun k hk => ?_)); simp (disch := (first | omega | (simp only [lenS, lenT, UInt64.reduceToNat] ; try omega))) only [↓vcL_none, ↓vcB_assign, ↓ov_some, ↓ev_const, putF_some, setF_s, setF_0, nf_cons, ↓vcL_nil, Md.next_seq]; (with_reducible refine hk _ _ _ _ ?_); clear hk k) | with_reducible (first | refine Cw.block ?_ | refine Cw.skip ?_ | refine Cw.exit ?_ | refine Cw.ret ?_ | refine thenK_exit ?_ | refine thenK_ret ?_ | refine blockK_normal ?_ | refine blockK_ret ?_ | refine blockK_exit ?_ | refine blockK_pass rfl ?_) | ((with_reducible refine Cw.condC ?_); first | refine CwC.pt rfl (by omega) ?_ | refine CwC.pf rfl (by omega) ?_ | refine CwC.it rfl (by omega) ?_ | refine CwC.if rfl (by omega) ?_ | refine CwC.nt rfl (by omega) ?_ | refine CwC.nf rfl (by omega) ?_ | refine CwC.tt rfl ?_ | refine CwC.ff rfl ?_ | refine CwC.bt rfl (by assumption) ?_ | (refine CwC.bf rfl ?_ ?_; focus assumption))
    have : sameR l1 l2 = false := by
      unfold sameR
      rw [beq_eq_false_iff_ne]
      intro e
      exact hle (by simpa using congrArg List.length e)
    rw [this]
    refine ⟨_, (by simp (disch := (first | omega | (simp only [lenS, lenT, UInt64.reduceToNat] ; try omega))) only [resVs_cons, resV_tmp, ↓getF_s, ↓getF_0, resVs_nil, cons2_some]; rfl), trivial, ?_⟩
    rfl
end Go.Proofs
open Go Go.Proofs Go.Sx Go.RefP
namespace Go.Proofs
set_option maxRecDepth 10000
set_option maxHeartbeats 4000000
/-! ### Reading one byte further on is reading what begins there -/
theorem numR_shift (s : List UInt8) (a : Nat) (e most : Int) : numR s (a + 1) e most = ((numR (s.drop 1) a e most).1, (numR (s.drop 1) a e most).2.1 + 1, (numR (s.drop 1) a e most).2.2) := by
  unfold numR
  rw [List.drop_drop, Nat.add_comm 1 a]
  by_cases he : e ≠ 0
  · rw [if_pos he, if_pos he]
  · rw [if_neg he, if_neg he]
    cases numGo most (List.drop (a + 1) s) 0 0 with
    | error x => rfl
    | ok p => simp only [Prod.mk.injEq, true_and]; exact ⟨by omega, trivial⟩
theorem rawR_shift (s : List UInt8) (a : Nat) (e n : Int) (hs : 1 ≤ s.length) : rawR s (a + 1) e n = ((rawR (s.drop 1) a e n).1, (rawR (s.drop 1) a e n).2.1 + 1, (rawR (s.drop 1) a e n).2.2) := by
  unfold rawR
  rw [List.length_drop, List.drop_drop, Nat.add_comm 1 a]
  have hq : ((s.length : Int) - ((a + 1 : Nat) : Int) < n) = (((s.length - 1 : Nat) : Int) - (a : Int) < n) := by rw [eq_iff_iff]; omega
  simp only [hq]
  by_cases he : e ≠ 0
  · simp only [if_pos he]
  · simp only [if_neg he]
    by_cases hn : n < 0
    · simp only [if_pos hn]
    · simp only [if_neg hn]
      by_cases hl : ((s.length - 1 : Nat) : Int) - (a : Int) < n
      · simp only [if_pos hl]
      · simp only [if_neg hl, Prod.mk.injEq, true_and]
        exact ⟨by omega, trivial⟩
theorem textR_shift (s : List UInt8) (a : Nat) (e most : Int) (hs : 1 ≤ s.length) : textR s (a + 1) e most = ((textR (s.drop 1) a e most).1, (textR (s.drop 1) a e most).2.1 + 1, (textR (s.drop 1) a e most).2.2) := by
  unfold textR
  simp only [numR_shift]
  rw [rawR_shift _ _ _ _ hs]
  simp only
  split <;> rfl
theorem idR_shift (s : List UInt8) (a : Nat) (e : Int) (hs : 1 ≤ s.length) : idR s (a + 1) e = ((idR (s.drop 1) a e).1, (idR (s.drop 1) a e).2.1 + 1, (idR (s.drop 1) a e).2.2) := by
  unfold idR
  simp only [rawR_shift _ _ _ _ hs]
/-- Some bytes as an id. -/
def mkId (l : List UInt8) : IdL := if h : l.length = 32 then ⟨l, h⟩ else id0
theorem mkId_eq {l : List UInt8} (h : l.length = 32) : mkId l = ⟨l, h⟩ := by unfold mkId; rw [dif_pos h]
/-- A ref is read. -/
def refR (s : List UInt8) (a : Nat) (e : Int) : RefL × Nat × Int :=
  (⟨(textR s a e 32).1, mkId (idR s (textR s a e 32).2.1 (textR s a e 32).2.2).1⟩, (idR s (textR s a e 32).2.1 (textR s a e 32).2.2).2)
theorem oneR_eq (s : List UInt8) (a : Nat) (e : Int) (ha : a ≤ s.length) : oneR s a e ha = refR s a e := by
  unfold oneR refR
  rw [mkId_eq (idR_len (textR_le ha).2)]
theorem refR_le {s : List UInt8} {a : Nat} {e : Int} (ha : a ≤ s.length) : a ≤ (refR s a e).2.1 ∧ (refR s a e).2.1 ≤ s.length := by
  have h1 := textR_le (e := e) (most := 32) ha
  have h2 := idR_le (e := (textR s a e 32).2.2) h1.2
  unfold refR
  exact ⟨by simp only; omega, h2.2⟩
/-- So many refs are read. -/
def refsR (s : List UInt8) (a : Nat) (e : Int) : Nat → List RefL × Nat × Int
  | 0 => ([], a, e)
  | g + 1 => ((refsR s a e g).1 ++ [(refR s (refsR s a e g).2.1 (refsR s a e g).2.2).1], (refR s (refsR s a e g).2.1 (refsR s a e g).2.2).2)
theorem refsR_le {s : List UInt8} {a : Nat} {e : Int} (ha : a ≤ s.length) : ∀ g, a ≤ (refsR s a e g).2.1 ∧ (refsR s a e g).2.1 ≤ s.length
  | 0 => ⟨Nat.le_refl _, ha⟩
  | g + 1 => by
    have ih := refsR_le (e := e) ha g
    have h := refR_le (e := (refsR s a e g).2.2) ih.2
    unfold refsR
    exact ⟨by simp only; omega, h.2⟩
theorem refsR_length (s : List UInt8) (a : Nat) (e : Int) : ∀ g, (refsR s a e g).1.length = g
  | 0 => rfl
  | g + 1 => by unfold refsR; simp [refsR_length s a e g]
/-- The error at the end. -/
def endR (s : List UInt8) (a : Nat) (e : Int) : Int := if e ≠ 0 then e else if (a : Int) < s.length then 5 else 0
theorem endR_shift (s : List UInt8) (a : Nat) (e : Int) (hs : 1 ≤ s.length) : endR s (a + 1) e = endR (s.drop 1) a e := by
  unfold endR
  rw [List.length_drop]
  have : (((a + 1 : Nat) : Int) < (s.length : Int)) = ((a : Int) < ((s.length - 1 : Nat) : Int)) := by rw [eq_iff_iff]; omega
  simp only [this]
/-- Names and ids of refs. -/
def prs (l : List RefL) : Vals := l.map fun r => (r.name, r.id.l)
theorem prs_len (l : List RefL) : (prs l).length = l.length := by simp [prs]
theorem prs_getD (l : List RefL) (g : Nat) (h : g < l.length) : (prs l).getD g zp = ((l.getD g ref0).name, (l.getD g ref0).id.l) := by
  unfold prs
  rw [List.getD_eq_getElem?_getD, List.getD_eq_getElem?_getD, List.getElem?_map, List.getElem?_eq_getElem h]; rfl
/-- May a book be? -/
def rightB (t l : List RefL) : Bool := rightM nameV z32 (prs t) (prs l)
/-- A head: the table, and where it ends. -/
def headR (s : List UInt8) : Option (List RefL × Nat) :=
  match recR s 0 0 [72] with
  | (none, _) => none
  | (some c, at_, _) =>
    let n := numR c 0 0 16
    let tb := refsR c n.2.1 n.2.2 n.1.toNat
    if endR c tb.2.1 tb.2.2 = 0 ∧ rightB tb.1 [] = true then some (tb.1, at_) else none
/-- One more entry. -/
def nextR (s : List UInt8) (tb : List RefL) (log : List RefL) (at_ : Nat) : Option (List RefL × Nat) :=
  match recR s at_ 0 [69] with
  | (none, _) => none
  | (some c, to, _) => if endR c (refR c 0 0).2.1 (refR c 0 0).2.2 = 0 ∧ rightB tb (log ++ [(refR c 0 0).1]) = true then some (log ++ [(refR c 0 0).1], to) else none
/-- As many entries as there are. -/
def logsR (s : List UInt8) (tb : List RefL) : Nat → List RefL → Nat → List RefL × Nat
  | 0, log, at_ => (log, at_)
  | n + 1, log, at_ => match nextR s tb log at_ with
    | none => (log, at_)
    | some p => logsR s tb n p.1 p.2
/-- The book of some bytes. -/
def bookR (s : List UInt8) : Option (List RefL × List RefL × Nat) := (headR s).map fun h => (h.1, logsR s h.1 101 [] h.2)
theorem rightB_len {t l : List RefL} (h : rightB t l = true) : l.length ≤ 100 := by
  unfold rightB rightM at h
  rw [Bool.and_eq_true, decide_eq_true_eq, prs_len] at h
  exact h.2
theorem nextR_len {s : List UInt8} {tb log : List RefL} {at_ : Nat} {p : List RefL × Nat} (h : nextR s tb log at_ = some p) : p.1.length = log.length + 1 ∧ p.1.length ≤ 100 := by
  unfold nextR at h
  split at h
  · cases h
  · split at h
    · rename_i h2
      cases h
      exact ⟨by simp, rightB_len h2.2⟩
    · cases h
theorem logsR_more (s : List UInt8) (tb : List RefL) : ∀ (n m : Nat) (log : List RefL) (at_ : Nat), 101 ≤ n + log.length → 101 ≤ m + log.length → log.length ≤ 100 → logsR s tb n log at_ = logsR s tb m log at_
  | 0, _, log, at_, h1, _, h3 => by omega
  | n + 1, 0, log, at_, _, h2, h3 => by omega
  | n + 1, m + 1, log, at_, h1, h2, h3 => by
    unfold logsR
    cases hn : nextR s tb log at_ with
    | none => rfl
    | some p =>
      have := nextR_len hn
      exact logsR_more s tb n m p.1 p.2 (by omega) (by omega) this.2
end Go.Proofs
open Go Go.Proofs Go.Sx Go.RefP
namespace Go.Proofs
set_option maxRecDepth 10000
set_option maxHeartbeats 4000000
set_option linter.unusedSimpArgs false
theorem setV_eq (r : RefL) (m : Vals) : setV r m = setM z32 (r.name, r.id.l) m := rfl
def Book0 (v : Value) (a b : Value) : Prop := v = .agg #[a, b]
theorem load_bk0 (a b : Value) (E : TypeId) (n : Nat) : loadV (some (false, n)) (some (.cells #[a, b] E (0, 0))) 0 = some a := (rfl)
theorem load_bk1 (a b : Value) (E : TypeId) (n : Nat) : loadV (some (false, n)) (some (.cells #[a, b] E (0, 0))) 1 = some b := (rfl)
theorem eqIdz (l : List UInt8) (h : l.length = 32) : binX Tryd.prog .eql 40 (.agg (a8 l)) (.agg (a8 z32)) = some (.bool (l == z32)) := eqId l z32 ⟨h, by simp [z32]⟩
theorem isNameV_spec (s : List UInt8) (w : World) (hs : s.length < 1099511627776) :
    Rets Tryd.prog 59 #[vs s] w (fun v D => v = .bool (nameV s) ∧ D = []) := isName_spec s w hs
structure OG where
  g : Nat
  m : Vals
  o : Obj
/-- What 'of' hands back. -/
def OfS (n : Nat) (t l : List RefL) (k : Nat) (v : Value) (D : Heap) : Prop :=
  match ofM nameV z32 (prs t) (prs l) k with
  | some m => ∃ b o, v = .tuple #[vm b, .bool (decide (l.length ≤ 100))] ∧ D = [(b, o)] ∧ MapR o m ∧ n ≤ b
  | none => v = .tuple #[.map none, .bool false] ∧ New n D
theorem tabM_step {nm : List UInt8 → Bool} {z : List UInt8} {t m : Vals} {g : Nat} (h : tabM nm z t g = some m) : tabM nm z t (g + 1) = if (tabOk nm z t g && decide ((setM z (t.getD g zp) m).length ≤ 16)) = true then some (setM z (t.getD g zp) m) else none := by
  rw [tabM, h]; rfl
theorem logM_step {nm : List UInt8 → Bool} {z : List UInt8} {l m0 m : Vals} {g : Nat} (h : logM nm z l m0 g = some m) : logM nm z l m0 (g + 1) = if (nm (l.getD g zp).1 && decide ((setM z (l.getD g zp) m).length ≤ 16)) = true then some (setM z (l.getD g zp) m) else none := by
  rw [logM, h]; rfl
theorem OfS.tab {n : Nat} {t l : List RefL} {k g : Nat} (h : tabM nameV z32 (prs t) (g + 1) = none) (hg : g < t.length) {D : Heap} (hD : New n D) : OfS n t l k (.tuple #[.map none, .bool false]) D := by
  unfold OfS ofM
  rw [tabM_stop h _ (by rw [prs_len]; exact hg)]
  exact ⟨rfl, hD⟩
theorem OfS.log {n : Nat} {t l : List RefL} {k g : Nat} {m : Vals} (ht : tabM nameV z32 (prs t) t.length = some m) (h : logM nameV z32 (prs l) m (g + 1) = none) (hg : g < k) {D : Heap} (hD : New n D) : OfS n t l k (.tuple #[.map none, .bool false]) D := by
  unfold OfS ofM
  rw [prs_len, ht, Option.bind_some, logM_stop h _ hg]
  exact ⟨rfl, hD⟩
theorem OfS.new {n : Nat} {t l : List RefL} {k : Nat} {v : Value} {D : Heap} (h : OfS n t l k v D) : New n D := by
  unfold OfS at h
  split at h
  · obtain ⟨b, o, -, rfl, -, hb⟩ := h
    exact ⟨hb, trivial⟩
  · exact h.2
theorem of_spec (vt vl : Value) (t l : List RefL) (k : Nat) (w : World) (ht : RefSl w vt t) (hl : RefSl w vl l) (htl : t.length < 1000000) (hll : l.length < 1000000) (hk : k ≤ l.length)
    (hnt : ∀ g, g < t.length → (t.getD g ref0).name.length < 1099511627776) (hnl : ∀ g, g < l.length → (l.getD g ref0).name.length < 1099511627776) :
    Rets Tryd.prog 72 #[.agg #[vt, vl], vi k] w (OfS w.heap.size t l k) := by
  refine Rets.enter Tryd.func72 rfl (rs := [.tmp 4, .tmp 5]) Tryd.results72 Tryd.ntmps72 ?_
  simp only [List.size_toArray, List.length_cons, List.length_nil, Nat.reduceAdd, Nat.reduceSub, List.replicate_succ, List.replicate_zero, List.cons_append, List.nil_append]
  obtain ⟨b1, o1, a1, E1, f1, h1⟩ := ht.row
  repeat' first | with_reducible (first | refine Cw.seq ?_ | refine thenK_normal ?_ | refine Ow.nil ?_) | ((with_reducible refine Cw.region (Ow.run rfl fun k hk => ?_)); simp (disch := (first | omega | (simp only [lenS, lenT, UInt64.reduceToNat] ; try omega))) only [↓vcL_none, ↓vcB_box]; (with_reducible refine hk _ _ _ _ ?_); clear hk k) | with_reducible (first | refine Cw.block ?_ | refine Cw.skip ?_ | refine Cw.exit ?_ | refine Cw.ret ?_ | refine thenK_exit ?_ | refine thenK_ret ?_ | refine blockK_normal ?_ | refine blockK_ret ?_ | refine blockK_exit ?_ | refine blockK_pass rfl ?_) | ((with_reducible refine Cw.condC ?_); first | refine CwC.pt rfl (by omega) ?_ | refine CwC.pf rfl (by omega) ?_ | refine CwC.it rfl (by omega) ?_ | refine CwC.if rfl (by omega) ?_ | refine CwC.nt rfl (by omega) ?_ | refine CwC.nf rfl (by omega) ?_ | refine CwC.tt rfl ?_ | refine CwC.ff rfl ?_ | refine CwC.bt rfl (by assumption) ?_ | (refine CwC.bf rfl ?_ ?_; focus assumption))
  refine Ow.box rfl rfl fun bx hbx hwx => ?_
  simp only [ev_tmp, getF_0, getF_s, cells_agg, List.nil_append, List.cons_append]
  refine Ow.run rfl fun k hk => ?_
  simp (disch := (first | omega | (simp only [lenS, lenT, UInt64.reduceToNat] ; try omega))) only [↓vcL_none, ↓vcB_assign, ↓ov_some, putF_some, setF_s, setF_0, ↓ev_const, nf_cons, ↓vcL_nil, Md.next_seq]
  (with_reducible refine hk _ _ _ _ ?_); clear hk k
  repeat' first | with_reducible (first | refine Cw.seq ?_ | refine thenK_normal ?_ | refine Ow.nil ?_) | ((with_reducible refine Cw.region (Ow.run rfl fun k hk => ?_)); simp (disch := (first | omega | (simp only [lenS, lenT, UInt64.reduceToNat] ; try omega))) only [↓vcL_none, ↓vcB_makeMap]; (with_reducible refine hk _ _ _ _ ?_); clear hk k) | with_reducible (first | refine Cw.block ?_ | refine Cw.skip ?_ | refine Cw.exit ?_ | refine Cw.ret ?_ | refine thenK_exit ?_ | refine thenK_ret ?_ | refine blockK_normal ?_ | refine blockK_ret ?_ | refine blockK_exit ?_ | refine blockK_pass rfl ?_) | ((with_reducible refine Cw.condC ?_); first | refine CwC.pt rfl (by omega) ?_ | refine CwC.pf rfl (by omega) ?_ | refine CwC.it rfl (by omega) ?_ | refine CwC.if rfl (by omega) ?_ | refine CwC.nt rfl (by omega) ?_ | refine CwC.nf rfl (by omega) ?_ | refine CwC.tt rfl ?_ | refine CwC.ff rfl ?_ | refine CwC.bt rfl (by assumption) ?_ | (refine CwC.bf rfl ?_ ?_; focus assumption))
  refine Ow.makeMap rfl rfl fun bm o hbm hwm hm0 => ?_
  obtain ⟨hxm, -⟩ := hbm
  rw [List.cons_append, List.nil_append]
  refine Ow.run rfl fun k hk => ?_
  simp (disch := (first | omega | (simp only [lenS, lenT, UInt64.reduceToNat] ; try omega))) only [↓vcL_none, ↓vcB_assign, ↓ov_some, putF_some, setF_s, setF_0, ↓ev_tmp, ↓getF_s, ↓getF_0, nf_cons, ↓vcL_nil, Md.next_seq]
  (with_reducible refine hk _ _ _ _ ?_); clear hk k
  repeat' first | with_reducible (first | refine Cw.seq ?_ | refine thenK_normal ?_ | refine Ow.nil ?_) | ((with_reducible refine Cw.region (Ow.run rfl fun k hk => ?_)); simp (disch := (first | omega | (simp only [lenS, lenT, UInt64.reduceToNat] ; try omega))) only [↓vcL_none, ↓vcB_fieldAddr, Tryd.fl25_0, ↓ev_tmp, ↓getF_s, ↓getF_0, fieldAddr_p, Nat.add_zero, ↓ov_some, putF_some, setF_s, setF_0, nf_cons, ↓vcB_load, Md.next_seq, rd_seq_load, ↓ib_true, Tryd.ag23, loadAt_p, read_same, load_bk0, ↓vcB_len, Tryd.ix23, ht.len, ↓vcB_move, ↓ev_const, lit_i64, ↓vcL_nil]; (with_reducible refine hk _ _ _ _ ?_); clear hk k) | with_reducible (first | refine Cw.block ?_ | refine Cw.skip ?_ | refine Cw.exit ?_ | refine Cw.ret ?_ | refine thenK_exit ?_ | refine thenK_ret ?_ | refine blockK_normal ?_ | refine blockK_ret ?_ | refine blockK_exit ?_ | refine blockK_pass rfl ?_) | ((with_reducible refine Cw.condC ?_); first | refine CwC.pt rfl (by omega) ?_ | refine CwC.pf rfl (by omega) ?_ | refine CwC.it rfl (by omega) ?_ | refine CwC.if rfl (by omega) ?_ | refine CwC.nt rfl (by omega) ?_ | refine CwC.nf rfl (by omega) ?_ | refine CwC.tt rfl ?_ | refine CwC.ff rfl ?_ | refine CwC.bt rfl (by assumption) ?_ | (refine CwC.bf rfl ?_ ?_; focus assumption))
  refine Cw.loopG (G := OG) [16, 17, 18, 19, 8, 7, 20, 21, 22, 23, 24, 25, 26, 27, 28, 29, 30, 31, 32, 33, 34, 35, 36, 37, 38, 39, 40, 41, 42, 43, 44, 45, 46, 47, 48, 49, 50, 51, 4, 5, 52, 15] (fun g => [(15, vi g.g)]) (fun g => [(bx, .cells #[vt, vl] 25 (0, 0)), (bm, g.o)]) (fun g => g.g ≤ t.length ∧ tabM nameV z32 (prs t) g.g = some g.m ∧ MapR g.o g.m) (fun g => t.length - g.g) ⟨0, [], o⟩ rfl rfl ?_ ?_
  · exact ⟨Nat.zero_le _, rfl, hm0⟩
  intro g j hg
  simp only [overFrom, pin, setF_0, setF_s, List.contains_cons, List.contains_nil, Nat.reduceBEq, Bool.or_false, Bool.false_or, Bool.or_true, Bool.true_or, Nat.reduceAdd, ↓reduceIte, Bool.false_eq_true]
  obtain ⟨g, m, o⟩ := g
  simp only at hg ⊢
  obtain ⟨hgl, hgm, hgo⟩ := hg
  by_cases hlt : g < t.length
  · have hb1 := h1.has (by omega)
    have hb1l := h1.lt (by omega)
    have ld1 := h1.load refC_len (by omega) hlt
    repeat' first | with_reducible (first | refine Cw.seq ?_ | refine thenK_normal ?_ | refine Ow.nil ?_) | ((with_reducible refine Cw.region (Ow.run rfl fun k hk => ?_)); simp (disch := (first | omega | (simp only [lenS, lenT, UInt64.reduceToNat] ; try omega))) only [↓vcL_none, ↓vcB_binOp, ↓ev_tmp, ↓getF_s, ↓getF_0, binX_vi_vi, bin_lss_i, ↓ov_some, putF_some, setF_s, setF_0, nf_cons, ↓vcL_nil, Md.next_seq]; (with_reducible refine hk _ _ _ _ ?_); clear hk k) | with_reducible (first | refine Cw.block ?_ | refine Cw.skip ?_ | refine Cw.exit ?_ | refine Cw.ret ?_ | refine thenK_exit ?_ | refine thenK_ret ?_ | refine blockK_normal ?_ | refine blockK_ret ?_ | refine blockK_exit ?_ | refine blockK_pass rfl ?_) | ((with_reducible refine Cw.condC ?_); first | refine CwC.pt rfl (by omega) ?_ | refine CwC.pf rfl (by omega) ?_ | refine CwC.it rfl (by omega) ?_ | refine CwC.if rfl (by omega) ?_ | refine CwC.nt rfl (by omega) ?_ | refine CwC.nf rfl (by omega) ?_ | refine CwC.tt rfl ?_ | refine CwC.ff rfl ?_ | refine CwC.bt rfl (by assumption) ?_ | (refine CwC.bf rfl ?_ ?_; focus assumption))
    refine Cw.region (Ow.run rfl fun k hk => ?_)
    simp (disch := (first | omega | (simp only [lenS, lenT, UInt64.reduceToNat] ; try omega))) only [↓vcL_none, ↓vcB_move, ↓ov_some, ↓ev_tmp, ↓getF_s, ↓getF_0, putF_some, setF_s, setF_0, nf_cons, ↓vcB_indexAddr, Tryd.ix23, ixI_vi, h1.idx, ↓vcB_load, Md.next_seq, rd_seq_load, ↓ib_true, Tryd.ag42, loadAt_p, read_other, read_old, hb1, ld1, ↓vcB_alloc]
    (with_reducible refine hk _ _ _ _ ?_); clear hk k
    refine Ow.alloc rfl rfl zrRef fun b5 hb5 hw5 => ?_
    simp only [cells_agg, List.nil_append, List.cons_append]
    obtain ⟨hx5, hm5, -⟩ := hb5
    refine Ow.run rfl fun k hk => ?_
    simp (disch := (first | omega | (simp only [lenS, lenT, UInt64.reduceToNat] ; try omega))) only [↓vcL_none, ↓vcB_assign, ↓ov_some, putF_some, setF_s, setF_0, ↓ev_tmp, ↓getF_s, ↓getF_0, nf_cons, ↓vcB_store, Tryd.ag42, storeAt_p, look_other, look_same, store_rr, upd_some, setB_other, setB_same, oh_some, ↓vcL_nil, Md.next_seq, nh_cons]
    (with_reducible refine hk _ _ _ _ ?_); clear hk k
    repeat' first | with_reducible (first | refine Cw.seq ?_ | refine thenK_normal ?_ | refine Ow.nil ?_) | ((with_reducible refine Cw.region (Ow.run rfl fun k hk => ?_)); simp (disch := (first | omega | (simp only [lenS, lenT, UInt64.reduceToNat] ; try omega))) only []; (with_reducible refine hk _ _ _ _ ?_); clear hk k) | with_reducible (first | refine Cw.block ?_ | refine Cw.skip ?_ | refine Cw.exit ?_ | refine Cw.ret ?_ | refine thenK_exit ?_ | refine thenK_ret ?_ | refine blockK_normal ?_ | refine blockK_ret ?_ | refine blockK_exit ?_ | refine blockK_pass rfl ?_) | ((with_reducible refine Cw.condC ?_); first | refine CwC.pt rfl (by omega) ?_ | refine CwC.pf rfl (by omega) ?_ | refine CwC.it rfl (by omega) ?_ | refine CwC.if rfl (by omega) ?_ | refine CwC.nt rfl (by omega) ?_ | refine CwC.nf rfl (by omega) ?_ | refine CwC.tt rfl ?_ | refine CwC.ff rfl ?_ | refine CwC.bt rfl (by assumption) ?_ | (refine CwC.bf rfl ?_ ?_; focus assumption))
    have hil := (t.getD g ref0).id.h
    have hnm := hnt g hlt
    have hpg := prs_getD t g hlt
    generalize hr : t.getD g ref0 = r at *
    refine Cw.regionS [bx, b1, b5] [0, 1, 2, 3, 4, 5, 7, 6, 8, 9, 10, 11, 12, 13, 14, 16, 17, 21, 15, 18, 19, 20, 22, 23, 24, 25, 26, 27, 28, 29, 30, 31] [] (by kernel_rfl) (by kernel_rfl) (by kernel_rfl) ?_
    simp only [nl_cons, ↓pickL_nil, ↓pickL_cons, ↓nthO_0, ↓nthO_s, consO_some]
    refine Ow.runQ fun k hk => ?_
    simp (disch := (first | omega | (simp only [lenS, lenT, UInt64.reduceToNat] ; try omega))) only [↓vcL_none, ↓vcB_fieldAddr, Tryd.fl42_0, ↓ev_tmp, ↓getF_s, ↓getF_0, fieldAddr_p, Nat.add_zero, ↓ov_some, putF_some, setF_s, setF_0, nf_cons, ↓vcB_load, Md.next_sof, List.contains_nil, Bool.false_eq_true, ↓reduceIte, ↓rd_sof_load, rdIn_p, List.contains_cons, beq_self_eq_true, Bool.or_false, Bool.or_true, ↓ib_true, Tryd.ag9, loadAt_p, read_other, read_same, load_ref0, ↓vcB_call, lit_i64]
    (with_reducible refine hk _ _ _ _ ?_); clear hk k
    refine Ow.callFV rfl Tryd.call59 (fun w' hw' => isNameV_spec r.name w' hnm) ?_
    cases hn : nameV r.name
    · have hok : tabOk nameV z32 (prs t) g = false := by unfold tabOk; rw [hpg]; simp only [hn, Bool.false_and]
      refine Ow.runQ fun k hk => ?_
      simp (disch := (first | omega | (simp only [lenS, lenT, UInt64.reduceToNat] ; try omega))) only [↓vcL_none, ↓vcB_unOp, ↓ev_tmp, putF_some, setF_s, setF_0, ↓getF_s, ↓getF_0, un_not, Bool.not_false, ↓ov_some, nf_cons, ↓vcB_move, ↓vcL_some, lit_i64, yieldF_lit, ↓nthO_s, ↓nthO_0, yieldL_some, boolOf_b, some_beq, beq_false, Bool.not_true, ↓ib_false, ↓vcB_pick, ↓ev_const, pick_t, boolOf_undef, none_beq, ↓vcL_nil, Md.next_sof, List.contains_nil, Bool.false_eq_true, ↓reduceIte]
      (with_reducible refine hk _ _ _ _ ?_); clear hk k
      with_reducible refine Ow.nil ?_
      repeat' first | with_reducible (first | refine Cw.seq ?_ | refine thenK_normal ?_ | refine Ow.nil ?_) | ((with_reducible refine Cw.region (Ow.run rfl fun k hk => ?_)); simp (disch := (first | omega | (simp only [lenS, lenT, UInt64.reduceToNat] ; try omega))) only [↓vcL_none, ↓vcB_assign, ↓ov_some, ↓ev_const, putF_some, setF_s, setF_0, nf_cons, ↓vcL_nil, Md.next_seq]; (with_reducible refine hk _ _ _ _ ?_); clear hk k) | with_reducible (first | refine Cw.block ?_ | refine Cw.skip ?_ | refine Cw.exit ?_ | refine Cw.ret ?_ | refine thenK_exit ?_ | refine thenK_ret ?_ | refine blockK_normal ?_ | refine blockK_ret ?_ | refine blockK_exit ?_ | refine blockK_pass rfl ?_) | ((with_reducible refine Cw.condC ?_); first | refine CwC.pt rfl (by omega) ?_ | refine CwC.pf rfl (by omega) ?_ | refine CwC.it rfl (by omega) ?_ | refine CwC.if rfl (by omega) ?_ | refine CwC.nt rfl (by omega) ?_ | refine CwC.nf rfl (by omega) ?_ | refine CwC.tt rfl ?_ | refine CwC.ff rfl ?_ | refine CwC.bt rfl (by assumption) ?_ | (refine CwC.bf rfl ?_ ?_; focus assumption))
      refine ⟨_, (by simp (disch := (first | omega | (simp only [lenS, lenT, UInt64.reduceToNat] ; try omega))) only [resVs_cons, resV_tmp, ↓getF_s, ↓getF_0, resVs_nil, cons2_some]; rfl), ?_⟩
      exact OfS.tab (by rw [tabM_step hgm, hok]; rfl) hlt ⟨hwx, hwm, hw5, trivial⟩
    · refine Ow.runQ fun k hk => ?_
      simp (disch := (first | omega | (simp only [lenS, lenT, UInt64.reduceToNat] ; try omega))) only [↓vcL_none, ↓vcB_unOp, ↓ev_tmp, putF_some, setF_s, setF_0, ↓getF_s, ↓getF_0, un_not, Bool.not_true, ↓ov_some, nf_cons, ↓vcB_move, ↓vcL_some, lit_i64, yieldF_lit, ↓nthO_s, ↓nthO_0, yieldL_some, boolOf_b, beq_self_eq_true, ↓ib_true, ↓vcB_fieldAddr, Tryd.fl42_1, fieldAddr_p, Nat.zero_add, ↓vcB_build, Md.next_sof, List.contains_nil, Bool.false_eq_true, ↓reduceIte]
      (with_reducible refine hk _ _ _ _ ?_); clear hk k
      refine Ow.build (.agg (a8 z32)) rfl (by kernel_rfl) ?_
      cases hz : (r.id.l == z32)
      · by_cases h0 : g = 0
        · have hd : decide ((0 : Int) < (g : Int)) = false := by simp [h0]
          have hok : tabOk nameV z32 (prs t) g = true := by unfold tabOk; rw [hpg]; simp only [hn, hz, h0, beq_self_eq_true, Bool.true_or, Bool.not_false, Bool.and_self]
          refine Ow.runQ fun k hk => ?_
          simp (disch := (first | omega | (simp only [lenS, lenT, UInt64.reduceToNat] ; try omega))) only [↓vcL_some, lit_i64, putF_some, setF_s, setF_0, yieldF_lit, ↓nthO_s, ↓nthO_0, yieldL_some, ↓getF_s, ↓getF_0, boolOf_b, beq_self_eq_true, ↓ib_true, ↓vcB_load, Md.next_sof, List.contains_nil, Bool.false_eq_true, ↓reduceIte, ↓rd_sof_load, ↓ev_tmp, rdIn_p, List.contains_cons, Bool.or_false, Bool.or_true, Tryd.ag40, loadAt_p, read_other, read_same, load_ref1, ↓ov_some, nf_cons, ↓vcB_binOp, eqIdz, hz, ↓vcL_none, ↓vcB_pick, ↓ev_const, pick_f, ↓vcB_move, binX_vi_vi, bin_gtr_i, hd, some_beq, beq_true, ↓ib_false, Tryd.ag42, load_ref, ↓vcB_call]
          (with_reducible refine hk _ _ _ _ ?_); clear hk k
          refine Ow.soft rfl rfl rfl ?_
          refine Ow.callE rfl rfl Tryd.call111 (by simp [keys]) (fun w' hw' => set_spec bm o m r w' (hw'.has _ _ (List.mem_cons_of_mem _ List.mem_cons_self)) hgo) (fun v o' hS => ?_)
          with_reducible refine Ow.nil ?_
          refine ⟨fun b hb => read_setB_ne (by simp only [List.mem_cons, List.not_mem_nil, or_false] at hb; omega), ?_⟩
          simp (disch := (first | omega | (simp only [lenS, lenT, UInt64.reduceToNat] ; try omega))) only [setB_other, setB_same]
          obtain ⟨rfl, hm'⟩ := hS
          rw [setV_eq] at hm' ⊢
          by_cases h16 : (setM z32 (r.name, r.id.l) m).length ≤ 16
          · have hd2 : decide ((setM z32 (r.name, r.id.l) m).length ≤ 16) = true := by simpa using h16
            refine Ow.runQ fun k hk => ?_
            simp (disch := (first | omega | (simp only [lenS, lenT, UInt64.reduceToNat] ; try omega))) only [↓vcL_some, lit_i64, hd2, putF_some, setF_s, setF_0, yieldF_lit, ↓nthO_s, ↓nthO_0, yieldL_some, ↓getF_s, ↓getF_0, boolOf_b, beq_self_eq_true, ↓ib_true, ↓vcB_unOp, ↓ev_tmp, un_not, Bool.not_true, ↓ov_some, nf_cons, ↓vcL_none, ↓vcB_pick, ↓ev_const, pick_f, ↓vcL_nil, Md.next_sof, List.contains_nil, Bool.false_eq_true, ↓reduceIte]
            (with_reducible refine hk _ _ _ _ ?_); clear hk k
            with_reducible refine Ow.nil ?_
            with_reducible refine thenK_normal ?_
            refine Cw.forgetN [(bx, .cells #[vt, vl] 25 (0, 0)), (bm, o')] (by exact ⟨hwx, hwm, hw5, trivial⟩) (by intro p hp; simp only [List.mem_cons, List.not_mem_nil, or_false] at hp ⊢; all_goals (first | (rcases hp with rfl | hp <;> simp_all) | (subst hp; simp) | simp_all)) (by simp [keys] <;> omega) ?_
            repeat' first | with_reducible (first | refine Cw.seq ?_ | refine thenK_normal ?_ | refine Ow.nil ?_) | ((with_reducible refine Cw.region (Ow.run rfl fun k hk => ?_)); simp (disch := (first | omega | (simp only [lenS, lenT, UInt64.reduceToNat] ; try omega))) only [↓vcL_none, ↓vcB_binOp, ↓ev_tmp, ↓getF_s, ↓getF_0, ↓ev_const, lit_i64, binX_vi_vi, bin_add_i, ↓ov_some, putF_some, setF_s, setF_0, nf_cons, ↓vcB_move, ↓vcL_nil, Md.next_seq]; (with_reducible refine hk _ _ _ _ ?_); clear hk k) | with_reducible (first | refine Cw.block ?_ | refine Cw.skip ?_ | refine Cw.exit ?_ | refine Cw.ret ?_ | refine thenK_exit ?_ | refine thenK_ret ?_ | refine blockK_normal ?_ | refine blockK_ret ?_ | refine blockK_exit ?_ | refine blockK_pass rfl ?_) | ((with_reducible refine Cw.condC ?_); first | refine CwC.pt rfl (by omega) ?_ | refine CwC.pf rfl (by omega) ?_ | refine CwC.it rfl (by omega) ?_ | refine CwC.if rfl (by omega) ?_ | refine CwC.nt rfl (by omega) ?_ | refine CwC.nf rfl (by omega) ?_ | refine CwC.tt rfl ?_ | refine CwC.ff rfl ?_ | refine CwC.bt rfl (by assumption) ?_ | (refine CwC.bf rfl ?_ ?_; focus assumption))
            refine Again.mk ⟨g + 1, setM z32 (r.name, r.id.l) m, o'⟩ (by simp only; omega) ⟨hlt, ?_, hm'⟩ rfl rfl
            rw [tabM_step hgm, hok, hpg, Bool.true_and, hd2, if_pos rfl]
          · have hd2 : decide ((setM z32 (r.name, r.id.l) m).length ≤ 16) = false := by simpa using h16
            refine Ow.runQ fun k hk => ?_
            simp (disch := (first | omega | (simp only [lenS, lenT, UInt64.reduceToNat] ; try omega))) only [↓vcL_some, lit_i64, hd2, putF_some, setF_s, setF_0, yieldF_lit, ↓nthO_s, ↓nthO_0, yieldL_some, ↓getF_s, ↓getF_0, boolOf_b, beq_self_eq_true, ↓ib_true, ↓vcB_unOp, ↓ev_tmp, un_not, Bool.not_false, ↓ov_some, nf_cons, ↓vcL_none, ↓vcB_pick, ↓ev_const, pick_f, ↓vcL_nil, Md.next_sof, List.contains_nil, Bool.false_eq_true, ↓reduceIte]
            (with_reducible refine hk _ _ _ _ ?_); clear hk k
            with_reducible refine Ow.nil ?_
            repeat' first | with_reducible (first | refine Cw.seq ?_ | refine thenK_normal ?_ | refine Ow.nil ?_) | ((with_reducible refine Cw.region (Ow.run rfl fun k hk => ?_)); simp (disch := (first | omega | (simp only [lenS, lenT, UInt64.reduceToNat] ; try omega))) only [↓vcL_none, ↓vcB_assign, ↓ov_some, ↓ev_const, putF_some, setF_s, setF_0, nf_cons, ↓vcL_nil, Md.next_seq]; (with_reducible refine hk _ _ _ _ ?_); clear hk k) | with_reducible (first | refine Cw.block ?_ | refine Cw.skip ?_ | refine Cw.exit ?_ | refine Cw.ret ?_ | refine thenK_exit ?_ | refine thenK_ret ?_ | refine blockK_normal ?_ | refine blockK_ret ?_ | refine blockK_exit ?_ | refine blockK_pass rfl ?_) | ((with_reducible refine Cw.condC ?_); first | refine CwC.pt rfl (by omega) ?_ | refine CwC.pf rfl (by omega) ?_ | refine CwC.it rfl (by omega) ?_ | refine CwC.if rfl (by omega) ?_ | refine CwC.nt rfl (by omega) ?_ | refine CwC.nf rfl (by omega) ?_ | refine CwC.tt rfl ?_ | refine CwC.ff rfl ?_ | refine CwC.bt rfl (by assumption) ?_ | (refine CwC.bf rfl ?_ ?_; focus assumption))
            refine ⟨_, (by simp (disch := (first | omega | (simp only [lenS, lenT, UInt64.reduceToNat] ; try omega))) only [resVs_cons, resV_tmp, ↓getF_s, ↓getF_0, resVs_nil, cons2_some]; rfl), ?_⟩
            exact OfS.tab (by rw [tabM_step hgm, hpg, hd2, Bool.and_false]; rfl) hlt ⟨hwx, hwm, hw5, trivial⟩
        · have hd : decide ((0 : Int) < (g : Int)) = true := by simp; omega
          have ld2 : loadV (some (false, 1)) (some (.cells a1 E1 f1)) (o1 + (g - 1) * 33) = some (vs (t.getD (g - 1) ref0).name) := h1.cell (j := 0) (n := 1) (show g - 1 < t.length by omega) (by omega)
          have hix : indexAddrV (.sl (true, 33)) vt (some ((g : Int) - 1)) = some (vp b1 (o1 + (g - 1) * 33)) := by
            have := h1.idx true (g - 1) (by omega)
            rw [show ((g - 1 : Nat) : Int) = (g : Int) - 1 by omega] at this
            exact this
          have hpp := prs_getD t (g - 1) (show g - 1 < t.length by omega)
          have hg0 : (g == 0) = false := by simpa using h0
          have hok : tabOk nameV z32 (prs t) g = ltB (t.getD (g - 1) ref0).name r.name := by unfold tabOk; rw [hpg, hpp]; simp only [hn, hz, hg0, Bool.false_or, Bool.not_false, Bool.true_and]
          cases hq : Op.bytesLess (t.getD (g - 1) ref0).name r.name
          · refine Ow.runQ fun k hk => ?_
            simp (disch := (first | omega | (simp only [lenS, lenT, UInt64.reduceToNat] ; try omega))) only [↓vcL_some, lit_i64, putF_some, setF_s, setF_0, yieldF_lit, ↓nthO_s, ↓nthO_0, yieldL_some, ↓getF_s, ↓getF_0, boolOf_b, beq_self_eq_true, ↓ib_true, ↓vcB_load, Md.next_sof, List.contains_nil, Bool.false_eq_true, ↓reduceIte, ↓rd_sof_load, ↓ev_tmp, rdIn_p, List.contains_cons, Bool.or_false, Bool.or_true, Tryd.ag40, loadAt_p, read_other, read_same, load_ref1, ↓ov_some, nf_cons, ↓vcB_binOp, eqIdz, hz, ↓vcL_none, ↓vcB_pick, ↓ev_const, pick_f, ↓vcB_move, binX_vi_vi, bin_gtr_i, hd, ↓vcB_fieldAddr, Tryd.fl25_0, fieldAddr_p, Nat.add_zero, bin_sub_i, Tryd.fl42_0, Bool.true_or, Tryd.ag23, load_bk0, ↓vcB_indexAddr, Tryd.ix23, ixI_vi, hix, Tryd.ag9, read_old, hb1, ld2, load_ref0, binX_vs, bin_geq_s, hq, Bool.not_false, pick_t, some_beq, beq_false, Bool.not_true, ↓ib_false, ↓vcL_nil]
            (with_reducible refine hk _ _ _ _ ?_); clear hk k
            with_reducible refine Ow.nil ?_
            repeat' first | with_reducible (first | refine Cw.seq ?_ | refine thenK_normal ?_ | refine Ow.nil ?_) | ((with_reducible refine Cw.region (Ow.run rfl fun k hk => ?_)); simp (disch := (first | omega | (simp only [lenS, lenT, UInt64.reduceToNat] ; try omega))) only [↓vcL_none, ↓vcB_assign, ↓ov_some, ↓ev_const, putF_some, setF_s, setF_0, nf_cons, ↓vcL_nil, Md.next_seq]; (with_reducible refine hk _ _ _ _ ?_); clear hk k) | with_reducible (first | refine Cw.block ?_ | refine Cw.skip ?_ | refine Cw.exit ?_ | refine Cw.ret ?_ | refine thenK_exit ?_ | refine thenK_ret ?_ | refine blockK_normal ?_ | refine blockK_ret ?_ | refine blockK_exit ?_ | refine blockK_pass rfl ?_) | ((with_reducible refine Cw.condC ?_); first | refine CwC.pt rfl (by omega) ?_ | refine CwC.pf rfl (by omega) ?_ | refine CwC.it rfl (by omega) ?_ | refine CwC.if rfl (by omega) ?_ | refine CwC.nt rfl (by omega) ?_ | refine CwC.nf rfl (by omega) ?_ | refine CwC.tt rfl ?_ | refine CwC.ff rfl ?_ | refine CwC.bt rfl (by assumption) ?_ | (refine CwC.bf rfl ?_ ?_; focus assumption))
            refine ⟨_, (by simp (disch := (first | omega | (simp only [lenS, lenT, UInt64.reduceToNat] ; try omega))) only [resVs_cons, resV_tmp, ↓getF_s, ↓getF_0, resVs_nil, cons2_some]; rfl), ?_⟩
            exact OfS.tab (by rw [tabM_step hgm, hok, show ltB (t.getD (g - 1) ref0).name r.name = false from hq]; rfl) hlt ⟨hwx, hwm, hw5, trivial⟩
          · refine Ow.runQ fun k hk => ?_
            simp (disch := (first | omega | (simp only [lenS, lenT, UInt64.reduceToNat] ; try omega))) only [↓vcL_some, lit_i64, putF_some, setF_s, setF_0, yieldF_lit, ↓nthO_s, ↓nthO_0, yieldL_some, ↓getF_s, ↓getF_0, boolOf_b, beq_self_eq_true, ↓ib_true, ↓vcB_load, Md.next_sof, List.contains_nil, Bool.false_eq_true, ↓reduceIte, ↓rd_sof_load, ↓ev_tmp, rdIn_p, List.contains_cons, Bool.or_false, Bool.or_true, Tryd.ag40, loadAt_p, read_other, read_same, load_ref1, ↓ov_some, nf_cons, ↓vcB_binOp, eqIdz, hz, ↓vcL_none, ↓vcB_pick, ↓ev_const, pick_f, ↓vcB_move, binX_vi_vi, bin_gtr_i, hd, ↓vcB_fieldAddr, Tryd.fl25_0, fieldAddr_p, Nat.add_zero, bin_sub_i, Tryd.fl42_0, Bool.true_or, Tryd.ag23, load_bk0, ↓vcB_indexAddr, Tryd.ix23, ixI_vi, hix, Tryd.ag9, read_old, hb1, ld2, load_ref0, binX_vs, bin_geq_s, hq, Bool.not_true, pick_t, Tryd.ag42, load_ref, ↓vcB_call]
            (with_reducible refine hk _ _ _ _ ?_); clear hk k
            refine Ow.soft rfl rfl rfl ?_
            refine Ow.callE rfl rfl Tryd.call111 (by simp [keys]) (fun w' hw' => set_spec bm o m r w' (hw'.has _ _ (List.mem_cons_of_mem _ List.mem_cons_self)) hgo) (fun v o' hS => ?_)
            with_reducible refine Ow.nil ?_
            refine ⟨fun b hb => read_setB_ne (by simp only [List.mem_cons, List.not_mem_nil, or_false] at hb; omega), ?_⟩
            simp (disch := (first | omega | (simp only [lenS, lenT, UInt64.reduceToNat] ; try omega))) only [setB_other, setB_same]
            obtain ⟨rfl, hm'⟩ := hS
            rw [setV_eq] at hm' ⊢
            by_cases h16 : (setM z32 (r.name, r.id.l) m).length ≤ 16
            · have hd2 : decide ((setM z32 (r.name, r.id.l) m).length ≤ 16) = true := by simpa using h16
              refine Ow.runQ fun k hk => ?_
              simp (disch := (first | omega | (simp only [lenS, lenT, UInt64.reduceToNat] ; try omega))) only [↓vcL_some, lit_i64, hd2, putF_some, setF_s, setF_0, yieldF_lit, ↓nthO_s, ↓nthO_0, yieldL_some, ↓getF_s, ↓getF_0, boolOf_b, beq_self_eq_true, ↓ib_true, ↓vcB_unOp, ↓ev_tmp, un_not, Bool.not_true, ↓ov_some, nf_cons, ↓vcL_none, ↓vcB_pick, ↓ev_const, pick_f, ↓vcL_nil, Md.next_sof, List.contains_nil, Bool.false_eq_true, ↓reduceIte]
              (with_reducible refine hk _ _ _ _ ?_); clear hk k
              with_reducible refine Ow.nil ?_
              with_reducible refine thenK_normal ?_
              refine Cw.forgetN [(bx, .cells #[vt, vl] 25 (0, 0)), (bm, o')] (by exact ⟨hwx, hwm, hw5, trivial⟩) (by intro p hp; simp only [List.mem_cons, List.not_mem_nil, or_false] at hp ⊢; all_goals (first | (rcases hp with rfl | hp <;> simp_all) | (subst hp; simp) | simp_all)) (by simp [keys] <;> omega) ?_
              repeat' first | with_reducible (first | refine Cw.seq ?_ | refine thenK_normal ?_ | refine Ow.nil ?_) | ((with_reducible refine Cw.region (Ow.run rfl fun k hk => ?_)); simp (disch := (first | omega | (simp only [lenS, lenT, UInt64.reduceToNat] ; try omega))) only [↓vcL_none, ↓vcB_binOp, ↓ev_tmp, ↓getF_s, ↓getF_0, ↓ev_const, lit_i64, binX_vi_vi, bin_add_i, ↓ov_some, putF_some, setF_s, setF_0, nf_cons, ↓vcB_move, ↓vcL_nil, Md.next_seq]; (with_reducible refine hk _ _ _ _ ?_); clear hk k) | with_reducible (first | refine Cw.block ?_ | refine Cw.skip ?_ | refine Cw.exit ?_ | refine Cw.ret ?_ | refine thenK_exit ?_ | refine thenK_ret ?_ | refine blockK_normal ?_ | refine blockK_ret ?_ | refine blockK_exit ?_ | refine blockK_pass rfl ?_) | ((with_reducible refine Cw.condC ?_); first | refine CwC.pt rfl (by omega) ?_ | refine CwC.pf rfl (by omega) ?_ | refine CwC.it rfl (by omega) ?_ | refine CwC.if rfl (by omega) ?_ | refine CwC.nt rfl (by omega) ?_ | refine CwC.nf rfl (by omega) ?_ | refine CwC.tt rfl ?_ | refine CwC.ff rfl ?_ | refine CwC.bt rfl (by assumption) ?_ | (refine CwC.bf rfl ?_ ?_; focus assumption))
              refine Again.mk ⟨g + 1, setM z32 (r.name, r.id.l) m, o'⟩ (by simp only; omega) ⟨hlt, ?_, hm'⟩ rfl rfl
              rw [tabM_step hgm, hok, hpg, hd2, Bool.and_true]
              exact if_pos hq
            · have hd2 : decide ((setM z32 (r.name, r.id.l) m).length ≤ 16) = false := by simpa using h16
              refine Ow.runQ fun k hk => ?_
              simp (disch := (first | omega | (simp only [lenS, lenT, UInt64.reduceToNat] ; try omega))) only [↓vcL_some, lit_i64, hd2, putF_some, setF_s, setF_0, yieldF_lit, ↓nthO_s, ↓nthO_0, yieldL_some, ↓getF_s, ↓getF_0, boolOf_b, beq_self_eq_true, ↓ib_true, ↓vcB_unOp, ↓ev_tmp, un_not, Bool.not_false, ↓ov_some, nf_cons, ↓vcL_none, ↓vcB_pick, ↓ev_const, pick_f, ↓vcL_nil, Md.next_sof, List.contains_nil, Bool.false_eq_true, ↓reduceIte]
              (with_reducible refine hk _ _ _ _ ?_); clear hk k
              with_reducible refine Ow.nil ?_
              repeat' first | with_reducible (first | refine Cw.seq ?_ | refine thenK_normal ?_ | refine Ow.nil ?_) | ((with_reducible refine Cw.region (Ow.run rfl fun k hk => ?_)); simp (disch := (first | omega | (simp only [lenS, lenT, UInt64.reduceToNat] ; try omega))) only [↓vcL_none, ↓vcB_assign, ↓ov_some, ↓ev_const, putF_some, setF_s, setF_0, nf_cons, ↓vcL_nil, Md.next_seq]; (with_reducible refine hk _ _ _ _ ?_); clear hk k) | with_reducible (first | refine Cw.block ?_ | refine Cw.skip ?_ | refine Cw.exit ?_ | refine Cw.ret ?_ | refine thenK_exit ?_ | refine thenK_ret ?_ | refine blockK_normal ?_ | refine blockK_ret ?_ | refine blockK_exit ?_ | refine blockK_pass rfl ?_) | ((with_reducible refine Cw.condC ?_); first | refine CwC.pt rfl (by omega) ?_ | refine CwC.pf rfl (by omega) ?_ | refine CwC.it rfl (by omega) ?_ | refine CwC.if rfl (by omega) ?_ | refine CwC.nt rfl (by omega) ?_ | refine CwC.nf rfl (by omega) ?_ | refine CwC.tt rfl ?_ | refine CwC.ff rfl ?_ | refine CwC.bt rfl (by assumption) ?_ | (refine CwC.bf rfl ?_ ?_; focus assumption))
              refine ⟨_, (by simp (disch := (first | omega | (simp only [lenS, lenT, UInt64.reduceToNat] ; try omega))) only [resVs_cons, resV_tmp, ↓getF_s, ↓getF_0, resVs_nil, cons2_some]; rfl), ?_⟩
              exact OfS.tab (by rw [tabM_step hgm, hpg, hd2, Bool.and_false]; rfl) hlt ⟨hwx, hwm, hw5, trivial⟩
      · have hok : tabOk nameV z32 (prs t) g = false := by unfold tabOk; rw [hpg]; simp only [hz, Bool.not_true, Bool.and_false, Bool.false_and]
        refine Ow.runQ fun k hk => ?_
        simp (disch := (first | omega | (simp only [lenS, lenT, UInt64.reduceToNat] ; try omega))) only [↓vcL_some, lit_i64, putF_some, setF_s, setF_0, yieldF_lit, ↓nthO_s, ↓nthO_0, yieldL_some, ↓getF_s, ↓getF_0, boolOf_b, beq_self_eq_true, ↓ib_true, ↓vcB_load, Md.next_sof, List.contains_nil, Bool.false_eq_true, ↓reduceIte, ↓rd_sof_load, ↓ev_tmp, rdIn_p, List.contains_cons, Bool.or_false, Bool.or_true, Tryd.ag40, loadAt_p, read_other, read_same, load_ref1, ↓ov_some, nf_cons, ↓vcB_binOp, eqIdz, hz, ↓vcL_none, ↓vcB_pick, ↓ev_const, pick_f, ↓vcB_move, some_beq, beq_false, Bool.not_true, ↓ib_false, boolOf_undef, none_beq, pick_t, ↓vcL_nil]
        (with_reducible refine hk _ _ _ _ ?_); clear hk k
        with_reducible refine Ow.nil ?_
        repeat' first | with_reducible (first | refine Cw.seq ?_ | refine thenK_normal ?_ | refine Ow.nil ?_) | ((with_reducible refine Cw.region (Ow.run rfl fun k hk => ?_)); simp (disch := (first | omega | (simp only [lenS, lenT, UInt64.reduceToNat] ; try omega))) only [↓vcL_none, ↓vcB_assign, ↓ov_some, ↓ev_const, putF_some, setF_s, setF_0, nf_cons, ↓vcL_nil, Md.next_seq]; (with_reducible refine hk _ _ _ _ ?_); clear hk k) | with_reducible (first | refine Cw.block ?_ | refine Cw.skip ?_ | refine Cw.exit ?_ | refine Cw.ret ?_ | refine thenK_exit ?_ | refine thenK_ret ?_ | refine blockK_normal ?_ | refine blockK_ret ?_ | refine blockK_exit ?_ | refine blockK_pass rfl ?_) | ((with_reducible refine Cw.condC ?_); first | refine CwC.pt rfl (by omega) ?_ | refine CwC.pf rfl (by omega) ?_ | refine CwC.it rfl (by omega) ?_ | refine CwC.if rfl (by omega) ?_ | refine CwC.nt rfl (by omega) ?_ | refine CwC.nf rfl (by omega) ?_ | refine CwC.tt rfl ?_ | refine CwC.ff rfl ?_ | refine CwC.bt rfl (by assumption) ?_ | (refine CwC.bf rfl ?_ ?_; focus assumption))
        refine ⟨_, (by simp (disch := (first | omega | (simp only [lenS, lenT, UInt64.reduceToNat] ; try omega))) only [resVs_cons, resV_tmp, ↓getF_s, ↓getF_0, resVs_nil, cons2_some]; rfl), ?_⟩
        exact OfS.tab (by rw [tabM_step hgm, hok]; rfl) hlt ⟨hwx, hwm, hw5, trivial⟩
  · obtain rfl : g = t.length := by omega
    obtain ⟨b2, o2, a2, E2, f2, h2⟩ := hl.row
    obtain ⟨vl', hsl, hlk, -⟩ := hl.take hk true
    obtain ⟨b3, o3, a3, E3, f3, h3⟩ := hlk.row
    have hkl : (l.take k).length = k := by simp; omega
    have hlen3 := hlk.len
    rw [hkl] at hlen3
    repeat' first | with_reducible (first | refine Cw.seq ?_ | refine thenK_normal ?_ | refine Ow.nil ?_) | ((with_reducible refine Cw.region (Ow.run rfl fun k hk => ?_)); simp (disch := (first | omega | (simp only [lenS, lenT, UInt64.reduceToNat] ; try omega))) only [↓vcL_none, ↓vcB_binOp, ↓ev_tmp, ↓getF_s, ↓getF_0, binX_vi_vi, bin_lss_i, ↓ov_some, putF_some, setF_s, setF_0, nf_cons, ↓vcL_nil, Md.next_seq, ↓vcB_fieldAddr, Tryd.fl25_1, fieldAddr_p, Nat.zero_add, ↓vcB_load, rd_seq_load, ↓ib_true, Tryd.ag23, loadAt_p, read_same, load_bk1, ↓vcB_move, ↓vcB_slice, Tryd.ix23, Option.map_none, Option.map_some, ixI_vi, hsl, ↓vcB_len, hlen3, ↓ev_const, lit_i64]; (with_reducible refine hk _ _ _ _ ?_); clear hk k) | with_reducible (first | refine Cw.block ?_ | refine Cw.skip ?_ | refine Cw.exit ?_ | refine Cw.ret ?_ | refine thenK_exit ?_ | refine thenK_ret ?_ | refine blockK_normal ?_ | refine blockK_ret ?_ | refine blockK_exit ?_ | refine blockK_pass rfl ?_) | ((with_reducible refine Cw.condC ?_); first | refine CwC.pt rfl (by omega) ?_ | refine CwC.pf rfl (by omega) ?_ | refine CwC.it rfl (by omega) ?_ | refine CwC.if rfl (by omega) ?_ | refine CwC.nt rfl (by omega) ?_ | refine CwC.nf rfl (by omega) ?_ | refine CwC.tt rfl ?_ | refine CwC.ff rfl ?_ | refine CwC.bt rfl (by assumption) ?_ | (refine CwC.bf rfl ?_ ?_; focus assumption))
    refine Cw.loopG (G := OG) [59, 60, 61, 10, 62, 63, 64, 65, 66, 67, 68, 69, 70, 71, 4, 5, 72, 58] (fun g => [(58, vi g.g)]) (fun g => [(bx, .cells #[vt, vl] 25 (0, 0)), (bm, g.o)]) (fun g => g.g ≤ k ∧ logM nameV z32 (prs l) m g.g = some g.m ∧ MapR g.o g.m) (fun g => k - g.g) ⟨0, m, o⟩ rfl rfl ?_ ?_
    · exact ⟨Nat.zero_le _, rfl, hgo⟩
    intro g j hg
    simp only [overFrom, pin, setF_0, setF_s, List.contains_cons, List.contains_nil, Nat.reduceBEq, Bool.or_false, Bool.false_or, Bool.or_true, Bool.true_or, Nat.reduceAdd, ↓reduceIte, Bool.false_eq_true]
    obtain ⟨g, mm, o⟩ := g
    simp only at hg ⊢
    obtain ⟨hgl2, hgm2, hgo2⟩ := hg
    by_cases hlt2 : g < k
    · have hb3 := h3.has (by omega)
      have hb3l := h3.lt (by omega)
      have ld3 := h3.load refC_len (by omega) (show g < (l.take k).length by omega)
      have hgt : (l.take k).getD g ref0 = l.getD g ref0 := by rw [List.getD_eq_getElem?_getD, List.getD_eq_getElem?_getD, List.getElem?_take_of_lt hlt2]
      rw [hgt] at ld3
      have hix3 := h3.idx true g (by omega)
      have hil := (l.getD g ref0).id.h
      have hnm := hnl g (by omega)
      have hpg := prs_getD l g (by omega)
      generalize hr : l.getD g ref0 = r at *
      repeat' first | with_reducible (first | refine Cw.seq ?_ | refine thenK_normal ?_ | refine Ow.nil ?_) | ((with_reducible refine Cw.region (Ow.run rfl fun k hk => ?_)); simp (disch := (first | omega | (simp only [lenS, lenT, UInt64.reduceToNat] ; try omega))) only [↓vcL_none, ↓vcB_binOp, ↓ev_tmp, ↓getF_s, ↓getF_0, binX_vi_vi, bin_lss_i, ↓ov_some, putF_some, setF_s, setF_0, nf_cons, ↓vcL_nil, Md.next_seq]; (with_reducible refine hk _ _ _ _ ?_); clear hk k) | with_reducible (first | refine Cw.block ?_ | refine Cw.skip ?_ | refine Cw.exit ?_ | refine Cw.ret ?_ | refine thenK_exit ?_ | refine thenK_ret ?_ | refine blockK_normal ?_ | refine blockK_ret ?_ | refine blockK_exit ?_ | refine blockK_pass rfl ?_) | ((with_reducible refine Cw.condC ?_); first | refine CwC.pt rfl (by omega) ?_ | refine CwC.pf rfl (by omega) ?_ | refine CwC.it rfl (by omega) ?_ | refine CwC.if rfl (by omega) ?_ | refine CwC.nt rfl (by omega) ?_ | refine CwC.nf rfl (by omega) ?_ | refine CwC.tt rfl ?_ | refine CwC.ff rfl ?_ | refine CwC.bt rfl (by assumption) ?_ | (refine CwC.bf rfl ?_ ?_; focus assumption))
      refine Cw.region (Ow.run rfl fun k hk => ?_)
      simp (disch := (first | omega | (simp only [lenS, lenT, UInt64.reduceToNat] ; try omega))) only [↓vcL_none, ↓vcB_indexAddr, Tryd.ix23, ↓ev_tmp, ↓getF_s, ↓getF_0, ixI_vi, hix3, ↓ov_some, putF_some, setF_s, setF_0, nf_cons, ↓vcB_load, Md.next_seq, rd_seq_load, ↓ib_true, Tryd.ag42, loadAt_p, read_other, read_old, hb3, ld3, ↓vcB_alloc]
      (with_reducible refine hk _ _ _ _ ?_); clear hk k
      refine Ow.alloc rfl rfl zrRef fun b5 hb5 hw5 => ?_
      simp only [cells_agg, List.nil_append, List.cons_append]
      obtain ⟨hx5, hm5, -⟩ := hb5
      refine Ow.run rfl fun k hk => ?_
      simp (disch := (first | omega | (simp only [lenS, lenT, UInt64.reduceToNat] ; try omega))) only [↓vcL_none, ↓vcB_store, Tryd.ag42, ↓ev_tmp, putF_some, setF_s, setF_0, ↓getF_s, ↓getF_0, storeAt_p, look_other, look_same, store_rr, upd_some, setB_other, setB_same, oh_some, ↓vcL_nil, Md.next_seq, nh_cons]
      (with_reducible refine hk _ _ _ _ ?_); clear hk k
      repeat' first | with_reducible (first | refine Cw.seq ?_ | refine thenK_normal ?_ | refine Ow.nil ?_) | ((with_reducible refine Cw.region (Ow.run rfl fun k hk => ?_)); simp (disch := (first | omega | (simp only [lenS, lenT, UInt64.reduceToNat] ; try omega))) only [↓vcL_none, ↓vcB_fieldAddr, Tryd.fl42_0, ↓ev_tmp, ↓getF_s, ↓getF_0, fieldAddr_p, Nat.add_zero, ↓ov_some, putF_some, setF_s, setF_0, nf_cons, ↓vcB_load, Md.next_seq, rd_seq_load, ↓ib_true, Tryd.ag9, loadAt_p, read_other, read_same, load_ref0, ↓vcB_call]; (with_reducible refine hk _ _ _ _ ?_); clear hk k) | with_reducible (first | refine Cw.block ?_ | refine Cw.skip ?_ | refine Cw.exit ?_ | refine Cw.ret ?_ | refine thenK_exit ?_ | refine thenK_ret ?_ | refine blockK_normal ?_ | refine blockK_ret ?_ | refine blockK_exit ?_ | refine blockK_pass rfl ?_) | ((with_reducible refine Cw.condC ?_); first | refine CwC.pt rfl (by omega) ?_ | refine CwC.pf rfl (by omega) ?_ | refine CwC.it rfl (by omega) ?_ | refine CwC.if rfl (by omega) ?_ | refine CwC.nt rfl (by omega) ?_ | refine CwC.nf rfl (by omega) ?_ | refine CwC.tt rfl ?_ | refine CwC.ff rfl ?_ | refine CwC.bt rfl (by assumption) ?_ | (refine CwC.bf rfl ?_ ?_; focus assumption))
      refine Ow.callFV rfl Tryd.call59 (fun w' hw' => isNameV_spec r.name w' hnm) ?_
      cases hn : nameV r.name
      · refine Ow.run rfl fun k hk => ?_
        simp (disch := (first | omega | (simp only [lenS, lenT, UInt64.reduceToNat] ; try omega))) only [↓vcL_none, ↓vcB_unOp, ↓ev_tmp, putF_some, setF_s, setF_0, ↓getF_s, ↓getF_0, un_not, Bool.not_false, ↓ov_some, nf_cons, ↓vcB_move, ↓vcL_some, yieldF_lit, ↓nthO_s, ↓nthO_0, yieldL_some, boolOf_b, some_beq, beq_false, Bool.not_true, ↓ib_false, ↓vcB_pick, ↓ev_const, pick_t, ↓vcL_nil, Md.next_seq]
        (with_reducible refine hk _ _ _ _ ?_); clear hk k
        with_reducible refine Ow.nil ?_
        repeat' first | with_reducible (first | refine Cw.seq ?_ | refine thenK_normal ?_ | refine Ow.nil ?_) | ((with_reducible refine Cw.region (Ow.run rfl fun k hk => ?_)); simp (disch := (first | omega | (simp only [lenS, lenT, UInt64.reduceToNat] ; try omega))) only [↓vcL_none, ↓vcB_assign, ↓ov_some, ↓ev_const, putF_some, setF_s, setF_0, nf_cons, ↓vcL_nil, Md.next_seq]; (with_reducible refine hk _ _ _ _ ?_); clear hk k) | with_reducible (first | refine Cw.block ?_ | refine Cw.skip ?_ | refine Cw.exit ?_ | refine Cw.ret ?_ | refine thenK_exit ?_ | refine thenK_ret ?_ | refine blockK_normal ?_ | refine blockK_ret ?_ | refine blockK_exit ?_ | refine blockK_pass rfl ?_) | ((with_reducible refine Cw.condC ?_); first | refine CwC.pt rfl (by omega) ?_ | refine CwC.pf rfl (by omega) ?_ | refine CwC.it rfl (by omega) ?_ | refine CwC.if rfl (by omega) ?_ | refine CwC.nt rfl (by omega) ?_ | refine CwC.nf rfl (by omega) ?_ | refine CwC.tt rfl ?_ | refine CwC.ff rfl ?_ | refine CwC.bt rfl (by assumption) ?_ | (refine CwC.bf rfl ?_ ?_; focus assumption))
        refine ⟨_, (by simp (disch := (first | omega | (simp only [lenS, lenT, UInt64.reduceToNat] ; try omega))) only [resVs_cons, resV_tmp, ↓getF_s, ↓getF_0, resVs_nil, cons2_some]; rfl), ?_⟩
        exact OfS.log hgm (by rw [logM_step hgm2, hpg]; simp only [hn, Bool.false_and, Bool.false_eq_true, ↓reduceIte]) hlt2 ⟨hwx, hwm, hw5, trivial⟩
      · refine Ow.run rfl fun k hk => ?_
        simp (disch := (first | omega | (simp only [lenS, lenT, UInt64.reduceToNat] ; try omega))) only [↓vcL_none, ↓vcB_unOp, ↓ev_tmp, putF_some, setF_s, setF_0, ↓getF_s, ↓getF_0, un_not, Bool.not_true, ↓ov_some, nf_cons, ↓vcB_move, ↓vcL_some, yieldF_lit, ↓nthO_s, ↓nthO_0, yieldL_some, boolOf_b, beq_self_eq_true, ↓ib_true, ↓vcB_load, Md.next_seq, rd_seq_load, Tryd.ag42, loadAt_p, read_other, read_same, load_ref, ↓vcB_call]
        (with_reducible refine hk _ _ _ _ ?_); clear hk k
        refine Ow.callE rfl rfl Tryd.call111 (by simp [keys]) (fun w' hw' => set_spec bm o mm r w' (hw'.has _ _ (List.mem_cons_of_mem _ List.mem_cons_self)) hgo2) (fun v o' hS => ?_)
        simp (disch := (first | omega | (simp only [lenS, lenT, UInt64.reduceToNat] ; try omega))) only [setB_other, setB_same]
        obtain ⟨rfl, hm'⟩ := hS
        rw [setV_eq] at hm' ⊢
        by_cases h16 : (setM z32 (r.name, r.id.l) mm).length ≤ 16
        · have hd2 : decide ((setM z32 (r.name, r.id.l) mm).length ≤ 16) = true := by simpa using h16
          refine Ow.run rfl fun k hk => ?_
          simp (disch := (first | omega | (simp only [lenS, lenT, UInt64.reduceToNat] ; try omega))) only [↓vcL_some, hd2, putF_some, setF_s, setF_0, yieldF_lit, ↓nthO_s, ↓nthO_0, yieldL_some, ↓getF_s, ↓getF_0, boolOf_b, beq_self_eq_true, ↓ib_true, ↓vcB_unOp, ↓ev_tmp, un_not, Bool.not_true, ↓ov_some, nf_cons, ↓vcL_none, ↓vcB_pick, ↓ev_const, pick_f, ↓vcL_nil, Md.next_seq]
          (with_reducible refine hk _ _ _ _ ?_); clear hk k
          with_reducible refine Ow.nil ?_
          with_reducible refine thenK_normal ?_
          refine Cw.forgetN [(bx, .cells #[vt, vl] 25 (0, 0)), (bm, o')] (by exact ⟨hwx, hwm, hw5, trivial⟩) (by intro p hp; simp only [List.mem_cons, List.not_mem_nil, or_false] at hp ⊢; all_goals (first | (rcases hp with rfl | hp <;> simp_all) | (subst hp; simp) | simp_all)) (by simp [keys] <;> omega) ?_
          repeat' first | with_reducible (first | refine Cw.seq ?_ | refine thenK_normal ?_ | refine Ow.nil ?_) | ((with_reducible refine Cw.region (Ow.run rfl fun k hk => ?_)); simp (disch := (first | omega | (simp only [lenS, lenT, UInt64.reduceToNat] ; try omega))) only [↓vcL_none, ↓vcB_binOp, ↓ev_tmp, ↓getF_s, ↓getF_0, ↓ev_const, lit_i64, binX_vi_vi, bin_add_i, ↓ov_some, putF_some, setF_s, setF_0, nf_cons, ↓vcB_move, ↓vcL_nil, Md.next_seq]; (with_reducible refine hk _ _ _ _ ?_); clear hk k) | with_reducible (first | refine Cw.block ?_ | refine Cw.skip ?_ | refine Cw.exit ?_ | refine Cw.ret ?_ | refine thenK_exit ?_ | refine thenK_ret ?_ | refine blockK_normal ?_ | refine blockK_ret ?_ | refine blockK_exit ?_ | refine blockK_pass rfl ?_) | ((with_reducible refine Cw.condC ?_); first | refine CwC.pt rfl (by omega) ?_ | refine CwC.pf rfl (by omega) ?_ | refine CwC.it rfl (by omega) ?_ | refine CwC.if rfl (by omega) ?_ | refine CwC.nt rfl (by omega) ?_ | refine CwC.nf rfl (by omega) ?_ | refine CwC.tt rfl ?_ | refine CwC.ff rfl ?_ | refine CwC.bt rfl (by assumption) ?_ | (refine CwC.bf rfl ?_ ?_; focus assumption))
          refine Again.mk ⟨g + 1, setM z32 (r.name, r.id.l) mm, o'⟩ (by simp only; omega) ⟨hlt2, ?_, hm'⟩ rfl rfl
          rw [logM_step hgm2, hpg]
          simp only [hn, hd2, Bool.and_true, ↓reduceIte]
        · have hd2 : decide ((setM z32 (r.name, r.id.l) mm).length ≤ 16) = false := by simpa using h16
          refine Ow.run rfl fun k hk => ?_
          simp (disch := (first | omega | (simp only [lenS, lenT, UInt64.reduceToNat] ; try omega))) only [↓vcL_some, hd2, putF_some, setF_s, setF_0, yieldF_lit, ↓nthO_s, ↓nthO_0, yieldL_some, ↓getF_s, ↓getF_0, boolOf_b, beq_self_eq_true, ↓ib_true, ↓vcB_unOp, ↓ev_tmp, un_not, Bool.not_false, ↓ov_some, nf_cons, ↓vcL_none, ↓vcB_pick, ↓ev_const, pick_f, ↓vcL_nil, Md.next_seq]
          (with_reducible refine hk _ _ _ _ ?_); clear hk k
          with_reducible refine Ow.nil ?_
          repeat' first | with_reducible (first | refine Cw.seq ?_ | refine thenK_normal ?_ | refine Ow.nil ?_) | ((with_reducible refine Cw.region (Ow.run rfl fun k hk => ?_)); simp (disch := (first | omega | (simp only [lenS, lenT, UInt64.reduceToNat] ; try omega))) only [↓vcL_none, ↓vcB_assign, ↓ov_some, ↓ev_const, putF_some, setF_s, setF_0, nf_cons, ↓vcL_nil, Md.next_seq]; (with_reducible refine hk _ _ _ _ ?_); clear hk k) | with_reducible (first | refine Cw.block ?_ | refine Cw.skip ?_ | refine Cw.exit ?_ | refine Cw.ret ?_ | refine thenK_exit ?_ | refine thenK_ret ?_ | refine blockK_normal ?_ | refine blockK_ret ?_ | refine blockK_exit ?_ | refine blockK_pass rfl ?_) | ((with_reducible refine Cw.condC ?_); first | refine CwC.pt rfl (by omega) ?_ | refine CwC.pf rfl (by omega) ?_ | refine CwC.it rfl (by omega) ?_ | refine CwC.if rfl (by omega) ?_ | refine CwC.nt rfl (by omega) ?_ | refine CwC.nf rfl (by omega) ?_ | refine CwC.tt rfl ?_ | refine CwC.ff rfl ?_ | refine CwC.bt rfl (by assumption) ?_ | (refine CwC.bf rfl ?_ ?_; focus assumption))
          refine ⟨_, (by simp (disch := (first | omega | (simp only [lenS, lenT, UInt64.reduceToNat] ; try omega))) only [resVs_cons, resV_tmp, ↓getF_s, ↓getF_0, resVs_nil, cons2_some]; rfl), ?_⟩
          exact OfS.log hgm (by rw [logM_step hgm2, hpg]; simp only [hd2, Bool.and_false, Bool.false_eq_true, ↓reduceIte]) hlt2 ⟨hwx, hwm, hw5, trivial⟩
    · obtain rfl : g = k := by omega
      repeat' first | with_reducible (first | refine Cw.seq ?_ | refine thenK_normal ?_ | refine Ow.nil ?_) | ((with_reducible refine Cw.region (Ow.run rfl fun k hk => ?_)); simp (disch := (first | omega | (simp only [lenS, lenT, UInt64.reduceToNat] ; try omega))) only [↓vcL_none, ↓vcB_binOp, ↓ev_tmp, ↓getF_s, ↓getF_0, binX_vi_vi, bin_lss_i, ↓ov_some, putF_some, setF_s, setF_0, nf_cons, ↓vcL_nil, Md.next_seq]; (with_reducible refine hk _ _ _ _ ?_); clear hk k) | with_reducible (first | refine Cw.block ?_ | refine Cw.skip ?_ | refine Cw.exit ?_ | refine Cw.ret ?_ | refine thenK_exit ?_ | refine thenK_ret ?_ | refine blockK_normal ?_ | refine blockK_ret ?_ | refine blockK_exit ?_ | refine blockK_pass rfl ?_) | ((with_reducible refine Cw.condC ?_); first | refine CwC.pt rfl (by omega) ?_ | refine CwC.pf rfl (by omega) ?_ | refine CwC.it rfl (by omega) ?_ | refine CwC.if rfl (by omega) ?_ | refine CwC.nt rfl (by omega) ?_ | refine CwC.nf rfl (by omega) ?_ | refine CwC.tt rfl ?_ | refine CwC.ff rfl ?_ | refine CwC.bt rfl (by assumption) ?_ | (refine CwC.bf rfl ?_ ?_; focus assumption))
      refine Cw.regionS [bx] [0, 1, 5, 2, 3, 4, 6] [] (by kernel_rfl) (by kernel_rfl) (by kernel_rfl) ?_
      simp only [nl_cons, ↓pickL_nil, ↓pickL_cons, ↓nthO_0, ↓nthO_s, consO_some]
      refine Ow.runQ fun k hk => ?_
      simp (disch := (first | omega | (simp only [lenS, lenT, UInt64.reduceToNat] ; try omega))) only [↓vcL_none, ↓vcB_move, ↓ov_some, ↓ev_tmp, ↓getF_s, ↓getF_0, putF_some, setF_s, setF_0, nf_cons, ↓vcB_fieldAddr, Tryd.fl25_1, fieldAddr_p, Nat.zero_add, ↓vcB_assign, ↓vcB_load, Md.next_sof, List.contains_nil, Bool.false_eq_true, ↓reduceIte, ↓rd_sof_load, rdIn_p, List.contains_cons, beq_self_eq_true, Bool.or_false, ↓ib_true, Tryd.ag23, loadAt_p, read_same, load_bk1, ↓vcB_len, Tryd.ix23, hl.len, ↓vcB_binOp, ↓ev_const, lit_i64, binX_vi_vi, bin_leq_i, ↓vcL_nil]
      (with_reducible refine hk _ _ _ _ ?_); clear hk k
      with_reducible refine Ow.nil ?_
      with_reducible refine thenK_normal ?_
      refine Cw.forgetN [(bm, o)] (by exact ⟨hwx, hwm, trivial⟩) (by intro p hp; simp only [List.mem_cons, List.not_mem_nil, or_false] at hp ⊢; all_goals (first | (rcases hp with rfl | hp <;> simp_all) | (subst hp; simp) | simp_all)) (by simp [keys] <;> omega) ?_
      repeat' first | with_reducible (first | refine Cw.seq ?_ | refine thenK_normal ?_ | refine Ow.nil ?_) | ((with_reducible refine Cw.region (Ow.run rfl fun k hk => ?_)); simp (disch := (first | omega | (simp only [lenS, lenT, UInt64.reduceToNat] ; try omega))) only []; (with_reducible refine hk _ _ _ _ ?_); clear hk k) | with_reducible (first | refine Cw.block ?_ | refine Cw.skip ?_ | refine Cw.exit ?_ | refine Cw.ret ?_ | refine thenK_exit ?_ | refine thenK_ret ?_ | refine blockK_normal ?_ | refine blockK_ret ?_ | refine blockK_exit ?_ | refine blockK_pass rfl ?_) | ((with_reducible refine Cw.condC ?_); first | refine CwC.pt rfl (by omega) ?_ | refine CwC.pf rfl (by omega) ?_ | refine CwC.it rfl (by omega) ?_ | refine CwC.if rfl (by omega) ?_ | refine CwC.nt rfl (by omega) ?_ | refine CwC.nf rfl (by omega) ?_ | refine CwC.tt rfl ?_ | refine CwC.ff rfl ?_ | refine CwC.bt rfl (by assumption) ?_ | (refine CwC.bf rfl ?_ ?_; focus assumption))
      refine ⟨_, (by simp (disch := (first | omega | (simp only [lenS, lenT, UInt64.reduceToNat] ; try omega))) only [resVs_cons, resV_tmp, ↓getF_s, ↓getF_0, resVs_nil, cons2_some]; rfl), ?_⟩
      unfold OfS ofM
      rw [prs_len, hgm, Option.bind_some, hgm2]
      exact ⟨bm, o, congrArg (fun b => Value.tuple #[vm bm, .bool b]) (decide_eq_decide.2 (by omega)), rfl, hgo2, hwm⟩
end Go.Proofs
open Go Go.Proofs Go.Sx Go.RefP
namespace Go.Proofs
set_option maxRecDepth 10000
set_option maxHeartbeats 4000000
set_option linter.unusedSimpArgs false
theorem load_bk (a b : Value) (E : TypeId) : loadV (some (true, 2)) (some (.cells #[a, b] E (0, 0))) 0 = some (.agg #[a, b]) := load_all _ E (0, 0) 2 rfl
/-- Names that are not too long. -/
def ShortN (l : List RefL) : Prop := ∀ g, g < l.length → (l.getD g ref0).name.length < 1099511627776
theorem Right_spec (vt vl : Value) (t l : List RefL) (w : World) (ht : RefSl w vt t) (hl : RefSl w vl l) (htl : t.length < 1000000) (hll : l.length < 1000000) (hnt : ShortN t) (hnl : ShortN l) :
    Rets Tryd.prog 36 #[.agg #[vt, vl]] w (fun v D => v = .bool (rightB t l) ∧ D = []) := by
  refine Rets.enterV Tryd.func36 rfl (rs := [.tmp 2]) Tryd.results36 Tryd.ntmps36 ?_
  simp only [List.size_toArray, List.length_cons, List.length_nil, Nat.reduceAdd, Nat.reduceSub, List.replicate_succ, List.replicate_zero, List.cons_append, List.nil_append]
  repeat' first | with_reducible (first | refine Cw.seq ?_ | refine thenK_normal ?_ | refine Ow.nil ?_) | ((with_reducible refine Cw.region (Ow.run rfl fun k hk => ?_)); simp (disch := (first | omega | (simp only [lenS, lenT, UInt64.reduceToNat] ; try omega))) only [↓vcL_none, ↓vcB_box]; (with_reducible refine hk _ _ _ _ ?_); clear hk k) | with_reducible (first | refine Cw.block ?_ | refine Cw.skip ?_ | refine Cw.exit ?_ | refine Cw.ret ?_ | refine thenK_exit ?_ | refine thenK_ret ?_ | refine blockK_normal ?_ | refine blockK_ret ?_ | refine blockK_exit ?_ | refine blockK_pass rfl ?_) | ((with_reducible refine Cw.condC ?_); first | refine CwC.pt rfl (by omega) ?_ | refine CwC.pf rfl (by omega) ?_ | refine CwC.it rfl (by omega) ?_ | refine CwC.if rfl (by omega) ?_ | refine CwC.nt rfl (by omega) ?_ | refine CwC.nf rfl (by omega) ?_ | refine CwC.tt rfl ?_ | refine CwC.ff rfl ?_ | refine CwC.bt rfl (by assumption) ?_ | (refine CwC.bf rfl ?_ ?_; focus assumption))
  refine Ow.box rfl rfl fun bx hbx hwx => ?_
  simp only [ev_tmp, getF_0, getF_s, cells_agg, List.nil_append, List.cons_append]
  refine Ow.run rfl fun k hk => ?_
  simp (disch := (first | omega | (simp only [lenS, lenT, UInt64.reduceToNat] ; try omega))) only [↓vcL_none, ↓vcB_assign, ↓ov_some, putF_some, setF_s, setF_0, ↓ev_const, nf_cons, ↓vcL_nil, Md.next_seq]
  (with_reducible refine hk _ _ _ _ ?_); clear hk k
  repeat' first | with_reducible (first | refine Cw.seq ?_ | refine thenK_normal ?_ | refine Ow.nil ?_) | ((with_reducible refine Cw.region (Ow.run rfl fun k hk => ?_)); simp (disch := (first | omega | (simp only [lenS, lenT, UInt64.reduceToNat] ; try omega))) only [↓vcL_none, ↓vcB_load, rd_seq_load, ↓ib_true, Tryd.ag25, ↓ev_tmp, ↓getF_s, ↓getF_0, loadAt_p, read_same, load_bk, ↓ov_some, putF_some, setF_s, setF_0, nf_cons, ↓vcB_fieldAddr, Tryd.fl25_1, fieldAddr_p, Nat.zero_add, Md.next_seq, Tryd.ag23, load_bk1, ↓vcB_len, Tryd.ix23, hl.len, ↓vcB_call]; (with_reducible refine hk _ _ _ _ ?_); clear hk k) | with_reducible (first | refine Cw.block ?_ | refine Cw.skip ?_ | refine Cw.exit ?_ | refine Cw.ret ?_ | refine thenK_exit ?_ | refine thenK_ret ?_ | refine blockK_normal ?_ | refine blockK_ret ?_ | refine blockK_exit ?_ | refine blockK_pass rfl ?_) | ((with_reducible refine Cw.condC ?_); first | refine CwC.pt rfl (by omega) ?_ | refine CwC.pf rfl (by omega) ?_ | refine CwC.it rfl (by omega) ?_ | refine CwC.if rfl (by omega) ?_ | refine CwC.nt rfl (by omega) ?_ | refine CwC.nf rfl (by omega) ?_ | refine CwC.tt rfl ?_ | refine CwC.ff rfl ?_ | refine CwC.bt rfl (by assumption) ?_ | (refine CwC.bf rfl ?_ ?_; focus assumption))
  refine Ow.callN rfl rfl Tryd.call72 (S := (fun B v D => OfS B t l l.length v D)) (fun w' hw' => of_spec vt vl t l l.length w' (ht.oldN hw' ⟨hwx, trivial⟩) (hl.oldN hw' ⟨hwx, trivial⟩) htl hll (Nat.le_refl _) hnt hnl) (fun B v D h => h.new) (fun B v D hA hB hS => ?_)
  have hnew := hS.new
  unfold OfS at hS
  simp only [rightB, rightM, prs_len]
  cases ho : ofM nameV z32 (prs t) (prs l) l.length with
  | none =>
    rw [ho] at hS
    obtain ⟨rfl, hD⟩ := hS
    refine Ow.run rfl fun k hk => ?_
    simp (disch := (first | omega | (simp only [lenS, lenT, UInt64.reduceToNat] ; try omega))) only [↓vcL_none, ↓vcB_move, ↓ov_some, putF_some, setF_s, setF_0, ↓ev_tmp, ↓getF_s, ↓getF_0, nf_cons, ↓vcB_extract, extract_t, tup2_0, tup2_1, ↓vcB_assign, ↓vcL_nil, Md.next_seq, List.cons_append, List.nil_append]
    (with_reducible refine hk _ _ _ _ ?_); clear hk k
    repeat' first | with_reducible (first | refine Cw.seq ?_ | refine thenK_normal ?_ | refine Ow.nil ?_) | ((with_reducible refine Cw.region (Ow.run rfl fun k hk => ?_)); simp (disch := (first | omega | (simp only [lenS, lenT, UInt64.reduceToNat] ; try omega))) only [↓vcL_none, ↓vcB_move, ↓ov_some, ↓ev_tmp, ↓getF_s, ↓getF_0, putF_some, setF_s, setF_0, nf_cons, ↓vcB_assign, ↓vcL_nil, Md.next_seq]; (with_reducible refine hk _ _ _ _ ?_); clear hk k) | with_reducible (first | refine Cw.block ?_ | refine Cw.skip ?_ | refine Cw.exit ?_ | refine Cw.ret ?_ | refine thenK_exit ?_ | refine thenK_ret ?_ | refine blockK_normal ?_ | refine blockK_ret ?_ | refine blockK_exit ?_ | refine blockK_pass rfl ?_) | ((with_reducible refine Cw.condC ?_); first | refine CwC.pt rfl (by omega) ?_ | refine CwC.pf rfl (by omega) ?_ | refine CwC.it rfl (by omega) ?_ | refine CwC.if rfl (by omega) ?_ | refine CwC.nt rfl (by omega) ?_ | refine CwC.nf rfl (by omega) ?_ | refine CwC.tt rfl ?_ | refine CwC.ff rfl ?_ | refine CwC.bt rfl (by assumption) ?_ | (refine CwC.bf rfl ?_ ?_; focus assumption))
    refine ⟨_, (by simp (disch := (first | omega | (simp only [lenS, lenT, UInt64.reduceToNat] ; try omega))) only [resVs_cons, resV_tmp, ↓getF_s, ↓getF_0, resVs_nil, cons2_some]; rfl), ⟨hwx, hnew.mono hB⟩, ?_⟩
    rfl
  | some m =>
    rw [ho] at hS
    obtain ⟨b, o, rfl, rfl, hm, hb⟩ := hS
    refine Ow.run rfl fun k hk => ?_
    simp (disch := (first | omega | (simp only [lenS, lenT, UInt64.reduceToNat] ; try omega))) only [↓vcL_none, ↓vcB_move, ↓ov_some, putF_some, setF_s, setF_0, ↓ev_tmp, ↓getF_s, ↓getF_0, nf_cons, ↓vcB_extract, extract_t, tup2_0, tup2_1, ↓vcB_assign, ↓vcL_nil, Md.next_seq, List.cons_append, List.nil_append]
    (with_reducible refine hk _ _ _ _ ?_); clear hk k
    repeat' first | with_reducible (first | refine Cw.seq ?_ | refine thenK_normal ?_ | refine Ow.nil ?_) | ((with_reducible refine Cw.region (Ow.run rfl fun k hk => ?_)); simp (disch := (first | omega | (simp only [lenS, lenT, UInt64.reduceToNat] ; try omega))) only [↓vcL_none, ↓vcB_move, ↓ov_some, ↓ev_tmp, ↓getF_s, ↓getF_0, putF_some, setF_s, setF_0, nf_cons, ↓vcB_assign, ↓vcL_nil, Md.next_seq]; (with_reducible refine hk _ _ _ _ ?_); clear hk k) | with_reducible (first | refine Cw.block ?_ | refine Cw.skip ?_ | refine Cw.exit ?_ | refine Cw.ret ?_ | refine thenK_exit ?_ | refine thenK_ret ?_ | refine blockK_normal ?_ | refine blockK_ret ?_ | refine blockK_exit ?_ | refine blockK_pass rfl ?_) | ((with_reducible refine Cw.condC ?_); first | refine CwC.pt rfl (by omega) ?_ | refine CwC.pf rfl (by omega) ?_ | refine CwC.it rfl (by omega) ?_ | refine CwC.if rfl (by omega) ?_ | refine CwC.nt rfl (by omega) ?_ | refine CwC.nf rfl (by omega) ?_ | refine CwC.tt rfl ?_ | refine CwC.ff rfl ?_ | refine CwC.bt rfl (by assumption) ?_ | (refine CwC.bf rfl ?_ ?_; focus assumption))
    refine ⟨_, (by simp (disch := (first | omega | (simp only [lenS, lenT, UInt64.reduceToNat] ; try omega))) only [resVs_cons, resV_tmp, ↓getF_s, ↓getF_0, resVs_nil, cons2_some]; rfl), ⟨hwx, Nat.le_trans hB hb, trivial⟩, ?_⟩
    simp [tupV]
theorem getV_len {m : Vals} {n z : List UInt8} (h : AllLen m) (hz : z.length = 32) : (getV n z m).length = 32 := by
  unfold getV
  cases hf : m.find? fun p => n == p.1 with
  | none => exact hz
  | some p => exact h p (List.mem_of_find?_eq_some hf)
theorem prs_ids (l : List RefL) : ∀ g, g < (prs l).length → ((prs l).getD g zp).2.length = 32 := by
  intro g hg
  rw [prs_len] at hg
  rw [prs_getD l g hg]
  exact (l.getD g ref0).id.h
/-- A name's value. -/
def valueB (t l : List RefL) (n : List UInt8) : List UInt8 :=
  match ofM nameV z32 (prs t) (prs l) l.length with
  | some m => if l.length ≤ 100 then getV n z32 m else z32
  | none => z32
theorem Value_spec (vt vl : Value) (t l : List RefL) (n : List UInt8) (w : World) (ht : RefSl w vt t) (hl : RefSl w vl l) (htl : t.length < 1000000) (hll : l.length < 1000000) (hnt : ShortN t) (hnl : ShortN l) :
    Rets Tryd.prog 37 #[.agg #[vt, vl], vs n] w (fun v D => v = .agg (a8 (valueB t l n)) ∧ D = []) := by
  refine Rets.enterV Tryd.func37 rfl (rs := [.cell 4 40]) Tryd.results37 Tryd.ntmps37 ?_
  simp only [List.size_toArray, List.length_cons, List.length_nil, Nat.reduceAdd, Nat.reduceSub, List.replicate_succ, List.replicate_zero, List.cons_append, List.nil_append]
  repeat' first | with_reducible (first | refine Cw.seq ?_ | refine thenK_normal ?_ | refine Ow.nil ?_) | ((with_reducible refine Cw.region (Ow.run rfl fun k hk => ?_)); simp (disch := (first | omega | (simp only [lenS, lenT, UInt64.reduceToNat] ; try omega))) only [↓vcL_none, ↓vcB_box]; (with_reducible refine hk _ _ _ _ ?_); clear hk k) | with_reducible (first | refine Cw.block ?_ | refine Cw.skip ?_ | refine Cw.exit ?_ | refine Cw.ret ?_ | refine thenK_exit ?_ | refine thenK_ret ?_ | refine blockK_normal ?_ | refine blockK_ret ?_ | refine blockK_exit ?_ | refine blockK_pass rfl ?_) | ((with_reducible refine Cw.condC ?_); first | refine CwC.pt rfl (by omega) ?_ | refine CwC.pf rfl (by omega) ?_ | refine CwC.it rfl (by omega) ?_ | refine CwC.if rfl (by omega) ?_ | refine CwC.nt rfl (by omega) ?_ | refine CwC.nf rfl (by omega) ?_ | refine CwC.tt rfl ?_ | refine CwC.ff rfl ?_ | refine CwC.bt rfl (by assumption) ?_ | (refine CwC.bf rfl ?_ ?_; focus assumption))
  refine Ow.box rfl rfl fun bx hbx hwx => ?_
  simp only [ev_tmp, getF_0, getF_s, cells_agg, List.nil_append, List.cons_append]
  refine Ow.run rfl fun k hk => ?_
  simp (disch := (first | omega | (simp only [lenS, lenT, UInt64.reduceToNat] ; try omega))) only [↓vcL_none, ↓vcB_alloc, putF_some, setF_s, setF_0]
  (with_reducible refine hk _ _ _ _ ?_); clear hk k
  have zrId : zeroV Tryd.prog 40 = some (.agg (a8 (List.replicate 32 0))) := Tryd.zr40
  rw [show (List.replicate 32 (0 : UInt8)) = z32 from rfl] at zrId
  have hzl : z32.length = 32 := by simp [z32]
  refine Ow.alloc rfl rfl zrId fun b1 hb1 hw1 => ?_
  simp only [cells_agg, List.nil_append, List.cons_append]
  obtain ⟨hx1, -⟩ := hb1
  refine Ow.run rfl fun k hk => ?_
  simp (disch := (first | omega | (simp only [lenS, lenT, UInt64.reduceToNat] ; try omega))) only [↓vcL_nil, putF_some, setF_s, setF_0]
  (with_reducible refine hk _ _ _ _ ?_); clear hk k
  repeat' first | with_reducible (first | refine Cw.seq ?_ | refine thenK_normal ?_ | refine Ow.nil ?_) | ((with_reducible refine Cw.region (Ow.run rfl fun k hk => ?_)); simp (disch := (first | omega | (simp only [lenS, lenT, UInt64.reduceToNat] ; try omega))) only [↓vcL_none, ↓vcB_load, rd_seq_load, ↓ib_true, Tryd.ag25, ↓ev_tmp, ↓getF_s, ↓getF_0, loadAt_p, read_same, load_bk, ↓ov_some, putF_some, setF_s, setF_0, nf_cons, ↓vcB_fieldAddr, Tryd.fl25_1, fieldAddr_p, Nat.zero_add, Md.next_seq, Tryd.ag23, load_bk1, ↓vcB_len, Tryd.ix23, hl.len, ↓vcB_call]; (with_reducible refine hk _ _ _ _ ?_); clear hk k) | with_reducible (first | refine Cw.block ?_ | refine Cw.skip ?_ | refine Cw.exit ?_ | refine Cw.ret ?_ | refine thenK_exit ?_ | refine thenK_ret ?_ | refine blockK_normal ?_ | refine blockK_ret ?_ | refine blockK_exit ?_ | refine blockK_pass rfl ?_) | ((with_reducible refine Cw.condC ?_); first | refine CwC.pt rfl (by omega) ?_ | refine CwC.pf rfl (by omega) ?_ | refine CwC.it rfl (by omega) ?_ | refine CwC.if rfl (by omega) ?_ | refine CwC.nt rfl (by omega) ?_ | refine CwC.nf rfl (by omega) ?_ | refine CwC.tt rfl ?_ | refine CwC.ff rfl ?_ | refine CwC.bt rfl (by assumption) ?_ | (refine CwC.bf rfl ?_ ?_; focus assumption))
  refine Ow.callN rfl rfl Tryd.call72 (S := (fun B v D => OfS B t l l.length v D)) (fun w' hw' => of_spec vt vl t l l.length w' (ht.oldN hw' ⟨hwx, hw1, trivial⟩) (hl.oldN hw' ⟨hwx, hw1, trivial⟩) htl hll (Nat.le_refl _) hnt hnl) (fun B v D h => h.new) (fun B v D hA hB hS => ?_)
  have hnew := hS.new
  unfold OfS at hS
  unfold valueB
  cases ho : ofM nameV z32 (prs t) (prs l) l.length with
  | none =>
    rw [ho] at hS
    obtain ⟨rfl, hD⟩ := hS
    refine Ow.run rfl fun k hk => ?_
    simp (disch := (first | omega | (simp only [lenS, lenT, UInt64.reduceToNat] ; try omega))) only [↓vcL_none, ↓vcB_move, ↓ov_some, putF_some, setF_s, setF_0, ↓ev_tmp, ↓getF_s, ↓getF_0, nf_cons, ↓vcB_extract, extract_t, tup2_0, tup2_1, ↓vcB_assign, ↓vcL_nil, Md.next_seq, List.cons_append, List.nil_append]
    (with_reducible refine hk _ _ _ _ ?_); clear hk k
    repeat' first | with_reducible (first | refine Cw.seq ?_ | refine thenK_normal ?_ | refine Ow.nil ?_) | ((with_reducible refine Cw.region (Ow.run rfl fun k hk => ?_)); simp (disch := (first | omega | (simp only [lenS, lenT, UInt64.reduceToNat] ; try omega))) only [↓vcL_none, ↓vcB_move, ↓ov_some, ↓ev_tmp, ↓getF_s, ↓getF_0, putF_some, setF_s, setF_0, nf_cons, ↓vcB_unOp, un_not, Bool.not_false, ↓vcL_nil, Md.next_seq, ↓vcB_build]; (with_reducible refine hk _ _ _ _ ?_); clear hk k) | with_reducible (first | refine Cw.block ?_ | refine Cw.skip ?_ | refine Cw.exit ?_ | refine Cw.ret ?_ | refine thenK_exit ?_ | refine thenK_ret ?_ | refine blockK_normal ?_ | refine blockK_ret ?_ | refine blockK_exit ?_ | refine blockK_pass rfl ?_) | ((with_reducible refine Cw.condC ?_); first | refine CwC.pt rfl (by omega) ?_ | refine CwC.pf rfl (by omega) ?_ | refine CwC.it rfl (by omega) ?_ | refine CwC.if rfl (by omega) ?_ | refine CwC.nt rfl (by omega) ?_ | refine CwC.nf rfl (by omega) ?_ | refine CwC.tt rfl ?_ | refine CwC.ff rfl ?_ | refine CwC.bt rfl (by assumption) ?_ | (refine CwC.bf rfl ?_ ?_; focus assumption))
    refine Ow.build (.agg (a8 z32)) rfl (by kernel_rfl) ?_
    refine Ow.run rfl fun k hk => ?_
    simp (disch := (first | omega | (simp only [lenS, lenT, UInt64.reduceToNat] ; try omega))) only [↓vcL_none, ↓vcB_store, Tryd.ag40, ↓ev_tmp, putF_some, setF_s, setF_0, ↓getF_s, ↓getF_0, storeAt_p, look_other, look_same, store_all8, upd_some, setB_other, setB_same, oh_some, ↓vcL_nil, Md.next_seq, nh_cons]
    (with_reducible refine hk _ _ _ _ ?_); clear hk k
    repeat' first | with_reducible (first | refine Cw.seq ?_ | refine thenK_normal ?_ | refine Ow.nil ?_) | ((with_reducible refine Cw.region (Ow.run rfl fun k hk => ?_)); simp (disch := (first | omega | (simp only [lenS, lenT, UInt64.reduceToNat] ; try omega))) only []; (with_reducible refine hk _ _ _ _ ?_); clear hk k) | with_reducible (first | refine Cw.block ?_ | refine Cw.skip ?_ | refine Cw.exit ?_ | refine Cw.ret ?_ | refine thenK_exit ?_ | refine thenK_ret ?_ | refine blockK_normal ?_ | refine blockK_ret ?_ | refine blockK_exit ?_ | refine blockK_pass rfl ?_) | ((with_reducible refine Cw.condC ?_); first | refine CwC.pt rfl (by omega) ?_ | refine CwC.pf rfl (by omega) ?_ | refine CwC.it rfl (by omega) ?_ | refine CwC.if rfl (by omega) ?_ | refine CwC.nt rfl (by omega) ?_ | refine CwC.nf rfl (by omega) ?_ | refine CwC.tt rfl ?_ | refine CwC.ff rfl ?_ | refine CwC.bt rfl (by assumption) ?_ | (refine CwC.bf rfl ?_ ?_; focus assumption))
    refine ⟨_, (by simp (disch := (first | omega | (simp only [lenS, lenT, UInt64.reduceToNat] ; try omega))) only [resVs_cons, resV_cell, Tryd.ag40, ↓getF_s, ↓getF_0, loadAt_p, read_other, read_same, load_all8, resVs_nil, cons2_some]; rfl), ⟨hwx, hw1, hnew.mono hB⟩, ?_⟩
    rfl
  | some m =>
    rw [ho] at hS
    obtain ⟨b, o, rfl, rfl, hm, hb⟩ := hS
    obtain ⟨hxb, h1b, -⟩ := hA
    have hwb := Nat.le_trans hB hb
    by_cases h100 : l.length ≤ 100
    · have hd : decide (l.length ≤ 100) = true := by simpa using h100
      simp only [if_pos h100]
      refine Ow.run rfl fun k hk => ?_
      simp (disch := (first | omega | (simp only [lenS, lenT, UInt64.reduceToNat] ; try omega))) only [↓vcL_none, ↓vcB_move, ↓ov_some, putF_some, setF_s, setF_0, ↓ev_tmp, ↓getF_s, ↓getF_0, nf_cons, ↓vcB_extract, extract_t, tup2_0, tup2_1, ↓vcB_assign, ↓vcL_nil, Md.next_seq, List.cons_append, List.nil_append]
      (with_reducible refine hk _ _ _ _ ?_); clear hk k
      repeat' first | with_reducible (first | refine Cw.seq ?_ | refine thenK_normal ?_ | refine Ow.nil ?_) | ((with_reducible refine Cw.region (Ow.run rfl fun k hk => ?_)); simp (disch := (first | omega | (simp only [lenS, lenT, UInt64.reduceToNat] ; try omega))) only [↓vcL_none, ↓vcB_move, ↓ov_some, hd, ↓ev_tmp, ↓getF_s, ↓getF_0, putF_some, setF_s, setF_0, nf_cons, ↓vcB_unOp, un_not, Bool.not_true, ↓vcL_nil, Md.next_seq, ↓vcB_lookup]; (with_reducible refine hk _ _ _ _ ?_); clear hk k) | with_reducible (first | refine Cw.block ?_ | refine Cw.skip ?_ | refine Cw.exit ?_ | refine Cw.ret ?_ | refine thenK_exit ?_ | refine thenK_ret ?_ | refine blockK_normal ?_ | refine blockK_ret ?_ | refine blockK_exit ?_ | refine blockK_pass rfl ?_) | ((with_reducible refine Cw.condC ?_); first | refine CwC.pt rfl (by omega) ?_ | refine CwC.pf rfl (by omega) ?_ | refine CwC.it rfl (by omega) ?_ | refine CwC.if rfl (by omega) ?_ | refine CwC.nt rfl (by omega) ?_ | refine CwC.nf rfl (by omega) ?_ | refine CwC.tt rfl ?_ | refine CwC.ff rfl ?_ | refine CwC.bt rfl (by assumption) ?_ | (refine CwC.bf rfl ?_ ?_; focus assumption))
      refine Ow.mapGet rfl rfl Tryd.underlying126 Tryd.underlying9 zrId rfl rfl (read_look (by rw [look_other _ _ _ _ (by omega), look_other _ _ _ _ (by omega)]; exact look_same _ _ _)) hm ?_
      have hgl := getV_len (n := n) (ofM_len (prs_ids t) (prs_ids l) (by rw [prs_len]; exact Nat.le_refl _) ho) hzl
      refine Ow.run rfl fun k hk => ?_
      simp (disch := (first | omega | (simp only [lenS, lenT, UInt64.reduceToNat] ; try omega))) only [↓vcL_none, ↓vcB_store, Tryd.ag40, ↓ev_tmp, putF_some, setF_s, setF_0, ↓getF_s, ↓getF_0, storeAt_p, look_other, look_same, store_all8, upd_some, setB_other, setB_same, oh_some, ↓vcL_nil, Md.next_seq, nh_cons]
      (with_reducible refine hk _ _ _ _ ?_); clear hk k
      repeat' first | with_reducible (first | refine Cw.seq ?_ | refine thenK_normal ?_ | refine Ow.nil ?_) | ((with_reducible refine Cw.region (Ow.run rfl fun k hk => ?_)); simp (disch := (first | omega | (simp only [lenS, lenT, UInt64.reduceToNat] ; try omega))) only []; (with_reducible refine hk _ _ _ _ ?_); clear hk k) | with_reducible (first | refine Cw.block ?_ | refine Cw.skip ?_ | refine Cw.exit ?_ | refine Cw.ret ?_ | refine thenK_exit ?_ | refine thenK_ret ?_ | refine blockK_normal ?_ | refine blockK_ret ?_ | refine blockK_exit ?_ | refine blockK_pass rfl ?_) | ((with_reducible refine Cw.condC ?_); first | refine CwC.pt rfl (by omega) ?_ | refine CwC.pf rfl (by omega) ?_ | refine CwC.it rfl (by omega) ?_ | refine CwC.if rfl (by omega) ?_ | refine CwC.nt rfl (by omega) ?_ | refine CwC.nf rfl (by omega) ?_ | refine CwC.tt rfl ?_ | refine CwC.ff rfl ?_ | refine CwC.bt rfl (by assumption) ?_ | (refine CwC.bf rfl ?_ ?_; focus assumption))
      refine ⟨_, (by simp (disch := (first | omega | (simp only [lenS, lenT, UInt64.reduceToNat] ; try omega))) only [resVs_cons, resV_cell, Tryd.ag40, ↓getF_s, ↓getF_0, loadAt_p, read_other, read_same, load_all8, resVs_nil, cons2_some]; rfl), ⟨hwx, hw1, hwb, trivial⟩, ?_⟩
      rfl
    · have hd : decide (l.length ≤ 100) = false := by simpa using h100
      simp only [if_neg h100]
      refine Ow.run rfl fun k hk => ?_
      simp (disch := (first | omega | (simp only [lenS, lenT, UInt64.reduceToNat] ; try omega))) only [↓vcL_none, ↓vcB_move, ↓ov_some, putF_some, setF_s, setF_0, ↓ev_tmp, ↓getF_s, ↓getF_0, nf_cons, ↓vcB_extract, extract_t, tup2_0, tup2_1, ↓vcB_assign, ↓vcL_nil, Md.next_seq, List.cons_append, List.nil_append]
      (with_reducible refine hk _ _ _ _ ?_); clear hk k
      repeat' first | with_reducible (first | refine Cw.seq ?_ | refine thenK_normal ?_ | refine Ow.nil ?_) | ((with_reducible refine Cw.region (Ow.run rfl fun k hk => ?_)); simp (disch := (first | omega | (simp only [lenS, lenT, UInt64.reduceToNat] ; try omega))) only [↓vcL_none, ↓vcB_move, ↓ov_some, hd, ↓ev_tmp, ↓getF_s, ↓getF_0, putF_some, setF_s, setF_0, nf_cons, ↓vcB_unOp, un_not, Bool.not_false, ↓vcL_nil, Md.next_seq, ↓vcB_build]; (with_reducible refine hk _ _ _ _ ?_); clear hk k) | with_reducible (first | refine Cw.block ?_ | refine Cw.skip ?_ | refine Cw.exit ?_ | refine Cw.ret ?_ | refine thenK_exit ?_ | refine thenK_ret ?_ | refine blockK_normal ?_ | refine blockK_ret ?_ | refine blockK_exit ?_ | refine blockK_pass rfl ?_) | ((with_reducible refine Cw.condC ?_); first | refine CwC.pt rfl (by omega) ?_ | refine CwC.pf rfl (by omega) ?_ | refine CwC.it rfl (by omega) ?_ | refine CwC.if rfl (by omega) ?_ | refine CwC.nt rfl (by omega) ?_ | refine CwC.nf rfl (by omega) ?_ | refine CwC.tt rfl ?_ | refine CwC.ff rfl ?_ | refine CwC.bt rfl (by assumption) ?_ | (refine CwC.bf rfl ?_ ?_; focus assumption))
      refine Ow.build (.agg (a8 z32)) rfl (by kernel_rfl) ?_
      refine Ow.run rfl fun k hk => ?_
      simp (disch := (first | omega | (simp only [lenS, lenT, UInt64.reduceToNat] ; try omega))) only [↓vcL_none, ↓vcB_store, Tryd.ag40, ↓ev_tmp, putF_some, setF_s, setF_0, ↓getF_s, ↓getF_0, storeAt_p, look_other, look_same, store_all8, upd_some, setB_other, setB_same, oh_some, ↓vcL_nil, Md.next_seq, nh_cons]
      (with_reducible refine hk _ _ _ _ ?_); clear hk k
      repeat' first | with_reducible (first | refine Cw.seq ?_ | refine thenK_normal ?_ | refine Ow.nil ?_) | ((with_reducible refine Cw.region (Ow.run rfl fun k hk => ?_)); simp (disch := (first | omega | (simp only [lenS, lenT, UInt64.reduceToNat] ; try omega))) only []; (with_reducible refine hk _ _ _ _ ?_); clear hk k) | with_reducible (first | refine Cw.block ?_ | refine Cw.skip ?_ | refine Cw.exit ?_ | refine Cw.ret ?_ | refine thenK_exit ?_ | refine thenK_ret ?_ | refine blockK_normal ?_ | refine blockK_ret ?_ | refine blockK_exit ?_ | refine blockK_pass rfl ?_) | ((with_reducible refine Cw.condC ?_); first | refine CwC.pt rfl (by omega) ?_ | refine CwC.pf rfl (by omega) ?_ | refine CwC.it rfl (by omega) ?_ | refine CwC.if rfl (by omega) ?_ | refine CwC.nt rfl (by omega) ?_ | refine CwC.nf rfl (by omega) ?_ | refine CwC.tt rfl ?_ | refine CwC.ff rfl ?_ | refine CwC.bt rfl (by assumption) ?_ | (refine CwC.bf rfl ?_ ?_; focus assumption))
      refine ⟨_, (by simp (disch := (first | omega | (simp only [lenS, lenT, UInt64.reduceToNat] ; try omega))) only [resVs_cons, resV_cell, Tryd.ag40, ↓getF_s, ↓getF_0, loadAt_p, read_other, read_same, load_all8, resVs_nil, cons2_some]; rfl), ⟨hwx, hw1, hwb, trivial⟩, ?_⟩
      rfl
end Go.Proofs
open Go Go.Proofs Go.Sx Go.RefP
namespace Go.Proofs
set_option maxRecDepth 10000
set_option maxHeartbeats 4000000
set_option linter.unusedSimpArgs false
theorem zrBk : zeroV Tryd.prog 25 = some (.agg #[.slice none 0 0, .slice none 0 0]) := id (by kernel_rfl)
theorem store_bk (p q x y : Value) (E : TypeId) (hx : Value.oneCell' x = true) (hy : Value.oneCell' y = true) : storeV (some (true, 2)) (some (.cells #[p, q] E (0, 0))) 0 (.agg #[x, y]) = some (.cells #[x, y] E (0, 0)) :=
  store_all 2 true #[x, y] #[p, q] E ⟨rfl, rfl⟩ (by simp [hx, hy])
theorem store_bk0 (p q : Value) (E : TypeId) : storeV (some (true, 2)) (some (.cells #[p, q] E (0, 0))) 0 (.agg #[.slice none 0 0, .slice none 0 0]) = some (.cells #[.slice none 0 0, .slice none 0 0] E (0, 0)) := store_bk _ _ _ _ E rfl rfl
/-- What Add hands back. -/
def AddS (n : Nat) (t l : List RefL) (nm : List UInt8) (id : IdL) (v : Value) (D : Heap) : Prop :=
  if rightB t l = true ∧ nameV nm = true then
    (if rightB t (l ++ [⟨nm, id⟩]) = true then ∃ vt vl, v = .tuple #[.agg #[vt, vl], vs (recordV (entryB ⟨nm, id⟩)), vi 0] ∧ GrI D 42 33 vt t.length (t.map refC).flatten ∧ GrI D 42 33 vl (l.length + 1) ((l ++ [(⟨nm, id⟩ : RefL)]).map refC).flatten
     else v = .tuple #[.agg #[.slice none 0 0, .slice none 0 0], vs [], vi 18])
  else v = .tuple #[.agg #[.slice none 0 0, .slice none 0 0], vs [], vi 1]
theorem AddS.arg {n : Nat} {t l : List RefL} {nm : List UInt8} {id : IdL} {D : Heap} (h : ¬ (rightB t l = true ∧ nameV nm = true)) : AddS n t l nm id (.tuple #[.agg #[.slice none 0 0, .slice none 0 0], vs [], vi 1]) D := by
  unfold AddS; rw [if_neg h]
theorem AddS.full {n : Nat} {t l : List RefL} {nm : List UInt8} {id : IdL} {D : Heap} (h : rightB t l = true ∧ nameV nm = true) (h2 : rightB t (l ++ [(⟨nm, id⟩ : RefL)]) = false) : AddS n t l nm id (.tuple #[.agg #[.slice none 0 0, .slice none 0 0], vs [], vi 18]) D := by
  unfold AddS; rw [if_pos h, if_neg (by rw [h2]; simp)]
theorem AddS.ok {n : Nat} {t l : List RefL} {nm : List UInt8} {id : IdL} {D : Heap} {vt vl : Value} (h : rightB t l = true ∧ nameV nm = true) (h2 : rightB t (l ++ [(⟨nm, id⟩ : RefL)]) = true) (h3 : GrI D 42 33 vt t.length (t.map refC).flatten) (h4 : GrI D 42 33 vl (l.length + 1) ((l ++ [(⟨nm, id⟩ : RefL)]).map refC).flatten) :
    AddS n t l nm id (.tuple #[.agg #[vt, vl], vs (recordV (entryB ⟨nm, id⟩)), vi 0]) D := by
  unfold AddS; rw [if_pos h, if_pos h2]; exact ⟨vt, vl, rfl, h3, h4⟩
theorem build_bk (x y : Value) (hx : x.cells = #[x]) (hy : y.cells = #[y]) : buildV (plcT Tryd.prog 25) (zeroV Tryd.prog 25) [(0, x), (1, y)] = some (.agg #[x, y]) := by
  have hp : plcT Tryd.prog 25 = some [(0, 1), (1, 1)] := id (by kernel_rfl)
  rw [hp, zrBk]
  simp [buildV, fillV, hx, hy, putC]
theorem sliceRef (r : RefL) : sliceB Tryd.prog 23 1 [(0, .agg (refC r).toArray)] = some (42, (refC r).toArray) :=
  slice_one Tryd.underlying23 (id (by kernel_rfl)) zrRef (by decide) (refC_len r)
theorem newE {z : Obj} {n : Nat} {E : Heap} {p : Nat → Prop} (h : E = [] ∨ ∃ b, E = [(b, z)] ∧ n ≤ b ∧ p b) : New n E := by
  rcases h with rfl | ⟨b, rfl, hb, -⟩
  · trivial
  · exact ⟨hb, trivial⟩
structure AG where
  D1 : Heap
  D2 : Heap
  v1 : Value
  v2 : Value
  b7 : Nat
theorem Add_spec (vt vl : Value) (t l : List RefL) (nm : List UInt8) (id : IdL) (w : World) (hG : GlobC w) (ht : RefSl w vt t) (hl : RefSl w vl l) (htl : t.length < 1000) (hll : l.length < 1000) (hnt : ShortN t) (hnl : ShortN l) (hnm : nm.length < 1000000) :
    Rets Tryd.prog 14 #[.agg #[vt, vl], vs nm, .agg (a8 id.l)] w (XS w [] (AddS w.heap.size t l nm id)) := by
  have hil := id.h
  have hglt : (3 : Nat) < w.heap.size := by obtain ⟨e, f, h⟩ := hG; exact (Array.getElem?_eq_some_iff.1 h).1
  refine Rets.enterX Tryd.func14 rfl (rs := [.cell 6 25, .tmp 7, .tmp 8]) Tryd.results14 Tryd.ntmps14 (fun p hp => by cases hp) (by simp [keys]) ?_
  simp only [List.size_toArray, List.length_cons, List.length_nil, Nat.reduceAdd, Nat.reduceSub, List.replicate_succ, List.replicate_zero, List.cons_append, List.nil_append]
  repeat' first | with_reducible (first | refine Cw.seq ?_ | refine thenK_normal ?_ | refine Ow.nil ?_) | ((with_reducible refine Cw.region (Ow.run rfl fun k hk => ?_)); simp (disch := (first | omega | (simp only [lenS, lenT, UInt64.reduceToNat] ; try omega))) only [↓vcL_none, ↓vcB_box, lit_str, lit_i64]; (with_reducible refine hk _ _ _ _ ?_); clear hk k) | with_reducible (first | refine Cw.block ?_ | refine Cw.skip ?_ | refine Cw.exit ?_ | refine Cw.ret ?_ | refine thenK_exit ?_ | refine thenK_ret ?_ | refine blockK_normal ?_ | refine blockK_ret ?_ | refine blockK_exit ?_ | refine blockK_pass rfl ?_) | ((with_reducible refine Cw.condC ?_); first | refine CwC.pt rfl (by omega) ?_ | refine CwC.pf rfl (by omega) ?_ | refine CwC.it rfl (by omega) ?_ | refine CwC.if rfl (by omega) ?_ | refine CwC.nt rfl (by omega) ?_ | refine CwC.nf rfl (by omega) ?_ | refine CwC.tt rfl ?_ | refine CwC.ff rfl ?_ | refine CwC.bt rfl (by assumption) ?_ | (refine CwC.bf rfl ?_ ?_; focus assumption))
  refine Ow.box rfl rfl fun bx hbx hwx => ?_
  simp only [ev_tmp, getF_0, getF_s, cells_agg, List.nil_append, List.cons_append]
  refine Ow.run rfl fun k hk => ?_
  simp (disch := (first | omega | (simp only [lenS, lenT, UInt64.reduceToNat] ; try omega))) only [↓vcL_none, ↓vcB_box, putF_some, setF_s, setF_0]
  (with_reducible refine hk _ _ _ _ ?_); clear hk k
  refine Ow.box rfl rfl fun bi hbi hwi => ?_
  simp only [ev_tmp, getF_0, getF_s, cells_agg, List.nil_append, List.cons_append]
  refine Ow.run rfl fun k hk => ?_
  simp (disch := (first | omega | (simp only [lenS, lenT, UInt64.reduceToNat] ; try omega))) only [↓vcL_none, ↓vcB_alloc, putF_some, setF_s, setF_0]
  (with_reducible refine hk _ _ _ _ ?_); clear hk k
  obtain ⟨hxi, -⟩ := hbi
  refine Ow.alloc rfl rfl zrBk fun br hbr hwr => ?_
  simp only [cells_agg, List.nil_append, List.cons_append]
  obtain ⟨hxr, hir, -⟩ := hbr
  refine Ow.run rfl fun k hk => ?_
  simp (disch := (first | omega | (simp only [lenS, lenT, UInt64.reduceToNat] ; try omega))) only [↓vcL_none, ↓vcB_assign, ↓ov_some, putF_some, setF_s, setF_0, ↓ev_const, nf_cons, ↓vcL_nil, Md.next_seq]
  (with_reducible refine hk _ _ _ _ ?_); clear hk k
  repeat' first | with_reducible (first | refine Cw.seq ?_ | refine thenK_normal ?_ | refine Ow.nil ?_) | ((with_reducible refine Cw.region (Ow.run rfl fun k hk => ?_)); simp (disch := (first | omega | (simp only [lenS, lenT, UInt64.reduceToNat] ; try omega))) only [↓vcL_none, ↓vcB_load, rd_seq_load, ↓ib_true, Tryd.ag25, ↓ev_tmp, ↓getF_s, ↓getF_0, loadAt_p, read_same, load_bk, ↓ov_some, putF_some, setF_s, setF_0, nf_cons, ↓vcB_call, Md.next_seq]; (with_reducible refine hk _ _ _ _ ?_); clear hk k) | with_reducible (first | refine Cw.block ?_ | refine Cw.skip ?_ | refine Cw.exit ?_ | refine Cw.ret ?_ | refine thenK_exit ?_ | refine thenK_ret ?_ | refine blockK_normal ?_ | refine blockK_ret ?_ | refine blockK_exit ?_ | refine blockK_pass rfl ?_) | ((with_reducible refine Cw.condC ?_); first | refine CwC.pt rfl (by omega) ?_ | refine CwC.pf rfl (by omega) ?_ | refine CwC.it rfl (by omega) ?_ | refine CwC.if rfl (by omega) ?_ | refine CwC.nt rfl (by omega) ?_ | refine CwC.nf rfl (by omega) ?_ | refine CwC.tt rfl ?_ | refine CwC.ff rfl ?_ | refine CwC.bt rfl (by assumption) ?_ | (refine CwC.bf rfl ?_ ?_; focus assumption))
  refine Ow.callFV rfl Tryd.call36 (fun w' hw' => Right_spec vt vl t l w' (ht.oldN hw' ⟨hwx, hwi, hwr, trivial⟩) (hl.oldN hw' ⟨hwx, hwi, hwr, trivial⟩) (by omega) (by omega) hnt hnl) ?_
  cases hr : rightB t l
  · refine Ow.run rfl fun k hk => ?_
    simp (disch := (first | omega | (simp only [lenS, lenT, UInt64.reduceToNat] ; try omega))) only [↓vcL_none, ↓vcB_unOp, ↓ev_tmp, putF_some, setF_s, setF_0, ↓getF_s, ↓getF_0, un_not, Bool.not_false, ↓ov_some, nf_cons, ↓vcB_move, ↓vcL_some, yieldF_lit, ↓nthO_s, ↓nthO_0, yieldL_some, boolOf_b, some_beq, beq_false, Bool.not_true, ↓ib_false, ↓vcB_pick, ↓ev_const, pick_t, ↓vcL_nil, Md.next_seq]
    (with_reducible refine hk _ _ _ _ ?_); clear hk k
    repeat' first | with_reducible (first | refine Cw.seq ?_ | refine thenK_normal ?_ | refine Ow.nil ?_) | ((with_reducible refine Cw.region (Ow.run rfl fun k hk => ?_)); simp (disch := (first | omega | (simp only [lenS, lenT, UInt64.reduceToNat] ; try omega))) only [↓vcL_none, ↓vcB_build, lit_str, lit_i64]; (with_reducible refine hk _ _ _ _ ?_); clear hk k) | with_reducible (first | refine Cw.block ?_ | refine Cw.skip ?_ | refine Cw.exit ?_ | refine Cw.ret ?_ | refine thenK_exit ?_ | refine thenK_ret ?_ | refine blockK_normal ?_ | refine blockK_ret ?_ | refine blockK_exit ?_ | refine blockK_pass rfl ?_) | ((with_reducible refine Cw.condC ?_); first | refine CwC.pt rfl (by omega) ?_ | refine CwC.pf rfl (by omega) ?_ | refine CwC.it rfl (by omega) ?_ | refine CwC.if rfl (by omega) ?_ | refine CwC.nt rfl (by omega) ?_ | refine CwC.nf rfl (by omega) ?_ | refine CwC.tt rfl ?_ | refine CwC.ff rfl ?_ | refine CwC.bt rfl (by assumption) ?_ | (refine CwC.bf rfl ?_ ?_; focus assumption))
    refine Ow.build (.agg #[.slice none 0 0, .slice none 0 0]) rfl (by kernel_rfl) ?_
    refine Ow.run rfl fun k hk => ?_
    simp (disch := (first | omega | (simp only [lenS, lenT, UInt64.reduceToNat] ; try omega))) only [↓vcL_none, ↓vcB_store, Tryd.ag25, ↓ev_tmp, putF_some, setF_s, setF_0, ↓getF_s, ↓getF_0, storeAt_p, look_other, look_same, store_bk0, upd_some, setB_other, setB_same, oh_some, ↓vcB_assign, ↓ov_some, ↓ev_const, nf_cons, ↓vcL_nil, Md.next_seq, nh_cons]
    (with_reducible refine hk _ _ _ _ ?_); clear hk k
    repeat' first | with_reducible (first | refine Cw.seq ?_ | refine thenK_normal ?_ | refine Ow.nil ?_) | ((with_reducible refine Cw.region (Ow.run rfl fun k hk => ?_)); simp (disch := (first | omega | (simp only [lenS, lenT, UInt64.reduceToNat] ; try omega))) only []; (with_reducible refine hk _ _ _ _ ?_); clear hk k) | with_reducible (first | refine Cw.block ?_ | refine Cw.skip ?_ | refine Cw.exit ?_ | refine Cw.ret ?_ | refine thenK_exit ?_ | refine thenK_ret ?_ | refine blockK_normal ?_ | refine blockK_ret ?_ | refine blockK_exit ?_ | refine blockK_pass rfl ?_) | ((with_reducible refine Cw.condC ?_); first | refine CwC.pt rfl (by omega) ?_ | refine CwC.pf rfl (by omega) ?_ | refine CwC.it rfl (by omega) ?_ | refine CwC.if rfl (by omega) ?_ | refine CwC.nt rfl (by omega) ?_ | refine CwC.nf rfl (by omega) ?_ | refine CwC.tt rfl ?_ | refine CwC.ff rfl ?_ | refine CwC.bt rfl (by assumption) ?_ | (refine CwC.bf rfl ?_ ?_; focus assumption))
    refine ⟨_, (by simp (disch := (first | omega | (simp only [lenS, lenT, UInt64.reduceToNat] ; try omega))) only [resVs_cons, resV_cell, Tryd.ag25, ↓getF_s, ↓getF_0, loadAt_p, read_other, read_same, load_bk, resV_tmp, resVs_nil, cons2_some]; rfl), ?_⟩
    refine ⟨Ext.of_new ⟨hwx, hwi, hwr, trivial⟩, ?_⟩
    exact AddS.arg (by simp [hr])
  · refine Ow.run rfl fun k hk => ?_
    simp (disch := (first | omega | (simp only [lenS, lenT, UInt64.reduceToNat] ; try omega))) only [↓vcL_none, ↓vcB_unOp, ↓ev_tmp, putF_some, setF_s, setF_0, ↓getF_s, ↓getF_0, un_not, Bool.not_true, ↓ov_some, nf_cons, ↓vcB_move, ↓vcL_some, yieldF_lit, ↓nthO_s, ↓nthO_0, yieldL_some, boolOf_b, beq_self_eq_true, ↓ib_true, ↓vcB_call, Md.next_seq]
    (with_reducible refine hk _ _ _ _ ?_); clear hk k
    refine Ow.callFV rfl Tryd.call59 (fun w' hw' => isNameV_spec nm w' (by omega)) ?_
    cases hn : nameV nm
    · refine Ow.run rfl fun k hk => ?_
      simp (disch := (first | omega | (simp only [lenS, lenT, UInt64.reduceToNat] ; try omega))) only [↓vcL_some, putF_some, setF_s, setF_0, yieldF_lit, ↓nthO_s, ↓nthO_0, yieldL_some, ↓getF_s, ↓getF_0, boolOf_b, beq_self_eq_true, ↓ib_true, ↓vcB_unOp, ↓ev_tmp, un_not, Bool.not_false, ↓ov_some, nf_cons, ↓vcL_none, ↓vcB_pick, ↓ev_const, pick_f, ↓vcL_nil, Md.next_seq]
      (with_reducible refine hk _ _ _ _ ?_); clear hk k
      repeat' first | with_reducible (first | refine Cw.seq ?_ | refine thenK_normal ?_ | refine Ow.nil ?_) | ((with_reducible refine Cw.region (Ow.run rfl fun k hk => ?_)); simp (disch := (first | omega | (simp only [lenS, lenT, UInt64.reduceToNat] ; try omega))) only [↓vcL_none, ↓vcB_build, lit_str, lit_i64]; (with_reducible refine hk _ _ _ _ ?_); clear hk k) | with_reducible (first | refine Cw.block ?_ | refine Cw.skip ?_ | refine Cw.exit ?_ | refine Cw.ret ?_ | refine thenK_exit ?_ | refine thenK_ret ?_ | refine blockK_normal ?_ | refine blockK_ret ?_ | refine blockK_exit ?_ | refine blockK_pass rfl ?_) | ((with_reducible refine Cw.condC ?_); first | refine CwC.pt rfl (by omega) ?_ | refine CwC.pf rfl (by omega) ?_ | refine CwC.it rfl (by omega) ?_ | refine CwC.if rfl (by omega) ?_ | refine CwC.nt rfl (by omega) ?_ | refine CwC.nf rfl (by omega) ?_ | refine CwC.tt rfl ?_ | refine CwC.ff rfl ?_ | refine CwC.bt rfl (by assumption) ?_ | (refine CwC.bf rfl ?_ ?_; focus assumption))
      refine Ow.build (.agg #[.slice none 0 0, .slice none 0 0]) rfl (by kernel_rfl) ?_
      refine Ow.run rfl fun k hk => ?_
      simp (disch := (first | omega | (simp only [lenS, lenT, UInt64.reduceToNat] ; try omega))) only [↓vcL_none, ↓vcB_store, Tryd.ag25, ↓ev_tmp, putF_some, setF_s, setF_0, ↓getF_s, ↓getF_0, storeAt_p, look_other, look_same, store_bk0, upd_some, setB_other, setB_same, oh_some, ↓vcB_assign, ↓ov_some, ↓ev_const, nf_cons, ↓vcL_nil, Md.next_seq, nh_cons]
      (with_reducible refine hk _ _ _ _ ?_); clear hk k
      repeat' first | with_reducible (first | refine Cw.seq ?_ | refine thenK_normal ?_ | refine Ow.nil ?_) | ((with_reducible refine Cw.region (Ow.run rfl fun k hk => ?_)); simp (disch := (first | omega | (simp only [lenS, lenT, UInt64.reduceToNat] ; try omega))) only []; (with_reducible refine hk _ _ _ _ ?_); clear hk k) | with_reducible (first | refine Cw.block ?_ | refine Cw.skip ?_ | refine Cw.exit ?_ | refine Cw.ret ?_ | refine thenK_exit ?_ | refine thenK_ret ?_ | refine blockK_normal ?_ | refine blockK_ret ?_ | refine blockK_exit ?_ | refine blockK_pass rfl ?_) | ((with_reducible refine Cw.condC ?_); first | refine CwC.pt rfl (by omega) ?_ | refine CwC.pf rfl (by omega) ?_ | refine CwC.it rfl (by omega) ?_ | refine CwC.if rfl (by omega) ?_ | refine CwC.nt rfl (by omega) ?_ | refine CwC.nf rfl (by omega) ?_ | refine CwC.tt rfl ?_ | refine CwC.ff rfl ?_ | refine CwC.bt rfl (by assumption) ?_ | (refine CwC.bf rfl ?_ ?_; focus assumption))
      refine ⟨_, (by simp (disch := (first | omega | (simp only [lenS, lenT, UInt64.reduceToNat] ; try omega))) only [resVs_cons, resV_cell, Tryd.ag25, ↓getF_s, ↓getF_0, loadAt_p, read_other, read_same, load_bk, resV_tmp, resVs_nil, cons2_some]; rfl), ?_⟩
      refine ⟨Ext.of_new ⟨hwx, hwi, hwr, trivial⟩, ?_⟩
      exact AddS.arg (by simp [hn])
    · refine Ow.run rfl fun k hk => ?_
      simp (disch := (first | omega | (simp only [lenS, lenT, UInt64.reduceToNat] ; try omega))) only [↓vcL_some, putF_some, setF_s, setF_0, yieldF_lit, ↓nthO_s, ↓nthO_0, yieldL_some, ↓getF_s, ↓getF_0, boolOf_b, beq_self_eq_true, ↓ib_true, ↓vcB_unOp, ↓ev_tmp, un_not, Bool.not_true, ↓ov_some, nf_cons, ↓vcL_none, ↓vcB_pick, ↓ev_const, pick_f, ↓vcL_nil, Md.next_seq]
      (with_reducible refine hk _ _ _ _ ?_); clear hk k
      repeat' first | with_reducible (first | refine Cw.seq ?_ | refine thenK_normal ?_ | refine Ow.nil ?_) | ((with_reducible refine Cw.region (Ow.run rfl fun k hk => ?_)); simp (disch := (first | omega | (simp only [lenS, lenT, UInt64.reduceToNat] ; try omega))) only [↓vcL_none, ↓vcB_move, ↓ov_some, ↓ev_tmp, ↓getF_s, ↓getF_0, putF_some, setF_s, setF_0, nf_cons, ↓vcB_load, Md.next_seq, rd_seq_load, ↓ib_true, Tryd.ag40, loadAt_p, read_other, read_same, load_all8, ↓vcB_build]; (with_reducible refine hk _ _ _ _ ?_); clear hk k) | with_reducible (first | refine Cw.block ?_ | refine Cw.skip ?_ | refine Cw.exit ?_ | refine Cw.ret ?_ | refine thenK_exit ?_ | refine thenK_ret ?_ | refine blockK_normal ?_ | refine blockK_ret ?_ | refine blockK_exit ?_ | refine blockK_pass rfl ?_) | ((with_reducible refine Cw.condC ?_); first | refine CwC.pt rfl (by omega) ?_ | refine CwC.pf rfl (by omega) ?_ | refine CwC.it rfl (by omega) ?_ | refine CwC.if rfl (by omega) ?_ | refine CwC.nt rfl (by omega) ?_ | refine CwC.nf rfl (by omega) ?_ | refine CwC.tt rfl ?_ | refine CwC.ff rfl ?_ | refine CwC.bt rfl (by assumption) ?_ | (refine CwC.bf rfl ?_ ?_; focus assumption))
      refine Ow.build _ rfl (build_ref nm id) ?_
      refine Ow.run rfl fun k hk => ?_
      simp (disch := (first | omega | (simp only [lenS, lenT, UInt64.reduceToNat] ; try omega))) only [↓vcL_none, ↓vcB_alloc, Md.next_seq, putF_some, setF_s, setF_0]
      (with_reducible refine hk _ _ _ _ ?_); clear hk k
      refine Ow.alloc rfl rfl zrRef fun b9 hb9 hw9 => ?_
      simp only [cells_agg, List.nil_append, List.cons_append]
      obtain ⟨hx9, hi9, hr9, -⟩ := hb9
      generalize hR : (⟨nm, id⟩ : RefL) = r
      refine Ow.run rfl fun k hk => ?_
      simp (disch := (first | omega | (simp only [lenS, lenT, UInt64.reduceToNat] ; try omega))) only [↓vcL_none, ↓vcB_store, Tryd.ag42, ↓ev_tmp, putF_some, setF_s, setF_0, ↓getF_s, ↓getF_0, storeAt_p, look_other, look_same, store_rr, upd_some, setB_other, setB_same, oh_some, ↓vcL_nil, Md.next_seq, nh_cons]
      (with_reducible refine hk _ _ _ _ ?_); clear hk k
      repeat' first | with_reducible (first | refine Cw.seq ?_ | refine thenK_normal ?_ | refine Ow.nil ?_) | ((with_reducible refine Cw.region (Ow.run rfl fun k hk => ?_)); simp (disch := (first | omega | (simp only [lenS, lenT, UInt64.reduceToNat] ; try omega))) only []; (with_reducible refine hk _ _ _ _ ?_); clear hk k) | with_reducible (first | refine Cw.block ?_ | refine Cw.skip ?_ | refine Cw.exit ?_ | refine Cw.ret ?_ | refine thenK_exit ?_ | refine thenK_ret ?_ | refine blockK_normal ?_ | refine blockK_ret ?_ | refine blockK_exit ?_ | refine blockK_pass rfl ?_) | ((with_reducible refine Cw.condC ?_); first | refine CwC.pt rfl (by omega) ?_ | refine CwC.pf rfl (by omega) ?_ | refine CwC.it rfl (by omega) ?_ | refine CwC.if rfl (by omega) ?_ | refine CwC.nt rfl (by omega) ?_ | refine CwC.nf rfl (by omega) ?_ | refine CwC.tt rfl ?_ | refine CwC.ff rfl ?_ | refine CwC.bt rfl (by assumption) ?_ | (refine CwC.bf rfl ?_ ?_; focus assumption))
      refine Cw.regionD [bx, b9] [11] 10 10 25 11 _ rfl (by kernel_rfl) (by kernel_rfl) rfl (by kernel_rfl) zrBk (fun hD => ?_)
      simp only [List.replicate_succ, List.replicate_zero]
      refine OwD.run [0, 3, 1, 4, 6] [true, true, false, true, true, false, true, false, false, false, false, false] 6 rfl hD (by kernel_rfl) fun k hk => ?_
      simp only [nl_cons, ↓pickL_nil, ↓pickL_cons, ↓nthO_0, ↓nthO_s, consO_some]
      simp (disch := (first | omega | (simp only [lenS, lenT, UInt64.reduceToNat] ; try omega))) only [↓vcL_none, ↓vcB_fieldAddr, Tryd.fl25_0, ↓ev_tmp, ↓getF_s, ↓getF_0, fieldAddr_p, Nat.add_zero, ↓ov_some, putF_some, setF_s, setF_0, nf_cons, Tryd.fl25_1, Nat.zero_add, ↓vcB_load, Md.next_sofnil, ↓rd_sof_load, rdIn_p, List.contains_cons, beq_self_eq_true, List.contains_nil, Bool.or_false, Bool.true_or, ↓ib_true, Tryd.ag23, loadAt_p, read_same, load_bk0, load_bk1, Bool.or_true, Tryd.ag42, read_other, load_ref, ↓vcL_nil]
      (with_reducible refine hk _ _ _ ?_); clear hk k
      generalize hL0 : [(bx, Obj.cells #[vt, vl] 25 (0, 0)), (bi, Obj.cells (a8 id.l) 40 (0, 0)), (br, Obj.cells #[Value.slice none 0 0, Value.slice none 0 0] 25 (0, 0)), (b9, Obj.cells (refC r).toArray 42 (0, 0))] = L0
      have hN0 : New w.heap.size L0 := by rw [← hL0]; exact ⟨hwx, hwi, hwr, hw9, trivial⟩
      have hkx : bx ∈ keys L0 := by rw [← hL0]; simp [keys]
      have hk9 : b9 ∈ keys L0 := by rw [← hL0]; simp [keys]
      have hle : ∀ c, c ∈ keys L0 → c ≤ b9 := by
        rw [← hL0]; intro c hc; simp only [keys, List.map_cons, List.map_nil, List.mem_cons, List.not_mem_nil, or_false] at hc; omega
      have hRL : ∀ r, r ∈ [bx, b9] → r ∈ keys L0 := by
        intro r hr; simp only [List.mem_cons, List.not_mem_nil, or_false] at hr; rcases hr with rfl | rfl <;> assumption
      refine OwD.via (G := AG) (fun g => [Value.agg #[vt, vl], vs nm, Value.agg (a8 id.l), vp bx 0, undef, vp bi 0, vp br 0, vs [], vi 0, vp b9 0, undef, Value.agg #[vt, vl], Value.bool true, Value.bool false, Value.bool false, vs nm, Value.bool true, Value.bool false, Value.bool false, undef, vs nm, Value.agg (a8 id.l), Value.agg (refC r).toArray, vp bx 0, vt, g.v1, vp bx 1, vl, g.v2, Value.agg (refC r).toArray, vsl g.b7 0 1 1, undef, undef, undef, undef, undef, undef, undef, undef, undef]) (fun g => L0 ++ g.D1 ++ g.D2 ++ [(g.b7, Obj.cells (refC r).toArray 42 (0, 0))]) (fun g => New (b9 + 1) g.D1 ∧ New (b9 + 1) g.D2 ∧ b9 < g.b7 ∧ Gr g.D1 42 33 g.v1 t.length (t.map refC).flatten ∧ Gr g.D2 42 33 g.v2 l.length (l.map refC).flatten) 3 [true, true, true, true, true, true, true, true, false, false, false, false] (fun key => ?_) (fun g hg => ?_)
      · refine OwD.two 2 7 _ _ hD rfl rfl (by kernel_rfl) (fun E hE => ?_) (fun E hE => ?_)
        · have hEN : New w.heap.size E := newE hE
          refine Ow.callC rfl rfl Tryd.call47 (fun w' hw' => CloneRef_spec vt t w' (ht.oldN hw' (hN0.app hEN)) (by omega)) (fun B1 v1 D1 hA1 hB1 hN1 hS1 => ?_)
          have hM1 : New (b9 + 1) D1 := hN1.mono (above_to hA1 (by simp [keys_app, hk9]))
          with_reducible refine Ow.nil ?_
          refine ⟨_, perm_mid, readB_appR (fun r hr => by simp [keys_app, hRL r hr]), ?_⟩
          simp only [List.set_cons_zero, List.set_cons_succ, putF_some, setF_0, setF_s]
          refine OwD.two 5 7 _ _ hD rfl rfl (by kernel_rfl) (fun E hE => ?_) (fun E hE => ?_)
          · have hEN : New w.heap.size E := newE hE
            refine Ow.callC rfl rfl Tryd.call47 (fun w' hw' => CloneRef_spec vl l w' (hl.oldN hw' ((hN0.app (hN1.mono hB1)).app hEN)) (by omega)) (fun B2 v2 D2 hA2 hB2 hN2 hS2 => ?_)
            have hM2 : New (b9 + 1) D2 := hN2.mono (above_to hA2 (by simp [keys_app, hk9]))
            with_reducible refine Ow.nil ?_
            refine ⟨_, perm_mid, readB_appR (fun r hr => by simp [keys_app, hRL r hr]), ?_⟩
            simp only [List.set_cons_zero, List.set_cons_succ, putF_some, setF_0, setF_s]
            refine OwD.soft 7 _ hD rfl (by kernel_rfl) (fun E hE => ?_)
            refine Ow.buildSlice (e := 42) (refC r).toArray rfl rfl (sliceRef r) fun b7 hb7 hw7 => ?_
            have hM7 : b9 < b7 := above_to hb7 (by simp [keys_app, hk9])
            with_reducible refine Ow.nil ?_
            refine ⟨_, perm_mid, readB_appR (fun r hr => by simp [keys_app, hRL r hr]), ?_⟩
            simp only [List.set_cons_zero, List.set_cons_succ, putF_some, setF_0, setF_s]
            exact key ⟨D1, D2, v1, v2, b7⟩ _ _ ⟨hM1, hM2, hM7, hS1, hS2⟩ rfl (by classical exact List.perm_iff_count.2 fun a => by simp only [List.count_append, List.count_cons, List.count_nil] <;> omega)
          · have hEN : New w.heap.size E := newE hE
            refine Ow.buildSlice (e := 42) (refC r).toArray rfl rfl (sliceRef r) fun b7 hb7 hw7 => ?_
            have hM7 : b9 < b7 := above_to hb7 (by simp [keys_app, hk9])
            with_reducible refine Ow.nil ?_
            refine ⟨_, perm_mid, readB_appR (fun r hr => by simp [keys_app, hRL r hr]), ?_⟩
            simp only [List.set_cons_zero, List.set_cons_succ, putF_some, setF_0, setF_s]
            refine OwD.soft 5 _ hD rfl (by kernel_rfl) (fun E hE => ?_)
            have hEN : New w.heap.size E := newE hE
            refine Ow.callC rfl rfl Tryd.call47 (fun w' hw' => CloneRef_spec vl l w' (hl.oldN hw' (((hN0.app (hN1.mono hB1)).app (show New w.heap.size [(b7, Obj.cells (refC r).toArray 42 (0, 0))] from ⟨hw7, trivial⟩)).app hEN)) (by omega)) (fun B2 v2 D2 hA2 hB2 hN2 hS2 => ?_)
            have hM2 : New (b9 + 1) D2 := hN2.mono (above_to hA2 (by simp [keys_app, hk9]))
            with_reducible refine Ow.nil ?_
            refine ⟨_, perm_mid, readB_appR (fun r hr => by simp [keys_app, hRL r hr]), ?_⟩
            simp only [List.set_cons_zero, List.set_cons_succ, putF_some, setF_0, setF_s]
            exact key ⟨D1, D2, v1, v2, b7⟩ _ _ ⟨hM1, hM2, hM7, hS1, hS2⟩ rfl (by classical exact List.perm_iff_count.2 fun a => by simp only [List.count_append, List.count_cons, List.count_nil] <;> omega)
        · have hEN : New w.heap.size E := newE hE
          refine Ow.buildSlice (e := 42) (refC r).toArray rfl rfl (sliceRef r) fun b7 hb7 hw7 => ?_
          have hM7 : b9 < b7 := above_to hb7 (by simp [keys_app, hk9])
          with_reducible refine Ow.nil ?_
          refine ⟨_, perm_mid, readB_appR (fun r hr => by simp [keys_app, hRL r hr]), ?_⟩
          simp only [List.set_cons_zero, List.set_cons_succ, putF_some, setF_0, setF_s]
          refine OwD.soft 2 _ hD rfl (by kernel_rfl) (fun E hE => ?_)
          have hEN : New w.heap.size E := newE hE
          refine Ow.callC rfl rfl Tryd.call47 (fun w' hw' => CloneRef_spec vt t w' (ht.oldN hw' ((hN0.app (show New w.heap.size [(b7, Obj.cells (refC r).toArray 42 (0, 0))] from ⟨hw7, trivial⟩)).app hEN)) (by omega)) (fun B1 v1 D1 hA1 hB1 hN1 hS1 => ?_)
          have hM1 : New (b9 + 1) D1 := hN1.mono (above_to hA1 (by simp [keys_app, hk9]))
          with_reducible refine Ow.nil ?_
          refine ⟨_, perm_mid, readB_appR (fun r hr => by simp [keys_app, hRL r hr]), ?_⟩
          simp only [List.set_cons_zero, List.set_cons_succ, putF_some, setF_0, setF_s]
          refine OwD.soft 5 _ hD rfl (by kernel_rfl) (fun E hE => ?_)
          have hEN : New w.heap.size E := newE hE
          refine Ow.callC rfl rfl Tryd.call47 (fun w' hw' => CloneRef_spec vl l w' (hl.oldN hw' (((hN0.app (show New w.heap.size [(b7, Obj.cells (refC r).toArray 42 (0, 0))] from ⟨hw7, trivial⟩)).app (hN1.mono hB1)).app hEN)) (by omega)) (fun B2 v2 D2 hA2 hB2 hN2 hS2 => ?_)
          have hM2 : New (b9 + 1) D2 := hN2.mono (above_to hA2 (by simp [keys_app, hk9]))
          with_reducible refine Ow.nil ?_
          refine ⟨_, perm_mid, readB_appR (fun r hr => by simp [keys_app, hRL r hr]), ?_⟩
          simp only [List.set_cons_zero, List.set_cons_succ, putF_some, setF_0, setF_s]
          exact key ⟨D1, D2, v1, v2, b7⟩ _ _ ⟨hM1, hM2, hM7, hS1, hS2⟩ rfl (by classical exact List.perm_iff_count.2 fun a => by simp only [List.count_append, List.count_cons, List.count_nil] <;> omega)
      · obtain ⟨D1, D2, v1, v2, b7⟩ := g
        obtain ⟨hn1, hn2, hb7, hg1, hg2⟩ := hg
        simp only at hn1 hn2 hb7 hg1 hg2 ⊢
        refine OwD.soft 8 _ hD rfl (by kernel_rfl) (fun E hE => ?_)
        have hEN := newE hE
        refine Ow.permL (M := D2 ++ (L0 ++ D1 ++ [(b7, Obj.cells (refC r).toArray 42 (0, 0))] ++ E)) (by classical exact List.perm_iff_count.2 fun a => by simp only [List.count_append, List.count_cons, List.count_nil] <;> omega) ?_
        refine Ow.appendX (e := 42) (k := 1) (new := refC r) (X := D2) v2 rfl rfl rfl rfl Tryd.underlying23 Tryd.ag42 (by kernel_rfl) zrRef (by rw [cells_ref, List.size_toArray, refC_len]) Tryd.underlying23 (by intro k h; cases h) hg2 (fun w' hw' => AppX.one1 (hw'.has b7 (.cells (refC r).toArray 42 (0, 0)) (by simp)) (refC_len r) (refC_one r)) (by omega) (by omega) (fun B v3 D3 hA3 hB3 hbuf hk1 hk2 hlk => ?_)
        have hB9 : b9 < B := above_to hA3 (by simp [keys_app, hk9])
        have hn3 : New (b9 + 1) D3 := New.of_le fun c hc => by
          rcases hk2 c hc with h | h
          · exact hn2.le c h
          · omega
        have hRD : ∀ r, r ∈ [bx, b9] → r ∉ keys D3 := fun r hr hm => by have := hn3.le r hm; have := hle r (hRL r hr); omega
        with_reducible refine Ow.nil ?_
        refine ⟨D3 ++ (L0 ++ D1 ++ [(b7, Obj.cells (refC r).toArray 42 (0, 0))]), (by classical exact List.perm_iff_count.2 fun a => by simp only [List.count_append, List.count_cons, List.count_nil] <;> omega), fun r hr => ?_, ?_⟩
        · have h0 := hRL r hr
          rw [readB_appr (hRD r hr), readB_app (by simp [keys_app, h0]), readB_app h0, readB_app (by simp [keys_app, h0]), readB_app (by simp [keys_app, h0]), readB_app h0]
        simp only [List.set_cons_zero, List.set_cons_succ, putF_some, setF_0, setF_s]
        refine OwD.soft 9 _ hD rfl (by kernel_rfl) (fun E2 hE2 => ?_)
        refine Ow.build (.agg #[v1, v3]) rfl (build_bk v1 v3 hg1.cell.2 hbuf.cell.2) ?_
        with_reducible refine Ow.nil ?_
        refine ⟨D3 ++ (L0 ++ D1 ++ [(b7, Obj.cells (refC r).toArray 42 (0, 0))]), List.Perm.refl _, fun _ _ => rfl, ?_⟩
        simp only [List.set_cons_zero, List.set_cons_succ, putF_some, setF_0, setF_s]
        refine OwD.real [11] rfl hD (by kernel_rfl) (by kernel_rfl) (by kernel_rfl) (by kernel_rfl) (fun r hr => .inl (by simp [keys_app, hRL r hr])) ?_
        simp only [nl_cons, ↓pickL_nil, ↓pickL_cons, ↓nthO_0, ↓nthO_s, consO_some]
        intro b10 hw10 hbL
        simp only [setF_0, setF_s]
        refine Ow.store rfl rfl rfl (L' := (D3 ++ (L0 ++ D1 ++ [(b7, Obj.cells (refC r).toArray 42 (0, 0))])) ++ [(b10, Obj.cells #[v1, v3] 25 (0, 0))]) ?_ ?_
        · simp only [ev_tmp, getF_0, getF_s]
          rw [Tryd.ag25, storeAt_p, look_app_r' hbL, cells_agg, store_bk _ _ _ _ _ hg1.cell.1 hbuf.cell.1, upd_some, setB_app_r hbL]
          exact []
        with_reducible refine Ow.nil ?_
        with_reducible refine thenK_normal ?_
        subst hL0
        refine Cw.permL (M := [(bx, Obj.cells #[vt, vl] 25 (0, 0)), (bi, Obj.cells (a8 id.l) 40 (0, 0)), (br, Obj.cells #[Value.slice none 0 0, Value.slice none 0 0] 25 (0, 0)), (b9, Obj.cells (refC r).toArray 42 (0, 0)), (b10, Obj.cells #[v1, v3] 25 (0, 0)), (b7, Obj.cells (refC r).toArray 42 (0, 0))] ++ (D1 ++ D3)) (by classical exact List.perm_iff_count.2 fun a => by simp only [List.count_append, List.count_cons, List.count_nil] <;> omega) ?_
        simp only [List.cons_append, List.nil_append]
        have hn7 : w.heap.size ≤ b7 := by omega
        have hn1' := hn1.mono (show w.heap.size ≤ b9 + 1 by omega)
        have hn3' := hn3.mono (show w.heap.size ≤ b9 + 1 by omega)
        have hnD := hn1'.app hn3'
        have hb10k : bx ≠ b10 ∧ bi ≠ b10 ∧ br ≠ b10 ∧ b9 ≠ b10 := by
          simp only [keys_app, List.mem_append, not_or] at hbL
          obtain ⟨-, ⟨h0, -⟩, -⟩ := hbL
          simp only [keys, List.map_cons, List.map_nil, List.mem_cons, List.not_mem_nil, or_false, not_or] at h0
          obtain ⟨h1, h2, h3, h4⟩ := h0
          exact ⟨Ne.symm h1, Ne.symm h2, Ne.symm h3, Ne.symm h4⟩
        obtain ⟨hx10, hi10, hr10, h910⟩ := hb10k
        have hfl : (l.map refC).flatten ++ refC r = ((l ++ [r]).map refC).flatten := by simp
        rw [hfl] at hbuf
        have hgr3 : Gr D3 42 33 v3 (l.length + 1) ((l ++ [r]).map refC).flatten := .inl hbuf
        have hrn : r.name.length < 1000000 := by rw [← hR]; exact hnm
        have hsh : ShortN (l ++ [r]) := by
          intro g hg
          by_cases hlt : g < l.length
          · have := hnl g hlt
            rwa [List.getD_eq_getElem?_getD, List.getElem?_append_left hlt, ← List.getD_eq_getElem?_getD]
          · have : g = l.length := by simp at hg; omega
            subst this
            rw [List.getD_eq_getElem?_getD, List.getElem?_append_right (Nat.le_refl _)]
            simp; omega
        repeat' first | with_reducible (first | refine Cw.seq ?_ | refine thenK_normal ?_ | refine Ow.nil ?_) | ((with_reducible refine Cw.region (Ow.run rfl fun k hk => ?_)); simp (disch := (first | omega | (simp only [lenS, lenT, UInt64.reduceToNat] ; try omega))) only [↓vcL_none, ↓vcB_load, putF_none, rd_seq_load, ↓ib_true, Tryd.ag25, ↓ev_tmp, ↓getF_s, ↓getF_0, loadAt_p, read_other, read_same, load_bk, ↓ov_some, putF_some, setF_s, setF_0, nf_cons, ↓vcB_call, Md.next_seq]; (with_reducible refine hk _ _ _ _ ?_); clear hk k) | with_reducible (first | refine Cw.block ?_ | refine Cw.skip ?_ | refine Cw.exit ?_ | refine Cw.ret ?_ | refine thenK_exit ?_ | refine thenK_ret ?_ | refine blockK_normal ?_ | refine blockK_ret ?_ | refine blockK_exit ?_ | refine blockK_pass rfl ?_) | ((with_reducible refine Cw.condC ?_); first | refine CwC.pt rfl (by omega) ?_ | refine CwC.pf rfl (by omega) ?_ | refine CwC.it rfl (by omega) ?_ | refine CwC.if rfl (by omega) ?_ | refine CwC.nt rfl (by omega) ?_ | refine CwC.nf rfl (by omega) ?_ | refine CwC.tt rfl ?_ | refine CwC.ff rfl ?_ | refine CwC.bt rfl (by assumption) ?_ | (refine CwC.bf rfl ?_ ?_; focus assumption))
        refine Ow.callFV rfl Tryd.call36 (fun w' hw' => Right_spec v1 v3 t (l ++ [r]) w' (hg1.slM (fun b o hm => hw'.has b o (by simp [hm])) rfl rfl refC_len) (hgr3.slM (fun b o hm => hw'.has b o (by simp [hm])) (by simp) rfl refC_len) (by omega) (by simp; omega) hnt hsh) ?_
        cases hr2 : rightB t (l ++ [r])
        · refine Ow.run rfl fun k hk => ?_
          simp (disch := (first | omega | (simp only [lenS, lenT, UInt64.reduceToNat] ; try omega))) only [↓vcL_none, ↓vcB_unOp, ↓ev_tmp, putF_some, setF_s, setF_0, ↓getF_s, ↓getF_0, un_not, Bool.not_false, ↓ov_some, nf_cons, ↓vcL_nil, Md.next_seq]
          (with_reducible refine hk _ _ _ _ ?_); clear hk k
          repeat' first | with_reducible (first | refine Cw.seq ?_ | refine thenK_normal ?_ | refine Ow.nil ?_) | ((with_reducible refine Cw.region (Ow.run rfl fun k hk => ?_)); simp (disch := (first | omega | (simp only [lenS, lenT, UInt64.reduceToNat] ; try omega))) only [↓vcL_none, ↓vcB_build, lit_str, lit_i64]; (with_reducible refine hk _ _ _ _ ?_); clear hk k) | with_reducible (first | refine Cw.block ?_ | refine Cw.skip ?_ | refine Cw.exit ?_ | refine Cw.ret ?_ | refine thenK_exit ?_ | refine thenK_ret ?_ | refine blockK_normal ?_ | refine blockK_ret ?_ | refine blockK_exit ?_ | refine blockK_pass rfl ?_) | ((with_reducible refine Cw.condC ?_); first | refine CwC.pt rfl (by omega) ?_ | refine CwC.pf rfl (by omega) ?_ | refine CwC.it rfl (by omega) ?_ | refine CwC.if rfl (by omega) ?_ | refine CwC.nt rfl (by omega) ?_ | refine CwC.nf rfl (by omega) ?_ | refine CwC.tt rfl ?_ | refine CwC.ff rfl ?_ | refine CwC.bt rfl (by assumption) ?_ | (refine CwC.bf rfl ?_ ?_; focus assumption))
          refine Ow.build (.agg #[.slice none 0 0, .slice none 0 0]) rfl (by kernel_rfl) ?_
          refine Ow.run rfl fun k hk => ?_
          simp (disch := (first | omega | (simp only [lenS, lenT, UInt64.reduceToNat] ; try omega))) only [↓vcL_none, ↓vcB_store, Tryd.ag25, ↓ev_tmp, putF_some, setF_s, setF_0, ↓getF_s, ↓getF_0, storeAt_p, look_other, look_same, store_bk0, upd_some, setB_other, setB_same, oh_some, ↓vcB_assign, ↓ov_some, ↓ev_const, nf_cons, ↓vcL_nil, Md.next_seq, nh_cons]
          (with_reducible refine hk _ _ _ _ ?_); clear hk k
          repeat' first | with_reducible (first | refine Cw.seq ?_ | refine thenK_normal ?_ | refine Ow.nil ?_) | ((with_reducible refine Cw.region (Ow.run rfl fun k hk => ?_)); simp (disch := (first | omega | (simp only [lenS, lenT, UInt64.reduceToNat] ; try omega))) only []; (with_reducible refine hk _ _ _ _ ?_); clear hk k) | with_reducible (first | refine Cw.block ?_ | refine Cw.skip ?_ | refine Cw.exit ?_ | refine Cw.ret ?_ | refine thenK_exit ?_ | refine thenK_ret ?_ | refine blockK_normal ?_ | refine blockK_ret ?_ | refine blockK_exit ?_ | refine blockK_pass rfl ?_) | ((with_reducible refine Cw.condC ?_); first | refine CwC.pt rfl (by omega) ?_ | refine CwC.pf rfl (by omega) ?_ | refine CwC.it rfl (by omega) ?_ | refine CwC.if rfl (by omega) ?_ | refine CwC.nt rfl (by omega) ?_ | refine CwC.nf rfl (by omega) ?_ | refine CwC.tt rfl ?_ | refine CwC.ff rfl ?_ | refine CwC.bt rfl (by assumption) ?_ | (refine CwC.bf rfl ?_ ?_; focus assumption))
          refine ⟨_, (by simp (disch := (first | omega | (simp only [lenS, lenT, UInt64.reduceToNat] ; try omega))) only [resVs_cons, resV_cell, Tryd.ag25, ↓getF_s, ↓getF_0, loadAt_p, read_other, read_same, load_bk, resV_tmp, resVs_nil, cons2_some]; rfl), ?_⟩
          refine ⟨Ext.of_new ⟨hwx, hwi, hwr, hw9, hw10, hn7, hnD⟩, ?_⟩
          exact AddS.full ⟨hr, hn⟩ (by rw [hR]; exact hr2)
        · refine Ow.run rfl fun k hk => ?_
          simp (disch := (first | omega | (simp only [lenS, lenT, UInt64.reduceToNat] ; try omega))) only [↓vcL_none, ↓vcB_unOp, ↓ev_tmp, putF_some, setF_s, setF_0, ↓getF_s, ↓getF_0, un_not, Bool.not_true, ↓ov_some, nf_cons, ↓vcL_nil, Md.next_seq]
          (with_reducible refine hk _ _ _ _ ?_); clear hk k
          repeat' first | with_reducible (first | refine Cw.seq ?_ | refine thenK_normal ?_ | refine Ow.nil ?_) | ((with_reducible refine Cw.region (Ow.run rfl fun k hk => ?_)); simp (disch := (first | omega | (simp only [lenS, lenT, UInt64.reduceToNat] ; try omega))) only []; (with_reducible refine hk _ _ _ _ ?_); clear hk k) | with_reducible (first | refine Cw.block ?_ | refine Cw.skip ?_ | refine Cw.exit ?_ | refine Cw.ret ?_ | refine thenK_exit ?_ | refine thenK_ret ?_ | refine blockK_normal ?_ | refine blockK_ret ?_ | refine blockK_exit ?_ | refine blockK_pass rfl ?_) | ((with_reducible refine Cw.condC ?_); first | refine CwC.pt rfl (by omega) ?_ | refine CwC.pf rfl (by omega) ?_ | refine CwC.it rfl (by omega) ?_ | refine CwC.if rfl (by omega) ?_ | refine CwC.nt rfl (by omega) ?_ | refine CwC.nf rfl (by omega) ?_ | refine CwC.tt rfl ?_ | refine CwC.ff rfl ?_ | refine CwC.bt rfl (by assumption) ?_ | (refine CwC.bf rfl ?_ ?_; focus assumption))
          refine Cw.regionO [0, 1, 2, 3, 4, 5] [3] rfl (by kernel_rfl) (by kernel_rfl) ?_
          simp only [nl_cons, ↓pickL_nil, ↓pickL_cons, ↓nthO_0, ↓nthO_s, consO_some]
          refine Ow.runQ fun k hk => ?_
          simp (disch := (first | omega | (simp only [lenS, lenT, UInt64.reduceToNat] ; try omega))) only [↓vcL_none, ↓vcB_load, rd_qui_load, ↓ib_true, Tryd.ag25, ↓ev_tmp, ↓getF_s, ↓getF_0, loadAt_p, read_other, read_same, load_bk, ↓ov_some, putF_some, setF_s, setF_0, nf_cons, Md.next_qui, List.contains_cons, Nat.reduceBEq, List.contains_nil, Bool.or_false, Bool.false_eq_true, ↓reduceIte, Tryd.ag42, load_ref, ↓vcB_call, lit_i64]
          (with_reducible refine hk _ _ _ _ ?_); clear hk k
          refine Ow.callFV rfl Tryd.call58 (fun w' hw' => (entryRecord_spec r w' (GlobC.of hG hw' (New.not (L := (bx, Obj.cells #[vt, vl] 25 (0, 0)) :: (bi, Obj.cells (a8 id.l) 40 (0, 0)) :: (br, Obj.cells #[Value.slice none 0 0, Value.slice none 0 0] 25 (0, 0)) :: (b9, Obj.cells (refC r).toArray 42 (0, 0)) :: (b10, Obj.cells #[v1, v3] 25 (0, 0)) :: (b7, Obj.cells (refC r).toArray 42 (0, 0)) :: (D1 ++ D3)) ⟨hwx, hwi, hwr, hw9, hw10, hn7, hnD⟩ hglt)) hrn).quiet) ?_
          have hst := store_bk (.slice none 0 0) (.slice none 0 0) v1 v3 25 hg1.cell.1 hbuf.cell.1
          refine Ow.store rfl rfl rfl (by simp (disch := (first | omega | (simp only [lenS, lenT, UInt64.reduceToNat] ; try omega))) only [Tryd.ag25, ↓ev_tmp, putF_some, setF_s, setF_0, ↓getF_s, ↓getF_0, storeAt_p, look_other, look_same, hst, upd_some, setB_other, setB_same]; rfl) ?_
          refine Ow.runQ fun k hk => ?_
          simp (disch := (first | omega | (simp only [lenS, lenT, UInt64.reduceToNat] ; try omega))) only [↓vcL_none, ↓vcB_assign, ↓ov_some, putF_some, setF_s, setF_0, putF_none, ↓ev_tmp, ↓getF_s, ↓getF_0, nf_cons, ↓ev_const, ↓vcL_nil, Md.next_any]
          (with_reducible refine hk _ _ _ _ ?_); clear hk k
          with_reducible refine Ow.nil ?_
          repeat' first | with_reducible (first | refine Cw.seq ?_ | refine thenK_normal ?_ | refine Ow.nil ?_) | ((with_reducible refine Cw.region (Ow.run rfl fun k hk => ?_)); simp (disch := (first | omega | (simp only [lenS, lenT, UInt64.reduceToNat] ; try omega))) only []; (with_reducible refine hk _ _ _ _ ?_); clear hk k) | with_reducible (first | refine Cw.block ?_ | refine Cw.skip ?_ | refine Cw.exit ?_ | refine Cw.ret ?_ | refine thenK_exit ?_ | refine thenK_ret ?_ | refine blockK_normal ?_ | refine blockK_ret ?_ | refine blockK_exit ?_ | refine blockK_pass rfl ?_) | ((with_reducible refine Cw.condC ?_); first | refine CwC.pt rfl (by omega) ?_ | refine CwC.pf rfl (by omega) ?_ | refine CwC.it rfl (by omega) ?_ | refine CwC.if rfl (by omega) ?_ | refine CwC.nt rfl (by omega) ?_ | refine CwC.nf rfl (by omega) ?_ | refine CwC.tt rfl ?_ | refine CwC.ff rfl ?_ | refine CwC.bt rfl (by assumption) ?_ | (refine CwC.bf rfl ?_ ?_; focus assumption))
          refine ⟨_, (by simp (disch := (first | omega | (simp only [lenS, lenT, UInt64.reduceToNat] ; try omega))) only [resVs_cons, resV_cell, Tryd.ag25, ↓getF_s, ↓getF_0, loadAt_p, read_other, read_same, load_bk, resV_tmp, resVs_nil, cons2_some]; rfl), ?_⟩
          refine ⟨Ext.of_new ⟨hwx, hwi, hwr, hw9, hw10, hn7, hnD⟩, ?_⟩
          have hfin := AddS.ok (n := w.heap.size) (D := (bx, Obj.cells #[vt, vl] 25 (0, 0)) :: (bi, Obj.cells (a8 id.l) 40 (0, 0)) :: (br, Obj.cells #[v1, v3] 25 (0, 0)) :: (b9, Obj.cells (refC r).toArray 42 (0, 0)) :: (b10, Obj.cells #[v1, v3] 25 (0, 0)) :: (b7, Obj.cells (refC r).toArray 42 (0, 0)) :: (D1 ++ D3)) ⟨hr, hn⟩ (by rw [hR]; exact hr2) (hg1.i fun p hp => by simp [hp]) (by rw [hR]; exact hgr3.i fun p hp => by simp [hp])
          rw [hR] at hfin
          exact hfin
end Go.Proofs
open Go Go.Proofs Go.Sx Go.RefP
namespace Go.Proofs
set_option maxRecDepth 10000
set_option maxHeartbeats 4000000
set_option linter.unusedSimpArgs false
theorem rowId (id : IdL) : ∀ k, k < [id].length → ∀ j, j < 32 → (a8 id.l)[0 + k * 32 + j]? = (idLC ([id].getD k id0))[j]? := by
  intro k hk j hj
  obtain rfl : k = 0 := by simpa using hk
  simp only [Nat.zero_mul, Nat.zero_add, List.getD_cons_zero]
  rw [← idLC_a8, List.getElem?_toArray]
/-- A ref's bytes in a table. -/
def refB (r : RefL) : List UInt8 := textL r.name ++ r.id.l
def tabB (t : List RefL) : List UInt8 := (t.map refB).flatten
def headB (t : List RefL) : List UInt8 := [72] ++ numL (clampN t.length) ++ tabB t
def logB (l : List RefL) : List UInt8 := (l.map fun r => recordV (entryB r)).flatten
/-- A book's bytes. -/
def bookB (t l : List RefL) : List UInt8 := recordV (headB t) ++ logB l
/-- Names that are small. -/
def SmallN (l : List RefL) : Prop := ∀ g, g < l.length → (l.getD g ref0).name.length < 1000
theorem SmallN.short {l : List RefL} (h : SmallN l) : ShortN l := fun g hg => Nat.lt_trans (h g hg) (by omega)
theorem refB_len {r : RefL} (h : r.name.length < 1000) : (refB r).length < 1100 := by
  have := numL_clamp_len (r.name.length : Int)
  have := r.id.h
  simp only [refB, textL, List.length_append]; omega
theorem take_suc (t : List RefL) (g : Nat) (h : g < t.length) : t.take (g + 1) = t.take g ++ [t.getD g ref0] := by
  rw [List.take_add_one, List.getElem?_eq_getElem h, List.getD_eq_getElem?_getD, List.getElem?_eq_getElem h]; rfl
theorem tabB_succ (t : List RefL) (g : Nat) (h : g < t.length) : tabB (t.take (g + 1)) = tabB (t.take g) ++ refB (t.getD g ref0) := by
  unfold tabB
  rw [take_suc t g h, List.map_append, List.flatten_append]; simp only [List.map_cons, List.map_nil, List.flatten_cons, List.flatten_nil, List.append_nil]
theorem logB_succ (t : List RefL) (g : Nat) (h : g < t.length) : logB (t.take (g + 1)) = logB (t.take g) ++ recordV (entryB (t.getD g ref0)) := by
  unfold logB
  rw [take_suc t g h, List.map_append, List.flatten_append]; simp only [List.map_cons, List.map_nil, List.flatten_cons, List.flatten_nil, List.append_nil]
theorem tabB_len {t : List RefL} (h : SmallN t) : ∀ g, g ≤ t.length → (tabB (t.take g)).length ≤ g * 1100
  | 0, _ => by simp [tabB]
  | g + 1, hg => by
    rw [tabB_succ t g hg, List.length_append]
    have := tabB_len h g (by omega)
    have := refB_len (h g hg)
    omega
theorem recE_len {r : RefL} (h : r.name.length < 1000) : (recordV (entryB r)).length < 1200 := by
  have h1 := numL_clamp_len (r.name.length : Int)
  have h2 := r.id.h
  have h3 := numL_clamp_len ((sealV (entryB r)).length : Int)
  have h4 := sealV_len (entryB r)
  simp only [recordV, textL, List.length_append] at h3 ⊢
  rw [h4] at h3 ⊢
  simp only [entryB, textL, List.length_append, List.length_cons, List.length_nil] at h3 ⊢
  omega
theorem logB_len {t : List RefL} (h : SmallN t) : ∀ g, g ≤ t.length → (logB (t.take g)).length ≤ g * 1200
  | 0, _ => by simp [logB]
  | g + 1, hg => by
    rw [logB_succ t g hg, List.length_append]
    have := logB_len h g (by omega)
    have := recE_len (h g hg)
    omega
theorem came_out {w0 : World} {L X D : Heap} (hC : Came w0 L X D) {b : Nat} (hb : b ∈ keys L) (hX : b ∉ keys X) : b ∉ keys D := fun hm => by
  rcases hC.new b hm with h | ⟨h, -⟩
  · exact hX h
  · exact Nat.lt_irrefl _ (above_to h hb)
theorem came_new {w0 : World} {L X D : Heap} (hC : Came w0 L X D) (hX : New w0.heap.size X) : New w0.heap.size D := New.of_le fun c hc => by
  rcases hC.new c hc with h | ⟨-, h⟩
  · exact hX.le c h
  · exact h
theorem Bytes_spec (vt vl : Value) (t l : List RefL) (w : World) (hG : GlobC w) (ht : RefSl w vt t) (hl : RefSl w vl l) (htl : t.length < 1000) (hll : l.length < 1000) (hnt : SmallN t) (hnl : SmallN l) :
    Rets Tryd.prog 13 #[.agg #[vt, vl]] w (fun v D => v = (if rightB t l = true then .tuple #[vs (bookB t l), vi 0] else .tuple #[vs [], vi 1]) ∧ D = []) := by
  have hglt : (3 : Nat) < w.heap.size := by obtain ⟨e, f, h⟩ := hG; exact (Array.getElem?_eq_some_iff.1 h).1
  refine Rets.enterV Tryd.func13 rfl (rs := [.tmp 2, .tmp 3]) Tryd.results13 Tryd.ntmps13 ?_
  simp only [List.size_toArray, List.length_cons, List.length_nil, Nat.reduceAdd, Nat.reduceSub, List.replicate_succ, List.replicate_zero, List.cons_append, List.nil_append]
  repeat' first | with_reducible (first | refine Cw.seq ?_ | refine thenK_normal ?_ | refine Ow.nil ?_) | ((with_reducible refine Cw.region (Ow.run rfl fun k hk => ?_)); simp (disch := (first | omega | (simp only [lenS, lenT, UInt64.reduceToNat] ; try omega))) only [↓vcL_none, ↓vcB_box, lit_str, lit_i64]; (with_reducible refine hk _ _ _ _ ?_); clear hk k) | with_reducible (first | refine Cw.block ?_ | refine Cw.skip ?_ | refine Cw.exit ?_ | refine Cw.ret ?_ | refine thenK_exit ?_ | refine thenK_ret ?_ | refine blockK_normal ?_ | refine blockK_ret ?_ | refine blockK_exit ?_ | refine blockK_pass rfl ?_) | ((with_reducible refine Cw.condC ?_); first | refine CwC.pt rfl (by omega) ?_ | refine CwC.pf rfl (by omega) ?_ | refine CwC.it rfl (by omega) ?_ | refine CwC.if rfl (by omega) ?_ | refine CwC.nt rfl (by omega) ?_ | refine CwC.nf rfl (by omega) ?_ | refine CwC.tt rfl ?_ | refine CwC.ff rfl ?_ | refine CwC.bt rfl (by assumption) ?_ | (refine CwC.bf rfl ?_ ?_; focus assumption))
  refine Ow.box rfl rfl fun bx hbx hwx => ?_
  simp only [ev_tmp, getF_0, getF_s, cells_agg, List.nil_append, List.cons_append]
  refine Ow.run rfl fun k hk => ?_
  simp (disch := (first | omega | (simp only [lenS, lenT, UInt64.reduceToNat] ; try omega))) only [↓vcL_none, ↓vcB_assign, ↓ov_some, putF_some, setF_s, setF_0, ↓ev_const, nf_cons, ↓vcL_nil, Md.next_seq]
  (with_reducible refine hk _ _ _ _ ?_); clear hk k
  repeat' first | with_reducible (first | refine Cw.seq ?_ | refine thenK_normal ?_ | refine Ow.nil ?_) | ((with_reducible refine Cw.region (Ow.run rfl fun k hk => ?_)); simp (disch := (first | omega | (simp only [lenS, lenT, UInt64.reduceToNat] ; try omega))) only [↓vcL_none, ↓vcB_load, rd_seq_load, ↓ib_true, Tryd.ag25, ↓ev_tmp, ↓getF_s, ↓getF_0, loadAt_p, read_same, load_bk, ↓ov_some, putF_some, setF_s, setF_0, nf_cons, ↓vcB_call, Md.next_seq]; (with_reducible refine hk _ _ _ _ ?_); clear hk k) | with_reducible (first | refine Cw.block ?_ | refine Cw.skip ?_ | refine Cw.exit ?_ | refine Cw.ret ?_ | refine thenK_exit ?_ | refine thenK_ret ?_ | refine blockK_normal ?_ | refine blockK_ret ?_ | refine blockK_exit ?_ | refine blockK_pass rfl ?_) | ((with_reducible refine Cw.condC ?_); first | refine CwC.pt rfl (by omega) ?_ | refine CwC.pf rfl (by omega) ?_ | refine CwC.it rfl (by omega) ?_ | refine CwC.if rfl (by omega) ?_ | refine CwC.nt rfl (by omega) ?_ | refine CwC.nf rfl (by omega) ?_ | refine CwC.tt rfl ?_ | refine CwC.ff rfl ?_ | refine CwC.bt rfl (by assumption) ?_ | (refine CwC.bf rfl ?_ ?_; focus assumption))
  refine Ow.callFV rfl Tryd.call36 (fun w' hw' => Right_spec vt vl t l w' (ht.oldN hw' ⟨hwx, trivial⟩) (hl.oldN hw' ⟨hwx, trivial⟩) (by omega) (by omega) hnt.short hnl.short) ?_
  cases hr : rightB t l
  · refine Ow.run rfl fun k hk => ?_
    simp (disch := (first | omega | (simp only [lenS, lenT, UInt64.reduceToNat] ; try omega))) only [↓vcL_none, ↓vcB_unOp, ↓ev_tmp, putF_some, setF_s, setF_0, ↓getF_s, ↓getF_0, un_not, Bool.not_false, ↓ov_some, nf_cons, ↓vcL_nil, Md.next_seq]
    (with_reducible refine hk _ _ _ _ ?_); clear hk k
    repeat' first | with_reducible (first | refine Cw.seq ?_ | refine thenK_normal ?_ | refine Ow.nil ?_) | ((with_reducible refine Cw.region (Ow.run rfl fun k hk => ?_)); simp (disch := (first | omega | (simp only [lenS, lenT, UInt64.reduceToNat] ; try omega))) only [↓vcL_none, ↓vcB_assign, ↓ov_some, ↓ev_const, lit_str, putF_some, setF_s, setF_0, nf_cons, lit_i64, ↓vcL_nil, Md.next_seq]; (with_reducible refine hk _ _ _ _ ?_); clear hk k) | with_reducible (first | refine Cw.block ?_ | refine Cw.skip ?_ | refine Cw.exit ?_ | refine Cw.ret ?_ | refine thenK_exit ?_ | refine thenK_ret ?_ | refine blockK_normal ?_ | refine blockK_ret ?_ | refine blockK_exit ?_ | refine blockK_pass rfl ?_) | ((with_reducible refine Cw.condC ?_); first | refine CwC.pt rfl (by omega) ?_ | refine CwC.pf rfl (by omega) ?_ | refine CwC.it rfl (by omega) ?_ | refine CwC.if rfl (by omega) ?_ | refine CwC.nt rfl (by omega) ?_ | refine CwC.nf rfl (by omega) ?_ | refine CwC.tt rfl ?_ | refine CwC.ff rfl ?_ | refine CwC.bt rfl (by assumption) ?_ | (refine CwC.bf rfl ?_ ?_; focus assumption))
    refine ⟨_, (by simp (disch := (first | omega | (simp only [lenS, lenT, UInt64.reduceToNat] ; try omega))) only [resVs_cons, resV_tmp, ↓getF_s, ↓getF_0, resVs_nil, cons2_some]; rfl), ⟨hwx, trivial⟩, ?_⟩
    rfl
  · refine Ow.run rfl fun k hk => ?_
    simp (disch := (first | omega | (simp only [lenS, lenT, UInt64.reduceToNat] ; try omega))) only [↓vcL_none, ↓vcB_unOp, ↓ev_tmp, putF_some, setF_s, setF_0, ↓getF_s, ↓getF_0, un_not, Bool.not_true, ↓ov_some, nf_cons, ↓vcL_nil, Md.next_seq]
    (with_reducible refine hk _ _ _ _ ?_); clear hk k
    repeat' first | with_reducible (first | refine Cw.seq ?_ | refine thenK_normal ?_ | refine Ow.nil ?_) | ((with_reducible refine Cw.region (Ow.run rfl fun k hk => ?_)); simp (disch := (first | omega | (simp only [lenS, lenT, UInt64.reduceToNat] ; try omega))) only [↓vcL_none, ↓vcB_alloc]; (with_reducible refine hk _ _ _ _ ?_); clear hk k) | with_reducible (first | refine Cw.block ?_ | refine Cw.skip ?_ | refine Cw.exit ?_ | refine Cw.ret ?_ | refine thenK_exit ?_ | refine thenK_ret ?_ | refine blockK_normal ?_ | refine blockK_ret ?_ | refine blockK_exit ?_ | refine blockK_pass rfl ?_) | ((with_reducible refine Cw.condC ?_); first | refine CwC.pt rfl (by omega) ?_ | refine CwC.pf rfl (by omega) ?_ | refine CwC.it rfl (by omega) ?_ | refine CwC.if rfl (by omega) ?_ | refine CwC.nt rfl (by omega) ?_ | refine CwC.nf rfl (by omega) ?_ | refine CwC.tt rfl ?_ | refine CwC.ff rfl ?_ | refine CwC.bt rfl (by assumption) ?_ | (refine CwC.bf rfl ?_ ?_; focus assumption))
    refine Ow.alloc rfl rfl Tryd.zr98 fun b4 hb4 hw4 => ?_
    obtain ⟨hx4, -⟩ := hb4
    refine Ow.run rfl fun k hk => ?_
    simp (disch := (first | omega | (simp only [lenS, lenT, UInt64.reduceToNat] ; try omega))) only [↓vcL_nil, putF_some, setF_s, setF_0, cells_agg, List.cons_append, List.nil_append]
    (with_reducible refine hk _ _ _ _ ?_); clear hk k
    with_reducible refine Ow.nil ?_
    with_reducible refine thenK_normal ?_
    refine Cw.permL (M := [(b4, .cells #[.pointer none, .slice none 0 0] 98 (0, 0))] ++ [(bx, .cells #[vt, vl] 25 (0, 0))]) (by classical exact List.perm_iff_count.2 fun a => by simp only [List.count_append, List.count_cons, List.count_nil] <;> omega) ?_
    rw [List.cons_append, List.nil_append]
    have hZ : BldAt b4 [] [(b4, .cells #[.pointer none, .slice none 0 0] 98 (0, 0))] := BldAt.zero b4 (look_same _ _ _)
    repeat' first | with_reducible (first | refine Cw.seq ?_ | refine thenK_normal ?_ | refine Ow.nil ?_) | ((with_reducible refine Cw.region (Ow.run rfl fun k hk => ?_)); simp (disch := (first | omega | (simp only [lenS, lenT, UInt64.reduceToNat] ; try omega))) only [↓vcL_none, ↓vcB_buildSlice, lit_str]; (with_reducible refine hk _ _ _ _ ?_); clear hk k) | with_reducible (first | refine Cw.block ?_ | refine Cw.skip ?_ | refine Cw.exit ?_ | refine Cw.ret ?_ | refine thenK_exit ?_ | refine thenK_ret ?_ | refine blockK_normal ?_ | refine blockK_ret ?_ | refine blockK_exit ?_ | refine blockK_pass rfl ?_) | ((with_reducible refine Cw.condC ?_); first | refine CwC.pt rfl (by omega) ?_ | refine CwC.pf rfl (by omega) ?_ | refine CwC.it rfl (by omega) ?_ | refine CwC.if rfl (by omega) ?_ | refine CwC.nt rfl (by omega) ?_ | refine CwC.nf rfl (by omega) ?_ | refine CwC.tt rfl ?_ | refine CwC.ff rfl ?_ | refine CwC.bt rfl (by assumption) ?_ | (refine CwC.bf rfl ?_ ?_; focus assumption))
    refine Ow.buildSlice (e := 9) #[vs [72]] rfl rfl (by kernel_rfl) fun b5 hb5 hw5 => ?_
    obtain ⟨h45, hx5, -⟩ := hb5
    refine Ow.run rfl fun k hk => ?_
    simp (disch := (first | omega | (simp only [lenS, lenT, UInt64.reduceToNat] ; try omega))) only [↓vcL_none, ↓vcB_call, putF_some, setF_s, setF_0, List.cons_append, List.nil_append]
    (with_reducible refine hk _ _ _ _ ?_); clear hk k
    refine Ow.callX (Y := [(bx, .cells #[vt, vl] 25 (0, 0)), (b5, .cells #[vs [72]] 9 (0, 0))]) (by simp) rfl rfl Tryd.call53 (fun w' hw' hX hn => WRaw_spec b4 [(b4, .cells #[.pointer none, .slice none 0 0] 98 (0, 0))] [] _ b5 0 [[72]] _ _ _ w' hZ hX hn (StrS.lit [[72]] rfl rfl (hw'.has _ _ (List.mem_cons_of_mem _ (List.mem_cons_of_mem _ List.mem_cons_self)))) (fun _ hm => by simp [keys] at hm; omega) (by simp) (by simp)) (fun v6 D6 hC6 hS6 => ?_)
    obtain ⟨rfl, hB6⟩ := hS6
    simp only [List.flatten_cons, List.flatten_nil, List.append_nil, List.nil_append] at hB6
    have hx6 : bx ∉ keys D6 := came_out hC6 (by simp [keys]) (by simp [keys]; omega)
    have hN6 : New w.heap.size D6 := came_new hC6 ⟨hw4, trivial⟩
    have rd6 : readB w (D6 ++ [(bx, .cells #[vt, vl] 25 (0, 0)), (b5, .cells #[vs [72]] 9 (0, 0))]) bx = some (.cells #[vt, vl] 25 (0, 0)) := read_look (by rw [look_app_r hx6]; exact look_same _ _ _)
    refine Ow.run rfl fun k hk => ?_
    simp (disch := (first | omega | (simp only [lenS, lenT, UInt64.reduceToNat] ; try omega))) only [↓vcL_nil, putF_some, setF_s, setF_0]
    (with_reducible refine hk _ _ _ _ ?_); clear hk k
    repeat' first | with_reducible (first | refine Cw.seq ?_ | refine thenK_normal ?_ | refine Ow.nil ?_) | ((with_reducible refine Cw.region (Ow.run rfl fun k hk => ?_)); simp (disch := (first | omega | (simp only [lenS, lenT, UInt64.reduceToNat] ; try omega))) only [↓vcL_none, ↓vcB_fieldAddr, Tryd.fl25_0, ↓ev_tmp, ↓getF_s, ↓getF_0, fieldAddr_p, Nat.add_zero, ↓ov_some, putF_some, setF_s, setF_0, nf_cons, ↓vcB_load, Md.next_seq, rd_seq_load, ↓ib_true, Tryd.ag23, loadAt_p, rd6, load_bk0, ↓vcB_len, Tryd.ix23, ht.len, ↓vcB_buildSlice]; (with_reducible refine hk _ _ _ _ ?_); clear hk k) | with_reducible (first | refine Cw.block ?_ | refine Cw.skip ?_ | refine Cw.exit ?_ | refine Cw.ret ?_ | refine thenK_exit ?_ | refine thenK_ret ?_ | refine blockK_normal ?_ | refine blockK_ret ?_ | refine blockK_exit ?_ | refine blockK_pass rfl ?_) | ((with_reducible refine Cw.condC ?_); first | refine CwC.pt rfl (by omega) ?_ | refine CwC.pf rfl (by omega) ?_ | refine CwC.it rfl (by omega) ?_ | refine CwC.if rfl (by omega) ?_ | refine CwC.nt rfl (by omega) ?_ | refine CwC.nf rfl (by omega) ?_ | refine CwC.tt rfl ?_ | refine CwC.ff rfl ?_ | refine CwC.bt rfl (by assumption) ?_ | (refine CwC.bf rfl ?_ ?_; focus assumption))
    refine Ow.buildSlice (e := 3) #[vi t.length] rfl rfl (by kernel_rfl) fun b7 hb7 hw7 => ?_
    refine Ow.run rfl fun k hk => ?_
    simp (disch := (first | omega | (simp only [lenS, lenT, UInt64.reduceToNat] ; try omega))) only [↓vcL_none, ↓vcB_call, putF_some, setF_s, setF_0]
    (with_reducible refine hk _ _ _ _ ?_); clear hk k
    refine Ow.callX (Y := [(bx, .cells #[vt, vl] 25 (0, 0)), (b5, .cells #[vs [72]] 9 (0, 0)), (b7, .cells #[vi t.length] 3 (0, 0))]) (by simp) rfl rfl Tryd.call54 (fun w' hw' hX hn => WNumber_spec b4 D6 _ _ b7 0 [(t.length : Int)] _ _ _ w' hB6 hX hn (OneS.lit [(t.length : Int)] rfl rfl (hw'.has _ _ (List.mem_append_right _ List.mem_cons_self))) (fun _ hm => Nat.lt_irrefl _ (above_to hb7 (by rw [keys_app]; exact List.mem_append_left _ hm))) (by simp)) (fun v8 D8 hC8 hS8 => ?_)
    obtain ⟨rfl, hB8⟩ := hS8
    rw [numsL_one] at hB8
    have hx7 : bx < b7 := above_to hb7 (by simp [keys_app, keys])
    have hx8 : bx ∉ keys D8 := came_out hC8 (by simp [keys_app, keys]) hx6
    have hN8 : New w.heap.size D8 := came_new hC8 hN6
    have rd8 : readB w (D8 ++ [(bx, .cells #[vt, vl] 25 (0, 0)), (b5, .cells #[vs [72]] 9 (0, 0)), (b7, .cells #[vi t.length] 3 (0, 0))]) bx = some (.cells #[vt, vl] 25 (0, 0)) := read_look (by rw [look_app_r hx8]; exact look_same _ _ _)
    refine Ow.run rfl fun k hk => ?_
    simp (disch := (first | omega | (simp only [lenS, lenT, UInt64.reduceToNat] ; try omega))) only [↓vcL_nil, putF_some, setF_s, setF_0]
    (with_reducible refine hk _ _ _ _ ?_); clear hk k
    repeat' first | with_reducible (first | refine Cw.seq ?_ | refine thenK_normal ?_ | refine Ow.nil ?_) | ((with_reducible refine Cw.region (Ow.run rfl fun k hk => ?_)); simp (disch := (first | omega | (simp only [lenS, lenT, UInt64.reduceToNat] ; try omega))) only [↓vcL_none, ↓vcB_fieldAddr, Tryd.fl25_0, ↓ev_tmp, ↓getF_s, ↓getF_0, fieldAddr_p, Nat.add_zero, ↓ov_some, putF_some, setF_s, setF_0, nf_cons, ↓vcB_load, Md.next_seq, rd_seq_load, ↓ib_true, Tryd.ag23, loadAt_p, rd8, load_bk0, ↓vcB_len, Tryd.ix23, ht.len, ↓vcB_move, ↓ev_const, lit_i64, ↓vcL_nil]; (with_reducible refine hk _ _ _ _ ?_); clear hk k) | with_reducible (first | refine Cw.block ?_ | refine Cw.skip ?_ | refine Cw.exit ?_ | refine Cw.ret ?_ | refine thenK_exit ?_ | refine thenK_ret ?_ | refine blockK_normal ?_ | refine blockK_ret ?_ | refine blockK_exit ?_ | refine blockK_pass rfl ?_) | ((with_reducible refine Cw.condC ?_); first | refine CwC.pt rfl (by omega) ?_ | refine CwC.pf rfl (by omega) ?_ | refine CwC.it rfl (by omega) ?_ | refine CwC.if rfl (by omega) ?_ | refine CwC.nt rfl (by omega) ?_ | refine CwC.nf rfl (by omega) ?_ | refine CwC.tt rfl ?_ | refine CwC.ff rfl ?_ | refine CwC.bt rfl (by assumption) ?_ | (refine CwC.bf rfl ?_ ?_; focus assumption))
    refine Cw.permL (M := (D8 ++ [(b5, .cells #[vs [72]] 9 (0, 0)), (b7, .cells #[vi t.length] 3 (0, 0))]) ++ [(bx, .cells #[vt, vl] 25 (0, 0))]) (by classical exact List.perm_iff_count.2 fun a => by simp only [List.count_append, List.count_cons, List.count_nil] <;> omega) ?_
    obtain ⟨b1, o1, a1, E1, f1, h1⟩ := ht.row
    refine Cw.loopG (G := WG) [24, 25, 26, 6, 27, 28, 29, 30, 31, 32, 33, 34, 35, 23] (fun g => [(23, vi g.g)]) (fun g => g.D ++ [(bx, .cells #[vt, vl] 25 (0, 0))]) (fun g => g.g ≤ t.length ∧ New w.heap.size g.D ∧ bx ∉ keys g.D ∧ BldAt b4 ([72] ++ numL (clampN t.length) ++ tabB (t.take g.g)) g.D) (fun g => t.length - g.g) ⟨0, D8 ++ [(b5, .cells #[vs [72]] 9 (0, 0)), (b7, .cells #[vi t.length] 3 (0, 0))]⟩ rfl rfl ?_ ?_
    · exact ⟨Nat.zero_le _, hN8.app ⟨hw5, hw7, trivial⟩, by intro hm; rw [keys_app] at hm; exact (List.mem_append.1 hm).elim hx8 (fun h => by simp [keys] at h; omega), by simpa [tabB] using BldAt.app hB8⟩
    intro g j hg
    simp only [overFrom, pin, setF_0, setF_s, List.contains_cons, List.contains_nil, Nat.reduceBEq, Bool.or_false, Bool.false_or, Bool.or_true, Bool.true_or, Nat.reduceAdd, ↓reduceIte, Bool.false_eq_true]
    obtain ⟨g, D⟩ := g
    simp only at hg ⊢
    obtain ⟨hgL, hN, hxD, hBD⟩ := hg
    by_cases hlt : g < t.length
    · have hb1 := h1.has (by omega)
      have hb1l := h1.lt (by omega)
      have ld1 := h1.load refC_len (by omega) hlt
      have hNL : New w.heap.size (D ++ [(bx, .cells #[vt, vl] 25 (0, 0))]) := hN.app ⟨hwx, trivial⟩
      have rd1 : readB w (D ++ [(bx, .cells #[vt, vl] 25 (0, 0))]) b1 = some (.cells a1 E1 f1) := by rw [read_none (hNL.not hb1l)]; exact hb1
      have hnm := hnt g hlt
      have hsu := tabB_succ t g hlt
      have htl := tabB_len hnt g hgL
      generalize hrr : t.getD g ref0 = r at *
      repeat' first | with_reducible (first | refine Cw.seq ?_ | refine thenK_normal ?_ | refine Ow.nil ?_) | ((with_reducible refine Cw.region (Ow.run rfl fun k hk => ?_)); simp (disch := (first | omega | (simp only [lenS, lenT, UInt64.reduceToNat] ; try omega))) only [↓vcL_none, ↓vcB_binOp, ↓ev_tmp, ↓getF_s, ↓getF_0, binX_vi_vi, bin_lss_i, ↓ov_some, putF_some, setF_s, setF_0, nf_cons, ↓vcL_nil, Md.next_seq]; (with_reducible refine hk _ _ _ _ ?_); clear hk k) | with_reducible (first | refine Cw.block ?_ | refine Cw.skip ?_ | refine Cw.exit ?_ | refine Cw.ret ?_ | refine thenK_exit ?_ | refine thenK_ret ?_ | refine blockK_normal ?_ | refine blockK_ret ?_ | refine blockK_exit ?_ | refine blockK_pass rfl ?_) | ((with_reducible refine Cw.condC ?_); first | refine CwC.pt rfl (by omega) ?_ | refine CwC.pf rfl (by omega) ?_ | refine CwC.it rfl (by omega) ?_ | refine CwC.if rfl (by omega) ?_ | refine CwC.nt rfl (by omega) ?_ | refine CwC.nf rfl (by omega) ?_ | refine CwC.tt rfl ?_ | refine CwC.ff rfl ?_ | refine CwC.bt rfl (by assumption) ?_ | (refine CwC.bf rfl ?_ ?_; focus assumption))
      refine Cw.region (Ow.run rfl fun k hk => ?_)
      simp (disch := (first | omega | (simp only [lenS, lenT, UInt64.reduceToNat] ; try omega))) only [↓vcL_none, ↓vcB_indexAddr, Tryd.ix23, ↓ev_tmp, ↓getF_s, ↓getF_0, ixI_vi, h1.idx, ↓ov_some, putF_some, setF_s, setF_0, nf_cons, ↓vcB_load, Md.next_seq, rd_seq_load, ↓ib_true, Tryd.ag42, loadAt_p, rd1, ld1, ↓vcB_alloc]
      (with_reducible refine hk _ _ _ _ ?_); clear hk k
      refine Ow.alloc rfl rfl zrRef fun b6 hb6 hw6 => ?_
      simp only [cells_agg, List.nil_append, List.cons_append]
      have hx6 : bx < b6 := above_to hb6 (by simp [keys_app, keys])
      have lk6 : ∀ o, Sx.look (D ++ [(bx, Obj.cells #[vt, vl] 25 (0, 0))] ++ [(b6, o)]) b6 = some o := fun o => look_new hb6
      have st6 : ∀ o x, setB (D ++ [(bx, Obj.cells #[vt, vl] 25 (0, 0))] ++ [(b6, o)]) b6 x = D ++ [(bx, Obj.cells #[vt, vl] 25 (0, 0))] ++ [(b6, x)] := fun o x => setB_new hb6
      have rr6 : ∀ o, readB w (D ++ [(bx, Obj.cells #[vt, vl] 25 (0, 0))] ++ [(b6, o)]) b6 = some o := fun o => read_look (lk6 o)
      refine Ow.run rfl fun k hk => ?_
      simp (disch := (first | omega | (simp only [lenS, lenT, UInt64.reduceToNat] ; try omega))) only [↓vcL_none, ↓vcB_store, Tryd.ag42, ↓ev_tmp, putF_some, setF_s, setF_0, ↓getF_s, ↓getF_0, storeAt_p, lk6, store_rr, upd_some, st6, oh_some, ↓vcL_nil, Md.next_seq, nh_any]
      (with_reducible refine hk _ _ _ _ ?_); clear hk k
      repeat' first | with_reducible (first | refine Cw.seq ?_ | refine thenK_normal ?_ | refine Ow.nil ?_) | ((with_reducible refine Cw.region (Ow.run rfl fun k hk => ?_)); simp (disch := (first | omega | (simp only [lenS, lenT, UInt64.reduceToNat] ; try omega))) only [↓vcL_none, ↓vcB_fieldAddr, Tryd.fl42_0, ↓ev_tmp, ↓getF_s, ↓getF_0, fieldAddr_p, Nat.add_zero, ↓ov_some, putF_some, setF_s, setF_0, nf_cons, ↓vcB_load, Md.next_seq, rd_seq_load, ↓ib_true, Tryd.ag9, loadAt_p, rr6, load_ref0, ↓vcB_buildSlice]; (with_reducible refine hk _ _ _ _ ?_); clear hk k) | with_reducible (first | refine Cw.block ?_ | refine Cw.skip ?_ | refine Cw.exit ?_ | refine Cw.ret ?_ | refine thenK_exit ?_ | refine thenK_ret ?_ | refine blockK_normal ?_ | refine blockK_ret ?_ | refine blockK_exit ?_ | refine blockK_pass rfl ?_) | ((with_reducible refine Cw.condC ?_); first | refine CwC.pt rfl (by omega) ?_ | refine CwC.pf rfl (by omega) ?_ | refine CwC.it rfl (by omega) ?_ | refine CwC.if rfl (by omega) ?_ | refine CwC.nt rfl (by omega) ?_ | refine CwC.nf rfl (by omega) ?_ | refine CwC.tt rfl ?_ | refine CwC.ff rfl ?_ | refine CwC.bt rfl (by assumption) ?_ | (refine CwC.bf rfl ?_ ?_; focus assumption))
      refine Ow.buildSlice (e := 9) #[vs r.name] rfl rfl (by kernel_rfl) fun b9 hb9 hw9 => ?_
      have hnl := numL_clamp_len (r.name.length : Int)
      have htx : textsL [r.name] = textL r.name := by simp [textsL]
      have htn : (textL r.name).length = (numL (clampN r.name.length)).length + r.name.length := by unfold textL; rw [List.length_append]
      have hnt0 := numL_clamp_len (t.length : Int)
      rw [List.append_assoc, List.append_assoc]
      simp only [List.cons_append, List.nil_append]
      refine Ow.run rfl fun k hk => ?_
      simp (disch := (first | omega | (simp only [lenS, lenT, UInt64.reduceToNat] ; try omega))) only [↓vcL_none, ↓vcB_call, putF_some, setF_s, setF_0]
      (with_reducible refine hk _ _ _ _ ?_); clear hk k
      refine Ow.callX (Y := [(bx, Obj.cells #[vt, vl] 25 (0, 0)), (b6, .cells (refC r).toArray 42 (0, 0)), (b9, .cells #[vs r.name] 9 (0, 0))]) (by simp) rfl rfl Tryd.call55 (fun w' hw' hX hn => WText_spec b4 D _ _ b9 0 [r.name] _ _ _ w' hBD hX hn (StrS.lit [r.name] rfl rfl (hw'.has _ _ (List.mem_append_right _ (List.mem_cons_of_mem _ (List.mem_cons_of_mem _ List.mem_cons_self))))) (fun _ hm => Nat.lt_irrefl _ (above_to hb9 (by simp [keys_app, hm]))) (by rw [htx]; simp only [List.length_append, List.length_cons, List.length_nil]; omega) (by simp)) (fun v10 D10 hC10 hS10 => ?_)
      obtain ⟨rfl, hB10⟩ := hS10
      rw [htx] at hB10
      have hx10 : bx ∉ keys D10 := came_out hC10 (by simp [keys_app, keys]) hxD
      have h610 : b6 ∉ keys D10 := came_out hC10 (by simp [keys_app, keys]) (fun hm => Nat.lt_irrefl _ (above_to hb6 (by simp [keys_app, hm])))
      have hN10 : New w.heap.size D10 := came_new hC10 hN
      have rd10 : readB w (D10 ++ [(bx, Obj.cells #[vt, vl] 25 (0, 0)), (b6, .cells (refC r).toArray 42 (0, 0)), (b9, .cells #[vs r.name] 9 (0, 0))]) b6 = some (.cells (refC r).toArray 42 (0, 0)) := read_look (by rw [look_app_r h610, look_other _ _ _ _ (by omega)]; exact look_same _ _ _)
      refine Ow.run rfl fun k hk => ?_
      simp (disch := (first | omega | (simp only [lenS, lenT, UInt64.reduceToNat] ; try omega))) only [↓vcL_nil, putF_some, setF_s, setF_0]
      (with_reducible refine hk _ _ _ _ ?_); clear hk k
      repeat' first | with_reducible (first | refine Cw.seq ?_ | refine thenK_normal ?_ | refine Ow.nil ?_) | ((with_reducible refine Cw.region (Ow.run rfl fun k hk => ?_)); simp (disch := (first | omega | (simp only [lenS, lenT, UInt64.reduceToNat] ; try omega))) only [↓vcL_none, ↓vcB_fieldAddr, Tryd.fl42_1, ↓ev_tmp, ↓getF_s, ↓getF_0, fieldAddr_p, Nat.zero_add, ↓ov_some, putF_some, setF_s, setF_0, nf_cons, ↓vcB_load, Md.next_seq, rd_seq_load, ↓ib_true, Tryd.ag40, loadAt_p, rd10, load_ref1, ↓vcB_buildSlice]; (with_reducible refine hk _ _ _ _ ?_); clear hk k) | with_reducible (first | refine Cw.block ?_ | refine Cw.skip ?_ | refine Cw.exit ?_ | refine Cw.ret ?_ | refine thenK_exit ?_ | refine thenK_ret ?_ | refine blockK_normal ?_ | refine blockK_ret ?_ | refine blockK_exit ?_ | refine blockK_pass rfl ?_) | ((with_reducible refine Cw.condC ?_); first | refine CwC.pt rfl (by omega) ?_ | refine CwC.pf rfl (by omega) ?_ | refine CwC.it rfl (by omega) ?_ | refine CwC.if rfl (by omega) ?_ | refine CwC.nt rfl (by omega) ?_ | refine CwC.nf rfl (by omega) ?_ | refine CwC.tt rfl ?_ | refine CwC.ff rfl ?_ | refine CwC.bt rfl (by assumption) ?_ | (refine CwC.bf rfl ?_ ?_; focus assumption))
      refine Ow.buildSlice (e := 40) (a8 r.id.l) rfl rfl (slice_id r.id) fun b11 hb11 hw11 => ?_
      have hil := idsL_len [r.id]
      have hil2 := r.id.h
      have hids : idsL [r.id] = r.id.l := by simp [idsL]
      have hx9 : bx < b9 := above_to hb9 (by simp [keys_app, keys])
      have hx11 : bx < b11 := above_to hb11 (by simp [keys_app, keys])
      rw [List.append_assoc]
      simp only [List.cons_append, List.nil_append]
      refine Ow.run rfl fun k hk => ?_
      simp (disch := (first | omega | (simp only [lenS, lenT, UInt64.reduceToNat] ; try omega))) only [↓vcL_none, ↓vcB_call, putF_some, setF_s, setF_0]
      (with_reducible refine hk _ _ _ _ ?_); clear hk k
      refine Ow.callX (Y := [(bx, Obj.cells #[vt, vl] 25 (0, 0)), (b6, .cells (refC r).toArray 42 (0, 0)), (b9, .cells #[vs r.name] 9 (0, 0)), (b11, .cells (a8 r.id.l) 40 (0, 0))]) (by simp) rfl rfl Tryd.call56 (fun w' hw' hX hn => WId_spec b4 D10 _ _ b11 0 [r.id] _ _ _ w' hB10 hX hn (RowS.sl rfl (hw'.has b11 (.cells (a8 r.id.l) 40 (0, 0)) (List.mem_append_right _ (List.mem_cons_of_mem _ (List.mem_cons_of_mem _ (List.mem_cons_of_mem _ List.mem_cons_self))))) (rowId r.id)) (fun _ hm => Nat.lt_irrefl _ (above_to hb11 (by simp [keys_app, hm]))) (by simp only [List.length_append, List.length_cons, List.length_nil]; omega)) (fun v12 D12 hC12 hS12 => ?_)
      obtain ⟨rfl, hB12⟩ := hS12
      rw [hids] at hB12
      have hx12 : bx ∉ keys D12 := came_out hC12 (by simp [keys_app, keys]) hx10
      have hN12 : New w.heap.size D12 := came_new hC12 hN10
      refine Ow.run rfl fun k hk => ?_
      simp (disch := (first | omega | (simp only [lenS, lenT, UInt64.reduceToNat] ; try omega))) only [↓vcL_nil, putF_some, setF_s, setF_0]
      (with_reducible refine hk _ _ _ _ ?_); clear hk k
      with_reducible refine Ow.nil ?_
      with_reducible refine blockK_normal ?_
      with_reducible refine thenK_normal ?_
      refine Cw.permL (M := (D12 ++ [(b6, .cells (refC r).toArray 42 (0, 0)), (b9, .cells #[vs r.name] 9 (0, 0)), (b11, .cells (a8 r.id.l) 40 (0, 0))]) ++ [(bx, .cells #[vt, vl] 25 (0, 0))]) (by classical exact List.perm_iff_count.2 fun a => by simp only [List.count_append, List.count_cons, List.count_nil] <;> omega) ?_
      repeat' first | with_reducible (first | refine Cw.seq ?_ | refine thenK_normal ?_ | refine Ow.nil ?_) | ((with_reducible refine Cw.region (Ow.run rfl fun k hk => ?_)); simp (disch := (first | omega | (simp only [lenS, lenT, UInt64.reduceToNat] ; try omega))) only [↓vcL_none, ↓vcB_binOp, ↓ev_tmp, ↓getF_s, ↓getF_0, ↓ev_const, lit_i64, binX_vi_vi, bin_add_i, ↓ov_some, putF_some, setF_s, setF_0, nf_cons, ↓vcB_move, ↓vcL_nil, Md.next_seq]; (with_reducible refine hk _ _ _ _ ?_); clear hk k) | with_reducible (first | refine Cw.block ?_ | refine Cw.skip ?_ | refine Cw.exit ?_ | refine Cw.ret ?_ | refine thenK_exit ?_ | refine thenK_ret ?_ | refine blockK_normal ?_ | refine blockK_ret ?_ | refine blockK_exit ?_ | refine blockK_pass rfl ?_) | ((with_reducible refine Cw.condC ?_); first | refine CwC.pt rfl (by omega) ?_ | refine CwC.pf rfl (by omega) ?_ | refine CwC.it rfl (by omega) ?_ | refine CwC.if rfl (by omega) ?_ | refine CwC.nt rfl (by omega) ?_ | refine CwC.nf rfl (by omega) ?_ | refine CwC.tt rfl ?_ | refine CwC.ff rfl ?_ | refine CwC.bt rfl (by assumption) ?_ | (refine CwC.bf rfl ?_ ?_; focus assumption))
      refine Again.mk (WG.mk (g + 1) (D12 ++ [(b6, .cells (refC r).toArray 42 (0, 0)), (b9, .cells #[vs r.name] 9 (0, 0)), (b11, .cells (a8 r.id.l) 40 (0, 0))])) (by show t.length - (g + 1) < t.length - g; omega) ⟨by show g + 1 ≤ t.length; omega, hN12.app ⟨hw6, hw9, hw11, trivial⟩, ?_, ?_⟩ rfl rfl
      · intro hm; rw [keys_app] at hm; exact (List.mem_append.1 hm).elim hx12 (fun h => by simp [keys] at h; omega)
      · show BldAt b4 ([72] ++ numL (clampN t.length) ++ tabB (t.take (g + 1))) _
        rw [hsu, refB]
        simp only [List.append_assoc] at hB12 ⊢
        exact BldAt.app hB12
    · obtain rfl : g = t.length := by omega
      have htl := tabB_len hnt t.length (Nat.le_refl _)
      rw [List.take_length] at htl hBD
      have hnt0 := numL_clamp_len (t.length : Int)
      repeat' first | with_reducible (first | refine Cw.seq ?_ | refine thenK_normal ?_ | refine Ow.nil ?_) | ((with_reducible refine Cw.region (Ow.run rfl fun k hk => ?_)); simp (disch := (first | omega | (simp only [lenS, lenT, UInt64.reduceToNat] ; try omega))) only [↓vcL_none, ↓vcB_binOp, ↓ev_tmp, ↓getF_s, ↓getF_0, binX_vi_vi, bin_lss_i, ↓ov_some, putF_some, setF_s, setF_0, nf_cons, ↓vcL_nil, Md.next_seq, ↓vcB_call]; (with_reducible refine hk _ _ _ _ ?_); clear hk k) | with_reducible (first | refine Cw.block ?_ | refine Cw.skip ?_ | refine Cw.exit ?_ | refine Cw.ret ?_ | refine thenK_exit ?_ | refine thenK_ret ?_ | refine blockK_normal ?_ | refine blockK_ret ?_ | refine blockK_exit ?_ | refine blockK_pass rfl ?_) | ((with_reducible refine Cw.condC ?_); first | refine CwC.pt rfl (by omega) ?_ | refine CwC.pf rfl (by omega) ?_ | refine CwC.it rfl (by omega) ?_ | refine CwC.if rfl (by omega) ?_ | refine CwC.nt rfl (by omega) ?_ | refine CwC.nf rfl (by omega) ?_ | refine CwC.tt rfl ?_ | refine CwC.ff rfl ?_ | refine CwC.bt rfl (by assumption) ?_ | (refine CwC.bf rfl ?_ ?_; focus assumption))
      refine Ow.callX (Y := [(bx, Obj.cells #[vt, vl] 25 (0, 0))]) (by simp) rfl rfl Tryd.call57 (fun w' hw' hX hn => record_spec b4 D _ w' (GlobC.of hG hw' (New.not (L := D ++ [(bx, Obj.cells #[vt, vl] 25 (0, 0))]) (hN.app ⟨hwx, trivial⟩) hglt)) (hN.not hglt) hBD hX hn (by simp only [List.length_append, List.length_cons, List.length_nil]; omega)) (fun v13 D13 hC13 hS13 => ?_)
      have hS13' : v13 = vs (recordV (headB t)) := hS13
      subst hS13'
      have hdl : (recordV (headB t)).length < 1200000 := by
        have h3 := numL_clamp_len ((sealV (headB t)).length : Int)
        have h4 := sealV_len (headB t)
        simp only [recordV, textL, List.length_append]
        rw [h4] at h3 ⊢
        simp only [headB, List.length_append, List.length_cons, List.length_nil] at h3 ⊢
        omega
      have hbk : ∀ x, recordV (headB t) ++ x = recordV (headB t) ++ x := fun _ => rfl
      generalize hHd : recordV (headB t) = hd at *
      have hx13 : bx ∉ keys D13 := came_out hC13 (by simp [keys_app, keys]) hxD
      have hN13 : New w.heap.size D13 := came_new hC13 hN
      have rd13 : readB w (D13 ++ [(bx, .cells #[vt, vl] 25 (0, 0))]) bx = some (.cells #[vt, vl] 25 (0, 0)) := read_look (by rw [look_app_r hx13]; exact look_same _ _ _)
      refine Ow.run rfl fun k hk => ?_
      simp (disch := (first | omega | (simp only [lenS, lenT, UInt64.reduceToNat] ; try omega))) only [↓vcL_none, ↓vcB_assign, ↓ov_some, putF_some, setF_s, setF_0, ↓ev_tmp, ↓getF_s, ↓getF_0, nf_cons, ↓vcL_nil, Md.next_seq]
      (with_reducible refine hk _ _ _ _ ?_); clear hk k
      repeat' first | with_reducible (first | refine Cw.seq ?_ | refine thenK_normal ?_ | refine Ow.nil ?_) | ((with_reducible refine Cw.region (Ow.run rfl fun k hk => ?_)); simp (disch := (first | omega | (simp only [lenS, lenT, UInt64.reduceToNat] ; try omega))) only [↓vcL_none, ↓vcB_fieldAddr, Tryd.fl25_1, ↓ev_tmp, ↓getF_s, ↓getF_0, fieldAddr_p, Nat.zero_add, ↓ov_some, putF_some, setF_s, setF_0, nf_cons, ↓vcB_load, Md.next_seq, rd_seq_load, ↓ib_true, Tryd.ag23, loadAt_p, rd13, load_bk1, ↓vcB_len, Tryd.ix23, hl.len, ↓vcB_move, ↓ev_const, lit_i64, ↓vcL_nil]; (with_reducible refine hk _ _ _ _ ?_); clear hk k) | with_reducible (first | refine Cw.block ?_ | refine Cw.skip ?_ | refine Cw.exit ?_ | refine Cw.ret ?_ | refine thenK_exit ?_ | refine thenK_ret ?_ | refine blockK_normal ?_ | refine blockK_ret ?_ | refine blockK_exit ?_ | refine blockK_pass rfl ?_) | ((with_reducible refine Cw.condC ?_); first | refine CwC.pt rfl (by omega) ?_ | refine CwC.pf rfl (by omega) ?_ | refine CwC.it rfl (by omega) ?_ | refine CwC.if rfl (by omega) ?_ | refine CwC.nt rfl (by omega) ?_ | refine CwC.nf rfl (by omega) ?_ | refine CwC.tt rfl ?_ | refine CwC.ff rfl ?_ | refine CwC.bt rfl (by assumption) ?_ | (refine CwC.bf rfl ?_ ?_; focus assumption))
      obtain ⟨b2, o2, a2, E2, f2, h2⟩ := hl.row
      rw [show hd = hd ++ logB (l.take 0) by simp [logB]]
      refine Cw.loopG (G := WG) [41, 42, 43, 9, 44, 45, 46, 47, 7, 48, 40] (fun g => [(40, vi g.g), (7, vs (hd ++ logB (l.take g.g)))]) (fun g => g.D) (fun g => g.g ≤ l.length ∧ New w.heap.size g.D) (fun g => l.length - g.g) ⟨0, D13 ++ [(bx, .cells #[vt, vl] 25 (0, 0))]⟩ rfl rfl ?_ ?_
      · exact ⟨Nat.zero_le _, hN13.app ⟨hwx, trivial⟩⟩
      intro g j hg
      simp only [overFrom, pin, setF_0, setF_s, List.contains_cons, List.contains_nil, Nat.reduceBEq, Bool.or_false, Bool.false_or, Bool.or_true, Bool.true_or, Nat.reduceAdd, ↓reduceIte, Bool.false_eq_true]
      obtain ⟨g, D⟩ := g
      simp only at hg ⊢
      obtain ⟨hgL, hN⟩ := hg
      have hll2 := logB_len hnl g hgL
      by_cases hlt : g < l.length
      · have hb2 := h2.has (by omega)
        have hb2l := h2.lt (by omega)
        have ld2 := h2.load refC_len (by omega) hlt
        have rd2 : readB w D b2 = some (.cells a2 E2 f2) := by rw [read_none (hN.not hb2l)]; exact hb2
        have hnm := hnl g hlt
        have hsu := logB_succ l g hlt
        have hrl := recE_len hnm
        generalize hrr : l.getD g ref0 = r at *
        repeat' first | with_reducible (first | refine Cw.seq ?_ | refine thenK_normal ?_ | refine Ow.nil ?_) | ((with_reducible refine Cw.region (Ow.run rfl fun k hk => ?_)); simp (disch := (first | omega | (simp only [lenS, lenT, UInt64.reduceToNat] ; try omega))) only [↓vcL_none, ↓vcB_binOp, ↓ev_tmp, ↓getF_s, ↓getF_0, binX_vi_vi, bin_lss_i, ↓ov_some, putF_some, setF_s, setF_0, nf_cons, ↓vcL_nil, Md.next_seq]; (with_reducible refine hk _ _ _ _ ?_); clear hk k) | with_reducible (first | refine Cw.block ?_ | refine Cw.skip ?_ | refine Cw.exit ?_ | refine Cw.ret ?_ | refine thenK_exit ?_ | refine thenK_ret ?_ | refine blockK_normal ?_ | refine blockK_ret ?_ | refine blockK_exit ?_ | refine blockK_pass rfl ?_) | ((with_reducible refine Cw.condC ?_); first | refine CwC.pt rfl (by omega) ?_ | refine CwC.pf rfl (by omega) ?_ | refine CwC.it rfl (by omega) ?_ | refine CwC.if rfl (by omega) ?_ | refine CwC.nt rfl (by omega) ?_ | refine CwC.nf rfl (by omega) ?_ | refine CwC.tt rfl ?_ | refine CwC.ff rfl ?_ | refine CwC.bt rfl (by assumption) ?_ | (refine CwC.bf rfl ?_ ?_; focus assumption))
        refine Cw.region (Ow.run rfl fun k hk => ?_)
        simp (disch := (first | omega | (simp only [lenS, lenT, UInt64.reduceToNat] ; try omega))) only [↓vcL_none, ↓vcB_indexAddr, Tryd.ix23, ↓ev_tmp, ↓getF_s, ↓getF_0, ixI_vi, h2.idx, ↓ov_some, putF_some, setF_s, setF_0, nf_cons, ↓vcB_load, Md.next_seq, rd_seq_load, ↓ib_true, Tryd.ag42, loadAt_p, rd2, ld2, ↓vcB_alloc]
        (with_reducible refine hk _ _ _ _ ?_); clear hk k
        refine Ow.alloc rfl rfl zrRef fun b9 hb9 hw9 => ?_
        simp only [cells_agg, List.nil_append, List.cons_append]
        have lk9 : ∀ o, Sx.look (D ++ [(b9, o)]) b9 = some o := fun o => look_new hb9
        have st9 : ∀ o x, setB (D ++ [(b9, o)]) b9 x = D ++ [(b9, x)] := fun o x => setB_new hb9
        have rr9 : ∀ o, readB w (D ++ [(b9, o)]) b9 = some o := fun o => read_look (lk9 o)
        refine Ow.run rfl fun k hk => ?_
        simp (disch := (first | omega | (simp only [lenS, lenT, UInt64.reduceToNat] ; try omega))) only [↓vcL_none, ↓vcB_store, Tryd.ag42, ↓ev_tmp, putF_some, setF_s, setF_0, ↓getF_s, ↓getF_0, storeAt_p, lk9, store_rr, upd_some, st9, oh_some, ↓vcL_nil, Md.next_seq, nh_any]
        (with_reducible refine hk _ _ _ _ ?_); clear hk k
        repeat' first | with_reducible (first | refine Cw.seq ?_ | refine thenK_normal ?_ | refine Ow.nil ?_) | ((with_reducible refine Cw.region (Ow.run rfl fun k hk => ?_)); simp (disch := (first | omega | (simp only [lenS, lenT, UInt64.reduceToNat] ; try omega))) only [↓vcL_none, ↓vcB_move, ↓ov_some, ↓ev_tmp, ↓getF_s, ↓getF_0, putF_some, setF_s, setF_0, nf_cons, ↓vcB_load, Md.next_seq, rd_seq_load, ↓ib_true, Tryd.ag42, loadAt_p, rr9, load_ref, ↓vcB_call]; (with_reducible refine hk _ _ _ _ ?_); clear hk k) | with_reducible (first | refine Cw.block ?_ | refine Cw.skip ?_ | refine Cw.exit ?_ | refine Cw.ret ?_ | refine thenK_exit ?_ | refine thenK_ret ?_ | refine blockK_normal ?_ | refine blockK_ret ?_ | refine blockK_exit ?_ | refine blockK_pass rfl ?_) | ((with_reducible refine Cw.condC ?_); first | refine CwC.pt rfl (by omega) ?_ | refine CwC.pf rfl (by omega) ?_ | refine CwC.it rfl (by omega) ?_ | refine CwC.if rfl (by omega) ?_ | refine CwC.nt rfl (by omega) ?_ | refine CwC.nf rfl (by omega) ?_ | refine CwC.tt rfl ?_ | refine CwC.ff rfl ?_ | refine CwC.bt rfl (by assumption) ?_ | (refine CwC.bf rfl ?_ ?_; focus assumption))
        refine Ow.callFV rfl Tryd.call58 (fun w' hw' => (entryRecord_spec r w' (GlobC.of hG hw' (New.not (L := D ++ [(b9, Obj.cells (refC r).toArray 42 (0, 0))]) (hN.app ⟨hw9, trivial⟩) hglt)) (by omega)).quiet) ?_
        refine Ow.run rfl fun k hk => ?_
        simp (disch := (first | omega | (simp only [lenS, lenT, UInt64.reduceToNat] ; try omega))) only [↓vcL_none, ↓vcB_binOp, ↓ev_tmp, putF_some, setF_s, setF_0, ↓getF_s, ↓getF_0, binX_vs, bin_add_s, ↓ov_some, nf_cons, ↓vcB_assign, ↓vcL_nil, Md.next_seq]
        (with_reducible refine hk _ _ _ _ ?_); clear hk k
        repeat' first | with_reducible (first | refine Cw.seq ?_ | refine thenK_normal ?_ | refine Ow.nil ?_) | ((with_reducible refine Cw.region (Ow.run rfl fun k hk => ?_)); simp (disch := (first | omega | (simp only [lenS, lenT, UInt64.reduceToNat] ; try omega))) only [↓vcL_none, ↓vcB_binOp, ↓ev_tmp, ↓getF_s, ↓getF_0, ↓ev_const, lit_i64, binX_vi_vi, bin_add_i, ↓ov_some, putF_some, setF_s, setF_0, nf_cons, ↓vcB_move, ↓vcL_nil, Md.next_seq]; (with_reducible refine hk _ _ _ _ ?_); clear hk k) | with_reducible (first | refine Cw.block ?_ | refine Cw.skip ?_ | refine Cw.exit ?_ | refine Cw.ret ?_ | refine thenK_exit ?_ | refine thenK_ret ?_ | refine blockK_normal ?_ | refine blockK_ret ?_ | refine blockK_exit ?_ | refine blockK_pass rfl ?_) | ((with_reducible refine Cw.condC ?_); first | refine CwC.pt rfl (by omega) ?_ | refine CwC.pf rfl (by omega) ?_ | refine CwC.it rfl (by omega) ?_ | refine CwC.if rfl (by omega) ?_ | refine CwC.nt rfl (by omega) ?_ | refine CwC.nf rfl (by omega) ?_ | refine CwC.tt rfl ?_ | refine CwC.ff rfl ?_ | refine CwC.bt rfl (by assumption) ?_ | (refine CwC.bf rfl ?_ ?_; focus assumption))
        refine Again.mk (WG.mk (g + 1) (D ++ [(b9, Obj.cells (refC r).toArray 42 (0, 0))])) (by show l.length - (g + 1) < l.length - g; omega) ⟨by show g + 1 ≤ l.length; omega, hN.app ⟨hw9, trivial⟩⟩ rfl ?_
        rw [hsu, ← List.append_assoc]
        rfl
      · obtain rfl : g = l.length := by omega
        repeat' first | with_reducible (first | refine Cw.seq ?_ | refine thenK_normal ?_ | refine Ow.nil ?_) | ((with_reducible refine Cw.region (Ow.run rfl fun k hk => ?_)); simp (disch := (first | omega | (simp only [lenS, lenT, UInt64.reduceToNat] ; try omega))) only [↓vcL_none, ↓vcB_binOp, ↓ev_tmp, ↓getF_s, ↓getF_0, binX_vi_vi, bin_lss_i, ↓ov_some, putF_some, setF_s, setF_0, nf_cons, ↓vcL_nil, Md.next_seq, ↓vcB_move, ↓vcB_assign, ↓ev_const, lit_i64]; (with_reducible refine hk _ _ _ _ ?_); clear hk k) | with_reducible (first | refine Cw.block ?_ | refine Cw.skip ?_ | refine Cw.exit ?_ | refine Cw.ret ?_ | refine thenK_exit ?_ | refine thenK_ret ?_ | refine blockK_normal ?_ | refine blockK_ret ?_ | refine blockK_exit ?_ | refine blockK_pass rfl ?_) | ((with_reducible refine Cw.condC ?_); first | refine CwC.pt rfl (by omega) ?_ | refine CwC.pf rfl (by omega) ?_ | refine CwC.it rfl (by omega) ?_ | refine CwC.if rfl (by omega) ?_ | refine CwC.nt rfl (by omega) ?_ | refine CwC.nf rfl (by omega) ?_ | refine CwC.tt rfl ?_ | refine CwC.ff rfl ?_ | refine CwC.bt rfl (by assumption) ?_ | (refine CwC.bf rfl ?_ ?_; focus assumption))
        refine ⟨_, (by simp (disch := (first | omega | (simp only [lenS, lenT, UInt64.reduceToNat] ; try omega))) only [resVs_cons, resV_tmp, ↓getF_s, ↓getF_0, resVs_nil, cons2_some]; rfl), hN, ?_⟩
        (rw [List.take_length]; simp only [bookB, hHd, ↓reduceIte]; rfl)
end Go.Proofs
