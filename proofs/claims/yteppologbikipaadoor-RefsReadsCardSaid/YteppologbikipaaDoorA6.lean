/-
  Part 6 of the walk: contracts of the functions that the law reaches, and the calculus they stand on.
  No conditions.
-/
import Derived.Test.YteppologbikipaaDoorA5
import Derived.ProofKit
import Derived.OpenShut
import Derived.WideKeyArgs
import Derived.ChangeSame
import Derived.ChangeMaps5
import Derived.Lib.LaidTab
import Derived.SliceStrings
open Go Go.Proofs Go.Sx Go.RefP
namespace Go.Sx
/-- What is appended to a slice of a chunk, be it nothing. -/
theorem Ow.appendB {P : Program} {w0 : World} {f : Fr} {L : Heap} {N : Fr → Heap → Prop} {ops : Array Oper} {rest : List Oper} {md : Md}
    {d : Option Tmp} {ty : TypeId} {ps : String} {af : Array Edge} {g : Option (Nat × Bool)} {ts tx e : TypeId} {m : Bool × Nat} {z : Value} {s x : Operand} {n k : Nat} {cs new : List Value} {dx : TypeDesc} {md' : Md} {X Y : Heap} (sv : Value) (hL : L = X ++ Y) (hsv : ev f s = sv) (he : md.turn = some md')
    (hs : skipped ops f ⟨d, .call ⟨.builtin .append, #[s, x], #[ts, tx]⟩, ty, ps, af, g⟩ = false)
    (hu : P.underlying ts = some (.slice e)) (hm : aggT P e = some m) (hi : bytesOk P e = true) (hz : zeroV P e = some z) (hzs : z.cells.size = m.2) (hux : P.underlying tx = some dx) (hnx : ∀ k, dx ≠ .int k)
    (hB : Buf X e m.2 sv n cs) (hX : ∀ w, Hp w0 L w → AppX P w m.2 (ev f x) k new) (hbig : 2 * (n + k) + 768 ≤ 2 ^ 38)
    (hn : ∀ B v' D, Above L B → w0.heap.size ≤ B → Buf D e m.2 v' (n + k) (cs ++ new) → (∀ c, c ∈ keys X → c ∈ keys D) → (∀ c, c ∈ keys D → c ∈ keys X ∨ B ≤ c) → (∀ c o, slB sv ≠ some c → look X c = some o → look D c = some o) → Ow P w0 ops md' rest (putF f d v') (D ++ Y) N) :
    Ow P w0 ops md (⟨d, .call ⟨.builtin .append, #[s, x], #[ts, tx]⟩, ty, ps, af, g⟩ :: rest) f L N := by
  subst hL
  refine Ow.step he rfl hs fun w hw => ?_
  have hp := hw.part
  have hA : Above (X ++ Y) w.heap.size := above_of fun b hb => hw.lt hb
  obtain ⟨v', w', D, hr, hD, hb, hg, -⟩ := run_append (w0 := w) (L := X) (ty := ty) (x := ev f x) hp hu hm hi hz hzs hux hnx hB (fun w2 hw2 => hX w2 (by
    refine hw.join hw2 (fun c hc => hc) (fun c hc => .inl hc))) hbig
  refine .inl ⟨v', w', D ++ Y, ?_, hw.join hD hg.keys (fun c hc => (hg.new c hc).imp id And.right), hn w.heap.size v' D hA hw.size hb hg.keys (fun c hc => (hg.new c hc).imp id And.right) hg.look⟩
  simp only [execOp, resolve, Sem.run_bind, Sem.run_pure, Result.andThen_ok, invoke, builtin, List.map_toArray, List.map_cons, List.map_nil, hsv]
  rw [hr]
  rfl
end Go.Sx
namespace Go.Proofs
set_option maxRecDepth 10000
set_option maxHeartbeats 4000000
set_option linter.unusedSimpArgs false
/-- What the document's Read hands back. -/
def RefReadS (s : List UInt8) (v : Value) (D : Heap) : Prop :=
  match bookR s with
  | some (tb, log, at_) => ∃ vt vl, v = .tuple #[.agg #[vt, vl], vi at_, .bool true] ∧ GrI D 42 33 vt tb.length (tb.map refC).flatten ∧ GrI D 42 33 vl log.length (log.map refC).flatten
  | none => v = .tuple #[.agg #[.slice none 0 0, .slice none 0 0], vi 0, .bool false]
theorem RefReadS.no {s : List UInt8} {D : Heap} (h : bookR s = none) : RefReadS s (.tuple #[.agg #[.slice none 0 0, .slice none 0 0], vi 0, .bool false]) D := by unfold RefReadS; rw [h]
theorem cutP_one (u : List UInt8) (p : UInt8) : cutP u [p] = if u.head? = some p then (u.drop 1, true) else (u, false) := by
  unfold cutP
  cases u with
  | nil => simp
  | cons c r => by_cases h : c = p <;> simp [h]
/-- A record, by its bytes. -/
theorem rec_part (s : List UInt8) (a : Nat) (p : UInt8) : (recR s a 0 [p]).1 = (if (partR s a).2.2 = true ∧ (partR s a).1.head? = some p then some ((partR s a).1.drop 1) else none) ∧ ((partR s a).2.2 = true → (recR s a 0 [p]).2.1 = (partR s a).2.1) := by
  unfold recR partR
  generalize textR s a 0 65536 = q
  obtain ⟨t, to, e⟩ := q
  simp only
  generalize unsealV t = u
  obtain ⟨u, ok⟩ := u
  simp only [cutP_one]
  by_cases he : e = 0
  · subst he
    simp only [ne_eq, not_true_eq_false, ↓reduceIte, and_true]
    refine ⟨?_, fun _ => trivial⟩
    by_cases hp : u.head? = some p <;> cases ok <;> simp [hp]
  · simp only [ne_eq, he, not_false_eq_true, ↓reduceIte, and_false]
    exact ⟨by simp, fun h => by cases h⟩
theorem part_le {s : List UInt8} {a : Nat} (ha : a ≤ s.length) : (partR s a).2.1 ≤ s.length := by
  unfold partR
  simp only
  split
  · exact Nat.zero_le _
  · exact (textR_le (e := 0) (most := 65536) ha).2
theorem part_len {s : List UInt8} {a : Nat} (hs : s.length < 1099511627776) : (partR s a).1.length < 1099511627776 := by
  have h1 := textR_len (a := a) (e := 0) (most := 65536) hs
  have h2 := unsealV_len (textR s a 0 65536).1
  unfold partR
  simp only
  split
  · simp
  · simp only; omega
theorem store_refN (r : RefL) (n : List UInt8) (a : Bool) (E : TypeId) : storeV (some (a, 1)) (some (.cells (refC r).toArray E (0, 0))) 0 (vs n) = some (.cells (refC ⟨n, r.id⟩).toArray E (0, 0)) :=
  store_mid [] [vs r.name] [vs n] (r.id.l.map v8) a (vs n) E rfl rfl rfl rfl rfl
theorem store_refI (r : RefL) (i : IdL) (a : Bool) (E : TypeId) : storeV (some (a, 32)) (some (.cells (refC r).toArray E (0, 0))) 1 (.agg (a8 i.l)) = some (.cells (refC ⟨r.name, i⟩).toArray E (0, 0)) := by
  have h := store_mid [vs r.name] (r.id.l.map v8) (i.l.map v8) [] (o := 1) (n := 32) a (.agg (a8 i.l)) E rfl (by simp [r.id.h]) (cells_agg _) (by simp [i.h]) (all_v8 _)
  simpa [refC] using h
theorem build_ref00 : buildV (plcT Tryd.prog 42) (zeroV Tryd.prog 42) [] = some (.agg (refC ref0).toArray) := by
  have h : zeroV Tryd.prog 42 = some (.agg (refC ref0).toArray) := zrRef
  have hp : plcT Tryd.prog 42 = some [(0, 1), (1, 32)] := id (by kernel_rfl)
  rw [hp, h]; rfl
theorem refEndR_spec (b : Nat) (s : List UInt8) (a : Nat) (e : Int) (w : World) (ho : w.heap[b]? = some (.cells #[vs s, vi a, vi e] 90 (0, 0))) :
    Rets Tryd.prog 52 #[vp b 0] w (fun v D => v = vi (endR s a e) ∧ D = []) := refEnd_spec b s a e w ho
theorem book_at {s : List UInt8} {tb log : List RefL} {at_ to g : Nat} (hh : headR s = some (tb, to)) (hl : logsR s tb (101 - g) log at_ = logsR s tb 101 [] to) (hg : g < 101) (hn : nextR s tb log at_ = none) : bookR s = some (tb, log, at_) := by
  unfold bookR
  rw [hh, Option.map_some, ← hl, show 101 - g = (100 - g) + 1 by omega]
  simp only [logsR, hn]
theorem build_bk1 (x : Value) (hx : x.cells = #[x]) : buildV (plcT Tryd.prog 25) (zeroV Tryd.prog 25) [(0, x)] = some (.agg #[x, .slice none 0 0]) := by
  have hp : plcT Tryd.prog 25 = some [(0, 1), (1, 1)] := id (by kernel_rfl)
  rw [hp, zrBk]
  simp [buildV, fillV, hx, putC]
structure DG where
  g : Nat
  log : List RefL
  vl : Value
  at_ : Nat
  D : Heap
theorem refRead_spec (s : List UInt8) (w : World) (hs : s.length < 1000000) :
    Rets Tryd.prog 10 #[vs s] w (XS w [] (RefReadS s)) := by
  have hp0 := rec_part s 0 72
  have hle0 := part_le (s := s) (a := 0) (Nat.zero_le _)
  have hul := part_len (s := s) (a := 0) (by omega)
  refine Rets.enterX Tryd.func10 rfl (rs := [.cell 2 25, .tmp 3, .tmp 4]) Tryd.results10 Tryd.ntmps10 (fun p hp => by cases hp) (by simp [keys]) ?_
  simp only [List.size_toArray, List.length_cons, List.length_nil, Nat.reduceAdd, Nat.reduceSub, List.replicate_succ, List.replicate_zero, List.cons_append, List.nil_append]
  repeat' first | with_reducible (first | refine Cw.seq ?_ | refine thenK_normal ?_ | refine Ow.nil ?_) | ((with_reducible refine Cw.region (Ow.run rfl fun k hk => ?_)); simp (disch := (first | omega | (simp only [lenS, lenT, UInt64.reduceToNat] ; try omega))) only [↓vcL_none, ↓vcB_alloc, lit_i64]; (with_reducible refine hk _ _ _ _ ?_); clear hk k) | with_reducible (first | refine Cw.block ?_ | refine Cw.skip ?_ | refine Cw.exit ?_ | refine Cw.ret ?_ | refine thenK_exit ?_ | refine thenK_ret ?_ | refine blockK_normal ?_ | refine blockK_ret ?_ | refine blockK_exit ?_ | refine blockK_pass rfl ?_) | ((with_reducible refine Cw.condC ?_); first | refine CwC.pt rfl (by omega) ?_ | refine CwC.pf rfl (by omega) ?_ | refine CwC.it rfl (by omega) ?_ | refine CwC.if rfl (by omega) ?_ | refine CwC.nt rfl (by omega) ?_ | refine CwC.nf rfl (by omega) ?_ | refine CwC.tt rfl ?_ | refine CwC.ff rfl ?_ | refine CwC.bt rfl (by assumption) ?_ | (refine CwC.bf rfl ?_ ?_; focus assumption))
  refine Ow.alloc rfl rfl zrBk fun b2 hb2 hw2 => ?_
  simp only [cells_agg, List.nil_append, List.cons_append]
  refine Ow.run rfl fun k hk => ?_
  simp (disch := (first | omega | (simp only [lenS, lenT, UInt64.reduceToNat] ; try omega))) only [↓vcL_none, ↓vcB_assign, ↓ov_some, putF_some, setF_s, setF_0, ↓ev_const, nf_cons, ↓vcL_nil, Md.next_seq]
  (with_reducible refine hk _ _ _ _ ?_); clear hk k
  repeat' first | with_reducible (first | refine Cw.seq ?_ | refine thenK_normal ?_ | refine Ow.nil ?_) | ((with_reducible refine Cw.region (Ow.run rfl fun k hk => ?_)); simp (disch := (first | omega | (simp only [lenS, lenT, UInt64.reduceToNat] ; try omega))) only [↓vcL_none, ↓vcB_move, ↓ov_some, ↓ev_tmp, ↓getF_0, putF_some, setF_s, setF_0, nf_cons, ↓vcB_call, Md.next_seq, lit_i64]; (with_reducible refine hk _ _ _ _ ?_); clear hk k) | with_reducible (first | refine Cw.block ?_ | refine Cw.skip ?_ | refine Cw.exit ?_ | refine Cw.ret ?_ | refine thenK_exit ?_ | refine thenK_ret ?_ | refine blockK_normal ?_ | refine blockK_ret ?_ | refine blockK_exit ?_ | refine blockK_pass rfl ?_) | ((with_reducible refine Cw.condC ?_); first | refine CwC.pt rfl (by omega) ?_ | refine CwC.pf rfl (by omega) ?_ | refine CwC.it rfl (by omega) ?_ | refine CwC.if rfl (by omega) ?_ | refine CwC.nt rfl (by omega) ?_ | refine CwC.nf rfl (by omega) ?_ | refine CwC.tt rfl ?_ | refine CwC.ff rfl ?_ | refine CwC.bt rfl (by assumption) ?_ | (refine CwC.bf rfl ?_ ?_; focus assumption))
  refine Ow.callFV rfl Tryd.call48 (fun w' hw' => part_spec s 0 w' (Nat.zero_le _) (by omega)) ?_
  generalize partR s 0 = q at *
  obtain ⟨u, to, ok⟩ := q
  simp only at hp0 hle0 hul ⊢
  refine Ow.run rfl fun k hk => ?_
  simp (disch := (first | omega | (simp only [lenS, lenT, UInt64.reduceToNat] ; try omega))) only [↓vcL_none, ↓vcB_move, ↓ov_some, putF_some, setF_s, setF_0, ↓ev_tmp, ↓getF_s, ↓getF_0, nf_cons, ↓vcB_extract, extract_t, tup3_0, tup3_1, tup3_2, ↓vcB_assign, ↓vcL_nil, Md.next_seq]
  (with_reducible refine hk _ _ _ _ ?_); clear hk k
  cases ok
  · repeat' first | with_reducible (first | refine Cw.seq ?_ | refine thenK_normal ?_ | refine Ow.nil ?_) | ((with_reducible refine Cw.region (Ow.run rfl fun k hk => ?_)); simp (disch := (first | omega | (simp only [lenS, lenT, UInt64.reduceToNat] ; try omega))) only [↓vcL_none, ↓vcB_move, ↓ov_some, ↓ev_tmp, ↓getF_s, ↓getF_0, putF_some, setF_s, setF_0, nf_cons, ↓vcB_unOp, un_not, Bool.not_false, ↓vcL_some, lit_i64, lit_u8, yieldF_lit, ↓nthO_s, ↓nthO_0, yieldL_some, boolOf_b, some_beq, beq_false, Bool.not_true, ↓ib_false, ↓vcB_pick, ↓ev_const, pick_t, ↓vcL_nil, Md.next_seq, ↓vcB_build]; (with_reducible refine hk _ _ _ _ ?_); clear hk k) | with_reducible (first | refine Cw.block ?_ | refine Cw.skip ?_ | refine Cw.exit ?_ | refine Cw.ret ?_ | refine thenK_exit ?_ | refine thenK_ret ?_ | refine blockK_normal ?_ | refine blockK_ret ?_ | refine blockK_exit ?_ | refine blockK_pass rfl ?_) | ((with_reducible refine Cw.condC ?_); first | refine CwC.pt rfl (by omega) ?_ | refine CwC.pf rfl (by omega) ?_ | refine CwC.it rfl (by omega) ?_ | refine CwC.if rfl (by omega) ?_ | refine CwC.nt rfl (by omega) ?_ | refine CwC.nf rfl (by omega) ?_ | refine CwC.tt rfl ?_ | refine CwC.ff rfl ?_ | refine CwC.bt rfl (by assumption) ?_ | (refine CwC.bf rfl ?_ ?_; focus assumption))
    refine Ow.build (.agg #[.slice none 0 0, .slice none 0 0]) rfl (by kernel_rfl) ?_
    refine Ow.run rfl fun k hk => ?_
    simp (disch := (first | omega | (simp only [lenS, lenT, UInt64.reduceToNat] ; try omega))) only [↓vcL_none, ↓vcB_store, Tryd.ag25, ↓ev_tmp, putF_some, setF_s, setF_0, ↓getF_s, ↓getF_0, storeAt_p, look_same, store_bk0, upd_some, setB_same, oh_some, ↓vcB_assign, ↓ov_some, ↓ev_const, nf_cons, ↓vcL_nil, Md.next_seq, nh_cons]
    (with_reducible refine hk _ _ _ _ ?_); clear hk k
    repeat' first | with_reducible (first | refine Cw.seq ?_ | refine thenK_normal ?_ | refine Ow.nil ?_) | ((with_reducible refine Cw.region (Ow.run rfl fun k hk => ?_)); simp (disch := (first | omega | (simp only [lenS, lenT, UInt64.reduceToNat] ; try omega))) only []; (with_reducible refine hk _ _ _ _ ?_); clear hk k) | with_reducible (first | refine Cw.block ?_ | refine Cw.skip ?_ | refine Cw.exit ?_ | refine Cw.ret ?_ | refine thenK_exit ?_ | refine thenK_ret ?_ | refine blockK_normal ?_ | refine blockK_ret ?_ | refine blockK_exit ?_ | refine blockK_pass rfl ?_) | ((with_reducible refine Cw.condC ?_); first | refine CwC.pt rfl (by omega) ?_ | refine CwC.pf rfl (by omega) ?_ | refine CwC.it rfl (by omega) ?_ | refine CwC.if rfl (by omega) ?_ | refine CwC.nt rfl (by omega) ?_ | refine CwC.nf rfl (by omega) ?_ | refine CwC.tt rfl ?_ | refine CwC.ff rfl ?_ | refine CwC.bt rfl (by assumption) ?_ | (refine CwC.bf rfl ?_ ?_; focus assumption))
    refine ⟨_, (by simp (disch := (first | omega | (simp only [lenS, lenT, UInt64.reduceToNat] ; try omega))) only [resVs_cons, resV_cell, Tryd.ag25, ↓getF_s, ↓getF_0, loadAt_p, read_same, load_bk, resV_tmp, resVs_nil, cons2_some]; rfl), ?_⟩
    exact ⟨Ext.of_new ⟨hw2, trivial⟩, RefReadS.no (head_none (by rw [hp0.1, if_neg (by simp)]))⟩
  · cases u with
    | nil =>
      have hl0 : ((([] : List UInt8).length : Int) == 0) = true := rfl
      repeat' first | with_reducible (first | refine Cw.seq ?_ | refine thenK_normal ?_ | refine Ow.nil ?_) | ((with_reducible refine Cw.region (Ow.run rfl fun k hk => ?_)); simp (disch := (first | omega | (simp only [lenS, lenT, UInt64.reduceToNat] ; try omega))) only [↓vcL_none, ↓vcB_move, ↓ov_some, ↓ev_tmp, ↓getF_s, ↓getF_0, putF_some, setF_s, setF_0, nf_cons, ↓vcB_unOp, un_not, Bool.not_true, ↓vcL_some, lit_i64, lit_u8, yieldF_lit, ↓nthO_s, ↓nthO_0, yieldL_some, boolOf_b, beq_self_eq_true, ↓ib_true, ↓vcB_len, Tryd.ix9, len_str, ↓vcB_binOp, ↓ev_const, binX_vi_vi, bin_eql_i, hl0, ↓vcB_pick, pick_f, some_beq, beq_false, ↓ib_false, pick_t, ↓vcL_nil, Md.next_seq, ↓vcB_build]; (with_reducible refine hk _ _ _ _ ?_); clear hk k) | with_reducible (first | refine Cw.block ?_ | refine Cw.skip ?_ | refine Cw.exit ?_ | refine Cw.ret ?_ | refine thenK_exit ?_ | refine thenK_ret ?_ | refine blockK_normal ?_ | refine blockK_ret ?_ | refine blockK_exit ?_ | refine blockK_pass rfl ?_) | ((with_reducible refine Cw.condC ?_); first | refine CwC.pt rfl (by omega) ?_ | refine CwC.pf rfl (by omega) ?_ | refine CwC.it rfl (by omega) ?_ | refine CwC.if rfl (by omega) ?_ | refine CwC.nt rfl (by omega) ?_ | refine CwC.nf rfl (by omega) ?_ | refine CwC.tt rfl ?_ | refine CwC.ff rfl ?_ | refine CwC.bt rfl (by assumption) ?_ | (refine CwC.bf rfl ?_ ?_; focus assumption))
      refine Ow.build (.agg #[.slice none 0 0, .slice none 0 0]) rfl (by kernel_rfl) ?_
      refine Ow.run rfl fun k hk => ?_
      simp (disch := (first | omega | (simp only [lenS, lenT, UInt64.reduceToNat] ; try omega))) only [↓vcL_none, ↓vcB_store, Tryd.ag25, ↓ev_tmp, putF_some, setF_s, setF_0, ↓getF_s, ↓getF_0, storeAt_p, look_same, store_bk0, upd_some, setB_same, oh_some, ↓vcB_assign, ↓ov_some, ↓ev_const, nf_cons, ↓vcL_nil, Md.next_seq, nh_cons]
      (with_reducible refine hk _ _ _ _ ?_); clear hk k
      repeat' first | with_reducible (first | refine Cw.seq ?_ | refine thenK_normal ?_ | refine Ow.nil ?_) | ((with_reducible refine Cw.region (Ow.run rfl fun k hk => ?_)); simp (disch := (first | omega | (simp only [lenS, lenT, UInt64.reduceToNat] ; try omega))) only []; (with_reducible refine hk _ _ _ _ ?_); clear hk k) | with_reducible (first | refine Cw.block ?_ | refine Cw.skip ?_ | refine Cw.exit ?_ | refine Cw.ret ?_ | refine thenK_exit ?_ | refine thenK_ret ?_ | refine blockK_normal ?_ | refine blockK_ret ?_ | refine blockK_exit ?_ | refine blockK_pass rfl ?_) | ((with_reducible refine Cw.condC ?_); first | refine CwC.pt rfl (by omega) ?_ | refine CwC.pf rfl (by omega) ?_ | refine CwC.it rfl (by omega) ?_ | refine CwC.if rfl (by omega) ?_ | refine CwC.nt rfl (by omega) ?_ | refine CwC.nf rfl (by omega) ?_ | refine CwC.tt rfl ?_ | refine CwC.ff rfl ?_ | refine CwC.bt rfl (by assumption) ?_ | (refine CwC.bf rfl ?_ ?_; focus assumption))
      refine ⟨_, (by simp (disch := (first | omega | (simp only [lenS, lenT, UInt64.reduceToNat] ; try omega))) only [resVs_cons, resV_cell, Tryd.ag25, ↓getF_s, ↓getF_0, loadAt_p, read_same, load_bk, resV_tmp, resVs_nil, cons2_some]; rfl), ?_⟩
      exact ⟨Ext.of_new ⟨hw2, trivial⟩, RefReadS.no (head_none (by rw [hp0.1, if_neg (by simp)]))⟩
    | cons c0 c =>
      have hlz : (((c0 :: c).length : Int) == 0) = false := by simp; omega
      have hix : indexV .str (vs (c0 :: c)) (some 0) = some (v8 c0) := index_str (c0 :: c) 0 ⟨by omega, by simp only [List.length_cons]; omega⟩
      cases h72 : (c0 == 72)
      · have hne : (c0 != 72) = true := by simp [bne, h72]
        repeat' first | with_reducible (first | refine Cw.seq ?_ | refine thenK_normal ?_ | refine Ow.nil ?_) | ((with_reducible refine Cw.region (Ow.run rfl fun k hk => ?_)); simp (disch := (first | omega | (simp only [lenS, lenT, UInt64.reduceToNat] ; try omega))) only [↓vcL_none, ↓vcB_move, ↓ov_some, ↓ev_tmp, ↓getF_s, ↓getF_0, putF_some, setF_s, setF_0, nf_cons, ↓vcB_unOp, un_not, Bool.not_true, ↓vcL_some, lit_i64, lit_u8, yieldF_lit, ↓nthO_s, ↓nthO_0, yieldL_some, boolOf_b, beq_self_eq_true, ↓ib_true, ↓vcB_len, Tryd.ix9, len_str, ↓vcB_binOp, ↓ev_const, binX_vi_vi, bin_eql_i, hlz, ↓vcB_pick, pick_f, ↓vcB_index, ixI_vi, hix, binX_v8_v8, bin_neq_u8, hne, ↓vcL_nil, Md.next_seq, ↓vcB_build]; (with_reducible refine hk _ _ _ _ ?_); clear hk k) | with_reducible (first | refine Cw.block ?_ | refine Cw.skip ?_ | refine Cw.exit ?_ | refine Cw.ret ?_ | refine thenK_exit ?_ | refine thenK_ret ?_ | refine blockK_normal ?_ | refine blockK_ret ?_ | refine blockK_exit ?_ | refine blockK_pass rfl ?_) | ((with_reducible refine Cw.condC ?_); first | refine CwC.pt rfl (by omega) ?_ | refine CwC.pf rfl (by omega) ?_ | refine CwC.it rfl (by omega) ?_ | refine CwC.if rfl (by omega) ?_ | refine CwC.nt rfl (by omega) ?_ | refine CwC.nf rfl (by omega) ?_ | refine CwC.tt rfl ?_ | refine CwC.ff rfl ?_ | refine CwC.bt rfl (by assumption) ?_ | (refine CwC.bf rfl ?_ ?_; focus assumption))
        refine Ow.build (.agg #[.slice none 0 0, .slice none 0 0]) rfl (by kernel_rfl) ?_
        refine Ow.run rfl fun k hk => ?_
        simp (disch := (first | omega | (simp only [lenS, lenT, UInt64.reduceToNat] ; try omega))) only [↓vcL_none, ↓vcB_store, Tryd.ag25, ↓ev_tmp, putF_some, setF_s, setF_0, ↓getF_s, ↓getF_0, storeAt_p, look_same, store_bk0, upd_some, setB_same, oh_some, ↓vcB_assign, ↓ov_some, ↓ev_const, nf_cons, ↓vcL_nil, Md.next_seq, nh_cons]
        (with_reducible refine hk _ _ _ _ ?_); clear hk k
        repeat' first | with_reducible (first | refine Cw.seq ?_ | refine thenK_normal ?_ | refine Ow.nil ?_) | ((with_reducible refine Cw.region (Ow.run rfl fun k hk => ?_)); simp (disch := (first | omega | (simp only [lenS, lenT, UInt64.reduceToNat] ; try omega))) only []; (with_reducible refine hk _ _ _ _ ?_); clear hk k) | with_reducible (first | refine Cw.block ?_ | refine Cw.skip ?_ | refine Cw.exit ?_ | refine Cw.ret ?_ | refine thenK_exit ?_ | refine thenK_ret ?_ | refine blockK_normal ?_ | refine blockK_ret ?_ | refine blockK_exit ?_ | refine blockK_pass rfl ?_) | ((with_reducible refine Cw.condC ?_); first | refine CwC.pt rfl (by omega) ?_ | refine CwC.pf rfl (by omega) ?_ | refine CwC.it rfl (by omega) ?_ | refine CwC.if rfl (by omega) ?_ | refine CwC.nt rfl (by omega) ?_ | refine CwC.nf rfl (by omega) ?_ | refine CwC.tt rfl ?_ | refine CwC.ff rfl ?_ | refine CwC.bt rfl (by assumption) ?_ | (refine CwC.bf rfl ?_ ?_; focus assumption))
        refine ⟨_, (by simp (disch := (first | omega | (simp only [lenS, lenT, UInt64.reduceToNat] ; try omega))) only [resVs_cons, resV_cell, Tryd.ag25, ↓getF_s, ↓getF_0, loadAt_p, read_same, load_bk, resV_tmp, resVs_nil, cons2_some]; rfl), ?_⟩
        have hno : ¬ (true = true ∧ (c0 :: c).head? = some (72 : UInt8)) := fun h => by simp only [List.head?_cons, Option.some.injEq, true_and] at h; rw [h] at h72; simp at h72
        exact ⟨Ext.of_new ⟨hw2, trivial⟩, RefReadS.no (head_none (by rw [hp0.1, if_neg hno]))⟩
      · have hne : (c0 != 72) = false := by simp [bne, h72]
        have hc0 : c0 = 72 := by simpa using h72
        subst hc0
        have hrec : (recR s 0 0 [72]).1 = some c := by rw [hp0.1, if_pos ⟨rfl, rfl⟩]; rfl
        have hto := hp0.2 rfl
        have hhd := head_some hrec
        rw [hto] at hhd
        have hcl : c.length < 1099511627776 := by simp at hul; omega
        repeat' first | with_reducible (first | refine Cw.seq ?_ | refine thenK_normal ?_ | refine Ow.nil ?_) | ((with_reducible refine Cw.region (Ow.run rfl fun k hk => ?_)); simp (disch := (first | omega | (simp only [lenS, lenT, UInt64.reduceToNat] ; try omega))) only [↓vcL_none, ↓vcB_move, ↓ov_some, ↓ev_tmp, ↓getF_s, ↓getF_0, putF_some, setF_s, setF_0, nf_cons, ↓vcB_unOp, un_not, Bool.not_true, ↓vcL_some, lit_i64, lit_u8, yieldF_lit, ↓nthO_s, ↓nthO_0, yieldL_some, boolOf_b, beq_self_eq_true, ↓ib_true, ↓vcB_len, Tryd.ix9, len_str, ↓vcB_binOp, ↓ev_const, binX_vi_vi, bin_eql_i, hlz, ↓vcB_pick, pick_f, ↓vcB_index, ixI_vi, hix, binX_v8_v8, bin_neq_u8, hne, ↓vcL_nil, Md.next_seq, ↓vcB_build]; (with_reducible refine hk _ _ _ _ ?_); clear hk k) | with_reducible (first | refine Cw.block ?_ | refine Cw.skip ?_ | refine Cw.exit ?_ | refine Cw.ret ?_ | refine thenK_exit ?_ | refine thenK_ret ?_ | refine blockK_normal ?_ | refine blockK_ret ?_ | refine blockK_exit ?_ | refine blockK_pass rfl ?_) | ((with_reducible refine Cw.condC ?_); first | refine CwC.pt rfl (by omega) ?_ | refine CwC.pf rfl (by omega) ?_ | refine CwC.it rfl (by omega) ?_ | refine CwC.if rfl (by omega) ?_ | refine CwC.nt rfl (by omega) ?_ | refine CwC.nf rfl (by omega) ?_ | refine CwC.tt rfl ?_ | refine CwC.ff rfl ?_ | refine CwC.bt rfl (by assumption) ?_ | (refine CwC.bf rfl ?_ ?_; focus assumption))
        refine Ow.build (.agg #[vs (72 :: c), vi 1, vi 0]) rfl (build_rd3 (72 :: c) 1) ?_
        refine Ow.run rfl fun k hk => ?_
        simp (disch := (first | omega | (simp only [lenS, lenT, UInt64.reduceToNat] ; try omega))) only [↓vcL_none, ↓vcB_box, Md.next_seq, putF_some, setF_s, setF_0]
        (with_reducible refine hk _ _ _ _ ?_); clear hk k
        refine Ow.box rfl rfl fun b8 hb8 hw8 => ?_
        simp only [ev_tmp, getF_0, getF_s, cells_agg, List.nil_append, List.cons_append]
        refine Ow.run rfl fun k hk => ?_
        simp (disch := (first | omega | (simp only [lenS, lenT, UInt64.reduceToNat] ; try omega))) only [↓vcL_none, ↓vcB_assign, ↓ov_some, putF_some, setF_s, setF_0, ↓ev_tmp, ↓getF_s, ↓getF_0, nf_cons, ↓vcL_nil, Md.next_seq]
        (with_reducible refine hk _ _ _ _ ?_); clear hk k
        obtain ⟨h28, -⟩ := hb8
        repeat' first | with_reducible (first | refine Cw.seq ?_ | refine thenK_normal ?_ | refine Ow.nil ?_) | ((with_reducible refine Cw.region (Ow.run rfl fun k hk => ?_)); simp (disch := (first | omega | (simp only [lenS, lenT, UInt64.reduceToNat] ; try omega))) only [↓vcL_none, ↓vcB_build]; (with_reducible refine hk _ _ _ _ ?_); clear hk k) | with_reducible (first | refine Cw.block ?_ | refine Cw.skip ?_ | refine Cw.exit ?_ | refine Cw.ret ?_ | refine thenK_exit ?_ | refine thenK_ret ?_ | refine blockK_normal ?_ | refine blockK_ret ?_ | refine blockK_exit ?_ | refine blockK_pass rfl ?_) | ((with_reducible refine Cw.condC ?_); first | refine CwC.pt rfl (by omega) ?_ | refine CwC.pf rfl (by omega) ?_ | refine CwC.it rfl (by omega) ?_ | refine CwC.if rfl (by omega) ?_ | refine CwC.nt rfl (by omega) ?_ | refine CwC.nf rfl (by omega) ?_ | refine CwC.tt rfl ?_ | refine CwC.ff rfl ?_ | refine CwC.bt rfl (by assumption) ?_ | (refine CwC.bf rfl ?_ ?_; focus assumption))
        refine Ow.build (.agg #[.slice none 0 0, .slice none 0 0]) rfl (by kernel_rfl) ?_
        refine Ow.run rfl fun k hk => ?_
        simp (disch := (first | omega | (simp only [lenS, lenT, UInt64.reduceToNat] ; try omega))) only [↓vcL_none, ↓vcB_alloc, Md.next_seq, putF_some, setF_s, setF_0]
        (with_reducible refine hk _ _ _ _ ?_); clear hk k
        refine Ow.alloc rfl rfl zrBk fun b9 hb9 hw9 => ?_
        simp only [cells_agg, List.nil_append, List.cons_append]
        obtain ⟨h29, h89, -⟩ := hb9
        refine Ow.run rfl fun k hk => ?_
        simp (disch := (first | omega | (simp only [lenS, lenT, UInt64.reduceToNat] ; try omega))) only [↓vcL_none, ↓vcB_store, Tryd.ag25, ↓ev_tmp, putF_some, setF_s, setF_0, ↓getF_s, ↓getF_0, storeAt_p, look_other, look_same, store_bk0, upd_some, setB_other, setB_same, oh_some, ↓vcL_nil, Md.next_seq, nh_cons]
        (with_reducible refine hk _ _ _ _ ?_); clear hk k
        repeat' first | with_reducible (first | refine Cw.seq ?_ | refine thenK_normal ?_ | refine Ow.nil ?_) | ((with_reducible refine Cw.region (Ow.run rfl fun k hk => ?_)); simp (disch := (first | omega | (simp only [lenS, lenT, UInt64.reduceToNat] ; try omega))) only [↓vcL_none, ↓vcB_move, ↓ov_some, ↓ev_tmp, ↓getF_s, ↓getF_0, putF_some, setF_s, setF_0, nf_cons, ↓vcB_call, Md.next_seq, lit_i64]; (with_reducible refine hk _ _ _ _ ?_); clear hk k) | with_reducible (first | refine Cw.block ?_ | refine Cw.skip ?_ | refine Cw.exit ?_ | refine Cw.ret ?_ | refine thenK_exit ?_ | refine thenK_ret ?_ | refine blockK_normal ?_ | refine blockK_ret ?_ | refine blockK_exit ?_ | refine blockK_pass rfl ?_) | ((with_reducible refine Cw.condC ?_); first | refine CwC.pt rfl (by omega) ?_ | refine CwC.pf rfl (by omega) ?_ | refine CwC.it rfl (by omega) ?_ | refine CwC.if rfl (by omega) ?_ | refine CwC.nt rfl (by omega) ?_ | refine CwC.nf rfl (by omega) ?_ | refine CwC.tt rfl ?_ | refine CwC.ff rfl ?_ | refine CwC.bt rfl (by assumption) ?_ | (refine CwC.bf rfl ?_ ?_; focus assumption))
        have hsh := numR_shift (72 :: c) 0 0 16
        simp only [List.drop_succ_cons, List.drop_zero, Nat.zero_add] at hsh
        have hnm := numR_most (s := c) (a := 0) (e := 0) (most := 16) (by omega)
        have hnle := numR_le (s := c) (a := 0) (e := 0) (most := 16) (Nat.zero_le _)
        refine Ow.callM rfl rfl Tryd.call49 (by simp [keys]) (fun w' hw' => refNumber_spec b8 (72 :: c) 1 0 16 w' (by simp) (by simpa using hul) (hw'.has _ _ (List.mem_cons_of_mem _ List.mem_cons_self))) ?_
        rw [hsh]
        generalize numR c 0 0 16 = nn at *
        obtain ⟨n1, na, ne⟩ := nn
        simp only at hnm hnle hhd ⊢
        obtain ⟨k, rfl⟩ := Int.eq_ofNat_of_zero_le hnm.1
        have hk16 : k ≤ 16 := by omega
        simp (disch := (first | omega | (simp only [lenS, lenT, UInt64.reduceToNat] ; try omega))) only [setB_other, setB_same]
        refine Ow.run rfl fun k hk => ?_
        simp (disch := (first | omega | (simp only [lenS, lenT, UInt64.reduceToNat] ; try omega))) only [↓vcL_none, ↓vcB_assign, ↓ov_some, putF_some, setF_s, setF_0, ↓ev_tmp, ↓getF_s, ↓getF_0, nf_cons, ↓vcL_nil, Md.next_seq]
        (with_reducible refine hk _ _ _ _ ?_); clear hk k
        repeat' first | with_reducible (first | refine Cw.seq ?_ | refine thenK_normal ?_ | refine Ow.nil ?_) | ((with_reducible refine Cw.region (Ow.run rfl fun k hk => ?_)); simp (disch := (first | omega | (simp only [lenS, lenT, UInt64.reduceToNat] ; try omega))) only [↓vcL_none, ↓vcB_assign, ↓ov_some, ↓ev_const, lit_i64, putF_some, setF_s, setF_0, nf_cons, ↓vcL_nil, Md.next_seq]; (with_reducible refine hk _ _ _ _ ?_); clear hk k) | with_reducible (first | refine Cw.block ?_ | refine Cw.skip ?_ | refine Cw.exit ?_ | refine Cw.ret ?_ | refine thenK_exit ?_ | refine thenK_ret ?_ | refine blockK_normal ?_ | refine blockK_ret ?_ | refine blockK_exit ?_ | refine blockK_pass rfl ?_) | ((with_reducible refine Cw.condC ?_); first | refine CwC.pt rfl (by omega) ?_ | refine CwC.pf rfl (by omega) ?_ | refine CwC.it rfl (by omega) ?_ | refine CwC.if rfl (by omega) ?_ | refine CwC.nt rfl (by omega) ?_ | refine CwC.nf rfl (by omega) ?_ | refine CwC.tt rfl ?_ | refine CwC.ff rfl ?_ | refine CwC.bt rfl (by assumption) ?_ | (refine CwC.bf rfl ?_ ?_; focus assumption))
        refine Cw.permL (M := (b8, .cells #[vs (72 :: c), vi (na + 1 : Nat), vi ne] 90 (0, 0)) :: (b9, .cells #[.slice none 0 0, .slice none 0 0] 25 (0, 0)) :: (b2, .cells #[.slice none 0 0, .slice none 0 0] 25 (0, 0)) :: []) (by classical exact List.perm_iff_count.2 fun a => by simp only [List.count_append, List.count_cons, List.count_nil] <;> omega) ?_
        refine Cw.loopG (G := HG) [45, 46, 47, 50, 12, 51, 52, 53, 54, 55, 56, 57, 58, 59, 60, 61, 62, 48, 49, 11] (fun g => [(11, vi g.g)]) (fun g => (b8, .cells #[vs (72 :: c), vi ((refsR c na ne g.g).2.1 + 1 : Nat), vi (refsR c na ne g.g).2.2] 90 (0, 0)) :: (b9, .cells #[g.vt, .slice none 0 0] 25 (0, 0)) :: (b2, .cells #[.slice none 0 0, .slice none 0 0] 25 (0, 0)) :: g.D) (fun g => g.g ≤ k ∧ New (b9 + 1) g.D ∧ Gr g.D 42 33 g.vt g.g ((refsR c na ne g.g).1.map refC).flatten) (fun g => k - g.g) ⟨0, .slice none 0 0, []⟩ rfl rfl ?_ ?_
        · exact ⟨Nat.zero_le _, trivial, Gr.nl⟩
        intro g j hg
        simp only [overFrom, pin, setF_0, setF_s, List.contains_cons, List.contains_nil, Nat.reduceBEq, Bool.or_false, Bool.false_or, Bool.or_true, Bool.true_or, Nat.reduceAdd, ↓reduceIte, Bool.false_eq_true]
        obtain ⟨g, vt, D⟩ := g
        simp only at hg ⊢
        obtain ⟨hgk, hND, hGr⟩ := hg
        have hrle := refsR_le (e := ne) hnle.2 g
        by_cases hlt : g < k
        · have hrs : refsR c na ne (g + 1) = ((refsR c na ne g).1 ++ [(refR c (refsR c na ne g).2.1 (refsR c na ne g).2.2).1], (refR c (refsR c na ne g).2.1 (refsR c na ne g).2.2).2) := rfl
          have ht1 := textR_shift (72 :: c) (refsR c na ne g).2.1 (refsR c na ne g).2.2 32 (by simp)
          have ht2 := textR_le (s := c) (e := (refsR c na ne g).2.2) (most := 32) hrle.2
          have hi1 := idR_shift (72 :: c) (textR c (refsR c na ne g).2.1 (refsR c na ne g).2.2 32).2.1 (textR c (refsR c na ne g).2.1 (refsR c na ne g).2.2 32).2.2 (by simp)
          have hi2 := idR_len (s := c) (e := (textR c (refsR c na ne g).2.1 (refsR c na ne g).2.2 32).2.2) ht2.2
          simp only [List.drop_succ_cons, List.drop_zero] at ht1 hi1
          have hrr : refR c (refsR c na ne g).2.1 (refsR c na ne g).2.2 = (⟨(textR c (refsR c na ne g).2.1 (refsR c na ne g).2.2 32).1, mkId (idR c (textR c (refsR c na ne g).2.1 (refsR c na ne g).2.2 32).2.1 (textR c (refsR c na ne g).2.1 (refsR c na ne g).2.2 32).2.2).1⟩, (idR c (textR c (refsR c na ne g).2.1 (refsR c na ne g).2.2 32).2.1 (textR c (refsR c na ne g).2.1 (refsR c na ne g).2.2 32).2.2).2) := rfl
          repeat' first | with_reducible (first | refine Cw.seq ?_ | refine thenK_normal ?_ | refine Ow.nil ?_) | ((with_reducible refine Cw.region (Ow.run rfl fun k hk => ?_)); simp (disch := (first | omega | (simp only [lenS, lenT, UInt64.reduceToNat] ; try omega))) only [↓vcL_none, ↓vcB_move, ↓ov_some, ↓ev_tmp, ↓getF_s, ↓getF_0, putF_some, setF_s, setF_0, nf_cons, ↓vcB_binOp, binX_vi_vi, bin_lss_i, ↓vcL_nil, Md.next_seq, ↓vcB_build]; (with_reducible refine hk _ _ _ _ ?_); clear hk k) | with_reducible (first | refine Cw.block ?_ | refine Cw.skip ?_ | refine Cw.exit ?_ | refine Cw.ret ?_ | refine thenK_exit ?_ | refine thenK_ret ?_ | refine blockK_normal ?_ | refine blockK_ret ?_ | refine blockK_exit ?_ | refine blockK_pass rfl ?_) | ((with_reducible refine Cw.condC ?_); first | refine CwC.pt rfl (by omega) ?_ | refine CwC.pf rfl (by omega) ?_ | refine CwC.it rfl (by omega) ?_ | refine CwC.if rfl (by omega) ?_ | refine CwC.nt rfl (by omega) ?_ | refine CwC.nf rfl (by omega) ?_ | refine CwC.tt rfl ?_ | refine CwC.ff rfl ?_ | refine CwC.bt rfl (by assumption) ?_ | (refine CwC.bf rfl ?_ ?_; focus assumption))
          refine Ow.build (.agg (refC ref0).toArray) rfl build_ref00 ?_
          refine Ow.run rfl fun k hk => ?_
          simp (disch := (first | omega | (simp only [lenS, lenT, UInt64.reduceToNat] ; try omega))) only [↓vcL_none, ↓vcB_alloc, Md.next_seq, putF_some, setF_s, setF_0]
          (with_reducible refine hk _ _ _ _ ?_); clear hk k
          refine Ow.alloc rfl rfl zrRef fun b12 hb12 hw12 => ?_
          simp only [cells_agg, List.nil_append, List.cons_append]
          have h812 : b8 < b12 := above_to hb12 (by simp [keys])
          have h912 : b9 < b12 := above_to hb12 (by simp [keys])
          have h212 : b2 < b12 := above_to hb12 (by simp [keys])
          refine Ow.permL (M := (b12, Obj.cells (refC ref0).toArray 42 (0, 0)) :: (b8, .cells #[vs (72 :: c), vi ((refsR c na ne g).2.1 + 1 : Nat), vi (refsR c na ne g).2.2] 90 (0, 0)) :: (b9, .cells #[vt, .slice none 0 0] 25 (0, 0)) :: (b2, .cells #[.slice none 0 0, .slice none 0 0] 25 (0, 0)) :: D) (by classical exact List.perm_iff_count.2 fun a => by simp only [List.count_append, List.count_cons, List.count_nil] <;> omega) ?_
          refine Ow.run rfl fun k hk => ?_
          simp (disch := (first | omega | (simp only [lenS, lenT, UInt64.reduceToNat] ; try omega))) only [↓vcL_none, ↓vcB_store, Tryd.ag42, ↓ev_tmp, putF_some, setF_s, setF_0, ↓getF_s, ↓getF_0, storeAt_p, look_same, store_rr, upd_some, setB_same, oh_some, ↓vcL_nil, Md.next_seq, nh_cons]
          (with_reducible refine hk _ _ _ _ ?_); clear hk k
          repeat' first | with_reducible (first | refine Cw.seq ?_ | refine thenK_normal ?_ | refine Ow.nil ?_) | ((with_reducible refine Cw.region (Ow.run rfl fun k hk => ?_)); simp (disch := (first | omega | (simp only [lenS, lenT, UInt64.reduceToNat] ; try omega))) only [↓vcL_none, ↓vcB_move, ↓ov_some, ↓ev_tmp, ↓getF_s, ↓getF_0, putF_some, setF_s, setF_0, nf_cons, ↓vcB_call, Md.next_seq, lit_i64]; (with_reducible refine hk _ _ _ _ ?_); clear hk k) | with_reducible (first | refine Cw.block ?_ | refine Cw.skip ?_ | refine Cw.exit ?_ | refine Cw.ret ?_ | refine thenK_exit ?_ | refine thenK_ret ?_ | refine blockK_normal ?_ | refine blockK_ret ?_ | refine blockK_exit ?_ | refine blockK_pass rfl ?_) | ((with_reducible refine Cw.condC ?_); first | refine CwC.pt rfl (by omega) ?_ | refine CwC.pf rfl (by omega) ?_ | refine CwC.it rfl (by omega) ?_ | refine CwC.if rfl (by omega) ?_ | refine CwC.nt rfl (by omega) ?_ | refine CwC.nf rfl (by omega) ?_ | refine CwC.tt rfl ?_ | refine CwC.ff rfl ?_ | refine CwC.bt rfl (by assumption) ?_ | (refine CwC.bf rfl ?_ ?_; focus assumption))
          refine Ow.callM rfl rfl Tryd.call50 (by simp [keys]) (fun w' hw' => refText_spec b8 (72 :: c) ((refsR c na ne g).2.1 + 1) (refsR c na ne g).2.2 32 w' (by simp only [List.length_cons]; omega) (by simpa using hul) (hw'.has _ _ (List.mem_cons_of_mem _ List.mem_cons_self))) ?_
          rw [ht1]
          generalize textR c (refsR c na ne g).2.1 (refsR c na ne g).2.2 32 = tx at *
          obtain ⟨tt, ta, te⟩ := tx
          simp only at ht2 hi1 hi2 hrr ⊢
          simp (disch := (first | omega | (simp only [lenS, lenT, UInt64.reduceToNat] ; try omega))) only [setB_other, setB_same]
          refine Ow.run rfl fun k hk => ?_
          simp (disch := (first | omega | (simp only [lenS, lenT, UInt64.reduceToNat] ; try omega))) only [↓vcL_none, ↓vcB_fieldAddr, Tryd.fl42_0, ↓ev_tmp, putF_some, setF_s, setF_0, ↓getF_s, ↓getF_0, fieldAddr_p, Nat.add_zero, ↓ov_some, nf_cons, ↓vcB_store, Tryd.ag9, storeAt_p, look_same, store_refN, upd_some, setB_same, oh_some, ↓vcL_nil, Md.next_seq, nh_cons]
          (with_reducible refine hk _ _ _ _ ?_); clear hk k
          repeat' first | with_reducible (first | refine Cw.seq ?_ | refine thenK_normal ?_ | refine Ow.nil ?_) | ((with_reducible refine Cw.region (Ow.run rfl fun k hk => ?_)); simp (disch := (first | omega | (simp only [lenS, lenT, UInt64.reduceToNat] ; try omega))) only [↓vcL_none, ↓vcB_move, ↓ov_some, ↓ev_tmp, ↓getF_s, ↓getF_0, putF_some, setF_s, setF_0, nf_cons, ↓vcB_call, Md.next_seq]; (with_reducible refine hk _ _ _ _ ?_); clear hk k) | with_reducible (first | refine Cw.block ?_ | refine Cw.skip ?_ | refine Cw.exit ?_ | refine Cw.ret ?_ | refine thenK_exit ?_ | refine thenK_ret ?_ | refine blockK_normal ?_ | refine blockK_ret ?_ | refine blockK_exit ?_ | refine blockK_pass rfl ?_) | ((with_reducible refine Cw.condC ?_); first | refine CwC.pt rfl (by omega) ?_ | refine CwC.pf rfl (by omega) ?_ | refine CwC.it rfl (by omega) ?_ | refine CwC.if rfl (by omega) ?_ | refine CwC.nt rfl (by omega) ?_ | refine CwC.nf rfl (by omega) ?_ | refine CwC.tt rfl ?_ | refine CwC.ff rfl ?_ | refine CwC.bt rfl (by assumption) ?_ | (refine CwC.bf rfl ?_ ?_; focus assumption))
          refine Ow.callM rfl rfl Tryd.call51 (by simp [keys]) (fun w' hw' => refId_spec b8 (72 :: c) (ta + 1) te w' (by simp only [List.length_cons]; omega) (by simpa using hul) (hw'.has _ _ (List.mem_cons_of_mem _ List.mem_cons_self))) ?_
          rw [hi1]
          generalize idR c ta te = ix at *
          obtain ⟨il, ia, ie⟩ := ix
          simp only at hi2 hrr ⊢
          obtain ⟨I, hI⟩ : ∃ I, mkId il = I := ⟨_, rfl⟩
          have hil : il = I.l := by rw [← hI, mkId_eq hi2]
          rw [hI] at hrr
          rw [hil]
          rw [hrr] at hrs
          simp (disch := (first | omega | (simp only [lenS, lenT, UInt64.reduceToNat] ; try omega))) only [setB_other, setB_same]
          refine Ow.run rfl fun k hk => ?_
          simp (disch := (first | omega | (simp only [lenS, lenT, UInt64.reduceToNat] ; try omega))) only [↓vcL_none, ↓vcB_fieldAddr, Tryd.fl42_1, ↓ev_tmp, putF_some, setF_s, setF_0, ↓getF_s, ↓getF_0, fieldAddr_p, Nat.zero_add, ↓ov_some, nf_cons, ↓vcB_store, Tryd.ag40, storeAt_p, look_same, store_refI, upd_some, setB_same, oh_some, ↓vcL_nil, Md.next_seq, nh_cons]
          (with_reducible refine hk _ _ _ _ ?_); clear hk k
          repeat' first | with_reducible (first | refine Cw.seq ?_ | refine thenK_normal ?_ | refine Ow.nil ?_) | ((with_reducible refine Cw.region (Ow.run rfl fun k hk => ?_)); simp (disch := (first | omega | (simp only [lenS, lenT, UInt64.reduceToNat] ; try omega))) only [↓vcL_none, ↓vcB_fieldAddr, Tryd.fl25_0, ↓ev_tmp, ↓getF_s, ↓getF_0, fieldAddr_p, Nat.add_zero, ↓ov_some, putF_some, setF_s, setF_0, nf_cons, ↓vcB_load, Md.next_seq, rd_seq_load, ↓ib_true, Tryd.ag23, loadAt_p, read_other, read_same, load_bk0, Tryd.ag42, load_ref, ↓vcB_buildSlice]; (with_reducible refine hk _ _ _ _ ?_); clear hk k) | with_reducible (first | refine Cw.block ?_ | refine Cw.skip ?_ | refine Cw.exit ?_ | refine Cw.ret ?_ | refine thenK_exit ?_ | refine thenK_ret ?_ | refine blockK_normal ?_ | refine blockK_ret ?_ | refine blockK_exit ?_ | refine blockK_pass rfl ?_) | ((with_reducible refine Cw.condC ?_); first | refine CwC.pt rfl (by omega) ?_ | refine CwC.pf rfl (by omega) ?_ | refine CwC.it rfl (by omega) ?_ | refine CwC.if rfl (by omega) ?_ | refine CwC.nt rfl (by omega) ?_ | refine CwC.nf rfl (by omega) ?_ | refine CwC.tt rfl ?_ | refine CwC.ff rfl ?_ | refine CwC.bt rfl (by assumption) ?_ | (refine CwC.bf rfl ?_ ?_; focus assumption))
          refine Ow.buildSlice (e := 42) (refC ⟨tt, I⟩).toArray rfl rfl (sliceRef ⟨tt, I⟩) fun b13 hb13 hw13 => ?_
          have h913 : b9 < b13 := above_to hb13 (by simp [keys])
          refine Ow.permL (M := D ++ ((b12, Obj.cells (refC ⟨tt, I⟩).toArray 42 (0, 0)) :: (b8, .cells #[vs (72 :: c), vi ((ia + 1 : Nat) : Int), vi ie] 90 (0, 0)) :: (b9, .cells #[vt, .slice none 0 0] 25 (0, 0)) :: (b2, .cells #[.slice none 0 0, .slice none 0 0] 25 (0, 0)) :: [(b13, Obj.cells (refC ⟨tt, I⟩).toArray 42 (0, 0))])) (by classical exact List.perm_iff_count.2 fun a => by simp only [List.count_append, List.count_cons, List.count_nil] <;> omega) ?_
          refine Ow.appendX (e := 42) (k := 1) (new := refC ⟨tt, I⟩) (X := D) vt rfl rfl rfl rfl Tryd.underlying23 Tryd.ag42 (by kernel_rfl) zrRef (by rw [cells_ref, List.size_toArray, refC_len]) Tryd.underlying23 (by intro k h; cases h) hGr (fun w' hw' => AppX.one1 (hw'.has b13 (.cells (refC ⟨tt, I⟩).toArray 42 (0, 0)) (by simp)) (refC_len _) (refC_one _)) (by omega) (by omega) (fun B v4 D4 hA4 hB4 hbuf hk1 hk2 hlk => ?_)
          have hB13 : b13 < B := above_to hA4 (by simp [keys_app, keys])
          have hN4 : New (b9 + 1) D4 := New.of_le fun q hq => by
            rcases hk2 q hq with h | h
            · exact hND.le q h
            · omega
          have h94 : b9 ∉ keys D4 := hN4.not (by omega)
          have hlk9 : ∀ M, Sx.look (D4 ++ M) b9 = Sx.look M b9 := fun M => look_app_r h94
          have hsb9 : ∀ M x, setB (D4 ++ M) b9 x = D4 ++ setB M b9 x := fun M x => setB_appr h94
          have hst9 := store_b0 vt (.slice none 0 0) v4 25 hbuf.cell
          refine Ow.run rfl fun k hk => ?_
          simp (disch := (first | omega | (simp only [lenS, lenT, UInt64.reduceToNat] ; try omega))) only [↓vcL_none, ↓vcB_fieldAddr, Tryd.fl25_0, ↓ev_tmp, putF_some, setF_s, setF_0, ↓getF_s, ↓getF_0, fieldAddr_p, Nat.add_zero, ↓ov_some, nf_cons, ↓vcB_store, Tryd.ag23, storeAt_p, hlk9, look_other, look_same, hst9, upd_some, hsb9, setB_other, setB_same, oh_some, ↓vcL_nil, Md.next_seq, nh_any]
          (with_reducible refine hk _ _ _ _ ?_); clear hk k
          with_reducible refine Ow.nil ?_
          with_reducible refine blockK_normal ?_
          with_reducible refine thenK_normal ?_
          refine Cw.permL (M := (b8, .cells #[vs (72 :: c), vi ((ia + 1 : Nat) : Int), vi ie] 90 (0, 0)) :: (b9, .cells #[v4, .slice none 0 0] 25 (0, 0)) :: (b2, .cells #[.slice none 0 0, .slice none 0 0] 25 (0, 0)) :: (D4 ++ [(b12, Obj.cells (refC ⟨tt, I⟩).toArray 42 (0, 0)), (b13, Obj.cells (refC ⟨tt, I⟩).toArray 42 (0, 0))])) (by classical exact List.perm_iff_count.2 fun a => by simp only [List.count_append, List.count_cons, List.count_nil] <;> omega) ?_
          repeat' first | with_reducible (first | refine Cw.seq ?_ | refine thenK_normal ?_ | refine Ow.nil ?_) | ((with_reducible refine Cw.region (Ow.run rfl fun k hk => ?_)); simp (disch := (first | omega | (simp only [lenS, lenT, UInt64.reduceToNat] ; try omega))) only [↓vcL_none, ↓vcB_move, ↓ov_some, ↓ev_tmp, ↓getF_s, ↓getF_0, putF_some, setF_s, setF_0, nf_cons, ↓vcB_binOp, ↓ev_const, lit_i64, binX_vi_vi, bin_add_i, ↓vcB_assign, ↓vcL_nil, Md.next_seq]; (with_reducible refine hk _ _ _ _ ?_); clear hk k) | with_reducible (first | refine Cw.block ?_ | refine Cw.skip ?_ | refine Cw.exit ?_ | refine Cw.ret ?_ | refine thenK_exit ?_ | refine thenK_ret ?_ | refine blockK_normal ?_ | refine blockK_ret ?_ | refine blockK_exit ?_ | refine blockK_pass rfl ?_) | ((with_reducible refine Cw.condC ?_); first | refine CwC.pt rfl (by omega) ?_ | refine CwC.pf rfl (by omega) ?_ | refine CwC.it rfl (by omega) ?_ | refine CwC.if rfl (by omega) ?_ | refine CwC.nt rfl (by omega) ?_ | refine CwC.nf rfl (by omega) ?_ | refine CwC.tt rfl ?_ | refine CwC.ff rfl ?_ | refine CwC.bt rfl (by assumption) ?_ | (refine CwC.bf rfl ?_ ?_; focus assumption))
          refine Again.mk (HG.mk (g + 1) v4 (D4 ++ [(b12, Obj.cells (refC ⟨tt, I⟩).toArray 42 (0, 0)), (b13, Obj.cells (refC ⟨tt, I⟩).toArray 42 (0, 0))])) (by show k - (g + 1) < k - g; omega) ⟨by show g + 1 ≤ k; omega, hN4.app ⟨by omega, by omega, trivial⟩, ?_⟩ ?_ rfl
          · show Gr (D4 ++ [(b12, Obj.cells (refC ⟨tt, I⟩).toArray 42 (0, 0)), (b13, Obj.cells (refC ⟨tt, I⟩).toArray 42 (0, 0))]) 42 33 v4 (g + 1) ((refsR c na ne (g + 1)).1.map refC).flatten
            rw [hrs]
            have e : (((refsR c na ne g).1 ++ [(⟨tt, I⟩ : RefL)]).map refC).flatten = ((refsR c na ne g).1.map refC).flatten ++ refC ⟨tt, I⟩ := by simp
            rw [e]
            exact Gr.app (.inl hbuf)
          · simp only [hrs]
        · obtain rfl : g = k := by omega
          have hshT := refsR_short (a := na) (e := ne) hcl g
          have hlenT := refsR_length c na ne g
          rw [Int.toNat_natCast] at hhd
          have hes := endR_shift (72 :: c) (refsR c na ne g).2.1 (refsR c na ne g).2.2 (by simp)
          simp only [List.drop_succ_cons, List.drop_zero] at hes
          repeat' first | with_reducible (first | refine Cw.seq ?_ | refine thenK_normal ?_ | refine Ow.nil ?_) | ((with_reducible refine Cw.region (Ow.run rfl fun k hk => ?_)); simp (disch := (first | omega | (simp only [lenS, lenT, UInt64.reduceToNat] ; try omega))) only [↓vcL_none, ↓vcB_move, ↓ov_some, ↓ev_tmp, ↓getF_s, ↓getF_0, putF_some, setF_s, setF_0, nf_cons, ↓vcB_binOp, binX_vi_vi, bin_lss_i, ↓vcL_nil, Md.next_seq, ↓vcB_call, lit_i64]; (with_reducible refine hk _ _ _ _ ?_); clear hk k) | with_reducible (first | refine Cw.block ?_ | refine Cw.skip ?_ | refine Cw.exit ?_ | refine Cw.ret ?_ | refine thenK_exit ?_ | refine thenK_ret ?_ | refine blockK_normal ?_ | refine blockK_ret ?_ | refine blockK_exit ?_ | refine blockK_pass rfl ?_) | ((with_reducible refine Cw.condC ?_); first | refine CwC.pt rfl (by omega) ?_ | refine CwC.pf rfl (by omega) ?_ | refine CwC.it rfl (by omega) ?_ | refine CwC.if rfl (by omega) ?_ | refine CwC.nt rfl (by omega) ?_ | refine CwC.nf rfl (by omega) ?_ | refine CwC.tt rfl ?_ | refine CwC.ff rfl ?_ | refine CwC.bt rfl (by assumption) ?_ | (refine CwC.bf rfl ?_ ?_; focus assumption))
          refine Ow.callFV rfl Tryd.call52 (fun w' hw' => refEndR_spec b8 (72 :: c) ((refsR c na ne g).2.1 + 1) (refsR c na ne g).2.2 w' (hw'.has _ _ List.mem_cons_self)) ?_
          rw [hes]
          by_cases he : endR c (refsR c na ne g).2.1 (refsR c na ne g).2.2 = 0
          · have hb : (endR c (refsR c na ne g).2.1 (refsR c na ne g).2.2 != 0) = false := by simp [he]
            refine Ow.run rfl fun k hk => ?_
            simp (disch := (first | omega | (simp only [lenS, lenT, UInt64.reduceToNat] ; try omega))) only [↓vcL_none, ↓vcB_binOp, ↓ev_tmp, putF_some, setF_s, setF_0, ↓getF_s, ↓getF_0, ↓ev_const, binX_vi_vi, bin_neq_i, hb, ↓ov_some, nf_cons, ↓vcB_move, ↓vcL_some, lit_i64, yieldF_lit, ↓nthO_s, ↓nthO_0, yieldL_some, boolOf_b, beq_self_eq_true, ↓ib_true, ↓vcB_load, Md.next_seq, rd_seq_load, Tryd.ag25, loadAt_p, read_other, read_same, load_bk, ↓vcB_call]
            (with_reducible refine hk _ _ _ _ ?_); clear hk k
            repeat' first | with_reducible (first | refine Cw.seq ?_ | refine thenK_normal ?_ | refine Ow.nil ?_) | ((with_reducible refine Cw.region (Ow.run rfl fun k hk => ?_)); simp (disch := (first | omega | (simp only [lenS, lenT, UInt64.reduceToNat] ; try omega))) only []; (with_reducible refine hk _ _ _ _ ?_); clear hk k) | with_reducible (first | refine Cw.block ?_ | refine Cw.skip ?_ | refine Cw.exit ?_ | refine Cw.ret ?_ | refine thenK_exit ?_ | refine thenK_ret ?_ | refine blockK_normal ?_ | refine blockK_ret ?_ | refine blockK_exit ?_ | refine blockK_pass rfl ?_) | ((with_reducible refine Cw.condC ?_); first | refine CwC.pt rfl (by omega) ?_ | refine CwC.pf rfl (by omega) ?_ | refine CwC.it rfl (by omega) ?_ | refine CwC.if rfl (by omega) ?_ | refine CwC.nt rfl (by omega) ?_ | refine CwC.nf rfl (by omega) ?_ | refine CwC.tt rfl ?_ | refine CwC.ff rfl ?_ | refine CwC.bt rfl (by assumption) ?_ | (refine CwC.bf rfl ?_ ?_; focus assumption))
            refine Ow.callFV rfl Tryd.call32 (fun w' hw' => refRight_spec vt (.slice none 0 0) (refsR c na ne g).1 [] w' (hGr.slM (fun b o hm => hw'.has b o (by simp [hm])) hlenT rfl refC_len) (SlV.nil w') (by omega) (by simp) hshT (fun g hg => by simp at hg)) ?_
            cases hr : rightB (refsR c na ne g).1 []
            · refine Ow.run rfl fun k hk => ?_
              simp (disch := (first | omega | (simp only [lenS, lenT, UInt64.reduceToNat] ; try omega))) only [↓vcL_some, lit_i64, putF_some, setF_s, setF_0, yieldF_lit, ↓nthO_s, ↓nthO_0, yieldL_some, ↓getF_s, ↓getF_0, boolOf_b, beq_self_eq_true, ↓ib_true, ↓vcB_unOp, ↓ev_tmp, un_not, Bool.not_false, ↓ov_some, nf_cons, ↓vcL_none, ↓vcB_pick, ↓ev_const, pick_f, ↓vcL_nil, Md.next_seq]
              (with_reducible refine hk _ _ _ _ ?_); clear hk k
              repeat' first | with_reducible (first | refine Cw.seq ?_ | refine thenK_normal ?_ | refine Ow.nil ?_) | ((with_reducible refine Cw.region (Ow.run rfl fun k hk => ?_)); simp (disch := (first | omega | (simp only [lenS, lenT, UInt64.reduceToNat] ; try omega))) only [↓vcL_none, ↓vcB_build, lit_i64]; (with_reducible refine hk _ _ _ _ ?_); clear hk k) | with_reducible (first | refine Cw.block ?_ | refine Cw.skip ?_ | refine Cw.exit ?_ | refine Cw.ret ?_ | refine thenK_exit ?_ | refine thenK_ret ?_ | refine blockK_normal ?_ | refine blockK_ret ?_ | refine blockK_exit ?_ | refine blockK_pass rfl ?_) | ((with_reducible refine Cw.condC ?_); first | refine CwC.pt rfl (by omega) ?_ | refine CwC.pf rfl (by omega) ?_ | refine CwC.it rfl (by omega) ?_ | refine CwC.if rfl (by omega) ?_ | refine CwC.nt rfl (by omega) ?_ | refine CwC.nf rfl (by omega) ?_ | refine CwC.tt rfl ?_ | refine CwC.ff rfl ?_ | refine CwC.bt rfl (by assumption) ?_ | (refine CwC.bf rfl ?_ ?_; focus assumption))
              refine Ow.build (.agg #[.slice none 0 0, .slice none 0 0]) rfl (by kernel_rfl) ?_
              refine Ow.run rfl fun k hk => ?_
              simp (disch := (first | omega | (simp only [lenS, lenT, UInt64.reduceToNat] ; try omega))) only [↓vcL_none, ↓vcB_store, Tryd.ag25, ↓ev_tmp, putF_some, setF_s, setF_0, ↓getF_s, ↓getF_0, storeAt_p, look_other, look_same, store_bk0, upd_some, setB_other, setB_same, oh_some, ↓vcB_assign, ↓ov_some, ↓ev_const, nf_cons, ↓vcL_nil, Md.next_seq, nh_cons]
              (with_reducible refine hk _ _ _ _ ?_); clear hk k
              repeat' first | with_reducible (first | refine Cw.seq ?_ | refine thenK_normal ?_ | refine Ow.nil ?_) | ((with_reducible refine Cw.region (Ow.run rfl fun k hk => ?_)); simp (disch := (first | omega | (simp only [lenS, lenT, UInt64.reduceToNat] ; try omega))) only []; (with_reducible refine hk _ _ _ _ ?_); clear hk k) | with_reducible (first | refine Cw.block ?_ | refine Cw.skip ?_ | refine Cw.exit ?_ | refine Cw.ret ?_ | refine thenK_exit ?_ | refine thenK_ret ?_ | refine blockK_normal ?_ | refine blockK_ret ?_ | refine blockK_exit ?_ | refine blockK_pass rfl ?_) | ((with_reducible refine Cw.condC ?_); first | refine CwC.pt rfl (by omega) ?_ | refine CwC.pf rfl (by omega) ?_ | refine CwC.it rfl (by omega) ?_ | refine CwC.if rfl (by omega) ?_ | refine CwC.nt rfl (by omega) ?_ | refine CwC.nf rfl (by omega) ?_ | refine CwC.tt rfl ?_ | refine CwC.ff rfl ?_ | refine CwC.bt rfl (by assumption) ?_ | (refine CwC.bf rfl ?_ ?_; focus assumption))
              refine ⟨_, (by simp (disch := (first | omega | (simp only [lenS, lenT, UInt64.reduceToNat] ; try omega))) only [resVs_cons, resV_cell, Tryd.ag25, ↓getF_s, ↓getF_0, loadAt_p, read_other, read_same, load_bk, resV_tmp, resVs_nil, cons2_some]; rfl), ?_⟩
              exact ⟨Ext.of_new ⟨hw8, hw9, hw2, hND.mono (by omega)⟩, RefReadS.no (head_no (by rw [hhd, if_neg (by simp [hr])]))⟩
            · rw [if_pos ⟨he, hr⟩] at hhd
              generalize (refsR c na ne g).1 = tb at *
              refine Ow.run rfl fun k hk => ?_
              simp (disch := (first | omega | (simp only [lenS, lenT, UInt64.reduceToNat] ; try omega))) only [↓vcL_some, lit_i64, putF_some, setF_s, setF_0, yieldF_lit, ↓nthO_s, ↓nthO_0, yieldL_some, ↓getF_s, ↓getF_0, boolOf_b, beq_self_eq_true, ↓ib_true, ↓vcB_unOp, ↓ev_tmp, un_not, Bool.not_true, ↓ov_some, nf_cons, ↓vcL_none, ↓vcB_pick, ↓ev_const, pick_f, ↓vcL_nil, Md.next_seq]
              (with_reducible refine hk _ _ _ _ ?_); clear hk k
              repeat' first | with_reducible (first | refine Cw.seq ?_ | refine thenK_normal ?_ | refine Ow.nil ?_) | ((with_reducible refine Cw.region (Ow.run rfl fun k hk => ?_)); simp (disch := (first | omega | (simp only [lenS, lenT, UInt64.reduceToNat] ; try omega))) only [↓vcL_none, ↓vcB_assign, ↓ov_some, ↓ev_const, lit_i64, putF_some, setF_s, setF_0, nf_cons, ↓vcL_nil, Md.next_seq]; (with_reducible refine hk _ _ _ _ ?_); clear hk k) | with_reducible (first | refine Cw.block ?_ | refine Cw.skip ?_ | refine Cw.exit ?_ | refine Cw.ret ?_ | refine thenK_exit ?_ | refine thenK_ret ?_ | refine blockK_normal ?_ | refine blockK_ret ?_ | refine blockK_exit ?_ | refine blockK_pass rfl ?_) | ((with_reducible refine Cw.condC ?_); first | refine CwC.pt rfl (by omega) ?_ | refine CwC.pf rfl (by omega) ?_ | refine CwC.it rfl (by omega) ?_ | refine CwC.if rfl (by omega) ?_ | refine CwC.nt rfl (by omega) ?_ | refine CwC.nf rfl (by omega) ?_ | refine CwC.tt rfl ?_ | refine CwC.ff rfl ?_ | refine CwC.bt rfl (by assumption) ?_ | (refine CwC.bf rfl ?_ ?_; focus assumption))
              refine Cw.permL (M := (b9, .cells #[vt, .slice none 0 0] 25 (0, 0)) :: (b2, .cells #[.slice none 0 0, .slice none 0 0] 25 (0, 0)) :: ((b8, .cells #[vs (72 :: c), vi ((refsR c na ne g).2.1 + 1 : Nat), vi (refsR c na ne g).2.2] 90 (0, 0)) :: D)) (by classical exact List.perm_iff_count.2 fun a => by simp only [List.count_append, List.count_cons, List.count_nil] <;> omega) ?_
              have hGt0 : GrI ((b8, .cells #[vs (72 :: c), vi ((refsR c na ne g).2.1 + 1 : Nat), vi (refsR c na ne g).2.2] 90 (0, 0)) :: D) 42 33 vt tb.length (tb.map refC).flatten := by rw [hlenT]; exact hGr.i fun p hp => by simp [hp]
              have hND0 : New w.heap.size ((b8, .cells #[vs (72 :: c), vi ((refsR c na ne g).2.1 + 1 : Nat), vi (refsR c na ne g).2.2] 90 (0, 0)) :: D) := ⟨hw8, hND.mono (by omega)⟩
              generalize (b8, .cells #[vs (72 :: c), vi ((refsR c na ne g).2.1 + 1 : Nat), vi (refsR c na ne g).2.2] 90 (0, 0)) :: D = D0 at *
              clear hGr hND hes hrle hgk
              rename_i _; clear hlt
              refine Cw.loopG (G := DG) [72, 73, 77, 78, 79, 76, 80, 81, 82, 14, 15, 16, 83, 84, 85, 86, 87, 88, 89, 90, 91, 92, 93, 94, 95, 96, 3, 4, 97, 98, 99, 17, 100, 18, 101, 102, 103, 104, 105, 106, 107, 108, 109, 19, 110, 111, 112, 113, 114, 115, 116, 117, 118, 119, 120, 121, 122, 123, 124, 125, 126, 127, 128, 129, 130, 131, 132, 133, 6, 74, 75, 13] (fun g => [(13, vi g.g), (6, vi g.at_)]) (fun g => (b9, .cells #[vt, g.vl] 25 (0, 0)) :: (b2, .cells #[.slice none 0 0, .slice none 0 0] 25 (0, 0)) :: g.D) (fun g => g.g ≤ 101 ∧ g.log.length = g.g ∧ New w.heap.size g.D ∧ GrI g.D 42 33 vt tb.length (tb.map refC).flatten ∧ GrI g.D 42 33 g.vl g.log.length (g.log.map refC).flatten ∧ ShortN g.log ∧ g.at_ ≤ s.length ∧ (0 < g.g → rightB tb g.log = true) ∧ logsR s tb (101 - g.g) g.log g.at_ = logsR s tb 101 [] to) (fun g => 101 - g.g) ⟨0, [], .slice none 0 0, to, D0⟩ rfl rfl ?_ ?_
              · exact ⟨by simp, rfl, hND0, hGt0, Gr.nl.i (X := []) fun p hp => (by cases hp), fun g hg => (by simp at hg), hle0, fun h => absurd h (Nat.lt_irrefl 0), rfl⟩
              intro g j hg
              simp only [overFrom, pin, setF_0, setF_s, List.contains_cons, List.contains_nil, Nat.reduceBEq, Bool.or_false, Bool.false_or, Bool.or_true, Bool.true_or, Nat.reduceAdd, ↓reduceIte, Bool.false_eq_true]
              obtain ⟨g, log, vl, at_, D⟩ := g
              simp only at hg ⊢
              obtain ⟨hgl, hll, hND, hGt, hGl, hsl, hat, hrt, hlg⟩ := hg
              by_cases hlt : g < 101
              · have hp1 := rec_part s at_ 69
                have hle1 := part_le (s := s) (a := at_) hat
                have hul1 := part_len (s := s) (a := at_) (by omega)
                repeat' first | with_reducible (first | refine Cw.seq ?_ | refine thenK_normal ?_ | refine Ow.nil ?_) | ((with_reducible refine Cw.region (Ow.run rfl fun k hk => ?_)); simp (disch := (first | omega | (simp only [lenS, lenT, UInt64.reduceToNat] ; try omega))) only [↓vcL_none, ↓vcB_move, ↓ov_some, ↓ev_tmp, ↓getF_s, ↓getF_0, putF_some, setF_s, setF_0, nf_cons, ↓vcB_binOp, ↓ev_const, lit_i64, binX_vi_vi, bin_lss_i, ↓vcL_nil, Md.next_seq, ↓vcB_call]; (with_reducible refine hk _ _ _ _ ?_); clear hk k) | with_reducible (first | refine Cw.block ?_ | refine Cw.skip ?_ | refine Cw.exit ?_ | refine Cw.ret ?_ | refine thenK_exit ?_ | refine thenK_ret ?_ | refine blockK_normal ?_ | refine blockK_ret ?_ | refine blockK_exit ?_ | refine blockK_pass rfl ?_) | ((with_reducible refine Cw.condC ?_); first | refine CwC.pt rfl (by omega) ?_ | refine CwC.pf rfl (by omega) ?_ | refine CwC.it rfl (by omega) ?_ | refine CwC.if rfl (by omega) ?_ | refine CwC.nt rfl (by omega) ?_ | refine CwC.nf rfl (by omega) ?_ | refine CwC.tt rfl ?_ | refine CwC.ff rfl ?_ | refine CwC.bt rfl (by assumption) ?_ | (refine CwC.bf rfl ?_ ?_; focus assumption))
                refine Ow.callFV rfl Tryd.call48 (fun w' hw' => part_spec s at_ w' hat (by omega)) ?_
                generalize partR s at_ = q at *
                obtain ⟨u, en, ok⟩ := q
                simp only at hp1 hle1 hul1 ⊢
                refine Ow.run rfl fun k hk => ?_
                simp (disch := (first | omega | (simp only [lenS, lenT, UInt64.reduceToNat] ; try omega))) only [↓vcL_none, ↓vcB_move, ↓ov_some, putF_some, setF_s, setF_0, ↓ev_tmp, ↓getF_s, ↓getF_0, nf_cons, ↓vcB_extract, extract_t, tup3_0, tup3_1, tup3_2, ↓vcB_assign, ↓vcL_nil, Md.next_seq]
                (with_reducible refine hk _ _ _ _ ?_); clear hk k
                cases ok
                · repeat' first | with_reducible (first | refine Cw.seq ?_ | refine thenK_normal ?_ | refine Ow.nil ?_) | ((with_reducible refine Cw.region (Ow.run rfl fun k hk => ?_)); simp (disch := (first | omega | (simp only [lenS, lenT, UInt64.reduceToNat] ; try omega))) only [↓vcL_none, ↓vcB_move, ↓ov_some, ↓ev_tmp, ↓getF_s, ↓getF_0, putF_some, setF_s, setF_0, nf_cons, ↓vcB_unOp, un_not, Bool.not_false, ↓vcL_some, lit_i64, lit_u8, yieldF_lit, ↓nthO_s, ↓nthO_0, yieldL_some, boolOf_b, some_beq, beq_false, Bool.not_true, ↓ib_false, ↓vcB_pick, ↓ev_const, pick_t, ↓vcL_nil, Md.next_seq]; (with_reducible refine hk _ _ _ _ ?_); clear hk k) | with_reducible (first | refine Cw.block ?_ | refine Cw.skip ?_ | refine Cw.exit ?_ | refine Cw.ret ?_ | refine thenK_exit ?_ | refine thenK_ret ?_ | refine blockK_normal ?_ | refine blockK_ret ?_ | refine blockK_exit ?_ | refine blockK_pass rfl ?_) | ((with_reducible refine Cw.condC ?_); first | refine CwC.pt rfl (by omega) ?_ | refine CwC.pf rfl (by omega) ?_ | refine CwC.it rfl (by omega) ?_ | refine CwC.if rfl (by omega) ?_ | refine CwC.nt rfl (by omega) ?_ | refine CwC.nf rfl (by omega) ?_ | refine CwC.tt rfl ?_ | refine CwC.ff rfl ?_ | refine CwC.bt rfl (by assumption) ?_ | (refine CwC.bf rfl ?_ ?_; focus assumption))
                  have hst2 := store_bk (.slice none 0 0) (.slice none 0 0) vt vl 25 (gri_cell hGt).1 (gri_cell hGl).1
                  repeat' first | with_reducible (first | refine Cw.seq ?_ | refine thenK_normal ?_ | refine Ow.nil ?_) | ((with_reducible refine Cw.region (Ow.run rfl fun k hk => ?_)); simp (disch := (first | omega | (simp only [lenS, lenT, UInt64.reduceToNat] ; try omega))) only [↓vcL_none, ↓vcB_load, rd_seq_load, ↓ib_true, Tryd.ag25, ↓ev_tmp, ↓getF_s, ↓getF_0, loadAt_p, read_same, load_bk, ↓ov_some, putF_some, setF_s, setF_0, nf_cons, ↓vcB_move, ↓vcB_store, storeAt_p, look_other, look_same, hst2, upd_some, setB_other, setB_same, oh_some, ↓vcB_assign, ↓ev_const, ↓vcL_nil, Md.next_seq, nh_cons]; (with_reducible refine hk _ _ _ _ ?_); clear hk k) | with_reducible (first | refine Cw.block ?_ | refine Cw.skip ?_ | refine Cw.exit ?_ | refine Cw.ret ?_ | refine thenK_exit ?_ | refine thenK_ret ?_ | refine blockK_normal ?_ | refine blockK_ret ?_ | refine blockK_exit ?_ | refine blockK_pass rfl ?_) | ((with_reducible refine Cw.condC ?_); first | refine CwC.pt rfl (by omega) ?_ | refine CwC.pf rfl (by omega) ?_ | refine CwC.it rfl (by omega) ?_ | refine CwC.if rfl (by omega) ?_ | refine CwC.nt rfl (by omega) ?_ | refine CwC.nf rfl (by omega) ?_ | refine CwC.tt rfl ?_ | refine CwC.ff rfl ?_ | refine CwC.bt rfl (by assumption) ?_ | (refine CwC.bf rfl ?_ ?_; focus assumption))
                  refine ⟨_, (by simp (disch := (first | omega | (simp only [lenS, lenT, UInt64.reduceToNat] ; try omega))) only [resVs_cons, resV_cell, Tryd.ag25, ↓getF_s, ↓getF_0, loadAt_p, read_other, read_same, load_bk, resV_tmp, resVs_nil, cons2_some]; rfl), ?_⟩
                  refine ⟨Ext.of_new (show New _ (_ :: _ :: D) from ⟨hw9, hw2, hND⟩), ?_⟩
                  unfold RefReadS
                  rw [book_at hhd hlg (by omega) (next_none (by rw [hp1.1, if_neg (by simp)]))]
                  exact ⟨vt, vl, rfl, hGt.mono fun p hp => by simp [hp], hGl.mono fun p hp => by simp [hp]⟩
                · cases u with
                  | nil =>
                    have hl0 : ((([] : List UInt8).length : Int) == 0) = true := rfl
                    repeat' first | with_reducible (first | refine Cw.seq ?_ | refine thenK_normal ?_ | refine Ow.nil ?_) | ((with_reducible refine Cw.region (Ow.run rfl fun k hk => ?_)); simp (disch := (first | omega | (simp only [lenS, lenT, UInt64.reduceToNat] ; try omega))) only [↓vcL_none, ↓vcB_move, ↓ov_some, ↓ev_tmp, ↓getF_s, ↓getF_0, putF_some, setF_s, setF_0, nf_cons, ↓vcB_unOp, un_not, Bool.not_true, ↓vcL_some, lit_i64, lit_u8, yieldF_lit, ↓nthO_s, ↓nthO_0, yieldL_some, boolOf_b, beq_self_eq_true, ↓ib_true, ↓vcB_len, Tryd.ix9, len_str, ↓vcB_binOp, ↓ev_const, binX_vi_vi, bin_eql_i, hl0, ↓vcB_pick, pick_f, some_beq, beq_false, ↓ib_false, pick_t, ↓vcL_nil, Md.next_seq]; (with_reducible refine hk _ _ _ _ ?_); clear hk k) | with_reducible (first | refine Cw.block ?_ | refine Cw.skip ?_ | refine Cw.exit ?_ | refine Cw.ret ?_ | refine thenK_exit ?_ | refine thenK_ret ?_ | refine blockK_normal ?_ | refine blockK_ret ?_ | refine blockK_exit ?_ | refine blockK_pass rfl ?_) | ((with_reducible refine Cw.condC ?_); first | refine CwC.pt rfl (by omega) ?_ | refine CwC.pf rfl (by omega) ?_ | refine CwC.it rfl (by omega) ?_ | refine CwC.if rfl (by omega) ?_ | refine CwC.nt rfl (by omega) ?_ | refine CwC.nf rfl (by omega) ?_ | refine CwC.tt rfl ?_ | refine CwC.ff rfl ?_ | refine CwC.bt rfl (by assumption) ?_ | (refine CwC.bf rfl ?_ ?_; focus assumption))
                    have hst2 := store_bk (.slice none 0 0) (.slice none 0 0) vt vl 25 (gri_cell hGt).1 (gri_cell hGl).1
                    repeat' first | with_reducible (first | refine Cw.seq ?_ | refine thenK_normal ?_ | refine Ow.nil ?_) | ((with_reducible refine Cw.region (Ow.run rfl fun k hk => ?_)); simp (disch := (first | omega | (simp only [lenS, lenT, UInt64.reduceToNat] ; try omega))) only [↓vcL_none, ↓vcB_load, rd_seq_load, ↓ib_true, Tryd.ag25, ↓ev_tmp, ↓getF_s, ↓getF_0, loadAt_p, read_same, load_bk, ↓ov_some, putF_some, setF_s, setF_0, nf_cons, ↓vcB_move, ↓vcB_store, storeAt_p, look_other, look_same, hst2, upd_some, setB_other, setB_same, oh_some, ↓vcB_assign, ↓ev_const, ↓vcL_nil, Md.next_seq, nh_cons]; (with_reducible refine hk _ _ _ _ ?_); clear hk k) | with_reducible (first | refine Cw.block ?_ | refine Cw.skip ?_ | refine Cw.exit ?_ | refine Cw.ret ?_ | refine thenK_exit ?_ | refine thenK_ret ?_ | refine blockK_normal ?_ | refine blockK_ret ?_ | refine blockK_exit ?_ | refine blockK_pass rfl ?_) | ((with_reducible refine Cw.condC ?_); first | refine CwC.pt rfl (by omega) ?_ | refine CwC.pf rfl (by omega) ?_ | refine CwC.it rfl (by omega) ?_ | refine CwC.if rfl (by omega) ?_ | refine CwC.nt rfl (by omega) ?_ | refine CwC.nf rfl (by omega) ?_ | refine CwC.tt rfl ?_ | refine CwC.ff rfl ?_ | refine CwC.bt rfl (by assumption) ?_ | (refine CwC.bf rfl ?_ ?_; focus assumption))
                    refine ⟨_, (by simp (disch := (first | omega | (simp only [lenS, lenT, UInt64.reduceToNat] ; try omega))) only [resVs_cons, resV_cell, Tryd.ag25, ↓getF_s, ↓getF_0, loadAt_p, read_other, read_same, load_bk, resV_tmp, resVs_nil, cons2_some]; rfl), ?_⟩
                    refine ⟨Ext.of_new (show New _ (_ :: _ :: D) from ⟨hw9, hw2, hND⟩), ?_⟩
                    unfold RefReadS
                    rw [book_at hhd hlg (by omega) (next_none (by rw [hp1.1, if_neg (by simp)]))]
                    exact ⟨vt, vl, rfl, hGt.mono fun p hp => by simp [hp], hGl.mono fun p hp => by simp [hp]⟩
                  | cons c0 c1 =>
                    have hlz1 : (((c0 :: c1).length : Int) == 0) = false := by simp; omega
                    have hix1 : indexV .str (vs (c0 :: c1)) (some 0) = some (v8 c0) := index_str (c0 :: c1) 0 ⟨by omega, by simp only [List.length_cons]; omega⟩
                    cases h69 : (c0 == 69)
                    · have hne1 : (c0 != 69) = true := by simp [bne, h69]
                      have hno : ¬ (true = true ∧ (c0 :: c1).head? = some (69 : UInt8)) := fun h => by simp only [List.head?_cons, Option.some.injEq, true_and] at h; rw [h] at h69; simp at h69
                      repeat' first | with_reducible (first | refine Cw.seq ?_ | refine thenK_normal ?_ | refine Ow.nil ?_) | ((with_reducible refine Cw.region (Ow.run rfl fun k hk => ?_)); simp (disch := (first | omega | (simp only [lenS, lenT, UInt64.reduceToNat] ; try omega))) only [↓vcL_none, ↓vcB_move, ↓ov_some, ↓ev_tmp, ↓getF_s, ↓getF_0, putF_some, setF_s, setF_0, nf_cons, ↓vcB_unOp, un_not, Bool.not_true, ↓vcL_some, lit_i64, lit_u8, yieldF_lit, ↓nthO_s, ↓nthO_0, yieldL_some, boolOf_b, beq_self_eq_true, ↓ib_true, ↓vcB_len, Tryd.ix9, len_str, ↓vcB_binOp, ↓ev_const, binX_vi_vi, bin_eql_i, hlz1, ↓vcB_pick, pick_f, ↓vcB_index, ixI_vi, hix1, binX_v8_v8, bin_neq_u8, hne1, ↓vcL_nil, Md.next_seq]; (with_reducible refine hk _ _ _ _ ?_); clear hk k) | with_reducible (first | refine Cw.block ?_ | refine Cw.skip ?_ | refine Cw.exit ?_ | refine Cw.ret ?_ | refine thenK_exit ?_ | refine thenK_ret ?_ | refine blockK_normal ?_ | refine blockK_ret ?_ | refine blockK_exit ?_ | refine blockK_pass rfl ?_) | ((with_reducible refine Cw.condC ?_); first | refine CwC.pt rfl (by omega) ?_ | refine CwC.pf rfl (by omega) ?_ | refine CwC.it rfl (by omega) ?_ | refine CwC.if rfl (by omega) ?_ | refine CwC.nt rfl (by omega) ?_ | refine CwC.nf rfl (by omega) ?_ | refine CwC.tt rfl ?_ | refine CwC.ff rfl ?_ | refine CwC.bt rfl (by assumption) ?_ | (refine CwC.bf rfl ?_ ?_; focus assumption))
                      have hst2 := store_bk (.slice none 0 0) (.slice none 0 0) vt vl 25 (gri_cell hGt).1 (gri_cell hGl).1
                      repeat' first | with_reducible (first | refine Cw.seq ?_ | refine thenK_normal ?_ | refine Ow.nil ?_) | ((with_reducible refine Cw.region (Ow.run rfl fun k hk => ?_)); simp (disch := (first | omega | (simp only [lenS, lenT, UInt64.reduceToNat] ; try omega))) only [↓vcL_none, ↓vcB_load, rd_seq_load, ↓ib_true, Tryd.ag25, ↓ev_tmp, ↓getF_s, ↓getF_0, loadAt_p, read_same, load_bk, ↓ov_some, putF_some, setF_s, setF_0, nf_cons, ↓vcB_move, ↓vcB_store, storeAt_p, look_other, look_same, hst2, upd_some, setB_other, setB_same, oh_some, ↓vcB_assign, ↓ev_const, ↓vcL_nil, Md.next_seq, nh_cons]; (with_reducible refine hk _ _ _ _ ?_); clear hk k) | with_reducible (first | refine Cw.block ?_ | refine Cw.skip ?_ | refine Cw.exit ?_ | refine Cw.ret ?_ | refine thenK_exit ?_ | refine thenK_ret ?_ | refine blockK_normal ?_ | refine blockK_ret ?_ | refine blockK_exit ?_ | refine blockK_pass rfl ?_) | ((with_reducible refine Cw.condC ?_); first | refine CwC.pt rfl (by omega) ?_ | refine CwC.pf rfl (by omega) ?_ | refine CwC.it rfl (by omega) ?_ | refine CwC.if rfl (by omega) ?_ | refine CwC.nt rfl (by omega) ?_ | refine CwC.nf rfl (by omega) ?_ | refine CwC.tt rfl ?_ | refine CwC.ff rfl ?_ | refine CwC.bt rfl (by assumption) ?_ | (refine CwC.bf rfl ?_ ?_; focus assumption))
                      refine ⟨_, (by simp (disch := (first | omega | (simp only [lenS, lenT, UInt64.reduceToNat] ; try omega))) only [resVs_cons, resV_cell, Tryd.ag25, ↓getF_s, ↓getF_0, loadAt_p, read_other, read_same, load_bk, resV_tmp, resVs_nil, cons2_some]; rfl), ?_⟩
                      refine ⟨Ext.of_new (show New _ (_ :: _ :: D) from ⟨hw9, hw2, hND⟩), ?_⟩
                      unfold RefReadS
                      rw [book_at hhd hlg (by omega) (next_none (by rw [hp1.1, if_neg hno]))]
                      exact ⟨vt, vl, rfl, hGt.mono fun p hp => by simp [hp], hGl.mono fun p hp => by simp [hp]⟩
                    · have hne1 : (c0 != 69) = false := by simp [bne, h69]
                      have hc0 : c0 = 69 := by simpa using h69
                      subst hc0
                      have hrec1 : (recR s at_ 0 [69]).1 = some c1 := by rw [hp1.1, if_pos ⟨rfl, rfl⟩]; rfl
                      have hen := hp1.2 rfl
                      have hcl1 : c1.length < 1099511627776 := by simp at hul1; omega
                      have hns := next_some (tb := tb) (log := log) hrec1
                      rw [hen] at hns
                      repeat' first | with_reducible (first | refine Cw.seq ?_ | refine thenK_normal ?_ | refine Ow.nil ?_) | ((with_reducible refine Cw.region (Ow.run rfl fun k hk => ?_)); simp (disch := (first | omega | (simp only [lenS, lenT, UInt64.reduceToNat] ; try omega))) only [↓vcL_none, ↓vcB_move, ↓ov_some, ↓ev_tmp, ↓getF_s, ↓getF_0, putF_some, setF_s, setF_0, nf_cons, ↓vcB_unOp, un_not, Bool.not_true, ↓vcL_some, lit_i64, lit_u8, yieldF_lit, ↓nthO_s, ↓nthO_0, yieldL_some, boolOf_b, beq_self_eq_true, ↓ib_true, ↓vcB_len, Tryd.ix9, len_str, ↓vcB_binOp, ↓ev_const, binX_vi_vi, bin_eql_i, hlz1, ↓vcB_pick, pick_f, ↓vcB_index, ixI_vi, hix1, binX_v8_v8, bin_neq_u8, hne1, ↓vcL_nil, Md.next_seq, ↓vcB_build]; (with_reducible refine hk _ _ _ _ ?_); clear hk k) | with_reducible (first | refine Cw.block ?_ | refine Cw.skip ?_ | refine Cw.exit ?_ | refine Cw.ret ?_ | refine thenK_exit ?_ | refine thenK_ret ?_ | refine blockK_normal ?_ | refine blockK_ret ?_ | refine blockK_exit ?_ | refine blockK_pass rfl ?_) | ((with_reducible refine Cw.condC ?_); first | refine CwC.pt rfl (by omega) ?_ | refine CwC.pf rfl (by omega) ?_ | refine CwC.it rfl (by omega) ?_ | refine CwC.if rfl (by omega) ?_ | refine CwC.nt rfl (by omega) ?_ | refine CwC.nf rfl (by omega) ?_ | refine CwC.tt rfl ?_ | refine CwC.ff rfl ?_ | refine CwC.bt rfl (by assumption) ?_ | (refine CwC.bf rfl ?_ ?_; focus assumption))
                      refine Ow.build (.agg #[vs (69 :: c1), vi 1, vi 0]) rfl (build_rd3 (69 :: c1) 1) ?_
                      refine Ow.run rfl fun k hk => ?_
                      simp (disch := (first | omega | (simp only [lenS, lenT, UInt64.reduceToNat] ; try omega))) only [↓vcL_none, ↓vcB_box, Md.next_seq, putF_some, setF_s, setF_0]
                      (with_reducible refine hk _ _ _ _ ?_); clear hk k
                      refine Ow.box rfl rfl fun b17 hb17 hw17 => ?_
                      simp only [ev_tmp, getF_0, getF_s, cells_agg, List.nil_append, List.cons_append]
                      refine Ow.run rfl fun k hk => ?_
                      simp (disch := (first | omega | (simp only [lenS, lenT, UInt64.reduceToNat] ; try omega))) only [↓vcL_none, ↓vcB_assign, ↓ov_some, putF_some, setF_s, setF_0, ↓ev_tmp, ↓getF_s, ↓getF_0, nf_cons, ↓vcL_nil, Md.next_seq]
                      (with_reducible refine hk _ _ _ _ ?_); clear hk k
                      have h917 : b9 < b17 := above_to hb17 (by simp [keys])
                      have h217 : b2 < b17 := above_to hb17 (by simp [keys])
                      repeat' first | with_reducible (first | refine Cw.seq ?_ | refine thenK_normal ?_ | refine Ow.nil ?_) | ((with_reducible refine Cw.region (Ow.run rfl fun k hk => ?_)); simp (disch := (first | omega | (simp only [lenS, lenT, UInt64.reduceToNat] ; try omega))) only [↓vcL_none, ↓vcB_build]; (with_reducible refine hk _ _ _ _ ?_); clear hk k) | with_reducible (first | refine Cw.block ?_ | refine Cw.skip ?_ | refine Cw.exit ?_ | refine Cw.ret ?_ | refine thenK_exit ?_ | refine thenK_ret ?_ | refine blockK_normal ?_ | refine blockK_ret ?_ | refine blockK_exit ?_ | refine blockK_pass rfl ?_) | ((with_reducible refine Cw.condC ?_); first | refine CwC.pt rfl (by omega) ?_ | refine CwC.pf rfl (by omega) ?_ | refine CwC.it rfl (by omega) ?_ | refine CwC.if rfl (by omega) ?_ | refine CwC.nt rfl (by omega) ?_ | refine CwC.nf rfl (by omega) ?_ | refine CwC.tt rfl ?_ | refine CwC.ff rfl ?_ | refine CwC.bt rfl (by assumption) ?_ | (refine CwC.bf rfl ?_ ?_; focus assumption))
                      refine Ow.permL (M := (b17, .cells #[vs (69 :: c1), vi 1, vi 0] 90 (0, 0)) :: (b9, .cells #[vt, vl] 25 (0, 0)) :: (b2, .cells #[.slice none 0 0, .slice none 0 0] 25 (0, 0)) :: D) (by classical exact List.perm_iff_count.2 fun a => by simp only [List.count_append, List.count_cons, List.count_nil] <;> omega) ?_
                      refine Ow.build (.agg (refC ref0).toArray) rfl build_ref00 ?_
                      refine Ow.run rfl fun k hk => ?_
                      simp (disch := (first | omega | (simp only [lenS, lenT, UInt64.reduceToNat] ; try omega))) only [↓vcL_none, ↓vcB_alloc, Md.next_seq, putF_some, setF_s, setF_0]
                      (with_reducible refine hk _ _ _ _ ?_); clear hk k
                      refine Ow.alloc rfl rfl zrRef fun b18 hb18 hw18 => ?_
                      simp only [cells_agg, List.nil_append, List.cons_append]
                      have h918 : b9 < b18 := above_to hb18 (by simp [keys])
                      have h218 : b2 < b18 := above_to hb18 (by simp [keys])
                      have h1718 : b17 < b18 := above_to hb18 (by simp [keys])
                      refine Ow.permL (M := (b18, Obj.cells (refC ref0).toArray 42 (0, 0)) :: (b17, .cells #[vs (69 :: c1), vi 1, vi 0] 90 (0, 0)) :: (b9, .cells #[vt, vl] 25 (0, 0)) :: (b2, .cells #[.slice none 0 0, .slice none 0 0] 25 (0, 0)) :: D) (by classical exact List.perm_iff_count.2 fun a => by simp only [List.count_append, List.count_cons, List.count_nil] <;> omega) ?_
                      refine Ow.run rfl fun k hk => ?_
                      simp (disch := (first | omega | (simp only [lenS, lenT, UInt64.reduceToNat] ; try omega))) only [↓vcL_none, ↓vcB_store, Tryd.ag42, ↓ev_tmp, putF_some, setF_s, setF_0, ↓getF_s, ↓getF_0, storeAt_p, look_same, store_rr, upd_some, setB_same, oh_some, ↓vcL_nil, Md.next_seq, nh_cons]
                      (with_reducible refine hk _ _ _ _ ?_); clear hk k
                      repeat' first | with_reducible (first | refine Cw.seq ?_ | refine thenK_normal ?_ | refine Ow.nil ?_) | ((with_reducible refine Cw.region (Ow.run rfl fun k hk => ?_)); simp (disch := (first | omega | (simp only [lenS, lenT, UInt64.reduceToNat] ; try omega))) only [↓vcL_none, ↓vcB_move, ↓ov_some, ↓ev_tmp, ↓getF_s, ↓getF_0, putF_some, setF_s, setF_0, nf_cons, ↓vcB_call, Md.next_seq, lit_i64]; (with_reducible refine hk _ _ _ _ ?_); clear hk k) | with_reducible (first | refine Cw.block ?_ | refine Cw.skip ?_ | refine Cw.exit ?_ | refine Cw.ret ?_ | refine thenK_exit ?_ | refine thenK_ret ?_ | refine blockK_normal ?_ | refine blockK_ret ?_ | refine blockK_exit ?_ | refine blockK_pass rfl ?_) | ((with_reducible refine Cw.condC ?_); first | refine CwC.pt rfl (by omega) ?_ | refine CwC.pf rfl (by omega) ?_ | refine CwC.it rfl (by omega) ?_ | refine CwC.if rfl (by omega) ?_ | refine CwC.nt rfl (by omega) ?_ | refine CwC.nf rfl (by omega) ?_ | refine CwC.tt rfl ?_ | refine CwC.ff rfl ?_ | refine CwC.bt rfl (by assumption) ?_ | (refine CwC.bf rfl ?_ ?_; focus assumption))
                      have ht1 := textR_shift (69 :: c1) 0 0 32 (by simp)
                      have ht2 := textR_le (s := c1) (a := 0) (e := 0) (most := 32) (Nat.zero_le _)
                      have hi1 := idR_shift (69 :: c1) (textR c1 0 0 32).2.1 (textR c1 0 0 32).2.2 (by simp)
                      have hi2 := idR_len (s := c1) (e := (textR c1 0 0 32).2.2) ht2.2
                      have hrn : (refR c1 0 0).1.name.length < 1099511627776 := refR_name hcl1
                      simp only [List.drop_succ_cons, List.drop_zero, Nat.zero_add] at ht1 hi1
                      have hrr : refR c1 0 0 = (⟨(textR c1 0 0 32).1, mkId (idR c1 (textR c1 0 0 32).2.1 (textR c1 0 0 32).2.2).1⟩, (idR c1 (textR c1 0 0 32).2.1 (textR c1 0 0 32).2.2).2) := rfl
                      refine Ow.callM rfl rfl Tryd.call50 (by simp [keys]) (fun w' hw' => refText_spec b17 (69 :: c1) 1 0 32 w' (by simp) (by simpa using hul1) (hw'.has _ _ (List.mem_cons_of_mem _ List.mem_cons_self))) ?_
                      rw [ht1]
                      generalize textR c1 0 0 32 = tx at *
                      obtain ⟨tt, ta, te⟩ := tx
                      simp only at ht2 hi1 hi2 hrr ⊢
                      simp (disch := (first | omega | (simp only [lenS, lenT, UInt64.reduceToNat] ; try omega))) only [setB_other, setB_same]
                      refine Ow.run rfl fun k hk => ?_
                      simp (disch := (first | omega | (simp only [lenS, lenT, UInt64.reduceToNat] ; try omega))) only [↓vcL_none, ↓vcB_fieldAddr, Tryd.fl42_0, ↓ev_tmp, putF_some, setF_s, setF_0, ↓getF_s, ↓getF_0, fieldAddr_p, Nat.add_zero, ↓ov_some, nf_cons, ↓vcB_store, Tryd.ag9, storeAt_p, look_same, store_refN, upd_some, setB_same, oh_some, ↓vcL_nil, Md.next_seq, nh_cons]
                      (with_reducible refine hk _ _ _ _ ?_); clear hk k
                      repeat' first | with_reducible (first | refine Cw.seq ?_ | refine thenK_normal ?_ | refine Ow.nil ?_) | ((with_reducible refine Cw.region (Ow.run rfl fun k hk => ?_)); simp (disch := (first | omega | (simp only [lenS, lenT, UInt64.reduceToNat] ; try omega))) only [↓vcL_none, ↓vcB_move, ↓ov_some, ↓ev_tmp, ↓getF_s, ↓getF_0, putF_some, setF_s, setF_0, nf_cons, ↓vcB_call, Md.next_seq]; (with_reducible refine hk _ _ _ _ ?_); clear hk k) | with_reducible (first | refine Cw.block ?_ | refine Cw.skip ?_ | refine Cw.exit ?_ | refine Cw.ret ?_ | refine thenK_exit ?_ | refine thenK_ret ?_ | refine blockK_normal ?_ | refine blockK_ret ?_ | refine blockK_exit ?_ | refine blockK_pass rfl ?_) | ((with_reducible refine Cw.condC ?_); first | refine CwC.pt rfl (by omega) ?_ | refine CwC.pf rfl (by omega) ?_ | refine CwC.it rfl (by omega) ?_ | refine CwC.if rfl (by omega) ?_ | refine CwC.nt rfl (by omega) ?_ | refine CwC.nf rfl (by omega) ?_ | refine CwC.tt rfl ?_ | refine CwC.ff rfl ?_ | refine CwC.bt rfl (by assumption) ?_ | (refine CwC.bf rfl ?_ ?_; focus assumption))
                      refine Ow.callM rfl rfl Tryd.call51 (by simp [keys]) (fun w' hw' => refId_spec b17 (69 :: c1) (ta + 1) te w' (by simp only [List.length_cons]; omega) (by simpa using hul1) (hw'.has _ _ (List.mem_cons_of_mem _ List.mem_cons_self))) ?_
                      rw [hi1]
                      generalize idR c1 ta te = ix at *
                      obtain ⟨il, ia, ie⟩ := ix
                      simp only at hi2 hrr ⊢
                      obtain ⟨I, hI⟩ : ∃ I, mkId il = I := ⟨_, rfl⟩
                      have hil : il = I.l := by rw [← hI, mkId_eq hi2]
                      rw [hI] at hrr
                      rw [hil]
                      rw [hrr] at hns hrn
                      simp only at hns hrn
                      simp (disch := (first | omega | (simp only [lenS, lenT, UInt64.reduceToNat] ; try omega))) only [setB_other, setB_same]
                      refine Ow.run rfl fun k hk => ?_
                      simp (disch := (first | omega | (simp only [lenS, lenT, UInt64.reduceToNat] ; try omega))) only [↓vcL_none, ↓vcB_fieldAddr, Tryd.fl42_1, ↓ev_tmp, putF_some, setF_s, setF_0, ↓getF_s, ↓getF_0, fieldAddr_p, Nat.zero_add, ↓ov_some, nf_cons, ↓vcB_store, Tryd.ag40, storeAt_p, look_same, store_refI, upd_some, setB_same, oh_some, ↓vcL_nil, Md.next_seq, nh_cons]
                      (with_reducible refine hk _ _ _ _ ?_); clear hk k
                      repeat' first | with_reducible (first | refine Cw.seq ?_ | refine thenK_normal ?_ | refine Ow.nil ?_) | ((with_reducible refine Cw.region (Ow.run rfl fun k hk => ?_)); simp (disch := (first | omega | (simp only [lenS, lenT, UInt64.reduceToNat] ; try omega))) only [↓vcL_none, ↓vcB_fieldAddr, Tryd.fl25_0, ↓ev_tmp, ↓getF_s, ↓getF_0, fieldAddr_p, Nat.add_zero, ↓ov_some, putF_some, setF_s, setF_0, nf_cons, ↓vcB_load, Md.next_seq, rd_seq_load, ↓ib_true, Tryd.ag23, loadAt_p, read_other, read_same, load_bk0, ↓vcB_build]; (with_reducible refine hk _ _ _ _ ?_); clear hk k) | with_reducible (first | refine Cw.block ?_ | refine Cw.skip ?_ | refine Cw.exit ?_ | refine Cw.ret ?_ | refine thenK_exit ?_ | refine thenK_ret ?_ | refine blockK_normal ?_ | refine blockK_ret ?_ | refine blockK_exit ?_ | refine blockK_pass rfl ?_) | ((with_reducible refine Cw.condC ?_); first | refine CwC.pt rfl (by omega) ?_ | refine CwC.pf rfl (by omega) ?_ | refine CwC.it rfl (by omega) ?_ | refine CwC.if rfl (by omega) ?_ | refine CwC.nt rfl (by omega) ?_ | refine CwC.nf rfl (by omega) ?_ | refine CwC.tt rfl ?_ | refine CwC.ff rfl ?_ | refine CwC.bt rfl (by assumption) ?_ | (refine CwC.bf rfl ?_ ?_; focus assumption))
                      refine Ow.build (.agg #[vt, .slice none 0 0]) rfl (build_bk1 vt (gri_cell hGt).2) ?_
                      refine Ow.run rfl fun k hk => ?_
                      simp (disch := (first | omega | (simp only [lenS, lenT, UInt64.reduceToNat] ; try omega))) only [↓vcL_none, ↓vcB_alloc, Md.next_seq, putF_some, setF_s, setF_0]
                      (with_reducible refine hk _ _ _ _ ?_); clear hk k
                      refine Ow.alloc rfl rfl zrBk fun b19 hb19 hw19 => ?_
                      simp only [cells_agg, List.nil_append, List.cons_append]
                      have h919 : b9 < b19 := above_to hb19 (by simp [keys])
                      have h219 : b2 < b19 := above_to hb19 (by simp [keys])
                      have h1719 : b17 < b19 := above_to hb19 (by simp [keys])
                      have h1819 : b18 < b19 := above_to hb19 (by simp [keys])
                      refine Ow.permL (M := (b19, .cells #[.slice none 0 0, .slice none 0 0] 25 (0, 0)) :: (b18, Obj.cells (refC ⟨tt, I⟩).toArray 42 (0, 0)) :: (b17, .cells #[vs (69 :: c1), vi ((ia + 1 : Nat) : Int), vi ie] 90 (0, 0)) :: (b9, .cells #[vt, vl] 25 (0, 0)) :: (b2, .cells #[.slice none 0 0, .slice none 0 0] 25 (0, 0)) :: D) (by classical exact List.perm_iff_count.2 fun a => by simp only [List.count_append, List.count_cons, List.count_nil] <;> omega) ?_
                      have hst19 := store_bk (.slice none 0 0) (.slice none 0 0) vt (.slice none 0 0) 25 (gri_cell hGt).1 rfl
                      refine Ow.run rfl fun k hk => ?_
                      simp (disch := (first | omega | (simp only [lenS, lenT, UInt64.reduceToNat] ; try omega))) only [↓vcL_none, ↓vcB_store, Tryd.ag25, ↓ev_tmp, putF_some, setF_s, setF_0, ↓getF_s, ↓getF_0, storeAt_p, look_same, hst19, upd_some, setB_same, oh_some, ↓vcL_nil, Md.next_seq, nh_cons]
                      (with_reducible refine hk _ _ _ _ ?_); clear hk k
                      repeat' first | with_reducible (first | refine Cw.seq ?_ | refine thenK_normal ?_ | refine Ow.nil ?_) | ((with_reducible refine Cw.region (Ow.run rfl fun k hk => ?_)); simp (disch := (first | omega | (simp only [lenS, lenT, UInt64.reduceToNat] ; try omega))) only [↓vcL_none, ↓vcB_fieldAddr, Tryd.fl25_1, ↓ev_tmp, ↓getF_s, ↓getF_0, fieldAddr_p, Nat.zero_add, ↓ov_some, putF_some, setF_s, setF_0, nf_cons, ↓vcB_load, Md.next_seq, rd_seq_load, ↓ib_true, Tryd.ag23, loadAt_p, read_same, load_bk1, read_other, ↓vcB_append]; (with_reducible refine hk _ _ _ _ ?_); clear hk k) | with_reducible (first | refine Cw.block ?_ | refine Cw.skip ?_ | refine Cw.exit ?_ | refine Cw.ret ?_ | refine thenK_exit ?_ | refine thenK_ret ?_ | refine blockK_normal ?_ | refine blockK_ret ?_ | refine blockK_exit ?_ | refine blockK_pass rfl ?_) | ((with_reducible refine Cw.condC ?_); first | refine CwC.pt rfl (by omega) ?_ | refine CwC.pf rfl (by omega) ?_ | refine CwC.it rfl (by omega) ?_ | refine CwC.if rfl (by omega) ?_ | refine CwC.nt rfl (by omega) ?_ | refine CwC.nf rfl (by omega) ?_ | refine CwC.tt rfl ?_ | refine CwC.ff rfl ?_ | refine CwC.bt rfl (by assumption) ?_ | (refine CwC.bf rfl ?_ ?_; focus assumption))
                      refine Ow.appendB (e := 42) (k := log.length) (new := (log.map refC).flatten) (X := []) (n := 0) (cs := []) (.slice none 0 0) rfl rfl rfl rfl Tryd.underlying23 Tryd.ag42 (by kernel_rfl) zrRef (by rw [cells_ref, List.size_toArray, refC_len]) Tryd.underlying23 (by intro k h; cases h) .nl (fun w' hw' => (GrI.slV (z := ref0) (hGl.mono (fun p hp => by simp [hp])) hw' rfl rfl refC_len).appX refC_len refC_one) (by omega) (fun B v20 D20 hA20 hB20 hbuf20 hk1 hk2 hlk => ?_)
                      rw [Nat.zero_add, List.nil_append] at hbuf20
                      have hB19 : b19 < B := above_to hA20 (by simp [keys])
                      have hN20 : New B D20 := New.of_le fun q hq => by
                        rcases hk2 q hq with h | h
                        · cases h
                        · exact h
                      have h1920 : b19 ∉ keys D20 := hN20.not hB19
                      have hlk19 : ∀ M, Sx.look (D20 ++ M) b19 = Sx.look M b19 := fun M => look_app_r h1920
                      have hsb19 : ∀ M x, setB (D20 ++ M) b19 x = D20 ++ setB M b19 x := fun M x => setB_appr h1920
                      have hst20 := store_b1 vt (.slice none 0 0) v20 25 hbuf20.cell
                      refine Ow.run rfl fun k hk => ?_
                      simp (disch := (first | omega | (simp only [lenS, lenT, UInt64.reduceToNat] ; try omega))) only [↓vcL_none, ↓vcB_fieldAddr, Tryd.fl25_1, ↓ev_tmp, putF_some, setF_s, setF_0, ↓getF_s, ↓getF_0, fieldAddr_p, Nat.zero_add, ↓ov_some, nf_cons, ↓vcB_store, Tryd.ag23, storeAt_p, hlk19, look_same, hst20, upd_some, hsb19, setB_same, oh_some, ↓vcL_nil, Md.next_seq, nh_any]
                      (with_reducible refine hk _ _ _ _ ?_); clear hk k
                      with_reducible refine Ow.nil ?_
                      with_reducible refine thenK_normal ?_
                      refine Cw.permL (M := (b19, .cells #[vt, v20] 25 (0, 0)) :: (b18, Obj.cells (refC ⟨tt, I⟩).toArray 42 (0, 0)) :: (b17, .cells #[vs (69 :: c1), vi ((ia + 1 : Nat) : Int), vi ie] 90 (0, 0)) :: (b9, .cells #[vt, vl] 25 (0, 0)) :: (b2, .cells #[.slice none 0 0, .slice none 0 0] 25 (0, 0)) :: (D20 ++ D)) (by classical exact List.perm_iff_count.2 fun a => by simp only [List.count_append, List.count_cons, List.count_nil] <;> omega) ?_
                      repeat' first | with_reducible (first | refine Cw.seq ?_ | refine thenK_normal ?_ | refine Ow.nil ?_) | ((with_reducible refine Cw.region (Ow.run rfl fun k hk => ?_)); simp (disch := (first | omega | (simp only [lenS, lenT, UInt64.reduceToNat] ; try omega))) only [↓vcL_none, ↓vcB_fieldAddr, Tryd.fl25_1, ↓ev_tmp, ↓getF_s, ↓getF_0, fieldAddr_p, Nat.zero_add, ↓ov_some, putF_some, setF_s, setF_0, nf_cons, ↓vcB_load, Md.next_seq, rd_seq_load, ↓ib_true, Tryd.ag23, loadAt_p, read_same, load_bk1, Tryd.ag42, read_other, load_ref, ↓vcB_buildSlice]; (with_reducible refine hk _ _ _ _ ?_); clear hk k) | with_reducible (first | refine Cw.block ?_ | refine Cw.skip ?_ | refine Cw.exit ?_ | refine Cw.ret ?_ | refine thenK_exit ?_ | refine thenK_ret ?_ | refine blockK_normal ?_ | refine blockK_ret ?_ | refine blockK_exit ?_ | refine blockK_pass rfl ?_) | ((with_reducible refine Cw.condC ?_); first | refine CwC.pt rfl (by omega) ?_ | refine CwC.pf rfl (by omega) ?_ | refine CwC.it rfl (by omega) ?_ | refine CwC.if rfl (by omega) ?_ | refine CwC.nt rfl (by omega) ?_ | refine CwC.nf rfl (by omega) ?_ | refine CwC.tt rfl ?_ | refine CwC.ff rfl ?_ | refine CwC.bt rfl (by assumption) ?_ | (refine CwC.bf rfl ?_ ?_; focus assumption))
                      refine Ow.buildSlice (e := 42) (refC ⟨tt, I⟩).toArray rfl rfl (sliceRef ⟨tt, I⟩) fun b21 hb21 hw21 => ?_
                      have h1921 : b19 < b21 := above_to hb21 (by simp [keys])
                      refine Ow.permL (M := D20 ++ ((b19, .cells #[vt, v20] 25 (0, 0)) :: (b18, Obj.cells (refC ⟨tt, I⟩).toArray 42 (0, 0)) :: (b17, .cells #[vs (69 :: c1), vi ((ia + 1 : Nat) : Int), vi ie] 90 (0, 0)) :: (b9, .cells #[vt, vl] 25 (0, 0)) :: (b2, .cells #[.slice none 0 0, .slice none 0 0] 25 (0, 0)) :: (D ++ [(b21, Obj.cells (refC ⟨tt, I⟩).toArray 42 (0, 0))]))) (by classical exact List.perm_iff_count.2 fun a => by simp only [List.count_append, List.count_cons, List.count_nil] <;> omega) ?_
                      refine Ow.appendX (e := 42) (k := 1) (new := refC ⟨tt, I⟩) (X := D20) v20 rfl rfl rfl rfl Tryd.underlying23 Tryd.ag42 (by kernel_rfl) zrRef (by rw [cells_ref, List.size_toArray, refC_len]) Tryd.underlying23 (by intro k h; cases h) (.inl hbuf20) (fun w' hw' => AppX.one1 (hw'.has b21 (.cells (refC ⟨tt, I⟩).toArray 42 (0, 0)) (by simp)) (refC_len _) (refC_one _)) (by omega) (by omega) (fun B2' v21 D21 hA21 hB21 hbuf21 hk3 hk4 hlk2 => ?_)
                      have hB21 : b21 < B2' := above_to hA21 (by simp [keys_app, keys])
                      have hN21 : New (b19 + 1) D21 := New.of_le fun q hq => by
                        rcases hk4 q hq with h | h
                        · have := hN20.le q h; omega
                        · omega
                      have h1921' : b19 ∉ keys D21 := hN21.not (by omega)
                      have hlk21 : ∀ M, Sx.look (D21 ++ M) b19 = Sx.look M b19 := fun M => look_app_r h1921'
                      have hsb21 : ∀ M x, setB (D21 ++ M) b19 x = D21 ++ setB M b19 x := fun M x => setB_appr h1921'
                      have hst21 := store_b1 vt v20 v21 25 hbuf21.cell
                      refine Ow.run rfl fun k hk => ?_
                      simp (disch := (first | omega | (simp only [lenS, lenT, UInt64.reduceToNat] ; try omega))) only [↓vcL_none, ↓vcB_fieldAddr, Tryd.fl25_1, ↓ev_tmp, putF_some, setF_s, setF_0, ↓getF_s, ↓getF_0, fieldAddr_p, Nat.zero_add, ↓ov_some, nf_cons, ↓vcB_store, Tryd.ag23, storeAt_p, hlk21, look_same, hst21, upd_some, hsb21, setB_same, oh_some, ↓vcL_nil, Md.next_seq, nh_any]
                      (with_reducible refine hk _ _ _ _ ?_); clear hk k
                      with_reducible refine Ow.nil ?_
                      with_reducible refine thenK_normal ?_
                      refine Cw.permL (M := (b19, .cells #[vt, v21] 25 (0, 0)) :: (b18, Obj.cells (refC ⟨tt, I⟩).toArray 42 (0, 0)) :: (b17, .cells #[vs (69 :: c1), vi ((ia + 1 : Nat) : Int), vi ie] 90 (0, 0)) :: (b9, .cells #[vt, vl] 25 (0, 0)) :: (b2, .cells #[.slice none 0 0, .slice none 0 0] 25 (0, 0)) :: (b21, Obj.cells (refC ⟨tt, I⟩).toArray 42 (0, 0)) :: (D21 ++ D)) (by classical exact List.perm_iff_count.2 fun a => by simp only [List.count_append, List.count_cons, List.count_nil] <;> omega) ?_
                      have hfl4 : (log.map refC).flatten ++ refC ⟨tt, I⟩ = ((log ++ [(⟨tt, I⟩ : RefL)]).map refC).flatten := by simp
                      rw [hfl4] at hbuf21
                      have hgr4 : Gr D21 42 33 v21 (log.length + 1) ((log ++ [(⟨tt, I⟩ : RefL)]).map refC).flatten := .inl hbuf21
                      have hsh4 : ShortN (log ++ [(⟨tt, I⟩ : RefL)]) := short_snoc hsl hrn
                      have hNDD : New w.heap.size (D21 ++ D) := (hN21.mono (by omega)).app hND
                      have hes := endR_shift (69 :: c1) ia ie (by simp)
                      simp only [List.drop_succ_cons, List.drop_zero] at hes
                      repeat' first | with_reducible (first | refine Cw.seq ?_ | refine thenK_normal ?_ | refine Ow.nil ?_) | ((with_reducible refine Cw.region (Ow.run rfl fun k hk => ?_)); simp (disch := (first | omega | (simp only [lenS, lenT, UInt64.reduceToNat] ; try omega))) only [↓vcL_none, ↓vcB_move, ↓ov_some, ↓ev_tmp, ↓getF_s, ↓getF_0, putF_some, setF_s, setF_0, nf_cons, ↓vcB_call, Md.next_seq, lit_i64]; (with_reducible refine hk _ _ _ _ ?_); clear hk k) | with_reducible (first | refine Cw.block ?_ | refine Cw.skip ?_ | refine Cw.exit ?_ | refine Cw.ret ?_ | refine thenK_exit ?_ | refine thenK_ret ?_ | refine blockK_normal ?_ | refine blockK_ret ?_ | refine blockK_exit ?_ | refine blockK_pass rfl ?_) | ((with_reducible refine Cw.condC ?_); first | refine CwC.pt rfl (by omega) ?_ | refine CwC.pf rfl (by omega) ?_ | refine CwC.it rfl (by omega) ?_ | refine CwC.if rfl (by omega) ?_ | refine CwC.nt rfl (by omega) ?_ | refine CwC.nf rfl (by omega) ?_ | refine CwC.tt rfl ?_ | refine CwC.ff rfl ?_ | refine CwC.bt rfl (by assumption) ?_ | (refine CwC.bf rfl ?_ ?_; focus assumption))
                      refine Ow.callFV rfl Tryd.call52 (fun w' hw' => refEndR_spec b17 (69 :: c1) (ia + 1) ie w' (hw'.has _ _ (List.mem_cons_of_mem _ (List.mem_cons_of_mem _ List.mem_cons_self)))) ?_
                      rw [hes]
                      by_cases he1 : endR c1 ia ie = 0
                      · have hb1 : (endR c1 ia ie != 0) = false := by simp [he1]
                        refine Ow.run rfl fun k hk => ?_
                        simp (disch := (first | omega | (simp only [lenS, lenT, UInt64.reduceToNat] ; try omega))) only [↓vcL_none, ↓vcB_binOp, ↓ev_tmp, putF_some, setF_s, setF_0, ↓getF_s, ↓getF_0, ↓ev_const, binX_vi_vi, bin_neq_i, hb1, ↓ov_some, nf_cons, ↓vcB_move, ↓vcL_some, lit_i64, yieldF_lit, ↓nthO_s, ↓nthO_0, yieldL_some, boolOf_b, beq_self_eq_true, ↓ib_true, ↓vcB_load, Md.next_seq, rd_seq_load, Tryd.ag25, loadAt_p, read_same, load_bk, ↓vcB_call]
                        (with_reducible refine hk _ _ _ _ ?_); clear hk k
                        repeat' first | with_reducible (first | refine Cw.seq ?_ | refine thenK_normal ?_ | refine Ow.nil ?_) | ((with_reducible refine Cw.region (Ow.run rfl fun k hk => ?_)); simp (disch := (first | omega | (simp only [lenS, lenT, UInt64.reduceToNat] ; try omega))) only []; (with_reducible refine hk _ _ _ _ ?_); clear hk k) | with_reducible (first | refine Cw.block ?_ | refine Cw.skip ?_ | refine Cw.exit ?_ | refine Cw.ret ?_ | refine thenK_exit ?_ | refine thenK_ret ?_ | refine blockK_normal ?_ | refine blockK_ret ?_ | refine blockK_exit ?_ | refine blockK_pass rfl ?_) | ((with_reducible refine Cw.condC ?_); first | refine CwC.pt rfl (by omega) ?_ | refine CwC.pf rfl (by omega) ?_ | refine CwC.it rfl (by omega) ?_ | refine CwC.if rfl (by omega) ?_ | refine CwC.nt rfl (by omega) ?_ | refine CwC.nf rfl (by omega) ?_ | refine CwC.tt rfl ?_ | refine CwC.ff rfl ?_ | refine CwC.bt rfl (by assumption) ?_ | (refine CwC.bf rfl ?_ ?_; focus assumption))
                        refine Ow.callFV rfl Tryd.call32 (fun w' hw' => refRight_spec vt v21 tb (log ++ [(⟨tt, I⟩ : RefL)]) w' (GrI.slV (hGt.mono (fun p hp => by simp [hp])) hw' rfl rfl refC_len) (hgr4.slM (fun b o hm => hw'.has b o (by simp [hm])) (by simp) rfl refC_len) (by omega) (by simp; omega) hshT hsh4) ?_
                        cases hr1 : rightB tb (log ++ [(⟨tt, I⟩ : RefL)])
                        · refine Ow.run rfl fun k hk => ?_
                          simp (disch := (first | omega | (simp only [lenS, lenT, UInt64.reduceToNat] ; try omega))) only [↓vcL_some, lit_i64, putF_some, setF_s, setF_0, yieldF_lit, ↓nthO_s, ↓nthO_0, yieldL_some, ↓getF_s, ↓getF_0, boolOf_b, beq_self_eq_true, ↓ib_true, ↓vcB_unOp, ↓ev_tmp, un_not, Bool.not_false, ↓ov_some, nf_cons, ↓vcL_none, ↓vcB_pick, ↓ev_const, pick_f, ↓vcL_nil, Md.next_seq]
                          (with_reducible refine hk _ _ _ _ ?_); clear hk k
                          have hst2 := store_bk (.slice none 0 0) (.slice none 0 0) vt vl 25 (gri_cell hGt).1 (gri_cell hGl).1
                          repeat' first | with_reducible (first | refine Cw.seq ?_ | refine thenK_normal ?_ | refine Ow.nil ?_) | ((with_reducible refine Cw.region (Ow.run rfl fun k hk => ?_)); simp (disch := (first | omega | (simp only [lenS, lenT, UInt64.reduceToNat] ; try omega))) only [↓vcL_none, ↓vcB_load, rd_seq_load, ↓ib_true, Tryd.ag25, ↓ev_tmp, ↓getF_s, ↓getF_0, loadAt_p, read_other, read_same, load_bk, ↓ov_some, putF_some, setF_s, setF_0, nf_cons, ↓vcB_move, ↓vcB_store, storeAt_p, look_other, look_same, hst2, upd_some, setB_other, setB_same, oh_some, ↓vcB_assign, ↓ev_const, ↓vcL_nil, Md.next_seq, nh_cons]; (with_reducible refine hk _ _ _ _ ?_); clear hk k) | with_reducible (first | refine Cw.block ?_ | refine Cw.skip ?_ | refine Cw.exit ?_ | refine Cw.ret ?_ | refine thenK_exit ?_ | refine thenK_ret ?_ | refine blockK_normal ?_ | refine blockK_ret ?_ | refine blockK_exit ?_ | refine blockK_pass rfl ?_) | ((with_reducible refine Cw.condC ?_); first | refine CwC.pt rfl (by omega) ?_ | refine CwC.pf rfl (by omega) ?_ | refine CwC.it rfl (by omega) ?_ | refine CwC.if rfl (by omega) ?_ | refine CwC.nt rfl (by omega) ?_ | refine CwC.nf rfl (by omega) ?_ | refine CwC.tt rfl ?_ | refine CwC.ff rfl ?_ | refine CwC.bt rfl (by assumption) ?_ | (refine CwC.bf rfl ?_ ?_; focus assumption))
                          refine ⟨_, (by simp (disch := (first | omega | (simp only [lenS, lenT, UInt64.reduceToNat] ; try omega))) only [resVs_cons, resV_cell, Tryd.ag25, ↓getF_s, ↓getF_0, loadAt_p, read_other, read_same, load_bk, resV_tmp, resVs_nil, cons2_some]; rfl), ?_⟩
                          refine ⟨Ext.of_new (show New _ (_ :: _ :: _ :: _ :: _ :: _ :: (D21 ++ D)) from ⟨hw19, hw18, hw17, hw9, hw2, hw21, hNDD⟩), ?_⟩
                          unfold RefReadS
                          rw [book_at hhd hlg (by omega) (by rw [hns, if_neg (by simp [hr1])])]
                          exact ⟨vt, vl, rfl, hGt.mono fun p hp => by simp [hp], hGl.mono fun p hp => by simp [hp]⟩
                        · rw [if_pos ⟨he1, hr1⟩] at hns
                          have hst9 := store_bk vt vl vt v21 25 (gri_cell hGt).1 hbuf21.cell.1
                          refine Ow.run rfl fun k hk => ?_
                          simp (disch := (first | omega | (simp only [lenS, lenT, UInt64.reduceToNat] ; try omega))) only [↓vcL_some, lit_i64, putF_some, setF_s, setF_0, yieldF_lit, ↓nthO_s, ↓nthO_0, yieldL_some, ↓getF_s, ↓getF_0, boolOf_b, beq_self_eq_true, ↓ib_true, ↓vcB_unOp, ↓ev_tmp, un_not, Bool.not_true, ↓ov_some, nf_cons, ↓vcL_none, ↓vcB_pick, ↓ev_const, pick_f, ↓vcL_nil, Md.next_seq]
                          (with_reducible refine hk _ _ _ _ ?_); clear hk k
                          with_reducible refine Ow.nil ?_
                          with_reducible refine thenK_normal ?_
                          refine Cw.permL (M := (b9, .cells #[vt, vl] 25 (0, 0)) :: (b2, .cells #[.slice none 0 0, .slice none 0 0] 25 (0, 0)) :: (b19, .cells #[vt, v21] 25 (0, 0)) :: (b18, Obj.cells (refC ⟨tt, I⟩).toArray 42 (0, 0)) :: (b17, .cells #[vs (69 :: c1), vi ((ia + 1 : Nat) : Int), vi ie] 90 (0, 0)) :: (b21, Obj.cells (refC ⟨tt, I⟩).toArray 42 (0, 0)) :: (D21 ++ D)) (by classical exact List.perm_iff_count.2 fun a => by simp only [List.count_append, List.count_cons, List.count_nil] <;> omega) ?_
                          repeat' first | with_reducible (first | refine Cw.seq ?_ | refine thenK_normal ?_ | refine Ow.nil ?_) | ((with_reducible refine Cw.region (Ow.run rfl fun k hk => ?_)); simp (disch := (first | omega | (simp only [lenS, lenT, UInt64.reduceToNat] ; try omega))) only [↓vcL_none, ↓vcB_load, rd_seq_load, ↓ib_true, Tryd.ag25, ↓ev_tmp, ↓getF_s, ↓getF_0, loadAt_p, read_other, read_same, load_bk, ↓ov_some, putF_some, setF_s, setF_0, nf_cons, ↓vcB_store, storeAt_p, look_same, hst9, upd_some, setB_same, oh_some, ↓vcL_nil, Md.next_seq, nh_cons, ↓vcB_move, ↓vcB_assign, ↓vcB_binOp, ↓ev_const, lit_i64, binX_vi_vi, bin_add_i]; (with_reducible refine hk _ _ _ _ ?_); clear hk k) | with_reducible (first | refine Cw.block ?_ | refine Cw.skip ?_ | refine Cw.exit ?_ | refine Cw.ret ?_ | refine thenK_exit ?_ | refine thenK_ret ?_ | refine blockK_normal ?_ | refine blockK_ret ?_ | refine blockK_exit ?_ | refine blockK_pass rfl ?_) | ((with_reducible refine Cw.condC ?_); first | refine CwC.pt rfl (by omega) ?_ | refine CwC.pf rfl (by omega) ?_ | refine CwC.it rfl (by omega) ?_ | refine CwC.if rfl (by omega) ?_ | refine CwC.nt rfl (by omega) ?_ | refine CwC.nf rfl (by omega) ?_ | refine CwC.tt rfl ?_ | refine CwC.ff rfl ?_ | refine CwC.bt rfl (by assumption) ?_ | (refine CwC.bf rfl ?_ ?_; focus assumption))
                          exact Again.mk (DG.mk (g + 1) (log ++ [⟨tt, I⟩]) v21 en ((b19, .cells #[vt, v21] 25 (0, 0)) :: (b18, Obj.cells (refC ⟨tt, I⟩).toArray 42 (0, 0)) :: (b17, .cells #[vs (69 :: c1), vi ((ia + 1 : Nat) : Int), vi ie] 90 (0, 0)) :: (b21, Obj.cells (refC ⟨tt, I⟩).toArray 42 (0, 0)) :: (D21 ++ D))) (by show 101 - (g + 1) < 101 - g; omega) ⟨by show g + 1 ≤ 101; omega, by simp [hll], ⟨hw19, hw18, hw17, hw21, hNDD⟩, hGt.mono fun p hp => by simp [hp], by rw [List.length_append]; exact hgr4.i fun p hp => by simp [hp], hsh4, hle1, fun _ => hr1, by
                            show logsR s tb (101 - (g + 1)) (log ++ [⟨tt, I⟩]) en = _
                            rw [← hlg, show 101 - g = (101 - (g + 1)) + 1 by omega, logsR, hns]⟩ rfl rfl
                      · have hb1 : (endR c1 ia ie != 0) = true := by simpa using he1
                        refine Ow.run rfl fun k hk => ?_
                        simp (disch := (first | omega | (simp only [lenS, lenT, UInt64.reduceToNat] ; try omega))) only [↓vcL_none, ↓vcB_binOp, ↓ev_tmp, putF_some, setF_s, setF_0, ↓getF_s, ↓getF_0, ↓ev_const, binX_vi_vi, bin_neq_i, hb1, ↓ov_some, nf_cons, ↓vcB_move, ↓vcL_some, lit_i64, yieldF_lit, ↓nthO_s, ↓nthO_0, yieldL_some, boolOf_b, some_beq, beq_false, Bool.not_true, ↓ib_false, ↓vcB_pick, pick_t, ↓vcL_nil, Md.next_seq]
                        (with_reducible refine hk _ _ _ _ ?_); clear hk k
                        have hst2 := store_bk (.slice none 0 0) (.slice none 0 0) vt vl 25 (gri_cell hGt).1 (gri_cell hGl).1
                        repeat' first | with_reducible (first | refine Cw.seq ?_ | refine thenK_normal ?_ | refine Ow.nil ?_) | ((with_reducible refine Cw.region (Ow.run rfl fun k hk => ?_)); simp (disch := (first | omega | (simp only [lenS, lenT, UInt64.reduceToNat] ; try omega))) only [↓vcL_none, ↓vcB_load, rd_seq_load, ↓ib_true, Tryd.ag25, ↓ev_tmp, ↓getF_s, ↓getF_0, loadAt_p, read_other, read_same, load_bk, ↓ov_some, putF_some, setF_s, setF_0, nf_cons, ↓vcB_move, ↓vcB_store, storeAt_p, look_other, look_same, hst2, upd_some, setB_other, setB_same, oh_some, ↓vcB_assign, ↓ev_const, ↓vcL_nil, Md.next_seq, nh_cons]; (with_reducible refine hk _ _ _ _ ?_); clear hk k) | with_reducible (first | refine Cw.block ?_ | refine Cw.skip ?_ | refine Cw.exit ?_ | refine Cw.ret ?_ | refine thenK_exit ?_ | refine thenK_ret ?_ | refine blockK_normal ?_ | refine blockK_ret ?_ | refine blockK_exit ?_ | refine blockK_pass rfl ?_) | ((with_reducible refine Cw.condC ?_); first | refine CwC.pt rfl (by omega) ?_ | refine CwC.pf rfl (by omega) ?_ | refine CwC.it rfl (by omega) ?_ | refine CwC.if rfl (by omega) ?_ | refine CwC.nt rfl (by omega) ?_ | refine CwC.nf rfl (by omega) ?_ | refine CwC.tt rfl ?_ | refine CwC.ff rfl ?_ | refine CwC.bt rfl (by assumption) ?_ | (refine CwC.bf rfl ?_ ?_; focus assumption))
                        refine ⟨_, (by simp (disch := (first | omega | (simp only [lenS, lenT, UInt64.reduceToNat] ; try omega))) only [resVs_cons, resV_cell, Tryd.ag25, ↓getF_s, ↓getF_0, loadAt_p, read_other, read_same, load_bk, resV_tmp, resVs_nil, cons2_some]; rfl), ?_⟩
                        refine ⟨Ext.of_new (show New _ (_ :: _ :: _ :: _ :: _ :: _ :: (D21 ++ D)) from ⟨hw19, hw18, hw17, hw9, hw2, hw21, hNDD⟩), ?_⟩
                        unfold RefReadS
                        rw [book_at hhd hlg (by omega) (by rw [hns, if_neg (fun h => he1 h.1)])]
                        exact ⟨vt, vl, rfl, hGt.mono fun p hp => by simp [hp], hGl.mono fun p hp => by simp [hp]⟩
              · obtain rfl : g = 101 := by omega
                have := rightB_len (hrt (by omega))
                omega
          · have hb : (endR c (refsR c na ne g).2.1 (refsR c na ne g).2.2 != 0) = true := by simpa using he
            refine Ow.run rfl fun k hk => ?_
            simp (disch := (first | omega | (simp only [lenS, lenT, UInt64.reduceToNat] ; try omega))) only [↓vcL_none, ↓vcB_binOp, ↓ev_tmp, putF_some, setF_s, setF_0, ↓getF_s, ↓getF_0, ↓ev_const, binX_vi_vi, bin_neq_i, hb, ↓ov_some, nf_cons, ↓vcB_move, ↓vcL_some, lit_i64, yieldF_lit, ↓nthO_s, ↓nthO_0, yieldL_some, boolOf_b, some_beq, beq_false, Bool.not_true, ↓ib_false, ↓vcB_pick, pick_t, ↓vcL_nil, Md.next_seq]
            (with_reducible refine hk _ _ _ _ ?_); clear hk k
            repeat' first | with_reducible (first | refine Cw.seq ?_ | refine thenK_normal ?_ | refine Ow.nil ?_) | ((with_reducible refine Cw.region (Ow.run rfl fun k hk => ?_)); simp (disch := (first | omega | (simp only [lenS, lenT, UInt64.reduceToNat] ; try omega))) only [↓vcL_none, ↓vcB_build, lit_i64]; (with_reducible refine hk _ _ _ _ ?_); clear hk k) | with_reducible (first | refine Cw.block ?_ | refine Cw.skip ?_ | refine Cw.exit ?_ | refine Cw.ret ?_ | refine thenK_exit ?_ | refine thenK_ret ?_ | refine blockK_normal ?_ | refine blockK_ret ?_ | refine blockK_exit ?_ | refine blockK_pass rfl ?_) | ((with_reducible refine Cw.condC ?_); first | refine CwC.pt rfl (by omega) ?_ | refine CwC.pf rfl (by omega) ?_ | refine CwC.it rfl (by omega) ?_ | refine CwC.if rfl (by omega) ?_ | refine CwC.nt rfl (by omega) ?_ | refine CwC.nf rfl (by omega) ?_ | refine CwC.tt rfl ?_ | refine CwC.ff rfl ?_ | refine CwC.bt rfl (by assumption) ?_ | (refine CwC.bf rfl ?_ ?_; focus assumption))
            refine Ow.build (.agg #[.slice none 0 0, .slice none 0 0]) rfl (by kernel_rfl) ?_
            refine Ow.run rfl fun k hk => ?_
            simp (disch := (first | omega | (simp only [lenS, lenT, UInt64.reduceToNat] ; try omega))) only [↓vcL_none, ↓vcB_store, Tryd.ag25, ↓ev_tmp, putF_some, setF_s, setF_0, ↓getF_s, ↓getF_0, storeAt_p, look_other, look_same, store_bk0, upd_some, setB_other, setB_same, oh_some, ↓vcB_assign, ↓ov_some, ↓ev_const, nf_cons, ↓vcL_nil, Md.next_seq, nh_cons]
            (with_reducible refine hk _ _ _ _ ?_); clear hk k
            repeat' first | with_reducible (first | refine Cw.seq ?_ | refine thenK_normal ?_ | refine Ow.nil ?_) | ((with_reducible refine Cw.region (Ow.run rfl fun k hk => ?_)); simp (disch := (first | omega | (simp only [lenS, lenT, UInt64.reduceToNat] ; try omega))) only []; (with_reducible refine hk _ _ _ _ ?_); clear hk k) | with_reducible (first | refine Cw.block ?_ | refine Cw.skip ?_ | refine Cw.exit ?_ | refine Cw.ret ?_ | refine thenK_exit ?_ | refine thenK_ret ?_ | refine blockK_normal ?_ | refine blockK_ret ?_ | refine blockK_exit ?_ | refine blockK_pass rfl ?_) | ((with_reducible refine Cw.condC ?_); first | refine CwC.pt rfl (by omega) ?_ | refine CwC.pf rfl (by omega) ?_ | refine CwC.it rfl (by omega) ?_ | refine CwC.if rfl (by omega) ?_ | refine CwC.nt rfl (by omega) ?_ | refine CwC.nf rfl (by omega) ?_ | refine CwC.tt rfl ?_ | refine CwC.ff rfl ?_ | refine CwC.bt rfl (by assumption) ?_ | (refine CwC.bf rfl ?_ ?_; focus assumption))
            refine ⟨_, (by simp (disch := (first | omega | (simp only [lenS, lenT, UInt64.reduceToNat] ; try omega))) only [resVs_cons, resV_cell, Tryd.ag25, ↓getF_s, ↓getF_0, loadAt_p, read_other, read_same, load_bk, resV_tmp, resVs_nil, cons2_some]; rfl), ?_⟩
            exact ⟨Ext.of_new ⟨hw8, hw9, hw2, hND.mono (by omega)⟩, RefReadS.no (head_no (by rw [hhd, if_neg (fun h => he h.1)]))⟩
end Go.Proofs
open Go Go.Proofs Go.Sx Go.RefP
namespace Go.Proofs
set_option maxRecDepth 10000
set_option maxHeartbeats 4000000
set_option linter.unusedSimpArgs false
/-- The id with a first byte of 1. -/
def id1 : IdL := ⟨1 :: List.replicate 31 0, by simp⟩
/-- The ref that alive adds. -/
def mainR : RefL := ⟨[109, 97, 105, 110], id1⟩
theorem numL_s (n : Nat) (l : List UInt8) (h : clampN (l.length : Int) = n) (hn : n < 128) : numL (clampN (l.length : Int)) = [UInt8.ofNat n] := by rw [h, numL_small hn]
theorem alive_head : recordV (headB []) = [6, 72, 0] ++ (sealV [72, 0]).drop 2 := by
  have h1 : headB [] = [72, 0] := by
    unfold headB tabB
    rw [show ((([] : List RefL).length : Int)) = (([] : List UInt8).length : Int) from rfl, numL_s 0 [] (by kernel_rfl) (by decide)]; rfl
  rw [h1]
  unfold recordV textL
  rw [numL_s 6 (sealV [72, 0]) (by kernel_rfl) (by decide)]
  exact id (show ([UInt8.ofNat 6] ++ sealV [72, 0] : List UInt8) = _ by kernel_rfl)
theorem alive_entry : entryB mainR = [69, 4, 109, 97, 105, 110] ++ id1.l := by
  unfold entryB textL
  rw [numL_s 4 _ (by kernel_rfl) (by decide)]
  rfl
theorem alive_rec : recordV (entryB mainR) = 42 :: sealV ([69, 4, 109, 97, 105, 110] ++ id1.l) := by
  rw [alive_entry]
  unfold recordV textL
  rw [numL_s 42 _ (by kernel_rfl) (by decide)]
  rfl
theorem alive_book : bookB [] [mainR] = ([6, 72, 0] ++ (sealV [72, 0]).drop 2) ++ (42 :: sealV ([69, 4, 109, 97, 105, 110] ++ id1.l)) := by
  unfold bookB logB
  rw [alive_head]
  simp only [List.map_cons, List.map_nil, List.flatten_cons, List.flatten_nil, List.append_nil, alive_rec]
theorem alive_right0 : rightB [] [] = true := by kernel_rfl
theorem alive_right : rightB [] [mainR] = true := by kernel_rfl
theorem alive_name : nameV [109, 97, 105, 110] = true := by kernel_rfl
theorem alive_read : bookR (bookB [] [mainR] ++ [120]) = some ([], [mainR], (bookB [] [mainR]).length) := by
  rw [alive_book]
  kernel_rfl
theorem alive_value : valueB [] [mainR] [109, 97, 105, 110] = id1.l := by kernel_rfl
end Go.Proofs
open Go Go.Proofs Go.Sx Go.RefP
namespace Go.Proofs
set_option maxRecDepth 10000
set_option maxHeartbeats 4000000
set_option linter.unusedSimpArgs false
theorem mainSmall : SmallN [mainR] := by
  intro g h
  have h0 : g = 0 := by simpa using h
  subst h0
  show (4 : Nat) < 1000
  decide
theorem book_drop : (bookB [] [mainR]).drop ((bookB [] [mainR]).length - (recordV (entryB mainR)).length) = recordV (entryB mainR) := by
  unfold bookB logB
  simp only [List.map_cons, List.map_nil, List.flatten_cons, List.flatten_nil, List.append_nil, List.length_append, Nat.add_sub_cancel_right, List.drop_left]
theorem book_lens : (recordV (entryB mainR)).length < (bookB [] [mainR]).length ∧ (bookB [] [mainR]).length < 1000 := by
  rw [alive_book, alive_rec]
  exact of_decide_eq_true (id (by kernel_rfl))
theorem alive16_spec (w : World) (hG : GlobC w) : Rets Tryd.prog 8 #[] w (fun v D => v = .bool true ∧ D = []) := by
  have hglt : (3 : Nat) < w.heap.size := by obtain ⟨e, f, h⟩ := hG; exact (Array.getElem?_eq_some_iff.1 h).1
  refine Rets.enterV Tryd.func8 rfl (rs := [.tmp 0]) Tryd.results8 Tryd.ntmps8 ?_
  simp only [List.size_toArray, List.length_cons, List.length_nil, Nat.reduceAdd, Nat.reduceSub, List.replicate_succ, List.replicate_zero, List.cons_append, List.nil_append]
  repeat' first | with_reducible (first | refine Cw.seq ?_ | refine thenK_normal ?_ | refine Ow.nil ?_) | ((with_reducible refine Cw.region (Ow.run rfl fun k hk => ?_)); simp (disch := (first | omega | (simp only [lenS, lenT, UInt64.reduceToNat] ; try omega))) only [↓vcL_none, ↓vcB_assign, ↓ov_some, ↓ev_const, putF_some, setF_0, nf_cons, ↓vcL_nil, Md.next_seq, ↓vcB_build, lit_u8, lit_str]; (with_reducible refine hk _ _ _ _ ?_); clear hk k) | with_reducible (first | refine Cw.block ?_ | refine Cw.skip ?_ | refine Cw.exit ?_ | refine Cw.ret ?_ | refine thenK_exit ?_ | refine thenK_ret ?_ | refine blockK_normal ?_ | refine blockK_ret ?_ | refine blockK_exit ?_ | refine blockK_pass rfl ?_) | ((with_reducible refine Cw.condC ?_); first | refine CwC.pt rfl (by omega) ?_ | refine CwC.pf rfl (by omega) ?_ | refine CwC.it rfl (by omega) ?_ | refine CwC.if rfl (by omega) ?_ | refine CwC.nt rfl (by omega) ?_ | refine CwC.nf rfl (by omega) ?_ | refine CwC.tt rfl ?_ | refine CwC.ff rfl ?_ | refine CwC.bt rfl (by assumption) ?_ | (refine CwC.bf rfl ?_ ?_; focus assumption))
  refine Ow.build (.agg #[.slice none 0 0, .slice none 0 0]) rfl (by kernel_rfl) ?_
  refine Ow.run rfl fun k hk => ?_
  simp (disch := (first | omega | (simp only [lenS, lenT, UInt64.reduceToNat] ; try omega))) only [↓vcL_none, ↓vcB_build, Md.next_seq, putF_some, setF_s, setF_0]
  (with_reducible refine hk _ _ _ _ ?_); clear hk k
  refine Ow.build (.agg (a8 id1.l)) rfl (by kernel_rfl) ?_
  refine Ow.run rfl fun k hk => ?_
  simp (disch := (first | omega | (simp only [lenS, lenT, UInt64.reduceToNat] ; try omega))) only [↓vcL_none, ↓vcB_call, Md.next_seq, putF_some, setF_s, setF_0]
  (with_reducible refine hk _ _ _ _ ?_); clear hk k
  refine Ow.callC rfl rfl Tryd.call14 (fun w' hw' => Add_spec (.slice none 0 0) (.slice none 0 0) [] [] [109, 97, 105, 110] id1 w' (GlobC.of hG hw' (by simp [keys])) (SlV.nil w') (SlV.nil w') (by simp) (by simp) (fun g h => by simp at h) (fun g h => by simp at h) (by simp)) (fun B1 v1 D1 hA1 hB1 hN1 hS1 => ?_)
  unfold AddS at hS1
  rw [if_pos ⟨alive_right0, alive_name⟩, if_pos (by exact alive_right)] at hS1
  obtain ⟨vt, vl, rfl, hGt, hGl⟩ := hS1
  have hstt := store_bk (.slice none 0 0) (.slice none 0 0) vt vl 25 (gri_cell hGt).1 (gri_cell hGl).1
  have hN1' := hN1.mono hB1
  refine Ow.run rfl fun k hk => ?_
  simp (disch := (first | omega | (simp only [lenS, lenT, UInt64.reduceToNat] ; try omega))) only [↓vcL_none, ↓vcB_move, ↓ov_some, putF_some, setF_s, setF_0, ↓ev_tmp, ↓getF_s, ↓getF_0, nf_cons, ↓vcB_extract, extract_t, tup3_0, tup3_1, tup3_2, ↓vcB_alloc, Md.next_seq, List.nil_append]
  (with_reducible refine hk _ _ _ _ ?_); clear hk k
  refine Ow.alloc rfl rfl zrBk fun b2 hb2 hw2 => ?_
  simp only [cells_agg, List.nil_append, List.cons_append]
  refine Ow.permL (M := (b2, .cells #[.slice none 0 0, .slice none 0 0] 25 (0, 0)) :: D1) (by classical exact List.perm_iff_count.2 fun a => by simp only [List.count_append, List.count_cons, List.count_nil] <;> omega) ?_
  refine Ow.run rfl fun k hk => ?_
  simp (disch := (first | omega | (simp only [lenS, lenT, UInt64.reduceToNat] ; try omega))) only [↓vcL_none, ↓vcB_store, Tryd.ag25, ↓ev_tmp, putF_some, setF_s, setF_0, ↓getF_s, ↓getF_0, storeAt_p, look_same, hstt, upd_some, setB_same, oh_some, ↓vcB_assign, ↓ov_some, nf_cons, ↓vcL_nil, Md.next_seq, nh_cons]
  (with_reducible refine hk _ _ _ _ ?_); clear hk k
  repeat' first | with_reducible (first | refine Cw.seq ?_ | refine thenK_normal ?_ | refine Ow.nil ?_) | ((with_reducible refine Cw.region (Ow.run rfl fun k hk => ?_)); simp (disch := (first | omega | (simp only [lenS, lenT, UInt64.reduceToNat] ; try omega))) only [↓vcL_none, ↓vcB_load, rd_seq_load, ↓ib_true, Tryd.ag25, ↓ev_tmp, ↓getF_s, ↓getF_0, loadAt_p, read_same, load_bk, ↓ov_some, putF_some, setF_s, setF_0, nf_cons, ↓vcB_call, Md.next_seq]; (with_reducible refine hk _ _ _ _ ?_); clear hk k) | with_reducible (first | refine Cw.block ?_ | refine Cw.skip ?_ | refine Cw.exit ?_ | refine Cw.ret ?_ | refine thenK_exit ?_ | refine thenK_ret ?_ | refine blockK_normal ?_ | refine blockK_ret ?_ | refine blockK_exit ?_ | refine blockK_pass rfl ?_) | ((with_reducible refine Cw.condC ?_); first | refine CwC.pt rfl (by omega) ?_ | refine CwC.pf rfl (by omega) ?_ | refine CwC.it rfl (by omega) ?_ | refine CwC.if rfl (by omega) ?_ | refine CwC.nt rfl (by omega) ?_ | refine CwC.nf rfl (by omega) ?_ | refine CwC.tt rfl ?_ | refine CwC.ff rfl ?_ | refine CwC.bt rfl (by assumption) ?_ | (refine CwC.bf rfl ?_ ?_; focus assumption))
  refine Ow.callFV rfl Tryd.call13 (fun w' hw' => Bytes_spec vt vl [] [mainR] w' (GlobC.of hG hw' (New.not (L := (b2, .cells #[vt, vl] 25 (0, 0)) :: D1) (by exact ⟨hw2, hN1'⟩) hglt)) (GrI.slV (hGt.mono (fun p hp => by simp [hp])) hw' rfl rfl refC_len) (GrI.slV (hGl.mono (fun p hp => by simp [hp])) hw' rfl rfl refC_len) (by simp) (by simp) (fun g h => by simp at h) mainSmall) ?_
  rw [if_pos alive_right]
  have hlen := book_lens
  have hdrop := book_drop
  have hread := alive_read
  have hrr : (⟨[109, 97, 105, 110], id1⟩ : RefL) = mainR := rfl
  rw [hrr] at hGl ⊢
  generalize recordV (entryB mainR) = rr at *
  generalize bookB [] [mainR] = bb at *
  refine Ow.run rfl fun k hk => ?_
  simp (disch := (first | omega | (simp only [lenS, lenT, UInt64.reduceToNat] ; try omega))) only [↓vcL_none, ↓vcB_move, ↓ov_some, putF_some, setF_s, setF_0, ↓ev_tmp, ↓getF_s, ↓getF_0, nf_cons, ↓vcB_extract, extract_t, tup2_0, tup2_1, ↓vcB_assign, ↓vcL_nil, Md.next_seq]
  (with_reducible refine hk _ _ _ _ ?_); clear hk k
  repeat' first | with_reducible (first | refine Cw.seq ?_ | refine thenK_normal ?_ | refine Ow.nil ?_) | ((with_reducible refine Cw.region (Ow.run rfl fun k hk => ?_)); simp (disch := (first | omega | (simp only [lenS, lenT, UInt64.reduceToNat] ; try omega))) only [↓vcL_none, ↓vcB_move, ↓ov_some, ↓ev_tmp, ↓getF_s, ↓getF_0, putF_some, setF_s, setF_0, nf_cons, ↓vcB_binOp, ↓ev_const, lit_str, binX_vs, bin_add_s, ↓vcB_call, Md.next_seq]; (with_reducible refine hk _ _ _ _ ?_); clear hk k) | with_reducible (first | refine Cw.block ?_ | refine Cw.skip ?_ | refine Cw.exit ?_ | refine Cw.ret ?_ | refine thenK_exit ?_ | refine thenK_ret ?_ | refine blockK_normal ?_ | refine blockK_ret ?_ | refine blockK_exit ?_ | refine blockK_pass rfl ?_) | ((with_reducible refine Cw.condC ?_); first | refine CwC.pt rfl (by omega) ?_ | refine CwC.pf rfl (by omega) ?_ | refine CwC.it rfl (by omega) ?_ | refine CwC.if rfl (by omega) ?_ | refine CwC.nt rfl (by omega) ?_ | refine CwC.nf rfl (by omega) ?_ | refine CwC.tt rfl ?_ | refine CwC.ff rfl ?_ | refine CwC.bt rfl (by assumption) ?_ | (refine CwC.bf rfl ?_ ?_; focus assumption))
  refine Ow.callC rfl rfl Tryd.call9 (fun w' hw' => Read_spec (bb ++ [120]) w' (GlobC.of hG hw' (New.not (L := (b2, .cells #[vt, vl] 25 (0, 0)) :: D1) (by exact ⟨hw2, hN1'⟩) hglt)) (by simp; omega)) (fun B3 v3 D3 hA3 hB3 hN3 hS3 => ?_)
  unfold ReadS at hS3
  rw [hread] at hS3
  obtain ⟨ut, ul, rfl, hHt, hHl⟩ := hS3
  have hN3' := hN3.mono hB3
  have hst3 := store_bk (.slice none 0 0) (.slice none 0 0) ut ul 25 (gri_cell hHt).1 (gri_cell hHl).1
  refine Ow.run rfl fun k hk => ?_
  simp (disch := (first | omega | (simp only [lenS, lenT, UInt64.reduceToNat] ; try omega))) only [↓vcL_none, ↓vcB_move, ↓ov_some, putF_some, setF_s, setF_0, ↓ev_tmp, ↓getF_s, ↓getF_0, nf_cons, ↓vcB_extract, extract_t, tup3_0, tup3_1, tup3_2, ↓vcB_alloc, Md.next_seq, List.cons_append]
  (with_reducible refine hk _ _ _ _ ?_); clear hk k
  refine Ow.alloc rfl rfl zrBk fun b6 hb6 hw6 => ?_
  simp only [cells_agg, List.nil_append, List.cons_append]
  refine Ow.permL (M := (b6, .cells #[.slice none 0 0, .slice none 0 0] 25 (0, 0)) :: ((b2, .cells #[vt, vl] 25 (0, 0)) :: (D1 ++ D3))) (by classical exact List.perm_iff_count.2 fun a => by simp only [List.count_append, List.count_cons, List.count_nil] <;> omega) ?_
  refine Ow.run rfl fun k hk => ?_
  simp (disch := (first | omega | (simp only [lenS, lenT, UInt64.reduceToNat] ; try omega))) only [↓vcL_none, ↓vcB_store, Tryd.ag25, ↓ev_tmp, putF_some, setF_s, setF_0, ↓getF_s, ↓getF_0, storeAt_p, look_same, hst3, upd_some, setB_same, oh_some, ↓vcB_assign, ↓ov_some, nf_cons, ↓vcL_nil, Md.next_seq, nh_cons]
  (with_reducible refine hk _ _ _ _ ?_); clear hk k
  have hNN : New w.heap.size (D1 ++ D3) := hN1'.app hN3'
  have e0 : ((0 : Int) == 0) = true := rfl
  have e1 : (((bb.length : Nat) : Int) == (bb.length : Int)) = true := by simp
  have e2 : decide ((rr.length : Int) < (bb.length : Int)) = true := by simp; omega
  have e3 : ((bb.length : Int) - (rr.length : Int)).toNat = bb.length - rr.length := by omega
  have e4 : (rr == rr) = true := by simp
  have hsl : sliceV .str (vs bb) (some (some ((bb.length : Int) - (rr.length : Int)))) none = some (vs rr) := by
    rw [slice_str_lo bb _ ⟨by omega, by omega⟩, e3, hdrop]
  repeat' first | with_reducible (first | refine Cw.seq ?_ | refine thenK_normal ?_ | refine Ow.nil ?_) | ((with_reducible refine Cw.region (Ow.run rfl fun k hk => ?_)); simp (disch := (first | omega | (simp only [lenS, lenT, UInt64.reduceToNat] ; try omega))) only [↓vcL_none, ↓vcB_move, ↓ov_some, ↓ev_tmp, ↓getF_s, ↓getF_0, putF_some, setF_s, setF_0, nf_cons, ↓vcB_binOp, ↓ev_const, lit_i64, binX_vi_vi, bin_eql_i, beq_self_eq_true, ↓vcL_some, lit_str, lit_u8, yieldF_lit, ↓nthO_s, ↓nthO_0, yieldL_some, boolOf_b, ↓ib_true, ↓vcB_pick, pick_t, ↓vcB_len, Tryd.ix9, len_str, bin_gtr_i, e2, bin_sub_i, ↓vcB_slice, Option.map_some, ixI_vi, Option.map_none, hsl, binX_vs, bin_eql_s, ↓vcB_load, Md.next_seq, rd_seq_load, Tryd.ag25, loadAt_p, read_same, load_bk, ↓vcB_call]; (with_reducible refine hk _ _ _ _ ?_); clear hk k) | with_reducible (first | refine Cw.block ?_ | refine Cw.skip ?_ | refine Cw.exit ?_ | refine Cw.ret ?_ | refine thenK_exit ?_ | refine thenK_ret ?_ | refine blockK_normal ?_ | refine blockK_ret ?_ | refine blockK_exit ?_ | refine blockK_pass rfl ?_) | ((with_reducible refine Cw.condC ?_); first | refine CwC.pt rfl (by omega) ?_ | refine CwC.pf rfl (by omega) ?_ | refine CwC.it rfl (by omega) ?_ | refine CwC.if rfl (by omega) ?_ | refine CwC.nt rfl (by omega) ?_ | refine CwC.nf rfl (by omega) ?_ | refine CwC.tt rfl ?_ | refine CwC.ff rfl ?_ | refine CwC.bt rfl (by assumption) ?_ | (refine CwC.bf rfl ?_ ?_; focus assumption))
  refine Ow.callFV rfl Tryd.call37 (fun w' hw' => Value_spec ut ul [] [mainR] [109, 97, 105, 110] w' (GrI.slV (hHt.mono (fun p hp => by simp [hp])) hw' rfl rfl refC_len) (GrI.slV (hHl.mono (fun p hp => by simp [hp])) hw' rfl rfl refC_len) (by simp) (by simp) (fun g h => by simp at h) mainSmall.short) ?_
  rw [alive_value]
  refine Ow.run rfl fun k hk => ?_
  simp (disch := (first | omega | (simp only [lenS, lenT, UInt64.reduceToNat] ; try omega))) only [↓vcL_some, lit_i64, lit_str, lit_u8, putF_some, setF_s, setF_0, yieldF_lit, ↓nthO_s, ↓nthO_0, yieldL_some, ↓getF_s, ↓getF_0, boolOf_b, beq_self_eq_true, ↓ib_true, ↓vcB_build, Md.next_seq]
  (with_reducible refine hk _ _ _ _ ?_); clear hk k
  refine Ow.build (.agg (a8 id1.l)) rfl (by kernel_rfl) ?_
  have e5 := eqId id1.l id1.l ⟨id1.h, id1.h⟩
  have e6 : (id1.l == id1.l) = true := by simp
  refine Ow.run rfl fun k hk => ?_
  simp (disch := (first | omega | (simp only [lenS, lenT, UInt64.reduceToNat] ; try omega))) only [↓vcL_some, lit_i64, lit_str, lit_u8, putF_some, setF_s, setF_0, yieldF_lit, ↓nthO_s, ↓nthO_0, yieldL_some, ↓getF_s, ↓getF_0, boolOf_b, beq_self_eq_true, ↓ib_true, ↓vcB_binOp, ↓ev_tmp, e5, ↓ov_some, nf_cons, ↓vcL_none, ↓vcB_pick, ↓ev_const, pick_t, ↓vcB_assign, ↓vcL_nil, Md.next_seq]
  (with_reducible refine hk _ _ _ _ ?_); clear hk k
  repeat' first | with_reducible (first | refine Cw.seq ?_ | refine thenK_normal ?_ | refine Ow.nil ?_) | ((with_reducible refine Cw.region (Ow.run rfl fun k hk => ?_)); simp (disch := (first | omega | (simp only [lenS, lenT, UInt64.reduceToNat] ; try omega))) only []; (with_reducible refine hk _ _ _ _ ?_); clear hk k) | with_reducible (first | refine Cw.block ?_ | refine Cw.skip ?_ | refine Cw.exit ?_ | refine Cw.ret ?_ | refine thenK_exit ?_ | refine thenK_ret ?_ | refine blockK_normal ?_ | refine blockK_ret ?_ | refine blockK_exit ?_ | refine blockK_pass rfl ?_) | ((with_reducible refine Cw.condC ?_); first | refine CwC.pt rfl (by omega) ?_ | refine CwC.pf rfl (by omega) ?_ | refine CwC.it rfl (by omega) ?_ | refine CwC.if rfl (by omega) ?_ | refine CwC.nt rfl (by omega) ?_ | refine CwC.nf rfl (by omega) ?_ | refine CwC.tt rfl ?_ | refine CwC.ff rfl ?_ | refine CwC.bt rfl (by assumption) ?_ | (refine CwC.bf rfl ?_ ?_; focus assumption))
  refine ⟨_, (by simp (disch := (first | omega | (simp only [lenS, lenT, UInt64.reduceToNat] ; try omega))) only [resVs_cons, resV_tmp, ↓getF_0, resVs_nil, cons2_some]; rfl), ⟨hw6, hw2, hNN⟩, ?_⟩
  rfl
end Go.Proofs
open Go Go.Proofs Go.Sx Go.RefP
namespace Go.Proofs
set_option maxRecDepth 10000
set_option maxHeartbeats 4000000
set_option linter.unusedSimpArgs false
theorem sameR_refl (l : List RefL) : sameR l l = true := by unfold sameR; simp
theorem logsR_len (s : List UInt8) (tb : List RefL) : ∀ (n : Nat) (log : List RefL) (a : Nat), (logsR s tb n log a).1.length ≤ n + log.length
  | 0, log, a => by simp [logsR]
  | n + 1, log, a => by
    unfold logsR
    cases hn : nextR s tb log a with
    | none => simp only; omega
    | some p =>
      have h1 := logsR_len s tb n p.1 p.2
      have h2 := (nextR_len hn).1
      simp only; omega
theorem book_bounds {s : List UInt8} {tb log : List RefL} {a : Nat} (h : bookR s = some (tb, log, a)) : tb.length ≤ 16 ∧ log.length ≤ 101 := by
  unfold bookR at h
  cases hh : headR s with
  | none => rw [hh] at h; cases h
  | some p =>
    rw [hh] at h
    simp only [Option.map_some, Option.some.injEq, Prod.mk.injEq] at h
    obtain ⟨rfl, h2⟩ := h
    refine ⟨?_, ?_⟩
    · unfold headR at hh
      split at hh
      · cases hh
      · rename_i c at_ e hr
        simp only at hh
        split at hh
        · cases hh
          rw [refsR_length]
          have := numR_most (s := c) (a := 0) (e := 0) (most := 16) (by omega)
          omega
        · cases hh
    · have := logsR_len s p.1 101 [] p.2
      rw [h2] at this
      simpa using this
theorem RefsReads_spec (s : List UInt8) (w : World) (hG : GlobC w) : Rets Tryd.prog 3 #[vs s] w (fun v D => v = .bool true ∧ D = []) := by
  have hglt : (3 : Nat) < w.heap.size := by obtain ⟨e, f, h⟩ := hG; exact (Array.getElem?_eq_some_iff.1 h).1
  refine Rets.enterV Tryd.func3 rfl (rs := [.tmp 2]) Tryd.results3 Tryd.ntmps3 ?_
  simp only [List.size_toArray, List.length_cons, List.length_nil, Nat.reduceAdd, Nat.reduceSub, List.replicate_succ, List.replicate_zero, List.cons_append, List.nil_append]
  repeat' first | with_reducible (first | refine Cw.seq ?_ | refine thenK_normal ?_ | refine Ow.nil ?_) | ((with_reducible refine Cw.region (Ow.run rfl fun k hk => ?_)); simp (disch := (first | omega | (simp only [lenS, lenT, UInt64.reduceToNat] ; try omega))) only [↓vcL_none, ↓vcB_assign, ↓ov_some, ↓ev_const, putF_some, setF_s, setF_0, nf_cons, ↓vcL_nil, Md.next_seq, ↓vcB_call]; (with_reducible refine hk _ _ _ _ ?_); clear hk k) | with_reducible (first | refine Cw.block ?_ | refine Cw.skip ?_ | refine Cw.exit ?_ | refine Cw.ret ?_ | refine thenK_exit ?_ | refine thenK_ret ?_ | refine blockK_normal ?_ | refine blockK_ret ?_ | refine blockK_exit ?_ | refine blockK_pass rfl ?_) | ((with_reducible refine Cw.condC ?_); first | refine CwC.pt rfl (by omega) ?_ | refine CwC.pf rfl (by omega) ?_ | refine CwC.it rfl (by omega) ?_ | refine CwC.if rfl (by omega) ?_ | refine CwC.nt rfl (by omega) ?_ | refine CwC.nf rfl (by omega) ?_ | refine CwC.tt rfl ?_ | refine CwC.ff rfl ?_ | refine CwC.bt rfl (by assumption) ?_ | (refine CwC.bf rfl ?_ ?_; focus assumption))
  refine Ow.callFV rfl Tryd.call8 (fun w' hw' => alive16_spec w' (GlobC.of hG hw' (by simp [keys]))) ?_
  refine Ow.run rfl fun k hk => ?_
  simp (disch := (first | omega | (simp only [lenS, lenT, UInt64.reduceToNat] ; try omega))) only [↓vcL_none, ↓vcB_unOp, ↓ev_tmp, putF_some, setF_s, setF_0, ↓getF_s, ↓getF_0, un_not, Bool.not_true, ↓ov_some, nf_cons, ↓vcL_nil, Md.next_seq]
  (with_reducible refine hk _ _ _ _ ?_); clear hk k
  repeat' first | with_reducible (first | refine Cw.seq ?_ | refine thenK_normal ?_ | refine Ow.nil ?_) | ((with_reducible refine Cw.region (Ow.run rfl fun k hk => ?_)); simp (disch := (first | omega | (simp only [lenS, lenT, UInt64.reduceToNat] ; try omega))) only [↓vcL_none, ↓vcB_move, ↓ov_some, ↓ev_tmp, ↓getF_0, putF_some, setF_s, setF_0, nf_cons, ↓vcB_len, Tryd.ix9, ↓getF_s, len_str, ↓vcB_binOp, ↓ev_const, lit_i64, binX_vi_vi, bin_gtr_i, ↓vcL_nil, Md.next_seq]; (with_reducible refine hk _ _ _ _ ?_); clear hk k) | with_reducible (first | refine Cw.block ?_ | refine Cw.skip ?_ | refine Cw.exit ?_ | refine Cw.ret ?_ | refine thenK_exit ?_ | refine thenK_ret ?_ | refine blockK_normal ?_ | refine blockK_ret ?_ | refine blockK_exit ?_ | refine blockK_pass rfl ?_) | ((with_reducible refine Cw.condC ?_); first | refine CwC.pt rfl (by omega) ?_ | refine CwC.pf rfl (by omega) ?_ | refine CwC.it rfl (by omega) ?_ | refine CwC.if rfl (by omega) ?_ | refine CwC.nt rfl (by omega) ?_ | refine CwC.nf rfl (by omega) ?_ | refine CwC.tt rfl ?_ | refine CwC.ff rfl ?_ | refine CwC.bt rfl (by assumption) ?_ | (refine CwC.bf rfl ?_ ?_; focus assumption))
  by_cases h9 : s.length ≤ 9000
  · have hd : decide ((9000 : Int) < (s.length : Int)) = false := by simp; omega
    repeat' first | with_reducible (first | refine Cw.seq ?_ | refine thenK_normal ?_ | refine Ow.nil ?_) | ((with_reducible refine Cw.region (Ow.run rfl fun k hk => ?_)); simp (disch := (first | omega | (simp only [lenS, lenT, UInt64.reduceToNat] ; try omega))) only [↓vcL_none, ↓vcB_move, ↓ov_some, hd, ↓ev_tmp, ↓getF_0, putF_some, setF_s, setF_0, nf_cons, ↓vcB_call, Md.next_seq]; (with_reducible refine hk _ _ _ _ ?_); clear hk k) | with_reducible (first | refine Cw.block ?_ | refine Cw.skip ?_ | refine Cw.exit ?_ | refine Cw.ret ?_ | refine thenK_exit ?_ | refine thenK_ret ?_ | refine blockK_normal ?_ | refine blockK_ret ?_ | refine blockK_exit ?_ | refine blockK_pass rfl ?_) | ((with_reducible refine Cw.condC ?_); first | refine CwC.pt rfl (by omega) ?_ | refine CwC.pf rfl (by omega) ?_ | refine CwC.it rfl (by omega) ?_ | refine CwC.if rfl (by omega) ?_ | refine CwC.nt rfl (by omega) ?_ | refine CwC.nf rfl (by omega) ?_ | refine CwC.tt rfl ?_ | refine CwC.ff rfl ?_ | refine CwC.bt rfl (by assumption) ?_ | (refine CwC.bf rfl ?_ ?_; focus assumption))
    refine Ow.callC rfl rfl Tryd.call9 (fun w' hw' => Read_spec s w' (GlobC.of hG hw' (by simp [keys])) (by omega)) (fun B1 v1 D1 hA1 hB1 hN1 hS1 => ?_)
    have hN1' := hN1.mono hB1
    unfold ReadS at hS1
    cases hbk : bookR s with
    | none =>
      rw [hbk] at hS1
      simp only at hS1
      subst hS1
      refine Ow.run rfl fun k hk => ?_
      simp (disch := (first | omega | (simp only [lenS, lenT, UInt64.reduceToNat] ; try omega))) only [↓vcL_none, ↓vcB_move, ↓ov_some, putF_some, setF_s, setF_0, ↓ev_tmp, ↓getF_s, ↓getF_0, nf_cons, ↓vcB_extract, extract_t, tup3_0, tup3_1, tup3_2, ↓vcB_alloc, Md.next_seq, List.nil_append]
      (with_reducible refine hk _ _ _ _ ?_); clear hk k
      refine Ow.alloc rfl rfl zrBk fun b3 hb3 hw3 => ?_
      simp only [cells_agg, List.nil_append, List.cons_append]
      refine Ow.permL (M := (b3, .cells #[.slice none 0 0, .slice none 0 0] 25 (0, 0)) :: D1) (by classical exact List.perm_iff_count.2 fun a => by simp only [List.count_append, List.count_cons, List.count_nil] <;> omega) ?_
      refine Ow.run rfl fun k hk => ?_
      simp (disch := (first | omega | (simp only [lenS, lenT, UInt64.reduceToNat] ; try omega))) only [↓vcL_none, ↓vcB_store, Tryd.ag25, ↓ev_tmp, putF_some, setF_s, setF_0, ↓getF_s, ↓getF_0, storeAt_p, look_same, store_bk0, upd_some, setB_same, oh_some, ↓vcB_assign, ↓ov_some, nf_cons, ↓vcL_nil, Md.next_seq, nh_cons]
      (with_reducible refine hk _ _ _ _ ?_); clear hk k
      repeat' first | with_reducible (first | refine Cw.seq ?_ | refine thenK_normal ?_ | refine Ow.nil ?_) | ((with_reducible refine Cw.region (Ow.run rfl fun k hk => ?_)); simp (disch := (first | omega | (simp only [lenS, lenT, UInt64.reduceToNat] ; try omega))) only [↓vcL_none, ↓vcB_move, ↓ov_some, ↓ev_tmp, ↓getF_0, putF_some, setF_s, setF_0, nf_cons, ↓vcB_call, Md.next_seq]; (with_reducible refine hk _ _ _ _ ?_); clear hk k) | with_reducible (first | refine Cw.block ?_ | refine Cw.skip ?_ | refine Cw.exit ?_ | refine Cw.ret ?_ | refine thenK_exit ?_ | refine thenK_ret ?_ | refine blockK_normal ?_ | refine blockK_ret ?_ | refine blockK_exit ?_ | refine blockK_pass rfl ?_) | ((with_reducible refine Cw.condC ?_); first | refine CwC.pt rfl (by omega) ?_ | refine CwC.pf rfl (by omega) ?_ | refine CwC.it rfl (by omega) ?_ | refine CwC.if rfl (by omega) ?_ | refine CwC.nt rfl (by omega) ?_ | refine CwC.nf rfl (by omega) ?_ | refine CwC.tt rfl ?_ | refine CwC.ff rfl ?_ | refine CwC.bt rfl (by assumption) ?_ | (refine CwC.bf rfl ?_ ?_; focus assumption))
      refine Ow.callC rfl rfl Tryd.call10 (fun w' hw' => refRead_spec s w' (by omega)) (fun B2 v2 D2 hA2 hB2 hN2 hS2 => ?_)
      have hN2' := hN2.mono hB2
      unfold RefReadS at hS2
      rw [hbk] at hS2
      simp only at hS2
      subst hS2
      refine Ow.run rfl fun k hk => ?_
      simp (disch := (first | omega | (simp only [lenS, lenT, UInt64.reduceToNat] ; try omega))) only [↓vcL_none, ↓vcB_move, ↓ov_some, putF_some, setF_s, setF_0, ↓ev_tmp, ↓getF_s, ↓getF_0, nf_cons, ↓vcB_extract, extract_t, tup3_0, tup3_1, tup3_2, ↓vcB_alloc, Md.next_seq, List.cons_append]
      (with_reducible refine hk _ _ _ _ ?_); clear hk k
      refine Ow.alloc rfl rfl zrBk fun b6 hb6 hw6 => ?_
      simp only [cells_agg, List.nil_append, List.cons_append]
      refine Ow.permL (M := (b6, .cells #[.slice none 0 0, .slice none 0 0] 25 (0, 0)) :: (b3, .cells #[.slice none 0 0, .slice none 0 0] 25 (0, 0)) :: (D1 ++ D2)) (by classical exact List.perm_iff_count.2 fun a => by simp only [List.count_append, List.count_cons, List.count_nil] <;> omega) ?_
      have h36 : b3 < b6 := above_to hb6 (by simp [keys])
      have hNN := hN1'.app hN2'
      refine Ow.run rfl fun k hk => ?_
      simp (disch := (first | omega | (simp only [lenS, lenT, UInt64.reduceToNat] ; try omega))) only [↓vcL_none, ↓vcB_store, Tryd.ag25, ↓ev_tmp, putF_some, setF_s, setF_0, ↓getF_s, ↓getF_0, storeAt_p, look_same, store_bk0, upd_some, setB_same, oh_some, ↓vcB_assign, ↓ov_some, nf_cons, ↓vcL_nil, Md.next_seq, nh_cons]
      (with_reducible refine hk _ _ _ _ ?_); clear hk k
      repeat' first | with_reducible (first | refine Cw.seq ?_ | refine thenK_normal ?_ | refine Ow.nil ?_) | ((with_reducible refine Cw.region (Ow.run rfl fun k hk => ?_)); simp (disch := (first | omega | (simp only [lenS, lenT, UInt64.reduceToNat] ; try omega))) only [↓vcL_none, ↓vcB_call, lit_i64]; (with_reducible refine hk _ _ _ _ ?_); clear hk k) | with_reducible (first | refine Cw.block ?_ | refine Cw.skip ?_ | refine Cw.exit ?_ | refine Cw.ret ?_ | refine thenK_exit ?_ | refine thenK_ret ?_ | refine blockK_normal ?_ | refine blockK_ret ?_ | refine blockK_exit ?_ | refine blockK_pass rfl ?_) | ((with_reducible refine Cw.condC ?_); first | refine CwC.pt rfl (by omega) ?_ | refine CwC.pf rfl (by omega) ?_ | refine CwC.it rfl (by omega) ?_ | refine CwC.if rfl (by omega) ?_ | refine CwC.nt rfl (by omega) ?_ | refine CwC.nf rfl (by omega) ?_ | refine CwC.tt rfl ?_ | refine CwC.ff rfl ?_ | refine CwC.bt rfl (by assumption) ?_ | (refine CwC.bf rfl ?_ ?_; focus assumption))
      refine Ow.callFV rfl Tryd.call8 (fun w' hw' => alive16_spec w' (GlobC.of hG hw' (New.not (L := (b6, .cells #[.slice none 0 0, .slice none 0 0] 25 (0, 0)) :: (b3, .cells #[.slice none 0 0, .slice none 0 0] 25 (0, 0)) :: (D1 ++ D2)) (by exact ⟨hw6, hw3, hNN⟩) hglt))) ?_
      have e0 : ((0 : Int) == 0) = true := rfl
      have e1 : ((2 : Int) == 0) = false := rfl
      have e2 : ((2 : Int) == 2) = true := rfl
      have e3 : (false == false) = true := rfl
      refine Ow.run rfl fun k hk => ?_
      simp (disch := (first | omega | (simp only [lenS, lenT, UInt64.reduceToNat] ; try omega))) only [↓vcL_none, ↓vcB_move, ↓ov_some, putF_some, setF_s, setF_0, ↓ev_tmp, ↓getF_s, ↓getF_0, nf_cons, ↓vcL_some, lit_i64, yieldF_lit, ↓nthO_s, ↓nthO_0, yieldL_some, boolOf_b, beq_self_eq_true, ↓ib_true, ↓vcB_load, Md.next_seq, rd_seq_load, Tryd.ag25, loadAt_p, read_other, read_same, load_bk, ↓vcB_call]
      (with_reducible refine hk _ _ _ _ ?_); clear hk k
      repeat' first | with_reducible (first | refine Cw.seq ?_ | refine thenK_normal ?_ | refine Ow.nil ?_) | ((with_reducible refine Cw.region (Ow.run rfl fun k hk => ?_)); simp (disch := (first | omega | (simp only [lenS, lenT, UInt64.reduceToNat] ; try omega))) only []; (with_reducible refine hk _ _ _ _ ?_); clear hk k) | with_reducible (first | refine Cw.block ?_ | refine Cw.skip ?_ | refine Cw.exit ?_ | refine Cw.ret ?_ | refine thenK_exit ?_ | refine thenK_ret ?_ | refine blockK_normal ?_ | refine blockK_ret ?_ | refine blockK_exit ?_ | refine blockK_pass rfl ?_) | ((with_reducible refine Cw.condC ?_); first | refine CwC.pt rfl (by omega) ?_ | refine CwC.pf rfl (by omega) ?_ | refine CwC.it rfl (by omega) ?_ | refine CwC.if rfl (by omega) ?_ | refine CwC.nt rfl (by omega) ?_ | refine CwC.nf rfl (by omega) ?_ | refine CwC.tt rfl ?_ | refine CwC.ff rfl ?_ | refine CwC.bt rfl (by assumption) ?_ | (refine CwC.bf rfl ?_ ?_; focus assumption))
      refine Ow.callFV rfl Tryd.call11 (fun w' hw' => Same_spec (.slice none 0 0) (.slice none 0 0) (.slice none 0 0) (.slice none 0 0) [] [] [] [] w' (SlV.nil w') (SlV.nil w') (SlV.nil w') (SlV.nil w') (by simp) (by simp) (by simp) (by simp)) ?_
      rw [sameR_refl, Bool.and_self]
      refine Ow.run rfl fun k hk => ?_
      simp (disch := (first | omega | (simp only [lenS, lenT, UInt64.reduceToNat] ; try omega))) only [↓vcL_none, ↓vcB_pick, ↓ev_tmp, putF_some, setF_s, setF_0, ↓getF_s, ↓getF_0, ↓ev_const, pick_t, ↓ov_some, nf_cons, ↓vcB_move, ↓vcL_some, lit_i64, yieldF_lit, ↓nthO_s, ↓nthO_0, yieldL_some, boolOf_b, beq_self_eq_true, ↓ib_true, ↓vcB_binOp, binX_vi_vi, bin_eql_i, e1, eqb, pick_f, ↓vcB_assign, ↓vcL_nil, Md.next_seq]
      (with_reducible refine hk _ _ _ _ ?_); clear hk k
      repeat' first | with_reducible (first | refine Cw.seq ?_ | refine thenK_normal ?_ | refine Ow.nil ?_) | ((with_reducible refine Cw.region (Ow.run rfl fun k hk => ?_)); simp (disch := (first | omega | (simp only [lenS, lenT, UInt64.reduceToNat] ; try omega))) only []; (with_reducible refine hk _ _ _ _ ?_); clear hk k) | with_reducible (first | refine Cw.block ?_ | refine Cw.skip ?_ | refine Cw.exit ?_ | refine Cw.ret ?_ | refine thenK_exit ?_ | refine thenK_ret ?_ | refine blockK_normal ?_ | refine blockK_ret ?_ | refine blockK_exit ?_ | refine blockK_pass rfl ?_) | ((with_reducible refine Cw.condC ?_); first | refine CwC.pt rfl (by omega) ?_ | refine CwC.pf rfl (by omega) ?_ | refine CwC.it rfl (by omega) ?_ | refine CwC.if rfl (by omega) ?_ | refine CwC.nt rfl (by omega) ?_ | refine CwC.nf rfl (by omega) ?_ | refine CwC.tt rfl ?_ | refine CwC.ff rfl ?_ | refine CwC.bt rfl (by assumption) ?_ | (refine CwC.bf rfl ?_ ?_; focus assumption))
      refine ⟨_, (by simp (disch := (first | omega | (simp only [lenS, lenT, UInt64.reduceToNat] ; try omega))) only [resVs_cons, resV_tmp, ↓getF_s, ↓getF_0, resVs_nil, cons2_some]; rfl), ⟨hw6, hw3, hNN⟩, ?_⟩
      rfl
    | some p =>
      obtain ⟨tb, log, a⟩ := p
      have hbd := book_bounds hbk
      rw [hbk] at hS1
      obtain ⟨vt, vl, rfl, hGt, hGl⟩ := hS1
      have hst1 := store_bk (.slice none 0 0) (.slice none 0 0) vt vl 25 (gri_cell hGt).1 (gri_cell hGl).1
      refine Ow.run rfl fun k hk => ?_
      simp (disch := (first | omega | (simp only [lenS, lenT, UInt64.reduceToNat] ; try omega))) only [↓vcL_none, ↓vcB_move, ↓ov_some, putF_some, setF_s, setF_0, ↓ev_tmp, ↓getF_s, ↓getF_0, nf_cons, ↓vcB_extract, extract_t, tup3_0, tup3_1, tup3_2, ↓vcB_alloc, Md.next_seq, List.nil_append]
      (with_reducible refine hk _ _ _ _ ?_); clear hk k
      refine Ow.alloc rfl rfl zrBk fun b3 hb3 hw3 => ?_
      simp only [cells_agg, List.nil_append, List.cons_append]
      refine Ow.permL (M := (b3, .cells #[.slice none 0 0, .slice none 0 0] 25 (0, 0)) :: D1) (by classical exact List.perm_iff_count.2 fun a => by simp only [List.count_append, List.count_cons, List.count_nil] <;> omega) ?_
      refine Ow.run rfl fun k hk => ?_
      simp (disch := (first | omega | (simp only [lenS, lenT, UInt64.reduceToNat] ; try omega))) only [↓vcL_none, ↓vcB_store, Tryd.ag25, ↓ev_tmp, putF_some, setF_s, setF_0, ↓getF_s, ↓getF_0, storeAt_p, look_same, hst1, upd_some, setB_same, oh_some, ↓vcB_assign, ↓ov_some, nf_cons, ↓vcL_nil, Md.next_seq, nh_cons]
      (with_reducible refine hk _ _ _ _ ?_); clear hk k
      repeat' first | with_reducible (first | refine Cw.seq ?_ | refine thenK_normal ?_ | refine Ow.nil ?_) | ((with_reducible refine Cw.region (Ow.run rfl fun k hk => ?_)); simp (disch := (first | omega | (simp only [lenS, lenT, UInt64.reduceToNat] ; try omega))) only [↓vcL_none, ↓vcB_move, ↓ov_some, ↓ev_tmp, ↓getF_0, putF_some, setF_s, setF_0, nf_cons, ↓vcB_call, Md.next_seq]; (with_reducible refine hk _ _ _ _ ?_); clear hk k) | with_reducible (first | refine Cw.block ?_ | refine Cw.skip ?_ | refine Cw.exit ?_ | refine Cw.ret ?_ | refine thenK_exit ?_ | refine thenK_ret ?_ | refine blockK_normal ?_ | refine blockK_ret ?_ | refine blockK_exit ?_ | refine blockK_pass rfl ?_) | ((with_reducible refine Cw.condC ?_); first | refine CwC.pt rfl (by omega) ?_ | refine CwC.pf rfl (by omega) ?_ | refine CwC.it rfl (by omega) ?_ | refine CwC.if rfl (by omega) ?_ | refine CwC.nt rfl (by omega) ?_ | refine CwC.nf rfl (by omega) ?_ | refine CwC.tt rfl ?_ | refine CwC.ff rfl ?_ | refine CwC.bt rfl (by assumption) ?_ | (refine CwC.bf rfl ?_ ?_; focus assumption))
      refine Ow.callC rfl rfl Tryd.call10 (fun w' hw' => refRead_spec s w' (by omega)) (fun B2 v2 D2 hA2 hB2 hN2 hS2 => ?_)
      have hN2' := hN2.mono hB2
      unfold RefReadS at hS2
      rw [hbk] at hS2
      obtain ⟨ut, ul, rfl, hHt, hHl⟩ := hS2
      have hst2 := store_bk (.slice none 0 0) (.slice none 0 0) ut ul 25 (gri_cell hHt).1 (gri_cell hHl).1
      refine Ow.run rfl fun k hk => ?_
      simp (disch := (first | omega | (simp only [lenS, lenT, UInt64.reduceToNat] ; try omega))) only [↓vcL_none, ↓vcB_move, ↓ov_some, putF_some, setF_s, setF_0, ↓ev_tmp, ↓getF_s, ↓getF_0, nf_cons, ↓vcB_extract, extract_t, tup3_0, tup3_1, tup3_2, ↓vcB_alloc, Md.next_seq, List.cons_append]
      (with_reducible refine hk _ _ _ _ ?_); clear hk k
      refine Ow.alloc rfl rfl zrBk fun b6 hb6 hw6 => ?_
      simp only [cells_agg, List.nil_append, List.cons_append]
      refine Ow.permL (M := (b6, .cells #[.slice none 0 0, .slice none 0 0] 25 (0, 0)) :: (b3, .cells #[vt, vl] 25 (0, 0)) :: (D1 ++ D2)) (by classical exact List.perm_iff_count.2 fun a => by simp only [List.count_append, List.count_cons, List.count_nil] <;> omega) ?_
      have h36 : b3 < b6 := above_to hb6 (by simp [keys])
      have hNN := hN1'.app hN2'
      refine Ow.run rfl fun k hk => ?_
      simp (disch := (first | omega | (simp only [lenS, lenT, UInt64.reduceToNat] ; try omega))) only [↓vcL_none, ↓vcB_store, Tryd.ag25, ↓ev_tmp, putF_some, setF_s, setF_0, ↓getF_s, ↓getF_0, storeAt_p, look_same, hst2, upd_some, setB_same, oh_some, ↓vcB_assign, ↓ov_some, nf_cons, ↓vcL_nil, Md.next_seq, nh_cons]
      (with_reducible refine hk _ _ _ _ ?_); clear hk k
      repeat' first | with_reducible (first | refine Cw.seq ?_ | refine thenK_normal ?_ | refine Ow.nil ?_) | ((with_reducible refine Cw.region (Ow.run rfl fun k hk => ?_)); simp (disch := (first | omega | (simp only [lenS, lenT, UInt64.reduceToNat] ; try omega))) only [↓vcL_none, ↓vcB_call, lit_i64]; (with_reducible refine hk _ _ _ _ ?_); clear hk k) | with_reducible (first | refine Cw.block ?_ | refine Cw.skip ?_ | refine Cw.exit ?_ | refine Cw.ret ?_ | refine thenK_exit ?_ | refine thenK_ret ?_ | refine blockK_normal ?_ | refine blockK_ret ?_ | refine blockK_exit ?_ | refine blockK_pass rfl ?_) | ((with_reducible refine Cw.condC ?_); first | refine CwC.pt rfl (by omega) ?_ | refine CwC.pf rfl (by omega) ?_ | refine CwC.it rfl (by omega) ?_ | refine CwC.if rfl (by omega) ?_ | refine CwC.nt rfl (by omega) ?_ | refine CwC.nf rfl (by omega) ?_ | refine CwC.tt rfl ?_ | refine CwC.ff rfl ?_ | refine CwC.bt rfl (by assumption) ?_ | (refine CwC.bf rfl ?_ ?_; focus assumption))
      refine Ow.callFV rfl Tryd.call8 (fun w' hw' => alive16_spec w' (GlobC.of hG hw' (New.not (L := (b6, .cells #[ut, ul] 25 (0, 0)) :: (b3, .cells #[vt, vl] 25 (0, 0)) :: (D1 ++ D2)) (by exact ⟨hw6, hw3, hNN⟩) hglt))) ?_
      have e0 : ((0 : Int) == 0) = true := rfl
      have e1 : (((a : Nat) : Int) == (a : Int)) = true := by simp
      have e3 : (true == true) = true := rfl
      refine Ow.run rfl fun k hk => ?_
      simp (disch := (first | omega | (simp only [lenS, lenT, UInt64.reduceToNat] ; try omega))) only [↓vcL_none, ↓vcB_move, ↓ov_some, putF_some, setF_s, setF_0, ↓ev_tmp, ↓getF_s, ↓getF_0, nf_cons, ↓vcL_some, lit_i64, yieldF_lit, ↓nthO_s, ↓nthO_0, yieldL_some, boolOf_b, beq_self_eq_true, ↓ib_true, ↓vcB_load, Md.next_seq, rd_seq_load, Tryd.ag25, loadAt_p, read_other, read_same, load_bk, ↓vcB_call]
      (with_reducible refine hk _ _ _ _ ?_); clear hk k
      repeat' first | with_reducible (first | refine Cw.seq ?_ | refine thenK_normal ?_ | refine Ow.nil ?_) | ((with_reducible refine Cw.region (Ow.run rfl fun k hk => ?_)); simp (disch := (first | omega | (simp only [lenS, lenT, UInt64.reduceToNat] ; try omega))) only []; (with_reducible refine hk _ _ _ _ ?_); clear hk k) | with_reducible (first | refine Cw.block ?_ | refine Cw.skip ?_ | refine Cw.exit ?_ | refine Cw.ret ?_ | refine thenK_exit ?_ | refine thenK_ret ?_ | refine blockK_normal ?_ | refine blockK_ret ?_ | refine blockK_exit ?_ | refine blockK_pass rfl ?_) | ((with_reducible refine Cw.condC ?_); first | refine CwC.pt rfl (by omega) ?_ | refine CwC.pf rfl (by omega) ?_ | refine CwC.it rfl (by omega) ?_ | refine CwC.if rfl (by omega) ?_ | refine CwC.nt rfl (by omega) ?_ | refine CwC.nf rfl (by omega) ?_ | refine CwC.tt rfl ?_ | refine CwC.ff rfl ?_ | refine CwC.bt rfl (by assumption) ?_ | (refine CwC.bf rfl ?_ ?_; focus assumption))
      refine Ow.callFV rfl Tryd.call11 (fun w' hw' => Same_spec vt vl ut ul tb log tb log w' (GrI.slV (hGt.mono (fun p hp => by simp [hp])) hw' rfl rfl refC_len) (GrI.slV (hGl.mono (fun p hp => by simp [hp])) hw' rfl rfl refC_len) (GrI.slV (hHt.mono (fun p hp => by simp [hp])) hw' rfl rfl refC_len) (GrI.slV (hHl.mono (fun p hp => by simp [hp])) hw' rfl rfl refC_len) (by omega) (by omega) (by omega) (by omega)) ?_
      rw [sameR_refl, sameR_refl, Bool.and_self]
      refine Ow.run rfl fun k hk => ?_
      simp (disch := (first | omega | (simp only [lenS, lenT, UInt64.reduceToNat] ; try omega))) only [↓vcL_none, ↓vcB_pick, ↓ev_tmp, putF_some, setF_s, setF_0, ↓getF_s, ↓getF_0, ↓ev_const, pick_t, ↓ov_some, nf_cons, ↓vcB_move, ↓vcL_some, lit_i64, yieldF_lit, ↓nthO_s, ↓nthO_0, yieldL_some, boolOf_b, beq_self_eq_true, ↓ib_true, ↓vcB_binOp, binX_vi_vi, bin_eql_i, eqb, some_beq, beq_false, Bool.not_true, ↓ib_false, ↓vcB_assign, ↓vcL_nil, Md.next_seq]
      (with_reducible refine hk _ _ _ _ ?_); clear hk k
      repeat' first | with_reducible (first | refine Cw.seq ?_ | refine thenK_normal ?_ | refine Ow.nil ?_) | ((with_reducible refine Cw.region (Ow.run rfl fun k hk => ?_)); simp (disch := (first | omega | (simp only [lenS, lenT, UInt64.reduceToNat] ; try omega))) only []; (with_reducible refine hk _ _ _ _ ?_); clear hk k) | with_reducible (first | refine Cw.block ?_ | refine Cw.skip ?_ | refine Cw.exit ?_ | refine Cw.ret ?_ | refine thenK_exit ?_ | refine thenK_ret ?_ | refine blockK_normal ?_ | refine blockK_ret ?_ | refine blockK_exit ?_ | refine blockK_pass rfl ?_) | ((with_reducible refine Cw.condC ?_); first | refine CwC.pt rfl (by omega) ?_ | refine CwC.pf rfl (by omega) ?_ | refine CwC.it rfl (by omega) ?_ | refine CwC.if rfl (by omega) ?_ | refine CwC.nt rfl (by omega) ?_ | refine CwC.nf rfl (by omega) ?_ | refine CwC.tt rfl ?_ | refine CwC.ff rfl ?_ | refine CwC.bt rfl (by assumption) ?_ | (refine CwC.bf rfl ?_ ?_; focus assumption))
      refine ⟨_, (by simp (disch := (first | omega | (simp only [lenS, lenT, UInt64.reduceToNat] ; try omega))) only [resVs_cons, resV_tmp, ↓getF_s, ↓getF_0, resVs_nil, cons2_some]; rfl), ⟨hw6, hw3, hNN⟩, ?_⟩
      rfl
  · have hd : decide ((9000 : Int) < (s.length : Int)) = true := by simp; omega
    repeat' first | with_reducible (first | refine Cw.seq ?_ | refine thenK_normal ?_ | refine Ow.nil ?_) | ((with_reducible refine Cw.region (Ow.run rfl fun k hk => ?_)); simp (disch := (first | omega | (simp only [lenS, lenT, UInt64.reduceToNat] ; try omega))) only [↓vcL_none, ↓vcB_call, hd]; (with_reducible refine hk _ _ _ _ ?_); clear hk k) | with_reducible (first | refine Cw.block ?_ | refine Cw.skip ?_ | refine Cw.exit ?_ | refine Cw.ret ?_ | refine thenK_exit ?_ | refine thenK_ret ?_ | refine blockK_normal ?_ | refine blockK_ret ?_ | refine blockK_exit ?_ | refine blockK_pass rfl ?_) | ((with_reducible refine Cw.condC ?_); first | refine CwC.pt rfl (by omega) ?_ | refine CwC.pf rfl (by omega) ?_ | refine CwC.it rfl (by omega) ?_ | refine CwC.if rfl (by omega) ?_ | refine CwC.nt rfl (by omega) ?_ | refine CwC.nf rfl (by omega) ?_ | refine CwC.tt rfl ?_ | refine CwC.ff rfl ?_ | refine CwC.bt rfl (by assumption) ?_ | (refine CwC.bf rfl ?_ ?_; focus assumption))
    refine Ow.callFV rfl Tryd.call8 (fun w' hw' => alive16_spec w' (GlobC.of hG hw' (by simp [keys]))) ?_
    refine Ow.run rfl fun k hk => ?_
    simp (disch := (first | omega | (simp only [lenS, lenT, UInt64.reduceToNat] ; try omega))) only [↓vcL_none, ↓vcB_assign, ↓ov_some, putF_some, setF_s, setF_0, ↓ev_tmp, ↓getF_s, ↓getF_0, nf_cons, ↓vcL_nil, Md.next_seq]
    (with_reducible refine hk _ _ _ _ ?_); clear hk k
    repeat' first | with_reducible (first | refine Cw.seq ?_ | refine thenK_normal ?_ | refine Ow.nil ?_) | ((with_reducible refine Cw.region (Ow.run rfl fun k hk => ?_)); simp (disch := (first | omega | (simp only [lenS, lenT, UInt64.reduceToNat] ; try omega))) only []; (with_reducible refine hk _ _ _ _ ?_); clear hk k) | with_reducible (first | refine Cw.block ?_ | refine Cw.skip ?_ | refine Cw.exit ?_ | refine Cw.ret ?_ | refine thenK_exit ?_ | refine thenK_ret ?_ | refine blockK_normal ?_ | refine blockK_ret ?_ | refine blockK_exit ?_ | refine blockK_pass rfl ?_) | ((with_reducible refine Cw.condC ?_); first | refine CwC.pt rfl (by omega) ?_ | refine CwC.pf rfl (by omega) ?_ | refine CwC.it rfl (by omega) ?_ | refine CwC.if rfl (by omega) ?_ | refine CwC.nt rfl (by omega) ?_ | refine CwC.nf rfl (by omega) ?_ | refine CwC.tt rfl ?_ | refine CwC.ff rfl ?_ | refine CwC.bt rfl (by assumption) ?_ | (refine CwC.bf rfl ?_ ?_; focus assumption))
    refine ⟨_, (by simp (disch := (first | omega | (simp only [lenS, lenT, UInt64.reduceToNat] ; try omega))) only [resVs_cons, resV_tmp, ↓getF_s, ↓getF_0, resVs_nil, cons2_some]; rfl), trivial, ?_⟩
    rfl
end Go.Proofs
namespace Go.Sx
open Go Go.ChangeShapes Go.WideShapes Go.RowKit

theorem Hp.same0 {W W' : World} (h : Hp W [] W') {b : Nat} (hb : b < W.heap.size) : W'.heap[b]? = W.heap[b]? := h.old b hb (fun hm => by cases hm)
theorem Hp.kept {W W' : World} (h : Hp W [] W') (may : MemPlace → Prop) : W.keptBut W' may := by
  refine ⟨h.os, h.output, fun i hi => ?_⟩
  rw [h.same0 hi]
  cases ho : W.heap[i]? with
  | none => rfl
  | some o =>
    cases o <;> first
      | exact ⟨rfl, rfl, rfl, fun _ _ => rfl⟩
      | exact .inr ⟨rfl, rfl⟩
      | rfl
theorem Hp.sameAt {W W' : World} (h : Hp W [] W') {p : MemPlace} (hp : p.block < W.heap.size) : W.sameAt W' p := by
  cases p with
  | cell b off =>
    have := h.same0 (b := b) hp
    simp only [World.sameAt, World.cell?, this]
  | map b => exact h.same0 hp
theorem Hp.frozen {W W' : World} (h : Hp W [] W') {a : Addr} (ha : a.block < W.heap.size) : W'.frozen? a = W.frozen? a := by
  simp only [World.frozen?, h.same0 ha]

section
variable {H : Type} {enc : TypeId × Value → H} {P : Program}
theorem trodAll_stays (hl : laidOutB P = true) {W W' : World} {sp : Nat → Bool} (hp : Hp W [] W') : ∀ {ts : List TypeId} {vs : List Value} {ds : List (DataW H)} {ps : List MemPlace},
    (∀ t ∈ ts, P.readableRec t = true ∧ t < P.types.size) → (∀ p ∈ ps, p.block < W.heap.size) → (∀ p ∈ ps, sp p.block = true) →
    DataW.TrodAll enc P W 0 (fun _ => true) true ts vs ds ps → DataW.TrodAll enc P W' 0 sp true ts vs ds ps
  | [], _, _, _, _, _, _, h => by
    obtain ⟨rfl, rfl, rfl⟩ := trodAll_nil h
    exact trodAll_mk0
  | t :: ts, _, _, _, ht, hlt, hs, h => by
    obtain ⟨v, vs, d, ds, p, q, rfl, rfl, rfl, h1, h2⟩ := trodAll_cons h
    have hlt1 : ∀ x ∈ p, x.block < W.heap.size := fun x hx => hlt x (List.mem_append_left _ hx)
    exact trodAll_cons_mk (WideElems.Trod_stays hl (ht t List.mem_cons_self).1 (ht t List.mem_cons_self).2 h1 (fun x hx => hp.sameAt (hlt1 x hx)) (fun x hx => hs x (List.mem_append_left _ hx)))
      (trodAll_stays hl hp (fun u hu => ht u (List.mem_cons_of_mem _ hu)) (fun x hx => hlt x (List.mem_append_right _ hx)) (fun x hx => hs x (List.mem_append_right _ hx)) h2)

/-- WHAT THE ROW OF A LAW ASKS, from 'it answers true and turns nothing that was there'. -/
theorem post_true {f : Func} {s : ChangeSpec} {W W' : World} {args : Array Value} {ds gs : List (DataW H)} {before : List MemPlace} {tb : TypeId} (hl : laidOutB P = true)
    (hW : DataW.Whole enc P f.params.toList s.vars false W args.toList ds gs before) (hv : s.vars = []) (hpar : ∀ t ∈ f.params.toList, P.readableRec t = true ∧ t < P.types.size)
    (hr : f.resultTypes = #[tb]) (htb : P.underlying tb = some .bool) (hfn : s.fn H ds = { results := [.lit (.bool true)], args := ds }) (hp : Hp W [] W') :
    s.post enc P f false true false false W args (.bool true) W' := by
  have hlt := hW.lt
  have hW0 := hW
  obtain ⟨p, q, hA, hV, rfl, hz, hn⟩ := hW
  rw [hv] at hV
  obtain ⟨rfl, rfl⟩ := trodVars_none hV
  rw [List.append_nil] at hW0 hlt hz
  have hargs : ∀ sp : Nat → Bool, (∀ x ∈ p, sp x.block = true) → DataW.TrodAll enc P W' 0 sp true f.params.toList args.toList (s.fn H (ds ++ [])).args p := fun sp hs => by
    rw [List.append_nil, hfn]
    exact trodAll_stays hl hp hpar hlt hs hA
  have hvars : ∀ sp : Nat → Bool, DataW.TrodVars enc P W' sp s.vars (s.fn H (ds ++ [])).vars [] := fun sp => by
    rw [List.append_nil, hfn, hv]; rfl
  have hres : ∀ (b : Nat) (sp : Nat → Bool) (hd : Bool), DataW.TrodAll enc P W' b sp hd f.resultTypes.toList ((Value.bool true).resultList f.resultTypes.size) (s.fn H (ds ++ [])).results [] := fun b sp hd => by
    rw [List.append_nil, hfn, hr]
    exact trodAll_cons_mk (shut_bool htb true) trodAll_mk0
  have hold : ∀ x ∈ p, (fun b => decide (b < W.heap.size)) x.block = true := fun x hx => by simpa using hlt x hx
  refine ⟨ds, [], p, [], p, [], hW0, hres _ _ _, hargs _ hold, hvars _, hp.kept _, fun _ => ?_⟩
  refine ⟨ok_one hr rfl (okWide_bool_mk htb true), _, _, ([] ++ p) ++ [], ⟨[] ++ p, [], trodAll_append (hargs _ (fun _ _ => rfl)) (hres _ _ _), hvars _, rfl, ?_, fun h => by cases h⟩, ?_⟩
  · intro b off hx
    have hx' : MemPlace.cell b off ∈ p := by simpa using hx
    rw [hp.frozen (hlt _ hx')]
    exact hz b off hx'
  · intro x hx _
    simpa using hx
end
section
variable {P : Program} {W : World} {name : String} {k : IntKind} {zs : List Int}
theorem tab_of_vars {t e : TypeId} {g n : Nat} (hg : P.globalNamed name = some g) (hty : (P.globals[g]?).map (·.type) = some t) (ht : P.underlying t = some (.array n e)) (he : P.underlying e = some (.int k)) (hce : P.cellsOf e = 1) (hct : P.cellsOf t = n) :
    ∀ {laid : List (String × DataW Unit)} {ps : List MemPlace}, DataW.LaidVars P W laid ps → (name, Lib.tabData k zs) ∈ laid → Lib.TabIs P W name k zs
  | [], _, _, hm => by cases hm
  | (n', d') :: rest, ps, h, hm => by
    obtain ⟨g', t', cs, fuel, p, q, hg', ht', hvar, hd, hr, -⟩ := h
    rcases List.mem_cons.1 hm with hm | hm
    · cases hm
      obtain rfl := Option.some.inj (hg.symm.trans hg')
      obtain rfl := Option.some.inj (hty.symm.trans ht')
      unfold Lib.TabIs
      rw [hvar, ← Lib.cells_of_tab ht he hce hct hd]
    · exact tab_of_vars hg hty ht he hce hct hr hm
theorem heap_of_tab {g : Nat} (hg : P.globalNamed name = some g) (h : Lib.TabIs P W name k zs) : ∃ e f, W.heap[g]? = some (.cells (zs.map fun z => Value.int k z).toArray e f) := by
  unfold Lib.TabIs at h
  simp only [World.var?, hg, Option.bind_some] at h
  split at h
  · rename_i cs e f hb
    cases h
    exact ⟨e, f, hb⟩
  · cases h
end
section
variable {H : Type} {enc : TypeId × Value → H} {P : Program}
end
end Go.Sx
