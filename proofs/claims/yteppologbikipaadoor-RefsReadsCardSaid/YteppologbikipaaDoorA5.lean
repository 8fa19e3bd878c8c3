/-
  Part 5 of the walk: contracts of the functions that the law reaches, and the calculus they stand on.
  No conditions.
-/
import Derived.Test.YteppologbikipaaDoorA4
open Go Go.Proofs Go.Sx Go.RefP
namespace Go.Proofs
set_option maxRecDepth 10000
set_option maxHeartbeats 4000000
set_option linter.unusedSimpArgs false
theorem REnd_nil (w : World) : Rets Tryd.prog 45 #[.pointer none] w (fun v D => v = vi 3 ∧ D = []) := by
  refine Rets.enterV Tryd.func45 rfl (rs := [.tmp 2]) Tryd.results45 Tryd.ntmps45 ?_
  simp only [List.size_toArray, List.length_cons, List.length_nil, Nat.reduceAdd, Nat.reduceSub, List.replicate_succ, List.replicate_zero, List.cons_append, List.nil_append]
  repeat' first | with_reducible (first | refine Cw.seq ?_ | refine thenK_normal ?_ | refine Ow.nil ?_) | ((with_reducible refine Cw.region (Ow.run rfl fun k hk => ?_)); simp (disch := (first | omega | (simp only [lenS, lenT, UInt64.reduceToNat] ; try omega))) only [↓vcL_none, ↓vcB_assign, ↓ov_some, ↓ev_const, lit_i64, putF_some, setF_s, setF_0, nf_cons, ↓vcL_nil, Md.next_seq, ↓vcB_move, ↓ev_tmp, ↓getF_0, ↓vcB_call]; (with_reducible refine hk _ _ _ _ ?_); clear hk k) | with_reducible (first | refine Cw.block ?_ | refine Cw.skip ?_ | refine Cw.exit ?_ | refine Cw.ret ?_ | refine Cw.label ?_ | refine Cw.goto ?_ | refine thenK_exit ?_ | refine thenK_ret ?_ | refine thenK_goto ?_ | refine blockK_normal ?_ | refine blockK_ret ?_ | refine blockK_goto ?_ | refine blockK_exit ?_ | refine blockK_pass rfl ?_ | refine scopeK_normal ?_ | refine scopeK_ret ?_ | refine scopeK_exit ?_ | refine scopeK_goto ?_) | ((with_reducible refine Cw.condC ?_); first | refine CwC.pt rfl (by omega) ?_ | refine CwC.pf rfl (by omega) ?_ | refine CwC.it rfl (by omega) ?_ | refine CwC.if rfl (by omega) ?_ | refine CwC.nt rfl (by omega) ?_ | refine CwC.nf rfl (by omega) ?_ | refine CwC.tt rfl ?_ | refine CwC.ff rfl ?_ | refine CwC.bt rfl (by assumption) ?_ | (refine CwC.bf rfl ?_ ?_; focus assumption))
  refine Ow.callFV rfl Tryd.call85 (fun w' hw' => RErr_nil w') ?_
  refine Ow.run rfl fun k hk => ?_
  simp (disch := (first | omega | (simp only [lenS, lenT, UInt64.reduceToNat] ; try omega))) only [↓vcL_none, ↓vcB_assign, ↓ov_some, putF_some, setF_s, setF_0, ↓ev_tmp, ↓getF_s, ↓getF_0, nf_cons, ↓vcL_nil, Md.next_seq]
  (with_reducible refine hk _ _ _ _ ?_); clear hk k
  repeat' first | with_reducible (first | refine Cw.seq ?_ | refine thenK_normal ?_ | refine Ow.nil ?_) | ((with_reducible refine Cw.region (Ow.run rfl fun k hk => ?_)); simp (disch := (first | omega | (simp only [lenS, lenT, UInt64.reduceToNat] ; try omega))) only [↓vcL_none, ↓vcB_move, ↓ov_some, ↓ev_tmp, ↓getF_s, ↓getF_0, putF_some, setF_s, setF_0, nf_cons, ↓vcB_binOp, ↓ev_const, lit_i64, binX_vi_vi, bin_neq_i, ↓vcL_nil, Md.next_seq, ↓vcB_assign]; (with_reducible refine hk _ _ _ _ ?_); clear hk k) | with_reducible (first | refine Cw.block ?_ | refine Cw.skip ?_ | refine Cw.exit ?_ | refine Cw.ret ?_ | refine Cw.label ?_ | refine Cw.goto ?_ | refine thenK_exit ?_ | refine thenK_ret ?_ | refine thenK_goto ?_ | refine blockK_normal ?_ | refine blockK_ret ?_ | refine blockK_goto ?_ | refine blockK_exit ?_ | refine blockK_pass rfl ?_ | refine scopeK_normal ?_ | refine scopeK_ret ?_ | refine scopeK_exit ?_ | refine scopeK_goto ?_) | ((with_reducible refine Cw.condC ?_); first | refine CwC.pt rfl (by omega) ?_ | refine CwC.pf rfl (by omega) ?_ | refine CwC.it rfl (by omega) ?_ | refine CwC.if rfl (by omega) ?_ | refine CwC.nt rfl (by omega) ?_ | refine CwC.nf rfl (by omega) ?_ | refine CwC.tt rfl ?_ | refine CwC.ff rfl ?_ | refine CwC.bt rfl (by assumption) ?_ | (refine CwC.bf rfl ?_ ?_; focus assumption))
  refine ⟨_, (by simp (disch := (first | omega | (simp only [lenS, lenT, UInt64.reduceToNat] ; try omega))) only [resVs_cons, resV_tmp, ↓getF_s, ↓getF_0, resVs_nil, cons2_some]; rfl), trivial, ?_⟩
  rfl
theorem RNumber_nil (m : Int) (w : World) : Rets Tryd.prog 43 #[.pointer none, vi m] w (fun v D => v = vi 0 ∧ D = []) := by
  refine Rets.enterV Tryd.func43 rfl (rs := [.tmp 4]) Tryd.results43 Tryd.ntmps43 ?_
  simp only [List.size_toArray, List.length_cons, List.length_nil, Nat.reduceAdd, Nat.reduceSub, List.replicate_succ, List.replicate_zero, List.cons_append, List.nil_append]
  repeat' first | with_reducible (first | refine Cw.seq ?_ | refine thenK_normal ?_ | refine Ow.nil ?_) | ((with_reducible refine Cw.region (Ow.run rfl fun k hk => ?_)); simp (disch := (first | omega | (simp only [lenS, lenT, UInt64.reduceToNat] ; try omega))) only [↓vcL_none, ↓vcB_assign, ↓ov_some, ↓ev_const, lit_i64, putF_some, setF_s, setF_0, nf_cons, ↓vcL_nil, Md.next_seq]; (with_reducible refine hk _ _ _ _ ?_); clear hk k) | with_reducible (first | refine Cw.block ?_ | refine Cw.skip ?_ | refine Cw.exit ?_ | refine Cw.ret ?_ | refine Cw.label ?_ | refine Cw.goto ?_ | refine thenK_exit ?_ | refine thenK_ret ?_ | refine thenK_goto ?_ | refine blockK_normal ?_ | refine blockK_ret ?_ | refine blockK_goto ?_ | refine blockK_exit ?_ | refine blockK_pass rfl ?_ | refine scopeK_normal ?_ | refine scopeK_ret ?_ | refine scopeK_exit ?_ | refine scopeK_goto ?_) | ((with_reducible refine Cw.condC ?_); first | refine CwC.pt rfl (by omega) ?_ | refine CwC.pf rfl (by omega) ?_ | refine CwC.it rfl (by omega) ?_ | refine CwC.if rfl (by omega) ?_ | refine CwC.nt rfl (by omega) ?_ | refine CwC.nf rfl (by omega) ?_ | refine CwC.tt rfl ?_ | refine CwC.ff rfl ?_ | refine CwC.bt rfl (by assumption) ?_ | (refine CwC.bf rfl ?_ ?_; focus assumption))
  refine Cw.scopeS ?_
  repeat' first | with_reducible (first | refine Cw.seq ?_ | refine thenK_normal ?_ | refine Ow.nil ?_) | ((with_reducible refine Cw.region (Ow.run rfl fun k hk => ?_)); simp (disch := (first | omega | (simp only [lenS, lenT, UInt64.reduceToNat] ; try omega))) only [↓vcL_none, ↓vcB_move, ↓ov_some, ↓ev_tmp, ↓getF_0, putF_some, setF_s, setF_0, nf_cons, ↓vcB_call, Md.next_seq, lit_i64]; (with_reducible refine hk _ _ _ _ ?_); clear hk k) | with_reducible (first | refine Cw.block ?_ | refine Cw.skip ?_ | refine Cw.exit ?_ | refine Cw.ret ?_ | refine Cw.label ?_ | refine Cw.goto ?_ | refine thenK_exit ?_ | refine thenK_ret ?_ | refine thenK_goto ?_ | refine blockK_normal ?_ | refine blockK_ret ?_ | refine blockK_goto ?_ | refine blockK_exit ?_ | refine blockK_pass rfl ?_ | refine scopeK_normal ?_ | refine scopeK_ret ?_ | refine scopeK_exit ?_ | refine scopeK_goto ?_) | ((with_reducible refine Cw.condC ?_); first | refine CwC.pt rfl (by omega) ?_ | refine CwC.pf rfl (by omega) ?_ | refine CwC.it rfl (by omega) ?_ | refine CwC.if rfl (by omega) ?_ | refine CwC.nt rfl (by omega) ?_ | refine CwC.nf rfl (by omega) ?_ | refine CwC.tt rfl ?_ | refine CwC.ff rfl ?_ | refine CwC.bt rfl (by assumption) ?_ | (refine CwC.bf rfl ?_ ?_; focus assumption))
  refine Ow.callFV rfl Tryd.call85 (fun w' hw' => RErr_nil w') ?_
  refine Ow.run rfl fun k hk => ?_
  simp (disch := (first | omega | (simp only [lenS, lenT, UInt64.reduceToNat] ; try omega))) only [↓vcL_none, ↓vcB_binOp, ↓ev_tmp, putF_some, setF_s, setF_0, ↓getF_s, ↓getF_0, ↓ev_const, binX_vi_vi, bin_neq_i, ↓ov_some, nf_cons, ↓vcL_nil, Md.next_seq]
  (with_reducible refine hk _ _ _ _ ?_); clear hk k
  repeat' first | with_reducible (first | refine Cw.seq ?_ | refine thenK_normal ?_ | refine Ow.nil ?_) | ((with_reducible refine Cw.region (Ow.run rfl fun k hk => ?_)); simp (disch := (first | omega | (simp only [lenS, lenT, UInt64.reduceToNat] ; try omega))) only [↓vcL_none, ↓vcB_assign, ↓ov_some, ↓ev_const, lit_i64, putF_some, setF_s, setF_0, nf_cons, ↓vcL_nil, Md.next_seq]; (with_reducible refine hk _ _ _ _ ?_); clear hk k) | with_reducible (first | refine Cw.block ?_ | refine Cw.skip ?_ | refine Cw.exit ?_ | refine Cw.ret ?_ | refine Cw.label ?_ | refine Cw.goto ?_ | refine thenK_exit ?_ | refine thenK_ret ?_ | refine thenK_goto ?_ | refine blockK_normal ?_ | refine blockK_ret ?_ | refine blockK_goto ?_ | refine blockK_exit ?_ | refine blockK_pass rfl ?_ | refine scopeK_normal ?_ | refine scopeK_ret ?_ | refine scopeK_exit ?_ | refine scopeK_goto ?_) | ((with_reducible refine Cw.condC ?_); first | refine CwC.pt rfl (by omega) ?_ | refine CwC.pf rfl (by omega) ?_ | refine CwC.it rfl (by omega) ?_ | refine CwC.if rfl (by omega) ?_ | refine CwC.nt rfl (by omega) ?_ | refine CwC.nf rfl (by omega) ?_ | refine CwC.tt rfl ?_ | refine CwC.ff rfl ?_ | refine CwC.bt rfl (by assumption) ?_ | (refine CwC.bf rfl ?_ ?_; focus assumption))
  refine ⟨_, (by simp (disch := (first | omega | (simp only [lenS, lenT, UInt64.reduceToNat] ; try omega))) only [resVs_cons, resV_tmp, ↓getF_s, ↓getF_0, resVs_nil, cons2_some]; rfl), trivial, ?_⟩
  rfl
theorem numGo_most (most : Int) : ∀ (l : List UInt8) (k n m k' : Nat), numGo most l k n = .ok (m, k') → (m : Int) ≤ most
  | [], _, _, _, _, h => by simp [numGo] at h
  | c :: r, k, n, m, k', h => by
    unfold numGo at h
    split at h
    · split at h
      · cases h
      · exact numGo_most most r _ _ _ _ h
    · split at h
      · cases h
      · split at h
        · rename_i hh
          cases h
          exact hh.2
        · cases h
theorem numR_most {s : List UInt8} {a : Nat} {e most : Int} (h0 : 0 ≤ most) : 0 ≤ (numR s a e most).1 ∧ (numR s a e most).1 ≤ most := by
  unfold numR
  split
  · exact ⟨Int.le_refl 0, h0⟩
  · split
    · rename_i n k h
      exact ⟨Int.natCast_nonneg _, numGo_most most _ _ _ _ _ h⟩
    · exact ⟨Int.le_refl 0, h0⟩
theorem refR_name {s : List UInt8} {a : Nat} {e : Int} (hs : s.length < 1099511627776) : (refR s a e).1.name.length < 1099511627776 := textR_len (e := e) (most := 32) hs
theorem refsR_short {s : List UInt8} {a : Nat} {e : Int} (hs : s.length < 1099511627776) : ∀ g, ShortN (refsR s a e g).1
  | 0 => fun g hg => by simp [refsR] at hg
  | g + 1 => by
    intro i hi
    rw [refsR_length] at hi
    unfold refsR
    simp only
    by_cases hlt : i < g
    · rw [List.getD_eq_getElem?_getD, List.getElem?_append_left (by rw [refsR_length]; exact hlt), ← List.getD_eq_getElem?_getD]
      exact refsR_short hs g i (by rw [refsR_length]; exact hlt)
    · have : i = (refsR s a e g).1.length := by rw [refsR_length]; omega
      subst this
      rw [List.getD_eq_getElem?_getD, List.getElem?_append_right (Nat.le_refl _)]
      simp only [Nat.sub_self, List.getElem?_cons_zero, Option.getD_some]
      exact refR_name hs
/-- What Read hands back. -/
def ReadS (s : List UInt8) (v : Value) (D : Heap) : Prop :=
  match bookR s with
  | some (tb, log, at_) => ∃ vt vl, v = .tuple #[.agg #[vt, vl], vi at_, vi 0] ∧ GrI D 42 33 vt tb.length (tb.map refC).flatten ∧ GrI D 42 33 vl log.length (log.map refC).flatten
  | none => v = .tuple #[.agg #[.slice none 0 0, .slice none 0 0], vi 0, vi 2]
theorem setB_appr {b : Nat} {x : Obj} : ∀ {D L : Heap}, b ∉ keys D → setB (D ++ L) b x = D ++ setB L b x
  | [], _, _ => rfl
  | (c, y) :: r, L, h => by
    simp only [keys, List.map_cons, List.mem_cons, not_or] at h
    rw [List.cons_append, setB_other _ _ _ _ _ (Ne.symm h.1), setB_appr (by simpa [keys] using h.2)]; rfl
theorem REndR_spec (b : Nat) (s : List UInt8) (a : Nat) (e : Int) (w : World) (ho : w.heap[b]? = some (.cells #[vs s, vi a, vi e] 139 (0, 0))) :
    Rets Tryd.prog 45 #[vp b 0] w (fun v D => v = vi (endR s a e) ∧ D = []) := REnd_spec b s a e w ho
theorem short_snoc {l : List RefL} {r : RefL} (h : ShortN l) (hr : r.name.length < 1099511627776) : ShortN (l ++ [r]) := by
  intro g hg
  by_cases hlt : g < l.length
  · have := h g hlt
    rwa [List.getD_eq_getElem?_getD, List.getElem?_append_left hlt, ← List.getD_eq_getElem?_getD]
  · have : g = l.length := by simp at hg; omega
    subst this
    rw [List.getD_eq_getElem?_getD, List.getElem?_append_right (Nat.le_refl _)]
    simpa using hr
theorem head_none {s : List UInt8} (h : (recR s 0 0 [72]).1 = none) : bookR s = none := by
  unfold bookR headR
  generalize recR s 0 0 [72] = p at h ⊢
  obtain ⟨o, q⟩ := p
  simp only at h
  subst h
  rfl
theorem head_some {s c : List UInt8} (h : (recR s 0 0 [72]).1 = some c) :
    headR s = if endR c (refsR c (numR c 0 0 16).2.1 (numR c 0 0 16).2.2 (numR c 0 0 16).1.toNat).2.1 (refsR c (numR c 0 0 16).2.1 (numR c 0 0 16).2.2 (numR c 0 0 16).1.toNat).2.2 = 0 ∧ rightB (refsR c (numR c 0 0 16).2.1 (numR c 0 0 16).2.2 (numR c 0 0 16).1.toNat).1 [] = true then some ((refsR c (numR c 0 0 16).2.1 (numR c 0 0 16).2.2 (numR c 0 0 16).1.toNat).1, (recR s 0 0 [72]).2.1) else none := by
  unfold headR
  generalize recR s 0 0 [72] = p at h ⊢
  obtain ⟨o, a, e⟩ := p
  simp only at h
  subst h
  rfl
theorem head_no {s : List UInt8} (h : headR s = none) : bookR s = none := by unfold bookR; rw [h]; rfl
theorem rec_le {s : List UInt8} {a : Nat} {e : Int} {p : List UInt8} (ha : a ≤ s.length) : a ≤ (recR s a e p).2.1 ∧ (recR s a e p).2.1 ≤ s.length := textR_le ha
theorem next_none {s : List UInt8} {tb log : List RefL} {at_ : Nat} (h : (recR s at_ 0 [69]).1 = none) : nextR s tb log at_ = none := by
  unfold nextR
  generalize recR s at_ 0 [69] = p at h ⊢
  obtain ⟨o, q⟩ := p
  simp only at h
  subst h
  rfl
theorem next_some {s : List UInt8} {tb log : List RefL} {at_ : Nat} {c : List UInt8} (h : (recR s at_ 0 [69]).1 = some c) :
    nextR s tb log at_ = if endR c (refR c 0 0).2.1 (refR c 0 0).2.2 = 0 ∧ rightB tb (log ++ [(refR c 0 0).1]) = true then some (log ++ [(refR c 0 0).1], (recR s at_ 0 [69]).2.1) else none := by
  unfold nextR
  generalize recR s at_ 0 [69] = p at h ⊢
  obtain ⟨o, a, e⟩ := p
  simp only at h
  subst h
  rfl
theorem book_done {s : List UInt8} {tb log : List RefL} {at_ a0 : Nat} (hh : headR s = some (tb, a0)) (hl : ∀ k, 101 ≤ k + log.length → logsR s tb k log at_ = logsR s tb 101 [] a0) (hn : nextR s tb log at_ = none) : bookR s = some (tb, log, at_) := by
  unfold bookR
  rw [hh, Option.map_some, ← hl 101 (by omega)]
  unfold logsR
  rw [hn]
structure RG where
  lab : Nat
  br : Nat
  b6 : Nat
  b7 : Nat
  vt : Value
  vl : Value
  x : Value
  y : Value
  tb : List RefL
  log : List RefL
  at_ : Nat
  D : Heap
structure HG where
  g : Nat
  vt : Value
  D : Heap
def bkO (x y : Value) : Obj := .cells #[x, y] 25 (0, 0)
def rdO (s : List UInt8) (a e : Int) : Obj := .cells #[vs s, vi a, vi e] 139 (0, 0)
def nlV : Value := .slice none 0 0
/-- What holds at the labels. -/
def RJ (s : List UInt8) (n b2 : Nat) (g : RG) : Prop :=
  (g.lab = 1 ∧ n ≤ g.br ∧ n ≤ g.b6 ∧ n ≤ g.b7 ∧ b2 ≠ g.br ∧ b2 ≠ g.b6 ∧ b2 ≠ g.b7 ∧ g.br ≠ g.b6 ∧ g.br ≠ g.b7 ∧ g.b6 ≠ g.b7 ∧ New n g.D ∧
    GrI g.D 42 33 g.vt g.tb.length (g.tb.map refC).flatten ∧ GrI g.D 42 33 g.vl g.log.length (g.log.map refC).flatten ∧
    Value.oneCell' g.x = true ∧ Value.oneCell' g.y = true ∧ ShortN g.tb ∧ ShortN g.log ∧ g.tb.length < 1000 ∧ g.log.length ≤ 100 ∧ g.at_ ≤ s.length ∧
    ∃ a0, headR s = some (g.tb, a0) ∧ ∀ k, 101 ≤ k + g.log.length → logsR s g.tb k g.log g.at_ = logsR s g.tb 101 [] a0) ∨
  (g.lab = 2 ∧ n ≤ g.b6 ∧ b2 ≠ g.b6 ∧ New n g.D ∧
    GrI g.D 42 33 g.vt g.tb.length (g.tb.map refC).flatten ∧ GrI g.D 42 33 g.vl g.log.length (g.log.map refC).flatten ∧ bookR s = some (g.tb, g.log, g.at_)) ∨
  (g.lab = 0 ∧ New n g.D ∧ bookR s = none)
def RH (s : List UInt8) (b2 : Nat) (g : RG) : Heap :=
  match g.lab with
  | 1 => (b2, bkO nlV nlV) :: (g.br, rdO s g.at_ 0) :: (g.b6, bkO g.vt g.vl) :: (g.b7, bkO g.x g.y) :: g.D
  | 2 => (b2, bkO nlV nlV) :: (g.b6, bkO g.vt g.vl) :: g.D
  | _ => (b2, bkO nlV nlV) :: g.D
def RSl (g : RG) : List (Nat × Value) :=
  match g.lab with
  | 1 => [(5, vp g.br 0), (6, vp g.b6 0), (7, vp g.b7 0)]
  | 2 => [(6, vp g.b6 0), (8, vi g.at_)]
  | _ => []
def RL (g : RG) : Nat :=
  match g.lab with
  | 1 => 1
  | 2 => 2
  | _ => 0
theorem gri_cell {D : Heap} {E : TypeId} {m n : Nat} {v : Value} {cs : List Value} (h : GrI D E m v n cs) : Value.oneCell' v = true ∧ v.cells = #[v] := by
  obtain ⟨X, -, h⟩ := h; exact h.cell
theorem Read_spec (s : List UInt8) (w : World) (hG : GlobC w) (hs : s.length < 1000000) :
    Rets Tryd.prog 9 #[vs s] w (XS w [] (ReadS s)) := by
  have hglt : (3 : Nat) < w.heap.size := by obtain ⟨e, f, h⟩ := hG; exact (Array.getElem?_eq_some_iff.1 h).1
  refine Rets.enterX Tryd.func9 rfl (rs := [.cell 2 25, .tmp 3, .tmp 4]) Tryd.results9 Tryd.ntmps9 (fun p hp => by cases hp) (by simp [keys]) ?_
  simp only [List.size_toArray, List.length_cons, List.length_nil, Nat.reduceAdd, Nat.reduceSub, List.replicate_succ, List.replicate_zero, List.cons_append, List.nil_append]
  repeat' first | with_reducible (first | refine Cw.seq ?_ | refine thenK_normal ?_ | refine Ow.nil ?_) | ((with_reducible refine Cw.region (Ow.run rfl fun k hk => ?_)); simp (disch := (first | omega | (simp only [lenS, lenT, UInt64.reduceToNat] ; try omega))) only [↓vcL_none, ↓vcB_alloc, lit_i64]; (with_reducible refine hk _ _ _ _ ?_); clear hk k) | with_reducible (first | refine Cw.block ?_ | refine Cw.skip ?_ | refine Cw.exit ?_ | refine Cw.ret ?_ | refine Cw.label ?_ | refine Cw.goto ?_ | refine thenK_exit ?_ | refine thenK_ret ?_ | refine thenK_goto ?_ | refine blockK_normal ?_ | refine blockK_ret ?_ | refine blockK_goto ?_ | refine blockK_exit ?_ | refine blockK_pass rfl ?_ | refine scopeK_normal ?_ | refine scopeK_ret ?_ | refine scopeK_exit ?_ | refine scopeK_goto ?_) | ((with_reducible refine Cw.condC ?_); first | refine CwC.pt rfl (by omega) ?_ | refine CwC.pf rfl (by omega) ?_ | refine CwC.it rfl (by omega) ?_ | refine CwC.if rfl (by omega) ?_ | refine CwC.nt rfl (by omega) ?_ | refine CwC.nf rfl (by omega) ?_ | refine CwC.tt rfl ?_ | refine CwC.ff rfl ?_ | refine CwC.bt rfl (by assumption) ?_ | (refine CwC.bf rfl ?_ ?_; focus assumption))
  refine Ow.alloc rfl rfl zrBk fun b2 hb2 hw2 => ?_
  simp only [cells_agg, List.nil_append, List.cons_append]
  refine Ow.run rfl fun k hk => ?_
  simp (disch := (first | omega | (simp only [lenS, lenT, UInt64.reduceToNat] ; try omega))) only [↓vcL_none, ↓vcB_assign, ↓ov_some, putF_some, setF_s, setF_0, ↓ev_const, nf_cons, ↓vcL_nil, Md.next_seq]
  (with_reducible refine hk _ _ _ _ ?_); clear hk k
  repeat' first | with_reducible (first | refine Cw.seq ?_ | refine thenK_normal ?_ | refine Ow.nil ?_) | ((with_reducible refine Cw.region (Ow.run rfl fun k hk => ?_)); simp (disch := (first | omega | (simp only [lenS, lenT, UInt64.reduceToNat] ; try omega))) only []; (with_reducible refine hk _ _ _ _ ?_); clear hk k) | with_reducible (first | refine Cw.block ?_ | refine Cw.skip ?_ | refine Cw.exit ?_ | refine Cw.ret ?_ | refine Cw.label ?_ | refine Cw.goto ?_ | refine thenK_exit ?_ | refine thenK_ret ?_ | refine thenK_goto ?_ | refine blockK_normal ?_ | refine blockK_ret ?_ | refine blockK_goto ?_ | refine blockK_exit ?_ | refine blockK_pass rfl ?_ | refine scopeK_normal ?_ | refine scopeK_ret ?_ | refine scopeK_exit ?_ | refine scopeK_goto ?_) | ((with_reducible refine Cw.condC ?_); first | refine CwC.pt rfl (by omega) ?_ | refine CwC.pf rfl (by omega) ?_ | refine CwC.it rfl (by omega) ?_ | refine CwC.if rfl (by omega) ?_ | refine CwC.nt rfl (by omega) ?_ | refine CwC.nf rfl (by omega) ?_ | refine CwC.tt rfl ?_ | refine CwC.ff rfl ?_ | refine CwC.bt rfl (by assumption) ?_ | (refine CwC.bf rfl ?_ ?_; focus assumption))
  refine Cw.scopeL (G := RG) (fun g => RL g) [10, 11, 5, 6, 7, 8, 12, 13, 9, 14, 15, 16, 17, 18, 19, 20, 21, 22, 23, 24, 25, 26, 27, 28, 29, 30, 31, 32, 33, 34, 35, 36, 37, 38, 39, 40, 41, 42, 43, 44, 45, 46, 47, 48, 49, 50, 51, 52, 53, 54, 55, 56, 57, 58, 59, 60, 3, 4, 61] (fun g => RSl g) (fun g => RH s b2 g) (fun g => RJ s w.heap.size b2 g) (fun g => (if g.lab = 1 then 102 - g.log.length else 0)) ?_ ?_ ?_
  · intro g
    unfold RL
    split <;> rfl
  · intro g j hg
    rcases hg with hg | hg | hg
    · obtain ⟨lab, br, b6, b7, vt, vl, x, y, tb, log, at_, D⟩ := g
      obtain ⟨hlab, hg⟩ := hg
      simp only at hlab
      subst hlab
      simp only [RL, RSl, RH] at hg ⊢
      obtain ⟨hwr, hw6, hw7, h2r, h26, h27, hr6, hr7, h67, hN, hgt, hgl, hox, hoy, hst, hsl, htl, hll, hat, a0, hhd, hlg⟩ := hg
      simp only [bkO, rdO, nlV]
      simp only [contP, hasL, Bool.or_false, Bool.false_or, Bool.or_true, Bool.true_or, Nat.reduceBEq, beq_self_eq_true, ↓reduceIte, Bool.false_eq_true]
      simp only [overFrom, pin, setF_0, setF_s, List.contains_cons, List.contains_nil, Nat.reduceBEq, Bool.or_false, Bool.false_or, Bool.or_true, Bool.true_or, Nat.reduceAdd, ↓reduceIte, Bool.false_eq_true]
      repeat' first | with_reducible (first | refine Cw.seq ?_ | refine thenK_normal ?_ | refine Ow.nil ?_) | ((with_reducible refine Cw.region (Ow.run rfl fun k hk => ?_)); simp (disch := (first | omega | (simp only [lenS, lenT, UInt64.reduceToNat] ; try omega))) only [↓vcL_none, ↓vcB_move, ↓ov_some, ↓ev_tmp, ↓getF_s, ↓getF_0, putF_some, setF_s, setF_0, nf_cons, ↓vcB_call, Md.next_seq]; (with_reducible refine hk _ _ _ _ ?_); clear hk k) | with_reducible (first | refine Cw.block ?_ | refine Cw.skip ?_ | refine Cw.exit ?_ | refine Cw.ret ?_ | refine Cw.label ?_ | refine Cw.goto ?_ | refine thenK_exit ?_ | refine thenK_ret ?_ | refine thenK_goto ?_ | refine blockK_normal ?_ | refine blockK_ret ?_ | refine blockK_goto ?_ | refine blockK_exit ?_ | refine blockK_pass rfl ?_ | refine scopeK_normal ?_ | refine scopeK_ret ?_ | refine scopeK_exit ?_ | refine scopeK_goto ?_) | ((with_reducible refine Cw.condC ?_); first | refine CwC.pt rfl (by omega) ?_ | refine CwC.pf rfl (by omega) ?_ | refine CwC.it rfl (by omega) ?_ | refine CwC.if rfl (by omega) ?_ | refine CwC.nt rfl (by omega) ?_ | refine CwC.nf rfl (by omega) ?_ | refine CwC.tt rfl ?_ | refine CwC.ff rfl ?_ | refine CwC.bt rfl (by assumption) ?_ | (refine CwC.bf rfl ?_ ?_; focus assumption))
      refine Ow.callFV rfl Tryd.call46 (fun w' hw' => RAt_spec br s at_ 0 w' (hw'.has _ _ (List.mem_cons_of_mem _ List.mem_cons_self))) ?_
      refine Ow.run rfl fun k hk => ?_
      simp (disch := (first | omega | (simp only [lenS, lenT, UInt64.reduceToNat] ; try omega))) only [↓vcL_none, ↓vcB_assign, ↓ov_some, putF_some, setF_s, setF_0, ↓ev_tmp, ↓getF_s, ↓getF_0, nf_cons, ↓vcL_nil, Md.next_seq]
      (with_reducible refine hk _ _ _ _ ?_); clear hk k
      repeat' first | with_reducible (first | refine Cw.seq ?_ | refine thenK_normal ?_ | refine Ow.nil ?_) | ((with_reducible refine Cw.region (Ow.run rfl fun k hk => ?_)); simp (disch := (first | omega | (simp only [lenS, lenT, UInt64.reduceToNat] ; try omega))) only [↓vcL_none, ↓vcB_move, ↓ov_some, ↓ev_tmp, ↓getF_s, ↓getF_0, putF_some, setF_s, setF_0, nf_cons, ↓vcB_call, Md.next_seq, lit_str]; (with_reducible refine hk _ _ _ _ ?_); clear hk k) | with_reducible (first | refine Cw.block ?_ | refine Cw.skip ?_ | refine Cw.exit ?_ | refine Cw.ret ?_ | refine Cw.label ?_ | refine Cw.goto ?_ | refine thenK_exit ?_ | refine thenK_ret ?_ | refine thenK_goto ?_ | refine blockK_normal ?_ | refine blockK_ret ?_ | refine blockK_goto ?_ | refine blockK_exit ?_ | refine blockK_pass rfl ?_ | refine scopeK_normal ?_ | refine scopeK_ret ?_ | refine scopeK_exit ?_ | refine scopeK_goto ?_) | ((with_reducible refine Cw.condC ?_); first | refine CwC.pt rfl (by omega) ?_ | refine CwC.pf rfl (by omega) ?_ | refine CwC.it rfl (by omega) ?_ | refine CwC.if rfl (by omega) ?_ | refine CwC.nt rfl (by omega) ?_ | refine CwC.nf rfl (by omega) ?_ | refine CwC.tt rfl ?_ | refine CwC.ff rfl ?_ | refine CwC.bt rfl (by assumption) ?_ | (refine CwC.bf rfl ?_ ?_; focus assumption))
      refine Ow.permL (M := [(br, .cells #[vs s, vi at_, vi 0] 139 (0, 0))] ++ ((b2, .cells #[.slice none 0 0, .slice none 0 0] 25 (0, 0)) :: (b6, .cells #[vt, vl] 25 (0, 0)) :: (b7, .cells #[x, y] 25 (0, 0)) :: D)) (by classical exact List.perm_iff_count.2 fun a => by simp only [List.count_append, List.count_cons, List.count_nil] <;> omega) ?_
      refine Ow.callX (Y := ((b2, .cells #[.slice none 0 0, .slice none 0 0] 25 (0, 0)) :: (b6, .cells #[vt, vl] 25 (0, 0)) :: (b7, .cells #[x, y] 25 (0, 0)) :: D)) (by simp) rfl rfl Tryd.call42 (fun w' hw' hX hn => unrecord_spec br s at_ 0 [69] w' (GlobC.of hG hw' (New.not (L := [(br, .cells #[vs s, vi at_, vi 0] 139 (0, 0))] ++ ((b2, .cells #[.slice none 0 0, .slice none 0 0] 25 (0, 0)) :: (b6, .cells #[vt, vl] 25 (0, 0)) :: (b7, .cells #[x, y] 25 (0, 0)) :: D)) (by exact ⟨hwr, hw2, hw6, hw7, hN⟩) hglt)) (by omega) hat (by omega) (hX _ List.mem_cons_self)) (fun v1 D1 hC1 hS1 => ?_)
      rcases hS1 with ⟨hno, rfl, rfl⟩ | ⟨b', c, hc, rfl, hb', hne, rfl⟩
      · refine Ow.run rfl fun k hk => ?_
        simp (disch := (first | omega | (simp only [lenS, lenT, UInt64.reduceToNat] ; try omega))) only [↓vcL_none, ↓vcB_assign, ↓ov_some, putF_some, setF_s, setF_0, ↓ev_tmp, ↓getF_s, ↓getF_0, nf_cons, ↓vcL_nil, Md.next_seq, List.cons_append, List.nil_append]
        (with_reducible refine hk _ _ _ _ ?_); clear hk k
        with_reducible refine Ow.nil ?_
        with_reducible refine thenK_normal ?_
        refine Cw.permL (M := (b2, .cells #[.slice none 0 0, .slice none 0 0] 25 (0, 0)) :: (b6, .cells #[vt, vl] 25 (0, 0)) :: (br, .cells #[vs s, vi (recR s at_ 0 [69]).2.1, vi (recR s at_ 0 [69]).2.2] 139 (0, 0)) :: (b7, .cells #[x, y] 25 (0, 0)) :: D) (by classical exact List.perm_iff_count.2 fun a => by simp only [List.count_append, List.count_cons, List.count_nil] <;> omega) ?_
        repeat' first | with_reducible (first | refine Cw.seq ?_ | refine thenK_normal ?_ | refine Ow.nil ?_) | ((with_reducible refine Cw.region (Ow.run rfl fun k hk => ?_)); simp (disch := (first | omega | (simp only [lenS, lenT, UInt64.reduceToNat] ; try omega))) only [↓vcL_none, ↓vcB_move, ↓ov_some, ↓ev_tmp, ↓getF_s, ↓getF_0, putF_some, setF_s, setF_0, nf_cons, ↓vcB_binOp, ↓ev_const, nilR', ↓vcL_nil, Md.next_seq]; (with_reducible refine hk _ _ _ _ ?_); clear hk k) | with_reducible (first | refine Cw.block ?_ | refine Cw.skip ?_ | refine Cw.exit ?_ | refine Cw.ret ?_ | refine Cw.label ?_ | refine Cw.goto ?_ | refine thenK_exit ?_ | refine thenK_ret ?_ | refine thenK_goto ?_ | refine blockK_normal ?_ | refine blockK_ret ?_ | refine blockK_goto ?_ | refine blockK_exit ?_ | refine blockK_pass rfl ?_ | refine scopeK_normal ?_ | refine scopeK_ret ?_ | refine scopeK_exit ?_ | refine scopeK_goto ?_) | ((with_reducible refine Cw.condC ?_); first | refine CwC.pt rfl (by omega) ?_ | refine CwC.pf rfl (by omega) ?_ | refine CwC.it rfl (by omega) ?_ | refine CwC.if rfl (by omega) ?_ | refine CwC.nt rfl (by omega) ?_ | refine CwC.nf rfl (by omega) ?_ | refine CwC.tt rfl ?_ | refine CwC.ff rfl ?_ | refine CwC.bt rfl (by assumption) ?_ | (refine CwC.bf rfl ?_ ?_; focus assumption))
        refine Jump.mk ⟨2, br, b6, b7, vt, vl, x, y, tb, log, at_, (br, .cells #[vs s, vi (recR s at_ 0 [69]).2.1, vi (recR s at_ 0 [69]).2.2] 139 (0, 0)) :: (b7, .cells #[x, y] 25 (0, 0)) :: D⟩ rfl (by show 0 < 102 - log.length; omega) (.inr (.inl ⟨rfl, hw6, h26, ⟨hwr, hw7, hN⟩, hgt.mono fun p hp => by simp [hp], hgl.mono fun p hp => by simp [hp], ?_⟩)) rfl rfl
        exact book_done hhd hlg (next_none hno)
      · have hbA : b2 < b' ∧ br < b' ∧ b6 < b' ∧ b7 < b' := by
          rcases hC1.new b' (by simp [keys]) with h | ⟨h, -⟩
          · simp [keys] at h; omega
          · obtain ⟨q1, q2, q3, q4, -⟩ := h
            exact ⟨q2, q1, q3, q4⟩
        obtain ⟨h2b, hrb, h6b, h7b⟩ := hbA
        have hcl := recR_len (by omega) hc
        have hce := recR_err hc
        rw [hce]
        have hle0 := rec_le (p := [69]) (e := 0) hat
        generalize hto : (recR s at_ 0 [69]).2.1 = to at *
        refine Ow.run rfl fun k hk => ?_
        simp (disch := (first | omega | (simp only [lenS, lenT, UInt64.reduceToNat] ; try omega))) only [↓vcL_none, ↓vcB_assign, ↓ov_some, putF_some, setF_s, setF_0, ↓ev_tmp, ↓getF_s, ↓getF_0, nf_cons, ↓vcL_nil, Md.next_seq, List.cons_append, List.nil_append]
        (with_reducible refine hk _ _ _ _ ?_); clear hk k
        repeat' first | with_reducible (first | refine Cw.seq ?_ | refine thenK_normal ?_ | refine Ow.nil ?_) | ((with_reducible refine Cw.region (Ow.run rfl fun k hk => ?_)); simp (disch := (first | omega | (simp only [lenS, lenT, UInt64.reduceToNat] ; try omega))) only [↓vcL_none, ↓vcB_move, ↓ov_some, ↓ev_tmp, ↓getF_s, ↓getF_0, putF_some, setF_s, setF_0, nf_cons, ↓vcB_binOp, ↓ev_const, nilR, ↓vcL_nil, Md.next_seq]; (with_reducible refine hk _ _ _ _ ?_); clear hk k) | with_reducible (first | refine Cw.block ?_ | refine Cw.skip ?_ | refine Cw.exit ?_ | refine Cw.ret ?_ | refine Cw.label ?_ | refine Cw.goto ?_ | refine thenK_exit ?_ | refine thenK_ret ?_ | refine thenK_goto ?_ | refine blockK_normal ?_ | refine blockK_ret ?_ | refine blockK_goto ?_ | refine blockK_exit ?_ | refine blockK_pass rfl ?_ | refine scopeK_normal ?_ | refine scopeK_ret ?_ | refine scopeK_exit ?_ | refine scopeK_goto ?_) | ((with_reducible refine Cw.condC ?_); first | refine CwC.pt rfl (by omega) ?_ | refine CwC.pf rfl (by omega) ?_ | refine CwC.it rfl (by omega) ?_ | refine CwC.if rfl (by omega) ?_ | refine CwC.nt rfl (by omega) ?_ | refine CwC.nf rfl (by omega) ?_ | refine CwC.tt rfl ?_ | refine CwC.ff rfl ?_ | refine CwC.bt rfl (by assumption) ?_ | (refine CwC.bf rfl ?_ ?_; focus assumption))
        refine Cw.regionS [b6] [0, 2, 5, 1, 3, 4, 6, 7, 8, 9, 10] [10] (by kernel_rfl) (by kernel_rfl) (by kernel_rfl) ?_
        simp only [nl_cons, ↓pickL_nil, ↓pickL_cons, ↓nthO_0, ↓nthO_s, consO_some]
        refine Ow.runQ fun k hk => ?_
        simp (disch := (first | omega | (simp only [lenS, lenT, UInt64.reduceToNat] ; try omega))) only [↓vcL_none, ↓vcB_fieldAddr, Tryd.fl25_0, ↓ev_tmp, ↓getF_s, ↓getF_0, fieldAddr_p, Nat.add_zero, ↓ov_some, putF_some, setF_s, setF_0, nf_cons, Tryd.fl25_1, Nat.zero_add, ↓vcB_move, ↓vcB_load, Md.next_sof, List.contains_cons, Nat.reduceBEq, List.contains_nil, Bool.or_false, Bool.false_eq_true, ↓reduceIte, ↓rd_sof_load, rdIn_p, beq_self_eq_true, ↓ib_true, Tryd.ag23, loadAt_p, read_other, read_same, load_bk0, load_bk1, ↓vcB_call]
        (with_reducible refine hk _ _ _ _ ?_); clear hk k
        refine Ow.soft rfl rfl rfl ?_
        refine Ow.callC rfl rfl Tryd.call47 (fun w' hw' => CloneRef_spec vl log w' (GrI.slV (hgl.mono (fun p hp => by simp [hp])) hw' rfl rfl refC_len) (by omega)) (fun B1 v3 Dc hA1 hB1 hN1 hS3 => ?_)
        have hAc := hA1
        try simp only [List.cons_append, List.nil_append] at hAc
        obtain ⟨qr, qb, q2, q6, q7, -⟩ := hAc
        with_reducible refine Ow.nil ?_
        refine ⟨readB_appR (by simp [keys]), ?_⟩
        try simp only [List.cons_append, List.nil_append]
        refine Ow.soft rfl rfl rfl ?_
        refine Ow.callM rfl rfl Tryd.call44 (by simp [keys]) (fun w' hw' => one_spec b' c 0 0 w' (Nat.zero_le _) (by omega) (hw'.has _ _ (List.mem_cons_of_mem _ List.mem_cons_self))) ?_
        with_reducible refine Ow.nil ?_
        refine ⟨fun b hb => read_setB_ne (by simp only [List.mem_cons, List.not_mem_nil, or_false] at hb; omega), ?_⟩
        rw [oneR_eq]
        have hfn := refR_name (s := c) (a := 0) (e := 0) hcl
        have hfl := refR_le (s := c) (a := 0) (e := 0) (Nat.zero_le _)
        have hns := next_some (tb := tb) (log := log) hc
        rw [hto] at hns
        generalize refR c 0 0 = rr at *
        obtain ⟨r, ra, re⟩ := rr
        simp only at hfn hfl hns ⊢
        simp (disch := (first | omega | (simp only [lenS, lenT, UInt64.reduceToNat] ; try omega))) only [setB_other, setB_same]
        try simp only [List.cons_append, List.nil_append]
        refine Ow.soft rfl rfl rfl ?_
        refine Ow.buildSlice (e := 42) (refC r).toArray rfl rfl (sliceRef r) fun b8 hb8 hw8 => ?_
        have h68 : b6 < b8 := above_to hb8 (by simp [keys])
        have h78 : b7 < b8 := above_to hb8 (by simp [keys])
        have h28 : b2 < b8 := above_to hb8 (by simp [keys])
        have hr8 : br < b8 := above_to hb8 (by simp [keys])
        have hb8' : b' < b8 := above_to hb8 (by simp [keys])
        with_reducible refine Ow.nil ?_
        refine ⟨readB_appR (by simp [keys]), ?_⟩
        try simp only [List.cons_append, List.nil_append]
        refine Ow.soft rfl rfl rfl ?_
        refine Ow.permL (M := Dc ++ (((br, .cells #[vs s, vi to, vi 0] 139 (0, 0)) :: (b', .cells #[vs c, vi ra, vi re] 139 (0, 0)) :: (b2, .cells #[.slice none 0 0, .slice none 0 0] 25 (0, 0)) :: (b6, .cells #[vt, vl] 25 (0, 0)) :: (b7, .cells #[x, y] 25 (0, 0)) :: D) ++ [(b8, .cells (refC r).toArray 42 (0, 0))])) (by classical exact List.perm_iff_count.2 fun a => by simp only [List.count_append, List.count_cons, List.count_nil] <;> omega) ?_
        refine Ow.appendX (e := 42) (k := 1) (new := refC r) (X := Dc) v3 rfl rfl rfl rfl Tryd.underlying23 Tryd.ag42 (by kernel_rfl) zrRef (by rw [cells_ref, List.size_toArray, refC_len]) Tryd.underlying23 (by intro k h; cases h) hS3 (fun w' hw' => AppX.one1 (hw'.has b8 (.cells (refC r).toArray 42 (0, 0)) (by simp)) (refC_len r) (refC_one r)) (by omega) (by omega) (fun B v4 D4 hA4 hB4 hbuf hk1 hk2 hlk => ?_)
        have hB8 : b8 < B := above_to hA4 (by simp [keys_app, keys])
        have hno4 : ∀ q, q < B1 → q < B → q ∉ keys D4 := fun q h1 h2 hm => by
          rcases hk2 q hm with h | h
          · have := hN1.le q h; omega
          · omega
        have h64 := hno4 b6 q6 (by omega)
        have h74 := hno4 b7 q7 (by omega)
        with_reducible refine Ow.nil ?_
        refine ⟨fun q hq => ?_, ?_⟩
        · rw [List.mem_singleton] at hq
          subst hq
          rw [readB_appr h64]
          simp (disch := omega) only [List.cons_append, read_other, read_same]
        try simp only [List.cons_append, List.nil_append]
        refine Ow.build (.agg #[vt, v4]) rfl (build_bk vt v4 (gri_cell hgt).2 hbuf.cell.2) ?_
        have hst7 : storeAtV (aggT Tryd.prog 25) (D4 ++ (((br, .cells #[vs s, vi to, vi 0] 139 (0, 0)) :: (b', .cells #[vs c, vi ra, vi re] 139 (0, 0)) :: (b2, .cells #[.slice none 0 0, .slice none 0 0] 25 (0, 0)) :: (b6, .cells #[vt, vl] 25 (0, 0)) :: (b7, .cells #[x, y] 25 (0, 0)) :: D) ++ [(b8, .cells (refC r).toArray 42 (0, 0))])) (vp b7 0) (.agg #[vt, v4]) = some (D4 ++ (((br, .cells #[vs s, vi to, vi 0] 139 (0, 0)) :: (b', .cells #[vs c, vi ra, vi re] 139 (0, 0)) :: (b2, .cells #[.slice none 0 0, .slice none 0 0] 25 (0, 0)) :: (b6, .cells #[vt, vl] 25 (0, 0)) :: (b7, .cells #[vt, v4] 25 (0, 0)) :: D) ++ [(b8, .cells (refC r).toArray 42 (0, 0))])) := by
          rw [Tryd.ag25, storeAt_p, look_app_r h74]
          simp (disch := omega) only [List.cons_append, look_other, look_same]
          rw [store_bk _ _ _ _ _ (gri_cell hgt).1 hbuf.cell.1, upd_some, setB_appr h74]
          simp (disch := omega) only [setB_other, setB_same]
        refine Ow.store rfl rfl rfl hst7 ?_
        with_reducible refine Ow.nil ?_
        with_reducible refine thenK_normal ?_
        refine Cw.permL (M := (b2, .cells #[.slice none 0 0, .slice none 0 0] 25 (0, 0)) :: (br, .cells #[vs s, vi to, vi 0] 139 (0, 0)) :: (b6, .cells #[vt, vl] 25 (0, 0)) :: (b7, .cells #[vt, v4] 25 (0, 0)) :: (b', .cells #[vs c, vi ra, vi re] 139 (0, 0)) :: (b8, .cells (refC r).toArray 42 (0, 0)) :: (D ++ D4)) (by classical exact List.perm_iff_count.2 fun a => by simp only [List.count_append, List.count_cons, List.count_nil] <;> omega) ?_
        simp only [putF_some, putF_none, setF_0, setF_s]
        have hND : New w.heap.size (D ++ D4) := hN.app (New.of_le fun q hq => by
          rcases hk2 q hq with h | h
          · have := hN1.le q h; omega
          · omega)
        have hNn : New w.heap.size ((br, .cells #[vs s, vi to, vi 0] 139 (0, 0)) :: (b7, .cells #[vt, v4] 25 (0, 0)) :: (b', .cells #[vs c, vi ra, vi re] 139 (0, 0)) :: (b8, .cells (refC r).toArray 42 (0, 0)) :: (D ++ D4)) := ⟨hwr, hw7, (by omega), hw8, hND⟩
        have hfl4 : (log.map refC).flatten ++ refC r = ((log ++ [r]).map refC).flatten := by simp
        rw [hfl4] at hbuf
        have hgr4 : Gr D4 42 33 v4 (log.length + 1) ((log ++ [r]).map refC).flatten := .inl hbuf
        have hsh4 : ShortN (log ++ [r]) := short_snoc hsl hfn
        repeat' first | with_reducible (first | refine Cw.seq ?_ | refine thenK_normal ?_ | refine Ow.nil ?_) | ((with_reducible refine Cw.region (Ow.run rfl fun k hk => ?_)); simp (disch := (first | omega | (simp only [lenS, lenT, UInt64.reduceToNat] ; try omega))) only [↓vcL_none, ↓vcB_move, ↓ov_some, ↓ev_tmp, ↓getF_s, ↓getF_0, putF_some, setF_s, setF_0, nf_cons, ↓vcB_call, Md.next_seq, lit_i64]; (with_reducible refine hk _ _ _ _ ?_); clear hk k) | with_reducible (first | refine Cw.block ?_ | refine Cw.skip ?_ | refine Cw.exit ?_ | refine Cw.ret ?_ | refine Cw.label ?_ | refine Cw.goto ?_ | refine thenK_exit ?_ | refine thenK_ret ?_ | refine thenK_goto ?_ | refine blockK_normal ?_ | refine blockK_ret ?_ | refine blockK_goto ?_ | refine blockK_exit ?_ | refine blockK_pass rfl ?_ | refine scopeK_normal ?_ | refine scopeK_ret ?_ | refine scopeK_exit ?_ | refine scopeK_goto ?_) | ((with_reducible refine Cw.condC ?_); first | refine CwC.pt rfl (by omega) ?_ | refine CwC.pf rfl (by omega) ?_ | refine CwC.it rfl (by omega) ?_ | refine CwC.if rfl (by omega) ?_ | refine CwC.nt rfl (by omega) ?_ | refine CwC.nf rfl (by omega) ?_ | refine CwC.tt rfl ?_ | refine CwC.ff rfl ?_ | refine CwC.bt rfl (by assumption) ?_ | (refine CwC.bf rfl ?_ ?_; focus assumption))
        refine Ow.callFV rfl Tryd.call45 (fun w' hw' => REndR_spec b' c ra re w' (hw'.has _ _ (by simp))) ?_
        by_cases he : endR c ra re = 0
        · have hb : (endR c ra re != 0) = false := by simp [he]
          refine Ow.run rfl fun k hk => ?_
          simp (disch := (first | omega | (simp only [lenS, lenT, UInt64.reduceToNat] ; try omega))) only [↓vcL_none, ↓vcB_binOp, ↓ev_tmp, putF_some, setF_s, setF_0, ↓getF_s, ↓getF_0, ↓ev_const, binX_vi_vi, bin_neq_i, hb, ↓ov_some, nf_cons, ↓vcB_move, ↓vcL_some, lit_i64, yieldF_lit, ↓nthO_s, ↓nthO_0, yieldL_some, boolOf_b, beq_self_eq_true, ↓ib_true, ↓vcB_load, Md.next_seq, rd_seq_load, Tryd.ag25, loadAt_p, read_other, read_same, load_bk, ↓vcB_call]
          (with_reducible refine hk _ _ _ _ ?_); clear hk k
          repeat' first | with_reducible (first | refine Cw.seq ?_ | refine thenK_normal ?_ | refine Ow.nil ?_) | ((with_reducible refine Cw.region (Ow.run rfl fun k hk => ?_)); simp (disch := (first | omega | (simp only [lenS, lenT, UInt64.reduceToNat] ; try omega))) only []; (with_reducible refine hk _ _ _ _ ?_); clear hk k) | with_reducible (first | refine Cw.block ?_ | refine Cw.skip ?_ | refine Cw.exit ?_ | refine Cw.ret ?_ | refine Cw.label ?_ | refine Cw.goto ?_ | refine thenK_exit ?_ | refine thenK_ret ?_ | refine thenK_goto ?_ | refine blockK_normal ?_ | refine blockK_ret ?_ | refine blockK_goto ?_ | refine blockK_exit ?_ | refine blockK_pass rfl ?_ | refine scopeK_normal ?_ | refine scopeK_ret ?_ | refine scopeK_exit ?_ | refine scopeK_goto ?_) | ((with_reducible refine Cw.condC ?_); first | refine CwC.pt rfl (by omega) ?_ | refine CwC.pf rfl (by omega) ?_ | refine CwC.it rfl (by omega) ?_ | refine CwC.if rfl (by omega) ?_ | refine CwC.nt rfl (by omega) ?_ | refine CwC.nf rfl (by omega) ?_ | refine CwC.tt rfl ?_ | refine CwC.ff rfl ?_ | refine CwC.bt rfl (by assumption) ?_ | (refine CwC.bf rfl ?_ ?_; focus assumption))
          refine Ow.callFV rfl Tryd.call36 (fun w' hw' => Right_spec vt v4 tb (log ++ [r]) w' (GrI.slV (hgt.mono (fun p hp => by simp [hp])) hw' rfl rfl refC_len) (hgr4.slM (fun b o hm => hw'.has b o (by simp [hm])) (by simp) rfl refC_len) (by omega) (by simp; omega) hst hsh4) ?_
          cases hr : rightB tb (log ++ [r])
          · refine Ow.run rfl fun k hk => ?_
            simp (disch := (first | omega | (simp only [lenS, lenT, UInt64.reduceToNat] ; try omega))) only [↓vcL_some, lit_i64, putF_some, setF_s, setF_0, yieldF_lit, ↓nthO_s, ↓nthO_0, yieldL_some, ↓getF_s, ↓getF_0, boolOf_b, beq_self_eq_true, ↓ib_true, ↓vcB_unOp, ↓ev_tmp, un_not, Bool.not_false, ↓ov_some, nf_cons, ↓vcL_none, ↓vcB_pick, ↓ev_const, pick_f, ↓vcL_nil, Md.next_seq]
            (with_reducible refine hk _ _ _ _ ?_); clear hk k
            with_reducible refine Ow.nil ?_
            with_reducible refine thenK_normal ?_
            refine Cw.permL (M := (b2, .cells #[.slice none 0 0, .slice none 0 0] 25 (0, 0)) :: (b6, .cells #[vt, vl] 25 (0, 0)) :: ((br, .cells #[vs s, vi to, vi 0] 139 (0, 0)) :: (b7, .cells #[vt, v4] 25 (0, 0)) :: (b', .cells #[vs c, vi ra, vi re] 139 (0, 0)) :: (b8, .cells (refC r).toArray 42 (0, 0)) :: (D ++ D4))) (by classical exact List.perm_iff_count.2 fun a => by simp only [List.count_append, List.count_cons, List.count_nil] <;> omega) ?_
            repeat' first | with_reducible (first | refine Cw.seq ?_ | refine thenK_normal ?_ | refine Ow.nil ?_) | ((with_reducible refine Cw.region (Ow.run rfl fun k hk => ?_)); simp (disch := (first | omega | (simp only [lenS, lenT, UInt64.reduceToNat] ; try omega))) only []; (with_reducible refine hk _ _ _ _ ?_); clear hk k) | with_reducible (first | refine Cw.block ?_ | refine Cw.skip ?_ | refine Cw.exit ?_ | refine Cw.ret ?_ | refine Cw.label ?_ | refine Cw.goto ?_ | refine thenK_exit ?_ | refine thenK_ret ?_ | refine thenK_goto ?_ | refine blockK_normal ?_ | refine blockK_ret ?_ | refine blockK_goto ?_ | refine blockK_exit ?_ | refine blockK_pass rfl ?_ | refine scopeK_normal ?_ | refine scopeK_ret ?_ | refine scopeK_exit ?_ | refine scopeK_goto ?_) | ((with_reducible refine Cw.condC ?_); first | refine CwC.pt rfl (by omega) ?_ | refine CwC.pf rfl (by omega) ?_ | refine CwC.it rfl (by omega) ?_ | refine CwC.if rfl (by omega) ?_ | refine CwC.nt rfl (by omega) ?_ | refine CwC.nf rfl (by omega) ?_ | refine CwC.tt rfl ?_ | refine CwC.ff rfl ?_ | refine CwC.bt rfl (by assumption) ?_ | (refine CwC.bf rfl ?_ ?_; focus assumption))
            refine Jump.mk ⟨2, br, b6, b7, vt, vl, x, y, tb, log, at_, ((br, .cells #[vs s, vi to, vi 0] 139 (0, 0)) :: (b7, .cells #[vt, v4] 25 (0, 0)) :: (b', .cells #[vs c, vi ra, vi re] 139 (0, 0)) :: (b8, .cells (refC r).toArray 42 (0, 0)) :: (D ++ D4))⟩ rfl (by show 0 < 102 - log.length; omega) (.inr (.inl ⟨rfl, hw6, h26, hNn, hgt.mono fun p hp => by simp [hp], hgl.mono fun p hp => by simp [hp], ?_⟩)) rfl rfl
            exact book_done hhd hlg (by rw [hns, if_neg (by simp [hr])])
          · rw [if_pos ⟨he, hr⟩] at hns
            have hlb := rightB_len hr
            have hst6 := store_bk vt vl vt v4 25 (gri_cell hgt).1 hbuf.cell.1
            refine Ow.run rfl fun k hk => ?_
            simp (disch := (first | omega | (simp only [lenS, lenT, UInt64.reduceToNat] ; try omega))) only [↓vcL_some, lit_i64, putF_some, setF_s, setF_0, yieldF_lit, ↓nthO_s, ↓nthO_0, yieldL_some, ↓getF_s, ↓getF_0, boolOf_b, beq_self_eq_true, ↓ib_true, ↓vcB_unOp, ↓ev_tmp, un_not, Bool.not_true, ↓ov_some, nf_cons, ↓vcL_none, ↓vcB_pick, ↓ev_const, pick_f, ↓vcL_nil, Md.next_seq]
            (with_reducible refine hk _ _ _ _ ?_); clear hk k
            repeat' first | with_reducible (first | refine Cw.seq ?_ | refine thenK_normal ?_ | refine Ow.nil ?_) | ((with_reducible refine Cw.region (Ow.run rfl fun k hk => ?_)); simp (disch := (first | omega | (simp only [lenS, lenT, UInt64.reduceToNat] ; try omega))) only [↓vcL_none, ↓vcB_load, rd_seq_load, ↓ib_true, Tryd.ag25, ↓ev_tmp, ↓getF_s, ↓getF_0, loadAt_p, read_other, read_same, load_bk, ↓ov_some, putF_some, setF_s, setF_0, nf_cons, ↓vcB_store, storeAt_p, look_other, look_same, hst6, upd_some, setB_other, setB_same, oh_some, ↓vcL_nil, Md.next_seq, nh_cons]; (with_reducible refine hk _ _ _ _ ?_); clear hk k) | with_reducible (first | refine Cw.block ?_ | refine Cw.skip ?_ | refine Cw.exit ?_ | refine Cw.ret ?_ | refine Cw.label ?_ | refine Cw.goto ?_ | refine thenK_exit ?_ | refine thenK_ret ?_ | refine thenK_goto ?_ | refine blockK_normal ?_ | refine blockK_ret ?_ | refine blockK_goto ?_ | refine blockK_exit ?_ | refine blockK_pass rfl ?_ | refine scopeK_normal ?_ | refine scopeK_ret ?_ | refine scopeK_exit ?_ | refine scopeK_goto ?_) | ((with_reducible refine Cw.condC ?_); first | refine CwC.pt rfl (by omega) ?_ | refine CwC.pf rfl (by omega) ?_ | refine CwC.it rfl (by omega) ?_ | refine CwC.if rfl (by omega) ?_ | refine CwC.nt rfl (by omega) ?_ | refine CwC.nf rfl (by omega) ?_ | refine CwC.tt rfl ?_ | refine CwC.ff rfl ?_ | refine CwC.bt rfl (by assumption) ?_ | (refine CwC.bf rfl ?_ ?_; focus assumption))
            have hgr4i : GrI ((b', .cells #[vs c, vi ra, vi re] 139 (0, 0)) :: (b8, .cells (refC r).toArray 42 (0, 0)) :: (D ++ D4)) 42 33 v4 (log ++ [r]).length ((log ++ [r]).map refC).flatten := by
              rw [List.length_append]; exact hgr4.i fun p hp => by simp [hp]
            refine Jump.mk ⟨1, br, b6, b7, vt, v4, vt, v4, tb, log ++ [r], to, (b', .cells #[vs c, vi ra, vi re] 139 (0, 0)) :: (b8, .cells (refC r).toArray 42 (0, 0)) :: (D ++ D4)⟩ rfl (by show 102 - (log ++ [r]).length < 102 - log.length; rw [List.length_append, List.length_singleton]; omega) (.inl ⟨rfl, hwr, hw6, hw7, h2r, h26, h27, hr6, hr7, h67, ⟨(by omega), hw8, hND⟩, hgt.mono fun p hp => by simp [hp], hgr4i, (gri_cell hgt).1, hbuf.cell.1, hst, hsh4, htl, hlb, hle0.2, a0, hhd, ?_⟩) rfl rfl
            intro k hk
            simp only at hk ⊢
            rw [List.length_append, List.length_singleton] at hk
            rw [← hlg (k + 1) (by omega), logsR, hns]
        · have hb : (endR c ra re != 0) = true := by simpa using he
          refine Ow.run rfl fun k hk => ?_
          simp (disch := (first | omega | (simp only [lenS, lenT, UInt64.reduceToNat] ; try omega))) only [↓vcL_none, ↓vcB_binOp, ↓ev_tmp, putF_some, setF_s, setF_0, ↓getF_s, ↓getF_0, ↓ev_const, binX_vi_vi, bin_neq_i, hb, ↓ov_some, nf_cons, ↓vcB_move, ↓vcL_some, lit_i64, yieldF_lit, ↓nthO_s, ↓nthO_0, yieldL_some, boolOf_b, some_beq, beq_false, Bool.not_true, ↓ib_false, ↓vcB_pick, pick_t, ↓vcL_nil, Md.next_seq]
          (with_reducible refine hk _ _ _ _ ?_); clear hk k
          with_reducible refine Ow.nil ?_
          with_reducible refine thenK_normal ?_
          refine Cw.permL (M := (b2, .cells #[.slice none 0 0, .slice none 0 0] 25 (0, 0)) :: (b6, .cells #[vt, vl] 25 (0, 0)) :: ((br, .cells #[vs s, vi to, vi 0] 139 (0, 0)) :: (b7, .cells #[vt, v4] 25 (0, 0)) :: (b', .cells #[vs c, vi ra, vi re] 139 (0, 0)) :: (b8, .cells (refC r).toArray 42 (0, 0)) :: (D ++ D4))) (by classical exact List.perm_iff_count.2 fun a => by simp only [List.count_append, List.count_cons, List.count_nil] <;> omega) ?_
          repeat' first | with_reducible (first | refine Cw.seq ?_ | refine thenK_normal ?_ | refine Ow.nil ?_) | ((with_reducible refine Cw.region (Ow.run rfl fun k hk => ?_)); simp (disch := (first | omega | (simp only [lenS, lenT, UInt64.reduceToNat] ; try omega))) only []; (with_reducible refine hk _ _ _ _ ?_); clear hk k) | with_reducible (first | refine Cw.block ?_ | refine Cw.skip ?_ | refine Cw.exit ?_ | refine Cw.ret ?_ | refine Cw.label ?_ | refine Cw.goto ?_ | refine thenK_exit ?_ | refine thenK_ret ?_ | refine thenK_goto ?_ | refine blockK_normal ?_ | refine blockK_ret ?_ | refine blockK_goto ?_ | refine blockK_exit ?_ | refine blockK_pass rfl ?_ | refine scopeK_normal ?_ | refine scopeK_ret ?_ | refine scopeK_exit ?_ | refine scopeK_goto ?_) | ((with_reducible refine Cw.condC ?_); first | refine CwC.pt rfl (by omega) ?_ | refine CwC.pf rfl (by omega) ?_ | refine CwC.it rfl (by omega) ?_ | refine CwC.if rfl (by omega) ?_ | refine CwC.nt rfl (by omega) ?_ | refine CwC.nf rfl (by omega) ?_ | refine CwC.tt rfl ?_ | refine CwC.ff rfl ?_ | refine CwC.bt rfl (by assumption) ?_ | (refine CwC.bf rfl ?_ ?_; focus assumption))
          refine Jump.mk ⟨2, br, b6, b7, vt, vl, x, y, tb, log, at_, ((br, .cells #[vs s, vi to, vi 0] 139 (0, 0)) :: (b7, .cells #[vt, v4] 25 (0, 0)) :: (b', .cells #[vs c, vi ra, vi re] 139 (0, 0)) :: (b8, .cells (refC r).toArray 42 (0, 0)) :: (D ++ D4))⟩ rfl (by show 0 < 102 - log.length; omega) (.inr (.inl ⟨rfl, hw6, h26, hNn, hgt.mono fun p hp => by simp [hp], hgl.mono fun p hp => by simp [hp], ?_⟩)) rfl rfl
          exact book_done hhd hlg (by rw [hns, if_neg (fun h => he h.1)])
    · obtain ⟨lab, br, b6, b7, vt, vl, x, y, tb, log, at_, D⟩ := g
      obtain ⟨hlab, hg⟩ := hg
      simp only at hlab
      subst hlab
      simp only [RL, RSl, RH] at hg ⊢
      obtain ⟨hw6, h26, hN, hgt, hgl, hbk⟩ := hg
      simp only [bkO, rdO, nlV]
      simp only [contP, hasL, Bool.or_false, Bool.false_or, Bool.or_true, Bool.true_or, Nat.reduceBEq, beq_self_eq_true, ↓reduceIte, Bool.false_eq_true]
      simp only [overFrom, pin, setF_0, setF_s, List.contains_cons, List.contains_nil, Nat.reduceBEq, Bool.or_false, Bool.false_or, Bool.or_true, Bool.true_or, Nat.reduceAdd, ↓reduceIte, Bool.false_eq_true]
      have hst2 := store_bk (.slice none 0 0) (.slice none 0 0) vt vl 25 (gri_cell hgt).1 (gri_cell hgl).1
      repeat' first | with_reducible (first | refine Cw.seq ?_ | refine thenK_normal ?_ | refine Ow.nil ?_) | ((with_reducible refine Cw.region (Ow.run rfl fun k hk => ?_)); simp (disch := (first | omega | (simp only [lenS, lenT, UInt64.reduceToNat] ; try omega))) only [↓vcL_none, ↓vcB_load, rd_seq_load, ↓ib_true, Tryd.ag25, ↓ev_tmp, ↓getF_s, ↓getF_0, loadAt_p, read_other, read_same, load_bk, ↓ov_some, putF_some, setF_s, setF_0, nf_cons, ↓vcB_move, ↓vcB_store, storeAt_p, look_same, hst2, upd_some, setB_same, oh_some, ↓vcB_assign, ↓ev_const, lit_i64, ↓vcL_nil, Md.next_seq, nh_cons]; (with_reducible refine hk _ _ _ _ ?_); clear hk k) | with_reducible (first | refine Cw.block ?_ | refine Cw.skip ?_ | refine Cw.exit ?_ | refine Cw.ret ?_ | refine Cw.label ?_ | refine Cw.goto ?_ | refine thenK_exit ?_ | refine thenK_ret ?_ | refine thenK_goto ?_ | refine blockK_normal ?_ | refine blockK_ret ?_ | refine blockK_goto ?_ | refine blockK_exit ?_ | refine blockK_pass rfl ?_ | refine scopeK_normal ?_ | refine scopeK_ret ?_ | refine scopeK_exit ?_ | refine scopeK_goto ?_) | ((with_reducible refine Cw.condC ?_); first | refine CwC.pt rfl (by omega) ?_ | refine CwC.pf rfl (by omega) ?_ | refine CwC.it rfl (by omega) ?_ | refine CwC.if rfl (by omega) ?_ | refine CwC.nt rfl (by omega) ?_ | refine CwC.nf rfl (by omega) ?_ | refine CwC.tt rfl ?_ | refine CwC.ff rfl ?_ | refine CwC.bt rfl (by assumption) ?_ | (refine CwC.bf rfl ?_ ?_; focus assumption))
      refine ⟨_, (by simp (disch := (first | omega | (simp only [lenS, lenT, UInt64.reduceToNat] ; try omega))) only [resVs_cons, resV_cell, Tryd.ag25, ↓getF_s, ↓getF_0, loadAt_p, read_same, load_bk, resV_tmp, resVs_nil, cons2_some]; rfl), ?_⟩
      refine ⟨Ext.of_new ⟨hw2, hw6, hN⟩, ?_⟩
      unfold ReadS
      rw [hbk]
      exact ⟨vt, vl, rfl, hgt.mono fun p hp => by simp [hp], hgl.mono fun p hp => by simp [hp]⟩
    · obtain ⟨lab, br, b6, b7, vt, vl, x, y, tb, log, at_, D⟩ := g
      obtain ⟨hlab, hg⟩ := hg
      simp only at hlab
      subst hlab
      simp only [RL, RSl, RH] at hg ⊢
      obtain ⟨hN, hbk⟩ := hg
      simp only [bkO, rdO, nlV]
      simp only [contP, hasL, Bool.or_false, Bool.false_or, Bool.or_true, Bool.true_or, Nat.reduceBEq, beq_self_eq_true, ↓reduceIte, Bool.false_eq_true]
      simp only [overFrom, pin, setF_0, setF_s, List.contains_cons, List.contains_nil, Nat.reduceBEq, Bool.or_false, Bool.false_or, Bool.or_true, Bool.true_or, Nat.reduceAdd, ↓reduceIte, Bool.false_eq_true]
      repeat' first | with_reducible (first | refine Cw.seq ?_ | refine thenK_normal ?_ | refine Ow.nil ?_) | ((with_reducible refine Cw.region (Ow.run rfl fun k hk => ?_)); simp (disch := (first | omega | (simp only [lenS, lenT, UInt64.reduceToNat] ; try omega))) only [↓vcL_none, ↓vcB_build, lit_i64]; (with_reducible refine hk _ _ _ _ ?_); clear hk k) | with_reducible (first | refine Cw.block ?_ | refine Cw.skip ?_ | refine Cw.exit ?_ | refine Cw.ret ?_ | refine Cw.label ?_ | refine Cw.goto ?_ | refine thenK_exit ?_ | refine thenK_ret ?_ | refine thenK_goto ?_ | refine blockK_normal ?_ | refine blockK_ret ?_ | refine blockK_goto ?_ | refine blockK_exit ?_ | refine blockK_pass rfl ?_ | refine scopeK_normal ?_ | refine scopeK_ret ?_ | refine scopeK_exit ?_ | refine scopeK_goto ?_) | ((with_reducible refine Cw.condC ?_); first | refine CwC.pt rfl (by omega) ?_ | refine CwC.pf rfl (by omega) ?_ | refine CwC.it rfl (by omega) ?_ | refine CwC.if rfl (by omega) ?_ | refine CwC.nt rfl (by omega) ?_ | refine CwC.nf rfl (by omega) ?_ | refine CwC.tt rfl ?_ | refine CwC.ff rfl ?_ | refine CwC.bt rfl (by assumption) ?_ | (refine CwC.bf rfl ?_ ?_; focus assumption))
      refine Ow.build (.agg #[.slice none 0 0, .slice none 0 0]) rfl (by kernel_rfl) ?_
      refine Ow.run rfl fun k hk => ?_
      simp (disch := (first | omega | (simp only [lenS, lenT, UInt64.reduceToNat] ; try omega))) only [↓vcL_none, ↓vcB_store, Tryd.ag25, ↓ev_tmp, putF_some, setF_s, setF_0, ↓getF_s, ↓getF_0, storeAt_p, look_same, store_bk0, upd_some, setB_same, oh_some, ↓vcB_assign, ↓ov_some, ↓ev_const, nf_cons, ↓vcL_nil, Md.next_seq, nh_cons]
      (with_reducible refine hk _ _ _ _ ?_); clear hk k
      repeat' first | with_reducible (first | refine Cw.seq ?_ | refine thenK_normal ?_ | refine Ow.nil ?_) | ((with_reducible refine Cw.region (Ow.run rfl fun k hk => ?_)); simp (disch := (first | omega | (simp only [lenS, lenT, UInt64.reduceToNat] ; try omega))) only []; (with_reducible refine hk _ _ _ _ ?_); clear hk k) | with_reducible (first | refine Cw.block ?_ | refine Cw.skip ?_ | refine Cw.exit ?_ | refine Cw.ret ?_ | refine Cw.label ?_ | refine Cw.goto ?_ | refine thenK_exit ?_ | refine thenK_ret ?_ | refine thenK_goto ?_ | refine blockK_normal ?_ | refine blockK_ret ?_ | refine blockK_goto ?_ | refine blockK_exit ?_ | refine blockK_pass rfl ?_ | refine scopeK_normal ?_ | refine scopeK_ret ?_ | refine scopeK_exit ?_ | refine scopeK_goto ?_) | ((with_reducible refine Cw.condC ?_); first | refine CwC.pt rfl (by omega) ?_ | refine CwC.pf rfl (by omega) ?_ | refine CwC.it rfl (by omega) ?_ | refine CwC.if rfl (by omega) ?_ | refine CwC.nt rfl (by omega) ?_ | refine CwC.nf rfl (by omega) ?_ | refine CwC.tt rfl ?_ | refine CwC.ff rfl ?_ | refine CwC.bt rfl (by assumption) ?_ | (refine CwC.bf rfl ?_ ?_; focus assumption))
      refine ⟨_, (by simp (disch := (first | omega | (simp only [lenS, lenT, UInt64.reduceToNat] ; try omega))) only [resVs_cons, resV_cell, Tryd.ag25, ↓getF_s, ↓getF_0, loadAt_p, read_same, load_bk, resV_tmp, resVs_nil, cons2_some]; rfl), ?_⟩
      refine ⟨Ext.of_new ⟨hw2, hN⟩, ?_⟩
      unfold ReadS
      rw [hbk]; rfl
  · intro key
    repeat' first | with_reducible (first | refine Cw.seq ?_ | refine thenK_normal ?_ | refine Ow.nil ?_) | ((with_reducible refine Cw.region (Ow.run rfl fun k hk => ?_)); simp (disch := (first | omega | (simp only [lenS, lenT, UInt64.reduceToNat] ; try omega))) only [↓vcL_none, ↓vcB_move, ↓ov_some, ↓ev_tmp, ↓getF_0, putF_some, setF_s, setF_0, nf_cons, ↓vcB_call, Md.next_seq]; (with_reducible refine hk _ _ _ _ ?_); clear hk k) | with_reducible (first | refine Cw.block ?_ | refine Cw.skip ?_ | refine Cw.exit ?_ | refine Cw.ret ?_ | refine Cw.goto ?_ | refine thenK_exit ?_ | refine thenK_ret ?_ | refine thenK_goto ?_ | refine blockK_normal ?_ | refine blockK_ret ?_ | refine blockK_goto ?_ | refine blockK_exit ?_ | refine blockK_pass rfl ?_ | refine scopeK_normal ?_ | refine scopeK_ret ?_ | refine scopeK_exit ?_ | refine scopeK_goto ?_) | ((with_reducible refine Cw.condC ?_); first | refine CwC.pt rfl (by omega) ?_ | refine CwC.pf rfl (by omega) ?_ | refine CwC.it rfl (by omega) ?_ | refine CwC.if rfl (by omega) ?_ | refine CwC.nt rfl (by omega) ?_ | refine CwC.nf rfl (by omega) ?_ | refine CwC.tt rfl ?_ | refine CwC.ff rfl ?_ | refine CwC.bt rfl (by assumption) ?_ | (refine CwC.bf rfl ?_ ?_; focus assumption))
    refine Ow.callF rfl rfl Tryd.call41 (S := fun B v D => ∃ b', B ≤ b' ∧ v = vp b' 0 ∧ D = [(b', .cells #[vs s, vi 0, vi 0] 139 (0, 0))]) (fun w' hw' => RNew_spec s w') ?_
    rintro B v D hab hB ⟨br, hbr, rfl, rfl⟩
    obtain ⟨h2B, -⟩ := hab
    refine ⟨_, Mrg.fresh (by intro q hq; simp only [keys, List.map_cons, List.map_nil, List.mem_singleton] at hq; omega), ?_⟩
    simp only [List.cons_append, List.nil_append]
    refine Ow.run rfl fun k hk => ?_
    simp (disch := (first | omega | (simp only [lenS, lenT, UInt64.reduceToNat] ; try omega))) only [↓vcL_none, ↓vcB_assign, ↓ov_some, putF_some, setF_s, setF_0, ↓ev_tmp, ↓getF_s, ↓getF_0, nf_cons, ↓vcL_nil, Md.next_seq]
    (with_reducible refine hk _ _ _ _ ?_); clear hk k
    repeat' first | with_reducible (first | refine Cw.seq ?_ | refine thenK_normal ?_ | refine Ow.nil ?_) | ((with_reducible refine Cw.region (Ow.run rfl fun k hk => ?_)); simp (disch := (first | omega | (simp only [lenS, lenT, UInt64.reduceToNat] ; try omega))) only [↓vcL_none, ↓vcB_alloc]; (with_reducible refine hk _ _ _ _ ?_); clear hk k) | with_reducible (first | refine Cw.block ?_ | refine Cw.skip ?_ | refine Cw.exit ?_ | refine Cw.ret ?_ | refine Cw.goto ?_ | refine thenK_exit ?_ | refine thenK_ret ?_ | refine thenK_goto ?_ | refine blockK_normal ?_ | refine blockK_ret ?_ | refine blockK_goto ?_ | refine blockK_exit ?_ | refine blockK_pass rfl ?_ | refine scopeK_normal ?_ | refine scopeK_ret ?_ | refine scopeK_exit ?_ | refine scopeK_goto ?_) | ((with_reducible refine Cw.condC ?_); first | refine CwC.pt rfl (by omega) ?_ | refine CwC.pf rfl (by omega) ?_ | refine CwC.it rfl (by omega) ?_ | refine CwC.if rfl (by omega) ?_ | refine CwC.nt rfl (by omega) ?_ | refine CwC.nf rfl (by omega) ?_ | refine CwC.tt rfl ?_ | refine CwC.ff rfl ?_ | refine CwC.bt rfl (by assumption) ?_ | (refine CwC.bf rfl ?_ ?_; focus assumption))
    refine Ow.alloc rfl rfl zrBk fun b6 hb6 hw6 => ?_
    simp only [cells_agg, List.nil_append, List.cons_append]
    obtain ⟨h26, hr6, -⟩ := hb6
    refine Ow.run rfl fun k hk => ?_
    simp (disch := (first | omega | (simp only [lenS, lenT, UInt64.reduceToNat] ; try omega))) only [↓vcL_none, ↓vcB_alloc, putF_some, setF_s, setF_0]
    (with_reducible refine hk _ _ _ _ ?_); clear hk k
    refine Ow.alloc rfl rfl zrBk fun b7 hb7 hw7 => ?_
    simp only [cells_agg, List.nil_append, List.cons_append]
    obtain ⟨h27, hr7, h67, -⟩ := hb7
    refine Ow.run rfl fun k hk => ?_
    simp (disch := (first | omega | (simp only [lenS, lenT, UInt64.reduceToNat] ; try omega))) only [↓vcL_nil, putF_some, setF_s, setF_0]
    (with_reducible refine hk _ _ _ _ ?_); clear hk k
    repeat' first | with_reducible (first | refine Cw.seq ?_ | refine thenK_normal ?_ | refine Ow.nil ?_) | ((with_reducible refine Cw.region (Ow.run rfl fun k hk => ?_)); simp (disch := (first | omega | (simp only [lenS, lenT, UInt64.reduceToNat] ; try omega))) only [↓vcL_none, ↓vcB_assign, ↓ov_some, ↓ev_const, lit_i64, putF_some, setF_s, setF_0, nf_cons, ↓vcL_nil, Md.next_seq, ↓vcB_move, ↓ev_tmp, ↓getF_s, ↓getF_0, ↓vcB_call, lit_str]; (with_reducible refine hk _ _ _ _ ?_); clear hk k) | with_reducible (first | refine Cw.block ?_ | refine Cw.skip ?_ | refine Cw.exit ?_ | refine Cw.ret ?_ | refine Cw.goto ?_ | refine thenK_exit ?_ | refine thenK_ret ?_ | refine thenK_goto ?_ | refine blockK_normal ?_ | refine blockK_ret ?_ | refine blockK_goto ?_ | refine blockK_exit ?_ | refine blockK_pass rfl ?_ | refine scopeK_normal ?_ | refine scopeK_ret ?_ | refine scopeK_exit ?_ | refine scopeK_goto ?_) | ((with_reducible refine Cw.condC ?_); first | refine CwC.pt rfl (by omega) ?_ | refine CwC.pf rfl (by omega) ?_ | refine CwC.it rfl (by omega) ?_ | refine CwC.if rfl (by omega) ?_ | refine CwC.nt rfl (by omega) ?_ | refine CwC.nf rfl (by omega) ?_ | refine CwC.tt rfl ?_ | refine CwC.ff rfl ?_ | refine CwC.bt rfl (by assumption) ?_ | (refine CwC.bf rfl ?_ ?_; focus assumption))
    refine Ow.permL (M := [(br, .cells #[vs s, vi 0, vi 0] 139 (0, 0))] ++ [(b2, .cells #[.slice none 0 0, .slice none 0 0] 25 (0, 0)), (b6, .cells #[.slice none 0 0, .slice none 0 0] 25 (0, 0)), (b7, .cells #[.slice none 0 0, .slice none 0 0] 25 (0, 0))]) (by classical exact List.perm_iff_count.2 fun a => by simp only [List.count_append, List.count_cons, List.count_nil] <;> omega) ?_
    refine Ow.callX (Y := [(b2, .cells #[.slice none 0 0, .slice none 0 0] 25 (0, 0)), (b6, .cells #[.slice none 0 0, .slice none 0 0] 25 (0, 0)), (b7, .cells #[.slice none 0 0, .slice none 0 0] 25 (0, 0))]) (by simp) rfl rfl Tryd.call42 (fun w' hw' hX hn => unrecord_spec br s 0 0 [72] w' (GlobC.of hG hw' (New.not (L := [(br, .cells #[vs s, vi 0, vi 0] 139 (0, 0))] ++ [(b2, .cells #[.slice none 0 0, .slice none 0 0] 25 (0, 0)), (b6, .cells #[.slice none 0 0, .slice none 0 0] 25 (0, 0)), (b7, .cells #[.slice none 0 0, .slice none 0 0] 25 (0, 0))]) (by exact ⟨(by omega), hw2, hw6, hw7, trivial⟩) hglt)) (by omega) (Nat.zero_le _) (by omega) (hX _ List.mem_cons_self)) (fun v1 D1 hC1 hS1 => ?_)
    rcases hS1 with ⟨hno, rfl, rfl⟩ | ⟨b', c, hc, rfl, hb', hne, rfl⟩
    · refine Ow.run rfl fun k hk => ?_
      simp (disch := (first | omega | (simp only [lenS, lenT, UInt64.reduceToNat] ; try omega))) only [↓vcL_none, ↓vcB_assign, ↓ov_some, putF_some, setF_s, setF_0, ↓ev_tmp, ↓getF_s, ↓getF_0, nf_cons, ↓vcL_nil, Md.next_seq, List.cons_append, List.nil_append]
      (with_reducible refine hk _ _ _ _ ?_); clear hk k
      repeat' first | with_reducible (first | refine Cw.seq ?_ | refine thenK_normal ?_ | refine Ow.nil ?_) | ((with_reducible refine Cw.region (Ow.run rfl fun k hk => ?_)); simp (disch := (first | omega | (simp only [lenS, lenT, UInt64.reduceToNat] ; try omega))) only [↓vcL_none, ↓vcB_move, ↓ov_some, ↓ev_tmp, ↓getF_s, ↓getF_0, putF_some, setF_s, setF_0, nf_cons, ↓vcB_call, Md.next_seq, lit_i64]; (with_reducible refine hk _ _ _ _ ?_); clear hk k) | with_reducible (first | refine Cw.block ?_ | refine Cw.skip ?_ | refine Cw.exit ?_ | refine Cw.ret ?_ | refine Cw.goto ?_ | refine thenK_exit ?_ | refine thenK_ret ?_ | refine thenK_goto ?_ | refine blockK_normal ?_ | refine blockK_ret ?_ | refine blockK_goto ?_ | refine blockK_exit ?_ | refine blockK_pass rfl ?_ | refine scopeK_normal ?_ | refine scopeK_ret ?_ | refine scopeK_exit ?_ | refine scopeK_goto ?_) | ((with_reducible refine Cw.condC ?_); first | refine CwC.pt rfl (by omega) ?_ | refine CwC.pf rfl (by omega) ?_ | refine CwC.it rfl (by omega) ?_ | refine CwC.if rfl (by omega) ?_ | refine CwC.nt rfl (by omega) ?_ | refine CwC.nf rfl (by omega) ?_ | refine CwC.tt rfl ?_ | refine CwC.ff rfl ?_ | refine CwC.bt rfl (by assumption) ?_ | (refine CwC.bf rfl ?_ ?_; focus assumption))
      refine Ow.callFV rfl Tryd.call43 (fun w' hw' => RNumber_nil 16 w') ?_
      refine Ow.run rfl fun k hk => ?_
      simp (disch := (first | omega | (simp only [lenS, lenT, UInt64.reduceToNat] ; try omega))) only [↓vcL_none, ↓vcB_move, ↓ov_some, putF_some, setF_s, setF_0, ↓ev_const, nf_cons, ↓vcL_nil, Md.next_seq]
      (with_reducible refine hk _ _ _ _ ?_); clear hk k
      repeat' first | with_reducible (first | refine Cw.seq ?_ | refine thenK_normal ?_ | refine Ow.nil ?_) | ((with_reducible refine Cw.region (Ow.run rfl fun k hk => ?_)); simp (disch := (first | omega | (simp only [lenS, lenT, UInt64.reduceToNat] ; try omega))) only []; (with_reducible refine hk _ _ _ _ ?_); clear hk k) | with_reducible (first | refine Cw.block ?_ | refine Cw.skip ?_ | refine Cw.exit ?_ | refine Cw.ret ?_ | refine Cw.goto ?_ | refine thenK_exit ?_ | refine thenK_ret ?_ | refine thenK_goto ?_ | refine blockK_normal ?_ | refine blockK_ret ?_ | refine blockK_goto ?_ | refine blockK_exit ?_ | refine blockK_pass rfl ?_ | refine scopeK_normal ?_ | refine scopeK_ret ?_ | refine scopeK_exit ?_ | refine scopeK_goto ?_) | ((with_reducible refine Cw.condC ?_); first | refine CwC.pt rfl (by omega) ?_ | refine CwC.pf rfl (by omega) ?_ | refine CwC.it rfl (by omega) ?_ | refine CwC.if rfl (by omega) ?_ | refine CwC.nt rfl (by omega) ?_ | refine CwC.nf rfl (by omega) ?_ | refine CwC.tt rfl ?_ | refine CwC.ff rfl ?_ | refine CwC.bt rfl (by assumption) ?_ | (refine CwC.bf rfl ?_ ?_; focus assumption))
      refine Cw.loopG (G := Unit) [17, 18, 19, 20, 21, 22, 23, 24, 25, 16] (fun g => [(16, vi 0)]) (fun g => [(br, .cells #[vs s, vi (recR s 0 0 [72]).2.1, vi (recR s 0 0 [72]).2.2] 139 (0, 0)), (b2, .cells #[.slice none 0 0, .slice none 0 0] 25 (0, 0)), (b6, .cells #[.slice none 0 0, .slice none 0 0] 25 (0, 0)), (b7, .cells #[.slice none 0 0, .slice none 0 0] 25 (0, 0))]) (fun g => True) (fun g => 0) () rfl rfl ?_ ?_
      · trivial
      intro g j hg
      simp only [overFrom, pin, setF_0, setF_s, List.contains_cons, List.contains_nil, Nat.reduceBEq, Bool.or_false, Bool.false_or, Bool.or_true, Bool.true_or, Nat.reduceAdd, ↓reduceIte, Bool.false_eq_true]
      repeat' first | with_reducible (first | refine Cw.seq ?_ | refine thenK_normal ?_ | refine Ow.nil ?_) | ((with_reducible refine Cw.region (Ow.run rfl fun k hk => ?_)); simp (disch := (first | omega | (simp only [lenS, lenT, UInt64.reduceToNat] ; try omega))) only [↓vcL_none, ↓vcB_binOp, ↓ev_tmp, ↓getF_s, ↓getF_0, binX_vi_vi, bin_lss_i, ↓ov_some, putF_some, setF_s, setF_0, nf_cons, ↓vcL_nil, Md.next_seq, ↓vcB_move, ↓vcB_call, lit_i64]; (with_reducible refine hk _ _ _ _ ?_); clear hk k) | with_reducible (first | refine Cw.block ?_ | refine Cw.skip ?_ | refine Cw.exit ?_ | refine Cw.ret ?_ | refine Cw.goto ?_ | refine thenK_exit ?_ | refine thenK_ret ?_ | refine thenK_goto ?_ | refine blockK_normal ?_ | refine blockK_ret ?_ | refine blockK_goto ?_ | refine blockK_exit ?_ | refine blockK_pass rfl ?_ | refine scopeK_normal ?_ | refine scopeK_ret ?_ | refine scopeK_exit ?_ | refine scopeK_goto ?_) | ((with_reducible refine Cw.condC ?_); first | refine CwC.pt rfl (by omega) ?_ | refine CwC.pf rfl (by omega) ?_ | refine CwC.it rfl (by omega) ?_ | refine CwC.if rfl (by omega) ?_ | refine CwC.nt rfl (by omega) ?_ | refine CwC.nf rfl (by omega) ?_ | refine CwC.tt rfl ?_ | refine CwC.ff rfl ?_ | refine CwC.bt rfl (by assumption) ?_ | (refine CwC.bf rfl ?_ ?_; focus assumption))
      have h30 : ((3 : Int) != 0) = true := rfl
      refine Ow.callFV rfl Tryd.call45 (fun w' hw' => REnd_nil w') ?_
      refine Ow.run rfl fun k hk => ?_
      simp (disch := (first | omega | (simp only [lenS, lenT, UInt64.reduceToNat] ; try omega))) only [↓vcL_none, ↓vcB_binOp, ↓ev_tmp, putF_some, setF_s, setF_0, ↓getF_s, ↓getF_0, ↓ev_const, binX_vi_vi, bin_neq_i, h30, ↓ov_some, nf_cons, ↓vcB_move, ↓vcL_some, lit_i64, yieldF_lit, ↓nthO_s, ↓nthO_0, yieldL_some, boolOf_b, some_beq, beq_false, Bool.not_true, ↓ib_false, ↓vcB_pick, pick_t, ↓vcL_nil, Md.next_seq]
      (with_reducible refine hk _ _ _ _ ?_); clear hk k
      with_reducible refine Ow.nil ?_
      with_reducible refine thenK_normal ?_
      refine Cw.permL (M := (b2, .cells #[.slice none 0 0, .slice none 0 0] 25 (0, 0)) :: [(br, .cells #[vs s, vi (recR s 0 0 [72]).2.1, vi (recR s 0 0 [72]).2.2] 139 (0, 0)), (b6, .cells #[.slice none 0 0, .slice none 0 0] 25 (0, 0)), (b7, .cells #[.slice none 0 0, .slice none 0 0] 25 (0, 0))]) (by classical exact List.perm_iff_count.2 fun a => by simp only [List.count_append, List.count_cons, List.count_nil] <;> omega) ?_
      repeat' first | with_reducible (first | refine Cw.seq ?_ | refine thenK_normal ?_ | refine Ow.nil ?_) | ((with_reducible refine Cw.region (Ow.run rfl fun k hk => ?_)); simp (disch := (first | omega | (simp only [lenS, lenT, UInt64.reduceToNat] ; try omega))) only []; (with_reducible refine hk _ _ _ _ ?_); clear hk k) | with_reducible (first | refine Cw.block ?_ | refine Cw.skip ?_ | refine Cw.exit ?_ | refine Cw.ret ?_ | refine Cw.goto ?_ | refine thenK_exit ?_ | refine thenK_ret ?_ | refine thenK_goto ?_ | refine blockK_normal ?_ | refine blockK_ret ?_ | refine blockK_goto ?_ | refine blockK_exit ?_ | refine blockK_pass rfl ?_ | refine scopeK_normal ?_ | refine scopeK_ret ?_ | refine scopeK_exit ?_ | refine scopeK_goto ?_) | ((with_reducible refine Cw.condC ?_); first | refine CwC.pt rfl (by omega) ?_ | refine CwC.pf rfl (by omega) ?_ | refine CwC.it rfl (by omega) ?_ | refine CwC.if rfl (by omega) ?_ | refine CwC.nt rfl (by omega) ?_ | refine CwC.nf rfl (by omega) ?_ | refine CwC.tt rfl ?_ | refine CwC.ff rfl ?_ | refine CwC.bt rfl (by assumption) ?_ | (refine CwC.bf rfl ?_ ?_; focus assumption))
      exact Jump.mk ⟨0, br, b6, b7, nlV, nlV, nlV, nlV, [], [], 0, [(br, .cells #[vs s, vi (recR s 0 0 [72]).2.1, vi (recR s 0 0 [72]).2.2] 139 (0, 0)), (b6, .cells #[.slice none 0 0, .slice none 0 0] 25 (0, 0)), (b7, .cells #[.slice none 0 0, .slice none 0 0] 25 (0, 0))]⟩ rfl trivial (.inr (.inr ⟨rfl, ⟨(by omega), hw6, hw7, trivial⟩, head_none hno⟩)) rfl rfl
    · have hbA : b2 < b' ∧ br < b' ∧ b6 < b' ∧ b7 < b' := by
        rcases hC1.new b' (by simp [keys]) with h | ⟨h, -⟩
        · simp [keys] at h; omega
        · obtain ⟨q1, q2, q3, q4, -⟩ := h
          exact ⟨q2, q1, q3, q4⟩
      obtain ⟨h2b, hrb, h6b, h7b⟩ := hbA
      have hcl := recR_len (by omega) hc
      have hce := recR_err hc
      have hhd := head_some hc
      rw [hce]
      have hle0 := rec_le (s := s) (a := 0) (p := [72]) (e := 0) (Nat.zero_le _)
      generalize hto : (recR s 0 0 [72]).2.1 = to at *
      simp only [List.cons_append, List.nil_append]
      refine Ow.run rfl fun k hk => ?_
      simp (disch := (first | omega | (simp only [lenS, lenT, UInt64.reduceToNat] ; try omega))) only [↓vcL_none, ↓vcB_assign, ↓ov_some, putF_some, setF_s, setF_0, ↓ev_tmp, ↓getF_s, ↓getF_0, nf_cons, ↓vcL_nil, Md.next_seq]
      (with_reducible refine hk _ _ _ _ ?_); clear hk k
      repeat' first | with_reducible (first | refine Cw.seq ?_ | refine thenK_normal ?_ | refine Ow.nil ?_) | ((with_reducible refine Cw.region (Ow.run rfl fun k hk => ?_)); simp (disch := (first | omega | (simp only [lenS, lenT, UInt64.reduceToNat] ; try omega))) only [↓vcL_none, ↓vcB_move, ↓ov_some, ↓ev_tmp, ↓getF_s, ↓getF_0, putF_some, setF_s, setF_0, nf_cons, ↓vcB_call, Md.next_seq, lit_i64]; (with_reducible refine hk _ _ _ _ ?_); clear hk k) | with_reducible (first | refine Cw.block ?_ | refine Cw.skip ?_ | refine Cw.exit ?_ | refine Cw.ret ?_ | refine Cw.goto ?_ | refine thenK_exit ?_ | refine thenK_ret ?_ | refine thenK_goto ?_ | refine blockK_normal ?_ | refine blockK_ret ?_ | refine blockK_goto ?_ | refine blockK_exit ?_ | refine blockK_pass rfl ?_ | refine scopeK_normal ?_ | refine scopeK_ret ?_ | refine scopeK_exit ?_ | refine scopeK_goto ?_) | ((with_reducible refine Cw.condC ?_); first | refine CwC.pt rfl (by omega) ?_ | refine CwC.pf rfl (by omega) ?_ | refine CwC.it rfl (by omega) ?_ | refine CwC.if rfl (by omega) ?_ | refine CwC.nt rfl (by omega) ?_ | refine CwC.nf rfl (by omega) ?_ | refine CwC.tt rfl ?_ | refine CwC.ff rfl ?_ | refine CwC.bt rfl (by assumption) ?_ | (refine CwC.bf rfl ?_ ?_; focus assumption))
      refine Ow.callM rfl rfl Tryd.call43 (by simp [keys]) (fun w' hw' => RNumber_spec b' c 0 0 16 w' (Nat.zero_le _) (by omega) (hw'.has _ _ (List.mem_cons_of_mem _ List.mem_cons_self))) ?_
      have hnm := numR_most (s := c) (a := 0) (e := 0) (most := 16) (by omega)
      have hnle := numR_le (s := c) (a := 0) (e := 0) (most := 16) (Nat.zero_le _)
      generalize numR c 0 0 16 = nn at *
      obtain ⟨n1, na, ne⟩ := nn
      simp only at hnm hnle hhd ⊢
      obtain ⟨k, rfl⟩ := Int.eq_ofNat_of_zero_le hnm.1
      have hk16 : k ≤ 16 := by omega
      simp (disch := (first | omega | (simp only [lenS, lenT, UInt64.reduceToNat] ; try omega))) only [setB_other, setB_same]
      refine Ow.run rfl fun k hk => ?_
      simp (disch := (first | omega | (simp only [lenS, lenT, UInt64.reduceToNat] ; try omega))) only [↓vcL_none, ↓vcB_move, ↓ov_some, putF_some, setF_s, setF_0, ↓ev_const, nf_cons, ↓vcL_nil, Md.next_seq]
      (with_reducible refine hk _ _ _ _ ?_); clear hk k
      repeat' first | with_reducible (first | refine Cw.seq ?_ | refine thenK_normal ?_ | refine Ow.nil ?_) | ((with_reducible refine Cw.region (Ow.run rfl fun k hk => ?_)); simp (disch := (first | omega | (simp only [lenS, lenT, UInt64.reduceToNat] ; try omega))) only []; (with_reducible refine hk _ _ _ _ ?_); clear hk k) | with_reducible (first | refine Cw.block ?_ | refine Cw.skip ?_ | refine Cw.exit ?_ | refine Cw.ret ?_ | refine Cw.goto ?_ | refine thenK_exit ?_ | refine thenK_ret ?_ | refine thenK_goto ?_ | refine blockK_normal ?_ | refine blockK_ret ?_ | refine blockK_goto ?_ | refine blockK_exit ?_ | refine blockK_pass rfl ?_ | refine scopeK_normal ?_ | refine scopeK_ret ?_ | refine scopeK_exit ?_ | refine scopeK_goto ?_) | ((with_reducible refine Cw.condC ?_); first | refine CwC.pt rfl (by omega) ?_ | refine CwC.pf rfl (by omega) ?_ | refine CwC.it rfl (by omega) ?_ | refine CwC.if rfl (by omega) ?_ | refine CwC.nt rfl (by omega) ?_ | refine CwC.nf rfl (by omega) ?_ | refine CwC.tt rfl ?_ | refine CwC.ff rfl ?_ | refine CwC.bt rfl (by assumption) ?_ | (refine CwC.bf rfl ?_ ?_; focus assumption))
      refine Cw.permL (M := (b', .cells #[vs c, vi na, vi ne] 139 (0, 0)) :: (b6, .cells #[.slice none 0 0, .slice none 0 0] 25 (0, 0)) :: (br, .cells #[vs s, vi to, vi 0] 139 (0, 0)) :: (b2, .cells #[.slice none 0 0, .slice none 0 0] 25 (0, 0)) :: (b7, .cells #[.slice none 0 0, .slice none 0 0] 25 (0, 0)) :: []) (by classical exact List.perm_iff_count.2 fun a => by simp only [List.count_append, List.count_cons, List.count_nil] <;> omega) ?_
      refine Cw.loopG (G := HG) [17, 18, 19, 20, 21, 22, 23, 24, 25, 16] (fun g => [(16, vi g.g)]) (fun g => (b', .cells #[vs c, vi (refsR c na ne g.g).2.1, vi (refsR c na ne g.g).2.2] 139 (0, 0)) :: (b6, .cells #[g.vt, .slice none 0 0] 25 (0, 0)) :: (br, .cells #[vs s, vi to, vi 0] 139 (0, 0)) :: (b2, .cells #[.slice none 0 0, .slice none 0 0] 25 (0, 0)) :: (b7, .cells #[.slice none 0 0, .slice none 0 0] 25 (0, 0)) :: g.D) (fun g => g.g ≤ k ∧ New (b' + 1) g.D ∧ Gr g.D 42 33 g.vt g.g ((refsR c na ne g.g).1.map refC).flatten) (fun g => k - g.g) ⟨0, .slice none 0 0, []⟩ rfl rfl ?_ ?_
      · exact ⟨Nat.zero_le _, trivial, Gr.nl⟩
      intro g j hg
      simp only [overFrom, pin, setF_0, setF_s, List.contains_cons, List.contains_nil, Nat.reduceBEq, Bool.or_false, Bool.false_or, Bool.or_true, Bool.true_or, Nat.reduceAdd, ↓reduceIte, Bool.false_eq_true]
      obtain ⟨g, vt, D⟩ := g
      simp only at hg ⊢
      obtain ⟨hgk, hND, hGr⟩ := hg
      have hrle := refsR_le (e := ne) hnle.2 g
      by_cases hlt : g < k
      · repeat' first | with_reducible (first | refine Cw.seq ?_ | refine thenK_normal ?_ | refine Ow.nil ?_) | ((with_reducible refine Cw.region (Ow.run rfl fun k hk => ?_)); simp (disch := (first | omega | (simp only [lenS, lenT, UInt64.reduceToNat] ; try omega))) only [↓vcL_none, ↓vcB_binOp, ↓ev_tmp, ↓getF_s, ↓getF_0, binX_vi_vi, bin_lss_i, ↓ov_some, putF_some, setF_s, setF_0, nf_cons, ↓vcL_nil, Md.next_seq]; (with_reducible refine hk _ _ _ _ ?_); clear hk k) | with_reducible (first | refine Cw.block ?_ | refine Cw.skip ?_ | refine Cw.exit ?_ | refine Cw.ret ?_ | refine Cw.goto ?_ | refine thenK_exit ?_ | refine thenK_ret ?_ | refine thenK_goto ?_ | refine blockK_normal ?_ | refine blockK_ret ?_ | refine blockK_goto ?_ | refine blockK_exit ?_ | refine blockK_pass rfl ?_ | refine scopeK_normal ?_ | refine scopeK_ret ?_ | refine scopeK_exit ?_ | refine scopeK_goto ?_) | ((with_reducible refine Cw.condC ?_); first | refine CwC.pt rfl (by omega) ?_ | refine CwC.pf rfl (by omega) ?_ | refine CwC.it rfl (by omega) ?_ | refine CwC.if rfl (by omega) ?_ | refine CwC.nt rfl (by omega) ?_ | refine CwC.nf rfl (by omega) ?_ | refine CwC.tt rfl ?_ | refine CwC.ff rfl ?_ | refine CwC.bt rfl (by assumption) ?_ | (refine CwC.bf rfl ?_ ?_; focus assumption))
        refine Cw.regionS [b6] [0, 2, 1, 3, 4, 5, 6, 7] [7] (by kernel_rfl) (by kernel_rfl) (by kernel_rfl) ?_
        simp only [nl_cons, ↓pickL_nil, ↓pickL_cons, ↓nthO_0, ↓nthO_s, consO_some]
        refine Ow.runQ fun k hk => ?_
        simp (disch := (first | omega | (simp only [lenS, lenT, UInt64.reduceToNat] ; try omega))) only [↓vcL_none, ↓vcB_fieldAddr, Tryd.fl25_0, ↓ev_tmp, ↓getF_s, ↓getF_0, fieldAddr_p, Nat.add_zero, ↓ov_some, putF_some, setF_s, setF_0, nf_cons, ↓vcB_move, ↓vcB_load, Md.next_sof, List.contains_cons, Nat.reduceBEq, List.contains_nil, Bool.or_false, Bool.false_eq_true, ↓reduceIte, ↓rd_sof_load, rdIn_p, beq_self_eq_true, ↓ib_true, Tryd.ag23, loadAt_p, read_other, read_same, load_bk0, ↓vcB_call]
        (with_reducible refine hk _ _ _ _ ?_); clear hk k
        refine Ow.soft rfl rfl rfl ?_
        refine Ow.callM rfl rfl Tryd.call44 (by simp [keys]) (fun w' hw' => one_spec b' c (refsR c na ne g).2.1 (refsR c na ne g).2.2 w' hrle.2 (by omega) (hw'.has _ _ List.mem_cons_self)) ?_
        with_reducible refine Ow.nil ?_
        refine ⟨fun b hb => read_setB_ne (by simp only [List.mem_cons, List.not_mem_nil, or_false] at hb; omega), ?_⟩
        rw [oneR_eq]
        have hfn := refR_name (s := c) (a := (refsR c na ne g).2.1) (e := (refsR c na ne g).2.2) hcl
        have hrs : refsR c na ne (g + 1) = ((refsR c na ne g).1 ++ [(refR c (refsR c na ne g).2.1 (refsR c na ne g).2.2).1], (refR c (refsR c na ne g).2.1 (refsR c na ne g).2.2).2) := rfl
        generalize refR c (refsR c na ne g).2.1 (refsR c na ne g).2.2 = rr at *
        obtain ⟨r, ra, re⟩ := rr
        simp only at hfn hrs ⊢
        simp (disch := (first | omega | (simp only [lenS, lenT, UInt64.reduceToNat] ; try omega))) only [setB_same]
        refine Ow.soft rfl rfl rfl ?_
        refine Ow.buildSlice (e := 42) (refC r).toArray rfl rfl (sliceRef r) fun b8 hb8 hw8 => ?_
        have hb8' : b' < b8 := above_to hb8 (by simp [keys])
        with_reducible refine Ow.nil ?_
        refine ⟨readB_appR (by simp [keys]), ?_⟩
        try simp only [List.cons_append, List.nil_append]
        refine Ow.soft rfl rfl rfl ?_
        refine Ow.permL (M := D ++ ((b', .cells #[vs c, vi ra, vi re] 139 (0, 0)) :: (b6, .cells #[vt, .slice none 0 0] 25 (0, 0)) :: (br, .cells #[vs s, vi to, vi 0] 139 (0, 0)) :: (b2, .cells #[.slice none 0 0, .slice none 0 0] 25 (0, 0)) :: (b7, .cells #[.slice none 0 0, .slice none 0 0] 25 (0, 0)) :: [(b8, .cells (refC r).toArray 42 (0, 0))])) (by classical exact List.perm_iff_count.2 fun a => by simp only [List.count_append, List.count_cons, List.count_nil] <;> omega) ?_
        refine Ow.appendX (e := 42) (k := 1) (new := refC r) (X := D) vt rfl rfl rfl rfl Tryd.underlying23 Tryd.ag42 (by kernel_rfl) zrRef (by rw [cells_ref, List.size_toArray, refC_len]) Tryd.underlying23 (by intro k h; cases h) hGr (fun w' hw' => AppX.one1 (hw'.has b8 (.cells (refC r).toArray 42 (0, 0)) (by simp)) (refC_len r) (refC_one r)) (by omega) (by omega) (fun B v4 D4 hA4 hB4 hbuf hk1 hk2 hlk => ?_)
        have hB8 : b' < B := above_to hA4 (by simp [keys_app, keys])
        have hN4 : New (b' + 1) D4 := New.of_le fun q hq => by
          rcases hk2 q hq with h | h
          · exact hND.le q h
          · omega
        have h64 : b6 ∉ keys D4 := hN4.not (by omega)
        with_reducible refine Ow.nil ?_
        refine ⟨fun q hq => ?_, ?_⟩
        · rw [List.mem_singleton] at hq
          subst hq
          rw [readB_appr h64]
          simp (disch := omega) only [read_other, read_same]
        try simp only [List.cons_append, List.nil_append]
        have hst6 : storeAtV (aggT Tryd.prog 23) (D4 ++ ((b', .cells #[vs c, vi ra, vi re] 139 (0, 0)) :: (b6, .cells #[vt, .slice none 0 0] 25 (0, 0)) :: (br, .cells #[vs s, vi to, vi 0] 139 (0, 0)) :: (b2, .cells #[.slice none 0 0, .slice none 0 0] 25 (0, 0)) :: (b7, .cells #[.slice none 0 0, .slice none 0 0] 25 (0, 0)) :: [(b8, .cells (refC r).toArray 42 (0, 0))])) (vp b6 0) v4 = some (D4 ++ ((b', .cells #[vs c, vi ra, vi re] 139 (0, 0)) :: (b6, .cells #[v4, .slice none 0 0] 25 (0, 0)) :: (br, .cells #[vs s, vi to, vi 0] 139 (0, 0)) :: (b2, .cells #[.slice none 0 0, .slice none 0 0] 25 (0, 0)) :: (b7, .cells #[.slice none 0 0, .slice none 0 0] 25 (0, 0)) :: [(b8, .cells (refC r).toArray 42 (0, 0))])) := by
          rw [Tryd.ag23, storeAt_p, look_app_r h64]
          simp (disch := omega) only [look_other, look_same]
          rw [store_b0 _ _ _ _ hbuf.cell, upd_some, setB_appr h64]
          simp (disch := omega) only [setB_other, setB_same]
        refine Ow.runQ fun k hk => ?_
        simp (disch := (first | omega | (simp only [lenS, lenT, UInt64.reduceToNat] ; try omega))) only [↓vcL_none, ↓vcB_fieldAddr, Tryd.fl25_0, ↓ev_tmp, putF_some, setF_s, setF_0, ↓getF_s, ↓getF_0, fieldAddr_p, Nat.add_zero, ↓ov_some, nf_cons, ↓vcB_store_f, Md.next_sof, List.contains_cons, Nat.reduceBEq, List.contains_nil, Bool.or_false, Bool.false_eq_true, ↓reduceIte]
        (with_reducible refine hk _ _ _ _ ?_); clear hk k
        refine Ow.store rfl rfl rfl hst6 ?_
        with_reducible refine Ow.nil ?_
        with_reducible refine blockK_normal ?_
        with_reducible refine thenK_normal ?_
        refine Cw.permL (M := (b', .cells #[vs c, vi ra, vi re] 139 (0, 0)) :: (b6, .cells #[v4, .slice none 0 0] 25 (0, 0)) :: (br, .cells #[vs s, vi to, vi 0] 139 (0, 0)) :: (b2, .cells #[.slice none 0 0, .slice none 0 0] 25 (0, 0)) :: (b7, .cells #[.slice none 0 0, .slice none 0 0] 25 (0, 0)) :: (D4 ++ [(b8, .cells (refC r).toArray 42 (0, 0))])) (by classical exact List.perm_iff_count.2 fun a => by simp only [List.count_append, List.count_cons, List.count_nil] <;> omega) ?_
        repeat' first | with_reducible (first | refine Cw.seq ?_ | refine thenK_normal ?_ | refine Ow.nil ?_) | ((with_reducible refine Cw.region (Ow.run rfl fun k hk => ?_)); simp (disch := (first | omega | (simp only [lenS, lenT, UInt64.reduceToNat] ; try omega))) only [↓vcL_none, ↓vcB_binOp, ↓ev_tmp, putF_none, ↓getF_s, ↓getF_0, ↓ev_const, lit_i64, binX_vi_vi, bin_add_i, ↓ov_some, putF_some, setF_s, setF_0, nf_cons, ↓vcB_move, ↓vcL_nil, Md.next_seq]; (with_reducible refine hk _ _ _ _ ?_); clear hk k) | with_reducible (first | refine Cw.block ?_ | refine Cw.skip ?_ | refine Cw.exit ?_ | refine Cw.ret ?_ | refine Cw.goto ?_ | refine thenK_exit ?_ | refine thenK_ret ?_ | refine thenK_goto ?_ | refine blockK_normal ?_ | refine blockK_ret ?_ | refine blockK_goto ?_ | refine blockK_exit ?_ | refine blockK_pass rfl ?_ | refine scopeK_normal ?_ | refine scopeK_ret ?_ | refine scopeK_exit ?_ | refine scopeK_goto ?_) | ((with_reducible refine Cw.condC ?_); first | refine CwC.pt rfl (by omega) ?_ | refine CwC.pf rfl (by omega) ?_ | refine CwC.it rfl (by omega) ?_ | refine CwC.if rfl (by omega) ?_ | refine CwC.nt rfl (by omega) ?_ | refine CwC.nf rfl (by omega) ?_ | refine CwC.tt rfl ?_ | refine CwC.ff rfl ?_ | refine CwC.bt rfl (by assumption) ?_ | (refine CwC.bf rfl ?_ ?_; focus assumption))
        refine Again.mk (HG.mk (g + 1) v4 (D4 ++ [(b8, .cells (refC r).toArray 42 (0, 0))])) (by show k - (g + 1) < k - g; omega) ⟨by show g + 1 ≤ k; omega, hN4.app ⟨by omega, trivial⟩, ?_⟩ ?_ rfl
        · show Gr (D4 ++ [(b8, .cells (refC r).toArray 42 (0, 0))]) 42 33 v4 (g + 1) ((refsR c na ne (g + 1)).1.map refC).flatten
          rw [hrs]
          have e : (((refsR c na ne g).1 ++ [r]).map refC).flatten = ((refsR c na ne g).1.map refC).flatten ++ refC r := by simp
          rw [e]
          exact Gr.app (.inl hbuf)
        · simp only [hrs]
      · obtain rfl : g = k := by omega
        have hshT := refsR_short (a := na) (e := ne) hcl g
        have hlenT := refsR_length c na ne g
        rw [Int.toNat_natCast] at hhd
        generalize refsR c na ne g = tt at *
        obtain ⟨tb, ra, re⟩ := tt
        simp only at hhd hshT hlenT hGr hrle ⊢
        have hNw : New w.heap.size ((br, .cells #[vs s, vi to, vi 0] 139 (0, 0)) :: (b', .cells #[vs c, vi ra, vi re] 139 (0, 0)) :: (b6, .cells #[vt, .slice none 0 0] 25 (0, 0)) :: (b7, .cells #[.slice none 0 0, .slice none 0 0] 25 (0, 0)) :: D) := ⟨by omega, by omega, by omega, by omega, hND.mono (by omega)⟩
        rw [← hlenT] at hGr
        repeat' first | with_reducible (first | refine Cw.seq ?_ | refine thenK_normal ?_ | refine Ow.nil ?_) | ((with_reducible refine Cw.region (Ow.run rfl fun k hk => ?_)); simp (disch := (first | omega | (simp only [lenS, lenT, UInt64.reduceToNat] ; try omega))) only [↓vcL_none, ↓vcB_binOp, ↓ev_tmp, ↓getF_s, ↓getF_0, binX_vi_vi, bin_lss_i, ↓ov_some, putF_some, setF_s, setF_0, nf_cons, ↓vcL_nil, Md.next_seq, ↓vcB_move, ↓vcB_call, lit_i64]; (with_reducible refine hk _ _ _ _ ?_); clear hk k) | with_reducible (first | refine Cw.block ?_ | refine Cw.skip ?_ | refine Cw.exit ?_ | refine Cw.ret ?_ | refine Cw.goto ?_ | refine thenK_exit ?_ | refine thenK_ret ?_ | refine thenK_goto ?_ | refine blockK_normal ?_ | refine blockK_ret ?_ | refine blockK_goto ?_ | refine blockK_exit ?_ | refine blockK_pass rfl ?_ | refine scopeK_normal ?_ | refine scopeK_ret ?_ | refine scopeK_exit ?_ | refine scopeK_goto ?_) | ((with_reducible refine Cw.condC ?_); first | refine CwC.pt rfl (by omega) ?_ | refine CwC.pf rfl (by omega) ?_ | refine CwC.it rfl (by omega) ?_ | refine CwC.if rfl (by omega) ?_ | refine CwC.nt rfl (by omega) ?_ | refine CwC.nf rfl (by omega) ?_ | refine CwC.tt rfl ?_ | refine CwC.ff rfl ?_ | refine CwC.bt rfl (by assumption) ?_ | (refine CwC.bf rfl ?_ ?_; focus assumption))
        refine Ow.callFV rfl Tryd.call45 (fun w' hw' => REndR_spec b' c ra re w' (hw'.has _ _ List.mem_cons_self)) ?_
        by_cases he : endR c ra re = 0
        · have hb : (endR c ra re != 0) = false := by simp [he]
          refine Ow.run rfl fun k hk => ?_
          simp (disch := (first | omega | (simp only [lenS, lenT, UInt64.reduceToNat] ; try omega))) only [↓vcL_none, ↓vcB_binOp, ↓ev_tmp, putF_some, setF_s, setF_0, ↓getF_s, ↓getF_0, ↓ev_const, binX_vi_vi, bin_neq_i, hb, ↓ov_some, nf_cons, ↓vcB_move, ↓vcL_some, lit_i64, yieldF_lit, ↓nthO_s, ↓nthO_0, yieldL_some, boolOf_b, beq_self_eq_true, ↓ib_true, ↓vcB_load, Md.next_seq, rd_seq_load, Tryd.ag25, loadAt_p, read_other, read_same, load_bk, ↓vcB_call]
          (with_reducible refine hk _ _ _ _ ?_); clear hk k
          repeat' first | with_reducible (first | refine Cw.seq ?_ | refine thenK_normal ?_ | refine Ow.nil ?_) | ((with_reducible refine Cw.region (Ow.run rfl fun k hk => ?_)); simp (disch := (first | omega | (simp only [lenS, lenT, UInt64.reduceToNat] ; try omega))) only []; (with_reducible refine hk _ _ _ _ ?_); clear hk k) | with_reducible (first | refine Cw.block ?_ | refine Cw.skip ?_ | refine Cw.exit ?_ | refine Cw.ret ?_ | refine Cw.goto ?_ | refine thenK_exit ?_ | refine thenK_ret ?_ | refine thenK_goto ?_ | refine blockK_normal ?_ | refine blockK_ret ?_ | refine blockK_goto ?_ | refine blockK_exit ?_ | refine blockK_pass rfl ?_ | refine scopeK_normal ?_ | refine scopeK_ret ?_ | refine scopeK_exit ?_ | refine scopeK_goto ?_) | ((with_reducible refine Cw.condC ?_); first | refine CwC.pt rfl (by omega) ?_ | refine CwC.pf rfl (by omega) ?_ | refine CwC.it rfl (by omega) ?_ | refine CwC.if rfl (by omega) ?_ | refine CwC.nt rfl (by omega) ?_ | refine CwC.nf rfl (by omega) ?_ | refine CwC.tt rfl ?_ | refine CwC.ff rfl ?_ | refine CwC.bt rfl (by assumption) ?_ | (refine CwC.bf rfl ?_ ?_; focus assumption))
          refine Ow.callFV rfl Tryd.call36 (fun w' hw' => Right_spec vt (.slice none 0 0) tb [] w' (hGr.slM (fun b o hm => hw'.has b o (by simp [hm])) rfl rfl refC_len) (SlV.nil w') (by omega) (by simp) hshT (fun g hg => by simp at hg)) ?_
          cases hr : rightB tb []
          · refine Ow.run rfl fun k hk => ?_
            simp (disch := (first | omega | (simp only [lenS, lenT, UInt64.reduceToNat] ; try omega))) only [↓vcL_some, lit_i64, putF_some, setF_s, setF_0, yieldF_lit, ↓nthO_s, ↓nthO_0, yieldL_some, ↓getF_s, ↓getF_0, boolOf_b, beq_self_eq_true, ↓ib_true, ↓vcB_unOp, ↓ev_tmp, un_not, Bool.not_false, ↓ov_some, nf_cons, ↓vcL_none, ↓vcB_pick, ↓ev_const, pick_f, ↓vcL_nil, Md.next_seq]
            (with_reducible refine hk _ _ _ _ ?_); clear hk k
            with_reducible refine Ow.nil ?_
            with_reducible refine thenK_normal ?_
            refine Cw.permL (M := (b2, .cells #[.slice none 0 0, .slice none 0 0] 25 (0, 0)) :: ((br, .cells #[vs s, vi to, vi 0] 139 (0, 0)) :: (b', .cells #[vs c, vi ra, vi re] 139 (0, 0)) :: (b6, .cells #[vt, .slice none 0 0] 25 (0, 0)) :: (b7, .cells #[.slice none 0 0, .slice none 0 0] 25 (0, 0)) :: D)) (by classical exact List.perm_iff_count.2 fun a => by simp only [List.count_append, List.count_cons, List.count_nil] <;> omega) ?_
            repeat' first | with_reducible (first | refine Cw.seq ?_ | refine thenK_normal ?_ | refine Ow.nil ?_) | ((with_reducible refine Cw.region (Ow.run rfl fun k hk => ?_)); simp (disch := (first | omega | (simp only [lenS, lenT, UInt64.reduceToNat] ; try omega))) only []; (with_reducible refine hk _ _ _ _ ?_); clear hk k) | with_reducible (first | refine Cw.block ?_ | refine Cw.skip ?_ | refine Cw.exit ?_ | refine Cw.ret ?_ | refine Cw.goto ?_ | refine thenK_exit ?_ | refine thenK_ret ?_ | refine thenK_goto ?_ | refine blockK_normal ?_ | refine blockK_ret ?_ | refine blockK_goto ?_ | refine blockK_exit ?_ | refine blockK_pass rfl ?_ | refine scopeK_normal ?_ | refine scopeK_ret ?_ | refine scopeK_exit ?_ | refine scopeK_goto ?_) | ((with_reducible refine Cw.condC ?_); first | refine CwC.pt rfl (by omega) ?_ | refine CwC.pf rfl (by omega) ?_ | refine CwC.it rfl (by omega) ?_ | refine CwC.if rfl (by omega) ?_ | refine CwC.nt rfl (by omega) ?_ | refine CwC.nf rfl (by omega) ?_ | refine CwC.tt rfl ?_ | refine CwC.ff rfl ?_ | refine CwC.bt rfl (by assumption) ?_ | (refine CwC.bf rfl ?_ ?_; focus assumption))
            exact Jump.mk ⟨0, br, b6, b7, nlV, nlV, nlV, nlV, [], [], 0, ((br, .cells #[vs s, vi to, vi 0] 139 (0, 0)) :: (b', .cells #[vs c, vi ra, vi re] 139 (0, 0)) :: (b6, .cells #[vt, .slice none 0 0] 25 (0, 0)) :: (b7, .cells #[.slice none 0 0, .slice none 0 0] 25 (0, 0)) :: D)⟩ rfl trivial (.inr (.inr ⟨rfl, hNw, head_no (by rw [hhd, if_neg (by simp [hr])])⟩)) rfl rfl
          · rw [if_pos ⟨he, hr⟩] at hhd
            refine Ow.run rfl fun k hk => ?_
            simp (disch := (first | omega | (simp only [lenS, lenT, UInt64.reduceToNat] ; try omega))) only [↓vcL_some, lit_i64, putF_some, setF_s, setF_0, yieldF_lit, ↓nthO_s, ↓nthO_0, yieldL_some, ↓getF_s, ↓getF_0, boolOf_b, beq_self_eq_true, ↓ib_true, ↓vcB_unOp, ↓ev_tmp, un_not, Bool.not_true, ↓ov_some, nf_cons, ↓vcL_none, ↓vcB_pick, ↓ev_const, pick_f, ↓vcL_nil, Md.next_seq]
            (with_reducible refine hk _ _ _ _ ?_); clear hk k
            with_reducible refine Ow.nil ?_
            with_reducible refine thenK_normal ?_
            refine Cw.permL (M := (b2, .cells #[.slice none 0 0, .slice none 0 0] 25 (0, 0)) :: (br, .cells #[vs s, vi to, vi 0] 139 (0, 0)) :: (b6, .cells #[vt, .slice none 0 0] 25 (0, 0)) :: (b7, .cells #[.slice none 0 0, .slice none 0 0] 25 (0, 0)) :: ((b', .cells #[vs c, vi ra, vi re] 139 (0, 0)) :: D)) (by classical exact List.perm_iff_count.2 fun a => by simp only [List.count_append, List.count_cons, List.count_nil] <;> omega) ?_
            have key0 := fun f' => key (⟨1, br, b6, b7, vt, .slice none 0 0, .slice none 0 0, .slice none 0 0, tb, [], to, ((b', .cells #[vs c, vi ra, vi re] 139 (0, 0)) :: D)⟩) f'
            simp only [contP, hasL, Bool.or_false, Bool.false_or, Bool.or_true, Bool.true_or, Nat.reduceBEq, beq_self_eq_true, ↓reduceIte, Bool.false_eq_true] at key0
            clear key
            repeat' first | with_reducible (first | refine Cw.seq ?_ | refine thenK_normal ?_ | refine Ow.nil ?_) | ((with_reducible refine Cw.region (Ow.run rfl fun k hk => ?_)); simp (disch := (first | omega | (simp only [lenS, lenT, UInt64.reduceToNat] ; try omega))) only []; (with_reducible refine hk _ _ _ _ ?_); clear hk k) | with_reducible (first | refine Cw.block ?_ | refine Cw.skip ?_ | refine Cw.exit ?_ | refine Cw.ret ?_ | refine Cw.goto ?_ | refine thenK_exit ?_ | refine thenK_ret ?_ | refine thenK_goto ?_ | refine blockK_normal ?_ | refine blockK_ret ?_ | refine blockK_goto ?_ | refine blockK_exit ?_ | refine blockK_pass rfl ?_ | refine scopeK_normal ?_ | refine scopeK_ret ?_ | refine scopeK_exit ?_ | refine scopeK_goto ?_) | ((with_reducible refine Cw.condC ?_); first | refine CwC.pt rfl (by omega) ?_ | refine CwC.pf rfl (by omega) ?_ | refine CwC.it rfl (by omega) ?_ | refine CwC.if rfl (by omega) ?_ | refine CwC.nt rfl (by omega) ?_ | refine CwC.nf rfl (by omega) ?_ | refine CwC.tt rfl ?_ | refine CwC.ff rfl ?_ | refine CwC.bt rfl (by assumption) ?_ | (refine CwC.bf rfl ?_ ?_; focus assumption))
            refine Cw.label ?_
            refine key0 _ (.inl ⟨rfl, (by simp only; omega), hw6, hw7, (by simp only; omega), (by simp only; omega), (by simp only; omega), (by simp only; omega), (by simp only; omega), (by simp only; omega), ⟨by omega, hND.mono (by omega)⟩, hGr.i fun p hp => by simp [hp], Gr.nl.i (X := []) fun p hp => (by cases hp), rfl, rfl, hshT, fun g hg => (by simp at hg), by simp only; omega, by simp, hle0.2, to, hhd, ?_⟩) ?_
            · intro k hk
              exact logsR_more s tb k 101 [] to (by simpa using hk) (by simp) (by simp)
            · rfl
        · have hb : (endR c ra re != 0) = true := by simpa using he
          refine Ow.run rfl fun k hk => ?_
          simp (disch := (first | omega | (simp only [lenS, lenT, UInt64.reduceToNat] ; try omega))) only [↓vcL_none, ↓vcB_binOp, ↓ev_tmp, putF_some, setF_s, setF_0, ↓getF_s, ↓getF_0, ↓ev_const, binX_vi_vi, bin_neq_i, hb, ↓ov_some, nf_cons, ↓vcB_move, ↓vcL_some, lit_i64, yieldF_lit, ↓nthO_s, ↓nthO_0, yieldL_some, boolOf_b, some_beq, beq_false, Bool.not_true, ↓ib_false, ↓vcB_pick, pick_t, ↓vcL_nil, Md.next_seq]
          (with_reducible refine hk _ _ _ _ ?_); clear hk k
          with_reducible refine Ow.nil ?_
          with_reducible refine thenK_normal ?_
          refine Cw.permL (M := (b2, .cells #[.slice none 0 0, .slice none 0 0] 25 (0, 0)) :: ((br, .cells #[vs s, vi to, vi 0] 139 (0, 0)) :: (b', .cells #[vs c, vi ra, vi re] 139 (0, 0)) :: (b6, .cells #[vt, .slice none 0 0] 25 (0, 0)) :: (b7, .cells #[.slice none 0 0, .slice none 0 0] 25 (0, 0)) :: D)) (by classical exact List.perm_iff_count.2 fun a => by simp only [List.count_append, List.count_cons, List.count_nil] <;> omega) ?_
          repeat' first | with_reducible (first | refine Cw.seq ?_ | refine thenK_normal ?_ | refine Ow.nil ?_) | ((with_reducible refine Cw.region (Ow.run rfl fun k hk => ?_)); simp (disch := (first | omega | (simp only [lenS, lenT, UInt64.reduceToNat] ; try omega))) only []; (with_reducible refine hk _ _ _ _ ?_); clear hk k) | with_reducible (first | refine Cw.block ?_ | refine Cw.skip ?_ | refine Cw.exit ?_ | refine Cw.ret ?_ | refine Cw.goto ?_ | refine thenK_exit ?_ | refine thenK_ret ?_ | refine thenK_goto ?_ | refine blockK_normal ?_ | refine blockK_ret ?_ | refine blockK_goto ?_ | refine blockK_exit ?_ | refine blockK_pass rfl ?_ | refine scopeK_normal ?_ | refine scopeK_ret ?_ | refine scopeK_exit ?_ | refine scopeK_goto ?_) | ((with_reducible refine Cw.condC ?_); first | refine CwC.pt rfl (by omega) ?_ | refine CwC.pf rfl (by omega) ?_ | refine CwC.it rfl (by omega) ?_ | refine CwC.if rfl (by omega) ?_ | refine CwC.nt rfl (by omega) ?_ | refine CwC.nf rfl (by omega) ?_ | refine CwC.tt rfl ?_ | refine CwC.ff rfl ?_ | refine CwC.bt rfl (by assumption) ?_ | (refine CwC.bf rfl ?_ ?_; focus assumption))
          exact Jump.mk ⟨0, br, b6, b7, nlV, nlV, nlV, nlV, [], [], 0, ((br, .cells #[vs s, vi to, vi 0] 139 (0, 0)) :: (b', .cells #[vs c, vi ra, vi re] 139 (0, 0)) :: (b6, .cells #[vt, .slice none 0 0] 25 (0, 0)) :: (b7, .cells #[.slice none 0 0, .slice none 0 0] 25 (0, 0)) :: D)⟩ rfl trivial (.inr (.inr ⟨rfl, hNw, head_no (by rw [hhd, if_neg (fun h => he h.1)])⟩)) rfl rfl
end Go.Proofs
open Go Go.Proofs Go.Sx Go.RefP
namespace Go.Proofs
set_option maxRecDepth 10000
set_option maxHeartbeats 4000000
set_option linter.unusedSimpArgs false
/-- The document's Set, on refs. -/
def setRG (x : RefL) : List RefL → Bool → List RefL
  | [], dn => if dn then [] else [x]
  | p :: r, dn => if p.name == x.name then setRG x r dn else if !dn && !(ltB p.name x.name || p.name == x.name) then x :: p :: setRG x r true else p :: setRG x r dn
def setR (l : List RefL) (x : RefL) : List RefL := setRG x l (x.id.l == z32)
theorem prs_setRG (x : RefL) : ∀ (l : List RefL) (dn : Bool), prs (setRG x l dn) = setGo (x.name, x.id.l) (prs l) dn
  | [], dn => by cases dn <;> rfl
  | p :: r, dn => by
    unfold setRG
    have e : prs (p :: r) = (p.name, p.id.l) :: prs r := rfl
    rw [e, setGo]
    simp only
    split
    · exact prs_setRG x r dn
    · split
      · show _ :: _ :: prs _ = _
        rw [prs_setRG x r true]
      · show _ :: prs _ = _
        rw [prs_setRG x r dn]
theorem prs_setR (l : List RefL) (x : RefL) : prs (setR l x) = setL z32 (prs l) (x.name, x.id.l) := prs_setRG x l _
structure SG where
  g : Nat
  dn : Bool
  v : Value
  o : List RefL
  D : Heap
theorem Set_spec (vl : Value) (l : List RefL) (x : RefL) (w : World) (hl : RefSl w vl l) (hll : l.length < 1000) :
    Rets Tryd.prog 114 #[vl, .agg (refC x).toArray] w (XS w [] (fun v D => GrI D 42 33 v (setR l x).length ((setR l x).map refC).flatten)) := by
  have hxl := x.id.h
  obtain ⟨b1, o1, a1, E1, f1, h1⟩ := hl.row
  refine Rets.enterX Tryd.func114 rfl (rs := [.tmp 4]) Tryd.results114 Tryd.ntmps114 (fun p hp => by cases hp) (by simp [keys]) ?_
  simp only [List.size_toArray, List.length_cons, List.length_nil, Nat.reduceAdd, Nat.reduceSub, List.replicate_succ, List.replicate_zero, List.cons_append, List.nil_append]
  repeat' first | with_reducible (first | refine Cw.seq ?_ | refine thenK_normal ?_ | refine Ow.nil ?_) | ((with_reducible refine Cw.region (Ow.run rfl fun k hk => ?_)); simp (disch := (first | omega | (simp only [lenS, lenT, UInt64.reduceToNat] ; try omega))) only [↓vcL_none, ↓vcB_box]; (with_reducible refine hk _ _ _ _ ?_); clear hk k) | with_reducible (first | refine Cw.block ?_ | refine Cw.skip ?_ | refine Cw.exit ?_ | refine Cw.ret ?_ | refine thenK_exit ?_ | refine thenK_ret ?_ | refine blockK_normal ?_ | refine blockK_ret ?_ | refine blockK_exit ?_ | refine blockK_pass rfl ?_) | ((with_reducible refine Cw.condC ?_); first | refine CwC.pt rfl (by omega) ?_ | refine CwC.pf rfl (by omega) ?_ | refine CwC.it rfl (by omega) ?_ | refine CwC.if rfl (by omega) ?_ | refine CwC.nt rfl (by omega) ?_ | refine CwC.nf rfl (by omega) ?_ | refine CwC.tt rfl ?_ | refine CwC.ff rfl ?_ | refine CwC.bt rfl (by assumption) ?_ | (refine CwC.bf rfl ?_ ?_; focus assumption))
  refine Ow.box rfl rfl fun bx hbx hwx => ?_
  simp only [ev_tmp, getF_0, getF_s, cells_agg, List.nil_append, List.cons_append]
  refine Ow.run rfl fun k hk => ?_
  simp (disch := (first | omega | (simp only [lenS, lenT, UInt64.reduceToNat] ; try omega))) only [↓vcL_none, ↓vcB_assign, ↓ov_some, putF_some, setF_s, setF_0, ↓ev_const, nf_cons, ↓vcL_nil, Md.next_seq]
  (with_reducible refine hk _ _ _ _ ?_); clear hk k
  repeat' first | with_reducible (first | refine Cw.seq ?_ | refine thenK_normal ?_ | refine Ow.nil ?_) | ((with_reducible refine Cw.region (Ow.run rfl fun k hk => ?_)); simp (disch := (first | omega | (simp only [lenS, lenT, UInt64.reduceToNat] ; try omega))) only [↓vcL_none, ↓vcB_assign, ↓ov_some, ↓ev_const, putF_some, setF_s, setF_0, nf_cons, ↓vcL_nil, Md.next_seq, ↓vcB_fieldAddr, Tryd.fl42_1, ↓ev_tmp, ↓getF_s, ↓getF_0, fieldAddr_p, Nat.zero_add, ↓vcB_load, rd_seq_load, ↓ib_true, Tryd.ag40, loadAt_p, read_same, load_ref1, ↓vcB_build]; (with_reducible refine hk _ _ _ _ ?_); clear hk k) | with_reducible (first | refine Cw.block ?_ | refine Cw.skip ?_ | refine Cw.exit ?_ | refine Cw.ret ?_ | refine thenK_exit ?_ | refine thenK_ret ?_ | refine blockK_normal ?_ | refine blockK_ret ?_ | refine blockK_exit ?_ | refine blockK_pass rfl ?_) | ((with_reducible refine Cw.condC ?_); first | refine CwC.pt rfl (by omega) ?_ | refine CwC.pf rfl (by omega) ?_ | refine CwC.it rfl (by omega) ?_ | refine CwC.if rfl (by omega) ?_ | refine CwC.nt rfl (by omega) ?_ | refine CwC.nf rfl (by omega) ?_ | refine CwC.tt rfl ?_ | refine CwC.ff rfl ?_ | refine CwC.bt rfl (by assumption) ?_ | (refine CwC.bf rfl ?_ ?_; focus assumption))
  refine Ow.build (.agg (a8 z32)) rfl (by kernel_rfl) ?_
  refine Ow.run rfl fun k hk => ?_
  simp (disch := (first | omega | (simp only [lenS, lenT, UInt64.reduceToNat] ; try omega))) only [↓vcL_none, ↓vcB_binOp, ↓ev_tmp, putF_some, setF_s, setF_0, ↓getF_s, ↓getF_0, eqIdz, ↓ov_some, nf_cons, ↓vcB_assign, ↓vcL_nil, Md.next_seq]
  (with_reducible refine hk _ _ _ _ ?_); clear hk k
  repeat' first | with_reducible (first | refine Cw.seq ?_ | refine thenK_normal ?_ | refine Ow.nil ?_) | ((with_reducible refine Cw.region (Ow.run rfl fun k hk => ?_)); simp (disch := (first | omega | (simp only [lenS, lenT, UInt64.reduceToNat] ; try omega))) only [↓vcL_none, ↓vcB_assign, ↓ov_some, ↓ev_const, lit_i64, putF_some, setF_s, setF_0, nf_cons, ↓vcL_nil, Md.next_seq]; (with_reducible refine hk _ _ _ _ ?_); clear hk k) | with_reducible (first | refine Cw.block ?_ | refine Cw.skip ?_ | refine Cw.exit ?_ | refine Cw.ret ?_ | refine thenK_exit ?_ | refine thenK_ret ?_ | refine blockK_normal ?_ | refine blockK_ret ?_ | refine blockK_exit ?_ | refine blockK_pass rfl ?_) | ((with_reducible refine Cw.condC ?_); first | refine CwC.pt rfl (by omega) ?_ | refine CwC.pf rfl (by omega) ?_ | refine CwC.it rfl (by omega) ?_ | refine CwC.if rfl (by omega) ?_ | refine CwC.nt rfl (by omega) ?_ | refine CwC.nf rfl (by omega) ?_ | refine CwC.tt rfl ?_ | refine CwC.ff rfl ?_ | refine CwC.bt rfl (by assumption) ?_ | (refine CwC.bf rfl ?_ ?_; focus assumption))
  refine Cw.loopG (G := SG) [12, 13, 14, 15, 18, 19, 20, 21, 22, 23, 24, 25, 26, 27, 28, 29, 30, 31, 32, 33, 34, 35, 36, 37, 38, 39, 40, 41, 5, 6, 42, 43, 44, 45, 46, 47, 48, 16, 17, 7] (fun g => [(5, g.v), (6, .bool g.dn), (7, vi g.g)]) (fun g => (bx, .cells (refC x).toArray 42 (0, 0)) :: g.D) (fun g => g.g ≤ l.length ∧ New (bx + 1) g.D ∧ Gr g.D 42 33 g.v g.o.length (g.o.map refC).flatten ∧ setR l x = g.o ++ setRG x (l.drop g.g) g.dn ∧ g.o.length ≤ g.g + (if g.dn = true then 1 else 0)) (fun g => l.length - g.g) ⟨0, x.id.l == z32, .slice none 0 0, [], []⟩ rfl rfl ?_ ?_
  · exact ⟨Nat.zero_le _, trivial, Gr.nl, rfl, by simp⟩
  intro g j hg
  simp only [overFrom, pin, setF_0, setF_s, List.contains_cons, List.contains_nil, Nat.reduceBEq, Bool.or_false, Bool.false_or, Bool.or_true, Bool.true_or, Nat.reduceAdd, ↓reduceIte, Bool.false_eq_true]
  obtain ⟨g, dn, v, o, D⟩ := g
  simp only at hg ⊢
  obtain ⟨hgl, hND, hGr, heq, hol⟩ := hg
  by_cases hlt : g < l.length
  · have hb1 := h1.has (by omega)
    have hb1l := h1.lt (by omega)
    have hD1 : b1 ∉ keys D := hND.not (by omega)
    have rd1 : readB w ((bx, Obj.cells (refC x).toArray 42 (0, 0)) :: D) b1 = some (.cells a1 E1 f1) := by
      rw [read_other _ _ _ _ _ (by omega), read_none hD1]; exact hb1
    have ldn : loadV (some (false, 1)) (some (.cells a1 E1 f1)) (o1 + g * 33) = some (vs (l.getD g ref0).name) := h1.cell (j := 0) (n := 1) hlt (by omega)
    have ld1 := h1.load refC_len (by omega) hlt
    have hdr : l.drop g = l.getD g ref0 :: l.drop (g + 1) := by
      rw [List.drop_eq_getElem_cons hlt, List.getD_eq_getElem?_getD, List.getElem?_eq_getElem hlt]; rfl
    rw [hdr, setRG] at heq
    generalize hpp : l.getD g ref0 = p at *
    repeat' first | with_reducible (first | refine Cw.seq ?_ | refine thenK_normal ?_ | refine Ow.nil ?_) | ((with_reducible refine Cw.region (Ow.run rfl fun k hk => ?_)); simp (disch := (first | omega | (simp only [lenS, lenT, UInt64.reduceToNat] ; try omega))) only [↓vcL_none, ↓vcB_move, ↓ov_some, ↓ev_tmp, ↓getF_s, ↓getF_0, putF_some, setF_s, setF_0, nf_cons, ↓vcB_len, Tryd.ix23, h1.len, ↓vcB_binOp, binX_vi_vi, bin_lss_i, ↓vcL_nil, Md.next_seq]; (with_reducible refine hk _ _ _ _ ?_); clear hk k) | with_reducible (first | refine Cw.block ?_ | refine Cw.skip ?_ | refine Cw.exit ?_ | refine Cw.ret ?_ | refine thenK_exit ?_ | refine thenK_ret ?_ | refine blockK_normal ?_ | refine blockK_ret ?_ | refine blockK_exit ?_ | refine blockK_pass rfl ?_) | ((with_reducible refine Cw.condC ?_); first | refine CwC.pt rfl (by omega) ?_ | refine CwC.pf rfl (by omega) ?_ | refine CwC.it rfl (by omega) ?_ | refine CwC.if rfl (by omega) ?_ | refine CwC.nt rfl (by omega) ?_ | refine CwC.nf rfl (by omega) ?_ | refine CwC.tt rfl ?_ | refine CwC.ff rfl ?_ | refine CwC.bt rfl (by assumption) ?_ | (refine CwC.bf rfl ?_ ?_; focus assumption))
    refine Cw.regionS [b1, bx] [0, 1, 2, 3, 5, 4, 6, 7] [] (by kernel_rfl) (by kernel_rfl) (by kernel_rfl) ?_
    simp only [nl_cons, ↓pickL_nil, ↓pickL_cons, ↓nthO_0, ↓nthO_s, consO_some]
    refine Ow.runQ fun k hk => ?_
    simp (disch := (first | omega | (simp only [lenS, lenT, UInt64.reduceToNat] ; try omega))) only [↓vcL_none, ↓vcB_move, ↓ov_some, ↓ev_tmp, ↓getF_0, putF_some, setF_s, setF_0, nf_cons, ↓getF_s, ↓vcB_indexAddr, Tryd.ix23, ixI_vi, h1.idx, ↓vcB_fieldAddr, Tryd.fl42_0, fieldAddr_p, Nat.add_zero, ↓vcB_load, Md.next_sof, List.contains_nil, Bool.false_eq_true, ↓reduceIte, ↓rd_sof_load, rdIn_p, List.contains_cons, beq_self_eq_true, Bool.or_false, Bool.true_or, ↓ib_true, Tryd.ag9, loadAt_p, rd1, ldn, Bool.or_true, read_same, load_ref0, ↓vcB_binOp, binX_vs, bin_eql_s, ↓vcL_nil]
    (with_reducible refine hk _ _ _ _ ?_); clear hk k
    with_reducible refine Ow.nil ?_
    cases hq : (p.name == x.name)
    · rw [hq] at heq
      simp only [Bool.false_eq_true, ↓reduceIte, Bool.or_false] at heq
      repeat' first | with_reducible (first | refine Cw.seq ?_ | refine thenK_normal ?_ | refine Ow.nil ?_) | ((with_reducible refine Cw.region (Ow.run rfl fun k hk => ?_)); simp (disch := (first | omega | (simp only [lenS, lenT, UInt64.reduceToNat] ; try omega))) only []; (with_reducible refine hk _ _ _ _ ?_); clear hk k) | with_reducible (first | refine Cw.block ?_ | refine Cw.skip ?_ | refine Cw.exit ?_ | refine Cw.ret ?_ | refine thenK_exit ?_ | refine thenK_ret ?_ | refine blockK_normal ?_ | refine blockK_ret ?_ | refine blockK_exit ?_ | refine blockK_pass rfl ?_) | ((with_reducible refine Cw.condC ?_); first | refine CwC.pt rfl (by omega) ?_ | refine CwC.pf rfl (by omega) ?_ | refine CwC.it rfl (by omega) ?_ | refine CwC.if rfl (by omega) ?_ | refine CwC.nt rfl (by omega) ?_ | refine CwC.nf rfl (by omega) ?_ | refine CwC.tt rfl ?_ | refine CwC.ff rfl ?_ | refine CwC.bt rfl (by assumption) ?_ | (refine CwC.bf rfl ?_ ?_; focus assumption))
      have rdx : readB w ((bx, Obj.cells (refC x).toArray 42 (0, 0)) :: D) bx = some (.cells (refC x).toArray 42 (0, 0)) := read_same _ _ _ _
      cases dn
      · simp only [Bool.not_false, Bool.true_and] at heq
        simp only [Bool.false_eq_true, ↓reduceIte] at hol
        cases hlb : ltB p.name x.name
        · have hlb' : Op.bytesLess p.name x.name = false := hlb
          rw [hlb] at heq
          simp only [Bool.not_false, ↓reduceIte] at heq
          refine Cw.regionS [b1, bx] [0, 1, 2, 3, 4, 5, 6, 8, 7, 9, 10, 11] [] (by kernel_rfl) (by kernel_rfl) (by kernel_rfl) ?_
          simp only [nl_cons, ↓pickL_nil, ↓pickL_cons, ↓nthO_0, ↓nthO_s, consO_some]
          refine Ow.runQ fun k hk => ?_
          simp (disch := (first | omega | (simp only [lenS, lenT, UInt64.reduceToNat] ; try omega))) only [↓vcL_none, ↓vcB_move, ↓ov_some, ↓ev_tmp, ↓getF_s, ↓getF_0, putF_some, setF_s, setF_0, nf_cons, ↓vcB_unOp, un_not, Bool.not_false, ↓vcL_some, yieldF_lit, ↓nthO_s, ↓nthO_0, yieldL_some, boolOf_b, beq_self_eq_true, ↓ib_true, ↓vcB_indexAddr, Tryd.ix23, ixI_vi, h1.idx, ↓vcB_fieldAddr, Tryd.fl42_0, fieldAddr_p, Nat.add_zero, ↓vcB_load, Md.next_sof, List.contains_nil, Bool.false_eq_true, ↓reduceIte, ↓rd_sof_load, rdIn_p, List.contains_cons, Bool.or_false, Bool.true_or, Tryd.ag9, loadAt_p, rd1, ldn, Bool.or_true, read_same, load_ref0, ↓vcB_binOp, binX_vs, bin_gtr_s, hlb', hq, ↓vcB_pick, ↓ev_const, pick_t, ↓vcL_nil]
          (with_reducible refine hk _ _ _ _ ?_); clear hk k
          with_reducible refine Ow.nil ?_
          repeat' first | with_reducible (first | refine Cw.seq ?_ | refine thenK_normal ?_ | refine Ow.nil ?_) | ((with_reducible refine Cw.region (Ow.run rfl fun k hk => ?_)); simp (disch := (first | omega | (simp only [lenS, lenT, UInt64.reduceToNat] ; try omega))) only [↓vcL_none, ↓vcB_move, ↓ov_some, ↓ev_tmp, ↓getF_s, ↓getF_0, putF_some, setF_s, setF_0, nf_cons, ↓vcB_load, Md.next_seq, rd_seq_load, ↓ib_true, Tryd.ag42, loadAt_p, read_same, load_ref, ↓vcB_buildSlice]; (with_reducible refine hk _ _ _ _ ?_); clear hk k) | with_reducible (first | refine Cw.block ?_ | refine Cw.skip ?_ | refine Cw.exit ?_ | refine Cw.ret ?_ | refine thenK_exit ?_ | refine thenK_ret ?_ | refine blockK_normal ?_ | refine blockK_ret ?_ | refine blockK_exit ?_ | refine blockK_pass rfl ?_) | ((with_reducible refine Cw.condC ?_); first | refine CwC.pt rfl (by omega) ?_ | refine CwC.pf rfl (by omega) ?_ | refine CwC.it rfl (by omega) ?_ | refine CwC.if rfl (by omega) ?_ | refine CwC.nt rfl (by omega) ?_ | refine CwC.nf rfl (by omega) ?_ | refine CwC.tt rfl ?_ | refine CwC.ff rfl ?_ | refine CwC.bt rfl (by assumption) ?_ | (refine CwC.bf rfl ?_ ?_; focus assumption))
          refine Ow.buildSlice (e := 42) (refC x).toArray rfl rfl (sliceRef x) fun b8 hb8 hwb8 => ?_
          have hxb8 : bx < b8 := above_to hb8 (by simp [keys])
          refine Ow.permL (M := D ++ ((bx, Obj.cells (refC x).toArray 42 (0, 0)) :: [(b8, Obj.cells (refC x).toArray 42 (0, 0))])) (by classical exact List.perm_iff_count.2 fun a => by simp only [List.count_append, List.count_cons, List.count_nil] <;> omega) ?_
          refine Ow.appendX (e := 42) (k := 1) (new := refC x) (X := D) v rfl rfl rfl rfl Tryd.underlying23 Tryd.ag42 (by kernel_rfl) zrRef (by rw [cells_ref, List.size_toArray, refC_len]) Tryd.underlying23 (by intro k h; cases h) hGr (fun w' hw' => AppX.one1 (hw'.has b8 (.cells (refC x).toArray 42 (0, 0)) (by simp)) (refC_len x) (refC_one x)) (by omega) (by omega) (fun B2 v2 D2 hA2 hB2 hbuf2 hk12 hk22 hlk2 => ?_)
          have hxB2 : bx < B2 := above_to hA2 (by simp [keys_app, keys])
          have hND2 : New (bx + 1) D2 := New.of_le fun q hq => by
            rcases hk22 q hq with h | h
            · exact hND.le q h
            · omega
          refine Ow.run rfl fun k hk => ?_
          simp (disch := (first | omega | (simp only [lenS, lenT, UInt64.reduceToNat] ; try omega))) only [↓vcL_none, ↓vcB_assign, ↓ov_some, putF_some, setF_s, setF_0, ↓ev_tmp, ↓getF_s, ↓getF_0, nf_cons, ↓vcL_nil, Md.next_seq]
          (with_reducible refine hk _ _ _ _ ?_); clear hk k
          with_reducible refine Ow.nil ?_
          first | with_reducible refine thenK_normal ?_ | (with_reducible refine blockK_normal ?_; with_reducible refine thenK_normal ?_)
          refine Cw.permL (M := (bx, Obj.cells (refC x).toArray 42 (0, 0)) :: (D2 ++ [(b8, Obj.cells (refC x).toArray 42 (0, 0))])) (by classical exact List.perm_iff_count.2 fun a => by simp only [List.count_append, List.count_cons, List.count_nil] <;> omega) ?_
          have hGr2 : Gr (D2 ++ [(b8, Obj.cells (refC x).toArray 42 (0, 0))]) 42 33 v2 _ _ := Gr.app (.inl hbuf2)
          have hNE2 : New (bx + 1) (D2 ++ [(b8, Obj.cells (refC x).toArray 42 (0, 0))]) := hND2.app ⟨by omega, trivial⟩
          generalize D2 ++ [(b8, Obj.cells (refC x).toArray 42 (0, 0))] = E2 at *
          have rd2 : readB w ((bx, Obj.cells (refC x).toArray 42 (0, 0)) :: E2) b1 = some (.cells a1 E1 f1) := by rw [read_other _ _ _ _ _ (by omega), read_none (hNE2.not (by omega))]; exact hb1
          repeat' first | with_reducible (first | refine Cw.seq ?_ | refine thenK_normal ?_ | refine Ow.nil ?_) | ((with_reducible refine Cw.region (Ow.run rfl fun k hk => ?_)); simp (disch := (first | omega | (simp only [lenS, lenT, UInt64.reduceToNat] ; try omega))) only [↓vcL_none, ↓vcB_assign, ↓ov_some, ↓ev_const, putF_some, setF_s, setF_0, nf_cons, ↓vcL_nil, Md.next_seq]; (with_reducible refine hk _ _ _ _ ?_); clear hk k) | with_reducible (first | refine Cw.block ?_ | refine Cw.skip ?_ | refine Cw.exit ?_ | refine Cw.ret ?_ | refine thenK_exit ?_ | refine thenK_ret ?_ | refine blockK_normal ?_ | refine blockK_ret ?_ | refine blockK_exit ?_ | refine blockK_pass rfl ?_) | ((with_reducible refine Cw.condC ?_); first | refine CwC.pt rfl (by omega) ?_ | refine CwC.pf rfl (by omega) ?_ | refine CwC.it rfl (by omega) ?_ | refine CwC.if rfl (by omega) ?_ | refine CwC.nt rfl (by omega) ?_ | refine CwC.nf rfl (by omega) ?_ | refine CwC.tt rfl ?_ | refine CwC.ff rfl ?_ | refine CwC.bt rfl (by assumption) ?_ | (refine CwC.bf rfl ?_ ?_; focus assumption))
          refine Cw.region (Ow.run rfl fun k hk => ?_)
          simp (disch := (first | omega | (simp only [lenS, lenT, UInt64.reduceToNat] ; try omega))) only [↓vcL_none, ↓vcB_move, ↓ov_some, ↓ev_tmp, ↓getF_s, ↓getF_0, putF_some, setF_s, setF_0, nf_cons, ↓vcB_indexAddr, Tryd.ix23, ixI_vi, h1.idx, ↓vcB_load, Md.next_seq, rd_seq_load, ↓ib_true, Tryd.ag42, loadAt_p, rd2, ld1, ↓vcB_buildSlice]
          (with_reducible refine hk _ _ _ _ ?_); clear hk k
          refine Ow.buildSlice (e := 42) (refC p).toArray rfl rfl (sliceRef p) fun b9 hb9 hwb9 => ?_
          have hxb9 : bx < b9 := above_to hb9 (by simp [keys])
          refine Ow.permL (M := E2 ++ ((bx, Obj.cells (refC x).toArray 42 (0, 0)) :: [(b9, Obj.cells (refC p).toArray 42 (0, 0))])) (by classical exact List.perm_iff_count.2 fun a => by simp only [List.count_append, List.count_cons, List.count_nil] <;> omega) ?_
          refine Ow.appendX (e := 42) (k := 1) (new := refC p) (X := E2) v2 rfl rfl rfl rfl Tryd.underlying23 Tryd.ag42 (by kernel_rfl) zrRef (by rw [cells_ref, List.size_toArray, refC_len]) Tryd.underlying23 (by intro k h; cases h) hGr2 (fun w' hw' => AppX.one1 (hw'.has b9 (.cells (refC p).toArray 42 (0, 0)) (by simp)) (refC_len p) (refC_one p)) (by omega) (by omega) (fun B3 v3 D3 hA3 hB3 hbuf3 hk13 hk23 hlk3 => ?_)
          have hxB3 : bx < B3 := above_to hA3 (by simp [keys_app, keys])
          have hND3 : New (bx + 1) D3 := New.of_le fun q hq => by
            rcases hk23 q hq with h | h
            · exact hNE2.le q h
            · omega
          refine Ow.run rfl fun k hk => ?_
          simp (disch := (first | omega | (simp only [lenS, lenT, UInt64.reduceToNat] ; try omega))) only [↓vcL_none, ↓vcB_assign, ↓ov_some, putF_some, setF_s, setF_0, ↓ev_tmp, ↓getF_s, ↓getF_0, nf_cons, ↓vcL_nil, Md.next_seq]
          (with_reducible refine hk _ _ _ _ ?_); clear hk k
          with_reducible refine Ow.nil ?_
          first | with_reducible refine thenK_normal ?_ | (with_reducible refine blockK_normal ?_; with_reducible refine thenK_normal ?_)
          refine Cw.permL (M := (bx, Obj.cells (refC x).toArray 42 (0, 0)) :: (D3 ++ [(b9, Obj.cells (refC p).toArray 42 (0, 0))])) (by classical exact List.perm_iff_count.2 fun a => by simp only [List.count_append, List.count_cons, List.count_nil] <;> omega) ?_
          have hGr3 : Gr (D3 ++ [(b9, Obj.cells (refC p).toArray 42 (0, 0))]) 42 33 v3 _ _ := Gr.app (.inl hbuf3)
          have hNE3 : New (bx + 1) (D3 ++ [(b9, Obj.cells (refC p).toArray 42 (0, 0))]) := hND3.app ⟨by omega, trivial⟩
          generalize D3 ++ [(b9, Obj.cells (refC p).toArray 42 (0, 0))] = E3 at *
          repeat' first | with_reducible (first | refine Cw.seq ?_ | refine thenK_normal ?_ | refine Ow.nil ?_) | ((with_reducible refine Cw.region (Ow.run rfl fun k hk => ?_)); simp (disch := (first | omega | (simp only [lenS, lenT, UInt64.reduceToNat] ; try omega))) only [↓vcL_none, ↓vcB_move, ↓ov_some, ↓ev_tmp, ↓getF_s, ↓getF_0, putF_some, setF_s, setF_0, nf_cons, ↓vcB_binOp, ↓ev_const, lit_i64, binX_vi_vi, bin_add_i, ↓vcB_assign, ↓vcL_nil, Md.next_seq]; (with_reducible refine hk _ _ _ _ ?_); clear hk k) | with_reducible (first | refine Cw.block ?_ | refine Cw.skip ?_ | refine Cw.exit ?_ | refine Cw.ret ?_ | refine thenK_exit ?_ | refine thenK_ret ?_ | refine blockK_normal ?_ | refine blockK_ret ?_ | refine blockK_exit ?_ | refine blockK_pass rfl ?_) | ((with_reducible refine Cw.condC ?_); first | refine CwC.pt rfl (by omega) ?_ | refine CwC.pf rfl (by omega) ?_ | refine CwC.it rfl (by omega) ?_ | refine CwC.if rfl (by omega) ?_ | refine CwC.nt rfl (by omega) ?_ | refine CwC.nf rfl (by omega) ?_ | refine CwC.tt rfl ?_ | refine CwC.ff rfl ?_ | refine CwC.bt rfl (by assumption) ?_ | (refine CwC.bf rfl ?_ ?_; focus assumption))
          refine Again.mk (SG.mk (g + 1) true v3 (o ++ [x] ++ [p]) E3) (by show l.length - (g + 1) < l.length - g; omega) ⟨by show g + 1 ≤ l.length; omega, hNE3, ?_, by show setR l x = o ++ [x] ++ [p] ++ setRG x (l.drop (g + 1)) true; rw [heq]; simp, by simp; omega⟩ rfl rfl
          · show Gr E3 42 33 v3 (o ++ [x] ++ [p]).length (((o ++ [x] ++ [p])).map refC).flatten
            simpa using hGr3
        · have hlb' : Op.bytesLess p.name x.name = true := hlb
          rw [hlb] at heq
          simp only [Bool.not_true, Bool.false_eq_true, ↓reduceIte] at heq
          refine Cw.regionS [b1, bx] [0, 1, 2, 3, 4, 5, 6, 8, 7, 9, 10, 11] [] (by kernel_rfl) (by kernel_rfl) (by kernel_rfl) ?_
          simp only [nl_cons, ↓pickL_nil, ↓pickL_cons, ↓nthO_0, ↓nthO_s, consO_some]
          refine Ow.runQ fun k hk => ?_
          simp (disch := (first | omega | (simp only [lenS, lenT, UInt64.reduceToNat] ; try omega))) only [↓vcL_none, ↓vcB_move, ↓ov_some, ↓ev_tmp, ↓getF_s, ↓getF_0, putF_some, setF_s, setF_0, nf_cons, ↓vcB_unOp, un_not, Bool.not_false, ↓vcL_some, yieldF_lit, ↓nthO_s, ↓nthO_0, yieldL_some, boolOf_b, beq_self_eq_true, ↓ib_true, ↓vcB_indexAddr, Tryd.ix23, ixI_vi, h1.idx, ↓vcB_fieldAddr, Tryd.fl42_0, fieldAddr_p, Nat.add_zero, ↓vcB_load, Md.next_sof, List.contains_nil, Bool.false_eq_true, ↓reduceIte, ↓rd_sof_load, rdIn_p, List.contains_cons, Bool.or_false, Bool.true_or, Tryd.ag9, loadAt_p, rd1, ldn, Bool.or_true, read_same, load_ref0, ↓vcB_binOp, binX_vs, bin_gtr_s, hlb', hq, Bool.not_true, ↓vcB_pick, ↓ev_const, pick_t, ↓vcL_nil]
          (with_reducible refine hk _ _ _ _ ?_); clear hk k
          with_reducible refine Ow.nil ?_
          repeat' first | with_reducible (first | refine Cw.seq ?_ | refine thenK_normal ?_ | refine Ow.nil ?_) | ((with_reducible refine Cw.region (Ow.run rfl fun k hk => ?_)); simp (disch := (first | omega | (simp only [lenS, lenT, UInt64.reduceToNat] ; try omega))) only []; (with_reducible refine hk _ _ _ _ ?_); clear hk k) | with_reducible (first | refine Cw.block ?_ | refine Cw.skip ?_ | refine Cw.exit ?_ | refine Cw.ret ?_ | refine thenK_exit ?_ | refine thenK_ret ?_ | refine blockK_normal ?_ | refine blockK_ret ?_ | refine blockK_exit ?_ | refine blockK_pass rfl ?_) | ((with_reducible refine Cw.condC ?_); first | refine CwC.pt rfl (by omega) ?_ | refine CwC.pf rfl (by omega) ?_ | refine CwC.it rfl (by omega) ?_ | refine CwC.if rfl (by omega) ?_ | refine CwC.nt rfl (by omega) ?_ | refine CwC.nf rfl (by omega) ?_ | refine CwC.tt rfl ?_ | refine CwC.ff rfl ?_ | refine CwC.bt rfl (by assumption) ?_ | (refine CwC.bf rfl ?_ ?_; focus assumption))
          refine Cw.region (Ow.run rfl fun k hk => ?_)
          simp (disch := (first | omega | (simp only [lenS, lenT, UInt64.reduceToNat] ; try omega))) only [↓vcL_none, ↓vcB_move, ↓ov_some, ↓ev_tmp, ↓getF_s, ↓getF_0, putF_some, setF_s, setF_0, nf_cons, ↓vcB_indexAddr, Tryd.ix23, ixI_vi, h1.idx, ↓vcB_load, Md.next_seq, rd_seq_load, ↓ib_true, Tryd.ag42, loadAt_p, rd1, ld1, ↓vcB_buildSlice]
          (with_reducible refine hk _ _ _ _ ?_); clear hk k
          refine Ow.buildSlice (e := 42) (refC p).toArray rfl rfl (sliceRef p) fun b9 hb9 hwb9 => ?_
          have hxb9 : bx < b9 := above_to hb9 (by simp [keys])
          refine Ow.permL (M := D ++ ((bx, Obj.cells (refC x).toArray 42 (0, 0)) :: [(b9, Obj.cells (refC p).toArray 42 (0, 0))])) (by classical exact List.perm_iff_count.2 fun a => by simp only [List.count_append, List.count_cons, List.count_nil] <;> omega) ?_
          refine Ow.appendX (e := 42) (k := 1) (new := refC p) (X := D) v rfl rfl rfl rfl Tryd.underlying23 Tryd.ag42 (by kernel_rfl) zrRef (by rw [cells_ref, List.size_toArray, refC_len]) Tryd.underlying23 (by intro k h; cases h) hGr (fun w' hw' => AppX.one1 (hw'.has b9 (.cells (refC p).toArray 42 (0, 0)) (by simp)) (refC_len p) (refC_one p)) (by omega) (by omega) (fun B3 v3 D3 hA3 hB3 hbuf3 hk13 hk23 hlk3 => ?_)
          have hxB3 : bx < B3 := above_to hA3 (by simp [keys_app, keys])
          have hND3 : New (bx + 1) D3 := New.of_le fun q hq => by
            rcases hk23 q hq with h | h
            · exact hND.le q h
            · omega
          refine Ow.run rfl fun k hk => ?_
          simp (disch := (first | omega | (simp only [lenS, lenT, UInt64.reduceToNat] ; try omega))) only [↓vcL_none, ↓vcB_assign, ↓ov_some, putF_some, setF_s, setF_0, ↓ev_tmp, ↓getF_s, ↓getF_0, nf_cons, ↓vcL_nil, Md.next_seq]
          (with_reducible refine hk _ _ _ _ ?_); clear hk k
          with_reducible refine Ow.nil ?_
          first | with_reducible refine thenK_normal ?_ | (with_reducible refine blockK_normal ?_; with_reducible refine thenK_normal ?_)
          refine Cw.permL (M := (bx, Obj.cells (refC x).toArray 42 (0, 0)) :: (D3 ++ [(b9, Obj.cells (refC p).toArray 42 (0, 0))])) (by classical exact List.perm_iff_count.2 fun a => by simp only [List.count_append, List.count_cons, List.count_nil] <;> omega) ?_
          have hGr3 : Gr (D3 ++ [(b9, Obj.cells (refC p).toArray 42 (0, 0))]) 42 33 v3 _ _ := Gr.app (.inl hbuf3)
          have hNE3 : New (bx + 1) (D3 ++ [(b9, Obj.cells (refC p).toArray 42 (0, 0))]) := hND3.app ⟨by omega, trivial⟩
          generalize D3 ++ [(b9, Obj.cells (refC p).toArray 42 (0, 0))] = E3 at *
          repeat' first | with_reducible (first | refine Cw.seq ?_ | refine thenK_normal ?_ | refine Ow.nil ?_) | ((with_reducible refine Cw.region (Ow.run rfl fun k hk => ?_)); simp (disch := (first | omega | (simp only [lenS, lenT, UInt64.reduceToNat] ; try omega))) only [↓vcL_none, ↓vcB_move, ↓ov_some, ↓ev_tmp, ↓getF_s, ↓getF_0, putF_some, setF_s, setF_0, nf_cons, ↓vcB_binOp, ↓ev_const, lit_i64, binX_vi_vi, bin_add_i, ↓vcB_assign, ↓vcL_nil, Md.next_seq]; (with_reducible refine hk _ _ _ _ ?_); clear hk k) | with_reducible (first | refine Cw.block ?_ | refine Cw.skip ?_ | refine Cw.exit ?_ | refine Cw.ret ?_ | refine thenK_exit ?_ | refine thenK_ret ?_ | refine blockK_normal ?_ | refine blockK_ret ?_ | refine blockK_exit ?_ | refine blockK_pass rfl ?_) | ((with_reducible refine Cw.condC ?_); first | refine CwC.pt rfl (by omega) ?_ | refine CwC.pf rfl (by omega) ?_ | refine CwC.it rfl (by omega) ?_ | refine CwC.if rfl (by omega) ?_ | refine CwC.nt rfl (by omega) ?_ | refine CwC.nf rfl (by omega) ?_ | refine CwC.tt rfl ?_ | refine CwC.ff rfl ?_ | refine CwC.bt rfl (by assumption) ?_ | (refine CwC.bf rfl ?_ ?_; focus assumption))
          refine Again.mk (SG.mk (g + 1) false v3 (o ++ [p]) E3) (by show l.length - (g + 1) < l.length - g; omega) ⟨by show g + 1 ≤ l.length; omega, hNE3, ?_, by show setR l x = o ++ [p] ++ setRG x (l.drop (g + 1)) false; rw [heq]; simp, by simp; omega⟩ rfl rfl
          · show Gr E3 42 33 v3 (o ++ [p]).length (((o ++ [p])).map refC).flatten
            simpa using hGr3
      · simp only [Bool.not_true, Bool.false_and, Bool.false_eq_true, ↓reduceIte] at heq
        simp only [↓reduceIte] at hol
        refine Cw.regionS [b1, bx] [0, 1, 2, 3, 4, 5, 6, 8, 7, 9, 10, 11] [] (by kernel_rfl) (by kernel_rfl) (by kernel_rfl) ?_
        simp only [nl_cons, ↓pickL_nil, ↓pickL_cons, ↓nthO_0, ↓nthO_s, consO_some]
        refine Ow.runQ fun k hk => ?_
        simp (disch := (first | omega | (simp only [lenS, lenT, UInt64.reduceToNat] ; try omega))) only [↓vcL_none, ↓vcB_move, ↓ov_some, ↓ev_tmp, ↓getF_s, ↓getF_0, putF_some, setF_s, setF_0, nf_cons, ↓vcB_unOp, un_not, Bool.not_true, ↓vcL_some, yieldF_lit, ↓nthO_s, ↓nthO_0, yieldL_some, boolOf_b, some_beq, beq_true, ↓ib_false, ↓vcB_pick, ↓ev_const, pick_f, ↓vcL_nil, Md.next_sof, List.contains_nil, Bool.false_eq_true, ↓reduceIte]
        (with_reducible refine hk _ _ _ _ ?_); clear hk k
        with_reducible refine Ow.nil ?_
        repeat' first | with_reducible (first | refine Cw.seq ?_ | refine thenK_normal ?_ | refine Ow.nil ?_) | ((with_reducible refine Cw.region (Ow.run rfl fun k hk => ?_)); simp (disch := (first | omega | (simp only [lenS, lenT, UInt64.reduceToNat] ; try omega))) only []; (with_reducible refine hk _ _ _ _ ?_); clear hk k) | with_reducible (first | refine Cw.block ?_ | refine Cw.skip ?_ | refine Cw.exit ?_ | refine Cw.ret ?_ | refine thenK_exit ?_ | refine thenK_ret ?_ | refine blockK_normal ?_ | refine blockK_ret ?_ | refine blockK_exit ?_ | refine blockK_pass rfl ?_) | ((with_reducible refine Cw.condC ?_); first | refine CwC.pt rfl (by omega) ?_ | refine CwC.pf rfl (by omega) ?_ | refine CwC.it rfl (by omega) ?_ | refine CwC.if rfl (by omega) ?_ | refine CwC.nt rfl (by omega) ?_ | refine CwC.nf rfl (by omega) ?_ | refine CwC.tt rfl ?_ | refine CwC.ff rfl ?_ | refine CwC.bt rfl (by assumption) ?_ | (refine CwC.bf rfl ?_ ?_; focus assumption))
        refine Cw.region (Ow.run rfl fun k hk => ?_)
        simp (disch := (first | omega | (simp only [lenS, lenT, UInt64.reduceToNat] ; try omega))) only [↓vcL_none, ↓vcB_move, ↓ov_some, ↓ev_tmp, ↓getF_s, ↓getF_0, putF_some, setF_s, setF_0, nf_cons, ↓vcB_indexAddr, Tryd.ix23, ixI_vi, h1.idx, ↓vcB_load, Md.next_seq, rd_seq_load, ↓ib_true, Tryd.ag42, loadAt_p, rd1, ld1, ↓vcB_buildSlice]
        (with_reducible refine hk _ _ _ _ ?_); clear hk k
        refine Ow.buildSlice (e := 42) (refC p).toArray rfl rfl (sliceRef p) fun b9 hb9 hwb9 => ?_
        have hxb9 : bx < b9 := above_to hb9 (by simp [keys])
        refine Ow.permL (M := D ++ ((bx, Obj.cells (refC x).toArray 42 (0, 0)) :: [(b9, Obj.cells (refC p).toArray 42 (0, 0))])) (by classical exact List.perm_iff_count.2 fun a => by simp only [List.count_append, List.count_cons, List.count_nil] <;> omega) ?_
        refine Ow.appendX (e := 42) (k := 1) (new := refC p) (X := D) v rfl rfl rfl rfl Tryd.underlying23 Tryd.ag42 (by kernel_rfl) zrRef (by rw [cells_ref, List.size_toArray, refC_len]) Tryd.underlying23 (by intro k h; cases h) hGr (fun w' hw' => AppX.one1 (hw'.has b9 (.cells (refC p).toArray 42 (0, 0)) (by simp)) (refC_len p) (refC_one p)) (by omega) (by omega) (fun B3 v3 D3 hA3 hB3 hbuf3 hk13 hk23 hlk3 => ?_)
        have hxB3 : bx < B3 := above_to hA3 (by simp [keys_app, keys])
        have hND3 : New (bx + 1) D3 := New.of_le fun q hq => by
          rcases hk23 q hq with h | h
          · exact hND.le q h
          · omega
        refine Ow.run rfl fun k hk => ?_
        simp (disch := (first | omega | (simp only [lenS, lenT, UInt64.reduceToNat] ; try omega))) only [↓vcL_none, ↓vcB_assign, ↓ov_some, putF_some, setF_s, setF_0, ↓ev_tmp, ↓getF_s, ↓getF_0, nf_cons, ↓vcL_nil, Md.next_seq]
        (with_reducible refine hk _ _ _ _ ?_); clear hk k
        with_reducible refine Ow.nil ?_
        first | with_reducible refine thenK_normal ?_ | (with_reducible refine blockK_normal ?_; with_reducible refine thenK_normal ?_)
        refine Cw.permL (M := (bx, Obj.cells (refC x).toArray 42 (0, 0)) :: (D3 ++ [(b9, Obj.cells (refC p).toArray 42 (0, 0))])) (by classical exact List.perm_iff_count.2 fun a => by simp only [List.count_append, List.count_cons, List.count_nil] <;> omega) ?_
        have hGr3 : Gr (D3 ++ [(b9, Obj.cells (refC p).toArray 42 (0, 0))]) 42 33 v3 _ _ := Gr.app (.inl hbuf3)
        have hNE3 : New (bx + 1) (D3 ++ [(b9, Obj.cells (refC p).toArray 42 (0, 0))]) := hND3.app ⟨by omega, trivial⟩
        generalize D3 ++ [(b9, Obj.cells (refC p).toArray 42 (0, 0))] = E3 at *
        repeat' first | with_reducible (first | refine Cw.seq ?_ | refine thenK_normal ?_ | refine Ow.nil ?_) | ((with_reducible refine Cw.region (Ow.run rfl fun k hk => ?_)); simp (disch := (first | omega | (simp only [lenS, lenT, UInt64.reduceToNat] ; try omega))) only [↓vcL_none, ↓vcB_move, ↓ov_some, ↓ev_tmp, ↓getF_s, ↓getF_0, putF_some, setF_s, setF_0, nf_cons, ↓vcB_binOp, ↓ev_const, lit_i64, binX_vi_vi, bin_add_i, ↓vcB_assign, ↓vcL_nil, Md.next_seq]; (with_reducible refine hk _ _ _ _ ?_); clear hk k) | with_reducible (first | refine Cw.block ?_ | refine Cw.skip ?_ | refine Cw.exit ?_ | refine Cw.ret ?_ | refine thenK_exit ?_ | refine thenK_ret ?_ | refine blockK_normal ?_ | refine blockK_ret ?_ | refine blockK_exit ?_ | refine blockK_pass rfl ?_) | ((with_reducible refine Cw.condC ?_); first | refine CwC.pt rfl (by omega) ?_ | refine CwC.pf rfl (by omega) ?_ | refine CwC.it rfl (by omega) ?_ | refine CwC.if rfl (by omega) ?_ | refine CwC.nt rfl (by omega) ?_ | refine CwC.nf rfl (by omega) ?_ | refine CwC.tt rfl ?_ | refine CwC.ff rfl ?_ | refine CwC.bt rfl (by assumption) ?_ | (refine CwC.bf rfl ?_ ?_; focus assumption))
        refine Again.mk (SG.mk (g + 1) true v3 (o ++ [p]) E3) (by show l.length - (g + 1) < l.length - g; omega) ⟨by show g + 1 ≤ l.length; omega, hNE3, ?_, by show setR l x = o ++ [p] ++ setRG x (l.drop (g + 1)) true; rw [heq]; simp, by simp; omega⟩ rfl rfl
        · show Gr E3 42 33 v3 (o ++ [p]).length (((o ++ [p])).map refC).flatten
          simpa using hGr3
    · rw [hq] at heq
      simp only [↓reduceIte] at heq
      repeat' first | with_reducible (first | refine Cw.seq ?_ | refine thenK_normal ?_ | refine Ow.nil ?_) | ((with_reducible refine Cw.region (Ow.run rfl fun k hk => ?_)); simp (disch := (first | omega | (simp only [lenS, lenT, UInt64.reduceToNat] ; try omega))) only [↓vcL_none, ↓vcB_move, ↓ov_some, ↓ev_tmp, ↓getF_s, ↓getF_0, putF_some, setF_s, setF_0, nf_cons, ↓vcB_binOp, ↓ev_const, lit_i64, binX_vi_vi, bin_add_i, ↓vcB_assign, ↓vcL_nil, Md.next_seq]; (with_reducible refine hk _ _ _ _ ?_); clear hk k) | with_reducible (first | refine Cw.block ?_ | refine Cw.skip ?_ | refine Cw.exit ?_ | refine Cw.ret ?_ | refine thenK_exit ?_ | refine thenK_ret ?_ | refine blockK_normal ?_ | refine blockK_ret ?_ | refine blockK_exit ?_ | refine blockK_pass rfl ?_) | ((with_reducible refine Cw.condC ?_); first | refine CwC.pt rfl (by omega) ?_ | refine CwC.pf rfl (by omega) ?_ | refine CwC.it rfl (by omega) ?_ | refine CwC.if rfl (by omega) ?_ | refine CwC.nt rfl (by omega) ?_ | refine CwC.nf rfl (by omega) ?_ | refine CwC.tt rfl ?_ | refine CwC.ff rfl ?_ | refine CwC.bt rfl (by assumption) ?_ | (refine CwC.bf rfl ?_ ?_; focus assumption))
      exact Again.mk (SG.mk (g + 1) dn v o D) (by show l.length - (g + 1) < l.length - g; omega) ⟨by show g + 1 ≤ l.length; omega, hND, hGr, heq, Nat.le_trans hol (Nat.add_le_add_right (Nat.le_succ g) _)⟩ rfl rfl
  · obtain rfl : g = l.length := by omega
    rw [List.drop_length, setRG] at heq
    have rdx : readB w ((bx, Obj.cells (refC x).toArray 42 (0, 0)) :: D) bx = some (.cells (refC x).toArray 42 (0, 0)) := read_same _ _ _ _
    repeat' first | with_reducible (first | refine Cw.seq ?_ | refine thenK_normal ?_ | refine Ow.nil ?_) | ((with_reducible refine Cw.region (Ow.run rfl fun k hk => ?_)); simp (disch := (first | omega | (simp only [lenS, lenT, UInt64.reduceToNat] ; try omega))) only [↓vcL_none, ↓vcB_move, ↓ov_some, ↓ev_tmp, ↓getF_s, ↓getF_0, putF_some, setF_s, setF_0, nf_cons, ↓vcB_len, Tryd.ix23, h1.len, ↓vcB_binOp, binX_vi_vi, bin_lss_i, ↓vcL_nil, Md.next_seq, ↓vcB_unOp, un_not]; (with_reducible refine hk _ _ _ _ ?_); clear hk k) | with_reducible (first | refine Cw.block ?_ | refine Cw.skip ?_ | refine Cw.exit ?_ | refine Cw.ret ?_ | refine thenK_exit ?_ | refine thenK_ret ?_ | refine blockK_normal ?_ | refine blockK_ret ?_ | refine blockK_exit ?_ | refine blockK_pass rfl ?_) | ((with_reducible refine Cw.condC ?_); first | refine CwC.pt rfl (by omega) ?_ | refine CwC.pf rfl (by omega) ?_ | refine CwC.it rfl (by omega) ?_ | refine CwC.if rfl (by omega) ?_ | refine CwC.nt rfl (by omega) ?_ | refine CwC.nf rfl (by omega) ?_ | refine CwC.tt rfl ?_ | refine CwC.ff rfl ?_ | refine CwC.bt rfl (by assumption) ?_ | (refine CwC.bf rfl ?_ ?_; focus assumption))
    have hol2 : o.length ≤ l.length + 1 := by cases dn <;> simp at hol <;> omega
    cases dn
    · simp only [Bool.false_eq_true, ↓reduceIte] at heq
      repeat' first | with_reducible (first | refine Cw.seq ?_ | refine thenK_normal ?_ | refine Ow.nil ?_) | ((with_reducible refine Cw.region (Ow.run rfl fun k hk => ?_)); simp (disch := (first | omega | (simp only [lenS, lenT, UInt64.reduceToNat] ; try omega))) only [↓vcL_none, ↓vcB_move, ↓ov_some, Bool.not_false, ↓ev_tmp, ↓getF_s, ↓getF_0, putF_some, setF_s, setF_0, nf_cons, ↓vcB_load, Md.next_seq, rd_seq_load, ↓ib_true, Tryd.ag42, loadAt_p, read_same, load_ref, ↓vcB_buildSlice]; (with_reducible refine hk _ _ _ _ ?_); clear hk k) | with_reducible (first | refine Cw.block ?_ | refine Cw.skip ?_ | refine Cw.exit ?_ | refine Cw.ret ?_ | refine thenK_exit ?_ | refine thenK_ret ?_ | refine blockK_normal ?_ | refine blockK_ret ?_ | refine blockK_exit ?_ | refine blockK_pass rfl ?_) | ((with_reducible refine Cw.condC ?_); first | refine CwC.pt rfl (by omega) ?_ | refine CwC.pf rfl (by omega) ?_ | refine CwC.it rfl (by omega) ?_ | refine CwC.if rfl (by omega) ?_ | refine CwC.nt rfl (by omega) ?_ | refine CwC.nf rfl (by omega) ?_ | refine CwC.tt rfl ?_ | refine CwC.ff rfl ?_ | refine CwC.bt rfl (by assumption) ?_ | (refine CwC.bf rfl ?_ ?_; focus assumption))
      refine Ow.buildSlice (e := 42) (refC x).toArray rfl rfl (sliceRef x) fun b8 hb8 hwb8 => ?_
      have hxb8 : bx < b8 := above_to hb8 (by simp [keys])
      refine Ow.permL (M := D ++ ((bx, Obj.cells (refC x).toArray 42 (0, 0)) :: [(b8, Obj.cells (refC x).toArray 42 (0, 0))])) (by classical exact List.perm_iff_count.2 fun a => by simp only [List.count_append, List.count_cons, List.count_nil] <;> omega) ?_
      refine Ow.appendX (e := 42) (k := 1) (new := refC x) (X := D) v rfl rfl rfl rfl Tryd.underlying23 Tryd.ag42 (by kernel_rfl) zrRef (by rw [cells_ref, List.size_toArray, refC_len]) Tryd.underlying23 (by intro k h; cases h) hGr (fun w' hw' => AppX.one1 (hw'.has b8 (.cells (refC x).toArray 42 (0, 0)) (by simp)) (refC_len x) (refC_one x)) (by omega) (by omega) (fun B2 v2 D2 hA2 hB2 hbuf2 hk12 hk22 hlk2 => ?_)
      have hxB2 : bx < B2 := above_to hA2 (by simp [keys_app, keys])
      have hND2 : New (bx + 1) D2 := New.of_le fun q hq => by
        rcases hk22 q hq with h | h
        · exact hND.le q h
        · omega
      refine Ow.run rfl fun k hk => ?_
      simp (disch := (first | omega | (simp only [lenS, lenT, UInt64.reduceToNat] ; try omega))) only [↓vcL_none, ↓vcB_assign, ↓ov_some, putF_some, setF_s, setF_0, ↓ev_tmp, ↓getF_s, ↓getF_0, nf_cons, ↓vcL_nil, Md.next_seq]
      (with_reducible refine hk _ _ _ _ ?_); clear hk k
      with_reducible refine Ow.nil ?_
      first | with_reducible refine thenK_normal ?_ | (with_reducible refine blockK_normal ?_; with_reducible refine thenK_normal ?_)
      refine Cw.permL (M := (bx, Obj.cells (refC x).toArray 42 (0, 0)) :: (D2 ++ [(b8, Obj.cells (refC x).toArray 42 (0, 0))])) (by classical exact List.perm_iff_count.2 fun a => by simp only [List.count_append, List.count_cons, List.count_nil] <;> omega) ?_
      have hGr2 : Gr (D2 ++ [(b8, Obj.cells (refC x).toArray 42 (0, 0))]) 42 33 v2 _ _ := Gr.app (.inl hbuf2)
      have hNE2 : New (bx + 1) (D2 ++ [(b8, Obj.cells (refC x).toArray 42 (0, 0))]) := hND2.app ⟨by omega, trivial⟩
      generalize D2 ++ [(b8, Obj.cells (refC x).toArray 42 (0, 0))] = E2 at *
      repeat' first | with_reducible (first | refine Cw.seq ?_ | refine thenK_normal ?_ | refine Ow.nil ?_) | ((with_reducible refine Cw.region (Ow.run rfl fun k hk => ?_)); simp (disch := (first | omega | (simp only [lenS, lenT, UInt64.reduceToNat] ; try omega))) only [↓vcL_none, ↓vcB_move, ↓ov_some, ↓ev_tmp, ↓getF_s, ↓getF_0, putF_some, setF_s, setF_0, nf_cons, ↓vcB_assign, ↓vcL_nil, Md.next_seq]; (with_reducible refine hk _ _ _ _ ?_); clear hk k) | with_reducible (first | refine Cw.block ?_ | refine Cw.skip ?_ | refine Cw.exit ?_ | refine Cw.ret ?_ | refine thenK_exit ?_ | refine thenK_ret ?_ | refine blockK_normal ?_ | refine blockK_ret ?_ | refine blockK_exit ?_ | refine blockK_pass rfl ?_) | ((with_reducible refine Cw.condC ?_); first | refine CwC.pt rfl (by omega) ?_ | refine CwC.pf rfl (by omega) ?_ | refine CwC.it rfl (by omega) ?_ | refine CwC.if rfl (by omega) ?_ | refine CwC.nt rfl (by omega) ?_ | refine CwC.nf rfl (by omega) ?_ | refine CwC.tt rfl ?_ | refine CwC.ff rfl ?_ | refine CwC.bt rfl (by assumption) ?_ | (refine CwC.bf rfl ?_ ?_; focus assumption))
      refine ⟨_, (by simp (disch := (first | omega | (simp only [lenS, lenT, UInt64.reduceToNat] ; try omega))) only [resVs_cons, resV_tmp, ↓getF_s, ↓getF_0, resVs_nil, cons2_some]; rfl), ?_⟩
      refine ⟨Ext.of_new ⟨hwx, hNE2.mono (by omega)⟩, ?_⟩
      rw [heq]
      refine Gr.i (X := E2) ?_ (fun q hq => by simp [hq])
      simpa [tupV] using hGr2
    · simp only [↓reduceIte, List.append_nil] at heq
      repeat' first | with_reducible (first | refine Cw.seq ?_ | refine thenK_normal ?_ | refine Ow.nil ?_) | ((with_reducible refine Cw.region (Ow.run rfl fun k hk => ?_)); simp (disch := (first | omega | (simp only [lenS, lenT, UInt64.reduceToNat] ; try omega))) only [↓vcL_none, ↓vcB_move, ↓ov_some, Bool.not_true, ↓ev_tmp, ↓getF_s, ↓getF_0, putF_some, setF_s, setF_0, nf_cons, ↓vcB_assign, ↓vcL_nil, Md.next_seq]; (with_reducible refine hk _ _ _ _ ?_); clear hk k) | with_reducible (first | refine Cw.block ?_ | refine Cw.skip ?_ | refine Cw.exit ?_ | refine Cw.ret ?_ | refine thenK_exit ?_ | refine thenK_ret ?_ | refine blockK_normal ?_ | refine blockK_ret ?_ | refine blockK_exit ?_ | refine blockK_pass rfl ?_) | ((with_reducible refine Cw.condC ?_); first | refine CwC.pt rfl (by omega) ?_ | refine CwC.pf rfl (by omega) ?_ | refine CwC.it rfl (by omega) ?_ | refine CwC.if rfl (by omega) ?_ | refine CwC.nt rfl (by omega) ?_ | refine CwC.nf rfl (by omega) ?_ | refine CwC.tt rfl ?_ | refine CwC.ff rfl ?_ | refine CwC.bt rfl (by assumption) ?_ | (refine CwC.bf rfl ?_ ?_; focus assumption))
      refine ⟨_, (by simp (disch := (first | omega | (simp only [lenS, lenT, UInt64.reduceToNat] ; try omega))) only [resVs_cons, resV_tmp, ↓getF_s, ↓getF_0, resVs_nil, cons2_some]; rfl), ?_⟩
      refine ⟨Ext.of_new ⟨hwx, hND.mono (by omega)⟩, ?_⟩
      rw [heq]
      exact hGr.i fun q hq => by simp [hq]
end Go.Proofs
open Go Go.Proofs Go.Sx Go.RefP
namespace Go.Proofs
set_option maxRecDepth 10000
set_option maxHeartbeats 4000000
set_option linter.unusedSimpArgs false
theorem leq_lt (a b : List UInt8) : (Op.bytesLess a b || a == b) = !(ltB b a) := by
  cases h : ltB b a
  · cases h2 : (a == b)
    · have hne : a ≠ b := by simpa using h2
      have : ltB a b = true := ltB_total h (fun e => hne e.symm)
      show (ltB a b || false) = true
      rw [this]; rfl
    · simp
  · have h1 : ltB a b = false := ltB_asymm h
    have h2 : (a == b) = false := by
      rw [beq_eq_false_iff_ne]; exact fun e => ltB_ne h e.symm
    show (ltB a b || _) = false
    rw [h1, h2]; rfl
/-- The document's values behind some of the log. -/
def logR (l t : List RefL) : Nat → Option (List RefL)
  | 0 => some t
  | g + 1 => (logR l t g).bind fun m => if (nameV (l.getD g ref0).name && decide ((setR m (l.getD g ref0)).length ≤ 16)) = true then some (setR m (l.getD g ref0)) else none
def tabOkR (t : List RefL) : Bool := tabAll nameV z32 (prs t)
def valR (t l : List RefL) (k : Nat) : Option (List RefL) := if t.length ≤ 16 ∧ l.length ≤ 100 ∧ tabOkR t = true then logR l t k else none
theorem logR_prs (l t : List RefL) : ∀ k, k ≤ l.length → (logR l t k).map prs = logL nameV z32 (prs l) (prs t) k
  | 0, _ => rfl
  | k + 1, hk => by
    have ih := logR_prs l t k (by omega)
    unfold logR logL
    rw [← ih]
    cases logR l t k with
    | none => rfl
    | some m =>
      simp only [Option.bind_some, Option.map_some]
      rw [prs_getD l k hk, ← prs_setR, prs_len]
      split <;> rfl
theorem valR_prs (t l : List RefL) (k : Nat) (hk : k ≤ l.length) : (valR t l k).map prs = ofL nameV z32 (prs t) (prs l) k := by
  unfold valR ofL
  rw [prs_len, prs_len]
  by_cases h : t.length ≤ 16 ∧ l.length ≤ 100 ∧ tabOkR t = true
  · rw [if_pos h, if_pos (show _ ∧ _ ∧ tabAll nameV z32 (prs t) = true from h)]; exact logR_prs l t k hk
  · rw [if_neg h, if_neg (show ¬ (_ ∧ _ ∧ tabAll nameV z32 (prs t) = true) from h)]; rfl
theorem valR_right (t l : List RefL) : (valR t l l.length).isSome = rightB t l := by
  unfold rightB
  rw [right_eq, rightL, prs_len, ← valR_prs t l l.length (Nat.le_refl _)]
  cases valR t l l.length <;> rfl
theorem logR_stop {l t : List RefL} {g : Nat} (h : logR l t g = none) : ∀ k, g ≤ k → logR l t k = none := by
  intro k hk
  induction hk with
  | refl => exact h
  | step _ ih => unfold logR; rw [ih]; rfl
theorem logR_step {l t m : List RefL} {g : Nat} (h : logR l t g = some m) : logR l t (g + 1) = if (nameV (l.getD g ref0).name && decide ((setR m (l.getD g ref0)).length ≤ 16)) = true then some (setR m (l.getD g ref0)) else none := by
  rw [logR, h]; rfl
theorem tabOkR_iff (t : List RefL) : tabOkR t = true ↔ ∀ i, i < t.length → tabOk nameV z32 (prs t) i = true := by
  unfold tabOkR tabAll; rw [List.all_eq_true, prs_len]; simp
/-- What Values hands back. -/
def ValsS (t l : List RefL) (k : Nat) (v : Value) (D : Heap) : Prop :=
  match valR t l k with
  | some ls => ∃ x, v = .tuple #[x, .bool true] ∧ GrI D 42 33 x ls.length (ls.map refC).flatten
  | none => v = .tuple #[.slice none 0 0, .bool false]
theorem ValsS.no {t l : List RefL} {k : Nat} {D : Heap} (h : valR t l k = none) : ValsS t l k (.tuple #[.slice none 0 0, .bool false]) D := by unfold ValsS; rw [h]
structure VG where
  g : Nat
  v : Value
  ls : List RefL
  D : Heap
theorem refNameV_spec (s : List UInt8) (w : World) (hs : s.length < 1099511627776) :
    Rets Tryd.prog 34 #[vs s] w (fun v D => v = .bool (nameV s) ∧ D = []) := refName_spec s w hs
theorem Values_spec (vt vl : Value) (t l : List RefL) (k : Nat) (w : World) (ht : RefSl w vt t) (hl : RefSl w vl l) (htl : t.length < 1000000) (hll : l.length < 1000000) (hk : k ≤ l.length) (hnt : ShortN t) (hnl : ShortN l) :
    Rets Tryd.prog 74 #[.agg #[vt, vl], vi k] w (XS w [] (ValsS t l k)) := by
  refine Rets.enterX Tryd.func74 rfl (rs := [.tmp 4, .tmp 5]) Tryd.results74 Tryd.ntmps74 (fun p hp => by cases hp) (by simp [keys]) ?_
  simp only [List.size_toArray, List.length_cons, List.length_nil, Nat.reduceAdd, Nat.reduceSub, List.replicate_succ, List.replicate_zero, List.cons_append, List.nil_append]
  repeat' first | with_reducible (first | refine Cw.seq ?_ | refine thenK_normal ?_ | refine Ow.nil ?_) | ((with_reducible refine Cw.region (Ow.run rfl fun k hk => ?_)); simp (disch := (first | omega | (simp only [lenS, lenT, UInt64.reduceToNat] ; try omega))) only [↓vcL_none, ↓vcB_box]; (with_reducible refine hk _ _ _ _ ?_); clear hk k) | with_reducible (first | refine Cw.block ?_ | refine Cw.skip ?_ | refine Cw.exit ?_ | refine Cw.ret ?_ | refine thenK_exit ?_ | refine thenK_ret ?_ | refine blockK_normal ?_ | refine blockK_ret ?_ | refine blockK_exit ?_ | refine blockK_pass rfl ?_) | ((with_reducible refine Cw.condC ?_); first | refine CwC.pt rfl (by omega) ?_ | refine CwC.pf rfl (by omega) ?_ | refine CwC.it rfl (by omega) ?_ | refine CwC.if rfl (by omega) ?_ | refine CwC.nt rfl (by omega) ?_ | refine CwC.nf rfl (by omega) ?_ | refine CwC.tt rfl ?_ | refine CwC.ff rfl ?_ | refine CwC.bt rfl (by assumption) ?_ | (refine CwC.bf rfl ?_ ?_; focus assumption))
  refine Ow.box rfl rfl fun bx hbx hwx => ?_
  simp only [ev_tmp, getF_0, getF_s, cells_agg, List.nil_append, List.cons_append]
  refine Ow.run rfl fun k hk => ?_
  simp (disch := (first | omega | (simp only [lenS, lenT, UInt64.reduceToNat] ; try omega))) only [↓vcL_none, ↓vcB_assign, ↓ov_some, putF_some, setF_s, setF_0, ↓ev_const, nf_cons, ↓vcL_nil, Md.next_seq]
  (with_reducible refine hk _ _ _ _ ?_); clear hk k
  by_cases h16 : t.length ≤ 16
  · have hd16 : decide ((16 : Int) < (t.length : Int)) = false := by simp; omega
    by_cases h100 : l.length ≤ 100
    · have hd100 : decide ((100 : Int) < (l.length : Int)) = false := by simp; omega
      obtain ⟨b1, o1, a1, E1, f1, h1⟩ := ht.row
      repeat' first | with_reducible (first | refine Cw.seq ?_ | refine thenK_normal ?_ | refine Ow.nil ?_) | ((with_reducible refine Cw.region (Ow.run rfl fun k hk => ?_)); simp (disch := (first | omega | (simp only [lenS, lenT, UInt64.reduceToNat] ; try omega))) only [↓vcL_none, ↓vcB_fieldAddr, Tryd.fl25_0, ↓ev_tmp, ↓getF_s, ↓getF_0, fieldAddr_p, Nat.add_zero, ↓ov_some, putF_some, setF_s, setF_0, nf_cons, ↓vcB_load, Md.next_seq, rd_seq_load, ↓ib_true, Tryd.ag23, loadAt_p, read_same, load_bk0, ↓vcB_len, Tryd.ix23, ht.len, ↓vcB_binOp, ↓ev_const, lit_i64, binX_vi_vi, bin_gtr_i, hd16, ↓vcB_move, ↓vcL_some, yieldF_lit, ↓nthO_s, ↓nthO_0, yieldL_some, boolOf_b, beq_self_eq_true, Tryd.fl25_1, Nat.zero_add, load_bk1, hl.len, hd100, ↓vcB_pick, pick_f, ↓vcL_nil, ↓vcB_assign]; (with_reducible refine hk _ _ _ _ ?_); clear hk k) | with_reducible (first | refine Cw.block ?_ | refine Cw.skip ?_ | refine Cw.exit ?_ | refine Cw.ret ?_ | refine thenK_exit ?_ | refine thenK_ret ?_ | refine blockK_normal ?_ | refine blockK_ret ?_ | refine blockK_exit ?_ | refine blockK_pass rfl ?_) | ((with_reducible refine Cw.condC ?_); first | refine CwC.pt rfl (by omega) ?_ | refine CwC.pf rfl (by omega) ?_ | refine CwC.it rfl (by omega) ?_ | refine CwC.if rfl (by omega) ?_ | refine CwC.nt rfl (by omega) ?_ | refine CwC.nf rfl (by omega) ?_ | refine CwC.tt rfl ?_ | refine CwC.ff rfl ?_ | refine CwC.bt rfl (by assumption) ?_ | (refine CwC.bf rfl ?_ ?_; focus assumption))
      refine Cw.loopG (G := Nat) [19, 20, 21, 22, 23, 26, 27, 28, 29, 30, 31, 32, 33, 34, 35, 36, 37, 38, 39, 40, 41, 42, 43, 44, 45, 46, 47, 48, 49, 50, 51, 52, 53, 54, 55, 56, 57, 58, 59, 60, 61, 62, 63, 4, 5, 24, 25, 6] (fun g => [(6, vi g)]) (fun g => [(bx, .cells #[vt, vl] 25 (0, 0))]) (fun g => g ≤ t.length ∧ ∀ i, i < g → tabOk nameV z32 (prs t) i = true) (fun g => t.length - g) 0 rfl rfl ?_ ?_
      · exact ⟨Nat.zero_le _, fun i hi => by omega⟩
      intro g j hg
      simp only [overFrom, pin, setF_0, setF_s, List.contains_cons, List.contains_nil, Nat.reduceBEq, Bool.or_false, Bool.false_or, Bool.or_true, Bool.true_or, Nat.reduceAdd, ↓reduceIte, Bool.false_eq_true]
      obtain ⟨hgl, hall⟩ := hg
      by_cases hlt : g < t.length
      · have hb1 := h1.has (by omega)
        have hb1l := h1.lt (by omega)
        have ldn : loadV (some (false, 1)) (some (.cells a1 E1 f1)) (o1 + g * 33) = some (vs (t.getD g ref0).name) := h1.cell (j := 0) (n := 1) hlt (by omega)
        have ldi : loadV (some (true, 32)) (some (.cells a1 E1 f1)) (o1 + g * 33 + 1) = some (.agg (a8 (t.getD g ref0).id.l)) := by
          rw [RowS.part h1 refC_len hlt (by omega) (by omega), ref_ext]
        have hnm := hnt g hlt
        have hpg := prs_getD t g hlt
        generalize hr : t.getD g ref0 = r at *
        have hil := r.id.h
        repeat' first | with_reducible (first | refine Cw.seq ?_ | refine thenK_normal ?_ | refine Ow.nil ?_) | ((with_reducible refine Cw.region (Ow.run rfl fun k hk => ?_)); simp (disch := (first | omega | (simp only [lenS, lenT, UInt64.reduceToNat] ; try omega))) only [↓vcL_none, ↓vcB_move, ↓ov_some, ↓ev_tmp, ↓getF_s, ↓getF_0, putF_some, setF_s, setF_0, nf_cons, ↓vcB_fieldAddr, Tryd.fl25_0, fieldAddr_p, Nat.add_zero, ↓vcB_load, Md.next_seq, rd_seq_load, ↓ib_true, Tryd.ag23, loadAt_p, read_same, load_bk0, ↓vcB_len, Tryd.ix23, ht.len, ↓vcB_binOp, binX_vi_vi, bin_lss_i, ↓vcL_nil]; (with_reducible refine hk _ _ _ _ ?_); clear hk k) | with_reducible (first | refine Cw.block ?_ | refine Cw.skip ?_ | refine Cw.exit ?_ | refine Cw.ret ?_ | refine thenK_exit ?_ | refine thenK_ret ?_ | refine blockK_normal ?_ | refine blockK_ret ?_ | refine blockK_exit ?_ | refine blockK_pass rfl ?_) | ((with_reducible refine Cw.condC ?_); first | refine CwC.pt rfl (by omega) ?_ | refine CwC.pf rfl (by omega) ?_ | refine CwC.it rfl (by omega) ?_ | refine CwC.if rfl (by omega) ?_ | refine CwC.nt rfl (by omega) ?_ | refine CwC.nf rfl (by omega) ?_ | refine CwC.tt rfl ?_ | refine CwC.ff rfl ?_ | refine CwC.bt rfl (by assumption) ?_ | (refine CwC.bf rfl ?_ ?_; focus assumption))
        refine Cw.regionS [b1, bx] [0, 2, 1, 3, 4, 5, 6, 7, 8, 9, 11, 15, 10, 12, 13, 14, 16, 17, 18, 19, 20, 21, 22, 24, 28, 30, 31, 23, 25, 26, 27, 29, 32, 33, 34, 35, 36, 37] [] (by kernel_rfl) (by kernel_rfl) (by kernel_rfl) ?_
        simp only [nl_cons, ↓pickL_nil, ↓pickL_cons, ↓nthO_0, ↓nthO_s, consO_some]
        refine Ow.runQ fun k hk => ?_
        simp (disch := (first | omega | (simp only [lenS, lenT, UInt64.reduceToNat] ; try omega))) only [↓vcL_none, ↓vcB_fieldAddr, Tryd.fl25_0, ↓ev_tmp, ↓getF_s, ↓getF_0, fieldAddr_p, Nat.add_zero, ↓ov_some, putF_some, setF_s, setF_0, nf_cons, ↓vcB_move, ↓vcB_load, Md.next_sof, List.contains_nil, Bool.false_eq_true, ↓reduceIte, ↓rd_sof_load, rdIn_p, List.contains_cons, beq_self_eq_true, Bool.or_false, Bool.or_true, ↓ib_true, Tryd.ag23, loadAt_p, read_same, load_bk0, ↓vcB_indexAddr, Tryd.ix23, ixI_vi, h1.idx, Tryd.fl42_0, Bool.true_or, Tryd.ag9, read_other, read_old, hb1, ldn, ↓vcB_call, lit_i64]
        (with_reducible refine hk _ _ _ _ ?_); clear hk k
        refine Ow.callFV rfl Tryd.call34 (fun w' hw' => refNameV_spec r.name w' hnm) ?_
        cases hn : nameV r.name
        · have hok : tabOk nameV z32 (prs t) g = false := by unfold tabOk; rw [hpg]; simp only [hn, Bool.false_and]
          refine Ow.runQ fun k hk => ?_
          simp (disch := (first | omega | (simp only [lenS, lenT, UInt64.reduceToNat] ; try omega))) only [↓vcL_none, ↓vcB_unOp, ↓ev_tmp, putF_some, setF_s, setF_0, ↓getF_s, ↓getF_0, un_not, Bool.not_false, ↓ov_some, nf_cons, ↓vcB_move, ↓vcL_some, lit_i64, yieldF_lit, ↓nthO_s, ↓nthO_0, yieldL_some, boolOf_b, some_beq, beq_false, Bool.not_true, ↓ib_false, ↓vcB_pick, ↓ev_const, pick_t, boolOf_undef, none_beq, ↓vcL_nil, Md.next_sof, List.contains_nil, Bool.false_eq_true, ↓reduceIte]
          (with_reducible refine hk _ _ _ _ ?_); clear hk k
          with_reducible refine Ow.nil ?_
          repeat' first | with_reducible (first | refine Cw.seq ?_ | refine thenK_normal ?_ | refine Ow.nil ?_) | ((with_reducible refine Cw.region (Ow.run rfl fun k hk => ?_)); simp (disch := (first | omega | (simp only [lenS, lenT, UInt64.reduceToNat] ; try omega))) only [↓vcL_none, ↓vcB_assign, ↓ov_some, ↓ev_const, putF_some, setF_s, setF_0, nf_cons, ↓vcL_nil, Md.next_seq]; (with_reducible refine hk _ _ _ _ ?_); clear hk k) | with_reducible (first | refine Cw.block ?_ | refine Cw.skip ?_ | refine Cw.exit ?_ | refine Cw.ret ?_ | refine thenK_exit ?_ | refine thenK_ret ?_ | refine blockK_normal ?_ | refine blockK_ret ?_ | refine blockK_exit ?_ | refine blockK_pass rfl ?_) | ((with_reducible refine Cw.condC ?_); first | refine CwC.pt rfl (by omega) ?_ | refine CwC.pf rfl (by omega) ?_ | refine CwC.it rfl (by omega) ?_ | refine CwC.if rfl (by omega) ?_ | refine CwC.nt rfl (by omega) ?_ | refine CwC.nf rfl (by omega) ?_ | refine CwC.tt rfl ?_ | refine CwC.ff rfl ?_ | refine CwC.bt rfl (by assumption) ?_ | (refine CwC.bf rfl ?_ ?_; focus assumption))
          refine ⟨_, (by simp (disch := (first | omega | (simp only [lenS, lenT, UInt64.reduceToNat] ; try omega))) only [resVs_cons, resV_tmp, ↓getF_s, ↓getF_0, resVs_nil, cons2_some]; rfl), ?_⟩
          exact ⟨Ext.of_new ⟨hwx, trivial⟩, ValsS.no (by unfold valR; rw [if_neg (fun h => by have := (tabOkR_iff t).1 h.2.2 g hlt; rw [hok] at this; cases this)])⟩
        · refine Ow.runQ fun k hk => ?_
          simp (disch := (first | omega | (simp only [lenS, lenT, UInt64.reduceToNat] ; try omega))) only [↓vcL_none, ↓vcB_unOp, ↓ev_tmp, putF_some, setF_s, setF_0, ↓getF_s, ↓getF_0, un_not, Bool.not_true, ↓ov_some, nf_cons, ↓vcB_move, ↓vcL_some, lit_i64, yieldF_lit, ↓nthO_s, ↓nthO_0, yieldL_some, boolOf_b, beq_self_eq_true, ↓ib_true, ↓vcB_fieldAddr, Tryd.fl25_0, fieldAddr_p, Nat.add_zero, ↓vcB_build, Md.next_sof, List.contains_nil, Bool.false_eq_true, ↓reduceIte]
          (with_reducible refine hk _ _ _ _ ?_); clear hk k
          refine Ow.build (.agg (a8 z32)) rfl (by kernel_rfl) ?_
          cases hz : (r.id.l == z32)
          · by_cases h0 : g = 0
            · have hd : decide ((0 : Int) < (g : Int)) = false := by simp [h0]
              have hok : tabOk nameV z32 (prs t) g = true := by unfold tabOk; rw [hpg]; simp only [hn, hz, h0, beq_self_eq_true, Bool.true_or, Bool.not_false, Bool.and_self]
              refine Ow.runQ fun k hk => ?_
              simp (disch := (first | omega | (simp only [lenS, lenT, UInt64.reduceToNat] ; try omega))) only [↓vcL_some, lit_i64, putF_some, setF_s, setF_0, yieldF_lit, ↓nthO_s, ↓nthO_0, yieldL_some, ↓getF_s, ↓getF_0, boolOf_b, beq_self_eq_true, ↓ib_true, ↓vcB_load, Md.next_sof, List.contains_nil, Bool.false_eq_true, ↓reduceIte, ↓rd_sof_load, ↓ev_tmp, rdIn_p, List.contains_cons, Bool.or_false, Bool.or_true, Tryd.ag23, loadAt_p, read_same, load_bk0, ↓ov_some, nf_cons, ↓vcB_indexAddr, Tryd.ix23, ixI_vi, h1.idx, ↓vcB_fieldAddr, Tryd.fl42_1, fieldAddr_p, Bool.true_or, Tryd.ag40, read_other, read_old, hb1, ldi, ↓vcB_binOp, eqIdz, hz, ↓vcL_none, ↓vcB_pick, ↓ev_const, pick_f, ↓vcB_move, binX_vi_vi, bin_gtr_i, hd, some_beq, beq_true, ↓ib_false, ↓vcL_nil]
              (with_reducible refine hk _ _ _ _ ?_); clear hk k
              with_reducible refine Ow.nil ?_
              repeat' first | with_reducible (first | refine Cw.seq ?_ | refine thenK_normal ?_ | refine Ow.nil ?_) | ((with_reducible refine Cw.region (Ow.run rfl fun k hk => ?_)); simp (disch := (first | omega | (simp only [lenS, lenT, UInt64.reduceToNat] ; try omega))) only [↓vcL_none, ↓vcB_move, ↓ov_some, ↓ev_tmp, ↓getF_s, ↓getF_0, putF_some, setF_s, setF_0, nf_cons, ↓vcB_binOp, ↓ev_const, lit_i64, binX_vi_vi, bin_add_i, ↓vcB_assign, ↓vcL_nil, Md.next_seq]; (with_reducible refine hk _ _ _ _ ?_); clear hk k) | with_reducible (first | refine Cw.block ?_ | refine Cw.skip ?_ | refine Cw.exit ?_ | refine Cw.ret ?_ | refine thenK_exit ?_ | refine thenK_ret ?_ | refine blockK_normal ?_ | refine blockK_ret ?_ | refine blockK_exit ?_ | refine blockK_pass rfl ?_) | ((with_reducible refine Cw.condC ?_); first | refine CwC.pt rfl (by omega) ?_ | refine CwC.pf rfl (by omega) ?_ | refine CwC.it rfl (by omega) ?_ | refine CwC.if rfl (by omega) ?_ | refine CwC.nt rfl (by omega) ?_ | refine CwC.nf rfl (by omega) ?_ | refine CwC.tt rfl ?_ | refine CwC.ff rfl ?_ | refine CwC.bt rfl (by assumption) ?_ | (refine CwC.bf rfl ?_ ?_; focus assumption))
              refine Again.mk (g + 1) (by omega) ⟨hlt, fun i hi => ?_⟩ rfl rfl
              by_cases e : i = g
              · rw [e]; exact hok
              · exact hall i (by omega)
            · have hd : decide ((0 : Int) < (g : Int)) = true := by simp; omega
              have ld2 : loadV (some (false, 1)) (some (.cells a1 E1 f1)) (o1 + (g - 1) * 33) = some (vs (t.getD (g - 1) ref0).name) := h1.cell (j := 0) (n := 1) (show g - 1 < t.length by omega) (by omega)
              have hix : indexAddrV (.sl (true, 33)) vt (some ((g : Int) - 1)) = some (vp b1 (o1 + (g - 1) * 33)) := by
                have := h1.idx true (g - 1) (by omega)
                rw [show ((g - 1 : Nat) : Int) = (g : Int) - 1 by omega] at this
                exact this
              have hpp := prs_getD t (g - 1) (show g - 1 < t.length by omega)
              have hg0 : (g == 0) = false := by simpa using h0
              have hok0 : tabOk nameV z32 (prs t) g = ltB (t.getD (g - 1) ref0).name r.name := by unfold tabOk; rw [hpg, hpp]; simp only [hn, hz, hg0, Bool.false_or, Bool.not_false, Bool.true_and]
              have hleq := leq_lt r.name (t.getD (g - 1) ref0).name
              cases hq : ltB (t.getD (g - 1) ref0).name r.name
              · have hok := hok0.trans hq
                rw [hq, Bool.not_false] at hleq
                refine Ow.runQ fun k hk => ?_
                simp (disch := (first | omega | (simp only [lenS, lenT, UInt64.reduceToNat] ; try omega))) only [↓vcL_some, lit_i64, putF_some, setF_s, setF_0, yieldF_lit, ↓nthO_s, ↓nthO_0, yieldL_some, ↓getF_s, ↓getF_0, boolOf_b, beq_self_eq_true, ↓ib_true, ↓vcB_load, Md.next_sof, List.contains_nil, Bool.false_eq_true, ↓reduceIte, ↓rd_sof_load, ↓ev_tmp, rdIn_p, List.contains_cons, Bool.or_false, Bool.or_true, Tryd.ag23, loadAt_p, read_same, load_bk0, ↓ov_some, nf_cons, ↓vcB_indexAddr, Tryd.ix23, ixI_vi, h1.idx, ↓vcB_fieldAddr, Tryd.fl42_1, fieldAddr_p, Bool.true_or, Tryd.ag40, read_other, read_old, hb1, ldi, ↓vcB_binOp, eqIdz, hz, ↓vcL_none, ↓vcB_pick, ↓ev_const, pick_f, ↓vcB_move, binX_vi_vi, bin_gtr_i, hd, Tryd.fl25_0, Nat.add_zero, bin_sub_i, Tryd.fl42_0, Tryd.ag9, ldn, hix, ld2, binX_vs, bin_leq_s, hleq, pick_t, ↓vcL_nil]
                (with_reducible refine hk _ _ _ _ ?_); clear hk k
                with_reducible refine Ow.nil ?_
                repeat' first | with_reducible (first | refine Cw.seq ?_ | refine thenK_normal ?_ | refine Ow.nil ?_) | ((with_reducible refine Cw.region (Ow.run rfl fun k hk => ?_)); simp (disch := (first | omega | (simp only [lenS, lenT, UInt64.reduceToNat] ; try omega))) only [↓vcL_none, ↓vcB_assign, ↓ov_some, ↓ev_const, putF_some, setF_s, setF_0, nf_cons, ↓vcL_nil, Md.next_seq]; (with_reducible refine hk _ _ _ _ ?_); clear hk k) | with_reducible (first | refine Cw.block ?_ | refine Cw.skip ?_ | refine Cw.exit ?_ | refine Cw.ret ?_ | refine thenK_exit ?_ | refine thenK_ret ?_ | refine blockK_normal ?_ | refine blockK_ret ?_ | refine blockK_exit ?_ | refine blockK_pass rfl ?_) | ((with_reducible refine Cw.condC ?_); first | refine CwC.pt rfl (by omega) ?_ | refine CwC.pf rfl (by omega) ?_ | refine CwC.it rfl (by omega) ?_ | refine CwC.if rfl (by omega) ?_ | refine CwC.nt rfl (by omega) ?_ | refine CwC.nf rfl (by omega) ?_ | refine CwC.tt rfl ?_ | refine CwC.ff rfl ?_ | refine CwC.bt rfl (by assumption) ?_ | (refine CwC.bf rfl ?_ ?_; focus assumption))
                refine ⟨_, (by simp (disch := (first | omega | (simp only [lenS, lenT, UInt64.reduceToNat] ; try omega))) only [resVs_cons, resV_tmp, ↓getF_s, ↓getF_0, resVs_nil, cons2_some]; rfl), ?_⟩
                exact ⟨Ext.of_new ⟨hwx, trivial⟩, ValsS.no (by unfold valR; rw [if_neg (fun h => by have := (tabOkR_iff t).1 h.2.2 g hlt; rw [hok] at this; cases this)])⟩
              · have hok := hok0.trans hq
                rw [hq, Bool.not_true] at hleq
                refine Ow.runQ fun k hk => ?_
                simp (disch := (first | omega | (simp only [lenS, lenT, UInt64.reduceToNat] ; try omega))) only [↓vcL_some, lit_i64, putF_some, setF_s, setF_0, yieldF_lit, ↓nthO_s, ↓nthO_0, yieldL_some, ↓getF_s, ↓getF_0, boolOf_b, beq_self_eq_true, ↓ib_true, ↓vcB_load, Md.next_sof, List.contains_nil, Bool.false_eq_true, ↓reduceIte, ↓rd_sof_load, ↓ev_tmp, rdIn_p, List.contains_cons, Bool.or_false, Bool.or_true, Tryd.ag23, loadAt_p, read_same, load_bk0, ↓ov_some, nf_cons, ↓vcB_indexAddr, Tryd.ix23, ixI_vi, h1.idx, ↓vcB_fieldAddr, Tryd.fl42_1, fieldAddr_p, Bool.true_or, Tryd.ag40, read_other, read_old, hb1, ldi, ↓vcB_binOp, eqIdz, hz, ↓vcL_none, ↓vcB_pick, ↓ev_const, pick_f, ↓vcB_move, binX_vi_vi, bin_gtr_i, hd, Tryd.fl25_0, Nat.add_zero, bin_sub_i, Tryd.fl42_0, Tryd.ag9, ldn, hix, ld2, binX_vs, bin_leq_s, hleq, pick_t, ↓vcL_nil]
                (with_reducible refine hk _ _ _ _ ?_); clear hk k
                with_reducible refine Ow.nil ?_
                repeat' first | with_reducible (first | refine Cw.seq ?_ | refine thenK_normal ?_ | refine Ow.nil ?_) | ((with_reducible refine Cw.region (Ow.run rfl fun k hk => ?_)); simp (disch := (first | omega | (simp only [lenS, lenT, UInt64.reduceToNat] ; try omega))) only [↓vcL_none, ↓vcB_move, ↓ov_some, ↓ev_tmp, ↓getF_s, ↓getF_0, putF_some, setF_s, setF_0, nf_cons, ↓vcB_binOp, ↓ev_const, lit_i64, binX_vi_vi, bin_add_i, ↓vcB_assign, ↓vcL_nil, Md.next_seq]; (with_reducible refine hk _ _ _ _ ?_); clear hk k) | with_reducible (first | refine Cw.block ?_ | refine Cw.skip ?_ | refine Cw.exit ?_ | refine Cw.ret ?_ | refine thenK_exit ?_ | refine thenK_ret ?_ | refine blockK_normal ?_ | refine blockK_ret ?_ | refine blockK_exit ?_ | refine blockK_pass rfl ?_) | ((with_reducible refine Cw.condC ?_); first | refine CwC.pt rfl (by omega) ?_ | refine CwC.pf rfl (by omega) ?_ | refine CwC.it rfl (by omega) ?_ | refine CwC.if rfl (by omega) ?_ | refine CwC.nt rfl (by omega) ?_ | refine CwC.nf rfl (by omega) ?_ | refine CwC.tt rfl ?_ | refine CwC.ff rfl ?_ | refine CwC.bt rfl (by assumption) ?_ | (refine CwC.bf rfl ?_ ?_; focus assumption))
                refine Again.mk (g + 1) (by omega) ⟨hlt, fun i hi => ?_⟩ rfl rfl
                by_cases e : i = g
                · rw [e]; exact hok
                · exact hall i (by omega)
          · have hok : tabOk nameV z32 (prs t) g = false := by unfold tabOk; rw [hpg]; simp only [hz, Bool.not_true, Bool.and_false, Bool.false_and]
            refine Ow.runQ fun k hk => ?_
            simp (disch := (first | omega | (simp only [lenS, lenT, UInt64.reduceToNat] ; try omega))) only [↓vcL_some, lit_i64, putF_some, setF_s, setF_0, yieldF_lit, ↓nthO_s, ↓nthO_0, yieldL_some, ↓getF_s, ↓getF_0, boolOf_b, beq_self_eq_true, ↓ib_true, ↓vcB_load, Md.next_sof, List.contains_nil, Bool.false_eq_true, ↓reduceIte, ↓rd_sof_load, ↓ev_tmp, rdIn_p, List.contains_cons, Bool.or_false, Bool.or_true, Tryd.ag23, loadAt_p, read_same, load_bk0, ↓ov_some, nf_cons, ↓vcB_indexAddr, Tryd.ix23, ixI_vi, h1.idx, ↓vcB_fieldAddr, Tryd.fl42_1, fieldAddr_p, Bool.true_or, Tryd.ag40, read_other, read_old, hb1, ldi, ↓vcB_binOp, eqIdz, hz, ↓vcL_none, ↓vcB_pick, ↓ev_const, pick_f, ↓vcB_move, some_beq, beq_false, Bool.not_true, ↓ib_false, boolOf_undef, none_beq, pick_t, ↓vcL_nil]
            (with_reducible refine hk _ _ _ _ ?_); clear hk k
            with_reducible refine Ow.nil ?_
            repeat' first | with_reducible (first | refine Cw.seq ?_ | refine thenK_normal ?_ | refine Ow.nil ?_) | ((with_reducible refine Cw.region (Ow.run rfl fun k hk => ?_)); simp (disch := (first | omega | (simp only [lenS, lenT, UInt64.reduceToNat] ; try omega))) only [↓vcL_none, ↓vcB_assign, ↓ov_some, ↓ev_const, putF_some, setF_s, setF_0, nf_cons, ↓vcL_nil, Md.next_seq]; (with_reducible refine hk _ _ _ _ ?_); clear hk k) | with_reducible (first | refine Cw.block ?_ | refine Cw.skip ?_ | refine Cw.exit ?_ | refine Cw.ret ?_ | refine thenK_exit ?_ | refine thenK_ret ?_ | refine blockK_normal ?_ | refine blockK_ret ?_ | refine blockK_exit ?_ | refine blockK_pass rfl ?_) | ((with_reducible refine Cw.condC ?_); first | refine CwC.pt rfl (by omega) ?_ | refine CwC.pf rfl (by omega) ?_ | refine CwC.it rfl (by omega) ?_ | refine CwC.if rfl (by omega) ?_ | refine CwC.nt rfl (by omega) ?_ | refine CwC.nf rfl (by omega) ?_ | refine CwC.tt rfl ?_ | refine CwC.ff rfl ?_ | refine CwC.bt rfl (by assumption) ?_ | (refine CwC.bf rfl ?_ ?_; focus assumption))
            refine ⟨_, (by simp (disch := (first | omega | (simp only [lenS, lenT, UInt64.reduceToNat] ; try omega))) only [resVs_cons, resV_tmp, ↓getF_s, ↓getF_0, resVs_nil, cons2_some]; rfl), ?_⟩
            exact ⟨Ext.of_new ⟨hwx, trivial⟩, ValsS.no (by unfold valR; rw [if_neg (fun h => by have := (tabOkR_iff t).1 h.2.2 g hlt; rw [hok] at this; cases this)])⟩
      · obtain rfl : g = t.length := by omega
        have hv0 : ∀ k, valR t l k = logR l t k := fun k => by unfold valR; rw [if_pos ⟨h16, h100, (tabOkR_iff t).2 hall⟩]
        repeat' first | with_reducible (first | refine Cw.seq ?_ | refine thenK_normal ?_ | refine Ow.nil ?_) | ((with_reducible refine Cw.region (Ow.run rfl fun k hk => ?_)); simp (disch := (first | omega | (simp only [lenS, lenT, UInt64.reduceToNat] ; try omega))) only [↓vcL_none, ↓vcB_move, ↓ov_some, ↓ev_tmp, ↓getF_s, ↓getF_0, putF_some, setF_s, setF_0, nf_cons, ↓vcB_fieldAddr, Tryd.fl25_0, fieldAddr_p, Nat.add_zero, ↓vcB_load, Md.next_seq, rd_seq_load, ↓ib_true, Tryd.ag23, loadAt_p, read_same, load_bk0, ↓vcB_len, Tryd.ix23, ht.len, ↓vcB_binOp, binX_vi_vi, bin_lss_i, ↓vcL_nil, ↓vcB_assign, ↓ev_const, ↓vcB_append]; (with_reducible refine hk _ _ _ _ ?_); clear hk k) | with_reducible (first | refine Cw.block ?_ | refine Cw.skip ?_ | refine Cw.exit ?_ | refine Cw.ret ?_ | refine thenK_exit ?_ | refine thenK_ret ?_ | refine blockK_normal ?_ | refine blockK_ret ?_ | refine blockK_exit ?_ | refine blockK_pass rfl ?_) | ((with_reducible refine Cw.condC ?_); first | refine CwC.pt rfl (by omega) ?_ | refine CwC.pf rfl (by omega) ?_ | refine CwC.it rfl (by omega) ?_ | refine CwC.if rfl (by omega) ?_ | refine CwC.nt rfl (by omega) ?_ | refine CwC.nf rfl (by omega) ?_ | refine CwC.tt rfl ?_ | refine CwC.ff rfl ?_ | refine CwC.bt rfl (by assumption) ?_ | (refine CwC.bf rfl ?_ ?_; focus assumption))
        refine Ow.appendG (e := 42) (k := t.length) (new := (t.map refC).flatten) (n := 0) (cs := []) (.slice none 0 0) rfl rfl rfl Tryd.underlying23 Tryd.ag42 (by kernel_rfl) zrRef (by rw [cells_ref, List.size_toArray, refC_len]) Tryd.underlying23 (by intro k h; cases h) Gr.nl (fun w' hw' => (ht.oldN hw' ⟨hwx, trivial⟩).appX refC_len refC_one) (flat_len refC_len t) (by omega) (fun v2 D2 hG2 _ hW2 hS2 => ?_)
        rw [Nat.zero_add, List.nil_append] at hG2
        have hN2 : New w.heap.size D2 := New.of_le fun c hc => by
          rcases hW2.new c hc with h | ⟨-, h⟩
          · simp [keys] at h; omega
          · exact h
        have lk2 : Sx.look D2 bx = some (.cells #[vt, vl] 25 (0, 0)) := hW2.look bx _ (by simp [slB]) (look_same _ _ _)
        obtain ⟨b3, o3, a3, E3, f3, h3⟩ := hl.row
        refine Ow.run rfl fun k hk => ?_
        simp (disch := (first | omega | (simp only [lenS, lenT, UInt64.reduceToNat] ; try omega))) only [↓vcL_none, ↓vcB_assign, ↓ov_some, putF_some, setF_s, setF_0, ↓ev_tmp, ↓getF_s, ↓getF_0, nf_cons, ↓vcL_nil, Md.next_seq]
        (with_reducible refine hk _ _ _ _ ?_); clear hk k
        repeat' first | with_reducible (first | refine Cw.seq ?_ | refine thenK_normal ?_ | refine Ow.nil ?_) | ((with_reducible refine Cw.region (Ow.run rfl fun k hk => ?_)); simp (disch := (first | omega | (simp only [lenS, lenT, UInt64.reduceToNat] ; try omega))) only [↓vcL_none, ↓vcB_assign, ↓ov_some, ↓ev_const, lit_i64, putF_some, setF_s, setF_0, nf_cons, ↓vcL_nil, Md.next_seq]; (with_reducible refine hk _ _ _ _ ?_); clear hk k) | with_reducible (first | refine Cw.block ?_ | refine Cw.skip ?_ | refine Cw.exit ?_ | refine Cw.ret ?_ | refine thenK_exit ?_ | refine thenK_ret ?_ | refine blockK_normal ?_ | refine blockK_ret ?_ | refine blockK_exit ?_ | refine blockK_pass rfl ?_) | ((with_reducible refine Cw.condC ?_); first | refine CwC.pt rfl (by omega) ?_ | refine CwC.pf rfl (by omega) ?_ | refine CwC.it rfl (by omega) ?_ | refine CwC.if rfl (by omega) ?_ | refine CwC.nt rfl (by omega) ?_ | refine CwC.nf rfl (by omega) ?_ | refine CwC.tt rfl ?_ | refine CwC.ff rfl ?_ | refine CwC.bt rfl (by assumption) ?_ | (refine CwC.bf rfl ?_ ?_; focus assumption))
        refine Cw.loopG (G := VG) [68, 69, 70, 73, 74, 75, 76, 77, 78, 79, 7, 80, 81, 82, 83, 84, 85, 86, 87, 88, 89, 90, 91, 92, 4, 5, 71, 72, 8] (fun g => [(7, g.v), (8, vi g.g)]) (fun g => g.D) (fun g => g.g ≤ k ∧ New w.heap.size g.D ∧ Sx.look g.D bx = some (.cells #[vt, vl] 25 (0, 0)) ∧ GrI g.D 42 33 g.v g.ls.length (g.ls.map refC).flatten ∧ logR l t g.g = some g.ls ∧ g.ls.length ≤ 16) (fun g => k - g.g) ⟨0, v2, t, D2⟩ rfl rfl ?_ ?_
        · exact ⟨Nat.zero_le _, hN2, lk2, hG2.i fun p hp => hp, rfl, h16⟩
        intro g j hg
        simp only [overFrom, pin, setF_0, setF_s, List.contains_cons, List.contains_nil, Nat.reduceBEq, Bool.or_false, Bool.false_or, Bool.or_true, Bool.true_or, Nat.reduceAdd, ↓reduceIte, Bool.false_eq_true]
        obtain ⟨g, v, ls, D⟩ := g
        simp only at hg ⊢
        obtain ⟨hgk, hND, hlk, hGr, hlg, hls⟩ := hg
        have rdx : readB w D bx = some (.cells #[vt, vl] 25 (0, 0)) := read_look hlk
        by_cases hlt : g < k
        · have hb3 := h3.has (by omega)
          have hb3l := h3.lt (by omega)
          have rd3 : readB w D b3 = some (.cells a3 E3 f3) := by rw [read_none (hND.not hb3l)]; exact hb3
          have ld3 := h3.load refC_len (by omega) (show g < l.length by omega)
          have ldn : loadV (some (false, 1)) (some (.cells a3 E3 f3)) (o3 + g * 33) = some (vs (l.getD g ref0).name) := h3.cell (j := 0) (n := 1) (show g < l.length by omega) (by omega)
          have hnm := hnl g (by omega)
          have hst := logR_step hlg
          generalize hr : l.getD g ref0 = r at *
          have hix3 := h3.idx true g (show g < l.length by omega)
          repeat' first | with_reducible (first | refine Cw.seq ?_ | refine thenK_normal ?_ | refine Ow.nil ?_) | ((with_reducible refine Cw.region (Ow.run rfl fun k hk => ?_)); simp (disch := (first | omega | (simp only [lenS, lenT, UInt64.reduceToNat] ; try omega))) only [↓vcL_none, ↓vcB_move, ↓ov_some, ↓ev_tmp, ↓getF_s, ↓getF_0, putF_some, setF_s, setF_0, nf_cons, ↓vcB_binOp, binX_vi_vi, bin_lss_i, ↓vcL_nil, Md.next_seq, ↓vcB_fieldAddr, Tryd.fl25_1, fieldAddr_p, Nat.zero_add, ↓vcB_load, rd_seq_load, ↓ib_true, Tryd.ag23, loadAt_p, rdx, load_bk1, ↓vcB_indexAddr, Tryd.ix23, ixI_vi, hix3, Tryd.ag42, rd3, ld3, ↓vcB_call]; (with_reducible refine hk _ _ _ _ ?_); clear hk k) | with_reducible (first | refine Cw.block ?_ | refine Cw.skip ?_ | refine Cw.exit ?_ | refine Cw.ret ?_ | refine thenK_exit ?_ | refine thenK_ret ?_ | refine blockK_normal ?_ | refine blockK_ret ?_ | refine blockK_exit ?_ | refine blockK_pass rfl ?_) | ((with_reducible refine Cw.condC ?_); first | refine CwC.pt rfl (by omega) ?_ | refine CwC.pf rfl (by omega) ?_ | refine CwC.it rfl (by omega) ?_ | refine CwC.if rfl (by omega) ?_ | refine CwC.nt rfl (by omega) ?_ | refine CwC.nf rfl (by omega) ?_ | refine CwC.tt rfl ?_ | refine CwC.ff rfl ?_ | refine CwC.bt rfl (by assumption) ?_ | (refine CwC.bf rfl ?_ ?_; focus assumption))
          refine Ow.callC rfl rfl Tryd.call114 (fun w' hw' => Set_spec v ls r w' (hGr.slV hw' rfl rfl refC_len) (by omega)) (fun B4 v4 D4 hA4 hB4 hN4 hS4 => ?_)
          have lk4 : Sx.look (D ++ D4) bx = some (.cells #[vt, vl] 25 (0, 0)) := look_app hlk
          have hNE : New w.heap.size (D ++ D4) := hND.app (hN4.mono hB4)
          have hGE : GrI (D ++ D4) 42 33 v4 (setR ls r).length ((setR ls r).map refC).flatten := hS4.mono fun p hp => List.mem_append_right _ hp
          have hlen4 : ∀ m, lenV (.sl m) v4 = some (vi (setR ls r).length) := fun m => by obtain ⟨X, -, hX⟩ := hS4; exact hX.len m
          generalize D ++ D4 = E at *
          have rdx4 : readB w E bx = some (.cells #[vt, vl] 25 (0, 0)) := read_look lk4
          have rd34 : readB w E b3 = some (.cells a3 E3 f3) := by rw [read_none (hNE.not hb3l)]; exact hb3
          refine Ow.run rfl fun k hk => ?_
          simp (disch := (first | omega | (simp only [lenS, lenT, UInt64.reduceToNat] ; try omega))) only [↓vcL_none, ↓vcB_assign, ↓ov_some, putF_some, setF_s, setF_0, ↓ev_tmp, ↓getF_s, ↓getF_0, nf_cons, ↓vcL_nil, Md.next_seq]
          (with_reducible refine hk _ _ _ _ ?_); clear hk k
          repeat' first | with_reducible (first | refine Cw.seq ?_ | refine thenK_normal ?_ | refine Ow.nil ?_) | ((with_reducible refine Cw.region (Ow.run rfl fun k hk => ?_)); simp (disch := (first | omega | (simp only [lenS, lenT, UInt64.reduceToNat] ; try omega))) only [↓vcL_none, ↓vcB_fieldAddr, Tryd.fl25_1, ↓ev_tmp, ↓getF_s, ↓getF_0, fieldAddr_p, Nat.zero_add, ↓ov_some, putF_some, setF_s, setF_0, nf_cons, ↓vcB_load, Md.next_seq, rd_seq_load, ↓ib_true, Tryd.ag23, loadAt_p, rdx4, load_bk1, ↓vcB_move, ↓vcB_indexAddr, Tryd.ix23, ixI_vi, hix3, Tryd.fl42_0, Nat.add_zero, Tryd.ag9, rd34, ldn, ↓vcB_call, lit_i64]; (with_reducible refine hk _ _ _ _ ?_); clear hk k) | with_reducible (first | refine Cw.block ?_ | refine Cw.skip ?_ | refine Cw.exit ?_ | refine Cw.ret ?_ | refine thenK_exit ?_ | refine thenK_ret ?_ | refine blockK_normal ?_ | refine blockK_ret ?_ | refine blockK_exit ?_ | refine blockK_pass rfl ?_) | ((with_reducible refine Cw.condC ?_); first | refine CwC.pt rfl (by omega) ?_ | refine CwC.pf rfl (by omega) ?_ | refine CwC.it rfl (by omega) ?_ | refine CwC.if rfl (by omega) ?_ | refine CwC.nt rfl (by omega) ?_ | refine CwC.nf rfl (by omega) ?_ | refine CwC.tt rfl ?_ | refine CwC.ff rfl ?_ | refine CwC.bt rfl (by assumption) ?_ | (refine CwC.bf rfl ?_ ?_; focus assumption))
          refine Ow.callFV rfl Tryd.call34 (fun w' hw' => refNameV_spec r.name w' hnm) ?_
          cases hn : nameV r.name
          · refine Ow.run rfl fun k hk => ?_
            simp (disch := (first | omega | (simp only [lenS, lenT, UInt64.reduceToNat] ; try omega))) only [↓vcL_none, ↓vcB_unOp, ↓ev_tmp, putF_some, setF_s, setF_0, ↓getF_s, ↓getF_0, un_not, Bool.not_false, ↓ov_some, nf_cons, ↓vcB_move, ↓vcL_some, lit_i64, yieldF_lit, ↓nthO_s, ↓nthO_0, yieldL_some, boolOf_b, some_beq, beq_false, Bool.not_true, ↓ib_false, ↓vcB_pick, ↓ev_const, pick_t, ↓vcL_nil, Md.next_seq]
            (with_reducible refine hk _ _ _ _ ?_); clear hk k
            repeat' first | with_reducible (first | refine Cw.seq ?_ | refine thenK_normal ?_ | refine Ow.nil ?_) | ((with_reducible refine Cw.region (Ow.run rfl fun k hk => ?_)); simp (disch := (first | omega | (simp only [lenS, lenT, UInt64.reduceToNat] ; try omega))) only [↓vcL_none, ↓vcB_assign, ↓ov_some, ↓ev_const, putF_some, setF_s, setF_0, nf_cons, ↓vcL_nil, Md.next_seq]; (with_reducible refine hk _ _ _ _ ?_); clear hk k) | with_reducible (first | refine Cw.block ?_ | refine Cw.skip ?_ | refine Cw.exit ?_ | refine Cw.ret ?_ | refine thenK_exit ?_ | refine thenK_ret ?_ | refine blockK_normal ?_ | refine blockK_ret ?_ | refine blockK_exit ?_ | refine blockK_pass rfl ?_) | ((with_reducible refine Cw.condC ?_); first | refine CwC.pt rfl (by omega) ?_ | refine CwC.pf rfl (by omega) ?_ | refine CwC.it rfl (by omega) ?_ | refine CwC.if rfl (by omega) ?_ | refine CwC.nt rfl (by omega) ?_ | refine CwC.nf rfl (by omega) ?_ | refine CwC.tt rfl ?_ | refine CwC.ff rfl ?_ | refine CwC.bt rfl (by assumption) ?_ | (refine CwC.bf rfl ?_ ?_; focus assumption))
            refine ⟨_, (by simp (disch := (first | omega | (simp only [lenS, lenT, UInt64.reduceToNat] ; try omega))) only [resVs_cons, resV_tmp, ↓getF_s, ↓getF_0, resVs_nil, cons2_some]; rfl), ?_⟩
            exact ⟨Ext.of_new hNE, ValsS.no (by rw [hv0]; exact logR_stop (g := g + 1) (by rw [hst, hn]; rfl) k hlt)⟩
          · by_cases h17 : (setR ls r).length ≤ 16
            · have hd : decide ((16 : Int) < ((setR ls r).length : Int)) = false := by simp; omega
              refine Ow.run rfl fun k hk => ?_
              simp (disch := (first | omega | (simp only [lenS, lenT, UInt64.reduceToNat] ; try omega))) only [↓vcL_none, ↓vcB_unOp, ↓ev_tmp, putF_some, setF_s, setF_0, ↓getF_s, ↓getF_0, un_not, Bool.not_true, ↓ov_some, nf_cons, ↓vcB_move, ↓vcL_some, lit_i64, yieldF_lit, ↓nthO_s, ↓nthO_0, yieldL_some, boolOf_b, beq_self_eq_true, ↓ib_true, ↓vcB_len, Tryd.ix23, hlen4, ↓vcB_binOp, ↓ev_const, binX_vi_vi, bin_gtr_i, hd, ↓vcB_pick, pick_f, ↓vcL_nil, Md.next_seq]
              (with_reducible refine hk _ _ _ _ ?_); clear hk k
              repeat' first | with_reducible (first | refine Cw.seq ?_ | refine thenK_normal ?_ | refine Ow.nil ?_) | ((with_reducible refine Cw.region (Ow.run rfl fun k hk => ?_)); simp (disch := (first | omega | (simp only [lenS, lenT, UInt64.reduceToNat] ; try omega))) only [↓vcL_none, ↓vcB_move, ↓ov_some, ↓ev_tmp, ↓getF_s, ↓getF_0, putF_some, setF_s, setF_0, nf_cons, ↓vcB_binOp, ↓ev_const, lit_i64, binX_vi_vi, bin_add_i, ↓vcB_assign, ↓vcL_nil, Md.next_seq]; (with_reducible refine hk _ _ _ _ ?_); clear hk k) | with_reducible (first | refine Cw.block ?_ | refine Cw.skip ?_ | refine Cw.exit ?_ | refine Cw.ret ?_ | refine thenK_exit ?_ | refine thenK_ret ?_ | refine blockK_normal ?_ | refine blockK_ret ?_ | refine blockK_exit ?_ | refine blockK_pass rfl ?_) | ((with_reducible refine Cw.condC ?_); first | refine CwC.pt rfl (by omega) ?_ | refine CwC.pf rfl (by omega) ?_ | refine CwC.it rfl (by omega) ?_ | refine CwC.if rfl (by omega) ?_ | refine CwC.nt rfl (by omega) ?_ | refine CwC.nf rfl (by omega) ?_ | refine CwC.tt rfl ?_ | refine CwC.ff rfl ?_ | refine CwC.bt rfl (by assumption) ?_ | (refine CwC.bf rfl ?_ ?_; focus assumption))
              refine Again.mk (VG.mk (g + 1) v4 (setR ls r) E) (by show k - (g + 1) < k - g; omega) ⟨hlt, hNE, lk4, hGE, ?_, h17⟩ rfl rfl
              show logR l t (g + 1) = some (setR ls r)
              rw [hst, hn, if_pos (by simpa using h17)]
            · have hd : decide ((16 : Int) < ((setR ls r).length : Int)) = true := by simp; omega
              refine Ow.run rfl fun k hk => ?_
              simp (disch := (first | omega | (simp only [lenS, lenT, UInt64.reduceToNat] ; try omega))) only [↓vcL_none, ↓vcB_unOp, ↓ev_tmp, putF_some, setF_s, setF_0, ↓getF_s, ↓getF_0, un_not, Bool.not_true, ↓ov_some, nf_cons, ↓vcB_move, ↓vcL_some, lit_i64, yieldF_lit, ↓nthO_s, ↓nthO_0, yieldL_some, boolOf_b, beq_self_eq_true, ↓ib_true, ↓vcB_len, Tryd.ix23, hlen4, ↓vcB_binOp, ↓ev_const, binX_vi_vi, bin_gtr_i, hd, ↓vcB_pick, pick_f, ↓vcL_nil, Md.next_seq]
              (with_reducible refine hk _ _ _ _ ?_); clear hk k
              repeat' first | with_reducible (first | refine Cw.seq ?_ | refine thenK_normal ?_ | refine Ow.nil ?_) | ((with_reducible refine Cw.region (Ow.run rfl fun k hk => ?_)); simp (disch := (first | omega | (simp only [lenS, lenT, UInt64.reduceToNat] ; try omega))) only [↓vcL_none, ↓vcB_assign, ↓ov_some, ↓ev_const, putF_some, setF_s, setF_0, nf_cons, ↓vcL_nil, Md.next_seq]; (with_reducible refine hk _ _ _ _ ?_); clear hk k) | with_reducible (first | refine Cw.block ?_ | refine Cw.skip ?_ | refine Cw.exit ?_ | refine Cw.ret ?_ | refine thenK_exit ?_ | refine thenK_ret ?_ | refine blockK_normal ?_ | refine blockK_ret ?_ | refine blockK_exit ?_ | refine blockK_pass rfl ?_) | ((with_reducible refine Cw.condC ?_); first | refine CwC.pt rfl (by omega) ?_ | refine CwC.pf rfl (by omega) ?_ | refine CwC.it rfl (by omega) ?_ | refine CwC.if rfl (by omega) ?_ | refine CwC.nt rfl (by omega) ?_ | refine CwC.nf rfl (by omega) ?_ | refine CwC.tt rfl ?_ | refine CwC.ff rfl ?_ | refine CwC.bt rfl (by assumption) ?_ | (refine CwC.bf rfl ?_ ?_; focus assumption))
              refine ⟨_, (by simp (disch := (first | omega | (simp only [lenS, lenT, UInt64.reduceToNat] ; try omega))) only [resVs_cons, resV_tmp, ↓getF_s, ↓getF_0, resVs_nil, cons2_some]; rfl), ?_⟩
              exact ⟨Ext.of_new hNE, ValsS.no (by rw [hv0]; exact logR_stop (g := g + 1) (by rw [hst, hn, if_neg (by simp; omega)]) k hlt)⟩
        · obtain rfl : g = k := by omega
          repeat' first | with_reducible (first | refine Cw.seq ?_ | refine thenK_normal ?_ | refine Ow.nil ?_) | ((with_reducible refine Cw.region (Ow.run rfl fun k hk => ?_)); simp (disch := (first | omega | (simp only [lenS, lenT, UInt64.reduceToNat] ; try omega))) only [↓vcL_none, ↓vcB_move, ↓ov_some, ↓ev_tmp, ↓getF_s, ↓getF_0, putF_some, setF_s, setF_0, nf_cons, ↓vcB_binOp, binX_vi_vi, bin_lss_i, ↓vcL_nil, Md.next_seq, ↓vcB_assign, ↓ev_const]; (with_reducible refine hk _ _ _ _ ?_); clear hk k) | with_reducible (first | refine Cw.block ?_ | refine Cw.skip ?_ | refine Cw.exit ?_ | refine Cw.ret ?_ | refine thenK_exit ?_ | refine thenK_ret ?_ | refine blockK_normal ?_ | refine blockK_ret ?_ | refine blockK_exit ?_ | refine blockK_pass rfl ?_) | ((with_reducible refine Cw.condC ?_); first | refine CwC.pt rfl (by omega) ?_ | refine CwC.pf rfl (by omega) ?_ | refine CwC.it rfl (by omega) ?_ | refine CwC.if rfl (by omega) ?_ | refine CwC.nt rfl (by omega) ?_ | refine CwC.nf rfl (by omega) ?_ | refine CwC.tt rfl ?_ | refine CwC.ff rfl ?_ | refine CwC.bt rfl (by assumption) ?_ | (refine CwC.bf rfl ?_ ?_; focus assumption))
          refine ⟨_, (by simp (disch := (first | omega | (simp only [lenS, lenT, UInt64.reduceToNat] ; try omega))) only [resVs_cons, resV_tmp, ↓getF_s, ↓getF_0, resVs_nil, cons2_some]; rfl), ?_⟩
          refine ⟨Ext.of_new hND, ?_⟩
          unfold ValsS
          rw [hv0, hlg]
          exact ⟨v, rfl, hGr⟩
    · have hd100 : decide ((100 : Int) < (l.length : Int)) = true := by simp; omega
      repeat' first | with_reducible (first | refine Cw.seq ?_ | refine thenK_normal ?_ | refine Ow.nil ?_) | ((with_reducible refine Cw.region (Ow.run rfl fun k hk => ?_)); simp (disch := (first | omega | (simp only [lenS, lenT, UInt64.reduceToNat] ; try omega))) only [↓vcL_none, ↓vcB_fieldAddr, Tryd.fl25_0, ↓ev_tmp, ↓getF_s, ↓getF_0, fieldAddr_p, Nat.add_zero, ↓ov_some, putF_some, setF_s, setF_0, nf_cons, ↓vcB_load, Md.next_seq, rd_seq_load, ↓ib_true, Tryd.ag23, loadAt_p, read_same, load_bk0, ↓vcB_len, Tryd.ix23, ht.len, ↓vcB_binOp, ↓ev_const, lit_i64, binX_vi_vi, bin_gtr_i, hd16, ↓vcB_move, ↓vcL_some, yieldF_lit, ↓nthO_s, ↓nthO_0, yieldL_some, boolOf_b, beq_self_eq_true, Tryd.fl25_1, Nat.zero_add, load_bk1, hl.len, hd100, ↓vcB_pick, pick_f, ↓vcL_nil, ↓vcB_assign]; (with_reducible refine hk _ _ _ _ ?_); clear hk k) | with_reducible (first | refine Cw.block ?_ | refine Cw.skip ?_ | refine Cw.exit ?_ | refine Cw.ret ?_ | refine thenK_exit ?_ | refine thenK_ret ?_ | refine blockK_normal ?_ | refine blockK_ret ?_ | refine blockK_exit ?_ | refine blockK_pass rfl ?_) | ((with_reducible refine Cw.condC ?_); first | refine CwC.pt rfl (by omega) ?_ | refine CwC.pf rfl (by omega) ?_ | refine CwC.it rfl (by omega) ?_ | refine CwC.if rfl (by omega) ?_ | refine CwC.nt rfl (by omega) ?_ | refine CwC.nf rfl (by omega) ?_ | refine CwC.tt rfl ?_ | refine CwC.ff rfl ?_ | refine CwC.bt rfl (by assumption) ?_ | (refine CwC.bf rfl ?_ ?_; focus assumption))
      refine ⟨_, (by simp (disch := (first | omega | (simp only [lenS, lenT, UInt64.reduceToNat] ; try omega))) only [resVs_cons, resV_tmp, ↓getF_s, ↓getF_0, resVs_nil, cons2_some]; rfl), ?_⟩
      exact ⟨Ext.of_new ⟨hwx, trivial⟩, ValsS.no (by unfold valR; rw [if_neg (fun h => h100 h.2.1)])⟩
  · have hd16 : decide ((16 : Int) < (t.length : Int)) = true := by simp; omega
    repeat' first | with_reducible (first | refine Cw.seq ?_ | refine thenK_normal ?_ | refine Ow.nil ?_) | ((with_reducible refine Cw.region (Ow.run rfl fun k hk => ?_)); simp (disch := (first | omega | (simp only [lenS, lenT, UInt64.reduceToNat] ; try omega))) only [↓vcL_none, ↓vcB_fieldAddr, Tryd.fl25_0, ↓ev_tmp, ↓getF_s, ↓getF_0, fieldAddr_p, Nat.add_zero, ↓ov_some, putF_some, setF_s, setF_0, nf_cons, ↓vcB_load, Md.next_seq, rd_seq_load, ↓ib_true, Tryd.ag23, loadAt_p, read_same, load_bk0, ↓vcB_len, Tryd.ix23, ht.len, ↓vcB_binOp, ↓ev_const, lit_i64, binX_vi_vi, bin_gtr_i, hd16, ↓vcB_move, ↓vcL_some, yieldF_lit, ↓nthO_s, ↓nthO_0, yieldL_some, boolOf_b, some_beq, beq_false, Bool.not_true, ↓ib_false, ↓vcB_pick, pick_t, ↓vcL_nil, ↓vcB_assign]; (with_reducible refine hk _ _ _ _ ?_); clear hk k) | with_reducible (first | refine Cw.block ?_ | refine Cw.skip ?_ | refine Cw.exit ?_ | refine Cw.ret ?_ | refine thenK_exit ?_ | refine thenK_ret ?_ | refine blockK_normal ?_ | refine blockK_ret ?_ | refine blockK_exit ?_ | refine blockK_pass rfl ?_) | ((with_reducible refine Cw.condC ?_); first | refine CwC.pt rfl (by omega) ?_ | refine CwC.pf rfl (by omega) ?_ | refine CwC.it rfl (by omega) ?_ | refine CwC.if rfl (by omega) ?_ | refine CwC.nt rfl (by omega) ?_ | refine CwC.nf rfl (by omega) ?_ | refine CwC.tt rfl ?_ | refine CwC.ff rfl ?_ | refine CwC.bt rfl (by assumption) ?_ | (refine CwC.bf rfl ?_ ?_; focus assumption))
    refine ⟨_, (by simp (disch := (first | omega | (simp only [lenS, lenT, UInt64.reduceToNat] ; try omega))) only [resVs_cons, resV_tmp, ↓getF_s, ↓getF_0, resVs_nil, cons2_some]; rfl), ?_⟩
    exact ⟨Ext.of_new ⟨hwx, trivial⟩, ValsS.no (by unfold valR; rw [if_neg (fun h => h16 h.1)])⟩
end Go.Proofs
open Go Go.Proofs Go.Sx Go.RefP
namespace Go.Proofs
set_option maxRecDepth 10000
set_option maxHeartbeats 4000000
set_option linter.unusedSimpArgs false
theorem refRight_spec (vt vl : Value) (t l : List RefL) (w : World) (ht : RefSl w vt t) (hl : RefSl w vl l) (htl : t.length < 1000000) (hll : l.length < 1000000) (hnt : ShortN t) (hnl : ShortN l) :
    Rets Tryd.prog 32 #[.agg #[vt, vl]] w (fun v D => v = .bool (rightB t l) ∧ D = []) := by
  refine Rets.enterV Tryd.func32 rfl (rs := [.tmp 2]) Tryd.results32 Tryd.ntmps32 ?_
  simp only [List.size_toArray, List.length_cons, List.length_nil, Nat.reduceAdd, Nat.reduceSub, List.replicate_succ, List.replicate_zero, List.cons_append, List.nil_append]
  repeat' first | with_reducible (first | refine Cw.seq ?_ | refine thenK_normal ?_ | refine Ow.nil ?_) | ((with_reducible refine Cw.region (Ow.run rfl fun k hk => ?_)); simp (disch := (first | omega | (simp only [lenS, lenT, UInt64.reduceToNat] ; try omega))) only [↓vcL_none, ↓vcB_box]; (with_reducible refine hk _ _ _ _ ?_); clear hk k) | with_reducible (first | refine Cw.block ?_ | refine Cw.skip ?_ | refine Cw.exit ?_ | refine Cw.ret ?_ | refine thenK_exit ?_ | refine thenK_ret ?_ | refine blockK_normal ?_ | refine blockK_ret ?_ | refine blockK_exit ?_ | refine blockK_pass rfl ?_) | ((with_reducible refine Cw.condC ?_); first | refine CwC.pt rfl (by omega) ?_ | refine CwC.pf rfl (by omega) ?_ | refine CwC.it rfl (by omega) ?_ | refine CwC.if rfl (by omega) ?_ | refine CwC.nt rfl (by omega) ?_ | refine CwC.nf rfl (by omega) ?_ | refine CwC.tt rfl ?_ | refine CwC.ff rfl ?_ | refine CwC.bt rfl (by assumption) ?_ | (refine CwC.bf rfl ?_ ?_; focus assumption))
  refine Ow.box rfl rfl fun bx hbx hwx => ?_
  simp only [ev_tmp, getF_0, getF_s, cells_agg, List.nil_append, List.cons_append]
  refine Ow.run rfl fun k hk => ?_
  simp (disch := (first | omega | (simp only [lenS, lenT, UInt64.reduceToNat] ; try omega))) only [↓vcL_none, ↓vcB_assign, ↓ov_some, putF_some, setF_s, setF_0, ↓ev_const, nf_cons, ↓vcL_nil, Md.next_seq]
  (with_reducible refine hk _ _ _ _ ?_); clear hk k
  repeat' first | with_reducible (first | refine Cw.seq ?_ | refine thenK_normal ?_ | refine Ow.nil ?_) | ((with_reducible refine Cw.region (Ow.run rfl fun k hk => ?_)); simp (disch := (first | omega | (simp only [lenS, lenT, UInt64.reduceToNat] ; try omega))) only [↓vcL_none, ↓vcB_load, rd_seq_load, ↓ib_true, Tryd.ag25, ↓ev_tmp, ↓getF_s, ↓getF_0, loadAt_p, read_same, load_bk, ↓ov_some, putF_some, setF_s, setF_0, nf_cons, ↓vcB_fieldAddr, Tryd.fl25_1, fieldAddr_p, Nat.zero_add, Md.next_seq, Tryd.ag23, load_bk1, ↓vcB_len, Tryd.ix23, hl.len, ↓vcB_call]; (with_reducible refine hk _ _ _ _ ?_); clear hk k) | with_reducible (first | refine Cw.block ?_ | refine Cw.skip ?_ | refine Cw.exit ?_ | refine Cw.ret ?_ | refine thenK_exit ?_ | refine thenK_ret ?_ | refine blockK_normal ?_ | refine blockK_ret ?_ | refine blockK_exit ?_ | refine blockK_pass rfl ?_) | ((with_reducible refine Cw.condC ?_); first | refine CwC.pt rfl (by omega) ?_ | refine CwC.pf rfl (by omega) ?_ | refine CwC.it rfl (by omega) ?_ | refine CwC.if rfl (by omega) ?_ | refine CwC.nt rfl (by omega) ?_ | refine CwC.nf rfl (by omega) ?_ | refine CwC.tt rfl ?_ | refine CwC.ff rfl ?_ | refine CwC.bt rfl (by assumption) ?_ | (refine CwC.bf rfl ?_ ?_; focus assumption))
  refine Ow.callC rfl rfl Tryd.call74 (fun w' hw' => Values_spec vt vl t l l.length w' (ht.oldN hw' ⟨hwx, trivial⟩) (hl.oldN hw' ⟨hwx, trivial⟩) htl hll (Nat.le_refl _) hnt hnl) (fun B v D hA hB hN hS => ?_)
  rw [← valR_right]
  unfold ValsS at hS
  cases ho : valR t l l.length with
  | none =>
    rw [ho] at hS
    simp only at hS
    subst hS
    refine Ow.run rfl fun k hk => ?_
    simp (disch := (first | omega | (simp only [lenS, lenT, UInt64.reduceToNat] ; try omega))) only [↓vcL_none, ↓vcB_move, ↓ov_some, putF_some, setF_s, setF_0, ↓ev_tmp, ↓getF_s, ↓getF_0, nf_cons, ↓vcB_extract, extract_t, tup2_0, tup2_1, ↓vcB_assign, ↓vcL_nil, Md.next_seq, List.cons_append, List.nil_append]
    (with_reducible refine hk _ _ _ _ ?_); clear hk k
    repeat' first | with_reducible (first | refine Cw.seq ?_ | refine thenK_normal ?_ | refine Ow.nil ?_) | ((with_reducible refine Cw.region (Ow.run rfl fun k hk => ?_)); simp (disch := (first | omega | (simp only [lenS, lenT, UInt64.reduceToNat] ; try omega))) only [↓vcL_none, ↓vcB_move, ↓ov_some, ↓ev_tmp, ↓getF_s, ↓getF_0, putF_some, setF_s, setF_0, nf_cons, ↓vcB_assign, ↓vcL_nil, Md.next_seq]; (with_reducible refine hk _ _ _ _ ?_); clear hk k) | with_reducible (first | refine Cw.block ?_ | refine Cw.skip ?_ | refine Cw.exit ?_ | refine Cw.ret ?_ | refine thenK_exit ?_ | refine thenK_ret ?_ | refine blockK_normal ?_ | refine blockK_ret ?_ | refine blockK_exit ?_ | refine blockK_pass rfl ?_) | ((with_reducible refine Cw.condC ?_); first | refine CwC.pt rfl (by omega) ?_ | refine CwC.pf rfl (by omega) ?_ | refine CwC.it rfl (by omega) ?_ | refine CwC.if rfl (by omega) ?_ | refine CwC.nt rfl (by omega) ?_ | refine CwC.nf rfl (by omega) ?_ | refine CwC.tt rfl ?_ | refine CwC.ff rfl ?_ | refine CwC.bt rfl (by assumption) ?_ | (refine CwC.bf rfl ?_ ?_; focus assumption))
    refine ⟨_, (by simp (disch := (first | omega | (simp only [lenS, lenT, UInt64.reduceToNat] ; try omega))) only [resVs_cons, resV_tmp, ↓getF_s, ↓getF_0, resVs_nil, cons2_some]; rfl), ⟨hwx, hN.mono hB⟩, ?_⟩
    rfl
  | some ls =>
    rw [ho] at hS
    obtain ⟨x, rfl, hG⟩ := hS
    refine Ow.run rfl fun k hk => ?_
    simp (disch := (first | omega | (simp only [lenS, lenT, UInt64.reduceToNat] ; try omega))) only [↓vcL_none, ↓vcB_move, ↓ov_some, putF_some, setF_s, setF_0, ↓ev_tmp, ↓getF_s, ↓getF_0, nf_cons, ↓vcB_extract, extract_t, tup2_0, tup2_1, ↓vcB_assign, ↓vcL_nil, Md.next_seq, List.cons_append, List.nil_append]
    (with_reducible refine hk _ _ _ _ ?_); clear hk k
    repeat' first | with_reducible (first | refine Cw.seq ?_ | refine thenK_normal ?_ | refine Ow.nil ?_) | ((with_reducible refine Cw.region (Ow.run rfl fun k hk => ?_)); simp (disch := (first | omega | (simp only [lenS, lenT, UInt64.reduceToNat] ; try omega))) only [↓vcL_none, ↓vcB_move, ↓ov_some, ↓ev_tmp, ↓getF_s, ↓getF_0, putF_some, setF_s, setF_0, nf_cons, ↓vcB_assign, ↓vcL_nil, Md.next_seq]; (with_reducible refine hk _ _ _ _ ?_); clear hk k) | with_reducible (first | refine Cw.block ?_ | refine Cw.skip ?_ | refine Cw.exit ?_ | refine Cw.ret ?_ | refine thenK_exit ?_ | refine thenK_ret ?_ | refine blockK_normal ?_ | refine blockK_ret ?_ | refine blockK_exit ?_ | refine blockK_pass rfl ?_) | ((with_reducible refine Cw.condC ?_); first | refine CwC.pt rfl (by omega) ?_ | refine CwC.pf rfl (by omega) ?_ | refine CwC.it rfl (by omega) ?_ | refine CwC.if rfl (by omega) ?_ | refine CwC.nt rfl (by omega) ?_ | refine CwC.nf rfl (by omega) ?_ | refine CwC.tt rfl ?_ | refine CwC.ff rfl ?_ | refine CwC.bt rfl (by assumption) ?_ | (refine CwC.bf rfl ?_ ?_; focus assumption))
    refine ⟨_, (by simp (disch := (first | omega | (simp only [lenS, lenT, UInt64.reduceToNat] ; try omega))) only [resVs_cons, resV_tmp, ↓getF_s, ↓getF_0, resVs_nil, cons2_some]; rfl), ⟨hwx, hN.mono hB⟩, ?_⟩
    rfl
/-- The bytes of a record that stands at a place, and where it ends. -/
def partR (s : List UInt8) (a : Nat) : List UInt8 × Nat × Bool :=
  let t := textR s a 0 65536
  if t.2.2 ≠ 0 then ([], 0, false) else ((unsealV t.1).1, t.2.1, (unsealV t.1).2)
theorem build_rd3 (s : List UInt8) (a : Int) : buildV (plcT Tryd.prog 90) (zeroV Tryd.prog 90) [(0, vs s), (1, vi a)] = some (.agg #[vs s, vi a, vi 0]) := by
  have hp : plcT Tryd.prog 90 = some [(0, 1), (1, 1), (2, 1)] := id (by kernel_rfl)
  have hz : zeroV Tryd.prog 90 = some (.agg #[vs [], vi 0, vi 0]) := id (by kernel_rfl)
  rw [hp, hz]; rfl
theorem part_spec (s : List UInt8) (a : Nat) (w : World) (ha : a ≤ s.length) (hs : s.length < 1099511627776) :
    Rets Tryd.prog 48 #[vs s, vi a] w (fun v D => v = .tuple #[vs (partR s a).1, vi (partR s a).2.1, .bool (partR s a).2.2] ∧ D = []) := by
  have htl := textR_len (a := a) (e := 0) (most := 65536) hs
  refine Rets.enterV Tryd.func48 rfl (rs := [.tmp 4, .tmp 5, .tmp 6]) Tryd.results48 Tryd.ntmps48 ?_
  simp only [List.size_toArray, List.length_cons, List.length_nil, Nat.reduceAdd, Nat.reduceSub, List.replicate_succ, List.replicate_zero, List.cons_append, List.nil_append]
  repeat' first | with_reducible (first | refine Cw.seq ?_ | refine thenK_normal ?_ | refine Ow.nil ?_) | ((with_reducible refine Cw.region (Ow.run rfl fun k hk => ?_)); simp (disch := (first | omega | (simp only [lenS, lenT, UInt64.reduceToNat] ; try omega))) only [↓vcL_none, ↓vcB_assign, ↓ov_some, ↓ev_const, lit_str, putF_some, setF_s, setF_0, nf_cons, lit_i64, ↓vcL_nil, Md.next_seq, ↓vcB_move, ↓ev_tmp, ↓getF_0, ↓getF_s, ↓vcB_build]; (with_reducible refine hk _ _ _ _ ?_); clear hk k) | with_reducible (first | refine Cw.block ?_ | refine Cw.skip ?_ | refine Cw.exit ?_ | refine Cw.ret ?_ | refine thenK_exit ?_ | refine thenK_ret ?_ | refine blockK_normal ?_ | refine blockK_ret ?_ | refine blockK_exit ?_ | refine blockK_pass rfl ?_) | ((with_reducible refine Cw.condC ?_); first | refine CwC.pt rfl (by omega) ?_ | refine CwC.pf rfl (by omega) ?_ | refine CwC.it rfl (by omega) ?_ | refine CwC.if rfl (by omega) ?_ | refine CwC.nt rfl (by omega) ?_ | refine CwC.nf rfl (by omega) ?_ | refine CwC.tt rfl ?_ | refine CwC.ff rfl ?_ | refine CwC.bt rfl (by assumption) ?_ | (refine CwC.bf rfl ?_ ?_; focus assumption))
  refine Ow.build (.agg #[vs s, vi a, vi 0]) rfl (build_rd3 s a) ?_
  refine Ow.run rfl fun k hk => ?_
  simp (disch := (first | omega | (simp only [lenS, lenT, UInt64.reduceToNat] ; try omega))) only [↓vcL_none, ↓vcB_box, Md.next_seq, putF_some, setF_s, setF_0]
  (with_reducible refine hk _ _ _ _ ?_); clear hk k
  refine Ow.box rfl rfl fun b7 hb7 hw7 => ?_
  simp only [ev_tmp, getF_0, getF_s, cells_agg, List.nil_append, List.cons_append]
  refine Ow.run rfl fun k hk => ?_
  simp (disch := (first | omega | (simp only [lenS, lenT, UInt64.reduceToNat] ; try omega))) only [↓vcL_none, ↓vcB_assign, ↓ov_some, putF_some, setF_s, setF_0, ↓ev_tmp, ↓getF_s, ↓getF_0, nf_cons, ↓vcL_nil, Md.next_seq]
  (with_reducible refine hk _ _ _ _ ?_); clear hk k
  repeat' first | with_reducible (first | refine Cw.seq ?_ | refine thenK_normal ?_ | refine Ow.nil ?_) | ((with_reducible refine Cw.region (Ow.run rfl fun k hk => ?_)); simp (disch := (first | omega | (simp only [lenS, lenT, UInt64.reduceToNat] ; try omega))) only [↓vcL_none, ↓vcB_move, ↓ov_some, ↓ev_tmp, ↓getF_s, ↓getF_0, putF_some, setF_s, setF_0, nf_cons, ↓vcB_call, Md.next_seq, lit_i64]; (with_reducible refine hk _ _ _ _ ?_); clear hk k) | with_reducible (first | refine Cw.block ?_ | refine Cw.skip ?_ | refine Cw.exit ?_ | refine Cw.ret ?_ | refine thenK_exit ?_ | refine thenK_ret ?_ | refine blockK_normal ?_ | refine blockK_ret ?_ | refine blockK_exit ?_ | refine blockK_pass rfl ?_) | ((with_reducible refine Cw.condC ?_); first | refine CwC.pt rfl (by omega) ?_ | refine CwC.pf rfl (by omega) ?_ | refine CwC.it rfl (by omega) ?_ | refine CwC.if rfl (by omega) ?_ | refine CwC.nt rfl (by omega) ?_ | refine CwC.nf rfl (by omega) ?_ | refine CwC.tt rfl ?_ | refine CwC.ff rfl ?_ | refine CwC.bt rfl (by assumption) ?_ | (refine CwC.bf rfl ?_ ?_; focus assumption))
  refine Ow.callM rfl rfl Tryd.call50 (by simp [keys]) (fun w' hw' => refText_spec b7 s a 0 65536 w' ha hs (hw'.has _ _ List.mem_cons_self)) ?_
  simp (disch := (first | omega | (simp only [lenS, lenT, UInt64.reduceToNat] ; try omega))) only [setB_same]
  unfold partR
  have hle := textR_le (e := 0) (most := 65536) ha
  generalize textR s a 0 65536 = p at *
  obtain ⟨t, to, e⟩ := p
  simp only at htl hle ⊢
  by_cases he : e = 0
  · rw [if_neg (by simpa using he)]
    have hb : (e != 0) = false := by simpa using he
    refine Ow.run rfl fun k hk => ?_
    simp (disch := (first | omega | (simp only [lenS, lenT, UInt64.reduceToNat] ; try omega))) only [↓vcL_none, ↓vcB_assign, ↓ov_some, putF_some, setF_s, setF_0, ↓ev_tmp, ↓getF_s, ↓getF_0, nf_cons, ↓vcL_nil, Md.next_seq]
    (with_reducible refine hk _ _ _ _ ?_); clear hk k
    repeat' first | with_reducible (first | refine Cw.seq ?_ | refine thenK_normal ?_ | refine Ow.nil ?_) | ((with_reducible refine Cw.region (Ow.run rfl fun k hk => ?_)); simp (disch := (first | omega | (simp only [lenS, lenT, UInt64.reduceToNat] ; try omega))) only [↓vcL_none, ↓vcB_move, ↓ov_some, ↓ev_tmp, ↓getF_s, ↓getF_0, putF_some, setF_s, setF_0, nf_cons, ↓vcB_nilCheck, nil_p, ↓vcB_fieldAddr, Tryd.fl90_2, fieldAddr_p, Nat.zero_add, ↓vcB_load, Md.next_seq, rd_seq_load, ↓ib_true, Tryd.ag3, loadAt_p, read_same, load_rd2, ↓vcB_binOp, ↓ev_const, lit_i64, binX_vi_vi, bin_neq_i, hb, ↓vcL_nil, ↓vcB_call]; (with_reducible refine hk _ _ _ _ ?_); clear hk k) | with_reducible (first | refine Cw.block ?_ | refine Cw.skip ?_ | refine Cw.exit ?_ | refine Cw.ret ?_ | refine thenK_exit ?_ | refine thenK_ret ?_ | refine blockK_normal ?_ | refine blockK_ret ?_ | refine blockK_exit ?_ | refine blockK_pass rfl ?_) | ((with_reducible refine Cw.condC ?_); first | refine CwC.pt rfl (by omega) ?_ | refine CwC.pf rfl (by omega) ?_ | refine CwC.it rfl (by omega) ?_ | refine CwC.if rfl (by omega) ?_ | refine CwC.nt rfl (by omega) ?_ | refine CwC.nf rfl (by omega) ?_ | refine CwC.tt rfl ?_ | refine CwC.ff rfl ?_ | refine CwC.bt rfl (by assumption) ?_ | (refine CwC.bf rfl ?_ ?_; focus assumption))
    refine Ow.callFV rfl Tryd.call88 (fun w' hw' => refUnseal_spec t w' htl) ?_
    generalize unsealV t = u
    obtain ⟨u, ok⟩ := u
    simp only
    refine Ow.run rfl fun k hk => ?_
    simp (disch := (first | omega | (simp only [lenS, lenT, UInt64.reduceToNat] ; try omega))) only [↓vcL_none, ↓vcB_move, ↓ov_some, putF_some, setF_s, setF_0, ↓ev_tmp, ↓getF_s, ↓getF_0, nf_cons, ↓vcB_extract, extract_t, tup2_0, tup2_1, ↓vcB_assign, ↓vcL_nil, Md.next_seq]
    (with_reducible refine hk _ _ _ _ ?_); clear hk k
    repeat' first | with_reducible (first | refine Cw.seq ?_ | refine thenK_normal ?_ | refine Ow.nil ?_) | ((with_reducible refine Cw.region (Ow.run rfl fun k hk => ?_)); simp (disch := (first | omega | (simp only [lenS, lenT, UInt64.reduceToNat] ; try omega))) only []; (with_reducible refine hk _ _ _ _ ?_); clear hk k) | with_reducible (first | refine Cw.block ?_ | refine Cw.skip ?_ | refine Cw.exit ?_ | refine Cw.ret ?_ | refine thenK_exit ?_ | refine thenK_ret ?_ | refine blockK_normal ?_ | refine blockK_ret ?_ | refine blockK_exit ?_ | refine blockK_pass rfl ?_) | ((with_reducible refine Cw.condC ?_); first | refine CwC.pt rfl (by omega) ?_ | refine CwC.pf rfl (by omega) ?_ | refine CwC.it rfl (by omega) ?_ | refine CwC.if rfl (by omega) ?_ | refine CwC.nt rfl (by omega) ?_ | refine CwC.nf rfl (by omega) ?_ | refine CwC.tt rfl ?_ | refine CwC.ff rfl ?_ | refine CwC.bt rfl (by assumption) ?_ | (refine CwC.bf rfl ?_ ?_; focus assumption))
    refine Cw.regionS [b7] [0, 1, 2, 3, 5, 6, 4, 7, 8] [] (by kernel_rfl) (by kernel_rfl) (by kernel_rfl) ?_
    simp only [nl_cons, ↓pickL_nil, ↓pickL_cons, ↓nthO_0, ↓nthO_s, consO_some]
    refine Ow.runQ fun k hk => ?_
    simp (disch := (first | omega | (simp only [lenS, lenT, UInt64.reduceToNat] ; try omega))) only [↓vcL_none, ↓vcB_move, ↓ov_some, ↓ev_tmp, ↓getF_s, ↓getF_0, putF_some, setF_s, setF_0, nf_cons, ↓vcB_nilCheck, nil_p, ↓vcB_fieldAddr, Tryd.fl90_1, fieldAddr_p, Nat.zero_add, ↓vcB_assign, ↓vcB_load, Md.next_sof, List.contains_nil, Bool.false_eq_true, ↓reduceIte, ↓rd_sof_load, rdIn_p, List.contains_cons, beq_self_eq_true, Bool.or_false, ↓ib_true, Tryd.ag3, loadAt_p, read_same, load_rd1, ↓vcL_nil]
    (with_reducible refine hk _ _ _ _ ?_); clear hk k
    with_reducible refine Ow.nil ?_
    repeat' first | with_reducible (first | refine Cw.seq ?_ | refine thenK_normal ?_ | refine Ow.nil ?_) | ((with_reducible refine Cw.region (Ow.run rfl fun k hk => ?_)); simp (disch := (first | omega | (simp only [lenS, lenT, UInt64.reduceToNat] ; try omega))) only []; (with_reducible refine hk _ _ _ _ ?_); clear hk k) | with_reducible (first | refine Cw.block ?_ | refine Cw.skip ?_ | refine Cw.exit ?_ | refine Cw.ret ?_ | refine thenK_exit ?_ | refine thenK_ret ?_ | refine blockK_normal ?_ | refine blockK_ret ?_ | refine blockK_exit ?_ | refine blockK_pass rfl ?_) | ((with_reducible refine Cw.condC ?_); first | refine CwC.pt rfl (by omega) ?_ | refine CwC.pf rfl (by omega) ?_ | refine CwC.it rfl (by omega) ?_ | refine CwC.if rfl (by omega) ?_ | refine CwC.nt rfl (by omega) ?_ | refine CwC.nf rfl (by omega) ?_ | refine CwC.tt rfl ?_ | refine CwC.ff rfl ?_ | refine CwC.bt rfl (by assumption) ?_ | (refine CwC.bf rfl ?_ ?_; focus assumption))
    refine ⟨_, (by simp (disch := (first | omega | (simp only [lenS, lenT, UInt64.reduceToNat] ; try omega))) only [resVs_cons, resV_tmp, ↓getF_s, ↓getF_0, resVs_nil, cons2_some]; rfl), ⟨hw7, trivial⟩, ?_⟩
    rfl
  · rw [if_pos (by simpa using he)]
    have hb : (e != 0) = true := by simpa using he
    refine Ow.run rfl fun k hk => ?_
    simp (disch := (first | omega | (simp only [lenS, lenT, UInt64.reduceToNat] ; try omega))) only [↓vcL_none, ↓vcB_assign, ↓ov_some, putF_some, setF_s, setF_0, ↓ev_tmp, ↓getF_s, ↓getF_0, nf_cons, ↓vcL_nil, Md.next_seq]
    (with_reducible refine hk _ _ _ _ ?_); clear hk k
    repeat' first | with_reducible (first | refine Cw.seq ?_ | refine thenK_normal ?_ | refine Ow.nil ?_) | ((with_reducible refine Cw.region (Ow.run rfl fun k hk => ?_)); simp (disch := (first | omega | (simp only [lenS, lenT, UInt64.reduceToNat] ; try omega))) only [↓vcL_none, ↓vcB_move, ↓ov_some, ↓ev_tmp, ↓getF_s, ↓getF_0, putF_some, setF_s, setF_0, nf_cons, ↓vcB_nilCheck, nil_p, ↓vcB_fieldAddr, Tryd.fl90_2, fieldAddr_p, Nat.zero_add, ↓vcB_load, Md.next_seq, rd_seq_load, ↓ib_true, Tryd.ag3, loadAt_p, read_same, load_rd2, ↓vcB_binOp, ↓ev_const, lit_i64, binX_vi_vi, bin_neq_i, hb, ↓vcL_nil, ↓vcB_assign, lit_str]; (with_reducible refine hk _ _ _ _ ?_); clear hk k) | with_reducible (first | refine Cw.block ?_ | refine Cw.skip ?_ | refine Cw.exit ?_ | refine Cw.ret ?_ | refine thenK_exit ?_ | refine thenK_ret ?_ | refine blockK_normal ?_ | refine blockK_ret ?_ | refine blockK_exit ?_ | refine blockK_pass rfl ?_) | ((with_reducible refine Cw.condC ?_); first | refine CwC.pt rfl (by omega) ?_ | refine CwC.pf rfl (by omega) ?_ | refine CwC.it rfl (by omega) ?_ | refine CwC.if rfl (by omega) ?_ | refine CwC.nt rfl (by omega) ?_ | refine CwC.nf rfl (by omega) ?_ | refine CwC.tt rfl ?_ | refine CwC.ff rfl ?_ | refine CwC.bt rfl (by assumption) ?_ | (refine CwC.bf rfl ?_ ?_; focus assumption))
    refine ⟨_, (by simp (disch := (first | omega | (simp only [lenS, lenT, UInt64.reduceToNat] ; try omega))) only [resVs_cons, resV_tmp, ↓getF_s, ↓getF_0, resVs_nil, cons2_some]; rfl), ⟨hw7, trivial⟩, ?_⟩
    rfl
theorem SameRefsV_spec (x y : Value) (l1 l2 : List RefL) (w : World) (h1 : RefSl w x l1) (h2 : RefSl w y l2) (hl1 : l1.length < 1000000) (hl2 : l2.length < 1000000) :
    Rets Tryd.prog 38 #[x, y] w (fun v D => v = .bool (sameR l1 l2) ∧ D = []) := by
  obtain ⟨b1, o1, a1, E1, f1, r1⟩ := h1.row
  obtain ⟨b2, o2, a2, E2, f2, r2⟩ := h2.row
  exact SameRefs_spec x y b1 o1 b2 o2 l1 l2 a1 a2 E1 E2 f1 f2 w r1 r2 hl1 hl2
/-- The same books? -/
theorem Same_spec (vt vl ut ul : Value) (t l t2 l2 : List RefL) (w : World) (ht : RefSl w vt t) (hl : RefSl w vl l) (ht2 : RefSl w ut t2) (hl2 : RefSl w ul l2) (h1 : t.length < 1000000) (h2 : l.length < 1000000) (h3 : t2.length < 1000000) (h4 : l2.length < 1000000) :
    Rets Tryd.prog 11 #[.agg #[vt, vl], .agg #[ut, ul]] w (fun v D => v = .bool (sameR t t2 && sameR l l2) ∧ D = []) := by
  refine Rets.enterV Tryd.func11 rfl (rs := [.tmp 4]) Tryd.results11 Tryd.ntmps11 ?_
  simp only [List.size_toArray, List.length_cons, List.length_nil, Nat.reduceAdd, Nat.reduceSub, List.replicate_succ, List.replicate_zero, List.cons_append, List.nil_append]
  repeat' first | with_reducible (first | refine Cw.seq ?_ | refine thenK_normal ?_ | refine Ow.nil ?_) | ((with_reducible refine Cw.region (Ow.run rfl fun k hk => ?_)); simp (disch := (first | omega | (simp only [lenS, lenT, UInt64.reduceToNat] ; try omega))) only [↓vcL_none, ↓vcB_box]; (with_reducible refine hk _ _ _ _ ?_); clear hk k) | with_reducible (first | refine Cw.block ?_ | refine Cw.skip ?_ | refine Cw.exit ?_ | refine Cw.ret ?_ | refine thenK_exit ?_ | refine thenK_ret ?_ | refine blockK_normal ?_ | refine blockK_ret ?_ | refine blockK_exit ?_ | refine blockK_pass rfl ?_) | ((with_reducible refine Cw.condC ?_); first | refine CwC.pt rfl (by omega) ?_ | refine CwC.pf rfl (by omega) ?_ | refine CwC.it rfl (by omega) ?_ | refine CwC.if rfl (by omega) ?_ | refine CwC.nt rfl (by omega) ?_ | refine CwC.nf rfl (by omega) ?_ | refine CwC.tt rfl ?_ | refine CwC.ff rfl ?_ | refine CwC.bt rfl (by assumption) ?_ | (refine CwC.bf rfl ?_ ?_; focus assumption))
  refine Ow.box rfl rfl fun bx hbx hwx => ?_
  simp only [ev_tmp, getF_0, getF_s, cells_agg, List.nil_append, List.cons_append]
  refine Ow.run rfl fun k hk => ?_
  simp (disch := (first | omega | (simp only [lenS, lenT, UInt64.reduceToNat] ; try omega))) only [↓vcL_none, ↓vcB_box, putF_some, setF_s, setF_0]
  (with_reducible refine hk _ _ _ _ ?_); clear hk k
  refine Ow.box rfl rfl fun by_ hby hwy => ?_
  simp only [ev_tmp, getF_0, getF_s, cells_agg, List.nil_append, List.cons_append]
  refine Ow.run rfl fun k hk => ?_
  simp (disch := (first | omega | (simp only [lenS, lenT, UInt64.reduceToNat] ; try omega))) only [↓vcL_none, ↓vcB_assign, ↓ov_some, putF_some, setF_s, setF_0, ↓ev_const, nf_cons, ↓vcL_nil, Md.next_seq]
  (with_reducible refine hk _ _ _ _ ?_); clear hk k
  obtain ⟨hxy, -⟩ := hby
  repeat' first | with_reducible (first | refine Cw.seq ?_ | refine thenK_normal ?_ | refine Ow.nil ?_) | ((with_reducible refine Cw.region (Ow.run rfl fun k hk => ?_)); simp (disch := (first | omega | (simp only [lenS, lenT, UInt64.reduceToNat] ; try omega))) only [↓vcL_none, ↓vcB_fieldAddr, Tryd.fl25_0, ↓ev_tmp, ↓getF_s, ↓getF_0, fieldAddr_p, Nat.add_zero, ↓ov_some, putF_some, setF_s, setF_0, nf_cons, ↓vcB_load, Md.next_seq, rd_seq_load, ↓ib_true, Tryd.ag23, loadAt_p, read_same, load_bk0, read_other, ↓vcB_call]; (with_reducible refine hk _ _ _ _ ?_); clear hk k) | with_reducible (first | refine Cw.block ?_ | refine Cw.skip ?_ | refine Cw.exit ?_ | refine Cw.ret ?_ | refine thenK_exit ?_ | refine thenK_ret ?_ | refine blockK_normal ?_ | refine blockK_ret ?_ | refine blockK_exit ?_ | refine blockK_pass rfl ?_) | ((with_reducible refine Cw.condC ?_); first | refine CwC.pt rfl (by omega) ?_ | refine CwC.pf rfl (by omega) ?_ | refine CwC.it rfl (by omega) ?_ | refine CwC.if rfl (by omega) ?_ | refine CwC.nt rfl (by omega) ?_ | refine CwC.nf rfl (by omega) ?_ | refine CwC.tt rfl ?_ | refine CwC.ff rfl ?_ | refine CwC.bt rfl (by assumption) ?_ | (refine CwC.bf rfl ?_ ?_; focus assumption))
  refine Ow.callFV rfl Tryd.call38 (fun w' hw' => SameRefsV_spec vt ut t t2 w' (ht.oldN hw' ⟨hwx, hwy, trivial⟩) (ht2.oldN hw' ⟨hwx, hwy, trivial⟩) h1 h3) ?_
  cases sameR t t2
  · refine Ow.run rfl fun k hk => ?_
    simp (disch := (first | omega | (simp only [lenS, lenT, UInt64.reduceToNat] ; try omega))) only [↓vcL_none, ↓vcB_move, ↓ov_some, putF_some, setF_s, setF_0, ↓ev_tmp, ↓getF_s, ↓getF_0, nf_cons, ↓vcL_some, yieldF_lit, ↓nthO_s, ↓nthO_0, yieldL_some, boolOf_b, some_beq, beq_true, ↓ib_false, ↓vcB_pick, ↓ev_const, pick_f, ↓vcB_assign, ↓vcL_nil, Md.next_seq]
    (with_reducible refine hk _ _ _ _ ?_); clear hk k
    repeat' first | with_reducible (first | refine Cw.seq ?_ | refine thenK_normal ?_ | refine Ow.nil ?_) | ((with_reducible refine Cw.region (Ow.run rfl fun k hk => ?_)); simp (disch := (first | omega | (simp only [lenS, lenT, UInt64.reduceToNat] ; try omega))) only []; (with_reducible refine hk _ _ _ _ ?_); clear hk k) | with_reducible (first | refine Cw.block ?_ | refine Cw.skip ?_ | refine Cw.exit ?_ | refine Cw.ret ?_ | refine thenK_exit ?_ | refine thenK_ret ?_ | refine blockK_normal ?_ | refine blockK_ret ?_ | refine blockK_exit ?_ | refine blockK_pass rfl ?_) | ((with_reducible refine Cw.condC ?_); first | refine CwC.pt rfl (by omega) ?_ | refine CwC.pf rfl (by omega) ?_ | refine CwC.it rfl (by omega) ?_ | refine CwC.if rfl (by omega) ?_ | refine CwC.nt rfl (by omega) ?_ | refine CwC.nf rfl (by omega) ?_ | refine CwC.tt rfl ?_ | refine CwC.ff rfl ?_ | refine CwC.bt rfl (by assumption) ?_ | (refine CwC.bf rfl ?_ ?_; focus assumption))
    refine ⟨_, (by simp (disch := (first | omega | (simp only [lenS, lenT, UInt64.reduceToNat] ; try omega))) only [resVs_cons, resV_tmp, ↓getF_s, ↓getF_0, resVs_nil, cons2_some]; rfl), ⟨hwx, hwy, trivial⟩, ?_⟩
    rfl
  · refine Ow.run rfl fun k hk => ?_
    simp (disch := (first | omega | (simp only [lenS, lenT, UInt64.reduceToNat] ; try omega))) only [↓vcL_none, ↓vcB_move, ↓ov_some, putF_some, setF_s, setF_0, ↓ev_tmp, ↓getF_s, ↓getF_0, nf_cons, ↓vcL_some, yieldF_lit, ↓nthO_s, ↓nthO_0, yieldL_some, boolOf_b, beq_self_eq_true, ↓ib_true, ↓vcB_fieldAddr, Tryd.fl25_1, fieldAddr_p, Nat.zero_add, ↓vcB_load, Md.next_seq, rd_seq_load, Tryd.ag23, loadAt_p, read_same, load_bk1, read_other, ↓vcB_call]
    (with_reducible refine hk _ _ _ _ ?_); clear hk k
    repeat' first | with_reducible (first | refine Cw.seq ?_ | refine thenK_normal ?_ | refine Ow.nil ?_) | ((with_reducible refine Cw.region (Ow.run rfl fun k hk => ?_)); simp (disch := (first | omega | (simp only [lenS, lenT, UInt64.reduceToNat] ; try omega))) only []; (with_reducible refine hk _ _ _ _ ?_); clear hk k) | with_reducible (first | refine Cw.block ?_ | refine Cw.skip ?_ | refine Cw.exit ?_ | refine Cw.ret ?_ | refine thenK_exit ?_ | refine thenK_ret ?_ | refine blockK_normal ?_ | refine blockK_ret ?_ | refine blockK_exit ?_ | refine blockK_pass rfl ?_) | ((with_reducible refine Cw.condC ?_); first | refine CwC.pt rfl (by omega) ?_ | refine CwC.pf rfl (by omega) ?_ | refine CwC.it rfl (by omega) ?_ | refine CwC.if rfl (by omega) ?_ | refine CwC.nt rfl (by omega) ?_ | refine CwC.nf rfl (by omega) ?_ | refine CwC.tt rfl ?_ | refine CwC.ff rfl ?_ | refine CwC.bt rfl (by assumption) ?_ | (refine CwC.bf rfl ?_ ?_; focus assumption))
    refine Ow.callFV rfl Tryd.call38 (fun w' hw' => SameRefsV_spec vl ul l l2 w' (hl.oldN hw' ⟨hwx, hwy, trivial⟩) (hl2.oldN hw' ⟨hwx, hwy, trivial⟩) h2 h4) ?_
    refine Ow.run rfl fun k hk => ?_
    simp (disch := (first | omega | (simp only [lenS, lenT, UInt64.reduceToNat] ; try omega))) only [↓vcL_none, ↓vcB_pick, ↓ev_tmp, putF_some, setF_s, setF_0, ↓getF_s, ↓getF_0, ↓ev_const, pick_t, ↓ov_some, nf_cons, ↓vcB_assign, ↓vcL_nil, Md.next_seq]
    (with_reducible refine hk _ _ _ _ ?_); clear hk k
    repeat' first | with_reducible (first | refine Cw.seq ?_ | refine thenK_normal ?_ | refine Ow.nil ?_) | ((with_reducible refine Cw.region (Ow.run rfl fun k hk => ?_)); simp (disch := (first | omega | (simp only [lenS, lenT, UInt64.reduceToNat] ; try omega))) only []; (with_reducible refine hk _ _ _ _ ?_); clear hk k) | with_reducible (first | refine Cw.block ?_ | refine Cw.skip ?_ | refine Cw.exit ?_ | refine Cw.ret ?_ | refine thenK_exit ?_ | refine thenK_ret ?_ | refine blockK_normal ?_ | refine blockK_ret ?_ | refine blockK_exit ?_ | refine blockK_pass rfl ?_) | ((with_reducible refine Cw.condC ?_); first | refine CwC.pt rfl (by omega) ?_ | refine CwC.pf rfl (by omega) ?_ | refine CwC.it rfl (by omega) ?_ | refine CwC.if rfl (by omega) ?_ | refine CwC.nt rfl (by omega) ?_ | refine CwC.nf rfl (by omega) ?_ | refine CwC.tt rfl ?_ | refine CwC.ff rfl ?_ | refine CwC.bt rfl (by assumption) ?_ | (refine CwC.bf rfl ?_ ?_; focus assumption))
    refine ⟨_, (by simp (disch := (first | omega | (simp only [lenS, lenT, UInt64.reduceToNat] ; try omega))) only [resVs_cons, resV_tmp, ↓getF_s, ↓getF_0, resVs_nil, cons2_some]; rfl), ⟨hwx, hwy, trivial⟩, ?_⟩
    rfl
end Go.Proofs
