/-
  Part 4 of the walk: contracts of the functions that the law reaches, and the calculus they stand on.
  No conditions.
-/
import Derived.Test.YtooklcgflocbcaaDoorP3
import Derived.ProofKit
import Derived.OpenShut
import Derived.WideKeyArgs
import Derived.ChangeSame
import Derived.ChangeMaps5
import Derived.Lib.LaidTab
import Derived.SliceStrings
import Derived.DataReads
import Derived.Deep.Strs
section
open Go Go.Proofs Go.Sx Go.StP Go.Flo
namespace Go.Proofs
set_option maxRecDepth 10000
set_option maxHeartbeats 400000
set_option linter.unusedSimpArgs false
/-! ### Objects and parts, compared -/
theorem eqDi (a b : Int) : eqD Tryd.prog 7 3 (vi a) (vi b) = some (a == b) := by unfold eqD; rw [Tryd.underlying3]; rfl
theorem eqDs (a b : List UInt8) : eqD Tryd.prog 7 9 (vs a) (vs b) = some (a == b) := by unfold eqD; rw [Tryd.underlying9]; simp only [vs, bs_beq]
theorem eqDb (a b : Bool) : eqD Tryd.prog 7 4 (.bool a) (.bool b) = some (a == b) := by unfold eqD; rw [Tryd.underlying4]; rfl
theorem agI : aggT Tryd.prog 3 = some (false, 1) := id (by kernel_rfl)
theorem agS : aggT Tryd.prog 9 = some (false, 1) := id (by kernel_rfl)
theorem agB : aggT Tryd.prog 4 = some (false, 1) := id (by kernel_rfl)
theorem eqDOb (a b : ObL) : eqD Tryd.prog 8 36 (obV a.k a.t) (obV b.k b.t) = some (decide (a = b)) := by
  have p0 : ∀ o : ObL, Sx.partV (false, 1) #[vi o.k, vs o.t] 0 = some (vi o.k) := fun _ => rfl
  have p1 : ∀ o : ObL, Sx.partV (false, 1) #[vi o.k, vs o.t] 1 = some (vs o.t) := fun _ => rfl
  unfold eqD obV
  rw [Tryd.underlying36]
  simp only
  rw [show Tryd.prog.stoodInHeld 36 = false by kernel_rfl]
  simp only [Bool.false_eq_true, ↓reduceIte, eqFieldsV, eqPartV, agI, agS, p0, p1, eqDi, eqDs]
  obtain ⟨k, t⟩ := a
  obtain ⟨k', t'⟩ := b
  have e : decide ((⟨k, t⟩ : ObL) = ⟨k', t'⟩) = ((k == k') && (t == t')) := by rw [Bool.eq_iff_iff]; simp
  rw [e]
  cases (k == k') <;> cases (t == t') <;> rfl
theorem eqObC (a b : ObL) : binX Tryd.prog .eql 36 (obV a.k a.t) (obV b.k b.t) = some (.bool (decide (a = b))) := by
  have h := eqDOb a b
  unfold binX eqX obV at *; rw [show Tryd.prog.eqGuardType Tryd.prog.depth 36 = false by kernel_rfl]; simp [plainV, h]
theorem neObC (a b : ObL) : binX Tryd.prog .neq 36 (obV a.k a.t) (obV b.k b.t) = some (.bool (!decide (a = b))) := by
  have h := eqDOb a b
  unfold binX eqX obV at *; rw [show Tryd.prog.eqGuardType Tryd.prog.depth 36 = false by kernel_rfl]; simp [plainV, h]
instance : DecidableEq PartL := fun a b => if h : a.d = b.d ∧ a.b = b.b ∧ a.x = b.x then .isTrue (by cases a; cases b; simp only at h; obtain ⟨rfl, rfl, rfl⟩ := h; rfl) else .isFalse (fun e => h (by rw [e]; exact ⟨rfl, rfl, rfl⟩))
theorem eqDPart (a b : PartL) : eqD Tryd.prog 8 68 (.agg (partC a).toArray) (.agg (partC b).toArray) = some (decide (a = b)) := by
  have p0 : ∀ o : PartL, Sx.partV (false, 1) (partC o).toArray 0 = some (.bool o.d) := fun _ => rfl
  have p1 : ∀ o : PartL, Sx.partV (false, 1) (partC o).toArray 1 = some (vi o.b) := fun _ => rfl
  have p2 : ∀ o : PartL, Sx.partV (false, 1) (partC o).toArray 2 = some (vs o.x) := fun _ => rfl
  unfold eqD
  rw [Tryd.underlying68]
  simp only
  rw [show Tryd.prog.stoodInHeld 68 = false by kernel_rfl]
  simp only [Bool.false_eq_true, ↓reduceIte, eqFieldsV, eqPartV, agI, agS, agB, p0, p1, p2, eqDi, eqDs, eqDb]
  obtain ⟨d, k, t⟩ := a
  obtain ⟨d', k', t'⟩ := b
  have e : decide ((⟨d, k, t⟩ : PartL) = ⟨d', k', t'⟩) = ((d == d') && ((k == k') && (t == t'))) := by rw [Bool.eq_iff_iff]; simp
  rw [e]
  simp only [ne_eq, String.reduceEq, not_false_eq_true, ↓reduceIte]
  cases (d == d') <;> cases (k == k') <;> cases (t == t') <;> rfl
theorem nePartC (a b : PartL) : binX Tryd.prog .neq 68 (.agg (partC a).toArray) (.agg (partC b).toArray) = some (.bool (!decide (a = b))) := by
  have h := eqDPart a b
  unfold binX eqX; rw [show Tryd.prog.eqGuardType Tryd.prog.depth 68 = false by kernel_rfl]; simp [plainV, h]
/-- The first place of an object. -/
def idxO (x : ObL) : List ObL → Nat → Int
  | [], _ => -1
  | y :: r, i => if x = y then (i : Int) else idxO x r (i + 1)
theorem idxO_any (x : ObL) : ∀ (l : List ObL) (i : Nat), decide (0 ≤ idxO x l i) = decide (x ∈ l)
  | [], _ => rfl
  | y :: r, i => by
    unfold idxO
    by_cases h : x = y
    · rw [if_pos h, decide_eq_true (show (0 : Int) ≤ (i : Int) by omega), decide_eq_true (by rw [h]; exact List.mem_cons_self)]
    · rw [if_neg h, idxO_any x r (i + 1)]
      simp [h]
set_option linter.defProp false
def uKS_1 := And.intro (And.intro (@eqObC) (And.intro (@load_ob) (@load_ob0))) (And.intro (@load_ob1) (And.intro (@rdIn_v8) (@rdIn_vi)))
theorem IndexO_spec (v : Value) (l : List ObL) (x : ObL) (w : World) (hv : ObSl w v l) (hl : l.length < 1000000) :
    Rets Tryd.prog 77 #[v, obV x.k x.t] w (fun v' D => v' = vi (idxO x l 0) ∧ D = []) := by
  obtain ⟨b, off, arr, E, fz, hr⟩ := hv.row
  have ln := hv.len
  refine Rets.enterV Tryd.func77 rfl (rs := [.tmp 4]) Tryd.results77 Tryd.ntmps77 ?_
  refine kf ?_
  first | with_reducible refine ks [] uKS_1 ?_ | refine kp uKS_1 ?_
  refine Ow.box rfl rfl fun b1 hb1 hw1 => ?_
  simp only [ev_tmp, getF_0, getF_s, obV, cells_agg, List.nil_append]
  refine ko uKS_1 ?_
  first | with_reducible refine ks [] (And.intro uKS_1 @ln) ?_ | refine kp (And.intro uKS_1 @ln) ?_
  refine Cw.loopG (G := Nat) [9, 10, 5, 11, 12, 13, 14, 15, 16, 17, 4, 18, 8] (fun g => [(8, vi g)]) (fun g => [(b1, .cells #[vi x.k, vs x.t] 36 (0, 0))]) (fun g => g ≤ l.length ∧ idxO x l 0 = idxO x (l.drop g) g) (fun g => l.length - g) 0 rfl rfl ?_ ?_
  · exact ⟨Nat.zero_le _, rfl⟩
  · intro k jk hk
    refine kv ?_
    obtain ⟨h1, h2⟩ := hk
    by_cases hk : k < l.length
    · have h0 : 0 < l.length := by omega
      have hbl := hr.lt h0
      have hn1 : b1 ≠ b := by omega
      have r2 := hr.has h0
      have i2 := hr.idx true k hk
      have l2 := row_obj hr hk
      rw [drop_cons (z := ob0) hk, idxO] at h2
      first | with_reducible refine ks [] uKS_1 ?_ | refine kp uKS_1 ?_
      refine Cw.regionS [b1, b] [1, 2, 3, 0, 4, 5] [] (by kernel_rfl) (by kernel_rfl) (by kernel_rfl) ?_
      simp only [nl_cons, ↓pickL_nil, ↓pickL_cons, ↓nthO_0, ↓nthO_s, consO_some]
      refine kq (And.intro uKS_1 ( And.intro @i2 ( And.intro @r2 (@l2)))) ?_
      by_cases hq : x = l.getD k ob0
      · rw [if_pos hq] at h2
        rw [h2]
        have d1 : decide (x = l.getD k ob0) = true := decide_eq_true hq
        first | with_reducible refine ks [] (And.intro uKS_1 @d1) ?_ | refine kp (And.intro uKS_1 @d1) ?_
        refine ⟨_, (ke uKS_1), ⟨hw1, trivial⟩, ?_⟩
        rfl
      · rw [if_neg hq] at h2
        have d1 : decide (x = l.getD k ob0) = false := decide_eq_false hq
        first | with_reducible refine ks [] (And.intro uKS_1 @d1) ?_ | refine kp (And.intro uKS_1 @d1) ?_
        exact Again.mk (k + 1) (by omega) ⟨hk, h2⟩ rfl rfl
    · obtain rfl : k = l.length := by omega
      rw [List.drop_length] at h2
      rw [h2]
      first | with_reducible refine ks [] uKS_1 ?_ | refine kp uKS_1 ?_
      refine ⟨_, (ke uKS_1), ⟨hw1, trivial⟩, ?_⟩
      rfl
theorem ContainsO_spec (v : Value) (l : List ObL) (x : ObL) (w : World) (hv : ObSl w v l) (hl : l.length < 1000000) :
    Rets Tryd.prog 38 #[v, obV x.k x.t] w (fun v' D => v' = .bool (decide (x ∈ l)) ∧ D = []) := by
  refine Rets.enterV Tryd.func38 rfl (rs := [.tmp 4]) Tryd.results38 Tryd.ntmps38 ?_
  refine kf ?_
  first | with_reducible refine ks [] uKS_1 ?_ | refine kp uKS_1 ?_
  refine Ow.box rfl rfl fun b1 hb1 hw1 => ?_
  simp only [ev_tmp, getF_0, getF_s, obV, cells_agg, List.nil_append]
  refine ko uKS_1 ?_
  first | with_reducible refine ks [] uKS_1 ?_ | refine kp uKS_1 ?_
  refine Ow.callFV rfl Tryd.call77 (fun w' hw' => IndexO_spec v l x w' (hv.oldN hw' ⟨hw1, trivial⟩) hl) ?_
  refine ko uKS_1 ?_
  refine ⟨_, (ke uKS_1), ⟨hw1, trivial⟩, ?_⟩
  exact congrArg Value.bool (idxO_any x l 0)
end Go.Proofs
end
section
open Go Go.Proofs Go.Sx Go.StP Go.Flo
namespace Go.Proofs
set_option maxRecDepth 10000
set_option maxHeartbeats 400000
set_option linter.unusedSimpArgs false
/-! ### pack.Open -/
theorem headR_n (s : List UInt8) : ∃ n : Nat, (headR s).1 = n ∧ n ≤ 200 := by
  unfold headR
  split
  · have := numR_mostE (s := s) (a := (rawR s 0 0 4).2.1) (e := (rawR s 0 0 4).2.2) (most := 200) (by omega)
    exact ⟨(numR s (rawR s 0 0 4).2.1 (rawR s 0 0 4).2.2 200).1.toNat, by simp only; omega, by omega⟩
  · exact ⟨0, rfl, by omega⟩
theorem headR_le (s : List UInt8) : (headR s).2.2.1 ≤ s.length := by
  have h1 := rawR_le (s := s) (a := 0) (e := 0) (n := 4) (Nat.zero_le _)
  unfold headR
  split
  · exact (numR_le (e := (rawR s 0 0 4).2.2) (most := 200) h1.2).2
  · exact h1.2
theorem textR_most (s : List UInt8) (a : Nat) (e most : Int) (hm : 0 ≤ most) : ((textR s a e most).1.length : Int) ≤ most := by
  have h1 := numR_mostE (s := s) (a := a) (e := e) (most := most) hm
  have h2 : ∀ (b : Nat) (e n : Int), 0 ≤ n → ((rawR s b e n).1.length : Int) ≤ n := by
    intro b e n hn
    unfold rawR
    split
    · simpa using hn
    · split
      · simpa using hn
      · split
        · simpa using hn
        · simp only [List.length_take, List.length_drop]; omega
  unfold textR
  simp only
  split
  · simpa using hm
  · have := h2 (numR s a e most).2.1 (numR s a e most).2.2 (numR s a e most).1 h1.1
    omega
theorem piecesR_x {s : List UInt8} : ∀ (k i a : Nat) (e : Int) (p : PartL), p ∈ (piecesR s k i a e).1 → p.x.length ≤ 65536
  | 0, i, a, e, p, h => by cases h
  | k + 1, i, a, e, p, h => by
    unfold piecesR at h
    split at h
    · rcases List.mem_cons.1 h with rfl | h
      · have := textR_most s (numR s a e 200).2.1 (numR s a e 200).2.2 65536 (by omega)
        show (textR s (numR s a e 200).2.1 (numR s a e 200).2.2 65536).1.length ≤ 65536
        omega
      · exact piecesR_x k _ _ _ p h
    · cases h
theorem readP_small (s : List UInt8) : SmallP (readP s).1 := fun g hg => Nat.le_trans (piecesR_x _ _ _ _ _ (getD_mem hg)) (by omega)
theorem readP_len (s : List UInt8) : (readP s).1.length ≤ 200 ∧ (readP s).2.1.length = (readP s).1.length := by
  obtain ⟨n, hn, hle⟩ := headR_n s
  have := piecesR_len (s := s) (headR s).1.toNat 0 (headR s).2.2.1 (headR s).2.2.2
  unfold readP
  rw [hn, Int.toNat_natCast] at this ⊢
  omega
theorem gri_key {D : Heap} {E : TypeId} {m n : Nat} {v : Value} {cs : List Value} (h : GrI D E m v n cs) {b : Nat} (hb : slB v = some b) : b ∈ keys D := by
  obtain ⟨X, hX, h⟩ := h
  obtain ⟨p, hp, rfl⟩ := List.mem_map.1 (h.key hb)
  exact List.mem_map.2 ⟨p, hX p hp, rfl⟩
theorem gri_cell {D : Heap} {E : TypeId} {m n : Nat} {v : Value} {cs : List Value} (h : GrI D E m v n cs) : Value.oneCell' v = true ∧ v.cells = #[v] := by
  obtain ⟨X, hX, h⟩ := h; exact h.cell
theorem build_pk2 {v0 v1 : Value} (h0 : Value.oneCell' v0 = true ∧ v0.cells = #[v0]) (h1 : Value.oneCell' v1 = true ∧ v1.cells = #[v1]) : buildV (plcT Tryd.prog 73) (zeroV Tryd.prog 73) [(0, v0), (1, v1)] = some (.agg #[v0, v1, .slice none 0 0, .slice none 0 0]) := by
  rw [show plcT Tryd.prog 73 = some [(0, 1), (1, 1), (2, 1), (3, 1)] from id (by kernel_rfl), zrPk]
  simp [buildV, Sx.fillV, h0.2, h1.2, putC]
theorem zrPr : zeroV Tryd.prog 90 = some (.agg #[.pointer none, .slice none 0 0, .slice none 0 0]) := id (by kernel_rfl)
theorem build_pr (b : Nat) : buildV (plcT Tryd.prog 90) (zeroV Tryd.prog 90) [(0, vp b 0)] = some (.agg #[vp b 0, .slice none 0 0, .slice none 0 0]) := by
  rw [show plcT Tryd.prog 90 = some [(0, 1), (1, 1), (2, 1)] from id (by kernel_rfl), zrPr]; rfl
/-- What Open hands back. -/
def OpenS (b : List UInt8) (v : Value) (D : Heap) : Prop := match openV b with
  | some q => ∃ bp, v = .tuple #[vp bp 0, vi 0] ∧ PackD D bp q.1 q.2.1 q.2.2.1 q.2.2.2
  | none => v = .tuple #[.pointer none, vi 2]
set_option linter.defProp false
def uKT_1 := And.intro (And.intro (@rdIn_v8) (And.intro (@rdIn_vi) (@load_pr0))) (And.intro (And.intro (@load_pr1) (@load_pr2)) (And.intro (@Sx.tup2_0) (@Sx.tup2_1)))
theorem OpenP_spec (b : List UInt8) (w : World) (hG : GlobE w) (hC : GlobC w) (hb : b.length < 1099511627776) :
    Rets Tryd.prog 10 #[vs b] w (XS w [] (OpenS b)) := by
  have hgr : 3 < w.heap.size := by obtain ⟨e0, e1, f0, f1, h0, h1⟩ := hG; exact (Array.getElem?_eq_some_iff.1 h1).1
  refine Rets.enterX Tryd.func10 rfl (rs := [.tmp 2, .tmp 3]) Tryd.results10 Tryd.ntmps10 (fun p hp => by cases hp) (by simp [keys]) ?_
  refine kf ?_
  first | with_reducible refine ks [8] uKT_1 ?_ | refine kp uKT_1 ?_
  refine Ow.callFV rfl Tryd.call31 (fun w' hw' => cUnseal_spec b w' (hC.newP hw' trivial) (by omega)) ?_
  have hun : (unsealV b).1.length ≤ b.length := by
    unfold unsealV
    split
    · simp
    · split
      · simp only [List.length_take]; omega
      · simp
  unfold OpenS openV
  generalize unsealV b = u at *
  obtain ⟨s, ok⟩ := u
  simp only at hun ⊢
  cases ok with
  | false =>
    rw [if_neg (by simp)]
    refine ko uKT_1 ?_
    first | with_reducible refine ks [] uKT_1 ?_ | refine kp uKT_1 ?_
    refine ⟨_, (ke uKT_1), ?_⟩
    exact ⟨Ext.refl _ _, rfl⟩
  | true =>
    refine ko uKT_1 ?_
    first | with_reducible refine ks [] uKT_1 ?_ | refine kp uKT_1 ?_
    refine Ow.callF rfl rfl Tryd.call32 (S := fun B v D => ∃ b', B ≤ b' ∧ v = vp b' 0 ∧ D = [(b', wrO s 0 0)]) (fun w' hw' => RNew_spec s w') ?_
    rintro B v D hab hB ⟨bw, hbw, rfl, rfl⟩
    have hww : w.heap.size ≤ bw := by omega
    refine ⟨_, Mrg.fresh (by intro q hq; simp only [keys, List.map_cons, List.map_nil, List.mem_singleton] at hq; omega), ?_⟩
    rw [List.nil_append]
    refine ko uKT_1 ?_
    refine Ow.build (.agg #[vp bw 0, .slice none 0 0, .slice none 0 0]) rfl (build_pr bw) ?_
    refine ko uKT_1 ?_
    refine Ow.box rfl rfl fun br hbr hwr => ?_
    simp only [ev_tmp, getF_0, getF_s, cells_agg]
    have hwbr : bw < br := above_to hbr (by simp [keys])
    refine Ow.permL (M := [(br, prO (vp bw 0) (.slice none 0 0) (.slice none 0 0)), (bw, wrO s 0 0)]) (List.Perm.swap _ _ _) ?_
    refine ko uKT_1 ?_
    first | with_reducible refine ks [] uKT_1 ?_ | refine kp uKT_1 ?_
    refine Ow.callX (Y := []) (by simp) rfl rfl Tryd.call33 (fun w' hw' hX hn => head_spec br bw s (.slice none 0 0) (.slice none 0 0) w' (by omega) (by omega) (hX _ List.mem_cons_self) (hX _ (List.mem_cons_of_mem _ List.mem_cons_self))) (fun v22 D22 hC22 hS22 => ?_)
    obtain ⟨rfl, rfl⟩ := hS22
    clear hC22
    obtain ⟨n, hn, hn2⟩ := headR_n s
    have hle := headR_le s
    have hrp : readP s = piecesR s n 0 (headR s).2.2.1 (headR s).2.2.2 := by unfold readP; rw [hn, Int.toNat_natCast]
    have hrl := readP_len s
    have hrs := readP_small s
    rw [hn, List.append_nil]
    refine ko uKT_1 ?_
    first | with_reducible refine ks [] uKT_1 ?_ | refine kp uKT_1 ?_
    refine Ow.callX (Y := []) (by simp) rfl rfl Tryd.call34 (fun w' hw' hX hn => read_spec br bw s n (headR s).2.2.1 (headR s).2.2.2 w' (by omega) (by omega) hle (by omega) (hX _ List.mem_cons_self) (hX _ (List.mem_cons_of_mem _ List.mem_cons_self))) (fun v27 D27 hC27 hS27 => ?_)
    obtain ⟨rfl, v1, v2, D', rfl, hg1, hg2⟩ := hS27
    rw [← hrp] at hg1 hg2
    rw [← hrp]
    generalize (headR s).2.1 = okh
    generalize readP s = r at *
    obtain ⟨l, sp, a, e⟩ := r
    simp only at hg1 hg2 hrl hrs ⊢
    have hN : New w.heap.size D' := New.of_le fun c hc => by
      rcases hC27.new c (by simp only [keys, List.map_cons, List.mem_cons]; exact .inr (.inr hc)) with h | h
      · simp [keys] at h; omega
      · exact h.2
    rw [List.append_nil]
    refine ko uKT_1 ?_
    first | with_reducible refine ks [] uKT_1 ?_ | refine kp uKT_1 ?_
    refine Cw.regionS [br] [0, 1, 2, 4, 5, 6, 3, 7, 8, 9, 10] [] (by kernel_rfl) (by kernel_rfl) (by kernel_rfl) ?_
    simp only [nl_cons, ↓pickL_nil, ↓pickL_cons, ↓nthO_0, ↓nthO_s, consO_some]
    refine kq uKT_1 ?_
    refine Ow.build (.agg #[v1, v2, .slice none 0 0, .slice none 0 0]) rfl (build_pk2 (gri_cell hg1) (gri_cell hg2)) ?_
    refine kq uKT_1 ?_
    refine Ow.soft rfl rfl rfl ?_
    refine Ow.box rfl rfl fun bk hbk hwk => ?_
    simp only [ev_tmp, getF_0, getF_s, cells_agg]
    have hbrk : br < bk := above_to hbk (by simp [keys])
    have hDk : ∀ c, c ∈ keys D' → c < bk := fun c hc => above_to hbk (by simp only [keys, List.map_cons, List.mem_cons]; exact .inr (.inr hc))
    refine Ow.permL (M := (bk, .cells #[v1, v2, .slice none 0 0, .slice none 0 0] 73 (0, 0)) :: ((br, prO (vp bw 0) v1 v2) :: (bw, wrO s a e) :: D')) (by classical exact List.perm_iff_count.2 fun a => by simp only [List.count_append, List.count_cons, List.count_nil] <;> omega) ?_
    refine Ow.permL (M := (bk, pkO v1 v2 (.slice none 0 0) (.slice none 0 0)) :: ((br, prO (vp bw 0) v1 v2) :: (bw, wrO s a e) :: D')) (List.Perm.refl _) ?_
    with_reducible refine Ow.nil ?_
    refine ⟨(fun r hr => by rw [List.mem_singleton] at hr; subst hr; simp (disch := omega) only [read_same, read_other]), ?_⟩
    refine kq uKT_1 ?_
    have hN2 : New w.heap.size ((br, prO (vp bw 0) v1 v2) :: (bw, wrO s a e) :: D') := ⟨hwr, hww, hN⟩
    have hN3 : New w.heap.size ((bk, pkO v1 v2 (.slice none 0 0) (.slice none 0 0)) :: (br, prO (vp bw 0) v1 v2) :: (bw, wrO s a e) :: D') := ⟨hwk, hN2⟩
    obtain hok | hok : okh = false ∨ okh = true := by cases okh <;> simp
    · subst hok
      rw [if_neg (by simp)]
      first | with_reducible refine ks [] uKT_1 ?_ | refine kp uKT_1 ?_
      refine ⟨_, (ke uKT_1), ?_⟩
      exact ⟨Ext.of_new hN3, rfl⟩
    · subst hok
      first | with_reducible refine ks [] uKT_1 ?_ | refine kp uKT_1 ?_
      refine Ow.callFV rfl Tryd.call35 (fun w' hw' => REndE_spec bw s a e w' (hw'.has _ _ (List.mem_cons_of_mem _ (List.mem_cons_of_mem _ List.mem_cons_self)))) ?_
      by_cases he : endE s a e = 0
      · have e1 : (endE s a e != 0) = false := by simp [he]
        rw [if_pos ⟨rfl, rfl, he⟩]
        refine ko (And.intro uKT_1 @e1) ?_
        refine Ow.callX (Y := (br, prO (vp bw 0) v1 v2) :: (bw, wrO s a e) :: D') (by simp) rfl rfl Tryd.call25 (fun w' hw' hX hn => fill_spec bk v1 v2 l w' ((hg1.mono (fun q hq => by simp [hq])).slV hw' rfl rfl partC_len) (hG.new hw' hN3) hrs.bnd (by omega) (hX _ List.mem_cons_self) (fun h => by have := hDk _ (gri_key hg1 h); omega) (by omega)) (fun v50 D50 hC50 hS50 => ?_)
        have hN50 : New w.heap.size D50 := came_newP hC50 ⟨hwk, trivial⟩
        unfold FillS at hS50
        cases hf : fillV l with
        | none =>
          rw [hf] at hS50
          have hS50' : v50 = .bool false := hS50
          subst hS50'
          refine ko uKT_1 ?_
          first | with_reducible refine ks [] uKT_1 ?_ | refine kp uKT_1 ?_
          refine ⟨_, (ke uKT_1), ?_⟩
          exact ⟨Ext.of_new (hN50.app hN2), rfl⟩
        | some q =>
          rw [hf] at hS50
          obtain ⟨rfl, x2, x3, D'', rfl, hg3, hg4⟩ := hS50
          refine ko uKT_1 ?_
          first | with_reducible refine ks [] uKT_1 ?_ | refine kp uKT_1 ?_
          refine ⟨_, (ke uKT_1), ?_⟩
          refine ⟨Ext.of_new (hN50.app hN2), bk, rfl, v1, v2, x2, x3, ?_, ?_, ?_, ?_, ?_⟩
          · simp
          · exact hg1.mono fun p hp => by simp [hp]
          · exact hg2.mono fun p hp => by simp [hp]
          · exact hg3.mono fun p hp => by simp [hp]
          · exact hg4.mono fun p hp => by simp [hp]
      · have e1 : (endE s a e != 0) = true := bne_iff_ne.2 he
        rw [if_neg (fun h => he h.2.2)]
        refine ko (And.intro uKT_1 @e1) ?_
        first | with_reducible refine ks [] uKT_1 ?_ | refine kp uKT_1 ?_
        refine ⟨_, (ke uKT_1), ?_⟩
        exact ⟨Ext.of_new hN3, rfl⟩
end Go.Proofs
end
section
open Go Go.Proofs Go.Sx Go.StP Go.Flo
namespace Go.Proofs
set_option maxRecDepth 10000
set_option maxHeartbeats 400000
set_option linter.unusedSimpArgs false
/-! ### pack.Save -/
structure SvG where
  k : Nat
  out : List ObL
  v6 : Value
  D6 : Heap
  DG : Heap
theorem saveGo_len (l : List PartL) : ∀ k, (saveGo l k).length ≤ k
  | 0 => Nat.le_refl _
  | k + 1 => by
    have := saveGo_len l k
    unfold saveGo
    split
    · split
      · simp; omega
      · omega
    · omega
set_option linter.defProp false
def uKU_1 := And.intro (And.intro (And.intro (@rdIn_v8) (@rdIn_vi)) (And.intro (@load_pr0) (And.intro (@load_pr1) (@load_pr2)))) (And.intro (And.intro (@Sx.tup2_0) (And.intro (@Sx.tup2_1) (@load_ob))) (And.intro (@load_ob0) (And.intro (@load_ob1) (@store_ob))))
theorem SaveP_spec (b : List UInt8) (w : World) (hb : b.length < 1099511627776) :
    Rets Tryd.prog 11 #[vs b] w (XS w [] (fun v D => GrI D 36 2 v (saveV b).length ((saveV b).map obC).flatten)) := by
  refine Rets.enterX Tryd.func11 rfl (rs := [.tmp 2]) Tryd.results11 Tryd.ntmps11 (fun p hp => by cases hp) (by simp [keys]) ?_
  refine kf ?_
  first | with_reducible refine ks [3] uKU_1 ?_ | refine kp uKU_1 ?_
  refine Ow.callF rfl rfl Tryd.call32 (S := fun B v D => ∃ b', B ≤ b' ∧ v = vp b' 0 ∧ D = [(b', wrO b 0 0)]) (fun w' hw' => RNew_spec b w') ?_
  rintro B v D hab hB ⟨bw, hbw, rfl, rfl⟩
  have hww : w.heap.size ≤ bw := by omega
  refine ⟨_, Mrg.fresh (by intro q hq; simp only [keys, List.map_cons, List.map_nil, List.mem_singleton] at hq; omega), ?_⟩
  rw [List.nil_append]
  refine ko uKU_1 ?_
  refine Ow.build (.agg #[vp bw 0, .slice none 0 0, .slice none 0 0]) rfl (build_pr bw) ?_
  refine ko uKU_1 ?_
  refine Ow.box rfl rfl fun br hbr hwr => ?_
  simp only [ev_tmp, getF_0, getF_s, cells_agg]
  have hwbr : bw < br := above_to hbr (by simp [keys])
  refine Ow.permL (M := [(br, prO (vp bw 0) (.slice none 0 0) (.slice none 0 0)), (bw, wrO b 0 0)]) (List.Perm.swap _ _ _) ?_
  refine ko uKU_1 ?_
  first | with_reducible refine ks [] uKU_1 ?_ | refine kp uKU_1 ?_
  refine Ow.callX (Y := []) (by simp) rfl rfl Tryd.call33 (fun w' hw' hX hn => head_spec br bw b (.slice none 0 0) (.slice none 0 0) w' (by omega) (by omega) (hX _ List.mem_cons_self) (hX _ (List.mem_cons_of_mem _ List.mem_cons_self))) (fun v22 D22 hC22 hS22 => ?_)
  obtain ⟨rfl, rfl⟩ := hS22
  clear hC22
  obtain ⟨n, hn, hn2⟩ := headR_n b
  have hle := headR_le b
  have hrp : readP b = piecesR b n 0 (headR b).2.2.1 (headR b).2.2.2 := by unfold readP; rw [hn, Int.toNat_natCast]
  have hrl := readP_len b
  have hrs := readP_small b
  rw [hn, List.append_nil]
  unfold saveV
  refine ko uKU_1 ?_
  cases hok : (headR b).2.1 with
  | false =>
    rw [if_neg (by simp)]
    first | with_reducible refine ks [] uKU_1 ?_ | refine kp uKU_1 ?_
    refine ⟨_, (ke uKU_1), ?_⟩
    exact ⟨Ext.of_new ⟨hwr, hww, trivial⟩, Gr.i (X := []) Gr.nl fun p hp => by cases hp⟩
  | true =>
    rw [if_pos rfl]
    first | with_reducible refine ks [] uKU_1 ?_ | refine kp uKU_1 ?_
    refine Ow.callX (Y := []) (by simp) rfl rfl Tryd.call34 (fun w' hw' hX hn => read_spec br bw b n (headR b).2.2.1 (headR b).2.2.2 w' (by omega) (by omega) hle (by omega) (hX _ List.mem_cons_self) (hX _ (List.mem_cons_of_mem _ List.mem_cons_self))) (fun v27 D27 hC27 hS27 => ?_)
    obtain ⟨rfl, v1, v2, D', rfl, hg1, hg2⟩ := hS27
    rw [← hrp] at hg1 hg2
    rw [← hrp]
    generalize readP b = r at *
    obtain ⟨l, sp, a, e⟩ := r
    simp only at hg1 hg2 hrl hrs ⊢
    have hN : New w.heap.size D' := New.of_le fun c hc => by
      rcases hC27.new c (by simp only [keys, List.map_cons, List.mem_cons]; exact .inr (.inr hc)) with h | h
      · simp [keys] at h; omega
      · exact h.2
    rw [List.append_nil]
    have ln := gri_len hg1
    refine ko uKU_1 ?_
    first | with_reducible refine ks [] (And.intro uKU_1 @ln) ?_ | refine kp (And.intro uKU_1 @ln) ?_
    refine Cw.permL (M := (br, prO (vp bw 0) v1 v2) :: (bw, wrO b a e) :: (D' ++ ([] ++ []))) (by simp) ?_
    refine Cw.loopG (G := SvG) [32, 33, 7, 35, 36, 37, 38, 39, 40, 34, 41, 42, 8, 9, 44, 45, 43, 46, 47, 10, 11, 48, 49, 50, 51, 52, 53, 54, 55, 56, 57, 58, 59, 60, 61, 62, 63, 6, 64, 31] (fun g => [(31, vi g.k), (6, g.v6)]) (fun g => (br, prO (vp bw 0) v1 v2) :: (bw, wrO b a e) :: (D' ++ (g.D6 ++ g.DG))) (fun g => g.k ≤ l.length ∧ g.out = saveGo l g.k ∧ New w.heap.size g.D6 ∧ New w.heap.size g.DG ∧ Gr g.D6 36 2 g.v6 g.out.length (g.out.map obC).flatten) (fun g => l.length - g.k) ⟨0, [], .slice none 0 0, [], []⟩ rfl rfl ?_ ?_
    · exact ⟨Nat.zero_le _, rfl, trivial, trivial, Gr.nl⟩
    intro g j hg
    refine kv ?_
    obtain ⟨k, out, v6, D6, DG⟩ := g
    simp only at hg ⊢
    obtain ⟨hk, hout, hN6, hNG, hG6⟩ := hg
    have hol := saveGo_len l k
    rw [← hout] at hol
    have hNr : New w.heap.size (D' ++ (D6 ++ DG)) := hN.app (hN6.app hNG)
    by_cases hlt : k < l.length
    · have d1 : decide ((k : Int) < (l.length : Int)) = true := decide_eq_true (by omega)
      have hsv : saveGo l (k + 1) = match partV l (k : Nat) with
        | .ok s => if frOk s = true ∧ readV s ∉ saveGo l k then saveGo l k ++ [readV s] else saveGo l k
        | .error _ => saveGo l k := rfl
      first | with_reducible refine ks [12, 14] (And.intro uKU_1 @d1) ?_ | refine kp (And.intro uKU_1 @d1) ?_
      refine Ow.callFV rfl Tryd.call36 (fun w' hw' => TextC_spec v1 l (k : Int) w' ((hg1.mono (fun q hq => by simp [hq])).slV hw' rfl rfl partC_len) hrs.bnd (by omega)) ?_
      rw [← hout] at hsv
      cases hp : partV l (k : Nat) with
      | error e2 =>
        rw [hp] at hsv
        simp only at hsv
        have e0 : (e2 == 0) = false := beq_eq_false_iff_ne.2 (partV_err hp)
        unfold partO
        refine ko uKU_1 ?_
        first | with_reducible refine ks [] uKU_1 ?_ | refine kp uKU_1 ?_
        refine Ow.callFV rfl Tryd.call37 (fun w' hw' => ReadO_specV [] w' (by simp)) ?_
        refine ko uKU_1 ?_
        refine Ow.alloc rfl rfl zrOb fun b10 hb10 hw10 => ?_
        simp only [cells_agg, List.nil_append, List.cons_append]
        refine Ow.permL (M := (b10, .cells #[vi 0, vs []] 36 (0, 0)) :: ((br, prO (vp bw 0) v1 v2) :: (bw, wrO b a e) :: (D' ++ (D6 ++ DG)))) (by classical exact List.perm_iff_count.2 fun a => by simp only [List.count_append, List.count_cons, List.count_nil] <;> omega) ?_
        refine ko uKU_1 ?_
        first | with_reducible refine ks [] (And.intro uKU_1 @e0) ?_ | refine kp (And.intro uKU_1 @e0) ?_
        refine Cw.permL (M := (br, prO (vp bw 0) v1 v2) :: (bw, wrO b a e) :: (D' ++ (D6 ++ ((b10, .cells #[vi (readV []).k, vs (readV []).t] 36 (0, 0)) :: DG)))) (by classical exact List.perm_iff_count.2 fun a => by simp only [List.count_append, List.count_cons, List.count_nil] <;> omega) ?_
        first | with_reducible refine ks [] uKU_1 ?_ | refine kp uKU_1 ?_
        exact Again.mk ⟨k + 1, out, v6, D6, (b10, .cells #[vi (readV []).k, vs (readV []).t] 36 (0, 0)) :: DG⟩ (by show l.length - (k + 1) < l.length - k; omega) ⟨hlt, by exact hsv.symm, hN6, ⟨hw10, hNG⟩, hG6⟩ rfl rfl
      | ok s =>
        rw [hp] at hsv
        simp only at hsv
        have hsl := partV_len hp
        unfold partO
        refine ko uKU_1 ?_
        first | with_reducible refine ks [] uKU_1 ?_ | refine kp uKU_1 ?_
        refine Ow.callFV rfl Tryd.call37 (fun w' hw' => ReadO_specV s w' (by omega)) ?_
        refine ko uKU_1 ?_
        refine Ow.alloc rfl rfl zrOb fun b10 hb10 hw10 => ?_
        simp only [cells_agg, List.nil_append, List.cons_append]
        have h10r : br < b10 := above_to hb10 (by simp [keys])
        have h10w : bw < b10 := by omega
        refine Ow.permL (M := (b10, .cells #[vi 0, vs []] 36 (0, 0)) :: ((br, prO (vp bw 0) v1 v2) :: (bw, wrO b a e) :: (D' ++ (D6 ++ DG)))) (by classical exact List.perm_iff_count.2 fun a => by simp only [List.count_append, List.count_cons, List.count_nil] <;> omega) ?_
        refine ko uKU_1 ?_
        cases hfr : frOk s with
        | false =>
          have e1 : ((2 : Int) == 0) = false := rfl
          rw [if_neg (fun h => by rw [hfr] at h; cases h.1)] at hsv
          rw [show (if (false : Bool) = true then (0 : Int) else 2) = 2 from rfl]
          first | with_reducible refine ks [] (And.intro uKU_1 @e1) ?_ | refine kp (And.intro uKU_1 @e1) ?_
          refine Cw.permL (M := (br, prO (vp bw 0) v1 v2) :: (bw, wrO b a e) :: (D' ++ (D6 ++ ((b10, .cells #[vi (readV s).k, vs (readV s).t] 36 (0, 0)) :: DG)))) (by classical exact List.perm_iff_count.2 fun a => by simp only [List.count_append, List.count_cons, List.count_nil] <;> omega) ?_
          first | with_reducible refine ks [] uKU_1 ?_ | refine kp uKU_1 ?_
          exact Again.mk ⟨k + 1, out, v6, D6, (b10, .cells #[vi (readV s).k, vs (readV s).t] 36 (0, 0)) :: DG⟩ (by show l.length - (k + 1) < l.length - k; omega) ⟨hlt, by exact hsv.symm, hN6, ⟨hw10, hNG⟩, hG6⟩ rfl rfl
        | true =>
          have e1 : ((0 : Int) == 0) = true := rfl
          rw [show (if (true : Bool) = true then (0 : Int) else 2) = 0 from rfl]
          first | with_reducible refine ks [] (And.intro uKU_1 @e1) ?_ | refine kp (And.intro uKU_1 @e1) ?_
          refine Ow.callFV rfl Tryd.call38 (fun w' hw' => ContainsO_spec v6 out (readV s) w' (hG6.slM (fun b o hm => hw'.has b o (by simp only [List.mem_cons, List.mem_append]; exact .inr (.inr (.inr (.inr (.inl hm)))))) rfl rfl obC_len) (by omega)) ?_
          by_cases hm : readV s ∈ out
          · have d2 : decide (readV s ∈ out) = true := decide_eq_true hm
            rw [if_neg (fun h => h.2 hm)] at hsv
            refine ko (And.intro uKU_1 @d2) ?_
            refine Cw.permL (M := (br, prO (vp bw 0) v1 v2) :: (bw, wrO b a e) :: (D' ++ (D6 ++ ((b10, .cells #[vi (readV s).k, vs (readV s).t] 36 (0, 0)) :: DG)))) (by classical exact List.perm_iff_count.2 fun a => by simp only [List.count_append, List.count_cons, List.count_nil] <;> omega) ?_
            first | with_reducible refine ks [] uKU_1 ?_ | refine kp uKU_1 ?_
            exact Again.mk ⟨k + 1, out, v6, D6, (b10, .cells #[vi (readV s).k, vs (readV s).t] 36 (0, 0)) :: DG⟩ (by show l.length - (k + 1) < l.length - k; omega) ⟨hlt, by exact hsv.symm, hN6, ⟨hw10, hNG⟩, hG6⟩ rfl rfl
          · have d2 : decide (readV s ∈ out) = false := decide_eq_false hm
            rw [if_pos ⟨hfr, hm⟩] at hsv
            refine ko (And.intro uKU_1 @d2) ?_
            first | with_reducible refine ks [] uKU_1 ?_ | refine kp uKU_1 ?_
            refine Ow.buildSlice (e := 36) #[vi (readV s).k, vs (readV s).t] rfl rfl (slice_one (cs := obC (readV s)) Tryd.underlying32 Tryd.ag36 zrOb (by decide) rfl) fun bc hbc hwc => ?_
            refine ko uKU_1 ?_
            refine Ow.permL (M := D6 ++ ((b10, .cells #[vi (readV s).k, vs (readV s).t] 36 (0, 0)) :: (br, prO (vp bw 0) v1 v2) :: (bw, wrO b a e) :: (D' ++ (DG ++ [(bc, .cells #[vi (readV s).k, vs (readV s).t] 36 (0, 0))])))) (by classical exact List.perm_iff_count.2 fun a => by simp only [List.count_append, List.count_cons, List.count_nil] <;> omega) ?_
            refine Ow.appendXG (e := 36) (k := 1) (new := obC (readV s)) (X := D6) v6 rfl rfl rfl rfl Tryd.underlying32 Tryd.ag36 (by kernel_rfl) zrOb (by rw [obV, cells_agg]; rfl) Tryd.underlying32 (by intro k h; cases h) hG6 (fun w' hw' => AppX.one1 (hw'.has bc (.cells (obC (readV s)).toArray 36 (0, 0)) (by simp [obC])) (obC_len _) (obC_one _)) (by omega) (fun B5 v5 D5 hA5 hB5 hG5 hk51 hk52 hlk5 => ?_)
            have hN5 : New w.heap.size D5 := New.of_le fun q hq => by
              rcases hk52 q hq with h | h
              · exact hN6.le q h
              · omega
            refine ko uKU_1 ?_
            refine Cw.permL (M := (br, prO (vp bw 0) v1 v2) :: (bw, wrO b a e) :: (D' ++ (D5 ++ ((b10, .cells #[vi (readV s).k, vs (readV s).t] 36 (0, 0)) :: (DG ++ [(bc, .cells #[vi (readV s).k, vs (readV s).t] 36 (0, 0))]))))) (by classical exact List.perm_iff_count.2 fun a => by simp only [List.count_append, List.count_cons, List.count_nil] <;> omega) ?_
            first | with_reducible refine ks [] uKU_1 ?_ | refine kp uKU_1 ?_
            exact Again.mk ⟨k + 1, out ++ [readV s], v5, D5, (b10, .cells #[vi (readV s).k, vs (readV s).t] 36 (0, 0)) :: (DG ++ [(bc, .cells #[vi (readV s).k, vs (readV s).t] 36 (0, 0))])⟩ (by show l.length - (k + 1) < l.length - k; omega) ⟨hlt, by exact hsv.symm, hN5, ⟨hw10, hNG.app ⟨hwc, trivial⟩⟩, by simpa using hG5⟩ rfl rfl
    · obtain rfl : k = l.length := by omega
      have d1 : decide ((l.length : Int) < (l.length : Int)) = false := decide_eq_false (by omega)
      first | with_reducible refine ks [] (And.intro uKU_1 @d1) ?_ | refine kp (And.intro uKU_1 @d1) ?_
      refine ⟨_, (ke uKU_1), ?_⟩
      refine ⟨Ext.of_new ⟨hwr, hww, hNr⟩, ?_⟩
      rw [← hout]
      exact Gr.i hG6 fun p hp => by simp [hp]
end Go.Proofs
end
section
open Go Go.Proofs Go.Sx Go.StP Go.Flo
namespace Go.Proofs
set_option maxRecDepth 10000
set_option maxHeartbeats 400000
set_option linter.unusedSimpArgs false
/-! ### A beginning of a pack's bytes -/
theorem numGo_cutP (most : Int) : ∀ (n j k acc : Nat), j < (numL n).length → ∃ x : Nat, numGo most ((numL n).take j) k acc = .error x ∧ x ≠ 0 := by
  intro n
  induction n using Nat.strongRecOn with
  | ind n ih =>
    intro j k acc hj
    cases j with
    | zero => exact ⟨3, by rw [List.take_zero]; rfl, by decide⟩
    | succ j =>
      by_cases h : n < 128
      · rw [numL_small h] at hj; simp at hj
      · have hb := numL_big h
        rw [hb] at hj ⊢
        rw [List.length_cons] at hj
        rw [List.take_succ_cons, numGo]
        have hc : (UInt8.ofNat (n % 128 + 128)).toNat = n % 128 + 128 := by rw [UInt8.toNat_ofNat']; omega
        rw [hc, if_pos (by omega)]
        by_cases h6 : k + 1 = 6
        · rw [if_pos h6]; exact ⟨4, rfl, by decide⟩
        · rw [if_neg h6]; exact ih (n / 128) (by omega) j (k + 1) _ (by omega)
theorem rawR_shortP {s : List UInt8} {a : Nat} {n : Int} (h0 : 0 ≤ n) (h : (s.length : Int) - a < n) : rawR s a 0 n = ([], a, 3) := by
  unfold rawR
  rw [if_neg (by simp), if_neg (by omega), if_pos h]
theorem numR_cutP (A : List UInt8) (n : Nat) (most : Int) {j : Nat} (hj : j < (numL n).length) : (numR (A ++ (numL n).take j) A.length 0 most).2.2 ≠ 0 := by
  obtain ⟨x, hx, h0⟩ := numGo_cutP most n j 0 0 hj
  have hr : numR (A ++ (numL n).take j) A.length 0 most = (0, A.length, (x : Int)) := numR_err rfl (by rw [List.drop_left]; exact hx)
  rw [hr]
  show (x : Int) ≠ 0
  omega
theorem textR_cutP (A t : List UInt8) (most : Int) (j : Nat) (hn : t.length ≤ 1099511627775) (hm : (t.length : Int) ≤ most) (hj : j < (textL t).length) : (textR (A ++ (textL t).take j) A.length 0 most).2.2 ≠ 0 := by
  have ec : clampN t.length = t.length := clampN_idE (by omega)
  unfold textL at hj ⊢
  rw [ec, List.length_append] at hj
  rw [ec]
  by_cases h : j < (numL t.length).length
  · rw [List.take_append_of_le_length (by omega)]
    have := numR_cutP A t.length most h
    generalize A ++ (numL t.length).take j = s at *
    have e2 := rawR_e (s := s) (a := (numR s A.length 0 most).2.1) (n := (numR s A.length 0 most).1) this
    unfold textR
    simp only [e2]
    rw [if_pos this]
    exact this
  · obtain ⟨i, rfl⟩ : ∃ i, j = (numL t.length).length + i := ⟨j - (numL t.length).length, by omega⟩
    rw [List.take_length_add_append]
    have h1 := numR_appE A (t.take i) t.length most hn hm
    unfold textR
    rw [h1]
    simp only
    rw [rawR_shortP (by omega) (by simp only [List.length_append, List.length_take]; omega)]
    simp
theorem pieceR_cut (A : List UInt8) {i : Nat} {p : PartL} (h : PartOk i p) {j : Nat} (hj : j < (pieceB i p).length) : (pieceR (A ++ (pieceB i p).take j) i A.length 0).2.2 ≠ 0 := by
  obtain ⟨n, hf, hn, hd⟩ := farV_ok h
  have hx := h.2
  unfold pieceB at hj ⊢
  rw [hf, clampN_idE (by omega), List.length_append] at hj
  rw [hf, clampN_idE (by omega)]
  unfold pieceR
  simp only
  by_cases hl : j < (numL n).length
  · rw [List.take_append_of_le_length (by omega)]
    have := numR_cutP A n 200 hl
    rw [textR_e this]
    exact this
  · obtain ⟨k, rfl⟩ : ∃ k, j = (numL n).length + k := ⟨j - (numL n).length, by omega⟩
    rw [List.take_length_add_append]
    have h1 := numR_appE A ((textL p.x).take k) n 200 (by omega) (by omega)
    have h2 := textR_cutP (A ++ numL n) p.x 65536 k (by omega) (by omega) (by omega)
    rw [List.append_assoc, List.length_append] at h2
    rw [h1]
    exact h2
/-- How many parts are whole in so many bytes. -/
def wholeN : Nat → List PartL → Nat → Nat
  | _, [], _ => 0
  | i, p :: r, j => if (pieceB i p).length ≤ j then wholeN (i + 1) r (j - (pieceB i p).length) + 1 else 0
theorem wholeN_le : ∀ (l : List PartL) (i j : Nat), wholeN i l j ≤ l.length
  | [], _, _ => Nat.le_refl _
  | p :: r, i, j => by
    unfold wholeN
    split
    · have := wholeN_le r (i + 1) (j - (pieceB i p).length)
      simp only [List.length_cons]; omega
    · exact Nat.zero_le _
theorem piecesR_cut (r : List UInt8) : ∀ (l : List PartL) (A : List UInt8) (i j : Nat), PartsOk i l → (piecesR (A ++ (partsB i l ++ r).take j) l.length i A.length 0).1 = l.take (wholeN i l j)
  | [], A, i, j, _ => rfl
  | p :: l, A, i, j, h => by
    unfold partsB wholeN
    rw [List.length_cons, List.append_assoc]
    unfold piecesR
    by_cases hj : (pieceB i p).length ≤ j
    · obtain ⟨k, rfl⟩ : ∃ k, j = (pieceB i p).length + k := ⟨j - (pieceB i p).length, by omega⟩
      rw [if_pos hj, List.take_length_add_append, Nat.add_sub_cancel_left]
      have h1 := pieceR_app A ((partsB (i + 1) l ++ r).take k) h.1
      have h2 := piecesR_cut r l (A ++ pieceB i p) (i + 1) k h.2
      rw [List.append_assoc, List.length_append] at h2
      rw [h1]
      simp only [↓reduceIte]
      rw [h2, List.take_succ_cons]
    · rw [if_neg hj, List.take_append_of_le_length (by omega)]
      have h1 := pieceR_cut A h.1 (show j < (pieceB i p).length by omega)
      rw [if_neg h1]
      rfl
/-- Behind how many bytes a part is whole. -/
def endG (a i : Nat) (l : List PartL) (k : Nat) : Nat := a + (partsB i (l.take (k + 1))).length
theorem partsB_lt : ∀ (l : List PartL) (i k j : Nat), k < l.length → ((partsB i (l.take (k + 1))).length ≤ j ↔ k < wholeN i l j)
  | [], _, _, _, h => absurd h (Nat.not_lt_zero _)
  | p :: r, i, k, j, h => by
    rw [List.take_succ_cons]
    unfold partsB wholeN
    rw [List.length_append]
    cases k with
    | zero =>
      simp only [List.take_zero, partsB, List.length_nil]
      split
      · exact ⟨fun _ => by omega, fun _ => by omega⟩
      · exact ⟨fun _ => by omega, fun h => by omega⟩
    | succ k =>
      rw [List.length_cons] at h
      split
      · rename_i hj
        have := partsB_lt r (i + 1) k (j - (pieceB i p).length) (by omega)
        omega
      · exact ⟨fun _ => by omega, fun h => by omega⟩
theorem endG_le {a i : Nat} {l : List PartL} {k at_ : Nat} (hk : k < l.length) : endG a i l k ≤ at_ ↔ a ≤ at_ ∧ k < wholeN i l (at_ - a) := by
  have := partsB_lt l i k (at_ - a) hk
  unfold endG
  constructor
  · intro h; exact ⟨by omega, this.1 (by omega)⟩
  · rintro ⟨h1, h2⟩; have := this.2 h2; omega
theorem spotsG_at : ∀ (l : List PartL) (i a k : Nat), k < l.length → (spotsG i a l).getD k 0 = a + (partsB i (l.take k)).length
  | [], _, _, _, h => absurd h (Nat.not_lt_zero _)
  | p :: r, i, a, 0, h => by simp [spotsG, partsB]
  | p :: r, i, a, k + 1, h => by
    have := spotsG_at r (i + 1) (a + (pieceB i p).length) k (by simpa using h)
    rw [spotsG, List.getD_cons_succ, this, List.take_succ_cons, partsB, List.length_append, Nat.add_assoc]
theorem headR_cut (x : List UInt8) {n : Nat} (h : n ≤ 200) (j : Nat) : headR ((magB ++ (numL n ++ x)).take j) = (if 4 + (numL n).length ≤ j then ((n : Int), true, 4 + (numL n).length, 0) else headR ((magB ++ (numL n ++ x)).take j)) ∧ (j < 4 + (numL n).length → (headR ((magB ++ (numL n ++ x)).take j)).2.1 = false) := by
  constructor
  · by_cases hj : 4 + (numL n).length ≤ j
    · rw [if_pos hj]
      obtain ⟨k, rfl⟩ : ∃ k, j = (magB ++ numL n).length + k := ⟨j - (4 + (numL n).length), by rw [List.length_append, show magB.length = 4 from rfl]; omega⟩
      rw [← List.append_assoc, List.take_length_add_append, List.append_assoc]
      exact headR_app (x.take k) h
    · rw [if_neg hj]
  · intro hj
    unfold headR
    by_cases h4 : j < 4
    · rw [rawR_shortP (by omega) (by rw [List.length_take]; omega)]
      rw [if_neg (show ¬ ([] : List UInt8) = magB by decide)]
    · obtain ⟨k, rfl⟩ : ∃ k, j = magB.length + k := ⟨j - 4, by rw [show magB.length = 4 from rfl]; omega⟩
      rw [show magB.length = 4 from rfl] at hj
      rw [List.take_length_add_append, List.take_append_of_le_length (by omega)]
      have h0 := rawR_appE [] magB ((numL n).take k)
      simp only [List.nil_append, List.length_nil, Nat.zero_add] at h0
      rw [show (magB.length : Int) = 4 from rfl] at h0
      have h1 := numR_cutP magB n 200 (show k < (numL n).length by omega)
      rw [h0]
      simp only [↓reduceIte]
      exact beq_eq_false_iff_ne.2 h1
/-! ### What some first parts hold -/
theorem pathGo_take {l : List PartL} {m : Nat} : ∀ (k a : Nat), a < m → pathGo (l.take m) k a = pathGo l k a
  | 0, _, _ => rfl
  | k + 1, a, ha => by
    unfold pathGo
    rw [getD_take ha]
    split
    · split
      · rfl
      · rename_i hb
        split
        · rfl
        · rw [pathGo_take k _ (by omega)]
    · rfl
theorem pathGo_ltm {l : List PartL} {m : Nat} : ∀ (k a : Nat) (p : List Nat), a < m → pathGo l k a = .ok p → ∀ x, x ∈ p → x < m
  | 0, _, _, _, h => by cases h
  | k + 1, a, p, ha, h => by
    unfold pathGo at h
    split at h
    · split at h
      · cases h
      · rename_i hb
        split at h
        · cases h
        · cases hp : pathGo l k (l.getD a part0).b.toNat with
          | error x => rw [hp] at h; cases h
          | ok q =>
            rw [hp] at h
            cases h
            intro x hx
            rcases List.mem_cons.1 hx with rfl | hx
            · exact ha
            · exact pathGo_ltm k _ q (by omega) hp x hx
    · split at h
      · cases h
      · cases h
        intro x hx
        rw [List.mem_singleton] at hx
        omega
theorem foldT_take {l : List PartL} {m : Nat} : ∀ (p : List Nat), (∀ x, x ∈ p → x < m) → foldT (l.take m) p = foldT l p
  | [], _ => rfl
  | a :: p, h => by
    unfold foldT
    rw [foldT_take p fun x hx => h x (List.mem_cons_of_mem _ hx), getD_take (h a List.mem_cons_self)]
theorem partV_take {l : List PartL} {m k : Nat} (hl : l.length ≤ 200) (hm : m ≤ l.length) (hk : k < m) : partV (l.take m) (k : Nat) = partV l (k : Nat) := by
  unfold partV pathV
  have e : (l.take m).length = m := by rw [List.length_take]; omega
  rw [if_neg (by omega), if_neg (by omega), Int.toNat_natCast, pathGo_take _ _ hk]
  cases hp : pathGo l 5 k with
  | error x => rfl
  | ok p => exact foldT_take p (pathGo_ltm _ _ _ hk hp)
theorem saveGo_take {l : List PartL} {m : Nat} (hl : l.length ≤ 200) (hm : m ≤ l.length) : ∀ k, k ≤ m → saveGo (l.take m) k = saveGo l k
  | 0, _ => rfl
  | k + 1, hk => by
    unfold saveGo
    rw [partV_take hl hm (by omega), saveGo_take hl hm k (by omega)]
theorem fillGo_ok : ∀ (ts : List (List UInt8)) (ids : List IdL) (os : List ObL) (q : List IdL × List ObL), fillGo ts ids os = some q → q = (ids ++ ts.map idOf, os ++ ts.map readV) ∧ ∀ k, k < ts.length → frOk (ts.getD k []) = true ∧ ∀ y, y ∈ ids ++ (ts.take k).map idOf → (idOf (ts.getD k [])).l ≠ y.l
  | [], ids, os, q, h => by cases h; exact ⟨by simp, fun k hk => absurd hk (Nat.not_lt_zero _)⟩
  | s :: r, ids, os, q, h => by
    rw [fillGo] at h
    split at h
    · rename_i hc
      obtain ⟨h1, h2⟩ := fillGo_ok r _ _ q h
      refine ⟨by rw [h1]; simp, ?_⟩
      intro k hk
      cases k with
      | zero =>
        refine ⟨hc.1, fun y hy => ?_⟩
        simp only [List.take_zero, List.map_nil, List.append_nil] at hy
        have := (List.any_eq_false.1 hc.2) y hy
        simpa using this
      | succ k =>
        have := h2 k (by simpa using hk)
        refine ⟨this.1, fun y hy => this.2 y ?_⟩
        simpa using hy
    · cases h
/-- Of some first parts just their objects are saved. -/
theorem saveGo_all {l : List PartL} {q : List IdL × List ObL} (h : fillV l = some q) : q.2.length = l.length ∧ q.1.length = l.length ∧ ∀ k, k ≤ l.length → saveGo l k = q.2.take k := by
  unfold fillV at h
  cases ha : allV l with
  | error e => rw [ha] at h; cases h
  | ok ts =>
    rw [ha] at h
    change fillGo ts [] [] = some q at h
    obtain ⟨h1, h2⟩ := fillGo_ok _ _ _ _ h
    simp only [List.nil_append] at h1 h2
    subst h1
    unfold allV at ha
    split at ha
    · cases ha
    · have hlen := allGo_len _ _ ha
      refine ⟨by simp [hlen], by simp [hlen], ?_⟩
      intro k
      induction k with
      | zero => intro _; rfl
      | succ k ih =>
        intro hk
        have hp := allGo_at _ _ ha k (by omega)
        obtain ⟨hf, hn⟩ := h2 k (by omega)
        unfold saveGo
        rw [hp]
        simp only
        rw [ih (by omega)]
        have hno : readV (ts.getD k []) ∉ (ts.map readV).take k := by
          intro hm
          rw [← List.map_take] at hm
          obtain ⟨s, hs, he⟩ := List.mem_map.1 hm
          refine hn (idOf s) (List.mem_map.2 ⟨s, hs, rfl⟩) ?_
          unfold idOf
          rw [he]
        rw [if_pos ⟨hf, hno⟩]
        have hk' : k < (ts.map readV).length := by rw [List.length_map]; omega
        rw [take_snoc (z := ob0) hk']
        congr 2
        rw [List.getD_eq_getElem?_getD, List.getD_eq_getElem?_getD, List.getElem?_map, List.getElem?_eq_getElem (by omega)]
        rfl
/-- Of a beginning of a pack's bytes just the objects whose parts are whole there are saved. -/
theorem save_cut {l : List PartL} {q : List IdL × List ObL} (h : fillV l = some q) (hx : ∀ p, p ∈ l → p.x.length ≤ 65536) (r : List UInt8) (j : Nat) :
    saveV ((packB l ++ r).take j) = if 4 + (numL l.length).length ≤ j then q.2.take (wholeN 0 l (j - (4 + (numL l.length).length))) else [] := by
  obtain ⟨h1, h2⟩ := partsOk_len h hx
  have e : packB l ++ r = magB ++ (numL l.length ++ (partsB 0 l ++ r)) := by unfold packB; rw [numL_200 h2, List.append_assoc, List.append_assoc]
  obtain ⟨ha, hb⟩ := headR_cut (partsB 0 l ++ r) h2 j
  unfold saveV
  rw [e]
  by_cases hj : 4 + (numL l.length).length ≤ j
  · rw [if_pos hj] at ha ⊢
    obtain ⟨k, rfl⟩ : ∃ k, j = (magB ++ numL l.length).length + k := ⟨j - (4 + (numL l.length).length), by rw [List.length_append, show magB.length = 4 from rfl]; omega⟩
    have hp := piecesR_cut r l (magB ++ numL l.length) 0 k h1
    have hr : (readP ((magB ++ (numL l.length ++ (partsB 0 l ++ r))).take ((magB ++ numL l.length).length + k))).1 = l.take (wholeN 0 l k) := by
      unfold readP
      rw [ha]
      simp only [Int.toNat_natCast]
      rw [← List.append_assoc, List.take_length_add_append]
      rw [List.length_append, show magB.length = 4 from rfl] at hp
      exact hp
    have hw := wholeN_le l 0 k
    rw [ha, hr]
    simp only [↓reduceIte]
    rw [show (magB ++ numL l.length).length + k - (4 + (numL l.length).length) = k by rw [List.length_append, show magB.length = 4 from rfl]; omega]
    rw [List.length_take, Nat.min_eq_left hw, saveGo_take h2 hw _ (Nat.le_refl _)]
    exact (saveGo_all h).2.2 _ hw
  · rw [if_neg hj, hb (by omega)]
    rfl
end Go.Proofs
end
section
open Go Go.Proofs Go.Sx Go.StP Go.Flo
namespace Go.Proofs
set_option maxRecDepth 10000
set_option maxHeartbeats 400000
set_option linter.unusedSimpArgs false
/-! ### The laws' own forms: sedimentref09.Same, Great -/
def sumX (l : List PartL) : Nat := (l.map fun p => p.x.length).sum
theorem sumX_snoc {l : List PartL} {k : Nat} (h : k < l.length) : sumX (l.take (k + 1)) = sumX (l.take k) + (l.getD k part0).x.length := by
  unfold sumX
  rw [take_snoc (z := part0) h, List.map_append, List.sum_append]; simp
/-- The sum as the machine has it. -/
def sumW (l : List PartL) : Nat → Int
  | 0 => 0
  | k + 1 => IntKind.i64.wrap (sumW l k + (l.getD k part0).x.length)
def greatV (l : List PartL) : Bool := decide (210 < l.length) || (List.range l.length).any fun k => decide (30000 < sumW l (k + 1))
theorem sumW_eq {l : List PartL} (hx : SmallP l) : ∀ k, k ≤ l.length → k ≤ 210 → sumW l k = (sumX (l.take k) : Nat) ∧ sumX (l.take k) ≤ k * 17000000
  | 0, _, _ => by simp [sumW, sumX]
  | k + 1, hk, h2 => by
    obtain ⟨h1, h3⟩ := sumW_eq hx k (by omega) (by omega)
    have h4 := hx k hk
    rw [sumX_snoc hk]
    unfold sumW
    rw [h1, wrap_i64 _ ⟨by omega, by omega⟩]
    omega
theorem sumX_le : ∀ (l : List PartL) (k : Nat), sumX (l.take k) ≤ sumX l
  | [], k => by simp [sumX]
  | p :: r, 0 => by simp [sumX]
  | p :: r, k + 1 => by
    have := sumX_le r k
    unfold sumX at this ⊢
    simp only [List.take_succ_cons, List.map_cons, List.sum_cons]
    omega
theorem greatV_no {l : List PartL} (h : greatV l = false) : l.length ≤ 210 ∧ (SmallP l → sumX l ≤ 30000 ∧ ∀ p, p ∈ l → p.x.length ≤ 65536) := by
  unfold greatV at h
  simp only [Bool.or_eq_false_iff, decide_eq_false_iff_not, List.any_eq_false, List.mem_range, decide_eq_true_eq] at h
  refine ⟨by omega, fun hs => ?_⟩
  have hx : sumX l ≤ 30000 := by
    by_cases h0 : l.length = 0
    · rw [List.eq_nil_of_length_eq_zero h0]; simp [sumX]
    · have h1 := h.2 (l.length - 1) (by omega)
      rw [show l.length - 1 + 1 = l.length by omega] at h1
      obtain ⟨h2, -⟩ := sumW_eq hs l.length (Nat.le_refl _) (by omega)
      rw [List.take_length] at h2
      omega
  refine ⟨hx, fun p hp => ?_⟩
  obtain ⟨g, hg, rfl⟩ := mem_getD (z := part0) hp
  have h1 := sumX_snoc hg
  have h2 := sumX_le l (g + 1)
  omega
theorem add_wrap (a b : Int) : binV .add (vi a) (vi b) = some (vi (IntKind.i64.wrap (a + b))) := rfl
set_option linter.defProp false
def uKV_1 := And.intro (And.intro (@rdIn_v8) (And.intro (@rdIn_vi) (@load_part0))) (And.intro (And.intro (@load_part1) (@load_part2)) (And.intro (@load_partw) (@nePartC)))
theorem Great_spec (v0 : Value) (l : List PartL) (w : World) (hv : PartSl w v0 l) (hb : BndL l) : Rets Tryd.prog 8 #[v0] w (fun v D => v = .bool (greatV l) ∧ D = []) := by
  obtain ⟨b, off, arr, E, fz, hr⟩ := hv.row
  have ln := hv.len
  refine Rets.enterV Tryd.func8 rfl (rs := [.tmp 2]) Tryd.results8 Tryd.ntmps8 ?_
  refine kf ?_
  unfold greatV
  by_cases h1 : 210 < l.length
  · have d1 : decide ((210 : Int) < (l.length : Int)) = true := decide_eq_true (by omega)
    rw [decide_eq_true h1, Bool.true_or]
    first | with_reducible refine ks [] (And.intro uKV_1 ( And.intro @ln (@d1))) ?_ | refine kp (And.intro uKV_1 ( And.intro @ln (@d1))) ?_
    refine ⟨_, (ke uKV_1), trivial, ?_⟩
    rfl
  · have d1 : decide ((210 : Int) < (l.length : Int)) = false := decide_eq_false (by omega)
    rw [decide_eq_false h1, Bool.false_or]
    first | with_reducible refine ks [] (And.intro uKV_1 ( And.intro @ln (@d1))) ?_ | refine kp (And.intro uKV_1 ( And.intro @ln (@d1))) ?_
    refine Cw.loopG (G := Nat) [8, 9, 10, 11, 14, 15, 16, 17, 18, 19, 20, 21, 3, 22, 23, 2, 12, 13, 4] (fun g => [(3, vi (sumW l g)), (4, vi g)]) (fun g => []) (fun g => g ≤ l.length ∧ ∀ k, k < g → ¬ 30000 < sumW l (k + 1)) (fun g => l.length - g) 0 rfl rfl ?_ ?_
    · exact ⟨Nat.zero_le _, fun k hk => absurd hk (Nat.not_lt_zero _)⟩
    intro k jk hk
    refine kv ?_
    obtain ⟨hk, hs⟩ := hk
    by_cases hlt : k < l.length
    · have d2 : decide ((k : Int) < (l.length : Int)) = true := decide_eq_true (by omega)
      have hx := hr.has (by omega)
      have ix := hr.idx true k hlt
      have ld : loadV (some (false, 1)) (some (.cells arr E fz)) (off + k * 3 + 2) = some (vs (l.getD k part0).x) := hr.cell (j := 2) (n := 1) hlt (by omega)
      have ha : binV .add (vi (sumW l k)) (vi (l.getD k part0).x.length) = some (vi (sumW l (k + 1))) := add_wrap _ _
      generalize hsw : sumW l (k + 1) = W at *
      generalize hsv : sumW l k = W0 at *
      first | with_reducible refine ks [] (And.intro uKV_1 ( And.intro @ln ( And.intro @d2 ( And.intro @hx ( And.intro @ix ( And.intro @ld (@ha))))))) ?_ | refine kp (And.intro uKV_1 ( And.intro @ln ( And.intro @d2 ( And.intro @hx ( And.intro @ix ( And.intro @ld (@ha))))))) ?_
      by_cases h3 : 30000 < W
      · have d3 : decide ((30000 : Int) < W) = true := decide_eq_true h3
        have hyes : ((List.range l.length).any fun k => decide (30000 < sumW l (k + 1))) = true := List.any_eq_true.2 ⟨k, List.mem_range.2 hlt, by rw [hsw]; exact d3⟩
        rw [hyes]
        first | with_reducible refine ks [] (And.intro uKV_1 @d3) ?_ | refine kp (And.intro uKV_1 @d3) ?_
        refine ⟨_, (ke uKV_1), trivial, ?_⟩
        rfl
      · have d3 : decide ((30000 : Int) < W) = false := decide_eq_false h3
        first | with_reducible refine ks [] (And.intro uKV_1 @d3) ?_ | refine kp (And.intro uKV_1 @d3) ?_
        refine Again.mk (k + 1) (by omega) ⟨hlt, fun j hj => ?_⟩ rfl (by rw [hsw]; rfl)
        by_cases hjk : j = k
        · rw [hjk, hsw]; exact h3
        · exact hs j (by omega)
    · obtain rfl : k = l.length := by omega
      have d2 : decide ((l.length : Int) < (l.length : Int)) = false := decide_eq_false (by omega)
      have hno : ((List.range l.length).any fun k => decide (30000 < sumW l (k + 1))) = false := by
        rw [List.any_eq_false]
        intro k hk
        simpa using hs k (List.mem_range.1 hk)
      rw [hno]
      first | with_reducible refine ks [] (And.intro uKV_1 ( And.intro @ln (@d2))) ?_ | refine kp (And.intro uKV_1 ( And.intro @ln (@d2))) ?_
      refine ⟨_, (ke uKV_1), trivial, ?_⟩
      rfl
theorem SameP_spec (v1 v2 : Value) (l1 l2 : List PartL) (w : World) (hv1 : PartSl w v1 l1) (hv2 : PartSl w v2 l2) (hl1 : l1.length < 1000000) (hl2 : l2.length < 1000000) :
    Rets Tryd.prog 14 #[v1, v2] w (fun v' D => v' = .bool (decide (l1 = l2)) ∧ D = []) := by
  obtain ⟨b1, off1, arr1, E1, fz1, hr1⟩ := hv1.row
  obtain ⟨b2, off2, arr2, E2, fz2, hr2⟩ := hv2.row
  have ln1 := hv1.len
  have ln2 := hv2.len
  refine Rets.enterV Tryd.func14 rfl (rs := [.tmp 4]) Tryd.results14 Tryd.ntmps14 ?_
  refine kf ?_
  by_cases hl : l1.length = l2.length
  · first | with_reducible refine ks [] (And.intro uKV_1 ( And.intro @ln1 (@ln2))) ?_ | refine kp (And.intro uKV_1 ( And.intro @ln1 (@ln2))) ?_
    refine Cw.loopG (G := Nat) [11, 12, 13, 14, 17, 18, 19, 20, 21, 22, 23, 24, 25, 4, 15, 16, 5] (fun g => [(5, vi g)]) (fun g => []) (fun g => g ≤ l1.length ∧ l1.take g = l2.take g) (fun g => l1.length - g) 0 rfl rfl ?_ ?_
    · exact ⟨Nat.zero_le _, rfl⟩
    · intro k jk hk
      refine kv ?_
      obtain ⟨h1, h2⟩ := hk
      by_cases hk : k < l1.length
      · have ra := hr1.has (by omega)
        have rb := hr2.has (show 0 < l2.length by omega)
        have ia := hr1.idx true k hk
        have ib := hr2.idx true k (show k < l2.length by omega)
        have la := hr1.load partC_len (by omega) hk
        have lb := hr2.load partC_len (by omega) (show k < l2.length by omega)
        first | with_reducible refine ks [] (And.intro uKV_1 @ln1) ?_ | refine kp (And.intro uKV_1 @ln1) ?_
        refine Cw.regionS [b1, b2] [0, 1, 2, 4, 5, 6, 3, 7, 8] [] (by kernel_rfl) (by kernel_rfl) (by kernel_rfl) ?_
        simp only [nl_cons, ↓pickL_nil, ↓pickL_cons, ↓nthO_0, ↓nthO_s, consO_some]
        refine kq (And.intro uKV_1 ( And.intro @ra ( And.intro @rb ( And.intro @ia ( And.intro @ib ( And.intro @la (@lb))))))) ?_
        by_cases hq : l1.getD k part0 = l2.getD k part0
        · have d1 : (!decide (l1.getD k part0 = l2.getD k part0)) = false := by rw [decide_eq_true hq]; rfl
          first | with_reducible refine ks [] (And.intro uKV_1 @d1) ?_ | refine kp (And.intro uKV_1 @d1) ?_
          refine Again.mk (k + 1) (by omega) ⟨hk, ?_⟩ rfl rfl
          rw [take_snoc (z := part0) hk, take_snoc (z := part0) (show k < l2.length by omega), h2, hq]
        · have d1 : (!decide (l1.getD k part0 = l2.getD k part0)) = true := by rw [decide_eq_false hq]; rfl
          have : decide (l1 = l2) = false := decide_eq_false (fun e => by rw [e] at hq; exact hq rfl)
          rw [this]
          first | with_reducible refine ks [] (And.intro uKV_1 @d1) ?_ | refine kp (And.intro uKV_1 @d1) ?_
          refine ⟨_, (ke uKV_1), trivial, ?_⟩
          rfl
      · obtain rfl : k = l1.length := by omega
        have : l1 = l2 := by rw [List.take_length, hl, List.take_length] at h2; exact h2
        rw [decide_eq_true this]
        first | with_reducible refine ks [] (And.intro uKV_1 @ln1) ?_ | refine kp (And.intro uKV_1 @ln1) ?_
        refine ⟨_, (ke uKV_1), trivial, ?_⟩
        rfl
  · have : decide (l1 = l2) = false := decide_eq_false (fun e => hl (by rw [e]))
    rw [this]
    first | with_reducible refine ks [] (And.intro uKV_1 ( And.intro @ln1 (@ln2))) ?_ | refine kp (And.intro uKV_1 ( And.intro @ln1 (@ln2))) ?_
    refine ⟨_, (ke uKV_1), trivial, ?_⟩
    rfl
/-! ### What is saved of all bytes -/
theorem save_all {l : List PartL} {q : List IdL × List ObL} (h : fillV l = some q) (hx : ∀ p, p ∈ l → p.x.length ≤ 65536) : saveV (sealV (packB l)) = q.2 := by
  obtain ⟨h1, h2⟩ := partsOk_len h hx
  obtain ⟨hh, hr⟩ := readP_app h1 h2 (sum4 (crcV (packB l)))
  obtain ⟨h3, -, h4⟩ := saveGo_all h
  unfold saveV sealV
  rw [hh, hr]
  simp only [↓reduceIte]
  rw [h4 _ (Nat.le_refl _), ← h3, List.take_length]
end Go.Proofs
end
section
open Go Go.Proofs Go.Sx Go.StP Go.Flo
namespace Go.Proofs
set_option maxRecDepth 10000
set_option maxHeartbeats 400000
set_option linter.unusedSimpArgs false
/-! ### alive -/
def abS : List UInt8 := [98, 2, 97, 98]
def abP : PartL := ⟨false, 0, abS⟩
theorem ab_read : frOk abS = true ∧ readV abS = ⟨1, [97, 98]⟩ := by
  have h : frOk abS = true := by decide
  refine ⟨h, ?_⟩
  unfold readV
  rw [if_pos h, if_pos h]
  decide
theorem ab_fill : fillV [abP] = some ([idOf abS], [⟨1, [97, 98]⟩]) := by
  unfold fillV
  rw [show allV [abP] = .ok [abS] from rfl]
  show fillGo [abS] [] [] = _
  rw [fillGo, if_pos ⟨ab_read.1, rfl⟩, fillGo, ab_read.2]
  rfl
theorem ab_small : ∀ p, p ∈ [abP] → p.x.length ≤ 65536 := by
  intro p hp; rw [List.mem_singleton] at hp; subst hp; decide
theorem ab_len : (sealV (packB [abP])).length = 15 := by
  have h1 : numL (clampN (([abP].length : Nat) : Int)) = [1] := by rw [show clampN (([abP].length : Nat) : Int) = 1 from rfl, numL_small (by decide)]; rfl
  have h2 : numL (clampN (farV 0 abP)) = [0] := by rw [show clampN (farV 0 abP) = 0 from rfl, numL_small (by decide)]; rfl
  have h3 : numL (clampN ((abS.length : Nat) : Int)) = [4] := by rw [show clampN ((abS.length : Nat) : Int) = 4 from rfl, numL_small (by decide)]; rfl
  have h4 : textL abP.x = [4] ++ abS := by show numL (clampN ((abS.length : Nat) : Int)) ++ abS = _; rw [h3]
  rw [sealV_len]
  unfold packB partsB partsB pieceB
  rw [h1, h2, h4]
  rfl
theorem eqObK (k k' : Int) (t t' : List UInt8) : binX Tryd.prog .eql 36 (obV k t) (obV k' t') = some (.bool (decide ((⟨k, t⟩ : ObL) = ⟨k', t'⟩))) := eqObC ⟨k, t⟩ ⟨k', t'⟩
theorem one_part {w : World} {b : Nat} {p : PartL} (h : w.heap[b]? = some (.cells (partC p).toArray 68 (0, 0))) : PartSl w (vsl b 0 1 1) [p] :=
  SlV.sl (l := [p]) h (fun k hk j hj => by
    obtain rfl : k = 0 := by simpa using hk
    rw [Nat.zero_mul, Nat.zero_add, List.getElem?_toArray]; rfl) (Nat.le_refl 1) (Nat.le_refl 3)
set_option linter.defProp false
def uKW_1 := And.intro (And.intro (And.intro (@rdIn_v8) (@rdIn_vi)) (And.intro (@Sx.tup2_0) (And.intro (@Sx.tup2_1) (@load_ob)))) (And.intro (And.intro (@load_ob0) (@load_ob1)) (And.intro (@store_ob) (And.intro (@eqObK) (@cells_part))))
theorem aliveP_spec (w : World) (hG : GlobE w) (hC : GlobC w) : Rets Tryd.prog 7 #[] w (fun v D => v = .bool true ∧ D = []) := by
  have hop : openV (sealV (packB [abP])) = some ([abP], _, _) := open_write ab_fill ab_small
  have hsv := save_all ab_fill ab_small
  have hal := ab_len
  have hwv : writeV [abP] = (sealV (packB [abP]), 0) := by unfold writeV; rw [ab_fill]
  generalize sealV (packB [abP]) = b at *
  refine Rets.enterV Tryd.func7 rfl (rs := [.tmp 0]) Tryd.results7 Tryd.ntmps7 ?_
  refine kf ?_
  first | with_reducible refine ks [] uKW_1 ?_ | refine kp uKW_1 ?_
  refine Ow.build (.agg (partC abP).toArray) rfl (build_part2 abS) ?_
  refine ko uKW_1 ?_
  refine Ow.buildSlice (e := 68) (partC abP).toArray rfl rfl (by kernel_rfl) fun b10 hb10 hw10 => ?_
  refine ko uKW_1 ?_
  refine Ow.callFV rfl Tryd.call9 (fun w' hw' => WriteP_spec (vsl b10 0 1 1) [abP] w' (one_part (hw'.has b10 _ List.mem_cons_self)) (hG.new hw' ⟨hw10, trivial⟩) (hC.newP hw' ⟨hw10, trivial⟩) (fun g hg => by obtain rfl : g = 0 := (by simpa using hg); decide) (by decide)) ?_
  rw [hwv]
  refine ko uKW_1 ?_
  first | with_reducible refine ks [] uKW_1 ?_ | refine kp uKW_1 ?_
  refine Ow.callC rfl rfl Tryd.call10 (fun w' hw' => OpenP_spec b w' (hG.new hw' ⟨hw10, trivial⟩) (hC.newP hw' ⟨hw10, trivial⟩) (by omega)) (fun B1 v1 D1 hA1 hB1 hN1 hS1 => ?_)
  unfold OpenS at hS1
  rw [hop] at hS1
  obtain ⟨bp, rfl, hP⟩ := hS1
  simp only at hP
  have hD1 : New w.heap.size D1 := hN1.mono hB1
  have hmm : ∀ q, q ∈ D1 → q ∈ [(b10, Obj.cells (partC abP).toArray 68 (0, 0))] ++ D1 := fun q hq => List.mem_append_right _ hq
  have h0 : hasV [abP] 0 = true := by decide
  refine ko uKW_1 ?_
  first | with_reducible refine ks [] uKW_1 ?_ | refine kp uKW_1 ?_
  refine Ow.callFV rfl Tryd.call13 (fun w' hw' => PObject_spec bp 0 [abP] (spotsG 0 (4 + (numL [abP].length).length) [abP]) [idOf abS] [⟨1, [97, 98]⟩] w' (hP.inW (fun q hq => by simp [hq]) hw') rfl) ?_
  rw [h0, if_pos rfl, show ([⟨1, [97, 98]⟩] : List ObL).getD (0 : Int).toNat ob0 = ⟨1, [97, 98]⟩ from rfl]
  simp only
  refine ko uKW_1 ?_
  refine Ow.alloc rfl rfl zrOb fun b5 hb5 hw5 => ?_
  simp only [cells_agg, List.nil_append, List.cons_append]
  refine Ow.permL (M := (b5, .cells #[vi 0, vs []] 36 (0, 0)) :: (b10, .cells (partC abP).toArray 68 (0, 0)) :: D1) (by classical exact List.perm_iff_count.2 fun a => by simp only [List.count_append, List.count_cons, List.count_nil] <;> omega) ?_
  refine ko uKW_1 ?_
  first | with_reducible refine ks [] uKW_1 ?_ | refine kp uKW_1 ?_
  refine Ow.callC rfl rfl Tryd.call11 (fun w' hw' => SaveP_spec b w' (by omega)) (fun B2 v2 D2 hA2 hB2 hN2 hS2 => ?_)
  rw [hsv] at hS2
  simp only at hS2
  have hD2 : New w.heap.size D2 := hN2.mono hB2
  have ln := gri_len hS2
  have e1 : ((0 : Int) == 0) = true := rfl
  have e2 : decide ((⟨1, [97, 98]⟩ : ObL) = ⟨1, [97, 98]⟩) = true := decide_eq_true rfl
  have e3 : ((b.length : Int) == 15) = true := by rw [hal]; rfl
  have e4 : ((([⟨1, [97, 98]⟩] : List ObL).length : Int) == 1) = true := rfl
  refine ko uKW_1 ?_
  first | with_reducible refine ks [] (And.intro uKW_1 @e1) ?_ | refine kp (And.intro uKW_1 @e1) ?_
  refine Ow.build (obV 1 [97, 98]) rfl (build_ob2 1 [97, 98]) ?_
  refine ko (And.intro uKW_1 ( And.intro @e1 ( And.intro @decide_true ( And.intro @e3 ( And.intro @ln (@e4)))))) ?_
  refine Ow.callFV rfl Tryd.call24 (fun w' hw' => PId_spec bp 0 [abP] (spotsG 0 (4 + (numL [abP].length).length) [abP]) [idOf abS] [⟨1, [97, 98]⟩] w' (hP.inW (fun q hq => by simp [hq]) hw') rfl) ?_
  rw [h0, if_pos rfl, show ([idOf abS] : List IdL).getD (0 : Int).toNat id0 = idOf abS from rfl]
  refine ko uKW_1 ?_
  refine Ow.callFV rfl Tryd.call23 (fun w' hw' => PFind_spec bp (idOf abS) [abP] (spotsG 0 (4 + (numL [abP].length).length) [abP]) [idOf abS] [⟨1, [97, 98]⟩] w' (hP.inW (fun q hq => by simp [hq]) hw') (by decide)) ?_
  have e5 : (idxG (idOf abS) [idOf abS] 0 == 0) = true := by rw [idxG_cons, beq_self_eq_true, if_pos rfl]; rfl
  refine ko (And.intro uKW_1 @e5) ?_
  first | with_reducible refine ks [] uKW_1 ?_ | refine kp uKW_1 ?_
  refine ⟨_, (ke uKW_1), (show New w.heap.size ((b5, _) :: (b10, _) :: (D1 ++ D2)) from ⟨hw5, hw10, hD1.app hD2⟩), ?_⟩
  rfl
end Go.Proofs
end
section
open Go Go.Proofs Go.Sx Go.StP Go.Flo
namespace Go.Proofs
set_option maxRecDepth 10000
set_option maxHeartbeats 400000
set_option linter.unusedSimpArgs false
/-! ### PackBack -/
theorem openV_small {b : List UInt8} {l : List PartL} {sp : List Nat} {q : List IdL × List ObL} (h : openV b = some (l, sp, q)) : SmallP l ∧ l.length ≤ 200 ∧ sp.length = l.length ∧ q.1.length = l.length ∧ q.2.length = l.length := by
  unfold openV at h
  split at h
  · rename_i hc
    have h1 := readP_small (unsealV b).1
    have h2 := readP_len (unsealV b).1
    cases hf : fillV (readP (unsealV b).1).1 with
    | none => rw [hf] at h; cases h
    | some q' =>
      rw [hf] at h
      cases h
      obtain ⟨h3, h4, -⟩ := saveGo_all hf
      exact ⟨h1, h2.1, h2.2, h4, h3⟩
  · cases h
theorem writeV_ok {l : List PartL} {q : List IdL × List ObL} (h : fillV l = some q) : writeV l = (sealV (packB l), 0) := by unfold writeV; rw [h]
theorem writeV_no {l : List PartL} (h : fillV l = none) : writeV l = ([], 1) := by unfold writeV; rw [h]
theorem packS_len {l : List PartL} {q : List IdL × List ObL} (h : fillV l = some q) : (sealV (packB l)).length < 1099511627776 := by
  have hx := fill_small h
  have hl : l.length ≤ 200 := by
    unfold fillV at h
    cases ha : allV l with
    | error e => rw [ha] at h; cases h
    | ok ts => exact (allV_len ha).2.1
  have h1 := partsB_len hx l.length (Nat.le_refl _)
  rw [List.take_length] at h1
  have h2 := numL_clamp_len (l.length : Int)
  rw [sealV_len]
  unfold packB
  rw [List.length_append, List.length_append, show magB.length = 4 from rfl]
  omega
set_option linter.defProp false
def uKX_1 := And.intro (And.intro (@rdIn_v8) (@rdIn_vi)) (And.intro (@Sx.tup2_0) (@Sx.tup2_1))
theorem PackBack_spec (v0 : Value) (l : List PartL) (b : List UInt8) (w : World) (hG : GlobE w) (hC : GlobC w) (hv : PartSl w v0 l) (hb : BndL l) : Rets Tryd.prog 4 #[v0, vs b] w (fun v D => v = .bool true ∧ D = []) := by
  refine Rets.enterV Tryd.func4 rfl (rs := [.tmp 4]) Tryd.results4 Tryd.ntmps4 ?_
  refine kf ?_
  first | with_reducible refine ks [1000006, 3] uKX_1 ?_ | refine kp uKX_1 ?_
  refine Ow.callFV rfl Tryd.call7 (fun w' hw' => aliveP_spec w' (hG.new hw' trivial) (hC.newP hw' trivial)) ?_
  refine ko uKX_1 ?_
  cases hgt : greatV l with
  | true =>
    first | with_reducible refine ks [] uKX_1 ?_ | refine kp uKX_1 ?_
    refine Ow.callFV rfl Tryd.call8 (fun w' hw' => Great_spec v0 l w' (hv.oldN hw' trivial) hb) ?_
    rw [hgt]
    refine ko uKX_1 ?_
    first | with_reducible refine ks [] uKX_1 ?_ | refine kp uKX_1 ?_
    refine Ow.callFV rfl Tryd.call7 (fun w' hw' => aliveP_spec w' (hG.new hw' trivial) (hC.newP hw' trivial)) ?_
    refine ko uKX_1 ?_
    first | with_reducible refine ks [] uKX_1 ?_ | refine kp uKX_1 ?_
    refine ⟨_, (ke uKX_1), trivial, ?_⟩
    rfl
  | false =>
    obtain ⟨hll, hgx⟩ := greatV_no hgt
    by_cases hbl : 8000 < b.length
    · have e1 : decide ((8000 : Int) < (b.length : Int)) = true := decide_eq_true (by omega)
      first | with_reducible refine ks [] uKX_1 ?_ | refine kp uKX_1 ?_
      refine Ow.callFV rfl Tryd.call8 (fun w' hw' => Great_spec v0 l w' (hv.oldN hw' trivial) hb) ?_
      rw [hgt]
      refine ko (And.intro uKX_1 @e1) ?_
      first | with_reducible refine ks [] uKX_1 ?_ | refine kp uKX_1 ?_
      refine Ow.callFV rfl Tryd.call7 (fun w' hw' => aliveP_spec w' (hG.new hw' trivial) (hC.newP hw' trivial)) ?_
      refine ko uKX_1 ?_
      first | with_reducible refine ks [] uKX_1 ?_ | refine kp uKX_1 ?_
      refine ⟨_, (ke uKX_1), trivial, ?_⟩
      rfl
    · have e1 : decide ((8000 : Int) < (b.length : Int)) = false := decide_eq_false (by omega)
      first | with_reducible refine ks [] uKX_1 ?_ | refine kp uKX_1 ?_
      refine Ow.callFV rfl Tryd.call8 (fun w' hw' => Great_spec v0 l w' (hv.oldN hw' trivial) hb) ?_
      rw [hgt]
      refine ko (And.intro uKX_1 @e1) ?_
      first | with_reducible refine ks [] uKX_1 ?_ | refine kp uKX_1 ?_
      refine Ow.callFV rfl Tryd.call9 (fun w' hw' => WriteP_spec v0 l w' (hv.oldN hw' trivial) (hG.new hw' trivial) (hC.newP hw' trivial) hb (by omega)) ?_
      refine ko uKX_1 ?_
      have hlk : ∀ {D : Heap} {w' : World}, Hp w D w' → New w.heap.size D → PartSl w' v0 l := fun hw' hD => hv.oldN hw' hD
      refine Cw.cutO (G := Heap) [7, 8, 28, 29, 30, 31, 32, 33, 34, 35, 36, 37, 38, 39, 40, 41, 42, 43] (fun g => []) (fun g => g) (fun g => New w.heap.size g) ?_ ?_
      · cases hf : fillV l with
        | none =>
          rw [writeV_no hf]
          have e2 : ((1 : Int) == 0) = false := rfl
          first | with_reducible refine ks [] (And.intro uKX_1 @e2) ?_ | refine kp (And.intro uKX_1 @e2) ?_
          exact CutO.mk [] trivial rfl rfl
        | some q =>
          rw [writeV_ok hf]
          have e2 : ((0 : Int) == 0) = true := rfl
          have e3 : ((0 : Int) != 0) = false := rfl
          have hop := open_write hf (hgx (fill_small hf)).2
          have hsl := packS_len hf
          generalize sealV (packB l) = s at *
          first | with_reducible refine ks [] (And.intro uKX_1 @e2) ?_ | refine kp (And.intro uKX_1 @e2) ?_
          refine Ow.callC rfl rfl Tryd.call10 (fun w' hw' => OpenP_spec s w' (hG.new hw' trivial) (hC.newP hw' trivial) hsl) (fun B1 v1 D1 hA1 hB1 hN1 hS1 => ?_)
          unfold OpenS at hS1
          rw [hop] at hS1
          obtain ⟨bp, rfl, hP⟩ := hS1
          simp only at hP
          have hD1 : New w.heap.size D1 := hN1.mono hB1
          rw [List.nil_append]
          refine ko uKX_1 ?_
          first | with_reducible refine ks [] (And.intro uKX_1 @e3) ?_ | refine kp (And.intro uKX_1 @e3) ?_
          refine Ow.callC rfl rfl Tryd.call15 (fun w' hw' => PParts_spec bp _ _ _ _ w' (hP.inW (fun q hq => hq) hw') (by omega)) (fun B2 v2 D2 hA2 hB2 hN2 hS2 => ?_)
          have hD2 : New w.heap.size D2 := hN2.mono hB2
          refine ko uKX_1 ?_
          refine Ow.callFV rfl Tryd.call14 (fun w' hw' => SameP_spec v2 v0 l l w' ((hS2.mono (fun q hq => by simp [hq])).slV hw' rfl rfl partC_len) (hv.oldN hw' (hD1.app hD2)) (by omega) (by omega)) ?_
          rw [decide_eq_true (rfl : l = l)]
          refine ko uKX_1 ?_
          first | with_reducible refine ks [] uKX_1 ?_ | refine kp uKX_1 ?_
          exact CutO.mk (D1 ++ D2) (hD1.app hD2) rfl rfl
      · intro D jD hD
        refine kv ?_
        first | with_reducible refine ks [] uKX_1 ?_ | refine kp uKX_1 ?_
        refine Ow.callC rfl rfl Tryd.call10 (fun w' hw' => OpenP_spec b w' (hG.new hw' hD) (hC.newP hw' hD) (by omega)) (fun B1 v1 D1 hA1 hB1 hN1 hS1 => ?_)
        have hD1 : New w.heap.size (D ++ D1) := hD.app (hN1.mono hB1)
        unfold OpenS at hS1
        cases hop : openV b with
        | none =>
          rw [hop] at hS1
          have hS1' : v1 = .tuple #[.pointer none, vi 2] := hS1
          subst hS1'
          have e2 : ((2 : Int) != 0) = true := rfl
          refine ko uKX_1 ?_
          first | with_reducible refine ks [] (And.intro uKX_1 @e2) ?_ | refine kp (And.intro uKX_1 @e2) ?_
          refine Ow.callFV rfl Tryd.call7 (fun w' hw' => aliveP_spec w' (hG.new hw' hD1) (hC.newP hw' hD1)) ?_
          refine ko uKX_1 ?_
          first | with_reducible refine ks [] uKX_1 ?_ | refine kp uKX_1 ?_
          refine ⟨_, (ke uKX_1), hD1, ?_⟩
          rfl
        | some r =>
          obtain ⟨l2, sp, q⟩ := r
          rw [hop] at hS1
          obtain ⟨bp, rfl, hP⟩ := hS1
          simp only at hP
          obtain ⟨hs1, hs2, hs3, hs4, hs5⟩ := openV_small hop
          have hwo := write_open hop
          have e2 : ((0 : Int) != 0) = false := rfl
          have e3 : ((0 : Int) == 0) = true := rfl
          have e4 : (b == b) = true := beq_self_eq_true b
          refine ko uKX_1 ?_
          first | with_reducible refine ks [] (And.intro uKX_1 @e2) ?_ | refine kp (And.intro uKX_1 @e2) ?_
          refine Ow.callC rfl rfl Tryd.call15 (fun w' hw' => PParts_spec bp _ _ _ _ w' (hP.inW (fun q hq => by simp [hq]) hw') (by omega)) (fun B2 v2 D2 hA2 hB2 hN2 hS2 => ?_)
          have hD2 : New w.heap.size ((D ++ D1) ++ D2) := hD1.app (hN2.mono hB2)
          refine ko uKX_1 ?_
          refine Ow.callFV rfl Tryd.call9 (fun w' hw' => WriteP_spec v2 l2 w' ((hS2.mono (fun q hq => by simp [hq])).slV hw' rfl rfl partC_len) (hG.new hw' hD2) (hC.newP hw' hD2) hs1.bnd (by omega)) ?_
          rw [hwo]
          refine ko uKX_1 ?_
          first | with_reducible refine ks [] uKX_1 ?_ | refine kp uKX_1 ?_
          refine Ow.callFV rfl Tryd.call7 (fun w' hw' => aliveP_spec w' (hG.new hw' hD2) (hC.newP hw' hD2)) ?_
          refine ko (And.intro uKX_1 ( And.intro @e3 (@e4))) ?_
          first | with_reducible refine ks [] uKX_1 ?_ | refine kp uKX_1 ?_
          refine ⟨_, (ke uKX_1), hD2, ?_⟩
          rfl
end Go.Proofs
end
namespace Go.Sx
open Go Go.ChangeShapes Go.WideShapes Go.RowKit

theorem Hp.same0 {W W' : World} (h : Hp W [] W') {b : Nat} (hb : b < W.heap.size) : W'.heap[b]? = W.heap[b]? := h.old b hb (fun hm => by cases hm)
theorem Hp.kept {W W' : World} (h : Hp W [] W') (may : MemPlace → Prop) : W.keptBut W' may := by
  refine ⟨h.os, h.output, fun i hi => ?_⟩
  rw [h.same0 hi]
  cases ho : W.heap[i]? with
  | none => rfl
  | some o =>
    cases o <;> first
      | exact ⟨rfl, rfl, rfl, fun _ _ => rfl⟩
      | exact .inr ⟨rfl, rfl⟩
      | rfl
theorem Hp.sameAt {W W' : World} (h : Hp W [] W') {p : MemPlace} (hp : p.block < W.heap.size) : W.sameAt W' p := by
  cases p with
  | cell b off =>
    have := h.same0 (b := b) hp
    simp only [World.sameAt, World.cell?, this]
  | map b => exact h.same0 hp
theorem Hp.frozen {W W' : World} (h : Hp W [] W') {a : Addr} (ha : a.block < W.heap.size) : W'.frozen? a = W.frozen? a := by
  simp only [World.frozen?, h.same0 ha]

section
variable {H : Type} {enc : TypeId × Value → H} {P : Program}
theorem trodAll_stays (hl : laidOutB P = true) {W W' : World} {sp : Nat → Bool} (hp : Hp W [] W') : ∀ {ts : List TypeId} {vs : List Value} {ds : List (DataW H)} {ps : List MemPlace},
    (∀ t ∈ ts, P.readableRec t = true ∧ t < P.types.size) → (∀ p ∈ ps, p.block < W.heap.size) → (∀ p ∈ ps, sp p.block = true) →
    DataW.TrodAll enc P W 0 (fun _ => true) true ts vs ds ps → DataW.TrodAll enc P W' 0 sp true ts vs ds ps
  | [], _, _, _, _, _, _, h => by
    obtain ⟨rfl, rfl, rfl⟩ := trodAll_nil h
    exact trodAll_mk0
  | t :: ts, _, _, _, ht, hlt, hs, h => by
    obtain ⟨v, vs, d, ds, p, q, rfl, rfl, rfl, h1, h2⟩ := trodAll_cons h
    have hlt1 : ∀ x ∈ p, x.block < W.heap.size := fun x hx => hlt x (List.mem_append_left _ hx)
    exact trodAll_cons_mk (WideElems.Trod_stays hl (ht t List.mem_cons_self).1 (ht t List.mem_cons_self).2 h1 (fun x hx => hp.sameAt (hlt1 x hx)) (fun x hx => hs x (List.mem_append_left _ hx)))
      (trodAll_stays hl hp (fun u hu => ht u (List.mem_cons_of_mem _ hu)) (fun x hx => hlt x (List.mem_append_right _ hx)) (fun x hx => hs x (List.mem_append_right _ hx)) h2)

/-- WHAT THE ROW OF A LAW ASKS, from 'it answers true and turns nothing that was there'. -/
theorem post_true {f : Func} {s : ChangeSpec} {W W' : World} {args : Array Value} {ds gs : List (DataW H)} {before : List MemPlace} {tb : TypeId} (hl : laidOutB P = true)
    (hW : DataW.Whole enc P f.params.toList s.vars false W args.toList ds gs before) (hv : s.vars = []) (hpar : ∀ t ∈ f.params.toList, P.readableRec t = true ∧ t < P.types.size)
    (hr : f.resultTypes = #[tb]) (htb : P.underlying tb = some .bool) (hfn : s.fn H ds = { results := [.lit (.bool true)], args := ds }) (hp : Hp W [] W') :
    s.post enc P f false true false false W args (.bool true) W' := by
  have hlt := hW.lt
  have hW0 := hW
  obtain ⟨p, q, hA, hV, rfl, hz, hn⟩ := hW
  rw [hv] at hV
  obtain ⟨rfl, rfl⟩ := trodVars_none hV
  rw [List.append_nil] at hW0 hlt hz
  have hargs : ∀ sp : Nat → Bool, (∀ x ∈ p, sp x.block = true) → DataW.TrodAll enc P W' 0 sp true f.params.toList args.toList (s.fn H (ds ++ [])).args p := fun sp hs => by
    rw [List.append_nil, hfn]
    exact trodAll_stays hl hp hpar hlt hs hA
  have hvars : ∀ sp : Nat → Bool, DataW.TrodVars enc P W' sp s.vars (s.fn H (ds ++ [])).vars [] := fun sp => by
    rw [List.append_nil, hfn, hv]; rfl
  have hres : ∀ (b : Nat) (sp : Nat → Bool) (hd : Bool), DataW.TrodAll enc P W' b sp hd f.resultTypes.toList ((Value.bool true).resultList f.resultTypes.size) (s.fn H (ds ++ [])).results [] := fun b sp hd => by
    rw [List.append_nil, hfn, hr]
    exact trodAll_cons_mk (shut_bool htb true) trodAll_mk0
  have hold : ∀ x ∈ p, (fun b => decide (b < W.heap.size)) x.block = true := fun x hx => by simpa using hlt x hx
  refine ⟨ds, [], p, [], p, [], hW0, hres _ _ _, hargs _ hold, hvars _, hp.kept _, fun _ => ?_⟩
  refine ⟨ok_one hr rfl (okWide_bool_mk htb true), _, _, ([] ++ p) ++ [], ⟨[] ++ p, [], trodAll_append (hargs _ (fun _ _ => rfl)) (hres _ _ _), hvars _, rfl, ?_, fun h => by cases h⟩, ?_⟩
  · intro b off hx
    have hx' : MemPlace.cell b off ∈ p := by simpa using hx
    rw [hp.frozen (hlt _ hx')]
    exact hz b off hx'
  · intro x hx _
    simpa using hx
end
section
variable {P : Program} {W : World} {name : String} {k : IntKind} {zs : List Int}
theorem tab_of_vars {t e : TypeId} {g n : Nat} (hg : P.globalNamed name = some g) (hty : (P.globals[g]?).map (·.type) = some t) (ht : P.underlying t = some (.array n e)) (he : P.underlying e = some (.int k)) (hce : P.cellsOf e = 1) (hct : P.cellsOf t = n) :
    ∀ {laid : List (String × DataW Unit)} {ps : List MemPlace}, DataW.LaidVars P W laid ps → (name, Lib.tabData k zs) ∈ laid → Lib.TabIs P W name k zs
  | [], _, _, hm => by cases hm
  | (n', d') :: rest, ps, h, hm => by
    obtain ⟨g', t', cs, fuel, p, q, hg', ht', hvar, hd, hr, -⟩ := h
    rcases List.mem_cons.1 hm with hm | hm
    · cases hm
      obtain rfl := Option.some.inj (hg.symm.trans hg')
      obtain rfl := Option.some.inj (hty.symm.trans ht')
      unfold Lib.TabIs
      rw [hvar, ← Lib.cells_of_tab ht he hce hct hd]
    · exact tab_of_vars hg hty ht he hce hct hr hm
theorem heap_of_tab {g : Nat} (hg : P.globalNamed name = some g) (h : Lib.TabIs P W name k zs) : ∃ e f, W.heap[g]? = some (.cells (zs.map fun z => Value.int k z).toArray e f) := by
  unfold Lib.TabIs at h
  simp only [World.var?, hg, Option.bind_some] at h
  split at h
  · rename_i cs e f hb
    cases h
    exact ⟨e, f, hb⟩
  · cases h
end
section
variable {H : Type} {enc : TypeId × Value → H} {P : Program}
end
end Go.Sx
namespace Go.Sx
open Go
section
variable {P : Program}
theorem rowAt_le {fits : TypeId → Bool} {d : Nat} {e : TypeId} {count off n : Nat} (h : rowAt P fits d e count off n = true) : off ≤ count * P.cellsOf e := by
  cases d with
  | zero => simp [rowAt] at h
  | succ d =>
    unfold rowAt at h
    simp only at h
    split at h
    · cases h
    · rename_i hs
      have hs' : 0 < P.cellsOf e := Nat.pos_of_ne_zero hs
      have hd := Nat.div_add_mod off (P.cellsOf e)
      have hm := Nat.mod_lt off hs'
      rw [Bool.or_eq_true] at h
      rcases h with h | h
      · simp only [Bool.and_eq_true, beq_iff_eq, decide_eq_true_eq] at h
        have : off / P.cellsOf e * P.cellsOf e ≤ count * P.cellsOf e := Nat.mul_le_mul_right _ (by omega)
        rw [Nat.mul_comm (P.cellsOf e)] at hd
        omega
      · simp only [Bool.and_eq_true, decide_eq_true_eq] at h
        have : (off / P.cellsOf e + 1) * P.cellsOf e ≤ count * P.cellsOf e := Nat.mul_le_mul_right _ (by omega)
        rw [Nat.add_mul, Nat.one_mul] at this
        rw [Nat.mul_comm (P.cellsOf e)] at hd
        omega
theorem liesAt_le {e : TypeId} {count off : Nat} : ∀ {d : Nat} {u : TypeId} {n : Nat}, liesAt P d e count off u n = true → off ≤ count * P.cellsOf e
  | 0, u, n, h => by simp [liesAt] at h
  | d + 1, u, n, h => by
    unfold liesAt at h
    rw [Bool.or_eq_true] at h
    rcases h with h | h
    · exact rowAt_le h
    · split at h
      · exact liesAt_le h
      · cases h
theorem has_le {W : World} {r : Reach} {base : Nat} {a : Addr} {e : TypeId} {n : Nat} (h : W.has P r base a e n) : a.spot = none ∧ ∃ arr E fz, W.heap[a.block]? = some (.cells arr E fz) ∧ a.off ≤ arr.size := by
  obtain ⟨-, hs, row, cells, hsh, hl⟩ := h
  refine ⟨hs, ?_⟩
  unfold World.shape? at hsh
  split at hsh
  · rename_i c el fz hh
    cases hsh
    refine ⟨c, _, fz, hh, Nat.le_trans (liesAt_le hl) ?_⟩
    exact Nat.div_mul_le_self _ _
  · cases hsh
theorem okWide_sl {W : World} {r : Reach} {base : Nat} {t e : TypeId} {v : Value} (ht : P.underlying t = some (.slice e)) (h : Value.okWide P W r base t v) :
    v = .slice none 0 0 ∨ ∃ b off len cap arr E fz, v = vsl b off len cap ∧ len ≤ cap ∧ W.heap[b]? = some (.cells arr E fz) ∧ off ≤ arr.size := by
  obtain ⟨a, len, cap, rfl⟩ := Go.WideShapes.okWide_slice ht h
  unfold Value.okWide at h
  rw [ht] at h
  unfold Cell.okWide at h
  rw [ht] at h
  simp only at h
  unfold Cell.ok at h
  rw [ht] at h
  cases a with
  | none =>
    left
    simp only at h
    split at h
    all_goals first | (cases h; done) | simp_all
  | some a =>
    right
    simp only at h
    obtain ⟨hle, -, hh⟩ := h
    obtain ⟨hs, arr, E, fz, hb, ho⟩ := has_le hh
    obtain ⟨b, off, sp⟩ := a
    simp only at hs
    subst hs
    exact ⟨b, off, len, cap, arr, E, fz, rfl, hle, hb, ho⟩
theorem slV_of {α : Type} {enc : α → List Value} {z : α} {m : Nat} {W : World} {base b off c : Nat} {l : List α} {arr : Array Value} {E : TypeId} {fz : Nat × Nat} (hm0 : 0 < m) (hm : ∀ x, (enc x).length = m)
    (hcells : ∀ i, i < l.length → W.cells? base ((Addr.mk b off none).add (i * m)) m = some (enc (l.getD i z))) (hheap : W.heap[b]? = some (.cells arr E fz)) (hoff : off ≤ arr.size) (hc : l.length ≤ c) : SlV m enc z W (vsl b off l.length c) l := by
  have get : ∀ k, k < l.length → ∀ j, j < m → arr[off + k * m + j]? = (enc (l.getD k z))[j]? := by
    intro k hk j hj
    obtain ⟨-, hl, hg⟩ := World.cells?_some (hcells k hk)
    have := hg j (by omega)
    rw [add_spot, add_spot] at this
    simp only [World.cell?, hheap, Option.isSome_none, Bool.false_eq_true, if_false] at this
    exact this
  refine SlV.sl hheap get hc ?_
  by_cases h0 : l.length = 0
  · rw [h0]; omega
  · have h1 := get (l.length - 1) (by omega) (m - 1) (by omega)
    rw [List.getElem?_eq_getElem (by rw [hm]; omega)] at h1
    have h2 := (Array.getElem?_eq_some_iff.1 h1).1
    have h3 : (l.length - 1) * m + m = l.length * m := by
      rw [← Nat.succ_mul]; congr 1; omega
    omega
/-- An argument's row that is a slice of elements, each of which is told as one of some kind. -/
theorem open_slS {H : Type} {tell : TypeId × Value → H} {α : Type} {enc : α → List Value} {z : α} {m : Nat} {W : World} {r : Reach} {base b0 : Nat} {sp : Nat → Bool} {held : Bool} {fuel : Nat} {t e : TypeId} {v : Value} {x : DataW H × List MemPlace}
    (ht : P.underlying t = some (.slice e)) (he : P.cellsOf e = m) (hm0 : 0 < m) (hm : ∀ x, (enc x).length = m) (hval : Value.okWide P W r b0 t v)
    (hdec : ∀ n cs y, DataW.trod tell P W base sp held n e cs = some y → ∃ a, cs = enc a) (hd : DataW.trod tell P W base sp held fuel t [v] = some x) : ∃ l, SlV m enc z W v l := by
  rcases DataW.trod_slice ht hd with ⟨hcs, -⟩ | ⟨a, len, cap, elems, rest, n, -, hcs, -, -, hl, -, hlen, hel, -, -⟩
  · simp only [List.cons.injEq, and_true] at hcs
    subst hcs
    exact ⟨[], SlV.nil W⟩
  · simp only [List.cons.injEq, and_true] at hcs
    subst hcs
    rcases okWide_sl ht hval with h0 | ⟨b, off, len', cap', arr, E, fz, h1, -, hb, ho⟩
    · cases h0
    · unfold vsl at h1
      cases h1
      rw [he] at hel
      have hex : ∀ i, i < len → ∃ q, W.cells? base ((Addr.mk b off none).add (i * m)) m = some (enc q) := by
        intro i hi
        have h2 := hel i hi
        rw [List.getElem?_eq_getElem (by omega)] at h2
        cases hc : W.cells? base ((Addr.mk b off none).add (i * m)) m with
        | none => rw [hc] at h2; cases h2
        | some cs =>
          rw [hc] at h2
          obtain ⟨q, rfl⟩ := hdec _ _ _ h2
          exact ⟨q, rfl⟩
      obtain ⟨f, hf⟩ : ∃ f : Nat → α, ∀ i, i < len → W.cells? base ((Addr.mk b off none).add (i * m)) m = some (enc (f i)) := by
        classical
        refine ⟨fun i => if h : i < len then Classical.choose (hex i h) else z, fun i hi => ?_⟩
        simp only [dif_pos hi]
        exact Classical.choose_spec (hex i hi)
      have hll : ((List.range len).map f).length = len := by simp
      refine ⟨(List.range len).map f, ?_⟩
      have := slV_of (W := W) (base := base) (b := b) (off := off) (c := cap) (l := (List.range len).map f) (z := z) hm0 hm (fun i hi => by
        rw [hll] at hi
        rw [hf i hi]
        congr 2
        rw [List.getD_eq_getElem?_getD, List.getElem?_map, List.getElem?_range hi]; rfl) hb ho (by rw [hll]; exact hl)
      rw [hll] at this
      exact this
end
end Go.Sx
section
open Go Go.Proofs Go.Sx Go.StP Go.ChangeShapes
namespace Go.Proofs
set_option maxRecDepth 10000
set_option maxHeartbeats 400000
/-! ### Arguments, opened: parts -/
theorem dec_part {H : Type} {tell : TypeId × Value → H} {W : World} {base : Nat} {sp : Nat → Bool} {held : Bool} (n : Nat) (cs : List Value) (y : DataW H × List MemPlace)
    (h : DataW.trod tell Tryd.prog W base sp held n 68 cs = some y) : ∃ a : {p : PartL // p.x.length ≤ maxLen}, cs = partC a.1 := by
  obtain ⟨y0, y1, y2, n', -, hlen, h0, h1, h2⟩ := Deep.trod_struct3 Tryd.underlying68 h
  have hc : (Tryd.prog).cellsOf 68 = 3 := by kernel_rfl
  have hc0 : (Tryd.prog).cellsOf 4 = 1 := by kernel_rfl
  have hc1 : (Tryd.prog).cellsOf 3 = 1 := by kernel_rfl
  have hc2 : (Tryd.prog).cellsOf 9 = 1 := by kernel_rfl
  simp only at h0 h1 h2
  rw [hc0, List.drop_zero] at h0
  rw [hc1] at h1
  rw [hc2] at h2
  rw [hc] at hlen
  obtain ⟨bb, hbb, -⟩ := DataW.trod_bool Tryd.underlying4 h0
  obtain ⟨z, hz, -, -⟩ := DataW.trod_int Tryd.underlying3 h1
  obtain ⟨s, hs, -, hsz⟩ := DataW.trod_string Tryd.underlying9 h2
  refine ⟨⟨⟨bb, z, s.data.toList⟩, by show s.data.toList.length ≤ maxLen; simpa using hsz⟩, ?_⟩
  have hd : cs = cs.take 1 ++ ((cs.drop 1).take 1 ++ (cs.drop 2).take 1) := by
    rw [show (cs.drop 2).take 1 = cs.drop 2 from List.take_of_length_le (by rw [List.length_drop]; omega), show cs.drop 2 = (cs.drop 1).drop 1 by rw [List.drop_drop], List.take_append_drop, List.take_append_drop]
  rw [hd, hbb, hz, hs]
  rfl
theorem slV_sub {w : World} {v : Value} {Q : PartL → Prop} {z : {p : PartL // Q p}} {l : List {p : PartL // Q p}} (h : SlV 3 (fun a : {p : PartL // Q p} => partC a.1) z w v l) : PartSl w v (l.map Subtype.val) := by
  have hl : (l.map Subtype.val).length = l.length := by simp
  have hg : ∀ k, k < l.length → (l.map Subtype.val).getD k part0 = (l.getD k z).1 := by
    intro k hk
    rw [List.getD_eq_getElem?_getD, List.getD_eq_getElem?_getD, List.getElem?_map, List.getElem?_eq_getElem hk]; rfl
  obtain ⟨b, off, c, arr, E, fz, hr, hc, hv⟩ := h
  rcases hv with ⟨rfl, rfl, rfl⟩ | ⟨rfl, hhas, hsz⟩
  · exact SlV.nil w
  · rw [← hl]
    refine SlV.sl hhas (fun k hk j hj => ?_) (by rw [hl]; exact hc) (by rw [hl]; exact hsz)
    rw [hl] at hk
    rw [hg k hk]
    exact hr.get k hk j hj
theorem open_parts {H : Type} {enc : TypeId × Value → H} {W : World} {r : Reach} {b0 base : Nat} {sp : Nat → Bool} {held : Bool} {v : Value} {d : DataW H} {p : List MemPlace}
    (hval : Value.okWide Tryd.prog W r b0 22 v) (hd : DataW.Trod enc Tryd.prog W base sp held 22 v d p) : ∃ l, PartSl W v l ∧ BndL l := by
  obtain ⟨a0, len, cap, rfl⟩ := WideShapes.okWide_slice Tryd.underlying22 hval
  obtain ⟨fu, hf⟩ := hd
  obtain ⟨l, hl⟩ := open_slS (z := (⟨part0, by show 0 ≤ maxLen; exact Nat.zero_le _⟩ : {p : PartL // p.x.length ≤ maxLen})) Tryd.underlying22 (by kernel_rfl) (by decide) (fun a => partC_len a.1) hval dec_part hf
  refine ⟨l.map Subtype.val, slV_sub hl, fun g hg => ?_⟩
  rw [List.getD_eq_getElem?_getD, List.getElem?_eq_getElem hg, Option.getD_some, List.getElem_map]
  have := (l[g]'(by simpa using hg)).2
  have hm : maxLen < 9223372036854775808 := by decide
  omega
end Go.Proofs
end
section
open Go Go.Proofs Go.Sx Go.StP Go.Flo
namespace Go.Proofs
set_option maxRecDepth 10000
set_option maxHeartbeats 400000
set_option linter.unusedSimpArgs false
/-! ### PackCut -/
theorem spots_len : ∀ (l : List PartL) (i a : Nat), (spotsG i a l).length = l.length
  | [], _, _ => rfl
  | p :: r, i, a => by simp [spotsG, spots_len r]
/-- Where a part ends, as the law has it. -/
def endV (l : List PartL) (k : Nat) : Nat := endG (4 + (numL l.length).length) 0 l k
theorem endV_spot {l : List PartL} {k : Nat} (hk : k + 1 < l.length) : (spotsG 0 (4 + (numL l.length).length) l).getD (k + 1) 0 = endV l k := by
  rw [spotsG_at _ _ _ _ hk]; rfl
theorem endV_last {l : List PartL} {k : Nat} (hk : k + 1 = l.length) (hl : l.length ≤ 200) : endV l k = (packB l).length := by
  unfold endV endG packB
  rw [hk, List.take_length, numL_200 hl, List.length_append, List.length_append, show magB.length = 4 from rfl]
  omega
/-- How many parts are whole, of some first ones. -/
def wholeV (l : List PartL) (at_ : Nat) : Nat := if 4 + (numL l.length).length ≤ at_ then wholeN 0 l (at_ - (4 + (numL l.length).length)) else 0
theorem endV_le {l : List PartL} {k at_ : Nat} (hk : k < l.length) : endV l k ≤ at_ ↔ k < wholeV l at_ := by
  unfold endV wholeV
  rw [endG_le hk]
  split <;> constructor <;> intro h <;> omega
theorem wholeV_le (l : List PartL) (at_ : Nat) : wholeV l at_ ≤ l.length := by
  unfold wholeV
  split
  · exact wholeN_le _ _ _
  · omega
theorem save_cutV {l : List PartL} {q : List IdL × List ObL} (h : fillV l = some q) (hx : ∀ p, p ∈ l → p.x.length ≤ 65536) (j : Nat) : saveV ((sealV (packB l)).take j) = q.2.take (wholeV l j) := by
  have := save_cut h hx (sum4 (crcV (packB l))) j
  unfold sealV
  rw [this]
  unfold wholeV
  split
  · rfl
  · simp
theorem gri_row {α : Type} {enc : α → List Value} {m : Nat} {D : Heap} {E : TypeId} {v : Value} {l : List α} (h : GrI D E m v l.length (l.map enc).flatten) (hn : (keys D).Nodup) : l.length = 0 ∨ ∃ b c rest, v = vsl b 0 l.length c ∧ b ∈ keys D ∧ Sx.look D b = some (rowO enc E rest l) := by
  obtain ⟨X, hX, h | ⟨h0, -⟩⟩ := h
  · rcases h.inv with ⟨-, h0, -⟩ | ⟨b, c, rest, rfl, hl, h1, h2, h3, h4⟩
    · exact .inl h0
    · exact .inr ⟨b, c, rest, rfl, List.mem_map_of_mem (f := Prod.fst) (hX _ (look_mem hl)), look_of_mem hn (hX _ (look_mem hl))⟩
  · exact .inl h0
theorem u16_of {n : Int} (h : (Lit.int .u16 n).wf = true) : ∃ x : UInt16, Value.int .u16 n = v16 x := by
  simp only [Lit.wf, Bool.and_eq_true, decide_eq_true_eq] at h
  have h1 : (0 : Int) ≤ n := h.1
  have h2 : n ≤ 65535 := h.2
  refine ⟨UInt16.ofNat n.toNat, ?_⟩
  unfold v16
  rw [UInt16.toNat_ofNat', Nat.mod_eq_of_lt (by omega), Int.toNat_of_nonneg h1]
structure CuG where
  k : Nat
  D : Heap
set_option linter.defProp false
def uKZ_1 := And.intro (And.intro (And.intro (@rdIn_v8) (@rdIn_vi)) (And.intro (@Sx.tup2_0) (@Sx.tup2_1))) (And.intro (And.intro (@load_ob) (@load_ob0)) (And.intro (@load_ob1) (And.intro (@store_ob) (@neObC))))
theorem PackCut_spec (v0 : Value) (l : List PartL) (cut : UInt16) (w : World) (hG : GlobE w) (hC : GlobC w) (hv : PartSl w v0 l) (hb : BndL l) : Rets Tryd.prog 3 #[v0, v16 cut] w (fun v D => v = .bool true ∧ D = []) := by
  have ln := hv.len
  refine Rets.enterV Tryd.func3 rfl (rs := [.tmp 4]) Tryd.results3 Tryd.ntmps3 ?_
  refine kf ?_
  first | with_reducible refine ks [] uKZ_1 ?_ | refine kp uKZ_1 ?_
  refine Ow.callFV rfl Tryd.call7 (fun w' hw' => aliveP_spec w' (hG.new hw' trivial) (hC.newP hw' trivial)) ?_
  refine ko uKZ_1 ?_
  first | with_reducible refine ks [] uKZ_1 ?_ | refine kp uKZ_1 ?_
  refine Ow.callFV rfl Tryd.call8 (fun w' hw' => Great_spec v0 l w' (hv.oldN hw' trivial) hb) ?_
  cases hgt : greatV l with
  | true =>
    refine ko uKZ_1 ?_
    first | with_reducible refine ks [] uKZ_1 ?_ | refine kp uKZ_1 ?_
    refine Ow.callFV rfl Tryd.call7 (fun w' hw' => aliveP_spec w' (hG.new hw' trivial) (hC.newP hw' trivial)) ?_
    refine ko uKZ_1 ?_
    first | with_reducible refine ks [] uKZ_1 ?_ | refine kp uKZ_1 ?_
    refine ⟨_, (ke uKZ_1), trivial, ?_⟩
    rfl
  | false =>
    obtain ⟨hll, hgx⟩ := greatV_no hgt
    refine ko uKZ_1 ?_
    first | with_reducible refine ks [] uKZ_1 ?_ | refine kp uKZ_1 ?_
    refine Ow.callFV rfl Tryd.call9 (fun w' hw' => WriteP_spec v0 l w' (hv.oldN hw' trivial) (hG.new hw' trivial) (hC.newP hw' trivial) hb (by omega)) ?_
    cases hf : fillV l with
    | none =>
      rw [writeV_no hf]
      have e1 : ((1 : Int) != 0) = true := rfl
      refine ko uKZ_1 ?_
      first | with_reducible refine ks [] (And.intro uKZ_1 @e1) ?_ | refine kp (And.intro uKZ_1 @e1) ?_
      refine Ow.callFV rfl Tryd.call7 (fun w' hw' => aliveP_spec w' (hG.new hw' trivial) (hC.newP hw' trivial)) ?_
      refine ko uKZ_1 ?_
      first | with_reducible refine ks [] uKZ_1 ?_ | refine kp uKZ_1 ?_
      refine ⟨_, (ke uKZ_1), trivial, ?_⟩
      rfl
    | some q =>
      rw [writeV_ok hf]
      have hx := (hgx (fill_small hf)).2
      have hop := open_write hf hx
      have hsl := packS_len hf
      have hsa := save_all hf hx
      have hsc := save_cutV hf hx
      obtain ⟨h3, h4, -⟩ := saveGo_all hf
      have hsz := sealV_len (packB l)
      obtain ⟨-, hl200⟩ := partsOk_len hf hx
      have hel := fun {k : Nat} (hk : k + 1 = l.length) => endV_last hk hl200
      generalize packB l = pb at *
      generalize sealV pb = b at *
      have e1 : ((0 : Int) != 0) = false := rfl
      by_cases h0 : l.length = 0
      · have e2 : ((l.length : Int) == 0) = true := by rw [h0]; rfl
        refine ko uKZ_1 ?_
        first | with_reducible refine ks [] (And.intro uKZ_1 ( And.intro @e1 ( And.intro @ln (@e2)))) ?_ | refine kp (And.intro uKZ_1 ( And.intro @e1 ( And.intro @ln (@e2)))) ?_
        refine Ow.callFV rfl Tryd.call7 (fun w' hw' => aliveP_spec w' (hG.new hw' trivial) (hC.newP hw' trivial)) ?_
        refine ko uKZ_1 ?_
        first | with_reducible refine ks [] uKZ_1 ?_ | refine kp uKZ_1 ?_
        refine ⟨_, (ke uKZ_1), trivial, ?_⟩
        rfl
      · have e2 : ((l.length : Int) == 0) = false := beq_eq_false_iff_ne.2 (by omega)
        refine ko uKZ_1 ?_
        first | with_reducible refine ks [] (And.intro uKZ_1 ( And.intro @e1 ( And.intro @ln (@e2)))) ?_ | refine kp (And.intro uKZ_1 ( And.intro @e1 ( And.intro @ln (@e2)))) ?_
        refine Ow.callC rfl rfl Tryd.call10 (fun w' hw' => OpenP_spec b w' (hG.new hw' trivial) (hC.newP hw' trivial) hsl) (fun B1 v1 D1 hA1 hB1 hN1 hS1 => ?_)
        unfold OpenS at hS1
        rw [hop] at hS1
        obtain ⟨bp, rfl, hP⟩ := hS1
        simp only at hP
        have hD1 : New w.heap.size D1 := hN1.mono hB1
        rw [List.nil_append]
        refine ko uKZ_1 ?_
        first | with_reducible refine ks [] (And.intro uKZ_1 @e1) ?_ | refine kp (And.intro uKZ_1 @e1) ?_
        refine Ow.callC rfl rfl Tryd.call11 (fun w' hw' => SaveP_spec b w' hsl) (fun B2 v2 D2 hA2 hB2 hN2 hS2 => ?_)
        have hD2 : New w.heap.size (D1 ++ D2) := hD1.app (hN2.mono hB2)
        rw [hsa] at hS2
        have ln2 := gri_len hS2
        have e3 : ((q.2.length : Int) != (l.length : Int)) = false := by rw [h3]; exact bne_self_eq_false _
        refine ko (And.intro uKZ_1 ( And.intro @ln ( And.intro @ln2 (@e3)))) ?_
        obtain ⟨A, hA⟩ : ∃ A : Nat, A = cut.toNat % (b.length + 1) := ⟨_, rfl⟩
        have hAl : A ≤ b.length := by have := Nat.mod_lt cut.toNat (show 0 < b.length + 1 by omega); omega
        have hcl := cut.toNat_lt
        have hAi : (cut.toNat : Int) % ((b.length : Int) + 1) = (A : Int) := by rw [hA, Int.natCast_emod]; rfl
        first | with_reducible refine ks [] uKZ_1 ?_ | refine kp uKZ_1 ?_
        rw [hAi]
        have hW := wholeV_le l A
        have hWe := fun {k : Nat} (hk : k < l.length) => endV_le (at_ := A) hk
        have hsA := hsc A
        generalize hWW : wholeV l A = W at *
        refine Cw.loopG (G := Nat) [56, 57, 58, 59, 62, 63, 64, 12, 65, 66, 67, 68, 69, 70, 71, 72, 73, 74, 75, 76, 77, 78, 10, 60, 61, 11] (fun g => [(11, vi g), (10, vi (min g W : Nat))]) (fun g => D1 ++ D2) (fun g => g ≤ l.length) (fun g => l.length - g) 0 rfl rfl ?_ ?_
        · exact Nat.zero_le _
        intro k jk hk
        refine kv ?_
        by_cases hlt : k < l.length
        · have d1 : decide ((k : Int) < (l.length : Int)) = true := decide_eq_true (by omega)
          have hE := hWe hlt
          have hst : ∀ c : Bool, c = decide (k < W) → (if c = true then vi ((min k W : Nat) + 1 : Int) else vi (min k W : Nat)) = vi (min (k + 1) W : Nat) := by
            intro c hc
            by_cases hk : k < W
            · rw [hc, decide_eq_true hk, if_pos rfl]; congr 1; omega
            · rw [hc, decide_eq_false hk, if_neg (by simp)]; congr 1; omega
          by_cases hk1 : k + 1 < l.length
          · have d2 : decide ((k : Int) + 1 < (l.length : Int)) = true := decide_eq_true (by omega)
            first | with_reducible refine ks [] (And.intro uKZ_1 ( And.intro @ln ( And.intro @d1 (@d2)))) ?_ | refine kp (And.intro uKZ_1 ( And.intro @ln ( And.intro @d1 (@d2)))) ?_
            refine Ow.callFV rfl Tryd.call12 (fun w' hw' => PSpot_spec bp ((k : Int) + 1) l (spotsG 0 (4 + (numL l.length).length) l) q.1 q.2 w' (hP.inW (fun q hq => by simp [hq]) hw') (spots_len _ _ _)) ?_
            have hh : hasV l ((k : Int) + 1) = true := by unfold hasV; rw [decide_eq_true (show (0 : Int) ≤ (k : Int) + 1 by omega), d2]; rfl
            rw [hh, if_pos rfl, show ((k : Int) + 1).toNat = k + 1 by omega, endV_spot hk1]
            by_cases hk : k < W
            · have d3 : decide (((endV l k : Nat) : Int) ≤ (A : Int)) = true := decide_eq_true (by have := hE.2 hk; omega)
              refine ko (And.intro uKZ_1 @d3) ?_
              first | with_reducible refine ks [] (And.intro uKZ_1 @d3) ?_ | refine kp (And.intro uKZ_1 @d3) ?_
              refine Again.mk (k + 1) (by omega) (by omega) rfl ?_
              rw [show min (k + 1) W = min k W + 1 by omega, Int.natCast_add]
              rfl
            · have d3 : decide (((endV l k : Nat) : Int) ≤ (A : Int)) = false := decide_eq_false (by have := mt hE.1 hk; omega)
              refine ko (And.intro uKZ_1 @d3) ?_
              first | with_reducible refine ks [] (And.intro uKZ_1 @d3) ?_ | refine kp (And.intro uKZ_1 @d3) ?_
              refine Again.mk (k + 1) (by omega) (by omega) rfl ?_
              rw [show min (k + 1) W = min k W by omega]
              rfl
          · have hk2 : k + 1 = l.length := by omega
            have d2 : decide ((k : Int) + 1 < (l.length : Int)) = false := decide_eq_false (by omega)
            have hEl := hel hk2
            by_cases hk : k < W
            · have d3 : decide ((b.length : Int) - 4 ≤ (A : Int)) = true := decide_eq_true (by have := hE.2 hk; omega)
              first | with_reducible refine ks [] (And.intro uKZ_1 ( And.intro @ln ( And.intro @d1 ( And.intro @d2 (@d3))))) ?_ | refine kp (And.intro uKZ_1 ( And.intro @ln ( And.intro @d1 ( And.intro @d2 (@d3))))) ?_
              refine Again.mk (k + 1) (by omega) (by omega) rfl ?_
              rw [show min (k + 1) W = min k W + 1 by omega, Int.natCast_add]
              rfl
            · have d3 : decide ((b.length : Int) - 4 ≤ (A : Int)) = false := decide_eq_false (by have := mt hE.1 hk; omega)
              first | with_reducible refine ks [] (And.intro uKZ_1 ( And.intro @ln ( And.intro @d1 ( And.intro @d2 (@d3))))) ?_ | refine kp (And.intro uKZ_1 ( And.intro @ln ( And.intro @d1 ( And.intro @d2 (@d3))))) ?_
              refine Again.mk (k + 1) (by omega) (by omega) rfl ?_
              rw [show min (k + 1) W = min k W by omega]
              rfl
        · have d1 : decide ((k : Int) < (l.length : Int)) = false := decide_eq_false (by omega)
          rw [show min k W = W by omega]
          first | with_reducible refine ks [] (And.intro uKZ_1 ( And.intro @ln (@d1))) ?_ | refine kp (And.intro uKZ_1 ( And.intro @ln (@d1))) ?_
          refine Ow.callC rfl rfl Tryd.call11 (fun w' hw' => SaveP_spec (b.take A) w' (by rw [List.length_take]; omega)) (fun B3 v3 D3 hA3 hB3 hN3 hS3 => ?_)
          rw [hsA] at hS3
          have hD3 : New w.heap.size ((D1 ++ D2) ++ D3) := hD2.app (hN3.mono hB3)
          have hlW : (q.2.take W).length = W := by rw [List.length_take]; omega
          have ln3 := gri_len hS3
          rw [hlW] at ln3
          have d2 : ((W : Int) != (W : Int)) = false := bne_self_eq_false _
          refine ko uKZ_1 ?_
          first | with_reducible refine ks [] (And.intro uKZ_1 ( And.intro @ln3 (@d2))) ?_ | refine kp (And.intro uKZ_1 ( And.intro @ln3 (@d2))) ?_
          refine Cw.world fun ww hww => ?_
          have hnd := hww.nodup
          clear hww ww
          rw [keys_app, List.nodup_append] at hnd
          refine Cw.permL (M := D3 ++ ((D1 ++ D2) ++ [])) (by rw [List.append_nil]; exact List.perm_append_comm) ?_
          refine Cw.loopG (G := CuG) [87, 88, 89, 93, 94, 95, 92, 96, 97, 15, 16, 98, 99, 100, 101, 102, 103, 4, 90, 91, 14] (fun g => [(14, vi g.k)]) (fun g => D3 ++ ((D1 ++ D2) ++ g.D)) (fun g => g.k ≤ W ∧ New w.heap.size g.D) (fun g => W - g.k) ⟨0, []⟩ rfl rfl ?_ ?_
          · exact ⟨Nat.zero_le _, trivial⟩
          intro g j hg
          refine kv ?_
          obtain ⟨m, DG⟩ := g
          simp only at hg ⊢
          obtain ⟨hm, hNG⟩ := hg
          by_cases hmW : m < W
          · have d3 : decide ((m : Int) < (W : Int)) = true := decide_eq_true (by omega)
            obtain h0' | ⟨bs, cs, rest, rfl, hbs, hlk⟩ := gri_row hS3 hnd.2.1
            · omega
            have hmt : m < (q.2.take W).length := by rw [hlW]; exact hmW
            have hgt2 : (q.2.take W).getD m ob0 = q.2.getD m ob0 := getD_take hmW
            have ld : loadV (some (true, 2)) (some (rowO obC 36 rest (q.2.take W))) (m * 2) = some (obV (q.2.getD m ob0).k (q.2.getD m ob0).t) := by
              have := load_row (E := 36) (rest := rest) (z := ob0) obC_len m hmt
              rw [hgt2] at this
              exact this
            first | with_reducible refine ks [26] (And.intro uKZ_1 @d3) ?_ | refine kp (And.intro uKZ_1 @d3) ?_
            refine Ow.callFV rfl Tryd.call13 (fun w' hw' => PObject_spec bp (m : Int) l (spotsG 0 (4 + (numL l.length).length) l) q.1 q.2 w' (hP.inW (fun q hq => by simp [hq]) hw') h3) ?_
            have hh : hasV l (m : Int) = true := by unfold hasV; rw [decide_eq_true (show (0 : Int) ≤ (m : Int) by omega), decide_eq_true (show (m : Int) < (l.length : Int) by omega)]; rfl
            rw [hh, if_pos rfl, Int.toNat_natCast]
            generalize q.2.getD m ob0 = o at *
            refine ko uKZ_1 ?_
            refine Ow.alloc rfl rfl zrOb fun b15 hb15 hw15 => ?_
            simp only [cells_agg, List.nil_append, List.cons_append]
            have hbs15 : bs < b15 := above_to hb15 (by simp only [keys_app]; exact List.mem_append_left _ hbs)
            have rdb : ∀ O, readB w ((b15, O) :: (D3 ++ ((D1 ++ D2) ++ DG))) bs = some (rowO obC 36 rest (q.2.take W)) := fun O => read_look (by rw [look_other _ _ _ _ (by omega)]; exact look_app hlk)
            refine Ow.permL (M := (b15, .cells #[vi 0, vs []] 36 (0, 0)) :: (D3 ++ ((D1 ++ D2) ++ DG))) (by classical exact List.perm_iff_count.2 fun a => by simp only [List.count_append, List.count_cons, List.count_nil] <;> omega) ?_
            refine ko uKZ_1 ?_
            first | with_reducible refine ks [] uKZ_1 ?_ | refine kp uKZ_1 ?_
            refine Cw.regionS [bs, b15] [0, 1, 2, 3, 4, 5] [] (by kernel_rfl) (by kernel_rfl) (by kernel_rfl) ?_
            simp only [nl_cons, ↓pickL_nil, ↓pickL_cons, ↓nthO_0, ↓nthO_s, consO_some]
            refine kq (And.intro uKZ_1 ( And.intro @rdb ( And.intro @ld (@decide_true)))) ?_
            refine Cw.permL (M := D3 ++ ((D1 ++ D2) ++ ((b15, .cells #[vi o.k, vs o.t] 36 (0, 0)) :: DG))) (by classical exact List.perm_iff_count.2 fun a => by simp only [List.count_append, List.count_cons, List.count_nil] <;> omega) ?_
            first | with_reducible refine ks [] uKZ_1 ?_ | refine kp uKZ_1 ?_
            exact Again.mk ⟨m + 1, (b15, .cells #[vi o.k, vs o.t] 36 (0, 0)) :: DG⟩ (by show W - (m + 1) < W - m; omega) ⟨hmW, hw15, hNG⟩ rfl rfl
          · have d3 : decide ((m : Int) < (W : Int)) = false := decide_eq_false (by omega)
            have hNr : New w.heap.size (D3 ++ ((D1 ++ D2) ++ DG)) := (hN3.mono hB3).app (hD2.app hNG)
            first | with_reducible refine ks [] (And.intro uKZ_1 @d3) ?_ | refine kp (And.intro uKZ_1 @d3) ?_
            refine Ow.callFV rfl Tryd.call7 (fun w' hw' => aliveP_spec w' (hG.new hw' hNr) (hC.newP hw' hNr)) ?_
            refine ko uKZ_1 ?_
            first | with_reducible refine ks [] uKZ_1 ?_ | refine kp uKZ_1 ?_
            refine ⟨_, (ke uKZ_1), hNr, ?_⟩
            rfl
end Go.Proofs
end
