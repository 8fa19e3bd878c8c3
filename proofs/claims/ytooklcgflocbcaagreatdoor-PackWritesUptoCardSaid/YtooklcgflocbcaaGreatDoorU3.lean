/-
  Part 3 of the walk: contracts of the functions that the law reaches, and the calculus they stand on.
  No conditions.
-/
import Derived.Test.YtooklcgflocbcaaGreatDoorU2
import Derived.Laws.MakeOwn
section
open Go Go.Proofs Go.Sx Go.StP Go.Flo
namespace Go.Proofs
set_option maxRecDepth 10000
set_option maxHeartbeats 400000
set_option linter.unusedSimpArgs false
/-! ### Pieces that are right -/
theorem cvIF : cvT Tryz.prog 3 301 = .no := id (by kernel_rfl)
theorem cvFI : cvT Tryz.prog 301 3 = .no := id (by kernel_rfl)
set_option linter.defProp false
def uKB_1 := And.intro (@rdIn_v8) (And.intro (@rdIn_vi) (@binX_fleq))
theorem whole_spec (x a b : Int) (w : World) (hx : x.natAbs < 8192) (ha : a.natAbs < 8192) (hb : b.natAbs < 8192) :
    Rets Tryz.prog 237 #[fl x, vi a, vi b] w (fun v D => v = .bool (decide (a ≤ x ∧ x ≤ b)) ∧ D = []) := by
  refine Rets.enterV Tryz.func237 rfl (rs := [.tmp 6]) Tryz.results237 Tryz.ntmps237 ?_
  refine kf ?_
  first | with_reducible refine ks [] @uKB_1 ?_ | refine kp @uKB_1 ?_
  refine Ow.convIF rfl rfl cvIF Tryz.underlying3 Tryz.underlying301 rfl ?_
  refine Ow.fgeq rfl rfl rfl hx ha ?_
  by_cases h1 : a ≤ x
  · rw [decide_eq_true h1]
    refine ko @uKB_1 ?_
    refine Ow.convIF rfl rfl cvIF Tryz.underlying3 Tryz.underlying301 rfl ?_
    refine Ow.fleq rfl rfl rfl hx hb ?_
    by_cases h2 : x ≤ b
    · rw [decide_eq_true h2]
      refine ko @uKB_1 ?_
      refine Ow.convFI rfl rfl cvFI Tryz.underlying301 Tryz.underlying3 rfl hx ?_
      refine Ow.convIF rfl rfl cvIF Tryz.underlying3 Tryz.underlying301 rfl ?_
      refine ko @uKB_1 ?_
      refine Ow.feql rfl rfl rfl hx hx ?_
      rw [show (x == x) = true by simp]
      refine ko @uKB_1 ?_
      first | with_reducible refine ks [] @uKB_1 ?_ | refine kp @uKB_1 ?_
      refine ⟨_, (ke @uKB_1), trivial, ?_⟩
      rw [decide_eq_true ⟨h1, h2⟩]; rfl
    · rw [decide_eq_false h2]
      refine ko @uKB_1 ?_
      first | with_reducible refine ks [] @uKB_1 ?_ | refine kp @uKB_1 ?_
      refine ⟨_, (ke @uKB_1), trivial, ?_⟩
      rw [decide_eq_false (fun h => h2 h.2)]; rfl
  · rw [decide_eq_false h1]
    refine ko @uKB_1 ?_
    first | with_reducible refine ks [] @uKB_1 ?_ | refine kp @uKB_1 ?_
    refine ⟨_, (ke @uKB_1), trivial, ?_⟩
    rw [decide_eq_false (fun h => h1 h.1)]; rfl
theorem load_pc0 (p : PcL) (E : TypeId) (n : Nat) : loadV (some (false, n)) (some (.cells (pcC p).toArray E (0, 0))) 0 = some (cx p.a p.n) := (rfl)
theorem load_pc1 (p : PcL) (E : TypeId) (n : Nat) : loadV (some (false, n)) (some (.cells (pcC p).toArray E (0, 0))) 1 = some (vs p.x) := (rfl)
theorem load_pc (p : PcL) (E : TypeId) : loadV (some (true, 2)) (some (.cells (pcC p).toArray E (0, 0))) 0 = some (.agg (pcC p).toArray) := load_all _ E (0, 0) 2 rfl
theorem cells_pc (p : PcL) : Value.cells (.agg (pcC p).toArray) = (pcC p).toArray := cells_agg _
theorem zrPc : zeroV Tryz.prog 300 = some (.agg (pcC pc0).toArray) := id (by kernel_rfl)
theorem store_pc (p q : PcL) (E : TypeId) : storeV (some (true, 2)) (some (.cells (pcC q).toArray E (0, 0))) 0 (.agg (pcC p).toArray) = some (.cells (pcC p).toArray E (0, 0)) := by
  have := store_whole (pcC p) (n := 2) true (pcC q).toArray E rfl (pcC_one p) rfl
  exact this
/-- What 'copied' tells. -/
def cpO (p : PcL) (b : Int) : Value := match cpV p b with
  | some q => .tuple #[vi q.1, vi q.2, .bool true]
  | none => .tuple #[vi 0, vi 0, .bool false]
theorem cpO_no {p : PcL} {b : Int} (h : ¬ (1 ≤ p.n ∧ p.n ≤ 4099 ∧ p.x = [] ∧ (p.a : Int) ≤ b - p.n)) : cpO p b = .tuple #[vi 0, vi 0, .bool false] := by
  unfold cpO cpV; rw [if_neg h]
theorem cpO_yes {p : PcL} {b : Int} (h : 1 ≤ p.n ∧ p.n ≤ 4099 ∧ p.x = [] ∧ (p.a : Int) ≤ b - p.n) : cpO p b = .tuple #[vi p.a, vi p.n, .bool true] := by
  unfold cpO cpV; rw [if_pos h]
theorem cxz : (Value.complex FloatKind.f64 0 0) = cx 0 0 := id (by kernel_rfl)
set_option linter.defProp false
def uKB_2 := And.intro (And.intro (And.intro (And.intro (@rdIn_v8) (@rdIn_vi)) (And.intro (@load_pc0) (@load_pc1))) (And.intro (And.intro (@load_pc) (@cells_pc)) (And.intro (@binX_cxeq) (@cxz)))) (And.intro (And.intro (And.intro (@vcB_real) (@vcB_imag)) (And.intro (@vcB_complex) (@Sx.tup2_0))) (And.intro (And.intro (@Sx.tup2_1) (@Sx.tup3_0)) (And.intro (@Sx.tup3_1) (@Sx.tup3_2))))
theorem copied_spec (p : PcL) (b : Int) (w : World) (hp : PcB p) (h0 : 0 ≤ b) (h1 : b ≤ 4099) :
    Rets Tryz.prog 227 #[.agg (pcC p).toArray, vi b] w (fun v D => v = cpO p b ∧ D = []) := by
  obtain ⟨hpa, hpn⟩ := hp
  refine Rets.enterV Tryz.func227 rfl (rs := [.tmp 4, .tmp 5, .tmp 6]) Tryz.results227 Tryz.ntmps227 ?_
  refine kf ?_
  first | with_reducible refine ks [] @uKB_2 ?_ | refine kp @uKB_2 ?_
  refine Ow.box rfl rfl fun b2 hb2 hw2 => ?_
  simp only [ev_tmp, getF_0, getF_s, cells_agg, List.nil_append, List.cons_append]
  refine Ow.go rfl ?_
  simp (disch := (first | assumption | omega | (simp only [lenS, lenT, UInt64.reduceToNat]; try omega))) only [↓Sx.S0, Sx.S1, Tryz.fx, uKB_2, Nat.reduceAdd, Nat.reducePow, Int.reducePow, Nat.reduceBEq, ↓reduceIte, UInt8.reduceToNat, UInt16.reduceToNat, UInt32.reduceToNat, UInt64.reduceToNat, Int.reduceToNat]
  first | with_reducible refine ks [] @uKB_2 ?_ | refine kp @uKB_2 ?_
  refine Ow.imag rfl rfl ?_
  refine Ow.callFV rfl Tryz.call237 (fun w' hw' => whole_spec (p.n : Int) 1 4099 w' (by omega) (by omega) (by omega)) ?_
  by_cases c1 : 1 ≤ p.n
  · rw [decide_eq_true (show (1 : Int) ≤ (p.n : Int) ∧ (p.n : Int) ≤ 4099 by omega)]
    have n1 : (!true) = false := rfl
    by_cases c2 : p.x = []
    · have d2 : (p.x != []) = false := by rw [c2]; rfl
      refine ko (And.intro @uKB_2 ( And.intro @n1 (@d2))) ?_
      first | with_reducible refine ks [] @uKB_2 ?_ | refine kp @uKB_2 ?_
      refine Ow.imag rfl rfl ?_
      refine Ow.convFI rfl rfl cvFI Tryz.underlying301 Tryz.underlying3 rfl (by omega) ?_
      refine ko @uKB_2 ?_
      first | with_reducible refine ks [] @uKB_2 ?_ | refine kp @uKB_2 ?_
      refine Ow.real rfl rfl ?_
      refine ko @uKB_2 ?_
      refine Ow.callFV rfl Tryz.call237 (fun w' hw' => whole_spec (p.a : Int) 0 (b - p.n) w' (by omega) (by omega) (by omega)) ?_
      by_cases c3 : (p.a : Int) ≤ b - p.n
      · rw [decide_eq_true (show (0 : Int) ≤ (p.a : Int) ∧ (p.a : Int) ≤ b - p.n by omega)]
        refine ko (And.intro @uKB_2 @n1) ?_
        first | with_reducible refine ks [] @uKB_2 ?_ | refine kp @uKB_2 ?_
        refine Ow.real rfl rfl ?_
        refine Ow.convFI rfl rfl cvFI Tryz.underlying301 Tryz.underlying3 rfl (by omega) ?_
        refine ko @uKB_2 ?_
        first | with_reducible refine ks [] @uKB_2 ?_ | refine kp @uKB_2 ?_
        refine ⟨_, (ke @uKB_2), ⟨hw2, trivial⟩, ?_⟩
        rw [cpO_yes ⟨c1, hpn, c2, c3⟩]; rfl
      · rw [decide_eq_false (show ¬ ((0 : Int) ≤ (p.a : Int) ∧ (p.a : Int) ≤ b - p.n) by omega)]
        have n2 : (!false) = true := rfl
        refine ko (And.intro @uKB_2 @n2) ?_
        first | with_reducible refine ks [] @uKB_2 ?_ | refine kp @uKB_2 ?_
        refine ⟨_, (ke @uKB_2), ⟨hw2, trivial⟩, ?_⟩
        rw [cpO_no fun h => c3 h.2.2.2]; rfl
    · have d2 : (p.x != []) = true := by simpa using c2
      refine ko (And.intro @uKB_2 ( And.intro @n1 (@d2))) ?_
      first | with_reducible refine ks [] @uKB_2 ?_ | refine kp @uKB_2 ?_
      refine ⟨_, (ke @uKB_2), ⟨hw2, trivial⟩, ?_⟩
      rw [cpO_no fun h => c2 h.2.2.1]; rfl
  · rw [decide_eq_false (show ¬ ((1 : Int) ≤ (p.n : Int) ∧ (p.n : Int) ≤ 4099) by omega)]
    have n2 : (!false) = true := rfl
    refine ko (And.intro @uKB_2 @n2) ?_
    first | with_reducible refine ks [] @uKB_2 ?_ | refine kp @uKB_2 ?_
    refine ⟨_, (ke @uKB_2), ⟨hw2, trivial⟩, ?_⟩
    rw [cpO_no fun h => c1 h.1]; rfl
theorem pcLen_copy {p : PcL} {b : Int} (h : ¬ (p.a = 0 ∧ p.n = 0 ∧ p.x.length ≤ 4099)) : pcLen p b = match cpV p b with | some q => q.2 | none => 0 := by
  unfold pcLen; rw [if_neg h] <;> cases cpV p b <;> rfl
theorem length_spec (p : PcL) (b : Int) (w : World) (hp : PcB p) (h0 : 0 ≤ b) (h1 : b ≤ 4099) (hx : p.x.length < 9223372036854775808) :
    Rets Tryz.prog 236 #[.agg (pcC p).toArray, vi b] w (fun v D => v = vi (pcLen p b : Nat) ∧ D = []) := by
  have hp' := hp
  obtain ⟨hpa, hpn⟩ := hp'
  refine Rets.enterV Tryz.func236 rfl (rs := [.tmp 4]) Tryz.results236 Tryz.ntmps236 ?_
  refine kf ?_
  first | with_reducible refine ks [] @uKB_2 ?_ | refine kp @uKB_2 ?_
  refine Ow.box rfl rfl fun b2 hb2 hw2 => ?_
  simp only [ev_tmp, getF_0, getF_s, cells_agg, List.nil_append, List.cons_append]
  refine Ow.go rfl ?_
  simp (disch := (first | assumption | omega | (simp only [lenS, lenT, UInt64.reduceToNat]; try omega))) only [↓Sx.S0, Sx.S1, Tryz.fx, uKB_2, Nat.reduceAdd, Nat.reducePow, Int.reducePow, Nat.reduceBEq, ↓reduceIte, UInt8.reduceToNat, UInt16.reduceToNat, UInt32.reduceToNat, UInt64.reduceToNat, Int.reduceToNat]
  first | with_reducible refine ks [] @uKB_2 ?_ | refine kp @uKB_2 ?_
  refine Ow.ceql (a' := 0) (b' := 0) rfl rfl rfl (by omega) (by omega) (by omega) (by omega) ?_
  have tail : ¬ (p.a = 0 ∧ p.n = 0 ∧ p.x.length ≤ 4099) → True := fun _ => trivial
  by_cases hz : p.a = 0 ∧ p.n = 0
  · have e : (((p.a : Nat) : Int) == 0 && ((p.n : Nat) : Int) == 0) = true := by rw [hz.1, hz.2]; rfl
    rw [e]
    by_cases hl : p.x.length ≤ 4099
    · have d1 : decide ((p.x.length : Int) ≤ 4099) = true := decide_eq_true (by omega)
      refine ko (And.intro @uKB_2 @d1) ?_
      first | with_reducible refine ks [] @uKB_2 ?_ | refine kp @uKB_2 ?_
      refine ⟨_, (ke @uKB_2), ⟨hw2, trivial⟩, ?_⟩
      unfold pcLen; rw [if_pos ⟨hz.1, hz.2, hl⟩]; rfl
    · have d1 : decide ((p.x.length : Int) ≤ 4099) = false := decide_eq_false (by omega)
      have hc : cpV p b = none := by unfold cpV; rw [if_neg (by omega)]
      refine ko (And.intro @uKB_2 @d1) ?_
      first | with_reducible refine ks [] @uKB_2 ?_ | refine kp @uKB_2 ?_
      refine Ow.callFV rfl Tryz.call227 (fun w' hw' => copied_spec p b w' hp h0 h1) ?_
      unfold cpO
      rw [hc]
      refine ko @uKB_2 ?_
      first | with_reducible refine ks [] @uKB_2 ?_ | refine kp @uKB_2 ?_
      refine ⟨_, (ke @uKB_2), ⟨hw2, trivial⟩, ?_⟩
      rw [pcLen_copy (fun h => hl h.2.2), hc]; rfl
  · have e : (((p.a : Nat) : Int) == 0 && ((p.n : Nat) : Int) == 0) = false := by
      rw [Bool.and_eq_false_iff]
      by_cases ha : p.a = 0
      · right; rw [beq_eq_false_iff_ne]; omega
      · left; rw [beq_eq_false_iff_ne]; omega
    rw [e]
    refine ko @uKB_2 ?_
    first | with_reducible refine ks [] @uKB_2 ?_ | refine kp @uKB_2 ?_
    refine Ow.callFV rfl Tryz.call227 (fun w' hw' => copied_spec p b w' hp h0 h1) ?_
    unfold cpO
    cases hc : cpV p b with
    | none =>
      simp only
      refine ko @uKB_2 ?_
      first | with_reducible refine ks [] @uKB_2 ?_ | refine kp @uKB_2 ?_
      refine ⟨_, (ke @uKB_2), ⟨hw2, trivial⟩, ?_⟩
      rw [pcLen_copy (fun h => hz ⟨h.1, h.2.1⟩), hc]; rfl
    | some q =>
      simp only
      refine ko @uKB_2 ?_
      first | with_reducible refine ks [] @uKB_2 ?_ | refine kp @uKB_2 ?_
      refine ⟨_, (ke @uKB_2), ⟨hw2, trivial⟩, ?_⟩
      rw [pcLen_copy (fun h => hz ⟨h.1, h.2.1⟩), hc]; rfl
abbrev PcSl (w : World) (v : Value) (l : List PcL) : Prop := SlV 2 pcC pc0 w v l
def BndP (l : List PcL) : Prop := ∀ g, g < l.length → PcB (l.getD g pc0) ∧ (l.getD g pc0).x.length < 9223372036854775808
theorem sumP_take {b : Int} {l : List PcL} {g : Nat} (h : g < l.length) : sumP b (l.take (g + 1)) = sumP b (l.take g) + pcLen (l.getD g pc0) b := by
  rw [take_snoc (z := pc0) h, sumP_snoc]
theorem anyZ_take {b : Int} {l : List PcL} {g : Nat} (h : g < l.length) : anyZ b (l.take (g + 1)) = (anyZ b (l.take g) || pcLen (l.getD g pc0) b == 0) := by
  rw [take_snoc (z := pc0) h]; unfold anyZ; rw [List.any_append]; simp
theorem anyZ_mem {b : Int} {l : List PcL} {g : Nat} (h : g < l.length) (hz : pcLen (l.getD g pc0) b = 0) : anyZ b l = true := by
  unfold anyZ
  rw [List.any_eq_true]
  exact ⟨_, getD_mem (z := pc0) h, by rw [beq_iff_eq]; exact hz⟩
theorem check_spec (b : Int) (v : Value) (l : List PcL) (w : World) (hv : PcSl w v l) (hl : BndP l) (hn : l.length < 1000000000) :
    Rets Tryz.prog 226 #[vi b, v] w (fun v D => v = .tuple #[vi (chkV b l).1, vi (chkV b l).2] ∧ D = []) := by
  obtain ⟨bb, off, arr, E, fz, hr⟩ := hv.row
  have ln := hv.len
  refine Rets.enterV Tryz.func226 rfl (rs := [.tmp 4, .tmp 5]) Tryz.results226 Tryz.ntmps226 ?_
  refine kf ?_
  by_cases hb : b < 0 ∨ 4099 < b
  · have hc : chkV b l = (0, 1) := by unfold chkV; rw [if_pos hb]
    by_cases h1 : b < 0
    · have d1 : decide (b < 0) = true := decide_eq_true h1
      first | with_reducible refine ks [] (And.intro @uKB_2 @d1) ?_ | refine kp (And.intro @uKB_2 @d1) ?_
      refine ⟨_, (ke @uKB_2), trivial, ?_⟩
      rw [hc]; rfl
    · have d1 : decide (b < 0) = false := decide_eq_false h1
      have d2 : decide (4099 < b) = true := decide_eq_true (by omega)
      first | with_reducible refine ks [] (And.intro @uKB_2 ( And.intro @d1 (@d2))) ?_ | refine kp (And.intro @uKB_2 ( And.intro @d1 (@d2))) ?_
      refine ⟨_, (ke @uKB_2), trivial, ?_⟩
      rw [hc]; rfl
  have d1 : decide (b < 0) = false := decide_eq_false (by omega)
  have d2 : decide (4099 < b) = false := decide_eq_false (by omega)
  first | with_reducible refine ks [] (And.intro @uKB_2 ( And.intro @d1 ( And.intro @d2 (@ln)))) ?_ | refine kp (And.intro @uKB_2 ( And.intro @d1 ( And.intro @d2 (@ln)))) ?_
  refine Cw.loopG (G := (Nat × Heap)) [20, 21, 22, 9, 23, 24, 25, 10, 26, 27, 4, 5, 28, 29, 30, 31, 6, 32, 33, 7, 34, 19] (fun q => [(6, vi (min (sumP b (l.take q.1)) 4100 : Nat)), (7, vi (if 4099 < sumP b (l.take q.1) then 19 else 0)), (19, vi q.1)]) (fun q => q.2) (fun q => q.1 ≤ l.length ∧ New w.heap.size q.2 ∧ anyZ b (l.take q.1) = false) (fun q => l.length - q.1) ⟨0, []⟩ rfl rfl ?_ ?_
  · exact ⟨Nat.zero_le _, trivial, rfl⟩
  intro q jq hq
  refine kv ?_
  obtain ⟨g, D⟩ := q
  simp only at hq ⊢
  obtain ⟨hg, hN, hz⟩ := hq
  by_cases hlt : g < l.length
  · have hb0 : 0 < l.length := by omega
    have hbl := hr.lt hb0
    have rd : readB w D bb = some (.cells arr E fz) := by rw [read_none (hN.not hbl)]; exact hr.has hb0
    have i2 := hr.idx true g hlt
    have ld := hr.load pcC_len (by omega) hlt
    obtain ⟨hpb, hpx⟩ := hl g hlt
    have hst := sumP_take (b := b) hlt
    have hat := anyZ_take (b := b) hlt
    have hzz := anyZ_mem (b := b) hlt
    generalize hp : l.getD g pc0 = p at *
    have d3 : decide ((g : Int) < (l.length : Int)) = true := decide_eq_true (by omega)
    have hple := pcLen_le p b
    first | with_reducible refine ks [] (And.intro @uKB_2 ( And.intro @d3 ( And.intro @i2 ( And.intro @rd (@ld))))) ?_ | refine kp (And.intro @uKB_2 ( And.intro @d3 ( And.intro @i2 ( And.intro @rd (@ld))))) ?_
    refine Ow.alloc rfl rfl zrPc fun b9 hb9 hw9 => ?_
    simp only [cells_agg, List.nil_append, List.cons_append]
    refine Ow.permL (M := (b9, .cells (pcC pc0).toArray 300 (0, 0)) :: D) (by classical exact List.perm_iff_count.2 fun a => by simp only [List.count_append, List.count_cons, List.count_nil] <;> omega) ?_
    have hsp := store_pc p pc0 300
    refine ko (And.intro @uKB_2 @hsp) ?_
    first | with_reducible refine ks [] @uKB_2 ?_ | refine kp @uKB_2 ?_
    refine Ow.callFV rfl Tryz.call236 (fun w' hw' => length_spec p b w' hpb (by omega) (by omega) hpx) ?_
    by_cases hk : pcLen p b = 0
    · have d4 : (((pcLen p b : Nat) : Int) == 0) = true := by rw [hk]; rfl
      have hc : chkV b l = (0, 1) := by unfold chkV; rw [if_neg hb, if_pos (hzz hk)]
      refine ko (And.intro @uKB_2 @d4) ?_
      first | with_reducible refine ks [] (And.intro @uKB_2 @d4) ?_ | refine kp (And.intro @uKB_2 @d4) ?_
      refine ⟨_, (ke @uKB_2), ⟨hw9, hN⟩, ?_⟩
      rw [hc]; rfl
    · have d4 : (((pcLen p b : Nat) : Int) == 0) = false := by rw [beq_eq_false_iff_ne]; omega
      refine ko (And.intro @uKB_2 @d4) ?_
      first | with_reducible refine ks [] (And.intro @uKB_2 @d4) ?_ | refine kp (And.intro @uKB_2 @d4) ?_
      refine Ow.minI rfl rfl rfl ?_
      have hm : (if 4100 < ((min (sumP b (l.take g)) 4100 : Nat) : Int) + ((pcLen p b : Nat) : Int) then (4100 : Int) else ((min (sumP b (l.take g)) 4100 : Nat) : Int) + ((pcLen p b : Nat) : Int)) = ((min (sumP b (l.take (g + 1))) 4100 : Nat) : Int) := by
        rw [hst]; split <;> omega
      rw [hm]
      have hN9 : New w.heap.size ((b9, Obj.cells (pcC p).toArray 300 (0, 0)) :: D) := ⟨hw9, hN⟩
      have hz9 : anyZ b (l.take (g + 1)) = false := by rw [hat, hz]; simp [hk]
      by_cases h4 : 4099 < sumP b (l.take (g + 1))
      · have d5 : decide ((4099 : Int) < ((min (sumP b (l.take (g + 1))) 4100 : Nat) : Int)) = true := decide_eq_true (by omega)
        refine ko (And.intro @uKB_2 @d5) ?_
        first | with_reducible refine ks [] (And.intro @uKB_2 @d5) ?_ | refine kp (And.intro @uKB_2 @d5) ?_
        refine Again.mk (g + 1, (b9, Obj.cells (pcC p).toArray 300 (0, 0)) :: D) (by show l.length - (g + 1) < l.length - g; omega) ⟨hlt, hN9, hz9⟩ rfl ?_
        rw [if_pos h4]; rfl
      · have d5 : decide ((4099 : Int) < ((min (sumP b (l.take (g + 1))) 4100 : Nat) : Int)) = false := decide_eq_false (by omega)
        have h5 : ¬ 4099 < sumP b (l.take g) := by omega
        rw [if_neg h5]
        refine ko (And.intro @uKB_2 @d5) ?_
        first | with_reducible refine ks [] (And.intro @uKB_2 @d5) ?_ | refine kp (And.intro @uKB_2 @d5) ?_
        refine Again.mk (g + 1, (b9, Obj.cells (pcC p).toArray 300 (0, 0)) :: D) (by show l.length - (g + 1) < l.length - g; omega) ⟨hlt, hN9, hz9⟩ rfl ?_
        rw [if_neg h4]; rfl
  · obtain rfl : g = l.length := by omega
    have d3 : decide ((l.length : Int) < (l.length : Int)) = false := by simp
    rw [List.take_length] at hz
    rw [List.take_length]
    have hz' : ¬ anyZ b l = true := by rw [hz]; simp
    by_cases h4 : 4099 < sumP b l
    · have hc : chkV b l = (0, 19) := by unfold chkV; rw [if_neg hb, if_neg hz', if_pos h4]
      have e : ((19 : Int) != 0) = true := rfl
      rw [if_pos h4]
      first | with_reducible refine ks [] (And.intro @uKB_2 ( And.intro @d3 (@e))) ?_ | refine kp (And.intro @uKB_2 ( And.intro @d3 (@e))) ?_
      refine ⟨_, (ke @uKB_2), hN, ?_⟩
      rw [hc]; rfl
    · have hc : chkV b l = (((sumP b l : Nat) : Int), 0) := by unfold chkV; rw [if_neg hb, if_neg hz', if_neg h4]
      have e : ((0 : Int) != 0) = false := rfl
      rw [if_neg h4, Nat.min_eq_left (by omega)]
      first | with_reducible refine ks [] (And.intro @uKB_2 ( And.intro @d3 (@e))) ?_ | refine kp (And.intro @uKB_2 ( And.intro @d3 (@e))) ?_
      refine ⟨_, (ke @uKB_2), hN, ?_⟩
      rw [hc]; rfl
end Go.Proofs
end
section
open Go Go.Proofs Go.Sx Go.StP Go.Flo
namespace Go.Proofs
set_option maxRecDepth 10000
set_option maxHeartbeats 400000
set_option linter.unusedSimpArgs false
/-! ### The text of pieces -/
def pcAt (p : PcL) (b : Int) : Nat × Nat := match cpV p b with | some q => q | none => (0, 0)
theorem cpO_at (p : PcL) (b : Int) : cpO p b = .tuple #[vi (pcAt p b).1, vi (pcAt p b).2, .bool (cpV p b).isSome] := by
  unfold cpO pcAt
  cases cpV p b <;> rfl
theorem pcAt_le (p : PcL) (base : List UInt8) : (pcAt p base.length).1 + (pcAt p base.length).2 ≤ base.length := by
  unfold pcAt cpV
  split
  · rename_i q h
    split at h
    · rename_i hc; cases h; simp only; omega
    · cases h
  · simp
theorem pcT_at (base : List UInt8) (p : PcL) : pcT base p = (base.take ((pcAt p base.length).1 + (pcAt p base.length).2)).drop (pcAt p base.length).1 ++ p.x := by
  unfold pcT pcAt
  cases h : cpV p base.length with
  | none => simp
  | some q =>
    simp only
    rw [List.drop_take, Nat.add_sub_cancel_left]
theorem pcT_len (base : List UInt8) (p : PcL) (h : pcLen p base.length ≠ 0) : (pcT base p).length = pcLen p base.length := by
  have hle := pcAt_le p base
  unfold pcLen at h ⊢
  unfold pcT
  unfold pcAt at hle
  split at h
  · rename_i hc
    rw [if_pos hc]
    have hn : cpV p base.length = none := by unfold cpV; rw [if_neg (by omega)]
    rw [hn]
  · rename_i hc
    rw [if_neg hc]
    cases hq : cpV p base.length with
    | none => rw [hq] at h; exact absurd rfl h
    | some q =>
      rw [hq] at hle
      simp only at hle ⊢
      have hx : p.x = [] := by
        unfold cpV at hq
        split at hq
        · rename_i h2; exact h2.2.2.1
        · cases hq
      rw [hx, List.append_nil, List.length_take, List.length_drop]
      omega
theorem txtP_take {base : List UInt8} {l : List PcL} {g : Nat} (h : g < l.length) : txtP base (l.take (g + 1)) = txtP base (l.take g) ++ pcT base (l.getD g pc0) := by
  rw [take_snoc (z := pc0) h]; unfold txtP; simp
theorem txtP_len {base : List UInt8} : ∀ {l : List PcL}, anyZ base.length l = false → (txtP base l).length = sumP base.length l
  | [], _ => rfl
  | p :: l, h => by
    unfold anyZ at h
    rw [List.any_cons, Bool.or_eq_false_iff] at h
    have h1 := txtP_len (base := base) (l := l) h.2
    have h2 := pcT_len base p (by simpa using h.1)
    unfold txtP sumP at h1 ⊢
    rw [List.map_cons, List.flatten_cons, List.length_append, List.map_cons, List.sum_cons, h1, h2]
theorem sumP_le_take {b : Int} {l : List PcL} {g : Nat} : sumP b (l.take g) ≤ sumP b l := by
  have := sumP_app b (l.take g) (l.drop g)
  rw [List.take_append_drop] at this
  omega
theorem anyZ_at {b : Int} {l : List PcL} {g : Nat} (h : anyZ b l = false) : anyZ b (l.take g) = false := by
  unfold anyZ at h ⊢
  rw [List.any_eq_false] at h ⊢
  exact fun x hx => h x (List.mem_of_mem_take hx)
theorem sliceS2 (a b : List UInt8) : sliceB Tryz.prog 57 2 [(0, vs a), (1, vs b)] = some (9, #[vs a, vs b]) := by
  have hz : zeroV Tryz.prog 9 = some (vs []) := Tryz.zr9
  have hI : ∀ I : Array Value, I.size = 2 → (I.setIfInBounds 0 (vs a)).setIfInBounds 1 (vs b) = #[vs a, vs b] := by
    intro I h
    apply Array.ext
    · simp [h]
    · intro i h1 h2
      have h3 : i < 2 := by simpa using h2
      match i, h3 with
      | 0, _ => simp [h]
      | 1, _ => simp [h]
  have hc : ∀ s : List UInt8, (vs s).cells = #[vs s] := fun s => rfl
  simp only [sliceB, Tryz.underlying57, Tryz.ag9, hz, Option.map_some]
  simp [Instr.fill, hc]
  exact hI _ (by simp)
theorem BldAt.zeroK (b : Nat) {L : Heap} (h : Sx.look L b = some (.cells #[.pointer none, .slice none 0 0] 123 (0, 0))) : BldAt b [] L :=
  ⟨_, _, h, .inl rfl, .nl, fun h => by cases h⟩
theorem came_newK {w0 : World} {L X D : Heap} (hC : Came w0 L X D) (hX : New w0.heap.size X) : New w0.heap.size D := New.of_le fun c hc => by
  rcases hC.new c hc with h | ⟨-, h⟩
  · exact hX.le c h
  · exact h
structure TxG where
  g : Nat
  D : Heap
  E : Heap
set_option linter.defProp false
def uKD_1 := And.intro (And.intro (And.intro (@rdIn_v8) (@rdIn_vi)) (And.intro (@load_pc0) (And.intro (@load_pc1) (@load_pc)))) (And.intro (And.intro (@cells_pc) (And.intro (@Sx.tup2_0) (@Sx.tup2_1))) (And.intro (@Sx.tup3_0) (And.intro (@Sx.tup3_1) (@Sx.tup3_2))))
theorem TextD_spec (base : List UInt8) (v : Value) (l : List PcL) (w : World) (hv : PcSl w v l) (hl : BndP l) (hn : l.length < 1000000000) :
    Rets Tryz.prog 206 #[vs base, v] w (fun v' D => v' = .tuple #[vs (if (chkV base.length l).2 = 0 then txtP base l else []), vi (chkV base.length l).2] ∧ D = []) := by
  obtain ⟨bb, off, arr, E, fz, hr⟩ := hv.row
  have ln := hv.len
  refine Rets.enterV Tryz.func206 rfl (rs := [.tmp 4, .tmp 5]) Tryz.results206 Tryz.ntmps206 ?_
  refine kf ?_
  first | with_reducible refine ks [] @uKD_1 ?_ | refine kp @uKD_1 ?_
  refine Ow.callFV rfl Tryz.call226 (fun w' hw' => check_spec (base.length : Int) v l w' (hv.oldN hw' trivial) hl hn) ?_
  by_cases he : (chkV base.length l).2 = 0
  · obtain ⟨m, hm⟩ : ∃ m, chkV base.length l = (m, 0) := ⟨(chkV base.length l).1, by rw [← he]⟩
    obtain ⟨-, hb4, hz, hs4, -, hl4⟩ := chkV_ok hm
    rw [if_pos he, hm]
    have e0 : ((0 : Int) != 0) = false := rfl
    refine ko @uKD_1 ?_
    first | with_reducible refine ks [] (And.intro @uKD_1 @e0) ?_ | refine kp (And.intro @uKD_1 @e0) ?_
    refine Ow.alloc rfl rfl Tryz.zr123 fun b8 hb8 hw8 => ?_
    have hZ : BldAt b8 [] [(b8, .cells #[.pointer none, .slice none 0 0] 123 (0, 0))] := BldAt.zeroK b8 (look_same _ _ _)
    refine ko @uKD_1 ?_
    first | with_reducible refine ks [] (And.intro @uKD_1 @ln) ?_ | refine kp (And.intro @uKD_1 @ln) ?_
    refine Cw.loopG (G := TxG) [27, 28, 29, 10, 31, 32, 33, 34, 30, 35, 36, 37, 11, 12, 13, 38, 39, 40, 41, 42, 43, 44, 45, 46, 47, 48, 26] (fun g => [(8, vp b8 0), (26, vi g.g)]) (fun g => g.D ++ g.E) (fun g => g.g ≤ l.length ∧ New w.heap.size (g.D ++ g.E) ∧ BldAt b8 (txtP base (l.take g.g)) g.D) (fun g => l.length - g.g) ⟨0, [(b8, .cells #[.pointer none, .slice none 0 0] 123 (0, 0))], []⟩ rfl rfl ?_ ?_
    · exact ⟨Nat.zero_le _, ⟨hw8, trivial⟩, hZ⟩
    intro g j hg
    refine kv ?_
    obtain ⟨g, D, E2⟩ := g
    simp only at hg ⊢
    obtain ⟨hgl, hN, hB⟩ := hg
    by_cases hlt : g < l.length
    · have hb0 : 0 < l.length := by omega
      have hbl := hr.lt hb0
      have rd : readB w (D ++ E2) bb = some (.cells arr E fz) := by rw [read_none (hN.not hbl)]; exact hr.has hb0
      have i2 := hr.idx true g hlt
      have ld := hr.load pcC_len (by omega) hlt
      obtain ⟨hpb, hpx⟩ := hl g hlt
      have htk := txtP_take (base := base) hlt
      have htl := txtP_len (base := base) (anyZ_at (g := g + 1) hz)
      have hsl := sumP_le_take (b := (base.length : Int)) (l := l) (g := g + 1)
      generalize hp : l.getD g pc0 = p at *
      have hat := pcAt_le p base
      have hpt := pcT_at base p
      rw [htk, List.length_append] at htl
      have hptl : (pcT base p).length ≤ 4099 := by omega
      have d3 : decide ((g : Int) < (l.length : Int)) = true := decide_eq_true (by omega)
      first | with_reducible refine ks [] (And.intro @uKD_1 ( And.intro @d3 ( And.intro @i2 ( And.intro @rd (@ld))))) ?_ | refine kp (And.intro @uKD_1 ( And.intro @d3 ( And.intro @i2 ( And.intro @rd (@ld))))) ?_
      refine Ow.alloc rfl rfl zrPc fun b9 hb9 hw9 => ?_
      simp only [cells_agg, List.nil_append, List.cons_append]
      have hD9 : b9 ∉ keys D := fun h => Nat.lt_irrefl _ (above_to hb9 (by rw [keys_app]; exact List.mem_append_left _ h))
      have h89 : b8 ∈ keys D := by obtain ⟨p, v, hlk, -⟩ := hB; exact key_of_look hlk
      refine Ow.permL (M := (b9, .cells (pcC pc0).toArray 300 (0, 0)) :: (D ++ E2)) (by classical exact List.perm_iff_count.2 fun a => by simp only [List.count_append, List.count_cons, List.count_nil] <;> omega) ?_
      have hsp := store_pc p pc0 300
      refine ko (And.intro @uKD_1 @hsp) ?_
      first | with_reducible refine ks [] @uKD_1 ?_ | refine kp @uKD_1 ?_
      refine Ow.callFV rfl Tryz.call227 (fun w' hw' => copied_spec p (base.length : Int) w' hpb (by omega) (by omega)) ?_
      rw [cpO_at]
      generalize hA : (pcAt p base.length).1 = A at *
      generalize hNn : (pcAt p base.length).2 = Nn at *
      refine ko @uKD_1 ?_
      first | with_reducible refine ks [] @uKD_1 ?_ | refine kp @uKD_1 ?_
      refine Cw.permL (M := D ++ ((b9, .cells (pcC p).toArray 300 (0, 0)) :: E2)) (by classical exact List.perm_iff_count.2 fun a => by simp only [List.count_append, List.count_cons, List.count_nil] <;> omega) ?_
      have rd9 : readB w (D ++ ((b9, .cells (pcC p).toArray 300 (0, 0)) :: E2)) b9 = some (.cells (pcC p).toArray 300 (0, 0)) := read_look (by rw [look_app_r hD9]; exact look_same _ _ _)
      have hsum : (A : Int) + (Nn : Int) = ((A + Nn : Nat) : Int) := by omega
      refine Cw.regionO [0, 1, 2, 3, 4, 5, 6, 7, 8, 9] [8, 9] rfl (by kernel_rfl) (by kernel_rfl) ?_
      simp only [nl_cons, ↓pickL_nil, ↓pickL_cons, ↓nthO_0, ↓nthO_s, consO_some]
      refine kq (And.intro @uKD_1 ( And.intro @hsum (@rd9))) ?_
      refine Ow.buildSlice (e := 9) #[vs ((base.take (A + Nn)).drop A), vs p.x] rfl rfl (sliceS2 _ _) fun b11 hb11 hw11 => ?_
      have hD11 : b11 ∉ keys D := fun h => Nat.lt_irrefl _ (above_to hb11 (by rw [keys_app]; exact List.mem_append_left _ h))
      rw [List.append_assoc]
      simp only [List.cons_append, List.nil_append]
      have hX1 := fun (w' : World) (hw' : Hp w (D ++ ((b9, Obj.cells (pcC p).toArray 300 (0, 0)) :: (E2 ++ [(b11, .cells #[vs ((base.take (A + Nn)).drop A), vs p.x] 9 (0, 0))]))) w') => hw'.has b11 (.cells #[vs ((base.take (A + Nn)).drop A), vs p.x] 9 (0, 0)) (by simp)
      have hpt2 : [(base.take (A + Nn)).drop A, p.x].flatten = pcT base p := by rw [hpt]; simp
      refine kq @uKD_1 ?_
      refine Ow.callX (Y := ((b9, Obj.cells (pcC p).toArray 300 (0, 0)) :: (E2 ++ [(b11, .cells #[vs ((base.take (A + Nn)).drop A), vs p.x] 9 (0, 0))]))) (by simp) rfl rfl Tryz.call60 (fun w' hw' hX hn => WRaw_spec b8 D _ _ b11 0 [(base.take (A + Nn)).drop A, p.x] _ _ _ w' hB hX hn (StrS.lit [(base.take (A + Nn)).drop A, p.x] rfl rfl (hX1 w' hw')) (fun _ => hD11) (by rw [hpt2]; omega) (by simp)) (fun v12 D12 hC12 hS12 => ?_)
      obtain ⟨rfl, hB12⟩ := hS12
      rw [hpt2, ← htk] at hB12
      have hN0 : New w.heap.size D := New.of_le fun c hc => hN.le c (by rw [keys_app]; exact List.mem_append_left _ hc)
      have hE0 : New w.heap.size E2 := New.of_le fun c hc => hN.le c (by rw [keys_app]; exact List.mem_append_right _ hc)
      have hN12 : New w.heap.size D12 := came_newK hC12 hN0
      refine kq @uKD_1 ?_
      try with_reducible refine Ow.nil ?_
      first | with_reducible refine ks [] @uKD_1 ?_ | refine kp @uKD_1 ?_
      refine Again.mk (TxG.mk (g + 1) D12 ((b9, Obj.cells (pcC p).toArray 300 (0, 0)) :: (E2 ++ [(b11, .cells #[vs ((base.take (A + Nn)).drop A), vs p.x] 9 (0, 0))]))) (by show l.length - (g + 1) < l.length - g; omega) ⟨hlt, hN12.app ⟨hw9, hE0.app ⟨hw11, trivial⟩⟩, hB12⟩ rfl rfl
    · obtain rfl : g = l.length := by omega
      have d3 : decide ((l.length : Int) < (l.length : Int)) = false := by simp
      rw [List.take_length] at hB
      have htl := txtP_len hz
      first | with_reducible refine ks [] (And.intro @uKD_1 @d3) ?_ | refine kp (And.intro @uKD_1 @d3) ?_
      refine Ow.callX (Y := E2) (by simp) rfl rfl Tryz.call64 (fun w' hw' hX hn => WString_spec b8 D _ w' hB hX hn (by omega)) (fun v12 D12 hC12 hS12 => ?_)
      have hS12' : v12 = vs (txtP base l) := hS12
      subst hS12'
      have hN0 : New w.heap.size D := New.of_le fun c hc => hN.le c (by rw [keys_app]; exact List.mem_append_left _ hc)
      have hE0 : New w.heap.size E2 := New.of_le fun c hc => hN.le c (by rw [keys_app]; exact List.mem_append_right _ hc)
      have hN12 : New w.heap.size D12 := came_newK hC12 hN0
      refine ko @uKD_1 ?_
      first | with_reducible refine ks [] @uKD_1 ?_ | refine kp @uKD_1 ?_
      refine ⟨_, (ke @uKD_1), hN12.app hE0, ?_⟩
      rfl
  · have e1 : ((chkV base.length l).2 != 0) = true := by rw [bne_iff_ne]; exact he
    rw [if_neg he]
    refine ko @uKD_1 ?_
    first | with_reducible refine ks [] (And.intro @uKD_1 @e1) ?_ | refine kp (And.intro @uKD_1 @e1) ?_
    refine ⟨_, (ke @uKD_1), trivial, ?_⟩
    rfl
end Go.Proofs
end
namespace Go.Sx
open Go
section
variable {α : Type} {m : Nat} {enc : α → List Value} {z : α}
end
section
variable {P : Program} {w0 : World} {f : Fr} {L : Heap} {N : Fr → Heap → Prop} {ops : Array Oper} {rest : List Oper} {md : Md} {d : Option Tmp} {ty : TypeId} {ps : String} {af : Array Edge} {g : Option (Nat × Bool)}
/-- A slice is made. -/
theorem Ow.makeSlice {t e : TypeId} {m : Bool × Nat} {z : Value} {x y : Operand} {n c : Nat} {md' : Md} (he : md.turn = some md') (hs : skipped ops f ⟨d, .makeSlice t x y, ty, ps, af, g⟩ = false)
    (hu : P.underlying t = some (.slice e)) (hm : aggT P e = some m) (hi : bytesOk P e = true) (hz : zeroV P e = some z) (hx : ev f x = vi n) (hy : ev f y = vi c) (hnc : n ≤ c) (hbig : c ≤ 2 ^ 38)
    (hn : ∀ b, Above L b → w0.heap.size ≤ b → Ow P w0 ops md' rest (putF f d (vsl b 0 n c)) (L ++ [(b, .cells (madeCells z.cells (c * m.2)) e (0, 0))]) N) :
    Ow P w0 ops md (⟨d, .makeSlice t x y, ty, ps, af, g⟩ :: rest) f L N := by
  refine Ow.step he rfl hs fun w hw => .inl ⟨vsl w.heap.size 0 n c, w.alloc (.cells (madeCells z.cells (c * m.2)) e (0, 0)), _, ?_, hw.alloc _, hn _ (above_of fun b hb => hw.lt hb) hw.size⟩
  obtain ⟨i, hie, -, hb⟩ := bytesOk_spec hi hbig
  have hiz : i.zero = some z := by
    unfold zeroV at hz
    rw [hie] at hz
    exact hz
  have him : i.size = m.2 := by
    unfold aggT at hm
    rw [hie] at hm
    split at hm
    · rename_i h1 h2
      cases h2
      cases hm
      rfl
    · cases hm
  have hbb : (i.bytes : Int) * (c : Int) ≤ 281474976710656 := by
    have : ((i.bytes * c : Nat) : Int) ≤ 281474976710656 := by rw [Nat.mul_comm]; exact Int.ofNat_le.2 hb
    rwa [Int.natCast_mul] at this
  have hr := run_make (P := P) w t e i z hu hie hiz .i64 .i64 (n : Int) (c : Int) (by omega) (by omega) hbb (by omega)
  simp only [Int.toNat_natCast, him] at hr
  show (execOp (ev f) _).run P w = _
  simp only [execOp, Sem.run_bind]
  rw [hx, hy]
  show ((Instr.makeSlice t (.int .i64 (n : Int)) (.int .i64 (c : Int))).run P w).andThen _ = _
  rw [hr]
  rfl
/-- What is appended to a slice of a chunk, if only nothing. -/
theorem Ow.appendXG {ts tx e : TypeId} {m : Bool × Nat} {z : Value} {s x : Operand} {n k : Nat} {cs new : List Value} {dx : TypeDesc} {md' : Md} {X Y : Heap} (sv : Value) (hL : L = X ++ Y) (hsv : ev f s = sv) (he : md.turn = some md')
    (hs : skipped ops f ⟨d, .call ⟨.builtin .append, #[s, x], #[ts, tx]⟩, ty, ps, af, g⟩ = false)
    (hu : P.underlying ts = some (.slice e)) (hm : aggT P e = some m) (hi : bytesOk P e = true) (hz : zeroV P e = some z) (hzs : z.cells.size = m.2) (hux : P.underlying tx = some dx) (hnx : ∀ k, dx ≠ .int k)
    (hB : Gr X e m.2 sv n cs) (hX : ∀ w, Hp w0 L w → AppX P w m.2 (ev f x) k new) (hbig : 2 * (n + k) + 768 ≤ 2 ^ 38)
    (hn : ∀ B v' D, Above L B → w0.heap.size ≤ B → Gr D e m.2 v' (n + k) (cs ++ new) → (∀ c, c ∈ keys X → c ∈ keys D) → (∀ c, c ∈ keys D → c ∈ keys X ∨ B ≤ c) → (∀ c o, slB sv ≠ some c → look X c = some o → look D c = some o) → Ow P w0 ops md' rest (putF f d v') (D ++ Y) N) :
    Ow P w0 ops md (⟨d, .call ⟨.builtin .append, #[s, x], #[ts, tx]⟩, ty, ps, af, g⟩ :: rest) f L N := by
  subst hL
  refine Ow.step he rfl hs fun w hw => ?_
  have hp := hw.part
  have hA : Above (X ++ Y) w.heap.size := above_of fun b hb => hw.lt hb
  have fin : ∀ v' w' D, (Builtin.append_ #[ts, tx] ty #[sv, ev f x]).run P w = .ok v' w' → Hp w D w' → Gr D e m.2 v' (n + k) (cs ++ new) → (∀ c, c ∈ keys X → c ∈ keys D) → (∀ c, c ∈ keys D → c ∈ keys X ∨ w.heap.size ≤ c) → (∀ c o, slB sv ≠ some c → look X c = some o → look D c = some o) →
      (∃ v w' L', (execOp (ev f) ⟨d, .call ⟨.builtin .append, #[s, x], #[ts, tx]⟩, ty, ps, af, g⟩).run P w = .ok (.value v) w' ∧ Hp w0 L' w' ∧ Ow P w0 ops md' rest (putF f d v) L' N) := by
    intro v' w' D hr hD hb h1 h2 h3
    refine ⟨v', w', D ++ Y, ?_, hw.join hD h1 h2, hn w.heap.size v' D hA hw.size hb h1 h2 h3⟩
    simp only [execOp, resolve, Sem.run_bind, Sem.run_pure, Result.andThen_ok, invoke, builtin, List.map_toArray, List.map_cons, List.map_nil, hsv]
    rw [hr]
    rfl
  rcases hB with hB | ⟨rfl, rfl, b, rfl, hlk⟩
  · obtain ⟨v', w', D, hr, hD, hb, hg, -⟩ := run_append (w0 := w) (L := X) (ty := ty) (x := ev f x) hp hu hm hi hz hzs hux hnx hB (fun w2 hw2 => hX w2 (by
      refine hw.join hw2 (fun c hc => hc) (fun c hc => .inl hc))) hbig
    exact .inl (fin v' w' D hr hD (.inl hb) hg.keys (fun c hc => (hg.new c hc).imp id And.right) hg.look)
  · rcases run_appendEm (w0 := w) (L := X) (ty := ty) (b := b) (x := ev f x) hp hu hm hi hz hzs hux hnx (fun w2 hw2 => hX w2 (by
      refine hw.join hw2 (fun c hc => hc) (fun c hc => .inl hc))) hbig with ⟨h0, hr⟩ | ⟨-, v', w', D, hr, hD, hb, hg, -⟩
    · subst h0
      have hnw := (hX w hw).size
      obtain rfl : new = [] := List.eq_nil_of_length_eq_zero (by rw [hnw, Nat.zero_mul])
      exact .inl (fin _ w X hr hp (.inr ⟨rfl, rfl, b, rfl, hlk⟩) (fun c hc => hc) (fun c hc => .inl hc) (fun c o _ hl => hl))
    · exact .inl (fin v' w' D hr hD (.inl hb) hg.keys (fun c hc => (hg.new c hc).imp id And.right) (fun c o _ hl => hg.look c o (by simp [slB]) hl))
end
theorem New.perm {n : Nat} {D D' : Heap} (h : New n D) (hp : D.Perm D') : New n D' := New.of_le fun c hc => h.le c ((hp.map Prod.fst).mem_iff.2 hc)
end Go.Sx
section
open Go Go.Proofs Go.Sx Go.StP Go.Flo
namespace Go.Proofs
set_option maxRecDepth 10000
set_option maxHeartbeats 400000
set_option linter.unusedSimpArgs false
/-! ### A delta, read -/
def dB (d : List UInt8) : Int × Nat × Int := numR d 0 0 4099
def dM (d : List UInt8) : Int × Nat × Int := numR d (dB d).2.1 (dB d).2.2 4099
theorem deltaR_eq (d : List UInt8) : deltaR d = if (dM d).2.2 ≠ 0 then none else if (pcs d (dM d).2.1).2.2 ≠ 0 then none else if chkV (dB d).1 (pcs d (dM d).2.1).1 = ((dM d).1, 0) then some ((dB d).1.toNat, (pcs d (dM d).2.1).1) else none := rfl
structure EG where
  lab : Nat
  br : Nat
  a : Nat
  e : Int
  out : List PcL
  v : Value
  D : Heap
def drO (d : List UInt8) (a e : Int) : Obj := .cells #[vs d, vi a, vi e] 212 (0, 0)
def EJ (d : List UInt8) (n : Nat) (g : EG) : Prop :=
  (g.lab = 1 ∧ n ≤ g.br ∧ New n g.D ∧ g.br ∉ keys g.D ∧ Gr g.D 300 2 g.v g.out.length (g.out.map pcC).flatten ∧ g.a ≤ d.length ∧ BndP g.out ∧ g.out.length ≤ 4099 ∧
    ((g.e ≠ 0 ∧ deltaR d = none) ∨ (g.e = 0 ∧ (dM d).2.2 = 0 ∧ pcs d (dM d).2.1 = (g.out ++ (pcs d g.a).1, (pcs d g.a).2)))) ∨
  (g.lab = 0 ∧ n ≤ g.br ∧ New n g.D ∧ g.br ∉ keys g.D ∧ Gr g.D 300 2 g.v g.out.length (g.out.map pcC).flatten ∧ BndP g.out ∧ g.out.length ≤ 4099 ∧ (dM d).2.2 = 0 ∧ pcs d (dM d).2.1 = (g.out, d.length, 0)) ∨
  (g.lab = 2 ∧ New n g.D ∧ deltaR d = none)
def EH (d : List UInt8) (g : EG) : Heap := match g.lab with
  | 1 => (g.br, drO d g.a g.e) :: g.D
  | 0 => (g.br, drO d g.a g.e) :: g.D
  | _ => g.D
def ES (d : List UInt8) (g : EG) : List (Nat × Value) := match g.lab with
  | 1 => [(5, vp g.br 0), (6, vi (dB d).1), (7, vi (dM d).1), (8, g.v)]
  | 0 => [(6, vi (dB d).1), (7, vi (dM d).1), (8, g.v)]
  | _ => []
def EL (g : EG) : Nat := match g.lab with
  | 1 => 1
  | 0 => 0
  | _ => 2
/-- What Read hands back. -/
def DeltaS (d : List UInt8) (v : Value) (D : Heap) : Prop := match deltaR d with
  | some p => ∃ x, v = .tuple #[vi p.1, x, vi 0] ∧ BndP p.2 ∧ p.2.length ≤ 4099 ∧ p.1 ≤ 4099 ∧ GrI D 300 2 x p.2.length (p.2.map pcC).flatten
  | none => v = .tuple #[vi 0, .slice none 0 0, vi 2]
/-- One piece, read behind whatever error. -/
def pcE (d : List UInt8) (a : Nat) (e : Int) : PcL × Nat × Int :=
  if (numR d a e 8199).1 % 2 = 1 then
    (⟨(numR d (numR d a e 8199).2.1 (numR d a e 8199).2.2 4099).1.toNat, ((numR d a e 8199).1 / 2).toNat, []⟩, (numR d (numR d a e 8199).2.1 (numR d a e 8199).2.2 4099).2)
  else (⟨0, 0, (rawR d (numR d a e 8199).2.1 (numR d a e 8199).2.2 ((numR d a e 8199).1 / 2)).1⟩, (rawR d (numR d a e 8199).2.1 (numR d a e 8199).2.2 ((numR d a e 8199).1 / 2)).2)
theorem pcE_0 (d : List UInt8) (a : Nat) : pcE d a 0 = pcR d a := rfl
theorem pcE_e {d : List UInt8} {a : Nat} {e : Int} (he : e ≠ 0) : (pcE d a e).2.2 = e := by
  have h1 := numR_e (s := d) (a := a) (most := 8199) he
  unfold pcE
  split
  · simp only [h1]
    rw [numR_e (s := d) (a := a) (most := 4099) he]
  · simp only [h1]
    rw [rawR_e (s := d) (a := a) he]
theorem build_pcc (a n : Nat) : buildV (plcT Tryz.prog 300) (zeroV Tryz.prog 300) [(0, cx a n)] = some (.agg (pcC ⟨a, n, []⟩).toArray) := by
  rw [show plcT Tryz.prog 300 = some [(0, 1), (1, 1)] from id (by kernel_rfl), zrPc]; rfl
theorem build_pct (x : List UInt8) : buildV (plcT Tryz.prog 300) (zeroV Tryz.prog 300) [(1, vs x)] = some (.agg (pcC ⟨0, 0, x⟩).toArray) := by
  rw [show plcT Tryz.prog 300 = some [(0, 1), (1, 1)] from id (by kernel_rfl), zrPc]; rfl
theorem slicePc (p : PcL) : sliceB Tryz.prog 263 1 [(0, .agg (pcC p).toArray)] = some (300, (pcC p).toArray) :=
  slice_one Tryz.underlying263 (id (by kernel_rfl)) zrPc (by decide) (pcC_len p)
/-- What stands at 'wrong'. -/
theorem delta_wrong {d : List UInt8} {a : Nat} {out : List PcL} (hrel : pcs d (dM d).2.1 = (out ++ (pcs d a).1, (pcs d a).2)) (h : (pcs d a).2.2 ≠ 0 ∨ 4099 < (out ++ (pcs d a).1).length) : deltaR d = none := by
  rw [deltaR_eq]
  split
  · rfl
  · split
    · rfl
    · rename_i h2
      rw [hrel] at h2 ⊢
      simp only at h2 ⊢
      rcases h with h | h
      · exact absurd h h2
      · rw [if_neg]
        intro hc
        have := (chkV_ok hc).2.2.2.2.2
        omega
set_option linter.defProp false
def uKE_1 := And.intro (And.intro (And.intro (@rdIn_v8) (And.intro (@rdIn_vi) (@load_pc0))) (And.intro (@load_pc1) (And.intro (@load_pc) (@cells_pc)))) (And.intro (And.intro (@Sx.tup2_0) (And.intro (@Sx.tup2_1) (@Sx.tup3_0))) (And.intro (@Sx.tup3_1) (And.intro (@Sx.tup3_2) (@vcB_complex))))
theorem ReadD_spec (d : List UInt8) (w : World) (hd : d.length < 9223372036854775808) : Rets Tryz.prog 205 #[vs d] w (XS w [] (DeltaS d)) := by
  refine Rets.enterX Tryz.func205 rfl (rs := [.tmp 2, .tmp 3, .tmp 4]) Tryz.results205 Tryz.ntmps205 (fun p hp => by cases hp) (by simp [keys]) ?_
  refine kf ?_
  first | with_reducible refine ks [] @uKE_1 ?_ | refine kp @uKE_1 ?_
  refine Cw.scopeL (G := EG) (fun g => EL g) [12, 13, 5, 14, 15, 16, 17, 6, 7, 8, 9, 10, 11, 18, 19, 20, 21, 22, 23, 24, 25, 26, 27, 28, 29, 30, 31, 32, 33, 34, 35, 36, 37, 38, 39, 40, 41, 42, 43, 44, 45, 46, 47, 48, 49, 50, 51, 52, 54, 55, 56, 53, 57, 58, 59, 60, 61, 62, 63, 64, 65, 66, 67, 2, 3, 4] (fun g => ES d g) (fun g => EH d g) (fun g => EJ d w.heap.size g) (fun g => (if g.lab = 1 then d.length - g.a + 1 else 0)) ?_ ?_ ?_
  · intro g
    unfold EL
    split <;> rfl
  · intro g j hg
    rcases hg with hg | hg | hg
    · obtain ⟨lab, br, a, e, out, v, D⟩ := g
      obtain ⟨hlab, hg⟩ := hg
      simp only at hlab
      subst hlab
      simp only [EL, ES, EH] at hg ⊢
      obtain ⟨hwr, hN, hbD, hGr, hal, hB, hol, hrel⟩ := hg
      simp only [drO]
      simp only [contP, hasL, Bool.or_false, Bool.false_or, Bool.or_true, Bool.true_or, Nat.reduceBEq, beq_self_eq_true, ↓reduceIte, Bool.false_eq_true]
      refine kv ?_
      try with_reducible refine thenK_normal ?_
      first | with_reducible refine ks [] @uKE_1 ?_ | refine kp @uKE_1 ?_
      by_cases hA : e = 0 ∧ ¬ a < d.length
      · obtain ⟨rfl, hAl⟩ := hA
        have hE : (if (0 : Int) ≠ 0 then (0 : Int) else if (a : Int) < d.length then 5 else 0) = 0 := by rw [if_neg (by simp), if_neg (by omega)]
        have e00 : ((0 : Int) == 0) = true := rfl
        refine Ow.callFV rfl Tryz.call74 (fun w' hw' => REnd_spec br d a 0 w' (hw'.has _ _ List.mem_cons_self)) ?_
        rw [hE]
        refine ko (And.intro @uKE_1 @e00) ?_
        first | with_reducible refine ks [] @uKE_1 ?_ | refine kp @uKE_1 ?_
        refine Jump.mk ⟨0, br, a, 0, out, v, D⟩ rfl (by show 0 < d.length - a + 1; omega) (.inr (.inl ⟨rfl, hwr, hN, hbD, hGr, hB, hol, ?_⟩)) rfl rfl
        rcases hrel with h | ⟨-, h1, h2⟩
        · exact absurd rfl h.1
        · rw [pcs_end hAl, List.append_nil] at h2
          exact ⟨h1, by rw [h2, show a = d.length by omega]⟩
      · obtain ⟨E1, hE1, hE0⟩ : ∃ E1, (if e ≠ 0 then e else if (a : Int) < d.length then 5 else 0) = E1 ∧ (E1 == 0) = false := by
          refine ⟨_, rfl, ?_⟩
          rw [beq_eq_false_iff_ne]
          split
          · assumption
          · rename_i he
            rw [if_pos (by have : e = 0 := by simpa using he
                           have : a < d.length := by
                             rcases Nat.lt_or_ge a d.length with h | h
                             · exact h
                             · exact absurd ⟨this, by omega⟩ hA
                           omega)]
            decide
        refine Ow.callFV rfl Tryz.call74 (fun w' hw' => REnd_spec br d a e w' (hw'.has _ _ List.mem_cons_self)) ?_
        rw [hE1]
        refine ko (And.intro @uKE_1 @hE0) ?_
        first | with_reducible refine ks [] @uKE_1 ?_ | refine kp @uKE_1 ?_
        have hq := numR_mostE (s := d) (a := a) (e := e) (most := 8199) (by omega)
        have hle1 := numR_le (s := d) (a := a) (e := e) (most := 8199) hal
        have hpE : pcE d a e = pcE d a e := rfl
        conv at hpE => rhs; unfold pcE
        refine Ow.callM rfl rfl Tryz.call95 (by simp [keys]) (fun w' hw' => RNumber_spec br d a e 8199 w' hal hd (hw'.has _ _ List.mem_cons_self)) ?_
        generalize numR d a e 8199 = q at *
        obtain ⟨q1, a1, e1⟩ := q
        simp only at hq hle1 hpE ⊢
        obtain ⟨Q, rfl⟩ : ∃ Q : Nat, q1 = (Q : Int) := ⟨q1.toNat, by omega⟩
        have hQ : Q ≤ 8199 := by omega
        refine kn ?_
        refine ko @uKE_1 ?_
        by_cases hodd : (Q : Int) % 2 = 1
        · have d1 : (((Q : Nat) : Int) % 2 == 1) = true := by rw [beq_iff_eq]; exact hodd
          rw [if_pos hodd] at hpE
          first | with_reducible refine ks [] (And.intro @uKE_1 @d1) ?_ | refine kp (And.intro @uKE_1 @d1) ?_
          have hm2 := numR_mostE (s := d) (a := a1) (e := e1) (most := 4099) (by omega)
          have hle2 := numR_le (s := d) (a := a1) (e := e1) (most := 4099) hle1.2
          refine Ow.callM rfl rfl Tryz.call95 (by simp [keys]) (fun w' hw' => RNumber_spec br d a1 e1 4099 w' hle1.2 hd (hw'.has _ _ List.mem_cons_self)) ?_
          generalize numR d a1 e1 4099 = x at *
          obtain ⟨x1, a2, e2⟩ := x
          simp only at hm2 hle2 hpE ⊢
          obtain ⟨X, rfl⟩ : ∃ X : Nat, x1 = (X : Int) := ⟨x1.toNat, by omega⟩
          rw [Int.toNat_natCast, show ((Q : Int) / 2).toNat = Q / 2 by omega] at hpE
          refine kn ?_
          refine Ow.convIF rfl rfl cvIF Tryz.underlying3 Tryz.underlying301 rfl ?_
          refine ko @uKE_1 ?_
          rw [show (Q : Int) / 2 = ((Q / 2 : Nat) : Int) by omega]
          refine Ow.convIF rfl rfl cvIF Tryz.underlying3 Tryz.underlying301 rfl ?_
          refine Ow.complexB (a := (X : Nat)) (b := (Q / 2 : Nat)) rfl rfl rfl ?_
          refine Ow.build (.agg (pcC ⟨X, Q / 2, []⟩).toArray) rfl (build_pcc X (Q / 2)) ?_
          have hpB : PcB (⟨X, Q / 2, []⟩ : PcL) ∧ (⟨X, Q / 2, []⟩ : PcL).x.length < 9223372036854775808 := ⟨⟨by show X ≤ 4099; omega, by show Q / 2 ≤ 4099; omega⟩, by show 0 < 9223372036854775808; omega⟩
          generalize (⟨X, Q / 2, []⟩ : PcL) = p at *
          refine Ow.buildSlice (e := 300) (pcC p).toArray rfl rfl (slicePc p) fun b9 hb9 hw9 => ?_
          have h9 : br < b9 := above_to hb9 (by simp [keys])
          refine Ow.permL (M := D ++ [(br, .cells #[vs d, vi a2, vi e2] 212 (0, 0)), (b9, .cells (pcC p).toArray 300 (0, 0))]) (by classical exact List.perm_iff_count.2 fun a => by simp only [List.count_append, List.count_cons, List.count_nil] <;> omega) ?_
          refine ko @uKE_1 ?_
          refine Ow.appendXG (e := 300) (k := 1) (new := pcC p) (X := D) v rfl rfl rfl rfl Tryz.underlying263 (id (by kernel_rfl) : aggT Tryz.prog 300 = some (true, 2)) (by kernel_rfl) zrPc (by rw [cells_pc, List.size_toArray, pcC_len]) Tryz.underlying263 (by intro k h; cases h) hGr (fun w' hw' => AppX.one1 (hw'.has b9 (.cells (pcC p).toArray 300 (0, 0)) (by simp)) (pcC_len p) (pcC_one p)) (by omega) (fun B3 v3 D3 hA3 hB3 hG3 hk13 hk23 hlk3 => ?_)
          have hN3 : New w.heap.size D3 := New.of_le fun q hq => by
            rcases hk23 q hq with h | h
            · exact hN.le q h
            · omega
          have hbD3 : br ∉ keys D3 := fun hm => by
            rcases hk23 br hm with h | h
            · exact hbD h
            · exact Nat.lt_irrefl _ (Nat.lt_of_lt_of_le (above_to hA3 (by rw [keys_app]; exact List.mem_append_right _ (by simp [keys]))) h)
          have hG4 : Gr (D3 ++ [(b9, .cells (pcC p).toArray 300 (0, 0))]) 300 2 v3 (out ++ [p]).length ((out ++ [p]).map pcC).flatten := by
            have := hG3.app (M := [(b9, Obj.cells (pcC p).toArray 300 (0, 0))])
            simpa using this
          have hN4 : New w.heap.size (D3 ++ [(b9, Obj.cells (pcC p).toArray 300 (0, 0))]) := hN3.app ⟨hw9, trivial⟩
          have hbD4 : br ∉ keys (D3 ++ [(b9, Obj.cells (pcC p).toArray 300 (0, 0))]) := fun hm => by
            rw [keys_app] at hm
            rcases List.mem_append.1 hm with h | h
            · exact hbD3 h
            · simp [keys] at h; omega
          refine Ow.permL (M := (br, .cells #[vs d, vi a2, vi e2] 212 (0, 0)) :: (D3 ++ [(b9, .cells (pcC p).toArray 300 (0, 0))])) (by classical exact List.perm_iff_count.2 fun a => by simp only [List.count_append, List.count_cons, List.count_nil] <;> omega) ?_
          generalize (D3 ++ [(b9, Obj.cells (pcC p).toArray 300 (0, 0))]) = D4 at *
          refine ko @uKE_1 ?_
          first | with_reducible refine ks [] @uKE_1 ?_ | refine kp @uKE_1 ?_
          refine Ow.callFV rfl Tryz.call137 (fun w' hw' => RErr_spec br d a2 e2 w' (hw'.has _ _ List.mem_cons_self)) ?_
          have hlen4 : ∀ m, lenV (.sl m) v3 = some (vi (out ++ [p]).length) := fun m => hG4.len m
          have hB4 : BndP (out ++ [p]) := by
            intro g hg
            rw [List.length_append, List.length_cons, List.length_nil] at hg
            by_cases hgl : g < out.length
            · rw [getD_app_l hgl]; exact hB g hgl
            · rw [getD_app_r (by omega), show g - out.length = 0 by omega]
              exact hpB
          have hle0 : e2 = 0 → e = 0 := fun h => by
            by_cases he : e = 0
            · exact he
            · have := pcE_e (d := d) (a := a) he
              rw [hpE] at this
              exact absurd (this.symm.trans h) he
          have hNw : New w.heap.size ((br, Obj.cells #[vs d, vi a2, vi e2] 212 (0, 0)) :: D4) := ⟨hwr, hN4⟩
          by_cases he2 : e2 = 0
          · have he0 := hle0 he2
            subst he2
            subst he0
            have hlt : a < d.length := by
              rcases Nat.lt_or_ge a d.length with h | h
              · exact h
              · exact absurd ⟨rfl, by omega⟩ hA
            have e00 : ((0 : Int) != 0) = false := rfl
            rw [pcE_0] at hpE
            have hr0 : (pcR d a).2.2 = 0 := by rw [hpE]
            have hup := pcR_up hal hr0
            rw [hpE] at hup
            have hup2 : a < a2 := hup
            obtain ⟨-, hm0, hpc⟩ : (0 : Int) = 0 ∧ (dM d).2.2 = 0 ∧ pcs d (dM d).2.1 = (out ++ (pcs d a).1, (pcs d a).2) := by
              rcases hrel with h | h
              · exact absurd rfl h.1
              · exact h
            rw [pcs_ok hlt hr0, hpE] at hpc
            have hpc' : pcs d (dM d).2.1 = ((out ++ [p]) ++ (pcs d a2).1, (pcs d a2).2) := by rw [hpc]; simp
            by_cases hlen : 4099 < (out ++ [p]).length
            · have d5 : decide ((4099 : Int) < ((out ++ [p]).length : Int)) = true := decide_eq_true (by omega)
              refine ko (And.intro @uKE_1 ( And.intro @e00 ( And.intro @hlen4 (@d5)))) ?_
              first | with_reducible refine ks [] (And.intro @uKE_1 ( And.intro @e00 ( And.intro @hlen4 (@d5)))) ?_ | refine kp (And.intro @uKE_1 ( And.intro @e00 ( And.intro @hlen4 (@d5)))) ?_
              refine Jump.mk ⟨2, br, a2, 0, out, v3, (br, .cells #[vs d, vi a2, vi 0] 212 (0, 0)) :: D4⟩ rfl (by show 0 < d.length - a + 1; omega) (.inr (.inr ⟨rfl, hNw, delta_wrong hpc' (.inr ?_)⟩)) rfl rfl
              rw [List.length_append]; omega
            · have d5 : decide ((4099 : Int) < ((out ++ [p]).length : Int)) = false := decide_eq_false (by omega)
              refine ko (And.intro @uKE_1 ( And.intro @e00 ( And.intro @hlen4 (@d5)))) ?_
              first | with_reducible refine ks [] (And.intro @uKE_1 ( And.intro @e00 ( And.intro @hlen4 (@d5)))) ?_ | refine kp (And.intro @uKE_1 ( And.intro @e00 ( And.intro @hlen4 (@d5)))) ?_
              refine Jump.mk ⟨1, br, a2, 0, out ++ [p], v3, D4⟩ rfl (by show d.length - a2 + 1 < d.length - a + 1; omega) (.inl ⟨rfl, hwr, hN4, hbD4, hG4, hle2.2, hB4, by show (out ++ [p]).length ≤ 4099; omega, .inr ⟨rfl, hm0, hpc'⟩⟩) rfl rfl
          · have e00 : (e2 != 0) = true := by rw [bne_iff_ne]; exact he2
            have hno : deltaR d = none := by
              rcases hrel with h | ⟨rfl, hm0, hpc⟩
              · exact h.2
              · have hlt : a < d.length := by
                  rcases Nat.lt_or_ge a d.length with h | h
                  · exact h
                  · exact absurd ⟨rfl, by omega⟩ hA
                rw [pcE_0] at hpE
                refine delta_wrong hpc (.inl ?_)
                rw [pcs_err hlt (by rw [hpE]; exact he2), hpE]; exact he2
            refine ko (And.intro @uKE_1 @e00) ?_
            first | with_reducible refine ks [] (And.intro @uKE_1 @e00) ?_ | refine kp (And.intro @uKE_1 @e00) ?_
            exact Jump.mk ⟨2, br, a2, 0, out, v3, (br, .cells #[vs d, vi a2, vi e2] 212 (0, 0)) :: D4⟩ rfl (by show 0 < d.length - a + 1; omega) (.inr (.inr ⟨rfl, hNw, hno⟩)) rfl rfl
        · have d1 : (((Q : Nat) : Int) % 2 == 1) = false := by rw [beq_eq_false_iff_ne]; exact hodd
          rw [if_neg hodd] at hpE
          first | with_reducible refine ks [] (And.intro @uKE_1 @d1) ?_ | refine kp (And.intro @uKE_1 @d1) ?_
          have hle2 := rawR_le (s := d) (a := a1) (e := e1) (n := (Q : Int) / 2) hle1.2
          have hxl : (rawR d a1 e1 ((Q : Int) / 2)).1.length < 9223372036854775808 := by
            unfold rawR
            split
            · simp
            · split
              · simp
              · split
                · simp
                · simp only [List.length_take, List.length_drop]; omega
          refine Ow.callM rfl rfl Tryz.call94 (by simp [keys]) (fun w' hw' => RRaw_spec br d a1 e1 ((Q : Int) / 2) w' hle1.2 hd (hw'.has _ _ List.mem_cons_self)) ?_
          generalize rawR d a1 e1 ((Q : Int) / 2) = x at *
          obtain ⟨x1, a2, e2⟩ := x
          simp only at hle2 hxl hpE ⊢
          refine kn ?_
          refine Ow.build (.agg (pcC ⟨0, 0, x1⟩).toArray) rfl (build_pct x1) ?_
          have hpB : PcB (⟨0, 0, x1⟩ : PcL) ∧ (⟨0, 0, x1⟩ : PcL).x.length < 9223372036854775808 := ⟨⟨Nat.zero_le _, Nat.zero_le _⟩, hxl⟩
          generalize (⟨0, 0, x1⟩ : PcL) = p at *
          refine Ow.buildSlice (e := 300) (pcC p).toArray rfl rfl (slicePc p) fun b9 hb9 hw9 => ?_
          have h9 : br < b9 := above_to hb9 (by simp [keys])
          refine Ow.permL (M := D ++ [(br, .cells #[vs d, vi a2, vi e2] 212 (0, 0)), (b9, .cells (pcC p).toArray 300 (0, 0))]) (by classical exact List.perm_iff_count.2 fun a => by simp only [List.count_append, List.count_cons, List.count_nil] <;> omega) ?_
          refine ko @uKE_1 ?_
          refine Ow.appendXG (e := 300) (k := 1) (new := pcC p) (X := D) v rfl rfl rfl rfl Tryz.underlying263 (id (by kernel_rfl) : aggT Tryz.prog 300 = some (true, 2)) (by kernel_rfl) zrPc (by rw [cells_pc, List.size_toArray, pcC_len]) Tryz.underlying263 (by intro k h; cases h) hGr (fun w' hw' => AppX.one1 (hw'.has b9 (.cells (pcC p).toArray 300 (0, 0)) (by simp)) (pcC_len p) (pcC_one p)) (by omega) (fun B3 v3 D3 hA3 hB3 hG3 hk13 hk23 hlk3 => ?_)
          have hN3 : New w.heap.size D3 := New.of_le fun q hq => by
            rcases hk23 q hq with h | h
            · exact hN.le q h
            · omega
          have hbD3 : br ∉ keys D3 := fun hm => by
            rcases hk23 br hm with h | h
            · exact hbD h
            · exact Nat.lt_irrefl _ (Nat.lt_of_lt_of_le (above_to hA3 (by rw [keys_app]; exact List.mem_append_right _ (by simp [keys]))) h)
          have hG4 : Gr (D3 ++ [(b9, .cells (pcC p).toArray 300 (0, 0))]) 300 2 v3 (out ++ [p]).length ((out ++ [p]).map pcC).flatten := by
            have := hG3.app (M := [(b9, Obj.cells (pcC p).toArray 300 (0, 0))])
            simpa using this
          have hN4 : New w.heap.size (D3 ++ [(b9, Obj.cells (pcC p).toArray 300 (0, 0))]) := hN3.app ⟨hw9, trivial⟩
          have hbD4 : br ∉ keys (D3 ++ [(b9, Obj.cells (pcC p).toArray 300 (0, 0))]) := fun hm => by
            rw [keys_app] at hm
            rcases List.mem_append.1 hm with h | h
            · exact hbD3 h
            · simp [keys] at h; omega
          refine Ow.permL (M := (br, .cells #[vs d, vi a2, vi e2] 212 (0, 0)) :: (D3 ++ [(b9, .cells (pcC p).toArray 300 (0, 0))])) (by classical exact List.perm_iff_count.2 fun a => by simp only [List.count_append, List.count_cons, List.count_nil] <;> omega) ?_
          generalize (D3 ++ [(b9, Obj.cells (pcC p).toArray 300 (0, 0))]) = D4 at *
          refine ko @uKE_1 ?_
          first | with_reducible refine ks [] @uKE_1 ?_ | refine kp @uKE_1 ?_
          refine Ow.callFV rfl Tryz.call137 (fun w' hw' => RErr_spec br d a2 e2 w' (hw'.has _ _ List.mem_cons_self)) ?_
          have hlen4 : ∀ m, lenV (.sl m) v3 = some (vi (out ++ [p]).length) := fun m => hG4.len m
          have hB4 : BndP (out ++ [p]) := by
            intro g hg
            rw [List.length_append, List.length_cons, List.length_nil] at hg
            by_cases hgl : g < out.length
            · rw [getD_app_l hgl]; exact hB g hgl
            · rw [getD_app_r (by omega), show g - out.length = 0 by omega]
              exact hpB
          have hle0 : e2 = 0 → e = 0 := fun h => by
            by_cases he : e = 0
            · exact he
            · have := pcE_e (d := d) (a := a) he
              rw [hpE] at this
              exact absurd (this.symm.trans h) he
          have hNw : New w.heap.size ((br, Obj.cells #[vs d, vi a2, vi e2] 212 (0, 0)) :: D4) := ⟨hwr, hN4⟩
          by_cases he2 : e2 = 0
          · have he0 := hle0 he2
            subst he2
            subst he0
            have hlt : a < d.length := by
              rcases Nat.lt_or_ge a d.length with h | h
              · exact h
              · exact absurd ⟨rfl, by omega⟩ hA
            have e00 : ((0 : Int) != 0) = false := rfl
            rw [pcE_0] at hpE
            have hr0 : (pcR d a).2.2 = 0 := by rw [hpE]
            have hup := pcR_up hal hr0
            rw [hpE] at hup
            have hup2 : a < a2 := hup
            obtain ⟨-, hm0, hpc⟩ : (0 : Int) = 0 ∧ (dM d).2.2 = 0 ∧ pcs d (dM d).2.1 = (out ++ (pcs d a).1, (pcs d a).2) := by
              rcases hrel with h | h
              · exact absurd rfl h.1
              · exact h
            rw [pcs_ok hlt hr0, hpE] at hpc
            have hpc' : pcs d (dM d).2.1 = ((out ++ [p]) ++ (pcs d a2).1, (pcs d a2).2) := by rw [hpc]; simp
            by_cases hlen : 4099 < (out ++ [p]).length
            · have d5 : decide ((4099 : Int) < ((out ++ [p]).length : Int)) = true := decide_eq_true (by omega)
              refine ko (And.intro @uKE_1 ( And.intro @e00 ( And.intro @hlen4 (@d5)))) ?_
              first | with_reducible refine ks [] (And.intro @uKE_1 ( And.intro @e00 ( And.intro @hlen4 (@d5)))) ?_ | refine kp (And.intro @uKE_1 ( And.intro @e00 ( And.intro @hlen4 (@d5)))) ?_
              refine Jump.mk ⟨2, br, a2, 0, out, v3, (br, .cells #[vs d, vi a2, vi 0] 212 (0, 0)) :: D4⟩ rfl (by show 0 < d.length - a + 1; omega) (.inr (.inr ⟨rfl, hNw, delta_wrong hpc' (.inr ?_)⟩)) rfl rfl
              rw [List.length_append]; omega
            · have d5 : decide ((4099 : Int) < ((out ++ [p]).length : Int)) = false := decide_eq_false (by omega)
              refine ko (And.intro @uKE_1 ( And.intro @e00 ( And.intro @hlen4 (@d5)))) ?_
              first | with_reducible refine ks [] (And.intro @uKE_1 ( And.intro @e00 ( And.intro @hlen4 (@d5)))) ?_ | refine kp (And.intro @uKE_1 ( And.intro @e00 ( And.intro @hlen4 (@d5)))) ?_
              refine Jump.mk ⟨1, br, a2, 0, out ++ [p], v3, D4⟩ rfl (by show d.length - a2 + 1 < d.length - a + 1; omega) (.inl ⟨rfl, hwr, hN4, hbD4, hG4, hle2.2, hB4, by show (out ++ [p]).length ≤ 4099; omega, .inr ⟨rfl, hm0, hpc'⟩⟩) rfl rfl
          · have e00 : (e2 != 0) = true := by rw [bne_iff_ne]; exact he2
            have hno : deltaR d = none := by
              rcases hrel with h | ⟨rfl, hm0, hpc⟩
              · exact h.2
              · have hlt : a < d.length := by
                  rcases Nat.lt_or_ge a d.length with h | h
                  · exact h
                  · exact absurd ⟨rfl, by omega⟩ hA
                rw [pcE_0] at hpE
                refine delta_wrong hpc (.inl ?_)
                rw [pcs_err hlt (by rw [hpE]; exact he2), hpE]; exact he2
            refine ko (And.intro @uKE_1 @e00) ?_
            first | with_reducible refine ks [] (And.intro @uKE_1 @e00) ?_ | refine kp (And.intro @uKE_1 @e00) ?_
            exact Jump.mk ⟨2, br, a2, 0, out, v3, (br, .cells #[vs d, vi a2, vi e2] 212 (0, 0)) :: D4⟩ rfl (by show 0 < d.length - a + 1; omega) (.inr (.inr ⟨rfl, hNw, hno⟩)) rfl rfl
    · obtain ⟨lab, br, a, e, out, v, D⟩ := g
      obtain ⟨hlab, hg⟩ := hg
      simp only at hlab
      subst hlab
      simp only [EL, ES, EH] at hg ⊢
      obtain ⟨hwr, hN, hbD, hGr, hB, hol, hm0, hpc⟩ := hg
      simp only [drO]
      simp only [contP, hasL, Bool.or_false, Bool.false_or, Bool.or_true, Bool.true_or, Nat.reduceBEq, beq_self_eq_true, ↓reduceIte, Bool.false_eq_true]
      refine kv ?_
      try with_reducible refine thenK_normal ?_
      first | with_reducible refine ks [] @uKE_1 ?_ | refine kp @uKE_1 ?_
      have hNw : New w.heap.size ((br, Obj.cells #[vs d, vi a, vi e] 212 (0, 0)) :: D) := ⟨hwr, hN⟩
      have hdl : deltaR d = if chkV (dB d).1 out = ((dM d).1, 0) then some ((dB d).1.toNat, out) else none := by
        rw [deltaR_eq, if_neg (by rw [hm0]; simp), hpc, if_neg (by simp)]
      refine Ow.callFV rfl Tryz.call226 (fun w' hw' => check_spec (dB d).1 v out w' (GrI.slV (Gr.i (X := D) hGr fun q hq => List.mem_cons_of_mem _ hq) hw' rfl rfl pcC_len) hB (by omega)) ?_
      by_cases hc : chkV (dB d).1 out = ((dM d).1, 0)
      · rw [if_pos hc] at hdl
        have hb0 := numR_mostE (s := d) (a := 0) (e := 0) (most := 4099) (by omega)
        change 0 ≤ (dB d).1 ∧ (dB d).1 ≤ 4099 at hb0
        have e1 : ((dM d).1 == (dM d).1) = true := by simp
        have e00 : ((0 : Int) == 0) = true := rfl
        rw [hc]
        refine ko @uKE_1 ?_
        first | with_reducible refine ks [] (And.intro @uKE_1 ( And.intro @e00 (@e1))) ?_ | refine kp (And.intro @uKE_1 ( And.intro @e00 (@e1))) ?_
        refine ⟨_, (ke @uKE_1), ?_⟩
        refine ⟨Ext.of_new hNw, ?_⟩
        unfold DeltaS
        rw [hdl]
        refine ⟨v, ?_, hB, hol, by show (dB d).1.toNat ≤ 4099; omega, Gr.i (X := D) hGr fun q hq => List.mem_cons_of_mem _ hq⟩
        rw [show ((((dB d).1.toNat, out).1 : Nat) : Int) = (dB d).1 by show (((dB d).1.toNat : Nat) : Int) = _; omega]
        rfl
      · rw [if_neg hc] at hdl
        have hfin : DeltaS d (.tuple #[vi 0, .slice none 0 0, vi 2]) ((br, Obj.cells #[vs d, vi a, vi e] 212 (0, 0)) :: D) := by unfold DeltaS; rw [hdl]
        by_cases he : (chkV (dB d).1 out).2 = 0
        · have e00 : ((chkV (dB d).1 out).2 == 0) = true := by rw [beq_iff_eq]; exact he
          have e1 : ((chkV (dB d).1 out).1 == (dM d).1) = false := by
            rw [beq_eq_false_iff_ne]
            intro h
            exact hc (by rw [← h, ← he])
          refine ko @uKE_1 ?_
          first | with_reducible refine ks [] (And.intro @uKE_1 ( And.intro @e00 (@e1))) ?_ | refine kp (And.intro @uKE_1 ( And.intro @e00 (@e1))) ?_
          refine ⟨_, (ke @uKE_1), ?_⟩
          exact ⟨Ext.of_new hNw, hfin⟩
        · have e00 : ((chkV (dB d).1 out).2 == 0) = false := by rw [beq_eq_false_iff_ne]; exact he
          refine ko @uKE_1 ?_
          first | with_reducible refine ks [] (And.intro @uKE_1 @e00) ?_ | refine kp (And.intro @uKE_1 @e00) ?_
          refine ⟨_, (ke @uKE_1), ?_⟩
          exact ⟨Ext.of_new hNw, hfin⟩
    · obtain ⟨lab, br, a, e, out, v, D⟩ := g
      obtain ⟨hlab, hg⟩ := hg
      simp only at hlab
      subst hlab
      simp only [EL, ES, EH] at hg ⊢
      obtain ⟨hN, hno⟩ := hg
      simp only [contP, hasL, Bool.or_false, Bool.false_or, Bool.or_true, Bool.true_or, Nat.reduceBEq, beq_self_eq_true, ↓reduceIte, Bool.false_eq_true]
      refine kv ?_
      try with_reducible refine thenK_normal ?_
      first | with_reducible refine ks [] @uKE_1 ?_ | refine kp @uKE_1 ?_
      refine ⟨_, (ke @uKE_1), ?_⟩
      refine ⟨Ext.of_new hN, ?_⟩
      unfold DeltaS
      rw [hno]; rfl
  · intro key
    repeat ((try with_reducible refine Cw.go [999999] ?_); (simp (disch := (first | assumption | omega | (simp only [lenS, lenT, UInt64.reduceToNat]; try omega))) only [↓Sx.S0, Sx.S1, Tryz.fx, uKE_1, Nat.reduceAdd, Nat.reducePow, Int.reducePow, Nat.reduceBEq, ↓reduceIte, UInt8.reduceToNat, UInt16.reduceToNat, UInt32.reduceToNat, UInt64.reduceToNat, Int.reduceToNat]))
    refine Ow.callF rfl rfl Tryz.call71 (S := fun B v D => ∃ b', B ≤ b' ∧ v = vp b' 0 ∧ D = [(b', .cells #[vs d, vi 0, vi 0] 212 (0, 0))]) (fun w' hw' => RNew_spec d w') ?_
    rintro B v D hab hB ⟨br, hbr, rfl, rfl⟩
    refine ⟨_, Mrg.fresh (by intro q hq; simp only [keys, List.map_cons, List.map_nil, List.mem_singleton] at hq; omega), ?_⟩
    simp only [List.cons_append, List.nil_append]
    have hwr : w.heap.size ≤ br := by omega
    refine ko @uKE_1 ?_
    repeat ((try with_reducible refine Cw.go [999999] ?_); (simp (disch := (first | assumption | omega | (simp only [lenS, lenT, UInt64.reduceToNat]; try omega))) only [↓Sx.S0, Sx.S1, Tryz.fx, uKE_1, Nat.reduceAdd, Nat.reducePow, Int.reducePow, Nat.reduceBEq, ↓reduceIte, UInt8.reduceToNat, UInt16.reduceToNat, UInt32.reduceToNat, UInt64.reduceToNat, Int.reduceToNat]))
    have hle1 := numR_le (s := d) (a := 0) (e := 0) (most := 4099) (Nat.zero_le _)
    refine Ow.callM rfl rfl Tryz.call95 (by simp [keys]) (fun w' hw' => RNumber_spec br d 0 0 4099 w' (Nat.zero_le _) hd (hw'.has _ _ List.mem_cons_self)) ?_
    rw [show numR d 0 0 4099 = dB d from rfl] at hle1 ⊢
    have hle2 := numR_le (s := d) (a := (dB d).2.1) (e := (dB d).2.2) (most := 4099) hle1.2
    refine kn ?_
    refine ko @uKE_1 ?_
    refine Ow.callM rfl rfl Tryz.call95 (by simp [keys]) (fun w' hw' => RNumber_spec br d (dB d).2.1 (dB d).2.2 4099 w' hle1.2 hd (hw'.has _ _ List.mem_cons_self)) ?_
    rw [show numR d (dB d).2.1 (dB d).2.2 4099 = dM d from rfl] at hle2 ⊢
    refine kn ?_
    refine ko @uKE_1 ?_
    repeat ((try with_reducible refine Cw.go [999999] ?_); (simp (disch := (first | assumption | omega | (simp only [lenS, lenT, UInt64.reduceToNat]; try omega))) only [↓Sx.S0, Sx.S1, Tryz.fx, uKE_1, Nat.reduceAdd, Nat.reducePow, Int.reducePow, Nat.reduceBEq, ↓reduceIte, UInt8.reduceToNat, UInt16.reduceToNat, UInt32.reduceToNat, UInt64.reduceToNat, Int.reduceToNat]))
    have key0 := fun f' => key (⟨1, br, (dM d).2.1, (dM d).2.2, [], .slice none 0 0, []⟩) f'
    simp only [contP, hasL, Bool.or_false, Bool.false_or, Bool.or_true, Bool.true_or, Nat.reduceBEq, beq_self_eq_true, ↓reduceIte, Bool.false_eq_true] at key0
    clear key
    refine Cw.label ?_
    refine key0 _ (.inl ⟨rfl, hwr, trivial, by simp [keys], Gr.nl, hle2.2, fun g hg => by simp at hg, by simp, ?_⟩) ?_
    · by_cases hm : (dM d).2.2 = 0
      · exact .inr ⟨hm, hm, by simp⟩
      · refine .inl ⟨hm, ?_⟩
        rw [deltaR_eq, if_pos hm]
    · rfl
end Go.Proofs
end
section
open Go Go.Proofs Go.Sx Go.StP Go.Flo
namespace Go.Proofs
set_option maxRecDepth 10000
set_option maxHeartbeats 400000
set_option linter.unusedSimpArgs false
/-! ### A delta, applied -/
theorem deltaR_chk {d : List UInt8} {p : Nat × List PcL} (h : deltaR d = some p) : ∃ m, chkV (p.1 : Nat) p.2 = (m, 0) := by
  rw [deltaR_eq] at h
  split at h
  · cases h
  · split at h
    · cases h
    · split at h
      · rename_i hc
        cases h
        have hb0 := numR_mostE (s := d) (a := 0) (e := 0) (most := 4099) (by omega)
        change 0 ≤ (dB d).1 ∧ (dB d).1 ≤ 4099 at hb0
        refine ⟨(dM d).1, ?_⟩
        rw [show (((dB d).1.toNat : Nat) : Int) = (dB d).1 by omega]
        exact hc
      · cases h
set_option linter.defProp false
def uKF_1 := And.intro (And.intro (And.intro (@rdIn_v8) (@rdIn_vi)) (And.intro (@load_pc0) (And.intro (@load_pc1) (@load_pc)))) (And.intro (And.intro (@cells_pc) (And.intro (@Sx.tup2_0) (@Sx.tup2_1))) (And.intro (@Sx.tup3_0) (And.intro (@Sx.tup3_1) (@Sx.tup3_2))))
theorem Apply_spec (base d : List UInt8) (w : World) (hd : d.length < 9223372036854775808) :
    Rets Tryz.prog 177 #[vs base, vs d] w (fun v D => v = .tuple #[vs (applyV base d).1, vi (applyV base d).2] ∧ D = []) := by
  refine Rets.enterV Tryz.func177 rfl (rs := [.tmp 4, .tmp 5]) Tryz.results177 Tryz.ntmps177 ?_
  refine kf ?_
  first | with_reducible refine ks [] @uKF_1 ?_ | refine kp @uKF_1 ?_
  refine Ow.callC rfl rfl Tryz.call205 (fun w' hw' => ReadD_spec d w' hd) (fun B1 v1 D1 hA1 hB1 hN1 hS1 => ?_)
  have hN1' := hN1.mono hB1
  unfold DeltaS at hS1
  cases hr : deltaR d with
  | none =>
    rw [hr] at hS1
    have hS1' : v1 = .tuple #[vi 0, .slice none 0 0, vi 2] := hS1
    subst hS1'
    have hap : applyV base d = ([], 2) := by unfold applyV; rw [hr]
    have e0 : ((2 : Int) != 0) = true := rfl
    refine ko @uKF_1 ?_
    first | with_reducible refine ks [] (And.intro @uKF_1 @e0) ?_ | refine kp (And.intro @uKF_1 @e0) ?_
    refine ⟨_, (ke @uKF_1), hN1', ?_⟩
    rw [hap]; rfl
  | some p =>
    rw [hr] at hS1
    obtain ⟨x, rfl, hB, hl4, hp4, hg⟩ := hS1
    have e0 : ((0 : Int) != 0) = false := rfl
    by_cases hb : p.1 = base.length
    · have e1 : (((p.1 : Nat) : Int) != ((base.length : Nat) : Int)) = false := by rw [hb]; exact bne_self_eq_false _
      obtain ⟨m, hm⟩ := deltaR_chk hr
      rw [hb] at hm
      have hap : applyV base d = (txtP base p.2, 0) := by unfold applyV; rw [hr]; simp only; rw [if_neg (by simp [hb])]
      refine ko @uKF_1 ?_
      first | with_reducible refine ks [] (And.intro @uKF_1 ( And.intro @e0 (@e1))) ?_ | refine kp (And.intro @uKF_1 ( And.intro @e0 (@e1))) ?_
      refine Ow.callFV rfl Tryz.call206 (fun w' hw' => TextD_spec base x p.2 w' (GrI.slV (hg.mono fun q hq => by simp [hq]) hw' rfl rfl pcC_len) hB (by omega)) ?_
      rw [hm, if_pos rfl]
      refine ko @uKF_1 ?_
      first | with_reducible refine ks [] @uKF_1 ?_ | refine kp @uKF_1 ?_
      refine ⟨_, (ke @uKF_1), hN1', ?_⟩
      rw [hap]; rfl
    · have e1 : (((p.1 : Nat) : Int) != ((base.length : Nat) : Int)) = true := by rw [bne_iff_ne]; omega
      have hap : applyV base d = ([], 19) := by unfold applyV; rw [hr]; simp only; rw [if_pos hb]
      refine ko @uKF_1 ?_
      first | with_reducible refine ks [] (And.intro @uKF_1 ( And.intro @e0 (@e1))) ?_ | refine kp (And.intro @uKF_1 ( And.intro @e0 (@e1))) ?_
      refine ⟨_, (ke @uKF_1), hN1', ?_⟩
      rw [hap]; rfl
end Go.Proofs
end
section
open Go Go.Proofs Go.Sx Go.StP Go.Flo
namespace Go.Proofs
set_option maxRecDepth 10000
set_option maxHeartbeats 400000
set_option linter.unusedSimpArgs false
/-! ### The document's delta: near, Copy, Right, Check -/
set_option linter.defProp false
def uLA_1 := And.intro (@rdIn_v8) (And.intro (@rdIn_vi) (@binX_fleq))
theorem near_spec (x a b : Int) (w : World) (hx : x.natAbs < 8192) (ha : a.natAbs < 8192) (hb : b.natAbs < 8192) :
    Rets Tryz.prog 234 #[fl x, vi a, vi b] w (fun v D => v = .tuple #[vi (if a ≤ x ∧ x ≤ b then x else 0), .bool (decide (a ≤ x ∧ x ≤ b))] ∧ D = []) := by
  refine Rets.enterV Tryz.func234 rfl (rs := [.tmp 6, .tmp 7]) Tryz.results234 Tryz.ntmps234 ?_
  refine kf ?_
  first | with_reducible refine ks [] @uLA_1 ?_ | refine kp @uLA_1 ?_
  refine Ow.convIF rfl rfl cvIF Tryz.underlying3 Tryz.underlying301 rfl ?_
  refine Ow.fgeq rfl rfl rfl hx ha ?_
  by_cases h1 : a ≤ x
  · rw [decide_eq_true h1]
    refine ko @uLA_1 ?_
    refine Ow.convIF rfl rfl cvIF Tryz.underlying3 Tryz.underlying301 rfl ?_
    refine Ow.fleq rfl rfl rfl hx hb ?_
    by_cases h2 : x ≤ b
    · rw [decide_eq_true h2, decide_eq_true (show a ≤ x ∧ x ≤ b from ⟨h1, h2⟩), if_pos ⟨h1, h2⟩]
      refine ko @uLA_1 ?_
      first | with_reducible refine ks [] @uLA_1 ?_ | refine kp @uLA_1 ?_
      refine Ow.convFI rfl rfl cvFI Tryz.underlying301 Tryz.underlying3 rfl hx ?_
      refine ko @uLA_1 ?_
      first | with_reducible refine ks [] @uLA_1 ?_ | refine kp @uLA_1 ?_
      refine Ow.convIF rfl rfl cvIF Tryz.underlying3 Tryz.underlying301 rfl ?_
      refine ko @uLA_1 ?_
      refine Ow.feql rfl rfl rfl hx hx ?_
      rw [show (x == x) = true by simp]
      refine ko @uLA_1 ?_
      first | with_reducible refine ks [] @uLA_1 ?_ | refine kp @uLA_1 ?_
      refine ⟨_, (ke @uLA_1), trivial, ?_⟩
      rfl
    · rw [decide_eq_false h2, decide_eq_false (show ¬ (a ≤ x ∧ x ≤ b) from fun h => h2 h.2), if_neg (fun h => h2 h.2)]
      refine ko @uLA_1 ?_
      first | with_reducible refine ks [] @uLA_1 ?_ | refine kp @uLA_1 ?_
      refine ⟨_, (ke @uLA_1), trivial, ?_⟩
      rfl
  · rw [decide_eq_false h1, decide_eq_false (show ¬ (a ≤ x ∧ x ≤ b) from fun h => h1 h.1), if_neg (fun h => h1 h.1)]
    refine ko @uLA_1 ?_
    first | with_reducible refine ks [] @uLA_1 ?_ | refine kp @uLA_1 ?_
    refine ⟨_, (ke @uLA_1), trivial, ?_⟩
    rfl
/-- What the document's Copy tells. -/
def cpR (p : PcL) (b : Int) : Value := match cpV p b with
  | some q => .tuple #[vi q.1, vi q.2, .bool true]
  | none => if (1 ≤ p.n ∧ p.n ≤ 4099) ∧ p.x = [] ∧ (p.n : Int) ≤ b then .tuple #[vi 0, vi p.n, .bool false] else .tuple #[vi 0, vi 0, .bool false]
theorem cpV_yes {p : PcL} {b : Int} (h : 1 ≤ p.n ∧ p.n ≤ 4099 ∧ p.x = [] ∧ (p.a : Int) ≤ b - p.n) : cpV p b = some (p.a, p.n) := by unfold cpV; rw [if_pos h]
theorem cpV_no {p : PcL} {b : Int} (h : ¬ (1 ≤ p.n ∧ p.n ≤ 4099 ∧ p.x = [] ∧ (p.a : Int) ≤ b - p.n)) : cpV p b = none := by unfold cpV; rw [if_neg h]
set_option linter.defProp false
def uLA_2 := And.intro (And.intro (And.intro (And.intro (@rdIn_v8) (@rdIn_vi)) (And.intro (@load_pc0) (@load_pc1))) (And.intro (And.intro (@load_pc) (@cells_pc)) (And.intro (@binX_cxeq) (@cxz)))) (And.intro (And.intro (And.intro (@vcB_real) (@vcB_imag)) (And.intro (@vcB_complex) (@Sx.tup2_0))) (And.intro (And.intro (@Sx.tup2_1) (@Sx.tup3_0)) (And.intro (@Sx.tup3_1) (@Sx.tup3_2))))
theorem CopyR_spec (p : PcL) (b : Int) (w : World) (hp : PcB p) (h0 : 0 ≤ b) (h1 : b ≤ 4099) :
    Rets Tryz.prog 217 #[.agg (pcC p).toArray, vi b] w (fun v D => v = cpR p b ∧ D = []) := by
  obtain ⟨hpa, hpn⟩ := hp
  refine Rets.enterV Tryz.func217 rfl (rs := [.tmp 4, .tmp 5, .tmp 6]) Tryz.results217 Tryz.ntmps217 ?_
  refine kf ?_
  first | with_reducible refine ks [] @uLA_2 ?_ | refine kp @uLA_2 ?_
  refine Ow.box rfl rfl fun b2 hb2 hw2 => ?_
  simp only [ev_tmp, getF_0, getF_s, cells_agg, List.nil_append, List.cons_append]
  refine Ow.go rfl ?_
  simp (disch := (first | assumption | omega | (simp only [lenS, lenT, UInt64.reduceToNat]; try omega))) only [↓Sx.S0, Sx.S1, Tryz.fx, uLA_2, Nat.reduceAdd, Nat.reducePow, Int.reducePow, Nat.reduceBEq, ↓reduceIte, UInt8.reduceToNat, UInt16.reduceToNat, UInt32.reduceToNat, UInt64.reduceToNat, Int.reduceToNat]
  first | with_reducible refine ks [] @uLA_2 ?_ | refine kp @uLA_2 ?_
  refine Ow.imag rfl rfl ?_
  refine Ow.callFV rfl Tryz.call234 (fun w' hw' => near_spec (p.n : Int) 1 4099 w' (by omega) (by omega) (by omega)) ?_
  unfold cpR
  by_cases c1 : 1 ≤ p.n
  · rw [decide_eq_true (show (1 : Int) ≤ (p.n : Int) ∧ (p.n : Int) ≤ 4099 by omega), if_pos (show (1 : Int) ≤ (p.n : Int) ∧ (p.n : Int) ≤ 4099 by omega)]
    by_cases c2 : p.x = []
    · have d2 : decide (0 < (p.x.length : Int)) = false := by rw [c2]; rfl
      by_cases c4 : (p.n : Int) ≤ b
      · have d4 : decide (b < (p.n : Int)) = false := decide_eq_false (by omega)
        refine ko (And.intro @uLA_2 ( And.intro @d2 (@d4))) ?_
        first | with_reducible refine ks [] @uLA_2 ?_ | refine kp @uLA_2 ?_
        refine Ow.real rfl rfl ?_
        refine ko @uLA_2 ?_
        refine Ow.callFV rfl Tryz.call234 (fun w' hw' => near_spec (p.a : Int) 0 (b - p.n) w' (by omega) (by omega) (by omega)) ?_
        by_cases c3 : (p.a : Int) ≤ b - p.n
        · rw [decide_eq_true (show (0 : Int) ≤ (p.a : Int) ∧ (p.a : Int) ≤ b - p.n by omega), if_pos (show (0 : Int) ≤ (p.a : Int) ∧ (p.a : Int) ≤ b - p.n by omega), cpV_yes ⟨c1, hpn, c2, c3⟩]
          refine ko @uLA_2 ?_
          first | with_reducible refine ks [] @uLA_2 ?_ | refine kp @uLA_2 ?_
          refine ⟨_, (ke @uLA_2), ⟨hw2, trivial⟩, ?_⟩
          rfl
        · rw [decide_eq_false (show ¬ ((0 : Int) ≤ (p.a : Int) ∧ (p.a : Int) ≤ b - p.n) by omega), if_neg (show ¬ ((0 : Int) ≤ (p.a : Int) ∧ (p.a : Int) ≤ b - p.n) by omega), cpV_no (fun h => c3 h.2.2.2)]
          simp only
          rw [if_pos ⟨⟨c1, hpn⟩, c2, c4⟩]
          refine ko @uLA_2 ?_
          first | with_reducible refine ks [] @uLA_2 ?_ | refine kp @uLA_2 ?_
          refine ⟨_, (ke @uLA_2), ⟨hw2, trivial⟩, ?_⟩
          rfl
      · have d4 : decide (b < (p.n : Int)) = true := decide_eq_true (by omega)
        rw [cpV_no (fun h => by have := h.2.2.2; omega)]
        simp only
        rw [if_neg (fun h => c4 h.2.2)]
        refine ko (And.intro @uLA_2 ( And.intro @d2 (@d4))) ?_
        first | with_reducible refine ks [] @uLA_2 ?_ | refine kp @uLA_2 ?_
        refine ⟨_, (ke @uLA_2), ⟨hw2, trivial⟩, ?_⟩
        rfl
    · have d2 : decide (0 < (p.x.length : Int)) = true := decide_eq_true (by have := List.length_pos_iff.2 c2; omega)
      rw [cpV_no (fun h => c2 h.2.2.1)]
      simp only
      rw [if_neg (fun h => c2 h.2.1)]
      refine ko (And.intro @uLA_2 @d2) ?_
      first | with_reducible refine ks [] @uLA_2 ?_ | refine kp @uLA_2 ?_
      refine ⟨_, (ke @uLA_2), ⟨hw2, trivial⟩, ?_⟩
      rfl
  · rw [decide_eq_false (show ¬ ((1 : Int) ≤ (p.n : Int) ∧ (p.n : Int) ≤ 4099) by omega), if_neg (show ¬ ((1 : Int) ≤ (p.n : Int) ∧ (p.n : Int) ≤ 4099) by omega), cpV_no (fun h => c1 h.1)]
    simp only
    rw [if_neg (fun h => c1 h.1.1)]
    refine ko @uLA_2 ?_
    first | with_reducible refine ks [] @uLA_2 ?_ | refine kp @uLA_2 ?_
    refine ⟨_, (ke @uLA_2), ⟨hw2, trivial⟩, ?_⟩
    rfl
end Go.Proofs
end
section
open Go Go.Proofs Go.Sx Go.StP Go.Flo
namespace Go.Proofs
set_option maxRecDepth 10000
set_option maxHeartbeats 400000
set_option linter.unusedSimpArgs false
/-! ### The document's delta: Right, Check -/
theorem pcLen_right {p : PcL} {b : Int} (h : pcLen p b ≠ 0) : pcLen p b = (match cpV p b with | some q => q.2 | none => p.x.length) := by
  unfold pcLen at h ⊢
  split
  · rename_i hz
    rw [cpV_no (fun hc => by omega)]
  · rename_i hz
    rw [if_neg hz] at h
    cases hc : cpV p b with
    | none => rw [hc] at h; exact absurd rfl h
    | some q => rfl
theorem cpV_pos {p : PcL} {b : Int} {q : Nat × Nat} (h : cpV p b = some q) : q = (p.a, p.n) ∧ 1 ≤ p.n := by
  unfold cpV at h
  split at h
  · rename_i hc; cases h; exact ⟨rfl, hc.1⟩
  · cases h
set_option linter.defProp false
def uLB_1 := And.intro (And.intro (And.intro (And.intro (@rdIn_v8) (@rdIn_vi)) (And.intro (@load_pc0) (@load_pc1))) (And.intro (And.intro (@load_pc) (@cells_pc)) (And.intro (@binX_cxeq) (@cxz)))) (And.intro (And.intro (And.intro (@vcB_real) (@vcB_imag)) (And.intro (@vcB_complex) (@Sx.tup2_0))) (And.intro (And.intro (@Sx.tup2_1) (@Sx.tup3_0)) (And.intro (@Sx.tup3_1) (@Sx.tup3_2))))
theorem RightR_spec (p : PcL) (b : Int) (w : World) (hp : PcB p) (h0 : 0 ≤ b) (h1 : b ≤ 4099) :
    Rets Tryz.prog 233 #[.agg (pcC p).toArray, vi b] w (fun v D => v = .bool (decide (pcLen p b ≠ 0)) ∧ D = []) := by
  have hp' := hp
  obtain ⟨hpa, hpn⟩ := hp'
  have hcall : ¬ (p.a = 0 ∧ p.n = 0) → (cpV p b).isSome = decide (pcLen p b ≠ 0) := by
    intro hz
    unfold pcLen
    rw [if_neg (fun h => hz ⟨h.1, h.2.1⟩)]
    cases hc : cpV p b with
    | none => rfl
    | some q =>
      obtain ⟨rfl, hn⟩ := cpV_pos hc
      rw [decide_eq_true (show p.n ≠ 0 by omega)]
      rfl
  refine Rets.enterV Tryz.func233 rfl (rs := [.tmp 4]) Tryz.results233 Tryz.ntmps233 ?_
  refine kf ?_
  first | with_reducible refine ks [3] @uLB_1 ?_ | refine kp @uLB_1 ?_
  refine Ow.box rfl rfl fun b2 hb2 hw2 => ?_
  simp only [ev_tmp, getF_0, getF_s, cells_agg, List.nil_append, List.cons_append]
  refine Ow.go rfl ?_
  simp (disch := (first | assumption | omega | (simp only [lenS, lenT, UInt64.reduceToNat]; try omega))) only [↓Sx.S0, Sx.S1, Tryz.fx, uLB_1, Nat.reduceAdd, Nat.reducePow, Int.reducePow, Nat.reduceBEq, ↓reduceIte, UInt8.reduceToNat, UInt16.reduceToNat, UInt32.reduceToNat, UInt64.reduceToNat, Int.reduceToNat]
  first | with_reducible refine ks [] @uLB_1 ?_ | refine kp @uLB_1 ?_
  refine Ow.real rfl rfl ?_
  refine Ow.feql (b := 0) rfl rfl rfl (by omega) (by omega) ?_
  have fin : ∀ v, v = cpR p b → ∃ x y, v = .tuple #[x, y, .bool (cpV p b).isSome] := by
    rintro v rfl
    unfold cpR
    cases cpV p b with
    | some q => exact ⟨_, _, rfl⟩
    | none =>
      simp only
      split
      · exact ⟨_, _, rfl⟩
      · exact ⟨_, _, rfl⟩
  obtain ⟨x, y, hxy⟩ := fin _ rfl
  by_cases ha : p.a = 0
  · have e1 : (((p.a : Nat) : Int) == 0) = true := by rw [ha]; rfl
    rw [e1]
    refine ko @uLB_1 ?_
    refine Ow.imag rfl rfl ?_
    refine Ow.feql (b := 0) rfl rfl rfl (by omega) (by omega) ?_
    by_cases hn : p.n = 0
    · have e2 : (((p.n : Nat) : Int) == 0) = true := by rw [hn]; rfl
      rw [e2]
      have hc : cpV p b = none := cpV_no (fun h => by omega)
      by_cases hl : 1 ≤ p.x.length
      · have d1 : decide ((1 : Int) ≤ (p.x.length : Int)) = true := decide_eq_true (by omega)
        by_cases hm : p.x.length ≤ 4099
        · have d2 : decide ((p.x.length : Int) ≤ 4099) = true := decide_eq_true (by omega)
          have hr : decide (pcLen p b ≠ 0) = true := decide_eq_true (by unfold pcLen; rw [if_pos ⟨ha, hn, hm⟩]; omega)
          rw [hr]
          refine ko (And.intro @uLB_1 ( And.intro @d1 (@d2))) ?_
          first | with_reducible refine ks [] (And.intro @uLB_1 ( And.intro @d1 (@d2))) ?_ | refine kp (And.intro @uLB_1 ( And.intro @d1 (@d2))) ?_
          refine ⟨_, (ke @uLB_1), ⟨hw2, trivial⟩, ?_⟩
          rfl
        · have d2 : decide ((p.x.length : Int) ≤ 4099) = false := decide_eq_false (by omega)
          have hr : decide (pcLen p b ≠ 0) = false := decide_eq_false (by unfold pcLen; rw [if_neg (fun h => hm h.2.2), hc]; simp)
          rw [hr]
          refine ko (And.intro @uLB_1 ( And.intro @d1 (@d2))) ?_
          first | with_reducible refine ks [] (And.intro @uLB_1 ( And.intro @d1 (@d2))) ?_ | refine kp (And.intro @uLB_1 ( And.intro @d1 (@d2))) ?_
          refine ⟨_, (ke @uLB_1), ⟨hw2, trivial⟩, ?_⟩
          rfl
      · have d1 : decide ((1 : Int) ≤ (p.x.length : Int)) = false := decide_eq_false (by omega)
        have hr : decide (pcLen p b ≠ 0) = false := decide_eq_false (by unfold pcLen; rw [if_pos ⟨ha, hn, by omega⟩]; omega)
        rw [hr]
        refine ko (And.intro @uLB_1 @d1) ?_
        first | with_reducible refine ks [] (And.intro @uLB_1 @d1) ?_ | refine kp (And.intro @uLB_1 @d1) ?_
        refine ⟨_, (ke @uLB_1), ⟨hw2, trivial⟩, ?_⟩
        rfl
    · have e2 : (((p.n : Nat) : Int) == 0) = false := beq_eq_false_iff_ne.2 (by omega)
      rw [e2, ← hcall (fun h => hn h.2)]
      refine ko @uLB_1 ?_
      first | with_reducible refine ks [] @uLB_1 ?_ | refine kp @uLB_1 ?_
      refine Ow.callFV rfl Tryz.call217 (fun w' hw' => CopyR_spec p b w' hp h0 h1) ?_
      rw [hxy]
      refine ko @uLB_1 ?_
      first | with_reducible refine ks [] @uLB_1 ?_ | refine kp @uLB_1 ?_
      refine ⟨_, (ke @uLB_1), ⟨hw2, trivial⟩, ?_⟩
      rfl
  · have e1 : (((p.a : Nat) : Int) == 0) = false := beq_eq_false_iff_ne.2 (by omega)
    rw [e1, ← hcall (fun h => ha h.1)]
    refine ko @uLB_1 ?_
    first | with_reducible refine ks [] @uLB_1 ?_ | refine kp @uLB_1 ?_
    refine Ow.callFV rfl Tryz.call217 (fun w' hw' => CopyR_spec p b w' hp h0 h1) ?_
    rw [hxy]
    refine ko @uLB_1 ?_
    first | with_reducible refine ks [] @uLB_1 ?_ | refine kp @uLB_1 ?_
    refine ⟨_, (ke @uLB_1), ⟨hw2, trivial⟩, ?_⟩
    rfl
end Go.Proofs
end
section
open Go Go.Proofs Go.Sx Go.StP Go.Flo
namespace Go.Proofs
set_option maxRecDepth 10000
set_option maxHeartbeats 400000
set_option linter.unusedSimpArgs false
/-! ### The document's delta: Check -/
theorem cpR_some {p : PcL} {b : Int} {q : Nat × Nat} (h : cpV p b = some q) : cpR p b = .tuple #[vi q.1, vi q.2, .bool true] := by unfold cpR; rw [h]
theorem cpR_none {p : PcL} {b : Int} (h : cpV p b = none) : ∃ y : Int, cpR p b = .tuple #[vi 0, vi y, .bool false] := by
  unfold cpR
  rw [h]
  simp only
  split
  · exact ⟨_, rfl⟩
  · exact ⟨_, rfl⟩
set_option linter.defProp false
def uLC_1 := And.intro (And.intro (And.intro (@rdIn_v8) (@rdIn_vi)) (And.intro (@load_pc0) (And.intro (@load_pc1) (@load_pc)))) (And.intro (And.intro (@cells_pc) (And.intro (@Sx.tup2_0) (@Sx.tup2_1))) (And.intro (@Sx.tup3_0) (And.intro (@Sx.tup3_1) (@Sx.tup3_2))))
theorem CheckR_spec (b : Int) (v : Value) (l : List PcL) (w : World) (hv : PcSl w v l) (hl : BndP l) (hn : l.length < 1000000000) :
    Rets Tryz.prog 216 #[vi b, v] w (fun v D => v = .tuple #[vi (chkV b l).1, vi (chkV b l).2] ∧ D = []) := by
  obtain ⟨bb, off, arr, E, fz, hr⟩ := hv.row
  have ln := hv.len
  refine Rets.enterV Tryz.func216 rfl (rs := [.tmp 4, .tmp 5]) Tryz.results216 Tryz.ntmps216 ?_
  refine kf ?_
  unfold chkV
  by_cases hb0 : b < 0
  · have d1 : decide (b < 0) = true := decide_eq_true hb0
    rw [if_pos (.inl hb0)]
    first | with_reducible refine ks [] (And.intro @uLC_1 @d1) ?_ | refine kp (And.intro @uLC_1 @d1) ?_
    refine ⟨_, (ke @uLC_1), trivial, ?_⟩
    rfl
  have d1 : decide (b < 0) = false := decide_eq_false hb0
  by_cases hb4 : 4099 < b
  · have d2 : decide (4099 < b) = true := decide_eq_true hb4
    rw [if_pos (.inr hb4)]
    first | with_reducible refine ks [] (And.intro @uLC_1 ( And.intro @d1 (@d2))) ?_ | refine kp (And.intro @uLC_1 ( And.intro @d1 (@d2))) ?_
    refine ⟨_, (ke @uLC_1), trivial, ?_⟩
    rfl
  have d2 : decide (4099 < b) = false := decide_eq_false hb4
  rw [if_neg (by omega)]
  first | with_reducible refine ks [] (And.intro @uLC_1 ( And.intro @d1 (@d2))) ?_ | refine kp (And.intro @uLC_1 ( And.intro @d1 (@d2))) ?_
  refine Cw.loopG (G := Nat) [18, 19, 20, 21, 24, 25, 26, 27, 28, 29, 30, 4, 5, 22, 23, 6] (fun g => [(6, vi g)]) (fun g => []) (fun g => g ≤ l.length ∧ anyZ b (l.take g) = false) (fun g => l.length - g) 0 rfl rfl ?_ ?_
  · exact ⟨Nat.zero_le _, rfl⟩
  intro k jk hk
  refine kv ?_
  obtain ⟨hk, hz⟩ := hk
  by_cases hlt : k < l.length
  · have d3 : decide ((k : Int) < (l.length : Int)) = true := decide_eq_true (by omega)
    have rd := hr.has (by omega)
    have ix := hr.idx true k hlt
    have ld := hr.load pcC_len (by omega) hlt
    obtain ⟨hpb, hpx⟩ := hl k hlt
    have htk := anyZ_take (b := b) hlt
    have hmz := anyZ_mem (b := b) hlt
    generalize l.getD k pc0 = p at *
    first | with_reducible refine ks [] (And.intro @uLC_1 ( And.intro @ln ( And.intro @d3 ( And.intro @ix ( And.intro @rd (@ld)))))) ?_ | refine kp (And.intro @uLC_1 ( And.intro @ln ( And.intro @d3 ( And.intro @ix ( And.intro @rd (@ld)))))) ?_
    refine Ow.callFV rfl Tryz.call233 (fun w' hw' => RightR_spec p b w' hpb (by omega) (by omega)) ?_
    by_cases hp0 : pcLen p b = 0
    · rw [decide_eq_false (show ¬ (pcLen p b ≠ 0) by omega), if_pos (hmz hp0)]
      refine ko @uLC_1 ?_
      first | with_reducible refine ks [] @uLC_1 ?_ | refine kp @uLC_1 ?_
      refine ⟨_, (ke @uLC_1), trivial, ?_⟩
      rfl
    · rw [decide_eq_true (show pcLen p b ≠ 0 from hp0)]
      refine ko @uLC_1 ?_
      first | with_reducible refine ks [] @uLC_1 ?_ | refine kp @uLC_1 ?_
      refine Again.mk (k + 1) (by omega) ⟨hlt, ?_⟩ rfl rfl
      rw [htk, hz, Bool.false_or]
      exact beq_eq_false_iff_ne.2 hp0
  · obtain rfl : k = l.length := by omega
    have d3 : decide ((l.length : Int) < (l.length : Int)) = false := decide_eq_false (by omega)
    rw [List.take_length] at hz
    rw [if_neg (by rw [hz]; decide)]
    first | with_reducible refine ks [] (And.intro @uLC_1 ( And.intro @ln (@d3))) ?_ | refine kp (And.intro @uLC_1 ( And.intro @ln (@d3))) ?_
    refine Cw.loopG (G := Nat) [31, 32, 33, 34, 38, 39, 40, 41, 42, 43, 37, 44, 45, 46, 9, 10, 11, 47, 48, 49, 50, 51, 52, 53, 54, 55, 56, 57, 7, 58, 59, 4, 5, 35, 36, 8] (fun g => [(7, vi (sumP b (l.take g) : Nat)), (8, vi g)]) (fun g => []) (fun g => g ≤ l.length ∧ sumP b (l.take g) ≤ 4099) (fun g => l.length - g) 0 rfl rfl ?_ ?_
    · exact ⟨Nat.zero_le _, by simp [sumP]⟩
    intro m jm hm
    refine kv ?_
    obtain ⟨hm, hs⟩ := hm
    by_cases hlt : m < l.length
    · have d4 : decide ((m : Int) < (l.length : Int)) = true := decide_eq_true (by omega)
      have rd := hr.has (by omega)
      have ix := hr.idx true m hlt
      have ld := hr.load pcC_len (by omega) hlt
      have ld1 : loadV (some (false, 1)) (some (.cells arr E fz)) (off + m * 2 + 1) = some (vs (l.getD m pc0).x) := hr.cell (j := 1) (n := 1) hlt (by omega)
      obtain ⟨hpb, hpx⟩ := hl m hlt
      have hst := sumP_take (b := b) hlt
      have hle := sumP_le_take (b := b) (l := l) (g := m + 1)
      have hp0 : pcLen (l.getD m pc0) b ≠ 0 := fun h => by rw [anyZ_mem hlt h] at hz; cases hz
      have hpr := pcLen_right hp0
      have hpl := pcLen_le (l.getD m pc0) b
      generalize l.getD m pc0 = p at *
      first | with_reducible refine ks [15] (And.intro @uLC_1 ( And.intro @ln ( And.intro @d4 ( And.intro @ix ( And.intro @rd (@ld)))))) ?_ | refine kp (And.intro @uLC_1 ( And.intro @ln ( And.intro @d4 ( And.intro @ix ( And.intro @rd (@ld)))))) ?_
      refine Ow.callFV rfl Tryz.call217 (fun w' hw' => CopyR_spec p b w' hpb (by omega) (by omega)) ?_
      have fin : ∀ N : Nat, sumP b (l.take (m + 1)) = sumP b (l.take m) + N → ((sumP b (l.take m) : Nat) : Int) + (N : Int) = ((sumP b (l.take (m + 1)) : Nat) : Int) := fun N h => by omega
      cases hc : cpV p b with
      | some q =>
        rw [hc] at hpr
        simp only at hpr
        rw [cpR_some hc, ← hpr]
        generalize pcLen p b = N at *
        have hf := fin N hst
        refine ko @uLC_1 ?_
        by_cases h4 : 4099 < sumP b (l.take (m + 1))
        · have d5 : decide ((4099 : Int) < ((sumP b (l.take (m + 1)) : Nat) : Int)) = true := decide_eq_true (by omega)
          rw [if_pos (show 4099 < sumP b l by omega)]
          first | with_reducible refine ks [] (And.intro @uLC_1 ( And.intro @hf (@d5))) ?_ | refine kp (And.intro @uLC_1 ( And.intro @hf (@d5))) ?_
          refine ⟨_, (ke @uLC_1), trivial, ?_⟩
          rfl
        · have d5 : decide ((4099 : Int) < ((sumP b (l.take (m + 1)) : Nat) : Int)) = false := decide_eq_false (by omega)
          first | with_reducible refine ks [] (And.intro @uLC_1 ( And.intro @hf (@d5))) ?_ | refine kp (And.intro @uLC_1 ( And.intro @hf (@d5))) ?_
          exact Again.mk (m + 1) (by omega) ⟨hlt, by omega⟩ rfl rfl
      | none =>
        rw [hc] at hpr
        simp only at hpr
        obtain ⟨y, hy⟩ := cpR_none hc
        rw [hy]
        have hf := fin p.x.length (by omega)
        refine ko (And.intro @uLC_1 ( And.intro @ix ( And.intro @rd (@ld1)))) ?_
        by_cases h4 : 4099 < sumP b (l.take (m + 1))
        · have d5 : decide ((4099 : Int) < ((sumP b (l.take (m + 1)) : Nat) : Int)) = true := decide_eq_true (by omega)
          rw [if_pos (show 4099 < sumP b l by omega)]
          first | with_reducible refine ks [] (And.intro @uLC_1 ( And.intro @hf (@d5))) ?_ | refine kp (And.intro @uLC_1 ( And.intro @hf (@d5))) ?_
          refine ⟨_, (ke @uLC_1), trivial, ?_⟩
          rfl
        · have d5 : decide ((4099 : Int) < ((sumP b (l.take (m + 1)) : Nat) : Int)) = false := decide_eq_false (by omega)
          first | with_reducible refine ks [] (And.intro @uLC_1 ( And.intro @hf (@d5))) ?_ | refine kp (And.intro @uLC_1 ( And.intro @hf (@d5))) ?_
          exact Again.mk (m + 1) (by omega) ⟨hlt, by omega⟩ rfl rfl
    · obtain rfl : m = l.length := by omega
      have d4 : decide ((l.length : Int) < (l.length : Int)) = false := decide_eq_false (by omega)
      rw [List.take_length] at hs
      rw [if_neg (by omega), List.take_length]
      first | with_reducible refine ks [] (And.intro @uLC_1 ( And.intro @ln (@d4))) ?_ | refine kp (And.intro @uLC_1 ( And.intro @ln (@d4))) ?_
      refine ⟨_, (ke @uLC_1), trivial, ?_⟩
      rfl
end Go.Proofs
end
section
open Go Go.Proofs Go.Sx Go.StP Go.Flo
namespace Go.Proofs
set_option maxRecDepth 10000
set_option maxHeartbeats 400000
set_option linter.unusedSimpArgs false
/-! ### The document's delta: Text -/
theorem cpV_in {p : PcL} {b : Int} {q : Nat × Nat} (h : cpV p b = some q) : q = (p.a, p.n) ∧ 1 ≤ p.n ∧ p.n ≤ 4099 ∧ p.x = [] ∧ (p.a : Int) ≤ b - p.n := by
  unfold cpV at h
  split at h
  · rename_i hc; cases h; exact ⟨rfl, hc⟩
  · cases h
set_option linter.defProp false
def uLD_1 := And.intro (And.intro (And.intro (@rdIn_v8) (@rdIn_vi)) (And.intro (@load_pc0) (And.intro (@load_pc1) (@load_pc)))) (And.intro (And.intro (@cells_pc) (And.intro (@Sx.tup2_0) (@Sx.tup2_1))) (And.intro (@Sx.tup3_0) (And.intro (@Sx.tup3_1) (@Sx.tup3_2))))
theorem TextR8_spec (base : List UInt8) (v : Value) (l : List PcL) (w : World) (hv : PcSl w v l) (hl : BndP l) (hn : l.length < 1000000000) :
    Rets Tryz.prog 185 #[vs base, v] w (fun v' D => v' = .tuple #[vs (if (chkV base.length l).2 = 0 then txtP base l else []), vi (chkV base.length l).2] ∧ D = []) := by
  obtain ⟨bb, off, arr, E, fz, hr⟩ := hv.row
  have ln := hv.len
  refine Rets.enterV Tryz.func185 rfl (rs := [.tmp 4, .tmp 5]) Tryz.results185 Tryz.ntmps185 ?_
  refine kf ?_
  first | with_reducible refine ks [] @uLD_1 ?_ | refine kp @uLD_1 ?_
  refine Ow.callFV rfl Tryz.call216 (fun w' hw' => CheckR_spec (base.length : Int) v l w' (hv.oldN hw' trivial) hl hn) ?_
  by_cases he : (chkV base.length l).2 = 0
  · obtain ⟨m, hm⟩ : ∃ m, chkV base.length l = (m, 0) := ⟨(chkV base.length l).1, by rw [← he]⟩
    obtain ⟨-, hb4, hz, hs4, -, hl4⟩ := chkV_ok hm
    rw [if_pos he, hm]
    have e0 : ((0 : Int) != 0) = false := rfl
    refine ko @uLD_1 ?_
    first | with_reducible refine ks [] (And.intro @uLD_1 @e0) ?_ | refine kp (And.intro @uLD_1 @e0) ?_
    refine Cw.loopG (G := Nat) [23, 24, 25, 26, 30, 31, 32, 33, 34, 35, 36, 29, 37, 38, 39, 10, 11, 12, 40, 41, 42, 43, 44, 45, 46, 47, 48, 8, 49, 50, 51, 52, 53, 54, 55, 27, 28, 9] (fun g => [(8, vs (txtP base (l.take g))), (9, vi g)]) (fun g => []) (fun g => g ≤ l.length) (fun g => l.length - g) 0 rfl rfl ?_ ?_
    · exact Nat.zero_le _
    intro k jk hk
    refine kv ?_
    by_cases hlt : k < l.length
    · have d3 : decide ((k : Int) < (l.length : Int)) = true := decide_eq_true (by omega)
      have rd := hr.has (by omega)
      have ix := hr.idx true k hlt
      have ld := hr.load pcC_len (by omega) hlt
      have ld1 : loadV (some (false, 1)) (some (.cells arr E fz)) (off + k * 2 + 1) = some (vs (l.getD k pc0).x) := hr.cell (j := 1) (n := 1) hlt (by omega)
      obtain ⟨hpb, hpx⟩ := hl k hlt
      have htk := txtP_take (base := base) hlt
      have hpt : pcT base (l.getD k pc0) = (match cpV (l.getD k pc0) base.length with | some q => (base.drop q.1).take q.2 ++ (l.getD k pc0).x | none => (l.getD k pc0).x) := rfl
      have htl : (txtP base (l.take k)).length ≤ 4099 := by
        rw [txtP_len (base := base) (anyZ_at (g := k) hz)]
        have := sumP_le_take (b := (base.length : Int)) (l := l) (g := k)
        omega
      have hxl : cpV (l.getD k pc0) base.length = none → (l.getD k pc0).x.length ≤ 4099 := fun hc => by
        have hp0 : pcLen (l.getD k pc0) base.length ≠ 0 := fun h => by rw [anyZ_mem hlt h] at hz; cases hz
        have h1 := pcLen_right hp0
        have h2 := pcLen_le (l.getD k pc0) base.length
        rw [hc] at h1
        simp only at h1
        omega
      generalize l.getD k pc0 = p at *
      first | with_reducible refine ks [] (And.intro @uLD_1 ( And.intro @ln ( And.intro @d3 ( And.intro @ix ( And.intro @rd (@ld)))))) ?_ | refine kp (And.intro @uLD_1 ( And.intro @ln ( And.intro @d3 ( And.intro @ix ( And.intro @rd (@ld)))))) ?_
      refine Ow.callFV rfl Tryz.call217 (fun w' hw' => CopyR_spec p (base.length : Int) w' hpb (by omega) (by omega)) ?_
      cases hc : cpV p base.length with
      | some q =>
        rw [hc] at hpt
        simp only at hpt
        obtain ⟨rfl, h1, h2, h3, h4⟩ := cpV_in hc
        rw [cpR_some hc]
        rw [h3, List.append_nil] at hpt
        simp only at hpt ⊢
        refine ko @uLD_1 ?_
        first | with_reducible refine ks [] @uLD_1 ?_ | refine kp @uLD_1 ?_
        refine Again.mk (k + 1) (by omega) (by omega) rfl ?_
        rw [htk, hpt, ← show (base.take (p.a + p.n)).drop p.a = (base.drop p.a).take p.n by rw [List.drop_take, Nat.add_sub_cancel_left]]
        rfl
      | none =>
        rw [hc] at hpt
        simp only at hpt
        obtain ⟨y, hy⟩ := cpR_none hc
        have hx4 := hxl hc
        rw [hy]
        refine ko @uLD_1 ?_
        first | with_reducible refine ks [] (And.intro @uLD_1 ( And.intro @ix ( And.intro @rd (@ld1)))) ?_ | refine kp (And.intro @uLD_1 ( And.intro @ix ( And.intro @rd (@ld1)))) ?_
        refine Again.mk (k + 1) (by omega) (by omega) rfl ?_
        rw [htk, hpt]
        rfl
    · obtain rfl : k = l.length := by omega
      have d3 : decide ((l.length : Int) < (l.length : Int)) = false := decide_eq_false (by omega)
      rw [List.take_length]
      first | with_reducible refine ks [] (And.intro @uLD_1 ( And.intro @ln (@d3))) ?_ | refine kp (And.intro @uLD_1 ( And.intro @ln (@d3))) ?_
      refine ⟨_, (ke @uLD_1), trivial, ?_⟩
      rfl
  · rw [if_neg he]
    have e0 : ((chkV base.length l).2 != 0) = true := bne_iff_ne.2 he
    refine ko @uLD_1 ?_
    first | with_reducible refine ks [] (And.intro @uLD_1 @e0) ?_ | refine kp (And.intro @uLD_1 @e0) ?_
    refine ⟨_, (ke @uLD_1), trivial, ?_⟩
    rfl
end Go.Proofs
end
namespace Go.Sx
open Go
section
variable {P : Program} {w0 : World} {l : List Oper} {R ts : List Nat} {n : Nat} {listed : List Bool} {f : Fr} {L : Heap} {N : Fr → Heap → Prop}
/-- The rest of a region that asks the tape: n operations, of which these are listed; till something of 'ts' comes, what is read stays. -/
def OwG (P : Program) (w0 : World) (l : List Oper) (R ts : List Nat) (n : Nat) (listed : List Bool) (f : Fr) (L : Heap) (N : Fr → Heap → Prop) : Prop :=
  ∀ w, Hp w0 L w → wpAnyG P l.toArray (postN w0 N) ts (SR w0 R L) n listed.toArray (act f) w
theorem Cw.regionG {id : Nat} {K : Kont} (R ts : List Nat) (m : Nat) (hl : l.length = m) (hm : P.follows .mixedOrders = true) (h : OwG P w0 l R ts m (List.replicate m false) f L (K .normal)) : Cw P w0 (.region id l.toArray true) f L K := by
  intro w hw
  subst hl
  refine wp_mono (wp_region_any hm ?_) fun _ _ _ h => postN_post h
  have := wpAny_of_G _ _ _ _ (h _ hw.drew)
  simpa using this
/-- Values that come at once. -/
def chkG (P : Program) (l : List Oper) (ts : List Nat) : List Nat → List Bool → Option (List Bool)
  | [], listed => some listed
  | k :: is, listed =>
    match nthO l k with
    | some o => if !ts.contains k && (ts.all fun t => !listed.toArray.getD t true) && (Region.ready .any l.toArray listed.toArray).contains k && Region.free .any l.toArray listed.toArray k &&
        (pureK P o.op || (readK o.op && waitsB l.toArray ts listed.toArray k)) then chkG P l ts is (listed.set k true) else none
    | none => none
theorem OwG.step {k : Nat} {o : Oper} {v : Value} (hns : Region.noSelect l.toArray = true) (hk : nthO l k = some o) {rest : List Bool} (hc : chkG P l ts [k] listed = some rest)
    (hY : YieldsC P l.toArray (SR w0 R L) (pureK P o.op = true) o v (act f)) (h : OwG P w0 l R ts n rest (putF f o.dst v) L N) : OwG P w0 l R ts (n + 1) listed f L N := by
  have hoi : l.toArray[k]? = some o := by rw [nthO_eq] at hk; simpa using hk
  unfold chkG at hc
  rw [hk] at hc
  simp only at hc
  split at hc
  · rename_i hcc
    simp only [chkG, Option.some.injEq] at hc
    subst hc
    simp only [Bool.and_eq_true, Bool.or_eq_true, Bool.not_eq_true', List.all_eq_true, List.contains_eq_mem, decide_eq_true_eq, decide_eq_false_iff_not] at hcc
    obtain ⟨⟨⟨⟨c2, c3⟩, c4⟩, c5⟩, c9⟩ := hcc
    have hsel := Region.noSelect_spec hns
    intro w hw
    refine G_first hoi c2 hsel (fun c a w h => postN_panic h) _ _ _ _ (first_of (P := P) hoi c4 c5 (c9.imp id fun h => ⟨h.1, h.2, fun t ht => c3 t ht⟩)) (.inr fun t ht => c3 t ht) hY ?_
    rw [act_put, set_toArray]
    exact h w hw
  · cases hc
theorem chkG_cons {k : Nat} {is : List Nat} {listed listed' : List Bool} (h : chkG P l ts (k :: is) listed = some listed') : chkG P l ts [k] listed = some (listed.set k true) ∧ chkG P l ts is (listed.set k true) = some listed' := by
  rw [chkG] at h
  cases ho : nthO l k with
  | none => rw [ho] at h; cases h
  | some o =>
    rw [ho] at h
    simp only at h
    split at h
    · rename_i hcc
      refine ⟨?_, h⟩
      rw [chkG, ho]
      simp only
      rw [if_pos hcc]; rfl
    · cases h
theorem OwG.runs {k : Md → List Oper → Fr → Heap → Prop} (hns : Region.noSelect l.toArray = true) : ∀ (is : List Nat) {listed listed' : List Bool} {f : Fr} {L : Heap}, chkG P l ts is listed = some listed' →
    (∀ md r f' L', k md r f' L' → r = [] ∧ OwG P w0 l R ts n listed' f' L' N) → vcL P w0 l.toArray false (.sof R [] []) (pickL l is) f L k → OwG P w0 l R ts (is.length + n) listed f L N
  | [], listed, listed', f, L, hc, hk, h => by
    cases hc
    rw [List.length_nil, Nat.zero_add]
    exact (hk _ _ _ _ h).2
  | i :: is, listed, listed', f, L, hc, hk, h => by
    obtain ⟨hc1, hc2⟩ := chkG_cons hc
    rw [pickL_cons] at h
    cases ho : nthO l i with
    | none => unfold chkG at hc1; rw [ho] at hc1; cases hc1
    | some o =>
      rw [ho, consO_some] at h
      unfold vcL at h
      rw [List.length_cons, show is.length + 1 + n = (is.length + n) + 1 by omega]
      cases hs : skipped l.toArray f o with
      | true =>
        rw [hs] at h
        have hw0 : Region.wanted o (yielded l.toArray (act f).tmps) = false := by rw [wanted_eq, hs]; rfl
        exact OwG.step hns ho hc1 (v := undef) (.inr ⟨hw0, rfl⟩) (OwG.runs hns is hc2 hk h)
      | false =>
        rw [hs] at h
        have hw0 : Region.wanted o (yielded l.toArray (act f).tmps) = true := by rw [wanted_eq, hs]; rfl
        simp only [ib, vcB] at h
        split at h
        · cases hrd : rdOk (.sof R [] []) f o.op with
          | false => rw [hrd] at h; exact absurd (hk _ _ _ _ h).1 (by simp)
          | true =>
            rw [hrd] at h
            simp only at h
            cases hv : evalV P w0 L f o.op with
            | none => rw [hv] at h; exact absurd (hk _ _ _ _ h).1 (by simp)
            | some v =>
              rw [hv] at h
              refine OwG.step hns ho hc1 (v := v) (.inl ⟨hw0, fun w hw => ?_⟩) (OwG.runs hns is hc2 hk h)
              rw [act_eval']
              rcases hw with hp | hw
              · exact run_evalV (Hp.refl w) (evalV_pure hp hv w)
              · exact run_evalV (Hp.refl w) (evalV_reads hrd hv hw)
        · exact absurd (hk _ _ _ _ h).1 (by simp)
        · exact absurd (hk _ _ _ _ h).1 (by simp)
theorem OwG.run (is : List Nat) (listed' : List Bool) (n : Nat) {m : Nat} (hm : m = is.length + n) (hns : Region.noSelect l.toArray = true) (hc : chkG P l ts is listed = some listed')
    (h : ∀ k : Md → List Oper → Fr → Heap → Prop, (∀ md f L, OwG P w0 l R ts n listed' f L N → k md [] f L) → nl (pickL l is) fun l' => vcL P w0 l.toArray false (.sof R [] []) l' f L k) : OwG P w0 l R ts m listed f L N := by
  subst hm
  refine OwG.runs (k := fun _ r f' L' => r = [] ∧ OwG P w0 l R ts n listed' f' L' N) hns is hc (fun _ _ _ _ h => h) ?_
  exact h _ fun _ _ _ h => ⟨rfl, h⟩
def softsG (l : List Oper) (ts : List Nat) (ks : List Nat) (listed : List Bool) : Bool :=
  ((Region.ready .any l.toArray listed.toArray).all fun i => ks.contains i) && (Region.ready .any l.toArray listed.toArray != []) && ks.all fun k => !ts.contains k
/-- One of some operations is next. -/
theorem OwG.softs (ks : List Nat) (hs : softsG l ts ks listed = true)
    (h : ∀ k, k ∈ ks → ∀ o, nthO l k = some o → Ow P w0 l.toArray .seq [o] f L (fun f' L' => (∀ r, r ∈ R → readB w0 L' r = readB w0 L r) ∧ OwG P w0 l R ts n (listed.set k true) f' L' N)) :
    OwG P w0 l R ts (n + 1) listed f L N := by
  unfold softsG at hs
  simp only [Bool.and_eq_true, List.all_eq_true, bne_iff_ne, ne_eq, List.contains_eq_mem, decide_eq_true_eq, Bool.not_eq_true', decide_eq_false_iff_not] at hs
  obtain ⟨⟨c3, c4⟩, c6⟩ := hs
  intro w hw
  refine ⟨fun _ => SR.of hw, fun hr => absurd hr c4, fun i hi => ?_⟩
  have hik := c3 i hi
  obtain ⟨-, oi, hoi, -⟩ := mem_ready.1 hi
  have hni : nthO l i = some oi := by rw [nthO_eq]; simpa using hoi
  refine wpOp_of hoi (X := wpAnyG P l.toArray (postN w0 N) ts (SR w0 R L) n (listed.toArray.setIfInBounds i true)) ?_ hw
  intro w' hw'
  have h1 := h i hik oi hni w' hw'
  refine wpList_mono1 ?_ h1
  rintro f' L' ⟨hS, hO⟩ w'' hw''
  rw [SR_congr hS, set_toArray]
  exact hO w'' hw''
theorem OwG.one (i : Nat) (oi : Oper) (hs : softsG l ts [i] listed = true) (hi : nthO l i = some oi)
    (h : Ow P w0 l.toArray .seq [oi] f L (fun f' L' => (∀ r, r ∈ R → readB w0 L' r = readB w0 L r) ∧ OwG P w0 l R ts n (listed.set i true) f' L' N)) : OwG P w0 l R ts (n + 1) listed f L N :=
  OwG.softs [i] hs fun k hk o ho => by
    rw [List.mem_singleton] at hk
    subst hk
    rw [hi] at ho
    cases ho
    exact h
theorem OwG.two (i j : Nat) (oi oj : Oper) (hs : softsG l ts [i, j] listed = true) (hi : nthO l i = some oi) (hj : nthO l j = some oj)
    (h1 : Ow P w0 l.toArray .seq [oi] f L (fun f' L' => (∀ r, r ∈ R → readB w0 L' r = readB w0 L r) ∧ OwG P w0 l R ts n (listed.set i true) f' L' N))
    (h2 : Ow P w0 l.toArray .seq [oj] f L (fun f' L' => (∀ r, r ∈ R → readB w0 L' r = readB w0 L r) ∧ OwG P w0 l R ts n (listed.set j true) f' L' N)) : OwG P w0 l R ts (n + 1) listed f L N :=
  OwG.softs [i, j] hs fun k hk o ho => by
    simp only [List.mem_cons, List.not_mem_nil, or_false] at hk
    rcases hk with rfl | rfl
    · rw [hi] at ho; cases ho; exact h1
    · rw [hj] at ho; cases ho; exact h2
/-- The known blocks in another order. -/
theorem OwG.permL {M : Heap} (hp : M.Perm L) (hR : ∀ r, r ∈ R → readB w0 M r = readB w0 L r) (h : OwG P w0 l R ts n listed f M N) : OwG P w0 l R ts n listed f L N := by
  intro w hw
  rw [SR_congr hR]
  exact h w (hw.perm hp)
/-- The check of an order from here. -/
def restG (P : Program) (l : List Oper) (is ts : List Nat) (listed : List Bool) : Bool :=
  Region.noSelect l.toArray && orderB P l.toArray ts is listed.toArray && ts.all fun t => !listed.toArray.getD t true
/-- From here in one order. -/
theorem OwG.rest (is : List Nat) {m : Nat} (hm : m = is.length) (hB : restG P l is ts listed = true) (hl : is.map (fun i : Nat => l[i]?) = (pickL l is).map some)
    (h : nl (pickL l is) fun l' => Ow P w0 l.toArray (.sof R is ts) l' f L N) : OwG P w0 l R ts m listed f L N := by
  subst hm
  revert hl h
  generalize pickL l is = l'
  intro hl h w hw
  simp only [restG, Bool.and_eq_true, List.all_eq_true, Bool.not_eq_true'] at hB
  obtain ⟨⟨h1, h4⟩, h5⟩ := hB
  have hlen : is.length = l'.length := by have := congrArg List.length hl; simpa using this
  have hF : Fits P l.toArray ts is l' listed.toArray := ⟨hlen, fun j => by
    have := congrArg (·[j]?) hl
    simp only [List.getElem?_map] at this
    cases hj : is[j]? with
    | none =>
      rw [hj] at this
      simp only [Option.map_none] at this
      cases hj' : l'[j]? with
      | none => rfl
      | some x => rw [hj'] at this; cases this
    | some i =>
      rw [hj] at this
      simp only [Option.map_some] at this
      cases hj' : l'[j]? with
      | none => rw [hj'] at this; cases this
      | some x =>
        rw [hj'] at this
        simp only [Option.map_some, Option.some.injEq] at this
        simp [this], h1, h4⟩
  rw [hlen]
  exact (h : Ow P w0 l.toArray (.sof R is ts) l' f L N) listed.toArray hF (fun t ht => h5 t ht) w hw
end
/-! ### What holds between two statements, the rest of the frame as it was -/
def CutO {G : Type} (M : List Nat) (S : G → List (Nat × Value)) (H : G → Heap) (J : G → Prop) (f f' : Fr) (L' : Heap) : Prop :=
  ∃ g, J g ∧ L' = H g ∧ f' = pin (overFrom (getF f') M 0 f) (S g)
theorem CutO.mk {G : Type} {M : List Nat} {S : G → List (Nat × Value)} {H : G → Heap} {J : G → Prop} {f f' : Fr} {L' : Heap} (g : G) (hJ : J g) (hL : L' = H g) (hf : f' = pin (overFrom (getF f') M 0 f) (S g)) : CutO M S H J f f' L' := ⟨g, hJ, hL, hf⟩
theorem Cw.cutO {P : Program} {w0 : World} {x y : Code} {f : Fr} {L : Heap} {K : Kont} {G : Type} (M : List Nat) (S : G → List (Nat × Value)) (H : G → Heap) (J : G → Prop) (h1 : Cw P w0 x f L (thenK (CutO M S H J f) K))
    (h2 : ∀ (g : G) (j : Nat → Value), J g → Cw P w0 y (pin (overFrom j M 0 f) (S g)) (H g) K) : Cw P w0 (.seq x y) f L K := by
  refine Cw.seq (h1.mono fun e f' L' k => ?_)
  cases e with
  | normal =>
    obtain ⟨g, hJ, rfl, hf⟩ := k
    have := h2 g (getF f') hJ
    rw [← hf] at this
    exact this
  | _ => exact k
end Go.Sx
section
open Go Go.Proofs Go.Sx Go.StP Go.Flo
namespace Go.Proofs
set_option maxRecDepth 10000
set_option maxHeartbeats 400000
set_option linter.unusedSimpArgs false
/-! ### The document's delta: Read -/
def rrO (s : List UInt8) (a : Nat) (e : Int) : Obj := .cells #[vs s, vi a, vi e] 166 (0, 0)
theorem load_rr0 (s : List UInt8) (a : Nat) (e : Int) (n : Nat) : loadV (some (false, n)) (some (rrO s a e)) 0 = some (vs s) := (rfl)
theorem load_rr1 (s : List UInt8) (a : Nat) (e : Int) (n : Nat) : loadV (some (false, n)) (some (rrO s a e)) 1 = some (vi a) := (rfl)
theorem load_rr2 (s : List UInt8) (a : Nat) (e : Int) (n : Nat) : loadV (some (false, n)) (some (rrO s a e)) 2 = some (vi e) := (rfl)
theorem refRaw_specW (b : Nat) (s : List UInt8) (a : Nat) (e n : Int) (w : World) (ha : a ≤ s.length) (hs : s.length < 1099511627776) (ho : w.heap[b]? = some (rrO s a e)) :
    Rets Tryz.prog 100 #[vp b 0, vi n] w (fun v D => ∃ o, D = [(b, o)] ∧ v = vs (rawR s a e n).1 ∧ o = rrO s (rawR s a e n).2.1 (rawR s a e n).2.2) := refRaw_spec b s a e n w ha hs ho
theorem refNumber_specW (b : Nat) (s : List UInt8) (a : Nat) (e most : Int) (w : World) (ha : a ≤ s.length) (hs : s.length < 1099511627776) (ho : w.heap[b]? = some (rrO s a e)) :
    Rets Tryz.prog 98 #[vp b 0, vi most] w (fun v D => ∃ o, D = [(b, o)] ∧ v = vi (numR s a e most).1 ∧ o = rrO s (numR s a e most).2.1 (numR s a e most).2.2) := refNumber_spec b s a e most w ha hs ho
theorem refEnd_specW (b : Nat) (s : List UInt8) (a : Nat) (e : Int) (w : World) (ho : w.heap[b]? = some (rrO s a e)) :
    Rets Tryz.prog 102 #[vp b 0] w (fun v D => v = vi (endE s a e) ∧ D = []) := refEnd_spec b s a e w ho
theorem zrRR : zeroV Tryz.prog 166 = some (.agg #[vs [], vi 0, vi 0]) := id (by kernel_rfl)
theorem build_rr (s : List UInt8) : buildV (plcT Tryz.prog 166) (zeroV Tryz.prog 166) [(0, vs s)] = some (.agg #[vs s, vi 0, vi 0]) := by
  rw [show plcT Tryz.prog 166 = some [(0, 1), (1, 1), (2, 1)] from id (by kernel_rfl), zrRR]; rfl
theorem build_pc0 : buildV (plcT Tryz.prog 300) (zeroV Tryz.prog 300) [] = some (.agg (pcC pc0).toArray) := by
  rw [show plcT Tryz.prog 300 = some [(0, 1), (1, 1)] from id (by kernel_rfl), zrPc]; rfl
theorem store_pcc (x n : Nat) (E : TypeId) (a : Bool) : storeV (some (a, 1)) (some (.cells (pcC pc0).toArray E (0, 0))) 0 (cx x n) = some (.cells (pcC ⟨x, n, []⟩).toArray E (0, 0)) := (rfl)
theorem store_pct (x : List UInt8) (E : TypeId) (a : Bool) : storeV (some (a, 1)) (some (.cells (pcC pc0).toArray E (0, 0))) 1 (vs x) = some (.cells (pcC ⟨0, 0, x⟩).toArray E (0, 0)) := (rfl)
structure RrG where
  a : Nat
  e : Int
  out : List PcL
  v : Value
  D : Heap
  DG : Heap
/-- What stands in the loop: behind the beginning that ended at a0. -/
def RrJ (d : List UInt8) (a0 : Nat) (e0 : Int) (sz : Nat) (g : RrG) : Prop :=
  New sz g.D ∧ New sz g.DG ∧ Gr g.D 300 2 g.v g.out.length (g.out.map pcC).flatten ∧ g.a ≤ d.length ∧ BndP g.out ∧ g.out.length ≤ g.a + 1 ∧ (g.e = 0 → g.out.length ≤ g.a) ∧
    ((e0 ≠ 0 ∧ g.e ≠ 0) ∨ (e0 = 0 ∧ ((g.e = 0 ∧ pcs d a0 = (g.out ++ (pcs d g.a).1, (pcs d g.a).2)) ∨ (g.e ≠ 0 ∧ pcs d a0 = (g.out, g.a, g.e)))))
/-- What the document's Read hands back. -/
def ReadRS (d : List UInt8) (v : Value) (D : Heap) : Prop := match deltaR d with
  | some p => ∃ x, v = .tuple #[vi p.1, x, .bool true] ∧ BndP p.2 ∧ p.2.length ≤ 4099 ∧ p.1 ≤ 4099 ∧ GrI D 300 2 x p.2.length (p.2.map pcC).flatten
  | none => v = .tuple #[vi 0, .slice none 0 0, .bool false]
theorem bndP_snoc {out : List PcL} {p : PcL} (h : BndP out) (hp : PcB p ∧ p.x.length < 9223372036854775808) : BndP (out ++ [p]) := by
  intro g hg
  by_cases hlt : g < out.length
  · rw [getD_app_l hlt]; exact h g hlt
  · rw [List.length_append] at hg
    rw [getD_app_r (by omega), show g - out.length = 0 by simp at hg; omega]
    exact hp
set_option linter.defProp false
def uLE_1 := And.intro (And.intro (And.intro (@rdIn_v8) (And.intro (@rdIn_vi) (@load_rr0))) (And.intro (And.intro (@load_rr1) (@load_rr2)) (And.intro (@load_pc0) (@load_pc1)))) (And.intro (And.intro (And.intro (@load_pc) (@cells_pc)) (And.intro (@Sx.tup2_0) (@Sx.tup2_1))) (And.intro (And.intro (@Sx.tup3_0) (@Sx.tup3_1)) (And.intro (@Sx.tup3_2) (@vcB_complex))))
theorem ReadR8_spec (d : List UInt8) (w : World) (hd : d.length < 100000000) : Rets Tryz.prog 184 #[vs d] w (XS w [] (ReadRS d)) := by
  refine Rets.enterX Tryz.func184 rfl (rs := [.tmp 2, .tmp 3, .tmp 4]) Tryz.results184 Tryz.ntmps184 (fun p hp => by cases hp) (by simp [keys]) ?_
  refine kf ?_
  first | with_reducible refine ks [] @uLE_1 ?_ | refine kp @uLE_1 ?_
  refine Ow.build (.agg #[vs d, vi 0, vi 0]) rfl (build_rr d) ?_
  refine ko @uLE_1 ?_
  refine Ow.box rfl rfl fun br hbr hwr => ?_
  simp only [ev_tmp, getF_0, getF_s, cells_agg, List.nil_append]
  refine Ow.permL (M := [(br, rrO d 0 0)]) (List.Perm.refl _) ?_
  refine ko @uLE_1 ?_
  first | with_reducible refine ks [] @uLE_1 ?_ | refine kp @uLE_1 ?_
  have l1 := numR_le (s := d) (a := 0) (e := 0) (most := 4099) (Nat.zero_le _)
  have m1 := numR_mostE (s := d) (a := 0) (e := 0) (most := 4099) (by omega)
  refine Ow.callM rfl rfl Tryz.call98 (by simp [keys]) (fun w' hw' => refNumber_specW br d 0 0 4099 w' (Nat.zero_le _) (by omega) (hw'.has _ _ List.mem_cons_self)) ?_
  refine kn ?_
  refine ko @uLE_1 ?_
  first | with_reducible refine ks [] @uLE_1 ?_ | refine kp @uLE_1 ?_
  have l2 := numR_le (s := d) (a := (numR d 0 0 4099).2.1) (e := (numR d 0 0 4099).2.2) (most := 4099) l1.2
  refine Ow.callM rfl rfl Tryz.call98 (by simp [keys]) (fun w' hw' => refNumber_specW br d (numR d 0 0 4099).2.1 (numR d 0 0 4099).2.2 4099 w' l1.2 (by omega) (hw'.has _ _ List.mem_cons_self)) ?_
  have hdR := deltaR_eq d
  rw [show numR d 0 0 4099 = dB d from rfl] at l2 m1 ⊢
  rw [show numR d (dB d).2.1 (dB d).2.2 4099 = dM d from rfl] at l2 ⊢
  refine kn ?_
  refine ko @uLE_1 ?_
  first | with_reducible refine ks [] @uLE_1 ?_ | refine kp @uLE_1 ?_
  refine Cw.permL (M := (br, rrO d (dM d).2.1 (dM d).2.2) :: ([] ++ [])) (List.Perm.refl _) ?_
  refine Cw.loopG (G := RrG) [20, 21, 22, 23, 24, 25, 26, 27, 28, 29, 30, 31, 32, 33, 34, 35, 9, 36, 10, 37, 38, 39, 40, 41, 42, 43, 44, 45, 46, 47, 48, 49, 50, 51, 52, 53, 54, 55, 56, 8] (fun g => [(8, g.v)]) (fun g => (br, rrO d g.a g.e) :: (g.D ++ g.DG)) (fun g => RrJ d (dM d).2.1 (dM d).2.2 w.heap.size g) (fun g => (if g.e = 0 then d.length - g.a + 1 else 0)) ⟨(dM d).2.1, (dM d).2.2, [], .slice none 0 0, [], []⟩ rfl rfl ?_ ?_
  · refine ⟨trivial, trivial, Gr.nl, l2.2, fun g hg => by simp at hg, by simp, fun _ => Nat.zero_le _, ?_⟩
    by_cases he : (dM d).2.2 = 0
    · exact .inr ⟨he, .inl ⟨he, rfl⟩⟩
    · exact .inl ⟨he, he⟩
  intro g j hg
  refine kv ?_
  obtain ⟨a, e, out, v, D, DG⟩ := g
  obtain ⟨hN, hNG, hG, hal, hB, hol, hol0, hrel⟩ := hg
  simp only at hN hNG hG hal hB hol hol0 hrel ⊢
  by_cases hc : e = 0 ∧ a < d.length
  · obtain ⟨rfl, hlt⟩ := hc
    have e0 : ((0 : Int) == 0) = true := rfl
    have d1 : decide ((a : Int) < (d.length : Int)) = true := decide_eq_true (by omega)
    have hle1 := numR_le (s := d) (a := a) (e := 0) (most := 8199) hal
    have hm1 := numR_mostE (s := d) (a := a) (e := 0) (most := 8199) (by omega)
    have hpR : pcR d a = pcR d a := rfl
    conv at hpR => rhs; unfold pcR
    first | with_reducible refine ks [1000008] (And.intro @uLE_1 ( And.intro @e0 (@d1))) ?_ | refine kp (And.intro @uLE_1 ( And.intro @e0 (@d1))) ?_
    refine Ow.callM rfl rfl Tryz.call98 (by simp [keys]) (fun w' hw' => refNumber_specW br d a 0 8199 w' hal (by omega) (hw'.has _ _ List.mem_cons_self)) ?_
    generalize numR d a 0 8199 = q at *
    obtain ⟨q1, a1, e1⟩ := q
    simp only at hle1 hm1 hpR ⊢
    obtain ⟨Q, rfl⟩ : ∃ Q : Nat, q1 = (Q : Int) := ⟨q1.toNat, by omega⟩
    have hQ : Q ≤ 8199 := by omega
    refine kn ?_
    refine ko @uLE_1 ?_
    first | with_reducible refine ks [] @uLE_1 ?_ | refine kp @uLE_1 ?_
    refine Ow.build (.agg (pcC pc0).toArray) rfl build_pc0 ?_
    refine ko @uLE_1 ?_
    refine Ow.alloc rfl rfl zrPc fun b10 hb10 hw10 => ?_
    simp only [cells_agg, List.nil_append, List.cons_append]
    have h10 : br < b10 := above_to hb10 (by simp [keys])
    have hst := store_pc pc0 pc0 300
    refine Ow.permL (M := (b10, .cells (pcC pc0).toArray 300 (0, 0)) :: (br, rrO d a1 e1) :: (D ++ DG)) (by classical exact List.perm_iff_count.2 fun a => by simp only [List.count_append, List.count_cons, List.count_nil] <;> omega) ?_
    refine ko (And.intro @uLE_1 @hst) ?_
    refine Cw.cutO (G := (PcL × Nat × Int)) [37, 38, 39, 40, 41, 42, 43, 44, 45, 46, 47, 48, 49, 50, 51, 52] (fun g => []) (fun g => (b10, .cells (pcC g.1).toArray 300 (0, 0)) :: (br, rrO d g.2.1 g.2.2) :: (D ++ DG)) (fun g => pcR d a = g ∧ (PcB g.1 ∧ g.1.x.length < 9223372036854775808)) ?_ ?_
    · by_cases hodd : (Q : Int) % 2 = 1
      · have d2 : (((Q : Nat) : Int) % 2 == 1) = true := by rw [beq_iff_eq]; exact hodd
        rw [if_pos hodd] at hpR
        have hm2 := numR_mostE (s := d) (a := a1) (e := e1) (most := 4099) (by omega)
        first | with_reducible refine ks [] (And.intro @uLE_1 @d2) ?_ | refine kp (And.intro @uLE_1 @d2) ?_
        refine Ow.callM rfl rfl Tryz.call98 (by simp [keys]) (fun w' hw' => refNumber_specW br d a1 e1 4099 w' hle1.2 (by omega) (hw'.has _ _ (List.mem_cons_of_mem _ List.mem_cons_self))) ?_
        generalize numR d a1 e1 4099 = x at *
        obtain ⟨x1, a2, e2⟩ := x
        simp only at hm2 hpR ⊢
        obtain ⟨X, rfl⟩ : ∃ X : Nat, x1 = (X : Int) := ⟨x1.toNat, by omega⟩
        rw [Int.toNat_natCast, show ((Q : Int) / 2).toNat = Q / 2 by omega] at hpR
        refine kn ?_
        refine Ow.convIF rfl rfl cvIF Tryz.underlying3 Tryz.underlying301 rfl ?_
        refine ko @uLE_1 ?_
        rw [show (Q : Int) / 2 = ((Q / 2 : Nat) : Int) by omega]
        refine Ow.convIF rfl rfl cvIF Tryz.underlying3 Tryz.underlying301 rfl ?_
        refine Ow.complexB (a := (X : Nat)) (b := (Q / 2 : Nat)) rfl rfl rfl ?_
        have hs2 := fun a => store_pcc X (Q / 2) 300 a
        refine ko (And.intro @uLE_1 @hs2) ?_
        refine CutO.mk (⟨X, Q / 2, []⟩, a2, e2) ⟨hpR, ⟨by show X ≤ 4099; omega, by show Q / 2 ≤ 4099; omega⟩, by show 0 < 9223372036854775808; omega⟩ rfl rfl
      · have d2 : (((Q : Nat) : Int) % 2 == 1) = false := by rw [beq_eq_false_iff_ne]; exact hodd
        rw [if_neg hodd] at hpR
        first | with_reducible refine ks [] (And.intro @uLE_1 @d2) ?_ | refine kp (And.intro @uLE_1 @d2) ?_
        refine Ow.callM rfl rfl Tryz.call100 (by simp [keys]) (fun w' hw' => refRaw_specW br d a1 e1 ((Q : Int) / 2) w' hle1.2 (by omega) (hw'.has _ _ (List.mem_cons_of_mem _ List.mem_cons_self))) ?_
        have hxl : (rawR d a1 e1 ((Q : Int) / 2)).1.length ≤ d.length := by
          unfold rawR
          split
          · simp
          · split
            · simp
            · split
              · simp
              · simp only [List.length_take, List.length_drop]; omega
        generalize rawR d a1 e1 ((Q : Int) / 2) = x at *
        obtain ⟨x1, a2, e2⟩ := x
        simp only at hxl hpR ⊢
        refine kn ?_
        have hs2 := fun a => store_pct x1 300 a
        refine ko (And.intro @uLE_1 @hs2) ?_
        refine CutO.mk (⟨0, 0, x1⟩, a2, e2) ⟨hpR, ⟨Nat.zero_le _, Nat.zero_le _⟩, by show x1.length < 9223372036854775808; omega⟩ rfl rfl
    · intro g j hg
      refine kv ?_
      obtain ⟨p, a2, e2⟩ := g
      obtain ⟨hpq, hpB⟩ := hg
      simp only at hpB ⊢
      have hle := pcR_le hal
      have hup := pcR_up hal
      have hok := pcs_ok hlt
      have her := pcs_err hlt
      rw [hpq] at hle hup hok her
      simp only at hle hup hok her
      first | with_reducible refine ks [] @uLE_1 ?_ | refine kp @uLE_1 ?_
      refine Ow.buildSlice (e := 300) (pcC p).toArray rfl rfl (slicePc p) fun b11 hb11 hw11 => ?_
      refine ko @uLE_1 ?_
      refine Ow.permL (M := D ++ ((b10, .cells (pcC p).toArray 300 (0, 0)) :: (br, rrO d a2 e2) :: (DG ++ [(b11, .cells (pcC p).toArray 300 (0, 0))]))) (by classical exact List.perm_iff_count.2 fun a => by simp only [List.count_append, List.count_cons, List.count_nil] <;> omega) ?_
      refine Ow.appendXG (e := 300) (k := 1) (new := pcC p) (X := D) v rfl rfl rfl rfl Tryz.underlying263 (id (by kernel_rfl) : aggT Tryz.prog 300 = some (true, 2)) (by kernel_rfl) zrPc (by rw [cells_pc]; rfl) Tryz.underlying263 (by intro k h; cases h) hG (fun w' hw' => AppX.one1 (hw'.has b11 (.cells (pcC p).toArray 300 (0, 0)) (by simp)) (pcC_len p) (pcC_one p)) (by omega) (fun B3 v3 D3 hA3 hB3 hG3 hk13 hk23 hlk3 => ?_)
      have hN3 : New w.heap.size D3 := New.of_le fun q hq => by
        rcases hk23 q hq with h | h
        · exact hN.le q h
        · omega
      refine Ow.permL (M := (br, rrO d a2 e2) :: (D3 ++ ((b10, .cells (pcC p).toArray 300 (0, 0)) :: (DG ++ [(b11, .cells (pcC p).toArray 300 (0, 0))])))) (by classical exact List.perm_iff_count.2 fun a => by simp only [List.count_append, List.count_cons, List.count_nil] <;> omega) ?_
      refine ko @uLE_1 ?_
      refine Again.mk ⟨a2, e2, out ++ [p], v3, D3, (b10, .cells (pcC p).toArray 300 (0, 0)) :: (DG ++ [(b11, .cells (pcC p).toArray 300 (0, 0))])⟩ ?_ ⟨hN3, ⟨hw10, hNG.app ⟨hw11, trivial⟩⟩, by simpa using hG3, hle.2, bndP_snoc hB hpB, ?_, ?_, ?_⟩ rfl rfl
      · show (if e2 = 0 then d.length - a2 + 1 else 0) < (if (0 : Int) = 0 then d.length - a + 1 else 0)
        rw [if_pos rfl]
        split
        · rename_i he; have := hup he; omega
        · omega
      · show (out ++ [p]).length ≤ a2 + 1
        have := hol0 rfl
        rw [List.length_append]; simp; omega
      · intro he
        show (out ++ [p]).length ≤ a2
        have := hol0 rfl
        have := hup he
        rw [List.length_append]; simp; omega
      · rcases hrel with ⟨h1, h2⟩ | ⟨h1, h2 | h2⟩
        · exact absurd rfl h2
        · refine .inr ⟨h1, ?_⟩
          by_cases he : e2 = 0
          · refine .inl ⟨he, ?_⟩
            rw [h2.2, hok he]
            simp
          · refine .inr ⟨he, ?_⟩
            rw [h2.2, her he]
        · exact absurd rfl h2.1
  · have hdone : (e == 0 && decide ((a : Int) < (d.length : Int))) = false := by
      rw [Bool.and_eq_false_iff]
      by_cases he : e = 0
      · right; exact decide_eq_false (fun h => hc ⟨he, by omega⟩)
      · left; exact beq_eq_false_iff_ne.2 he
    have hNr : New w.heap.size ((br, rrO d a e) :: (D ++ DG)) := ⟨hwr, hN.app hNG⟩
    by_cases he : e = 0
    · subst he
      have hal2 : ¬ a < d.length := fun h => hc ⟨rfl, h⟩
      have e0 : ((0 : Int) == 0) = true := rfl
      have d1 : decide ((a : Int) < (d.length : Int)) = false := decide_eq_false (by omega)
      have hE : endE d a 0 = 0 := by unfold endE; rw [if_neg (by simp), if_neg (by omega)]
      have n0 : ((0 : Int) != 0) = false := rfl
      obtain ⟨h1, h2⟩ : (dM d).2.2 = 0 ∧ pcs d (dM d).2.1 = (out, a, 0) := by
        rcases hrel with ⟨h1, h2⟩ | ⟨h1, h2 | h2⟩
        · exact absurd rfl h2
        · rw [pcs_end hal2] at h2
          exact ⟨h1, by rw [h2.2, List.append_nil]⟩
        · exact absurd rfl h2.1
      rw [h2] at hdR
      rw [if_neg (by rw [h1]; simp), if_neg (by simp)] at hdR
      simp only at hdR
      first | with_reducible refine ks [] (And.intro @uLE_1 ( And.intro @e0 (@d1))) ?_ | refine kp (And.intro @uLE_1 ( And.intro @e0 (@d1))) ?_
      refine Ow.callFV rfl Tryz.call102 (fun w' hw' => refEnd_specW br d a 0 w' (hw'.has _ _ List.mem_cons_self)) ?_
      rw [hE]
      refine ko (And.intro @uLE_1 @n0) ?_
      first | with_reducible refine ks [] (And.intro @uLE_1 @n0) ?_ | refine kp (And.intro @uLE_1 @n0) ?_
      refine Ow.callFV rfl Tryz.call216 (fun w' hw' => CheckR_spec (dB d).1 v out w' (hG.slM (fun b o hm => hw'.has b o (by simp [hm])) rfl rfl pcC_len) hB (by omega)) ?_
      unfold ReadRS
      by_cases hk : chkV (dB d).1 out = ((dM d).1, 0)
      · rw [if_pos hk] at hdR
        rw [hdR, hk]
        obtain ⟨-, -, -, -, -, hc4⟩ := chkV_ok hk
        have n1 : ((dM d).1 != (dM d).1) = false := bne_self_eq_false _
        refine ko @uLE_1 ?_
        first | with_reducible refine ks [] (And.intro @uLE_1 ( And.intro @n0 (@n1))) ?_ | refine kp (And.intro @uLE_1 ( And.intro @n0 (@n1))) ?_
        refine ⟨_, (ke @uLE_1), ?_⟩
        refine ⟨Ext.of_new hNr, v, ?_, hB, hc4, by show (dB d).1.toNat ≤ 4099; omega, Gr.i hG fun q hq => by simp [hq]⟩
        show Value.tuple #[vi (dB d).1, v, .bool true] = .tuple #[vi ((dB d).1.toNat : Nat), v, .bool true]
        rw [show (((dB d).1.toNat : Nat) : Int) = (dB d).1 by omega]
      · rw [if_neg hk] at hdR
        rw [hdR]
        obtain ⟨N, E, hNE⟩ : ∃ N E, chkV (dB d).1 out = (N, E) := ⟨_, _, rfl⟩
        rw [hNE] at hk ⊢
        by_cases hE0 : E = 0
        · subst hE0
          have n1 : (N != (dM d).1) = true := bne_iff_ne.2 (fun h => hk (by rw [h]))
          refine ko @uLE_1 ?_
          first | with_reducible refine ks [] (And.intro @uLE_1 ( And.intro @n0 (@n1))) ?_ | refine kp (And.intro @uLE_1 ( And.intro @n0 (@n1))) ?_
          refine ⟨_, (ke @uLE_1), ?_⟩
          exact ⟨Ext.of_new hNr, rfl⟩
        · have n1 : (E != 0) = true := bne_iff_ne.2 hE0
          refine ko @uLE_1 ?_
          first | with_reducible refine ks [] (And.intro @uLE_1 @n1) ?_ | refine kp (And.intro @uLE_1 @n1) ?_
          refine ⟨_, (ke @uLE_1), ?_⟩
          exact ⟨Ext.of_new hNr, rfl⟩
    · have e0 : (e == 0) = false := beq_eq_false_iff_ne.2 he
      have hE : endE d a e = e := by unfold endE; rw [if_pos he]
      have n0 : (e != 0) = true := bne_iff_ne.2 he
      have hno : deltaR d = none := by
        rw [hdR]
        rcases hrel with ⟨h1, h2⟩ | ⟨h1, h2 | h2⟩
        · rw [if_pos h1]
        · exact absurd h2.1 he
        · rw [h2.2, if_neg (by rw [h1]; simp), if_pos he]
      first | with_reducible refine ks [] (And.intro @uLE_1 @e0) ?_ | refine kp (And.intro @uLE_1 @e0) ?_
      refine Ow.callFV rfl Tryz.call102 (fun w' hw' => refEnd_specW br d a e w' (hw'.has _ _ List.mem_cons_self)) ?_
      rw [hE]
      refine ko (And.intro @uLE_1 @n0) ?_
      first | with_reducible refine ks [] (And.intro @uLE_1 @n0) ?_ | refine kp (And.intro @uLE_1 @n0) ?_
      refine ⟨_, (ke @uLE_1), ?_⟩
      refine ⟨Ext.of_new hNr, ?_⟩
      unfold ReadRS
      rw [hno]
      rfl
end Go.Proofs
end
section
open Go Go.Proofs Go.Sx Go.StP Go.Flo
namespace Go.Proofs
set_option maxRecDepth 10000
set_option maxHeartbeats 400000
set_option linter.unusedSimpArgs false
/-! ### Parts and their paths: plain laws -/
structure PartL where
  d : Bool
  b : Int
  x : List UInt8
def part0 : PartL := ⟨false, 0, []⟩
def partC (p : PartL) : List Value := [.bool p.d, vi p.b, vs p.x]
theorem partC_len (p : PartL) : (partC p).length = 3 := rfl
theorem partC_one (p : PartL) : (partC p).all Value.oneCell' = true := rfl
/-- A part and its bases: how many may still come. -/
def pathGo (l : List PartL) : Nat → Nat → Except Int (List Nat)
  | 0, _ => .error 11
  | k + 1, at_ =>
    if (l.getD at_ part0).d = true then
      (if (l.getD at_ part0).b < 0 ∨ (at_ : Int) ≤ (l.getD at_ part0).b then .error 2
       else if k = 0 then .error 11
       else (pathGo l k (l.getD at_ part0).b.toNat).map (at_ :: ·))
    else if (l.getD at_ part0).b ≠ 0 then .error 2 else .ok [at_]
def pathV (l : List PartL) (at_ : Int) : Except Int (List Nat) :=
  if 200 < l.length ∨ at_ < 0 ∨ (l.length : Int) ≤ at_ then .error 1 else pathGo l 5 at_.toNat
theorem pathGo_more {l : List PartL} : ∀ (k a : Nat) (p : List Nat), pathGo l k a = .ok p → pathGo l (k + 1) a = .ok p
  | 0, _, _, h => by cases h
  | k + 1, a, p, h => by
    unfold pathGo at h ⊢
    split at h
    · rename_i hd
      rw [if_pos hd]
      split at h
      · cases h
      · rename_i hb
        rw [if_neg hb, if_neg (by omega)]
        split at h
        · cases h
        · cases hp : pathGo l k (l.getD a part0).b.toNat with
          | error e => rw [hp] at h; cases h
          | ok q =>
            rw [hp] at h
            rw [pathGo_more k _ q hp]
            exact h
    · rename_i hd
      rw [if_neg hd]
      exact h
/-- What a path begins with, and what stands behind that. -/
theorem pathV_cons {l : List PartL} {a : Nat} (ha : a < l.length) {p : List Nat} (h : pathV l a = .ok p) :
    (p = [a] ∧ (l.getD a part0).d = false ∧ (l.getD a part0).b = 0) ∨ ∃ b q, p = a :: q ∧ (l.getD a part0).d = true ∧ (l.getD a part0).b = (b : Nat) ∧ b < a ∧ pathV l b = .ok q := by
  unfold pathV at h
  split at h
  · cases h
  · rename_i hc
    rw [Int.toNat_natCast] at h
    unfold pathGo at h
    split at h
    · rename_i hd
      split at h
      · cases h
      · rename_i hb
        rw [if_neg (by omega)] at h
        cases hp : pathGo l 4 (l.getD a part0).b.toNat with
        | error e => rw [hp] at h; cases h
        | ok q =>
          rw [hp] at h
          right
          refine ⟨(l.getD a part0).b.toNat, q, ?_, hd, by omega, by omega, ?_⟩
          · cases h; rfl
          · unfold pathV
            rw [if_neg (by omega), Int.toNat_natCast]
            exact pathGo_more 4 _ _ hp
    · rename_i hd
      split at h
      · cases h
      · rename_i hb
        left
        cases h
        exact ⟨rfl, by simpa using hd, by simpa using hb⟩
/-- A part's text, of its base's. -/
def textV (p : PartL) (base : List UInt8) : List UInt8 × Int := if p.d = true then applyV base p.x else if 4099 < p.x.length then ([], 19) else (p.x, 0)
/-- Texts, from the last of a path on. -/
def foldT (l : List PartL) : List Nat → Except Int (List UInt8)
  | [] => .ok []
  | a :: p => (foldT l p).bind fun s => if (textV (l.getD a part0) s).2 = 0 then .ok (textV (l.getD a part0) s).1 else .error (textV (l.getD a part0) s).2
/-- A part's text. -/
def partV (l : List PartL) (at_ : Int) : Except Int (List UInt8) := (pathV l at_).bind (foldT l)
/-- The texts of some first parts. -/
def allGo (l : List PartL) : Nat → Except Int (List (List UInt8))
  | 0 => .ok []
  | k + 1 => (allGo l k).bind fun ts => (partV l (k : Nat)).map fun s => ts ++ [s]
def allV (l : List PartL) : Except Int (List (List UInt8)) := if 200 < l.length then .error 1 else allGo l l.length
theorem allGo_len {l : List PartL} : ∀ (k : Nat) (ts : List (List UInt8)), allGo l k = .ok ts → ts.length = k
  | 0, ts, h => by cases h; rfl
  | k + 1, ts, h => by
    unfold allGo at h
    cases hg : allGo l k with
    | error e => rw [hg] at h; cases h
    | ok us =>
      rw [hg] at h
      have := allGo_len k us hg
      change (partV l (k : Nat)).map (fun s => us ++ [s]) = .ok ts at h
      cases hp : partV l (k : Nat) with
      | error e => rw [hp] at h; cases h
      | ok s => rw [hp] at h; cases h; simp [this]
theorem allGo_at {l : List PartL} : ∀ (k : Nat) (ts : List (List UInt8)), allGo l k = .ok ts → ∀ j, j < k → partV l (j : Nat) = .ok (ts.getD j [])
  | 0, _, _, j, hj => by omega
  | k + 1, ts, h, j, hj => by
    unfold allGo at h
    cases hg : allGo l k with
    | error e => rw [hg] at h; cases h
    | ok us =>
      rw [hg] at h
      have hl := allGo_len k us hg
      change (partV l (k : Nat)).map (fun s => us ++ [s]) = .ok ts at h
      cases hp : partV l (k : Nat) with
      | error e => rw [hp] at h; cases h
      | ok s =>
        rw [hp] at h
        cases h
        by_cases hjk : j < k
        · rw [allGo_at k us hg j hjk, getD_app_l (by omega)]
        · obtain rfl : j = k := by omega
          rw [hp, getD_app_r (by omega), hl, Nat.sub_self]
          rfl
/-- One more text, of what is known. -/
theorem partV_known {l : List PartL} {k : Nat} {ts : List (List UInt8)} (hk : k < l.length) (h : allGo l k = .ok ts) {p : List Nat} (hp : pathV l (k : Nat) = .ok p) :
    partV l (k : Nat) = (if (textV (l.getD k part0) (if 1 < p.length then ts.getD (p.getD 1 0) [] else [])).2 = 0 then .ok (textV (l.getD k part0) (if 1 < p.length then ts.getD (p.getD 1 0) [] else [])).1 else .error (textV (l.getD k part0) (if 1 < p.length then ts.getD (p.getD 1 0) [] else [])).2) := by
  unfold partV
  rw [hp]
  rcases pathV_cons hk hp with ⟨rfl, hd, hb⟩ | ⟨b, q, rfl, hd, hb, hlt, hq⟩
  · rfl
  · have h1 := allGo_at k ts h b hlt
    unfold partV at h1
    rw [hq] at h1
    have hq0 : ∃ r, q = b :: r := by
      rcases pathV_cons (by omega) hq with ⟨rfl, -⟩ | ⟨b2, q2, rfl, -⟩
      · exact ⟨[], rfl⟩
      · exact ⟨q2, rfl⟩
    obtain ⟨r, rfl⟩ := hq0
    change foldT l (b :: r) = _ at h1
    show foldT l (k :: b :: r) = _
    rw [foldT, h1]
    rw [if_pos (show 1 < (k :: b :: r).length by simp)]
    rfl
end Go.Proofs
end
section
open Go Go.Proofs Go.Sx Go.StP Go.Flo
namespace Go.Proofs
set_option maxRecDepth 10000
set_option maxHeartbeats 400000
set_option linter.unusedSimpArgs false
/-! ### A part's path -/
def natC (n : Nat) : List Value := [vi n]
theorem natC_len (n : Nat) : (natC n).length = 1 := rfl
abbrev PartSl (w : World) (v : Value) (l : List PartL) : Prop := SlV 3 partC part0 w v l
theorem load_part0 (p : PartL) (E : TypeId) (n : Nat) : loadV (some (false, n)) (some (.cells (partC p).toArray E (0, 0))) 0 = some (.bool p.d) := (rfl)
theorem load_part1 (p : PartL) (E : TypeId) (n : Nat) : loadV (some (false, n)) (some (.cells (partC p).toArray E (0, 0))) 1 = some (vi p.b) := (rfl)
theorem load_part2 (p : PartL) (E : TypeId) (n : Nat) : loadV (some (false, n)) (some (.cells (partC p).toArray E (0, 0))) 2 = some (vs p.x) := (rfl)
theorem cells_part (p : PartL) : Value.cells (.agg (partC p).toArray) = (partC p).toArray := cells_agg _
theorem zrPart : zeroV Tryz.prog 114 = some (.agg (partC part0).toArray) := id (by kernel_rfl)
theorem store_part (p q : PartL) (E : TypeId) : storeV (some (true, 3)) (some (.cells (partC q).toArray E (0, 0))) 0 (.agg (partC p).toArray) = some (.cells (partC p).toArray E (0, 0)) :=
  store_whole (partC p) (n := 3) true (partC q).toArray E rfl (partC_one p) rfl
structure PaG where
  lab : Nat
  at_ : Nat
  out : List Nat
  v : Value
  b7 : Nat
  q : PartL
  e : Int
  D : Heap
def PaJ (l : List PartL) (a0 : Int) (n : Nat) (g : PaG) : Prop :=
  (g.lab = 1 ∧ n ≤ g.b7 ∧ New n g.D ∧ g.b7 ∉ keys g.D ∧ Gr g.D 3 1 g.v g.out.length (g.out.map natC).flatten ∧ g.at_ < l.length ∧ l.length ≤ 200 ∧ g.out.length ≤ 4 ∧
    pathV l a0 = (pathGo l (5 - g.out.length) g.at_).map (g.out ++ ·)) ∨
  (g.lab = 0 ∧ New n g.D ∧ pathV l a0 = .error g.e)
def PaH (g : PaG) : Heap := match g.lab with
  | 1 => (g.b7, .cells (partC g.q).toArray 114 (0, 0)) :: g.D
  | _ => g.D
def PaS (g : PaG) : List (Nat × Value) := match g.lab with
  | 1 => [(1, vi g.at_), (6, g.v), (7, vp g.b7 0), (8, vi 1)]
  | _ => [(8, vi g.e)]
def PaL (g : PaG) : Nat := match g.lab with
  | 1 => 1
  | _ => 0
/-- What path hands back. -/
def PathS (l : List PartL) (a0 : Int) (v : Value) (D : Heap) : Prop := match pathV l a0 with
  | .ok p => ∃ x, v = .tuple #[x, vi 0] ∧ p.length ≤ 5 ∧ GrI D 3 1 x p.length (p.map natC).flatten
  | .error e => v = .tuple #[.slice none 0 0, vi e]
set_option linter.defProp false
def uKG_1 := And.intro (And.intro (And.intro (@rdIn_v8) (@rdIn_vi)) (And.intro (@load_part0) (@load_part1))) (And.intro (And.intro (@load_part2) (@cells_part)) (And.intro (@Sx.tup2_0) (@Sx.tup2_1)))
theorem path_spec (v0 : Value) (l : List PartL) (a0 : Int) (w : World) (hv : PartSl w v0 l) (hl : l.length < 1000000) :
    Rets Tryz.prog 153 #[v0, vi a0] w (XS w [] (PathS l a0)) := by
  obtain ⟨bb, off, arr, E, fz, hr⟩ := hv.row
  have ln := hv.len
  refine Rets.enterX Tryz.func153 rfl (rs := [.tmp 4, .tmp 5]) Tryz.results153 Tryz.ntmps153 (fun p hp => by cases hp) (by simp [keys]) ?_
  refine kf ?_
  first | with_reducible refine ks [] @uKG_1 ?_ | refine kp @uKG_1 ?_
  refine Cw.scopeL (G := PaG) (fun g => PaL g) [6, 7, 8, 9, 10, 11, 12, 13, 14, 15, 16, 17, 18, 19, 20, 21, 22, 23, 24, 25, 26, 27, 28, 29, 31, 32, 33, 34, 35, 36, 37, 38, 39, 40, 41, 42, 43, 30, 44, 45, 46, 47, 48, 49, 50, 51, 53, 54, 55, 52, 56, 4, 5, 58, 59, 60, 57, 61, 62, 1, 63] (fun g => PaS g) (fun g => PaH g) (fun g => PaJ l a0 w.heap.size g) (fun g => (if g.lab = 1 then 6 - g.out.length else 0)) ?_ ?_ ?_
  · intro g
    unfold PaL
    split <;> rfl
  · intro g j hg
    rcases hg with hg | hg
    · obtain ⟨lab, a, out, v, b7, q, e, D⟩ := g
      obtain ⟨hlab, hg⟩ := hg
      simp only at hlab
      subst hlab
      simp only [PaL, PaS, PaH] at hg ⊢
      obtain ⟨hw7, hN, hbD, hGr, hal, h200, hol, hpv⟩ := hg
      have hb0 : 0 < l.length := by omega
      have hbl := hr.lt hb0
      have i2 := hr.idx true a hal
      have ld := hr.load partC_len (by omega) hal
      simp only [contP, hasL, Bool.or_false, Bool.false_or, Bool.or_true, Bool.true_or, Nat.reduceBEq, beq_self_eq_true, ↓reduceIte, Bool.false_eq_true]
      refine kv ?_
      try with_reducible refine thenK_normal ?_
      first | with_reducible refine ks [] @uKG_1 ?_ | refine kp @uKG_1 ?_
      refine Ow.buildSlice (e := 3) #[vi a] rfl rfl (by kernel_rfl) fun b9 hb9 hw9 => ?_
      have h79 : b7 < b9 := above_to hb9 (by simp [keys])
      refine Ow.permL (M := D ++ [(b7, .cells (partC q).toArray 114 (0, 0)), (b9, .cells #[vi a] 3 (0, 0))]) (by classical exact List.perm_iff_count.2 fun a => by simp only [List.count_append, List.count_cons, List.count_nil] <;> omega) ?_
      refine ko @uKG_1 ?_
      refine Ow.appendXG (e := 3) (k := 1) (new := natC a) (X := D) v rfl rfl rfl rfl Tryz.underlying28 (id (by kernel_rfl) : aggT Tryz.prog 3 = some (false, 1)) (by kernel_rfl) (id (by kernel_rfl) : zeroV Tryz.prog 3 = some (vi 0)) rfl Tryz.underlying28 (by intro k h; cases h) hGr (fun w' hw' => AppX.one1 (hw'.has b9 (.cells #[vi a] 3 (0, 0)) (by simp)) (natC_len a) rfl) (by omega) (fun B3 v3 D3 hA3 hB3 hG3 hk13 hk23 hlk3 => ?_)
      have hN3 : New w.heap.size D3 := New.of_le fun c hc => by
        rcases hk23 c hc with h | h
        · exact hN.le c h
        · omega
      have hbD3 : b7 ∉ keys D3 := fun hm => by
        rcases hk23 b7 hm with h | h
        · exact hbD h
        · exact Nat.lt_irrefl _ (Nat.lt_of_lt_of_le (above_to hA3 (by rw [keys_app]; exact List.mem_append_right _ (by simp [keys]))) h)
      have hG4 : Gr (D3 ++ [(b9, .cells #[vi a] 3 (0, 0))]) 3 1 v3 (out ++ [a]).length ((out ++ [a]).map natC).flatten := by
        have := hG3.app (M := [(b9, Obj.cells #[vi a] 3 (0, 0))])
        simpa using this
      have hN4 : New w.heap.size (D3 ++ [(b9, Obj.cells #[vi a] 3 (0, 0))]) := hN3.app ⟨hw9, trivial⟩
      have hbD4 : b7 ∉ keys (D3 ++ [(b9, Obj.cells #[vi a] 3 (0, 0))]) := fun hm => by
        rw [keys_app] at hm
        rcases List.mem_append.1 hm with h | h
        · exact hbD3 h
        · simp [keys] at h; omega
      refine Ow.permL (M := (b7, .cells (partC q).toArray 114 (0, 0)) :: (D3 ++ [(b9, .cells #[vi a] 3 (0, 0))])) (by classical exact List.perm_iff_count.2 fun a => by simp only [List.count_append, List.count_cons, List.count_nil] <;> omega) ?_
      generalize (D3 ++ [(b9, Obj.cells #[vi a] 3 (0, 0))]) = D4 at *
      have rd : readB w ((b7, Obj.cells (partC q).toArray 114 (0, 0)) :: D4) bb = some (.cells arr E fz) := by
        rw [read_none (by simp only [keys, List.map_cons, List.mem_cons, not_or]; exact ⟨by omega, hN4.not hbl⟩)]; exact hr.has hb0
      have hk5 : pathGo l (5 - out.length) a = pathGo l (5 - out.length - 1 + 1) a := by congr 1; omega
      rw [hk5, pathGo] at hpv
      generalize hp : l.getD a part0 = p at *
      have hst := store_part p q 114
      have hlen4 : ∀ m, lenV (.sl m) v3 = some (vi (out ++ [a]).length) := fun m => hG4.len m
      have hN7 : New w.heap.size ((b7, Obj.cells (partC p).toArray 114 (0, 0)) :: D4) := ⟨hw7, hN4⟩
      cases hd : p.d
      · rw [hd, if_neg (by simp)] at hpv
        by_cases hb : p.b = 0
        · have e1 : (p.b != 0) = false := by rw [hb]; rfl
          have nf : (!false) = true := rfl
          rw [if_neg (by simp [hb])] at hpv
          refine ko @uKG_1 ?_
          first | with_reducible refine ks [] (And.intro @uKG_1 ( And.intro @i2 ( And.intro @rd ( And.intro @ld ( And.intro @hst ( And.intro @hd ( And.intro @e1 (@nf)))))))) ?_ | refine kp (And.intro @uKG_1 ( And.intro @i2 ( And.intro @rd ( And.intro @ld ( And.intro @hst ( And.intro @hd ( And.intro @e1 (@nf)))))))) ?_
          refine ⟨_, (ke @uKG_1), ?_⟩
          refine ⟨Ext.of_new hN7, ?_⟩
          unfold PathS
          rw [hpv]
          refine ⟨v3, rfl, by show (out ++ [a]).length ≤ 5; rw [List.length_append]; simp; omega, Gr.i (X := D4) hG4 fun c hc => List.mem_cons_of_mem _ hc⟩
        · have e1 : (p.b != 0) = true := by rw [bne_iff_ne]; exact hb
          have nf : (!false) = true := rfl
          rw [if_pos hb] at hpv
          refine ko @uKG_1 ?_
          first | with_reducible refine ks [] (And.intro @uKG_1 ( And.intro @i2 ( And.intro @rd ( And.intro @ld ( And.intro @hst ( And.intro @hd ( And.intro @e1 (@nf)))))))) ?_ | refine kp (And.intro @uKG_1 ( And.intro @i2 ( And.intro @rd ( And.intro @ld ( And.intro @hst ( And.intro @hd ( And.intro @e1 (@nf)))))))) ?_
          exact Jump.mk ⟨0, 0, [], v3, 0, p, 2, (b7, .cells (partC p).toArray 114 (0, 0)) :: D4⟩ rfl (by show 0 < 6 - out.length; omega) (.inr ⟨rfl, hN7, hpv⟩) rfl rfl
      · rw [hd, if_pos rfl] at hpv
        have nt : (!true) = false := rfl
        by_cases hb : p.b < 0
        · have e1 : decide (p.b < 0) = true := decide_eq_true hb
          rw [if_pos (.inl hb)] at hpv
          refine ko @uKG_1 ?_
          first | with_reducible refine ks [] (And.intro @uKG_1 ( And.intro @i2 ( And.intro @rd ( And.intro @ld ( And.intro @hst ( And.intro @hd ( And.intro @e1 (@nt)))))))) ?_ | refine kp (And.intro @uKG_1 ( And.intro @i2 ( And.intro @rd ( And.intro @ld ( And.intro @hst ( And.intro @hd ( And.intro @e1 (@nt)))))))) ?_
          exact Jump.mk ⟨0, 0, [], v3, 0, p, 2, (b7, .cells (partC p).toArray 114 (0, 0)) :: D4⟩ rfl (by show 0 < 6 - out.length; omega) (.inr ⟨rfl, hN7, hpv⟩) rfl rfl
        · have e1 : decide (p.b < 0) = false := decide_eq_false hb
          by_cases hb2 : (a : Int) ≤ p.b
          · have e2 : decide ((a : Int) ≤ p.b) = true := decide_eq_true hb2
            rw [if_pos (.inr hb2)] at hpv
            refine ko @uKG_1 ?_
            first | with_reducible refine ks [] (And.intro @uKG_1 ( And.intro @i2 ( And.intro @rd ( And.intro @ld ( And.intro @hst ( And.intro @hd ( And.intro @e1 ( And.intro @e2 (@nt))))))))) ?_ | refine kp (And.intro @uKG_1 ( And.intro @i2 ( And.intro @rd ( And.intro @ld ( And.intro @hst ( And.intro @hd ( And.intro @e1 ( And.intro @e2 (@nt))))))))) ?_
            exact Jump.mk ⟨0, 0, [], v3, 0, p, 2, (b7, .cells (partC p).toArray 114 (0, 0)) :: D4⟩ rfl (by show 0 < 6 - out.length; omega) (.inr ⟨rfl, hN7, hpv⟩) rfl rfl
          · have e2 : decide ((a : Int) ≤ p.b) = false := decide_eq_false hb2
            rw [if_neg (by omega)] at hpv
            by_cases ho : out.length = 4
            · have e3 : decide ((4 : Int) < ((out ++ [a]).length : Int)) = true := by rw [List.length_append]; exact decide_eq_true (by simp; omega)
              rw [if_pos (by omega)] at hpv
              refine ko @uKG_1 ?_
              first | with_reducible refine ks [] (And.intro @uKG_1 ( And.intro @i2 ( And.intro @rd ( And.intro @ld ( And.intro @hst ( And.intro @hd ( And.intro @e1 ( And.intro @e2 ( And.intro @nt ( And.intro @hlen4 (@e3))))))))))) ?_ | refine kp (And.intro @uKG_1 ( And.intro @i2 ( And.intro @rd ( And.intro @ld ( And.intro @hst ( And.intro @hd ( And.intro @e1 ( And.intro @e2 ( And.intro @nt ( And.intro @hlen4 (@e3))))))))))) ?_
              exact Jump.mk ⟨0, 0, [], v3, 0, p, 11, (b7, .cells (partC p).toArray 114 (0, 0)) :: D4⟩ rfl (by show 0 < 6 - out.length; omega) (.inr ⟨rfl, hN7, hpv⟩) rfl rfl
            · have e3 : decide ((4 : Int) < ((out ++ [a]).length : Int)) = false := by rw [List.length_append]; exact decide_eq_false (by simp; omega)
              rw [if_neg (by omega)] at hpv
              obtain ⟨Bn, hBn⟩ : ∃ Bn : Nat, p.b = (Bn : Int) := ⟨p.b.toNat, by omega⟩
              have hol2 : (out ++ [a]).length = out.length + 1 := by simp
              refine ko @uKG_1 ?_
              first | with_reducible refine ks [] (And.intro @uKG_1 ( And.intro @i2 ( And.intro @rd ( And.intro @ld ( And.intro @hst ( And.intro @hd ( And.intro @e1 ( And.intro @e2 ( And.intro @nt ( And.intro @hlen4 (@e3))))))))))) ?_ | refine kp (And.intro @uKG_1 ( And.intro @i2 ( And.intro @rd ( And.intro @ld ( And.intro @hst ( And.intro @hd ( And.intro @e1 ( And.intro @e2 ( And.intro @nt ( And.intro @hlen4 (@e3))))))))))) ?_
              rw [hBn]
              refine Jump.mk ⟨1, Bn, out ++ [a], v3, b7, p, 1, D4⟩ rfl (by show 6 - (out ++ [a]).length < 6 - out.length; omega) (.inl ⟨rfl, hw7, hN4, hbD4, hG4, by show Bn < l.length; omega, h200, by show (out ++ [a]).length ≤ 4; omega, ?_⟩) rfl rfl
              show pathV l a0 = (pathGo l (5 - (out ++ [a]).length) Bn).map ((out ++ [a]) ++ ·)
              rw [hpv, hBn, Int.toNat_natCast, show 5 - (out ++ [a]).length = 5 - out.length - 1 by omega]
              cases pathGo l (5 - out.length - 1) Bn with
              | error x => rfl
              | ok x => show Except.ok _ = Except.ok _; simp
    · obtain ⟨lab, a, out, v, b7, q, e, D⟩ := g
      obtain ⟨hlab, hg⟩ := hg
      simp only at hlab
      subst hlab
      simp only [PaL, PaS, PaH] at hg ⊢
      obtain ⟨hN, hno⟩ := hg
      simp only [contP, hasL, Bool.or_false, Bool.false_or, Bool.or_true, Bool.true_or, Nat.reduceBEq, beq_self_eq_true, ↓reduceIte, Bool.false_eq_true]
      refine kv ?_
      try with_reducible refine thenK_normal ?_
      first | with_reducible refine ks [] @uKG_1 ?_ | refine kp @uKG_1 ?_
      refine ⟨_, (ke @uKG_1), ?_⟩
      refine ⟨Ext.of_new hN, ?_⟩
      unfold PathS
      rw [hno]; rfl
  · intro key
    repeat ((try with_reducible refine Cw.go [999999] ?_); (simp (disch := (first | assumption | omega | (simp only [lenS, lenT, UInt64.reduceToNat]; try omega))) only [↓Sx.S0, Sx.S1, Tryz.fx, uKG_1, Nat.reduceAdd, Nat.reducePow, Int.reducePow, Nat.reduceBEq, ↓reduceIte, UInt8.reduceToNat, UInt16.reduceToNat, UInt32.reduceToNat, UInt64.reduceToNat, Int.reduceToNat]))
    refine Ow.alloc rfl rfl zrPart fun b7 hb7 hw7 => ?_
    simp only [cells_agg, List.nil_append, List.cons_append]
    refine ko @uKG_1 ?_
    by_cases h1 : 200 < l.length
    · have d1 : decide ((200 : Int) < (l.length : Int)) = true := decide_eq_true (by omega)
      have hpv : pathV l a0 = .error 1 := by unfold pathV; rw [if_pos (.inl h1)]
      repeat ((try with_reducible refine Cw.go [999999] ?_); (simp (disch := (first | assumption | omega | (simp only [lenS, lenT, UInt64.reduceToNat]; try omega))) only [↓Sx.S0, Sx.S1, Tryz.fx, uKG_1, Nat.reduceAdd, Nat.reducePow, Int.reducePow, Nat.reduceBEq, ↓reduceIte, UInt8.reduceToNat, UInt16.reduceToNat, UInt32.reduceToNat, UInt64.reduceToNat, Int.reduceToNat, ln, d1]))
      exact Jump.mk ⟨0, 0, [], .slice none 0 0, 0, part0, 1, [(b7, .cells (partC part0).toArray 114 (0, 0))]⟩ rfl trivial (.inr ⟨rfl, ⟨hw7, trivial⟩, hpv⟩) rfl rfl
    · have d1 : decide ((200 : Int) < (l.length : Int)) = false := decide_eq_false (by omega)
      by_cases h2 : a0 < 0
      · have d2 : decide (a0 < 0) = true := decide_eq_true h2
        have hpv : pathV l a0 = .error 1 := by unfold pathV; rw [if_pos (.inr (.inl h2))]
        repeat ((try with_reducible refine Cw.go [999999] ?_); (simp (disch := (first | assumption | omega | (simp only [lenS, lenT, UInt64.reduceToNat]; try omega))) only [↓Sx.S0, Sx.S1, Tryz.fx, uKG_1, Nat.reduceAdd, Nat.reducePow, Int.reducePow, Nat.reduceBEq, ↓reduceIte, UInt8.reduceToNat, UInt16.reduceToNat, UInt32.reduceToNat, UInt64.reduceToNat, Int.reduceToNat, ln, d1, d2]))
        exact Jump.mk ⟨0, 0, [], .slice none 0 0, 0, part0, 1, [(b7, .cells (partC part0).toArray 114 (0, 0))]⟩ rfl trivial (.inr ⟨rfl, ⟨hw7, trivial⟩, hpv⟩) rfl rfl
      · have d2 : decide (a0 < 0) = false := decide_eq_false h2
        by_cases h3 : (l.length : Int) ≤ a0
        · have d3 : decide ((l.length : Int) ≤ a0) = true := decide_eq_true h3
          have hpv : pathV l a0 = .error 1 := by unfold pathV; rw [if_pos (.inr (.inr h3))]
          repeat ((try with_reducible refine Cw.go [999999] ?_); (simp (disch := (first | assumption | omega | (simp only [lenS, lenT, UInt64.reduceToNat]; try omega))) only [↓Sx.S0, Sx.S1, Tryz.fx, uKG_1, Nat.reduceAdd, Nat.reducePow, Int.reducePow, Nat.reduceBEq, ↓reduceIte, UInt8.reduceToNat, UInt16.reduceToNat, UInt32.reduceToNat, UInt64.reduceToNat, Int.reduceToNat, ln, d1, d2, d3]))
          exact Jump.mk ⟨0, 0, [], .slice none 0 0, 0, part0, 1, [(b7, .cells (partC part0).toArray 114 (0, 0))]⟩ rfl trivial (.inr ⟨rfl, ⟨hw7, trivial⟩, hpv⟩) rfl rfl
        · have d3 : decide ((l.length : Int) ≤ a0) = false := decide_eq_false h3
          obtain ⟨A, rfl⟩ : ∃ A : Nat, a0 = (A : Int) := ⟨a0.toNat, by omega⟩
          repeat ((try with_reducible refine Cw.go [999999] ?_); (simp (disch := (first | assumption | omega | (simp only [lenS, lenT, UInt64.reduceToNat]; try omega))) only [↓Sx.S0, Sx.S1, Tryz.fx, uKG_1, Nat.reduceAdd, Nat.reducePow, Int.reducePow, Nat.reduceBEq, ↓reduceIte, UInt8.reduceToNat, UInt16.reduceToNat, UInt32.reduceToNat, UInt64.reduceToNat, Int.reduceToNat, ln, d1, d2, d3]))
          have key0 := fun f' => key (⟨1, A, [], .slice none 0 0, b7, part0, 1, []⟩) f'
          simp only [contP, hasL, Bool.or_false, Bool.false_or, Bool.or_true, Bool.true_or, Nat.reduceBEq, beq_self_eq_true, ↓reduceIte, Bool.false_eq_true] at key0
          clear key
          refine Cw.label ?_
          refine key0 _ (.inl ⟨rfl, hw7, trivial, by simp [keys], Gr.nl, by show A < l.length; omega, by omega, by simp, ?_⟩) ?_
          · show pathV l (A : Int) = (pathGo l 5 A).map ([] ++ ·)
            unfold pathV
            rw [if_neg (by omega), Int.toNat_natCast]
            cases pathGo l 5 A with
            | error x => rfl
            | ok x => rfl
          · rfl
end Go.Proofs
end
section
open Go Go.Proofs Go.Sx Go.StP Go.Flo
namespace Go.Proofs
set_option maxRecDepth 10000
set_option maxHeartbeats 400000
set_option linter.unusedSimpArgs false
/-! ### A part's text -/
theorem pathGo_err {l : List PartL} : ∀ (k a : Nat) (e : Int), pathGo l k a = .error e → e ≠ 0
  | 0, _, e, h => by cases h; decide
  | k + 1, a, e, h => by
    unfold pathGo at h
    split at h
    · split at h
      · cases h; decide
      · split at h
        · cases h; decide
        · cases hp : pathGo l k (l.getD a part0).b.toNat with
          | error x => rw [hp] at h; cases h; exact pathGo_err k _ _ hp
          | ok q => rw [hp] at h; cases h
    · split at h
      · cases h; decide
      · cases h
theorem pathV_err {l : List PartL} {a : Int} {e : Int} (h : pathV l a = .error e) : e ≠ 0 := by
  unfold pathV at h
  split at h
  · cases h; decide
  · exact pathGo_err _ _ _ h
theorem pathGo_lt {l : List PartL} : ∀ (k a : Nat) (p : List Nat), a < l.length → pathGo l k a = .ok p → ∀ x, x ∈ p → x < l.length
  | 0, _, _, _, h => by cases h
  | k + 1, a, p, ha, h => by
    unfold pathGo at h
    split at h
    · split at h
      · cases h
      · rename_i hb
        split at h
        · cases h
        · cases hp : pathGo l k (l.getD a part0).b.toNat with
          | error x => rw [hp] at h; cases h
          | ok q =>
            rw [hp] at h
            cases h
            intro x hx
            rcases List.mem_cons.1 hx with rfl | hx
            · exact ha
            · exact pathGo_lt k _ q (by omega) hp x hx
    · split at h
      · cases h
      · cases h
        intro x hx
        rw [List.mem_singleton] at hx
        omega
theorem pathV_lt {l : List PartL} {a : Int} {p : List Nat} (h : pathV l a = .ok p) : ∀ x, x ∈ p → x < l.length := by
  unfold pathV at h
  split at h
  · cases h
  · exact pathGo_lt _ _ _ (by omega) h
theorem foldT_drop {l : List PartL} {e : Int} : ∀ (p : List Nat) (i : Nat), foldT l (p.drop i) = .error e → foldT l p = .error e
  | [], i, h => by rw [List.drop_nil] at h; exact h
  | a :: p, 0, h => h
  | a :: p, i + 1, h => by
    have := foldT_drop p i h
    unfold foldT
    rw [this]; rfl
theorem gri_nat {w0 w : World} {L D : Heap} {E : TypeId} {v : Value} {l : List Nat} (h : GrI D E 1 v l.length (l.map natC).flatten) (hD : ∀ p, p ∈ D → p ∈ L) (hw : Hp w0 L w) : l.length = 0 ∨ ∃ b c rest, v = vsl b 0 l.length c ∧ b ∈ keys D ∧ readB w0 L b = some (rowO natC E rest l) := by
  obtain ⟨X, hX, h | ⟨h0, -⟩⟩ := h
  · rcases h.inv with ⟨-, h0, -⟩ | ⟨b, c, rest, rfl, hl, h1, h2, h3, h4⟩
    · exact .inl h0
    · exact .inr ⟨b, c, rest, rfl, List.mem_map_of_mem (f := Prod.fst) (hX _ (look_mem hl)), read_look (look_of_mem hw.nodup (hD _ (hX _ (look_mem hl))))⟩
  · exact .inl h0
theorem load_nat {E : TypeId} {rest : List Value} {l : List Nat} (n i : Nat) (hi : i < l.length) : loadV (some (false, n)) (some (rowO natC E rest l)) i = some (vi (l.getD i 0)) := by
  unfold rowO loadV
  have e : (l.map natC).flatten = l.map fun n => vi (n : Nat) := by
    clear hi
    induction l with
    | nil => rfl
    | cons a l ih => rw [List.map_cons, List.flatten_cons, List.map_cons, ih]; rfl
  simp only [e]
  rw [List.getElem?_toArray, List.getElem?_append_left (by simpa using hi), List.getElem?_map, List.getElem?_eq_getElem hi, List.getD_eq_getElem?_getD, List.getElem?_eq_getElem hi]
  rfl
def BndL (l : List PartL) : Prop := ∀ g, g < l.length → (l.getD g part0).x.length < 9223372036854775808
set_option linter.defProp false
def uKH_1 := And.intro (And.intro (And.intro (@rdIn_v8) (@rdIn_vi)) (And.intro (@load_part0) (@load_part1))) (And.intro (And.intro (@load_part2) (@cells_part)) (And.intro (@Sx.tup2_0) (@Sx.tup2_1)))
theorem text_spec (p : PartL) (base : List UInt8) (w : World) (hx : p.x.length < 9223372036854775808) :
    Rets Tryz.prog 154 #[.agg (partC p).toArray, vs base] w (fun v D => v = .tuple #[vs (textV p base).1, vi (textV p base).2] ∧ D = []) := by
  refine Rets.enterV Tryz.func154 rfl (rs := [.tmp 4, .tmp 5]) Tryz.results154 Tryz.ntmps154 ?_
  refine kf ?_
  first | with_reducible refine ks [] @uKH_1 ?_ | refine kp @uKH_1 ?_
  refine Ow.box rfl rfl fun b2 hb2 hw2 => ?_
  simp only [ev_tmp, getF_0, getF_s, cells_agg, List.nil_append, List.cons_append]
  refine Ow.go rfl ?_
  simp (disch := (first | assumption | omega | (simp only [lenS, lenT, UInt64.reduceToNat]; try omega))) only [↓Sx.S0, Sx.S1, Tryz.fx, uKH_1, Nat.reduceAdd, Nat.reducePow, Int.reducePow, Nat.reduceBEq, ↓reduceIte, UInt8.reduceToNat, UInt16.reduceToNat, UInt32.reduceToNat, UInt64.reduceToNat, Int.reduceToNat]
  cases hd : p.d
  · by_cases hl : 4099 < p.x.length
    · have d1 : decide ((4099 : Int) < (p.x.length : Int)) = true := decide_eq_true (by omega)
      first | with_reducible refine ks [] (And.intro @uKH_1 ( And.intro @hd (@d1))) ?_ | refine kp (And.intro @uKH_1 ( And.intro @hd (@d1))) ?_
      refine ⟨_, (ke @uKH_1), ⟨hw2, trivial⟩, ?_⟩
      unfold textV; rw [if_neg (by simp [hd]), if_pos hl]; rfl
    · have d1 : decide ((4099 : Int) < (p.x.length : Int)) = false := decide_eq_false (by omega)
      first | with_reducible refine ks [] (And.intro @uKH_1 ( And.intro @hd (@d1))) ?_ | refine kp (And.intro @uKH_1 ( And.intro @hd (@d1))) ?_
      refine ⟨_, (ke @uKH_1), ⟨hw2, trivial⟩, ?_⟩
      unfold textV; rw [if_neg (by simp [hd]), if_neg hl]; rfl
  · first | with_reducible refine ks [] (And.intro @uKH_1 @hd) ?_ | refine kp (And.intro @uKH_1 @hd) ?_
    refine Ow.callFV rfl Tryz.call177 (fun w' hw' => Apply_spec base p.x w' hx) ?_
    refine ko @uKH_1 ?_
    first | with_reducible refine ks [] @uKH_1 ?_ | refine kp @uKH_1 ?_
    refine ⟨_, (ke @uKH_1), ⟨hw2, trivial⟩, ?_⟩
    unfold textV; rw [if_pos hd]; rfl
def partO (r : Except Int (List UInt8)) : Value := match r with
  | .ok s => .tuple #[vs s, vi 0]
  | .error e => .tuple #[vs [], vi e]
theorem TextC_spec (v0 : Value) (l : List PartL) (a0 : Int) (w : World) (hv : PartSl w v0 l) (hb : BndL l) (hl : l.length < 1000000) :
    Rets Tryz.prog 122 #[v0, vi a0] w (fun v D => v = partO (partV l a0) ∧ D = []) := by
  obtain ⟨bb, off, arr, E, fz, hr⟩ := hv.row
  refine Rets.enterV Tryz.func122 rfl (rs := [.tmp 4, .tmp 5]) Tryz.results122 Tryz.ntmps122 ?_
  refine kf ?_
  first | with_reducible refine ks [] @uKH_1 ?_ | refine kp @uKH_1 ?_
  refine Ow.callC rfl rfl Tryz.call153 (fun w' hw' => path_spec v0 l a0 w' (hv.oldN hw' trivial) hl) (fun B1 v1 D1 hA1 hB1 hN1 hS1 => ?_)
  have hN1' := hN1.mono hB1
  unfold PathS at hS1
  unfold partV
  cases hp : pathV l a0 with
  | error e =>
    rw [hp] at hS1
    have hS1' : v1 = .tuple #[.slice none 0 0, vi e] := hS1
    subst hS1'
    have e0 : (e != 0) = true := by rw [bne_iff_ne]; exact pathV_err hp
    refine ko @uKH_1 ?_
    first | with_reducible refine ks [] (And.intro @uKH_1 @e0) ?_ | refine kp (And.intro @uKH_1 @e0) ?_
    refine ⟨_, (ke @uKH_1), hN1', ?_⟩
    rfl
  | ok p =>
    rw [hp] at hS1
    obtain ⟨x, rfl, hp5, hg⟩ := hS1
    have hlt := pathV_lt hp
    have e0 : ((0 : Int) != 0) = false := rfl
    have hlen : ∀ m, lenV (.sl m) x = some (vi p.length) := fun m => by
      obtain ⟨X, -, h⟩ := hg; exact h.len m
    refine ko (And.intro @uKH_1 ( And.intro @e0 (@hlen))) ?_
    first | with_reducible refine ks [] @uKH_1 ?_ | refine kp @uKH_1 ?_
    refine Cw.world fun wz hwz => ?_
    have hcase := gri_nat hg (fun q hq => by simpa using hq) hwz
    refine Cw.loopG (G := (Nat × List UInt8)) [22, 23, 27, 28, 29, 30, 31, 32, 33, 34, 35, 26, 36, 37, 8, 7, 38, 39, 40, 4, 5, 24, 25, 9] (fun q => [(7, vi 0), (8, vs q.2), (9, vi ((q.1 : Int) - 1))]) (fun q => D1) (fun q => q.1 ≤ p.length ∧ foldT l (p.drop q.1) = .ok q.2) (fun q => q.1) ⟨p.length, []⟩ rfl rfl ?_ ?_
    · exact ⟨Nat.le_refl _, by rw [List.drop_length]; rfl⟩
    intro q jq hq
    refine kv ?_
    obtain ⟨n, s⟩ := q
    simp only at hq ⊢
    obtain ⟨hq1, hq2⟩ := hq
    cases n with
    | zero =>
      have d1 : decide ((0 : Int) ≤ ((0 : Nat) : Int) - 1) = false := rfl
      first | with_reducible refine ks [] (And.intro @uKH_1 @d1) ?_ | refine kp (And.intro @uKH_1 @d1) ?_
      refine ⟨_, (ke @uKH_1), hN1', ?_⟩
      rw [List.drop_zero] at hq2; show _ = partO ((Except.ok p).bind (foldT l)); rw [show (Except.ok p).bind (foldT l) = foldT l p from rfl, hq2]; rfl
    | succ n =>
      have en : ((n + 1 : Nat) : Int) - 1 = (n : Int) := by omega
      rw [en]
      have d1 : decide ((0 : Int) ≤ (n : Int)) = true := decide_eq_true (by omega)
      rcases hcase with h0 | ⟨bp, cp, rp, rfl, hkp, rdp⟩
      · omega
      have hnl : n < p.length := by omega
      have lp := load_nat (E := 3) (rest := rp) 1 n hnl
      have hmem : p.getD n 0 < l.length := hlt _ (by rw [List.getD_eq_getElem?_getD, List.getElem?_eq_getElem hnl]; exact List.getElem_mem hnl)
      have hdr : p.drop n = p.getD n 0 :: p.drop (n + 1) := by
        rw [List.drop_eq_getElem_cons hnl, List.getD_eq_getElem?_getD, List.getElem?_eq_getElem hnl]; rfl
      have hfo : foldT l (p.drop n) = if (textV (l.getD (p.getD n 0) part0) s).2 = 0 then .ok (textV (l.getD (p.getD n 0) part0) s).1 else .error (textV (l.getD (p.getD n 0) part0) s).2 := by
        rw [hdr, foldT, hq2]; rfl
      generalize p.getD n 0 = a at *
      have hb0 : 0 < l.length := by omega
      have hbl := hr.lt hb0
      have rd : readB w D1 bb = some (.cells arr E fz) := by rw [read_none (hN1'.not hbl)]; exact hr.has hb0
      have i2 := hr.idx true a hmem
      have ld := hr.load partC_len (by omega) hmem
      have hpx := hb a hmem
      generalize l.getD a part0 = pt at *
      first | with_reducible refine ks [] (And.intro @uKH_1 ( And.intro @d1 ( And.intro @lp ( And.intro @rdp ( And.intro @rd ( And.intro @i2 (@ld))))))) ?_ | refine kp (And.intro @uKH_1 ( And.intro @d1 ( And.intro @lp ( And.intro @rdp ( And.intro @rd ( And.intro @i2 (@ld))))))) ?_
      refine Ow.callFV rfl Tryz.call154 (fun w' hw' => text_spec pt s w' hpx) ?_
      by_cases he : (textV pt s).2 = 0
      · have e1 : ((textV pt s).2 != 0) = false := by rw [he]; rfl
        rw [if_pos he] at hfo
        refine ko @uKH_1 ?_
        first | with_reducible refine ks [] (And.intro @uKH_1 @e1) ?_ | refine kp (And.intro @uKH_1 @e1) ?_
        rw [he]
        exact Again.mk (n, (textV pt s).1) (by show n < n + 1; omega) ⟨by show n ≤ p.length; omega, hfo⟩ rfl rfl
      · have e1 : ((textV pt s).2 != 0) = true := by rw [bne_iff_ne]; exact he
        rw [if_neg he] at hfo
        refine ko @uKH_1 ?_
        first | with_reducible refine ks [] (And.intro @uKH_1 @e1) ?_ | refine kp (And.intro @uKH_1 @e1) ?_
        refine ⟨_, (ke @uKH_1), hN1', ?_⟩
        show _ = partO (foldT l p); rw [foldT_drop p n hfo]; rfl
end Go.Proofs
end
section
open Go Go.Proofs Go.Sx Go.StP Go.Flo
namespace Go.Proofs
set_option maxRecDepth 10000
set_option maxHeartbeats 400000
set_option linter.unusedSimpArgs false
/-! ### The document's delta, applied; the document's Path -/
set_option linter.defProp false
def uLF_1 := And.intro (And.intro (And.intro (@rdIn_v8) (@rdIn_vi)) (And.intro (@load_pc0) (And.intro (@load_pc1) (@load_pc)))) (And.intro (And.intro (@cells_pc) (And.intro (@Sx.tup2_0) (@Sx.tup2_1))) (And.intro (@Sx.tup3_0) (And.intro (@Sx.tup3_1) (@Sx.tup3_2))))
theorem ApplyR_spec (base d : List UInt8) (w : World) (hd : d.length < 100000000) :
    Rets Tryz.prog 164 #[vs base, vs d] w (fun v D => v = .tuple #[vs (applyV base d).1, vi (applyV base d).2] ∧ D = []) := by
  refine Rets.enterV Tryz.func164 rfl (rs := [.tmp 4, .tmp 5]) Tryz.results164 Tryz.ntmps164 ?_
  refine kf ?_
  first | with_reducible refine ks [] @uLF_1 ?_ | refine kp @uLF_1 ?_
  refine Ow.callC rfl rfl Tryz.call184 (fun w' hw' => ReadR8_spec d w' hd) (fun B1 v1 D1 hA1 hB1 hN1 hS1 => ?_)
  have hN1' := hN1.mono hB1
  unfold ReadRS at hS1
  cases hr : deltaR d with
  | none =>
    rw [hr] at hS1
    have hS1' : v1 = .tuple #[vi 0, .slice none 0 0, .bool false] := hS1
    subst hS1'
    have hap : applyV base d = ([], 2) := by unfold applyV; rw [hr]
    refine ko @uLF_1 ?_
    first | with_reducible refine ks [] @uLF_1 ?_ | refine kp @uLF_1 ?_
    refine ⟨_, (ke @uLF_1), hN1', ?_⟩
    rw [hap]; rfl
  | some p =>
    rw [hr] at hS1
    obtain ⟨x, rfl, hB, hl4, hp4, hg⟩ := hS1
    by_cases hb : p.1 = base.length
    · have e1 : (((p.1 : Nat) : Int) != ((base.length : Nat) : Int)) = false := by rw [hb]; exact bne_self_eq_false _
      obtain ⟨m, hm⟩ := deltaR_chk hr
      rw [hb] at hm
      have hap : applyV base d = (txtP base p.2, 0) := by unfold applyV; rw [hr]; simp only; rw [if_neg (by simp [hb])]
      refine ko @uLF_1 ?_
      first | with_reducible refine ks [] (And.intro @uLF_1 @e1) ?_ | refine kp (And.intro @uLF_1 @e1) ?_
      refine Ow.callFV rfl Tryz.call185 (fun w' hw' => TextR8_spec base x p.2 w' (GrI.slV (hg.mono fun q hq => by simp [hq]) hw' rfl rfl pcC_len) hB (by omega)) ?_
      rw [hm, if_pos rfl]
      refine ko @uLF_1 ?_
      first | with_reducible refine ks [] @uLF_1 ?_ | refine kp @uLF_1 ?_
      refine ⟨_, (ke @uLF_1), hN1', ?_⟩
      rw [hap]; rfl
    · have e1 : (((p.1 : Nat) : Int) != ((base.length : Nat) : Int)) = true := by rw [bne_iff_ne]; omega
      have hap : applyV base d = ([], 19) := by unfold applyV; rw [hr]; simp only; rw [if_pos hb]
      refine ko @uLF_1 ?_
      first | with_reducible refine ks [] (And.intro @uLF_1 @e1) ?_ | refine kp (And.intro @uLF_1 @e1) ?_
      refine ⟨_, (ke @uLF_1), hN1', ?_⟩
      rw [hap]; rfl
structure PrG where
  at_ : Nat
  out : List Nat
  v : Value
  D : Heap
  DG : Heap
set_option linter.defProp false
def uLF_2 := And.intro (And.intro (And.intro (@rdIn_v8) (@rdIn_vi)) (And.intro (@load_part0) (@load_part1))) (And.intro (And.intro (@load_part2) (@cells_part)) (And.intro (@Sx.tup2_0) (@Sx.tup2_1)))
theorem PathR_spec (v0 : Value) (l : List PartL) (a0 : Int) (w : World) (hv : PartSl w v0 l) :
    Rets Tryz.prog 163 #[v0, vi a0] w (XS w [] (PathS l a0)) := by
  obtain ⟨bb, off, arr, E, fz, hr⟩ := hv.row
  have ln := hv.len
  refine Rets.enterX Tryz.func163 rfl (rs := [.tmp 4, .tmp 5]) Tryz.results163 Tryz.ntmps163 (fun p hp => by cases hp) (by simp [keys]) ?_
  refine kf ?_
  by_cases hc : 200 < l.length ∨ a0 < 0 ∨ (l.length : Int) ≤ a0
  · have hpv : pathV l a0 = .error 1 := by unfold pathV; rw [if_pos hc]
    unfold PathS
    rw [hpv]
    by_cases h1 : 200 < l.length
    · have d1 : decide ((200 : Int) < (l.length : Int)) = true := decide_eq_true (by omega)
      first | with_reducible refine ks [] (And.intro @uLF_2 ( And.intro @ln (@d1))) ?_ | refine kp (And.intro @uLF_2 ( And.intro @ln (@d1))) ?_
      refine ⟨_, (ke @uLF_2), ?_⟩
      exact ⟨Ext.refl _ _, rfl⟩
    · have d1 : decide ((200 : Int) < (l.length : Int)) = false := decide_eq_false (by omega)
      by_cases h2 : a0 < 0
      · have d2 : decide (a0 < 0) = true := decide_eq_true h2
        first | with_reducible refine ks [] (And.intro @uLF_2 ( And.intro @ln ( And.intro @d1 (@d2)))) ?_ | refine kp (And.intro @uLF_2 ( And.intro @ln ( And.intro @d1 (@d2)))) ?_
        refine ⟨_, (ke @uLF_2), ?_⟩
        exact ⟨Ext.refl _ _, rfl⟩
      · have d2 : decide (a0 < 0) = false := decide_eq_false h2
        have d3 : decide ((l.length : Int) ≤ a0) = true := decide_eq_true (by omega)
        first | with_reducible refine ks [] (And.intro @uLF_2 ( And.intro @ln ( And.intro @d1 ( And.intro @d2 (@d3))))) ?_ | refine kp (And.intro @uLF_2 ( And.intro @ln ( And.intro @d1 ( And.intro @d2 (@d3))))) ?_
        refine ⟨_, (ke @uLF_2), ?_⟩
        exact ⟨Ext.refl _ _, rfl⟩
  · have d1 : decide ((200 : Int) < (l.length : Int)) = false := decide_eq_false (by omega)
    have d2 : decide (a0 < 0) = false := decide_eq_false (by omega)
    have d3 : decide ((l.length : Int) ≤ a0) = false := decide_eq_false (by omega)
    obtain ⟨A, rfl⟩ : ∃ A : Nat, a0 = (A : Int) := ⟨a0.toNat, by omega⟩
    have hpv : pathV l (A : Int) = (pathGo l 5 A).map ([] ++ ·) := by
      unfold pathV
      rw [if_neg hc, Int.toNat_natCast]
      cases pathGo l 5 A <;> rfl
    first | with_reducible refine ks [] (And.intro @uLF_2 ( And.intro @ln ( And.intro @d1 ( And.intro @d2 (@d3))))) ?_ | refine kp (And.intro @uLF_2 ( And.intro @ln ( And.intro @d1 ( And.intro @d2 (@d3))))) ?_
    refine Cw.loopG (G := PrG) [21, 22, 25, 26, 4, 5, 27, 28, 29, 30, 6, 31, 32, 33, 34, 35, 36, 37, 38, 39, 40, 41, 42, 43, 44, 45, 46, 47, 48, 49, 50, 51, 52, 53, 54, 55, 56, 57, 58, 59, 60, 61, 62, 63, 1, 23, 24, 7] (fun g => [(1, vi g.at_), (6, g.v), (7, vi g.out.length)]) (fun g => g.D ++ g.DG) (fun g => New w.heap.size g.D ∧ New w.heap.size g.DG ∧ Gr g.D 3 1 g.v g.out.length (g.out.map natC).flatten ∧ g.at_ < l.length ∧ g.out.length ≤ 5 ∧ pathV l (A : Int) = (pathGo l (5 - g.out.length) g.at_).map (g.out ++ ·)) (fun g => 6 - g.out.length) ⟨A, [], .slice none 0 0, [], []⟩ rfl rfl ?_ ?_
    · exact ⟨trivial, trivial, Gr.nl, by show A < l.length; omega, by simp, hpv⟩
    intro g j hg
    refine kv ?_
    obtain ⟨a, out, v, D, DG⟩ := g
    obtain ⟨hN, hNG, hG, hal, hol, hrel⟩ := hg
    simp only at hN hNG hG hal hol hrel ⊢
    have d4 : decide ((out.length : Int) < 6) = true := decide_eq_true (by omega)
    by_cases h5 : out.length = 5
    · have d5 : ((out.length : Int) == 5) = true := by rw [h5]; rfl
      rw [h5] at hrel
      have hpe : pathV l (A : Int) = .error 11 := hrel
      first | with_reducible refine ks [] (And.intro @uLF_2 ( And.intro @d4 (@d5))) ?_ | refine kp (And.intro @uLF_2 ( And.intro @d4 (@d5))) ?_
      refine ⟨_, (ke @uLF_2), ?_⟩
      refine ⟨Ext.of_new (hN.app hNG), ?_⟩
      unfold PathS
      rw [hpe]
      rfl
    · have d5 : ((out.length : Int) == 5) = false := beq_eq_false_iff_ne.2 (by omega)
      have hk5 : pathGo l (5 - out.length) a = pathGo l (4 - out.length + 1) a := by congr 1; omega
      rw [hk5, pathGo] at hrel
      first | with_reducible refine ks [] (And.intro @uLF_2 ( And.intro @d4 (@d5))) ?_ | refine kp (And.intro @uLF_2 ( And.intro @d4 (@d5))) ?_
      refine Ow.buildSlice (e := 3) #[vi a] rfl rfl (by kernel_rfl) fun b9 hb9 hw9 => ?_
      refine ko @uLF_2 ?_
      refine Ow.permL (M := D ++ (DG ++ [(b9, .cells #[vi a] 3 (0, 0))])) (by classical exact List.perm_iff_count.2 fun a => by simp only [List.count_append, List.count_cons, List.count_nil] <;> omega) ?_
      refine Ow.appendXG (e := 3) (k := 1) (new := natC a) (X := D) v rfl rfl rfl rfl Tryz.underlying28 (id (by kernel_rfl) : aggT Tryz.prog 3 = some (false, 1)) (by kernel_rfl) (id (by kernel_rfl) : zeroV Tryz.prog 3 = some (vi 0)) rfl Tryz.underlying28 (by intro k h; cases h) hG (fun w' hw' => AppX.one1 (hw'.has b9 (.cells #[vi a] 3 (0, 0)) (by simp)) (natC_len a) rfl) (by omega) (fun B3 v3 D3 hA3 hB3 hG3 hk13 hk23 hlk3 => ?_)
      have hN3 : New w.heap.size D3 := New.of_le fun c hc => by
        rcases hk23 c hc with h | h
        · exact hN.le c h
        · omega
      have hG4 : Gr D3 3 1 v3 (out ++ [a]).length ((out ++ [a]).map natC).flatten := by simpa using hG3
      have hol2 : (out ++ [a]).length = out.length + 1 := by simp
      have hNG9 : New w.heap.size (DG ++ [(b9, .cells #[vi a] 3 (0, 0))]) := hNG.app ⟨hw9, trivial⟩
      generalize DG ++ [(b9, Obj.cells #[vi a] 3 (0, 0))] = DG' at *
      have hNr : New w.heap.size (D3 ++ DG') := hN3.app hNG9
      have hb0 : 0 < l.length := by omega
      have hbl := hr.lt hb0
      have rd : readB w (D3 ++ DG') bb = some (.cells arr E fz) := by rw [read_none (hNr.not hbl)]; exact hr.has hb0
      have i2 := hr.idx true a hal
      have ld0 : loadV (some (false, 1)) (some (.cells arr E fz)) (off + a * 3) = some (.bool (l.getD a part0).d) := hr.cell (j := 0) (n := 1) hal (by omega)
      have ld1 : loadV (some (false, 1)) (some (.cells arr E fz)) (off + a * 3 + 1) = some (vi (l.getD a part0).b) := hr.cell (j := 1) (n := 1) hal (by omega)
      generalize l.getD a part0 = p at *
      cases hd : p.d with
      | false =>
        rw [hd, if_neg (by simp)] at hrel
        rw [hd] at ld0
        by_cases hb : p.b = 0
        · have e1 : (p.b != 0) = false := by rw [hb]; rfl
          rw [if_neg (by simp [hb])] at hrel
          refine ko (And.intro @uLF_2 ( And.intro @i2 ( And.intro @rd ( And.intro @ld0 ( And.intro @ld1 (@e1)))))) ?_
          first | with_reducible refine ks [] (And.intro @uLF_2 ( And.intro @i2 ( And.intro @rd ( And.intro @ld0 ( And.intro @ld1 (@e1)))))) ?_ | refine kp (And.intro @uLF_2 ( And.intro @i2 ( And.intro @rd ( And.intro @ld0 ( And.intro @ld1 (@e1)))))) ?_
          refine ⟨_, (ke @uLF_2), ?_⟩
          refine ⟨Ext.of_new hNr, ?_⟩
          unfold PathS
          rw [hrel]
          exact ⟨v3, rfl, by show (out ++ [a]).length ≤ 5; omega, Gr.i hG4 fun c hc => by simp [hc]⟩
        · have e1 : (p.b != 0) = true := by rw [bne_iff_ne]; exact hb
          rw [if_pos hb] at hrel
          have hpe : pathV l (A : Int) = .error 2 := hrel
          refine ko (And.intro @uLF_2 ( And.intro @i2 ( And.intro @rd ( And.intro @ld0 ( And.intro @ld1 (@e1)))))) ?_
          first | with_reducible refine ks [] (And.intro @uLF_2 ( And.intro @i2 ( And.intro @rd ( And.intro @ld0 ( And.intro @ld1 (@e1)))))) ?_ | refine kp (And.intro @uLF_2 ( And.intro @i2 ( And.intro @rd ( And.intro @ld0 ( And.intro @ld1 (@e1)))))) ?_
          refine ⟨_, (ke @uLF_2), ?_⟩
          refine ⟨Ext.of_new hNr, ?_⟩
          unfold PathS
          rw [hpe]; rfl
      | true =>
        rw [hd, if_pos rfl] at hrel
        rw [hd] at ld0
        by_cases hb : p.b < 0
        · have e1 : decide (p.b < 0) = true := decide_eq_true hb
          rw [if_pos (.inl hb)] at hrel
          have hpe : pathV l (A : Int) = .error 2 := hrel
          refine ko (And.intro @uLF_2 ( And.intro @i2 ( And.intro @rd ( And.intro @ld0 ( And.intro @ld1 (@e1)))))) ?_
          first | with_reducible refine ks [] (And.intro @uLF_2 ( And.intro @i2 ( And.intro @rd ( And.intro @ld0 ( And.intro @ld1 (@e1)))))) ?_ | refine kp (And.intro @uLF_2 ( And.intro @i2 ( And.intro @rd ( And.intro @ld0 ( And.intro @ld1 (@e1)))))) ?_
          refine ⟨_, (ke @uLF_2), ?_⟩
          refine ⟨Ext.of_new hNr, ?_⟩
          unfold PathS
          rw [hpe]; rfl
        · have e1 : decide (p.b < 0) = false := decide_eq_false hb
          by_cases hb2 : (a : Int) ≤ p.b
          · have e2 : decide ((a : Int) ≤ p.b) = true := decide_eq_true hb2
            rw [if_pos (.inr hb2)] at hrel
            have hpe : pathV l (A : Int) = .error 2 := hrel
            refine ko (And.intro @uLF_2 ( And.intro @i2 ( And.intro @rd ( And.intro @ld0 ( And.intro @ld1 ( And.intro @e1 (@e2))))))) ?_
            first | with_reducible refine ks [] (And.intro @uLF_2 ( And.intro @i2 ( And.intro @rd ( And.intro @ld0 ( And.intro @ld1 ( And.intro @e1 (@e2))))))) ?_ | refine kp (And.intro @uLF_2 ( And.intro @i2 ( And.intro @rd ( And.intro @ld0 ( And.intro @ld1 ( And.intro @e1 (@e2))))))) ?_
            refine ⟨_, (ke @uLF_2), ?_⟩
            refine ⟨Ext.of_new hNr, ?_⟩
            unfold PathS
            rw [hpe]; rfl
          · have e2 : decide ((a : Int) ≤ p.b) = false := decide_eq_false hb2
            rw [if_neg (by omega)] at hrel
            obtain ⟨Bn, hBn⟩ : ∃ Bn : Nat, p.b = (Bn : Int) := ⟨p.b.toNat, by omega⟩
            rw [hBn] at ld1 e1 e2 hrel
            rw [Int.toNat_natCast] at hrel
            refine ko (And.intro @uLF_2 ( And.intro @i2 ( And.intro @rd ( And.intro @ld0 ( And.intro @ld1 ( And.intro @e1 (@e2))))))) ?_
            first | with_reducible refine ks [] (And.intro @uLF_2 ( And.intro @i2 ( And.intro @rd ( And.intro @ld0 ( And.intro @ld1 ( And.intro @e1 (@e2))))))) ?_ | refine kp (And.intro @uLF_2 ( And.intro @i2 ( And.intro @rd ( And.intro @ld0 ( And.intro @ld1 ( And.intro @e1 (@e2))))))) ?_
            refine Again.mk ⟨Bn, out ++ [a], v3, D3, DG'⟩ (by show 6 - (out ++ [a]).length < 6 - out.length; omega) ⟨hN3, hNG9, hG4, by show Bn < l.length; omega, by show (out ++ [a]).length ≤ 5; omega, ?_⟩ rfl (by simp only [hol2]; rfl)
            show pathV l (A : Int) = (pathGo l (5 - (out ++ [a]).length) Bn).map ((out ++ [a]) ++ ·)
            rw [hrel, show 5 - (out ++ [a]).length = 4 - out.length by omega]
            split
            · rename_i h4
              rw [h4]; rfl
            · cases pathGo l (4 - out.length) Bn with
              | error x => rfl
              | ok x => show Except.ok _ = Except.ok _; simp
end Go.Proofs
end
namespace Go.Sx
open Go
section
variable {α β : Type} [BEq α] [LawfulBEq α] (encK : α → Value) (encV : β → Value)
/-- The first place of a key. -/
def fndG (k : α) : List (α × β) → Nat → Option (Nat × β)
  | [], _ => none
  | p :: r, i => if k == p.1 then some (i, p.2) else fndG k r (i + 1)
/-- A key is given a value. -/
def updG (k : α) (v : β) : List (α × β) → List (α × β)
  | [] => [(k, v)]
  | p :: r => if k == p.1 then (p.1, v) :: r else p :: updG k v r
/-- What a key has, or else. -/
def getG (k : α) (z : β) (m : List (α × β)) : β := match m.find? fun p => k == p.1 with | some p => p.2 | none => z
def pairG (p : α × β) : Value × Value := (encK p.1, encV p.2)
/-- What a map holds. -/
def MapG (o : Obj) (m : List (α × β)) : Prop := ∃ es clock, o = .map es clock ∧ es.toList.map (fun e => (e.key, e.val)) = m.map (pairG encK encV) ∧ (es.toList.map (·.born) ++ [clock]).Pairwise (· < ·)
/-- What is asked of a kind of keys. -/
structure KeyOk (P : Program) (kt : TypeId) (encK : α → Value) : Prop where
  find : ∀ {β : Type} (encV : β → Value) (w : World) (k : α) (es : List MapEntry) (m : List (α × β)), es.map (fun e => (e.key, e.val)) = m.map (pairG encK encV) → (Instr.findKey kt (encK k) es).run P w = .ok ((fndG k m 0).map fun p => (p.1, encV p.2)) w
  check : ∀ (w : World) (e : Bool) (k : α), (Instr.checkKey e 10000 kt (encK k)).run P w = .ok () w
  bits : ∀ k, Instr.sameBits 10000 (encK k) (encK k) = true
variable {encK encV}
omit [LawfulBEq α] in
theorem findNow_G {kd : TypeDesc} (hs : ∀ a b, Instr.sameNow kd (encK a) (encK b) = some (a == b)) (k : α) : ∀ (es : List MapEntry) (m : List (α × β)) (i : Nat), es.map (fun e => (e.key, e.val)) = m.map (pairG encK encV) →
    Instr.findNow kd (encK k) es i = some ((fndG k m i).map fun p => (p.1, encV p.2))
  | [], [], i, _ => rfl
  | [], _ :: _, _, h => by cases h
  | _ :: _, [], _, h => by cases h
  | e :: es, p :: m, i, h => by
    simp only [List.map_cons, List.cons.injEq, pairG, Prod.mk.injEq] at h
    obtain ⟨⟨h1, h2⟩, h3⟩ := h
    unfold Instr.findNow
    have hs : Instr.sameNow kd (encK k) e.key = some (k == p.1) := by rw [h1, hs]
    rw [hs]
    unfold fndG
    cases hk : (k == p.1)
    · simp only [Bool.false_eq_true, ↓reduceIte]
      exact findNow_G ‹_› k es m (i + 1) h3
    · simp [h2]
theorem fndG_spec (k : α) : ∀ (m : List (α × β)) (i j : Nat) (v : β), fndG k m i = some (j, v) → i ≤ j ∧ ∃ a, m[j - i]? = some (k, a) ∧ a = v
  | [], _, _, _, h => by cases h
  | p :: r, i, j, v, h => by
    unfold fndG at h
    split at h
    · rename_i hk
      cases h
      refine ⟨Nat.le_refl _, p.2, ?_, rfl⟩
      rw [Nat.sub_self, List.getElem?_cons_zero, eq_of_beq hk]
    · obtain ⟨h1, a, h2, h3⟩ := fndG_spec k r (i + 1) j v h
      refine ⟨by omega, a, ?_, h3⟩
      rw [show j - i = (j - (i + 1)) + 1 by omega, List.getElem?_cons_succ]; exact h2
theorem updG_some (k : α) (v : β) : ∀ (es : List MapEntry) (m : List (α × β)) (i j : Nat) (a : β), es.map (fun e => (e.key, e.val)) = m.map (pairG encK encV) → fndG k m i = some (j, a) →
    (es.modify (j - i) fun e => { e with key := encK k, val := encV v }).map (fun e => (e.key, e.val)) = (updG k v m).map (pairG encK encV)
  | [], [], _, _, _, _, h => by cases h
  | [], _ :: _, _, _, _, h, _ => by cases h
  | _ :: _, [], _, _, _, h, _ => by cases h
  | e :: es, p :: m, i, j, a, h, hf => by
    simp only [List.map_cons, List.cons.injEq, pairG, Prod.mk.injEq] at h
    obtain ⟨⟨h1, h2⟩, h3⟩ := h
    unfold fndG at hf
    unfold updG
    split at hf
    · rename_i hk
      cases hf
      rw [if_pos hk, Nat.sub_self]
      simp only [List.modify_zero_cons, List.map_cons, pairG, eq_of_beq hk]
      rw [h3]
    · rename_i hk
      have hle := (fndG_spec k m (i + 1) j a hf).1
      rw [if_neg hk, show j - i = (j - (i + 1)) + 1 by omega]
      simp only [List.modify_succ_cons, List.map_cons, pairG]
      rw [updG_some k v es m (i + 1) j a h3 hf, h1, h2]
omit [LawfulBEq α] in
theorem updG_none (k : α) (v : β) : ∀ (m : List (α × β)) (i : Nat), fndG k m i = none → updG k v m = m ++ [(k, v)]
  | [], _, _ => rfl
  | p :: r, i, h => by
    unfold fndG at h
    split at h
    · cases h
    · rename_i hk
      unfold updG
      rw [if_neg hk, updG_none k v r (i + 1) h]; rfl
omit [LawfulBEq α] in
theorem fndG_find (k : α) : ∀ (m : List (α × β)) (i : Nat), (fndG k m i).map Prod.snd = (m.find? fun p => k == p.1).map Prod.snd
  | [], _ => rfl
  | p :: r, i => by
    unfold fndG
    rw [List.find?_cons]
    cases h : (k == p.1)
    · simp only [Bool.false_eq_true, ↓reduceIte]; exact fndG_find k r (i + 1)
    · rfl
theorem fndG_key {k : α} {m : List (α × β)} {es : List MapEntry} {j : Nat} {a : β} (h : es.map (fun e => (e.key, e.val)) = m.map (pairG encK encV)) (hf : fndG k m 0 = some (j, a)) : ∃ e, es[j]? = some e ∧ e.key = encK k := by
  obtain ⟨-, a', h1, rfl⟩ := fndG_spec k m 0 j a hf
  rw [Nat.sub_zero] at h1
  have := congrArg (·[j]?) h
  simp only [List.getElem?_map, h1, Option.map_some] at this
  cases he : es[j]? with
  | none => rw [he] at this; cases this
  | some e =>
    rw [he] at this
    simp only [Option.map_some, Option.some.injEq, pairG, Prod.mk.injEq] at this
    exact ⟨e, rfl, this.1⟩
/-- Whole numbers as keys. -/
theorem KeyOk.int {P : Program} {kt : TypeId} {k0 : IntKind} (hu : P.underlying kt = some (.int k0)) : KeyOk P kt vi where
  find encV w k es m h := by
    simp only [Instr.findKey, Sem.run_bind, run_underlying hu w, Result.andThen_ok]
    rw [findNow_G (encK := vi) (fun a b => by simp [Instr.sameNow, vi]) k es m 0 h]
    rfl
  check w e k := by
    unfold Instr.checkKey
    simp only [Sem.run_bind, run_underlying hu w, Result.andThen_ok]
    rfl
  bits k := by simp [vi, Instr.sameBits]
variable {P : Program} {w0 : World} {f : Fr} {L : Heap} {N : Fr → Heap → Prop} {ops : Array Oper} {rest : List Oper} {md : Md}
  {d : Option Tmp} {ty : TypeId} {ps : String} {af : Array Edge} {g : Option (Nat × Bool)}
omit [BEq α] [LawfulBEq α] in
/-- A new map. -/
theorem Ow.makeMapG {t : TypeId} {md' : Md} (he : md.turn = some md') (hs : skipped ops f ⟨d, .makeMap t none, ty, ps, af, g⟩ = false)
    (hn : ∀ b o, Above L b → w0.heap.size ≤ b → MapG encK encV o [] → Ow P w0 ops md' rest (putF f d (vm b)) (L ++ [(b, o)]) N) :
    Ow P w0 ops md (⟨d, .makeMap t none, ty, ps, af, g⟩ :: rest) f L N := by
  refine Ow.step he rfl hs fun w hw => .inl ⟨vm w.heap.size, w.alloc (.map #[] 0), _, ?_, hw.alloc _, hn _ _ (above_of fun b hb => hw.lt hb) hw.size ⟨#[], 0, rfl, rfl, List.pairwise_singleton _ _⟩⟩
  simp only [execOp, Instr.makeMap, Sem.run_bind, Option.map_none]
  rfl
/-- A map's key is given a value. -/
theorem Ow.mapUpdateG {t kt vt : TypeId} {x y z : Operand} {b : Nat} {o : Obj} {m : List (α × β)} {k : α} {v : β} {md' : Md} (he : md.turn = some md') (hs : skipped ops f ⟨d, .mapUpdate t x y z, ty, ps, af, g⟩ = false) (hu : P.underlying t = some (.map kt vt)) (hk : KeyOk P kt encK)
    (hx : ev f x = vm b) (hy : ev f y = encK k) (hz : ev f z = encV v) (hl : look L b = some o) (hm : MapG encK encV o m)
    (hn : ∀ o', MapG encK encV o' (updG k v m) → Ow P w0 ops md' rest (putF f d undef) (setB L b o') N) :
    Ow P w0 ops md (⟨d, .mapUpdate t x y z, ty, ps, af, g⟩ :: rest) f L N := by
  obtain ⟨es, c, rfl, hes, hbo⟩ := hm
  refine Ow.step he rfl hs fun w hw => ?_
  have hb := hw.has _ _ (look_mem hl)
  have hfk := hk.find encV w k es.toList m hes
  cases hf : fndG k m 0 with
  | none =>
    rw [hf] at hfk
    refine .inr (.inl ⟨{ w with heap := w.heap.setIfInBounds b (.map (es.push { key := encK k, val := encV v, born := c }) (c + 1)) }, _, ?_, hw.set (key_of_look hl) rfl rfl rfl rfl, hn _ ⟨_, _, rfl, ?_, by rw [Array.toList_push]; exact born_push hbo rfl⟩⟩)
    · have : (Instr.mapUpdate t (vm b) (encK k) (encV v)).run P w = .ok () { w with heap := w.heap.setIfInBounds b (.map (es.push { key := encK k, val := encV v, born := c }) (c + 1)) } := by
        simp only [Instr.mapUpdate, vm, Sem.run_bind, run_underlying hu w, Result.andThen_ok, run_getMap hb, hk.check, hfk, Option.map_none, run_setMap hb]
      simp only [execOp, Sem.run_bind, hx, hy, hz]
      rw [this]; rfl
    · rw [updG_none k v m 0 hf, Array.toList_push, List.map_append, hes, List.map_append]; rfl
  | some p =>
    obtain ⟨j, a⟩ := p
    rw [hf] at hfk
    obtain ⟨e, hej, hek⟩ := fndG_key hes hf
    have hej' : es[j]? = some e := by simpa using hej
    have hkt : (Instr.keyThatStays (((es[j]?).map (·.key)).getD (encK k)) (encK k)).run P w = .ok (encK k) w := by
      rw [hej', Option.map_some, Option.getD_some, hek]
      unfold Instr.keyThatStays
      rw [if_pos (hk.bits k)]; rfl
    refine .inr (.inl ⟨{ w with heap := w.heap.setIfInBounds b (.map (es.modify j fun e => { e with key := encK k, val := encV v }) c) }, _, ?_, hw.set (key_of_look hl) rfl rfl rfl rfl, hn _ ⟨_, _, rfl, ?_, by rw [Array.toList_modify, born_modify (g := fun e => { e with key := encK k, val := encV v }) fun _ => rfl]; exact hbo⟩⟩)
    · have : (Instr.mapUpdate t (vm b) (encK k) (encV v)).run P w = .ok () { w with heap := w.heap.setIfInBounds b (.map (es.modify j fun e => { e with key := encK k, val := encV v }) c) } := by
        simp only [Instr.mapUpdate, vm, Sem.run_bind, run_underlying hu w, Result.andThen_ok, run_getMap hb, hk.check, hfk, Option.map_some, hkt, run_setMap hb]
      simp only [execOp, Sem.run_bind, hx, hy, hz]
      rw [this]; rfl
    · rw [Array.toList_modify]
      have := updG_some k v es.toList m 0 j a hes hf
      rw [Nat.sub_zero] at this
      exact this
omit [LawfulBEq α] in
/-- A key's value in a map. -/
theorem Ow.mapGetG {t kt vt : TypeId} {x y : Operand} {b : Nat} {o : Obj} {m : List (α × β)} {k : α} {z : β} {md' : Md} (he : md.turn = some md') (hs : skipped ops f ⟨d, .lookup t x y false, ty, ps, af, g⟩ = false) (hu : P.underlying t = some (.map kt vt)) (hk : KeyOk P kt encK)
    (hz : zeroV P vt = some (encV z)) (hx : ev f x = vm b) (hy : ev f y = encK k) (hl : readB w0 L b = some o) (hm : MapG encK encV o m)
    (hn : Ow P w0 ops md' rest (putF f d (encV (getG k z m))) L N) :
    Ow P w0 ops md (⟨d, .lookup t x y false, ty, ps, af, g⟩ :: rest) f L N := by
  obtain ⟨es, c, rfl, hes, -⟩ := hm
  refine Ow.step he rfl hs fun w hw => ?_
  have hb := hw.read hl
  have hfk := hk.find encV w k es.toList m hes
  refine .inl ⟨encV (getG k z m), w, L, ?_, hw, hn⟩
  have hff := fndG_find k m 0
  have : (Instr.lookup t (vm b) (encK k) false).run P w = .ok (encV (getG k z m)) w := by
    cases hf : fndG k m 0 with
    | none =>
      rw [hf] at hfk hff
      have hg : getG k z m = z := by
        unfold getG
        cases h : m.find? fun p => k == p.1 with
        | none => rfl
        | some q => rw [h] at hff; cases hff
      simp only [Instr.lookup, vm, Sem.run_bind, run_underlying hu w, Result.andThen_ok, run_getMap hb, Sem.run_pure, hk.check, hfk, Option.map_none, run_zeroV hz w, hg, Bool.false_eq_true, ↓reduceIte]
    | some p =>
      obtain ⟨j, a⟩ := p
      rw [hf] at hfk hff
      have hg : getG k z m = a := by
        unfold getG
        cases h : m.find? fun p => k == p.1 with
        | none => rw [h] at hff; cases hff
        | some q => rw [h] at hff; simp only [Option.map_some, Option.some.injEq] at hff; exact hff.symm
      simp only [Instr.lookup, vm, Sem.run_bind, run_underlying hu w, Result.andThen_ok, run_getMap hb, Sem.run_pure, hk.check, hfk, Option.map_some, hg, Bool.false_eq_true, ↓reduceIte]
  simp only [execOp, Sem.run_bind, hx, hy]
  rw [this]; rfl
end
section
variable {P : Program} {w0 : World} {f : Fr} {L : Heap} {N : Fr → Heap → Prop} {ops : Array Oper} {rest : List Oper} {md : Md} {d : Option Tmp} {ty : TypeId} {ps : String} {af : Array Edge} {g : Option (Nat × Bool)}
/-- A closure of one argument, to which a chunk is handed. -/
theorem Ow.callFnXC {x y : Operand} {b : Value} {cap ars : Array Value} (ha : #[b] ++ cap = ars) {ts : Array TypeId} {k : FuncId} {X Y : Heap} {S : Value → Heap → Prop} {md' : Md} (hL : L = X ++ Y) (he : md.turn = some md')
    (hs : skipped ops f ⟨d, .call ⟨.value x, #[y], ts⟩, ty, ps, af, g⟩ = false)
    (hx : ev f x = .func (.func k) #[] cap) (hy : ev f y = b)
    (hk : ∀ a w, (callFunc k a).run P w = .ok (.enter k a) w)
    (hc : ∀ w, Hp w0 L w → (∀ p, p ∈ X → w.heap[p.1]? = some p.2) → (keys X).Nodup → Rets P k ars w (XS w X S))
    (hn : ∀ v D, Came w0 L X D → S v D → Ow P w0 ops md' rest (putF f d v) (D ++ Y) N) :
    Ow P w0 ops md (⟨d, .call ⟨.value x, #[y], ts⟩, ty, ps, af, g⟩ :: rest) f L N := by
  subst hL
  have hnd : ∀ w, Hp w0 (X ++ Y) w → (keys X).Nodup ∧ ∀ c, c ∈ keys Y → c ∉ keys X := by
    intro w hw
    have := hw.nodup
    rw [keys_app, List.nodup_append] at this
    exact ⟨this.1, fun c hc hx => this.2.2 c hx c hc rfl⟩
  refine Ow.call (S := fun B v D => ((∀ c, c ∈ keys D → c ∈ keys X ∨ B ≤ c) ∧ (∀ c, c ∈ keys X → c ∈ keys D) ∧ S v D) ∧ ∃ w, Hp w0 (X ++ Y) w ∧ w.heap.size = B) he hs hx hk (fun w hw => ?_) ?_
  · show Rets P k (#[] ++ #[y].map (ev f) ++ cap) w _
    rw [show (#[] ++ #[y].map (ev f) ++ cap : Array Value) = ars by rw [← ha]; simp [hy]]
    refine Calls.mono (hc w hw (fun p hp => hw.has _ _ (List.mem_append_left _ hp)) (hnd w hw).1) ?_
    rintro e w' ⟨v, D, he, hp, hS⟩
    exact ⟨v, D, he, hp, ⟨hS.1.new, hS.1.all, hS.2⟩, w, hw, rfl⟩
  · rintro B v D hab hB ⟨⟨h1, h2, h3⟩, w1, hw1, hwB⟩
    refine ⟨D ++ Y, ?_, hn v D ⟨fun c hc => (h1 c hc).imp id fun h => ⟨above_of fun b hb => by have := hw1.lt hb; omega, by have := hw1.size; omega⟩, h2⟩ h3⟩
    intro w w' hwb h k
    have ht := h.trans k
    have hY : ∀ c, c ∈ keys Y → c ∉ keys D := by
      intro c hc hd
      rcases h1 c hd with hx | hx
      · exact (hnd w h).2 c hc hx
      · have := h.lt (b := c) (by rw [keys_app]; exact List.mem_append_right _ hc)
        omega
    have e1 : X.filter (fun p => !(keys D).contains p.1) = [] := by
      rw [List.filter_eq_nil_iff]
      intro p hp
      have := h2 p.1 (List.mem_map.2 ⟨p, hp, rfl⟩)
      simpa using this
    have e2 : Y.filter (fun p => !(keys D).contains p.1) = Y := filter_keys_all hY
    rw [List.filter_append, e1, e2, List.nil_append] at ht
    refine ht.same (fun p => by simp [or_comm]) ?_
    have := ht.nodup
    rw [keys_app] at this ⊢
    exact (List.perm_append_comm.nodup_iff).1 this
end
end Go.Sx
section
open Go Go.Proofs Go.Sx Go.StP Go.Flo
namespace Go.Proofs
set_option maxRecDepth 10000
set_option maxHeartbeats 400000
set_option linter.unusedSimpArgs false
/-! ### All parts' texts -/
def tabGo : Nat → List (List UInt8) → List (Int × List UInt8)
  | _, [] => []
  | i, t :: ts => ((i : Int), t) :: tabGo (i + 1) ts
def tabT (ts : List (List UInt8)) : List (Int × List UInt8) := tabGo 0 ts
theorem tabGo_upd (s : List UInt8) : ∀ (ts : List (List UInt8)) (i : Nat), updG (((i + ts.length : Nat)) : Int) s (tabGo i ts) = tabGo i (ts ++ [s])
  | [], i => rfl
  | t :: ts, i => by
    show updG _ s (((i : Int), t) :: tabGo (i + 1) ts) = ((i : Int), t) :: tabGo (i + 1) (ts ++ [s])
    unfold updG
    rw [if_neg (by rw [beq_iff_eq]; simp only [List.length_cons]; omega), ← tabGo_upd s ts (i + 1), List.length_cons, show i + 1 + ts.length = i + (ts.length + 1) by omega]
theorem tabT_upd (s : List UInt8) (ts : List (List UInt8)) {k : Nat} (hk : ts.length = k) : updG (k : Int) s (tabT ts) = tabT (ts ++ [s]) := by
  have := tabGo_upd s ts 0
  rw [Nat.zero_add, hk] at this
  exact this
theorem tabGo_get (z : List UInt8) : ∀ (ts : List (List UInt8)) (i b : Nat), b < ts.length → getG ((i + b : Nat) : Int) z (tabGo i ts) = ts.getD b []
  | [], _, _, h => by simp at h
  | t :: ts, i, 0, _ => by
    unfold tabGo getG
    rw [List.find?_cons]
    simp
  | t :: ts, i, b + 1, h => by
    have := tabGo_get z ts (i + 1) b (by simpa using h)
    rw [show i + 1 + b = i + (b + 1) by omega] at this
    rw [List.getD_cons_succ, ← this]
    have e : (((i + (b + 1) : Nat) : Int) == (i : Int)) = false := by rw [beq_eq_false_iff_ne]; omega
    show getG _ z (((i : Int), t) :: tabGo (i + 1) ts) = _
    unfold getG
    rw [List.find?_cons]
    simp only [e]
theorem tabT_get (z : List UInt8) {ts : List (List UInt8)} {b : Nat} (h : b < ts.length) : getG (b : Int) z (tabT ts) = ts.getD b [] := by
  have := tabGo_get z ts 0 b h
  rwa [Nat.zero_add] at this
theorem applyV_err {b d : List UInt8} (h : (applyV b d).2 ≠ 0) : (applyV b d).1 = [] := by
  unfold applyV at h ⊢
  split
  · rfl
  · rename_i p hp
    rw [hp] at h
    simp only at h ⊢
    split
    · rfl
    · rename_i hb; rw [if_neg hb] at h; exact absurd rfl h
theorem textV_err {p : PartL} {b : List UInt8} (h : (textV p b).2 ≠ 0) : (textV p b).1 = [] := by
  unfold textV at h ⊢
  split
  · rename_i hd; rw [if_pos hd] at h; exact applyV_err h
  · rename_i hd
    rw [if_neg hd] at h
    split
    · rfl
    · rename_i hl; rw [if_neg hl] at h; exact absurd rfl h
theorem ext_new {w : World} {X D : Heap} (h : New w.heap.size D) : Ext w X (X ++ D) := ⟨fun c hc => by
  rw [keys_app] at hc
  exact (List.mem_append.1 hc).imp id (h.le c), fun c hc => by rw [keys_app]; exact List.mem_append_left _ hc⟩
theorem part_ne {l : List PartL} {k : Nat} {p : List Nat} (hk : k < l.length) (hp : pathV l (k : Nat) = .ok p) (h : 1 < p.length) : p.getD 1 0 < k := by
  rcases pathV_cons hk hp with ⟨rfl, -⟩ | ⟨b, q, rfl, -, -, hlt, hq⟩
  · simp at h
  · rcases pathV_cons (by omega) hq with ⟨rfl, -⟩ | ⟨b2, q2, rfl, -⟩ <;> exact hlt
abbrev MapT (o : Obj) (ts : List (List UInt8)) : Prop := MapG vi vs o (tabT ts)
def clX (b1 bk bm : Nat) (v0 : Value) (o : Obj) : Heap := [(b1, .cells #[v0] 22 (0, 0)), (bk, .cells #[vm bm] 228 (0, 0)), (bm, o)]
def ClS (l : List PartL) (k : Nat) (ts : List (List UInt8)) (b1 bk bm : Nat) (v0 : Value) (v : Value) (D : Heap) : Prop :=
  v = partO (partV l (k : Nat)) ∧ ∃ o D', D = clX b1 bk bm v0 o ++ D' ∧ ∀ s, partV l (k : Nat) = .ok s → MapT o (ts ++ [s])
theorem load_c1 (v : Value) (E : TypeId) (n : Nat) : loadV (some (false, n)) (some (.cells #[v] E (0, 0))) 0 = some v := (rfl)
set_option linter.defProp false
def uKI_1 := And.intro (And.intro (And.intro (@rdIn_v8) (@rdIn_vi)) (And.intro (@load_c1) (@load_part0))) (And.intro (And.intro (@load_part1) (@load_part2)) (And.intro (@cells_part) (And.intro (@Sx.tup2_0) (@Sx.tup2_1))))
theorem find_spec (b1 bk bm : Nat) (o : Obj) (v0 : Value) (l : List PartL) (k : Nat) (ts : List (List UInt8)) (w : World) (h1k : b1 < bk) (hne1 : b1 ≠ bm) (hne2 : bk ≠ bm)
    (hv : PartSl w v0 l) (hb : BndL l) (hl : l.length < 1000000) (hk : k < l.length) (hts : allGo l k = .ok ts) (ho : MapT o ts) (hv1 : ∀ b, slB v0 = some b → b ∉ keys (clX b1 bk bm v0 o))
    (hX : ∀ p, p ∈ clX b1 bk bm v0 o → w.heap[p.1]? = some p.2) (hnd : (keys (clX b1 bk bm v0 o)).Nodup) :
    Rets Tryz.prog 158 #[vi k, vp b1 0, vp bk 0] w (XS w (clX b1 bk bm v0 o) (ClS l k ts b1 bk bm v0)) := by
  obtain ⟨bb, off, cc, arr, E, fz, hr, -, hvv⟩ := id hv
  have hbX : bb ∉ keys (clX b1 bk bm v0 o) := by
    rcases hvv with ⟨e1, e2, e3⟩ | ⟨e1, -, -⟩
    · exfalso; subst_vars; simp at hk
    · exact hv1 bb (by rw [e1]; rfl)
  have htl := allGo_len k ts hts
  have hva : ∀ w', Hp w (clX b1 bk bm v0 o) w' → PartSl w' v0 l := fun w' hw' => hv.old hw' fun b hb _ => hv1 b hb
  unfold clX at hX hnd hva hbX ⊢
  refine Rets.enterX Tryz.func158 rfl (rs := [.tmp 4, .tmp 5]) Tryz.results158 Tryz.ntmps158 hX hnd ?_
  refine kf ?_
  first | with_reducible refine ks [] @uKI_1 ?_ | refine kp @uKI_1 ?_
  refine Ow.callC rfl rfl Tryz.call153 (fun w' hw' => path_spec v0 l (k : Int) w' (hva w' hw') hl) (fun B1 v1 D1 hA1 hB1 hN1 hS1 => ?_)
  have hN1' := hN1.mono hB1
  unfold PathS at hS1
  cases hp : pathV l (k : Nat) with
  | error e =>
    rw [hp] at hS1
    have hS1' : v1 = .tuple #[.slice none 0 0, vi e] := hS1
    subst hS1'
    have e0 : (e != 0) = true := by rw [bne_iff_ne]; exact pathV_err hp
    refine ko (And.intro @uKI_1 @e0) ?_
    first | with_reducible refine ks [] @uKI_1 ?_ | refine kp @uKI_1 ?_
    refine ⟨_, (ke @uKI_1), ?_⟩
    refine ⟨ext_new (X := [_, _, _]) hN1', ?_⟩
    refine ⟨by unfold partV; rw [hp]; rfl, o, D1, rfl, fun s hs => ?_⟩
    unfold partV at hs
    rw [hp] at hs
    cases hs
  | ok p =>
    rw [hp] at hS1
    obtain ⟨x, rfl, hp5, hg⟩ := hS1
    have hpk := partV_known hk hts hp
    have hlen : ∀ m, lenV (.sl m) x = some (vi p.length) := fun m => by
      obtain ⟨X, -, h⟩ := hg; exact h.len m
    have hb0 : 0 < l.length := by omega
    have hbl := hr.lt hb0
    have i2 := hr.idx true k hk
    have ld := hr.load partC_len (by omega) hk
    have hpx := hb k hk
    have rd : readB w ((b1, Obj.cells #[v0] 22 (0, 0)) :: (bk, Obj.cells #[vm bm] 228 (0, 0)) :: (bm, o) :: D1) bb = some (.cells arr E fz) := by
      have hno : bb ∉ keys ([(b1, Obj.cells #[v0] 22 (0, 0)), (bk, Obj.cells #[vm bm] 228 (0, 0)), (bm, o)] ++ D1) := by rw [keys_app, List.mem_append, not_or]; exact ⟨hbX, hN1'.not hbl⟩
      exact (read_none hno).trans (hr.has hb0)
    generalize l.getD k part0 = pt at *
    have hlk : Sx.look ((b1, Obj.cells #[v0] 22 (0, 0)) :: (bk, Obj.cells #[vm bm] 228 (0, 0)) :: (bm, o) :: D1) bm = some o := by rw [look_other _ _ _ _ hne1, look_other _ _ _ _ hne2]; exact look_same _ _ _
    have hset : ∀ o1, setB ((b1, Obj.cells #[v0] 22 (0, 0)) :: (bk, Obj.cells #[vm bm] 228 (0, 0)) :: (bm, o) :: D1) bm o1 = ((b1, Obj.cells #[v0] 22 (0, 0)) :: (bk, Obj.cells #[vm bm] 228 (0, 0)) :: (bm, o1) :: D1) := fun o1 => by
      rw [setB_other _ _ _ _ _ hne1, setB_other _ _ _ _ _ hne2, setB_same]
    have ext_new' : ∀ {o1 : Obj}, New w.heap.size D1 → Ext w [(b1, Obj.cells #[v0] 22 (0, 0)), (bk, Obj.cells #[vm bm] 228 (0, 0)), (bm, o)] ((b1, Obj.cells #[v0] 22 (0, 0)) :: (bk, Obj.cells #[vm bm] 228 (0, 0)) :: (bm, o1) :: D1) := fun h => (ext_new (X := [_, _, _]) h).keys rfl
    by_cases h1 : 1 < p.length
    · have d1 : decide ((1 : Int) < (p.length : Int)) = true := decide_eq_true (by omega)
      rw [if_pos h1] at hpk
      refine ko (And.intro @uKI_1 ( And.intro @hlen (@d1))) ?_
      first | with_reducible refine ks [] @uKI_1 ?_ | refine kp @uKI_1 ?_
      refine Cw.world fun wz hwz => ?_
      rcases gri_nat hg (fun q hq => by simp [hq]) hwz with h0 | ⟨bp, cp, rp, rfl, hkp, rdp⟩
      · omega
      have lp := load_nat (E := 3) (rest := rp) 1 1 h1
      have hz : zeroV Tryz.prog 9 = some (vs []) := Tryz.zr9
      have hbase : p.getD 1 0 < ts.length := by have := part_ne hk hp h1; omega
      have hge := tabT_get [] hbase
      refine Cw.regionS [bk, bp] [1, 2, 0, 3, 4, 5] [] (by kernel_rfl) (by kernel_rfl) (by kernel_rfl) ?_
      simp only [nl_cons, ↓pickL_nil, ↓pickL_cons, ↓nthO_0, ↓nthO_s, consO_some]
      refine kq (And.intro @uKI_1 ( And.intro @rdp (@lp))) ?_
      refine Ow.soft rfl rfl rfl ?_
      refine Ow.mapGetG (k := ((p.getD 1 0 : Nat) : Int)) (z := []) rfl rfl Tryz.underlying228 (KeyOk.int Tryz.underlying3) hz rfl rfl (read_look hlk) ho ?_
      rw [hge]
      with_reducible refine Ow.nil ?_
      refine ⟨by intro b hb; simp only [List.mem_cons, List.not_mem_nil, or_false] at hb; (try subst hb); rfl, ?_⟩
      refine kq (And.intro @uKI_1 ( And.intro @i2 ( And.intro @rd (@ld)))) ?_
      refine Ow.callFV rfl Tryz.call154 (fun w' hw' => text_spec pt (ts.getD (p.getD 1 0) []) w' hpx) ?_
      refine ko @uKI_1 ?_
      first | with_reducible refine ks [] @uKI_1 ?_ | refine kp @uKI_1 ?_
      refine Ow.mapUpdateG (k := (k : Int)) (v := (textV pt (ts.getD (p.getD 1 0) [])).1) rfl rfl Tryz.underlying228 (KeyOk.int Tryz.underlying3) rfl rfl rfl hlk ho (fun o1 ho1 => ?_)
      rw [tabT_upd _ _ htl] at ho1
      rw [hset o1]
      refine ko @uKI_1 ?_
      first | with_reducible refine ks [] @uKI_1 ?_ | refine kp @uKI_1 ?_
      refine ⟨_, (ke @uKI_1), ?_⟩
      refine ⟨ext_new' hN1', ?_⟩
      refine ⟨?_, o1, D1, rfl, fun s hs => ?_⟩
      · rw [hpk]
        by_cases he : (textV pt (ts.getD (p.getD 1 0) [])).2 = 0
        · rw [if_pos he, he]; rfl
        · rw [if_neg he, textV_err he]; rfl
      · rw [hpk] at hs
        split at hs
        · cases hs; exact ho1
        · cases hs
    · have d1 : decide ((1 : Int) < (p.length : Int)) = false := decide_eq_false (by omega)
      rw [if_neg h1] at hpk
      refine ko (And.intro @uKI_1 ( And.intro @hlen (@d1))) ?_
      first | with_reducible refine ks [] (And.intro @uKI_1 ( And.intro @i2 ( And.intro @rd (@ld)))) ?_ | refine kp (And.intro @uKI_1 ( And.intro @i2 ( And.intro @rd (@ld)))) ?_
      refine Ow.callFV rfl Tryz.call154 (fun w' hw' => text_spec pt [] w' hpx) ?_
      refine ko @uKI_1 ?_
      first | with_reducible refine ks [] @uKI_1 ?_ | refine kp @uKI_1 ?_
      refine Ow.mapUpdateG (k := (k : Int)) (v := (textV pt []).1) rfl rfl Tryz.underlying228 (KeyOk.int Tryz.underlying3) rfl rfl rfl hlk ho (fun o1 ho1 => ?_)
      rw [tabT_upd _ _ htl] at ho1
      rw [hset o1]
      refine ko @uKI_1 ?_
      first | with_reducible refine ks [] @uKI_1 ?_ | refine kp @uKI_1 ?_
      refine ⟨_, (ke @uKI_1), ?_⟩
      refine ⟨ext_new' hN1', ?_⟩
      refine ⟨?_, o1, D1, rfl, fun s hs => ?_⟩
      · rw [hpk]
        by_cases he : (textV pt []).2 = 0
        · rw [if_pos he, he]; rfl
        · rw [if_neg he, textV_err he]; rfl
      · rw [hpk] at hs
        split at hs
        · cases hs; exact ho1
        · cases hs
end Go.Proofs
end
section
open Go Go.Proofs Go.Sx Go.StP Go.Flo
namespace Go.Proofs
set_option maxRecDepth 10000
set_option maxHeartbeats 400000
set_option linter.unusedSimpArgs false
/-! ### All parts' texts: the loop -/
theorem foldT_err {l : List PartL} {e : Int} : ∀ (p : List Nat), foldT l p = .error e → e ≠ 0
  | [], h => by cases h
  | a :: p, h => by
    unfold foldT at h
    cases hp : foldT l p with
    | error x => rw [hp] at h; cases h; exact foldT_err p hp
    | ok s =>
      rw [hp] at h
      change (if (textV (l.getD a part0) s).2 = 0 then _ else _) = _ at h
      split at h
      · cases h
      · rename_i hne; cases h; exact hne
theorem partV_err {l : List PartL} {a e : Int} (h : partV l a = .error e) : e ≠ 0 := by
  unfold partV at h
  cases hp : pathV l a with
  | error x => rw [hp] at h; cases h; exact pathV_err hp
  | ok p => rw [hp] at h; exact foldT_err p h
theorem allGo_ok {l : List PartL} {k : Nat} {ts : List (List UInt8)} {s : List UInt8} (h : allGo l k = .ok ts) (hs : partV l (k : Nat) = .ok s) : allGo l (k + 1) = .ok (ts ++ [s]) := by
  unfold allGo; rw [h]; show (partV l (k : Nat)).map _ = _; rw [hs]; rfl
theorem allGo_no {l : List PartL} {k : Nat} {ts : List (List UInt8)} {e : Int} (h : allGo l k = .ok ts) (hs : partV l (k : Nat) = .error e) : ∀ j, k < j → allGo l j = .error e
  | 0, hj => by omega
  | j + 1, hj => by
    unfold allGo
    by_cases hjk : j = k
    · subst hjk; rw [h]; show (partV l (j : Nat)).map _ = _; rw [hs]; rfl
    · rw [allGo_no h hs j (by omega)]; rfl
def strC (s : List UInt8) : List Value := [vs s]
theorem strC_len (s : List UInt8) : (strC s).length = 1 := rfl
structure AlG where
  ts : List (List UInt8)
  v : Value
  o : Obj
  D : Heap
/-- What All hands back. -/
def AllS (l : List PartL) (v : Value) (D : Heap) : Prop := match allV l with
  | .ok ts => ∃ x, v = .tuple #[x, vi 0] ∧ GrI D 9 1 x ts.length (ts.map strC).flatten
  | .error e => v = .tuple #[.slice none 0 0, vi e]
theorem zrMap : zeroV Tryz.prog 228 = some (.map none) := id (by kernel_rfl)
theorem store_mapc (b : Nat) (E : TypeId) (x : Value) : storeV (some (false, 1)) (some (.cells #[x] E (0, 0))) 0 (vm b) = some (.cells #[vm b] E (0, 0)) := (rfl)
set_option linter.defProp false
def uKJ_1 := And.intro (And.intro (@rdIn_v8) (And.intro (@rdIn_vi) (@load_c1))) (And.intro (@store_mapc) (And.intro (@Sx.tup2_0) (@Sx.tup2_1)))
theorem AllC_spec (v0 : Value) (l : List PartL) (w : World) (hv : PartSl w v0 l) (hb : BndL l) (hl : l.length < 1000000) :
    Rets Tryz.prog 125 #[v0] w (XS w [] (AllS l)) := by
  have ln := hv.len
  have hcl : v0.cells = #[v0] := by
    obtain ⟨bb, off, cc, arr, E, fz, hr, -, hvv⟩ := id hv
    rcases hvv with ⟨e1, -, -⟩ | ⟨e1, -, -⟩ <;> rw [e1] <;> rfl
  have hvb : ∀ b, slB v0 = some b → b < w.heap.size := by
    intro b hb
    obtain ⟨bb, off, cc, arr, E, fz, hr, -, hvv⟩ := id hv
    rcases hvv with ⟨e1, -, -⟩ | ⟨e1, hh, -⟩
    · rw [e1] at hb; cases hb
    · rw [e1] at hb; cases hb; exact (Array.getElem?_eq_some_iff.1 hh).1
  refine Rets.enterX Tryz.func125 rfl (rs := [.tmp 2, .tmp 3]) Tryz.results125 Tryz.ntmps125 (fun p hp => by cases hp) (by simp [keys]) ?_
  refine kf ?_
  first | with_reducible refine ks [] @uKJ_1 ?_ | refine kp @uKJ_1 ?_
  refine Ow.box rfl rfl fun b1 hb1 hw1 => ?_
  simp only [ev_tmp, getF_0, getF_s, cells_agg, List.nil_append, List.cons_append]
  refine Ow.go rfl ?_
  simp (disch := (first | assumption | omega | (simp only [lenS, lenT, UInt64.reduceToNat]; try omega))) only [↓Sx.S0, Sx.S1, Tryz.fx, uKJ_1, Nat.reduceAdd, Nat.reducePow, Int.reducePow, Nat.reduceBEq, ↓reduceIte, UInt8.reduceToNat, UInt16.reduceToNat, UInt32.reduceToNat, UInt64.reduceToNat, Int.reduceToNat]
  rw [hcl]
  by_cases h2 : 200 < l.length
  · have d1 : decide ((200 : Int) < (l.length : Int)) = true := decide_eq_true (by omega)
    first | with_reducible refine ks [] (And.intro @uKJ_1 ( And.intro @ln (@d1))) ?_ | refine kp (And.intro @uKJ_1 ( And.intro @ln (@d1))) ?_
    refine ⟨_, (ke @uKJ_1), ?_⟩
    refine ⟨Ext.of_new ⟨hw1, trivial⟩, ?_⟩
    unfold AllS allV; rw [if_pos h2]; rfl
  · have d1 : decide ((200 : Int) < (l.length : Int)) = false := decide_eq_false (by omega)
    first | with_reducible refine ks [] (And.intro @uKJ_1 ( And.intro @ln (@d1))) ?_ | refine kp (And.intro @uKJ_1 ( And.intro @ln (@d1))) ?_
    refine Ow.makeMapG (encK := vi) (encV := vs) rfl rfl fun bm o hbm hwm hm0 => ?_
    rw [List.cons_append, List.nil_append]
    refine ko @uKJ_1 ?_
    first | with_reducible refine ks [] @uKJ_1 ?_ | refine kp @uKJ_1 ?_
    refine Ow.alloc rfl rfl zrMap fun bk hbk hwk => ?_
    simp only [cells_agg, List.nil_append, List.cons_append]
    rw [show Value.cells (.map none) = #[.map none] from rfl]
    have hbmk : bm < bk := above_to hbk (by simp [keys])
    have hb1m : b1 < bm := above_to hbm (by simp [keys])
    have hb1k : b1 < bk := by omega
    have hv1 : ∀ o b, slB v0 = some b → b ∉ keys (clX b1 bk bm v0 o) := by
      intro o b hbb
      have := hvb b hbb
      simp only [clX, keys, List.map_cons, List.map_nil, List.mem_cons, List.not_mem_nil, or_false, not_or]
      omega
    have hXn : ∀ o, New w.heap.size (clX b1 bk bm v0 o) := fun o => ⟨hw1, hwk, hwm, trivial⟩
    refine Ow.permL (M := [(b1, Obj.cells #[v0] 22 (0, 0)), (bk, .cells #[.map none] 228 (0, 0)), (bm, o)]) (by classical exact List.perm_iff_count.2 fun a => by simp only [List.count_append, List.count_cons, List.count_nil] <;> omega) ?_
    refine ko @uKJ_1 ?_
    first | with_reducible refine ks [] (And.intro @uKJ_1 @ln) ?_ | refine kp (And.intro @uKJ_1 @ln) ?_
    simp only [List.map_toArray, List.map_cons, List.map_nil, ev_tmp, getF_s, getF_0]
    refine Cw.loopG (G := AlG) [18, 19, 7, 21, 22, 23, 20, 24, 25, 8, 9, 26, 27, 28, 2, 3, 29, 30, 31, 32, 6, 33, 17] (fun g => [(6, g.v), (17, vi g.ts.length)]) (fun g => (b1, Obj.cells #[v0] 22 (0, 0)) :: (bk, .cells #[vm bm] 228 (0, 0)) :: (bm, g.o) :: g.D) (fun g => g.ts.length ≤ l.length ∧ allGo l g.ts.length = .ok g.ts ∧ MapT g.o g.ts ∧ New w.heap.size g.D ∧ Gr g.D 9 1 g.v g.ts.length (g.ts.map strC).flatten) (fun g => l.length - g.ts.length) ⟨[], .slice none 0 0, o, []⟩ rfl rfl ?_ ?_
    · exact ⟨Nat.zero_le _, rfl, hm0, trivial, Gr.nl⟩
    intro g j hg
    refine kv ?_
    obtain ⟨ts, v, o, D⟩ := g
    simp only at hg ⊢
    obtain ⟨hgl, hgo, hM, hN, hG⟩ := hg
    by_cases hlt : ts.length < l.length
    · have d2 : decide ((ts.length : Int) < (l.length : Int)) = true := decide_eq_true (by omega)
      first | with_reducible refine ks [] (And.intro @uKJ_1 @d2) ?_ | refine kp (And.intro @uKJ_1 @d2) ?_
      refine Ow.callFnXC (b := vi ts.length) (ars := #[vi ts.length, vp b1 0, vp bk 0]) rfl (X := clX b1 bk bm v0 o) (Y := D) (S := ClS l ts.length ts b1 bk bm v0) rfl rfl rfl rfl rfl Tryz.call158 (fun w' hw' hX hn => find_spec b1 bk bm o v0 l ts.length ts w' hb1k (by omega) (by omega) (hv.oldN hw' ((hXn o).app hN)) hb hl hlt hgo hM (hv1 o) hX hn) (fun v2 D2 hC hS => ?_)
      obtain ⟨rfl, o2, D3, rfl, hok⟩ := hS
      have hN3 : New w.heap.size D3 := New.of_le fun c hc => by
        rcases hC.new c (by rw [keys_app]; exact List.mem_append_right _ hc) with h | h
        · exact (hXn o).le c h
        · exact h.2
      have hpm : (clX b1 bk bm v0 o2 ++ D3) ++ D = (b1, Obj.cells #[v0] 22 (0, 0)) :: (bk, .cells #[vm bm] 228 (0, 0)) :: (bm, o2) :: (D3 ++ D) := rfl
      rw [hpm]
      cases hp : partV l (ts.length : Nat) with
      | error e =>
        have hal : allV l = .error e := by unfold allV; rw [if_neg h2]; exact allGo_no hgo hp _ hlt
        have e0 : (e != 0) = true := by rw [bne_iff_ne]; exact partV_err hp
        unfold partO
        refine ko @uKJ_1 ?_
        first | with_reducible refine ks [] (And.intro @uKJ_1 @e0) ?_ | refine kp (And.intro @uKJ_1 @e0) ?_
        refine ⟨_, (ke @uKJ_1), ?_⟩
        refine ⟨Ext.of_new ⟨hw1, hwk, hwm, hN3.app hN⟩, ?_⟩
        unfold AllS; rw [hal]; rfl
      | ok s =>
        have e0 : ((0 : Int) != 0) = false := rfl
        unfold partO
        refine ko @uKJ_1 ?_
        first | with_reducible refine ks [] (And.intro @uKJ_1 @e0) ?_ | refine kp (And.intro @uKJ_1 @e0) ?_
        refine Ow.buildSlice (e := 9) #[vs s] rfl rfl (by kernel_rfl) fun b9 hb9 hw9 => ?_
        have hM2 := hok s hp
        refine Ow.permL (M := D ++ ((b1, Obj.cells #[v0] 22 (0, 0)) :: (bk, .cells #[vm bm] 228 (0, 0)) :: (bm, o2) :: (D3 ++ [(b9, .cells #[vs s] 9 (0, 0))]))) (by classical exact List.perm_iff_count.2 fun a => by simp only [List.count_append, List.count_cons, List.count_nil] <;> omega) ?_
        refine ko @uKJ_1 ?_
        refine Ow.appendXG (e := 9) (k := 1) (new := strC s) (X := D) v rfl rfl rfl rfl Tryz.underlying57 (id (by kernel_rfl) : aggT Tryz.prog 9 = some (false, 1)) (by kernel_rfl) (id (by kernel_rfl) : zeroV Tryz.prog 9 = some (vs [])) rfl Tryz.underlying57 (by intro k h; cases h) hG (fun w' hw' => AppX.one1 (hw'.has b9 (.cells #[vs s] 9 (0, 0)) (by simp)) (strC_len s) rfl) (by omega) (fun B4 v4 D4 hA4 hB4 hG4 hk14 hk24 hlk4 => ?_)
        have hN4 : New w.heap.size D4 := New.of_le fun c hc => by
          rcases hk24 c hc with h | h
          · exact hN.le c h
          · omega
        have hG5 : Gr (D4 ++ (D3 ++ [(b9, Obj.cells #[vs s] 9 (0, 0))])) 9 1 v4 (ts ++ [s]).length ((ts ++ [s]).map strC).flatten := by
          have := hG4.app (M := D3 ++ [(b9, Obj.cells #[vs s] 9 (0, 0))])
          simpa using this
        have hN5 : New w.heap.size (D4 ++ (D3 ++ [(b9, Obj.cells #[vs s] 9 (0, 0))])) := hN4.app (hN3.app ⟨hw9, trivial⟩)
        refine Ow.permL (M := (b1, Obj.cells #[v0] 22 (0, 0)) :: (bk, .cells #[vm bm] 228 (0, 0)) :: (bm, o2) :: (D4 ++ (D3 ++ [(b9, .cells #[vs s] 9 (0, 0))]))) (by classical exact List.perm_iff_count.2 fun a => by simp only [List.count_append, List.count_cons, List.count_nil] <;> omega) ?_
        generalize D4 ++ (D3 ++ [(b9, Obj.cells #[vs s] 9 (0, 0))]) = D6 at *
        refine ko @uKJ_1 ?_
        first | with_reducible refine ks [] @uKJ_1 ?_ | refine kp @uKJ_1 ?_
        have hlt2 : (ts ++ [s]).length = ts.length + 1 := by simp
        refine Again.mk ⟨ts ++ [s], v4, o2, D6⟩ (by show l.length - (ts ++ [s]).length < l.length - ts.length; omega) ⟨by show (ts ++ [s]).length ≤ l.length; omega, by show allGo l (ts ++ [s]).length = .ok (ts ++ [s]); rw [hlt2]; exact allGo_ok hgo hp, hM2, hN5, hG5⟩ rfl (by simp only [hlt2]; rfl)
    · have e : ts.length = l.length := by omega
      have d2 : decide ((ts.length : Int) < (l.length : Int)) = false := decide_eq_false (by omega)
      first | with_reducible refine ks [] (And.intro @uKJ_1 @d2) ?_ | refine kp (And.intro @uKJ_1 @d2) ?_
      refine ⟨_, (ke @uKJ_1), ?_⟩
      refine ⟨Ext.of_new ⟨hw1, hwk, hwm, hN⟩, ?_⟩
      have hal : allV l = .ok ts := by unfold allV; rw [if_neg h2, ← e]; exact hgo
      unfold AllS
      rw [hal]
      exact ⟨v, rfl, Gr.i hG fun q hq => by simp [hq]⟩
end Go.Proofs
end
namespace Go.Dig
open Go.Sx
def hexL : List UInt8 := [48, 49, 50, 51, 52, 53, 54, 55, 56, 57, 97, 98, 99, 100, 101, 102]
def digitV (b : UInt8) : Int := if 48 ≤ b.toNat ∧ b.toNat ≤ 57 then (b.toNat : Int) - 48 else if 97 ≤ b.toNat ∧ b.toNat ≤ 102 then (b.toNat : Int) - 97 + 10 else -1
def hexD (n : Nat) : UInt8 := hexL.getD n 0
def hexB (b : UInt8) : List UInt8 := [hexD (b.toNat / 16), hexD (b.toNat % 16)]
def hexV (id : List UInt8) : List UInt8 := id.flatMap hexB
def hexPre (id : List UInt8) (g : Nat) : List UInt8 := hexV (id.take g) ++ List.replicate (64 - 2 * g) 0
/-- What a text of 64 digits is the text of. -/
def bytesL (l : List UInt8) (n : Nat) : List UInt8 := (List.range n).map fun i => UInt8.ofInt (digitV (l.getD (2 * i) 0) * 16 + digitV (l.getD (2 * i + 1) 0))
def okHex (l : List UInt8) : Bool := l.length == 64 && l.all fun c => decide (0 ≤ digitV c)
def unhexV (l : List UInt8) : List UInt8 := if okHex l then bytesL l 32 else List.replicate 32 0
def bytesPre (l : List UInt8) (g : Nat) : List UInt8 := bytesL l g ++ List.replicate (32 - g) 0
/-! ### The document's reading of an id's text: digit by digit -/
def refB (l : List UInt8) (i k : Nat) : UInt8 :=
  if 2 * k + 1 < i then UInt8.ofInt (digitV (l.getD (2 * k) 0) * 16 + digitV (l.getD (2 * k + 1) 0)) else if 2 * k < i then UInt8.ofInt (digitV (l.getD (2 * k) 0)) else 0
def refPre (l : List UInt8) (i : Nat) : List UInt8 := (List.range 32).map (refB l i)
/-! ### SHA-256 -/
def rgt (x : UInt32) (n : UInt64) : UInt32 := shr_u32 x n.toNat ||| shl_u32 x (32 - n).toNat
def rol (x : UInt32) (k : Int) : UInt32 := shl_u32 x (UInt64.ofInt k &&& 31).toNat ||| shr_u32 x (32 - (UInt64.ofInt k &&& 31)).toNat
def turnV (x : UInt32) (a b c : Int) : UInt32 := rol x (-a) ^^^ rol x (-b) ^^^ shr_u32 x c.toNat
def spinV (x : UInt32) (a b c : Int) : UInt32 := rol x (-a) ^^^ rol x (-b) ^^^ rol x (-c)
def S1 (e : UInt32) : UInt32 := rgt e 6 ^^^ rgt e 11 ^^^ rgt e 25
def S0 (a : UInt32) : UInt32 := rgt a 2 ^^^ rgt a 13 ^^^ rgt a 22
def s1 (y : UInt32) : UInt32 := rgt y 17 ^^^ rgt y 19 ^^^ shr_u32 y 10
def s0 (x : UInt32) : UInt32 := rgt x 7 ^^^ rgt x 18 ^^^ shr_u32 x 3
theorem rol6 (x : UInt32) : rol x (-6) = rgt x 6 := by unfold rol rgt; rw [UInt32.or_comm]; rfl
theorem rol11 (x : UInt32) : rol x (-11) = rgt x 11 := by unfold rol rgt; rw [UInt32.or_comm]; rfl
theorem rol25 (x : UInt32) : rol x (-25) = rgt x 25 := by unfold rol rgt; rw [UInt32.or_comm]; rfl
theorem rol2 (x : UInt32) : rol x (-2) = rgt x 2 := by unfold rol rgt; rw [UInt32.or_comm]; rfl
theorem rol13 (x : UInt32) : rol x (-13) = rgt x 13 := by unfold rol rgt; rw [UInt32.or_comm]; rfl
theorem rol22 (x : UInt32) : rol x (-22) = rgt x 22 := by unfold rol rgt; rw [UInt32.or_comm]; rfl
theorem rol17 (x : UInt32) : rol x (-17) = rgt x 17 := by unfold rol rgt; rw [UInt32.or_comm]; rfl
theorem rol19 (x : UInt32) : rol x (-19) = rgt x 19 := by unfold rol rgt; rw [UInt32.or_comm]; rfl
theorem rol7 (x : UInt32) : rol x (-7) = rgt x 7 := by unfold rol rgt; rw [UInt32.or_comm]; rfl
theorem rol18 (x : UInt32) : rol x (-18) = rgt x 18 := by unfold rol rgt; rw [UInt32.or_comm]; rfl
theorem spin1 (x : UInt32) : spinV x 6 11 25 = S1 x := by unfold spinV S1; rw [rol6, rol11, rol25]
theorem spin0 (x : UInt32) : spinV x 2 13 22 = S0 x := by unfold spinV S0; rw [rol2, rol13, rol22]
theorem turn1 (x : UInt32) : turnV x 17 19 10 = s1 x := by unfold turnV s1; rw [rol17, rol19]; rfl
theorem turn0 (x : UInt32) : turnV x 7 18 3 = s0 x := by unfold turnV s0; rw [rol7, rol18]; rfl

def kL : List UInt32 := [1116352408, 1899447441, 3049323471, 3921009573, 961987163, 1508970993, 2453635748, 2870763221, 3624381080, 310598401, 607225278, 1426881987, 1925078388, 2162078206, 2614888103, 3248222580, 3835390401, 4022224774, 264347078, 604807628, 770255983, 1249150122, 1555081692, 1996064986, 2554220882, 2821834349, 2952996808, 3210313671, 3336571891, 3584528711, 113926993, 338241895, 666307205, 773529912, 1294757372, 1396182291, 1695183700, 1986661051, 2177026350, 2456956037, 2730485921, 2820302411, 3259730800, 3345764771, 3516065817, 3600352804, 4094571909, 275423344, 430227734, 506948616, 659060556, 883997877, 958139571, 1322822218, 1537002063, 1747873779, 1955562222, 2024104815, 2227730452, 2361852424, 2428436474, 2756734187, 3204031479, 3329325298]
def initL : List UInt32 := [1779033703, 3144134277, 1013904242, 2773480762, 1359893119, 2600822924, 528734635, 1541459225]

/-- The word of four bytes, as the document says. -/
def wordR (b : List UInt8) (i : Nat) : UInt32 :=
  UInt32.ofNat (b.getD (4 * i) 0).toNat * 16777216 + UInt32.ofNat (b.getD (4 * i + 1) 0).toNat * 65536 + UInt32.ofNat (b.getD (4 * i + 2) 0).toNat * 256 + UInt32.ofNat (b.getD (4 * i + 3) 0).toNat
def wPre (b : List UInt8) (i : Nat) : List UInt32 := (List.range 64).map fun j => if j < i then wordR b j else 0
theorem wPre_length (b : List UInt8) (i : Nat) : (wPre b i).length = 64 := by simp [wPre]
theorem wPre_succ (b : List UInt8) (i : Nat) : (wPre b i).set i (wordR b i) = wPre b (i + 1) := by
  apply List.ext_getElem
  · simp [wPre]
  intro k hk1 hk2
  have hk : k < 64 := by simpa [wPre] using hk2
  rw [List.getElem_set]
  by_cases h : i = k
  · subst h; simp [wPre]
  · rw [if_neg h]
    simp only [wPre, List.getElem_map, List.getElem_range]
    by_cases h1 : k < i
    · rw [if_pos h1, if_pos (by omega)]
    · rw [if_neg h1, if_neg (by omega)]
theorem wPre_zero (b : List UInt8) : wPre b 0 = List.replicate 64 0 := by
  apply List.ext_getElem
  · simp [wPre]
  intro k hk1 hk2
  simp only [wPre, List.getElem_map, List.getElem_range, List.getElem_replicate]
  rw [if_neg (by omega)]
/-- The words from 16 on. -/
def wStep (w : List UInt32) (g : Nat) : List UInt32 := w.set g (s1 (w.getD (g - 2) 0) + w.getD (g - 7) 0 + s0 (w.getD (g - 15) 0) + w.getD (g - 16) 0)
def wGo (w : List UInt32) : Nat → List UInt32
  | 0 => w
  | n + 1 => wStep (wGo w n) (16 + n)
theorem wGo_length (w : List UInt32) (n : Nat) : (wGo w n).length = w.length := by
  induction n with
  | zero => rfl
  | succ n ih => simp [wGo, wStep, ih]
def wAll (b : List UInt8) : List UInt32 := wGo (wPre b 16) 48
theorem wAll_length (b : List UInt8) : (wAll b).length = 64 := by rw [wAll, wGo_length, wPre_length]

def rStep (s : List UInt32) (k w : UInt32) : List UInt32 :=
  let t := s.getD 7 0 + S1 (s.getD 4 0) + (s.getD 4 0 &&& s.getD 5 0 ||| ~~~ s.getD 4 0 &&& s.getD 6 0) + k + w
  let u := S0 (s.getD 0 0) + (s.getD 0 0 &&& s.getD 1 0 ||| s.getD 0 0 &&& s.getD 2 0 ||| s.getD 1 0 &&& s.getD 2 0)
  [t + u, s.getD 0 0, s.getD 1 0, s.getD 2 0, s.getD 3 0 + t, s.getD 4 0, s.getD 5 0, s.getD 6 0]
def rGo (st w : List UInt32) : Nat → List UInt32
  | 0 => st
  | n + 1 => rStep (rGo st w n) (kL.getD n 0) (w.getD n 0)
theorem rGo_length (st w : List UInt32) (n : Nat) (h : st.length = 8) : (rGo st w n).length = 8 := by
  cases n with
  | zero => exact h
  | succ n => rfl
def addPre (st s : List UInt32) (i : Nat) : List UInt32 := (List.range 8).map fun j => if j < i then st.getD j 0 + s.getD j 0 else st.getD j 0
theorem addPre_length (st s : List UInt32) (i : Nat) : (addPre st s i).length = 8 := by simp [addPre]
theorem addPre_get (st s : List UInt32) (i j : Nat) (hj : j < 8) : (addPre st s i).getD j 0 = if j < i then st.getD j 0 + s.getD j 0 else st.getD j 0 := by
  simp [addPre, List.getD_eq_getElem?_getD, hj]
theorem addPre_succ (st s : List UInt32) (i : Nat) : (addPre st s i).set i (st.getD i 0 + s.getD i 0) = addPre st s (i + 1) := by
  apply List.ext_getElem
  · simp [addPre]
  intro k hk1 hk2
  rw [List.getElem_set]
  by_cases h : i = k
  · subst h; simp [addPre]
  · rw [if_neg h]
    simp only [addPre, List.getElem_map, List.getElem_range]
    by_cases h1 : k < i
    · rw [if_pos h1, if_pos (by omega)]
    · rw [if_neg h1, if_neg (by omega)]
theorem addPre_zero (st s : List UInt32) (h : st.length = 8) : addPre st s 0 = st := by
  apply List.ext_getElem
  · simp [addPre, h]
  intro k hk1 hk2
  simp [addPre, List.getD_eq_getElem?_getD, hk2]
/-- The state behind a block. -/
def comp (st : List UInt32) (b : List UInt8) : List UInt32 := addPre st (rGo st (wAll b) 64) 8
theorem comp_length (st : List UInt32) (b : List UInt8) : (comp st b).length = 8 := addPre_length _ _ _
/-- The state behind n blocks. -/
def comps (st : List UInt32) (m : List UInt8) : Nat → List UInt32
  | 0 => st
  | n + 1 => comp (comps st m n) ((m.drop (64 * n)).take 64)
theorem comps_length (st : List UInt32) (m : List UInt8) (n : Nat) (h : st.length = 8) : (comps st m n).length = 8 := by
  cases n with
  | zero => exact h
  | succ n => exact comp_length _ _
theorem comps_append (st : List UInt32) (m x : List UInt8) (n : Nat) (h : 64 * n ≤ m.length) : comps st (m ++ x) n = comps st m n := by
  induction n with
  | zero => rfl
  | succ n ih =>
    simp only [comps]
    rw [ih (by omega), List.drop_append_of_le_length (by omega), List.take_append_of_le_length (by simp; omega)]

/-! ### A hash in memory -/
def hashL (bg : Bool) (st : List UInt32) (rest : List UInt8) (many : Int) (taken : UInt64) : List Value :=
  .bool bg :: (st.map (fun x => Value.int .u32 (x.toNat : Int)) ++ (rest.map (fun x => Value.int .u8 (x.toNat : Int)) ++ [vi many, v64 taken]))
def hashC (bg : Bool) (st : List UInt32) (rest : List UInt8) (many : Int) (taken : UInt64) : Array Value := (hashL bg st rest many taken).toArray
section
variable {bg : Bool} {st : List UInt32} {rest : List UInt8} {many : Int} {taken : UInt64} {E : TypeId}
theorem hash_size (h : st.length = 8 ∧ rest.length = 64) : (hashC bg st rest many taken).size = 75 := by simp [hashC, hashL, h]
theorem hash_get0 : (hashC bg st rest many taken)[0]? = some (.bool bg) := rfl
theorem hash_getS (k : Nat) (hk : k < 8) (h : st.length = 8) : (hashC bg st rest many taken)[1 + k]? = some (v32 (st.getD k 0)) := by
  have : 1 + k = k + 1 := by omega
  rw [this, hashC, List.getElem?_toArray, hashL, List.getElem?_cons_succ, List.getElem?_append_left (by simp; omega)]
  simp [v32, List.getD_eq_getElem?_getD, h, hk]
theorem hash_getR (k : Nat) (hk : k < 64) (h : st.length = 8 ∧ rest.length = 64) : (hashC bg st rest many taken)[9 + k]? = some (v8 (rest.getD k 0)) := by
  have : 9 + k = (8 + k) + 1 := by omega
  rw [this, hashC, List.getElem?_toArray, hashL, List.getElem?_cons_succ, List.getElem?_append_right (by simp; omega), List.getElem?_append_left (by simp; omega)]
  have e : 8 + k - (List.map (fun x : UInt32 => Value.int .u32 (x.toNat : Int)) st).length = k := by simp; omega
  rw [e]
  simp [v8, List.getD_eq_getElem?_getD, h, hk]
theorem hash_getM (h : st.length = 8 ∧ rest.length = 64) : (hashC bg st rest many taken)[73]? = some (vi many) := by
  rw [hashC, List.getElem?_toArray, hashL, List.getElem?_cons_succ, List.getElem?_append_right (by simp; omega), List.getElem?_append_right (by simp; omega)]
  simp [h]
theorem hash_getT (h : st.length = 8 ∧ rest.length = 64) : (hashC bg st rest many taken)[74]? = some (v64 taken) := by
  rw [hashC, List.getElem?_toArray, hashL, List.getElem?_cons_succ, List.getElem?_append_right (by simp; omega), List.getElem?_append_right (by simp; omega)]
  simp [h]
theorem load_hash0 (n : Nat) : loadV (some (false, n)) (some (.cells (hashC bg st rest many taken) E (0, 0))) 0 = some (.bool bg) := hash_get0
theorem load_hashS (n k : Nat) (h : k < 8 ∧ st.length = 8) : loadV (some (false, n)) (some (.cells (hashC bg st rest many taken) E (0, 0))) (1 + k) = some (v32 (st.getD k 0)) := hash_getS k h.1 h.2
theorem load_hashR (n k : Nat) (h : k < 64 ∧ st.length = 8 ∧ rest.length = 64) : loadV (some (false, n)) (some (.cells (hashC bg st rest many taken) E (0, 0))) (9 + k) = some (v8 (rest.getD k 0)) := hash_getR k h.1 h.2
theorem load_hashR2 (n j k : Nat) (h : j + k < 64 ∧ st.length = 8 ∧ rest.length = 64) : loadV (some (false, n)) (some (.cells (hashC bg st rest many taken) E (0, 0))) (9 + j + k) = some (v8 (rest.getD (j + k) 0)) := by
  rw [Nat.add_assoc]; exact hash_getR (j + k) h.1 h.2
theorem load_hashM (n : Nat) (h : st.length = 8 ∧ rest.length = 64) : loadV (some (false, n)) (some (.cells (hashC bg st rest many taken) E (0, 0))) 73 = some (vi many) := hash_getM h
theorem load_hashT (n : Nat) (h : st.length = 8 ∧ rest.length = 64) : loadV (some (false, n)) (some (.cells (hashC bg st rest many taken) E (0, 0))) 74 = some (v64 taken) := hash_getT h
theorem load_hashSt (h : st.length = 8 ∧ rest.length = 64) : loadV (some (true, 8)) (some (.cells (hashC bg st rest many taken) E (0, 0))) 1 = some (.agg (a32 st)) := by
  have hs : 1 + 8 ≤ (hashC bg st rest many taken).size := by rw [hash_size h]; omega
  simp only [loadV, hs, ↓reduceIte]
  congr 2
  rw [hashC, a32, hashL]
  simp only [List.extract_toArray, List.extract_eq_take_drop]
  congr 1
  simp [h]
theorem load_hashAll (h : st.length = 8 ∧ rest.length = 64) : loadV (some (true, 75)) (some (.cells (hashC bg st rest many taken) E (0, 0))) 0 = some (.agg (hashC bg st rest many taken)) := load_all _ _ _ _ (hash_size h)
theorem one_hash : (hashC bg st rest many taken).toList.all Value.oneCell' = true := by
  simp [hashC, hashL, Value.oneCell', vi, v64]
theorem store_hashAll (old : Array Value) (h : st.length = 8 ∧ rest.length = 64 ∧ old.size = 75) : storeV (some (true, 75)) (some (.cells old E (0, 0))) 0 (.agg (hashC bg st rest many taken)) = some (.cells (hashC bg st rest many taken) E (0, 0)) :=
  store_all _ _ _ _ _ ⟨hash_size ⟨h.1, h.2.1⟩, h.2.2⟩ one_hash
theorem setL_hash (i : Nat) (v : Value) : (hashC bg st rest many taken).setIfInBounds i v = ((hashL bg st rest many taken).set i v).toArray := by simp [hashC]
theorem store_hash0 (b : Bool) (h : st.length = 8 ∧ rest.length = 64) : storeV (some (false, 1)) (some (.cells (hashC bg st rest many taken) E (0, 0))) 0 (.bool b) = some (.cells (hashC b st rest many taken) E (0, 0)) := by
  rw [store_one _ _ _ _ _ (by rw [hash_size h]; omega) rfl rfl, setL_hash]; rfl
theorem store_hashS (k : Nat) (x : UInt32) (h : k < 8 ∧ st.length = 8 ∧ rest.length = 64) : storeV (some (false, 1)) (some (.cells (hashC bg st rest many taken) E (0, 0))) (1 + k) (v32 x) = some (.cells (hashC bg (st.set k x) rest many taken) E (0, 0)) := by
  have e : 1 + k = k + 1 := by omega
  rw [store_one _ _ _ _ _ (by rw [hash_size h.2]; omega) rfl rfl, setL_hash, e, hashL, List.set_cons_succ, List.set_append_left _ _ (by simp; omega)]
  simp only [hashC, hashL, List.map_set]; rfl
theorem store_hashR (k : Nat) (x : UInt8) (h : k < 64 ∧ st.length = 8 ∧ rest.length = 64) : storeV (some (false, 1)) (some (.cells (hashC bg st rest many taken) E (0, 0))) (9 + k) (v8 x) = some (.cells (hashC bg st (rest.set k x) many taken) E (0, 0)) := by
  have e : 9 + k = (8 + k) + 1 := by omega
  rw [store_one _ _ _ _ _ (by rw [hash_size h.2]; omega) rfl rfl, setL_hash, e, hashL, List.set_cons_succ, List.set_append_right _ _ (by simp; omega), List.set_append_left _ _ (by simp; omega)]
  have e2 : 8 + k - (List.map (fun x : UInt32 => Value.int .u32 (x.toNat : Int)) st).length = k := by simp; omega
  rw [e2]
  simp only [hashC, hashL, List.map_set]; rfl
theorem store_hashM (m : Int) (h : st.length = 8 ∧ rest.length = 64) : storeV (some (false, 1)) (some (.cells (hashC bg st rest many taken) E (0, 0))) 73 (vi m) = some (.cells (hashC bg st rest m taken) E (0, 0)) := by
  rw [store_one _ _ _ _ _ (by rw [hash_size h]; omega) rfl rfl, setL_hash, hashL, List.set_cons_succ, List.set_append_right _ _ (by simp; omega), List.set_append_right _ _ (by simp; omega)]
  simp [hashC, hashL, h]
theorem store_hashT (t : UInt64) (h : st.length = 8 ∧ rest.length = 64) : storeV (some (false, 1)) (some (.cells (hashC bg st rest many taken) E (0, 0))) 74 (v64 t) = some (.cells (hashC bg st rest many t) E (0, 0)) := by
  rw [store_one _ _ _ _ _ (by rw [hash_size h]; omega) rfl rfl, setL_hash, hashL, List.set_cons_succ, List.set_append_right _ _ (by simp; omega), List.set_append_right _ _ (by simp; omega)]
  simp [hashC, hashL, h]
theorem store_hashSt (st' : List UInt32) (h : st.length = 8 ∧ rest.length = 64 ∧ st'.length = 8) : storeV (some (true, 8)) (some (.cells (hashC bg st rest many taken) E (0, 0))) 1 (.agg (a32 st')) = some (.cells (hashC bg st' rest many taken) E (0, 0)) := by
  have hs : 1 + 8 ≤ (hashC bg st rest many taken).size := by rw [hash_size ⟨h.1, h.2.1⟩]; omega
  have hp : putC (hashC bg st rest many taken) 1 (a32 st').toList = hashC bg st' rest many taken := by
    have := putC_eq (a32 st').toList [.bool bg] (st.map fun x => Value.int .u32 (x.toNat : Int)) (rest.map (fun x => Value.int .u8 (x.toNat : Int)) ++ [vi many, v64 taken]) (by simp [a32, h])
    simpa [hashC, hashL, a32] using this
  have h1 : (a32 st').size = 8 := by rw [size_a32]; exact h.2.2
  simp only [storeV, cells_agg, h1, hs, Nat.le_refl, true_or, all_a32, and_self, ↓reduceIte, hp]
end

/-! ### Words, byte by byte -/
def acc (b : List UInt8) (i : Nat) : Nat → UInt32
  | 0 => 0
  | k + 1 => shl_u32 (acc b i k) 8 ||| UInt32.ofNat (b.getD (4 * i + k) 0).toNat
theorem acc_step (x : UInt32) (c : UInt8) (h : x.toNat < 16777216) : (shl_u32 x 8 ||| UInt32.ofNat c.toNat).toNat = x.toNat * 256 + c.toNat := by
  have hc := c.toNat_lt
  rw [UInt32.toNat_or, shl_u32, UInt32.toNat_ofNat', UInt32.toNat_ofNat', Nat.mod_eq_of_lt (by omega), Nat.mod_eq_of_lt (by omega), ← Nat.shiftLeft_eq, ← Nat.shiftLeft_add_eq_or_of_lt (by omega : c.toNat < 2 ^ 8), Nat.shiftLeft_eq]
theorem acc_four (b : List UInt8) (i : Nat) : acc b i 4 = wordR b i := by
  have h0 := (b.getD (4 * i) 0).toNat_lt
  have h1 := (b.getD (4 * i + 1) 0).toNat_lt
  have h2 := (b.getD (4 * i + 2) 0).toNat_lt
  have h3 := (b.getD (4 * i + 3) 0).toNat_lt
  have e1 : (acc b i 1).toNat = (b.getD (4 * i) 0).toNat := by
    have := acc_step 0 (b.getD (4 * i + 0) 0) (by decide)
    simpa [acc] using this
  have l1 : (acc b i 1).toNat < 16777216 := by omega
  have e2 : (acc b i 2).toNat = (acc b i 1).toNat * 256 + (b.getD (4 * i + 1) 0).toNat := acc_step _ _ l1
  have l2 : (acc b i 2).toNat < 16777216 := by omega
  have e3 : (acc b i 3).toNat = (acc b i 2).toNat * 256 + (b.getD (4 * i + 2) 0).toNat := acc_step _ _ l2
  have l3 : (acc b i 3).toNat < 16777216 := by omega
  have e4 : (acc b i 4).toNat = (acc b i 3).toNat * 256 + (b.getD (4 * i + 3) 0).toNat := acc_step _ _ l3
  apply UInt32.toNat.inj
  rw [e4, e3, e2, e1]
  unfold wordR
  simp only [UInt32.toNat_add, UInt32.toNat_mul, UInt32.toNat_ofNat']
  have k1 : (16777216 : UInt32).toNat = 16777216 := rfl
  have k2 : (65536 : UInt32).toNat = 65536 := rfl
  have k3 : (256 : UInt32).toNat = 256 := rfl
  rw [k1, k2, k3]
  omega
theorem wPre_set0 (b : List UInt8) (g : Nat) : wPre b g = (wPre b g).set g (acc b g 0) := by
  apply List.ext_getElem
  · simp
  intro k hk1 hk2
  rw [List.getElem_set]
  by_cases h : g = k
  · subst h; simp [wPre, acc]
  · rw [if_neg h]
theorem getD_set_same {α : Type} (l : List α) (i : Nat) (x d : α) (h : i < l.length) : (l.set i x).getD i d = x := by
  simp [List.getD_eq_getElem?_getD, h]

def wG (b : List UInt8) (g : Nat) : List UInt32 := wGo (wPre b 16) (g - 16)
theorem wG_length (b : List UInt8) (g : Nat) : (wG b g).length = 64 := by rw [wG, wGo_length, wPre_length]
theorem wG_succ (b : List UInt8) (g : Nat) (h : 16 ≤ g) : wG b (g + 1) = wStep (wG b g) g := by
  unfold wG
  have : g + 1 - 16 = (g - 16) + 1 := by omega
  rw [this]
  show wStep _ (16 + (g - 16)) = _
  rw [show 16 + (g - 16) = g from by omega]
theorem wG_all (b : List UInt8) : wG b 64 = wAll b := rfl
theorem wG_start (b : List UInt8) : wPre b 16 = wG b 16 := rfl

theorem ch_xor (a b c : UInt32) : (a &&& b ^^^ ~~~a &&& c) = (a &&& b ||| ~~~a &&& c) := by
  apply UInt32.toBitVec_inj.1
  simp only [UInt32.toBitVec_xor, UInt32.toBitVec_or, UInt32.toBitVec_and, UInt32.toBitVec_not]
  ext i hi
  simp only [BitVec.getElem_xor, BitVec.getElem_or, BitVec.getElem_and, BitVec.getElem_not]
  cases a.toBitVec[i] <;> simp
theorem maj_xor (a b c : UInt32) : (a &&& b ^^^ a &&& c ^^^ b &&& c) = (a &&& b ||| a &&& c ||| b &&& c) := by
  apply UInt32.toBitVec_inj.1
  simp only [UInt32.toBitVec_xor, UInt32.toBitVec_or, UInt32.toBitVec_and]
  ext i hi
  simp only [BitVec.getElem_xor, BitVec.getElem_or, BitVec.getElem_and]
  cases a.toBitVec[i] <;> cases b.toBitVec[i] <;> simp
/-- What the program knows of its tables. -/
def Glob (w : World) : Prop := ∃ e0 e1 f0 f1, w.heap[0]? = some (.cells (a32 initL) e0 f0) ∧ w.heap[1]? = some (.cells (a32 kL) e1 f1)
theorem Glob.of {w0 w : World} {L : Heap} (hg : Glob w0) (h : Hp w0 L w) (hk : ∀ b, b ∈ keys L → 1 < b) : Glob w := by
  obtain ⟨e0, e1, f0, f1, h0, h1⟩ := hg
  refine ⟨e0, e1, f0, f1, ?_, ?_⟩
  · rw [h.old 0 (Array.getElem?_eq_some_iff.1 h0).1 (fun hm => by have := hk 0 hm; omega)]; exact h0
  · rw [h.old 1 (Array.getElem?_eq_some_iff.1 h1).1 (fun hm => by have := hk 1 hm; omega)]; exact h1

/-! ### A hash that takes bytes -/
structure Hs where
  st : List UInt32
  rest : List UInt8
  many : Nat
structure Hs.Ok (s : Hs) : Prop where
  st : s.st.length = 8
  rest : s.rest.length = 64
  many : s.many < 64
def hput (s : Hs) (x : UInt8) : Hs :=
  if s.many + 1 = 64 then ⟨comp s.st (s.rest.set s.many x), s.rest.set s.many x, 0⟩ else ⟨s.st, s.rest.set s.many x, s.many + 1⟩
theorem hput_ok {s : Hs} (x : UInt8) (h : s.Ok) : (hput s x).Ok := by
  unfold hput
  split
  · exact ⟨comp_length _ _, by simp [h.rest], by show (0 : Nat) < 64; omega⟩
  · exact ⟨h.st, by simp [h.rest], by show s.many + 1 < 64; have := h.many; omega⟩
def hputs (s : Hs) (l : List UInt8) : Hs := l.foldl hput s
theorem hputs_ok {s : Hs} (l : List UInt8) (h : s.Ok) : (hputs s l).Ok := by
  induction l generalizing s with
  | nil => exact h
  | cons x r ih => exact ih (hput_ok x h)
theorem hputs_append (s : Hs) (a b : List UInt8) : hputs s (a ++ b) = hputs (hputs s a) b := List.foldl_append
theorem take_succ_getD {α : Type} (l : List α) (g : Nat) (d : α) (h : g < l.length) : l.take (g + 1) = l.take g ++ [l.getD g d] := by
  rw [List.take_add_one]
  simp [List.getD_eq_getElem?_getD, h]
theorem hputs_succ (s : Hs) (l : List UInt8) (g : Nat) (h : g < l.length) : hputs s (l.take (g + 1)) = hput (hputs s (l.take g)) (l.getD g 0) := by
  rw [take_succ_getD l g 0 h, hputs_append]; rfl
/-- The hash before the first byte. -/
def hbegin (bg : Bool) (s : Hs) : Hs := if bg then s else { s with st := initL }
theorem hbegin_ok {s : Hs} (bg : Bool) (h : s.Ok) : (hbegin bg s).Ok := by
  unfold hbegin; split
  · exact h
  · exact ⟨rfl, h.rest, h.many⟩
def hashH (s : Hs) (taken : UInt64) : Array Value := hashC true s.st s.rest s.many taken
def takenL (t : UInt64) (l : List (List UInt8)) : UInt64 := l.foldl (fun t a => t + UInt64.ofNat a.length) t
theorem takenL_succ (t : UInt64) (l : List (List UInt8)) (g : Nat) (h : g < l.length) : takenL t (l.take (g + 1)) = takenL t (l.take g) + UInt64.ofNat (l.getD g []).length := by
  rw [take_succ_getD l g [] h, takenL, List.foldl_append]; rfl
theorem flatten_succ (l : List (List UInt8)) (g : Nat) (h : g < l.length) : (l.take (g + 1)).flatten = (l.take g).flatten ++ l.getD g [] := by
  rw [take_succ_getD l g [] h, List.flatten_append]; simp
theorem loadV_one (cs : Array Value) (E : TypeId) (fz : Nat × Nat) (n i : Nat) : loadV (some (false, n)) (some (.cells cs E fz)) i = cs[i]? := (rfl)
/-- A slice of texts in a world. -/
structure Strs (w : World) (v : Value) (l : List (List UInt8)) : Prop where
  nil_or : (l = [] ∧ v = .slice none 0 0) ∨ ∃ b off c arr E fz, v = vsl b off l.length c ∧ w.heap[b]? = some (.cells arr E fz) ∧ ∀ i, i < l.length → arr[off + i]? = some (vs (l.getD i []))
end Go.Dig
section
open Go Go.Proofs Go.Sx Go.Dig
namespace Go.Proofs
set_option maxRecDepth 10000
set_option maxHeartbeats 4000000
set_option linter.unusedSimpArgs false
/-- What the program knows of its tables. -/
def GlobE (w : World) : Prop := ∃ e0 e1 f0 f1, w.heap[2]? = some (.cells (a32 initL) e0 f0) ∧ w.heap[3]? = some (.cells (a32 kL) e1 f1)
theorem GlobE.of {w0 w : World} {L : Heap} (hg : GlobE w0) (h : Hp w0 L w) (hk : ∀ b, b ∈ keys L → 3 < b) : GlobE w := by
  obtain ⟨e0, e1, f0, f1, h0, h1⟩ := hg
  refine ⟨e0, e1, f0, f1, ?_, ?_⟩
  · rw [h.old _ (Array.getElem?_eq_some_iff.1 h0).1 (fun hm => by have := hk _ hm; omega)]; exact h0
  · rw [h.old _ (Array.getElem?_eq_some_iff.1 h1).1 (fun hm => by have := hk _ hm; omega)]; exact h1
theorem rotl_spec (x : UInt32) (k : Int) (w : World) : Rets Tryz.prog 243 #[v32 x, vi k] w (fun v D => v = v32 (rol x k) ∧ D = []) := by
  refine Rets.enterV Tryz.func243 rfl (rs := [.tmp 4]) Tryz.results243 Tryz.ntmps243 ?_
  refine kf ?_
  first | with_reducible refine ks [] @Nat.add_zero ?_ | refine kp @Nat.add_zero ?_
  refine ⟨_, (ke @Nat.add_zero), trivial, ?_⟩
  rfl
theorem right_spec (x : UInt32) (n : UInt64) (w : World) : Rets Tryz.prog 190 #[v32 x, v64 n] w (fun v D => v = v32 (rgt x n) ∧ D = []) := by
  refine Rets.enterV Tryz.func190 rfl (rs := [.tmp 4]) Tryz.results190 Tryz.ntmps190 ?_
  refine kf ?_
  first | with_reducible refine ks [] @Nat.add_zero ?_ | refine kp @Nat.add_zero ?_
  refine ⟨_, (ke @Nat.add_zero), trivial, ?_⟩
  rfl
theorem turn_spec (x : UInt32) (a b c : Int) (ha : 0 ≤ a ∧ a ≤ 64) (hb : 0 ≤ b ∧ b ≤ 64) (hc : 0 ≤ c ∧ c ≤ 64) (w : World) : Rets Tryz.prog 239 #[v32 x, vi a, vi b, vi c] w (fun v D => v = v32 (turnV x a b c) ∧ D = []) := by
  refine Rets.enterV Tryz.func239 rfl (rs := [.tmp 8]) Tryz.results239 Tryz.ntmps239 ?_
  refine kf ?_
  first | with_reducible refine ks [] @Nat.add_zero ?_ | refine kp @Nat.add_zero ?_
  refine Cw.regionO [0, 1, 2, 4, 5, 6, 9, 10, 11, 3, 7, 8, 12, 13] [] rfl (by kernel_rfl) (by kernel_rfl) ?_
  simp only [nl_cons, ↓pickL_nil, ↓pickL_cons, ↓nthO_0, ↓nthO_s, consO_some]
  refine kq @Nat.add_zero ?_
  refine Ow.callFV rfl Tryz.call243 (fun w' hw' => rotl_spec _ _ w') ?_
  refine kq @Nat.add_zero ?_
  refine Ow.callFV rfl Tryz.call243 (fun w' hw' => rotl_spec _ _ w') ?_
  refine kq @Nat.add_zero ?_
  first | with_reducible refine ks [] @Nat.add_zero ?_ | refine kp @Nat.add_zero ?_
  refine ⟨_, (ke @Nat.add_zero), trivial, ?_⟩
  rfl
theorem spin_spec (x : UInt32) (a b c : Int) (ha : 0 ≤ a ∧ a ≤ 64) (hb : 0 ≤ b ∧ b ≤ 64) (hc : 0 ≤ c ∧ c ≤ 64) (w : World) : Rets Tryz.prog 240 #[v32 x, vi a, vi b, vi c] w (fun v D => v = v32 (spinV x a b c) ∧ D = []) := by
  refine Rets.enterV Tryz.func240 rfl (rs := [.tmp 8]) Tryz.results240 Tryz.ntmps240 ?_
  refine kf ?_
  first | with_reducible refine ks [] @Nat.add_zero ?_ | refine kp @Nat.add_zero ?_
  refine Ow.callFV rfl Tryz.call243 (fun w' hw' => rotl_spec _ _ w') ?_
  refine ko @Nat.add_zero ?_
  refine Ow.callFV rfl Tryz.call243 (fun w' hw' => rotl_spec _ _ w') ?_
  refine ko @Nat.add_zero ?_
  refine Ow.callFV rfl Tryz.call243 (fun w' hw' => rotl_spec _ _ w') ?_
  refine ko @Nat.add_zero ?_
  first | with_reducible refine ks [] @Nat.add_zero ?_ | refine kp @Nat.add_zero ?_
  refine ⟨_, (ke @Nat.add_zero), trivial, ?_⟩
  rfl
theorem rounds_spec (w : World) : Rets Tryz.prog 191 #[] w (fun v D => v = .agg (a32 kL) ∧ D = []) := by
  refine Rets.enterV Tryz.func191 rfl (rs := [.cell 0 274]) Tryz.results191 Tryz.ntmps191 ?_
  refine kf ?_
  first | with_reducible refine ks [] @Nat.add_zero ?_ | refine kp @Nat.add_zero ?_
  have hkl : kL.length = 64 := rfl
  refine Ow.alloc rfl rfl Tryz.zr274 fun b1 _ hw1 => ?_
  refine ko @Nat.add_zero ?_
  first | with_reducible refine ks [] @Nat.add_zero ?_ | refine kp @Nat.add_zero ?_
  refine Ow.build (.agg (a32 kL)) rfl (by kernel_rfl) ?_
  refine ko @Nat.add_zero ?_
  first | with_reducible refine ks [] @Nat.add_zero ?_ | refine kp @Nat.add_zero ?_
  refine ⟨_, (ke @Nat.add_zero), ⟨hw1, trivial⟩, ?_⟩
  rfl
end Go.Proofs
end
section
open Go Go.Proofs Go.Sx Go.Dig
namespace Go.Proofs
set_option maxRecDepth 10000
set_option maxHeartbeats 4000000
set_option linter.unusedSimpArgs false
set_option linter.defProp false
def uE3_1 := And.intro (And.intro (And.intro (And.intro (@load_hash0) (@load_hashS)) (And.intro (@load_hashR) (@load_hashR2))) (And.intro (And.intro (@load_hashM) (@load_hashT)) (And.intro (@load_hashSt) (@load_hashAll)))) (And.intro (And.intro (And.intro (@store_hashAll) (@store_hash0)) (And.intro (@store_hashS) (@store_hashR))) (And.intro (And.intro (@store_hashM) (@store_hashT)) (And.intro (@store_hashSt) (@getD_set_same))))
theorem take_spec (b : Nat) (bg : Bool) (st : List UInt32) (rest : List UInt8) (many : Int) (taken : UInt64) (w : World) (hG : GlobE w) (hb : 3 < b) (hs : st.length = 8) (hr : rest.length = 64)
    (ho : w.heap[b]? = some (.cells (hashC bg st rest many taken) 260 (0, 0))) :
    Rets Tryz.prog 232 #[vp b 0] w (fun v D => ∃ o, D = [(b, o)] ∧ v = .tuple #[] ∧ o = .cells (hashC bg (comp st rest) rest 0 taken) 260 (0, 0)) := by
  obtain ⟨e0, e1, f0, f1, h0, h1⟩ := hG
  have hbl := (Array.getElem?_eq_some_iff.1 ho).1
  have hkl : kL.length = 64 := rfl
  refine Rets.enterM Tryz.func232 rfl (rs := []) Tryz.results232 Tryz.ntmps232 ho ?_
  refine kf ?_
  first | with_reducible refine ks [] uE3_1 ?_ | refine kp uE3_1 ?_
  refine Ow.alloc rfl rfl Tryz.zr274 fun b1 hb1 hw1 => ?_
  obtain ⟨h01, -⟩ := hb1
  refine ko uE3_1 ?_
  first | with_reducible refine ks [] uE3_1 ?_ | refine kp uE3_1 ?_
  rw [← wPre_zero rest]
  refine Cw.loopG (G := Nat) [14, 15, 3, 16, 17, 18, 19, 20, 21, 22, 23, 24, 25, 26, 27, 28, 29, 5, 30, 31, 32, 33, 34, 35, 36, 37, 38, 39, 40, 13] (fun g => [(13, vi g)]) (fun g => [(b, .cells (hashC bg st rest many taken) 260), (b1, .cells (a32 (wPre rest g)) 274)]) (fun g => g ≤ 16) (fun g => 16 - g) 0 rfl rfl ?_ ?_
  · omega
  intro g j hg
  refine kv ?_
  have hlen := wPre_length rest g
  by_cases hlt : g < 16
  · first | with_reducible refine ks [] uE3_1 ?_ | refine kp uE3_1 ?_
    rw [wPre_set0 rest g]
    refine Cw.loopG (G := Nat) [27, 28, 29, 5, 30, 31, 32, 33, 34, 35, 36, 37, 38, 39, 26] (fun k => [(26, vi k)]) (fun k => [(b, .cells (hashC bg st rest many taken) 260 (0, 0)), (b1, .cells (a32 ((wPre rest g).set g (acc rest g k))) 274 (0, 0))]) (fun k => k ≤ 4) (fun k => 4 - k) 0 rfl rfl ?_ ?_
    · omega
    intro k jk hk
    refine kv ?_
    by_cases hk4 : k < 4
    · first | with_reducible refine ks [] uE3_1 ?_ | refine kp uE3_1 ?_
      exact Again.mk (k + 1) (by omega) (by omega) rfl rfl
    · have hk : k = 4 := by omega
      subst hk
      first | with_reducible refine ks [] uE3_1 ?_ | refine kp uE3_1 ?_
      refine Again.mk (g + 1) (by omega) (by omega) ?_ rfl
      rw [acc_four, wPre_succ]
  · have hg16 : g = 16 := by omega
    subst hg16
    first | with_reducible refine ks [] uE3_1 ?_ | refine kp uE3_1 ?_
    rw [wG_start]
    refine Cw.loopG (G := Nat) [41, 42, 45, 46, 47, 48, 49, 50, 51, 52, 53, 54, 55, 56, 57, 58, 59, 60, 61, 62, 63, 64, 65, 66, 67, 43, 44, 6] (fun g => [(6, vi g)]) (fun g => [(b, .cells (hashC bg st rest many taken) 260 (0, 0)), (b1, .cells (a32 (wG rest g)) 274)]) (fun g => 16 ≤ g ∧ g ≤ 64) (fun g => 64 - g) 16 rfl rfl ?_ ?_
    · omega
    intro g j hg
    refine kv ?_
    obtain ⟨hg1, hg2⟩ := hg
    have hlen := wG_length rest g
    by_cases hlt : g < 64
    · first | with_reducible refine ks [] uE3_1 ?_ | refine kp uE3_1 ?_
      refine Cw.regionO [0, 1, 2, 3, 6, 7, 8, 11, 12, 13, 17, 18, 19, 4, 9, 14, 20, 5, 10, 15, 16, 21, 22, 23] [23] rfl (by kernel_rfl) (by kernel_rfl) ?_
      simp only [nl_cons, ↓pickL_nil, ↓pickL_cons, ↓nthO_0, ↓nthO_s, consO_some]
      refine kq uE3_1 ?_
      refine Ow.callFV rfl Tryz.call239 (fun w' hw' => turn_spec _ _ _ _ (by omega) (by omega) (by omega) w') ?_
      refine kq uE3_1 ?_
      refine Ow.callFV rfl Tryz.call239 (fun w' hw' => turn_spec _ _ _ _ (by omega) (by omega) (by omega) w') ?_
      refine kq uE3_1 ?_
      refine Ow.store rfl rfl rfl (ke uE3_1) ?_
      refine ko uE3_1 ?_
      first | with_reducible refine ks [] uE3_1 ?_ | refine kp uE3_1 ?_
      refine Again.mk (g + 1) (by omega) (by omega) ?_ rfl
      rw [wG_succ rest g hg1, turn1, turn0]; rfl
    · have hg64 : g = 64 := by omega
      subst hg64
      rw [wG_all]
      have hwl := wAll_length rest
      first | with_reducible refine ks [] (And.intro uE3_1 @h1) ?_ | refine kp (And.intro uE3_1 @h1) ?_
      refine Ow.alloc rfl rfl Tryz.zr244 fun b2 hb2 hw2 => ?_
      obtain ⟨h02, h12, -⟩ := hb2
      refine ko (And.intro uE3_1 @h1) ?_
      first | with_reducible refine ks [] (And.intro uE3_1 @h1) ?_ | refine kp (And.intro uE3_1 @h1) ?_
      refine Cw.loopG (G := Nat) [74, 75, 76, 8, 9, 77, 78, 79, 80, 81, 82, 83, 84, 85, 86, 87, 88, 89, 90, 91, 92, 93, 94, 95, 96, 97, 98, 99, 100, 101, 10, 102, 103, 104, 105, 106, 107, 108, 109, 110, 111, 112, 113, 114, 115, 116, 117, 118, 119, 120, 121, 122, 11, 123, 124, 125, 126, 127, 128, 129, 130, 131, 132, 133, 134, 135, 136, 137, 138, 139, 140, 141, 142, 143, 73] (fun g => [(73, vi g)]) (fun g => [(b, .cells (hashC bg st rest many taken) 260 (0, 0)), (b1, .cells (a32 (wAll rest)) 274), (b2, .cells (a32 (rGo st (wAll rest) g)) 244)]) (fun g => g ≤ 64) (fun g => 64 - g) 0 rfl rfl ?_ ?_
      · omega
      · intro g j hg
        refine kv ?_
        have hrl := rGo_length st (wAll rest) g hs
        by_cases hlt : g < 64
        · first | with_reducible refine ks [] uE3_1 ?_ | refine kp uE3_1 ?_
          refine Cw.regionO [0, 2, 6, 8, 11, 14, 19, 21, 22, 1, 3, 7, 9, 10, 12, 13, 15, 16, 17, 23, 4, 5, 18, 20, 24, 25] [] rfl (by kernel_rfl) (by kernel_rfl) ?_
          simp only [nl_cons, ↓pickL_nil, ↓pickL_cons, ↓nthO_0, ↓nthO_s, consO_some]
          refine kq uE3_1 ?_
          refine Ow.callFV rfl Tryz.call240 (fun w' hw' => spin_spec _ _ _ _ (by omega) (by omega) (by omega) w') ?_
          refine kq uE3_1 ?_
          first | with_reducible refine ks [] uE3_1 ?_ | refine kp uE3_1 ?_
          refine Cw.regionO [0, 3, 5, 8, 10, 14, 16, 1, 4, 6, 7, 9, 11, 12, 13, 15, 17, 18, 19, 2, 20, 21] [] rfl (by kernel_rfl) (by kernel_rfl) ?_
          simp only [nl_cons, ↓pickL_nil, ↓pickL_cons, ↓nthO_0, ↓nthO_s, consO_some]
          refine kq uE3_1 ?_
          refine Ow.callFV rfl Tryz.call240 (fun w' hw' => spin_spec _ _ _ _ (by omega) (by omega) (by omega) w') ?_
          refine kq uE3_1 ?_
          first | with_reducible refine ks [] uE3_1 ?_ | refine kp uE3_1 ?_
          rw [spin1, spin0, ch_xor, maj_xor]
          refine Ow.build (.agg (a32 (rStep (rGo st (wAll rest) g) (kL.getD g 0) ((wAll rest).getD g 0)))) rfl (by kernel_rfl) ?_
          have hrl2 : (rStep (rGo st (wAll rest) g) (kL.getD g 0) ((wAll rest).getD g 0)).length = 8 := rfl
          refine ko uE3_1 ?_
          first | with_reducible refine ks [] uE3_1 ?_ | refine kp uE3_1 ?_
          exact Again.mk (g + 1) (by omega) (by omega) rfl rfl
        · have hg64 : g = 64 := by omega
          subst hg64
          first | with_reducible refine ks [] uE3_1 ?_ | refine kp uE3_1 ?_
          rw [← addPre_zero st (rGo st (wAll rest) 64) hs]
          refine Cw.loopG (G := Nat) [145, 146, 12, 147, 148, 149, 150, 151, 152, 153, 154, 155, 156, 157, 158, 159, 160, 144] (fun k => [(144, vi k)]) (fun k => [(b, .cells (hashC bg (addPre st (rGo st (wAll rest) 64) k) rest many taken) 260 (0, 0)), (b1, .cells (a32 (wAll rest)) 274), (b2, .cells (a32 (rGo st (wAll rest) 64)) 244)]) (fun k => k ≤ 8) (fun k => 8 - k) 0 rfl rfl ?_ ?_
          · omega
          intro k jk hk
          refine kv ?_
          have hal := addPre_length st (rGo st (wAll rest) 64) k
          by_cases hk8 : k < 8
          · first | with_reducible refine ks [] uE3_1 ?_ | refine kp uE3_1 ?_
            refine Cw.regionO [0, 1, 2, 3, 4, 6, 7, 10, 11, 5, 8, 9, 12, 13] [13] rfl (by kernel_rfl) (by kernel_rfl) ?_
            simp only [nl_cons, ↓pickL_nil, ↓pickL_cons, ↓nthO_0, ↓nthO_s, consO_some]
            refine kq uE3_1 ?_
            refine Ow.store rfl rfl rfl (ke uE3_1) ?_
            refine ko uE3_1 ?_
            first | with_reducible refine ks [] uE3_1 ?_ | refine kp uE3_1 ?_
            refine Again.mk (k + 1) (by omega) (by omega) ?_ rfl
            rw [← addPre_succ, addPre_get _ _ _ _ (by omega), if_neg (by omega)]
          · have hk8' : k = 8 := by omega
            subst hk8'
            first | with_reducible refine ks [] uE3_1 ?_ | refine kp uE3_1 ?_
            refine ⟨_, _, _, (ke uE3_1), rfl, ⟨hw1, hw2, trivial⟩, ?_⟩
            exact ⟨rfl, rfl⟩
end Go.Proofs
end
section
open Go Go.Proofs Go.Sx Go.Dig
namespace Go.Proofs
set_option maxRecDepth 10000
set_option maxHeartbeats 1000000
set_option linter.unusedSimpArgs false
theorem ofInt_nat (n : Nat) : UInt64.ofInt (n : Int) = UInt64.ofNat n := by
  apply UInt64.toNat.inj
  rw [show UInt64.ofInt (n : Int) = UInt64.ofNat ((n : Int) % 2 ^ 64).toNat from rfl, UInt64.toNat_ofNat', UInt64.toNat_ofNat']
  omega
theorem nil45 (b o : Nat) : binX Tryz.prog .eql 295 (vp b o) (.pointer none) = some (.bool false) := by
  simp [binX, eqX, plainV, eqNilV, Tryz.underlying295, vp]
theorem nil45' : binX Tryz.prog .eql 295 (.pointer none) (.pointer none) = some (.bool true) := by
  simp [binX, eqX, plainV, eqNilV, Tryz.underlying295]
theorem nil45n (b o : Nat) : binX Tryz.prog .neq 295 (vp b o) (.pointer none) = some (.bool true) := by
  simp [binX, eqX, plainV, eqNilV, Tryz.underlying295, vp]
theorem nil45n' : binX Tryz.prog .neq 295 (.pointer none) (.pointer none) = some (.bool false) := by
  simp [binX, eqX, plainV, eqNilV, Tryz.underlying295]
set_option linter.defProp false
def uE4_1 := And.intro (And.intro (And.intro (And.intro (@load_hash0) (@load_hashS)) (And.intro (@load_hashR) (And.intro (@load_hashR2) (@load_hashM)))) (And.intro (And.intro (@load_hashT) (@load_hashSt)) (And.intro (@load_hashAll) (And.intro (@store_hashAll) (@store_hash0))))) (And.intro (And.intro (And.intro (@store_hashS) (@store_hashR)) (And.intro (@store_hashM) (And.intro (@store_hashT) (@store_hashSt)))) (And.intro (And.intro (@getD_set_same) (@nil45)) (And.intro (@nil45') (And.intro (@nil45n) (@nil45n')))))
theorem begin_spec (b : Nat) (bg : Bool) (st : List UInt32) (rest : List UInt8) (many : Int) (taken : UInt64) (w : World) (hG : GlobE w) (hb : 3 < b) (hs : st.length = 8) (hr : rest.length = 64)
    (ho : w.heap[b]? = some (.cells (hashC bg st rest many taken) 260 (0, 0))) :
    Rets Tryz.prog 214 #[vp b 0] w (fun v D => ∃ o, D = [(b, o)] ∧ v = .tuple #[] ∧ o = .cells (hashC true (if bg then st else initL) rest many taken) 260 (0, 0)) := by
  obtain ⟨e0, e1, f0, f1, h0, h1⟩ := hG
  have hil : initL.length = 8 := rfl
  refine Rets.enterM Tryz.func214 rfl (rs := []) Tryz.results214 Tryz.ntmps214 ho ?_
  refine kf ?_
  cases bg
  · first | with_reducible refine ks [] (And.intro uE4_1 @h0) ?_ | refine kp (And.intro uE4_1 @h0) ?_
    refine ⟨_, _, _, (ke uE4_1), rfl, trivial, ?_⟩
    exact ⟨rfl, rfl⟩
  · first | with_reducible refine ks [] (And.intro uE4_1 @h0) ?_ | refine kp (And.intro uE4_1 @h0) ?_
    refine ⟨_, _, _, (ke uE4_1), rfl, trivial, ?_⟩
    exact ⟨rfl, rfl⟩
theorem put_spec (b : Nat) (s : Hs) (taken : UInt64) (x : UInt8) (w : World) (hG : GlobE w) (hb : 3 < b) (hs : s.Ok)
    (ho : w.heap[b]? = some (.cells (hashH s taken) 260 (0, 0))) :
    Rets Tryz.prog 215 #[vp b 0, v8 x] w (fun v D => ∃ o, D = [(b, o)] ∧ v = .tuple #[] ∧ o = .cells (hashH (hput s x) taken) 260 (0, 0)) := by
  obtain ⟨st, rest, many⟩ := s
  obtain ⟨hst, hrt, hmn⟩ := hs
  simp only [hashH] at ho hst hrt hmn ⊢
  refine Rets.enterM Tryz.func215 rfl (rs := []) Tryz.results215 Tryz.ntmps215 ho ?_
  refine kf ?_
  first | with_reducible refine ks [] uE4_1 ?_ | refine kp uE4_1 ?_
  refine Cw.regionO [0, 1, 2, 3, 5, 6, 7, 4, 8, 9] [9] rfl (by kernel_rfl) (by kernel_rfl) ?_
  simp only [nl_cons, ↓pickL_nil, ↓pickL_cons, ↓nthO_0, ↓nthO_s, consO_some]
  refine kq uE4_1 ?_
  refine Ow.store rfl rfl rfl (ke uE4_1) ?_
  refine ko uE4_1 ?_
  first | with_reducible refine ks [] uE4_1 ?_ | refine kp uE4_1 ?_
  unfold hput
  by_cases h64 : many + 1 = 64
  · simp only [h64, ↓reduceIte]
    have h64' : (many : Int) + 1 = 64 := by omega
    have h63 : many = 63 := by omega
    subst h63
    rw [cd_it _ _ _ _ _ _ (by omega)]
    first | with_reducible refine ks [] uE4_1 ?_ | refine kp uE4_1 ?_
    refine Ow.callM rfl rfl Tryz.call232 (by simp [keys]) (fun w' hw' => take_spec _ _ _ _ _ _ w' (GlobE.of hG hw' (by simp [keys]; omega)) hb hst (by simp [hrt]) (hw'.has _ _ List.mem_cons_self)) ?_
    refine ko uE4_1 ?_
    first | with_reducible refine ks [] uE4_1 ?_ | refine kp uE4_1 ?_
    refine ⟨_, _, _, (ke uE4_1), rfl, trivial, ?_⟩
    exact ⟨rfl, rfl⟩
  · rw [cd_if _ _ _ _ _ _ (by omega)]
    simp only [h64, ↓reduceIte]
    first | with_reducible refine ks [] uE4_1 ?_ | refine kp uE4_1 ?_
    refine ⟨_, _, _, (ke uE4_1), rfl, trivial, ?_⟩
    exact ⟨rfl, by rw [if_neg h64]; simp⟩
theorem write_spec1 (b : Nat) (bg : Bool) (s : Hs) (taken : UInt64) (x : Value) (b2 off : Nat) (l : List (List UInt8)) (arr : Array Value) (E : TypeId) (fz : Nat × Nat) (w : World) (hG : GlobE w) (hb : 3 < b) (hs : s.Ok) (hne : 0 < l.length → b ≠ b2)
    (hS : StrS w x l b2 off arr E fz) (hn : l.length < 1099511627776) (hz : ∀ i, i < l.length → (l.getD i []).length < 1099511627776)
    (ho : w.heap[b]? = some (.cells (hashC bg s.st s.rest s.many taken) 260 (0, 0))) :
    Rets Tryz.prog 180 #[vp b 0, x] w (fun v D => ∃ o, D = [(b, o)] ∧ v = .tuple #[] ∧ o = .cells (hashH (hputs (hbegin bg s) l.flatten) (takenL taken l)) 260 (0, 0)) := by
  obtain ⟨e0, e1, f0, f1, h0, h1⟩ := id hG
  obtain ⟨st, rest, many⟩ := s
  obtain ⟨hst, hrt, hmn⟩ := id hs
  simp only [hashH] at ho hst hrt hmn ⊢
  refine Rets.enterM Tryz.func180 rfl (rs := []) Tryz.results180 Tryz.ntmps180 ho ?_
  refine kf ?_
  first | with_reducible refine ks [] uE4_1 ?_ | refine kp uE4_1 ?_
  refine Ow.callM rfl rfl Tryz.call214 (by simp [keys]) (fun w' hw' => begin_spec _ _ _ _ _ _ w' (GlobE.of hG hw' (by simp [keys]; omega)) hb hst hrt (hw'.has _ _ List.mem_cons_self)) ?_
  refine ko uE4_1 ?_
  ((try with_reducible refine Cw.go [] ?_); (try simp (disch := (first | assumption | omega | (simp only [lenS, lenT, UInt64.reduceToNat]; try omega))) only [↓Sx.S0, Sx.S1, Tryz.fx, uE4_1, Nat.reduceAdd, Nat.reducePow, Int.reducePow, Nat.reduceBEq, ↓reduceIte, UInt8.reduceToNat, UInt16.reduceToNat, UInt32.reduceToNat, UInt64.reduceToNat, Int.reduceToNat, hS.len]))
  have e : hashC true (if bg = true then st else initL) rest many taken = hashH (hputs (hbegin bg ⟨st, rest, many⟩) (l.take 0).flatten) (takenL taken (l.take 0)) := by cases bg <;> rfl
  rw [e]
  have hok0 := hbegin_ok bg hs
  generalize hbegin bg ⟨st, rest, many⟩ = S0 at *
  refine Cw.loopG (G := Nat) [14, 15, 16, 5, 17, 18, 19, 20, 21, 6, 22, 23, 24, 25, 26, 27, 28, 29, 30, 31, 32, 33, 34, 35, 36, 37, 38, 13] (fun g => [(13, vi g)]) (fun g => [(b, .cells (hashH (hputs S0 (l.take g).flatten) (takenL taken (l.take g))) 260 (0, 0))]) (fun g => g ≤ l.length) (fun g => l.length - g) 0 rfl rfl ?_ ?_
  · omega
  intro g j hg
  refine kv ?_
  by_cases hlt : g < l.length
  · have hlg := hS.get g hlt
    have hb2 := hS.has (by omega)
    have hne2 := hne (by omega)
    have hzg := hz g hlt
    ((try with_reducible refine Cw.go [] ?_); (try simp (disch := (first | assumption | omega | (simp only [lenS, lenT, UInt64.reduceToNat]; try omega))) only [↓Sx.S0, Sx.S1, Tryz.fx, uE4_1, Nat.reduceAdd, Nat.reducePow, Int.reducePow, Nat.reduceBEq, ↓reduceIte, UInt8.reduceToNat, UInt16.reduceToNat, UInt32.reduceToNat, UInt64.reduceToNat, Int.reduceToNat, Sx.loadV_one, hb2, hlg, hS.idx]))
    have hok := hputs_ok (l.take g).flatten hok0
    rw [show hashH (hputs S0 (l.take g).flatten) (takenL taken (l.take g)) = hashH (hputs (hputs S0 (l.take g).flatten) ((l.getD g []).take 0)) (takenL taken (l.take g)) from rfl]
    refine Cw.loopG (G := Nat) [20, 21, 6, 22, 23, 24, 25, 26, 27, 19] (fun k => [(19, vi k)]) (fun k => [(b, .cells (hashH (hputs (hputs S0 (l.take g).flatten) ((l.getD g []).take k)) (takenL taken (l.take g))) 260 (0, 0))]) (fun k => k ≤ (l.getD g []).length) (fun k => (l.getD g []).length - k) 0 rfl rfl ?_ ?_
    · omega
    intro k jk hk
    refine kv ?_
    by_cases hlk : k < (l.getD g []).length
    · first | with_reducible refine ks [] uE4_1 ?_ | refine kp uE4_1 ?_
      refine Ow.callM rfl rfl Tryz.call215 (by simp [keys]) (fun w' hw' => put_spec _ _ _ _ w' (GlobE.of hG hw' (by simp [keys]; omega)) hb (hputs_ok _ hok) (hw'.has _ _ List.mem_cons_self)) ?_
      refine ko uE4_1 ?_
      first | with_reducible refine ks [] uE4_1 ?_ | refine kp uE4_1 ?_
      refine Again.mk (k + 1) (by omega) (by omega) ?_ rfl
      rw [hputs_succ _ _ _ hlk]
    · have hke : k = (l.getD g []).length := by omega
      subst hke
      have hok2 := hputs_ok (l.getD g []) hok
      have hok3 := hok2.st
      have hok4 := hok2.rest
      rw [List.take_length]
      unfold hashH
      first | with_reducible refine ks [] uE4_1 ?_ | refine kp uE4_1 ?_
      refine Again.mk (g + 1) (by omega) (by omega) ?_ rfl
      rw [flatten_succ _ _ hlt, hputs_append, takenL_succ _ _ _ hlt, show UInt64.ofInt ((l.getD g []).length : Int) = UInt64.ofNat (l.getD g []).length from ofInt_nat _]
  · have hge : g = l.length := by omega
    subst hge
    first | with_reducible refine ks [] uE4_1 ?_ | refine kp uE4_1 ?_
    rw [List.take_length]
    refine ⟨_, _, _, (ke uE4_1), rfl, trivial, ?_⟩
    exact ⟨rfl, rfl⟩
end Go.Proofs
end
namespace Go.Dig
open Go.Sx
/-- The places that are filled with noughts. -/
def zeros (m : Nat) : Nat := (120 - m) % 64
def lenB (t : UInt64) (g : Nat) : UInt8 := UInt8.ofNat (shr_u64 (8 * t) (56 - 8 * g)).toNat
def len8 (t : UInt64) : List UInt8 := (List.range 8).map (lenB t)
def outB (st : List UInt32) (j : Nat) : UInt8 := UInt8.ofNat (shr_u32 (st.getD (j / 4) 0) (24 - 8 * (j % 4))).toNat
def outPre (st : List UInt32) (k : Nat) : List UInt8 := (List.range 32).map fun j => if j < k then outB st j else 0
def padded (s : Hs) (taken : UInt64) : Hs := hputs (hputs (hput s 128) (List.replicate (zeros (hput s 128).many) 0)) (len8 taken)
def hsum (s : Hs) (taken : UInt64) : List UInt8 := outPre (padded s taken).st 32
def H0 : Hs := ⟨initL, List.replicate 64 0, 0⟩
theorem H0_ok : H0.Ok := ⟨rfl, by simp [H0], by show (0 : Nat) < 64; omega⟩
def sumV (l : List (List UInt8)) : List UInt8 := hsum (hputs H0 l.flatten) (takenL 0 l)
theorem hput_many {s : Hs} (x : UInt8) (h : s.Ok) : (hput s x).many = (s.many + 1) % 64 := by
  have := h.many
  unfold hput
  split
  · show 0 = _; omega
  · show s.many + 1 = _; omega
theorem hputs_many {s : Hs} (l : List UInt8) (h : s.Ok) : (hputs s l).many = (s.many + l.length) % 64 := by
  induction l generalizing s with
  | nil => have := h.many; show s.many = _; simp; omega
  | cons x r ih =>
    show (hputs (hput s x) r).many = _
    rw [ih (hput_ok x h), hput_many x h, List.length_cons]; omega
theorem hputs_rep (s : Hs) (x : UInt8) (j : Nat) : hputs s (List.replicate (j + 1) x) = hput (hputs s (List.replicate j x)) x := by
  rw [List.replicate_succ', hputs_append]; rfl
theorem outPre_length (st : List UInt32) (k : Nat) : (outPre st k).length = 32 := by simp [outPre]
theorem outPre_zero (st : List UInt32) : outPre st 0 = List.replicate 32 0 := by
  apply List.ext_getElem
  · simp [outPre]
  intro k hk1 hk2
  simp only [outPre, List.getElem_map, List.getElem_range, List.getElem_replicate]
  rw [if_neg (by omega)]
theorem outPre_succ (st : List UInt32) (k : Nat) : (outPre st k).set k (outB st k) = outPre st (k + 1) := by
  apply List.ext_getElem
  · simp [outPre]
  intro j hk1 hk2
  rw [List.getElem_set]
  by_cases h : k = j
  · subst h; simp [outPre]
  · rw [if_neg h]
    simp only [outPre, List.getElem_map, List.getElem_range]
    by_cases h1 : j < k
    · rw [if_pos h1, if_pos (by omega)]
    · rw [if_neg h1, if_neg (by omega)]
theorem outB_at (st : List UInt32) (i r : Nat) (h : r < 4) : outB st (4 * i + r) = UInt8.ofNat (shr_u32 (st.getD i 0) (24 - 8 * r)).toNat := by
  unfold outB
  rw [show (4 * i + r) / 4 = i by omega, show (4 * i + r) % 4 = r by omega]
theorem shr_u32_zero (x : UInt32) : shr_u32 x 0 = x := by
  apply UInt32.toNat.inj
  have := x.toNat_lt
  rw [shr_u32, UInt32.toNat_ofNat']
  simp
theorem outPre_four (st : List UInt32) (i : Nat) :
    ((((outPre st (4 * i)).set (4 * i) (UInt8.ofNat (shr_u32 (st.getD i 0) 24).toNat)).set (4 * i + 1) (UInt8.ofNat (shr_u32 (st.getD i 0) 16).toNat)).set (4 * i + 2) (UInt8.ofNat (shr_u32 (st.getD i 0) 8).toNat)).set (4 * i + 3) (UInt8.ofNat (st.getD i 0).toNat) = outPre st (4 * (i + 1)) := by
  have h0 := outB_at st i 0 (by omega)
  have h1 := outB_at st i 1 (by omega)
  have h2 := outB_at st i 2 (by omega)
  have h3 := outB_at st i 3 (by omega)
  rw [Nat.add_zero] at h0
  rw [show 24 - 8 * 3 = 0 from rfl, shr_u32_zero] at h3
  rw [← h3, ← h2, ← h1, ← h0, outPre_succ, outPre_succ, outPre_succ, outPre_succ]
  rw [show 4 * (i + 1) = 4 * i + 1 + 1 + 1 + 1 by omega]
theorem len8_length (t : UInt64) : (len8 t).length = 8 := by simp [len8]
theorem len8_getD (t : UInt64) (g : Nat) (h : g < 8) : (len8 t).getD g 0 = lenB t g := by simp [len8, List.getD_eq_getElem?_getD, h]
end Go.Dig
