/-
  Part 5 of the walk: contracts of the functions that the law reaches, and the calculus they stand on.
  No conditions.
-/
import Derived.Test.YtooklcgflocbcaaGreatDoorP4
import Derived.ProofKit
import Derived.OpenShut
import Derived.WideKeyArgs
import Derived.ChangeSame
import Derived.ChangeMaps5
import Derived.Lib.LaidTab
import Derived.SliceStrings
import Derived.DataReads
import Derived.Deep.Strs
section
open Go Go.Proofs Go.Sx
namespace Go.Proofs
set_option maxRecDepth 10000
set_option maxHeartbeats 4000000
set_option linter.unusedSimpArgs false
def stepV (n : UInt32) : UInt32 := if n % 2 == 1 then n / 2 ^^^ 3988292384 else n / 2
theorem stepV_B (n : UInt32) : (stepV n).toBitVec = stB n.toBitVec := by
  have hd : (n / 2).toBitVec = n.toBitVec >>> 1 := by
    apply BitVec.eq_of_toNat_eq
    rw [UInt32.toBitVec_div, BitVec.toNat_udiv, BitVec.toNat_ushiftRight]
    rfl
  have hm : (n % 2 == 1) = n.toBitVec.getLsbD 0 := by
    rw [BitVec.getLsbD, Nat.testBit_eq_decide_div_mod_eq, Nat.pow_zero, Nat.div_one, Bool.eq_iff_iff, beq_iff_eq, decide_eq_true_eq, ← UInt32.toNat_inj, UInt32.toNat_mod]
    rfl
  unfold stepV stB
  rw [hm]
  cases n.toBitVec.getLsbD 0
  · rw [if_neg (by decide), hd]; simp [kB]
  · rw [if_pos rfl, UInt32.toBitVec_xor, hd]; rfl
theorem half_step (n : UInt32) : half32 n = stepV (stepV (stepV (stepV n))) := by
  apply UInt32.toBitVec_inj.1
  rw [stepV_B, stepV_B, stepV_B, stepV_B, halfB]
  unfold half32
  rw [UInt32.toBitVec_xor]
  congr 1
  · apply BitVec.eq_of_toNat_eq
    unfold shr_u32
    rw [BitVec.toNat_ushiftRight, Nat.shiftRight_eq_div_pow]
    have := n.toNat_lt
    simp only [UInt32.toNat_toBitVec, UInt32.toNat_ofNat']
    omega
  · have e : (n &&& 15).toNat = n.toBitVec.toNat % 16 := by
      rw [UInt32.toNat_and, show (15 : UInt32).toNat = 2 ^ 4 - 1 from rfl, Nat.and_two_pow_sub_one_eq_mod]
      rfl
    rw [e]
    have hlt : n.toBitVec.toNat % 16 < 16 := Nat.mod_lt _ (by omega)
    generalize n.toBitVec.toNat % 16 = m at hlt
    have : ∀ m, m < 16 → (hvL.getD m 0).toBitVec = hvB.getD m 0 := by decide
    exact this m hlt
def steps (n : UInt32) : Nat → UInt32
  | 0 => n
  | k + 1 => stepV (steps n k)
theorem feed_steps (n : UInt32) : steps n 8 = halfs n 2 := by
  show stepV (stepV (stepV (stepV (stepV (stepV (stepV (stepV n))))))) = half32 (half32 n)
  rw [half_step, half_step]
set_option linter.defProp false
def uWC_1 := And.intro (And.intro (@rdIn_v8) (@rdIn_v16)) (And.intro (@rdIn_v32) (And.intro (@rdIn_v64) (@rdIn_vi)))
theorem Step_spec (n : UInt32) (w : World) : Rets Tryz.prog 192 #[v32 n] w (fun v D => v = v32 (stepV n) ∧ D = []) := by
  have hrem : binV .rem (v32 n) (v32 2) = some (v32 (n % 2)) := bin_rem_u32 _ _ (by decide)
  have hquo : binV .quo (v32 n) (v32 2) = some (v32 (n / 2)) := bin_quo_u32 _ _ (by decide)
  refine Rets.enterV Tryz.func192 rfl (rs := [.tmp 2]) Tryz.results192 Tryz.ntmps192 ?_
  refine kf ?_
  unfold stepV
  first | with_reducible refine ks [] (And.intro uWC_1 ( And.intro @hrem (@hquo))) ?_ | refine kp (And.intro uWC_1 ( And.intro @hrem (@hquo))) ?_
  cases h : (n % 2 == 1)
  · first | with_reducible refine ks [] (And.intro uWC_1 @hquo) ?_ | refine kp (And.intro uWC_1 @hquo) ?_
    refine ⟨_, (ke uWC_1), trivial, ?_⟩
    rfl
  · first | with_reducible refine ks [] (And.intro uWC_1 @hquo) ?_ | refine kp (And.intro uWC_1 @hquo) ?_
    refine ⟨_, (ke uWC_1), trivial, ?_⟩
    rfl
theorem Feed_spec (n : UInt32) (b : UInt8) (w : World) : Rets Tryz.prog 169 #[v32 n, v8 b] w (fun v D => v = v32 (feedV n b) ∧ D = []) := by
  refine Rets.enterV Tryz.func169 rfl (rs := [.tmp 4]) Tryz.results169 Tryz.ntmps169 ?_
  refine kf ?_
  first | with_reducible refine ks [] uWC_1 ?_ | refine kp uWC_1 ?_
  unfold feedV
  generalize n ^^^ UInt32.ofNat b.toNat = m
  rw [← feed_steps, show v32 m = v32 (steps m 0) from rfl]
  refine Cw.loopG (G := Nat) [10, 11, 14, 15, 0, 12, 13, 5] (fun g => [(0, v32 (steps m g)), (5, vi g)]) (fun g => []) (fun g => g ≤ 8) (fun g => 8 - g) 0 rfl rfl ?_ ?_
  · omega
  intro g j hg
  refine kv ?_
  by_cases hlt : g < 8
  · first | with_reducible refine ks [] uWC_1 ?_ | refine kp uWC_1 ?_
    refine Ow.callFV rfl Tryz.call192 (fun w' hw' => Step_spec _ w') ?_
    refine ko uWC_1 ?_
    first | with_reducible refine ks [] uWC_1 ?_ | refine kp uWC_1 ?_
    refine Again.mk (g + 1) (by omega) (by omega) rfl rfl
  · obtain rfl : g = 8 := by omega
    first | with_reducible refine ks [] uWC_1 ?_ | refine kp uWC_1 ?_
    refine ⟨_, (ke uWC_1), trivial, ?_⟩
    rfl
theorem sub_not (n : UInt32) : 4294967295 - n = ~~~ n := by
  apply UInt32.toBitVec_inj.1
  rw [UInt32.toBitVec_sub, UInt32.toBitVec_not, ← BitVec.allOnes_sub_eq_not]
  rfl
theorem refCrc_spec (s : List UInt8) (w : World) (hs : s.length < 1099511627776) : Rets Tryz.prog 136 #[vs s] w (fun v D => v = v32 (crcV s) ∧ D = []) := by
  refine Rets.enterV Tryz.func136 rfl (rs := [.tmp 2]) Tryz.results136 Tryz.ntmps136 ?_
  refine kf ?_
  first | with_reducible refine ks [] uWC_1 ?_ | refine kp uWC_1 ?_
  rw [show v32 4294967295 = v32 (crcGo (~~~ (0 : UInt32)) (s.take 0)) from rfl]
  refine Cw.loopG (G := Nat) [5, 6, 7, 8, 11, 12, 13, 14, 15, 3, 9, 10, 4] (fun g => [(3, v32 (crcGo (~~~ (0 : UInt32)) (s.take g))), (4, vi g)]) (fun g => []) (fun g => g ≤ s.length) (fun g => s.length - g) 0 rfl rfl ?_ ?_
  · omega
  intro g j hg
  refine kv ?_
  by_cases hlt : g < s.length
  · first | with_reducible refine ks [] uWC_1 ?_ | refine kp uWC_1 ?_
    refine Ow.callFV rfl Tryz.call169 (fun w' hw' => Feed_spec _ _ w') ?_
    refine ko uWC_1 ?_
    first | with_reducible refine ks [] uWC_1 ?_ | refine kp uWC_1 ?_
    refine Again.mk (g + 1) (by omega) (by omega) rfl ?_
    rw [crcGo_succ _ _ _ hlt]
    rfl
  · obtain rfl : g = s.length := by omega
    first | with_reducible refine ks [] uWC_1 ?_ | refine kp uWC_1 ?_
    rw [List.take_length]
    rw [sub_not]
    refine ⟨_, (ke uWC_1), trivial, ?_⟩
    rfl
theorem sum4_eq (n : UInt32) : sum4 n = [UInt8.ofNat (n % 256).toNat, UInt8.ofNat (n / 256 % 256).toNat, UInt8.ofNat (n / 65536 % 256).toNat, UInt8.ofNat (n / 16777216).toNat] := by
  show [UInt8.ofNat (shr_u32 n 0).toNat, UInt8.ofNat (shr_u32 n 8).toNat, UInt8.ofNat (shr_u32 n 16).toNat, UInt8.ofNat (shr_u32 n 24).toNat] = _
  have hn := n.toNat_lt
  congr 1
  · apply UInt8.toNat_inj.1
    simp [shr_u32]
  · congr 1
    · apply UInt8.toNat_inj.1
      simp [shr_u32]
    · congr 1
      · apply UInt8.toNat_inj.1
        simp [shr_u32]
      · congr 1
        apply UInt8.toNat_inj.1
        simp [shr_u32]
theorem refSeal_spec (s : List UInt8) (w : World) (hs : s.length < 1099511627776) :
    Rets Tryz.prog 68 #[vs s] w (fun v D => v = vs (sealV s) ∧ D = []) := by
  refine Rets.enterV Tryz.func68 rfl (rs := [.tmp 2]) Tryz.results68 Tryz.ntmps68 ?_
  refine kf ?_
  first | with_reducible refine ks [] uWC_1 ?_ | refine kp uWC_1 ?_
  refine Ow.callFV rfl Tryz.call136 (fun w' hw' => refCrc_spec s w' hs) ?_
  refine ko uWC_1 ?_
  unfold sealV
  rw [sum4_eq]
  generalize crcV s = n
  have h1 : binV .rem (v32 n) (v32 256) = some (v32 (n % 256)) := bin_rem_u32 _ _ (by decide)
  have h2 : binV .quo (v32 n) (v32 256) = some (v32 (n / 256)) := bin_quo_u32 _ _ (by decide)
  have h3 : binV .rem (v32 (n / 256)) (v32 256) = some (v32 (n / 256 % 256)) := bin_rem_u32 _ _ (by decide)
  have h4 : binV .quo (v32 n) (v32 65536) = some (v32 (n / 65536)) := bin_quo_u32 _ _ (by decide)
  have h5 : binV .rem (v32 (n / 65536)) (v32 256) = some (v32 (n / 65536 % 256)) := bin_rem_u32 _ _ (by decide)
  have h6 : binV .quo (v32 n) (v32 16777216) = some (v32 (n / 16777216)) := bin_quo_u32 _ _ (by decide)
  first | with_reducible refine ks [] (And.intro uWC_1 ( And.intro @h1 ( And.intro @h2 ( And.intro @h3 ( And.intro @h4 ( And.intro @h5 (@h6))))))) ?_ | refine kp (And.intro uWC_1 ( And.intro @h1 ( And.intro @h2 ( And.intro @h3 ( And.intro @h4 ( And.intro @h5 (@h6))))))) ?_
  generalize UInt8.ofNat (n % 256).toNat = q0
  generalize UInt8.ofNat (n / 256 % 256).toNat = q1
  generalize UInt8.ofNat (n / 65536 % 256).toNat = q2
  generalize UInt8.ofNat (n / 16777216).toNat = q3
  refine Ow.buildSlice (e := 5) #[v8 q0, v8 q1, v8 q2, v8 q3] rfl rfl (by kernel_rfl) fun b1 hb1 hw1 => ?_
  rw [show (#[v8 q0, v8 q1, v8 q2, v8 q3] : Array Value) = a8 [q0, q1, q2, q3] from rfl]
  have hl4 : [q0, q1, q2, q3].length = 4 := rfl
  have e4 : List.take 4 (List.drop 0 [q0, q1, q2, q3]) = [q0, q1, q2, q3] := rfl
  generalize [q0, q1, q2, q3] = q at *
  refine ko (And.intro uWC_1 @e4) ?_
  first | with_reducible refine ks [] uWC_1 ?_ | refine kp uWC_1 ?_
  refine ⟨_, (ke uWC_1), ⟨hw1, trivial⟩, ?_⟩
  rfl
theorem refUnseal_spec (s : List UInt8) (w : World) (hs : s.length < 1099511627776) :
    Rets Tryz.prog 75 #[vs s] w (fun v D => v = .tuple #[vs (unsealV s).1, .bool (unsealV s).2] ∧ D = []) := by
  refine Rets.enterV Tryz.func75 rfl (rs := [.tmp 2, .tmp 3]) Tryz.results75 Tryz.ntmps75 ?_
  refine kf ?_
  first | with_reducible refine ks [] uWC_1 ?_ | refine kp uWC_1 ?_
  unfold unsealV
  by_cases h4 : s.length < 4
  · have e1 : decide ((s.length : Int) < 4) = true := decide_eq_true (by omega)
    rw [if_pos h4]
    first | with_reducible refine ks [] (And.intro uWC_1 @e1) ?_ | refine kp (And.intro uWC_1 @e1) ?_
    refine ⟨_, (ke uWC_1), trivial, ?_⟩
    rfl
  · have e1 : decide ((s.length : Int) < 4) = false := decide_eq_false (by omega)
    have e2 : ((s.length : Int) - 4).toNat = s.length - 4 := by omega
    rw [if_neg h4]
    first | with_reducible refine ks [] (And.intro uWC_1 ( And.intro @e1 (@e2))) ?_ | refine kp (And.intro uWC_1 ( And.intro @e1 (@e2))) ?_
    refine Ow.callFV rfl Tryz.call68 (fun w' hw' => refSeal_spec (s.take (s.length - 4)) w' (by rw [List.length_take]; omega)) ?_
    refine ko uWC_1 ?_
    cases hq : (sealV (s.take (s.length - 4)) != s)
    · rw [if_pos (by simpa using hq)]
      first | with_reducible refine ks [] (And.intro uWC_1 ( And.intro @hq (@e2))) ?_ | refine kp (And.intro uWC_1 ( And.intro @hq (@e2))) ?_
      refine ⟨_, (ke uWC_1), trivial, ?_⟩
      rfl
    · rw [if_neg (by simpa using hq)]
      first | with_reducible refine ks [] (And.intro uWC_1 @hq) ?_ | refine kp (And.intro uWC_1 @hq) ?_
      refine ⟨_, (ke uWC_1), trivial, ?_⟩
      rfl
end Go.Proofs
end
section
open Go Go.Proofs Go.Sx Go.StP Go.Flo
namespace Go.Proofs
set_option maxRecDepth 10000
set_option maxHeartbeats 1000000
set_option linter.unusedSimpArgs false
/-! ### The document's bytes of a pack -/
set_option linter.defProp false
def uLK_1 := And.intro (And.intro (@rdIn_v8) (And.intro (@rdIn_vi) (@load_part0))) (And.intro (@load_part1) (And.intro (@load_part2) (@cells_part)))
end Go.Proofs
end
section
open Go Go.Proofs Go.Sx Go.StP Go.Flo
namespace Go.Proofs
set_option maxRecDepth 10000
set_option maxHeartbeats 1000000
set_option linter.unusedSimpArgs false
/-! ### The document's Read of a pack -/
theorem headR_short {s : List UInt8} (h : s.length < 4 ∨ s.take 4 ≠ magB) : headR s = (0, false, (rawR s 0 0 4).2) := by
  unfold headR
  rw [if_neg]
  unfold rawR
  rw [if_neg (by decide), if_neg (by decide)]
  split
  · decide
  · rename_i h1
    rcases h with h | h
    · omega
    · exact h
theorem headR_mag {s : List UInt8} (h4 : 4 ≤ s.length) (h : s.take 4 = magB) : headR s = ((numR s 4 0 200).1, (numR s 4 0 200).2.2 == 0, (numR s 4 0 200).2) := by
  have e : rawR s 0 0 4 = (s.take 4, 4, 0) := by
    unfold rawR
    rw [if_neg (by decide), if_neg (by decide), if_neg (by omega)]
    rfl
  unfold headR
  rw [e]
  simp only
  rw [if_pos h]
def ReadDS (s : List UInt8) (v : Value) (D : Heap) : Prop :=
  if (headR s).2.1 = true then ∃ x y n A, v = .tuple #[x, y, vi n, vi A, .bool true] ∧ n = (headR s).1 ∧ 0 ≤ n ∧ n ≤ 200 ∧ GrI D 114 3 x (readP s).1.length ((readP s).1.map partC).flatten ∧ GrI D 3 1 y (readP s).2.1.length ((readP s).2.1.map natC).flatten ∧
    (((readP s).2.2.2 = 0 ∧ A = (readP s).2.2.1 ∧ ((readP s).1.length : Int) = n) ∨ ((readP s).2.2.2 ≠ 0 ∧ ((readP s).1.length : Int) < n))
  else v = .tuple #[.slice none 0 0, .slice none 0 0, vi 0, vi 0, .bool false]
structure RdDG where
  l : List PartL
  sp : List Nat
  a : Nat
  v1 : Value
  v2 : Value
  D1 : Heap
  D2 : Heap
  DG : Heap
theorem build_rr4 (s : List UInt8) : buildV (plcT Tryz.prog 166) (zeroV Tryz.prog 166) [(0, vs s), (1, vi 4)] = some (.agg #[vs s, vi 4, vi 0]) := by
  rw [show plcT Tryz.prog 166 = some [(0, 1), (1, 1), (2, 1)] from id (by kernel_rfl), zrRR]; rfl
theorem refText_specW (b : Nat) (s : List UInt8) (a : Nat) (e most : Int) (w : World) (ha : a ≤ s.length) (hs : s.length < 1099511627776) (ho : w.heap[b]? = some (rrO s a e)) :
    Rets Tryz.prog 99 #[vp b 0, vi most] w (fun v D => ∃ o, D = [(b, o)] ∧ v = vs (textR s a e most).1 ∧ o = rrO s (textR s a e most).2.1 (textR s a e most).2.2) := refText_spec b s a e most w ha hs ho
set_option linter.defProp false
def uLL_1 := And.intro (And.intro (@rdIn_v8) (And.intro (@rdIn_vi) (@load_rr0))) (And.intro (And.intro (@load_rr1) (@load_rr2)) (And.intro (@cells_part) (@load_partw)))
theorem ReadR10_spec (s : List UInt8) (w : World) (hs : s.length < 1099511627776) : Rets Tryz.prog 76 #[vs s] w (XS w [] (ReadDS s)) := by
  refine Rets.enterX Tryz.func76 rfl (rs := [.tmp 2, .tmp 3, .tmp 4, .tmp 5, .tmp 6]) Tryz.results76 Tryz.ntmps76 (fun p hp => by cases hp) (by simp [keys]) ?_
  refine kf ?_
  by_cases h4 : s.length < 4
  · have d1 : decide ((s.length : Int) < 4) = true := decide_eq_true (by omega)
    first | with_reducible refine ks [] (And.intro @uLL_1 @d1) ?_ | refine kp (And.intro @uLL_1 @d1) ?_
    refine ⟨_, (ke @uLL_1), ?_⟩
    refine ⟨Ext.of_new trivial, ?_⟩
    unfold ReadDS
    rw [headR_short (.inl h4)]
    rfl
  have d1 : decide ((s.length : Int) < 4) = false := decide_eq_false (by omega)
  have d1' : decide ((0 : Int) ≤ 4 ∧ (4 : Int) ≤ (s.length : Int)) = true := decide_eq_true (by omega)
  by_cases hm : s.take 4 = magB
  · have d2 : (s.take 4 != [83, 80, 75, 49]) = false := bne_eq_false_iff_eq.2 hm
    have hhd := headR_mag (by omega) hm
    first | with_reducible refine ks [] (And.intro @uLL_1 ( And.intro @d1 (@d2))) ?_ | refine kp (And.intro @uLL_1 ( And.intro @d1 (@d2))) ?_
    refine Ow.build (.agg #[vs s, vi 4, vi 0]) rfl (build_rr4 s) ?_
    refine ko @uLL_1 ?_
    refine Ow.box rfl rfl fun br hbr hwr => ?_
    simp only [ev_tmp, getF_0, getF_s, cells_agg, List.nil_append]
    refine Ow.permL (M := [(br, rrO s 4 0)]) (List.Perm.refl _) ?_
    refine ko @uLL_1 ?_
    first | with_reducible refine ks [] @uLL_1 ?_ | refine kp @uLL_1 ?_
    have l1 := numR_le (s := s) (a := 4) (e := 0) (most := 200) (by omega)
    have m1 := numR_mostE (s := s) (a := 4) (e := 0) (most := 200) (by omega)
    refine Ow.callM rfl rfl Tryz.call98 (by simp [keys]) (fun w' hw' => refNumber_specW br s 4 0 200 w' (by omega) (by omega) (hw'.has _ _ List.mem_cons_self)) ?_
    have hrp : readP s = piecesR s (headR s).1.toNat 0 (headR s).2.2.1 (headR s).2.2.2 := rfl
    rw [hhd] at hrp
    generalize numR s 4 0 200 = q at *
    obtain ⟨n0, a0, e0⟩ := q
    simp only at l1 m1 hhd hrp ⊢
    obtain ⟨n, rfl⟩ : ∃ n : Nat, n0 = (n : Int) := ⟨n0.toNat, by omega⟩
    rw [Int.toNat_natCast] at hrp
    refine kn ?_
    refine ko @uLL_1 ?_
    by_cases he : e0 = 0
    · subst he
      have hd0 : ((0 : Int) != 0) = false := rfl
      have hE : (headR s).2.1 = true := by rw [hhd]; rfl
      have hn1 : (headR s).1 = (n : Int) := by rw [hhd]
      clear hhd
      first | with_reducible refine ks [11] (And.intro @uLL_1 @hd0) ?_ | refine kp (And.intro @uLL_1 @hd0) ?_
      refine Cw.permL (M := (br, rrO s a0 0) :: ([] ++ ([] ++ []))) (List.Perm.refl _) ?_
      refine Cw.loopG (G := RdDG) [34, 35, 36, 39, 40, 41, 42, 12, 43, 44, 13, 45, 46, 14, 47, 48, 49, 50, 51, 52, 53, 54, 55, 2, 3, 4, 5, 6, 56, 57, 15, 58, 59, 60, 61, 62, 63, 64, 65, 66, 67, 68, 9, 69, 70, 71, 72, 10, 37, 38, 11] (fun g => [(9, g.v1), (10, g.v2), (11, vi g.l.length)]) (fun g => (br, rrO s g.a 0) :: (g.D1 ++ (g.D2 ++ g.DG))) (fun g => g.l.length ≤ n ∧ g.sp.length = g.l.length ∧ g.a ≤ s.length ∧ New w.heap.size g.D1 ∧ New w.heap.size g.D2 ∧ New w.heap.size g.DG ∧ Gr g.D1 114 3 g.v1 g.l.length (g.l.map partC).flatten ∧ Gr g.D2 3 1 g.v2 g.sp.length (g.sp.map natC).flatten ∧ readP s = (g.l ++ (piecesR s (n - g.l.length) g.l.length g.a 0).1, g.sp ++ (piecesR s (n - g.l.length) g.l.length g.a 0).2.1, (piecesR s (n - g.l.length) g.l.length g.a 0).2.2)) (fun g => n - g.l.length) ⟨[], [], a0, .slice none 0 0, .slice none 0 0, [], [], []⟩ rfl rfl ?_ ?_
      · exact ⟨Nat.zero_le _, rfl, l1.2, trivial, trivial, trivial, Gr.nl, Gr.nl, by rw [hrp]; rfl⟩
      intro g j hg
      refine kv ?_
      obtain ⟨l, sp, a, v1, v2, D1, D2, DG⟩ := g
      simp only at hg ⊢
      obtain ⟨hln, hsl, hal, hN1, hN2, hNG, hG1, hG2, hpr⟩ := hg
      have hNr : New w.heap.size (D1 ++ (D2 ++ DG)) := hN1.app (hN2.app hNG)
      by_cases hlt : l.length < n
      · have d3 : decide ((l.length : Int) < (n : Int)) = true := decide_eq_true (by omega)
        have hk : n - l.length = (n - (l.length + 1)) + 1 := by omega
        rw [hk] at hpr
        have hle1 := numR_le (s := s) (a := a) (e := 0) (most := 200) hal
        have hm1 := numR_mostE (s := s) (a := a) (e := 0) (most := 200) (by omega)
        have hpc : pieceR s l.length a 0 = (⟨decide (0 < (numR s a 0 200).1), if 0 < (numR s a 0 200).1 then ((l.length : Nat) : Int) - (numR s a 0 200).1 else 0, (textR s (numR s a 0 200).2.1 (numR s a 0 200).2.2 65536).1⟩, (textR s (numR s a 0 200).2.1 (numR s a 0 200).2.2 65536).2) := rfl
        first | with_reducible refine ks [1000018] (And.intro @uLL_1 @d3) ?_ | refine kp (And.intro @uLL_1 @d3) ?_
        refine Ow.callM rfl rfl Tryz.call98 (by simp [keys]) (fun w' hw' => refNumber_specW br s a 0 200 w' hal (by omega) (hw'.has _ _ List.mem_cons_self)) ?_
        generalize numR s a 0 200 = x at *
        obtain ⟨F, a1, e1⟩ := x
        simp only at hle1 hm1 hpc ⊢
        have hle2 := textE_le (s := s) (a := a1) (e := e1) (most := 65536) hle1.2
        refine kn ?_
        refine ko @uLL_1 ?_
        first | with_reducible refine ks [] @uLL_1 ?_ | refine kp @uLL_1 ?_
        refine Ow.callM rfl rfl Tryz.call99 (by simp [keys]) (fun w' hw' => refText_specW br s a1 e1 65536 w' hle1.2 hs (hw'.has _ _ List.mem_cons_self)) ?_
        generalize textR s a1 e1 65536 = x at *
        obtain ⟨t, a2, e2⟩ := x
        simp only at hle2 hpc ⊢
        refine kn ?_
        refine ko @uLL_1 ?_
        rw [piecesR, hpc] at hpr
        simp only at hpr
        by_cases he2 : e2 = 0
        · subst he2
          rw [if_pos rfl] at hpr
          have d4 : ((0 : Int) != 0) = false := rfl
          first | with_reducible refine ks [] (And.intro @uLL_1 @d4) ?_ | refine kp (And.intro @uLL_1 @d4) ?_
          refine Ow.build (.agg (partC ⟨false, 0, t⟩).toArray) rfl (build_part2 t) ?_
          refine ko @uLL_1 ?_
          refine Ow.alloc rfl rfl zrPart fun b15 hb15 hw15 => ?_
          simp only [cells_agg, List.nil_append, List.cons_append]
          have hb15r : br < b15 := above_to hb15 (by simp [keys])
          have hst := store_part ⟨false, 0, t⟩ part0 114
          refine Ow.permL (M := (b15, .cells (partC part0).toArray 114 (0, 0)) :: (br, rrO s a2 0) :: (D1 ++ (D2 ++ DG))) (by classical exact List.perm_iff_count.2 fun a => by simp only [List.count_append, List.count_cons, List.count_nil] <;> omega) ?_
          refine ko (And.intro @uLL_1 @hst) ?_
          obtain ⟨p, hp⟩ : ∃ p, p = (⟨decide (0 < F), if 0 < F then ((l.length : Nat) : Int) - F else 0, t⟩ : PartL) := ⟨_, rfl⟩
          rw [← hp] at hpr
          refine Cw.cutO (G := PartL) [58, 59, 60, 61, 62, 63, 64] (fun g => []) (fun g => (b15, .cells (partC g).toArray 114 (0, 0)) :: (br, rrO s a2 0) :: (D1 ++ (D2 ++ DG))) (fun g => g = p) ?_ ?_
          · by_cases hF : 0 < F
            · have d5 : decide ((0 : Int) < F) = true := decide_eq_true hF
              have hs1 := store_partd ⟨false, 0, t⟩ 114
              have hs2 := store_partb ⟨true, 0, t⟩ 114
              first | with_reducible refine ks [] (And.intro @uLL_1 ( And.intro @d5 ( And.intro @hs1 (@hs2)))) ?_ | refine kp (And.intro @uLL_1 ( And.intro @d5 ( And.intro @hs1 (@hs2)))) ?_
              refine CutO.mk _ ?_ rfl rfl
              rw [hp, decide_eq_true hF, if_pos hF]
            · have d5 : decide ((0 : Int) < F) = false := decide_eq_false hF
              first | with_reducible refine ks [] (And.intro @uLL_1 @d5) ?_ | refine kp (And.intro @uLL_1 @d5) ?_
              refine CutO.mk _ ?_ rfl rfl
              rw [hp, decide_eq_false hF, if_neg hF]
          · intro g j hg
            refine kv ?_
            obtain rfl := hg
            clear hp
            first | with_reducible refine ks [] @uLL_1 ?_ | refine kp @uLL_1 ?_
            refine Ow.buildSlice (e := 114) (partC g).toArray rfl rfl (slice_one (cs := partC g) Tryz.underlying22 Tryz.ag114 zrPart (by decide) rfl) fun ba hba hwa => ?_
            refine ko @uLL_1 ?_
            refine Ow.permL (M := D1 ++ ((b15, .cells (partC g).toArray 114 (0, 0)) :: (br, rrO s a2 0) :: (D2 ++ (DG ++ [(ba, .cells (partC g).toArray 114 (0, 0))])))) (by classical exact List.perm_iff_count.2 fun a => by simp only [List.count_append, List.count_cons, List.count_nil] <;> omega) ?_
            refine Ow.appendXG (e := 114) (k := 1) (new := partC g) (X := D1) v1 rfl rfl rfl rfl Tryz.underlying22 Tryz.ag114 (by kernel_rfl) zrPart (by rw [cells_part]; rfl) Tryz.underlying22 (by intro k h; cases h) hG1 (fun w' hw' => AppX.one1 (hw'.has ba (.cells (partC g).toArray 114 (0, 0)) (by simp)) (partC_len _) (partC_one _)) (by omega) (fun B4 v4 D4 hA4 hB4 hG4 hk41 hk42 hlk4 => ?_)
            have hN4 : New w.heap.size D4 := New.of_le fun q hq => by
              rcases hk42 q hq with h | h
              · exact hN1.le q h
              · omega
            refine Ow.permL (M := (br, rrO s a2 0) :: (D4 ++ (D2 ++ ((b15, .cells (partC g).toArray 114 (0, 0)) :: (DG ++ [(ba, .cells (partC g).toArray 114 (0, 0))]))))) (by classical exact List.perm_iff_count.2 fun a => by simp only [List.count_append, List.count_cons, List.count_nil] <;> omega) ?_
            refine ko @uLL_1 ?_
            first | with_reducible refine ks [] @uLL_1 ?_ | refine kp @uLL_1 ?_
            refine Ow.buildSlice (e := 3) #[vi a] rfl rfl (by kernel_rfl) fun bc hbc hwc => ?_
            refine ko @uLL_1 ?_
            refine Ow.permL (M := D2 ++ ((br, rrO s a2 0) :: (D4 ++ ((b15, .cells (partC g).toArray 114 (0, 0)) :: (DG ++ [(ba, .cells (partC g).toArray 114 (0, 0)), (bc, .cells #[vi a] 3 (0, 0))]))))) (by classical exact List.perm_iff_count.2 fun a => by simp only [List.count_append, List.count_cons, List.count_nil] <;> omega) ?_
            refine Ow.appendXG (e := 3) (k := 1) (new := natC a) (X := D2) v2 rfl rfl rfl rfl Tryz.underlying28 (id (by kernel_rfl) : aggT Tryz.prog 3 = some (false, 1)) (by kernel_rfl) (id (by kernel_rfl) : zeroV Tryz.prog 3 = some (vi 0)) rfl Tryz.underlying28 (by intro k h; cases h) hG2 (fun w' hw' => AppX.one1 (hw'.has bc (.cells #[vi a] 3 (0, 0)) (by simp)) (natC_len a) rfl) (by omega) (fun B5 v5 D5 hA5 hB5 hG5 hk51 hk52 hlk5 => ?_)
            have hN5 : New w.heap.size D5 := New.of_le fun q hq => by
              rcases hk52 q hq with h | h
              · exact hN2.le q h
              · omega
            refine Ow.permL (M := (br, rrO s a2 0) :: (D4 ++ (D5 ++ ((b15, .cells (partC g).toArray 114 (0, 0)) :: (DG ++ [(ba, .cells (partC g).toArray 114 (0, 0)), (bc, .cells #[vi a] 3 (0, 0))]))))) (by classical exact List.perm_iff_count.2 fun a => by simp only [List.count_append, List.count_cons, List.count_nil] <;> omega) ?_
            refine ko @uLL_1 ?_
            first | with_reducible refine ks [] @uLL_1 ?_ | refine kp @uLL_1 ?_
            have hl1 : (l ++ [g]).length = l.length + 1 := by simp
            have hl2 : (sp ++ [a]).length = sp.length + 1 := by simp
            refine Again.mk ⟨l ++ [g], sp ++ [a], a2, v4, v5, D4, D5, (b15, .cells (partC g).toArray 114 (0, 0)) :: (DG ++ [(ba, .cells (partC g).toArray 114 (0, 0)), (bc, .cells #[vi a] 3 (0, 0))])⟩ (by show n - (l ++ [g]).length < n - l.length; omega) ⟨by show (l ++ [g]).length ≤ n; omega, by show (sp ++ [a]).length = (l ++ [g]).length; omega, hle2.2, hN4, hN5, ⟨hw15, hNG.app ⟨hwa, hwc, trivial⟩⟩, by simpa using hG4, by simpa using hG5, ?_⟩ rfl (by simp only [hl1]; rfl)
            show readP s = _
            rw [hpr, hl1]
            simp
        · have d4 : (e2 != 0) = true := bne_iff_ne.2 he2
          rw [if_neg he2] at hpr
          first | with_reducible refine ks [] (And.intro @uLL_1 @d4) ?_ | refine kp (And.intro @uLL_1 @d4) ?_
          refine ⟨_, (ke @uLL_1), ?_⟩
          refine ⟨Ext.of_new ⟨hwr, hNr⟩, ?_⟩
          unfold ReadDS
          rw [if_pos hE, hpr, hn1]
          simp only [List.append_nil]
          exact ⟨v1, v2, _, _, rfl, rfl, by omega, by omega, Gr.i hG1 fun c hc => by simp [hc], Gr.i hG2 fun c hc => by simp [hc], .inr ⟨he2, by omega⟩⟩
      · obtain hln' : l.length = n := by omega
        have d3 : decide ((l.length : Int) < (n : Int)) = false := decide_eq_false (by omega)
        rw [hln', Nat.sub_self] at hpr
        first | with_reducible refine ks [] (And.intro @uLL_1 @d3) ?_ | refine kp (And.intro @uLL_1 @d3) ?_
        refine Cw.regionS [br] [0, 1, 2, 3, 4, 5, 7, 8, 9, 6, 10, 11] [] (by kernel_rfl) (by kernel_rfl) (by kernel_rfl) ?_
        simp only [nl_cons, ↓pickL_nil, ↓pickL_cons, ↓nthO_0, ↓nthO_s, consO_some]
        refine kq @uLL_1 ?_
        first | with_reducible refine ks [] @uLL_1 ?_ | refine kp @uLL_1 ?_
        refine ⟨_, (ke @uLL_1), ?_⟩
        refine ⟨Ext.of_new ⟨hwr, hNr⟩, ?_⟩
        unfold ReadDS
        rw [if_pos hE, hpr, hn1]
        simp only [piecesR, List.append_nil]
        exact ⟨v1, v2, _, _, rfl, rfl, by omega, by omega, Gr.i hG1 fun c hc => by simp [hc], Gr.i hG2 fun c hc => by simp [hc], .inl ⟨trivial, rfl, by omega⟩⟩
    · have hd0 : (e0 != 0) = true := bne_iff_ne.2 he
      have hE : (headR s).2.1 = false := by rw [hhd]; exact beq_eq_false_iff_ne.2 he
      first | with_reducible refine ks [] (And.intro @uLL_1 @hd0) ?_ | refine kp (And.intro @uLL_1 @hd0) ?_
      refine ⟨_, (ke @uLL_1), ?_⟩
      refine ⟨Ext.of_new ⟨hwr, trivial⟩, ?_⟩
      unfold ReadDS
      rw [hE]
      rfl
  · have d2 : (s.take 4 != [83, 80, 75, 49]) = true := bne_iff_ne.2 hm
    first | with_reducible refine ks [] (And.intro @uLL_1 ( And.intro @d1 (@d2))) ?_ | refine kp (And.intro @uLL_1 ( And.intro @d1 (@d2))) ?_
    refine ⟨_, (ke @uLL_1), ?_⟩
    refine ⟨Ext.of_new trivial, ?_⟩
    unfold ReadDS
    rw [headR_short (.inr hm)]
    rfl
end Go.Proofs
end
section
open Go Go.Proofs Go.Sx Go.StP Go.Flo
namespace Go.Proofs
set_option maxRecDepth 10000
set_option maxHeartbeats 1000000
set_option linter.unusedSimpArgs false
/-! ### The document's Open -/
/-- A pack, as the document holds it, of some blocks. -/
def MkD (D : Heap) (v : Value) (l : List PartL) (sp : List Nat) (ids : List IdL) (os : List ObL) : Prop :=
  ∃ v0 v1 v2 v3, v = mkV v0 v1 v3 v2 ∧ GrI D 114 3 v0 l.length (l.map partC).flatten ∧ GrI D 3 1 v1 sp.length (sp.map natC).flatten ∧ GrI D 37 32 v2 ids.length (ids.map idLC).flatten ∧ GrI D 43 2 v3 os.length (os.map obC).flatten
def OpenDS (b : List UInt8) (v : Value) (D : Heap) : Prop := match openV b with
  | some q => ∃ x, v = .tuple #[x, .bool true] ∧ MkD D x q.1 q.2.1 q.2.2.1 q.2.2.2
  | none => ∃ c0 c1 c2 c3, v = .tuple #[mkV c0 c1 c2 c3, .bool false] ∧ OneC c0 ∧ OneC c1 ∧ OneC c2 ∧ OneC c3
theorem build_mk0 : buildV (plcT Tryz.prog 32) (zeroV Tryz.prog 32) [] = some (mkV (.slice none 0 0) (.slice none 0 0) (.slice none 0 0) (.slice none 0 0)) := by
  rw [plcMk, zrMk]; rfl
theorem store_mk1 (v0 v1 v2 v3 q : Value) (a : Bool) (hq : OneC q) : storeV (some (a, 1)) (some (mkO v0 v1 v2 v3)) 1 q = some (mkO v0 q v2 v3) :=
  store_mid [v0] [v1] [q] [v2, v3] a _ 32 rfl rfl hq.2 rfl (by simp [hq.1])
theorem BndD.ofSmall {l : List PartL} (h : SmallP l) : BndD l := fun g hg => by have := h g hg; omega
theorem endE_iff {s : List UInt8} {a : Nat} {e : Int} (ha : a ≤ s.length) : endE s a e = 0 ↔ e = 0 ∧ a = s.length := by
  constructor
  · intro h
    have := endE_zero h
    exact ⟨this.1, by omega⟩
  · rintro ⟨rfl, rfl⟩
    unfold endE
    rw [if_neg (by decide), if_neg (by omega)]
/-- What 'Of' hands back, in one form. -/
def OpenOk (l : List PartL) (_x c2 c3 : Value) (ok : Bool) (D : Heap) : Prop := match fillV l with
  | some p => ok = true ∧ GrI D 37 32 c2 p.1.length (p.1.map idLC).flatten ∧ GrI D 43 2 c3 p.2.length (p.2.map obC).flatten
  | none => ok = false
theorem ofS_case {l : List PartL} {x v : Value} {D : Heap} (h : OfS l x v D) : ∃ c2 c3 ok, v = .tuple #[mkV x (.slice none 0 0) c3 c2, .bool ok] ∧ OneC c2 ∧ OneC c3 ∧ OpenOk l x c2 c3 ok D := by
  unfold OfS at h
  unfold OpenOk
  cases hf : fillV l with
  | some p =>
    rw [hf] at h
    obtain ⟨x2, x3, rfl, h1, h2⟩ := h
    exact ⟨x2, x3, true, rfl, gri_cell h1, gri_cell h2, rfl, h1, h2⟩
  | none =>
    rw [hf] at h
    obtain ⟨x2, x3, rfl, h1, h2⟩ := h
    exact ⟨x2, x3, false, rfl, h1, h2, rfl⟩
theorem pieceR_le {s : List UInt8} {i a : Nat} {e : Int} (ha : a ≤ s.length) : (pieceR s i a e).2.1 ≤ s.length := by
  have h1 := numR_le (s := s) (a := a) (e := e) (most := 200) ha
  exact (textE_le (s := s) (a := (numR s a e 200).2.1) (e := (numR s a e 200).2.2) (most := 65536) h1.2).2
theorem piecesR_le {s : List UInt8} : ∀ (k i a : Nat) (e : Int), a ≤ s.length → (piecesR s k i a e).2.2.1 ≤ s.length
  | 0, _, _, _, h => h
  | k + 1, i, a, e, h => by
    unfold piecesR
    split
    · exact piecesR_le k _ _ _ (pieceR_le (i := i) h)
    · exact pieceR_le (i := i) h
theorem readP_le (s : List UInt8) : (readP s).2.2.1 ≤ s.length := piecesR_le _ _ _ _ (headR_le s)
theorem tup5_0 (a b c d e : Value) : #[a, b, c, d, e][0]? = some a := rfl
theorem tup5_1 (a b c d e : Value) : #[a, b, c, d, e][1]? = some b := rfl
theorem tup5_2 (a b c d e : Value) : #[a, b, c, d, e][2]? = some c := rfl
theorem tup5_3 (a b c d e : Value) : #[a, b, c, d, e][3]? = some d := rfl
theorem tup5_4 (a b c d e : Value) : #[a, b, c, d, e][4]? = some e := rfl
set_option linter.defProp false
def uLM_1 := And.intro (And.intro (And.intro (@rdIn_v8) (@rdIn_vi)) (And.intro (@load_mk) (And.intro (@Sx.tup2_0) (@Sx.tup2_1)))) (And.intro (And.intro (@tup5_0) (@tup5_1)) (And.intro (@tup5_2) (And.intro (@tup5_3) (@tup5_4))))
theorem OpenR_spec (b : List UInt8) (w : World) (hb : b.length < 1099511627776) :
    Rets Tryz.prog 18 #[vs b] w (XS w [] (OpenDS b)) := by
  have hn1 : OneC (.slice none 0 0) := ⟨rfl, rfl⟩
  have hs1 := fun a => store_mk (v0 := .slice none 0 0) (v1 := .slice none 0 0) (v2 := .slice none 0 0) (v3 := .slice none 0 0) ⟨hn1, hn1, hn1, hn1⟩ a
  refine Rets.enterX Tryz.func18 rfl (rs := [.cell 2 32, .tmp 3]) Tryz.results18 Tryz.ntmps18 (fun p hp => by cases hp) (by simp [keys]) ?_
  refine kf ?_
  first | with_reducible refine ks [] @uLM_1 ?_ | refine kp @uLM_1 ?_
  refine Ow.alloc rfl rfl zrMk fun b2 hb2 hw2 => ?_
  simp only [cells_agg, List.nil_append, List.cons_append]
  simp only [mk_zc]
  refine ko @uLM_1 ?_
  first | with_reducible refine ks [] @uLM_1 ?_ | refine kp @uLM_1 ?_
  refine Ow.callFV rfl Tryz.call75 (fun w' hw' => refUnseal_spec b w' (by omega)) ?_
  have hun : (unsealV b).1.length ≤ b.length := by
    unfold unsealV
    split
    · simp
    · split
      · simp only [List.length_take]; omega
      · simp
  unfold OpenDS openV
  generalize unsealV b = u at *
  obtain ⟨s, ok⟩ := u
  simp only at hun ⊢
  cases ok with
  | false =>
    rw [if_neg (by simp)]
    refine ko @uLM_1 ?_
    first | with_reducible refine ks [] @uLM_1 ?_ | refine kp @uLM_1 ?_
    refine Ow.build (mkV (.slice none 0 0) (.slice none 0 0) (.slice none 0 0) (.slice none 0 0)) rfl build_mk0 ?_
    refine ko (And.intro @uLM_1 @hs1) ?_
    first | with_reducible refine ks [] @uLM_1 ?_ | refine kp @uLM_1 ?_
    refine ⟨_, (ke @uLM_1), ?_⟩
    exact ⟨Ext.of_new ⟨hw2, trivial⟩, _, _, _, _, rfl, hn1, hn1, hn1, hn1⟩
  | true =>
    refine ko @uLM_1 ?_
    first | with_reducible refine ks [] @uLM_1 ?_ | refine kp @uLM_1 ?_
    refine Ow.callX (Y := [(b2, mkO (.slice none 0 0) (.slice none 0 0) (.slice none 0 0) (.slice none 0 0))]) (by simp) rfl rfl Tryz.call76 (fun w' hw' hX hn => ReadR10_spec s w' (by omega)) (fun v23 D23 hC23 hS23 => ?_)
    have hN23 : New w.heap.size D23 := came_newP hC23 trivial
    unfold ReadDS at hS23
    by_cases hh : (headR s).2.1 = true
    · rw [if_pos hh] at hS23
      obtain ⟨x, y, n, A, rfl, hn, hn0, hn2, hG1, hG2, hcase⟩ := hS23
      have lx := gri_len hG1
      have hle := readP_le s
      have hsm := readP_small s
      have hln := readP_len s
      generalize readP s = r at *
      obtain ⟨l, sp, a, e⟩ := r
      simp only at hG1 hG2 hcase hle hsm hln ⊢
      rcases hcase with ⟨rfl, rfl, hlen⟩ | ⟨he, hlen⟩
      · have d1 : ((l.length : Int) != n) = false := by rw [bne_eq_false_iff_eq]; exact hlen
        by_cases hA : a = s.length
        · have d2 : ((a : Int) != (s.length : Int)) = false := by rw [hA]; exact bne_self_eq_false _
          rw [if_pos ⟨rfl, hh, (endE_iff hle).2 ⟨rfl, hA⟩⟩]
          refine ko @uLM_1 ?_
          first | with_reducible refine ks [] (And.intro @uLM_1 ( And.intro @lx ( And.intro @d1 (@d2)))) ?_ | refine kp (And.intro @uLM_1 ( And.intro @lx ( And.intro @d1 (@d2)))) ?_
          refine Ow.callX (Y := (D23 ++ [(b2, mkO (.slice none 0 0) (.slice none 0 0) (.slice none 0 0) (.slice none 0 0))])) (by simp) rfl rfl Tryz.call15 (fun w' hw' hX hn => OfR_spec x l w' ((hG1.mono (fun q hq => by simp [hq])).slV hw' rfl rfl partC_len) (BndD.ofSmall hsm)) (fun v46 D46 hC46 hS46 => ?_)
          have hN46 : New w.heap.size D46 := came_newP hC46 trivial
          have hx1 := gri_cell hG1
          have hy1 := gri_cell hG2
          obtain ⟨c2, c3, ok, rfl, hc2, hc3, hok⟩ : ∃ c2 c3 ok, v46 = .tuple #[mkV x (.slice none 0 0) c3 c2, .bool ok] ∧ OneC c2 ∧ OneC c3 ∧ OpenOk l x c2 c3 ok D46 := ofS_case hS46
          have hs2 := fun a => store_mk (v0 := .slice none 0 0) (v1 := .slice none 0 0) (v2 := .slice none 0 0) (v3 := .slice none 0 0) ⟨hx1, hn1, hc3, hc2⟩ a
          have hs3 := fun a => store_mk1 x (.slice none 0 0) c3 c2 y a hy1
          have hs4 := fun a => store_mk (v0 := .slice none 0 0) (v1 := .slice none 0 0) (v2 := .slice none 0 0) (v3 := .slice none 0 0) ⟨hx1, hy1, hc3, hc2⟩ a
          refine ko @uLM_1 ?_
          refine Ow.alloc rfl rfl zrMk fun b11 hb11 hw11 => ?_
          simp only [mk_zc]
          have h211 : b2 < b11 := above_to hb11 (by simp [keys])
          refine Ow.permL (M := (b11, mkO (.slice none 0 0) (.slice none 0 0) (.slice none 0 0) (.slice none 0 0)) :: (b2, mkO (.slice none 0 0) (.slice none 0 0) (.slice none 0 0) (.slice none 0 0)) :: (D46 ++ D23)) (by classical exact List.perm_iff_count.2 fun a => by simp only [List.count_append, List.count_cons, List.count_nil] <;> omega) ?_
          refine ko (And.intro @uLM_1 @hs2) ?_
          first | with_reducible refine ks [] (And.intro @uLM_1 ( And.intro @hs3 (@hs4))) ?_ | refine kp (And.intro @uLM_1 ( And.intro @hs3 (@hs4))) ?_
          refine ⟨_, (ke @uLM_1), ?_⟩
          refine ⟨Ext.of_new ⟨hw11, hw2, hN46.app hN23⟩, ?_⟩
          unfold OpenOk at hok
          cases hf : fillV l with
          | some q =>
            rw [hf] at hok
            obtain ⟨rfl, hq1, hq2⟩ := hok
            exact ⟨_, rfl, x, y, c2, c3, rfl, hG1.mono (fun q hq => by simp [hq]), hG2.mono (fun q hq => by simp [hq]), hq1.mono (fun q hq => by simp [hq]), hq2.mono (fun q hq => by simp [hq])⟩
          | none =>
            rw [hf] at hok
            subst hok
            exact ⟨_, _, _, _, rfl, hx1, hy1, hc3, hc2⟩
        · have d2 : ((a : Int) != (s.length : Int)) = true := bne_iff_ne.2 (by omega)
          rw [if_neg (fun h => hA ((endE_iff hle).1 h.2.2).2)]
          refine ko @uLM_1 ?_
          first | with_reducible refine ks [] (And.intro @uLM_1 ( And.intro @lx ( And.intro @d1 (@d2)))) ?_ | refine kp (And.intro @uLM_1 ( And.intro @lx ( And.intro @d1 (@d2)))) ?_
          refine Ow.build (mkV (.slice none 0 0) (.slice none 0 0) (.slice none 0 0) (.slice none 0 0)) rfl build_mk0 ?_
          refine Ow.permL (M := (b2, mkO (.slice none 0 0) (.slice none 0 0) (.slice none 0 0) (.slice none 0 0)) :: D23) (by classical exact List.perm_iff_count.2 fun a => by simp only [List.count_append, List.count_cons, List.count_nil] <;> omega) ?_
          refine ko (And.intro @uLM_1 @hs1) ?_
          first | with_reducible refine ks [] @uLM_1 ?_ | refine kp @uLM_1 ?_
          refine ⟨_, (ke @uLM_1), ?_⟩
          exact ⟨Ext.of_new ⟨hw2, hN23⟩, _, _, _, _, rfl, hn1, hn1, hn1, hn1⟩
      · have d1 : ((l.length : Int) != n) = true := bne_iff_ne.2 (by omega)
        rw [if_neg (fun h => he ((endE_iff hle).1 h.2.2).1)]
        refine ko @uLM_1 ?_
        first | with_reducible refine ks [] (And.intro @uLM_1 ( And.intro @lx (@d1))) ?_ | refine kp (And.intro @uLM_1 ( And.intro @lx (@d1))) ?_
        refine Ow.build (mkV (.slice none 0 0) (.slice none 0 0) (.slice none 0 0) (.slice none 0 0)) rfl build_mk0 ?_
        refine Ow.permL (M := (b2, mkO (.slice none 0 0) (.slice none 0 0) (.slice none 0 0) (.slice none 0 0)) :: D23) (by classical exact List.perm_iff_count.2 fun a => by simp only [List.count_append, List.count_cons, List.count_nil] <;> omega) ?_
        refine ko (And.intro @uLM_1 @hs1) ?_
        first | with_reducible refine ks [] @uLM_1 ?_ | refine kp @uLM_1 ?_
        refine ⟨_, (ke @uLM_1), ?_⟩
        exact ⟨Ext.of_new ⟨hw2, hN23⟩, _, _, _, _, rfl, hn1, hn1, hn1, hn1⟩
    · rw [if_neg hh] at hS23
      rw [if_neg (fun h => hh h.2.1)]
      subst hS23
      refine ko @uLM_1 ?_
      first | with_reducible refine ks [] @uLM_1 ?_ | refine kp @uLM_1 ?_
      refine Ow.build (mkV (.slice none 0 0) (.slice none 0 0) (.slice none 0 0) (.slice none 0 0)) rfl build_mk0 ?_
      refine Ow.permL (M := (b2, mkO (.slice none 0 0) (.slice none 0 0) (.slice none 0 0) (.slice none 0 0)) :: D23) (by classical exact List.perm_iff_count.2 fun a => by simp only [List.count_append, List.count_cons, List.count_nil] <;> omega) ?_
      refine ko (And.intro @uLM_1 @hs1) ?_
      first | with_reducible refine ks [] @uLM_1 ?_ | refine kp @uLM_1 ?_
      refine ⟨_, (ke @uLM_1), ?_⟩
      exact ⟨Ext.of_new ⟨hw2, hN23⟩, _, _, _, _, rfl, hn1, hn1, hn1, hn1⟩
end Go.Proofs
end
section
open Go Go.Proofs Go.Sx Go.StP Go.Flo
namespace Go.Proofs
set_option maxRecDepth 10000
set_option maxHeartbeats 1000000
set_option linter.unusedSimpArgs false
/-! ### No pack has nothing -/
theorem nilPkN : binX Tryz.prog .eql 38 (.pointer none) (.pointer none) = some (.bool true) := by
  simp [binX, eqX, plainV, eqNilV, Tryz.underlying38]
theorem nilPkE (b o : Nat) : binX Tryz.prog .neq 38 (vp b o) (.pointer none) = some (.bool true) := by
  simp [binX, eqX, plainV, eqNilV, Tryz.underlying38, vp]
set_option linter.defProp false
def uLN_1 := And.intro (And.intro (And.intro (@rdIn_v8) (@rdIn_vi)) (And.intro (@nilPkN) (@load_ob))) (And.intro (And.intro (@load_ob0) (@load_ob1)) (And.intro (@store_ob) (@load_idb)))
theorem NLen_spec (w : World) : Rets Tryz.prog 20 #[.pointer none] w (fun v D => v = vi 0 ∧ D = []) := by
  refine Rets.enterV Tryz.func20 rfl (rs := [.tmp 2]) Tryz.results20 Tryz.ntmps20 ?_
  refine kf ?_
  first | with_reducible refine ks [] @uLN_1 ?_ | refine kp @uLN_1 ?_
  refine ⟨_, (ke @uLN_1), trivial, ?_⟩
  rfl
theorem NParts_spec (w : World) : Rets Tryz.prog 21 #[.pointer none] w (fun v D => v = .slice none 0 0 ∧ D = []) := by
  refine Rets.enterV Tryz.func21 rfl (rs := [.tmp 2]) Tryz.results21 Tryz.ntmps21 ?_
  refine kf ?_
  first | with_reducible refine ks [] @uLN_1 ?_ | refine kp @uLN_1 ?_
  refine ⟨_, (ke @uLN_1), trivial, ?_⟩
  rfl
theorem NFind_spec (x : IdL) (w : World) : Rets Tryz.prog 24 #[.pointer none, .agg (a8 x.l)] w (fun v D => v = vi (-1) ∧ D = []) := by
  refine Rets.enterV Tryz.func24 rfl (rs := [.tmp 4]) Tryz.results24 Tryz.ntmps24 ?_
  refine kf ?_
  first | with_reducible refine ks [] @uLN_1 ?_ | refine kp @uLN_1 ?_
  refine Ow.box rfl rfl fun b1 hb1 hw1 => ?_
  simp only [ev_tmp, getF_0, getF_s, cells_agg, List.nil_append, List.cons_append]
  refine Ow.go rfl ?_
  simp (disch := (first | assumption | omega | (simp only [lenS, lenT, UInt64.reduceToNat]; try omega))) only [↓Sx.S0, Sx.S1, Tryz.fx, uLN_1, Nat.reduceAdd, Nat.reducePow, Int.reducePow, Nat.reduceBEq, ↓reduceIte, UInt8.reduceToNat, UInt16.reduceToNat, UInt32.reduceToNat, UInt64.reduceToNat, Int.reduceToNat]
  first | with_reducible refine ks [] @uLN_1 ?_ | refine kp @uLN_1 ?_
  refine ⟨_, (ke @uLN_1), ⟨hw1, trivial⟩, ?_⟩
  rfl
theorem Nhas_spec (i : Int) (w : World) : Rets Tryz.prog 77 #[.pointer none, vi i] w (fun v D => v = .bool false ∧ D = []) := by
  refine Rets.enterV Tryz.func77 rfl (rs := [.tmp 4]) Tryz.results77 Tryz.ntmps77 ?_
  refine kf ?_
  by_cases hi : 0 ≤ i
  · have d1 : decide (0 ≤ i) = true := decide_eq_true hi
    have d2 : decide (i < 0) = false := decide_eq_false (by omega)
    first | with_reducible refine ks [] (And.intro @uLN_1 @d1) ?_ | refine kp (And.intro @uLN_1 @d1) ?_
    refine Ow.callFV rfl Tryz.call20 (fun w' hw' => NLen_spec w') ?_
    refine ko (And.intro @uLN_1 ( And.intro @d1 (@d2))) ?_
    first | with_reducible refine ks [] @uLN_1 ?_ | refine kp @uLN_1 ?_
    refine ⟨_, (ke @uLN_1), trivial, ?_⟩
    rfl
  · have d1 : decide (0 ≤ i) = false := decide_eq_false hi
    first | with_reducible refine ks [] (And.intro @uLN_1 @d1) ?_ | refine kp (And.intro @uLN_1 @d1) ?_
    refine ⟨_, (ke @uLN_1), trivial, ?_⟩
    rfl
theorem NSpot_spec (i : Int) (w : World) : Rets Tryz.prog 23 #[.pointer none, vi i] w (fun v D => v = vi 0 ∧ D = []) := by
  refine Rets.enterV Tryz.func23 rfl (rs := [.tmp 4]) Tryz.results23 Tryz.ntmps23 ?_
  refine kf ?_
  first | with_reducible refine ks [] @uLN_1 ?_ | refine kp @uLN_1 ?_
  refine Ow.callFV rfl Tryz.call77 (fun w' hw' => Nhas_spec i w') ?_
  refine ko @uLN_1 ?_
  first | with_reducible refine ks [] @uLN_1 ?_ | refine kp @uLN_1 ?_
  refine ⟨_, (ke @uLN_1), trivial, ?_⟩
  rfl
theorem NId_spec (i : Int) (w : World) : Rets Tryz.prog 22 #[.pointer none, vi i] w (fun v D => v = .agg (a8 id0.l) ∧ D = []) := by
  have hi0 := id0.h
  refine Rets.enterV Tryz.func22 rfl (rs := [.cell 4 37]) Tryz.results22 Tryz.ntmps22 ?_
  refine kf ?_
  first | with_reducible refine ks [] @uLN_1 ?_ | refine kp @uLN_1 ?_
  refine Ow.alloc rfl rfl zrIdE fun b4 hb4 hw4 => ?_
  simp only [cells_agg, List.nil_append, List.cons_append]
  refine ko @uLN_1 ?_
  first | with_reducible refine ks [] @uLN_1 ?_ | refine kp @uLN_1 ?_
  refine Ow.callFV rfl Tryz.call77 (fun w' hw' => Nhas_spec i w') ?_
  refine ko @uLN_1 ?_
  first | with_reducible refine ks [] @uLN_1 ?_ | refine kp @uLN_1 ?_
  refine Ow.build (.agg (a8 id0.l)) rfl build_idZ ?_
  refine ko @uLN_1 ?_
  first | with_reducible refine ks [] @uLN_1 ?_ | refine kp @uLN_1 ?_
  refine ⟨_, (ke @uLN_1), ⟨hw4, trivial⟩, ?_⟩
  rfl
theorem NObject_spec (i : Int) (w : World) : Rets Tryz.prog 19 #[.pointer none, vi i] w (fun v D => v = .tuple #[obV 0 [], .bool false] ∧ D = []) := by
  refine Rets.enterV Tryz.func19 rfl (rs := [.cell 4 43, .tmp 5]) Tryz.results19 Tryz.ntmps19 ?_
  refine kf ?_
  first | with_reducible refine ks [] @uLN_1 ?_ | refine kp @uLN_1 ?_
  refine Ow.alloc rfl rfl zrOb fun b4 hb4 hw4 => ?_
  simp only [cells_agg, List.nil_append, List.cons_append]
  refine ko @uLN_1 ?_
  first | with_reducible refine ks [] @uLN_1 ?_ | refine kp @uLN_1 ?_
  refine Ow.callFV rfl Tryz.call77 (fun w' hw' => Nhas_spec i w') ?_
  refine ko @uLN_1 ?_
  first | with_reducible refine ks [] @uLN_1 ?_ | refine kp @uLN_1 ?_
  refine Ow.build (obV 0 []) rfl build_ob0 ?_
  refine ko @uLN_1 ?_
  first | with_reducible refine ks [] @uLN_1 ?_ | refine kp @uLN_1 ?_
  refine ⟨_, (ke @uLN_1), ⟨hw4, trivial⟩, ?_⟩
  rfl
end Go.Proofs
end
section
open Go Go.Proofs Go.Sx Go.StP Go.Flo
namespace Go.Proofs
set_option maxRecDepth 10000
set_option maxHeartbeats 1000000
set_option linter.unusedSimpArgs false
/-! ### Is a pack the document's? -/
theorem load_mk0 (v0 v1 v2 v3 : Value) (n : Nat) : loadV (some (false, n)) (some (mkO v0 v1 v2 v3)) 0 = some v0 := (rfl)
theorem load_mk1 (v0 v1 v2 v3 : Value) (n : Nat) : loadV (some (false, n)) (some (mkO v0 v1 v2 v3)) 1 = some v1 := (rfl)
theorem neObK (k k' : Int) (t t' : List UInt8) : binX Tryz.prog .neq 43 (obV k t) (obV k' t') = some (.bool (!decide ((⟨k, t⟩ : ObL) = ⟨k', t'⟩))) := neObC ⟨k, t⟩ ⟨k', t'⟩
structure SmG where
  i : Nat
  DG : Heap
set_option linter.defProp false
def uLO_1 := And.intro (And.intro (And.intro (And.intro (@rdIn_v8) (@rdIn_vi)) (And.intro (@load_mk) (@load_mk0))) (And.intro (And.intro (@load_mk1) (@load_mk2)) (And.intro (@load_mk3) (@load_ob)))) (And.intro (And.intro (And.intro (@load_ob0) (@load_ob1)) (And.intro (@store_ob) (@load_idb))) (And.intro (And.intro (@neIdA) (@neObK)) (And.intro (@Sx.tup2_0) (@Sx.tup2_1))))
theorem SameK_spec (bp : Nat) (v0 v1 v2 v3 : Value) (l : List PartL) (sp : List Nat) (ids : List IdL) (os : List ObL) (w : World) (h : PackIn w bp l sp ids os)
    (h0 : PartSl w v0 l) (h1 : NatSl w v1 sp) (h2 : IdS w v2 ids) (h3 : ObSl w v3 os) (hl : l.length < 1000) (hls : sp.length = l.length) (hli : ids.length = l.length) (hlo : os.length = l.length)
    (hfind : ∀ k, k < l.length → idxG (ids.getD k id0) ids 0 = (k : Int)) :
    Rets Tryz.prog 25 #[vp bp 0, mkV v0 v1 v3 v2] w (fun v D => v = .bool true ∧ D = []) := by
  have ln0 := h0.len
  obtain ⟨c1, o1, a1, E1, f1, r1⟩ := h1.row
  obtain ⟨c2, o2, a2, E2, f2, r2⟩ := h2.row
  obtain ⟨c3, o3, a3, E3, f3, r3⟩ := h3.row
  refine Rets.enterV Tryz.func25 rfl (rs := [.tmp 4]) Tryz.results25 Tryz.ntmps25 ?_
  refine kf ?_
  first | with_reducible refine ks [] @uLO_1 ?_ | refine kp @uLO_1 ?_
  refine Ow.box rfl rfl fun b3 hb3 hw3 => ?_
  simp only [ev_tmp, getF_0, getF_s, mk_zc, List.nil_append]
  refine ko @uLO_1 ?_
  first | with_reducible refine ks [] @uLO_1 ?_ | refine kp @uLO_1 ?_
  have hq1 : decide ((⟨ob0.k, ob0.t⟩ : ObL) = ⟨0, []⟩) = true := decide_eq_true rfl
  have hq2 : decide (ob0 = ⟨0, []⟩) = true := decide_eq_true rfl
  have hq3 : (id0.l == id0.l) = true := beq_self_eq_true _
  have hq4 : ((0 : Int) != 0) = false := rfl
  have e0 : ((l.length : Int) != (l.length : Int)) = false := bne_self_eq_false _
  refine Cw.regionS [b3] [0, 2, 3, 4, 1, 5, 6, 7, 9, 10, 8, 11, 12, 13] [] (by kernel_rfl) (by kernel_rfl) (by kernel_rfl) ?_
  simp only [nl_cons, ↓pickL_nil, ↓pickL_cons, ↓nthO_0, ↓nthO_s, consO_some]
  refine kq (And.intro @uLO_1 @ln0) ?_
  refine Ow.soft rfl rfl rfl ?_
  refine Ow.callFV rfl Tryz.call20 (fun w' hw' => PLen_spec bp l sp ids os w' (h.old hw' ⟨hw3, trivial⟩)) ?_
  with_reducible refine Ow.nil ?_
  refine ⟨by intro b hb; simp only [List.mem_cons, List.not_mem_nil, or_false] at hb; (try subst hb); rfl, ?_⟩
  refine kq (And.intro @uLO_1 @e0) ?_
  refine Ow.soft rfl rfl rfl ?_
  refine Ow.callC rfl rfl Tryz.call21 (fun w' hw' => PParts_spec bp l sp ids os w' (h.old hw' ⟨hw3, trivial⟩) (by omega)) (fun B1 x1 D1 hA1 hB1 hN1 hS1 => ?_)
  have hN1' : New w.heap.size D1 := hN1.mono hB1
  with_reducible refine Ow.nil ?_
  refine ⟨readB_appR (fun q hq => by simp only [List.mem_cons, List.not_mem_nil, or_false] at hq; rcases hq with rfl; simp [keys]), ?_⟩
  refine kq @uLO_1 ?_
  refine Ow.soft rfl rfl rfl ?_
  refine Ow.callFV rfl Tryz.call80 (fun w' hw' => SameP_spec x1 v0 l l w' ((hS1.mono (fun q hq => by simp [hq])).slV hw' rfl rfl partC_len) (h0.oldN hw' ⟨hw3, hN1'⟩) (by omega) (by omega)) ?_
  rw [decide_eq_true (rfl : l = l)]
  with_reducible refine Ow.nil ?_
  refine ⟨by intro b hb; simp only [List.mem_cons, List.not_mem_nil, or_false] at hb; (try subst hb); rfl, ?_⟩
  refine kq @uLO_1 ?_
  try with_reducible refine Ow.nil ?_
  have h' : ∀ {w' : World} {D : Heap}, Hp w D w' → New w.heap.size D → PackIn w' bp l sp ids os := fun hw' hn => h.old hw' hn
  first | with_reducible refine ks [] (And.intro @uLO_1 @ln0) ?_ | refine kp (And.intro @uLO_1 @ln0) ?_
  refine Cw.loopG (G := SmG) [22, 23, 24, 25, 26, 30, 31, 32, 29, 33, 34, 6, 7, 35, 36, 37, 38, 39, 40, 41, 42, 43, 44, 45, 46, 47, 48, 49, 50, 51, 52, 53, 54, 55, 56, 57, 58, 59, 60, 61, 62, 4, 63, 64, 65, 66, 67, 68, 69, 70, 71, 72, 73, 74, 75, 76, 77, 78, 79, 80, 81, 82, 83, 84, 85, 86, 87, 88, 89, 90, 91, 92, 93, 94, 95, 96, 97, 98, 99, 100, 101, 102, 103, 104, 105, 106, 27, 28, 5] (fun g => [(5, vi ((g.i : Int) - 1))]) (fun g => (b3, mkO v0 v1 v3 v2) :: g.DG) (fun g => g.i ≤ l.length + 2 ∧ New w.heap.size g.DG) (fun g => l.length + 2 - g.i) ⟨0, D1⟩ rfl rfl ?_ ?_
  · exact ⟨Nat.zero_le _, hN1'⟩
  intro g j hg
  refine kv ?_
  obtain ⟨i, DG⟩ := g
  simp only at hg ⊢
  obtain ⟨hi, hNG⟩ := hg
  have hNr : New w.heap.size ((b3, mkO v0 v1 v3 v2) :: DG) := ⟨hw3, hNG⟩
  by_cases hle : i ≤ l.length + 1
  · have d1 : decide ((i : Int) - 1 ≤ (l.length : Int)) = true := decide_eq_true (by omega)
    first | with_reducible refine ks [5] (And.intro @uLO_1 ( And.intro @ln0 (@d1))) ?_ | refine kp (And.intro @uLO_1 ( And.intro @ln0 (@d1))) ?_
    refine Ow.callFV rfl Tryz.call19 (fun w' hw' => PObject_spec bp ((i : Int) - 1) l sp ids os w' (h' hw' hNr) hlo) ?_
    generalize hO : (if hasV l ((i : Int) - 1) then os.getD ((i : Int) - 1).toNat ob0 else ob0) = O at *
    refine ko @uLO_1 ?_
    refine Ow.alloc rfl rfl zrOb fun b6 hb6 hw6 => ?_
    simp only [cells_agg, List.nil_append, List.cons_append]
    have hb36 : b3 < b6 := above_to hb6 (by simp [keys])
    refine Ow.permL (M := (b6, .cells #[vi 0, vs []] 43 (0, 0)) :: (b3, mkO v0 v1 v3 v2) :: DG) (by classical exact List.perm_iff_count.2 fun a => by simp only [List.count_append, List.count_cons, List.count_nil] <;> omega) ?_
    have hNs : New w.heap.size ((b6, Obj.cells #[vi O.k, vs O.t] 43 (0, 0)) :: (b3, mkO v0 v1 v3 v2) :: DG) := ⟨hw6, hNr⟩
    have hq5 : (i : Int) - 1 + 1 = ((i + 1 : Nat) : Int) - 1 := by omega
    by_cases h0i : i = 0
    · have d2 : decide ((i : Int) - 1 < 0) = true := decide_eq_true (by omega)
      have hH : hasV l ((i : Int) - 1) = false := by unfold hasV; rw [decide_eq_false (by omega), Bool.false_and]
      have d3 := d2
      rw [hH] at hO ⊢
      rw [if_neg (by simp)] at hO
      subst hO
      refine ko @uLO_1 ?_
      first | with_reducible refine ks [] (And.intro @uLO_1 ( And.intro @ln0 ( And.intro @d2 (@d3)))) ?_ | refine kp (And.intro @uLO_1 ( And.intro @ln0 ( And.intro @d2 (@d3)))) ?_
      refine Ow.build (obV 0 []) rfl build_ob0 ?_
      refine ko (And.intro @uLO_1 ( And.intro @hq1 (@hq2))) ?_
      refine Ow.callFV rfl Tryz.call22 (fun w' hw' => PId_spec bp ((i : Int) - 1) l sp ids os w' (h' hw' hNs) hli) ?_
      rw [hH, if_neg (by simp)]
      refine ko @uLO_1 ?_
      refine Ow.build (.agg (a8 id0.l)) rfl build_idZ ?_
      refine ko (And.intro @uLO_1 @hq3) ?_
      refine Ow.callFV rfl Tryz.call23 (fun w' hw' => PSpot_spec bp ((i : Int) - 1) l sp ids os w' (h' hw' hNs) hls) ?_
      rw [hH, if_neg (by simp)]
      refine ko (And.intro @uLO_1 @hq4) ?_
      refine Cw.permL (M := (b3, mkO v0 v1 v3 v2) :: (b6, Obj.cells #[vi ob0.k, vs ob0.t] 43 (0, 0)) :: DG) (by classical exact List.perm_iff_count.2 fun a => by simp only [List.count_append, List.count_cons, List.count_nil] <;> omega) ?_
      first | with_reducible refine ks [] @uLO_1 ?_ | refine kp @uLO_1 ?_
      refine Again.mk ⟨i + 1, (b6, Obj.cells #[vi ob0.k, vs ob0.t] 43 (0, 0)) :: DG⟩ (by show l.length + 2 - (i + 1) < l.length + 2 - i; omega) ⟨by show i + 1 ≤ l.length + 2; omega, hw6, hNG⟩ rfl (by simp only [hq5]; rfl)
    · have d2 : decide ((i : Int) - 1 < 0) = false := decide_eq_false (by omega)
      by_cases h1i : i = l.length + 1
      · have d3 : (((i : Int) - 1) == (l.length : Int)) = true := by rw [beq_iff_eq]; omega
        have hH : hasV l ((i : Int) - 1) = false := by unfold hasV; rw [decide_eq_false (p := (i : Int) - 1 < (l.length : Int)) (by omega), Bool.and_false]
        rw [hH] at hO ⊢
        rw [if_neg (by simp)] at hO
        subst hO
        refine ko @uLO_1 ?_
        first | with_reducible refine ks [] (And.intro @uLO_1 ( And.intro @ln0 ( And.intro @d2 (@d3)))) ?_ | refine kp (And.intro @uLO_1 ( And.intro @ln0 ( And.intro @d2 (@d3)))) ?_
        refine Ow.build (obV 0 []) rfl build_ob0 ?_
        refine ko (And.intro @uLO_1 ( And.intro @hq1 (@hq2))) ?_
        refine Ow.callFV rfl Tryz.call22 (fun w' hw' => PId_spec bp ((i : Int) - 1) l sp ids os w' (h' hw' hNs) hli) ?_
        rw [hH, if_neg (by simp)]
        refine ko @uLO_1 ?_
        refine Ow.build (.agg (a8 id0.l)) rfl build_idZ ?_
        refine ko (And.intro @uLO_1 @hq3) ?_
        refine Ow.callFV rfl Tryz.call23 (fun w' hw' => PSpot_spec bp ((i : Int) - 1) l sp ids os w' (h' hw' hNs) hls) ?_
        rw [hH, if_neg (by simp)]
        refine ko (And.intro @uLO_1 @hq4) ?_
        refine Cw.permL (M := (b3, mkO v0 v1 v3 v2) :: (b6, Obj.cells #[vi ob0.k, vs ob0.t] 43 (0, 0)) :: DG) (by classical exact List.perm_iff_count.2 fun a => by simp only [List.count_append, List.count_cons, List.count_nil] <;> omega) ?_
        first | with_reducible refine ks [] @uLO_1 ?_ | refine kp @uLO_1 ?_
        refine Again.mk ⟨i + 1, (b6, Obj.cells #[vi ob0.k, vs ob0.t] 43 (0, 0)) :: DG⟩ (by show l.length + 2 - (i + 1) < l.length + 2 - i; omega) ⟨by show i + 1 ≤ l.length + 2; omega, hw6, hNG⟩ rfl (by simp only [hq5]; rfl)
      · have d3 : (((i : Int) - 1) == (l.length : Int)) = false := beq_eq_false_iff_ne.2 (by omega)
        obtain ⟨k, rfl⟩ : ∃ k, i = k + 1 := ⟨i - 1, by omega⟩
        have hk : k < l.length := by omega
        have hki : ((k + 1 : Nat) : Int) - 1 = (k : Int) := by omega
        rw [hki] at d2 d3 hO ⊢
        have hH : hasV l (k : Int) = true := by unfold hasV; rw [decide_eq_true (by omega), decide_eq_true (by omega)]; rfl
        rw [hH] at hO ⊢
        rw [if_pos rfl, Int.toNat_natCast] at hO
        have hk1 : k < sp.length := by omega
        have hk2 : k < ids.length := by omega
        have hk3 : k < os.length := by omega
        have i1 := r1.idx false k hk1
        rw [Nat.mul_one] at i1
        have i2 := r2.idx true k hk2
        have i3 := r3.idx true k hk3
        have l1 := row_natG r1 hk1
        have l2 := row_id r2 hk2
        have l3 := row_obj r3 hk3
        rw [hO] at l3
        have hf := hfind k hk
        have rd1 : readB w ((b6, Obj.cells #[vi O.k, vs O.t] 43 (0, 0)) :: (b3, mkO v0 v1 v3 v2) :: DG) c1 = some (.cells a1 E1 f1) := by rw [read_none (hNs.not (r1.lt (by omega)))]; exact r1.has (by omega)
        have rd2 : readB w ((b6, Obj.cells #[vi O.k, vs O.t] 43 (0, 0)) :: (b3, mkO v0 v1 v3 v2) :: DG) c2 = some (.cells a2 E2 f2) := by rw [read_none (hNs.not (r2.lt (by omega)))]; exact r2.has (by omega)
        have rd3 : readB w ((b6, Obj.cells #[vi O.k, vs O.t] 43 (0, 0)) :: (b3, mkO v0 v1 v3 v2) :: DG) c3 = some (.cells a3 E3 f3) := by rw [read_none (hNs.not (r3.lt (by omega)))]; exact r3.has (by omega)
        refine ko @uLO_1 ?_
        first | with_reducible refine ks [] (And.intro @uLO_1 ( And.intro @ln0 ( And.intro @d2 (@d3)))) ?_ | refine kp (And.intro @uLO_1 ( And.intro @ln0 ( And.intro @d2 (@d3)))) ?_
        refine Cw.regionS [b6, b3, c1, c2, c3] [0, 1, 2, 4, 6, 3, 5, 7, 8, 9, 10, 11, 12, 13, 15, 17, 16, 18, 19, 14, 20, 21, 22, 23, 24, 26, 28, 27, 29, 30, 25, 31, 32, 33, 34, 35, 37, 41, 36, 38, 39, 40, 42, 43] [] (by kernel_rfl) (by kernel_rfl) (by kernel_rfl) ?_
        simp only [nl_cons, ↓pickL_nil, ↓pickL_cons, ↓nthO_0, ↓nthO_s, consO_some]
        refine kq (And.intro @uLO_1 ( And.intro @i1 ( And.intro @i2 ( And.intro @i3 ( And.intro @rd1 ( And.intro @rd2 ( And.intro @rd3 ( And.intro @l1 ( And.intro @l2 ( And.intro @l3 (@decide_true))))))))))) ?_
        refine Ow.soft rfl rfl rfl ?_
        refine Ow.callFV rfl Tryz.call22 (fun w' hw' => PId_spec bp (k : Int) l sp ids os w' (h' hw' hNs) hli) ?_
        rw [hH, if_pos rfl, Int.toNat_natCast]
        with_reducible refine Ow.nil ?_
        refine ⟨by intro b hb; simp only [List.mem_cons, List.not_mem_nil, or_false] at hb; (try subst hb); rfl, ?_⟩
        have hns : (((sp.getD k 0 : Nat) : Int) != ((sp.getD k 0 : Nat) : Int)) = false := bne_self_eq_false _
        have hnk : ((k : Int) != (k : Int)) = false := bne_self_eq_false _
        refine kq (And.intro @uLO_1 ( And.intro @i1 ( And.intro @rd1 (@l1)))) ?_
        refine Ow.soft rfl rfl rfl ?_
        refine Ow.callFV rfl Tryz.call23 (fun w' hw' => PSpot_spec bp (k : Int) l sp ids os w' (h' hw' hNs) hls) ?_
        rw [hH, if_pos rfl, Int.toNat_natCast]
        with_reducible refine Ow.nil ?_
        refine ⟨by intro b hb; simp only [List.mem_cons, List.not_mem_nil, or_false] at hb; (try subst hb); rfl, ?_⟩
        refine kq (And.intro @uLO_1 ( And.intro @hns ( And.intro @i2 ( And.intro @rd2 (@l2))))) ?_
        refine Ow.soft rfl rfl rfl ?_
        refine Ow.callFV rfl Tryz.call24 (fun w' hw' => PFind_spec bp (ids.getD k id0) l sp ids os w' (h' hw' hNs) (by omega)) ?_
        rw [hf]
        with_reducible refine Ow.nil ?_
        refine ⟨by intro b hb; simp only [List.mem_cons, List.not_mem_nil, or_false] at hb; (try subst hb); rfl, ?_⟩
        refine kq (And.intro @uLO_1 @hnk) ?_
        refine Cw.permL (M := (b3, mkO v0 v1 v3 v2) :: (b6, Obj.cells #[vi O.k, vs O.t] 43 (0, 0)) :: DG) (by classical exact List.perm_iff_count.2 fun a => by simp only [List.count_append, List.count_cons, List.count_nil] <;> omega) ?_
        first | with_reducible refine ks [] @uLO_1 ?_ | refine kp @uLO_1 ?_
        have hq5 : (k : Int) + 1 = ((k + 1 + 1 : Nat) : Int) - 1 := by omega
        refine Again.mk ⟨k + 1 + 1, (b6, Obj.cells #[vi O.k, vs O.t] 43 (0, 0)) :: DG⟩ (by show l.length + 2 - (k + 1 + 1) < l.length + 2 - (k + 1); omega) ⟨by show k + 1 + 1 ≤ l.length + 2; omega, hw6, hNG⟩ rfl (by simp only [hq5]; rfl)
  · have d1 : decide ((i : Int) - 1 ≤ (l.length : Int)) = false := decide_eq_false (by omega)
    first | with_reducible refine ks [] (And.intro @uLO_1 ( And.intro @ln0 (@d1))) ?_ | refine kp (And.intro @uLO_1 ( And.intro @ln0 (@d1))) ?_
    refine ⟨_, (ke @uLO_1), hNr, ?_⟩
    rfl
end Go.Proofs
end
section
open Go Go.Proofs Go.Sx Go.StP Go.Flo
namespace Go.Proofs
set_option maxRecDepth 10000
set_option maxHeartbeats 1000000
set_option linter.unusedSimpArgs false
/-! ### PackOpens -/
theorem idxG_app (x : IdL) : ∀ (l r : List IdL) (i : Nat), idxG x (l ++ r) i = if (l.any fun y => x.l == y.l) = true then idxG x l i else idxG x r (i + l.length)
  | [], r, i => by simp
  | y :: l, r, i => by
    rw [List.cons_append, idxG_cons, idxG_cons, List.any_cons]
    cases h : (x.l == y.l)
    · simp only [Bool.false_or, Bool.false_eq_true, ↓reduceIte]
      rw [idxG_app x l r (i + 1), List.length_cons, show i + 1 + l.length = i + (l.length + 1) by omega]
    · simp only [Bool.true_or, ↓reduceIte]
/-- Each id's place is the first at which it stands. -/
def Dst (l : List IdL) : Prop := ∀ k, k < l.length → idxG (l.getD k id0) l 0 = (k : Int)
theorem dst_snoc {l : List IdL} {x : IdL} (h : Dst l) (hx : (l.any fun y => x.l == y.l) = false) : Dst (l ++ [x]) := by
  intro k hk
  rw [List.length_append, List.length_singleton] at hk
  by_cases hkl : k < l.length
  · have e : (l ++ [x]).getD k id0 = l.getD k id0 := by rw [List.getD_eq_getElem?_getD, List.getElem?_append_left hkl, List.getD_eq_getElem?_getD]
    rw [e, idxG_app, if_pos, h k hkl]
    rw [List.any_eq_true]
    exact ⟨l.getD k id0, getD_mem hkl, beq_self_eq_true _⟩
  · obtain rfl : k = l.length := by omega
    have e : (l ++ [x]).getD l.length id0 = x := by rw [List.getD_eq_getElem?_getD, List.getElem?_append_right (Nat.le_refl _)]; simp
    rw [e, idxG_app, if_neg (by rw [hx]; simp), idxG_cons, beq_self_eq_true, if_pos rfl, Nat.zero_add]
theorem fillGo_dst : ∀ (a : List (List UInt8)) (ids : List IdL) (os : List ObL) (p : List IdL × List ObL), Dst ids → fillGo a ids os = some p → Dst p.1
  | [], ids, os, p, hd, h => by cases h; exact hd
  | s :: a, ids, os, p, hd, h => by
    rw [fillGo] at h
    split at h
    · rename_i hc
      exact fillGo_dst a _ _ p (dst_snoc hd hc.2) h
    · cases h
theorem openV_dst {b : List UInt8} {l : List PartL} {sp : List Nat} {q : List IdL × List ObL} (h : openV b = some (l, sp, q)) : Dst q.1 := by
  unfold openV at h
  split at h
  · cases hf : fillV (readP (unsealV b).1).1 with
    | none => rw [hf] at h; cases h
    | some q' =>
      rw [hf] at h
      cases h
      unfold fillV at hf
      cases ha : allV (readP (unsealV b).1).1 with
      | error e => rw [ha] at hf; cases hf
      | ok ts => rw [ha] at hf; exact fillGo_dst ts [] [] _ (fun k hk => absurd hk (Nat.not_lt_zero _)) hf
  · cases h
set_option linter.defProp false
def uLP_1 := And.intro (And.intro (And.intro (@rdIn_v8) (And.intro (@rdIn_vi) (@load_mk))) (And.intro (And.intro (@load_mk3) (@load_ob)) (And.intro (@load_ob0) (@load_ob1)))) (And.intro (And.intro (And.intro (@store_ob) (@load_idb)) (And.intro (@neIdA) (@neObK))) (And.intro (And.intro (@nilPkE) (@nilPkN)) (And.intro (@Sx.tup2_0) (@Sx.tup2_1))))
theorem PackOpens_spec (b : List UInt8) (x : IdL) (n : Int) (w : World) (hG : GlobE w) (hC : GlobC w) : Rets Tryz.prog 4 #[vs b, .agg (a8 x.l), vi n] w (fun v D => v = .bool true ∧ D = []) := by
  refine Rets.enterV Tryz.func4 rfl (rs := [.tmp 6]) Tryz.results4 Tryz.ntmps4 ?_
  refine kf ?_
  first | with_reducible refine ks [] @uLP_1 ?_ | refine kp @uLP_1 ?_
  refine Ow.box rfl rfl fun b4 hb4 hw4 => ?_
  simp only [ev_tmp, getF_0, getF_s, cells_agg, List.nil_append, List.cons_append]
  refine Ow.go rfl ?_
  simp (disch := (first | assumption | omega | (simp only [lenS, lenT, UInt64.reduceToNat]; try omega))) only [↓Sx.S0, Sx.S1, Tryz.fx, uLP_1, Nat.reduceAdd, Nat.reducePow, Int.reducePow, Nat.reduceBEq, ↓reduceIte, UInt8.reduceToNat, UInt16.reduceToNat, UInt32.reduceToNat, UInt64.reduceToNat, Int.reduceToNat]
  first | with_reducible refine ks [] @uLP_1 ?_ | refine kp @uLP_1 ?_
  refine Ow.callFV rfl Tryz.call12 (fun w' hw' => aliveP_spec w' (hG.new hw' ⟨hw4, trivial⟩) (hC.newP hw' ⟨hw4, trivial⟩)) ?_
  refine ko @uLP_1 ?_
  by_cases hbl : 8000 < b.length
  · have e1 : decide ((8000 : Int) < (b.length : Int)) = true := decide_eq_true (by omega)
    first | with_reducible refine ks [] (And.intro @uLP_1 @e1) ?_ | refine kp (And.intro @uLP_1 @e1) ?_
    refine Ow.callFV rfl Tryz.call12 (fun w' hw' => aliveP_spec w' (hG.new hw' ⟨hw4, trivial⟩) (hC.newP hw' ⟨hw4, trivial⟩)) ?_
    refine ko @uLP_1 ?_
    first | with_reducible refine ks [] @uLP_1 ?_ | refine kp @uLP_1 ?_
    refine ⟨_, (ke @uLP_1), ⟨hw4, trivial⟩, ?_⟩
    rfl
  have e1 : decide ((8000 : Int) < (b.length : Int)) = false := decide_eq_false (by omega)
  first | with_reducible refine ks [] (And.intro @uLP_1 @e1) ?_ | refine kp (And.intro @uLP_1 @e1) ?_
  refine Ow.callC rfl rfl Tryz.call17 (fun w' hw' => OpenP_spec b w' (hG.new hw' ⟨hw4, trivial⟩) (hC.newP hw' ⟨hw4, trivial⟩) (by omega)) (fun B1 v1 D1 hA1 hB1 hN1 hS1 => ?_)
  have hN1' : New w.heap.size D1 := hN1.mono hB1
  obtain ⟨p7, e7, rfl, hP⟩ : ∃ p e, v1 = .tuple #[p, vi e] ∧ ((openV b = none ∧ p = .pointer none ∧ e = 2) ∨ ∃ q bp, openV b = some q ∧ p = vp bp 0 ∧ e = 0 ∧ PackD D1 bp q.1 q.2.1 q.2.2.1 q.2.2.2) := by
    unfold OpenS at hS1
    cases ho : openV b with
    | none => rw [ho] at hS1; have hS1' : v1 = .tuple #[.pointer none, vi 2] := hS1; exact ⟨_, _, hS1', .inl ⟨rfl, rfl, rfl⟩⟩
    | some q => rw [ho] at hS1; obtain ⟨bp, rfl, hh⟩ := hS1; exact ⟨_, _, rfl, .inr ⟨q, bp, rfl, rfl, rfl, hh⟩⟩
  refine ko @uLP_1 ?_
  first | with_reducible refine ks [] @uLP_1 ?_ | refine kp @uLP_1 ?_
  refine Ow.callC rfl rfl Tryz.call18 (fun w' hw' => OpenR_spec b w' (by omega)) (fun B2 v2 D2 hA2 hB2 hN2 hS2 => ?_)
  have hN2' : New w.heap.size D2 := hN2.mono hB2
  obtain ⟨c0, c1, c2, c3, ok, rfl, hcc, hok⟩ : ∃ c0 c1 c2 c3 ok, v2 = .tuple #[mkV c0 c1 c2 c3, .bool ok] ∧ (OneC c0 ∧ OneC c1 ∧ OneC c2 ∧ OneC c3) ∧ ((openV b = none ∧ ok = false) ∨ ∃ q, openV b = some q ∧ ok = true ∧ GrI D2 114 3 c0 q.1.length (q.1.map partC).flatten ∧ GrI D2 3 1 c1 q.2.1.length (q.2.1.map natC).flatten ∧ GrI D2 37 32 c3 q.2.2.1.length (q.2.2.1.map idLC).flatten ∧ GrI D2 43 2 c2 q.2.2.2.length (q.2.2.2.map obC).flatten) := by
    unfold OpenDS at hS2
    cases ho : openV b with
    | none =>
      rw [ho] at hS2
      obtain ⟨c0, c1, c2, c3, rfl, hc⟩ := hS2
      exact ⟨c0, c1, c2, c3, false, rfl, hc, .inl ⟨rfl, rfl⟩⟩
    | some q =>
      rw [ho] at hS2
      obtain ⟨x, rfl, c0, c1, c2, c3, rfl, h1, h2, h3, h4⟩ := hS2
      exact ⟨c0, c1, c3, c2, true, rfl, ⟨gri_cell h1, gri_cell h2, gri_cell h4, gri_cell h3⟩, .inr ⟨q, rfl, rfl, h1, h2, h3, h4⟩⟩
  have hs2 := fun a => store_mk (v0 := .slice none 0 0) (v1 := .slice none 0 0) (v2 := .slice none 0 0) (v3 := .slice none 0 0) hcc a
  refine ko @uLP_1 ?_
  refine Ow.alloc rfl rfl zrMk fun b9 hb9 hw9 => ?_
  simp only [mk_zc]
  have h49 : b4 < b9 := above_to hb9 (by simp [keys])
  refine Ow.permL (M := (b9, mkO (.slice none 0 0) (.slice none 0 0) (.slice none 0 0) (.slice none 0 0)) :: (b4, .cells (a8 x.l) 37 (0, 0)) :: (D1 ++ D2)) (by classical exact List.perm_iff_count.2 fun a => by simp only [List.count_append, List.count_cons, List.count_nil] <;> omega) ?_
  have hND : New w.heap.size (D1 ++ D2) := hN1'.app hN2'
  have lnN : ∀ m, lenV (.sl m) (.slice none 0 0) = some (vi 0) := fun m => rfl
  have z1 : ((0 : Int) != 0) = false := rfl
  have z2 : ((-1 : Int) != -1) = false := rfl
  have z3 : (id0.l == id0.l) = true := beq_self_eq_true _
  have hxl := x.h
  refine ko (And.intro @uLP_1 @hs2) ?_
  first | with_reducible refine ks [] @uLP_1 ?_ | refine kp @uLP_1 ?_
  refine Ow.callFV rfl Tryz.call19 (fun w' hw' => NObject_spec n w') ?_
  refine ko @uLP_1 ?_
  refine Ow.alloc rfl rfl zrOb fun b12 hb12 hw12 => ?_
  simp only [cells_agg, List.nil_append, List.cons_append]
  have h912 : b9 < b12 := above_to hb12 (by simp [keys])
  refine Ow.permL (M := (b12, .cells #[vi 0, vs []] 43 (0, 0)) :: (b9, mkO c0 c1 c2 c3) :: (b4, .cells (a8 x.l) 37 (0, 0)) :: (D1 ++ D2)) (by classical exact List.perm_iff_count.2 fun a => by simp only [List.count_append, List.count_cons, List.count_nil] <;> omega) ?_
  have hNr : New w.heap.size ((b12, Obj.cells #[vi 0, vs []] 43 (0, 0)) :: (b9, mkO c0 c1 c2 c3) :: (b4, .cells (a8 x.l) 37 (0, 0)) :: (D1 ++ D2)) := ⟨hw12, hw9, hw4, hND⟩
  refine ko @uLP_1 ?_
  first | with_reducible refine ks [] @uLP_1 ?_ | refine kp @uLP_1 ?_
  refine Ow.callFV rfl Tryz.call20 (fun w' hw' => NLen_spec w') ?_
  refine ko (And.intro @uLP_1 @z1) ?_
  refine Ow.callFV rfl Tryz.call21 (fun w' hw' => NParts_spec w') ?_
  refine ko (And.intro @uLP_1 ( And.intro @lnN (@z1))) ?_
  refine Ow.callFV rfl Tryz.call22 (fun w' hw' => NId_spec n w') ?_
  refine ko @uLP_1 ?_
  refine Ow.build (.agg (a8 id0.l)) rfl build_idZ ?_
  refine ko (And.intro @uLP_1 @z3) ?_
  refine Ow.callFV rfl Tryz.call23 (fun w' hw' => NSpot_spec n w') ?_
  refine ko (And.intro @uLP_1 @z1) ?_
  refine Ow.build (obV 0 []) rfl build_ob0 ?_
  refine ko (And.intro @uLP_1 @decide_true) ?_
  refine Ow.callFV rfl Tryz.call24 (fun w' hw' => NFind_spec x w') ?_
  refine ko (And.intro @uLP_1 @z2) ?_
  cases ho : openV b with
  | none =>
    rw [ho] at hP hok
    obtain ⟨-, rfl, rfl⟩ : (none : Option (List PartL × List Nat × List IdL × List ObL)) = none ∧ p7 = .pointer none ∧ e7 = 2 := by
      rcases hP with h | ⟨q, bp, h, -⟩
      · exact h
      · cases h
    obtain rfl : ok = false := by
      rcases hok with h | ⟨q, h, -⟩
      · exact h.2
      · cases h
    first | with_reducible refine ks [] @uLP_1 ?_ | refine kp @uLP_1 ?_
    refine Ow.callFV rfl Tryz.call12 (fun w' hw' => aliveP_spec w' (hG.new hw' hNr) (hC.newP hw' hNr)) ?_
    have z4 : ((2 : Int) == 2) = true := rfl
    refine ko (And.intro @uLP_1 @z4) ?_
    first | with_reducible refine ks [] @uLP_1 ?_ | refine kp @uLP_1 ?_
    refine ⟨_, (ke @uLP_1), hNr, ?_⟩
    rfl
  | some q =>
    rw [ho] at hP hok
    obtain ⟨bp, rfl, rfl, hPk⟩ : ∃ bp, p7 = vp bp 0 ∧ e7 = 0 ∧ PackD D1 bp q.1 q.2.1 q.2.2.1 q.2.2.2 := by
      rcases hP with h | ⟨q', bp, h, hh⟩
      · cases h.1
      · cases h; exact ⟨bp, hh⟩
    obtain ⟨rfl, hg0, hg1, hg2, hg3⟩ : ok = true ∧ GrI D2 114 3 c0 q.1.length (q.1.map partC).flatten ∧ GrI D2 3 1 c1 q.2.1.length (q.2.1.map natC).flatten ∧ GrI D2 37 32 c3 q.2.2.1.length (q.2.2.1.map idLC).flatten ∧ GrI D2 43 2 c2 q.2.2.2.length (q.2.2.2.map obC).flatten := by
      rcases hok with h | ⟨q', h, hh⟩
      · cases h.1
      · cases h; exact hh
    obtain ⟨hs1, hs2, hs3, hs4, hs5⟩ := openV_small (l := q.1) (sp := q.2.1) (q := q.2.2) ho
    have hdst := openV_dst (l := q.1) (sp := q.2.1) (q := q.2.2) ho
    have z4 : ((0 : Int) == 0) = true := rfl
    have hPi : ∀ {w' : World} {L : Heap}, Hp w L w' → (∀ p, p ∈ D1 ++ D2 → p ∈ L) → PackIn w' bp q.1 q.2.1 q.2.2.1 q.2.2.2 := fun hw' hm => hPk.inW (fun p hp => hm p (List.mem_append_left _ hp)) hw'
    first | with_reducible refine ks [] @uLP_1 ?_ | refine kp @uLP_1 ?_
    refine Cw.regionS [b12, b9, b4] [0, 1, 2, 3, 4, 5, 6, 7, 8, 9, 10, 11, 12, 13, 14, 15, 18, 16, 19, 20, 17, 21, 22, 23, 24] [] (by kernel_rfl) (by kernel_rfl) (by kernel_rfl) ?_
    simp only [nl_cons, ↓pickL_nil, ↓pickL_cons, ↓nthO_0, ↓nthO_s, consO_some]
    refine Ow.soft rfl rfl rfl ?_
    refine Ow.callFV rfl Tryz.call12 (fun w' hw' => aliveP_spec w' (hG.new hw' hNr) (hC.newP hw' hNr)) ?_
    with_reducible refine Ow.nil ?_
    refine ⟨by intro b hb; simp only [List.mem_cons, List.not_mem_nil, or_false] at hb; (try subst hb); rfl, ?_⟩
    refine kq (And.intro @uLP_1 @z4) ?_
    refine Ow.soft rfl rfl rfl ?_
    refine Ow.callFV rfl Tryz.call25 (fun w' hw' => SameK_spec bp c0 c1 c3 c2 q.1 q.2.1 q.2.2.1 q.2.2.2 w' (hPi hw' (fun p hp => by simp only [List.mem_cons]; exact .inr (.inr (.inr hp)))) ((hg0.mono (fun p hp => by simp [hp])).slV hw' rfl rfl partC_len) ((hg1.mono (fun p hp => by simp [hp])).slV hw' rfl rfl natC_len) ((hg2.mono (fun p hp => by simp [hp])).slV hw' rfl rfl idLC_len') ((hg3.mono (fun p hp => by simp [hp])).slV hw' rfl rfl obC_len) (by omega) hs3 hs4 hs5 (fun k hk => hdst k (by omega))) ?_
    with_reducible refine Ow.nil ?_
    refine ⟨by intro b hb; simp only [List.mem_cons, List.not_mem_nil, or_false] at hb; (try subst hb); rfl, ?_⟩
    refine kq @uLP_1 ?_
    refine Ow.soft rfl rfl rfl ?_
    refine Ow.callFV rfl Tryz.call24 (fun w' hw' => PFind_spec bp x q.1 q.2.1 q.2.2.1 q.2.2.2 w' (hPi hw' (fun p hp => by simp only [List.mem_cons]; exact .inr (.inr (.inr hp)))) (by omega)) ?_
    with_reducible refine Ow.nil ?_
    refine ⟨by intro b hb; simp only [List.mem_cons, List.not_mem_nil, or_false] at hb; (try subst hb); rfl, ?_⟩
    refine Ow.soft rfl rfl rfl ?_
    refine Ow.callFV rfl Tryz.call26 (fun w' hw' => FindR_spec c3 q.2.2.1 x w' ((hg2.mono (fun p hp => by simp [hp])).slV hw' rfl rfl idLC_len') (by omega)) ?_
    with_reducible refine Ow.nil ?_
    refine ⟨by intro b hb; simp only [List.mem_cons, List.not_mem_nil, or_false] at hb; (try subst hb); rfl, ?_⟩
    have z5 : (idxG x q.2.2.1 0 == idxG x q.2.2.1 0) = true := beq_self_eq_true _
    refine kq (And.intro @uLP_1 @z5) ?_
    first | with_reducible refine ks [] @uLP_1 ?_ | refine kp @uLP_1 ?_
    refine ⟨_, (ke @uLP_1), hNr, ?_⟩
    rfl
end Go.Proofs
end
namespace Go.Sx
open Go Go.ChangeShapes Go.WideShapes Go.RowKit

theorem Hp.same0 {W W' : World} (h : Hp W [] W') {b : Nat} (hb : b < W.heap.size) : W'.heap[b]? = W.heap[b]? := h.old b hb (fun hm => by cases hm)
theorem Hp.kept {W W' : World} (h : Hp W [] W') (may : MemPlace → Prop) : W.keptBut W' may := by
  refine ⟨h.os, h.output, fun i hi => ?_⟩
  rw [h.same0 hi]
  cases ho : W.heap[i]? with
  | none => rfl
  | some o =>
    cases o <;> first
      | exact ⟨rfl, rfl, rfl, fun _ _ => rfl⟩
      | exact .inr ⟨rfl, rfl⟩
      | rfl
theorem Hp.sameAt {W W' : World} (h : Hp W [] W') {p : MemPlace} (hp : p.block < W.heap.size) : W.sameAt W' p := by
  cases p with
  | cell b off =>
    have := h.same0 (b := b) hp
    simp only [World.sameAt, World.cell?, this]
  | map b => exact h.same0 hp
theorem Hp.frozen {W W' : World} (h : Hp W [] W') {a : Addr} (ha : a.block < W.heap.size) : W'.frozen? a = W.frozen? a := by
  simp only [World.frozen?, h.same0 ha]

section
variable {H : Type} {enc : TypeId × Value → H} {P : Program}
theorem trodAll_stays (hl : laidOutB P = true) {W W' : World} {sp : Nat → Bool} (hp : Hp W [] W') : ∀ {ts : List TypeId} {vs : List Value} {ds : List (DataW H)} {ps : List MemPlace},
    (∀ t ∈ ts, P.readableRec t = true ∧ t < P.types.size) → (∀ p ∈ ps, p.block < W.heap.size) → (∀ p ∈ ps, sp p.block = true) →
    DataW.TrodAll enc P W 0 (fun _ => true) true ts vs ds ps → DataW.TrodAll enc P W' 0 sp true ts vs ds ps
  | [], _, _, _, _, _, _, h => by
    obtain ⟨rfl, rfl, rfl⟩ := trodAll_nil h
    exact trodAll_mk0
  | t :: ts, _, _, _, ht, hlt, hs, h => by
    obtain ⟨v, vs, d, ds, p, q, rfl, rfl, rfl, h1, h2⟩ := trodAll_cons h
    have hlt1 : ∀ x ∈ p, x.block < W.heap.size := fun x hx => hlt x (List.mem_append_left _ hx)
    exact trodAll_cons_mk (WideElems.Trod_stays hl (ht t List.mem_cons_self).1 (ht t List.mem_cons_self).2 h1 (fun x hx => hp.sameAt (hlt1 x hx)) (fun x hx => hs x (List.mem_append_left _ hx)))
      (trodAll_stays hl hp (fun u hu => ht u (List.mem_cons_of_mem _ hu)) (fun x hx => hlt x (List.mem_append_right _ hx)) (fun x hx => hs x (List.mem_append_right _ hx)) h2)

/-- WHAT THE ROW OF A LAW ASKS, from 'it answers true and turns nothing that was there'. -/
theorem post_true {f : Func} {s : ChangeSpec} {W W' : World} {args : Array Value} {ds gs : List (DataW H)} {before : List MemPlace} {tb : TypeId} (hl : laidOutB P = true)
    (hW : DataW.Whole enc P f.params.toList s.vars false W args.toList ds gs before) (hv : s.vars = []) (hpar : ∀ t ∈ f.params.toList, P.readableRec t = true ∧ t < P.types.size)
    (hr : f.resultTypes = #[tb]) (htb : P.underlying tb = some .bool) (hfn : s.fn H ds = { results := [.lit (.bool true)], args := ds }) (hp : Hp W [] W') :
    s.post enc P f false true false false W args (.bool true) W' := by
  have hlt := hW.lt
  have hW0 := hW
  obtain ⟨p, q, hA, hV, rfl, hz, hn⟩ := hW
  rw [hv] at hV
  obtain ⟨rfl, rfl⟩ := trodVars_none hV
  rw [List.append_nil] at hW0 hlt hz
  have hargs : ∀ sp : Nat → Bool, (∀ x ∈ p, sp x.block = true) → DataW.TrodAll enc P W' 0 sp true f.params.toList args.toList (s.fn H (ds ++ [])).args p := fun sp hs => by
    rw [List.append_nil, hfn]
    exact trodAll_stays hl hp hpar hlt hs hA
  have hvars : ∀ sp : Nat → Bool, DataW.TrodVars enc P W' sp s.vars (s.fn H (ds ++ [])).vars [] := fun sp => by
    rw [List.append_nil, hfn, hv]; rfl
  have hres : ∀ (b : Nat) (sp : Nat → Bool) (hd : Bool), DataW.TrodAll enc P W' b sp hd f.resultTypes.toList ((Value.bool true).resultList f.resultTypes.size) (s.fn H (ds ++ [])).results [] := fun b sp hd => by
    rw [List.append_nil, hfn, hr]
    exact trodAll_cons_mk (shut_bool htb true) trodAll_mk0
  have hold : ∀ x ∈ p, (fun b => decide (b < W.heap.size)) x.block = true := fun x hx => by simpa using hlt x hx
  refine ⟨ds, [], p, [], p, [], hW0, hres _ _ _, hargs _ hold, hvars _, hp.kept _, fun _ => ?_⟩
  refine ⟨ok_one hr rfl (okWide_bool_mk htb true), _, _, ([] ++ p) ++ [], ⟨[] ++ p, [], trodAll_append (hargs _ (fun _ _ => rfl)) (hres _ _ _), hvars _, rfl, ?_, fun h => by cases h⟩, ?_⟩
  · intro b off hx
    have hx' : MemPlace.cell b off ∈ p := by simpa using hx
    rw [hp.frozen (hlt _ hx')]
    exact hz b off hx'
  · intro x hx _
    simpa using hx
end
section
variable {P : Program} {W : World} {name : String} {k : IntKind} {zs : List Int}
theorem tab_of_vars {t e : TypeId} {g n : Nat} (hg : P.globalNamed name = some g) (hty : (P.globals[g]?).map (·.type) = some t) (ht : P.underlying t = some (.array n e)) (he : P.underlying e = some (.int k)) (hce : P.cellsOf e = 1) (hct : P.cellsOf t = n) :
    ∀ {laid : List (String × DataW Unit)} {ps : List MemPlace}, DataW.LaidVars P W laid ps → (name, Lib.tabData k zs) ∈ laid → Lib.TabIs P W name k zs
  | [], _, _, hm => by cases hm
  | (n', d') :: rest, ps, h, hm => by
    obtain ⟨g', t', cs, fuel, p, q, hg', ht', hvar, hd, hr, -⟩ := h
    rcases List.mem_cons.1 hm with hm | hm
    · cases hm
      obtain rfl := Option.some.inj (hg.symm.trans hg')
      obtain rfl := Option.some.inj (hty.symm.trans ht')
      unfold Lib.TabIs
      rw [hvar, ← Lib.cells_of_tab ht he hce hct hd]
    · exact tab_of_vars hg hty ht he hce hct hr hm
theorem heap_of_tab {g : Nat} (hg : P.globalNamed name = some g) (h : Lib.TabIs P W name k zs) : ∃ e f, W.heap[g]? = some (.cells (zs.map fun z => Value.int k z).toArray e f) := by
  unfold Lib.TabIs at h
  simp only [World.var?, hg, Option.bind_some] at h
  split at h
  · rename_i cs e f hb
    cases h
    exact ⟨e, f, hb⟩
  · cases h
end
section
variable {H : Type} {enc : TypeId × Value → H} {P : Program}
end
end Go.Sx
namespace Go.Sx
open Go
section
variable {P : Program}
end
end Go.Sx
section
open Go Go.Proofs Go.Sx Go.StP Go.ChangeShapes
namespace Go.Proofs
set_option maxRecDepth 10000
set_option maxHeartbeats 400000
/-! ### Arguments, opened: parts -/
end Go.Proofs
end
section
open Go Go.Proofs Go.Sx
namespace Go.Proofs
set_option maxRecDepth 10000
set_option maxHeartbeats 400000
/-! ### An argument that is an id -/
theorem ints_v8 {H : Type} {tell : TypeId × Value → H} {W : World} {base : Nat} {sp : Nat → Bool} {held : Bool} {n : Nat} {cs : List Value} {y : DataW H × List MemPlace}
    (h : DataW.trod tell Tryz.prog W base sp held n 37 cs = some y) : ∃ i : IdL, cs = i.l.map v8 := by
  obtain ⟨xs, m, -, -, hlen, hxl, hel⟩ := DataW.trod_array Tryz.underlying37 h
  have hc : (Tryz.prog).cellsOf 37 = 32 := by kernel_rfl
  have h1 : (Tryz.prog).cellsOf 5 = 1 := by kernel_rfl
  rw [hc] at hlen
  rw [h1] at hel
  have hex : ∀ i (hi : i < cs.length), ∃ x : UInt8, cs[i] = v8 x := by
    intro i hi
    have h2 := hel i (by omega)
    rw [List.getElem?_eq_getElem (by omega), Nat.mul_one, List.drop_eq_getElem_cons hi, List.take_succ_cons, List.take_zero] at h2
    obtain ⟨z, hz, -, hw⟩ := DataW.trod_int Tryz.underlying5 h2
    simp only [List.cons.injEq, and_true] at hz
    rw [hz]
    simp only [Lit.wf, Bool.and_eq_true, decide_eq_true_eq] at hw
    have hw1 : 0 ≤ z := by simpa [IntKind.min, IntKind.bits, IntKind.signed] using hw.1
    have hw2 : z ≤ 255 := by simpa [IntKind.max, IntKind.bits, IntKind.signed] using hw.2
    refine ⟨UInt8.ofNat z.toNat, ?_⟩
    unfold v8
    rw [UInt8.toNat_ofNat', Nat.mod_eq_of_lt (by omega)]
    congr 1; omega
  have hl : ∃ l : List UInt8, cs = l.map v8 := by
    clear hel hlen hxl h
    induction cs with
    | nil => exact ⟨[], rfl⟩
    | cons c r ih =>
      obtain ⟨x, hx⟩ := hex 0 (by simp)
      obtain ⟨l, hl⟩ := ih (fun i hi => by have := hex (i + 1) (by simpa using hi); simpa using this)
      exact ⟨x :: l, by rw [hl]; simp at hx; simp [hx]⟩
  obtain ⟨l, rfl⟩ := hl
  exact ⟨⟨l, by simpa using hlen⟩, rfl⟩
theorem open_id {H : Type} {tell : TypeId × Value → H} {W : World} {r : Reach} {base b0 : Nat} {sp : Nat → Bool} {held : Bool} {fuel : Nat} {v : Value} {x : DataW H × List MemPlace}
    (hval : Value.okWide Tryz.prog W r b0 37 v) (hd : DataW.trod tell Tryz.prog W base sp held fuel 37 v.cells.toList = some x) : ∃ i : IdL, v = .agg (a8 i.l) := by
  unfold Value.okWide at hval
  rw [Tryz.underlying37] at hval
  obtain ⟨cs, rfl, -⟩ := hval
  rw [cells_agg] at hd
  obtain ⟨i, hi⟩ := ints_v8 hd
  refine ⟨i, ?_⟩
  congr 1
  exact Array.toList_inj.1 (by rw [hi]; rfl)
end Go.Proofs
end
