/-
  Part 5 of the walk: contracts of the functions that the law reaches, and the calculus they stand on.
  No conditions.
-/
import Derived.Test.YtooklcgflocbcaaGreatDoorU4
import Derived.ProofKit
import Derived.OpenShut
import Derived.WideKeyArgs
import Derived.ChangeSame
import Derived.ChangeMaps5
import Derived.Lib.LaidTab
import Derived.SliceStrings
import Derived.DataReads
import Derived.Deep.Strs
section
open Go Go.Proofs Go.Sx
namespace Go.Proofs
set_option maxRecDepth 10000
set_option maxHeartbeats 4000000
set_option linter.unusedSimpArgs false
def stepV (n : UInt32) : UInt32 := if n % 2 == 1 then n / 2 ^^^ 3988292384 else n / 2
theorem stepV_B (n : UInt32) : (stepV n).toBitVec = stB n.toBitVec := by
  have hd : (n / 2).toBitVec = n.toBitVec >>> 1 := by
    apply BitVec.eq_of_toNat_eq
    rw [UInt32.toBitVec_div, BitVec.toNat_udiv, BitVec.toNat_ushiftRight]
    rfl
  have hm : (n % 2 == 1) = n.toBitVec.getLsbD 0 := by
    rw [BitVec.getLsbD, Nat.testBit_eq_decide_div_mod_eq, Nat.pow_zero, Nat.div_one, Bool.eq_iff_iff, beq_iff_eq, decide_eq_true_eq, ← UInt32.toNat_inj, UInt32.toNat_mod]
    rfl
  unfold stepV stB
  rw [hm]
  cases n.toBitVec.getLsbD 0
  · rw [if_neg (by decide), hd]; simp [kB]
  · rw [if_pos rfl, UInt32.toBitVec_xor, hd]; rfl
theorem half_step (n : UInt32) : half32 n = stepV (stepV (stepV (stepV n))) := by
  apply UInt32.toBitVec_inj.1
  rw [stepV_B, stepV_B, stepV_B, stepV_B, halfB]
  unfold half32
  rw [UInt32.toBitVec_xor]
  congr 1
  · apply BitVec.eq_of_toNat_eq
    unfold shr_u32
    rw [BitVec.toNat_ushiftRight, Nat.shiftRight_eq_div_pow]
    have := n.toNat_lt
    simp only [UInt32.toNat_toBitVec, UInt32.toNat_ofNat']
    omega
  · have e : (n &&& 15).toNat = n.toBitVec.toNat % 16 := by
      rw [UInt32.toNat_and, show (15 : UInt32).toNat = 2 ^ 4 - 1 from rfl, Nat.and_two_pow_sub_one_eq_mod]
      rfl
    rw [e]
    have hlt : n.toBitVec.toNat % 16 < 16 := Nat.mod_lt _ (by omega)
    generalize n.toBitVec.toNat % 16 = m at hlt
    have : ∀ m, m < 16 → (hvL.getD m 0).toBitVec = hvB.getD m 0 := by decide
    exact this m hlt
def steps (n : UInt32) : Nat → UInt32
  | 0 => n
  | k + 1 => stepV (steps n k)
theorem feed_steps (n : UInt32) : steps n 8 = halfs n 2 := by
  show stepV (stepV (stepV (stepV (stepV (stepV (stepV (stepV n))))))) = half32 (half32 n)
  rw [half_step, half_step]
set_option linter.defProp false
def uWC_1 := And.intro (And.intro (@rdIn_v8) (@rdIn_v16)) (And.intro (@rdIn_v32) (And.intro (@rdIn_v64) (@rdIn_vi)))
theorem Step_spec (n : UInt32) (w : World) : Rets Tryz.prog 192 #[v32 n] w (fun v D => v = v32 (stepV n) ∧ D = []) := by
  have hrem : binV .rem (v32 n) (v32 2) = some (v32 (n % 2)) := bin_rem_u32 _ _ (by decide)
  have hquo : binV .quo (v32 n) (v32 2) = some (v32 (n / 2)) := bin_quo_u32 _ _ (by decide)
  refine Rets.enterV Tryz.func192 rfl (rs := [.tmp 2]) Tryz.results192 Tryz.ntmps192 ?_
  refine kf ?_
  unfold stepV
  first | with_reducible refine ks [] (And.intro uWC_1 ( And.intro @hrem (@hquo))) ?_ | refine kp (And.intro uWC_1 ( And.intro @hrem (@hquo))) ?_
  cases h : (n % 2 == 1)
  · first | with_reducible refine ks [] (And.intro uWC_1 @hquo) ?_ | refine kp (And.intro uWC_1 @hquo) ?_
    refine ⟨_, (ke uWC_1), trivial, ?_⟩
    rfl
  · first | with_reducible refine ks [] (And.intro uWC_1 @hquo) ?_ | refine kp (And.intro uWC_1 @hquo) ?_
    refine ⟨_, (ke uWC_1), trivial, ?_⟩
    rfl
theorem Feed_spec (n : UInt32) (b : UInt8) (w : World) : Rets Tryz.prog 169 #[v32 n, v8 b] w (fun v D => v = v32 (feedV n b) ∧ D = []) := by
  refine Rets.enterV Tryz.func169 rfl (rs := [.tmp 4]) Tryz.results169 Tryz.ntmps169 ?_
  refine kf ?_
  first | with_reducible refine ks [] uWC_1 ?_ | refine kp uWC_1 ?_
  unfold feedV
  generalize n ^^^ UInt32.ofNat b.toNat = m
  rw [← feed_steps, show v32 m = v32 (steps m 0) from rfl]
  refine Cw.loopG (G := Nat) [10, 11, 14, 15, 0, 12, 13, 5] (fun g => [(0, v32 (steps m g)), (5, vi g)]) (fun g => []) (fun g => g ≤ 8) (fun g => 8 - g) 0 rfl rfl ?_ ?_
  · omega
  intro g j hg
  refine kv ?_
  by_cases hlt : g < 8
  · first | with_reducible refine ks [] uWC_1 ?_ | refine kp uWC_1 ?_
    refine Ow.callFV rfl Tryz.call192 (fun w' hw' => Step_spec _ w') ?_
    refine ko uWC_1 ?_
    first | with_reducible refine ks [] uWC_1 ?_ | refine kp uWC_1 ?_
    refine Again.mk (g + 1) (by omega) (by omega) rfl rfl
  · obtain rfl : g = 8 := by omega
    first | with_reducible refine ks [] uWC_1 ?_ | refine kp uWC_1 ?_
    refine ⟨_, (ke uWC_1), trivial, ?_⟩
    rfl
theorem sub_not (n : UInt32) : 4294967295 - n = ~~~ n := by
  apply UInt32.toBitVec_inj.1
  rw [UInt32.toBitVec_sub, UInt32.toBitVec_not, ← BitVec.allOnes_sub_eq_not]
  rfl
theorem refCrc_spec (s : List UInt8) (w : World) (hs : s.length < 1099511627776) : Rets Tryz.prog 136 #[vs s] w (fun v D => v = v32 (crcV s) ∧ D = []) := by
  refine Rets.enterV Tryz.func136 rfl (rs := [.tmp 2]) Tryz.results136 Tryz.ntmps136 ?_
  refine kf ?_
  first | with_reducible refine ks [] uWC_1 ?_ | refine kp uWC_1 ?_
  rw [show v32 4294967295 = v32 (crcGo (~~~ (0 : UInt32)) (s.take 0)) from rfl]
  refine Cw.loopG (G := Nat) [5, 6, 7, 8, 11, 12, 13, 14, 15, 3, 9, 10, 4] (fun g => [(3, v32 (crcGo (~~~ (0 : UInt32)) (s.take g))), (4, vi g)]) (fun g => []) (fun g => g ≤ s.length) (fun g => s.length - g) 0 rfl rfl ?_ ?_
  · omega
  intro g j hg
  refine kv ?_
  by_cases hlt : g < s.length
  · first | with_reducible refine ks [] uWC_1 ?_ | refine kp uWC_1 ?_
    refine Ow.callFV rfl Tryz.call169 (fun w' hw' => Feed_spec _ _ w') ?_
    refine ko uWC_1 ?_
    first | with_reducible refine ks [] uWC_1 ?_ | refine kp uWC_1 ?_
    refine Again.mk (g + 1) (by omega) (by omega) rfl ?_
    rw [crcGo_succ _ _ _ hlt]
    rfl
  · obtain rfl : g = s.length := by omega
    first | with_reducible refine ks [] uWC_1 ?_ | refine kp uWC_1 ?_
    rw [List.take_length]
    rw [sub_not]
    refine ⟨_, (ke uWC_1), trivial, ?_⟩
    rfl
theorem sum4_eq (n : UInt32) : sum4 n = [UInt8.ofNat (n % 256).toNat, UInt8.ofNat (n / 256 % 256).toNat, UInt8.ofNat (n / 65536 % 256).toNat, UInt8.ofNat (n / 16777216).toNat] := by
  show [UInt8.ofNat (shr_u32 n 0).toNat, UInt8.ofNat (shr_u32 n 8).toNat, UInt8.ofNat (shr_u32 n 16).toNat, UInt8.ofNat (shr_u32 n 24).toNat] = _
  have hn := n.toNat_lt
  congr 1
  · apply UInt8.toNat_inj.1
    simp [shr_u32]
  · congr 1
    · apply UInt8.toNat_inj.1
      simp [shr_u32]
    · congr 1
      · apply UInt8.toNat_inj.1
        simp [shr_u32]
      · congr 1
        apply UInt8.toNat_inj.1
        simp [shr_u32]
theorem refSeal_spec (s : List UInt8) (w : World) (hs : s.length < 1099511627776) :
    Rets Tryz.prog 68 #[vs s] w (fun v D => v = vs (sealV s) ∧ D = []) := by
  refine Rets.enterV Tryz.func68 rfl (rs := [.tmp 2]) Tryz.results68 Tryz.ntmps68 ?_
  refine kf ?_
  first | with_reducible refine ks [] uWC_1 ?_ | refine kp uWC_1 ?_
  refine Ow.callFV rfl Tryz.call136 (fun w' hw' => refCrc_spec s w' hs) ?_
  refine ko uWC_1 ?_
  unfold sealV
  rw [sum4_eq]
  generalize crcV s = n
  have h1 : binV .rem (v32 n) (v32 256) = some (v32 (n % 256)) := bin_rem_u32 _ _ (by decide)
  have h2 : binV .quo (v32 n) (v32 256) = some (v32 (n / 256)) := bin_quo_u32 _ _ (by decide)
  have h3 : binV .rem (v32 (n / 256)) (v32 256) = some (v32 (n / 256 % 256)) := bin_rem_u32 _ _ (by decide)
  have h4 : binV .quo (v32 n) (v32 65536) = some (v32 (n / 65536)) := bin_quo_u32 _ _ (by decide)
  have h5 : binV .rem (v32 (n / 65536)) (v32 256) = some (v32 (n / 65536 % 256)) := bin_rem_u32 _ _ (by decide)
  have h6 : binV .quo (v32 n) (v32 16777216) = some (v32 (n / 16777216)) := bin_quo_u32 _ _ (by decide)
  first | with_reducible refine ks [] (And.intro uWC_1 ( And.intro @h1 ( And.intro @h2 ( And.intro @h3 ( And.intro @h4 ( And.intro @h5 (@h6))))))) ?_ | refine kp (And.intro uWC_1 ( And.intro @h1 ( And.intro @h2 ( And.intro @h3 ( And.intro @h4 ( And.intro @h5 (@h6))))))) ?_
  generalize UInt8.ofNat (n % 256).toNat = q0
  generalize UInt8.ofNat (n / 256 % 256).toNat = q1
  generalize UInt8.ofNat (n / 65536 % 256).toNat = q2
  generalize UInt8.ofNat (n / 16777216).toNat = q3
  refine Ow.buildSlice (e := 5) #[v8 q0, v8 q1, v8 q2, v8 q3] rfl rfl (by kernel_rfl) fun b1 hb1 hw1 => ?_
  rw [show (#[v8 q0, v8 q1, v8 q2, v8 q3] : Array Value) = a8 [q0, q1, q2, q3] from rfl]
  have hl4 : [q0, q1, q2, q3].length = 4 := rfl
  have e4 : List.take 4 (List.drop 0 [q0, q1, q2, q3]) = [q0, q1, q2, q3] := rfl
  generalize [q0, q1, q2, q3] = q at *
  refine ko (And.intro uWC_1 @e4) ?_
  first | with_reducible refine ks [] uWC_1 ?_ | refine kp uWC_1 ?_
  refine ⟨_, (ke uWC_1), ⟨hw1, trivial⟩, ?_⟩
  rfl
end Go.Proofs
end
section
open Go Go.Proofs Go.Sx Go.StP Go.Flo
namespace Go.Proofs
set_option maxRecDepth 10000
set_option maxHeartbeats 1000000
set_option linter.unusedSimpArgs false
/-! ### The document's bytes of a pack -/
set_option linter.defProp false
def uLK_1 := And.intro (And.intro (@rdIn_v8) (And.intro (@rdIn_vi) (@load_part0))) (And.intro (@load_part1) (And.intro (@load_part2) (@cells_part)))
theorem BodyR_spec (v0 : Value) (l : List PartL) (w : World) (hv : PartSl w v0 l) (hl : l.length ≤ 200) (hx : SmallP l) (hbs : ∀ k, k < l.length → (l.getD k part0).d = true → -1000 ≤ (l.getD k part0).b ∧ (l.getD k part0).b ≤ 1000) :
    Rets Tryz.prog 69 #[v0] w (fun v D => v = vs (packB l) ∧ D = []) := by
  obtain ⟨b1, off, arr, E, fz, hr⟩ := hv.row
  have ln := hv.len
  have hnl := numL_clamp_len (l.length : Int)
  have ha0 := bin_add_s [83, 80, 75, 49] (numL (clampN (l.length : Int))) (by simp only [List.length_cons, List.length_nil]; omega)
  have hP2 : [83, 80, 75, 49] ++ numL (clampN (l.length : Int)) = magB ++ (numL (clampN (l.length : Int)) ++ partsB 0 (l.take 0)) := by simp [magB, partsB]
  generalize [83, 80, 75, 49] ++ numL (clampN (l.length : Int)) = P0 at ha0 hP2
  refine Rets.enterV Tryz.func69 rfl (rs := [.tmp 2]) Tryz.results69 Tryz.ntmps69 ?_
  refine kf ?_
  first | with_reducible refine ks [] (And.intro @uLK_1 @ln) ?_ | refine kp (And.intro @uLK_1 @ln) ?_
  refine Ow.callFV rfl Tryz.call91 (fun w' hw' => NumberR_spec _ (l.length : Int) w' (Nat.le_refl _)) ?_
  refine ko (And.intro @uLK_1 @ha0) ?_
  first | with_reducible refine ks [] @uLK_1 ?_ | refine kp @uLK_1 ?_
  rw [hP2]
  refine Cw.loopG (G := Nat) [9, 10, 11, 12, 15, 16, 17, 18, 19, 20, 21, 22, 23, 24, 25, 26, 27, 28, 29, 3, 30, 31, 32, 33, 34, 35, 36, 37, 38, 39, 40, 13, 14, 4] (fun g => [(3, vs (magB ++ (numL (clampN (l.length : Int)) ++ partsB 0 (l.take g)))), (4, vi g)]) (fun g => []) (fun g => g ≤ l.length) (fun g => l.length - g) 0 rfl rfl ?_ ?_
  · exact Nat.zero_le _
  intro k jk hk
  refine kv ?_
  have hpt := partsB_len hx k hk
  have hml : (magB ++ (numL (clampN (l.length : Int)) ++ partsB 0 (l.take k))).length = 4 + ((numL (clampN (l.length : Int))).length + (partsB 0 (l.take k)).length) := by rw [List.length_append, List.length_append]; rfl
  by_cases hlt : k < l.length
  · have hsn := partsB_snoc l 0 k hlt
    rw [Nat.zero_add] at hsn
    generalize hM : magB ++ (numL (clampN (l.length : Int)) ++ partsB 0 (l.take k)) = M at *
    have hpl := hx k hlt
    have hbb := hbs k hlt
    have rd := hr.has (by omega)
    have i2 := hr.idx true k hlt
    have ld0 : loadV (some (false, 1)) (some (.cells arr E fz)) (off + k * 3) = some (.bool (l.getD k part0).d) := hr.cell (j := 0) (n := 1) hlt (by omega)
    have ld1 : loadV (some (false, 1)) (some (.cells arr E fz)) (off + k * 3 + 1) = some (vi (l.getD k part0).b) := hr.cell (j := 1) (n := 1) hlt (by omega)
    have ld2 : loadV (some (false, 1)) (some (.cells arr E fz)) (off + k * 3 + 2) = some (vs (l.getD k part0).x) := hr.cell (j := 2) (n := 1) hlt (by omega)
    have hbl := hr.lt (by omega)
    generalize hp : l.getD k part0 = p at *
    have d1 : decide ((k : Int) < (l.length : Int)) = true := decide_eq_true (by omega)
    have hfl := numL_clamp_len (farV k p)
    have hxl := numL_clamp_len (p.x.length : Int)
    have htl : (textL p.x).length = (numL (clampN p.x.length)).length + p.x.length := by unfold textL; rw [List.length_append]
    have ha1 := bin_add_s M (numL (clampN (farV k p))) (by omega)
    have ha2 := bin_add_s (M ++ numL (clampN (farV k p))) (textL p.x) (by rw [List.length_append]; omega)
    have hE : M ++ numL (clampN (farV k p)) ++ textL p.x = magB ++ (numL (clampN (l.length : Int)) ++ partsB 0 (l.take (k + 1))) := by
      rw [hsn, ← hM, pieceB]; simp only [List.append_assoc]
    first | with_reducible refine ks [] (And.intro @uLK_1 ( And.intro @ln ( And.intro @d1 ( And.intro @i2 ( And.intro @rd ( And.intro @ld0 ( And.intro @ld1 (@ld2)))))))) ?_ | refine kp (And.intro @uLK_1 ( And.intro @ln ( And.intro @d1 ( And.intro @i2 ( And.intro @rd ( And.intro @ld0 ( And.intro @ld1 (@ld2)))))))) ?_
    cases hd : p.d with
    | true =>
      have hf : farV k p = (k : Int) - p.b := by unfold farV; rw [if_pos hd]
      have hb2 := hbb hd
      rw [hf] at ha1 ha2 hE
      first | with_reducible refine ks [] (And.intro @uLK_1 ( And.intro @hd ( And.intro @i2 ( And.intro @rd ( And.intro @ld0 ( And.intro @ld1 (@ld2))))))) ?_ | refine kp (And.intro @uLK_1 ( And.intro @hd ( And.intro @i2 ( And.intro @rd ( And.intro @ld0 ( And.intro @ld1 (@ld2))))))) ?_
      refine Ow.callFV rfl Tryz.call91 (fun w' hw' => NumberR_spec _ ((k : Int) - p.b) w' (Nat.le_refl _)) ?_
      refine ko (And.intro @uLK_1 @ha1) ?_
      first | with_reducible refine ks [] (And.intro @uLK_1 ( And.intro @i2 ( And.intro @rd ( And.intro @ld0 ( And.intro @ld1 (@ld2)))))) ?_ | refine kp (And.intro @uLK_1 ( And.intro @i2 ( And.intro @rd ( And.intro @ld0 ( And.intro @ld1 (@ld2)))))) ?_
      refine Ow.callFV rfl Tryz.call92 (fun w' hw' => TextR_spec p.x w' (by omega)) ?_
      refine ko (And.intro @uLK_1 @ha2) ?_
      first | with_reducible refine ks [] @uLK_1 ?_ | refine kp @uLK_1 ?_
      refine Again.mk (G := Nat) (k + 1) (by show l.length - (k + 1) < l.length - k; omega) hlt rfl ?_
      rw [hE]; rfl
    | false =>
      have hf : farV k p = 0 := by unfold farV; rw [if_neg (by rw [hd]; decide)]
      rw [hf] at ha1 ha2 hE
      first | with_reducible refine ks [] (And.intro @uLK_1 ( And.intro @hd ( And.intro @i2 ( And.intro @rd ( And.intro @ld0 ( And.intro @ld1 (@ld2))))))) ?_ | refine kp (And.intro @uLK_1 ( And.intro @hd ( And.intro @i2 ( And.intro @rd ( And.intro @ld0 ( And.intro @ld1 (@ld2))))))) ?_
      refine Ow.callFV rfl Tryz.call91 (fun w' hw' => NumberR_spec _ (0) w' (Nat.le_refl _)) ?_
      refine ko (And.intro @uLK_1 @ha1) ?_
      first | with_reducible refine ks [] (And.intro @uLK_1 ( And.intro @i2 ( And.intro @rd ( And.intro @ld0 ( And.intro @ld1 (@ld2)))))) ?_ | refine kp (And.intro @uLK_1 ( And.intro @i2 ( And.intro @rd ( And.intro @ld0 ( And.intro @ld1 (@ld2)))))) ?_
      refine Ow.callFV rfl Tryz.call92 (fun w' hw' => TextR_spec p.x w' (by omega)) ?_
      refine ko (And.intro @uLK_1 @ha2) ?_
      first | with_reducible refine ks [] @uLK_1 ?_ | refine kp @uLK_1 ?_
      refine Again.mk (G := Nat) (k + 1) (by show l.length - (k + 1) < l.length - k; omega) hlt rfl ?_
      rw [hE]; rfl
  · obtain rfl : k = l.length := by omega
    have d1 : decide ((l.length : Int) < (l.length : Int)) = false := decide_eq_false (by omega)
    first | with_reducible refine ks [] (And.intro @uLK_1 ( And.intro @ln (@d1))) ?_ | refine kp (And.intro @uLK_1 ( And.intro @ln (@d1))) ?_
    refine ⟨_, (ke @uLK_1), trivial, ?_⟩
    rw [List.take_length]; rfl
theorem packB_small {l : List PartL} (hx : SmallP l) (hl : l.length ≤ 200) : (packB l).length < 34359738368 := by
  have hpt := partsB_len hx l.length (Nat.le_refl _)
  have hnl := numL_clamp_len (l.length : Int)
  rw [List.take_length] at hpt
  unfold packB
  rw [List.length_append, List.length_append, show magB.length = 4 from rfl]
  omega
theorem WriteR_spec (v0 : Value) (l : List PartL) (w : World) (hv : PartSl w v0 l) {q : List IdL × List ObL} (hf : fillV l = some q) :
    Rets Tryz.prog 16 #[v0] w (fun v D => v = vs (sealV (packB l)) ∧ D = []) := by
  have hx := fill_small hf
  have hl : l.length ≤ 200 := by
    unfold fillV at hf
    cases ha : allV l with
    | error e => rw [ha] at hf; cases hf
    | ok ts => exact (allV_len ha).2.1
  have hps := packB_small hx hl
  refine Rets.enterV Tryz.func16 rfl (rs := [.tmp 2]) Tryz.results16 Tryz.ntmps16 ?_
  refine kf ?_
  first | with_reducible refine ks [] @uLK_1 ?_ | refine kp @uLK_1 ?_
  refine Ow.callFV rfl Tryz.call69 (fun w' hw' => BodyR_spec v0 l w' (hv.oldN hw' trivial) hl hx (fun k hk hd => by have := fill_base hf hk hd; omega)) ?_
  refine ko @uLK_1 ?_
  refine Ow.callFV rfl Tryz.call68 (fun w' hw' => refSeal_spec (packB l) w' (by omega)) ?_
  refine ko @uLK_1 ?_
  first | with_reducible refine ks [] @uLK_1 ?_ | refine kp @uLK_1 ?_
  refine ⟨_, (ke @uLK_1), trivial, ?_⟩
  rfl
end Go.Proofs
end
section
open Go Go.Proofs Go.Sx Go.StP Go.Flo
namespace Go.Proofs
set_option maxRecDepth 10000
set_option maxHeartbeats 1000000
set_option linter.unusedSimpArgs false
/-! ### The document's Read of a pack -/
def ReadDS (s : List UInt8) (v : Value) (D : Heap) : Prop :=
  if (headR s).2.1 = true then ∃ x y n A, v = .tuple #[x, y, vi n, vi A, .bool true] ∧ n = (headR s).1 ∧ 0 ≤ n ∧ n ≤ 200 ∧ GrI D 114 3 x (readP s).1.length ((readP s).1.map partC).flatten ∧ GrI D 3 1 y (readP s).2.1.length ((readP s).2.1.map natC).flatten ∧
    (((readP s).2.2.2 = 0 ∧ A = (readP s).2.2.1 ∧ ((readP s).1.length : Int) = n) ∨ ((readP s).2.2.2 ≠ 0 ∧ ((readP s).1.length : Int) < n))
  else v = .tuple #[.slice none 0 0, .slice none 0 0, vi 0, vi 0, .bool false]
structure RdDG where
  l : List PartL
  sp : List Nat
  a : Nat
  v1 : Value
  v2 : Value
  D1 : Heap
  D2 : Heap
  DG : Heap
set_option linter.defProp false
def uLL_1 := And.intro (And.intro (@rdIn_v8) (And.intro (@rdIn_vi) (@load_rr0))) (And.intro (And.intro (@load_rr1) (@load_rr2)) (And.intro (@cells_part) (@load_partw)))
end Go.Proofs
end
section
open Go Go.Proofs Go.Sx Go.StP Go.Flo
namespace Go.Proofs
set_option maxRecDepth 10000
set_option maxHeartbeats 1000000
set_option linter.unusedSimpArgs false
/-! ### The document's Open -/
/-- A pack, as the document holds it, of some blocks. -/
def MkD (D : Heap) (v : Value) (l : List PartL) (sp : List Nat) (ids : List IdL) (os : List ObL) : Prop :=
  ∃ v0 v1 v2 v3, v = mkV v0 v1 v3 v2 ∧ GrI D 114 3 v0 l.length (l.map partC).flatten ∧ GrI D 3 1 v1 sp.length (sp.map natC).flatten ∧ GrI D 37 32 v2 ids.length (ids.map idLC).flatten ∧ GrI D 43 2 v3 os.length (os.map obC).flatten
def OpenDS (b : List UInt8) (v : Value) (D : Heap) : Prop := match openV b with
  | some q => ∃ x, v = .tuple #[x, .bool true] ∧ MkD D x q.1 q.2.1 q.2.2.1 q.2.2.2
  | none => ∃ c0 c1 c2 c3, v = .tuple #[mkV c0 c1 c2 c3, .bool false] ∧ OneC c0 ∧ OneC c1 ∧ OneC c2 ∧ OneC c3
/-- What 'Of' hands back, in one form. -/
def OpenOk (l : List PartL) (_x c2 c3 : Value) (ok : Bool) (D : Heap) : Prop := match fillV l with
  | some p => ok = true ∧ GrI D 37 32 c2 p.1.length (p.1.map idLC).flatten ∧ GrI D 43 2 c3 p.2.length (p.2.map obC).flatten
  | none => ok = false
theorem ofS_case {l : List PartL} {x v : Value} {D : Heap} (h : OfS l x v D) : ∃ c2 c3 ok, v = .tuple #[mkV x (.slice none 0 0) c3 c2, .bool ok] ∧ OneC c2 ∧ OneC c3 ∧ OpenOk l x c2 c3 ok D := by
  unfold OfS at h
  unfold OpenOk
  cases hf : fillV l with
  | some p =>
    rw [hf] at h
    obtain ⟨x2, x3, rfl, h1, h2⟩ := h
    exact ⟨x2, x3, true, rfl, gri_cell h1, gri_cell h2, rfl, h1, h2⟩
  | none =>
    rw [hf] at h
    obtain ⟨x2, x3, rfl, h1, h2⟩ := h
    exact ⟨x2, x3, false, rfl, h1, h2, rfl⟩
theorem tup5_0 (a b c d e : Value) : #[a, b, c, d, e][0]? = some a := rfl
theorem tup5_1 (a b c d e : Value) : #[a, b, c, d, e][1]? = some b := rfl
theorem tup5_2 (a b c d e : Value) : #[a, b, c, d, e][2]? = some c := rfl
theorem tup5_3 (a b c d e : Value) : #[a, b, c, d, e][3]? = some d := rfl
theorem tup5_4 (a b c d e : Value) : #[a, b, c, d, e][4]? = some e := rfl
set_option linter.defProp false
def uLM_1 := And.intro (And.intro (And.intro (@rdIn_v8) (@rdIn_vi)) (And.intro (@load_mk) (And.intro (@Sx.tup2_0) (@Sx.tup2_1)))) (And.intro (And.intro (@tup5_0) (@tup5_1)) (And.intro (@tup5_2) (And.intro (@tup5_3) (@tup5_4))))
end Go.Proofs
end
section
open Go Go.Proofs Go.Sx Go.StP Go.Flo
namespace Go.Proofs
set_option maxRecDepth 10000
set_option maxHeartbeats 1000000
set_option linter.unusedSimpArgs false
/-! ### No pack has nothing -/
theorem nilPkN : binX Tryz.prog .eql 38 (.pointer none) (.pointer none) = some (.bool true) := by
  simp [binX, eqX, plainV, eqNilV, Tryz.underlying38]
theorem nilPkE (b o : Nat) : binX Tryz.prog .neq 38 (vp b o) (.pointer none) = some (.bool true) := by
  simp [binX, eqX, plainV, eqNilV, Tryz.underlying38, vp]
set_option linter.defProp false
def uLN_1 := And.intro (And.intro (And.intro (@rdIn_v8) (@rdIn_vi)) (And.intro (@nilPkN) (@load_ob))) (And.intro (And.intro (@load_ob0) (@load_ob1)) (And.intro (@store_ob) (@load_idb)))
end Go.Proofs
end
section
open Go Go.Proofs Go.Sx Go.StP Go.Flo
namespace Go.Proofs
set_option maxRecDepth 10000
set_option maxHeartbeats 1000000
set_option linter.unusedSimpArgs false
/-! ### Is a pack the document's? -/
theorem load_mk0 (v0 v1 v2 v3 : Value) (n : Nat) : loadV (some (false, n)) (some (mkO v0 v1 v2 v3)) 0 = some v0 := (rfl)
theorem load_mk1 (v0 v1 v2 v3 : Value) (n : Nat) : loadV (some (false, n)) (some (mkO v0 v1 v2 v3)) 1 = some v1 := (rfl)
theorem neObK (k k' : Int) (t t' : List UInt8) : binX Tryz.prog .neq 43 (obV k t) (obV k' t') = some (.bool (!decide ((⟨k, t⟩ : ObL) = ⟨k', t'⟩))) := neObC ⟨k, t⟩ ⟨k', t'⟩
structure SmG where
  i : Nat
  DG : Heap
set_option linter.defProp false
def uLO_1 := And.intro (And.intro (And.intro (And.intro (@rdIn_v8) (@rdIn_vi)) (And.intro (@load_mk) (@load_mk0))) (And.intro (And.intro (@load_mk1) (@load_mk2)) (And.intro (@load_mk3) (@load_ob)))) (And.intro (And.intro (And.intro (@load_ob0) (@load_ob1)) (And.intro (@store_ob) (@load_idb))) (And.intro (And.intro (@neIdA) (@neObK)) (And.intro (@Sx.tup2_0) (@Sx.tup2_1))))
end Go.Proofs
end
section
open Go Go.Proofs Go.Sx Go.StP Go.Flo
namespace Go.Proofs
set_option maxRecDepth 10000
set_option maxHeartbeats 1000000
set_option linter.unusedSimpArgs false
/-! ### PackOpens -/
/-- Each id's place is the first at which it stands. -/
def Dst (l : List IdL) : Prop := ∀ k, k < l.length → idxG (l.getD k id0) l 0 = (k : Int)
set_option linter.defProp false
def uLP_1 := And.intro (And.intro (And.intro (@rdIn_v8) (And.intro (@rdIn_vi) (@load_mk))) (And.intro (And.intro (@load_mk3) (@load_ob)) (And.intro (@load_ob0) (@load_ob1)))) (And.intro (And.intro (And.intro (@store_ob) (@load_idb)) (And.intro (@neIdA) (@neObK))) (And.intro (And.intro (@nilPkE) (@nilPkN)) (And.intro (@Sx.tup2_0) (@Sx.tup2_1))))
end Go.Proofs
end
namespace Go.Sx
open Go Go.ChangeShapes Go.WideShapes Go.RowKit

theorem Hp.same0 {W W' : World} (h : Hp W [] W') {b : Nat} (hb : b < W.heap.size) : W'.heap[b]? = W.heap[b]? := h.old b hb (fun hm => by cases hm)
theorem Hp.kept {W W' : World} (h : Hp W [] W') (may : MemPlace → Prop) : W.keptBut W' may := by
  refine ⟨h.os, h.output, fun i hi => ?_⟩
  rw [h.same0 hi]
  cases ho : W.heap[i]? with
  | none => rfl
  | some o =>
    cases o <;> first
      | exact ⟨rfl, rfl, rfl, fun _ _ => rfl⟩
      | exact .inr ⟨rfl, rfl⟩
      | rfl
theorem Hp.sameAt {W W' : World} (h : Hp W [] W') {p : MemPlace} (hp : p.block < W.heap.size) : W.sameAt W' p := by
  cases p with
  | cell b off =>
    have := h.same0 (b := b) hp
    simp only [World.sameAt, World.cell?, this]
  | map b => exact h.same0 hp
theorem Hp.frozen {W W' : World} (h : Hp W [] W') {a : Addr} (ha : a.block < W.heap.size) : W'.frozen? a = W.frozen? a := by
  simp only [World.frozen?, h.same0 ha]

section
variable {H : Type} {enc : TypeId × Value → H} {P : Program}
theorem trodAll_stays (hl : laidOutB P = true) {W W' : World} {sp : Nat → Bool} (hp : Hp W [] W') : ∀ {ts : List TypeId} {vs : List Value} {ds : List (DataW H)} {ps : List MemPlace},
    (∀ t ∈ ts, P.readableRec t = true ∧ t < P.types.size) → (∀ p ∈ ps, p.block < W.heap.size) → (∀ p ∈ ps, sp p.block = true) →
    DataW.TrodAll enc P W 0 (fun _ => true) true ts vs ds ps → DataW.TrodAll enc P W' 0 sp true ts vs ds ps
  | [], _, _, _, _, _, _, h => by
    obtain ⟨rfl, rfl, rfl⟩ := trodAll_nil h
    exact trodAll_mk0
  | t :: ts, _, _, _, ht, hlt, hs, h => by
    obtain ⟨v, vs, d, ds, p, q, rfl, rfl, rfl, h1, h2⟩ := trodAll_cons h
    have hlt1 : ∀ x ∈ p, x.block < W.heap.size := fun x hx => hlt x (List.mem_append_left _ hx)
    exact trodAll_cons_mk (WideElems.Trod_stays hl (ht t List.mem_cons_self).1 (ht t List.mem_cons_self).2 h1 (fun x hx => hp.sameAt (hlt1 x hx)) (fun x hx => hs x (List.mem_append_left _ hx)))
      (trodAll_stays hl hp (fun u hu => ht u (List.mem_cons_of_mem _ hu)) (fun x hx => hlt x (List.mem_append_right _ hx)) (fun x hx => hs x (List.mem_append_right _ hx)) h2)

/-- WHAT THE ROW OF A LAW ASKS, from 'it answers true and turns nothing that was there'. -/
theorem post_true {f : Func} {s : ChangeSpec} {W W' : World} {args : Array Value} {ds gs : List (DataW H)} {before : List MemPlace} {tb : TypeId} (hl : laidOutB P = true)
    (hW : DataW.Whole enc P f.params.toList s.vars false W args.toList ds gs before) (hv : s.vars = []) (hpar : ∀ t ∈ f.params.toList, P.readableRec t = true ∧ t < P.types.size)
    (hr : f.resultTypes = #[tb]) (htb : P.underlying tb = some .bool) (hfn : s.fn H ds = { results := [.lit (.bool true)], args := ds }) (hp : Hp W [] W') :
    s.post enc P f false true false false W args (.bool true) W' := by
  have hlt := hW.lt
  have hW0 := hW
  obtain ⟨p, q, hA, hV, rfl, hz, hn⟩ := hW
  rw [hv] at hV
  obtain ⟨rfl, rfl⟩ := trodVars_none hV
  rw [List.append_nil] at hW0 hlt hz
  have hargs : ∀ sp : Nat → Bool, (∀ x ∈ p, sp x.block = true) → DataW.TrodAll enc P W' 0 sp true f.params.toList args.toList (s.fn H (ds ++ [])).args p := fun sp hs => by
    rw [List.append_nil, hfn]
    exact trodAll_stays hl hp hpar hlt hs hA
  have hvars : ∀ sp : Nat → Bool, DataW.TrodVars enc P W' sp s.vars (s.fn H (ds ++ [])).vars [] := fun sp => by
    rw [List.append_nil, hfn, hv]; rfl
  have hres : ∀ (b : Nat) (sp : Nat → Bool) (hd : Bool), DataW.TrodAll enc P W' b sp hd f.resultTypes.toList ((Value.bool true).resultList f.resultTypes.size) (s.fn H (ds ++ [])).results [] := fun b sp hd => by
    rw [List.append_nil, hfn, hr]
    exact trodAll_cons_mk (shut_bool htb true) trodAll_mk0
  have hold : ∀ x ∈ p, (fun b => decide (b < W.heap.size)) x.block = true := fun x hx => by simpa using hlt x hx
  refine ⟨ds, [], p, [], p, [], hW0, hres _ _ _, hargs _ hold, hvars _, hp.kept _, fun _ => ?_⟩
  refine ⟨ok_one hr rfl (okWide_bool_mk htb true), _, _, ([] ++ p) ++ [], ⟨[] ++ p, [], trodAll_append (hargs _ (fun _ _ => rfl)) (hres _ _ _), hvars _, rfl, ?_, fun h => by cases h⟩, ?_⟩
  · intro b off hx
    have hx' : MemPlace.cell b off ∈ p := by simpa using hx
    rw [hp.frozen (hlt _ hx')]
    exact hz b off hx'
  · intro x hx _
    simpa using hx
end
section
variable {P : Program} {W : World} {name : String} {k : IntKind} {zs : List Int}
theorem tab_of_vars {t e : TypeId} {g n : Nat} (hg : P.globalNamed name = some g) (hty : (P.globals[g]?).map (·.type) = some t) (ht : P.underlying t = some (.array n e)) (he : P.underlying e = some (.int k)) (hce : P.cellsOf e = 1) (hct : P.cellsOf t = n) :
    ∀ {laid : List (String × DataW Unit)} {ps : List MemPlace}, DataW.LaidVars P W laid ps → (name, Lib.tabData k zs) ∈ laid → Lib.TabIs P W name k zs
  | [], _, _, hm => by cases hm
  | (n', d') :: rest, ps, h, hm => by
    obtain ⟨g', t', cs, fuel, p, q, hg', ht', hvar, hd, hr, -⟩ := h
    rcases List.mem_cons.1 hm with hm | hm
    · cases hm
      obtain rfl := Option.some.inj (hg.symm.trans hg')
      obtain rfl := Option.some.inj (hty.symm.trans ht')
      unfold Lib.TabIs
      rw [hvar, ← Lib.cells_of_tab ht he hce hct hd]
    · exact tab_of_vars hg hty ht he hce hct hr hm
theorem heap_of_tab {g : Nat} (hg : P.globalNamed name = some g) (h : Lib.TabIs P W name k zs) : ∃ e f, W.heap[g]? = some (.cells (zs.map fun z => Value.int k z).toArray e f) := by
  unfold Lib.TabIs at h
  simp only [World.var?, hg, Option.bind_some] at h
  split at h
  · rename_i cs e f hb
    cases h
    exact ⟨e, f, hb⟩
  · cases h
end
section
variable {H : Type} {enc : TypeId × Value → H} {P : Program}
end
end Go.Sx
namespace Go.Sx
open Go
section
variable {P : Program}
theorem rowAt_le {fits : TypeId → Bool} {d : Nat} {e : TypeId} {count off n : Nat} (h : rowAt P fits d e count off n = true) : off ≤ count * P.cellsOf e := by
  cases d with
  | zero => simp [rowAt] at h
  | succ d =>
    unfold rowAt at h
    simp only at h
    split at h
    · cases h
    · rename_i hs
      have hs' : 0 < P.cellsOf e := Nat.pos_of_ne_zero hs
      have hd := Nat.div_add_mod off (P.cellsOf e)
      have hm := Nat.mod_lt off hs'
      rw [Bool.or_eq_true] at h
      rcases h with h | h
      · simp only [Bool.and_eq_true, beq_iff_eq, decide_eq_true_eq] at h
        have : off / P.cellsOf e * P.cellsOf e ≤ count * P.cellsOf e := Nat.mul_le_mul_right _ (by omega)
        rw [Nat.mul_comm (P.cellsOf e)] at hd
        omega
      · simp only [Bool.and_eq_true, decide_eq_true_eq] at h
        have : (off / P.cellsOf e + 1) * P.cellsOf e ≤ count * P.cellsOf e := Nat.mul_le_mul_right _ (by omega)
        rw [Nat.add_mul, Nat.one_mul] at this
        rw [Nat.mul_comm (P.cellsOf e)] at hd
        omega
theorem liesAt_le {e : TypeId} {count off : Nat} : ∀ {d : Nat} {u : TypeId} {n : Nat}, liesAt P d e count off u n = true → off ≤ count * P.cellsOf e
  | 0, u, n, h => by simp [liesAt] at h
  | d + 1, u, n, h => by
    unfold liesAt at h
    rw [Bool.or_eq_true] at h
    rcases h with h | h
    · exact rowAt_le h
    · split at h
      · exact liesAt_le h
      · cases h
theorem has_le {W : World} {r : Reach} {base : Nat} {a : Addr} {e : TypeId} {n : Nat} (h : W.has P r base a e n) : a.spot = none ∧ ∃ arr E fz, W.heap[a.block]? = some (.cells arr E fz) ∧ a.off ≤ arr.size := by
  obtain ⟨-, hs, row, cells, hsh, hl⟩ := h
  refine ⟨hs, ?_⟩
  unfold World.shape? at hsh
  split at hsh
  · rename_i c el fz hh
    cases hsh
    refine ⟨c, _, fz, hh, Nat.le_trans (liesAt_le hl) ?_⟩
    exact Nat.div_mul_le_self _ _
  · cases hsh
theorem okWide_sl {W : World} {r : Reach} {base : Nat} {t e : TypeId} {v : Value} (ht : P.underlying t = some (.slice e)) (h : Value.okWide P W r base t v) :
    v = .slice none 0 0 ∨ ∃ b off len cap arr E fz, v = vsl b off len cap ∧ len ≤ cap ∧ W.heap[b]? = some (.cells arr E fz) ∧ off ≤ arr.size := by
  obtain ⟨a, len, cap, rfl⟩ := Go.WideShapes.okWide_slice ht h
  unfold Value.okWide at h
  rw [ht] at h
  unfold Cell.okWide at h
  rw [ht] at h
  simp only at h
  unfold Cell.ok at h
  rw [ht] at h
  cases a with
  | none =>
    left
    simp only at h
    split at h
    all_goals first | (cases h; done) | simp_all
  | some a =>
    right
    simp only at h
    obtain ⟨hle, -, hh⟩ := h
    obtain ⟨hs, arr, E, fz, hb, ho⟩ := has_le hh
    obtain ⟨b, off, sp⟩ := a
    simp only at hs
    subst hs
    exact ⟨b, off, len, cap, arr, E, fz, rfl, hle, hb, ho⟩
theorem slV_of {α : Type} {enc : α → List Value} {z : α} {m : Nat} {W : World} {base b off c : Nat} {l : List α} {arr : Array Value} {E : TypeId} {fz : Nat × Nat} (hm0 : 0 < m) (hm : ∀ x, (enc x).length = m)
    (hcells : ∀ i, i < l.length → W.cells? base ((Addr.mk b off none).add (i * m)) m = some (enc (l.getD i z))) (hheap : W.heap[b]? = some (.cells arr E fz)) (hoff : off ≤ arr.size) (hc : l.length ≤ c) : SlV m enc z W (vsl b off l.length c) l := by
  have get : ∀ k, k < l.length → ∀ j, j < m → arr[off + k * m + j]? = (enc (l.getD k z))[j]? := by
    intro k hk j hj
    obtain ⟨-, hl, hg⟩ := World.cells?_some (hcells k hk)
    have := hg j (by omega)
    rw [add_spot, add_spot] at this
    simp only [World.cell?, hheap, Option.isSome_none, Bool.false_eq_true, if_false] at this
    exact this
  refine SlV.sl hheap get hc ?_
  by_cases h0 : l.length = 0
  · rw [h0]; omega
  · have h1 := get (l.length - 1) (by omega) (m - 1) (by omega)
    rw [List.getElem?_eq_getElem (by rw [hm]; omega)] at h1
    have h2 := (Array.getElem?_eq_some_iff.1 h1).1
    have h3 : (l.length - 1) * m + m = l.length * m := by
      rw [← Nat.succ_mul]; congr 1; omega
    omega
end
end Go.Sx
section
open Go Go.Proofs Go.Sx Go.StP Go.ChangeShapes
namespace Go.Proofs
set_option maxRecDepth 10000
set_option maxHeartbeats 400000
/-! ### Arguments, opened: parts -/
end Go.Proofs
end
section
open Go Go.Proofs Go.Sx
namespace Go.Proofs
set_option maxRecDepth 10000
set_option maxHeartbeats 400000
/-! ### An argument that is an id -/
end Go.Proofs
end
section
open Go Go.Proofs Go.Sx Go.StP Go.Flo
namespace Go.Proofs
set_option maxRecDepth 10000
set_option maxHeartbeats 1000000
set_option linter.unusedSimpArgs false
/-! ### PackWrites, where texts are not too long -/
set_option linter.defProp false
def uLR_1 := And.intro (And.intro (@rdIn_v8) (@rdIn_vi)) (And.intro (@Sx.tup2_0) (@Sx.tup2_1))
theorem PackWrites_spec (v0 : Value) (l : List PartL) (w : World) (hG : GlobE w) (hC : GlobC w) (hv : PartSl w v0 l) (hb : BndL l) (hd : BndD l) : Rets Tryz.prog 3 #[v0] w (fun v D => v = .bool true ∧ D = []) := by
  refine Rets.enterV Tryz.func3 rfl (rs := [.tmp 2]) Tryz.results3 Tryz.ntmps3 ?_
  refine kf ?_
  first | with_reducible refine ks [] @uLR_1 ?_ | refine kp @uLR_1 ?_
  refine Ow.callFV rfl Tryz.call12 (fun w' hw' => aliveP_spec w' (hG.new hw' trivial) (hC.newP hw' trivial)) ?_
  refine ko @uLR_1 ?_
  first | with_reducible refine ks [] @uLR_1 ?_ | refine kp @uLR_1 ?_
  refine Ow.callFV rfl Tryz.call13 (fun w' hw' => Great_spec v0 l w' (hv.oldN hw' trivial) hb) ?_
  cases hgt : greatV l with
  | true =>
    refine ko @uLR_1 ?_
    first | with_reducible refine ks [] @uLR_1 ?_ | refine kp @uLR_1 ?_
    refine Ow.callFV rfl Tryz.call12 (fun w' hw' => aliveP_spec w' (hG.new hw' trivial) (hC.newP hw' trivial)) ?_
    refine ko @uLR_1 ?_
    first | with_reducible refine ks [] @uLR_1 ?_ | refine kp @uLR_1 ?_
    refine ⟨_, (ke @uLR_1), trivial, ?_⟩
    rfl
  | false =>
    obtain ⟨hll, hgx⟩ := greatV_no hgt
    refine ko @uLR_1 ?_
    first | with_reducible refine ks [] @uLR_1 ?_ | refine kp @uLR_1 ?_
    refine Ow.callFV rfl Tryz.call14 (fun w' hw' => WriteP_spec v0 l w' (hv.oldN hw' trivial) (hG.new hw' trivial) (hC.newP hw' trivial) hb (by omega)) ?_
    refine ko @uLR_1 ?_
    first | with_reducible refine ks [] @uLR_1 ?_ | refine kp @uLR_1 ?_
    refine Ow.callC rfl rfl Tryz.call15 (fun w' hw' => OfR_spec v0 l w' (hv.oldN hw' trivial) hd) (fun B1 v1 D1 hA1 hB1 hN1 hS1 => ?_)
    have hN1' : New w.heap.size D1 := hN1.mono hB1
    have hn1 : OneC (.slice none 0 0) := ⟨rfl, rfl⟩
    obtain ⟨c2, c3, ok, rfl, hc2, hc3, hok⟩ := ofS_case hS1
    have hs2 := fun a => store_mk (v0 := .slice none 0 0) (v1 := .slice none 0 0) (v2 := .slice none 0 0) (v3 := .slice none 0 0) ⟨slV_one hv, hn1, hc3, hc2⟩ a
    rw [List.nil_append]
    refine ko @uLR_1 ?_
    refine Ow.alloc rfl rfl zrMk fun b9 hb9 hw9 => ?_
    simp only [mk_zc]
    refine Ow.permL (M := (b9, mkO (.slice none 0 0) (.slice none 0 0) (.slice none 0 0) (.slice none 0 0)) :: D1) (by classical exact List.perm_iff_count.2 fun a => by simp only [List.count_append, List.count_cons, List.count_nil] <;> omega) ?_
    have hNr : New w.heap.size ((b9, mkO v0 (.slice none 0 0) c3 c2) :: D1) := ⟨hw9, hN1'⟩
    refine ko (And.intro @uLR_1 @hs2) ?_
    unfold OpenOk at hok
    cases hf : fillV l with
    | none =>
      rw [hf] at hok
      subst hok
      have z1 : ((1 : Int) == 1) = true := rfl
      have z2 : (([] : List UInt8) == []) = true := rfl
      rw [writeV_no hf]
      first | with_reducible refine ks [] @uLR_1 ?_ | refine kp @uLR_1 ?_
      refine Ow.callFV rfl Tryz.call12 (fun w' hw' => aliveP_spec w' (hG.new hw' hNr) (hC.newP hw' hNr)) ?_
      refine ko (And.intro @uLR_1 ( And.intro @z1 (@z2))) ?_
      first | with_reducible refine ks [] @uLR_1 ?_ | refine kp @uLR_1 ?_
      refine ⟨_, (ke @uLR_1), hNr, ?_⟩
      rfl
    | some q =>
      rw [hf] at hok
      obtain ⟨rfl, -, -⟩ := hok
      have z1 : ((0 : Int) == 0) = true := rfl
      rw [writeV_ok hf]
      first | with_reducible refine ks [] @uLR_1 ?_ | refine kp @uLR_1 ?_
      refine Ow.callFV rfl Tryz.call12 (fun w' hw' => aliveP_spec w' (hG.new hw' hNr) (hC.newP hw' hNr)) ?_
      refine ko (And.intro @uLR_1 @z1) ?_
      refine Ow.callFV rfl Tryz.call16 (fun w' hw' => WriteR_spec v0 l w' (hv.oldN hw' hNr) hf) ?_
      have z2 : (sealV (packB l) == sealV (packB l)) = true := beq_self_eq_true _
      refine ko (And.intro @uLR_1 @z2) ?_
      first | with_reducible refine ks [] @uLR_1 ?_ | refine kp @uLR_1 ?_
      refine ⟨_, (ke @uLR_1), hNr, ?_⟩
      rfl
/-! ### An argument's parts, with what was read of them -/
theorem dec_partR {H : Type} {tell : TypeId × Value → H} {W : World} {base : Nat} {sp : Nat → Bool} {held : Bool} (n : Nat) (cs : List Value) (y : DataW H × List MemPlace)
    (h : DataW.trod tell Tryz.prog W base sp held n 114 cs = some y) : ∃ a : PartL, cs = partC a ∧ ∃ d0 d1 : DataW H, y.1 = .agg [d0, d1, .lit (.string a.x)] := by
  obtain ⟨y0, y1, y2, n', hy, hlen, h0, h1, h2⟩ := Deep.trod_struct3 Tryz.underlying114 h
  have hc : (Tryz.prog).cellsOf 114 = 3 := by kernel_rfl
  have hc0 : (Tryz.prog).cellsOf 4 = 1 := by kernel_rfl
  have hc1 : (Tryz.prog).cellsOf 3 = 1 := by kernel_rfl
  have hc2 : (Tryz.prog).cellsOf 9 = 1 := by kernel_rfl
  simp only at h0 h1 h2
  rw [hc0, List.drop_zero] at h0
  rw [hc1] at h1
  rw [hc2] at h2
  rw [hc] at hlen
  obtain ⟨bb, hbb, -⟩ := DataW.trod_bool Tryz.underlying4 h0
  obtain ⟨z, hz, -, -⟩ := DataW.trod_int Tryz.underlying3 h1
  obtain ⟨s, hs, hys, -⟩ := DataW.trod_string Tryz.underlying9 h2
  refine ⟨⟨bb, z, s.data.toList⟩, ?_, y0.1, y1.1, by rw [hy, hys]⟩
  have hd : cs = cs.take 1 ++ ((cs.drop 1).take 1 ++ (cs.drop 2).take 1) := by
    rw [show (cs.drop 2).take 1 = cs.drop 2 from List.take_of_length_le (by rw [List.length_drop]; omega), show cs.drop 2 = (cs.drop 1).drop 1 by rw [List.drop_drop], List.take_append_drop, List.take_append_drop]
  rw [hd, hbb, hz, hs]
  rfl
theorem open_slR {H : Type} {tell : TypeId × Value → H} {α : Type} {enc : α → List Value} {z : α} {m : Nat} {W : World} {r : Reach} {base b0 : Nat} {sp : Nat → Bool} {held : Bool} {fuel : Nat} {t e : TypeId} {v : Value} {x : DataW H × List MemPlace} {R : α → DataW H → Prop}
    (ht : (Tryz.prog).underlying t = some (.slice e)) (he : (Tryz.prog).cellsOf e = m) (hm0 : 0 < m) (hm : ∀ x, (enc x).length = m) (hval : Value.okWide Tryz.prog W r b0 t v)
    (hdec : ∀ n cs y, DataW.trod tell Tryz.prog W base sp held n e cs = some y → ∃ a, cs = enc a ∧ R a y.1) (hd : DataW.trod tell Tryz.prog W base sp held fuel t [v] = some x) :
    ∃ l, SlV m enc z W v l ∧ (l = [] ∨ ∃ es sp', x.1 = .slice es sp' ∧ ∀ i, i < l.length → ∃ d, d ∈ es ∧ R (l.getD i z) d) := by
  rcases DataW.trod_slice ht hd with ⟨hcs, -⟩ | ⟨a, len, cap, elems, rest, n, -, hcs, hx, -, hl, -, hlen, hel, -, -⟩
  · simp only [List.cons.injEq, and_true] at hcs
    subst hcs
    exact ⟨[], SlV.nil W, .inl rfl⟩
  · simp only [List.cons.injEq, and_true] at hcs
    subst hcs
    rcases okWide_sl ht hval with h0 | ⟨b, off, len', cap', arr, E, fz, h1, -, hb, ho⟩
    · cases h0
    · unfold vsl at h1
      cases h1
      rw [he] at hel
      have hex : ∀ i, i < len → ∃ q, W.cells? base ((Addr.mk b off none).add (i * m)) m = some (enc q) ∧ ∃ d, d ∈ elems.map (·.1) ∧ R q d := by
        intro i hi
        have h2 := hel i hi
        rw [List.getElem?_eq_getElem (by omega)] at h2
        cases hc : W.cells? base ((Addr.mk b off none).add (i * m)) m with
        | none => rw [hc] at h2; cases h2
        | some cs =>
          rw [hc] at h2
          obtain ⟨q, rfl, hR⟩ := hdec _ _ _ h2
          exact ⟨q, rfl, _, List.mem_map_of_mem (List.getElem_mem (by omega)), hR⟩
      obtain ⟨f, hf⟩ : ∃ f : Nat → α, ∀ i, i < len → W.cells? base ((Addr.mk b off none).add (i * m)) m = some (enc (f i)) ∧ ∃ d, d ∈ elems.map (·.1) ∧ R (f i) d := by
        classical
        refine ⟨fun i => if h : i < len then Classical.choose (hex i h) else z, fun i hi => ?_⟩
        simp only [dif_pos hi]
        exact Classical.choose_spec (hex i hi)
      have hll : ((List.range len).map f).length = len := by simp
      have hgd : ∀ i, i < len → ((List.range len).map f).getD i z = f i := fun i hi => by
        rw [List.getD_eq_getElem?_getD, List.getElem?_map, List.getElem?_range hi]; rfl
      refine ⟨(List.range len).map f, ?_, .inr ⟨_, _, by rw [hx], fun i hi => ?_⟩⟩
      · have := slV_of (W := W) (base := base) (b := b) (off := off) (c := cap) (l := (List.range len).map f) (z := z) hm0 hm (fun i hi => by
          rw [hll] at hi
          rw [(hf i hi).1, hgd i hi]) hb ho (by rw [hll]; exact hl)
        rw [hll] at this
        exact this
      · rw [hll] at hi
        rw [hgd i hi]
        exact (hf i hi).2
theorem open_partsR {H : Type} {enc : TypeId × Value → H} {W : World} {r : Reach} {b0 base : Nat} {sp : Nat → Bool} {held : Bool} {v : Value} {d : DataW H} {p : List MemPlace}
    (hval : Value.okWide Tryz.prog W r b0 22 v) (hd : DataW.Trod enc Tryz.prog W base sp held 22 v d p) :
    ∃ l, PartSl W v l ∧ (l = [] ∨ ∃ es sp', d = .slice es sp' ∧ ∀ i, i < l.length → ∃ e, e ∈ es ∧ ∃ d0 d1 : DataW H, e = .agg [d0, d1, .lit (.string (l.getD i part0).x)]) := by
  obtain ⟨a0, len, cap, rfl⟩ := WideShapes.okWide_slice Tryz.underlying22 hval
  obtain ⟨fu, hf⟩ := hd
  exact open_slR (z := part0) (R := fun a e => ∃ d0 d1 : DataW H, e = .agg [d0, d1, .lit (.string a.x)]) Tryz.underlying22 (by kernel_rfl) (by decide) partC_len hval dec_partR hf
end Go.Proofs
end
