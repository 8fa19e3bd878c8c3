/-
  Part 4 of the walk: contracts of the functions that the law reaches, and the calculus they stand on.
  No conditions.
-/
import Derived.Test.YtooklcgflocbcaaGreatDoorU3
section
open Go Go.Proofs Go.Sx Go.Dig
namespace Go.Proofs
set_option maxRecDepth 10000
set_option maxHeartbeats 1000000
set_option linter.unusedSimpArgs false
set_option linter.defProp false
def uE5_1 := And.intro (And.intro (And.intro (And.intro (@load_hash0) (@load_hashS)) (And.intro (@load_hashR) (And.intro (@load_hashR2) (@load_hashM)))) (And.intro (And.intro (@load_hashT) (@load_hashSt)) (And.intro (@load_hashAll) (And.intro (@store_hashAll) (@store_hash0))))) (And.intro (And.intro (And.intro (@store_hashS) (@store_hashR)) (And.intro (@store_hashM) (And.intro (@store_hashT) (@store_hashSt)))) (And.intro (And.intro (@getD_set_same) (@nil45)) (And.intro (@nil45') (And.intro (@nil45n) (@nil45n')))))
theorem zrHash : zeroV Tryz.prog 260 = some (.agg (hashC false (List.replicate 8 0) (List.replicate 64 0) 0 0)) := id (by kernel_rfl)
theorem cells_hash (bg : Bool) (st : List UInt32) (rest : List UInt8) (many : Int) (taken : UInt64) : Value.cells (.agg (hashC bg st rest many taken)) = hashC bg st rest many taken := cells_agg _
theorem store_hashHash {bg bg' : Bool} {st st' : List UInt32} {rest rest' : List UInt8} {many many' : Int} {taken taken' : UInt64} {E : TypeId} (h : st.length = 8 ∧ rest.length = 64 ∧ st'.length = 8 ∧ rest'.length = 64) :
    storeV (some (true, 75)) (some (.cells (hashC bg' st' rest' many' taken') E (0, 0))) 0 (.agg (hashC bg st rest many taken)) = some (.cells (hashC bg st rest many taken) E (0, 0)) :=
  store_hashAll _ ⟨h.1, h.2.1, hash_size h.2.2⟩
theorem hsum_spec (b : Nat) (bg : Bool) (s : Hs) (taken : UInt64) (w : World) (hG : GlobE w) (hb : 3 < b) (hs : s.Ok)
    (ho : w.heap[b]? = some (.cells (hashC bg s.st s.rest s.many taken) 260 (0, 0))) :
    Rets Tryz.prog 181 #[vp b 0] w (fun v D => v = .agg (a8 (hsum (hbegin bg s) taken)) ∧ D = []) := by
  obtain ⟨e0, e1, f0, f1, h0, h1⟩ := id hG
  obtain ⟨st, rest, many⟩ := s
  obtain ⟨hst, hrt, hmn⟩ := id hs
  simp only at ho hst hrt hmn ⊢
  refine Rets.enterV Tryz.func181 rfl (rs := [.cell 2 37]) Tryz.results181 Tryz.ntmps181 ?_
  refine kf ?_
  first | with_reducible refine ks [] uE5_1 ?_ | refine kp uE5_1 ?_
  refine Ow.alloc rfl rfl Tryz.zr37 fun b1 hb1 hw1 => ?_
  refine ko uE5_1 ?_
  first | with_reducible refine ks [] uE5_1 ?_ | refine kp uE5_1 ?_
  refine Ow.alloc rfl rfl zrHash fun b2 hb2 hw2 => ?_
  obtain ⟨h12, -⟩ := hb2
  have hbl := (Array.getElem?_eq_some_iff.1 ho).1
  rw [cells_hash]
  refine ko uE5_1 ?_
  first | with_reducible refine ks [] (And.intro uE5_1 ( And.intro @ho (@store_hashHash))) ?_ | refine kp (And.intro uE5_1 ( And.intro @ho (@store_hashHash))) ?_
  refine Ow.callM rfl rfl Tryz.call214 (by simp [keys]) (fun w' hw' => begin_spec _ _ _ _ _ _ w' (GlobE.of hG hw' (by simp [keys]; omega)) (by omega) hst hrt (hw'.has _ _ (List.mem_cons_of_mem _ List.mem_cons_self))) ?_
  refine ko uE5_1 ?_
  first | with_reducible refine ks [] uE5_1 ?_ | refine kp uE5_1 ?_
  have e : hashC true (if bg = true then st else initL) rest many taken = hashH (hbegin bg ⟨st, rest, many⟩) taken := by cases bg <;> rfl
  rw [e]
  have hok0 := hbegin_ok bg hs
  generalize hbegin bg ⟨st, rest, many⟩ = S0 at *
  refine Ow.callM rfl rfl Tryz.call215 (by simp [keys]) (fun w' hw' => put_spec _ _ _ 128 w' (GlobE.of hG hw' (by simp [keys]; omega)) (by omega) hok0 (hw'.has _ _ (List.mem_cons_of_mem _ List.mem_cons_self))) ?_
  refine ko uE5_1 ?_
  have hok1 := hput_ok 128 hok0
  have ep : padded S0 taken = hputs (hputs (hput S0 128) (List.replicate (zeros (hput S0 128).many) 0)) (len8 taken) := rfl
  unfold hsum
  rw [ep]
  generalize hput S0 128 = S1 at *
  first | with_reducible refine ks [] uE5_1 ?_ | refine kp uE5_1 ?_
  rw [show hashH S1 taken = hashH (hputs S1 (List.replicate 0 0)) taken from rfl]
  have hz : (S1.many + zeros S1.many) % 64 = 56 ∧ zeros S1.many < 64 := by have := hok1.many; unfold zeros; omega
  refine Cw.loopG (G := Nat) [15, 16, 17, 18] (fun g => []) (fun g => [(b1, .cells (a8 (List.replicate 32 0)) 37 (0, 0)), (b2, .cells (hashH (hputs S1 (List.replicate g 0)) taken) 260 (0, 0))]) (fun g => g ≤ zeros S1.many) (fun g => zeros S1.many - g) 0 rfl rfl ?_ ?_
  · omega
  intro g j hg
  refine kv ?_
  have hokg := hputs_ok (List.replicate g 0) hok1
  have hm := hputs_many (List.replicate g 0) hok1
  rw [List.length_replicate] at hm
  have hg1 := hokg.st
  have hg2 := hokg.rest
  by_cases hlt : g < zeros S1.many
  · have hzz : (S1.many + g) % 64 ≠ 56 := by have := hok1.many; unfold zeros at hlt; omega
    unfold hashH
    first | with_reducible refine ks [] uE5_1 ?_ | refine kp uE5_1 ?_
    refine Ow.callM rfl rfl Tryz.call215 (by simp [keys]) (fun w' hw' => put_spec _ _ _ 0 w' (GlobE.of hG hw' (by simp [keys]; omega)) (by omega) hokg (hw'.has _ _ (List.mem_cons_of_mem _ List.mem_cons_self))) ?_
    refine ko uE5_1 ?_
    first | with_reducible refine ks [] uE5_1 ?_ | refine kp uE5_1 ?_
    refine Again.mk (g + 1) (by omega) (by omega) ?_ rfl
    rw [hputs_rep]; rfl
  · have hge : g = zeros S1.many := by omega
    subst hge
    unfold hashH
    first | with_reducible refine ks [] uE5_1 ?_ | refine kp uE5_1 ?_
    generalize hputs S1 (List.replicate (zeros S1.many) 0) = S2 at *
    rw [show hashC true S2.st S2.rest S2.many taken = hashH (hputs S2 ((len8 taken).take 0)) taken from rfl]
    have h8 := len8_length taken
    refine Cw.loopG (G := Nat) [19, 20, 23, 24, 25, 26, 27, 28, 29, 21, 22, 4] (fun k => [(4, vi (56 - 8 * k))]) (fun k => [(b1, .cells (a8 (List.replicate 32 0)) 37 (0, 0)), (b2, .cells (hashH (hputs S2 ((len8 taken).take k)) taken) 260 (0, 0))]) (fun k => k ≤ 8) (fun k => 8 - k) 0 rfl rfl ?_ ?_
    · omega
    intro k jk hk
    refine kv ?_
    have hokk := hputs_ok ((len8 taken).take k) hokg
    have hk1 := hokk.st
    have hk2 := hokk.rest
    by_cases hk8 : k < 8
    · unfold hashH
      first | with_reducible refine ks [] uE5_1 ?_ | refine kp uE5_1 ?_
      rw [show (56 - 8 * (k : Int)).toNat = 56 - 8 * k from by omega]
      refine Ow.callM rfl rfl Tryz.call215 (by simp [keys]) (fun w' hw' => put_spec _ _ _ (lenB taken k) w' (GlobE.of hG hw' (by simp [keys]; omega)) (by omega) hokk (hw'.has _ _ (List.mem_cons_of_mem _ List.mem_cons_self))) ?_
      refine ko uE5_1 ?_
      first | with_reducible refine ks [] uE5_1 ?_ | refine kp uE5_1 ?_
      refine Again.mk (k + 1) (by omega) (by omega) ?_ ?_
      · rw [hputs_succ _ _ _ (by omega), len8_getD _ _ hk8]; rfl
      · rw [show (56 - 8 * ((k + 1 : Nat) : Int)) = 56 - 8 * (k : Int) - 8 from by omega]; rfl
    · have hke : k = 8 := by omega
      subst hke
      first | with_reducible refine ks [] uE5_1 ?_ | refine kp uE5_1 ?_
      rw [List.take_of_length_le (show (len8 taken).length ≤ 8 by omega)] at *
      generalize hputs S2 (len8 taken) = S3 at *
      refine Ow.alloc rfl rfl Tryz.zr37 fun b3 hb3 hw3 => ?_
      obtain ⟨h13, h23, -⟩ := hb3
      unfold hashH
      refine ko uE5_1 ?_
      first | with_reducible refine ks [] uE5_1 ?_ | refine kp uE5_1 ?_
      rw [show a8 (List.replicate 32 0) = a8 (outPre S3.st (4 * 0)) from by rw [outPre_zero]]
      have h3s := (hputs_ok (len8 taken) hokg).st
      have hS3 : S3.st.length = 8 := hk1
      refine Cw.loopG (G := Nat) [33, 34, 35, 6, 7, 36, 37, 38, 39, 40, 41, 42, 43, 44, 45, 46, 47, 48, 49, 50, 51, 52, 53, 54, 55, 56, 57, 58, 59, 60, 61, 62, 32] (fun i => [(32, vi i)]) (fun i => [(b1, .cells (a8 (outPre S3.st (4 * 0))) 37 (0, 0)), (b2, .cells (hashC true S3.st S3.rest S3.many taken) 260 (0, 0)), (b3, .cells (a8 (outPre S3.st (4 * i))) 37 (0, 0))]) (fun i => i ≤ 8) (fun i => 8 - i) 0 rfl rfl ?_ ?_
      · omega
      intro i ji hi
      refine kv ?_
      have hol := outPre_length S3.st (4 * i)
      have hol0 := outPre_length S3.st (4 * 0)
      by_cases hi8 : i < 8
      · first | with_reducible refine ks [] uE5_1 ?_ | refine kp uE5_1 ?_
        refine Again.mk (i + 1) (by omega) (by omega) ?_ rfl
        rw [outPre_four]
      · have hie : i = 8 := by omega
        subst hie
        first | with_reducible refine ks [] uE5_1 ?_ | refine kp uE5_1 ?_
        rw [show 4 * 8 = 32 from rfl]
        refine ⟨_, (ke uE5_1), ⟨hw1, hw2, hw3, trivial⟩, ?_⟩
        rfl
end Go.Proofs
end
section
open Go Go.Proofs Go.Sx Go.Dig
namespace Go.Proofs
set_option maxRecDepth 10000
set_option maxHeartbeats 1000000
set_option linter.unusedSimpArgs false
set_option linter.defProp false
def uE6_1 := And.intro (And.intro (And.intro (And.intro (@load_hash0) (@load_hashS)) (And.intro (@load_hashR) (And.intro (@load_hashR2) (@load_hashM)))) (And.intro (And.intro (@load_hashT) (@load_hashSt)) (And.intro (@load_hashAll) (And.intro (@store_hashAll) (@store_hash0))))) (And.intro (And.intro (And.intro (@store_hashS) (@store_hashR)) (And.intro (@store_hashM) (And.intro (@store_hashT) (@store_hashSt)))) (And.intro (And.intro (@getD_set_same) (@nil45)) (And.intro (@nil45') (And.intro (@nil45n) (@nil45n')))))
theorem dsum_spec (x : Value) (b2 off : Nat) (l : List (List UInt8)) (arr : Array Value) (E : TypeId) (fz : Nat × Nat) (w : World) (hG : GlobE w)
    (hS : StrS w x l b2 off arr E fz) (hn : l.length < 1099511627776) (hz : ∀ i, i < l.length → (l.getD i []).length < 1099511627776) :
    Rets Tryz.prog 160 #[x] w (fun v D => v = .agg (a8 (sumV l)) ∧ D = []) := by
  obtain ⟨e0, e1, f0, f1, h0, h1⟩ := id hG
  have hg1 : 3 < w.heap.size := (Array.getElem?_eq_some_iff.1 h1).1
  have hbl : 0 < l.length → b2 < w.heap.size := fun h => (Array.getElem?_eq_some_iff.1 (hS.has h)).1
  refine Rets.enterV Tryz.func160 rfl (rs := [.cell 2 37]) Tryz.results160 Tryz.ntmps160 ?_
  refine kf ?_
  first | with_reducible refine ks [] uE6_1 ?_ | refine kp uE6_1 ?_
  refine Ow.alloc rfl rfl Tryz.zr37 fun b1 hb1 hw1 => ?_
  refine ko uE6_1 ?_
  first | with_reducible refine ks [] uE6_1 ?_ | refine kp uE6_1 ?_
  refine Ow.alloc rfl rfl zrHash fun b3 hb3 hw3 => ?_
  obtain ⟨h13, -⟩ := hb3
  rw [cells_hash]
  refine ko uE6_1 ?_
  first | with_reducible refine ks [] uE6_1 ?_ | refine kp uE6_1 ?_
  refine Ow.callM rfl rfl Tryz.call180 (by simp [keys]) (fun w' hw' => write_spec1 _ _ ⟨List.replicate 8 0, List.replicate 64 0, 0⟩ _ _ _ _ _ _ _ _ w' (GlobE.of hG hw' (by simp [keys]; omega)) (by omega) ⟨by simp, by simp, by simp⟩ (fun h => by have := hbl h; omega) (hS.old hw' (fun h => by have := hbl h; simp [keys]; omega)) hn hz (hw'.has _ _ (List.mem_cons_of_mem _ List.mem_cons_self))) ?_
  refine ko uE6_1 ?_
  first | with_reducible refine ks [] uE6_1 ?_ | refine kp uE6_1 ?_
  have hok := hputs_ok l.flatten H0_ok
  have e : hbegin false ⟨List.replicate 8 0, List.replicate 64 0, 0⟩ = H0 := rfl
  rw [e]
  refine Ow.callFV rfl Tryz.call181 (fun w' hw' => hsum_spec _ true _ _ w' (GlobE.of hG hw' (by simp [keys]; omega)) (by omega) hok (hw'.has _ _ (List.mem_cons_of_mem _ List.mem_cons_self))) ?_
  have hsl : (hsum (hbegin true (hputs H0 l.flatten)) (takenL 0 l)).length = 32 := outPre_length _ _
  refine ko uE6_1 ?_
  first | with_reducible refine ks [] uE6_1 ?_ | refine kp uE6_1 ?_
  refine ⟨_, (ke uE6_1), ⟨hw1, hw3, trivial⟩, ?_⟩
  rfl
end Go.Proofs
end
namespace Go.Dig
open Go.Sx
/-- The bits' number, cut byte by byte. -/
def quoN (t : UInt64) : Nat → UInt64
  | 0 => t
  | n + 1 => quoN t n / 256
theorem quoN_toNat (t : UInt64) (n : Nat) : (quoN t n).toNat = t.toNat / 256 ^ n := by
  induction n with
  | zero => simp [quoN]
  | succ n ih =>
    show (quoN t n / 256).toNat = _
    rw [UInt64.toNat_div, ih, Nat.pow_succ, Nat.div_div_eq_div_mul]; rfl
def lenBB (t : UInt64) (j : Nat) : UInt8 := UInt8.ofNat (shr_u64 t (56 - 8 * j)).toNat
theorem lenBB_eq (t : UInt64) (i : Nat) (h : i < 8) : UInt8.ofNat (quoN t i % 256).toNat = lenBB t (7 - i) := by
  apply UInt8.toNat.inj
  unfold lenBB
  rw [UInt8.toNat_ofNat', UInt8.toNat_ofNat', UInt64.toNat_mod, quoN_toNat, shr_u64, UInt64.toNat_ofNat']
  have e : 56 - 8 * (7 - i) = 8 * i := by omega
  have ht := t.toNat_lt
  have hd : t.toNat / 2 ^ (8 * i) ≤ t.toNat := Nat.div_le_self _ _
  rw [e, Nat.mod_eq_of_lt (a := t.toNat / 2 ^ (8 * i)) (by omega)]
  have e2 : 256 ^ i = 2 ^ (8 * i) := by rw [Nat.pow_mul]
  rw [e2, show (256 : UInt64).toNat = 256 from rfl]
  omega
def tailPre (t : UInt64) (i : Nat) : List UInt8 := (List.range 8).map fun j => if 8 ≤ j + i then lenBB t j else 0
theorem tailPre_length (t : UInt64) (i : Nat) : (tailPre t i).length = 8 := by simp [tailPre]
theorem tailPre_zero (t : UInt64) : tailPre t 0 = List.replicate 8 0 := by
  apply List.ext_getElem
  · simp [tailPre]
  intro k hk1 hk2
  have : k < 8 := by simpa [tailPre] using hk1
  simp only [tailPre, List.getElem_map, List.getElem_range, List.getElem_replicate]
  rw [if_neg (by omega)]
theorem tailPre_succ (t : UInt64) (i : Nat) (h : i < 8) : (tailPre t i).set (7 - i) (UInt8.ofNat (quoN t i % 256).toNat) = tailPre t (i + 1) := by
  rw [lenBB_eq t i h]
  apply List.ext_getElem
  · simp [tailPre]
  intro j hj1 hj2
  have hj : j < 8 := by simpa [tailPre] using hj2
  rw [List.getElem_set]
  by_cases h1 : 7 - i = j
  · rw [if_pos h1]
    simp only [tailPre, List.getElem_map, List.getElem_range]
    rw [if_pos (by omega), h1]
  · rw [if_neg h1]
    simp only [tailPre, List.getElem_map, List.getElem_range]
    by_cases h2 : 8 ≤ j + i
    · rw [if_pos h2, if_pos (by omega)]
    · rw [if_neg h2, if_neg (by omega)]
theorem tailPre_all (t : UInt64) : tailPre (8 * t) 8 = len8 t := by
  unfold tailPre len8
  apply List.map_congr_left
  intro j hj
  rw [if_pos (by omega)]; rfl
/-- The text that the document cuts into blocks. -/
def padR (m : List UInt8) : List UInt8 := m ++ [128] ++ List.replicate (zeros ((m.length + 1) % 64)) 0 ++ len8 (UInt64.ofNat m.length)
theorem zeros_spec (n : Nat) : (n + zeros (n % 64)) % 64 = 56 ∧ zeros (n % 64) < 64 := by unfold zeros; omega
theorem padR_length (m : List UInt8) : (padR m).length % 64 = 0 ∧ (padR m).length ≤ m.length + 72 := by
  have := zeros_spec (m.length + 1)
  simp only [padR, List.length_append, List.length_replicate, len8_length, List.length_cons, List.length_nil]
  omega
/-- The document's digest. -/
def shaR (m : List UInt8) : List UInt8 := outPre (comps initL (padR m) ((padR m).length / 64)) 32
theorem addPre_all (st s : List UInt32) : addPre st s 8 = [st.getD 0 0 + s.getD 0 0, st.getD 1 0 + s.getD 1 0, st.getD 2 0 + s.getD 2 0, st.getD 3 0 + s.getD 3 0, st.getD 4 0 + s.getD 4 0, st.getD 5 0 + s.getD 5 0, st.getD 6 0 + s.getD 6 0, st.getD 7 0 + s.getD 7 0] := rfl
end Go.Dig
section
open Go Go.Proofs Go.Sx Go.Dig
namespace Go.Proofs
set_option maxRecDepth 10000
set_option maxHeartbeats 1000000
set_option linter.unusedSimpArgs false
set_option linter.defProp false
def uE7_1 := @getD_set_same
theorem lengthened_spec (m : List UInt8) (hm : m.length < 1099511627776) (w : World) :
    Rets Tryz.prog 167 #[vs m] w (fun v D => v = vs (padR m) ∧ D = []) := by
  refine Rets.enterV Tryz.func167 rfl (rs := [.tmp 2]) Tryz.results167 Tryz.ntmps167 ?_
  refine kf ?_
  first | with_reducible refine ks [] @uE7_1 ?_ | refine kp @uE7_1 ?_
  have hz := zeros_spec (m.length + 1)
  rw [show m ++ [128] = m ++ [128] ++ List.replicate 0 0 from (List.append_nil _).symm]
  refine Cw.loopG (G := Nat) [9, 10, 11, 12, 13, 14, 3] (fun g => [(3, vs (m ++ [128] ++ List.replicate g 0))]) (fun g => []) (fun g => g ≤ zeros ((m.length + 1) % 64)) (fun g => zeros ((m.length + 1) % 64) - g) 0 rfl rfl ?_ ?_
  · omega
  intro g j hg
  refine kv ?_
  have hl : (m ++ [128] ++ List.replicate g 0).length = m.length + 1 + g := by simp; omega
  by_cases hlt : g < zeros ((m.length + 1) % 64)
  · have h56 : (m.length + 1 + g) % 64 ≠ 56 := by unfold zeros at *; omega
    first | with_reducible refine ks [] (And.intro @uE7_1 @hl) ?_ | refine kp (And.intro @uE7_1 @hl) ?_
    refine Again.mk (g + 1) (by omega) (by omega) rfl ?_
    rw [show m ++ [128] ++ List.replicate (g + 1) 0 = m ++ [128] ++ List.replicate g 0 ++ [0] from by rw [List.replicate_succ']; simp]
    rfl
  · have hge : g = zeros ((m.length + 1) % 64) := by omega
    subst hge
    first | with_reducible refine ks [] (And.intro @uE7_1 @hl) ?_ | refine kp (And.intro @uE7_1 @hl) ?_
    refine Ow.alloc rfl rfl Tryz.zr273 fun b1 hb1 hw1 => ?_
    rw [show UInt64.ofInt (m.length : Int) = UInt64.ofNat m.length from ofInt_nat _]
    refine ko @uE7_1 ?_
    first | with_reducible refine ks [] @uE7_1 ?_ | refine kp @uE7_1 ?_
    generalize ht : UInt64.ofNat m.length * 8 = t
    rw [← tailPre_zero t]
    refine Cw.loopG (G := Nat) [19, 20, 23, 24, 25, 26, 27, 28, 29, 30, 4, 21, 22, 6] (fun i => [(4, v64 (quoN t i)), (6, vi i)]) (fun i => [(b1, .cells (a8 (tailPre t i)) 273 (0, 0))]) (fun i => i ≤ 8) (fun i => 8 - i) 0 rfl rfl ?_ ?_
    · omega
    intro i ji hi
    refine kv ?_
    have htl := tailPre_length t i
    by_cases hi8 : i < 8
    · first | with_reducible refine ks [] @uE7_1 ?_ | refine kp @uE7_1 ?_
      refine Again.mk (i + 1) (by omega) (by omega) ?_ rfl
      rw [tailPre_succ t i hi8]
    · have hie : i = 8 := by omega
      subst hie
      first | with_reducible refine ks [] @uE7_1 ?_ | refine kp @uE7_1 ?_
      rw [List.drop_zero, List.take_of_length_le (show (tailPre t 8).length ≤ 8 by omega), ← ht, UInt64.mul_comm, tailPre_all]
      refine ⟨_, (ke @uE7_1), ⟨hw1, trivial⟩, ?_⟩
      rfl
theorem block_spec (st : List UInt32) (blk : List UInt8) (hst : st.length = 8) (hbk : blk.length = 64) (w : World) :
    Rets Tryz.prog 168 #[.agg (a32 st), vs blk] w (fun v D => v = .agg (a32 (comp st blk)) ∧ D = []) := by
  have hkl : kL.length = 64 := rfl
  refine Rets.enterV Tryz.func168 rfl (rs := [.cell 4 244]) Tryz.results168 Tryz.ntmps168 ?_
  refine kf ?_
  first | with_reducible refine ks [] @uE7_1 ?_ | refine kp @uE7_1 ?_
  refine Ow.box rfl rfl fun b1 hb1 hw1 => ?_
  refine ko @uE7_1 ?_
  refine Ow.alloc rfl rfl Tryz.zr244 fun b2 hb2 hw2 => ?_
  obtain ⟨h12, -⟩ := hb2
  refine ko @uE7_1 ?_
  first | with_reducible refine ks [] @uE7_1 ?_ | refine kp @uE7_1 ?_
  refine Ow.alloc rfl rfl Tryz.zr274 fun b3 hb3 hw3 => ?_
  obtain ⟨h13, h23, -⟩ := hb3
  refine ko @uE7_1 ?_
  first | with_reducible refine ks [] @uE7_1 ?_ | refine kp @uE7_1 ?_
  rw [← wPre_zero blk]
  refine Cw.loopG (G := Nat) [22, 23, 26, 27, 28, 29, 30, 31, 32, 33, 34, 35, 36, 37, 38, 39, 40, 41, 42, 43, 44, 45, 46, 47, 48, 49, 50, 51, 52, 53, 54, 55, 56, 24, 25, 6] (fun g => [(6, vi g)]) (fun g => [(b1, .cells (a32 st) 244 (0, 0)), (b2, .cells (a32 (List.replicate 8 0)) 244 (0, 0)), (b3, .cells (a32 (wPre blk g)) 274 (0, 0))]) (fun g => g ≤ 16) (fun g => 16 - g) 0 rfl rfl ?_ ?_
  · omega
  intro g j hg
  refine kv ?_
  have hlen := wPre_length blk g
  by_cases hlt : g < 16
  · first | with_reducible refine ks [] @uE7_1 ?_ | refine kp @uE7_1 ?_
    refine Cw.regionO [0, 1, 2, 3, 4, 5, 6, 7, 8, 9, 10, 11, 12, 13, 14, 15, 16, 17, 18, 19, 20, 21, 22, 23, 24, 25, 26, 27, 28, 29, 30, 31] [31] rfl (by kernel_rfl) (by kernel_rfl) ?_
    simp only [nl_cons, ↓pickL_nil, ↓pickL_cons, ↓nthO_0, ↓nthO_s, consO_some]
    refine kq @uE7_1 ?_
    refine Ow.store rfl rfl rfl (ke @uE7_1) ?_
    refine ko @uE7_1 ?_
    first | with_reducible refine ks [] @uE7_1 ?_ | refine kp @uE7_1 ?_
    exact Again.mk (g + 1) (by omega) (by omega) (by rw [← wPre_succ]; rfl) rfl
  · have hg16 : g = 16 := by omega
    subst hg16
    first | with_reducible refine ks [] @uE7_1 ?_ | refine kp @uE7_1 ?_
    rw [wG_start]
    refine Cw.loopG (G := Nat) [57, 58, 61, 62, 63, 64, 65, 66, 67, 68, 8, 9, 69, 70, 71, 72, 73, 74, 75, 76, 77, 78, 79, 80, 81, 82, 83, 84, 85, 86, 87, 88, 89, 90, 91, 92, 93, 94, 95, 96, 97, 59, 60, 7] (fun g => [(7, vi g)]) (fun g => [(b1, .cells (a32 st) 244 (0, 0)), (b2, .cells (a32 (List.replicate 8 0)) 244 (0, 0)), (b3, .cells (a32 (wG blk g)) 274 (0, 0))]) (fun g => 16 ≤ g ∧ g ≤ 64) (fun g => 64 - g) 16 rfl rfl ?_ ?_
    · omega
    intro g j hg
    refine kv ?_
    obtain ⟨hg1, hg2⟩ := hg
    have hlen := wG_length blk g
    by_cases hlt : g < 64
    · first | with_reducible refine ks [] @uE7_1 ?_ | refine kp @uE7_1 ?_
      refine Cw.regionO [0, 1, 2, 4, 5, 6, 3, 8, 7, 9] [] rfl (by kernel_rfl) (by kernel_rfl) ?_
      simp only [nl_cons, ↓pickL_nil, ↓pickL_cons, ↓nthO_0, ↓nthO_s, consO_some]
      refine kq @uE7_1 ?_
      first | with_reducible refine ks [] @uE7_1 ?_ | refine kp @uE7_1 ?_
      refine Cw.regionO [0, 1, 3, 6, 7, 9, 10, 11, 14, 16, 19, 20, 23, 24, 25, 12, 26, 2, 4, 5, 8, 13, 15, 17, 18, 21, 22, 27, 28, 29] [29] rfl (by kernel_rfl) (by kernel_rfl) ?_
      simp only [nl_cons, ↓pickL_nil, ↓pickL_cons, ↓nthO_0, ↓nthO_s, consO_some]
      refine kq @uE7_1 ?_
      refine Ow.callFV rfl Tryz.call190 (fun w' hw' => right_spec _ 17 w') ?_
      refine kq @uE7_1 ?_
      refine Ow.callFV rfl Tryz.call190 (fun w' hw' => right_spec _ 19 w') ?_
      refine kq @uE7_1 ?_
      refine Ow.callFV rfl Tryz.call190 (fun w' hw' => right_spec _ 7 w') ?_
      refine kq @uE7_1 ?_
      refine Ow.callFV rfl Tryz.call190 (fun w' hw' => right_spec _ 18 w') ?_
      refine kq @uE7_1 ?_
      refine Ow.store rfl rfl rfl (ke @uE7_1) ?_
      refine ko @uE7_1 ?_
      first | with_reducible refine ks [] @uE7_1 ?_ | refine kp @uE7_1 ?_
      exact Again.mk (g + 1) (by omega) (by omega) (by rw [wG_succ blk g hg1]; rfl) rfl
    · have hg64 : g = 64 := by omega
      subst hg64
      rw [wG_all]
      have hwl := wAll_length blk
      first | with_reducible refine ks [] @uE7_1 ?_ | refine kp @uE7_1 ?_
      refine Ow.callFV rfl Tryz.call191 (fun w' hw' => rounds_spec w') ?_
      refine ko @uE7_1 ?_
      refine Ow.alloc rfl rfl Tryz.zr274 fun b4 hb4 hw4 => ?_
      obtain ⟨h14, h24, h34, -⟩ := hb4
      refine ko @uE7_1 ?_
      first | with_reducible refine ks [] @uE7_1 ?_ | refine kp @uE7_1 ?_
      refine Cw.regionO [0, 2, 4, 6, 1, 8, 3, 9, 5, 10, 7, 11] [] rfl (by kernel_rfl) (by kernel_rfl) ?_
      simp only [nl_cons, ↓pickL_nil, ↓pickL_cons, ↓nthO_0, ↓nthO_s, consO_some]
      refine kq @uE7_1 ?_
      first | with_reducible refine ks [] @uE7_1 ?_ | refine kp @uE7_1 ?_
      refine Cw.regionO [0, 2, 4, 6, 1, 8, 3, 9, 5, 10, 7, 11] [] rfl (by kernel_rfl) (by kernel_rfl) ?_
      simp only [nl_cons, ↓pickL_nil, ↓pickL_cons, ↓nthO_0, ↓nthO_s, consO_some]
      refine kq @uE7_1 ?_
      first | with_reducible refine ks [] @uE7_1 ?_ | refine kp @uE7_1 ?_
      generalize hw : wAll blk = W at *
      refine Cw.loopG (G := Nat) [115, 116, 119, 120, 121, 122, 123, 124, 125, 126, 127, 128, 129, 130, 131, 132, 133, 134, 135, 136, 137, 138, 139, 140, 141, 142, 143, 144, 145, 20, 146, 147, 148, 149, 150, 151, 152, 153, 154, 155, 156, 157, 158, 159, 160, 161, 162, 163, 164, 165, 21, 166, 18, 167, 17, 168, 16, 169, 170, 171, 15, 172, 14, 173, 13, 174, 12, 175, 176, 177, 11, 117, 118, 19] (fun g => [(19, vi g), (11, v32 ((rGo st W g).getD 0 0)), (12, v32 ((rGo st W g).getD 1 0)), (13, v32 ((rGo st W g).getD 2 0)), (14, v32 ((rGo st W g).getD 3 0)), (15, v32 ((rGo st W g).getD 4 0)), (16, v32 ((rGo st W g).getD 5 0)), (17, v32 ((rGo st W g).getD 6 0)), (18, v32 ((rGo st W g).getD 7 0))]) (fun g => [(b1, .cells (a32 st) 244 (0, 0)), (b2, .cells (a32 (List.replicate 8 0)) 244 (0, 0)), (b3, .cells (a32 W) 274 (0, 0)), (b4, .cells (a32 kL) 274 (0, 0))]) (fun g => g ≤ 64) (fun g => 64 - g) 0 rfl rfl ?_ ?_
      · omega
      · intro g j hg
        refine kv ?_
        by_cases hlt : g < 64
        · first | with_reducible refine ks [] @uE7_1 ?_ | refine kp @uE7_1 ?_
          refine Cw.regionO [0, 1, 3, 6, 10, 11, 12, 13, 14, 15, 16, 17, 19, 20, 23, 24, 21, 25, 2, 4, 5, 7, 8, 9, 18, 22, 26, 27] [] rfl (by kernel_rfl) (by kernel_rfl) ?_
          simp only [nl_cons, ↓pickL_nil, ↓pickL_cons, ↓nthO_0, ↓nthO_s, consO_some]
          refine kq @uE7_1 ?_
          refine Ow.callFV rfl Tryz.call190 (fun w' hw' => right_spec _ 6 w') ?_
          refine kq @uE7_1 ?_
          refine Ow.callFV rfl Tryz.call190 (fun w' hw' => right_spec _ 11 w') ?_
          refine kq @uE7_1 ?_
          refine Ow.callFV rfl Tryz.call190 (fun w' hw' => right_spec _ 25 w') ?_
          refine kq @uE7_1 ?_
          first | with_reducible refine ks [] @uE7_1 ?_ | refine kp @uE7_1 ?_
          refine Ow.callFV rfl Tryz.call190 (fun w' hw' => right_spec _ 2 w') ?_
          refine ko @uE7_1 ?_
          refine Ow.callFV rfl Tryz.call190 (fun w' hw' => right_spec _ 13 w') ?_
          refine ko @uE7_1 ?_
          refine Ow.callFV rfl Tryz.call190 (fun w' hw' => right_spec _ 22 w') ?_
          refine ko @uE7_1 ?_
          first | with_reducible refine ks [] @uE7_1 ?_ | refine kp @uE7_1 ?_
          exact Again.mk (g + 1) (by omega) (by omega) rfl rfl
        · have hg64 : g = 64 := by omega
          subst hg64
          first | with_reducible refine ks [] @uE7_1 ?_ | refine kp @uE7_1 ?_
          have hcomp : comp st blk = addPre st (rGo st W 64) 8 := by rw [← hw]; rfl
          rw [hcomp]
          generalize rGo st W 64 = R at *
          rw [addPre_all]
          refine Ow.build (.agg (a32 [st.getD 0 0 + R.getD 0 0, st.getD 1 0 + R.getD 1 0, st.getD 2 0 + R.getD 2 0, st.getD 3 0 + R.getD 3 0, st.getD 4 0 + R.getD 4 0, st.getD 5 0 + R.getD 5 0, st.getD 6 0 + R.getD 6 0, st.getD 7 0 + R.getD 7 0])) rfl (by kernel_rfl) ?_
          refine ko @uE7_1 ?_
          first | with_reducible refine ks [] @uE7_1 ?_ | refine kp @uE7_1 ?_
          refine ⟨_, (ke @uE7_1), ⟨hw1, hw2, hw3, hw4, trivial⟩, ?_⟩
          rfl
end Go.Proofs
end
section
open Go Go.Proofs Go.Sx Go.Dig
namespace Go.Proofs
set_option maxRecDepth 10000
set_option maxHeartbeats 1000000
set_option linter.unusedSimpArgs false
set_option linter.defProp false
def uE8_1 := @getD_set_same
theorem refSum_spec (m : List UInt8) (hm : m.length < 1099511627776) (w : World) :
    Rets Tryz.prog 134 #[vs m] w (fun v D => v = .agg (a8 (shaR m)) ∧ D = []) := by
  refine Rets.enterV Tryz.func134 rfl (rs := [.cell 2 37]) Tryz.results134 Tryz.ntmps134 ?_
  refine kf ?_
  first | with_reducible refine ks [] @uE8_1 ?_ | refine kp @uE8_1 ?_
  refine Ow.alloc rfl rfl Tryz.zr37 fun b1 hb1 hw1 => ?_
  refine ko @uE8_1 ?_
  first | with_reducible refine ks [] @uE8_1 ?_ | refine kp @uE8_1 ?_
  refine Ow.callFV rfl Tryz.call167 (fun w' hw' => lengthened_spec m hm w') ?_
  have hp := padR_length m
  unfold shaR
  generalize padR m = p at *
  refine ko @uE8_1 ?_
  first | with_reducible refine ks [] @uE8_1 ?_ | refine kp @uE8_1 ?_
  refine Ow.build (.agg (a32 initL)) rfl (by kernel_rfl) ?_
  refine ko @uE8_1 ?_
  refine Ow.alloc rfl rfl Tryz.zr244 fun b2 hb2 hw2 => ?_
  obtain ⟨h12, -⟩ := hb2
  have hil : initL.length = 8 := rfl
  refine ko @uE8_1 ?_
  first | with_reducible refine ks [] @uE8_1 ?_ | refine kp @uE8_1 ?_
  rw [show a32 initL = a32 (comps initL p 0) from rfl]
  refine Cw.loopG (G := Nat) [11, 12, 13, 14, 17, 18, 19, 20, 21, 22, 23, 15, 16, 5] (fun g => [(5, vi (64 * g))]) (fun g => [(b1, .cells (a8 (List.replicate 32 0)) 37 (0, 0)), (b2, .cells (a32 (comps initL p g)) 244 (0, 0))]) (fun g => 64 * g ≤ p.length) (fun g => p.length - 64 * g) 0 rfl rfl ?_ ?_
  · omega
  intro g j hg
  refine kv ?_
  have hcl := comps_length initL p g rfl
  by_cases hlt : 64 * g < p.length
  · first | with_reducible refine ks [] @uE8_1 ?_ | refine kp @uE8_1 ?_
    refine Cw.regionO [1, 2, 3, 4, 5, 0, 6, 7] [7] rfl (by kernel_rfl) (by kernel_rfl) ?_
    simp only [nl_cons, ↓pickL_nil, ↓pickL_cons, ↓nthO_0, ↓nthO_s, consO_some]
    refine kq @uE8_1 ?_
    rw [show List.drop (64 * g) (List.take (64 * g + 64) p) = (p.drop (64 * g)).take 64 from by rw [List.drop_take]; congr 1; omega]
    refine Ow.callFV rfl Tryz.call168 (fun w' hw' => block_spec _ _ hcl (by simp; omega) w') ?_
    have hcl2 := comp_length (comps initL p g) ((p.drop (64 * g)).take 64)
    refine kq @uE8_1 ?_
    refine Ow.store rfl rfl rfl (ke @uE8_1) ?_
    refine ko @uE8_1 ?_
    first | with_reducible refine ks [] @uE8_1 ?_ | refine kp @uE8_1 ?_
    exact Again.mk (g + 1) (by omega) (by omega) rfl (by rw [show 64 * ((g + 1 : Nat) : Int) = 64 * (g : Int) + 64 from by omega]; rfl)
  · have hge : g = p.length / 64 := by omega
    first | with_reducible refine ks [] @uE8_1 ?_ | refine kp @uE8_1 ?_
    rw [← hge]
    refine Ow.alloc rfl rfl Tryz.zr37 fun b3 hb3 hw3 => ?_
    obtain ⟨h13, h23, -⟩ := hb3
    refine ko @uE8_1 ?_
    first | with_reducible refine ks [] @uE8_1 ?_ | refine kp @uE8_1 ?_
    generalize comps initL p g = S at *
    rw [show [(b1, Obj.cells (a8 (List.replicate 32 0)) 37 (0, 0)), (b2, .cells (a32 S) 244 (0, 0)), (b3, .cells (a8 (List.replicate 32 0)) 37 (0, 0))] = [(b1, Obj.cells (a8 (List.replicate 32 0)) 37 (0, 0)), (b2, .cells (a32 S) 244 (0, 0)), (b3, .cells (a8 (outPre S 0)) 37 (0, 0))] from by rw [outPre_zero]]
    refine Cw.loopG (G := Nat) [24, 25, 28, 29, 30, 31, 32, 33, 34, 35, 36, 37, 38, 39, 40, 26, 27, 7] (fun k => [(7, vi k)]) (fun k => [(b1, .cells (a8 (List.replicate 32 0)) 37 (0, 0)), (b2, .cells (a32 S) 244 (0, 0)), (b3, .cells (a8 (outPre S k)) 37 (0, 0))]) (fun k => k ≤ 32) (fun k => 32 - k) 0 rfl rfl ?_ ?_
    · omega
    intro k jk hk
    refine kv ?_
    have hol := outPre_length S k
    by_cases hk : k < 32
    · first | with_reducible refine ks [] @uE8_1 ?_ | refine kp @uE8_1 ?_
      refine Again.mk (k + 1) (by omega) (by omega) ?_ rfl
      have e : (UInt64.ofInt (24 - 8 * ((k : Int) % 4))).toNat = 24 - 8 * (k % 4) := by
        rw [show (24 - 8 * ((k : Int) % 4)) = ((24 - 8 * (k % 4) : Nat) : Int) from by omega, ofInt_nat, UInt64.toNat_ofNat', Nat.mod_eq_of_lt (by omega)]
      rw [e, ← outPre_succ]; rfl
    · have hke : k = 32 := by omega
      subst hke
      first | with_reducible refine ks [] @uE8_1 ?_ | refine kp @uE8_1 ?_
      refine ⟨_, (ke @uE8_1), ⟨hw1, hw2, hw3, trivial⟩, ?_⟩
      rfl
end Go.Proofs
end
namespace Go.Dig
open Go.Sx
structure Inv (s : Hs) (p : List UInt8) : Prop where
  ok : s.Ok
  st : s.st = comps initL p (p.length / 64)
  many : s.many = p.length % 64
  rest : s.rest.take s.many = p.drop (64 * (p.length / 64))
theorem Inv.put {s : Hs} {p : List UInt8} (h : Inv s p) (x : UInt8) : Inv (hput s x) (p ++ [x]) := by
  obtain ⟨hok, hst, hmany, hrest⟩ := h
  have hk := hput_ok x hok
  have hm64 := hok.many
  have hrl := hok.rest
  have hle : 64 * (p.length / 64) ≤ p.length := by omega
  have htake : (s.rest.set s.many x).take (s.many + 1) = p.drop (64 * (p.length / 64)) ++ [x] := by
    rw [List.take_add_one, List.take_set, ← hrest]
    congr 1
    · rw [List.set_eq_of_length_le (by simp only [List.length_take]; exact Nat.min_le_left _ _)]
    · simp [hrl, hm64]
  have hlen : (p ++ [x]).length = p.length + 1 := by simp
  have hc : comps initL (p ++ [x]) (p.length / 64) = comps initL p (p.length / 64) := comps_append _ _ _ _ hle
  by_cases h64 : s.many + 1 = 64
  · have e : hput s x = ⟨comp s.st (s.rest.set s.many x), s.rest.set s.many x, 0⟩ := by unfold hput; rw [if_pos h64]
    have hd : (p.length + 1) / 64 = p.length / 64 + 1 := by omega
    have hr : (s.rest.set s.many x) = p.drop (64 * (p.length / 64)) ++ [x] := by
      rw [← htake, h64, List.take_of_length_le (by simp [hrl])]
    refine ⟨hk, ?_, ?_, ?_⟩
    · rw [e, hlen, hd]
      show comp s.st _ = comp (comps initL (p ++ [x]) (p.length / 64)) _
      rw [hc, ← hst, hr, List.drop_append_of_le_length hle, List.take_of_length_le (by simp; omega)]
    · rw [e, hlen]; show 0 = _; omega
    · rw [e, hlen]
      show List.take 0 _ = _
      rw [List.take_zero, List.drop_of_length_le (by rw [hlen]; omega)]
  · have e : hput s x = ⟨s.st, s.rest.set s.many x, s.many + 1⟩ := by unfold hput; rw [if_neg h64]
    have hd : (p.length + 1) / 64 = p.length / 64 := by omega
    refine ⟨hk, ?_, ?_, ?_⟩
    · rw [e, hlen, hd, hc]; exact hst
    · rw [e, hlen]; show s.many + 1 = _; omega
    · rw [e, hlen, hd]
      show List.take (s.many + 1) (s.rest.set s.many x) = _
      rw [htake, List.drop_append_of_le_length hle]
theorem Inv.puts {s : Hs} {p : List UInt8} (h : Inv s p) (l : List UInt8) : Inv (hputs s l) (p ++ l) := by
  induction l generalizing s p with
  | nil => rw [List.append_nil]; exact h
  | cons x r ih =>
    have := ih (h.put x)
    rw [List.append_assoc] at this
    exact this
theorem Inv.zero : Inv H0 [] := ⟨H0_ok, rfl, rfl, rfl⟩
theorem hputs_st (p : List UInt8) : (hputs H0 p).st = comps initL p (p.length / 64) := (Inv.zero.puts p).st
theorem takenL_eq (l : List (List UInt8)) (n : Nat) : takenL (UInt64.ofNat n) l = UInt64.ofNat (n + l.flatten.length) := by
  induction l generalizing n with
  | nil => rfl
  | cons a r ih =>
    show takenL (UInt64.ofNat n + UInt64.ofNat a.length) r = _
    rw [← UInt64.ofNat_add, ih, List.flatten_cons, List.length_append, Nat.add_assoc]
theorem hsum_eq (m : List UInt8) : hsum (hputs H0 m) (UInt64.ofNat m.length) = shaR m := by
  unfold hsum shaR
  rw [← hputs_st]
  suffices h : padded (hputs H0 m) (UInt64.ofNat m.length) = hputs H0 (padR m) by rw [h]
  have hmany : (hput (hputs H0 m) 128).many = (m.length + 1) % 64 := by
    have := ((Inv.zero.puts m).put 128).many
    rw [this]; simp
  unfold padded padR
  rw [hmany, hputs_append, hputs_append, hputs_append, show hputs (hputs H0 m) [128] = hput (hputs H0 m) 128 from rfl]
theorem sumV_eq (l : List (List UInt8)) : sumV l = shaR l.flatten := by
  unfold sumV
  have := takenL_eq l 0
  rw [Nat.zero_add] at this
  rw [show (0 : UInt64) = UInt64.ofNat 0 from rfl, this, hsum_eq]
end Go.Dig
section
open Go Go.Proofs Go.Sx Go.StP
namespace Go.Proofs
set_option maxRecDepth 10000
set_option maxHeartbeats 400000
set_option linter.unusedSimpArgs false
/-! ### Ids of objects -/
theorem GlobE.new {w0 w : World} {L : Heap} (hg : GlobE w0) (h : Hp w0 L w) (hn : New w0.heap.size L) : GlobE w := by
  obtain ⟨e0, e1, f0, f1, h0, h1⟩ := id hg
  have : 3 < w0.heap.size := (Array.getElem?_eq_some_iff.1 h1).1
  exact hg.of h fun b hb => by have := hn.le b hb; omega
theorem frameB_lenR {k : Int} {t : List UInt8} (h : RdOk k t = true) : (frameB k t).length < 100000 := by
  obtain ⟨h1, h2, h3⟩ := RdOk_in h
  have hh : (headB k).length ≤ 4 := by unfold headB; simp only [List.length_drop, List.length_take, List.length_cons, List.length_nil]; omega
  have := numL_clamp_len (t.length : Int)
  unfold frameB textL
  rw [List.length_append, List.length_append]
  omega
theorem shaR_len (m : List UInt8) : (Dig.shaR m).length = 32 := Dig.outPre_length _ _
set_option linter.defProp false
def uRA_c3z_1 := And.intro (And.intro (And.intro (@load_ob) (@load_ob0)) (And.intro (@load_ob1) (@store_ob))) (And.intro (And.intro (@Sx.tup2_0) (@Sx.tup2_1)) (And.intro (@rdIn_v8) (@rdIn_vi)))
def idV (k : Int) (t : List UInt8) : IdL := if RdOk k t then ⟨Dig.shaR (frameB k t), shaR_len _⟩ else id0
theorem build_idZ : buildV (plcT Tryz.prog 37) (zeroV Tryz.prog 37) [] = some (.agg (a8 id0.l)) := id (by kernel_rfl)
theorem IdO_spec (k : Int) (t : List UInt8) (w : World) (hG : GlobE w) : Rets Tryz.prog 126 #[obV k t] w (fun v D => v = .tuple #[.agg (a8 (idV k t).l), .bool (RdOk k t)] ∧ D = []) := by
  refine Rets.enterV Tryz.func126 rfl (rs := [.cell 2 37, .tmp 3]) Tryz.results126 Tryz.ntmps126 ?_
  refine kf ?_
  first | with_reducible refine ks [] @uRA_c3z_1 ?_ | refine kp @uRA_c3z_1 ?_
  refine Ow.box rfl rfl fun b1 hb1 hw1 => ?_
  simp only [ev_tmp, getF_0, getF_s, cells_agg, List.nil_append]
  refine ko @uRA_c3z_1 ?_
  refine Ow.alloc rfl rfl zrIdE fun b2 hb2 hw2 => ?_
  simp only [cells_agg, List.nil_append, List.cons_append]
  have h12 : b1 < b2 := above_to hb2 (by simp [keys])
  have hi0 := id0.h
  refine ko @uRA_c3z_1 ?_
  refine Ow.callC rfl rfl Tryz.call159 (fun w' hw' => FrameO_spec k t w') (fun B v D hA hB hN hS => ?_)
  have hD : New w.heap.size D := New.mono hB hN
  unfold idV
  cases hr : RdOk k t
  · rw [hr, if_neg (by decide)] at hS
    subst hS
    have e : ((1 : Int) != 0) = true := rfl
    refine ko @uRA_c3z_1 ?_
    first | with_reducible refine ks [] (And.intro @uRA_c3z_1 @e) ?_ | refine kp (And.intro @uRA_c3z_1 @e) ?_
    refine Ow.build (.agg (a8 id0.l)) rfl build_idZ ?_
    refine ko @uRA_c3z_1 ?_
    first | with_reducible refine ks [] @uRA_c3z_1 ?_ | refine kp @uRA_c3z_1 ?_
    refine ⟨_, (ke @uRA_c3z_1), ⟨hw1, hw2, hD⟩, ?_⟩
    rfl
  · rw [hr, if_pos rfl] at hS
    subst hS
    have e : ((0 : Int) != 0) = false := rfl
    have hfl := frameB_lenR hr
    have hzl : ∀ i, i < [frameB k t].length → ([frameB k t].getD i []).length < 1099511627776 := fun i hi => by
      obtain rfl : i = 0 := by simpa using hi
      show (frameB k t).length < _; omega
    refine ko @uRA_c3z_1 ?_
    first | with_reducible refine ks [] (And.intro @uRA_c3z_1 @e) ?_ | refine kp (And.intro @uRA_c3z_1 @e) ?_
    refine Ow.buildSlice (e := 9) #[vs (frameB k t)] rfl rfl (by kernel_rfl) fun b15 hb15 hw15 => ?_
    refine ko @uRA_c3z_1 ?_
    refine Ow.callFV rfl Tryz.call160 (fun w' hw' => dsum_spec _ b15 0 [frameB k t] _ _ _ w' (hG.new hw' (by exact ⟨hw1, hw2, New.app hD ⟨hw15, trivial⟩⟩)) (StrS.lit [frameB k t] rfl rfl (hw'.has _ (.cells #[vs (frameB k t)] 9 (0, 0)) (by simp))) (by show (1 : Nat) < 1099511627776; omega) hzl) ?_
    rw [Dig.sumV_eq, show ([frameB k t] : List (List UInt8)).flatten = frameB k t by simp]
    have hsl := shaR_len (frameB k t)
    refine ko @uRA_c3z_1 ?_
    first | with_reducible refine ks [] @uRA_c3z_1 ?_ | refine kp @uRA_c3z_1 ?_
    refine ⟨_, (ke @uRA_c3z_1), ⟨hw1, hw2, hD.app ⟨hw15, trivial⟩⟩, ?_⟩
    rfl
/-! ### The law's frames and ids -/
def frameL (k : Int) (t : List UInt8) : List UInt8 := (if k = 3 then [99] else if k = 2 then [116] else [98]) ++ textL t
theorem frameL_eq {k : Int} {t : List UInt8} (h : RdOk k t = true) : frameL k t = frameB k t := by
  obtain ⟨h1, h2, -⟩ := RdOk_in h
  unfold frameL frameB
  rcases (show k = 1 ∨ k = 2 ∨ k = 3 by omega) with rfl | rfl | rfl <;> rfl
theorem FrameL_spec (k : Int) (t : List UInt8) (w : World) (ht : t.length < 100000) : Rets Tryz.prog 135 #[obV k t] w (fun v D => v = vs (frameL k t) ∧ D = []) := by
  have tl := textL_len (s := t) (by omega)
  refine Rets.enterV Tryz.func135 rfl (rs := [.tmp 2]) Tryz.results135 Tryz.ntmps135 ?_
  refine kf ?_
  first | with_reducible refine ks [] @uRA_c3z_1 ?_ | refine kp @uRA_c3z_1 ?_
  refine Ow.box rfl rfl fun b1 hb1 hw1 => ?_
  simp only [ev_tmp, getF_0, getF_s, cells_agg, List.nil_append]
  unfold frameL
  by_cases h3 : k = 3
  · have e2 : (k == 2) = false := beq_eq_false_iff_ne.2 (by omega)
    have e3 : (k == 3) = true := by simp [h3]
    rw [if_pos h3]
    refine ko (And.intro @uRA_c3z_1 ( And.intro @e2 (@e3))) ?_
    first | with_reducible refine ks [] (And.intro @uRA_c3z_1 ( And.intro @e2 (@e3))) ?_ | refine kp (And.intro @uRA_c3z_1 ( And.intro @e2 (@e3))) ?_
    refine Ow.callFV rfl Tryz.call92 (fun w' hw' => TextR_spec t w' (by omega)) ?_
    refine ko @uRA_c3z_1 ?_
    first | with_reducible refine ks [] @uRA_c3z_1 ?_ | refine kp @uRA_c3z_1 ?_
    refine ⟨_, (ke @uRA_c3z_1), ⟨hw1, trivial⟩, ?_⟩
    rfl
  · have e3 : (k == 3) = false := by simpa using h3
    rw [if_neg h3]
    by_cases h2 : k = 2
    · have e2 : (k == 2) = true := by simp [h2]
      rw [if_pos h2]
      refine ko (And.intro @uRA_c3z_1 ( And.intro @e2 (@e3))) ?_
      first | with_reducible refine ks [] (And.intro @uRA_c3z_1 ( And.intro @e2 (@e3))) ?_ | refine kp (And.intro @uRA_c3z_1 ( And.intro @e2 (@e3))) ?_
      refine Ow.callFV rfl Tryz.call92 (fun w' hw' => TextR_spec t w' (by omega)) ?_
      refine ko @uRA_c3z_1 ?_
      first | with_reducible refine ks [] @uRA_c3z_1 ?_ | refine kp @uRA_c3z_1 ?_
      refine ⟨_, (ke @uRA_c3z_1), ⟨hw1, trivial⟩, ?_⟩
      rfl
    · have e2 : (k == 2) = false := by simpa using h2
      rw [if_neg h2]
      refine ko (And.intro @uRA_c3z_1 ( And.intro @e2 (@e3))) ?_
      first | with_reducible refine ks [] (And.intro @uRA_c3z_1 ( And.intro @e2 (@e3))) ?_ | refine kp (And.intro @uRA_c3z_1 ( And.intro @e2 (@e3))) ?_
      refine Ow.callFV rfl Tryz.call92 (fun w' hw' => TextR_spec t w' (by omega)) ?_
      refine ko @uRA_c3z_1 ?_
      first | with_reducible refine ks [] @uRA_c3z_1 ?_ | refine kp @uRA_c3z_1 ?_
      refine ⟨_, (ke @uRA_c3z_1), ⟨hw1, trivial⟩, ?_⟩
      rfl
theorem IdL_spec (k : Int) (t : List UInt8) (w : World) (ht : t.length < 100000) : Rets Tryz.prog 67 #[obV k t] w (fun v D => v = .agg (a8 (Dig.shaR (frameL k t))) ∧ D = []) := by
  have tl := textL_len (s := t) (by omega)
  have fl : (frameL k t).length < 1099511627776 := by
    have nl := numL_clamp_len (t.length : Int)
    unfold frameL textL; rw [List.length_append, List.length_append]
    have : ((if k = 3 then [99] else if k = 2 then [116] else [98] : List UInt8)).length = 1 := by split <;> (try split) <;> rfl
    omega
  have hsl := shaR_len (frameL k t)
  refine Rets.enterV Tryz.func67 rfl (rs := [.cell 2 37]) Tryz.results67 Tryz.ntmps67 ?_
  refine kf ?_
  first | with_reducible refine ks [] @uRA_c3z_1 ?_ | refine kp @uRA_c3z_1 ?_
  refine Ow.box rfl rfl fun b1 hb1 hw1 => ?_
  simp only [ev_tmp, getF_0, getF_s, cells_agg, List.nil_append]
  refine ko @uRA_c3z_1 ?_
  refine Ow.alloc rfl rfl zrIdE fun b2 hb2 hw2 => ?_
  simp only [cells_agg, List.nil_append, List.cons_append]
  have h12 : b1 < b2 := above_to hb2 (by simp [keys])
  have hi0 := id0.h
  refine ko @uRA_c3z_1 ?_
  refine Ow.callFV rfl Tryz.call135 (fun w' hw' => FrameL_spec k t w' ht) ?_
  refine ko @uRA_c3z_1 ?_
  refine Ow.callFV rfl Tryz.call134 (fun w' hw' => refSum_spec _ fl w') ?_
  refine ko @uRA_c3z_1 ?_
  first | with_reducible refine ks [] @uRA_c3z_1 ?_ | refine kp @uRA_c3z_1 ?_
  refine ⟨_, (ke @uRA_c3z_1), ⟨hw1, hw2, trivial⟩, ?_⟩
  rfl
end Go.Proofs
end
section
open Go Go.Proofs Go.Sx Go.StP Go.Flo
namespace Go.Proofs
set_option maxRecDepth 10000
set_option maxHeartbeats 400000
set_option linter.unusedSimpArgs false
/-! ### What a pack's parts hold: plain laws -/
structure ObL where
  k : Int
  t : List UInt8
def ob0 : ObL := ⟨0, []⟩
def obC (o : ObL) : List Value := [vi o.k, vs o.t]
theorem obC_len (o : ObL) : (obC o).length = 2 := rfl
theorem obC_one (o : ObL) : (obC o).all Value.oneCell' = true := rfl
/-- An object that is read of a frame. -/
def readV (s : List UInt8) : ObL := ⟨if frOk s then frK s else 0, if frOk s then (frT s).1 else []⟩
def idOf (s : List UInt8) : IdL := idV (readV s).k (readV s).t
/-- Texts' ids and objects, behind others. -/
def fillGo : List (List UInt8) → List IdL → List ObL → Option (List IdL × List ObL)
  | [], ids, os => some (ids, os)
  | s :: r, ids, os => if frOk s = true ∧ (ids.any fun y => (idOf s).l == y.l) = false then fillGo r (ids ++ [idOf s]) (os ++ [readV s]) else none
/-- What 'fill' finds. -/
def fillV (l : List PartL) : Option (List IdL × List ObL) := match allV l with
  | .ok ts => fillGo ts [] []
  | .error _ => none
theorem fillGo_app : ∀ (a b : List (List UInt8)) (ids : List IdL) (os : List ObL), fillGo (a ++ b) ids os = (fillGo a ids os).bind fun p => fillGo b p.1 p.2
  | [], _, _, _ => rfl
  | s :: a, b, ids, os => by
    rw [List.cons_append, fillGo, fillGo]
    split
    · exact fillGo_app a b _ _
    · rfl
theorem fillGo_len : ∀ (a : List (List UInt8)) (ids : List IdL) (os : List ObL) (p : List IdL × List ObL), fillGo a ids os = some p → p.1.length = ids.length + a.length ∧ p.2.length = os.length + a.length
  | [], ids, os, p, h => by cases h; simp
  | s :: a, ids, os, p, h => by
    rw [fillGo] at h
    split at h
    · have := fillGo_len a _ _ p h
      simp only [List.length_append, List.length_cons, List.length_nil] at this ⊢
      omega
    · cases h
/-- One more text. -/
theorem fillGo_snoc {a : List (List UInt8)} {s : List UInt8} {p : List IdL × List ObL} (h : fillGo a [] [] = some p) :
    fillGo (a ++ [s]) [] [] = if frOk s = true ∧ (p.1.any fun y => (idOf s).l == y.l) = false then some (p.1 ++ [idOf s], p.2 ++ [readV s]) else none := by
  rw [fillGo_app, h]
  show fillGo [s] p.1 p.2 = _
  rw [fillGo]
  rfl
theorem fillGo_none {a b : List (List UInt8)} (h : fillGo a [] [] = none) : fillGo (a ++ b) [] [] = none := by
  rw [fillGo_app, h]; rfl
end Go.Proofs
end
section
open Go Go.Proofs Go.Sx Go.StP Go.Flo
namespace Go.Proofs
set_option maxRecDepth 10000
set_option maxHeartbeats 400000
set_option linter.unusedSimpArgs false
/-! ### pack.fill -/
def pkO (v0 v1 v2 v3 : Value) : Obj := .cells #[v0, v1, v2, v3] 117 (0, 0)
theorem load_pk0 (v0 v1 v2 v3 : Value) (n : Nat) : loadV (some (false, n)) (some (pkO v0 v1 v2 v3)) 0 = some v0 := (rfl)
theorem load_pk1 (v0 v1 v2 v3 : Value) (n : Nat) : loadV (some (false, n)) (some (pkO v0 v1 v2 v3)) 1 = some v1 := (rfl)
theorem load_pk2 (v0 v1 v2 v3 : Value) (n : Nat) : loadV (some (false, n)) (some (pkO v0 v1 v2 v3)) 2 = some v2 := (rfl)
theorem load_pk3 (v0 v1 v2 v3 : Value) (n : Nat) : loadV (some (false, n)) (some (pkO v0 v1 v2 v3)) 3 = some v3 := (rfl)
theorem store_pk2 (v0 v1 v2 v3 q : Value) (a : Bool) (hq : Value.oneCell' q = true ∧ q.cells = #[q]) : storeV (some (a, 1)) (some (pkO v0 v1 v2 v3)) 2 q = some (pkO v0 v1 q v3) :=
  store_mid [v0, v1] [v2] [q] [v3] a _ 117 rfl rfl hq.2 rfl (by simp [hq.1])
theorem store_pk3 (v0 v1 v2 v3 q : Value) (a : Bool) (hq : Value.oneCell' q = true ∧ q.cells = #[q]) : storeV (some (a, 1)) (some (pkO v0 v1 v2 v3)) 3 q = some (pkO v0 v1 v2 q) :=
  store_mid [v0, v1, v2] [v3] [q] [] a _ 117 rfl rfl hq.2 rfl (by simp [hq.1])
/-- A delta that can be read has so many bytes at most. -/
theorem numR_step {s : List UInt8} {a : Nat} {most : Int} (ha : a ≤ s.length) (h : (numR s a 0 most).2.2 = 0) : (numR s a 0 most).2.1 ≤ a + 6 := by
  have hl := numR_le (e := 0) (most := most) ha
  obtain ⟨n, -, hb, -, hd⟩ := numR_canon h
  have h6 := numL_len_lt 6 n (by omega) (by omega)
  have := congrArg List.length hd
  simp only [List.length_drop, List.length_append] at this
  omega
theorem pcR_step {d : List UInt8} {a : Nat} (ha : a ≤ d.length) (h : (pcR d a).2.2 = 0) : (pcR d a).2.1 ≤ a + 4111 := by
  have hl := numR_le (s := d) (a := a) (e := 0) (most := 8199) ha
  have hm := numR_mostE (s := d) (a := a) (e := 0) (most := 8199) (by omega)
  have hz : (numR d a 0 8199).2.2 = 0 := by
    by_cases he : (numR d a 0 8199).2.2 = 0
    · exact he
    · unfold pcR at h
      split at h
      · have := numR_e (s := d) (a := (numR d a 0 8199).2.1) (most := 4099) he
        simp only [this] at h
        exact absurd h he
      · have := rawR_e (s := d) (a := (numR d a 0 8199).2.1) (n := (numR d a 0 8199).1 / 2) he
        simp only [this] at h
        exact absurd h he
  have h1 := numR_step ha hz
  unfold pcR at h ⊢
  split
  · rename_i hc
    rw [if_pos hc] at h
    simp only at h ⊢
    rw [hz] at h ⊢
    have := numR_step hl.2 h
    omega
  · rename_i hc
    rw [if_neg hc] at h
    simp only at h ⊢
    rw [hz] at h ⊢
    unfold rawR at h ⊢
    rw [if_neg (by simp)] at h ⊢
    split at h
    · cases h
    · rename_i h2
      rw [if_neg h2]
      split at h
      · cases h
      · rename_i h3
        rw [if_neg h3]
        simp only
        omega
theorem pcs_step {d : List UInt8} : ∀ (k a : Nat), d.length - a ≤ k → a ≤ d.length → (pcs d a).2.2 = 0 → (pcs d a).2.1 ≤ a + (pcs d a).1.length * 4111
  | k, a, hk, ha, h => by
    by_cases hlt : a < d.length
    · by_cases he : (pcR d a).2.2 = 0
      · have hu := pcR_up ha he
        have hl := pcR_le ha
        have hs := pcR_step ha he
        rw [pcs_ok hlt he] at h ⊢
        cases k with
        | zero => omega
        | succ k =>
          have := pcs_step k _ (by omega) hl.2 h
          simp only [List.length_cons]
          omega
      · rw [pcs_err hlt he] at h
        exact absurd h he
    · rw [pcs_end hlt]; simp
theorem deltaR_len {d : List UInt8} {p : Nat × List PcL} (h : deltaR d = some p) : d.length ≤ 17000000 := by
  unfold deltaR at h
  split at h
  · cases h
  · rename_i h1
    split at h
    · cases h
    · rename_i h2
      split at h
      · rename_i h3
        have l1 := numR_le (s := d) (a := 0) (e := 0) (most := 4099) (Nat.zero_le _)
        have l2 := numR_le (s := d) (a := (numR d 0 0 4099).2.1) (e := (numR d 0 0 4099).2.2) (most := 4099) l1.2
        have e1 : (numR d 0 0 4099).2.2 = 0 := Decidable.byContradiction fun hn => by rw [numR_e hn] at h1; exact h1 hn
        have s1 := numR_step (Nat.zero_le _) e1
        have s2 : (numR d (numR d 0 0 4099).2.1 (numR d 0 0 4099).2.2 4099).2.1 ≤ (numR d 0 0 4099).2.1 + 6 := by
          rw [e1] at h1 ⊢
          exact numR_step l1.2 (by omega)
        obtain ⟨-, -, -, -, -, hc⟩ := chkV_ok h3
        have s3 := pcs_step _ _ (Nat.le_refl _) l2.2 (by omega)
        have s4 := pcs_at _ _ (Nat.le_refl _) l2.2 (by omega)
        have : (pcs d (numR d (numR d 0 0 4099).2.1 (numR d 0 0 4099).2.2 4099).2.1).1.length * 4111 ≤ 4099 * 4111 := Nat.mul_le_mul_right _ hc
        omega
      · cases h
/-- A delta's text has so many bytes at most. -/
theorem applyV_len {b d : List UInt8} (_h : (applyV b d).2 = 0) : (applyV b d).1.length ≤ 4099 := by
  unfold applyV
  split
  · simp
  · rename_i p hp
    split
    · simp
    · rename_i hb
      obtain ⟨m, hm⟩ := deltaR_chk hp
      rw [show p.1 = b.length by omega] at hm
      have hk : chkV (b.length : Nat) p.2 = (((sumP (b.length : Nat) p.2 : Nat) : Int), (0 : Int)) := by
        unfold chkV at hm ⊢
        split at hm
        · cases hm
        · rename_i h1
          rw [if_neg h1]
          split at hm
          · cases hm
          · rename_i h2
            rw [if_neg h2]
            split at hm
            · cases hm
            · rename_i h3; rw [if_neg h3]
      obtain ⟨-, -, h1, h2, -⟩ := chkV_ok hk
      show (txtP b p.2).length ≤ 4099
      rw [txtP_len h1]
      exact h2
theorem partV_len {l : List PartL} {a : Int} {s : List UInt8} (h : partV l a = .ok s) : s.length ≤ 4099 := by
  unfold partV at h
  cases hp : pathV l a with
  | error e => rw [hp] at h; cases h
  | ok p =>
    rw [hp] at h
    change foldT l p = .ok s at h
    cases p with
    | nil => cases h; simp
    | cons x p =>
      unfold foldT at h
      cases hf : foldT l p with
      | error e => rw [hf] at h; cases h
      | ok t =>
        rw [hf] at h
        change (if (textV (l.getD x part0) t).2 = 0 then _ else _) = _ at h
        split at h
        · rename_i h0
          cases h
          unfold textV at h0 ⊢
          split
          · rename_i hd; rw [if_pos hd] at h0; exact applyV_len h0
          · rename_i hd
            split
            · simp
            · show (l.getD x part0).x.length ≤ 4099; omega
        · cases h
theorem allV_len {l : List PartL} {ts : List (List UInt8)} (h : allV l = .ok ts) : ts.length = l.length ∧ l.length ≤ 200 ∧ ∀ k, k < ts.length → (ts.getD k []).length ≤ 4099 := by
  unfold allV at h
  split at h
  · cases h
  · have := allGo_len _ _ h
    exact ⟨this, by omega, fun k hk => partV_len (allGo_at _ _ h k (by omega))⟩
/-- Texts in a slice among some blocks. -/
theorem gri_str {D : Heap} {E : TypeId} {v : Value} {l : List (List UInt8)} (h : GrI D E 1 v l.length (l.map strC).flatten) (hn : (keys D).Nodup) : l.length = 0 ∨ ∃ b c rest, v = vsl b 0 l.length c ∧ b ∈ keys D ∧ Sx.look D b = some (rowO strC E rest l) := by
  obtain ⟨X, hX, h | ⟨h0, -⟩⟩ := h
  · rcases h.inv with ⟨-, h0, -⟩ | ⟨b, c, rest, rfl, hl, h1, h2, h3, h4⟩
    · exact .inl h0
    · exact .inr ⟨b, c, rest, rfl, List.mem_map_of_mem (f := Prod.fst) (hX _ (look_mem hl)), look_of_mem hn (hX _ (look_mem hl))⟩
  · exact .inl h0
theorem load_str {E : TypeId} {rest : List Value} {l : List (List UInt8)} (n i : Nat) (hi : i < l.length) : loadV (some (false, n)) (some (rowO strC E rest l)) i = some (vs (l.getD i [])) := by
  unfold rowO loadV
  have e : (l.map strC).flatten = l.map vs := by
    clear hi
    induction l with
    | nil => rfl
    | cons a l ih => rw [List.map_cons, List.flatten_cons, List.map_cons, ih]; rfl
  simp only [e]
  rw [List.getElem?_toArray, List.getElem?_append_left (by simpa using hi), List.getElem?_map, List.getElem?_eq_getElem hi, List.getD_eq_getElem?_getD, List.getElem?_eq_getElem hi]
  rfl
theorem gri_len {D : Heap} {E : TypeId} {m n : Nat} {v : Value} {cs : List Value} (h : GrI D E m v n cs) (x : Bool × Nat) : lenV (.sl x) v = some (vi n) := by
  obtain ⟨X, -, h⟩ := h; exact h.len x
/-- What fill leaves. -/
def FillS (l : List PartL) (bp : Nat) (v0 v1 : Value) (v : Value) (D : Heap) : Prop := match fillV l with
  | some p => v = .bool true ∧ ∃ x2 x3 D', D = (bp, pkO v0 v1 x2 x3) :: D' ∧ GrI D' 37 32 x2 p.1.length (p.1.map idLC).flatten ∧ GrI D' 43 2 x3 p.2.length (p.2.map obC).flatten
  | none => v = .bool false
theorem one_has {w : World} {a : Nat} {x : Obj} (h : w.heap[a]? = some x) : ∀ p : Nat × Obj, p ∈ [(a, x)] → w.heap[p.1]? = some p.2 := by
  intro p hp
  rw [List.mem_singleton] at hp
  subst hp
  exact h
theorem ext_one {w : World} {b : Nat} {o o' : Obj} {D : Heap} (h : New w.heap.size D) : Ext w [(b, o)] (D ++ [(b, o')]) := ⟨fun c hc => by
  rw [keys_app] at hc
  rcases List.mem_append.1 hc with hc | hc
  · exact .inr (h.le c hc)
  · exact .inl hc, fun c hc => by rw [keys_app]; exact List.mem_append_right _ hc⟩
theorem ext_head {w : World} {b : Nat} {o o' : Obj} {D : Heap} (h : New w.heap.size D) : Ext w [(b, o)] ((b, o') :: D) := ⟨fun c hc => by
  rcases List.mem_cons.1 hc with hc | hc
  · exact .inl (by rw [hc]; exact List.mem_cons_self)
  · exact .inr (h.le c hc), fun c hc => by
  rcases List.mem_cons.1 hc with hc | hc
  · exact List.mem_cons.2 (.inl hc)
  · cases hc⟩
theorem allGo_err {l : List PartL} {e : Int} : ∀ k, allGo l k = .error e → e ≠ 0
  | 0, h => by cases h
  | k + 1, h => by
    unfold allGo at h
    cases hg : allGo l k with
    | error x => rw [hg] at h; cases h; exact allGo_err k hg
    | ok us =>
      rw [hg] at h
      change (partV l (k : Nat)).map (fun s => us ++ [s]) = _ at h
      cases hp : partV l (k : Nat) with
      | error x => rw [hp] at h; cases h; exact partV_err hp
      | ok s => rw [hp] at h; cases h
theorem allV_err {l : List PartL} {e : Int} (h : allV l = .error e) : e ≠ 0 := by
  unfold allV at h
  split at h
  · cases h; decide
  · exact allGo_err _ h
theorem ReadO_specV (s : List UInt8) (w : World) (hs : s.length < 100000) : Rets Tryz.prog 123 #[vs s] w (fun v D => v = .tuple #[obV (readV s).k (readV s).t, vi (if frOk s then 0 else 2)] ∧ D = []) := ReadO_spec s w hs
structure FiG where
  k : Nat
  ids : List IdL
  os : List ObL
  x2 : Value
  x3 : Value
  D2 : Heap
  D3 : Heap
  DG : Heap
theorem fillV_err {l : List PartL} {e : Int} (h : allV l = .error e) : fillV l = none := by unfold fillV; rw [h]
theorem fillV_no {l : List PartL} {ts : List (List UInt8)} {k : Nat} {p : List IdL × List ObL} (h : allV l = .ok ts) (hk : k < ts.length) (hp : fillGo (ts.take k) [] [] = some p) (hn : ¬ (frOk (ts.getD k []) = true ∧ (p.1.any fun y => (idOf (ts.getD k [])).l == y.l) = false)) : fillV l = none := by
  unfold fillV
  rw [h]
  show fillGo ts [] [] = none
  have e : ts = ts.take (k + 1) ++ ts.drop (k + 1) := (List.take_append_drop _ _).symm
  rw [e]
  refine fillGo_none ?_
  rw [take_snoc (z := []) hk, fillGo_snoc hp, if_neg hn]
set_option linter.defProp false
def uKL_1 := And.intro (And.intro (And.intro (@rdIn_v8) (And.intro (@rdIn_vi) (@load_pk0))) (And.intro (@load_pk1) (And.intro (@load_pk2) (@load_pk3)))) (And.intro (And.intro (@Sx.tup2_0) (And.intro (@Sx.tup2_1) (@load_ob))) (And.intro (And.intro (@load_ob0) (@load_ob1)) (And.intro (@store_ob) (@load_idb))))
theorem fill_spec (bp : Nat) (v0 v1 : Value) (l : List PartL) (w : World) (hv : PartSl w v0 l) (hG : GlobE w) (hb : BndL l) (hl : l.length < 1000000) (ho : w.heap[bp]? = some (pkO v0 v1 (.slice none 0 0) (.slice none 0 0)))
    (hv0 : slB v0 ≠ some bp) (hgb : 3 < bp) :
    Rets Tryz.prog 59 #[vp bp 0] w (XS w [(bp, pkO v0 v1 (.slice none 0 0) (.slice none 0 0))] (FillS l bp v0 v1)) := by
  have hbp : bp < w.heap.size := (Array.getElem?_eq_some_iff.1 ho).1
  refine Rets.enterX Tryz.func59 rfl (rs := [.tmp 2]) Tryz.results59 Tryz.ntmps59 (one_has ho) (by simp [keys]) ?_
  refine kf ?_
  first | with_reducible refine ks [] @uKL_1 ?_ | refine kp @uKL_1 ?_
  refine Ow.callX (Y := [(bp, pkO v0 v1 (.slice none 0 0) (.slice none 0 0))]) (by simp) rfl rfl Tryz.call125 (fun w' hw' hX hn => AllC_spec v0 l w' (hv.old hw' fun b hbb _ => by simp only [keys, List.map_cons, List.map_nil, List.mem_singleton]; rintro rfl; exact hv0 hbb) hb hl) (fun v1' D1 hC1 hS1 => ?_)
  have hN1 : New w.heap.size D1 := New.of_le fun c hc => by
    rcases hC1.new c hc with h | h
    · cases h
    · exact h.2
  unfold AllS at hS1
  cases ha : allV l with
  | error e =>
    rw [ha] at hS1
    have hS1' : v1' = .tuple #[.slice none 0 0, vi e] := hS1
    subst hS1'
    have e0 : (e != 0) = true := bne_iff_ne.2 (allV_err ha)
    refine ko @uKL_1 ?_
    first | with_reducible refine ks [] (And.intro @uKL_1 @e0) ?_ | refine kp (And.intro @uKL_1 @e0) ?_
    refine ⟨_, (ke @uKL_1), ?_⟩
    refine ⟨ext_one hN1, ?_⟩
    unfold FillS
    rw [fillV_err ha]
    rfl
  | ok ts =>
    rw [ha] at hS1
    obtain ⟨x, rfl, hGT⟩ := hS1
    obtain ⟨hlen, hl2, htl⟩ := allV_len ha
    have lnT := gri_len hGT
    have e0 : ((0 : Int) != 0) = false := rfl
    refine ko @uKL_1 ?_
    first | with_reducible refine ks [] (And.intro @uKL_1 ( And.intro @e0 (@lnT))) ?_ | refine kp (And.intro @uKL_1 ( And.intro @e0 (@lnT))) ?_
    refine Cw.world fun ww hww => ?_
    have hnd := hww.nodup
    clear hww ww
    rw [keys_app, List.nodup_append] at hnd
    refine Cw.permL (M := (bp, pkO v0 v1 (.slice none 0 0) (.slice none 0 0)) :: (D1 ++ ([] ++ ([] ++ [])))) (by classical exact List.perm_iff_count.2 fun a => by simp only [List.count_append, List.count_cons, List.count_nil] <;> omega) ?_
    refine Cw.loopG (G := FiG) [24, 25, 26, 6, 28, 29, 27, 30, 31, 7, 8, 33, 34, 32, 35, 36, 9, 10, 37, 38, 39, 40, 41, 42, 43, 44, 45, 46, 2, 47, 48, 49, 50, 51, 52, 53, 54, 55, 56, 57, 58, 59, 60, 61, 62, 63, 64, 65, 66, 67, 23] (fun g => [(23, vi g.k)]) (fun g => (bp, pkO v0 v1 g.x2 g.x3) :: (D1 ++ (g.D2 ++ (g.D3 ++ g.DG)))) (fun g => g.k ≤ ts.length ∧ fillGo (ts.take g.k) [] [] = some (g.ids, g.os) ∧ New w.heap.size g.D2 ∧ New w.heap.size g.D3 ∧ New w.heap.size g.DG ∧ Gr g.D2 37 32 g.x2 g.ids.length (g.ids.map idLC).flatten ∧ Gr g.D3 43 2 g.x3 g.os.length (g.os.map obC).flatten) (fun g => ts.length - g.k) ⟨0, [], [], .slice none 0 0, .slice none 0 0, [], [], []⟩ rfl rfl ?_ ?_
    · exact ⟨Nat.zero_le _, rfl, trivial, trivial, trivial, Gr.nl, Gr.nl⟩
    intro g j hg
    refine kv ?_
    obtain ⟨k, ids, os, x2, x3, D2, D3, DG⟩ := g
    simp only at hg ⊢
    obtain ⟨hk, hfg, hN2, hN3, hNG, hG2, hG3⟩ := hg
    have hNr : New w.heap.size (D1 ++ (D2 ++ (D3 ++ DG))) := hN1.app (hN2.app (hN3.app hNG))
    have hfl := fillGo_len _ _ _ _ hfg
    rw [List.length_take, Nat.min_eq_left hk, List.length_nil, List.length_nil, Nat.zero_add] at hfl
    simp only at hfl
    by_cases hlt : k < ts.length
    · obtain h0 | ⟨bt, ct, rest, rfl, hbt, hlk⟩ := gri_str hGT hnd.1
      · omega
      have hd : decide ((k : Int) < (ts.length : Int)) = true := decide_eq_true (by omega)
      have hbtn : bp ≠ bt := by have := hN1.le bt hbt; omega
      have rdt : readB w ((bp, pkO v0 v1 x2 x3) :: (D1 ++ (D2 ++ (D3 ++ DG)))) bt = some (rowO strC 9 rest ts) := read_look (by rw [look_other _ _ _ _ hbtn]; exact look_app hlk)
      have ldt := load_str (E := 9) (rest := rest) 1 k hlt
      have hsl := htl k hlt
      first | with_reducible refine ks [8, 12] (And.intro @uKL_1 ( And.intro @hd ( And.intro @rdt (@ldt)))) ?_ | refine kp (And.intro @uKL_1 ( And.intro @hd ( And.intro @rdt (@ldt)))) ?_
      generalize hs : ts.getD k [] = s at *
      refine Ow.callFV rfl Tryz.call123 (fun w' hw' => ReadO_specV s w' (by omega)) ?_
      refine ko @uKL_1 ?_
      refine Ow.alloc rfl rfl zrOb fun b7 hb7 hw7 => ?_
      simp only [cells_agg, List.nil_append, List.cons_append]
      have hbp7 : bp < b7 := above_to hb7 (by simp [keys])
      refine Ow.permL (M := (b7, .cells #[vi 0, vs []] 43 (0, 0)) :: (bp, pkO v0 v1 x2 x3) :: (D1 ++ (D2 ++ (D3 ++ DG)))) (by classical exact List.perm_iff_count.2 fun a => by simp only [List.count_append, List.count_cons, List.count_nil] <;> omega) ?_
      refine ko @uKL_1 ?_
      first | with_reducible refine ks [] @uKL_1 ?_ | refine kp @uKL_1 ?_
      refine Ow.callFV rfl Tryz.call126 (fun w' hw' => IdO_spec (readV s).k (readV s).t w' (hG.of hw' (by intro b hb; simp only [keys, List.map_cons, List.mem_cons] at hb; rcases hb with rfl | rfl | hb <;> first | omega | (have := hNr.le b hb; omega)))) ?_
      rw [show idV (readV s).k (readV s).t = idOf s from rfl]
      have hil := (idOf s).h
      have hi0 := id0.h
      refine ko @uKL_1 ?_
      refine Ow.alloc rfl rfl zrIdE fun b9 hb9 hw9 => ?_
      simp only [cells_agg, List.nil_append, List.cons_append]
      have hb79 : b7 < b9 := above_to hb9 (by simp [keys])
      refine Ow.permL (M := (b9, .cells (a8 id0.l) 37 (0, 0)) :: (b7, .cells #[vi (readV s).k, vs (readV s).t] 43 (0, 0)) :: (bp, pkO v0 v1 x2 x3) :: (D1 ++ (D2 ++ (D3 ++ DG)))) (by classical exact List.perm_iff_count.2 fun a => by simp only [List.count_append, List.count_cons, List.count_nil] <;> omega) ?_
      refine ko @uKL_1 ?_
      obtain ⟨O7, hO7⟩ : ∃ O, O = Obj.cells #[vi (readV s).k, vs (readV s).t] 43 (0, 0) := ⟨_, rfl⟩
      obtain ⟨O9, hO9⟩ : ∃ O, O = Obj.cells (a8 (idOf s).l) 37 (0, 0) := ⟨_, rfl⟩
      have hEx : ∀ M, New w.heap.size M → Ext w [(bp, pkO v0 v1 (.slice none 0 0) (.slice none 0 0))] ((b9, O9) :: (b7, O7) :: (bp, pkO v0 v1 x2 x3) :: M) := fun M hM => ⟨fun c hc => by
        simp only [keys, List.map_cons, List.mem_cons, List.map_nil, List.not_mem_nil, or_false] at hc ⊢
        rcases hc with h | h | h | h
        · exact .inr (by omega)
        · exact .inr (by omega)
        · exact .inl h
        · exact .inr (hM.le c h), fun c hc => by
        simp only [keys, List.map_cons, List.mem_cons, List.map_nil, List.not_mem_nil, or_false] at hc ⊢
        exact .inr (.inr (.inl hc))⟩
      cases hfr : frOk s with
      | false =>
        rw [show (if (false : Bool) = true then (0 : Int) else 2) = 2 from rfl]
        have e1 : ((2 : Int) != 0) = true := rfl
        have hno : fillV l = none := fillV_no ha hlt hfg (by rw [hs, hfr]; rintro ⟨h, -⟩; cases h)
        refine Cw.regionS [bp, b9] [0, 1, 2, 3, 4, 5, 6, 7, 8, 9] [] (by kernel_rfl) (by kernel_rfl) (by kernel_rfl) ?_
        simp only [nl_cons, ↓pickL_nil, ↓pickL_cons, ↓nthO_0, ↓nthO_s, consO_some]
        refine kq (And.intro @uKL_1 @e1) ?_
        rw [← hO7, ← hO9]
        first | with_reducible refine ks [] @uKL_1 ?_ | refine kp @uKL_1 ?_
        refine ⟨_, (ke @uKL_1), ?_⟩
        refine ⟨hEx _ hNr, ?_⟩
        unfold FillS
        rw [hno]
        rfl
      | true =>
        rw [show (if (true : Bool) = true then (0 : Int) else 2) = 0 from rfl]
        have e1 : ((0 : Int) != 0) = false := rfl
        refine Cw.regionS [bp, b9] [0, 1, 2, 3, 4, 5, 6, 7, 8, 9] [] (by kernel_rfl) (by kernel_rfl) (by kernel_rfl) ?_
        simp only [nl_cons, ↓pickL_nil, ↓pickL_cons, ↓nthO_0, ↓nthO_s, consO_some]
        refine kq (And.intro @uKL_1 @e1) ?_
        refine Ow.callFV rfl Tryz.call127 (fun w' hw' => ContainsId_spec x2 ids (idOf s) w' (hG2.slM (fun b o hm => hw'.has b o (by simp only [List.mem_cons, List.mem_append]; exact .inr (.inr (.inr (.inr (.inl hm)))))) rfl rfl idLC_len') (by omega)) ?_
        cases hct : (ids.any fun y => (idOf s).l == y.l) with
        | true =>
          have hno : fillV l = none := fillV_no ha hlt hfg (by rw [hs]; rintro ⟨-, h⟩; rw [hct] at h; cases h)
          refine kq @uKL_1 ?_
          rw [← hO7, ← hO9]
          first | with_reducible refine ks [] @uKL_1 ?_ | refine kp @uKL_1 ?_
          refine ⟨_, (ke @uKL_1), ?_⟩
          refine ⟨hEx _ hNr, ?_⟩
          unfold FillS
          rw [hno]
          rfl
        | false =>
          refine kq @uKL_1 ?_
          have hfg' : fillGo (ts.take (k + 1)) [] [] = some (ids ++ [idOf s], os ++ [readV s]) := by rw [take_snoc (z := []) hlt, hs, fillGo_snoc hfg, if_pos ⟨hfr, hct⟩]
          refine Cw.regionG [bp, b7, b9] [18, 21] 22 (by kernel_rfl) rfl ?_
          simp only [List.replicate_succ, List.replicate_zero]
          refine OwG.run [0, 1, 2, 3, 4, 5, 6, 9, 10, 11, 12, 13] [true, true, true, true, true, true, true, false, false, true, true, true, true, true, false, false, false, false, false, false, false, false] 10 rfl (by kernel_rfl) (by kernel_rfl) fun k hk => ?_
          simp only [nl_cons, ↓pickL_nil, ↓pickL_cons, ↓nthO_0, ↓nthO_s, consO_some]
          simp (disch := (first | assumption | omega | (simp only [lenS, lenT, UInt64.reduceToNat]; try omega))) only [↓Sx.S0, Sx.S1, Tryz.fx, uKL_1, Nat.reduceAdd, Nat.reducePow, Int.reducePow, Nat.reduceBEq, ↓reduceIte, UInt8.reduceToNat, UInt16.reduceToNat, UInt32.reduceToNat, UInt64.reduceToNat, Int.reduceToNat, Md.next_sofnil, Md.next_sofnil]
          (with_reducible refine hk _ _ _ ?_); clear hk k
          rw [← hO7, ← hO9]
          refine OwG.two 7 14 _ _ (by kernel_rfl) rfl rfl ?_ ?_
          · refine Ow.buildSlice (e := 37) (a8 (idOf s).l) rfl rfl (slice_one (cs := (idOf s).l.map v8) Tryz.underlying30 aggIdE zrIdE (by decide) (by simp [(idOf s).h])) fun ba hba hwa => ?_
            with_reducible refine Ow.nil ?_
            refine ⟨readB_appR (by simp [keys]), ?_⟩
            simp only [List.set_cons_zero, List.set_cons_succ, putF_some, setF_0, setF_s]
            refine OwG.two 8 14 _ _ (by kernel_rfl) rfl rfl ?_ ?_
            · refine Ow.permL (M := D2 ++ ((b9, O9) :: (b7, O7) :: (bp, pkO v0 v1 x2 x3) :: (D1 ++ (D3 ++ (DG ++ [(ba, .cells (a8 (idOf s).l) 37 (0, 0))]))))) (by classical exact List.perm_iff_count.2 fun a => by simp only [List.count_append, List.count_cons, List.count_nil] <;> omega) ?_
              refine Ow.appendXG (e := 37) (k := 1) (new := idLC (idOf s)) (X := D2) x2 rfl rfl rfl rfl Tryz.underlying30 aggIdE (by kernel_rfl) zrIdE (by rw [cells_agg, size_a8, id0.h]) Tryz.underlying30 (by intro k h; cases h) hG2 (fun w' hw' => AppX.one1 (by rw [idLC_a8]; exact hw'.has ba (.cells (a8 (idOf s).l) 37 (0, 0)) (by simp)) (idLC_len' _) (idLC_one' _)) (by omega) (fun B4 v4 D4 hA4 hB4 hG4 hk41 hk42 hlk4 => ?_)
              have hN4 : New w.heap.size D4 := New.of_le fun q hq => by
                rcases hk42 q hq with h | h
                · exact hN2.le q h
                · omega
              refine Ow.permL (M := (b9, O9) :: (b7, O7) :: (bp, pkO v0 v1 x2 x3) :: (D1 ++ (D4 ++ (D3 ++ (DG ++ [(ba, .cells (a8 (idOf s).l) 37 (0, 0))]))))) (by classical exact List.perm_iff_count.2 fun a => by simp only [List.count_append, List.count_cons, List.count_nil] <;> omega) ?_
              with_reducible refine Ow.nil ?_
              refine ⟨(fun r hr => by simp only [List.mem_cons, List.not_mem_nil, or_false] at hr; rcases hr with rfl | rfl | rfl <;> simp (disch := omega) only [List.cons_append, List.nil_append, read_same, read_other]), ?_⟩
              simp only [List.set_cons_zero, List.set_cons_succ, putF_some, setF_0, setF_s]
              refine OwG.one 14 _ (by kernel_rfl) rfl ?_
              refine Ow.buildSlice (e := 43) #[vi (readV s).k, vs (readV s).t] rfl rfl (slice_one (cs := obC (readV s)) Tryz.underlying29 Tryz.ag43 zrOb (by decide) rfl) fun bc hbc hwc => ?_
              with_reducible refine Ow.nil ?_
              refine ⟨readB_appR (by simp [keys]), ?_⟩
              simp only [List.set_cons_zero, List.set_cons_succ, putF_some, setF_0, setF_s]
              refine OwG.permL (M := (b9, O9) :: (b7, O7) :: (bp, pkO v0 v1 x2 x3) :: (D1 ++ (D4 ++ (D3 ++ (DG ++ [(ba, .cells (a8 (idOf s).l) 37 (0, 0)), (bc, .cells #[vi (readV s).k, vs (readV s).t] 43 (0, 0))]))))) (by classical exact List.perm_iff_count.2 fun a => by simp only [List.count_append, List.count_cons, List.count_nil] <;> omega) (fun r hr => by simp only [List.mem_cons, List.not_mem_nil, or_false] at hr; rcases hr with rfl | rfl | rfl <;> simp (disch := omega) only [List.cons_append, List.nil_append, read_same, read_other]) ?_
              refine OwG.rest [15, 16, 17, 18, 19, 20, 21] rfl (by kernel_rfl) (by kernel_rfl) ?_
              simp only [nl_cons, ↓pickL_nil, ↓pickL_cons, ↓nthO_0, ↓nthO_s, consO_some]
              refine Ow.soft rfl rfl rfl ?_
              refine Ow.permL (M := D3 ++ ((b9, O9) :: (b7, O7) :: (bp, pkO v0 v1 x2 x3) :: (D1 ++ (D4 ++ (DG ++ [(ba, .cells (a8 (idOf s).l) 37 (0, 0)), (bc, .cells #[vi (readV s).k, vs (readV s).t] 43 (0, 0))]))))) (by classical exact List.perm_iff_count.2 fun a => by simp only [List.count_append, List.count_cons, List.count_nil] <;> omega) ?_
              refine Ow.appendXG (e := 43) (k := 1) (new := obC (readV s)) (X := D3) x3 rfl rfl rfl rfl Tryz.underlying29 Tryz.ag43 (by kernel_rfl) zrOb (by rw [obV, cells_agg]; rfl) Tryz.underlying29 (by intro k h; cases h) hG3 (fun w' hw' => AppX.one1 (hw'.has bc (.cells (obC (readV s)).toArray 43 (0, 0)) (by simp [obC])) (obC_len _) (obC_one _)) (by omega) (fun B5 v5 D5 hA5 hB5 hG5 hk51 hk52 hlk5 => ?_)
              have hN5 : New w.heap.size D5 := New.of_le fun q hq => by
                rcases hk52 q hq with h | h
                · exact hN3.le q h
                · omega
              refine Ow.permL (M := (b9, O9) :: (b7, O7) :: (bp, pkO v0 v1 x2 x3) :: (D1 ++ (D4 ++ (D5 ++ (DG ++ [(ba, .cells (a8 (idOf s).l) 37 (0, 0)), (bc, .cells #[vi (readV s).k, vs (readV s).t] 43 (0, 0))]))))) (by classical exact List.perm_iff_count.2 fun a => by simp only [List.count_append, List.count_cons, List.count_nil] <;> omega) ?_
              with_reducible refine Ow.nil ?_
              refine ⟨(fun r hr => by simp only [List.mem_cons, List.not_mem_nil, or_false] at hr; rcases hr with rfl | rfl | rfl <;> simp (disch := omega) only [read_same, read_other]), ?_⟩
              have st4 : ∀ a, storeV (some (a, 1)) (some (pkO v0 v1 x2 x3)) 2 v4 = some (pkO v0 v1 v4 x3) := fun a => store_pk2 v0 v1 x2 x3 v4 a hG4.cell
              have st5 : ∀ a, storeV (some (a, 1)) (some (pkO v0 v1 v4 x3)) 3 v5 = some (pkO v0 v1 v4 v5) := fun a => store_pk3 v0 v1 v4 x3 v5 a hG5.cell
              refine kq @uKL_1 ?_
              refine Ow.store rfl rfl rfl (ke (And.intro @uKL_1 @st4)) ?_
              refine ko (And.intro @uKL_1 @st5) ?_
              refine Cw.permL (M := (bp, pkO v0 v1 v4 v5) :: (D1 ++ (D4 ++ (D5 ++ ((b9, O9) :: (b7, O7) :: (DG ++ [(ba, .cells (a8 (idOf s).l) 37 (0, 0)), (bc, .cells #[vi (readV s).k, vs (readV s).t] 43 (0, 0))])))))) (by classical exact List.perm_iff_count.2 fun a => by simp only [List.count_append, List.count_cons, List.count_nil] <;> omega) ?_
              first | with_reducible refine ks [] @uKL_1 ?_ | refine kp @uKL_1 ?_
              refine Again.mk ⟨k + 1, ids ++ [idOf s], os ++ [readV s], v4, v5, D4, D5, (b9, O9) :: (b7, O7) :: (DG ++ [(ba, .cells (a8 (idOf s).l) 37 (0, 0)), (bc, .cells #[vi (readV s).k, vs (readV s).t] 43 (0, 0))])⟩ (by show ts.length - (k + 1) < ts.length - k; omega) ⟨hlt, hfg', hN4, hN5, ⟨by omega, by omega, hNG.app ⟨hwa, hwc, trivial⟩⟩, by simpa using hG4, by simpa using hG5⟩ rfl rfl
            · refine Ow.buildSlice (e := 43) #[vi (readV s).k, vs (readV s).t] rfl rfl (slice_one (cs := obC (readV s)) Tryz.underlying29 Tryz.ag43 zrOb (by decide) rfl) fun bc hbc hwc => ?_
              with_reducible refine Ow.nil ?_
              refine ⟨readB_appR (by simp [keys]), ?_⟩
              simp only [List.set_cons_zero, List.set_cons_succ, putF_some, setF_0, setF_s]
              refine OwG.one 8 _ (by kernel_rfl) rfl ?_
              refine Ow.permL (M := D2 ++ ((b9, O9) :: (b7, O7) :: (bp, pkO v0 v1 x2 x3) :: (D1 ++ (D3 ++ (DG ++ [(ba, .cells (a8 (idOf s).l) 37 (0, 0)), (bc, .cells #[vi (readV s).k, vs (readV s).t] 43 (0, 0))]))))) (by classical exact List.perm_iff_count.2 fun a => by simp only [List.count_append, List.count_cons, List.count_nil] <;> omega) ?_
              refine Ow.appendXG (e := 37) (k := 1) (new := idLC (idOf s)) (X := D2) x2 rfl rfl rfl rfl Tryz.underlying30 aggIdE (by kernel_rfl) zrIdE (by rw [cells_agg, size_a8, id0.h]) Tryz.underlying30 (by intro k h; cases h) hG2 (fun w' hw' => AppX.one1 (by rw [idLC_a8]; exact hw'.has ba (.cells (a8 (idOf s).l) 37 (0, 0)) (by simp)) (idLC_len' _) (idLC_one' _)) (by omega) (fun B4 v4 D4 hA4 hB4 hG4 hk41 hk42 hlk4 => ?_)
              have hN4 : New w.heap.size D4 := New.of_le fun q hq => by
                rcases hk42 q hq with h | h
                · exact hN2.le q h
                · omega
              refine Ow.permL (M := (b9, O9) :: (b7, O7) :: (bp, pkO v0 v1 x2 x3) :: (D1 ++ (D4 ++ (D3 ++ (DG ++ [(ba, .cells (a8 (idOf s).l) 37 (0, 0)), (bc, .cells #[vi (readV s).k, vs (readV s).t] 43 (0, 0))]))))) (by classical exact List.perm_iff_count.2 fun a => by simp only [List.count_append, List.count_cons, List.count_nil] <;> omega) ?_
              with_reducible refine Ow.nil ?_
              refine ⟨(fun r hr => by simp only [List.mem_cons, List.not_mem_nil, or_false] at hr; rcases hr with rfl | rfl | rfl <;> simp (disch := omega) only [List.cons_append, List.nil_append, read_same, read_other]), ?_⟩
              simp only [List.set_cons_zero, List.set_cons_succ, putF_some, setF_0, setF_s]
              refine OwG.permL (M := (b9, O9) :: (b7, O7) :: (bp, pkO v0 v1 x2 x3) :: (D1 ++ (D4 ++ (D3 ++ (DG ++ [(ba, .cells (a8 (idOf s).l) 37 (0, 0)), (bc, .cells #[vi (readV s).k, vs (readV s).t] 43 (0, 0))]))))) (by classical exact List.perm_iff_count.2 fun a => by simp only [List.count_append, List.count_cons, List.count_nil] <;> omega) (fun r hr => by simp only [List.mem_cons, List.not_mem_nil, or_false] at hr; rcases hr with rfl | rfl | rfl <;> simp (disch := omega) only [List.cons_append, List.nil_append, read_same, read_other]) ?_
              refine OwG.rest [15, 16, 17, 18, 19, 20, 21] rfl (by kernel_rfl) (by kernel_rfl) ?_
              simp only [nl_cons, ↓pickL_nil, ↓pickL_cons, ↓nthO_0, ↓nthO_s, consO_some]
              refine Ow.soft rfl rfl rfl ?_
              refine Ow.permL (M := D3 ++ ((b9, O9) :: (b7, O7) :: (bp, pkO v0 v1 x2 x3) :: (D1 ++ (D4 ++ (DG ++ [(ba, .cells (a8 (idOf s).l) 37 (0, 0)), (bc, .cells #[vi (readV s).k, vs (readV s).t] 43 (0, 0))]))))) (by classical exact List.perm_iff_count.2 fun a => by simp only [List.count_append, List.count_cons, List.count_nil] <;> omega) ?_
              refine Ow.appendXG (e := 43) (k := 1) (new := obC (readV s)) (X := D3) x3 rfl rfl rfl rfl Tryz.underlying29 Tryz.ag43 (by kernel_rfl) zrOb (by rw [obV, cells_agg]; rfl) Tryz.underlying29 (by intro k h; cases h) hG3 (fun w' hw' => AppX.one1 (hw'.has bc (.cells (obC (readV s)).toArray 43 (0, 0)) (by simp [obC])) (obC_len _) (obC_one _)) (by omega) (fun B5 v5 D5 hA5 hB5 hG5 hk51 hk52 hlk5 => ?_)
              have hN5 : New w.heap.size D5 := New.of_le fun q hq => by
                rcases hk52 q hq with h | h
                · exact hN3.le q h
                · omega
              refine Ow.permL (M := (b9, O9) :: (b7, O7) :: (bp, pkO v0 v1 x2 x3) :: (D1 ++ (D4 ++ (D5 ++ (DG ++ [(ba, .cells (a8 (idOf s).l) 37 (0, 0)), (bc, .cells #[vi (readV s).k, vs (readV s).t] 43 (0, 0))]))))) (by classical exact List.perm_iff_count.2 fun a => by simp only [List.count_append, List.count_cons, List.count_nil] <;> omega) ?_
              with_reducible refine Ow.nil ?_
              refine ⟨(fun r hr => by simp only [List.mem_cons, List.not_mem_nil, or_false] at hr; rcases hr with rfl | rfl | rfl <;> simp (disch := omega) only [read_same, read_other]), ?_⟩
              have st4 : ∀ a, storeV (some (a, 1)) (some (pkO v0 v1 x2 x3)) 2 v4 = some (pkO v0 v1 v4 x3) := fun a => store_pk2 v0 v1 x2 x3 v4 a hG4.cell
              have st5 : ∀ a, storeV (some (a, 1)) (some (pkO v0 v1 v4 x3)) 3 v5 = some (pkO v0 v1 v4 v5) := fun a => store_pk3 v0 v1 v4 x3 v5 a hG5.cell
              refine kq @uKL_1 ?_
              refine Ow.store rfl rfl rfl (ke (And.intro @uKL_1 @st4)) ?_
              refine ko (And.intro @uKL_1 @st5) ?_
              refine Cw.permL (M := (bp, pkO v0 v1 v4 v5) :: (D1 ++ (D4 ++ (D5 ++ ((b9, O9) :: (b7, O7) :: (DG ++ [(ba, .cells (a8 (idOf s).l) 37 (0, 0)), (bc, .cells #[vi (readV s).k, vs (readV s).t] 43 (0, 0))])))))) (by classical exact List.perm_iff_count.2 fun a => by simp only [List.count_append, List.count_cons, List.count_nil] <;> omega) ?_
              first | with_reducible refine ks [] @uKL_1 ?_ | refine kp @uKL_1 ?_
              refine Again.mk ⟨k + 1, ids ++ [idOf s], os ++ [readV s], v4, v5, D4, D5, (b9, O9) :: (b7, O7) :: (DG ++ [(ba, .cells (a8 (idOf s).l) 37 (0, 0)), (bc, .cells #[vi (readV s).k, vs (readV s).t] 43 (0, 0))])⟩ (by show ts.length - (k + 1) < ts.length - k; omega) ⟨hlt, hfg', hN4, hN5, ⟨by omega, by omega, hNG.app ⟨hwa, hwc, trivial⟩⟩, by simpa using hG4, by simpa using hG5⟩ rfl rfl
          · refine Ow.buildSlice (e := 43) #[vi (readV s).k, vs (readV s).t] rfl rfl (slice_one (cs := obC (readV s)) Tryz.underlying29 Tryz.ag43 zrOb (by decide) rfl) fun bc hbc hwc => ?_
            with_reducible refine Ow.nil ?_
            refine ⟨readB_appR (by simp [keys]), ?_⟩
            simp only [List.set_cons_zero, List.set_cons_succ, putF_some, setF_0, setF_s]
            refine OwG.one 7 _ (by kernel_rfl) rfl ?_
            refine Ow.buildSlice (e := 37) (a8 (idOf s).l) rfl rfl (slice_one (cs := (idOf s).l.map v8) Tryz.underlying30 aggIdE zrIdE (by decide) (by simp [(idOf s).h])) fun ba hba hwa => ?_
            with_reducible refine Ow.nil ?_
            refine ⟨readB_appR (by simp [keys]), ?_⟩
            simp only [List.set_cons_zero, List.set_cons_succ, putF_some, setF_0, setF_s]
            refine OwG.one 8 _ (by kernel_rfl) rfl ?_
            refine Ow.permL (M := D2 ++ ((b9, O9) :: (b7, O7) :: (bp, pkO v0 v1 x2 x3) :: (D1 ++ (D3 ++ (DG ++ [(ba, .cells (a8 (idOf s).l) 37 (0, 0)), (bc, .cells #[vi (readV s).k, vs (readV s).t] 43 (0, 0))]))))) (by classical exact List.perm_iff_count.2 fun a => by simp only [List.count_append, List.count_cons, List.count_nil] <;> omega) ?_
            refine Ow.appendXG (e := 37) (k := 1) (new := idLC (idOf s)) (X := D2) x2 rfl rfl rfl rfl Tryz.underlying30 aggIdE (by kernel_rfl) zrIdE (by rw [cells_agg, size_a8, id0.h]) Tryz.underlying30 (by intro k h; cases h) hG2 (fun w' hw' => AppX.one1 (by rw [idLC_a8]; exact hw'.has ba (.cells (a8 (idOf s).l) 37 (0, 0)) (by simp)) (idLC_len' _) (idLC_one' _)) (by omega) (fun B4 v4 D4 hA4 hB4 hG4 hk41 hk42 hlk4 => ?_)
            have hN4 : New w.heap.size D4 := New.of_le fun q hq => by
              rcases hk42 q hq with h | h
              · exact hN2.le q h
              · omega
            refine Ow.permL (M := (b9, O9) :: (b7, O7) :: (bp, pkO v0 v1 x2 x3) :: (D1 ++ (D4 ++ (D3 ++ (DG ++ [(ba, .cells (a8 (idOf s).l) 37 (0, 0)), (bc, .cells #[vi (readV s).k, vs (readV s).t] 43 (0, 0))]))))) (by classical exact List.perm_iff_count.2 fun a => by simp only [List.count_append, List.count_cons, List.count_nil] <;> omega) ?_
            with_reducible refine Ow.nil ?_
            refine ⟨(fun r hr => by simp only [List.mem_cons, List.not_mem_nil, or_false] at hr; rcases hr with rfl | rfl | rfl <;> simp (disch := omega) only [List.cons_append, List.nil_append, read_same, read_other]), ?_⟩
            simp only [List.set_cons_zero, List.set_cons_succ, putF_some, setF_0, setF_s]
            refine OwG.permL (M := (b9, O9) :: (b7, O7) :: (bp, pkO v0 v1 x2 x3) :: (D1 ++ (D4 ++ (D3 ++ (DG ++ [(ba, .cells (a8 (idOf s).l) 37 (0, 0)), (bc, .cells #[vi (readV s).k, vs (readV s).t] 43 (0, 0))]))))) (by classical exact List.perm_iff_count.2 fun a => by simp only [List.count_append, List.count_cons, List.count_nil] <;> omega) (fun r hr => by simp only [List.mem_cons, List.not_mem_nil, or_false] at hr; rcases hr with rfl | rfl | rfl <;> simp (disch := omega) only [List.cons_append, List.nil_append, read_same, read_other]) ?_
            refine OwG.rest [15, 16, 17, 18, 19, 20, 21] rfl (by kernel_rfl) (by kernel_rfl) ?_
            simp only [nl_cons, ↓pickL_nil, ↓pickL_cons, ↓nthO_0, ↓nthO_s, consO_some]
            refine Ow.soft rfl rfl rfl ?_
            refine Ow.permL (M := D3 ++ ((b9, O9) :: (b7, O7) :: (bp, pkO v0 v1 x2 x3) :: (D1 ++ (D4 ++ (DG ++ [(ba, .cells (a8 (idOf s).l) 37 (0, 0)), (bc, .cells #[vi (readV s).k, vs (readV s).t] 43 (0, 0))]))))) (by classical exact List.perm_iff_count.2 fun a => by simp only [List.count_append, List.count_cons, List.count_nil] <;> omega) ?_
            refine Ow.appendXG (e := 43) (k := 1) (new := obC (readV s)) (X := D3) x3 rfl rfl rfl rfl Tryz.underlying29 Tryz.ag43 (by kernel_rfl) zrOb (by rw [obV, cells_agg]; rfl) Tryz.underlying29 (by intro k h; cases h) hG3 (fun w' hw' => AppX.one1 (hw'.has bc (.cells (obC (readV s)).toArray 43 (0, 0)) (by simp [obC])) (obC_len _) (obC_one _)) (by omega) (fun B5 v5 D5 hA5 hB5 hG5 hk51 hk52 hlk5 => ?_)
            have hN5 : New w.heap.size D5 := New.of_le fun q hq => by
              rcases hk52 q hq with h | h
              · exact hN3.le q h
              · omega
            refine Ow.permL (M := (b9, O9) :: (b7, O7) :: (bp, pkO v0 v1 x2 x3) :: (D1 ++ (D4 ++ (D5 ++ (DG ++ [(ba, .cells (a8 (idOf s).l) 37 (0, 0)), (bc, .cells #[vi (readV s).k, vs (readV s).t] 43 (0, 0))]))))) (by classical exact List.perm_iff_count.2 fun a => by simp only [List.count_append, List.count_cons, List.count_nil] <;> omega) ?_
            with_reducible refine Ow.nil ?_
            refine ⟨(fun r hr => by simp only [List.mem_cons, List.not_mem_nil, or_false] at hr; rcases hr with rfl | rfl | rfl <;> simp (disch := omega) only [read_same, read_other]), ?_⟩
            have st4 : ∀ a, storeV (some (a, 1)) (some (pkO v0 v1 x2 x3)) 2 v4 = some (pkO v0 v1 v4 x3) := fun a => store_pk2 v0 v1 x2 x3 v4 a hG4.cell
            have st5 : ∀ a, storeV (some (a, 1)) (some (pkO v0 v1 v4 x3)) 3 v5 = some (pkO v0 v1 v4 v5) := fun a => store_pk3 v0 v1 v4 x3 v5 a hG5.cell
            refine kq @uKL_1 ?_
            refine Ow.store rfl rfl rfl (ke (And.intro @uKL_1 @st4)) ?_
            refine ko (And.intro @uKL_1 @st5) ?_
            refine Cw.permL (M := (bp, pkO v0 v1 v4 v5) :: (D1 ++ (D4 ++ (D5 ++ ((b9, O9) :: (b7, O7) :: (DG ++ [(ba, .cells (a8 (idOf s).l) 37 (0, 0)), (bc, .cells #[vi (readV s).k, vs (readV s).t] 43 (0, 0))])))))) (by classical exact List.perm_iff_count.2 fun a => by simp only [List.count_append, List.count_cons, List.count_nil] <;> omega) ?_
            first | with_reducible refine ks [] @uKL_1 ?_ | refine kp @uKL_1 ?_
            refine Again.mk ⟨k + 1, ids ++ [idOf s], os ++ [readV s], v4, v5, D4, D5, (b9, O9) :: (b7, O7) :: (DG ++ [(ba, .cells (a8 (idOf s).l) 37 (0, 0)), (bc, .cells #[vi (readV s).k, vs (readV s).t] 43 (0, 0))])⟩ (by show ts.length - (k + 1) < ts.length - k; omega) ⟨hlt, hfg', hN4, hN5, ⟨by omega, by omega, hNG.app ⟨hwa, hwc, trivial⟩⟩, by simpa using hG4, by simpa using hG5⟩ rfl rfl
    · obtain rfl : k = ts.length := by omega
      have hd : decide ((ts.length : Int) < (ts.length : Int)) = false := decide_eq_false (by omega)
      first | with_reducible refine ks [] (And.intro @uKL_1 @hd) ?_ | refine kp (And.intro @uKL_1 @hd) ?_
      refine ⟨_, (ke @uKL_1), ?_⟩
      refine ⟨ext_head hNr, ?_⟩
      have hf : fillV l = some (ids, os) := by
        unfold fillV
        rw [ha]
        rw [List.take_length] at hfg
        exact hfg
      unfold FillS
      rw [hf]
      exact ⟨rfl, x2, x3, _, rfl, Gr.i hG2 fun q hq => by simp [hq], Gr.i hG3 fun q hq => by simp [hq]⟩
end Go.Proofs
end
section
open Go Go.Proofs Go.Sx Go.StP Go.Flo
namespace Go.Proofs
set_option maxRecDepth 10000
set_option maxHeartbeats 400000
set_option linter.unusedSimpArgs false
/-! ### The document's texts of parts -/
def BndD (l : List PartL) : Prop := ∀ g, g < l.length → (l.getD g part0).x.length < 100000000
theorem gri_rowG {α : Type} {enc : α → List Value} {m : Nat} {D : Heap} {E : TypeId} {v : Value} {l : List α} (h : GrI D E m v l.length (l.map enc).flatten) (hn : (keys D).Nodup) : l.length = 0 ∨ ∃ b c rest, v = vsl b 0 l.length c ∧ b ∈ keys D ∧ Sx.look D b = some (rowO enc E rest l) := by
  obtain ⟨X, hX, h | ⟨h0, -⟩⟩ := h
  · rcases h.inv with ⟨-, h0, -⟩ | ⟨b, c, rest, rfl, hl, h1, h2, h3, h4⟩
    · exact .inl h0
    · exact .inr ⟨b, c, rest, rfl, List.mem_map_of_mem (f := Prod.fst) (hX _ (look_mem hl)), look_of_mem hn (hX _ (look_mem hl))⟩
  · exact .inl h0
structure TrG where
  n : Nat
  s : List UInt8
  DG : Heap
set_option linter.defProp false
def uLG_1 := And.intro (And.intro (And.intro (@rdIn_v8) (@rdIn_vi)) (And.intro (@load_part0) (@load_part1))) (And.intro (And.intro (@load_part2) (@cells_part)) (And.intro (@Sx.tup2_0) (@Sx.tup2_1)))
theorem TextR9_spec (v0 : Value) (l : List PartL) (a0 : Int) (w : World) (hv : PartSl w v0 l) (hb : BndD l) :
    Rets Tryz.prog 132 #[v0, vi a0] w (fun v D => v = partO (partV l a0) ∧ D = []) := by
  obtain ⟨bb, off, arr, E, fz, hr⟩ := hv.row
  refine Rets.enterV Tryz.func132 rfl (rs := [.tmp 4, .tmp 5]) Tryz.results132 Tryz.ntmps132 ?_
  refine kf ?_
  first | with_reducible refine ks [] @uLG_1 ?_ | refine kp @uLG_1 ?_
  refine Ow.callC rfl rfl Tryz.call163 (fun w' hw' => PathR_spec v0 l a0 w' (hv.oldN hw' trivial)) (fun B1 v1 D1 hA1 hB1 hN1 hS1 => ?_)
  have hN1' := hN1.mono hB1
  unfold PathS at hS1
  unfold partV
  cases hp : pathV l a0 with
  | error e =>
    rw [hp] at hS1
    have hS1' : v1 = .tuple #[.slice none 0 0, vi e] := hS1
    subst hS1'
    have e0 : (e != 0) = true := by rw [bne_iff_ne]; exact pathV_err hp
    refine ko @uLG_1 ?_
    first | with_reducible refine ks [] (And.intro @uLG_1 @e0) ?_ | refine kp (And.intro @uLG_1 @e0) ?_
    refine ⟨_, (ke @uLG_1), hN1', ?_⟩
    rfl
  | ok p =>
    rw [hp] at hS1
    obtain ⟨x, rfl, hp5, hgp⟩ := hS1
    have hlt := pathV_lt hp
    have e0 : ((0 : Int) != 0) = false := rfl
    have hlen : ∀ m, lenV (.sl m) x = some (vi p.length) := fun m => gri_len hgp m
    rw [List.nil_append]
    refine ko (And.intro @uLG_1 ( And.intro @e0 (@hlen))) ?_
    first | with_reducible refine ks [] @uLG_1 ?_ | refine kp @uLG_1 ?_
    refine Cw.world fun wz hwz => ?_
    have hnd := hwz.nodup
    clear hwz wz
    refine Cw.permL (M := D1 ++ []) (by rw [List.append_nil]) ?_
    refine Cw.loopG (G := TrG) [25, 26, 29, 30, 31, 32, 33, 34, 35, 10, 36, 37, 38, 39, 40, 41, 42, 4, 5, 43, 44, 8, 46, 47, 48, 49, 45, 50, 51, 11, 12, 52, 53, 54, 55, 27, 28, 9] (fun g => [(8, vs g.s), (9, vi ((g.n : Int) - 1))]) (fun g => D1 ++ g.DG) (fun g => g.n ≤ p.length ∧ foldT l (p.drop g.n) = .ok g.s ∧ New w.heap.size g.DG) (fun g => g.n) ⟨p.length, [], []⟩ rfl rfl ?_ ?_
    · exact ⟨Nat.le_refl _, by rw [List.drop_length]; rfl, trivial⟩
    intro g j hg
    refine kv ?_
    obtain ⟨n, s, DG⟩ := g
    simp only at hg ⊢
    obtain ⟨hn1, hfn, hNG⟩ := hg
    have hNr : New w.heap.size (D1 ++ DG) := hN1'.app hNG
    cases n with
    | zero =>
      have d1 : decide ((0 : Int) ≤ ((0 : Nat) : Int) - 1) = false := rfl
      first | with_reducible refine ks [] (And.intro @uLG_1 @d1) ?_ | refine kp (And.intro @uLG_1 @d1) ?_
      refine ⟨_, (ke @uLG_1), hNr, ?_⟩
      rw [List.drop_zero] at hfn; show _ = partO ((Except.ok p).bind (foldT l)); rw [show (Except.ok p).bind (foldT l) = foldT l p from rfl, hfn]; rfl
    | succ n =>
      have en : ((n + 1 : Nat) : Int) - 1 = (n : Int) := by omega
      rw [en]
      have d1 : decide ((0 : Int) ≤ (n : Int)) = true := decide_eq_true (by omega)
      obtain h0 | ⟨bp, cp, rp, rfl, hkp, hlk⟩ := gri_rowG hgp hnd
      · omega
      have hnl : n < p.length := by omega
      have rdp : readB w (D1 ++ DG) bp = some (rowO natC 3 rp p) := read_look (look_app hlk)
      have lp := load_nat (E := 3) (rest := rp) 1 n hnl
      have hmem : p.getD n 0 < l.length := hlt _ (getD_mem hnl)
      have hdr : p.drop n = p.getD n 0 :: p.drop (n + 1) := drop_cons (z := 0) hnl
      have hfo : foldT l (p.drop n) = if (textV (l.getD (p.getD n 0) part0) s).2 = 0 then .ok (textV (l.getD (p.getD n 0) part0) s).1 else .error (textV (l.getD (p.getD n 0) part0) s).2 := by
        rw [hdr, foldT, hfn]; rfl
      generalize p.getD n 0 = a at *
      have hb0 : 0 < l.length := by omega
      have hbl := hr.lt hb0
      have rd : readB w (D1 ++ DG) bb = some (.cells arr E fz) := by rw [read_none (hNr.not hbl)]; exact hr.has hb0
      have i2 := hr.idx true a hmem
      have ld := hr.load partC_len (by omega) hmem
      have hpx := hb a hmem
      generalize l.getD a part0 = pt at *
      have hst := store_part pt part0 114
      first | with_reducible refine ks [7] (And.intro @uLG_1 ( And.intro @d1 ( And.intro @lp ( And.intro @rdp ( And.intro @rd ( And.intro @i2 (@ld))))))) ?_ | refine kp (And.intro @uLG_1 ( And.intro @d1 ( And.intro @lp ( And.intro @rdp ( And.intro @rd ( And.intro @i2 (@ld))))))) ?_
      refine Ow.alloc rfl rfl zrPart fun b10 hb10 hw10 => ?_
      simp only [cells_agg, List.nil_append, List.cons_append]
      refine Ow.permL (M := (b10, .cells (partC part0).toArray 114 (0, 0)) :: (D1 ++ DG)) (by classical exact List.perm_iff_count.2 fun a => by simp only [List.count_append, List.count_cons, List.count_nil] <;> omega) ?_
      cases hd : pt.d with
      | false =>
        by_cases hl4 : 4099 < pt.x.length
        · have d2 : decide ((4099 : Int) < (pt.x.length : Int)) = true := decide_eq_true (by omega)
          have ht : textV pt s = ([], 19) := by unfold textV; rw [if_neg (by rw [hd]; decide), if_pos hl4]
          rw [ht, if_neg (by decide)] at hfo
          refine ko (And.intro @uLG_1 ( And.intro @hst ( And.intro @hd (@d2)))) ?_
          first | with_reducible refine ks [] (And.intro @uLG_1 ( And.intro @hd (@d2))) ?_ | refine kp (And.intro @uLG_1 ( And.intro @hd (@d2))) ?_
          refine ⟨_, (ke @uLG_1), (show New w.heap.size ((b10, _) :: (D1 ++ DG)) from ⟨hw10, hNr⟩), ?_⟩
          show _ = partO (foldT l p); rw [foldT_drop p n hfo]; rfl
        · have d2 : decide ((4099 : Int) < (pt.x.length : Int)) = false := decide_eq_false (by omega)
          have ht : textV pt s = (pt.x, 0) := by unfold textV; rw [if_neg (by rw [hd]; decide), if_neg hl4]
          rw [ht, if_pos rfl] at hfo
          refine ko (And.intro @uLG_1 ( And.intro @hst ( And.intro @hd (@d2)))) ?_
          refine Cw.permL (M := D1 ++ ((b10, .cells (partC pt).toArray 114 (0, 0)) :: DG)) (by classical exact List.perm_iff_count.2 fun a => by simp only [List.count_append, List.count_cons, List.count_nil] <;> omega) ?_
          first | with_reducible refine ks [] @uLG_1 ?_ | refine kp @uLG_1 ?_
          exact Again.mk ⟨n, pt.x, (b10, .cells (partC pt).toArray 114 (0, 0)) :: DG⟩ (by show n < n + 1; omega) ⟨by show n ≤ p.length; omega, hfo, ⟨hw10, hNG⟩⟩ rfl rfl
      | true =>
        have ht : textV pt s = applyV s pt.x := by unfold textV; rw [if_pos hd]
        rw [ht] at hfo
        refine ko (And.intro @uLG_1 ( And.intro @hst (@hd))) ?_
        first | with_reducible refine ks [] (And.intro @uLG_1 @hd) ?_ | refine kp (And.intro @uLG_1 @hd) ?_
        refine Ow.callFV rfl Tryz.call164 (fun w' hw' => ApplyR_spec s pt.x w' hpx) ?_
        by_cases he : (applyV s pt.x).2 = 0
        · have e1 : ((applyV s pt.x).2 != 0) = false := by rw [he]; rfl
          rw [if_pos he] at hfo
          refine ko (And.intro @uLG_1 @e1) ?_
          refine Cw.permL (M := D1 ++ ((b10, .cells (partC pt).toArray 114 (0, 0)) :: DG)) (by classical exact List.perm_iff_count.2 fun a => by simp only [List.count_append, List.count_cons, List.count_nil] <;> omega) ?_
          first | with_reducible refine ks [] @uLG_1 ?_ | refine kp @uLG_1 ?_
          exact Again.mk ⟨n, (applyV s pt.x).1, (b10, .cells (partC pt).toArray 114 (0, 0)) :: DG⟩ (by show n < n + 1; omega) ⟨by show n ≤ p.length; omega, hfo, ⟨hw10, hNG⟩⟩ rfl rfl
        · have e1 : ((applyV s pt.x).2 != 0) = true := by rw [bne_iff_ne]; exact he
          rw [if_neg he] at hfo
          refine ko @uLG_1 ?_
          first | with_reducible refine ks [] (And.intro @uLG_1 @e1) ?_ | refine kp (And.intro @uLG_1 @e1) ?_
          refine ⟨_, (ke @uLG_1), (show New w.heap.size ((b10, _) :: (D1 ++ DG)) from ⟨hw10, hNr⟩), ?_⟩
          show _ = partO (foldT l p); rw [foldT_drop p n hfo]; rfl
end Go.Proofs
end
section
open Go Go.Proofs Go.Sx Go.StP Go.Flo
namespace Go.Proofs
set_option maxRecDepth 10000
set_option maxHeartbeats 400000
set_option linter.unusedSimpArgs false
/-! ### The document's All -/
structure A9G where
  ts : List (List UInt8)
  v : Value
  D : Heap
  DG : Heap
set_option linter.defProp false
def uLH_1 := And.intro (And.intro (@rdIn_v8) (@rdIn_vi)) (And.intro (@Sx.tup2_0) (@Sx.tup2_1))
theorem AllR9_spec (v0 : Value) (l : List PartL) (w : World) (hv : PartSl w v0 l) (hb : BndD l) :
    Rets Tryz.prog 65 #[v0] w (XS w [] (AllS l)) := by
  have ln := hv.len
  refine Rets.enterX Tryz.func65 rfl (rs := [.tmp 2, .tmp 3]) Tryz.results65 Tryz.ntmps65 (fun p hp => by cases hp) (by simp [keys]) ?_
  refine kf ?_
  by_cases h2 : 200 < l.length
  · have d1 : decide ((200 : Int) < (l.length : Int)) = true := decide_eq_true (by omega)
    first | with_reducible refine ks [] (And.intro @uLH_1 ( And.intro @ln (@d1))) ?_ | refine kp (And.intro @uLH_1 ( And.intro @ln (@d1))) ?_
    refine ⟨_, (ke @uLH_1), ?_⟩
    refine ⟨Ext.of_new trivial, ?_⟩
    unfold AllS allV; rw [if_pos h2]; rfl
  · have d1 : decide ((200 : Int) < (l.length : Int)) = false := decide_eq_false (by omega)
    first | with_reducible refine ks [] (And.intro @uLH_1 ( And.intro @ln (@d1))) ?_ | refine kp (And.intro @uLH_1 ( And.intro @ln (@d1))) ?_
    refine Cw.loopG (G := A9G) [11, 12, 13, 14, 18, 19, 20, 17, 21, 22, 6, 7, 23, 24, 25, 2, 3, 26, 27, 28, 29, 4, 15, 16, 5] (fun g => [(4, g.v), (5, vi g.ts.length)]) (fun g => g.D ++ g.DG) (fun g => g.ts.length ≤ l.length ∧ allGo l g.ts.length = .ok g.ts ∧ New w.heap.size g.D ∧ New w.heap.size g.DG ∧ Gr g.D 9 1 g.v g.ts.length (g.ts.map strC).flatten) (fun g => l.length - g.ts.length) ⟨[], .slice none 0 0, [], []⟩ rfl rfl ?_ ?_
    · exact ⟨Nat.zero_le _, rfl, trivial, trivial, Gr.nl⟩
    intro g j hg
    refine kv ?_
    obtain ⟨ts, v, D, DG⟩ := g
    simp only at hg ⊢
    obtain ⟨hgl, hgo, hN, hNG, hG⟩ := hg
    by_cases hlt : ts.length < l.length
    · have d2 : decide ((ts.length : Int) < (l.length : Int)) = true := decide_eq_true (by omega)
      first | with_reducible refine ks [6] (And.intro @uLH_1 ( And.intro @d2 (@ln))) ?_ | refine kp (And.intro @uLH_1 ( And.intro @d2 (@ln))) ?_
      refine Ow.callFV rfl Tryz.call132 (fun w' hw' => TextR9_spec v0 l (ts.length : Nat) w' (hv.oldN hw' (hN.app hNG)) hb) ?_
      cases hp : partV l (ts.length : Nat) with
      | error e =>
        have hal : allV l = .error e := by unfold allV; rw [if_neg h2]; exact allGo_no hgo hp _ hlt
        have e0 : (e != 0) = true := by rw [bne_iff_ne]; exact partV_err hp
        unfold partO
        refine ko @uLH_1 ?_
        first | with_reducible refine ks [] (And.intro @uLH_1 @e0) ?_ | refine kp (And.intro @uLH_1 @e0) ?_
        refine ⟨_, (ke @uLH_1), ?_⟩
        refine ⟨Ext.of_new (hN.app hNG), ?_⟩
        unfold AllS; rw [hal]; rfl
      | ok s =>
        have e0 : ((0 : Int) != 0) = false := rfl
        unfold partO
        refine ko @uLH_1 ?_
        first | with_reducible refine ks [] (And.intro @uLH_1 @e0) ?_ | refine kp (And.intro @uLH_1 @e0) ?_
        refine Ow.buildSlice (e := 9) #[vs s] rfl rfl (by kernel_rfl) fun b9 hb9 hw9 => ?_
        refine Ow.permL (M := D ++ (DG ++ [(b9, .cells #[vs s] 9 (0, 0))])) (by classical exact List.perm_iff_count.2 fun a => by simp only [List.count_append, List.count_cons, List.count_nil] <;> omega) ?_
        refine ko @uLH_1 ?_
        refine Ow.appendXG (e := 9) (k := 1) (new := strC s) (X := D) v rfl rfl rfl rfl Tryz.underlying57 (id (by kernel_rfl) : aggT Tryz.prog 9 = some (false, 1)) (by kernel_rfl) (id (by kernel_rfl) : zeroV Tryz.prog 9 = some (vs [])) rfl Tryz.underlying57 (by intro k h; cases h) hG (fun w' hw' => AppX.one1 (hw'.has b9 (.cells #[vs s] 9 (0, 0)) (by simp)) (strC_len s) rfl) (by omega) (fun B4 v4 D4 hA4 hB4 hG4 hk14 hk24 hlk4 => ?_)
        have hN4 : New w.heap.size D4 := New.of_le fun c hc => by
          rcases hk24 c hc with h | h
          · exact hN.le c h
          · omega
        have hG5 : Gr D4 9 1 v4 (ts ++ [s]).length ((ts ++ [s]).map strC).flatten := by
          simpa using hG4
        have hN5 : New w.heap.size (DG ++ [(b9, Obj.cells #[vs s] 9 (0, 0))]) := hNG.app ⟨hw9, trivial⟩
        generalize DG ++ [(b9, Obj.cells #[vs s] 9 (0, 0))] = D6 at *
        refine ko @uLH_1 ?_
        first | with_reducible refine ks [] @uLH_1 ?_ | refine kp @uLH_1 ?_
        have hlt2 : (ts ++ [s]).length = ts.length + 1 := by simp
        refine Again.mk ⟨ts ++ [s], v4, D4, D6⟩ (by show l.length - (ts ++ [s]).length < l.length - ts.length; omega) ⟨by show (ts ++ [s]).length ≤ l.length; omega, by show allGo l (ts ++ [s]).length = .ok (ts ++ [s]); rw [hlt2]; exact allGo_ok hgo hp, hN4, hN5, hG5⟩ rfl (by simp only [hlt2]; rfl)
    · have e : ts.length = l.length := by omega
      have d2 : decide ((ts.length : Int) < (l.length : Int)) = false := decide_eq_false (by omega)
      first | with_reducible refine ks [] (And.intro @uLH_1 ( And.intro @d2 (@ln))) ?_ | refine kp (And.intro @uLH_1 ( And.intro @d2 (@ln))) ?_
      refine ⟨_, (ke @uLH_1), ?_⟩
      refine ⟨Ext.of_new (hN.app hNG), ?_⟩
      have hal : allV l = .ok ts := by unfold allV; rw [if_neg h2, ← e]; exact hgo
      unfold AllS
      rw [hal]
      exact ⟨v, rfl, Gr.i (hG.app (M := DG)) fun q hq => by simp [hq]⟩
end Go.Proofs
end
section
open Go Go.Proofs Go.Sx Go.StP Go.Flo
namespace Go.Proofs
set_option maxRecDepth 10000
set_option maxHeartbeats 400000
set_option linter.unusedSimpArgs false
/-! ### A frame, as the law reads it, is what 'Read' reads -/
theorem numR_shiftE (s : List UInt8) (a : Nat) (e most : Int) : numR s (a + 1) e most = ((numR (s.drop 1) a e most).1, (numR (s.drop 1) a e most).2.1 + 1, (numR (s.drop 1) a e most).2.2) := by
  unfold numR
  rw [List.drop_drop, Nat.add_comm 1 a]
  by_cases he : e ≠ 0
  · rw [if_pos he, if_pos he]
  · rw [if_neg he, if_neg he]
    cases numGo most (List.drop (a + 1) s) 0 0 with
    | error x => rfl
    | ok p => simp only [Prod.mk.injEq, true_and]; exact ⟨by omega, trivial⟩
theorem rawR_shiftE (s : List UInt8) (a : Nat) (e n : Int) (hs : 1 ≤ s.length) : rawR s (a + 1) e n = ((rawR (s.drop 1) a e n).1, (rawR (s.drop 1) a e n).2.1 + 1, (rawR (s.drop 1) a e n).2.2) := by
  unfold rawR
  rw [List.length_drop, List.drop_drop, Nat.add_comm 1 a]
  have hq : ((s.length : Int) - ((a + 1 : Nat) : Int) < n) = (((s.length - 1 : Nat) : Int) - (a : Int) < n) := by rw [eq_iff_iff]; omega
  simp only [hq]
  by_cases he : e ≠ 0
  · simp only [if_pos he]
  · simp only [if_neg he]
    by_cases hn : n < 0
    · simp only [if_pos hn]
    · simp only [if_neg hn]
      by_cases hl : ((s.length - 1 : Nat) : Int) - (a : Int) < n
      · simp only [if_pos hl]
      · simp only [if_neg hl, Prod.mk.injEq, true_and]
        exact ⟨by omega, trivial⟩
theorem textR_shiftE (s : List UInt8) (a : Nat) (e most : Int) (hs : 1 ≤ s.length) : textR s (a + 1) e most = ((textR (s.drop 1) a e most).1, (textR (s.drop 1) a e most).2.1 + 1, (textR (s.drop 1) a e most).2.2) := by
  unfold textR
  simp only [numR_shiftE]
  rw [rawR_shiftE _ _ _ _ hs]
  simp only
  split <;> rfl
theorem frR_cons (c : UInt8) (r : List UInt8) : frR (c :: r) = ([c], 1, 0) := by
  unfold frR rawR
  rw [if_neg (by simp), if_neg (by decide), if_neg (by simp only [List.length_cons]; omega)]
  rfl
theorem frT_cons (c : UInt8) (r : List UInt8) : frT (c :: r) = ((lfT r).1, (lfT r).2.1 + 1, (lfT r).2.2) := by
  unfold frT
  rw [frR_cons]
  exact textR_shiftE (c :: r) 0 0 4096 (by simp)
theorem endE_cons (c : UInt8) (r : List UInt8) (a : Nat) (e : Int) : endE (c :: r) (a + 1) e = endE r a e := by
  unfold endE
  rw [List.length_cons]
  have : ((((a + 1 : Nat) : Int) < ((r.length + 1 : Nat) : Int)) = ((a : Int) < (r.length : Int))) := by rw [eq_iff_iff]; omega
  simp only [this]
theorem frK_cons (c : UInt8) (r : List UInt8) : (fkC c = 0 ∧ ¬ (1 ≤ frK (c :: r) ∧ frK (c :: r) ≤ 3)) ∨ (fkC c ≠ 0 ∧ frK (c :: r) = fkC c ∧ headB (fkC c) = [c]) := by
  have e : frK (c :: r) = Lib.indexByte letL c := by unfold frK; rw [frR_cons]; rfl
  rw [e]
  by_cases h1 : c = 98
  · subst h1; exact .inr ⟨by decide, rfl, rfl⟩
  by_cases h2 : c = 116
  · subst h2; exact .inr ⟨by decide, rfl, rfl⟩
  by_cases h3 : c = 99
  · subst h3; exact .inr ⟨by decide, rfl, rfl⟩
  refine .inl ⟨by unfold fkC; rw [if_neg h1, if_neg h2, if_neg h3], ?_⟩
  have b1 : ((98 : UInt8) == c) = false := beq_eq_false_iff_ne.2 (Ne.symm h1)
  have b2 : ((116 : UInt8) == c) = false := beq_eq_false_iff_ne.2 (Ne.symm h2)
  have b3 : ((99 : UInt8) == c) = false := beq_eq_false_iff_ne.2 (Ne.symm h3)
  simp only [Lib.indexByte, b1, b2, b3, Bool.false_eq_true, ↓reduceIte]
  split <;> simp
theorem RdOk_no {k : Int} {t : List UInt8} (h : ¬ (1 ≤ k ∧ k ≤ 3)) : RdOk k t = false := by
  unfold RdOk; rw [if_neg (fun h' => h ⟨h'.1, h'.2.1⟩)]
theorem fr_lf (s : List UInt8) : frOk s = lfOk s ∧ (frOk s = true → frK s = lfK s ∧ (frT s).1 = (lfT (s.drop 1)).1) := by
  cases s with
  | nil =>
    have h : frOk [] = false := by
      unfold frOk
      rw [RdOk_no (k := frK []) (by decide), Bool.and_false]
    exact ⟨by rw [h]; rfl, fun h' => by rw [h] at h'; cases h'⟩
  | cons c r =>
    have e1 : frOk (c :: r) = (endE r (lfT r).2.1 (lfT r).2.2 == 0 && RdOk (frK (c :: r)) (lfT r).1) := by
      unfold frOk; rw [frT_cons, endE_cons]
    have e2 : lfOk (c :: r) = (fkC c != 0 && endE r (lfT r).2.1 (lfT r).2.2 == 0 && rightL (fkC c) (lfT r).1) := rfl
    rcases frK_cons c r with ⟨h1, h2⟩ | ⟨h1, h2, -⟩
    · rw [e1, e2, RdOk_no h2, h1, Bool.and_false]
      exact ⟨rfl, fun h => by cases h⟩
    · have h3 : (fkC c != 0) = true := by simpa using h1
      rw [e1, e2, h2, h3, RdOk_right, Bool.true_and]
      refine ⟨rfl, fun _ => ⟨rfl, ?_⟩⟩
      rw [frT_cons]; rfl
/-! ### The document's Find -/
set_option linter.defProp false
def uLI_1 := And.intro (And.intro (@rdIn_v8) (@rdIn_vi)) (And.intro (@load_idb) (@eqIdA))
theorem FindR_spec (v : Value) (l : List IdL) (x : IdL) (w : World) (hv : IdS w v l) (hl : l.length < 1000000) :
    Rets Tryz.prog 26 #[v, .agg (a8 x.l)] w (fun v' D => v' = vi (idxG x l 0) ∧ D = []) := by
  obtain ⟨b, off, arr, E, fz, hr⟩ := hv.row
  have ln := hv.len
  refine Rets.enterV Tryz.func26 rfl (rs := [.tmp 4]) Tryz.results26 Tryz.ntmps26 ?_
  refine kf ?_
  first | with_reducible refine ks [] @uLI_1 ?_ | refine kp @uLI_1 ?_
  refine Ow.box rfl rfl fun b1 hb1 hw1 => ?_
  simp only [ev_tmp, getF_0, getF_s, cells_agg, List.nil_append, List.cons_append]
  refine Ow.go rfl ?_
  simp (disch := (first | assumption | omega | (simp only [lenS, lenT, UInt64.reduceToNat]; try omega))) only [↓Sx.S0, Sx.S1, Tryz.fx, uLI_1, Nat.reduceAdd, Nat.reducePow, Int.reducePow, Nat.reduceBEq, ↓reduceIte, UInt8.reduceToNat, UInt16.reduceToNat, UInt32.reduceToNat, UInt64.reduceToNat, Int.reduceToNat]
  first | with_reducible refine ks [] (And.intro @uLI_1 @ln) ?_ | refine kp (And.intro @uLI_1 @ln) ?_
  refine Cw.loopG (G := Nat) [6, 7, 8, 9, 12, 13, 14, 15, 16, 17, 18, 4, 10, 11, 5] (fun g => [(5, vi g)]) (fun g => [(b1, .cells (a8 x.l) 37 (0, 0))]) (fun g => g ≤ l.length ∧ idxG x l 0 = idxG x (l.drop g) g) (fun g => l.length - g) 0 rfl rfl ?_ ?_
  · exact ⟨Nat.zero_le _, rfl⟩
  · intro k jk hk
    refine kv ?_
    obtain ⟨h1, h2⟩ := hk
    by_cases hk : k < l.length
    · have h0 : 0 < l.length := by omega
      have hbl := hr.lt h0
      have hn1 : b1 ≠ b := by omega
      have r2 := hr.has h0
      have i2 := hr.idx true k hk
      have l2 := row_id hr hk
      rw [drop_cons (z := id0) hk, idxG_cons] at h2
      first | with_reducible refine ks [] (And.intro @uLI_1 @ln) ?_ | refine kp (And.intro @uLI_1 @ln) ?_
      refine Cw.regionS [b1, b] [0, 1, 2, 3, 4, 5] [] (by kernel_rfl) (by kernel_rfl) (by kernel_rfl) ?_
      simp only [nl_cons, ↓pickL_nil, ↓pickL_cons, ↓nthO_0, ↓nthO_s, consO_some]
      refine kq (And.intro @uLI_1 ( And.intro @i2 ( And.intro @r2 (@l2)))) ?_
      have hsym : (x.l == (l.getD k id0).l) = ((l.getD k id0).l == x.l) := Bool.beq_comm
      rw [hsym] at h2
      cases hq : ((l.getD k id0).l == x.l)
      · rw [hq, if_neg (by simp)] at h2
        first | with_reducible refine ks [] (And.intro @uLI_1 @hq) ?_ | refine kp (And.intro @uLI_1 @hq) ?_
        exact Again.mk (k + 1) (by omega) ⟨hk, h2⟩ rfl rfl
      · rw [hq, if_pos rfl] at h2
        rw [h2]
        first | with_reducible refine ks [] (And.intro @uLI_1 @hq) ?_ | refine kp (And.intro @uLI_1 @hq) ?_
        refine ⟨_, (ke @uLI_1), ⟨hw1, trivial⟩, ?_⟩
        rfl
    · obtain rfl : k = l.length := by omega
      rw [List.drop_length] at h2
      rw [h2]
      first | with_reducible refine ks [] (And.intro @uLI_1 @ln) ?_ | refine kp (And.intro @uLI_1 @ln) ?_
      refine ⟨_, (ke @uLI_1), ⟨hw1, trivial⟩, ?_⟩
      rfl
end Go.Proofs
end
section
open Go Go.Proofs Go.Sx Go.StP Go.Flo
namespace Go.Proofs
set_option maxRecDepth 10000
set_option maxHeartbeats 1000000
set_option linter.unusedSimpArgs false
/-! ### The document's pack of parts -/
def mkO (v0 v1 v2 v3 : Value) : Obj := .cells #[v0, v1, v2, v3] 32 (0, 0)
def mkV (v0 v1 v2 v3 : Value) : Value := .agg #[v0, v1, v2, v3]
theorem load_mk (v0 v1 v2 v3 : Value) : loadV (some (true, 4)) (some (mkO v0 v1 v2 v3)) 0 = some (mkV v0 v1 v2 v3) := (rfl)
theorem load_mk2 (v0 v1 v2 v3 : Value) (n : Nat) : loadV (some (false, n)) (some (mkO v0 v1 v2 v3)) 2 = some v2 := (rfl)
theorem load_mk3 (v0 v1 v2 v3 : Value) (n : Nat) : loadV (some (false, n)) (some (mkO v0 v1 v2 v3)) 3 = some v3 := (rfl)
abbrev OneC (q : Value) : Prop := Value.oneCell' q = true ∧ q.cells = #[q]
theorem store_mk {v0 v1 v2 v3 u0 u1 u2 u3 : Value} (h : OneC u0 ∧ OneC u1 ∧ OneC u2 ∧ OneC u3) (a : Bool) : storeV (some (a, 4)) (some (mkO v0 v1 v2 v3)) 0 (mkV u0 u1 u2 u3) = some (mkO u0 u1 u2 u3) :=
  store_mid [] [v0, v1, v2, v3] [u0, u1, u2, u3] [] a _ 32 rfl rfl (by rw [mkV, cells_agg]) rfl (by simp [h.1.1, h.2.1.1, h.2.2.1.1, h.2.2.2.1])
theorem store_mk2 (v0 v1 v2 v3 q : Value) (a : Bool) (hq : OneC q) : storeV (some (a, 1)) (some (mkO v0 v1 v2 v3)) 2 q = some (mkO v0 v1 q v3) :=
  store_mid [v0, v1] [v2] [q] [v3] a _ 32 rfl rfl hq.2 rfl (by simp [hq.1])
theorem store_mk3 (v0 v1 v2 v3 q : Value) (a : Bool) (hq : OneC q) : storeV (some (a, 1)) (some (mkO v0 v1 v2 v3)) 3 q = some (mkO v0 v1 v2 q) :=
  store_mid [v0, v1, v2] [v3] [q] [] a _ 32 rfl rfl hq.2 rfl (by simp [hq.1])
theorem zrMk : zeroV Tryz.prog 32 = some (mkV (.slice none 0 0) (.slice none 0 0) (.slice none 0 0) (.slice none 0 0)) := id (by kernel_rfl)
theorem plcMk : plcT Tryz.prog 32 = some [(0, 1), (1, 1), (2, 1), (3, 1)] := id (by kernel_rfl)
theorem build_mk1 {w : World} {v0 : Value} {l : List PartL} (hv : PartSl w v0 l) : buildV (plcT Tryz.prog 32) (zeroV Tryz.prog 32) [(0, v0)] = some (mkV v0 (.slice none 0 0) (.slice none 0 0) (.slice none 0 0)) := by
  rw [plcMk, zrMk]
  obtain ⟨b, off, c, arr, E, fz, hr, hc, ⟨rfl, rfl, rfl⟩ | ⟨rfl, hb, hsz⟩⟩ := hv <;> rfl
theorem mk_zc (a b c d : Value) : Obj.cells (Value.cells (mkV a b c d)) 32 (0, 0) = mkO a b c d := (rfl)
theorem slV_one {α : Type} {m : Nat} {enc : α → List Value} {z : α} {w : World} {v : Value} {l : List α} (hv : SlV m enc z w v l) : OneC v := by
  obtain ⟨bb, off, c, arr, E, fz, hr, hc, ⟨rfl, -, -⟩ | ⟨rfl, h, -⟩⟩ := hv <;> exact ⟨rfl, rfl⟩
/-- What 'Of' hands back. -/
def OfS (l : List PartL) (v0 : Value) (v : Value) (D : Heap) : Prop := match fillV l with
  | some p => ∃ x2 x3, v = .tuple #[mkV v0 (.slice none 0 0) x3 x2, .bool true] ∧ GrI D 37 32 x2 p.1.length (p.1.map idLC).flatten ∧ GrI D 43 2 x3 p.2.length (p.2.map obC).flatten
  | none => ∃ x2 x3, v = .tuple #[mkV v0 (.slice none 0 0) x3 x2, .bool false] ∧ OneC x2 ∧ OneC x3
theorem readV_lf (s : List UInt8) : readV s = ⟨if lfOk s then lfK s else 0, if lfOk s then (lfT (s.drop 1)).1 else []⟩ := by
  unfold readV
  have h := fr_lf s
  rw [← h.1]
  cases hf : frOk s
  · rfl
  · rw [(h.2 hf).1, (h.2 hf).2]
theorem frOk_right {s : List UInt8} (h : frOk s = true) : RdOk (readV s).k (readV s).t = true := by
  unfold readV
  rw [h]
  unfold frOk at h
  rw [Bool.and_eq_true] at h
  exact h.2
theorem idOf_lf {s : List UInt8} (h : frOk s = true) : (idOf s).l = Dig.shaR (frameL (readV s).k (readV s).t) := by
  have hr := frOk_right h
  unfold idOf idV
  rw [if_pos hr, frameL_eq hr]
theorem RdOk_len {k : Int} {t : List UInt8} (h : RdOk k t = true) : t.length ≤ 4096 := by
  unfold RdOk at h
  split at h
  · rename_i h1; exact h1.2.2
  · cases h
set_option linter.defProp false
def uLJ_1 := And.intro (And.intro (And.intro (@rdIn_v8) (And.intro (@rdIn_vi) (@load_mk))) (And.intro (@load_mk2) (And.intro (@load_mk3) (@Sx.tup2_0)))) (And.intro (And.intro (@Sx.tup2_1) (And.intro (@load_ob) (@load_ob0))) (And.intro (@load_ob1) (And.intro (@store_ob) (@load_idb))))
theorem OfR_spec (v0 : Value) (l : List PartL) (w : World) (hv : PartSl w v0 l) (hb : BndD l) :
    Rets Tryz.prog 15 #[v0] w (XS w [] (OfS l v0)) := by
  have hn1 : OneC (.slice none 0 0) := ⟨rfl, rfl⟩
  have hn0 : OneC v0 := slV_one hv
  refine Rets.enterX Tryz.func15 rfl (rs := [.cell 2 32, .tmp 3]) Tryz.results15 Tryz.ntmps15 (fun p hp => by cases hp) (by simp [keys]) ?_
  refine kf ?_
  first | with_reducible refine ks [] @uLJ_1 ?_ | refine kp @uLJ_1 ?_
  refine Ow.alloc rfl rfl zrMk fun b2 hb2 hw2 => ?_
  simp only [cells_agg, List.nil_append, List.cons_append]
  refine ko @uLJ_1 ?_
  first | with_reducible refine ks [] @uLJ_1 ?_ | refine kp @uLJ_1 ?_
  refine Ow.build (mkV v0 (.slice none 0 0) (.slice none 0 0) (.slice none 0 0)) rfl (build_mk1 hv) ?_
  refine ko @uLJ_1 ?_
  refine Ow.alloc rfl rfl zrMk fun b4 hb4 hw4 => ?_
  simp only [cells_agg, List.nil_append, List.cons_append]
  have h24 : b2 < b4 := above_to hb4 (by simp [keys])
  simp only [mk_zc]
  refine Ow.permL (M := [(b4, mkO (.slice none 0 0) (.slice none 0 0) (.slice none 0 0) (.slice none 0 0)), (b2, mkO (.slice none 0 0) (.slice none 0 0) (.slice none 0 0) (.slice none 0 0))]) (by classical exact List.perm_iff_count.2 fun a => by simp only [List.count_append, List.count_cons, List.count_nil] <;> omega) ?_
  have hs4 := fun a => store_mk (v0 := .slice none 0 0) (v1 := .slice none 0 0) (v2 := .slice none 0 0) (v3 := .slice none 0 0) ⟨hn0, hn1, hn1, hn1⟩ a
  refine ko (And.intro @uLJ_1 @hs4) ?_
  first | with_reducible refine ks [] @uLJ_1 ?_ | refine kp @uLJ_1 ?_
  refine Ow.callX (Y := [(b4, mkO v0 (.slice none 0 0) (.slice none 0 0) (.slice none 0 0)), (b2, mkO (.slice none 0 0) (.slice none 0 0) (.slice none 0 0) (.slice none 0 0))]) (by simp) rfl rfl Tryz.call65 (fun w' hw' hX hn => AllR9_spec v0 l w' (hv.oldN hw' ⟨hw4, hw2, trivial⟩) hb) (fun v1' D1 hC1 hS1 => ?_)
  have hN1 : New w.heap.size D1 := New.of_le fun c hc => by
    rcases hC1.new c hc with h | h
    · cases h
    · exact h.2
  unfold AllS at hS1
  cases ha : allV l with
  | error e =>
    rw [ha] at hS1
    have hS1' : v1' = .tuple #[.slice none 0 0, vi e] := hS1
    subst hS1'
    have e0 : (e != 0) = true := bne_iff_ne.2 (allV_err ha)
    have hs2 := fun a => store_mk (v0 := .slice none 0 0) (v1 := .slice none 0 0) (v2 := .slice none 0 0) (v3 := .slice none 0 0) ⟨hn0, hn1, hn1, hn1⟩ a
    refine Ow.permL (M := (b4, mkO v0 (.slice none 0 0) (.slice none 0 0) (.slice none 0 0)) :: (b2, mkO (.slice none 0 0) (.slice none 0 0) (.slice none 0 0) (.slice none 0 0)) :: D1) (by classical exact List.perm_iff_count.2 fun a => by simp only [List.count_append, List.count_cons, List.count_nil] <;> omega) ?_
    refine ko @uLJ_1 ?_
    first | with_reducible refine ks [] (And.intro @uLJ_1 ( And.intro @e0 (@hs2))) ?_ | refine kp (And.intro @uLJ_1 ( And.intro @e0 (@hs2))) ?_
    refine ⟨_, (ke @uLJ_1), ?_⟩
    refine ⟨Ext.of_new ⟨hw4, hw2, hN1⟩, ?_⟩
    unfold OfS
    rw [fillV_err ha]
    exact ⟨_, _, rfl, hn1, hn1⟩
  | ok ts =>
    rw [ha] at hS1
    obtain ⟨x, rfl, hGT⟩ := hS1
    obtain ⟨hlen, hl2, htl⟩ := allV_len ha
    have lnT := gri_len hGT
    have e0 : ((0 : Int) != 0) = false := rfl
    refine ko @uLJ_1 ?_
    first | with_reducible refine ks [6] (And.intro @uLJ_1 ( And.intro @e0 (@lnT))) ?_ | refine kp (And.intro @uLJ_1 ( And.intro @e0 (@lnT))) ?_
    refine Cw.world fun ww hww => ?_
    have hnd := hww.nodup
    clear hww ww
    rw [keys_app, List.nodup_append] at hnd
    refine Cw.permL (M := (b4, mkO v0 (.slice none 0 0) (.slice none 0 0) (.slice none 0 0)) :: (b2, mkO (.slice none 0 0) (.slice none 0 0) (.slice none 0 0) (.slice none 0 0)) :: (D1 ++ ([] ++ ([] ++ [])))) (by classical exact List.perm_iff_count.2 fun a => by simp only [List.count_append, List.count_cons, List.count_nil] <;> omega) ?_
    refine Cw.loopG (G := FiG) [21, 22, 23, 24, 28, 29, 30, 31, 32, 27, 33, 34, 8, 9, 35, 36, 37, 3, 38, 39, 10, 40, 41, 42, 43, 44, 45, 46, 47, 48, 49, 50, 51, 52, 53, 54, 55, 56, 57, 25, 26, 7] (fun g => [(7, vi g.k)]) (fun g => (b4, mkO v0 (.slice none 0 0) g.x3 g.x2) :: (b2, mkO (.slice none 0 0) (.slice none 0 0) (.slice none 0 0) (.slice none 0 0)) :: (D1 ++ (g.D2 ++ (g.D3 ++ g.DG)))) (fun g => g.k ≤ ts.length ∧ fillGo (ts.take g.k) [] [] = some (g.ids, g.os) ∧ New w.heap.size g.D2 ∧ New w.heap.size g.D3 ∧ New w.heap.size g.DG ∧ Gr g.D2 37 32 g.x2 g.ids.length (g.ids.map idLC).flatten ∧ Gr g.D3 43 2 g.x3 g.os.length (g.os.map obC).flatten) (fun g => ts.length - g.k) ⟨0, [], [], .slice none 0 0, .slice none 0 0, [], [], []⟩ rfl rfl ?_ ?_
    · exact ⟨Nat.zero_le _, rfl, trivial, trivial, trivial, Gr.nl, Gr.nl⟩
    intro g j hg
    refine kv ?_
    obtain ⟨k, ids, os, x2, x3, D2, D3, DG⟩ := g
    simp only at hg ⊢
    obtain ⟨hk, hfg, hN2, hN3, hNG, hG2, hG3⟩ := hg
    have hNr : New w.heap.size (D1 ++ (D2 ++ (D3 ++ DG))) := hN1.app (hN2.app (hN3.app hNG))
    have hfl := fillGo_len _ _ _ _ hfg
    rw [List.length_take, Nat.min_eq_left hk, List.length_nil, List.length_nil, Nat.zero_add] at hfl
    simp only at hfl
    have hs2 := fun a => store_mk (v0 := .slice none 0 0) (v1 := .slice none 0 0) (v2 := .slice none 0 0) (v3 := .slice none 0 0) ⟨hn0, hn1, hG3.cell, hG2.cell⟩ a
    by_cases hlt : k < ts.length
    · obtain h0 | ⟨bt, ct, rest, rfl, hbt, hlk⟩ := gri_str hGT hnd.1
      · omega
      have hd : decide ((k : Int) < (ts.length : Int)) = true := decide_eq_true (by omega)
      have hbtn : b4 ≠ bt ∧ b2 ≠ bt := by
        have := hnd.2.2 bt hbt
        simp only [keys, List.map_cons, List.map_nil, List.mem_cons, List.not_mem_nil, or_false, forall_eq_or_imp, forall_eq] at this
        exact ⟨Ne.symm this.1, Ne.symm this.2⟩
      have rdt : readB w ((b4, mkO v0 (.slice none 0 0) x3 x2) :: (b2, mkO (.slice none 0 0) (.slice none 0 0) (.slice none 0 0) (.slice none 0 0)) :: (D1 ++ (D2 ++ (D3 ++ DG)))) bt = some (rowO strC 9 rest ts) := read_look (by rw [look_other _ _ _ _ hbtn.1, look_other _ _ _ _ hbtn.2]; exact look_app hlk)
      have ldt := load_str (E := 9) (rest := rest) 1 k hlt
      have hsl := htl k hlt
      first | with_reducible refine ks [7] (And.intro @uLJ_1 ( And.intro @hd ( And.intro @rdt (@ldt)))) ?_ | refine kp (And.intro @uLJ_1 ( And.intro @hd ( And.intro @rdt (@ldt)))) ?_
      generalize hs : ts.getD k [] = s at *
      have hrd1 : (if lfOk s then lfK s else 0) = (readV s).k := by rw [readV_lf]
      have hrd2 : (if lfOk s then (lfT (s.drop 1)).1 else []) = (readV s).t := by rw [readV_lf]
      have hfl2 := (fr_lf s).1
      refine Ow.callFV rfl Tryz.call66 (fun w' hw' => ReadL_spec s w' (by omega)) ?_
      rw [hrd1, hrd2, ← hfl2]
      refine ko @uLJ_1 ?_
      refine Ow.alloc rfl rfl zrOb fun b7 hb7 hw7 => ?_
      simp only [cells_agg, List.nil_append, List.cons_append]
      have hb47 : b4 < b7 := above_to hb7 (by simp [keys])
      have hb27 : b2 < b7 := by omega
      refine Ow.permL (M := (b7, .cells #[vi 0, vs []] 43 (0, 0)) :: (b4, mkO v0 (.slice none 0 0) x3 x2) :: (b2, mkO (.slice none 0 0) (.slice none 0 0) (.slice none 0 0) (.slice none 0 0)) :: (D1 ++ (D2 ++ (D3 ++ DG)))) (by classical exact List.perm_iff_count.2 fun a => by simp only [List.count_append, List.count_cons, List.count_nil] <;> omega) ?_
      refine ko @uLJ_1 ?_
      cases hfr : frOk s with
      | false =>
        have hno : fillV l = none := fillV_no ha hlt hfg (by rw [hs, hfr]; rintro ⟨h, -⟩; cases h)
        first | with_reducible refine ks [] (And.intro @uLJ_1 @hs2) ?_ | refine kp (And.intro @uLJ_1 @hs2) ?_
        refine ⟨_, (ke @uLJ_1), ?_⟩
        refine ⟨Ext.of_new ⟨hw7, hw4, hw2, hNr⟩, ?_⟩
        unfold OfS
        rw [hno]
        exact ⟨_, _, rfl, hG2.cell, hG3.cell⟩
      | true =>
        have htl' : (readV s).t.length < 100000 := by have := RdOk_len (frOk_right hfr); omega
        have hid := idOf_lf hfr
        first | with_reducible refine ks [] @uLJ_1 ?_ | refine kp @uLJ_1 ?_
        refine Ow.callFV rfl Tryz.call67 (fun w' hw' => IdL_spec (readV s).k (readV s).t w' htl') ?_
        rw [← hid]
        have hil := (idOf s).h
        have hi0 := id0.h
        refine ko @uLJ_1 ?_
        refine Ow.alloc rfl rfl zrIdE fun b9 hb9 hw9 => ?_
        simp only [cells_agg, List.nil_append, List.cons_append]
        have hb79 : b7 < b9 := above_to hb9 (by simp [keys])
        refine Ow.permL (M := (b9, .cells (a8 id0.l) 37 (0, 0)) :: (b7, .cells #[vi (readV s).k, vs (readV s).t] 43 (0, 0)) :: (b4, mkO v0 (.slice none 0 0) x3 x2) :: (b2, mkO (.slice none 0 0) (.slice none 0 0) (.slice none 0 0) (.slice none 0 0)) :: (D1 ++ (D2 ++ (D3 ++ DG)))) (by classical exact List.perm_iff_count.2 fun a => by simp only [List.count_append, List.count_cons, List.count_nil] <;> omega) ?_
        refine ko @uLJ_1 ?_
        first | with_reducible refine ks [] @uLJ_1 ?_ | refine kp @uLJ_1 ?_
        refine Ow.callFV rfl Tryz.call26 (fun w' hw' => FindR_spec x2 ids (idOf s) w' (hG2.slM (fun b o hm => hw'.has b o (by simp only [List.mem_cons, List.mem_append]; exact .inr (.inr (.inr (.inr (.inr (.inl hm))))))) rfl rfl idLC_len') (by omega)) ?_
        have hany := idxG_any (idOf s) ids 0
        cases hct : (ids.any fun y => (idOf s).l == y.l) with
        | true =>
          rw [hct] at hany
          have hno : fillV l = none := fillV_no ha hlt hfg (by rw [hs]; rintro ⟨-, h⟩; rw [hct] at h; cases h)
          refine ko @uLJ_1 ?_
          first | with_reducible refine ks [] (And.intro @uLJ_1 ( And.intro @hany (@hs2))) ?_ | refine kp (And.intro @uLJ_1 ( And.intro @hany (@hs2))) ?_
          refine ⟨_, (ke @uLJ_1), ?_⟩
          refine ⟨Ext.of_new ⟨hw9, hw7, hw4, hw2, hNr⟩, ?_⟩
          unfold OfS
          rw [hno]
          exact ⟨_, _, rfl, hG2.cell, hG3.cell⟩
        | false =>
          rw [hct] at hany
          have hfg' : fillGo (ts.take (k + 1)) [] [] = some (ids ++ [idOf s], os ++ [readV s]) := by rw [take_snoc (z := []) hlt, hs, fillGo_snoc hfg, if_pos ⟨hfr, hct⟩]
          refine ko @uLJ_1 ?_
          first | with_reducible refine ks [7] (And.intro @uLJ_1 @hany) ?_ | refine kp (And.intro @uLJ_1 @hany) ?_
          refine Ow.buildSlice (e := 43) #[vi (readV s).k, vs (readV s).t] rfl rfl (slice_one (cs := obC (readV s)) Tryz.underlying29 Tryz.ag43 zrOb (by decide) rfl) fun bc hbc hwc => ?_
          refine ko @uLJ_1 ?_
          refine Ow.permL (M := D3 ++ ((b9, .cells (a8 (idOf s).l) 37 (0, 0)) :: (b7, .cells #[vi (readV s).k, vs (readV s).t] 43 (0, 0)) :: (b4, mkO v0 (.slice none 0 0) x3 x2) :: (b2, mkO (.slice none 0 0) (.slice none 0 0) (.slice none 0 0) (.slice none 0 0)) :: (D1 ++ (D2 ++ (DG ++ [(bc, .cells #[vi (readV s).k, vs (readV s).t] 43 (0, 0))]))))) (by classical exact List.perm_iff_count.2 fun a => by simp only [List.count_append, List.count_cons, List.count_nil] <;> omega) ?_
          refine Ow.appendXG (e := 43) (k := 1) (new := obC (readV s)) (X := D3) x3 rfl rfl rfl rfl Tryz.underlying29 Tryz.ag43 (by kernel_rfl) zrOb (by rw [obV, cells_agg]; rfl) Tryz.underlying29 (by intro k h; cases h) hG3 (fun w' hw' => AppX.one1 (hw'.has bc (.cells (obC (readV s)).toArray 43 (0, 0)) (by simp [obC])) (obC_len _) (obC_one _)) (by omega) (fun B5 v5 D5 hA5 hB5 hG5 hk51 hk52 hlk5 => ?_)
          have hN5 : New w.heap.size D5 := New.of_le fun q hq => by
            rcases hk52 q hq with h | h
            · exact hN3.le q h
            · omega
          refine Ow.permL (M := (b9, .cells (a8 (idOf s).l) 37 (0, 0)) :: (b7, .cells #[vi (readV s).k, vs (readV s).t] 43 (0, 0)) :: (b4, mkO v0 (.slice none 0 0) x3 x2) :: (b2, mkO (.slice none 0 0) (.slice none 0 0) (.slice none 0 0) (.slice none 0 0)) :: (D1 ++ (D2 ++ (D5 ++ (DG ++ [(bc, .cells #[vi (readV s).k, vs (readV s).t] 43 (0, 0))]))))) (by classical exact List.perm_iff_count.2 fun a => by simp only [List.count_append, List.count_cons, List.count_nil] <;> omega) ?_
          have st5 : ∀ a, storeV (some (a, 1)) (some (mkO v0 (.slice none 0 0) x3 x2)) 2 v5 = some (mkO v0 (.slice none 0 0) v5 x2) := fun a => store_mk2 _ _ _ _ v5 a hG5.cell
          refine ko (And.intro @uLJ_1 @st5) ?_
          first | with_reducible refine ks [] @uLJ_1 ?_ | refine kp @uLJ_1 ?_
          refine Ow.buildSlice (e := 37) (a8 (idOf s).l) rfl rfl (slice_one (cs := (idOf s).l.map v8) Tryz.underlying30 aggIdE zrIdE (by decide) (by simp [(idOf s).h])) fun ba hba hwa => ?_
          refine ko @uLJ_1 ?_
          refine Ow.permL (M := D2 ++ ((b9, .cells (a8 (idOf s).l) 37 (0, 0)) :: (b7, .cells #[vi (readV s).k, vs (readV s).t] 43 (0, 0)) :: (b4, mkO v0 (.slice none 0 0) v5 x2) :: (b2, mkO (.slice none 0 0) (.slice none 0 0) (.slice none 0 0) (.slice none 0 0)) :: (D1 ++ (D5 ++ (DG ++ [(bc, .cells #[vi (readV s).k, vs (readV s).t] 43 (0, 0)), (ba, .cells (a8 (idOf s).l) 37 (0, 0))]))))) (by classical exact List.perm_iff_count.2 fun a => by simp only [List.count_append, List.count_cons, List.count_nil] <;> omega) ?_
          refine Ow.appendXG (e := 37) (k := 1) (new := idLC (idOf s)) (X := D2) x2 rfl rfl rfl rfl Tryz.underlying30 aggIdE (by kernel_rfl) zrIdE (by rw [cells_agg, size_a8, id0.h]) Tryz.underlying30 (by intro k h; cases h) hG2 (fun w' hw' => AppX.one1 (by rw [idLC_a8]; exact hw'.has ba (.cells (a8 (idOf s).l) 37 (0, 0)) (by simp)) (idLC_len' _) (idLC_one' _)) (by omega) (fun B4 v4 D4 hA4 hB4 hG4 hk41 hk42 hlk4 => ?_)
          have hN4 : New w.heap.size D4 := New.of_le fun q hq => by
            rcases hk42 q hq with h | h
            · exact hN2.le q h
            · omega
          refine Ow.permL (M := (b4, mkO v0 (.slice none 0 0) v5 x2) :: (b2, mkO (.slice none 0 0) (.slice none 0 0) (.slice none 0 0) (.slice none 0 0)) :: (D1 ++ (D4 ++ (D5 ++ ((b9, .cells (a8 (idOf s).l) 37 (0, 0)) :: (b7, .cells #[vi (readV s).k, vs (readV s).t] 43 (0, 0)) :: (DG ++ [(bc, .cells #[vi (readV s).k, vs (readV s).t] 43 (0, 0)), (ba, .cells (a8 (idOf s).l) 37 (0, 0))])))))) (by classical exact List.perm_iff_count.2 fun a => by simp only [List.count_append, List.count_cons, List.count_nil] <;> omega) ?_
          have st4 : ∀ a, storeV (some (a, 1)) (some (mkO v0 (.slice none 0 0) v5 x2)) 3 v4 = some (mkO v0 (.slice none 0 0) v5 v4) := fun a => store_mk3 _ _ _ _ v4 a hG4.cell
          refine ko (And.intro @uLJ_1 @st4) ?_
          first | with_reducible refine ks [] @uLJ_1 ?_ | refine kp @uLJ_1 ?_
          have hl1 : (ids ++ [idOf s]).length = ids.length + 1 := by simp
          have hl2 : (os ++ [readV s]).length = os.length + 1 := by simp
          refine Again.mk ⟨k + 1, ids ++ [idOf s], os ++ [readV s], v4, v5, D4, D5, (b9, .cells (a8 (idOf s).l) 37 (0, 0)) :: (b7, .cells #[vi (readV s).k, vs (readV s).t] 43 (0, 0)) :: (DG ++ [(bc, .cells #[vi (readV s).k, vs (readV s).t] 43 (0, 0)), (ba, .cells (a8 (idOf s).l) 37 (0, 0))])⟩ (by show ts.length - (k + 1) < ts.length - k; omega) ⟨hlt, hfg', hN4, hN5, ⟨hw9, hw7, hNG.app ⟨hwc, hwa, trivial⟩⟩, by simpa using hG4, by simpa using hG5⟩ rfl rfl
    · obtain rfl : k = ts.length := by omega
      have hd : decide ((ts.length : Int) < (ts.length : Int)) = false := decide_eq_false (by omega)
      first | with_reducible refine ks [] (And.intro @uLJ_1 ( And.intro @lnT ( And.intro @hd (@hs2)))) ?_ | refine kp (And.intro @uLJ_1 ( And.intro @lnT ( And.intro @hd (@hs2)))) ?_
      refine ⟨_, (ke @uLJ_1), ?_⟩
      refine ⟨Ext.of_new ⟨hw4, hw2, hNr⟩, ?_⟩
      have hf : fillV l = some (ids, os) := by
        unfold fillV
        rw [ha]
        rw [List.take_length] at hfg
        exact hfg
      unfold OfS
      rw [hf]
      exact ⟨x2, x3, rfl, Gr.i hG2 fun q hq => by simp [hq], Gr.i hG3 fun q hq => by simp [hq]⟩
end Go.Proofs
end
section
open Go Go.Proofs Go.Sx
namespace Go.Proofs
set_option maxRecDepth 10000
set_option maxHeartbeats 4000000
set_option linter.unusedSimpArgs false
/-! ### Sums -/
def hvL : List UInt32 := [0x00000000, 0x1db71064, 0x3b6e20c8, 0x26d930ac, 0x76dc4190, 0x6b6b51f4, 0x4db26158, 0x5005713c, 0xedb88320, 0xf00f9344, 0xd6d6a3e8, 0xcb61b38c, 0x9b64c2b0, 0x86d3d2d4, 0xa00ae278, 0xbdbdf21c]
def half32 (n : UInt32) : UInt32 := shr_u32 n 4 ^^^ hvL.getD (n &&& 15).toNat 0
def halfs (n : UInt32) : Nat → UInt32
  | 0 => n
  | k + 1 => half32 (halfs n k)
def feedV (n : UInt32) (b : UInt8) : UInt32 := halfs (n ^^^ UInt32.ofNat b.toNat) 2
theorem and15_u32 (n : UInt32) : (n &&& 15).toNat < 16 := by
  rw [UInt32.toNat_and]
  exact Nat.lt_of_le_of_lt Nat.and_le_right (by decide)
/-- The table of the sums' steps. -/
def GlobC (w : World) : Prop := ∃ e f, w.heap[(1 : Nat)]? = some (.cells (a32 hvL) e f)
theorem GlobC.of {w w' : World} {L : Heap} (h : GlobC w) (hw : Hp w L w') (hn : (1 : Nat) ∉ keys L) : GlobC w' := by
  obtain ⟨e, f, h⟩ := h
  exact ⟨e, f, by rw [hw.old _ (Array.getElem?_eq_some_iff.1 h).1 hn]; exact h⟩
theorem hvL_len : hvL.length = 16 := rfl
set_option linter.defProp false
def uWB_1 := And.intro (And.intro (@rdIn_v8) (@rdIn_v16)) (And.intro (@rdIn_v32) (And.intro (@rdIn_v64) (@rdIn_vi)))
theorem feed_spec (n : UInt32) (b : UInt8) (w : World) (hG : GlobC w) :
    Rets Tryz.prog 183 #[v32 n, v8 b] w (fun v D => v = v32 (feedV n b) ∧ D = []) := by
  obtain ⟨e, f, htab⟩ := hG
  refine Rets.enterV Tryz.func183 rfl (rs := [.tmp 4]) Tryz.results183 Tryz.ntmps183 ?_
  refine kf ?_
  first | with_reducible refine ks [] uWB_1 ?_ | refine kp uWB_1 ?_
  unfold feedV
  generalize n ^^^ UInt32.ofNat b.toNat = m
  rw [show v32 m = v32 (halfs m 0) from rfl]
  refine Cw.loopG (G := Nat) [10, 11, 12, 13, 14, 15, 16, 17, 0, 18, 9] (fun g => [(0, v32 (halfs m g)), (9, vi g)]) (fun g => []) (fun g => g ≤ 2) (fun g => 2 - g) 0 rfl rfl ?_ ?_
  · omega
  intro g j hg
  refine kv ?_
  by_cases hlt : g < 2
  · have h15 := and15_u32 (halfs m g)
    have hl := hvL_len
    first | with_reducible refine ks [] (And.intro uWB_1 @htab) ?_ | refine kp (And.intro uWB_1 @htab) ?_
    refine Again.mk (g + 1) (by omega) (by omega) rfl rfl
  · obtain rfl : g = 2 := by omega
    first | with_reducible refine ks [] uWB_1 ?_ | refine kp uWB_1 ?_
    refine ⟨_, (ke uWB_1), trivial, ?_⟩
    rfl
def crcGo (n : UInt32) (s : List UInt8) : UInt32 := s.foldl feedV n
theorem crcGo_succ (n : UInt32) (s : List UInt8) (g : Nat) (h : g < s.length) : crcGo n (s.take (g + 1)) = feedV (crcGo n (s.take g)) (s.getD g 0) := by
  unfold crcGo
  rw [List.take_succ_eq_append_getElem h, List.foldl_append, List.getD_eq_getElem?_getD, List.getElem?_eq_getElem h]
  rfl
theorem cAdd_spec (n : UInt32) (s : List UInt8) (w : World) (hG : GlobC w) (hs : s.length < 1099511627776) :
    Rets Tryz.prog 162 #[v32 n, vs s] w (fun v D => v = v32 (~~~ (crcGo (~~~ n) s)) ∧ D = []) := by
  refine Rets.enterV Tryz.func162 rfl (rs := [.tmp 4]) Tryz.results162 Tryz.ntmps162 ?_
  refine kf ?_
  first | with_reducible refine ks [] uWB_1 ?_ | refine kp uWB_1 ?_
  rw [show v32 (~~~ n) = v32 (crcGo (~~~ n) (s.take 0)) from rfl]
  refine Cw.loopG (G := Nat) [12, 13, 6, 14, 15, 16, 17, 18, 5, 19, 11] (fun g => [(5, v32 (crcGo (~~~ n) (s.take g))), (11, vi g)]) (fun g => []) (fun g => g ≤ s.length) (fun g => s.length - g) 0 rfl rfl ?_ ?_
  · omega
  intro g j hg
  refine kv ?_
  by_cases hlt : g < s.length
  · first | with_reducible refine ks [] uWB_1 ?_ | refine kp uWB_1 ?_
    refine Ow.callFV rfl Tryz.call183 (fun w' hw' => feed_spec _ _ w' (GlobC.of hG hw' (by simp [keys]))) ?_
    refine ko uWB_1 ?_
    first | with_reducible refine ks [] uWB_1 ?_ | refine kp uWB_1 ?_
    refine Again.mk (g + 1) (by omega) (by omega) rfl ?_
    rw [crcGo_succ _ _ _ hlt]
    rfl
  · obtain rfl : g = s.length := by omega
    first | with_reducible refine ks [] uWB_1 ?_ | refine kp uWB_1 ?_
    rw [List.take_length]
    refine ⟨_, (ke uWB_1), trivial, ?_⟩
    rfl
def crcV (s : List UInt8) : UInt32 := ~~~ (crcGo (~~~ (0 : UInt32)) s)
theorem cSum_spec (b : Nat) (s : List UInt8) (E : TypeId) (w : World) (hG : GlobC w) (hs : s.length < 1099511627776) (ho : w.heap[b]? = some (.cells #[vs s] E (0, 0))) :
    Rets Tryz.prog 130 #[vsl b 0 1 1] w (fun v D => v = v32 (crcV s) ∧ D = []) := by
  have hS : StrS w (vsl b 0 1 1) [s] b 0 #[vs s] E (0, 0) := StrS.lit [s] rfl rfl ho
  refine Rets.enterV Tryz.func130 rfl (rs := [.tmp 2]) Tryz.results130 Tryz.ntmps130 ?_
  refine kf ?_
  first | with_reducible refine ks [] uWB_1 ?_ | refine kp uWB_1 ?_
  refine Cw.loopG (G := Nat) [9, 10, 11, 5, 12, 13, 14, 3, 15, 8] (fun g => [(3, v32 (if g = 0 then 0 else crcV s)), (8, vi g)]) (fun g => []) (fun g => g ≤ 1) (fun g => 1 - g) 0 rfl rfl ?_ ?_
  · omega
  intro g j hg
  refine kv ?_
  by_cases hlt : g < 1
  · obtain rfl : g = 0 := by omega
    have hlg := hS.get 0 (by simp)
    have hrd := hS.has (by simp)
    have hix := fun m => hS.idx m 0 (by simp)
    ((try with_reducible refine Cw.go [] ?_); (try simp (disch := (first | assumption | omega | (simp only [lenS, lenT, UInt64.reduceToNat]; try omega))) only [↓Sx.S0, Sx.S1, Tryz.fx, uWB_1, Nat.reduceAdd, Nat.reducePow, Int.reducePow, Nat.reduceBEq, ↓reduceIte, UInt8.reduceToNat, UInt16.reduceToNat, UInt32.reduceToNat, UInt64.reduceToNat, Int.reduceToNat, Sx.loadV_one, hrd, hlg, hix]))
    refine Ow.callFV rfl Tryz.call162 (fun w' hw' => cAdd_spec 0 s w' (GlobC.of hG hw' (by simp [keys])) hs) ?_
    refine ko uWB_1 ?_
    first | with_reducible refine ks [] uWB_1 ?_ | refine kp uWB_1 ?_
    refine Again.mk 1 (by omega) (by omega) rfl rfl
  · obtain rfl : g = 1 := by omega
    first | with_reducible refine ks [] uWB_1 ?_ | refine kp uWB_1 ?_
    refine ⟨_, (ke uWB_1), trivial, ?_⟩
    rfl
def sumPre (n : UInt32) (g : Nat) : List UInt8 := (List.range 4).map fun j => if j < g then UInt8.ofNat (shr_u32 n (8 * j)).toNat else 0
def sum4 (n : UInt32) : List UInt8 := sumPre n 4
theorem sumPre_len (n : UInt32) (g : Nat) : (sumPre n g).length = 4 := by simp [sumPre]
theorem sumPre_succ (n : UInt32) (g : Nat) (h : g < 4) : (sumPre n g).set g (UInt8.ofNat (shr_u32 n (8 * g)).toNat) = sumPre n (g + 1) := by
  have : g = 0 ∨ g = 1 ∨ g = 2 ∨ g = 3 := by omega
  rcases this with rfl | rfl | rfl | rfl <;> rfl
def sealV (s : List UInt8) : List UInt8 := s ++ sum4 (crcV s)
theorem cSeal_spec (s : List UInt8) (w : World) (hG : GlobC w) (hs : s.length < 1099511627776) :
    Rets Tryz.prog 63 #[vs s] w (fun v D => v = vs (sealV s) ∧ D = []) := by
  have hgl : (1 : Nat) < w.heap.size := by obtain ⟨e, f, h⟩ := hG; exact (Array.getElem?_eq_some_iff.1 h).1
  refine Rets.enterV Tryz.func63 rfl (rs := [.tmp 2]) Tryz.results63 Tryz.ntmps63 ?_
  refine kf ?_
  first | with_reducible refine ks [] uWB_1 ?_ | refine kp uWB_1 ?_
  refine Ow.buildSlice (e := 9) #[vs s] rfl rfl (by kernel_rfl) fun b1 hb1 hw1 => ?_
  refine ko uWB_1 ?_
  refine Ow.callFV rfl Tryz.call130 (fun w' hw' => cSum_spec b1 s _ w' (GlobC.of hG hw' (by simp [keys]; omega)) hs (hw'.has _ _ List.mem_cons_self)) ?_
  refine ko uWB_1 ?_
  first | with_reducible refine ks [] uWB_1 ?_ | refine kp uWB_1 ?_
  unfold sealV
  generalize crcV s = n
  refine Ow.alloc rfl rfl Tryz.zr204 fun b2 hb2 hw2 => ?_
  obtain ⟨h12, -⟩ := hb2
  refine ko uWB_1 ?_
  first | with_reducible refine ks [] uWB_1 ?_ | refine kp uWB_1 ?_
  rw [show a8 (List.replicate 4 0) = a8 (sumPre n 0) from rfl]
  refine Cw.loopG (G := Nat) [10, 11, 5, 12, 13, 14, 15, 16, 17, 18, 19, 9] (fun g => [(9, vi g)]) (fun g => [(b1, .cells #[vs s] 9 (0, 0)), (b2, .cells (a8 (sumPre n g)) 204 (0, 0))]) (fun g => g ≤ 4) (fun g => 4 - g) 0 rfl rfl ?_ ?_
  · omega
  intro g j hg
  refine kv ?_
  have hpl := sumPre_len n g
  by_cases hlt : g < 4
  · first | with_reducible refine ks [] uWB_1 ?_ | refine kp uWB_1 ?_
    refine Again.mk (g + 1) (by omega) (by omega) ?_ rfl
    rw [sumPre_succ n g hlt]
  · obtain rfl : g = 4 := by omega
    first | with_reducible refine ks [] uWB_1 ?_ | refine kp uWB_1 ?_
    refine ⟨_, (ke uWB_1), ⟨hw1, hw2, trivial⟩, ?_⟩
    rw [List.drop_zero, List.take_of_length_le (by omega)]; rfl
/-- What was sealed. -/
def unsealV (s : List UInt8) : List UInt8 × Bool :=
  if s.length < 4 then ([], false) else if sealV (s.take (s.length - 4)) = s then (s.take (s.length - 4), true) else ([], false)
theorem sealV_len (s : List UInt8) : (sealV s).length = s.length + 4 := by unfold sealV sum4; rw [List.length_append, sumPre_len]
theorem cUnseal_spec (s : List UInt8) (w : World) (hG : GlobC w) (hs : s.length < 1099511627776) :
    Rets Tryz.prog 70 #[vs s] w (fun v D => v = .tuple #[vs (unsealV s).1, .bool (unsealV s).2] ∧ D = []) := by
  refine Rets.enterV Tryz.func70 rfl (rs := [.tmp 2, .tmp 3]) Tryz.results70 Tryz.ntmps70 ?_
  refine kf ?_
  first | with_reducible refine ks [] uWB_1 ?_ | refine kp uWB_1 ?_
  unfold unsealV
  by_cases h4 : s.length < 4
  · have e1 : decide ((s.length : Int) < 4) = true := decide_eq_true (by omega)
    rw [if_pos h4]
    first | with_reducible refine ks [] (And.intro uWB_1 @e1) ?_ | refine kp (And.intro uWB_1 @e1) ?_
    refine ⟨_, (ke uWB_1), trivial, ?_⟩
    rfl
  · have e1 : decide ((s.length : Int) < 4) = false := decide_eq_false (by omega)
    have e2 : ((s.length : Int) - 4).toNat = s.length - 4 := by omega
    rw [if_neg h4]
    first | with_reducible refine ks [] (And.intro uWB_1 ( And.intro @e1 (@e2))) ?_ | refine kp (And.intro uWB_1 ( And.intro @e1 (@e2))) ?_
    refine Ow.callFV rfl Tryz.call63 (fun w' hw' => cSeal_spec (s.take (s.length - 4)) w' (GlobC.of hG hw' (by simp [keys])) (by rw [List.length_take]; omega)) ?_
    refine ko uWB_1 ?_
    cases hq : (sealV (s.take (s.length - 4)) != s)
    · rw [if_pos (by simpa using hq)]
      first | with_reducible refine ks [] (And.intro uWB_1 ( And.intro @hq (@e2))) ?_ | refine kp (And.intro uWB_1 ( And.intro @hq (@e2))) ?_
      refine ⟨_, (ke uWB_1), trivial, ?_⟩
      rfl
    · rw [if_neg (by simpa using hq)]
      first | with_reducible refine ks [] (And.intro uWB_1 @hq) ?_ | refine kp (And.intro uWB_1 @hq) ?_
      refine ⟨_, (ke uWB_1), trivial, ?_⟩
      rfl
end Go.Proofs
end
section
open Go Go.Proofs Go.Sx Go.StP Go.Flo
namespace Go.Proofs
set_option maxRecDepth 10000
set_option maxHeartbeats 400000
set_option linter.unusedSimpArgs false
/-! ### A pack's bytes, written and read: plain laws -/
/-- How far ahead of a part its base lies. -/
def farV (i : Nat) (p : PartL) : Int := if p.d = true then (i : Int) - p.b else 0
def pieceB (i : Nat) (p : PartL) : List UInt8 := numL (clampN (farV i p)) ++ textL p.x
def partsB : Nat → List PartL → List UInt8
  | _, [] => []
  | i, p :: r => pieceB i p ++ partsB (i + 1) r
def magB : List UInt8 := [83, 80, 75, 49]
def packB (l : List PartL) : List UInt8 := magB ++ (numL (clampN (l.length : Int)) ++ partsB 0 l)
/-- One part, read. -/
def pieceR (s : List UInt8) (i a : Nat) (e : Int) : PartL × Nat × Int :=
  (⟨decide (0 < (numR s a e 200).1), if 0 < (numR s a e 200).1 then (i : Int) - (numR s a e 200).1 else 0, (textR s (numR s a e 200).2.1 (numR s a e 200).2.2 65536).1⟩, (textR s (numR s a e 200).2.1 (numR s a e 200).2.2 65536).2)
/-- So many parts, read: they, where each begins, where reading ended, the error. -/
def piecesR (s : List UInt8) : Nat → Nat → Nat → Int → List PartL × List Nat × Nat × Int
  | 0, _, a, e => ([], [], a, e)
  | k + 1, i, a, e => if (pieceR s i a e).2.2 = 0 then ((pieceR s i a e).1 :: (piecesR s k (i + 1) (pieceR s i a e).2.1 0).1, a :: (piecesR s k (i + 1) (pieceR s i a e).2.1 0).2.1, (piecesR s k (i + 1) (pieceR s i a e).2.1 0).2.2) else ([], [], (pieceR s i a e).2)
/-- The beginning: how many, whether it is one, where it ends, the error. -/
def headR (s : List UInt8) : Int × Bool × Nat × Int :=
  if (rawR s 0 0 4).1 = magB then ((numR s (rawR s 0 0 4).2.1 (rawR s 0 0 4).2.2 200).1, (numR s (rawR s 0 0 4).2.1 (rawR s 0 0 4).2.2 200).2.2 == 0, (numR s (rawR s 0 0 4).2.1 (rawR s 0 0 4).2.2 200).2) else (0, false, (rawR s 0 0 4).2)
def readP (s : List UInt8) : List PartL × List Nat × Nat × Int := piecesR s (headR s).1.toNat 0 (headR s).2.2.1 (headR s).2.2.2
/-- A pack, opened: parts, spots, ids, objects. -/
def openV (b : List UInt8) : Option (List PartL × List Nat × List IdL × List ObL) :=
  if (unsealV b).2 = true ∧ (headR (unsealV b).1).2.1 = true ∧ endE (unsealV b).1 (readP (unsealV b).1).2.2.1 (readP (unsealV b).1).2.2.2 = 0 then (fillV (readP (unsealV b).1).1).map fun q => ((readP (unsealV b).1).1, (readP (unsealV b).1).2.1, q) else none
def writeV (l : List PartL) : List UInt8 × Int := match fillV l with
  | some _ => (sealV (packB l), 0)
  | none => ([], 1)
instance : DecidableEq ObL := fun a b => if h : a.k = b.k ∧ a.t = b.t then .isTrue (by cases a; cases b; simp only at h; obtain ⟨rfl, rfl⟩ := h; rfl) else .isFalse (fun e => h (by rw [e]; exact ⟨rfl, rfl⟩))
/-- The objects that can be saved of some first parts. -/
def saveGo (l : List PartL) : Nat → List ObL
  | 0 => []
  | k + 1 => match partV l (k : Nat) with
    | .ok s => if frOk s = true ∧ readV s ∉ saveGo l k then saveGo l k ++ [readV s] else saveGo l k
    | .error _ => saveGo l k
def saveV (b : List UInt8) : List ObL := if (headR b).2.1 = true then saveGo (readP b).1 (readP b).1.length else []
/-! ### What was written is read -/
/-- A part that can be written and read at its place. -/
def PartOk (i : Nat) (p : PartL) : Prop := (if p.d = true then 0 ≤ p.b ∧ p.b < i ∧ (i : Int) ≤ 200 else p.b = 0) ∧ p.x.length ≤ 65536
def PartsOk : Nat → List PartL → Prop
  | _, [] => True
  | i, p :: r => PartOk i p ∧ PartsOk (i + 1) r
theorem farV_ok {i : Nat} {p : PartL} (h : PartOk i p) : ∃ n : Nat, farV i p = n ∧ n ≤ 200 ∧ (0 < n ↔ p.d = true) := by
  unfold PartOk at h
  unfold farV
  by_cases hd : p.d = true
  · rw [if_pos hd] at h ⊢
    exact ⟨((i : Int) - p.b).toNat, by omega, by omega, ⟨fun _ => hd, fun _ => by omega⟩⟩
  · rw [if_neg hd]
    exact ⟨0, rfl, by omega, ⟨fun h => by omega, fun h => absurd h hd⟩⟩
theorem part_eq {i n : Nat} {p : PartL} (h : PartOk i p) (hf : farV i p = n) (hn : 0 < n ↔ p.d = true) : (⟨decide (0 < (n : Int)), if 0 < (n : Int) then (i : Int) - (n : Int) else 0, p.x⟩ : PartL) = p := by
  obtain ⟨d, b, x⟩ := p
  unfold PartOk at h
  unfold farV at hf
  simp only at h hf hn ⊢
  cases d
  · rw [if_neg (by simp)] at h hf
    have : ¬ 0 < (n : Int) := by omega
    rw [if_neg this, decide_eq_false this, h.1]
  · rw [if_pos rfl] at h hf
    have : 0 < (n : Int) := by have := hn.2 rfl; omega
    rw [if_pos this, decide_eq_true this]
    congr 1
    omega
theorem pieceR_app (A r : List UInt8) {i : Nat} {p : PartL} (h : PartOk i p) : pieceR (A ++ (pieceB i p ++ r)) i A.length 0 = (p, A.length + (pieceB i p).length, 0) := by
  obtain ⟨n, hf, hn, hd⟩ := farV_ok h
  have hx := h.2
  have h1 := numR_appE A (textL p.x ++ r) n 200 (by omega) (by omega)
  have h2 := textR_appE (A ++ numL n) p.x r 65536 (by omega) (by omega)
  rw [List.append_assoc, List.length_append] at h2
  unfold pieceR pieceB
  rw [hf, clampN_idE (by omega), List.append_assoc, h1]
  simp only
  rw [h2, part_eq h hf hd, List.length_append, Nat.add_assoc]
/-- Where each part begins. -/
def spotsG : Nat → Nat → List PartL → List Nat
  | _, _, [] => []
  | i, a, p :: r => a :: spotsG (i + 1) (a + (pieceB i p).length) r
theorem piecesR_app (r : List UInt8) : ∀ (l : List PartL) (A : List UInt8) (i : Nat), PartsOk i l → piecesR (A ++ (partsB i l ++ r)) l.length i A.length 0 = (l, spotsG i A.length l, A.length + (partsB i l).length, 0)
  | [], A, i, _ => by simp [piecesR, partsB, spotsG]
  | p :: l, A, i, h => by
    have h1 := pieceR_app A (partsB (i + 1) l ++ r) h.1
    have h2 := piecesR_app r l (A ++ pieceB i p) (i + 1) h.2
    rw [List.append_assoc, List.length_append] at h2
    unfold partsB
    rw [List.length_cons, List.append_assoc]
    unfold piecesR
    rw [h1]
    simp only [↓reduceIte]
    rw [h2]
    simp only [spotsG, List.length_append, Nat.add_assoc]
theorem numL_200 {n : Nat} (h : n ≤ 200) : clampN (n : Int) = n := clampN_idE (by omega)
theorem headR_app (x : List UInt8) {n : Nat} (h : n ≤ 200) : headR (magB ++ (numL n ++ x)) = ((n : Int), true, 4 + (numL n).length, 0) := by
  have h0 := rawR_appE [] magB (numL n ++ x)
  have h1 := numR_appE magB x n 200 (by omega) (by omega)
  simp only [List.nil_append, List.length_nil, Nat.zero_add] at h0
  have e4 : magB.length = 4 := rfl
  rw [e4] at h0 h1
  unfold headR
  rw [show ((4 : Nat) : Int) = 4 from rfl] at h0
  rw [h0]
  simp only [↓reduceIte]
  rw [h1]
  rfl
/-- What was written is read, whatever stands behind it. -/
theorem readP_app {l : List PartL} (h : PartsOk 0 l) (hl : l.length ≤ 200) (r : List UInt8) : headR (packB l ++ r) = ((l.length : Int), true, 4 + (numL l.length).length, 0) ∧
    readP (packB l ++ r) = (l, spotsG 0 (4 + (numL l.length).length) l, (packB l).length, 0) := by
  have e : packB l ++ r = magB ++ (numL l.length ++ (partsB 0 l ++ r)) := by unfold packB; rw [numL_200 hl, List.append_assoc, List.append_assoc]
  have hh := headR_app (partsB 0 l ++ r) hl
  have hp := piecesR_app r l (magB ++ numL l.length) 0 h
  rw [List.append_assoc, List.length_append, show magB.length = 4 from rfl] at hp
  refine ⟨by rw [e]; exact hh, ?_⟩
  unfold readP
  rw [e, hh]
  simp only [Int.toNat_natCast]
  rw [hp]
  unfold packB
  rw [numL_200 hl]
  simp only [List.length_append, show magB.length = 4 from rfl, Nat.add_assoc]
theorem unsealV_seal (s : List UInt8) : unsealV (sealV s) = (s, true) := by
  have hl := sealV_len s
  have ht : (sealV s).take ((sealV s).length - 4) = s := by rw [hl, Nat.add_sub_cancel]; unfold sealV; rw [List.take_left]
  unfold unsealV
  rw [if_neg (by omega), ht, if_pos rfl]
theorem endE_at (s : List UInt8) : endE s s.length 0 = 0 := by unfold endE; rw [if_neg (by simp), if_neg (by omega)]
/-- What may be in a pack can be written. -/
theorem partsOk_of {l : List PartL} {ts : List (List UInt8)} (h : allV l = .ok ts) (hx : ∀ p, p ∈ l → p.x.length ≤ 65536) : PartsOk 0 l ∧ l.length ≤ 200 := by
  unfold allV at h
  split at h
  · cases h
  · rename_i h2
    refine ⟨?_, by omega⟩
    have hkk : ∀ k, k < l.length → PartOk k (l.getD k part0) := by
      intro k hk
      have hp := allGo_at _ _ h k hk
      unfold partV at hp
      refine ⟨?_, hx _ (getD_mem hk)⟩
      cases hq : pathV l (k : Nat) with
      | error e => rw [hq] at hp; cases hp
      | ok p =>
        rcases pathV_cons hk hq with ⟨-, hd, hb⟩ | ⟨b, q, -, hd, hb, hlt, -⟩
        · rw [if_neg (by rw [hd]; decide), hb]
        · rw [if_pos hd, hb]; omega
    have go : ∀ (m : List PartL) (i : Nat), (∀ k, k < m.length → PartOk (i + k) (m.getD k part0)) → PartsOk i m := by
      intro m
      induction m with
      | nil => intro i _; trivial
      | cons p r ih =>
        intro i hm
        refine ⟨by simpa using hm 0 (by simp), ih (i + 1) fun k hk => ?_⟩
        have := hm (k + 1) (by simp; omega)
        rw [List.getD_cons_succ, show i + (k + 1) = i + 1 + k by omega] at this
        exact this
    exact go l 0 fun k hk => by rw [Nat.zero_add]; exact hkk k hk
end Go.Proofs
end
section
open Go Go.Proofs Go.Sx Go.StP Go.Flo
namespace Go.Proofs
set_option maxRecDepth 10000
set_option maxHeartbeats 400000
set_option linter.unusedSimpArgs false
/-! ### What is read was written so; there and back -/
theorem piecesR_len {s : List UInt8} : ∀ (k i a : Nat) (e : Int), (piecesR s k i a e).1.length ≤ k ∧ (piecesR s k i a e).2.1.length = (piecesR s k i a e).1.length
  | 0, i, a, e => ⟨Nat.le_refl _, rfl⟩
  | k + 1, i, a, e => by
    have := piecesR_len (s := s) k (i + 1) (pieceR s i a e).2.1 0
    unfold piecesR
    split
    · simp only [List.length_cons]; omega
    · simp
theorem partsOk_len {l : List PartL} {q : List IdL × List ObL} (h : fillV l = some q) (hx : ∀ p, p ∈ l → p.x.length ≤ 65536) : PartsOk 0 l ∧ l.length ≤ 200 := by
  unfold fillV at h
  cases ha : allV l with
  | error e => rw [ha] at h; cases h
  | ok ts => exact partsOk_of ha hx
/-- What was written is opened as it was. -/
theorem open_write {l : List PartL} {q : List IdL × List ObL} (h : fillV l = some q) (hx : ∀ p, p ∈ l → p.x.length ≤ 65536) : openV (sealV (packB l)) = some (l, spotsG 0 (4 + (numL l.length).length) l, q) := by
  obtain ⟨h1, h2⟩ := partsOk_len h hx
  obtain ⟨hh, hr⟩ := readP_app h1 h2 []
  rw [List.append_nil] at hh hr
  unfold openV
  rw [unsealV_seal]
  simp only [hh, hr, endE_at, and_self, ↓reduceIte, h, Option.map_some]
end Go.Proofs
end
section
open Go Go.Proofs Go.Sx Go.StP Go.Flo
namespace Go.Proofs
set_option maxRecDepth 10000
set_option maxHeartbeats 400000
set_option linter.unusedSimpArgs false
/-! ### A pack's reader -/
def prO (v0 v1 v2 : Value) : Obj := .cells #[v0, v1, v2] 137 (0, 0)
def wrO (s : List UInt8) (a : Nat) (e : Int) : Obj := .cells #[vs s, vi a, vi e] 212 (0, 0)
theorem load_pr0 (v0 v1 v2 : Value) (n : Nat) : loadV (some (false, n)) (some (prO v0 v1 v2)) 0 = some v0 := (rfl)
theorem load_pr1 (v0 v1 v2 : Value) (n : Nat) : loadV (some (false, n)) (some (prO v0 v1 v2)) 1 = some v1 := (rfl)
theorem load_pr2 (v0 v1 v2 : Value) (n : Nat) : loadV (some (false, n)) (some (prO v0 v1 v2)) 2 = some v2 := (rfl)
theorem store_pr1 (v0 v1 v2 q : Value) (a : Bool) (hq : Value.oneCell' q = true ∧ q.cells = #[q]) : storeV (some (a, 1)) (some (prO v0 v1 v2)) 1 q = some (prO v0 q v2) :=
  store_mid [v0] [v1] [q] [v2] a _ 137 rfl rfl hq.2 rfl (by simp [hq.1])
theorem store_pr2 (v0 v1 v2 q : Value) (a : Bool) (hq : Value.oneCell' q = true ∧ q.cells = #[q]) : storeV (some (a, 1)) (some (prO v0 v1 v2)) 2 q = some (prO v0 v1 q) :=
  store_mid [v0, v1] [v2] [q] [] a _ 137 rfl rfl hq.2 rfl (by simp [hq.1])
theorem store_partd (p : PartL) (E : TypeId) (a : Bool) (x : Bool) : storeV (some (a, 1)) (some (.cells (partC p).toArray E (0, 0))) 0 (.bool x) = some (.cells (partC ⟨x, p.b, p.x⟩).toArray E (0, 0)) := (rfl)
theorem store_partb (p : PartL) (E : TypeId) (a : Bool) (x : Int) : storeV (some (a, 1)) (some (.cells (partC p).toArray E (0, 0))) 1 (vi x) = some (.cells (partC ⟨p.d, x, p.x⟩).toArray E (0, 0)) := (rfl)
theorem load_partw (p : PartL) (E : TypeId) : loadV (some (true, 3)) (some (.cells (partC p).toArray E (0, 0))) 0 = some (.agg (partC p).toArray) := load_agg (n := 3) [] (partC p) [] E (0, 0) rfl rfl
theorem build_part2 (t : List UInt8) : buildV (plcT Tryz.prog 114) (zeroV Tryz.prog 114) [(2, vs t)] = some (.agg (partC ⟨false, 0, t⟩).toArray) := by
  rw [show plcT Tryz.prog 114 = some [(0, 1), (1, 1), (2, 1)] from id (by kernel_rfl), zrPart]; rfl
theorem prs_has {w : World} {a b : Nat} {x y : Obj} (h : w.heap[a]? = some x) (h' : w.heap[b]? = some y) : ∀ p : Nat × Obj, p ∈ [(a, x), (b, y)] → w.heap[p.1]? = some p.2 := by
  intro p hp
  simp only [List.mem_cons, List.not_mem_nil, or_false] at hp
  rcases hp with rfl | rfl <;> assumption
theorem RRaw_specW (b : Nat) (s : List UInt8) (a : Nat) (e n : Int) (w : World) (ha : a ≤ s.length) (hs : s.length < 9223372036854775808) (ho : w.heap[b]? = some (wrO s a e)) :
    Rets Tryz.prog 94 #[vp b 0, vi n] w (fun v D => ∃ o, D = [(b, o)] ∧ v = vs (rawR s a e n).1 ∧ o = wrO s (rawR s a e n).2.1 (rawR s a e n).2.2) := RRaw_spec b s a e n w ha hs ho
theorem RNumber_specW (b : Nat) (s : List UInt8) (a : Nat) (e most : Int) (w : World) (ha : a ≤ s.length) (hs : s.length < 9223372036854775808) (ho : w.heap[b]? = some (wrO s a e)) :
    Rets Tryz.prog 95 #[vp b 0, vi most] w (fun v D => ∃ o, D = [(b, o)] ∧ v = vi (numR s a e most).1 ∧ o = wrO s (numR s a e most).2.1 (numR s a e most).2.2) := RNumber_spec b s a e most w ha hs ho
theorem RText_specW (b : Nat) (s : List UInt8) (a : Nat) (e most : Int) (w : World) (ha : a ≤ s.length) (hs : s.length < 9223372036854775808) (ho : w.heap[b]? = some (wrO s a e)) :
    Rets Tryz.prog 96 #[vp b 0, vi most] w (fun v D => ∃ o, D = [(b, o)] ∧ v = vs (textR s a e most).1 ∧ o = wrO s (textR s a e most).2.1 (textR s a e most).2.2) := RText_spec b s a e most w ha hs ho
theorem ext_two {w : World} {a b : Nat} {x x' y y' : Obj} {D : Heap} (h : New w.heap.size D) : Ext w [(a, x), (b, y)] ((a, x') :: (b, y') :: D) := ⟨fun c hc => by
  simp only [keys, List.map_cons, List.mem_cons, List.map_nil, List.not_mem_nil, or_false] at hc ⊢
  rcases hc with h' | h' | h'
  · exact .inl (.inl h')
  · exact .inl (.inr h')
  · exact .inr (h.le c h'), fun c hc => by
  simp only [keys, List.map_cons, List.mem_cons, List.map_nil, List.not_mem_nil, or_false] at hc ⊢
  rcases hc with h' | h'
  · exact .inl h'
  · exact .inr (.inl h')⟩
set_option linter.defProp false
def uKM_1 := And.intro (And.intro (And.intro (@rdIn_v8) (And.intro (@rdIn_vi) (@load_pr0))) (And.intro (And.intro (@load_pr1) (@load_pr2)) (And.intro (@Sx.tup2_0) (@Sx.tup2_1)))) (And.intro (And.intro (And.intro (@load_part0) (@load_part1)) (And.intro (@load_part2) (@load_partw))) (And.intro (And.intro (@cells_part) (@store_part)) (And.intro (@store_partd) (@store_partb))))
theorem head_spec (br bw : Nat) (s : List UInt8) (v1 v2 : Value) (w : World) (hs : s.length < 9223372036854775808) (hne : br ≠ bw) (ho : w.heap[br]? = some (prO (vp bw 0) v1 v2)) (hr : w.heap[bw]? = some (wrO s 0 0)) :
    Rets Tryz.prog 72 #[vp br 0] w (XS w [(br, prO (vp bw 0) v1 v2), (bw, wrO s 0 0)] (fun v D => v = .tuple #[vi (headR s).1, .bool (headR s).2.1] ∧ D = [(br, prO (vp bw 0) v1 v2), (bw, wrO s (headR s).2.2.1 (headR s).2.2.2)])) := by
  refine Rets.enterX Tryz.func72 rfl (rs := [.tmp 2, .tmp 3]) Tryz.results72 Tryz.ntmps72 (prs_has ho hr) (by simp [keys, hne]) ?_
  refine kf ?_
  first | with_reducible refine ks [] @uKM_1 ?_ | refine kp @uKM_1 ?_
  refine Ow.callM rfl rfl Tryz.call94 (by simp [keys]) (fun w' hw' => RRaw_specW bw s 0 0 4 w' (Nat.zero_le _) hs (hw'.has _ _ (List.mem_cons_of_mem _ List.mem_cons_self))) ?_
  have r1 := rawR_le (s := s) (a := 0) (e := 0) (n := 4) (Nat.zero_le _)
  unfold headR
  generalize rawR s 0 0 4 = p at *
  obtain ⟨x, a1, e1⟩ := p
  simp only at r1 ⊢
  refine kn ?_
  by_cases hm : x = magB
  · have d1 : (x != magB) = false := by rw [hm]; exact bne_self_eq_false _
    unfold magB at d1
    rw [if_pos hm]
    refine ko (And.intro @uKM_1 @d1) ?_
    first | with_reducible refine ks [] (And.intro @uKM_1 @d1) ?_ | refine kp (And.intro @uKM_1 @d1) ?_
    refine Ow.callM rfl rfl Tryz.call95 (by simp [keys]) (fun w' hw' => RNumber_specW bw s a1 e1 200 w' r1.2 hs (hw'.has _ _ (List.mem_cons_of_mem _ List.mem_cons_self))) ?_
    generalize numR s a1 e1 200 = q at *
    obtain ⟨n, a2, e2⟩ := q
    simp only
    refine kn ?_
    refine ko @uKM_1 ?_
    first | with_reducible refine ks [] @uKM_1 ?_ | refine kp @uKM_1 ?_
    refine Ow.callFV rfl Tryz.call137 (fun w' hw' => RErr_spec bw s a2 e2 w' (hw'.has _ _ (List.mem_cons_of_mem _ List.mem_cons_self))) ?_
    refine ko @uKM_1 ?_
    first | with_reducible refine ks [] @uKM_1 ?_ | refine kp @uKM_1 ?_
    refine ⟨_, (ke @uKM_1), ?_⟩
    exact ⟨ext_two trivial, rfl, rfl⟩
  · have d1 : (x != magB) = true := bne_iff_ne.2 hm
    unfold magB at d1
    rw [if_neg hm]
    refine ko (And.intro @uKM_1 @d1) ?_
    first | with_reducible refine ks [] (And.intro @uKM_1 @d1) ?_ | refine kp (And.intro @uKM_1 @d1) ?_
    refine ⟨_, (ke @uKM_1), ?_⟩
    exact ⟨ext_two trivial, rfl, rfl⟩
structure RdG where
  lab : Nat
  l : List PartL
  sp : List Nat
  a : Nat
  e : Int
  v1 : Value
  v2 : Value
  b4 : Nat
  q : PartL
  D1 : Heap
  D2 : Heap
  DG : Heap
def RdJ (s : List UInt8) (n a0 : Nat) (e0 : Int) (sz : Nat) (g : RdG) : Prop :=
  sz ≤ g.b4 ∧ New sz g.D1 ∧ New sz g.D2 ∧ New sz g.DG ∧ Gr g.D1 114 3 g.v1 g.l.length (g.l.map partC).flatten ∧ Gr g.D2 3 1 g.v2 g.sp.length (g.sp.map natC).flatten ∧ g.sp.length = g.l.length ∧ g.a ≤ s.length ∧ g.l.length ≤ n ∧
    ((g.lab = 1 ∧ piecesR s n 0 a0 e0 = (g.l ++ (piecesR s (n - g.l.length) g.l.length g.a g.e).1, g.sp ++ (piecesR s (n - g.l.length) g.l.length g.a g.e).2.1, (piecesR s (n - g.l.length) g.l.length g.a g.e).2.2)) ∨
     (g.lab = 0 ∧ piecesR s n 0 a0 e0 = (g.l, g.sp, g.a, g.e)))
def RdL (g : RdG) : Nat := match g.lab with
  | 1 => 1
  | _ => 0
def RdH (br bw : Nat) (s : List UInt8) (g : RdG) : Heap := (br, prO (vp bw 0) g.v1 g.v2) :: (bw, wrO s g.a g.e) :: (g.b4, .cells (partC g.q).toArray 114 (0, 0)) :: (g.D1 ++ (g.D2 ++ g.DG))
/-- What a reader of parts leaves. -/
def ReadS (s : List UInt8) (n a0 : Nat) (e0 : Int) (br bw : Nat) (v : Value) (D : Heap) : Prop :=
  v = .tuple #[] ∧ ∃ v1 v2 D', D = (br, prO (vp bw 0) v1 v2) :: (bw, wrO s (piecesR s n 0 a0 e0).2.2.1 (piecesR s n 0 a0 e0).2.2.2) :: D' ∧
    GrI D' 114 3 v1 (piecesR s n 0 a0 e0).1.length ((piecesR s n 0 a0 e0).1.map partC).flatten ∧ GrI D' 3 1 v2 (piecesR s n 0 a0 e0).2.1.length ((piecesR s n 0 a0 e0).2.1.map natC).flatten
theorem read_spec (br bw : Nat) (s : List UInt8) (n a0 : Nat) (e0 : Int) (w : World) (hs : s.length < 9223372036854775808) (hn : n ≤ 1000000) (ha : a0 ≤ s.length) (hne : br ≠ bw) (ho : w.heap[br]? = some (prO (vp bw 0) (.slice none 0 0) (.slice none 0 0))) (hr : w.heap[bw]? = some (wrO s a0 e0)) :
    Rets Tryz.prog 73 #[vp br 0, vi n] w (XS w [(br, prO (vp bw 0) (.slice none 0 0) (.slice none 0 0)), (bw, wrO s a0 e0)] (ReadS s n a0 e0 br bw)) := by
  have hbr : br < w.heap.size := (Array.getElem?_eq_some_iff.1 ho).1
  have hbw : bw < w.heap.size := (Array.getElem?_eq_some_iff.1 hr).1
  refine Rets.enterX Tryz.func73 rfl (rs := []) Tryz.results73 Tryz.ntmps73 (prs_has ho hr) (by simp [keys, hne]) ?_
  refine kf ?_
  first | with_reducible refine ks [] @uKM_1 ?_ | refine kp @uKM_1 ?_
  refine Cw.scopeL (G := RdG) (fun g => RdL g) [4, 5, 6, 7, 8, 9, 10, 11, 12, 13, 14, 15, 16, 17, 18, 19, 20, 21, 22, 23, 24, 25, 26, 27, 28, 29, 30, 31, 32, 33, 34, 35, 36, 37, 38, 39, 40, 41, 42, 43, 44, 45, 46, 47, 48, 49, 50, 51, 52, 53, 54, 55, 56, 57, 58, 59, 60, 61, 62, 63, 64, 65, 66] (fun g => [(4, vp g.b4 0)]) (fun g => RdH br bw s g) (fun g => RdJ s n a0 e0 w.heap.size g) (fun g => (if g.lab = 1 then n - g.l.length + 1 else 0)) ?_ ?_ ?_
  · intro g
    unfold RdL
    split <;> rfl
  · intro g j hg
    obtain ⟨lab, l, sp, a, e, v1, v2, b4, q, D1, D2, DG⟩ := g
    obtain ⟨hw4, hN1, hN2, hNG, hG1, hG2, hsl, hal, hln, hg⟩ := hg
    simp only at hw4 hN1 hN2 hNG hG1 hG2 hsl hal hln
    have hNr : New w.heap.size (D1 ++ (D2 ++ DG)) := hN1.app (hN2.app hNG)
    have l1 := hG1.len
    rcases hg with hg | hg
    · obtain ⟨hlab, hpr⟩ := hg
      simp only at hlab
      subst hlab
      simp only [RdL, RdH] at hpr ⊢
      by_cases hlen : l.length = n
      · have d1 : ((l.length : Int) == (n : Int)) = true := by rw [hlen]; exact beq_self_eq_true _
        simp only [contP, hasL, Bool.or_false, Bool.false_or, Bool.or_true, Bool.true_or, Nat.reduceBEq, beq_self_eq_true, ↓reduceIte, Bool.false_eq_true]
        refine kv ?_
        try with_reducible refine thenK_normal ?_
        first | with_reducible refine ks [] (And.intro @uKM_1 ( And.intro @l1 (@d1))) ?_ | refine kp (And.intro @uKM_1 ( And.intro @l1 (@d1))) ?_
        refine Jump.mk ⟨0, l, sp, a, e, v1, v2, b4, q, D1, D2, DG⟩ rfl (by show 0 < n - l.length + 1; omega) ⟨hw4, hN1, hN2, hNG, hG1, hG2, hsl, hal, hln, .inr ⟨rfl, ?_⟩⟩ rfl rfl
        rw [hpr, hlen, Nat.sub_self]
        simp [piecesR]
      · have d1 : ((l.length : Int) == (n : Int)) = false := beq_eq_false_iff_ne.2 (by omega)
        simp only [contP, hasL, Bool.or_false, Bool.false_or, Bool.or_true, Bool.true_or, Nat.reduceBEq, beq_self_eq_true, ↓reduceIte, Bool.false_eq_true]
        refine kv ?_
        try with_reducible refine thenK_normal ?_
        first | with_reducible refine ks [1000007, 9] (And.intro @uKM_1 ( And.intro @l1 (@d1))) ?_ | refine kp (And.intro @uKM_1 ( And.intro @l1 (@d1))) ?_
        refine Ow.callFV rfl Tryz.call138 (fun w' hw' => RAt_spec bw s a e w' (hw'.has _ _ (List.mem_cons_of_mem _ List.mem_cons_self))) ?_
        refine ko @uKM_1 ?_
        first | with_reducible refine ks [] @uKM_1 ?_ | refine kp @uKM_1 ?_
        have hle1 := numR_le (s := s) (a := a) (e := e) (most := 200) hal
        have hm1 := numR_mostE (s := s) (a := a) (e := e) (most := 200) (by omega)
        refine Ow.callM rfl rfl Tryz.call95 (by simp [keys]) (fun w' hw' => RNumber_specW bw s a e 200 w' hal hs (hw'.has _ _ (List.mem_cons_of_mem _ List.mem_cons_self))) ?_
        have hk : n - l.length = (n - (l.length + 1)) + 1 := by omega
        rw [hk] at hpr
        have hpc : pieceR s l.length a e = (⟨decide (0 < (numR s a e 200).1), if 0 < (numR s a e 200).1 then ((l.length : Nat) : Int) - (numR s a e 200).1 else 0, (textR s (numR s a e 200).2.1 (numR s a e 200).2.2 65536).1⟩, (textR s (numR s a e 200).2.1 (numR s a e 200).2.2 65536).2) := rfl
        generalize numR s a e 200 = x at *
        obtain ⟨F, a1, e1⟩ := x
        simp only at hle1 hm1 hpc ⊢
        have hle2 := textE_le (s := s) (a := a1) (e := e1) (most := 65536) hle1.2
        refine kn ?_
        refine ko @uKM_1 ?_
        first | with_reducible refine ks [] @uKM_1 ?_ | refine kp @uKM_1 ?_
        refine Ow.callM rfl rfl Tryz.call96 (by simp [keys]) (fun w' hw' => RText_specW bw s a1 e1 65536 w' hle1.2 hs (hw'.has _ _ (List.mem_cons_of_mem _ List.mem_cons_self))) ?_
        generalize textR s a1 e1 65536 = x at *
        obtain ⟨t, a2, e2⟩ := x
        simp only at hle2 hpc ⊢
        refine kn ?_
        refine ko @uKM_1 ?_
        refine Ow.build (.agg (partC ⟨false, 0, t⟩).toArray) rfl (build_part2 t) ?_
        have hst := store_part ⟨false, 0, t⟩ q 114
        have hb4r : b4 ≠ br := by omega
        have hb4w : b4 ≠ bw := by omega
        refine ko (And.intro @uKM_1 @hst) ?_
        first | with_reducible refine ks [] @uKM_1 ?_ | refine kp @uKM_1 ?_
        refine Ow.callFV rfl Tryz.call137 (fun w' hw' => RErr_spec bw s a2 e2 w' (hw'.has _ _ (List.mem_cons_of_mem _ List.mem_cons_self))) ?_
        rw [piecesR, hpc] at hpr
        simp only at hpr
        by_cases he : e2 = 0
        · subst he
          rw [if_pos rfl] at hpr
          have d2 : ((0 : Int) != 0) = false := rfl
          refine ko (And.intro @uKM_1 @d2) ?_
          obtain ⟨p, hp⟩ : ∃ p, p = (⟨decide (0 < F), if 0 < F then ((l.length : Nat) : Int) - F else 0, t⟩ : PartL) := ⟨_, rfl⟩
          rw [← hp] at hpr
          refine Cw.cut (G := PartL) 67 (fun g => [(0, vp br 0), (1, vi n), (2, undef), (3, undef), (4, vp b4 0), (6, vi a)]) (fun g => (b4, .cells (partC g).toArray 114 (0, 0)) :: (br, prO (vp bw 0) v1 v2) :: (bw, wrO s a2 0) :: (D1 ++ (D2 ++ DG))) (fun g => g = p) ?_ ?_
          · refine Cw.permL (M := (b4, .cells (partC ⟨false, 0, t⟩).toArray 114 (0, 0)) :: (br, prO (vp bw 0) v1 v2) :: (bw, wrO s a2 0) :: (D1 ++ (D2 ++ DG))) (by classical exact List.perm_iff_count.2 fun a => by simp only [List.count_append, List.count_cons, List.count_nil] <;> omega) ?_
            by_cases hF : 0 < F
            · have d3 : decide ((0 : Int) < F) = true := decide_eq_true hF
              first | with_reducible refine ks [] (And.intro @uKM_1 @d3) ?_ | refine kp (And.intro @uKM_1 @d3) ?_
              refine Cw.regionG [br] [10] 11 (by kernel_rfl) rfl ?_
              simp only [List.replicate_succ, List.replicate_zero]
              refine OwG.run [0, 1, 2, 3, 4, 5, 6, 7] [true, true, true, true, true, true, true, true, false, false, false] 3 rfl (by kernel_rfl) (by kernel_rfl) fun k hk => ?_
              simp only [nl_cons, ↓pickL_nil, ↓pickL_cons, ↓nthO_0, ↓nthO_s, consO_some]
              simp (disch := (first | assumption | omega | (simp only [lenS, lenT, UInt64.reduceToNat]; try omega))) only [↓Sx.S0, Sx.S1, Tryz.fx, uKM_1, Nat.reduceAdd, Nat.reducePow, Int.reducePow, Nat.reduceBEq, ↓reduceIte, UInt8.reduceToNat, UInt16.reduceToNat, UInt32.reduceToNat, UInt64.reduceToNat, Int.reduceToNat, Md.next_sofnil, l1]
              (with_reducible refine hk _ _ _ ?_); clear hk k
              refine OwG.one 8 _ (by kernel_rfl) rfl ?_
              refine ko @uKM_1 ?_
              refine ⟨(fun r hr => by rw [List.mem_singleton] at hr; subst hr; simp (disch := omega) only [read_same, read_other]), ?_⟩
              refine OwG.rest [9, 10] rfl (by kernel_rfl) (by kernel_rfl) ?_
              simp only [nl_cons, ↓pickL_nil, ↓pickL_cons, ↓nthO_0, ↓nthO_s, consO_some]
              refine kq @uKM_1 ?_
              refine Ow.store rfl rfl rfl (ke @uKM_1) ?_
              refine ko @uKM_1 ?_
              refine CutM.mk _ ?_ rfl rfl
              rw [hp, decide_eq_true hF, if_pos hF]
            · have d3 : decide ((0 : Int) < F) = false := decide_eq_false hF
              first | with_reducible refine ks [] (And.intro @uKM_1 @d3) ?_ | refine kp (And.intro @uKM_1 @d3) ?_
              refine CutM.mk _ ?_ rfl rfl
              rw [hp, decide_eq_false hF, if_neg hF]
          · intro g j hg
            simp only [allF_s, allF_0, pin, setF_0, setF_s, Nat.reduceAdd]
            subst hg
            clear hp
            generalize hpp : g = p at *
            obtain ⟨O4, hO4⟩ : ∃ O, O = Obj.cells (partC p).toArray 114 (0, 0) := ⟨_, rfl⟩
            first | with_reducible refine ks [] @uKM_1 ?_ | refine kp @uKM_1 ?_
            refine Cw.regionG [br, b4] [18, 21] 22 (by kernel_rfl) rfl ?_
            simp only [List.replicate_succ, List.replicate_zero]
            refine OwG.run [0, 1, 2, 3, 4, 5, 6, 9, 10, 11, 12, 13] [true, true, true, true, true, true, true, false, false, true, true, true, true, true, false, false, false, false, false, false, false, false] 10 rfl (by kernel_rfl) (by kernel_rfl) fun k hk => ?_
            simp only [nl_cons, ↓pickL_nil, ↓pickL_cons, ↓nthO_0, ↓nthO_s, consO_some]
            simp (disch := (first | assumption | omega | (simp only [lenS, lenT, UInt64.reduceToNat]; try omega))) only [↓Sx.S0, Sx.S1, Tryz.fx, uKM_1, Nat.reduceAdd, Nat.reducePow, Int.reducePow, Nat.reduceBEq, ↓reduceIte, UInt8.reduceToNat, UInt16.reduceToNat, UInt32.reduceToNat, UInt64.reduceToNat, Int.reduceToNat, Md.next_sofnil, Md.next_sofnil]
            (with_reducible refine hk _ _ _ ?_); clear hk k
            rw [← hO4]
            refine OwG.two 7 14 _ _ (by kernel_rfl) rfl rfl ?_ ?_
            · refine Ow.buildSlice (e := 114) (partC p).toArray rfl rfl (slice_one (cs := partC p) Tryz.underlying22 Tryz.ag114 zrPart (by decide) rfl) fun ba hba hwa => ?_
              with_reducible refine Ow.nil ?_
              refine ⟨readB_appR (by simp [keys]), ?_⟩
              simp only [List.set_cons_zero, List.set_cons_succ, putF_some, setF_0, setF_s]
              refine OwG.two 8 14 _ _ (by kernel_rfl) rfl rfl ?_ ?_
              · refine Ow.permL (M := D1 ++ ((b4, O4) :: (br, prO (vp bw 0) v1 v2) :: (bw, wrO s a2 0) :: (D2 ++ (DG ++ [(ba, .cells (partC p).toArray 114 (0, 0))])))) (by classical exact List.perm_iff_count.2 fun a => by simp only [List.count_append, List.count_cons, List.count_nil] <;> omega) ?_
                refine Ow.appendXG (e := 114) (k := 1) (new := partC p) (X := D1) v1 rfl rfl rfl rfl Tryz.underlying22 Tryz.ag114 (by kernel_rfl) zrPart (by rw [cells_part]; rfl) Tryz.underlying22 (by intro k h; cases h) hG1 (fun w' hw' => AppX.one1 (hw'.has ba (.cells (partC p).toArray 114 (0, 0)) (by simp)) (partC_len _) (partC_one _)) (by omega) (fun B4 v4 D4 hA4 hB4 hG4 hk41 hk42 hlk4 => ?_)
                have hN4 : New w.heap.size D4 := New.of_le fun q hq => by
                  rcases hk42 q hq with h | h
                  · exact hN1.le q h
                  · omega
                refine Ow.permL (M := (b4, O4) :: (br, prO (vp bw 0) v1 v2) :: (bw, wrO s a2 0) :: (D4 ++ (D2 ++ (DG ++ [(ba, .cells (partC p).toArray 114 (0, 0))])))) (by classical exact List.perm_iff_count.2 fun a => by simp only [List.count_append, List.count_cons, List.count_nil] <;> omega) ?_
                with_reducible refine Ow.nil ?_
                refine ⟨(fun r hr => by simp only [List.mem_cons, List.not_mem_nil, or_false] at hr; rcases hr with rfl | rfl <;> simp (disch := omega) only [List.cons_append, List.nil_append, read_same, read_other]), ?_⟩
                simp only [List.set_cons_zero, List.set_cons_succ, putF_some, setF_0, setF_s]
                refine OwG.one 14 _ (by kernel_rfl) rfl ?_
                refine Ow.buildSlice (e := 3) #[vi a] rfl rfl (by kernel_rfl) fun bc hbc hwc => ?_
                with_reducible refine Ow.nil ?_
                refine ⟨readB_appR (by simp [keys]), ?_⟩
                simp only [List.set_cons_zero, List.set_cons_succ, putF_some, setF_0, setF_s]
                refine OwG.permL (M := (b4, O4) :: (br, prO (vp bw 0) v1 v2) :: (bw, wrO s a2 0) :: (D4 ++ (D2 ++ (DG ++ [(ba, .cells (partC p).toArray 114 (0, 0)), (bc, .cells #[vi a] 3 (0, 0))])))) (by classical exact List.perm_iff_count.2 fun a => by simp only [List.count_append, List.count_cons, List.count_nil] <;> omega) (fun r hr => by simp only [List.mem_cons, List.not_mem_nil, or_false] at hr; rcases hr with rfl | rfl <;> simp (disch := omega) only [List.cons_append, List.nil_append, read_same, read_other]) ?_
                refine OwG.rest [15, 16, 17, 18, 19, 20, 21] rfl (by kernel_rfl) (by kernel_rfl) ?_
                simp only [nl_cons, ↓pickL_nil, ↓pickL_cons, ↓nthO_0, ↓nthO_s, consO_some]
                refine Ow.soft rfl rfl rfl ?_
                refine Ow.permL (M := D2 ++ ((b4, O4) :: (br, prO (vp bw 0) v1 v2) :: (bw, wrO s a2 0) :: (D4 ++ (DG ++ [(ba, .cells (partC p).toArray 114 (0, 0)), (bc, .cells #[vi a] 3 (0, 0))])))) (by classical exact List.perm_iff_count.2 fun a => by simp only [List.count_append, List.count_cons, List.count_nil] <;> omega) ?_
                refine Ow.appendXG (e := 3) (k := 1) (new := natC a) (X := D2) v2 rfl rfl rfl rfl Tryz.underlying28 (id (by kernel_rfl) : aggT Tryz.prog 3 = some (false, 1)) (by kernel_rfl) (id (by kernel_rfl) : zeroV Tryz.prog 3 = some (vi 0)) rfl Tryz.underlying28 (by intro k h; cases h) hG2 (fun w' hw' => AppX.one1 (hw'.has bc (.cells #[vi a] 3 (0, 0)) (by simp)) (natC_len a) rfl) (by omega) (fun B5 v5 D5 hA5 hB5 hG5 hk51 hk52 hlk5 => ?_)
                have hN5 : New w.heap.size D5 := New.of_le fun q hq => by
                  rcases hk52 q hq with h | h
                  · exact hN2.le q h
                  · omega
                refine Ow.permL (M := (br, prO (vp bw 0) v1 v2) :: (bw, wrO s a2 0) :: (b4, O4) :: (D4 ++ (D5 ++ (DG ++ [(ba, .cells (partC p).toArray 114 (0, 0)), (bc, .cells #[vi a] 3 (0, 0))])))) (by classical exact List.perm_iff_count.2 fun a => by simp only [List.count_append, List.count_cons, List.count_nil] <;> omega) ?_
                with_reducible refine Ow.nil ?_
                refine ⟨(fun r hr => by simp only [List.mem_cons, List.not_mem_nil, or_false] at hr; rcases hr with rfl | rfl <;> simp (disch := omega) only [read_same, read_other]), ?_⟩
                have st4 : ∀ a, storeV (some (a, 1)) (some (prO (vp bw 0) v1 v2)) 1 v4 = some (prO (vp bw 0) v4 v2) := fun a => store_pr1 _ v1 v2 v4 a hG4.cell
                have st5 : ∀ a, storeV (some (a, 1)) (some (prO (vp bw 0) v4 v2)) 2 v5 = some (prO (vp bw 0) v4 v5) := fun a => store_pr2 _ v4 v2 v5 a hG5.cell
                refine kq @uKM_1 ?_
                refine Ow.store rfl rfl rfl (ke (And.intro @uKM_1 @st4)) ?_
                refine ko (And.intro @uKM_1 @st5) ?_
                subst hO4
                refine Jump.mk ⟨1, l ++ [p], sp ++ [a], a2, 0, v4, v5, b4, p, D4, D5, DG ++ [(ba, .cells (partC p).toArray 114 (0, 0)), (bc, .cells #[vi a] 3 (0, 0))]⟩ rfl (by show n - (l ++ [p]).length + 1 < n - l.length + 1; simp; omega) ⟨hw4, hN4, hN5, hNG.app ⟨hwa, hwc, trivial⟩, by simpa using hG4, by simpa using hG5, by simp [hsl], hle2.2, by simp; omega, .inl ⟨rfl, ?_⟩⟩ rfl rfl
                rw [hpr]
                simp
              · refine Ow.buildSlice (e := 3) #[vi a] rfl rfl (by kernel_rfl) fun bc hbc hwc => ?_
                with_reducible refine Ow.nil ?_
                refine ⟨readB_appR (by simp [keys]), ?_⟩
                simp only [List.set_cons_zero, List.set_cons_succ, putF_some, setF_0, setF_s]
                refine OwG.one 8 _ (by kernel_rfl) rfl ?_
                refine Ow.permL (M := D1 ++ ((b4, O4) :: (br, prO (vp bw 0) v1 v2) :: (bw, wrO s a2 0) :: (D2 ++ (DG ++ [(ba, .cells (partC p).toArray 114 (0, 0)), (bc, .cells #[vi a] 3 (0, 0))])))) (by classical exact List.perm_iff_count.2 fun a => by simp only [List.count_append, List.count_cons, List.count_nil] <;> omega) ?_
                refine Ow.appendXG (e := 114) (k := 1) (new := partC p) (X := D1) v1 rfl rfl rfl rfl Tryz.underlying22 Tryz.ag114 (by kernel_rfl) zrPart (by rw [cells_part]; rfl) Tryz.underlying22 (by intro k h; cases h) hG1 (fun w' hw' => AppX.one1 (hw'.has ba (.cells (partC p).toArray 114 (0, 0)) (by simp)) (partC_len _) (partC_one _)) (by omega) (fun B4 v4 D4 hA4 hB4 hG4 hk41 hk42 hlk4 => ?_)
                have hN4 : New w.heap.size D4 := New.of_le fun q hq => by
                  rcases hk42 q hq with h | h
                  · exact hN1.le q h
                  · omega
                refine Ow.permL (M := (b4, O4) :: (br, prO (vp bw 0) v1 v2) :: (bw, wrO s a2 0) :: (D4 ++ (D2 ++ (DG ++ [(ba, .cells (partC p).toArray 114 (0, 0)), (bc, .cells #[vi a] 3 (0, 0))])))) (by classical exact List.perm_iff_count.2 fun a => by simp only [List.count_append, List.count_cons, List.count_nil] <;> omega) ?_
                with_reducible refine Ow.nil ?_
                refine ⟨(fun r hr => by simp only [List.mem_cons, List.not_mem_nil, or_false] at hr; rcases hr with rfl | rfl <;> simp (disch := omega) only [List.cons_append, List.nil_append, read_same, read_other]), ?_⟩
                simp only [List.set_cons_zero, List.set_cons_succ, putF_some, setF_0, setF_s]
                refine OwG.permL (M := (b4, O4) :: (br, prO (vp bw 0) v1 v2) :: (bw, wrO s a2 0) :: (D4 ++ (D2 ++ (DG ++ [(ba, .cells (partC p).toArray 114 (0, 0)), (bc, .cells #[vi a] 3 (0, 0))])))) (by classical exact List.perm_iff_count.2 fun a => by simp only [List.count_append, List.count_cons, List.count_nil] <;> omega) (fun r hr => by simp only [List.mem_cons, List.not_mem_nil, or_false] at hr; rcases hr with rfl | rfl <;> simp (disch := omega) only [List.cons_append, List.nil_append, read_same, read_other]) ?_
                refine OwG.rest [15, 16, 17, 18, 19, 20, 21] rfl (by kernel_rfl) (by kernel_rfl) ?_
                simp only [nl_cons, ↓pickL_nil, ↓pickL_cons, ↓nthO_0, ↓nthO_s, consO_some]
                refine Ow.soft rfl rfl rfl ?_
                refine Ow.permL (M := D2 ++ ((b4, O4) :: (br, prO (vp bw 0) v1 v2) :: (bw, wrO s a2 0) :: (D4 ++ (DG ++ [(ba, .cells (partC p).toArray 114 (0, 0)), (bc, .cells #[vi a] 3 (0, 0))])))) (by classical exact List.perm_iff_count.2 fun a => by simp only [List.count_append, List.count_cons, List.count_nil] <;> omega) ?_
                refine Ow.appendXG (e := 3) (k := 1) (new := natC a) (X := D2) v2 rfl rfl rfl rfl Tryz.underlying28 (id (by kernel_rfl) : aggT Tryz.prog 3 = some (false, 1)) (by kernel_rfl) (id (by kernel_rfl) : zeroV Tryz.prog 3 = some (vi 0)) rfl Tryz.underlying28 (by intro k h; cases h) hG2 (fun w' hw' => AppX.one1 (hw'.has bc (.cells #[vi a] 3 (0, 0)) (by simp)) (natC_len a) rfl) (by omega) (fun B5 v5 D5 hA5 hB5 hG5 hk51 hk52 hlk5 => ?_)
                have hN5 : New w.heap.size D5 := New.of_le fun q hq => by
                  rcases hk52 q hq with h | h
                  · exact hN2.le q h
                  · omega
                refine Ow.permL (M := (br, prO (vp bw 0) v1 v2) :: (bw, wrO s a2 0) :: (b4, O4) :: (D4 ++ (D5 ++ (DG ++ [(ba, .cells (partC p).toArray 114 (0, 0)), (bc, .cells #[vi a] 3 (0, 0))])))) (by classical exact List.perm_iff_count.2 fun a => by simp only [List.count_append, List.count_cons, List.count_nil] <;> omega) ?_
                with_reducible refine Ow.nil ?_
                refine ⟨(fun r hr => by simp only [List.mem_cons, List.not_mem_nil, or_false] at hr; rcases hr with rfl | rfl <;> simp (disch := omega) only [read_same, read_other]), ?_⟩
                have st4 : ∀ a, storeV (some (a, 1)) (some (prO (vp bw 0) v1 v2)) 1 v4 = some (prO (vp bw 0) v4 v2) := fun a => store_pr1 _ v1 v2 v4 a hG4.cell
                have st5 : ∀ a, storeV (some (a, 1)) (some (prO (vp bw 0) v4 v2)) 2 v5 = some (prO (vp bw 0) v4 v5) := fun a => store_pr2 _ v4 v2 v5 a hG5.cell
                refine kq @uKM_1 ?_
                refine Ow.store rfl rfl rfl (ke (And.intro @uKM_1 @st4)) ?_
                refine ko (And.intro @uKM_1 @st5) ?_
                subst hO4
                refine Jump.mk ⟨1, l ++ [p], sp ++ [a], a2, 0, v4, v5, b4, p, D4, D5, DG ++ [(ba, .cells (partC p).toArray 114 (0, 0)), (bc, .cells #[vi a] 3 (0, 0))]⟩ rfl (by show n - (l ++ [p]).length + 1 < n - l.length + 1; simp; omega) ⟨hw4, hN4, hN5, hNG.app ⟨hwa, hwc, trivial⟩, by simpa using hG4, by simpa using hG5, by simp [hsl], hle2.2, by simp; omega, .inl ⟨rfl, ?_⟩⟩ rfl rfl
                rw [hpr]
                simp
            · refine Ow.buildSlice (e := 3) #[vi a] rfl rfl (by kernel_rfl) fun bc hbc hwc => ?_
              with_reducible refine Ow.nil ?_
              refine ⟨readB_appR (by simp [keys]), ?_⟩
              simp only [List.set_cons_zero, List.set_cons_succ, putF_some, setF_0, setF_s]
              refine OwG.one 7 _ (by kernel_rfl) rfl ?_
              refine Ow.buildSlice (e := 114) (partC p).toArray rfl rfl (slice_one (cs := partC p) Tryz.underlying22 Tryz.ag114 zrPart (by decide) rfl) fun ba hba hwa => ?_
              with_reducible refine Ow.nil ?_
              refine ⟨readB_appR (by simp [keys]), ?_⟩
              simp only [List.set_cons_zero, List.set_cons_succ, putF_some, setF_0, setF_s]
              refine OwG.one 8 _ (by kernel_rfl) rfl ?_
              refine Ow.permL (M := D1 ++ ((b4, O4) :: (br, prO (vp bw 0) v1 v2) :: (bw, wrO s a2 0) :: (D2 ++ (DG ++ [(ba, .cells (partC p).toArray 114 (0, 0)), (bc, .cells #[vi a] 3 (0, 0))])))) (by classical exact List.perm_iff_count.2 fun a => by simp only [List.count_append, List.count_cons, List.count_nil] <;> omega) ?_
              refine Ow.appendXG (e := 114) (k := 1) (new := partC p) (X := D1) v1 rfl rfl rfl rfl Tryz.underlying22 Tryz.ag114 (by kernel_rfl) zrPart (by rw [cells_part]; rfl) Tryz.underlying22 (by intro k h; cases h) hG1 (fun w' hw' => AppX.one1 (hw'.has ba (.cells (partC p).toArray 114 (0, 0)) (by simp)) (partC_len _) (partC_one _)) (by omega) (fun B4 v4 D4 hA4 hB4 hG4 hk41 hk42 hlk4 => ?_)
              have hN4 : New w.heap.size D4 := New.of_le fun q hq => by
                rcases hk42 q hq with h | h
                · exact hN1.le q h
                · omega
              refine Ow.permL (M := (b4, O4) :: (br, prO (vp bw 0) v1 v2) :: (bw, wrO s a2 0) :: (D4 ++ (D2 ++ (DG ++ [(ba, .cells (partC p).toArray 114 (0, 0)), (bc, .cells #[vi a] 3 (0, 0))])))) (by classical exact List.perm_iff_count.2 fun a => by simp only [List.count_append, List.count_cons, List.count_nil] <;> omega) ?_
              with_reducible refine Ow.nil ?_
              refine ⟨(fun r hr => by simp only [List.mem_cons, List.not_mem_nil, or_false] at hr; rcases hr with rfl | rfl <;> simp (disch := omega) only [List.cons_append, List.nil_append, read_same, read_other]), ?_⟩
              simp only [List.set_cons_zero, List.set_cons_succ, putF_some, setF_0, setF_s]
              refine OwG.permL (M := (b4, O4) :: (br, prO (vp bw 0) v1 v2) :: (bw, wrO s a2 0) :: (D4 ++ (D2 ++ (DG ++ [(ba, .cells (partC p).toArray 114 (0, 0)), (bc, .cells #[vi a] 3 (0, 0))])))) (by classical exact List.perm_iff_count.2 fun a => by simp only [List.count_append, List.count_cons, List.count_nil] <;> omega) (fun r hr => by simp only [List.mem_cons, List.not_mem_nil, or_false] at hr; rcases hr with rfl | rfl <;> simp (disch := omega) only [List.cons_append, List.nil_append, read_same, read_other]) ?_
              refine OwG.rest [15, 16, 17, 18, 19, 20, 21] rfl (by kernel_rfl) (by kernel_rfl) ?_
              simp only [nl_cons, ↓pickL_nil, ↓pickL_cons, ↓nthO_0, ↓nthO_s, consO_some]
              refine Ow.soft rfl rfl rfl ?_
              refine Ow.permL (M := D2 ++ ((b4, O4) :: (br, prO (vp bw 0) v1 v2) :: (bw, wrO s a2 0) :: (D4 ++ (DG ++ [(ba, .cells (partC p).toArray 114 (0, 0)), (bc, .cells #[vi a] 3 (0, 0))])))) (by classical exact List.perm_iff_count.2 fun a => by simp only [List.count_append, List.count_cons, List.count_nil] <;> omega) ?_
              refine Ow.appendXG (e := 3) (k := 1) (new := natC a) (X := D2) v2 rfl rfl rfl rfl Tryz.underlying28 (id (by kernel_rfl) : aggT Tryz.prog 3 = some (false, 1)) (by kernel_rfl) (id (by kernel_rfl) : zeroV Tryz.prog 3 = some (vi 0)) rfl Tryz.underlying28 (by intro k h; cases h) hG2 (fun w' hw' => AppX.one1 (hw'.has bc (.cells #[vi a] 3 (0, 0)) (by simp)) (natC_len a) rfl) (by omega) (fun B5 v5 D5 hA5 hB5 hG5 hk51 hk52 hlk5 => ?_)
              have hN5 : New w.heap.size D5 := New.of_le fun q hq => by
                rcases hk52 q hq with h | h
                · exact hN2.le q h
                · omega
              refine Ow.permL (M := (br, prO (vp bw 0) v1 v2) :: (bw, wrO s a2 0) :: (b4, O4) :: (D4 ++ (D5 ++ (DG ++ [(ba, .cells (partC p).toArray 114 (0, 0)), (bc, .cells #[vi a] 3 (0, 0))])))) (by classical exact List.perm_iff_count.2 fun a => by simp only [List.count_append, List.count_cons, List.count_nil] <;> omega) ?_
              with_reducible refine Ow.nil ?_
              refine ⟨(fun r hr => by simp only [List.mem_cons, List.not_mem_nil, or_false] at hr; rcases hr with rfl | rfl <;> simp (disch := omega) only [read_same, read_other]), ?_⟩
              have st4 : ∀ a, storeV (some (a, 1)) (some (prO (vp bw 0) v1 v2)) 1 v4 = some (prO (vp bw 0) v4 v2) := fun a => store_pr1 _ v1 v2 v4 a hG4.cell
              have st5 : ∀ a, storeV (some (a, 1)) (some (prO (vp bw 0) v4 v2)) 2 v5 = some (prO (vp bw 0) v4 v5) := fun a => store_pr2 _ v4 v2 v5 a hG5.cell
              refine kq @uKM_1 ?_
              refine Ow.store rfl rfl rfl (ke (And.intro @uKM_1 @st4)) ?_
              refine ko (And.intro @uKM_1 @st5) ?_
              subst hO4
              refine Jump.mk ⟨1, l ++ [p], sp ++ [a], a2, 0, v4, v5, b4, p, D4, D5, DG ++ [(ba, .cells (partC p).toArray 114 (0, 0)), (bc, .cells #[vi a] 3 (0, 0))]⟩ rfl (by show n - (l ++ [p]).length + 1 < n - l.length + 1; simp; omega) ⟨hw4, hN4, hN5, hNG.app ⟨hwa, hwc, trivial⟩, by simpa using hG4, by simpa using hG5, by simp [hsl], hle2.2, by simp; omega, .inl ⟨rfl, ?_⟩⟩ rfl rfl
              rw [hpr]
              simp
        · have d2 : (e2 != 0) = true := bne_iff_ne.2 he
          rw [if_neg he] at hpr
          refine ko (And.intro @uKM_1 @d2) ?_
          first | with_reducible refine ks [] (And.intro @uKM_1 @d2) ?_ | refine kp (And.intro @uKM_1 @d2) ?_
          refine Jump.mk ⟨0, l, sp, a2, e2, v1, v2, b4, _, D1, D2, DG⟩ rfl (by show 0 < n - l.length + 1; omega) ⟨hw4, hN1, hN2, hNG, hG1, hG2, hsl, hle2.2, hln, .inr ⟨rfl, ?_⟩⟩ rfl rfl
          rw [hpr]
          simp
    · obtain ⟨hlab, hpr⟩ := hg
      simp only at hlab
      subst hlab
      simp only [RdL, RdH] at hpr ⊢
      simp only [contP, hasL, Bool.or_false, Bool.false_or, Bool.or_true, Bool.true_or, Nat.reduceBEq, beq_self_eq_true, ↓reduceIte, Bool.false_eq_true]
      refine kv ?_
      try with_reducible refine thenK_normal ?_
      first | with_reducible refine ks [] @uKM_1 ?_ | refine kp @uKM_1 ?_
      refine ⟨_, (ke @uKM_1), ?_⟩
      refine ⟨ext_two ⟨hw4, hNr⟩, rfl, v1, v2, _, by rw [hpr], ?_, ?_⟩
      · rw [hpr]; exact Gr.i hG1 fun c hc => by simp [hc]
      · rw [hpr]; exact Gr.i hG2 fun c hc => by simp [hc]
  · intro key
    repeat ((try with_reducible refine Cw.go [999999] ?_); (simp (disch := (first | assumption | omega | (simp only [lenS, lenT, UInt64.reduceToNat]; try omega))) only [↓Sx.S0, Sx.S1, Tryz.fx, uKM_1, Nat.reduceAdd, Nat.reducePow, Int.reducePow, Nat.reduceBEq, ↓reduceIte, UInt8.reduceToNat, UInt16.reduceToNat, UInt32.reduceToNat, UInt64.reduceToNat, Int.reduceToNat]))
    refine Ow.alloc rfl rfl zrPart fun b4 hb4 hw4 => ?_
    simp only [cells_agg, List.nil_append, List.cons_append]
    refine ko @uKM_1 ?_
    repeat ((try with_reducible refine Cw.go [999999] ?_); (simp (disch := (first | assumption | omega | (simp only [lenS, lenT, UInt64.reduceToNat]; try omega))) only [↓Sx.S0, Sx.S1, Tryz.fx, uKM_1, Nat.reduceAdd, Nat.reducePow, Int.reducePow, Nat.reduceBEq, ↓reduceIte, UInt8.reduceToNat, UInt16.reduceToNat, UInt32.reduceToNat, UInt64.reduceToNat, Int.reduceToNat]))
    have key0 := fun f' => key (⟨1, [], [], a0, e0, .slice none 0 0, .slice none 0 0, b4, part0, [], [], []⟩) f'
    simp only [contP, hasL, Bool.or_false, Bool.false_or, Bool.or_true, Bool.true_or, Nat.reduceBEq, beq_self_eq_true, ↓reduceIte, Bool.false_eq_true] at key0
    clear key
    refine Cw.label ?_
    refine key0 _ ⟨hw4, trivial, trivial, trivial, Gr.nl, Gr.nl, rfl, ha, Nat.zero_le _, .inl ⟨rfl, ?_⟩⟩ ?_
    · rfl
    · rfl
end Go.Proofs
end
section
open Go Go.Proofs Go.Sx Go.StP Go.Flo
namespace Go.Proofs
set_option maxRecDepth 10000
set_option maxHeartbeats 400000
set_option linter.unusedSimpArgs false
/-! ### What a pack tells -/
abbrev NatSl (w : World) (v : Value) (l : List Nat) : Prop := SlV 1 natC 0 w v l
abbrev ObSl (w : World) (v : Value) (l : List ObL) : Prop := SlV 2 obC ob0 w v l
/-- A pack in a world. -/
def PackIn (w : World) (bp : Nat) (l : List PartL) (sp : List Nat) (ids : List IdL) (os : List ObL) : Prop :=
  ∃ v0 v1 v2 v3, w.heap[bp]? = some (pkO v0 v1 v2 v3) ∧ PartSl w v0 l ∧ NatSl w v1 sp ∧ IdS w v2 ids ∧ ObSl w v3 os
/-- A pack among known blocks. -/
def PackD (D : Heap) (bp : Nat) (l : List PartL) (sp : List Nat) (ids : List IdL) (os : List ObL) : Prop :=
  ∃ v0 v1 v2 v3, (bp, pkO v0 v1 v2 v3) ∈ D ∧ GrI D 114 3 v0 l.length (l.map partC).flatten ∧ GrI D 3 1 v1 sp.length (sp.map natC).flatten ∧ GrI D 37 32 v2 ids.length (ids.map idLC).flatten ∧ GrI D 43 2 v3 os.length (os.map obC).flatten
theorem PackD.mono {D D' : Heap} {bp : Nat} {l : List PartL} {sp : List Nat} {ids : List IdL} {os : List ObL} (h : PackD D bp l sp ids os) (hD : ∀ p, p ∈ D → p ∈ D') : PackD D' bp l sp ids os := by
  obtain ⟨v0, v1, v2, v3, h1, h2, h3, h4, h5⟩ := h
  exact ⟨v0, v1, v2, v3, hD _ h1, h2.mono hD, h3.mono hD, h4.mono hD, h5.mono hD⟩
theorem PackD.inW {w0 w : World} {D L : Heap} {bp : Nat} {l : List PartL} {sp : List Nat} {ids : List IdL} {os : List ObL} (h : PackD D bp l sp ids os) (hD : ∀ p, p ∈ D → p ∈ L) (hw : Hp w0 L w) : PackIn w bp l sp ids os := by
  obtain ⟨v0, v1, v2, v3, h1, h2, h3, h4, h5⟩ := h.mono hD
  exact ⟨v0, v1, v2, v3, hw.has _ _ h1, h2.slV hw rfl rfl partC_len, h3.slV hw rfl rfl natC_len, h4.slV hw rfl rfl idLC_len', h5.slV hw rfl rfl obC_len⟩
theorem PackIn.old {w w' : World} {L : Heap} {bp : Nat} {l : List PartL} {sp : List Nat} {ids : List IdL} {os : List ObL} (h : PackIn w bp l sp ids os) (hw : Hp w L w') (hn : New w.heap.size L) : PackIn w' bp l sp ids os := by
  obtain ⟨v0, v1, v2, v3, h1, h2, h3, h4, h5⟩ := h
  exact ⟨v0, v1, v2, v3, by rw [hw.old bp (Array.getElem?_eq_some_iff.1 h1).1 (hn.not (Array.getElem?_eq_some_iff.1 h1).1)]; exact h1, h2.oldN hw hn, h3.oldN hw hn, h4.oldN hw hn, h5.oldN hw hn⟩
theorem nilPk (b o : Nat) : binX Tryz.prog .eql 38 (vp b o) (.pointer none) = some (.bool false) := by
  simp [binX, eqX, plainV, eqNilV, Tryz.underlying38, vp]
theorem row_obj {w : World} {v : Value} {l : List ObL} {b off : Nat} {arr : Array Value} {E : TypeId} {fz : Nat × Nat} (h : RowS 2 obC ob0 w v l b off arr E fz) {k : Nat} (hk : k < l.length) :
    loadV (some (true, 2)) (some (.cells arr E fz)) (off + k * 2) = some (obV (l.getD k ob0).k (l.getD k ob0).t) := RowS.load h obC_len (by omega) hk
set_option linter.defProp false
def uKQ_1 := And.intro (And.intro (And.intro (@rdIn_v8) (And.intro (@rdIn_vi) (@load_pk0))) (And.intro (@load_pk1) (And.intro (@load_pk2) (@load_pk3)))) (And.intro (And.intro (@nilPk) (And.intro (@load_ob) (@load_ob0))) (And.intro (@load_ob1) (And.intro (@store_ob) (@load_idb))))
theorem PLen_spec (bp : Nat) (l : List PartL) (sp : List Nat) (ids : List IdL) (os : List ObL) (w : World) (h : PackIn w bp l sp ids os) :
    Rets Tryz.prog 20 #[vp bp 0] w (fun v D => v = vi l.length ∧ D = []) := by
  obtain ⟨v0, v1, v2, v3, h1, h2, h3, h4, h5⟩ := h
  have ln := h2.len
  refine Rets.enterV Tryz.func20 rfl (rs := [.tmp 2]) Tryz.results20 Tryz.ntmps20 ?_
  refine kf ?_
  first | with_reducible refine ks [] (And.intro @uKQ_1 ( And.intro @h1 (@ln))) ?_ | refine kp (And.intro @uKQ_1 ( And.intro @h1 (@ln))) ?_
  refine ⟨_, (ke @uKQ_1), trivial, ?_⟩
  rfl
def hasV (l : List PartL) (i : Int) : Bool := decide (0 ≤ i) && decide (i < (l.length : Int))
theorem Phas_spec (bp : Nat) (i : Int) (l : List PartL) (sp : List Nat) (ids : List IdL) (os : List ObL) (w : World) (h : PackIn w bp l sp ids os) :
    Rets Tryz.prog 77 #[vp bp 0, vi i] w (fun v D => v = .bool (hasV l i) ∧ D = []) := by
  refine Rets.enterV Tryz.func77 rfl (rs := [.tmp 4]) Tryz.results77 Tryz.ntmps77 ?_
  refine kf ?_
  unfold hasV
  by_cases hi : 0 ≤ i
  · have d1 : decide (0 ≤ i) = true := decide_eq_true hi
    rw [d1, Bool.true_and]
    first | with_reducible refine ks [] (And.intro @uKQ_1 @d1) ?_ | refine kp (And.intro @uKQ_1 @d1) ?_
    refine Ow.callFV rfl Tryz.call20 (fun w' hw' => PLen_spec bp l sp ids os w' (h.old hw' trivial)) ?_
    refine ko (And.intro @uKQ_1 @d1) ?_
    first | with_reducible refine ks [] @uKQ_1 ?_ | refine kp @uKQ_1 ?_
    refine ⟨_, (ke @uKQ_1), trivial, ?_⟩
    rfl
  · have d1 : decide (0 ≤ i) = false := decide_eq_false hi
    rw [d1, Bool.false_and]
    first | with_reducible refine ks [] (And.intro @uKQ_1 @d1) ?_ | refine kp (And.intro @uKQ_1 @d1) ?_
    refine ⟨_, (ke @uKQ_1), trivial, ?_⟩
    rfl
theorem PId_spec (bp : Nat) (i : Int) (l : List PartL) (sp : List Nat) (ids : List IdL) (os : List ObL) (w : World) (h : PackIn w bp l sp ids os) (hsp : ids.length = l.length) :
    Rets Tryz.prog 22 #[vp bp 0, vi i] w (fun v D => v = .agg (a8 (if hasV l i then ids.getD i.toNat id0 else id0).l) ∧ D = []) := by
  obtain ⟨v0, v1, v2, v3, h1, h2, h3, h4, h5⟩ := id h
  obtain ⟨b, off, arr, E, fz, hr⟩ := h4.row
  have hi0 := id0.h
  refine Rets.enterV Tryz.func22 rfl (rs := [.cell 4 37]) Tryz.results22 Tryz.ntmps22 ?_
  refine kf ?_
  first | with_reducible refine ks [] @uKQ_1 ?_ | refine kp @uKQ_1 ?_
  refine Ow.alloc rfl rfl zrIdE fun b4 hb4 hw4 => ?_
  simp only [cells_agg, List.nil_append, List.cons_append]
  refine ko @uKQ_1 ?_
  first | with_reducible refine ks [] @uKQ_1 ?_ | refine kp @uKQ_1 ?_
  refine Ow.callFV rfl Tryz.call77 (fun w' hw' => Phas_spec bp i l sp ids os w' (h.old hw' ⟨hw4, trivial⟩)) ?_
  cases hc : hasV l i with
  | false =>
    refine ko @uKQ_1 ?_
    first | with_reducible refine ks [] @uKQ_1 ?_ | refine kp @uKQ_1 ?_
    refine Ow.build (.agg (a8 id0.l)) rfl build_idZ ?_
    refine ko @uKQ_1 ?_
    first | with_reducible refine ks [] @uKQ_1 ?_ | refine kp @uKQ_1 ?_
    refine ⟨_, (ke @uKQ_1), ⟨hw4, trivial⟩, ?_⟩
    rfl
  | true =>
    unfold hasV at hc
    simp only [Bool.and_eq_true, decide_eq_true_eq] at hc
    obtain ⟨k, rfl⟩ : ∃ k : Nat, i = (k : Int) := ⟨i.toNat, by omega⟩
    have hk : k < ids.length := by omega
    have hx := hr.has (by omega)
    have hbl := hr.lt (by omega)
    have hbp := (Array.getElem?_eq_some_iff.1 h1).1
    have hn4 : b4 ≠ b := by omega
    have hn4p : b4 ≠ bp := by omega
    have ix := hr.idx true k hk
    have ld := row_id hr hk
    have hil := (ids.getD k id0).h
    refine ko @uKQ_1 ?_
    first | with_reducible refine ks [] (And.intro @uKQ_1 ( And.intro @h1 ( And.intro @hx ( And.intro @ix (@ld))))) ?_ | refine kp (And.intro @uKQ_1 ( And.intro @h1 ( And.intro @hx ( And.intro @ix (@ld))))) ?_
    refine ⟨_, (ke @uKQ_1), ⟨hw4, trivial⟩, ?_⟩
    rfl
theorem PObject_spec (bp : Nat) (i : Int) (l : List PartL) (sp : List Nat) (ids : List IdL) (os : List ObL) (w : World) (h : PackIn w bp l sp ids os) (hsp : os.length = l.length) :
    Rets Tryz.prog 19 #[vp bp 0, vi i] w (fun v D => v = .tuple #[obV (if hasV l i then os.getD i.toNat ob0 else ob0).k (if hasV l i then os.getD i.toNat ob0 else ob0).t, .bool (hasV l i)] ∧ D = []) := by
  obtain ⟨v0, v1, v2, v3, h1, h2, h3, h4, h5⟩ := id h
  obtain ⟨b, off, arr, E, fz, hr⟩ := h5.row
  refine Rets.enterV Tryz.func19 rfl (rs := [.cell 4 43, .tmp 5]) Tryz.results19 Tryz.ntmps19 ?_
  refine kf ?_
  first | with_reducible refine ks [] @uKQ_1 ?_ | refine kp @uKQ_1 ?_
  refine Ow.alloc rfl rfl zrOb fun b4 hb4 hw4 => ?_
  simp only [cells_agg, List.nil_append, List.cons_append]
  refine ko @uKQ_1 ?_
  first | with_reducible refine ks [] @uKQ_1 ?_ | refine kp @uKQ_1 ?_
  refine Ow.callFV rfl Tryz.call77 (fun w' hw' => Phas_spec bp i l sp ids os w' (h.old hw' ⟨hw4, trivial⟩)) ?_
  cases hc : hasV l i with
  | false =>
    refine ko @uKQ_1 ?_
    first | with_reducible refine ks [] @uKQ_1 ?_ | refine kp @uKQ_1 ?_
    refine Ow.build (obV 0 []) rfl build_ob0 ?_
    refine ko @uKQ_1 ?_
    first | with_reducible refine ks [] @uKQ_1 ?_ | refine kp @uKQ_1 ?_
    refine ⟨_, (ke @uKQ_1), ⟨hw4, trivial⟩, ?_⟩
    rfl
  | true =>
    unfold hasV at hc
    simp only [Bool.and_eq_true, decide_eq_true_eq] at hc
    obtain ⟨k, rfl⟩ : ∃ k : Nat, i = (k : Int) := ⟨i.toNat, by omega⟩
    have hk : k < os.length := by omega
    have hx := hr.has (by omega)
    have hbl := hr.lt (by omega)
    have hbp := (Array.getElem?_eq_some_iff.1 h1).1
    have hn4 : b4 ≠ b := by omega
    have hn4p : b4 ≠ bp := by omega
    have ix := hr.idx true k hk
    have ld := row_obj hr hk
    refine ko @uKQ_1 ?_
    first | with_reducible refine ks [] (And.intro @uKQ_1 ( And.intro @h1 ( And.intro @hx ( And.intro @ix (@ld))))) ?_ | refine kp (And.intro @uKQ_1 ( And.intro @h1 ( And.intro @hx ( And.intro @ix (@ld))))) ?_
    refine ⟨_, (ke @uKQ_1), ⟨hw4, trivial⟩, ?_⟩
    rfl
theorem PFind_spec (bp : Nat) (x : IdL) (l : List PartL) (sp : List Nat) (ids : List IdL) (os : List ObL) (w : World) (h : PackIn w bp l sp ids os) (hl : ids.length < 1000000) :
    Rets Tryz.prog 24 #[vp bp 0, .agg (a8 x.l)] w (fun v D => v = vi (idxG x ids 0) ∧ D = []) := by
  obtain ⟨v0, v1, v2, v3, h1, h2, h3, h4, h5⟩ := id h
  have hbp := (Array.getElem?_eq_some_iff.1 h1).1
  refine Rets.enterV Tryz.func24 rfl (rs := [.tmp 4]) Tryz.results24 Tryz.ntmps24 ?_
  refine kf ?_
  first | with_reducible refine ks [] @uKQ_1 ?_ | refine kp @uKQ_1 ?_
  refine Ow.box rfl rfl fun b1 hb1 hw1 => ?_
  simp only [ev_tmp, getF_0, getF_s, cells_agg, List.nil_append]
  have hn : b1 ≠ bp := by omega
  refine ko @uKQ_1 ?_
  first | with_reducible refine ks [] @uKQ_1 ?_ | refine kp @uKQ_1 ?_
  refine Cw.regionS [b1, bp] [0, 1, 2, 3, 4, 5, 6] [] (by kernel_rfl) (by kernel_rfl) (by kernel_rfl) ?_
  simp only [nl_cons, ↓pickL_nil, ↓pickL_cons, ↓nthO_0, ↓nthO_s, consO_some]
  refine kq (And.intro @uKQ_1 @h1) ?_
  refine Ow.callFV rfl Tryz.call79 (fun w' hw' => IndexId_spec v2 ids x w' (h4.oldN hw' ⟨hw1, trivial⟩) hl) ?_
  refine kq @uKQ_1 ?_
  first | with_reducible refine ks [] @uKQ_1 ?_ | refine kp @uKQ_1 ?_
  refine ⟨_, (ke @uKQ_1), ⟨hw1, trivial⟩, ?_⟩
  rfl
/-! ### Parts, cloned -/
end Go.Proofs
end
section
open Go Go.Proofs Go.Sx Go.StP Go.Flo
namespace Go.Proofs
set_option maxRecDepth 10000
set_option maxHeartbeats 400000
set_option linter.unusedSimpArgs false
/-! ### pack.Write -/
theorem came_newP {w0 : World} {L X D : Heap} (hC : Came w0 L X D) (hX : New w0.heap.size X) : New w0.heap.size D := New.of_le fun c hc => by
  rcases hC.new c hc with h | ⟨-, h⟩
  · exact hX.le c h
  · exact h
theorem GlobC.newP {w0 w : World} {L : Heap} (hg : GlobC w0) (h : Hp w0 L w) (hn : New w0.heap.size L) : GlobC w :=
  hg.of h (hn.not (by obtain ⟨e, f, h⟩ := hg; exact (Array.getElem?_eq_some_iff.1 h).1))
theorem zrPk : zeroV Tryz.prog 117 = some (.agg #[.slice none 0 0, .slice none 0 0, .slice none 0 0, .slice none 0 0]) := id (by kernel_rfl)
theorem build_pk1 {w : World} {v0 : Value} {l : List PartL} (hv : PartSl w v0 l) : buildV (plcT Tryz.prog 117) (zeroV Tryz.prog 117) [(0, v0)] = some (.agg #[v0, .slice none 0 0, .slice none 0 0, .slice none 0 0]) := by
  rw [show plcT Tryz.prog 117 = some [(0, 1), (1, 1), (2, 1), (3, 1)] from id (by kernel_rfl), zrPk]
  obtain ⟨b, off, c, arr, E, fz, hr, hc, ⟨rfl, rfl, rfl⟩ | ⟨rfl, hb, hsz⟩⟩ := hv <;> rfl
theorem slV_lt {α : Type} {m : Nat} {enc : α → List Value} {z : α} {w : World} {v : Value} {l : List α} (hv : SlV m enc z w v l) {b : Nat} (hb : slB v = some b) : b < w.heap.size := by
  obtain ⟨bb, off, c, arr, E, fz, hr, hc, ⟨rfl, -, -⟩ | ⟨rfl, h, -⟩⟩ := hv
  · cases hb
  · cases hb; exact (Array.getElem?_eq_some_iff.1 h).1
theorem partsB_snoc : ∀ (l : List PartL) (i g : Nat), g < l.length → partsB i (l.take (g + 1)) = partsB i (l.take g) ++ pieceB (i + g) (l.getD g part0)
  | [], _, _, h => absurd h (Nat.not_lt_zero _)
  | p :: r, i, 0, _ => by simp [partsB]
  | p :: r, i, g + 1, h => by
    have := partsB_snoc r (i + 1) g (by simpa using h)
    rw [List.take_succ_cons, partsB, this, List.take_succ_cons, partsB, List.getD_cons_succ, List.append_assoc, show i + 1 + g = i + (g + 1) by omega]
/-- Texts of parts are not too long. -/
def SmallP (l : List PartL) : Prop := ∀ g, g < l.length → (l.getD g part0).x.length ≤ 17000000
theorem fill_small {l : List PartL} {q : List IdL × List ObL} (h : fillV l = some q) : SmallP l := by
  unfold fillV at h
  cases ha : allV l with
  | error e => rw [ha] at h; cases h
  | ok ts =>
    unfold allV at ha
    split at ha
    · cases ha
    · intro k hk
      have hp := allGo_at _ _ ha k hk
      unfold partV at hp
      cases hq : pathV l (k : Nat) with
      | error e => rw [hq] at hp; cases hp
      | ok p =>
        rw [hq] at hp
        change foldT l p = .ok _ at hp
        have hpk : ∃ r, p = k :: r := by
          rcases pathV_cons hk hq with ⟨rfl, -⟩ | ⟨b, q, rfl, -⟩
          · exact ⟨[], rfl⟩
          · exact ⟨q, rfl⟩
        obtain ⟨r, rfl⟩ := hpk
        unfold foldT at hp
        cases hf : foldT l r with
        | error e => rw [hf] at hp; cases hp
        | ok t =>
          rw [hf] at hp
          change (if (textV (l.getD k part0) t).2 = 0 then _ else _) = _ at hp
          split at hp
          · rename_i h0
            unfold textV at h0
            split at h0
            · unfold applyV at h0
              split at h0
              · exact absurd (show (2 : Int) = 0 from h0) (by decide)
              · rename_i p' hd; exact deltaR_len hd
            · split at h0
              · exact absurd (show (19 : Int) = 0 from h0) (by decide)
              · omega
          · cases hp
theorem SmallP.bnd {l : List PartL} (h : SmallP l) : BndL l := fun g hg => Nat.lt_of_le_of_lt (h g hg) (by omega)
theorem pieceB_len {i : Nat} {p : PartL} (h : p.x.length ≤ 17000000) : (pieceB i p).length ≤ 17000012 := by
  have h1 := numL_clamp_len (farV i p)
  have h2 := numL_clamp_len (p.x.length : Int)
  unfold pieceB textL
  rw [List.length_append, List.length_append]
  omega
theorem partsB_len {l : List PartL} (h : SmallP l) : ∀ g, g ≤ l.length → (partsB 0 (l.take g)).length ≤ g * 17000012
  | 0, _ => by simp [partsB]
  | g + 1, hg => by
    rw [partsB_snoc l 0 g hg, List.length_append]
    have := partsB_len h g (by omega)
    have := pieceB_len (i := 0 + g) (h g hg)
    omega
theorem fill_base {l : List PartL} {q : List IdL × List ObL} (h : fillV l = some q) {k : Nat} (hk : k < l.length) (hd : (l.getD k part0).d = true) : 0 ≤ (l.getD k part0).b ∧ (l.getD k part0).b < k := by
  unfold fillV at h
  cases ha : allV l with
  | error e => rw [ha] at h; cases h
  | ok ts =>
    unfold allV at ha
    split at ha
    · cases ha
    · have hp := allGo_at _ _ ha k hk
      unfold partV at hp
      cases hq : pathV l (k : Nat) with
      | error e => rw [hq] at hp; cases hp
      | ok p =>
        rcases pathV_cons hk hq with ⟨-, hd', -⟩ | ⟨b, q, -, -, hb, hlt, -⟩
        · rw [hd] at hd'; cases hd'
        · rw [hb]; omega
structure PwG where
  k : Nat
  D : Heap
set_option linter.defProp false
def uKR_1 := And.intro (And.intro (And.intro (@rdIn_v8) (@rdIn_vi)) (And.intro (@load_pk0) (And.intro (@load_part0) (@load_part1)))) (And.intro (And.intro (@load_part2) (And.intro (@load_partw) (@cells_part))) (And.intro (@store_part) (And.intro (@Sx.tup2_0) (@Sx.tup2_1))))
theorem WriteP_spec (v0 : Value) (l : List PartL) (w : World) (hv : PartSl w v0 l) (hG : GlobE w) (hC : GlobC w) (hb : BndL l) (hl : l.length < 1000000) :
    Rets Tryz.prog 14 #[v0] w (fun v D => v = .tuple #[vs (writeV l).1, vi (writeV l).2] ∧ D = []) := by
  have hgr : 3 < w.heap.size := by obtain ⟨e0, e1, f0, f1, h0, h1⟩ := hG; exact (Array.getElem?_eq_some_iff.1 h1).1
  obtain ⟨b1, off, arr, E, fz, hr⟩ := hv.row
  have ln := hv.len
  refine Rets.enterV Tryz.func14 rfl (rs := [.tmp 2, .tmp 3]) Tryz.results14 Tryz.ntmps14 ?_
  refine kf ?_
  first | with_reducible refine ks [4, 1000011] @uKR_1 ?_ | refine kp @uKR_1 ?_
  refine Ow.build (.agg #[v0, .slice none 0 0, .slice none 0 0, .slice none 0 0]) rfl (build_pk1 hv) ?_
  refine ko @uKR_1 ?_
  refine Ow.box rfl rfl fun b4 hb4 hw4 => ?_
  simp only [ev_tmp, getF_0, getF_s, cells_agg, List.nil_append]
  refine Ow.permL (M := [(b4, pkO v0 (.slice none 0 0) (.slice none 0 0) (.slice none 0 0))]) (List.Perm.refl _) ?_
  refine ko @uKR_1 ?_
  first | with_reducible refine ks [] @uKR_1 ?_ | refine kp @uKR_1 ?_
  refine Ow.callX (Y := []) (by simp) rfl rfl Tryz.call59 (fun w' hw' hX hn => fill_spec b4 v0 (.slice none 0 0) l w' (hv.oldN hw' ⟨hw4, trivial⟩) (hG.new hw' ⟨hw4, trivial⟩) hb hl (hX _ List.mem_cons_self) (fun h => by have := slV_lt hv h; omega) (by omega)) (fun v13 D13 hC13 hS13 => ?_)
  have hN13 : New w.heap.size D13 := came_newP hC13 ⟨hw4, trivial⟩
  rw [List.append_nil]
  unfold FillS at hS13
  unfold writeV
  cases hf : fillV l with
  | none =>
    rw [hf] at hS13
    have hS13' : v13 = .bool false := hS13
    subst hS13'
    refine ko @uKR_1 ?_
    first | with_reducible refine ks [] @uKR_1 ?_ | refine kp @uKR_1 ?_
    refine ⟨_, (ke @uKR_1), hN13, ?_⟩
    rfl
  | some q =>
    rw [hf] at hS13
    obtain ⟨rfl, -⟩ := hS13
    have hx := fill_small hf
    have hll : l.length ≤ 200 := by
      unfold fillV at hf
      cases ha : allV l with
      | error e => rw [ha] at hf; cases hf
      | ok ts => exact (allV_len ha).2.1
    refine ko @uKR_1 ?_
    refine Cw.forgetN [] (by exact hN13) (by intro p hp; simp only [List.mem_cons, List.not_mem_nil, or_false] at hp ⊢; all_goals (first | (rcases hp with rfl | hp <;> simp_all) | (subst hp; simp) | simp_all)) (by simp [keys] <;> omega) ?_
    first | with_reducible refine ks [] @uKR_1 ?_ | refine kp @uKR_1 ?_
    refine Ow.alloc rfl rfl Tryz.zr123 fun b5 hb5 hw5 => ?_
    refine ko @uKR_1 ?_
    have hZ : BldAt b5 [] [(b5, .cells #[.pointer none, .slice none 0 0] 123 (0, 0))] := BldAt.zeroK b5 (look_same _ _ _)
    refine Ow.buildSlice (e := 9) #[vs [83, 80, 75, 49]] rfl rfl (by kernel_rfl) fun b15 hb15 hw15 => ?_
    have h515 : b5 < b15 := above_to hb15 (by simp [keys])
    refine ko @uKR_1 ?_
    refine Ow.callX (Y := [(b15, .cells #[vs [83, 80, 75, 49]] 9 (0, 0))]) (by simp) rfl rfl Tryz.call60 (fun w' hw' hX hn => WRaw_spec b5 [(b5, .cells #[.pointer none, .slice none 0 0] 123 (0, 0))] [] _ b15 0 [[83, 80, 75, 49]] _ _ _ w' hZ hX hn (StrS.lit [[83, 80, 75, 49]] rfl rfl (hw'.has _ _ (List.mem_cons_of_mem _ List.mem_cons_self))) (fun _ hm => by simp [keys] at hm; omega) (by simp) (by simp)) (fun v16 D16 hC16 hS16 => ?_)
    obtain ⟨rfl, hB16⟩ := hS16
    have hN16 : New w.heap.size D16 := came_newP hC16 ⟨hw5, trivial⟩
    refine ko @uKR_1 ?_
    first | with_reducible refine ks [] (And.intro @uKR_1 @ln) ?_ | refine kp (And.intro @uKR_1 @ln) ?_
    refine Ow.buildSlice (e := 3) #[vi l.length] rfl rfl (by kernel_rfl) fun b19 hb19 hw19 => ?_
    refine ko @uKR_1 ?_
    rw [List.append_assoc]
    refine Ow.callX (Y := [(b15, .cells #[vs [83, 80, 75, 49]] 9 (0, 0)), (b19, .cells #[vi l.length] 3 (0, 0))]) (by simp) rfl rfl Tryz.call61 (fun w' hw' hX hn => WNumber_spec b5 D16 _ _ b19 0 [(l.length : Int)] _ _ _ w' hB16 hX hn (OneS.lit [(l.length : Int)] rfl rfl (hw'.has b19 (.cells #[vi l.length] 3 (0, 0)) (by simp))) (fun _ hm => Nat.lt_irrefl _ (above_to hb19 (by rw [keys_app]; exact List.mem_append_left _ hm))) (by simp)) (fun v20 D20 hC20 hS20 => ?_)
    obtain ⟨rfl, hB20⟩ := hS20
    rw [numsL_one] at hB20
    have hN20 : New w.heap.size D20 := came_newP hC20 hN16
    have hB0 : BldAt b5 (magB ++ (numL (clampN (l.length : Int)) ++ partsB 0 (l.take 0))) (D20 ++ [(b15, .cells #[vs [83, 80, 75, 49]] 9 (0, 0)), (b19, .cells #[vi l.length] 3 (0, 0))]) := by
      have := hB20.app (Y := [(b15, Obj.cells #[vs [83, 80, 75, 49]] 9 (0, 0)), (b19, .cells #[vi l.length] 3 (0, 0))])
      simpa [magB, partsB] using this
    refine ko @uKR_1 ?_
    first | with_reducible refine ks [] (And.intro @uKR_1 @ln) ?_ | refine kp (And.intro @uKR_1 @ln) ?_
    have hnl := numL_clamp_len (l.length : Int)
    refine Cw.loopG (G := PwG) [24, 25, 26, 27, 7, 6, 8, 28, 29, 30, 31, 32, 33, 34, 35, 36, 37, 38, 39, 40, 41, 23] (fun g => [(23, vi g.k)]) (fun g => g.D) (fun g => g.k ≤ l.length ∧ New w.heap.size g.D ∧ BldAt b5 (magB ++ (numL (clampN (l.length : Int)) ++ partsB 0 (l.take g.k))) g.D) (fun g => l.length - g.k) ⟨0, D20 ++ [(b15, .cells #[vs [83, 80, 75, 49]] 9 (0, 0)), (b19, .cells #[vi l.length] 3 (0, 0))]⟩ rfl rfl ?_ ?_
    · exact ⟨Nat.zero_le _, hN20.app ⟨hw15, hw19, trivial⟩, hB0⟩
    intro g j hg
    refine kv ?_
    obtain ⟨k, D⟩ := g
    simp only at hg ⊢
    obtain ⟨hk, hN, hB⟩ := hg
    by_cases hlt : k < l.length
    · have d1 : decide ((k : Int) < (l.length : Int)) = true := decide_eq_true (by omega)
      have hb1 := hr.has (by omega)
      have hb1l := hr.lt (by omega)
      have ix := hr.idx true k hlt
      have ld := hr.load partC_len (by omega) hlt
      have rd : readB w D b1 = some (.cells arr E fz) := by rw [read_none (hN.not hb1l)]; exact hb1
      have hpl := hx k hlt
      have hpt := partsB_len hx k hk
      have hsn := partsB_snoc l 0 k hlt
      have hpb := fill_base hf hlt
      generalize hp : l.getD k part0 = p at *
      have hst := store_part p part0 114
      first | with_reducible refine ks [1000011] (And.intro @uKR_1 ( And.intro @d1 ( And.intro @ix ( And.intro @rd (@ld))))) ?_ | refine kp (And.intro @uKR_1 ( And.intro @d1 ( And.intro @ix ( And.intro @rd (@ld))))) ?_
      refine Ow.alloc rfl rfl zrPart fun b7 hb7 hw7 => ?_
      simp only [cells_agg, List.nil_append, List.cons_append]
      refine Ow.permL (M := (b7, .cells (partC part0).toArray 114 (0, 0)) :: D) (by classical exact List.perm_iff_count.2 fun a => by simp only [List.count_append, List.count_cons, List.count_nil] <;> omega) ?_
      refine ko (And.intro @uKR_1 @hst) ?_
      have hN7 : New w.heap.size ((b7, Obj.cells (partC p).toArray 114 (0, 0)) :: D) := ⟨hw7, hN⟩
      refine Cw.cutO (G := Unit) [8, 28, 29, 30, 31, 32, 33] (fun g => [(8, vi (farV k p))]) (fun g => (b7, .cells (partC p).toArray 114 (0, 0)) :: D) (fun g => True) ?_ ?_
      · cases hd : p.d with
        | true =>
          have hf : farV k p = (k : Int) - p.b := by unfold farV; rw [if_pos hd]
          have hb2 := hpb hd
          first | with_reducible refine ks [] (And.intro @uKR_1 @hd) ?_ | refine kp (And.intro @uKR_1 @hd) ?_
          refine CutO.mk () trivial rfl ?_
          rw [hf]; rfl
        | false =>
          have hf : farV k p = 0 := by unfold farV; rw [if_neg (by rw [hd]; decide)]
          first | with_reducible refine ks [] (And.intro @uKR_1 @hd) ?_ | refine kp (And.intro @uKR_1 @hd) ?_
          refine CutO.mk () trivial rfl ?_
          rw [hf]; rfl
      · intro u ju hu
        refine kv ?_
        first | with_reducible refine ks [] @uKR_1 ?_ | refine kp @uKR_1 ?_
        have hfl := numL_clamp_len (farV k p)
        have hxl := numL_clamp_len (p.x.length : Int)
        have htx : textsL [p.x] = textL p.x := by simp [textsL]
        have htl : (textL p.x).length = (numL (clampN p.x.length)).length + p.x.length := by unfold textL; rw [List.length_append]
        have hml : (magB ++ (numL (clampN (l.length : Int)) ++ partsB 0 (l.take k))).length = 4 + ((numL (clampN (l.length : Int))).length + (partsB 0 (l.take k)).length) := by rw [List.length_append, List.length_append]; rfl
        refine Ow.buildSlice (e := 3) #[vi (farV k p)] rfl rfl (by kernel_rfl) fun b35 hb35 hw35 => ?_
        refine ko @uKR_1 ?_
        refine Ow.permL (M := D ++ [(b7, Obj.cells (partC p).toArray 114 (0, 0)), (b35, .cells #[vi (farV k p)] 3 (0, 0))]) (by classical exact List.perm_iff_count.2 fun a => by simp only [List.count_append, List.count_cons, List.count_nil] <;> omega) ?_
        refine Ow.callX (Y := [(b7, Obj.cells (partC p).toArray 114 (0, 0)), (b35, .cells #[vi (farV k p)] 3 (0, 0))]) (by simp) rfl rfl Tryz.call61 (fun w' hw' hX hn => WNumber_spec b5 D _ _ b35 0 [farV k p] _ _ _ w' hB hX hn (OneS.lit [farV k p] rfl rfl (hw'.has b35 (.cells #[vi (farV k p)] 3 (0, 0)) (by simp))) (fun _ hm => Nat.lt_irrefl _ (above_to hb35 (by simp [keys] at hm ⊢; exact .inr hm))) (by rw [hml]; simp; omega)) (fun v36 D36 hC36 hS36 => ?_)
        obtain ⟨rfl, hB36⟩ := hS36
        rw [numsL_one] at hB36
        have hN36 : New w.heap.size D36 := came_newP hC36 hN
        refine Ow.permL (M := (b7, Obj.cells (partC p).toArray 114 (0, 0)) :: (D36 ++ [(b35, .cells #[vi (farV k p)] 3 (0, 0))])) (by classical exact List.perm_iff_count.2 fun a => by simp only [List.count_append, List.count_cons, List.count_nil] <;> omega) ?_
        refine ko @uKR_1 ?_
        first | with_reducible refine ks [] @uKR_1 ?_ | refine kp @uKR_1 ?_
        refine Ow.buildSlice (e := 9) #[vs p.x] rfl rfl (by kernel_rfl) fun b39 hb39 hw39 => ?_
        refine ko @uKR_1 ?_
        refine Ow.permL (M := D36 ++ [(b7, Obj.cells (partC p).toArray 114 (0, 0)), (b35, .cells #[vi (farV k p)] 3 (0, 0)), (b39, .cells #[vs p.x] 9 (0, 0))]) (by classical exact List.perm_iff_count.2 fun a => by simp only [List.count_append, List.count_cons, List.count_nil] <;> omega) ?_
        refine Ow.callX (Y := [(b7, Obj.cells (partC p).toArray 114 (0, 0)), (b35, .cells #[vi (farV k p)] 3 (0, 0)), (b39, .cells #[vs p.x] 9 (0, 0))]) (by simp) rfl rfl Tryz.call62 (fun w' hw' hX hn => WText_spec b5 D36 _ _ b39 0 [p.x] _ _ _ w' hB36 hX hn (StrS.lit [p.x] rfl rfl (hw'.has b39 (.cells #[vs p.x] 9 (0, 0)) (by simp))) (fun _ hm => Nat.lt_irrefl _ (above_to hb39 (by simp [keys] at hm ⊢; exact .inr (.inl hm)))) (by rw [htx, List.length_append, hml, htl]; omega) (by simp)) (fun v40 D40 hC40 hS40 => ?_)
        obtain ⟨rfl, hB40⟩ := hS40
        rw [htx] at hB40
        have hN40 : New w.heap.size D40 := came_newP hC40 hN36
        refine ko @uKR_1 ?_
        first | with_reducible refine ks [] @uKR_1 ?_ | refine kp @uKR_1 ?_
        refine Again.mk ⟨k + 1, D40 ++ [(b7, Obj.cells (partC p).toArray 114 (0, 0)), (b35, .cells #[vi (farV k p)] 3 (0, 0)), (b39, .cells #[vs p.x] 9 (0, 0))]⟩ (by show l.length - (k + 1) < l.length - k; omega) ⟨hlt, hN40.app ⟨hw7, hw35, hw39, trivial⟩, ?_⟩ rfl rfl
        show BldAt b5 (magB ++ (numL (clampN (l.length : Int)) ++ partsB 0 (l.take (k + 1)))) _
        rw [hsn]
        have := hB40.app (Y := [(b7, Obj.cells (partC p).toArray 114 (0, 0)), (b35, .cells #[vi (farV k p)] 3 (0, 0)), (b39, .cells #[vs p.x] 9 (0, 0))])
        rw [Nat.zero_add]
        simpa [pieceB] using this
    · obtain rfl : k = l.length := by omega
      have d1 : decide ((l.length : Int) < (l.length : Int)) = false := decide_eq_false (by omega)
      have hpt := partsB_len hx l.length (Nat.le_refl _)
      rw [List.take_length] at hpt hB
      have hpl : (packB l).length < 34359738368 := by
        unfold packB
        rw [List.length_append, List.length_append, show magB.length = 4 from rfl]
        omega
      first | with_reducible refine ks [] (And.intro @uKR_1 @d1) ?_ | refine kp (And.intro @uKR_1 @d1) ?_
      refine Ow.callX (Y := []) (by simp) rfl rfl Tryz.call64 (fun w' hw' hX hn => WString_spec b5 D (packB l) w' hB hX hn hpl) (fun v42 D42 hC42 hS42 => ?_)
      subst hS42
      have hN42 : New w.heap.size D42 := came_newP hC42 hN
      rw [List.append_nil]
      refine ko @uKR_1 ?_
      refine Ow.callFV rfl Tryz.call63 (fun w' hw' => cSeal_spec (packB l) w' (hC.newP hw' hN42) (by omega)) ?_
      refine ko @uKR_1 ?_
      first | with_reducible refine ks [] @uKR_1 ?_ | refine kp @uKR_1 ?_
      refine ⟨_, (ke @uKR_1), hN42, ?_⟩
      rfl
end Go.Proofs
end
section
open Go Go.Proofs Go.Sx Go.StP Go.Flo
namespace Go.Proofs
set_option maxRecDepth 10000
set_option maxHeartbeats 400000
set_option linter.unusedSimpArgs false
/-! ### Objects and parts, compared -/
theorem eqDi (a b : Int) : eqD Tryz.prog 7 3 (vi a) (vi b) = some (a == b) := by unfold eqD; rw [Tryz.underlying3]; rfl
theorem eqDs (a b : List UInt8) : eqD Tryz.prog 7 9 (vs a) (vs b) = some (a == b) := by unfold eqD; rw [Tryz.underlying9]; simp only [vs, bs_beq]
theorem eqDb (a b : Bool) : eqD Tryz.prog 7 4 (.bool a) (.bool b) = some (a == b) := by unfold eqD; rw [Tryz.underlying4]; rfl
theorem agI : aggT Tryz.prog 3 = some (false, 1) := id (by kernel_rfl)
theorem agS : aggT Tryz.prog 9 = some (false, 1) := id (by kernel_rfl)
theorem agB : aggT Tryz.prog 4 = some (false, 1) := id (by kernel_rfl)
theorem eqDOb (a b : ObL) : eqD Tryz.prog 8 43 (obV a.k a.t) (obV b.k b.t) = some (decide (a = b)) := by
  have p0 : ∀ o : ObL, Sx.partV (false, 1) #[vi o.k, vs o.t] 0 = some (vi o.k) := fun _ => rfl
  have p1 : ∀ o : ObL, Sx.partV (false, 1) #[vi o.k, vs o.t] 1 = some (vs o.t) := fun _ => rfl
  unfold eqD obV
  rw [Tryz.underlying43]
  simp only
  rw [show Tryz.prog.stoodInHeld 43 = false by kernel_rfl]
  simp only [Bool.false_eq_true, ↓reduceIte, eqFieldsV, eqPartV, agI, agS, p0, p1, eqDi, eqDs]
  obtain ⟨k, t⟩ := a
  obtain ⟨k', t'⟩ := b
  have e : decide ((⟨k, t⟩ : ObL) = ⟨k', t'⟩) = ((k == k') && (t == t')) := by rw [Bool.eq_iff_iff]; simp
  rw [e]
  cases (k == k') <;> cases (t == t') <;> rfl
theorem eqObC (a b : ObL) : binX Tryz.prog .eql 43 (obV a.k a.t) (obV b.k b.t) = some (.bool (decide (a = b))) := by
  have h := eqDOb a b
  unfold binX eqX obV at *; rw [show Tryz.prog.eqGuardType Tryz.prog.depth 43 = false by kernel_rfl]; simp [plainV, h]
theorem neObC (a b : ObL) : binX Tryz.prog .neq 43 (obV a.k a.t) (obV b.k b.t) = some (.bool (!decide (a = b))) := by
  have h := eqDOb a b
  unfold binX eqX obV at *; rw [show Tryz.prog.eqGuardType Tryz.prog.depth 43 = false by kernel_rfl]; simp [plainV, h]
instance : DecidableEq PartL := fun a b => if h : a.d = b.d ∧ a.b = b.b ∧ a.x = b.x then .isTrue (by cases a; cases b; simp only at h; obtain ⟨rfl, rfl, rfl⟩ := h; rfl) else .isFalse (fun e => h (by rw [e]; exact ⟨rfl, rfl, rfl⟩))
theorem eqDPart (a b : PartL) : eqD Tryz.prog 8 114 (.agg (partC a).toArray) (.agg (partC b).toArray) = some (decide (a = b)) := by
  have p0 : ∀ o : PartL, Sx.partV (false, 1) (partC o).toArray 0 = some (.bool o.d) := fun _ => rfl
  have p1 : ∀ o : PartL, Sx.partV (false, 1) (partC o).toArray 1 = some (vi o.b) := fun _ => rfl
  have p2 : ∀ o : PartL, Sx.partV (false, 1) (partC o).toArray 2 = some (vs o.x) := fun _ => rfl
  unfold eqD
  rw [Tryz.underlying114]
  simp only
  rw [show Tryz.prog.stoodInHeld 114 = false by kernel_rfl]
  simp only [Bool.false_eq_true, ↓reduceIte, eqFieldsV, eqPartV, agI, agS, agB, p0, p1, p2, eqDi, eqDs, eqDb]
  obtain ⟨d, k, t⟩ := a
  obtain ⟨d', k', t'⟩ := b
  have e : decide ((⟨d, k, t⟩ : PartL) = ⟨d', k', t'⟩) = ((d == d') && ((k == k') && (t == t'))) := by rw [Bool.eq_iff_iff]; simp
  rw [e]
  simp only [ne_eq, String.reduceEq, not_false_eq_true, ↓reduceIte]
  cases (d == d') <;> cases (k == k') <;> cases (t == t') <;> rfl
theorem nePartC (a b : PartL) : binX Tryz.prog .neq 114 (.agg (partC a).toArray) (.agg (partC b).toArray) = some (.bool (!decide (a = b))) := by
  have h := eqDPart a b
  unfold binX eqX; rw [show Tryz.prog.eqGuardType Tryz.prog.depth 114 = false by kernel_rfl]; simp [plainV, h]
/-- The first place of an object. -/
def idxO (x : ObL) : List ObL → Nat → Int
  | [], _ => -1
  | y :: r, i => if x = y then (i : Int) else idxO x r (i + 1)
theorem idxO_any (x : ObL) : ∀ (l : List ObL) (i : Nat), decide (0 ≤ idxO x l i) = decide (x ∈ l)
  | [], _ => rfl
  | y :: r, i => by
    unfold idxO
    by_cases h : x = y
    · rw [if_pos h, decide_eq_true (show (0 : Int) ≤ (i : Int) by omega), decide_eq_true (by rw [h]; exact List.mem_cons_self)]
    · rw [if_neg h, idxO_any x r (i + 1)]
      simp [h]
set_option linter.defProp false
def uKS_1 := And.intro (And.intro (@eqObC) (And.intro (@load_ob) (@load_ob0))) (And.intro (@load_ob1) (And.intro (@rdIn_v8) (@rdIn_vi)))
theorem IndexO_spec (v : Value) (l : List ObL) (x : ObL) (w : World) (hv : ObSl w v l) (hl : l.length < 1000000) :
    Rets Tryz.prog 157 #[v, obV x.k x.t] w (fun v' D => v' = vi (idxO x l 0) ∧ D = []) := by
  obtain ⟨b, off, arr, E, fz, hr⟩ := hv.row
  have ln := hv.len
  refine Rets.enterV Tryz.func157 rfl (rs := [.tmp 4]) Tryz.results157 Tryz.ntmps157 ?_
  refine kf ?_
  first | with_reducible refine ks [] @uKS_1 ?_ | refine kp @uKS_1 ?_
  refine Ow.box rfl rfl fun b1 hb1 hw1 => ?_
  simp only [ev_tmp, getF_0, getF_s, obV, cells_agg, List.nil_append]
  refine ko @uKS_1 ?_
  first | with_reducible refine ks [] (And.intro @uKS_1 @ln) ?_ | refine kp (And.intro @uKS_1 @ln) ?_
  refine Cw.loopG (G := Nat) [9, 10, 5, 11, 12, 13, 14, 15, 16, 17, 4, 18, 8] (fun g => [(8, vi g)]) (fun g => [(b1, .cells #[vi x.k, vs x.t] 43 (0, 0))]) (fun g => g ≤ l.length ∧ idxO x l 0 = idxO x (l.drop g) g) (fun g => l.length - g) 0 rfl rfl ?_ ?_
  · exact ⟨Nat.zero_le _, rfl⟩
  · intro k jk hk
    refine kv ?_
    obtain ⟨h1, h2⟩ := hk
    by_cases hk : k < l.length
    · have h0 : 0 < l.length := by omega
      have hbl := hr.lt h0
      have hn1 : b1 ≠ b := by omega
      have r2 := hr.has h0
      have i2 := hr.idx true k hk
      have l2 := row_obj hr hk
      rw [drop_cons (z := ob0) hk, idxO] at h2
      first | with_reducible refine ks [] @uKS_1 ?_ | refine kp @uKS_1 ?_
      refine Cw.regionS [b1, b] [1, 2, 3, 0, 4, 5] [] (by kernel_rfl) (by kernel_rfl) (by kernel_rfl) ?_
      simp only [nl_cons, ↓pickL_nil, ↓pickL_cons, ↓nthO_0, ↓nthO_s, consO_some]
      refine kq (And.intro @uKS_1 ( And.intro @i2 ( And.intro @r2 (@l2)))) ?_
      by_cases hq : x = l.getD k ob0
      · rw [if_pos hq] at h2
        rw [h2]
        have d1 : decide (x = l.getD k ob0) = true := decide_eq_true hq
        first | with_reducible refine ks [] (And.intro @uKS_1 @d1) ?_ | refine kp (And.intro @uKS_1 @d1) ?_
        refine ⟨_, (ke @uKS_1), ⟨hw1, trivial⟩, ?_⟩
        rfl
      · rw [if_neg hq] at h2
        have d1 : decide (x = l.getD k ob0) = false := decide_eq_false hq
        first | with_reducible refine ks [] (And.intro @uKS_1 @d1) ?_ | refine kp (And.intro @uKS_1 @d1) ?_
        exact Again.mk (k + 1) (by omega) ⟨hk, h2⟩ rfl rfl
    · obtain rfl : k = l.length := by omega
      rw [List.drop_length] at h2
      rw [h2]
      first | with_reducible refine ks [] @uKS_1 ?_ | refine kp @uKS_1 ?_
      refine ⟨_, (ke @uKS_1), ⟨hw1, trivial⟩, ?_⟩
      rfl
theorem ContainsO_spec (v : Value) (l : List ObL) (x : ObL) (w : World) (hv : ObSl w v l) (hl : l.length < 1000000) :
    Rets Tryz.prog 124 #[v, obV x.k x.t] w (fun v' D => v' = .bool (decide (x ∈ l)) ∧ D = []) := by
  refine Rets.enterV Tryz.func124 rfl (rs := [.tmp 4]) Tryz.results124 Tryz.ntmps124 ?_
  refine kf ?_
  first | with_reducible refine ks [] @uKS_1 ?_ | refine kp @uKS_1 ?_
  refine Ow.box rfl rfl fun b1 hb1 hw1 => ?_
  simp only [ev_tmp, getF_0, getF_s, obV, cells_agg, List.nil_append]
  refine ko @uKS_1 ?_
  first | with_reducible refine ks [] @uKS_1 ?_ | refine kp @uKS_1 ?_
  refine Ow.callFV rfl Tryz.call157 (fun w' hw' => IndexO_spec v l x w' (hv.oldN hw' ⟨hw1, trivial⟩) hl) ?_
  refine ko @uKS_1 ?_
  refine ⟨_, (ke @uKS_1), ⟨hw1, trivial⟩, ?_⟩
  exact congrArg Value.bool (idxO_any x l 0)
end Go.Proofs
end
section
open Go Go.Proofs Go.Sx Go.StP Go.Flo
namespace Go.Proofs
set_option maxRecDepth 10000
set_option maxHeartbeats 400000
set_option linter.unusedSimpArgs false
/-! ### pack.Open -/
theorem headR_n (s : List UInt8) : ∃ n : Nat, (headR s).1 = n ∧ n ≤ 200 := by
  unfold headR
  split
  · have := numR_mostE (s := s) (a := (rawR s 0 0 4).2.1) (e := (rawR s 0 0 4).2.2) (most := 200) (by omega)
    exact ⟨(numR s (rawR s 0 0 4).2.1 (rawR s 0 0 4).2.2 200).1.toNat, by simp only; omega, by omega⟩
  · exact ⟨0, rfl, by omega⟩
theorem headR_le (s : List UInt8) : (headR s).2.2.1 ≤ s.length := by
  have h1 := rawR_le (s := s) (a := 0) (e := 0) (n := 4) (Nat.zero_le _)
  unfold headR
  split
  · exact (numR_le (e := (rawR s 0 0 4).2.2) (most := 200) h1.2).2
  · exact h1.2
theorem textR_most (s : List UInt8) (a : Nat) (e most : Int) (hm : 0 ≤ most) : ((textR s a e most).1.length : Int) ≤ most := by
  have h1 := numR_mostE (s := s) (a := a) (e := e) (most := most) hm
  have h2 : ∀ (b : Nat) (e n : Int), 0 ≤ n → ((rawR s b e n).1.length : Int) ≤ n := by
    intro b e n hn
    unfold rawR
    split
    · simpa using hn
    · split
      · simpa using hn
      · split
        · simpa using hn
        · simp only [List.length_take, List.length_drop]; omega
  unfold textR
  simp only
  split
  · simpa using hm
  · have := h2 (numR s a e most).2.1 (numR s a e most).2.2 (numR s a e most).1 h1.1
    omega
theorem piecesR_x {s : List UInt8} : ∀ (k i a : Nat) (e : Int) (p : PartL), p ∈ (piecesR s k i a e).1 → p.x.length ≤ 65536
  | 0, i, a, e, p, h => by cases h
  | k + 1, i, a, e, p, h => by
    unfold piecesR at h
    split at h
    · rcases List.mem_cons.1 h with rfl | h
      · have := textR_most s (numR s a e 200).2.1 (numR s a e 200).2.2 65536 (by omega)
        show (textR s (numR s a e 200).2.1 (numR s a e 200).2.2 65536).1.length ≤ 65536
        omega
      · exact piecesR_x k _ _ _ p h
    · cases h
theorem readP_small (s : List UInt8) : SmallP (readP s).1 := fun g hg => Nat.le_trans (piecesR_x _ _ _ _ _ (getD_mem hg)) (by omega)
theorem readP_len (s : List UInt8) : (readP s).1.length ≤ 200 ∧ (readP s).2.1.length = (readP s).1.length := by
  obtain ⟨n, hn, hle⟩ := headR_n s
  have := piecesR_len (s := s) (headR s).1.toNat 0 (headR s).2.2.1 (headR s).2.2.2
  unfold readP
  rw [hn, Int.toNat_natCast] at this ⊢
  omega
theorem gri_key {D : Heap} {E : TypeId} {m n : Nat} {v : Value} {cs : List Value} (h : GrI D E m v n cs) {b : Nat} (hb : slB v = some b) : b ∈ keys D := by
  obtain ⟨X, hX, h⟩ := h
  obtain ⟨p, hp, rfl⟩ := List.mem_map.1 (h.key hb)
  exact List.mem_map.2 ⟨p, hX p hp, rfl⟩
theorem gri_cell {D : Heap} {E : TypeId} {m n : Nat} {v : Value} {cs : List Value} (h : GrI D E m v n cs) : Value.oneCell' v = true ∧ v.cells = #[v] := by
  obtain ⟨X, hX, h⟩ := h; exact h.cell
theorem build_pk2 {v0 v1 : Value} (h0 : Value.oneCell' v0 = true ∧ v0.cells = #[v0]) (h1 : Value.oneCell' v1 = true ∧ v1.cells = #[v1]) : buildV (plcT Tryz.prog 117) (zeroV Tryz.prog 117) [(0, v0), (1, v1)] = some (.agg #[v0, v1, .slice none 0 0, .slice none 0 0]) := by
  rw [show plcT Tryz.prog 117 = some [(0, 1), (1, 1), (2, 1), (3, 1)] from id (by kernel_rfl), zrPk]
  simp [buildV, Sx.fillV, h0.2, h1.2, putC]
theorem zrPr : zeroV Tryz.prog 137 = some (.agg #[.pointer none, .slice none 0 0, .slice none 0 0]) := id (by kernel_rfl)
theorem build_pr (b : Nat) : buildV (plcT Tryz.prog 137) (zeroV Tryz.prog 137) [(0, vp b 0)] = some (.agg #[vp b 0, .slice none 0 0, .slice none 0 0]) := by
  rw [show plcT Tryz.prog 137 = some [(0, 1), (1, 1), (2, 1)] from id (by kernel_rfl), zrPr]; rfl
/-- What Open hands back. -/
def OpenS (b : List UInt8) (v : Value) (D : Heap) : Prop := match openV b with
  | some q => ∃ bp, v = .tuple #[vp bp 0, vi 0] ∧ PackD D bp q.1 q.2.1 q.2.2.1 q.2.2.2
  | none => v = .tuple #[.pointer none, vi 2]
set_option linter.defProp false
def uKT_1 := And.intro (And.intro (@rdIn_v8) (And.intro (@rdIn_vi) (@load_pr0))) (And.intro (And.intro (@load_pr1) (@load_pr2)) (And.intro (@Sx.tup2_0) (@Sx.tup2_1)))
theorem OpenP_spec (b : List UInt8) (w : World) (hG : GlobE w) (hC : GlobC w) (hb : b.length < 1099511627776) :
    Rets Tryz.prog 17 #[vs b] w (XS w [] (OpenS b)) := by
  have hgr : 3 < w.heap.size := by obtain ⟨e0, e1, f0, f1, h0, h1⟩ := hG; exact (Array.getElem?_eq_some_iff.1 h1).1
  refine Rets.enterX Tryz.func17 rfl (rs := [.tmp 2, .tmp 3]) Tryz.results17 Tryz.ntmps17 (fun p hp => by cases hp) (by simp [keys]) ?_
  refine kf ?_
  first | with_reducible refine ks [8] @uKT_1 ?_ | refine kp @uKT_1 ?_
  refine Ow.callFV rfl Tryz.call70 (fun w' hw' => cUnseal_spec b w' (hC.newP hw' trivial) (by omega)) ?_
  have hun : (unsealV b).1.length ≤ b.length := by
    unfold unsealV
    split
    · simp
    · split
      · simp only [List.length_take]; omega
      · simp
  unfold OpenS openV
  generalize unsealV b = u at *
  obtain ⟨s, ok⟩ := u
  simp only at hun ⊢
  cases ok with
  | false =>
    rw [if_neg (by simp)]
    refine ko @uKT_1 ?_
    first | with_reducible refine ks [] @uKT_1 ?_ | refine kp @uKT_1 ?_
    refine ⟨_, (ke @uKT_1), ?_⟩
    exact ⟨Ext.refl _ _, rfl⟩
  | true =>
    refine ko @uKT_1 ?_
    first | with_reducible refine ks [] @uKT_1 ?_ | refine kp @uKT_1 ?_
    refine Ow.callF rfl rfl Tryz.call71 (S := fun B v D => ∃ b', B ≤ b' ∧ v = vp b' 0 ∧ D = [(b', wrO s 0 0)]) (fun w' hw' => RNew_spec s w') ?_
    rintro B v D hab hB ⟨bw, hbw, rfl, rfl⟩
    have hww : w.heap.size ≤ bw := by omega
    refine ⟨_, Mrg.fresh (by intro q hq; simp only [keys, List.map_cons, List.map_nil, List.mem_singleton] at hq; omega), ?_⟩
    rw [List.nil_append]
    refine ko @uKT_1 ?_
    refine Ow.build (.agg #[vp bw 0, .slice none 0 0, .slice none 0 0]) rfl (build_pr bw) ?_
    refine ko @uKT_1 ?_
    refine Ow.box rfl rfl fun br hbr hwr => ?_
    simp only [ev_tmp, getF_0, getF_s, cells_agg]
    have hwbr : bw < br := above_to hbr (by simp [keys])
    refine Ow.permL (M := [(br, prO (vp bw 0) (.slice none 0 0) (.slice none 0 0)), (bw, wrO s 0 0)]) (List.Perm.swap _ _ _) ?_
    refine ko @uKT_1 ?_
    first | with_reducible refine ks [] @uKT_1 ?_ | refine kp @uKT_1 ?_
    refine Ow.callX (Y := []) (by simp) rfl rfl Tryz.call72 (fun w' hw' hX hn => head_spec br bw s (.slice none 0 0) (.slice none 0 0) w' (by omega) (by omega) (hX _ List.mem_cons_self) (hX _ (List.mem_cons_of_mem _ List.mem_cons_self))) (fun v22 D22 hC22 hS22 => ?_)
    obtain ⟨rfl, rfl⟩ := hS22
    clear hC22
    obtain ⟨n, hn, hn2⟩ := headR_n s
    have hle := headR_le s
    have hrp : readP s = piecesR s n 0 (headR s).2.2.1 (headR s).2.2.2 := by unfold readP; rw [hn, Int.toNat_natCast]
    have hrl := readP_len s
    have hrs := readP_small s
    rw [hn, List.append_nil]
    refine ko @uKT_1 ?_
    first | with_reducible refine ks [] @uKT_1 ?_ | refine kp @uKT_1 ?_
    refine Ow.callX (Y := []) (by simp) rfl rfl Tryz.call73 (fun w' hw' hX hn => read_spec br bw s n (headR s).2.2.1 (headR s).2.2.2 w' (by omega) (by omega) hle (by omega) (hX _ List.mem_cons_self) (hX _ (List.mem_cons_of_mem _ List.mem_cons_self))) (fun v27 D27 hC27 hS27 => ?_)
    obtain ⟨rfl, v1, v2, D', rfl, hg1, hg2⟩ := hS27
    rw [← hrp] at hg1 hg2
    rw [← hrp]
    generalize (headR s).2.1 = okh
    generalize readP s = r at *
    obtain ⟨l, sp, a, e⟩ := r
    simp only at hg1 hg2 hrl hrs ⊢
    have hN : New w.heap.size D' := New.of_le fun c hc => by
      rcases hC27.new c (by simp only [keys, List.map_cons, List.mem_cons]; exact .inr (.inr hc)) with h | h
      · simp [keys] at h; omega
      · exact h.2
    rw [List.append_nil]
    refine ko @uKT_1 ?_
    first | with_reducible refine ks [] @uKT_1 ?_ | refine kp @uKT_1 ?_
    refine Cw.regionS [br] [0, 1, 2, 4, 5, 6, 3, 7, 8, 9, 10] [] (by kernel_rfl) (by kernel_rfl) (by kernel_rfl) ?_
    simp only [nl_cons, ↓pickL_nil, ↓pickL_cons, ↓nthO_0, ↓nthO_s, consO_some]
    refine kq @uKT_1 ?_
    refine Ow.build (.agg #[v1, v2, .slice none 0 0, .slice none 0 0]) rfl (build_pk2 (gri_cell hg1) (gri_cell hg2)) ?_
    refine kq @uKT_1 ?_
    refine Ow.soft rfl rfl rfl ?_
    refine Ow.box rfl rfl fun bk hbk hwk => ?_
    simp only [ev_tmp, getF_0, getF_s, cells_agg]
    have hbrk : br < bk := above_to hbk (by simp [keys])
    have hDk : ∀ c, c ∈ keys D' → c < bk := fun c hc => above_to hbk (by simp only [keys, List.map_cons, List.mem_cons]; exact .inr (.inr hc))
    refine Ow.permL (M := (bk, .cells #[v1, v2, .slice none 0 0, .slice none 0 0] 117 (0, 0)) :: ((br, prO (vp bw 0) v1 v2) :: (bw, wrO s a e) :: D')) (by classical exact List.perm_iff_count.2 fun a => by simp only [List.count_append, List.count_cons, List.count_nil] <;> omega) ?_
    refine Ow.permL (M := (bk, pkO v1 v2 (.slice none 0 0) (.slice none 0 0)) :: ((br, prO (vp bw 0) v1 v2) :: (bw, wrO s a e) :: D')) (List.Perm.refl _) ?_
    with_reducible refine Ow.nil ?_
    refine ⟨(fun r hr => by rw [List.mem_singleton] at hr; subst hr; simp (disch := omega) only [read_same, read_other]), ?_⟩
    refine kq @uKT_1 ?_
    have hN2 : New w.heap.size ((br, prO (vp bw 0) v1 v2) :: (bw, wrO s a e) :: D') := ⟨hwr, hww, hN⟩
    have hN3 : New w.heap.size ((bk, pkO v1 v2 (.slice none 0 0) (.slice none 0 0)) :: (br, prO (vp bw 0) v1 v2) :: (bw, wrO s a e) :: D') := ⟨hwk, hN2⟩
    obtain hok | hok : okh = false ∨ okh = true := by cases okh <;> simp
    · subst hok
      rw [if_neg (by simp)]
      first | with_reducible refine ks [] @uKT_1 ?_ | refine kp @uKT_1 ?_
      refine ⟨_, (ke @uKT_1), ?_⟩
      exact ⟨Ext.of_new hN3, rfl⟩
    · subst hok
      first | with_reducible refine ks [] @uKT_1 ?_ | refine kp @uKT_1 ?_
      refine Ow.callFV rfl Tryz.call74 (fun w' hw' => REndE_spec bw s a e w' (hw'.has _ _ (List.mem_cons_of_mem _ (List.mem_cons_of_mem _ List.mem_cons_self)))) ?_
      by_cases he : endE s a e = 0
      · have e1 : (endE s a e != 0) = false := by simp [he]
        rw [if_pos ⟨rfl, rfl, he⟩]
        refine ko (And.intro @uKT_1 @e1) ?_
        refine Ow.callX (Y := (br, prO (vp bw 0) v1 v2) :: (bw, wrO s a e) :: D') (by simp) rfl rfl Tryz.call59 (fun w' hw' hX hn => fill_spec bk v1 v2 l w' ((hg1.mono (fun q hq => by simp [hq])).slV hw' rfl rfl partC_len) (hG.new hw' hN3) hrs.bnd (by omega) (hX _ List.mem_cons_self) (fun h => by have := hDk _ (gri_key hg1 h); omega) (by omega)) (fun v50 D50 hC50 hS50 => ?_)
        have hN50 : New w.heap.size D50 := came_newP hC50 ⟨hwk, trivial⟩
        unfold FillS at hS50
        cases hf : fillV l with
        | none =>
          rw [hf] at hS50
          have hS50' : v50 = .bool false := hS50
          subst hS50'
          refine ko @uKT_1 ?_
          first | with_reducible refine ks [] @uKT_1 ?_ | refine kp @uKT_1 ?_
          refine ⟨_, (ke @uKT_1), ?_⟩
          exact ⟨Ext.of_new (hN50.app hN2), rfl⟩
        | some q =>
          rw [hf] at hS50
          obtain ⟨rfl, x2, x3, D'', rfl, hg3, hg4⟩ := hS50
          refine ko @uKT_1 ?_
          first | with_reducible refine ks [] @uKT_1 ?_ | refine kp @uKT_1 ?_
          refine ⟨_, (ke @uKT_1), ?_⟩
          refine ⟨Ext.of_new (hN50.app hN2), bk, rfl, v1, v2, x2, x3, ?_, ?_, ?_, ?_, ?_⟩
          · simp
          · exact hg1.mono fun p hp => by simp [hp]
          · exact hg2.mono fun p hp => by simp [hp]
          · exact hg3.mono fun p hp => by simp [hp]
          · exact hg4.mono fun p hp => by simp [hp]
      · have e1 : (endE s a e != 0) = true := bne_iff_ne.2 he
        rw [if_neg (fun h => he h.2.2)]
        refine ko (And.intro @uKT_1 @e1) ?_
        first | with_reducible refine ks [] @uKT_1 ?_ | refine kp @uKT_1 ?_
        refine ⟨_, (ke @uKT_1), ?_⟩
        exact ⟨Ext.of_new hN3, rfl⟩
end Go.Proofs
end
section
open Go Go.Proofs Go.Sx Go.StP Go.Flo
namespace Go.Proofs
set_option maxRecDepth 10000
set_option maxHeartbeats 400000
set_option linter.unusedSimpArgs false
/-! ### pack.Save -/
structure SvG where
  k : Nat
  out : List ObL
  v6 : Value
  D6 : Heap
  DG : Heap
theorem saveGo_len (l : List PartL) : ∀ k, (saveGo l k).length ≤ k
  | 0 => Nat.le_refl _
  | k + 1 => by
    have := saveGo_len l k
    unfold saveGo
    split
    · split
      · simp; omega
      · omega
    · omega
set_option linter.defProp false
def uKU_1 := And.intro (And.intro (And.intro (@rdIn_v8) (@rdIn_vi)) (And.intro (@load_pr0) (And.intro (@load_pr1) (@load_pr2)))) (And.intro (And.intro (@Sx.tup2_0) (And.intro (@Sx.tup2_1) (@load_ob))) (And.intro (@load_ob0) (And.intro (@load_ob1) (@store_ob))))
theorem SaveP_spec (b : List UInt8) (w : World) (hb : b.length < 1099511627776) :
    Rets Tryz.prog 58 #[vs b] w (XS w [] (fun v D => GrI D 43 2 v (saveV b).length ((saveV b).map obC).flatten)) := by
  refine Rets.enterX Tryz.func58 rfl (rs := [.tmp 2]) Tryz.results58 Tryz.ntmps58 (fun p hp => by cases hp) (by simp [keys]) ?_
  refine kf ?_
  first | with_reducible refine ks [3] @uKU_1 ?_ | refine kp @uKU_1 ?_
  refine Ow.callF rfl rfl Tryz.call71 (S := fun B v D => ∃ b', B ≤ b' ∧ v = vp b' 0 ∧ D = [(b', wrO b 0 0)]) (fun w' hw' => RNew_spec b w') ?_
  rintro B v D hab hB ⟨bw, hbw, rfl, rfl⟩
  have hww : w.heap.size ≤ bw := by omega
  refine ⟨_, Mrg.fresh (by intro q hq; simp only [keys, List.map_cons, List.map_nil, List.mem_singleton] at hq; omega), ?_⟩
  rw [List.nil_append]
  refine ko @uKU_1 ?_
  refine Ow.build (.agg #[vp bw 0, .slice none 0 0, .slice none 0 0]) rfl (build_pr bw) ?_
  refine ko @uKU_1 ?_
  refine Ow.box rfl rfl fun br hbr hwr => ?_
  simp only [ev_tmp, getF_0, getF_s, cells_agg]
  have hwbr : bw < br := above_to hbr (by simp [keys])
  refine Ow.permL (M := [(br, prO (vp bw 0) (.slice none 0 0) (.slice none 0 0)), (bw, wrO b 0 0)]) (List.Perm.swap _ _ _) ?_
  refine ko @uKU_1 ?_
  first | with_reducible refine ks [] @uKU_1 ?_ | refine kp @uKU_1 ?_
  refine Ow.callX (Y := []) (by simp) rfl rfl Tryz.call72 (fun w' hw' hX hn => head_spec br bw b (.slice none 0 0) (.slice none 0 0) w' (by omega) (by omega) (hX _ List.mem_cons_self) (hX _ (List.mem_cons_of_mem _ List.mem_cons_self))) (fun v22 D22 hC22 hS22 => ?_)
  obtain ⟨rfl, rfl⟩ := hS22
  clear hC22
  obtain ⟨n, hn, hn2⟩ := headR_n b
  have hle := headR_le b
  have hrp : readP b = piecesR b n 0 (headR b).2.2.1 (headR b).2.2.2 := by unfold readP; rw [hn, Int.toNat_natCast]
  have hrl := readP_len b
  have hrs := readP_small b
  rw [hn, List.append_nil]
  unfold saveV
  refine ko @uKU_1 ?_
  cases hok : (headR b).2.1 with
  | false =>
    rw [if_neg (by simp)]
    first | with_reducible refine ks [] @uKU_1 ?_ | refine kp @uKU_1 ?_
    refine ⟨_, (ke @uKU_1), ?_⟩
    exact ⟨Ext.of_new ⟨hwr, hww, trivial⟩, Gr.i (X := []) Gr.nl fun p hp => by cases hp⟩
  | true =>
    rw [if_pos rfl]
    first | with_reducible refine ks [] @uKU_1 ?_ | refine kp @uKU_1 ?_
    refine Ow.callX (Y := []) (by simp) rfl rfl Tryz.call73 (fun w' hw' hX hn => read_spec br bw b n (headR b).2.2.1 (headR b).2.2.2 w' (by omega) (by omega) hle (by omega) (hX _ List.mem_cons_self) (hX _ (List.mem_cons_of_mem _ List.mem_cons_self))) (fun v27 D27 hC27 hS27 => ?_)
    obtain ⟨rfl, v1, v2, D', rfl, hg1, hg2⟩ := hS27
    rw [← hrp] at hg1 hg2
    rw [← hrp]
    generalize readP b = r at *
    obtain ⟨l, sp, a, e⟩ := r
    simp only at hg1 hg2 hrl hrs ⊢
    have hN : New w.heap.size D' := New.of_le fun c hc => by
      rcases hC27.new c (by simp only [keys, List.map_cons, List.mem_cons]; exact .inr (.inr hc)) with h | h
      · simp [keys] at h; omega
      · exact h.2
    rw [List.append_nil]
    have ln := gri_len hg1
    refine ko @uKU_1 ?_
    first | with_reducible refine ks [] (And.intro @uKU_1 @ln) ?_ | refine kp (And.intro @uKU_1 @ln) ?_
    refine Cw.permL (M := (br, prO (vp bw 0) v1 v2) :: (bw, wrO b a e) :: (D' ++ ([] ++ []))) (by simp) ?_
    refine Cw.loopG (G := SvG) [32, 33, 7, 35, 36, 37, 38, 39, 40, 34, 41, 42, 8, 9, 44, 45, 43, 46, 47, 10, 11, 48, 49, 50, 51, 52, 53, 54, 55, 56, 57, 58, 59, 60, 61, 62, 63, 6, 64, 31] (fun g => [(31, vi g.k), (6, g.v6)]) (fun g => (br, prO (vp bw 0) v1 v2) :: (bw, wrO b a e) :: (D' ++ (g.D6 ++ g.DG))) (fun g => g.k ≤ l.length ∧ g.out = saveGo l g.k ∧ New w.heap.size g.D6 ∧ New w.heap.size g.DG ∧ Gr g.D6 43 2 g.v6 g.out.length (g.out.map obC).flatten) (fun g => l.length - g.k) ⟨0, [], .slice none 0 0, [], []⟩ rfl rfl ?_ ?_
    · exact ⟨Nat.zero_le _, rfl, trivial, trivial, Gr.nl⟩
    intro g j hg
    refine kv ?_
    obtain ⟨k, out, v6, D6, DG⟩ := g
    simp only at hg ⊢
    obtain ⟨hk, hout, hN6, hNG, hG6⟩ := hg
    have hol := saveGo_len l k
    rw [← hout] at hol
    have hNr : New w.heap.size (D' ++ (D6 ++ DG)) := hN.app (hN6.app hNG)
    by_cases hlt : k < l.length
    · have d1 : decide ((k : Int) < (l.length : Int)) = true := decide_eq_true (by omega)
      have hsv : saveGo l (k + 1) = match partV l (k : Nat) with
        | .ok s => if frOk s = true ∧ readV s ∉ saveGo l k then saveGo l k ++ [readV s] else saveGo l k
        | .error _ => saveGo l k := rfl
      first | with_reducible refine ks [12, 14] (And.intro @uKU_1 @d1) ?_ | refine kp (And.intro @uKU_1 @d1) ?_
      refine Ow.callFV rfl Tryz.call122 (fun w' hw' => TextC_spec v1 l (k : Int) w' ((hg1.mono (fun q hq => by simp [hq])).slV hw' rfl rfl partC_len) hrs.bnd (by omega)) ?_
      rw [← hout] at hsv
      cases hp : partV l (k : Nat) with
      | error e2 =>
        rw [hp] at hsv
        simp only at hsv
        have e0 : (e2 == 0) = false := beq_eq_false_iff_ne.2 (partV_err hp)
        unfold partO
        refine ko @uKU_1 ?_
        first | with_reducible refine ks [] @uKU_1 ?_ | refine kp @uKU_1 ?_
        refine Ow.callFV rfl Tryz.call123 (fun w' hw' => ReadO_specV [] w' (by simp)) ?_
        refine ko @uKU_1 ?_
        refine Ow.alloc rfl rfl zrOb fun b10 hb10 hw10 => ?_
        simp only [cells_agg, List.nil_append, List.cons_append]
        refine Ow.permL (M := (b10, .cells #[vi 0, vs []] 43 (0, 0)) :: ((br, prO (vp bw 0) v1 v2) :: (bw, wrO b a e) :: (D' ++ (D6 ++ DG)))) (by classical exact List.perm_iff_count.2 fun a => by simp only [List.count_append, List.count_cons, List.count_nil] <;> omega) ?_
        refine ko @uKU_1 ?_
        first | with_reducible refine ks [] (And.intro @uKU_1 @e0) ?_ | refine kp (And.intro @uKU_1 @e0) ?_
        refine Cw.permL (M := (br, prO (vp bw 0) v1 v2) :: (bw, wrO b a e) :: (D' ++ (D6 ++ ((b10, .cells #[vi (readV []).k, vs (readV []).t] 43 (0, 0)) :: DG)))) (by classical exact List.perm_iff_count.2 fun a => by simp only [List.count_append, List.count_cons, List.count_nil] <;> omega) ?_
        first | with_reducible refine ks [] @uKU_1 ?_ | refine kp @uKU_1 ?_
        exact Again.mk ⟨k + 1, out, v6, D6, (b10, .cells #[vi (readV []).k, vs (readV []).t] 43 (0, 0)) :: DG⟩ (by show l.length - (k + 1) < l.length - k; omega) ⟨hlt, by exact hsv.symm, hN6, ⟨hw10, hNG⟩, hG6⟩ rfl rfl
      | ok s =>
        rw [hp] at hsv
        simp only at hsv
        have hsl := partV_len hp
        unfold partO
        refine ko @uKU_1 ?_
        first | with_reducible refine ks [] @uKU_1 ?_ | refine kp @uKU_1 ?_
        refine Ow.callFV rfl Tryz.call123 (fun w' hw' => ReadO_specV s w' (by omega)) ?_
        refine ko @uKU_1 ?_
        refine Ow.alloc rfl rfl zrOb fun b10 hb10 hw10 => ?_
        simp only [cells_agg, List.nil_append, List.cons_append]
        have h10r : br < b10 := above_to hb10 (by simp [keys])
        have h10w : bw < b10 := by omega
        refine Ow.permL (M := (b10, .cells #[vi 0, vs []] 43 (0, 0)) :: ((br, prO (vp bw 0) v1 v2) :: (bw, wrO b a e) :: (D' ++ (D6 ++ DG)))) (by classical exact List.perm_iff_count.2 fun a => by simp only [List.count_append, List.count_cons, List.count_nil] <;> omega) ?_
        refine ko @uKU_1 ?_
        cases hfr : frOk s with
        | false =>
          have e1 : ((2 : Int) == 0) = false := rfl
          rw [if_neg (fun h => by rw [hfr] at h; cases h.1)] at hsv
          rw [show (if (false : Bool) = true then (0 : Int) else 2) = 2 from rfl]
          first | with_reducible refine ks [] (And.intro @uKU_1 @e1) ?_ | refine kp (And.intro @uKU_1 @e1) ?_
          refine Cw.permL (M := (br, prO (vp bw 0) v1 v2) :: (bw, wrO b a e) :: (D' ++ (D6 ++ ((b10, .cells #[vi (readV s).k, vs (readV s).t] 43 (0, 0)) :: DG)))) (by classical exact List.perm_iff_count.2 fun a => by simp only [List.count_append, List.count_cons, List.count_nil] <;> omega) ?_
          first | with_reducible refine ks [] @uKU_1 ?_ | refine kp @uKU_1 ?_
          exact Again.mk ⟨k + 1, out, v6, D6, (b10, .cells #[vi (readV s).k, vs (readV s).t] 43 (0, 0)) :: DG⟩ (by show l.length - (k + 1) < l.length - k; omega) ⟨hlt, by exact hsv.symm, hN6, ⟨hw10, hNG⟩, hG6⟩ rfl rfl
        | true =>
          have e1 : ((0 : Int) == 0) = true := rfl
          rw [show (if (true : Bool) = true then (0 : Int) else 2) = 0 from rfl]
          first | with_reducible refine ks [] (And.intro @uKU_1 @e1) ?_ | refine kp (And.intro @uKU_1 @e1) ?_
          refine Ow.callFV rfl Tryz.call124 (fun w' hw' => ContainsO_spec v6 out (readV s) w' (hG6.slM (fun b o hm => hw'.has b o (by simp only [List.mem_cons, List.mem_append]; exact .inr (.inr (.inr (.inr (.inl hm)))))) rfl rfl obC_len) (by omega)) ?_
          by_cases hm : readV s ∈ out
          · have d2 : decide (readV s ∈ out) = true := decide_eq_true hm
            rw [if_neg (fun h => h.2 hm)] at hsv
            refine ko (And.intro @uKU_1 @d2) ?_
            refine Cw.permL (M := (br, prO (vp bw 0) v1 v2) :: (bw, wrO b a e) :: (D' ++ (D6 ++ ((b10, .cells #[vi (readV s).k, vs (readV s).t] 43 (0, 0)) :: DG)))) (by classical exact List.perm_iff_count.2 fun a => by simp only [List.count_append, List.count_cons, List.count_nil] <;> omega) ?_
            first | with_reducible refine ks [] @uKU_1 ?_ | refine kp @uKU_1 ?_
            exact Again.mk ⟨k + 1, out, v6, D6, (b10, .cells #[vi (readV s).k, vs (readV s).t] 43 (0, 0)) :: DG⟩ (by show l.length - (k + 1) < l.length - k; omega) ⟨hlt, by exact hsv.symm, hN6, ⟨hw10, hNG⟩, hG6⟩ rfl rfl
          · have d2 : decide (readV s ∈ out) = false := decide_eq_false hm
            rw [if_pos ⟨hfr, hm⟩] at hsv
            refine ko (And.intro @uKU_1 @d2) ?_
            first | with_reducible refine ks [] @uKU_1 ?_ | refine kp @uKU_1 ?_
            refine Ow.buildSlice (e := 43) #[vi (readV s).k, vs (readV s).t] rfl rfl (slice_one (cs := obC (readV s)) Tryz.underlying29 Tryz.ag43 zrOb (by decide) rfl) fun bc hbc hwc => ?_
            refine ko @uKU_1 ?_
            refine Ow.permL (M := D6 ++ ((b10, .cells #[vi (readV s).k, vs (readV s).t] 43 (0, 0)) :: (br, prO (vp bw 0) v1 v2) :: (bw, wrO b a e) :: (D' ++ (DG ++ [(bc, .cells #[vi (readV s).k, vs (readV s).t] 43 (0, 0))])))) (by classical exact List.perm_iff_count.2 fun a => by simp only [List.count_append, List.count_cons, List.count_nil] <;> omega) ?_
            refine Ow.appendXG (e := 43) (k := 1) (new := obC (readV s)) (X := D6) v6 rfl rfl rfl rfl Tryz.underlying29 Tryz.ag43 (by kernel_rfl) zrOb (by rw [obV, cells_agg]; rfl) Tryz.underlying29 (by intro k h; cases h) hG6 (fun w' hw' => AppX.one1 (hw'.has bc (.cells (obC (readV s)).toArray 43 (0, 0)) (by simp [obC])) (obC_len _) (obC_one _)) (by omega) (fun B5 v5 D5 hA5 hB5 hG5 hk51 hk52 hlk5 => ?_)
            have hN5 : New w.heap.size D5 := New.of_le fun q hq => by
              rcases hk52 q hq with h | h
              · exact hN6.le q h
              · omega
            refine ko @uKU_1 ?_
            refine Cw.permL (M := (br, prO (vp bw 0) v1 v2) :: (bw, wrO b a e) :: (D' ++ (D5 ++ ((b10, .cells #[vi (readV s).k, vs (readV s).t] 43 (0, 0)) :: (DG ++ [(bc, .cells #[vi (readV s).k, vs (readV s).t] 43 (0, 0))]))))) (by classical exact List.perm_iff_count.2 fun a => by simp only [List.count_append, List.count_cons, List.count_nil] <;> omega) ?_
            first | with_reducible refine ks [] @uKU_1 ?_ | refine kp @uKU_1 ?_
            exact Again.mk ⟨k + 1, out ++ [readV s], v5, D5, (b10, .cells #[vi (readV s).k, vs (readV s).t] 43 (0, 0)) :: (DG ++ [(bc, .cells #[vi (readV s).k, vs (readV s).t] 43 (0, 0))])⟩ (by show l.length - (k + 1) < l.length - k; omega) ⟨hlt, by exact hsv.symm, hN5, ⟨hw10, hNG.app ⟨hwc, trivial⟩⟩, by simpa using hG5⟩ rfl rfl
    · obtain rfl : k = l.length := by omega
      have d1 : decide ((l.length : Int) < (l.length : Int)) = false := decide_eq_false (by omega)
      first | with_reducible refine ks [] (And.intro @uKU_1 @d1) ?_ | refine kp (And.intro @uKU_1 @d1) ?_
      refine ⟨_, (ke @uKU_1), ?_⟩
      refine ⟨Ext.of_new ⟨hwr, hww, hNr⟩, ?_⟩
      rw [← hout]
      exact Gr.i hG6 fun p hp => by simp [hp]
end Go.Proofs
end
section
open Go Go.Proofs Go.Sx Go.StP Go.Flo
namespace Go.Proofs
set_option maxRecDepth 10000
set_option maxHeartbeats 400000
set_option linter.unusedSimpArgs false
/-! ### A beginning of a pack's bytes -/
/-- How many parts are whole in so many bytes. -/
def wholeN : Nat → List PartL → Nat → Nat
  | _, [], _ => 0
  | i, p :: r, j => if (pieceB i p).length ≤ j then wholeN (i + 1) r (j - (pieceB i p).length) + 1 else 0
/-- Behind how many bytes a part is whole. -/
def endG (a i : Nat) (l : List PartL) (k : Nat) : Nat := a + (partsB i (l.take (k + 1))).length
/-! ### What some first parts hold -/
theorem fillGo_ok : ∀ (ts : List (List UInt8)) (ids : List IdL) (os : List ObL) (q : List IdL × List ObL), fillGo ts ids os = some q → q = (ids ++ ts.map idOf, os ++ ts.map readV) ∧ ∀ k, k < ts.length → frOk (ts.getD k []) = true ∧ ∀ y, y ∈ ids ++ (ts.take k).map idOf → (idOf (ts.getD k [])).l ≠ y.l
  | [], ids, os, q, h => by cases h; exact ⟨by simp, fun k hk => absurd hk (Nat.not_lt_zero _)⟩
  | s :: r, ids, os, q, h => by
    rw [fillGo] at h
    split at h
    · rename_i hc
      obtain ⟨h1, h2⟩ := fillGo_ok r _ _ q h
      refine ⟨by rw [h1]; simp, ?_⟩
      intro k hk
      cases k with
      | zero =>
        refine ⟨hc.1, fun y hy => ?_⟩
        simp only [List.take_zero, List.map_nil, List.append_nil] at hy
        have := (List.any_eq_false.1 hc.2) y hy
        simpa using this
      | succ k =>
        have := h2 k (by simpa using hk)
        refine ⟨this.1, fun y hy => this.2 y ?_⟩
        simpa using hy
    · cases h
/-- Of some first parts just their objects are saved. -/
theorem saveGo_all {l : List PartL} {q : List IdL × List ObL} (h : fillV l = some q) : q.2.length = l.length ∧ q.1.length = l.length ∧ ∀ k, k ≤ l.length → saveGo l k = q.2.take k := by
  unfold fillV at h
  cases ha : allV l with
  | error e => rw [ha] at h; cases h
  | ok ts =>
    rw [ha] at h
    change fillGo ts [] [] = some q at h
    obtain ⟨h1, h2⟩ := fillGo_ok _ _ _ _ h
    simp only [List.nil_append] at h1 h2
    subst h1
    unfold allV at ha
    split at ha
    · cases ha
    · have hlen := allGo_len _ _ ha
      refine ⟨by simp [hlen], by simp [hlen], ?_⟩
      intro k
      induction k with
      | zero => intro _; rfl
      | succ k ih =>
        intro hk
        have hp := allGo_at _ _ ha k (by omega)
        obtain ⟨hf, hn⟩ := h2 k (by omega)
        unfold saveGo
        rw [hp]
        simp only
        rw [ih (by omega)]
        have hno : readV (ts.getD k []) ∉ (ts.map readV).take k := by
          intro hm
          rw [← List.map_take] at hm
          obtain ⟨s, hs, he⟩ := List.mem_map.1 hm
          refine hn (idOf s) (List.mem_map.2 ⟨s, hs, rfl⟩) ?_
          unfold idOf
          rw [he]
        rw [if_pos ⟨hf, hno⟩]
        have hk' : k < (ts.map readV).length := by rw [List.length_map]; omega
        rw [take_snoc (z := ob0) hk']
        congr 2
        rw [List.getD_eq_getElem?_getD, List.getD_eq_getElem?_getD, List.getElem?_map, List.getElem?_eq_getElem (by omega)]
        rfl
end Go.Proofs
end
section
open Go Go.Proofs Go.Sx Go.StP Go.Flo
namespace Go.Proofs
set_option maxRecDepth 10000
set_option maxHeartbeats 400000
set_option linter.unusedSimpArgs false
/-! ### The laws' own forms: sedimentref09.Same, Great -/
def sumX (l : List PartL) : Nat := (l.map fun p => p.x.length).sum
theorem sumX_snoc {l : List PartL} {k : Nat} (h : k < l.length) : sumX (l.take (k + 1)) = sumX (l.take k) + (l.getD k part0).x.length := by
  unfold sumX
  rw [take_snoc (z := part0) h, List.map_append, List.sum_append]; simp
/-- The sum as the machine has it. -/
def sumW (l : List PartL) : Nat → Int
  | 0 => 0
  | k + 1 => IntKind.i64.wrap (sumW l k + (l.getD k part0).x.length)
def greatV (l : List PartL) : Bool := decide (210 < l.length) || (List.range l.length).any fun k => decide (30000 < sumW l (k + 1))
theorem sumW_eq {l : List PartL} (hx : SmallP l) : ∀ k, k ≤ l.length → k ≤ 210 → sumW l k = (sumX (l.take k) : Nat) ∧ sumX (l.take k) ≤ k * 17000000
  | 0, _, _ => by simp [sumW, sumX]
  | k + 1, hk, h2 => by
    obtain ⟨h1, h3⟩ := sumW_eq hx k (by omega) (by omega)
    have h4 := hx k hk
    rw [sumX_snoc hk]
    unfold sumW
    rw [h1, wrap_i64 _ ⟨by omega, by omega⟩]
    omega
theorem sumX_le : ∀ (l : List PartL) (k : Nat), sumX (l.take k) ≤ sumX l
  | [], k => by simp [sumX]
  | p :: r, 0 => by simp [sumX]
  | p :: r, k + 1 => by
    have := sumX_le r k
    unfold sumX at this ⊢
    simp only [List.take_succ_cons, List.map_cons, List.sum_cons]
    omega
theorem greatV_no {l : List PartL} (h : greatV l = false) : l.length ≤ 210 ∧ (SmallP l → sumX l ≤ 30000 ∧ ∀ p, p ∈ l → p.x.length ≤ 65536) := by
  unfold greatV at h
  simp only [Bool.or_eq_false_iff, decide_eq_false_iff_not, List.any_eq_false, List.mem_range, decide_eq_true_eq] at h
  refine ⟨by omega, fun hs => ?_⟩
  have hx : sumX l ≤ 30000 := by
    by_cases h0 : l.length = 0
    · rw [List.eq_nil_of_length_eq_zero h0]; simp [sumX]
    · have h1 := h.2 (l.length - 1) (by omega)
      rw [show l.length - 1 + 1 = l.length by omega] at h1
      obtain ⟨h2, -⟩ := sumW_eq hs l.length (Nat.le_refl _) (by omega)
      rw [List.take_length] at h2
      omega
  refine ⟨hx, fun p hp => ?_⟩
  obtain ⟨g, hg, rfl⟩ := mem_getD (z := part0) hp
  have h1 := sumX_snoc hg
  have h2 := sumX_le l (g + 1)
  omega
theorem add_wrap (a b : Int) : binV .add (vi a) (vi b) = some (vi (IntKind.i64.wrap (a + b))) := rfl
set_option linter.defProp false
def uKV_1 := And.intro (And.intro (@rdIn_v8) (And.intro (@rdIn_vi) (@load_part0))) (And.intro (And.intro (@load_part1) (@load_part2)) (And.intro (@load_partw) (@nePartC)))
theorem Great_spec (v0 : Value) (l : List PartL) (w : World) (hv : PartSl w v0 l) (_hb : BndL l) : Rets Tryz.prog 13 #[v0] w (fun v D => v = .bool (greatV l) ∧ D = []) := by
  obtain ⟨b, off, arr, E, fz, hr⟩ := hv.row
  have ln := hv.len
  refine Rets.enterV Tryz.func13 rfl (rs := [.tmp 2]) Tryz.results13 Tryz.ntmps13 ?_
  refine kf ?_
  unfold greatV
  by_cases h1 : 210 < l.length
  · have d1 : decide ((210 : Int) < (l.length : Int)) = true := decide_eq_true (by omega)
    rw [decide_eq_true h1, Bool.true_or]
    first | with_reducible refine ks [] (And.intro @uKV_1 ( And.intro @ln (@d1))) ?_ | refine kp (And.intro @uKV_1 ( And.intro @ln (@d1))) ?_
    refine ⟨_, (ke @uKV_1), trivial, ?_⟩
    rfl
  · have d1 : decide ((210 : Int) < (l.length : Int)) = false := decide_eq_false (by omega)
    rw [decide_eq_false h1, Bool.false_or]
    first | with_reducible refine ks [] (And.intro @uKV_1 ( And.intro @ln (@d1))) ?_ | refine kp (And.intro @uKV_1 ( And.intro @ln (@d1))) ?_
    refine Cw.loopG (G := Nat) [8, 9, 10, 11, 14, 15, 16, 17, 18, 19, 20, 21, 3, 22, 23, 2, 12, 13, 4] (fun g => [(3, vi (sumW l g)), (4, vi g)]) (fun g => []) (fun g => g ≤ l.length ∧ ∀ k, k < g → ¬ 30000 < sumW l (k + 1)) (fun g => l.length - g) 0 rfl rfl ?_ ?_
    · exact ⟨Nat.zero_le _, fun k hk => absurd hk (Nat.not_lt_zero _)⟩
    intro k jk hk
    refine kv ?_
    obtain ⟨hk, hs⟩ := hk
    by_cases hlt : k < l.length
    · have d2 : decide ((k : Int) < (l.length : Int)) = true := decide_eq_true (by omega)
      have hx := hr.has (by omega)
      have ix := hr.idx true k hlt
      have ld : loadV (some (false, 1)) (some (.cells arr E fz)) (off + k * 3 + 2) = some (vs (l.getD k part0).x) := hr.cell (j := 2) (n := 1) hlt (by omega)
      have ha : binV .add (vi (sumW l k)) (vi (l.getD k part0).x.length) = some (vi (sumW l (k + 1))) := add_wrap _ _
      generalize hsw : sumW l (k + 1) = W at *
      generalize hsv : sumW l k = W0 at *
      first | with_reducible refine ks [] (And.intro @uKV_1 ( And.intro @ln ( And.intro @d2 ( And.intro @hx ( And.intro @ix ( And.intro @ld (@ha))))))) ?_ | refine kp (And.intro @uKV_1 ( And.intro @ln ( And.intro @d2 ( And.intro @hx ( And.intro @ix ( And.intro @ld (@ha))))))) ?_
      by_cases h3 : 30000 < W
      · have d3 : decide ((30000 : Int) < W) = true := decide_eq_true h3
        have hyes : ((List.range l.length).any fun k => decide (30000 < sumW l (k + 1))) = true := List.any_eq_true.2 ⟨k, List.mem_range.2 hlt, by rw [hsw]; exact d3⟩
        rw [hyes]
        first | with_reducible refine ks [] (And.intro @uKV_1 @d3) ?_ | refine kp (And.intro @uKV_1 @d3) ?_
        refine ⟨_, (ke @uKV_1), trivial, ?_⟩
        rfl
      · have d3 : decide ((30000 : Int) < W) = false := decide_eq_false h3
        first | with_reducible refine ks [] (And.intro @uKV_1 @d3) ?_ | refine kp (And.intro @uKV_1 @d3) ?_
        refine Again.mk (k + 1) (by omega) ⟨hlt, fun j hj => ?_⟩ rfl (by rw [hsw]; rfl)
        by_cases hjk : j = k
        · rw [hjk, hsw]; exact h3
        · exact hs j (by omega)
    · obtain rfl : k = l.length := by omega
      have d2 : decide ((l.length : Int) < (l.length : Int)) = false := decide_eq_false (by omega)
      have hno : ((List.range l.length).any fun k => decide (30000 < sumW l (k + 1))) = false := by
        rw [List.any_eq_false]
        intro k hk
        simpa using hs k (List.mem_range.1 hk)
      rw [hno]
      first | with_reducible refine ks [] (And.intro @uKV_1 ( And.intro @ln (@d2))) ?_ | refine kp (And.intro @uKV_1 ( And.intro @ln (@d2))) ?_
      refine ⟨_, (ke @uKV_1), trivial, ?_⟩
      rfl
/-! ### What is saved of all bytes -/
theorem save_all {l : List PartL} {q : List IdL × List ObL} (h : fillV l = some q) (hx : ∀ p, p ∈ l → p.x.length ≤ 65536) : saveV (sealV (packB l)) = q.2 := by
  obtain ⟨h1, h2⟩ := partsOk_len h hx
  obtain ⟨hh, hr⟩ := readP_app h1 h2 (sum4 (crcV (packB l)))
  obtain ⟨h3, -, h4⟩ := saveGo_all h
  unfold saveV sealV
  rw [hh, hr]
  simp only [↓reduceIte]
  rw [h4 _ (Nat.le_refl _), ← h3, List.take_length]
end Go.Proofs
end
section
open Go Go.Proofs Go.Sx Go.StP Go.Flo
namespace Go.Proofs
set_option maxRecDepth 10000
set_option maxHeartbeats 400000
set_option linter.unusedSimpArgs false
/-! ### alive -/
def abS : List UInt8 := [98, 2, 97, 98]
def abP : PartL := ⟨false, 0, abS⟩
theorem ab_read : frOk abS = true ∧ readV abS = ⟨1, [97, 98]⟩ := by
  have h : frOk abS = true := by decide
  refine ⟨h, ?_⟩
  unfold readV
  rw [if_pos h, if_pos h]
  decide
theorem ab_fill : fillV [abP] = some ([idOf abS], [⟨1, [97, 98]⟩]) := by
  unfold fillV
  rw [show allV [abP] = .ok [abS] from rfl]
  show fillGo [abS] [] [] = _
  rw [fillGo, if_pos ⟨ab_read.1, rfl⟩, fillGo, ab_read.2]
  rfl
theorem ab_small : ∀ p, p ∈ [abP] → p.x.length ≤ 65536 := by
  intro p hp; rw [List.mem_singleton] at hp; subst hp; decide
theorem ab_len : (sealV (packB [abP])).length = 15 := by
  have h1 : numL (clampN (([abP].length : Nat) : Int)) = [1] := by rw [show clampN (([abP].length : Nat) : Int) = 1 from rfl, numL_small (by decide)]; rfl
  have h2 : numL (clampN (farV 0 abP)) = [0] := by rw [show clampN (farV 0 abP) = 0 from rfl, numL_small (by decide)]; rfl
  have h3 : numL (clampN ((abS.length : Nat) : Int)) = [4] := by rw [show clampN ((abS.length : Nat) : Int) = 4 from rfl, numL_small (by decide)]; rfl
  have h4 : textL abP.x = [4] ++ abS := by show numL (clampN ((abS.length : Nat) : Int)) ++ abS = _; rw [h3]
  rw [sealV_len]
  unfold packB partsB partsB pieceB
  rw [h1, h2, h4]
  rfl
theorem eqObK (k k' : Int) (t t' : List UInt8) : binX Tryz.prog .eql 43 (obV k t) (obV k' t') = some (.bool (decide ((⟨k, t⟩ : ObL) = ⟨k', t'⟩))) := eqObC ⟨k, t⟩ ⟨k', t'⟩
theorem one_part {w : World} {b : Nat} {p : PartL} (h : w.heap[b]? = some (.cells (partC p).toArray 114 (0, 0))) : PartSl w (vsl b 0 1 1) [p] :=
  SlV.sl (l := [p]) h (fun k hk j hj => by
    obtain rfl : k = 0 := by simpa using hk
    rw [Nat.zero_mul, Nat.zero_add, List.getElem?_toArray]; rfl) (Nat.le_refl 1) (Nat.le_refl 3)
set_option linter.defProp false
def uKW_1 := And.intro (And.intro (And.intro (@rdIn_v8) (@rdIn_vi)) (And.intro (@Sx.tup2_0) (And.intro (@Sx.tup2_1) (@load_ob)))) (And.intro (And.intro (@load_ob0) (@load_ob1)) (And.intro (@store_ob) (And.intro (@eqObK) (@cells_part))))
theorem aliveP_spec (w : World) (hG : GlobE w) (hC : GlobC w) : Rets Tryz.prog 12 #[] w (fun v D => v = .bool true ∧ D = []) := by
  have hop : openV (sealV (packB [abP])) = some ([abP], _, _) := open_write ab_fill ab_small
  have hsv := save_all ab_fill ab_small
  have hal := ab_len
  have hwv : writeV [abP] = (sealV (packB [abP]), 0) := by unfold writeV; rw [ab_fill]
  generalize sealV (packB [abP]) = b at *
  refine Rets.enterV Tryz.func12 rfl (rs := [.tmp 0]) Tryz.results12 Tryz.ntmps12 ?_
  refine kf ?_
  first | with_reducible refine ks [] @uKW_1 ?_ | refine kp @uKW_1 ?_
  refine Ow.build (.agg (partC abP).toArray) rfl (build_part2 abS) ?_
  refine ko @uKW_1 ?_
  refine Ow.buildSlice (e := 114) (partC abP).toArray rfl rfl (by kernel_rfl) fun b10 hb10 hw10 => ?_
  refine ko @uKW_1 ?_
  refine Ow.callFV rfl Tryz.call14 (fun w' hw' => WriteP_spec (vsl b10 0 1 1) [abP] w' (one_part (hw'.has b10 _ List.mem_cons_self)) (hG.new hw' ⟨hw10, trivial⟩) (hC.newP hw' ⟨hw10, trivial⟩) (fun g hg => by obtain rfl : g = 0 := (by simpa using hg); decide) (by decide)) ?_
  rw [hwv]
  refine ko @uKW_1 ?_
  first | with_reducible refine ks [] @uKW_1 ?_ | refine kp @uKW_1 ?_
  refine Ow.callC rfl rfl Tryz.call17 (fun w' hw' => OpenP_spec b w' (hG.new hw' ⟨hw10, trivial⟩) (hC.newP hw' ⟨hw10, trivial⟩) (by omega)) (fun B1 v1 D1 hA1 hB1 hN1 hS1 => ?_)
  unfold OpenS at hS1
  rw [hop] at hS1
  obtain ⟨bp, rfl, hP⟩ := hS1
  simp only at hP
  have hD1 : New w.heap.size D1 := hN1.mono hB1
  have hmm : ∀ q, q ∈ D1 → q ∈ [(b10, Obj.cells (partC abP).toArray 114 (0, 0))] ++ D1 := fun q hq => List.mem_append_right _ hq
  have h0 : hasV [abP] 0 = true := by decide
  refine ko @uKW_1 ?_
  first | with_reducible refine ks [] @uKW_1 ?_ | refine kp @uKW_1 ?_
  refine Ow.callFV rfl Tryz.call19 (fun w' hw' => PObject_spec bp 0 [abP] (spotsG 0 (4 + (numL [abP].length).length) [abP]) [idOf abS] [⟨1, [97, 98]⟩] w' (hP.inW (fun q hq => by simp [hq]) hw') rfl) ?_
  rw [h0, if_pos rfl, show ([⟨1, [97, 98]⟩] : List ObL).getD (0 : Int).toNat ob0 = ⟨1, [97, 98]⟩ from rfl]
  simp only
  refine ko @uKW_1 ?_
  refine Ow.alloc rfl rfl zrOb fun b5 hb5 hw5 => ?_
  simp only [cells_agg, List.nil_append, List.cons_append]
  refine Ow.permL (M := (b5, .cells #[vi 0, vs []] 43 (0, 0)) :: (b10, .cells (partC abP).toArray 114 (0, 0)) :: D1) (by classical exact List.perm_iff_count.2 fun a => by simp only [List.count_append, List.count_cons, List.count_nil] <;> omega) ?_
  refine ko @uKW_1 ?_
  first | with_reducible refine ks [] @uKW_1 ?_ | refine kp @uKW_1 ?_
  refine Ow.callC rfl rfl Tryz.call58 (fun w' hw' => SaveP_spec b w' (by omega)) (fun B2 v2 D2 hA2 hB2 hN2 hS2 => ?_)
  rw [hsv] at hS2
  simp only at hS2
  have hD2 : New w.heap.size D2 := hN2.mono hB2
  have ln := gri_len hS2
  have e1 : ((0 : Int) == 0) = true := rfl
  have e2 : decide ((⟨1, [97, 98]⟩ : ObL) = ⟨1, [97, 98]⟩) = true := decide_eq_true rfl
  have e3 : ((b.length : Int) == 15) = true := by rw [hal]; rfl
  have e4 : ((([⟨1, [97, 98]⟩] : List ObL).length : Int) == 1) = true := rfl
  refine ko @uKW_1 ?_
  first | with_reducible refine ks [] (And.intro @uKW_1 @e1) ?_ | refine kp (And.intro @uKW_1 @e1) ?_
  refine Ow.build (obV 1 [97, 98]) rfl (build_ob2 1 [97, 98]) ?_
  refine ko (And.intro @uKW_1 ( And.intro @e1 ( And.intro @decide_true ( And.intro @e3 ( And.intro @ln (@e4)))))) ?_
  refine Ow.callFV rfl Tryz.call22 (fun w' hw' => PId_spec bp 0 [abP] (spotsG 0 (4 + (numL [abP].length).length) [abP]) [idOf abS] [⟨1, [97, 98]⟩] w' (hP.inW (fun q hq => by simp [hq]) hw') rfl) ?_
  rw [h0, if_pos rfl, show ([idOf abS] : List IdL).getD (0 : Int).toNat id0 = idOf abS from rfl]
  refine ko @uKW_1 ?_
  refine Ow.callFV rfl Tryz.call24 (fun w' hw' => PFind_spec bp (idOf abS) [abP] (spotsG 0 (4 + (numL [abP].length).length) [abP]) [idOf abS] [⟨1, [97, 98]⟩] w' (hP.inW (fun q hq => by simp [hq]) hw') (by decide)) ?_
  have e5 : (idxG (idOf abS) [idOf abS] 0 == 0) = true := by rw [idxG_cons, beq_self_eq_true, if_pos rfl]; rfl
  refine ko (And.intro @uKW_1 @e5) ?_
  first | with_reducible refine ks [] @uKW_1 ?_ | refine kp @uKW_1 ?_
  refine ⟨_, (ke @uKW_1), (show New w.heap.size ((b5, _) :: (b10, _) :: (D1 ++ D2)) from ⟨hw5, hw10, hD1.app hD2⟩), ?_⟩
  rfl
end Go.Proofs
end
section
open Go Go.Proofs Go.Sx Go.StP Go.Flo
namespace Go.Proofs
set_option maxRecDepth 10000
set_option maxHeartbeats 400000
set_option linter.unusedSimpArgs false
/-! ### PackBack -/
theorem writeV_ok {l : List PartL} {q : List IdL × List ObL} (h : fillV l = some q) : writeV l = (sealV (packB l), 0) := by unfold writeV; rw [h]
theorem writeV_no {l : List PartL} (h : fillV l = none) : writeV l = ([], 1) := by unfold writeV; rw [h]
set_option linter.defProp false
def uKX_1 := And.intro (And.intro (@rdIn_v8) (@rdIn_vi)) (And.intro (@Sx.tup2_0) (@Sx.tup2_1))
end Go.Proofs
end
namespace Go.Sx
def kB (c : Bool) : BitVec 32 := bif c then 3988292384#32 else 0#32
def stB (x : BitVec 32) : BitVec 32 := (x >>> 1) ^^^ kB (x.getLsbD 0)
theorem kB_low (c : Bool) (j : Nat) (h : j < 5) : (kB c).getLsbD j = false := by
  have : j = 0 ∨ j = 1 ∨ j = 2 ∨ j = 3 ∨ j = 4 := by omega
  rcases this with rfl | rfl | rfl | rfl | rfl <;> cases c <;> decide
theorem stB_low (x : BitVec 32) (j : Nat) (h : j < 5) : (stB x).getLsbD j = x.getLsbD (j + 1) := by
  unfold stB
  rw [BitVec.getLsbD_xor, kB_low _ _ h, BitVec.getLsbD_ushiftRight, Bool.xor_false, Nat.add_comm]
theorem stB4 (x : BitVec 32) : stB (stB (stB (stB x))) = (x >>> 4) ^^^ (kB (x.getLsbD 0) >>> 3 ^^^ kB (x.getLsbD 1) >>> 2 ^^^ kB (x.getLsbD 2) >>> 1 ^^^ kB (x.getLsbD 3)) := by
  have h1 : (stB x).getLsbD 0 = x.getLsbD 1 := stB_low x 0 (by omega)
  have h2 : (stB (stB x)).getLsbD 0 = x.getLsbD 2 := by rw [stB_low _ 0 (by omega), stB_low _ 1 (by omega)]
  have h3 : (stB (stB (stB x))).getLsbD 0 = x.getLsbD 3 := by rw [stB_low _ 0 (by omega), stB_low _ 1 (by omega), stB_low _ 2 (by omega)]
  have e4 : stB (stB (stB (stB x))) = (stB (stB (stB x)) >>> 1) ^^^ kB (x.getLsbD 3) := by rw [← h3]; rfl
  have e3 : stB (stB (stB x)) = (stB (stB x) >>> 1) ^^^ kB (x.getLsbD 2) := by rw [← h2]; rfl
  have e2 : stB (stB x) = (stB x >>> 1) ^^^ kB (x.getLsbD 1) := by rw [← h1]; rfl
  have e1 : stB x = (x >>> 1) ^^^ kB (x.getLsbD 0) := rfl
  rw [e4, e3, e2, e1]
  simp only [BitVec.ushiftRight_xor_distrib, ← BitVec.shiftRight_add, BitVec.xor_assoc]
def hvB : List (BitVec 32) := [0x00000000, 0x1db71064, 0x3b6e20c8, 0x26d930ac, 0x76dc4190, 0x6b6b51f4, 0x4db26158, 0x5005713c, 0xedb88320, 0xf00f9344, 0xd6d6a3e8, 0xcb61b38c, 0x9b64c2b0, 0x86d3d2d4, 0xa00ae278, 0xbdbdf21c]
theorem tabB : ∀ a b c d : Bool, (kB a >>> 3 ^^^ kB b >>> 2 ^^^ kB c >>> 1 ^^^ kB d) = hvB.getD (a.toNat + 2 * b.toNat + 4 * c.toNat + 8 * d.toNat) 0 := by decide
theorem lowB (x : BitVec 32) : x.toNat % 16 = (x.getLsbD 0).toNat + 2 * (x.getLsbD 1).toNat + 4 * (x.getLsbD 2).toNat + 8 * (x.getLsbD 3).toNat := by
  have e : ∀ i, (x.getLsbD i).toNat = x.toNat / 2 ^ i % 2 := by
    intro i
    rw [BitVec.getLsbD, Nat.testBit_eq_decide_div_mod_eq]
    have := Nat.mod_lt (x.toNat / 2 ^ i) (show 0 < 2 by omega)
    by_cases h : x.toNat / 2 ^ i % 2 = 1
    · simp [h]
    · have h0 : x.toNat / 2 ^ i % 2 = 0 := by omega
      simp [h0]
  rw [e 0, e 1, e 2, e 3]
  omega
theorem halfB (x : BitVec 32) : stB (stB (stB (stB x))) = (x >>> 4) ^^^ hvB.getD (x.toNat % 16) 0 := by
  rw [stB4, tabB, lowB]
end Go.Sx
