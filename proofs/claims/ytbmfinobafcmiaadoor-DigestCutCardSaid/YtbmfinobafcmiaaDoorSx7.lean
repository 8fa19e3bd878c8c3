/-
  The seventh part: typed forms for texts, cells and addresses; the branches.
  No conditions.
-/
import Derived.Test.YtbmfinobafcmiaaDoorSx6
namespace Go.Sx
open Go
set_option linter.unusedSimpArgs false

section
variable {P : Program} {w0 : World} {f : Fr} {L : Heap} {K : Kont} {N : Fr → Heap → Prop}
theorem thenK_normal (h : N f L) : thenK N K .normal f L := h
theorem thenK_exit {i : Nat} (h : K (.exit i) f L) : thenK N K (.exit i) f L := h
theorem thenK_goto {i : Nat} (h : K (.goto i) f L) : thenK N K (.goto i) f L := h
theorem thenK_ret (h : K .ret f L) : thenK N K .ret f L := h
theorem blockK_normal {i : Nat} (h : K .normal f L) : blockK i K .normal f L := h
theorem blockK_ret {i : Nat} (h : K .ret f L) : blockK i K .ret f L := h
theorem blockK_goto {i j : Nat} (h : K (.goto j) f L) : blockK i K (.goto j) f L := h
theorem blockK_exit {i : Nat} (h : K .normal f L) : blockK i K (.exit i) f L := by simp only [blockK, ↓reduceIte]; exact h
theorem blockK_pass {i j : Nat} (hne : Nat.beq j i = false) (h : K (.exit j) f L) : blockK i K (.exit j) f L := by
  have : j ≠ i := Nat.ne_of_beq_eq_false hne
  simp only [blockK, this, ↓reduceIte]; exact h

theorem Cw.cond_p {c : Operand} {x y : Code} {p : Prop} [Decidable p] (hc : ev f c = .bool (decide p)) (ht : p → Cw P w0 x f L K) (he : ¬ p → Cw P w0 y f L K) : Cw P w0 (.cond c x y) f L K :=
  Cw.cond hc (fun h => ht (of_decide_eq_true h)) (fun h => he (of_decide_eq_false h))
theorem Cw.cond_pt {c : Operand} {x y : Code} {p : Prop} [Decidable p] (hc : ev f c = .bool (decide p)) (hp : p) (ht : Cw P w0 x f L K) : Cw P w0 (.cond c x y) f L K :=
  Cw.cond_p hc (fun _ => ht) (fun h => absurd hp h)
theorem Cw.cond_pf {c : Operand} {x y : Code} {p : Prop} [Decidable p] (hc : ev f c = .bool (decide p)) (hp : ¬ p) (he : Cw P w0 y f L K) : Cw P w0 (.cond c x y) f L K :=
  Cw.cond_p hc (fun h => absurd h hp) (fun _ => he)
end

/-- A branch, before it is known which way. -/
def CwC (P : Program) (w0 : World) (v : Value) (x y : Code) (f : Fr) (L : Heap) (K : Kont) : Prop := ∃ b, v = .bool b ∧ (b = true → Cw P w0 x f L K) ∧ (b = false → Cw P w0 y f L K)
section
variable {P : Program} {w0 : World} {f : Fr} {L : Heap} {K : Kont} {v : Value} {x y : Code}
theorem Cw.condC {c : Operand} (h : CwC P w0 (ev f c) x y f L K) : Cw P w0 (.cond c x y) f L K := by
  obtain ⟨b, hb, h1, h2⟩ := h
  exact Cw.cond hb h1 h2
theorem CwC.split {b : Bool} (hv : v = .bool b) (ht : b = true → Cw P w0 x f L K) (he : b = false → Cw P w0 y f L K) : CwC P w0 v x y f L K := ⟨b, hv, ht, he⟩
theorem CwC.splitp {p : Prop} [Decidable p] (hv : v = .bool (decide p)) (ht : p → Cw P w0 x f L K) (he : ¬ p → Cw P w0 y f L K) : CwC P w0 v x y f L K :=
  ⟨_, hv, (fun h => ht (of_decide_eq_true h)), (fun h => he (of_decide_eq_false h))⟩
theorem CwC.tt (hv : v = .bool true) (ht : Cw P w0 x f L K) : CwC P w0 v x y f L K := ⟨_, hv, (fun _ => ht), (fun h => by cases h)⟩
theorem CwC.ff (hv : v = .bool false) (he : Cw P w0 y f L K) : CwC P w0 v x y f L K := ⟨_, hv, (fun h => by cases h), (fun _ => he)⟩
theorem CwC.bt {b : Bool} (hv : v = .bool b) (hb : b = true) (ht : Cw P w0 x f L K) : CwC P w0 v x y f L K := CwC.tt (by rw [hv, hb]) ht
theorem CwC.bf {b : Bool} (hv : v = .bool b) (hb : b = false) (he : Cw P w0 y f L K) : CwC P w0 v x y f L K := CwC.ff (by rw [hv, hb]) he
theorem CwC.pt {p : Prop} [Decidable p] (hv : v = .bool (decide p)) (hp : p) (ht : Cw P w0 x f L K) : CwC P w0 v x y f L K := CwC.bt hv (decide_eq_true hp) ht
theorem CwC.pf {p : Prop} [Decidable p] (hv : v = .bool (decide p)) (hp : ¬ p) (he : Cw P w0 y f L K) : CwC P w0 v x y f L K := CwC.bf hv (decide_eq_false hp) he
theorem CwC.it {a b : Int} (hv : v = .bool (a == b)) (hp : a = b) (ht : Cw P w0 x f L K) : CwC P w0 v x y f L K := CwC.bt hv (beq_iff_eq.2 hp) ht
theorem CwC.if {a b : Int} (hv : v = .bool (a == b)) (hp : ¬ a = b) (he : Cw P w0 y f L K) : CwC P w0 v x y f L K := CwC.bf hv (beq_eq_false_iff_ne.2 hp) he
theorem CwC.nt {a b : Int} (hv : v = .bool (a != b)) (hp : ¬ a = b) (ht : Cw P w0 x f L K) : CwC P w0 v x y f L K := CwC.bt hv (bne_iff_ne.2 hp) ht
theorem CwC.nf {a b : Int} (hv : v = .bool (a != b)) (hp : a = b) (he : Cw P w0 y f L K) : CwC P w0 v x y f L K := CwC.bf hv (by rw [hp]; simp) he
end
theorem ev_tmp (f : Fr) (t : Tmp) : ev f (.tmp t) = getF f t := (rfl)
theorem ev_const (f : Fr) (v : Value) : ev f (.const v) = v := (rfl)
theorem ev_global (f : Fr) (g : Nat) : ev f (.global g) = vp g 0 := (rfl)
theorem ev_func (f : Fr) (k : FuncId) : ev f (.func k) = .func (.func k) #[] #[] := (rfl)
theorem getF_0 (v : Value) (r : Fr) : getF (v :: r) 0 = v := (rfl)
theorem getF_s (v : Value) (r : Fr) (n : Nat) : getF (v :: r) (n + 1) = getF r n := (rfl)
theorem setF_0 (v x : Value) (r : Fr) : setF (v :: r) 0 x = x :: r := (rfl)
theorem setF_s (v x : Value) (r : Fr) (n : Nat) : setF (v :: r) (n + 1) x = v :: setF r n x := (rfl)
theorem putF_some (f : Fr) (d : Tmp) (v : Value) : putF f (some d) v = setF f d v := (rfl)
theorem putF_none (f : Fr) (v : Value) : putF f none v = f := (rfl)

/-! ### Texts -/
theorem lit_str (l : List UInt8) : Value.string (ByteArray.mk (List.toArray l)) = vs l := (rfl)
theorem binX_vs (P : Program) (op : BinOp) (t : TypeId) (a b : List UInt8) : binX P op t (vs a) (vs b) = binV op (vs a) (vs b) := (rfl)
theorem size_mk (l : List UInt8) : (ByteArray.mk l.toArray).size = l.length := by simp [ByteArray.size]
theorem toList_mk (l : List UInt8) : (ByteArray.mk l.toArray).toList = l := by rw [ByteArray.toList_eq]
theorem bin_add_s (a b : List UInt8) (h : a.length + b.length ≤ 9223372036854775807) : binV .add (vs a) (vs b) = some (vs (a ++ b)) := by
  simp only [binV, vs, strV, size_mk, h, ↓reduceIte]
  congr 2
theorem bin_eql_s (a b : List UInt8) : binV .eql (vs a) (vs b) = some (.bool (a == b)) := by simp only [binV, vs, strV, toList_mk]
theorem bin_neq_s (a b : List UInt8) : binV .neq (vs a) (vs b) = some (.bool (a != b)) := by simp only [binV, vs, strV, toList_mk]; rfl
theorem bin_lss_s (a b : List UInt8) : binV .lss (vs a) (vs b) = some (.bool (Op.bytesLess a b)) := by simp only [binV, vs, strV, toList_mk]
theorem bin_leq_s (a b : List UInt8) : binV .leq (vs a) (vs b) = some (.bool (Op.bytesLess a b || a == b)) := by simp only [binV, vs, strV, toList_mk]
theorem bin_gtr_s (a b : List UInt8) : binV .gtr (vs a) (vs b) = some (.bool (!(Op.bytesLess a b || a == b))) := by simp only [binV, vs, strV, toList_mk]
theorem bin_geq_s (a b : List UInt8) : binV .geq (vs a) (vs b) = some (.bool (!Op.bytesLess a b)) := by simp only [binV, vs, strV, toList_mk]

theorem index_str (l : List UInt8) (k : Int) (h : 0 ≤ k ∧ k < l.length) : indexV .str (vs l) (some k) = some (v8 (l.getD k.toNat 0)) := by
  have hlt : k.toNat < l.length := by omega
  simp only [indexV, vs, h.1, ↓reduceIte]
  have : (ByteArray.mk l.toArray)[k.toNat]? = some l[k.toNat] := by
    have hs : k.toNat < (ByteArray.mk l.toArray).size := by rw [size_mk]; exact hlt
    rw [ByteArray.getElem?_lt' _ _ hs]; rfl
  rw [this]
  simp [v8, List.getD_eq_getElem?_getD, hlt]
theorem len_str (l : List UInt8) : lenV .str (vs l) = some (vi l.length) := by simp only [lenV, vs, size_mk]; rfl
theorem slice_str (l : List UInt8) (lo hi : Option (Option Int)) (a b : Nat) (h : bndV l.length l.length lo hi = some (a, b)) : sliceV .str (vs l) lo hi = some (vs ((l.take b).drop a)) := by
  simp only [sliceV, vs, size_mk, h]
  rw [ByteArray.extract_mk]
  congr 3
  rw [List.drop_take]
theorem bnd_none (n c : Nat) : bndV n c none none = some (0, n) := (rfl)
theorem bnd_lo (n c : Nat) (l : Int) (h : 0 ≤ l ∧ l ≤ n) : bndV n c (some (some l)) none = some (l.toNat, n) := by simp only [bndV, h, and_self, ↓reduceIte]
theorem bnd_hi (n c : Nat) (l : Int) (h : 0 ≤ l ∧ l ≤ c) : bndV n c none (some (some l)) = some (0, l.toNat) := by simp only [bndV, h, and_self, ↓reduceIte]
theorem bnd_both (n c : Nat) (l k : Int) (h : 0 ≤ l ∧ l ≤ k ∧ k ≤ c) : bndV n c (some (some l)) (some (some k)) = some (l.toNat, k.toNat) := by simp only [bndV, h, and_self, ↓reduceIte]
theorem slice_str_lo (l : List UInt8) (k : Int) (h : 0 ≤ k ∧ k ≤ l.length) : sliceV .str (vs l) (some (some k)) none = some (vs (l.drop k.toNat)) := by
  rw [slice_str l _ _ _ _ (bnd_lo _ _ k h), List.take_length]
theorem slice_str_hi (l : List UInt8) (k : Int) (h : 0 ≤ k ∧ k ≤ l.length) : sliceV .str (vs l) none (some (some k)) = some (vs (l.take k.toNat)) := by
  rw [slice_str l _ _ _ _ (bnd_hi _ _ k h), List.drop_zero]
theorem slice_str_both (l : List UInt8) (j k : Int) (h : 0 ≤ j ∧ j ≤ k ∧ k ≤ l.length) : sliceV .str (vs l) (some (some j)) (some (some k)) = some (vs ((l.take k.toNat).drop j.toNat)) := by
  rw [slice_str l _ _ _ _ (bnd_both _ _ j k h)]

/-! ### Conversions -/
theorem conv_int (w0 : World) (L : Heap) (k : IntKind) (v : Value) : convV w0 L (.int k) v = convI k v := (rfl)
theorem conv_str (w0 : World) (L : Heap) (l : List UInt8) : convV w0 L .str (vs l) = some (vs l) := (rfl)
theorem conv_bytesStr (w0 : World) (L : Heap) (b off n c : Nat) : convV w0 L .bytesStr (vsl b off n c) = textV (readB w0 L b) off n := (rfl)
theorem bytesOf_a8 (l : List UInt8) : bytesOf (l.map fun x => Value.int .u8 (x.toNat : Int)) = some l := by
  induction l with
  | nil => rfl
  | cons x r ih =>
    simp only [List.map_cons, bytesOf, ih, Int.toNat_natCast]
    simp
theorem text_a8 (l : List UInt8) (E : TypeId) (fz : Nat × Nat) (off n : Nat) (h : off + n ≤ l.length) : textV (some (.cells (a8 l) E fz)) off n = some (vs ((l.drop off).take n)) := by
  have hs : off + n ≤ (a8 l).size := by simpa [a8] using h
  simp only [textV, hs, ↓reduceIte]
  have e : ((a8 l).extract off (off + n)).toList = ((l.drop off).take n).map fun x => Value.int .u8 (x.toNat : Int) := by
    simp [a8, List.map_drop, List.map_take, List.take_drop, List.extract_eq_take_drop]
  rw [e, bytesOf_a8]; rfl

/-! ### Addresses -/
theorem fieldAddr_p (off n b o : Nat) (a : Bool) (h : 0 < n) : fieldAddrV (some (off, (a, n))) (vp b o) = some (vp b (o + off)) := by
  have : ¬ n = 0 := by omega
  simp only [fieldAddrV, vp, this, ↓reduceIte, add_spot]
theorem indexAddr_arr (n : Nat) (m : Bool × Nat) (b o : Nat) (k : Int) (h : 0 ≤ k ∧ k < n) : indexAddrV (.arr n m) (vp b o) (some k) = some (vp b (o + k.toNat * m.2)) := by
  simp only [indexAddrV, vp, h, and_self, ↓reduceIte, add_spot]
theorem indexAddr_sl (m : Bool × Nat) (b o n c : Nat) (k : Int) (h : 0 ≤ k ∧ k < n) : indexAddrV (.sl m) (vsl b o n c) (some k) = some (vp b (o + k.toNat * m.2)) := by
  simp only [indexAddrV, vp, vsl, h, and_self, ↓reduceIte, add_spot]
theorem nil_p (b o : Nat) : nilV (vp b o) = some (vp b o) := (rfl)
theorem len_arr (n : Nat) (m : Bool × Nat) (v : Value) : lenV (.arr n m) v = some (vi n) := (rfl)
theorem len_sl (m : Bool × Nat) (b o n c : Nat) : lenV (.sl m) (vsl b o n c) = some (vi n) := (rfl)
theorem len_nil (m : Bool × Nat) (n c : Nat) : lenV (.sl m) (.slice none n c) = some (vi n) := (rfl)
theorem cap_sl (m : Bool × Nat) (b o n c : Nat) : capV (.sl m) (vsl b o n c) = some (vi c) := (rfl)
theorem slice_arr_all (n : Nat) (m : Bool × Nat) (b o : Nat) (h : 0 < n) : sliceV (.arr n m) (vp b o) none none = some (vsl b o n n) := by
  have : ¬ n = 0 := by omega
  simp only [sliceV, vp, bnd_none, this, ↓reduceIte, vsl, add_spot, Nat.zero_mul, Nat.add_zero, Nat.sub_zero]
theorem slice_arr_both (n : Nat) (m : Bool × Nat) (b o : Nat) (j k : Int) (h : 0 ≤ j ∧ j ≤ k ∧ k ≤ n ∧ j < n) : sliceV (.arr n m) (vp b o) (some (some j)) (some (some k)) = some (vsl b (o + j.toNat * m.2) (k.toNat - j.toNat) (n - j.toNat)) := by
  have : ¬ n = j.toNat := by omega
  simp only [sliceV, vp, bnd_both n n j k ⟨h.1, h.2.1, h.2.2.1⟩, this, ↓reduceIte, vsl, add_spot]

/-! ### Known blocks -/
theorem look_same (L : Heap) (b : Nat) (o : Obj) : look ((b, o) :: L) b = some o := by simp [look]
theorem look_other (L : Heap) (b c : Nat) (o : Obj) (h : b ≠ c) : look ((b, o) :: L) c = look L c := by simp [look, h]
theorem look_nil (b : Nat) : look [] b = none := (rfl)
theorem setB_same (L : Heap) (b : Nat) (o x : Obj) : setB ((b, o) :: L) b x = (b, x) :: L := by simp [setB]
theorem setB_other (L : Heap) (b c : Nat) (o x : Obj) (h : b ≠ c) : setB ((b, o) :: L) c x = (b, o) :: setB L c x := by simp [setB, h]
theorem read_same (w0 : World) (L : Heap) (b : Nat) (o : Obj) : readB w0 ((b, o) :: L) b = some o := by simp [readB, look]
theorem read_other (w0 : World) (L : Heap) (b c : Nat) (o : Obj) (h : b ≠ c) : readB w0 ((b, o) :: L) c = readB w0 L c := by simp [readB, look, h]
theorem read_old (w0 : World) (b : Nat) : readB w0 [] b = w0.heap[b]? := (rfl)
theorem loadAt_p (m : Option (Bool × Nat)) (w0 : World) (L : Heap) (b o : Nat) : loadAtV m w0 L (vp b o) = loadV m (readB w0 L b) o := (rfl)
theorem load_all (cs : Array Value) (E : TypeId) (fz : Nat × Nat) (n : Nat) (h : cs.size = n) : loadV (some (true, n)) (some (.cells cs E fz)) 0 = some (.agg cs) := by
  subst h
  simp [loadV]
theorem size_a8 (l : List UInt8) : (a8 l).size = l.length := by simp [a8]
theorem size_a32 (l : List UInt32) : (a32 l).size = l.length := by simp [a32]
theorem load_a8 (l : List UInt8) (E : TypeId) (fz : Nat × Nat) (n i : Nat) (h : i < l.length) : loadV (some (false, n)) (some (.cells (a8 l) E fz)) i = some (v8 (l.getD i 0)) := by
  simp [loadV, a8, v8, h]
theorem load_a32 (l : List UInt32) (E : TypeId) (fz : Nat × Nat) (n i : Nat) (h : i < l.length) : loadV (some (false, n)) (some (.cells (a32 l) E fz)) i = some (v32 (l.getD i 0)) := by
  simp [loadV, a32, v32, h]
theorem load_all8 (l : List UInt8) (E : TypeId) (fz : Nat × Nat) (n : Nat) (h : l.length = n) : loadV (some (true, n)) (some (.cells (a8 l) E fz)) 0 = some (.agg (a8 l)) := load_all _ E fz n (by rw [size_a8, h])
theorem load_all32 (l : List UInt32) (E : TypeId) (fz : Nat × Nat) (n : Nat) (h : l.length = n) : loadV (some (true, n)) (some (.cells (a32 l) E fz)) 0 = some (.agg (a32 l)) := load_all _ E fz n (by rw [size_a32, h])

theorem cells_agg (cs : Array Value) : (Value.agg cs).cells = cs := (rfl)
theorem all_a8 (l : List UInt8) : (a8 l).toList.all Value.oneCell' = true := by simp [a8, Value.oneCell']
theorem all_a32 (l : List UInt32) : (a32 l).toList.all Value.oneCell' = true := by simp [a32, Value.oneCell']

theorem putC_eq (vs : List Value) : ∀ (pre mid suf : List Value), mid.length = vs.length → putC (pre ++ mid ++ suf).toArray pre.length vs = (pre ++ vs ++ suf).toArray := by
  induction vs with
  | nil =>
    intro pre mid suf h
    cases mid with
    | nil => rfl
    | cons _ _ => cases h
  | cons v r ih =>
    intro pre mid suf h
    cases mid with
    | nil => cases h
    | cons m ms =>
      simp only [List.length_cons, Nat.add_right_cancel_iff] at h
      have := ih (pre ++ [v]) ms suf h
      simp only [putC]
      have e : ((pre ++ m :: ms ++ suf).toArray.setIfInBounds pre.length v) = (pre ++ [v] ++ ms ++ suf).toArray := by
        simp
      rw [e]
      simpa using this

theorem putC_all (cs : Array Value) (vs : List Value) (h : vs.length = cs.size) : putC cs 0 vs = vs.toArray := by
  have := putC_eq vs [] cs.toList [] (by simpa using h.symm)
  simpa using this

/-- A whole variable is stored. -/
theorem store_all (n : Nat) (a : Bool) (cs old : Array Value) (E : TypeId) (h : cs.size = n ∧ old.size = n) (ho : cs.toList.all Value.oneCell' = true) :
    storeV (some (a, n)) (some (.cells old E (0, 0))) 0 (.agg cs) = some (.cells cs E (0, 0)) := by
  obtain ⟨h1, h2⟩ := h
  have hp : putC old 0 cs.toList = cs := by
    rw [putC_all _ _ (by rw [Array.length_toList, h1, h2])]
  have hz : (0 : Nat) + n ≤ old.size := by omega
  simp only [storeV, cells_agg, h1, hz, Nat.le_refl, true_or, ho, and_self, ↓reduceIte, hp]
theorem store_all8 (n : Nat) (a : Bool) (l : List UInt8) (old : Array Value) (E : TypeId) (h : l.length = n ∧ old.size = n) :
    storeV (some (a, n)) (some (.cells old E (0, 0))) 0 (.agg (a8 l)) = some (.cells (a8 l) E (0, 0)) := store_all n a _ _ E (by rw [size_a8]; exact h) (all_a8 l)
theorem store_all32 (n : Nat) (a : Bool) (l : List UInt32) (old : Array Value) (E : TypeId) (h : l.length = n ∧ old.size = n) :
    storeV (some (a, n)) (some (.cells old E (0, 0))) 0 (.agg (a32 l)) = some (.cells (a32 l) E (0, 0)) := store_all n a _ _ E (by rw [size_a32]; exact h) (all_a32 l)
/-- One cell is stored. -/
theorem store_one (a : Bool) (v : Value) (cs : Array Value) (E : TypeId) (i : Nat) (h : i < cs.size) (hv : v.cells = #[v]) (ho : v.oneCell' = true) :
    storeV (some (a, 1)) (some (.cells cs E (0, 0))) i v = some (.cells (cs.setIfInBounds i v) E (0, 0)) := by
  have h1 : i + 1 ≤ cs.size := h
  simp only [storeV, hv, List.size_toArray, List.length_cons, List.length_nil, h1, Nat.le_refl, true_or, List.all_cons, ho, List.all_nil, Bool.and_self, and_self, ↓reduceIte, putC, Nat.zero_add]
theorem a8_set (l : List UInt8) (i : Nat) (x : UInt8) : (a8 l).setIfInBounds i (v8 x) = a8 (l.set i x) := by
  simp [a8, v8, List.map_set]
theorem a32_set (l : List UInt32) (i : Nat) (x : UInt32) : (a32 l).setIfInBounds i (v32 x) = a32 (l.set i x) := by
  simp [a32, v32, List.map_set]
theorem store_a8 (a : Bool) (l : List UInt8) (E : TypeId) (i : Nat) (x : UInt8) (h : i < l.length) : storeV (some (a, 1)) (some (.cells (a8 l) E (0, 0))) i (v8 x) = some (.cells (a8 (l.set i x)) E (0, 0)) := by
  rw [store_one a _ _ E i (by rw [size_a8]; exact h) rfl rfl, a8_set]
theorem store_a32 (a : Bool) (l : List UInt32) (E : TypeId) (i : Nat) (x : UInt32) (h : i < l.length) : storeV (some (a, 1)) (some (.cells (a32 l) E (0, 0))) i (v32 x) = some (.cells (a32 (l.set i x)) E (0, 0)) := by
  rw [store_one a _ _ E i (by rw [size_a32]; exact h) rfl rfl, a32_set]
def upd (L : Heap) (b : Nat) (o : Option Obj) : Option Heap := match o with | some o => some (setB L b o) | none => none
theorem upd_some (L : Heap) (b : Nat) (o : Obj) : upd L b (some o) = some (setB L b o) := (rfl)
theorem storeAt_p (m : Option (Bool × Nat)) (L : Heap) (b o : Nat) (v : Value) : storeAtV m L (vp b o) v = upd L b (storeV m (look L b) o v) := (rfl)

/-! ### Arrays as values -/
theorem index_a8 (n : Nat) (l : List UInt8) (i : Int) (h : 0 ≤ i ∧ i < n) (hl : l.length = n) : indexV (.arr n (false, 1)) (.agg (a8 l)) (some i) = some (v8 (l.getD i.toNat 0)) := by
  have : i.toNat < l.length := by omega
  simp [indexV, h, partV, a8, v8, this]
theorem index_a32 (n : Nat) (l : List UInt32) (i : Int) (h : 0 ≤ i ∧ i < n) (hl : l.length = n) : indexV (.arr n (false, 1)) (.agg (a32 l)) (some i) = some (v32 (l.getD i.toNat 0)) := by
  have : i.toNat < l.length := by omega
  simp [indexV, h, partV, a32, v32, this]
theorem extract_t (vs : Array Value) (i : Nat) : extractV (.tuple vs) i = vs[i]? := (rfl)
theorem pick_t (a b : Value) : pickV (.bool true) a b = some a := (rfl)
theorem pick_f (a b : Value) : pickV (.bool false) a b = some b := (rfl)

/-! ### Numbers of places -/
theorem toNat_add_lit (g n : Nat) : ((g : Int) + no_index (@OfNat.ofNat Int n _)).toNat = g + @OfNat.ofNat Nat n _ := by
  show ((g : Int) + (n : Int)).toNat = g + n
  omega
theorem toNat_lit_mul (g n : Nat) : (no_index (@OfNat.ofNat Int n _) * (g : Int)).toNat = @OfNat.ofNat Nat n _ * g := by
  show ((n : Int) * (g : Int)).toNat = n * g
  rw [← Int.natCast_mul, Int.toNat_natCast]
theorem toNat_lit_mul_add (g n m : Nat) : (no_index (@OfNat.ofNat Int n _) * (g : Int) + no_index (@OfNat.ofNat Int m _)).toNat = @OfNat.ofNat Nat n _ * g + @OfNat.ofNat Nat m _ := by
  show ((n : Int) * (g : Int) + (m : Int)).toNat = n * g + m
  rw [← Int.natCast_mul, ← Int.natCast_add, Int.toNat_natCast]
theorem toNat_subL (g n : Nat) : ((g : Int) - no_index (@OfNat.ofNat Int n _)).toNat = g - @OfNat.ofNat Nat n _ := by
  show ((g : Int) - (n : Int)).toNat = g - n
  omega
theorem toNat_lit_sub (g n : Nat) : (no_index (@OfNat.ofNat Int n _) - (g : Int)).toNat = @OfNat.ofNat Nat n _ - g := by
  show ((n : Int) - (g : Int)).toNat = n - g
  omega
theorem toNat_div_lit (g n : Nat) : ((g : Int) / no_index (@OfNat.ofNat Int n _)).toNat = g / @OfNat.ofNat Nat n _ := by
  show ((g : Int) / (n : Int)).toNat = g / n
  rw [← Int.natCast_ediv, Int.toNat_natCast]
theorem toNat_mod_lit (g n : Nat) : ((g : Int) % no_index (@OfNat.ofNat Int n _)).toNat = g % @OfNat.ofNat Nat n _ := by
  show ((g : Int) % (n : Int)).toNat = g % n
  rw [← Int.natCast_emod, Int.toNat_natCast]
theorem toNat_add_cast (g n : Nat) : ((g : Int) + (n : Int)).toNat = g + n := by omega
theorem toNat_div_add (g n m : Nat) : ((g : Int) / no_index (@OfNat.ofNat Int n _) + no_index (@OfNat.ofNat Int m _)).toNat = g / @OfNat.ofNat Nat n _ + @OfNat.ofNat Nat m _ := by
  show ((g : Int) / (n : Int) + (m : Int)).toNat = g / n + m
  rw [← Int.natCast_ediv, ← Int.natCast_add, Int.toNat_natCast]
theorem toNat_mod_add (g n m : Nat) : ((g : Int) % no_index (@OfNat.ofNat Int n _) + no_index (@OfNat.ofNat Int m _)).toNat = g % @OfNat.ofNat Nat n _ + @OfNat.ofNat Nat m _ := by
  show ((g : Int) % (n : Int) + (m : Int)).toNat = g % n + m
  rw [← Int.natCast_emod, ← Int.natCast_add, Int.toNat_natCast]
theorem shl_i_64 (a : Int) (c : UInt64) (h : c.toNat < 63 ∧ 0 ≤ a ∧ a * 2 ^ c.toNat ≤ 9223372036854775807) : binV .shl (vi a) (v64 c) = some (vi (a * 2 ^ c.toNat)) := shl_i_v a _ _ h
theorem shr_i_64 (a : Int) (c : UInt64) (h : c.toNat < 64 ∧ 0 ≤ a) : binV .shr (vi a) (v64 c) = some (vi (a / 2 ^ c.toNat)) := shr_i_v a _ _ h
theorem or_i (a b : Int) (h : 0 ≤ a ∧ 0 ≤ b ∧ a ≤ 9223372036854775807 ∧ b ≤ 9223372036854775807) : binV .or (vi a) (vi b) = some (vi ((a.toNat ||| b.toNat : Nat) : Int)) := by
  obtain ⟨h1, h2, h3, h4⟩ := h
  obtain ⟨n, rfl⟩ := Int.eq_ofNat_of_zero_le h1
  obtain ⟨m, rfl⟩ := Int.eq_ofNat_of_zero_le h2
  have hn : n < 2 ^ 63 := by omega
  have hm : m < 2 ^ 63 := by omega
  have hlt := Nat.or_lt_two_pow hn hm
  simp only [binV, vi, intV, bitV, ↓reduceIte, Option.map_some, Int.toNat_natCast]
  have e : (BitVec.ofInt (IntKind.bits .i64) (n : Int) ||| BitVec.ofInt (IntKind.bits .i64) (m : Int)).toNat = n ||| m := by
    show (BitVec.ofInt 64 (n : Int) ||| BitVec.ofInt 64 (m : Int)).toNat = _
    rw [BitVec.toNat_or, BitVec.ofInt_natCast, BitVec.ofInt_natCast, BitVec.toNat_ofNat, BitVec.toNat_ofNat, Nat.mod_eq_of_lt (by omega), Nat.mod_eq_of_lt (by omega)]
  rw [e, wrap_i64 _ ⟨by omega, by omega⟩]
theorem and_i (a b : Int) (h : 0 ≤ a ∧ 0 ≤ b ∧ a ≤ 9223372036854775807 ∧ b ≤ 9223372036854775807) : binV .and (vi a) (vi b) = some (vi ((a.toNat &&& b.toNat : Nat) : Int)) := by
  obtain ⟨h1, h2, h3, h4⟩ := h
  obtain ⟨n, rfl⟩ := Int.eq_ofNat_of_zero_le h1
  obtain ⟨m, rfl⟩ := Int.eq_ofNat_of_zero_le h2
  have hlt : n &&& m ≤ n := Nat.and_le_left
  simp only [binV, vi, intV, bitV, ↓reduceIte, Option.map_some, Int.toNat_natCast]
  have e : (BitVec.ofInt (IntKind.bits .i64) (n : Int) &&& BitVec.ofInt (IntKind.bits .i64) (m : Int)).toNat = n &&& m := by
    show (BitVec.ofInt 64 (n : Int) &&& BitVec.ofInt 64 (m : Int)).toNat = _
    rw [BitVec.toNat_and, BitVec.ofInt_natCast, BitVec.ofInt_natCast, BitVec.toNat_ofNat, BitVec.toNat_ofNat, Nat.mod_eq_of_lt (by omega), Nat.mod_eq_of_lt (by omega)]
  rw [e, wrap_i64 _ ⟨by omega, by omega⟩]
theorem binX_v8_v8 (P : Program) (op : BinOp) (t : TypeId) (x : UInt8) (y : UInt8) : binX P op t (v8 x) (v8 y) = binV op (v8 x) (v8 y) := (rfl)
theorem binX_v8_v16 (P : Program) (op : BinOp) (t : TypeId) (x : UInt8) (y : UInt16) : binX P op t (v8 x) (v16 y) = binV op (v8 x) (v16 y) := (rfl)
theorem binX_v8_v32 (P : Program) (op : BinOp) (t : TypeId) (x : UInt8) (y : UInt32) : binX P op t (v8 x) (v32 y) = binV op (v8 x) (v32 y) := (rfl)
theorem binX_v8_v64 (P : Program) (op : BinOp) (t : TypeId) (x : UInt8) (y : UInt64) : binX P op t (v8 x) (v64 y) = binV op (v8 x) (v64 y) := (rfl)
theorem binX_v8_vi (P : Program) (op : BinOp) (t : TypeId) (x : UInt8) (y : Int) : binX P op t (v8 x) (vi y) = binV op (v8 x) (vi y) := (rfl)
theorem binX_v16_v8 (P : Program) (op : BinOp) (t : TypeId) (x : UInt16) (y : UInt8) : binX P op t (v16 x) (v8 y) = binV op (v16 x) (v8 y) := (rfl)
theorem binX_v16_v16 (P : Program) (op : BinOp) (t : TypeId) (x : UInt16) (y : UInt16) : binX P op t (v16 x) (v16 y) = binV op (v16 x) (v16 y) := (rfl)
theorem binX_v16_v32 (P : Program) (op : BinOp) (t : TypeId) (x : UInt16) (y : UInt32) : binX P op t (v16 x) (v32 y) = binV op (v16 x) (v32 y) := (rfl)
theorem binX_v16_v64 (P : Program) (op : BinOp) (t : TypeId) (x : UInt16) (y : UInt64) : binX P op t (v16 x) (v64 y) = binV op (v16 x) (v64 y) := (rfl)
theorem binX_v16_vi (P : Program) (op : BinOp) (t : TypeId) (x : UInt16) (y : Int) : binX P op t (v16 x) (vi y) = binV op (v16 x) (vi y) := (rfl)
theorem binX_v32_v8 (P : Program) (op : BinOp) (t : TypeId) (x : UInt32) (y : UInt8) : binX P op t (v32 x) (v8 y) = binV op (v32 x) (v8 y) := (rfl)
theorem binX_v32_v16 (P : Program) (op : BinOp) (t : TypeId) (x : UInt32) (y : UInt16) : binX P op t (v32 x) (v16 y) = binV op (v32 x) (v16 y) := (rfl)
theorem binX_v32_v32 (P : Program) (op : BinOp) (t : TypeId) (x : UInt32) (y : UInt32) : binX P op t (v32 x) (v32 y) = binV op (v32 x) (v32 y) := (rfl)
theorem binX_v32_v64 (P : Program) (op : BinOp) (t : TypeId) (x : UInt32) (y : UInt64) : binX P op t (v32 x) (v64 y) = binV op (v32 x) (v64 y) := (rfl)
theorem binX_v32_vi (P : Program) (op : BinOp) (t : TypeId) (x : UInt32) (y : Int) : binX P op t (v32 x) (vi y) = binV op (v32 x) (vi y) := (rfl)
theorem binX_v64_v8 (P : Program) (op : BinOp) (t : TypeId) (x : UInt64) (y : UInt8) : binX P op t (v64 x) (v8 y) = binV op (v64 x) (v8 y) := (rfl)
theorem binX_v64_v16 (P : Program) (op : BinOp) (t : TypeId) (x : UInt64) (y : UInt16) : binX P op t (v64 x) (v16 y) = binV op (v64 x) (v16 y) := (rfl)
theorem binX_v64_v32 (P : Program) (op : BinOp) (t : TypeId) (x : UInt64) (y : UInt32) : binX P op t (v64 x) (v32 y) = binV op (v64 x) (v32 y) := (rfl)
theorem binX_v64_v64 (P : Program) (op : BinOp) (t : TypeId) (x : UInt64) (y : UInt64) : binX P op t (v64 x) (v64 y) = binV op (v64 x) (v64 y) := (rfl)
theorem binX_v64_vi (P : Program) (op : BinOp) (t : TypeId) (x : UInt64) (y : Int) : binX P op t (v64 x) (vi y) = binV op (v64 x) (vi y) := (rfl)
theorem binX_vi_v8 (P : Program) (op : BinOp) (t : TypeId) (x : Int) (y : UInt8) : binX P op t (vi x) (v8 y) = binV op (vi x) (v8 y) := (rfl)
theorem binX_vi_v16 (P : Program) (op : BinOp) (t : TypeId) (x : Int) (y : UInt16) : binX P op t (vi x) (v16 y) = binV op (vi x) (v16 y) := (rfl)
theorem binX_vi_v32 (P : Program) (op : BinOp) (t : TypeId) (x : Int) (y : UInt32) : binX P op t (vi x) (v32 y) = binV op (vi x) (v32 y) := (rfl)
theorem binX_vi_v64 (P : Program) (op : BinOp) (t : TypeId) (x : Int) (y : UInt64) : binX P op t (vi x) (v64 y) = binV op (vi x) (v64 y) := (rfl)
theorem binX_vi_vi (P : Program) (op : BinOp) (t : TypeId) (x : Int) (y : Int) : binX P op t (vi x) (vi y) = binV op (vi x) (vi y) := (rfl)
theorem ixI_v8 (x : UInt8) : ixI (v8 x) = some (x.toNat : Int) := (rfl)
theorem one_v8 (x : UInt8) : Value.oneCell' (v8 x) = true := (rfl)
theorem cells_v8 (x : UInt8) : (v8 x).cells = #[v8 x] := (rfl)
theorem ixI_v16 (x : UInt16) : ixI (v16 x) = some (x.toNat : Int) := (rfl)
theorem one_v16 (x : UInt16) : Value.oneCell' (v16 x) = true := (rfl)
theorem cells_v16 (x : UInt16) : (v16 x).cells = #[v16 x] := (rfl)
theorem ixI_v32 (x : UInt32) : ixI (v32 x) = some (x.toNat : Int) := (rfl)
theorem one_v32 (x : UInt32) : Value.oneCell' (v32 x) = true := (rfl)
theorem cells_v32 (x : UInt32) : (v32 x).cells = #[v32 x] := (rfl)
theorem ixI_v64 (x : UInt64) : ixI (v64 x) = some (x.toNat : Int) := (rfl)
theorem one_v64 (x : UInt64) : Value.oneCell' (v64 x) = true := (rfl)
theorem cells_v64 (x : UInt64) : (v64 x).cells = #[v64 x] := (rfl)
theorem ixI_vi (x : Int) : ixI (vi x) = some x := (rfl)
theorem one_vi (x : Int) : Value.oneCell' (vi x) = true := (rfl)
theorem cells_vi (x : Int) : (vi x).cells = #[vi x] := (rfl)
end Go.Sx
