/-
  Part 1 of the walk: contracts of the functions that the law reaches, and the calculus they stand on.
  No conditions.
-/
import Derived.Test.YtooklcgflocbcaaGreatDoorU0
import Derived.Test.YtooklcgflocbcaaGreatDoorProg
section
namespace Go.Sx
open Go
set_option linter.unusedSimpArgs false

/-! ### Known blocks behind a name -/
theorem look_app {L M : Heap} {b : Nat} {o : Obj} (h : look L b = some o) : look (L ++ M) b = some o := by
  induction L with
  | nil => cases h
  | cons p r ih =>
    obtain ⟨c, x⟩ := p
    simp only [List.cons_append, look] at h ⊢
    split
    · rename_i e; rw [if_pos e] at h; exact h
    · rename_i e; rw [if_neg e] at h; exact ih h
theorem look_app_r {L M : Heap} {b : Nat} (h : b ∉ keys L) : look (L ++ M) b = look M b := by
  induction L with
  | nil => rfl
  | cons p r ih =>
    obtain ⟨c, x⟩ := p
    simp only [keys, List.map_cons, List.mem_cons, not_or] at h
    simp only [List.cons_append, look]
    rw [if_neg (fun e => h.1 e.symm)]
    exact ih h.2
theorem look_setB {L : Heap} {b : Nat} {x o : Obj} (h : look L b = some o) : look (setB L b x) b = some x := by
  induction L with
  | nil => cases h
  | cons p r ih =>
    obtain ⟨c, y⟩ := p
    simp only [look] at h
    simp only [setB]
    split
    · simp [look, *]
    · rename_i e
      rw [if_neg e] at h
      simp only [look]
      rw [if_neg e]
      exact ih h
theorem look_setB_ne {L : Heap} {b c : Nat} {x : Obj} (h : b ≠ c) : look (setB L b x) c = look L c := by
  induction L with
  | nil => rfl
  | cons p r ih =>
    obtain ⟨d, y⟩ := p
    simp only [setB]
    split
    · rename_i e
      subst e
      simp [look, h]
    · simp only [look]
      split
      · rfl
      · exact ih
theorem key_of_look {L : Heap} {b : Nat} {o : Obj} (h : look L b = some o) : b ∈ keys L := List.mem_map.2 ⟨_, look_mem h, rfl⟩
theorem look_key {L : Heap} {b : Nat} (h : b ∈ keys L) : ∃ o, look L b = some o := by
  cases hl : look L b with
  | some o => exact ⟨o, rfl⟩
  | none => exact absurd h (look_none hl)
theorem read_look {w0 : World} {L : Heap} {b : Nat} {o : Obj} (h : look L b = some o) : readB w0 L b = some o := by
  unfold readB; rw [h]
theorem keys_app (L M : Heap) : keys (L ++ M) = keys L ++ keys M := List.map_append
theorem above_to {L : Heap} {n b : Nat} (h : Above L n) (hb : b ∈ keys L) : b < n := by
  induction L with
  | nil => cases hb
  | cons p r ih =>
    obtain ⟨c, y⟩ := p
    simp only [keys, List.map_cons, List.mem_cons] at hb
    rcases hb with rfl | hb
    · exact h.1
    · exact ih h.2 hb

/-! ### Cells one behind the other -/
theorem putC_app (vs : List Value) : ∀ (A B : List Value), vs.length ≤ B.length → putC (A ++ B).toArray A.length vs = (A ++ vs ++ B.drop vs.length).toArray := by
  induction vs with
  | nil => intro A B _; simp [putC]
  | cons v r ih =>
    intro A B h
    cases B with
    | nil => simp at h
    | cons x B =>
      have e : (A ++ x :: B).toArray.setIfInBounds A.length v = ((A ++ [v]) ++ B).toArray := by
        rw [List.setIfInBounds_toArray]
        simp
      have h' := ih (A ++ [v]) B (by simpa using h)
      simp only [List.length_append, List.length_cons, List.length_nil, Nat.zero_add] at h'
      rw [putC, e, h']
      simp

theorem growBy_le (N : Nat) : ∀ r c, c ≤ 2 * N + 768 → Builtin.growBy N r c ≤ 2 * N + 768
  | 0, c, h => h
  | r + 1, c, h => by
    unfold Builtin.growBy
    split
    · exact h
    · exact growBy_le N r _ (by omega)
theorem nextslicecap_le {N c : Nat} (h : c < N) : Builtin.nextslicecap N c ≤ 2 * N + 768 := by
  unfold Builtin.nextslicecap
  split
  · omega
  · split
    · omega
    · exact growBy_le N 4 c (by omega)

/-- What is appended: k elements, these cells. -/
structure AppX (P : Program) (w : World) (size : Nat) (x : Value) (k : Nat) (new : List Value) : Prop where
  len : (Builtin.lenOf x).run P w = .ok k w
  cells : (Builtin.firstCells size k x).run P w = .ok new.toArray w
  one : new.all Value.oneCell' = true
  size : new.length = k * size

theorem AppX.text (P : Program) (w : World) (l : List UInt8) : AppX P w 1 (vs l) l.length (l.map v8) := by
  refine ⟨?_, ?_, ?_, by simp⟩
  · simp only [vs, Builtin.lenOf, size_mk]; rfl
  · simp only [vs, Builtin.firstCells]
    show Result.ok _ w = _
    congr 1
    have : ((ByteArray.mk l.toArray).extract 0 l.length).data = l.toArray := by
      rw [ByteArray.data_extract]
      simp
    rw [this]
    simp [v8]
  · rw [List.all_map, List.all_eq_true]; intro x _; rfl

/-- An element has some bytes, and not too many. -/
def bytesOk (P : Program) (e : TypeId) : Bool := match P.info? e with
  | some i => i.bytes != 0 && decide (i.bytes ≤ 1024)
  | none => false
theorem bytesOk_spec {P : Program} {e : TypeId} {j : Nat} (h : bytesOk P e = true) (hj : j ≤ 2 ^ 38) : ∃ i, P.info? e = some i ∧ i.bytes ≠ 0 ∧ j * i.bytes ≤ 2 ^ 48 := by
  unfold bytesOk at h
  cases hi : P.info? e with
  | none => rw [hi] at h; cases h
  | some i =>
    rw [hi] at h
    simp only [Bool.and_eq_true, bne_iff_ne, ne_eq, decide_eq_true_eq] at h
    refine ⟨i, rfl, h.1, ?_⟩
    calc j * i.bytes ≤ 2 ^ 38 * 1024 := Nat.mul_le_mul hj h.2
      _ = 2 ^ 48 := by decide
theorem nh_any (L : Heap) (k : Heap → Prop) : nh L k = k L := (rfl)

/-- A slice that grows: what it holds stands in a block of its own. -/
inductive Buf (L : Heap) (E : TypeId) (size : Nat) : Value → Nat → List Value → Prop
  | nl : Buf L E size (.slice none 0 0) 0 []
  | at_ {b n c : Nat} {cs rest : List Value} (hl : look L b = some (.cells (cs ++ rest).toArray E (0, 0))) (h1 : cs.length = n * size) (h2 : rest.length = (c - n) * size) (h3 : n ≤ c) (h4 : 0 < c) :
    Buf L E size (vsl b 0 n c) n cs

/-- The block in which a slice lies. -/
def slB : Value → Option Nat
  | .slice (some a) _ _ => some a.block
  | _ => none

theorem Buf.keep {L L' : Heap} {E : TypeId} {size n : Nat} {v : Value} {cs : List Value} (h : Buf L E size v n cs) (hk : ∀ b o, slB v = some b → look L b = some o → look L' b = some o) : Buf L' E size v n cs := by
  cases h with
  | nl => exact .nl
  | at_ hl h1 h2 h3 h4 => exact .at_ (hk _ _ rfl hl) h1 h2 h3 h4

theorem Buf.setO {L : Heap} {E : TypeId} {size n b : Nat} {v : Value} {cs : List Value} {x : Obj} (h : Buf L E size v n cs) (hb : slB v ≠ some b) : Buf (setB L b x) E size v n cs :=
  h.keep fun c o hc ho => by rw [look_setB_ne (fun e : b = c => hb (by rw [e]; exact hc))]; exact ho
theorem Buf.app {L M : Heap} {E : TypeId} {size n : Nat} {v : Value} {cs : List Value} (h : Buf L E size v n cs) : Buf (L ++ M) E size v n cs := h.keep fun _ _ _ ho => look_app ho
theorem Buf.cell {L : Heap} {E : TypeId} {size n : Nat} {v : Value} {cs : List Value} (h : Buf L E size v n cs) : Value.oneCell' v = true ∧ v.cells = #[v] := by
  cases h <;> exact ⟨rfl, rfl⟩
theorem Buf.len {L : Heap} {E : TypeId} {size n : Nat} {v : Value} {cs : List Value} (h : Buf L E size v n cs) (x : Bool × Nat) : lenV (.sl x) v = some (vi n) := by
  cases h <;> rfl
theorem Buf.inv {L : Heap} {E : TypeId} {size n : Nat} {v : Value} {cs : List Value} (h : Buf L E size v n cs) : (v = .slice none 0 0 ∧ n = 0 ∧ cs = []) ∨
    ∃ b c rest, v = vsl b 0 n c ∧ look L b = some (.cells (cs ++ rest).toArray E (0, 0)) ∧ cs.length = n * size ∧ n ≤ c ∧ 0 < c ∧ rest.length = (c - n) * size := by
  cases h with
  | nl => exact .inl ⟨rfl, rfl, rfl⟩
  | at_ hl h1 h2 h3 h4 => exact .inr ⟨_, _, _, rfl, hl, h1, h3, h4, h2⟩
theorem look_new {L : Heap} {b : Nat} {o : Obj} (h : Above L b) : look (L ++ [(b, o)]) b = some o := by
  rw [look_app_r (fun hm => Nat.lt_irrefl _ (above_to h hm))]; simp [look]

/-- What is known grows: but for the slice's own block nothing is turned. -/
structure Grew (w0 : World) (v : Value) (L L' : Heap) : Prop where
  keys : ∀ c, c ∈ keys L → c ∈ keys L'
  new : ∀ c, c ∈ Sx.keys L' → c ∈ Sx.keys L ∨ (Above L c ∧ w0.heap.size ≤ c)
  look : ∀ c o, slB v ≠ some c → Sx.look L c = some o → Sx.look L' c = some o

theorem Grew.refl (w0 : World) (v : Value) (L : Heap) : Grew w0 v L L := ⟨fun _ h => h, fun _ h => .inl h, fun _ _ _ h => h⟩

section
variable {P : Program} {w0 : World} {L : Heap}

theorem run_append {w : World} {ts tx ty e : TypeId} {m : Bool × Nat} {z s x : Value} {n k : Nat} {cs new : List Value} (hw : Hp w0 L w)
    (hu : P.underlying ts = some (.slice e)) (hm : aggT P e = some m) (hi : bytesOk P e = true) (hz : zeroV P e = some z) (hzs : z.cells.size = m.2) {d : TypeDesc} (hux : P.underlying tx = some d) (hnx : ∀ k, d ≠ .int k)
    (hB : Buf L e m.2 s n cs) (hXa : ∀ w, Hp w0 L w → AppX P w m.2 x k new) (hbig : 2 * (n + k) + 768 ≤ 2 ^ 38) :
    ∃ v' w' L', (Builtin.append_ #[ts, tx] ty #[s, x]).run P w = .ok v' w' ∧ Hp w0 L' w' ∧ Buf L' e m.2 v' (n + k) (cs ++ new) ∧ Grew w0 s L L' ∧ (slB v' = slB s ∨ ∃ c, slB v' = some c ∧ Above L c) := by
  obtain ⟨i, hi, hb0, hbig⟩ := bytesOk_spec hi hbig
  have hti : ∀ w, (typeInfo e).run P w = .ok i w := by
    intro w
    simp only [typeInfo, program, Sem.run_bind]
    show Result.andThen (Result.ok P w) _ = _
    simp only [Result.andThen_ok, hi]
    rfl
  have hmd : (match d with | .int _ => true | _ => false) = false := by
    cases d <;> first | rfl | exact absurd rfl (hnx _)
  have e1 : ∀ {α β : Type} (a : α) (f : α → World → Result β), (Sem.run P (pure a) w).andThen f = f a w := fun _ _ => rfl
  have hX := hXa w hw
  have hxl := hX.len
  have hxc := hX.cells
  have hzv := run_zeroV (P := P) hz
  have room : ∀ (b : Nat) (w : World), (askRoom b).run P w = .ok () w := by
    intro b w
    unfold askRoom
    split <;> rfl
  have zc : ∀ j, (Builtin.zeroCells z.cells j).toList.length = j * m.2 := by
    intro j; simp [Builtin.zeroCells, hzs]
  have hbg : ∀ c, c < n + k → ¬ (Builtin.nextslicecap (n + k) c * i.bytes > 2 ^ 48) := by
    intro c hc
    have := nextslicecap_le hc
    have h2 := Nat.mul_le_mul_right i.bytes this
    omega
  cases hB with
  | nl =>
    by_cases hk : k = 0
    · subst hk
      have hnew : new = [] := List.eq_nil_of_length_eq_zero (by have := hX.size; omega)
      subst hnew
      refine ⟨.slice none 0 0, w, L, ?_, hw, .nl, Grew.refl _ _ _, .inl rfl⟩
      simp only [Builtin.append_, List.getElem?_toArray, List.getElem?_cons_zero, List.getElem?_cons_succ, Sem.run_bind, run_underlying hu w, Result.andThen_ok, run_sizeOf hm w, run_underlying hux w, hmd, e1, Bool.false_eq_true, ↓reduceIte, hxl, Bool.not_false, Nat.add_zero, Nat.le_refl, hxc]
      rfl
    · have hpos : ¬ 0 + k ≤ 0 := by omega
      have hbg' := hbg 0 (by omega)
      simp only [Builtin.append_, List.getElem?_toArray, List.getElem?_cons_zero, List.getElem?_cons_succ, Sem.run_bind, run_underlying hu w, Result.andThen_ok, run_sizeOf hm w, run_underlying hux w, hmd, e1, Bool.false_eq_true, ↓reduceIte, hxl, Bool.not_false, hpos, hti, hb0, or_false, and_false, hbg']
      have hch : (choose (Question.appendCap (0 + k) 0 e)).run P w = .ok ((0 + k) + w.tape w.drawn (.appendCap (0 + k) 0 e) % (2 ^ 63 - (0 + k))) w.drew := rfl
      rw [hch]
      generalize hcc : (0 + k) + w.tape w.drawn (.appendCap (0 + k) 0 e) % (2 ^ 63 - (0 + k)) = c
      have hw1 := hw.drew
      have hX1 := hXa _ hw1
      have hold : (Builtin.firstCells m.2 0 (Value.slice none 0 0)).run P w.drew = .ok #[] w.drew := rfl
      simp only [Result.andThen_ok, room, hold, hX1.cells, hzv]
      refine ⟨_, _, L ++ [(w.drew.heap.size, .cells ([] ++ new ++ (Builtin.zeroCells z.cells (c - (0 + k))).toList).toArray e (0, 0))], rfl, ?_, .at_ (b := w.drew.heap.size) (rest := (Builtin.zeroCells z.cells (c - (0 + k))).toList) ?_ ?_ ?_ (by omega) (by omega), ?_, .inr ⟨_, rfl, above_of fun b hb => hw1.lt hb⟩⟩
      · have ea : ([] ++ new ++ (Builtin.zeroCells z.cells (c - (0 + k))).toList).toArray = #[] ++ new.toArray ++ Builtin.zeroCells z.cells (c - (0 + k)) := by apply Array.ext'; simp
        rw [ea]
        exact hw1.alloc _
      · rw [look_app_r (fun hm => Nat.lt_irrefl _ (hw1.lt hm))]
        simp [look]
      · rw [List.nil_append, hX.size, Nat.zero_add]
      · exact zc _
      · refine ⟨fun c hc => by rw [keys_app]; exact List.mem_append_left _ hc, fun c hc => ?_, fun c o hne ho => look_app ho⟩
        rw [keys_app] at hc
        rcases List.mem_append.1 hc with hc | hc
        · exact .inl hc
        · right
          simp only [keys, List.map_cons, List.map_nil, List.mem_singleton] at hc
          subst hc
          exact ⟨above_of fun b hb => hw1.lt hb, hw1.size⟩
  | @at_ b n c cs rest hl h1 h2 h3 h4 =>
    have hhb := hw.has _ _ (look_mem hl)
    by_cases hin : n + k ≤ c
    · have hlt := (Array.getElem?_eq_some_iff.1 hhb).1
      have hsz := hX.size
      have hst := run_storeCells (P := P) (b := b) (off := n * m.2) (E := e) (fz := (0, 0)) new 0 (cs ++ rest).toArray w hhb (by
        simp only [List.size_toArray, List.length_append, h1, h2, hsz, Nat.add_zero]
        rw [← Nat.add_mul, ← Nat.add_mul]
        exact Nat.mul_le_mul_right _ (by omega)) (.inl (Nat.le_refl 0)) hX.one
      simp only [Builtin.append_, List.getElem?_toArray, List.getElem?_cons_zero, List.getElem?_cons_succ, Sem.run_bind, run_underlying hu w, Result.andThen_ok, run_sizeOf hm w, run_underlying hux w, hmd, e1, Bool.false_eq_true, ↓reduceIte, hxl, Bool.not_false, hin, hxc, add_spot, Nat.zero_add, hst, vsl]
      rw [Nat.add_zero, ← h1, putC_app new cs rest (by rw [h2, hsz]; exact Nat.mul_le_mul_right _ (by omega))]
      refine ⟨vsl b 0 (n + k) c, _, setB L b (.cells (cs ++ new ++ rest.drop new.length).toArray e (0, 0)), rfl, hw.set (key_of_look hl) rfl rfl rfl rfl, .at_ (look_setB hl) ?_ ?_ hin h4, ?_, .inl rfl⟩
      · rw [List.length_append, h1, hsz, Nat.add_mul]
      · rw [List.length_drop, h2, hsz, ← Nat.sub_mul]
        congr 1
        omega
      · refine ⟨fun c hc => by rw [keys_setB]; exact hc, fun c hc => by rw [keys_setB] at hc; exact .inl hc, fun c o hne ho => ?_⟩
        rw [look_setB_ne (fun e => hne (by rw [← e]; rfl))]
        exact ho
    · have hbg' := hbg c (by omega)
      simp only [Builtin.append_, List.getElem?_toArray, List.getElem?_cons_zero, List.getElem?_cons_succ, Sem.run_bind, run_underlying hu w, Result.andThen_ok, run_sizeOf hm w, run_underlying hux w, hmd, e1, Bool.false_eq_true, ↓reduceIte, hxl, Bool.not_false, hin, hti, hb0, or_false, and_false, hbg', vsl]
      have hch : (choose (Question.appendCap (n + k) c e)).run P w = .ok ((n + k) + w.tape w.drawn (.appendCap (n + k) c e) % (2 ^ 63 - (n + k))) w.drew := rfl
      rw [hch]
      generalize hcc : (n + k) + w.tape w.drawn (.appendCap (n + k) c e) % (2 ^ 63 - (n + k)) = c2
      have hw1 := hw.drew
      have hX1 := hXa _ hw1
      have hold : (Builtin.firstCells m.2 n (Value.slice (some ⟨b, 0, none⟩) n c)).run P w.drew = .ok cs.toArray w.drew := by
        simp only [Builtin.firstCells]
        rw [run_loadCells_row (hw1.has _ _ (look_mem hl)) 0 (n * m.2) (by simp only [List.size_toArray, List.length_append, h1]; omega)]
        congr 1
        simp only [Nat.zero_add, List.extract_toArray, ← h1]
        simp
      simp only [Result.andThen_ok, room, hold, hX1.cells, hzv]
      refine ⟨_, _, L ++ [(w.drew.heap.size, .cells (cs ++ new ++ (Builtin.zeroCells z.cells (c2 - (n + k))).toList).toArray e (0, 0))], rfl, ?_, .at_ (b := w.drew.heap.size) (rest := (Builtin.zeroCells z.cells (c2 - (n + k))).toList) ?_ ?_ ?_ (by omega) (by omega), ?_, .inr ⟨_, rfl, above_of fun b hb => hw1.lt hb⟩⟩
      · have ea : (cs ++ new ++ (Builtin.zeroCells z.cells (c2 - (n + k))).toList).toArray = cs.toArray ++ new.toArray ++ Builtin.zeroCells z.cells (c2 - (n + k)) := by apply Array.ext'; simp
        rw [ea]
        exact hw1.alloc _
      · rw [look_app_r (fun hm => Nat.lt_irrefl _ (hw1.lt hm))]
        simp [look]
      · rw [List.length_append, h1, hX.size, Nat.add_mul]
      · exact zc _
      · refine ⟨fun c hc => by rw [keys_app]; exact List.mem_append_left _ hc, fun c hc => ?_, fun c o hne ho => look_app ho⟩
        rw [keys_app] at hc
        rcases List.mem_append.1 hc with hc | hc
        · exact .inl hc
        · right
          simp only [keys, List.map_cons, List.map_nil, List.mem_singleton] at hc
          subst hc
          exact ⟨above_of fun b hb => hw1.lt hb, hw1.size⟩

theorem AppX.block {b off k cap size : Nat} {arr : Array Value} {E : TypeId} {fz : Nat × Nat} {new : List Value} (hr : readB w0 L b = some (.cells arr E fz)) (hn : off + k * size ≤ arr.size) (hc : (arr.extract off (off + k * size)).toList = new)
    (h1 : new.all Value.oneCell' = true) {w : World} (hw : Hp w0 L w) : AppX P w size (vsl b off k cap) k new := by
  refine ⟨rfl, ?_, h1, ?_⟩
  · simp only [vsl, Builtin.firstCells]
    rw [run_loadCells_row (hw.read hr) off (k * size) hn, ← hc]
  · rw [← hc]; simp; omega
theorem AppX.nil (P : Program) (w : World) (size : Nat) : AppX P w size (.slice none 0 0) 0 [] := ⟨rfl, rfl, rfl, by simp⟩

/-! ### Texts that are shared -/
theorem run_loadBytes {b : Nat} {E : TypeId} {fz : Nat × Nat} {arr : Array Value} {w : World} (hb : w.heap[b]? = some (.cells arr E fz)) : ∀ (l : List UInt8) (off : Nat) (acc : ByteArray), (∀ j, j < l.length → arr[off + j]? = some (v8 (l.getD j 0))) →
    (loadBytes ⟨b, off, none⟩ acc l.length).run P w = .ok (acc ++ ⟨l.toArray⟩) w
  | [], off, acc, _ => by
    show Result.ok acc w = _
    congr 1
    apply ByteArray.ext
    simp
  | x :: l, off, acc, h => by
    have h0 := h 0 (by simp)
    simp only [Nat.add_zero, List.getD_cons_zero] at h0
    have hc : w.cell? ⟨b, off, none⟩ = some (v8 x) := by rw [cell_of_row w b _ arr E fz hb]; exact h0
    have hld : (load ⟨b, off, none⟩).run P w = .ok (v8 x) w := by
      simp only [load, Sem.run, hc]
    rw [List.length_cons, loadBytes, Sem.run_bind, hld, Result.andThen_ok]
    simp only [v8, add_spot]
    have e : ((x.toNat : Int).toNat.toUInt8) = x := by
      rw [Int.toNat_natCast]
      exact UInt8.ofNat_toNat
    rw [e, run_loadBytes hb l (off + 1) _ (fun j hj => by
      have := h (j + 1) (by simpa using hj)
      rw [List.getD_cons_succ] at this
      rw [← this]; congr 1; omega)]
    congr 1
    apply ByteArray.ext
    simp

theorem lies_same {p : Program} {e : TypeId} {c n : Nat} (hd : 1 < p.depth) (hs : p.cellsOf e = 1) (hn : n ≤ c) : liesAt p p.depth e (c / p.cellsOf e) 0 e n = true := by
  obtain ⟨d, hd'⟩ : ∃ d, p.depth = d + 2 := ⟨p.depth - 2, by omega⟩
  have hsl : sameLayout p p.depth e e = true := by
    rw [hd']; unfold sameLayout; simp
  rw [hd'] at hsl ⊢
  unfold liesAt
  rw [hd']
  unfold rowAt
  simp [hs, hn, hsl]

theorem run_unsafeString {w : World} {pt it ty e : TypeId} {b : Nat} {l : List UInt8} {rest : List Value} (hw : Hp w0 L w) (hl : look L b = some (.cells (l.map v8 ++ rest).toArray e (0, 0))) (h0 : 0 < l.length) (hmax : (l.length : Int) ≤ 9223372036854775807)
    (hpt : P.underlying pt = some (.pointer e)) (hs : P.cellsOf e = 1) (hd : 1 < P.depth) :
    ∃ w', (Builtin.unsafeString_ #[pt, it] ty #[vp b 0, vi l.length]).run P w = .ok (vs l) w' ∧ Hp w0 (setB L b (.cells (l.map v8 ++ rest).toArray e (0, l.length))) w' := by
  have hb := hw.has _ _ (look_mem hl)
  have e1 : ∀ {α β : Type} (a : α) (f : α → World → Result β), (Sem.run P (pure a) w).andThen f = f a w := fun _ _ => rfl
  have hlb := run_loadBytes (P := P) hb l 0 .empty (by
    intro j hj
    rw [Nat.zero_add, List.getElem?_toArray, List.getElem?_append_left (by simpa using hj), List.getElem?_map, List.getD_eq_getElem?_getD, List.getElem?_eq_getElem hj]
    rfl)
  have hva : (variablesAt ⟨b, 0, none⟩ e l.length).run P w = .ok true w := by
    have hsh : w.shape? b = some (e, (l.map v8 ++ rest).toArray.size) := by
      simp only [World.shape?, hb]
    have hp : liesAt P P.depth e ((l.map v8 ++ rest).toArray.size / P.cellsOf e) 0 e l.length = true := lies_same hd hs (by simp)
    simp only [variablesAt, program, shape, Sem.run_bind]
    show Result.andThen (Result.ok P w) _ = _
    simp only [Result.andThen_ok]
    show Result.andThen (Result.ok (w.shape? b) w) _ = _
    rw [hsh]
    simp only [Result.andThen_ok]
    rw [hp]
    rfl
  have hel : (elemOf pt).run P w = .ok e w := by
    simp only [elemOf, Sem.run_bind, run_underlying hpt w, Result.andThen_ok]
    rfl
  refine ⟨w.freeze ⟨b, 0, none⟩ l.length, ?_, ?_⟩
  · have hn0 : ¬ ((l.length : Int) < 0) := by omega
    have hnm : ¬ ((l.length : Int) > IntKind.i64.max) := by
      show ¬ ((l.length : Int) > 9223372036854775807); omega
    have hnz : ¬ ((l.length : Int) = 0) := by omega
    have hai : (asInt (vi l.length)).run P w = .ok (l.length : Int) w := rfl
    rw [show vp b 0 = .pointer (some ⟨b, 0, none⟩) from rfl]
    show Sem.run P (asInt (vi l.length) >>= _) w = _
    simp only [Sem.run_bind, hai, Result.andThen_ok, List.getElem?_toArray, List.getElem?_cons_zero, hn0, hnm, hnz, ↓reduceIte, hel, Int.toNat_natCast, hva, hlb]
    show Result.ok (Value.string (ByteArray.empty ++ ⟨l.toArray⟩)) _ = _
    congr 2
  · have hne : ¬ l.length = 0 := by omega
    have hlt := (Array.getElem?_eq_some_iff.1 hb).1
    refine hw.set (key_of_look hl) ?_ ?_ ?_ ?_ <;> simp only [World.freeze, hne, ↓reduceIte]
    apply Array.ext_getElem?
    intro i
    rw [Array.getElem?_modify]
    by_cases hi : b = i
    · subst hi
      rw [if_pos rfl, hb]
      simp [hlt]
    · rw [if_neg hi, Array.getElem?_setIfInBounds_ne hi]
end

section
variable {P : Program} {w0 : World} {f : Fr} {L : Heap} {N : Fr → Heap → Prop} {ops : Array Oper} {rest : List Oper} {md : Md}
  {d : Option Tmp} {ty : TypeId} {ps : String} {af : Array Edge} {g : Option (Nat × Bool)}

/-- What is appended to a slice that grows. -/
theorem Ow.append {ts tx e : TypeId} {m : Bool × Nat} {z : Value} {s x : Operand} {n k : Nat} {cs new : List Value} {dx : TypeDesc} {md' : Md} (sv : Value) (hsv : ev f s = sv) (he : md.turn = some md')
    (hs : skipped ops f ⟨d, .call ⟨.builtin .append, #[s, x], #[ts, tx]⟩, ty, ps, af, g⟩ = false)
    (hu : P.underlying ts = some (.slice e)) (hm : aggT P e = some m) (hi : bytesOk P e = true) (hz : zeroV P e = some z) (hzs : z.cells.size = m.2) (hux : P.underlying tx = some dx) (hnx : ∀ k, dx ≠ .int k)
    (hB : Buf L e m.2 sv n cs) (hX : ∀ w, Hp w0 L w → AppX P w m.2 (ev f x) k new) (hbig : 2 * (n + k) + 768 ≤ 2 ^ 38)
    (hn : ∀ v' L', Buf L' e m.2 v' (n + k) (cs ++ new) → Grew w0 sv L L' → (slB v' = slB sv ∨ ∃ c, slB v' = some c ∧ Above L c) → Ow P w0 ops md' rest (putF f d v') L' N) :
    Ow P w0 ops md (⟨d, .call ⟨.builtin .append, #[s, x], #[ts, tx]⟩, ty, ps, af, g⟩ :: rest) f L N := by
  subst hsv
  refine Ow.step he rfl hs fun w hw => ?_
  obtain ⟨v', w', L', hr, hp, hb, hg, hsl⟩ := run_append (ty := ty) hw hu hm hi hz hzs hux hnx hB hX hbig
  refine .inl ⟨v', w', L', ?_, hp, hn v' L' hb hg hsl⟩
  simp only [execOp, resolve, Sem.run_bind, Sem.run_pure, Result.andThen_ok, invoke, builtin, List.map_toArray, List.map_cons, List.map_nil]
  rw [hr]
  rfl

/-- The text that shares a slice's bytes. -/
theorem Ow.unsafeString {pt it e : TypeId} {x y : Operand} {b : Nat} {l : List UInt8} {rs : List Value} {md' : Md} (he : md.turn = some md')
    (hs : skipped ops f ⟨d, .call ⟨.builtin .unsafeString, #[x, y], #[pt, it]⟩, ty, ps, af, g⟩ = false)
    (hx : ev f x = vp b 0) (hy : ev f y = vi l.length) (hl : look L b = some (.cells (l.map v8 ++ rs).toArray e (0, 0))) (h0 : 0 < l.length) (hmax : (l.length : Int) ≤ 9223372036854775807)
    (hpt : P.underlying pt = some (.pointer e)) (hc : P.cellsOf e = 1) (hd : 1 < P.depth)
    (hn : Ow P w0 ops md' rest (putF f d (vs l)) (setB L b (.cells (l.map v8 ++ rs).toArray e (0, l.length))) N) :
    Ow P w0 ops md (⟨d, .call ⟨.builtin .unsafeString, #[x, y], #[pt, it]⟩, ty, ps, af, g⟩ :: rest) f L N := by
  refine Ow.step he rfl hs fun w hw => ?_
  obtain ⟨w', hr, hp⟩ := run_unsafeString (it := it) (ty := ty) hw hl h0 hmax hpt hc hd
  refine .inl ⟨vs l, w', _, ?_, hp, hn⟩
  simp only [execOp, resolve, Sem.run_bind, Sem.run_pure, Result.andThen_ok, invoke, builtin, List.map_toArray, List.map_cons, List.map_nil, hx, hy]
  rw [hr]
  rfl
/-- No text of no bytes. -/
theorem Ow.unsafeStringNil {pt it : TypeId} {x y : Operand} {md' : Md} (he : md.turn = some md')
    (hs : skipped ops f ⟨d, .call ⟨.builtin .unsafeString, #[x, y], #[pt, it]⟩, ty, ps, af, g⟩ = false)
    {p : Option Addr} (hx : ev f x = .pointer p) (hy : ev f y = vi 0)
    (hn : Ow P w0 ops md' rest (putF f d (vs [])) L N) :
    Ow P w0 ops md (⟨d, .call ⟨.builtin .unsafeString, #[x, y], #[pt, it]⟩, ty, ps, af, g⟩ :: rest) f L N := by
  refine Ow.step he rfl hs fun w hw => ?_
  refine .inl ⟨vs [], w, L, ?_, hw, hn⟩
  simp only [execOp, resolve, Sem.run_bind, Sem.run_pure, Result.andThen_ok, invoke, builtin, List.map_toArray, List.map_cons, List.map_nil, hx, hy]
  cases p <;> rfl
theorem Ow.sliceData {t : TypeId} {x : Operand} {v : Value} {md' : Md} (he : md.turn = some md')
    (hs : skipped ops f ⟨d, .call ⟨.builtin .unsafeSliceData, #[x], #[t]⟩, ty, ps, af, g⟩ = false)
    (hx : (∃ n c, ev f x = .slice none n c ∧ v = .pointer none) ∨ ∃ b n c, ev f x = vsl b 0 n c ∧ c ≠ 0 ∧ v = vp b 0)
    (hn : Ow P w0 ops md' rest (putF f d v) L N) :
    Ow P w0 ops md (⟨d, .call ⟨.builtin .unsafeSliceData, #[x], #[t]⟩, ty, ps, af, g⟩ :: rest) f L N := by
  refine Ow.step he rfl hs fun w hw => ?_
  refine .inl ⟨v, w, L, ?_, hw, hn⟩
  simp only [execOp, resolve, Sem.run_bind, Sem.run_pure, Result.andThen_ok, invoke, builtin, List.map_toArray, List.map_cons, List.map_nil]
  rcases hx with ⟨n, c, hx, rfl⟩ | ⟨b, n, c, hx, hc, rfl⟩
  · rw [hx]; rfl
  · rw [hx]
    have e : Builtin.unsafeSliceData_ #[t] ty #[vsl b 0 n c] = (if c ≠ 0 then pure (.pointer (some ⟨b, 0, none⟩)) else do
        if (← viewAt b).isSome then pure (.pointer (some ⟨b, 0, none⟩)) else pure (.pointer (some ⟨← newObj (.view ⟨b, 0, none⟩ (← elemOf ty)), 0, none⟩))) := rfl
    rw [e, if_pos hc]
    rfl
end
end Go.Sx
end
namespace Go.Sx
open Go
section
variable {P : Program} {w0 : World} {f : Fr} {L : Heap} {N : Fr → Heap → Prop} {ops : Array Oper} {rest : List Oper} {md : Md}
  {d : Option Tmp} {ty : TypeId} {ps : String} {af : Array Edge} {g : Option (Nat × Bool)}

theorem run_toUnsafe {w : World} {s dt t : TypeId} {b off : Nat} {m : Bool × Nat} {cs : Array Value} {E : TypeId} {fz : Nat × Nat} (hb : w.heap[b]? = some (.cells cs E fz)) (ho : off < cs.size) (hm : aggT P t = some m) (hm0 : m.2 ≠ 0)
    (hs : P.underlying s = some (.pointer t)) (hd : P.underlying dt = some .unsafePointer) : (convert s dt (vp b off)).run P w = .ok (vp b off) w := by
  have hsh : w.shape? b = some (E, cs.size) := by simp only [World.shape?, hb]
  have e1 : ∀ {α β : Type} (a : α) (f : α → World → Result β), (Sem.run P (pure a) w).andThen f = f a w := fun _ _ => rfl
  have e2 : (shape b).run P w = .ok (some (E, cs.size)) w := by show Result.ok (w.shape? b) w = _; rw [hsh]
  have hv : (Conv.seenAt ⟨b, off, none⟩).run P w = .ok ⟨b, off, none⟩ w := by
    simp only [Conv.seenAt, viewAt, Sem.run_bind, e2, Result.andThen_ok, Option.isSome_some, ↓reduceIte]
    rfl
  have hci : (cellsIn b).run P w = .ok (some cs.size) w := by
    simp only [cellsIn, Sem.run_bind, e2, Result.andThen_ok]
    rfl
  have hno : (decide (m.2 = 0) || decide (off ≥ cs.size) && (none : Option Nat).isNone) = false := by
    have : ¬ (off ≥ cs.size) := by omega
    simp [hm0, this]
  have hu : (Conv.unsafePointer s dt (vp b off)).run P w = .ok (vp b off) w := by
    simp only [Conv.unsafePointer, vp, Sem.run_bind, run_underlying hs w, run_underlying hd w, Result.andThen_ok, hv, hci, run_sizeOf hm w]
    rw [if_neg (by rw [hno]; simp)]
    rfl
  unfold convert
  simp only [vp, Sem.run_bind, run_underlying hs w, run_underlying hd w, Result.andThen_ok]
  exact hu

theorem run_ofUnsafe {w : World} {s dt t : TypeId} {b off : Nat} {m : Bool × Nat} {cs : Array Value} {E : TypeId} {fz : Nat × Nat} (hb : w.heap[b]? = some (.cells cs E fz)) (hm : aggT P t = some m) (hla : liesAt P P.depth E (cs.size / P.cellsOf E) off t 1 = true)
    (hs : P.underlying s = some .unsafePointer) (hd : P.underlying dt = some (.pointer t)) : (convert s dt (vp b off)).run P w = .ok (vp b off) w := by
  have hsh : w.shape? b = some (E, cs.size) := by simp only [World.shape?, hb]
  have e2 : (shape b).run P w = .ok (some (E, cs.size)) w := by show Result.ok (w.shape? b) w = _; rw [hsh]
  have hv : (Conv.seenAt ⟨b, off, none⟩).run P w = .ok ⟨b, off, none⟩ w := by
    simp only [Conv.seenAt, viewAt, Sem.run_bind, e2, Result.andThen_ok, Option.isSome_some, ↓reduceIte]
    rfl
  have hva : (variablesAt ⟨b, off, none⟩ t 1).run P w = .ok true w := by
    simp only [variablesAt, program, Sem.run_bind]
    show Result.andThen (Result.ok P w) _ = _
    simp only [Result.andThen_ok, e2]
    rw [hla]
    rfl
  have hu : (Conv.unsafePointer s dt (vp b off)).run P w = .ok (vp b off) w := by
    simp only [Conv.unsafePointer, vp, Sem.run_bind, run_underlying hs w, run_underlying hd w, Result.andThen_ok, hv, run_sizeOf hm w, hva]
    by_cases h0 : m.2 = 0
    · simp [h0]
    · simp [h0]
  unfold convert
  simp only [vp, Sem.run_bind, run_underlying hs w, run_underlying hd w, Result.andThen_ok]
  exact hu

theorem Ow.toUnsafe {s dt t : TypeId} {x : Operand} {b off : Nat} {m : Bool × Nat} {cs : Array Value} {E : TypeId} {fz : Nat × Nat} {md' : Md} (he : md.turn = some md') (hsk : skipped ops f ⟨d, .convert s dt x, ty, ps, af, g⟩ = false)
    (hcv : cvT P s dt = .no) (hx : ev f x = vp b off) (hb : readB w0 L b = some (.cells cs E fz)) (ho : off < cs.size) (hm : aggT P t = some m) (hm0 : m.2 ≠ 0) (hs : P.underlying s = some (.pointer t)) (hd : P.underlying dt = some .unsafePointer)
    (hn : Ow P w0 ops md' rest (putF f d (vp b off)) L N) : Ow P w0 ops md (⟨d, .convert s dt x, ty, ps, af, g⟩ :: rest) f L N := by
  refine Ow.step he (by simp [pureK, hcv]) hsk fun w hw => .inl ⟨vp b off, w, L, ?_, hw, hn⟩
  simp only [execOp, Sem.run_bind, hx, run_toUnsafe (hw.read hb) ho hm hm0 hs hd]
  rfl
theorem Ow.ofUnsafe {s dt t : TypeId} {x : Operand} {b off : Nat} {m : Bool × Nat} {cs : Array Value} {E : TypeId} {fz : Nat × Nat} {md' : Md} (he : md.turn = some md') (hsk : skipped ops f ⟨d, .convert s dt x, ty, ps, af, g⟩ = false)
    (hcv : cvT P s dt = .no) (hx : ev f x = vp b off) (hb : readB w0 L b = some (.cells cs E fz)) (hm : aggT P t = some m) (hla : liesAt P P.depth E (cs.size / P.cellsOf E) off t 1 = true) (hs : P.underlying s = some .unsafePointer) (hd : P.underlying dt = some (.pointer t))
    (hn : Ow P w0 ops md' rest (putF f d (vp b off)) L N) : Ow P w0 ops md (⟨d, .convert s dt x, ty, ps, af, g⟩ :: rest) f L N := by
  refine Ow.step he (by simp [pureK, hcv]) hsk fun w hw => .inl ⟨vp b off, w, L, ?_, hw, hn⟩
  simp only [execOp, Sem.run_bind, hx, run_ofUnsafe (hw.read hb) hm hla hs hd]
  rfl

theorem Ow.neqSame {t t' e : TypeId} {x y : Operand} {b off : Nat} {m : Bool × Nat} (hs : skipped ops f ⟨d, .binOp .neq t x y t', ty, ps, af, g⟩ = false) (hu : P.underlying t = some (.pointer e)) (hm : aggT P e = some m) (hx : ev f x = vp b off) (hy : ev f y = vp b off)
    (hn : Ow P w0 ops md.next rest (putF f d (.bool false)) L N) : Ow P w0 ops md (⟨d, .binOp .neq t x y t', ty, ps, af, g⟩ :: rest) f L N := by
  refine Ow.pureV rfl hs (fun w => ?_) hn
  have he : (Op.equal t (vp b off) (vp b off)).run P w = .ok true w := by
    show (Op.equalIn 10000 t (vp b off) (vp b off)).run P w = _
    unfold Op.equalIn
    simp only [vp, Sem.run_bind, run_underlying hu w, Result.andThen_ok, run_sizeOf hm w]
    by_cases h0 : m.2 = 0
    · simp [h0]
    · simp only [h0, ne_eq, not_false_eq_true, ↓reduceIte, sameAddr, beq_self_eq_true]
      rfl
  simp only [execOp, Sem.run_bind, hx, hy]
  have hg : (eqGuard .neq t x y (vp b off) (vp b off)).run P w = .ok () w := rfl
  have hb : binOp .neq t (vp b off) (vp b off) = (do pure (.bool (!(← Op.equal t (vp b off) (vp b off)))) : Sem Value) := rfl
  rw [hg, Result.andThen_ok, hb, Sem.run_bind, he]
  rfl

theorem read_setB_ne {w0 : World} {L : Heap} {b c : Nat} {x : Obj} (h : b ≠ c) : readB w0 (setB L b x) c = readB w0 L c := by
  unfold readB; rw [look_setB_ne h]

/-- A callee without a body, by its run. -/
theorem Ow.callExt {l : List Operand} {ts : Array TypeId} {k : FuncId} {v : Value} {md' : Md} (he : md.turn = some md')
    (hs : skipped ops f ⟨d, .call ⟨.value (.func k), l.toArray, ts⟩, ty, ps, af, g⟩ = false)
    (hv : ∀ w, (callFunc k (l.map (ev f)).toArray).run P w = .ok (.value v) w)
    (hn : Ow P w0 ops md' rest (putF f d v) L N) :
    Ow P w0 ops md (⟨d, .call ⟨.value (.func k), l.toArray, ts⟩, ty, ps, af, g⟩ :: rest) f L N := by
  refine Ow.step he rfl hs fun w hw => .inl ⟨v, w, L, ?_, hw, hn⟩
  have := hv w
  simp only [execOp, resolve, Deferred.ofValue, ev, Sem.run_bind, Sem.run_pure, Result.andThen_ok, invoke]
  simpa using this

theorem Ow.minI {x y : Operand} {ts : Array TypeId} {a b : Int} (hs : skipped ops f ⟨d, .call ⟨.builtin .min, #[x, y], ts⟩, ty, ps, af, g⟩ = false) (hx : ev f x = vi a) (hy : ev f y = vi b)
    (hn : Ow P w0 ops md.next rest (putF f d (vi (if b < a then b else a))) L N) : Ow P w0 ops md (⟨d, .call ⟨.builtin .min, #[x, y], ts⟩, ty, ps, af, g⟩ :: rest) f L N := by
  refine Ow.calm rfl rfl hs (fun w hw => .inl ⟨vi (if b < a then b else a), w, L, ?_, hw, rfl, rfl⟩) hn
  simp only [execOp, resolve, Sem.run_bind, Sem.run_pure, Result.andThen_ok, invoke, builtin, List.map_toArray, List.map_cons, List.map_nil, hx, hy]
  rfl
theorem Ow.maxI {x y : Operand} {ts : Array TypeId} {a b : Int} (hs : skipped ops f ⟨d, .call ⟨.builtin .max, #[x, y], ts⟩, ty, ps, af, g⟩ = false) (hx : ev f x = vi a) (hy : ev f y = vi b)
    (hn : Ow P w0 ops md.next rest (putF f d (vi (if b > a then b else a))) L N) : Ow P w0 ops md (⟨d, .call ⟨.builtin .max, #[x, y], ts⟩, ty, ps, af, g⟩ :: rest) f L N := by
  refine Ow.calm rfl rfl hs (fun w hw => .inl ⟨vi (if b > a then b else a), w, L, ?_, hw, rfl, rfl⟩) hn
  simp only [execOp, resolve, Sem.run_bind, Sem.run_pure, Result.andThen_ok, invoke, builtin, List.map_toArray, List.map_cons, List.map_nil, hx, hy]
  rfl
end

/-! ### Chunks: some known blocks are handed to a callee, and more come back -/
/-- All blocks of the chunk are told, and none but new ones beside. -/
structure Ext (w : World) (X D : Heap) : Prop where
  new : ∀ c, c ∈ keys D → c ∈ keys X ∨ w.heap.size ≤ c
  all : ∀ c, c ∈ keys X → c ∈ keys D
theorem Ext.refl (w : World) (X : Heap) : Ext w X X := ⟨fun _ h => .inl h, fun _ h => h⟩
theorem Ext.setB {w : World} {X D : Heap} {b : Nat} {o : Obj} (h : Ext w X D) : Ext w X (setB D b o) := ⟨fun c hc => h.new c (by rwa [keys_setB] at hc), fun c hc => by rw [keys_setB]; exact h.all c hc⟩
theorem Ext.app {w : World} {X D : Heap} {b : Nat} {o : Obj} (h : Ext w X D) (hb : w.heap.size ≤ b) : Ext w X (D ++ [(b, o)]) :=
  ⟨fun c hc => by
    rw [keys_app] at hc
    rcases List.mem_append.1 hc with hc | hc
    · exact h.new c hc
    · simp only [keys, List.map_cons, List.map_nil, List.mem_singleton] at hc
      exact .inr (hc ▸ hb), fun c hc => by rw [keys_app]; exact List.mem_append_left _ (h.all c hc)⟩
theorem Ext.grew {w : World} {X D D' : Heap} {v : Value} (h : Ext w X D) (hg : Grew w v D D') : Ext w X D' :=
  ⟨fun c hc => by
    rcases hg.new c hc with hc | ⟨-, hc⟩
    · exact h.new c hc
    · exact .inr hc, fun c hc => hg.keys c (h.all c hc)⟩
theorem Ext.keys {w : World} {X D D' : Heap} (h : Ext w X D) (hk : Sx.keys D' = Sx.keys D) : Ext w X D' := ⟨fun c hc => h.new c (hk ▸ hc), fun c hc => hk ▸ h.all c hc⟩

theorem read_none {w0 : World} {L : Heap} {b : Nat} (h : b ∉ Sx.keys L) : readB w0 L b = w0.heap[b]? := by
  unfold readB
  cases hl : look L b with
  | none => rfl
  | some o => exact absurd (key_of_look hl) h
theorem Ext.not {w : World} {X D : Heap} (h : Ext w X D) {b : Nat} (hb : b < w.heap.size) (hn : b ∉ Sx.keys X) : b ∉ Sx.keys D := fun hm => by
  rcases h.new b hm with h | h
  · exact hn h
  · omega
theorem Ext.old {w : World} {X D : Heap} (h : Ext w X D) {b : Nat} {o : Obj} (hb : w.heap[b]? = some o) (hn : b ∉ Sx.keys X) : readB w D b = some o := by
  rw [read_none (h.not (Array.getElem?_eq_some_iff.1 hb).1 hn)]; exact hb

/-- Behind a call: all blocks of the chunk are told anew, and none but new ones come to them. -/
def XS (w : World) (X : Heap) (S : Value → Heap → Prop) (v : Value) (D : Heap) : Prop := Ext w X D ∧ S v D

/-- What a callee leaves of a chunk that was handed to it, where L was known. -/
structure Came (w0 : World) (L X D : Heap) : Prop where
  new : ∀ c, c ∈ Sx.keys D → c ∈ Sx.keys X ∨ (Above L c ∧ w0.heap.size ≤ c)
  all : ∀ c, c ∈ Sx.keys X → c ∈ Sx.keys D
theorem Ext.came {w : World} {X D D' Y L : Heap} (h : Ext w X (D ++ Y)) (hc : Came w L D D') : Ext w X (D' ++ Y) := by
  refine ⟨fun c hm => ?_, fun c hm => ?_⟩
  · rw [keys_app] at hm
    rcases List.mem_append.1 hm with hm | hm
    · rcases hc.new c hm with hm | ⟨-, hm⟩
      · exact h.new c (by rw [keys_app]; exact List.mem_append_left _ hm)
      · exact .inr hm
    · exact h.new c (by rw [keys_app]; exact List.mem_append_right _ hm)
  · have := h.all c hm
    rw [keys_app] at this ⊢
    rcases List.mem_append.1 this with hm | hm
    · exact List.mem_append_left _ (hc.all c hm)
    · exact List.mem_append_right _ hm
theorem Ext.came0 {w : World} {X D D' L : Heap} (h : Ext w X D) (hc : Came w L D D') : Ext w X D' := by
  have := Ext.came (Y := []) (by simpa using h) hc
  simpa using this

theorem Hp.ownX {w0 w : World} {X : Heap} (h : Hp w0 [] w) (hX : ∀ p, p ∈ X → w0.heap[p.1]? = some p.2) (hn : (keys X).Nodup) : Hp w0 X w := by
  refine ⟨fun b o hm => ?_, hn, fun b hb _ => h.old b hb (by simp [keys]), h.size, h.tape, h.os, h.output⟩
  have := hX (b, o) hm
  simp only at this
  rw [h.old b (Array.getElem?_eq_some_iff.1 this).1 (by simp [keys])]
  exact this

theorem Rets.enterX {P : Program} {k : FuncId} {fn : Func} {c : Code} {rs : List ResultVar} {args : Array Value} {w : World} {S : Value → Heap → Prop} {n : Nat} {X : Heap}
    (hf : P.funcs[k]? = some fn) (hb : fn.body = some c) (hr : fn.results = rs.toArray) (hn : fn.ntmps = n) (hX : ∀ p, p ∈ X → w.heap[p.1]? = some p.2) (hnd : (keys X).Nodup)
    (h : Cw P w c (args.toList ++ List.replicate (n - args.size) undef) X (retK P w rs (XS w X S))) : Rets P k args w (XS w X S) :=
  Rets.enter hf hb hr hn fun w' hw' => h w' (hw'.ownX hX hnd)

section
variable {P : Program} {w0 : World} {f : Fr} {L : Heap} {N : Fr → Heap → Prop} {ops : Array Oper} {rest : List Oper} {md : Md}
  {d : Option Tmp} {ty : TypeId} {ps : String} {af : Array Edge} {g : Option (Nat × Bool)}

/-- A callee to which a chunk is handed. -/
theorem Ow.callX {l : List Operand} {ts : Array TypeId} {k : FuncId} {X Y : Heap} {S : Value → Heap → Prop} {md' : Md} (hL : L = X ++ Y) (he : md.turn = some md')
    (hs : skipped ops f ⟨d, .call ⟨.value (.func k), l.toArray, ts⟩, ty, ps, af, g⟩ = false)
    (hk : ∀ a w, (callFunc k a).run P w = .ok (.enter k a) w)
    (hc : ∀ w, Hp w0 L w → (∀ p, p ∈ X → w.heap[p.1]? = some p.2) → (keys X).Nodup → Rets P k (l.map (ev f)).toArray w (XS w X S))
    (hn : ∀ v D, Came w0 L X D → S v D → Ow P w0 ops md' rest (putF f d v) (D ++ Y) N) :
    Ow P w0 ops md (⟨d, .call ⟨.value (.func k), l.toArray, ts⟩, ty, ps, af, g⟩ :: rest) f L N := by
  subst hL
  have hnd : ∀ w, Hp w0 (X ++ Y) w → (keys X).Nodup ∧ ∀ c, c ∈ keys Y → c ∉ keys X := by
    intro w hw
    have := hw.nodup
    rw [keys_app, List.nodup_append] at this
    exact ⟨this.1, fun c hc hx => this.2.2 c hx c hc rfl⟩
  refine Ow.callF (S := fun B v D => ((∀ c, c ∈ keys D → c ∈ keys X ∨ B ≤ c) ∧ (∀ c, c ∈ keys X → c ∈ keys D) ∧ S v D) ∧ ∃ w, Hp w0 (X ++ Y) w ∧ w.heap.size = B) he hs hk (fun w hw => ?_) ?_
  · refine Calls.mono (hc w hw (fun p hp => hw.has _ _ (List.mem_append_left _ hp)) (hnd w hw).1) ?_
    rintro e w' ⟨v, D, he, hp, hS⟩
    exact ⟨v, D, he, hp, ⟨hS.1.new, hS.1.all, hS.2⟩, w, hw, rfl⟩
  · rintro B v D hab hB ⟨⟨h1, h2, h3⟩, w1, hw1, hwB⟩
    refine ⟨D ++ Y, ?_, hn v D ⟨fun c hc => (h1 c hc).imp id fun h => ⟨above_of fun b hb => by have := hw1.lt hb; omega, by have := hw1.size; omega⟩, h2⟩ h3⟩
    intro w w' hwb h k
    have ht := h.trans k
    have hY : ∀ c, c ∈ keys Y → c ∉ keys D := by
      intro c hc hd
      rcases h1 c hd with hx | hx
      · exact (hnd w h).2 c hc hx
      · have := h.lt (b := c) (by rw [keys_app]; exact List.mem_append_right _ hc)
        omega
    have e1 : X.filter (fun p => !(keys D).contains p.1) = [] := by
      rw [List.filter_eq_nil_iff]
      intro p hp
      have := h2 p.1 (List.mem_map.2 ⟨p, hp, rfl⟩)
      simpa using this
    have e2 : Y.filter (fun p => !(keys D).contains p.1) = Y := filter_keys_all hY
    rw [List.filter_append, e1, e2, List.nil_append] at ht
    refine ht.same (fun p => by simp [or_comm]) ?_
    have := ht.nodup
    rw [keys_app] at this ⊢
    exact (List.perm_append_comm.nodup_iff).1 this
end

/-! ### Slices whose elements have one cell -/
structure OneS {α : Type} (enc : α → Value) (z : α) (w : World) (v : Value) (l : List α) (b off : Nat) (arr : Array Value) (E : TypeId) (fz : Nat × Nat) : Prop where
  len : ∀ m, lenV (.sl m) v = some (vi l.length)
  idx : ∀ m (k : Nat), k < l.length → indexAddrV (.sl m) v (some (k : Int)) = some (vp b (off + k * m.2))
  has : 0 < l.length → w.heap[b]? = some (.cells arr E fz)
  get : ∀ k, k < l.length → arr[off + k]? = some (enc (l.getD k z))
theorem OneS.sl {α : Type} {enc : α → Value} {z : α} {w : World} {l : List α} {b off n c : Nat} {arr : Array Value} {E : TypeId} {fz : Nat × Nat} (hn : n = l.length)
    (has : w.heap[b]? = some (.cells arr E fz)) (get : ∀ k, k < l.length → arr[off + k]? = some (enc (l.getD k z))) : OneS enc z w (vsl b off n c) l b off arr E fz := by
  subst hn
  exact ⟨fun _ => rfl, fun m k h => by rw [indexAddr_sl _ _ _ _ _ _ (by omega)]; simp, fun _ => has, get⟩
theorem OneS.lit {α : Type} {enc : α → Value} {z : α} {w : World} {b n c : Nat} {E : TypeId} {fz : Nat × Nat} {arr : Array Value} (l : List α) (hn : n = l.length) (ha : arr = (l.map enc).toArray) (has : w.heap[b]? = some (.cells arr E fz)) : OneS enc z w (vsl b 0 n c) l b 0 arr E fz :=
  OneS.sl hn has (by intro k hk; rw [ha, Nat.zero_add, List.getElem?_toArray, List.getElem?_map, List.getD_eq_getElem?_getD, List.getElem?_eq_getElem hk]; rfl)
/-! ### Slices whose elements have some cells -/
structure RowS {α : Type} (m : Nat) (enc : α → List Value) (z : α) (w : World) (v : Value) (l : List α) (b off : Nat) (arr : Array Value) (E : TypeId) (fz : Nat × Nat) : Prop where
  len : ∀ x, lenV (.sl x) v = some (vi l.length)
  idx : ∀ a (k : Nat), k < l.length → indexAddrV (.sl (a, m)) v (some (k : Int)) = some (vp b (off + k * m))
  has : 0 < l.length → w.heap[b]? = some (.cells arr E fz)
  get : ∀ k, k < l.length → ∀ j, j < m → arr[off + k * m + j]? = (enc (l.getD k z))[j]?
theorem RowS.sl {α : Type} {m : Nat} {enc : α → List Value} {z : α} {w : World} {l : List α} {b off n c : Nat} {arr : Array Value} {E : TypeId} {fz : Nat × Nat} (hn : n = l.length)
    (has : w.heap[b]? = some (.cells arr E fz)) (get : ∀ k, k < l.length → ∀ j, j < m → arr[off + k * m + j]? = (enc (l.getD k z))[j]?) : RowS m enc z w (vsl b off n c) l b off arr E fz := by
  subst hn
  exact ⟨fun _ => rfl, fun a k h => by rw [indexAddr_sl _ _ _ _ _ _ (by omega)]; simp, fun _ => has, get⟩
theorem RowS.nil {α : Type} {m : Nat} {enc : α → List Value} {z : α} (w : World) (n c : Nat) (hn : n = 0) : RowS m enc z w (.slice none n c) [] 0 0 #[] 0 (0, 0) := by
  subst hn
  exact ⟨fun _ => rfl, fun _ _ h => absurd h (Nat.not_lt_zero _), fun h => absurd h (Nat.not_lt_zero _), fun _ h => absurd h (Nat.not_lt_zero _)⟩
/-- One element as a whole. -/
theorem RowS.load {α : Type} {m : Nat} {enc : α → List Value} {z : α} {w : World} {v : Value} {l : List α} {b off : Nat} {arr : Array Value} {E : TypeId} {fz : Nat × Nat} (h : RowS m enc z w v l b off arr E fz) (hm : ∀ x, (enc x).length = m) (h0 : 0 < m) {k : Nat} (hk : k < l.length) :
    loadV (some (true, m)) (some (.cells arr E fz)) (off + k * m) = some (.agg (enc (l.getD k z)).toArray) := by
  have hg := h.get k hk
  have hsz : off + k * m + m ≤ arr.size := by
    have h1 := hg (m - 1) (by omega)
    rw [List.getElem?_eq_getElem (by rw [hm]; omega)] at h1
    have := (Array.getElem?_eq_some_iff.1 h1).1
    omega
  simp only [loadV, hsz, ↓reduceIte]
  congr 2
  apply Array.ext_getElem?
  intro j
  rw [Array.getElem?_extract]
  by_cases hj : j < m
  · rw [if_pos (by omega), hg j hj, List.getElem?_toArray]
  · rw [if_neg (by omega), List.getElem?_toArray, List.getElem?_eq_none (by rw [hm]; omega)]
/-- A cell of an element. -/
theorem RowS.cell {α : Type} {m : Nat} {enc : α → List Value} {z : α} {w : World} {v : Value} {l : List α} {b off : Nat} {arr : Array Value} {E : TypeId} {fz : Nat × Nat} (h : RowS m enc z w v l b off arr E fz) {k j n : Nat} (hk : k < l.length) (hj : j < m) :
    loadV (some (false, n)) (some (.cells arr E fz)) (off + k * m + j) = (enc (l.getD k z))[j]? := h.get k hk j hj
end Go.Sx
namespace Go.Sx
open Go
theorem lenS {α : Type} : (∀ (a : α) (l : List α), (a :: l).length = l.length + 1) ∧ ([] : List α).length = 0 ∧ (∀ (l : List α) (i : Nat) (a : α), (l.set i a).length = l.length) ∧ (∀ (l m : List α), (l ++ m).length = l.length + m.length) ∧
    (∀ (n : Nat) (a : α), (List.replicate n a).length = n) ∧ (∀ (n : Nat) (l : List α), (l.take n).length = min n l.length) ∧ (∀ (n : Nat) (l : List α), (l.drop n).length = l.length - n) ∧ ∀ {β : Type} (f : α → β) (l : List α), (l.map f).length = l.length :=
  ⟨fun _ _ => List.length_cons, List.length_nil, fun _ _ _ => List.length_set, fun _ _ => List.length_append, fun _ _ => List.length_replicate, fun _ _ => List.length_take, fun _ _ => List.length_drop, fun _ _ => List.length_map ..⟩
theorem lenT : (∀ n : Nat, ((n : Int)).toNat = n) ∧ (∀ l : List UInt8, (a8 l).size = l.length) ∧ (∀ l : List UInt32, (a32 l).size = l.length) ∧ (∀ p : Prop, (p ∧ p) = p) ∧ (∀ p : Prop, (p ∧ True) = p) ∧ ∀ p : Prop, (True ∧ p) = p :=
  ⟨Int.toNat_natCast, size_a8, size_a32, fun _ => and_self _, fun _ => and_true _, fun _ => true_and _⟩
/-- What is not looked into by simp: another argument's type names it. -/
inductive Tag {α : Type} (x : α) : Type
  | mk : Tag x
/-- What follows in a row. -/
def seqN (F : Fr → Heap → Kont → Prop) (K : Kont) (f : Fr) (L : Heap) : Prop := F f L K
/-- A branch: what is left if it can't be told which way. -/
def cdC (v : Value) (A B S : Prop) (_ : Tag (A, B, S)) : Prop :=
  match v with
  | .bool true => A
  | .bool false => B
  | _ => S
/-- What stands as it is. -/
abbrev CwS (P : Program) (w0 : World) (c : Code) (f : Fr) (L : Heap) (K : Kont) (_ : Tag (c, K)) : Prop := Cw P w0 c f L K
abbrev OwS (P : Program) (w0 : World) (ops : Array Oper) (md : Md) (l : List Oper) (f : Fr) (L : Heap) (N : Fr → Heap → Prop) (_ : Tag (ops, l, N)) : Prop := Ow P w0 ops md l f L N
def bsK (K : Kont) (e : Exit) (f : Fr) (L : Heap) : Dep K := K e f L
def bsN (N : Fr → Heap → Prop) (f : Fr) (L : Heap) : Dep N := N f L
abbrev bsR (K : Kont) (e : Exit) (f : Fr) (L : Heap) (_ : Tag K) : Prop := K e f L
abbrev bsM (N : Fr → Heap → Prop) (f : Fr) (L : Heap) (_ : Tag N) : Prop := N f L
/-- Behind a row of operations. -/
def owk (P : Program) (w0 : World) (ops : Array Oper) (N : Fr → Heap → Prop) (md : Md) (l : List Oper) (f : Fr) (L : Heap) : Dep (ops, N) :=
  match l with
  | [] => N f L
  | o :: r => Ow P w0 ops md (o :: r) f L N
/-- The first region of a row. -/
def fid : Code → Nat
  | .seq a _ => fid a
  | .region i _ _ => i
  | .block _ c => fid c
  | .loop c => fid c
  | .scope c => fid c
  | _ => 500000
def stopS (z : List Nat) (c : Code) : Bool := match z with
  | [] => false
  | k :: r => (k == 1000000 + fid c) || stopS r c
/-- 'z': the regions that are left as they stand; 1000000 and a region's number: the row that it begins is. -/
def vcC (P : Program) (w0 : World) (z : List Nat) : Code → Fr → Heap → Kont → Prop
  | .seq x y, f, L, K => ib (stopS z (.seq x y)) (CwS P w0 (.seq x y) f L K .mk) (vcC P w0 z x f L (thenK (seqN (fun f L K => ib (z.contains 999999) (CwS P w0 y f L K .mk) (vcC P w0 z y f L K)) K) K))
  | .skip, f, L, K => K .normal f L
  | .exit i, f, L, K => K (.exit i) f L
  | .goto i, f, L, K => K (.goto i) f L
  | .ret, f, L, K => K .ret f L
  | .label l, f, L, K => ib (z.contains 999999) (Cw P w0 (.label l) f L K) (K .normal f L)
  | .block id c, f, L, K => vcC P w0 z c f L (blockK id K)
  | .cond c x y, f, L, K => ∃ b, ev f c = .bool b ∧ (b = true → vcC P w0 z x f L K) ∧ (b = false → vcC P w0 z y f L K)
  | .region id ops false, f, L, K => ib (z.contains id) (Cw P w0 (.region id ops false) f L K) (vcL P w0 ops true .seq ops.toList f L (owk P w0 ops (K .normal)))
  | c, f, L, K => Cw P w0 c f L K
section
variable {P : Program} {w0 : World} {f : Fr} {L : Heap} {K : Kont} {N : Fr → Heap → Prop} {ops : Array Oper} {md : Md} {l : List Oper}
theorem owk_ow (h : owk P w0 ops N md l f L) : Ow P w0 ops md l f L N := by
  cases l with
  | nil => exact Ow.nil h
  | cons o r => exact h
theorem Ow.go (he : md.eff = true) (h : vcL P w0 ops true md l f L (owk P w0 ops (bsN N))) : Ow P w0 ops md l f L N :=
  vcL_sound _ (fun _ _ _ _ h => owk_ow h) true l md f L (fun _ => he) h
theorem Ow.goQ (h : vcL P w0 ops false md l f L (owk P w0 ops (bsN N))) : Ow P w0 ops md l f L N :=
  vcL_sound _ (fun _ _ _ _ h => owk_ow h) false l md f L (fun e => by cases e) h
theorem vcC_sound {z : List Nat} : ∀ (c : Code) {f : Fr} {L : Heap} {K : Kont}, vcC P w0 z c f L K → Cw P w0 c f L K
  | .seq x y, f, L, K, h => by
      unfold vcC at h
      cases hs : stopS z (.seq x y) with
      | true => rw [hs] at h; exact h
      | false =>
        rw [hs] at h
        refine Cw.seq ((vcC_sound x h).mono fun e f L k => ?_)
        cases e with
        | normal =>
          have k' : ib (z.contains 999999) (CwS P w0 y f L K .mk) (vcC P w0 z y f L K) := k
          cases hz : z.contains 999999 with
          | true => rw [hz] at k'; exact k'
          | false => rw [hz] at k'; exact vcC_sound y k'
        | _ => exact k
  | .skip, _, _, _, h => Cw.skip h
  | .exit _, _, _, _, h => Cw.exit h
  | .goto _, _, _, _, h => Cw.goto h
  | .ret, _, _, _, h => Cw.ret h
  | .label l, _, _, _, h => by
      unfold vcC at h
      cases hz : z.contains 999999 with
      | true => rw [hz] at h; exact h
      | false => rw [hz] at h; exact Cw.label h
  | .block id c, _, _, _, h => Cw.block (vcC_sound c h)
  | .cond c x y, _, _, _, ⟨b, hb, h1, h2⟩ => Cw.cond hb (fun e => vcC_sound x (h1 e)) (fun e => vcC_sound y (h2 e))
  | .region id ops false, f, L, K, h => by
      obtain ⟨l⟩ := ops
      unfold vcC at h
      cases hz : z.contains id with
      | true => rw [hz] at h; exact h
      | false => rw [hz] at h; exact Cw.region (Ow.go rfl h)
  | .region _ _ true, _, _, _, h => h
  | .loop _, _, _, _, h => h
  | .rangeFunc _ _ _ _, _, _, _, h => h
  | .scope _, _, _, _, h => h
  | .refuse _, _, _, _, h => h
end
/-- Codes that the rewriting takes. -/
class Steps (c : Code) : Prop
instance {x y : Code} : Steps (.seq x y) := ⟨⟩
instance : Steps .skip := ⟨⟩
instance {i : Nat} : Steps (.exit i) := ⟨⟩
instance {i : Nat} : Steps (.goto i) := ⟨⟩
instance : Steps .ret := ⟨⟩
instance {i : Nat} {c : Code} : Steps (.block i c) := ⟨⟩
instance {c : Operand} {x y : Code} : Steps (.cond c x y) := ⟨⟩
instance {i : Nat} {ops : Array Oper} : Steps (.region i ops false) := ⟨⟩
theorem Cw.go {P : Program} {w0 : World} {c : Code} {f : Fr} {L : Heap} {K : Kont} (z : List Nat) [Steps c] (h : vcC P w0 z c f L (bsK K)) : Cw P w0 c f L K := vcC_sound c h

@[congr] theorem cdC_congr {v v' : Value} {A B S : Prop} {t : Tag (A, B, S)} (h : v = v') : cdC v A B S t = cdC v' A B S t := by rw [h]
/-! ### The rules -/
section
variable (P : Program) (w0 : World) (z : List Nat) (f : Fr) (L : Heap) (K : Kont) (N : Fr → Heap → Prop) (ops : Array Oper) (md : Md)
theorem vcC_seq0 (x y : Code) : vcC P w0 [] (.seq x y) f L K = vcC P w0 [] x f L (thenK (seqN (fun f L K => vcC P w0 [] y f L K) K) K) := (rfl)
theorem vcC_seq1 (k : Nat) (z : List Nat) (x y : Code) : vcC P w0 (k :: z) (.seq x y) f L K = ib (stopS (k :: z) (.seq x y)) (CwS P w0 (.seq x y) f L K .mk) (vcC P w0 (k :: z) x f L (thenK (seqN (fun f L K => ib ((k :: z).contains 999999) (CwS P w0 y f L K .mk) (vcC P w0 (k :: z) y f L K)) K) K)) := (rfl)
theorem vcC_skip : vcC P w0 z .skip f L K = K .normal f L := (rfl)
theorem vcC_exit (i : Nat) : vcC P w0 z (.exit i) f L K = K (.exit i) f L := (rfl)
theorem vcC_goto (i : Nat) : vcC P w0 z (.goto i) f L K = K (.goto i) f L := (rfl)
theorem vcC_ret : vcC P w0 z .ret f L K = K .ret f L := (rfl)
theorem vcC_label (i : Nat) : vcC P w0 z (.label i) f L K = ib (z.contains 999999) (CwS P w0 (.label i) f L K .mk) (K .normal f L) := (rfl)
theorem vcC_block (i : Nat) (c : Code) : vcC P w0 z (.block i c) f L K = vcC P w0 z c f L (blockK i K) := (rfl)
theorem vcC_cond (c : Operand) (x y : Code) : vcC P w0 z (.cond c x y) f L K = cdC (ev f c) (vcC P w0 z x f L K) (vcC P w0 z y f L K) (vcC P w0 z (.cond c x y) f L K) .mk := by
  unfold cdC
  split
  · rename_i h; simp [vcC, h]
  · rename_i h; simp [vcC, h]
  · rfl
theorem vcC_region (i : Nat) (l : List Oper) : vcC P w0 z (.region i l.toArray false) f L K = ib (z.contains i) (CwS P w0 (.region i l.toArray false) f L K .mk) (vcL P w0 l.toArray true .seq l f L (owk P w0 l.toArray (K .normal))) := (rfl)
theorem vcC_drawn (i : Nat) (ops : Array Oper) : vcC P w0 z (.region i ops true) f L K = CwS P w0 (.region i ops true) f L K .mk := (rfl)
theorem vcC_loop (c : Code) : vcC P w0 z (.loop c) f L K = CwS P w0 (.loop c) f L K .mk := (rfl)
theorem vcC_scope (c : Code) : vcC P w0 z (.scope c) f L K = CwS P w0 (.scope c) f L K .mk := (rfl)
theorem vcC_range (x : Operand) (p : Array Tmp) (a c : Code) : vcC P w0 z (.rangeFunc x p a c) f L K = CwS P w0 (.rangeFunc x p a c) f L K .mk := (rfl)
theorem seqN_eq (F : Fr → Heap → Kont → Prop) : bsN (seqN F K) f L = F f L K := (rfl)
theorem bsN_k (e : Exit) : bsN (K e) f L = bsK K e f L := (rfl)
theorem bsN_cw (c : Code) : bsN (fun f L => Cw P w0 c f L K) f L = CwS P w0 c f L K .mk := (rfl)
theorem thenK_n : thenK N K .normal f L = bsN N f L := (rfl)
theorem thenK_e (i : Nat) : thenK N K (.exit i) f L = K (.exit i) f L := (rfl)
theorem thenK_g (i : Nat) : thenK N K (.goto i) f L = K (.goto i) f L := (rfl)
theorem thenK_r : thenK N K .ret f L = K .ret f L := (rfl)
theorem blockK_n (i : Nat) : blockK i K .normal f L = K .normal f L := (rfl)
theorem blockK_g (i j : Nat) : blockK i K (.goto j) f L = K (.goto j) f L := (rfl)
theorem blockK_r (i : Nat) : blockK i K .ret f L = K .ret f L := (rfl)
theorem blockK_e (i j : Nat) : blockK i K (.exit j) f L = ib (j == i) (K .normal f L) (K (.exit j) f L) := by
  by_cases h : j = i
  · have e : (j == i) = true := beq_iff_eq.2 h
    rw [e]
    simp [blockK, ib, h]
  · have e : (j == i) = false := beq_eq_false_iff_ne.2 h
    rw [e]
    simp [blockK, ib, h]
theorem scopeK_n (A : Nat → Fr → Heap → Prop) : scopeK A K .normal f L = K .normal f L := (rfl)
theorem scopeK_e (A : Nat → Fr → Heap → Prop) (i : Nat) : scopeK A K (.exit i) f L = K (.exit i) f L := (rfl)
theorem scopeK_g (A : Nat → Fr → Heap → Prop) (i : Nat) : scopeK A K (.goto i) f L = bsN (A i) f L := (rfl)
theorem scopeK_r (A : Nat → Fr → Heap → Prop) : scopeK A K .ret f L = K .ret f L := (rfl)
theorem owk_nil : owk P w0 ops N md [] f L = bsN N f L := (rfl)
theorem bsK_out (e : Exit) : bsK K e f L = bsR K e f L .mk := (rfl)
theorem bsN_out : bsN N f L = bsM N f L .mk := (rfl)
theorem bsN_bs : bsN (bsN N) f L = bsN N f L := (rfl)
theorem bsK_bs (e : Exit) : bsK (bsK K) e f L = bsK K e f L := (rfl)
theorem bsK_then (e : Exit) : bsK (thenK N K) e f L = thenK N (bsK K) e f L := by cases e <;> rfl
theorem bsK_block (i : Nat) (e : Exit) : bsK (blockK i K) e f L = blockK i (bsK K) e f L := by cases e <;> rfl
theorem bsK_scope (A : Nat → Fr → Heap → Prop) (e : Exit) : bsK (scopeK A K) e f L = scopeK A (bsK K) e f L := by cases e <;> rfl
theorem owk_cons (o : Oper) (r : List Oper) : owk P w0 ops N md (o :: r) f L = OwS P w0 ops md (o :: r) f L N .mk := (rfl)
end
section
variable (A B S : Prop) (t : Tag (A, B, S))
theorem cd_tt : cdC (.bool true) A B S t = A := (rfl)
theorem cd_ff : cdC (.bool false) A B S t = B := (rfl)
theorem cd_bt (b : Bool) (h : b = true) : cdC (.bool b) A B S t = A := by rw [h]; rfl
theorem cd_bf (b : Bool) (h : b = false) : cdC (.bool b) A B S t = B := by rw [h]; rfl
theorem cd_pt (p : Prop) [Decidable p] (h : p) : cdC (.bool (decide p)) A B S t = A := cd_bt A B S t _ (decide_eq_true h)
theorem cd_pf (p : Prop) [Decidable p] (h : ¬ p) : cdC (.bool (decide p)) A B S t = B := cd_bf A B S t _ (decide_eq_false h)
theorem cd_it (a b : Int) (h : a = b) : cdC (.bool (a == b)) A B S t = A := cd_bt A B S t _ (beq_iff_eq.2 h)
theorem cd_if (a b : Int) (h : ¬ a = b) : cdC (.bool (a == b)) A B S t = B := cd_bf A B S t _ (beq_eq_false_iff_ne.2 h)
theorem cd_nt (a b : Int) (h : ¬ a = b) : cdC (.bool (a != b)) A B S t = A := cd_bt A B S t _ (bne_iff_ne.2 h)
theorem cd_nf (a b : Int) (h : a = b) : cdC (.bool (a != b)) A B S t = B := cd_bf A B S t _ (by rw [h]; simp)
end
theorem conv_no (w0 : World) (L : Heap) (v : Value) : convV w0 L .no v = none := (rfl)
theorem conv_sb (w0 : World) (L : Heap) (e : TypeId) (v : Value) : convV w0 L (.strBytes e) v = none := (rfl)
theorem len_no (v : Value) : lenV .no v = none := by unfold lenV; split <;> first | rfl | (rename_i h; cases h)
theorem stopS_nil (c : Code) : stopS [] c = false := (rfl)
theorem stopS_cons (k : Nat) (r : List Nat) (c : Code) : stopS (k :: r) c = ((k == 1000000 + fid c) || stopS r c) := (rfl)
theorem fid_seq (a b : Code) : fid (.seq a b) = fid a := (rfl)
theorem fid_region (i : Nat) (o : Array Oper) (d : Bool) : fid (.region i o d) = i := (rfl)
theorem fid_block (i : Nat) (c : Code) : fid (.block i c) = fid c := (rfl)
theorem fid_cond (c : Operand) (x y : Code) : fid (.cond c x y) = 500000 := (rfl)
theorem fid_loop (c : Code) : fid (.loop c) = fid c := (rfl)
theorem fid_scope (c : Code) : fid (.scope c) = fid c := (rfl)
theorem fid_label (i : Nat) : fid (.label i) = 500000 := (rfl)
theorem fid_goto (i : Nat) : fid (.goto i) = 500000 := (rfl)
theorem fid_exit (i : Nat) : fid (.exit i) = 500000 := (rfl)
theorem fid_skip : fid .skip = 500000 := (rfl)
theorem fid_ret : fid .ret = 500000 := (rfl)
theorem fid_range (x : Operand) (p : Array Tmp) (a c : Code) : fid (.rangeFunc x p a c) = 500000 := (rfl)
/-! ### What holds between two statements -/
def allF (j : Nat → Value) : Nat → Nat → Fr
  | _, 0 => []
  | k, n + 1 => j k :: allF j (k + 1) n
theorem allF_0 (j : Nat → Value) (k : Nat) : allF j k 0 = [] := (rfl)
theorem allF_s (j : Nat → Value) (k n : Nat) : allF j k (n + 1) = j k :: allF j (k + 1) n := (rfl)
def CutM {G : Type} (n : Nat) (S : G → List (Nat × Value)) (H : G → Heap) (J : G → Prop) (f' : Fr) (L' : Heap) : Prop :=
  ∃ g, J g ∧ L' = H g ∧ f' = pin (allF (getF f') 0 n) (S g)
theorem CutM.mk {G : Type} {n : Nat} {S : G → List (Nat × Value)} {H : G → Heap} {J : G → Prop} {f' : Fr} {L' : Heap} (g : G) (hJ : J g) (hL : L' = H g) (hf : f' = pin (allF (getF f') 0 n) (S g)) : CutM n S H J f' L' := ⟨g, hJ, hL, hf⟩
theorem Cw.cut {P : Program} {w0 : World} {x y : Code} {f : Fr} {L : Heap} {K : Kont} {G : Type} (n : Nat) (S : G → List (Nat × Value)) (H : G → Heap) (J : G → Prop) (h1 : Cw P w0 x f L (thenK (CutM n S H J) K))
    (h2 : ∀ (g : G) (j : Nat → Value), J g → Cw P w0 y (pin (allF j 0 n) (S g)) (H g) K) : Cw P w0 (.seq x y) f L K := by
  refine Cw.seq (h1.mono fun e f L k => ?_)
  cases e with
  | normal =>
    obtain ⟨g, hJ, rfl, hf⟩ := k
    have := h2 g (getF f) hJ
    rw [← hf] at this
    exact this
  | _ => exact k
theorem cdC.splitp {p : Prop} [Decidable p] {A B S : Prop} {t : Tag (A, B, S)} (ht : p → A) (he : ¬ p → B) : cdC (.bool (decide p)) A B S t := by
  by_cases h : p
  · rw [cd_pt A B S t p h]; exact ht h
  · rw [cd_pf A B S t p h]; exact he h
theorem cdC.split {b : Bool} {A B S : Prop} {t : Tag (A, B, S)} (ht : b = true → A) (he : b = false → B) : cdC (.bool b) A B S t := by
  cases b with
  | true => exact ht rfl
  | false => exact he rfl
end Go.Sx
section
namespace Go.Sx
open Go
set_option maxRecDepth 100000
set_option linter.defProp false
def S0 := And.intro (And.intro (And.intro (And.intro (And.intro (And.intro (@vcL_none) (And.intro (@vcL_some) (@vcL_nil))) (And.intro (@vcB_move) (And.intro (@vcB_assign) (@vcB_pick)))) (And.intro (And.intro (@vcB_binOp) (And.intro (@vcB_unOp) (@vcB_convert))) (And.intro (And.intro (@vcB_nilCheck) (@vcB_fieldAddr)) (And.intro (@vcB_field) (@vcB_indexAddr))))) (And.intro (And.intro (And.intro (@vcB_index) (And.intro (@vcB_load) (@vcB_extract))) (And.intro (And.intro (@vcB_slice) (@vcB_makeFunc)) (And.intro (@vcB_len) (@vcB_cap)))) (And.intro (And.intro (@vcB_store) (And.intro (@vcB_store_f) (@vcB_alloc))) (And.intro (And.intro (@vcB_box) (@vcB_build)) (And.intro (@vcB_buildSlice) (@vcB_makeSlice)))))) (And.intro (And.intro (And.intro (And.intro (@vcB_call) (And.intro (@vcB_append) (@vcB_copy))) (And.intro (@vcB_delete) (And.intro (@vcB_clear) (@vcB_max)))) (And.intro (And.intro (@vcB_min) (And.intro (@vcB_unsafeString) (@vcB_unsafeSliceData))) (And.intro (And.intro (@vcB_makeMap) (@vcB_lookup)) (And.intro (@vcB_mapUpdate) (@vcB_range))))) (And.intro (And.intro (And.intro (@vcB_next) (And.intro (@vcB_insert) (@vcB_makeInterface))) (And.intro (And.intro (@vcB_mapEntry) (@vcB_entryStore)) (And.intro (@vcB_entry) (@ovs_some)))) (And.intro (And.intro (@ib_true) (And.intro (@ib_false) (@ev_tmp))) (And.intro (And.intro (@ev_const) (@ev_global)) (And.intro (@ev_func) (@getF_0))))))) (And.intro (And.intro (And.intro (And.intro (And.intro (@getF_s) (And.intro (@nthO_0) (@nthO_s))) (And.intro (@rd_sof_load) (And.intro (@rd_sof_convert) (@vcC_seq0)))) (And.intro (And.intro (@vcC_seq1) (And.intro (@stopS_nil) (@stopS_cons))) (And.intro (And.intro (@fid_seq) (@fid_region)) (And.intro (@fid_block) (@fid_cond))))) (And.intro (And.intro (And.intro (@fid_loop) (And.intro (@fid_scope) (@fid_label))) (And.intro (And.intro (@fid_goto) (@fid_exit)) (And.intro (@fid_skip) (@fid_ret)))) (And.intro (And.intro (@fid_range) (And.intro (@vcC_skip) (@vcC_exit))) (And.intro (And.intro (@vcC_goto) (@vcC_ret)) (And.intro (@vcC_label) (@vcC_block)))))) (And.intro (And.intro (And.intro (And.intro (@vcC_cond) (And.intro (@vcC_region) (@vcC_drawn))) (And.intro (And.intro (@vcC_loop) (@vcC_scope)) (And.intro (@vcC_range) (@seqN_eq)))) (And.intro (And.intro (@thenK_n) (And.intro (@thenK_e) (@thenK_g))) (And.intro (And.intro (@thenK_r) (@blockK_n)) (And.intro (@blockK_g) (@blockK_r))))) (And.intro (And.intro (And.intro (@blockK_e) (And.intro (@scopeK_n) (@scopeK_e))) (And.intro (And.intro (@scopeK_g) (@scopeK_r)) (And.intro (@owk_nil) (@owk_cons)))) (And.intro (And.intro (@bsN_k) (And.intro (@bsN_cw) (@bsN_bs))) (And.intro (And.intro (@bsK_bs) (@bsK_then)) (And.intro (@bsK_block) (@bsK_scope)))))))
def S1 := And.intro (And.intro (And.intro (And.intro (And.intro (And.intro (And.intro (And.intro (@ovs_none) (@oh_some)) (And.intro (@nf_cons) (And.intro (@nf_nil) (@nh_cons)))) (And.intro (And.intro (@nh_nil) (@setF_0)) (And.intro (@setF_s) (And.intro (@putF_some) (@putF_none))))) (And.intro (And.intro (And.intro (@yieldF_lit) (@yieldL_some)) (And.intro (@boolOf_b) (And.intro (@boolOf_undef) (@some_beq)))) (And.intro (And.intro (@none_beq) (@beq_true)) (And.intro (@beq_false) (And.intro (@Bool.not_true) (@Bool.not_false)))))) (And.intro (And.intro (And.intro (And.intro (@Md.next_seq) (@Md.next_any)) (And.intro (@Md.next_qui) (And.intro (@Md.next_sof) (@rd_seq_load)))) (And.intro (And.intro (@rd_any_load) (@rd_qui_load)) (And.intro (@rd_seq_convert) (And.intro (@rd_any_convert) (@rd_qui_convert))))) (And.intro (And.intro (And.intro (@rdIn_p) (@rdIn_sl)) (And.intro (@rdIn_nsl) (And.intro (@rdIn_int) (@rdIn_str)))) (And.intro (And.intro (@lit_u8) (And.intro (@lit_u16) (@lit_u32))) (And.intro (@lit_u64) (And.intro (@lit_i64) (@lit_str))))))) (And.intro (And.intro (And.intro (And.intro (And.intro (@bin_add_u8) (@bin_sub_u8)) (And.intro (@bin_mul_u8) (And.intro (@bin_and_u8) (@bin_or_u8)))) (And.intro (And.intro (@bin_xor_u8) (@bin_quo_u8)) (And.intro (@bin_rem_u8) (And.intro (@bin_lss_u8) (@bin_leq_u8))))) (And.intro (And.intro (And.intro (@bin_gtr_u8) (@bin_geq_u8)) (And.intro (@bin_eql_u8) (And.intro (@bin_neq_u8) (@un_xor_u8)))) (And.intro (And.intro (@conv_u8_i64) (And.intro (@conv_i64_u8) (@conv_vi_u8))) (And.intro (@bin_shr_u8_vi) (And.intro (@bin_shl_u8_vi) (@bin_shr_u8_i)))))) (And.intro (And.intro (And.intro (And.intro (@bin_shl_u8_i) (@bin_shr_u8_u8)) (And.intro (@bin_shl_u8_u8) (And.intro (@conv_u8_u8) (@bin_shr_u8_u16)))) (And.intro (And.intro (@bin_shl_u8_u16) (@conv_u8_u16)) (And.intro (@bin_shr_u8_u32) (And.intro (@bin_shl_u8_u32) (@conv_u8_u32))))) (And.intro (And.intro (And.intro (@bin_shr_u8_u64) (@bin_shl_u8_u64)) (And.intro (@conv_u8_u64) (And.intro (@bin_add_u16) (@bin_sub_u16)))) (And.intro (And.intro (@bin_mul_u16) (And.intro (@bin_and_u16) (@bin_or_u16))) (And.intro (@bin_xor_u16) (And.intro (@bin_quo_u16) (@bin_rem_u16)))))))) (And.intro (And.intro (And.intro (And.intro (And.intro (And.intro (@bin_lss_u16) (@bin_leq_u16)) (And.intro (@bin_gtr_u16) (And.intro (@bin_geq_u16) (@bin_eql_u16)))) (And.intro (And.intro (@bin_neq_u16) (@un_xor_u16)) (And.intro (@conv_u16_i64) (And.intro (@conv_i64_u16) (@conv_vi_u16))))) (And.intro (And.intro (And.intro (@bin_shr_u16_vi) (@bin_shl_u16_vi)) (And.intro (@bin_shr_u16_i) (And.intro (@bin_shl_u16_i) (@bin_shr_u16_u8)))) (And.intro (And.intro (@bin_shl_u16_u8) (And.intro (@conv_u16_u8) (@bin_shr_u16_u16))) (And.intro (@bin_shl_u16_u16) (And.intro (@conv_u16_u16) (@bin_shr_u16_u32)))))) (And.intro (And.intro (And.intro (And.intro (@bin_shl_u16_u32) (@conv_u16_u32)) (And.intro (@bin_shr_u16_u64) (And.intro (@bin_shl_u16_u64) (@conv_u16_u64)))) (And.intro (And.intro (@bin_add_u32) (@bin_sub_u32)) (And.intro (@bin_mul_u32) (And.intro (@bin_and_u32) (@bin_or_u32))))) (And.intro (And.intro (And.intro (@bin_xor_u32) (@bin_quo_u32)) (And.intro (@bin_rem_u32) (And.intro (@bin_lss_u32) (@bin_leq_u32)))) (And.intro (And.intro (@bin_gtr_u32) (And.intro (@bin_geq_u32) (@bin_eql_u32))) (And.intro (@bin_neq_u32) (And.intro (@un_xor_u32) (@conv_u32_i64))))))) (And.intro (And.intro (And.intro (And.intro (And.intro (@conv_i64_u32) (@conv_vi_u32)) (And.intro (@bin_shr_u32_vi) (And.intro (@bin_shl_u32_vi) (@bin_shr_u32_i)))) (And.intro (And.intro (@bin_shl_u32_i) (@bin_shr_u32_u8)) (And.intro (@bin_shl_u32_u8) (And.intro (@conv_u32_u8) (@bin_shr_u32_u16))))) (And.intro (And.intro (And.intro (@bin_shl_u32_u16) (@conv_u32_u16)) (And.intro (@bin_shr_u32_u32) (And.intro (@bin_shl_u32_u32) (@conv_u32_u32)))) (And.intro (And.intro (@bin_shr_u32_u64) (And.intro (@bin_shl_u32_u64) (@conv_u32_u64))) (And.intro (@bin_add_u64) (And.intro (@bin_sub_u64) (@bin_mul_u64)))))) (And.intro (And.intro (And.intro (And.intro (@bin_and_u64) (@bin_or_u64)) (And.intro (@bin_xor_u64) (And.intro (@bin_quo_u64) (@bin_rem_u64)))) (And.intro (And.intro (@bin_lss_u64) (@bin_leq_u64)) (And.intro (@bin_gtr_u64) (And.intro (@bin_geq_u64) (@bin_eql_u64))))) (And.intro (And.intro (And.intro (@bin_neq_u64) (@un_xor_u64)) (And.intro (@conv_u64_i64) (And.intro (@conv_i64_u64) (@conv_vi_u64)))) (And.intro (And.intro (@bin_shr_u64_vi) (And.intro (@bin_shl_u64_vi) (@bin_shr_u64_i))) (And.intro (@bin_shl_u64_i) (And.intro (@bin_shr_u64_u8) (@bin_shl_u64_u8))))))))) (And.intro (And.intro (And.intro (And.intro (And.intro (And.intro (And.intro (@conv_u64_u8) (@bin_shr_u64_u16)) (And.intro (@bin_shl_u64_u16) (And.intro (@conv_u64_u16) (@bin_shr_u64_u32)))) (And.intro (And.intro (@bin_shl_u64_u32) (@conv_u64_u32)) (And.intro (@bin_shr_u64_u64) (And.intro (@bin_shl_u64_u64) (@conv_u64_u64))))) (And.intro (And.intro (And.intro (@bin_add_i) (@bin_sub_i)) (And.intro (@bin_mul_i) (And.intro (@bin_quo_i) (@bin_rem_i)))) (And.intro (And.intro (@bin_eql_i) (And.intro (@bin_neq_i) (@bin_lss_i))) (And.intro (@bin_leq_i) (And.intro (@bin_gtr_i) (@bin_geq_i)))))) (And.intro (And.intro (And.intro (And.intro (@un_neg_i) (@un_not)) (And.intro (@conv_i64_i64) (And.intro (@bin_add_s) (@bin_eql_s)))) (And.intro (And.intro (@bin_neq_s) (@bin_lss_s)) (And.intro (@bin_leq_s) (And.intro (@bin_gtr_s) (@bin_geq_s))))) (And.intro (And.intro (And.intro (@binX_vs) (@index_str)) (And.intro (@len_str) (And.intro (@slice_str_lo) (@slice_str_hi)))) (And.intro (And.intro (@slice_str_both) (And.intro (@ixI_v8) (@one_v8))) (And.intro (@cells_v8) (And.intro (@binX_v8_v8) (@binX_v8_v16))))))) (And.intro (And.intro (And.intro (And.intro (And.intro (@binX_v8_v32) (@binX_v8_v64)) (And.intro (@binX_v8_vi) (And.intro (@ixI_v16) (@one_v16)))) (And.intro (And.intro (@cells_v16) (@binX_v16_v8)) (And.intro (@binX_v16_v16) (And.intro (@binX_v16_v32) (@binX_v16_v64))))) (And.intro (And.intro (And.intro (@binX_v16_vi) (@ixI_v32)) (And.intro (@one_v32) (And.intro (@cells_v32) (@binX_v32_v8)))) (And.intro (And.intro (@binX_v32_v16) (And.intro (@binX_v32_v32) (@binX_v32_v64))) (And.intro (@binX_v32_vi) (And.intro (@ixI_v64) (@one_v64)))))) (And.intro (And.intro (And.intro (And.intro (@cells_v64) (@binX_v64_v8)) (And.intro (@binX_v64_v16) (And.intro (@binX_v64_v32) (@binX_v64_v64)))) (And.intro (And.intro (@binX_v64_vi) (@ixI_vi)) (And.intro (@one_vi) (And.intro (@cells_vi) (@binX_vi_v8))))) (And.intro (And.intro (And.intro (@binX_vi_v16) (@binX_vi_v32)) (And.intro (@binX_vi_v64) (And.intro (@binX_vi_vi) (@conv_int)))) (And.intro (And.intro (@conv_str) (And.intro (@conv_bytesStr) (@text_a8))) (And.intro (@fieldAddr_p) (And.intro (@indexAddr_arr) (@indexAddr_sl)))))))) (And.intro (And.intro (And.intro (And.intro (And.intro (And.intro (@nil_p) (@len_arr)) (And.intro (@len_sl) (And.intro (@cap_sl) (@slice_arr_all)))) (And.intro (And.intro (@slice_arr_both) (@look_same)) (And.intro (@look_other) (And.intro (@setB_same) (@setB_other))))) (And.intro (And.intro (And.intro (@read_same) (@read_other)) (And.intro (@read_old) (And.intro (@loadAt_p) (@load_a8)))) (And.intro (And.intro (@load_a32) (And.intro (@load_all8) (@load_all32))) (And.intro (@storeAt_p) (And.intro (@store_all8) (@store_all32)))))) (And.intro (And.intro (And.intro (And.intro (@store_a8) (@store_a32)) (And.intro (@upd_some) (And.intro (@index_a8) (@index_a32)))) (And.intro (And.intro (@extract_t) (@pick_t)) (And.intro (@pick_f) (And.intro (@Option.map_some.{0, 0}) (@Option.map_none.{0, 0}))))) (And.intro (And.intro (And.intro (@toNat_add_lit) (@toNat_lit_mul)) (And.intro (@toNat_lit_mul_add) (And.intro (@toNat_subL) (@toNat_lit_sub)))) (And.intro (And.intro (@toNat_div_lit) (And.intro (@toNat_mod_lit) (@shl_i_64))) (And.intro (@shr_i_64) (And.intro (@or_i) (@and_i))))))) (And.intro (And.intro (And.intro (And.intro (And.intro (@toNat_div_add) (@toNat_mod_add)) (And.intro (@toNat_add_cast) (And.intro (@cells_agg) (@List.cons_append.{0})))) (And.intro (And.intro (@List.nil_append.{0}) (@List.contains_cons.{0})) (And.intro (@List.contains_nil.{0}) (And.intro (@Bool.or_false) (@Bool.false_or))))) (And.intro (And.intro (And.intro (@Bool.or_true) (@Bool.true_or)) (And.intro (@Bool.false_eq_true) (And.intro (@resVs_nil) (@resVs_cons)))) (And.intro (And.intro (@cons2_some) (And.intro (@resV_tmp) (@resV_cell))) (And.intro (@Nat.add_sub_cancel_left) (And.intro (@List.set_set.{0}) (@Int.toNat_natCast)))))) (And.intro (And.intro (And.intro (And.intro (@Nat.mul_one) (@Nat.zero_add)) (And.intro (@Nat.add_zero) (And.intro (@ge_iff_le.{0}) (@gt_iff_lt.{0})))) (And.intro (And.intro (@beq_self_eq_true.{0}) (@cd_tt)) (And.intro (@cd_ff) (And.intro (@cd_bt) (@cd_bf))))) (And.intro (And.intro (And.intro (@cd_pt) (@cd_pf)) (And.intro (@cd_it) (And.intro (@cd_if) (@cd_nt)))) (And.intro (And.intro (@cd_nf) (And.intro (@conv_no) (@conv_sb))) (And.intro (@len_no) (And.intro (@bsK_out) (@bsN_out)))))))))
end Go.Sx
end
section
open Go Go.Proofs Go.Sx
namespace Go.Proofs
theorem Tryz.ix9 : ixT Tryz.prog 9 = .str := id (by kernel_rfl)
theorem Tryz.ix22 : ixT Tryz.prog 22 = .sl (true, 3) := id (by kernel_rfl)
theorem Tryz.ix30 : ixT Tryz.prog 30 = .sl (true, 32) := id (by kernel_rfl)
theorem Tryz.ix57 : ixT Tryz.prog 57 = .sl (false, 1) := id (by kernel_rfl)
theorem Tryz.ix70 : ixT Tryz.prog 70 = .sl (true, 35) := id (by kernel_rfl)
theorem Tryz.ix58 : ixT Tryz.prog 58 = .sl (true, 35) := id (by kernel_rfl)
theorem Tryz.ix81 : ixT Tryz.prog 81 = .sl (true, 34) := id (by kernel_rfl)
theorem Tryz.ix29 : ixT Tryz.prog 29 = .sl (true, 2) := id (by kernel_rfl)
theorem Tryz.ix28 : ixT Tryz.prog 28 = .sl (false, 1) := id (by kernel_rfl)
theorem Tryz.ix54 : ixT Tryz.prog 54 = .sl (true, 2) := id (by kernel_rfl)
theorem Tryz.ix155 : ixT Tryz.prog 155 = .sl (false, 1) := id (by kernel_rfl)
theorem Tryz.ix61 : ixT Tryz.prog 61 = .sl (true, 2) := id (by kernel_rfl)
theorem Tryz.ix83 : ixT Tryz.prog 83 = .sl (true, 34) := id (by kernel_rfl)
theorem Tryz.ix176 : ixT Tryz.prog 176 = .arr 16 (false, 1) := id (by kernel_rfl)
theorem Tryz.ix37 : ixT Tryz.prog 37 = .arr 32 (false, 1) := id (by kernel_rfl)
theorem Tryz.ix204 : ixT Tryz.prog 204 = .arr 4 (false, 1) := id (by kernel_rfl)
theorem Tryz.ix119 : ixT Tryz.prog 119 = .sl (false, 1) := id (by kernel_rfl)
theorem Tryz.ix223 : ixT Tryz.prog 223 = .arr 64 (false, 1) := id (by kernel_rfl)
theorem Tryz.ix244 : ixT Tryz.prog 244 = .arr 8 (false, 1) := id (by kernel_rfl)
theorem Tryz.ix237 : ixT Tryz.prog 237 = .sl (true, 34) := id (by kernel_rfl)
theorem Tryz.ix273 : ixT Tryz.prog 273 = .arr 8 (false, 1) := id (by kernel_rfl)
theorem Tryz.ix274 : ixT Tryz.prog 274 = .arr 64 (false, 1) := id (by kernel_rfl)
theorem Tryz.ix292 : ixT Tryz.prog 292 = .arr 4 (false, 1) := id (by kernel_rfl)
theorem Tryz.ix297 : ixT Tryz.prog 297 = .arr 16 (false, 1) := id (by kernel_rfl)
theorem Tryz.ix263 : ixT Tryz.prog 263 = .sl (true, 2) := id (by kernel_rfl)
theorem Tryz.ag32 : aggT Tryz.prog 32 = some (true, 4) := id (by kernel_rfl)
theorem Tryz.ag37 : aggT Tryz.prog 37 = some (true, 32) := id (by kernel_rfl)
theorem Tryz.ag43 : aggT Tryz.prog 43 = some (true, 2) := id (by kernel_rfl)
theorem Tryz.ag30 : aggT Tryz.prog 30 = some (false, 1) := id (by kernel_rfl)
theorem Tryz.ag74 : aggT Tryz.prog 74 = some (true, 35) := id (by kernel_rfl)
theorem Tryz.ag75 : aggT Tryz.prog 75 = some (true, 35) := id (by kernel_rfl)
theorem Tryz.ag3 : aggT Tryz.prog 3 = some (false, 1) := id (by kernel_rfl)
theorem Tryz.ag9 : aggT Tryz.prog 9 = some (false, 1) := id (by kernel_rfl)
theorem Tryz.ag104 : aggT Tryz.prog 104 = some (true, 34) := id (by kernel_rfl)
theorem Tryz.ag107 : aggT Tryz.prog 107 = some (true, 34) := id (by kernel_rfl)
theorem Tryz.ag114 : aggT Tryz.prog 114 = some (true, 3) := id (by kernel_rfl)
theorem Tryz.ag117 : aggT Tryz.prog 117 = some (true, 4) := id (by kernel_rfl)
theorem Tryz.ag123 : aggT Tryz.prog 123 = some (true, 2) := id (by kernel_rfl)
theorem Tryz.ag4 : aggT Tryz.prog 4 = some (false, 1) := id (by kernel_rfl)
theorem Tryz.ag29 : aggT Tryz.prog 29 = some (false, 1) := id (by kernel_rfl)
theorem Tryz.ag137 : aggT Tryz.prog 137 = some (true, 3) := id (by kernel_rfl)
theorem Tryz.ag22 : aggT Tryz.prog 22 = some (false, 1) := id (by kernel_rfl)
theorem Tryz.ag28 : aggT Tryz.prog 28 = some (false, 1) := id (by kernel_rfl)
theorem Tryz.ag134 : aggT Tryz.prog 134 = some (false, 1) := id (by kernel_rfl)
theorem Tryz.ag148 : aggT Tryz.prog 148 = some (true, 2) := id (by kernel_rfl)
theorem Tryz.ag154 : aggT Tryz.prog 154 = some (true, 3) := id (by kernel_rfl)
theorem Tryz.ag57 : aggT Tryz.prog 57 = some (false, 1) := id (by kernel_rfl)
theorem Tryz.ag70 : aggT Tryz.prog 70 = some (false, 1) := id (by kernel_rfl)
theorem Tryz.ag158 : aggT Tryz.prog 158 = some (true, 2) := id (by kernel_rfl)
theorem Tryz.ag166 : aggT Tryz.prog 166 = some (true, 3) := id (by kernel_rfl)
theorem Tryz.ag5 : aggT Tryz.prog 5 = some (false, 1) := id (by kernel_rfl)
theorem Tryz.ag81 : aggT Tryz.prog 81 = some (false, 1) := id (by kernel_rfl)
theorem Tryz.ag93 : aggT Tryz.prog 93 = some (false, 1) := id (by kernel_rfl)
theorem Tryz.ag204 : aggT Tryz.prog 204 = some (true, 4) := id (by kernel_rfl)
theorem Tryz.ag212 : aggT Tryz.prog 212 = some (true, 3) := id (by kernel_rfl)
theorem Tryz.ag25 : aggT Tryz.prog 25 = some (false, 1) := id (by kernel_rfl)
theorem Tryz.ag178 : aggT Tryz.prog 178 = some (true, 18) := id (by kernel_rfl)
theorem Tryz.ag223 : aggT Tryz.prog 223 = some (true, 64) := id (by kernel_rfl)
theorem Tryz.ag228 : aggT Tryz.prog 228 = some (false, 1) := id (by kernel_rfl)
theorem Tryz.ag119 : aggT Tryz.prog 119 = some (false, 1) := id (by kernel_rfl)
theorem Tryz.ag241 : aggT Tryz.prog 241 = some (true, 34) := id (by kernel_rfl)
theorem Tryz.ag244 : aggT Tryz.prog 244 = some (true, 8) := id (by kernel_rfl)
theorem Tryz.ag202 : aggT Tryz.prog 202 = some (false, 1) := id (by kernel_rfl)
theorem Tryz.ag260 : aggT Tryz.prog 260 = some (true, 75) := id (by kernel_rfl)
theorem Tryz.ag118 : aggT Tryz.prog 118 = some (false, 1) := id (by kernel_rfl)
theorem Tryz.ag268 : aggT Tryz.prog 268 = some (true, 34) := id (by kernel_rfl)
theorem Tryz.ag273 : aggT Tryz.prog 273 = some (true, 8) := id (by kernel_rfl)
theorem Tryz.ag274 : aggT Tryz.prog 274 = some (true, 64) := id (by kernel_rfl)
theorem Tryz.ag292 : aggT Tryz.prog 292 = some (true, 4) := id (by kernel_rfl)
theorem Tryz.ag294 : aggT Tryz.prog 294 = some (true, 36) := id (by kernel_rfl)
theorem Tryz.ag291 : aggT Tryz.prog 291 = some (false, 1) := id (by kernel_rfl)
theorem Tryz.ag258 : aggT Tryz.prog 258 = some (false, 1) := id (by kernel_rfl)
theorem Tryz.ag300 : aggT Tryz.prog 300 = some (true, 2) := id (by kernel_rfl)
theorem Tryz.ag298 : aggT Tryz.prog 298 = some (false, 1) := id (by kernel_rfl)
theorem Tryz.ag305 : aggT Tryz.prog 305 = some (false, 1) := id (by kernel_rfl)
theorem Tryz.ag237 : aggT Tryz.prog 237 = some (false, 1) := id (by kernel_rfl)
theorem Tryz.ag297 : aggT Tryz.prog 297 = some (true, 16) := id (by kernel_rfl)
theorem Tryz.zr37 : zeroV Tryz.prog 37 = some (.agg (a8 (List.replicate 32 0))) := id (by kernel_rfl)
theorem Tryz.zr123 : zeroV Tryz.prog 123 = some (.agg #[(.pointer none), (.slice none 0 0)]) := id (by kernel_rfl)
theorem Tryz.zr9 : zeroV Tryz.prog 9 = some (vs []) := id (by kernel_rfl)
theorem Tryz.zr204 : zeroV Tryz.prog 204 = some (.agg (a8 (List.replicate 4 0))) := id (by kernel_rfl)
theorem Tryz.zr5 : zeroV Tryz.prog 5 = some (v8 0) := id (by kernel_rfl)
theorem Tryz.zr244 : zeroV Tryz.prog 244 = some (.agg (a32 (List.replicate 8 0))) := id (by kernel_rfl)
theorem Tryz.zr273 : zeroV Tryz.prog 273 = some (.agg (a8 (List.replicate 8 0))) := id (by kernel_rfl)
theorem Tryz.zr274 : zeroV Tryz.prog 274 = some (.agg (a32 (List.replicate 64 0))) := id (by kernel_rfl)
theorem Tryz.fl32_3 : fldT Tryz.prog 32 3 = some (3, (false, 1)) := id (by kernel_rfl)
theorem Tryz.fl74_0 : fldT Tryz.prog 74 0 = some (0, (true, 32)) := id (by kernel_rfl)
theorem Tryz.fl74_1 : fldT Tryz.prog 74 1 = some (32, (false, 1)) := id (by kernel_rfl)
theorem Tryz.fl74_2 : fldT Tryz.prog 74 2 = some (33, (false, 1)) := id (by kernel_rfl)
theorem Tryz.fl74_3 : fldT Tryz.prog 74 3 = some (34, (false, 1)) := id (by kernel_rfl)
theorem Tryz.fl107_0 : fldT Tryz.prog 107 0 = some (0, (true, 32)) := id (by kernel_rfl)
theorem Tryz.fl107_1 : fldT Tryz.prog 107 1 = some (32, (false, 1)) := id (by kernel_rfl)
theorem Tryz.fl107_2 : fldT Tryz.prog 107 2 = some (33, (false, 1)) := id (by kernel_rfl)
theorem Tryz.fl104_0 : fldT Tryz.prog 104 0 = some (0, (true, 32)) := id (by kernel_rfl)
theorem Tryz.fl104_1 : fldT Tryz.prog 104 1 = some (32, (false, 1)) := id (by kernel_rfl)
theorem Tryz.fl104_2 : fldT Tryz.prog 104 2 = some (33, (false, 1)) := id (by kernel_rfl)
theorem Tryz.fl114_2 : fldT Tryz.prog 114 2 = some (2, (false, 1)) := id (by kernel_rfl)
theorem Tryz.fl114_0 : fldT Tryz.prog 114 0 = some (0, (false, 1)) := id (by kernel_rfl)
theorem Tryz.fl114_1 : fldT Tryz.prog 114 1 = some (1, (false, 1)) := id (by kernel_rfl)
theorem Tryz.fl32_2 : fldT Tryz.prog 32 2 = some (2, (false, 1)) := id (by kernel_rfl)
theorem Tryz.fl137_1 : fldT Tryz.prog 137 1 = some (1, (false, 1)) := id (by kernel_rfl)
theorem Tryz.fl137_2 : fldT Tryz.prog 137 2 = some (2, (false, 1)) := id (by kernel_rfl)
theorem Tryz.fl137_0 : fldT Tryz.prog 137 0 = some (0, (false, 1)) := id (by kernel_rfl)
theorem Tryz.fl32_1 : fldT Tryz.prog 32 1 = some (1, (false, 1)) := id (by kernel_rfl)
theorem Tryz.fl117_3 : fldT Tryz.prog 117 3 = some (3, (false, 1)) := id (by kernel_rfl)
theorem Tryz.fl117_0 : fldT Tryz.prog 117 0 = some (0, (false, 1)) := id (by kernel_rfl)
theorem Tryz.fl117_2 : fldT Tryz.prog 117 2 = some (2, (false, 1)) := id (by kernel_rfl)
theorem Tryz.fl117_1 : fldT Tryz.prog 117 1 = some (1, (false, 1)) := id (by kernel_rfl)
theorem Tryz.fl32_0 : fldT Tryz.prog 32 0 = some (0, (false, 1)) := id (by kernel_rfl)
theorem Tryz.fl75_2 : fldT Tryz.prog 75 2 = some (33, (false, 1)) := id (by kernel_rfl)
theorem Tryz.fl148_1 : fldT Tryz.prog 148 1 = some (1, (false, 1)) := id (by kernel_rfl)
theorem Tryz.fl148_0 : fldT Tryz.prog 148 0 = some (0, (false, 1)) := id (by kernel_rfl)
theorem Tryz.fl154_0 : fldT Tryz.prog 154 0 = some (0, (false, 1)) := id (by kernel_rfl)
theorem Tryz.fl154_1 : fldT Tryz.prog 154 1 = some (1, (false, 1)) := id (by kernel_rfl)
theorem Tryz.fl154_2 : fldT Tryz.prog 154 2 = some (2, (false, 1)) := id (by kernel_rfl)
theorem Tryz.fl158_0 : fldT Tryz.prog 158 0 = some (0, (false, 1)) := id (by kernel_rfl)
theorem Tryz.fl158_1 : fldT Tryz.prog 158 1 = some (1, (false, 1)) := id (by kernel_rfl)
theorem Tryz.fl75_1 : fldT Tryz.prog 75 1 = some (32, (false, 1)) := id (by kernel_rfl)
theorem Tryz.fl75_3 : fldT Tryz.prog 75 3 = some (34, (false, 1)) := id (by kernel_rfl)
theorem Tryz.fl178_2 : fldT Tryz.prog 178 2 = some (2, (true, 16)) := id (by kernel_rfl)
theorem Tryz.fl178_0 : fldT Tryz.prog 178 0 = some (0, (false, 1)) := id (by kernel_rfl)
theorem Tryz.fl178_1 : fldT Tryz.prog 178 1 = some (1, (false, 1)) := id (by kernel_rfl)
theorem Tryz.fl123_0 : fldT Tryz.prog 123 0 = some (0, (true, 2)) := id (by kernel_rfl)
theorem Tryz.fl43_0 : fldT Tryz.prog 43 0 = some (0, (false, 1)) := id (by kernel_rfl)
theorem Tryz.fl43_1 : fldT Tryz.prog 43 1 = some (1, (false, 1)) := id (by kernel_rfl)
theorem Tryz.fl212_1 : fldT Tryz.prog 212 1 = some (1, (false, 1)) := id (by kernel_rfl)
theorem Tryz.fl212_0 : fldT Tryz.prog 212 0 = some (0, (false, 1)) := id (by kernel_rfl)
theorem Tryz.fl166_2 : fldT Tryz.prog 166 2 = some (2, (false, 1)) := id (by kernel_rfl)
theorem Tryz.fl166_1 : fldT Tryz.prog 166 1 = some (1, (false, 1)) := id (by kernel_rfl)
theorem Tryz.fl75_0 : fldT Tryz.prog 75 0 = some (0, (true, 32)) := id (by kernel_rfl)
theorem Tryz.fl212_2 : fldT Tryz.prog 212 2 = some (2, (false, 1)) := id (by kernel_rfl)
theorem Tryz.fl166_0 : fldT Tryz.prog 166 0 = some (0, (false, 1)) := id (by kernel_rfl)
theorem Tryz.fl121_1 : fldT Tryz.prog 121 1 = some (1, (false, 1)) := id (by kernel_rfl)
theorem Tryz.fl121_0 : fldT Tryz.prog 121 0 = some (0, (false, 1)) := id (by kernel_rfl)
theorem Tryz.fl268_1 : fldT Tryz.prog 268 1 = some (1, (false, 1)) := id (by kernel_rfl)
theorem Tryz.fl268_0 : fldT Tryz.prog 268 0 = some (0, (false, 1)) := id (by kernel_rfl)
theorem Tryz.fl268_2 : fldT Tryz.prog 268 2 = some (2, (true, 32)) := id (by kernel_rfl)
theorem Tryz.fl241_0 : fldT Tryz.prog 241 0 = some (0, (true, 32)) := id (by kernel_rfl)
theorem Tryz.fl241_1 : fldT Tryz.prog 241 1 = some (32, (false, 1)) := id (by kernel_rfl)
theorem Tryz.fl241_2 : fldT Tryz.prog 241 2 = some (33, (false, 1)) := id (by kernel_rfl)
theorem Tryz.fl260_4 : fldT Tryz.prog 260 4 = some (74, (false, 1)) := id (by kernel_rfl)
theorem Tryz.fl260_3 : fldT Tryz.prog 260 3 = some (73, (false, 1)) := id (by kernel_rfl)
theorem Tryz.fl260_1 : fldT Tryz.prog 260 1 = some (1, (true, 8)) := id (by kernel_rfl)
theorem Tryz.fl300_0 : fldT Tryz.prog 300 0 = some (0, (false, 1)) := id (by kernel_rfl)
theorem Tryz.fl300_1 : fldT Tryz.prog 300 1 = some (1, (false, 1)) := id (by kernel_rfl)
theorem Tryz.fl294_0 : fldT Tryz.prog 294 0 = some (0, (false, 1)) := id (by kernel_rfl)
theorem Tryz.fl294_1 : fldT Tryz.prog 294 1 = some (1, (false, 1)) := id (by kernel_rfl)
theorem Tryz.fl294_2 : fldT Tryz.prog 294 2 = some (2, (true, 34)) := id (by kernel_rfl)
theorem Tryz.fl260_0 : fldT Tryz.prog 260 0 = some (0, (false, 1)) := id (by kernel_rfl)
theorem Tryz.fl260_2 : fldT Tryz.prog 260 2 = some (9, (true, 64)) := id (by kernel_rfl)
theorem Tryz.cv5_3 : cvT Tryz.prog 5 3 = .int .i64 := id (by kernel_rfl)
theorem Tryz.cv3_5 : cvT Tryz.prog 3 5 = .int .u8 := id (by kernel_rfl)
theorem Tryz.cv202_5 : cvT Tryz.prog 202 5 = .int .u8 := id (by kernel_rfl)
theorem Tryz.cv119_9 : cvT Tryz.prog 119 9 = .bytesStr := id (by kernel_rfl)
theorem Tryz.cv3_221 : cvT Tryz.prog 3 221 = .int .u64 := id (by kernel_rfl)
theorem Tryz.cv221_3 : cvT Tryz.prog 221 3 = .int .i64 := id (by kernel_rfl)
theorem Tryz.cv118_261 : cvT Tryz.prog 118 261 = .no := id (by kernel_rfl)
theorem Tryz.cv261_118 : cvT Tryz.prog 261 118 = .no := id (by kernel_rfl)
theorem Tryz.cv3_258 : cvT Tryz.prog 3 258 = .int .u64 := id (by kernel_rfl)
theorem Tryz.cv258_5 : cvT Tryz.prog 258 5 = .int .u8 := id (by kernel_rfl)
theorem Tryz.cv5_202 : cvT Tryz.prog 5 202 = .int .u32 := id (by kernel_rfl)
theorem Tryz.cv221_202 : cvT Tryz.prog 221 202 = .int .u32 := id (by kernel_rfl)
theorem Tryz.cv3_301 : cvT Tryz.prog 3 301 = .no := id (by kernel_rfl)
theorem Tryz.cv3_305 : cvT Tryz.prog 3 305 = .int .u64 := id (by kernel_rfl)
theorem Tryz.cv301_3 : cvT Tryz.prog 301 3 = .no := id (by kernel_rfl)
set_option linter.defProp false
def Tryz.fx := And.intro (And.intro (And.intro (And.intro (And.intro (And.intro (And.intro (@Tryz.ix9) (@Tryz.ix22)) (And.intro (@Tryz.ix30) (@Tryz.ix57))) (And.intro (And.intro (@Tryz.ix70) (@Tryz.ix58)) (And.intro (@Tryz.ix81) (And.intro (@Tryz.ix29) (@Tryz.ix28))))) (And.intro (And.intro (And.intro (@Tryz.ix54) (@Tryz.ix155)) (And.intro (@Tryz.ix61) (And.intro (@Tryz.ix83) (@Tryz.ix176)))) (And.intro (And.intro (@Tryz.ix37) (@Tryz.ix204)) (And.intro (@Tryz.ix119) (And.intro (@Tryz.ix223) (@Tryz.ix244)))))) (And.intro (And.intro (And.intro (And.intro (@Tryz.ix237) (@Tryz.ix273)) (And.intro (@Tryz.ix274) (And.intro (@Tryz.ix292) (@Tryz.ix297)))) (And.intro (And.intro (@Tryz.ix263) (@Tryz.ag32)) (And.intro (@Tryz.ag37) (And.intro (@Tryz.ag43) (@Tryz.ag30))))) (And.intro (And.intro (And.intro (@Tryz.ag74) (@Tryz.ag75)) (And.intro (@Tryz.ag3) (And.intro (@Tryz.ag9) (@Tryz.ag104)))) (And.intro (And.intro (@Tryz.ag107) (@Tryz.ag114)) (And.intro (@Tryz.ag117) (And.intro (@Tryz.ag123) (@Tryz.ag4))))))) (And.intro (And.intro (And.intro (And.intro (And.intro (@Tryz.ag29) (@Tryz.ag137)) (And.intro (@Tryz.ag22) (@Tryz.ag28))) (And.intro (And.intro (@Tryz.ag134) (@Tryz.ag148)) (And.intro (@Tryz.ag154) (And.intro (@Tryz.ag57) (@Tryz.ag70))))) (And.intro (And.intro (And.intro (@Tryz.ag158) (@Tryz.ag166)) (And.intro (@Tryz.ag5) (And.intro (@Tryz.ag81) (@Tryz.ag93)))) (And.intro (And.intro (@Tryz.ag204) (@Tryz.ag212)) (And.intro (@Tryz.ag25) (And.intro (@Tryz.ag178) (@Tryz.ag223)))))) (And.intro (And.intro (And.intro (And.intro (@Tryz.ag228) (@Tryz.ag119)) (And.intro (@Tryz.ag241) (And.intro (@Tryz.ag244) (@Tryz.ag202)))) (And.intro (And.intro (@Tryz.ag260) (@Tryz.ag118)) (And.intro (@Tryz.ag268) (And.intro (@Tryz.ag273) (@Tryz.ag274))))) (And.intro (And.intro (And.intro (@Tryz.ag292) (@Tryz.ag294)) (And.intro (@Tryz.ag291) (And.intro (@Tryz.ag258) (@Tryz.ag300)))) (And.intro (And.intro (@Tryz.ag298) (@Tryz.ag305)) (And.intro (@Tryz.ag237) (And.intro (@Tryz.ag297) (@Tryz.fl32_3)))))))) (And.intro (And.intro (And.intro (And.intro (And.intro (And.intro (@Tryz.fl74_0) (@Tryz.fl74_1)) (And.intro (@Tryz.fl74_2) (@Tryz.fl74_3))) (And.intro (And.intro (@Tryz.fl107_0) (@Tryz.fl107_1)) (And.intro (@Tryz.fl107_2) (And.intro (@Tryz.fl104_0) (@Tryz.fl104_1))))) (And.intro (And.intro (And.intro (@Tryz.fl104_2) (@Tryz.fl114_2)) (And.intro (@Tryz.fl114_0) (And.intro (@Tryz.fl114_1) (@Tryz.fl32_2)))) (And.intro (And.intro (@Tryz.fl137_1) (@Tryz.fl137_2)) (And.intro (@Tryz.fl137_0) (And.intro (@Tryz.fl32_1) (@Tryz.fl117_3)))))) (And.intro (And.intro (And.intro (And.intro (@Tryz.fl117_0) (@Tryz.fl117_2)) (And.intro (@Tryz.fl117_1) (And.intro (@Tryz.fl32_0) (@Tryz.fl75_2)))) (And.intro (And.intro (@Tryz.fl148_1) (@Tryz.fl148_0)) (And.intro (@Tryz.fl154_0) (And.intro (@Tryz.fl154_1) (@Tryz.fl154_2))))) (And.intro (And.intro (And.intro (@Tryz.fl158_0) (@Tryz.fl158_1)) (And.intro (@Tryz.fl75_1) (And.intro (@Tryz.fl75_3) (@Tryz.fl178_2)))) (And.intro (And.intro (@Tryz.fl178_0) (@Tryz.fl178_1)) (And.intro (@Tryz.fl123_0) (And.intro (@Tryz.fl43_0) (@Tryz.fl43_1))))))) (And.intro (And.intro (And.intro (And.intro (And.intro (@Tryz.fl212_1) (@Tryz.fl212_0)) (And.intro (@Tryz.fl166_2) (And.intro (@Tryz.fl166_1) (@Tryz.fl75_0)))) (And.intro (And.intro (@Tryz.fl212_2) (@Tryz.fl166_0)) (And.intro (@Tryz.fl121_1) (And.intro (@Tryz.fl121_0) (@Tryz.fl268_1))))) (And.intro (And.intro (And.intro (@Tryz.fl268_0) (@Tryz.fl268_2)) (And.intro (@Tryz.fl241_0) (And.intro (@Tryz.fl241_1) (@Tryz.fl241_2)))) (And.intro (And.intro (@Tryz.fl260_4) (@Tryz.fl260_3)) (And.intro (@Tryz.fl260_1) (And.intro (@Tryz.fl300_0) (@Tryz.fl300_1)))))) (And.intro (And.intro (And.intro (And.intro (@Tryz.fl294_0) (@Tryz.fl294_1)) (And.intro (@Tryz.fl294_2) (And.intro (@Tryz.fl260_0) (@Tryz.fl260_2)))) (And.intro (And.intro (@Tryz.cv5_3) (@Tryz.cv3_5)) (And.intro (@Tryz.cv202_5) (And.intro (@Tryz.cv119_9) (@Tryz.cv3_221))))) (And.intro (And.intro (And.intro (@Tryz.cv221_3) (@Tryz.cv118_261)) (And.intro (@Tryz.cv261_118) (And.intro (@Tryz.cv3_258) (@Tryz.cv258_5)))) (And.intro (And.intro (@Tryz.cv5_202) (@Tryz.cv221_202)) (And.intro (@Tryz.cv3_301) (And.intro (@Tryz.cv3_305) (@Tryz.cv301_3))))))))
/-- One step by the rules. -/
theorem kp {X A G : Prop} (x : X) (h : G) (e : X → A = G := by intro x; (try simp (disch := (first | assumption | omega | (simp only [lenS, lenT, UInt64.reduceToNat]; try omega))) only [↓Sx.S0, Sx.S1, Tryz.fx, Nat.reduceAdd, Nat.reducePow, Int.reducePow, Nat.reduceBEq, ↓reduceIte, UInt8.reduceToNat, UInt16.reduceToNat, UInt32.reduceToNat, UInt64.reduceToNat, Int.reduceToNat, x]); exact rfl) : A := (e x).mpr h
section
variable {P : Program} {w0 : World} {f : Fr} {L : Heap} {K : Kont} {N : Fr → Heap → Prop} {ops : Array Oper} {md : Md} {l : List Oper} {X G : Prop}
theorem ks {c : Code} (z : List Nat) [Sx.Steps c] (x : X) (h : G) (e : X → vcC P w0 z c f L (bsK K) = G := by intro x; (try simp (disch := (first | assumption | omega | (simp only [lenS, lenT, UInt64.reduceToNat]; try omega))) only [↓Sx.S0, Sx.S1, Tryz.fx, Nat.reduceAdd, Nat.reducePow, Int.reducePow, Nat.reduceBEq, ↓reduceIte, UInt8.reduceToNat, UInt16.reduceToNat, UInt32.reduceToNat, UInt64.reduceToNat, Int.reduceToNat, x]); exact rfl) : Cw P w0 c f L K := Cw.go z ((e x).mpr h)
theorem ko (x : X) (h : G) (e : X → vcL P w0 ops true md l f L (owk P w0 ops (bsN N)) = G := by intro x; (try simp (disch := (first | assumption | omega | (simp only [lenS, lenT, UInt64.reduceToNat]; try omega))) only [↓Sx.S0, Sx.S1, Tryz.fx, Nat.reduceAdd, Nat.reducePow, Int.reducePow, Nat.reduceBEq, ↓reduceIte, UInt8.reduceToNat, UInt16.reduceToNat, UInt32.reduceToNat, UInt64.reduceToNat, Int.reduceToNat, x]); exact rfl) (he : md.eff = true := by rfl) : Ow P w0 ops md l f L N := Ow.go he ((e x).mpr h)
theorem kq (x : X) (h : G) (e : X → vcL P w0 ops false md l f L (owk P w0 ops (bsN N)) = G := by intro x; (try simp (disch := (first | assumption | omega | (simp only [lenS, lenT, UInt64.reduceToNat]; try omega))) only [↓Sx.S0, Sx.S1, Tryz.fx, Nat.reduceAdd, Nat.reducePow, Int.reducePow, Nat.reduceBEq, ↓reduceIte, UInt8.reduceToNat, UInt16.reduceToNat, UInt32.reduceToNat, UInt64.reduceToNat, Int.reduceToNat, x]); exact rfl) : Ow P w0 ops md l f L N := Ow.goQ ((e x).mpr h)
end
theorem ke {α : Type} {X : Prop} {a b : α} (x : X) (e : X → a = b := by intro x; (try simp (disch := (first | assumption | omega | (simp only [lenS, lenT, UInt64.reduceToNat]; try omega))) only [↓Sx.S0, Sx.S1, Tryz.fx, Nat.reduceAdd, Nat.reducePow, Int.reducePow, Nat.reduceBEq, ↓reduceIte, UInt8.reduceToNat, UInt16.reduceToNat, UInt32.reduceToNat, UInt64.reduceToNat, Int.reduceToNat, x]); exact rfl) : a = b := e x
theorem kn {A G : Prop} (h : G) (e : A = G := by (try simp (disch := (first | assumption | omega | (simp only [lenS, lenT, UInt64.reduceToNat]; try omega))) only [setB_same, setB_other, List.cons_append, List.nil_append]); exact rfl) : A := e.mpr h
theorem kf {A G : Prop} (h : G) (e : A = G := by simp only [List.size_toArray, List.length_cons, List.length_nil, Nat.reduceAdd, Nat.reduceSub, List.replicate_succ, List.replicate_zero, List.cons_append, List.nil_append]; exact rfl) : A := e.mpr h
theorem kv {A G : Prop} (h : G) (e : A = G := by simp only [overFrom, pin, setF_0, setF_s, List.contains_cons, List.contains_nil, Nat.reduceBEq, Bool.or_false, Bool.false_or, Bool.or_true, Bool.true_or, Nat.reduceAdd, ↓reduceIte, Bool.false_eq_true]; exact rfl) : A := e.mpr h
set_option maxRecDepth 10000
set_option maxHeartbeats 1000000
set_option linter.unusedSimpArgs false
/-! ### strings.Builder, as the first and only part of a writer -/
theorem load_b0 (p v : Value) (E : TypeId) (n : Nat) : loadV (some (false, n)) (some (.cells #[p, v] E (0, 0))) 0 = some p := (rfl)
theorem load_b1 (p v : Value) (E : TypeId) (n : Nat) : loadV (some (false, n)) (some (.cells #[p, v] E (0, 0))) 1 = some v := (rfl)
theorem store_b0 (p v x : Value) (E : TypeId) (hx : Value.oneCell' x = true ∧ x.cells = #[x]) : storeV (some (false, 1)) (some (.cells #[p, v] E (0, 0))) 0 x = some (.cells #[x, v] E (0, 0)) := by
  simp [storeV, hx, putC]
theorem store_b1 (p v x : Value) (E : TypeId) (hx : Value.oneCell' x = true ∧ x.cells = #[x]) : storeV (some (false, 1)) (some (.cells #[p, v] E (0, 0))) 1 x = some (.cells #[p, x] E (0, 0)) := by
  simp [storeV, hx, putC]
theorem store_bp0 (p v : Value) (b o : Nat) (E : TypeId) : storeV (some (false, 1)) (some (.cells #[p, v] E (0, 0))) 0 (vp b o) = some (.cells #[vp b o, v] E (0, 0)) := store_b0 _ _ _ _ ⟨rfl, rfl⟩
theorem nilB (b o : Nat) : binX Tryz.prog .eql 118 (vp b o) (.pointer none) = some (.bool false) := by
  simp [binX, eqX, plainV, eqNilV, Tryz.underlying118, vp]
theorem nilB' : binX Tryz.prog .eql 118 (.pointer none) (.pointer none) = some (.bool true) := by
  simp [binX, eqX, plainV, eqNilV, Tryz.underlying118]
set_option linter.defProp false
def uW1_1 := And.intro (And.intro (@load_b0) (@load_b1)) (And.intro (@store_bp0) (And.intro (@nilB) (@nilB')))
theorem liesB : liesAt Tryz.prog Tryz.prog.depth 123 ((#[Value.pointer none, Value.pointer none] : Array Value).size / Tryz.prog.cellsOf 123) 0 121 1 = true := id (by kernel_rfl)
theorem aggB : aggT Tryz.prog 121 = some (true, 2) := id (by kernel_rfl)
theorem noEscape (x : Value) (w : World) : (callFunc 182 #[x]).run Tryz.prog w = .ok (.value x) w := by kernel_rfl
theorem copyCheck_spec (b : Nat) (p v : Value) (w : World) (hp : p = .pointer none ∨ p = vp b 0) (ho : w.heap[b]? = some (.cells #[p, v] 123 (0, 0))) :
    Rets Tryz.prog 161 #[vp b 0] w (fun v' D => ∃ o, D = [(b, o)] ∧ v' = .tuple #[] ∧ o = .cells #[vp b 0, v] 123 (0, 0)) := by
  refine Rets.enterM Tryz.func161 rfl (rs := []) Tryz.results161 Tryz.ntmps161 ho ?_
  refine kf ?_
  rcases hp with rfl | rfl
  · first | with_reducible refine ks [] uW1_1 ?_ | refine kp uW1_1 ?_
    refine Ow.toUnsafe rfl rfl (by kernel_rfl) rfl (read_look (look_same _ _ _)) (by simp) aggB (by decide) Tryz.underlying118 Tryz.underlying261 ?_
    refine Ow.callExt (v := vp b 0) rfl rfl (fun w => noEscape _ w) ?_
    refine Ow.ofUnsafe rfl rfl (by kernel_rfl) rfl (read_look (look_same _ _ _)) aggB liesB Tryz.underlying261 Tryz.underlying118 ?_
    refine ko uW1_1 ?_
    first | with_reducible refine ks [] uW1_1 ?_ | refine kp uW1_1 ?_
    refine ⟨_, _, _, (ke uW1_1), rfl, trivial, ?_⟩
    exact ⟨rfl, rfl⟩
  · first | with_reducible refine ks [2] uW1_1 ?_ | refine kp uW1_1 ?_
    refine Cw.region ?_
    refine Ow.value rfl rfl rfl ?_
    refine Ow.value (v := vp b 0) rfl rfl (by simp (disch := (first | assumption | omega | (simp only [lenS, lenT, UInt64.reduceToNat]; try omega))) only [↓Sx.S0, Sx.S1, Tryz.fx, uW1_1, Nat.reduceAdd, Nat.reducePow, Int.reducePow, Nat.reduceBEq, ↓reduceIte, UInt8.reduceToNat, UInt16.reduceToNat, UInt32.reduceToNat, UInt64.reduceToNat, Int.reduceToNat, evalV]) ?_
    refine Ow.value (v := vp b 0) rfl rfl (by simp (disch := (first | assumption | omega | (simp only [lenS, lenT, UInt64.reduceToNat]; try omega))) only [↓Sx.S0, Sx.S1, Tryz.fx, uW1_1, Nat.reduceAdd, Nat.reducePow, Int.reducePow, Nat.reduceBEq, ↓reduceIte, UInt8.reduceToNat, UInt16.reduceToNat, UInt32.reduceToNat, UInt64.reduceToNat, Int.reduceToNat, evalV]) ?_
    refine Ow.value (v := vp b 0) rfl rfl (by simp (disch := (first | assumption | omega | (simp only [lenS, lenT, UInt64.reduceToNat]; try omega))) only [↓Sx.S0, Sx.S1, Tryz.fx, uW1_1, Nat.reduceAdd, Nat.reducePow, Int.reducePow, Nat.reduceBEq, ↓reduceIte, UInt8.reduceToNat, UInt16.reduceToNat, UInt32.reduceToNat, UInt64.reduceToNat, Int.reduceToNat, evalV]) ?_
    refine Ow.value rfl rfl rfl ?_
    refine Ow.neqSame rfl Tryz.underlying118 aggB rfl rfl ?_
    refine ko uW1_1 ?_
    first | with_reducible refine ks [] uW1_1 ?_ | refine kp uW1_1 ?_
    refine ⟨_, _, _, (ke uW1_1), rfl, trivial, ?_⟩
    exact ⟨rfl, rfl⟩
end Go.Proofs
end
section
open Go Go.Proofs Go.Sx
namespace Go.Proofs
set_option maxRecDepth 10000
set_option maxHeartbeats 1000000
set_option linter.unusedSimpArgs false
set_option linter.defProp false
def uW2_1 := And.intro (And.intro (@load_b0) (@load_b1)) (And.intro (@store_bp0) (And.intro (@nilB) (@nilB')))
/-- A writer at a block, and what was written. -/
def BldAt (b : Nat) (l : List UInt8) (X : Heap) : Prop :=
  ∃ p v, Sx.look X b = some (.cells #[p, v] 123 (0, 0)) ∧ (p = .pointer none ∨ p = vp b 0) ∧ Buf X 5 1 v l.length (l.map v8) ∧ slB v ≠ some b
theorem WriteByte_spec (b : Nat) (X : Heap) (l : List UInt8) (c : UInt8) (w : World) (hB : BldAt b l X) (hX : ∀ p, p ∈ X → w.heap[p.1]? = some p.2) (hn : (keys X).Nodup) (hl : l.length < 34359738368) :
    Rets Tryz.prog 129 #[vp b 0, v8 c] w (XS w X (fun v D => v = .nilIface ∧ BldAt b (l ++ [c]) D)) := by
  obtain ⟨p, v, hlk, hp, hb, hsl⟩ := hB
  refine Rets.enterX Tryz.func129 rfl (rs := [.tmp 4]) Tryz.results129 Tryz.ntmps129 hX hn ?_
  refine kf ?_
  first | with_reducible refine ks [] uW2_1 ?_ | refine kp uW2_1 ?_
  refine Ow.callM rfl rfl Tryz.call161 (key_of_look hlk) (fun w' hw' => copyCheck_spec b p v w' hp (hw'.has _ _ (look_mem hlk))) ?_
  have lk1 := look_setB (x := .cells #[vp b 0, v] 123 (0, 0)) hlk
  have rd1 := read_look (w0 := w) lk1
  have hb1 : Buf (setB X b (.cells #[vp b 0, v] 123 (0, 0))) 5 1 v l.length (l.map v8) := hb.setO hsl
  have kx : Ext w X (setB X b (.cells #[vp b 0, v] 123 (0, 0))) := (Ext.refl w X).setB
  generalize setB X b (.cells #[vp b 0, v] 123 (0, 0)) = X1 at *
  refine ko uW2_1 ?_
  first | with_reducible refine ks [] (And.intro uW2_1 @rd1) ?_ | refine kp (And.intro uW2_1 @rd1) ?_
  refine Ow.buildSlice (e := 5) #[v8 c] rfl rfl (by kernel_rfl) fun b3 hb3 hw3 => ?_
  have lk3 : Sx.look (X1 ++ [(b3, .cells #[v8 c] 5 (0, 0))]) b3 = some (.cells #[v8 c] 5 (0, 0)) := look_new hb3
  have hb2 : Buf (X1 ++ [(b3, .cells #[v8 c] 5 (0, 0))]) 5 1 v l.length (l.map v8) := hb1.app
  refine ko uW2_1 ?_
  refine Ow.append (e := 5) _ rfl rfl rfl Tryz.underlying119 Tryz.ag5 (by kernel_rfl) Tryz.zr5 (by kernel_rfl) Tryz.underlying119 (by intro k h; cases h) hb2 (fun w' hw' => AppX.block (k := 1) (new := [v8 c]) (read_look lk3) (by simp) (by simp) rfl hw') (by omega) (fun v2 L2 hB2 hG2 hS2 => ?_)
  have lk2 : Sx.look L2 b = some (.cells #[vp b 0, v] 123 (0, 0)) := hG2.look b _ hsl (look_app lk1)
  have st2 : storeV (some (false, 1)) (some (.cells #[vp b 0, v] 123 (0, 0))) 1 v2 = some (.cells #[vp b 0, v2] 123 (0, 0)) := store_b1 _ _ _ _ hB2.cell
  refine ko (And.intro uW2_1 ( And.intro @lk2 ( And.intro @st2 (@nh_any)))) ?_
  first | with_reducible refine ks [] uW2_1 ?_ | refine kp uW2_1 ?_
  refine ⟨_, (ke uW2_1), ?_⟩
  have ex := (kx.app (o := .cells #[v8 c] 5 (0, 0)) hw3).grew hG2
  have hs2 : slB v2 ≠ some b := by
    rcases hS2 with h | ⟨c', h, ha⟩
    · rw [h]; exact hsl
    · rw [h]
      intro e
      cases e
      exact Nat.lt_irrefl _ (above_to ha (key_of_look (look_app lk1)))
  refine ⟨ex.setB, rfl, vp b 0, v2, look_setB lk2, .inr rfl, ?_, hs2⟩
  rw [List.length_append, List.map_append]
  exact hB2.setO hs2
end Go.Proofs
end
section
open Go Go.Proofs Go.Sx
namespace Go.Proofs
set_option maxRecDepth 10000
set_option maxHeartbeats 1000000
set_option linter.unusedSimpArgs false
set_option linter.defProp false
def uW3_1 := And.intro (And.intro (@load_b0) (@load_b1)) (And.intro (@store_bp0) (And.intro (@nilB) (@nilB')))
theorem WriteString_spec (b : Nat) (X : Heap) (l s : List UInt8) (w : World) (hB : BldAt b l X) (hX : ∀ p, p ∈ X → w.heap[p.1]? = some p.2) (hn : (keys X).Nodup) (hl : l.length + s.length < 34359738368) :
    Rets Tryz.prog 128 #[vp b 0, vs s] w (XS w X (fun v D => v = .tuple #[vi s.length, .nilIface] ∧ BldAt b (l ++ s) D)) := by
  obtain ⟨p, v, hlk, hp, hb, hsl⟩ := hB
  refine Rets.enterX Tryz.func128 rfl (rs := [.tmp 4, .tmp 5]) Tryz.results128 Tryz.ntmps128 hX hn ?_
  refine kf ?_
  first | with_reducible refine ks [] uW3_1 ?_ | refine kp uW3_1 ?_
  refine Ow.callM rfl rfl Tryz.call161 (key_of_look hlk) (fun w' hw' => copyCheck_spec b p v w' hp (hw'.has _ _ (look_mem hlk))) ?_
  have lk1 := look_setB (x := .cells #[vp b 0, v] 123 (0, 0)) hlk
  have rd1 := read_look (w0 := w) lk1
  have hb1 : Buf (setB X b (.cells #[vp b 0, v] 123 (0, 0))) 5 1 v l.length (l.map v8) := hb.setO hsl
  have kx : Ext w X (setB X b (.cells #[vp b 0, v] 123 (0, 0))) := (Ext.refl w X).setB
  generalize setB X b (.cells #[vp b 0, v] 123 (0, 0)) = X1 at *
  refine ko uW3_1 ?_
  first | with_reducible refine ks [] (And.intro uW3_1 @rd1) ?_ | refine kp (And.intro uW3_1 @rd1) ?_
  refine Ow.append (e := 5) _ rfl rfl rfl Tryz.underlying119 Tryz.ag5 (by kernel_rfl) Tryz.zr5 (by kernel_rfl) Tryz.underlying9 (by intro k h; cases h) hb1 (fun w' hw' => AppX.text _ w' s) (by omega) (fun v2 L2 hB2 hG2 hS2 => ?_)
  have lk2 : Sx.look L2 b = some (.cells #[vp b 0, v] 123 (0, 0)) := hG2.look b _ hsl lk1
  have st2 : storeV (some (false, 1)) (some (.cells #[vp b 0, v] 123 (0, 0))) 1 v2 = some (.cells #[vp b 0, v2] 123 (0, 0)) := store_b1 _ _ _ _ hB2.cell
  refine ko (And.intro uW3_1 ( And.intro @lk2 ( And.intro @st2 (@nh_any)))) ?_
  first | with_reducible refine ks [] uW3_1 ?_ | refine kp uW3_1 ?_
  refine ⟨_, (ke uW3_1), ?_⟩
  have ex := kx.grew hG2
  have hs2 : slB v2 ≠ some b := by
    rcases hS2 with h | ⟨c', h, ha⟩
    · rw [h]; exact hsl
    · rw [h]
      intro e
      cases e
      exact Nat.lt_irrefl _ (above_to ha (key_of_look lk1))
  refine ⟨ex.setB, rfl, vp b 0, v2, look_setB lk2, .inr rfl, ?_, hs2⟩
  rw [List.length_append, List.map_append]
  exact hB2.setO hs2
theorem BString_spec (b : Nat) (X : Heap) (l : List UInt8) (w : World) (hB : BldAt b l X) (hX : ∀ p, p ∈ X → w.heap[p.1]? = some p.2) (hn : (keys X).Nodup) (hl : l.length < 34359738368) :
    Rets Tryz.prog 131 #[vp b 0] w (XS w X (fun v _D => v = vs l)) := by
  obtain ⟨p, v, hlk, hp, hb, hsl⟩ := hB
  have rd1 := read_look (w0 := w) hlk
  refine Rets.enterX Tryz.func131 rfl (rs := [.tmp 2]) Tryz.results131 Tryz.ntmps131 hX hn ?_
  refine kf ?_
  first | with_reducible refine ks [] uW3_1 ?_ | refine kp uW3_1 ?_
  refine Cw.regionS [b] [0, 1, 2, 5, 6, 7, 3, 8, 9, 4, 10, 11] [] (by kernel_rfl) (by kernel_rfl) (by kernel_rfl) ?_
  simp only [nl_cons, ↓pickL_nil, ↓pickL_cons, ↓nthO_0, ↓nthO_s, consO_some]
  refine Ow.goQ ?_
  simp (disch := (first | assumption | omega | (simp only [lenS, lenT, UInt64.reduceToNat]; try omega))) only [↓Sx.S0, Sx.S1, Tryz.fx, uW3_1, Nat.reduceAdd, Nat.reducePow, Int.reducePow, Nat.reduceBEq, ↓reduceIte, UInt8.reduceToNat, UInt16.reduceToNat, UInt32.reduceToNat, UInt64.reduceToNat, Int.reduceToNat, rd1, hb.len]
  refine Ow.soft rfl rfl rfl ?_
  rcases hb.inv with ⟨rfl, h0, -⟩ | ⟨b2, c, rest, rfl, hl2, h1, h3, h4, -⟩
  · obtain rfl : l = [] := List.eq_nil_of_length_eq_zero h0
    refine Ow.sliceData (v := .pointer none) rfl rfl (.inl ⟨0, 0, rfl, rfl⟩) ?_
    with_reducible refine Ow.nil ?_
    refine ⟨by intro b hb; simp only [List.mem_cons, List.not_mem_nil, or_false] at hb; (try subst hb); rfl, ?_⟩
    refine Ow.soft rfl rfl rfl ?_
    refine Ow.unsafeStringNil rfl rfl rfl rfl ?_
    with_reducible refine Ow.nil ?_
    refine ⟨by intro b hb; simp only [List.mem_cons, List.not_mem_nil, or_false] at hb; (try subst hb); rfl, ?_⟩
    refine kq uW3_1 ?_
    try with_reducible refine Ow.nil ?_
    first | with_reducible refine ks [] uW3_1 ?_ | refine kp uW3_1 ?_
    refine ⟨_, (ke uW3_1), ?_⟩
    exact ⟨Ext.refl _ _, rfl⟩
  · refine Ow.sliceData (v := vp b2 0) rfl rfl (.inr ⟨b2, _, c, rfl, by omega, rfl⟩) ?_
    with_reducible refine Ow.nil ?_
    refine ⟨by intro b hb; simp only [List.mem_cons, List.not_mem_nil, or_false] at hb; (try subst hb); rfl, ?_⟩
    by_cases h0 : l.length = 0
    · obtain rfl : l = [] := List.eq_nil_of_length_eq_zero h0
      refine Ow.soft rfl rfl rfl ?_
      refine Ow.unsafeStringNil rfl rfl rfl rfl ?_
      with_reducible refine Ow.nil ?_
      refine ⟨by intro b hb; simp only [List.mem_cons, List.not_mem_nil, or_false] at hb; (try subst hb); rfl, ?_⟩
      refine kq uW3_1 ?_
      try with_reducible refine Ow.nil ?_
      first | with_reducible refine ks [] uW3_1 ?_ | refine kp uW3_1 ?_
      refine ⟨_, (ke uW3_1), ?_⟩
      exact ⟨Ext.refl _ _, rfl⟩
    · refine Ow.soft rfl rfl rfl ?_
      refine Ow.unsafeString rfl rfl rfl rfl hl2 (by omega) (by omega) Tryz.underlying233 (by kernel_rfl) (of_decide_eq_true (by kernel_rfl)) ?_
      with_reducible refine Ow.nil ?_
      refine ⟨by intro b hb; simp only [List.mem_cons, List.not_mem_nil, or_false] at hb; (try subst hb); exact read_setB_ne (fun e => hsl (by rw [← e]; rfl)), ?_⟩
      refine kq uW3_1 ?_
      try with_reducible refine Ow.nil ?_
      first | with_reducible refine ks [] uW3_1 ?_ | refine kp uW3_1 ?_
      refine ⟨_, (ke uW3_1), ?_⟩
      exact ⟨(Ext.refl _ _).setB, rfl⟩
end Go.Proofs
end
section
open Go Go.Proofs Go.Sx
namespace Go.Proofs
set_option maxRecDepth 10000
set_option maxHeartbeats 1000000
set_option linter.unusedSimpArgs false
theorem nilW (b o : Nat) : binX Tryz.prog .eql 196 (vp b o) (.pointer none) = some (.bool false) := by
  simp [binX, eqX, plainV, eqNilV, Tryz.underlying196, vp]
set_option linter.defProp false
def uW4_1 := And.intro (@load_b0) (And.intro (@load_b1) (@nilW))
structure WG where
  g : Nat
  D : Heap
theorem flat_take_succ (l : List (List UInt8)) (g : Nat) (h : g < l.length) : (l.take (g + 1)).flatten = (l.take g).flatten ++ l.getD g [] := by
  rw [List.take_add_one, List.getElem?_eq_getElem h, List.flatten_append, List.getD_eq_getElem?_getD, List.getElem?_eq_getElem h]
  simp
theorem flat_take_le (l : List (List UInt8)) (g : Nat) : (l.take g).flatten.length ≤ l.flatten.length := by
  conv => rhs; rw [← List.take_append_drop g l, List.flatten_append, List.length_append]
  omega
theorem WRaw_spec (b : Nat) (X : Heap) (l : List UInt8) (x : Value) (b2 off : Nat) (ls : List (List UInt8)) (arr : Array Value) (E : TypeId) (fz : Nat × Nat) (w : World) (hB : BldAt b l X) (hX : ∀ p, p ∈ X → w.heap[p.1]? = some p.2) (hn : (keys X).Nodup)
    (hS : StrS w x ls b2 off arr E fz) (hne : 0 < ls.length → b2 ∉ keys X) (hl : l.length + ls.flatten.length < 34359738368) (hls : ls.length < 34359738368) :
    Rets Tryz.prog 60 #[vp b 0, x] w (XS w X (fun v D => v = .tuple #[] ∧ BldAt b (l ++ ls.flatten) D)) := by
  refine Rets.enterX Tryz.func60 rfl (rs := []) Tryz.results60 Tryz.ntmps60 hX hn ?_
  refine kf ?_
  ((try with_reducible refine Cw.go [] ?_); (try simp (disch := (first | assumption | omega | (simp only [lenS, lenT, UInt64.reduceToNat]; try omega))) only [↓Sx.S0, Sx.S1, Tryz.fx, uW4_1, Nat.reduceAdd, Nat.reducePow, Int.reducePow, Nat.reduceBEq, ↓reduceIte, UInt8.reduceToNat, UInt16.reduceToNat, UInt32.reduceToNat, UInt64.reduceToNat, Int.reduceToNat, hS.len]))
  refine Cw.loopG (G := WG) [11, 12, 13, 5, 14, 15, 16, 17, 18, 19, 10] (fun g => [(10, vi g.g)]) (fun g => g.D) (fun g => g.g ≤ ls.length ∧ Ext w X g.D ∧ BldAt b (l ++ (ls.take g.g).flatten) g.D) (fun g => ls.length - g.g) ⟨0, X⟩ rfl rfl ?_ ?_
  · exact ⟨by simp, Ext.refl _ _, by simpa using hB⟩
  intro g j hg
  refine kv ?_
  obtain ⟨g, D⟩ := g
  simp only at hg ⊢
  obtain ⟨hgL, hE, hBD⟩ := hg
  by_cases hlt : g < ls.length
  · have hlg := hS.get g hlt
    have hrd := hE.old (hS.has (by omega)) (hne (by omega))
    ((try with_reducible refine Cw.go [] ?_); (try simp (disch := (first | assumption | omega | (simp only [lenS, lenT, UInt64.reduceToNat]; try omega))) only [↓Sx.S0, Sx.S1, Tryz.fx, uW4_1, Nat.reduceAdd, Nat.reducePow, Int.reducePow, Nat.reduceBEq, ↓reduceIte, UInt8.reduceToNat, UInt16.reduceToNat, UInt32.reduceToNat, UInt64.reduceToNat, Int.reduceToNat, Sx.loadV_one, hrd, hlg, hS.idx]))
    have hfl := flat_take_succ ls g hlt
    have hfle := flat_take_le ls (g + 1)
    have hfl2 := congrArg List.length hfl
    rw [List.length_append] at hfl2
    refine Ow.callX (Y := []) (by simp) rfl rfl Tryz.call128 (fun w' hw' hX hn => WriteString_spec b D _ (ls.getD g []) w' hBD hX hn (by rw [List.length_append]; omega)) (fun v2 D2 hC hS2 => ?_)
    rw [List.append_nil]
    obtain ⟨rfl, hB2⟩ := hS2
    refine ko uW4_1 ?_
    first | with_reducible refine ks [] uW4_1 ?_ | refine kp uW4_1 ?_
    refine Again.mk (WG.mk (g + 1) D2) (by show ls.length - (g + 1) < ls.length - g; omega) ⟨by show g + 1 ≤ ls.length; omega, hE.came0 hC, ?_⟩ rfl rfl
    show BldAt b (l ++ (ls.take (g + 1)).flatten) D2
    rw [hfl, ← List.append_assoc]
    exact hB2
  · obtain rfl : g = ls.length := by omega
    first | with_reducible refine ks [] uW4_1 ?_ | refine kp uW4_1 ?_
    refine ⟨_, (ke uW4_1), ?_⟩
    rw [List.take_length] at hBD
    exact ⟨hE, rfl, hBD⟩
def maxN : Int := 1099511627775
/-- A number as bytes. -/
def numL (n : Nat) : List UInt8 := if h : n < 128 then [UInt8.ofNat n] else UInt8.ofNat (n % 128 + 128) :: numL (n / 128)
termination_by n
decreasing_by omega
def clampN (n : Int) : Nat := (if (if maxN < n then maxN else n) > 0 then (if maxN < n then maxN else n) else 0).toNat
def numsL (l : List Int) : List UInt8 := (l.map fun n => numL (clampN n)).flatten
theorem numL_small {n : Nat} (h : n < 128) : numL n = [UInt8.ofNat n] := by rw [numL]; simp [h]
theorem numL_big {n : Nat} (h : ¬ n < 128) : numL n = UInt8.ofNat (n % 128 + 128) :: numL (n / 128) := by rw [numL]; simp [h]
theorem numL_len_lt : ∀ (k n : Nat), n < 128 ^ k → 0 < k → (numL n).length ≤ k
  | 0, n, h, h0 => absurd h0 (by omega)
  | k + 1, n, h, _ => by
    by_cases hn : n < 128
    · rw [numL_small hn]; simp
    · rw [numL_big hn]
      have hk : 0 < k := by
        rcases Nat.eq_zero_or_pos k with rfl | hk
        · simp at h; omega
        · exact hk
      have := numL_len_lt k (n / 128) (by rw [Nat.pow_succ] at h; omega) hk
      simp only [List.length_cons]; omega
theorem clampN_lt (n : Int) : clampN n < 1099511627776 := by unfold clampN maxN; split <;> split at * <;> omega
theorem numL_clamp_len (n : Int) : (numL (clampN n)).length ≤ 6 := numL_len_lt 6 _ (by have := clampN_lt n; omega) (by omega)
theorem orByte : ∀ b : BitVec 8, b.toNat < 128 → (b ||| 128#8) = b + 128#8 := by decide
theorem byte_int (m : Nat) : UInt8.ofInt (m : Int) = UInt8.ofNat m := by
  apply UInt8.toBitVec_inj.1
  apply BitVec.eq_of_toNat_eq
  simp [UInt8.ofInt, UInt8.ofNat]
  omega
theorem byte_or (m : Nat) : UInt8.ofInt ((m : Int) % 128) ||| 128 = UInt8.ofNat (m % 128 + 128) := by
  rw [show ((m : Int) % 128) = ((m % 128 : Nat) : Int) by omega, byte_int]
  apply UInt8.toBitVec_inj.1
  have h := orByte (BitVec.ofNat 8 (m % 128)) (by simp [BitVec.toNat_ofNat]; omega)
  have h1 : (UInt8.ofNat (m % 128) ||| 128).toBitVec = BitVec.ofNat 8 (m % 128) ||| 128#8 := rfl
  rw [h1, h]
  apply BitVec.eq_of_toNat_eq
  simp [UInt8.ofNat]
structure NG where
  m : Nat
  pre : List UInt8
  D : Heap
theorem WNumber_spec (b : Nat) (X : Heap) (l : List UInt8) (x : Value) (b2 off : Nat) (ls : List Int) (arr : Array Value) (E : TypeId) (fz : Nat × Nat) (w : World) (hB : BldAt b l X) (hX : ∀ p, p ∈ X → w.heap[p.1]? = some p.2) (hn : (keys X).Nodup)
    (hS : OneS vi 0 w x ls b2 off arr E fz) (hne : 0 < ls.length → b2 ∉ keys X) (hl : l.length + ls.length * 6 < 34359738368) :
    Rets Tryz.prog 61 #[vp b 0, x] w (XS w X (fun v D => v = .tuple #[] ∧ BldAt b (l ++ numsL ls) D)) := by
  refine Rets.enterX Tryz.func61 rfl (rs := []) Tryz.results61 Tryz.ntmps61 hX hn ?_
  refine kf ?_
  ((try with_reducible refine Cw.go [] ?_); (try simp (disch := (first | assumption | omega | (simp only [lenS, lenT, UInt64.reduceToNat]; try omega))) only [↓Sx.S0, Sx.S1, Tryz.fx, uW4_1, Nat.reduceAdd, Nat.reducePow, Int.reducePow, Nat.reduceBEq, ↓reduceIte, UInt8.reduceToNat, UInt16.reduceToNat, UInt32.reduceToNat, UInt64.reduceToNat, Int.reduceToNat, hS.len]))
  refine Cw.loopG (G := WG) [11, 12, 13, 5, 14, 15, 16, 17, 18, 21, 22, 23, 24, 25, 26, 27, 28, 19, 20, 29, 30, 31, 32, 33, 34, 35, 10] (fun g => [(10, vi g.g)]) (fun g => g.D) (fun g => g.g ≤ ls.length ∧ Ext w X g.D ∧ BldAt b (l ++ numsL (ls.take g.g)) g.D) (fun g => ls.length - g.g) ⟨0, X⟩ rfl rfl ?_ ?_
  · exact ⟨by simp, Ext.refl _ _, by simpa [numsL] using hB⟩
  intro g j hg
  refine kv ?_
  obtain ⟨g, D⟩ := g
  simp only at hg ⊢
  obtain ⟨hgL, hE, hBD⟩ := hg
  by_cases hlt : g < ls.length
  · have hlg := hS.get g hlt
    have hrd := hE.old (hS.has (by omega)) (hne (by omega))
    ((try with_reducible refine Cw.go [] ?_); (try simp (disch := (first | assumption | omega | (simp only [lenS, lenT, UInt64.reduceToNat]; try omega))) only [↓Sx.S0, Sx.S1, Tryz.fx, uW4_1, Nat.reduceAdd, Nat.reducePow, Int.reducePow, Nat.reduceBEq, ↓reduceIte, UInt8.reduceToNat, UInt16.reduceToNat, UInt32.reduceToNat, UInt64.reduceToNat, Int.reduceToNat, Sx.loadV_one, hrd, hlg, hS.idx]))
    refine Ow.minI rfl rfl rfl ?_
    refine Ow.maxI rfl rfl rfl ?_
    have hcl : (if (if maxN < ls.getD g 0 then maxN else ls.getD g 0) > 0 then (if maxN < ls.getD g 0 then maxN else ls.getD g 0) else 0) = (clampN (ls.getD g 0) : Int) := by
      unfold clampN; omega
    have hcl' : (if (if 1099511627775 < ls.getD g 0 then 1099511627775 else ls.getD g 0) > 0 then (if 1099511627775 < ls.getD g 0 then 1099511627775 else ls.getD g 0) else 0) = (clampN (ls.getD g 0) : Int) := hcl
    rw [hcl']
    have hcb := clampN_lt (ls.getD g 0)
    have hpl : (numsL (ls.take g)).length ≤ g * 6 := by
      unfold numsL
      rw [List.length_flatten, List.map_map]
      have : ∀ (q : List Int), (q.map (List.length ∘ fun n => numL (clampN n))).sum ≤ q.length * 6 := by
        intro q
        induction q with
        | nil => simp
        | cons y r ih => have := numL_clamp_len y; simp only [List.map_cons, List.sum_cons, List.length_cons, Function.comp]; omega
      have h2 := this (ls.take g)
      rw [List.length_take] at h2
      have : min g ls.length * 6 ≤ g * 6 := Nat.mul_le_mul_right _ (Nat.min_le_left _ _)
      omega
    have hnl := numL_clamp_len (ls.getD g 0)
    have hsucc : numsL (ls.take (g + 1)) = numsL (ls.take g) ++ numL (clampN (ls.getD g 0)) := by
      unfold numsL
      rw [List.take_succ_eq_append_getElem hlt, List.map_append, List.flatten_append, List.getD_eq_getElem?_getD, List.getElem?_eq_getElem hlt]
      simp only [List.map_cons, List.map_nil, List.flatten_cons, List.flatten_nil, List.append_nil, Option.getD_some]
    generalize clampN (ls.getD g 0) = m0 at *
    refine ko uW4_1 ?_
    first | with_reducible refine ks [] uW4_1 ?_ | refine kp uW4_1 ?_
    refine Cw.loopG (G := NG) [17, 18, 21, 22, 23, 24, 25, 26, 27, 28, 19, 20, 5] (fun q => [(5, vi q.m)]) (fun q => q.D) (fun q => q.m ≤ m0 ∧ Ext w X q.D ∧ numL m0 = q.pre ++ numL q.m ∧ BldAt b (l ++ numsL (ls.take g) ++ q.pre) q.D) (fun q => q.m) ⟨m0, [], D⟩ rfl rfl ?_ ?_
    · exact ⟨Nat.le_refl _, hE, rfl, by rwa [List.append_nil]⟩
    intro q jq hq
    refine kv ?_
    obtain ⟨m, pre, D1⟩ := q
    simp only at hq ⊢
    obtain ⟨hqm, hE1, hpre, hB1⟩ := hq
    have hpl2 := congrArg List.length hpre
    rw [List.length_append] at hpl2
    by_cases hm : m < 128
    · first | with_reducible refine ks [] uW4_1 ?_ | refine kp uW4_1 ?_
      rw [numL_small hm] at hpre hpl2
      have hlen : (l ++ numsL (ls.take g) ++ pre).length + 1 < 34359738368 := by
        rw [List.length_append, List.length_append]
        simp only [List.length_cons, List.length_nil] at hpl2
        omega
      refine Ow.callX (Y := []) (by simp) rfl rfl Tryz.call129 (fun w' hw' hX hn => WriteByte_spec b D1 _ _ w' hB1 hX hn (by omega)) (fun v2 D2 hC hS2 => ?_)
      rw [List.append_nil]
      obtain ⟨rfl, hB2⟩ := hS2
      rw [byte_int] at hB2
      refine ko uW4_1 ?_
      first | with_reducible refine ks [] uW4_1 ?_ | refine kp uW4_1 ?_
      refine Again.mk (WG.mk (g + 1) D2) (by show ls.length - (g + 1) < ls.length - g; omega) ⟨by show g + 1 ≤ ls.length; omega, hE1.came0 hC, ?_⟩ rfl rfl
      show BldAt b (l ++ numsL (ls.take (g + 1))) D2
      rw [hsucc, hpre, ← List.append_assoc, ← List.append_assoc]
      exact hB2
    · first | with_reducible refine ks [] uW4_1 ?_ | refine kp uW4_1 ?_
      rw [numL_big hm] at hpre hpl2
      have hlen : (l ++ numsL (ls.take g) ++ pre).length + 1 < 34359738368 := by
        rw [List.length_append, List.length_append]
        simp only [List.length_cons] at hpl2
        omega
      refine Ow.callX (Y := []) (by simp) rfl rfl Tryz.call129 (fun w' hw' hX hn => WriteByte_spec b D1 _ _ w' hB1 hX hn (by omega)) (fun v2 D2 hC hS2 => ?_)
      rw [List.append_nil]
      obtain ⟨rfl, hB2⟩ := hS2
      rw [byte_or] at hB2
      refine ko uW4_1 ?_
      first | with_reducible refine ks [] uW4_1 ?_ | refine kp uW4_1 ?_
      refine Again.mk (NG.mk (m / 128) (pre ++ [UInt8.ofNat (m % 128 + 128)]) D2) (by show m / 128 < m; omega) ⟨by show m / 128 ≤ m0; omega, hE1.came0 hC, ?_, ?_⟩ rfl rfl
      · show numL m0 = pre ++ [UInt8.ofNat (m % 128 + 128)] ++ numL (m / 128)
        rw [hpre]; simp
      · show BldAt b (l ++ numsL (ls.take g) ++ (pre ++ [UInt8.ofNat (m % 128 + 128)])) D2
        rw [← List.append_assoc]
        exact hB2
  · obtain rfl : g = ls.length := by omega
    first | with_reducible refine ks [] uW4_1 ?_ | refine kp uW4_1 ?_
    refine ⟨_, (ke uW4_1), ?_⟩
    rw [List.take_length] at hBD
    exact ⟨hE, rfl, hBD⟩
end Go.Proofs
end
section
open Go Go.Proofs Go.Sx
namespace Go.Proofs
set_option maxRecDepth 10000
set_option maxHeartbeats 1000000
set_option linter.unusedSimpArgs false
set_option linter.defProp false
def uW5_1 := And.intro (And.intro (@load_b0) (@load_b1)) (And.intro (@nilW) (And.intro (@load_a8) (@load_all8)))
theorem BldAt.app {b : Nat} {l : List UInt8} {X Y : Heap} (h : BldAt b l X) : BldAt b l (X ++ Y) := by
  obtain ⟨p, v, h1, h2, h3, h4⟩ := h
  exact ⟨p, v, look_app h1, h2, h3.app, h4⟩
def textL (s : List UInt8) : List UInt8 := numL (clampN s.length) ++ s
def textsL (ls : List (List UInt8)) : List UInt8 := (ls.map textL).flatten
theorem numsL_one (n : Int) : numsL [n] = numL (clampN n) := by simp [numsL]
theorem textsL_succ (ls : List (List UInt8)) (g : Nat) (h : g < ls.length) : textsL (ls.take (g + 1)) = textsL (ls.take g) ++ textL (ls.getD g []) := by
  unfold textsL
  rw [List.take_succ_eq_append_getElem h, List.map_append, List.flatten_append, List.getD_eq_getElem?_getD, List.getElem?_eq_getElem h]
  simp only [List.map_cons, List.map_nil, List.flatten_cons, List.flatten_nil, List.append_nil, Option.getD_some]
theorem textsL_take_le (ls : List (List UInt8)) (g : Nat) : (textsL (ls.take g)).length ≤ (textsL ls).length := by
  conv => rhs; rw [← List.take_append_drop g ls]
  unfold textsL
  rw [List.map_append, List.flatten_append, List.length_append]; omega
theorem WText_spec (b : Nat) (X : Heap) (l : List UInt8) (x : Value) (b2 off : Nat) (ls : List (List UInt8)) (arr : Array Value) (E : TypeId) (fz : Nat × Nat) (w : World) (hB : BldAt b l X) (hX : ∀ p, p ∈ X → w.heap[p.1]? = some p.2) (hn : (keys X).Nodup)
    (hS : StrS w x ls b2 off arr E fz) (hne : 0 < ls.length → b2 ∉ keys X) (hl : l.length + (textsL ls).length < 17179869184) (hls : ls.length < 17179869184) :
    Rets Tryz.prog 62 #[vp b 0, x] w (XS w X (fun v D => v = .tuple #[] ∧ BldAt b (l ++ textsL ls) D)) := by
  refine Rets.enterX Tryz.func62 rfl (rs := []) Tryz.results62 Tryz.ntmps62 hX hn ?_
  refine kf ?_
  ((try with_reducible refine Cw.go [] ?_); (try simp (disch := (first | assumption | omega | (simp only [lenS, lenT, UInt64.reduceToNat]; try omega))) only [↓Sx.S0, Sx.S1, Tryz.fx, uW5_1, Nat.reduceAdd, Nat.reducePow, Int.reducePow, Nat.reduceBEq, ↓reduceIte, UInt8.reduceToNat, UInt16.reduceToNat, UInt32.reduceToNat, UInt64.reduceToNat, Int.reduceToNat, hS.len]))
  refine Cw.loopG (G := WG) [9, 10, 11, 5, 12, 13, 14, 15, 16, 17, 18, 19, 20, 21, 8] (fun g => [(8, vi g.g)]) (fun g => g.D) (fun g => g.g ≤ ls.length ∧ Ext w X g.D ∧ BldAt b (l ++ textsL (ls.take g.g)) g.D) (fun g => ls.length - g.g) ⟨0, X⟩ rfl rfl ?_ ?_
  · exact ⟨by simp, Ext.refl _ _, by simpa [textsL] using hB⟩
  intro g j hg
  refine kv ?_
  obtain ⟨g, D⟩ := g
  simp only at hg ⊢
  obtain ⟨hgL, hE, hBD⟩ := hg
  by_cases hlt : g < ls.length
  · have hlg := hS.get g hlt
    have hrd := hE.old (hS.has (by omega)) (hne (by omega))
    have hsu := textsL_succ ls g hlt
    have hle := textsL_take_le ls (g + 1)
    have hsl := congrArg List.length hsu
    rw [List.length_append] at hsl
    have htl : (textL (ls.getD g [])).length = (numL (clampN (ls.getD g []).length)).length + (ls.getD g []).length := by unfold textL; rw [List.length_append]
    ((try with_reducible refine Cw.go [] ?_); (try simp (disch := (first | assumption | omega | (simp only [lenS, lenT, UInt64.reduceToNat]; try omega))) only [↓Sx.S0, Sx.S1, Tryz.fx, uW5_1, Nat.reduceAdd, Nat.reducePow, Int.reducePow, Nat.reduceBEq, ↓reduceIte, UInt8.reduceToNat, UInt16.reduceToNat, UInt32.reduceToNat, UInt64.reduceToNat, Int.reduceToNat, Sx.loadV_one, hrd, hlg, hS.idx]))
    refine Ow.buildSlice (e := 3) #[vi (ls.getD g []).length] rfl rfl (by kernel_rfl) fun b3 hb3 hw3 => ?_
    refine ko uW5_1 ?_
    refine Ow.callX (Y := [(b3, .cells #[vi (ls.getD g []).length] 3 (0, 0))]) (by simp) rfl rfl Tryz.call61 (fun w' hw' hX hn => WNumber_spec b D _ _ b3 0 [((ls.getD g []).length : Int)] _ _ _ w' hBD hX hn (OneS.lit [((ls.getD g []).length : Int)] rfl rfl (hw'.has _ _ (List.mem_append_right _ List.mem_cons_self))) (fun _ hm => Nat.lt_irrefl _ (above_to hb3 hm)) (by rw [List.length_append]; simp only [List.length_cons, List.length_nil]; omega)) (fun v2 D2 hC hS2 => ?_)
    obtain ⟨rfl, hB2⟩ := hS2
    have hE2 := (hE.app (o := .cells #[vi (ls.getD g []).length] 3 (0, 0)) hw3).came hC
    rw [numsL_one] at hB2
    have hB3 := BldAt.app (Y := [(b3, .cells #[vi (ls.getD g []).length] 3 (0, 0))]) hB2
    generalize D2 ++ [(b3, Obj.cells #[vi (ls.getD g []).length] 3 (0, 0))] = D3 at *
    refine ko uW5_1 ?_
    first | with_reducible refine ks [] uW5_1 ?_ | refine kp uW5_1 ?_
    refine Ow.buildSlice (e := 9) #[vs (ls.getD g [])] rfl rfl (by kernel_rfl) fun b4 hb4 hw4 => ?_
    refine ko uW5_1 ?_
    refine Ow.callX (Y := [(b4, .cells #[vs (ls.getD g [])] 9 (0, 0))]) (by simp) rfl rfl Tryz.call60 (fun w' hw' hX hn => WRaw_spec b D3 _ _ b4 0 [ls.getD g []] _ _ _ w' hB3 hX hn (StrS.lit [ls.getD g []] rfl rfl (hw'.has _ _ (List.mem_append_right _ List.mem_cons_self))) (fun _ hm => Nat.lt_irrefl _ (above_to hb4 hm)) (by rw [List.length_append, List.length_append]; simp only [List.flatten_cons, List.flatten_nil, List.append_nil]; omega) (by simp)) (fun v4 D4 hC4 hS4 => ?_)
    obtain ⟨rfl, hB4⟩ := hS4
    have hE4 := (hE2.app (o := .cells #[vs (ls.getD g [])] 9 (0, 0)) hw4).came hC4
    have hB5 := BldAt.app (Y := [(b4, .cells #[vs (ls.getD g [])] 9 (0, 0))]) hB4
    generalize D4 ++ [(b4, Obj.cells #[vs (ls.getD g [])] 9 (0, 0))] = D5 at *
    refine ko uW5_1 ?_
    first | with_reducible refine ks [] uW5_1 ?_ | refine kp uW5_1 ?_
    refine Again.mk (WG.mk (g + 1) D5) (by show ls.length - (g + 1) < ls.length - g; omega) ⟨by show g + 1 ≤ ls.length; omega, hE4, ?_⟩ rfl rfl
    show BldAt b (l ++ textsL (ls.take (g + 1))) D5
    rw [hsu]
    simpa [textL] using hB5
  · obtain rfl : g = ls.length := by omega
    first | with_reducible refine ks [] uW5_1 ?_ | refine kp uW5_1 ?_
    refine ⟨_, (ke uW5_1), ?_⟩
    rw [List.take_length] at hBD
    exact ⟨hE, rfl, hBD⟩
def idC (id : List UInt8) : List Value := id.map v8
structure IdL where
  l : List UInt8
  h : l.length = 32
def idLC (x : IdL) : List Value := x.l.map v8
def id0 : IdL := ⟨List.replicate 32 0, by simp⟩
theorem idLC_a8 (x : IdL) : (idLC x).toArray = a8 x.l := rfl
def idsL (ls : List IdL) : List UInt8 := (ls.map IdL.l).flatten
theorem WString_spec (b : Nat) (X : Heap) (l : List UInt8) (w : World) (hB : BldAt b l X) (hX : ∀ p, p ∈ X → w.heap[p.1]? = some p.2) (hn : (keys X).Nodup) (hl : l.length < 34359738368) :
    Rets Tryz.prog 64 #[vp b 0] w (XS w X (fun v _ => v = vs l)) := by
  refine Rets.enterX Tryz.func64 rfl (rs := [.tmp 2]) Tryz.results64 Tryz.ntmps64 hX hn ?_
  refine kf ?_
  first | with_reducible refine ks [] uW5_1 ?_ | refine kp uW5_1 ?_
  refine Ow.callX (Y := []) (by simp) rfl rfl Tryz.call131 (fun w' hw' hX hn => BString_spec b X l w' hB hX hn hl) (fun v2 D2 hC hS2 => ?_)
  subst hS2
  rw [List.append_nil]
  refine ko uW5_1 ?_
  first | with_reducible refine ks [] uW5_1 ?_ | refine kp uW5_1 ?_
  refine ⟨_, (ke uW5_1), ?_⟩
  exact ⟨(Ext.refl _ _).came0 hC, rfl⟩
end Go.Proofs
end
section
open Go Go.Proofs Go.Sx
namespace Go.Proofs
set_option maxRecDepth 10000
set_option maxHeartbeats 1000000
set_option linter.unusedSimpArgs false
/-! ### wire.Reader -/
/-- A reader: what it reads, where it stands, its first error. -/
structure Rd where
  s : List UInt8
  at_ : Nat
  err : Nat
def rdC (r : Rd) : Array Value := #[vs r.s, vi r.at_, vi r.err]
theorem load_rd0 (s : List UInt8) (a e : Int) (E : TypeId) (n : Nat) : loadV (some (false, n)) (some (.cells #[vs s, vi a, vi e] E (0, 0))) 0 = some (vs s) := (rfl)
theorem load_rd1 (s : List UInt8) (a e : Int) (E : TypeId) (n : Nat) : loadV (some (false, n)) (some (.cells #[vs s, vi a, vi e] E (0, 0))) 1 = some (vi a) := (rfl)
theorem load_rd2 (s : List UInt8) (a e : Int) (E : TypeId) (n : Nat) : loadV (some (false, n)) (some (.cells #[vs s, vi a, vi e] E (0, 0))) 2 = some (vi e) := (rfl)
theorem store_rd1 (s : List UInt8) (a e x : Int) (E : TypeId) : storeV (some (false, 1)) (some (.cells #[vs s, vi a, vi e] E (0, 0))) 1 (vi x) = some (.cells #[vs s, vi x, vi e] E (0, 0)) := by
  simp [storeV, putC, vi, Value.cells, Value.oneCell']
theorem store_rd2 (s : List UInt8) (a e x : Int) (E : TypeId) : storeV (some (false, 1)) (some (.cells #[vs s, vi a, vi e] E (0, 0))) 2 (vi x) = some (.cells #[vs s, vi a, vi x] E (0, 0)) := by
  simp [storeV, putC, vi, Value.cells, Value.oneCell']
theorem nilR (b o : Nat) : binX Tryz.prog .eql 134 (vp b o) (.pointer none) = some (.bool false) := by
  simp [binX, eqX, plainV, eqNilV, Tryz.underlying134, vp]
theorem nilR' : binX Tryz.prog .eql 134 (.pointer none) (.pointer none) = some (.bool true) := by
  simp [binX, eqX, plainV, eqNilV, Tryz.underlying134]
theorem nnilR (b o : Nat) : binX Tryz.prog .neq 134 (vp b o) (.pointer none) = some (.bool true) := by
  simp [binX, eqX, plainV, eqNilV, Tryz.underlying134, vp]
theorem nnilR' : binX Tryz.prog .neq 134 (.pointer none) (.pointer none) = some (.bool false) := by
  simp [binX, eqX, plainV, eqNilV, Tryz.underlying134]
set_option linter.defProp false
def uW6_1 := And.intro (And.intro (And.intro (@load_rd0) (@load_rd1)) (And.intro (@load_rd2) (@store_rd1))) (And.intro (And.intro (@store_rd2) (@nilR)) (And.intro (@nilR') (And.intro (@nnilR) (@nnilR'))))
theorem RErr_spec (b : Nat) (s : List UInt8) (a e : Int) (w : World) (ho : w.heap[b]? = some (.cells #[vs s, vi a, vi e] 212 (0, 0))) :
    Rets Tryz.prog 137 #[vp b 0] w (fun v D => v = vi e ∧ D = []) := by
  refine Rets.enterV Tryz.func137 rfl (rs := [.tmp 2]) Tryz.results137 Tryz.ntmps137 ?_
  refine kf ?_
  first | with_reducible refine ks [] (And.intro uW6_1 @ho) ?_ | refine kp (And.intro uW6_1 @ho) ?_
  refine ⟨_, (ke uW6_1), trivial, ?_⟩
  rfl
theorem RAt_spec (b : Nat) (s : List UInt8) (a e : Int) (w : World) (ho : w.heap[b]? = some (.cells #[vs s, vi a, vi e] 212 (0, 0))) :
    Rets Tryz.prog 138 #[vp b 0] w (fun v D => v = vi a ∧ D = []) := by
  refine Rets.enterV Tryz.func138 rfl (rs := [.tmp 2]) Tryz.results138 Tryz.ntmps138 ?_
  refine kf ?_
  first | with_reducible refine ks [] (And.intro uW6_1 @ho) ?_ | refine kp (And.intro uW6_1 @ho) ?_
  refine ⟨_, (ke uW6_1), trivial, ?_⟩
  rfl
theorem REnd_spec (b : Nat) (s : List UInt8) (a e : Int) (w : World) (ho : w.heap[b]? = some (.cells #[vs s, vi a, vi e] 212 (0, 0))) :
    Rets Tryz.prog 74 #[vp b 0] w (fun v D => v = vi (if e ≠ 0 then e else if a < s.length then 5 else 0) ∧ D = []) := by
  refine Rets.enterV Tryz.func74 rfl (rs := [.tmp 2]) Tryz.results74 Tryz.ntmps74 ?_
  refine kf ?_
  first | with_reducible refine ks [] uW6_1 ?_ | refine kp uW6_1 ?_
  refine Ow.callFV rfl Tryz.call137 (fun w' hw' => RErr_spec b s a e w' (by rw [hw'.old b (Array.getElem?_eq_some_iff.1 ho).1 (by simp [keys])]; exact ho)) ?_
  refine ko uW6_1 ?_
  first | with_reducible refine ks [] uW6_1 ?_ | refine kp uW6_1 ?_
  by_cases he : e = 0
  · first | with_reducible refine ks [] uW6_1 ?_ | refine kp uW6_1 ?_
    refine Cw.regionS [b] [0, 1, 2, 4, 5, 6, 3, 7, 8, 9] [] (by kernel_rfl) (by kernel_rfl) (by kernel_rfl) ?_
    simp only [nl_cons, ↓pickL_nil, ↓pickL_cons, ↓nthO_0, ↓nthO_s, consO_some]
    refine kq (And.intro uW6_1 @ho) ?_
    try with_reducible refine Ow.nil ?_
    first | with_reducible refine ks [] uW6_1 ?_ | refine kp uW6_1 ?_
    refine cdC.splitp (fun hc => ?_) (fun hc => ?_)
    · first | with_reducible refine ks [] uW6_1 ?_ | refine kp uW6_1 ?_
      refine ⟨_, (ke uW6_1), trivial, ?_⟩
      simp [hc, he, tupV]
    · first | with_reducible refine ks [] uW6_1 ?_ | refine kp uW6_1 ?_
      refine ⟨_, (ke uW6_1), trivial, ?_⟩
      simp [hc, he, tupV]
  · first | with_reducible refine ks [] uW6_1 ?_ | refine kp uW6_1 ?_
    refine ⟨_, (ke uW6_1), trivial, ?_⟩
    simp [he, tupV]
theorem Rfail_spec (b : Nat) (s : List UInt8) (a e x y : Int) (w : World) (ho : w.heap[b]? = some (.cells #[vs s, vi a, vi e] 212 (0, 0))) :
    Rets Tryz.prog 149 #[vp b 0, vi x, vi y] w (fun v D => ∃ o, D = [(b, o)] ∧ v = .tuple #[] ∧ o = .cells #[vs s, vi (if e = 0 then y else a), vi (if e = 0 then x else e)] 212 (0, 0)) := by
  refine Rets.enterM Tryz.func149 rfl (rs := []) Tryz.results149 Tryz.ntmps149 ho ?_
  refine kf ?_
  first | with_reducible refine ks [] uW6_1 ?_ | refine kp uW6_1 ?_
  by_cases he : e = 0
  · first | with_reducible refine ks [] uW6_1 ?_ | refine kp uW6_1 ?_
    refine ⟨_, _, _, (ke uW6_1), rfl, trivial, ?_⟩
    simp [he, tupV]
  · first | with_reducible refine ks [] uW6_1 ?_ | refine kp uW6_1 ?_
    refine ⟨_, _, _, (ke uW6_1), rfl, trivial, ?_⟩
    simp [he, tupV]
/-- So many bytes: what is read, where the reader stands then, its error. -/
def rawR (s : List UInt8) (a : Nat) (e n : Int) : List UInt8 × Nat × Int :=
  if e ≠ 0 then ([], a, e) else if n < 0 then ([], a, 2) else if (s.length : Int) - a < n then ([], a, 3) else ((s.drop a).take n.toNat, a + n.toNat, 0)
theorem RRaw_spec (b : Nat) (s : List UInt8) (a : Nat) (e n : Int) (w : World) (ha : a ≤ s.length) (hs : s.length < 9223372036854775808) (ho : w.heap[b]? = some (.cells #[vs s, vi a, vi e] 212 (0, 0))) :
    Rets Tryz.prog 94 #[vp b 0, vi n] w (fun v D => ∃ o, D = [(b, o)] ∧ v = vs (rawR s a e n).1 ∧ o = .cells #[vs s, vi (rawR s a e n).2.1, vi (rawR s a e n).2.2] 212 (0, 0)) := by
  refine Rets.enterM Tryz.func94 rfl (rs := [.tmp 4]) Tryz.results94 Tryz.ntmps94 ho ?_
  refine kf ?_
  first | with_reducible refine ks [] uW6_1 ?_ | refine kp uW6_1 ?_
  refine Ow.callFV rfl Tryz.call137 (fun w' hw' => RErr_spec b s a e w' (hw'.has _ _ List.mem_cons_self)) ?_
  refine ko uW6_1 ?_
  first | with_reducible refine ks [] uW6_1 ?_ | refine kp uW6_1 ?_
  unfold rawR
  by_cases he : e = 0
  · subst he
    rw [if_neg (fun h => h rfl)]
    first | with_reducible refine ks [] uW6_1 ?_ | refine kp uW6_1 ?_
    by_cases hn : n < 0
    · rw [if_pos hn]
      first | with_reducible refine ks [] uW6_1 ?_ | refine kp uW6_1 ?_
      refine Ow.callM rfl rfl Tryz.call149 (by simp [keys]) (fun w' hw' => Rfail_spec b s a 0 2 a w' (hw'.has _ _ List.mem_cons_self)) ?_
      refine ko uW6_1 ?_
      first | with_reducible refine ks [] uW6_1 ?_ | refine kp uW6_1 ?_
      refine ⟨_, _, _, (ke uW6_1), rfl, trivial, ?_⟩
      exact ⟨rfl, rfl⟩
    · rw [if_neg hn]
      first | with_reducible refine ks [] uW6_1 ?_ | refine kp uW6_1 ?_
      refine Cw.regionS [b] [0, 1, 2, 3, 6, 7, 8, 4, 5, 9, 10, 11, 12] [] (by kernel_rfl) (by kernel_rfl) (by kernel_rfl) ?_
      simp only [nl_cons, ↓pickL_nil, ↓pickL_cons, ↓nthO_0, ↓nthO_s, consO_some]
      refine kq uW6_1 ?_
      try with_reducible refine Ow.nil ?_
      first | with_reducible refine ks [] uW6_1 ?_ | refine kp uW6_1 ?_
      by_cases hl : (s.length : Int) - a < n
      · rw [if_pos hl]
        first | with_reducible refine ks [] uW6_1 ?_ | refine kp uW6_1 ?_
        refine Ow.callM rfl rfl Tryz.call149 (by simp [keys]) (fun w' hw' => Rfail_spec b s a 0 3 a w' (hw'.has _ _ List.mem_cons_self)) ?_
        refine ko uW6_1 ?_
        first | with_reducible refine ks [] uW6_1 ?_ | refine kp uW6_1 ?_
        refine ⟨_, _, _, (ke uW6_1), rfl, trivial, ?_⟩
        exact ⟨rfl, rfl⟩
      · rw [if_neg hl]
        obtain ⟨m, rfl⟩ : ∃ m : Nat, n = (m : Int) := ⟨n.toNat, by omega⟩
        first | with_reducible refine ks [] uW6_1 ?_ | refine kp uW6_1 ?_
        refine Cw.regionS [b] [0, 1, 2, 4, 5, 6, 8, 9, 10, 12, 3, 7, 11, 13, 14, 15] [] (by kernel_rfl) (by kernel_rfl) (by kernel_rfl) ?_
        simp only [nl_cons, ↓pickL_nil, ↓pickL_cons, ↓nthO_0, ↓nthO_s, consO_some]
        refine kq uW6_1 ?_
        try with_reducible refine Ow.nil ?_
        first | with_reducible refine ks [] uW6_1 ?_ | refine kp uW6_1 ?_
        refine ⟨_, _, _, (ke uW6_1), rfl, trivial, ?_⟩
        refine ⟨?_, ?_⟩
        · simp only [tupV, Int.toNat_natCast]
          rw [List.drop_take, Nat.add_sub_cancel_left]
        · rw [Int.toNat_natCast, Int.natCast_add]
  · rw [if_pos he]
    first | with_reducible refine ks [] uW6_1 ?_ | refine kp uW6_1 ?_
    refine ⟨_, _, _, (ke uW6_1), rfl, trivial, ?_⟩
    exact ⟨rfl, rfl⟩
end Go.Proofs
end
section
open Go Go.Proofs Go.Sx
namespace Go.Proofs
set_option maxRecDepth 10000
set_option maxHeartbeats 8000000
set_option linter.unusedSimpArgs false
set_option linter.defProp false
def uW7_1 := And.intro (And.intro (And.intro (@load_rd0) (@load_rd1)) (And.intro (@load_rd2) (@store_rd1))) (And.intro (And.intro (@store_rd2) (@nilR)) (And.intro (@nilR') (And.intro (@nnilR) (@nnilR'))))
/-- A number at the beginning of some bytes, k of which have been read; how many there are then; or an error. -/
def numGo (most : Int) : List UInt8 → Nat → Nat → Except Nat (Nat × Nat)
  | [], _, _ => .error 3
  | c :: r, k, n =>
    if 128 ≤ c.toNat then (if k + 1 = 6 then .error 4 else numGo most r (k + 1) (n + c.toNat % 128 * 128 ^ k))
    else if c.toNat = 0 ∧ 0 < k then .error 2
    else if n + c.toNat % 128 * 128 ^ k ≤ 1099511627775 ∧ ((n + c.toNat % 128 * 128 ^ k : Nat) : Int) ≤ most then .ok (n + c.toNat % 128 * 128 ^ k, k + 1)
    else .error 4
def numR (s : List UInt8) (a : Nat) (e most : Int) : Int × Nat × Int :=
  if e ≠ 0 then (0, a, e) else match numGo most (s.drop a) 0 0 with
    | .ok (n, k) => (n, a + k, 0)
    | .error x => (0, a, x)
theorem numR_ok {s : List UInt8} {a : Nat} {e most : Int} {n k : Nat} (he : e = 0) (h : numGo most (s.drop a) 0 0 = .ok (n, k)) : numR s a e most = ((n : Int), a + k, 0) := by
  unfold numR; rw [if_neg (by simp [he]), h]
theorem numR_err {s : List UInt8} {a : Nat} {e most : Int} {x : Nat} (he : e = 0) (h : numGo most (s.drop a) 0 0 = .error x) : numR s a e most = (0, a, (x : Int)) := by
  unfold numR; rw [if_neg (by simp [he]), h]
structure NumS where
  more : Bool
  k : Nat
  n : Nat
  x : Nat
theorem RNumber_spec (b : Nat) (s : List UInt8) (a : Nat) (e most : Int) (w : World) (ha : a ≤ s.length) (hs : s.length < 9223372036854775808) (ho : w.heap[b]? = some (.cells #[vs s, vi a, vi e] 212 (0, 0))) :
    Rets Tryz.prog 95 #[vp b 0, vi most] w (fun v D => ∃ o, D = [(b, o)] ∧ v = vi (numR s a e most).1 ∧ o = .cells #[vs s, vi (numR s a e most).2.1, vi (numR s a e most).2.2] 212 (0, 0)) := by
  refine Rets.enterM Tryz.func95 rfl (rs := [.tmp 4]) Tryz.results95 Tryz.ntmps95 ho ?_
  refine kf ?_
  first | with_reducible refine ks [] uW7_1 ?_ | refine kp uW7_1 ?_
  by_cases he : e = 0
  · subst he
    refine Cw.scopeL (G := NumS) (fun g => (if g.more then 1 else 0)) [10, 11, 12, 4, 5, 6, 7, 13, 14, 15, 16, 8, 9, 17, 18, 19, 20, 21, 22, 23, 24, 25, 26, 27, 28, 29, 30, 31, 32, 33, 34, 35, 36, 37, 38, 39, 40, 41, 42, 43, 44, 45, 46, 47, 48, 49, 50, 51, 52, 53, 54, 55, 56, 57, 58, 59, 60, 61, 62, 63, 64, 65, 66, 67, 68, 69, 70, 71, 72, 73] (fun g => (if g.more then [(5, vi g.n), (6, vi (7 * g.k : Nat)), (8, vi 3), (9, vi a)] else [(8, vi g.x), (9, vi a)])) (fun g => [(b, .cells #[vs s, vi (a + g.k : Nat), vi 0] 212 (0, 0))]) (fun g => a + g.k ≤ s.length ∧ (if g.more then numGo most (s.drop a) 0 0 = numGo most (s.drop (a + g.k)) g.k g.n ∧ g.n < 128 ^ g.k ∧ g.k < 6 else numGo most (s.drop a) 0 0 = .error g.x)) (fun g => (if g.more then 7 - g.k else 0)) ?_ ?_ ?_
    · intro g
      obtain ⟨m, k, n, x⟩ := g
      cases m <;> rfl
    · intro g j hg
      obtain ⟨m, k, n, x⟩ := g
      obtain ⟨hk, hg⟩ := hg
      simp only at hk
      cases m with
      | false =>
        simp only [Bool.false_eq_true, ↓reduceIte] at hg ⊢
        simp only [contP, hasL, Bool.or_false, Bool.false_or, Bool.or_true, Bool.true_or, Nat.reduceBEq, beq_self_eq_true, ↓reduceIte, Bool.false_eq_true]
        refine kv ?_
        try with_reducible refine thenK_normal ?_
        first | with_reducible refine ks [] uW7_1 ?_ | refine kp uW7_1 ?_
        refine Ow.callM rfl rfl Tryz.call149 (by simp [keys]) (fun w' hw' => Rfail_spec b s _ 0 x a w' (hw'.has _ _ List.mem_cons_self)) ?_
        refine ko uW7_1 ?_
        first | with_reducible refine ks [] uW7_1 ?_ | refine kp uW7_1 ?_
        rw [numR_err rfl hg]
        refine ⟨_, _, _, (ke uW7_1), rfl, trivial, ?_⟩
        simp [tupV]
      | true =>
        simp only [↓reduceIte] at hg ⊢
        obtain ⟨hgo, hn, hk6⟩ := hg
        simp only [contP, hasL, Bool.or_false, Bool.false_or, Bool.or_true, Bool.true_or, Nat.reduceBEq, beq_self_eq_true, ↓reduceIte, Bool.false_eq_true]
        refine kv ?_
        try with_reducible refine thenK_normal ?_
        first | with_reducible refine ks [] uW7_1 ?_ | refine kp uW7_1 ?_
        refine Cw.regionS [b] [0, 1, 2, 4, 5, 6, 3, 7, 8, 9] [] (by kernel_rfl) (by kernel_rfl) (by kernel_rfl) ?_
        simp only [nl_cons, ↓pickL_nil, ↓pickL_cons, ↓nthO_0, ↓nthO_s, consO_some]
        refine kq uW7_1 ?_
        try with_reducible refine Ow.nil ?_
        by_cases hend : a + k = s.length
        · first | with_reducible refine ks [] uW7_1 ?_ | refine kp uW7_1 ?_
          refine Jump.mk (NumS.mk false k n 3) rfl (by show 0 < 7 - k; omega) ⟨hk, ?_⟩ rfl rfl
          show numGo most (s.drop a) 0 0 = .error 3
          rw [hgo, hend, List.drop_length]; rfl
        · first | with_reducible refine ks [] uW7_1 ?_ | refine kp uW7_1 ?_
          have hak : a + k < s.length := by omega
          have hdrop : s.drop (a + k) = s.getD (a + k) 0 :: s.drop (a + k + 1) := by
            rw [List.drop_eq_getElem_cons hak, List.getD_eq_getElem?_getD, List.getElem?_eq_getElem hak]; rfl
          rw [hdrop] at hgo
          refine Cw.regionS [b] [0, 1, 2, 4, 5, 6, 3, 7, 8, 9] [] (by kernel_rfl) (by kernel_rfl) (by kernel_rfl) ?_
          simp only [nl_cons, ↓pickL_nil, ↓pickL_cons, ↓nthO_0, ↓nthO_s, consO_some]
          refine kq uW7_1 ?_
          try with_reducible refine Ow.nil ?_
          generalize s.getD (a + k) 0 = c at *
          have hp : 128 ^ k ≤ 34359738368 := Nat.pow_le_pow_right (by omega) (show k ≤ 5 by omega)
          have hp0 : 0 < 128 ^ k := Nat.pow_pos (by omega)
          have hd : (c % 128).toNat = c.toNat % 128 := by simp
          have hcl := c.toNat_lt
          have hdm : c.toNat % 128 * 128 ^ k ≤ 127 * 128 ^ k := Nat.mul_le_mul_right _ (by omega)
          have hshl : binV .shl (vi ((c.toNat % 128 : Nat) : Int)) (vi ((7 * k : Nat) : Int)) = some (vi ((c.toNat % 128 * 128 ^ k : Nat) : Int)) := by
            have h2 : (2 : Int) ^ (7 * k) = ((128 ^ k : Nat) : Int) := by
              rw [Int.pow_mul]; push_cast; rfl
            have := shl_i_v ((c.toNat % 128 : Nat) : Int) .i64 (7 * k) (by rw [h2]; refine ⟨by omega, by omega, ?_⟩; rw [← Int.natCast_mul]; omega)
            rw [h2, ← Int.natCast_mul] at this
            exact this
          have hor : binV .or (vi (n : Int)) (vi ((c.toNat % 128 * 128 ^ k : Nat) : Int)) = some (vi ((n + c.toNat % 128 * 128 ^ k : Nat) : Int)) := by
            have := or_i (n : Int) ((c.toNat % 128 * 128 ^ k : Nat) : Int) ⟨by omega, by omega, by omega, by omega⟩
            rw [this]
            congr 3
            rw [Int.toNat_natCast, Int.toNat_natCast, show 128 ^ k = 2 ^ (7 * k) by rw [Nat.pow_mul], Nat.mul_comm, Nat.or_comm, ← Nat.two_pow_add_eq_or_of_lt (by rw [Nat.pow_mul]; exact hn), Nat.add_comm]
          have hlt : n + c.toNat % 128 * 128 ^ k < 128 ^ (k + 1) := by rw [Nat.pow_succ]; omega
          have hrem : binV .rem (v8 c) (v8 128) = some (v8 (c % 128)) := bin_rem_u8 _ _ (by decide)
          first | with_reducible refine ks [] (And.intro uW7_1 ( And.intro @hrem ( And.intro @hd ( And.intro @hshl (@hor))))) ?_ | refine kp (And.intro uW7_1 ( And.intro @hrem ( And.intro @hd ( And.intro @hshl (@hor))))) ?_
          have hle : decide ((128 : UInt8) ≤ c) = decide (128 ≤ c.toNat) := by simp [UInt8.le_iff_toNat_le]
          cases h128 : decide ((128 : UInt8) ≤ c)
          · rw [h128] at hle
            have hc128 : ¬ 128 ≤ c.toNat := of_decide_eq_false hle.symm
            cases hz : (c == 0)
            · have hc0 : ¬ (c.toNat = 0 ∧ 0 < k) := by
                rintro ⟨h0, -⟩
                have : c = 0 := UInt8.toNat_inj.1 h0
                rw [this] at hz
                exact absurd hz (by decide)
              first | with_reducible refine ks [] (And.intro uW7_1 @hz) ?_ | refine kp (And.intro uW7_1 @hz) ?_
              by_cases hm : n + c.toNat % 128 * 128 ^ k ≤ 1099511627775
              · have e1 : decide (((n + c.toNat % 128 * 128 ^ k : Nat) : Int) ≤ 1099511627775) = true := decide_eq_true (by omega)
                first | with_reducible refine ks [] (And.intro uW7_1 @e1) ?_ | refine kp (And.intro uW7_1 @e1) ?_
                by_cases hmo : ((n + c.toNat % 128 * 128 ^ k : Nat) : Int) ≤ most
                · first | with_reducible refine ks [] uW7_1 ?_ | refine kp uW7_1 ?_
                  rw [numR_ok rfl (by rw [hgo, numGo, if_neg hc128, if_neg hc0, if_pos ⟨hm, hmo⟩])]
                  refine ⟨_, _, _, (ke uW7_1), rfl, trivial, ?_⟩
                  exact ⟨rfl, rfl⟩
                · first | with_reducible refine ks [] uW7_1 ?_ | refine kp uW7_1 ?_
                  refine Ow.callM rfl rfl Tryz.call149 (by simp [keys]) (fun w' hw' => Rfail_spec b s _ 0 4 a w' (hw'.has _ _ List.mem_cons_self)) ?_
                  refine ko uW7_1 ?_
                  first | with_reducible refine ks [] uW7_1 ?_ | refine kp uW7_1 ?_
                  rw [numR_err (x := 4) rfl (by rw [hgo, numGo, if_neg hc128, if_neg hc0, if_neg (fun h => hmo h.2)])]
                  refine ⟨_, _, _, (ke uW7_1), rfl, trivial, ?_⟩
                  exact ⟨rfl, rfl⟩
              · have e1 : decide (((n + c.toNat % 128 * 128 ^ k : Nat) : Int) ≤ 1099511627775) = false := decide_eq_false (by omega)
                first | with_reducible refine ks [] (And.intro uW7_1 @e1) ?_ | refine kp (And.intro uW7_1 @e1) ?_
                refine Ow.callM rfl rfl Tryz.call149 (by simp [keys]) (fun w' hw' => Rfail_spec b s _ 0 4 a w' (hw'.has _ _ List.mem_cons_self)) ?_
                refine ko uW7_1 ?_
                first | with_reducible refine ks [] uW7_1 ?_ | refine kp uW7_1 ?_
                rw [numR_err (x := 4) rfl (by rw [hgo, numGo, if_neg hc128, if_neg hc0, if_neg (fun h => hm h.1)])]
                refine ⟨_, _, _, (ke uW7_1), rfl, trivial, ?_⟩
                exact ⟨rfl, rfl⟩
            · have hcz : c = 0 := eq_of_beq hz
              have hct : c.toNat = 0 := by rw [hcz]; rfl
              first | with_reducible refine ks [] (And.intro uW7_1 @hz) ?_ | refine kp (And.intro uW7_1 @hz) ?_
              by_cases hk0 : 0 < k
              · first | with_reducible refine ks [] uW7_1 ?_ | refine kp uW7_1 ?_
                refine Jump.mk (NumS.mk false (k + 1) n 2) rfl (by show 0 < 7 - k; omega) ⟨by show a + (k + 1) ≤ s.length; omega, ?_⟩ rfl rfl
                show numGo most (s.drop a) 0 0 = .error 2
                rw [hgo, numGo, if_neg hc128, if_pos ⟨hct, hk0⟩]
              · have hc0 : ¬ (c.toNat = 0 ∧ 0 < k) := fun h => hk0 h.2
                first | with_reducible refine ks [] uW7_1 ?_ | refine kp uW7_1 ?_
                by_cases hm : n + c.toNat % 128 * 128 ^ k ≤ 1099511627775
                · have e1 : decide (((n + c.toNat % 128 * 128 ^ k : Nat) : Int) ≤ 1099511627775) = true := decide_eq_true (by omega)
                  first | with_reducible refine ks [] (And.intro uW7_1 @e1) ?_ | refine kp (And.intro uW7_1 @e1) ?_
                  by_cases hmo : ((n + c.toNat % 128 * 128 ^ k : Nat) : Int) ≤ most
                  · first | with_reducible refine ks [] uW7_1 ?_ | refine kp uW7_1 ?_
                    rw [numR_ok rfl (by rw [hgo, numGo, if_neg hc128, if_neg hc0, if_pos ⟨hm, hmo⟩])]
                    refine ⟨_, _, _, (ke uW7_1), rfl, trivial, ?_⟩
                    exact ⟨rfl, rfl⟩
                  · first | with_reducible refine ks [] uW7_1 ?_ | refine kp uW7_1 ?_
                    refine Ow.callM rfl rfl Tryz.call149 (by simp [keys]) (fun w' hw' => Rfail_spec b s _ 0 4 a w' (hw'.has _ _ List.mem_cons_self)) ?_
                    refine ko uW7_1 ?_
                    first | with_reducible refine ks [] uW7_1 ?_ | refine kp uW7_1 ?_
                    rw [numR_err (x := 4) rfl (by rw [hgo, numGo, if_neg hc128, if_neg hc0, if_neg (fun h => hmo h.2)])]
                    refine ⟨_, _, _, (ke uW7_1), rfl, trivial, ?_⟩
                    exact ⟨rfl, rfl⟩
                · have e1 : decide (((n + c.toNat % 128 * 128 ^ k : Nat) : Int) ≤ 1099511627775) = false := decide_eq_false (by omega)
                  first | with_reducible refine ks [] (And.intro uW7_1 @e1) ?_ | refine kp (And.intro uW7_1 @e1) ?_
                  refine Ow.callM rfl rfl Tryz.call149 (by simp [keys]) (fun w' hw' => Rfail_spec b s _ 0 4 a w' (hw'.has _ _ List.mem_cons_self)) ?_
                  refine ko uW7_1 ?_
                  first | with_reducible refine ks [] uW7_1 ?_ | refine kp uW7_1 ?_
                  rw [numR_err (x := 4) rfl (by rw [hgo, numGo, if_neg hc128, if_neg hc0, if_neg (fun h => hm h.1)])]
                  refine ⟨_, _, _, (ke uW7_1), rfl, trivial, ?_⟩
                  exact ⟨rfl, rfl⟩
          · rw [h128] at hle
            have hc128 : 128 ≤ c.toNat := of_decide_eq_true hle.symm
            first | with_reducible refine ks [] uW7_1 ?_ | refine kp uW7_1 ?_
            by_cases hk5 : k = 5
            · first | with_reducible refine ks [] uW7_1 ?_ | refine kp uW7_1 ?_
              refine Jump.mk (NumS.mk false (k + 1) n 4) rfl (by show 0 < 7 - k; omega) ⟨by show a + (k + 1) ≤ s.length; omega, ?_⟩ rfl rfl
              show numGo most (s.drop a) 0 0 = .error 4
              rw [hgo, numGo, if_pos hc128, if_pos (by omega)]
            · first | with_reducible refine ks [] uW7_1 ?_ | refine kp uW7_1 ?_
              refine Jump.mk (NumS.mk true (k + 1) (n + c.toNat % 128 * 128 ^ k) 0) rfl (by show 7 - (k + 1) < 7 - k; omega) ⟨by show a + (k + 1) ≤ s.length; omega, ?_⟩ rfl rfl
              show numGo most (s.drop a) 0 0 = numGo most (s.drop (a + (k + 1))) (k + 1) (n + c.toNat % 128 * 128 ^ k) ∧ n + c.toNat % 128 * 128 ^ k < 128 ^ (k + 1) ∧ k + 1 < 6
              refine ⟨?_, hlt, by omega⟩
              rw [hgo, numGo, if_pos hc128, if_neg (by omega)]
              rfl
    · intro key
      have key0 := fun f' => key (NumS.mk true 0 0 0) f'
      simp only [contP, hasL, Bool.or_false, Bool.false_or, Bool.or_true, Bool.true_or, Nat.reduceBEq, beq_self_eq_true, ↓reduceIte, Bool.false_eq_true] at key0
      clear key
      repeat ((try with_reducible refine Cw.go [999999] ?_); (simp (disch := (first | assumption | omega | (simp only [lenS, lenT, UInt64.reduceToNat]; try omega))) only [↓Sx.S0, Sx.S1, Tryz.fx, uW7_1, Nat.reduceAdd, Nat.reducePow, Int.reducePow, Nat.reduceBEq, ↓reduceIte, UInt8.reduceToNat, UInt16.reduceToNat, UInt32.reduceToNat, UInt64.reduceToNat, Int.reduceToNat]))
      refine Ow.callFV rfl Tryz.call137 (fun w' hw' => RErr_spec b s a 0 w' (hw'.has _ _ List.mem_cons_self)) ?_
      refine ko uW7_1 ?_
      repeat ((try with_reducible refine Cw.go [999999] ?_); (simp (disch := (first | assumption | omega | (simp only [lenS, lenT, UInt64.reduceToNat]; try omega))) only [↓Sx.S0, Sx.S1, Tryz.fx, uW7_1, Nat.reduceAdd, Nat.reducePow, Int.reducePow, Nat.reduceBEq, ↓reduceIte, UInt8.reduceToNat, UInt16.reduceToNat, UInt32.reduceToNat, UInt64.reduceToNat, Int.reduceToNat]))
      repeat ((try with_reducible refine Cw.go [999999] ?_); (simp (disch := (first | assumption | omega | (simp only [lenS, lenT, UInt64.reduceToNat]; try omega))) only [↓Sx.S0, Sx.S1, Tryz.fx, uW7_1, Nat.reduceAdd, Nat.reducePow, Int.reducePow, Nat.reduceBEq, ↓reduceIte, UInt8.reduceToNat, UInt16.reduceToNat, UInt32.reduceToNat, UInt64.reduceToNat, Int.reduceToNat]))
      refine Cw.regionS [b] [0, 1, 2, 4, 3, 5] [] (by kernel_rfl) (by kernel_rfl) (by kernel_rfl) ?_
      simp only [nl_cons, ↓pickL_nil, ↓pickL_cons, ↓nthO_0, ↓nthO_s, consO_some]
      refine kq uW7_1 ?_
      try with_reducible refine Ow.nil ?_
      repeat ((try with_reducible refine Cw.go [999999] ?_); (simp (disch := (first | assumption | omega | (simp only [lenS, lenT, UInt64.reduceToNat]; try omega))) only [↓Sx.S0, Sx.S1, Tryz.fx, uW7_1, Nat.reduceAdd, Nat.reducePow, Int.reducePow, Nat.reduceBEq, ↓reduceIte, UInt8.reduceToNat, UInt16.reduceToNat, UInt32.reduceToNat, UInt64.reduceToNat, Int.reduceToNat]))
      refine Cw.label ?_
      refine key0 _ ⟨by omega, rfl, by omega, by omega⟩ ?_
      rfl
  · refine Cw.scopeS ?_
    first | with_reducible refine ks [] uW7_1 ?_ | refine kp uW7_1 ?_
    refine Ow.callFV rfl Tryz.call137 (fun w' hw' => RErr_spec b s a e w' (hw'.has _ _ List.mem_cons_self)) ?_
    refine ko uW7_1 ?_
    first | with_reducible refine ks [] uW7_1 ?_ | refine kp uW7_1 ?_
    unfold numR
    refine ⟨_, _, _, (ke uW7_1), rfl, trivial, ?_⟩
    simp [he, tupV]
end Go.Proofs
end
namespace Go.Sx
open Go
section
variable {P : Program} {w0 : World} {f : Fr} {L : Heap} {N : Fr → Heap → Prop} {ops : Array Oper} {rest : List Oper} {md : Md}
  {d : Option Tmp} {ty : TypeId} {ps : String} {af : Array Edge} {g : Option (Nat × Bool)}

theorem firstCells_text (l : List UInt8) (k size : Nat) (w : World) : (Builtin.firstCells size k (vs l)).run P w = .ok ((l.take k).map v8).toArray w := by
  simp only [vs, Builtin.firstCells]
  show Result.ok _ w = _
  congr 1
  have : ((ByteArray.mk l.toArray).extract 0 k).data = (l.take k).toArray := by
    rw [ByteArray.data_extract]
    simp
  rw [this]
  simp
  rfl

theorem rdIn_v8 (R : List Nat) (x : UInt8) : rdIn R (v8 x) = true := (rfl)
theorem rdIn_v16 (R : List Nat) (x : UInt16) : rdIn R (v16 x) = true := (rfl)
theorem rdIn_v32 (R : List Nat) (x : UInt32) : rdIn R (v32 x) = true := (rfl)
theorem rdIn_v64 (R : List Nat) (x : UInt64) : rdIn R (v64 x) = true := (rfl)
theorem rdIn_vi (R : List Nat) (x : Int) : rdIn R (vi x) = true := (rfl)
/-- A text is copied into a block. -/
theorem Ow.copyText {td tx e : TypeId} {m : Bool × Nat} {x y : Operand} {b off n c : Nat} {l : List UInt8} {cs : Array Value} {E : TypeId} {md' : Md} (he : md.turn = some md')
    (hs : skipped ops f ⟨d, .call ⟨.builtin .copy, #[x, y], #[td, tx]⟩, ty, ps, af, g⟩ = false) (hu : P.underlying td = some (.slice e)) (hm : aggT P e = some m)
    (hx : ev f x = vsl b off n c) (hy : ev f y = vs l) (hl : look L b = some (.cells cs E (0, 0))) (hn : off + n ≤ cs.size)
    (hO : Ow P w0 ops md' rest (putF f d (vi (min l.length n : Nat))) (setB L b (.cells (putC cs off ((l.take (min l.length n)).map v8)) E (0, 0))) N) :
    Ow P w0 ops md (⟨d, .call ⟨.builtin .copy, #[x, y], #[td, tx]⟩, ty, ps, af, g⟩ :: rest) f L N := by
  refine Ow.step he rfl hs fun w hw => ?_
  have hb := hw.has _ _ (look_mem hl)
  have hlt := (Array.getElem?_eq_some_iff.1 hb).1
  have hlen : (Builtin.lenOf (vs l)).run P w = .ok l.length w := by simp only [vs, Builtin.lenOf, size_mk]; rfl
  have hfc := firstCells_text (P := P) l (min l.length n) m.2 w
  have hst := run_storeCells (P := P) (b := b) (off := off) (E := E) (fz := (0, 0)) ((l.take (min l.length n)).map v8) 0 cs w hb (by
    rw [List.length_map, List.length_take]; have := Nat.min_le_right l.length n; omega) (.inl (Nat.le_refl 0)) (by rw [List.all_map, List.all_eq_true]; intro x _; rfl)
  refine .inl ⟨vi (min l.length n : Nat), { w with heap := w.heap.setIfInBounds b (.cells (putC cs off ((l.take (min l.length n)).map v8)) E (0, 0)) }, _, ?_, hw.set (key_of_look hl) rfl rfl rfl rfl, hO⟩
  simp only [execOp, resolve, Sem.run_bind, Sem.run_pure, Result.andThen_ok, invoke, builtin, List.map_toArray, List.map_cons, List.map_nil, hx, hy]
  have : (Builtin.copy_ #[td, tx] ty #[vsl b off n c, vs l]).run P w = .ok (vi (min l.length n : Nat)) { w with heap := w.heap.setIfInBounds b (.cells (putC cs off ((l.take (min l.length n)).map v8)) E (0, 0)) } := by
    simp only [Builtin.copy_, vsl, List.getElem?_toArray, List.getElem?_cons_zero, List.getElem?_cons_succ, Sem.run_bind, run_underlying hu w, Result.andThen_ok, hlen, run_sizeOf hm w]
    rw [show l.length.min n = min l.length n from rfl, hfc]
    simp only [Result.andThen_ok]
    rw [hst]
    rfl
  rw [this]
  rfl
end
end Go.Sx
section
open Go Go.Proofs Go.Sx
namespace Go.Proofs
set_option maxRecDepth 10000
set_option maxHeartbeats 2000000
set_option linter.unusedSimpArgs false
set_option linter.defProp false
def uW8_1 := And.intro (And.intro (And.intro (@load_rd0) (@load_rd1)) (And.intro (@load_rd2) (@store_rd1))) (And.intro (And.intro (@store_rd2) (@nilR)) (And.intro (@nilR') (And.intro (@nnilR) (@nnilR'))))
theorem numGo_le (most : Int) : ∀ (l : List UInt8) (k n m k' : Nat), numGo most l k n = .ok (m, k') → k < k' ∧ k' ≤ k + l.length
  | [], k, n, m, k', h => by cases h
  | c :: r, k, n, m, k', h => by
    unfold numGo at h
    split at h
    · split at h
      · cases h
      · have := numGo_le most r (k + 1) _ m k' h
        simp only [List.length_cons]; omega
    · split at h
      · cases h
      · split at h
        · cases h; simp only [List.length_cons]; omega
        · cases h
theorem numR_le {s : List UInt8} {a : Nat} {e most : Int} (ha : a ≤ s.length) : a ≤ (numR s a e most).2.1 ∧ (numR s a e most).2.1 ≤ s.length := by
  unfold numR
  split
  · exact ⟨Nat.le_refl _, ha⟩
  · cases h : numGo most (s.drop a) 0 0 with
    | error x => exact ⟨Nat.le_refl _, ha⟩
    | ok p =>
      obtain ⟨n, k⟩ := p
      have := numGo_le most _ _ _ _ _ h
      rw [List.length_drop] at this
      exact ⟨by show a ≤ a + k; omega, by show a + k ≤ s.length; omega⟩
theorem rawR_le {s : List UInt8} {a : Nat} {e n : Int} (ha : a ≤ s.length) : a ≤ (rawR s a e n).2.1 ∧ (rawR s a e n).2.1 ≤ s.length := by
  unfold rawR
  split
  · exact ⟨Nat.le_refl _, ha⟩
  · split
    · exact ⟨Nat.le_refl _, ha⟩
    · split
      · exact ⟨Nat.le_refl _, ha⟩
      · exact ⟨by show a ≤ a + n.toNat; omega, by show a + n.toNat ≤ s.length; omega⟩
/-- A text: what is read, where the reader stands then, its error. -/
def textR (s : List UInt8) (a : Nat) (e most : Int) : List UInt8 × Nat × Int :=
  let p := numR s a e most
  let q := rawR s p.2.1 p.2.2 p.1
  if q.2.2 ≠ 0 then ([], a, q.2.2) else q
theorem RText_spec (b : Nat) (s : List UInt8) (a : Nat) (e most : Int) (w : World) (ha : a ≤ s.length) (hs : s.length < 9223372036854775808) (ho : w.heap[b]? = some (.cells #[vs s, vi a, vi e] 212 (0, 0))) :
    Rets Tryz.prog 96 #[vp b 0, vi most] w (fun v D => ∃ o, D = [(b, o)] ∧ v = vs (textR s a e most).1 ∧ o = .cells #[vs s, vi (textR s a e most).2.1, vi (textR s a e most).2.2] 212 (0, 0)) := by
  refine Rets.enterM Tryz.func96 rfl (rs := [.tmp 4]) Tryz.results96 Tryz.ntmps96 ho ?_
  refine kf ?_
  first | with_reducible refine ks [] uW8_1 ?_ | refine kp uW8_1 ?_
  refine Ow.callFV rfl Tryz.call138 (fun w' hw' => RAt_spec b s a e w' (hw'.has _ _ List.mem_cons_self)) ?_
  refine ko uW8_1 ?_
  first | with_reducible refine ks [] uW8_1 ?_ | refine kp uW8_1 ?_
  have hp := numR_le (e := e) (most := most) ha
  unfold textR
  refine Ow.callM rfl rfl Tryz.call95 (by simp [keys]) (fun w' hw' => RNumber_spec b s a e most w' ha hs (hw'.has _ _ List.mem_cons_self)) ?_
  generalize numR s a e most = p at *
  obtain ⟨n, a1, e1⟩ := p
  simp only at hp ⊢
  refine ko uW8_1 ?_
  refine Ow.callM rfl rfl Tryz.call94 (by simp [keys]) (fun w' hw' => RRaw_spec b s a1 e1 n w' hp.2 hs (hw'.has _ _ List.mem_cons_self)) ?_
  have hq := rawR_le (e := e1) (n := n) hp.2
  generalize rawR s a1 e1 n = q at *
  obtain ⟨t, a2, e2⟩ := q
  simp only at hq ⊢
  refine ko uW8_1 ?_
  first | with_reducible refine ks [] uW8_1 ?_ | refine kp uW8_1 ?_
  by_cases he : e2 = 0
  · first | with_reducible refine ks [] uW8_1 ?_ | refine kp uW8_1 ?_
    refine ⟨_, _, _, (ke uW8_1), rfl, trivial, ?_⟩
    simp [he, tupV]
  · first | with_reducible refine ks [] uW8_1 ?_ | refine kp uW8_1 ?_
    refine Ow.minI rfl rfl rfl ?_
    have hmin : (if (a : Int) < (a2 : Int) then (a : Int) else (a2 : Int)) = a := by split <;> omega
    rw [hmin]
    refine ko uW8_1 ?_
    first | with_reducible refine ks [] uW8_1 ?_ | refine kp uW8_1 ?_
    refine ⟨_, _, _, (ke uW8_1), rfl, trivial, ?_⟩
    simp [he, tupV]
def z32 : List UInt8 := List.replicate 32 0
/-- An id. -/
def idR (s : List UInt8) (a : Nat) (e : Int) : List UInt8 × Nat × Int :=
  let q := rawR s a e 32
  (if q.1.length = 32 then q.1 else z32, q.2)
theorem rawR_len {s : List UInt8} {a : Nat} {e : Int} (_ha : a ≤ s.length) : (rawR s a e 32).1 = [] ∨ (rawR s a e 32).1.length = 32 := by
  unfold rawR
  split
  · exact .inl rfl
  · split
    · exact .inl rfl
    · split
      · exact .inl rfl
      · right
        show ((s.drop a).take 32).length = 32
        rw [List.length_take, List.length_drop]; omega
theorem copy_id {t : List UInt8} (h : t = [] ∨ t.length = 32) : putC (a8 (List.replicate 32 0)) 0 ((t.take (min t.length 32)).map v8) = a8 (if t.length = 32 then t else z32) := by
  rcases h with rfl | h
  · rfl
  · rw [if_pos h, h, Nat.min_self, List.take_of_length_le (by omega)]
    have := putC_app (t.map v8) [] ((List.replicate 32 (0 : UInt8)).map v8) (by simp [h])
    simp only [List.nil_append, List.length_nil] at this
    show putC ((List.replicate 32 (0 : UInt8)).map v8).toArray 0 (t.map v8) = (t.map v8).toArray
    rw [this]
    rw [List.drop_eq_nil_of_le (by simp [h]), List.append_nil]
theorem RId_spec (b : Nat) (s : List UInt8) (a : Nat) (e : Int) (w : World) (ha : a ≤ s.length) (hs : s.length < 9223372036854775808) (ho : w.heap[b]? = some (.cells #[vs s, vi a, vi e] 212 (0, 0))) :
    Rets Tryz.prog 97 #[vp b 0] w (fun v D => ∃ o, D = [(b, o)] ∧ v = .agg (a8 (idR s a e).1) ∧ o = .cells #[vs s, vi (idR s a e).2.1, vi (idR s a e).2.2] 212 (0, 0)) := by
  have hbl := (Array.getElem?_eq_some_iff.1 ho).1
  have hq := rawR_len (e := e) ha
  unfold idR
  refine Rets.enterM Tryz.func97 rfl (rs := [.cell 2 37]) Tryz.results97 Tryz.ntmps97 ho ?_
  refine kf ?_
  first | with_reducible refine ks [] uW8_1 ?_ | refine kp uW8_1 ?_
  refine Ow.alloc rfl rfl Tryz.zr37 fun b2 hb2 hw2 => ?_
  refine ko uW8_1 ?_
  first | with_reducible refine ks [] uW8_1 ?_ | refine kp uW8_1 ?_
  refine Ow.alloc rfl rfl Tryz.zr37 fun b3 hb3 hw3 => ?_
  obtain ⟨h13, h23, -⟩ := hb3
  obtain ⟨h12, -⟩ := hb2
  refine ko uW8_1 ?_
  first | with_reducible refine ks [] uW8_1 ?_ | refine kp uW8_1 ?_
  refine Cw.regionS [] [0, 1, 2, 3] [] (by kernel_rfl) (by kernel_rfl) (by kernel_rfl) ?_
  simp only [nl_cons, ↓pickL_nil, ↓pickL_cons, ↓nthO_0, ↓nthO_s, consO_some]
  refine kq uW8_1 ?_
  refine Ow.soft rfl rfl rfl ?_
  refine Ow.callM rfl rfl Tryz.call94 (by simp [keys]) (fun w' hw' => RRaw_spec b s a e 32 w' ha hs (hw'.has _ _ List.mem_cons_self)) ?_
  generalize rawR s a e 32 = q at *
  obtain ⟨t, a2, e2⟩ := q
  simp only at hq ⊢
  try with_reducible refine Ow.nil ?_
  refine ⟨fun b hb => absurd hb (by simp), ?_⟩
  simp (disch := omega) only [setB_same]
  refine Ow.soft rfl rfl rfl ?_
  refine Ow.copyText (cs := a8 (List.replicate 32 0)) (E := 37) (e := 5) rfl rfl Tryz.underlying119 Tryz.ag5 rfl rfl (by simp (disch := omega) only [look_other, look_same]) (by rw [size_a8]; simp) ?_
  rw [copy_id hq]
  have hil : (if t.length = 32 then t else z32).length = 32 := by
    split
    · assumption
    · simp [z32]
  generalize (if t.length = 32 then t else z32) = id at *
  try with_reducible refine Ow.nil ?_
  refine ⟨fun b hb => absurd hb (by simp), ?_⟩
  simp (disch := omega) only [setB_same, setB_other]
  refine kq uW8_1 ?_
  try with_reducible refine Ow.nil ?_
  first | with_reducible refine ks [] uW8_1 ?_ | refine kp uW8_1 ?_
  refine ⟨_, _, _, (ke uW8_1), rfl, ⟨hw2, hw3, trivial⟩, ?_⟩
  exact ⟨rfl, rfl⟩
theorem RNew_spec (s : List UInt8) (w : World) :
    Rets Tryz.prog 71 #[vs s] w (fun v D => ∃ b, w.heap.size ≤ b ∧ v = vp b 0 ∧ D = [(b, .cells #[vs s, vi 0, vi 0] 212 (0, 0))]) := by
  refine Rets.enter Tryz.func71 rfl (rs := [.tmp 2]) Tryz.results71 Tryz.ntmps71 ?_
  refine kf ?_
  first | with_reducible refine ks [] uW8_1 ?_ | refine kp uW8_1 ?_
  refine Ow.build (.agg #[vs s, vi 0, vi 0]) rfl (by kernel_rfl) ?_
  refine ko uW8_1 ?_
  refine Ow.box rfl rfl fun b1 hb1 hw1 => ?_
  refine ko uW8_1 ?_
  first | with_reducible refine ks [] uW8_1 ?_ | refine kp uW8_1 ?_
  refine ⟨_, (by simp only [resVs_cons, resVs_nil, resV_tmp, getF_0, getF_s, cons2_some]; rfl), b1, hw1, rfl, ?_⟩
  rfl
end Go.Proofs
end
section
open Go Go.Proofs Go.Sx
namespace Go.Proofs
set_option maxRecDepth 10000
set_option maxHeartbeats 4000000
set_option linter.unusedSimpArgs false
/-! ### The document's reader -/
set_option linter.defProp false
def uW9_1 := And.intro (And.intro (And.intro (@rdIn_v8) (@rdIn_v16)) (And.intro (@rdIn_v32) (And.intro (@rdIn_v64) (@rdIn_vi)))) (And.intro (And.intro (@load_rd0) (@load_rd1)) (And.intro (@load_rd2) (And.intro (@store_rd1) (@store_rd2))))
theorem refRaw_spec (b : Nat) (s : List UInt8) (a : Nat) (e n : Int) (w : World) (ha : a ≤ s.length) (hs : s.length < 1099511627776) (ho : w.heap[b]? = some (.cells #[vs s, vi a, vi e] 166 (0, 0))) :
    Rets Tryz.prog 100 #[vp b 0, vi n] w (fun v D => ∃ o, D = [(b, o)] ∧ v = vs (rawR s a e n).1 ∧ o = .cells #[vs s, vi (rawR s a e n).2.1, vi (rawR s a e n).2.2] 166 (0, 0)) := by
  refine Rets.enterM Tryz.func100 rfl (rs := [.tmp 4]) Tryz.results100 Tryz.ntmps100 ho ?_
  refine kf ?_
  first | with_reducible refine ks [] uW9_1 ?_ | refine kp uW9_1 ?_
  unfold rawR
  by_cases he : e = 0
  · subst he
    rw [if_neg (fun h => h rfl)]
    first | with_reducible refine ks [] uW9_1 ?_ | refine kp uW9_1 ?_
    by_cases hn : n < 0
    · rw [if_pos hn]
      first | with_reducible refine ks [] uW9_1 ?_ | refine kp uW9_1 ?_
      refine ⟨_, _, _, (ke uW9_1), rfl, trivial, ?_⟩
      exact ⟨rfl, rfl⟩
    · rw [if_neg hn]
      first | with_reducible refine ks [] uW9_1 ?_ | refine kp uW9_1 ?_
      refine Cw.regionS [b] [0, 1, 2, 5, 6, 7, 10, 3, 4, 8, 9, 11] [] (by kernel_rfl) (by kernel_rfl) (by kernel_rfl) ?_
      simp only [nl_cons, ↓pickL_nil, ↓pickL_cons, ↓nthO_0, ↓nthO_s, consO_some]
      refine kq uW9_1 ?_
      try with_reducible refine Ow.nil ?_
      first | with_reducible refine ks [] uW9_1 ?_ | refine kp uW9_1 ?_
      by_cases hl : (s.length : Int) - a < n
      · rw [if_pos hl]
        first | with_reducible refine ks [] uW9_1 ?_ | refine kp uW9_1 ?_
        refine ⟨_, _, _, (ke uW9_1), rfl, trivial, ?_⟩
        exact ⟨rfl, rfl⟩
      · rw [if_neg hl]
        obtain ⟨m, rfl⟩ : ∃ m : Nat, n = (m : Int) := ⟨n.toNat, by omega⟩
        first | with_reducible refine ks [] uW9_1 ?_ | refine kp uW9_1 ?_
        refine Cw.regionS [b] [0, 1, 2, 4, 5, 6, 8, 9, 10, 12, 3, 7, 11, 13, 14, 15] [] (by kernel_rfl) (by kernel_rfl) (by kernel_rfl) ?_
        simp only [nl_cons, ↓pickL_nil, ↓pickL_cons, ↓nthO_0, ↓nthO_s, consO_some]
        refine kq uW9_1 ?_
        try with_reducible refine Ow.nil ?_
        first | with_reducible refine ks [] uW9_1 ?_ | refine kp uW9_1 ?_
        refine ⟨_, _, _, (ke uW9_1), rfl, trivial, ?_⟩
        refine ⟨?_, ?_⟩
        · simp only [tupV, Int.toNat_natCast]
          rw [List.drop_take, Nat.add_sub_cancel_left]
        · rw [Int.toNat_natCast, Int.natCast_add]
  · rw [if_pos he]
    first | with_reducible refine ks [] uW9_1 ?_ | refine kp uW9_1 ?_
    refine ⟨_, _, _, (ke uW9_1), rfl, trivial, ?_⟩
    exact ⟨rfl, rfl⟩
theorem refEnd_spec (b : Nat) (s : List UInt8) (a e : Int) (w : World) (ho : w.heap[b]? = some (.cells #[vs s, vi a, vi e] 166 (0, 0))) :
    Rets Tryz.prog 102 #[vp b 0] w (fun v D => v = vi (if e ≠ 0 then e else if a < s.length then 5 else 0) ∧ D = []) := by
  refine Rets.enterV Tryz.func102 rfl (rs := [.tmp 2]) Tryz.results102 Tryz.ntmps102 ?_
  refine kf ?_
  first | with_reducible refine ks [] (And.intro uW9_1 @ho) ?_ | refine kp (And.intro uW9_1 @ho) ?_
  by_cases he : e = 0
  · first | with_reducible refine ks [] uW9_1 ?_ | refine kp uW9_1 ?_
    refine Cw.regionS [b] [0, 1, 2, 4, 5, 6, 3, 7, 8, 9] [] (by kernel_rfl) (by kernel_rfl) (by kernel_rfl) ?_
    simp only [nl_cons, ↓pickL_nil, ↓pickL_cons, ↓nthO_0, ↓nthO_s, consO_some]
    refine kq (And.intro uW9_1 @ho) ?_
    try with_reducible refine Ow.nil ?_
    first | with_reducible refine ks [] uW9_1 ?_ | refine kp uW9_1 ?_
    refine cdC.splitp (fun hc => ?_) (fun hc => ?_)
    · first | with_reducible refine ks [] uW9_1 ?_ | refine kp uW9_1 ?_
      refine ⟨_, (ke uW9_1), trivial, ?_⟩
      simp [hc, he, tupV]
    · first | with_reducible refine ks [] uW9_1 ?_ | refine kp uW9_1 ?_
      refine ⟨_, (ke uW9_1), trivial, ?_⟩
      simp [hc, he, tupV]
  · first | with_reducible refine ks [] (And.intro uW9_1 @ho) ?_ | refine kp (And.intro uW9_1 @ho) ?_
    refine ⟨_, (ke uW9_1), trivial, ?_⟩
    simp [he, tupV]
structure KN where
  k : Nat
  n : Nat
theorem refNumber_spec (b : Nat) (s : List UInt8) (a : Nat) (e most : Int) (w : World) (ha : a ≤ s.length) (hs : s.length < 1099511627776) (ho : w.heap[b]? = some (.cells #[vs s, vi a, vi e] 166 (0, 0))) :
    Rets Tryz.prog 98 #[vp b 0, vi most] w (fun v D => ∃ o, D = [(b, o)] ∧ v = vi (numR s a e most).1 ∧ o = .cells #[vs s, vi (numR s a e most).2.1, vi (numR s a e most).2.2] 166 (0, 0)) := by
  refine Rets.enterM Tryz.func98 rfl (rs := [.tmp 4]) Tryz.results98 Tryz.ntmps98 ho ?_
  refine kf ?_
  first | with_reducible refine ks [] uW9_1 ?_ | refine kp uW9_1 ?_
  by_cases he : e = 0
  · subst he
    first | with_reducible refine ks [] uW9_1 ?_ | refine kp uW9_1 ?_
    refine Cw.loopG (G := KN) [14, 15, 18, 19, 20, 21, 22, 23, 24, 25, 26, 27, 28, 29, 30, 31, 32, 4, 33, 34, 35, 36, 37, 38, 39, 40, 41, 42, 43, 44, 8, 45, 46, 47, 48, 49, 50, 5, 51, 52, 6, 53, 54, 55, 56, 57, 58, 59, 60, 61, 62, 63, 64, 65, 66, 67, 68, 69, 70, 71, 72, 73, 74, 75, 76, 77, 78, 79, 80, 81, 82, 83, 84, 16, 17, 7] (fun g => [(5, vi g.n), (6, vi (128 ^ g.k : Nat)), (7, vi g.k)]) (fun g => [(b, .cells #[vs s, vi a, vi 0] 166 (0, 0))]) (fun g => g.k ≤ 6 ∧ (g.k < 6 → numGo most (s.drop a) 0 0 = numGo most (s.drop (a + g.k)) g.k g.n ∧ a + g.k ≤ s.length ∧ g.n < 128 ^ g.k) ∧ (g.k = 6 → numGo most (s.drop a) 0 0 = .error 4)) (fun g => 6 - g.k) ⟨0, 0⟩ rfl rfl ?_ ?_
    · exact ⟨by simp, fun _ => ⟨rfl, by simpa using ha, by simp⟩, fun h => by cases h⟩
    intro g j hg
    refine kv ?_
    obtain ⟨k, n⟩ := g
    simp only at hg ⊢
    obtain ⟨hk6, hg1, hg2⟩ := hg
    by_cases hk : k < 6
    · obtain ⟨hgo, hak, hn⟩ := hg1 hk
      first | with_reducible refine ks [] uW9_1 ?_ | refine kp uW9_1 ?_
      refine Cw.regionS [b] [0, 1, 2, 4, 6, 7, 8, 3, 5, 9, 10, 11] [] (by kernel_rfl) (by kernel_rfl) (by kernel_rfl) ?_
      simp only [nl_cons, ↓pickL_nil, ↓pickL_cons, ↓nthO_0, ↓nthO_s, consO_some]
      refine kq uW9_1 ?_
      try with_reducible refine Ow.nil ?_
      first | with_reducible refine ks [] uW9_1 ?_ | refine kp uW9_1 ?_
      by_cases hend : a + k = s.length
      · first | with_reducible refine ks [] uW9_1 ?_ | refine kp uW9_1 ?_
        rw [numR_err (x := 3) rfl (by rw [hgo, hend, List.drop_length]; rfl)]
        refine ⟨_, _, _, (ke uW9_1), rfl, trivial, ?_⟩
        exact ⟨rfl, rfl⟩
      · have hak' : a + k < s.length := by omega
        have hdrop : s.drop (a + k) = s.getD (a + k) 0 :: s.drop (a + k + 1) := by
          rw [List.drop_eq_getElem_cons hak', List.getD_eq_getElem?_getD, List.getElem?_eq_getElem hak']; rfl
        rw [hdrop] at hgo
        first | with_reducible refine ks [] uW9_1 ?_ | refine kp uW9_1 ?_
        refine Cw.regionS [b] [0, 1, 2, 4, 5, 6, 8, 3, 7, 9, 10, 11, 12] [] (by kernel_rfl) (by kernel_rfl) (by kernel_rfl) ?_
        simp only [nl_cons, ↓pickL_nil, ↓pickL_cons, ↓nthO_0, ↓nthO_s, consO_some]
        have hcast : ((a : Int) + (k : Int)) = ((a + k : Nat) : Int) := by omega
        refine kq (And.intro uW9_1 @hcast) ?_
        try with_reducible refine Ow.nil ?_
        generalize s.getD (a + k) 0 = c at *
        have hp : 128 ^ k ≤ 34359738368 := Nat.pow_le_pow_right (by omega) (show k ≤ 5 by omega)
        have hp0 : 0 < 128 ^ k := Nat.pow_pos (by omega)
        have hcl := c.toNat_lt
        have hdm : c.toNat % 128 * 128 ^ k ≤ 127 * 128 ^ k := Nat.mul_le_mul_right _ (by omega)
        have hcm : ((c.toNat : Int) % 128) = ((c.toNat % 128 : Nat) : Int) := by omega
        have hmul : binV .mul (vi ((c.toNat % 128 : Nat) : Int)) (vi ((128 ^ k : Nat) : Int)) = some (vi ((c.toNat % 128 * 128 ^ k : Nat) : Int)) := by
          rw [bin_mul_i _ _ (by rw [← Int.natCast_mul]; omega), ← Int.natCast_mul]
        have hpow : (((128 ^ k : Nat) : Int) * 128) = ((128 ^ (k + 1) : Nat) : Int) := by rw [Nat.pow_succ, Int.natCast_mul]; rfl
        have hlt : n + c.toNat % 128 * 128 ^ k < 128 ^ (k + 1) := by rw [Nat.pow_succ]; omega
        first | with_reducible refine ks [] (And.intro uW9_1 ( And.intro @hcm ( And.intro @hmul (@hpow)))) ?_ | refine kp (And.intro uW9_1 ( And.intro @hcm ( And.intro @hmul (@hpow)))) ?_
        rw [show ((n : Int) + ((c.toNat % 128 * 128 ^ k : Nat) : Int)) = ((n + c.toNat % 128 * 128 ^ k : Nat) : Int) from (Int.natCast_add _ _).symm]
        by_cases hc128 : 128 ≤ c.toNat
        · first | with_reducible refine ks [] uW9_1 ?_ | refine kp uW9_1 ?_
          refine Again.mk (KN.mk (k + 1) (n + c.toNat % 128 * 128 ^ k)) (by show 6 - (k + 1) < 6 - k; omega) ⟨by show k + 1 ≤ 6; omega, fun h => ⟨?_, by show a + (k + 1) ≤ s.length; omega, hlt⟩, fun h => ?_⟩ rfl rfl
          · show numGo most (s.drop a) 0 0 = numGo most (s.drop (a + (k + 1))) (k + 1) (n + c.toNat % 128 * 128 ^ k)
            have h' : k + 1 < 6 := h
            rw [hgo, numGo, if_pos hc128, if_neg (by omega)]
            rfl
          · have h' : k + 1 = 6 := h
            rw [hgo, numGo, if_pos hc128, if_pos h']
        · by_cases hz : c.toNat = 0
          · have e0 : ((c.toNat : Int) == 0) = true := by simp [hz]
            first | with_reducible refine ks [] (And.intro uW9_1 @e0) ?_ | refine kp (And.intro uW9_1 @e0) ?_
            by_cases hk0 : 0 < k
            · first | with_reducible refine ks [] uW9_1 ?_ | refine kp uW9_1 ?_
              rw [numR_err (x := 2) rfl (by rw [hgo, numGo, if_neg hc128, if_pos ⟨hz, hk0⟩])]
              refine ⟨_, _, _, (ke uW9_1), rfl, trivial, ?_⟩
              exact ⟨rfl, rfl⟩
            · have hc0 : ¬ (c.toNat = 0 ∧ 0 < k) := fun h => hk0 h.2
              first | with_reducible refine ks [] uW9_1 ?_ | refine kp uW9_1 ?_
              by_cases hm : n + c.toNat % 128 * 128 ^ k ≤ 1099511627775
              · have e1 : decide ((1099511627775 : Int) < ((n + c.toNat % 128 * 128 ^ k : Nat) : Int)) = false := decide_eq_false (by omega)
                first | with_reducible refine ks [] (And.intro uW9_1 @e1) ?_ | refine kp (And.intro uW9_1 @e1) ?_
                by_cases hmo : ((n + c.toNat % 128 * 128 ^ k : Nat) : Int) ≤ most
                · first | with_reducible refine ks [] uW9_1 ?_ | refine kp uW9_1 ?_
                  rw [numR_ok rfl (by rw [hgo, numGo, if_neg hc128, if_neg hc0, if_pos ⟨hm, hmo⟩])]
                  refine ⟨_, _, _, (ke uW9_1), rfl, trivial, ?_⟩
                  exact ⟨rfl, rfl⟩
                · first | with_reducible refine ks [] uW9_1 ?_ | refine kp uW9_1 ?_
                  rw [numR_err (x := 4) rfl (by rw [hgo, numGo, if_neg hc128, if_neg hc0, if_neg (fun h => hmo h.2)])]
                  refine ⟨_, _, _, (ke uW9_1), rfl, trivial, ?_⟩
                  exact ⟨rfl, rfl⟩
              · have e1 : decide ((1099511627775 : Int) < ((n + c.toNat % 128 * 128 ^ k : Nat) : Int)) = true := decide_eq_true (by omega)
                first | with_reducible refine ks [] (And.intro uW9_1 @e1) ?_ | refine kp (And.intro uW9_1 @e1) ?_
                rw [numR_err (x := 4) rfl (by rw [hgo, numGo, if_neg hc128, if_neg hc0, if_neg (fun h => hm h.1)])]
                refine ⟨_, _, _, (ke uW9_1), rfl, trivial, ?_⟩
                exact ⟨rfl, rfl⟩
          · have e0 : ((c.toNat : Int) == 0) = false := by simp; omega
            have hc0 : ¬ (c.toNat = 0 ∧ 0 < k) := fun h => hz h.1
            first | with_reducible refine ks [] (And.intro uW9_1 @e0) ?_ | refine kp (And.intro uW9_1 @e0) ?_
            by_cases hm : n + c.toNat % 128 * 128 ^ k ≤ 1099511627775
            · have e1 : decide ((1099511627775 : Int) < ((n + c.toNat % 128 * 128 ^ k : Nat) : Int)) = false := decide_eq_false (by omega)
              first | with_reducible refine ks [] (And.intro uW9_1 @e1) ?_ | refine kp (And.intro uW9_1 @e1) ?_
              by_cases hmo : ((n + c.toNat % 128 * 128 ^ k : Nat) : Int) ≤ most
              · first | with_reducible refine ks [] uW9_1 ?_ | refine kp uW9_1 ?_
                rw [numR_ok rfl (by rw [hgo, numGo, if_neg hc128, if_neg hc0, if_pos ⟨hm, hmo⟩])]
                refine ⟨_, _, _, (ke uW9_1), rfl, trivial, ?_⟩
                exact ⟨rfl, rfl⟩
              · first | with_reducible refine ks [] uW9_1 ?_ | refine kp uW9_1 ?_
                rw [numR_err (x := 4) rfl (by rw [hgo, numGo, if_neg hc128, if_neg hc0, if_neg (fun h => hmo h.2)])]
                refine ⟨_, _, _, (ke uW9_1), rfl, trivial, ?_⟩
                exact ⟨rfl, rfl⟩
            · have e1 : decide ((1099511627775 : Int) < ((n + c.toNat % 128 * 128 ^ k : Nat) : Int)) = true := decide_eq_true (by omega)
              first | with_reducible refine ks [] (And.intro uW9_1 @e1) ?_ | refine kp (And.intro uW9_1 @e1) ?_
              rw [numR_err (x := 4) rfl (by rw [hgo, numGo, if_neg hc128, if_neg hc0, if_neg (fun h => hm h.1)])]
              refine ⟨_, _, _, (ke uW9_1), rfl, trivial, ?_⟩
              exact ⟨rfl, rfl⟩
    · have hke : k = 6 := by omega
      first | with_reducible refine ks [] uW9_1 ?_ | refine kp uW9_1 ?_
      rw [numR_err (x := 4) rfl (hg2 hke)]
      refine ⟨_, _, _, (ke uW9_1), rfl, trivial, ?_⟩
      exact ⟨rfl, rfl⟩
  · first | with_reducible refine ks [] uW9_1 ?_ | refine kp uW9_1 ?_
    unfold numR
    refine ⟨_, _, _, (ke uW9_1), rfl, trivial, ?_⟩
    simp [he, tupV]
end Go.Proofs
end
section
open Go Go.Proofs Go.Sx
namespace Go.Proofs
set_option maxRecDepth 10000
set_option maxHeartbeats 4000000
set_option linter.unusedSimpArgs false
set_option linter.defProp false
def uWA_1 := And.intro (And.intro (And.intro (@rdIn_v8) (@rdIn_v16)) (And.intro (@rdIn_v32) (And.intro (@rdIn_v64) (@rdIn_vi)))) (And.intro (And.intro (@load_rd0) (@load_rd1)) (And.intro (@load_rd2) (And.intro (@store_rd1) (@store_rd2))))
theorem refText_spec (b : Nat) (s : List UInt8) (a : Nat) (e most : Int) (w : World) (ha : a ≤ s.length) (hs : s.length < 1099511627776) (ho : w.heap[b]? = some (.cells #[vs s, vi a, vi e] 166 (0, 0))) :
    Rets Tryz.prog 99 #[vp b 0, vi most] w (fun v D => ∃ o, D = [(b, o)] ∧ v = vs (textR s a e most).1 ∧ o = .cells #[vs s, vi (textR s a e most).2.1, vi (textR s a e most).2.2] 166 (0, 0)) := by
  refine Rets.enterM Tryz.func99 rfl (rs := [.tmp 4]) Tryz.results99 Tryz.ntmps99 ho ?_
  refine kf ?_
  first | with_reducible refine ks [] uWA_1 ?_ | refine kp uWA_1 ?_
  by_cases he : e = 0
  · first | with_reducible refine ks [] uWA_1 ?_ | refine kp uWA_1 ?_
    have hp := numR_le (e := e) (most := most) ha
    unfold textR
    refine Ow.callM rfl rfl Tryz.call98 (by simp [keys]) (fun w' hw' => refNumber_spec b s a e most w' ha hs (hw'.has _ _ List.mem_cons_self)) ?_
    generalize numR s a e most = p at *
    obtain ⟨n, a1, e1⟩ := p
    simp only at hp ⊢
    refine ko uWA_1 ?_
    first | with_reducible refine ks [] uWA_1 ?_ | refine kp uWA_1 ?_
    refine Ow.callM rfl rfl Tryz.call100 (by simp [keys]) (fun w' hw' => refRaw_spec b s a1 e1 n w' hp.2 hs (hw'.has _ _ List.mem_cons_self)) ?_
    generalize rawR s a1 e1 n = q at *
    obtain ⟨t, a2, e2⟩ := q
    simp only
    refine ko uWA_1 ?_
    first | with_reducible refine ks [] uWA_1 ?_ | refine kp uWA_1 ?_
    by_cases he2 : e2 = 0
    · first | with_reducible refine ks [] uWA_1 ?_ | refine kp uWA_1 ?_
      refine ⟨_, _, _, (ke uWA_1), rfl, trivial, ?_⟩
      simp [he2, tupV]
    · first | with_reducible refine ks [] uWA_1 ?_ | refine kp uWA_1 ?_
      refine ⟨_, _, _, (ke uWA_1), rfl, trivial, ?_⟩
      simp [he2, tupV]
  · first | with_reducible refine ks [] uWA_1 ?_ | refine kp uWA_1 ?_
    have : textR s a e most = ([], a, e) := by
      unfold textR numR rawR
      simp [he]
    rw [this]
    refine ⟨_, _, _, (ke uWA_1), rfl, trivial, ?_⟩
    exact ⟨rfl, rfl⟩
def idPre (t : List UInt8) (g : Nat) : List UInt8 := t.take g ++ List.replicate (32 - g) 0
theorem idPre_len (t : List UInt8) (g : Nat) (h : g ≤ t.length) (h2 : t.length ≤ 32) : (idPre t g).length = 32 := by
  unfold idPre; rw [List.length_append, List.length_take, List.length_replicate]; omega
theorem idPre_succ (t : List UInt8) (g : Nat) (h : g < t.length) (h2 : t.length ≤ 32) : (idPre t g).set g (t.getD g 0) = idPre t (g + 1) := by
  unfold idPre
  have hl : (t.take g).length = g := by rw [List.length_take]; omega
  obtain ⟨m, hm⟩ : ∃ m, 32 - g = m + 1 := ⟨31 - g, by omega⟩
  rw [hm, List.replicate_succ, List.set_append_right _ _ (by omega), hl, Nat.sub_self, List.set_cons_zero, List.take_succ_eq_append_getElem h, List.getD_eq_getElem?_getD, List.getElem?_eq_getElem h, show 32 - (g + 1) = m by omega, List.append_assoc]
  rfl
theorem idPre_all (t : List UInt8) (h : t = [] ∨ t.length = 32) : idPre t t.length = (if t.length = 32 then t else z32) := by
  unfold idPre
  rcases h with rfl | h
  · rfl
  · rw [if_pos h, h, List.take_of_length_le (by omega)]; simp
theorem refId_spec (b : Nat) (s : List UInt8) (a : Nat) (e : Int) (w : World) (ha : a ≤ s.length) (hs : s.length < 1099511627776) (ho : w.heap[b]? = some (.cells #[vs s, vi a, vi e] 166 (0, 0))) :
    Rets Tryz.prog 101 #[vp b 0] w (fun v D => ∃ o, D = [(b, o)] ∧ v = .agg (a8 (idR s a e).1) ∧ o = .cells #[vs s, vi (idR s a e).2.1, vi (idR s a e).2.2] 166 (0, 0)) := by
  have hbl := (Array.getElem?_eq_some_iff.1 ho).1
  have hq := rawR_len (e := e) ha
  unfold idR
  refine Rets.enterM Tryz.func101 rfl (rs := [.cell 2 37]) Tryz.results101 Tryz.ntmps101 ho ?_
  refine kf ?_
  first | with_reducible refine ks [] uWA_1 ?_ | refine kp uWA_1 ?_
  refine Ow.alloc rfl rfl Tryz.zr37 fun b2 hb2 hw2 => ?_
  obtain ⟨h12, -⟩ := hb2
  refine ko uWA_1 ?_
  first | with_reducible refine ks [] uWA_1 ?_ | refine kp uWA_1 ?_
  refine Ow.callM rfl rfl Tryz.call100 (by simp [keys]) (fun w' hw' => refRaw_spec b s a e 32 w' ha hs (hw'.has _ _ List.mem_cons_self)) ?_
  generalize rawR s a e 32 = q at *
  obtain ⟨t, a2, e2⟩ := q
  simp only at hq ⊢
  have ht32 : t.length ≤ 32 := by rcases hq with rfl | h <;> simp_all
  refine ko uWA_1 ?_
  first | with_reducible refine ks [] uWA_1 ?_ | refine kp uWA_1 ?_
  refine Ow.alloc rfl rfl Tryz.zr37 fun b3 hb3 hw3 => ?_
  refine ko uWA_1 ?_
  obtain ⟨h13, h23, -⟩ := hb3
  rw [show a8 (List.replicate 32 0) = a8 (idPre t 0) from rfl]
  first | with_reducible refine ks [] uWA_1 ?_ | refine kp uWA_1 ?_
  refine Cw.loopG (G := Nat) [8, 9, 10, 11, 14, 15, 16, 17, 18, 12, 13, 5] (fun g => [(5, vi g)]) (fun g => [(b, .cells #[vs s, vi a2, vi e2] 166 (0, 0)), (b2, .cells (a8 z32) 37 (0, 0)), (b3, .cells (a8 (idPre t g)) 37 (0, 0))]) (fun g => g ≤ t.length) (fun g => t.length - g) 0 rfl rfl ?_ ?_
  · omega
  intro g j hg
  refine kv ?_
  by_cases hlt : g < t.length
  · have hil := idPre_len t g hg ht32
    first | with_reducible refine ks [] uWA_1 ?_ | refine kp uWA_1 ?_
    refine Again.mk (g + 1) (by omega) (by omega) ?_ rfl
    rw [idPre_succ t g hlt ht32]
  · obtain rfl : g = t.length := by omega
    rw [idPre_all t hq]
    have hil : (if t.length = 32 then t else z32).length = 32 := by
      split
      · assumption
      · simp [z32]
    have hz32 : z32.length = 32 := by simp [z32]
    generalize (if t.length = 32 then t else z32) = id at *
    first | with_reducible refine ks [] uWA_1 ?_ | refine kp uWA_1 ?_
    refine ⟨_, _, _, (ke uWA_1), rfl, ⟨hw2, hw3, trivial⟩, ?_⟩
    exact ⟨rfl, rfl⟩
end Go.Proofs
end
namespace Go.Sx
open Go
theorem ext_mid (A B C : List Value) {o n : Nat} (hA : A.length = o) (hB : B.length = n) : (A ++ (B ++ C)).toArray.extract o (o + n) = B.toArray := by
  subst hA; subst hB
  rw [List.extract_toArray, List.extract_eq_take_drop, List.drop_left, Nat.add_sub_cancel_left, List.take_left]
theorem get_mid (A C : List Value) (v : Value) {o : Nat} (hA : A.length = o) : (A ++ ([v] ++ C)).toArray[o]? = some v := by
  subst hA; simp
theorem get_midL (A C : List Value) (v : Value) {o : Nat} (hA : A.length = o) : (A ++ ([v] ++ C))[o]? = some v := by
  subst hA; simp
theorem part_agg (A B C : List Value) {o n : Nat} (hA : A.length = o) (hB : B.length = n) : partV (true, n) (A ++ (B ++ C)).toArray o = some (.agg B.toArray) := by
  show some (Value.agg _) = _
  rw [ext_mid A B C hA hB]
theorem part_one (A C : List Value) (v : Value) {o n : Nat} (hA : A.length = o) : partV (false, n) (A ++ ([v] ++ C)).toArray o = some v := get_mid A C v hA
theorem load_agg (A B C : List Value) {o n : Nat} (E : TypeId) (fz : Nat × Nat) (hA : A.length = o) (hB : B.length = n) : loadV (some (true, n)) (some (.cells (A ++ (B ++ C)).toArray E fz)) o = some (.agg B.toArray) := by
  have hs : o + n ≤ (A ++ (B ++ C)).toArray.size := by
    simp only [List.size_toArray, List.length_append]; omega
  unfold loadV
  simp only [hs, ↓reduceIte]
  rw [ext_mid A B C hA hB]
theorem load_one (A C : List Value) (v : Value) {o : Nat} (n : Nat) (E : TypeId) (fz : Nat × Nat) (hA : A.length = o) : loadV (some (false, n)) (some (.cells (A ++ ([v] ++ C)).toArray E fz)) o = some v := by
  rw [loadV_one]; exact get_mid A C v hA
theorem store_mid (A B B' C : List Value) {o n : Nat} (a : Bool) (x : Value) (E : TypeId) (hA : A.length = o) (hB : B.length = n) (hx : x.cells = B'.toArray) (hB' : B'.length = n) (ho : B'.all Value.oneCell' = true) :
    storeV (some (a, n)) (some (.cells (A ++ (B ++ C)).toArray E (0, 0))) o x = some (.cells (A ++ (B' ++ C)).toArray E (0, 0)) := by
  subst hA
  have hp := putC_eq B' A B C (by rw [hB, hB'])
  rw [List.append_assoc, List.append_assoc] at hp
  unfold storeV
  simp only [hx]
  rw [if_pos ⟨by rw [List.size_toArray, hB'], by simp only [List.size_toArray, List.length_append]; omega, .inl (Nat.le_refl 0), ho⟩, hp]
theorem store_whole (cs : List Value) {n : Nat} (a : Bool) (old : Array Value) (E : TypeId) (hn : cs.length = n) (ho : cs.all Value.oneCell' = true) (h : old.size = n) :
    storeV (some (a, n)) (some (.cells old E (0, 0))) 0 (.agg cs.toArray) = some (.cells cs.toArray E (0, 0)) :=
  store_all n a cs.toArray old E ⟨by rw [List.size_toArray, hn], h⟩ ho
theorem all_v8 (l : List UInt8) : (l.map v8).all Value.oneCell' = true := by
  rw [List.all_map]
  exact List.all_eq_true.2 fun x _ => rfl
/-- A part of an element of some cells. -/
theorem RowS.part {α : Type} {m : Nat} {enc : α → List Value} {z : α} {w : World} {v : Value} {l : List α} {b off : Nat} {arr : Array Value} {E : TypeId} {fz : Nat × Nat} (h : RowS m enc z w v l b off arr E fz) (hm : ∀ x, (enc x).length = m) {k o n : Nat} (hk : k < l.length) (ho : o + n ≤ m) (hn : 0 < n) :
    loadV (some (true, n)) (some (.cells arr E fz)) (off + k * m + o) = some (.agg ((enc (l.getD k z)).toArray.extract o (o + n))) := by
  have hg : ∀ i, i < n → arr[off + k * m + (o + i)]? = (enc (l.getD k z))[o + i]? := fun i hi => h.get k hk (o + i) (by omega)
  have hlen := hm (l.getD k z)
  have hsz : off + k * m + o + n ≤ arr.size := by
    have h1 := hg (n - 1) (by omega)
    rw [List.getElem?_eq_getElem (by omega)] at h1
    have := (Array.getElem?_eq_some_iff.1 h1).1
    omega
  unfold loadV
  simp only [hsz, ↓reduceIte]
  congr 2
  apply Array.ext_getElem?
  intro i
  by_cases hi : i < n
  · rw [Array.getElem?_extract, Array.getElem?_extract, if_pos (by omega), if_pos (by rw [List.size_toArray]; omega)]
    have hh := hg i hi
    rw [show off + k * m + (o + i) = off + k * m + o + i by omega] at hh
    rw [hh]
    exact (List.getElem?_toArray ..).symm
  · rw [Array.getElem?_eq_none (by rw [Array.size_extract]; omega), Array.getElem?_eq_none (by rw [Array.size_extract]; omega)]
end Go.Sx
namespace Go.Sx
open Go
theorem Cw.forget {P : Program} {w0 : World} {c : Code} {f : Fr} {L : Heap} {K : Kont} (M : Heap) (hM : ∀ p, p ∈ M → p ∈ L) (hn : (keys M).Nodup) (hnew : ∀ p, p ∈ L → p.1 ∉ keys M → w0.heap.size ≤ p.1)
    (h : Cw P w0 c f M K) : Cw P w0 c f L K := fun w hw => h w (hw.drop hM hn fun p hp hlt hk => by have := hnew p hp hk; omega)
end Go.Sx
namespace Go.Sx
open Go
/-- A slice of elements. -/
def SlV {α : Type} (m : Nat) (enc : α → List Value) (z : α) (w : World) (v : Value) (l : List α) : Prop :=
  ∃ b off c arr E fz, RowS m enc z w v l b off arr E fz ∧ l.length ≤ c ∧ ((v = .slice none 0 0 ∧ l = [] ∧ c = 0) ∨ (v = vsl b off l.length c ∧ w.heap[b]? = some (.cells arr E fz) ∧ off + l.length * m ≤ arr.size))
section
variable {α : Type} {m : Nat} {enc : α → List Value} {z : α} {w : World} {v : Value} {l : List α}
theorem RowS.sl' {b off n c : Nat} {arr : Array Value} {E : TypeId} {fz : Nat × Nat} (hn : n = l.length)
    (has : 0 < l.length → w.heap[b]? = some (.cells arr E fz)) (get : ∀ k, k < l.length → ∀ j, j < m → arr[off + k * m + j]? = (enc (l.getD k z))[j]?) : RowS m enc z w (vsl b off n c) l b off arr E fz := by
  subst hn
  exact ⟨fun x => rfl, fun a k hk => indexAddr_sl _ _ _ _ _ _ ⟨by omega, by omega⟩, has, get⟩
theorem SlV.nil (w : World) : SlV m enc z w (.slice none 0 0) [] := ⟨0, 0, 0, #[], 0, (0, 0), RowS.nil w 0 0 rfl, Nat.le_refl _, .inl ⟨rfl, rfl, rfl⟩⟩
theorem SlV.row (h : SlV m enc z w v l) : ∃ b off arr E fz, RowS m enc z w v l b off arr E fz := by
  obtain ⟨b, off, c, arr, E, fz, hr, -⟩ := h; exact ⟨b, off, arr, E, fz, hr⟩
theorem SlV.sl {b off c : Nat} {arr : Array Value} {E : TypeId} {fz : Nat × Nat} (has : w.heap[b]? = some (.cells arr E fz)) (get : ∀ k, k < l.length → ∀ j, j < m → arr[off + k * m + j]? = (enc (l.getD k z))[j]?) (hc : l.length ≤ c) (hs : off + l.length * m ≤ arr.size) : SlV m enc z w (vsl b off l.length c) l :=
  ⟨b, off, c, arr, E, fz, RowS.sl rfl has get, hc, .inr ⟨rfl, has, hs⟩⟩
theorem RowS.old {w' : World} {b off : Nat} {arr : Array Value} {E : TypeId} {fz : Nat × Nat} {L : Heap} (h : RowS m enc z w v l b off arr E fz) (hw : Hp w L w') (hb : 0 < l.length → b ∉ keys L) : RowS m enc z w' v l b off arr E fz :=
  ⟨h.len, h.idx, fun hl => by have hh := h.has hl; rw [hw.old b (Array.getElem?_eq_some_iff.1 hh).1 (hb hl)]; exact hh, h.get⟩
theorem RowS.lt {b off : Nat} {arr : Array Value} {E : TypeId} {fz : Nat × Nat} (h : RowS m enc z w v l b off arr E fz) (hl : 0 < l.length) : b < w.heap.size := (Array.getElem?_eq_some_iff.1 (h.has hl)).1
/-- Where no old block is turned, it is as it was. -/
theorem SlV.old {w' : World} {L : Heap} (h : SlV m enc z w v l) (hw : Hp w L w') (hb : ∀ b, slB v = some b → b < w.heap.size → b ∉ keys L) : SlV m enc z w' v l := by
  obtain ⟨b, off, c, arr, E, fz, hr, hc, hv⟩ := h
  rcases hv with ⟨rfl, rfl, rfl⟩ | ⟨rfl, hhas, hsz⟩
  · exact SlV.nil w'
  · have hnb := hb b rfl (Array.getElem?_eq_some_iff.1 hhas).1
    refine ⟨b, off, c, arr, E, fz, hr.old hw (fun _ => hnb), hc, .inr ⟨rfl, ?_, hsz⟩⟩
    rw [hw.old b (Array.getElem?_eq_some_iff.1 hhas).1 hnb]; exact hhas
theorem New.not {L : Heap} {n b : Nat} (h : New n L) (hb : b < n) : b ∉ keys L := fun hm => by have := h.le b hm; omega
theorem SlV.oldN {w' : World} {L : Heap} (h : SlV m enc z w v l) (hw : Hp w L w') (hn : New w.heap.size L) : SlV m enc z w' v l := h.old hw fun _ _ hb => hn.not hb
theorem SlV.len (h : SlV m enc z w v l) (x : Bool × Nat) : lenV (.sl x) v = some (vi l.length) := by
  obtain ⟨b, off, arr, E, fz, hr⟩ := h.row
  exact hr.len x
/-- The first ones. -/
theorem SlV.take (h : SlV m enc z w v l) {k : Nat} (hk : k ≤ l.length) (a : Bool) : ∃ v', sliceV (.sl (a, m)) v none (some (some (k : Int))) = some v' ∧ SlV m enc z w v' (l.take k) ∧ (∀ b, slB v' = some b → slB v = some b) := by
  obtain ⟨b, off, c, arr, E, fz, hr, hc, hv⟩ := h
  have hl : (l.take k).length = k := by simp; omega
  rcases hv with ⟨rfl, rfl, rfl⟩ | ⟨rfl, hhas, hsz⟩
  · obtain rfl : k = 0 := by simpa using hk
    refine ⟨.slice none 0 0, rfl, SlV.nil w, fun b hb => hb⟩
  · refine ⟨vsl b off k c, ?_, ?_, fun b hb => hb⟩
    · unfold sliceV vsl
      simp only [bnd_hi _ _ _ (⟨by omega, by omega⟩ : (0 : Int) ≤ (k : Int) ∧ (k : Int) ≤ (c : Int)), Int.toNat_natCast, Nat.zero_mul, Nat.sub_zero, Option.map_some, add_spot, Nat.add_zero]
      split <;> rfl
    · refine ⟨b, off, c, arr, E, fz, RowS.sl' hl.symm (fun h0 => hr.has (by omega)) ?_, by omega, .inr ⟨by rw [hl], hhas, by rw [hl]; have : k * m ≤ l.length * m := Nat.mul_le_mul_right _ hk; omega⟩⟩
      · intro i hi j hj
        rw [hl] at hi
        rw [hr.get i (by omega) j hj]
        congr 2
        rw [List.getD_eq_getElem?_getD, List.getD_eq_getElem?_getD, List.getElem?_take_of_lt hi]
/-- What a growing slice is in a world. -/
theorem Buf.slM {L : Heap} {E : TypeId} {n : Nat} {cs : List Value} (h : Buf L E m v n cs) (hw : ∀ b o, (b, o) ∈ L → w.heap[b]? = some o) (hl : l.length = n) (hcs : cs = (l.map enc).flatten) (hm : ∀ x, (enc x).length = m) : SlV m enc z w v l := by
  rcases h.inv with ⟨rfl, rfl, rfl⟩ | ⟨b, c, rest, rfl, hlk, hlen, hnc, h0, hrest⟩
  · have : l = [] := by simpa using hl
    subst this; exact SlV.nil w
  · subst hl
    refine SlV.sl (hw _ _ (look_mem hlk)) ?_ hnc (by rw [List.size_toArray, List.length_append, hlen]; omega)
    intro k hk j hj
    rw [Nat.zero_add, List.getElem?_toArray, List.getElem?_append_left (by rw [hlen]; have : (k + 1) * m ≤ l.length * m := Nat.mul_le_mul_right _ hk; rw [Nat.add_mul, Nat.one_mul] at this; omega), hcs]
    clear hlen hrest hlk hcs hnc h
    induction l generalizing k with
    | nil => simp at hk
    | cons x r ih =>
      rw [List.map_cons, List.flatten_cons]
      cases k with
      | zero =>
        rw [Nat.zero_mul, Nat.zero_add, List.getElem?_append_left (by rw [hm]; exact hj), List.getD_cons_zero]
      | succ k =>
        rw [List.getElem?_append_right (by rw [hm, Nat.add_mul, Nat.one_mul]; omega), hm, List.getD_cons_succ]
        have := ih (k := k) (by simpa using hk)
        rw [← this]
        congr 1
        rw [Nat.add_mul, Nat.one_mul]; omega
theorem Buf.slV {L : Heap} {E : TypeId} {n : Nat} {cs : List Value} {w0 : World} (h : Buf L E m v n cs) (hw : Hp w0 L w) (hl : l.length = n) (hcs : cs = (l.map enc).flatten) (hm : ∀ x, (enc x).length = m) : SlV m enc z w v l := h.slM hw.has hl hcs hm
end
end Go.Sx
namespace Go.Sx
open Go
section
variable {P : Program} {w0 : World} {f : Fr} {L : Heap} {N : Fr → Heap → Prop} {ops : Array Oper} {rest : List Oper} {md : Md}
  {d : Option Tmp} {ty : TypeId} {ps : String} {af : Array Edge} {g : Option (Nat × Bool)}
def v32i (n : Int) : Value := .int .i32 n
theorem binX_i32 (op : BinOp) (t : TypeId) (a b : Int) : binX P op t (v32i a) (v32i b) = binV op (v32i a) (v32i b) := (rfl)
theorem bin_lss_i32 (a b : Int) : binV .lss (v32i a) (v32i b) = some (.bool (decide (a < b))) := by simp [binV, v32i, intV, cmpV]
theorem bin_gtr_i32 (a b : Int) : binV .gtr (v32i a) (v32i b) = some (.bool (decide (b < a))) := by simp [binV, v32i, intV, cmpV]
theorem bin_eql_i32 (a b : Int) : binV .eql (v32i a) (v32i b) = some (.bool (a == b)) := by simp [binV, v32i, intV, cmpV]
theorem lit_i32 (n : Int) : Value.int .i32 n = v32i n := (rfl)

/-- A function value with one argument, whose callee leaves nothing but garbage. -/
theorem Ow.callFn1 {x y : Operand} {ts : Array TypeId} {k : FuncId} {v a : Value} (hs : skipped ops f ⟨d, .call ⟨.value x, #[y], ts⟩, ty, ps, af, g⟩ = false) (hx : ev f x = .func (.func k) #[] #[]) (hy : ev f y = a)
    (hk : ∀ a w, (callFunc k a).run P w = .ok (.enter k a) w) (hc : ∀ w, Hp w0 L w → Rets P k #[a] w (fun v' D => v' = v ∧ D = [])) (hn : Ow P w0 ops md.next rest (putF f d v) L N) :
    Ow P w0 ops md (⟨d, .call ⟨.value x, #[y], ts⟩, ty, ps, af, g⟩ :: rest) f L N :=
  Ow.callV hs hx hk (fun w hw => by simpa [hy] using hc w hw) hn
/-- A text's byte iterator. -/
theorem Ow.rangeText {t : TypeId} {x : Operand} {l : List UInt8} {md' : Md} (he : md.turn = some md') (hs : skipped ops f ⟨d, .range t x, ty, ps, af, g⟩ = false) (hu : P.underlying t = some .string) (hx : ev f x = vs l)
    (hn : ∀ b, Above L b → w0.heap.size ≤ b → Ow P w0 ops md' rest (putF f d (vp b 0)) (L ++ [(b, .stringIter ⟨l.toArray⟩ 0)]) N) :
    Ow P w0 ops md (⟨d, .range t x, ty, ps, af, g⟩ :: rest) f L N := by
  refine Ow.step he rfl hs fun w hw => .inl ⟨vp w.heap.size 0, w.alloc (.stringIter ⟨l.toArray⟩ 0), _, ?_, hw.alloc _, hn _ (above_of fun b hb => hw.lt hb) hw.size⟩
  simp only [execOp, Instr.range, Sem.run_bind, run_underlying hu w, Result.andThen_ok, hx, vs]
  rfl
theorem Ow.nextText {x : Operand} {b : Nat} {l : List UInt8} {pos : Nat} {md' : Md} (he : md.turn = some md') (hs : skipped ops f ⟨d, .next x true, ty, ps, af, g⟩ = false) (hx : ev f x = vp b 0) (hl : look L b = some (.stringIter ⟨l.toArray⟩ pos)) (hp : pos < l.length)
    (hn : Ow P w0 ops md' rest (putF f d (.tuple #[.bool true, vi pos, v32i (Utf8.decode ⟨l.toArray⟩ pos).1])) (setB L b (.stringIter ⟨l.toArray⟩ (pos + (Utf8.decode ⟨l.toArray⟩ pos).2))) N) :
    Ow P w0 ops md (⟨d, .next x true, ty, ps, af, g⟩ :: rest) f L N := by
  refine Ow.step he rfl hs fun w hw => ?_
  have hb := hw.has _ _ (look_mem hl)
  refine .inl ⟨_, { w with heap := w.heap.setIfInBounds b (.stringIter ⟨l.toArray⟩ (pos + (Utf8.decode ⟨l.toArray⟩ pos).2)) }, _, ?_, hw.set (key_of_look hl) rfl rfl rfl rfl, hn⟩
  have hg : (getObj b).run P w = .ok (.stringIter ⟨l.toArray⟩ pos) w := by
    simp only [getObj, Sem.run, hb]
  have hst : ∀ o, (setObj b o).run P w = .ok () { w with heap := w.heap.setIfInBounds b o } := by
    intro o; simp only [setObj, Sem.run, hb]
  have hsz : pos < (ByteArray.mk l.toArray).size := by rw [size_mk]; exact hp
  have : (Instr.next (vp b 0) true ty).run P w = .ok (.tuple #[.bool true, vi pos, v32i (Utf8.decode ⟨l.toArray⟩ pos).1]) { w with heap := w.heap.setIfInBounds b (.stringIter ⟨l.toArray⟩ (pos + (Utf8.decode ⟨l.toArray⟩ pos).2)) } := by
    simp only [Instr.next, vp, Sem.run_bind, hg, Result.andThen_ok, hsz, ↓reduceIte, hst]
    rfl
  simp only [execOp, Sem.run_bind, hx]
  rw [this]
  rfl
theorem Ow.nextOver {x : Operand} {b : Nat} {l : List UInt8} {pos : Nat} {md' : Md} (he : md.turn = some md') (hs : skipped ops f ⟨d, .next x true, ty, ps, af, g⟩ = false) (hx : ev f x = vp b 0) (hl : look L b = some (.stringIter ⟨l.toArray⟩ pos)) (hp : ¬ pos < l.length)
    (hn : Ow P w0 ops md' rest (putF f d (.tuple #[.bool false])) L N) :
    Ow P w0 ops md (⟨d, .next x true, ty, ps, af, g⟩ :: rest) f L N := by
  refine Ow.step he rfl hs fun w hw => ?_
  have hb := hw.has _ _ (look_mem hl)
  refine .inl ⟨.tuple #[.bool false], w, _, ?_, hw, hn⟩
  have hg : (getObj b).run P w = .ok (.stringIter ⟨l.toArray⟩ pos) w := by
    simp only [getObj, Sem.run, hb]
  have hsz : ¬ pos < (ByteArray.mk l.toArray).size := by rw [size_mk]; exact hp
  have : (Instr.next (vp b 0) true ty).run P w = .ok (.tuple #[.bool false]) w := by
    simp only [Instr.next, vp, Sem.run_bind, hg, Result.andThen_ok, hsz, ↓reduceIte]
    rfl
  simp only [execOp, Sem.run_bind, hx]
  rw [this]
  rfl
end
/-- The rune at a place: the byte itself, if it is below 128; else one above. -/
theorem decode_rune (l : List UInt8) (i : Nat) (h : i < l.length) : 0 < (Utf8.decode ⟨l.toArray⟩ i).2 ∧
    ((l.getD i 0).toNat < 128 → Utf8.decode ⟨l.toArray⟩ i = ((l.getD i 0).toNat, 1)) ∧ (128 ≤ (l.getD i 0).toNat → 128 ≤ (Utf8.decode ⟨l.toArray⟩ i).1) := by
  have hb : ((ByteArray.mk l.toArray).get! (i + 0)) = l.getD i 0 := by
    simp [ByteArray.get!, h]
  unfold Utf8.decode
  simp only [hb]
  generalize (l.getD i 0).toNat = b0
  refine ⟨?_, fun h1 => ?_, fun h1 => ?_⟩
  · (repeat' split) <;> simp
  · rw [if_pos h1]
  · rw [if_neg (by omega)]
    (repeat' split) <;> first
      | (simp only [Utf8.runeError]; omega)
      | (rename_i hc; simp only [Bool.and_eq_true, decide_eq_true_eq, ge_iff_le] at hc; omega)
      | (rename_i hc; simp only [ge_iff_le] at hc; omega)
end Go.Sx
namespace Go.Sx
open Go
abbrev Vals := List (List UInt8 × List UInt8)
/-- The first place of a name. -/
def fnd (k : List UInt8) : Vals → Nat → Option (Nat × List UInt8)
  | [], _ => none
  | p :: r, i => if k == p.1 then some (i, p.2) else fnd k r (i + 1)
/-- A name is given a value. -/
def updV (k v : List UInt8) : Vals → Vals
  | [] => [(k, v)]
  | p :: r => if k == p.1 then (p.1, v) :: r else p :: updV k v r
/-- A name is taken away. -/
def delV (k : List UInt8) : Vals → Vals
  | [] => []
  | p :: r => if k == p.1 then r else p :: delV k r
def pairV (p : List UInt8 × List UInt8) : Value × Value := (vs p.1, .agg (a8 p.2))
/-- What a map holds. -/
def MapR (o : Obj) (m : Vals) : Prop := ∃ es clock, o = .map es clock ∧ es.toList.map (fun e => (e.key, e.val)) = m.map pairV ∧ (es.toList.map (·.born) ++ [clock]).Pairwise (· < ·)
theorem born_push {es : List MapEntry} {c : Nat} {e : MapEntry} (h : (es.map (·.born) ++ [c]).Pairwise (· < ·)) (he : e.born = c) : ((es ++ [e]).map (·.born) ++ [c + 1]).Pairwise (· < ·) := by
  rw [List.map_append, List.map_cons, List.map_nil, he]
  refine List.pairwise_append.2 ⟨h, List.pairwise_singleton _ _, ?_⟩
  intro a ha b hb
  rw [List.mem_singleton] at hb
  subst hb
  rcases List.mem_append.1 ha with hm | hm
  · have := (List.pairwise_append.1 h).2.2 a hm c (List.mem_singleton.2 rfl)
    omega
  · rw [List.mem_singleton] at hm
    omega
theorem born_modify {es : List MapEntry} {j : Nat} {g : MapEntry → MapEntry} (hg : ∀ e, (g e).born = e.born) : (es.modify j g).map (·.born) = es.map (·.born) := by
  apply List.ext_getElem?
  intro i
  rw [List.getElem?_map, List.getElem?_map, List.getElem?_modify]
  cases es[i]? with
  | none => rfl
  | some e =>
    by_cases h : j = i
    · simp [h, hg]
    · simp [h]
theorem bs_beq (a b : List UInt8) : ((ByteArray.mk a.toArray) == (ByteArray.mk b.toArray)) = (a == b) := by
  show (a.toArray == b.toArray) = (a == b)
  simp
theorem findNow_eq (k : List UInt8) : ∀ (es : List MapEntry) (m : Vals) (i : Nat), es.map (fun e => (e.key, e.val)) = m.map pairV →
    Instr.findNow .string (vs k) es i = some ((fnd k m i).map fun p => (p.1, .agg (a8 p.2)))
  | [], [], i, _ => rfl
  | [], _ :: _, _, h => by cases h
  | _ :: _, [], _, h => by cases h
  | e :: es, p :: m, i, h => by
    simp only [List.map_cons, List.cons.injEq, pairV, Prod.mk.injEq] at h
    obtain ⟨⟨h1, h2⟩, h3⟩ := h
    unfold Instr.findNow
    have hs : Instr.sameNow .string (vs k) e.key = some (k == p.1) := by
      rw [h1]
      simp only [vs, Instr.sameNow, bs_beq]
    rw [hs]
    unfold fnd
    cases hk : (k == p.1)
    · simp only [Bool.false_eq_true, ↓reduceIte]
      exact findNow_eq k es m (i + 1) h3
    · simp [h2]

theorem fnd_spec (k : List UInt8) : ∀ (m : Vals) (i j : Nat) (v : List UInt8), fnd k m i = some (j, v) → i ≤ j ∧ ∃ a, m[j - i]? = some (k, a) ∧ a = v
  | [], _, _, _, h => by cases h
  | p :: r, i, j, v, h => by
    unfold fnd at h
    split at h
    · rename_i hk
      cases h
      refine ⟨Nat.le_refl _, p.2, ?_, rfl⟩
      rw [Nat.sub_self, List.getElem?_cons_zero, eq_of_beq hk]
    · obtain ⟨h1, a, h2, h3⟩ := fnd_spec k r (i + 1) j v h
      refine ⟨by omega, a, ?_, h3⟩
      rw [show j - i = (j - (i + 1)) + 1 by omega, List.getElem?_cons_succ]; exact h2

theorem updV_some (k v : List UInt8) : ∀ (es : List MapEntry) (m : Vals) (i j : Nat) (a : List UInt8), es.map (fun e => (e.key, e.val)) = m.map pairV → fnd k m i = some (j, a) →
    (es.modify (j - i) fun e => { e with key := vs k, val := .agg (a8 v) }).map (fun e => (e.key, e.val)) = (updV k v m).map pairV
  | [], [], _, _, _, _, h => by cases h
  | [], _ :: _, _, _, _, h, _ => by cases h
  | _ :: _, [], _, _, _, h, _ => by cases h
  | e :: es, p :: m, i, j, a, h, hf => by
    simp only [List.map_cons, List.cons.injEq, pairV, Prod.mk.injEq] at h
    obtain ⟨⟨h1, h2⟩, h3⟩ := h
    unfold fnd at hf
    unfold updV
    split at hf
    · rename_i hk
      cases hf
      rw [if_pos hk, Nat.sub_self]
      simp only [List.modify_zero_cons, List.map_cons, pairV, eq_of_beq hk]
      rw [h3]
    · rename_i hk
      have hle := (fnd_spec k m (i + 1) j a hf).1
      rw [if_neg hk, show j - i = (j - (i + 1)) + 1 by omega]
      simp only [List.modify_succ_cons, List.map_cons, pairV]
      rw [updV_some k v es m (i + 1) j a h3 hf, h1, h2]
theorem updV_none (k v : List UInt8) : ∀ (m : Vals) (i : Nat), fnd k m i = none → updV k v m = m ++ [(k, v)]
  | [], _, _ => rfl
  | p :: r, i, h => by
    unfold fnd at h
    split at h
    · cases h
    · rename_i hk
      unfold updV
      rw [if_neg hk, updV_none k v r (i + 1) h]; rfl
section
variable {P : Program} {w0 : World} {f : Fr} {L : Heap} {N : Fr → Heap → Prop} {ops : Array Oper} {rest : List Oper} {md : Md}
  {d : Option Tmp} {ty : TypeId} {ps : String} {af : Array Edge} {g : Option (Nat × Bool)}

theorem run_findKey {w : World} {t : TypeId} (hu : P.underlying t = some .string) (k : List UInt8) (es : List MapEntry) (m : Vals) (h : es.map (fun e => (e.key, e.val)) = m.map pairV) :
    (Instr.findKey t (vs k) es).run P w = .ok ((fnd k m 0).map fun p => (p.1, .agg (a8 p.2))) w := by
  simp only [Instr.findKey, Sem.run_bind, run_underlying hu w, Result.andThen_ok, findNow_eq k es m 0 h]
  rfl
theorem run_checkKey {w : World} {t : TypeId} (hu : P.underlying t = some .string) (e : Bool) (k : List UInt8) : (Instr.checkKey e 10000 t (vs k)).run P w = .ok () w := by
  unfold Instr.checkKey
  simp only [Sem.run_bind, run_underlying hu w, Result.andThen_ok, vs]
  rfl
theorem run_getMap {w : World} {b : Nat} {es : Array MapEntry} {c : Nat} (hb : w.heap[b]? = some (.map es c)) : (getObj b).run P w = .ok (.map es c) w := by
  simp only [getObj, Sem.run, hb]
theorem run_setMap {w : World} {b : Nat} {es : Array MapEntry} {c : Nat} (hb : w.heap[b]? = some (.map es c)) (o : Obj) : (setObj b o).run P w = .ok () { w with heap := w.heap.setIfInBounds b o } := by
  simp only [setObj, Sem.run, hb]

def vm (b : Nat) : Value := .map (some b)

/-- A new map. -/
theorem Ow.makeMap {t : TypeId} {md' : Md} (he : md.turn = some md') (hs : skipped ops f ⟨d, .makeMap t none, ty, ps, af, g⟩ = false)
    (hn : ∀ b o, Above L b → w0.heap.size ≤ b → MapR o [] → Ow P w0 ops md' rest (putF f d (vm b)) (L ++ [(b, o)]) N) :
    Ow P w0 ops md (⟨d, .makeMap t none, ty, ps, af, g⟩ :: rest) f L N := by
  refine Ow.step he rfl hs fun w hw => .inl ⟨vm w.heap.size, w.alloc (.map #[] 0), _, ?_, hw.alloc _, hn _ _ (above_of fun b hb => hw.lt hb) hw.size ⟨#[], 0, rfl, rfl, List.pairwise_singleton _ _⟩⟩
  simp only [execOp, Instr.makeMap, Sem.run_bind, Option.map_none]
  rfl

theorem fnd_key {k : List UInt8} {m : Vals} {es : List MapEntry} {j : Nat} {a : List UInt8} (h : es.map (fun e => (e.key, e.val)) = m.map pairV) (hf : fnd k m 0 = some (j, a)) : ∃ e, es[j]? = some e ∧ e.key = vs k := by
  obtain ⟨-, a', h1, rfl⟩ := fnd_spec k m 0 j a hf
  rw [Nat.sub_zero] at h1
  have := congrArg (·[j]?) h
  simp only [List.getElem?_map, h1, Option.map_some] at this
  cases he : es[j]? with
  | none => rw [he] at this; cases this
  | some e =>
    rw [he] at this
    simp only [Option.map_some, Option.some.injEq, pairV, Prod.mk.injEq] at this
    exact ⟨e, rfl, this.1⟩

/-- A map's name is given a value. -/
theorem Ow.mapUpdate {t kt vt : TypeId} {x y z : Operand} {b : Nat} {o : Obj} {m : Vals} {k v : List UInt8} {md' : Md} (he : md.turn = some md') (hs : skipped ops f ⟨d, .mapUpdate t x y z, ty, ps, af, g⟩ = false) (hu : P.underlying t = some (.map kt vt)) (huk : P.underlying kt = some .string)
    (hx : ev f x = vm b) (hy : ev f y = vs k) (hz : ev f z = .agg (a8 v)) (hl : look L b = some o) (hm : MapR o m)
    (hn : ∀ o', MapR o' (updV k v m) → Ow P w0 ops md' rest (putF f d undef) (setB L b o') N) :
    Ow P w0 ops md (⟨d, .mapUpdate t x y z, ty, ps, af, g⟩ :: rest) f L N := by
  obtain ⟨es, c, rfl, hes, hbo⟩ := hm
  refine Ow.step he rfl hs fun w hw => ?_
  have hb := hw.has _ _ (look_mem hl)
  have hfk := run_findKey (w := w) huk k es.toList m hes
  cases hf : fnd k m 0 with
  | none =>
    rw [hf] at hfk
    refine .inr (.inl ⟨{ w with heap := w.heap.setIfInBounds b (.map (es.push { key := vs k, val := .agg (a8 v), born := c }) (c + 1)) }, _, ?_, hw.set (key_of_look hl) rfl rfl rfl rfl, hn _ ⟨_, _, rfl, ?_, by rw [Array.toList_push]; exact born_push hbo rfl⟩⟩)
    · have : (Instr.mapUpdate t (vm b) (vs k) (.agg (a8 v))).run P w = .ok () { w with heap := w.heap.setIfInBounds b (.map (es.push { key := vs k, val := .agg (a8 v), born := c }) (c + 1)) } := by
        simp only [Instr.mapUpdate, vm, Sem.run_bind, run_underlying hu w, Result.andThen_ok, run_getMap hb, run_checkKey huk, hfk, Option.map_none, run_setMap hb]
      simp only [execOp, Sem.run_bind, hx, hy, hz]
      rw [this]; rfl
    · rw [updV_none k v m 0 hf, Array.toList_push, List.map_append, hes, List.map_append]; rfl
  | some p =>
    obtain ⟨j, a⟩ := p
    rw [hf] at hfk
    obtain ⟨e, hej, hek⟩ := fnd_key hes hf
    have hej' : es[j]? = some e := by simpa using hej
    have hkt : (Instr.keyThatStays (((es[j]?).map (·.key)).getD (vs k)) (vs k)).run P w = .ok (vs k) w := by
      rw [hej', Option.map_some, Option.getD_some, hek]
      unfold Instr.keyThatStays
      have : Instr.sameBits 10000 (vs k) (vs k) = true := by simp [vs, Instr.sameBits, bs_beq]
      rw [if_pos this]; rfl
    refine .inr (.inl ⟨{ w with heap := w.heap.setIfInBounds b (.map (es.modify j fun e => { e with key := vs k, val := .agg (a8 v) }) c) }, _, ?_, hw.set (key_of_look hl) rfl rfl rfl rfl, hn _ ⟨_, _, rfl, ?_, by rw [Array.toList_modify, born_modify (g := fun e => { e with key := vs k, val := .agg (a8 v) }) fun _ => rfl]; exact hbo⟩⟩)
    · have : (Instr.mapUpdate t (vm b) (vs k) (.agg (a8 v))).run P w = .ok () { w with heap := w.heap.setIfInBounds b (.map (es.modify j fun e => { e with key := vs k, val := .agg (a8 v) }) c) } := by
        simp only [Instr.mapUpdate, vm, Sem.run_bind, run_underlying hu w, Result.andThen_ok, run_getMap hb, run_checkKey huk, hfk, Option.map_some, hkt, run_setMap hb]
      simp only [execOp, Sem.run_bind, hx, hy, hz]
      rw [this]; rfl
    · rw [Array.toList_modify]
      have := updV_some k v es.toList m 0 j a hes hf
      rw [Nat.sub_zero] at this
      exact this

end
end Go.Sx
namespace Go.Sx
open Go
section
variable {P : Program} {w0 : World} {f : Fr} {L : Heap} {N : Fr → Heap → Prop} {ops : Array Oper} {rest : List Oper} {md : Md}
  {d : Option Tmp} {ty : TypeId} {ps : String} {af : Array Edge} {g : Option (Nat × Bool)}
/-- What a name has, or else. -/
def getV (k : List UInt8) (z : List UInt8) (m : Vals) : List UInt8 := match m.find? fun p => k == p.1 with | some p => p.2 | none => z
end
end Go.Sx
namespace Go.Sx
open Go
theorem New.mono {n m : Nat} (h : n ≤ m) : ∀ {L : Heap}, New m L → New n L
  | [], _ => trivial
  | (_, _) :: _, hL => ⟨Nat.le_trans h hL.1, New.mono h hL.2⟩
theorem New.app {n : Nat} {M : Heap} : ∀ {L : Heap}, New n L → New n M → New n (L ++ M)
  | [], _, hM => hM
  | (_, _) :: _, hL, hM => ⟨hL.1, New.app hL.2 hM⟩
section
variable {P : Program} {w0 : World} {f : Fr} {L : Heap} {N : Fr → Heap → Prop} {ops : Array Oper} {rest : List Oper} {md : Md}
  {d : Option Tmp} {ty : TypeId} {ps : String} {af : Array Edge} {g : Option (Nat × Bool)}
/-- A callee that makes new blocks, and turns none. -/
theorem Ow.callN {l : List Operand} {ts : Array TypeId} {k : FuncId} {S : Nat → Value → Heap → Prop} {md' : Md} (he : md.turn = some md')
    (hs : skipped ops f ⟨d, .call ⟨.value (.func k), l.toArray, ts⟩, ty, ps, af, g⟩ = false)
    (hk : ∀ a w, (callFunc k a).run P w = .ok (.enter k a) w)
    (hc : ∀ w, Hp w0 L w → Rets P k (l.map (ev f)).toArray w (fun v D => S w.heap.size v D))
    (hnew : ∀ B v D, S B v D → New B D)
    (hn : ∀ B v D, Above L B → w0.heap.size ≤ B → S B v D → Ow P w0 ops md' rest (putF f d v) (L ++ D) N) :
    Ow P w0 ops md (⟨d, .call ⟨.value (.func k), l.toArray, ts⟩, ty, ps, af, g⟩ :: rest) f L N := by
  refine Ow.callF he hs hk (S := S) hc ?_
  intro B v D ha hB hS
  exact ⟨_, Mrg.fresh (hnew B v D hS).le, hn B v D ha hB hS⟩
theorem Cw.forgetN {c : Code} {K : Kont} (M : Heap) (hnew : New w0.heap.size L) (hM : ∀ p, p ∈ M → p ∈ L) (hn : (keys M).Nodup) (h : Cw P w0 c f M K) : Cw P w0 c f L K :=
  Cw.forget M hM hn (fun p hp _ => hnew.le _ (List.mem_map.2 ⟨p, hp, rfl⟩)) h
end
end Go.Sx
section
namespace Go.Sx
open Go
set_option linter.unusedSimpArgs false
section
variable {P : Program} {w0 : World} {L : Heap}
theorem run_appendEm {w : World} {ts tx ty e : TypeId} {m : Bool × Nat} {z x : Value} {b k : Nat} {new : List Value} (hw : Hp w0 L w)
    (hu : P.underlying ts = some (.slice e)) (hm : aggT P e = some m) (hi : bytesOk P e = true) (hz : zeroV P e = some z) (hzs : z.cells.size = m.2) {d : TypeDesc} (hux : P.underlying tx = some d) (hnx : ∀ k, d ≠ .int k)
    (hXa : ∀ w, Hp w0 L w → AppX P w m.2 x k new) (hbig : 2 * (0 + k) + 768 ≤ 2 ^ 38) :
    (k = 0 ∧ (Builtin.append_ #[ts, tx] ty #[vsl b 0 0 0, x]).run P w = .ok (vsl b 0 0 0) w) ∨
    (0 < k ∧ ∃ v' w' L', (Builtin.append_ #[ts, tx] ty #[vsl b 0 0 0, x]).run P w = .ok v' w' ∧ Hp w0 L' w' ∧ Buf L' e m.2 v' (0 + k) ([] ++ new) ∧ Grew w0 (.slice none 0 0) L L' ∧ ∃ c, slB v' = some c ∧ Above L c) := by
  obtain ⟨i, hi, hb0, hbig⟩ := bytesOk_spec hi hbig
  have hti : ∀ w, (typeInfo e).run P w = .ok i w := by
    intro w
    simp only [typeInfo, program, Sem.run_bind]
    show Result.andThen (Result.ok P w) _ = _
    simp only [Result.andThen_ok, hi]
    rfl
  have hmd : (match d with | .int _ => true | _ => false) = false := by
    cases d <;> first | rfl | exact absurd rfl (hnx _)
  have e1 : ∀ {α β : Type} (a : α) (f : α → World → Result β), (Sem.run P (pure a) w).andThen f = f a w := fun _ _ => rfl
  have hX := hXa w hw
  have hxl := hX.len
  have hxc := hX.cells
  have hzv := run_zeroV (P := P) hz
  have room : ∀ (b : Nat) (w : World), (askRoom b).run P w = .ok () w := by
    intro b w
    unfold askRoom
    split <;> rfl
  have zc : ∀ j, (Builtin.zeroCells z.cells j).toList.length = j * m.2 := by
    intro j; simp [Builtin.zeroCells, hzs]
  have hbg : ∀ c, c < 0 + k → ¬ (Builtin.nextslicecap (0 + k) c * i.bytes > 2 ^ 48) := by
    intro c hc
    have := nextslicecap_le hc
    have h2 := Nat.mul_le_mul_right i.bytes this
    omega
  by_cases hk : k = 0
  · subst hk
    have hnew : new = [] := List.eq_nil_of_length_eq_zero (by have := hX.size; omega)
    subst hnew
    refine .inl ⟨rfl, ?_⟩
    simp only [Builtin.append_, vsl, List.getElem?_toArray, List.getElem?_cons_zero, List.getElem?_cons_succ, Sem.run_bind, run_underlying hu w, Result.andThen_ok, run_sizeOf hm w, run_underlying hux w, hmd, e1, Bool.false_eq_true, ↓reduceIte, hxl, Bool.not_false, Nat.add_zero, Nat.le_refl, hxc]
    rfl
  · have hpos : ¬ 0 + k ≤ 0 := by omega
    have hbg' := hbg 0 (by omega)
    simp only [Builtin.append_, List.getElem?_toArray, List.getElem?_cons_zero, List.getElem?_cons_succ, Sem.run_bind, run_underlying hu w, Result.andThen_ok, run_sizeOf hm w, run_underlying hux w, hmd, e1, Bool.false_eq_true, ↓reduceIte, hxl, Bool.not_false, hpos, vsl, hti, hb0, or_false, and_false, hbg']
    have hch : (choose (Question.appendCap (0 + k) 0 e)).run P w = .ok ((0 + k) + w.tape w.drawn (.appendCap (0 + k) 0 e) % (2 ^ 63 - (0 + k))) w.drew := rfl
    rw [hch]
    generalize hcc : (0 + k) + w.tape w.drawn (.appendCap (0 + k) 0 e) % (2 ^ 63 - (0 + k)) = c
    have hw1 := hw.drew
    have hX1 := hXa _ hw1
    have hold : (Builtin.firstCells m.2 0 (Value.slice (some ⟨b, 0, none⟩) 0 0)).run P w.drew = .ok #[] w.drew := by
      simp only [Builtin.firstCells, Nat.zero_mul]; rfl
    simp only [Result.andThen_ok, room, hold, hX1.cells, hzv]
    refine .inr ⟨by omega, _, _, L ++ [(w.drew.heap.size, .cells ([] ++ new ++ (Builtin.zeroCells z.cells (c - (0 + k))).toList).toArray e (0, 0))], rfl, ?_, .at_ (b := w.drew.heap.size) (rest := (Builtin.zeroCells z.cells (c - (0 + k))).toList) ?_ ?_ ?_ (by omega) (by omega), ?_, ⟨_, rfl, above_of fun b hb => hw1.lt hb⟩⟩
    · have ea : ([] ++ new ++ (Builtin.zeroCells z.cells (c - (0 + k))).toList).toArray = #[] ++ new.toArray ++ Builtin.zeroCells z.cells (c - (0 + k)) := by apply Array.ext'; simp
      rw [ea]
      exact hw1.alloc _
    · rw [look_app_r (fun hm => Nat.lt_irrefl _ (hw1.lt hm))]
      simp [look]
    · rw [List.nil_append, hX.size, Nat.zero_add]
    · exact zc _
    · refine ⟨fun c hc => by rw [keys_app]; exact List.mem_append_left _ hc, fun c hc => ?_, fun c o hne ho => look_app ho⟩
      rw [keys_app] at hc
      rcases List.mem_append.1 hc with hc | hc
      · exact .inl hc
      · right
        simp only [keys, List.map_cons, List.map_nil, List.mem_singleton] at hc
        subst hc
        exact ⟨above_of fun b hb => hw1.lt hb, hw1.size⟩
end
section
variable {P : Program} {w0 : World} {f : Fr} {L : Heap} {N : Fr → Heap → Prop} {ops : Array Oper} {rest : List Oper} {md : Md}
  {d : Option Tmp} {ty : TypeId} {ps : String} {af : Array Edge} {g : Option (Nat × Bool)}
end
end Go.Sx
end
namespace Go.Sx
open Go
section
variable {P : Program} {w0 : World} {f : Fr} {L : Heap} {N : Fr → Heap → Prop} {K : Kont} {l : List Oper} {listed : List Bool} {n : Nat} {R ts : List Nat} {a d : Nat} {z : Obj}
theorem Md.next_sofnil (R ts : List Nat) : (Md.sof R [] ts).next = .sof R [] ts := (rfl)
theorem upon_unshift {Q : Exit → Act → World → Prop} {o : Oper} {x : Act} {d : Option Tmp} {v : Value} {K : Act → World → Prop} (hd : ∀ t, d = some t → o.dst ≠ some t)
    (hQ : ∀ c a w, Q (.panic c) a w → Q (.panic c) (a.put d v) w) (r : Result Next) (h : o.upon P x (fun a' w' => K (a'.put d v) w') Q r) :
    o.upon P (x.put d v) K Q r := by
  have comm : ∀ u, (x.put o.dst u).put d v = (x.put d v).put o.dst u := fun u => (Act.put_comm x v u hd).symm
  match r, h with
  | .ok (.value u) _, h => show K _ _; rw [← comm]; exact h
  | .ok .skip _, h => show K _ _; rw [← comm]; exact h
  | .ok (.defer e) w', h =>
    have h' : K ((({ x with defers := e :: x.defers } : Act).put o.dst undef).put d v) w' := h
    rw [← Act.put_comm _ v undef hd, ← Act.put_defers] at h'
    exact h'
  | .ok (.enter f args) _, h =>
    refine Calls.mono h fun e w'' he => ?_
    match e, he with
    | .returned u, he => show K _ _; rw [← comm]; exact he
    | .panicked c, he => exact hQ _ _ _ he
    | .outgrown, he => exact he
  | .ok (.row row args) _, h => exact Rows.mono h fun u w'' he => by rw [← comm]; exact he
  | .halt (.panic u) _, h => exact hQ _ _ _ h
theorem wpOp_unshift {ops : Array Oper} {Q : Exit → Act → World → Prop} {j : Nat} {oj : Oper} {d : Option Tmp} {v : Value} (hj : ops[j]? = some oj) (h1 : ∀ t, d = some t → t ∉ oj.looksAt ops) (h2 : ∀ t, d = some t → oj.dst ≠ some t) (hsj : ∀ cs b, oj.op ≠ .select cs b)
    (hQ : ∀ c a w, Q (.panic c) a w → Q (.panic c) (a.put d v) w) {K : Act → World → Prop} {x : Act} {w : World}
    (h : wpOp P ops Q j (fun a' w' => K (a'.put d v) w') x w) : wpOp P ops Q j K (x.put d v) w := by
  unfold wpOp at h ⊢
  simp only [hj] at h ⊢
  rw [wanted_put oj x d v h1]
  cases hw : Region.wanted oj (yielded ops x.tmps) with
  | true =>
    rw [hw] at h
    simp only [if_true] at h ⊢
    rcases h with h | ⟨hasks, hl⟩
    · left
      unfold Oper.wp at h ⊢
      rw [execOp_put oj hsj x d v h1]
      exact upon_unshift h2 hQ _ h
    · right
      exact ⟨by unfold Oper.asks at *; rwa [execOp_put oj hsj x d v h1], hl⟩
  | false =>
    rw [hw] at h
    simp only [Bool.false_eq_true, if_false] at h ⊢
    rw [Act.put_comm x v undef h2]
    exact h
/-- What is asked of the operation that makes the variable. -/
structure Drift (P : Program) (l : List Oper) (ts : List Nat) (a d : Nat) (z : Obj) : Prop where
  here : ∃ oa t zv, l.toArray[a]? = some oa ∧ oa.op = .alloc t ∧ oa.dst = some d ∧ oa.guard = none ∧ zeroV P t = some zv ∧ z = .cells zv.cells t
  ts : a ∉ ts
  sel : Region.noSelect l.toArray = true
def driftB (l : List Oper) (ts : List Nat) (a d : Nat) : Bool :=
  (match nthO l a with
  | some oa => (match oa.op with | .alloc _ => true | _ => false) && oa.dst == some d && oa.guard == none
  | none => false) && !ts.contains a && Region.noSelect l.toArray
def OwD (P : Program) (w0 : World) (l : List Oper) (R ts : List Nat) (a d : Nat) (z : Obj) (n : Nat) (listed : List Bool) (f : Fr) (L : Heap) (N : Fr → Heap → Prop) : Prop :=
  (∀ w, Hp w0 L w → wpAnyG P l.toArray (postN w0 N) ts (SR w0 R L) (n + 1) listed.toArray (act f) w) ∧
  (∀ b w, w0.heap.size ≤ b → b ∉ keys L → Hp w0 (L ++ [(b, z)]) w → wpAnyG P l.toArray (postN w0 N) ts (SR w0 R L) n (listed.set a true).toArray (act (setF f d (vp b 0))) w)
theorem SR.ofE {w : World} {b : Nat} (hb : w0.heap.size ≤ b) (h : Hp w0 (L ++ [(b, z)]) w) : SR w0 R L w := by
  intro r _ o ho
  unfold readB at ho
  split at ho
  · rename_i o' hl
    cases ho
    exact h.has _ _ (List.mem_append_left _ (look_mem hl))
  · rename_i hl
    have hlt := (Array.getElem?_eq_some_iff.1 ho).1
    rw [h.old r hlt ?_]; exact ho
    intro hm
    simp only [keys, List.map_append, List.map_cons, List.map_nil, List.mem_append, List.mem_singleton] at hm
    rcases hm with hm | hm
    · exact look_none hl hm
    · omega
theorem postN_put {c : List PanicEntry} {x x' : Act} {w : World} (h : postN w0 N (.panic c) x w) : postN w0 N (.panic c) x' w := postN_panic h
theorem Hp.perm {w : World} {M : Heap} (h : Hp w0 L w) (hp : M.Perm L) : Hp w0 M w :=
  h.same (fun _ => hp.mem_iff) ((List.Perm.nodup_iff (hp.map Prod.fst)).2 h.nodup)
/-- Values that come at once. -/
def chkD (P : Program) (l : List Oper) (ts : List Nat) (a : Nat) : List Nat → List Bool → Option (List Bool)
  | [], listed => some listed
  | k :: is, listed =>
    match nthO l k, nthO l a with
    | some o, some oa => if k != a && !ts.contains k && (ts.all fun t => !listed.toArray.getD t true && !(listed.set a true).toArray.getD t true) && (Region.ready .any l.toArray listed.toArray).contains k && Region.free .any l.toArray listed.toArray k &&
        (Region.ready .any l.toArray (listed.set a true).toArray).contains k && Region.free .any l.toArray (listed.set a true).toArray k && o.apart l.toArray oa &&
        (pureK P o.op || (readK o.op && waitsB l.toArray ts listed.toArray k && waitsB l.toArray ts (listed.set a true).toArray k)) then chkD P l ts a is (listed.set k true) else none
    | _, _ => none
theorem OwD.step {k : Nat} {o : Oper} {v : Value} (hD : Drift P l ts a d z) (hk : nthO l k = some o) {rest : List Bool} (hc : chkD P l ts a [k] listed = some rest)
    (hY : YieldsC P l.toArray (SR w0 R L) (pureK P o.op = true) o v (act f)) (h : OwD P w0 l R ts a d z n rest (putF f o.dst v) L N) : OwD P w0 l R ts a d z (n + 1) listed f L N := by
  obtain ⟨⟨oa, t, zv, ha, hop, hdst, hg, hz, rfl⟩, hats, hns⟩ := hD
  have hoi : l.toArray[k]? = some o := by rw [nthO_eq] at hk; simpa using hk
  have ha' : nthO l a = some oa := by rw [nthO_eq]; simpa using ha
  unfold chkD at hc
  rw [hk, ha'] at hc
  simp only at hc
  split at hc
  · rename_i hcc
    simp only [chkD, Option.some.injEq] at hc
    subst hc
    simp only [Bool.and_eq_true, Bool.or_eq_true, Bool.not_eq_true', List.all_eq_true, List.contains_eq_mem, decide_eq_true_eq, decide_eq_false_iff_not, bne_iff_ne, ne_eq] at hcc
    obtain ⟨⟨⟨⟨⟨⟨⟨⟨c1, c2⟩, c3⟩, c4⟩, c5⟩, c6⟩, c7⟩, c8⟩, c9⟩ := hcc
    obtain ⟨q1, q2, q3⟩ := Oper.apart_spec c8
    have hsel := Region.noSelect_spec hns
    have hset : (listed.set k true).set a true = (listed.set a true).set k true := List.set_comm _ _ c1
    refine ⟨fun w hw => ?_, fun b w hb hbL hw => ?_⟩
    · refine G_first hoi c2 hsel (fun c a w h => postN_panic h) _ _ _ _ (first_of (P := P) hoi c4 c5 (c9.imp id fun h => ⟨h.1.1, h.1.2, fun t ht => (c3 t ht).1⟩)) (.inr fun t ht => (c3 t ht).1) hY ?_
      rw [act_put, set_toArray]
      exact h.1 w hw
    · have hY2 : YieldsC P l.toArray (SR w0 R L) (pureK P o.op = true) o v (act (setF f d (vp b 0))) := by
        refine hY.left (hsel k o · · hoi) (oj := oa) q3 ⟨vp b 0, [], ?_⟩
        rw [hdst]
        exact (act_put f (some d) (vp b 0)).symm
      refine G_first hoi c2 hsel (fun c a w h => postN_panic h) _ _ _ _ (first_of (P := P) hoi c6 c7 (c9.imp id fun h => ⟨h.1.1, h.2, fun t ht => (c3 t ht).2⟩)) (.inr fun t ht => (c3 t ht).2) hY2 ?_
      have e : (act (setF f d (vp b 0))).put o.dst v = act (setF (putF f o.dst v) d (vp b 0)) := by
        have e1 : act (setF f d (vp b 0)) = (act f).put (some d) (vp b 0) := (act_put f (some d) (vp b 0)).symm
        rw [e1, Act.put_comm (act f) (x := some d) (y := o.dst) (vp b 0) v (fun t ht hod => by cases ht; exact q2 _ hod hdst), act_put, act_put]; rfl
      rw [e, set_toArray, ← hset]
      exact h.2 b w hb hbL hw
  · cases hc
theorem chkD_cons {k : Nat} {is : List Nat} {listed listed' : List Bool} (h : chkD P l ts a (k :: is) listed = some listed') : chkD P l ts a [k] listed = some (listed.set k true) ∧ chkD P l ts a is (listed.set k true) = some listed' := by
  rw [chkD] at h
  cases ho : nthO l k with
  | none => rw [ho] at h; cases h
  | some o =>
    cases hoa : nthO l a with
    | none => rw [ho, hoa] at h; cases h
    | some oa =>
      rw [ho, hoa] at h
      simp only at h
      split at h
      · rename_i hcc
        refine ⟨?_, h⟩
        rw [chkD, ho, hoa]
        simp only
        rw [if_pos hcc]; rfl
      · cases h
theorem OwD.runs {k : Md → List Oper → Fr → Heap → Prop} (hD : Drift P l ts a d z) : ∀ (is : List Nat) {listed listed' : List Bool} {f : Fr} {L : Heap}, chkD P l ts a is listed = some listed' →
    (∀ md r f' L', k md r f' L' → r = [] ∧ OwD P w0 l R ts a d z n listed' f' L' N) → vcL P w0 l.toArray false (.sof R [] []) (pickL l is) f L k → OwD P w0 l R ts a d z (is.length + n) listed f L N
  | [], listed, listed', f, L, hc, hk, h => by
    cases hc
    rw [List.length_nil, Nat.zero_add]
    exact (hk _ _ _ _ h).2
  | i :: is, listed, listed', f, L, hc, hk, h => by
    obtain ⟨hc1, hc2⟩ := chkD_cons hc
    rw [pickL_cons] at h
    cases ho : nthO l i with
    | none => unfold chkD at hc1; rw [ho] at hc1; cases hc1
    | some o =>
      rw [ho, consO_some] at h
      unfold vcL at h
      rw [List.length_cons, show is.length + 1 + n = (is.length + n) + 1 by omega]
      cases hs : skipped l.toArray f o with
      | true =>
        rw [hs] at h
        have hw0 : Region.wanted o (yielded l.toArray (act f).tmps) = false := by rw [wanted_eq, hs]; rfl
        exact OwD.step hD ho hc1 (v := undef) (.inr ⟨hw0, rfl⟩) (OwD.runs hD is hc2 hk h)
      | false =>
        rw [hs] at h
        have hw0 : Region.wanted o (yielded l.toArray (act f).tmps) = true := by rw [wanted_eq, hs]; rfl
        simp only [ib, vcB] at h
        split at h
        · cases hrd : rdOk (.sof R [] []) f o.op with
          | false => rw [hrd] at h; exact absurd (hk _ _ _ _ h).1 (by simp)
          | true =>
            rw [hrd] at h
            simp only at h
            cases hv : evalV P w0 L f o.op with
            | none => rw [hv] at h; exact absurd (hk _ _ _ _ h).1 (by simp)
            | some v =>
              rw [hv] at h
              refine OwD.step hD ho hc1 (v := v) (.inl ⟨hw0, fun w hw => ?_⟩) (OwD.runs hD is hc2 hk h)
              rw [act_eval']
              rcases hw with hp | hw
              · exact run_evalV (Hp.refl w) (evalV_pure hp hv w)
              · exact run_evalV (Hp.refl w) (evalV_reads hrd hv hw)
        · exact absurd (hk _ _ _ _ h).1 (by simp)
        · exact absurd (hk _ _ _ _ h).1 (by simp)
theorem OwD.run (is : List Nat) (listed' : List Bool) (n : Nat) {m : Nat} (hm : m = is.length + n) (hD : Drift P l ts a d z) (hc : chkD P l ts a is listed = some listed')
    (h : ∀ k : Md → List Oper → Fr → Heap → Prop, (∀ md f L, OwD P w0 l R ts a d z n listed' f L N → k md [] f L) → nl (pickL l is) fun l' => vcL P w0 l.toArray false (.sof R [] []) l' f L k) : OwD P w0 l R ts a d z m listed f L N := by
  subst hm
  refine OwD.runs (k := fun _ r f' L' => r = [] ∧ OwD P w0 l R ts a d z n listed' f' L' N) hD is hc (fun _ _ _ _ h => h) ?_
  exact h _ fun _ _ _ h => ⟨rfl, h⟩
theorem run_allocD {t : TypeId} {zv : Value} {oa : Oper} {Q : Exit → Act → World → Prop} {X : Act → World → Prop} {w : World} (ha : l.toArray[a]? = some oa) (hop : oa.op = .alloc t) (hdst : oa.dst = some d) (hg : oa.guard = none) (hz : zeroV P t = some zv)
    (h : X (act (setF f d (vp w.heap.size 0))) (w.alloc (.cells zv.cells t))) : wpOp P l.toArray Q a X (act f) w := by
  obtain ⟨dst, op, ty, pos, after, guard⟩ := oa
  simp only at hop hdst hg
  subst hop; subst hdst; subst hg
  unfold wpOp
  simp only [ha]
  have hw : Region.wanted ⟨some d, .alloc t, ty, pos, after, none⟩ (yielded l.toArray (act f).tmps) = true := by rw [wanted_eq]; rfl
  rw [hw]
  simp only [↓reduceIte]
  left
  unfold Oper.wp
  have hr : (execOp (act f).eval ⟨some d, .alloc t, ty, pos, after, none⟩).run P w = .ok (.value (vp w.heap.size 0)) (w.alloc (.cells zv.cells t)) := by
    simp only [execOp, Instr.alloc, Sem.run_bind, run_zeroV hz w, Result.andThen_ok]
    rfl
  rw [hr]
  show X ((act f).put (some d) (vp w.heap.size 0)) _
  rw [act_put]
  exact h
theorem SR_congr {L' : Heap} (hS : ∀ b, b ∈ R → readB w0 L' b = readB w0 L b) : SR w0 R L = SR w0 R L' := by
  funext v
  unfold SR
  apply propext
  constructor
  · intro hh b hb o ho; exact hh b hb o (by rw [← hS b hb]; exact ho)
  · intro hh b hb o ho; exact hh b hb o (by rw [hS b hb]; exact ho)
/-- One of some operations is next, but for the new variable. -/
def softsD (l : List Oper) (ts : List Nat) (a : Nat) (ks : List Nat) (listed : List Bool) : Bool :=
  ((Region.ready .any l.toArray listed.toArray).all fun i => i == a || ks.contains i) && (Region.ready .any l.toArray listed.toArray != []) && ((Region.ready .any l.toArray (listed.set a true).toArray).all fun i => ks.contains i) && (Region.ready .any l.toArray (listed.set a true).toArray != []) && ks.all fun k =>
    match nthO l k, nthO l a with
    | some o, some oa => k != a && !ts.contains k && o.apart l.toArray oa
    | _, _ => false
theorem OwD.softs (ks : List Nat) (hD : Drift P l ts a d z) (hs : softsD l ts a ks listed = true)
    (h : ∀ k, k ∈ ks → ∀ o, nthO l k = some o → ∀ E, (E = [] ∨ ∃ b, E = [(b, z)] ∧ w0.heap.size ≤ b ∧ b ∉ keys L) → Ow P w0 l.toArray .seq [o] f (L ++ E) (fun f' L'' => ∃ L', (L' ++ E).Perm L'' ∧ (∀ r, r ∈ R → readB w0 L' r = readB w0 L r) ∧ OwD P w0 l R ts a d z n (listed.set k true) f' L' N)) :
    OwD P w0 l R ts a d z (n + 1) listed f L N := by
  obtain ⟨⟨oa, t, zv, ha, hop, hdst, hg, hz, rfl⟩, hats, hns⟩ := hD
  have ha' : nthO l a = some oa := by rw [nthO_eq]; simpa using ha
  unfold softsD at hs
  simp only [Bool.and_eq_true, List.all_eq_true, Bool.or_eq_true, beq_iff_eq, bne_iff_ne, ne_eq, List.contains_eq_mem, decide_eq_true_eq] at hs
  obtain ⟨⟨⟨⟨c3, c4⟩, c5⟩, c5'⟩, c6⟩ := hs
  have hsel := Region.noSelect_spec hns
  have hkk : ∀ k, k ∈ ks → ∃ o, nthO l k = some o ∧ k ≠ a ∧ k ∉ ts ∧ o.apart l.toArray oa = true := by
    intro k hk
    have := c6 k hk
    rw [ha'] at this
    cases ho : nthO l k with
    | none => rw [ho] at this; cases this
    | some o =>
      rw [ho] at this
      simp only [Bool.and_eq_true, Bool.not_eq_true', bne_iff_ne, ne_eq, decide_eq_false_iff_not] at this
      exact ⟨o, rfl, this.1.1, this.1.2, this.2⟩
  have t2 : ∀ b w, w0.heap.size ≤ b → b ∉ keys L → Hp w0 (L ++ [(b, .cells zv.cells t)]) w → wpAnyG P l.toArray (postN w0 N) ts (SR w0 R L) (n + 1) (listed.set a true).toArray (act (setF f d (vp b 0))) w := by
    intro b w hb hbL hw
    refine ⟨fun _ => SR.ofE hb hw, (fun h => absurd h c5'), ?_⟩
    intro k hi
    have hkm := c5 k hi
    obtain ⟨o, hk, c1, c2, c7⟩ := hkk k hkm
    have hoi : l.toArray[k]? = some o := by rw [nthO_eq] at hk; simpa using hk
    obtain ⟨q1, q2, q3⟩ := Oper.apart_spec c7
    have hset : (listed.set k true).set a true = (listed.set a true).set k true := List.set_comm _ _ c1
    have e1 : act (setF f d (vp b 0)) = (act f).put (some d) (vp b 0) := (act_put f (some d) (vp b 0)).symm
    rw [e1]
    refine wpOp_unshift hoi (fun t ht => by cases ht; exact q3 d hdst) (fun t ht => by cases ht; exact fun hod => q2 d hod hdst) (hsel _ o · · hoi) (fun c a w h => postN_put h) ?_
    refine wpOp_of hoi (X := fun a' w' => wpAnyG P l.toArray (postN w0 N) ts (SR w0 R L) n ((listed.set a true).toArray.setIfInBounds k true) (a'.put (some d) (vp b 0)) w') ?_ hw
    intro w' hw'
    refine wpList_mono1 ?_ (h k hkm o hk [(b, .cells zv.cells t)] (.inr ⟨b, rfl, hb, hbL⟩) w' hw')
    rintro f' L'' ⟨L', hpm, hR, hO⟩ w'' hw''
    have hw3 := hw''.perm hpm
    rw [act_put, set_toArray, ← hset, SR_congr hR]
    refine hO.2 b w'' hb (fun hm => ?_) hw3
    have hnd := hw3.nodup
    rw [keys_app, List.nodup_append] at hnd
    exact hnd.2.2 b hm b (by simp [keys]) rfl
  refine ⟨fun w hw => ⟨fun _ => SR.of hw, fun h => absurd h c4, fun k hi => ?_⟩, t2⟩
  rcases c3 k hi with rfl | hkm
  · refine run_allocD ha hop hdst hg hz ?_
    rw [set_toArray]
    refine t2 _ _ hw.size (fun hm => Nat.lt_irrefl _ (hw.lt hm)) (hw.alloc _)
  · obtain ⟨o, hk, c1, c2, c7⟩ := hkk k hkm
    have hoi : l.toArray[k]? = some o := by rw [nthO_eq] at hk; simpa using hk
    refine wpOp_of hoi (X := wpAnyG P l.toArray (postN w0 N) ts (SR w0 R L) (n + 1) (listed.toArray.setIfInBounds k true)) ?_ hw
    intro w' hw'
    have h1 := h k hkm o hk [] (.inl rfl)
    rw [List.append_nil] at h1
    refine wpList_mono1 ?_ (h1 w' hw')
    rintro f' L'' ⟨L', hpm, hR, hO⟩ w'' hw''
    rw [List.append_nil] at hpm
    rw [set_toArray, SR_congr hR]
    exact hO.1 w'' (hw''.perm hpm)
theorem OwD.soft (k : Nat) (o : Oper) (hD : Drift P l ts a d z) (hk : nthO l k = some o) (hs : softsD l ts a [k] listed = true)
    (h : ∀ E, (E = [] ∨ ∃ b, E = [(b, z)] ∧ w0.heap.size ≤ b ∧ b ∉ keys L) → Ow P w0 l.toArray .seq [o] f (L ++ E) (fun f' L'' => ∃ L', (L' ++ E).Perm L'' ∧ (∀ r, r ∈ R → readB w0 L' r = readB w0 L r) ∧ OwD P w0 l R ts a d z n (listed.set k true) f' L' N)) :
    OwD P w0 l R ts a d z (n + 1) listed f L N := OwD.softs [k] hD hs fun k' hk' o' ho' => by
  rw [List.mem_singleton] at hk'
  subst hk'
  rw [hk] at ho'
  cases ho'
  exact h
theorem OwD.two (k k2 : Nat) (o o2 : Oper) (hD : Drift P l ts a d z) (hk : nthO l k = some o) (hk2 : nthO l k2 = some o2) (hs : softsD l ts a [k, k2] listed = true)
    (h : ∀ E, (E = [] ∨ ∃ b, E = [(b, z)] ∧ w0.heap.size ≤ b ∧ b ∉ keys L) → Ow P w0 l.toArray .seq [o] f (L ++ E) (fun f' L'' => ∃ L', (L' ++ E).Perm L'' ∧ (∀ r, r ∈ R → readB w0 L' r = readB w0 L r) ∧ OwD P w0 l R ts a d z n (listed.set k true) f' L' N))
    (h2 : ∀ E, (E = [] ∨ ∃ b, E = [(b, z)] ∧ w0.heap.size ≤ b ∧ b ∉ keys L) → Ow P w0 l.toArray .seq [o2] f (L ++ E) (fun f' L'' => ∃ L', (L' ++ E).Perm L'' ∧ (∀ r, r ∈ R → readB w0 L' r = readB w0 L r) ∧ OwD P w0 l R ts a d z n (listed.set k2 true) f' L' N)) :
    OwD P w0 l R ts a d z (n + 1) listed f L N := OwD.softs [k, k2] hD hs fun k' hk' o' ho' => by
  simp only [List.mem_cons, List.not_mem_nil, or_false] at hk'
  rcases hk' with rfl | rfl
  · rw [hk] at ho'; cases ho'; exact h
  · rw [hk2] at ho'; cases ho'; exact h2
/-- The variable's own turn: behind it one order. -/
theorem OwD.real (is : List Nat) {m : Nat} (hm : m = is.length) (hD : Drift P l ts a d z) (hr : Region.ready .any l.toArray listed.toArray = [a]) (hB : orderB P l.toArray ts is (listed.set a true).toArray = true) (hts : (ts.all fun t => !(listed.set a true).toArray.getD t true) = true)
    (hl : is.map (fun i : Nat => l[i]?) = (pickL l is).map some) (hR : ∀ r, r ∈ R → r ∈ keys L ∨ r < w0.heap.size)
    (h : nl (pickL l is) fun l' => ∀ b, w0.heap.size ≤ b → b ∉ keys L → Ow P w0 l.toArray (.sof R is ts) l' (setF f d (vp b 0)) (L ++ [(b, z)]) N) : OwD P w0 l R ts a d z m listed f L N := by
  subst hm
  obtain ⟨⟨oa, t, zv, ha, hop, hdst, hg, hz, rfl⟩, hats, hns⟩ := hD
  simp only [List.all_eq_true, Bool.not_eq_true'] at hts
  revert hl h
  generalize pickL l is = l'
  intro hl h
  have hlen : is.length = l'.length := by have := congrArg List.length hl; simpa using this
  have hF : Fits P l.toArray ts is l' (listed.set a true).toArray := ⟨hlen, fun j => by
    have := congrArg (·[j]?) hl
    simp only [List.getElem?_map] at this
    cases hj : is[j]? with
    | none =>
      rw [hj] at this
      simp only [Option.map_none] at this
      cases hj' : l'[j]? with
      | none => rfl
      | some x => rw [hj'] at this; cases this
    | some i =>
      rw [hj] at this
      simp only [Option.map_some] at this
      cases hj' : l'[j]? with
      | none => rw [hj'] at this; cases this
      | some x =>
        rw [hj'] at this
        simp only [Option.map_some, Option.some.injEq] at this
        simp [this], hns, hB⟩
  have hRb : ∀ b, w0.heap.size ≤ b → b ∉ keys L → ∀ r, r ∈ R → readB w0 (L ++ [(b, Obj.cells zv.cells t)]) r = readB w0 L r := by
    intro b hb hbL r hr
    unfold readB
    cases hlk : look L r with
    | some o => rw [look_app hlk]
    | none =>
      have hrn : r ∉ keys L := look_none hlk
      have hne : b ≠ r := by
        rcases hR r hr with h | h
        · exact absurd h hrn
        · omega
      rw [look_app_r hrn]
      unfold look
      rw [if_neg hne]; rfl
  have t2 : ∀ b w, w0.heap.size ≤ b → b ∉ keys L → Hp w0 (L ++ [(b, .cells zv.cells t)]) w → wpAnyG P l.toArray (postN w0 N) ts (SR w0 R L) is.length (listed.set a true).toArray (act (setF f d (vp b 0))) w := by
    intro b w hb hbL hw
    rw [hlen, SR_congr (hRb b hb hbL)]
    exact h b hb hbL _ hF (fun t ht => hts t ht) w hw
  refine ⟨fun w hw => ⟨fun _ => SR.of hw, (fun h => by rw [hr] at h; cases h), fun i hi => ?_⟩, t2⟩
  rw [hr, List.mem_singleton] at hi
  subst hi
  refine run_allocD ha hop hdst hg hz ?_
  rw [set_toArray]
  exact t2 _ _ hw.size (fun hm => Nat.lt_irrefl _ (hw.lt hm)) (hw.alloc _)
/-- A region in which a variable may be made at any time. -/
theorem Cw.regionD {id : Nat} (R ts : List Nat) (a d t m : Nat) (zv : Value) (hl : l.length = m + 1) (hm : P.follows .mixedOrders = true) (hop : ((nthO l a).map fun o => (o.op, o.dst, o.guard)) = some (.alloc t, some d, none)) (hts : ts.contains a = false) (hns : Region.noSelect l.toArray = true) (hz : zeroV P t = some zv)
    (h : Drift P l ts a d (.cells zv.cells t) → OwD P w0 l R ts a d (.cells zv.cells t) m (List.replicate (m + 1) false) f L (K .normal)) : Cw P w0 (.region id l.toArray true) f L K := by
  intro w hw
  refine wp_mono (wp_region_any hm ?_) fun _ _ _ h => postN_post h
  have hD : Drift P l ts a d (.cells zv.cells t) := by
    cases hn : nthO l a with
    | none => rw [hn] at hop; cases hop
    | some oa =>
      rw [hn] at hop
      simp only [Option.map_some, Option.some.injEq, Prod.mk.injEq] at hop
      exact ⟨⟨oa, t, zv, by rw [nthO_eq] at hn; simpa using hn, hop.1, hop.2.1, hop.2.2, hz, rfl⟩, by simpa using hts, hns⟩
  have h1 := (h hD).1 w.drew hw.drew
  have := wpAny_of_G _ _ _ _ h1
  simpa [hl] using this
end
end Go.Sx
namespace Go.Sx
open Go
/-- A slice that grows, or one that was written out with no elements. -/
def Gr (L : Heap) (E : TypeId) (m : Nat) (v : Value) (n : Nat) (cs : List Value) : Prop :=
  Buf L E m v n cs ∨ (n = 0 ∧ cs = [] ∧ ∃ b, v = vsl b 0 0 0 ∧ look L b = some (.cells #[] E (0, 0)))
theorem Gr.nl {L : Heap} {E : TypeId} {m : Nat} : Gr L E m (.slice none 0 0) 0 [] := .inl .nl
theorem Grew.any {w0 : World} {v v' : Value} {L L' : Heap} (h : Grew w0 v L L') (hv : slB v = none) : Grew w0 v' L L' :=
  ⟨h.keys, h.new, fun c o _ hl => h.look c o (by rw [hv]; simp) hl⟩
theorem Gr.keep {L L' : Heap} {E : TypeId} {m n : Nat} {v : Value} {cs : List Value} (h : Gr L E m v n cs) (hk : ∀ b o, slB v = some b → look L b = some o → look L' b = some o) : Gr L' E m v n cs := by
  rcases h with h | ⟨h1, h2, b, rfl, h3⟩
  · exact .inl (h.keep hk)
  · exact .inr ⟨h1, h2, b, rfl, hk b _ rfl h3⟩
theorem Gr.app {L M : Heap} {E : TypeId} {m n : Nat} {v : Value} {cs : List Value} (h : Gr L E m v n cs) : Gr (L ++ M) E m v n cs := h.keep fun _ _ _ hl => look_app hl
theorem Gr.len {L : Heap} {E : TypeId} {m n : Nat} {v : Value} {cs : List Value} (h : Gr L E m v n cs) (x : Bool × Nat) : lenV (.sl x) v = some (vi n) := by
  rcases h with h | ⟨rfl, rfl, b, rfl, -⟩
  · exact h.len x
  · rfl
theorem Gr.cell {L : Heap} {E : TypeId} {m n : Nat} {v : Value} {cs : List Value} (h : Gr L E m v n cs) : Value.oneCell' v = true ∧ v.cells = #[v] := by
  rcases h with h | ⟨rfl, rfl, b, rfl, -⟩
  · exact h.cell
  · exact ⟨rfl, rfl⟩
theorem Gr.key {L : Heap} {E : TypeId} {m n : Nat} {v : Value} {cs : List Value} (h : Gr L E m v n cs) {b : Nat} (hb : slB v = some b) : b ∈ keys L := by
  rcases h with h | ⟨rfl, rfl, c, rfl, hl⟩
  · rcases h.inv with ⟨rfl, -, -⟩ | ⟨c, cc, rest, rfl, hl, -⟩
    · cases hb
    · cases hb; exact key_of_look hl
  · cases hb; exact key_of_look hl
section
variable {α : Type} {m : Nat} {enc : α → List Value} {z : α} {w : World} {v : Value} {l : List α}
theorem Gr.slM {L : Heap} {E : TypeId} {n : Nat} {cs : List Value} (h : Gr L E m v n cs) (hw : ∀ b o, (b, o) ∈ L → w.heap[b]? = some o) (hl : l.length = n) (hcs : cs = (l.map enc).flatten) (hm : ∀ x, (enc x).length = m) : SlV m enc z w v l := by
  rcases h with h | ⟨rfl, rfl, b, rfl, hlk⟩
  · exact h.slM hw hl hcs hm
  · obtain rfl : l = [] := List.eq_nil_of_length_eq_zero hl
    exact SlV.sl (l := ([] : List α)) (off := 0) (c := 0) (hw _ _ (look_mem hlk)) (fun k hk => by simp at hk) (Nat.le_refl 0) (by simp)
theorem Gr.slV {L : Heap} {E : TypeId} {n : Nat} {cs : List Value} {w0 : World} (h : Gr L E m v n cs) (hw : Hp w0 L w) (hl : l.length = n) (hcs : cs = (l.map enc).flatten) (hm : ∀ x, (enc x).length = m) : SlV m enc z w v l := h.slM hw.has hl hcs hm
theorem flat_len (hm : ∀ x, (enc x).length = m) (l : List α) : (l.map enc).flatten.length = l.length * m := by
  induction l with
  | nil => simp
  | cons x r ih => rw [List.map_cons, List.flatten_cons, List.length_append, ih, hm, List.length_cons, Nat.add_mul, Nat.one_mul, Nat.add_comm]
/-- A literal of one element. -/
theorem AppX.one1 {P : Program} {b : Nat} {E : TypeId} {fz : Nat × Nat} {cs : List Value} (hb : w.heap[b]? = some (.cells cs.toArray E fz)) (hm : cs.length = m) (h1 : cs.all Value.oneCell' = true) : AppX P w m (vsl b 0 1 1) 1 cs := by
  refine AppX.block (w0 := w) (L := []) (by rw [readB_nil]; exact hb) (by simp; omega) ?_ h1 (Hp.refl w)
  rw [List.extract_toArray, List.extract_eq_take_drop, List.drop_zero, List.take_of_length_le (by omega)]
end
section
variable {P : Program} {w0 : World} {f : Fr} {L : Heap} {N : Fr → Heap → Prop} {ops : Array Oper} {rest : List Oper} {md : Md}
  {d : Option Tmp} {ty : TypeId} {ps : String} {af : Array Edge} {g : Option (Nat × Bool)}
end
end Go.Sx
namespace Go.Sx
open Go
theorem readB_app {w0 : World} {L M : Heap} {r : Nat} (h : r ∈ keys L) : readB w0 (L ++ M) r = readB w0 L r := by
  obtain ⟨o, ho⟩ := look_key h
  rw [read_look ho, read_look (look_app ho)]
theorem readB_appR {w0 : World} {L M : Heap} {R : List Nat} (h : ∀ r, r ∈ R → r ∈ keys L) : ∀ r, r ∈ R → readB w0 (L ++ M) r = readB w0 L r := fun r hr => readB_app (h r hr)
theorem New.of_le {n : Nat} : ∀ {D : Heap}, (∀ c, c ∈ keys D → n ≤ c) → New n D
  | [], _ => trivial
  | (b, o) :: r, h => ⟨h b (by simp [keys]), New.of_le fun c hc => h c (by simp only [keys, List.map_cons, List.mem_cons] at hc ⊢; exact .inr hc)⟩
theorem readB_appr {w0 : World} {L M : Heap} {r : Nat} (h : r ∉ keys M) : readB w0 (M ++ L) r = readB w0 L r := by
  unfold readB; rw [look_app_r h]
theorem Ext.new0 {w : World} {D : Heap} (h : Ext w [] D) : New w.heap.size D := by
  have hn := h.new
  have key : ∀ (D : Heap), (∀ c, c ∈ Sx.keys D → w.heap.size ≤ c) → New w.heap.size D := by
    intro D
    induction D with
    | nil => intro _; trivial
    | cons p r ih =>
      obtain ⟨b, o⟩ := p
      intro hh
      exact ⟨hh b (by simp [Sx.keys]), ih fun c hc => hh c (by simp only [Sx.keys, List.map_cons, List.mem_cons] at hc ⊢; exact .inr hc)⟩
  refine key D fun c hc => ?_
  rcases hn c hc with h1 | h1
  · cases h1
  · exact h1
theorem Ext.of_new {w : World} {D : Heap} (h : New w.heap.size D) : Ext w [] D := ⟨fun c hc => .inr (h.le c hc), fun c hc => by cases hc⟩
section
variable {P : Program} {w0 : World} {f : Fr} {L : Heap} {N : Fr → Heap → Prop} {K : Kont} {ops : Array Oper} {rest : List Oper} {md : Md}
  {d : Option Tmp} {ty : TypeId} {ps : String} {af : Array Edge} {g : Option (Nat × Bool)}
theorem look_of_mem {b : Nat} {o : Obj} : ∀ {B : Heap}, (keys B).Nodup → (b, o) ∈ B → look B b = some o
  | [], _, h => by cases h
  | (c, x) :: q, hn, h => by
    simp only [keys, List.map_cons, List.nodup_cons] at hn
    unfold look
    rcases List.mem_cons.1 h with h | h
    · cases h; rw [if_pos rfl]
    · have : c ≠ b := fun e => hn.1 (e ▸ List.mem_map.2 ⟨_, h, rfl⟩)
      rw [if_neg this]
      exact look_of_mem hn.2 h
theorem SR.perm {R : List Nat} {M : Heap} (h : M.Perm L) (hn : (keys L).Nodup) : SR w0 R M = SR w0 R L := by
  refine SR_congr fun r _ => ?_
  have hk : ∀ (A B : Heap), A.Perm B → (keys B).Nodup → ∀ o, look A r = some o → look B r = some o := fun A B hp hB o ho => look_of_mem hB (hp.mem_iff.1 (look_mem ho))
  have hnM : (keys M).Nodup := (List.Perm.nodup_iff (h.map Prod.fst)).2 hn
  unfold readB
  cases hl : look L r with
  | some o => rw [hk L M h.symm hnM o hl]
  | none =>
    cases hm : look M r with
    | none => rfl
    | some o => rw [hk M L h hn o hm] at hl; cases hl
theorem OwD.permL {l : List Oper} {listed : List Bool} {n : Nat} {R ts : List Nat} {a d : Nat} {z : Obj} {M : Heap} (hp : M.Perm L) (h : OwD P w0 l R ts a d z n listed f M N) : OwD P w0 l R ts a d z n listed f L N := by
  refine ⟨fun w hw => ?_, fun b w hb hbL hw => ?_⟩
  · have := h.1 w (hw.perm hp)
    rw [SR.perm hp hw.nodup] at this
    exact this
  · have hnd : (keys L).Nodup := by
      have := hw.nodup
      rw [keys_app, List.nodup_append] at this
      exact this.1
    have := h.2 b w hb (fun hm => hbL (by have := (hp.map Prod.fst).mem_iff.1 hm; exact this)) (hw.perm (hp.append_right _))
    rw [SR.perm hp hnd] at this
    exact this
theorem Cw.permL {c : Code} {M : Heap} (hp : M.Perm L) (h : Cw P w0 c f M K) : Cw P w0 c f L K := fun w hw => h w (hw.perm hp)
theorem Ow.permL {M : Heap} {l : List Oper} (hp : M.Perm L) (h : Ow P w0 ops .seq l f M N) : Ow P w0 ops .seq l f L N := fun w hw => h w (hw.perm hp)
/-- A callee that makes new blocks alone. -/
theorem Ow.callC {l : List Operand} {ts : Array TypeId} {k : FuncId} {S : Value → Heap → Prop} {md' : Md} (he : md.turn = some md')
    (hs : skipped ops f ⟨d, .call ⟨.value (.func k), l.toArray, ts⟩, ty, ps, af, g⟩ = false)
    (hk : ∀ a w, (callFunc k a).run P w = .ok (.enter k a) w)
    (hc : ∀ w, Hp w0 L w → Rets P k (l.map (ev f)).toArray w (XS w [] S))
    (hn : ∀ B v D, Above L B → w0.heap.size ≤ B → New B D → S v D → Ow P w0 ops md' rest (putF f d v) (L ++ D) N) :
    Ow P w0 ops md (⟨d, .call ⟨.value (.func k), l.toArray, ts⟩, ty, ps, af, g⟩ :: rest) f L N :=
  Ow.callN he hs hk (S := fun B v D => New B D ∧ S v D) (fun w hw => (hc w hw).mono fun _v _D h => ⟨h.1.new0, h.2⟩) (fun _ _ _ h => h.1) (fun B v D hA hB hS => hn B v D hA hB hS.1 hS.2)
/-- What is known of some blocks is known by itself. -/
theorem Hp.part {w : World} {X Y : Heap} (h : Hp w0 (X ++ Y) w) : Hp w X w :=
  ⟨fun b o hm => h.has b o (List.mem_append_left _ hm), by have := h.nodup; rw [keys_app, List.nodup_append] at this; exact this.1, fun _ _ _ => rfl, Nat.le_refl _, rfl, rfl, rfl⟩
theorem Hp.join {w w' : World} {X Y D : Heap} (h : Hp w0 (X ++ Y) w) (k : Hp w D w') (h1 : ∀ c, c ∈ keys X → c ∈ keys D) (h2 : ∀ c, c ∈ keys D → c ∈ keys X ∨ w.heap.size ≤ c) : Hp w0 (D ++ Y) w' := by
  have hnd := h.nodup
  rw [keys_app, List.nodup_append] at hnd
  have hY : ∀ c, c ∈ keys Y → c ∉ keys D := by
    intro c hc hd
    rcases h2 c hd with hx | hx
    · exact hnd.2.2 c hx c hc rfl
    · have := h.lt (b := c) (by rw [keys_app]; exact List.mem_append_right _ hc)
      omega
  have ht := h.trans k
  have e : (X ++ Y).filter (fun p => !(keys D).contains p.1) = Y := by
    rw [List.filter_append, filter_keys_all hY]
    have : X.filter (fun p => !(keys D).contains p.1) = [] := by
      rw [List.filter_eq_nil_iff]
      intro p hp
      have := h1 p.1 (List.mem_map.2 ⟨p, hp, rfl⟩)
      simp [this]
    rw [this, List.nil_append]
  rw [e] at ht
  exact ht.perm List.perm_append_comm
/-- What is appended to a slice of a chunk. -/
theorem Ow.appendX {ts tx e : TypeId} {m : Bool × Nat} {z : Value} {s x : Operand} {n k : Nat} {cs new : List Value} {dx : TypeDesc} {md' : Md} {X Y : Heap} (sv : Value) (hL : L = X ++ Y) (hsv : ev f s = sv) (he : md.turn = some md')
    (hs : skipped ops f ⟨d, .call ⟨.builtin .append, #[s, x], #[ts, tx]⟩, ty, ps, af, g⟩ = false)
    (hu : P.underlying ts = some (.slice e)) (hm : aggT P e = some m) (hi : bytesOk P e = true) (hz : zeroV P e = some z) (hzs : z.cells.size = m.2) (hux : P.underlying tx = some dx) (hnx : ∀ k, dx ≠ .int k)
    (hB : Gr X e m.2 sv n cs) (hX : ∀ w, Hp w0 L w → AppX P w m.2 (ev f x) k new) (hk : 0 < k) (hbig : 2 * (n + k) + 768 ≤ 2 ^ 38)
    (hn : ∀ B v' D, Above L B → w0.heap.size ≤ B → Buf D e m.2 v' (n + k) (cs ++ new) → (∀ c, c ∈ keys X → c ∈ keys D) → (∀ c, c ∈ keys D → c ∈ keys X ∨ B ≤ c) → (∀ c o, slB sv ≠ some c → look X c = some o → look D c = some o) → Ow P w0 ops md' rest (putF f d v') (D ++ Y) N) :
    Ow P w0 ops md (⟨d, .call ⟨.builtin .append, #[s, x], #[ts, tx]⟩, ty, ps, af, g⟩ :: rest) f L N := by
  subst hL
  refine Ow.step he rfl hs fun w hw => ?_
  have hp := hw.part
  have hA : Above (X ++ Y) w.heap.size := above_of fun b hb => hw.lt hb
  have fin : ∀ v' w' D, (Builtin.append_ #[ts, tx] ty #[sv, ev f x]).run P w = .ok v' w' → Hp w D w' → Buf D e m.2 v' (n + k) (cs ++ new) → (∀ c, c ∈ keys X → c ∈ keys D) → (∀ c, c ∈ keys D → c ∈ keys X ∨ w.heap.size ≤ c) → (∀ c o, slB sv ≠ some c → look X c = some o → look D c = some o) →
      (∃ v w' L', (execOp (ev f) ⟨d, .call ⟨.builtin .append, #[s, x], #[ts, tx]⟩, ty, ps, af, g⟩).run P w = .ok (.value v) w' ∧ Hp w0 L' w' ∧ Ow P w0 ops md' rest (putF f d v) L' N) := by
    intro v' w' D hr hD hb h1 h2 h3
    refine ⟨v', w', D ++ Y, ?_, hw.join hD h1 h2, hn w.heap.size v' D hA hw.size hb h1 h2 h3⟩
    simp only [execOp, resolve, Sem.run_bind, Sem.run_pure, Result.andThen_ok, invoke, builtin, List.map_toArray, List.map_cons, List.map_nil, hsv]
    rw [hr]
    rfl
  have hX' : ∀ w', Hp w [] w' → True := fun _ _ => trivial
  rcases hB with hB | ⟨rfl, rfl, b, rfl, hlk⟩
  · obtain ⟨v', w', D, hr, hD, hb, hg, -⟩ := run_append (w0 := w) (L := X) (ty := ty) (x := ev f x) hp hu hm hi hz hzs hux hnx hB (fun w2 hw2 => hX w2 (by
      refine hw.join hw2 (fun c hc => hc) (fun c hc => .inl hc))) hbig
    exact .inl (fin v' w' D hr hD hb hg.keys (fun c hc => (hg.new c hc).imp id And.right) hg.look)
  · rcases run_appendEm (w0 := w) (L := X) (ty := ty) (b := b) (x := ev f x) hp hu hm hi hz hzs hux hnx (fun w2 hw2 => hX w2 (by
      refine hw.join hw2 (fun c hc => hc) (fun c hc => .inl hc))) hbig with ⟨h0, -⟩ | ⟨-, v', w', D, hr, hD, hb, hg, -⟩
    · omega
    · exact .inl (fin v' w' D hr hD hb hg.keys (fun c hc => (hg.new c hc).imp id And.right) (fun c o _ hl => hg.look c o (by simp [slB]) hl))
end
/-- A slice that grows, somewhere among some blocks. -/
def GrI (D : Heap) (E : TypeId) (m : Nat) (v : Value) (n : Nat) (cs : List Value) : Prop := ∃ X, (∀ p, p ∈ X → p ∈ D) ∧ Gr X E m v n cs
theorem Gr.i {X D : Heap} {E : TypeId} {m n : Nat} {v : Value} {cs : List Value} (h : Gr X E m v n cs) (hX : ∀ p, p ∈ X → p ∈ D) : GrI D E m v n cs := ⟨X, hX, h⟩
theorem GrI.mono {D D' : Heap} {E : TypeId} {m n : Nat} {v : Value} {cs : List Value} (h : GrI D E m v n cs) (hX : ∀ p, p ∈ D → p ∈ D') : GrI D' E m v n cs := by
  obtain ⟨X, h1, h2⟩ := h; exact ⟨X, fun p hp => hX p (h1 p hp), h2⟩
theorem GrI.slV {α : Type} {m : Nat} {enc : α → List Value} {z : α} {w0 w : World} {v : Value} {l : List α} {D : Heap} {E : TypeId} {n : Nat} {cs : List Value} (h : GrI D E m v n cs) (hw : Hp w0 D w) (hl : l.length = n) (hcs : cs = (l.map enc).flatten) (hm : ∀ x, (enc x).length = m) : SlV m enc z w v l := by
  obtain ⟨X, h1, h2⟩ := h
  exact h2.slM (fun b o hm => hw.has b o (h1 _ hm)) hl hcs hm
section
variable {P : Program} {w0 : World} {f : Fr} {L : Heap} {N : Fr → Heap → Prop}
theorem look_app_r' {L _M : Heap} {b : Nat} {o : Obj} (h : b ∉ keys L) : look (L ++ [(b, o)]) b = some o := by
  rw [look_app_r h]; exact look_same _ _ _
theorem setB_app_r {b : Nat} {o x : Obj} : ∀ {L : Heap}, b ∉ keys L → setB (L ++ [(b, o)]) b x = L ++ [(b, x)]
  | [], _ => by rw [List.nil_append, setB_same]; rfl
  | (c, y) :: r, h => by
    simp only [keys, List.map_cons, List.mem_cons, not_or] at h
    rw [List.cons_append, setB_other _ _ _ _ _ (Ne.symm h.1), setB_app_r (by simpa [keys] using h.2)]; rfl
end
end Go.Sx
namespace Go.Sx
open Go
/-- A slice that is written out with one element of some cells. -/
theorem slice_one {P : Program} {t e : TypeId} {m : Nat} {zc : Array Value} {cs : List Value} (hu : P.underlying t = some (.slice e)) (ha : aggT P e = some (true, m)) (hz : zeroV P e = some (.agg zc)) (hm : 0 < m ∧ m ≤ 16777216) (hc : cs.length = m) :
    sliceB P t 1 [(0, .agg cs.toArray)] = some (e, cs.toArray) := by
  have h2 : Value.cells (.agg cs.toArray) = cs.toArray := cells_agg _
  have hg : ¬ (1 * m > 2 ^ 24) := by simp; omega
  have h0 : ¬ (1 * m = 0) := by omega
  simp only [sliceB, hu, ha, hz, Option.map_some]
  rw [if_neg hg, if_neg h0]
  simp only
  generalize hI : (Array.range (1 * m)).map (fun x => (Value.cells (.agg zc))[x % (Value.cells (.agg zc)).size]!) = I
  have hIs : I.size = m := by rw [← hI]; simp
  have hfl : Instr.fill (fun i => some (i * m, m)) I [(0, Value.agg cs.toArray)] = some cs.toArray := by
    unfold Instr.fill
    have s3 : cs.toArray.size = m := by simp [hc]
    simp only [h2, s3, hIs, Nat.zero_mul, ne_eq, not_true_eq_false, decide_false, Bool.false_or, Nat.zero_add, Nat.lt_irrefl, gt_iff_lt, Bool.false_eq_true, ↓reduceIte]
    unfold Instr.fill
    congr 1
    have hz := foldl_putC cs 0 0 I
    rw [Nat.add_zero, putC_all I cs (by rw [hc, hIs])] at hz
    simp only [Nat.zero_add] at hz
    rw [← Array.foldl_toList, Array.toList_zipIdx]
    exact hz
  rw [hfl]
  rfl
end Go.Sx
namespace Go.Sx
open Go
/-- Is a text less than another one? -/
abbrev ltB (a b : List UInt8) : Bool := Op.bytesLess a b
theorem ltB_eq : ∀ (x y : List UInt8), ltB x y = decide (x < y)
  | [], [] => by simp [ltB, Op.bytesLess]
  | _ :: _, [] => by simp [ltB, Op.bytesLess]
  | [], _ :: _ => by simp [ltB, Op.bytesLess]
  | a :: x, b :: y => by
    have ih := ltB_eq x y
    simp only [ltB] at ih ⊢
    rw [Op.bytesLess, ih]
    simp only [List.cons_lt_cons_iff]
    by_cases h1 : a < b <;> by_cases h2 : a = b <;> by_cases h3 : x < y <;> simp [h1, h2, h3]
theorem ltB_irrefl (a : List UInt8) : ltB a a = false := by
  rw [ltB_eq]; simp
theorem ltB_trans {a b c : List UInt8} (h : ltB a b = true) (k : ltB b c = true) : ltB a c = true := by
  rw [ltB_eq, decide_eq_true_eq] at *
  exact List.lt_trans h k
theorem ltB_asymm {a b : List UInt8} (h : ltB a b = true) : ltB b a = false := by
  cases hb : ltB b a
  · rfl
  · have := ltB_trans h hb
    rw [ltB_irrefl] at this; cases this
theorem ltB_total {a b : List UInt8} (h : ltB a b = false) (hne : a ≠ b) : ltB b a = true := by
  rw [ltB_eq, decide_eq_false_iff_not] at h
  rw [ltB_eq, decide_eq_true_eq]
  rcases Std.Trichotomous.rel_or_eq_or_rel_swap (r := (· < · : List UInt8 → List UInt8 → Prop)) (a := a) (b := b) with h1 | h1 | h1
  · exact absurd h1 h
  · exact absurd h1 hne
  · exact h1
end Go.Sx
namespace Go.StP
open Go Go.Sx
variable {α : Type} (key : α → List UInt8)
/-- Is one to stand ahead of the other one? -/
def lt (a b : α) : Bool := ltB (key a) (key b)
def Sorted (l : List α) : Prop := l.Pairwise fun a b => lt key b a = false
/-- What bears a key, in order. -/
def of (k : List UInt8) (l : List α) : List α := l.filter fun a => key a == k
/-- The same, for every key. -/
def St (l l' : List α) : Prop := ∀ k, of key k l' = of key k l
theorem St.refl (l : List α) : St key l l := fun _ => rfl
variable {key}
theorem St.trans {a b c : List α} (h : St key a b) (h' : St key b c) : St key a c := fun k => (h' k).trans (h k)
theorem St.symm {a b : List α} (h : St key a b) : St key b a := fun k => (h k).symm
theorem of_app (k : List UInt8) (a b : List α) : of key k (a ++ b) = of key k a ++ of key k b := List.filter_append ..
theorem St.app {a a' b b' : List α} (h : St key a a') (h' : St key b b') : St key (a ++ b) (a' ++ b') := fun k => by rw [of_app, of_app, h, h']
theorem mem_of {k : List UInt8} {l : List α} {x : α} : x ∈ of key k l ↔ x ∈ l ∧ key x = k := by
  unfold of; rw [List.mem_filter]; simp
theorem St.mem {a b : List α} (h : St key a b) (x : α) : x ∈ b ↔ x ∈ a := by
  have e := h (key x)
  have h1 : x ∈ b ↔ x ∈ of key (key x) b := by rw [mem_of]; simp
  have h2 : x ∈ a ↔ x ∈ of key (key x) a := by rw [mem_of]; simp
  rw [h1, h2, e]
theorem of_none {k : List UInt8} {l : List α} (h : ∀ x, x ∈ l → key x ≠ k) : of key k l = [] := by
  unfold of
  rw [List.filter_eq_nil_iff]
  intro x hx
  simpa using h x hx
/-- Two lists that share no key may change places. -/
theorem St.swap {a b : List α} (h : ∀ x, x ∈ a → ∀ y, y ∈ b → key x ≠ key y) : St key (a ++ b) (b ++ a) := by
  intro k
  rw [of_app, of_app]
  by_cases ha : ∃ x, x ∈ a ∧ key x = k
  · obtain ⟨x, hx, rfl⟩ := ha
    have : of key (key x) b = [] := of_none fun y hy e => h x hx y hy e.symm
    rw [this, List.append_nil, List.nil_append]
  · have : of key k a = [] := of_none fun x hx e => ha ⟨x, hx, e⟩
    rw [this, List.append_nil, List.nil_append]
theorem lt_trans {a b c : α} (h : lt key a b = true) (k : lt key b c = true) : lt key a c = true := ltB_trans h k
theorem lt_irrefl (a : α) : lt key a a = false := ltB_irrefl _
theorem eq_of {a b : α} (h : lt key a b = false) (k : lt key b a = false) : key a = key b := by
  cases hk : decide (key a = key b)
  · have hne : key a ≠ key b := of_decide_eq_false hk
    have := ltB_total h hne
    unfold lt at k
    rw [this] at k; cases k
  · exact of_decide_eq_true hk
theorem St.head {a b : α} {l l' : List α} (hs : Sorted key (a :: l)) (hs' : Sorted key (b :: l')) (h : St key (a :: l) (b :: l')) : a = b ∧ St key l l' := by
  have h1 : lt key b a = false := by
    have hb : b ∈ a :: l := (h.mem b).1 List.mem_cons_self
    rcases List.mem_cons.1 hb with rfl | hb
    · exact lt_irrefl _
    · exact (List.pairwise_cons.1 hs).1 b hb
  have h2 : lt key a b = false := by
    have ha : a ∈ b :: l' := (h.mem a).2 List.mem_cons_self
    rcases List.mem_cons.1 ha with rfl | ha
    · exact lt_irrefl _
    · exact (List.pairwise_cons.1 hs').1 a ha
  have hk : key a = key b := eq_of h2 h1
  have he := h (key a)
  unfold of at he
  rw [List.filter_cons, List.filter_cons, if_pos (by simp [hk]), if_pos (by simp)] at he
  have hab : b = a := (List.cons.inj he).1
  refine ⟨hab.symm, fun k => ?_⟩
  have hk' := h k
  subst hab
  unfold of at hk' ⊢
  rw [List.filter_cons, List.filter_cons] at hk'
  split at hk'
  · exact (List.cons.inj hk').2
  · exact hk'
/-- There is one such list. -/
theorem St.eq : ∀ {l l' : List α}, Sorted key l → Sorted key l' → St key l l' → l = l'
  | [], [], _, _, _ => rfl
  | [], b :: l', _, _, h => by
    have : b ∈ ([] : List α) := (h.mem b).1 List.mem_cons_self
    cases this
  | a :: l, [], _, _, h => by
    have : a ∈ ([] : List α) := (h.mem a).2 List.mem_cons_self
    cases this
  | a :: l, b :: l', hs, hs', h => by
    obtain ⟨rfl, h'⟩ := St.head hs hs' h
    rw [St.eq (List.pairwise_cons.1 hs).2 (List.pairwise_cons.1 hs').2 h']
theorem Sorted.app {a b : List α} (ha : Sorted key a) (hb : Sorted key b) (h : ∀ x, x ∈ a → ∀ y, y ∈ b → lt key y x = false) : Sorted key (a ++ b) :=
  List.pairwise_append.2 ⟨ha, hb, h⟩
theorem Sorted.left {a b : List α} (h : Sorted key (a ++ b)) : Sorted key a := (List.pairwise_append.1 h).1
theorem Sorted.right {a b : List α} (h : Sorted key (a ++ b)) : Sorted key b := (List.pairwise_append.1 h).2.1
end Go.StP
namespace Go.Sx
open Go
section
variable {α : Type} (enc : α → List Value)
/-- A block of elements. -/
def rowO (E : TypeId) (rest : List Value) (d : List α) : Obj := .cells ((d.map enc).flatten ++ rest).toArray E (0, 0)
variable {enc} {m : Nat} {E : TypeId} {rest : List Value} {d : List α} {z : α}
theorem row_split (hm : ∀ x, (enc x).length = m) {k : Nat} (hk : k < d.length) : ∃ A C, (d.map enc).flatten ++ rest = A ++ (enc (d.getD k z) ++ C) ∧ A.length = k * m ∧ ∀ x, ((d.set k x).map enc).flatten ++ rest = A ++ (enc x ++ C) := by
  refine ⟨((d.take k).map enc).flatten, ((d.drop (k + 1)).map enc).flatten ++ rest, ?_, ?_, fun x => ?_⟩
  · have e : d = d.take k ++ d.getD k z :: d.drop (k + 1) := by
      rw [List.getD_eq_getElem?_getD, List.getElem?_eq_getElem hk, Option.getD_some, List.getElem_cons_drop, List.take_append_drop]
    have e2 := congrArg (fun l => (l.map enc).flatten ++ rest) e
    simp only [List.map_append, List.map_cons, List.flatten_append, List.flatten_cons, List.append_assoc] at e2
    exact e2
  · rw [flat_len hm, List.length_take, Nat.min_eq_left (Nat.le_of_lt hk)]
  · have e : d.set k x = d.take k ++ x :: d.drop (k + 1) := List.set_eq_take_append_cons_drop.trans (by rw [if_pos hk])
    rw [e]
    simp only [List.map_append, List.map_cons, List.flatten_append, List.flatten_cons, List.append_assoc]
theorem load_row (hm : ∀ x, (enc x).length = m) (k : Nat) (hk : k < d.length) : loadV (some (true, m)) (some (rowO enc E rest d)) (k * m) = some (.agg (enc (d.getD k z)).toArray) := by
  obtain ⟨A, C, e, hA, -⟩ := row_split (z := z) (rest := rest) hm hk
  unfold rowO
  rw [e]
  exact load_agg A _ C E (0, 0) hA (hm _)
theorem store_row (hm : ∀ x, (enc x).length = m) (h1 : ∀ x, (enc x).all Value.oneCell' = true) (k : Nat) (x : α) (a : Bool) (hk : k < d.length) :
    storeV (some (a, m)) (some (rowO enc E rest d)) (k * m) (.agg (enc x).toArray) = some (rowO enc E rest (d.set k x)) := by
  obtain ⟨A, C, e, hA, e2⟩ := row_split (z := x) (rest := rest) hm hk
  unfold rowO
  rw [e, e2 x]
  exact store_mid A _ _ C a _ E hA (hm _) (cells_agg _) (hm _) (h1 _)
end
section
variable {P : Program} {w0 : World} {f : Fr} {L : Heap} {N : Fr → Heap → Prop} {ops : Array Oper} {rest : List Oper} {md : Md} {d : Option Tmp} {ty : TypeId} {ps : String} {af : Array Edge} {g : Option (Nat × Bool)}
end
end Go.Sx
namespace Go.StP
open Go Go.Sx
variable {α : Type} {key : α → List UInt8} {z : α}
/-! ### Places -/
theorem getD_app_l {a b : List α} {k : Nat} (h : k < a.length) : (a ++ b).getD k z = a.getD k z := by
  rw [List.getD_eq_getElem?_getD, List.getD_eq_getElem?_getD, List.getElem?_append_left h]
theorem getD_app_r {a b : List α} {k : Nat} (h : a.length ≤ k) : (a ++ b).getD k z = b.getD (k - a.length) z := by
  rw [List.getD_eq_getElem?_getD, List.getD_eq_getElem?_getD, List.getElem?_append_right h]
theorem getD_mem {l : List α} {k : Nat} (h : k < l.length) : l.getD k z ∈ l := by
  rw [List.getD_eq_getElem?_getD, List.getElem?_eq_getElem h]; exact List.getElem_mem h
theorem mem_getD {l : List α} {x : α} (h : x ∈ l) : ∃ k, k < l.length ∧ l.getD k z = x := by
  obtain ⟨k, hk, rfl⟩ := List.mem_iff_getElem.1 h
  exact ⟨k, hk, by rw [List.getD_eq_getElem?_getD, List.getElem?_eq_getElem hk]; rfl⟩
theorem getD_take {l : List α} {k n : Nat} (h : k < n) : (l.take n).getD k z = l.getD k z := by
  rw [List.getD_eq_getElem?_getD, List.getD_eq_getElem?_getD, List.getElem?_take, if_pos h]
theorem drop_cons {l : List α} {k : Nat} (h : k < l.length) : l.drop k = l.getD k z :: l.drop (k + 1) := by
  rw [List.getD_eq_getElem?_getD, List.getElem?_eq_getElem h]
  exact List.drop_eq_getElem_cons h
theorem take_snoc {l : List α} {k : Nat} (h : k < l.length) : l.take (k + 1) = l.take k ++ [l.getD k z] := by
  rw [List.getD_eq_getElem?_getD, List.getElem?_eq_getElem h]
  exact List.take_succ_eq_append_getElem h
theorem Sorted.at_ {l : List α} (h : Sorted key l) {i j : Nat} (hij : i ≤ j) (hj : j < l.length) : lt key (l.getD j z) (l.getD i z) = false := by
  rcases Nat.lt_or_eq_of_le hij with h1 | rfl
  · have := List.pairwise_iff_getElem.1 h i j (by omega) hj h1
    rw [List.getD_eq_getElem?_getD, List.getD_eq_getElem?_getD, List.getElem?_eq_getElem hj, List.getElem?_eq_getElem (show i < l.length by omega)]
    exact this
  · exact lt_irrefl _
/-! ### Two that stand side by side change places -/
/-- x stands in s, behind the first k of it. -/
def slide (a s : List α) (x : α) (b : List α) (k : Nat) : List α := a ++ (s.take k ++ (x :: (s.drop k ++ b)))
end Go.StP
