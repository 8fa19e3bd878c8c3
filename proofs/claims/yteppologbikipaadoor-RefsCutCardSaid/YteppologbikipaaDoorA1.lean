/-
  Part 1 of the walk: contracts of the functions that the law reaches, and the calculus they stand on.
  No conditions.
-/
import Derived.Test.YteppologbikipaaDoorA0
import Derived.Test.YteppologbikipaaDoorProg
namespace Go.Sx
open Go
set_option linter.unusedSimpArgs false

/-! ### Known blocks behind a name -/
theorem look_app {L M : Heap} {b : Nat} {o : Obj} (h : look L b = some o) : look (L ++ M) b = some o := by
  induction L with
  | nil => cases h
  | cons p r ih =>
    obtain ⟨c, x⟩ := p
    simp only [List.cons_append, look] at h ⊢
    split
    · rename_i e; rw [if_pos e] at h; exact h
    · rename_i e; rw [if_neg e] at h; exact ih h
theorem look_app_r {L M : Heap} {b : Nat} (h : b ∉ keys L) : look (L ++ M) b = look M b := by
  induction L with
  | nil => rfl
  | cons p r ih =>
    obtain ⟨c, x⟩ := p
    simp only [keys, List.map_cons, List.mem_cons, not_or] at h
    simp only [List.cons_append, look]
    rw [if_neg (fun e => h.1 e.symm)]
    exact ih h.2
theorem look_setB {L : Heap} {b : Nat} {x o : Obj} (h : look L b = some o) : look (setB L b x) b = some x := by
  induction L with
  | nil => cases h
  | cons p r ih =>
    obtain ⟨c, y⟩ := p
    simp only [look] at h
    simp only [setB]
    split
    · simp [look, *]
    · rename_i e
      rw [if_neg e] at h
      simp only [look]
      rw [if_neg e]
      exact ih h
theorem look_setB_ne {L : Heap} {b c : Nat} {x : Obj} (h : b ≠ c) : look (setB L b x) c = look L c := by
  induction L with
  | nil => rfl
  | cons p r ih =>
    obtain ⟨d, y⟩ := p
    simp only [setB]
    split
    · rename_i e
      subst e
      simp [look, h]
    · simp only [look]
      split
      · rfl
      · exact ih
theorem key_of_look {L : Heap} {b : Nat} {o : Obj} (h : look L b = some o) : b ∈ keys L := List.mem_map.2 ⟨_, look_mem h, rfl⟩
theorem look_key {L : Heap} {b : Nat} (h : b ∈ keys L) : ∃ o, look L b = some o := by
  cases hl : look L b with
  | some o => exact ⟨o, rfl⟩
  | none => exact absurd h (look_none hl)
theorem read_look {w0 : World} {L : Heap} {b : Nat} {o : Obj} (h : look L b = some o) : readB w0 L b = some o := by
  unfold readB; rw [h]
theorem keys_app (L M : Heap) : keys (L ++ M) = keys L ++ keys M := List.map_append
theorem above_to {L : Heap} {n b : Nat} (h : Above L n) (hb : b ∈ keys L) : b < n := by
  induction L with
  | nil => cases hb
  | cons p r ih =>
    obtain ⟨c, y⟩ := p
    simp only [keys, List.map_cons, List.mem_cons] at hb
    rcases hb with rfl | hb
    · exact h.1
    · exact ih h.2 hb

/-! ### Cells one behind the other -/
theorem putC_app (vs : List Value) : ∀ (A B : List Value), vs.length ≤ B.length → putC (A ++ B).toArray A.length vs = (A ++ vs ++ B.drop vs.length).toArray := by
  induction vs with
  | nil => intro A B _; simp [putC]
  | cons v r ih =>
    intro A B h
    cases B with
    | nil => simp at h
    | cons x B =>
      have e : (A ++ x :: B).toArray.setIfInBounds A.length v = ((A ++ [v]) ++ B).toArray := by
        rw [List.setIfInBounds_toArray]
        simp
      have h' := ih (A ++ [v]) B (by simpa using h)
      simp only [List.length_append, List.length_cons, List.length_nil, Nat.zero_add] at h'
      rw [putC, e, h']
      simp

theorem growBy_le (N : Nat) : ∀ r c, c ≤ 2 * N + 768 → Builtin.growBy N r c ≤ 2 * N + 768
  | 0, c, h => h
  | r + 1, c, h => by
    unfold Builtin.growBy
    split
    · exact h
    · exact growBy_le N r _ (by omega)
theorem nextslicecap_le {N c : Nat} (h : c < N) : Builtin.nextslicecap N c ≤ 2 * N + 768 := by
  unfold Builtin.nextslicecap
  split
  · omega
  · split
    · omega
    · exact growBy_le N 4 c (by omega)

/-- What is appended: k elements, these cells. -/
structure AppX (P : Program) (w : World) (size : Nat) (x : Value) (k : Nat) (new : List Value) : Prop where
  len : (Builtin.lenOf x).run P w = .ok k w
  cells : (Builtin.firstCells size k x).run P w = .ok new.toArray w
  one : new.all Value.oneCell' = true
  size : new.length = k * size

theorem AppX.text (P : Program) (w : World) (l : List UInt8) : AppX P w 1 (vs l) l.length (l.map v8) := by
  refine ⟨?_, ?_, ?_, by simp⟩
  · simp only [vs, Builtin.lenOf, size_mk]; rfl
  · simp only [vs, Builtin.firstCells]
    show Result.ok _ w = _
    congr 1
    have : ((ByteArray.mk l.toArray).extract 0 l.length).data = l.toArray := by
      rw [ByteArray.data_extract]
      simp
    rw [this]
    simp [v8]
  · rw [List.all_map, List.all_eq_true]; intro x _; rfl

/-- An element has some bytes, and not too many. -/
def bytesOk (P : Program) (e : TypeId) : Bool := match P.info? e with
  | some i => i.bytes != 0 && decide (i.bytes ≤ 1024)
  | none => false
theorem bytesOk_spec {P : Program} {e : TypeId} {j : Nat} (h : bytesOk P e = true) (hj : j ≤ 2 ^ 38) : ∃ i, P.info? e = some i ∧ i.bytes ≠ 0 ∧ j * i.bytes ≤ 2 ^ 48 := by
  unfold bytesOk at h
  cases hi : P.info? e with
  | none => rw [hi] at h; cases h
  | some i =>
    rw [hi] at h
    simp only [Bool.and_eq_true, bne_iff_ne, ne_eq, decide_eq_true_eq] at h
    refine ⟨i, rfl, h.1, ?_⟩
    calc j * i.bytes ≤ 2 ^ 38 * 1024 := Nat.mul_le_mul hj h.2
      _ = 2 ^ 48 := by decide
theorem nh_any (L : Heap) (k : Heap → Prop) : nh L k = k L := (rfl)

/-- A slice that grows: what it holds stands in a block of its own. -/
inductive Buf (L : Heap) (E : TypeId) (size : Nat) : Value → Nat → List Value → Prop
  | nl : Buf L E size (.slice none 0 0) 0 []
  | at_ {b n c : Nat} {cs rest : List Value} (hl : look L b = some (.cells (cs ++ rest).toArray E (0, 0))) (h1 : cs.length = n * size) (h2 : rest.length = (c - n) * size) (h3 : n ≤ c) (h4 : 0 < c) :
    Buf L E size (vsl b 0 n c) n cs

/-- The block in which a slice lies. -/
def slB : Value → Option Nat
  | .slice (some a) _ _ => some a.block
  | _ => none

theorem Buf.keep {L L' : Heap} {E : TypeId} {size n : Nat} {v : Value} {cs : List Value} (h : Buf L E size v n cs) (hk : ∀ b o, slB v = some b → look L b = some o → look L' b = some o) : Buf L' E size v n cs := by
  cases h with
  | nl => exact .nl
  | at_ hl h1 h2 h3 h4 => exact .at_ (hk _ _ rfl hl) h1 h2 h3 h4

theorem Buf.setO {L : Heap} {E : TypeId} {size n b : Nat} {v : Value} {cs : List Value} {x : Obj} (h : Buf L E size v n cs) (hb : slB v ≠ some b) : Buf (setB L b x) E size v n cs :=
  h.keep fun c o hc ho => by rw [look_setB_ne (fun e : b = c => hb (by rw [e]; exact hc))]; exact ho
theorem Buf.app {L M : Heap} {E : TypeId} {size n : Nat} {v : Value} {cs : List Value} (h : Buf L E size v n cs) : Buf (L ++ M) E size v n cs := h.keep fun _ _ _ ho => look_app ho
theorem Buf.cell {L : Heap} {E : TypeId} {size n : Nat} {v : Value} {cs : List Value} (h : Buf L E size v n cs) : Value.oneCell' v = true ∧ v.cells = #[v] := by
  cases h <;> exact ⟨rfl, rfl⟩
theorem Buf.len {L : Heap} {E : TypeId} {size n : Nat} {v : Value} {cs : List Value} (h : Buf L E size v n cs) (x : Bool × Nat) : lenV (.sl x) v = some (vi n) := by
  cases h <;> rfl
theorem Buf.inv {L : Heap} {E : TypeId} {size n : Nat} {v : Value} {cs : List Value} (h : Buf L E size v n cs) : (v = .slice none 0 0 ∧ n = 0 ∧ cs = []) ∨
    ∃ b c rest, v = vsl b 0 n c ∧ look L b = some (.cells (cs ++ rest).toArray E (0, 0)) ∧ cs.length = n * size ∧ n ≤ c ∧ 0 < c ∧ rest.length = (c - n) * size := by
  cases h with
  | nl => exact .inl ⟨rfl, rfl, rfl⟩
  | at_ hl h1 h2 h3 h4 => exact .inr ⟨_, _, _, rfl, hl, h1, h3, h4, h2⟩
theorem look_new {L : Heap} {b : Nat} {o : Obj} (h : Above L b) : look (L ++ [(b, o)]) b = some o := by
  rw [look_app_r (fun hm => Nat.lt_irrefl _ (above_to h hm))]; simp [look]

/-- What is known grows: but for the slice's own block nothing is turned. -/
structure Grew (w0 : World) (v : Value) (L L' : Heap) : Prop where
  keys : ∀ c, c ∈ keys L → c ∈ keys L'
  new : ∀ c, c ∈ Sx.keys L' → c ∈ Sx.keys L ∨ (Above L c ∧ w0.heap.size ≤ c)
  look : ∀ c o, slB v ≠ some c → Sx.look L c = some o → Sx.look L' c = some o

theorem Grew.refl (w0 : World) (v : Value) (L : Heap) : Grew w0 v L L := ⟨fun _ h => h, fun _ h => .inl h, fun _ _ _ h => h⟩

section
variable {P : Program} {w0 : World} {L : Heap}

theorem run_append {w : World} {ts tx ty e : TypeId} {m : Bool × Nat} {z s x : Value} {n k : Nat} {cs new : List Value} (hw : Hp w0 L w)
    (hu : P.underlying ts = some (.slice e)) (hm : aggT P e = some m) (hi : bytesOk P e = true) (hz : zeroV P e = some z) (hzs : z.cells.size = m.2) {d : TypeDesc} (hux : P.underlying tx = some d) (hnx : ∀ k, d ≠ .int k)
    (hB : Buf L e m.2 s n cs) (hXa : ∀ w, Hp w0 L w → AppX P w m.2 x k new) (hbig : 2 * (n + k) + 768 ≤ 2 ^ 38) :
    ∃ v' w' L', (Builtin.append_ #[ts, tx] ty #[s, x]).run P w = .ok v' w' ∧ Hp w0 L' w' ∧ Buf L' e m.2 v' (n + k) (cs ++ new) ∧ Grew w0 s L L' ∧ (slB v' = slB s ∨ ∃ c, slB v' = some c ∧ Above L c) := by
  obtain ⟨i, hi, hb0, hbig⟩ := bytesOk_spec hi hbig
  have hti : ∀ w, (typeInfo e).run P w = .ok i w := by
    intro w
    simp only [typeInfo, program, Sem.run_bind]
    show Result.andThen (Result.ok P w) _ = _
    simp only [Result.andThen_ok, hi]
    rfl
  have hmd : (match d with | .int _ => true | _ => false) = false := by
    cases d <;> first | rfl | exact absurd rfl (hnx _)
  have e1 : ∀ {α β : Type} (a : α) (f : α → World → Result β), (Sem.run P (pure a) w).andThen f = f a w := fun _ _ => rfl
  have hX := hXa w hw
  have hxl := hX.len
  have hxc := hX.cells
  have hzv := run_zeroV (P := P) hz
  have room : ∀ (b : Nat) (w : World), (askRoom b).run P w = .ok () w := by
    intro b w
    unfold askRoom
    split <;> rfl
  have zc : ∀ j, (Builtin.zeroCells z.cells j).toList.length = j * m.2 := by
    intro j; simp [Builtin.zeroCells, hzs]
  have hbg : ∀ c, c < n + k → ¬ (Builtin.nextslicecap (n + k) c * i.bytes > 2 ^ 48) := by
    intro c hc
    have := nextslicecap_le hc
    have h2 := Nat.mul_le_mul_right i.bytes this
    omega
  cases hB with
  | nl =>
    by_cases hk : k = 0
    · subst hk
      have hnew : new = [] := List.eq_nil_of_length_eq_zero (by have := hX.size; omega)
      subst hnew
      refine ⟨.slice none 0 0, w, L, ?_, hw, .nl, Grew.refl _ _ _, .inl rfl⟩
      simp only [Builtin.append_, List.getElem?_toArray, List.getElem?_cons_zero, List.getElem?_cons_succ, Sem.run_bind, run_underlying hu w, Result.andThen_ok, run_sizeOf hm w, run_underlying hux w, hmd, e1, Bool.false_eq_true, ↓reduceIte, hxl, Bool.not_false, Nat.add_zero, Nat.le_refl, hxc]
      rfl
    · have hpos : ¬ 0 + k ≤ 0 := by omega
      have hbg' := hbg 0 (by omega)
      simp only [Builtin.append_, List.getElem?_toArray, List.getElem?_cons_zero, List.getElem?_cons_succ, Sem.run_bind, run_underlying hu w, Result.andThen_ok, run_sizeOf hm w, run_underlying hux w, hmd, e1, Bool.false_eq_true, ↓reduceIte, hxl, Bool.not_false, hpos, hti, hb0, or_false, and_false, hbg']
      have hch : (choose (Question.appendCap (0 + k) 0 e)).run P w = .ok ((0 + k) + w.tape w.drawn (.appendCap (0 + k) 0 e) % (2 ^ 63 - (0 + k))) w.drew := rfl
      rw [hch]
      generalize hcc : (0 + k) + w.tape w.drawn (.appendCap (0 + k) 0 e) % (2 ^ 63 - (0 + k)) = c
      have hw1 := hw.drew
      have hX1 := hXa _ hw1
      have hold : (Builtin.firstCells m.2 0 (Value.slice none 0 0)).run P w.drew = .ok #[] w.drew := rfl
      simp only [Result.andThen_ok, room, hold, hX1.cells, hzv]
      refine ⟨_, _, L ++ [(w.drew.heap.size, .cells ([] ++ new ++ (Builtin.zeroCells z.cells (c - (0 + k))).toList).toArray e (0, 0))], rfl, ?_, .at_ (b := w.drew.heap.size) (rest := (Builtin.zeroCells z.cells (c - (0 + k))).toList) ?_ ?_ ?_ (by omega) (by omega), ?_, .inr ⟨_, rfl, above_of fun b hb => hw1.lt hb⟩⟩
      · have ea : ([] ++ new ++ (Builtin.zeroCells z.cells (c - (0 + k))).toList).toArray = #[] ++ new.toArray ++ Builtin.zeroCells z.cells (c - (0 + k)) := by apply Array.ext'; simp
        rw [ea]
        exact hw1.alloc _
      · rw [look_app_r (fun hm => Nat.lt_irrefl _ (hw1.lt hm))]
        simp [look]
      · rw [List.nil_append, hX.size, Nat.zero_add]
      · exact zc _
      · refine ⟨fun c hc => by rw [keys_app]; exact List.mem_append_left _ hc, fun c hc => ?_, fun c o hne ho => look_app ho⟩
        rw [keys_app] at hc
        rcases List.mem_append.1 hc with hc | hc
        · exact .inl hc
        · right
          simp only [keys, List.map_cons, List.map_nil, List.mem_singleton] at hc
          subst hc
          exact ⟨above_of fun b hb => hw1.lt hb, hw1.size⟩
  | @at_ b n c cs rest hl h1 h2 h3 h4 =>
    have hhb := hw.has _ _ (look_mem hl)
    by_cases hin : n + k ≤ c
    · have hlt := (Array.getElem?_eq_some_iff.1 hhb).1
      have hsz := hX.size
      have hst := run_storeCells (P := P) (b := b) (off := n * m.2) (E := e) (fz := (0, 0)) new 0 (cs ++ rest).toArray w hhb (by
        simp only [List.size_toArray, List.length_append, h1, h2, hsz, Nat.add_zero]
        rw [← Nat.add_mul, ← Nat.add_mul]
        exact Nat.mul_le_mul_right _ (by omega)) (.inl (Nat.le_refl 0)) hX.one
      simp only [Builtin.append_, List.getElem?_toArray, List.getElem?_cons_zero, List.getElem?_cons_succ, Sem.run_bind, run_underlying hu w, Result.andThen_ok, run_sizeOf hm w, run_underlying hux w, hmd, e1, Bool.false_eq_true, ↓reduceIte, hxl, Bool.not_false, hin, hxc, add_spot, Nat.zero_add, hst, vsl]
      rw [Nat.add_zero, ← h1, putC_app new cs rest (by rw [h2, hsz]; exact Nat.mul_le_mul_right _ (by omega))]
      refine ⟨vsl b 0 (n + k) c, _, setB L b (.cells (cs ++ new ++ rest.drop new.length).toArray e (0, 0)), rfl, hw.set (key_of_look hl) rfl rfl rfl rfl, .at_ (look_setB hl) ?_ ?_ hin h4, ?_, .inl rfl⟩
      · rw [List.length_append, h1, hsz, Nat.add_mul]
      · rw [List.length_drop, h2, hsz, ← Nat.sub_mul]
        congr 1
        omega
      · refine ⟨fun c hc => by rw [keys_setB]; exact hc, fun c hc => by rw [keys_setB] at hc; exact .inl hc, fun c o hne ho => ?_⟩
        rw [look_setB_ne (fun e => hne (by rw [← e]; rfl))]
        exact ho
    · have hbg' := hbg c (by omega)
      simp only [Builtin.append_, List.getElem?_toArray, List.getElem?_cons_zero, List.getElem?_cons_succ, Sem.run_bind, run_underlying hu w, Result.andThen_ok, run_sizeOf hm w, run_underlying hux w, hmd, e1, Bool.false_eq_true, ↓reduceIte, hxl, Bool.not_false, hin, hti, hb0, or_false, and_false, hbg', vsl]
      have hch : (choose (Question.appendCap (n + k) c e)).run P w = .ok ((n + k) + w.tape w.drawn (.appendCap (n + k) c e) % (2 ^ 63 - (n + k))) w.drew := rfl
      rw [hch]
      generalize hcc : (n + k) + w.tape w.drawn (.appendCap (n + k) c e) % (2 ^ 63 - (n + k)) = c2
      have hw1 := hw.drew
      have hX1 := hXa _ hw1
      have hold : (Builtin.firstCells m.2 n (Value.slice (some ⟨b, 0, none⟩) n c)).run P w.drew = .ok cs.toArray w.drew := by
        simp only [Builtin.firstCells]
        rw [run_loadCells_row (hw1.has _ _ (look_mem hl)) 0 (n * m.2) (by simp only [List.size_toArray, List.length_append, h1]; omega)]
        congr 1
        simp only [Nat.zero_add, List.extract_toArray, ← h1]
        simp
      simp only [Result.andThen_ok, room, hold, hX1.cells, hzv]
      refine ⟨_, _, L ++ [(w.drew.heap.size, .cells (cs ++ new ++ (Builtin.zeroCells z.cells (c2 - (n + k))).toList).toArray e (0, 0))], rfl, ?_, .at_ (b := w.drew.heap.size) (rest := (Builtin.zeroCells z.cells (c2 - (n + k))).toList) ?_ ?_ ?_ (by omega) (by omega), ?_, .inr ⟨_, rfl, above_of fun b hb => hw1.lt hb⟩⟩
      · have ea : (cs ++ new ++ (Builtin.zeroCells z.cells (c2 - (n + k))).toList).toArray = cs.toArray ++ new.toArray ++ Builtin.zeroCells z.cells (c2 - (n + k)) := by apply Array.ext'; simp
        rw [ea]
        exact hw1.alloc _
      · rw [look_app_r (fun hm => Nat.lt_irrefl _ (hw1.lt hm))]
        simp [look]
      · rw [List.length_append, h1, hX.size, Nat.add_mul]
      · exact zc _
      · refine ⟨fun c hc => by rw [keys_app]; exact List.mem_append_left _ hc, fun c hc => ?_, fun c o hne ho => look_app ho⟩
        rw [keys_app] at hc
        rcases List.mem_append.1 hc with hc | hc
        · exact .inl hc
        · right
          simp only [keys, List.map_cons, List.map_nil, List.mem_singleton] at hc
          subst hc
          exact ⟨above_of fun b hb => hw1.lt hb, hw1.size⟩

theorem AppX.block {b off k cap size : Nat} {arr : Array Value} {E : TypeId} {fz : Nat × Nat} {new : List Value} (hr : readB w0 L b = some (.cells arr E fz)) (hn : off + k * size ≤ arr.size) (hc : (arr.extract off (off + k * size)).toList = new)
    (h1 : new.all Value.oneCell' = true) {w : World} (hw : Hp w0 L w) : AppX P w size (vsl b off k cap) k new := by
  refine ⟨rfl, ?_, h1, ?_⟩
  · simp only [vsl, Builtin.firstCells]
    rw [run_loadCells_row (hw.read hr) off (k * size) hn, ← hc]
  · rw [← hc]; simp; omega
theorem AppX.nil (P : Program) (w : World) (size : Nat) : AppX P w size (.slice none 0 0) 0 [] := ⟨rfl, rfl, rfl, by simp⟩

/-! ### Texts that are shared -/
theorem run_loadBytes {b : Nat} {E : TypeId} {fz : Nat × Nat} {arr : Array Value} {w : World} (hb : w.heap[b]? = some (.cells arr E fz)) : ∀ (l : List UInt8) (off : Nat) (acc : ByteArray), (∀ j, j < l.length → arr[off + j]? = some (v8 (l.getD j 0))) →
    (loadBytes ⟨b, off, none⟩ acc l.length).run P w = .ok (acc ++ ⟨l.toArray⟩) w
  | [], off, acc, _ => by
    show Result.ok acc w = _
    congr 1
    apply ByteArray.ext
    simp
  | x :: l, off, acc, h => by
    have h0 := h 0 (by simp)
    simp only [Nat.add_zero, List.getD_cons_zero] at h0
    have hc : w.cell? ⟨b, off, none⟩ = some (v8 x) := by rw [cell_of_row w b _ arr E fz hb]; exact h0
    have hld : (load ⟨b, off, none⟩).run P w = .ok (v8 x) w := by
      simp only [load, Sem.run, hc]
    rw [List.length_cons, loadBytes, Sem.run_bind, hld, Result.andThen_ok]
    simp only [v8, add_spot]
    have e : ((x.toNat : Int).toNat.toUInt8) = x := by
      rw [Int.toNat_natCast]
      exact UInt8.ofNat_toNat
    rw [e, run_loadBytes hb l (off + 1) _ (fun j hj => by
      have := h (j + 1) (by simpa using hj)
      rw [List.getD_cons_succ] at this
      rw [← this]; congr 1; omega)]
    congr 1
    apply ByteArray.ext
    simp

theorem lies_same {p : Program} {e : TypeId} {c n : Nat} (hd : 1 < p.depth) (hs : p.cellsOf e = 1) (hn : n ≤ c) : liesAt p p.depth e (c / p.cellsOf e) 0 e n = true := by
  obtain ⟨d, hd'⟩ : ∃ d, p.depth = d + 2 := ⟨p.depth - 2, by omega⟩
  have hsl : sameLayout p p.depth e e = true := by
    rw [hd']; unfold sameLayout; simp
  rw [hd'] at hsl ⊢
  unfold liesAt
  rw [hd']
  unfold rowAt
  simp [hs, hn, hsl]

theorem unsafeString_eq (ts : Array TypeId) (ty : TypeId) (a : Addr) (len_ : Value) : Builtin.unsafeString_ ts ty #[.pointer (some a), len_] = (do
    let n ← asInt len_
    let some pt := ts[0]? | stuck "unsafe.String: no argument types"
    if n < 0 then runtimePanic (.error "unsafe.String: len out of range")
    if n > IntKind.i64.max then unsupported (.unsafePointer "String: a length above the largest int")
    if n = 0 then pure (.string .empty)
    else if ← variablesAt a (← elemOf pt) n.toNat then do
      let s ← loadBytes a .empty n.toNat
      freeze a n.toNat
      pure (.string s)
    else unsupported (.unsafePointer "String: not so many bytes at ptr")) := (rfl)

theorem run_unsafeString {w : World} {pt it ty e : TypeId} {b : Nat} {l : List UInt8} {rest : List Value} (hw : Hp w0 L w) (hl : look L b = some (.cells (l.map v8 ++ rest).toArray e (0, 0))) (h0 : 0 < l.length) (hmax : (l.length : Int) ≤ 9223372036854775807)
    (hpt : P.underlying pt = some (.pointer e)) (hs : P.cellsOf e = 1) (hd : 1 < P.depth) :
    ∃ w', (Builtin.unsafeString_ #[pt, it] ty #[vp b 0, vi l.length]).run P w = .ok (vs l) w' ∧ Hp w0 (setB L b (.cells (l.map v8 ++ rest).toArray e (0, l.length))) w' := by
  have hb := hw.has _ _ (look_mem hl)
  have e1 : ∀ {α β : Type} (a : α) (f : α → World → Result β), (Sem.run P (pure a) w).andThen f = f a w := fun _ _ => rfl
  have hlb := run_loadBytes (P := P) hb l 0 .empty (by
    intro j hj
    rw [Nat.zero_add, List.getElem?_toArray, List.getElem?_append_left (by simpa using hj), List.getElem?_map, List.getD_eq_getElem?_getD, List.getElem?_eq_getElem hj]
    rfl)
  have hva : (variablesAt ⟨b, 0, none⟩ e l.length).run P w = .ok true w := by
    have hsh : w.shape? b = some (e, (l.map v8 ++ rest).toArray.size) := by
      simp only [World.shape?, hb]
    have hp : liesAt P P.depth e ((l.map v8 ++ rest).toArray.size / P.cellsOf e) 0 e l.length = true := lies_same hd hs (by simp)
    simp only [variablesAt, program, shape, Sem.run_bind]
    show Result.andThen (Result.ok P w) _ = _
    simp only [Result.andThen_ok]
    show Result.andThen (Result.ok (w.shape? b) w) _ = _
    rw [hsh]
    simp only [Result.andThen_ok]
    rw [hp]
    rfl
  have hel : (elemOf pt).run P w = .ok e w := by
    simp only [elemOf, Sem.run_bind, run_underlying hpt w, Result.andThen_ok]
    rfl
  refine ⟨w.freeze ⟨b, 0, none⟩ l.length, ?_, ?_⟩
  · have hn0 : ¬ ((l.length : Int) < 0) := by omega
    have hnm : ¬ ((l.length : Int) > IntKind.i64.max) := by
      show ¬ ((l.length : Int) > 9223372036854775807); omega
    have hnz : ¬ ((l.length : Int) = 0) := by omega
    have hai : (asInt (vi l.length)).run P w = .ok (l.length : Int) w := rfl
    rw [show vp b 0 = .pointer (some ⟨b, 0, none⟩) from rfl, unsafeString_eq]
    simp only [Sem.run_bind, hai, Result.andThen_ok, List.getElem?_toArray, List.getElem?_cons_zero, hn0, hnm, hnz, ↓reduceIte, hel, Int.toNat_natCast, hva, hlb]
    show Result.ok (Value.string (ByteArray.empty ++ ⟨l.toArray⟩)) _ = _
    congr 2
  · have hne : ¬ l.length = 0 := by omega
    have hlt := (Array.getElem?_eq_some_iff.1 hb).1
    refine hw.set (key_of_look hl) ?_ ?_ ?_ ?_ <;> simp only [World.freeze, hne, ↓reduceIte]
    apply Array.ext_getElem?
    intro i
    rw [Array.getElem?_modify]
    by_cases hi : b = i
    · subst hi
      rw [if_pos rfl, hb]
      simp [hlt]
    · rw [if_neg hi, Array.getElem?_setIfInBounds_ne hi]
end

section
variable {P : Program} {w0 : World} {f : Fr} {L : Heap} {N : Fr → Heap → Prop} {ops : Array Oper} {rest : List Oper} {md : Md}
  {d : Option Tmp} {ty : TypeId} {ps : String} {af : Array Edge} {g : Option (Nat × Bool)}

/-- What is appended to a slice that grows. -/
theorem Ow.append {ts tx e : TypeId} {m : Bool × Nat} {z : Value} {s x : Operand} {n k : Nat} {cs new : List Value} {dx : TypeDesc} {md' : Md} (sv : Value) (hsv : ev f s = sv) (he : md.turn = some md')
    (hs : skipped ops f ⟨d, .call ⟨.builtin .append, #[s, x], #[ts, tx]⟩, ty, ps, af, g⟩ = false)
    (hu : P.underlying ts = some (.slice e)) (hm : aggT P e = some m) (hi : bytesOk P e = true) (hz : zeroV P e = some z) (hzs : z.cells.size = m.2) (hux : P.underlying tx = some dx) (hnx : ∀ k, dx ≠ .int k)
    (hB : Buf L e m.2 sv n cs) (hX : ∀ w, Hp w0 L w → AppX P w m.2 (ev f x) k new) (hbig : 2 * (n + k) + 768 ≤ 2 ^ 38)
    (hn : ∀ v' L', Buf L' e m.2 v' (n + k) (cs ++ new) → Grew w0 sv L L' → (slB v' = slB sv ∨ ∃ c, slB v' = some c ∧ Above L c) → Ow P w0 ops md' rest (putF f d v') L' N) :
    Ow P w0 ops md (⟨d, .call ⟨.builtin .append, #[s, x], #[ts, tx]⟩, ty, ps, af, g⟩ :: rest) f L N := by
  subst hsv
  refine Ow.step he rfl hs fun w hw => ?_
  obtain ⟨v', w', L', hr, hp, hb, hg, hsl⟩ := run_append (ty := ty) hw hu hm hi hz hzs hux hnx hB hX hbig
  refine .inl ⟨v', w', L', ?_, hp, hn v' L' hb hg hsl⟩
  simp only [execOp, resolve, Sem.run_bind, Sem.run_pure, Result.andThen_ok, invoke, builtin, List.map_toArray, List.map_cons, List.map_nil]
  rw [hr]
  rfl

/-- The text that shares a slice's bytes. -/
theorem Ow.unsafeString {pt it e : TypeId} {x y : Operand} {b : Nat} {l : List UInt8} {rs : List Value} {md' : Md} (he : md.turn = some md')
    (hs : skipped ops f ⟨d, .call ⟨.builtin .unsafeString, #[x, y], #[pt, it]⟩, ty, ps, af, g⟩ = false)
    (hx : ev f x = vp b 0) (hy : ev f y = vi l.length) (hl : look L b = some (.cells (l.map v8 ++ rs).toArray e (0, 0))) (h0 : 0 < l.length) (hmax : (l.length : Int) ≤ 9223372036854775807)
    (hpt : P.underlying pt = some (.pointer e)) (hc : P.cellsOf e = 1) (hd : 1 < P.depth)
    (hn : Ow P w0 ops md' rest (putF f d (vs l)) (setB L b (.cells (l.map v8 ++ rs).toArray e (0, l.length))) N) :
    Ow P w0 ops md (⟨d, .call ⟨.builtin .unsafeString, #[x, y], #[pt, it]⟩, ty, ps, af, g⟩ :: rest) f L N := by
  refine Ow.step he rfl hs fun w hw => ?_
  obtain ⟨w', hr, hp⟩ := run_unsafeString (it := it) (ty := ty) hw hl h0 hmax hpt hc hd
  refine .inl ⟨vs l, w', _, ?_, hp, hn⟩
  simp only [execOp, resolve, Sem.run_bind, Sem.run_pure, Result.andThen_ok, invoke, builtin, List.map_toArray, List.map_cons, List.map_nil, hx, hy]
  rw [hr]
  rfl
/-- No text of no bytes. -/
theorem Ow.unsafeStringNil {pt it : TypeId} {x y : Operand} {md' : Md} (he : md.turn = some md')
    (hs : skipped ops f ⟨d, .call ⟨.builtin .unsafeString, #[x, y], #[pt, it]⟩, ty, ps, af, g⟩ = false)
    {p : Option Addr} (hx : ev f x = .pointer p) (hy : ev f y = vi 0)
    (hn : Ow P w0 ops md' rest (putF f d (vs [])) L N) :
    Ow P w0 ops md (⟨d, .call ⟨.builtin .unsafeString, #[x, y], #[pt, it]⟩, ty, ps, af, g⟩ :: rest) f L N := by
  refine Ow.step he rfl hs fun w hw => ?_
  refine .inl ⟨vs [], w, L, ?_, hw, hn⟩
  simp only [execOp, resolve, Sem.run_bind, Sem.run_pure, Result.andThen_ok, invoke, builtin, List.map_toArray, List.map_cons, List.map_nil, hx, hy]
  cases p <;> rfl
theorem Ow.sliceData {t : TypeId} {x : Operand} {v : Value} {md' : Md} (he : md.turn = some md')
    (hs : skipped ops f ⟨d, .call ⟨.builtin .unsafeSliceData, #[x], #[t]⟩, ty, ps, af, g⟩ = false)
    (hx : (∃ n c, ev f x = .slice none n c ∧ v = .pointer none) ∨ ∃ b n c, ev f x = vsl b 0 n c ∧ c ≠ 0 ∧ v = vp b 0)
    (hn : Ow P w0 ops md' rest (putF f d v) L N) :
    Ow P w0 ops md (⟨d, .call ⟨.builtin .unsafeSliceData, #[x], #[t]⟩, ty, ps, af, g⟩ :: rest) f L N := by
  refine Ow.step he rfl hs fun w hw => ?_
  refine .inl ⟨v, w, L, ?_, hw, hn⟩
  simp only [execOp, resolve, Sem.run_bind, Sem.run_pure, Result.andThen_ok, invoke, builtin, List.map_toArray, List.map_cons, List.map_nil]
  rcases hx with ⟨n, c, hx, rfl⟩ | ⟨b, n, c, hx, hc, rfl⟩
  · rw [hx]; rfl
  · rw [hx]
    have e : Builtin.unsafeSliceData_ #[t] ty #[vsl b 0 n c] = (if c ≠ 0 then pure (.pointer (some ⟨b, 0, none⟩)) else do
        if (← viewAt b).isSome then pure (.pointer (some ⟨b, 0, none⟩)) else pure (.pointer (some ⟨← newObj (.view ⟨b, 0, none⟩ (← elemOf ty)), 0, none⟩))) := rfl
    rw [e, if_pos hc]
    rfl
end
end Go.Sx
namespace Go.Sx
open Go
section
variable {P : Program} {w0 : World} {f : Fr} {L : Heap} {N : Fr → Heap → Prop} {ops : Array Oper} {rest : List Oper} {md : Md}
  {d : Option Tmp} {ty : TypeId} {ps : String} {af : Array Edge} {g : Option (Nat × Bool)}

theorem run_toUnsafe {w : World} {s dt t : TypeId} {b off : Nat} {m : Bool × Nat} {cs : Array Value} {E : TypeId} {fz : Nat × Nat} (hb : w.heap[b]? = some (.cells cs E fz)) (ho : off < cs.size) (hm : aggT P t = some m) (hm0 : m.2 ≠ 0)
    (hs : P.underlying s = some (.pointer t)) (hd : P.underlying dt = some .unsafePointer) : (convert s dt (vp b off)).run P w = .ok (vp b off) w := by
  have hsh : w.shape? b = some (E, cs.size) := by simp only [World.shape?, hb]
  have e1 : ∀ {α β : Type} (a : α) (f : α → World → Result β), (Sem.run P (pure a) w).andThen f = f a w := fun _ _ => rfl
  have e2 : (shape b).run P w = .ok (some (E, cs.size)) w := by show Result.ok (w.shape? b) w = _; rw [hsh]
  have hv : (Conv.seenAt ⟨b, off, none⟩).run P w = .ok ⟨b, off, none⟩ w := by
    simp only [Conv.seenAt, viewAt, Sem.run_bind, e2, Result.andThen_ok, Option.isSome_some, ↓reduceIte]
    rfl
  have hci : (cellsIn b).run P w = .ok (some cs.size) w := by
    simp only [cellsIn, Sem.run_bind, e2, Result.andThen_ok]
    rfl
  have hno : (decide (m.2 = 0) || decide (off ≥ cs.size) && (none : Option Nat).isNone) = false := by
    have : ¬ (off ≥ cs.size) := by omega
    simp [hm0, this]
  have hu : (Conv.unsafePointer s dt (vp b off)).run P w = .ok (vp b off) w := by
    simp only [Conv.unsafePointer, vp, Sem.run_bind, run_underlying hs w, run_underlying hd w, Result.andThen_ok, hv, hci, run_sizeOf hm w]
    rw [if_neg (by rw [hno]; simp)]
    rfl
  unfold convert
  simp only [vp, Sem.run_bind, run_underlying hs w, run_underlying hd w, Result.andThen_ok]
  exact hu

theorem run_ofUnsafe {w : World} {s dt t : TypeId} {b off : Nat} {m : Bool × Nat} {cs : Array Value} {E : TypeId} {fz : Nat × Nat} (hb : w.heap[b]? = some (.cells cs E fz)) (hm : aggT P t = some m) (hla : liesAt P P.depth E (cs.size / P.cellsOf E) off t 1 = true)
    (hs : P.underlying s = some .unsafePointer) (hd : P.underlying dt = some (.pointer t)) : (convert s dt (vp b off)).run P w = .ok (vp b off) w := by
  have hsh : w.shape? b = some (E, cs.size) := by simp only [World.shape?, hb]
  have e2 : (shape b).run P w = .ok (some (E, cs.size)) w := by show Result.ok (w.shape? b) w = _; rw [hsh]
  have hv : (Conv.seenAt ⟨b, off, none⟩).run P w = .ok ⟨b, off, none⟩ w := by
    simp only [Conv.seenAt, viewAt, Sem.run_bind, e2, Result.andThen_ok, Option.isSome_some, ↓reduceIte]
    rfl
  have hva : (variablesAt ⟨b, off, none⟩ t 1).run P w = .ok true w := by
    simp only [variablesAt, program, Sem.run_bind]
    show Result.andThen (Result.ok P w) _ = _
    simp only [Result.andThen_ok, e2]
    rw [hla]
    rfl
  have hu : (Conv.unsafePointer s dt (vp b off)).run P w = .ok (vp b off) w := by
    simp only [Conv.unsafePointer, vp, Sem.run_bind, run_underlying hs w, run_underlying hd w, Result.andThen_ok, hv, run_sizeOf hm w, hva]
    by_cases h0 : m.2 = 0
    · simp [h0]
    · simp [h0]
  unfold convert
  simp only [vp, Sem.run_bind, run_underlying hs w, run_underlying hd w, Result.andThen_ok]
  exact hu

theorem Ow.toUnsafe {s dt t : TypeId} {x : Operand} {b off : Nat} {m : Bool × Nat} {cs : Array Value} {E : TypeId} {fz : Nat × Nat} {md' : Md} (he : md.turn = some md') (hsk : skipped ops f ⟨d, .convert s dt x, ty, ps, af, g⟩ = false)
    (hcv : cvT P s dt = .no) (hx : ev f x = vp b off) (hb : readB w0 L b = some (.cells cs E fz)) (ho : off < cs.size) (hm : aggT P t = some m) (hm0 : m.2 ≠ 0) (hs : P.underlying s = some (.pointer t)) (hd : P.underlying dt = some .unsafePointer)
    (hn : Ow P w0 ops md' rest (putF f d (vp b off)) L N) : Ow P w0 ops md (⟨d, .convert s dt x, ty, ps, af, g⟩ :: rest) f L N := by
  refine Ow.step he (by simp [pureK, hcv]) hsk fun w hw => .inl ⟨vp b off, w, L, ?_, hw, hn⟩
  simp only [execOp, Sem.run_bind, hx, run_toUnsafe (hw.read hb) ho hm hm0 hs hd]
  rfl
theorem Ow.ofUnsafe {s dt t : TypeId} {x : Operand} {b off : Nat} {m : Bool × Nat} {cs : Array Value} {E : TypeId} {fz : Nat × Nat} {md' : Md} (he : md.turn = some md') (hsk : skipped ops f ⟨d, .convert s dt x, ty, ps, af, g⟩ = false)
    (hcv : cvT P s dt = .no) (hx : ev f x = vp b off) (hb : readB w0 L b = some (.cells cs E fz)) (hm : aggT P t = some m) (hla : liesAt P P.depth E (cs.size / P.cellsOf E) off t 1 = true) (hs : P.underlying s = some .unsafePointer) (hd : P.underlying dt = some (.pointer t))
    (hn : Ow P w0 ops md' rest (putF f d (vp b off)) L N) : Ow P w0 ops md (⟨d, .convert s dt x, ty, ps, af, g⟩ :: rest) f L N := by
  refine Ow.step he (by simp [pureK, hcv]) hsk fun w hw => .inl ⟨vp b off, w, L, ?_, hw, hn⟩
  simp only [execOp, Sem.run_bind, hx, run_ofUnsafe (hw.read hb) hm hla hs hd]
  rfl

theorem Ow.neqSame {t t' e : TypeId} {x y : Operand} {b off : Nat} {m : Bool × Nat} (hs : skipped ops f ⟨d, .binOp .neq t x y t', ty, ps, af, g⟩ = false) (hu : P.underlying t = some (.pointer e)) (hm : aggT P e = some m) (hx : ev f x = vp b off) (hy : ev f y = vp b off)
    (hn : Ow P w0 ops md.next rest (putF f d (.bool false)) L N) : Ow P w0 ops md (⟨d, .binOp .neq t x y t', ty, ps, af, g⟩ :: rest) f L N := by
  refine Ow.pureV rfl hs (fun w => ?_) hn
  have he : (Op.equal t (vp b off) (vp b off)).run P w = .ok true w := by
    show (Op.equalIn 10000 t (vp b off) (vp b off)).run P w = _
    unfold Op.equalIn
    simp only [vp, Sem.run_bind, run_underlying hu w, Result.andThen_ok, run_sizeOf hm w]
    by_cases h0 : m.2 = 0
    · simp [h0]
    · simp only [h0, ne_eq, not_false_eq_true, ↓reduceIte, sameAddr, beq_self_eq_true]
      rfl
  simp only [execOp, Sem.run_bind, hx, hy]
  have hg : (eqGuard .neq t x y (vp b off) (vp b off)).run P w = .ok () w := rfl
  have hb : binOp .neq t (vp b off) (vp b off) = (do pure (.bool (!(← Op.equal t (vp b off) (vp b off)))) : Sem Value) := rfl
  rw [hg, Result.andThen_ok, hb, Sem.run_bind, he]
  rfl

theorem read_setB_ne {w0 : World} {L : Heap} {b c : Nat} {x : Obj} (h : b ≠ c) : readB w0 (setB L b x) c = readB w0 L c := by
  unfold readB; rw [look_setB_ne h]

/-- A callee without a body, by its run. -/
theorem Ow.callExt {l : List Operand} {ts : Array TypeId} {k : FuncId} {v : Value} {md' : Md} (he : md.turn = some md')
    (hs : skipped ops f ⟨d, .call ⟨.value (.func k), l.toArray, ts⟩, ty, ps, af, g⟩ = false)
    (hv : ∀ w, (callFunc k (l.map (ev f)).toArray).run P w = .ok (.value v) w)
    (hn : Ow P w0 ops md' rest (putF f d v) L N) :
    Ow P w0 ops md (⟨d, .call ⟨.value (.func k), l.toArray, ts⟩, ty, ps, af, g⟩ :: rest) f L N := by
  refine Ow.step he rfl hs fun w hw => .inl ⟨v, w, L, ?_, hw, hn⟩
  have := hv w
  simp only [execOp, resolve, Deferred.ofValue, ev, Sem.run_bind, Sem.run_pure, Result.andThen_ok, invoke]
  simpa using this

theorem Ow.minI {x y : Operand} {ts : Array TypeId} {a b : Int} (hs : skipped ops f ⟨d, .call ⟨.builtin .min, #[x, y], ts⟩, ty, ps, af, g⟩ = false) (hx : ev f x = vi a) (hy : ev f y = vi b)
    (hn : Ow P w0 ops md.next rest (putF f d (vi (if b < a then b else a))) L N) : Ow P w0 ops md (⟨d, .call ⟨.builtin .min, #[x, y], ts⟩, ty, ps, af, g⟩ :: rest) f L N := by
  refine Ow.calm rfl rfl hs (fun w hw => .inl ⟨vi (if b < a then b else a), w, L, ?_, hw, rfl, rfl⟩) hn
  simp only [execOp, resolve, Sem.run_bind, Sem.run_pure, Result.andThen_ok, invoke, builtin, List.map_toArray, List.map_cons, List.map_nil, hx, hy]
  rfl
theorem Ow.maxI {x y : Operand} {ts : Array TypeId} {a b : Int} (hs : skipped ops f ⟨d, .call ⟨.builtin .max, #[x, y], ts⟩, ty, ps, af, g⟩ = false) (hx : ev f x = vi a) (hy : ev f y = vi b)
    (hn : Ow P w0 ops md.next rest (putF f d (vi (if b > a then b else a))) L N) : Ow P w0 ops md (⟨d, .call ⟨.builtin .max, #[x, y], ts⟩, ty, ps, af, g⟩ :: rest) f L N := by
  refine Ow.calm rfl rfl hs (fun w hw => .inl ⟨vi (if b > a then b else a), w, L, ?_, hw, rfl, rfl⟩) hn
  simp only [execOp, resolve, Sem.run_bind, Sem.run_pure, Result.andThen_ok, invoke, builtin, List.map_toArray, List.map_cons, List.map_nil, hx, hy]
  rfl
end

/-! ### Chunks: some known blocks are handed to a callee, and more come back -/
/-- All blocks of the chunk are told, and none but new ones beside. -/
structure Ext (w : World) (X D : Heap) : Prop where
  new : ∀ c, c ∈ keys D → c ∈ keys X ∨ w.heap.size ≤ c
  all : ∀ c, c ∈ keys X → c ∈ keys D
theorem Ext.refl (w : World) (X : Heap) : Ext w X X := ⟨fun _ h => .inl h, fun _ h => h⟩
theorem Ext.setB {w : World} {X D : Heap} {b : Nat} {o : Obj} (h : Ext w X D) : Ext w X (setB D b o) := ⟨fun c hc => h.new c (by rwa [keys_setB] at hc), fun c hc => by rw [keys_setB]; exact h.all c hc⟩
theorem Ext.app {w : World} {X D : Heap} {b : Nat} {o : Obj} (h : Ext w X D) (hb : w.heap.size ≤ b) : Ext w X (D ++ [(b, o)]) :=
  ⟨fun c hc => by
    rw [keys_app] at hc
    rcases List.mem_append.1 hc with hc | hc
    · exact h.new c hc
    · simp only [keys, List.map_cons, List.map_nil, List.mem_singleton] at hc
      exact .inr (hc ▸ hb), fun c hc => by rw [keys_app]; exact List.mem_append_left _ (h.all c hc)⟩
theorem Ext.grew {w : World} {X D D' : Heap} {v : Value} (h : Ext w X D) (hg : Grew w v D D') : Ext w X D' :=
  ⟨fun c hc => by
    rcases hg.new c hc with hc | ⟨-, hc⟩
    · exact h.new c hc
    · exact .inr hc, fun c hc => hg.keys c (h.all c hc)⟩
theorem Ext.keys {w : World} {X D D' : Heap} (h : Ext w X D) (hk : Sx.keys D' = Sx.keys D) : Ext w X D' := ⟨fun c hc => h.new c (hk ▸ hc), fun c hc => hk ▸ h.all c hc⟩

theorem read_none {w0 : World} {L : Heap} {b : Nat} (h : b ∉ Sx.keys L) : readB w0 L b = w0.heap[b]? := by
  unfold readB
  cases hl : look L b with
  | none => rfl
  | some o => exact absurd (key_of_look hl) h
theorem Ext.not {w : World} {X D : Heap} (h : Ext w X D) {b : Nat} (hb : b < w.heap.size) (hn : b ∉ Sx.keys X) : b ∉ Sx.keys D := fun hm => by
  rcases h.new b hm with h | h
  · exact hn h
  · omega
theorem Ext.old {w : World} {X D : Heap} (h : Ext w X D) {b : Nat} {o : Obj} (hb : w.heap[b]? = some o) (hn : b ∉ Sx.keys X) : readB w D b = some o := by
  rw [read_none (h.not (Array.getElem?_eq_some_iff.1 hb).1 hn)]; exact hb

/-- Behind a call: all blocks of the chunk are told anew, and none but new ones come to them. -/
def XS (w : World) (X : Heap) (S : Value → Heap → Prop) (v : Value) (D : Heap) : Prop := Ext w X D ∧ S v D

/-- What a callee leaves of a chunk that was handed to it, where L was known. -/
structure Came (w0 : World) (L X D : Heap) : Prop where
  new : ∀ c, c ∈ Sx.keys D → c ∈ Sx.keys X ∨ (Above L c ∧ w0.heap.size ≤ c)
  all : ∀ c, c ∈ Sx.keys X → c ∈ Sx.keys D
theorem Ext.came {w : World} {X D D' Y L : Heap} (h : Ext w X (D ++ Y)) (hc : Came w L D D') : Ext w X (D' ++ Y) := by
  refine ⟨fun c hm => ?_, fun c hm => ?_⟩
  · rw [keys_app] at hm
    rcases List.mem_append.1 hm with hm | hm
    · rcases hc.new c hm with hm | ⟨-, hm⟩
      · exact h.new c (by rw [keys_app]; exact List.mem_append_left _ hm)
      · exact .inr hm
    · exact h.new c (by rw [keys_app]; exact List.mem_append_right _ hm)
  · have := h.all c hm
    rw [keys_app] at this ⊢
    rcases List.mem_append.1 this with hm | hm
    · exact List.mem_append_left _ (hc.all c hm)
    · exact List.mem_append_right _ hm
theorem Ext.came0 {w : World} {X D D' L : Heap} (h : Ext w X D) (hc : Came w L D D') : Ext w X D' := by
  have := Ext.came (Y := []) (by simpa using h) hc
  simpa using this

theorem Hp.ownX {w0 w : World} {X : Heap} (h : Hp w0 [] w) (hX : ∀ p, p ∈ X → w0.heap[p.1]? = some p.2) (hn : (keys X).Nodup) : Hp w0 X w := by
  refine ⟨fun b o hm => ?_, hn, fun b hb _ => h.old b hb (by simp [keys]), h.size, h.tape, h.os, h.output⟩
  have := hX (b, o) hm
  simp only at this
  rw [h.old b (Array.getElem?_eq_some_iff.1 this).1 (by simp [keys])]
  exact this

theorem Rets.enterX {P : Program} {k : FuncId} {fn : Func} {c : Code} {rs : List ResultVar} {args : Array Value} {w : World} {S : Value → Heap → Prop} {n : Nat} {X : Heap}
    (hf : P.funcs[k]? = some fn) (hb : fn.body = some c) (hr : fn.results = rs.toArray) (hn : fn.ntmps = n) (hX : ∀ p, p ∈ X → w.heap[p.1]? = some p.2) (hnd : (keys X).Nodup)
    (h : Cw P w c (args.toList ++ List.replicate (n - args.size) undef) X (retK P w rs (XS w X S))) : Rets P k args w (XS w X S) :=
  Rets.enter hf hb hr hn fun w' hw' => h w' (hw'.ownX hX hnd)

section
variable {P : Program} {w0 : World} {f : Fr} {L : Heap} {N : Fr → Heap → Prop} {ops : Array Oper} {rest : List Oper} {md : Md}
  {d : Option Tmp} {ty : TypeId} {ps : String} {af : Array Edge} {g : Option (Nat × Bool)}

/-- A callee to which a chunk is handed. -/
theorem Ow.callX {l : List Operand} {ts : Array TypeId} {k : FuncId} {X Y : Heap} {S : Value → Heap → Prop} {md' : Md} (hL : L = X ++ Y) (he : md.turn = some md')
    (hs : skipped ops f ⟨d, .call ⟨.value (.func k), l.toArray, ts⟩, ty, ps, af, g⟩ = false)
    (hk : ∀ a w, (callFunc k a).run P w = .ok (.enter k a) w)
    (hc : ∀ w, Hp w0 L w → (∀ p, p ∈ X → w.heap[p.1]? = some p.2) → (keys X).Nodup → Rets P k (l.map (ev f)).toArray w (XS w X S))
    (hn : ∀ v D, Came w0 L X D → S v D → Ow P w0 ops md' rest (putF f d v) (D ++ Y) N) :
    Ow P w0 ops md (⟨d, .call ⟨.value (.func k), l.toArray, ts⟩, ty, ps, af, g⟩ :: rest) f L N := by
  subst hL
  have hnd : ∀ w, Hp w0 (X ++ Y) w → (keys X).Nodup ∧ ∀ c, c ∈ keys Y → c ∉ keys X := by
    intro w hw
    have := hw.nodup
    rw [keys_app, List.nodup_append] at this
    exact ⟨this.1, fun c hc hx => this.2.2 c hx c hc rfl⟩
  refine Ow.callF (S := fun B v D => ((∀ c, c ∈ keys D → c ∈ keys X ∨ B ≤ c) ∧ (∀ c, c ∈ keys X → c ∈ keys D) ∧ S v D) ∧ ∃ w, Hp w0 (X ++ Y) w ∧ w.heap.size = B) he hs hk (fun w hw => ?_) ?_
  · refine Calls.mono (hc w hw (fun p hp => hw.has _ _ (List.mem_append_left _ hp)) (hnd w hw).1) ?_
    rintro e w' ⟨v, D, he, hp, hS⟩
    exact ⟨v, D, he, hp, ⟨hS.1.new, hS.1.all, hS.2⟩, w, hw, rfl⟩
  · rintro B v D hab hB ⟨⟨h1, h2, h3⟩, w1, hw1, hwB⟩
    refine ⟨D ++ Y, ?_, hn v D ⟨fun c hc => (h1 c hc).imp id fun h => ⟨above_of fun b hb => by have := hw1.lt hb; omega, by have := hw1.size; omega⟩, h2⟩ h3⟩
    intro w w' hwb h k
    have ht := h.trans k
    have hY : ∀ c, c ∈ keys Y → c ∉ keys D := by
      intro c hc hd
      rcases h1 c hd with hx | hx
      · exact (hnd w h).2 c hc hx
      · have := h.lt (b := c) (by rw [keys_app]; exact List.mem_append_right _ hc)
        omega
    have e1 : X.filter (fun p => !(keys D).contains p.1) = [] := by
      rw [List.filter_eq_nil_iff]
      intro p hp
      have := h2 p.1 (List.mem_map.2 ⟨p, hp, rfl⟩)
      simpa using this
    have e2 : Y.filter (fun p => !(keys D).contains p.1) = Y := filter_keys_all hY
    rw [List.filter_append, e1, e2, List.nil_append] at ht
    refine ht.same (fun p => by simp [or_comm]) ?_
    have := ht.nodup
    rw [keys_app] at this ⊢
    exact (List.perm_append_comm.nodup_iff).1 this
end

/-! ### Slices whose elements have one cell -/
structure OneS {α : Type} (enc : α → Value) (z : α) (w : World) (v : Value) (l : List α) (b off : Nat) (arr : Array Value) (E : TypeId) (fz : Nat × Nat) : Prop where
  len : ∀ m, lenV (.sl m) v = some (vi l.length)
  idx : ∀ m (k : Nat), k < l.length → indexAddrV (.sl m) v (some (k : Int)) = some (vp b (off + k * m.2))
  has : 0 < l.length → w.heap[b]? = some (.cells arr E fz)
  get : ∀ k, k < l.length → arr[off + k]? = some (enc (l.getD k z))
theorem OneS.sl {α : Type} {enc : α → Value} {z : α} {w : World} {l : List α} {b off n c : Nat} {arr : Array Value} {E : TypeId} {fz : Nat × Nat} (hn : n = l.length)
    (has : w.heap[b]? = some (.cells arr E fz)) (get : ∀ k, k < l.length → arr[off + k]? = some (enc (l.getD k z))) : OneS enc z w (vsl b off n c) l b off arr E fz := by
  subst hn
  exact ⟨fun _ => rfl, fun m k h => by rw [indexAddr_sl _ _ _ _ _ _ (by omega)]; simp, fun _ => has, get⟩
theorem OneS.lit {α : Type} {enc : α → Value} {z : α} {w : World} {b n c : Nat} {E : TypeId} {fz : Nat × Nat} {arr : Array Value} (l : List α) (hn : n = l.length) (ha : arr = (l.map enc).toArray) (has : w.heap[b]? = some (.cells arr E fz)) : OneS enc z w (vsl b 0 n c) l b 0 arr E fz :=
  OneS.sl hn has (by intro k hk; rw [ha, Nat.zero_add, List.getElem?_toArray, List.getElem?_map, List.getD_eq_getElem?_getD, List.getElem?_eq_getElem hk]; rfl)
theorem setB_new {L : Heap} {b : Nat} {o x : Obj} (h : Above L b) : setB (L ++ [(b, o)]) b x = L ++ [(b, x)] := by
  induction L with
  | nil => simp [setB]
  | cons p r ih =>
    obtain ⟨c, y⟩ := p
    simp only [List.cons_append, setB]
    rw [if_neg (fun e => Nat.lt_irrefl _ (e ▸ h.1)), ih h.2]

/-! ### Slices whose elements have some cells -/
structure RowS {α : Type} (m : Nat) (enc : α → List Value) (z : α) (w : World) (v : Value) (l : List α) (b off : Nat) (arr : Array Value) (E : TypeId) (fz : Nat × Nat) : Prop where
  len : ∀ x, lenV (.sl x) v = some (vi l.length)
  idx : ∀ a (k : Nat), k < l.length → indexAddrV (.sl (a, m)) v (some (k : Int)) = some (vp b (off + k * m))
  has : 0 < l.length → w.heap[b]? = some (.cells arr E fz)
  get : ∀ k, k < l.length → ∀ j, j < m → arr[off + k * m + j]? = (enc (l.getD k z))[j]?
theorem RowS.sl {α : Type} {m : Nat} {enc : α → List Value} {z : α} {w : World} {l : List α} {b off n c : Nat} {arr : Array Value} {E : TypeId} {fz : Nat × Nat} (hn : n = l.length)
    (has : w.heap[b]? = some (.cells arr E fz)) (get : ∀ k, k < l.length → ∀ j, j < m → arr[off + k * m + j]? = (enc (l.getD k z))[j]?) : RowS m enc z w (vsl b off n c) l b off arr E fz := by
  subst hn
  exact ⟨fun _ => rfl, fun a k h => by rw [indexAddr_sl _ _ _ _ _ _ (by omega)]; simp, fun _ => has, get⟩
theorem RowS.nil {α : Type} {m : Nat} {enc : α → List Value} {z : α} (w : World) (n c : Nat) (hn : n = 0) : RowS m enc z w (.slice none n c) [] 0 0 #[] 0 (0, 0) := by
  subst hn
  exact ⟨fun _ => rfl, fun _ _ h => absurd h (Nat.not_lt_zero _), fun h => absurd h (Nat.not_lt_zero _), fun _ h => absurd h (Nat.not_lt_zero _)⟩
/-- One element as a whole. -/
theorem RowS.load {α : Type} {m : Nat} {enc : α → List Value} {z : α} {w : World} {v : Value} {l : List α} {b off : Nat} {arr : Array Value} {E : TypeId} {fz : Nat × Nat} (h : RowS m enc z w v l b off arr E fz) (hm : ∀ x, (enc x).length = m) (h0 : 0 < m) {k : Nat} (hk : k < l.length) :
    loadV (some (true, m)) (some (.cells arr E fz)) (off + k * m) = some (.agg (enc (l.getD k z)).toArray) := by
  have hg := h.get k hk
  have hsz : off + k * m + m ≤ arr.size := by
    have h1 := hg (m - 1) (by omega)
    rw [List.getElem?_eq_getElem (by rw [hm]; omega)] at h1
    have := (Array.getElem?_eq_some_iff.1 h1).1
    omega
  simp only [loadV, hsz, ↓reduceIte]
  congr 2
  apply Array.ext_getElem?
  intro j
  rw [Array.getElem?_extract]
  by_cases hj : j < m
  · rw [if_pos (by omega), hg j hj, List.getElem?_toArray]
  · rw [if_neg (by omega), List.getElem?_toArray, List.getElem?_eq_none (by rw [hm]; omega)]
/-- A cell of an element. -/
theorem RowS.cell {α : Type} {m : Nat} {enc : α → List Value} {z : α} {w : World} {v : Value} {l : List α} {b off : Nat} {arr : Array Value} {E : TypeId} {fz : Nat × Nat} (h : RowS m enc z w v l b off arr E fz) {k j n : Nat} (hk : k < l.length) (hj : j < m) :
    loadV (some (false, n)) (some (.cells arr E fz)) (off + k * m + j) = (enc (l.getD k z))[j]? := h.get k hk j hj
end Go.Sx
namespace Go.Sx
open Go
section
variable {P : Program} {w0 : World} {f : Fr} {L : Heap} {N : Fr → Heap → Prop} {ops : Array Oper} {rest : List Oper} {md : Md}
  {d : Option Tmp} {ty : TypeId} {ps : String} {af : Array Edge} {g : Option (Nat × Bool)}

theorem firstCells_text (l : List UInt8) (k size : Nat) (w : World) : (Builtin.firstCells size k (vs l)).run P w = .ok ((l.take k).map v8).toArray w := by
  simp only [vs, Builtin.firstCells]
  show Result.ok _ w = _
  congr 1
  have : ((ByteArray.mk l.toArray).extract 0 k).data = (l.take k).toArray := by
    rw [ByteArray.data_extract]
    simp
  rw [this]
  simp
  rfl

/-- A text is copied into a block. -/
theorem Ow.copyText {td tx e : TypeId} {m : Bool × Nat} {x y : Operand} {b off n c : Nat} {l : List UInt8} {cs : Array Value} {E : TypeId} {md' : Md} (he : md.turn = some md')
    (hs : skipped ops f ⟨d, .call ⟨.builtin .copy, #[x, y], #[td, tx]⟩, ty, ps, af, g⟩ = false) (hu : P.underlying td = some (.slice e)) (hm : aggT P e = some m)
    (hx : ev f x = vsl b off n c) (hy : ev f y = vs l) (hl : look L b = some (.cells cs E (0, 0))) (hn : off + n ≤ cs.size)
    (hO : Ow P w0 ops md' rest (putF f d (vi (min l.length n : Nat))) (setB L b (.cells (putC cs off ((l.take (min l.length n)).map v8)) E (0, 0))) N) :
    Ow P w0 ops md (⟨d, .call ⟨.builtin .copy, #[x, y], #[td, tx]⟩, ty, ps, af, g⟩ :: rest) f L N := by
  refine Ow.step he rfl hs fun w hw => ?_
  have hb := hw.has _ _ (look_mem hl)
  have hlt := (Array.getElem?_eq_some_iff.1 hb).1
  have hlen : (Builtin.lenOf (vs l)).run P w = .ok l.length w := by simp only [vs, Builtin.lenOf, size_mk]; rfl
  have hfc := firstCells_text (P := P) l (min l.length n) m.2 w
  have hst := run_storeCells (P := P) (b := b) (off := off) (E := E) (fz := (0, 0)) ((l.take (min l.length n)).map v8) 0 cs w hb (by
    rw [List.length_map, List.length_take]; have := Nat.min_le_right l.length n; omega) (.inl (Nat.le_refl 0)) (by rw [List.all_map, List.all_eq_true]; intro x _; rfl)
  refine .inl ⟨vi (min l.length n : Nat), { w with heap := w.heap.setIfInBounds b (.cells (putC cs off ((l.take (min l.length n)).map v8)) E (0, 0)) }, _, ?_, hw.set (key_of_look hl) rfl rfl rfl rfl, hO⟩
  simp only [execOp, resolve, Sem.run_bind, Sem.run_pure, Result.andThen_ok, invoke, builtin, List.map_toArray, List.map_cons, List.map_nil, hx, hy]
  have : (Builtin.copy_ #[td, tx] ty #[vsl b off n c, vs l]).run P w = .ok (vi (min l.length n : Nat)) { w with heap := w.heap.setIfInBounds b (.cells (putC cs off ((l.take (min l.length n)).map v8)) E (0, 0)) } := by
    simp only [Builtin.copy_, vsl, List.getElem?_toArray, List.getElem?_cons_zero, List.getElem?_cons_succ, Sem.run_bind, run_underlying hu w, Result.andThen_ok, hlen, run_sizeOf hm w]
    rw [show l.length.min n = min l.length n from rfl, hfc]
    simp only [Result.andThen_ok]
    rw [hst]
    rfl
  rw [this]
  rfl
end
end Go.Sx
namespace Go.Sx
open Go
section
variable {P : Program} {w0 : World} {f : Fr} {L : Heap} {N : Fr → Heap → Prop} {ops : Array Oper} {rest : List Oper} {md : Md}
  {d : Option Tmp} {ty : TypeId} {ps : String} {af : Array Edge} {g : Option (Nat × Bool)}
def v32i (n : Int) : Value := .int .i32 n
theorem binX_i32 (op : BinOp) (t : TypeId) (a b : Int) : binX P op t (v32i a) (v32i b) = binV op (v32i a) (v32i b) := (rfl)
theorem bin_lss_i32 (a b : Int) : binV .lss (v32i a) (v32i b) = some (.bool (decide (a < b))) := by simp [binV, v32i, intV, cmpV]
theorem bin_gtr_i32 (a b : Int) : binV .gtr (v32i a) (v32i b) = some (.bool (decide (b < a))) := by simp [binV, v32i, intV, cmpV]
theorem bin_eql_i32 (a b : Int) : binV .eql (v32i a) (v32i b) = some (.bool (a == b)) := by simp [binV, v32i, intV, cmpV]
theorem lit_i32 (n : Int) : Value.int .i32 n = v32i n := (rfl)

/-- A function value with one argument, whose callee leaves nothing but garbage. -/
theorem Ow.callFn1 {x y : Operand} {ts : Array TypeId} {k : FuncId} {v a : Value} (hs : skipped ops f ⟨d, .call ⟨.value x, #[y], ts⟩, ty, ps, af, g⟩ = false) (hx : ev f x = .func (.func k) #[] #[]) (hy : ev f y = a)
    (hk : ∀ a w, (callFunc k a).run P w = .ok (.enter k a) w) (hc : ∀ w, Hp w0 L w → Rets P k #[a] w (fun v' D => v' = v ∧ D = [])) (hn : Ow P w0 ops md.next rest (putF f d v) L N) :
    Ow P w0 ops md (⟨d, .call ⟨.value x, #[y], ts⟩, ty, ps, af, g⟩ :: rest) f L N :=
  Ow.callV hs hx hk (fun w hw => by simpa [hy] using hc w hw) hn
/-- A text's byte iterator. -/
theorem Ow.rangeText {t : TypeId} {x : Operand} {l : List UInt8} {md' : Md} (he : md.turn = some md') (hs : skipped ops f ⟨d, .range t x, ty, ps, af, g⟩ = false) (hu : P.underlying t = some .string) (hx : ev f x = vs l)
    (hn : ∀ b, Above L b → w0.heap.size ≤ b → Ow P w0 ops md' rest (putF f d (vp b 0)) (L ++ [(b, .stringIter ⟨l.toArray⟩ 0)]) N) :
    Ow P w0 ops md (⟨d, .range t x, ty, ps, af, g⟩ :: rest) f L N := by
  refine Ow.step he rfl hs fun w hw => .inl ⟨vp w.heap.size 0, w.alloc (.stringIter ⟨l.toArray⟩ 0), _, ?_, hw.alloc _, hn _ (above_of fun b hb => hw.lt hb) hw.size⟩
  simp only [execOp, Instr.range, Sem.run_bind, run_underlying hu w, Result.andThen_ok, hx, vs]
  rfl
theorem Ow.nextText {x : Operand} {b : Nat} {l : List UInt8} {pos : Nat} {md' : Md} (he : md.turn = some md') (hs : skipped ops f ⟨d, .next x true, ty, ps, af, g⟩ = false) (hx : ev f x = vp b 0) (hl : look L b = some (.stringIter ⟨l.toArray⟩ pos)) (hp : pos < l.length)
    (hn : Ow P w0 ops md' rest (putF f d (.tuple #[.bool true, vi pos, v32i (Utf8.decode ⟨l.toArray⟩ pos).1])) (setB L b (.stringIter ⟨l.toArray⟩ (pos + (Utf8.decode ⟨l.toArray⟩ pos).2))) N) :
    Ow P w0 ops md (⟨d, .next x true, ty, ps, af, g⟩ :: rest) f L N := by
  refine Ow.step he rfl hs fun w hw => ?_
  have hb := hw.has _ _ (look_mem hl)
  refine .inl ⟨_, { w with heap := w.heap.setIfInBounds b (.stringIter ⟨l.toArray⟩ (pos + (Utf8.decode ⟨l.toArray⟩ pos).2)) }, _, ?_, hw.set (key_of_look hl) rfl rfl rfl rfl, hn⟩
  have hg : (getObj b).run P w = .ok (.stringIter ⟨l.toArray⟩ pos) w := by
    simp only [getObj, Sem.run, hb]
  have hst : ∀ o, (setObj b o).run P w = .ok () { w with heap := w.heap.setIfInBounds b o } := by
    intro o; simp only [setObj, Sem.run, hb]
  have hsz : pos < (ByteArray.mk l.toArray).size := by rw [size_mk]; exact hp
  have : (Instr.next (vp b 0) true ty).run P w = .ok (.tuple #[.bool true, vi pos, v32i (Utf8.decode ⟨l.toArray⟩ pos).1]) { w with heap := w.heap.setIfInBounds b (.stringIter ⟨l.toArray⟩ (pos + (Utf8.decode ⟨l.toArray⟩ pos).2)) } := by
    simp only [Instr.next, vp, Sem.run_bind, hg, Result.andThen_ok, hsz, ↓reduceIte, hst]
    rfl
  simp only [execOp, Sem.run_bind, hx]
  rw [this]
  rfl
theorem Ow.nextOver {x : Operand} {b : Nat} {l : List UInt8} {pos : Nat} {md' : Md} (he : md.turn = some md') (hs : skipped ops f ⟨d, .next x true, ty, ps, af, g⟩ = false) (hx : ev f x = vp b 0) (hl : look L b = some (.stringIter ⟨l.toArray⟩ pos)) (hp : ¬ pos < l.length)
    (hn : Ow P w0 ops md' rest (putF f d (.tuple #[.bool false])) L N) :
    Ow P w0 ops md (⟨d, .next x true, ty, ps, af, g⟩ :: rest) f L N := by
  refine Ow.step he rfl hs fun w hw => ?_
  have hb := hw.has _ _ (look_mem hl)
  refine .inl ⟨.tuple #[.bool false], w, _, ?_, hw, hn⟩
  have hg : (getObj b).run P w = .ok (.stringIter ⟨l.toArray⟩ pos) w := by
    simp only [getObj, Sem.run, hb]
  have hsz : ¬ pos < (ByteArray.mk l.toArray).size := by rw [size_mk]; exact hp
  have : (Instr.next (vp b 0) true ty).run P w = .ok (.tuple #[.bool false]) w := by
    simp only [Instr.next, vp, Sem.run_bind, hg, Result.andThen_ok, hsz, ↓reduceIte]
    rfl
  simp only [execOp, Sem.run_bind, hx]
  rw [this]
  rfl
end
/-- The rune at a place: the byte itself, if it is below 128; else one above. -/
theorem decode_rune (l : List UInt8) (i : Nat) (h : i < l.length) : 0 < (Utf8.decode ⟨l.toArray⟩ i).2 ∧
    ((l.getD i 0).toNat < 128 → Utf8.decode ⟨l.toArray⟩ i = ((l.getD i 0).toNat, 1)) ∧ (128 ≤ (l.getD i 0).toNat → 128 ≤ (Utf8.decode ⟨l.toArray⟩ i).1) := by
  have hb : ((ByteArray.mk l.toArray).get! (i + 0)) = l.getD i 0 := by
    simp [ByteArray.get!, h]
  unfold Utf8.decode
  simp only [hb]
  generalize (l.getD i 0).toNat = b0
  refine ⟨?_, fun h1 => ?_, fun h1 => ?_⟩
  · (repeat' split) <;> simp
  · rw [if_pos h1]
  · rw [if_neg (by omega)]
    (repeat' split) <;> first
      | (simp only [Utf8.runeError]; omega)
      | (rename_i hc; simp only [Bool.and_eq_true, decide_eq_true_eq, ge_iff_le] at hc; omega)
      | (rename_i hc; simp only [ge_iff_le] at hc; omega)
end Go.Sx
namespace Go.Sx
open Go
abbrev Vals := List (List UInt8 × List UInt8)
/-- The first place of a name. -/
def fnd (k : List UInt8) : Vals → Nat → Option (Nat × List UInt8)
  | [], _ => none
  | p :: r, i => if k == p.1 then some (i, p.2) else fnd k r (i + 1)
/-- A name is given a value. -/
def updV (k v : List UInt8) : Vals → Vals
  | [] => [(k, v)]
  | p :: r => if k == p.1 then (p.1, v) :: r else p :: updV k v r
/-- A name is taken away. -/
def delV (k : List UInt8) : Vals → Vals
  | [] => []
  | p :: r => if k == p.1 then r else p :: delV k r
def pairV (p : List UInt8 × List UInt8) : Value × Value := (vs p.1, .agg (a8 p.2))
/-- What a map holds. -/
def MapR (o : Obj) (m : Vals) : Prop := ∃ es clock, o = .map es clock ∧ es.toList.map (fun e => (e.key, e.val)) = m.map pairV

theorem bs_beq (a b : List UInt8) : ((ByteArray.mk a.toArray) == (ByteArray.mk b.toArray)) = (a == b) := by
  show (a.toArray == b.toArray) = (a == b)
  simp
theorem findNow_eq (k : List UInt8) : ∀ (es : List MapEntry) (m : Vals) (i : Nat), es.map (fun e => (e.key, e.val)) = m.map pairV →
    Instr.findNow .string (vs k) es i = some ((fnd k m i).map fun p => (p.1, .agg (a8 p.2)))
  | [], [], i, _ => rfl
  | [], _ :: _, _, h => by cases h
  | _ :: _, [], _, h => by cases h
  | e :: es, p :: m, i, h => by
    simp only [List.map_cons, List.cons.injEq, pairV, Prod.mk.injEq] at h
    obtain ⟨⟨h1, h2⟩, h3⟩ := h
    unfold Instr.findNow
    have hs : Instr.sameNow .string (vs k) e.key = some (k == p.1) := by
      rw [h1]
      simp only [vs, Instr.sameNow, bs_beq]
    rw [hs]
    unfold fnd
    cases hk : (k == p.1)
    · simp only [Bool.false_eq_true, ↓reduceIte]
      exact findNow_eq k es m (i + 1) h3
    · simp [h2]

theorem fnd_spec (k : List UInt8) : ∀ (m : Vals) (i j : Nat) (v : List UInt8), fnd k m i = some (j, v) → i ≤ j ∧ ∃ a, m[j - i]? = some (k, a) ∧ a = v
  | [], _, _, _, h => by cases h
  | p :: r, i, j, v, h => by
    unfold fnd at h
    split at h
    · rename_i hk
      cases h
      refine ⟨Nat.le_refl _, p.2, ?_, rfl⟩
      rw [Nat.sub_self, List.getElem?_cons_zero, eq_of_beq hk]
    · obtain ⟨h1, a, h2, h3⟩ := fnd_spec k r (i + 1) j v h
      refine ⟨by omega, a, ?_, h3⟩
      rw [show j - i = (j - (i + 1)) + 1 by omega, List.getElem?_cons_succ]; exact h2

theorem updV_some (k v : List UInt8) : ∀ (es : List MapEntry) (m : Vals) (i j : Nat) (a : List UInt8), es.map (fun e => (e.key, e.val)) = m.map pairV → fnd k m i = some (j, a) →
    (es.modify (j - i) fun e => { e with key := vs k, val := .agg (a8 v) }).map (fun e => (e.key, e.val)) = (updV k v m).map pairV
  | [], [], _, _, _, _, h => by cases h
  | [], _ :: _, _, _, _, h, _ => by cases h
  | _ :: _, [], _, _, _, h, _ => by cases h
  | e :: es, p :: m, i, j, a, h, hf => by
    simp only [List.map_cons, List.cons.injEq, pairV, Prod.mk.injEq] at h
    obtain ⟨⟨h1, h2⟩, h3⟩ := h
    unfold fnd at hf
    unfold updV
    split at hf
    · rename_i hk
      cases hf
      rw [if_pos hk, Nat.sub_self]
      simp only [List.modify_zero_cons, List.map_cons, pairV, eq_of_beq hk]
      rw [h3]
    · rename_i hk
      have hle := (fnd_spec k m (i + 1) j a hf).1
      rw [if_neg hk, show j - i = (j - (i + 1)) + 1 by omega]
      simp only [List.modify_succ_cons, List.map_cons, pairV]
      rw [updV_some k v es m (i + 1) j a h3 hf, h1, h2]
theorem updV_none (k v : List UInt8) : ∀ (m : Vals) (i : Nat), fnd k m i = none → updV k v m = m ++ [(k, v)]
  | [], _, _ => rfl
  | p :: r, i, h => by
    unfold fnd at h
    split at h
    · cases h
    · rename_i hk
      unfold updV
      rw [if_neg hk, updV_none k v r (i + 1) h]; rfl
theorem delV_some (k : List UInt8) : ∀ (es : List MapEntry) (m : Vals) (i j : Nat) (a : List UInt8), es.map (fun e => (e.key, e.val)) = m.map pairV → fnd k m i = some (j, a) →
    (es.eraseIdx (j - i)).map (fun e => (e.key, e.val)) = (delV k m).map pairV
  | [], [], _, _, _, _, h => by cases h
  | [], _ :: _, _, _, _, h, _ => by cases h
  | _ :: _, [], _, _, _, h, _ => by cases h
  | e :: es, p :: m, i, j, a, h, hf => by
    simp only [List.map_cons, List.cons.injEq] at h
    obtain ⟨h1, h3⟩ := h
    unfold fnd at hf
    unfold delV
    split at hf
    · rename_i hk
      cases hf
      rw [if_pos hk, Nat.sub_self]
      exact h3
    · rename_i hk
      have hle := (fnd_spec k m (i + 1) j a hf).1
      rw [if_neg hk, show j - i = (j - (i + 1)) + 1 by omega]
      simp only [List.eraseIdx_cons_succ, List.map_cons]
      rw [delV_some k es m (i + 1) j a h3 hf, h1]
theorem delV_none (k : List UInt8) : ∀ (m : Vals) (i : Nat), fnd k m i = none → delV k m = m
  | [], _, _ => rfl
  | p :: r, i, h => by
    unfold fnd at h
    split at h
    · cases h
    · rename_i hk
      unfold delV
      rw [if_neg hk, delV_none k r (i + 1) h]

section
variable {P : Program} {w0 : World} {f : Fr} {L : Heap} {N : Fr → Heap → Prop} {ops : Array Oper} {rest : List Oper} {md : Md}
  {d : Option Tmp} {ty : TypeId} {ps : String} {af : Array Edge} {g : Option (Nat × Bool)}

theorem run_findKey {w : World} {t : TypeId} (hu : P.underlying t = some .string) (k : List UInt8) (es : List MapEntry) (m : Vals) (h : es.map (fun e => (e.key, e.val)) = m.map pairV) :
    (Instr.findKey t (vs k) es).run P w = .ok ((fnd k m 0).map fun p => (p.1, .agg (a8 p.2))) w := by
  simp only [Instr.findKey, Sem.run_bind, run_underlying hu w, Result.andThen_ok, findNow_eq k es m 0 h]
  rfl
theorem run_checkKey {w : World} {t : TypeId} (hu : P.underlying t = some .string) (e : Bool) (k : List UInt8) : (Instr.checkKey e 10000 t (vs k)).run P w = .ok () w := by
  unfold Instr.checkKey
  simp only [Sem.run_bind, run_underlying hu w, Result.andThen_ok, vs]
  rfl
theorem run_getMap {w : World} {b : Nat} {es : Array MapEntry} {c : Nat} (hb : w.heap[b]? = some (.map es c)) : (getObj b).run P w = .ok (.map es c) w := by
  simp only [getObj, Sem.run, hb]
theorem run_setMap {w : World} {b : Nat} {es : Array MapEntry} {c : Nat} (hb : w.heap[b]? = some (.map es c)) (o : Obj) : (setObj b o).run P w = .ok () { w with heap := w.heap.setIfInBounds b o } := by
  simp only [setObj, Sem.run, hb]

def vm (b : Nat) : Value := .map (some b)

/-- A new map. -/
theorem Ow.makeMap {t : TypeId} {md' : Md} (he : md.turn = some md') (hs : skipped ops f ⟨d, .makeMap t none, ty, ps, af, g⟩ = false)
    (hn : ∀ b o, Above L b → w0.heap.size ≤ b → MapR o [] → Ow P w0 ops md' rest (putF f d (vm b)) (L ++ [(b, o)]) N) :
    Ow P w0 ops md (⟨d, .makeMap t none, ty, ps, af, g⟩ :: rest) f L N := by
  refine Ow.step he rfl hs fun w hw => .inl ⟨vm w.heap.size, w.alloc (.map #[] 0), _, ?_, hw.alloc _, hn _ _ (above_of fun b hb => hw.lt hb) hw.size ⟨#[], 0, rfl, rfl⟩⟩
  simp only [execOp, Instr.makeMap, Sem.run_bind, Option.map_none]
  rfl

/-- How many names a map holds. -/
theorem Ow.lenMap {t kt vt : TypeId} {x : Operand} {b : Nat} {o : Obj} {m : Vals} (hs : skipped ops f ⟨d, .call ⟨.builtin .len, #[x], #[t]⟩, ty, ps, af, g⟩ = false) (hsq : md = .seq) (hu : P.underlying t = some (.map kt vt)) (hx : ev f x = vm b) (hl : readB w0 L b = some o) (hm : MapR o m)
    (hn : Ow P w0 ops md rest (putF f d (vi m.length)) L N) : Ow P w0 ops md (⟨d, .call ⟨.builtin .len, #[x], #[t]⟩, ty, ps, af, g⟩ :: rest) f L N := by
  subst hsq
  obtain ⟨es, c, rfl, he⟩ := hm
  have hlen : es.size = m.length := by have := congrArg List.length he; simpa using this
  intro w hw
  have hb := hw.read hl
  have hS : OpS P w0 f L ⟨d, .call ⟨.builtin .len, #[x], #[t]⟩, ty, ps, af, g⟩ (fun v L' => v = vi m.length ∧ L' = L) := by
    intro w hw
    have hb := hw.read hl
    refine .inl ⟨_, w, L, ?_, hw, rfl, rfl⟩
    simp only [execOp, resolve, Sem.run_bind, Sem.run_pure, Result.andThen_ok, invoke, builtin, List.map_toArray, List.map_cons, List.map_nil, hx]
    have : (Builtin.len_ #[t] ty #[vm b]).run P w = .ok (vi m.length) w := by
      simp only [Builtin.len_, vm, List.getElem?_toArray, List.getElem?_cons_zero, Sem.run_bind, run_underlying hu w, Result.andThen_ok, run_getMap hb, hlen]
      rfl
    rw [this]; rfl
  unfold wpList
  rw [wanted_eq, hs]
  simp only [Bool.not_false, ↓reduceIte]
  exact .inl (hS.wp (fun v L' w' hp ⟨h1, h2⟩ => by subst h1; subst h2; exact hn w' hp) hw)

theorem fnd_key {k : List UInt8} {m : Vals} {es : List MapEntry} {j : Nat} {a : List UInt8} (h : es.map (fun e => (e.key, e.val)) = m.map pairV) (hf : fnd k m 0 = some (j, a)) : ∃ e, es[j]? = some e ∧ e.key = vs k := by
  obtain ⟨-, a', h1, rfl⟩ := fnd_spec k m 0 j a hf
  rw [Nat.sub_zero] at h1
  have := congrArg (·[j]?) h
  simp only [List.getElem?_map, h1, Option.map_some] at this
  cases he : es[j]? with
  | none => rw [he] at this; cases this
  | some e =>
    rw [he] at this
    simp only [Option.map_some, Option.some.injEq, pairV, Prod.mk.injEq] at this
    exact ⟨e, rfl, this.1⟩

/-- A map's name is given a value. -/
theorem Ow.mapUpdate {t kt vt : TypeId} {x y z : Operand} {b : Nat} {o : Obj} {m : Vals} {k v : List UInt8} {md' : Md} (he : md.turn = some md') (hs : skipped ops f ⟨d, .mapUpdate t x y z, ty, ps, af, g⟩ = false) (hu : P.underlying t = some (.map kt vt)) (huk : P.underlying kt = some .string)
    (hx : ev f x = vm b) (hy : ev f y = vs k) (hz : ev f z = .agg (a8 v)) (hl : look L b = some o) (hm : MapR o m)
    (hn : ∀ o', MapR o' (updV k v m) → Ow P w0 ops md' rest (putF f d undef) (setB L b o') N) :
    Ow P w0 ops md (⟨d, .mapUpdate t x y z, ty, ps, af, g⟩ :: rest) f L N := by
  obtain ⟨es, c, rfl, hes⟩ := hm
  refine Ow.step he rfl hs fun w hw => ?_
  have hb := hw.has _ _ (look_mem hl)
  have hfk := run_findKey (w := w) huk k es.toList m hes
  cases hf : fnd k m 0 with
  | none =>
    rw [hf] at hfk
    refine .inr (.inl ⟨{ w with heap := w.heap.setIfInBounds b (.map (es.push { key := vs k, val := .agg (a8 v), born := c }) (c + 1)) }, _, ?_, hw.set (key_of_look hl) rfl rfl rfl rfl, hn _ ⟨_, _, rfl, ?_⟩⟩)
    · have : (Instr.mapUpdate t (vm b) (vs k) (.agg (a8 v))).run P w = .ok () { w with heap := w.heap.setIfInBounds b (.map (es.push { key := vs k, val := .agg (a8 v), born := c }) (c + 1)) } := by
        simp only [Instr.mapUpdate, vm, Sem.run_bind, run_underlying hu w, Result.andThen_ok, run_getMap hb, run_checkKey huk, hfk, Option.map_none, run_setMap hb]
      simp only [execOp, Sem.run_bind, hx, hy, hz]
      rw [this]; rfl
    · rw [updV_none k v m 0 hf, Array.toList_push, List.map_append, hes, List.map_append]; rfl
  | some p =>
    obtain ⟨j, a⟩ := p
    rw [hf] at hfk
    obtain ⟨e, hej, hek⟩ := fnd_key hes hf
    have hej' : es[j]? = some e := by simpa using hej
    have hkt : (Instr.keyThatStays (((es[j]?).map (·.key)).getD (vs k)) (vs k)).run P w = .ok (vs k) w := by
      rw [hej', Option.map_some, Option.getD_some, hek]
      unfold Instr.keyThatStays
      have : Instr.sameBits 10000 (vs k) (vs k) = true := by simp [vs, Instr.sameBits, bs_beq]
      rw [if_pos this]; rfl
    refine .inr (.inl ⟨{ w with heap := w.heap.setIfInBounds b (.map (es.modify j fun e => { e with key := vs k, val := .agg (a8 v) }) c) }, _, ?_, hw.set (key_of_look hl) rfl rfl rfl rfl, hn _ ⟨_, _, rfl, ?_⟩⟩)
    · have : (Instr.mapUpdate t (vm b) (vs k) (.agg (a8 v))).run P w = .ok () { w with heap := w.heap.setIfInBounds b (.map (es.modify j fun e => { e with key := vs k, val := .agg (a8 v) }) c) } := by
        simp only [Instr.mapUpdate, vm, Sem.run_bind, run_underlying hu w, Result.andThen_ok, run_getMap hb, run_checkKey huk, hfk, Option.map_some, hkt, run_setMap hb]
      simp only [execOp, Sem.run_bind, hx, hy, hz]
      rw [this]; rfl
    · rw [Array.toList_modify]
      have := updV_some k v es.toList m 0 j a hes hf
      rw [Nat.sub_zero] at this
      exact this

/-- A map's name is taken away. -/
theorem Ow.mapDelete {t kt vt : TypeId} {x y : Operand} {t2 : TypeId} {b : Nat} {o : Obj} {m : Vals} {k : List UInt8} {md' : Md} (he : md.turn = some md') (hs : skipped ops f ⟨d, .call ⟨.builtin .delete, #[x, y], #[t, t2]⟩, ty, ps, af, g⟩ = false) (hu : P.underlying t = some (.map kt vt)) (huk : P.underlying kt = some .string)
    (hx : ev f x = vm b) (hy : ev f y = vs k) (hl : look L b = some o) (hm : MapR o m)
    (hn : ∀ o', MapR o' (delV k m) → Ow P w0 ops md' rest (putF f d (.tuple #[])) (setB L b o') N) :
    Ow P w0 ops md (⟨d, .call ⟨.builtin .delete, #[x, y], #[t, t2]⟩, ty, ps, af, g⟩ :: rest) f L N := by
  obtain ⟨es, c, rfl, hes⟩ := hm
  refine Ow.step he rfl hs fun w hw => ?_
  have hb := hw.has _ _ (look_mem hl)
  have hfk := run_findKey (w := w) huk k es.toList m hes
  cases hf : fnd k m 0 with
  | none =>
    rw [hf] at hfk
    refine .inl ⟨.tuple #[], { w with heap := w.heap.setIfInBounds b (.map es c) }, _, ?_, hw.set (key_of_look hl) rfl rfl rfl rfl, hn _ ⟨es, c, rfl, by rw [delV_none k m 0 hf]; exact hes⟩⟩
    have : (Builtin.delete_ #[t, t2] ty #[vm b, vs k]).run P w = .ok (.tuple #[]) { w with heap := w.heap.setIfInBounds b (.map es c) } := by
      simp only [Builtin.delete_, vm, List.getElem?_toArray, List.getElem?_cons_zero, List.getElem?_cons_succ, Sem.run_bind, run_underlying hu w, Result.andThen_ok, run_getMap hb, run_checkKey huk, hfk, Option.map_none, run_setMap hb]
      rfl
    simp only [execOp, resolve, Sem.run_bind, Sem.run_pure, Result.andThen_ok, invoke, builtin, List.map_toArray, List.map_cons, List.map_nil, hx, hy]
    rw [this]; rfl
  | some p =>
    obtain ⟨j, a⟩ := p
    rw [hf] at hfk
    refine .inl ⟨.tuple #[], { w with heap := w.heap.setIfInBounds b (.map (es.eraseIdxIfInBounds j) c) }, _, ?_, hw.set (key_of_look hl) rfl rfl rfl rfl, hn _ ⟨_, c, rfl, ?_⟩⟩
    · have : (Builtin.delete_ #[t, t2] ty #[vm b, vs k]).run P w = .ok (.tuple #[]) { w with heap := w.heap.setIfInBounds b (.map (es.eraseIdxIfInBounds j) c) } := by
        simp only [Builtin.delete_, vm, List.getElem?_toArray, List.getElem?_cons_zero, List.getElem?_cons_succ, Sem.run_bind, run_underlying hu w, Result.andThen_ok, run_getMap hb, run_checkKey huk, hfk, Option.map_some, run_setMap hb]
        rfl
      simp only [execOp, resolve, Sem.run_bind, Sem.run_pure, Result.andThen_ok, invoke, builtin, List.map_toArray, List.map_cons, List.map_nil, hx, hy]
      rw [this]; rfl
    · have := delV_some k es.toList m 0 j a hes hf
      rw [Nat.sub_zero] at this
      rw [← this]
      simp
end
end Go.Sx
namespace Go.Sx
open Go
set_option linter.unusedSimpArgs false
section
variable {P : Program} {w0 : World} {L : Heap}
theorem run_appendEm {w : World} {ts tx ty e : TypeId} {m : Bool × Nat} {z x : Value} {b k : Nat} {new : List Value} (hw : Hp w0 L w)
    (hu : P.underlying ts = some (.slice e)) (hm : aggT P e = some m) (hi : bytesOk P e = true) (hz : zeroV P e = some z) (hzs : z.cells.size = m.2) {d : TypeDesc} (hux : P.underlying tx = some d) (hnx : ∀ k, d ≠ .int k)
    (hXa : ∀ w, Hp w0 L w → AppX P w m.2 x k new) (hbig : 2 * (0 + k) + 768 ≤ 2 ^ 38) :
    (k = 0 ∧ (Builtin.append_ #[ts, tx] ty #[vsl b 0 0 0, x]).run P w = .ok (vsl b 0 0 0) w) ∨
    (0 < k ∧ ∃ v' w' L', (Builtin.append_ #[ts, tx] ty #[vsl b 0 0 0, x]).run P w = .ok v' w' ∧ Hp w0 L' w' ∧ Buf L' e m.2 v' (0 + k) ([] ++ new) ∧ Grew w0 (.slice none 0 0) L L' ∧ ∃ c, slB v' = some c ∧ Above L c) := by
  obtain ⟨i, hi, hb0, hbig⟩ := bytesOk_spec hi hbig
  have hti : ∀ w, (typeInfo e).run P w = .ok i w := by
    intro w
    simp only [typeInfo, program, Sem.run_bind]
    show Result.andThen (Result.ok P w) _ = _
    simp only [Result.andThen_ok, hi]
    rfl
  have hmd : (match d with | .int _ => true | _ => false) = false := by
    cases d <;> first | rfl | exact absurd rfl (hnx _)
  have e1 : ∀ {α β : Type} (a : α) (f : α → World → Result β), (Sem.run P (pure a) w).andThen f = f a w := fun _ _ => rfl
  have hX := hXa w hw
  have hxl := hX.len
  have hxc := hX.cells
  have hzv := run_zeroV (P := P) hz
  have room : ∀ (b : Nat) (w : World), (askRoom b).run P w = .ok () w := by
    intro b w
    unfold askRoom
    split <;> rfl
  have zc : ∀ j, (Builtin.zeroCells z.cells j).toList.length = j * m.2 := by
    intro j; simp [Builtin.zeroCells, hzs]
  have hbg : ∀ c, c < 0 + k → ¬ (Builtin.nextslicecap (0 + k) c * i.bytes > 2 ^ 48) := by
    intro c hc
    have := nextslicecap_le hc
    have h2 := Nat.mul_le_mul_right i.bytes this
    omega
  by_cases hk : k = 0
  · subst hk
    have hnew : new = [] := List.eq_nil_of_length_eq_zero (by have := hX.size; omega)
    subst hnew
    refine .inl ⟨rfl, ?_⟩
    simp only [Builtin.append_, vsl, List.getElem?_toArray, List.getElem?_cons_zero, List.getElem?_cons_succ, Sem.run_bind, run_underlying hu w, Result.andThen_ok, run_sizeOf hm w, run_underlying hux w, hmd, e1, Bool.false_eq_true, ↓reduceIte, hxl, Bool.not_false, Nat.add_zero, Nat.le_refl, hxc]
    rfl
  · have hpos : ¬ 0 + k ≤ 0 := by omega
    have hbg' := hbg 0 (by omega)
    simp only [Builtin.append_, List.getElem?_toArray, List.getElem?_cons_zero, List.getElem?_cons_succ, Sem.run_bind, run_underlying hu w, Result.andThen_ok, run_sizeOf hm w, run_underlying hux w, hmd, e1, Bool.false_eq_true, ↓reduceIte, hxl, Bool.not_false, hpos, vsl, hti, hb0, or_false, and_false, hbg']
    have hch : (choose (Question.appendCap (0 + k) 0 e)).run P w = .ok ((0 + k) + w.tape w.drawn (.appendCap (0 + k) 0 e) % (2 ^ 63 - (0 + k))) w.drew := rfl
    rw [hch]
    generalize hcc : (0 + k) + w.tape w.drawn (.appendCap (0 + k) 0 e) % (2 ^ 63 - (0 + k)) = c
    have hw1 := hw.drew
    have hX1 := hXa _ hw1
    have hold : (Builtin.firstCells m.2 0 (Value.slice (some ⟨b, 0, none⟩) 0 0)).run P w.drew = .ok #[] w.drew := by
      simp only [Builtin.firstCells, Nat.zero_mul]; rfl
    simp only [Result.andThen_ok, room, hold, hX1.cells, hzv]
    refine .inr ⟨by omega, _, _, L ++ [(w.drew.heap.size, .cells ([] ++ new ++ (Builtin.zeroCells z.cells (c - (0 + k))).toList).toArray e (0, 0))], rfl, ?_, .at_ (b := w.drew.heap.size) (rest := (Builtin.zeroCells z.cells (c - (0 + k))).toList) ?_ ?_ ?_ (by omega) (by omega), ?_, ⟨_, rfl, above_of fun b hb => hw1.lt hb⟩⟩
    · have ea : ([] ++ new ++ (Builtin.zeroCells z.cells (c - (0 + k))).toList).toArray = #[] ++ new.toArray ++ Builtin.zeroCells z.cells (c - (0 + k)) := by apply Array.ext'; simp
      rw [ea]
      exact hw1.alloc _
    · rw [look_app_r (fun hm => Nat.lt_irrefl _ (hw1.lt hm))]
      simp [look]
    · rw [List.nil_append, hX.size, Nat.zero_add]
    · exact zc _
    · refine ⟨fun c hc => by rw [keys_app]; exact List.mem_append_left _ hc, fun c hc => ?_, fun c o hne ho => look_app ho⟩
      rw [keys_app] at hc
      rcases List.mem_append.1 hc with hc | hc
      · exact .inl hc
      · right
        simp only [keys, List.map_cons, List.map_nil, List.mem_singleton] at hc
        subst hc
        exact ⟨above_of fun b hb => hw1.lt hb, hw1.size⟩
end
section
variable {P : Program} {w0 : World} {f : Fr} {L : Heap} {N : Fr → Heap → Prop} {ops : Array Oper} {rest : List Oper} {md : Md}
  {d : Option Tmp} {ty : TypeId} {ps : String} {af : Array Edge} {g : Option (Nat × Bool)}
theorem Ow.appendEm {ts tx e : TypeId} {m : Bool × Nat} {z : Value} {s x : Operand} {b k : Nat} {new : List Value} {dx : TypeDesc} {md' : Md} (hsv : ev f s = vsl b 0 0 0) (he : md.turn = some md')
    (hs : skipped ops f ⟨d, .call ⟨.builtin .append, #[s, x], #[ts, tx]⟩, ty, ps, af, g⟩ = false)
    (hu : P.underlying ts = some (.slice e)) (hm : aggT P e = some m) (hi : bytesOk P e = true) (hz : zeroV P e = some z) (hzs : z.cells.size = m.2) (hux : P.underlying tx = some dx) (hnx : ∀ k, dx ≠ .int k)
    (hX : ∀ w, Hp w0 L w → AppX P w m.2 (ev f x) k new) (hbig : 2 * (0 + k) + 768 ≤ 2 ^ 38)
    (hn0 : k = 0 → Ow P w0 ops md' rest (putF f d (vsl b 0 0 0)) L N)
    (hn : ∀ v' L', 0 < k → Buf L' e m.2 v' (0 + k) ([] ++ new) → Grew w0 (.slice none 0 0) L L' → (∃ c, slB v' = some c ∧ Above L c) → Ow P w0 ops md' rest (putF f d v') L' N) :
    Ow P w0 ops md (⟨d, .call ⟨.builtin .append, #[s, x], #[ts, tx]⟩, ty, ps, af, g⟩ :: rest) f L N := by
  refine Ow.step he rfl hs fun w hw => ?_
  rcases run_appendEm (ty := ty) (b := b) hw hu hm hi hz hzs hux hnx hX hbig with ⟨hk, hr⟩ | ⟨hk, v', w', L', hr, hp, hb, hg, hsl⟩
  · refine .inl ⟨_, w, L, ?_, hw, hn0 hk⟩
    simp only [execOp, resolve, Sem.run_bind, Sem.run_pure, Result.andThen_ok, invoke, builtin, List.map_toArray, List.map_cons, List.map_nil, hsv]
    rw [hr]
    rfl
  · refine .inl ⟨v', w', L', ?_, hp, hn v' L' hk hb hg hsl⟩
    simp only [execOp, resolve, Sem.run_bind, Sem.run_pure, Result.andThen_ok, invoke, builtin, List.map_toArray, List.map_cons, List.map_nil, hsv]
    rw [hr]
    rfl
end
end Go.Sx
namespace Go.Sx
open Go
section
variable {P : Program} {w0 : World} {f : Fr} {L : Heap} {N : Fr → Heap → Prop} {ops : Array Oper} {rest : List Oper} {md : Md}
  {d : Option Tmp} {ty : TypeId} {ps : String} {af : Array Edge} {g : Option (Nat × Bool)}
/-- What a name has, or else. -/
def getV (k : List UInt8) (z : List UInt8) (m : Vals) : List UInt8 := match m.find? fun p => k == p.1 with | some p => p.2 | none => z
theorem fnd_find (k : List UInt8) : ∀ (m : Vals) (i : Nat), (fnd k m i).map Prod.snd = (m.find? fun p => k == p.1).map Prod.snd
  | [], _ => rfl
  | p :: r, i => by
    unfold fnd
    rw [List.find?_cons]
    cases h : (k == p.1)
    · simp only [Bool.false_eq_true, ↓reduceIte]; exact fnd_find k r (i + 1)
    · rfl
/-- A name's value in a map. -/
theorem Ow.mapGet {t kt vt : TypeId} {x y : Operand} {b : Nat} {o : Obj} {m : Vals} {k z : List UInt8} {md' : Md} (he : md.turn = some md') (hs : skipped ops f ⟨d, .lookup t x y false, ty, ps, af, g⟩ = false) (hu : P.underlying t = some (.map kt vt)) (huk : P.underlying kt = some .string)
    (hz : zeroV P vt = some (.agg (a8 z))) (hx : ev f x = vm b) (hy : ev f y = vs k) (hl : readB w0 L b = some o) (hm : MapR o m)
    (hn : Ow P w0 ops md' rest (putF f d (.agg (a8 (getV k z m)))) L N) :
    Ow P w0 ops md (⟨d, .lookup t x y false, ty, ps, af, g⟩ :: rest) f L N := by
  obtain ⟨es, c, rfl, hes⟩ := hm
  refine Ow.step he rfl hs fun w hw => ?_
  have hb := hw.read hl
  have hfk := run_findKey (w := w) huk k es.toList m hes
  refine .inl ⟨.agg (a8 (getV k z m)), w, L, ?_, hw, hn⟩
  have hff := fnd_find k m 0
  have : (Instr.lookup t (vm b) (vs k) false).run P w = .ok (.agg (a8 (getV k z m))) w := by
    cases hf : fnd k m 0 with
    | none =>
      rw [hf] at hfk hff
      have hg : getV k z m = z := by
        unfold getV
        cases h : m.find? fun p => k == p.1 with
        | none => rfl
        | some q => rw [h] at hff; cases hff
      simp only [Instr.lookup, vm, Sem.run_bind, run_underlying hu w, Result.andThen_ok, run_getMap hb, Sem.run_pure, run_checkKey huk, hfk, Option.map_none, run_zeroV hz w, hg, Bool.false_eq_true, ↓reduceIte]
    | some p =>
      obtain ⟨j, a⟩ := p
      rw [hf] at hfk hff
      have hg : getV k z m = a := by
        unfold getV
        cases h : m.find? fun p => k == p.1 with
        | none => rw [h] at hff; cases hff
        | some q => rw [h] at hff; simp only [Option.map_some, Option.some.injEq] at hff; exact hff.symm
      simp only [Instr.lookup, vm, Sem.run_bind, run_underlying hu w, Result.andThen_ok, run_getMap hb, Sem.run_pure, run_checkKey huk, hfk, Option.map_some, hg, Bool.false_eq_true, ↓reduceIte]
  simp only [execOp, Sem.run_bind, hx, hy]
  rw [this]; rfl
end
end Go.Sx
namespace Go.Sx
open Go
theorem extract_getD (cs : List Value) (o n : Nat) : (cs.toArray.extract o (o + n)).toList = (cs.drop o).take n := by
  rw [List.extract_toArray, List.extract_eq_take_drop, Nat.add_sub_cancel_left]
/-- A part of an element of some cells. -/
theorem RowS.part {α : Type} {m : Nat} {enc : α → List Value} {z : α} {w : World} {v : Value} {l : List α} {b off : Nat} {arr : Array Value} {E : TypeId} {fz : Nat × Nat} (h : RowS m enc z w v l b off arr E fz) (hm : ∀ x, (enc x).length = m) {k o n : Nat} (hk : k < l.length) (ho : o + n ≤ m) (hn : 0 < n) :
    loadV (some (true, n)) (some (.cells arr E fz)) (off + k * m + o) = some (.agg ((enc (l.getD k z)).toArray.extract o (o + n))) := by
  have hg : ∀ i, i < n → arr[off + k * m + (o + i)]? = (enc (l.getD k z))[o + i]? := fun i hi => h.get k hk (o + i) (by omega)
  have hlen := hm (l.getD k z)
  have hsz : off + k * m + o + n ≤ arr.size := by
    have h1 := hg (n - 1) (by omega)
    rw [List.getElem?_eq_getElem (by omega)] at h1
    have := (Array.getElem?_eq_some_iff.1 h1).1
    omega
  unfold loadV
  simp only [hsz, ↓reduceIte]
  congr 2
  apply Array.ext_getElem?
  intro i
  by_cases hi : i < n
  · rw [Array.getElem?_extract, Array.getElem?_extract, if_pos (by omega), if_pos (by rw [List.size_toArray]; omega)]
    have hh := hg i hi
    rw [show off + k * m + (o + i) = off + k * m + o + i by omega] at hh
    rw [hh]
    exact (List.getElem?_toArray ..).symm
  · rw [Array.getElem?_eq_none (by rw [Array.size_extract]; omega), Array.getElem?_eq_none (by rw [Array.size_extract]; omega)]
end Go.Sx
namespace Go.Sx
open Go
/-- A slice of elements. -/
def SlV {α : Type} (m : Nat) (enc : α → List Value) (z : α) (w : World) (v : Value) (l : List α) : Prop :=
  ∃ b off c arr E fz, RowS m enc z w v l b off arr E fz ∧ l.length ≤ c ∧ ((v = .slice none 0 0 ∧ l = [] ∧ c = 0) ∨ (v = vsl b off l.length c ∧ w.heap[b]? = some (.cells arr E fz) ∧ off + l.length * m ≤ arr.size))
section
variable {α : Type} {m : Nat} {enc : α → List Value} {z : α} {w : World} {v : Value} {l : List α}
theorem RowS.sl' {b off n c : Nat} {arr : Array Value} {E : TypeId} {fz : Nat × Nat} (hn : n = l.length)
    (has : 0 < l.length → w.heap[b]? = some (.cells arr E fz)) (get : ∀ k, k < l.length → ∀ j, j < m → arr[off + k * m + j]? = (enc (l.getD k z))[j]?) : RowS m enc z w (vsl b off n c) l b off arr E fz := by
  subst hn
  exact ⟨fun x => rfl, fun a k hk => indexAddr_sl _ _ _ _ _ _ ⟨by omega, by omega⟩, has, get⟩
theorem SlV.nil (w : World) : SlV m enc z w (.slice none 0 0) [] := ⟨0, 0, 0, #[], 0, (0, 0), RowS.nil w 0 0 rfl, Nat.le_refl _, .inl ⟨rfl, rfl, rfl⟩⟩
theorem SlV.row (h : SlV m enc z w v l) : ∃ b off arr E fz, RowS m enc z w v l b off arr E fz := by
  obtain ⟨b, off, c, arr, E, fz, hr, -⟩ := h; exact ⟨b, off, arr, E, fz, hr⟩
theorem SlV.sl {b off c : Nat} {arr : Array Value} {E : TypeId} {fz : Nat × Nat} (has : w.heap[b]? = some (.cells arr E fz)) (get : ∀ k, k < l.length → ∀ j, j < m → arr[off + k * m + j]? = (enc (l.getD k z))[j]?) (hc : l.length ≤ c) (hs : off + l.length * m ≤ arr.size) : SlV m enc z w (vsl b off l.length c) l :=
  ⟨b, off, c, arr, E, fz, RowS.sl rfl has get, hc, .inr ⟨rfl, has, hs⟩⟩
theorem RowS.old {w' : World} {b off : Nat} {arr : Array Value} {E : TypeId} {fz : Nat × Nat} {L : Heap} (h : RowS m enc z w v l b off arr E fz) (hw : Hp w L w') (hb : 0 < l.length → b ∉ keys L) : RowS m enc z w' v l b off arr E fz :=
  ⟨h.len, h.idx, fun hl => by have hh := h.has hl; rw [hw.old b (Array.getElem?_eq_some_iff.1 hh).1 (hb hl)]; exact hh, h.get⟩
theorem RowS.lt {b off : Nat} {arr : Array Value} {E : TypeId} {fz : Nat × Nat} (h : RowS m enc z w v l b off arr E fz) (hl : 0 < l.length) : b < w.heap.size := (Array.getElem?_eq_some_iff.1 (h.has hl)).1
/-- Where no old block is turned, it is as it was. -/
theorem SlV.old {w' : World} {L : Heap} (h : SlV m enc z w v l) (hw : Hp w L w') (hb : ∀ b, slB v = some b → b < w.heap.size → b ∉ keys L) : SlV m enc z w' v l := by
  obtain ⟨b, off, c, arr, E, fz, hr, hc, hv⟩ := h
  rcases hv with ⟨rfl, rfl, rfl⟩ | ⟨rfl, hhas, hsz⟩
  · exact SlV.nil w'
  · have hnb := hb b rfl (Array.getElem?_eq_some_iff.1 hhas).1
    refine ⟨b, off, c, arr, E, fz, hr.old hw (fun _ => hnb), hc, .inr ⟨rfl, ?_, hsz⟩⟩
    rw [hw.old b (Array.getElem?_eq_some_iff.1 hhas).1 hnb]; exact hhas
theorem New.not {L : Heap} {n b : Nat} (h : New n L) (hb : b < n) : b ∉ keys L := fun hm => by have := h.le b hm; omega
theorem SlV.oldN {w' : World} {L : Heap} (h : SlV m enc z w v l) (hw : Hp w L w') (hn : New w.heap.size L) : SlV m enc z w' v l := h.old hw fun _ _ hb => hn.not hb
theorem SlV.len (h : SlV m enc z w v l) (x : Bool × Nat) : lenV (.sl x) v = some (vi l.length) := by
  obtain ⟨b, off, arr, E, fz, hr⟩ := h.row
  exact hr.len x
/-- The first ones. -/
theorem SlV.take (h : SlV m enc z w v l) {k : Nat} (hk : k ≤ l.length) (a : Bool) : ∃ v', sliceV (.sl (a, m)) v none (some (some (k : Int))) = some v' ∧ SlV m enc z w v' (l.take k) ∧ (∀ b, slB v' = some b → slB v = some b) := by
  obtain ⟨b, off, c, arr, E, fz, hr, hc, hv⟩ := h
  have hl : (l.take k).length = k := by simp; omega
  rcases hv with ⟨rfl, rfl, rfl⟩ | ⟨rfl, hhas, hsz⟩
  · obtain rfl : k = 0 := by simpa using hk
    refine ⟨.slice none 0 0, rfl, SlV.nil w, fun b hb => hb⟩
  · refine ⟨vsl b off k c, ?_, ?_, fun b hb => hb⟩
    · unfold sliceV vsl
      simp only [bnd_hi _ _ _ (⟨by omega, by omega⟩ : (0 : Int) ≤ (k : Int) ∧ (k : Int) ≤ (c : Int)), Int.toNat_natCast, Nat.zero_mul, Nat.sub_zero, Option.map_some, add_spot, Nat.add_zero]
      split <;> rfl
    · refine ⟨b, off, c, arr, E, fz, RowS.sl' hl.symm (fun h0 => hr.has (by omega)) ?_, by omega, .inr ⟨by rw [hl], hhas, by rw [hl]; have : k * m ≤ l.length * m := Nat.mul_le_mul_right _ hk; omega⟩⟩
      · intro i hi j hj
        rw [hl] at hi
        rw [hr.get i (by omega) j hj]
        congr 2
        rw [List.getD_eq_getElem?_getD, List.getD_eq_getElem?_getD, List.getElem?_take_of_lt hi]
/-- What a growing slice is in a world. -/
theorem Buf.slM {L : Heap} {E : TypeId} {n : Nat} {cs : List Value} (h : Buf L E m v n cs) (hw : ∀ b o, (b, o) ∈ L → w.heap[b]? = some o) (hl : l.length = n) (hcs : cs = (l.map enc).flatten) (hm : ∀ x, (enc x).length = m) : SlV m enc z w v l := by
  rcases h.inv with ⟨rfl, rfl, rfl⟩ | ⟨b, c, rest, rfl, hlk, hlen, hnc, h0, hrest⟩
  · have : l = [] := by simpa using hl
    subst this; exact SlV.nil w
  · subst hl
    refine SlV.sl (hw _ _ (look_mem hlk)) ?_ hnc (by rw [List.size_toArray, List.length_append, hlen]; omega)
    intro k hk j hj
    rw [Nat.zero_add, List.getElem?_toArray, List.getElem?_append_left (by rw [hlen]; have : (k + 1) * m ≤ l.length * m := Nat.mul_le_mul_right _ hk; rw [Nat.add_mul, Nat.one_mul] at this; omega), hcs]
    clear hlen hrest hlk hcs hnc h
    induction l generalizing k with
    | nil => simp at hk
    | cons x r ih =>
      rw [List.map_cons, List.flatten_cons]
      cases k with
      | zero =>
        rw [Nat.zero_mul, Nat.zero_add, List.getElem?_append_left (by rw [hm]; exact hj), List.getD_cons_zero]
      | succ k =>
        rw [List.getElem?_append_right (by rw [hm, Nat.add_mul, Nat.one_mul]; omega), hm, List.getD_cons_succ]
        have := ih (k := k) (by simpa using hk)
        rw [← this]
        congr 1
        rw [Nat.add_mul, Nat.one_mul]; omega
theorem Buf.slV {L : Heap} {E : TypeId} {n : Nat} {cs : List Value} {w0 : World} (h : Buf L E m v n cs) (hw : Hp w0 L w) (hl : l.length = n) (hcs : cs = (l.map enc).flatten) (hm : ∀ x, (enc x).length = m) : SlV m enc z w v l := h.slM hw.has hl hcs hm
end
end Go.Sx
namespace Go.Sx
open Go
theorem New.mono {n m : Nat} (h : n ≤ m) : ∀ {L : Heap}, New m L → New n L
  | [], _ => trivial
  | (_, _) :: _, hL => ⟨Nat.le_trans h hL.1, New.mono h hL.2⟩
theorem New.app {n : Nat} {M : Heap} : ∀ {L : Heap}, New n L → New n M → New n (L ++ M)
  | [], _, hM => hM
  | (_, _) :: _, hL, hM => ⟨hL.1, New.app hL.2 hM⟩
section
variable {P : Program} {w0 : World} {f : Fr} {L : Heap} {N : Fr → Heap → Prop} {ops : Array Oper} {rest : List Oper} {md : Md}
  {d : Option Tmp} {ty : TypeId} {ps : String} {af : Array Edge} {g : Option (Nat × Bool)}
theorem Ow.callE {l : List Operand} {ts : Array TypeId} {k : FuncId} {b : Nat} {S : Value → Obj → Prop} {md' : Md} (he : md.turn = some md')
    (hs : skipped ops f ⟨d, .call ⟨.value (.func k), l.toArray, ts⟩, ty, ps, af, g⟩ = false)
    (hk : ∀ a w, (callFunc k a).run P w = .ok (.enter k a) w) (hb : b ∈ keys L)
    (hc : ∀ w, Hp w0 L w → Rets P k (l.map (ev f)).toArray w (fun v D => ∃ o, D = [(b, o)] ∧ S v o))
    (hn : ∀ v o, S v o → Ow P w0 ops md' rest (putF f d v) (setB L b o) N) :
    Ow P w0 ops md (⟨d, .call ⟨.value (.func k), l.toArray, ts⟩, ty, ps, af, g⟩ :: rest) f L N := by
  refine Ow.callF he hs hk (S := fun _ v D => ∃ o, D = [(b, o)] ∧ S v o) hc ?_
  rintro B v D - - ⟨o, rfl, hS⟩
  exact ⟨_, Mrg.set hb, hn v o hS⟩
/-- A callee that makes new blocks, and turns none. -/
theorem Ow.callN {l : List Operand} {ts : Array TypeId} {k : FuncId} {S : Nat → Value → Heap → Prop} {md' : Md} (he : md.turn = some md')
    (hs : skipped ops f ⟨d, .call ⟨.value (.func k), l.toArray, ts⟩, ty, ps, af, g⟩ = false)
    (hk : ∀ a w, (callFunc k a).run P w = .ok (.enter k a) w)
    (hc : ∀ w, Hp w0 L w → Rets P k (l.map (ev f)).toArray w (fun v D => S w.heap.size v D))
    (hnew : ∀ B v D, S B v D → New B D)
    (hn : ∀ B v D, Above L B → w0.heap.size ≤ B → S B v D → Ow P w0 ops md' rest (putF f d v) (L ++ D) N) :
    Ow P w0 ops md (⟨d, .call ⟨.value (.func k), l.toArray, ts⟩, ty, ps, af, g⟩ :: rest) f L N := by
  refine Ow.callF he hs hk (S := S) hc ?_
  intro B v D ha hB hS
  exact ⟨_, Mrg.fresh (hnew B v D hS).le, hn B v D ha hB hS⟩
theorem Cw.forgetN {c : Code} {K : Kont} (M : Heap) (hnew : New w0.heap.size L) (hM : ∀ p, p ∈ M → p ∈ L) (hn : (keys M).Nodup) (h : Cw P w0 c f M K) : Cw P w0 c f L K :=
  Cw.forget M hM hn (fun p hp _ => hnew.le _ (List.mem_map.2 ⟨p, hp, rfl⟩)) h
end
end Go.Sx
namespace Go.Sx
open Go
section
variable {P : Program} {w0 : World} {f : Fr} {L : Heap} {N : Fr → Heap → Prop} {K : Kont} {l : List Oper} {listed : List Bool} {n : Nat} {R ts : List Nat} {a d : Nat} {z : Obj}
theorem Md.next_sofnil (R ts : List Nat) : (Md.sof R [] ts).next = .sof R [] ts := (rfl)
theorem upon_unshift {ops : Array Oper} {Q : Exit → Act → World → Prop} {o : Oper} {x : Act} {d : Option Tmp} {v : Value} {K : Act → World → Prop} (hd : ∀ t, d = some t → o.dst ≠ some t)
    (hQ : ∀ c a w, Q (.panic c) a w → Q (.panic c) (a.put d v) w) (r : Result Next) (h : o.upon P x (fun a' w' => K (a'.put d v) w') Q r) :
    o.upon P (x.put d v) K Q r := by
  have comm : ∀ u, (x.put o.dst u).put d v = (x.put d v).put o.dst u := fun u => (Act.put_comm x v u hd).symm
  match r, h with
  | .ok (.value u) _, h => show K _ _; rw [← comm]; exact h
  | .ok .skip _, h => show K _ _; rw [← comm]; exact h
  | .ok (.defer e) w', h =>
    have h' : K ((({ x with defers := e :: x.defers } : Act).put o.dst undef).put d v) w' := h
    rw [← Act.put_comm _ v undef hd, ← Act.put_defers] at h'
    exact h'
  | .ok (.enter f args) _, h =>
    refine Calls.mono h fun e w'' he => ?_
    match e, he with
    | .returned u, he => show K _ _; rw [← comm]; exact he
    | .panicked c, he => exact hQ _ _ _ he
    | .outgrown, he => exact he
  | .ok (.row row args) _, h => exact Rows.mono h fun u w'' he => by rw [← comm]; exact he
  | .halt (.panic u) _, h => exact hQ _ _ _ h
theorem wpOp_unshift {ops : Array Oper} {Q : Exit → Act → World → Prop} {j : Nat} {oj : Oper} {d : Option Tmp} {v : Value} (hj : ops[j]? = some oj) (h1 : ∀ t, d = some t → t ∉ oj.looksAt ops) (h2 : ∀ t, d = some t → oj.dst ≠ some t) (hsj : ∀ cs b, oj.op ≠ .select cs b)
    (hQ : ∀ c a w, Q (.panic c) a w → Q (.panic c) (a.put d v) w) {K : Act → World → Prop} {x : Act} {w : World}
    (h : wpOp P ops Q j (fun a' w' => K (a'.put d v) w') x w) : wpOp P ops Q j K (x.put d v) w := by
  unfold wpOp at h ⊢
  simp only [hj] at h ⊢
  rw [wanted_put oj x d v h1]
  cases hw : Region.wanted oj (yielded ops x.tmps) with
  | true =>
    rw [hw] at h
    simp only [if_true] at h ⊢
    rcases h with h | ⟨hasks, hl⟩
    · left
      unfold Oper.wp at h ⊢
      rw [execOp_put oj hsj x d v h1]
      exact upon_unshift (ops := ops) h2 hQ _ h
    · right
      exact ⟨by unfold Oper.asks at *; rwa [execOp_put oj hsj x d v h1], hl⟩
  | false =>
    rw [hw] at h
    simp only [Bool.false_eq_true, if_false] at h ⊢
    rw [Act.put_comm x v undef h2]
    exact h
/-- What is asked of the operation that makes the variable. -/
structure Drift (P : Program) (l : List Oper) (ts : List Nat) (a d : Nat) (z : Obj) : Prop where
  here : ∃ oa t zv, l.toArray[a]? = some oa ∧ oa.op = .alloc t ∧ oa.dst = some d ∧ oa.guard = none ∧ zeroV P t = some zv ∧ z = .cells zv.cells t
  ts : a ∉ ts
  sel : Region.noSelect l.toArray = true
def driftB (l : List Oper) (ts : List Nat) (a d : Nat) : Bool :=
  (match nthO l a with
  | some oa => (match oa.op with | .alloc _ => true | _ => false) && oa.dst == some d && oa.guard == none
  | none => false) && !ts.contains a && Region.noSelect l.toArray
def OwD (P : Program) (w0 : World) (l : List Oper) (R ts : List Nat) (a d : Nat) (z : Obj) (n : Nat) (listed : List Bool) (f : Fr) (L : Heap) (N : Fr → Heap → Prop) : Prop :=
  (∀ w, Hp w0 L w → wpAnyG P l.toArray (postN w0 N) ts (SR w0 R L) (n + 1) listed.toArray (act f) w) ∧
  (∀ b w, w0.heap.size ≤ b → b ∉ keys L → Hp w0 (L ++ [(b, z)]) w → wpAnyG P l.toArray (postN w0 N) ts (SR w0 R L) n (listed.set a true).toArray (act (setF f d (vp b 0))) w)
theorem SR.ofE {w : World} {b : Nat} (hb : w0.heap.size ≤ b) (h : Hp w0 (L ++ [(b, z)]) w) : SR w0 R L w := by
  intro r _ o ho
  unfold readB at ho
  split at ho
  · rename_i o' hl
    cases ho
    exact h.has _ _ (List.mem_append_left _ (look_mem hl))
  · rename_i hl
    have hlt := (Array.getElem?_eq_some_iff.1 ho).1
    rw [h.old r hlt ?_]; exact ho
    intro hm
    simp only [keys, List.map_append, List.map_cons, List.map_nil, List.mem_append, List.mem_singleton] at hm
    rcases hm with hm | hm
    · exact look_none hl hm
    · omega
theorem postN_put {c : List PanicEntry} {x x' : Act} {w : World} (h : postN w0 N (.panic c) x w) : postN w0 N (.panic c) x' w := postN_panic h
theorem Hp.perm {w : World} {M : Heap} (h : Hp w0 L w) (hp : M.Perm L) : Hp w0 M w :=
  h.same (fun _ => hp.mem_iff) ((List.Perm.nodup_iff (hp.map Prod.fst)).2 h.nodup)
/-- Values that come at once. -/
def chkD (P : Program) (l : List Oper) (ts : List Nat) (a : Nat) : List Nat → List Bool → Option (List Bool)
  | [], listed => some listed
  | k :: is, listed =>
    match nthO l k, nthO l a with
    | some o, some oa => if k != a && !ts.contains k && (ts.all fun t => !listed.toArray.getD t true && !(listed.set a true).toArray.getD t true) && (Region.ready .any l.toArray listed.toArray).contains k && Region.free .any l.toArray listed.toArray k &&
        (Region.ready .any l.toArray (listed.set a true).toArray).contains k && Region.free .any l.toArray (listed.set a true).toArray k && o.apart l.toArray oa &&
        (pureK P o.op || (readK o.op && waitsB l.toArray ts listed.toArray k && waitsB l.toArray ts (listed.set a true).toArray k)) then chkD P l ts a is (listed.set k true) else none
    | _, _ => none
theorem OwD.step {k : Nat} {o : Oper} {v : Value} (hD : Drift P l ts a d z) (hk : nthO l k = some o) {rest : List Bool} (hc : chkD P l ts a [k] listed = some rest)
    (hY : YieldsC P l.toArray (SR w0 R L) (pureK P o.op = true) o v (act f)) (h : OwD P w0 l R ts a d z n rest (putF f o.dst v) L N) : OwD P w0 l R ts a d z (n + 1) listed f L N := by
  obtain ⟨⟨oa, t, zv, ha, hop, hdst, hg, hz, rfl⟩, hats, hns⟩ := hD
  have hoi : l.toArray[k]? = some o := by rw [nthO_eq] at hk; simpa using hk
  have ha' : nthO l a = some oa := by rw [nthO_eq]; simpa using ha
  unfold chkD at hc
  rw [hk, ha'] at hc
  simp only at hc
  split at hc
  · rename_i hcc
    simp only [chkD, Option.some.injEq] at hc
    subst hc
    simp only [Bool.and_eq_true, Bool.or_eq_true, Bool.not_eq_true', List.all_eq_true, List.contains_eq_mem, decide_eq_true_eq, decide_eq_false_iff_not, bne_iff_ne, ne_eq] at hcc
    obtain ⟨⟨⟨⟨⟨⟨⟨⟨c1, c2⟩, c3⟩, c4⟩, c5⟩, c6⟩, c7⟩, c8⟩, c9⟩ := hcc
    obtain ⟨q1, q2, q3⟩ := Oper.apart_spec c8
    have hsel := Region.noSelect_spec hns
    have hset : (listed.set k true).set a true = (listed.set a true).set k true := List.set_comm _ _ c1
    refine ⟨fun w hw => ?_, fun b w hb hbL hw => ?_⟩
    · refine G_first hoi c2 hsel (fun c a w h => postN_panic h) _ _ _ _ (first_of (P := P) hoi c4 c5 (c9.imp id fun h => ⟨h.1.1, h.1.2, fun t ht => (c3 t ht).1⟩)) (.inr fun t ht => (c3 t ht).1) hY ?_
      rw [act_put, set_toArray]
      exact h.1 w hw
    · have hY2 : YieldsC P l.toArray (SR w0 R L) (pureK P o.op = true) o v (act (setF f d (vp b 0))) := by
        refine hY.left (hsel k o · · hoi) (oj := oa) q3 ⟨vp b 0, [], ?_⟩
        rw [hdst]
        exact (act_put f (some d) (vp b 0)).symm
      refine G_first hoi c2 hsel (fun c a w h => postN_panic h) _ _ _ _ (first_of (P := P) hoi c6 c7 (c9.imp id fun h => ⟨h.1.1, h.2, fun t ht => (c3 t ht).2⟩)) (.inr fun t ht => (c3 t ht).2) hY2 ?_
      have e : (act (setF f d (vp b 0))).put o.dst v = act (setF (putF f o.dst v) d (vp b 0)) := by
        have e1 : act (setF f d (vp b 0)) = (act f).put (some d) (vp b 0) := (act_put f (some d) (vp b 0)).symm
        rw [e1, Act.put_comm (act f) (x := some d) (y := o.dst) (vp b 0) v (fun t ht hod => by cases ht; exact q2 _ hod hdst), act_put, act_put]; rfl
      rw [e, set_toArray, ← hset]
      exact h.2 b w hb hbL hw
  · cases hc
theorem chkD_cons {k : Nat} {is : List Nat} {listed listed' : List Bool} (h : chkD P l ts a (k :: is) listed = some listed') : chkD P l ts a [k] listed = some (listed.set k true) ∧ chkD P l ts a is (listed.set k true) = some listed' := by
  rw [chkD] at h
  cases ho : nthO l k with
  | none => rw [ho] at h; cases h
  | some o =>
    cases hoa : nthO l a with
    | none => rw [ho, hoa] at h; cases h
    | some oa =>
      rw [ho, hoa] at h
      simp only at h
      split at h
      · rename_i hcc
        refine ⟨?_, h⟩
        rw [chkD, ho, hoa]
        simp only
        rw [if_pos hcc]; rfl
      · cases h
theorem OwD.runs {k : Md → List Oper → Fr → Heap → Prop} (hD : Drift P l ts a d z) : ∀ (is : List Nat) {listed listed' : List Bool} {f : Fr} {L : Heap}, chkD P l ts a is listed = some listed' →
    (∀ md r f' L', k md r f' L' → r = [] ∧ OwD P w0 l R ts a d z n listed' f' L' N) → vcL P w0 l.toArray false (.sof R [] []) (pickL l is) f L k → OwD P w0 l R ts a d z (is.length + n) listed f L N
  | [], listed, listed', f, L, hc, hk, h => by
    cases hc
    rw [List.length_nil, Nat.zero_add]
    exact (hk _ _ _ _ h).2
  | i :: is, listed, listed', f, L, hc, hk, h => by
    obtain ⟨hc1, hc2⟩ := chkD_cons hc
    rw [pickL_cons] at h
    cases ho : nthO l i with
    | none => unfold chkD at hc1; rw [ho] at hc1; cases hc1
    | some o =>
      rw [ho, consO_some] at h
      unfold vcL at h
      rw [List.length_cons, show is.length + 1 + n = (is.length + n) + 1 by omega]
      cases hs : skipped l.toArray f o with
      | true =>
        rw [hs] at h
        have hw0 : Region.wanted o (yielded l.toArray (act f).tmps) = false := by rw [wanted_eq, hs]; rfl
        exact OwD.step hD ho hc1 (v := undef) (.inr ⟨hw0, rfl⟩) (OwD.runs hD is hc2 hk h)
      | false =>
        rw [hs] at h
        have hw0 : Region.wanted o (yielded l.toArray (act f).tmps) = true := by rw [wanted_eq, hs]; rfl
        simp only [ib, vcB] at h
        split at h
        · cases hrd : rdOk (.sof R [] []) f o.op with
          | false => rw [hrd] at h; exact absurd (hk _ _ _ _ h).1 (by simp)
          | true =>
            rw [hrd] at h
            simp only at h
            cases hv : evalV P w0 L f o.op with
            | none => rw [hv] at h; exact h.elim
            | some v =>
              rw [hv] at h
              refine OwD.step hD ho hc1 (v := v) (.inl ⟨hw0, fun w hw => ?_⟩) (OwD.runs hD is hc2 hk h)
              rw [act_eval']
              rcases hw with hp | hw
              · exact run_evalV (Hp.refl w) (evalV_pure hp hv w)
              · exact run_evalV (Hp.refl w) (evalV_reads hrd hv hw)
        · exact absurd (hk _ _ _ _ h).1 (by simp)
        · exact absurd (hk _ _ _ _ h).1 (by simp)
theorem OwD.run (is : List Nat) (listed' : List Bool) (n : Nat) {m : Nat} (hm : m = is.length + n) (hD : Drift P l ts a d z) (hc : chkD P l ts a is listed = some listed')
    (h : ∀ k : Md → List Oper → Fr → Heap → Prop, (∀ md f L, OwD P w0 l R ts a d z n listed' f L N → k md [] f L) → nl (pickL l is) fun l' => vcL P w0 l.toArray false (.sof R [] []) l' f L k) : OwD P w0 l R ts a d z m listed f L N := by
  subst hm
  refine OwD.runs (k := fun _ r f' L' => r = [] ∧ OwD P w0 l R ts a d z n listed' f' L' N) hD is hc (fun _ _ _ _ h => h) ?_
  exact h _ fun _ _ _ h => ⟨rfl, h⟩
theorem run_allocD {t : TypeId} {zv : Value} {oa : Oper} {Q : Exit → Act → World → Prop} {X : Act → World → Prop} {w : World} (ha : l.toArray[a]? = some oa) (hop : oa.op = .alloc t) (hdst : oa.dst = some d) (hg : oa.guard = none) (hz : zeroV P t = some zv)
    (h : X (act (setF f d (vp w.heap.size 0))) (w.alloc (.cells zv.cells t))) : wpOp P l.toArray Q a X (act f) w := by
  obtain ⟨dst, op, ty, pos, after, guard⟩ := oa
  simp only at hop hdst hg
  subst hop; subst hdst; subst hg
  unfold wpOp
  simp only [ha]
  have hw : Region.wanted ⟨some d, .alloc t, ty, pos, after, none⟩ (yielded l.toArray (act f).tmps) = true := by rw [wanted_eq]; rfl
  rw [hw]
  simp only [↓reduceIte]
  left
  unfold Oper.wp
  have hr : (execOp (act f).eval ⟨some d, .alloc t, ty, pos, after, none⟩).run P w = .ok (.value (vp w.heap.size 0)) (w.alloc (.cells zv.cells t)) := by
    simp only [execOp, Instr.alloc, Sem.run_bind, run_zeroV hz w, Result.andThen_ok]
    rfl
  rw [hr]
  show X ((act f).put (some d) (vp w.heap.size 0)) _
  rw [act_put]
  exact h
theorem SR_congr {L' : Heap} (hS : ∀ b, b ∈ R → readB w0 L' b = readB w0 L b) : SR w0 R L = SR w0 R L' := by
  funext v
  unfold SR
  apply propext
  constructor
  · intro hh b hb o ho; exact hh b hb o (by rw [← hS b hb]; exact ho)
  · intro hh b hb o ho; exact hh b hb o (by rw [hS b hb]; exact ho)
/-- One of some operations is next, but for the new variable. -/
def softsD (l : List Oper) (ts : List Nat) (a : Nat) (ks : List Nat) (listed : List Bool) : Bool :=
  ((Region.ready .any l.toArray listed.toArray).all fun i => i == a || ks.contains i) && (Region.ready .any l.toArray listed.toArray != []) && ((Region.ready .any l.toArray (listed.set a true).toArray).all fun i => ks.contains i) && (Region.ready .any l.toArray (listed.set a true).toArray != []) && ks.all fun k =>
    match nthO l k, nthO l a with
    | some o, some oa => k != a && !ts.contains k && o.apart l.toArray oa
    | _, _ => false
theorem OwD.softs (ks : List Nat) (hD : Drift P l ts a d z) (hs : softsD l ts a ks listed = true)
    (h : ∀ k, k ∈ ks → ∀ o, nthO l k = some o → ∀ E, (E = [] ∨ ∃ b, E = [(b, z)] ∧ w0.heap.size ≤ b ∧ b ∉ keys L) → Ow P w0 l.toArray .seq [o] f (L ++ E) (fun f' L'' => ∃ L', (L' ++ E).Perm L'' ∧ (∀ r, r ∈ R → readB w0 L' r = readB w0 L r) ∧ OwD P w0 l R ts a d z n (listed.set k true) f' L' N)) :
    OwD P w0 l R ts a d z (n + 1) listed f L N := by
  obtain ⟨⟨oa, t, zv, ha, hop, hdst, hg, hz, rfl⟩, hats, hns⟩ := hD
  have ha' : nthO l a = some oa := by rw [nthO_eq]; simpa using ha
  unfold softsD at hs
  simp only [Bool.and_eq_true, List.all_eq_true, Bool.or_eq_true, beq_iff_eq, bne_iff_ne, ne_eq, List.contains_eq_mem, decide_eq_true_eq] at hs
  obtain ⟨⟨⟨⟨c3, c4⟩, c5⟩, c5'⟩, c6⟩ := hs
  have hsel := Region.noSelect_spec hns
  have hkk : ∀ k, k ∈ ks → ∃ o, nthO l k = some o ∧ k ≠ a ∧ k ∉ ts ∧ o.apart l.toArray oa = true := by
    intro k hk
    have := c6 k hk
    rw [ha'] at this
    cases ho : nthO l k with
    | none => rw [ho] at this; cases this
    | some o =>
      rw [ho] at this
      simp only [Bool.and_eq_true, Bool.not_eq_true', bne_iff_ne, ne_eq, decide_eq_false_iff_not] at this
      exact ⟨o, rfl, this.1.1, this.1.2, this.2⟩
  have t2 : ∀ b w, w0.heap.size ≤ b → b ∉ keys L → Hp w0 (L ++ [(b, .cells zv.cells t)]) w → wpAnyG P l.toArray (postN w0 N) ts (SR w0 R L) (n + 1) (listed.set a true).toArray (act (setF f d (vp b 0))) w := by
    intro b w hb hbL hw
    refine ⟨fun _ => SR.ofE hb hw, (fun h => absurd h c5'), ?_⟩
    intro k hi
    have hkm := c5 k hi
    obtain ⟨o, hk, c1, c2, c7⟩ := hkk k hkm
    have hoi : l.toArray[k]? = some o := by rw [nthO_eq] at hk; simpa using hk
    obtain ⟨q1, q2, q3⟩ := Oper.apart_spec c7
    have hset : (listed.set k true).set a true = (listed.set a true).set k true := List.set_comm _ _ c1
    have e1 : act (setF f d (vp b 0)) = (act f).put (some d) (vp b 0) := (act_put f (some d) (vp b 0)).symm
    rw [e1]
    refine wpOp_unshift hoi (fun t ht => by cases ht; exact q3 d hdst) (fun t ht => by cases ht; exact fun hod => q2 d hod hdst) (hsel _ o · · hoi) (fun c a w h => postN_put h) ?_
    refine wpOp_of hoi (X := fun a' w' => wpAnyG P l.toArray (postN w0 N) ts (SR w0 R L) n ((listed.set a true).toArray.setIfInBounds k true) (a'.put (some d) (vp b 0)) w') ?_ hw
    intro w' hw'
    refine wpList_mono1 ?_ (h k hkm o hk [(b, .cells zv.cells t)] (.inr ⟨b, rfl, hb, hbL⟩) w' hw')
    rintro f' L'' ⟨L', hpm, hR, hO⟩ w'' hw''
    have hw3 := hw''.perm hpm
    rw [act_put, set_toArray, ← hset, SR_congr hR]
    refine hO.2 b w'' hb (fun hm => ?_) hw3
    have hnd := hw3.nodup
    rw [keys_app, List.nodup_append] at hnd
    exact hnd.2.2 b hm b (by simp [keys]) rfl
  refine ⟨fun w hw => ⟨fun _ => SR.of hw, fun h => absurd h c4, fun k hi => ?_⟩, t2⟩
  rcases c3 k hi with rfl | hkm
  · refine run_allocD ha hop hdst hg hz ?_
    rw [set_toArray]
    refine t2 _ _ hw.size (fun hm => Nat.lt_irrefl _ (hw.lt hm)) (hw.alloc _)
  · obtain ⟨o, hk, c1, c2, c7⟩ := hkk k hkm
    have hoi : l.toArray[k]? = some o := by rw [nthO_eq] at hk; simpa using hk
    refine wpOp_of hoi (X := wpAnyG P l.toArray (postN w0 N) ts (SR w0 R L) (n + 1) (listed.toArray.setIfInBounds k true)) ?_ hw
    intro w' hw'
    have h1 := h k hkm o hk [] (.inl rfl)
    rw [List.append_nil] at h1
    refine wpList_mono1 ?_ (h1 w' hw')
    rintro f' L'' ⟨L', hpm, hR, hO⟩ w'' hw''
    rw [List.append_nil] at hpm
    rw [set_toArray, SR_congr hR]
    exact hO.1 w'' (hw''.perm hpm)
theorem OwD.soft (k : Nat) (o : Oper) (hD : Drift P l ts a d z) (hk : nthO l k = some o) (hs : softsD l ts a [k] listed = true)
    (h : ∀ E, (E = [] ∨ ∃ b, E = [(b, z)] ∧ w0.heap.size ≤ b ∧ b ∉ keys L) → Ow P w0 l.toArray .seq [o] f (L ++ E) (fun f' L'' => ∃ L', (L' ++ E).Perm L'' ∧ (∀ r, r ∈ R → readB w0 L' r = readB w0 L r) ∧ OwD P w0 l R ts a d z n (listed.set k true) f' L' N)) :
    OwD P w0 l R ts a d z (n + 1) listed f L N := OwD.softs [k] hD hs fun k' hk' o' ho' => by
  rw [List.mem_singleton] at hk'
  subst hk'
  rw [hk] at ho'
  cases ho'
  exact h
theorem OwD.two (k k2 : Nat) (o o2 : Oper) (hD : Drift P l ts a d z) (hk : nthO l k = some o) (hk2 : nthO l k2 = some o2) (hs : softsD l ts a [k, k2] listed = true)
    (h : ∀ E, (E = [] ∨ ∃ b, E = [(b, z)] ∧ w0.heap.size ≤ b ∧ b ∉ keys L) → Ow P w0 l.toArray .seq [o] f (L ++ E) (fun f' L'' => ∃ L', (L' ++ E).Perm L'' ∧ (∀ r, r ∈ R → readB w0 L' r = readB w0 L r) ∧ OwD P w0 l R ts a d z n (listed.set k true) f' L' N))
    (h2 : ∀ E, (E = [] ∨ ∃ b, E = [(b, z)] ∧ w0.heap.size ≤ b ∧ b ∉ keys L) → Ow P w0 l.toArray .seq [o2] f (L ++ E) (fun f' L'' => ∃ L', (L' ++ E).Perm L'' ∧ (∀ r, r ∈ R → readB w0 L' r = readB w0 L r) ∧ OwD P w0 l R ts a d z n (listed.set k2 true) f' L' N)) :
    OwD P w0 l R ts a d z (n + 1) listed f L N := OwD.softs [k, k2] hD hs fun k' hk' o' ho' => by
  simp only [List.mem_cons, List.not_mem_nil, or_false] at hk'
  rcases hk' with rfl | rfl
  · rw [hk] at ho'; cases ho'; exact h
  · rw [hk2] at ho'; cases ho'; exact h2
/-- The variable's own turn: behind it one order. -/
theorem OwD.real (is : List Nat) {m : Nat} (hm : m = is.length) (hD : Drift P l ts a d z) (hr : Region.ready .any l.toArray listed.toArray = [a]) (hB : orderB P l.toArray ts is (listed.set a true).toArray = true) (hts : (ts.all fun t => !(listed.set a true).toArray.getD t true) = true)
    (hl : is.map (fun i : Nat => l[i]?) = (pickL l is).map some) (hR : ∀ r, r ∈ R → r ∈ keys L ∨ r < w0.heap.size)
    (h : nl (pickL l is) fun l' => ∀ b, w0.heap.size ≤ b → b ∉ keys L → Ow P w0 l.toArray (.sof R is ts) l' (setF f d (vp b 0)) (L ++ [(b, z)]) N) : OwD P w0 l R ts a d z m listed f L N := by
  subst hm
  obtain ⟨⟨oa, t, zv, ha, hop, hdst, hg, hz, rfl⟩, hats, hns⟩ := hD
  simp only [List.all_eq_true, Bool.not_eq_true'] at hts
  revert hl h
  generalize pickL l is = l'
  intro hl h
  have hlen : is.length = l'.length := by have := congrArg List.length hl; simpa using this
  have hF : Fits P l.toArray ts is l' (listed.set a true).toArray := ⟨hlen, fun j => by
    have := congrArg (·[j]?) hl
    simp only [List.getElem?_map] at this
    cases hj : is[j]? with
    | none =>
      rw [hj] at this
      simp only [Option.map_none] at this
      cases hj' : l'[j]? with
      | none => rfl
      | some x => rw [hj'] at this; cases this
    | some i =>
      rw [hj] at this
      simp only [Option.map_some] at this
      cases hj' : l'[j]? with
      | none => rw [hj'] at this; cases this
      | some x =>
        rw [hj'] at this
        simp only [Option.map_some, Option.some.injEq] at this
        simp [this], hns, hB⟩
  have hRb : ∀ b, w0.heap.size ≤ b → b ∉ keys L → ∀ r, r ∈ R → readB w0 (L ++ [(b, Obj.cells zv.cells t)]) r = readB w0 L r := by
    intro b hb hbL r hr
    unfold readB
    cases hlk : look L r with
    | some o => rw [look_app hlk]
    | none =>
      have hrn : r ∉ keys L := look_none hlk
      have hne : b ≠ r := by
        rcases hR r hr with h | h
        · exact absurd h hrn
        · omega
      rw [look_app_r hrn]
      unfold look
      rw [if_neg hne]; rfl
  have t2 : ∀ b w, w0.heap.size ≤ b → b ∉ keys L → Hp w0 (L ++ [(b, .cells zv.cells t)]) w → wpAnyG P l.toArray (postN w0 N) ts (SR w0 R L) is.length (listed.set a true).toArray (act (setF f d (vp b 0))) w := by
    intro b w hb hbL hw
    rw [hlen, SR_congr (hRb b hb hbL)]
    exact h b hb hbL _ hF (fun t ht => hts t ht) w hw
  refine ⟨fun w hw => ⟨fun _ => SR.of hw, (fun h => by rw [hr] at h; cases h), fun i hi => ?_⟩, t2⟩
  rw [hr, List.mem_singleton] at hi
  subst hi
  refine run_allocD ha hop hdst hg hz ?_
  rw [set_toArray]
  exact t2 _ _ hw.size (fun hm => Nat.lt_irrefl _ (hw.lt hm)) (hw.alloc _)
/-- A region in which a variable may be made at any time. -/
theorem Cw.regionD {id : Nat} (R ts : List Nat) (a d t m : Nat) (zv : Value) (hl : l.length = m + 1) (hm : P.follows .mixedOrders = true) (hop : ((nthO l a).map fun o => (o.op, o.dst, o.guard)) = some (.alloc t, some d, none)) (hts : ts.contains a = false) (hns : Region.noSelect l.toArray = true) (hz : zeroV P t = some zv)
    (h : Drift P l ts a d (.cells zv.cells t) → OwD P w0 l R ts a d (.cells zv.cells t) m (List.replicate (m + 1) false) f L (K .normal)) : Cw P w0 (.region id l.toArray true) f L K := by
  intro w hw
  refine wp_mono (wp_region_any hm ?_) fun _ _ _ h => postN_post h
  have hD : Drift P l ts a d (.cells zv.cells t) := by
    cases hn : nthO l a with
    | none => rw [hn] at hop; cases hop
    | some oa =>
      rw [hn] at hop
      simp only [Option.map_some, Option.some.injEq, Prod.mk.injEq] at hop
      exact ⟨⟨oa, t, zv, by rw [nthO_eq] at hn; simpa using hn, hop.1, hop.2.1, hop.2.2, hz, rfl⟩, by simpa using hts, hns⟩
  have h1 := (h hD).1 w.drew hw.drew
  have := wpAny_of_G _ _ _ _ h1
  simpa [hl] using this
end
end Go.Sx
namespace Go.Sx
open Go
/-- A slice that grows, or one that was written out with no elements. -/
def Gr (L : Heap) (E : TypeId) (m : Nat) (v : Value) (n : Nat) (cs : List Value) : Prop :=
  Buf L E m v n cs ∨ (n = 0 ∧ cs = [] ∧ ∃ b, v = vsl b 0 0 0 ∧ look L b = some (.cells #[] E (0, 0)))
theorem Gr.nl {L : Heap} {E : TypeId} {m : Nat} : Gr L E m (.slice none 0 0) 0 [] := .inl .nl
theorem Grew.any {w0 : World} {v v' : Value} {L L' : Heap} (h : Grew w0 v L L') (hv : slB v = none) : Grew w0 v' L L' :=
  ⟨h.keys, h.new, fun c o _ hl => h.look c o (by rw [hv]; simp) hl⟩
theorem Gr.keep {L L' : Heap} {E : TypeId} {m n : Nat} {v : Value} {cs : List Value} (h : Gr L E m v n cs) (hk : ∀ b o, slB v = some b → look L b = some o → look L' b = some o) : Gr L' E m v n cs := by
  rcases h with h | ⟨h1, h2, b, rfl, h3⟩
  · exact .inl (h.keep hk)
  · exact .inr ⟨h1, h2, b, rfl, hk b _ rfl h3⟩
theorem Gr.app {L M : Heap} {E : TypeId} {m n : Nat} {v : Value} {cs : List Value} (h : Gr L E m v n cs) : Gr (L ++ M) E m v n cs := h.keep fun _ _ _ hl => look_app hl
theorem Gr.len {L : Heap} {E : TypeId} {m n : Nat} {v : Value} {cs : List Value} (h : Gr L E m v n cs) (x : Bool × Nat) : lenV (.sl x) v = some (vi n) := by
  rcases h with h | ⟨rfl, rfl, b, rfl, -⟩
  · exact h.len x
  · rfl
theorem Gr.cell {L : Heap} {E : TypeId} {m n : Nat} {v : Value} {cs : List Value} (h : Gr L E m v n cs) : Value.oneCell' v = true ∧ v.cells = #[v] := by
  rcases h with h | ⟨rfl, rfl, b, rfl, -⟩
  · exact h.cell
  · exact ⟨rfl, rfl⟩
theorem Gr.key {L : Heap} {E : TypeId} {m n : Nat} {v : Value} {cs : List Value} (h : Gr L E m v n cs) {b : Nat} (hb : slB v = some b) : b ∈ keys L := by
  rcases h with h | ⟨rfl, rfl, c, rfl, hl⟩
  · rcases h.inv with ⟨rfl, -, -⟩ | ⟨c, cc, rest, rfl, hl, -⟩
    · cases hb
    · cases hb; exact key_of_look hl
  · cases hb; exact key_of_look hl
section
variable {α : Type} {m : Nat} {enc : α → List Value} {z : α} {w : World} {v : Value} {l : List α}
theorem Gr.slM {L : Heap} {E : TypeId} {n : Nat} {cs : List Value} (h : Gr L E m v n cs) (hw : ∀ b o, (b, o) ∈ L → w.heap[b]? = some o) (hl : l.length = n) (hcs : cs = (l.map enc).flatten) (hm : ∀ x, (enc x).length = m) : SlV m enc z w v l := by
  rcases h with h | ⟨rfl, rfl, b, rfl, hlk⟩
  · exact h.slM hw hl hcs hm
  · obtain rfl : l = [] := List.eq_nil_of_length_eq_zero hl
    exact SlV.sl (l := ([] : List α)) (off := 0) (c := 0) (hw _ _ (look_mem hlk)) (fun k hk => by simp at hk) (Nat.le_refl 0) (by simp)
theorem Gr.slV {L : Heap} {E : TypeId} {n : Nat} {cs : List Value} {w0 : World} (h : Gr L E m v n cs) (hw : Hp w0 L w) (hl : l.length = n) (hcs : cs = (l.map enc).flatten) (hm : ∀ x, (enc x).length = m) : SlV m enc z w v l := h.slM hw.has hl hcs hm
theorem rows_extract (hm : ∀ x, (enc x).length = m) (arr : Array Value) : ∀ (ls : List α) (off : Nat), off + ls.length * m ≤ arr.size → (∀ k j, k < ls.length → j < m → arr[off + k * m + j]? = (enc (ls.getD k z))[j]?) →
    (arr.extract off (off + ls.length * m)).toList = (ls.map enc).flatten
  | [], off, _, _ => by simp
  | r :: ls, off, hs, h => by
    have hlm : (r :: ls).length * m = m + ls.length * m := by rw [List.length_cons, Nat.add_mul, Nat.one_mul, Nat.add_comm]
    rw [hlm] at hs ⊢
    have ih := rows_extract hm arr ls (off + m) (by omega) (fun k j hk hj => by
      have := h (k + 1) j (by simpa using hk) hj
      rw [List.getD_cons_succ] at this
      rw [← this]; congr 1; rw [Nat.add_mul, Nat.one_mul]; omega)
    have h0 : (arr.extract off (off + m)).toList = enc r := by
      apply List.ext_getElem?
      intro j
      rw [Array.getElem?_toList, Array.getElem?_extract]
      by_cases hj : j < m
      · rw [if_pos (by omega)]
        have := h 0 j (by simp) hj
        simpa using this
      · rw [if_neg (by omega), List.getElem?_eq_none (by rw [hm]; omega)]
    rw [List.map_cons, List.flatten_cons, ← ih, ← h0, ← Array.toList_append]
    congr 1
    rw [Array.extract_append_extract]
    congr 1 <;> omega
theorem flat_len (hm : ∀ x, (enc x).length = m) (l : List α) : (l.map enc).flatten.length = l.length * m := by
  induction l with
  | nil => simp
  | cons x r ih => rw [List.map_cons, List.flatten_cons, List.length_append, ih, hm, List.length_cons, Nat.add_mul, Nat.one_mul, Nat.add_comm]
/-- A literal of one element. -/
theorem AppX.one1 {P : Program} {b : Nat} {E : TypeId} {fz : Nat × Nat} {cs : List Value} (hb : w.heap[b]? = some (.cells cs.toArray E fz)) (hm : cs.length = m) (h1 : cs.all Value.oneCell' = true) : AppX P w m (vsl b 0 1 1) 1 cs := by
  refine AppX.block (w0 := w) (L := []) (by rw [readB_nil]; exact hb) (by simp; omega) ?_ h1 (Hp.refl w)
  rw [List.extract_toArray, List.extract_eq_take_drop, List.drop_zero, List.take_of_length_le (by omega)]
/-- What is appended out of a slice. -/
theorem SlV.appX {P : Program} (h : SlV m enc z w v l) (hm : ∀ x, (enc x).length = m) (h1 : ∀ x, (enc x).all Value.oneCell' = true) : AppX P w m v l.length (l.map enc).flatten := by
  obtain ⟨b, off, c, arr, E, fz, hr, hc, hv⟩ := h
  rcases hv with ⟨rfl, rfl, rfl⟩ | ⟨rfl, hhas, hsz⟩
  · exact AppX.nil P w m
  · refine AppX.block (w0 := w) (L := []) (by rw [readB_nil]; exact hhas) hsz (rows_extract (z := z) hm arr l off hsz (fun k j hk hj => hr.get k hk j hj)) ?_ (Hp.refl w)
    rw [List.all_flatten, List.all_map, List.all_eq_true]
    exact fun r _ => h1 r
end
section
variable {P : Program} {w0 : World} {f : Fr} {L : Heap} {N : Fr → Heap → Prop} {ops : Array Oper} {rest : List Oper} {md : Md}
  {d : Option Tmp} {ty : TypeId} {ps : String} {af : Array Edge} {g : Option (Nat × Bool)}
theorem Ow.appendG {ts tx e : TypeId} {m : Bool × Nat} {z : Value} {s x : Operand} {n k : Nat} {cs new : List Value} {dx : TypeDesc} {md' : Md} (sv : Value) (hsv : ev f s = sv) (he : md.turn = some md')
    (hs : skipped ops f ⟨d, .call ⟨.builtin .append, #[s, x], #[ts, tx]⟩, ty, ps, af, g⟩ = false)
    (hu : P.underlying ts = some (.slice e)) (hm : aggT P e = some m) (hi : bytesOk P e = true) (hz : zeroV P e = some z) (hzs : z.cells.size = m.2) (hux : P.underlying tx = some dx) (hnx : ∀ k, dx ≠ .int k)
    (hB : Gr L e m.2 sv n cs) (hX : ∀ w, Hp w0 L w → AppX P w m.2 (ev f x) k new) (hlen : new.length = k * m.2) (hbig : 2 * (n + k) + 768 ≤ 2 ^ 38)
    (hn : ∀ v' L', Gr L' e m.2 v' (n + k) (cs ++ new) → (0 < k → Buf L' e m.2 v' (n + k) (cs ++ new)) → Grew w0 sv L L' → (slB v' = slB sv ∨ ∃ c, slB v' = some c ∧ Above L c) → Ow P w0 ops md' rest (putF f d v') L' N) :
    Ow P w0 ops md (⟨d, .call ⟨.builtin .append, #[s, x], #[ts, tx]⟩, ty, ps, af, g⟩ :: rest) f L N := by
  rcases hB with hB | ⟨rfl, rfl, b, rfl, hlk⟩
  · exact Ow.append sv hsv he hs hu hm hi hz hzs hux hnx hB hX hbig fun v' L' h1 h2 h3 => hn v' L' (.inl h1) (fun _ => h1) h2 h3
  · refine Ow.appendEm hsv he hs hu hm hi hz hzs hux hnx hX hbig (fun h0 => ?_) (fun v' L' hk h1 h2 h3 => ?_)
    · subst h0
      obtain rfl : new = [] := List.eq_nil_of_length_eq_zero (by rw [hlen, Nat.zero_mul])
      exact hn _ L (.inr ⟨rfl, rfl, b, rfl, hlk⟩) (fun h => absurd h (Nat.lt_irrefl 0)) (Grew.refl _ _ _) (.inl rfl)
    · exact hn v' L' (.inl h1) (fun _ => h1) (h2.any rfl) (.inr h3)
end
end Go.Sx
namespace Go.Sx
open Go
theorem perm_mid {A D E : Heap} : (A ++ D ++ E).Perm (A ++ E ++ D) := by
  rw [List.append_assoc, List.append_assoc]
  exact List.Perm.append_left A List.perm_append_comm
theorem readB_app {w0 : World} {L M : Heap} {r : Nat} (h : r ∈ keys L) : readB w0 (L ++ M) r = readB w0 L r := by
  obtain ⟨o, ho⟩ := look_key h
  rw [read_look ho, read_look (look_app ho)]
theorem readB_appR {w0 : World} {L M : Heap} {R : List Nat} (h : ∀ r, r ∈ R → r ∈ keys L) : ∀ r, r ∈ R → readB w0 (L ++ M) r = readB w0 L r := fun r hr => readB_app (h r hr)
theorem New.of_le {n : Nat} : ∀ {D : Heap}, (∀ c, c ∈ keys D → n ≤ c) → New n D
  | [], _ => trivial
  | (b, o) :: r, h => ⟨h b (by simp [keys]), New.of_le fun c hc => h c (by simp only [keys, List.map_cons, List.mem_cons] at hc ⊢; exact .inr hc)⟩
theorem readB_appr {w0 : World} {L M : Heap} {r : Nat} (h : r ∉ keys M) : readB w0 (M ++ L) r = readB w0 L r := by
  unfold readB; rw [look_app_r h]
theorem Rets.quiet {P : Program} {k : FuncId} {args : Array Value} {w : World} {S : Value → Prop} (h : Rets P k args w (XS w [] (fun v _ => S v))) : Rets P k args w (fun v D => S v ∧ D = []) :=
  Calls.mono h fun e w' ⟨v, D, he, hp, hx, hs⟩ => ⟨v, [], he, hp.garbage (New.of_le fun c hc => (hx.new c hc).resolve_left (by intro h; cases h)), hs, rfl⟩
theorem Ext.new0 {w : World} {D : Heap} (h : Ext w [] D) : New w.heap.size D := by
  have hn := h.new
  have key : ∀ (D : Heap), (∀ c, c ∈ Sx.keys D → w.heap.size ≤ c) → New w.heap.size D := by
    intro D
    induction D with
    | nil => intro _; trivial
    | cons p r ih =>
      obtain ⟨b, o⟩ := p
      intro hh
      exact ⟨hh b (by simp [Sx.keys]), ih fun c hc => hh c (by simp only [Sx.keys, List.map_cons, List.mem_cons] at hc ⊢; exact .inr hc)⟩
  refine key D fun c hc => ?_
  rcases hn c hc with h1 | h1
  · cases h1
  · exact h1
theorem Ext.of_new {w : World} {D : Heap} (h : New w.heap.size D) : Ext w [] D := ⟨fun c hc => .inr (h.le c hc), fun c hc => by cases hc⟩
section
variable {P : Program} {w0 : World} {f : Fr} {L : Heap} {N : Fr → Heap → Prop} {K : Kont} {ops : Array Oper} {rest : List Oper} {md : Md}
  {d : Option Tmp} {ty : TypeId} {ps : String} {af : Array Edge} {g : Option (Nat × Bool)}
theorem look_of_mem {b : Nat} {o : Obj} : ∀ {B : Heap}, (keys B).Nodup → (b, o) ∈ B → look B b = some o
  | [], _, h => by cases h
  | (c, x) :: q, hn, h => by
    simp only [keys, List.map_cons, List.nodup_cons] at hn
    unfold look
    rcases List.mem_cons.1 h with h | h
    · cases h; rw [if_pos rfl]
    · have : c ≠ b := fun e => hn.1 (e ▸ List.mem_map.2 ⟨_, h, rfl⟩)
      rw [if_neg this]
      exact look_of_mem hn.2 h
theorem SR.perm {R : List Nat} {M : Heap} (h : M.Perm L) (hn : (keys L).Nodup) : SR w0 R M = SR w0 R L := by
  refine SR_congr fun r _ => ?_
  have hk : ∀ (A B : Heap), A.Perm B → (keys B).Nodup → ∀ o, look A r = some o → look B r = some o := fun A B hp hB o ho => look_of_mem hB (hp.mem_iff.1 (look_mem ho))
  have hnM : (keys M).Nodup := (List.Perm.nodup_iff (h.map Prod.fst)).2 hn
  unfold readB
  cases hl : look L r with
  | some o => rw [hk L M h.symm hnM o hl]
  | none =>
    cases hm : look M r with
    | none => rfl
    | some o => rw [hk M L h hn o hm] at hl; cases hl
theorem OwD.permL {l : List Oper} {listed : List Bool} {n : Nat} {R ts : List Nat} {a d : Nat} {z : Obj} {M : Heap} (hp : M.Perm L) (h : OwD P w0 l R ts a d z n listed f M N) : OwD P w0 l R ts a d z n listed f L N := by
  refine ⟨fun w hw => ?_, fun b w hb hbL hw => ?_⟩
  · have := h.1 w (hw.perm hp)
    rw [SR.perm hp hw.nodup] at this
    exact this
  · have hnd : (keys L).Nodup := by
      have := hw.nodup
      rw [keys_app, List.nodup_append] at this
      exact this.1
    have := h.2 b w hb (fun hm => hbL (by have := (hp.map Prod.fst).mem_iff.1 hm; exact this)) (hw.perm (hp.append_right _))
    rw [SR.perm hp hnd] at this
    exact this
theorem Cw.permL {c : Code} {M : Heap} (hp : M.Perm L) (h : Cw P w0 c f M K) : Cw P w0 c f L K := fun w hw => h w (hw.perm hp)
theorem Ow.permL {M : Heap} {l : List Oper} (hp : M.Perm L) (h : Ow P w0 ops .seq l f M N) : Ow P w0 ops .seq l f L N := fun w hw => h w (hw.perm hp)
/-- A callee that makes new blocks alone. -/
theorem Ow.callC {l : List Operand} {ts : Array TypeId} {k : FuncId} {S : Value → Heap → Prop} {md' : Md} (he : md.turn = some md')
    (hs : skipped ops f ⟨d, .call ⟨.value (.func k), l.toArray, ts⟩, ty, ps, af, g⟩ = false)
    (hk : ∀ a w, (callFunc k a).run P w = .ok (.enter k a) w)
    (hc : ∀ w, Hp w0 L w → Rets P k (l.map (ev f)).toArray w (XS w [] S))
    (hn : ∀ B v D, Above L B → w0.heap.size ≤ B → New B D → S v D → Ow P w0 ops md' rest (putF f d v) (L ++ D) N) :
    Ow P w0 ops md (⟨d, .call ⟨.value (.func k), l.toArray, ts⟩, ty, ps, af, g⟩ :: rest) f L N :=
  Ow.callN he hs hk (S := fun B v D => New B D ∧ S v D) (fun w hw => (hc w hw).mono fun v D h => ⟨h.1.new0, h.2⟩) (fun _ _ _ h => h.1) (fun B v D hA hB hS => hn B v D hA hB hS.1 hS.2)
/-- What is known of some blocks is known by itself. -/
theorem Hp.part {w : World} {X Y : Heap} (h : Hp w0 (X ++ Y) w) : Hp w X w :=
  ⟨fun b o hm => h.has b o (List.mem_append_left _ hm), by have := h.nodup; rw [keys_app, List.nodup_append] at this; exact this.1, fun _ _ _ => rfl, Nat.le_refl _, rfl, rfl, rfl⟩
theorem Hp.join {w w' : World} {X Y D : Heap} (h : Hp w0 (X ++ Y) w) (k : Hp w D w') (h1 : ∀ c, c ∈ keys X → c ∈ keys D) (h2 : ∀ c, c ∈ keys D → c ∈ keys X ∨ w.heap.size ≤ c) : Hp w0 (D ++ Y) w' := by
  have hnd := h.nodup
  rw [keys_app, List.nodup_append] at hnd
  have hY : ∀ c, c ∈ keys Y → c ∉ keys D := by
    intro c hc hd
    rcases h2 c hd with hx | hx
    · exact hnd.2.2 c hx c hc rfl
    · have := h.lt (b := c) (by rw [keys_app]; exact List.mem_append_right _ hc)
      omega
  have ht := h.trans k
  have e : (X ++ Y).filter (fun p => !(keys D).contains p.1) = Y := by
    rw [List.filter_append, filter_keys_all hY]
    have : X.filter (fun p => !(keys D).contains p.1) = [] := by
      rw [List.filter_eq_nil_iff]
      intro p hp
      have := h1 p.1 (List.mem_map.2 ⟨p, hp, rfl⟩)
      simp [this]
    rw [this, List.nil_append]
  rw [e] at ht
  exact ht.perm List.perm_append_comm
/-- What is appended to a slice of a chunk. -/
theorem Ow.appendX {ts tx e : TypeId} {m : Bool × Nat} {z : Value} {s x : Operand} {n k : Nat} {cs new : List Value} {dx : TypeDesc} {md' : Md} {X Y : Heap} (sv : Value) (hL : L = X ++ Y) (hsv : ev f s = sv) (he : md.turn = some md')
    (hs : skipped ops f ⟨d, .call ⟨.builtin .append, #[s, x], #[ts, tx]⟩, ty, ps, af, g⟩ = false)
    (hu : P.underlying ts = some (.slice e)) (hm : aggT P e = some m) (hi : bytesOk P e = true) (hz : zeroV P e = some z) (hzs : z.cells.size = m.2) (hux : P.underlying tx = some dx) (hnx : ∀ k, dx ≠ .int k)
    (hB : Gr X e m.2 sv n cs) (hX : ∀ w, Hp w0 L w → AppX P w m.2 (ev f x) k new) (hk : 0 < k) (hbig : 2 * (n + k) + 768 ≤ 2 ^ 38)
    (hn : ∀ B v' D, Above L B → w0.heap.size ≤ B → Buf D e m.2 v' (n + k) (cs ++ new) → (∀ c, c ∈ keys X → c ∈ keys D) → (∀ c, c ∈ keys D → c ∈ keys X ∨ B ≤ c) → (∀ c o, slB sv ≠ some c → look X c = some o → look D c = some o) → Ow P w0 ops md' rest (putF f d v') (D ++ Y) N) :
    Ow P w0 ops md (⟨d, .call ⟨.builtin .append, #[s, x], #[ts, tx]⟩, ty, ps, af, g⟩ :: rest) f L N := by
  subst hL
  refine Ow.step he rfl hs fun w hw => ?_
  have hp := hw.part
  have hA : Above (X ++ Y) w.heap.size := above_of fun b hb => hw.lt hb
  have fin : ∀ v' w' D, (Builtin.append_ #[ts, tx] ty #[sv, ev f x]).run P w = .ok v' w' → Hp w D w' → Buf D e m.2 v' (n + k) (cs ++ new) → (∀ c, c ∈ keys X → c ∈ keys D) → (∀ c, c ∈ keys D → c ∈ keys X ∨ w.heap.size ≤ c) → (∀ c o, slB sv ≠ some c → look X c = some o → look D c = some o) →
      (∃ v w' L', (execOp (ev f) ⟨d, .call ⟨.builtin .append, #[s, x], #[ts, tx]⟩, ty, ps, af, g⟩).run P w = .ok (.value v) w' ∧ Hp w0 L' w' ∧ Ow P w0 ops md' rest (putF f d v) L' N) := by
    intro v' w' D hr hD hb h1 h2 h3
    refine ⟨v', w', D ++ Y, ?_, hw.join hD h1 h2, hn w.heap.size v' D hA hw.size hb h1 h2 h3⟩
    simp only [execOp, resolve, Sem.run_bind, Sem.run_pure, Result.andThen_ok, invoke, builtin, List.map_toArray, List.map_cons, List.map_nil, hsv]
    rw [hr]
    rfl
  have hX' : ∀ w', Hp w [] w' → True := fun _ _ => trivial
  rcases hB with hB | ⟨rfl, rfl, b, rfl, hlk⟩
  · obtain ⟨v', w', D, hr, hD, hb, hg, -⟩ := run_append (w0 := w) (L := X) (ty := ty) (x := ev f x) hp hu hm hi hz hzs hux hnx hB (fun w2 hw2 => hX w2 (by
      refine hw.join hw2 (fun c hc => hc) (fun c hc => .inl hc))) hbig
    exact .inl (fin v' w' D hr hD hb hg.keys (fun c hc => (hg.new c hc).imp id And.right) hg.look)
  · rcases run_appendEm (w0 := w) (L := X) (ty := ty) (b := b) (x := ev f x) hp hu hm hi hz hzs hux hnx (fun w2 hw2 => hX w2 (by
      refine hw.join hw2 (fun c hc => hc) (fun c hc => .inl hc))) hbig with ⟨h0, -⟩ | ⟨-, v', w', D, hr, hD, hb, hg, -⟩
    · omega
    · exact .inl (fin v' w' D hr hD hb hg.keys (fun c hc => (hg.new c hc).imp id And.right) (fun c o _ hl => hg.look c o (by simp [slB]) hl))
end
/-- A slice that grows, somewhere among some blocks. -/
def GrI (D : Heap) (E : TypeId) (m : Nat) (v : Value) (n : Nat) (cs : List Value) : Prop := ∃ X, (∀ p, p ∈ X → p ∈ D) ∧ Gr X E m v n cs
theorem Gr.i {X D : Heap} {E : TypeId} {m n : Nat} {v : Value} {cs : List Value} (h : Gr X E m v n cs) (hX : ∀ p, p ∈ X → p ∈ D) : GrI D E m v n cs := ⟨X, hX, h⟩
theorem GrI.mono {D D' : Heap} {E : TypeId} {m n : Nat} {v : Value} {cs : List Value} (h : GrI D E m v n cs) (hX : ∀ p, p ∈ D → p ∈ D') : GrI D' E m v n cs := by
  obtain ⟨X, h1, h2⟩ := h; exact ⟨X, fun p hp => hX p (h1 p hp), h2⟩
theorem GrI.slV {α : Type} {m : Nat} {enc : α → List Value} {z : α} {w0 w : World} {v : Value} {l : List α} {D : Heap} {E : TypeId} {n : Nat} {cs : List Value} (h : GrI D E m v n cs) (hw : Hp w0 D w) (hl : l.length = n) (hcs : cs = (l.map enc).flatten) (hm : ∀ x, (enc x).length = m) : SlV m enc z w v l := by
  obtain ⟨X, h1, h2⟩ := h
  exact h2.slM (fun b o hm => hw.has b o (h1 _ hm)) hl hcs hm
section
variable {P : Program} {w0 : World} {f : Fr} {L : Heap} {N : Fr → Heap → Prop}
/-- By states in which several ways meet. -/
theorem OwD.via {l : List Oper} {listed : List Bool} {n : Nat} {R ts : List Nat} {a d : Nat} {z : Obj} {G : Type} (F : G → Fr) (H : G → Heap) (J : G → Prop) (n' : Nat) (listed' : List Bool)
    (start : (∀ g f' L', J g → f' = F g → (H g).Perm L' → OwD P w0 l R ts a d z n' listed' f' L' N) → OwD P w0 l R ts a d z n listed f L N) (fin : ∀ g, J g → OwD P w0 l R ts a d z n' listed' (F g) (H g) N) : OwD P w0 l R ts a d z n listed f L N :=
  start fun g f' L' hJ hf hp => by subst hf; exact (fin g hJ).permL hp
theorem look_app_r' {L M : Heap} {b : Nat} {o : Obj} (h : b ∉ keys L) : look (L ++ [(b, o)]) b = some o := by
  rw [look_app_r h]; exact look_same _ _ _
theorem setB_app_r {b : Nat} {o x : Obj} : ∀ {L : Heap}, b ∉ keys L → setB (L ++ [(b, o)]) b x = L ++ [(b, x)]
  | [], _ => by rw [List.nil_append, setB_same]; rfl
  | (c, y) :: r, h => by
    simp only [keys, List.map_cons, List.mem_cons, not_or] at h
    rw [List.cons_append, setB_other _ _ _ _ _ (Ne.symm h.1), setB_app_r (by simpa [keys] using h.2)]; rfl
end
end Go.Sx
namespace Go.Sx
open Go
/-- A slice that is written out with one element of some cells. -/
theorem slice_one {P : Program} {t e : TypeId} {m : Nat} {zc : Array Value} {cs : List Value} (hu : P.underlying t = some (.slice e)) (ha : aggT P e = some (true, m)) (hz : zeroV P e = some (.agg zc)) (hm : 0 < m ∧ m ≤ 16777216) (hc : cs.length = m) :
    sliceB P t 1 [(0, .agg cs.toArray)] = some (e, cs.toArray) := by
  have h2 : Value.cells (.agg cs.toArray) = cs.toArray := cells_agg _
  have hg : ¬ (1 * m > 2 ^ 24) := by simp; omega
  have h0 : ¬ (1 * m = 0) := by omega
  simp only [sliceB, hu, ha, hz, Option.map_some]
  rw [if_neg hg, if_neg h0]
  simp only
  generalize hI : (Array.range (1 * m)).map (fun x => (Value.cells (.agg zc))[x % (Value.cells (.agg zc)).size]!) = I
  have hIs : I.size = m := by rw [← hI]; simp
  have hfl : Instr.fill (fun i => some (i * m, m)) I [(0, Value.agg cs.toArray)] = some cs.toArray := by
    unfold Instr.fill
    have s3 : cs.toArray.size = m := by simp [hc]
    simp only [h2, s3, hIs, Nat.zero_mul, ne_eq, not_true_eq_false, decide_false, Bool.false_or, Nat.zero_add, Nat.lt_irrefl, gt_iff_lt, Bool.false_eq_true, ↓reduceIte]
    unfold Instr.fill
    congr 1
    have hz := foldl_putC cs 0 0 I
    rw [Nat.add_zero, putC_all I cs (by rw [hc, hIs])] at hz
    simp only [Nat.zero_add] at hz
    rw [← Array.foldl_toList, Array.toList_zipIdx]
    exact hz
  rw [hfl]
  rfl
end Go.Sx
namespace Go.Sx
def kB (c : Bool) : BitVec 32 := bif c then 3988292384#32 else 0#32
def stB (x : BitVec 32) : BitVec 32 := (x >>> 1) ^^^ kB (x.getLsbD 0)
def hvB : List (BitVec 32) := [0x00000000, 0x1db71064, 0x3b6e20c8, 0x26d930ac, 0x76dc4190, 0x6b6b51f4, 0x4db26158, 0x5005713c, 0xedb88320, 0xf00f9344, 0xd6d6a3e8, 0xcb61b38c, 0x9b64c2b0, 0x86d3d2d4, 0xa00ae278, 0xbdbdf21c]
theorem tabB : ∀ a b c d : Bool, (kB a >>> 3 ^^^ kB b >>> 2 ^^^ kB c >>> 1 ^^^ kB d) = hvB.getD (a.toNat + 2 * b.toNat + 4 * c.toNat + 8 * d.toNat) 0 := by decide
end Go.Sx
namespace Go.Sx
open Go
/-- Is a text less than another one? -/
abbrev ltB (a b : List UInt8) : Bool := Op.bytesLess a b
theorem ltB_eq : ∀ (x y : List UInt8), ltB x y = decide (x < y)
  | [], [] => by simp [ltB, Op.bytesLess]
  | _ :: _, [] => by simp [ltB, Op.bytesLess]
  | [], _ :: _ => by simp [ltB, Op.bytesLess]
  | a :: x, b :: y => by
    have ih := ltB_eq x y
    simp only [ltB] at ih ⊢
    rw [Op.bytesLess, ih]
    simp only [List.cons_lt_cons_iff]
    by_cases h1 : a < b <;> by_cases h2 : a = b <;> by_cases h3 : x < y <;> simp [h1, h2, h3]
theorem ltB_irrefl (a : List UInt8) : ltB a a = false := by
  rw [ltB_eq]; simp
theorem ltB_trans {a b c : List UInt8} (h : ltB a b = true) (k : ltB b c = true) : ltB a c = true := by
  rw [ltB_eq, decide_eq_true_eq] at *
  exact List.lt_trans h k
theorem ltB_ne {a b : List UInt8} (h : ltB a b = true) : a ≠ b := by
  rintro rfl
  rw [ltB_irrefl] at h; cases h
theorem ltB_total {a b : List UInt8} (h : ltB a b = false) (hne : a ≠ b) : ltB b a = true := by
  rw [ltB_eq, decide_eq_false_iff_not] at h
  rw [ltB_eq, decide_eq_true_eq]
  rcases Std.Trichotomous.rel_or_eq_or_rel_swap (r := (· < · : List UInt8 → List UInt8 → Prop)) (a := a) (b := b) with h1 | h1 | h1
  · exact absurd h1 h
  · exact absurd h1 hne
  · exact h1
end Go.Sx
namespace Go.RefP
open Go Go.Sx
abbrev Pr := List UInt8 × List UInt8
def zp : Pr := ([], [])
/-- A name is given a value, or taken away: in a map. -/
def setM (z : List UInt8) (r : Pr) (m : Vals) : Vals := if r.2 == z then delV r.1 (updV r.1 r.2 m) else updV r.1 r.2 m
/-- The same, in a rising list. -/
def setGo (x : Pr) : Vals → Bool → Vals
  | [], dn => if dn then [] else [x]
  | p :: r, dn => if p.1 == x.1 then setGo x r dn else if !dn && !(ltB p.1 x.1 || p.1 == x.1) then x :: p :: setGo x r true else p :: setGo x r dn
def setL (z : List UInt8) (l : Vals) (x : Pr) : Vals := setGo x l (x.2 == z)
def Rising (l : Vals) : Prop := l.Pairwise fun a b => ltB a.1 b.1 = true
def KeysNd (m : Vals) : Prop := (m.map Prod.fst).Nodup
theorem Rising.nd {l : Vals} (h : Rising l) : KeysNd l := by
  unfold KeysNd List.Nodup
  rw [List.pairwise_map]
  exact List.Pairwise.imp (fun hab => ltB_ne hab) h
/-- All but a name. -/
def but (k : List UInt8) (m : Vals) : Vals := m.filter fun p => !(p.1 == k)
theorem but_none {k : List UInt8} {m : Vals} (h : k ∉ m.map Prod.fst) : but k m = m := by
  unfold but
  refine List.filter_eq_self.2 fun p hp => ?_
  have : p.1 ≠ k := fun e => h (List.mem_map.2 ⟨p, hp, e⟩)
  simp [this]
theorem but_notin (k : List UInt8) (m : Vals) : k ∉ (but k m).map Prod.fst := by
  intro h
  obtain ⟨p, hp, rfl⟩ := List.mem_map.1 h
  simp [but] at hp
theorem updV_perm {k v : List UInt8} : ∀ {m : Vals}, KeysNd m → (updV k v m).Perm ((k, v) :: but k m)
  | [], _ => List.Perm.refl _
  | p :: r, h => by
    simp only [KeysNd, List.map_cons, List.nodup_cons] at h
    unfold updV
    cases hk : (k == p.1)
    · simp only [Bool.false_eq_true, ↓reduceIte]
      have hk' : (p.1 == k) = false := by
        rw [beq_eq_false_iff_ne] at hk ⊢; exact fun e => hk e.symm
      have ih := updV_perm (k := k) (v := v) (m := r) h.2
      have : but k (p :: r) = p :: but k r := by unfold but; rw [List.filter_cons]; simp [hk']
      rw [this]
      exact (List.Perm.cons p ih).trans (List.Perm.swap _ _ _)
    · simp only [↓reduceIte]
      have e : k = p.1 := by simpa using hk
      subst e
      have : but p.1 (p :: r) = r := by
        have h2 := but_none h.1
        unfold but at h2 ⊢; rw [List.filter_cons]; simp [h2]
      rw [this]
theorem updV_nd {k v : List UInt8} {m : Vals} (h : KeysNd m) : KeysNd (updV k v m) := by
  have hp := (updV_perm (k := k) (v := v) h).map Prod.fst
  refine (List.Perm.nodup_iff hp).2 ?_
  simp only [List.map_cons, List.nodup_cons]
  refine ⟨but_notin k m, ?_⟩
  exact List.Nodup.sublist (List.Sublist.map _ List.filter_sublist) h
theorem delV_eq {k : List UInt8} : ∀ {m : Vals}, KeysNd m → delV k m = but k m
  | [], _ => rfl
  | p :: r, h => by
    simp only [KeysNd, List.map_cons, List.nodup_cons] at h
    unfold delV
    cases hk : (k == p.1)
    · have hk' : (p.1 == k) = false := by
        rw [beq_eq_false_iff_ne] at hk ⊢; exact fun e => hk e.symm
      simp only [Bool.false_eq_true, ↓reduceIte, delV_eq h.2]
      unfold but; rw [List.filter_cons]; simp [hk']
    · have e : k = p.1 := by simpa using hk
      subst e
      simp only [↓reduceIte]
      have h2 := but_none h.1
      unfold but at h2 ⊢; rw [List.filter_cons]; simp [h2]
theorem but_upd {k v : List UInt8} {m : Vals} (h : KeysNd m) : (but k (updV k v m)).Perm (but k m) := by
  have hp := (updV_perm (k := k) (v := v) h).filter fun p => !(p.1 == k)
  have e1 : List.filter (fun p => !(p.1 == k)) ((k, v) :: but k m) = but k m := by
    rw [List.filter_cons]
    simp only [beq_self_eq_true, Bool.not_true, Bool.false_eq_true, ↓reduceIte]
    exact but_none (but_notin k m)
  rw [e1] at hp
  exact hp
theorem setM_perm {z : List UInt8} {r : Pr} {m : Vals} (h : KeysNd m) : (setM z r m).Perm (if r.2 == z then but r.1 m else r :: but r.1 m) := by
  unfold setM
  split
  · rw [delV_eq (updV_nd h)]; exact but_upd h
  · exact updV_perm h
/-! ### the rising list -/
theorem setGo_done (x : Pr) : ∀ (l : Vals), setGo x l true = but x.1 l
  | [] => rfl
  | p :: r => by
    unfold setGo
    cases h : (p.1 == x.1)
    · simp only [Bool.false_eq_true, ↓reduceIte, Bool.not_true, Bool.false_and, setGo_done x r]
      unfold but; rw [List.filter_cons]; simp [h]
    · simp only [↓reduceIte, setGo_done x r]
      unfold but; rw [List.filter_cons]; simp [h]
theorem setGo_perm (x : Pr) : ∀ (l : Vals), (setGo x l false).Perm (x :: but x.1 l)
  | [] => List.Perm.refl _
  | p :: r => by
    unfold setGo
    cases h : (p.1 == x.1)
    · have e : but x.1 (p :: r) = p :: but x.1 r := by unfold but; rw [List.filter_cons]; simp [h]
      simp only [Bool.false_eq_true, ↓reduceIte, Bool.not_false, Bool.true_and, Bool.or_false]
      rw [e]
      split
      · rw [setGo_done]
      · exact (List.Perm.cons p (setGo_perm x r)).trans (List.Perm.swap _ _ _)
    · have e : but x.1 (p :: r) = but x.1 r := by unfold but; rw [List.filter_cons]; simp [h]
      simp only [↓reduceIte]
      rw [e]
      exact setGo_perm x r
theorem setL_perm (z : List UInt8) (l : Vals) (x : Pr) : (setL z l x).Perm (if x.2 == z then but x.1 l else x :: but x.1 l) := by
  unfold setL
  cases x.2 == z
  · exact setGo_perm x l
  · rw [setGo_done]; exact List.Perm.refl _
theorem but_rising {k : List UInt8} {l : Vals} (h : Rising l) : Rising (but k l) := List.Pairwise.sublist List.filter_sublist h
theorem mem_setGo {x p : Pr} {l : Vals} (h : p ∈ setGo x l false) : p = x ∨ p ∈ l := by
  have := (setGo_perm x l).mem_iff.1 h
  rcases List.mem_cons.1 this with rfl | h2
  · exact .inl rfl
  · exact .inr (List.mem_filter.1 h2).1
theorem setGo_rising (x : Pr) : ∀ {l : Vals}, Rising l → Rising (setGo x l false)
  | [], _ => List.pairwise_singleton _ _
  | p :: r, h => by
    have h' := List.pairwise_cons.1 h
    unfold setGo
    cases hk : (p.1 == x.1)
    · simp only [Bool.false_eq_true, ↓reduceIte, Bool.not_false, Bool.true_and, Bool.or_false]
      have hne : p.1 ≠ x.1 := by simpa using hk
      cases hl : ltB p.1 x.1
      · have hx := ltB_total hl hne
        simp only [Bool.not_false, ↓reduceIte]
        rw [setGo_done]
        refine List.pairwise_cons.2 ⟨?_, List.pairwise_cons.2 ⟨?_, but_rising h'.2⟩⟩
        · intro q hq
          rcases List.mem_cons.1 hq with rfl | hq
          · exact hx
          · exact ltB_trans hx (h'.1 q (List.mem_filter.1 hq).1)
        · intro q hq
          exact h'.1 q (List.mem_filter.1 hq).1
      · simp only [Bool.not_true, Bool.false_eq_true, ↓reduceIte]
        refine List.pairwise_cons.2 ⟨?_, setGo_rising x h'.2⟩
        intro q hq
        rcases mem_setGo hq with rfl | hq
        · exact hl
        · exact h'.1 q hq
    · simp only [↓reduceIte]
      exact setGo_rising x h'.2
theorem setL_rising {z : List UInt8} {l : Vals} {x : Pr} (h : Rising l) : Rising (setL z l x) := by
  unfold setL
  cases x.2 == z
  · exact setGo_rising x h
  · rw [setGo_done]; exact but_rising h
/-- A map and a rising list hold the same. -/
def Rel (m l : Vals) : Prop := m.Perm l ∧ Rising l
theorem Rel.nd {m l : Vals} (h : Rel m l) : KeysNd m := (List.Perm.nodup_iff (h.1.map Prod.fst)).2 h.2.nd
theorem Rel.set {z : List UInt8} {m l : Vals} {x : Pr} (h : Rel m l) : Rel (setM z x m) (setL z l x) := by
  refine ⟨?_, setL_rising h.2⟩
  have hb : (but x.1 m).Perm (but x.1 l) := h.1.filter _
  refine (setM_perm h.nd).trans (List.Perm.trans ?_ (setL_perm z l x).symm)
  split
  · exact hb
  · exact List.Perm.cons _ hb
/-! ### books -/
/-- Is a table's entry as it may be? -/
def tabOk (nm : List UInt8 → Bool) (z : List UInt8) (t : Vals) (g : Nat) : Bool :=
  nm (t.getD g zp).1 && !((t.getD g zp).2 == z) && (g == 0 || ltB (t.getD (g - 1) zp).1 (t.getD g zp).1)
/-- The program's values: behind some of the table. -/
def tabM (nm : List UInt8 → Bool) (z : List UInt8) (t : Vals) : Nat → Option Vals
  | 0 => some []
  | g + 1 => (tabM nm z t g).bind fun m => if (tabOk nm z t g && decide ((setM z (t.getD g zp) m).length ≤ 16)) = true then some (setM z (t.getD g zp) m) else none
def logM (nm : List UInt8 → Bool) (z : List UInt8) (l : Vals) (m0 : Vals) : Nat → Option Vals
  | 0 => some m0
  | g + 1 => (logM nm z l m0 g).bind fun m => if (nm (l.getD g zp).1 && decide ((setM z (l.getD g zp) m).length ≤ 16)) = true then some (setM z (l.getD g zp) m) else none
def ofM (nm : List UInt8 → Bool) (z : List UInt8) (t l : Vals) (k : Nat) : Option Vals := (tabM nm z t t.length).bind fun m => logM nm z l m k
/-- The document's. -/
def logL (nm : List UInt8 → Bool) (z : List UInt8) (l : Vals) (m0 : Vals) : Nat → Option Vals
  | 0 => some m0
  | g + 1 => (logL nm z l m0 g).bind fun m => if (nm (l.getD g zp).1 && decide ((setL z m (l.getD g zp)).length ≤ 16)) = true then some (setL z m (l.getD g zp)) else none
def tabAll (nm : List UInt8 → Bool) (z : List UInt8) (t : Vals) : Bool := (List.range t.length).all (tabOk nm z t)
def ofL (nm : List UInt8 → Bool) (z : List UInt8) (t l : Vals) (k : Nat) : Option Vals :=
  if t.length ≤ 16 ∧ l.length ≤ 100 ∧ tabAll nm z t = true then logL nm z l t k else none
theorem logM_stop {nm : List UInt8 → Bool} {z : List UInt8} {l m0 : Vals} {g : Nat} (h : logM nm z l m0 g = none) : ∀ k, g ≤ k → logM nm z l m0 k = none := by
  intro k hk
  induction hk with
  | refl => exact h
  | step _ ih => unfold logM; rw [ih]; rfl
theorem tabM_stop {nm : List UInt8 → Bool} {z : List UInt8} {t : Vals} {g : Nat} (h : tabM nm z t g = none) : ∀ k, g ≤ k → tabM nm z t k = none := by
  intro k hk
  induction hk with
  | refl => exact h
  | step _ ih => unfold tabM; rw [ih]; rfl
/-- What stands at a table's beginning, if all there may be. -/
theorem take_rising {nm : List UInt8 → Bool} {z : List UInt8} {t : Vals} : ∀ (g : Nat), g ≤ t.length → (∀ i, i < g → tabOk nm z t i = true) → Rising (t.take g) ∧ (0 < g → ∀ p, p ∈ t.take (g - 1) → ltB p.1 (t.getD (g - 1) zp).1 = true)
  | 0, _, _ => ⟨by simp [Rising], fun h => by omega⟩
  | g + 1, hg, h => by
    have ih := take_rising (nm := nm) (z := z) (t := t) g (by omega) (fun i hi => h i (by omega))
    have hlt : g < t.length := by omega
    have e : t.take (g + 1) = t.take g ++ [t.getD g zp] := by
      rw [List.take_add_one, List.getElem?_eq_getElem hlt, List.getD_eq_getElem?_getD, List.getElem?_eq_getElem hlt]; rfl
    have key : ∀ p, p ∈ t.take g → ltB p.1 (t.getD g zp).1 = true := by
      intro p hp
      cases g with
      | zero => simp at hp
      | succ k =>
        have hk : k < t.length := by omega
        have h1 := h (k + 1) (by omega)
        unfold tabOk at h1
        simp only [Bool.and_eq_true, Bool.or_eq_true, Nat.add_sub_cancel] at h1
        have h2 : ltB (t.getD k zp).1 (t.getD (k + 1) zp).1 = true := by
          rcases h1.2 with h3 | h3
          · simp at h3
          · exact h3
        have e2 : t.take (k + 1) = t.take k ++ [t.getD k zp] := by
          rw [List.take_add_one, List.getElem?_eq_getElem hk, List.getD_eq_getElem?_getD, List.getElem?_eq_getElem hk]; rfl
        rw [e2] at hp
        rcases List.mem_append.1 hp with hp | hp
        · exact ltB_trans (ih.2 (by omega) p hp) h2
        · rw [List.mem_singleton.1 hp]; exact h2
    refine ⟨?_, fun _ => key⟩
    rw [e]
    refine List.pairwise_append.2 ⟨ih.1, List.pairwise_singleton _ _, ?_⟩
    intro a ha b hb
    rw [List.mem_singleton.1 hb]
    exact key a ha
theorem updV_new {k v : List UInt8} : ∀ {m : Vals}, k ∉ m.map Prod.fst → updV k v m = m ++ [(k, v)]
  | [], _ => rfl
  | p :: r, h => by
    simp only [List.map_cons, List.mem_cons, not_or] at h
    unfold updV
    rw [if_neg (by simpa using h.1), updV_new h.2]; rfl
theorem tabM_eq {nm : List UInt8 → Bool} {z : List UInt8} {t : Vals} : ∀ (g : Nat), g ≤ t.length → tabM nm z t g = if g ≤ 16 ∧ (∀ i, i < g → tabOk nm z t i = true) then some (t.take g) else none
  | 0, _ => by simp [tabM]
  | g + 1, hg => by
    have hlt : g < t.length := by omega
    have ih := tabM_eq (nm := nm) (z := z) (t := t) g (by omega)
    unfold tabM
    rw [ih]
    by_cases h : g ≤ 16 ∧ (∀ i, i < g → tabOk nm z t i = true)
    · rw [if_pos h, Option.bind_some]
      cases ht : tabOk nm z t g
      · rw [Bool.false_and, if_neg (by simp), if_neg]
        intro h2; rw [h2.2 g (by omega)] at ht; cases ht
      · have hall : ∀ i, i < g + 1 → tabOk nm z t i = true := by
          intro i hi
          by_cases e : i = g
          · rw [e]; exact ht
          · exact h.2 i (by omega)
        have hr := take_rising (nm := nm) (z := z) (t := t) (g + 1) hg hall
        have hnew : (t.getD g zp).1 ∉ (t.take g).map Prod.fst := by
          intro hm
          obtain ⟨p, hp, e⟩ := List.mem_map.1 hm
          exact ltB_ne (hr.2 (by omega) p hp) e
        have hz : ((t.getD g zp).2 == z) = false := by
          unfold tabOk at ht
          simp only [Bool.and_eq_true, Bool.not_eq_true'] at ht
          exact ht.1.2
        have hs : setM z (t.getD g zp) (t.take g) = t.take (g + 1) := by
          unfold setM
          rw [hz, if_neg (by simp), updV_new hnew, List.take_add_one, List.getElem?_eq_getElem hlt, List.getD_eq_getElem?_getD, List.getElem?_eq_getElem hlt]; rfl
        rw [hs, Bool.true_and]
        have hl : (t.take (g + 1)).length = g + 1 := by simp; omega
        rw [hl]
        by_cases h6 : g + 1 ≤ 16
        · rw [if_pos (by simpa using h6), if_pos ⟨h6, hall⟩]
        · rw [if_neg (by simpa using h6), if_neg (fun h2 => h6 h2.1)]
    · rw [if_neg h, if_neg]
      · rfl
      · intro h2; exact h ⟨by omega, fun i hi => h2.2 i (by omega)⟩
def rightM (nm : List UInt8 → Bool) (z : List UInt8) (t l : Vals) : Bool := (ofM nm z t l l.length).isSome && decide (l.length ≤ 100)
def rightL (nm : List UInt8 → Bool) (z : List UInt8) (t l : Vals) : Bool := (ofL nm z t l l.length).isSome
/-! ### all ids have their length -/
theorem mem_updV {k v : List UInt8} : ∀ {m : Vals} {p : Pr}, p ∈ updV k v m → p.2 = v ∨ p ∈ m
  | [], p, h => by simp only [updV, List.mem_singleton] at h; exact .inl (by rw [h])
  | q :: r, p, h => by
    unfold updV at h
    split at h
    · rcases List.mem_cons.1 h with rfl | h
      · exact .inl rfl
      · exact .inr (List.mem_cons_of_mem _ h)
    · rcases List.mem_cons.1 h with rfl | h
      · exact .inr List.mem_cons_self
      · rcases mem_updV h with h | h
        · exact .inl h
        · exact .inr (List.mem_cons_of_mem _ h)
theorem mem_delV {k : List UInt8} : ∀ {m : Vals} {p : Pr}, p ∈ delV k m → p ∈ m
  | [], _, h => h
  | q :: r, p, h => by
    unfold delV at h
    split at h
    · exact List.mem_cons_of_mem _ h
    · rcases List.mem_cons.1 h with rfl | h
      · exact List.mem_cons_self
      · exact List.mem_cons_of_mem _ (mem_delV h)
theorem mem_setM {z : List UInt8} {r p : Pr} {m : Vals} (h : p ∈ setM z r m) : p.2 = r.2 ∨ p ∈ m := by
  unfold setM at h
  split at h
  · exact mem_updV (mem_delV h)
  · exact mem_updV h
def AllLen (m : Vals) : Prop := ∀ p, p ∈ m → p.2.length = 32
theorem AllLen.set {z : List UInt8} {r : Pr} {m : Vals} (h : AllLen m) (hr : r.2.length = 32) : AllLen (setM z r m) := by
  intro p hp
  rcases mem_setM hp with e | h2
  · rw [e]; exact hr
  · exact h p h2
theorem tabM_len {nm : List UInt8 → Bool} {z : List UInt8} {t : Vals} (ht : ∀ g, g < t.length → (t.getD g zp).2.length = 32) : ∀ (g : Nat) (m : Vals), g ≤ t.length → tabM nm z t g = some m → AllLen m
  | 0, m, _, h => by cases h; intro p hp; cases hp
  | g + 1, m, hg, h => by
    unfold tabM at h
    cases h1 : tabM nm z t g with
    | none => rw [h1] at h; cases h
    | some m1 =>
      rw [h1, Option.bind_some] at h
      split at h
      · cases h
        exact (tabM_len ht g m1 (by omega) h1).set (ht g (by omega))
      · cases h
theorem logM_len {nm : List UInt8 → Bool} {z : List UInt8} {l m0 : Vals} (hl : ∀ g, g < l.length → (l.getD g zp).2.length = 32) (h0 : AllLen m0) : ∀ (g : Nat) (m : Vals), g ≤ l.length → logM nm z l m0 g = some m → AllLen m
  | 0, m, _, h => by cases h; exact h0
  | g + 1, m, hg, h => by
    unfold logM at h
    cases h1 : logM nm z l m0 g with
    | none => rw [h1] at h; cases h
    | some m1 =>
      rw [h1, Option.bind_some] at h
      split at h
      · cases h
        exact (logM_len hl h0 g m1 (by omega) h1).set (hl g (by omega))
      · cases h
theorem ofM_len {nm : List UInt8 → Bool} {z : List UInt8} {t l : Vals} {k : Nat} {m : Vals} (ht : ∀ g, g < t.length → (t.getD g zp).2.length = 32) (hl : ∀ g, g < l.length → (l.getD g zp).2.length = 32) (hk : k ≤ l.length) (h : ofM nm z t l k = some m) : AllLen m := by
  unfold ofM at h
  cases h1 : tabM nm z t t.length with
  | none => rw [h1] at h; cases h
  | some m1 =>
    rw [h1, Option.bind_some] at h
    exact logM_len hl (tabM_len ht _ _ (Nat.le_refl _) h1) k m hk h
end Go.RefP
open Go Go.Proofs Go.Sx
namespace Go.Proofs
theorem Tryd.ix9 : ixT Tryd.prog 9 = .str := id (by kernel_rfl)
theorem Tryd.ix23 : ixT Tryd.prog 23 = .sl (true, 33) := id (by kernel_rfl)
theorem Tryd.ix52 : ixT Tryd.prog 52 = .sl (true, 32) := id (by kernel_rfl)
theorem Tryd.ix144 : ixT Tryd.prog 144 = .sl (false, 1) := id (by kernel_rfl)
theorem Tryd.ix149 : ixT Tryd.prog 149 = .sl (false, 1) := id (by kernel_rfl)
theorem Tryd.ix40 : ixT Tryd.prog 40 = .arr 32 (false, 1) := id (by kernel_rfl)
theorem Tryd.ix94 : ixT Tryd.prog 94 = .sl (false, 1) := id (by kernel_rfl)
theorem Tryd.ix180 : ixT Tryd.prog 180 = .arr 4 (false, 1) := id (by kernel_rfl)
theorem Tryd.ix233 : ixT Tryd.prog 233 = .arr 16 (false, 1) := id (by kernel_rfl)
theorem Tryd.ag25 : aggT Tryd.prog 25 = some (true, 2) := id (by kernel_rfl)
theorem Tryd.ag23 : aggT Tryd.prog 23 = some (false, 1) := id (by kernel_rfl)
theorem Tryd.ag9 : aggT Tryd.prog 9 = some (false, 1) := id (by kernel_rfl)
theorem Tryd.ag40 : aggT Tryd.prog 40 = some (true, 32) := id (by kernel_rfl)
theorem Tryd.ag3 : aggT Tryd.prog 3 = some (false, 1) := id (by kernel_rfl)
theorem Tryd.ag42 : aggT Tryd.prog 42 = some (true, 33) := id (by kernel_rfl)
theorem Tryd.ag5 : aggT Tryd.prog 5 = some (false, 1) := id (by kernel_rfl)
theorem Tryd.ag160 : aggT Tryd.prog 160 = some (false, 1) := id (by kernel_rfl)
theorem Tryd.ag26 : aggT Tryd.prog 26 = some (false, 1) := id (by kernel_rfl)
theorem Tryd.ag94 : aggT Tryd.prog 94 = some (false, 1) := id (by kernel_rfl)
theorem Tryd.ag93 : aggT Tryd.prog 93 = some (false, 1) := id (by kernel_rfl)
theorem Tryd.zr40 : zeroV Tryd.prog 40 = some (.agg (a8 (List.replicate 32 0))) := id (by kernel_rfl)
theorem Tryd.zr42 : zeroV Tryd.prog 42 = some (.agg #[(vs []), (v8 0), (v8 0), (v8 0), (v8 0), (v8 0), (v8 0), (v8 0), (v8 0), (v8 0), (v8 0), (v8 0), (v8 0), (v8 0), (v8 0), (v8 0), (v8 0), (v8 0), (v8 0), (v8 0), (v8 0), (v8 0), (v8 0), (v8 0), (v8 0), (v8 0), (v8 0), (v8 0), (v8 0), (v8 0), (v8 0), (v8 0), (v8 0)]) := id (by kernel_rfl)
theorem Tryd.zr98 : zeroV Tryd.prog 98 = some (.agg #[(.pointer none), (.slice none 0 0)]) := id (by kernel_rfl)
theorem Tryd.zr5 : zeroV Tryd.prog 5 = some (v8 0) := id (by kernel_rfl)
theorem Tryd.zr180 : zeroV Tryd.prog 180 = some (.agg (a8 (List.replicate 4 0))) := id (by kernel_rfl)
theorem Tryd.pc42 : plcT Tryd.prog 42 = some [(0, 1), (1, 32)] := id (by kernel_rfl)
theorem Tryd.fl25_0 : fldT Tryd.prog 25 0 = some (0, (false, 1)) := id (by kernel_rfl)
theorem Tryd.fl25_1 : fldT Tryd.prog 25 1 = some (1, (false, 1)) := id (by kernel_rfl)
theorem Tryd.fl42_0 : fldT Tryd.prog 42 0 = some (0, (false, 1)) := id (by kernel_rfl)
theorem Tryd.fl42_1 : fldT Tryd.prog 42 1 = some (1, (true, 32)) := id (by kernel_rfl)
theorem Tryd.fl139_1 : fldT Tryd.prog 139 1 = some (1, (false, 1)) := id (by kernel_rfl)
theorem Tryd.fl139_0 : fldT Tryd.prog 139 0 = some (0, (false, 1)) := id (by kernel_rfl)
theorem Tryd.fl98_0 : fldT Tryd.prog 98 0 = some (0, (true, 2)) := id (by kernel_rfl)
theorem Tryd.fl139_2 : fldT Tryd.prog 139 2 = some (2, (false, 1)) := id (by kernel_rfl)
theorem Tryd.fl96_1 : fldT Tryd.prog 96 1 = some (1, (false, 1)) := id (by kernel_rfl)
theorem Tryd.fl96_0 : fldT Tryd.prog 96 0 = some (0, (false, 1)) := id (by kernel_rfl)
theorem Tryd.cv33_3 : cvT Tryd.prog 33 3 = .int .i64 := id (by kernel_rfl)
theorem Tryd.cv5_3 : cvT Tryd.prog 5 3 = .int .i64 := id (by kernel_rfl)
theorem Tryd.cv3_5 : cvT Tryd.prog 3 5 = .int .u8 := id (by kernel_rfl)
theorem Tryd.cv94_9 : cvT Tryd.prog 94 9 = .bytesStr := id (by kernel_rfl)
theorem Tryd.cv160_5 : cvT Tryd.prog 160 5 = .int .u8 := id (by kernel_rfl)
theorem Tryd.cv5_160 : cvT Tryd.prog 5 160 = .int .u32 := id (by kernel_rfl)
set_option maxRecDepth 10000
set_option maxHeartbeats 1000000
set_option linter.unusedSimpArgs false
/-! ### strings.Builder, as the first and only part of a writer -/
theorem load_b0 (p v : Value) (E : TypeId) (n : Nat) : loadV (some (false, n)) (some (.cells #[p, v] E (0, 0))) 0 = some p := (rfl)
theorem load_b1 (p v : Value) (E : TypeId) (n : Nat) : loadV (some (false, n)) (some (.cells #[p, v] E (0, 0))) 1 = some v := (rfl)
theorem store_b0 (p v x : Value) (E : TypeId) (hx : Value.oneCell' x = true ∧ x.cells = #[x]) : storeV (some (false, 1)) (some (.cells #[p, v] E (0, 0))) 0 x = some (.cells #[x, v] E (0, 0)) := by
  simp [storeV, hx, putC]
theorem store_b1 (p v x : Value) (E : TypeId) (hx : Value.oneCell' x = true ∧ x.cells = #[x]) : storeV (some (false, 1)) (some (.cells #[p, v] E (0, 0))) 1 x = some (.cells #[p, x] E (0, 0)) := by
  simp [storeV, hx, putC]
theorem store_bp0 (p v : Value) (b o : Nat) (E : TypeId) : storeV (some (false, 1)) (some (.cells #[p, v] E (0, 0))) 0 (vp b o) = some (.cells #[vp b o, v] E (0, 0)) := store_b0 _ _ _ _ ⟨rfl, rfl⟩
theorem nilB (b o : Nat) : binX Tryd.prog .eql 93 (vp b o) (.pointer none) = some (.bool false) := by
  simp [binX, eqX, plainV, eqNilV, Tryd.underlying93, vp]
theorem nilB' : binX Tryd.prog .eql 93 (.pointer none) (.pointer none) = some (.bool true) := by
  simp [binX, eqX, plainV, eqNilV, Tryd.underlying93]
theorem liesB : liesAt Tryd.prog Tryd.prog.depth 98 ((#[Value.pointer none, Value.pointer none] : Array Value).size / Tryd.prog.cellsOf 98) 0 96 1 = true := id (by kernel_rfl)
theorem aggB : aggT Tryd.prog 96 = some (true, 2) := id (by kernel_rfl)
theorem noEscape (x : Value) (w : World) : (callFunc 148 #[x]).run Tryd.prog w = .ok (.value x) w := by kernel_rfl
theorem copyCheck_spec (b : Nat) (p v : Value) (w : World) (hp : p = .pointer none ∨ p = vp b 0) (ho : w.heap[b]? = some (.cells #[p, v] 98 (0, 0))) :
    Rets Tryd.prog 122 #[vp b 0] w (fun v' D => ∃ o, D = [(b, o)] ∧ v' = .tuple #[] ∧ o = .cells #[vp b 0, v] 98 (0, 0)) := by
  refine Rets.enterM Tryd.func122 rfl (rs := []) Tryd.results122 Tryd.ntmps122 ho ?_
  simp only [List.size_toArray, List.length_cons, List.length_nil, Nat.reduceAdd, Nat.reduceSub, List.replicate_succ, List.replicate_zero, List.cons_append, List.nil_append]
  rcases hp with rfl | rfl
  · repeat' first | with_reducible (first | refine Cw.seq ?_ | refine thenK_normal ?_ | refine Ow.nil ?_) | ((with_reducible refine Cw.region (Ow.run rfl fun k hk => ?_)); simp (disch := (first | omega | (simp only [lenS, lenT, UInt64.reduceToNat] ; try omega))) only [↓vcL_none, ↓vcB_move, ↓ov_some, ↓ev_tmp, ↓getF_0, putF_some, setF_s, setF_0, nf_cons, ↓vcB_nilCheck, ↓getF_s, nil_p, ↓vcB_fieldAddr, Tryd.fl96_0, fieldAddr_p, Nat.add_zero, ↓vcB_load, Md.next_seq, rd_seq_load, ↓ib_true, Tryd.ag93, loadAt_p, read_same, load_b0, ↓vcB_binOp, ↓ev_const, nilB', ↓vcL_nil]; (with_reducible refine hk _ _ _ _ ?_); clear hk k) | with_reducible (first | refine Cw.block ?_ | refine Cw.skip ?_ | refine Cw.exit ?_ | refine Cw.ret ?_ | refine thenK_exit ?_ | refine thenK_ret ?_ | refine blockK_normal ?_ | refine blockK_ret ?_ | refine blockK_exit ?_ | refine blockK_pass rfl ?_) | ((with_reducible refine Cw.condC ?_); first | refine CwC.pt rfl (by omega) ?_ | refine CwC.pf rfl (by omega) ?_ | refine CwC.it rfl (by omega) ?_ | refine CwC.if rfl (by omega) ?_ | refine CwC.nt rfl (by omega) ?_ | refine CwC.nf rfl (by omega) ?_ | refine CwC.tt rfl ?_ | refine CwC.ff rfl ?_ | refine CwC.bt rfl (by assumption) ?_ | (refine CwC.bf rfl ?_ ?_; focus assumption))
    refine Cw.region ?_
    refine Ow.value rfl rfl rfl ?_
    refine Ow.value rfl rfl rfl ?_
    refine Ow.toUnsafe rfl rfl (by kernel_rfl) rfl (read_look (look_same _ _ _)) (by simp) aggB (by decide) Tryd.underlying93 Tryd.underlying205 ?_
    refine Ow.callExt (v := vp b 0) rfl rfl (fun w => noEscape _ w) ?_
    refine Ow.ofUnsafe rfl rfl (by kernel_rfl) rfl (read_look (look_same _ _ _)) aggB liesB Tryd.underlying205 Tryd.underlying93 ?_
    refine Ow.run rfl fun k hk => ?_
    simp (disch := (first | omega | (simp only [lenS, lenT, UInt64.reduceToNat] ; try omega))) only [↓vcL_none, ↓vcB_nilCheck, ↓ev_tmp, ↓getF_0, putF_some, setF_s, setF_0, ↓getF_s, nil_p, ↓ov_some, nf_cons, ↓vcB_fieldAddr, Tryd.fl96_0, fieldAddr_p, Nat.add_zero, ↓vcB_store, Tryd.ag93, storeAt_p, look_same, store_bp0, upd_some, setB_same, oh_some, ↓vcL_nil, Md.next_seq, nh_cons]
    (with_reducible refine hk _ _ _ _ ?_); clear hk k
    repeat' first | with_reducible (first | refine Cw.seq ?_ | refine thenK_normal ?_ | refine Ow.nil ?_) | ((with_reducible refine Cw.region (Ow.run rfl fun k hk => ?_)); simp (disch := (first | omega | (simp only [lenS, lenT, UInt64.reduceToNat] ; try omega))) only []; (with_reducible refine hk _ _ _ _ ?_); clear hk k) | with_reducible (first | refine Cw.block ?_ | refine Cw.skip ?_ | refine Cw.exit ?_ | refine Cw.ret ?_ | refine thenK_exit ?_ | refine thenK_ret ?_ | refine blockK_normal ?_ | refine blockK_ret ?_ | refine blockK_exit ?_ | refine blockK_pass rfl ?_) | ((with_reducible refine Cw.condC ?_); first | refine CwC.pt rfl (by omega) ?_ | refine CwC.pf rfl (by omega) ?_ | refine CwC.it rfl (by omega) ?_ | refine CwC.if rfl (by omega) ?_ | refine CwC.nt rfl (by omega) ?_ | refine CwC.nf rfl (by omega) ?_ | refine CwC.tt rfl ?_ | refine CwC.ff rfl ?_ | refine CwC.bt rfl (by assumption) ?_ | (refine CwC.bf rfl ?_ ?_; focus assumption))
    refine ⟨_, _, _, (by simp (disch := (first | omega | (simp only [lenS, lenT, UInt64.reduceToNat] ; try omega))) only [resVs_nil]; rfl), rfl, trivial, ?_⟩
    exact ⟨rfl, rfl⟩
  · repeat' first | with_reducible (first | refine Cw.seq ?_ | refine thenK_normal ?_ | refine Ow.nil ?_) | ((with_reducible refine Cw.region (Ow.run rfl fun k hk => ?_)); simp (disch := (first | omega | (simp only [lenS, lenT, UInt64.reduceToNat] ; try omega))) only [↓vcL_none, ↓vcB_move, ↓ov_some, ↓ev_tmp, ↓getF_0, putF_some, setF_s, setF_0, nf_cons, ↓vcB_nilCheck, ↓getF_s, nil_p, ↓vcB_fieldAddr, Tryd.fl96_0, fieldAddr_p, Nat.add_zero, ↓vcB_load, Md.next_seq, rd_seq_load, ↓ib_true, Tryd.ag93, loadAt_p, read_same, load_b0, ↓vcB_binOp, ↓ev_const, nilB, ↓vcL_nil]; (with_reducible refine hk _ _ _ _ ?_); clear hk k) | with_reducible (first | refine Cw.block ?_ | refine Cw.skip ?_ | refine Cw.exit ?_ | refine Cw.ret ?_ | refine thenK_exit ?_ | refine thenK_ret ?_ | refine blockK_normal ?_ | refine blockK_ret ?_ | refine blockK_exit ?_ | refine blockK_pass rfl ?_) | ((with_reducible refine Cw.condC ?_); first | refine CwC.pt rfl (by omega) ?_ | refine CwC.pf rfl (by omega) ?_ | refine CwC.it rfl (by omega) ?_ | refine CwC.if rfl (by omega) ?_ | refine CwC.nt rfl (by omega) ?_ | refine CwC.nf rfl (by omega) ?_ | refine CwC.tt rfl ?_ | refine CwC.ff rfl ?_ | refine CwC.bt rfl (by assumption) ?_ | (refine CwC.bf rfl ?_ ?_; focus assumption))
    refine Cw.region ?_
    refine Ow.value rfl rfl rfl ?_
    refine Ow.value (v := vp b 0) rfl rfl (by simp (disch := (first | omega | (simp only [lenS, lenT, UInt64.reduceToNat] ; try omega))) only [evalV, ↓ev_tmp, ↓getF_0, putF_some, setF_s, setF_0, ↓getF_s, nil_p]) ?_
    refine Ow.value (v := vp b 0) rfl rfl (by simp (disch := (first | omega | (simp only [lenS, lenT, UInt64.reduceToNat] ; try omega))) only [evalV, Tryd.fl96_0, ↓ev_tmp, ↓getF_0, putF_some, setF_s, setF_0, ↓getF_s, fieldAddr_p, Nat.add_zero]) ?_
    refine Ow.value (v := vp b 0) rfl rfl (by simp (disch := (first | omega | (simp only [lenS, lenT, UInt64.reduceToNat] ; try omega))) only [evalV, Tryd.ag93, ↓ev_tmp, ↓getF_0, putF_some, setF_s, setF_0, ↓getF_s, loadAt_p, read_same, load_b0]) ?_
    refine Ow.value rfl rfl rfl ?_
    refine Ow.neqSame rfl Tryd.underlying93 aggB rfl rfl ?_
    refine Ow.run rfl fun k hk => ?_
    simp (disch := (first | omega | (simp only [lenS, lenT, UInt64.reduceToNat] ; try omega))) only [↓vcL_nil, Md.next_seq, ↓ev_tmp, ↓getF_0, putF_some, setF_s, setF_0]
    (with_reducible refine hk _ _ _ _ ?_); clear hk k
    repeat' first | with_reducible (first | refine Cw.seq ?_ | refine thenK_normal ?_ | refine Ow.nil ?_) | ((with_reducible refine Cw.region (Ow.run rfl fun k hk => ?_)); simp (disch := (first | omega | (simp only [lenS, lenT, UInt64.reduceToNat] ; try omega))) only []; (with_reducible refine hk _ _ _ _ ?_); clear hk k) | with_reducible (first | refine Cw.block ?_ | refine Cw.skip ?_ | refine Cw.exit ?_ | refine Cw.ret ?_ | refine thenK_exit ?_ | refine thenK_ret ?_ | refine blockK_normal ?_ | refine blockK_ret ?_ | refine blockK_exit ?_ | refine blockK_pass rfl ?_) | ((with_reducible refine Cw.condC ?_); first | refine CwC.pt rfl (by omega) ?_ | refine CwC.pf rfl (by omega) ?_ | refine CwC.it rfl (by omega) ?_ | refine CwC.if rfl (by omega) ?_ | refine CwC.nt rfl (by omega) ?_ | refine CwC.nf rfl (by omega) ?_ | refine CwC.tt rfl ?_ | refine CwC.ff rfl ?_ | refine CwC.bt rfl (by assumption) ?_ | (refine CwC.bf rfl ?_ ?_; focus assumption))
    refine ⟨_, _, _, (by simp (disch := (first | omega | (simp only [lenS, lenT, UInt64.reduceToNat] ; try omega))) only [resVs_nil]; rfl), rfl, trivial, ?_⟩
    exact ⟨rfl, rfl⟩
end Go.Proofs
open Go Go.Proofs Go.Sx
namespace Go.Proofs
set_option maxRecDepth 10000
set_option maxHeartbeats 1000000
set_option linter.unusedSimpArgs false
/-- A writer at a block, and what was written. -/
def BldAt (b : Nat) (l : List UInt8) (X : Heap) : Prop :=
  ∃ p v, Sx.look X b = some (.cells #[p, v] 98 (0, 0)) ∧ (p = .pointer none ∨ p = vp b 0) ∧ Buf X 5 1 v l.length (l.map v8) ∧ slB v ≠ some b
theorem WriteByte_spec (b : Nat) (X : Heap) (l : List UInt8) (c : UInt8) (w : World) (hB : BldAt b l X) (hX : ∀ p, p ∈ X → w.heap[p.1]? = some p.2) (hn : (keys X).Nodup) (hl : l.length < 34359738368) :
    Rets Tryd.prog 91 #[vp b 0, v8 c] w (XS w X (fun v D => v = .nilIface ∧ BldAt b (l ++ [c]) D)) := by
  obtain ⟨p, v, hlk, hp, hb, hsl⟩ := hB
  refine Rets.enterX Tryd.func91 rfl (rs := [.tmp 4]) Tryd.results91 Tryd.ntmps91 hX hn ?_
  simp only [List.size_toArray, List.length_cons, List.length_nil, Nat.reduceAdd, Nat.reduceSub, List.replicate_succ, List.replicate_zero, List.cons_append, List.nil_append]
  repeat' first | with_reducible (first | refine Cw.seq ?_ | refine thenK_normal ?_ | refine Ow.nil ?_) | ((with_reducible refine Cw.region (Ow.run rfl fun k hk => ?_)); simp (disch := (first | omega | (simp only [lenS, lenT, UInt64.reduceToNat] ; try omega))) only [↓vcL_none, ↓vcB_assign, ↓ov_some, ↓ev_const, putF_some, setF_s, setF_0, nf_cons, ↓vcL_nil, Md.next_seq, ↓vcB_move, ↓ev_tmp, ↓getF_0, ↓vcB_call]; (with_reducible refine hk _ _ _ _ ?_); clear hk k) | with_reducible (first | refine Cw.block ?_ | refine Cw.skip ?_ | refine Cw.exit ?_ | refine Cw.ret ?_ | refine thenK_exit ?_ | refine thenK_ret ?_ | refine blockK_normal ?_ | refine blockK_ret ?_ | refine blockK_exit ?_ | refine blockK_pass rfl ?_) | ((with_reducible refine Cw.condC ?_); first | refine CwC.pt rfl (by omega) ?_ | refine CwC.pf rfl (by omega) ?_ | refine CwC.it rfl (by omega) ?_ | refine CwC.if rfl (by omega) ?_ | refine CwC.nt rfl (by omega) ?_ | refine CwC.nf rfl (by omega) ?_ | refine CwC.tt rfl ?_ | refine CwC.ff rfl ?_ | refine CwC.bt rfl (by assumption) ?_ | (refine CwC.bf rfl ?_ ?_; focus assumption))
  refine Ow.callM rfl rfl Tryd.call122 (key_of_look hlk) (fun w' hw' => copyCheck_spec b p v w' hp (hw'.has _ _ (look_mem hlk))) ?_
  have lk1 := look_setB (x := .cells #[vp b 0, v] 98 (0, 0)) hlk
  have rd1 := read_look (w0 := w) lk1
  have hb1 : Buf (setB X b (.cells #[vp b 0, v] 98 (0, 0))) 5 1 v l.length (l.map v8) := hb.setO hsl
  have kx : Ext w X (setB X b (.cells #[vp b 0, v] 98 (0, 0))) := (Ext.refl w X).setB
  generalize setB X b (.cells #[vp b 0, v] 98 (0, 0)) = X1 at *
  refine Ow.run rfl fun k hk => ?_
  simp (disch := (first | omega | (simp only [lenS, lenT, UInt64.reduceToNat] ; try omega))) only [↓vcL_nil, putF_some, setF_s, setF_0]
  (with_reducible refine hk _ _ _ _ ?_); clear hk k
  repeat' first | with_reducible (first | refine Cw.seq ?_ | refine thenK_normal ?_ | refine Ow.nil ?_) | ((with_reducible refine Cw.region (Ow.run rfl fun k hk => ?_)); simp (disch := (first | omega | (simp only [lenS, lenT, UInt64.reduceToNat] ; try omega))) only [↓vcL_none, ↓vcB_move, ↓ov_some, ↓ev_tmp, ↓getF_0, putF_some, setF_s, setF_0, nf_cons, ↓vcB_nilCheck, ↓getF_s, nil_p, ↓vcB_fieldAddr, Tryd.fl96_1, fieldAddr_p, Nat.zero_add, ↓vcB_load, Md.next_seq, rd_seq_load, ↓ib_true, Tryd.ag94, loadAt_p, rd1, load_b1, ↓vcB_buildSlice]; (with_reducible refine hk _ _ _ _ ?_); clear hk k) | with_reducible (first | refine Cw.block ?_ | refine Cw.skip ?_ | refine Cw.exit ?_ | refine Cw.ret ?_ | refine thenK_exit ?_ | refine thenK_ret ?_ | refine blockK_normal ?_ | refine blockK_ret ?_ | refine blockK_exit ?_ | refine blockK_pass rfl ?_) | ((with_reducible refine Cw.condC ?_); first | refine CwC.pt rfl (by omega) ?_ | refine CwC.pf rfl (by omega) ?_ | refine CwC.it rfl (by omega) ?_ | refine CwC.if rfl (by omega) ?_ | refine CwC.nt rfl (by omega) ?_ | refine CwC.nf rfl (by omega) ?_ | refine CwC.tt rfl ?_ | refine CwC.ff rfl ?_ | refine CwC.bt rfl (by assumption) ?_ | (refine CwC.bf rfl ?_ ?_; focus assumption))
  refine Ow.buildSlice (e := 5) #[v8 c] rfl rfl (by kernel_rfl) fun b3 hb3 hw3 => ?_
  have lk3 : Sx.look (X1 ++ [(b3, .cells #[v8 c] 5 (0, 0))]) b3 = some (.cells #[v8 c] 5 (0, 0)) := look_new hb3
  have hb2 : Buf (X1 ++ [(b3, .cells #[v8 c] 5 (0, 0))]) 5 1 v l.length (l.map v8) := hb1.app
  refine Ow.run rfl fun k hk => ?_
  simp (disch := (first | omega | (simp only [lenS, lenT, UInt64.reduceToNat] ; try omega))) only [↓vcL_none, ↓vcB_append, putF_some, setF_s, setF_0]
  (with_reducible refine hk _ _ _ _ ?_); clear hk k
  refine Ow.append (e := 5) _ rfl rfl rfl Tryd.underlying94 Tryd.ag5 (by kernel_rfl) Tryd.zr5 (by kernel_rfl) Tryd.underlying94 (by intro k h; cases h) hb2 (fun w' hw' => AppX.block (k := 1) (new := [v8 c]) (read_look lk3) (by simp) (by simp) rfl hw') (by omega) (fun v2 L2 hB2 hG2 hS2 => ?_)
  have lk2 : Sx.look L2 b = some (.cells #[vp b 0, v] 98 (0, 0)) := hG2.look b _ hsl (look_app lk1)
  have st2 : storeV (some (false, 1)) (some (.cells #[vp b 0, v] 98 (0, 0))) 1 v2 = some (.cells #[vp b 0, v2] 98 (0, 0)) := store_b1 _ _ _ _ hB2.cell
  refine Ow.run rfl fun k hk => ?_
  simp (disch := (first | omega | (simp only [lenS, lenT, UInt64.reduceToNat] ; try omega))) only [↓vcL_none, ↓vcB_nilCheck, ↓ev_tmp, putF_some, setF_s, setF_0, ↓getF_s, ↓getF_0, nil_p, ↓ov_some, nf_cons, ↓vcB_fieldAddr, Tryd.fl96_1, fieldAddr_p, Nat.zero_add, ↓vcB_store, Tryd.ag94, storeAt_p, lk2, st2, upd_some, oh_some, ↓vcL_nil, Md.next_seq, nh_any]
  (with_reducible refine hk _ _ _ _ ?_); clear hk k
  repeat' first | with_reducible (first | refine Cw.seq ?_ | refine thenK_normal ?_ | refine Ow.nil ?_) | ((with_reducible refine Cw.region (Ow.run rfl fun k hk => ?_)); simp (disch := (first | omega | (simp only [lenS, lenT, UInt64.reduceToNat] ; try omega))) only [↓vcL_none, ↓vcB_assign, ↓ov_some, ↓ev_const, putF_some, setF_s, setF_0, nf_cons, ↓vcL_nil, Md.next_seq]; (with_reducible refine hk _ _ _ _ ?_); clear hk k) | with_reducible (first | refine Cw.block ?_ | refine Cw.skip ?_ | refine Cw.exit ?_ | refine Cw.ret ?_ | refine thenK_exit ?_ | refine thenK_ret ?_ | refine blockK_normal ?_ | refine blockK_ret ?_ | refine blockK_exit ?_ | refine blockK_pass rfl ?_) | ((with_reducible refine Cw.condC ?_); first | refine CwC.pt rfl (by omega) ?_ | refine CwC.pf rfl (by omega) ?_ | refine CwC.it rfl (by omega) ?_ | refine CwC.if rfl (by omega) ?_ | refine CwC.nt rfl (by omega) ?_ | refine CwC.nf rfl (by omega) ?_ | refine CwC.tt rfl ?_ | refine CwC.ff rfl ?_ | refine CwC.bt rfl (by assumption) ?_ | (refine CwC.bf rfl ?_ ?_; focus assumption))
  refine ⟨_, (by simp (disch := (first | omega | (simp only [lenS, lenT, UInt64.reduceToNat] ; try omega))) only [resVs_cons, resV_tmp, ↓getF_s, ↓getF_0, resVs_nil, cons2_some]; rfl), ?_⟩
  have ex := (kx.app (o := .cells #[v8 c] 5 (0, 0)) hw3).grew hG2
  have hs2 : slB v2 ≠ some b := by
    rcases hS2 with h | ⟨c', h, ha⟩
    · rw [h]; exact hsl
    · rw [h]
      intro e
      cases e
      exact Nat.lt_irrefl _ (above_to ha (key_of_look (look_app lk1)))
  refine ⟨ex.setB, rfl, vp b 0, v2, look_setB lk2, .inr rfl, ?_, hs2⟩
  rw [List.length_append, List.map_append]
  exact hB2.setO hs2
end Go.Proofs
open Go Go.Proofs Go.Sx
namespace Go.Proofs
set_option maxRecDepth 10000
set_option maxHeartbeats 1000000
set_option linter.unusedSimpArgs false
theorem WriteString_spec (b : Nat) (X : Heap) (l s : List UInt8) (w : World) (hB : BldAt b l X) (hX : ∀ p, p ∈ X → w.heap[p.1]? = some p.2) (hn : (keys X).Nodup) (hl : l.length + s.length < 34359738368) :
    Rets Tryd.prog 90 #[vp b 0, vs s] w (XS w X (fun v D => v = .tuple #[vi s.length, .nilIface] ∧ BldAt b (l ++ s) D)) := by
  obtain ⟨p, v, hlk, hp, hb, hsl⟩ := hB
  refine Rets.enterX Tryd.func90 rfl (rs := [.tmp 4, .tmp 5]) Tryd.results90 Tryd.ntmps90 hX hn ?_
  simp only [List.size_toArray, List.length_cons, List.length_nil, Nat.reduceAdd, Nat.reduceSub, List.replicate_succ, List.replicate_zero, List.cons_append, List.nil_append]
  repeat' first | with_reducible (first | refine Cw.seq ?_ | refine thenK_normal ?_ | refine Ow.nil ?_) | ((with_reducible refine Cw.region (Ow.run rfl fun k hk => ?_)); simp (disch := (first | omega | (simp only [lenS, lenT, UInt64.reduceToNat] ; try omega))) only [↓vcL_none, ↓vcB_assign, ↓ov_some, ↓ev_const, lit_i64, putF_some, setF_s, setF_0, nf_cons, ↓vcL_nil, Md.next_seq, ↓vcB_move, ↓ev_tmp, ↓getF_0, ↓vcB_call]; (with_reducible refine hk _ _ _ _ ?_); clear hk k) | with_reducible (first | refine Cw.block ?_ | refine Cw.skip ?_ | refine Cw.exit ?_ | refine Cw.ret ?_ | refine thenK_exit ?_ | refine thenK_ret ?_ | refine blockK_normal ?_ | refine blockK_ret ?_ | refine blockK_exit ?_ | refine blockK_pass rfl ?_) | ((with_reducible refine Cw.condC ?_); first | refine CwC.pt rfl (by omega) ?_ | refine CwC.pf rfl (by omega) ?_ | refine CwC.it rfl (by omega) ?_ | refine CwC.if rfl (by omega) ?_ | refine CwC.nt rfl (by omega) ?_ | refine CwC.nf rfl (by omega) ?_ | refine CwC.tt rfl ?_ | refine CwC.ff rfl ?_ | refine CwC.bt rfl (by assumption) ?_ | (refine CwC.bf rfl ?_ ?_; focus assumption))
  refine Ow.callM rfl rfl Tryd.call122 (key_of_look hlk) (fun w' hw' => copyCheck_spec b p v w' hp (hw'.has _ _ (look_mem hlk))) ?_
  have lk1 := look_setB (x := .cells #[vp b 0, v] 98 (0, 0)) hlk
  have rd1 := read_look (w0 := w) lk1
  have hb1 : Buf (setB X b (.cells #[vp b 0, v] 98 (0, 0))) 5 1 v l.length (l.map v8) := hb.setO hsl
  have kx : Ext w X (setB X b (.cells #[vp b 0, v] 98 (0, 0))) := (Ext.refl w X).setB
  generalize setB X b (.cells #[vp b 0, v] 98 (0, 0)) = X1 at *
  refine Ow.run rfl fun k hk => ?_
  simp (disch := (first | omega | (simp only [lenS, lenT, UInt64.reduceToNat] ; try omega))) only [↓vcL_nil, putF_some, setF_s, setF_0]
  (with_reducible refine hk _ _ _ _ ?_); clear hk k
  repeat' first | with_reducible (first | refine Cw.seq ?_ | refine thenK_normal ?_ | refine Ow.nil ?_) | ((with_reducible refine Cw.region (Ow.run rfl fun k hk => ?_)); simp (disch := (first | omega | (simp only [lenS, lenT, UInt64.reduceToNat] ; try omega))) only [↓vcL_none, ↓vcB_move, ↓ov_some, ↓ev_tmp, ↓getF_0, putF_some, setF_s, setF_0, nf_cons, ↓vcB_nilCheck, ↓getF_s, nil_p, ↓vcB_fieldAddr, Tryd.fl96_1, fieldAddr_p, Nat.zero_add, ↓vcB_load, Md.next_seq, rd_seq_load, ↓ib_true, Tryd.ag94, loadAt_p, rd1, load_b1, ↓vcB_append]; (with_reducible refine hk _ _ _ _ ?_); clear hk k) | with_reducible (first | refine Cw.block ?_ | refine Cw.skip ?_ | refine Cw.exit ?_ | refine Cw.ret ?_ | refine thenK_exit ?_ | refine thenK_ret ?_ | refine blockK_normal ?_ | refine blockK_ret ?_ | refine blockK_exit ?_ | refine blockK_pass rfl ?_) | ((with_reducible refine Cw.condC ?_); first | refine CwC.pt rfl (by omega) ?_ | refine CwC.pf rfl (by omega) ?_ | refine CwC.it rfl (by omega) ?_ | refine CwC.if rfl (by omega) ?_ | refine CwC.nt rfl (by omega) ?_ | refine CwC.nf rfl (by omega) ?_ | refine CwC.tt rfl ?_ | refine CwC.ff rfl ?_ | refine CwC.bt rfl (by assumption) ?_ | (refine CwC.bf rfl ?_ ?_; focus assumption))
  refine Ow.append (e := 5) _ rfl rfl rfl Tryd.underlying94 Tryd.ag5 (by kernel_rfl) Tryd.zr5 (by kernel_rfl) Tryd.underlying9 (by intro k h; cases h) hb1 (fun w' hw' => AppX.text _ w' s) (by omega) (fun v2 L2 hB2 hG2 hS2 => ?_)
  have lk2 : Sx.look L2 b = some (.cells #[vp b 0, v] 98 (0, 0)) := hG2.look b _ hsl lk1
  have st2 : storeV (some (false, 1)) (some (.cells #[vp b 0, v] 98 (0, 0))) 1 v2 = some (.cells #[vp b 0, v2] 98 (0, 0)) := store_b1 _ _ _ _ hB2.cell
  refine Ow.run rfl fun k hk => ?_
  simp (disch := (first | omega | (simp only [lenS, lenT, UInt64.reduceToNat] ; try omega))) only [↓vcL_none, ↓vcB_nilCheck, ↓ev_tmp, putF_some, setF_s, setF_0, ↓getF_s, ↓getF_0, nil_p, ↓ov_some, nf_cons, ↓vcB_fieldAddr, Tryd.fl96_1, fieldAddr_p, Nat.zero_add, ↓vcB_store, Tryd.ag94, storeAt_p, lk2, st2, upd_some, oh_some, ↓vcL_nil, Md.next_seq, nh_any]
  (with_reducible refine hk _ _ _ _ ?_); clear hk k
  repeat' first | with_reducible (first | refine Cw.seq ?_ | refine thenK_normal ?_ | refine Ow.nil ?_) | ((with_reducible refine Cw.region (Ow.run rfl fun k hk => ?_)); simp (disch := (first | omega | (simp only [lenS, lenT, UInt64.reduceToNat] ; try omega))) only [↓vcL_none, ↓vcB_move, ↓ov_some, ↓ev_tmp, ↓getF_s, ↓getF_0, putF_some, setF_s, setF_0, nf_cons, ↓vcB_len, Tryd.ix9, len_str, ↓vcB_assign, ↓ev_const, ↓vcL_nil, Md.next_seq]; (with_reducible refine hk _ _ _ _ ?_); clear hk k) | with_reducible (first | refine Cw.block ?_ | refine Cw.skip ?_ | refine Cw.exit ?_ | refine Cw.ret ?_ | refine thenK_exit ?_ | refine thenK_ret ?_ | refine blockK_normal ?_ | refine blockK_ret ?_ | refine blockK_exit ?_ | refine blockK_pass rfl ?_) | ((with_reducible refine Cw.condC ?_); first | refine CwC.pt rfl (by omega) ?_ | refine CwC.pf rfl (by omega) ?_ | refine CwC.it rfl (by omega) ?_ | refine CwC.if rfl (by omega) ?_ | refine CwC.nt rfl (by omega) ?_ | refine CwC.nf rfl (by omega) ?_ | refine CwC.tt rfl ?_ | refine CwC.ff rfl ?_ | refine CwC.bt rfl (by assumption) ?_ | (refine CwC.bf rfl ?_ ?_; focus assumption))
  refine ⟨_, (by simp (disch := (first | omega | (simp only [lenS, lenT, UInt64.reduceToNat] ; try omega))) only [resVs_cons, resV_tmp, ↓getF_s, ↓getF_0, resVs_nil, cons2_some]; rfl), ?_⟩
  have ex := kx.grew hG2
  have hs2 : slB v2 ≠ some b := by
    rcases hS2 with h | ⟨c', h, ha⟩
    · rw [h]; exact hsl
    · rw [h]
      intro e
      cases e
      exact Nat.lt_irrefl _ (above_to ha (key_of_look lk1))
  refine ⟨ex.setB, rfl, vp b 0, v2, look_setB lk2, .inr rfl, ?_, hs2⟩
  rw [List.length_append, List.map_append]
  exact hB2.setO hs2
theorem BString_spec (b : Nat) (X : Heap) (l : List UInt8) (w : World) (hB : BldAt b l X) (hX : ∀ p, p ∈ X → w.heap[p.1]? = some p.2) (hn : (keys X).Nodup) (hl : l.length < 34359738368) :
    Rets Tryd.prog 101 #[vp b 0] w (XS w X (fun v D => v = vs l)) := by
  obtain ⟨p, v, hlk, hp, hb, hsl⟩ := hB
  have rd1 := read_look (w0 := w) hlk
  refine Rets.enterX Tryd.func101 rfl (rs := [.tmp 2]) Tryd.results101 Tryd.ntmps101 hX hn ?_
  simp only [List.size_toArray, List.length_cons, List.length_nil, Nat.reduceAdd, Nat.reduceSub, List.replicate_succ, List.replicate_zero, List.cons_append, List.nil_append]
  repeat' first | with_reducible (first | refine Cw.seq ?_ | refine thenK_normal ?_ | refine Ow.nil ?_) | ((with_reducible refine Cw.region (Ow.run rfl fun k hk => ?_)); simp (disch := (first | omega | (simp only [lenS, lenT, UInt64.reduceToNat] ; try omega))) only [↓vcL_none, ↓vcB_assign, ↓ov_some, ↓ev_const, lit_str, putF_some, setF_s, setF_0, nf_cons, ↓vcL_nil, Md.next_seq]; (with_reducible refine hk _ _ _ _ ?_); clear hk k) | with_reducible (first | refine Cw.block ?_ | refine Cw.skip ?_ | refine Cw.exit ?_ | refine Cw.ret ?_ | refine thenK_exit ?_ | refine thenK_ret ?_ | refine blockK_normal ?_ | refine blockK_ret ?_ | refine blockK_exit ?_ | refine blockK_pass rfl ?_) | ((with_reducible refine Cw.condC ?_); first | refine CwC.pt rfl (by omega) ?_ | refine CwC.pf rfl (by omega) ?_ | refine CwC.it rfl (by omega) ?_ | refine CwC.if rfl (by omega) ?_ | refine CwC.nt rfl (by omega) ?_ | refine CwC.nf rfl (by omega) ?_ | refine CwC.tt rfl ?_ | refine CwC.ff rfl ?_ | refine CwC.bt rfl (by assumption) ?_ | (refine CwC.bf rfl ?_ ?_; focus assumption))
  refine Cw.regionS [b] [0, 1, 2, 5, 6, 7, 3, 8, 9, 4, 10, 11] [] (by kernel_rfl) (by kernel_rfl) (by kernel_rfl) ?_
  simp only [nl_cons, ↓pickL_nil, ↓pickL_cons, ↓nthO_0, ↓nthO_s, consO_some]
  refine Ow.runQ fun k hk => ?_
  simp (disch := (first | omega | (simp only [lenS, lenT, UInt64.reduceToNat] ; try omega))) only [↓vcL_none, ↓vcB_move, ↓ov_some, ↓ev_tmp, ↓getF_0, putF_some, setF_s, setF_0, nf_cons, ↓vcB_nilCheck, ↓getF_s, nil_p, ↓vcB_fieldAddr, Tryd.fl96_1, fieldAddr_p, Nat.zero_add, ↓vcB_load, Md.next_sof, List.contains_nil, Bool.false_eq_true, ↓reduceIte, ↓rd_sof_load, rdIn_p, List.contains_cons, beq_self_eq_true, Bool.or_false, ↓ib_true, Tryd.ag94, loadAt_p, rd1, load_b1, ↓vcB_len, Tryd.ix94, hb.len, ↓vcB_unsafeSliceData]
  (with_reducible refine hk _ _ _ _ ?_); clear hk k
  refine Ow.soft rfl rfl rfl ?_
  rcases hb.inv with ⟨rfl, h0, -⟩ | ⟨b2, c, rest, rfl, hl2, h1, h3, h4, -⟩
  · obtain rfl : l = [] := List.eq_nil_of_length_eq_zero h0
    refine Ow.sliceData (v := .pointer none) rfl rfl (.inl ⟨0, 0, rfl, rfl⟩) ?_
    with_reducible refine Ow.nil ?_
    refine ⟨by intro b hb; simp only [List.mem_cons, List.not_mem_nil, or_false] at hb; (try subst hb); rfl, ?_⟩
    refine Ow.soft rfl rfl rfl ?_
    refine Ow.unsafeStringNil rfl rfl rfl rfl ?_
    with_reducible refine Ow.nil ?_
    refine ⟨by intro b hb; simp only [List.mem_cons, List.not_mem_nil, or_false] at hb; (try subst hb); rfl, ?_⟩
    refine Ow.runQ fun k hk => ?_
    simp (disch := (first | omega | (simp only [lenS, lenT, UInt64.reduceToNat] ; try omega))) only [↓vcL_none, ↓vcB_assign, ↓ov_some, putF_some, setF_s, setF_0, ↓ev_tmp, ↓getF_s, ↓getF_0, nf_cons, ↓vcL_nil, Md.next_sof, List.contains_nil, Bool.false_eq_true, ↓reduceIte]
    (with_reducible refine hk _ _ _ _ ?_); clear hk k
    with_reducible refine Ow.nil ?_
    repeat' first | with_reducible (first | refine Cw.seq ?_ | refine thenK_normal ?_ | refine Ow.nil ?_) | ((with_reducible refine Cw.region (Ow.run rfl fun k hk => ?_)); simp (disch := (first | omega | (simp only [lenS, lenT, UInt64.reduceToNat] ; try omega))) only []; (with_reducible refine hk _ _ _ _ ?_); clear hk k) | with_reducible (first | refine Cw.block ?_ | refine Cw.skip ?_ | refine Cw.exit ?_ | refine Cw.ret ?_ | refine thenK_exit ?_ | refine thenK_ret ?_ | refine blockK_normal ?_ | refine blockK_ret ?_ | refine blockK_exit ?_ | refine blockK_pass rfl ?_) | ((with_reducible refine Cw.condC ?_); first | refine CwC.pt rfl (by omega) ?_ | refine CwC.pf rfl (by omega) ?_ | refine CwC.it rfl (by omega) ?_ | refine CwC.if rfl (by omega) ?_ | refine CwC.nt rfl (by omega) ?_ | refine CwC.nf rfl (by omega) ?_ | refine CwC.tt rfl ?_ | refine CwC.ff rfl ?_ | refine CwC.bt rfl (by assumption) ?_ | (refine CwC.bf rfl ?_ ?_; focus assumption))
    refine ⟨_, (by simp (disch := (first | omega | (simp only [lenS, lenT, UInt64.reduceToNat] ; try omega))) only [resVs_cons, resV_tmp, ↓getF_s, ↓getF_0, resVs_nil, cons2_some]; rfl), ?_⟩
    exact ⟨Ext.refl _ _, rfl⟩
  · refine Ow.sliceData (v := vp b2 0) rfl rfl (.inr ⟨b2, _, c, rfl, by omega, rfl⟩) ?_
    with_reducible refine Ow.nil ?_
    refine ⟨by intro b hb; simp only [List.mem_cons, List.not_mem_nil, or_false] at hb; (try subst hb); rfl, ?_⟩
    by_cases h0 : l.length = 0
    · obtain rfl : l = [] := List.eq_nil_of_length_eq_zero h0
      refine Ow.soft rfl rfl rfl ?_
      refine Ow.unsafeStringNil rfl rfl rfl rfl ?_
      with_reducible refine Ow.nil ?_
      refine ⟨by intro b hb; simp only [List.mem_cons, List.not_mem_nil, or_false] at hb; (try subst hb); rfl, ?_⟩
      refine Ow.runQ fun k hk => ?_
      simp (disch := (first | omega | (simp only [lenS, lenT, UInt64.reduceToNat] ; try omega))) only [↓vcL_none, ↓vcB_assign, ↓ov_some, putF_some, setF_s, setF_0, ↓ev_tmp, ↓getF_s, ↓getF_0, nf_cons, ↓vcL_nil, Md.next_sof, List.contains_nil, Bool.false_eq_true, ↓reduceIte]
      (with_reducible refine hk _ _ _ _ ?_); clear hk k
      with_reducible refine Ow.nil ?_
      repeat' first | with_reducible (first | refine Cw.seq ?_ | refine thenK_normal ?_ | refine Ow.nil ?_) | ((with_reducible refine Cw.region (Ow.run rfl fun k hk => ?_)); simp (disch := (first | omega | (simp only [lenS, lenT, UInt64.reduceToNat] ; try omega))) only []; (with_reducible refine hk _ _ _ _ ?_); clear hk k) | with_reducible (first | refine Cw.block ?_ | refine Cw.skip ?_ | refine Cw.exit ?_ | refine Cw.ret ?_ | refine thenK_exit ?_ | refine thenK_ret ?_ | refine blockK_normal ?_ | refine blockK_ret ?_ | refine blockK_exit ?_ | refine blockK_pass rfl ?_) | ((with_reducible refine Cw.condC ?_); first | refine CwC.pt rfl (by omega) ?_ | refine CwC.pf rfl (by omega) ?_ | refine CwC.it rfl (by omega) ?_ | refine CwC.if rfl (by omega) ?_ | refine CwC.nt rfl (by omega) ?_ | refine CwC.nf rfl (by omega) ?_ | refine CwC.tt rfl ?_ | refine CwC.ff rfl ?_ | refine CwC.bt rfl (by assumption) ?_ | (refine CwC.bf rfl ?_ ?_; focus assumption))
      refine ⟨_, (by simp (disch := (first | omega | (simp only [lenS, lenT, UInt64.reduceToNat] ; try omega))) only [resVs_cons, resV_tmp, ↓getF_s, ↓getF_0, resVs_nil, cons2_some]; rfl), ?_⟩
      exact ⟨Ext.refl _ _, rfl⟩
    · refine Ow.soft rfl rfl rfl ?_
      refine Ow.unsafeString rfl rfl rfl rfl hl2 (by omega) (by omega) Tryd.underlying185 (by kernel_rfl) (of_decide_eq_true (by kernel_rfl)) ?_
      with_reducible refine Ow.nil ?_
      refine ⟨by intro b hb; simp only [List.mem_cons, List.not_mem_nil, or_false] at hb; (try subst hb); exact read_setB_ne (fun e => hsl (by rw [← e]; rfl)), ?_⟩
      refine Ow.runQ fun k hk => ?_
      simp (disch := (first | omega | (simp only [lenS, lenT, UInt64.reduceToNat] ; try omega))) only [↓vcL_none, ↓vcB_assign, ↓ov_some, putF_some, setF_s, setF_0, ↓ev_tmp, ↓getF_s, ↓getF_0, nf_cons, ↓vcL_nil, Md.next_sof, List.contains_nil, Bool.false_eq_true, ↓reduceIte]
      (with_reducible refine hk _ _ _ _ ?_); clear hk k
      with_reducible refine Ow.nil ?_
      repeat' first | with_reducible (first | refine Cw.seq ?_ | refine thenK_normal ?_ | refine Ow.nil ?_) | ((with_reducible refine Cw.region (Ow.run rfl fun k hk => ?_)); simp (disch := (first | omega | (simp only [lenS, lenT, UInt64.reduceToNat] ; try omega))) only []; (with_reducible refine hk _ _ _ _ ?_); clear hk k) | with_reducible (first | refine Cw.block ?_ | refine Cw.skip ?_ | refine Cw.exit ?_ | refine Cw.ret ?_ | refine thenK_exit ?_ | refine thenK_ret ?_ | refine blockK_normal ?_ | refine blockK_ret ?_ | refine blockK_exit ?_ | refine blockK_pass rfl ?_) | ((with_reducible refine Cw.condC ?_); first | refine CwC.pt rfl (by omega) ?_ | refine CwC.pf rfl (by omega) ?_ | refine CwC.it rfl (by omega) ?_ | refine CwC.if rfl (by omega) ?_ | refine CwC.nt rfl (by omega) ?_ | refine CwC.nf rfl (by omega) ?_ | refine CwC.tt rfl ?_ | refine CwC.ff rfl ?_ | refine CwC.bt rfl (by assumption) ?_ | (refine CwC.bf rfl ?_ ?_; focus assumption))
      refine ⟨_, (by simp (disch := (first | omega | (simp only [lenS, lenT, UInt64.reduceToNat] ; try omega))) only [resVs_cons, resV_tmp, ↓getF_s, ↓getF_0, resVs_nil, cons2_some]; rfl), ?_⟩
      exact ⟨(Ext.refl _ _).setB, rfl⟩
end Go.Proofs
open Go Go.Proofs Go.Sx
namespace Go.Proofs
set_option maxRecDepth 10000
set_option maxHeartbeats 1000000
set_option linter.unusedSimpArgs false
theorem nilW (b o : Nat) : binX Tryd.prog .eql 103 (vp b o) (.pointer none) = some (.bool false) := by
  simp [binX, eqX, plainV, eqNilV, Tryd.underlying103, vp]
structure WG where
  g : Nat
  D : Heap
theorem flat_take_succ (l : List (List UInt8)) (g : Nat) (h : g < l.length) : (l.take (g + 1)).flatten = (l.take g).flatten ++ l.getD g [] := by
  rw [List.take_add_one, List.getElem?_eq_getElem h, List.flatten_append, List.getD_eq_getElem?_getD, List.getElem?_eq_getElem h]
  simp
theorem flat_take_le (l : List (List UInt8)) (g : Nat) : (l.take g).flatten.length ≤ l.flatten.length := by
  conv => rhs; rw [← List.take_append_drop g l, List.flatten_append, List.length_append]
  omega
theorem WRaw_spec (b : Nat) (X : Heap) (l : List UInt8) (x : Value) (b2 off : Nat) (ls : List (List UInt8)) (arr : Array Value) (E : TypeId) (fz : Nat × Nat) (w : World) (hB : BldAt b l X) (hX : ∀ p, p ∈ X → w.heap[p.1]? = some p.2) (hn : (keys X).Nodup)
    (hS : StrS w x ls b2 off arr E fz) (hne : 0 < ls.length → b2 ∉ keys X) (hl : l.length + ls.flatten.length < 34359738368) (hls : ls.length < 34359738368) :
    Rets Tryd.prog 53 #[vp b 0, x] w (XS w X (fun v D => v = .tuple #[] ∧ BldAt b (l ++ ls.flatten) D)) := by
  refine Rets.enterX Tryd.func53 rfl (rs := []) Tryd.results53 Tryd.ntmps53 hX hn ?_
  simp only [List.size_toArray, List.length_cons, List.length_nil, Nat.reduceAdd, Nat.reduceSub, List.replicate_succ, List.replicate_zero, List.cons_append, List.nil_append]
  repeat' first | with_reducible (first | refine Cw.seq ?_ | refine thenK_normal ?_ | refine Ow.nil ?_) | ((with_reducible refine Cw.region (Ow.run rfl fun k hk => ?_)); simp (disch := (first | omega | (simp only [lenS, lenT, UInt64.reduceToNat] ; try omega))) only [↓vcL_none, ↓vcB_move, ↓ov_some, ↓ev_tmp, ↓getF_0, putF_some, setF_s, setF_0, nf_cons, ↓vcB_binOp, ↓getF_s, ↓ev_const, nilW, ↓vcL_nil, Md.next_seq, ↓vcB_len, Tryd.ix144, hS.len, lit_i64]; (with_reducible refine hk _ _ _ _ ?_); clear hk k) | with_reducible (first | refine Cw.block ?_ | refine Cw.skip ?_ | refine Cw.exit ?_ | refine Cw.ret ?_ | refine thenK_exit ?_ | refine thenK_ret ?_ | refine blockK_normal ?_ | refine blockK_ret ?_ | refine blockK_exit ?_ | refine blockK_pass rfl ?_) | ((with_reducible refine Cw.condC ?_); first | refine CwC.pt rfl (by omega) ?_ | refine CwC.pf rfl (by omega) ?_ | refine CwC.it rfl (by omega) ?_ | refine CwC.if rfl (by omega) ?_ | refine CwC.nt rfl (by omega) ?_ | refine CwC.nf rfl (by omega) ?_ | refine CwC.tt rfl ?_ | refine CwC.ff rfl ?_ | refine CwC.bt rfl (by assumption) ?_ | (refine CwC.bf rfl ?_ ?_; focus assumption))
  refine Cw.loopG (G := WG) [11, 12, 13, 5, 14, 15, 16, 17, 18, 19, 10] (fun g => [(10, vi g.g)]) (fun g => g.D) (fun g => g.g ≤ ls.length ∧ Ext w X g.D ∧ BldAt b (l ++ (ls.take g.g).flatten) g.D) (fun g => ls.length - g.g) ⟨0, X⟩ rfl rfl ?_ ?_
  · exact ⟨by simp, Ext.refl _ _, by simpa using hB⟩
  intro g j hg
  simp only [overFrom, pin, setF_0, setF_s, List.contains_cons, List.contains_nil, Nat.reduceBEq, Bool.or_false, Bool.false_or, Bool.or_true, Bool.true_or, Nat.reduceAdd, ↓reduceIte, Bool.false_eq_true]
  obtain ⟨g, D⟩ := g
  simp only at hg ⊢
  obtain ⟨hgL, hE, hBD⟩ := hg
  by_cases hlt : g < ls.length
  · have hlg := hS.get g hlt
    have hrd := hE.old (hS.has (by omega)) (hne (by omega))
    repeat' first | with_reducible (first | refine Cw.seq ?_ | refine thenK_normal ?_ | refine Ow.nil ?_) | ((with_reducible refine Cw.region (Ow.run rfl fun k hk => ?_)); simp (disch := (first | omega | (simp only [lenS, lenT, UInt64.reduceToNat] ; try omega))) only [↓vcL_none, ↓vcB_binOp, ↓ev_tmp, ↓getF_s, ↓getF_0, binX_vi_vi, bin_lss_i, ↓ov_some, putF_some, setF_s, setF_0, nf_cons, ↓vcL_nil, Md.next_seq, ↓vcB_indexAddr, Tryd.ix144, ixI_vi, hS.idx, Nat.mul_one, ↓vcB_load, rd_seq_load, ↓ib_true, Tryd.ag9, loadAt_p, hrd, loadV_one, hlg, ↓vcB_assign, ↓vcB_move, ↓vcB_nilCheck, nil_p, ↓vcB_fieldAddr, Tryd.fl98_0, fieldAddr_p, Nat.add_zero, ↓vcB_call]; (with_reducible refine hk _ _ _ _ ?_); clear hk k) | with_reducible (first | refine Cw.block ?_ | refine Cw.skip ?_ | refine Cw.exit ?_ | refine Cw.ret ?_ | refine thenK_exit ?_ | refine thenK_ret ?_ | refine blockK_normal ?_ | refine blockK_ret ?_ | refine blockK_exit ?_ | refine blockK_pass rfl ?_) | ((with_reducible refine Cw.condC ?_); first | refine CwC.pt rfl (by omega) ?_ | refine CwC.pf rfl (by omega) ?_ | refine CwC.it rfl (by omega) ?_ | refine CwC.if rfl (by omega) ?_ | refine CwC.nt rfl (by omega) ?_ | refine CwC.nf rfl (by omega) ?_ | refine CwC.tt rfl ?_ | refine CwC.ff rfl ?_ | refine CwC.bt rfl (by assumption) ?_ | (refine CwC.bf rfl ?_ ?_; focus assumption))
    have hfl := flat_take_succ ls g hlt
    have hfle := flat_take_le ls (g + 1)
    have hfl2 := congrArg List.length hfl
    rw [List.length_append] at hfl2
    refine Ow.callX (Y := []) (by simp) rfl rfl Tryd.call90 (fun w' hw' hX hn => WriteString_spec b D _ (ls.getD g []) w' hBD hX hn (by rw [List.length_append]; omega)) (fun v2 D2 hC hS2 => ?_)
    rw [List.append_nil]
    obtain ⟨rfl, hB2⟩ := hS2
    refine Ow.run rfl fun k hk => ?_
    simp (disch := (first | omega | (simp only [lenS, lenT, UInt64.reduceToNat] ; try omega))) only [↓vcL_nil, putF_some, setF_s, setF_0]
    (with_reducible refine hk _ _ _ _ ?_); clear hk k
    repeat' first | with_reducible (first | refine Cw.seq ?_ | refine thenK_normal ?_ | refine Ow.nil ?_) | ((with_reducible refine Cw.region (Ow.run rfl fun k hk => ?_)); simp (disch := (first | omega | (simp only [lenS, lenT, UInt64.reduceToNat] ; try omega))) only [↓vcL_none, ↓vcB_binOp, ↓ev_tmp, ↓getF_s, ↓getF_0, ↓ev_const, lit_i64, binX_vi_vi, bin_add_i, ↓ov_some, putF_some, setF_s, setF_0, nf_cons, ↓vcB_move, ↓vcL_nil, Md.next_seq]; (with_reducible refine hk _ _ _ _ ?_); clear hk k) | with_reducible (first | refine Cw.block ?_ | refine Cw.skip ?_ | refine Cw.exit ?_ | refine Cw.ret ?_ | refine thenK_exit ?_ | refine thenK_ret ?_ | refine blockK_normal ?_ | refine blockK_ret ?_ | refine blockK_exit ?_ | refine blockK_pass rfl ?_) | ((with_reducible refine Cw.condC ?_); first | refine CwC.pt rfl (by omega) ?_ | refine CwC.pf rfl (by omega) ?_ | refine CwC.it rfl (by omega) ?_ | refine CwC.if rfl (by omega) ?_ | refine CwC.nt rfl (by omega) ?_ | refine CwC.nf rfl (by omega) ?_ | refine CwC.tt rfl ?_ | refine CwC.ff rfl ?_ | refine CwC.bt rfl (by assumption) ?_ | (refine CwC.bf rfl ?_ ?_; focus assumption))
    refine Again.mk (WG.mk (g + 1) D2) (by show ls.length - (g + 1) < ls.length - g; omega) ⟨by show g + 1 ≤ ls.length; omega, hE.came0 hC, ?_⟩ rfl rfl
    show BldAt b (l ++ (ls.take (g + 1)).flatten) D2
    rw [hfl, ← List.append_assoc]
    exact hB2
  · obtain rfl : g = ls.length := by omega
    repeat' first | with_reducible (first | refine Cw.seq ?_ | refine thenK_normal ?_ | refine Ow.nil ?_) | ((with_reducible refine Cw.region (Ow.run rfl fun k hk => ?_)); simp (disch := (first | omega | (simp only [lenS, lenT, UInt64.reduceToNat] ; try omega))) only [↓vcL_none, ↓vcB_binOp, ↓ev_tmp, ↓getF_s, ↓getF_0, binX_vi_vi, bin_lss_i, ↓ov_some, putF_some, setF_s, setF_0, nf_cons, ↓vcL_nil, Md.next_seq]; (with_reducible refine hk _ _ _ _ ?_); clear hk k) | with_reducible (first | refine Cw.block ?_ | refine Cw.skip ?_ | refine Cw.exit ?_ | refine Cw.ret ?_ | refine thenK_exit ?_ | refine thenK_ret ?_ | refine blockK_normal ?_ | refine blockK_ret ?_ | refine blockK_exit ?_ | refine blockK_pass rfl ?_) | ((with_reducible refine Cw.condC ?_); first | refine CwC.pt rfl (by omega) ?_ | refine CwC.pf rfl (by omega) ?_ | refine CwC.it rfl (by omega) ?_ | refine CwC.if rfl (by omega) ?_ | refine CwC.nt rfl (by omega) ?_ | refine CwC.nf rfl (by omega) ?_ | refine CwC.tt rfl ?_ | refine CwC.ff rfl ?_ | refine CwC.bt rfl (by assumption) ?_ | (refine CwC.bf rfl ?_ ?_; focus assumption))
    refine ⟨_, (by simp (disch := (first | omega | (simp only [lenS, lenT, UInt64.reduceToNat] ; try omega))) only [resVs_nil]; rfl), ?_⟩
    rw [List.take_length] at hBD
    exact ⟨hE, rfl, hBD⟩
def maxN : Int := 1099511627775
/-- A number as bytes. -/
def numL (n : Nat) : List UInt8 := if h : n < 128 then [UInt8.ofNat n] else UInt8.ofNat (n % 128 + 128) :: numL (n / 128)
termination_by n
decreasing_by omega
def clampN (n : Int) : Nat := (if (if maxN < n then maxN else n) > 0 then (if maxN < n then maxN else n) else 0).toNat
def numsL (l : List Int) : List UInt8 := (l.map fun n => numL (clampN n)).flatten
theorem numL_small {n : Nat} (h : n < 128) : numL n = [UInt8.ofNat n] := by rw [numL]; simp [h]
theorem numL_big {n : Nat} (h : ¬ n < 128) : numL n = UInt8.ofNat (n % 128 + 128) :: numL (n / 128) := by rw [numL]; simp [h]
theorem numL_len_lt : ∀ (k n : Nat), n < 128 ^ k → 0 < k → (numL n).length ≤ k
  | 0, n, h, h0 => absurd h0 (by omega)
  | k + 1, n, h, _ => by
    by_cases hn : n < 128
    · rw [numL_small hn]; simp
    · rw [numL_big hn]
      have hk : 0 < k := by
        rcases Nat.eq_zero_or_pos k with rfl | hk
        · simp at h; omega
        · exact hk
      have := numL_len_lt k (n / 128) (by rw [Nat.pow_succ] at h; omega) hk
      simp only [List.length_cons]; omega
theorem clampN_lt (n : Int) : clampN n < 1099511627776 := by unfold clampN maxN; split <;> split at * <;> omega
theorem numL_clamp_len (n : Int) : (numL (clampN n)).length ≤ 6 := numL_len_lt 6 _ (by have := clampN_lt n; omega) (by omega)
theorem orByte : ∀ b : BitVec 8, b.toNat < 128 → (b ||| 128#8) = b + 128#8 := by decide
theorem byte_int (m : Nat) : UInt8.ofInt (m : Int) = UInt8.ofNat m := by
  apply UInt8.toBitVec_inj.1
  apply BitVec.eq_of_toNat_eq
  simp [UInt8.ofInt, UInt8.ofNat]
  omega
theorem byte_or (m : Nat) : UInt8.ofInt ((m : Int) % 128) ||| 128 = UInt8.ofNat (m % 128 + 128) := by
  rw [show ((m : Int) % 128) = ((m % 128 : Nat) : Int) by omega, byte_int]
  apply UInt8.toBitVec_inj.1
  have h := orByte (BitVec.ofNat 8 (m % 128)) (by simp [BitVec.toNat_ofNat]; omega)
  have h1 : (UInt8.ofNat (m % 128) ||| 128).toBitVec = BitVec.ofNat 8 (m % 128) ||| 128#8 := rfl
  rw [h1, h]
  apply BitVec.eq_of_toNat_eq
  simp [UInt8.ofNat]
structure NG where
  m : Nat
  pre : List UInt8
  D : Heap
theorem WNumber_spec (b : Nat) (X : Heap) (l : List UInt8) (x : Value) (b2 off : Nat) (ls : List Int) (arr : Array Value) (E : TypeId) (fz : Nat × Nat) (w : World) (hB : BldAt b l X) (hX : ∀ p, p ∈ X → w.heap[p.1]? = some p.2) (hn : (keys X).Nodup)
    (hS : OneS vi 0 w x ls b2 off arr E fz) (hne : 0 < ls.length → b2 ∉ keys X) (hl : l.length + ls.length * 6 < 34359738368) :
    Rets Tryd.prog 54 #[vp b 0, x] w (XS w X (fun v D => v = .tuple #[] ∧ BldAt b (l ++ numsL ls) D)) := by
  refine Rets.enterX Tryd.func54 rfl (rs := []) Tryd.results54 Tryd.ntmps54 hX hn ?_
  simp only [List.size_toArray, List.length_cons, List.length_nil, Nat.reduceAdd, Nat.reduceSub, List.replicate_succ, List.replicate_zero, List.cons_append, List.nil_append]
  repeat' first | with_reducible (first | refine Cw.seq ?_ | refine thenK_normal ?_ | refine Ow.nil ?_) | ((with_reducible refine Cw.region (Ow.run rfl fun k hk => ?_)); simp (disch := (first | omega | (simp only [lenS, lenT, UInt64.reduceToNat] ; try omega))) only [↓vcL_none, ↓vcB_move, ↓ov_some, ↓ev_tmp, ↓getF_0, putF_some, setF_s, setF_0, nf_cons, ↓vcB_binOp, ↓getF_s, ↓ev_const, nilW, ↓vcL_nil, Md.next_seq, ↓vcB_len, Tryd.ix149, hS.len, lit_i64]; (with_reducible refine hk _ _ _ _ ?_); clear hk k) | with_reducible (first | refine Cw.block ?_ | refine Cw.skip ?_ | refine Cw.exit ?_ | refine Cw.ret ?_ | refine thenK_exit ?_ | refine thenK_ret ?_ | refine blockK_normal ?_ | refine blockK_ret ?_ | refine blockK_exit ?_ | refine blockK_pass rfl ?_) | ((with_reducible refine Cw.condC ?_); first | refine CwC.pt rfl (by omega) ?_ | refine CwC.pf rfl (by omega) ?_ | refine CwC.it rfl (by omega) ?_ | refine CwC.if rfl (by omega) ?_ | refine CwC.nt rfl (by omega) ?_ | refine CwC.nf rfl (by omega) ?_ | refine CwC.tt rfl ?_ | refine CwC.ff rfl ?_ | refine CwC.bt rfl (by assumption) ?_ | (refine CwC.bf rfl ?_ ?_; focus assumption))
  refine Cw.loopG (G := WG) [11, 12, 13, 5, 14, 15, 16, 17, 18, 21, 22, 23, 24, 25, 26, 27, 28, 19, 20, 29, 30, 31, 32, 33, 34, 35, 10] (fun g => [(10, vi g.g)]) (fun g => g.D) (fun g => g.g ≤ ls.length ∧ Ext w X g.D ∧ BldAt b (l ++ numsL (ls.take g.g)) g.D) (fun g => ls.length - g.g) ⟨0, X⟩ rfl rfl ?_ ?_
  · exact ⟨by simp, Ext.refl _ _, by simpa [numsL] using hB⟩
  intro g j hg
  simp only [overFrom, pin, setF_0, setF_s, List.contains_cons, List.contains_nil, Nat.reduceBEq, Bool.or_false, Bool.false_or, Bool.or_true, Bool.true_or, Nat.reduceAdd, ↓reduceIte, Bool.false_eq_true]
  obtain ⟨g, D⟩ := g
  simp only at hg ⊢
  obtain ⟨hgL, hE, hBD⟩ := hg
  by_cases hlt : g < ls.length
  · have hlg := hS.get g hlt
    have hrd := hE.old (hS.has (by omega)) (hne (by omega))
    repeat' first | with_reducible (first | refine Cw.seq ?_ | refine thenK_normal ?_ | refine Ow.nil ?_) | ((with_reducible refine Cw.region (Ow.run rfl fun k hk => ?_)); simp (disch := (first | omega | (simp only [lenS, lenT, UInt64.reduceToNat] ; try omega))) only [↓vcL_none, ↓vcB_binOp, ↓ev_tmp, ↓getF_s, ↓getF_0, binX_vi_vi, bin_lss_i, ↓ov_some, putF_some, setF_s, setF_0, nf_cons, ↓vcL_nil, Md.next_seq, ↓vcB_indexAddr, Tryd.ix149, ixI_vi, hS.idx, Nat.mul_one, ↓vcB_load, rd_seq_load, ↓ib_true, Tryd.ag3, loadAt_p, hrd, loadV_one, hlg, ↓vcB_assign, ↓vcB_move, ↓vcB_min, lit_i64]; (with_reducible refine hk _ _ _ _ ?_); clear hk k) | with_reducible (first | refine Cw.block ?_ | refine Cw.skip ?_ | refine Cw.exit ?_ | refine Cw.ret ?_ | refine thenK_exit ?_ | refine thenK_ret ?_ | refine blockK_normal ?_ | refine blockK_ret ?_ | refine blockK_exit ?_ | refine blockK_pass rfl ?_) | ((with_reducible refine Cw.condC ?_); first | refine CwC.pt rfl (by omega) ?_ | refine CwC.pf rfl (by omega) ?_ | refine CwC.it rfl (by omega) ?_ | refine CwC.if rfl (by omega) ?_ | refine CwC.nt rfl (by omega) ?_ | refine CwC.nf rfl (by omega) ?_ | refine CwC.tt rfl ?_ | refine CwC.ff rfl ?_ | refine CwC.bt rfl (by assumption) ?_ | (refine CwC.bf rfl ?_ ?_; focus assumption))
    refine Ow.minI rfl rfl rfl ?_
    refine Ow.maxI rfl rfl rfl ?_
    have hcl : (if (if maxN < ls.getD g 0 then maxN else ls.getD g 0) > 0 then (if maxN < ls.getD g 0 then maxN else ls.getD g 0) else 0) = (clampN (ls.getD g 0) : Int) := by
      unfold clampN; omega
    have hcl' : (if (if 1099511627775 < ls.getD g 0 then 1099511627775 else ls.getD g 0) > 0 then (if 1099511627775 < ls.getD g 0 then 1099511627775 else ls.getD g 0) else 0) = (clampN (ls.getD g 0) : Int) := hcl
    rw [hcl']
    have hcb := clampN_lt (ls.getD g 0)
    have hpl : (numsL (ls.take g)).length ≤ g * 6 := by
      unfold numsL
      rw [List.length_flatten, List.map_map]
      have : ∀ (q : List Int), (q.map (List.length ∘ fun n => numL (clampN n))).sum ≤ q.length * 6 := by
        intro q
        induction q with
        | nil => simp
        | cons y r ih => have := numL_clamp_len y; simp only [List.map_cons, List.sum_cons, List.length_cons, Function.comp]; omega
      have h2 := this (ls.take g)
      rw [List.length_take] at h2
      have : min g ls.length * 6 ≤ g * 6 := Nat.mul_le_mul_right _ (Nat.min_le_left _ _)
      omega
    have hnl := numL_clamp_len (ls.getD g 0)
    have hsucc : numsL (ls.take (g + 1)) = numsL (ls.take g) ++ numL (clampN (ls.getD g 0)) := by
      unfold numsL
      rw [List.take_succ_eq_append_getElem hlt, List.map_append, List.flatten_append, List.getD_eq_getElem?_getD, List.getElem?_eq_getElem hlt]
      simp only [List.map_cons, List.map_nil, List.flatten_cons, List.flatten_nil, List.append_nil, Option.getD_some]
    generalize clampN (ls.getD g 0) = m0 at *
    refine Ow.run rfl fun k hk => ?_
    simp (disch := (first | omega | (simp only [lenS, lenT, UInt64.reduceToNat] ; try omega))) only [↓vcL_none, ↓vcB_assign, ↓ov_some, putF_some, setF_s, setF_0, ↓ev_tmp, ↓getF_s, ↓getF_0, nf_cons, ↓vcL_nil, Md.next_seq]
    (with_reducible refine hk _ _ _ _ ?_); clear hk k
    repeat' first | with_reducible (first | refine Cw.seq ?_ | refine thenK_normal ?_ | refine Ow.nil ?_) | ((with_reducible refine Cw.region (Ow.run rfl fun k hk => ?_)); simp (disch := (first | omega | (simp only [lenS, lenT, UInt64.reduceToNat] ; try omega))) only []; (with_reducible refine hk _ _ _ _ ?_); clear hk k) | with_reducible (first | refine Cw.block ?_ | refine Cw.skip ?_ | refine Cw.exit ?_ | refine Cw.ret ?_ | refine thenK_exit ?_ | refine thenK_ret ?_ | refine blockK_normal ?_ | refine blockK_ret ?_ | refine blockK_exit ?_ | refine blockK_pass rfl ?_) | ((with_reducible refine Cw.condC ?_); first | refine CwC.pt rfl (by omega) ?_ | refine CwC.pf rfl (by omega) ?_ | refine CwC.it rfl (by omega) ?_ | refine CwC.if rfl (by omega) ?_ | refine CwC.nt rfl (by omega) ?_ | refine CwC.nf rfl (by omega) ?_ | refine CwC.tt rfl ?_ | refine CwC.ff rfl ?_ | refine CwC.bt rfl (by assumption) ?_ | (refine CwC.bf rfl ?_ ?_; focus assumption))
    refine Cw.loopG (G := NG) [17, 18, 21, 22, 23, 24, 25, 26, 27, 28, 19, 20, 5] (fun q => [(5, vi q.m)]) (fun q => q.D) (fun q => q.m ≤ m0 ∧ Ext w X q.D ∧ numL m0 = q.pre ++ numL q.m ∧ BldAt b (l ++ numsL (ls.take g) ++ q.pre) q.D) (fun q => q.m) ⟨m0, [], D⟩ rfl rfl ?_ ?_
    · exact ⟨Nat.le_refl _, hE, rfl, by rwa [List.append_nil]⟩
    intro q jq hq
    simp only [overFrom, pin, setF_0, setF_s, List.contains_cons, List.contains_nil, Nat.reduceBEq, Bool.or_false, Bool.false_or, Bool.or_true, Bool.true_or, Nat.reduceAdd, ↓reduceIte, Bool.false_eq_true]
    obtain ⟨m, pre, D1⟩ := q
    simp only at hq ⊢
    obtain ⟨hqm, hE1, hpre, hB1⟩ := hq
    have hpl2 := congrArg List.length hpre
    rw [List.length_append] at hpl2
    by_cases hm : m < 128
    · repeat' first | with_reducible (first | refine Cw.seq ?_ | refine thenK_normal ?_ | refine Ow.nil ?_) | ((with_reducible refine Cw.region (Ow.run rfl fun k hk => ?_)); simp (disch := (first | omega | (simp only [lenS, lenT, UInt64.reduceToNat] ; try omega))) only [↓vcL_none, ↓vcB_move, ↓ov_some, ↓ev_tmp, ↓getF_s, ↓getF_0, putF_some, setF_s, setF_0, nf_cons, ↓vcB_binOp, ↓ev_const, lit_i64, binX_vi_vi, bin_geq_i, ↓vcL_nil, Md.next_seq, ↓vcB_nilCheck, nil_p, ↓vcB_fieldAddr, Tryd.fl98_0, fieldAddr_p, Nat.add_zero, ↓vcB_convert, rd_seq_convert, ↓ib_true, Tryd.cv3_5, conv_int, conv_vi_u8, ↓vcB_call]; (with_reducible refine hk _ _ _ _ ?_); clear hk k) | with_reducible (first | refine Cw.block ?_ | refine Cw.skip ?_ | refine Cw.exit ?_ | refine Cw.ret ?_ | refine thenK_exit ?_ | refine thenK_ret ?_ | refine blockK_normal ?_ | refine blockK_ret ?_ | refine blockK_exit ?_ | refine blockK_pass rfl ?_) | ((with_reducible refine Cw.condC ?_); first | refine CwC.pt rfl (by omega) ?_ | refine CwC.pf rfl (by omega) ?_ | refine CwC.it rfl (by omega) ?_ | refine CwC.if rfl (by omega) ?_ | refine CwC.nt rfl (by omega) ?_ | refine CwC.nf rfl (by omega) ?_ | refine CwC.tt rfl ?_ | refine CwC.ff rfl ?_ | refine CwC.bt rfl (by assumption) ?_ | (refine CwC.bf rfl ?_ ?_; focus assumption))
      rw [numL_small hm] at hpre hpl2
      have hlen : (l ++ numsL (ls.take g) ++ pre).length + 1 < 34359738368 := by
        rw [List.length_append, List.length_append]
        simp only [List.length_cons, List.length_nil] at hpl2
        omega
      refine Ow.callX (Y := []) (by simp) rfl rfl Tryd.call91 (fun w' hw' hX hn => WriteByte_spec b D1 _ _ w' hB1 hX hn (by omega)) (fun v2 D2 hC hS2 => ?_)
      rw [List.append_nil]
      obtain ⟨rfl, hB2⟩ := hS2
      rw [byte_int] at hB2
      refine Ow.run rfl fun k hk => ?_
      simp (disch := (first | omega | (simp only [lenS, lenT, UInt64.reduceToNat] ; try omega))) only [↓vcL_nil, putF_some, setF_s, setF_0]
      (with_reducible refine hk _ _ _ _ ?_); clear hk k
      repeat' first | with_reducible (first | refine Cw.seq ?_ | refine thenK_normal ?_ | refine Ow.nil ?_) | ((with_reducible refine Cw.region (Ow.run rfl fun k hk => ?_)); simp (disch := (first | omega | (simp only [lenS, lenT, UInt64.reduceToNat] ; try omega))) only [↓vcL_none, ↓vcB_binOp, ↓ev_tmp, ↓getF_s, ↓getF_0, ↓ev_const, lit_i64, binX_vi_vi, bin_add_i, ↓ov_some, putF_some, setF_s, setF_0, nf_cons, ↓vcB_move, ↓vcL_nil, Md.next_seq]; (with_reducible refine hk _ _ _ _ ?_); clear hk k) | with_reducible (first | refine Cw.block ?_ | refine Cw.skip ?_ | refine Cw.exit ?_ | refine Cw.ret ?_ | refine thenK_exit ?_ | refine thenK_ret ?_ | refine blockK_normal ?_ | refine blockK_ret ?_ | refine blockK_exit ?_ | refine blockK_pass rfl ?_) | ((with_reducible refine Cw.condC ?_); first | refine CwC.pt rfl (by omega) ?_ | refine CwC.pf rfl (by omega) ?_ | refine CwC.it rfl (by omega) ?_ | refine CwC.if rfl (by omega) ?_ | refine CwC.nt rfl (by omega) ?_ | refine CwC.nf rfl (by omega) ?_ | refine CwC.tt rfl ?_ | refine CwC.ff rfl ?_ | refine CwC.bt rfl (by assumption) ?_ | (refine CwC.bf rfl ?_ ?_; focus assumption))
      refine Again.mk (WG.mk (g + 1) D2) (by show ls.length - (g + 1) < ls.length - g; omega) ⟨by show g + 1 ≤ ls.length; omega, hE1.came0 hC, ?_⟩ rfl rfl
      show BldAt b (l ++ numsL (ls.take (g + 1))) D2
      rw [hsucc, hpre, ← List.append_assoc, ← List.append_assoc]
      exact hB2
    · repeat' first | with_reducible (first | refine Cw.seq ?_ | refine thenK_normal ?_ | refine Ow.nil ?_) | ((with_reducible refine Cw.region (Ow.run rfl fun k hk => ?_)); simp (disch := (first | omega | (simp only [lenS, lenT, UInt64.reduceToNat] ; try omega))) only [↓vcL_none, ↓vcB_move, ↓ov_some, ↓ev_tmp, ↓getF_s, ↓getF_0, putF_some, setF_s, setF_0, nf_cons, ↓vcB_binOp, ↓ev_const, lit_i64, binX_vi_vi, bin_geq_i, ↓vcL_nil, Md.next_seq, ↓vcB_nilCheck, nil_p, ↓vcB_fieldAddr, Tryd.fl98_0, fieldAddr_p, Nat.add_zero, bin_rem_i, ↓vcB_convert, rd_seq_convert, ↓ib_true, Tryd.cv3_5, conv_int, conv_vi_u8, lit_u8, binX_v8_v8, bin_or_u8, ↓vcB_call]; (with_reducible refine hk _ _ _ _ ?_); clear hk k) | with_reducible (first | refine Cw.block ?_ | refine Cw.skip ?_ | refine Cw.exit ?_ | refine Cw.ret ?_ | refine thenK_exit ?_ | refine thenK_ret ?_ | refine blockK_normal ?_ | refine blockK_ret ?_ | refine blockK_exit ?_ | refine blockK_pass rfl ?_) | ((with_reducible refine Cw.condC ?_); first | refine CwC.pt rfl (by omega) ?_ | refine CwC.pf rfl (by omega) ?_ | refine CwC.it rfl (by omega) ?_ | refine CwC.if rfl (by omega) ?_ | refine CwC.nt rfl (by omega) ?_ | refine CwC.nf rfl (by omega) ?_ | refine CwC.tt rfl ?_ | refine CwC.ff rfl ?_ | refine CwC.bt rfl (by assumption) ?_ | (refine CwC.bf rfl ?_ ?_; focus assumption))
      rw [numL_big hm] at hpre hpl2
      have hlen : (l ++ numsL (ls.take g) ++ pre).length + 1 < 34359738368 := by
        rw [List.length_append, List.length_append]
        simp only [List.length_cons] at hpl2
        omega
      refine Ow.callX (Y := []) (by simp) rfl rfl Tryd.call91 (fun w' hw' hX hn => WriteByte_spec b D1 _ _ w' hB1 hX hn (by omega)) (fun v2 D2 hC hS2 => ?_)
      rw [List.append_nil]
      obtain ⟨rfl, hB2⟩ := hS2
      rw [byte_or] at hB2
      refine Ow.run rfl fun k hk => ?_
      simp (disch := (first | omega | (simp only [lenS, lenT, UInt64.reduceToNat] ; try omega))) only [↓vcL_nil, putF_some, setF_s, setF_0]
      (with_reducible refine hk _ _ _ _ ?_); clear hk k
      repeat' first | with_reducible (first | refine Cw.seq ?_ | refine thenK_normal ?_ | refine Ow.nil ?_) | ((with_reducible refine Cw.region (Ow.run rfl fun k hk => ?_)); simp (disch := (first | omega | (simp only [lenS, lenT, UInt64.reduceToNat] ; try omega))) only [↓vcL_none, ↓vcB_move, ↓ov_some, ↓ev_tmp, ↓getF_s, ↓getF_0, putF_some, setF_s, setF_0, nf_cons, ↓vcB_binOp, ↓ev_const, lit_i64, binX_vi_vi, bin_quo_i, ↓vcB_assign, ↓vcL_nil, Md.next_seq]; (with_reducible refine hk _ _ _ _ ?_); clear hk k) | with_reducible (first | refine Cw.block ?_ | refine Cw.skip ?_ | refine Cw.exit ?_ | refine Cw.ret ?_ | refine thenK_exit ?_ | refine thenK_ret ?_ | refine blockK_normal ?_ | refine blockK_ret ?_ | refine blockK_exit ?_ | refine blockK_pass rfl ?_) | ((with_reducible refine Cw.condC ?_); first | refine CwC.pt rfl (by omega) ?_ | refine CwC.pf rfl (by omega) ?_ | refine CwC.it rfl (by omega) ?_ | refine CwC.if rfl (by omega) ?_ | refine CwC.nt rfl (by omega) ?_ | refine CwC.nf rfl (by omega) ?_ | refine CwC.tt rfl ?_ | refine CwC.ff rfl ?_ | refine CwC.bt rfl (by assumption) ?_ | (refine CwC.bf rfl ?_ ?_; focus assumption))
      refine Again.mk (NG.mk (m / 128) (pre ++ [UInt8.ofNat (m % 128 + 128)]) D2) (by show m / 128 < m; omega) ⟨by show m / 128 ≤ m0; omega, hE1.came0 hC, ?_, ?_⟩ rfl rfl
      · show numL m0 = pre ++ [UInt8.ofNat (m % 128 + 128)] ++ numL (m / 128)
        rw [hpre]; simp
      · show BldAt b (l ++ numsL (ls.take g) ++ (pre ++ [UInt8.ofNat (m % 128 + 128)])) D2
        rw [← List.append_assoc]
        exact hB2
  · obtain rfl : g = ls.length := by omega
    repeat' first | with_reducible (first | refine Cw.seq ?_ | refine thenK_normal ?_ | refine Ow.nil ?_) | ((with_reducible refine Cw.region (Ow.run rfl fun k hk => ?_)); simp (disch := (first | omega | (simp only [lenS, lenT, UInt64.reduceToNat] ; try omega))) only [↓vcL_none, ↓vcB_binOp, ↓ev_tmp, ↓getF_s, ↓getF_0, binX_vi_vi, bin_lss_i, ↓ov_some, putF_some, setF_s, setF_0, nf_cons, ↓vcL_nil, Md.next_seq]; (with_reducible refine hk _ _ _ _ ?_); clear hk k) | with_reducible (first | refine Cw.block ?_ | refine Cw.skip ?_ | refine Cw.exit ?_ | refine Cw.ret ?_ | refine thenK_exit ?_ | refine thenK_ret ?_ | refine blockK_normal ?_ | refine blockK_ret ?_ | refine blockK_exit ?_ | refine blockK_pass rfl ?_) | ((with_reducible refine Cw.condC ?_); first | refine CwC.pt rfl (by omega) ?_ | refine CwC.pf rfl (by omega) ?_ | refine CwC.it rfl (by omega) ?_ | refine CwC.if rfl (by omega) ?_ | refine CwC.nt rfl (by omega) ?_ | refine CwC.nf rfl (by omega) ?_ | refine CwC.tt rfl ?_ | refine CwC.ff rfl ?_ | refine CwC.bt rfl (by assumption) ?_ | (refine CwC.bf rfl ?_ ?_; focus assumption))
    refine ⟨_, (by simp (disch := (first | omega | (simp only [lenS, lenT, UInt64.reduceToNat] ; try omega))) only [resVs_nil]; rfl), ?_⟩
    rw [List.take_length] at hBD
    exact ⟨hE, rfl, hBD⟩
end Go.Proofs
