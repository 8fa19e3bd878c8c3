/-
  Part 1 of the walk: contracts of the functions that the law reaches, and the calculus they stand on.
  No conditions.
-/
import Derived.Test.YteppologbikipaaGreatDoorA0
import Derived.Test.YteppologbikipaaGreatDoorProg
section
namespace Go.Sx
open Go
set_option linter.unusedSimpArgs false

/-! ### Known blocks behind a name -/
theorem look_app {L M : Heap} {b : Nat} {o : Obj} (h : look L b = some o) : look (L ++ M) b = some o := by
  induction L with
  | nil => cases h
  | cons p r ih =>
    obtain ⟨c, x⟩ := p
    simp only [List.cons_append, look] at h ⊢
    split
    · rename_i e; rw [if_pos e] at h; exact h
    · rename_i e; rw [if_neg e] at h; exact ih h
theorem look_app_r {L M : Heap} {b : Nat} (h : b ∉ keys L) : look (L ++ M) b = look M b := by
  induction L with
  | nil => rfl
  | cons p r ih =>
    obtain ⟨c, x⟩ := p
    simp only [keys, List.map_cons, List.mem_cons, not_or] at h
    simp only [List.cons_append, look]
    rw [if_neg (fun e => h.1 e.symm)]
    exact ih h.2
theorem look_setB {L : Heap} {b : Nat} {x o : Obj} (h : look L b = some o) : look (setB L b x) b = some x := by
  induction L with
  | nil => cases h
  | cons p r ih =>
    obtain ⟨c, y⟩ := p
    simp only [look] at h
    simp only [setB]
    split
    · simp [look, *]
    · rename_i e
      rw [if_neg e] at h
      simp only [look]
      rw [if_neg e]
      exact ih h
theorem look_setB_ne {L : Heap} {b c : Nat} {x : Obj} (h : b ≠ c) : look (setB L b x) c = look L c := by
  induction L with
  | nil => rfl
  | cons p r ih =>
    obtain ⟨d, y⟩ := p
    simp only [setB]
    split
    · rename_i e
      subst e
      simp [look, h]
    · simp only [look]
      split
      · rfl
      · exact ih
theorem key_of_look {L : Heap} {b : Nat} {o : Obj} (h : look L b = some o) : b ∈ keys L := List.mem_map.2 ⟨_, look_mem h, rfl⟩
theorem look_key {L : Heap} {b : Nat} (h : b ∈ keys L) : ∃ o, look L b = some o := by
  cases hl : look L b with
  | some o => exact ⟨o, rfl⟩
  | none => exact absurd h (look_none hl)
theorem read_look {w0 : World} {L : Heap} {b : Nat} {o : Obj} (h : look L b = some o) : readB w0 L b = some o := by
  unfold readB; rw [h]
theorem keys_app (L M : Heap) : keys (L ++ M) = keys L ++ keys M := List.map_append
theorem above_to {L : Heap} {n b : Nat} (h : Above L n) (hb : b ∈ keys L) : b < n := by
  induction L with
  | nil => cases hb
  | cons p r ih =>
    obtain ⟨c, y⟩ := p
    simp only [keys, List.map_cons, List.mem_cons] at hb
    rcases hb with rfl | hb
    · exact h.1
    · exact ih h.2 hb

/-! ### Cells one behind the other -/
theorem putC_app (vs : List Value) : ∀ (A B : List Value), vs.length ≤ B.length → putC (A ++ B).toArray A.length vs = (A ++ vs ++ B.drop vs.length).toArray := by
  induction vs with
  | nil => intro A B _; simp [putC]
  | cons v r ih =>
    intro A B h
    cases B with
    | nil => simp at h
    | cons x B =>
      have e : (A ++ x :: B).toArray.setIfInBounds A.length v = ((A ++ [v]) ++ B).toArray := by
        rw [List.setIfInBounds_toArray]
        simp
      have h' := ih (A ++ [v]) B (by simpa using h)
      simp only [List.length_append, List.length_cons, List.length_nil, Nat.zero_add] at h'
      rw [putC, e, h']
      simp

theorem growBy_le (N : Nat) : ∀ r c, c ≤ 2 * N + 768 → Builtin.growBy N r c ≤ 2 * N + 768
  | 0, c, h => h
  | r + 1, c, h => by
    unfold Builtin.growBy
    split
    · exact h
    · exact growBy_le N r _ (by omega)
theorem nextslicecap_le {N c : Nat} (h : c < N) : Builtin.nextslicecap N c ≤ 2 * N + 768 := by
  unfold Builtin.nextslicecap
  split
  · omega
  · split
    · omega
    · exact growBy_le N 4 c (by omega)

/-- What is appended: k elements, these cells. -/
structure AppX (P : Program) (w : World) (size : Nat) (x : Value) (k : Nat) (new : List Value) : Prop where
  len : (Builtin.lenOf x).run P w = .ok k w
  cells : (Builtin.firstCells size k x).run P w = .ok new.toArray w
  one : new.all Value.oneCell' = true
  size : new.length = k * size

theorem AppX.text (P : Program) (w : World) (l : List UInt8) : AppX P w 1 (vs l) l.length (l.map v8) := by
  refine ⟨?_, ?_, ?_, by simp⟩
  · simp only [vs, Builtin.lenOf, size_mk]; rfl
  · simp only [vs, Builtin.firstCells]
    show Result.ok _ w = _
    congr 1
    have : ((ByteArray.mk l.toArray).extract 0 l.length).data = l.toArray := by
      rw [ByteArray.data_extract]
      simp
    rw [this]
    simp [v8]
  · rw [List.all_map, List.all_eq_true]; intro x _; rfl

/-- An element has some bytes, and not too many. -/
def bytesOk (P : Program) (e : TypeId) : Bool := match P.info? e with
  | some i => i.bytes != 0 && decide (i.bytes ≤ 1024)
  | none => false
theorem bytesOk_spec {P : Program} {e : TypeId} {j : Nat} (h : bytesOk P e = true) (hj : j ≤ 2 ^ 38) : ∃ i, P.info? e = some i ∧ i.bytes ≠ 0 ∧ j * i.bytes ≤ 2 ^ 48 := by
  unfold bytesOk at h
  cases hi : P.info? e with
  | none => rw [hi] at h; cases h
  | some i =>
    rw [hi] at h
    simp only [Bool.and_eq_true, bne_iff_ne, ne_eq, decide_eq_true_eq] at h
    refine ⟨i, rfl, h.1, ?_⟩
    calc j * i.bytes ≤ 2 ^ 38 * 1024 := Nat.mul_le_mul hj h.2
      _ = 2 ^ 48 := by decide
theorem nh_any (L : Heap) (k : Heap → Prop) : nh L k = k L := (rfl)

/-- A slice that grows: what it holds stands in a block of its own. -/
inductive Buf (L : Heap) (E : TypeId) (size : Nat) : Value → Nat → List Value → Prop
  | nl : Buf L E size (.slice none 0 0) 0 []
  | at_ {b n c : Nat} {cs rest : List Value} (hl : look L b = some (.cells (cs ++ rest).toArray E (0, 0))) (h1 : cs.length = n * size) (h2 : rest.length = (c - n) * size) (h3 : n ≤ c) (h4 : 0 < c) :
    Buf L E size (vsl b 0 n c) n cs

/-- The block in which a slice lies. -/
def slB : Value → Option Nat
  | .slice (some a) _ _ => some a.block
  | _ => none

theorem Buf.keep {L L' : Heap} {E : TypeId} {size n : Nat} {v : Value} {cs : List Value} (h : Buf L E size v n cs) (hk : ∀ b o, slB v = some b → look L b = some o → look L' b = some o) : Buf L' E size v n cs := by
  cases h with
  | nl => exact .nl
  | at_ hl h1 h2 h3 h4 => exact .at_ (hk _ _ rfl hl) h1 h2 h3 h4

theorem Buf.setO {L : Heap} {E : TypeId} {size n b : Nat} {v : Value} {cs : List Value} {x : Obj} (h : Buf L E size v n cs) (hb : slB v ≠ some b) : Buf (setB L b x) E size v n cs :=
  h.keep fun c o hc ho => by rw [look_setB_ne (fun e : b = c => hb (by rw [e]; exact hc))]; exact ho
theorem Buf.app {L M : Heap} {E : TypeId} {size n : Nat} {v : Value} {cs : List Value} (h : Buf L E size v n cs) : Buf (L ++ M) E size v n cs := h.keep fun _ _ _ ho => look_app ho
theorem Buf.cell {L : Heap} {E : TypeId} {size n : Nat} {v : Value} {cs : List Value} (h : Buf L E size v n cs) : Value.oneCell' v = true ∧ v.cells = #[v] := by
  cases h <;> exact ⟨rfl, rfl⟩
theorem Buf.len {L : Heap} {E : TypeId} {size n : Nat} {v : Value} {cs : List Value} (h : Buf L E size v n cs) (x : Bool × Nat) : lenV (.sl x) v = some (vi n) := by
  cases h <;> rfl
theorem Buf.inv {L : Heap} {E : TypeId} {size n : Nat} {v : Value} {cs : List Value} (h : Buf L E size v n cs) : (v = .slice none 0 0 ∧ n = 0 ∧ cs = []) ∨
    ∃ b c rest, v = vsl b 0 n c ∧ look L b = some (.cells (cs ++ rest).toArray E (0, 0)) ∧ cs.length = n * size ∧ n ≤ c ∧ 0 < c ∧ rest.length = (c - n) * size := by
  cases h with
  | nl => exact .inl ⟨rfl, rfl, rfl⟩
  | at_ hl h1 h2 h3 h4 => exact .inr ⟨_, _, _, rfl, hl, h1, h3, h4, h2⟩
theorem look_new {L : Heap} {b : Nat} {o : Obj} (h : Above L b) : look (L ++ [(b, o)]) b = some o := by
  rw [look_app_r (fun hm => Nat.lt_irrefl _ (above_to h hm))]; simp [look]

/-- What is known grows: but for the slice's own block nothing is turned. -/
structure Grew (w0 : World) (v : Value) (L L' : Heap) : Prop where
  keys : ∀ c, c ∈ keys L → c ∈ keys L'
  new : ∀ c, c ∈ Sx.keys L' → c ∈ Sx.keys L ∨ (Above L c ∧ w0.heap.size ≤ c)
  look : ∀ c o, slB v ≠ some c → Sx.look L c = some o → Sx.look L' c = some o

theorem Grew.refl (w0 : World) (v : Value) (L : Heap) : Grew w0 v L L := ⟨fun _ h => h, fun _ h => .inl h, fun _ _ _ h => h⟩

section
variable {P : Program} {w0 : World} {L : Heap}

theorem run_append {w : World} {ts tx ty e : TypeId} {m : Bool × Nat} {z s x : Value} {n k : Nat} {cs new : List Value} (hw : Hp w0 L w)
    (hu : P.underlying ts = some (.slice e)) (hm : aggT P e = some m) (hi : bytesOk P e = true) (hz : zeroV P e = some z) (hzs : z.cells.size = m.2) {d : TypeDesc} (hux : P.underlying tx = some d) (hnx : ∀ k, d ≠ .int k)
    (hB : Buf L e m.2 s n cs) (hXa : ∀ w, Hp w0 L w → AppX P w m.2 x k new) (hbig : 2 * (n + k) + 768 ≤ 2 ^ 38) :
    ∃ v' w' L', (Builtin.append_ #[ts, tx] ty #[s, x]).run P w = .ok v' w' ∧ Hp w0 L' w' ∧ Buf L' e m.2 v' (n + k) (cs ++ new) ∧ Grew w0 s L L' ∧ (slB v' = slB s ∨ ∃ c, slB v' = some c ∧ Above L c) := by
  obtain ⟨i, hi, hb0, hbig⟩ := bytesOk_spec hi hbig
  have hti : ∀ w, (typeInfo e).run P w = .ok i w := by
    intro w
    simp only [typeInfo, program, Sem.run_bind]
    show Result.andThen (Result.ok P w) _ = _
    simp only [Result.andThen_ok, hi]
    rfl
  have hmd : (match d with | .int _ => true | _ => false) = false := by
    cases d <;> first | rfl | exact absurd rfl (hnx _)
  have e1 : ∀ {α β : Type} (a : α) (f : α → World → Result β), (Sem.run P (pure a) w).andThen f = f a w := fun _ _ => rfl
  have hX := hXa w hw
  have hxl := hX.len
  have hxc := hX.cells
  have hzv := run_zeroV (P := P) hz
  have room : ∀ (b : Nat) (w : World), (askRoom b).run P w = .ok () w := by
    intro b w
    unfold askRoom
    split <;> rfl
  have zc : ∀ j, (Builtin.zeroCells z.cells j).toList.length = j * m.2 := by
    intro j; simp [Builtin.zeroCells, hzs]
  have hbg : ∀ c, c < n + k → ¬ (Builtin.nextslicecap (n + k) c * i.bytes > 2 ^ 48) := by
    intro c hc
    have := nextslicecap_le hc
    have h2 := Nat.mul_le_mul_right i.bytes this
    omega
  cases hB with
  | nl =>
    by_cases hk : k = 0
    · subst hk
      have hnew : new = [] := List.eq_nil_of_length_eq_zero (by have := hX.size; omega)
      subst hnew
      refine ⟨.slice none 0 0, w, L, ?_, hw, .nl, Grew.refl _ _ _, .inl rfl⟩
      simp only [Builtin.append_, List.getElem?_toArray, List.getElem?_cons_zero, List.getElem?_cons_succ, Sem.run_bind, run_underlying hu w, Result.andThen_ok, run_sizeOf hm w, run_underlying hux w, hmd, e1, Bool.false_eq_true, ↓reduceIte, hxl, Bool.not_false, Nat.add_zero, Nat.le_refl, hxc]
      rfl
    · have hpos : ¬ 0 + k ≤ 0 := by omega
      have hbg' := hbg 0 (by omega)
      simp only [Builtin.append_, List.getElem?_toArray, List.getElem?_cons_zero, List.getElem?_cons_succ, Sem.run_bind, run_underlying hu w, Result.andThen_ok, run_sizeOf hm w, run_underlying hux w, hmd, e1, Bool.false_eq_true, ↓reduceIte, hxl, Bool.not_false, hpos, hti, hb0, or_false, and_false, hbg']
      have hch : (choose (Question.appendCap (0 + k) 0 e)).run P w = .ok ((0 + k) + w.tape w.drawn (.appendCap (0 + k) 0 e) % (2 ^ 63 - (0 + k))) w.drew := rfl
      rw [hch]
      generalize hcc : (0 + k) + w.tape w.drawn (.appendCap (0 + k) 0 e) % (2 ^ 63 - (0 + k)) = c
      have hw1 := hw.drew
      have hX1 := hXa _ hw1
      have hold : (Builtin.firstCells m.2 0 (Value.slice none 0 0)).run P w.drew = .ok #[] w.drew := rfl
      simp only [Result.andThen_ok, room, hold, hX1.cells, hzv]
      refine ⟨_, _, L ++ [(w.drew.heap.size, .cells ([] ++ new ++ (Builtin.zeroCells z.cells (c - (0 + k))).toList).toArray e (0, 0))], rfl, ?_, .at_ (b := w.drew.heap.size) (rest := (Builtin.zeroCells z.cells (c - (0 + k))).toList) ?_ ?_ ?_ (by omega) (by omega), ?_, .inr ⟨_, rfl, above_of fun b hb => hw1.lt hb⟩⟩
      · have ea : ([] ++ new ++ (Builtin.zeroCells z.cells (c - (0 + k))).toList).toArray = #[] ++ new.toArray ++ Builtin.zeroCells z.cells (c - (0 + k)) := by apply Array.ext'; simp
        rw [ea]
        exact hw1.alloc _
      · rw [look_app_r (fun hm => Nat.lt_irrefl _ (hw1.lt hm))]
        simp [look]
      · rw [List.nil_append, hX.size, Nat.zero_add]
      · exact zc _
      · refine ⟨fun c hc => by rw [keys_app]; exact List.mem_append_left _ hc, fun c hc => ?_, fun c o hne ho => look_app ho⟩
        rw [keys_app] at hc
        rcases List.mem_append.1 hc with hc | hc
        · exact .inl hc
        · right
          simp only [keys, List.map_cons, List.map_nil, List.mem_singleton] at hc
          subst hc
          exact ⟨above_of fun b hb => hw1.lt hb, hw1.size⟩
  | @at_ b n c cs rest hl h1 h2 h3 h4 =>
    have hhb := hw.has _ _ (look_mem hl)
    by_cases hin : n + k ≤ c
    · have hlt := (Array.getElem?_eq_some_iff.1 hhb).1
      have hsz := hX.size
      have hst := run_storeCells (P := P) (b := b) (off := n * m.2) (E := e) (fz := (0, 0)) new 0 (cs ++ rest).toArray w hhb (by
        simp only [List.size_toArray, List.length_append, h1, h2, hsz, Nat.add_zero]
        rw [← Nat.add_mul, ← Nat.add_mul]
        exact Nat.mul_le_mul_right _ (by omega)) (.inl (Nat.le_refl 0)) hX.one
      simp only [Builtin.append_, List.getElem?_toArray, List.getElem?_cons_zero, List.getElem?_cons_succ, Sem.run_bind, run_underlying hu w, Result.andThen_ok, run_sizeOf hm w, run_underlying hux w, hmd, e1, Bool.false_eq_true, ↓reduceIte, hxl, Bool.not_false, hin, hxc, add_spot, Nat.zero_add, hst, vsl]
      rw [Nat.add_zero, ← h1, putC_app new cs rest (by rw [h2, hsz]; exact Nat.mul_le_mul_right _ (by omega))]
      refine ⟨vsl b 0 (n + k) c, _, setB L b (.cells (cs ++ new ++ rest.drop new.length).toArray e (0, 0)), rfl, hw.set (key_of_look hl) rfl rfl rfl rfl, .at_ (look_setB hl) ?_ ?_ hin h4, ?_, .inl rfl⟩
      · rw [List.length_append, h1, hsz, Nat.add_mul]
      · rw [List.length_drop, h2, hsz, ← Nat.sub_mul]
        congr 1
        omega
      · refine ⟨fun c hc => by rw [keys_setB]; exact hc, fun c hc => by rw [keys_setB] at hc; exact .inl hc, fun c o hne ho => ?_⟩
        rw [look_setB_ne (fun e => hne (by rw [← e]; rfl))]
        exact ho
    · have hbg' := hbg c (by omega)
      simp only [Builtin.append_, List.getElem?_toArray, List.getElem?_cons_zero, List.getElem?_cons_succ, Sem.run_bind, run_underlying hu w, Result.andThen_ok, run_sizeOf hm w, run_underlying hux w, hmd, e1, Bool.false_eq_true, ↓reduceIte, hxl, Bool.not_false, hin, hti, hb0, or_false, and_false, hbg', vsl]
      have hch : (choose (Question.appendCap (n + k) c e)).run P w = .ok ((n + k) + w.tape w.drawn (.appendCap (n + k) c e) % (2 ^ 63 - (n + k))) w.drew := rfl
      rw [hch]
      generalize hcc : (n + k) + w.tape w.drawn (.appendCap (n + k) c e) % (2 ^ 63 - (n + k)) = c2
      have hw1 := hw.drew
      have hX1 := hXa _ hw1
      have hold : (Builtin.firstCells m.2 n (Value.slice (some ⟨b, 0, none⟩) n c)).run P w.drew = .ok cs.toArray w.drew := by
        simp only [Builtin.firstCells]
        rw [run_loadCells_row (hw1.has _ _ (look_mem hl)) 0 (n * m.2) (by simp only [List.size_toArray, List.length_append, h1]; omega)]
        congr 1
        simp only [Nat.zero_add, List.extract_toArray, ← h1]
        simp
      simp only [Result.andThen_ok, room, hold, hX1.cells, hzv]
      refine ⟨_, _, L ++ [(w.drew.heap.size, .cells (cs ++ new ++ (Builtin.zeroCells z.cells (c2 - (n + k))).toList).toArray e (0, 0))], rfl, ?_, .at_ (b := w.drew.heap.size) (rest := (Builtin.zeroCells z.cells (c2 - (n + k))).toList) ?_ ?_ ?_ (by omega) (by omega), ?_, .inr ⟨_, rfl, above_of fun b hb => hw1.lt hb⟩⟩
      · have ea : (cs ++ new ++ (Builtin.zeroCells z.cells (c2 - (n + k))).toList).toArray = cs.toArray ++ new.toArray ++ Builtin.zeroCells z.cells (c2 - (n + k)) := by apply Array.ext'; simp
        rw [ea]
        exact hw1.alloc _
      · rw [look_app_r (fun hm => Nat.lt_irrefl _ (hw1.lt hm))]
        simp [look]
      · rw [List.length_append, h1, hX.size, Nat.add_mul]
      · exact zc _
      · refine ⟨fun c hc => by rw [keys_app]; exact List.mem_append_left _ hc, fun c hc => ?_, fun c o hne ho => look_app ho⟩
        rw [keys_app] at hc
        rcases List.mem_append.1 hc with hc | hc
        · exact .inl hc
        · right
          simp only [keys, List.map_cons, List.map_nil, List.mem_singleton] at hc
          subst hc
          exact ⟨above_of fun b hb => hw1.lt hb, hw1.size⟩

theorem AppX.block {b off k cap size : Nat} {arr : Array Value} {E : TypeId} {fz : Nat × Nat} {new : List Value} (hr : readB w0 L b = some (.cells arr E fz)) (hn : off + k * size ≤ arr.size) (hc : (arr.extract off (off + k * size)).toList = new)
    (h1 : new.all Value.oneCell' = true) {w : World} (hw : Hp w0 L w) : AppX P w size (vsl b off k cap) k new := by
  refine ⟨rfl, ?_, h1, ?_⟩
  · simp only [vsl, Builtin.firstCells]
    rw [run_loadCells_row (hw.read hr) off (k * size) hn, ← hc]
  · rw [← hc]; simp; omega
theorem AppX.nil (P : Program) (w : World) (size : Nat) : AppX P w size (.slice none 0 0) 0 [] := ⟨rfl, rfl, rfl, by simp⟩

/-! ### Texts that are shared -/
theorem run_loadBytes {b : Nat} {E : TypeId} {fz : Nat × Nat} {arr : Array Value} {w : World} (hb : w.heap[b]? = some (.cells arr E fz)) : ∀ (l : List UInt8) (off : Nat) (acc : ByteArray), (∀ j, j < l.length → arr[off + j]? = some (v8 (l.getD j 0))) →
    (loadBytes ⟨b, off, none⟩ acc l.length).run P w = .ok (acc ++ ⟨l.toArray⟩) w
  | [], off, acc, _ => by
    show Result.ok acc w = _
    congr 1
    apply ByteArray.ext
    simp
  | x :: l, off, acc, h => by
    have h0 := h 0 (by simp)
    simp only [Nat.add_zero, List.getD_cons_zero] at h0
    have hc : w.cell? ⟨b, off, none⟩ = some (v8 x) := by rw [cell_of_row w b _ arr E fz hb]; exact h0
    have hld : (load ⟨b, off, none⟩).run P w = .ok (v8 x) w := by
      simp only [load, Sem.run, hc]
    rw [List.length_cons, loadBytes, Sem.run_bind, hld, Result.andThen_ok]
    simp only [v8, add_spot]
    have e : ((x.toNat : Int).toNat.toUInt8) = x := by
      rw [Int.toNat_natCast]
      exact UInt8.ofNat_toNat
    rw [e, run_loadBytes hb l (off + 1) _ (fun j hj => by
      have := h (j + 1) (by simpa using hj)
      rw [List.getD_cons_succ] at this
      rw [← this]; congr 1; omega)]
    congr 1
    apply ByteArray.ext
    simp

theorem lies_same {p : Program} {e : TypeId} {c n : Nat} (hd : 1 < p.depth) (hs : p.cellsOf e = 1) (hn : n ≤ c) : liesAt p p.depth e (c / p.cellsOf e) 0 e n = true := by
  obtain ⟨d, hd'⟩ : ∃ d, p.depth = d + 2 := ⟨p.depth - 2, by omega⟩
  have hsl : sameLayout p p.depth e e = true := by
    rw [hd']; unfold sameLayout; simp
  rw [hd'] at hsl ⊢
  unfold liesAt
  rw [hd']
  unfold rowAt
  simp [hs, hn, hsl]

theorem unsafeString_eq (ts : Array TypeId) (ty : TypeId) (a : Addr) (len_ : Value) : Builtin.unsafeString_ ts ty #[.pointer (some a), len_] = (do
    let n ← asInt len_
    let some pt := ts[0]? | stuck "unsafe.String: no argument types"
    if n < 0 then runtimePanic (.error "unsafe.String: len out of range")
    if n > IntKind.i64.max then unsupported (.unsafePointer "String: a length above the largest int")
    if n = 0 then pure (.string .empty)
    else if ← variablesAt a (← elemOf pt) n.toNat then do
      let s ← loadBytes a .empty n.toNat
      freeze a n.toNat
      pure (.string s)
    else unsupported (.unsafePointer "String: not so many bytes at ptr")) := (rfl)

theorem run_unsafeString {w : World} {pt it ty e : TypeId} {b : Nat} {l : List UInt8} {rest : List Value} (hw : Hp w0 L w) (hl : look L b = some (.cells (l.map v8 ++ rest).toArray e (0, 0))) (h0 : 0 < l.length) (hmax : (l.length : Int) ≤ 9223372036854775807)
    (hpt : P.underlying pt = some (.pointer e)) (hs : P.cellsOf e = 1) (hd : 1 < P.depth) :
    ∃ w', (Builtin.unsafeString_ #[pt, it] ty #[vp b 0, vi l.length]).run P w = .ok (vs l) w' ∧ Hp w0 (setB L b (.cells (l.map v8 ++ rest).toArray e (0, l.length))) w' := by
  have hb := hw.has _ _ (look_mem hl)
  have e1 : ∀ {α β : Type} (a : α) (f : α → World → Result β), (Sem.run P (pure a) w).andThen f = f a w := fun _ _ => rfl
  have hlb := run_loadBytes (P := P) hb l 0 .empty (by
    intro j hj
    rw [Nat.zero_add, List.getElem?_toArray, List.getElem?_append_left (by simpa using hj), List.getElem?_map, List.getD_eq_getElem?_getD, List.getElem?_eq_getElem hj]
    rfl)
  have hva : (variablesAt ⟨b, 0, none⟩ e l.length).run P w = .ok true w := by
    have hsh : w.shape? b = some (e, (l.map v8 ++ rest).toArray.size) := by
      simp only [World.shape?, hb]
    have hp : liesAt P P.depth e ((l.map v8 ++ rest).toArray.size / P.cellsOf e) 0 e l.length = true := lies_same hd hs (by simp)
    simp only [variablesAt, program, shape, Sem.run_bind]
    show Result.andThen (Result.ok P w) _ = _
    simp only [Result.andThen_ok]
    show Result.andThen (Result.ok (w.shape? b) w) _ = _
    rw [hsh]
    simp only [Result.andThen_ok]
    rw [hp]
    rfl
  have hel : (elemOf pt).run P w = .ok e w := by
    simp only [elemOf, Sem.run_bind, run_underlying hpt w, Result.andThen_ok]
    rfl
  refine ⟨w.freeze ⟨b, 0, none⟩ l.length, ?_, ?_⟩
  · have hn0 : ¬ ((l.length : Int) < 0) := by omega
    have hnm : ¬ ((l.length : Int) > IntKind.i64.max) := by
      show ¬ ((l.length : Int) > 9223372036854775807); omega
    have hnz : ¬ ((l.length : Int) = 0) := by omega
    have hai : (asInt (vi l.length)).run P w = .ok (l.length : Int) w := rfl
    rw [show vp b 0 = .pointer (some ⟨b, 0, none⟩) from rfl, unsafeString_eq]
    simp only [Sem.run_bind, hai, Result.andThen_ok, List.getElem?_toArray, List.getElem?_cons_zero, hn0, hnm, hnz, ↓reduceIte, hel, Int.toNat_natCast, hva, hlb]
    show Result.ok (Value.string (ByteArray.empty ++ ⟨l.toArray⟩)) _ = _
    congr 2
  · have hne : ¬ l.length = 0 := by omega
    have hlt := (Array.getElem?_eq_some_iff.1 hb).1
    refine hw.set (key_of_look hl) ?_ ?_ ?_ ?_ <;> simp only [World.freeze, hne, ↓reduceIte]
    apply Array.ext_getElem?
    intro i
    rw [Array.getElem?_modify]
    by_cases hi : b = i
    · subst hi
      rw [if_pos rfl, hb]
      simp [hlt]
    · rw [if_neg hi, Array.getElem?_setIfInBounds_ne hi]
end

section
variable {P : Program} {w0 : World} {f : Fr} {L : Heap} {N : Fr → Heap → Prop} {ops : Array Oper} {rest : List Oper} {md : Md}
  {d : Option Tmp} {ty : TypeId} {ps : String} {af : Array Edge} {g : Option (Nat × Bool)}

/-- What is appended to a slice that grows. -/
theorem Ow.append {ts tx e : TypeId} {m : Bool × Nat} {z : Value} {s x : Operand} {n k : Nat} {cs new : List Value} {dx : TypeDesc} {md' : Md} (sv : Value) (hsv : ev f s = sv) (he : md.turn = some md')
    (hs : skipped ops f ⟨d, .call ⟨.builtin .append, #[s, x], #[ts, tx]⟩, ty, ps, af, g⟩ = false)
    (hu : P.underlying ts = some (.slice e)) (hm : aggT P e = some m) (hi : bytesOk P e = true) (hz : zeroV P e = some z) (hzs : z.cells.size = m.2) (hux : P.underlying tx = some dx) (hnx : ∀ k, dx ≠ .int k)
    (hB : Buf L e m.2 sv n cs) (hX : ∀ w, Hp w0 L w → AppX P w m.2 (ev f x) k new) (hbig : 2 * (n + k) + 768 ≤ 2 ^ 38)
    (hn : ∀ v' L', Buf L' e m.2 v' (n + k) (cs ++ new) → Grew w0 sv L L' → (slB v' = slB sv ∨ ∃ c, slB v' = some c ∧ Above L c) → Ow P w0 ops md' rest (putF f d v') L' N) :
    Ow P w0 ops md (⟨d, .call ⟨.builtin .append, #[s, x], #[ts, tx]⟩, ty, ps, af, g⟩ :: rest) f L N := by
  subst hsv
  refine Ow.step he rfl hs fun w hw => ?_
  obtain ⟨v', w', L', hr, hp, hb, hg, hsl⟩ := run_append (ty := ty) hw hu hm hi hz hzs hux hnx hB hX hbig
  refine .inl ⟨v', w', L', ?_, hp, hn v' L' hb hg hsl⟩
  simp only [execOp, resolve, Sem.run_bind, Sem.run_pure, Result.andThen_ok, invoke, builtin, List.map_toArray, List.map_cons, List.map_nil]
  rw [hr]
  rfl

/-- The text that shares a slice's bytes. -/
theorem Ow.unsafeString {pt it e : TypeId} {x y : Operand} {b : Nat} {l : List UInt8} {rs : List Value} {md' : Md} (he : md.turn = some md')
    (hs : skipped ops f ⟨d, .call ⟨.builtin .unsafeString, #[x, y], #[pt, it]⟩, ty, ps, af, g⟩ = false)
    (hx : ev f x = vp b 0) (hy : ev f y = vi l.length) (hl : look L b = some (.cells (l.map v8 ++ rs).toArray e (0, 0))) (h0 : 0 < l.length) (hmax : (l.length : Int) ≤ 9223372036854775807)
    (hpt : P.underlying pt = some (.pointer e)) (hc : P.cellsOf e = 1) (hd : 1 < P.depth)
    (hn : Ow P w0 ops md' rest (putF f d (vs l)) (setB L b (.cells (l.map v8 ++ rs).toArray e (0, l.length))) N) :
    Ow P w0 ops md (⟨d, .call ⟨.builtin .unsafeString, #[x, y], #[pt, it]⟩, ty, ps, af, g⟩ :: rest) f L N := by
  refine Ow.step he rfl hs fun w hw => ?_
  obtain ⟨w', hr, hp⟩ := run_unsafeString (it := it) (ty := ty) hw hl h0 hmax hpt hc hd
  refine .inl ⟨vs l, w', _, ?_, hp, hn⟩
  simp only [execOp, resolve, Sem.run_bind, Sem.run_pure, Result.andThen_ok, invoke, builtin, List.map_toArray, List.map_cons, List.map_nil, hx, hy]
  rw [hr]
  rfl
/-- No text of no bytes. -/
theorem Ow.unsafeStringNil {pt it : TypeId} {x y : Operand} {md' : Md} (he : md.turn = some md')
    (hs : skipped ops f ⟨d, .call ⟨.builtin .unsafeString, #[x, y], #[pt, it]⟩, ty, ps, af, g⟩ = false)
    {p : Option Addr} (hx : ev f x = .pointer p) (hy : ev f y = vi 0)
    (hn : Ow P w0 ops md' rest (putF f d (vs [])) L N) :
    Ow P w0 ops md (⟨d, .call ⟨.builtin .unsafeString, #[x, y], #[pt, it]⟩, ty, ps, af, g⟩ :: rest) f L N := by
  refine Ow.step he rfl hs fun w hw => ?_
  refine .inl ⟨vs [], w, L, ?_, hw, hn⟩
  simp only [execOp, resolve, Sem.run_bind, Sem.run_pure, Result.andThen_ok, invoke, builtin, List.map_toArray, List.map_cons, List.map_nil, hx, hy]
  cases p <;> rfl
theorem Ow.sliceData {t : TypeId} {x : Operand} {v : Value} {md' : Md} (he : md.turn = some md')
    (hs : skipped ops f ⟨d, .call ⟨.builtin .unsafeSliceData, #[x], #[t]⟩, ty, ps, af, g⟩ = false)
    (hx : (∃ n c, ev f x = .slice none n c ∧ v = .pointer none) ∨ ∃ b n c, ev f x = vsl b 0 n c ∧ c ≠ 0 ∧ v = vp b 0)
    (hn : Ow P w0 ops md' rest (putF f d v) L N) :
    Ow P w0 ops md (⟨d, .call ⟨.builtin .unsafeSliceData, #[x], #[t]⟩, ty, ps, af, g⟩ :: rest) f L N := by
  refine Ow.step he rfl hs fun w hw => ?_
  refine .inl ⟨v, w, L, ?_, hw, hn⟩
  simp only [execOp, resolve, Sem.run_bind, Sem.run_pure, Result.andThen_ok, invoke, builtin, List.map_toArray, List.map_cons, List.map_nil]
  rcases hx with ⟨n, c, hx, rfl⟩ | ⟨b, n, c, hx, hc, rfl⟩
  · rw [hx]; rfl
  · rw [hx]
    have e : Builtin.unsafeSliceData_ #[t] ty #[vsl b 0 n c] = (if c ≠ 0 then pure (.pointer (some ⟨b, 0, none⟩)) else do
        if (← viewAt b).isSome then pure (.pointer (some ⟨b, 0, none⟩)) else pure (.pointer (some ⟨← newObj (.view ⟨b, 0, none⟩ (← elemOf ty)), 0, none⟩))) := rfl
    rw [e, if_pos hc]
    rfl
end
end Go.Sx
end
namespace Go.Sx
open Go
section
variable {P : Program} {w0 : World} {f : Fr} {L : Heap} {N : Fr → Heap → Prop} {ops : Array Oper} {rest : List Oper} {md : Md}
  {d : Option Tmp} {ty : TypeId} {ps : String} {af : Array Edge} {g : Option (Nat × Bool)}

theorem run_toUnsafe {w : World} {s dt t : TypeId} {b off : Nat} {m : Bool × Nat} {cs : Array Value} {E : TypeId} {fz : Nat × Nat} (hb : w.heap[b]? = some (.cells cs E fz)) (ho : off < cs.size) (hm : aggT P t = some m) (hm0 : m.2 ≠ 0)
    (hs : P.underlying s = some (.pointer t)) (hd : P.underlying dt = some .unsafePointer) : (convert s dt (vp b off)).run P w = .ok (vp b off) w := by
  have hsh : w.shape? b = some (E, cs.size) := by simp only [World.shape?, hb]
  have e1 : ∀ {α β : Type} (a : α) (f : α → World → Result β), (Sem.run P (pure a) w).andThen f = f a w := fun _ _ => rfl
  have e2 : (shape b).run P w = .ok (some (E, cs.size)) w := by show Result.ok (w.shape? b) w = _; rw [hsh]
  have hv : (Conv.seenAt ⟨b, off, none⟩).run P w = .ok ⟨b, off, none⟩ w := by
    simp only [Conv.seenAt, viewAt, Sem.run_bind, e2, Result.andThen_ok, Option.isSome_some, ↓reduceIte]
    rfl
  have hci : (cellsIn b).run P w = .ok (some cs.size) w := by
    simp only [cellsIn, Sem.run_bind, e2, Result.andThen_ok]
    rfl
  have hno : (decide (m.2 = 0) || decide (off ≥ cs.size) && (none : Option Nat).isNone) = false := by
    have : ¬ (off ≥ cs.size) := by omega
    simp [hm0, this]
  have hu : (Conv.unsafePointer s dt (vp b off)).run P w = .ok (vp b off) w := by
    simp only [Conv.unsafePointer, vp, Sem.run_bind, run_underlying hs w, run_underlying hd w, Result.andThen_ok, hv, hci, run_sizeOf hm w]
    rw [if_neg (by rw [hno]; simp)]
    rfl
  unfold convert
  simp only [vp, Sem.run_bind, run_underlying hs w, run_underlying hd w, Result.andThen_ok]
  exact hu

theorem run_ofUnsafe {w : World} {s dt t : TypeId} {b off : Nat} {m : Bool × Nat} {cs : Array Value} {E : TypeId} {fz : Nat × Nat} (hb : w.heap[b]? = some (.cells cs E fz)) (hm : aggT P t = some m) (hla : liesAt P P.depth E (cs.size / P.cellsOf E) off t 1 = true)
    (hs : P.underlying s = some .unsafePointer) (hd : P.underlying dt = some (.pointer t)) : (convert s dt (vp b off)).run P w = .ok (vp b off) w := by
  have hsh : w.shape? b = some (E, cs.size) := by simp only [World.shape?, hb]
  have e2 : (shape b).run P w = .ok (some (E, cs.size)) w := by show Result.ok (w.shape? b) w = _; rw [hsh]
  have hv : (Conv.seenAt ⟨b, off, none⟩).run P w = .ok ⟨b, off, none⟩ w := by
    simp only [Conv.seenAt, viewAt, Sem.run_bind, e2, Result.andThen_ok, Option.isSome_some, ↓reduceIte]
    rfl
  have hva : (variablesAt ⟨b, off, none⟩ t 1).run P w = .ok true w := by
    simp only [variablesAt, program, Sem.run_bind]
    show Result.andThen (Result.ok P w) _ = _
    simp only [Result.andThen_ok, e2]
    rw [hla]
    rfl
  have hu : (Conv.unsafePointer s dt (vp b off)).run P w = .ok (vp b off) w := by
    simp only [Conv.unsafePointer, vp, Sem.run_bind, run_underlying hs w, run_underlying hd w, Result.andThen_ok, hv, run_sizeOf hm w, hva]
    by_cases h0 : m.2 = 0
    · simp [h0]
    · simp [h0]
  unfold convert
  simp only [vp, Sem.run_bind, run_underlying hs w, run_underlying hd w, Result.andThen_ok]
  exact hu

theorem Ow.toUnsafe {s dt t : TypeId} {x : Operand} {b off : Nat} {m : Bool × Nat} {cs : Array Value} {E : TypeId} {fz : Nat × Nat} {md' : Md} (he : md.turn = some md') (hsk : skipped ops f ⟨d, .convert s dt x, ty, ps, af, g⟩ = false)
    (hcv : cvT P s dt = .no) (hx : ev f x = vp b off) (hb : readB w0 L b = some (.cells cs E fz)) (ho : off < cs.size) (hm : aggT P t = some m) (hm0 : m.2 ≠ 0) (hs : P.underlying s = some (.pointer t)) (hd : P.underlying dt = some .unsafePointer)
    (hn : Ow P w0 ops md' rest (putF f d (vp b off)) L N) : Ow P w0 ops md (⟨d, .convert s dt x, ty, ps, af, g⟩ :: rest) f L N := by
  refine Ow.step he (by simp [pureK, hcv]) hsk fun w hw => .inl ⟨vp b off, w, L, ?_, hw, hn⟩
  simp only [execOp, Sem.run_bind, hx, run_toUnsafe (hw.read hb) ho hm hm0 hs hd]
  rfl
theorem Ow.ofUnsafe {s dt t : TypeId} {x : Operand} {b off : Nat} {m : Bool × Nat} {cs : Array Value} {E : TypeId} {fz : Nat × Nat} {md' : Md} (he : md.turn = some md') (hsk : skipped ops f ⟨d, .convert s dt x, ty, ps, af, g⟩ = false)
    (hcv : cvT P s dt = .no) (hx : ev f x = vp b off) (hb : readB w0 L b = some (.cells cs E fz)) (hm : aggT P t = some m) (hla : liesAt P P.depth E (cs.size / P.cellsOf E) off t 1 = true) (hs : P.underlying s = some .unsafePointer) (hd : P.underlying dt = some (.pointer t))
    (hn : Ow P w0 ops md' rest (putF f d (vp b off)) L N) : Ow P w0 ops md (⟨d, .convert s dt x, ty, ps, af, g⟩ :: rest) f L N := by
  refine Ow.step he (by simp [pureK, hcv]) hsk fun w hw => .inl ⟨vp b off, w, L, ?_, hw, hn⟩
  simp only [execOp, Sem.run_bind, hx, run_ofUnsafe (hw.read hb) hm hla hs hd]
  rfl

theorem Ow.neqSame {t t' e : TypeId} {x y : Operand} {b off : Nat} {m : Bool × Nat} (hs : skipped ops f ⟨d, .binOp .neq t x y t', ty, ps, af, g⟩ = false) (hu : P.underlying t = some (.pointer e)) (hm : aggT P e = some m) (hx : ev f x = vp b off) (hy : ev f y = vp b off)
    (hn : Ow P w0 ops md.next rest (putF f d (.bool false)) L N) : Ow P w0 ops md (⟨d, .binOp .neq t x y t', ty, ps, af, g⟩ :: rest) f L N := by
  refine Ow.pureV rfl hs (fun w => ?_) hn
  have he : (Op.equal t (vp b off) (vp b off)).run P w = .ok true w := by
    show (Op.equalIn 10000 t (vp b off) (vp b off)).run P w = _
    unfold Op.equalIn
    simp only [vp, Sem.run_bind, run_underlying hu w, Result.andThen_ok, run_sizeOf hm w]
    by_cases h0 : m.2 = 0
    · simp [h0]
    · simp only [h0, ne_eq, not_false_eq_true, ↓reduceIte, sameAddr, beq_self_eq_true]
      rfl
  simp only [execOp, Sem.run_bind, hx, hy]
  have hg : (eqGuard .neq t x y (vp b off) (vp b off)).run P w = .ok () w := rfl
  have hb : binOp .neq t (vp b off) (vp b off) = (do pure (.bool (!(← Op.equal t (vp b off) (vp b off)))) : Sem Value) := rfl
  rw [hg, Result.andThen_ok, hb, Sem.run_bind, he]
  rfl

theorem read_setB_ne {w0 : World} {L : Heap} {b c : Nat} {x : Obj} (h : b ≠ c) : readB w0 (setB L b x) c = readB w0 L c := by
  unfold readB; rw [look_setB_ne h]

/-- A callee without a body, by its run. -/
theorem Ow.callExt {l : List Operand} {ts : Array TypeId} {k : FuncId} {v : Value} {md' : Md} (he : md.turn = some md')
    (hs : skipped ops f ⟨d, .call ⟨.value (.func k), l.toArray, ts⟩, ty, ps, af, g⟩ = false)
    (hv : ∀ w, (callFunc k (l.map (ev f)).toArray).run P w = .ok (.value v) w)
    (hn : Ow P w0 ops md' rest (putF f d v) L N) :
    Ow P w0 ops md (⟨d, .call ⟨.value (.func k), l.toArray, ts⟩, ty, ps, af, g⟩ :: rest) f L N := by
  refine Ow.step he rfl hs fun w hw => .inl ⟨v, w, L, ?_, hw, hn⟩
  have := hv w
  simp only [execOp, resolve, Deferred.ofValue, ev, Sem.run_bind, Sem.run_pure, Result.andThen_ok, invoke]
  simpa using this

theorem Ow.minI {x y : Operand} {ts : Array TypeId} {a b : Int} (hs : skipped ops f ⟨d, .call ⟨.builtin .min, #[x, y], ts⟩, ty, ps, af, g⟩ = false) (hx : ev f x = vi a) (hy : ev f y = vi b)
    (hn : Ow P w0 ops md.next rest (putF f d (vi (if b < a then b else a))) L N) : Ow P w0 ops md (⟨d, .call ⟨.builtin .min, #[x, y], ts⟩, ty, ps, af, g⟩ :: rest) f L N := by
  refine Ow.calm rfl rfl hs (fun w hw => .inl ⟨vi (if b < a then b else a), w, L, ?_, hw, rfl, rfl⟩) hn
  simp only [execOp, resolve, Sem.run_bind, Sem.run_pure, Result.andThen_ok, invoke, builtin, List.map_toArray, List.map_cons, List.map_nil, hx, hy]
  rfl
theorem Ow.maxI {x y : Operand} {ts : Array TypeId} {a b : Int} (hs : skipped ops f ⟨d, .call ⟨.builtin .max, #[x, y], ts⟩, ty, ps, af, g⟩ = false) (hx : ev f x = vi a) (hy : ev f y = vi b)
    (hn : Ow P w0 ops md.next rest (putF f d (vi (if b > a then b else a))) L N) : Ow P w0 ops md (⟨d, .call ⟨.builtin .max, #[x, y], ts⟩, ty, ps, af, g⟩ :: rest) f L N := by
  refine Ow.calm rfl rfl hs (fun w hw => .inl ⟨vi (if b > a then b else a), w, L, ?_, hw, rfl, rfl⟩) hn
  simp only [execOp, resolve, Sem.run_bind, Sem.run_pure, Result.andThen_ok, invoke, builtin, List.map_toArray, List.map_cons, List.map_nil, hx, hy]
  rfl
end

/-! ### Chunks: some known blocks are handed to a callee, and more come back -/
/-- All blocks of the chunk are told, and none but new ones beside. -/
structure Ext (w : World) (X D : Heap) : Prop where
  new : ∀ c, c ∈ keys D → c ∈ keys X ∨ w.heap.size ≤ c
  all : ∀ c, c ∈ keys X → c ∈ keys D
theorem Ext.refl (w : World) (X : Heap) : Ext w X X := ⟨fun _ h => .inl h, fun _ h => h⟩
theorem Ext.setB {w : World} {X D : Heap} {b : Nat} {o : Obj} (h : Ext w X D) : Ext w X (setB D b o) := ⟨fun c hc => h.new c (by rwa [keys_setB] at hc), fun c hc => by rw [keys_setB]; exact h.all c hc⟩
theorem Ext.app {w : World} {X D : Heap} {b : Nat} {o : Obj} (h : Ext w X D) (hb : w.heap.size ≤ b) : Ext w X (D ++ [(b, o)]) :=
  ⟨fun c hc => by
    rw [keys_app] at hc
    rcases List.mem_append.1 hc with hc | hc
    · exact h.new c hc
    · simp only [keys, List.map_cons, List.map_nil, List.mem_singleton] at hc
      exact .inr (hc ▸ hb), fun c hc => by rw [keys_app]; exact List.mem_append_left _ (h.all c hc)⟩
theorem Ext.grew {w : World} {X D D' : Heap} {v : Value} (h : Ext w X D) (hg : Grew w v D D') : Ext w X D' :=
  ⟨fun c hc => by
    rcases hg.new c hc with hc | ⟨-, hc⟩
    · exact h.new c hc
    · exact .inr hc, fun c hc => hg.keys c (h.all c hc)⟩
theorem Ext.keys {w : World} {X D D' : Heap} (h : Ext w X D) (hk : Sx.keys D' = Sx.keys D) : Ext w X D' := ⟨fun c hc => h.new c (hk ▸ hc), fun c hc => hk ▸ h.all c hc⟩

theorem read_none {w0 : World} {L : Heap} {b : Nat} (h : b ∉ Sx.keys L) : readB w0 L b = w0.heap[b]? := by
  unfold readB
  cases hl : look L b with
  | none => rfl
  | some o => exact absurd (key_of_look hl) h
theorem Ext.not {w : World} {X D : Heap} (h : Ext w X D) {b : Nat} (hb : b < w.heap.size) (hn : b ∉ Sx.keys X) : b ∉ Sx.keys D := fun hm => by
  rcases h.new b hm with h | h
  · exact hn h
  · omega
theorem Ext.old {w : World} {X D : Heap} (h : Ext w X D) {b : Nat} {o : Obj} (hb : w.heap[b]? = some o) (hn : b ∉ Sx.keys X) : readB w D b = some o := by
  rw [read_none (h.not (Array.getElem?_eq_some_iff.1 hb).1 hn)]; exact hb

/-- Behind a call: all blocks of the chunk are told anew, and none but new ones come to them. -/
def XS (w : World) (X : Heap) (S : Value → Heap → Prop) (v : Value) (D : Heap) : Prop := Ext w X D ∧ S v D

/-- What a callee leaves of a chunk that was handed to it, where L was known. -/
structure Came (w0 : World) (L X D : Heap) : Prop where
  new : ∀ c, c ∈ Sx.keys D → c ∈ Sx.keys X ∨ (Above L c ∧ w0.heap.size ≤ c)
  all : ∀ c, c ∈ Sx.keys X → c ∈ Sx.keys D
theorem Ext.came {w : World} {X D D' Y L : Heap} (h : Ext w X (D ++ Y)) (hc : Came w L D D') : Ext w X (D' ++ Y) := by
  refine ⟨fun c hm => ?_, fun c hm => ?_⟩
  · rw [keys_app] at hm
    rcases List.mem_append.1 hm with hm | hm
    · rcases hc.new c hm with hm | ⟨-, hm⟩
      · exact h.new c (by rw [keys_app]; exact List.mem_append_left _ hm)
      · exact .inr hm
    · exact h.new c (by rw [keys_app]; exact List.mem_append_right _ hm)
  · have := h.all c hm
    rw [keys_app] at this ⊢
    rcases List.mem_append.1 this with hm | hm
    · exact List.mem_append_left _ (hc.all c hm)
    · exact List.mem_append_right _ hm
theorem Ext.came0 {w : World} {X D D' L : Heap} (h : Ext w X D) (hc : Came w L D D') : Ext w X D' := by
  have := Ext.came (Y := []) (by simpa using h) hc
  simpa using this

theorem Hp.ownX {w0 w : World} {X : Heap} (h : Hp w0 [] w) (hX : ∀ p, p ∈ X → w0.heap[p.1]? = some p.2) (hn : (keys X).Nodup) : Hp w0 X w := by
  refine ⟨fun b o hm => ?_, hn, fun b hb _ => h.old b hb (by simp [keys]), h.size, h.tape, h.os, h.output⟩
  have := hX (b, o) hm
  simp only at this
  rw [h.old b (Array.getElem?_eq_some_iff.1 this).1 (by simp [keys])]
  exact this

theorem Rets.enterX {P : Program} {k : FuncId} {fn : Func} {c : Code} {rs : List ResultVar} {args : Array Value} {w : World} {S : Value → Heap → Prop} {n : Nat} {X : Heap}
    (hf : P.funcs[k]? = some fn) (hb : fn.body = some c) (hr : fn.results = rs.toArray) (hn : fn.ntmps = n) (hX : ∀ p, p ∈ X → w.heap[p.1]? = some p.2) (hnd : (keys X).Nodup)
    (h : Cw P w c (args.toList ++ List.replicate (n - args.size) undef) X (retK P w rs (XS w X S))) : Rets P k args w (XS w X S) :=
  Rets.enter hf hb hr hn fun w' hw' => h w' (hw'.ownX hX hnd)

section
variable {P : Program} {w0 : World} {f : Fr} {L : Heap} {N : Fr → Heap → Prop} {ops : Array Oper} {rest : List Oper} {md : Md}
  {d : Option Tmp} {ty : TypeId} {ps : String} {af : Array Edge} {g : Option (Nat × Bool)}

/-- A callee to which a chunk is handed. -/
theorem Ow.callX {l : List Operand} {ts : Array TypeId} {k : FuncId} {X Y : Heap} {S : Value → Heap → Prop} {md' : Md} (hL : L = X ++ Y) (he : md.turn = some md')
    (hs : skipped ops f ⟨d, .call ⟨.value (.func k), l.toArray, ts⟩, ty, ps, af, g⟩ = false)
    (hk : ∀ a w, (callFunc k a).run P w = .ok (.enter k a) w)
    (hc : ∀ w, Hp w0 L w → (∀ p, p ∈ X → w.heap[p.1]? = some p.2) → (keys X).Nodup → Rets P k (l.map (ev f)).toArray w (XS w X S))
    (hn : ∀ v D, Came w0 L X D → S v D → Ow P w0 ops md' rest (putF f d v) (D ++ Y) N) :
    Ow P w0 ops md (⟨d, .call ⟨.value (.func k), l.toArray, ts⟩, ty, ps, af, g⟩ :: rest) f L N := by
  subst hL
  have hnd : ∀ w, Hp w0 (X ++ Y) w → (keys X).Nodup ∧ ∀ c, c ∈ keys Y → c ∉ keys X := by
    intro w hw
    have := hw.nodup
    rw [keys_app, List.nodup_append] at this
    exact ⟨this.1, fun c hc hx => this.2.2 c hx c hc rfl⟩
  refine Ow.callF (S := fun B v D => ((∀ c, c ∈ keys D → c ∈ keys X ∨ B ≤ c) ∧ (∀ c, c ∈ keys X → c ∈ keys D) ∧ S v D) ∧ ∃ w, Hp w0 (X ++ Y) w ∧ w.heap.size = B) he hs hk (fun w hw => ?_) ?_
  · refine Calls.mono (hc w hw (fun p hp => hw.has _ _ (List.mem_append_left _ hp)) (hnd w hw).1) ?_
    rintro e w' ⟨v, D, he, hp, hS⟩
    exact ⟨v, D, he, hp, ⟨hS.1.new, hS.1.all, hS.2⟩, w, hw, rfl⟩
  · rintro B v D hab hB ⟨⟨h1, h2, h3⟩, w1, hw1, hwB⟩
    refine ⟨D ++ Y, ?_, hn v D ⟨fun c hc => (h1 c hc).imp id fun h => ⟨above_of fun b hb => by have := hw1.lt hb; omega, by have := hw1.size; omega⟩, h2⟩ h3⟩
    intro w w' hwb h k
    have ht := h.trans k
    have hY : ∀ c, c ∈ keys Y → c ∉ keys D := by
      intro c hc hd
      rcases h1 c hd with hx | hx
      · exact (hnd w h).2 c hc hx
      · have := h.lt (b := c) (by rw [keys_app]; exact List.mem_append_right _ hc)
        omega
    have e1 : X.filter (fun p => !(keys D).contains p.1) = [] := by
      rw [List.filter_eq_nil_iff]
      intro p hp
      have := h2 p.1 (List.mem_map.2 ⟨p, hp, rfl⟩)
      simpa using this
    have e2 : Y.filter (fun p => !(keys D).contains p.1) = Y := filter_keys_all hY
    rw [List.filter_append, e1, e2, List.nil_append] at ht
    refine ht.same (fun p => by simp [or_comm]) ?_
    have := ht.nodup
    rw [keys_app] at this ⊢
    exact (List.perm_append_comm.nodup_iff).1 this
end

/-! ### Slices whose elements have one cell -/
structure OneS {α : Type} (enc : α → Value) (z : α) (w : World) (v : Value) (l : List α) (b off : Nat) (arr : Array Value) (E : TypeId) (fz : Nat × Nat) : Prop where
  len : ∀ m, lenV (.sl m) v = some (vi l.length)
  idx : ∀ m (k : Nat), k < l.length → indexAddrV (.sl m) v (some (k : Int)) = some (vp b (off + k * m.2))
  has : 0 < l.length → w.heap[b]? = some (.cells arr E fz)
  get : ∀ k, k < l.length → arr[off + k]? = some (enc (l.getD k z))
theorem OneS.sl {α : Type} {enc : α → Value} {z : α} {w : World} {l : List α} {b off n c : Nat} {arr : Array Value} {E : TypeId} {fz : Nat × Nat} (hn : n = l.length)
    (has : w.heap[b]? = some (.cells arr E fz)) (get : ∀ k, k < l.length → arr[off + k]? = some (enc (l.getD k z))) : OneS enc z w (vsl b off n c) l b off arr E fz := by
  subst hn
  exact ⟨fun _ => rfl, fun m k h => by rw [indexAddr_sl _ _ _ _ _ _ (by omega)]; simp, fun _ => has, get⟩
theorem OneS.lit {α : Type} {enc : α → Value} {z : α} {w : World} {b n c : Nat} {E : TypeId} {fz : Nat × Nat} {arr : Array Value} (l : List α) (hn : n = l.length) (ha : arr = (l.map enc).toArray) (has : w.heap[b]? = some (.cells arr E fz)) : OneS enc z w (vsl b 0 n c) l b 0 arr E fz :=
  OneS.sl hn has (by intro k hk; rw [ha, Nat.zero_add, List.getElem?_toArray, List.getElem?_map, List.getD_eq_getElem?_getD, List.getElem?_eq_getElem hk]; rfl)
theorem setB_new {L : Heap} {b : Nat} {o x : Obj} (h : Above L b) : setB (L ++ [(b, o)]) b x = L ++ [(b, x)] := by
  induction L with
  | nil => simp [setB]
  | cons p r ih =>
    obtain ⟨c, y⟩ := p
    simp only [List.cons_append, setB]
    rw [if_neg (fun e => Nat.lt_irrefl _ (e ▸ h.1)), ih h.2]

/-! ### Slices whose elements have some cells -/
structure RowS {α : Type} (m : Nat) (enc : α → List Value) (z : α) (w : World) (v : Value) (l : List α) (b off : Nat) (arr : Array Value) (E : TypeId) (fz : Nat × Nat) : Prop where
  len : ∀ x, lenV (.sl x) v = some (vi l.length)
  idx : ∀ a (k : Nat), k < l.length → indexAddrV (.sl (a, m)) v (some (k : Int)) = some (vp b (off + k * m))
  has : 0 < l.length → w.heap[b]? = some (.cells arr E fz)
  get : ∀ k, k < l.length → ∀ j, j < m → arr[off + k * m + j]? = (enc (l.getD k z))[j]?
theorem RowS.sl {α : Type} {m : Nat} {enc : α → List Value} {z : α} {w : World} {l : List α} {b off n c : Nat} {arr : Array Value} {E : TypeId} {fz : Nat × Nat} (hn : n = l.length)
    (has : w.heap[b]? = some (.cells arr E fz)) (get : ∀ k, k < l.length → ∀ j, j < m → arr[off + k * m + j]? = (enc (l.getD k z))[j]?) : RowS m enc z w (vsl b off n c) l b off arr E fz := by
  subst hn
  exact ⟨fun _ => rfl, fun a k h => by rw [indexAddr_sl _ _ _ _ _ _ (by omega)]; simp, fun _ => has, get⟩
theorem RowS.nil {α : Type} {m : Nat} {enc : α → List Value} {z : α} (w : World) (n c : Nat) (hn : n = 0) : RowS m enc z w (.slice none n c) [] 0 0 #[] 0 (0, 0) := by
  subst hn
  exact ⟨fun _ => rfl, fun _ _ h => absurd h (Nat.not_lt_zero _), fun h => absurd h (Nat.not_lt_zero _), fun _ h => absurd h (Nat.not_lt_zero _)⟩
/-- One element as a whole. -/
theorem RowS.load {α : Type} {m : Nat} {enc : α → List Value} {z : α} {w : World} {v : Value} {l : List α} {b off : Nat} {arr : Array Value} {E : TypeId} {fz : Nat × Nat} (h : RowS m enc z w v l b off arr E fz) (hm : ∀ x, (enc x).length = m) (h0 : 0 < m) {k : Nat} (hk : k < l.length) :
    loadV (some (true, m)) (some (.cells arr E fz)) (off + k * m) = some (.agg (enc (l.getD k z)).toArray) := by
  have hg := h.get k hk
  have hsz : off + k * m + m ≤ arr.size := by
    have h1 := hg (m - 1) (by omega)
    rw [List.getElem?_eq_getElem (by rw [hm]; omega)] at h1
    have := (Array.getElem?_eq_some_iff.1 h1).1
    omega
  simp only [loadV, hsz, ↓reduceIte]
  congr 2
  apply Array.ext_getElem?
  intro j
  rw [Array.getElem?_extract]
  by_cases hj : j < m
  · rw [if_pos (by omega), hg j hj, List.getElem?_toArray]
  · rw [if_neg (by omega), List.getElem?_toArray, List.getElem?_eq_none (by rw [hm]; omega)]
/-- A cell of an element. -/
theorem RowS.cell {α : Type} {m : Nat} {enc : α → List Value} {z : α} {w : World} {v : Value} {l : List α} {b off : Nat} {arr : Array Value} {E : TypeId} {fz : Nat × Nat} (h : RowS m enc z w v l b off arr E fz) {k j n : Nat} (hk : k < l.length) (hj : j < m) :
    loadV (some (false, n)) (some (.cells arr E fz)) (off + k * m + j) = (enc (l.getD k z))[j]? := h.get k hk j hj
end Go.Sx
namespace Go.Sx
open Go
theorem lenS {α : Type} : (∀ (a : α) (l : List α), (a :: l).length = l.length + 1) ∧ ([] : List α).length = 0 ∧ (∀ (l : List α) (i : Nat) (a : α), (l.set i a).length = l.length) ∧ (∀ (l m : List α), (l ++ m).length = l.length + m.length) ∧
    (∀ (n : Nat) (a : α), (List.replicate n a).length = n) ∧ (∀ (n : Nat) (l : List α), (l.take n).length = min n l.length) ∧ (∀ (n : Nat) (l : List α), (l.drop n).length = l.length - n) ∧ ∀ {β : Type} (f : α → β) (l : List α), (l.map f).length = l.length :=
  ⟨fun _ _ => List.length_cons, List.length_nil, fun _ _ _ => List.length_set, fun _ _ => List.length_append, fun _ _ => List.length_replicate, fun _ _ => List.length_take, fun _ _ => List.length_drop, fun _ _ => List.length_map ..⟩
theorem lenT : (∀ n : Nat, ((n : Int)).toNat = n) ∧ (∀ l : List UInt8, (a8 l).size = l.length) ∧ (∀ l : List UInt32, (a32 l).size = l.length) ∧ (∀ p : Prop, (p ∧ p) = p) ∧ (∀ p : Prop, (p ∧ True) = p) ∧ ∀ p : Prop, (True ∧ p) = p :=
  ⟨Int.toNat_natCast, size_a8, size_a32, fun _ => and_self _, fun _ => and_true _, fun _ => true_and _⟩
/-- What is not looked into by simp: another argument's type names it. -/
inductive Tag {α : Type} (x : α) : Type
  | mk : Tag x
/-- What follows in a row. -/
def seqN (F : Fr → Heap → Kont → Prop) (K : Kont) (f : Fr) (L : Heap) : Prop := F f L K
/-- A branch: what is left if it can't be told which way. -/
def cdC (v : Value) (A B S : Prop) (_ : Tag (A, B, S)) : Prop :=
  match v with
  | .bool true => A
  | .bool false => B
  | _ => S
/-- What stands as it is. -/
abbrev CwS (P : Program) (w0 : World) (c : Code) (f : Fr) (L : Heap) (K : Kont) (_ : Tag (c, K)) : Prop := Cw P w0 c f L K
abbrev OwS (P : Program) (w0 : World) (ops : Array Oper) (md : Md) (l : List Oper) (f : Fr) (L : Heap) (N : Fr → Heap → Prop) (_ : Tag (ops, l, N)) : Prop := Ow P w0 ops md l f L N
def bsK (K : Kont) (e : Exit) (f : Fr) (L : Heap) : Dep K := K e f L
def bsN (N : Fr → Heap → Prop) (f : Fr) (L : Heap) : Dep N := N f L
abbrev bsR (K : Kont) (e : Exit) (f : Fr) (L : Heap) (_ : Tag K) : Prop := K e f L
abbrev bsM (N : Fr → Heap → Prop) (f : Fr) (L : Heap) (_ : Tag N) : Prop := N f L
/-- Behind a row of operations. -/
def owk (P : Program) (w0 : World) (ops : Array Oper) (N : Fr → Heap → Prop) (md : Md) (l : List Oper) (f : Fr) (L : Heap) : Dep (ops, N) :=
  match l with
  | [] => N f L
  | o :: r => Ow P w0 ops md (o :: r) f L N
/-- The first region of a row. -/
def fid : Code → Nat
  | .seq a _ => fid a
  | .region i _ _ => i
  | .block _ c => fid c
  | .loop c => fid c
  | .scope c => fid c
  | _ => 500000
def stopS (z : List Nat) (c : Code) : Bool := match z with
  | [] => false
  | k :: r => (k == 1000000 + fid c) || stopS r c
/-- 'z': the regions that are left as they stand; 1000000 and a region's number: the row that it begins is. -/
def vcC (P : Program) (w0 : World) (z : List Nat) : Code → Fr → Heap → Kont → Prop
  | .seq x y, f, L, K => ib (stopS z (.seq x y)) (CwS P w0 (.seq x y) f L K .mk) (vcC P w0 z x f L (thenK (seqN (fun f L K => ib (z.contains 999999) (CwS P w0 y f L K .mk) (vcC P w0 z y f L K)) K) K))
  | .skip, f, L, K => K .normal f L
  | .exit i, f, L, K => K (.exit i) f L
  | .goto i, f, L, K => K (.goto i) f L
  | .ret, f, L, K => K .ret f L
  | .label l, f, L, K => ib (z.contains 999999) (Cw P w0 (.label l) f L K) (K .normal f L)
  | .block id c, f, L, K => vcC P w0 z c f L (blockK id K)
  | .cond c x y, f, L, K => ∃ b, ev f c = .bool b ∧ (b = true → vcC P w0 z x f L K) ∧ (b = false → vcC P w0 z y f L K)
  | .region id ops false, f, L, K => ib (z.contains id) (Cw P w0 (.region id ops false) f L K) (vcL P w0 ops true .seq ops.toList f L (owk P w0 ops (K .normal)))
  | c, f, L, K => Cw P w0 c f L K
section
variable {P : Program} {w0 : World} {f : Fr} {L : Heap} {K : Kont} {N : Fr → Heap → Prop} {ops : Array Oper} {md : Md} {l : List Oper}
theorem owk_ow (h : owk P w0 ops N md l f L) : Ow P w0 ops md l f L N := by
  cases l with
  | nil => exact Ow.nil h
  | cons o r => exact h
theorem Ow.go (he : md.eff = true) (h : vcL P w0 ops true md l f L (owk P w0 ops (bsN N))) : Ow P w0 ops md l f L N :=
  vcL_sound _ (fun _ _ _ _ h => owk_ow h) true l md f L (fun _ => he) h
theorem Ow.goQ (h : vcL P w0 ops false md l f L (owk P w0 ops (bsN N))) : Ow P w0 ops md l f L N :=
  vcL_sound _ (fun _ _ _ _ h => owk_ow h) false l md f L (fun e => by cases e) h
theorem vcC_sound {z : List Nat} : ∀ (c : Code) {f : Fr} {L : Heap} {K : Kont}, vcC P w0 z c f L K → Cw P w0 c f L K
  | .seq x y, f, L, K, h => by
      unfold vcC at h
      cases hs : stopS z (.seq x y) with
      | true => rw [hs] at h; exact h
      | false =>
        rw [hs] at h
        refine Cw.seq ((vcC_sound x h).mono fun e f L k => ?_)
        cases e with
        | normal =>
          have k' : ib (z.contains 999999) (CwS P w0 y f L K .mk) (vcC P w0 z y f L K) := k
          cases hz : z.contains 999999 with
          | true => rw [hz] at k'; exact k'
          | false => rw [hz] at k'; exact vcC_sound y k'
        | _ => exact k
  | .skip, _, _, _, h => Cw.skip h
  | .exit _, _, _, _, h => Cw.exit h
  | .goto _, _, _, _, h => Cw.goto h
  | .ret, _, _, _, h => Cw.ret h
  | .label l, _, _, _, h => by
      unfold vcC at h
      cases hz : z.contains 999999 with
      | true => rw [hz] at h; exact h
      | false => rw [hz] at h; exact Cw.label h
  | .block id c, _, _, _, h => Cw.block (vcC_sound c h)
  | .cond c x y, _, _, _, ⟨b, hb, h1, h2⟩ => Cw.cond hb (fun e => vcC_sound x (h1 e)) (fun e => vcC_sound y (h2 e))
  | .region id ops false, f, L, K, h => by
      obtain ⟨l⟩ := ops
      unfold vcC at h
      cases hz : z.contains id with
      | true => rw [hz] at h; exact h
      | false => rw [hz] at h; exact Cw.region (Ow.go rfl h)
  | .region _ _ true, _, _, _, h => h
  | .loop _, _, _, _, h => h
  | .rangeFunc _ _ _ _, _, _, _, h => h
  | .scope _, _, _, _, h => h
  | .refuse _, _, _, _, h => h
end
/-- Codes that the rewriting takes. -/
class Steps (c : Code) : Prop
instance {x y : Code} : Steps (.seq x y) := ⟨⟩
instance : Steps .skip := ⟨⟩
instance {i : Nat} : Steps (.exit i) := ⟨⟩
instance {i : Nat} : Steps (.goto i) := ⟨⟩
instance : Steps .ret := ⟨⟩
instance {i : Nat} {c : Code} : Steps (.block i c) := ⟨⟩
instance {c : Operand} {x y : Code} : Steps (.cond c x y) := ⟨⟩
instance {i : Nat} {ops : Array Oper} : Steps (.region i ops false) := ⟨⟩
theorem Cw.go {P : Program} {w0 : World} {c : Code} {f : Fr} {L : Heap} {K : Kont} (z : List Nat) [Steps c] (h : vcC P w0 z c f L (bsK K)) : Cw P w0 c f L K := vcC_sound c h

@[congr] theorem cdC_congr {v v' : Value} {A B S : Prop} {t : Tag (A, B, S)} (h : v = v') : cdC v A B S t = cdC v' A B S t := by rw [h]
/-! ### The rules -/
section
variable (P : Program) (w0 : World) (z : List Nat) (f : Fr) (L : Heap) (K : Kont) (N : Fr → Heap → Prop) (ops : Array Oper) (md : Md)
theorem vcC_seq0 (x y : Code) : vcC P w0 [] (.seq x y) f L K = vcC P w0 [] x f L (thenK (seqN (fun f L K => vcC P w0 [] y f L K) K) K) := (rfl)
theorem vcC_seq1 (k : Nat) (z : List Nat) (x y : Code) : vcC P w0 (k :: z) (.seq x y) f L K = ib (stopS (k :: z) (.seq x y)) (CwS P w0 (.seq x y) f L K .mk) (vcC P w0 (k :: z) x f L (thenK (seqN (fun f L K => ib ((k :: z).contains 999999) (CwS P w0 y f L K .mk) (vcC P w0 (k :: z) y f L K)) K) K)) := (rfl)
theorem vcC_skip : vcC P w0 z .skip f L K = K .normal f L := (rfl)
theorem vcC_exit (i : Nat) : vcC P w0 z (.exit i) f L K = K (.exit i) f L := (rfl)
theorem vcC_goto (i : Nat) : vcC P w0 z (.goto i) f L K = K (.goto i) f L := (rfl)
theorem vcC_ret : vcC P w0 z .ret f L K = K .ret f L := (rfl)
theorem vcC_label (i : Nat) : vcC P w0 z (.label i) f L K = ib (z.contains 999999) (CwS P w0 (.label i) f L K .mk) (K .normal f L) := (rfl)
theorem vcC_block (i : Nat) (c : Code) : vcC P w0 z (.block i c) f L K = vcC P w0 z c f L (blockK i K) := (rfl)
theorem vcC_cond (c : Operand) (x y : Code) : vcC P w0 z (.cond c x y) f L K = cdC (ev f c) (vcC P w0 z x f L K) (vcC P w0 z y f L K) (vcC P w0 z (.cond c x y) f L K) .mk := by
  unfold cdC
  split
  · rename_i h; simp [vcC, h]
  · rename_i h; simp [vcC, h]
  · rfl
theorem vcC_region (i : Nat) (l : List Oper) : vcC P w0 z (.region i l.toArray false) f L K = ib (z.contains i) (CwS P w0 (.region i l.toArray false) f L K .mk) (vcL P w0 l.toArray true .seq l f L (owk P w0 l.toArray (K .normal))) := (rfl)
theorem vcC_drawn (i : Nat) (ops : Array Oper) : vcC P w0 z (.region i ops true) f L K = CwS P w0 (.region i ops true) f L K .mk := (rfl)
theorem vcC_loop (c : Code) : vcC P w0 z (.loop c) f L K = CwS P w0 (.loop c) f L K .mk := (rfl)
theorem vcC_scope (c : Code) : vcC P w0 z (.scope c) f L K = CwS P w0 (.scope c) f L K .mk := (rfl)
theorem vcC_range (x : Operand) (p : Array Tmp) (a c : Code) : vcC P w0 z (.rangeFunc x p a c) f L K = CwS P w0 (.rangeFunc x p a c) f L K .mk := (rfl)
theorem seqN_eq (F : Fr → Heap → Kont → Prop) : bsN (seqN F K) f L = F f L K := (rfl)
theorem bsN_k (e : Exit) : bsN (K e) f L = bsK K e f L := (rfl)
theorem bsN_cw (c : Code) : bsN (fun f L => Cw P w0 c f L K) f L = CwS P w0 c f L K .mk := (rfl)
theorem thenK_n : thenK N K .normal f L = bsN N f L := (rfl)
theorem thenK_e (i : Nat) : thenK N K (.exit i) f L = K (.exit i) f L := (rfl)
theorem thenK_g (i : Nat) : thenK N K (.goto i) f L = K (.goto i) f L := (rfl)
theorem thenK_r : thenK N K .ret f L = K .ret f L := (rfl)
theorem blockK_n (i : Nat) : blockK i K .normal f L = K .normal f L := (rfl)
theorem blockK_g (i j : Nat) : blockK i K (.goto j) f L = K (.goto j) f L := (rfl)
theorem blockK_r (i : Nat) : blockK i K .ret f L = K .ret f L := (rfl)
theorem blockK_e (i j : Nat) : blockK i K (.exit j) f L = ib (j == i) (K .normal f L) (K (.exit j) f L) := by
  by_cases h : j = i
  · have e : (j == i) = true := beq_iff_eq.2 h
    rw [e]
    simp [blockK, ib, h]
  · have e : (j == i) = false := beq_eq_false_iff_ne.2 h
    rw [e]
    simp [blockK, ib, h]
theorem scopeK_n (A : Nat → Fr → Heap → Prop) : scopeK A K .normal f L = K .normal f L := (rfl)
theorem scopeK_e (A : Nat → Fr → Heap → Prop) (i : Nat) : scopeK A K (.exit i) f L = K (.exit i) f L := (rfl)
theorem scopeK_g (A : Nat → Fr → Heap → Prop) (i : Nat) : scopeK A K (.goto i) f L = bsN (A i) f L := (rfl)
theorem scopeK_r (A : Nat → Fr → Heap → Prop) : scopeK A K .ret f L = K .ret f L := (rfl)
theorem owk_nil : owk P w0 ops N md [] f L = bsN N f L := (rfl)
theorem bsK_out (e : Exit) : bsK K e f L = bsR K e f L .mk := (rfl)
theorem bsN_out : bsN N f L = bsM N f L .mk := (rfl)
theorem bsN_bs : bsN (bsN N) f L = bsN N f L := (rfl)
theorem bsK_bs (e : Exit) : bsK (bsK K) e f L = bsK K e f L := (rfl)
theorem bsK_then (e : Exit) : bsK (thenK N K) e f L = thenK N (bsK K) e f L := by cases e <;> rfl
theorem bsK_block (i : Nat) (e : Exit) : bsK (blockK i K) e f L = blockK i (bsK K) e f L := by cases e <;> rfl
theorem bsK_scope (A : Nat → Fr → Heap → Prop) (e : Exit) : bsK (scopeK A K) e f L = scopeK A (bsK K) e f L := by cases e <;> rfl
theorem owk_cons (o : Oper) (r : List Oper) : owk P w0 ops N md (o :: r) f L = OwS P w0 ops md (o :: r) f L N .mk := (rfl)
end
section
variable (A B S : Prop) (t : Tag (A, B, S))
theorem cd_tt : cdC (.bool true) A B S t = A := (rfl)
theorem cd_ff : cdC (.bool false) A B S t = B := (rfl)
theorem cd_bt (b : Bool) (h : b = true) : cdC (.bool b) A B S t = A := by rw [h]; rfl
theorem cd_bf (b : Bool) (h : b = false) : cdC (.bool b) A B S t = B := by rw [h]; rfl
theorem cd_pt (p : Prop) [Decidable p] (h : p) : cdC (.bool (decide p)) A B S t = A := cd_bt A B S t _ (decide_eq_true h)
theorem cd_pf (p : Prop) [Decidable p] (h : ¬ p) : cdC (.bool (decide p)) A B S t = B := cd_bf A B S t _ (decide_eq_false h)
theorem cd_it (a b : Int) (h : a = b) : cdC (.bool (a == b)) A B S t = A := cd_bt A B S t _ (beq_iff_eq.2 h)
theorem cd_if (a b : Int) (h : ¬ a = b) : cdC (.bool (a == b)) A B S t = B := cd_bf A B S t _ (beq_eq_false_iff_ne.2 h)
theorem cd_nt (a b : Int) (h : ¬ a = b) : cdC (.bool (a != b)) A B S t = A := cd_bt A B S t _ (bne_iff_ne.2 h)
theorem cd_nf (a b : Int) (h : a = b) : cdC (.bool (a != b)) A B S t = B := cd_bf A B S t _ (by rw [h]; simp)
end
theorem conv_no (w0 : World) (L : Heap) (v : Value) : convV w0 L .no v = none := (rfl)
theorem conv_sb (w0 : World) (L : Heap) (e : TypeId) (v : Value) : convV w0 L (.strBytes e) v = none := (rfl)
theorem len_no (v : Value) : lenV .no v = none := by unfold lenV; split <;> first | rfl | (rename_i h; cases h)
theorem stopS_nil (c : Code) : stopS [] c = false := (rfl)
theorem stopS_cons (k : Nat) (r : List Nat) (c : Code) : stopS (k :: r) c = ((k == 1000000 + fid c) || stopS r c) := (rfl)
theorem fid_seq (a b : Code) : fid (.seq a b) = fid a := (rfl)
theorem fid_region (i : Nat) (o : Array Oper) (d : Bool) : fid (.region i o d) = i := (rfl)
theorem fid_block (i : Nat) (c : Code) : fid (.block i c) = fid c := (rfl)
theorem fid_cond (c : Operand) (x y : Code) : fid (.cond c x y) = 500000 := (rfl)
theorem fid_loop (c : Code) : fid (.loop c) = fid c := (rfl)
theorem fid_scope (c : Code) : fid (.scope c) = fid c := (rfl)
theorem fid_label (i : Nat) : fid (.label i) = 500000 := (rfl)
theorem fid_goto (i : Nat) : fid (.goto i) = 500000 := (rfl)
theorem fid_exit (i : Nat) : fid (.exit i) = 500000 := (rfl)
theorem fid_skip : fid .skip = 500000 := (rfl)
theorem fid_ret : fid .ret = 500000 := (rfl)
theorem fid_range (x : Operand) (p : Array Tmp) (a c : Code) : fid (.rangeFunc x p a c) = 500000 := (rfl)
/-! ### What holds between two statements -/
def allF (j : Nat → Value) : Nat → Nat → Fr
  | _, 0 => []
  | k, n + 1 => j k :: allF j (k + 1) n
def CutM {G : Type} (n : Nat) (S : G → List (Nat × Value)) (H : G → Heap) (J : G → Prop) (f' : Fr) (L' : Heap) : Prop :=
  ∃ g, J g ∧ L' = H g ∧ f' = pin (allF (getF f') 0 n) (S g)
theorem CutM.mk {G : Type} {n : Nat} {S : G → List (Nat × Value)} {H : G → Heap} {J : G → Prop} {f' : Fr} {L' : Heap} (g : G) (hJ : J g) (hL : L' = H g) (hf : f' = pin (allF (getF f') 0 n) (S g)) : CutM n S H J f' L' := ⟨g, hJ, hL, hf⟩
theorem cdC.splitp {p : Prop} [Decidable p] {A B S : Prop} {t : Tag (A, B, S)} (ht : p → A) (he : ¬ p → B) : cdC (.bool (decide p)) A B S t := by
  by_cases h : p
  · rw [cd_pt A B S t p h]; exact ht h
  · rw [cd_pf A B S t p h]; exact he h
theorem cdC.split {b : Bool} {A B S : Prop} {t : Tag (A, B, S)} (ht : b = true → A) (he : b = false → B) : cdC (.bool b) A B S t := by
  cases b with
  | true => exact ht rfl
  | false => exact he rfl
end Go.Sx
section
namespace Go.Sx
open Go
set_option maxRecDepth 100000
set_option linter.defProp false
def S0 := And.intro (And.intro (And.intro (And.intro (And.intro (And.intro (@vcL_none) (And.intro (@vcL_some) (@vcL_nil))) (And.intro (@vcB_move) (And.intro (@vcB_assign) (@vcB_pick)))) (And.intro (And.intro (@vcB_binOp) (And.intro (@vcB_unOp) (@vcB_convert))) (And.intro (And.intro (@vcB_nilCheck) (@vcB_fieldAddr)) (And.intro (@vcB_field) (@vcB_indexAddr))))) (And.intro (And.intro (And.intro (@vcB_index) (And.intro (@vcB_load) (@vcB_extract))) (And.intro (And.intro (@vcB_slice) (@vcB_makeFunc)) (And.intro (@vcB_len) (@vcB_cap)))) (And.intro (And.intro (@vcB_store) (And.intro (@vcB_store_f) (@vcB_alloc))) (And.intro (And.intro (@vcB_box) (@vcB_build)) (And.intro (@vcB_buildSlice) (@vcB_makeSlice)))))) (And.intro (And.intro (And.intro (And.intro (@vcB_call) (And.intro (@vcB_append) (@vcB_copy))) (And.intro (@vcB_delete) (And.intro (@vcB_clear) (@vcB_max)))) (And.intro (And.intro (@vcB_min) (And.intro (@vcB_unsafeString) (@vcB_unsafeSliceData))) (And.intro (And.intro (@vcB_makeMap) (@vcB_lookup)) (And.intro (@vcB_mapUpdate) (@vcB_range))))) (And.intro (And.intro (And.intro (@vcB_next) (And.intro (@vcB_insert) (@vcB_makeInterface))) (And.intro (And.intro (@vcB_mapEntry) (@vcB_entryStore)) (And.intro (@vcB_entry) (@ovs_some)))) (And.intro (And.intro (@ib_true) (And.intro (@ib_false) (@ev_tmp))) (And.intro (And.intro (@ev_const) (@ev_global)) (And.intro (@ev_func) (@getF_0))))))) (And.intro (And.intro (And.intro (And.intro (And.intro (@getF_s) (And.intro (@nthO_0) (@nthO_s))) (And.intro (@rd_sof_load) (And.intro (@rd_sof_convert) (@vcC_seq0)))) (And.intro (And.intro (@vcC_seq1) (And.intro (@stopS_nil) (@stopS_cons))) (And.intro (And.intro (@fid_seq) (@fid_region)) (And.intro (@fid_block) (@fid_cond))))) (And.intro (And.intro (And.intro (@fid_loop) (And.intro (@fid_scope) (@fid_label))) (And.intro (And.intro (@fid_goto) (@fid_exit)) (And.intro (@fid_skip) (@fid_ret)))) (And.intro (And.intro (@fid_range) (And.intro (@vcC_skip) (@vcC_exit))) (And.intro (And.intro (@vcC_goto) (@vcC_ret)) (And.intro (@vcC_label) (@vcC_block)))))) (And.intro (And.intro (And.intro (And.intro (@vcC_cond) (And.intro (@vcC_region) (@vcC_drawn))) (And.intro (And.intro (@vcC_loop) (@vcC_scope)) (And.intro (@vcC_range) (@seqN_eq)))) (And.intro (And.intro (@thenK_n) (And.intro (@thenK_e) (@thenK_g))) (And.intro (And.intro (@thenK_r) (@blockK_n)) (And.intro (@blockK_g) (@blockK_r))))) (And.intro (And.intro (And.intro (@blockK_e) (And.intro (@scopeK_n) (@scopeK_e))) (And.intro (And.intro (@scopeK_g) (@scopeK_r)) (And.intro (@owk_nil) (@owk_cons)))) (And.intro (And.intro (@bsN_k) (And.intro (@bsN_cw) (@bsN_bs))) (And.intro (And.intro (@bsK_bs) (@bsK_then)) (And.intro (@bsK_block) (@bsK_scope)))))))
def S1 := And.intro (And.intro (And.intro (And.intro (And.intro (And.intro (And.intro (And.intro (@ovs_none) (@oh_some)) (And.intro (@nf_cons) (And.intro (@nf_nil) (@nh_cons)))) (And.intro (And.intro (@nh_nil) (@setF_0)) (And.intro (@setF_s) (And.intro (@putF_some) (@putF_none))))) (And.intro (And.intro (And.intro (@yieldF_lit) (@yieldL_some)) (And.intro (@boolOf_b) (And.intro (@boolOf_undef) (@some_beq)))) (And.intro (And.intro (@none_beq) (@beq_true)) (And.intro (@beq_false) (And.intro (@Bool.not_true) (@Bool.not_false)))))) (And.intro (And.intro (And.intro (And.intro (@Md.next_seq) (@Md.next_any)) (And.intro (@Md.next_qui) (And.intro (@Md.next_sof) (@rd_seq_load)))) (And.intro (And.intro (@rd_any_load) (@rd_qui_load)) (And.intro (@rd_seq_convert) (And.intro (@rd_any_convert) (@rd_qui_convert))))) (And.intro (And.intro (And.intro (@rdIn_p) (@rdIn_sl)) (And.intro (@rdIn_nsl) (And.intro (@rdIn_int) (@rdIn_str)))) (And.intro (And.intro (@lit_u8) (And.intro (@lit_u16) (@lit_u32))) (And.intro (@lit_u64) (And.intro (@lit_i64) (@lit_str))))))) (And.intro (And.intro (And.intro (And.intro (And.intro (@bin_add_u8) (@bin_sub_u8)) (And.intro (@bin_mul_u8) (And.intro (@bin_and_u8) (@bin_or_u8)))) (And.intro (And.intro (@bin_xor_u8) (@bin_quo_u8)) (And.intro (@bin_rem_u8) (And.intro (@bin_lss_u8) (@bin_leq_u8))))) (And.intro (And.intro (And.intro (@bin_gtr_u8) (@bin_geq_u8)) (And.intro (@bin_eql_u8) (And.intro (@bin_neq_u8) (@un_xor_u8)))) (And.intro (And.intro (@conv_u8_i64) (And.intro (@conv_i64_u8) (@conv_vi_u8))) (And.intro (@bin_shr_u8_vi) (And.intro (@bin_shl_u8_vi) (@bin_shr_u8_i)))))) (And.intro (And.intro (And.intro (And.intro (@bin_shl_u8_i) (@bin_shr_u8_u8)) (And.intro (@bin_shl_u8_u8) (And.intro (@conv_u8_u8) (@bin_shr_u8_u16)))) (And.intro (And.intro (@bin_shl_u8_u16) (@conv_u8_u16)) (And.intro (@bin_shr_u8_u32) (And.intro (@bin_shl_u8_u32) (@conv_u8_u32))))) (And.intro (And.intro (And.intro (@bin_shr_u8_u64) (@bin_shl_u8_u64)) (And.intro (@conv_u8_u64) (And.intro (@bin_add_u16) (@bin_sub_u16)))) (And.intro (And.intro (@bin_mul_u16) (And.intro (@bin_and_u16) (@bin_or_u16))) (And.intro (@bin_xor_u16) (And.intro (@bin_quo_u16) (@bin_rem_u16)))))))) (And.intro (And.intro (And.intro (And.intro (And.intro (And.intro (@bin_lss_u16) (@bin_leq_u16)) (And.intro (@bin_gtr_u16) (And.intro (@bin_geq_u16) (@bin_eql_u16)))) (And.intro (And.intro (@bin_neq_u16) (@un_xor_u16)) (And.intro (@conv_u16_i64) (And.intro (@conv_i64_u16) (@conv_vi_u16))))) (And.intro (And.intro (And.intro (@bin_shr_u16_vi) (@bin_shl_u16_vi)) (And.intro (@bin_shr_u16_i) (And.intro (@bin_shl_u16_i) (@bin_shr_u16_u8)))) (And.intro (And.intro (@bin_shl_u16_u8) (And.intro (@conv_u16_u8) (@bin_shr_u16_u16))) (And.intro (@bin_shl_u16_u16) (And.intro (@conv_u16_u16) (@bin_shr_u16_u32)))))) (And.intro (And.intro (And.intro (And.intro (@bin_shl_u16_u32) (@conv_u16_u32)) (And.intro (@bin_shr_u16_u64) (And.intro (@bin_shl_u16_u64) (@conv_u16_u64)))) (And.intro (And.intro (@bin_add_u32) (@bin_sub_u32)) (And.intro (@bin_mul_u32) (And.intro (@bin_and_u32) (@bin_or_u32))))) (And.intro (And.intro (And.intro (@bin_xor_u32) (@bin_quo_u32)) (And.intro (@bin_rem_u32) (And.intro (@bin_lss_u32) (@bin_leq_u32)))) (And.intro (And.intro (@bin_gtr_u32) (And.intro (@bin_geq_u32) (@bin_eql_u32))) (And.intro (@bin_neq_u32) (And.intro (@un_xor_u32) (@conv_u32_i64))))))) (And.intro (And.intro (And.intro (And.intro (And.intro (@conv_i64_u32) (@conv_vi_u32)) (And.intro (@bin_shr_u32_vi) (And.intro (@bin_shl_u32_vi) (@bin_shr_u32_i)))) (And.intro (And.intro (@bin_shl_u32_i) (@bin_shr_u32_u8)) (And.intro (@bin_shl_u32_u8) (And.intro (@conv_u32_u8) (@bin_shr_u32_u16))))) (And.intro (And.intro (And.intro (@bin_shl_u32_u16) (@conv_u32_u16)) (And.intro (@bin_shr_u32_u32) (And.intro (@bin_shl_u32_u32) (@conv_u32_u32)))) (And.intro (And.intro (@bin_shr_u32_u64) (And.intro (@bin_shl_u32_u64) (@conv_u32_u64))) (And.intro (@bin_add_u64) (And.intro (@bin_sub_u64) (@bin_mul_u64)))))) (And.intro (And.intro (And.intro (And.intro (@bin_and_u64) (@bin_or_u64)) (And.intro (@bin_xor_u64) (And.intro (@bin_quo_u64) (@bin_rem_u64)))) (And.intro (And.intro (@bin_lss_u64) (@bin_leq_u64)) (And.intro (@bin_gtr_u64) (And.intro (@bin_geq_u64) (@bin_eql_u64))))) (And.intro (And.intro (And.intro (@bin_neq_u64) (@un_xor_u64)) (And.intro (@conv_u64_i64) (And.intro (@conv_i64_u64) (@conv_vi_u64)))) (And.intro (And.intro (@bin_shr_u64_vi) (And.intro (@bin_shl_u64_vi) (@bin_shr_u64_i))) (And.intro (@bin_shl_u64_i) (And.intro (@bin_shr_u64_u8) (@bin_shl_u64_u8))))))))) (And.intro (And.intro (And.intro (And.intro (And.intro (And.intro (And.intro (@conv_u64_u8) (@bin_shr_u64_u16)) (And.intro (@bin_shl_u64_u16) (And.intro (@conv_u64_u16) (@bin_shr_u64_u32)))) (And.intro (And.intro (@bin_shl_u64_u32) (@conv_u64_u32)) (And.intro (@bin_shr_u64_u64) (And.intro (@bin_shl_u64_u64) (@conv_u64_u64))))) (And.intro (And.intro (And.intro (@bin_add_i) (@bin_sub_i)) (And.intro (@bin_mul_i) (And.intro (@bin_quo_i) (@bin_rem_i)))) (And.intro (And.intro (@bin_eql_i) (And.intro (@bin_neq_i) (@bin_lss_i))) (And.intro (@bin_leq_i) (And.intro (@bin_gtr_i) (@bin_geq_i)))))) (And.intro (And.intro (And.intro (And.intro (@un_neg_i) (@un_not)) (And.intro (@conv_i64_i64) (And.intro (@bin_add_s) (@bin_eql_s)))) (And.intro (And.intro (@bin_neq_s) (@bin_lss_s)) (And.intro (@bin_leq_s) (And.intro (@bin_gtr_s) (@bin_geq_s))))) (And.intro (And.intro (And.intro (@binX_vs) (@index_str)) (And.intro (@len_str) (And.intro (@slice_str_lo) (@slice_str_hi)))) (And.intro (And.intro (@slice_str_both) (And.intro (@ixI_v8) (@one_v8))) (And.intro (@cells_v8) (And.intro (@binX_v8_v8) (@binX_v8_v16))))))) (And.intro (And.intro (And.intro (And.intro (And.intro (@binX_v8_v32) (@binX_v8_v64)) (And.intro (@binX_v8_vi) (And.intro (@ixI_v16) (@one_v16)))) (And.intro (And.intro (@cells_v16) (@binX_v16_v8)) (And.intro (@binX_v16_v16) (And.intro (@binX_v16_v32) (@binX_v16_v64))))) (And.intro (And.intro (And.intro (@binX_v16_vi) (@ixI_v32)) (And.intro (@one_v32) (And.intro (@cells_v32) (@binX_v32_v8)))) (And.intro (And.intro (@binX_v32_v16) (And.intro (@binX_v32_v32) (@binX_v32_v64))) (And.intro (@binX_v32_vi) (And.intro (@ixI_v64) (@one_v64)))))) (And.intro (And.intro (And.intro (And.intro (@cells_v64) (@binX_v64_v8)) (And.intro (@binX_v64_v16) (And.intro (@binX_v64_v32) (@binX_v64_v64)))) (And.intro (And.intro (@binX_v64_vi) (@ixI_vi)) (And.intro (@one_vi) (And.intro (@cells_vi) (@binX_vi_v8))))) (And.intro (And.intro (And.intro (@binX_vi_v16) (@binX_vi_v32)) (And.intro (@binX_vi_v64) (And.intro (@binX_vi_vi) (@conv_int)))) (And.intro (And.intro (@conv_str) (And.intro (@conv_bytesStr) (@text_a8))) (And.intro (@fieldAddr_p) (And.intro (@indexAddr_arr) (@indexAddr_sl)))))))) (And.intro (And.intro (And.intro (And.intro (And.intro (And.intro (@nil_p) (@len_arr)) (And.intro (@len_sl) (And.intro (@cap_sl) (@slice_arr_all)))) (And.intro (And.intro (@slice_arr_both) (@look_same)) (And.intro (@look_other) (And.intro (@setB_same) (@setB_other))))) (And.intro (And.intro (And.intro (@read_same) (@read_other)) (And.intro (@read_old) (And.intro (@loadAt_p) (@load_a8)))) (And.intro (And.intro (@load_a32) (And.intro (@load_all8) (@load_all32))) (And.intro (@storeAt_p) (And.intro (@store_all8) (@store_all32)))))) (And.intro (And.intro (And.intro (And.intro (@store_a8) (@store_a32)) (And.intro (@upd_some) (And.intro (@index_a8) (@index_a32)))) (And.intro (And.intro (@extract_t) (@pick_t)) (And.intro (@pick_f) (And.intro (@Option.map_some.{0, 0}) (@Option.map_none.{0, 0}))))) (And.intro (And.intro (And.intro (@toNat_add_lit) (@toNat_lit_mul)) (And.intro (@toNat_lit_mul_add) (And.intro (@toNat_subL) (@toNat_lit_sub)))) (And.intro (And.intro (@toNat_div_lit) (And.intro (@toNat_mod_lit) (@shl_i_64))) (And.intro (@shr_i_64) (And.intro (@or_i) (@and_i))))))) (And.intro (And.intro (And.intro (And.intro (And.intro (@toNat_div_add) (@toNat_mod_add)) (And.intro (@toNat_add_cast) (And.intro (@cells_agg) (@List.cons_append.{0})))) (And.intro (And.intro (@List.nil_append.{0}) (@List.contains_cons.{0})) (And.intro (@List.contains_nil.{0}) (And.intro (@Bool.or_false) (@Bool.false_or))))) (And.intro (And.intro (And.intro (@Bool.or_true) (@Bool.true_or)) (And.intro (@Bool.false_eq_true) (And.intro (@resVs_nil) (@resVs_cons)))) (And.intro (And.intro (@cons2_some) (And.intro (@resV_tmp) (@resV_cell))) (And.intro (@Nat.add_sub_cancel_left) (And.intro (@List.set_set.{0}) (@Int.toNat_natCast)))))) (And.intro (And.intro (And.intro (And.intro (@Nat.mul_one) (@Nat.zero_add)) (And.intro (@Nat.add_zero) (And.intro (@ge_iff_le.{0}) (@gt_iff_lt.{0})))) (And.intro (And.intro (@beq_self_eq_true.{0}) (@cd_tt)) (And.intro (@cd_ff) (And.intro (@cd_bt) (@cd_bf))))) (And.intro (And.intro (And.intro (@cd_pt) (@cd_pf)) (And.intro (@cd_it) (And.intro (@cd_if) (@cd_nt)))) (And.intro (And.intro (@cd_nf) (And.intro (@conv_no) (@conv_sb))) (And.intro (@len_no) (And.intro (@bsK_out) (@bsN_out)))))))))
end Go.Sx
end
section
open Go Go.Proofs Go.Sx
namespace Go.Proofs
theorem Tryz.ix9 : ixT Tryz.prog 9 = .str := id (by kernel_rfl)
theorem Tryz.ix22 : ixT Tryz.prog 22 = .sl (true, 33) := id (by kernel_rfl)
theorem Tryz.ix36 : ixT Tryz.prog 36 = .sl (true, 32) := id (by kernel_rfl)
theorem Tryz.ix85 : ixT Tryz.prog 85 = .sl (false, 1) := id (by kernel_rfl)
theorem Tryz.ix90 : ixT Tryz.prog 90 = .sl (false, 1) := id (by kernel_rfl)
theorem Tryz.ix97 : ixT Tryz.prog 97 = .sl (false, 1) := id (by kernel_rfl)
theorem Tryz.ix34 : ixT Tryz.prog 34 = .arr 32 (false, 1) := id (by kernel_rfl)
theorem Tryz.ix52 : ixT Tryz.prog 52 = .sl (false, 1) := id (by kernel_rfl)
theorem Tryz.ix115 : ixT Tryz.prog 115 = .arr 4 (false, 1) := id (by kernel_rfl)
theorem Tryz.ix64 : ixT Tryz.prog 64 = .no := id (by kernel_rfl)
theorem Tryz.ix3 : ixT Tryz.prog 3 = .no := id (by kernel_rfl)
theorem Tryz.ix153 : ixT Tryz.prog 153 = .arr 16 (false, 1) := id (by kernel_rfl)
theorem Tryz.ag24 : aggT Tryz.prog 24 = some (true, 2) := id (by kernel_rfl)
theorem Tryz.ag22 : aggT Tryz.prog 22 = some (false, 1) := id (by kernel_rfl)
theorem Tryz.ag34 : aggT Tryz.prog 34 = some (true, 32) := id (by kernel_rfl)
theorem Tryz.ag9 : aggT Tryz.prog 9 = some (false, 1) := id (by kernel_rfl)
theorem Tryz.ag48 : aggT Tryz.prog 48 = some (true, 33) := id (by kernel_rfl)
theorem Tryz.ag56 : aggT Tryz.prog 56 = some (true, 2) := id (by kernel_rfl)
theorem Tryz.ag3 : aggT Tryz.prog 3 = some (false, 1) := id (by kernel_rfl)
theorem Tryz.ag108 : aggT Tryz.prog 108 = some (true, 3) := id (by kernel_rfl)
theorem Tryz.ag52 : aggT Tryz.prog 52 = some (false, 1) := id (by kernel_rfl)
theorem Tryz.ag115 : aggT Tryz.prog 115 = some (true, 4) := id (by kernel_rfl)
theorem Tryz.ag5 : aggT Tryz.prog 5 = some (false, 1) := id (by kernel_rfl)
theorem Tryz.ag29 : aggT Tryz.prog 29 = some (false, 1) := id (by kernel_rfl)
theorem Tryz.ag51 : aggT Tryz.prog 51 = some (false, 1) := id (by kernel_rfl)
theorem Tryz.ag139 : aggT Tryz.prog 139 = some (false, 1) := id (by kernel_rfl)
theorem Tryz.ag103 : aggT Tryz.prog 103 = some (false, 1) := id (by kernel_rfl)
theorem Tryz.ag153 : aggT Tryz.prog 153 = some (true, 16) := id (by kernel_rfl)
theorem Tryz.zr34 : zeroV Tryz.prog 34 = some (.agg (a8 (List.replicate 32 0))) := id (by kernel_rfl)
theorem Tryz.zr56 : zeroV Tryz.prog 56 = some (.agg #[(.pointer none), (.slice none 0 0)]) := id (by kernel_rfl)
theorem Tryz.zr48 : zeroV Tryz.prog 48 = some (.agg #[(vs []), (v8 0), (v8 0), (v8 0), (v8 0), (v8 0), (v8 0), (v8 0), (v8 0), (v8 0), (v8 0), (v8 0), (v8 0), (v8 0), (v8 0), (v8 0), (v8 0), (v8 0), (v8 0), (v8 0), (v8 0), (v8 0), (v8 0), (v8 0), (v8 0), (v8 0), (v8 0), (v8 0), (v8 0), (v8 0), (v8 0), (v8 0), (v8 0)]) := id (by kernel_rfl)
theorem Tryz.zr22 : zeroV Tryz.prog 22 = some (.slice none 0 0) := id (by kernel_rfl)
theorem Tryz.zr5 : zeroV Tryz.prog 5 = some (v8 0) := id (by kernel_rfl)
theorem Tryz.zr115 : zeroV Tryz.prog 115 = some (.agg (a8 (List.replicate 4 0))) := id (by kernel_rfl)
theorem Tryz.pc48 : plcT Tryz.prog 48 = some [(0, 1), (1, 32)] := id (by kernel_rfl)
theorem Tryz.fl24_1 : fldT Tryz.prog 24 1 = some (1, (false, 1)) := id (by kernel_rfl)
theorem Tryz.fl24_0 : fldT Tryz.prog 24 0 = some (0, (false, 1)) := id (by kernel_rfl)
theorem Tryz.fl48_0 : fldT Tryz.prog 48 0 = some (0, (false, 1)) := id (by kernel_rfl)
theorem Tryz.fl48_1 : fldT Tryz.prog 48 1 = some (1, (true, 32)) := id (by kernel_rfl)
theorem Tryz.fl56_0 : fldT Tryz.prog 56 0 = some (0, (true, 2)) := id (by kernel_rfl)
theorem Tryz.fl108_1 : fldT Tryz.prog 108 1 = some (1, (false, 1)) := id (by kernel_rfl)
theorem Tryz.fl108_0 : fldT Tryz.prog 108 0 = some (0, (false, 1)) := id (by kernel_rfl)
theorem Tryz.fl54_1 : fldT Tryz.prog 54 1 = some (1, (false, 1)) := id (by kernel_rfl)
theorem Tryz.fl108_2 : fldT Tryz.prog 108 2 = some (2, (false, 1)) := id (by kernel_rfl)
theorem Tryz.fl54_0 : fldT Tryz.prog 54 0 = some (0, (false, 1)) := id (by kernel_rfl)
theorem Tryz.cv3_5 : cvT Tryz.prog 3 5 = .int .u8 := id (by kernel_rfl)
theorem Tryz.cv52_9 : cvT Tryz.prog 52 9 = .bytesStr := id (by kernel_rfl)
theorem Tryz.cv3_101 : cvT Tryz.prog 3 101 = .int .u64 := id (by kernel_rfl)
theorem Tryz.cv103_5 : cvT Tryz.prog 103 5 = .int .u8 := id (by kernel_rfl)
theorem Tryz.cv5_3 : cvT Tryz.prog 5 3 = .int .i64 := id (by kernel_rfl)
theorem Tryz.cv101_103 : cvT Tryz.prog 101 103 = .int .u32 := id (by kernel_rfl)
theorem Tryz.cv51_130 : cvT Tryz.prog 51 130 = .no := id (by kernel_rfl)
theorem Tryz.cv130_51 : cvT Tryz.prog 130 51 = .no := id (by kernel_rfl)
theorem Tryz.cv3_139 : cvT Tryz.prog 3 139 = .int .u64 := id (by kernel_rfl)
theorem Tryz.cv101_3 : cvT Tryz.prog 101 3 = .int .i64 := id (by kernel_rfl)
theorem Tryz.cv127_5 : cvT Tryz.prog 127 5 = .int .u8 := id (by kernel_rfl)
theorem Tryz.cv5_103 : cvT Tryz.prog 5 103 = .int .u32 := id (by kernel_rfl)
set_option linter.defProp false
def Tryz.fx := And.intro (And.intro (And.intro (And.intro (And.intro (@Tryz.ix9) (And.intro (@Tryz.ix22) (@Tryz.ix36))) (And.intro (@Tryz.ix85) (And.intro (@Tryz.ix90) (@Tryz.ix97)))) (And.intro (And.intro (@Tryz.ix34) (And.intro (@Tryz.ix52) (@Tryz.ix115))) (And.intro (@Tryz.ix64) (And.intro (@Tryz.ix3) (@Tryz.ix153))))) (And.intro (And.intro (And.intro (@Tryz.ag24) (And.intro (@Tryz.ag22) (@Tryz.ag34))) (And.intro (@Tryz.ag9) (And.intro (@Tryz.ag48) (@Tryz.ag56)))) (And.intro (And.intro (@Tryz.ag3) (And.intro (@Tryz.ag108) (@Tryz.ag52))) (And.intro (And.intro (@Tryz.ag115) (@Tryz.ag5)) (And.intro (@Tryz.ag29) (@Tryz.ag51)))))) (And.intro (And.intro (And.intro (And.intro (@Tryz.ag139) (And.intro (@Tryz.ag103) (@Tryz.ag153))) (And.intro (@Tryz.fl24_1) (And.intro (@Tryz.fl24_0) (@Tryz.fl48_0)))) (And.intro (And.intro (@Tryz.fl48_1) (And.intro (@Tryz.fl56_0) (@Tryz.fl108_1))) (And.intro (@Tryz.fl108_0) (And.intro (@Tryz.fl54_1) (@Tryz.fl108_2))))) (And.intro (And.intro (And.intro (@Tryz.fl54_0) (And.intro (@Tryz.cv3_5) (@Tryz.cv52_9))) (And.intro (@Tryz.cv3_101) (And.intro (@Tryz.cv103_5) (@Tryz.cv5_3)))) (And.intro (And.intro (@Tryz.cv101_103) (And.intro (@Tryz.cv51_130) (@Tryz.cv130_51))) (And.intro (And.intro (@Tryz.cv3_139) (@Tryz.cv101_3)) (And.intro (@Tryz.cv127_5) (@Tryz.cv5_103))))))
set_option maxRecDepth 10000
set_option maxHeartbeats 1000000
set_option linter.unusedSimpArgs false
/-! ### strings.Builder, as the first and only part of a writer -/
theorem load_b0 (p v : Value) (E : TypeId) (n : Nat) : loadV (some (false, n)) (some (.cells #[p, v] E (0, 0))) 0 = some p := (rfl)
theorem load_b1 (p v : Value) (E : TypeId) (n : Nat) : loadV (some (false, n)) (some (.cells #[p, v] E (0, 0))) 1 = some v := (rfl)
theorem store_b0 (p v x : Value) (E : TypeId) (hx : Value.oneCell' x = true ∧ x.cells = #[x]) : storeV (some (false, 1)) (some (.cells #[p, v] E (0, 0))) 0 x = some (.cells #[x, v] E (0, 0)) := by
  simp [storeV, hx, putC]
theorem store_b1 (p v x : Value) (E : TypeId) (hx : Value.oneCell' x = true ∧ x.cells = #[x]) : storeV (some (false, 1)) (some (.cells #[p, v] E (0, 0))) 1 x = some (.cells #[p, x] E (0, 0)) := by
  simp [storeV, hx, putC]
theorem store_bp0 (p v : Value) (b o : Nat) (E : TypeId) : storeV (some (false, 1)) (some (.cells #[p, v] E (0, 0))) 0 (vp b o) = some (.cells #[vp b o, v] E (0, 0)) := store_b0 _ _ _ _ ⟨rfl, rfl⟩
theorem nilB (b o : Nat) : binX Tryz.prog .eql 51 (vp b o) (.pointer none) = some (.bool false) := by
  simp [binX, eqX, plainV, eqNilV, Tryz.underlying51, vp]
theorem nilB' : binX Tryz.prog .eql 51 (.pointer none) (.pointer none) = some (.bool true) := by
  simp [binX, eqX, plainV, eqNilV, Tryz.underlying51]
set_option linter.defProp false
def uW1_1 := And.intro (And.intro (@load_b0) (@load_b1)) (And.intro (@store_bp0) (And.intro (@nilB) (@nilB')))
theorem liesB : liesAt Tryz.prog Tryz.prog.depth 56 ((#[Value.pointer none, Value.pointer none] : Array Value).size / Tryz.prog.cellsOf 56) 0 54 1 = true := id (by kernel_rfl)
theorem aggB : aggT Tryz.prog 54 = some (true, 2) := id (by kernel_rfl)
theorem noEscape (x : Value) (w : World) : (callFunc 89 #[x]).run Tryz.prog w = .ok (.value x) w := by kernel_rfl
theorem copyCheck_spec (b : Nat) (p v : Value) (w : World) (hp : p = .pointer none ∨ p = vp b 0) (ho : w.heap[b]? = some (.cells #[p, v] 56 (0, 0))) :
    Rets Tryz.prog 70 #[vp b 0] w (fun v' D => ∃ o, D = [(b, o)] ∧ v' = .tuple #[] ∧ o = .cells #[vp b 0, v] 56 (0, 0)) := by
  refine Rets.enterM Tryz.func70 rfl (rs := []) Tryz.results70 Tryz.ntmps70 ho ?_
  simp only [List.size_toArray, List.length_cons, List.length_nil, Nat.reduceAdd, Nat.reduceSub, List.replicate_succ, List.replicate_zero, List.cons_append, List.nil_append]
  rcases hp with rfl | rfl
  · ((try with_reducible refine Cw.go [] ?_); (try simp (disch := (first | assumption | omega | (simp only [lenS, lenT, UInt64.reduceToNat]; try omega))) only [↓Sx.S0, Sx.S1, Tryz.fx, uW1_1, Nat.reduceAdd, Nat.reducePow, Int.reducePow, Nat.reduceBEq, ↓reduceIte, UInt8.reduceToNat, UInt16.reduceToNat, UInt32.reduceToNat, UInt64.reduceToNat, Int.reduceToNat]))
    refine Ow.toUnsafe rfl rfl (by kernel_rfl) rfl (read_look (look_same _ _ _)) (by simp) aggB (by decide) Tryz.underlying51 Tryz.underlying130 ?_
    refine Ow.callExt (v := vp b 0) rfl rfl (fun w => noEscape _ w) ?_
    refine Ow.ofUnsafe rfl rfl (by kernel_rfl) rfl (read_look (look_same _ _ _)) aggB liesB Tryz.underlying130 Tryz.underlying51 ?_
    refine Ow.go rfl ?_
    simp (disch := (first | assumption | omega | (simp only [lenS, lenT, UInt64.reduceToNat]; try omega))) only [↓Sx.S0, Sx.S1, Tryz.fx, uW1_1, Nat.reduceAdd, Nat.reducePow, Int.reducePow, Nat.reduceBEq, ↓reduceIte, UInt8.reduceToNat, UInt16.reduceToNat, UInt32.reduceToNat, UInt64.reduceToNat, Int.reduceToNat]
    ((try with_reducible refine Cw.go [] ?_); (try simp (disch := (first | assumption | omega | (simp only [lenS, lenT, UInt64.reduceToNat]; try omega))) only [↓Sx.S0, Sx.S1, Tryz.fx, uW1_1, Nat.reduceAdd, Nat.reducePow, Int.reducePow, Nat.reduceBEq, ↓reduceIte, UInt8.reduceToNat, UInt16.reduceToNat, UInt32.reduceToNat, UInt64.reduceToNat, Int.reduceToNat]))
    refine ⟨_, _, _, (by simp (disch := (first | assumption | omega | (simp only [lenS, lenT, UInt64.reduceToNat]; try omega))) only [↓Sx.S0, Sx.S1, Tryz.fx, uW1_1, Nat.reduceAdd, Nat.reducePow, Int.reducePow, Nat.reduceBEq, ↓reduceIte, UInt8.reduceToNat, UInt16.reduceToNat, UInt32.reduceToNat, UInt64.reduceToNat, Int.reduceToNat]; rfl), rfl, trivial, ?_⟩
    exact ⟨rfl, rfl⟩
  · ((try with_reducible refine Cw.go [2] ?_); (try simp (disch := (first | assumption | omega | (simp only [lenS, lenT, UInt64.reduceToNat]; try omega))) only [↓Sx.S0, Sx.S1, Tryz.fx, uW1_1, Nat.reduceAdd, Nat.reducePow, Int.reducePow, Nat.reduceBEq, ↓reduceIte, UInt8.reduceToNat, UInt16.reduceToNat, UInt32.reduceToNat, UInt64.reduceToNat, Int.reduceToNat]))
    refine Cw.region ?_
    refine Ow.value rfl rfl rfl ?_
    refine Ow.value (v := vp b 0) rfl rfl (by simp (disch := (first | assumption | omega | (simp only [lenS, lenT, UInt64.reduceToNat]; try omega))) only [↓Sx.S0, Sx.S1, Tryz.fx, uW1_1, Nat.reduceAdd, Nat.reducePow, Int.reducePow, Nat.reduceBEq, ↓reduceIte, UInt8.reduceToNat, UInt16.reduceToNat, UInt32.reduceToNat, UInt64.reduceToNat, Int.reduceToNat, evalV]) ?_
    refine Ow.value (v := vp b 0) rfl rfl (by simp (disch := (first | assumption | omega | (simp only [lenS, lenT, UInt64.reduceToNat]; try omega))) only [↓Sx.S0, Sx.S1, Tryz.fx, uW1_1, Nat.reduceAdd, Nat.reducePow, Int.reducePow, Nat.reduceBEq, ↓reduceIte, UInt8.reduceToNat, UInt16.reduceToNat, UInt32.reduceToNat, UInt64.reduceToNat, Int.reduceToNat, evalV]) ?_
    refine Ow.value (v := vp b 0) rfl rfl (by simp (disch := (first | assumption | omega | (simp only [lenS, lenT, UInt64.reduceToNat]; try omega))) only [↓Sx.S0, Sx.S1, Tryz.fx, uW1_1, Nat.reduceAdd, Nat.reducePow, Int.reducePow, Nat.reduceBEq, ↓reduceIte, UInt8.reduceToNat, UInt16.reduceToNat, UInt32.reduceToNat, UInt64.reduceToNat, Int.reduceToNat, evalV]) ?_
    refine Ow.value rfl rfl rfl ?_
    refine Ow.neqSame rfl Tryz.underlying51 aggB rfl rfl ?_
    refine Ow.go rfl ?_
    simp (disch := (first | assumption | omega | (simp only [lenS, lenT, UInt64.reduceToNat]; try omega))) only [↓Sx.S0, Sx.S1, Tryz.fx, uW1_1, Nat.reduceAdd, Nat.reducePow, Int.reducePow, Nat.reduceBEq, ↓reduceIte, UInt8.reduceToNat, UInt16.reduceToNat, UInt32.reduceToNat, UInt64.reduceToNat, Int.reduceToNat]
    ((try with_reducible refine Cw.go [] ?_); (try simp (disch := (first | assumption | omega | (simp only [lenS, lenT, UInt64.reduceToNat]; try omega))) only [↓Sx.S0, Sx.S1, Tryz.fx, uW1_1, Nat.reduceAdd, Nat.reducePow, Int.reducePow, Nat.reduceBEq, ↓reduceIte, UInt8.reduceToNat, UInt16.reduceToNat, UInt32.reduceToNat, UInt64.reduceToNat, Int.reduceToNat]))
    refine ⟨_, _, _, (by simp (disch := (first | assumption | omega | (simp only [lenS, lenT, UInt64.reduceToNat]; try omega))) only [↓Sx.S0, Sx.S1, Tryz.fx, uW1_1, Nat.reduceAdd, Nat.reducePow, Int.reducePow, Nat.reduceBEq, ↓reduceIte, UInt8.reduceToNat, UInt16.reduceToNat, UInt32.reduceToNat, UInt64.reduceToNat, Int.reduceToNat]; rfl), rfl, trivial, ?_⟩
    exact ⟨rfl, rfl⟩
end Go.Proofs
end
section
open Go Go.Proofs Go.Sx
namespace Go.Proofs
set_option maxRecDepth 10000
set_option maxHeartbeats 1000000
set_option linter.unusedSimpArgs false
set_option linter.defProp false
def uW2_1 := And.intro (And.intro (@load_b0) (@load_b1)) (And.intro (@store_bp0) (And.intro (@nilB) (@nilB')))
/-- A writer at a block, and what was written. -/
def BldAt (b : Nat) (l : List UInt8) (X : Heap) : Prop :=
  ∃ p v, Sx.look X b = some (.cells #[p, v] 56 (0, 0)) ∧ (p = .pointer none ∨ p = vp b 0) ∧ Buf X 5 1 v l.length (l.map v8) ∧ slB v ≠ some b
theorem WriteByte_spec (b : Nat) (X : Heap) (l : List UInt8) (c : UInt8) (w : World) (hB : BldAt b l X) (hX : ∀ p, p ∈ X → w.heap[p.1]? = some p.2) (hn : (keys X).Nodup) (hl : l.length < 34359738368) :
    Rets Tryz.prog 49 #[vp b 0, v8 c] w (XS w X (fun v D => v = .nilIface ∧ BldAt b (l ++ [c]) D)) := by
  obtain ⟨p, v, hlk, hp, hb, hsl⟩ := hB
  refine Rets.enterX Tryz.func49 rfl (rs := [.tmp 4]) Tryz.results49 Tryz.ntmps49 hX hn ?_
  simp only [List.size_toArray, List.length_cons, List.length_nil, Nat.reduceAdd, Nat.reduceSub, List.replicate_succ, List.replicate_zero, List.cons_append, List.nil_append]
  ((try with_reducible refine Cw.go [] ?_); (try simp (disch := (first | assumption | omega | (simp only [lenS, lenT, UInt64.reduceToNat]; try omega))) only [↓Sx.S0, Sx.S1, Tryz.fx, uW2_1, Nat.reduceAdd, Nat.reducePow, Int.reducePow, Nat.reduceBEq, ↓reduceIte, UInt8.reduceToNat, UInt16.reduceToNat, UInt32.reduceToNat, UInt64.reduceToNat, Int.reduceToNat]))
  refine Ow.callM rfl rfl Tryz.call70 (key_of_look hlk) (fun w' hw' => copyCheck_spec b p v w' hp (hw'.has _ _ (look_mem hlk))) ?_
  have lk1 := look_setB (x := .cells #[vp b 0, v] 56 (0, 0)) hlk
  have rd1 := read_look (w0 := w) lk1
  have hb1 : Buf (setB X b (.cells #[vp b 0, v] 56 (0, 0))) 5 1 v l.length (l.map v8) := hb.setO hsl
  have kx : Ext w X (setB X b (.cells #[vp b 0, v] 56 (0, 0))) := (Ext.refl w X).setB
  generalize setB X b (.cells #[vp b 0, v] 56 (0, 0)) = X1 at *
  refine Ow.go rfl ?_
  simp (disch := (first | assumption | omega | (simp only [lenS, lenT, UInt64.reduceToNat]; try omega))) only [↓Sx.S0, Sx.S1, Tryz.fx, uW2_1, Nat.reduceAdd, Nat.reducePow, Int.reducePow, Nat.reduceBEq, ↓reduceIte, UInt8.reduceToNat, UInt16.reduceToNat, UInt32.reduceToNat, UInt64.reduceToNat, Int.reduceToNat]
  ((try with_reducible refine Cw.go [] ?_); (try simp (disch := (first | assumption | omega | (simp only [lenS, lenT, UInt64.reduceToNat]; try omega))) only [↓Sx.S0, Sx.S1, Tryz.fx, uW2_1, Nat.reduceAdd, Nat.reducePow, Int.reducePow, Nat.reduceBEq, ↓reduceIte, UInt8.reduceToNat, UInt16.reduceToNat, UInt32.reduceToNat, UInt64.reduceToNat, Int.reduceToNat, rd1]))
  refine Ow.buildSlice (e := 5) #[v8 c] rfl rfl (by kernel_rfl) fun b3 hb3 hw3 => ?_
  have lk3 : Sx.look (X1 ++ [(b3, .cells #[v8 c] 5 (0, 0))]) b3 = some (.cells #[v8 c] 5 (0, 0)) := look_new hb3
  have hb2 : Buf (X1 ++ [(b3, .cells #[v8 c] 5 (0, 0))]) 5 1 v l.length (l.map v8) := hb1.app
  refine Ow.go rfl ?_
  simp (disch := (first | assumption | omega | (simp only [lenS, lenT, UInt64.reduceToNat]; try omega))) only [↓Sx.S0, Sx.S1, Tryz.fx, uW2_1, Nat.reduceAdd, Nat.reducePow, Int.reducePow, Nat.reduceBEq, ↓reduceIte, UInt8.reduceToNat, UInt16.reduceToNat, UInt32.reduceToNat, UInt64.reduceToNat, Int.reduceToNat]
  refine Ow.append (e := 5) _ rfl rfl rfl Tryz.underlying52 Tryz.ag5 (by kernel_rfl) Tryz.zr5 (by kernel_rfl) Tryz.underlying52 (by intro k h; cases h) hb2 (fun w' hw' => AppX.block (k := 1) (new := [v8 c]) (read_look lk3) (by simp) (by simp) rfl hw') (by omega) (fun v2 L2 hB2 hG2 hS2 => ?_)
  have lk2 : Sx.look L2 b = some (.cells #[vp b 0, v] 56 (0, 0)) := hG2.look b _ hsl (look_app lk1)
  have st2 : storeV (some (false, 1)) (some (.cells #[vp b 0, v] 56 (0, 0))) 1 v2 = some (.cells #[vp b 0, v2] 56 (0, 0)) := store_b1 _ _ _ _ hB2.cell
  refine Ow.go rfl ?_
  simp (disch := (first | assumption | omega | (simp only [lenS, lenT, UInt64.reduceToNat]; try omega))) only [↓Sx.S0, Sx.S1, Tryz.fx, uW2_1, Nat.reduceAdd, Nat.reducePow, Int.reducePow, Nat.reduceBEq, ↓reduceIte, UInt8.reduceToNat, UInt16.reduceToNat, UInt32.reduceToNat, UInt64.reduceToNat, Int.reduceToNat, lk2, st2, nh_any]
  ((try with_reducible refine Cw.go [] ?_); (try simp (disch := (first | assumption | omega | (simp only [lenS, lenT, UInt64.reduceToNat]; try omega))) only [↓Sx.S0, Sx.S1, Tryz.fx, uW2_1, Nat.reduceAdd, Nat.reducePow, Int.reducePow, Nat.reduceBEq, ↓reduceIte, UInt8.reduceToNat, UInt16.reduceToNat, UInt32.reduceToNat, UInt64.reduceToNat, Int.reduceToNat]))
  refine ⟨_, (by simp (disch := (first | assumption | omega | (simp only [lenS, lenT, UInt64.reduceToNat]; try omega))) only [↓Sx.S0, Sx.S1, Tryz.fx, uW2_1, Nat.reduceAdd, Nat.reducePow, Int.reducePow, Nat.reduceBEq, ↓reduceIte, UInt8.reduceToNat, UInt16.reduceToNat, UInt32.reduceToNat, UInt64.reduceToNat, Int.reduceToNat]; rfl), ?_⟩
  have ex := (kx.app (o := .cells #[v8 c] 5 (0, 0)) hw3).grew hG2
  have hs2 : slB v2 ≠ some b := by
    rcases hS2 with h | ⟨c', h, ha⟩
    · rw [h]; exact hsl
    · rw [h]
      intro e
      cases e
      exact Nat.lt_irrefl _ (above_to ha (key_of_look (look_app lk1)))
  refine ⟨ex.setB, rfl, vp b 0, v2, look_setB lk2, .inr rfl, ?_, hs2⟩
  rw [List.length_append, List.map_append]
  exact hB2.setO hs2
end Go.Proofs
end
section
open Go Go.Proofs Go.Sx
namespace Go.Proofs
set_option maxRecDepth 10000
set_option maxHeartbeats 1000000
set_option linter.unusedSimpArgs false
set_option linter.defProp false
def uW3_1 := And.intro (And.intro (@load_b0) (@load_b1)) (And.intro (@store_bp0) (And.intro (@nilB) (@nilB')))
theorem WriteString_spec (b : Nat) (X : Heap) (l s : List UInt8) (w : World) (hB : BldAt b l X) (hX : ∀ p, p ∈ X → w.heap[p.1]? = some p.2) (hn : (keys X).Nodup) (hl : l.length + s.length < 34359738368) :
    Rets Tryz.prog 48 #[vp b 0, vs s] w (XS w X (fun v D => v = .tuple #[vi s.length, .nilIface] ∧ BldAt b (l ++ s) D)) := by
  obtain ⟨p, v, hlk, hp, hb, hsl⟩ := hB
  refine Rets.enterX Tryz.func48 rfl (rs := [.tmp 4, .tmp 5]) Tryz.results48 Tryz.ntmps48 hX hn ?_
  simp only [List.size_toArray, List.length_cons, List.length_nil, Nat.reduceAdd, Nat.reduceSub, List.replicate_succ, List.replicate_zero, List.cons_append, List.nil_append]
  ((try with_reducible refine Cw.go [] ?_); (try simp (disch := (first | assumption | omega | (simp only [lenS, lenT, UInt64.reduceToNat]; try omega))) only [↓Sx.S0, Sx.S1, Tryz.fx, uW3_1, Nat.reduceAdd, Nat.reducePow, Int.reducePow, Nat.reduceBEq, ↓reduceIte, UInt8.reduceToNat, UInt16.reduceToNat, UInt32.reduceToNat, UInt64.reduceToNat, Int.reduceToNat]))
  refine Ow.callM rfl rfl Tryz.call70 (key_of_look hlk) (fun w' hw' => copyCheck_spec b p v w' hp (hw'.has _ _ (look_mem hlk))) ?_
  have lk1 := look_setB (x := .cells #[vp b 0, v] 56 (0, 0)) hlk
  have rd1 := read_look (w0 := w) lk1
  have hb1 : Buf (setB X b (.cells #[vp b 0, v] 56 (0, 0))) 5 1 v l.length (l.map v8) := hb.setO hsl
  have kx : Ext w X (setB X b (.cells #[vp b 0, v] 56 (0, 0))) := (Ext.refl w X).setB
  generalize setB X b (.cells #[vp b 0, v] 56 (0, 0)) = X1 at *
  refine Ow.go rfl ?_
  simp (disch := (first | assumption | omega | (simp only [lenS, lenT, UInt64.reduceToNat]; try omega))) only [↓Sx.S0, Sx.S1, Tryz.fx, uW3_1, Nat.reduceAdd, Nat.reducePow, Int.reducePow, Nat.reduceBEq, ↓reduceIte, UInt8.reduceToNat, UInt16.reduceToNat, UInt32.reduceToNat, UInt64.reduceToNat, Int.reduceToNat]
  ((try with_reducible refine Cw.go [] ?_); (try simp (disch := (first | assumption | omega | (simp only [lenS, lenT, UInt64.reduceToNat]; try omega))) only [↓Sx.S0, Sx.S1, Tryz.fx, uW3_1, Nat.reduceAdd, Nat.reducePow, Int.reducePow, Nat.reduceBEq, ↓reduceIte, UInt8.reduceToNat, UInt16.reduceToNat, UInt32.reduceToNat, UInt64.reduceToNat, Int.reduceToNat, rd1]))
  refine Ow.append (e := 5) _ rfl rfl rfl Tryz.underlying52 Tryz.ag5 (by kernel_rfl) Tryz.zr5 (by kernel_rfl) Tryz.underlying9 (by intro k h; cases h) hb1 (fun w' hw' => AppX.text _ w' s) (by omega) (fun v2 L2 hB2 hG2 hS2 => ?_)
  have lk2 : Sx.look L2 b = some (.cells #[vp b 0, v] 56 (0, 0)) := hG2.look b _ hsl lk1
  have st2 : storeV (some (false, 1)) (some (.cells #[vp b 0, v] 56 (0, 0))) 1 v2 = some (.cells #[vp b 0, v2] 56 (0, 0)) := store_b1 _ _ _ _ hB2.cell
  refine Ow.go rfl ?_
  simp (disch := (first | assumption | omega | (simp only [lenS, lenT, UInt64.reduceToNat]; try omega))) only [↓Sx.S0, Sx.S1, Tryz.fx, uW3_1, Nat.reduceAdd, Nat.reducePow, Int.reducePow, Nat.reduceBEq, ↓reduceIte, UInt8.reduceToNat, UInt16.reduceToNat, UInt32.reduceToNat, UInt64.reduceToNat, Int.reduceToNat, lk2, st2, nh_any]
  ((try with_reducible refine Cw.go [] ?_); (try simp (disch := (first | assumption | omega | (simp only [lenS, lenT, UInt64.reduceToNat]; try omega))) only [↓Sx.S0, Sx.S1, Tryz.fx, uW3_1, Nat.reduceAdd, Nat.reducePow, Int.reducePow, Nat.reduceBEq, ↓reduceIte, UInt8.reduceToNat, UInt16.reduceToNat, UInt32.reduceToNat, UInt64.reduceToNat, Int.reduceToNat]))
  refine ⟨_, (by simp (disch := (first | assumption | omega | (simp only [lenS, lenT, UInt64.reduceToNat]; try omega))) only [↓Sx.S0, Sx.S1, Tryz.fx, uW3_1, Nat.reduceAdd, Nat.reducePow, Int.reducePow, Nat.reduceBEq, ↓reduceIte, UInt8.reduceToNat, UInt16.reduceToNat, UInt32.reduceToNat, UInt64.reduceToNat, Int.reduceToNat]; rfl), ?_⟩
  have ex := kx.grew hG2
  have hs2 : slB v2 ≠ some b := by
    rcases hS2 with h | ⟨c', h, ha⟩
    · rw [h]; exact hsl
    · rw [h]
      intro e
      cases e
      exact Nat.lt_irrefl _ (above_to ha (key_of_look lk1))
  refine ⟨ex.setB, rfl, vp b 0, v2, look_setB lk2, .inr rfl, ?_, hs2⟩
  rw [List.length_append, List.map_append]
  exact hB2.setO hs2
theorem BString_spec (b : Nat) (X : Heap) (l : List UInt8) (w : World) (hB : BldAt b l X) (hX : ∀ p, p ∈ X → w.heap[p.1]? = some p.2) (hn : (keys X).Nodup) (hl : l.length < 34359738368) :
    Rets Tryz.prog 72 #[vp b 0] w (XS w X (fun v _D => v = vs l)) := by
  obtain ⟨p, v, hlk, hp, hb, hsl⟩ := hB
  have rd1 := read_look (w0 := w) hlk
  refine Rets.enterX Tryz.func72 rfl (rs := [.tmp 2]) Tryz.results72 Tryz.ntmps72 hX hn ?_
  simp only [List.size_toArray, List.length_cons, List.length_nil, Nat.reduceAdd, Nat.reduceSub, List.replicate_succ, List.replicate_zero, List.cons_append, List.nil_append]
  ((try with_reducible refine Cw.go [] ?_); (try simp (disch := (first | assumption | omega | (simp only [lenS, lenT, UInt64.reduceToNat]; try omega))) only [↓Sx.S0, Sx.S1, Tryz.fx, uW3_1, Nat.reduceAdd, Nat.reducePow, Int.reducePow, Nat.reduceBEq, ↓reduceIte, UInt8.reduceToNat, UInt16.reduceToNat, UInt32.reduceToNat, UInt64.reduceToNat, Int.reduceToNat]))
  refine Cw.regionS [b] [0, 1, 2, 5, 6, 7, 3, 8, 9, 4, 10, 11] [] (by kernel_rfl) (by kernel_rfl) (by kernel_rfl) ?_
  simp only [nl_cons, ↓pickL_nil, ↓pickL_cons, ↓nthO_0, ↓nthO_s, consO_some]
  refine Ow.goQ ?_
  simp (disch := (first | assumption | omega | (simp only [lenS, lenT, UInt64.reduceToNat]; try omega))) only [↓Sx.S0, Sx.S1, Tryz.fx, uW3_1, Nat.reduceAdd, Nat.reducePow, Int.reducePow, Nat.reduceBEq, ↓reduceIte, UInt8.reduceToNat, UInt16.reduceToNat, UInt32.reduceToNat, UInt64.reduceToNat, Int.reduceToNat, rd1, hb.len]
  refine Ow.soft rfl rfl rfl ?_
  rcases hb.inv with ⟨rfl, h0, -⟩ | ⟨b2, c, rest, rfl, hl2, h1, h3, h4, -⟩
  · obtain rfl : l = [] := List.eq_nil_of_length_eq_zero h0
    refine Ow.sliceData (v := .pointer none) rfl rfl (.inl ⟨0, 0, rfl, rfl⟩) ?_
    with_reducible refine Ow.nil ?_
    refine ⟨by intro b hb; simp only [List.mem_cons, List.not_mem_nil, or_false] at hb; (try subst hb); rfl, ?_⟩
    refine Ow.soft rfl rfl rfl ?_
    refine Ow.unsafeStringNil rfl rfl rfl rfl ?_
    with_reducible refine Ow.nil ?_
    refine ⟨by intro b hb; simp only [List.mem_cons, List.not_mem_nil, or_false] at hb; (try subst hb); rfl, ?_⟩
    refine Ow.goQ ?_
    simp (disch := (first | assumption | omega | (simp only [lenS, lenT, UInt64.reduceToNat]; try omega))) only [↓Sx.S0, Sx.S1, Tryz.fx, uW3_1, Nat.reduceAdd, Nat.reducePow, Int.reducePow, Nat.reduceBEq, ↓reduceIte, UInt8.reduceToNat, UInt16.reduceToNat, UInt32.reduceToNat, UInt64.reduceToNat, Int.reduceToNat]
    try with_reducible refine Ow.nil ?_
    ((try with_reducible refine Cw.go [] ?_); (try simp (disch := (first | assumption | omega | (simp only [lenS, lenT, UInt64.reduceToNat]; try omega))) only [↓Sx.S0, Sx.S1, Tryz.fx, uW3_1, Nat.reduceAdd, Nat.reducePow, Int.reducePow, Nat.reduceBEq, ↓reduceIte, UInt8.reduceToNat, UInt16.reduceToNat, UInt32.reduceToNat, UInt64.reduceToNat, Int.reduceToNat]))
    refine ⟨_, (by simp (disch := (first | assumption | omega | (simp only [lenS, lenT, UInt64.reduceToNat]; try omega))) only [↓Sx.S0, Sx.S1, Tryz.fx, uW3_1, Nat.reduceAdd, Nat.reducePow, Int.reducePow, Nat.reduceBEq, ↓reduceIte, UInt8.reduceToNat, UInt16.reduceToNat, UInt32.reduceToNat, UInt64.reduceToNat, Int.reduceToNat]; rfl), ?_⟩
    exact ⟨Ext.refl _ _, rfl⟩
  · refine Ow.sliceData (v := vp b2 0) rfl rfl (.inr ⟨b2, _, c, rfl, by omega, rfl⟩) ?_
    with_reducible refine Ow.nil ?_
    refine ⟨by intro b hb; simp only [List.mem_cons, List.not_mem_nil, or_false] at hb; (try subst hb); rfl, ?_⟩
    by_cases h0 : l.length = 0
    · obtain rfl : l = [] := List.eq_nil_of_length_eq_zero h0
      refine Ow.soft rfl rfl rfl ?_
      refine Ow.unsafeStringNil rfl rfl rfl rfl ?_
      with_reducible refine Ow.nil ?_
      refine ⟨by intro b hb; simp only [List.mem_cons, List.not_mem_nil, or_false] at hb; (try subst hb); rfl, ?_⟩
      refine Ow.goQ ?_
      simp (disch := (first | assumption | omega | (simp only [lenS, lenT, UInt64.reduceToNat]; try omega))) only [↓Sx.S0, Sx.S1, Tryz.fx, uW3_1, Nat.reduceAdd, Nat.reducePow, Int.reducePow, Nat.reduceBEq, ↓reduceIte, UInt8.reduceToNat, UInt16.reduceToNat, UInt32.reduceToNat, UInt64.reduceToNat, Int.reduceToNat]
      try with_reducible refine Ow.nil ?_
      ((try with_reducible refine Cw.go [] ?_); (try simp (disch := (first | assumption | omega | (simp only [lenS, lenT, UInt64.reduceToNat]; try omega))) only [↓Sx.S0, Sx.S1, Tryz.fx, uW3_1, Nat.reduceAdd, Nat.reducePow, Int.reducePow, Nat.reduceBEq, ↓reduceIte, UInt8.reduceToNat, UInt16.reduceToNat, UInt32.reduceToNat, UInt64.reduceToNat, Int.reduceToNat]))
      refine ⟨_, (by simp (disch := (first | assumption | omega | (simp only [lenS, lenT, UInt64.reduceToNat]; try omega))) only [↓Sx.S0, Sx.S1, Tryz.fx, uW3_1, Nat.reduceAdd, Nat.reducePow, Int.reducePow, Nat.reduceBEq, ↓reduceIte, UInt8.reduceToNat, UInt16.reduceToNat, UInt32.reduceToNat, UInt64.reduceToNat, Int.reduceToNat]; rfl), ?_⟩
      exact ⟨Ext.refl _ _, rfl⟩
    · refine Ow.soft rfl rfl rfl ?_
      refine Ow.unsafeString rfl rfl rfl rfl hl2 (by omega) (by omega) Tryz.underlying133 (by kernel_rfl) (of_decide_eq_true (by kernel_rfl)) ?_
      with_reducible refine Ow.nil ?_
      refine ⟨by intro b hb; simp only [List.mem_cons, List.not_mem_nil, or_false] at hb; (try subst hb); exact read_setB_ne (fun e => hsl (by rw [← e]; rfl)), ?_⟩
      refine Ow.goQ ?_
      simp (disch := (first | assumption | omega | (simp only [lenS, lenT, UInt64.reduceToNat]; try omega))) only [↓Sx.S0, Sx.S1, Tryz.fx, uW3_1, Nat.reduceAdd, Nat.reducePow, Int.reducePow, Nat.reduceBEq, ↓reduceIte, UInt8.reduceToNat, UInt16.reduceToNat, UInt32.reduceToNat, UInt64.reduceToNat, Int.reduceToNat]
      try with_reducible refine Ow.nil ?_
      ((try with_reducible refine Cw.go [] ?_); (try simp (disch := (first | assumption | omega | (simp only [lenS, lenT, UInt64.reduceToNat]; try omega))) only [↓Sx.S0, Sx.S1, Tryz.fx, uW3_1, Nat.reduceAdd, Nat.reducePow, Int.reducePow, Nat.reduceBEq, ↓reduceIte, UInt8.reduceToNat, UInt16.reduceToNat, UInt32.reduceToNat, UInt64.reduceToNat, Int.reduceToNat]))
      refine ⟨_, (by simp (disch := (first | assumption | omega | (simp only [lenS, lenT, UInt64.reduceToNat]; try omega))) only [↓Sx.S0, Sx.S1, Tryz.fx, uW3_1, Nat.reduceAdd, Nat.reducePow, Int.reducePow, Nat.reduceBEq, ↓reduceIte, UInt8.reduceToNat, UInt16.reduceToNat, UInt32.reduceToNat, UInt64.reduceToNat, Int.reduceToNat]; rfl), ?_⟩
      exact ⟨(Ext.refl _ _).setB, rfl⟩
end Go.Proofs
end
section
open Go Go.Proofs Go.Sx
namespace Go.Proofs
set_option maxRecDepth 10000
set_option maxHeartbeats 1000000
set_option linter.unusedSimpArgs false
theorem nilW (b o : Nat) : binX Tryz.prog .eql 61 (vp b o) (.pointer none) = some (.bool false) := by
  simp [binX, eqX, plainV, eqNilV, Tryz.underlying61, vp]
set_option linter.defProp false
def uW4_1 := And.intro (@load_b0) (And.intro (@load_b1) (@nilW))
structure WG where
  g : Nat
  D : Heap
theorem flat_take_succ (l : List (List UInt8)) (g : Nat) (h : g < l.length) : (l.take (g + 1)).flatten = (l.take g).flatten ++ l.getD g [] := by
  rw [List.take_add_one, List.getElem?_eq_getElem h, List.flatten_append, List.getD_eq_getElem?_getD, List.getElem?_eq_getElem h]
  simp
theorem flat_take_le (l : List (List UInt8)) (g : Nat) : (l.take g).flatten.length ≤ l.flatten.length := by
  conv => rhs; rw [← List.take_append_drop g l, List.flatten_append, List.length_append]
  omega
theorem WRaw_spec (b : Nat) (X : Heap) (l : List UInt8) (x : Value) (b2 off : Nat) (ls : List (List UInt8)) (arr : Array Value) (E : TypeId) (fz : Nat × Nat) (w : World) (hB : BldAt b l X) (hX : ∀ p, p ∈ X → w.heap[p.1]? = some p.2) (hn : (keys X).Nodup)
    (hS : StrS w x ls b2 off arr E fz) (hne : 0 < ls.length → b2 ∉ keys X) (hl : l.length + ls.flatten.length < 34359738368) (hls : ls.length < 34359738368) :
    Rets Tryz.prog 21 #[vp b 0, x] w (XS w X (fun v D => v = .tuple #[] ∧ BldAt b (l ++ ls.flatten) D)) := by
  refine Rets.enterX Tryz.func21 rfl (rs := []) Tryz.results21 Tryz.ntmps21 hX hn ?_
  simp only [List.size_toArray, List.length_cons, List.length_nil, Nat.reduceAdd, Nat.reduceSub, List.replicate_succ, List.replicate_zero, List.cons_append, List.nil_append]
  ((try with_reducible refine Cw.go [] ?_); (try simp (disch := (first | assumption | omega | (simp only [lenS, lenT, UInt64.reduceToNat]; try omega))) only [↓Sx.S0, Sx.S1, Tryz.fx, uW4_1, Nat.reduceAdd, Nat.reducePow, Int.reducePow, Nat.reduceBEq, ↓reduceIte, UInt8.reduceToNat, UInt16.reduceToNat, UInt32.reduceToNat, UInt64.reduceToNat, Int.reduceToNat, hS.len]))
  refine Cw.loopG (G := WG) [11, 12, 13, 5, 14, 15, 16, 17, 18, 19, 10] (fun g => [(10, vi g.g)]) (fun g => g.D) (fun g => g.g ≤ ls.length ∧ Ext w X g.D ∧ BldAt b (l ++ (ls.take g.g).flatten) g.D) (fun g => ls.length - g.g) ⟨0, X⟩ rfl rfl ?_ ?_
  · exact ⟨by simp, Ext.refl _ _, by simpa using hB⟩
  intro g j hg
  simp only [overFrom, pin, setF_0, setF_s, List.contains_cons, List.contains_nil, Nat.reduceBEq, Bool.or_false, Bool.false_or, Bool.or_true, Bool.true_or, Nat.reduceAdd, ↓reduceIte, Bool.false_eq_true]
  obtain ⟨g, D⟩ := g
  simp only at hg ⊢
  obtain ⟨hgL, hE, hBD⟩ := hg
  by_cases hlt : g < ls.length
  · have hlg := hS.get g hlt
    have hrd := hE.old (hS.has (by omega)) (hne (by omega))
    ((try with_reducible refine Cw.go [] ?_); (try simp (disch := (first | assumption | omega | (simp only [lenS, lenT, UInt64.reduceToNat]; try omega))) only [↓Sx.S0, Sx.S1, Tryz.fx, uW4_1, Nat.reduceAdd, Nat.reducePow, Int.reducePow, Nat.reduceBEq, ↓reduceIte, UInt8.reduceToNat, UInt16.reduceToNat, UInt32.reduceToNat, UInt64.reduceToNat, Int.reduceToNat, Sx.loadV_one, hrd, hlg, hS.idx]))
    have hfl := flat_take_succ ls g hlt
    have hfle := flat_take_le ls (g + 1)
    have hfl2 := congrArg List.length hfl
    rw [List.length_append] at hfl2
    refine Ow.callX (Y := []) (by simp) rfl rfl Tryz.call48 (fun w' hw' hX hn => WriteString_spec b D _ (ls.getD g []) w' hBD hX hn (by rw [List.length_append]; omega)) (fun v2 D2 hC hS2 => ?_)
    rw [List.append_nil]
    obtain ⟨rfl, hB2⟩ := hS2
    refine Ow.go rfl ?_
    simp (disch := (first | assumption | omega | (simp only [lenS, lenT, UInt64.reduceToNat]; try omega))) only [↓Sx.S0, Sx.S1, Tryz.fx, uW4_1, Nat.reduceAdd, Nat.reducePow, Int.reducePow, Nat.reduceBEq, ↓reduceIte, UInt8.reduceToNat, UInt16.reduceToNat, UInt32.reduceToNat, UInt64.reduceToNat, Int.reduceToNat]
    ((try with_reducible refine Cw.go [] ?_); (try simp (disch := (first | assumption | omega | (simp only [lenS, lenT, UInt64.reduceToNat]; try omega))) only [↓Sx.S0, Sx.S1, Tryz.fx, uW4_1, Nat.reduceAdd, Nat.reducePow, Int.reducePow, Nat.reduceBEq, ↓reduceIte, UInt8.reduceToNat, UInt16.reduceToNat, UInt32.reduceToNat, UInt64.reduceToNat, Int.reduceToNat]))
    refine Again.mk (WG.mk (g + 1) D2) (by show ls.length - (g + 1) < ls.length - g; omega) ⟨by show g + 1 ≤ ls.length; omega, hE.came0 hC, ?_⟩ rfl rfl
    show BldAt b (l ++ (ls.take (g + 1)).flatten) D2
    rw [hfl, ← List.append_assoc]
    exact hB2
  · obtain rfl : g = ls.length := by omega
    ((try with_reducible refine Cw.go [] ?_); (try simp (disch := (first | assumption | omega | (simp only [lenS, lenT, UInt64.reduceToNat]; try omega))) only [↓Sx.S0, Sx.S1, Tryz.fx, uW4_1, Nat.reduceAdd, Nat.reducePow, Int.reducePow, Nat.reduceBEq, ↓reduceIte, UInt8.reduceToNat, UInt16.reduceToNat, UInt32.reduceToNat, UInt64.reduceToNat, Int.reduceToNat]))
    refine ⟨_, (by simp (disch := (first | assumption | omega | (simp only [lenS, lenT, UInt64.reduceToNat]; try omega))) only [↓Sx.S0, Sx.S1, Tryz.fx, uW4_1, Nat.reduceAdd, Nat.reducePow, Int.reducePow, Nat.reduceBEq, ↓reduceIte, UInt8.reduceToNat, UInt16.reduceToNat, UInt32.reduceToNat, UInt64.reduceToNat, Int.reduceToNat]; rfl), ?_⟩
    rw [List.take_length] at hBD
    exact ⟨hE, rfl, hBD⟩
def maxN : Int := 1099511627775
/-- A number as bytes. -/
def numL (n : Nat) : List UInt8 := if h : n < 128 then [UInt8.ofNat n] else UInt8.ofNat (n % 128 + 128) :: numL (n / 128)
termination_by n
decreasing_by omega
def clampN (n : Int) : Nat := (if (if maxN < n then maxN else n) > 0 then (if maxN < n then maxN else n) else 0).toNat
def numsL (l : List Int) : List UInt8 := (l.map fun n => numL (clampN n)).flatten
theorem numL_small {n : Nat} (h : n < 128) : numL n = [UInt8.ofNat n] := by rw [numL]; simp [h]
theorem numL_big {n : Nat} (h : ¬ n < 128) : numL n = UInt8.ofNat (n % 128 + 128) :: numL (n / 128) := by rw [numL]; simp [h]
theorem numL_len_lt : ∀ (k n : Nat), n < 128 ^ k → 0 < k → (numL n).length ≤ k
  | 0, n, h, h0 => absurd h0 (by omega)
  | k + 1, n, h, _ => by
    by_cases hn : n < 128
    · rw [numL_small hn]; simp
    · rw [numL_big hn]
      have hk : 0 < k := by
        rcases Nat.eq_zero_or_pos k with rfl | hk
        · simp at h; omega
        · exact hk
      have := numL_len_lt k (n / 128) (by rw [Nat.pow_succ] at h; omega) hk
      simp only [List.length_cons]; omega
theorem clampN_lt (n : Int) : clampN n < 1099511627776 := by unfold clampN maxN; split <;> split at * <;> omega
theorem numL_clamp_len (n : Int) : (numL (clampN n)).length ≤ 6 := numL_len_lt 6 _ (by have := clampN_lt n; omega) (by omega)
theorem orByte : ∀ b : BitVec 8, b.toNat < 128 → (b ||| 128#8) = b + 128#8 := by decide
theorem byte_int (m : Nat) : UInt8.ofInt (m : Int) = UInt8.ofNat m := by
  apply UInt8.toBitVec_inj.1
  apply BitVec.eq_of_toNat_eq
  simp [UInt8.ofInt, UInt8.ofNat]
  omega
theorem byte_or (m : Nat) : UInt8.ofInt ((m : Int) % 128) ||| 128 = UInt8.ofNat (m % 128 + 128) := by
  rw [show ((m : Int) % 128) = ((m % 128 : Nat) : Int) by omega, byte_int]
  apply UInt8.toBitVec_inj.1
  have h := orByte (BitVec.ofNat 8 (m % 128)) (by simp [BitVec.toNat_ofNat]; omega)
  have h1 : (UInt8.ofNat (m % 128) ||| 128).toBitVec = BitVec.ofNat 8 (m % 128) ||| 128#8 := rfl
  rw [h1, h]
  apply BitVec.eq_of_toNat_eq
  simp [UInt8.ofNat]
structure NG where
  m : Nat
  pre : List UInt8
  D : Heap
theorem WNumber_spec (b : Nat) (X : Heap) (l : List UInt8) (x : Value) (b2 off : Nat) (ls : List Int) (arr : Array Value) (E : TypeId) (fz : Nat × Nat) (w : World) (hB : BldAt b l X) (hX : ∀ p, p ∈ X → w.heap[p.1]? = some p.2) (hn : (keys X).Nodup)
    (hS : OneS vi 0 w x ls b2 off arr E fz) (hne : 0 < ls.length → b2 ∉ keys X) (hl : l.length + ls.length * 6 < 34359738368) :
    Rets Tryz.prog 22 #[vp b 0, x] w (XS w X (fun v D => v = .tuple #[] ∧ BldAt b (l ++ numsL ls) D)) := by
  refine Rets.enterX Tryz.func22 rfl (rs := []) Tryz.results22 Tryz.ntmps22 hX hn ?_
  simp only [List.size_toArray, List.length_cons, List.length_nil, Nat.reduceAdd, Nat.reduceSub, List.replicate_succ, List.replicate_zero, List.cons_append, List.nil_append]
  ((try with_reducible refine Cw.go [] ?_); (try simp (disch := (first | assumption | omega | (simp only [lenS, lenT, UInt64.reduceToNat]; try omega))) only [↓Sx.S0, Sx.S1, Tryz.fx, uW4_1, Nat.reduceAdd, Nat.reducePow, Int.reducePow, Nat.reduceBEq, ↓reduceIte, UInt8.reduceToNat, UInt16.reduceToNat, UInt32.reduceToNat, UInt64.reduceToNat, Int.reduceToNat, hS.len]))
  refine Cw.loopG (G := WG) [11, 12, 13, 5, 14, 15, 16, 17, 18, 21, 22, 23, 24, 25, 26, 27, 28, 19, 20, 29, 30, 31, 32, 33, 34, 35, 10] (fun g => [(10, vi g.g)]) (fun g => g.D) (fun g => g.g ≤ ls.length ∧ Ext w X g.D ∧ BldAt b (l ++ numsL (ls.take g.g)) g.D) (fun g => ls.length - g.g) ⟨0, X⟩ rfl rfl ?_ ?_
  · exact ⟨by simp, Ext.refl _ _, by simpa [numsL] using hB⟩
  intro g j hg
  simp only [overFrom, pin, setF_0, setF_s, List.contains_cons, List.contains_nil, Nat.reduceBEq, Bool.or_false, Bool.false_or, Bool.or_true, Bool.true_or, Nat.reduceAdd, ↓reduceIte, Bool.false_eq_true]
  obtain ⟨g, D⟩ := g
  simp only at hg ⊢
  obtain ⟨hgL, hE, hBD⟩ := hg
  by_cases hlt : g < ls.length
  · have hlg := hS.get g hlt
    have hrd := hE.old (hS.has (by omega)) (hne (by omega))
    ((try with_reducible refine Cw.go [] ?_); (try simp (disch := (first | assumption | omega | (simp only [lenS, lenT, UInt64.reduceToNat]; try omega))) only [↓Sx.S0, Sx.S1, Tryz.fx, uW4_1, Nat.reduceAdd, Nat.reducePow, Int.reducePow, Nat.reduceBEq, ↓reduceIte, UInt8.reduceToNat, UInt16.reduceToNat, UInt32.reduceToNat, UInt64.reduceToNat, Int.reduceToNat, Sx.loadV_one, hrd, hlg, hS.idx]))
    refine Ow.minI rfl rfl rfl ?_
    refine Ow.maxI rfl rfl rfl ?_
    have hcl : (if (if maxN < ls.getD g 0 then maxN else ls.getD g 0) > 0 then (if maxN < ls.getD g 0 then maxN else ls.getD g 0) else 0) = (clampN (ls.getD g 0) : Int) := by
      unfold clampN; omega
    have hcl' : (if (if 1099511627775 < ls.getD g 0 then 1099511627775 else ls.getD g 0) > 0 then (if 1099511627775 < ls.getD g 0 then 1099511627775 else ls.getD g 0) else 0) = (clampN (ls.getD g 0) : Int) := hcl
    rw [hcl']
    have hcb := clampN_lt (ls.getD g 0)
    have hpl : (numsL (ls.take g)).length ≤ g * 6 := by
      unfold numsL
      rw [List.length_flatten, List.map_map]
      have : ∀ (q : List Int), (q.map (List.length ∘ fun n => numL (clampN n))).sum ≤ q.length * 6 := by
        intro q
        induction q with
        | nil => simp
        | cons y r ih => have := numL_clamp_len y; simp only [List.map_cons, List.sum_cons, List.length_cons, Function.comp]; omega
      have h2 := this (ls.take g)
      rw [List.length_take] at h2
      have : min g ls.length * 6 ≤ g * 6 := Nat.mul_le_mul_right _ (Nat.min_le_left _ _)
      omega
    have hnl := numL_clamp_len (ls.getD g 0)
    have hsucc : numsL (ls.take (g + 1)) = numsL (ls.take g) ++ numL (clampN (ls.getD g 0)) := by
      unfold numsL
      rw [List.take_succ_eq_append_getElem hlt, List.map_append, List.flatten_append, List.getD_eq_getElem?_getD, List.getElem?_eq_getElem hlt]
      simp only [List.map_cons, List.map_nil, List.flatten_cons, List.flatten_nil, List.append_nil, Option.getD_some]
    generalize clampN (ls.getD g 0) = m0 at *
    refine Ow.go rfl ?_
    simp (disch := (first | assumption | omega | (simp only [lenS, lenT, UInt64.reduceToNat]; try omega))) only [↓Sx.S0, Sx.S1, Tryz.fx, uW4_1, Nat.reduceAdd, Nat.reducePow, Int.reducePow, Nat.reduceBEq, ↓reduceIte, UInt8.reduceToNat, UInt16.reduceToNat, UInt32.reduceToNat, UInt64.reduceToNat, Int.reduceToNat]
    ((try with_reducible refine Cw.go [] ?_); (try simp (disch := (first | assumption | omega | (simp only [lenS, lenT, UInt64.reduceToNat]; try omega))) only [↓Sx.S0, Sx.S1, Tryz.fx, uW4_1, Nat.reduceAdd, Nat.reducePow, Int.reducePow, Nat.reduceBEq, ↓reduceIte, UInt8.reduceToNat, UInt16.reduceToNat, UInt32.reduceToNat, UInt64.reduceToNat, Int.reduceToNat]))
    refine Cw.loopG (G := NG) [17, 18, 21, 22, 23, 24, 25, 26, 27, 28, 19, 20, 5] (fun q => [(5, vi q.m)]) (fun q => q.D) (fun q => q.m ≤ m0 ∧ Ext w X q.D ∧ numL m0 = q.pre ++ numL q.m ∧ BldAt b (l ++ numsL (ls.take g) ++ q.pre) q.D) (fun q => q.m) ⟨m0, [], D⟩ rfl rfl ?_ ?_
    · exact ⟨Nat.le_refl _, hE, rfl, by rwa [List.append_nil]⟩
    intro q jq hq
    simp only [overFrom, pin, setF_0, setF_s, List.contains_cons, List.contains_nil, Nat.reduceBEq, Bool.or_false, Bool.false_or, Bool.or_true, Bool.true_or, Nat.reduceAdd, ↓reduceIte, Bool.false_eq_true]
    obtain ⟨m, pre, D1⟩ := q
    simp only at hq ⊢
    obtain ⟨hqm, hE1, hpre, hB1⟩ := hq
    have hpl2 := congrArg List.length hpre
    rw [List.length_append] at hpl2
    by_cases hm : m < 128
    · ((try with_reducible refine Cw.go [] ?_); (try simp (disch := (first | assumption | omega | (simp only [lenS, lenT, UInt64.reduceToNat]; try omega))) only [↓Sx.S0, Sx.S1, Tryz.fx, uW4_1, Nat.reduceAdd, Nat.reducePow, Int.reducePow, Nat.reduceBEq, ↓reduceIte, UInt8.reduceToNat, UInt16.reduceToNat, UInt32.reduceToNat, UInt64.reduceToNat, Int.reduceToNat]))
      rw [numL_small hm] at hpre hpl2
      have hlen : (l ++ numsL (ls.take g) ++ pre).length + 1 < 34359738368 := by
        rw [List.length_append, List.length_append]
        simp only [List.length_cons, List.length_nil] at hpl2
        omega
      refine Ow.callX (Y := []) (by simp) rfl rfl Tryz.call49 (fun w' hw' hX hn => WriteByte_spec b D1 _ _ w' hB1 hX hn (by omega)) (fun v2 D2 hC hS2 => ?_)
      rw [List.append_nil]
      obtain ⟨rfl, hB2⟩ := hS2
      rw [byte_int] at hB2
      refine Ow.go rfl ?_
      simp (disch := (first | assumption | omega | (simp only [lenS, lenT, UInt64.reduceToNat]; try omega))) only [↓Sx.S0, Sx.S1, Tryz.fx, uW4_1, Nat.reduceAdd, Nat.reducePow, Int.reducePow, Nat.reduceBEq, ↓reduceIte, UInt8.reduceToNat, UInt16.reduceToNat, UInt32.reduceToNat, UInt64.reduceToNat, Int.reduceToNat]
      ((try with_reducible refine Cw.go [] ?_); (try simp (disch := (first | assumption | omega | (simp only [lenS, lenT, UInt64.reduceToNat]; try omega))) only [↓Sx.S0, Sx.S1, Tryz.fx, uW4_1, Nat.reduceAdd, Nat.reducePow, Int.reducePow, Nat.reduceBEq, ↓reduceIte, UInt8.reduceToNat, UInt16.reduceToNat, UInt32.reduceToNat, UInt64.reduceToNat, Int.reduceToNat]))
      refine Again.mk (WG.mk (g + 1) D2) (by show ls.length - (g + 1) < ls.length - g; omega) ⟨by show g + 1 ≤ ls.length; omega, hE1.came0 hC, ?_⟩ rfl rfl
      show BldAt b (l ++ numsL (ls.take (g + 1))) D2
      rw [hsucc, hpre, ← List.append_assoc, ← List.append_assoc]
      exact hB2
    · ((try with_reducible refine Cw.go [] ?_); (try simp (disch := (first | assumption | omega | (simp only [lenS, lenT, UInt64.reduceToNat]; try omega))) only [↓Sx.S0, Sx.S1, Tryz.fx, uW4_1, Nat.reduceAdd, Nat.reducePow, Int.reducePow, Nat.reduceBEq, ↓reduceIte, UInt8.reduceToNat, UInt16.reduceToNat, UInt32.reduceToNat, UInt64.reduceToNat, Int.reduceToNat]))
      rw [numL_big hm] at hpre hpl2
      have hlen : (l ++ numsL (ls.take g) ++ pre).length + 1 < 34359738368 := by
        rw [List.length_append, List.length_append]
        simp only [List.length_cons] at hpl2
        omega
      refine Ow.callX (Y := []) (by simp) rfl rfl Tryz.call49 (fun w' hw' hX hn => WriteByte_spec b D1 _ _ w' hB1 hX hn (by omega)) (fun v2 D2 hC hS2 => ?_)
      rw [List.append_nil]
      obtain ⟨rfl, hB2⟩ := hS2
      rw [byte_or] at hB2
      refine Ow.go rfl ?_
      simp (disch := (first | assumption | omega | (simp only [lenS, lenT, UInt64.reduceToNat]; try omega))) only [↓Sx.S0, Sx.S1, Tryz.fx, uW4_1, Nat.reduceAdd, Nat.reducePow, Int.reducePow, Nat.reduceBEq, ↓reduceIte, UInt8.reduceToNat, UInt16.reduceToNat, UInt32.reduceToNat, UInt64.reduceToNat, Int.reduceToNat]
      ((try with_reducible refine Cw.go [] ?_); (try simp (disch := (first | assumption | omega | (simp only [lenS, lenT, UInt64.reduceToNat]; try omega))) only [↓Sx.S0, Sx.S1, Tryz.fx, uW4_1, Nat.reduceAdd, Nat.reducePow, Int.reducePow, Nat.reduceBEq, ↓reduceIte, UInt8.reduceToNat, UInt16.reduceToNat, UInt32.reduceToNat, UInt64.reduceToNat, Int.reduceToNat]))
      refine Again.mk (NG.mk (m / 128) (pre ++ [UInt8.ofNat (m % 128 + 128)]) D2) (by show m / 128 < m; omega) ⟨by show m / 128 ≤ m0; omega, hE1.came0 hC, ?_, ?_⟩ rfl rfl
      · show numL m0 = pre ++ [UInt8.ofNat (m % 128 + 128)] ++ numL (m / 128)
        rw [hpre]; simp
      · show BldAt b (l ++ numsL (ls.take g) ++ (pre ++ [UInt8.ofNat (m % 128 + 128)])) D2
        rw [← List.append_assoc]
        exact hB2
  · obtain rfl : g = ls.length := by omega
    ((try with_reducible refine Cw.go [] ?_); (try simp (disch := (first | assumption | omega | (simp only [lenS, lenT, UInt64.reduceToNat]; try omega))) only [↓Sx.S0, Sx.S1, Tryz.fx, uW4_1, Nat.reduceAdd, Nat.reducePow, Int.reducePow, Nat.reduceBEq, ↓reduceIte, UInt8.reduceToNat, UInt16.reduceToNat, UInt32.reduceToNat, UInt64.reduceToNat, Int.reduceToNat]))
    refine ⟨_, (by simp (disch := (first | assumption | omega | (simp only [lenS, lenT, UInt64.reduceToNat]; try omega))) only [↓Sx.S0, Sx.S1, Tryz.fx, uW4_1, Nat.reduceAdd, Nat.reducePow, Int.reducePow, Nat.reduceBEq, ↓reduceIte, UInt8.reduceToNat, UInt16.reduceToNat, UInt32.reduceToNat, UInt64.reduceToNat, Int.reduceToNat]; rfl), ?_⟩
    rw [List.take_length] at hBD
    exact ⟨hE, rfl, hBD⟩
end Go.Proofs
end
section
open Go Go.Proofs Go.Sx
namespace Go.Proofs
set_option maxRecDepth 10000
set_option maxHeartbeats 1000000
set_option linter.unusedSimpArgs false
set_option linter.defProp false
def uW5_1 := And.intro (And.intro (@load_b0) (@load_b1)) (And.intro (@nilW) (And.intro (@load_a8) (@load_all8)))
theorem BldAt.app {b : Nat} {l : List UInt8} {X Y : Heap} (h : BldAt b l X) : BldAt b l (X ++ Y) := by
  obtain ⟨p, v, h1, h2, h3, h4⟩ := h
  exact ⟨p, v, look_app h1, h2, h3.app, h4⟩
def textL (s : List UInt8) : List UInt8 := numL (clampN s.length) ++ s
def textsL (ls : List (List UInt8)) : List UInt8 := (ls.map textL).flatten
theorem numsL_one (n : Int) : numsL [n] = numL (clampN n) := by simp [numsL]
theorem textsL_succ (ls : List (List UInt8)) (g : Nat) (h : g < ls.length) : textsL (ls.take (g + 1)) = textsL (ls.take g) ++ textL (ls.getD g []) := by
  unfold textsL
  rw [List.take_succ_eq_append_getElem h, List.map_append, List.flatten_append, List.getD_eq_getElem?_getD, List.getElem?_eq_getElem h]
  simp only [List.map_cons, List.map_nil, List.flatten_cons, List.flatten_nil, List.append_nil, Option.getD_some]
theorem textsL_take_le (ls : List (List UInt8)) (g : Nat) : (textsL (ls.take g)).length ≤ (textsL ls).length := by
  conv => rhs; rw [← List.take_append_drop g ls]
  unfold textsL
  rw [List.map_append, List.flatten_append, List.length_append]; omega
theorem WText_spec (b : Nat) (X : Heap) (l : List UInt8) (x : Value) (b2 off : Nat) (ls : List (List UInt8)) (arr : Array Value) (E : TypeId) (fz : Nat × Nat) (w : World) (hB : BldAt b l X) (hX : ∀ p, p ∈ X → w.heap[p.1]? = some p.2) (hn : (keys X).Nodup)
    (hS : StrS w x ls b2 off arr E fz) (hne : 0 < ls.length → b2 ∉ keys X) (hl : l.length + (textsL ls).length < 17179869184) (hls : ls.length < 17179869184) :
    Rets Tryz.prog 23 #[vp b 0, x] w (XS w X (fun v D => v = .tuple #[] ∧ BldAt b (l ++ textsL ls) D)) := by
  refine Rets.enterX Tryz.func23 rfl (rs := []) Tryz.results23 Tryz.ntmps23 hX hn ?_
  simp only [List.size_toArray, List.length_cons, List.length_nil, Nat.reduceAdd, Nat.reduceSub, List.replicate_succ, List.replicate_zero, List.cons_append, List.nil_append]
  ((try with_reducible refine Cw.go [] ?_); (try simp (disch := (first | assumption | omega | (simp only [lenS, lenT, UInt64.reduceToNat]; try omega))) only [↓Sx.S0, Sx.S1, Tryz.fx, uW5_1, Nat.reduceAdd, Nat.reducePow, Int.reducePow, Nat.reduceBEq, ↓reduceIte, UInt8.reduceToNat, UInt16.reduceToNat, UInt32.reduceToNat, UInt64.reduceToNat, Int.reduceToNat, hS.len]))
  refine Cw.loopG (G := WG) [9, 10, 11, 5, 12, 13, 14, 15, 16, 17, 18, 19, 20, 21, 8] (fun g => [(8, vi g.g)]) (fun g => g.D) (fun g => g.g ≤ ls.length ∧ Ext w X g.D ∧ BldAt b (l ++ textsL (ls.take g.g)) g.D) (fun g => ls.length - g.g) ⟨0, X⟩ rfl rfl ?_ ?_
  · exact ⟨by simp, Ext.refl _ _, by simpa [textsL] using hB⟩
  intro g j hg
  simp only [overFrom, pin, setF_0, setF_s, List.contains_cons, List.contains_nil, Nat.reduceBEq, Bool.or_false, Bool.false_or, Bool.or_true, Bool.true_or, Nat.reduceAdd, ↓reduceIte, Bool.false_eq_true]
  obtain ⟨g, D⟩ := g
  simp only at hg ⊢
  obtain ⟨hgL, hE, hBD⟩ := hg
  by_cases hlt : g < ls.length
  · have hlg := hS.get g hlt
    have hrd := hE.old (hS.has (by omega)) (hne (by omega))
    have hsu := textsL_succ ls g hlt
    have hle := textsL_take_le ls (g + 1)
    have hsl := congrArg List.length hsu
    rw [List.length_append] at hsl
    have htl : (textL (ls.getD g [])).length = (numL (clampN (ls.getD g []).length)).length + (ls.getD g []).length := by unfold textL; rw [List.length_append]
    ((try with_reducible refine Cw.go [] ?_); (try simp (disch := (first | assumption | omega | (simp only [lenS, lenT, UInt64.reduceToNat]; try omega))) only [↓Sx.S0, Sx.S1, Tryz.fx, uW5_1, Nat.reduceAdd, Nat.reducePow, Int.reducePow, Nat.reduceBEq, ↓reduceIte, UInt8.reduceToNat, UInt16.reduceToNat, UInt32.reduceToNat, UInt64.reduceToNat, Int.reduceToNat, Sx.loadV_one, hrd, hlg, hS.idx]))
    refine Ow.buildSlice (e := 3) #[vi (ls.getD g []).length] rfl rfl (by kernel_rfl) fun b3 hb3 hw3 => ?_
    refine Ow.go rfl ?_
    simp (disch := (first | assumption | omega | (simp only [lenS, lenT, UInt64.reduceToNat]; try omega))) only [↓Sx.S0, Sx.S1, Tryz.fx, uW5_1, Nat.reduceAdd, Nat.reducePow, Int.reducePow, Nat.reduceBEq, ↓reduceIte, UInt8.reduceToNat, UInt16.reduceToNat, UInt32.reduceToNat, UInt64.reduceToNat, Int.reduceToNat]
    refine Ow.callX (Y := [(b3, .cells #[vi (ls.getD g []).length] 3 (0, 0))]) (by simp) rfl rfl Tryz.call22 (fun w' hw' hX hn => WNumber_spec b D _ _ b3 0 [((ls.getD g []).length : Int)] _ _ _ w' hBD hX hn (OneS.lit [((ls.getD g []).length : Int)] rfl rfl (hw'.has _ _ (List.mem_append_right _ List.mem_cons_self))) (fun _ hm => Nat.lt_irrefl _ (above_to hb3 hm)) (by rw [List.length_append]; simp only [List.length_cons, List.length_nil]; omega)) (fun v2 D2 hC hS2 => ?_)
    obtain ⟨rfl, hB2⟩ := hS2
    have hE2 := (hE.app (o := .cells #[vi (ls.getD g []).length] 3 (0, 0)) hw3).came hC
    rw [numsL_one] at hB2
    have hB3 := BldAt.app (Y := [(b3, .cells #[vi (ls.getD g []).length] 3 (0, 0))]) hB2
    generalize D2 ++ [(b3, Obj.cells #[vi (ls.getD g []).length] 3 (0, 0))] = D3 at *
    refine Ow.go rfl ?_
    simp (disch := (first | assumption | omega | (simp only [lenS, lenT, UInt64.reduceToNat]; try omega))) only [↓Sx.S0, Sx.S1, Tryz.fx, uW5_1, Nat.reduceAdd, Nat.reducePow, Int.reducePow, Nat.reduceBEq, ↓reduceIte, UInt8.reduceToNat, UInt16.reduceToNat, UInt32.reduceToNat, UInt64.reduceToNat, Int.reduceToNat]
    ((try with_reducible refine Cw.go [] ?_); (try simp (disch := (first | assumption | omega | (simp only [lenS, lenT, UInt64.reduceToNat]; try omega))) only [↓Sx.S0, Sx.S1, Tryz.fx, uW5_1, Nat.reduceAdd, Nat.reducePow, Int.reducePow, Nat.reduceBEq, ↓reduceIte, UInt8.reduceToNat, UInt16.reduceToNat, UInt32.reduceToNat, UInt64.reduceToNat, Int.reduceToNat]))
    refine Ow.buildSlice (e := 9) #[vs (ls.getD g [])] rfl rfl (by kernel_rfl) fun b4 hb4 hw4 => ?_
    refine Ow.go rfl ?_
    simp (disch := (first | assumption | omega | (simp only [lenS, lenT, UInt64.reduceToNat]; try omega))) only [↓Sx.S0, Sx.S1, Tryz.fx, uW5_1, Nat.reduceAdd, Nat.reducePow, Int.reducePow, Nat.reduceBEq, ↓reduceIte, UInt8.reduceToNat, UInt16.reduceToNat, UInt32.reduceToNat, UInt64.reduceToNat, Int.reduceToNat]
    refine Ow.callX (Y := [(b4, .cells #[vs (ls.getD g [])] 9 (0, 0))]) (by simp) rfl rfl Tryz.call21 (fun w' hw' hX hn => WRaw_spec b D3 _ _ b4 0 [ls.getD g []] _ _ _ w' hB3 hX hn (StrS.lit [ls.getD g []] rfl rfl (hw'.has _ _ (List.mem_append_right _ List.mem_cons_self))) (fun _ hm => Nat.lt_irrefl _ (above_to hb4 hm)) (by rw [List.length_append, List.length_append]; simp only [List.flatten_cons, List.flatten_nil, List.append_nil]; omega) (by simp)) (fun v4 D4 hC4 hS4 => ?_)
    obtain ⟨rfl, hB4⟩ := hS4
    have hE4 := (hE2.app (o := .cells #[vs (ls.getD g [])] 9 (0, 0)) hw4).came hC4
    have hB5 := BldAt.app (Y := [(b4, .cells #[vs (ls.getD g [])] 9 (0, 0))]) hB4
    generalize D4 ++ [(b4, Obj.cells #[vs (ls.getD g [])] 9 (0, 0))] = D5 at *
    refine Ow.go rfl ?_
    simp (disch := (first | assumption | omega | (simp only [lenS, lenT, UInt64.reduceToNat]; try omega))) only [↓Sx.S0, Sx.S1, Tryz.fx, uW5_1, Nat.reduceAdd, Nat.reducePow, Int.reducePow, Nat.reduceBEq, ↓reduceIte, UInt8.reduceToNat, UInt16.reduceToNat, UInt32.reduceToNat, UInt64.reduceToNat, Int.reduceToNat]
    ((try with_reducible refine Cw.go [] ?_); (try simp (disch := (first | assumption | omega | (simp only [lenS, lenT, UInt64.reduceToNat]; try omega))) only [↓Sx.S0, Sx.S1, Tryz.fx, uW5_1, Nat.reduceAdd, Nat.reducePow, Int.reducePow, Nat.reduceBEq, ↓reduceIte, UInt8.reduceToNat, UInt16.reduceToNat, UInt32.reduceToNat, UInt64.reduceToNat, Int.reduceToNat]))
    refine Again.mk (WG.mk (g + 1) D5) (by show ls.length - (g + 1) < ls.length - g; omega) ⟨by show g + 1 ≤ ls.length; omega, hE4, ?_⟩ rfl rfl
    show BldAt b (l ++ textsL (ls.take (g + 1))) D5
    rw [hsu]
    simpa [textL] using hB5
  · obtain rfl : g = ls.length := by omega
    ((try with_reducible refine Cw.go [] ?_); (try simp (disch := (first | assumption | omega | (simp only [lenS, lenT, UInt64.reduceToNat]; try omega))) only [↓Sx.S0, Sx.S1, Tryz.fx, uW5_1, Nat.reduceAdd, Nat.reducePow, Int.reducePow, Nat.reduceBEq, ↓reduceIte, UInt8.reduceToNat, UInt16.reduceToNat, UInt32.reduceToNat, UInt64.reduceToNat, Int.reduceToNat]))
    refine ⟨_, (by simp (disch := (first | assumption | omega | (simp only [lenS, lenT, UInt64.reduceToNat]; try omega))) only [↓Sx.S0, Sx.S1, Tryz.fx, uW5_1, Nat.reduceAdd, Nat.reducePow, Int.reducePow, Nat.reduceBEq, ↓reduceIte, UInt8.reduceToNat, UInt16.reduceToNat, UInt32.reduceToNat, UInt64.reduceToNat, Int.reduceToNat]; rfl), ?_⟩
    rw [List.take_length] at hBD
    exact ⟨hE, rfl, hBD⟩
def idC (id : List UInt8) : List Value := id.map v8
structure IdL where
  l : List UInt8
  h : l.length = 32
def idLC (x : IdL) : List Value := x.l.map v8
def id0 : IdL := ⟨List.replicate 32 0, by simp⟩
theorem idLC_len (x : IdL) : (idLC x).length = 32 := by simp [idLC, x.h]
theorem idLC_a8 (x : IdL) : (idLC x).toArray = a8 x.l := rfl
def idsL (ls : List IdL) : List UInt8 := (ls.map IdL.l).flatten
theorem idsL_succ (ls : List IdL) (g : Nat) (h : g < ls.length) : idsL (ls.take (g + 1)) = idsL (ls.take g) ++ (ls.getD g id0).l := by
  unfold idsL
  rw [List.take_succ_eq_append_getElem h, List.map_append, List.flatten_append, List.getD_eq_getElem?_getD, List.getElem?_eq_getElem h]
  simp only [List.map_cons, List.map_nil, List.flatten_cons, List.flatten_nil, List.append_nil, Option.getD_some]
theorem idsL_len (ls : List IdL) : (idsL ls).length = 32 * ls.length := by
  unfold idsL
  induction ls with
  | nil => rfl
  | cons x r ih => rw [List.map_cons, List.flatten_cons, List.length_append, ih, x.h, List.length_cons]; omega
theorem WId_spec (b : Nat) (X : Heap) (l : List UInt8) (x : Value) (b2 off : Nat) (ls : List IdL) (arr : Array Value) (E : TypeId) (fz : Nat × Nat) (w : World) (hB : BldAt b l X) (hX : ∀ p, p ∈ X → w.heap[p.1]? = some p.2) (hn : (keys X).Nodup)
    (hS : RowS 32 idLC id0 w x ls b2 off arr E fz) (hne : 0 < ls.length → b2 ∉ keys X) (hl : l.length + 32 * ls.length < 17179869184) :
    Rets Tryz.prog 24 #[vp b 0, x] w (XS w X (fun v D => v = .tuple #[] ∧ BldAt b (l ++ idsL ls) D)) := by
  refine Rets.enterX Tryz.func24 rfl (rs := []) Tryz.results24 Tryz.ntmps24 hX hn ?_
  simp only [List.size_toArray, List.length_cons, List.length_nil, Nat.reduceAdd, Nat.reduceSub, List.replicate_succ, List.replicate_zero, List.cons_append, List.nil_append]
  ((try with_reducible refine Cw.go [] ?_); (try simp (disch := (first | assumption | omega | (simp only [lenS, lenT, UInt64.reduceToNat]; try omega))) only [↓Sx.S0, Sx.S1, Tryz.fx, uW5_1, Nat.reduceAdd, Nat.reducePow, Int.reducePow, Nat.reduceBEq, ↓reduceIte, UInt8.reduceToNat, UInt16.reduceToNat, UInt32.reduceToNat, UInt64.reduceToNat, Int.reduceToNat, hS.len]))
  refine Cw.loopG (G := WG) [9, 10, 11, 5, 12, 13, 14, 15, 16, 17, 8] (fun g => [(8, vi g.g)]) (fun g => g.D) (fun g => g.g ≤ ls.length ∧ Ext w X g.D ∧ BldAt b (l ++ idsL (ls.take g.g)) g.D) (fun g => ls.length - g.g) ⟨0, X⟩ rfl rfl ?_ ?_
  · exact ⟨by simp, Ext.refl _ _, by simpa [idsL] using hB⟩
  intro g j hg
  simp only [overFrom, pin, setF_0, setF_s, List.contains_cons, List.contains_nil, Nat.reduceBEq, Bool.or_false, Bool.false_or, Bool.or_true, Bool.true_or, Nat.reduceAdd, ↓reduceIte, Bool.false_eq_true]
  obtain ⟨g, D⟩ := g
  simp only at hg ⊢
  obtain ⟨hgL, hE, hBD⟩ := hg
  by_cases hlt : g < ls.length
  · have hrd := hE.old (hS.has (by omega)) (hne (by omega))
    have hld := hS.load idLC_len (by omega) hlt
    rw [idLC_a8] at hld
    have hsu := idsL_succ ls g hlt
    have hil := (ls.getD g id0).h
    have hll := idsL_len (ls.take g)
    rw [List.length_take] at hll
    have hmin : min g ls.length ≤ g := Nat.min_le_left _ _
    ((try with_reducible refine Cw.go [] ?_); (try simp (disch := (first | assumption | omega | (simp only [lenS, lenT, UInt64.reduceToNat]; try omega))) only [↓Sx.S0, Sx.S1, Tryz.fx, uW5_1, Nat.reduceAdd, Nat.reducePow, Int.reducePow, Nat.reduceBEq, ↓reduceIte, UInt8.reduceToNat, UInt16.reduceToNat, UInt32.reduceToNat, UInt64.reduceToNat, Int.reduceToNat, hrd, hld, hS.idx]))
    refine Ow.alloc rfl rfl Tryz.zr34 fun b5 hb5 hw5 => ?_
    refine Ow.go rfl ?_
    simp (disch := (first | assumption | omega | (simp only [lenS, lenT, UInt64.reduceToNat]; try omega))) only [↓Sx.S0, Sx.S1, Tryz.fx, uW5_1, Nat.reduceAdd, Nat.reducePow, Int.reducePow, Nat.reduceBEq, ↓reduceIte, UInt8.reduceToNat, UInt16.reduceToNat, UInt32.reduceToNat, UInt64.reduceToNat, Int.reduceToNat, look_new hb5, setB_new hb5, nh_any]
    have hE5 := hE.app (o := .cells (a8 (ls.getD g id0).l) 34 (0, 0)) hw5
    have hB5 := BldAt.app (Y := [(b5, .cells (a8 (ls.getD g id0).l) 34 (0, 0))]) hBD
    have rd5 : readB w (D ++ [(b5, .cells (a8 (ls.getD g id0).l) 34 (0, 0))]) b5 = _ := read_look (look_new hb5)
    generalize D ++ [(b5, Obj.cells (a8 (ls.getD g id0).l) 34 (0, 0))] = D5 at *
    ((try with_reducible refine Cw.go [] ?_); (try simp (disch := (first | assumption | omega | (simp only [lenS, lenT, UInt64.reduceToNat]; try omega))) only [↓Sx.S0, Sx.S1, Tryz.fx, uW5_1, Nat.reduceAdd, Nat.reducePow, Int.reducePow, Nat.reduceBEq, ↓reduceIte, UInt8.reduceToNat, UInt16.reduceToNat, UInt32.reduceToNat, UInt64.reduceToNat, Int.reduceToNat, rd5]))
    have e32 : List.take 32 (List.drop 0 (ls.getD g id0).l) = (ls.getD g id0).l := by rw [List.drop_zero, List.take_of_length_le (by omega)]
    rw [e32]
    refine Ow.buildSlice (e := 9) #[vs (ls.getD g id0).l] rfl rfl (by kernel_rfl) fun b6 hb6 hw6 => ?_
    refine Ow.go rfl ?_
    simp (disch := (first | assumption | omega | (simp only [lenS, lenT, UInt64.reduceToNat]; try omega))) only [↓Sx.S0, Sx.S1, Tryz.fx, uW5_1, Nat.reduceAdd, Nat.reducePow, Int.reducePow, Nat.reduceBEq, ↓reduceIte, UInt8.reduceToNat, UInt16.reduceToNat, UInt32.reduceToNat, UInt64.reduceToNat, Int.reduceToNat]
    refine Ow.callX (Y := [(b6, .cells #[vs (ls.getD g id0).l] 9 (0, 0))]) (by simp) rfl rfl Tryz.call21 (fun w' hw' hX hn => WRaw_spec b D5 _ _ b6 0 [(ls.getD g id0).l] _ _ _ w' hB5 hX hn (StrS.lit [(ls.getD g id0).l] rfl rfl (hw'.has _ _ (List.mem_append_right _ List.mem_cons_self))) (fun _ hm => Nat.lt_irrefl _ (above_to hb6 hm)) (by rw [List.length_append]; simp only [List.flatten_cons, List.flatten_nil, List.append_nil]; omega) (by simp)) (fun v4 D4 hC4 hS4 => ?_)
    obtain ⟨rfl, hB4⟩ := hS4
    have hE4 := (hE5.app (o := .cells #[vs (ls.getD g id0).l] 9 (0, 0)) hw6).came hC4
    have hB6 := BldAt.app (Y := [(b6, .cells #[vs (ls.getD g id0).l] 9 (0, 0))]) hB4
    generalize D4 ++ [(b6, Obj.cells #[vs (ls.getD g id0).l] 9 (0, 0))] = D6 at *
    refine Ow.go rfl ?_
    simp (disch := (first | assumption | omega | (simp only [lenS, lenT, UInt64.reduceToNat]; try omega))) only [↓Sx.S0, Sx.S1, Tryz.fx, uW5_1, Nat.reduceAdd, Nat.reducePow, Int.reducePow, Nat.reduceBEq, ↓reduceIte, UInt8.reduceToNat, UInt16.reduceToNat, UInt32.reduceToNat, UInt64.reduceToNat, Int.reduceToNat]
    ((try with_reducible refine Cw.go [] ?_); (try simp (disch := (first | assumption | omega | (simp only [lenS, lenT, UInt64.reduceToNat]; try omega))) only [↓Sx.S0, Sx.S1, Tryz.fx, uW5_1, Nat.reduceAdd, Nat.reducePow, Int.reducePow, Nat.reduceBEq, ↓reduceIte, UInt8.reduceToNat, UInt16.reduceToNat, UInt32.reduceToNat, UInt64.reduceToNat, Int.reduceToNat]))
    refine Again.mk (WG.mk (g + 1) D6) (by show ls.length - (g + 1) < ls.length - g; omega) ⟨by show g + 1 ≤ ls.length; omega, hE4, ?_⟩ rfl rfl
    show BldAt b (l ++ idsL (ls.take (g + 1))) D6
    rw [hsu]
    simpa using hB6
  · obtain rfl : g = ls.length := by omega
    ((try with_reducible refine Cw.go [] ?_); (try simp (disch := (first | assumption | omega | (simp only [lenS, lenT, UInt64.reduceToNat]; try omega))) only [↓Sx.S0, Sx.S1, Tryz.fx, uW5_1, Nat.reduceAdd, Nat.reducePow, Int.reducePow, Nat.reduceBEq, ↓reduceIte, UInt8.reduceToNat, UInt16.reduceToNat, UInt32.reduceToNat, UInt64.reduceToNat, Int.reduceToNat]))
    refine ⟨_, (by simp (disch := (first | assumption | omega | (simp only [lenS, lenT, UInt64.reduceToNat]; try omega))) only [↓Sx.S0, Sx.S1, Tryz.fx, uW5_1, Nat.reduceAdd, Nat.reducePow, Int.reducePow, Nat.reduceBEq, ↓reduceIte, UInt8.reduceToNat, UInt16.reduceToNat, UInt32.reduceToNat, UInt64.reduceToNat, Int.reduceToNat]; rfl), ?_⟩
    rw [List.take_length] at hBD
    exact ⟨hE, rfl, hBD⟩
theorem WString_spec (b : Nat) (X : Heap) (l : List UInt8) (w : World) (hB : BldAt b l X) (hX : ∀ p, p ∈ X → w.heap[p.1]? = some p.2) (hn : (keys X).Nodup) (hl : l.length < 34359738368) :
    Rets Tryz.prog 51 #[vp b 0] w (XS w X (fun v _ => v = vs l)) := by
  refine Rets.enterX Tryz.func51 rfl (rs := [.tmp 2]) Tryz.results51 Tryz.ntmps51 hX hn ?_
  simp only [List.size_toArray, List.length_cons, List.length_nil, Nat.reduceAdd, Nat.reduceSub, List.replicate_succ, List.replicate_zero, List.cons_append, List.nil_append]
  ((try with_reducible refine Cw.go [] ?_); (try simp (disch := (first | assumption | omega | (simp only [lenS, lenT, UInt64.reduceToNat]; try omega))) only [↓Sx.S0, Sx.S1, Tryz.fx, uW5_1, Nat.reduceAdd, Nat.reducePow, Int.reducePow, Nat.reduceBEq, ↓reduceIte, UInt8.reduceToNat, UInt16.reduceToNat, UInt32.reduceToNat, UInt64.reduceToNat, Int.reduceToNat]))
  refine Ow.callX (Y := []) (by simp) rfl rfl Tryz.call72 (fun w' hw' hX hn => BString_spec b X l w' hB hX hn hl) (fun v2 D2 hC hS2 => ?_)
  subst hS2
  rw [List.append_nil]
  refine Ow.go rfl ?_
  simp (disch := (first | assumption | omega | (simp only [lenS, lenT, UInt64.reduceToNat]; try omega))) only [↓Sx.S0, Sx.S1, Tryz.fx, uW5_1, Nat.reduceAdd, Nat.reducePow, Int.reducePow, Nat.reduceBEq, ↓reduceIte, UInt8.reduceToNat, UInt16.reduceToNat, UInt32.reduceToNat, UInt64.reduceToNat, Int.reduceToNat]
  ((try with_reducible refine Cw.go [] ?_); (try simp (disch := (first | assumption | omega | (simp only [lenS, lenT, UInt64.reduceToNat]; try omega))) only [↓Sx.S0, Sx.S1, Tryz.fx, uW5_1, Nat.reduceAdd, Nat.reducePow, Int.reducePow, Nat.reduceBEq, ↓reduceIte, UInt8.reduceToNat, UInt16.reduceToNat, UInt32.reduceToNat, UInt64.reduceToNat, Int.reduceToNat]))
  refine ⟨_, (by simp (disch := (first | assumption | omega | (simp only [lenS, lenT, UInt64.reduceToNat]; try omega))) only [↓Sx.S0, Sx.S1, Tryz.fx, uW5_1, Nat.reduceAdd, Nat.reducePow, Int.reducePow, Nat.reduceBEq, ↓reduceIte, UInt8.reduceToNat, UInt16.reduceToNat, UInt32.reduceToNat, UInt64.reduceToNat, Int.reduceToNat]; rfl), ?_⟩
  exact ⟨(Ext.refl _ _).came0 hC, rfl⟩
end Go.Proofs
end
section
open Go Go.Proofs Go.Sx
namespace Go.Proofs
set_option maxRecDepth 10000
set_option maxHeartbeats 1000000
set_option linter.unusedSimpArgs false
/-! ### wire.Reader -/
/-- A reader: what it reads, where it stands, its first error. -/
structure Rd where
  s : List UInt8
  at_ : Nat
  err : Nat
def rdC (r : Rd) : Array Value := #[vs r.s, vi r.at_, vi r.err]
theorem load_rd0 (s : List UInt8) (a e : Int) (E : TypeId) (n : Nat) : loadV (some (false, n)) (some (.cells #[vs s, vi a, vi e] E (0, 0))) 0 = some (vs s) := (rfl)
theorem load_rd1 (s : List UInt8) (a e : Int) (E : TypeId) (n : Nat) : loadV (some (false, n)) (some (.cells #[vs s, vi a, vi e] E (0, 0))) 1 = some (vi a) := (rfl)
theorem load_rd2 (s : List UInt8) (a e : Int) (E : TypeId) (n : Nat) : loadV (some (false, n)) (some (.cells #[vs s, vi a, vi e] E (0, 0))) 2 = some (vi e) := (rfl)
theorem store_rd1 (s : List UInt8) (a e x : Int) (E : TypeId) : storeV (some (false, 1)) (some (.cells #[vs s, vi a, vi e] E (0, 0))) 1 (vi x) = some (.cells #[vs s, vi x, vi e] E (0, 0)) := by
  simp [storeV, putC, vi, Value.cells, Value.oneCell']
theorem store_rd2 (s : List UInt8) (a e x : Int) (E : TypeId) : storeV (some (false, 1)) (some (.cells #[vs s, vi a, vi e] E (0, 0))) 2 (vi x) = some (.cells #[vs s, vi a, vi x] E (0, 0)) := by
  simp [storeV, putC, vi, Value.cells, Value.oneCell']
theorem nilR (b o : Nat) : binX Tryz.prog .eql 78 (vp b o) (.pointer none) = some (.bool false) := by
  simp [binX, eqX, plainV, eqNilV, Tryz.underlying78, vp]
theorem nilR' : binX Tryz.prog .eql 78 (.pointer none) (.pointer none) = some (.bool true) := by
  simp [binX, eqX, plainV, eqNilV, Tryz.underlying78]
theorem nnilR (b o : Nat) : binX Tryz.prog .neq 78 (vp b o) (.pointer none) = some (.bool true) := by
  simp [binX, eqX, plainV, eqNilV, Tryz.underlying78, vp]
theorem nnilR' : binX Tryz.prog .neq 78 (.pointer none) (.pointer none) = some (.bool false) := by
  simp [binX, eqX, plainV, eqNilV, Tryz.underlying78]
set_option linter.defProp false
def uW6_1 := And.intro (And.intro (And.intro (@load_rd0) (@load_rd1)) (And.intro (@load_rd2) (@store_rd1))) (And.intro (And.intro (@store_rd2) (@nilR)) (And.intro (@nilR') (And.intro (@nnilR) (@nnilR'))))
theorem RErr_spec (b : Nat) (s : List UInt8) (a e : Int) (w : World) (ho : w.heap[b]? = some (.cells #[vs s, vi a, vi e] 108 (0, 0))) :
    Rets Tryz.prog 67 #[vp b 0] w (fun v D => v = vi e ∧ D = []) := by
  refine Rets.enterV Tryz.func67 rfl (rs := [.tmp 2]) Tryz.results67 Tryz.ntmps67 ?_
  simp only [List.size_toArray, List.length_cons, List.length_nil, Nat.reduceAdd, Nat.reduceSub, List.replicate_succ, List.replicate_zero, List.cons_append, List.nil_append]
  ((try with_reducible refine Cw.go [] ?_); (try simp (disch := (first | assumption | omega | (simp only [lenS, lenT, UInt64.reduceToNat]; try omega))) only [↓Sx.S0, Sx.S1, Tryz.fx, uW6_1, Nat.reduceAdd, Nat.reducePow, Int.reducePow, Nat.reduceBEq, ↓reduceIte, UInt8.reduceToNat, UInt16.reduceToNat, UInt32.reduceToNat, UInt64.reduceToNat, Int.reduceToNat, ho]))
  refine ⟨_, (by simp (disch := (first | assumption | omega | (simp only [lenS, lenT, UInt64.reduceToNat]; try omega))) only [↓Sx.S0, Sx.S1, Tryz.fx, uW6_1, Nat.reduceAdd, Nat.reducePow, Int.reducePow, Nat.reduceBEq, ↓reduceIte, UInt8.reduceToNat, UInt16.reduceToNat, UInt32.reduceToNat, UInt64.reduceToNat, Int.reduceToNat]; rfl), trivial, ?_⟩
  rfl
theorem RErr_nil (w : World) : Rets Tryz.prog 67 #[.pointer none] w (fun v D => v = vi 3 ∧ D = []) := by
  refine Rets.enterV Tryz.func67 rfl (rs := [.tmp 2]) Tryz.results67 Tryz.ntmps67 ?_
  simp only [List.size_toArray, List.length_cons, List.length_nil, Nat.reduceAdd, Nat.reduceSub, List.replicate_succ, List.replicate_zero, List.cons_append, List.nil_append]
  ((try with_reducible refine Cw.go [] ?_); (try simp (disch := (first | assumption | omega | (simp only [lenS, lenT, UInt64.reduceToNat]; try omega))) only [↓Sx.S0, Sx.S1, Tryz.fx, uW6_1, Nat.reduceAdd, Nat.reducePow, Int.reducePow, Nat.reduceBEq, ↓reduceIte, UInt8.reduceToNat, UInt16.reduceToNat, UInt32.reduceToNat, UInt64.reduceToNat, Int.reduceToNat]))
  refine ⟨_, (by simp (disch := (first | assumption | omega | (simp only [lenS, lenT, UInt64.reduceToNat]; try omega))) only [↓Sx.S0, Sx.S1, Tryz.fx, uW6_1, Nat.reduceAdd, Nat.reducePow, Int.reducePow, Nat.reduceBEq, ↓reduceIte, UInt8.reduceToNat, UInt16.reduceToNat, UInt32.reduceToNat, UInt64.reduceToNat, Int.reduceToNat]; rfl), trivial, ?_⟩
  rfl
theorem RAt_spec (b : Nat) (s : List UInt8) (a e : Int) (w : World) (ho : w.heap[b]? = some (.cells #[vs s, vi a, vi e] 108 (0, 0))) :
    Rets Tryz.prog 47 #[vp b 0] w (fun v D => v = vi a ∧ D = []) := by
  refine Rets.enterV Tryz.func47 rfl (rs := [.tmp 2]) Tryz.results47 Tryz.ntmps47 ?_
  simp only [List.size_toArray, List.length_cons, List.length_nil, Nat.reduceAdd, Nat.reduceSub, List.replicate_succ, List.replicate_zero, List.cons_append, List.nil_append]
  ((try with_reducible refine Cw.go [] ?_); (try simp (disch := (first | assumption | omega | (simp only [lenS, lenT, UInt64.reduceToNat]; try omega))) only [↓Sx.S0, Sx.S1, Tryz.fx, uW6_1, Nat.reduceAdd, Nat.reducePow, Int.reducePow, Nat.reduceBEq, ↓reduceIte, UInt8.reduceToNat, UInt16.reduceToNat, UInt32.reduceToNat, UInt64.reduceToNat, Int.reduceToNat, ho]))
  refine ⟨_, (by simp (disch := (first | assumption | omega | (simp only [lenS, lenT, UInt64.reduceToNat]; try omega))) only [↓Sx.S0, Sx.S1, Tryz.fx, uW6_1, Nat.reduceAdd, Nat.reducePow, Int.reducePow, Nat.reduceBEq, ↓reduceIte, UInt8.reduceToNat, UInt16.reduceToNat, UInt32.reduceToNat, UInt64.reduceToNat, Int.reduceToNat]; rfl), trivial, ?_⟩
  rfl
theorem REnd_spec (b : Nat) (s : List UInt8) (a e : Int) (w : World) (ho : w.heap[b]? = some (.cells #[vs s, vi a, vi e] 108 (0, 0))) :
    Rets Tryz.prog 46 #[vp b 0] w (fun v D => v = vi (if e ≠ 0 then e else if a < s.length then 5 else 0) ∧ D = []) := by
  refine Rets.enterV Tryz.func46 rfl (rs := [.tmp 2]) Tryz.results46 Tryz.ntmps46 ?_
  simp only [List.size_toArray, List.length_cons, List.length_nil, Nat.reduceAdd, Nat.reduceSub, List.replicate_succ, List.replicate_zero, List.cons_append, List.nil_append]
  ((try with_reducible refine Cw.go [] ?_); (try simp (disch := (first | assumption | omega | (simp only [lenS, lenT, UInt64.reduceToNat]; try omega))) only [↓Sx.S0, Sx.S1, Tryz.fx, uW6_1, Nat.reduceAdd, Nat.reducePow, Int.reducePow, Nat.reduceBEq, ↓reduceIte, UInt8.reduceToNat, UInt16.reduceToNat, UInt32.reduceToNat, UInt64.reduceToNat, Int.reduceToNat]))
  refine Ow.callFV rfl Tryz.call67 (fun w' hw' => RErr_spec b s a e w' (by rw [hw'.old b (Array.getElem?_eq_some_iff.1 ho).1 (by simp [keys])]; exact ho)) ?_
  refine Ow.go rfl ?_
  simp (disch := (first | assumption | omega | (simp only [lenS, lenT, UInt64.reduceToNat]; try omega))) only [↓Sx.S0, Sx.S1, Tryz.fx, uW6_1, Nat.reduceAdd, Nat.reducePow, Int.reducePow, Nat.reduceBEq, ↓reduceIte, UInt8.reduceToNat, UInt16.reduceToNat, UInt32.reduceToNat, UInt64.reduceToNat, Int.reduceToNat]
  ((try with_reducible refine Cw.go [] ?_); (try simp (disch := (first | assumption | omega | (simp only [lenS, lenT, UInt64.reduceToNat]; try omega))) only [↓Sx.S0, Sx.S1, Tryz.fx, uW6_1, Nat.reduceAdd, Nat.reducePow, Int.reducePow, Nat.reduceBEq, ↓reduceIte, UInt8.reduceToNat, UInt16.reduceToNat, UInt32.reduceToNat, UInt64.reduceToNat, Int.reduceToNat]))
  by_cases he : e = 0
  · ((try with_reducible refine Cw.go [] ?_); (try simp (disch := (first | assumption | omega | (simp only [lenS, lenT, UInt64.reduceToNat]; try omega))) only [↓Sx.S0, Sx.S1, Tryz.fx, uW6_1, Nat.reduceAdd, Nat.reducePow, Int.reducePow, Nat.reduceBEq, ↓reduceIte, UInt8.reduceToNat, UInt16.reduceToNat, UInt32.reduceToNat, UInt64.reduceToNat, Int.reduceToNat]))
    refine Cw.regionS [b] [0, 1, 2, 4, 5, 6, 3, 7, 8, 9] [] (by kernel_rfl) (by kernel_rfl) (by kernel_rfl) ?_
    simp only [nl_cons, ↓pickL_nil, ↓pickL_cons, ↓nthO_0, ↓nthO_s, consO_some]
    refine Ow.goQ ?_
    simp (disch := (first | assumption | omega | (simp only [lenS, lenT, UInt64.reduceToNat]; try omega))) only [↓Sx.S0, Sx.S1, Tryz.fx, uW6_1, Nat.reduceAdd, Nat.reducePow, Int.reducePow, Nat.reduceBEq, ↓reduceIte, UInt8.reduceToNat, UInt16.reduceToNat, UInt32.reduceToNat, UInt64.reduceToNat, Int.reduceToNat, ho]
    try with_reducible refine Ow.nil ?_
    ((try with_reducible refine Cw.go [] ?_); (try simp (disch := (first | assumption | omega | (simp only [lenS, lenT, UInt64.reduceToNat]; try omega))) only [↓Sx.S0, Sx.S1, Tryz.fx, uW6_1, Nat.reduceAdd, Nat.reducePow, Int.reducePow, Nat.reduceBEq, ↓reduceIte, UInt8.reduceToNat, UInt16.reduceToNat, UInt32.reduceToNat, UInt64.reduceToNat, Int.reduceToNat]))
    refine cdC.splitp (fun hc => ?_) (fun hc => ?_)
    · ((try with_reducible refine Cw.go [] ?_); (try simp (disch := (first | assumption | omega | (simp only [lenS, lenT, UInt64.reduceToNat]; try omega))) only [↓Sx.S0, Sx.S1, Tryz.fx, uW6_1, Nat.reduceAdd, Nat.reducePow, Int.reducePow, Nat.reduceBEq, ↓reduceIte, UInt8.reduceToNat, UInt16.reduceToNat, UInt32.reduceToNat, UInt64.reduceToNat, Int.reduceToNat]))
      refine ⟨_, (by simp (disch := (first | assumption | omega | (simp only [lenS, lenT, UInt64.reduceToNat]; try omega))) only [↓Sx.S0, Sx.S1, Tryz.fx, uW6_1, Nat.reduceAdd, Nat.reducePow, Int.reducePow, Nat.reduceBEq, ↓reduceIte, UInt8.reduceToNat, UInt16.reduceToNat, UInt32.reduceToNat, UInt64.reduceToNat, Int.reduceToNat]; rfl), trivial, ?_⟩
      simp [hc, he, tupV]
    · ((try with_reducible refine Cw.go [] ?_); (try simp (disch := (first | assumption | omega | (simp only [lenS, lenT, UInt64.reduceToNat]; try omega))) only [↓Sx.S0, Sx.S1, Tryz.fx, uW6_1, Nat.reduceAdd, Nat.reducePow, Int.reducePow, Nat.reduceBEq, ↓reduceIte, UInt8.reduceToNat, UInt16.reduceToNat, UInt32.reduceToNat, UInt64.reduceToNat, Int.reduceToNat]))
      refine ⟨_, (by simp (disch := (first | assumption | omega | (simp only [lenS, lenT, UInt64.reduceToNat]; try omega))) only [↓Sx.S0, Sx.S1, Tryz.fx, uW6_1, Nat.reduceAdd, Nat.reducePow, Int.reducePow, Nat.reduceBEq, ↓reduceIte, UInt8.reduceToNat, UInt16.reduceToNat, UInt32.reduceToNat, UInt64.reduceToNat, Int.reduceToNat]; rfl), trivial, ?_⟩
      simp [hc, he, tupV]
  · ((try with_reducible refine Cw.go [] ?_); (try simp (disch := (first | assumption | omega | (simp only [lenS, lenT, UInt64.reduceToNat]; try omega))) only [↓Sx.S0, Sx.S1, Tryz.fx, uW6_1, Nat.reduceAdd, Nat.reducePow, Int.reducePow, Nat.reduceBEq, ↓reduceIte, UInt8.reduceToNat, UInt16.reduceToNat, UInt32.reduceToNat, UInt64.reduceToNat, Int.reduceToNat]))
    refine ⟨_, (by simp (disch := (first | assumption | omega | (simp only [lenS, lenT, UInt64.reduceToNat]; try omega))) only [↓Sx.S0, Sx.S1, Tryz.fx, uW6_1, Nat.reduceAdd, Nat.reducePow, Int.reducePow, Nat.reduceBEq, ↓reduceIte, UInt8.reduceToNat, UInt16.reduceToNat, UInt32.reduceToNat, UInt64.reduceToNat, Int.reduceToNat]; rfl), trivial, ?_⟩
    simp [he, tupV]
theorem Rfail_spec (b : Nat) (s : List UInt8) (a e x y : Int) (w : World) (ho : w.heap[b]? = some (.cells #[vs s, vi a, vi e] 108 (0, 0))) :
    Rets Tryz.prog 68 #[vp b 0, vi x, vi y] w (fun v D => ∃ o, D = [(b, o)] ∧ v = .tuple #[] ∧ o = .cells #[vs s, vi (if e = 0 then y else a), vi (if e = 0 then x else e)] 108 (0, 0)) := by
  refine Rets.enterM Tryz.func68 rfl (rs := []) Tryz.results68 Tryz.ntmps68 ho ?_
  simp only [List.size_toArray, List.length_cons, List.length_nil, Nat.reduceAdd, Nat.reduceSub, List.replicate_succ, List.replicate_zero, List.cons_append, List.nil_append]
  ((try with_reducible refine Cw.go [] ?_); (try simp (disch := (first | assumption | omega | (simp only [lenS, lenT, UInt64.reduceToNat]; try omega))) only [↓Sx.S0, Sx.S1, Tryz.fx, uW6_1, Nat.reduceAdd, Nat.reducePow, Int.reducePow, Nat.reduceBEq, ↓reduceIte, UInt8.reduceToNat, UInt16.reduceToNat, UInt32.reduceToNat, UInt64.reduceToNat, Int.reduceToNat]))
  by_cases he : e = 0
  · ((try with_reducible refine Cw.go [] ?_); (try simp (disch := (first | assumption | omega | (simp only [lenS, lenT, UInt64.reduceToNat]; try omega))) only [↓Sx.S0, Sx.S1, Tryz.fx, uW6_1, Nat.reduceAdd, Nat.reducePow, Int.reducePow, Nat.reduceBEq, ↓reduceIte, UInt8.reduceToNat, UInt16.reduceToNat, UInt32.reduceToNat, UInt64.reduceToNat, Int.reduceToNat]))
    refine ⟨_, _, _, (by simp (disch := (first | assumption | omega | (simp only [lenS, lenT, UInt64.reduceToNat]; try omega))) only [↓Sx.S0, Sx.S1, Tryz.fx, uW6_1, Nat.reduceAdd, Nat.reducePow, Int.reducePow, Nat.reduceBEq, ↓reduceIte, UInt8.reduceToNat, UInt16.reduceToNat, UInt32.reduceToNat, UInt64.reduceToNat, Int.reduceToNat]; rfl), rfl, trivial, ?_⟩
    simp [he, tupV]
  · ((try with_reducible refine Cw.go [] ?_); (try simp (disch := (first | assumption | omega | (simp only [lenS, lenT, UInt64.reduceToNat]; try omega))) only [↓Sx.S0, Sx.S1, Tryz.fx, uW6_1, Nat.reduceAdd, Nat.reducePow, Int.reducePow, Nat.reduceBEq, ↓reduceIte, UInt8.reduceToNat, UInt16.reduceToNat, UInt32.reduceToNat, UInt64.reduceToNat, Int.reduceToNat]))
    refine ⟨_, _, _, (by simp (disch := (first | assumption | omega | (simp only [lenS, lenT, UInt64.reduceToNat]; try omega))) only [↓Sx.S0, Sx.S1, Tryz.fx, uW6_1, Nat.reduceAdd, Nat.reducePow, Int.reducePow, Nat.reduceBEq, ↓reduceIte, UInt8.reduceToNat, UInt16.reduceToNat, UInt32.reduceToNat, UInt64.reduceToNat, Int.reduceToNat]; rfl), rfl, trivial, ?_⟩
    simp [he, tupV]
/-- So many bytes: what is read, where the reader stands then, its error. -/
def rawR (s : List UInt8) (a : Nat) (e n : Int) : List UInt8 × Nat × Int :=
  if e ≠ 0 then ([], a, e) else if n < 0 then ([], a, 2) else if (s.length : Int) - a < n then ([], a, 3) else ((s.drop a).take n.toNat, a + n.toNat, 0)
theorem RRaw_spec (b : Nat) (s : List UInt8) (a : Nat) (e n : Int) (w : World) (ha : a ≤ s.length) (hs : s.length < 1099511627776) (ho : w.heap[b]? = some (.cells #[vs s, vi a, vi e] 108 (0, 0))) :
    Rets Tryz.prog 87 #[vp b 0, vi n] w (fun v D => ∃ o, D = [(b, o)] ∧ v = vs (rawR s a e n).1 ∧ o = .cells #[vs s, vi (rawR s a e n).2.1, vi (rawR s a e n).2.2] 108 (0, 0)) := by
  refine Rets.enterM Tryz.func87 rfl (rs := [.tmp 4]) Tryz.results87 Tryz.ntmps87 ho ?_
  simp only [List.size_toArray, List.length_cons, List.length_nil, Nat.reduceAdd, Nat.reduceSub, List.replicate_succ, List.replicate_zero, List.cons_append, List.nil_append]
  ((try with_reducible refine Cw.go [] ?_); (try simp (disch := (first | assumption | omega | (simp only [lenS, lenT, UInt64.reduceToNat]; try omega))) only [↓Sx.S0, Sx.S1, Tryz.fx, uW6_1, Nat.reduceAdd, Nat.reducePow, Int.reducePow, Nat.reduceBEq, ↓reduceIte, UInt8.reduceToNat, UInt16.reduceToNat, UInt32.reduceToNat, UInt64.reduceToNat, Int.reduceToNat]))
  refine Ow.callFV rfl Tryz.call67 (fun w' hw' => RErr_spec b s a e w' (hw'.has _ _ List.mem_cons_self)) ?_
  refine Ow.go rfl ?_
  simp (disch := (first | assumption | omega | (simp only [lenS, lenT, UInt64.reduceToNat]; try omega))) only [↓Sx.S0, Sx.S1, Tryz.fx, uW6_1, Nat.reduceAdd, Nat.reducePow, Int.reducePow, Nat.reduceBEq, ↓reduceIte, UInt8.reduceToNat, UInt16.reduceToNat, UInt32.reduceToNat, UInt64.reduceToNat, Int.reduceToNat]
  ((try with_reducible refine Cw.go [] ?_); (try simp (disch := (first | assumption | omega | (simp only [lenS, lenT, UInt64.reduceToNat]; try omega))) only [↓Sx.S0, Sx.S1, Tryz.fx, uW6_1, Nat.reduceAdd, Nat.reducePow, Int.reducePow, Nat.reduceBEq, ↓reduceIte, UInt8.reduceToNat, UInt16.reduceToNat, UInt32.reduceToNat, UInt64.reduceToNat, Int.reduceToNat]))
  unfold rawR
  by_cases he : e = 0
  · subst he
    rw [if_neg (fun h => h rfl)]
    ((try with_reducible refine Cw.go [] ?_); (try simp (disch := (first | assumption | omega | (simp only [lenS, lenT, UInt64.reduceToNat]; try omega))) only [↓Sx.S0, Sx.S1, Tryz.fx, uW6_1, Nat.reduceAdd, Nat.reducePow, Int.reducePow, Nat.reduceBEq, ↓reduceIte, UInt8.reduceToNat, UInt16.reduceToNat, UInt32.reduceToNat, UInt64.reduceToNat, Int.reduceToNat]))
    by_cases hn : n < 0
    · rw [if_pos hn]
      ((try with_reducible refine Cw.go [] ?_); (try simp (disch := (first | assumption | omega | (simp only [lenS, lenT, UInt64.reduceToNat]; try omega))) only [↓Sx.S0, Sx.S1, Tryz.fx, uW6_1, Nat.reduceAdd, Nat.reducePow, Int.reducePow, Nat.reduceBEq, ↓reduceIte, UInt8.reduceToNat, UInt16.reduceToNat, UInt32.reduceToNat, UInt64.reduceToNat, Int.reduceToNat]))
      refine Ow.callM rfl rfl Tryz.call68 (by simp [keys]) (fun w' hw' => Rfail_spec b s a 0 2 a w' (hw'.has _ _ List.mem_cons_self)) ?_
      refine Ow.go rfl ?_
      simp (disch := (first | assumption | omega | (simp only [lenS, lenT, UInt64.reduceToNat]; try omega))) only [↓Sx.S0, Sx.S1, Tryz.fx, uW6_1, Nat.reduceAdd, Nat.reducePow, Int.reducePow, Nat.reduceBEq, ↓reduceIte, UInt8.reduceToNat, UInt16.reduceToNat, UInt32.reduceToNat, UInt64.reduceToNat, Int.reduceToNat]
      ((try with_reducible refine Cw.go [] ?_); (try simp (disch := (first | assumption | omega | (simp only [lenS, lenT, UInt64.reduceToNat]; try omega))) only [↓Sx.S0, Sx.S1, Tryz.fx, uW6_1, Nat.reduceAdd, Nat.reducePow, Int.reducePow, Nat.reduceBEq, ↓reduceIte, UInt8.reduceToNat, UInt16.reduceToNat, UInt32.reduceToNat, UInt64.reduceToNat, Int.reduceToNat]))
      refine ⟨_, _, _, (by simp (disch := (first | assumption | omega | (simp only [lenS, lenT, UInt64.reduceToNat]; try omega))) only [↓Sx.S0, Sx.S1, Tryz.fx, uW6_1, Nat.reduceAdd, Nat.reducePow, Int.reducePow, Nat.reduceBEq, ↓reduceIte, UInt8.reduceToNat, UInt16.reduceToNat, UInt32.reduceToNat, UInt64.reduceToNat, Int.reduceToNat]; rfl), rfl, trivial, ?_⟩
      exact ⟨rfl, rfl⟩
    · rw [if_neg hn]
      ((try with_reducible refine Cw.go [] ?_); (try simp (disch := (first | assumption | omega | (simp only [lenS, lenT, UInt64.reduceToNat]; try omega))) only [↓Sx.S0, Sx.S1, Tryz.fx, uW6_1, Nat.reduceAdd, Nat.reducePow, Int.reducePow, Nat.reduceBEq, ↓reduceIte, UInt8.reduceToNat, UInt16.reduceToNat, UInt32.reduceToNat, UInt64.reduceToNat, Int.reduceToNat]))
      refine Cw.regionS [b] [0, 1, 2, 3, 6, 7, 8, 4, 5, 9, 10, 11, 12] [] (by kernel_rfl) (by kernel_rfl) (by kernel_rfl) ?_
      simp only [nl_cons, ↓pickL_nil, ↓pickL_cons, ↓nthO_0, ↓nthO_s, consO_some]
      refine Ow.goQ ?_
      simp (disch := (first | assumption | omega | (simp only [lenS, lenT, UInt64.reduceToNat]; try omega))) only [↓Sx.S0, Sx.S1, Tryz.fx, uW6_1, Nat.reduceAdd, Nat.reducePow, Int.reducePow, Nat.reduceBEq, ↓reduceIte, UInt8.reduceToNat, UInt16.reduceToNat, UInt32.reduceToNat, UInt64.reduceToNat, Int.reduceToNat]
      try with_reducible refine Ow.nil ?_
      ((try with_reducible refine Cw.go [] ?_); (try simp (disch := (first | assumption | omega | (simp only [lenS, lenT, UInt64.reduceToNat]; try omega))) only [↓Sx.S0, Sx.S1, Tryz.fx, uW6_1, Nat.reduceAdd, Nat.reducePow, Int.reducePow, Nat.reduceBEq, ↓reduceIte, UInt8.reduceToNat, UInt16.reduceToNat, UInt32.reduceToNat, UInt64.reduceToNat, Int.reduceToNat]))
      by_cases hl : (s.length : Int) - a < n
      · rw [if_pos hl]
        ((try with_reducible refine Cw.go [] ?_); (try simp (disch := (first | assumption | omega | (simp only [lenS, lenT, UInt64.reduceToNat]; try omega))) only [↓Sx.S0, Sx.S1, Tryz.fx, uW6_1, Nat.reduceAdd, Nat.reducePow, Int.reducePow, Nat.reduceBEq, ↓reduceIte, UInt8.reduceToNat, UInt16.reduceToNat, UInt32.reduceToNat, UInt64.reduceToNat, Int.reduceToNat]))
        refine Ow.callM rfl rfl Tryz.call68 (by simp [keys]) (fun w' hw' => Rfail_spec b s a 0 3 a w' (hw'.has _ _ List.mem_cons_self)) ?_
        refine Ow.go rfl ?_
        simp (disch := (first | assumption | omega | (simp only [lenS, lenT, UInt64.reduceToNat]; try omega))) only [↓Sx.S0, Sx.S1, Tryz.fx, uW6_1, Nat.reduceAdd, Nat.reducePow, Int.reducePow, Nat.reduceBEq, ↓reduceIte, UInt8.reduceToNat, UInt16.reduceToNat, UInt32.reduceToNat, UInt64.reduceToNat, Int.reduceToNat]
        ((try with_reducible refine Cw.go [] ?_); (try simp (disch := (first | assumption | omega | (simp only [lenS, lenT, UInt64.reduceToNat]; try omega))) only [↓Sx.S0, Sx.S1, Tryz.fx, uW6_1, Nat.reduceAdd, Nat.reducePow, Int.reducePow, Nat.reduceBEq, ↓reduceIte, UInt8.reduceToNat, UInt16.reduceToNat, UInt32.reduceToNat, UInt64.reduceToNat, Int.reduceToNat]))
        refine ⟨_, _, _, (by simp (disch := (first | assumption | omega | (simp only [lenS, lenT, UInt64.reduceToNat]; try omega))) only [↓Sx.S0, Sx.S1, Tryz.fx, uW6_1, Nat.reduceAdd, Nat.reducePow, Int.reducePow, Nat.reduceBEq, ↓reduceIte, UInt8.reduceToNat, UInt16.reduceToNat, UInt32.reduceToNat, UInt64.reduceToNat, Int.reduceToNat]; rfl), rfl, trivial, ?_⟩
        exact ⟨rfl, rfl⟩
      · rw [if_neg hl]
        obtain ⟨m, rfl⟩ : ∃ m : Nat, n = (m : Int) := ⟨n.toNat, by omega⟩
        ((try with_reducible refine Cw.go [] ?_); (try simp (disch := (first | assumption | omega | (simp only [lenS, lenT, UInt64.reduceToNat]; try omega))) only [↓Sx.S0, Sx.S1, Tryz.fx, uW6_1, Nat.reduceAdd, Nat.reducePow, Int.reducePow, Nat.reduceBEq, ↓reduceIte, UInt8.reduceToNat, UInt16.reduceToNat, UInt32.reduceToNat, UInt64.reduceToNat, Int.reduceToNat]))
        refine Cw.regionS [b] [0, 1, 2, 4, 5, 6, 8, 9, 10, 12, 3, 7, 11, 13, 14, 15] [] (by kernel_rfl) (by kernel_rfl) (by kernel_rfl) ?_
        simp only [nl_cons, ↓pickL_nil, ↓pickL_cons, ↓nthO_0, ↓nthO_s, consO_some]
        refine Ow.goQ ?_
        simp (disch := (first | assumption | omega | (simp only [lenS, lenT, UInt64.reduceToNat]; try omega))) only [↓Sx.S0, Sx.S1, Tryz.fx, uW6_1, Nat.reduceAdd, Nat.reducePow, Int.reducePow, Nat.reduceBEq, ↓reduceIte, UInt8.reduceToNat, UInt16.reduceToNat, UInt32.reduceToNat, UInt64.reduceToNat, Int.reduceToNat]
        try with_reducible refine Ow.nil ?_
        ((try with_reducible refine Cw.go [] ?_); (try simp (disch := (first | assumption | omega | (simp only [lenS, lenT, UInt64.reduceToNat]; try omega))) only [↓Sx.S0, Sx.S1, Tryz.fx, uW6_1, Nat.reduceAdd, Nat.reducePow, Int.reducePow, Nat.reduceBEq, ↓reduceIte, UInt8.reduceToNat, UInt16.reduceToNat, UInt32.reduceToNat, UInt64.reduceToNat, Int.reduceToNat]))
        refine ⟨_, _, _, (by simp (disch := (first | assumption | omega | (simp only [lenS, lenT, UInt64.reduceToNat]; try omega))) only [↓Sx.S0, Sx.S1, Tryz.fx, uW6_1, Nat.reduceAdd, Nat.reducePow, Int.reducePow, Nat.reduceBEq, ↓reduceIte, UInt8.reduceToNat, UInt16.reduceToNat, UInt32.reduceToNat, UInt64.reduceToNat, Int.reduceToNat]; rfl), rfl, trivial, ?_⟩
        refine ⟨?_, ?_⟩
        · simp only [tupV, Int.toNat_natCast]
          rw [List.drop_take, Nat.add_sub_cancel_left]
        · rw [Int.toNat_natCast, Int.natCast_add]
  · rw [if_pos he]
    ((try with_reducible refine Cw.go [] ?_); (try simp (disch := (first | assumption | omega | (simp only [lenS, lenT, UInt64.reduceToNat]; try omega))) only [↓Sx.S0, Sx.S1, Tryz.fx, uW6_1, Nat.reduceAdd, Nat.reducePow, Int.reducePow, Nat.reduceBEq, ↓reduceIte, UInt8.reduceToNat, UInt16.reduceToNat, UInt32.reduceToNat, UInt64.reduceToNat, Int.reduceToNat]))
    refine ⟨_, _, _, (by simp (disch := (first | assumption | omega | (simp only [lenS, lenT, UInt64.reduceToNat]; try omega))) only [↓Sx.S0, Sx.S1, Tryz.fx, uW6_1, Nat.reduceAdd, Nat.reducePow, Int.reducePow, Nat.reduceBEq, ↓reduceIte, UInt8.reduceToNat, UInt16.reduceToNat, UInt32.reduceToNat, UInt64.reduceToNat, Int.reduceToNat]; rfl), rfl, trivial, ?_⟩
    exact ⟨rfl, rfl⟩
end Go.Proofs
end
section
open Go Go.Proofs Go.Sx
namespace Go.Proofs
set_option maxRecDepth 10000
set_option maxHeartbeats 8000000
set_option linter.unusedSimpArgs false
set_option linter.defProp false
def uW7_1 := And.intro (And.intro (And.intro (@load_rd0) (@load_rd1)) (And.intro (@load_rd2) (@store_rd1))) (And.intro (And.intro (@store_rd2) (@nilR)) (And.intro (@nilR') (And.intro (@nnilR) (@nnilR'))))
/-- A number at the beginning of some bytes, k of which have been read; how many there are then; or an error. -/
def numGo (most : Int) : List UInt8 → Nat → Nat → Except Nat (Nat × Nat)
  | [], _, _ => .error 3
  | c :: r, k, n =>
    if 128 ≤ c.toNat then (if k + 1 = 6 then .error 4 else numGo most r (k + 1) (n + c.toNat % 128 * 128 ^ k))
    else if c.toNat = 0 ∧ 0 < k then .error 2
    else if n + c.toNat % 128 * 128 ^ k ≤ 1099511627775 ∧ ((n + c.toNat % 128 * 128 ^ k : Nat) : Int) ≤ most then .ok (n + c.toNat % 128 * 128 ^ k, k + 1)
    else .error 4
def numR (s : List UInt8) (a : Nat) (e most : Int) : Int × Nat × Int :=
  if e ≠ 0 then (0, a, e) else match numGo most (s.drop a) 0 0 with
    | .ok (n, k) => (n, a + k, 0)
    | .error x => (0, a, x)
theorem numR_ok {s : List UInt8} {a : Nat} {e most : Int} {n k : Nat} (he : e = 0) (h : numGo most (s.drop a) 0 0 = .ok (n, k)) : numR s a e most = ((n : Int), a + k, 0) := by
  unfold numR; rw [if_neg (by simp [he]), h]
theorem numR_err {s : List UInt8} {a : Nat} {e most : Int} {x : Nat} (he : e = 0) (h : numGo most (s.drop a) 0 0 = .error x) : numR s a e most = (0, a, (x : Int)) := by
  unfold numR; rw [if_neg (by simp [he]), h]
structure NumS where
  more : Bool
  k : Nat
  n : Nat
  x : Nat
theorem RNumber_spec (b : Nat) (s : List UInt8) (a : Nat) (e most : Int) (w : World) (ha : a ≤ s.length) (hs : s.length < 1099511627776) (ho : w.heap[b]? = some (.cells #[vs s, vi a, vi e] 108 (0, 0))) :
    Rets Tryz.prog 44 #[vp b 0, vi most] w (fun v D => ∃ o, D = [(b, o)] ∧ v = vi (numR s a e most).1 ∧ o = .cells #[vs s, vi (numR s a e most).2.1, vi (numR s a e most).2.2] 108 (0, 0)) := by
  refine Rets.enterM Tryz.func44 rfl (rs := [.tmp 4]) Tryz.results44 Tryz.ntmps44 ho ?_
  simp only [List.size_toArray, List.length_cons, List.length_nil, Nat.reduceAdd, Nat.reduceSub, List.replicate_succ, List.replicate_zero, List.cons_append, List.nil_append]
  ((try with_reducible refine Cw.go [] ?_); (try simp (disch := (first | assumption | omega | (simp only [lenS, lenT, UInt64.reduceToNat]; try omega))) only [↓Sx.S0, Sx.S1, Tryz.fx, uW7_1, Nat.reduceAdd, Nat.reducePow, Int.reducePow, Nat.reduceBEq, ↓reduceIte, UInt8.reduceToNat, UInt16.reduceToNat, UInt32.reduceToNat, UInt64.reduceToNat, Int.reduceToNat]))
  by_cases he : e = 0
  · subst he
    refine Cw.scopeL (G := NumS) (fun g => (if g.more then 1 else 0)) [10, 11, 12, 4, 5, 6, 7, 13, 14, 15, 16, 8, 9, 17, 18, 19, 20, 21, 22, 23, 24, 25, 26, 27, 28, 29, 30, 31, 32, 33, 34, 35, 36, 37, 38, 39, 40, 41, 42, 43, 44, 45, 46, 47, 48, 49, 50, 51, 52, 53, 54, 55, 56, 57, 58, 59, 60, 61, 62, 63, 64, 65, 66, 67, 68, 69, 70, 71, 72, 73] (fun g => (if g.more then [(5, vi g.n), (6, vi (7 * g.k : Nat)), (8, vi 3), (9, vi a)] else [(8, vi g.x), (9, vi a)])) (fun g => [(b, .cells #[vs s, vi (a + g.k : Nat), vi 0] 108 (0, 0))]) (fun g => a + g.k ≤ s.length ∧ (if g.more then numGo most (s.drop a) 0 0 = numGo most (s.drop (a + g.k)) g.k g.n ∧ g.n < 128 ^ g.k ∧ g.k < 6 else numGo most (s.drop a) 0 0 = .error g.x)) (fun g => (if g.more then 7 - g.k else 0)) ?_ ?_ ?_
    · intro g
      obtain ⟨m, k, n, x⟩ := g
      cases m <;> rfl
    · intro g j hg
      obtain ⟨m, k, n, x⟩ := g
      obtain ⟨hk, hg⟩ := hg
      simp only at hk
      cases m with
      | false =>
        simp only [Bool.false_eq_true, ↓reduceIte] at hg ⊢
        simp only [contP, hasL, Bool.or_false, Bool.false_or, Bool.or_true, Bool.true_or, Nat.reduceBEq, beq_self_eq_true, ↓reduceIte, Bool.false_eq_true]
        simp only [overFrom, pin, setF_0, setF_s, List.contains_cons, List.contains_nil, Nat.reduceBEq, Bool.or_false, Bool.false_or, Bool.or_true, Bool.true_or, Nat.reduceAdd, ↓reduceIte, Bool.false_eq_true]
        try with_reducible refine thenK_normal ?_
        ((try with_reducible refine Cw.go [] ?_); (try simp (disch := (first | assumption | omega | (simp only [lenS, lenT, UInt64.reduceToNat]; try omega))) only [↓Sx.S0, Sx.S1, Tryz.fx, uW7_1, Nat.reduceAdd, Nat.reducePow, Int.reducePow, Nat.reduceBEq, ↓reduceIte, UInt8.reduceToNat, UInt16.reduceToNat, UInt32.reduceToNat, UInt64.reduceToNat, Int.reduceToNat]))
        refine Ow.callM rfl rfl Tryz.call68 (by simp [keys]) (fun w' hw' => Rfail_spec b s _ 0 x a w' (hw'.has _ _ List.mem_cons_self)) ?_
        refine Ow.go rfl ?_
        simp (disch := (first | assumption | omega | (simp only [lenS, lenT, UInt64.reduceToNat]; try omega))) only [↓Sx.S0, Sx.S1, Tryz.fx, uW7_1, Nat.reduceAdd, Nat.reducePow, Int.reducePow, Nat.reduceBEq, ↓reduceIte, UInt8.reduceToNat, UInt16.reduceToNat, UInt32.reduceToNat, UInt64.reduceToNat, Int.reduceToNat]
        ((try with_reducible refine Cw.go [] ?_); (try simp (disch := (first | assumption | omega | (simp only [lenS, lenT, UInt64.reduceToNat]; try omega))) only [↓Sx.S0, Sx.S1, Tryz.fx, uW7_1, Nat.reduceAdd, Nat.reducePow, Int.reducePow, Nat.reduceBEq, ↓reduceIte, UInt8.reduceToNat, UInt16.reduceToNat, UInt32.reduceToNat, UInt64.reduceToNat, Int.reduceToNat]))
        rw [numR_err rfl hg]
        refine ⟨_, _, _, (by simp (disch := (first | assumption | omega | (simp only [lenS, lenT, UInt64.reduceToNat]; try omega))) only [↓Sx.S0, Sx.S1, Tryz.fx, uW7_1, Nat.reduceAdd, Nat.reducePow, Int.reducePow, Nat.reduceBEq, ↓reduceIte, UInt8.reduceToNat, UInt16.reduceToNat, UInt32.reduceToNat, UInt64.reduceToNat, Int.reduceToNat]; rfl), rfl, trivial, ?_⟩
        simp [tupV]
      | true =>
        simp only [↓reduceIte] at hg ⊢
        obtain ⟨hgo, hn, hk6⟩ := hg
        simp only [contP, hasL, Bool.or_false, Bool.false_or, Bool.or_true, Bool.true_or, Nat.reduceBEq, beq_self_eq_true, ↓reduceIte, Bool.false_eq_true]
        simp only [overFrom, pin, setF_0, setF_s, List.contains_cons, List.contains_nil, Nat.reduceBEq, Bool.or_false, Bool.false_or, Bool.or_true, Bool.true_or, Nat.reduceAdd, ↓reduceIte, Bool.false_eq_true]
        try with_reducible refine thenK_normal ?_
        ((try with_reducible refine Cw.go [] ?_); (try simp (disch := (first | assumption | omega | (simp only [lenS, lenT, UInt64.reduceToNat]; try omega))) only [↓Sx.S0, Sx.S1, Tryz.fx, uW7_1, Nat.reduceAdd, Nat.reducePow, Int.reducePow, Nat.reduceBEq, ↓reduceIte, UInt8.reduceToNat, UInt16.reduceToNat, UInt32.reduceToNat, UInt64.reduceToNat, Int.reduceToNat]))
        refine Cw.regionS [b] [0, 1, 2, 4, 5, 6, 3, 7, 8, 9] [] (by kernel_rfl) (by kernel_rfl) (by kernel_rfl) ?_
        simp only [nl_cons, ↓pickL_nil, ↓pickL_cons, ↓nthO_0, ↓nthO_s, consO_some]
        refine Ow.goQ ?_
        simp (disch := (first | assumption | omega | (simp only [lenS, lenT, UInt64.reduceToNat]; try omega))) only [↓Sx.S0, Sx.S1, Tryz.fx, uW7_1, Nat.reduceAdd, Nat.reducePow, Int.reducePow, Nat.reduceBEq, ↓reduceIte, UInt8.reduceToNat, UInt16.reduceToNat, UInt32.reduceToNat, UInt64.reduceToNat, Int.reduceToNat]
        try with_reducible refine Ow.nil ?_
        by_cases hend : a + k = s.length
        · ((try with_reducible refine Cw.go [] ?_); (try simp (disch := (first | assumption | omega | (simp only [lenS, lenT, UInt64.reduceToNat]; try omega))) only [↓Sx.S0, Sx.S1, Tryz.fx, uW7_1, Nat.reduceAdd, Nat.reducePow, Int.reducePow, Nat.reduceBEq, ↓reduceIte, UInt8.reduceToNat, UInt16.reduceToNat, UInt32.reduceToNat, UInt64.reduceToNat, Int.reduceToNat]))
          refine Jump.mk (NumS.mk false k n 3) rfl (by show 0 < 7 - k; omega) ⟨hk, ?_⟩ rfl rfl
          show numGo most (s.drop a) 0 0 = .error 3
          rw [hgo, hend, List.drop_length]; rfl
        · ((try with_reducible refine Cw.go [] ?_); (try simp (disch := (first | assumption | omega | (simp only [lenS, lenT, UInt64.reduceToNat]; try omega))) only [↓Sx.S0, Sx.S1, Tryz.fx, uW7_1, Nat.reduceAdd, Nat.reducePow, Int.reducePow, Nat.reduceBEq, ↓reduceIte, UInt8.reduceToNat, UInt16.reduceToNat, UInt32.reduceToNat, UInt64.reduceToNat, Int.reduceToNat]))
          have hak : a + k < s.length := by omega
          have hdrop : s.drop (a + k) = s.getD (a + k) 0 :: s.drop (a + k + 1) := by
            rw [List.drop_eq_getElem_cons hak, List.getD_eq_getElem?_getD, List.getElem?_eq_getElem hak]; rfl
          rw [hdrop] at hgo
          refine Cw.regionS [b] [0, 1, 2, 4, 5, 6, 3, 7, 8, 9] [] (by kernel_rfl) (by kernel_rfl) (by kernel_rfl) ?_
          simp only [nl_cons, ↓pickL_nil, ↓pickL_cons, ↓nthO_0, ↓nthO_s, consO_some]
          refine Ow.goQ ?_
          simp (disch := (first | assumption | omega | (simp only [lenS, lenT, UInt64.reduceToNat]; try omega))) only [↓Sx.S0, Sx.S1, Tryz.fx, uW7_1, Nat.reduceAdd, Nat.reducePow, Int.reducePow, Nat.reduceBEq, ↓reduceIte, UInt8.reduceToNat, UInt16.reduceToNat, UInt32.reduceToNat, UInt64.reduceToNat, Int.reduceToNat]
          try with_reducible refine Ow.nil ?_
          generalize s.getD (a + k) 0 = c at *
          have hp : 128 ^ k ≤ 34359738368 := Nat.pow_le_pow_right (by omega) (show k ≤ 5 by omega)
          have hp0 : 0 < 128 ^ k := Nat.pow_pos (by omega)
          have hd : (c % 128).toNat = c.toNat % 128 := by simp
          have hcl := c.toNat_lt
          have hdm : c.toNat % 128 * 128 ^ k ≤ 127 * 128 ^ k := Nat.mul_le_mul_right _ (by omega)
          have hshl : binV .shl (vi ((c.toNat % 128 : Nat) : Int)) (vi ((7 * k : Nat) : Int)) = some (vi ((c.toNat % 128 * 128 ^ k : Nat) : Int)) := by
            have h2 : (2 : Int) ^ (7 * k) = ((128 ^ k : Nat) : Int) := by
              rw [Int.pow_mul]; push_cast; rfl
            have := shl_i_v ((c.toNat % 128 : Nat) : Int) .i64 (7 * k) (by rw [h2]; refine ⟨by omega, by omega, ?_⟩; rw [← Int.natCast_mul]; omega)
            rw [h2, ← Int.natCast_mul] at this
            exact this
          have hor : binV .or (vi (n : Int)) (vi ((c.toNat % 128 * 128 ^ k : Nat) : Int)) = some (vi ((n + c.toNat % 128 * 128 ^ k : Nat) : Int)) := by
            have := or_i (n : Int) ((c.toNat % 128 * 128 ^ k : Nat) : Int) ⟨by omega, by omega, by omega, by omega⟩
            rw [this]
            congr 3
            rw [Int.toNat_natCast, Int.toNat_natCast, show 128 ^ k = 2 ^ (7 * k) by rw [Nat.pow_mul], Nat.mul_comm, Nat.or_comm, ← Nat.two_pow_add_eq_or_of_lt (by rw [Nat.pow_mul]; exact hn), Nat.add_comm]
          have hlt : n + c.toNat % 128 * 128 ^ k < 128 ^ (k + 1) := by rw [Nat.pow_succ]; omega
          have hrem : binV .rem (v8 c) (v8 128) = some (v8 (c % 128)) := bin_rem_u8 _ _ (by decide)
          ((try with_reducible refine Cw.go [] ?_); (try simp (disch := (first | assumption | omega | (simp only [lenS, lenT, UInt64.reduceToNat]; try omega))) only [↓Sx.S0, Sx.S1, Tryz.fx, uW7_1, Nat.reduceAdd, Nat.reducePow, Int.reducePow, Nat.reduceBEq, ↓reduceIte, UInt8.reduceToNat, UInt16.reduceToNat, UInt32.reduceToNat, UInt64.reduceToNat, Int.reduceToNat, hrem, hd, hshl, hor]))
          have hle : decide ((128 : UInt8) ≤ c) = decide (128 ≤ c.toNat) := by simp [UInt8.le_iff_toNat_le]
          cases h128 : decide ((128 : UInt8) ≤ c)
          · rw [h128] at hle
            have hc128 : ¬ 128 ≤ c.toNat := of_decide_eq_false hle.symm
            cases hz : (c == 0)
            · have hc0 : ¬ (c.toNat = 0 ∧ 0 < k) := by
                rintro ⟨h0, -⟩
                have : c = 0 := UInt8.toNat_inj.1 h0
                rw [this] at hz
                exact absurd hz (by decide)
              ((try with_reducible refine Cw.go [] ?_); (try simp (disch := (first | assumption | omega | (simp only [lenS, lenT, UInt64.reduceToNat]; try omega))) only [↓Sx.S0, Sx.S1, Tryz.fx, uW7_1, Nat.reduceAdd, Nat.reducePow, Int.reducePow, Nat.reduceBEq, ↓reduceIte, UInt8.reduceToNat, UInt16.reduceToNat, UInt32.reduceToNat, UInt64.reduceToNat, Int.reduceToNat, hz]))
              by_cases hm : n + c.toNat % 128 * 128 ^ k ≤ 1099511627775
              · have e1 : decide (((n + c.toNat % 128 * 128 ^ k : Nat) : Int) ≤ 1099511627775) = true := decide_eq_true (by omega)
                ((try with_reducible refine Cw.go [] ?_); (try simp (disch := (first | assumption | omega | (simp only [lenS, lenT, UInt64.reduceToNat]; try omega))) only [↓Sx.S0, Sx.S1, Tryz.fx, uW7_1, Nat.reduceAdd, Nat.reducePow, Int.reducePow, Nat.reduceBEq, ↓reduceIte, UInt8.reduceToNat, UInt16.reduceToNat, UInt32.reduceToNat, UInt64.reduceToNat, Int.reduceToNat, e1]))
                by_cases hmo : ((n + c.toNat % 128 * 128 ^ k : Nat) : Int) ≤ most
                · ((try with_reducible refine Cw.go [] ?_); (try simp (disch := (first | assumption | omega | (simp only [lenS, lenT, UInt64.reduceToNat]; try omega))) only [↓Sx.S0, Sx.S1, Tryz.fx, uW7_1, Nat.reduceAdd, Nat.reducePow, Int.reducePow, Nat.reduceBEq, ↓reduceIte, UInt8.reduceToNat, UInt16.reduceToNat, UInt32.reduceToNat, UInt64.reduceToNat, Int.reduceToNat]))
                  rw [numR_ok rfl (by rw [hgo, numGo, if_neg hc128, if_neg hc0, if_pos ⟨hm, hmo⟩])]
                  refine ⟨_, _, _, (by simp (disch := (first | assumption | omega | (simp only [lenS, lenT, UInt64.reduceToNat]; try omega))) only [↓Sx.S0, Sx.S1, Tryz.fx, uW7_1, Nat.reduceAdd, Nat.reducePow, Int.reducePow, Nat.reduceBEq, ↓reduceIte, UInt8.reduceToNat, UInt16.reduceToNat, UInt32.reduceToNat, UInt64.reduceToNat, Int.reduceToNat]; rfl), rfl, trivial, ?_⟩
                  exact ⟨rfl, rfl⟩
                · ((try with_reducible refine Cw.go [] ?_); (try simp (disch := (first | assumption | omega | (simp only [lenS, lenT, UInt64.reduceToNat]; try omega))) only [↓Sx.S0, Sx.S1, Tryz.fx, uW7_1, Nat.reduceAdd, Nat.reducePow, Int.reducePow, Nat.reduceBEq, ↓reduceIte, UInt8.reduceToNat, UInt16.reduceToNat, UInt32.reduceToNat, UInt64.reduceToNat, Int.reduceToNat]))
                  refine Ow.callM rfl rfl Tryz.call68 (by simp [keys]) (fun w' hw' => Rfail_spec b s _ 0 4 a w' (hw'.has _ _ List.mem_cons_self)) ?_
                  refine Ow.go rfl ?_
                  simp (disch := (first | assumption | omega | (simp only [lenS, lenT, UInt64.reduceToNat]; try omega))) only [↓Sx.S0, Sx.S1, Tryz.fx, uW7_1, Nat.reduceAdd, Nat.reducePow, Int.reducePow, Nat.reduceBEq, ↓reduceIte, UInt8.reduceToNat, UInt16.reduceToNat, UInt32.reduceToNat, UInt64.reduceToNat, Int.reduceToNat]
                  ((try with_reducible refine Cw.go [] ?_); (try simp (disch := (first | assumption | omega | (simp only [lenS, lenT, UInt64.reduceToNat]; try omega))) only [↓Sx.S0, Sx.S1, Tryz.fx, uW7_1, Nat.reduceAdd, Nat.reducePow, Int.reducePow, Nat.reduceBEq, ↓reduceIte, UInt8.reduceToNat, UInt16.reduceToNat, UInt32.reduceToNat, UInt64.reduceToNat, Int.reduceToNat]))
                  rw [numR_err (x := 4) rfl (by rw [hgo, numGo, if_neg hc128, if_neg hc0, if_neg (fun h => hmo h.2)])]
                  refine ⟨_, _, _, (by simp (disch := (first | assumption | omega | (simp only [lenS, lenT, UInt64.reduceToNat]; try omega))) only [↓Sx.S0, Sx.S1, Tryz.fx, uW7_1, Nat.reduceAdd, Nat.reducePow, Int.reducePow, Nat.reduceBEq, ↓reduceIte, UInt8.reduceToNat, UInt16.reduceToNat, UInt32.reduceToNat, UInt64.reduceToNat, Int.reduceToNat]; rfl), rfl, trivial, ?_⟩
                  exact ⟨rfl, rfl⟩
              · have e1 : decide (((n + c.toNat % 128 * 128 ^ k : Nat) : Int) ≤ 1099511627775) = false := decide_eq_false (by omega)
                ((try with_reducible refine Cw.go [] ?_); (try simp (disch := (first | assumption | omega | (simp only [lenS, lenT, UInt64.reduceToNat]; try omega))) only [↓Sx.S0, Sx.S1, Tryz.fx, uW7_1, Nat.reduceAdd, Nat.reducePow, Int.reducePow, Nat.reduceBEq, ↓reduceIte, UInt8.reduceToNat, UInt16.reduceToNat, UInt32.reduceToNat, UInt64.reduceToNat, Int.reduceToNat, e1]))
                refine Ow.callM rfl rfl Tryz.call68 (by simp [keys]) (fun w' hw' => Rfail_spec b s _ 0 4 a w' (hw'.has _ _ List.mem_cons_self)) ?_
                refine Ow.go rfl ?_
                simp (disch := (first | assumption | omega | (simp only [lenS, lenT, UInt64.reduceToNat]; try omega))) only [↓Sx.S0, Sx.S1, Tryz.fx, uW7_1, Nat.reduceAdd, Nat.reducePow, Int.reducePow, Nat.reduceBEq, ↓reduceIte, UInt8.reduceToNat, UInt16.reduceToNat, UInt32.reduceToNat, UInt64.reduceToNat, Int.reduceToNat]
                ((try with_reducible refine Cw.go [] ?_); (try simp (disch := (first | assumption | omega | (simp only [lenS, lenT, UInt64.reduceToNat]; try omega))) only [↓Sx.S0, Sx.S1, Tryz.fx, uW7_1, Nat.reduceAdd, Nat.reducePow, Int.reducePow, Nat.reduceBEq, ↓reduceIte, UInt8.reduceToNat, UInt16.reduceToNat, UInt32.reduceToNat, UInt64.reduceToNat, Int.reduceToNat]))
                rw [numR_err (x := 4) rfl (by rw [hgo, numGo, if_neg hc128, if_neg hc0, if_neg (fun h => hm h.1)])]
                refine ⟨_, _, _, (by simp (disch := (first | assumption | omega | (simp only [lenS, lenT, UInt64.reduceToNat]; try omega))) only [↓Sx.S0, Sx.S1, Tryz.fx, uW7_1, Nat.reduceAdd, Nat.reducePow, Int.reducePow, Nat.reduceBEq, ↓reduceIte, UInt8.reduceToNat, UInt16.reduceToNat, UInt32.reduceToNat, UInt64.reduceToNat, Int.reduceToNat]; rfl), rfl, trivial, ?_⟩
                exact ⟨rfl, rfl⟩
            · have hcz : c = 0 := eq_of_beq hz
              have hct : c.toNat = 0 := by rw [hcz]; rfl
              ((try with_reducible refine Cw.go [] ?_); (try simp (disch := (first | assumption | omega | (simp only [lenS, lenT, UInt64.reduceToNat]; try omega))) only [↓Sx.S0, Sx.S1, Tryz.fx, uW7_1, Nat.reduceAdd, Nat.reducePow, Int.reducePow, Nat.reduceBEq, ↓reduceIte, UInt8.reduceToNat, UInt16.reduceToNat, UInt32.reduceToNat, UInt64.reduceToNat, Int.reduceToNat, hz]))
              by_cases hk0 : 0 < k
              · ((try with_reducible refine Cw.go [] ?_); (try simp (disch := (first | assumption | omega | (simp only [lenS, lenT, UInt64.reduceToNat]; try omega))) only [↓Sx.S0, Sx.S1, Tryz.fx, uW7_1, Nat.reduceAdd, Nat.reducePow, Int.reducePow, Nat.reduceBEq, ↓reduceIte, UInt8.reduceToNat, UInt16.reduceToNat, UInt32.reduceToNat, UInt64.reduceToNat, Int.reduceToNat]))
                refine Jump.mk (NumS.mk false (k + 1) n 2) rfl (by show 0 < 7 - k; omega) ⟨by show a + (k + 1) ≤ s.length; omega, ?_⟩ rfl rfl
                show numGo most (s.drop a) 0 0 = .error 2
                rw [hgo, numGo, if_neg hc128, if_pos ⟨hct, hk0⟩]
              · have hc0 : ¬ (c.toNat = 0 ∧ 0 < k) := fun h => hk0 h.2
                ((try with_reducible refine Cw.go [] ?_); (try simp (disch := (first | assumption | omega | (simp only [lenS, lenT, UInt64.reduceToNat]; try omega))) only [↓Sx.S0, Sx.S1, Tryz.fx, uW7_1, Nat.reduceAdd, Nat.reducePow, Int.reducePow, Nat.reduceBEq, ↓reduceIte, UInt8.reduceToNat, UInt16.reduceToNat, UInt32.reduceToNat, UInt64.reduceToNat, Int.reduceToNat]))
                by_cases hm : n + c.toNat % 128 * 128 ^ k ≤ 1099511627775
                · have e1 : decide (((n + c.toNat % 128 * 128 ^ k : Nat) : Int) ≤ 1099511627775) = true := decide_eq_true (by omega)
                  ((try with_reducible refine Cw.go [] ?_); (try simp (disch := (first | assumption | omega | (simp only [lenS, lenT, UInt64.reduceToNat]; try omega))) only [↓Sx.S0, Sx.S1, Tryz.fx, uW7_1, Nat.reduceAdd, Nat.reducePow, Int.reducePow, Nat.reduceBEq, ↓reduceIte, UInt8.reduceToNat, UInt16.reduceToNat, UInt32.reduceToNat, UInt64.reduceToNat, Int.reduceToNat, e1]))
                  by_cases hmo : ((n + c.toNat % 128 * 128 ^ k : Nat) : Int) ≤ most
                  · ((try with_reducible refine Cw.go [] ?_); (try simp (disch := (first | assumption | omega | (simp only [lenS, lenT, UInt64.reduceToNat]; try omega))) only [↓Sx.S0, Sx.S1, Tryz.fx, uW7_1, Nat.reduceAdd, Nat.reducePow, Int.reducePow, Nat.reduceBEq, ↓reduceIte, UInt8.reduceToNat, UInt16.reduceToNat, UInt32.reduceToNat, UInt64.reduceToNat, Int.reduceToNat]))
                    rw [numR_ok rfl (by rw [hgo, numGo, if_neg hc128, if_neg hc0, if_pos ⟨hm, hmo⟩])]
                    refine ⟨_, _, _, (by simp (disch := (first | assumption | omega | (simp only [lenS, lenT, UInt64.reduceToNat]; try omega))) only [↓Sx.S0, Sx.S1, Tryz.fx, uW7_1, Nat.reduceAdd, Nat.reducePow, Int.reducePow, Nat.reduceBEq, ↓reduceIte, UInt8.reduceToNat, UInt16.reduceToNat, UInt32.reduceToNat, UInt64.reduceToNat, Int.reduceToNat]; rfl), rfl, trivial, ?_⟩
                    exact ⟨rfl, rfl⟩
                  · ((try with_reducible refine Cw.go [] ?_); (try simp (disch := (first | assumption | omega | (simp only [lenS, lenT, UInt64.reduceToNat]; try omega))) only [↓Sx.S0, Sx.S1, Tryz.fx, uW7_1, Nat.reduceAdd, Nat.reducePow, Int.reducePow, Nat.reduceBEq, ↓reduceIte, UInt8.reduceToNat, UInt16.reduceToNat, UInt32.reduceToNat, UInt64.reduceToNat, Int.reduceToNat]))
                    refine Ow.callM rfl rfl Tryz.call68 (by simp [keys]) (fun w' hw' => Rfail_spec b s _ 0 4 a w' (hw'.has _ _ List.mem_cons_self)) ?_
                    refine Ow.go rfl ?_
                    simp (disch := (first | assumption | omega | (simp only [lenS, lenT, UInt64.reduceToNat]; try omega))) only [↓Sx.S0, Sx.S1, Tryz.fx, uW7_1, Nat.reduceAdd, Nat.reducePow, Int.reducePow, Nat.reduceBEq, ↓reduceIte, UInt8.reduceToNat, UInt16.reduceToNat, UInt32.reduceToNat, UInt64.reduceToNat, Int.reduceToNat]
                    ((try with_reducible refine Cw.go [] ?_); (try simp (disch := (first | assumption | omega | (simp only [lenS, lenT, UInt64.reduceToNat]; try omega))) only [↓Sx.S0, Sx.S1, Tryz.fx, uW7_1, Nat.reduceAdd, Nat.reducePow, Int.reducePow, Nat.reduceBEq, ↓reduceIte, UInt8.reduceToNat, UInt16.reduceToNat, UInt32.reduceToNat, UInt64.reduceToNat, Int.reduceToNat]))
                    rw [numR_err (x := 4) rfl (by rw [hgo, numGo, if_neg hc128, if_neg hc0, if_neg (fun h => hmo h.2)])]
                    refine ⟨_, _, _, (by simp (disch := (first | assumption | omega | (simp only [lenS, lenT, UInt64.reduceToNat]; try omega))) only [↓Sx.S0, Sx.S1, Tryz.fx, uW7_1, Nat.reduceAdd, Nat.reducePow, Int.reducePow, Nat.reduceBEq, ↓reduceIte, UInt8.reduceToNat, UInt16.reduceToNat, UInt32.reduceToNat, UInt64.reduceToNat, Int.reduceToNat]; rfl), rfl, trivial, ?_⟩
                    exact ⟨rfl, rfl⟩
                · have e1 : decide (((n + c.toNat % 128 * 128 ^ k : Nat) : Int) ≤ 1099511627775) = false := decide_eq_false (by omega)
                  ((try with_reducible refine Cw.go [] ?_); (try simp (disch := (first | assumption | omega | (simp only [lenS, lenT, UInt64.reduceToNat]; try omega))) only [↓Sx.S0, Sx.S1, Tryz.fx, uW7_1, Nat.reduceAdd, Nat.reducePow, Int.reducePow, Nat.reduceBEq, ↓reduceIte, UInt8.reduceToNat, UInt16.reduceToNat, UInt32.reduceToNat, UInt64.reduceToNat, Int.reduceToNat, e1]))
                  refine Ow.callM rfl rfl Tryz.call68 (by simp [keys]) (fun w' hw' => Rfail_spec b s _ 0 4 a w' (hw'.has _ _ List.mem_cons_self)) ?_
                  refine Ow.go rfl ?_
                  simp (disch := (first | assumption | omega | (simp only [lenS, lenT, UInt64.reduceToNat]; try omega))) only [↓Sx.S0, Sx.S1, Tryz.fx, uW7_1, Nat.reduceAdd, Nat.reducePow, Int.reducePow, Nat.reduceBEq, ↓reduceIte, UInt8.reduceToNat, UInt16.reduceToNat, UInt32.reduceToNat, UInt64.reduceToNat, Int.reduceToNat]
                  ((try with_reducible refine Cw.go [] ?_); (try simp (disch := (first | assumption | omega | (simp only [lenS, lenT, UInt64.reduceToNat]; try omega))) only [↓Sx.S0, Sx.S1, Tryz.fx, uW7_1, Nat.reduceAdd, Nat.reducePow, Int.reducePow, Nat.reduceBEq, ↓reduceIte, UInt8.reduceToNat, UInt16.reduceToNat, UInt32.reduceToNat, UInt64.reduceToNat, Int.reduceToNat]))
                  rw [numR_err (x := 4) rfl (by rw [hgo, numGo, if_neg hc128, if_neg hc0, if_neg (fun h => hm h.1)])]
                  refine ⟨_, _, _, (by simp (disch := (first | assumption | omega | (simp only [lenS, lenT, UInt64.reduceToNat]; try omega))) only [↓Sx.S0, Sx.S1, Tryz.fx, uW7_1, Nat.reduceAdd, Nat.reducePow, Int.reducePow, Nat.reduceBEq, ↓reduceIte, UInt8.reduceToNat, UInt16.reduceToNat, UInt32.reduceToNat, UInt64.reduceToNat, Int.reduceToNat]; rfl), rfl, trivial, ?_⟩
                  exact ⟨rfl, rfl⟩
          · rw [h128] at hle
            have hc128 : 128 ≤ c.toNat := of_decide_eq_true hle.symm
            ((try with_reducible refine Cw.go [] ?_); (try simp (disch := (first | assumption | omega | (simp only [lenS, lenT, UInt64.reduceToNat]; try omega))) only [↓Sx.S0, Sx.S1, Tryz.fx, uW7_1, Nat.reduceAdd, Nat.reducePow, Int.reducePow, Nat.reduceBEq, ↓reduceIte, UInt8.reduceToNat, UInt16.reduceToNat, UInt32.reduceToNat, UInt64.reduceToNat, Int.reduceToNat]))
            by_cases hk5 : k = 5
            · ((try with_reducible refine Cw.go [] ?_); (try simp (disch := (first | assumption | omega | (simp only [lenS, lenT, UInt64.reduceToNat]; try omega))) only [↓Sx.S0, Sx.S1, Tryz.fx, uW7_1, Nat.reduceAdd, Nat.reducePow, Int.reducePow, Nat.reduceBEq, ↓reduceIte, UInt8.reduceToNat, UInt16.reduceToNat, UInt32.reduceToNat, UInt64.reduceToNat, Int.reduceToNat]))
              refine Jump.mk (NumS.mk false (k + 1) n 4) rfl (by show 0 < 7 - k; omega) ⟨by show a + (k + 1) ≤ s.length; omega, ?_⟩ rfl rfl
              show numGo most (s.drop a) 0 0 = .error 4
              rw [hgo, numGo, if_pos hc128, if_pos (by omega)]
            · ((try with_reducible refine Cw.go [] ?_); (try simp (disch := (first | assumption | omega | (simp only [lenS, lenT, UInt64.reduceToNat]; try omega))) only [↓Sx.S0, Sx.S1, Tryz.fx, uW7_1, Nat.reduceAdd, Nat.reducePow, Int.reducePow, Nat.reduceBEq, ↓reduceIte, UInt8.reduceToNat, UInt16.reduceToNat, UInt32.reduceToNat, UInt64.reduceToNat, Int.reduceToNat]))
              refine Jump.mk (NumS.mk true (k + 1) (n + c.toNat % 128 * 128 ^ k) 0) rfl (by show 7 - (k + 1) < 7 - k; omega) ⟨by show a + (k + 1) ≤ s.length; omega, ?_⟩ rfl rfl
              show numGo most (s.drop a) 0 0 = numGo most (s.drop (a + (k + 1))) (k + 1) (n + c.toNat % 128 * 128 ^ k) ∧ n + c.toNat % 128 * 128 ^ k < 128 ^ (k + 1) ∧ k + 1 < 6
              refine ⟨?_, hlt, by omega⟩
              rw [hgo, numGo, if_pos hc128, if_neg (by omega)]
              rfl
    · intro key
      have key0 := fun f' => key (NumS.mk true 0 0 0) f'
      simp only [contP, hasL, Bool.or_false, Bool.false_or, Bool.or_true, Bool.true_or, Nat.reduceBEq, beq_self_eq_true, ↓reduceIte, Bool.false_eq_true] at key0
      clear key
      repeat ((try with_reducible refine Cw.go [999999] ?_); (simp (disch := (first | assumption | omega | (simp only [lenS, lenT, UInt64.reduceToNat]; try omega))) only [↓Sx.S0, Sx.S1, Tryz.fx, uW7_1, Nat.reduceAdd, Nat.reducePow, Int.reducePow, Nat.reduceBEq, ↓reduceIte, UInt8.reduceToNat, UInt16.reduceToNat, UInt32.reduceToNat, UInt64.reduceToNat, Int.reduceToNat]))
      refine Ow.callFV rfl Tryz.call67 (fun w' hw' => RErr_spec b s a 0 w' (hw'.has _ _ List.mem_cons_self)) ?_
      refine Ow.go rfl ?_
      simp (disch := (first | assumption | omega | (simp only [lenS, lenT, UInt64.reduceToNat]; try omega))) only [↓Sx.S0, Sx.S1, Tryz.fx, uW7_1, Nat.reduceAdd, Nat.reducePow, Int.reducePow, Nat.reduceBEq, ↓reduceIte, UInt8.reduceToNat, UInt16.reduceToNat, UInt32.reduceToNat, UInt64.reduceToNat, Int.reduceToNat]
      repeat ((try with_reducible refine Cw.go [999999] ?_); (simp (disch := (first | assumption | omega | (simp only [lenS, lenT, UInt64.reduceToNat]; try omega))) only [↓Sx.S0, Sx.S1, Tryz.fx, uW7_1, Nat.reduceAdd, Nat.reducePow, Int.reducePow, Nat.reduceBEq, ↓reduceIte, UInt8.reduceToNat, UInt16.reduceToNat, UInt32.reduceToNat, UInt64.reduceToNat, Int.reduceToNat]))
      repeat ((try with_reducible refine Cw.go [999999] ?_); (simp (disch := (first | assumption | omega | (simp only [lenS, lenT, UInt64.reduceToNat]; try omega))) only [↓Sx.S0, Sx.S1, Tryz.fx, uW7_1, Nat.reduceAdd, Nat.reducePow, Int.reducePow, Nat.reduceBEq, ↓reduceIte, UInt8.reduceToNat, UInt16.reduceToNat, UInt32.reduceToNat, UInt64.reduceToNat, Int.reduceToNat]))
      refine Cw.regionS [b] [0, 1, 2, 4, 3, 5] [] (by kernel_rfl) (by kernel_rfl) (by kernel_rfl) ?_
      simp only [nl_cons, ↓pickL_nil, ↓pickL_cons, ↓nthO_0, ↓nthO_s, consO_some]
      refine Ow.goQ ?_
      simp (disch := (first | assumption | omega | (simp only [lenS, lenT, UInt64.reduceToNat]; try omega))) only [↓Sx.S0, Sx.S1, Tryz.fx, uW7_1, Nat.reduceAdd, Nat.reducePow, Int.reducePow, Nat.reduceBEq, ↓reduceIte, UInt8.reduceToNat, UInt16.reduceToNat, UInt32.reduceToNat, UInt64.reduceToNat, Int.reduceToNat]
      try with_reducible refine Ow.nil ?_
      repeat ((try with_reducible refine Cw.go [999999] ?_); (simp (disch := (first | assumption | omega | (simp only [lenS, lenT, UInt64.reduceToNat]; try omega))) only [↓Sx.S0, Sx.S1, Tryz.fx, uW7_1, Nat.reduceAdd, Nat.reducePow, Int.reducePow, Nat.reduceBEq, ↓reduceIte, UInt8.reduceToNat, UInt16.reduceToNat, UInt32.reduceToNat, UInt64.reduceToNat, Int.reduceToNat]))
      refine Cw.label ?_
      refine key0 _ ⟨by omega, rfl, by omega, by omega⟩ ?_
      rfl
  · refine Cw.scopeS ?_
    ((try with_reducible refine Cw.go [] ?_); (try simp (disch := (first | assumption | omega | (simp only [lenS, lenT, UInt64.reduceToNat]; try omega))) only [↓Sx.S0, Sx.S1, Tryz.fx, uW7_1, Nat.reduceAdd, Nat.reducePow, Int.reducePow, Nat.reduceBEq, ↓reduceIte, UInt8.reduceToNat, UInt16.reduceToNat, UInt32.reduceToNat, UInt64.reduceToNat, Int.reduceToNat]))
    refine Ow.callFV rfl Tryz.call67 (fun w' hw' => RErr_spec b s a e w' (hw'.has _ _ List.mem_cons_self)) ?_
    refine Ow.go rfl ?_
    simp (disch := (first | assumption | omega | (simp only [lenS, lenT, UInt64.reduceToNat]; try omega))) only [↓Sx.S0, Sx.S1, Tryz.fx, uW7_1, Nat.reduceAdd, Nat.reducePow, Int.reducePow, Nat.reduceBEq, ↓reduceIte, UInt8.reduceToNat, UInt16.reduceToNat, UInt32.reduceToNat, UInt64.reduceToNat, Int.reduceToNat]
    ((try with_reducible refine Cw.go [] ?_); (try simp (disch := (first | assumption | omega | (simp only [lenS, lenT, UInt64.reduceToNat]; try omega))) only [↓Sx.S0, Sx.S1, Tryz.fx, uW7_1, Nat.reduceAdd, Nat.reducePow, Int.reducePow, Nat.reduceBEq, ↓reduceIte, UInt8.reduceToNat, UInt16.reduceToNat, UInt32.reduceToNat, UInt64.reduceToNat, Int.reduceToNat]))
    unfold numR
    refine ⟨_, _, _, (by simp (disch := (first | assumption | omega | (simp only [lenS, lenT, UInt64.reduceToNat]; try omega))) only [↓Sx.S0, Sx.S1, Tryz.fx, uW7_1, Nat.reduceAdd, Nat.reducePow, Int.reducePow, Nat.reduceBEq, ↓reduceIte, UInt8.reduceToNat, UInt16.reduceToNat, UInt32.reduceToNat, UInt64.reduceToNat, Int.reduceToNat]; rfl), rfl, trivial, ?_⟩
    simp [he, tupV]
end Go.Proofs
end
namespace Go.Sx
open Go
section
variable {P : Program} {w0 : World} {f : Fr} {L : Heap} {N : Fr → Heap → Prop} {ops : Array Oper} {rest : List Oper} {md : Md}
  {d : Option Tmp} {ty : TypeId} {ps : String} {af : Array Edge} {g : Option (Nat × Bool)}

theorem firstCells_text (l : List UInt8) (k size : Nat) (w : World) : (Builtin.firstCells size k (vs l)).run P w = .ok ((l.take k).map v8).toArray w := by
  simp only [vs, Builtin.firstCells]
  show Result.ok _ w = _
  congr 1
  have : ((ByteArray.mk l.toArray).extract 0 k).data = (l.take k).toArray := by
    rw [ByteArray.data_extract]
    simp
  rw [this]
  simp
  rfl

theorem rdIn_v8 (R : List Nat) (x : UInt8) : rdIn R (v8 x) = true := (rfl)
theorem rdIn_v16 (R : List Nat) (x : UInt16) : rdIn R (v16 x) = true := (rfl)
theorem rdIn_v32 (R : List Nat) (x : UInt32) : rdIn R (v32 x) = true := (rfl)
theorem rdIn_v64 (R : List Nat) (x : UInt64) : rdIn R (v64 x) = true := (rfl)
theorem rdIn_vi (R : List Nat) (x : Int) : rdIn R (vi x) = true := (rfl)
/-- A text is copied into a block. -/
theorem Ow.copyText {td tx e : TypeId} {m : Bool × Nat} {x y : Operand} {b off n c : Nat} {l : List UInt8} {cs : Array Value} {E : TypeId} {md' : Md} (he : md.turn = some md')
    (hs : skipped ops f ⟨d, .call ⟨.builtin .copy, #[x, y], #[td, tx]⟩, ty, ps, af, g⟩ = false) (hu : P.underlying td = some (.slice e)) (hm : aggT P e = some m)
    (hx : ev f x = vsl b off n c) (hy : ev f y = vs l) (hl : look L b = some (.cells cs E (0, 0))) (hn : off + n ≤ cs.size)
    (hO : Ow P w0 ops md' rest (putF f d (vi (min l.length n : Nat))) (setB L b (.cells (putC cs off ((l.take (min l.length n)).map v8)) E (0, 0))) N) :
    Ow P w0 ops md (⟨d, .call ⟨.builtin .copy, #[x, y], #[td, tx]⟩, ty, ps, af, g⟩ :: rest) f L N := by
  refine Ow.step he rfl hs fun w hw => ?_
  have hb := hw.has _ _ (look_mem hl)
  have hlt := (Array.getElem?_eq_some_iff.1 hb).1
  have hlen : (Builtin.lenOf (vs l)).run P w = .ok l.length w := by simp only [vs, Builtin.lenOf, size_mk]; rfl
  have hfc := firstCells_text (P := P) l (min l.length n) m.2 w
  have hst := run_storeCells (P := P) (b := b) (off := off) (E := E) (fz := (0, 0)) ((l.take (min l.length n)).map v8) 0 cs w hb (by
    rw [List.length_map, List.length_take]; have := Nat.min_le_right l.length n; omega) (.inl (Nat.le_refl 0)) (by rw [List.all_map, List.all_eq_true]; intro x _; rfl)
  refine .inl ⟨vi (min l.length n : Nat), { w with heap := w.heap.setIfInBounds b (.cells (putC cs off ((l.take (min l.length n)).map v8)) E (0, 0)) }, _, ?_, hw.set (key_of_look hl) rfl rfl rfl rfl, hO⟩
  simp only [execOp, resolve, Sem.run_bind, Sem.run_pure, Result.andThen_ok, invoke, builtin, List.map_toArray, List.map_cons, List.map_nil, hx, hy]
  have : (Builtin.copy_ #[td, tx] ty #[vsl b off n c, vs l]).run P w = .ok (vi (min l.length n : Nat)) { w with heap := w.heap.setIfInBounds b (.cells (putC cs off ((l.take (min l.length n)).map v8)) E (0, 0)) } := by
    simp only [Builtin.copy_, vsl, List.getElem?_toArray, List.getElem?_cons_zero, List.getElem?_cons_succ, Sem.run_bind, run_underlying hu w, Result.andThen_ok, hlen, run_sizeOf hm w]
    rw [show l.length.min n = min l.length n from rfl, hfc]
    simp only [Result.andThen_ok]
    rw [hst]
    rfl
  rw [this]
  rfl
end
end Go.Sx
section
open Go Go.Proofs Go.Sx
namespace Go.Proofs
set_option maxRecDepth 10000
set_option maxHeartbeats 2000000
set_option linter.unusedSimpArgs false
set_option linter.defProp false
def uW8_1 := And.intro (And.intro (And.intro (@load_rd0) (@load_rd1)) (And.intro (@load_rd2) (@store_rd1))) (And.intro (And.intro (@store_rd2) (@nilR)) (And.intro (@nilR') (And.intro (@nnilR) (@nnilR'))))
theorem numGo_le (most : Int) : ∀ (l : List UInt8) (k n m k' : Nat), numGo most l k n = .ok (m, k') → k < k' ∧ k' ≤ k + l.length
  | [], k, n, m, k', h => by cases h
  | c :: r, k, n, m, k', h => by
    unfold numGo at h
    split at h
    · split at h
      · cases h
      · have := numGo_le most r (k + 1) _ m k' h
        simp only [List.length_cons]; omega
    · split at h
      · cases h
      · split at h
        · cases h; simp only [List.length_cons]; omega
        · cases h
theorem numR_le {s : List UInt8} {a : Nat} {e most : Int} (ha : a ≤ s.length) : a ≤ (numR s a e most).2.1 ∧ (numR s a e most).2.1 ≤ s.length := by
  unfold numR
  split
  · exact ⟨Nat.le_refl _, ha⟩
  · cases h : numGo most (s.drop a) 0 0 with
    | error x => exact ⟨Nat.le_refl _, ha⟩
    | ok p =>
      obtain ⟨n, k⟩ := p
      have := numGo_le most _ _ _ _ _ h
      rw [List.length_drop] at this
      exact ⟨by show a ≤ a + k; omega, by show a + k ≤ s.length; omega⟩
theorem rawR_le {s : List UInt8} {a : Nat} {e n : Int} (ha : a ≤ s.length) : a ≤ (rawR s a e n).2.1 ∧ (rawR s a e n).2.1 ≤ s.length := by
  unfold rawR
  split
  · exact ⟨Nat.le_refl _, ha⟩
  · split
    · exact ⟨Nat.le_refl _, ha⟩
    · split
      · exact ⟨Nat.le_refl _, ha⟩
      · exact ⟨by show a ≤ a + n.toNat; omega, by show a + n.toNat ≤ s.length; omega⟩
/-- A text: what is read, where the reader stands then, its error. -/
def textR (s : List UInt8) (a : Nat) (e most : Int) : List UInt8 × Nat × Int :=
  let p := numR s a e most
  let q := rawR s p.2.1 p.2.2 p.1
  if q.2.2 ≠ 0 then ([], a, q.2.2) else q
theorem RText_spec (b : Nat) (s : List UInt8) (a : Nat) (e most : Int) (w : World) (ha : a ≤ s.length) (hs : s.length < 1099511627776) (ho : w.heap[b]? = some (.cells #[vs s, vi a, vi e] 108 (0, 0))) :
    Rets Tryz.prog 65 #[vp b 0, vi most] w (fun v D => ∃ o, D = [(b, o)] ∧ v = vs (textR s a e most).1 ∧ o = .cells #[vs s, vi (textR s a e most).2.1, vi (textR s a e most).2.2] 108 (0, 0)) := by
  refine Rets.enterM Tryz.func65 rfl (rs := [.tmp 4]) Tryz.results65 Tryz.ntmps65 ho ?_
  simp only [List.size_toArray, List.length_cons, List.length_nil, Nat.reduceAdd, Nat.reduceSub, List.replicate_succ, List.replicate_zero, List.cons_append, List.nil_append]
  ((try with_reducible refine Cw.go [] ?_); (try simp (disch := (first | assumption | omega | (simp only [lenS, lenT, UInt64.reduceToNat]; try omega))) only [↓Sx.S0, Sx.S1, Tryz.fx, uW8_1, Nat.reduceAdd, Nat.reducePow, Int.reducePow, Nat.reduceBEq, ↓reduceIte, UInt8.reduceToNat, UInt16.reduceToNat, UInt32.reduceToNat, UInt64.reduceToNat, Int.reduceToNat]))
  refine Ow.callFV rfl Tryz.call47 (fun w' hw' => RAt_spec b s a e w' (hw'.has _ _ List.mem_cons_self)) ?_
  refine Ow.go rfl ?_
  simp (disch := (first | assumption | omega | (simp only [lenS, lenT, UInt64.reduceToNat]; try omega))) only [↓Sx.S0, Sx.S1, Tryz.fx, uW8_1, Nat.reduceAdd, Nat.reducePow, Int.reducePow, Nat.reduceBEq, ↓reduceIte, UInt8.reduceToNat, UInt16.reduceToNat, UInt32.reduceToNat, UInt64.reduceToNat, Int.reduceToNat]
  ((try with_reducible refine Cw.go [] ?_); (try simp (disch := (first | assumption | omega | (simp only [lenS, lenT, UInt64.reduceToNat]; try omega))) only [↓Sx.S0, Sx.S1, Tryz.fx, uW8_1, Nat.reduceAdd, Nat.reducePow, Int.reducePow, Nat.reduceBEq, ↓reduceIte, UInt8.reduceToNat, UInt16.reduceToNat, UInt32.reduceToNat, UInt64.reduceToNat, Int.reduceToNat]))
  have hp := numR_le (e := e) (most := most) ha
  unfold textR
  refine Ow.callM rfl rfl Tryz.call44 (by simp [keys]) (fun w' hw' => RNumber_spec b s a e most w' ha hs (hw'.has _ _ List.mem_cons_self)) ?_
  generalize numR s a e most = p at *
  obtain ⟨n, a1, e1⟩ := p
  simp only at hp ⊢
  refine Ow.go rfl ?_
  simp (disch := (first | assumption | omega | (simp only [lenS, lenT, UInt64.reduceToNat]; try omega))) only [↓Sx.S0, Sx.S1, Tryz.fx, uW8_1, Nat.reduceAdd, Nat.reducePow, Int.reducePow, Nat.reduceBEq, ↓reduceIte, UInt8.reduceToNat, UInt16.reduceToNat, UInt32.reduceToNat, UInt64.reduceToNat, Int.reduceToNat]
  refine Ow.callM rfl rfl Tryz.call87 (by simp [keys]) (fun w' hw' => RRaw_spec b s a1 e1 n w' hp.2 hs (hw'.has _ _ List.mem_cons_self)) ?_
  have hq := rawR_le (e := e1) (n := n) hp.2
  generalize rawR s a1 e1 n = q at *
  obtain ⟨t, a2, e2⟩ := q
  simp only at hq ⊢
  refine Ow.go rfl ?_
  simp (disch := (first | assumption | omega | (simp only [lenS, lenT, UInt64.reduceToNat]; try omega))) only [↓Sx.S0, Sx.S1, Tryz.fx, uW8_1, Nat.reduceAdd, Nat.reducePow, Int.reducePow, Nat.reduceBEq, ↓reduceIte, UInt8.reduceToNat, UInt16.reduceToNat, UInt32.reduceToNat, UInt64.reduceToNat, Int.reduceToNat]
  ((try with_reducible refine Cw.go [] ?_); (try simp (disch := (first | assumption | omega | (simp only [lenS, lenT, UInt64.reduceToNat]; try omega))) only [↓Sx.S0, Sx.S1, Tryz.fx, uW8_1, Nat.reduceAdd, Nat.reducePow, Int.reducePow, Nat.reduceBEq, ↓reduceIte, UInt8.reduceToNat, UInt16.reduceToNat, UInt32.reduceToNat, UInt64.reduceToNat, Int.reduceToNat]))
  by_cases he : e2 = 0
  · ((try with_reducible refine Cw.go [] ?_); (try simp (disch := (first | assumption | omega | (simp only [lenS, lenT, UInt64.reduceToNat]; try omega))) only [↓Sx.S0, Sx.S1, Tryz.fx, uW8_1, Nat.reduceAdd, Nat.reducePow, Int.reducePow, Nat.reduceBEq, ↓reduceIte, UInt8.reduceToNat, UInt16.reduceToNat, UInt32.reduceToNat, UInt64.reduceToNat, Int.reduceToNat]))
    refine ⟨_, _, _, (by simp (disch := (first | assumption | omega | (simp only [lenS, lenT, UInt64.reduceToNat]; try omega))) only [↓Sx.S0, Sx.S1, Tryz.fx, uW8_1, Nat.reduceAdd, Nat.reducePow, Int.reducePow, Nat.reduceBEq, ↓reduceIte, UInt8.reduceToNat, UInt16.reduceToNat, UInt32.reduceToNat, UInt64.reduceToNat, Int.reduceToNat]; rfl), rfl, trivial, ?_⟩
    simp [he, tupV]
  · ((try with_reducible refine Cw.go [] ?_); (try simp (disch := (first | assumption | omega | (simp only [lenS, lenT, UInt64.reduceToNat]; try omega))) only [↓Sx.S0, Sx.S1, Tryz.fx, uW8_1, Nat.reduceAdd, Nat.reducePow, Int.reducePow, Nat.reduceBEq, ↓reduceIte, UInt8.reduceToNat, UInt16.reduceToNat, UInt32.reduceToNat, UInt64.reduceToNat, Int.reduceToNat]))
    refine Ow.minI rfl rfl rfl ?_
    have hmin : (if (a : Int) < (a2 : Int) then (a : Int) else (a2 : Int)) = a := by split <;> omega
    rw [hmin]
    refine Ow.go rfl ?_
    simp (disch := (first | assumption | omega | (simp only [lenS, lenT, UInt64.reduceToNat]; try omega))) only [↓Sx.S0, Sx.S1, Tryz.fx, uW8_1, Nat.reduceAdd, Nat.reducePow, Int.reducePow, Nat.reduceBEq, ↓reduceIte, UInt8.reduceToNat, UInt16.reduceToNat, UInt32.reduceToNat, UInt64.reduceToNat, Int.reduceToNat]
    ((try with_reducible refine Cw.go [] ?_); (try simp (disch := (first | assumption | omega | (simp only [lenS, lenT, UInt64.reduceToNat]; try omega))) only [↓Sx.S0, Sx.S1, Tryz.fx, uW8_1, Nat.reduceAdd, Nat.reducePow, Int.reducePow, Nat.reduceBEq, ↓reduceIte, UInt8.reduceToNat, UInt16.reduceToNat, UInt32.reduceToNat, UInt64.reduceToNat, Int.reduceToNat]))
    refine ⟨_, _, _, (by simp (disch := (first | assumption | omega | (simp only [lenS, lenT, UInt64.reduceToNat]; try omega))) only [↓Sx.S0, Sx.S1, Tryz.fx, uW8_1, Nat.reduceAdd, Nat.reducePow, Int.reducePow, Nat.reduceBEq, ↓reduceIte, UInt8.reduceToNat, UInt16.reduceToNat, UInt32.reduceToNat, UInt64.reduceToNat, Int.reduceToNat]; rfl), rfl, trivial, ?_⟩
    simp [he, tupV]
def z32 : List UInt8 := List.replicate 32 0
/-- An id. -/
def idR (s : List UInt8) (a : Nat) (e : Int) : List UInt8 × Nat × Int :=
  let q := rawR s a e 32
  (if q.1.length = 32 then q.1 else z32, q.2)
theorem rawR_len {s : List UInt8} {a : Nat} {e : Int} (_ha : a ≤ s.length) : (rawR s a e 32).1 = [] ∨ (rawR s a e 32).1.length = 32 := by
  unfold rawR
  split
  · exact .inl rfl
  · split
    · exact .inl rfl
    · split
      · exact .inl rfl
      · right
        show ((s.drop a).take 32).length = 32
        rw [List.length_take, List.length_drop]; omega
theorem copy_id {t : List UInt8} (h : t = [] ∨ t.length = 32) : putC (a8 (List.replicate 32 0)) 0 ((t.take (min t.length 32)).map v8) = a8 (if t.length = 32 then t else z32) := by
  rcases h with rfl | h
  · rfl
  · rw [if_pos h, h, Nat.min_self, List.take_of_length_le (by omega)]
    have := putC_app (t.map v8) [] ((List.replicate 32 (0 : UInt8)).map v8) (by simp [h])
    simp only [List.nil_append, List.length_nil] at this
    show putC ((List.replicate 32 (0 : UInt8)).map v8).toArray 0 (t.map v8) = (t.map v8).toArray
    rw [this]
    rw [List.drop_eq_nil_of_le (by simp [h]), List.append_nil]
theorem RId_spec (b : Nat) (s : List UInt8) (a : Nat) (e : Int) (w : World) (ha : a ≤ s.length) (hs : s.length < 1099511627776) (ho : w.heap[b]? = some (.cells #[vs s, vi a, vi e] 108 (0, 0))) :
    Rets Tryz.prog 69 #[vp b 0] w (fun v D => ∃ o, D = [(b, o)] ∧ v = .agg (a8 (idR s a e).1) ∧ o = .cells #[vs s, vi (idR s a e).2.1, vi (idR s a e).2.2] 108 (0, 0)) := by
  have hbl := (Array.getElem?_eq_some_iff.1 ho).1
  have hq := rawR_len (e := e) ha
  unfold idR
  refine Rets.enterM Tryz.func69 rfl (rs := [.cell 2 34]) Tryz.results69 Tryz.ntmps69 ho ?_
  simp only [List.size_toArray, List.length_cons, List.length_nil, Nat.reduceAdd, Nat.reduceSub, List.replicate_succ, List.replicate_zero, List.cons_append, List.nil_append]
  ((try with_reducible refine Cw.go [] ?_); (try simp (disch := (first | assumption | omega | (simp only [lenS, lenT, UInt64.reduceToNat]; try omega))) only [↓Sx.S0, Sx.S1, Tryz.fx, uW8_1, Nat.reduceAdd, Nat.reducePow, Int.reducePow, Nat.reduceBEq, ↓reduceIte, UInt8.reduceToNat, UInt16.reduceToNat, UInt32.reduceToNat, UInt64.reduceToNat, Int.reduceToNat]))
  refine Ow.alloc rfl rfl Tryz.zr34 fun b2 hb2 hw2 => ?_
  refine Ow.go rfl ?_
  simp (disch := (first | assumption | omega | (simp only [lenS, lenT, UInt64.reduceToNat]; try omega))) only [↓Sx.S0, Sx.S1, Tryz.fx, uW8_1, Nat.reduceAdd, Nat.reducePow, Int.reducePow, Nat.reduceBEq, ↓reduceIte, UInt8.reduceToNat, UInt16.reduceToNat, UInt32.reduceToNat, UInt64.reduceToNat, Int.reduceToNat]
  ((try with_reducible refine Cw.go [] ?_); (try simp (disch := (first | assumption | omega | (simp only [lenS, lenT, UInt64.reduceToNat]; try omega))) only [↓Sx.S0, Sx.S1, Tryz.fx, uW8_1, Nat.reduceAdd, Nat.reducePow, Int.reducePow, Nat.reduceBEq, ↓reduceIte, UInt8.reduceToNat, UInt16.reduceToNat, UInt32.reduceToNat, UInt64.reduceToNat, Int.reduceToNat]))
  refine Ow.alloc rfl rfl Tryz.zr34 fun b3 hb3 hw3 => ?_
  obtain ⟨h13, h23, -⟩ := hb3
  obtain ⟨h12, -⟩ := hb2
  refine Ow.go rfl ?_
  simp (disch := (first | assumption | omega | (simp only [lenS, lenT, UInt64.reduceToNat]; try omega))) only [↓Sx.S0, Sx.S1, Tryz.fx, uW8_1, Nat.reduceAdd, Nat.reducePow, Int.reducePow, Nat.reduceBEq, ↓reduceIte, UInt8.reduceToNat, UInt16.reduceToNat, UInt32.reduceToNat, UInt64.reduceToNat, Int.reduceToNat]
  ((try with_reducible refine Cw.go [] ?_); (try simp (disch := (first | assumption | omega | (simp only [lenS, lenT, UInt64.reduceToNat]; try omega))) only [↓Sx.S0, Sx.S1, Tryz.fx, uW8_1, Nat.reduceAdd, Nat.reducePow, Int.reducePow, Nat.reduceBEq, ↓reduceIte, UInt8.reduceToNat, UInt16.reduceToNat, UInt32.reduceToNat, UInt64.reduceToNat, Int.reduceToNat]))
  refine Cw.regionS [] [0, 1, 2, 3] [] (by kernel_rfl) (by kernel_rfl) (by kernel_rfl) ?_
  simp only [nl_cons, ↓pickL_nil, ↓pickL_cons, ↓nthO_0, ↓nthO_s, consO_some]
  refine Ow.goQ ?_
  simp (disch := (first | assumption | omega | (simp only [lenS, lenT, UInt64.reduceToNat]; try omega))) only [↓Sx.S0, Sx.S1, Tryz.fx, uW8_1, Nat.reduceAdd, Nat.reducePow, Int.reducePow, Nat.reduceBEq, ↓reduceIte, UInt8.reduceToNat, UInt16.reduceToNat, UInt32.reduceToNat, UInt64.reduceToNat, Int.reduceToNat]
  refine Ow.soft rfl rfl rfl ?_
  refine Ow.callM rfl rfl Tryz.call87 (by simp [keys]) (fun w' hw' => RRaw_spec b s a e 32 w' ha hs (hw'.has _ _ List.mem_cons_self)) ?_
  generalize rawR s a e 32 = q at *
  obtain ⟨t, a2, e2⟩ := q
  simp only at hq ⊢
  try with_reducible refine Ow.nil ?_
  refine ⟨fun b hb => absurd hb (by simp), ?_⟩
  simp (disch := omega) only [setB_same]
  refine Ow.soft rfl rfl rfl ?_
  refine Ow.copyText (cs := a8 (List.replicate 32 0)) (E := 34) (e := 5) rfl rfl Tryz.underlying52 Tryz.ag5 rfl rfl (by simp (disch := omega) only [look_other, look_same]) (by rw [size_a8]; simp) ?_
  rw [copy_id hq]
  have hil : (if t.length = 32 then t else z32).length = 32 := by
    split
    · assumption
    · simp [z32]
  generalize (if t.length = 32 then t else z32) = id at *
  try with_reducible refine Ow.nil ?_
  refine ⟨fun b hb => absurd hb (by simp), ?_⟩
  simp (disch := omega) only [setB_same, setB_other]
  refine Ow.goQ ?_
  simp (disch := (first | assumption | omega | (simp only [lenS, lenT, UInt64.reduceToNat]; try omega))) only [↓Sx.S0, Sx.S1, Tryz.fx, uW8_1, Nat.reduceAdd, Nat.reducePow, Int.reducePow, Nat.reduceBEq, ↓reduceIte, UInt8.reduceToNat, UInt16.reduceToNat, UInt32.reduceToNat, UInt64.reduceToNat, Int.reduceToNat]
  try with_reducible refine Ow.nil ?_
  ((try with_reducible refine Cw.go [] ?_); (try simp (disch := (first | assumption | omega | (simp only [lenS, lenT, UInt64.reduceToNat]; try omega))) only [↓Sx.S0, Sx.S1, Tryz.fx, uW8_1, Nat.reduceAdd, Nat.reducePow, Int.reducePow, Nat.reduceBEq, ↓reduceIte, UInt8.reduceToNat, UInt16.reduceToNat, UInt32.reduceToNat, UInt64.reduceToNat, Int.reduceToNat]))
  refine ⟨_, _, _, (by simp (disch := (first | assumption | omega | (simp only [lenS, lenT, UInt64.reduceToNat]; try omega))) only [↓Sx.S0, Sx.S1, Tryz.fx, uW8_1, Nat.reduceAdd, Nat.reducePow, Int.reducePow, Nat.reduceBEq, ↓reduceIte, UInt8.reduceToNat, UInt16.reduceToNat, UInt32.reduceToNat, UInt64.reduceToNat, Int.reduceToNat]; rfl), rfl, ⟨hw2, hw3, trivial⟩, ?_⟩
  exact ⟨rfl, rfl⟩
theorem RNew_spec (s : List UInt8) (w : World) :
    Rets Tryz.prog 42 #[vs s] w (fun v D => ∃ b, w.heap.size ≤ b ∧ v = vp b 0 ∧ D = [(b, .cells #[vs s, vi 0, vi 0] 108 (0, 0))]) := by
  refine Rets.enter Tryz.func42 rfl (rs := [.tmp 2]) Tryz.results42 Tryz.ntmps42 ?_
  simp only [List.size_toArray, List.length_cons, List.length_nil, Nat.reduceAdd, Nat.reduceSub, List.replicate_succ, List.replicate_zero, List.cons_append, List.nil_append]
  ((try with_reducible refine Cw.go [] ?_); (try simp (disch := (first | assumption | omega | (simp only [lenS, lenT, UInt64.reduceToNat]; try omega))) only [↓Sx.S0, Sx.S1, Tryz.fx, uW8_1, Nat.reduceAdd, Nat.reducePow, Int.reducePow, Nat.reduceBEq, ↓reduceIte, UInt8.reduceToNat, UInt16.reduceToNat, UInt32.reduceToNat, UInt64.reduceToNat, Int.reduceToNat]))
  refine Ow.build (.agg #[vs s, vi 0, vi 0]) rfl (by kernel_rfl) ?_
  refine Ow.go rfl ?_
  simp (disch := (first | assumption | omega | (simp only [lenS, lenT, UInt64.reduceToNat]; try omega))) only [↓Sx.S0, Sx.S1, Tryz.fx, uW8_1, Nat.reduceAdd, Nat.reducePow, Int.reducePow, Nat.reduceBEq, ↓reduceIte, UInt8.reduceToNat, UInt16.reduceToNat, UInt32.reduceToNat, UInt64.reduceToNat, Int.reduceToNat]
  refine Ow.box rfl rfl fun b1 hb1 hw1 => ?_
  refine Ow.go rfl ?_
  simp (disch := (first | assumption | omega | (simp only [lenS, lenT, UInt64.reduceToNat]; try omega))) only [↓Sx.S0, Sx.S1, Tryz.fx, uW8_1, Nat.reduceAdd, Nat.reducePow, Int.reducePow, Nat.reduceBEq, ↓reduceIte, UInt8.reduceToNat, UInt16.reduceToNat, UInt32.reduceToNat, UInt64.reduceToNat, Int.reduceToNat]
  ((try with_reducible refine Cw.go [] ?_); (try simp (disch := (first | assumption | omega | (simp only [lenS, lenT, UInt64.reduceToNat]; try omega))) only [↓Sx.S0, Sx.S1, Tryz.fx, uW8_1, Nat.reduceAdd, Nat.reducePow, Int.reducePow, Nat.reduceBEq, ↓reduceIte, UInt8.reduceToNat, UInt16.reduceToNat, UInt32.reduceToNat, UInt64.reduceToNat, Int.reduceToNat]))
  refine ⟨_, (by simp only [resVs_cons, resVs_nil, resV_tmp, getF_0, getF_s, cons2_some]; rfl), b1, hw1, rfl, ?_⟩
  rfl
end Go.Proofs
end
section
open Go Go.Proofs Go.Sx
namespace Go.Proofs
set_option maxRecDepth 10000
set_option maxHeartbeats 4000000
set_option linter.unusedSimpArgs false
/-! ### The document's reader -/
set_option linter.defProp false
def uW9_1 := And.intro (And.intro (And.intro (@rdIn_v8) (@rdIn_v16)) (And.intro (@rdIn_v32) (And.intro (@rdIn_v64) (@rdIn_vi)))) (And.intro (And.intro (@load_rd0) (@load_rd1)) (And.intro (@load_rd2) (And.intro (@store_rd1) (@store_rd2))))
structure KN where
  k : Nat
  n : Nat
end Go.Proofs
end
section
open Go Go.Proofs Go.Sx
namespace Go.Proofs
set_option maxRecDepth 10000
set_option maxHeartbeats 4000000
set_option linter.unusedSimpArgs false
set_option linter.defProp false
def uWA_1 := And.intro (And.intro (And.intro (@rdIn_v8) (@rdIn_v16)) (And.intro (@rdIn_v32) (And.intro (@rdIn_v64) (@rdIn_vi)))) (And.intro (And.intro (@load_rd0) (@load_rd1)) (And.intro (@load_rd2) (And.intro (@store_rd1) (@store_rd2))))
def idPre (t : List UInt8) (g : Nat) : List UInt8 := t.take g ++ List.replicate (32 - g) 0
end Go.Proofs
end
section
open Go Go.Proofs Go.Sx
namespace Go.Proofs
set_option maxRecDepth 10000
set_option maxHeartbeats 4000000
set_option linter.unusedSimpArgs false
/-! ### Sums -/
def hvL : List UInt32 := [0x00000000, 0x1db71064, 0x3b6e20c8, 0x26d930ac, 0x76dc4190, 0x6b6b51f4, 0x4db26158, 0x5005713c, 0xedb88320, 0xf00f9344, 0xd6d6a3e8, 0xcb61b38c, 0x9b64c2b0, 0x86d3d2d4, 0xa00ae278, 0xbdbdf21c]
def half32 (n : UInt32) : UInt32 := shr_u32 n 4 ^^^ hvL.getD (n &&& 15).toNat 0
def halfs (n : UInt32) : Nat → UInt32
  | 0 => n
  | k + 1 => half32 (halfs n k)
def feedV (n : UInt32) (b : UInt8) : UInt32 := halfs (n ^^^ UInt32.ofNat b.toNat) 2
theorem and15_u32 (n : UInt32) : (n &&& 15).toNat < 16 := by
  rw [UInt32.toNat_and]
  exact Nat.lt_of_le_of_lt Nat.and_le_right (by decide)
/-- The table of the sums' steps. -/
def GlobC (w : World) : Prop := ∃ e f, w.heap[(1 : Nat)]? = some (.cells (a32 hvL) e f)
theorem GlobC.of {w w' : World} {L : Heap} (h : GlobC w) (hw : Hp w L w') (hn : (1 : Nat) ∉ keys L) : GlobC w' := by
  obtain ⟨e, f, h⟩ := h
  exact ⟨e, f, by rw [hw.old _ (Array.getElem?_eq_some_iff.1 h).1 hn]; exact h⟩
theorem hvL_len : hvL.length = 16 := rfl
set_option linter.defProp false
def uWB_1 := And.intro (And.intro (@rdIn_v8) (@rdIn_v16)) (And.intro (@rdIn_v32) (And.intro (@rdIn_v64) (@rdIn_vi)))
theorem feed_spec (n : UInt32) (b : UInt8) (w : World) (hG : GlobC w) :
    Rets Tryz.prog 107 #[v32 n, v8 b] w (fun v D => v = v32 (feedV n b) ∧ D = []) := by
  obtain ⟨e, f, htab⟩ := hG
  refine Rets.enterV Tryz.func107 rfl (rs := [.tmp 4]) Tryz.results107 Tryz.ntmps107 ?_
  simp only [List.size_toArray, List.length_cons, List.length_nil, Nat.reduceAdd, Nat.reduceSub, List.replicate_succ, List.replicate_zero, List.cons_append, List.nil_append]
  ((try with_reducible refine Cw.go [] ?_); (try simp (disch := (first | assumption | omega | (simp only [lenS, lenT, UInt64.reduceToNat]; try omega))) only [↓Sx.S0, Sx.S1, Tryz.fx, uWB_1, Nat.reduceAdd, Nat.reducePow, Int.reducePow, Nat.reduceBEq, ↓reduceIte, UInt8.reduceToNat, UInt16.reduceToNat, UInt32.reduceToNat, UInt64.reduceToNat, Int.reduceToNat]))
  unfold feedV
  generalize n ^^^ UInt32.ofNat b.toNat = m
  rw [show v32 m = v32 (halfs m 0) from rfl]
  refine Cw.loopG (G := Nat) [10, 11, 12, 13, 14, 15, 16, 17, 0, 18, 9] (fun g => [(0, v32 (halfs m g)), (9, vi g)]) (fun g => []) (fun g => g ≤ 2) (fun g => 2 - g) 0 rfl rfl ?_ ?_
  · omega
  intro g j hg
  simp only [overFrom, pin, setF_0, setF_s, List.contains_cons, List.contains_nil, Nat.reduceBEq, Bool.or_false, Bool.false_or, Bool.or_true, Bool.true_or, Nat.reduceAdd, ↓reduceIte, Bool.false_eq_true]
  by_cases hlt : g < 2
  · have h15 := and15_u32 (halfs m g)
    have hl := hvL_len
    ((try with_reducible refine Cw.go [] ?_); (try simp (disch := (first | assumption | omega | (simp only [lenS, lenT, UInt64.reduceToNat]; try omega))) only [↓Sx.S0, Sx.S1, Tryz.fx, uWB_1, Nat.reduceAdd, Nat.reducePow, Int.reducePow, Nat.reduceBEq, ↓reduceIte, UInt8.reduceToNat, UInt16.reduceToNat, UInt32.reduceToNat, UInt64.reduceToNat, Int.reduceToNat, htab]))
    refine Again.mk (g + 1) (by omega) (by omega) rfl rfl
  · obtain rfl : g = 2 := by omega
    ((try with_reducible refine Cw.go [] ?_); (try simp (disch := (first | assumption | omega | (simp only [lenS, lenT, UInt64.reduceToNat]; try omega))) only [↓Sx.S0, Sx.S1, Tryz.fx, uWB_1, Nat.reduceAdd, Nat.reducePow, Int.reducePow, Nat.reduceBEq, ↓reduceIte, UInt8.reduceToNat, UInt16.reduceToNat, UInt32.reduceToNat, UInt64.reduceToNat, Int.reduceToNat]))
    refine ⟨_, (by simp (disch := (first | assumption | omega | (simp only [lenS, lenT, UInt64.reduceToNat]; try omega))) only [↓Sx.S0, Sx.S1, Tryz.fx, uWB_1, Nat.reduceAdd, Nat.reducePow, Int.reducePow, Nat.reduceBEq, ↓reduceIte, UInt8.reduceToNat, UInt16.reduceToNat, UInt32.reduceToNat, UInt64.reduceToNat, Int.reduceToNat]; rfl), trivial, ?_⟩
    rfl
def crcGo (n : UInt32) (s : List UInt8) : UInt32 := s.foldl feedV n
theorem crcGo_succ (n : UInt32) (s : List UInt8) (g : Nat) (h : g < s.length) : crcGo n (s.take (g + 1)) = feedV (crcGo n (s.take g)) (s.getD g 0) := by
  unfold crcGo
  rw [List.take_succ_eq_append_getElem h, List.foldl_append, List.getD_eq_getElem?_getD, List.getElem?_eq_getElem h]
  rfl
theorem cAdd_spec (n : UInt32) (s : List UInt8) (w : World) (hG : GlobC w) (hs : s.length < 1099511627776) :
    Rets Tryz.prog 90 #[v32 n, vs s] w (fun v D => v = v32 (~~~ (crcGo (~~~ n) s)) ∧ D = []) := by
  refine Rets.enterV Tryz.func90 rfl (rs := [.tmp 4]) Tryz.results90 Tryz.ntmps90 ?_
  simp only [List.size_toArray, List.length_cons, List.length_nil, Nat.reduceAdd, Nat.reduceSub, List.replicate_succ, List.replicate_zero, List.cons_append, List.nil_append]
  ((try with_reducible refine Cw.go [] ?_); (try simp (disch := (first | assumption | omega | (simp only [lenS, lenT, UInt64.reduceToNat]; try omega))) only [↓Sx.S0, Sx.S1, Tryz.fx, uWB_1, Nat.reduceAdd, Nat.reducePow, Int.reducePow, Nat.reduceBEq, ↓reduceIte, UInt8.reduceToNat, UInt16.reduceToNat, UInt32.reduceToNat, UInt64.reduceToNat, Int.reduceToNat]))
  rw [show v32 (~~~ n) = v32 (crcGo (~~~ n) (s.take 0)) from rfl]
  refine Cw.loopG (G := Nat) [12, 13, 6, 14, 15, 16, 17, 18, 5, 19, 11] (fun g => [(5, v32 (crcGo (~~~ n) (s.take g))), (11, vi g)]) (fun g => []) (fun g => g ≤ s.length) (fun g => s.length - g) 0 rfl rfl ?_ ?_
  · omega
  intro g j hg
  simp only [overFrom, pin, setF_0, setF_s, List.contains_cons, List.contains_nil, Nat.reduceBEq, Bool.or_false, Bool.false_or, Bool.or_true, Bool.true_or, Nat.reduceAdd, ↓reduceIte, Bool.false_eq_true]
  by_cases hlt : g < s.length
  · ((try with_reducible refine Cw.go [] ?_); (try simp (disch := (first | assumption | omega | (simp only [lenS, lenT, UInt64.reduceToNat]; try omega))) only [↓Sx.S0, Sx.S1, Tryz.fx, uWB_1, Nat.reduceAdd, Nat.reducePow, Int.reducePow, Nat.reduceBEq, ↓reduceIte, UInt8.reduceToNat, UInt16.reduceToNat, UInt32.reduceToNat, UInt64.reduceToNat, Int.reduceToNat]))
    refine Ow.callFV rfl Tryz.call107 (fun w' hw' => feed_spec _ _ w' (GlobC.of hG hw' (by simp [keys]))) ?_
    refine Ow.go rfl ?_
    simp (disch := (first | assumption | omega | (simp only [lenS, lenT, UInt64.reduceToNat]; try omega))) only [↓Sx.S0, Sx.S1, Tryz.fx, uWB_1, Nat.reduceAdd, Nat.reducePow, Int.reducePow, Nat.reduceBEq, ↓reduceIte, UInt8.reduceToNat, UInt16.reduceToNat, UInt32.reduceToNat, UInt64.reduceToNat, Int.reduceToNat]
    ((try with_reducible refine Cw.go [] ?_); (try simp (disch := (first | assumption | omega | (simp only [lenS, lenT, UInt64.reduceToNat]; try omega))) only [↓Sx.S0, Sx.S1, Tryz.fx, uWB_1, Nat.reduceAdd, Nat.reducePow, Int.reducePow, Nat.reduceBEq, ↓reduceIte, UInt8.reduceToNat, UInt16.reduceToNat, UInt32.reduceToNat, UInt64.reduceToNat, Int.reduceToNat]))
    refine Again.mk (g + 1) (by omega) (by omega) rfl ?_
    rw [crcGo_succ _ _ _ hlt]
    rfl
  · obtain rfl : g = s.length := by omega
    ((try with_reducible refine Cw.go [] ?_); (try simp (disch := (first | assumption | omega | (simp only [lenS, lenT, UInt64.reduceToNat]; try omega))) only [↓Sx.S0, Sx.S1, Tryz.fx, uWB_1, Nat.reduceAdd, Nat.reducePow, Int.reducePow, Nat.reduceBEq, ↓reduceIte, UInt8.reduceToNat, UInt16.reduceToNat, UInt32.reduceToNat, UInt64.reduceToNat, Int.reduceToNat]))
    rw [List.take_length]
    refine ⟨_, (by simp (disch := (first | assumption | omega | (simp only [lenS, lenT, UInt64.reduceToNat]; try omega))) only [↓Sx.S0, Sx.S1, Tryz.fx, uWB_1, Nat.reduceAdd, Nat.reducePow, Int.reducePow, Nat.reduceBEq, ↓reduceIte, UInt8.reduceToNat, UInt16.reduceToNat, UInt32.reduceToNat, UInt64.reduceToNat, Int.reduceToNat]; rfl), trivial, ?_⟩
    rfl
def crcV (s : List UInt8) : UInt32 := ~~~ (crcGo (~~~ (0 : UInt32)) s)
theorem cSum_spec (b : Nat) (s : List UInt8) (E : TypeId) (w : World) (hG : GlobC w) (hs : s.length < 1099511627776) (ho : w.heap[b]? = some (.cells #[vs s] E (0, 0))) :
    Rets Tryz.prog 71 #[vsl b 0 1 1] w (fun v D => v = v32 (crcV s) ∧ D = []) := by
  have hS : StrS w (vsl b 0 1 1) [s] b 0 #[vs s] E (0, 0) := StrS.lit [s] rfl rfl ho
  refine Rets.enterV Tryz.func71 rfl (rs := [.tmp 2]) Tryz.results71 Tryz.ntmps71 ?_
  simp only [List.size_toArray, List.length_cons, List.length_nil, Nat.reduceAdd, Nat.reduceSub, List.replicate_succ, List.replicate_zero, List.cons_append, List.nil_append]
  ((try with_reducible refine Cw.go [] ?_); (try simp (disch := (first | assumption | omega | (simp only [lenS, lenT, UInt64.reduceToNat]; try omega))) only [↓Sx.S0, Sx.S1, Tryz.fx, uWB_1, Nat.reduceAdd, Nat.reducePow, Int.reducePow, Nat.reduceBEq, ↓reduceIte, UInt8.reduceToNat, UInt16.reduceToNat, UInt32.reduceToNat, UInt64.reduceToNat, Int.reduceToNat]))
  refine Cw.loopG (G := Nat) [9, 10, 11, 5, 12, 13, 14, 3, 15, 8] (fun g => [(3, v32 (if g = 0 then 0 else crcV s)), (8, vi g)]) (fun g => []) (fun g => g ≤ 1) (fun g => 1 - g) 0 rfl rfl ?_ ?_
  · omega
  intro g j hg
  simp only [overFrom, pin, setF_0, setF_s, List.contains_cons, List.contains_nil, Nat.reduceBEq, Bool.or_false, Bool.false_or, Bool.or_true, Bool.true_or, Nat.reduceAdd, ↓reduceIte, Bool.false_eq_true]
  by_cases hlt : g < 1
  · obtain rfl : g = 0 := by omega
    have hlg := hS.get 0 (by simp)
    have hrd := hS.has (by simp)
    have hix := fun m => hS.idx m 0 (by simp)
    ((try with_reducible refine Cw.go [] ?_); (try simp (disch := (first | assumption | omega | (simp only [lenS, lenT, UInt64.reduceToNat]; try omega))) only [↓Sx.S0, Sx.S1, Tryz.fx, uWB_1, Nat.reduceAdd, Nat.reducePow, Int.reducePow, Nat.reduceBEq, ↓reduceIte, UInt8.reduceToNat, UInt16.reduceToNat, UInt32.reduceToNat, UInt64.reduceToNat, Int.reduceToNat, Sx.loadV_one, hrd, hlg, hix]))
    refine Ow.callFV rfl Tryz.call90 (fun w' hw' => cAdd_spec 0 s w' (GlobC.of hG hw' (by simp [keys])) hs) ?_
    refine Ow.go rfl ?_
    simp (disch := (first | assumption | omega | (simp only [lenS, lenT, UInt64.reduceToNat]; try omega))) only [↓Sx.S0, Sx.S1, Tryz.fx, uWB_1, Nat.reduceAdd, Nat.reducePow, Int.reducePow, Nat.reduceBEq, ↓reduceIte, UInt8.reduceToNat, UInt16.reduceToNat, UInt32.reduceToNat, UInt64.reduceToNat, Int.reduceToNat]
    ((try with_reducible refine Cw.go [] ?_); (try simp (disch := (first | assumption | omega | (simp only [lenS, lenT, UInt64.reduceToNat]; try omega))) only [↓Sx.S0, Sx.S1, Tryz.fx, uWB_1, Nat.reduceAdd, Nat.reducePow, Int.reducePow, Nat.reduceBEq, ↓reduceIte, UInt8.reduceToNat, UInt16.reduceToNat, UInt32.reduceToNat, UInt64.reduceToNat, Int.reduceToNat]))
    refine Again.mk 1 (by omega) (by omega) rfl rfl
  · obtain rfl : g = 1 := by omega
    ((try with_reducible refine Cw.go [] ?_); (try simp (disch := (first | assumption | omega | (simp only [lenS, lenT, UInt64.reduceToNat]; try omega))) only [↓Sx.S0, Sx.S1, Tryz.fx, uWB_1, Nat.reduceAdd, Nat.reducePow, Int.reducePow, Nat.reduceBEq, ↓reduceIte, UInt8.reduceToNat, UInt16.reduceToNat, UInt32.reduceToNat, UInt64.reduceToNat, Int.reduceToNat]))
    refine ⟨_, (by simp (disch := (first | assumption | omega | (simp only [lenS, lenT, UInt64.reduceToNat]; try omega))) only [↓Sx.S0, Sx.S1, Tryz.fx, uWB_1, Nat.reduceAdd, Nat.reducePow, Int.reducePow, Nat.reduceBEq, ↓reduceIte, UInt8.reduceToNat, UInt16.reduceToNat, UInt32.reduceToNat, UInt64.reduceToNat, Int.reduceToNat]; rfl), trivial, ?_⟩
    rfl
def sumPre (n : UInt32) (g : Nat) : List UInt8 := (List.range 4).map fun j => if j < g then UInt8.ofNat (shr_u32 n (8 * j)).toNat else 0
def sum4 (n : UInt32) : List UInt8 := sumPre n 4
theorem sumPre_len (n : UInt32) (g : Nat) : (sumPre n g).length = 4 := by simp [sumPre]
theorem sumPre_succ (n : UInt32) (g : Nat) (h : g < 4) : (sumPre n g).set g (UInt8.ofNat (shr_u32 n (8 * g)).toNat) = sumPre n (g + 1) := by
  have : g = 0 ∨ g = 1 ∨ g = 2 ∨ g = 3 := by omega
  rcases this with rfl | rfl | rfl | rfl <;> rfl
def sealV (s : List UInt8) : List UInt8 := s ++ sum4 (crcV s)
theorem cSeal_spec (s : List UInt8) (w : World) (hG : GlobC w) (hs : s.length < 1099511627776) :
    Rets Tryz.prog 50 #[vs s] w (fun v D => v = vs (sealV s) ∧ D = []) := by
  have hgl : (1 : Nat) < w.heap.size := by obtain ⟨e, f, h⟩ := hG; exact (Array.getElem?_eq_some_iff.1 h).1
  refine Rets.enterV Tryz.func50 rfl (rs := [.tmp 2]) Tryz.results50 Tryz.ntmps50 ?_
  simp only [List.size_toArray, List.length_cons, List.length_nil, Nat.reduceAdd, Nat.reduceSub, List.replicate_succ, List.replicate_zero, List.cons_append, List.nil_append]
  ((try with_reducible refine Cw.go [] ?_); (try simp (disch := (first | assumption | omega | (simp only [lenS, lenT, UInt64.reduceToNat]; try omega))) only [↓Sx.S0, Sx.S1, Tryz.fx, uWB_1, Nat.reduceAdd, Nat.reducePow, Int.reducePow, Nat.reduceBEq, ↓reduceIte, UInt8.reduceToNat, UInt16.reduceToNat, UInt32.reduceToNat, UInt64.reduceToNat, Int.reduceToNat]))
  refine Ow.buildSlice (e := 9) #[vs s] rfl rfl (by kernel_rfl) fun b1 hb1 hw1 => ?_
  refine Ow.go rfl ?_
  simp (disch := (first | assumption | omega | (simp only [lenS, lenT, UInt64.reduceToNat]; try omega))) only [↓Sx.S0, Sx.S1, Tryz.fx, uWB_1, Nat.reduceAdd, Nat.reducePow, Int.reducePow, Nat.reduceBEq, ↓reduceIte, UInt8.reduceToNat, UInt16.reduceToNat, UInt32.reduceToNat, UInt64.reduceToNat, Int.reduceToNat]
  refine Ow.callFV rfl Tryz.call71 (fun w' hw' => cSum_spec b1 s _ w' (GlobC.of hG hw' (by simp [keys]; omega)) hs (hw'.has _ _ List.mem_cons_self)) ?_
  refine Ow.go rfl ?_
  simp (disch := (first | assumption | omega | (simp only [lenS, lenT, UInt64.reduceToNat]; try omega))) only [↓Sx.S0, Sx.S1, Tryz.fx, uWB_1, Nat.reduceAdd, Nat.reducePow, Int.reducePow, Nat.reduceBEq, ↓reduceIte, UInt8.reduceToNat, UInt16.reduceToNat, UInt32.reduceToNat, UInt64.reduceToNat, Int.reduceToNat]
  ((try with_reducible refine Cw.go [] ?_); (try simp (disch := (first | assumption | omega | (simp only [lenS, lenT, UInt64.reduceToNat]; try omega))) only [↓Sx.S0, Sx.S1, Tryz.fx, uWB_1, Nat.reduceAdd, Nat.reducePow, Int.reducePow, Nat.reduceBEq, ↓reduceIte, UInt8.reduceToNat, UInt16.reduceToNat, UInt32.reduceToNat, UInt64.reduceToNat, Int.reduceToNat]))
  unfold sealV
  generalize crcV s = n
  refine Ow.alloc rfl rfl Tryz.zr115 fun b2 hb2 hw2 => ?_
  obtain ⟨h12, -⟩ := hb2
  refine Ow.go rfl ?_
  simp (disch := (first | assumption | omega | (simp only [lenS, lenT, UInt64.reduceToNat]; try omega))) only [↓Sx.S0, Sx.S1, Tryz.fx, uWB_1, Nat.reduceAdd, Nat.reducePow, Int.reducePow, Nat.reduceBEq, ↓reduceIte, UInt8.reduceToNat, UInt16.reduceToNat, UInt32.reduceToNat, UInt64.reduceToNat, Int.reduceToNat]
  ((try with_reducible refine Cw.go [] ?_); (try simp (disch := (first | assumption | omega | (simp only [lenS, lenT, UInt64.reduceToNat]; try omega))) only [↓Sx.S0, Sx.S1, Tryz.fx, uWB_1, Nat.reduceAdd, Nat.reducePow, Int.reducePow, Nat.reduceBEq, ↓reduceIte, UInt8.reduceToNat, UInt16.reduceToNat, UInt32.reduceToNat, UInt64.reduceToNat, Int.reduceToNat]))
  rw [show a8 (List.replicate 4 0) = a8 (sumPre n 0) from rfl]
  refine Cw.loopG (G := Nat) [10, 11, 5, 12, 13, 14, 15, 16, 17, 18, 19, 9] (fun g => [(9, vi g)]) (fun g => [(b1, .cells #[vs s] 9 (0, 0)), (b2, .cells (a8 (sumPre n g)) 115 (0, 0))]) (fun g => g ≤ 4) (fun g => 4 - g) 0 rfl rfl ?_ ?_
  · omega
  intro g j hg
  simp only [overFrom, pin, setF_0, setF_s, List.contains_cons, List.contains_nil, Nat.reduceBEq, Bool.or_false, Bool.false_or, Bool.or_true, Bool.true_or, Nat.reduceAdd, ↓reduceIte, Bool.false_eq_true]
  have hpl := sumPre_len n g
  by_cases hlt : g < 4
  · ((try with_reducible refine Cw.go [] ?_); (try simp (disch := (first | assumption | omega | (simp only [lenS, lenT, UInt64.reduceToNat]; try omega))) only [↓Sx.S0, Sx.S1, Tryz.fx, uWB_1, Nat.reduceAdd, Nat.reducePow, Int.reducePow, Nat.reduceBEq, ↓reduceIte, UInt8.reduceToNat, UInt16.reduceToNat, UInt32.reduceToNat, UInt64.reduceToNat, Int.reduceToNat]))
    refine Again.mk (g + 1) (by omega) (by omega) ?_ rfl
    rw [sumPre_succ n g hlt]
  · obtain rfl : g = 4 := by omega
    ((try with_reducible refine Cw.go [] ?_); (try simp (disch := (first | assumption | omega | (simp only [lenS, lenT, UInt64.reduceToNat]; try omega))) only [↓Sx.S0, Sx.S1, Tryz.fx, uWB_1, Nat.reduceAdd, Nat.reducePow, Int.reducePow, Nat.reduceBEq, ↓reduceIte, UInt8.reduceToNat, UInt16.reduceToNat, UInt32.reduceToNat, UInt64.reduceToNat, Int.reduceToNat]))
    refine ⟨_, (by simp (disch := (first | assumption | omega | (simp only [lenS, lenT, UInt64.reduceToNat]; try omega))) only [↓Sx.S0, Sx.S1, Tryz.fx, uWB_1, Nat.reduceAdd, Nat.reducePow, Int.reducePow, Nat.reduceBEq, ↓reduceIte, UInt8.reduceToNat, UInt16.reduceToNat, UInt32.reduceToNat, UInt64.reduceToNat, Int.reduceToNat]; rfl), ⟨hw1, hw2, trivial⟩, ?_⟩
    rw [List.drop_zero, List.take_of_length_le (by omega)]; rfl
/-- What was sealed. -/
def unsealV (s : List UInt8) : List UInt8 × Bool :=
  if s.length < 4 then ([], false) else if sealV (s.take (s.length - 4)) = s then (s.take (s.length - 4), true) else ([], false)
theorem sealV_len (s : List UInt8) : (sealV s).length = s.length + 4 := by unfold sealV sum4; rw [List.length_append, sumPre_len]
theorem cUnseal_spec (s : List UInt8) (w : World) (hG : GlobC w) (hs : s.length < 1099511627776) :
    Rets Tryz.prog 64 #[vs s] w (fun v D => v = .tuple #[vs (unsealV s).1, .bool (unsealV s).2] ∧ D = []) := by
  refine Rets.enterV Tryz.func64 rfl (rs := [.tmp 2, .tmp 3]) Tryz.results64 Tryz.ntmps64 ?_
  simp only [List.size_toArray, List.length_cons, List.length_nil, Nat.reduceAdd, Nat.reduceSub, List.replicate_succ, List.replicate_zero, List.cons_append, List.nil_append]
  ((try with_reducible refine Cw.go [] ?_); (try simp (disch := (first | assumption | omega | (simp only [lenS, lenT, UInt64.reduceToNat]; try omega))) only [↓Sx.S0, Sx.S1, Tryz.fx, uWB_1, Nat.reduceAdd, Nat.reducePow, Int.reducePow, Nat.reduceBEq, ↓reduceIte, UInt8.reduceToNat, UInt16.reduceToNat, UInt32.reduceToNat, UInt64.reduceToNat, Int.reduceToNat]))
  unfold unsealV
  by_cases h4 : s.length < 4
  · have e1 : decide ((s.length : Int) < 4) = true := decide_eq_true (by omega)
    rw [if_pos h4]
    ((try with_reducible refine Cw.go [] ?_); (try simp (disch := (first | assumption | omega | (simp only [lenS, lenT, UInt64.reduceToNat]; try omega))) only [↓Sx.S0, Sx.S1, Tryz.fx, uWB_1, Nat.reduceAdd, Nat.reducePow, Int.reducePow, Nat.reduceBEq, ↓reduceIte, UInt8.reduceToNat, UInt16.reduceToNat, UInt32.reduceToNat, UInt64.reduceToNat, Int.reduceToNat, e1]))
    refine ⟨_, (by simp (disch := (first | assumption | omega | (simp only [lenS, lenT, UInt64.reduceToNat]; try omega))) only [↓Sx.S0, Sx.S1, Tryz.fx, uWB_1, Nat.reduceAdd, Nat.reducePow, Int.reducePow, Nat.reduceBEq, ↓reduceIte, UInt8.reduceToNat, UInt16.reduceToNat, UInt32.reduceToNat, UInt64.reduceToNat, Int.reduceToNat]; rfl), trivial, ?_⟩
    rfl
  · have e1 : decide ((s.length : Int) < 4) = false := decide_eq_false (by omega)
    have e2 : ((s.length : Int) - 4).toNat = s.length - 4 := by omega
    rw [if_neg h4]
    ((try with_reducible refine Cw.go [] ?_); (try simp (disch := (first | assumption | omega | (simp only [lenS, lenT, UInt64.reduceToNat]; try omega))) only [↓Sx.S0, Sx.S1, Tryz.fx, uWB_1, Nat.reduceAdd, Nat.reducePow, Int.reducePow, Nat.reduceBEq, ↓reduceIte, UInt8.reduceToNat, UInt16.reduceToNat, UInt32.reduceToNat, UInt64.reduceToNat, Int.reduceToNat, e1, e2]))
    refine Ow.callFV rfl Tryz.call50 (fun w' hw' => cSeal_spec (s.take (s.length - 4)) w' (GlobC.of hG hw' (by simp [keys])) (by rw [List.length_take]; omega)) ?_
    refine Ow.go rfl ?_
    simp (disch := (first | assumption | omega | (simp only [lenS, lenT, UInt64.reduceToNat]; try omega))) only [↓Sx.S0, Sx.S1, Tryz.fx, uWB_1, Nat.reduceAdd, Nat.reducePow, Int.reducePow, Nat.reduceBEq, ↓reduceIte, UInt8.reduceToNat, UInt16.reduceToNat, UInt32.reduceToNat, UInt64.reduceToNat, Int.reduceToNat]
    cases hq : (sealV (s.take (s.length - 4)) != s)
    · rw [if_pos (by simpa using hq)]
      ((try with_reducible refine Cw.go [] ?_); (try simp (disch := (first | assumption | omega | (simp only [lenS, lenT, UInt64.reduceToNat]; try omega))) only [↓Sx.S0, Sx.S1, Tryz.fx, uWB_1, Nat.reduceAdd, Nat.reducePow, Int.reducePow, Nat.reduceBEq, ↓reduceIte, UInt8.reduceToNat, UInt16.reduceToNat, UInt32.reduceToNat, UInt64.reduceToNat, Int.reduceToNat, hq, e2]))
      refine ⟨_, (by simp (disch := (first | assumption | omega | (simp only [lenS, lenT, UInt64.reduceToNat]; try omega))) only [↓Sx.S0, Sx.S1, Tryz.fx, uWB_1, Nat.reduceAdd, Nat.reducePow, Int.reducePow, Nat.reduceBEq, ↓reduceIte, UInt8.reduceToNat, UInt16.reduceToNat, UInt32.reduceToNat, UInt64.reduceToNat, Int.reduceToNat]; rfl), trivial, ?_⟩
      rfl
    · rw [if_neg (by simpa using hq)]
      ((try with_reducible refine Cw.go [] ?_); (try simp (disch := (first | assumption | omega | (simp only [lenS, lenT, UInt64.reduceToNat]; try omega))) only [↓Sx.S0, Sx.S1, Tryz.fx, uWB_1, Nat.reduceAdd, Nat.reducePow, Int.reducePow, Nat.reduceBEq, ↓reduceIte, UInt8.reduceToNat, UInt16.reduceToNat, UInt32.reduceToNat, UInt64.reduceToNat, Int.reduceToNat, hq]))
      refine ⟨_, (by simp (disch := (first | assumption | omega | (simp only [lenS, lenT, UInt64.reduceToNat]; try omega))) only [↓Sx.S0, Sx.S1, Tryz.fx, uWB_1, Nat.reduceAdd, Nat.reducePow, Int.reducePow, Nat.reduceBEq, ↓reduceIte, UInt8.reduceToNat, UInt16.reduceToNat, UInt32.reduceToNat, UInt64.reduceToNat, Int.reduceToNat]; rfl), trivial, ?_⟩
      rfl
end Go.Proofs
end
namespace Go.Sx
def kB (c : Bool) : BitVec 32 := bif c then 3988292384#32 else 0#32
def stB (x : BitVec 32) : BitVec 32 := (x >>> 1) ^^^ kB (x.getLsbD 0)
theorem kB_low (c : Bool) (j : Nat) (h : j < 5) : (kB c).getLsbD j = false := by
  have : j = 0 ∨ j = 1 ∨ j = 2 ∨ j = 3 ∨ j = 4 := by omega
  rcases this with rfl | rfl | rfl | rfl | rfl <;> cases c <;> decide
theorem stB_low (x : BitVec 32) (j : Nat) (h : j < 5) : (stB x).getLsbD j = x.getLsbD (j + 1) := by
  unfold stB
  rw [BitVec.getLsbD_xor, kB_low _ _ h, BitVec.getLsbD_ushiftRight, Bool.xor_false, Nat.add_comm]
theorem stB4 (x : BitVec 32) : stB (stB (stB (stB x))) = (x >>> 4) ^^^ (kB (x.getLsbD 0) >>> 3 ^^^ kB (x.getLsbD 1) >>> 2 ^^^ kB (x.getLsbD 2) >>> 1 ^^^ kB (x.getLsbD 3)) := by
  have h1 : (stB x).getLsbD 0 = x.getLsbD 1 := stB_low x 0 (by omega)
  have h2 : (stB (stB x)).getLsbD 0 = x.getLsbD 2 := by rw [stB_low _ 0 (by omega), stB_low _ 1 (by omega)]
  have h3 : (stB (stB (stB x))).getLsbD 0 = x.getLsbD 3 := by rw [stB_low _ 0 (by omega), stB_low _ 1 (by omega), stB_low _ 2 (by omega)]
  have e4 : stB (stB (stB (stB x))) = (stB (stB (stB x)) >>> 1) ^^^ kB (x.getLsbD 3) := by rw [← h3]; rfl
  have e3 : stB (stB (stB x)) = (stB (stB x) >>> 1) ^^^ kB (x.getLsbD 2) := by rw [← h2]; rfl
  have e2 : stB (stB x) = (stB x >>> 1) ^^^ kB (x.getLsbD 1) := by rw [← h1]; rfl
  have e1 : stB x = (x >>> 1) ^^^ kB (x.getLsbD 0) := rfl
  rw [e4, e3, e2, e1]
  simp only [BitVec.ushiftRight_xor_distrib, ← BitVec.shiftRight_add, BitVec.xor_assoc]
def hvB : List (BitVec 32) := [0x00000000, 0x1db71064, 0x3b6e20c8, 0x26d930ac, 0x76dc4190, 0x6b6b51f4, 0x4db26158, 0x5005713c, 0xedb88320, 0xf00f9344, 0xd6d6a3e8, 0xcb61b38c, 0x9b64c2b0, 0x86d3d2d4, 0xa00ae278, 0xbdbdf21c]
theorem tabB : ∀ a b c d : Bool, (kB a >>> 3 ^^^ kB b >>> 2 ^^^ kB c >>> 1 ^^^ kB d) = hvB.getD (a.toNat + 2 * b.toNat + 4 * c.toNat + 8 * d.toNat) 0 := by decide
theorem lowB (x : BitVec 32) : x.toNat % 16 = (x.getLsbD 0).toNat + 2 * (x.getLsbD 1).toNat + 4 * (x.getLsbD 2).toNat + 8 * (x.getLsbD 3).toNat := by
  have e : ∀ i, (x.getLsbD i).toNat = x.toNat / 2 ^ i % 2 := by
    intro i
    rw [BitVec.getLsbD, Nat.testBit_eq_decide_div_mod_eq]
    have := Nat.mod_lt (x.toNat / 2 ^ i) (show 0 < 2 by omega)
    by_cases h : x.toNat / 2 ^ i % 2 = 1
    · simp [h]
    · have h0 : x.toNat / 2 ^ i % 2 = 0 := by omega
      simp [h0]
  rw [e 0, e 1, e 2, e 3]
  omega
theorem halfB (x : BitVec 32) : stB (stB (stB (stB x))) = (x >>> 4) ^^^ hvB.getD (x.toNat % 16) 0 := by
  rw [stB4, tabB, lowB]
end Go.Sx
section
open Go Go.Proofs Go.Sx
namespace Go.Proofs
set_option maxRecDepth 10000
set_option maxHeartbeats 4000000
set_option linter.unusedSimpArgs false
def stepV (n : UInt32) : UInt32 := if n % 2 == 1 then n / 2 ^^^ 3988292384 else n / 2
theorem stepV_B (n : UInt32) : (stepV n).toBitVec = stB n.toBitVec := by
  have hd : (n / 2).toBitVec = n.toBitVec >>> 1 := by
    apply BitVec.eq_of_toNat_eq
    rw [UInt32.toBitVec_div, BitVec.toNat_udiv, BitVec.toNat_ushiftRight]
    rfl
  have hm : (n % 2 == 1) = n.toBitVec.getLsbD 0 := by
    rw [BitVec.getLsbD, Nat.testBit_eq_decide_div_mod_eq, Nat.pow_zero, Nat.div_one, Bool.eq_iff_iff, beq_iff_eq, decide_eq_true_eq, ← UInt32.toNat_inj, UInt32.toNat_mod]
    rfl
  unfold stepV stB
  rw [hm]
  cases n.toBitVec.getLsbD 0
  · rw [if_neg (by decide), hd]; simp [kB]
  · rw [if_pos rfl, UInt32.toBitVec_xor, hd]; rfl
theorem half_step (n : UInt32) : half32 n = stepV (stepV (stepV (stepV n))) := by
  apply UInt32.toBitVec_inj.1
  rw [stepV_B, stepV_B, stepV_B, stepV_B, halfB]
  unfold half32
  rw [UInt32.toBitVec_xor]
  congr 1
  · apply BitVec.eq_of_toNat_eq
    unfold shr_u32
    rw [BitVec.toNat_ushiftRight, Nat.shiftRight_eq_div_pow]
    have := n.toNat_lt
    simp only [UInt32.toNat_toBitVec, UInt32.toNat_ofNat']
    omega
  · have e : (n &&& 15).toNat = n.toBitVec.toNat % 16 := by
      rw [UInt32.toNat_and, show (15 : UInt32).toNat = 2 ^ 4 - 1 from rfl, Nat.and_two_pow_sub_one_eq_mod]
      rfl
    rw [e]
    have hlt : n.toBitVec.toNat % 16 < 16 := Nat.mod_lt _ (by omega)
    generalize n.toBitVec.toNat % 16 = m at hlt
    have : ∀ m, m < 16 → (hvL.getD m 0).toBitVec = hvB.getD m 0 := by decide
    exact this m hlt
def steps (n : UInt32) : Nat → UInt32
  | 0 => n
  | k + 1 => stepV (steps n k)
theorem feed_steps (n : UInt32) : steps n 8 = halfs n 2 := by
  show stepV (stepV (stepV (stepV (stepV (stepV (stepV (stepV n))))))) = half32 (half32 n)
  rw [half_step, half_step]
set_option linter.defProp false
def uWC_1 := And.intro (And.intro (@rdIn_v8) (@rdIn_v16)) (And.intro (@rdIn_v32) (And.intro (@rdIn_v64) (@rdIn_vi)))
theorem Step_spec (n : UInt32) (w : World) : Rets Tryz.prog 104 #[v32 n] w (fun v D => v = v32 (stepV n) ∧ D = []) := by
  have hrem : binV .rem (v32 n) (v32 2) = some (v32 (n % 2)) := bin_rem_u32 _ _ (by decide)
  have hquo : binV .quo (v32 n) (v32 2) = some (v32 (n / 2)) := bin_quo_u32 _ _ (by decide)
  refine Rets.enterV Tryz.func104 rfl (rs := [.tmp 2]) Tryz.results104 Tryz.ntmps104 ?_
  simp only [List.size_toArray, List.length_cons, List.length_nil, Nat.reduceAdd, Nat.reduceSub, List.replicate_succ, List.replicate_zero, List.cons_append, List.nil_append]
  unfold stepV
  ((try with_reducible refine Cw.go [] ?_); (try simp (disch := (first | assumption | omega | (simp only [lenS, lenT, UInt64.reduceToNat]; try omega))) only [↓Sx.S0, Sx.S1, Tryz.fx, uWC_1, Nat.reduceAdd, Nat.reducePow, Int.reducePow, Nat.reduceBEq, ↓reduceIte, UInt8.reduceToNat, UInt16.reduceToNat, UInt32.reduceToNat, UInt64.reduceToNat, Int.reduceToNat, hrem, hquo]))
  cases h : (n % 2 == 1)
  · ((try with_reducible refine Cw.go [] ?_); (try simp (disch := (first | assumption | omega | (simp only [lenS, lenT, UInt64.reduceToNat]; try omega))) only [↓Sx.S0, Sx.S1, Tryz.fx, uWC_1, Nat.reduceAdd, Nat.reducePow, Int.reducePow, Nat.reduceBEq, ↓reduceIte, UInt8.reduceToNat, UInt16.reduceToNat, UInt32.reduceToNat, UInt64.reduceToNat, Int.reduceToNat, hquo]))
    refine ⟨_, (by simp (disch := (first | assumption | omega | (simp only [lenS, lenT, UInt64.reduceToNat]; try omega))) only [↓Sx.S0, Sx.S1, Tryz.fx, uWC_1, Nat.reduceAdd, Nat.reducePow, Int.reducePow, Nat.reduceBEq, ↓reduceIte, UInt8.reduceToNat, UInt16.reduceToNat, UInt32.reduceToNat, UInt64.reduceToNat, Int.reduceToNat]; rfl), trivial, ?_⟩
    rfl
  · ((try with_reducible refine Cw.go [] ?_); (try simp (disch := (first | assumption | omega | (simp only [lenS, lenT, UInt64.reduceToNat]; try omega))) only [↓Sx.S0, Sx.S1, Tryz.fx, uWC_1, Nat.reduceAdd, Nat.reducePow, Int.reducePow, Nat.reduceBEq, ↓reduceIte, UInt8.reduceToNat, UInt16.reduceToNat, UInt32.reduceToNat, UInt64.reduceToNat, Int.reduceToNat, hquo]))
    refine ⟨_, (by simp (disch := (first | assumption | omega | (simp only [lenS, lenT, UInt64.reduceToNat]; try omega))) only [↓Sx.S0, Sx.S1, Tryz.fx, uWC_1, Nat.reduceAdd, Nat.reducePow, Int.reducePow, Nat.reduceBEq, ↓reduceIte, UInt8.reduceToNat, UInt16.reduceToNat, UInt32.reduceToNat, UInt64.reduceToNat, Int.reduceToNat]; rfl), trivial, ?_⟩
    rfl
theorem Feed_spec (n : UInt32) (b : UInt8) (w : World) : Rets Tryz.prog 85 #[v32 n, v8 b] w (fun v D => v = v32 (feedV n b) ∧ D = []) := by
  refine Rets.enterV Tryz.func85 rfl (rs := [.tmp 4]) Tryz.results85 Tryz.ntmps85 ?_
  simp only [List.size_toArray, List.length_cons, List.length_nil, Nat.reduceAdd, Nat.reduceSub, List.replicate_succ, List.replicate_zero, List.cons_append, List.nil_append]
  ((try with_reducible refine Cw.go [] ?_); (try simp (disch := (first | assumption | omega | (simp only [lenS, lenT, UInt64.reduceToNat]; try omega))) only [↓Sx.S0, Sx.S1, Tryz.fx, uWC_1, Nat.reduceAdd, Nat.reducePow, Int.reducePow, Nat.reduceBEq, ↓reduceIte, UInt8.reduceToNat, UInt16.reduceToNat, UInt32.reduceToNat, UInt64.reduceToNat, Int.reduceToNat]))
  unfold feedV
  generalize n ^^^ UInt32.ofNat b.toNat = m
  rw [← feed_steps, show v32 m = v32 (steps m 0) from rfl]
  refine Cw.loopG (G := Nat) [10, 11, 14, 15, 0, 12, 13, 5] (fun g => [(0, v32 (steps m g)), (5, vi g)]) (fun g => []) (fun g => g ≤ 8) (fun g => 8 - g) 0 rfl rfl ?_ ?_
  · omega
  intro g j hg
  simp only [overFrom, pin, setF_0, setF_s, List.contains_cons, List.contains_nil, Nat.reduceBEq, Bool.or_false, Bool.false_or, Bool.or_true, Bool.true_or, Nat.reduceAdd, ↓reduceIte, Bool.false_eq_true]
  by_cases hlt : g < 8
  · ((try with_reducible refine Cw.go [] ?_); (try simp (disch := (first | assumption | omega | (simp only [lenS, lenT, UInt64.reduceToNat]; try omega))) only [↓Sx.S0, Sx.S1, Tryz.fx, uWC_1, Nat.reduceAdd, Nat.reducePow, Int.reducePow, Nat.reduceBEq, ↓reduceIte, UInt8.reduceToNat, UInt16.reduceToNat, UInt32.reduceToNat, UInt64.reduceToNat, Int.reduceToNat]))
    refine Ow.callFV rfl Tryz.call104 (fun w' hw' => Step_spec _ w') ?_
    refine Ow.go rfl ?_
    simp (disch := (first | assumption | omega | (simp only [lenS, lenT, UInt64.reduceToNat]; try omega))) only [↓Sx.S0, Sx.S1, Tryz.fx, uWC_1, Nat.reduceAdd, Nat.reducePow, Int.reducePow, Nat.reduceBEq, ↓reduceIte, UInt8.reduceToNat, UInt16.reduceToNat, UInt32.reduceToNat, UInt64.reduceToNat, Int.reduceToNat]
    ((try with_reducible refine Cw.go [] ?_); (try simp (disch := (first | assumption | omega | (simp only [lenS, lenT, UInt64.reduceToNat]; try omega))) only [↓Sx.S0, Sx.S1, Tryz.fx, uWC_1, Nat.reduceAdd, Nat.reducePow, Int.reducePow, Nat.reduceBEq, ↓reduceIte, UInt8.reduceToNat, UInt16.reduceToNat, UInt32.reduceToNat, UInt64.reduceToNat, Int.reduceToNat]))
    refine Again.mk (g + 1) (by omega) (by omega) rfl rfl
  · obtain rfl : g = 8 := by omega
    ((try with_reducible refine Cw.go [] ?_); (try simp (disch := (first | assumption | omega | (simp only [lenS, lenT, UInt64.reduceToNat]; try omega))) only [↓Sx.S0, Sx.S1, Tryz.fx, uWC_1, Nat.reduceAdd, Nat.reducePow, Int.reducePow, Nat.reduceBEq, ↓reduceIte, UInt8.reduceToNat, UInt16.reduceToNat, UInt32.reduceToNat, UInt64.reduceToNat, Int.reduceToNat]))
    refine ⟨_, (by simp (disch := (first | assumption | omega | (simp only [lenS, lenT, UInt64.reduceToNat]; try omega))) only [↓Sx.S0, Sx.S1, Tryz.fx, uWC_1, Nat.reduceAdd, Nat.reducePow, Int.reducePow, Nat.reduceBEq, ↓reduceIte, UInt8.reduceToNat, UInt16.reduceToNat, UInt32.reduceToNat, UInt64.reduceToNat, Int.reduceToNat]; rfl), trivial, ?_⟩
    rfl
theorem sub_not (n : UInt32) : 4294967295 - n = ~~~ n := by
  apply UInt32.toBitVec_inj.1
  rw [UInt32.toBitVec_sub, UInt32.toBitVec_not, ← BitVec.allOnes_sub_eq_not]
  rfl
theorem refCrc_spec (s : List UInt8) (w : World) (hs : s.length < 1099511627776) : Rets Tryz.prog 61 #[vs s] w (fun v D => v = v32 (crcV s) ∧ D = []) := by
  refine Rets.enterV Tryz.func61 rfl (rs := [.tmp 2]) Tryz.results61 Tryz.ntmps61 ?_
  simp only [List.size_toArray, List.length_cons, List.length_nil, Nat.reduceAdd, Nat.reduceSub, List.replicate_succ, List.replicate_zero, List.cons_append, List.nil_append]
  ((try with_reducible refine Cw.go [] ?_); (try simp (disch := (first | assumption | omega | (simp only [lenS, lenT, UInt64.reduceToNat]; try omega))) only [↓Sx.S0, Sx.S1, Tryz.fx, uWC_1, Nat.reduceAdd, Nat.reducePow, Int.reducePow, Nat.reduceBEq, ↓reduceIte, UInt8.reduceToNat, UInt16.reduceToNat, UInt32.reduceToNat, UInt64.reduceToNat, Int.reduceToNat]))
  rw [show v32 4294967295 = v32 (crcGo (~~~ (0 : UInt32)) (s.take 0)) from rfl]
  refine Cw.loopG (G := Nat) [5, 6, 7, 8, 11, 12, 13, 14, 15, 3, 9, 10, 4] (fun g => [(3, v32 (crcGo (~~~ (0 : UInt32)) (s.take g))), (4, vi g)]) (fun g => []) (fun g => g ≤ s.length) (fun g => s.length - g) 0 rfl rfl ?_ ?_
  · omega
  intro g j hg
  simp only [overFrom, pin, setF_0, setF_s, List.contains_cons, List.contains_nil, Nat.reduceBEq, Bool.or_false, Bool.false_or, Bool.or_true, Bool.true_or, Nat.reduceAdd, ↓reduceIte, Bool.false_eq_true]
  by_cases hlt : g < s.length
  · ((try with_reducible refine Cw.go [] ?_); (try simp (disch := (first | assumption | omega | (simp only [lenS, lenT, UInt64.reduceToNat]; try omega))) only [↓Sx.S0, Sx.S1, Tryz.fx, uWC_1, Nat.reduceAdd, Nat.reducePow, Int.reducePow, Nat.reduceBEq, ↓reduceIte, UInt8.reduceToNat, UInt16.reduceToNat, UInt32.reduceToNat, UInt64.reduceToNat, Int.reduceToNat]))
    refine Ow.callFV rfl Tryz.call85 (fun w' hw' => Feed_spec _ _ w') ?_
    refine Ow.go rfl ?_
    simp (disch := (first | assumption | omega | (simp only [lenS, lenT, UInt64.reduceToNat]; try omega))) only [↓Sx.S0, Sx.S1, Tryz.fx, uWC_1, Nat.reduceAdd, Nat.reducePow, Int.reducePow, Nat.reduceBEq, ↓reduceIte, UInt8.reduceToNat, UInt16.reduceToNat, UInt32.reduceToNat, UInt64.reduceToNat, Int.reduceToNat]
    ((try with_reducible refine Cw.go [] ?_); (try simp (disch := (first | assumption | omega | (simp only [lenS, lenT, UInt64.reduceToNat]; try omega))) only [↓Sx.S0, Sx.S1, Tryz.fx, uWC_1, Nat.reduceAdd, Nat.reducePow, Int.reducePow, Nat.reduceBEq, ↓reduceIte, UInt8.reduceToNat, UInt16.reduceToNat, UInt32.reduceToNat, UInt64.reduceToNat, Int.reduceToNat]))
    refine Again.mk (g + 1) (by omega) (by omega) rfl ?_
    rw [crcGo_succ _ _ _ hlt]
    rfl
  · obtain rfl : g = s.length := by omega
    ((try with_reducible refine Cw.go [] ?_); (try simp (disch := (first | assumption | omega | (simp only [lenS, lenT, UInt64.reduceToNat]; try omega))) only [↓Sx.S0, Sx.S1, Tryz.fx, uWC_1, Nat.reduceAdd, Nat.reducePow, Int.reducePow, Nat.reduceBEq, ↓reduceIte, UInt8.reduceToNat, UInt16.reduceToNat, UInt32.reduceToNat, UInt64.reduceToNat, Int.reduceToNat]))
    rw [List.take_length]
    rw [sub_not]
    refine ⟨_, (by simp (disch := (first | assumption | omega | (simp only [lenS, lenT, UInt64.reduceToNat]; try omega))) only [↓Sx.S0, Sx.S1, Tryz.fx, uWC_1, Nat.reduceAdd, Nat.reducePow, Int.reducePow, Nat.reduceBEq, ↓reduceIte, UInt8.reduceToNat, UInt16.reduceToNat, UInt32.reduceToNat, UInt64.reduceToNat, Int.reduceToNat]; rfl), trivial, ?_⟩
    rfl
theorem sum4_eq (n : UInt32) : sum4 n = [UInt8.ofNat (n % 256).toNat, UInt8.ofNat (n / 256 % 256).toNat, UInt8.ofNat (n / 65536 % 256).toNat, UInt8.ofNat (n / 16777216).toNat] := by
  show [UInt8.ofNat (shr_u32 n 0).toNat, UInt8.ofNat (shr_u32 n 8).toNat, UInt8.ofNat (shr_u32 n 16).toNat, UInt8.ofNat (shr_u32 n 24).toNat] = _
  have hn := n.toNat_lt
  congr 1
  · apply UInt8.toNat_inj.1
    simp [shr_u32]
  · congr 1
    · apply UInt8.toNat_inj.1
      simp [shr_u32]
    · congr 1
      · apply UInt8.toNat_inj.1
        simp [shr_u32]
      · congr 1
        apply UInt8.toNat_inj.1
        simp [shr_u32]
theorem refSeal_spec (s : List UInt8) (w : World) (hs : s.length < 1099511627776) :
    Rets Tryz.prog 38 #[vs s] w (fun v D => v = vs (sealV s) ∧ D = []) := by
  refine Rets.enterV Tryz.func38 rfl (rs := [.tmp 2]) Tryz.results38 Tryz.ntmps38 ?_
  simp only [List.size_toArray, List.length_cons, List.length_nil, Nat.reduceAdd, Nat.reduceSub, List.replicate_succ, List.replicate_zero, List.cons_append, List.nil_append]
  ((try with_reducible refine Cw.go [] ?_); (try simp (disch := (first | assumption | omega | (simp only [lenS, lenT, UInt64.reduceToNat]; try omega))) only [↓Sx.S0, Sx.S1, Tryz.fx, uWC_1, Nat.reduceAdd, Nat.reducePow, Int.reducePow, Nat.reduceBEq, ↓reduceIte, UInt8.reduceToNat, UInt16.reduceToNat, UInt32.reduceToNat, UInt64.reduceToNat, Int.reduceToNat]))
  refine Ow.callFV rfl Tryz.call61 (fun w' hw' => refCrc_spec s w' hs) ?_
  refine Ow.go rfl ?_
  simp (disch := (first | assumption | omega | (simp only [lenS, lenT, UInt64.reduceToNat]; try omega))) only [↓Sx.S0, Sx.S1, Tryz.fx, uWC_1, Nat.reduceAdd, Nat.reducePow, Int.reducePow, Nat.reduceBEq, ↓reduceIte, UInt8.reduceToNat, UInt16.reduceToNat, UInt32.reduceToNat, UInt64.reduceToNat, Int.reduceToNat]
  unfold sealV
  rw [sum4_eq]
  generalize crcV s = n
  have h1 : binV .rem (v32 n) (v32 256) = some (v32 (n % 256)) := bin_rem_u32 _ _ (by decide)
  have h2 : binV .quo (v32 n) (v32 256) = some (v32 (n / 256)) := bin_quo_u32 _ _ (by decide)
  have h3 : binV .rem (v32 (n / 256)) (v32 256) = some (v32 (n / 256 % 256)) := bin_rem_u32 _ _ (by decide)
  have h4 : binV .quo (v32 n) (v32 65536) = some (v32 (n / 65536)) := bin_quo_u32 _ _ (by decide)
  have h5 : binV .rem (v32 (n / 65536)) (v32 256) = some (v32 (n / 65536 % 256)) := bin_rem_u32 _ _ (by decide)
  have h6 : binV .quo (v32 n) (v32 16777216) = some (v32 (n / 16777216)) := bin_quo_u32 _ _ (by decide)
  ((try with_reducible refine Cw.go [] ?_); (try simp (disch := (first | assumption | omega | (simp only [lenS, lenT, UInt64.reduceToNat]; try omega))) only [↓Sx.S0, Sx.S1, Tryz.fx, uWC_1, Nat.reduceAdd, Nat.reducePow, Int.reducePow, Nat.reduceBEq, ↓reduceIte, UInt8.reduceToNat, UInt16.reduceToNat, UInt32.reduceToNat, UInt64.reduceToNat, Int.reduceToNat, h1, h2, h3, h4, h5, h6]))
  generalize UInt8.ofNat (n % 256).toNat = q0
  generalize UInt8.ofNat (n / 256 % 256).toNat = q1
  generalize UInt8.ofNat (n / 65536 % 256).toNat = q2
  generalize UInt8.ofNat (n / 16777216).toNat = q3
  refine Ow.buildSlice (e := 5) #[v8 q0, v8 q1, v8 q2, v8 q3] rfl rfl (by kernel_rfl) fun b1 hb1 hw1 => ?_
  rw [show (#[v8 q0, v8 q1, v8 q2, v8 q3] : Array Value) = a8 [q0, q1, q2, q3] from rfl]
  have hl4 : [q0, q1, q2, q3].length = 4 := rfl
  have e4 : List.take 4 (List.drop 0 [q0, q1, q2, q3]) = [q0, q1, q2, q3] := rfl
  generalize [q0, q1, q2, q3] = q at *
  refine Ow.go rfl ?_
  simp (disch := (first | assumption | omega | (simp only [lenS, lenT, UInt64.reduceToNat]; try omega))) only [↓Sx.S0, Sx.S1, Tryz.fx, uWC_1, Nat.reduceAdd, Nat.reducePow, Int.reducePow, Nat.reduceBEq, ↓reduceIte, UInt8.reduceToNat, UInt16.reduceToNat, UInt32.reduceToNat, UInt64.reduceToNat, Int.reduceToNat, e4]
  ((try with_reducible refine Cw.go [] ?_); (try simp (disch := (first | assumption | omega | (simp only [lenS, lenT, UInt64.reduceToNat]; try omega))) only [↓Sx.S0, Sx.S1, Tryz.fx, uWC_1, Nat.reduceAdd, Nat.reducePow, Int.reducePow, Nat.reduceBEq, ↓reduceIte, UInt8.reduceToNat, UInt16.reduceToNat, UInt32.reduceToNat, UInt64.reduceToNat, Int.reduceToNat]))
  refine ⟨_, (by simp (disch := (first | assumption | omega | (simp only [lenS, lenT, UInt64.reduceToNat]; try omega))) only [↓Sx.S0, Sx.S1, Tryz.fx, uWC_1, Nat.reduceAdd, Nat.reducePow, Int.reducePow, Nat.reduceBEq, ↓reduceIte, UInt8.reduceToNat, UInt16.reduceToNat, UInt32.reduceToNat, UInt64.reduceToNat, Int.reduceToNat]; rfl), ⟨hw1, trivial⟩, ?_⟩
  rfl
end Go.Proofs
end
namespace Go.Sx
open Go
section
variable {P : Program} {w0 : World} {f : Fr} {L : Heap} {N : Fr → Heap → Prop} {ops : Array Oper} {rest : List Oper} {md : Md}
  {d : Option Tmp} {ty : TypeId} {ps : String} {af : Array Edge} {g : Option (Nat × Bool)}
def v32i (n : Int) : Value := .int .i32 n
theorem binX_i32 (op : BinOp) (t : TypeId) (a b : Int) : binX P op t (v32i a) (v32i b) = binV op (v32i a) (v32i b) := (rfl)
theorem bin_lss_i32 (a b : Int) : binV .lss (v32i a) (v32i b) = some (.bool (decide (a < b))) := by simp [binV, v32i, intV, cmpV]
theorem bin_gtr_i32 (a b : Int) : binV .gtr (v32i a) (v32i b) = some (.bool (decide (b < a))) := by simp [binV, v32i, intV, cmpV]
theorem bin_eql_i32 (a b : Int) : binV .eql (v32i a) (v32i b) = some (.bool (a == b)) := by simp [binV, v32i, intV, cmpV]
theorem lit_i32 (n : Int) : Value.int .i32 n = v32i n := (rfl)

/-- A function value with one argument, whose callee leaves nothing but garbage. -/
theorem Ow.callFn1 {x y : Operand} {ts : Array TypeId} {k : FuncId} {v a : Value} (hs : skipped ops f ⟨d, .call ⟨.value x, #[y], ts⟩, ty, ps, af, g⟩ = false) (hx : ev f x = .func (.func k) #[] #[]) (hy : ev f y = a)
    (hk : ∀ a w, (callFunc k a).run P w = .ok (.enter k a) w) (hc : ∀ w, Hp w0 L w → Rets P k #[a] w (fun v' D => v' = v ∧ D = [])) (hn : Ow P w0 ops md.next rest (putF f d v) L N) :
    Ow P w0 ops md (⟨d, .call ⟨.value x, #[y], ts⟩, ty, ps, af, g⟩ :: rest) f L N :=
  Ow.callV hs hx hk (fun w hw => by simpa [hy] using hc w hw) hn
/-- A text's byte iterator. -/
theorem Ow.rangeText {t : TypeId} {x : Operand} {l : List UInt8} {md' : Md} (he : md.turn = some md') (hs : skipped ops f ⟨d, .range t x, ty, ps, af, g⟩ = false) (hu : P.underlying t = some .string) (hx : ev f x = vs l)
    (hn : ∀ b, Above L b → w0.heap.size ≤ b → Ow P w0 ops md' rest (putF f d (vp b 0)) (L ++ [(b, .stringIter ⟨l.toArray⟩ 0)]) N) :
    Ow P w0 ops md (⟨d, .range t x, ty, ps, af, g⟩ :: rest) f L N := by
  refine Ow.step he rfl hs fun w hw => .inl ⟨vp w.heap.size 0, w.alloc (.stringIter ⟨l.toArray⟩ 0), _, ?_, hw.alloc _, hn _ (above_of fun b hb => hw.lt hb) hw.size⟩
  simp only [execOp, Instr.range, Sem.run_bind, run_underlying hu w, Result.andThen_ok, hx, vs]
  rfl
theorem Ow.nextText {x : Operand} {b : Nat} {l : List UInt8} {pos : Nat} {md' : Md} (he : md.turn = some md') (hs : skipped ops f ⟨d, .next x true, ty, ps, af, g⟩ = false) (hx : ev f x = vp b 0) (hl : look L b = some (.stringIter ⟨l.toArray⟩ pos)) (hp : pos < l.length)
    (hn : Ow P w0 ops md' rest (putF f d (.tuple #[.bool true, vi pos, v32i (Utf8.decode ⟨l.toArray⟩ pos).1])) (setB L b (.stringIter ⟨l.toArray⟩ (pos + (Utf8.decode ⟨l.toArray⟩ pos).2))) N) :
    Ow P w0 ops md (⟨d, .next x true, ty, ps, af, g⟩ :: rest) f L N := by
  refine Ow.step he rfl hs fun w hw => ?_
  have hb := hw.has _ _ (look_mem hl)
  refine .inl ⟨_, { w with heap := w.heap.setIfInBounds b (.stringIter ⟨l.toArray⟩ (pos + (Utf8.decode ⟨l.toArray⟩ pos).2)) }, _, ?_, hw.set (key_of_look hl) rfl rfl rfl rfl, hn⟩
  have hg : (getObj b).run P w = .ok (.stringIter ⟨l.toArray⟩ pos) w := by
    simp only [getObj, Sem.run, hb]
  have hst : ∀ o, (setObj b o).run P w = .ok () { w with heap := w.heap.setIfInBounds b o } := by
    intro o; simp only [setObj, Sem.run, hb]
  have hsz : pos < (ByteArray.mk l.toArray).size := by rw [size_mk]; exact hp
  have : (Instr.next (vp b 0) true ty).run P w = .ok (.tuple #[.bool true, vi pos, v32i (Utf8.decode ⟨l.toArray⟩ pos).1]) { w with heap := w.heap.setIfInBounds b (.stringIter ⟨l.toArray⟩ (pos + (Utf8.decode ⟨l.toArray⟩ pos).2)) } := by
    simp only [Instr.next, vp, Sem.run_bind, hg, Result.andThen_ok, hsz, ↓reduceIte, hst]
    rfl
  simp only [execOp, Sem.run_bind, hx]
  rw [this]
  rfl
theorem Ow.nextOver {x : Operand} {b : Nat} {l : List UInt8} {pos : Nat} {md' : Md} (he : md.turn = some md') (hs : skipped ops f ⟨d, .next x true, ty, ps, af, g⟩ = false) (hx : ev f x = vp b 0) (hl : look L b = some (.stringIter ⟨l.toArray⟩ pos)) (hp : ¬ pos < l.length)
    (hn : Ow P w0 ops md' rest (putF f d (.tuple #[.bool false])) L N) :
    Ow P w0 ops md (⟨d, .next x true, ty, ps, af, g⟩ :: rest) f L N := by
  refine Ow.step he rfl hs fun w hw => ?_
  have hb := hw.has _ _ (look_mem hl)
  refine .inl ⟨.tuple #[.bool false], w, _, ?_, hw, hn⟩
  have hg : (getObj b).run P w = .ok (.stringIter ⟨l.toArray⟩ pos) w := by
    simp only [getObj, Sem.run, hb]
  have hsz : ¬ pos < (ByteArray.mk l.toArray).size := by rw [size_mk]; exact hp
  have : (Instr.next (vp b 0) true ty).run P w = .ok (.tuple #[.bool false]) w := by
    simp only [Instr.next, vp, Sem.run_bind, hg, Result.andThen_ok, hsz, ↓reduceIte]
    rfl
  simp only [execOp, Sem.run_bind, hx]
  rw [this]
  rfl
end
/-- The rune at a place: the byte itself, if it is below 128; else one above. -/
theorem decode_rune (l : List UInt8) (i : Nat) (h : i < l.length) : 0 < (Utf8.decode ⟨l.toArray⟩ i).2 ∧
    ((l.getD i 0).toNat < 128 → Utf8.decode ⟨l.toArray⟩ i = ((l.getD i 0).toNat, 1)) ∧ (128 ≤ (l.getD i 0).toNat → 128 ≤ (Utf8.decode ⟨l.toArray⟩ i).1) := by
  have hb : ((ByteArray.mk l.toArray).get! (i + 0)) = l.getD i 0 := by
    simp [ByteArray.get!, h]
  unfold Utf8.decode
  simp only [hb]
  generalize (l.getD i 0).toNat = b0
  refine ⟨?_, fun h1 => ?_, fun h1 => ?_⟩
  · (repeat' split) <;> simp
  · rw [if_pos h1]
  · rw [if_neg (by omega)]
    (repeat' split) <;> first
      | (simp only [Utf8.runeError]; omega)
      | (rename_i hc; simp only [Bool.and_eq_true, decide_eq_true_eq, ge_iff_le] at hc; omega)
      | (rename_i hc; simp only [ge_iff_le] at hc; omega)
end Go.Sx
