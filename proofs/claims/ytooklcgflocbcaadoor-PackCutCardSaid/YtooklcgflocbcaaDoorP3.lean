/-
  Part 3 of the walk: contracts of the functions that the law reaches, and the calculus they stand on.
  No conditions.
-/
import Derived.Test.YtooklcgflocbcaaDoorP2
section
open Go Go.Proofs Go.Sx Go.StP Go.Flo
namespace Go.Proofs
set_option maxRecDepth 10000
set_option maxHeartbeats 400000
set_option linter.unusedSimpArgs false
/-! ### A part's text -/
theorem pathGo_err {l : List PartL} : ∀ (k a : Nat) (e : Int), pathGo l k a = .error e → e ≠ 0
  | 0, _, e, h => by cases h; decide
  | k + 1, a, e, h => by
    unfold pathGo at h
    split at h
    · split at h
      · cases h; decide
      · split at h
        · cases h; decide
        · cases hp : pathGo l k (l.getD a part0).b.toNat with
          | error x => rw [hp] at h; cases h; exact pathGo_err k _ _ hp
          | ok q => rw [hp] at h; cases h
    · split at h
      · cases h; decide
      · cases h
theorem pathV_err {l : List PartL} {a : Int} {e : Int} (h : pathV l a = .error e) : e ≠ 0 := by
  unfold pathV at h
  split at h
  · cases h; decide
  · exact pathGo_err _ _ _ h
theorem pathGo_lt {l : List PartL} : ∀ (k a : Nat) (p : List Nat), a < l.length → pathGo l k a = .ok p → ∀ x, x ∈ p → x < l.length
  | 0, _, _, _, h => by cases h
  | k + 1, a, p, ha, h => by
    unfold pathGo at h
    split at h
    · split at h
      · cases h
      · rename_i hb
        split at h
        · cases h
        · cases hp : pathGo l k (l.getD a part0).b.toNat with
          | error x => rw [hp] at h; cases h
          | ok q =>
            rw [hp] at h
            cases h
            intro x hx
            rcases List.mem_cons.1 hx with rfl | hx
            · exact ha
            · exact pathGo_lt k _ q (by omega) hp x hx
    · split at h
      · cases h
      · cases h
        intro x hx
        rw [List.mem_singleton] at hx
        omega
theorem pathV_lt {l : List PartL} {a : Int} {p : List Nat} (h : pathV l a = .ok p) : ∀ x, x ∈ p → x < l.length := by
  unfold pathV at h
  split at h
  · cases h
  · exact pathGo_lt _ _ _ (by omega) h
theorem foldT_drop {l : List PartL} {e : Int} : ∀ (p : List Nat) (i : Nat), foldT l (p.drop i) = .error e → foldT l p = .error e
  | [], i, h => by rw [List.drop_nil] at h; exact h
  | a :: p, 0, h => h
  | a :: p, i + 1, h => by
    have := foldT_drop p i h
    unfold foldT
    rw [this]; rfl
theorem gri_nat {w0 w : World} {L D : Heap} {E : TypeId} {v : Value} {l : List Nat} (h : GrI D E 1 v l.length (l.map natC).flatten) (hD : ∀ p, p ∈ D → p ∈ L) (hw : Hp w0 L w) : l.length = 0 ∨ ∃ b c rest, v = vsl b 0 l.length c ∧ b ∈ keys D ∧ readB w0 L b = some (rowO natC E rest l) := by
  obtain ⟨X, hX, h | ⟨h0, -⟩⟩ := h
  · rcases h.inv with ⟨-, h0, -⟩ | ⟨b, c, rest, rfl, hl, h1, h2, h3, h4⟩
    · exact .inl h0
    · exact .inr ⟨b, c, rest, rfl, List.mem_map_of_mem (f := Prod.fst) (hX _ (look_mem hl)), read_look (look_of_mem hw.nodup (hD _ (hX _ (look_mem hl))))⟩
  · exact .inl h0
theorem load_nat {E : TypeId} {rest : List Value} {l : List Nat} (n i : Nat) (hi : i < l.length) : loadV (some (false, n)) (some (rowO natC E rest l)) i = some (vi (l.getD i 0)) := by
  unfold rowO loadV
  have e : (l.map natC).flatten = l.map fun n => vi (n : Nat) := by
    clear hi
    induction l with
    | nil => rfl
    | cons a l ih => rw [List.map_cons, List.flatten_cons, List.map_cons, ih]; rfl
  simp only [e]
  rw [List.getElem?_toArray, List.getElem?_append_left (by simpa using hi), List.getElem?_map, List.getElem?_eq_getElem hi, List.getD_eq_getElem?_getD, List.getElem?_eq_getElem hi]
  rfl
def BndL (l : List PartL) : Prop := ∀ g, g < l.length → (l.getD g part0).x.length < 9223372036854775808
set_option linter.defProp false
def uKH_1 := And.intro (And.intro (And.intro (@rdIn_v8) (@rdIn_vi)) (And.intro (@load_part0) (@load_part1))) (And.intro (And.intro (@load_part2) (@cells_part)) (And.intro (@Sx.tup2_0) (@Sx.tup2_1)))
theorem text_spec (p : PartL) (base : List UInt8) (w : World) (hx : p.x.length < 9223372036854775808) :
    Rets Tryd.prog 74 #[.agg (partC p).toArray, vs base] w (fun v D => v = .tuple #[vs (textV p base).1, vi (textV p base).2] ∧ D = []) := by
  refine Rets.enterV Tryd.func74 rfl (rs := [.tmp 4, .tmp 5]) Tryd.results74 Tryd.ntmps74 ?_
  refine kf ?_
  first | with_reducible refine ks [] uKH_1 ?_ | refine kp uKH_1 ?_
  refine Ow.box rfl rfl fun b2 hb2 hw2 => ?_
  simp only [ev_tmp, getF_0, getF_s, cells_agg, List.nil_append, List.cons_append]
  refine Ow.go rfl ?_
  simp (disch := (first | assumption | omega | (simp only [lenS, lenT, UInt64.reduceToNat]; try omega))) only [↓Sx.S0, Sx.S1, Tryd.fx, uKH_1, Nat.reduceAdd, Nat.reducePow, Int.reducePow, Nat.reduceBEq, ↓reduceIte, UInt8.reduceToNat, UInt16.reduceToNat, UInt32.reduceToNat, UInt64.reduceToNat, Int.reduceToNat]
  cases hd : p.d
  · by_cases hl : 4099 < p.x.length
    · have d1 : decide ((4099 : Int) < (p.x.length : Int)) = true := decide_eq_true (by omega)
      first | with_reducible refine ks [] (And.intro uKH_1 ( And.intro @hd (@d1))) ?_ | refine kp (And.intro uKH_1 ( And.intro @hd (@d1))) ?_
      refine ⟨_, (ke uKH_1), ⟨hw2, trivial⟩, ?_⟩
      unfold textV; rw [if_neg (by simp [hd]), if_pos hl]; rfl
    · have d1 : decide ((4099 : Int) < (p.x.length : Int)) = false := decide_eq_false (by omega)
      first | with_reducible refine ks [] (And.intro uKH_1 ( And.intro @hd (@d1))) ?_ | refine kp (And.intro uKH_1 ( And.intro @hd (@d1))) ?_
      refine ⟨_, (ke uKH_1), ⟨hw2, trivial⟩, ?_⟩
      unfold textV; rw [if_neg (by simp [hd]), if_neg hl]; rfl
  · first | with_reducible refine ks [] (And.intro uKH_1 @hd) ?_ | refine kp (And.intro uKH_1 @hd) ?_
    refine Ow.callFV rfl Tryd.call101 (fun w' hw' => Apply_spec base p.x w' hx) ?_
    refine ko uKH_1 ?_
    first | with_reducible refine ks [] uKH_1 ?_ | refine kp uKH_1 ?_
    refine ⟨_, (ke uKH_1), ⟨hw2, trivial⟩, ?_⟩
    unfold textV; rw [if_pos hd]; rfl
def partO (r : Except Int (List UInt8)) : Value := match r with
  | .ok s => .tuple #[vs s, vi 0]
  | .error e => .tuple #[vs [], vi e]
theorem TextC_spec (v0 : Value) (l : List PartL) (a0 : Int) (w : World) (hv : PartSl w v0 l) (hb : BndL l) (hl : l.length < 1000000) :
    Rets Tryd.prog 36 #[v0, vi a0] w (fun v D => v = partO (partV l a0) ∧ D = []) := by
  obtain ⟨bb, off, arr, E, fz, hr⟩ := hv.row
  refine Rets.enterV Tryd.func36 rfl (rs := [.tmp 4, .tmp 5]) Tryd.results36 Tryd.ntmps36 ?_
  refine kf ?_
  first | with_reducible refine ks [] uKH_1 ?_ | refine kp uKH_1 ?_
  refine Ow.callC rfl rfl Tryd.call73 (fun w' hw' => path_spec v0 l a0 w' (hv.oldN hw' trivial) hl) (fun B1 v1 D1 hA1 hB1 hN1 hS1 => ?_)
  have hN1' := hN1.mono hB1
  unfold PathS at hS1
  unfold partV
  cases hp : pathV l a0 with
  | error e =>
    rw [hp] at hS1
    have hS1' : v1 = .tuple #[.slice none 0 0, vi e] := hS1
    subst hS1'
    have e0 : (e != 0) = true := by rw [bne_iff_ne]; exact pathV_err hp
    refine ko uKH_1 ?_
    first | with_reducible refine ks [] (And.intro uKH_1 @e0) ?_ | refine kp (And.intro uKH_1 @e0) ?_
    refine ⟨_, (ke uKH_1), hN1', ?_⟩
    rfl
  | ok p =>
    rw [hp] at hS1
    obtain ⟨x, rfl, hp5, hg⟩ := hS1
    have hlt := pathV_lt hp
    have e0 : ((0 : Int) != 0) = false := rfl
    have hlen : ∀ m, lenV (.sl m) x = some (vi p.length) := fun m => by
      obtain ⟨X, -, h⟩ := hg; exact h.len m
    refine ko (And.intro uKH_1 ( And.intro @e0 (@hlen))) ?_
    first | with_reducible refine ks [] uKH_1 ?_ | refine kp uKH_1 ?_
    refine Cw.world fun wz hwz => ?_
    have hcase := gri_nat hg (fun q hq => by simpa using hq) hwz
    refine Cw.loopG (G := (Nat × List UInt8)) [22, 23, 27, 28, 29, 30, 31, 32, 33, 34, 35, 26, 36, 37, 8, 7, 38, 39, 40, 4, 5, 24, 25, 9] (fun q => [(7, vi 0), (8, vs q.2), (9, vi ((q.1 : Int) - 1))]) (fun q => D1) (fun q => q.1 ≤ p.length ∧ foldT l (p.drop q.1) = .ok q.2) (fun q => q.1) ⟨p.length, []⟩ rfl rfl ?_ ?_
    · exact ⟨Nat.le_refl _, by rw [List.drop_length]; rfl⟩
    intro q jq hq
    refine kv ?_
    obtain ⟨n, s⟩ := q
    simp only at hq ⊢
    obtain ⟨hq1, hq2⟩ := hq
    cases n with
    | zero =>
      have d1 : decide ((0 : Int) ≤ ((0 : Nat) : Int) - 1) = false := rfl
      first | with_reducible refine ks [] (And.intro uKH_1 @d1) ?_ | refine kp (And.intro uKH_1 @d1) ?_
      refine ⟨_, (ke uKH_1), hN1', ?_⟩
      rw [List.drop_zero] at hq2; show _ = partO ((Except.ok p).bind (foldT l)); rw [show (Except.ok p).bind (foldT l) = foldT l p from rfl, hq2]; rfl
    | succ n =>
      have en : ((n + 1 : Nat) : Int) - 1 = (n : Int) := by omega
      rw [en]
      have d1 : decide ((0 : Int) ≤ (n : Int)) = true := decide_eq_true (by omega)
      rcases hcase with h0 | ⟨bp, cp, rp, rfl, hkp, rdp⟩
      · omega
      have hnl : n < p.length := by omega
      have lp := load_nat (E := 3) (rest := rp) 1 n hnl
      have hmem : p.getD n 0 < l.length := hlt _ (by rw [List.getD_eq_getElem?_getD, List.getElem?_eq_getElem hnl]; exact List.getElem_mem hnl)
      have hdr : p.drop n = p.getD n 0 :: p.drop (n + 1) := by
        rw [List.drop_eq_getElem_cons hnl, List.getD_eq_getElem?_getD, List.getElem?_eq_getElem hnl]; rfl
      have hfo : foldT l (p.drop n) = if (textV (l.getD (p.getD n 0) part0) s).2 = 0 then .ok (textV (l.getD (p.getD n 0) part0) s).1 else .error (textV (l.getD (p.getD n 0) part0) s).2 := by
        rw [hdr, foldT, hq2]; rfl
      generalize p.getD n 0 = a at *
      have hb0 : 0 < l.length := by omega
      have hbl := hr.lt hb0
      have rd : readB w D1 bb = some (.cells arr E fz) := by rw [read_none (hN1'.not hbl)]; exact hr.has hb0
      have i2 := hr.idx true a hmem
      have ld := hr.load partC_len (by omega) hmem
      have hpx := hb a hmem
      generalize l.getD a part0 = pt at *
      first | with_reducible refine ks [] (And.intro uKH_1 ( And.intro @d1 ( And.intro @lp ( And.intro @rdp ( And.intro @rd ( And.intro @i2 (@ld))))))) ?_ | refine kp (And.intro uKH_1 ( And.intro @d1 ( And.intro @lp ( And.intro @rdp ( And.intro @rd ( And.intro @i2 (@ld))))))) ?_
      refine Ow.callFV rfl Tryd.call74 (fun w' hw' => text_spec pt s w' hpx) ?_
      by_cases he : (textV pt s).2 = 0
      · have e1 : ((textV pt s).2 != 0) = false := by rw [he]; rfl
        rw [if_pos he] at hfo
        refine ko uKH_1 ?_
        first | with_reducible refine ks [] (And.intro uKH_1 @e1) ?_ | refine kp (And.intro uKH_1 @e1) ?_
        rw [he]
        exact Again.mk (n, (textV pt s).1) (by show n < n + 1; omega) ⟨by show n ≤ p.length; omega, hfo⟩ rfl rfl
      · have e1 : ((textV pt s).2 != 0) = true := by rw [bne_iff_ne]; exact he
        rw [if_neg he] at hfo
        refine ko uKH_1 ?_
        first | with_reducible refine ks [] (And.intro uKH_1 @e1) ?_ | refine kp (And.intro uKH_1 @e1) ?_
        refine ⟨_, (ke uKH_1), hN1', ?_⟩
        show _ = partO (foldT l p); rw [foldT_drop p n hfo]; rfl
end Go.Proofs
end
namespace Go.Sx
open Go
section
variable {α β : Type} [BEq α] [LawfulBEq α] (encK : α → Value) (encV : β → Value)
/-- The first place of a key. -/
def fndG (k : α) : List (α × β) → Nat → Option (Nat × β)
  | [], _ => none
  | p :: r, i => if k == p.1 then some (i, p.2) else fndG k r (i + 1)
/-- A key is given a value. -/
def updG (k : α) (v : β) : List (α × β) → List (α × β)
  | [] => [(k, v)]
  | p :: r => if k == p.1 then (p.1, v) :: r else p :: updG k v r
/-- What a key has, or else. -/
def getG (k : α) (z : β) (m : List (α × β)) : β := match m.find? fun p => k == p.1 with | some p => p.2 | none => z
def pairG (p : α × β) : Value × Value := (encK p.1, encV p.2)
/-- What a map holds. -/
def MapG (o : Obj) (m : List (α × β)) : Prop := ∃ es clock, o = .map es clock ∧ es.toList.map (fun e => (e.key, e.val)) = m.map (pairG encK encV) ∧ (es.toList.map (·.born) ++ [clock]).Pairwise (· < ·)
/-- What is asked of a kind of keys. -/
structure KeyOk (P : Program) (kt : TypeId) (encK : α → Value) : Prop where
  find : ∀ {β : Type} (encV : β → Value) (w : World) (k : α) (es : List MapEntry) (m : List (α × β)), es.map (fun e => (e.key, e.val)) = m.map (pairG encK encV) → (Instr.findKey kt (encK k) es).run P w = .ok ((fndG k m 0).map fun p => (p.1, encV p.2)) w
  check : ∀ (w : World) (e : Bool) (k : α), (Instr.checkKey e 10000 kt (encK k)).run P w = .ok () w
  bits : ∀ k, Instr.sameBits 10000 (encK k) (encK k) = true
variable {encK encV}
omit [LawfulBEq α] in
theorem findNow_G {kd : TypeDesc} (hs : ∀ a b, Instr.sameNow kd (encK a) (encK b) = some (a == b)) (k : α) : ∀ (es : List MapEntry) (m : List (α × β)) (i : Nat), es.map (fun e => (e.key, e.val)) = m.map (pairG encK encV) →
    Instr.findNow kd (encK k) es i = some ((fndG k m i).map fun p => (p.1, encV p.2))
  | [], [], i, _ => rfl
  | [], _ :: _, _, h => by cases h
  | _ :: _, [], _, h => by cases h
  | e :: es, p :: m, i, h => by
    simp only [List.map_cons, List.cons.injEq, pairG, Prod.mk.injEq] at h
    obtain ⟨⟨h1, h2⟩, h3⟩ := h
    unfold Instr.findNow
    have hs : Instr.sameNow kd (encK k) e.key = some (k == p.1) := by rw [h1, hs]
    rw [hs]
    unfold fndG
    cases hk : (k == p.1)
    · simp only [Bool.false_eq_true, ↓reduceIte]
      exact findNow_G ‹_› k es m (i + 1) h3
    · simp [h2]
theorem fndG_spec (k : α) : ∀ (m : List (α × β)) (i j : Nat) (v : β), fndG k m i = some (j, v) → i ≤ j ∧ ∃ a, m[j - i]? = some (k, a) ∧ a = v
  | [], _, _, _, h => by cases h
  | p :: r, i, j, v, h => by
    unfold fndG at h
    split at h
    · rename_i hk
      cases h
      refine ⟨Nat.le_refl _, p.2, ?_, rfl⟩
      rw [Nat.sub_self, List.getElem?_cons_zero, eq_of_beq hk]
    · obtain ⟨h1, a, h2, h3⟩ := fndG_spec k r (i + 1) j v h
      refine ⟨by omega, a, ?_, h3⟩
      rw [show j - i = (j - (i + 1)) + 1 by omega, List.getElem?_cons_succ]; exact h2
theorem updG_some (k : α) (v : β) : ∀ (es : List MapEntry) (m : List (α × β)) (i j : Nat) (a : β), es.map (fun e => (e.key, e.val)) = m.map (pairG encK encV) → fndG k m i = some (j, a) →
    (es.modify (j - i) fun e => { e with key := encK k, val := encV v }).map (fun e => (e.key, e.val)) = (updG k v m).map (pairG encK encV)
  | [], [], _, _, _, _, h => by cases h
  | [], _ :: _, _, _, _, h, _ => by cases h
  | _ :: _, [], _, _, _, h, _ => by cases h
  | e :: es, p :: m, i, j, a, h, hf => by
    simp only [List.map_cons, List.cons.injEq, pairG, Prod.mk.injEq] at h
    obtain ⟨⟨h1, h2⟩, h3⟩ := h
    unfold fndG at hf
    unfold updG
    split at hf
    · rename_i hk
      cases hf
      rw [if_pos hk, Nat.sub_self]
      simp only [List.modify_zero_cons, List.map_cons, pairG, eq_of_beq hk]
      rw [h3]
    · rename_i hk
      have hle := (fndG_spec k m (i + 1) j a hf).1
      rw [if_neg hk, show j - i = (j - (i + 1)) + 1 by omega]
      simp only [List.modify_succ_cons, List.map_cons, pairG]
      rw [updG_some k v es m (i + 1) j a h3 hf, h1, h2]
omit [LawfulBEq α] in
theorem updG_none (k : α) (v : β) : ∀ (m : List (α × β)) (i : Nat), fndG k m i = none → updG k v m = m ++ [(k, v)]
  | [], _, _ => rfl
  | p :: r, i, h => by
    unfold fndG at h
    split at h
    · cases h
    · rename_i hk
      unfold updG
      rw [if_neg hk, updG_none k v r (i + 1) h]; rfl
omit [LawfulBEq α] in
theorem fndG_find (k : α) : ∀ (m : List (α × β)) (i : Nat), (fndG k m i).map Prod.snd = (m.find? fun p => k == p.1).map Prod.snd
  | [], _ => rfl
  | p :: r, i => by
    unfold fndG
    rw [List.find?_cons]
    cases h : (k == p.1)
    · simp only [Bool.false_eq_true, ↓reduceIte]; exact fndG_find k r (i + 1)
    · rfl
theorem fndG_key {k : α} {m : List (α × β)} {es : List MapEntry} {j : Nat} {a : β} (h : es.map (fun e => (e.key, e.val)) = m.map (pairG encK encV)) (hf : fndG k m 0 = some (j, a)) : ∃ e, es[j]? = some e ∧ e.key = encK k := by
  obtain ⟨-, a', h1, rfl⟩ := fndG_spec k m 0 j a hf
  rw [Nat.sub_zero] at h1
  have := congrArg (·[j]?) h
  simp only [List.getElem?_map, h1, Option.map_some] at this
  cases he : es[j]? with
  | none => rw [he] at this; cases this
  | some e =>
    rw [he] at this
    simp only [Option.map_some, Option.some.injEq, pairG, Prod.mk.injEq] at this
    exact ⟨e, rfl, this.1⟩
/-- Whole numbers as keys. -/
theorem KeyOk.int {P : Program} {kt : TypeId} {k0 : IntKind} (hu : P.underlying kt = some (.int k0)) : KeyOk P kt vi where
  find encV w k es m h := by
    simp only [Instr.findKey, Sem.run_bind, run_underlying hu w, Result.andThen_ok]
    rw [findNow_G (encK := vi) (fun a b => by simp [Instr.sameNow, vi]) k es m 0 h]
    rfl
  check w e k := by
    unfold Instr.checkKey
    simp only [Sem.run_bind, run_underlying hu w, Result.andThen_ok]
    rfl
  bits k := by simp [vi, Instr.sameBits]
variable {P : Program} {w0 : World} {f : Fr} {L : Heap} {N : Fr → Heap → Prop} {ops : Array Oper} {rest : List Oper} {md : Md}
  {d : Option Tmp} {ty : TypeId} {ps : String} {af : Array Edge} {g : Option (Nat × Bool)}
omit [BEq α] [LawfulBEq α] in
/-- A new map. -/
theorem Ow.makeMapG {t : TypeId} {md' : Md} (he : md.turn = some md') (hs : skipped ops f ⟨d, .makeMap t none, ty, ps, af, g⟩ = false)
    (hn : ∀ b o, Above L b → w0.heap.size ≤ b → MapG encK encV o [] → Ow P w0 ops md' rest (putF f d (vm b)) (L ++ [(b, o)]) N) :
    Ow P w0 ops md (⟨d, .makeMap t none, ty, ps, af, g⟩ :: rest) f L N := by
  refine Ow.step he rfl hs fun w hw => .inl ⟨vm w.heap.size, w.alloc (.map #[] 0), _, ?_, hw.alloc _, hn _ _ (above_of fun b hb => hw.lt hb) hw.size ⟨#[], 0, rfl, rfl, List.pairwise_singleton _ _⟩⟩
  simp only [execOp, Instr.makeMap, Sem.run_bind, Option.map_none]
  rfl
/-- A map's key is given a value. -/
theorem Ow.mapUpdateG {t kt vt : TypeId} {x y z : Operand} {b : Nat} {o : Obj} {m : List (α × β)} {k : α} {v : β} {md' : Md} (he : md.turn = some md') (hs : skipped ops f ⟨d, .mapUpdate t x y z, ty, ps, af, g⟩ = false) (hu : P.underlying t = some (.map kt vt)) (hk : KeyOk P kt encK)
    (hx : ev f x = vm b) (hy : ev f y = encK k) (hz : ev f z = encV v) (hl : look L b = some o) (hm : MapG encK encV o m)
    (hn : ∀ o', MapG encK encV o' (updG k v m) → Ow P w0 ops md' rest (putF f d undef) (setB L b o') N) :
    Ow P w0 ops md (⟨d, .mapUpdate t x y z, ty, ps, af, g⟩ :: rest) f L N := by
  obtain ⟨es, c, rfl, hes, hbo⟩ := hm
  refine Ow.step he rfl hs fun w hw => ?_
  have hb := hw.has _ _ (look_mem hl)
  have hfk := hk.find encV w k es.toList m hes
  cases hf : fndG k m 0 with
  | none =>
    rw [hf] at hfk
    refine .inr (.inl ⟨{ w with heap := w.heap.setIfInBounds b (.map (es.push { key := encK k, val := encV v, born := c }) (c + 1)) }, _, ?_, hw.set (key_of_look hl) rfl rfl rfl rfl, hn _ ⟨_, _, rfl, ?_, by rw [Array.toList_push]; exact born_push hbo rfl⟩⟩)
    · have : (Instr.mapUpdate t (vm b) (encK k) (encV v)).run P w = .ok () { w with heap := w.heap.setIfInBounds b (.map (es.push { key := encK k, val := encV v, born := c }) (c + 1)) } := by
        simp only [Instr.mapUpdate, vm, Sem.run_bind, run_underlying hu w, Result.andThen_ok, run_getMap hb, hk.check, hfk, Option.map_none, run_setMap hb]
      simp only [execOp, Sem.run_bind, hx, hy, hz]
      rw [this]; rfl
    · rw [updG_none k v m 0 hf, Array.toList_push, List.map_append, hes, List.map_append]; rfl
  | some p =>
    obtain ⟨j, a⟩ := p
    rw [hf] at hfk
    obtain ⟨e, hej, hek⟩ := fndG_key hes hf
    have hej' : es[j]? = some e := by simpa using hej
    have hkt : (Instr.keyThatStays (((es[j]?).map (·.key)).getD (encK k)) (encK k)).run P w = .ok (encK k) w := by
      rw [hej', Option.map_some, Option.getD_some, hek]
      unfold Instr.keyThatStays
      rw [if_pos (hk.bits k)]; rfl
    refine .inr (.inl ⟨{ w with heap := w.heap.setIfInBounds b (.map (es.modify j fun e => { e with key := encK k, val := encV v }) c) }, _, ?_, hw.set (key_of_look hl) rfl rfl rfl rfl, hn _ ⟨_, _, rfl, ?_, by rw [Array.toList_modify, born_modify (g := fun e => { e with key := encK k, val := encV v }) fun _ => rfl]; exact hbo⟩⟩)
    · have : (Instr.mapUpdate t (vm b) (encK k) (encV v)).run P w = .ok () { w with heap := w.heap.setIfInBounds b (.map (es.modify j fun e => { e with key := encK k, val := encV v }) c) } := by
        simp only [Instr.mapUpdate, vm, Sem.run_bind, run_underlying hu w, Result.andThen_ok, run_getMap hb, hk.check, hfk, Option.map_some, hkt, run_setMap hb]
      simp only [execOp, Sem.run_bind, hx, hy, hz]
      rw [this]; rfl
    · rw [Array.toList_modify]
      have := updG_some k v es.toList m 0 j a hes hf
      rw [Nat.sub_zero] at this
      exact this
omit [LawfulBEq α] in
/-- A key's value in a map. -/
theorem Ow.mapGetG {t kt vt : TypeId} {x y : Operand} {b : Nat} {o : Obj} {m : List (α × β)} {k : α} {z : β} {md' : Md} (he : md.turn = some md') (hs : skipped ops f ⟨d, .lookup t x y false, ty, ps, af, g⟩ = false) (hu : P.underlying t = some (.map kt vt)) (hk : KeyOk P kt encK)
    (hz : zeroV P vt = some (encV z)) (hx : ev f x = vm b) (hy : ev f y = encK k) (hl : readB w0 L b = some o) (hm : MapG encK encV o m)
    (hn : Ow P w0 ops md' rest (putF f d (encV (getG k z m))) L N) :
    Ow P w0 ops md (⟨d, .lookup t x y false, ty, ps, af, g⟩ :: rest) f L N := by
  obtain ⟨es, c, rfl, hes, -⟩ := hm
  refine Ow.step he rfl hs fun w hw => ?_
  have hb := hw.read hl
  have hfk := hk.find encV w k es.toList m hes
  refine .inl ⟨encV (getG k z m), w, L, ?_, hw, hn⟩
  have hff := fndG_find k m 0
  have : (Instr.lookup t (vm b) (encK k) false).run P w = .ok (encV (getG k z m)) w := by
    cases hf : fndG k m 0 with
    | none =>
      rw [hf] at hfk hff
      have hg : getG k z m = z := by
        unfold getG
        cases h : m.find? fun p => k == p.1 with
        | none => rfl
        | some q => rw [h] at hff; cases hff
      simp only [Instr.lookup, vm, Sem.run_bind, run_underlying hu w, Result.andThen_ok, run_getMap hb, Sem.run_pure, hk.check, hfk, Option.map_none, run_zeroV hz w, hg, Bool.false_eq_true, ↓reduceIte]
    | some p =>
      obtain ⟨j, a⟩ := p
      rw [hf] at hfk hff
      have hg : getG k z m = a := by
        unfold getG
        cases h : m.find? fun p => k == p.1 with
        | none => rw [h] at hff; cases hff
        | some q => rw [h] at hff; simp only [Option.map_some, Option.some.injEq] at hff; exact hff.symm
      simp only [Instr.lookup, vm, Sem.run_bind, run_underlying hu w, Result.andThen_ok, run_getMap hb, Sem.run_pure, hk.check, hfk, Option.map_some, hg, Bool.false_eq_true, ↓reduceIte]
  simp only [execOp, Sem.run_bind, hx, hy]
  rw [this]; rfl
end
section
variable {P : Program} {w0 : World} {f : Fr} {L : Heap} {N : Fr → Heap → Prop} {ops : Array Oper} {rest : List Oper} {md : Md} {d : Option Tmp} {ty : TypeId} {ps : String} {af : Array Edge} {g : Option (Nat × Bool)}
/-- A closure of one argument, to which a chunk is handed. -/
theorem Ow.callFnXC {x y : Operand} {b : Value} {cap ars : Array Value} (ha : #[b] ++ cap = ars) {ts : Array TypeId} {k : FuncId} {X Y : Heap} {S : Value → Heap → Prop} {md' : Md} (hL : L = X ++ Y) (he : md.turn = some md')
    (hs : skipped ops f ⟨d, .call ⟨.value x, #[y], ts⟩, ty, ps, af, g⟩ = false)
    (hx : ev f x = .func (.func k) #[] cap) (hy : ev f y = b)
    (hk : ∀ a w, (callFunc k a).run P w = .ok (.enter k a) w)
    (hc : ∀ w, Hp w0 L w → (∀ p, p ∈ X → w.heap[p.1]? = some p.2) → (keys X).Nodup → Rets P k ars w (XS w X S))
    (hn : ∀ v D, Came w0 L X D → S v D → Ow P w0 ops md' rest (putF f d v) (D ++ Y) N) :
    Ow P w0 ops md (⟨d, .call ⟨.value x, #[y], ts⟩, ty, ps, af, g⟩ :: rest) f L N := by
  subst hL
  have hnd : ∀ w, Hp w0 (X ++ Y) w → (keys X).Nodup ∧ ∀ c, c ∈ keys Y → c ∉ keys X := by
    intro w hw
    have := hw.nodup
    rw [keys_app, List.nodup_append] at this
    exact ⟨this.1, fun c hc hx => this.2.2 c hx c hc rfl⟩
  refine Ow.call (S := fun B v D => ((∀ c, c ∈ keys D → c ∈ keys X ∨ B ≤ c) ∧ (∀ c, c ∈ keys X → c ∈ keys D) ∧ S v D) ∧ ∃ w, Hp w0 (X ++ Y) w ∧ w.heap.size = B) he hs hx hk (fun w hw => ?_) ?_
  · show Rets P k (#[] ++ #[y].map (ev f) ++ cap) w _
    rw [show (#[] ++ #[y].map (ev f) ++ cap : Array Value) = ars by rw [← ha]; simp [hy]]
    refine Calls.mono (hc w hw (fun p hp => hw.has _ _ (List.mem_append_left _ hp)) (hnd w hw).1) ?_
    rintro e w' ⟨v, D, he, hp, hS⟩
    exact ⟨v, D, he, hp, ⟨hS.1.new, hS.1.all, hS.2⟩, w, hw, rfl⟩
  · rintro B v D hab hB ⟨⟨h1, h2, h3⟩, w1, hw1, hwB⟩
    refine ⟨D ++ Y, ?_, hn v D ⟨fun c hc => (h1 c hc).imp id fun h => ⟨above_of fun b hb => by have := hw1.lt hb; omega, by have := hw1.size; omega⟩, h2⟩ h3⟩
    intro w w' hwb h k
    have ht := h.trans k
    have hY : ∀ c, c ∈ keys Y → c ∉ keys D := by
      intro c hc hd
      rcases h1 c hd with hx | hx
      · exact (hnd w h).2 c hc hx
      · have := h.lt (b := c) (by rw [keys_app]; exact List.mem_append_right _ hc)
        omega
    have e1 : X.filter (fun p => !(keys D).contains p.1) = [] := by
      rw [List.filter_eq_nil_iff]
      intro p hp
      have := h2 p.1 (List.mem_map.2 ⟨p, hp, rfl⟩)
      simpa using this
    have e2 : Y.filter (fun p => !(keys D).contains p.1) = Y := filter_keys_all hY
    rw [List.filter_append, e1, e2, List.nil_append] at ht
    refine ht.same (fun p => by simp [or_comm]) ?_
    have := ht.nodup
    rw [keys_app] at this ⊢
    exact (List.perm_append_comm.nodup_iff).1 this
end
end Go.Sx
section
open Go Go.Proofs Go.Sx Go.StP Go.Flo
namespace Go.Proofs
set_option maxRecDepth 10000
set_option maxHeartbeats 400000
set_option linter.unusedSimpArgs false
/-! ### All parts' texts -/
def tabGo : Nat → List (List UInt8) → List (Int × List UInt8)
  | _, [] => []
  | i, t :: ts => ((i : Int), t) :: tabGo (i + 1) ts
def tabT (ts : List (List UInt8)) : List (Int × List UInt8) := tabGo 0 ts
theorem tabGo_upd (s : List UInt8) : ∀ (ts : List (List UInt8)) (i : Nat), updG (((i + ts.length : Nat)) : Int) s (tabGo i ts) = tabGo i (ts ++ [s])
  | [], i => rfl
  | t :: ts, i => by
    show updG _ s (((i : Int), t) :: tabGo (i + 1) ts) = ((i : Int), t) :: tabGo (i + 1) (ts ++ [s])
    unfold updG
    rw [if_neg (by rw [beq_iff_eq]; simp only [List.length_cons]; omega), ← tabGo_upd s ts (i + 1), List.length_cons, show i + 1 + ts.length = i + (ts.length + 1) by omega]
theorem tabT_upd (s : List UInt8) (ts : List (List UInt8)) {k : Nat} (hk : ts.length = k) : updG (k : Int) s (tabT ts) = tabT (ts ++ [s]) := by
  have := tabGo_upd s ts 0
  rw [Nat.zero_add, hk] at this
  exact this
theorem tabGo_get (z : List UInt8) : ∀ (ts : List (List UInt8)) (i b : Nat), b < ts.length → getG ((i + b : Nat) : Int) z (tabGo i ts) = ts.getD b []
  | [], _, _, h => by simp at h
  | t :: ts, i, 0, _ => by
    unfold tabGo getG
    rw [List.find?_cons]
    simp
  | t :: ts, i, b + 1, h => by
    have := tabGo_get z ts (i + 1) b (by simpa using h)
    rw [show i + 1 + b = i + (b + 1) by omega] at this
    rw [List.getD_cons_succ, ← this]
    have e : (((i + (b + 1) : Nat) : Int) == (i : Int)) = false := by rw [beq_eq_false_iff_ne]; omega
    show getG _ z (((i : Int), t) :: tabGo (i + 1) ts) = _
    unfold getG
    rw [List.find?_cons]
    simp only [e]
theorem tabT_get (z : List UInt8) {ts : List (List UInt8)} {b : Nat} (h : b < ts.length) : getG (b : Int) z (tabT ts) = ts.getD b [] := by
  have := tabGo_get z ts 0 b h
  rwa [Nat.zero_add] at this
theorem applyV_err {b d : List UInt8} (h : (applyV b d).2 ≠ 0) : (applyV b d).1 = [] := by
  unfold applyV at h ⊢
  split
  · rfl
  · rename_i p hp
    rw [hp] at h
    simp only at h ⊢
    split
    · rfl
    · rename_i hb; rw [if_neg hb] at h; exact absurd rfl h
theorem textV_err {p : PartL} {b : List UInt8} (h : (textV p b).2 ≠ 0) : (textV p b).1 = [] := by
  unfold textV at h ⊢
  split
  · rename_i hd; rw [if_pos hd] at h; exact applyV_err h
  · rename_i hd
    rw [if_neg hd] at h
    split
    · rfl
    · rename_i hl; rw [if_neg hl] at h; exact absurd rfl h
theorem ext_new {w : World} {X D : Heap} (h : New w.heap.size D) : Ext w X (X ++ D) := ⟨fun c hc => by
  rw [keys_app] at hc
  exact (List.mem_append.1 hc).imp id (h.le c), fun c hc => by rw [keys_app]; exact List.mem_append_left _ hc⟩
theorem part_ne {l : List PartL} {k : Nat} {p : List Nat} (hk : k < l.length) (hp : pathV l (k : Nat) = .ok p) (h : 1 < p.length) : p.getD 1 0 < k := by
  rcases pathV_cons hk hp with ⟨rfl, -⟩ | ⟨b, q, rfl, -, -, hlt, hq⟩
  · simp at h
  · rcases pathV_cons (by omega) hq with ⟨rfl, -⟩ | ⟨b2, q2, rfl, -⟩ <;> exact hlt
abbrev MapT (o : Obj) (ts : List (List UInt8)) : Prop := MapG vi vs o (tabT ts)
def clX (b1 bk bm : Nat) (v0 : Value) (o : Obj) : Heap := [(b1, .cells #[v0] 22 (0, 0)), (bk, .cells #[vm bm] 166 (0, 0)), (bm, o)]
def ClS (l : List PartL) (k : Nat) (ts : List (List UInt8)) (b1 bk bm : Nat) (v0 : Value) (v : Value) (D : Heap) : Prop :=
  v = partO (partV l (k : Nat)) ∧ ∃ o D', D = clX b1 bk bm v0 o ++ D' ∧ ∀ s, partV l (k : Nat) = .ok s → MapT o (ts ++ [s])
theorem load_c1 (v : Value) (E : TypeId) (n : Nat) : loadV (some (false, n)) (some (.cells #[v] E (0, 0))) 0 = some v := (rfl)
set_option linter.defProp false
def uKI_1 := And.intro (And.intro (And.intro (@rdIn_v8) (@rdIn_vi)) (And.intro (@load_c1) (@load_part0))) (And.intro (And.intro (@load_part1) (@load_part2)) (And.intro (@cells_part) (And.intro (@Sx.tup2_0) (@Sx.tup2_1))))
theorem find_spec (b1 bk bm : Nat) (o : Obj) (v0 : Value) (l : List PartL) (k : Nat) (ts : List (List UInt8)) (w : World) (h1k : b1 < bk) (hne1 : b1 ≠ bm) (hne2 : bk ≠ bm)
    (hv : PartSl w v0 l) (hb : BndL l) (hl : l.length < 1000000) (hk : k < l.length) (hts : allGo l k = .ok ts) (ho : MapT o ts) (hv1 : ∀ b, slB v0 = some b → b ∉ keys (clX b1 bk bm v0 o))
    (hX : ∀ p, p ∈ clX b1 bk bm v0 o → w.heap[p.1]? = some p.2) (hnd : (keys (clX b1 bk bm v0 o)).Nodup) :
    Rets Tryd.prog 96 #[vi k, vp b1 0, vp bk 0] w (XS w (clX b1 bk bm v0 o) (ClS l k ts b1 bk bm v0)) := by
  obtain ⟨bb, off, cc, arr, E, fz, hr, -, hvv⟩ := id hv
  have hbX : bb ∉ keys (clX b1 bk bm v0 o) := by
    rcases hvv with ⟨e1, e2, e3⟩ | ⟨e1, -, -⟩
    · exfalso; subst_vars; simp at hk
    · exact hv1 bb (by rw [e1]; rfl)
  have htl := allGo_len k ts hts
  have hva : ∀ w', Hp w (clX b1 bk bm v0 o) w' → PartSl w' v0 l := fun w' hw' => hv.old hw' fun b hb _ => hv1 b hb
  unfold clX at hX hnd hva hbX ⊢
  refine Rets.enterX Tryd.func96 rfl (rs := [.tmp 4, .tmp 5]) Tryd.results96 Tryd.ntmps96 hX hnd ?_
  refine kf ?_
  first | with_reducible refine ks [] uKI_1 ?_ | refine kp uKI_1 ?_
  refine Ow.callC rfl rfl Tryd.call73 (fun w' hw' => path_spec v0 l (k : Int) w' (hva w' hw') hl) (fun B1 v1 D1 hA1 hB1 hN1 hS1 => ?_)
  have hN1' := hN1.mono hB1
  unfold PathS at hS1
  cases hp : pathV l (k : Nat) with
  | error e =>
    rw [hp] at hS1
    have hS1' : v1 = .tuple #[.slice none 0 0, vi e] := hS1
    subst hS1'
    have e0 : (e != 0) = true := by rw [bne_iff_ne]; exact pathV_err hp
    refine ko (And.intro uKI_1 @e0) ?_
    first | with_reducible refine ks [] uKI_1 ?_ | refine kp uKI_1 ?_
    refine ⟨_, (ke uKI_1), ?_⟩
    refine ⟨ext_new (X := [_, _, _]) hN1', ?_⟩
    refine ⟨by unfold partV; rw [hp]; rfl, o, D1, rfl, fun s hs => ?_⟩
    unfold partV at hs
    rw [hp] at hs
    cases hs
  | ok p =>
    rw [hp] at hS1
    obtain ⟨x, rfl, hp5, hg⟩ := hS1
    have hpk := partV_known hk hts hp
    have hlen : ∀ m, lenV (.sl m) x = some (vi p.length) := fun m => by
      obtain ⟨X, -, h⟩ := hg; exact h.len m
    have hb0 : 0 < l.length := by omega
    have hbl := hr.lt hb0
    have i2 := hr.idx true k hk
    have ld := hr.load partC_len (by omega) hk
    have hpx := hb k hk
    have rd : readB w ((b1, Obj.cells #[v0] 22 (0, 0)) :: (bk, Obj.cells #[vm bm] 166 (0, 0)) :: (bm, o) :: D1) bb = some (.cells arr E fz) := by
      have hno : bb ∉ keys ([(b1, Obj.cells #[v0] 22 (0, 0)), (bk, Obj.cells #[vm bm] 166 (0, 0)), (bm, o)] ++ D1) := by rw [keys_app, List.mem_append, not_or]; exact ⟨hbX, hN1'.not hbl⟩
      exact (read_none hno).trans (hr.has hb0)
    generalize l.getD k part0 = pt at *
    have hlk : Sx.look ((b1, Obj.cells #[v0] 22 (0, 0)) :: (bk, Obj.cells #[vm bm] 166 (0, 0)) :: (bm, o) :: D1) bm = some o := by rw [look_other _ _ _ _ hne1, look_other _ _ _ _ hne2]; exact look_same _ _ _
    have hset : ∀ o1, setB ((b1, Obj.cells #[v0] 22 (0, 0)) :: (bk, Obj.cells #[vm bm] 166 (0, 0)) :: (bm, o) :: D1) bm o1 = ((b1, Obj.cells #[v0] 22 (0, 0)) :: (bk, Obj.cells #[vm bm] 166 (0, 0)) :: (bm, o1) :: D1) := fun o1 => by
      rw [setB_other _ _ _ _ _ hne1, setB_other _ _ _ _ _ hne2, setB_same]
    have ext_new' : ∀ {o1 : Obj}, New w.heap.size D1 → Ext w [(b1, Obj.cells #[v0] 22 (0, 0)), (bk, Obj.cells #[vm bm] 166 (0, 0)), (bm, o)] ((b1, Obj.cells #[v0] 22 (0, 0)) :: (bk, Obj.cells #[vm bm] 166 (0, 0)) :: (bm, o1) :: D1) := fun h => (ext_new (X := [_, _, _]) h).keys rfl
    by_cases h1 : 1 < p.length
    · have d1 : decide ((1 : Int) < (p.length : Int)) = true := decide_eq_true (by omega)
      rw [if_pos h1] at hpk
      refine ko (And.intro uKI_1 ( And.intro @hlen (@d1))) ?_
      first | with_reducible refine ks [] uKI_1 ?_ | refine kp uKI_1 ?_
      refine Cw.world fun wz hwz => ?_
      rcases gri_nat hg (fun q hq => by simp [hq]) hwz with h0 | ⟨bp, cp, rp, rfl, hkp, rdp⟩
      · omega
      have lp := load_nat (E := 3) (rest := rp) 1 1 h1
      have hz : zeroV Tryd.prog 9 = some (vs []) := Tryd.zr9
      have hbase : p.getD 1 0 < ts.length := by have := part_ne hk hp h1; omega
      have hge := tabT_get [] hbase
      refine Cw.regionS [bk, bp] [1, 2, 0, 3, 4, 5] [] (by kernel_rfl) (by kernel_rfl) (by kernel_rfl) ?_
      simp only [nl_cons, ↓pickL_nil, ↓pickL_cons, ↓nthO_0, ↓nthO_s, consO_some]
      refine kq (And.intro uKI_1 ( And.intro @rdp (@lp))) ?_
      refine Ow.soft rfl rfl rfl ?_
      refine Ow.mapGetG (k := ((p.getD 1 0 : Nat) : Int)) (z := []) rfl rfl Tryd.underlying166 (KeyOk.int Tryd.underlying3) hz rfl rfl (read_look hlk) ho ?_
      rw [hge]
      with_reducible refine Ow.nil ?_
      refine ⟨by intro b hb; simp only [List.mem_cons, List.not_mem_nil, or_false] at hb; (try subst hb); rfl, ?_⟩
      refine kq (And.intro uKI_1 ( And.intro @i2 ( And.intro @rd (@ld)))) ?_
      refine Ow.callFV rfl Tryd.call74 (fun w' hw' => text_spec pt (ts.getD (p.getD 1 0) []) w' hpx) ?_
      refine ko uKI_1 ?_
      first | with_reducible refine ks [] uKI_1 ?_ | refine kp uKI_1 ?_
      refine Ow.mapUpdateG (k := (k : Int)) (v := (textV pt (ts.getD (p.getD 1 0) [])).1) rfl rfl Tryd.underlying166 (KeyOk.int Tryd.underlying3) rfl rfl rfl hlk ho (fun o1 ho1 => ?_)
      rw [tabT_upd _ _ htl] at ho1
      rw [hset o1]
      refine ko uKI_1 ?_
      first | with_reducible refine ks [] uKI_1 ?_ | refine kp uKI_1 ?_
      refine ⟨_, (ke uKI_1), ?_⟩
      refine ⟨ext_new' hN1', ?_⟩
      refine ⟨?_, o1, D1, rfl, fun s hs => ?_⟩
      · rw [hpk]
        by_cases he : (textV pt (ts.getD (p.getD 1 0) [])).2 = 0
        · rw [if_pos he, he]; rfl
        · rw [if_neg he, textV_err he]; rfl
      · rw [hpk] at hs
        split at hs
        · cases hs; exact ho1
        · cases hs
    · have d1 : decide ((1 : Int) < (p.length : Int)) = false := decide_eq_false (by omega)
      rw [if_neg h1] at hpk
      refine ko (And.intro uKI_1 ( And.intro @hlen (@d1))) ?_
      first | with_reducible refine ks [] (And.intro uKI_1 ( And.intro @i2 ( And.intro @rd (@ld)))) ?_ | refine kp (And.intro uKI_1 ( And.intro @i2 ( And.intro @rd (@ld)))) ?_
      refine Ow.callFV rfl Tryd.call74 (fun w' hw' => text_spec pt [] w' hpx) ?_
      refine ko uKI_1 ?_
      first | with_reducible refine ks [] uKI_1 ?_ | refine kp uKI_1 ?_
      refine Ow.mapUpdateG (k := (k : Int)) (v := (textV pt []).1) rfl rfl Tryd.underlying166 (KeyOk.int Tryd.underlying3) rfl rfl rfl hlk ho (fun o1 ho1 => ?_)
      rw [tabT_upd _ _ htl] at ho1
      rw [hset o1]
      refine ko uKI_1 ?_
      first | with_reducible refine ks [] uKI_1 ?_ | refine kp uKI_1 ?_
      refine ⟨_, (ke uKI_1), ?_⟩
      refine ⟨ext_new' hN1', ?_⟩
      refine ⟨?_, o1, D1, rfl, fun s hs => ?_⟩
      · rw [hpk]
        by_cases he : (textV pt []).2 = 0
        · rw [if_pos he, he]; rfl
        · rw [if_neg he, textV_err he]; rfl
      · rw [hpk] at hs
        split at hs
        · cases hs; exact ho1
        · cases hs
end Go.Proofs
end
section
open Go Go.Proofs Go.Sx Go.StP Go.Flo
namespace Go.Proofs
set_option maxRecDepth 10000
set_option maxHeartbeats 400000
set_option linter.unusedSimpArgs false
/-! ### All parts' texts: the loop -/
theorem foldT_err {l : List PartL} {e : Int} : ∀ (p : List Nat), foldT l p = .error e → e ≠ 0
  | [], h => by cases h
  | a :: p, h => by
    unfold foldT at h
    cases hp : foldT l p with
    | error x => rw [hp] at h; cases h; exact foldT_err p hp
    | ok s =>
      rw [hp] at h
      change (if (textV (l.getD a part0) s).2 = 0 then _ else _) = _ at h
      split at h
      · cases h
      · rename_i hne; cases h; exact hne
theorem partV_err {l : List PartL} {a e : Int} (h : partV l a = .error e) : e ≠ 0 := by
  unfold partV at h
  cases hp : pathV l a with
  | error x => rw [hp] at h; cases h; exact pathV_err hp
  | ok p => rw [hp] at h; exact foldT_err p h
theorem allGo_ok {l : List PartL} {k : Nat} {ts : List (List UInt8)} {s : List UInt8} (h : allGo l k = .ok ts) (hs : partV l (k : Nat) = .ok s) : allGo l (k + 1) = .ok (ts ++ [s]) := by
  unfold allGo; rw [h]; show (partV l (k : Nat)).map _ = _; rw [hs]; rfl
theorem allGo_no {l : List PartL} {k : Nat} {ts : List (List UInt8)} {e : Int} (h : allGo l k = .ok ts) (hs : partV l (k : Nat) = .error e) : ∀ j, k < j → allGo l j = .error e
  | 0, hj => by omega
  | j + 1, hj => by
    unfold allGo
    by_cases hjk : j = k
    · subst hjk; rw [h]; show (partV l (j : Nat)).map _ = _; rw [hs]; rfl
    · rw [allGo_no h hs j (by omega)]; rfl
def strC (s : List UInt8) : List Value := [vs s]
theorem strC_len (s : List UInt8) : (strC s).length = 1 := rfl
structure AlG where
  ts : List (List UInt8)
  v : Value
  o : Obj
  D : Heap
/-- What All hands back. -/
def AllS (l : List PartL) (v : Value) (D : Heap) : Prop := match allV l with
  | .ok ts => ∃ x, v = .tuple #[x, vi 0] ∧ GrI D 9 1 x ts.length (ts.map strC).flatten
  | .error e => v = .tuple #[.slice none 0 0, vi e]
theorem zrMap : zeroV Tryd.prog 166 = some (.map none) := id (by kernel_rfl)
theorem store_mapc (b : Nat) (E : TypeId) (x : Value) : storeV (some (false, 1)) (some (.cells #[x] E (0, 0))) 0 (vm b) = some (.cells #[vm b] E (0, 0)) := (rfl)
set_option linter.defProp false
def uKJ_1 := And.intro (And.intro (@rdIn_v8) (And.intro (@rdIn_vi) (@load_c1))) (And.intro (@store_mapc) (And.intro (@Sx.tup2_0) (@Sx.tup2_1)))
theorem AllC_spec (v0 : Value) (l : List PartL) (w : World) (hv : PartSl w v0 l) (hb : BndL l) (hl : l.length < 1000000) :
    Rets Tryd.prog 64 #[v0] w (XS w [] (AllS l)) := by
  have ln := hv.len
  have hcl : v0.cells = #[v0] := by
    obtain ⟨bb, off, cc, arr, E, fz, hr, -, hvv⟩ := id hv
    rcases hvv with ⟨e1, -, -⟩ | ⟨e1, -, -⟩ <;> rw [e1] <;> rfl
  have hvb : ∀ b, slB v0 = some b → b < w.heap.size := by
    intro b hb
    obtain ⟨bb, off, cc, arr, E, fz, hr, -, hvv⟩ := id hv
    rcases hvv with ⟨e1, -, -⟩ | ⟨e1, hh, -⟩
    · rw [e1] at hb; cases hb
    · rw [e1] at hb; cases hb; exact (Array.getElem?_eq_some_iff.1 hh).1
  refine Rets.enterX Tryd.func64 rfl (rs := [.tmp 2, .tmp 3]) Tryd.results64 Tryd.ntmps64 (fun p hp => by cases hp) (by simp [keys]) ?_
  refine kf ?_
  first | with_reducible refine ks [] uKJ_1 ?_ | refine kp uKJ_1 ?_
  refine Ow.box rfl rfl fun b1 hb1 hw1 => ?_
  simp only [ev_tmp, getF_0, getF_s, cells_agg, List.nil_append, List.cons_append]
  refine Ow.go rfl ?_
  simp (disch := (first | assumption | omega | (simp only [lenS, lenT, UInt64.reduceToNat]; try omega))) only [↓Sx.S0, Sx.S1, Tryd.fx, uKJ_1, Nat.reduceAdd, Nat.reducePow, Int.reducePow, Nat.reduceBEq, ↓reduceIte, UInt8.reduceToNat, UInt16.reduceToNat, UInt32.reduceToNat, UInt64.reduceToNat, Int.reduceToNat]
  rw [hcl]
  by_cases h2 : 200 < l.length
  · have d1 : decide ((200 : Int) < (l.length : Int)) = true := decide_eq_true (by omega)
    first | with_reducible refine ks [] (And.intro uKJ_1 ( And.intro @ln (@d1))) ?_ | refine kp (And.intro uKJ_1 ( And.intro @ln (@d1))) ?_
    refine ⟨_, (ke uKJ_1), ?_⟩
    refine ⟨Ext.of_new ⟨hw1, trivial⟩, ?_⟩
    unfold AllS allV; rw [if_pos h2]; rfl
  · have d1 : decide ((200 : Int) < (l.length : Int)) = false := decide_eq_false (by omega)
    first | with_reducible refine ks [] (And.intro uKJ_1 ( And.intro @ln (@d1))) ?_ | refine kp (And.intro uKJ_1 ( And.intro @ln (@d1))) ?_
    refine Ow.makeMapG (encK := vi) (encV := vs) rfl rfl fun bm o hbm hwm hm0 => ?_
    rw [List.cons_append, List.nil_append]
    refine ko uKJ_1 ?_
    first | with_reducible refine ks [] uKJ_1 ?_ | refine kp uKJ_1 ?_
    refine Ow.alloc rfl rfl zrMap fun bk hbk hwk => ?_
    simp only [cells_agg, List.nil_append, List.cons_append]
    rw [show Value.cells (.map none) = #[.map none] from rfl]
    have hbmk : bm < bk := above_to hbk (by simp [keys])
    have hb1m : b1 < bm := above_to hbm (by simp [keys])
    have hb1k : b1 < bk := by omega
    have hv1 : ∀ o b, slB v0 = some b → b ∉ keys (clX b1 bk bm v0 o) := by
      intro o b hbb
      have := hvb b hbb
      simp only [clX, keys, List.map_cons, List.map_nil, List.mem_cons, List.not_mem_nil, or_false, not_or]
      omega
    have hXn : ∀ o, New w.heap.size (clX b1 bk bm v0 o) := fun o => ⟨hw1, hwk, hwm, trivial⟩
    refine Ow.permL (M := [(b1, Obj.cells #[v0] 22 (0, 0)), (bk, .cells #[.map none] 166 (0, 0)), (bm, o)]) (by classical exact List.perm_iff_count.2 fun a => by simp only [List.count_append, List.count_cons, List.count_nil] <;> omega) ?_
    refine ko uKJ_1 ?_
    first | with_reducible refine ks [] (And.intro uKJ_1 @ln) ?_ | refine kp (And.intro uKJ_1 @ln) ?_
    simp only [List.map_toArray, List.map_cons, List.map_nil, ev_tmp, getF_s, getF_0]
    refine Cw.loopG (G := AlG) [18, 19, 7, 21, 22, 23, 20, 24, 25, 8, 9, 26, 27, 28, 2, 3, 29, 30, 31, 32, 6, 33, 17] (fun g => [(6, g.v), (17, vi g.ts.length)]) (fun g => (b1, Obj.cells #[v0] 22 (0, 0)) :: (bk, .cells #[vm bm] 166 (0, 0)) :: (bm, g.o) :: g.D) (fun g => g.ts.length ≤ l.length ∧ allGo l g.ts.length = .ok g.ts ∧ MapT g.o g.ts ∧ New w.heap.size g.D ∧ Gr g.D 9 1 g.v g.ts.length (g.ts.map strC).flatten) (fun g => l.length - g.ts.length) ⟨[], .slice none 0 0, o, []⟩ rfl rfl ?_ ?_
    · exact ⟨Nat.zero_le _, rfl, hm0, trivial, Gr.nl⟩
    intro g j hg
    refine kv ?_
    obtain ⟨ts, v, o, D⟩ := g
    simp only at hg ⊢
    obtain ⟨hgl, hgo, hM, hN, hG⟩ := hg
    by_cases hlt : ts.length < l.length
    · have d2 : decide ((ts.length : Int) < (l.length : Int)) = true := decide_eq_true (by omega)
      first | with_reducible refine ks [] (And.intro uKJ_1 @d2) ?_ | refine kp (And.intro uKJ_1 @d2) ?_
      refine Ow.callFnXC (b := vi ts.length) (ars := #[vi ts.length, vp b1 0, vp bk 0]) rfl (X := clX b1 bk bm v0 o) (Y := D) (S := ClS l ts.length ts b1 bk bm v0) rfl rfl rfl rfl rfl Tryd.call96 (fun w' hw' hX hn => find_spec b1 bk bm o v0 l ts.length ts w' hb1k (by omega) (by omega) (hv.oldN hw' ((hXn o).app hN)) hb hl hlt hgo hM (hv1 o) hX hn) (fun v2 D2 hC hS => ?_)
      obtain ⟨rfl, o2, D3, rfl, hok⟩ := hS
      have hN3 : New w.heap.size D3 := New.of_le fun c hc => by
        rcases hC.new c (by rw [keys_app]; exact List.mem_append_right _ hc) with h | h
        · exact (hXn o).le c h
        · exact h.2
      have hpm : (clX b1 bk bm v0 o2 ++ D3) ++ D = (b1, Obj.cells #[v0] 22 (0, 0)) :: (bk, .cells #[vm bm] 166 (0, 0)) :: (bm, o2) :: (D3 ++ D) := rfl
      rw [hpm]
      cases hp : partV l (ts.length : Nat) with
      | error e =>
        have hal : allV l = .error e := by unfold allV; rw [if_neg h2]; exact allGo_no hgo hp _ hlt
        have e0 : (e != 0) = true := by rw [bne_iff_ne]; exact partV_err hp
        unfold partO
        refine ko uKJ_1 ?_
        first | with_reducible refine ks [] (And.intro uKJ_1 @e0) ?_ | refine kp (And.intro uKJ_1 @e0) ?_
        refine ⟨_, (ke uKJ_1), ?_⟩
        refine ⟨Ext.of_new ⟨hw1, hwk, hwm, hN3.app hN⟩, ?_⟩
        unfold AllS; rw [hal]; rfl
      | ok s =>
        have e0 : ((0 : Int) != 0) = false := rfl
        unfold partO
        refine ko uKJ_1 ?_
        first | with_reducible refine ks [] (And.intro uKJ_1 @e0) ?_ | refine kp (And.intro uKJ_1 @e0) ?_
        refine Ow.buildSlice (e := 9) #[vs s] rfl rfl (by kernel_rfl) fun b9 hb9 hw9 => ?_
        have hM2 := hok s hp
        refine Ow.permL (M := D ++ ((b1, Obj.cells #[v0] 22 (0, 0)) :: (bk, .cells #[vm bm] 166 (0, 0)) :: (bm, o2) :: (D3 ++ [(b9, .cells #[vs s] 9 (0, 0))]))) (by classical exact List.perm_iff_count.2 fun a => by simp only [List.count_append, List.count_cons, List.count_nil] <;> omega) ?_
        refine ko uKJ_1 ?_
        refine Ow.appendXG (e := 9) (k := 1) (new := strC s) (X := D) v rfl rfl rfl rfl Tryd.underlying109 (id (by kernel_rfl) : aggT Tryd.prog 9 = some (false, 1)) (by kernel_rfl) (id (by kernel_rfl) : zeroV Tryd.prog 9 = some (vs [])) rfl Tryd.underlying109 (by intro k h; cases h) hG (fun w' hw' => AppX.one1 (hw'.has b9 (.cells #[vs s] 9 (0, 0)) (by simp)) (strC_len s) rfl) (by omega) (fun B4 v4 D4 hA4 hB4 hG4 hk14 hk24 hlk4 => ?_)
        have hN4 : New w.heap.size D4 := New.of_le fun c hc => by
          rcases hk24 c hc with h | h
          · exact hN.le c h
          · omega
        have hG5 : Gr (D4 ++ (D3 ++ [(b9, Obj.cells #[vs s] 9 (0, 0))])) 9 1 v4 (ts ++ [s]).length ((ts ++ [s]).map strC).flatten := by
          have := hG4.app (M := D3 ++ [(b9, Obj.cells #[vs s] 9 (0, 0))])
          simpa using this
        have hN5 : New w.heap.size (D4 ++ (D3 ++ [(b9, Obj.cells #[vs s] 9 (0, 0))])) := hN4.app (hN3.app ⟨hw9, trivial⟩)
        refine Ow.permL (M := (b1, Obj.cells #[v0] 22 (0, 0)) :: (bk, .cells #[vm bm] 166 (0, 0)) :: (bm, o2) :: (D4 ++ (D3 ++ [(b9, .cells #[vs s] 9 (0, 0))]))) (by classical exact List.perm_iff_count.2 fun a => by simp only [List.count_append, List.count_cons, List.count_nil] <;> omega) ?_
        generalize D4 ++ (D3 ++ [(b9, Obj.cells #[vs s] 9 (0, 0))]) = D6 at *
        refine ko uKJ_1 ?_
        first | with_reducible refine ks [] uKJ_1 ?_ | refine kp uKJ_1 ?_
        have hlt2 : (ts ++ [s]).length = ts.length + 1 := by simp
        refine Again.mk ⟨ts ++ [s], v4, o2, D6⟩ (by show l.length - (ts ++ [s]).length < l.length - ts.length; omega) ⟨by show (ts ++ [s]).length ≤ l.length; omega, by show allGo l (ts ++ [s]).length = .ok (ts ++ [s]); rw [hlt2]; exact allGo_ok hgo hp, hM2, hN5, hG5⟩ rfl (by simp only [hlt2]; rfl)
    · have e : ts.length = l.length := by omega
      have d2 : decide ((ts.length : Int) < (l.length : Int)) = false := decide_eq_false (by omega)
      first | with_reducible refine ks [] (And.intro uKJ_1 @d2) ?_ | refine kp (And.intro uKJ_1 @d2) ?_
      refine ⟨_, (ke uKJ_1), ?_⟩
      refine ⟨Ext.of_new ⟨hw1, hwk, hwm, hN⟩, ?_⟩
      have hal : allV l = .ok ts := by unfold allV; rw [if_neg h2, ← e]; exact hgo
      unfold AllS
      rw [hal]
      exact ⟨v, rfl, Gr.i hG fun q hq => by simp [hq]⟩
end Go.Proofs
end
namespace Go.Dig
open Go.Sx
def hexL : List UInt8 := [48, 49, 50, 51, 52, 53, 54, 55, 56, 57, 97, 98, 99, 100, 101, 102]
def digitV (b : UInt8) : Int := if 48 ≤ b.toNat ∧ b.toNat ≤ 57 then (b.toNat : Int) - 48 else if 97 ≤ b.toNat ∧ b.toNat ≤ 102 then (b.toNat : Int) - 97 + 10 else -1
def hexD (n : Nat) : UInt8 := hexL.getD n 0
def hexB (b : UInt8) : List UInt8 := [hexD (b.toNat / 16), hexD (b.toNat % 16)]
def hexV (id : List UInt8) : List UInt8 := id.flatMap hexB
def hexPre (id : List UInt8) (g : Nat) : List UInt8 := hexV (id.take g) ++ List.replicate (64 - 2 * g) 0
/-- What a text of 64 digits is the text of. -/
def bytesL (l : List UInt8) (n : Nat) : List UInt8 := (List.range n).map fun i => UInt8.ofInt (digitV (l.getD (2 * i) 0) * 16 + digitV (l.getD (2 * i + 1) 0))
def okHex (l : List UInt8) : Bool := l.length == 64 && l.all fun c => decide (0 ≤ digitV c)
def unhexV (l : List UInt8) : List UInt8 := if okHex l then bytesL l 32 else List.replicate 32 0
def bytesPre (l : List UInt8) (g : Nat) : List UInt8 := bytesL l g ++ List.replicate (32 - g) 0
/-! ### The document's reading of an id's text: digit by digit -/
def refB (l : List UInt8) (i k : Nat) : UInt8 :=
  if 2 * k + 1 < i then UInt8.ofInt (digitV (l.getD (2 * k) 0) * 16 + digitV (l.getD (2 * k + 1) 0)) else if 2 * k < i then UInt8.ofInt (digitV (l.getD (2 * k) 0)) else 0
def refPre (l : List UInt8) (i : Nat) : List UInt8 := (List.range 32).map (refB l i)
/-! ### SHA-256 -/
def rgt (x : UInt32) (n : UInt64) : UInt32 := shr_u32 x n.toNat ||| shl_u32 x (32 - n).toNat
def rol (x : UInt32) (k : Int) : UInt32 := shl_u32 x (UInt64.ofInt k &&& 31).toNat ||| shr_u32 x (32 - (UInt64.ofInt k &&& 31)).toNat
def turnV (x : UInt32) (a b c : Int) : UInt32 := rol x (-a) ^^^ rol x (-b) ^^^ shr_u32 x c.toNat
def spinV (x : UInt32) (a b c : Int) : UInt32 := rol x (-a) ^^^ rol x (-b) ^^^ rol x (-c)
def S1 (e : UInt32) : UInt32 := rgt e 6 ^^^ rgt e 11 ^^^ rgt e 25
def S0 (a : UInt32) : UInt32 := rgt a 2 ^^^ rgt a 13 ^^^ rgt a 22
def s1 (y : UInt32) : UInt32 := rgt y 17 ^^^ rgt y 19 ^^^ shr_u32 y 10
def s0 (x : UInt32) : UInt32 := rgt x 7 ^^^ rgt x 18 ^^^ shr_u32 x 3
theorem rol6 (x : UInt32) : rol x (-6) = rgt x 6 := by unfold rol rgt; rw [UInt32.or_comm]; rfl
theorem rol11 (x : UInt32) : rol x (-11) = rgt x 11 := by unfold rol rgt; rw [UInt32.or_comm]; rfl
theorem rol25 (x : UInt32) : rol x (-25) = rgt x 25 := by unfold rol rgt; rw [UInt32.or_comm]; rfl
theorem rol2 (x : UInt32) : rol x (-2) = rgt x 2 := by unfold rol rgt; rw [UInt32.or_comm]; rfl
theorem rol13 (x : UInt32) : rol x (-13) = rgt x 13 := by unfold rol rgt; rw [UInt32.or_comm]; rfl
theorem rol22 (x : UInt32) : rol x (-22) = rgt x 22 := by unfold rol rgt; rw [UInt32.or_comm]; rfl
theorem rol17 (x : UInt32) : rol x (-17) = rgt x 17 := by unfold rol rgt; rw [UInt32.or_comm]; rfl
theorem rol19 (x : UInt32) : rol x (-19) = rgt x 19 := by unfold rol rgt; rw [UInt32.or_comm]; rfl
theorem rol7 (x : UInt32) : rol x (-7) = rgt x 7 := by unfold rol rgt; rw [UInt32.or_comm]; rfl
theorem rol18 (x : UInt32) : rol x (-18) = rgt x 18 := by unfold rol rgt; rw [UInt32.or_comm]; rfl
theorem spin1 (x : UInt32) : spinV x 6 11 25 = S1 x := by unfold spinV S1; rw [rol6, rol11, rol25]
theorem spin0 (x : UInt32) : spinV x 2 13 22 = S0 x := by unfold spinV S0; rw [rol2, rol13, rol22]
theorem turn1 (x : UInt32) : turnV x 17 19 10 = s1 x := by unfold turnV s1; rw [rol17, rol19]; rfl
theorem turn0 (x : UInt32) : turnV x 7 18 3 = s0 x := by unfold turnV s0; rw [rol7, rol18]; rfl

def kL : List UInt32 := [1116352408, 1899447441, 3049323471, 3921009573, 961987163, 1508970993, 2453635748, 2870763221, 3624381080, 310598401, 607225278, 1426881987, 1925078388, 2162078206, 2614888103, 3248222580, 3835390401, 4022224774, 264347078, 604807628, 770255983, 1249150122, 1555081692, 1996064986, 2554220882, 2821834349, 2952996808, 3210313671, 3336571891, 3584528711, 113926993, 338241895, 666307205, 773529912, 1294757372, 1396182291, 1695183700, 1986661051, 2177026350, 2456956037, 2730485921, 2820302411, 3259730800, 3345764771, 3516065817, 3600352804, 4094571909, 275423344, 430227734, 506948616, 659060556, 883997877, 958139571, 1322822218, 1537002063, 1747873779, 1955562222, 2024104815, 2227730452, 2361852424, 2428436474, 2756734187, 3204031479, 3329325298]
def initL : List UInt32 := [1779033703, 3144134277, 1013904242, 2773480762, 1359893119, 2600822924, 528734635, 1541459225]

/-- The word of four bytes, as the document says. -/
def wordR (b : List UInt8) (i : Nat) : UInt32 :=
  UInt32.ofNat (b.getD (4 * i) 0).toNat * 16777216 + UInt32.ofNat (b.getD (4 * i + 1) 0).toNat * 65536 + UInt32.ofNat (b.getD (4 * i + 2) 0).toNat * 256 + UInt32.ofNat (b.getD (4 * i + 3) 0).toNat
def wPre (b : List UInt8) (i : Nat) : List UInt32 := (List.range 64).map fun j => if j < i then wordR b j else 0
theorem wPre_length (b : List UInt8) (i : Nat) : (wPre b i).length = 64 := by simp [wPre]
theorem wPre_succ (b : List UInt8) (i : Nat) : (wPre b i).set i (wordR b i) = wPre b (i + 1) := by
  apply List.ext_getElem
  · simp [wPre]
  intro k hk1 hk2
  have hk : k < 64 := by simpa [wPre] using hk2
  rw [List.getElem_set]
  by_cases h : i = k
  · subst h; simp [wPre]
  · rw [if_neg h]
    simp only [wPre, List.getElem_map, List.getElem_range]
    by_cases h1 : k < i
    · rw [if_pos h1, if_pos (by omega)]
    · rw [if_neg h1, if_neg (by omega)]
theorem wPre_zero (b : List UInt8) : wPre b 0 = List.replicate 64 0 := by
  apply List.ext_getElem
  · simp [wPre]
  intro k hk1 hk2
  simp only [wPre, List.getElem_map, List.getElem_range, List.getElem_replicate]
  rw [if_neg (by omega)]
/-- The words from 16 on. -/
def wStep (w : List UInt32) (g : Nat) : List UInt32 := w.set g (s1 (w.getD (g - 2) 0) + w.getD (g - 7) 0 + s0 (w.getD (g - 15) 0) + w.getD (g - 16) 0)
def wGo (w : List UInt32) : Nat → List UInt32
  | 0 => w
  | n + 1 => wStep (wGo w n) (16 + n)
theorem wGo_length (w : List UInt32) (n : Nat) : (wGo w n).length = w.length := by
  induction n with
  | zero => rfl
  | succ n ih => simp [wGo, wStep, ih]
def wAll (b : List UInt8) : List UInt32 := wGo (wPre b 16) 48
theorem wAll_length (b : List UInt8) : (wAll b).length = 64 := by rw [wAll, wGo_length, wPre_length]

def rStep (s : List UInt32) (k w : UInt32) : List UInt32 :=
  let t := s.getD 7 0 + S1 (s.getD 4 0) + (s.getD 4 0 &&& s.getD 5 0 ||| ~~~ s.getD 4 0 &&& s.getD 6 0) + k + w
  let u := S0 (s.getD 0 0) + (s.getD 0 0 &&& s.getD 1 0 ||| s.getD 0 0 &&& s.getD 2 0 ||| s.getD 1 0 &&& s.getD 2 0)
  [t + u, s.getD 0 0, s.getD 1 0, s.getD 2 0, s.getD 3 0 + t, s.getD 4 0, s.getD 5 0, s.getD 6 0]
def rGo (st w : List UInt32) : Nat → List UInt32
  | 0 => st
  | n + 1 => rStep (rGo st w n) (kL.getD n 0) (w.getD n 0)
theorem rGo_length (st w : List UInt32) (n : Nat) (h : st.length = 8) : (rGo st w n).length = 8 := by
  cases n with
  | zero => exact h
  | succ n => rfl
def addPre (st s : List UInt32) (i : Nat) : List UInt32 := (List.range 8).map fun j => if j < i then st.getD j 0 + s.getD j 0 else st.getD j 0
theorem addPre_length (st s : List UInt32) (i : Nat) : (addPre st s i).length = 8 := by simp [addPre]
theorem addPre_get (st s : List UInt32) (i j : Nat) (hj : j < 8) : (addPre st s i).getD j 0 = if j < i then st.getD j 0 + s.getD j 0 else st.getD j 0 := by
  simp [addPre, List.getD_eq_getElem?_getD, hj]
theorem addPre_succ (st s : List UInt32) (i : Nat) : (addPre st s i).set i (st.getD i 0 + s.getD i 0) = addPre st s (i + 1) := by
  apply List.ext_getElem
  · simp [addPre]
  intro k hk1 hk2
  rw [List.getElem_set]
  by_cases h : i = k
  · subst h; simp [addPre]
  · rw [if_neg h]
    simp only [addPre, List.getElem_map, List.getElem_range]
    by_cases h1 : k < i
    · rw [if_pos h1, if_pos (by omega)]
    · rw [if_neg h1, if_neg (by omega)]
theorem addPre_zero (st s : List UInt32) (h : st.length = 8) : addPre st s 0 = st := by
  apply List.ext_getElem
  · simp [addPre, h]
  intro k hk1 hk2
  simp [addPre, List.getD_eq_getElem?_getD, hk2]
/-- The state behind a block. -/
def comp (st : List UInt32) (b : List UInt8) : List UInt32 := addPre st (rGo st (wAll b) 64) 8
theorem comp_length (st : List UInt32) (b : List UInt8) : (comp st b).length = 8 := addPre_length _ _ _
/-- The state behind n blocks. -/
def comps (st : List UInt32) (m : List UInt8) : Nat → List UInt32
  | 0 => st
  | n + 1 => comp (comps st m n) ((m.drop (64 * n)).take 64)
theorem comps_append (st : List UInt32) (m x : List UInt8) (n : Nat) (h : 64 * n ≤ m.length) : comps st (m ++ x) n = comps st m n := by
  induction n with
  | zero => rfl
  | succ n ih =>
    simp only [comps]
    rw [ih (by omega), List.drop_append_of_le_length (by omega), List.take_append_of_le_length (by simp; omega)]

/-! ### A hash in memory -/
def hashL (bg : Bool) (st : List UInt32) (rest : List UInt8) (many : Int) (taken : UInt64) : List Value :=
  .bool bg :: (st.map (fun x => Value.int .u32 (x.toNat : Int)) ++ (rest.map (fun x => Value.int .u8 (x.toNat : Int)) ++ [vi many, v64 taken]))
def hashC (bg : Bool) (st : List UInt32) (rest : List UInt8) (many : Int) (taken : UInt64) : Array Value := (hashL bg st rest many taken).toArray
section
variable {bg : Bool} {st : List UInt32} {rest : List UInt8} {many : Int} {taken : UInt64} {E : TypeId}
theorem hash_size (h : st.length = 8 ∧ rest.length = 64) : (hashC bg st rest many taken).size = 75 := by simp [hashC, hashL, h]
theorem hash_get0 : (hashC bg st rest many taken)[0]? = some (.bool bg) := rfl
theorem hash_getS (k : Nat) (hk : k < 8) (h : st.length = 8) : (hashC bg st rest many taken)[1 + k]? = some (v32 (st.getD k 0)) := by
  have : 1 + k = k + 1 := by omega
  rw [this, hashC, List.getElem?_toArray, hashL, List.getElem?_cons_succ, List.getElem?_append_left (by simp; omega)]
  simp [v32, List.getD_eq_getElem?_getD, h, hk]
theorem hash_getR (k : Nat) (hk : k < 64) (h : st.length = 8 ∧ rest.length = 64) : (hashC bg st rest many taken)[9 + k]? = some (v8 (rest.getD k 0)) := by
  have : 9 + k = (8 + k) + 1 := by omega
  rw [this, hashC, List.getElem?_toArray, hashL, List.getElem?_cons_succ, List.getElem?_append_right (by simp; omega), List.getElem?_append_left (by simp; omega)]
  have e : 8 + k - (List.map (fun x : UInt32 => Value.int .u32 (x.toNat : Int)) st).length = k := by simp; omega
  rw [e]
  simp [v8, List.getD_eq_getElem?_getD, h, hk]
theorem hash_getM (h : st.length = 8 ∧ rest.length = 64) : (hashC bg st rest many taken)[73]? = some (vi many) := by
  rw [hashC, List.getElem?_toArray, hashL, List.getElem?_cons_succ, List.getElem?_append_right (by simp; omega), List.getElem?_append_right (by simp; omega)]
  simp [h]
theorem hash_getT (h : st.length = 8 ∧ rest.length = 64) : (hashC bg st rest many taken)[74]? = some (v64 taken) := by
  rw [hashC, List.getElem?_toArray, hashL, List.getElem?_cons_succ, List.getElem?_append_right (by simp; omega), List.getElem?_append_right (by simp; omega)]
  simp [h]
theorem load_hash0 (n : Nat) : loadV (some (false, n)) (some (.cells (hashC bg st rest many taken) E (0, 0))) 0 = some (.bool bg) := hash_get0
theorem load_hashS (n k : Nat) (h : k < 8 ∧ st.length = 8) : loadV (some (false, n)) (some (.cells (hashC bg st rest many taken) E (0, 0))) (1 + k) = some (v32 (st.getD k 0)) := hash_getS k h.1 h.2
theorem load_hashR (n k : Nat) (h : k < 64 ∧ st.length = 8 ∧ rest.length = 64) : loadV (some (false, n)) (some (.cells (hashC bg st rest many taken) E (0, 0))) (9 + k) = some (v8 (rest.getD k 0)) := hash_getR k h.1 h.2
theorem load_hashR2 (n j k : Nat) (h : j + k < 64 ∧ st.length = 8 ∧ rest.length = 64) : loadV (some (false, n)) (some (.cells (hashC bg st rest many taken) E (0, 0))) (9 + j + k) = some (v8 (rest.getD (j + k) 0)) := by
  rw [Nat.add_assoc]; exact hash_getR (j + k) h.1 h.2
theorem load_hashM (n : Nat) (h : st.length = 8 ∧ rest.length = 64) : loadV (some (false, n)) (some (.cells (hashC bg st rest many taken) E (0, 0))) 73 = some (vi many) := hash_getM h
theorem load_hashT (n : Nat) (h : st.length = 8 ∧ rest.length = 64) : loadV (some (false, n)) (some (.cells (hashC bg st rest many taken) E (0, 0))) 74 = some (v64 taken) := hash_getT h
theorem load_hashSt (h : st.length = 8 ∧ rest.length = 64) : loadV (some (true, 8)) (some (.cells (hashC bg st rest many taken) E (0, 0))) 1 = some (.agg (a32 st)) := by
  have hs : 1 + 8 ≤ (hashC bg st rest many taken).size := by rw [hash_size h]; omega
  simp only [loadV, hs, ↓reduceIte]
  congr 2
  rw [hashC, a32, hashL]
  simp only [List.extract_toArray, List.extract_eq_take_drop]
  congr 1
  simp [h]
theorem load_hashAll (h : st.length = 8 ∧ rest.length = 64) : loadV (some (true, 75)) (some (.cells (hashC bg st rest many taken) E (0, 0))) 0 = some (.agg (hashC bg st rest many taken)) := load_all _ _ _ _ (hash_size h)
theorem one_hash : (hashC bg st rest many taken).toList.all Value.oneCell' = true := by
  simp [hashC, hashL, Value.oneCell', vi, v64]
theorem store_hashAll (old : Array Value) (h : st.length = 8 ∧ rest.length = 64 ∧ old.size = 75) : storeV (some (true, 75)) (some (.cells old E (0, 0))) 0 (.agg (hashC bg st rest many taken)) = some (.cells (hashC bg st rest many taken) E (0, 0)) :=
  store_all _ _ _ _ _ ⟨hash_size ⟨h.1, h.2.1⟩, h.2.2⟩ one_hash
theorem setL_hash (i : Nat) (v : Value) : (hashC bg st rest many taken).setIfInBounds i v = ((hashL bg st rest many taken).set i v).toArray := by simp [hashC]
theorem store_hash0 (b : Bool) (h : st.length = 8 ∧ rest.length = 64) : storeV (some (false, 1)) (some (.cells (hashC bg st rest many taken) E (0, 0))) 0 (.bool b) = some (.cells (hashC b st rest many taken) E (0, 0)) := by
  rw [store_one _ _ _ _ _ (by rw [hash_size h]; omega) rfl rfl, setL_hash]; rfl
theorem store_hashS (k : Nat) (x : UInt32) (h : k < 8 ∧ st.length = 8 ∧ rest.length = 64) : storeV (some (false, 1)) (some (.cells (hashC bg st rest many taken) E (0, 0))) (1 + k) (v32 x) = some (.cells (hashC bg (st.set k x) rest many taken) E (0, 0)) := by
  have e : 1 + k = k + 1 := by omega
  rw [store_one _ _ _ _ _ (by rw [hash_size h.2]; omega) rfl rfl, setL_hash, e, hashL, List.set_cons_succ, List.set_append_left _ _ (by simp; omega)]
  simp only [hashC, hashL, List.map_set]; rfl
theorem store_hashR (k : Nat) (x : UInt8) (h : k < 64 ∧ st.length = 8 ∧ rest.length = 64) : storeV (some (false, 1)) (some (.cells (hashC bg st rest many taken) E (0, 0))) (9 + k) (v8 x) = some (.cells (hashC bg st (rest.set k x) many taken) E (0, 0)) := by
  have e : 9 + k = (8 + k) + 1 := by omega
  rw [store_one _ _ _ _ _ (by rw [hash_size h.2]; omega) rfl rfl, setL_hash, e, hashL, List.set_cons_succ, List.set_append_right _ _ (by simp; omega), List.set_append_left _ _ (by simp; omega)]
  have e2 : 8 + k - (List.map (fun x : UInt32 => Value.int .u32 (x.toNat : Int)) st).length = k := by simp; omega
  rw [e2]
  simp only [hashC, hashL, List.map_set]; rfl
theorem store_hashM (m : Int) (h : st.length = 8 ∧ rest.length = 64) : storeV (some (false, 1)) (some (.cells (hashC bg st rest many taken) E (0, 0))) 73 (vi m) = some (.cells (hashC bg st rest m taken) E (0, 0)) := by
  rw [store_one _ _ _ _ _ (by rw [hash_size h]; omega) rfl rfl, setL_hash, hashL, List.set_cons_succ, List.set_append_right _ _ (by simp; omega), List.set_append_right _ _ (by simp; omega)]
  simp [hashC, hashL, h]
theorem store_hashT (t : UInt64) (h : st.length = 8 ∧ rest.length = 64) : storeV (some (false, 1)) (some (.cells (hashC bg st rest many taken) E (0, 0))) 74 (v64 t) = some (.cells (hashC bg st rest many t) E (0, 0)) := by
  rw [store_one _ _ _ _ _ (by rw [hash_size h]; omega) rfl rfl, setL_hash, hashL, List.set_cons_succ, List.set_append_right _ _ (by simp; omega), List.set_append_right _ _ (by simp; omega)]
  simp [hashC, hashL, h]
theorem store_hashSt (st' : List UInt32) (h : st.length = 8 ∧ rest.length = 64 ∧ st'.length = 8) : storeV (some (true, 8)) (some (.cells (hashC bg st rest many taken) E (0, 0))) 1 (.agg (a32 st')) = some (.cells (hashC bg st' rest many taken) E (0, 0)) := by
  have hs : 1 + 8 ≤ (hashC bg st rest many taken).size := by rw [hash_size ⟨h.1, h.2.1⟩]; omega
  have hp : putC (hashC bg st rest many taken) 1 (a32 st').toList = hashC bg st' rest many taken := by
    have := putC_eq (a32 st').toList [.bool bg] (st.map fun x => Value.int .u32 (x.toNat : Int)) (rest.map (fun x => Value.int .u8 (x.toNat : Int)) ++ [vi many, v64 taken]) (by simp [a32, h])
    simpa [hashC, hashL, a32] using this
  have h1 : (a32 st').size = 8 := by rw [size_a32]; exact h.2.2
  simp only [storeV, cells_agg, h1, hs, Nat.le_refl, true_or, all_a32, and_self, ↓reduceIte, hp]
end

/-! ### Words, byte by byte -/
def acc (b : List UInt8) (i : Nat) : Nat → UInt32
  | 0 => 0
  | k + 1 => shl_u32 (acc b i k) 8 ||| UInt32.ofNat (b.getD (4 * i + k) 0).toNat
theorem acc_step (x : UInt32) (c : UInt8) (h : x.toNat < 16777216) : (shl_u32 x 8 ||| UInt32.ofNat c.toNat).toNat = x.toNat * 256 + c.toNat := by
  have hc := c.toNat_lt
  rw [UInt32.toNat_or, shl_u32, UInt32.toNat_ofNat', UInt32.toNat_ofNat', Nat.mod_eq_of_lt (by omega), Nat.mod_eq_of_lt (by omega), ← Nat.shiftLeft_eq, ← Nat.shiftLeft_add_eq_or_of_lt (by omega : c.toNat < 2 ^ 8), Nat.shiftLeft_eq]
theorem acc_four (b : List UInt8) (i : Nat) : acc b i 4 = wordR b i := by
  have h0 := (b.getD (4 * i) 0).toNat_lt
  have h1 := (b.getD (4 * i + 1) 0).toNat_lt
  have h2 := (b.getD (4 * i + 2) 0).toNat_lt
  have h3 := (b.getD (4 * i + 3) 0).toNat_lt
  have e1 : (acc b i 1).toNat = (b.getD (4 * i) 0).toNat := by
    have := acc_step 0 (b.getD (4 * i + 0) 0) (by decide)
    simpa [acc] using this
  have l1 : (acc b i 1).toNat < 16777216 := by omega
  have e2 : (acc b i 2).toNat = (acc b i 1).toNat * 256 + (b.getD (4 * i + 1) 0).toNat := acc_step _ _ l1
  have l2 : (acc b i 2).toNat < 16777216 := by omega
  have e3 : (acc b i 3).toNat = (acc b i 2).toNat * 256 + (b.getD (4 * i + 2) 0).toNat := acc_step _ _ l2
  have l3 : (acc b i 3).toNat < 16777216 := by omega
  have e4 : (acc b i 4).toNat = (acc b i 3).toNat * 256 + (b.getD (4 * i + 3) 0).toNat := acc_step _ _ l3
  apply UInt32.toNat.inj
  rw [e4, e3, e2, e1]
  unfold wordR
  simp only [UInt32.toNat_add, UInt32.toNat_mul, UInt32.toNat_ofNat']
  have k1 : (16777216 : UInt32).toNat = 16777216 := rfl
  have k2 : (65536 : UInt32).toNat = 65536 := rfl
  have k3 : (256 : UInt32).toNat = 256 := rfl
  rw [k1, k2, k3]
  omega
theorem wPre_set0 (b : List UInt8) (g : Nat) : wPre b g = (wPre b g).set g (acc b g 0) := by
  apply List.ext_getElem
  · simp
  intro k hk1 hk2
  rw [List.getElem_set]
  by_cases h : g = k
  · subst h; simp [wPre, acc]
  · rw [if_neg h]
theorem getD_set_same {α : Type} (l : List α) (i : Nat) (x d : α) (h : i < l.length) : (l.set i x).getD i d = x := by
  simp [List.getD_eq_getElem?_getD, h]

def wG (b : List UInt8) (g : Nat) : List UInt32 := wGo (wPre b 16) (g - 16)
theorem wG_length (b : List UInt8) (g : Nat) : (wG b g).length = 64 := by rw [wG, wGo_length, wPre_length]
theorem wG_succ (b : List UInt8) (g : Nat) (h : 16 ≤ g) : wG b (g + 1) = wStep (wG b g) g := by
  unfold wG
  have : g + 1 - 16 = (g - 16) + 1 := by omega
  rw [this]
  show wStep _ (16 + (g - 16)) = _
  rw [show 16 + (g - 16) = g from by omega]
theorem wG_all (b : List UInt8) : wG b 64 = wAll b := rfl
theorem wG_start (b : List UInt8) : wPre b 16 = wG b 16 := rfl

theorem ch_xor (a b c : UInt32) : (a &&& b ^^^ ~~~a &&& c) = (a &&& b ||| ~~~a &&& c) := by
  apply UInt32.toBitVec_inj.1
  simp only [UInt32.toBitVec_xor, UInt32.toBitVec_or, UInt32.toBitVec_and, UInt32.toBitVec_not]
  ext i hi
  simp only [BitVec.getElem_xor, BitVec.getElem_or, BitVec.getElem_and, BitVec.getElem_not]
  cases a.toBitVec[i] <;> simp
theorem maj_xor (a b c : UInt32) : (a &&& b ^^^ a &&& c ^^^ b &&& c) = (a &&& b ||| a &&& c ||| b &&& c) := by
  apply UInt32.toBitVec_inj.1
  simp only [UInt32.toBitVec_xor, UInt32.toBitVec_or, UInt32.toBitVec_and]
  ext i hi
  simp only [BitVec.getElem_xor, BitVec.getElem_or, BitVec.getElem_and]
  cases a.toBitVec[i] <;> cases b.toBitVec[i] <;> simp
/-- What the program knows of its tables. -/
def Glob (w : World) : Prop := ∃ e0 e1 f0 f1, w.heap[0]? = some (.cells (a32 initL) e0 f0) ∧ w.heap[1]? = some (.cells (a32 kL) e1 f1)
theorem Glob.of {w0 w : World} {L : Heap} (hg : Glob w0) (h : Hp w0 L w) (hk : ∀ b, b ∈ keys L → 1 < b) : Glob w := by
  obtain ⟨e0, e1, f0, f1, h0, h1⟩ := hg
  refine ⟨e0, e1, f0, f1, ?_, ?_⟩
  · rw [h.old 0 (Array.getElem?_eq_some_iff.1 h0).1 (fun hm => by have := hk 0 hm; omega)]; exact h0
  · rw [h.old 1 (Array.getElem?_eq_some_iff.1 h1).1 (fun hm => by have := hk 1 hm; omega)]; exact h1

/-! ### A hash that takes bytes -/
structure Hs where
  st : List UInt32
  rest : List UInt8
  many : Nat
structure Hs.Ok (s : Hs) : Prop where
  st : s.st.length = 8
  rest : s.rest.length = 64
  many : s.many < 64
def hput (s : Hs) (x : UInt8) : Hs :=
  if s.many + 1 = 64 then ⟨comp s.st (s.rest.set s.many x), s.rest.set s.many x, 0⟩ else ⟨s.st, s.rest.set s.many x, s.many + 1⟩
theorem hput_ok {s : Hs} (x : UInt8) (h : s.Ok) : (hput s x).Ok := by
  unfold hput
  split
  · exact ⟨comp_length _ _, by simp [h.rest], by show (0 : Nat) < 64; omega⟩
  · exact ⟨h.st, by simp [h.rest], by show s.many + 1 < 64; have := h.many; omega⟩
def hputs (s : Hs) (l : List UInt8) : Hs := l.foldl hput s
theorem hputs_ok {s : Hs} (l : List UInt8) (h : s.Ok) : (hputs s l).Ok := by
  induction l generalizing s with
  | nil => exact h
  | cons x r ih => exact ih (hput_ok x h)
theorem hputs_append (s : Hs) (a b : List UInt8) : hputs s (a ++ b) = hputs (hputs s a) b := List.foldl_append
theorem take_succ_getD {α : Type} (l : List α) (g : Nat) (d : α) (h : g < l.length) : l.take (g + 1) = l.take g ++ [l.getD g d] := by
  rw [List.take_add_one]
  simp [List.getD_eq_getElem?_getD, h]
theorem hputs_succ (s : Hs) (l : List UInt8) (g : Nat) (h : g < l.length) : hputs s (l.take (g + 1)) = hput (hputs s (l.take g)) (l.getD g 0) := by
  rw [take_succ_getD l g 0 h, hputs_append]; rfl
/-- The hash before the first byte. -/
def hbegin (bg : Bool) (s : Hs) : Hs := if bg then s else { s with st := initL }
theorem hbegin_ok {s : Hs} (bg : Bool) (h : s.Ok) : (hbegin bg s).Ok := by
  unfold hbegin; split
  · exact h
  · exact ⟨rfl, h.rest, h.many⟩
def hashH (s : Hs) (taken : UInt64) : Array Value := hashC true s.st s.rest s.many taken
def takenL (t : UInt64) (l : List (List UInt8)) : UInt64 := l.foldl (fun t a => t + UInt64.ofNat a.length) t
theorem takenL_succ (t : UInt64) (l : List (List UInt8)) (g : Nat) (h : g < l.length) : takenL t (l.take (g + 1)) = takenL t (l.take g) + UInt64.ofNat (l.getD g []).length := by
  rw [take_succ_getD l g [] h, takenL, List.foldl_append]; rfl
theorem flatten_succ (l : List (List UInt8)) (g : Nat) (h : g < l.length) : (l.take (g + 1)).flatten = (l.take g).flatten ++ l.getD g [] := by
  rw [take_succ_getD l g [] h, List.flatten_append]; simp
theorem loadV_one (cs : Array Value) (E : TypeId) (fz : Nat × Nat) (n i : Nat) : loadV (some (false, n)) (some (.cells cs E fz)) i = cs[i]? := (rfl)
/-- A slice of texts in a world. -/
structure Strs (w : World) (v : Value) (l : List (List UInt8)) : Prop where
  nil_or : (l = [] ∧ v = .slice none 0 0) ∨ ∃ b off c arr E fz, v = vsl b off l.length c ∧ w.heap[b]? = some (.cells arr E fz) ∧ ∀ i, i < l.length → arr[off + i]? = some (vs (l.getD i []))
end Go.Dig
section
open Go Go.Proofs Go.Sx Go.Dig
namespace Go.Proofs
set_option maxRecDepth 10000
set_option maxHeartbeats 4000000
set_option linter.unusedSimpArgs false
/-- What the program knows of its tables. -/
def GlobE (w : World) : Prop := ∃ e0 e1 f0 f1, w.heap[2]? = some (.cells (a32 initL) e0 f0) ∧ w.heap[3]? = some (.cells (a32 kL) e1 f1)
theorem GlobE.of {w0 w : World} {L : Heap} (hg : GlobE w0) (h : Hp w0 L w) (hk : ∀ b, b ∈ keys L → 3 < b) : GlobE w := by
  obtain ⟨e0, e1, f0, f1, h0, h1⟩ := hg
  refine ⟨e0, e1, f0, f1, ?_, ?_⟩
  · rw [h.old _ (Array.getElem?_eq_some_iff.1 h0).1 (fun hm => by have := hk _ hm; omega)]; exact h0
  · rw [h.old _ (Array.getElem?_eq_some_iff.1 h1).1 (fun hm => by have := hk _ hm; omega)]; exact h1
theorem rotl_spec (x : UInt32) (k : Int) (w : World) : Rets Tryd.prog 161 #[v32 x, vi k] w (fun v D => v = v32 (rol x k) ∧ D = []) := by
  refine Rets.enterV Tryd.func161 rfl (rs := [.tmp 4]) Tryd.results161 Tryd.ntmps161 ?_
  refine kf ?_
  first | with_reducible refine ks [] @Nat.add_zero ?_ | refine kp @Nat.add_zero ?_
  refine ⟨_, (ke @Nat.add_zero), trivial, ?_⟩
  rfl
theorem turn_spec (x : UInt32) (a b c : Int) (ha : 0 ≤ a ∧ a ≤ 64) (hb : 0 ≤ b ∧ b ≤ 64) (hc : 0 ≤ c ∧ c ≤ 64) (w : World) : Rets Tryd.prog 157 #[v32 x, vi a, vi b, vi c] w (fun v D => v = v32 (turnV x a b c) ∧ D = []) := by
  refine Rets.enterV Tryd.func157 rfl (rs := [.tmp 8]) Tryd.results157 Tryd.ntmps157 ?_
  refine kf ?_
  first | with_reducible refine ks [] @Nat.add_zero ?_ | refine kp @Nat.add_zero ?_
  refine Cw.regionO [0, 1, 2, 4, 5, 6, 9, 10, 11, 3, 7, 8, 12, 13] [] rfl (by kernel_rfl) (by kernel_rfl) ?_
  simp only [nl_cons, ↓pickL_nil, ↓pickL_cons, ↓nthO_0, ↓nthO_s, consO_some]
  refine kq @Nat.add_zero ?_
  refine Ow.callFV rfl Tryd.call161 (fun w' hw' => rotl_spec _ _ w') ?_
  refine kq @Nat.add_zero ?_
  refine Ow.callFV rfl Tryd.call161 (fun w' hw' => rotl_spec _ _ w') ?_
  refine kq @Nat.add_zero ?_
  first | with_reducible refine ks [] @Nat.add_zero ?_ | refine kp @Nat.add_zero ?_
  refine ⟨_, (ke @Nat.add_zero), trivial, ?_⟩
  rfl
theorem spin_spec (x : UInt32) (a b c : Int) (ha : 0 ≤ a ∧ a ≤ 64) (hb : 0 ≤ b ∧ b ≤ 64) (hc : 0 ≤ c ∧ c ≤ 64) (w : World) : Rets Tryd.prog 158 #[v32 x, vi a, vi b, vi c] w (fun v D => v = v32 (spinV x a b c) ∧ D = []) := by
  refine Rets.enterV Tryd.func158 rfl (rs := [.tmp 8]) Tryd.results158 Tryd.ntmps158 ?_
  refine kf ?_
  first | with_reducible refine ks [] @Nat.add_zero ?_ | refine kp @Nat.add_zero ?_
  refine Ow.callFV rfl Tryd.call161 (fun w' hw' => rotl_spec _ _ w') ?_
  refine ko @Nat.add_zero ?_
  refine Ow.callFV rfl Tryd.call161 (fun w' hw' => rotl_spec _ _ w') ?_
  refine ko @Nat.add_zero ?_
  refine Ow.callFV rfl Tryd.call161 (fun w' hw' => rotl_spec _ _ w') ?_
  refine ko @Nat.add_zero ?_
  first | with_reducible refine ks [] @Nat.add_zero ?_ | refine kp @Nat.add_zero ?_
  refine ⟨_, (ke @Nat.add_zero), trivial, ?_⟩
  rfl
end Go.Proofs
end
section
open Go Go.Proofs Go.Sx Go.Dig
namespace Go.Proofs
set_option maxRecDepth 10000
set_option maxHeartbeats 4000000
set_option linter.unusedSimpArgs false
set_option linter.defProp false
def uE3_1 := And.intro (And.intro (And.intro (And.intro (@load_hash0) (@load_hashS)) (And.intro (@load_hashR) (@load_hashR2))) (And.intro (And.intro (@load_hashM) (@load_hashT)) (And.intro (@load_hashSt) (@load_hashAll)))) (And.intro (And.intro (And.intro (@store_hashAll) (@store_hash0)) (And.intro (@store_hashS) (@store_hashR))) (And.intro (And.intro (@store_hashM) (@store_hashT)) (And.intro (@store_hashSt) (@getD_set_same))))
theorem take_spec (b : Nat) (bg : Bool) (st : List UInt32) (rest : List UInt8) (many : Int) (taken : UInt64) (w : World) (hG : GlobE w) (hb : 3 < b) (hs : st.length = 8) (hr : rest.length = 64)
    (ho : w.heap[b]? = some (.cells (hashC bg st rest many taken) 186 (0, 0))) :
    Rets Tryd.prog 151 #[vp b 0] w (fun v D => ∃ o, D = [(b, o)] ∧ v = .tuple #[] ∧ o = .cells (hashC bg (comp st rest) rest 0 taken) 186 (0, 0)) := by
  obtain ⟨e0, e1, f0, f1, h0, h1⟩ := hG
  have hbl := (Array.getElem?_eq_some_iff.1 ho).1
  have hkl : kL.length = 64 := rfl
  refine Rets.enterM Tryd.func151 rfl (rs := []) Tryd.results151 Tryd.ntmps151 ho ?_
  refine kf ?_
  first | with_reducible refine ks [] uE3_1 ?_ | refine kp uE3_1 ?_
  refine Ow.alloc rfl rfl Tryd.zr240 fun b1 hb1 hw1 => ?_
  obtain ⟨h01, -⟩ := hb1
  refine ko uE3_1 ?_
  first | with_reducible refine ks [] uE3_1 ?_ | refine kp uE3_1 ?_
  rw [← wPre_zero rest]
  refine Cw.loopG (G := Nat) [14, 15, 3, 16, 17, 18, 19, 20, 21, 22, 23, 24, 25, 26, 27, 28, 29, 5, 30, 31, 32, 33, 34, 35, 36, 37, 38, 39, 40, 13] (fun g => [(13, vi g)]) (fun g => [(b, .cells (hashC bg st rest many taken) 186), (b1, .cells (a32 (wPre rest g)) 240)]) (fun g => g ≤ 16) (fun g => 16 - g) 0 rfl rfl ?_ ?_
  · omega
  intro g j hg
  refine kv ?_
  have hlen := wPre_length rest g
  by_cases hlt : g < 16
  · first | with_reducible refine ks [] uE3_1 ?_ | refine kp uE3_1 ?_
    rw [wPre_set0 rest g]
    refine Cw.loopG (G := Nat) [27, 28, 29, 5, 30, 31, 32, 33, 34, 35, 36, 37, 38, 39, 26] (fun k => [(26, vi k)]) (fun k => [(b, .cells (hashC bg st rest many taken) 186 (0, 0)), (b1, .cells (a32 ((wPre rest g).set g (acc rest g k))) 240 (0, 0))]) (fun k => k ≤ 4) (fun k => 4 - k) 0 rfl rfl ?_ ?_
    · omega
    intro k jk hk
    refine kv ?_
    by_cases hk4 : k < 4
    · first | with_reducible refine ks [] uE3_1 ?_ | refine kp uE3_1 ?_
      exact Again.mk (k + 1) (by omega) (by omega) rfl rfl
    · have hk : k = 4 := by omega
      subst hk
      first | with_reducible refine ks [] uE3_1 ?_ | refine kp uE3_1 ?_
      refine Again.mk (g + 1) (by omega) (by omega) ?_ rfl
      rw [acc_four, wPre_succ]
  · have hg16 : g = 16 := by omega
    subst hg16
    first | with_reducible refine ks [] uE3_1 ?_ | refine kp uE3_1 ?_
    rw [wG_start]
    refine Cw.loopG (G := Nat) [41, 42, 45, 46, 47, 48, 49, 50, 51, 52, 53, 54, 55, 56, 57, 58, 59, 60, 61, 62, 63, 64, 65, 66, 67, 43, 44, 6] (fun g => [(6, vi g)]) (fun g => [(b, .cells (hashC bg st rest many taken) 186 (0, 0)), (b1, .cells (a32 (wG rest g)) 240)]) (fun g => 16 ≤ g ∧ g ≤ 64) (fun g => 64 - g) 16 rfl rfl ?_ ?_
    · omega
    intro g j hg
    refine kv ?_
    obtain ⟨hg1, hg2⟩ := hg
    have hlen := wG_length rest g
    by_cases hlt : g < 64
    · first | with_reducible refine ks [] uE3_1 ?_ | refine kp uE3_1 ?_
      refine Cw.regionO [0, 1, 2, 3, 6, 7, 8, 11, 12, 13, 17, 18, 19, 4, 9, 14, 20, 5, 10, 15, 16, 21, 22, 23] [23] rfl (by kernel_rfl) (by kernel_rfl) ?_
      simp only [nl_cons, ↓pickL_nil, ↓pickL_cons, ↓nthO_0, ↓nthO_s, consO_some]
      refine kq uE3_1 ?_
      refine Ow.callFV rfl Tryd.call157 (fun w' hw' => turn_spec _ _ _ _ (by omega) (by omega) (by omega) w') ?_
      refine kq uE3_1 ?_
      refine Ow.callFV rfl Tryd.call157 (fun w' hw' => turn_spec _ _ _ _ (by omega) (by omega) (by omega) w') ?_
      refine kq uE3_1 ?_
      refine Ow.store rfl rfl rfl (ke uE3_1) ?_
      refine ko uE3_1 ?_
      first | with_reducible refine ks [] uE3_1 ?_ | refine kp uE3_1 ?_
      refine Again.mk (g + 1) (by omega) (by omega) ?_ rfl
      rw [wG_succ rest g hg1, turn1, turn0]; rfl
    · have hg64 : g = 64 := by omega
      subst hg64
      rw [wG_all]
      have hwl := wAll_length rest
      first | with_reducible refine ks [] (And.intro uE3_1 @h1) ?_ | refine kp (And.intro uE3_1 @h1) ?_
      refine Ow.alloc rfl rfl Tryd.zr182 fun b2 hb2 hw2 => ?_
      obtain ⟨h02, h12, -⟩ := hb2
      refine ko (And.intro uE3_1 @h1) ?_
      first | with_reducible refine ks [] (And.intro uE3_1 @h1) ?_ | refine kp (And.intro uE3_1 @h1) ?_
      refine Cw.loopG (G := Nat) [74, 75, 76, 8, 9, 77, 78, 79, 80, 81, 82, 83, 84, 85, 86, 87, 88, 89, 90, 91, 92, 93, 94, 95, 96, 97, 98, 99, 100, 101, 10, 102, 103, 104, 105, 106, 107, 108, 109, 110, 111, 112, 113, 114, 115, 116, 117, 118, 119, 120, 121, 122, 11, 123, 124, 125, 126, 127, 128, 129, 130, 131, 132, 133, 134, 135, 136, 137, 138, 139, 140, 141, 142, 143, 73] (fun g => [(73, vi g)]) (fun g => [(b, .cells (hashC bg st rest many taken) 186 (0, 0)), (b1, .cells (a32 (wAll rest)) 240), (b2, .cells (a32 (rGo st (wAll rest) g)) 182)]) (fun g => g ≤ 64) (fun g => 64 - g) 0 rfl rfl ?_ ?_
      · omega
      · intro g j hg
        refine kv ?_
        have hrl := rGo_length st (wAll rest) g hs
        by_cases hlt : g < 64
        · first | with_reducible refine ks [] uE3_1 ?_ | refine kp uE3_1 ?_
          refine Cw.regionO [0, 2, 6, 8, 11, 14, 19, 21, 22, 1, 3, 7, 9, 10, 12, 13, 15, 16, 17, 23, 4, 5, 18, 20, 24, 25] [] rfl (by kernel_rfl) (by kernel_rfl) ?_
          simp only [nl_cons, ↓pickL_nil, ↓pickL_cons, ↓nthO_0, ↓nthO_s, consO_some]
          refine kq uE3_1 ?_
          refine Ow.callFV rfl Tryd.call158 (fun w' hw' => spin_spec _ _ _ _ (by omega) (by omega) (by omega) w') ?_
          refine kq uE3_1 ?_
          first | with_reducible refine ks [] uE3_1 ?_ | refine kp uE3_1 ?_
          refine Cw.regionO [0, 3, 5, 8, 10, 14, 16, 1, 4, 6, 7, 9, 11, 12, 13, 15, 17, 18, 19, 2, 20, 21] [] rfl (by kernel_rfl) (by kernel_rfl) ?_
          simp only [nl_cons, ↓pickL_nil, ↓pickL_cons, ↓nthO_0, ↓nthO_s, consO_some]
          refine kq uE3_1 ?_
          refine Ow.callFV rfl Tryd.call158 (fun w' hw' => spin_spec _ _ _ _ (by omega) (by omega) (by omega) w') ?_
          refine kq uE3_1 ?_
          first | with_reducible refine ks [] uE3_1 ?_ | refine kp uE3_1 ?_
          rw [spin1, spin0, ch_xor, maj_xor]
          refine Ow.build (.agg (a32 (rStep (rGo st (wAll rest) g) (kL.getD g 0) ((wAll rest).getD g 0)))) rfl (by kernel_rfl) ?_
          have hrl2 : (rStep (rGo st (wAll rest) g) (kL.getD g 0) ((wAll rest).getD g 0)).length = 8 := rfl
          refine ko uE3_1 ?_
          first | with_reducible refine ks [] uE3_1 ?_ | refine kp uE3_1 ?_
          exact Again.mk (g + 1) (by omega) (by omega) rfl rfl
        · have hg64 : g = 64 := by omega
          subst hg64
          first | with_reducible refine ks [] uE3_1 ?_ | refine kp uE3_1 ?_
          rw [← addPre_zero st (rGo st (wAll rest) 64) hs]
          refine Cw.loopG (G := Nat) [145, 146, 12, 147, 148, 149, 150, 151, 152, 153, 154, 155, 156, 157, 158, 159, 160, 144] (fun k => [(144, vi k)]) (fun k => [(b, .cells (hashC bg (addPre st (rGo st (wAll rest) 64) k) rest many taken) 186 (0, 0)), (b1, .cells (a32 (wAll rest)) 240), (b2, .cells (a32 (rGo st (wAll rest) 64)) 182)]) (fun k => k ≤ 8) (fun k => 8 - k) 0 rfl rfl ?_ ?_
          · omega
          intro k jk hk
          refine kv ?_
          have hal := addPre_length st (rGo st (wAll rest) 64) k
          by_cases hk8 : k < 8
          · first | with_reducible refine ks [] uE3_1 ?_ | refine kp uE3_1 ?_
            refine Cw.regionO [0, 1, 2, 3, 4, 6, 7, 10, 11, 5, 8, 9, 12, 13] [13] rfl (by kernel_rfl) (by kernel_rfl) ?_
            simp only [nl_cons, ↓pickL_nil, ↓pickL_cons, ↓nthO_0, ↓nthO_s, consO_some]
            refine kq uE3_1 ?_
            refine Ow.store rfl rfl rfl (ke uE3_1) ?_
            refine ko uE3_1 ?_
            first | with_reducible refine ks [] uE3_1 ?_ | refine kp uE3_1 ?_
            refine Again.mk (k + 1) (by omega) (by omega) ?_ rfl
            rw [← addPre_succ, addPre_get _ _ _ _ (by omega), if_neg (by omega)]
          · have hk8' : k = 8 := by omega
            subst hk8'
            first | with_reducible refine ks [] uE3_1 ?_ | refine kp uE3_1 ?_
            refine ⟨_, _, _, (ke uE3_1), rfl, ⟨hw1, hw2, trivial⟩, ?_⟩
            exact ⟨rfl, rfl⟩
end Go.Proofs
end
section
open Go Go.Proofs Go.Sx Go.Dig
namespace Go.Proofs
set_option maxRecDepth 10000
set_option maxHeartbeats 1000000
set_option linter.unusedSimpArgs false
theorem ofInt_nat (n : Nat) : UInt64.ofInt (n : Int) = UInt64.ofNat n := by
  apply UInt64.toNat.inj
  rw [show UInt64.ofInt (n : Int) = UInt64.ofNat ((n : Int) % 2 ^ 64).toNat from rfl, UInt64.toNat_ofNat', UInt64.toNat_ofNat']
  omega
theorem nil45 (b o : Nat) : binX Tryd.prog .eql 213 (vp b o) (.pointer none) = some (.bool false) := by
  simp [binX, eqX, plainV, eqNilV, Tryd.underlying213, vp]
theorem nil45' : binX Tryd.prog .eql 213 (.pointer none) (.pointer none) = some (.bool true) := by
  simp [binX, eqX, plainV, eqNilV, Tryd.underlying213]
theorem nil45n (b o : Nat) : binX Tryd.prog .neq 213 (vp b o) (.pointer none) = some (.bool true) := by
  simp [binX, eqX, plainV, eqNilV, Tryd.underlying213, vp]
theorem nil45n' : binX Tryd.prog .neq 213 (.pointer none) (.pointer none) = some (.bool false) := by
  simp [binX, eqX, plainV, eqNilV, Tryd.underlying213]
set_option linter.defProp false
def uE4_1 := And.intro (And.intro (And.intro (And.intro (@load_hash0) (@load_hashS)) (And.intro (@load_hashR) (And.intro (@load_hashR2) (@load_hashM)))) (And.intro (And.intro (@load_hashT) (@load_hashSt)) (And.intro (@load_hashAll) (And.intro (@store_hashAll) (@store_hash0))))) (And.intro (And.intro (And.intro (@store_hashS) (@store_hashR)) (And.intro (@store_hashM) (And.intro (@store_hashT) (@store_hashSt)))) (And.intro (And.intro (@getD_set_same) (@nil45)) (And.intro (@nil45') (And.intro (@nil45n) (@nil45n')))))
theorem begin_spec (b : Nat) (bg : Bool) (st : List UInt32) (rest : List UInt8) (many : Int) (taken : UInt64) (w : World) (hG : GlobE w) (hb : 3 < b) (hs : st.length = 8) (hr : rest.length = 64)
    (ho : w.heap[b]? = some (.cells (hashC bg st rest many taken) 186 (0, 0))) :
    Rets Tryd.prog 136 #[vp b 0] w (fun v D => ∃ o, D = [(b, o)] ∧ v = .tuple #[] ∧ o = .cells (hashC true (if bg then st else initL) rest many taken) 186 (0, 0)) := by
  obtain ⟨e0, e1, f0, f1, h0, h1⟩ := hG
  have hil : initL.length = 8 := rfl
  refine Rets.enterM Tryd.func136 rfl (rs := []) Tryd.results136 Tryd.ntmps136 ho ?_
  refine kf ?_
  cases bg
  · first | with_reducible refine ks [] (And.intro uE4_1 @h0) ?_ | refine kp (And.intro uE4_1 @h0) ?_
    refine ⟨_, _, _, (ke uE4_1), rfl, trivial, ?_⟩
    exact ⟨rfl, rfl⟩
  · first | with_reducible refine ks [] (And.intro uE4_1 @h0) ?_ | refine kp (And.intro uE4_1 @h0) ?_
    refine ⟨_, _, _, (ke uE4_1), rfl, trivial, ?_⟩
    exact ⟨rfl, rfl⟩
theorem put_spec (b : Nat) (s : Hs) (taken : UInt64) (x : UInt8) (w : World) (hG : GlobE w) (hb : 3 < b) (hs : s.Ok)
    (ho : w.heap[b]? = some (.cells (hashH s taken) 186 (0, 0))) :
    Rets Tryd.prog 137 #[vp b 0, v8 x] w (fun v D => ∃ o, D = [(b, o)] ∧ v = .tuple #[] ∧ o = .cells (hashH (hput s x) taken) 186 (0, 0)) := by
  obtain ⟨st, rest, many⟩ := s
  obtain ⟨hst, hrt, hmn⟩ := hs
  simp only [hashH] at ho hst hrt hmn ⊢
  refine Rets.enterM Tryd.func137 rfl (rs := []) Tryd.results137 Tryd.ntmps137 ho ?_
  refine kf ?_
  first | with_reducible refine ks [] uE4_1 ?_ | refine kp uE4_1 ?_
  refine Cw.regionO [0, 1, 2, 3, 5, 6, 7, 4, 8, 9] [9] rfl (by kernel_rfl) (by kernel_rfl) ?_
  simp only [nl_cons, ↓pickL_nil, ↓pickL_cons, ↓nthO_0, ↓nthO_s, consO_some]
  refine kq uE4_1 ?_
  refine Ow.store rfl rfl rfl (ke uE4_1) ?_
  refine ko uE4_1 ?_
  first | with_reducible refine ks [] uE4_1 ?_ | refine kp uE4_1 ?_
  unfold hput
  by_cases h64 : many + 1 = 64
  · simp only [h64, ↓reduceIte]
    have h64' : (many : Int) + 1 = 64 := by omega
    have h63 : many = 63 := by omega
    subst h63
    rw [cd_it _ _ _ _ _ _ (by omega)]
    first | with_reducible refine ks [] uE4_1 ?_ | refine kp uE4_1 ?_
    refine Ow.callM rfl rfl Tryd.call151 (by simp [keys]) (fun w' hw' => take_spec _ _ _ _ _ _ w' (GlobE.of hG hw' (by simp [keys]; omega)) hb hst (by simp [hrt]) (hw'.has _ _ List.mem_cons_self)) ?_
    refine ko uE4_1 ?_
    first | with_reducible refine ks [] uE4_1 ?_ | refine kp uE4_1 ?_
    refine ⟨_, _, _, (ke uE4_1), rfl, trivial, ?_⟩
    exact ⟨rfl, rfl⟩
  · rw [cd_if _ _ _ _ _ _ (by omega)]
    simp only [h64, ↓reduceIte]
    first | with_reducible refine ks [] uE4_1 ?_ | refine kp uE4_1 ?_
    refine ⟨_, _, _, (ke uE4_1), rfl, trivial, ?_⟩
    exact ⟨rfl, by rw [if_neg h64]; simp⟩
theorem write_spec1 (b : Nat) (bg : Bool) (s : Hs) (taken : UInt64) (x : Value) (b2 off : Nat) (l : List (List UInt8)) (arr : Array Value) (E : TypeId) (fz : Nat × Nat) (w : World) (hG : GlobE w) (hb : 3 < b) (hs : s.Ok) (hne : 0 < l.length → b ≠ b2)
    (hS : StrS w x l b2 off arr E fz) (hn : l.length < 1099511627776) (hz : ∀ i, i < l.length → (l.getD i []).length < 1099511627776)
    (ho : w.heap[b]? = some (.cells (hashC bg s.st s.rest s.many taken) 186 (0, 0))) :
    Rets Tryd.prog 110 #[vp b 0, x] w (fun v D => ∃ o, D = [(b, o)] ∧ v = .tuple #[] ∧ o = .cells (hashH (hputs (hbegin bg s) l.flatten) (takenL taken l)) 186 (0, 0)) := by
  obtain ⟨e0, e1, f0, f1, h0, h1⟩ := id hG
  obtain ⟨st, rest, many⟩ := s
  obtain ⟨hst, hrt, hmn⟩ := id hs
  simp only [hashH] at ho hst hrt hmn ⊢
  refine Rets.enterM Tryd.func110 rfl (rs := []) Tryd.results110 Tryd.ntmps110 ho ?_
  refine kf ?_
  first | with_reducible refine ks [] uE4_1 ?_ | refine kp uE4_1 ?_
  refine Ow.callM rfl rfl Tryd.call136 (by simp [keys]) (fun w' hw' => begin_spec _ _ _ _ _ _ w' (GlobE.of hG hw' (by simp [keys]; omega)) hb hst hrt (hw'.has _ _ List.mem_cons_self)) ?_
  refine ko uE4_1 ?_
  ((try with_reducible refine Cw.go [] ?_); (try simp (disch := (first | assumption | omega | (simp only [lenS, lenT, UInt64.reduceToNat]; try omega))) only [↓Sx.S0, Sx.S1, Tryd.fx, uE4_1, Nat.reduceAdd, Nat.reducePow, Int.reducePow, Nat.reduceBEq, ↓reduceIte, UInt8.reduceToNat, UInt16.reduceToNat, UInt32.reduceToNat, UInt64.reduceToNat, Int.reduceToNat, hS.len]))
  have e : hashC true (if bg = true then st else initL) rest many taken = hashH (hputs (hbegin bg ⟨st, rest, many⟩) (l.take 0).flatten) (takenL taken (l.take 0)) := by cases bg <;> rfl
  rw [e]
  have hok0 := hbegin_ok bg hs
  generalize hbegin bg ⟨st, rest, many⟩ = S0 at *
  refine Cw.loopG (G := Nat) [14, 15, 16, 5, 17, 18, 19, 20, 21, 6, 22, 23, 24, 25, 26, 27, 28, 29, 30, 31, 32, 33, 34, 35, 36, 37, 38, 13] (fun g => [(13, vi g)]) (fun g => [(b, .cells (hashH (hputs S0 (l.take g).flatten) (takenL taken (l.take g))) 186 (0, 0))]) (fun g => g ≤ l.length) (fun g => l.length - g) 0 rfl rfl ?_ ?_
  · omega
  intro g j hg
  refine kv ?_
  by_cases hlt : g < l.length
  · have hlg := hS.get g hlt
    have hb2 := hS.has (by omega)
    have hne2 := hne (by omega)
    have hzg := hz g hlt
    ((try with_reducible refine Cw.go [] ?_); (try simp (disch := (first | assumption | omega | (simp only [lenS, lenT, UInt64.reduceToNat]; try omega))) only [↓Sx.S0, Sx.S1, Tryd.fx, uE4_1, Nat.reduceAdd, Nat.reducePow, Int.reducePow, Nat.reduceBEq, ↓reduceIte, UInt8.reduceToNat, UInt16.reduceToNat, UInt32.reduceToNat, UInt64.reduceToNat, Int.reduceToNat, Sx.loadV_one, hb2, hlg, hS.idx]))
    have hok := hputs_ok (l.take g).flatten hok0
    rw [show hashH (hputs S0 (l.take g).flatten) (takenL taken (l.take g)) = hashH (hputs (hputs S0 (l.take g).flatten) ((l.getD g []).take 0)) (takenL taken (l.take g)) from rfl]
    refine Cw.loopG (G := Nat) [20, 21, 6, 22, 23, 24, 25, 26, 27, 19] (fun k => [(19, vi k)]) (fun k => [(b, .cells (hashH (hputs (hputs S0 (l.take g).flatten) ((l.getD g []).take k)) (takenL taken (l.take g))) 186 (0, 0))]) (fun k => k ≤ (l.getD g []).length) (fun k => (l.getD g []).length - k) 0 rfl rfl ?_ ?_
    · omega
    intro k jk hk
    refine kv ?_
    by_cases hlk : k < (l.getD g []).length
    · first | with_reducible refine ks [] uE4_1 ?_ | refine kp uE4_1 ?_
      refine Ow.callM rfl rfl Tryd.call137 (by simp [keys]) (fun w' hw' => put_spec _ _ _ _ w' (GlobE.of hG hw' (by simp [keys]; omega)) hb (hputs_ok _ hok) (hw'.has _ _ List.mem_cons_self)) ?_
      refine ko uE4_1 ?_
      first | with_reducible refine ks [] uE4_1 ?_ | refine kp uE4_1 ?_
      refine Again.mk (k + 1) (by omega) (by omega) ?_ rfl
      rw [hputs_succ _ _ _ hlk]
    · have hke : k = (l.getD g []).length := by omega
      subst hke
      have hok2 := hputs_ok (l.getD g []) hok
      have hok3 := hok2.st
      have hok4 := hok2.rest
      rw [List.take_length]
      unfold hashH
      first | with_reducible refine ks [] uE4_1 ?_ | refine kp uE4_1 ?_
      refine Again.mk (g + 1) (by omega) (by omega) ?_ rfl
      rw [flatten_succ _ _ hlt, hputs_append, takenL_succ _ _ _ hlt, show UInt64.ofInt ((l.getD g []).length : Int) = UInt64.ofNat (l.getD g []).length from ofInt_nat _]
  · have hge : g = l.length := by omega
    subst hge
    first | with_reducible refine ks [] uE4_1 ?_ | refine kp uE4_1 ?_
    rw [List.take_length]
    refine ⟨_, _, _, (ke uE4_1), rfl, trivial, ?_⟩
    exact ⟨rfl, rfl⟩
end Go.Proofs
end
namespace Go.Dig
open Go.Sx
/-- The places that are filled with noughts. -/
def zeros (m : Nat) : Nat := (120 - m) % 64
def lenB (t : UInt64) (g : Nat) : UInt8 := UInt8.ofNat (shr_u64 (8 * t) (56 - 8 * g)).toNat
def len8 (t : UInt64) : List UInt8 := (List.range 8).map (lenB t)
def outB (st : List UInt32) (j : Nat) : UInt8 := UInt8.ofNat (shr_u32 (st.getD (j / 4) 0) (24 - 8 * (j % 4))).toNat
def outPre (st : List UInt32) (k : Nat) : List UInt8 := (List.range 32).map fun j => if j < k then outB st j else 0
def padded (s : Hs) (taken : UInt64) : Hs := hputs (hputs (hput s 128) (List.replicate (zeros (hput s 128).many) 0)) (len8 taken)
def hsum (s : Hs) (taken : UInt64) : List UInt8 := outPre (padded s taken).st 32
def H0 : Hs := ⟨initL, List.replicate 64 0, 0⟩
theorem H0_ok : H0.Ok := ⟨rfl, by simp [H0], by show (0 : Nat) < 64; omega⟩
def sumV (l : List (List UInt8)) : List UInt8 := hsum (hputs H0 l.flatten) (takenL 0 l)
theorem hput_many {s : Hs} (x : UInt8) (h : s.Ok) : (hput s x).many = (s.many + 1) % 64 := by
  have := h.many
  unfold hput
  split
  · show 0 = _; omega
  · show s.many + 1 = _; omega
theorem hputs_many {s : Hs} (l : List UInt8) (h : s.Ok) : (hputs s l).many = (s.many + l.length) % 64 := by
  induction l generalizing s with
  | nil => have := h.many; show s.many = _; simp; omega
  | cons x r ih =>
    show (hputs (hput s x) r).many = _
    rw [ih (hput_ok x h), hput_many x h, List.length_cons]; omega
theorem hputs_rep (s : Hs) (x : UInt8) (j : Nat) : hputs s (List.replicate (j + 1) x) = hput (hputs s (List.replicate j x)) x := by
  rw [List.replicate_succ', hputs_append]; rfl
theorem outPre_length (st : List UInt32) (k : Nat) : (outPre st k).length = 32 := by simp [outPre]
theorem outPre_zero (st : List UInt32) : outPre st 0 = List.replicate 32 0 := by
  apply List.ext_getElem
  · simp [outPre]
  intro k hk1 hk2
  simp only [outPre, List.getElem_map, List.getElem_range, List.getElem_replicate]
  rw [if_neg (by omega)]
theorem outPre_succ (st : List UInt32) (k : Nat) : (outPre st k).set k (outB st k) = outPre st (k + 1) := by
  apply List.ext_getElem
  · simp [outPre]
  intro j hk1 hk2
  rw [List.getElem_set]
  by_cases h : k = j
  · subst h; simp [outPre]
  · rw [if_neg h]
    simp only [outPre, List.getElem_map, List.getElem_range]
    by_cases h1 : j < k
    · rw [if_pos h1, if_pos (by omega)]
    · rw [if_neg h1, if_neg (by omega)]
theorem outB_at (st : List UInt32) (i r : Nat) (h : r < 4) : outB st (4 * i + r) = UInt8.ofNat (shr_u32 (st.getD i 0) (24 - 8 * r)).toNat := by
  unfold outB
  rw [show (4 * i + r) / 4 = i by omega, show (4 * i + r) % 4 = r by omega]
theorem shr_u32_zero (x : UInt32) : shr_u32 x 0 = x := by
  apply UInt32.toNat.inj
  have := x.toNat_lt
  rw [shr_u32, UInt32.toNat_ofNat']
  simp
theorem outPre_four (st : List UInt32) (i : Nat) :
    ((((outPre st (4 * i)).set (4 * i) (UInt8.ofNat (shr_u32 (st.getD i 0) 24).toNat)).set (4 * i + 1) (UInt8.ofNat (shr_u32 (st.getD i 0) 16).toNat)).set (4 * i + 2) (UInt8.ofNat (shr_u32 (st.getD i 0) 8).toNat)).set (4 * i + 3) (UInt8.ofNat (st.getD i 0).toNat) = outPre st (4 * (i + 1)) := by
  have h0 := outB_at st i 0 (by omega)
  have h1 := outB_at st i 1 (by omega)
  have h2 := outB_at st i 2 (by omega)
  have h3 := outB_at st i 3 (by omega)
  rw [Nat.add_zero] at h0
  rw [show 24 - 8 * 3 = 0 from rfl, shr_u32_zero] at h3
  rw [← h3, ← h2, ← h1, ← h0, outPre_succ, outPre_succ, outPre_succ, outPre_succ]
  rw [show 4 * (i + 1) = 4 * i + 1 + 1 + 1 + 1 by omega]
theorem len8_length (t : UInt64) : (len8 t).length = 8 := by simp [len8]
theorem len8_getD (t : UInt64) (g : Nat) (h : g < 8) : (len8 t).getD g 0 = lenB t g := by simp [len8, List.getD_eq_getElem?_getD, h]
end Go.Dig
section
open Go Go.Proofs Go.Sx Go.Dig
namespace Go.Proofs
set_option maxRecDepth 10000
set_option maxHeartbeats 1000000
set_option linter.unusedSimpArgs false
set_option linter.defProp false
def uE5_1 := And.intro (And.intro (And.intro (And.intro (@load_hash0) (@load_hashS)) (And.intro (@load_hashR) (And.intro (@load_hashR2) (@load_hashM)))) (And.intro (And.intro (@load_hashT) (@load_hashSt)) (And.intro (@load_hashAll) (And.intro (@store_hashAll) (@store_hash0))))) (And.intro (And.intro (And.intro (@store_hashS) (@store_hashR)) (And.intro (@store_hashM) (And.intro (@store_hashT) (@store_hashSt)))) (And.intro (And.intro (@getD_set_same) (@nil45)) (And.intro (@nil45') (And.intro (@nil45n) (@nil45n')))))
theorem zrHash : zeroV Tryd.prog 186 = some (.agg (hashC false (List.replicate 8 0) (List.replicate 64 0) 0 0)) := id (by kernel_rfl)
theorem cells_hash (bg : Bool) (st : List UInt32) (rest : List UInt8) (many : Int) (taken : UInt64) : Value.cells (.agg (hashC bg st rest many taken)) = hashC bg st rest many taken := cells_agg _
theorem store_hashHash {bg bg' : Bool} {st st' : List UInt32} {rest rest' : List UInt8} {many many' : Int} {taken taken' : UInt64} {E : TypeId} (h : st.length = 8 ∧ rest.length = 64 ∧ st'.length = 8 ∧ rest'.length = 64) :
    storeV (some (true, 75)) (some (.cells (hashC bg' st' rest' many' taken') E (0, 0))) 0 (.agg (hashC bg st rest many taken)) = some (.cells (hashC bg st rest many taken) E (0, 0)) :=
  store_hashAll _ ⟨h.1, h.2.1, hash_size h.2.2⟩
theorem hsum_spec (b : Nat) (bg : Bool) (s : Hs) (taken : UInt64) (w : World) (hG : GlobE w) (hb : 3 < b) (hs : s.Ok)
    (ho : w.heap[b]? = some (.cells (hashC bg s.st s.rest s.many taken) 186 (0, 0))) :
    Rets Tryd.prog 111 #[vp b 0] w (fun v D => v = .agg (a8 (hsum (hbegin bg s) taken)) ∧ D = []) := by
  obtain ⟨e0, e1, f0, f1, h0, h1⟩ := id hG
  obtain ⟨st, rest, many⟩ := s
  obtain ⟨hst, hrt, hmn⟩ := id hs
  simp only at ho hst hrt hmn ⊢
  refine Rets.enterV Tryd.func111 rfl (rs := [.cell 2 54]) Tryd.results111 Tryd.ntmps111 ?_
  refine kf ?_
  first | with_reducible refine ks [] uE5_1 ?_ | refine kp uE5_1 ?_
  refine Ow.alloc rfl rfl Tryd.zr54 fun b1 hb1 hw1 => ?_
  refine ko uE5_1 ?_
  first | with_reducible refine ks [] uE5_1 ?_ | refine kp uE5_1 ?_
  refine Ow.alloc rfl rfl zrHash fun b2 hb2 hw2 => ?_
  obtain ⟨h12, -⟩ := hb2
  have hbl := (Array.getElem?_eq_some_iff.1 ho).1
  rw [cells_hash]
  refine ko uE5_1 ?_
  first | with_reducible refine ks [] (And.intro uE5_1 ( And.intro @ho (@store_hashHash))) ?_ | refine kp (And.intro uE5_1 ( And.intro @ho (@store_hashHash))) ?_
  refine Ow.callM rfl rfl Tryd.call136 (by simp [keys]) (fun w' hw' => begin_spec _ _ _ _ _ _ w' (GlobE.of hG hw' (by simp [keys]; omega)) (by omega) hst hrt (hw'.has _ _ (List.mem_cons_of_mem _ List.mem_cons_self))) ?_
  refine ko uE5_1 ?_
  first | with_reducible refine ks [] uE5_1 ?_ | refine kp uE5_1 ?_
  have e : hashC true (if bg = true then st else initL) rest many taken = hashH (hbegin bg ⟨st, rest, many⟩) taken := by cases bg <;> rfl
  rw [e]
  have hok0 := hbegin_ok bg hs
  generalize hbegin bg ⟨st, rest, many⟩ = S0 at *
  refine Ow.callM rfl rfl Tryd.call137 (by simp [keys]) (fun w' hw' => put_spec _ _ _ 128 w' (GlobE.of hG hw' (by simp [keys]; omega)) (by omega) hok0 (hw'.has _ _ (List.mem_cons_of_mem _ List.mem_cons_self))) ?_
  refine ko uE5_1 ?_
  have hok1 := hput_ok 128 hok0
  have ep : padded S0 taken = hputs (hputs (hput S0 128) (List.replicate (zeros (hput S0 128).many) 0)) (len8 taken) := rfl
  unfold hsum
  rw [ep]
  generalize hput S0 128 = S1 at *
  first | with_reducible refine ks [] uE5_1 ?_ | refine kp uE5_1 ?_
  rw [show hashH S1 taken = hashH (hputs S1 (List.replicate 0 0)) taken from rfl]
  have hz : (S1.many + zeros S1.many) % 64 = 56 ∧ zeros S1.many < 64 := by have := hok1.many; unfold zeros; omega
  refine Cw.loopG (G := Nat) [15, 16, 17, 18] (fun g => []) (fun g => [(b1, .cells (a8 (List.replicate 32 0)) 54 (0, 0)), (b2, .cells (hashH (hputs S1 (List.replicate g 0)) taken) 186 (0, 0))]) (fun g => g ≤ zeros S1.many) (fun g => zeros S1.many - g) 0 rfl rfl ?_ ?_
  · omega
  intro g j hg
  refine kv ?_
  have hokg := hputs_ok (List.replicate g 0) hok1
  have hm := hputs_many (List.replicate g 0) hok1
  rw [List.length_replicate] at hm
  have hg1 := hokg.st
  have hg2 := hokg.rest
  by_cases hlt : g < zeros S1.many
  · have hzz : (S1.many + g) % 64 ≠ 56 := by have := hok1.many; unfold zeros at hlt; omega
    unfold hashH
    first | with_reducible refine ks [] uE5_1 ?_ | refine kp uE5_1 ?_
    refine Ow.callM rfl rfl Tryd.call137 (by simp [keys]) (fun w' hw' => put_spec _ _ _ 0 w' (GlobE.of hG hw' (by simp [keys]; omega)) (by omega) hokg (hw'.has _ _ (List.mem_cons_of_mem _ List.mem_cons_self))) ?_
    refine ko uE5_1 ?_
    first | with_reducible refine ks [] uE5_1 ?_ | refine kp uE5_1 ?_
    refine Again.mk (g + 1) (by omega) (by omega) ?_ rfl
    rw [hputs_rep]; rfl
  · have hge : g = zeros S1.many := by omega
    subst hge
    unfold hashH
    first | with_reducible refine ks [] uE5_1 ?_ | refine kp uE5_1 ?_
    generalize hputs S1 (List.replicate (zeros S1.many) 0) = S2 at *
    rw [show hashC true S2.st S2.rest S2.many taken = hashH (hputs S2 ((len8 taken).take 0)) taken from rfl]
    have h8 := len8_length taken
    refine Cw.loopG (G := Nat) [19, 20, 23, 24, 25, 26, 27, 28, 29, 21, 22, 4] (fun k => [(4, vi (56 - 8 * k))]) (fun k => [(b1, .cells (a8 (List.replicate 32 0)) 54 (0, 0)), (b2, .cells (hashH (hputs S2 ((len8 taken).take k)) taken) 186 (0, 0))]) (fun k => k ≤ 8) (fun k => 8 - k) 0 rfl rfl ?_ ?_
    · omega
    intro k jk hk
    refine kv ?_
    have hokk := hputs_ok ((len8 taken).take k) hokg
    have hk1 := hokk.st
    have hk2 := hokk.rest
    by_cases hk8 : k < 8
    · unfold hashH
      first | with_reducible refine ks [] uE5_1 ?_ | refine kp uE5_1 ?_
      rw [show (56 - 8 * (k : Int)).toNat = 56 - 8 * k from by omega]
      refine Ow.callM rfl rfl Tryd.call137 (by simp [keys]) (fun w' hw' => put_spec _ _ _ (lenB taken k) w' (GlobE.of hG hw' (by simp [keys]; omega)) (by omega) hokk (hw'.has _ _ (List.mem_cons_of_mem _ List.mem_cons_self))) ?_
      refine ko uE5_1 ?_
      first | with_reducible refine ks [] uE5_1 ?_ | refine kp uE5_1 ?_
      refine Again.mk (k + 1) (by omega) (by omega) ?_ ?_
      · rw [hputs_succ _ _ _ (by omega), len8_getD _ _ hk8]; rfl
      · rw [show (56 - 8 * ((k + 1 : Nat) : Int)) = 56 - 8 * (k : Int) - 8 from by omega]; rfl
    · have hke : k = 8 := by omega
      subst hke
      first | with_reducible refine ks [] uE5_1 ?_ | refine kp uE5_1 ?_
      rw [List.take_of_length_le (show (len8 taken).length ≤ 8 by omega)] at *
      generalize hputs S2 (len8 taken) = S3 at *
      refine Ow.alloc rfl rfl Tryd.zr54 fun b3 hb3 hw3 => ?_
      obtain ⟨h13, h23, -⟩ := hb3
      unfold hashH
      refine ko uE5_1 ?_
      first | with_reducible refine ks [] uE5_1 ?_ | refine kp uE5_1 ?_
      rw [show a8 (List.replicate 32 0) = a8 (outPre S3.st (4 * 0)) from by rw [outPre_zero]]
      have h3s := (hputs_ok (len8 taken) hokg).st
      have hS3 : S3.st.length = 8 := hk1
      refine Cw.loopG (G := Nat) [33, 34, 35, 6, 7, 36, 37, 38, 39, 40, 41, 42, 43, 44, 45, 46, 47, 48, 49, 50, 51, 52, 53, 54, 55, 56, 57, 58, 59, 60, 61, 62, 32] (fun i => [(32, vi i)]) (fun i => [(b1, .cells (a8 (outPre S3.st (4 * 0))) 54 (0, 0)), (b2, .cells (hashC true S3.st S3.rest S3.many taken) 186 (0, 0)), (b3, .cells (a8 (outPre S3.st (4 * i))) 54 (0, 0))]) (fun i => i ≤ 8) (fun i => 8 - i) 0 rfl rfl ?_ ?_
      · omega
      intro i ji hi
      refine kv ?_
      have hol := outPre_length S3.st (4 * i)
      have hol0 := outPre_length S3.st (4 * 0)
      by_cases hi8 : i < 8
      · first | with_reducible refine ks [] uE5_1 ?_ | refine kp uE5_1 ?_
        refine Again.mk (i + 1) (by omega) (by omega) ?_ rfl
        rw [outPre_four]
      · have hie : i = 8 := by omega
        subst hie
        first | with_reducible refine ks [] uE5_1 ?_ | refine kp uE5_1 ?_
        rw [show 4 * 8 = 32 from rfl]
        refine ⟨_, (ke uE5_1), ⟨hw1, hw2, hw3, trivial⟩, ?_⟩
        rfl
end Go.Proofs
end
section
open Go Go.Proofs Go.Sx Go.Dig
namespace Go.Proofs
set_option maxRecDepth 10000
set_option maxHeartbeats 1000000
set_option linter.unusedSimpArgs false
set_option linter.defProp false
def uE6_1 := And.intro (And.intro (And.intro (And.intro (@load_hash0) (@load_hashS)) (And.intro (@load_hashR) (And.intro (@load_hashR2) (@load_hashM)))) (And.intro (And.intro (@load_hashT) (@load_hashSt)) (And.intro (@load_hashAll) (And.intro (@store_hashAll) (@store_hash0))))) (And.intro (And.intro (And.intro (@store_hashS) (@store_hashR)) (And.intro (@store_hashM) (And.intro (@store_hashT) (@store_hashSt)))) (And.intro (And.intro (@getD_set_same) (@nil45)) (And.intro (@nil45') (And.intro (@nil45n) (@nil45n')))))
theorem dsum_spec (x : Value) (b2 off : Nat) (l : List (List UInt8)) (arr : Array Value) (E : TypeId) (fz : Nat × Nat) (w : World) (hG : GlobE w)
    (hS : StrS w x l b2 off arr E fz) (hn : l.length < 1099511627776) (hz : ∀ i, i < l.length → (l.getD i []).length < 1099511627776) :
    Rets Tryd.prog 98 #[x] w (fun v D => v = .agg (a8 (sumV l)) ∧ D = []) := by
  obtain ⟨e0, e1, f0, f1, h0, h1⟩ := id hG
  have hg1 : 3 < w.heap.size := (Array.getElem?_eq_some_iff.1 h1).1
  have hbl : 0 < l.length → b2 < w.heap.size := fun h => (Array.getElem?_eq_some_iff.1 (hS.has h)).1
  refine Rets.enterV Tryd.func98 rfl (rs := [.cell 2 54]) Tryd.results98 Tryd.ntmps98 ?_
  refine kf ?_
  first | with_reducible refine ks [] uE6_1 ?_ | refine kp uE6_1 ?_
  refine Ow.alloc rfl rfl Tryd.zr54 fun b1 hb1 hw1 => ?_
  refine ko uE6_1 ?_
  first | with_reducible refine ks [] uE6_1 ?_ | refine kp uE6_1 ?_
  refine Ow.alloc rfl rfl zrHash fun b3 hb3 hw3 => ?_
  obtain ⟨h13, -⟩ := hb3
  rw [cells_hash]
  refine ko uE6_1 ?_
  first | with_reducible refine ks [] uE6_1 ?_ | refine kp uE6_1 ?_
  refine Ow.callM rfl rfl Tryd.call110 (by simp [keys]) (fun w' hw' => write_spec1 _ _ ⟨List.replicate 8 0, List.replicate 64 0, 0⟩ _ _ _ _ _ _ _ _ w' (GlobE.of hG hw' (by simp [keys]; omega)) (by omega) ⟨by simp, by simp, by simp⟩ (fun h => by have := hbl h; omega) (hS.old hw' (fun h => by have := hbl h; simp [keys]; omega)) hn hz (hw'.has _ _ (List.mem_cons_of_mem _ List.mem_cons_self))) ?_
  refine ko uE6_1 ?_
  first | with_reducible refine ks [] uE6_1 ?_ | refine kp uE6_1 ?_
  have hok := hputs_ok l.flatten H0_ok
  have e : hbegin false ⟨List.replicate 8 0, List.replicate 64 0, 0⟩ = H0 := rfl
  rw [e]
  refine Ow.callFV rfl Tryd.call111 (fun w' hw' => hsum_spec _ true _ _ w' (GlobE.of hG hw' (by simp [keys]; omega)) (by omega) hok (hw'.has _ _ (List.mem_cons_of_mem _ List.mem_cons_self))) ?_
  have hsl : (hsum (hbegin true (hputs H0 l.flatten)) (takenL 0 l)).length = 32 := outPre_length _ _
  refine ko uE6_1 ?_
  first | with_reducible refine ks [] uE6_1 ?_ | refine kp uE6_1 ?_
  refine ⟨_, (ke uE6_1), ⟨hw1, hw3, trivial⟩, ?_⟩
  rfl
end Go.Proofs
end
namespace Go.Dig
open Go.Sx
/-- The bits' number, cut byte by byte. -/
def quoN (t : UInt64) : Nat → UInt64
  | 0 => t
  | n + 1 => quoN t n / 256
def lenBB (t : UInt64) (j : Nat) : UInt8 := UInt8.ofNat (shr_u64 t (56 - 8 * j)).toNat
def tailPre (t : UInt64) (i : Nat) : List UInt8 := (List.range 8).map fun j => if 8 ≤ j + i then lenBB t j else 0
/-- The text that the document cuts into blocks. -/
def padR (m : List UInt8) : List UInt8 := m ++ [128] ++ List.replicate (zeros ((m.length + 1) % 64)) 0 ++ len8 (UInt64.ofNat m.length)
/-- The document's digest. -/
def shaR (m : List UInt8) : List UInt8 := outPre (comps initL (padR m) ((padR m).length / 64)) 32
end Go.Dig
section
open Go Go.Proofs Go.Sx Go.Dig
namespace Go.Proofs
set_option maxRecDepth 10000
set_option maxHeartbeats 1000000
set_option linter.unusedSimpArgs false
set_option linter.defProp false
def uE7_1 := @getD_set_same
end Go.Proofs
end
section
open Go Go.Proofs Go.Sx Go.Dig
namespace Go.Proofs
set_option maxRecDepth 10000
set_option maxHeartbeats 1000000
set_option linter.unusedSimpArgs false
set_option linter.defProp false
def uE8_1 := @getD_set_same
end Go.Proofs
end
namespace Go.Dig
open Go.Sx
structure Inv (s : Hs) (p : List UInt8) : Prop where
  ok : s.Ok
  st : s.st = comps initL p (p.length / 64)
  many : s.many = p.length % 64
  rest : s.rest.take s.many = p.drop (64 * (p.length / 64))
theorem Inv.put {s : Hs} {p : List UInt8} (h : Inv s p) (x : UInt8) : Inv (hput s x) (p ++ [x]) := by
  obtain ⟨hok, hst, hmany, hrest⟩ := h
  have hk := hput_ok x hok
  have hm64 := hok.many
  have hrl := hok.rest
  have hle : 64 * (p.length / 64) ≤ p.length := by omega
  have htake : (s.rest.set s.many x).take (s.many + 1) = p.drop (64 * (p.length / 64)) ++ [x] := by
    rw [List.take_add_one, List.take_set, ← hrest]
    congr 1
    · rw [List.set_eq_of_length_le (by simp only [List.length_take]; exact Nat.min_le_left _ _)]
    · simp [hrl, hm64]
  have hlen : (p ++ [x]).length = p.length + 1 := by simp
  have hc : comps initL (p ++ [x]) (p.length / 64) = comps initL p (p.length / 64) := comps_append _ _ _ _ hle
  by_cases h64 : s.many + 1 = 64
  · have e : hput s x = ⟨comp s.st (s.rest.set s.many x), s.rest.set s.many x, 0⟩ := by unfold hput; rw [if_pos h64]
    have hd : (p.length + 1) / 64 = p.length / 64 + 1 := by omega
    have hr : (s.rest.set s.many x) = p.drop (64 * (p.length / 64)) ++ [x] := by
      rw [← htake, h64, List.take_of_length_le (by simp [hrl])]
    refine ⟨hk, ?_, ?_, ?_⟩
    · rw [e, hlen, hd]
      show comp s.st _ = comp (comps initL (p ++ [x]) (p.length / 64)) _
      rw [hc, ← hst, hr, List.drop_append_of_le_length hle, List.take_of_length_le (by simp; omega)]
    · rw [e, hlen]; show 0 = _; omega
    · rw [e, hlen]
      show List.take 0 _ = _
      rw [List.take_zero, List.drop_of_length_le (by rw [hlen]; omega)]
  · have e : hput s x = ⟨s.st, s.rest.set s.many x, s.many + 1⟩ := by unfold hput; rw [if_neg h64]
    have hd : (p.length + 1) / 64 = p.length / 64 := by omega
    refine ⟨hk, ?_, ?_, ?_⟩
    · rw [e, hlen, hd, hc]; exact hst
    · rw [e, hlen]; show s.many + 1 = _; omega
    · rw [e, hlen, hd]
      show List.take (s.many + 1) (s.rest.set s.many x) = _
      rw [htake, List.drop_append_of_le_length hle]
theorem Inv.puts {s : Hs} {p : List UInt8} (h : Inv s p) (l : List UInt8) : Inv (hputs s l) (p ++ l) := by
  induction l generalizing s p with
  | nil => rw [List.append_nil]; exact h
  | cons x r ih =>
    have := ih (h.put x)
    rw [List.append_assoc] at this
    exact this
theorem Inv.zero : Inv H0 [] := ⟨H0_ok, rfl, rfl, rfl⟩
theorem hputs_st (p : List UInt8) : (hputs H0 p).st = comps initL p (p.length / 64) := (Inv.zero.puts p).st
theorem takenL_eq (l : List (List UInt8)) (n : Nat) : takenL (UInt64.ofNat n) l = UInt64.ofNat (n + l.flatten.length) := by
  induction l generalizing n with
  | nil => rfl
  | cons a r ih =>
    show takenL (UInt64.ofNat n + UInt64.ofNat a.length) r = _
    rw [← UInt64.ofNat_add, ih, List.flatten_cons, List.length_append, Nat.add_assoc]
theorem hsum_eq (m : List UInt8) : hsum (hputs H0 m) (UInt64.ofNat m.length) = shaR m := by
  unfold hsum shaR
  rw [← hputs_st]
  suffices h : padded (hputs H0 m) (UInt64.ofNat m.length) = hputs H0 (padR m) by rw [h]
  have hmany : (hput (hputs H0 m) 128).many = (m.length + 1) % 64 := by
    have := ((Inv.zero.puts m).put 128).many
    rw [this]; simp
  unfold padded padR
  rw [hmany, hputs_append, hputs_append, hputs_append, show hputs (hputs H0 m) [128] = hput (hputs H0 m) 128 from rfl]
theorem sumV_eq (l : List (List UInt8)) : sumV l = shaR l.flatten := by
  unfold sumV
  have := takenL_eq l 0
  rw [Nat.zero_add] at this
  rw [show (0 : UInt64) = UInt64.ofNat 0 from rfl, this, hsum_eq]
end Go.Dig
section
open Go Go.Proofs Go.Sx Go.StP
namespace Go.Proofs
set_option maxRecDepth 10000
set_option maxHeartbeats 400000
set_option linter.unusedSimpArgs false
/-! ### Ids of objects -/
theorem GlobE.new {w0 w : World} {L : Heap} (hg : GlobE w0) (h : Hp w0 L w) (hn : New w0.heap.size L) : GlobE w := by
  obtain ⟨e0, e1, f0, f1, h0, h1⟩ := id hg
  have : 3 < w0.heap.size := (Array.getElem?_eq_some_iff.1 h1).1
  exact hg.of h fun b hb => by have := hn.le b hb; omega
theorem frameB_lenR {k : Int} {t : List UInt8} (h : RdOk k t = true) : (frameB k t).length < 100000 := by
  obtain ⟨h1, h2, h3⟩ := RdOk_in h
  have hh : (headB k).length ≤ 4 := by unfold headB; simp only [List.length_drop, List.length_take, List.length_cons, List.length_nil]; omega
  have := numL_clamp_len (t.length : Int)
  unfold frameB textL
  rw [List.length_append, List.length_append]
  omega
theorem shaR_len (m : List UInt8) : (Dig.shaR m).length = 32 := Dig.outPre_length _ _
set_option linter.defProp false
def uRA_c3d_1 := And.intro (And.intro (And.intro (@load_ob) (@load_ob0)) (And.intro (@load_ob1) (@store_ob))) (And.intro (And.intro (@Sx.tup2_0) (@Sx.tup2_1)) (And.intro (@rdIn_v8) (@rdIn_vi)))
def idV (k : Int) (t : List UInt8) : IdL := if RdOk k t then ⟨Dig.shaR (frameB k t), shaR_len _⟩ else id0
theorem build_idZ : buildV (plcT Tryd.prog 54) (zeroV Tryd.prog 54) [] = some (.agg (a8 id0.l)) := id (by kernel_rfl)
theorem IdO_spec (k : Int) (t : List UInt8) (w : World) (hG : GlobE w) : Rets Tryd.prog 65 #[obV k t] w (fun v D => v = .tuple #[.agg (a8 (idV k t).l), .bool (RdOk k t)] ∧ D = []) := by
  refine Rets.enterV Tryd.func65 rfl (rs := [.cell 2 54, .tmp 3]) Tryd.results65 Tryd.ntmps65 ?_
  refine kf ?_
  first | with_reducible refine ks [] uRA_c3d_1 ?_ | refine kp uRA_c3d_1 ?_
  refine Ow.box rfl rfl fun b1 hb1 hw1 => ?_
  simp only [ev_tmp, getF_0, getF_s, cells_agg, List.nil_append]
  refine ko uRA_c3d_1 ?_
  refine Ow.alloc rfl rfl zrIdE fun b2 hb2 hw2 => ?_
  simp only [cells_agg, List.nil_append, List.cons_append]
  have h12 : b1 < b2 := above_to hb2 (by simp [keys])
  have hi0 := id0.h
  refine ko uRA_c3d_1 ?_
  refine Ow.callC rfl rfl Tryd.call97 (fun w' hw' => FrameO_spec k t w') (fun B v D hA hB hN hS => ?_)
  have hD : New w.heap.size D := New.mono hB hN
  unfold idV
  cases hr : RdOk k t
  · rw [hr, if_neg (by decide)] at hS
    subst hS
    have e : ((1 : Int) != 0) = true := rfl
    refine ko uRA_c3d_1 ?_
    first | with_reducible refine ks [] (And.intro uRA_c3d_1 @e) ?_ | refine kp (And.intro uRA_c3d_1 @e) ?_
    refine Ow.build (.agg (a8 id0.l)) rfl build_idZ ?_
    refine ko uRA_c3d_1 ?_
    first | with_reducible refine ks [] uRA_c3d_1 ?_ | refine kp uRA_c3d_1 ?_
    refine ⟨_, (ke uRA_c3d_1), ⟨hw1, hw2, hD⟩, ?_⟩
    rfl
  · rw [hr, if_pos rfl] at hS
    subst hS
    have e : ((0 : Int) != 0) = false := rfl
    have hfl := frameB_lenR hr
    have hzl : ∀ i, i < [frameB k t].length → ([frameB k t].getD i []).length < 1099511627776 := fun i hi => by
      obtain rfl : i = 0 := by simpa using hi
      show (frameB k t).length < _; omega
    refine ko uRA_c3d_1 ?_
    first | with_reducible refine ks [] (And.intro uRA_c3d_1 @e) ?_ | refine kp (And.intro uRA_c3d_1 @e) ?_
    refine Ow.buildSlice (e := 9) #[vs (frameB k t)] rfl rfl (by kernel_rfl) fun b15 hb15 hw15 => ?_
    refine ko uRA_c3d_1 ?_
    refine Ow.callFV rfl Tryd.call98 (fun w' hw' => dsum_spec _ b15 0 [frameB k t] _ _ _ w' (hG.new hw' (by exact ⟨hw1, hw2, New.app hD ⟨hw15, trivial⟩⟩)) (StrS.lit [frameB k t] rfl rfl (hw'.has _ (.cells #[vs (frameB k t)] 9 (0, 0)) (by simp))) (by show (1 : Nat) < 1099511627776; omega) hzl) ?_
    rw [Dig.sumV_eq, show ([frameB k t] : List (List UInt8)).flatten = frameB k t by simp]
    have hsl := shaR_len (frameB k t)
    refine ko uRA_c3d_1 ?_
    first | with_reducible refine ks [] uRA_c3d_1 ?_ | refine kp uRA_c3d_1 ?_
    refine ⟨_, (ke uRA_c3d_1), ⟨hw1, hw2, hD.app ⟨hw15, trivial⟩⟩, ?_⟩
    rfl
/-! ### The law's frames and ids -/
def frameL (k : Int) (t : List UInt8) : List UInt8 := (if k = 3 then [99] else if k = 2 then [116] else [98]) ++ textL t
end Go.Proofs
end
section
open Go Go.Proofs Go.Sx Go.StP Go.Flo
namespace Go.Proofs
set_option maxRecDepth 10000
set_option maxHeartbeats 400000
set_option linter.unusedSimpArgs false
/-! ### What a pack's parts hold: plain laws -/
structure ObL where
  k : Int
  t : List UInt8
def ob0 : ObL := ⟨0, []⟩
def obC (o : ObL) : List Value := [vi o.k, vs o.t]
theorem obC_len (o : ObL) : (obC o).length = 2 := rfl
theorem obC_one (o : ObL) : (obC o).all Value.oneCell' = true := rfl
/-- An object that is read of a frame. -/
def readV (s : List UInt8) : ObL := ⟨if frOk s then frK s else 0, if frOk s then (frT s).1 else []⟩
def idOf (s : List UInt8) : IdL := idV (readV s).k (readV s).t
/-- Texts' ids and objects, behind others. -/
def fillGo : List (List UInt8) → List IdL → List ObL → Option (List IdL × List ObL)
  | [], ids, os => some (ids, os)
  | s :: r, ids, os => if frOk s = true ∧ (ids.any fun y => (idOf s).l == y.l) = false then fillGo r (ids ++ [idOf s]) (os ++ [readV s]) else none
/-- What 'fill' finds. -/
def fillV (l : List PartL) : Option (List IdL × List ObL) := match allV l with
  | .ok ts => fillGo ts [] []
  | .error _ => none
theorem fillGo_app : ∀ (a b : List (List UInt8)) (ids : List IdL) (os : List ObL), fillGo (a ++ b) ids os = (fillGo a ids os).bind fun p => fillGo b p.1 p.2
  | [], _, _, _ => rfl
  | s :: a, b, ids, os => by
    rw [List.cons_append, fillGo, fillGo]
    split
    · exact fillGo_app a b _ _
    · rfl
theorem fillGo_len : ∀ (a : List (List UInt8)) (ids : List IdL) (os : List ObL) (p : List IdL × List ObL), fillGo a ids os = some p → p.1.length = ids.length + a.length ∧ p.2.length = os.length + a.length
  | [], ids, os, p, h => by cases h; simp
  | s :: a, ids, os, p, h => by
    rw [fillGo] at h
    split at h
    · have := fillGo_len a _ _ p h
      simp only [List.length_append, List.length_cons, List.length_nil] at this ⊢
      omega
    · cases h
/-- One more text. -/
theorem fillGo_snoc {a : List (List UInt8)} {s : List UInt8} {p : List IdL × List ObL} (h : fillGo a [] [] = some p) :
    fillGo (a ++ [s]) [] [] = if frOk s = true ∧ (p.1.any fun y => (idOf s).l == y.l) = false then some (p.1 ++ [idOf s], p.2 ++ [readV s]) else none := by
  rw [fillGo_app, h]
  show fillGo [s] p.1 p.2 = _
  rw [fillGo]
  rfl
theorem fillGo_none {a b : List (List UInt8)} (h : fillGo a [] [] = none) : fillGo (a ++ b) [] [] = none := by
  rw [fillGo_app, h]; rfl
end Go.Proofs
end
namespace Go.Sx
open Go
section
variable {P : Program} {w0 : World} {l : List Oper} {R ts : List Nat} {n : Nat} {listed : List Bool} {f : Fr} {L : Heap} {N : Fr → Heap → Prop}
/-- The rest of a region that asks the tape: n operations, of which these are listed; till something of 'ts' comes, what is read stays. -/
def OwG (P : Program) (w0 : World) (l : List Oper) (R ts : List Nat) (n : Nat) (listed : List Bool) (f : Fr) (L : Heap) (N : Fr → Heap → Prop) : Prop :=
  ∀ w, Hp w0 L w → wpAnyG P l.toArray (postN w0 N) ts (SR w0 R L) n listed.toArray (act f) w
theorem Cw.regionG {id : Nat} {K : Kont} (R ts : List Nat) (m : Nat) (hl : l.length = m) (hm : P.follows .mixedOrders = true) (h : OwG P w0 l R ts m (List.replicate m false) f L (K .normal)) : Cw P w0 (.region id l.toArray true) f L K := by
  intro w hw
  subst hl
  refine wp_mono (wp_region_any hm ?_) fun _ _ _ h => postN_post h
  have := wpAny_of_G _ _ _ _ (h _ hw.drew)
  simpa using this
/-- Values that come at once. -/
def chkG (P : Program) (l : List Oper) (ts : List Nat) : List Nat → List Bool → Option (List Bool)
  | [], listed => some listed
  | k :: is, listed =>
    match nthO l k with
    | some o => if !ts.contains k && (ts.all fun t => !listed.toArray.getD t true) && (Region.ready .any l.toArray listed.toArray).contains k && Region.free .any l.toArray listed.toArray k &&
        (pureK P o.op || (readK o.op && waitsB l.toArray ts listed.toArray k)) then chkG P l ts is (listed.set k true) else none
    | none => none
theorem OwG.step {k : Nat} {o : Oper} {v : Value} (hns : Region.noSelect l.toArray = true) (hk : nthO l k = some o) {rest : List Bool} (hc : chkG P l ts [k] listed = some rest)
    (hY : YieldsC P l.toArray (SR w0 R L) (pureK P o.op = true) o v (act f)) (h : OwG P w0 l R ts n rest (putF f o.dst v) L N) : OwG P w0 l R ts (n + 1) listed f L N := by
  have hoi : l.toArray[k]? = some o := by rw [nthO_eq] at hk; simpa using hk
  unfold chkG at hc
  rw [hk] at hc
  simp only at hc
  split at hc
  · rename_i hcc
    simp only [chkG, Option.some.injEq] at hc
    subst hc
    simp only [Bool.and_eq_true, Bool.or_eq_true, Bool.not_eq_true', List.all_eq_true, List.contains_eq_mem, decide_eq_true_eq, decide_eq_false_iff_not] at hcc
    obtain ⟨⟨⟨⟨c2, c3⟩, c4⟩, c5⟩, c9⟩ := hcc
    have hsel := Region.noSelect_spec hns
    intro w hw
    refine G_first hoi c2 hsel (fun c a w h => postN_panic h) _ _ _ _ (first_of (P := P) hoi c4 c5 (c9.imp id fun h => ⟨h.1, h.2, fun t ht => c3 t ht⟩)) (.inr fun t ht => c3 t ht) hY ?_
    rw [act_put, set_toArray]
    exact h w hw
  · cases hc
theorem chkG_cons {k : Nat} {is : List Nat} {listed listed' : List Bool} (h : chkG P l ts (k :: is) listed = some listed') : chkG P l ts [k] listed = some (listed.set k true) ∧ chkG P l ts is (listed.set k true) = some listed' := by
  rw [chkG] at h
  cases ho : nthO l k with
  | none => rw [ho] at h; cases h
  | some o =>
    rw [ho] at h
    simp only at h
    split at h
    · rename_i hcc
      refine ⟨?_, h⟩
      rw [chkG, ho]
      simp only
      rw [if_pos hcc]; rfl
    · cases h
theorem OwG.runs {k : Md → List Oper → Fr → Heap → Prop} (hns : Region.noSelect l.toArray = true) : ∀ (is : List Nat) {listed listed' : List Bool} {f : Fr} {L : Heap}, chkG P l ts is listed = some listed' →
    (∀ md r f' L', k md r f' L' → r = [] ∧ OwG P w0 l R ts n listed' f' L' N) → vcL P w0 l.toArray false (.sof R [] []) (pickL l is) f L k → OwG P w0 l R ts (is.length + n) listed f L N
  | [], listed, listed', f, L, hc, hk, h => by
    cases hc
    rw [List.length_nil, Nat.zero_add]
    exact (hk _ _ _ _ h).2
  | i :: is, listed, listed', f, L, hc, hk, h => by
    obtain ⟨hc1, hc2⟩ := chkG_cons hc
    rw [pickL_cons] at h
    cases ho : nthO l i with
    | none => unfold chkG at hc1; rw [ho] at hc1; cases hc1
    | some o =>
      rw [ho, consO_some] at h
      unfold vcL at h
      rw [List.length_cons, show is.length + 1 + n = (is.length + n) + 1 by omega]
      cases hs : skipped l.toArray f o with
      | true =>
        rw [hs] at h
        have hw0 : Region.wanted o (yielded l.toArray (act f).tmps) = false := by rw [wanted_eq, hs]; rfl
        exact OwG.step hns ho hc1 (v := undef) (.inr ⟨hw0, rfl⟩) (OwG.runs hns is hc2 hk h)
      | false =>
        rw [hs] at h
        have hw0 : Region.wanted o (yielded l.toArray (act f).tmps) = true := by rw [wanted_eq, hs]; rfl
        simp only [ib, vcB] at h
        split at h
        · cases hrd : rdOk (.sof R [] []) f o.op with
          | false => rw [hrd] at h; exact absurd (hk _ _ _ _ h).1 (by simp)
          | true =>
            rw [hrd] at h
            simp only at h
            cases hv : evalV P w0 L f o.op with
            | none => rw [hv] at h; exact absurd (hk _ _ _ _ h).1 (by simp)
            | some v =>
              rw [hv] at h
              refine OwG.step hns ho hc1 (v := v) (.inl ⟨hw0, fun w hw => ?_⟩) (OwG.runs hns is hc2 hk h)
              rw [act_eval']
              rcases hw with hp | hw
              · exact run_evalV (Hp.refl w) (evalV_pure hp hv w)
              · exact run_evalV (Hp.refl w) (evalV_reads hrd hv hw)
        · exact absurd (hk _ _ _ _ h).1 (by simp)
        · exact absurd (hk _ _ _ _ h).1 (by simp)
theorem OwG.run (is : List Nat) (listed' : List Bool) (n : Nat) {m : Nat} (hm : m = is.length + n) (hns : Region.noSelect l.toArray = true) (hc : chkG P l ts is listed = some listed')
    (h : ∀ k : Md → List Oper → Fr → Heap → Prop, (∀ md f L, OwG P w0 l R ts n listed' f L N → k md [] f L) → nl (pickL l is) fun l' => vcL P w0 l.toArray false (.sof R [] []) l' f L k) : OwG P w0 l R ts m listed f L N := by
  subst hm
  refine OwG.runs (k := fun _ r f' L' => r = [] ∧ OwG P w0 l R ts n listed' f' L' N) hns is hc (fun _ _ _ _ h => h) ?_
  exact h _ fun _ _ _ h => ⟨rfl, h⟩
def softsG (l : List Oper) (ts : List Nat) (ks : List Nat) (listed : List Bool) : Bool :=
  ((Region.ready .any l.toArray listed.toArray).all fun i => ks.contains i) && (Region.ready .any l.toArray listed.toArray != []) && ks.all fun k => !ts.contains k
/-- One of some operations is next. -/
theorem OwG.softs (ks : List Nat) (hs : softsG l ts ks listed = true)
    (h : ∀ k, k ∈ ks → ∀ o, nthO l k = some o → Ow P w0 l.toArray .seq [o] f L (fun f' L' => (∀ r, r ∈ R → readB w0 L' r = readB w0 L r) ∧ OwG P w0 l R ts n (listed.set k true) f' L' N)) :
    OwG P w0 l R ts (n + 1) listed f L N := by
  unfold softsG at hs
  simp only [Bool.and_eq_true, List.all_eq_true, bne_iff_ne, ne_eq, List.contains_eq_mem, decide_eq_true_eq, Bool.not_eq_true', decide_eq_false_iff_not] at hs
  obtain ⟨⟨c3, c4⟩, c6⟩ := hs
  intro w hw
  refine ⟨fun _ => SR.of hw, fun hr => absurd hr c4, fun i hi => ?_⟩
  have hik := c3 i hi
  obtain ⟨-, oi, hoi, -⟩ := mem_ready.1 hi
  have hni : nthO l i = some oi := by rw [nthO_eq]; simpa using hoi
  refine wpOp_of hoi (X := wpAnyG P l.toArray (postN w0 N) ts (SR w0 R L) n (listed.toArray.setIfInBounds i true)) ?_ hw
  intro w' hw'
  have h1 := h i hik oi hni w' hw'
  refine wpList_mono1 ?_ h1
  rintro f' L' ⟨hS, hO⟩ w'' hw''
  rw [SR_congr hS, set_toArray]
  exact hO w'' hw''
theorem OwG.one (i : Nat) (oi : Oper) (hs : softsG l ts [i] listed = true) (hi : nthO l i = some oi)
    (h : Ow P w0 l.toArray .seq [oi] f L (fun f' L' => (∀ r, r ∈ R → readB w0 L' r = readB w0 L r) ∧ OwG P w0 l R ts n (listed.set i true) f' L' N)) : OwG P w0 l R ts (n + 1) listed f L N :=
  OwG.softs [i] hs fun k hk o ho => by
    rw [List.mem_singleton] at hk
    subst hk
    rw [hi] at ho
    cases ho
    exact h
theorem OwG.two (i j : Nat) (oi oj : Oper) (hs : softsG l ts [i, j] listed = true) (hi : nthO l i = some oi) (hj : nthO l j = some oj)
    (h1 : Ow P w0 l.toArray .seq [oi] f L (fun f' L' => (∀ r, r ∈ R → readB w0 L' r = readB w0 L r) ∧ OwG P w0 l R ts n (listed.set i true) f' L' N))
    (h2 : Ow P w0 l.toArray .seq [oj] f L (fun f' L' => (∀ r, r ∈ R → readB w0 L' r = readB w0 L r) ∧ OwG P w0 l R ts n (listed.set j true) f' L' N)) : OwG P w0 l R ts (n + 1) listed f L N :=
  OwG.softs [i, j] hs fun k hk o ho => by
    simp only [List.mem_cons, List.not_mem_nil, or_false] at hk
    rcases hk with rfl | rfl
    · rw [hi] at ho; cases ho; exact h1
    · rw [hj] at ho; cases ho; exact h2
/-- The known blocks in another order. -/
theorem OwG.permL {M : Heap} (hp : M.Perm L) (hR : ∀ r, r ∈ R → readB w0 M r = readB w0 L r) (h : OwG P w0 l R ts n listed f M N) : OwG P w0 l R ts n listed f L N := by
  intro w hw
  rw [SR_congr hR]
  exact h w (hw.perm hp)
/-- The check of an order from here. -/
def restG (P : Program) (l : List Oper) (is ts : List Nat) (listed : List Bool) : Bool :=
  Region.noSelect l.toArray && orderB P l.toArray ts is listed.toArray && ts.all fun t => !listed.toArray.getD t true
/-- From here in one order. -/
theorem OwG.rest (is : List Nat) {m : Nat} (hm : m = is.length) (hB : restG P l is ts listed = true) (hl : is.map (fun i : Nat => l[i]?) = (pickL l is).map some)
    (h : nl (pickL l is) fun l' => Ow P w0 l.toArray (.sof R is ts) l' f L N) : OwG P w0 l R ts m listed f L N := by
  subst hm
  revert hl h
  generalize pickL l is = l'
  intro hl h w hw
  simp only [restG, Bool.and_eq_true, List.all_eq_true, Bool.not_eq_true'] at hB
  obtain ⟨⟨h1, h4⟩, h5⟩ := hB
  have hlen : is.length = l'.length := by have := congrArg List.length hl; simpa using this
  have hF : Fits P l.toArray ts is l' listed.toArray := ⟨hlen, fun j => by
    have := congrArg (·[j]?) hl
    simp only [List.getElem?_map] at this
    cases hj : is[j]? with
    | none =>
      rw [hj] at this
      simp only [Option.map_none] at this
      cases hj' : l'[j]? with
      | none => rfl
      | some x => rw [hj'] at this; cases this
    | some i =>
      rw [hj] at this
      simp only [Option.map_some] at this
      cases hj' : l'[j]? with
      | none => rw [hj'] at this; cases this
      | some x =>
        rw [hj'] at this
        simp only [Option.map_some, Option.some.injEq] at this
        simp [this], h1, h4⟩
  rw [hlen]
  exact (h : Ow P w0 l.toArray (.sof R is ts) l' f L N) listed.toArray hF (fun t ht => h5 t ht) w hw
end
/-! ### What holds between two statements, the rest of the frame as it was -/
def CutO {G : Type} (M : List Nat) (S : G → List (Nat × Value)) (H : G → Heap) (J : G → Prop) (f f' : Fr) (L' : Heap) : Prop :=
  ∃ g, J g ∧ L' = H g ∧ f' = pin (overFrom (getF f') M 0 f) (S g)
theorem CutO.mk {G : Type} {M : List Nat} {S : G → List (Nat × Value)} {H : G → Heap} {J : G → Prop} {f f' : Fr} {L' : Heap} (g : G) (hJ : J g) (hL : L' = H g) (hf : f' = pin (overFrom (getF f') M 0 f) (S g)) : CutO M S H J f f' L' := ⟨g, hJ, hL, hf⟩
theorem Cw.cutO {P : Program} {w0 : World} {x y : Code} {f : Fr} {L : Heap} {K : Kont} {G : Type} (M : List Nat) (S : G → List (Nat × Value)) (H : G → Heap) (J : G → Prop) (h1 : Cw P w0 x f L (thenK (CutO M S H J f) K))
    (h2 : ∀ (g : G) (j : Nat → Value), J g → Cw P w0 y (pin (overFrom j M 0 f) (S g)) (H g) K) : Cw P w0 (.seq x y) f L K := by
  refine Cw.seq (h1.mono fun e f' L' k => ?_)
  cases e with
  | normal =>
    obtain ⟨g, hJ, rfl, hf⟩ := k
    have := h2 g (getF f') hJ
    rw [← hf] at this
    exact this
  | _ => exact k
end Go.Sx
section
open Go Go.Proofs Go.Sx Go.StP Go.Flo
namespace Go.Proofs
set_option maxRecDepth 10000
set_option maxHeartbeats 400000
set_option linter.unusedSimpArgs false
/-! ### pack.fill -/
def pkO (v0 v1 v2 v3 : Value) : Obj := .cells #[v0, v1, v2, v3] 73 (0, 0)
theorem load_pk0 (v0 v1 v2 v3 : Value) (n : Nat) : loadV (some (false, n)) (some (pkO v0 v1 v2 v3)) 0 = some v0 := (rfl)
theorem load_pk1 (v0 v1 v2 v3 : Value) (n : Nat) : loadV (some (false, n)) (some (pkO v0 v1 v2 v3)) 1 = some v1 := (rfl)
theorem load_pk2 (v0 v1 v2 v3 : Value) (n : Nat) : loadV (some (false, n)) (some (pkO v0 v1 v2 v3)) 2 = some v2 := (rfl)
theorem load_pk3 (v0 v1 v2 v3 : Value) (n : Nat) : loadV (some (false, n)) (some (pkO v0 v1 v2 v3)) 3 = some v3 := (rfl)
theorem store_pk2 (v0 v1 v2 v3 q : Value) (a : Bool) (hq : Value.oneCell' q = true ∧ q.cells = #[q]) : storeV (some (a, 1)) (some (pkO v0 v1 v2 v3)) 2 q = some (pkO v0 v1 q v3) :=
  store_mid [v0, v1] [v2] [q] [v3] a _ 73 rfl rfl hq.2 rfl (by simp [hq.1])
theorem store_pk3 (v0 v1 v2 v3 q : Value) (a : Bool) (hq : Value.oneCell' q = true ∧ q.cells = #[q]) : storeV (some (a, 1)) (some (pkO v0 v1 v2 v3)) 3 q = some (pkO v0 v1 v2 q) :=
  store_mid [v0, v1, v2] [v3] [q] [] a _ 73 rfl rfl hq.2 rfl (by simp [hq.1])
/-- A delta that can be read has so many bytes at most. -/
theorem numR_step {s : List UInt8} {a : Nat} {most : Int} (ha : a ≤ s.length) (h : (numR s a 0 most).2.2 = 0) : (numR s a 0 most).2.1 ≤ a + 6 := by
  have hl := numR_le (e := 0) (most := most) ha
  obtain ⟨n, -, hb, -, hd⟩ := numR_canon h
  have h6 := numL_len_lt 6 n (by omega) (by omega)
  have := congrArg List.length hd
  simp only [List.length_drop, List.length_append] at this
  omega
theorem pcR_step {d : List UInt8} {a : Nat} (ha : a ≤ d.length) (h : (pcR d a).2.2 = 0) : (pcR d a).2.1 ≤ a + 4111 := by
  have hl := numR_le (s := d) (a := a) (e := 0) (most := 8199) ha
  have hm := numR_mostE (s := d) (a := a) (e := 0) (most := 8199) (by omega)
  have hz : (numR d a 0 8199).2.2 = 0 := by
    by_cases he : (numR d a 0 8199).2.2 = 0
    · exact he
    · unfold pcR at h
      split at h
      · have := numR_e (s := d) (a := (numR d a 0 8199).2.1) (most := 4099) he
        simp only [this] at h
        exact absurd h he
      · have := rawR_e (s := d) (a := (numR d a 0 8199).2.1) (n := (numR d a 0 8199).1 / 2) he
        simp only [this] at h
        exact absurd h he
  have h1 := numR_step ha hz
  unfold pcR at h ⊢
  split
  · rename_i hc
    rw [if_pos hc] at h
    simp only at h ⊢
    rw [hz] at h ⊢
    have := numR_step hl.2 h
    omega
  · rename_i hc
    rw [if_neg hc] at h
    simp only at h ⊢
    rw [hz] at h ⊢
    unfold rawR at h ⊢
    rw [if_neg (by simp)] at h ⊢
    split at h
    · cases h
    · rename_i h2
      rw [if_neg h2]
      split at h
      · cases h
      · rename_i h3
        rw [if_neg h3]
        simp only
        omega
theorem pcs_step {d : List UInt8} : ∀ (k a : Nat), d.length - a ≤ k → a ≤ d.length → (pcs d a).2.2 = 0 → (pcs d a).2.1 ≤ a + (pcs d a).1.length * 4111
  | k, a, hk, ha, h => by
    by_cases hlt : a < d.length
    · by_cases he : (pcR d a).2.2 = 0
      · have hu := pcR_up ha he
        have hl := pcR_le ha
        have hs := pcR_step ha he
        rw [pcs_ok hlt he] at h ⊢
        cases k with
        | zero => omega
        | succ k =>
          have := pcs_step k _ (by omega) hl.2 h
          simp only [List.length_cons]
          omega
      · rw [pcs_err hlt he] at h
        exact absurd h he
    · rw [pcs_end hlt]; simp
theorem deltaR_len {d : List UInt8} {p : Nat × List PcL} (h : deltaR d = some p) : d.length ≤ 17000000 := by
  unfold deltaR at h
  split at h
  · cases h
  · rename_i h1
    split at h
    · cases h
    · rename_i h2
      split at h
      · rename_i h3
        have l1 := numR_le (s := d) (a := 0) (e := 0) (most := 4099) (Nat.zero_le _)
        have l2 := numR_le (s := d) (a := (numR d 0 0 4099).2.1) (e := (numR d 0 0 4099).2.2) (most := 4099) l1.2
        have e1 : (numR d 0 0 4099).2.2 = 0 := Decidable.byContradiction fun hn => by rw [numR_e hn] at h1; exact h1 hn
        have s1 := numR_step (Nat.zero_le _) e1
        have s2 : (numR d (numR d 0 0 4099).2.1 (numR d 0 0 4099).2.2 4099).2.1 ≤ (numR d 0 0 4099).2.1 + 6 := by
          rw [e1] at h1 ⊢
          exact numR_step l1.2 (by omega)
        obtain ⟨-, -, -, -, -, hc⟩ := chkV_ok h3
        have s3 := pcs_step _ _ (Nat.le_refl _) l2.2 (by omega)
        have s4 := pcs_at _ _ (Nat.le_refl _) l2.2 (by omega)
        have : (pcs d (numR d (numR d 0 0 4099).2.1 (numR d 0 0 4099).2.2 4099).2.1).1.length * 4111 ≤ 4099 * 4111 := Nat.mul_le_mul_right _ hc
        omega
      · cases h
/-- A delta's text has so many bytes at most. -/
theorem applyV_len {b d : List UInt8} (h : (applyV b d).2 = 0) : (applyV b d).1.length ≤ 4099 := by
  unfold applyV at h ⊢
  split
  · simp
  · rename_i p hp
    rw [hp] at h
    simp only at h ⊢
    split
    · simp
    · rename_i hb
      obtain ⟨m, hm⟩ := deltaR_chk hp
      rw [show p.1 = b.length by omega] at hm
      have hk : chkV (b.length : Nat) p.2 = (((sumP (b.length : Nat) p.2 : Nat) : Int), (0 : Int)) := by
        unfold chkV at hm ⊢
        split at hm
        · cases hm
        · rename_i h1
          rw [if_neg h1]
          split at hm
          · cases hm
          · rename_i h2
            rw [if_neg h2]
            split at hm
            · cases hm
            · rename_i h3; rw [if_neg h3]
      obtain ⟨-, -, h1, h2, -⟩ := chkV_ok hk
      show (txtP b p.2).length ≤ 4099
      rw [txtP_len h1]
      exact h2
theorem partV_len {l : List PartL} {a : Int} {s : List UInt8} (h : partV l a = .ok s) : s.length ≤ 4099 := by
  unfold partV at h
  cases hp : pathV l a with
  | error e => rw [hp] at h; cases h
  | ok p =>
    rw [hp] at h
    change foldT l p = .ok s at h
    cases p with
    | nil => cases h; simp
    | cons x p =>
      unfold foldT at h
      cases hf : foldT l p with
      | error e => rw [hf] at h; cases h
      | ok t =>
        rw [hf] at h
        change (if (textV (l.getD x part0) t).2 = 0 then _ else _) = _ at h
        split at h
        · rename_i h0
          cases h
          unfold textV at h0 ⊢
          split
          · rename_i hd; rw [if_pos hd] at h0; exact applyV_len h0
          · rename_i hd
            split
            · simp
            · show (l.getD x part0).x.length ≤ 4099; omega
        · cases h
theorem allV_len {l : List PartL} {ts : List (List UInt8)} (h : allV l = .ok ts) : ts.length = l.length ∧ l.length ≤ 200 ∧ ∀ k, k < ts.length → (ts.getD k []).length ≤ 4099 := by
  unfold allV at h
  split at h
  · cases h
  · have := allGo_len _ _ h
    exact ⟨this, by omega, fun k hk => partV_len (allGo_at _ _ h k (by omega))⟩
/-- Texts in a slice among some blocks. -/
theorem gri_str {D : Heap} {E : TypeId} {v : Value} {l : List (List UInt8)} (h : GrI D E 1 v l.length (l.map strC).flatten) (hn : (keys D).Nodup) : l.length = 0 ∨ ∃ b c rest, v = vsl b 0 l.length c ∧ b ∈ keys D ∧ Sx.look D b = some (rowO strC E rest l) := by
  obtain ⟨X, hX, h | ⟨h0, -⟩⟩ := h
  · rcases h.inv with ⟨-, h0, -⟩ | ⟨b, c, rest, rfl, hl, h1, h2, h3, h4⟩
    · exact .inl h0
    · exact .inr ⟨b, c, rest, rfl, List.mem_map_of_mem (f := Prod.fst) (hX _ (look_mem hl)), look_of_mem hn (hX _ (look_mem hl))⟩
  · exact .inl h0
theorem load_str {E : TypeId} {rest : List Value} {l : List (List UInt8)} (n i : Nat) (hi : i < l.length) : loadV (some (false, n)) (some (rowO strC E rest l)) i = some (vs (l.getD i [])) := by
  unfold rowO loadV
  have e : (l.map strC).flatten = l.map vs := by
    clear hi
    induction l with
    | nil => rfl
    | cons a l ih => rw [List.map_cons, List.flatten_cons, List.map_cons, ih]; rfl
  simp only [e]
  rw [List.getElem?_toArray, List.getElem?_append_left (by simpa using hi), List.getElem?_map, List.getElem?_eq_getElem hi, List.getD_eq_getElem?_getD, List.getElem?_eq_getElem hi]
  rfl
theorem gri_len {D : Heap} {E : TypeId} {m n : Nat} {v : Value} {cs : List Value} (h : GrI D E m v n cs) (x : Bool × Nat) : lenV (.sl x) v = some (vi n) := by
  obtain ⟨X, -, h⟩ := h; exact h.len x
/-- What fill leaves. -/
def FillS (l : List PartL) (bp : Nat) (v0 v1 : Value) (v : Value) (D : Heap) : Prop := match fillV l with
  | some p => v = .bool true ∧ ∃ x2 x3 D', D = (bp, pkO v0 v1 x2 x3) :: D' ∧ GrI D' 54 32 x2 p.1.length (p.1.map idLC).flatten ∧ GrI D' 36 2 x3 p.2.length (p.2.map obC).flatten
  | none => v = .bool false
theorem one_has {w : World} {a : Nat} {x : Obj} (h : w.heap[a]? = some x) : ∀ p : Nat × Obj, p ∈ [(a, x)] → w.heap[p.1]? = some p.2 := by
  intro p hp
  rw [List.mem_singleton] at hp
  subst hp
  exact h
theorem ext_one {w : World} {b : Nat} {o o' : Obj} {D : Heap} (h : New w.heap.size D) : Ext w [(b, o)] (D ++ [(b, o')]) := ⟨fun c hc => by
  rw [keys_app] at hc
  rcases List.mem_append.1 hc with hc | hc
  · exact .inr (h.le c hc)
  · exact .inl hc, fun c hc => by rw [keys_app]; exact List.mem_append_right _ hc⟩
theorem ext_head {w : World} {b : Nat} {o o' : Obj} {D : Heap} (h : New w.heap.size D) : Ext w [(b, o)] ((b, o') :: D) := ⟨fun c hc => by
  rcases List.mem_cons.1 hc with hc | hc
  · exact .inl (by rw [hc]; exact List.mem_cons_self)
  · exact .inr (h.le c hc), fun c hc => by
  rcases List.mem_cons.1 hc with hc | hc
  · exact List.mem_cons.2 (.inl hc)
  · cases hc⟩
theorem allGo_err {l : List PartL} {e : Int} : ∀ k, allGo l k = .error e → e ≠ 0
  | 0, h => by cases h
  | k + 1, h => by
    unfold allGo at h
    cases hg : allGo l k with
    | error x => rw [hg] at h; cases h; exact allGo_err k hg
    | ok us =>
      rw [hg] at h
      change (partV l (k : Nat)).map (fun s => us ++ [s]) = _ at h
      cases hp : partV l (k : Nat) with
      | error x => rw [hp] at h; cases h; exact partV_err hp
      | ok s => rw [hp] at h; cases h
theorem allV_err {l : List PartL} {e : Int} (h : allV l = .error e) : e ≠ 0 := by
  unfold allV at h
  split at h
  · cases h; decide
  · exact allGo_err _ h
theorem ReadO_specV (s : List UInt8) (w : World) (hs : s.length < 100000) : Rets Tryd.prog 37 #[vs s] w (fun v D => v = .tuple #[obV (readV s).k (readV s).t, vi (if frOk s then 0 else 2)] ∧ D = []) := ReadO_spec s w hs
structure FiG where
  k : Nat
  ids : List IdL
  os : List ObL
  x2 : Value
  x3 : Value
  D2 : Heap
  D3 : Heap
  DG : Heap
theorem fillV_err {l : List PartL} {e : Int} (h : allV l = .error e) : fillV l = none := by unfold fillV; rw [h]
theorem fillV_no {l : List PartL} {ts : List (List UInt8)} {k : Nat} {p : List IdL × List ObL} (h : allV l = .ok ts) (hk : k < ts.length) (hp : fillGo (ts.take k) [] [] = some p) (hn : ¬ (frOk (ts.getD k []) = true ∧ (p.1.any fun y => (idOf (ts.getD k [])).l == y.l) = false)) : fillV l = none := by
  unfold fillV
  rw [h]
  show fillGo ts [] [] = none
  have e : ts = ts.take (k + 1) ++ ts.drop (k + 1) := (List.take_append_drop _ _).symm
  rw [e]
  refine fillGo_none ?_
  rw [take_snoc (z := []) hk, fillGo_snoc hp, if_neg hn]
set_option linter.defProp false
def uKL_1 := And.intro (And.intro (And.intro (@rdIn_v8) (And.intro (@rdIn_vi) (@load_pk0))) (And.intro (@load_pk1) (And.intro (@load_pk2) (@load_pk3)))) (And.intro (And.intro (@Sx.tup2_0) (And.intro (@Sx.tup2_1) (@load_ob))) (And.intro (And.intro (@load_ob0) (@load_ob1)) (And.intro (@store_ob) (@load_idb))))
theorem fill_spec (bp : Nat) (v0 v1 : Value) (l : List PartL) (w : World) (hv : PartSl w v0 l) (hG : GlobE w) (hb : BndL l) (hl : l.length < 1000000) (ho : w.heap[bp]? = some (pkO v0 v1 (.slice none 0 0) (.slice none 0 0)))
    (hv0 : slB v0 ≠ some bp) (hgb : 3 < bp) :
    Rets Tryd.prog 25 #[vp bp 0] w (XS w [(bp, pkO v0 v1 (.slice none 0 0) (.slice none 0 0))] (FillS l bp v0 v1)) := by
  have hbp : bp < w.heap.size := (Array.getElem?_eq_some_iff.1 ho).1
  refine Rets.enterX Tryd.func25 rfl (rs := [.tmp 2]) Tryd.results25 Tryd.ntmps25 (one_has ho) (by simp [keys]) ?_
  refine kf ?_
  first | with_reducible refine ks [] uKL_1 ?_ | refine kp uKL_1 ?_
  refine Ow.callX (Y := [(bp, pkO v0 v1 (.slice none 0 0) (.slice none 0 0))]) (by simp) rfl rfl Tryd.call64 (fun w' hw' hX hn => AllC_spec v0 l w' (hv.old hw' fun b hbb _ => by simp only [keys, List.map_cons, List.map_nil, List.mem_singleton]; rintro rfl; exact hv0 hbb) hb hl) (fun v1' D1 hC1 hS1 => ?_)
  have hN1 : New w.heap.size D1 := New.of_le fun c hc => by
    rcases hC1.new c hc with h | h
    · cases h
    · exact h.2
  unfold AllS at hS1
  cases ha : allV l with
  | error e =>
    rw [ha] at hS1
    have hS1' : v1' = .tuple #[.slice none 0 0, vi e] := hS1
    subst hS1'
    have e0 : (e != 0) = true := bne_iff_ne.2 (allV_err ha)
    refine ko uKL_1 ?_
    first | with_reducible refine ks [] (And.intro uKL_1 @e0) ?_ | refine kp (And.intro uKL_1 @e0) ?_
    refine ⟨_, (ke uKL_1), ?_⟩
    refine ⟨ext_one hN1, ?_⟩
    unfold FillS
    rw [fillV_err ha]
    rfl
  | ok ts =>
    rw [ha] at hS1
    obtain ⟨x, rfl, hGT⟩ := hS1
    obtain ⟨hlen, hl2, htl⟩ := allV_len ha
    have lnT := gri_len hGT
    have e0 : ((0 : Int) != 0) = false := rfl
    refine ko uKL_1 ?_
    first | with_reducible refine ks [] (And.intro uKL_1 ( And.intro @e0 (@lnT))) ?_ | refine kp (And.intro uKL_1 ( And.intro @e0 (@lnT))) ?_
    refine Cw.world fun ww hww => ?_
    have hnd := hww.nodup
    clear hww ww
    rw [keys_app, List.nodup_append] at hnd
    refine Cw.permL (M := (bp, pkO v0 v1 (.slice none 0 0) (.slice none 0 0)) :: (D1 ++ ([] ++ ([] ++ [])))) (by classical exact List.perm_iff_count.2 fun a => by simp only [List.count_append, List.count_cons, List.count_nil] <;> omega) ?_
    refine Cw.loopG (G := FiG) [24, 25, 26, 6, 28, 29, 27, 30, 31, 7, 8, 33, 34, 32, 35, 36, 9, 10, 37, 38, 39, 40, 41, 42, 43, 44, 45, 46, 2, 47, 48, 49, 50, 51, 52, 53, 54, 55, 56, 57, 58, 59, 60, 61, 62, 63, 64, 65, 66, 67, 23] (fun g => [(23, vi g.k)]) (fun g => (bp, pkO v0 v1 g.x2 g.x3) :: (D1 ++ (g.D2 ++ (g.D3 ++ g.DG)))) (fun g => g.k ≤ ts.length ∧ fillGo (ts.take g.k) [] [] = some (g.ids, g.os) ∧ New w.heap.size g.D2 ∧ New w.heap.size g.D3 ∧ New w.heap.size g.DG ∧ Gr g.D2 54 32 g.x2 g.ids.length (g.ids.map idLC).flatten ∧ Gr g.D3 36 2 g.x3 g.os.length (g.os.map obC).flatten) (fun g => ts.length - g.k) ⟨0, [], [], .slice none 0 0, .slice none 0 0, [], [], []⟩ rfl rfl ?_ ?_
    · exact ⟨Nat.zero_le _, rfl, trivial, trivial, trivial, Gr.nl, Gr.nl⟩
    intro g j hg
    refine kv ?_
    obtain ⟨k, ids, os, x2, x3, D2, D3, DG⟩ := g
    simp only at hg ⊢
    obtain ⟨hk, hfg, hN2, hN3, hNG, hG2, hG3⟩ := hg
    have hNr : New w.heap.size (D1 ++ (D2 ++ (D3 ++ DG))) := hN1.app (hN2.app (hN3.app hNG))
    have hfl := fillGo_len _ _ _ _ hfg
    rw [List.length_take, Nat.min_eq_left hk, List.length_nil, List.length_nil, Nat.zero_add] at hfl
    simp only at hfl
    by_cases hlt : k < ts.length
    · obtain h0 | ⟨bt, ct, rest, rfl, hbt, hlk⟩ := gri_str hGT hnd.1
      · omega
      have hd : decide ((k : Int) < (ts.length : Int)) = true := decide_eq_true (by omega)
      have hbtn : bp ≠ bt := by have := hN1.le bt hbt; omega
      have rdt : readB w ((bp, pkO v0 v1 x2 x3) :: (D1 ++ (D2 ++ (D3 ++ DG)))) bt = some (rowO strC 9 rest ts) := read_look (by rw [look_other _ _ _ _ hbtn]; exact look_app hlk)
      have ldt := load_str (E := 9) (rest := rest) 1 k hlt
      have hsl := htl k hlt
      first | with_reducible refine ks [8, 12] (And.intro uKL_1 ( And.intro @hd ( And.intro @rdt (@ldt)))) ?_ | refine kp (And.intro uKL_1 ( And.intro @hd ( And.intro @rdt (@ldt)))) ?_
      generalize hs : ts.getD k [] = s at *
      refine Ow.callFV rfl Tryd.call37 (fun w' hw' => ReadO_specV s w' (by omega)) ?_
      refine ko uKL_1 ?_
      refine Ow.alloc rfl rfl zrOb fun b7 hb7 hw7 => ?_
      simp only [cells_agg, List.nil_append, List.cons_append]
      have hbp7 : bp < b7 := above_to hb7 (by simp [keys])
      refine Ow.permL (M := (b7, .cells #[vi 0, vs []] 36 (0, 0)) :: (bp, pkO v0 v1 x2 x3) :: (D1 ++ (D2 ++ (D3 ++ DG)))) (by classical exact List.perm_iff_count.2 fun a => by simp only [List.count_append, List.count_cons, List.count_nil] <;> omega) ?_
      refine ko uKL_1 ?_
      first | with_reducible refine ks [] uKL_1 ?_ | refine kp uKL_1 ?_
      refine Ow.callFV rfl Tryd.call65 (fun w' hw' => IdO_spec (readV s).k (readV s).t w' (hG.of hw' (by intro b hb; simp only [keys, List.map_cons, List.mem_cons] at hb; rcases hb with rfl | rfl | hb <;> first | omega | (have := hNr.le b hb; omega)))) ?_
      rw [show idV (readV s).k (readV s).t = idOf s from rfl]
      have hil := (idOf s).h
      have hi0 := id0.h
      refine ko uKL_1 ?_
      refine Ow.alloc rfl rfl zrIdE fun b9 hb9 hw9 => ?_
      simp only [cells_agg, List.nil_append, List.cons_append]
      have hb79 : b7 < b9 := above_to hb9 (by simp [keys])
      refine Ow.permL (M := (b9, .cells (a8 id0.l) 54 (0, 0)) :: (b7, .cells #[vi (readV s).k, vs (readV s).t] 36 (0, 0)) :: (bp, pkO v0 v1 x2 x3) :: (D1 ++ (D2 ++ (D3 ++ DG)))) (by classical exact List.perm_iff_count.2 fun a => by simp only [List.count_append, List.count_cons, List.count_nil] <;> omega) ?_
      refine ko uKL_1 ?_
      obtain ⟨O7, hO7⟩ : ∃ O, O = Obj.cells #[vi (readV s).k, vs (readV s).t] 36 (0, 0) := ⟨_, rfl⟩
      obtain ⟨O9, hO9⟩ : ∃ O, O = Obj.cells (a8 (idOf s).l) 54 (0, 0) := ⟨_, rfl⟩
      have hEx : ∀ M, New w.heap.size M → Ext w [(bp, pkO v0 v1 (.slice none 0 0) (.slice none 0 0))] ((b9, O9) :: (b7, O7) :: (bp, pkO v0 v1 x2 x3) :: M) := fun M hM => ⟨fun c hc => by
        simp only [keys, List.map_cons, List.mem_cons, List.map_nil, List.not_mem_nil, or_false] at hc ⊢
        rcases hc with h | h | h | h
        · exact .inr (by omega)
        · exact .inr (by omega)
        · exact .inl h
        · exact .inr (hM.le c h), fun c hc => by
        simp only [keys, List.map_cons, List.mem_cons, List.map_nil, List.not_mem_nil, or_false] at hc ⊢
        exact .inr (.inr (.inl hc))⟩
      cases hfr : frOk s with
      | false =>
        rw [show (if (false : Bool) = true then (0 : Int) else 2) = 2 from rfl]
        have e1 : ((2 : Int) != 0) = true := rfl
        have hno : fillV l = none := fillV_no ha hlt hfg (by rw [hs, hfr]; rintro ⟨h, -⟩; cases h)
        refine Cw.regionS [bp, b9] [0, 1, 2, 3, 4, 5, 6, 7, 8, 9] [] (by kernel_rfl) (by kernel_rfl) (by kernel_rfl) ?_
        simp only [nl_cons, ↓pickL_nil, ↓pickL_cons, ↓nthO_0, ↓nthO_s, consO_some]
        refine kq (And.intro uKL_1 @e1) ?_
        rw [← hO7, ← hO9]
        first | with_reducible refine ks [] uKL_1 ?_ | refine kp uKL_1 ?_
        refine ⟨_, (ke uKL_1), ?_⟩
        refine ⟨hEx _ hNr, ?_⟩
        unfold FillS
        rw [hno]
        rfl
      | true =>
        rw [show (if (true : Bool) = true then (0 : Int) else 2) = 0 from rfl]
        have e1 : ((0 : Int) != 0) = false := rfl
        refine Cw.regionS [bp, b9] [0, 1, 2, 3, 4, 5, 6, 7, 8, 9] [] (by kernel_rfl) (by kernel_rfl) (by kernel_rfl) ?_
        simp only [nl_cons, ↓pickL_nil, ↓pickL_cons, ↓nthO_0, ↓nthO_s, consO_some]
        refine kq (And.intro uKL_1 @e1) ?_
        refine Ow.callFV rfl Tryd.call66 (fun w' hw' => ContainsId_spec x2 ids (idOf s) w' (hG2.slM (fun b o hm => hw'.has b o (by simp only [List.mem_cons, List.mem_append]; exact .inr (.inr (.inr (.inr (.inl hm)))))) rfl rfl idLC_len') (by omega)) ?_
        cases hct : (ids.any fun y => (idOf s).l == y.l) with
        | true =>
          have hno : fillV l = none := fillV_no ha hlt hfg (by rw [hs]; rintro ⟨-, h⟩; rw [hct] at h; cases h)
          refine kq uKL_1 ?_
          rw [← hO7, ← hO9]
          first | with_reducible refine ks [] uKL_1 ?_ | refine kp uKL_1 ?_
          refine ⟨_, (ke uKL_1), ?_⟩
          refine ⟨hEx _ hNr, ?_⟩
          unfold FillS
          rw [hno]
          rfl
        | false =>
          refine kq uKL_1 ?_
          have hfg' : fillGo (ts.take (k + 1)) [] [] = some (ids ++ [idOf s], os ++ [readV s]) := by rw [take_snoc (z := []) hlt, hs, fillGo_snoc hfg, if_pos ⟨hfr, hct⟩]
          refine Cw.regionG [bp, b7, b9] [18, 21] 22 (by kernel_rfl) rfl ?_
          simp only [List.replicate_succ, List.replicate_zero]
          refine OwG.run [0, 1, 2, 3, 4, 5, 6, 9, 10, 11, 12, 13] [true, true, true, true, true, true, true, false, false, true, true, true, true, true, false, false, false, false, false, false, false, false] 10 rfl (by kernel_rfl) (by kernel_rfl) fun k hk => ?_
          simp only [nl_cons, ↓pickL_nil, ↓pickL_cons, ↓nthO_0, ↓nthO_s, consO_some]
          simp (disch := (first | assumption | omega | (simp only [lenS, lenT, UInt64.reduceToNat]; try omega))) only [↓Sx.S0, Sx.S1, Tryd.fx, uKL_1, Nat.reduceAdd, Nat.reducePow, Int.reducePow, Nat.reduceBEq, ↓reduceIte, UInt8.reduceToNat, UInt16.reduceToNat, UInt32.reduceToNat, UInt64.reduceToNat, Int.reduceToNat, Md.next_sofnil, Md.next_sofnil]
          (with_reducible refine hk _ _ _ ?_); clear hk k
          rw [← hO7, ← hO9]
          refine OwG.two 7 14 _ _ (by kernel_rfl) rfl rfl ?_ ?_
          · refine Ow.buildSlice (e := 54) (a8 (idOf s).l) rfl rfl (slice_one (cs := (idOf s).l.map v8) Tryd.underlying49 aggIdE zrIdE (by decide) (by simp [(idOf s).h])) fun ba hba hwa => ?_
            with_reducible refine Ow.nil ?_
            refine ⟨readB_appR (by simp [keys]), ?_⟩
            simp only [List.set_cons_zero, List.set_cons_succ, putF_some, setF_0, setF_s]
            refine OwG.two 8 14 _ _ (by kernel_rfl) rfl rfl ?_ ?_
            · refine Ow.permL (M := D2 ++ ((b9, O9) :: (b7, O7) :: (bp, pkO v0 v1 x2 x3) :: (D1 ++ (D3 ++ (DG ++ [(ba, .cells (a8 (idOf s).l) 54 (0, 0))]))))) (by classical exact List.perm_iff_count.2 fun a => by simp only [List.count_append, List.count_cons, List.count_nil] <;> omega) ?_
              refine Ow.appendXG (e := 54) (k := 1) (new := idLC (idOf s)) (X := D2) x2 rfl rfl rfl rfl Tryd.underlying49 aggIdE (by kernel_rfl) zrIdE (by rw [cells_agg, size_a8, id0.h]) Tryd.underlying49 (by intro k h; cases h) hG2 (fun w' hw' => AppX.one1 (by rw [idLC_a8]; exact hw'.has ba (.cells (a8 (idOf s).l) 54 (0, 0)) (by simp)) (idLC_len' _) (idLC_one' _)) (by omega) (fun B4 v4 D4 hA4 hB4 hG4 hk41 hk42 hlk4 => ?_)
              have hN4 : New w.heap.size D4 := New.of_le fun q hq => by
                rcases hk42 q hq with h | h
                · exact hN2.le q h
                · omega
              refine Ow.permL (M := (b9, O9) :: (b7, O7) :: (bp, pkO v0 v1 x2 x3) :: (D1 ++ (D4 ++ (D3 ++ (DG ++ [(ba, .cells (a8 (idOf s).l) 54 (0, 0))]))))) (by classical exact List.perm_iff_count.2 fun a => by simp only [List.count_append, List.count_cons, List.count_nil] <;> omega) ?_
              with_reducible refine Ow.nil ?_
              refine ⟨(fun r hr => by simp only [List.mem_cons, List.not_mem_nil, or_false] at hr; rcases hr with rfl | rfl | rfl <;> simp (disch := omega) only [List.cons_append, List.nil_append, read_same, read_other]), ?_⟩
              simp only [List.set_cons_zero, List.set_cons_succ, putF_some, setF_0, setF_s]
              refine OwG.one 14 _ (by kernel_rfl) rfl ?_
              refine Ow.buildSlice (e := 36) #[vi (readV s).k, vs (readV s).t] rfl rfl (slice_one (cs := obC (readV s)) Tryd.underlying32 Tryd.ag36 zrOb (by decide) rfl) fun bc hbc hwc => ?_
              with_reducible refine Ow.nil ?_
              refine ⟨readB_appR (by simp [keys]), ?_⟩
              simp only [List.set_cons_zero, List.set_cons_succ, putF_some, setF_0, setF_s]
              refine OwG.permL (M := (b9, O9) :: (b7, O7) :: (bp, pkO v0 v1 x2 x3) :: (D1 ++ (D4 ++ (D3 ++ (DG ++ [(ba, .cells (a8 (idOf s).l) 54 (0, 0)), (bc, .cells #[vi (readV s).k, vs (readV s).t] 36 (0, 0))]))))) (by classical exact List.perm_iff_count.2 fun a => by simp only [List.count_append, List.count_cons, List.count_nil] <;> omega) (fun r hr => by simp only [List.mem_cons, List.not_mem_nil, or_false] at hr; rcases hr with rfl | rfl | rfl <;> simp (disch := omega) only [List.cons_append, List.nil_append, read_same, read_other]) ?_
              refine OwG.rest [15, 16, 17, 18, 19, 20, 21] rfl (by kernel_rfl) (by kernel_rfl) ?_
              simp only [nl_cons, ↓pickL_nil, ↓pickL_cons, ↓nthO_0, ↓nthO_s, consO_some]
              refine Ow.soft rfl rfl rfl ?_
              refine Ow.permL (M := D3 ++ ((b9, O9) :: (b7, O7) :: (bp, pkO v0 v1 x2 x3) :: (D1 ++ (D4 ++ (DG ++ [(ba, .cells (a8 (idOf s).l) 54 (0, 0)), (bc, .cells #[vi (readV s).k, vs (readV s).t] 36 (0, 0))]))))) (by classical exact List.perm_iff_count.2 fun a => by simp only [List.count_append, List.count_cons, List.count_nil] <;> omega) ?_
              refine Ow.appendXG (e := 36) (k := 1) (new := obC (readV s)) (X := D3) x3 rfl rfl rfl rfl Tryd.underlying32 Tryd.ag36 (by kernel_rfl) zrOb (by rw [obV, cells_agg]; rfl) Tryd.underlying32 (by intro k h; cases h) hG3 (fun w' hw' => AppX.one1 (hw'.has bc (.cells (obC (readV s)).toArray 36 (0, 0)) (by simp [obC])) (obC_len _) (obC_one _)) (by omega) (fun B5 v5 D5 hA5 hB5 hG5 hk51 hk52 hlk5 => ?_)
              have hN5 : New w.heap.size D5 := New.of_le fun q hq => by
                rcases hk52 q hq with h | h
                · exact hN3.le q h
                · omega
              refine Ow.permL (M := (b9, O9) :: (b7, O7) :: (bp, pkO v0 v1 x2 x3) :: (D1 ++ (D4 ++ (D5 ++ (DG ++ [(ba, .cells (a8 (idOf s).l) 54 (0, 0)), (bc, .cells #[vi (readV s).k, vs (readV s).t] 36 (0, 0))]))))) (by classical exact List.perm_iff_count.2 fun a => by simp only [List.count_append, List.count_cons, List.count_nil] <;> omega) ?_
              with_reducible refine Ow.nil ?_
              refine ⟨(fun r hr => by simp only [List.mem_cons, List.not_mem_nil, or_false] at hr; rcases hr with rfl | rfl | rfl <;> simp (disch := omega) only [read_same, read_other]), ?_⟩
              have st4 : ∀ a, storeV (some (a, 1)) (some (pkO v0 v1 x2 x3)) 2 v4 = some (pkO v0 v1 v4 x3) := fun a => store_pk2 v0 v1 x2 x3 v4 a hG4.cell
              have st5 : ∀ a, storeV (some (a, 1)) (some (pkO v0 v1 v4 x3)) 3 v5 = some (pkO v0 v1 v4 v5) := fun a => store_pk3 v0 v1 v4 x3 v5 a hG5.cell
              refine kq uKL_1 ?_
              refine Ow.store rfl rfl rfl (ke (And.intro uKL_1 @st4)) ?_
              refine ko (And.intro uKL_1 @st5) ?_
              refine Cw.permL (M := (bp, pkO v0 v1 v4 v5) :: (D1 ++ (D4 ++ (D5 ++ ((b9, O9) :: (b7, O7) :: (DG ++ [(ba, .cells (a8 (idOf s).l) 54 (0, 0)), (bc, .cells #[vi (readV s).k, vs (readV s).t] 36 (0, 0))])))))) (by classical exact List.perm_iff_count.2 fun a => by simp only [List.count_append, List.count_cons, List.count_nil] <;> omega) ?_
              first | with_reducible refine ks [] uKL_1 ?_ | refine kp uKL_1 ?_
              refine Again.mk ⟨k + 1, ids ++ [idOf s], os ++ [readV s], v4, v5, D4, D5, (b9, O9) :: (b7, O7) :: (DG ++ [(ba, .cells (a8 (idOf s).l) 54 (0, 0)), (bc, .cells #[vi (readV s).k, vs (readV s).t] 36 (0, 0))])⟩ (by show ts.length - (k + 1) < ts.length - k; omega) ⟨hlt, hfg', hN4, hN5, ⟨by omega, by omega, hNG.app ⟨hwa, hwc, trivial⟩⟩, by simpa using hG4, by simpa using hG5⟩ rfl rfl
            · refine Ow.buildSlice (e := 36) #[vi (readV s).k, vs (readV s).t] rfl rfl (slice_one (cs := obC (readV s)) Tryd.underlying32 Tryd.ag36 zrOb (by decide) rfl) fun bc hbc hwc => ?_
              with_reducible refine Ow.nil ?_
              refine ⟨readB_appR (by simp [keys]), ?_⟩
              simp only [List.set_cons_zero, List.set_cons_succ, putF_some, setF_0, setF_s]
              refine OwG.one 8 _ (by kernel_rfl) rfl ?_
              refine Ow.permL (M := D2 ++ ((b9, O9) :: (b7, O7) :: (bp, pkO v0 v1 x2 x3) :: (D1 ++ (D3 ++ (DG ++ [(ba, .cells (a8 (idOf s).l) 54 (0, 0)), (bc, .cells #[vi (readV s).k, vs (readV s).t] 36 (0, 0))]))))) (by classical exact List.perm_iff_count.2 fun a => by simp only [List.count_append, List.count_cons, List.count_nil] <;> omega) ?_
              refine Ow.appendXG (e := 54) (k := 1) (new := idLC (idOf s)) (X := D2) x2 rfl rfl rfl rfl Tryd.underlying49 aggIdE (by kernel_rfl) zrIdE (by rw [cells_agg, size_a8, id0.h]) Tryd.underlying49 (by intro k h; cases h) hG2 (fun w' hw' => AppX.one1 (by rw [idLC_a8]; exact hw'.has ba (.cells (a8 (idOf s).l) 54 (0, 0)) (by simp)) (idLC_len' _) (idLC_one' _)) (by omega) (fun B4 v4 D4 hA4 hB4 hG4 hk41 hk42 hlk4 => ?_)
              have hN4 : New w.heap.size D4 := New.of_le fun q hq => by
                rcases hk42 q hq with h | h
                · exact hN2.le q h
                · omega
              refine Ow.permL (M := (b9, O9) :: (b7, O7) :: (bp, pkO v0 v1 x2 x3) :: (D1 ++ (D4 ++ (D3 ++ (DG ++ [(ba, .cells (a8 (idOf s).l) 54 (0, 0)), (bc, .cells #[vi (readV s).k, vs (readV s).t] 36 (0, 0))]))))) (by classical exact List.perm_iff_count.2 fun a => by simp only [List.count_append, List.count_cons, List.count_nil] <;> omega) ?_
              with_reducible refine Ow.nil ?_
              refine ⟨(fun r hr => by simp only [List.mem_cons, List.not_mem_nil, or_false] at hr; rcases hr with rfl | rfl | rfl <;> simp (disch := omega) only [List.cons_append, List.nil_append, read_same, read_other]), ?_⟩
              simp only [List.set_cons_zero, List.set_cons_succ, putF_some, setF_0, setF_s]
              refine OwG.permL (M := (b9, O9) :: (b7, O7) :: (bp, pkO v0 v1 x2 x3) :: (D1 ++ (D4 ++ (D3 ++ (DG ++ [(ba, .cells (a8 (idOf s).l) 54 (0, 0)), (bc, .cells #[vi (readV s).k, vs (readV s).t] 36 (0, 0))]))))) (by classical exact List.perm_iff_count.2 fun a => by simp only [List.count_append, List.count_cons, List.count_nil] <;> omega) (fun r hr => by simp only [List.mem_cons, List.not_mem_nil, or_false] at hr; rcases hr with rfl | rfl | rfl <;> simp (disch := omega) only [List.cons_append, List.nil_append, read_same, read_other]) ?_
              refine OwG.rest [15, 16, 17, 18, 19, 20, 21] rfl (by kernel_rfl) (by kernel_rfl) ?_
              simp only [nl_cons, ↓pickL_nil, ↓pickL_cons, ↓nthO_0, ↓nthO_s, consO_some]
              refine Ow.soft rfl rfl rfl ?_
              refine Ow.permL (M := D3 ++ ((b9, O9) :: (b7, O7) :: (bp, pkO v0 v1 x2 x3) :: (D1 ++ (D4 ++ (DG ++ [(ba, .cells (a8 (idOf s).l) 54 (0, 0)), (bc, .cells #[vi (readV s).k, vs (readV s).t] 36 (0, 0))]))))) (by classical exact List.perm_iff_count.2 fun a => by simp only [List.count_append, List.count_cons, List.count_nil] <;> omega) ?_
              refine Ow.appendXG (e := 36) (k := 1) (new := obC (readV s)) (X := D3) x3 rfl rfl rfl rfl Tryd.underlying32 Tryd.ag36 (by kernel_rfl) zrOb (by rw [obV, cells_agg]; rfl) Tryd.underlying32 (by intro k h; cases h) hG3 (fun w' hw' => AppX.one1 (hw'.has bc (.cells (obC (readV s)).toArray 36 (0, 0)) (by simp [obC])) (obC_len _) (obC_one _)) (by omega) (fun B5 v5 D5 hA5 hB5 hG5 hk51 hk52 hlk5 => ?_)
              have hN5 : New w.heap.size D5 := New.of_le fun q hq => by
                rcases hk52 q hq with h | h
                · exact hN3.le q h
                · omega
              refine Ow.permL (M := (b9, O9) :: (b7, O7) :: (bp, pkO v0 v1 x2 x3) :: (D1 ++ (D4 ++ (D5 ++ (DG ++ [(ba, .cells (a8 (idOf s).l) 54 (0, 0)), (bc, .cells #[vi (readV s).k, vs (readV s).t] 36 (0, 0))]))))) (by classical exact List.perm_iff_count.2 fun a => by simp only [List.count_append, List.count_cons, List.count_nil] <;> omega) ?_
              with_reducible refine Ow.nil ?_
              refine ⟨(fun r hr => by simp only [List.mem_cons, List.not_mem_nil, or_false] at hr; rcases hr with rfl | rfl | rfl <;> simp (disch := omega) only [read_same, read_other]), ?_⟩
              have st4 : ∀ a, storeV (some (a, 1)) (some (pkO v0 v1 x2 x3)) 2 v4 = some (pkO v0 v1 v4 x3) := fun a => store_pk2 v0 v1 x2 x3 v4 a hG4.cell
              have st5 : ∀ a, storeV (some (a, 1)) (some (pkO v0 v1 v4 x3)) 3 v5 = some (pkO v0 v1 v4 v5) := fun a => store_pk3 v0 v1 v4 x3 v5 a hG5.cell
              refine kq uKL_1 ?_
              refine Ow.store rfl rfl rfl (ke (And.intro uKL_1 @st4)) ?_
              refine ko (And.intro uKL_1 @st5) ?_
              refine Cw.permL (M := (bp, pkO v0 v1 v4 v5) :: (D1 ++ (D4 ++ (D5 ++ ((b9, O9) :: (b7, O7) :: (DG ++ [(ba, .cells (a8 (idOf s).l) 54 (0, 0)), (bc, .cells #[vi (readV s).k, vs (readV s).t] 36 (0, 0))])))))) (by classical exact List.perm_iff_count.2 fun a => by simp only [List.count_append, List.count_cons, List.count_nil] <;> omega) ?_
              first | with_reducible refine ks [] uKL_1 ?_ | refine kp uKL_1 ?_
              refine Again.mk ⟨k + 1, ids ++ [idOf s], os ++ [readV s], v4, v5, D4, D5, (b9, O9) :: (b7, O7) :: (DG ++ [(ba, .cells (a8 (idOf s).l) 54 (0, 0)), (bc, .cells #[vi (readV s).k, vs (readV s).t] 36 (0, 0))])⟩ (by show ts.length - (k + 1) < ts.length - k; omega) ⟨hlt, hfg', hN4, hN5, ⟨by omega, by omega, hNG.app ⟨hwa, hwc, trivial⟩⟩, by simpa using hG4, by simpa using hG5⟩ rfl rfl
          · refine Ow.buildSlice (e := 36) #[vi (readV s).k, vs (readV s).t] rfl rfl (slice_one (cs := obC (readV s)) Tryd.underlying32 Tryd.ag36 zrOb (by decide) rfl) fun bc hbc hwc => ?_
            with_reducible refine Ow.nil ?_
            refine ⟨readB_appR (by simp [keys]), ?_⟩
            simp only [List.set_cons_zero, List.set_cons_succ, putF_some, setF_0, setF_s]
            refine OwG.one 7 _ (by kernel_rfl) rfl ?_
            refine Ow.buildSlice (e := 54) (a8 (idOf s).l) rfl rfl (slice_one (cs := (idOf s).l.map v8) Tryd.underlying49 aggIdE zrIdE (by decide) (by simp [(idOf s).h])) fun ba hba hwa => ?_
            with_reducible refine Ow.nil ?_
            refine ⟨readB_appR (by simp [keys]), ?_⟩
            simp only [List.set_cons_zero, List.set_cons_succ, putF_some, setF_0, setF_s]
            refine OwG.one 8 _ (by kernel_rfl) rfl ?_
            refine Ow.permL (M := D2 ++ ((b9, O9) :: (b7, O7) :: (bp, pkO v0 v1 x2 x3) :: (D1 ++ (D3 ++ (DG ++ [(ba, .cells (a8 (idOf s).l) 54 (0, 0)), (bc, .cells #[vi (readV s).k, vs (readV s).t] 36 (0, 0))]))))) (by classical exact List.perm_iff_count.2 fun a => by simp only [List.count_append, List.count_cons, List.count_nil] <;> omega) ?_
            refine Ow.appendXG (e := 54) (k := 1) (new := idLC (idOf s)) (X := D2) x2 rfl rfl rfl rfl Tryd.underlying49 aggIdE (by kernel_rfl) zrIdE (by rw [cells_agg, size_a8, id0.h]) Tryd.underlying49 (by intro k h; cases h) hG2 (fun w' hw' => AppX.one1 (by rw [idLC_a8]; exact hw'.has ba (.cells (a8 (idOf s).l) 54 (0, 0)) (by simp)) (idLC_len' _) (idLC_one' _)) (by omega) (fun B4 v4 D4 hA4 hB4 hG4 hk41 hk42 hlk4 => ?_)
            have hN4 : New w.heap.size D4 := New.of_le fun q hq => by
              rcases hk42 q hq with h | h
              · exact hN2.le q h
              · omega
            refine Ow.permL (M := (b9, O9) :: (b7, O7) :: (bp, pkO v0 v1 x2 x3) :: (D1 ++ (D4 ++ (D3 ++ (DG ++ [(ba, .cells (a8 (idOf s).l) 54 (0, 0)), (bc, .cells #[vi (readV s).k, vs (readV s).t] 36 (0, 0))]))))) (by classical exact List.perm_iff_count.2 fun a => by simp only [List.count_append, List.count_cons, List.count_nil] <;> omega) ?_
            with_reducible refine Ow.nil ?_
            refine ⟨(fun r hr => by simp only [List.mem_cons, List.not_mem_nil, or_false] at hr; rcases hr with rfl | rfl | rfl <;> simp (disch := omega) only [List.cons_append, List.nil_append, read_same, read_other]), ?_⟩
            simp only [List.set_cons_zero, List.set_cons_succ, putF_some, setF_0, setF_s]
            refine OwG.permL (M := (b9, O9) :: (b7, O7) :: (bp, pkO v0 v1 x2 x3) :: (D1 ++ (D4 ++ (D3 ++ (DG ++ [(ba, .cells (a8 (idOf s).l) 54 (0, 0)), (bc, .cells #[vi (readV s).k, vs (readV s).t] 36 (0, 0))]))))) (by classical exact List.perm_iff_count.2 fun a => by simp only [List.count_append, List.count_cons, List.count_nil] <;> omega) (fun r hr => by simp only [List.mem_cons, List.not_mem_nil, or_false] at hr; rcases hr with rfl | rfl | rfl <;> simp (disch := omega) only [List.cons_append, List.nil_append, read_same, read_other]) ?_
            refine OwG.rest [15, 16, 17, 18, 19, 20, 21] rfl (by kernel_rfl) (by kernel_rfl) ?_
            simp only [nl_cons, ↓pickL_nil, ↓pickL_cons, ↓nthO_0, ↓nthO_s, consO_some]
            refine Ow.soft rfl rfl rfl ?_
            refine Ow.permL (M := D3 ++ ((b9, O9) :: (b7, O7) :: (bp, pkO v0 v1 x2 x3) :: (D1 ++ (D4 ++ (DG ++ [(ba, .cells (a8 (idOf s).l) 54 (0, 0)), (bc, .cells #[vi (readV s).k, vs (readV s).t] 36 (0, 0))]))))) (by classical exact List.perm_iff_count.2 fun a => by simp only [List.count_append, List.count_cons, List.count_nil] <;> omega) ?_
            refine Ow.appendXG (e := 36) (k := 1) (new := obC (readV s)) (X := D3) x3 rfl rfl rfl rfl Tryd.underlying32 Tryd.ag36 (by kernel_rfl) zrOb (by rw [obV, cells_agg]; rfl) Tryd.underlying32 (by intro k h; cases h) hG3 (fun w' hw' => AppX.one1 (hw'.has bc (.cells (obC (readV s)).toArray 36 (0, 0)) (by simp [obC])) (obC_len _) (obC_one _)) (by omega) (fun B5 v5 D5 hA5 hB5 hG5 hk51 hk52 hlk5 => ?_)
            have hN5 : New w.heap.size D5 := New.of_le fun q hq => by
              rcases hk52 q hq with h | h
              · exact hN3.le q h
              · omega
            refine Ow.permL (M := (b9, O9) :: (b7, O7) :: (bp, pkO v0 v1 x2 x3) :: (D1 ++ (D4 ++ (D5 ++ (DG ++ [(ba, .cells (a8 (idOf s).l) 54 (0, 0)), (bc, .cells #[vi (readV s).k, vs (readV s).t] 36 (0, 0))]))))) (by classical exact List.perm_iff_count.2 fun a => by simp only [List.count_append, List.count_cons, List.count_nil] <;> omega) ?_
            with_reducible refine Ow.nil ?_
            refine ⟨(fun r hr => by simp only [List.mem_cons, List.not_mem_nil, or_false] at hr; rcases hr with rfl | rfl | rfl <;> simp (disch := omega) only [read_same, read_other]), ?_⟩
            have st4 : ∀ a, storeV (some (a, 1)) (some (pkO v0 v1 x2 x3)) 2 v4 = some (pkO v0 v1 v4 x3) := fun a => store_pk2 v0 v1 x2 x3 v4 a hG4.cell
            have st5 : ∀ a, storeV (some (a, 1)) (some (pkO v0 v1 v4 x3)) 3 v5 = some (pkO v0 v1 v4 v5) := fun a => store_pk3 v0 v1 v4 x3 v5 a hG5.cell
            refine kq uKL_1 ?_
            refine Ow.store rfl rfl rfl (ke (And.intro uKL_1 @st4)) ?_
            refine ko (And.intro uKL_1 @st5) ?_
            refine Cw.permL (M := (bp, pkO v0 v1 v4 v5) :: (D1 ++ (D4 ++ (D5 ++ ((b9, O9) :: (b7, O7) :: (DG ++ [(ba, .cells (a8 (idOf s).l) 54 (0, 0)), (bc, .cells #[vi (readV s).k, vs (readV s).t] 36 (0, 0))])))))) (by classical exact List.perm_iff_count.2 fun a => by simp only [List.count_append, List.count_cons, List.count_nil] <;> omega) ?_
            first | with_reducible refine ks [] uKL_1 ?_ | refine kp uKL_1 ?_
            refine Again.mk ⟨k + 1, ids ++ [idOf s], os ++ [readV s], v4, v5, D4, D5, (b9, O9) :: (b7, O7) :: (DG ++ [(ba, .cells (a8 (idOf s).l) 54 (0, 0)), (bc, .cells #[vi (readV s).k, vs (readV s).t] 36 (0, 0))])⟩ (by show ts.length - (k + 1) < ts.length - k; omega) ⟨hlt, hfg', hN4, hN5, ⟨by omega, by omega, hNG.app ⟨hwa, hwc, trivial⟩⟩, by simpa using hG4, by simpa using hG5⟩ rfl rfl
    · obtain rfl : k = ts.length := by omega
      have hd : decide ((ts.length : Int) < (ts.length : Int)) = false := decide_eq_false (by omega)
      first | with_reducible refine ks [] (And.intro uKL_1 @hd) ?_ | refine kp (And.intro uKL_1 @hd) ?_
      refine ⟨_, (ke uKL_1), ?_⟩
      refine ⟨ext_head hNr, ?_⟩
      have hf : fillV l = some (ids, os) := by
        unfold fillV
        rw [ha]
        rw [List.take_length] at hfg
        exact hfg
      unfold FillS
      rw [hf]
      exact ⟨rfl, x2, x3, _, rfl, Gr.i hG2 fun q hq => by simp [hq], Gr.i hG3 fun q hq => by simp [hq]⟩
end Go.Proofs
end
section
open Go Go.Proofs Go.Sx
namespace Go.Proofs
set_option maxRecDepth 10000
set_option maxHeartbeats 4000000
set_option linter.unusedSimpArgs false
/-! ### Sums -/
def hvL : List UInt32 := [0x00000000, 0x1db71064, 0x3b6e20c8, 0x26d930ac, 0x76dc4190, 0x6b6b51f4, 0x4db26158, 0x5005713c, 0xedb88320, 0xf00f9344, 0xd6d6a3e8, 0xcb61b38c, 0x9b64c2b0, 0x86d3d2d4, 0xa00ae278, 0xbdbdf21c]
def half32 (n : UInt32) : UInt32 := shr_u32 n 4 ^^^ hvL.getD (n &&& 15).toNat 0
def halfs (n : UInt32) : Nat → UInt32
  | 0 => n
  | k + 1 => half32 (halfs n k)
def feedV (n : UInt32) (b : UInt8) : UInt32 := halfs (n ^^^ UInt32.ofNat b.toNat) 2
theorem and15_u32 (n : UInt32) : (n &&& 15).toNat < 16 := by
  rw [UInt32.toNat_and]
  exact Nat.lt_of_le_of_lt Nat.and_le_right (by decide)
/-- The table of the sums' steps. -/
def GlobC (w : World) : Prop := ∃ e f, w.heap[(1 : Nat)]? = some (.cells (a32 hvL) e f)
theorem GlobC.of {w w' : World} {L : Heap} (h : GlobC w) (hw : Hp w L w') (hn : (1 : Nat) ∉ keys L) : GlobC w' := by
  obtain ⟨e, f, h⟩ := h
  exact ⟨e, f, by rw [hw.old _ (Array.getElem?_eq_some_iff.1 h).1 hn]; exact h⟩
theorem hvL_len : hvL.length = 16 := rfl
set_option linter.defProp false
def uWB_1 := And.intro (And.intro (@rdIn_v8) (@rdIn_v16)) (And.intro (@rdIn_v32) (And.intro (@rdIn_v64) (@rdIn_vi)))
theorem feed_spec (n : UInt32) (b : UInt8) (w : World) (hG : GlobC w) :
    Rets Tryd.prog 113 #[v32 n, v8 b] w (fun v D => v = v32 (feedV n b) ∧ D = []) := by
  obtain ⟨e, f, htab⟩ := hG
  refine Rets.enterV Tryd.func113 rfl (rs := [.tmp 4]) Tryd.results113 Tryd.ntmps113 ?_
  refine kf ?_
  first | with_reducible refine ks [] uWB_1 ?_ | refine kp uWB_1 ?_
  unfold feedV
  generalize n ^^^ UInt32.ofNat b.toNat = m
  rw [show v32 m = v32 (halfs m 0) from rfl]
  refine Cw.loopG (G := Nat) [10, 11, 12, 13, 14, 15, 16, 17, 0, 18, 9] (fun g => [(0, v32 (halfs m g)), (9, vi g)]) (fun g => []) (fun g => g ≤ 2) (fun g => 2 - g) 0 rfl rfl ?_ ?_
  · omega
  intro g j hg
  refine kv ?_
  by_cases hlt : g < 2
  · have h15 := and15_u32 (halfs m g)
    have hl := hvL_len
    first | with_reducible refine ks [] (And.intro uWB_1 @htab) ?_ | refine kp (And.intro uWB_1 @htab) ?_
    refine Again.mk (g + 1) (by omega) (by omega) rfl rfl
  · obtain rfl : g = 2 := by omega
    first | with_reducible refine ks [] uWB_1 ?_ | refine kp uWB_1 ?_
    refine ⟨_, (ke uWB_1), trivial, ?_⟩
    rfl
def crcGo (n : UInt32) (s : List UInt8) : UInt32 := s.foldl feedV n
theorem crcGo_succ (n : UInt32) (s : List UInt8) (g : Nat) (h : g < s.length) : crcGo n (s.take (g + 1)) = feedV (crcGo n (s.take g)) (s.getD g 0) := by
  unfold crcGo
  rw [List.take_succ_eq_append_getElem h, List.foldl_append, List.getD_eq_getElem?_getD, List.getElem?_eq_getElem h]
  rfl
theorem cAdd_spec (n : UInt32) (s : List UInt8) (w : World) (hG : GlobC w) (hs : s.length < 1099511627776) :
    Rets Tryd.prog 100 #[v32 n, vs s] w (fun v D => v = v32 (~~~ (crcGo (~~~ n) s)) ∧ D = []) := by
  refine Rets.enterV Tryd.func100 rfl (rs := [.tmp 4]) Tryd.results100 Tryd.ntmps100 ?_
  refine kf ?_
  first | with_reducible refine ks [] uWB_1 ?_ | refine kp uWB_1 ?_
  rw [show v32 (~~~ n) = v32 (crcGo (~~~ n) (s.take 0)) from rfl]
  refine Cw.loopG (G := Nat) [12, 13, 6, 14, 15, 16, 17, 18, 5, 19, 11] (fun g => [(5, v32 (crcGo (~~~ n) (s.take g))), (11, vi g)]) (fun g => []) (fun g => g ≤ s.length) (fun g => s.length - g) 0 rfl rfl ?_ ?_
  · omega
  intro g j hg
  refine kv ?_
  by_cases hlt : g < s.length
  · first | with_reducible refine ks [] uWB_1 ?_ | refine kp uWB_1 ?_
    refine Ow.callFV rfl Tryd.call113 (fun w' hw' => feed_spec _ _ w' (GlobC.of hG hw' (by simp [keys]))) ?_
    refine ko uWB_1 ?_
    first | with_reducible refine ks [] uWB_1 ?_ | refine kp uWB_1 ?_
    refine Again.mk (g + 1) (by omega) (by omega) rfl ?_
    rw [crcGo_succ _ _ _ hlt]
    rfl
  · obtain rfl : g = s.length := by omega
    first | with_reducible refine ks [] uWB_1 ?_ | refine kp uWB_1 ?_
    rw [List.take_length]
    refine ⟨_, (ke uWB_1), trivial, ?_⟩
    rfl
def crcV (s : List UInt8) : UInt32 := ~~~ (crcGo (~~~ (0 : UInt32)) s)
theorem cSum_spec (b : Nat) (s : List UInt8) (E : TypeId) (w : World) (hG : GlobC w) (hs : s.length < 1099511627776) (ho : w.heap[b]? = some (.cells #[vs s] E (0, 0))) :
    Rets Tryd.prog 69 #[vsl b 0 1 1] w (fun v D => v = v32 (crcV s) ∧ D = []) := by
  have hS : StrS w (vsl b 0 1 1) [s] b 0 #[vs s] E (0, 0) := StrS.lit [s] rfl rfl ho
  refine Rets.enterV Tryd.func69 rfl (rs := [.tmp 2]) Tryd.results69 Tryd.ntmps69 ?_
  refine kf ?_
  first | with_reducible refine ks [] uWB_1 ?_ | refine kp uWB_1 ?_
  refine Cw.loopG (G := Nat) [9, 10, 11, 5, 12, 13, 14, 3, 15, 8] (fun g => [(3, v32 (if g = 0 then 0 else crcV s)), (8, vi g)]) (fun g => []) (fun g => g ≤ 1) (fun g => 1 - g) 0 rfl rfl ?_ ?_
  · omega
  intro g j hg
  refine kv ?_
  by_cases hlt : g < 1
  · obtain rfl : g = 0 := by omega
    have hlg := hS.get 0 (by simp)
    have hrd := hS.has (by simp)
    have hix := fun m => hS.idx m 0 (by simp)
    ((try with_reducible refine Cw.go [] ?_); (try simp (disch := (first | assumption | omega | (simp only [lenS, lenT, UInt64.reduceToNat]; try omega))) only [↓Sx.S0, Sx.S1, Tryd.fx, uWB_1, Nat.reduceAdd, Nat.reducePow, Int.reducePow, Nat.reduceBEq, ↓reduceIte, UInt8.reduceToNat, UInt16.reduceToNat, UInt32.reduceToNat, UInt64.reduceToNat, Int.reduceToNat, Sx.loadV_one, hrd, hlg, hix]))
    refine Ow.callFV rfl Tryd.call100 (fun w' hw' => cAdd_spec 0 s w' (GlobC.of hG hw' (by simp [keys])) hs) ?_
    refine ko uWB_1 ?_
    first | with_reducible refine ks [] uWB_1 ?_ | refine kp uWB_1 ?_
    refine Again.mk 1 (by omega) (by omega) rfl rfl
  · obtain rfl : g = 1 := by omega
    first | with_reducible refine ks [] uWB_1 ?_ | refine kp uWB_1 ?_
    refine ⟨_, (ke uWB_1), trivial, ?_⟩
    rfl
def sumPre (n : UInt32) (g : Nat) : List UInt8 := (List.range 4).map fun j => if j < g then UInt8.ofNat (shr_u32 n (8 * j)).toNat else 0
def sum4 (n : UInt32) : List UInt8 := sumPre n 4
theorem sumPre_len (n : UInt32) (g : Nat) : (sumPre n g).length = 4 := by simp [sumPre]
theorem sumPre_succ (n : UInt32) (g : Nat) (h : g < 4) : (sumPre n g).set g (UInt8.ofNat (shr_u32 n (8 * g)).toNat) = sumPre n (g + 1) := by
  have : g = 0 ∨ g = 1 ∨ g = 2 ∨ g = 3 := by omega
  rcases this with rfl | rfl | rfl | rfl <;> rfl
def sealV (s : List UInt8) : List UInt8 := s ++ sum4 (crcV s)
theorem cSeal_spec (s : List UInt8) (w : World) (hG : GlobC w) (hs : s.length < 1099511627776) :
    Rets Tryd.prog 29 #[vs s] w (fun v D => v = vs (sealV s) ∧ D = []) := by
  have hgl : (1 : Nat) < w.heap.size := by obtain ⟨e, f, h⟩ := hG; exact (Array.getElem?_eq_some_iff.1 h).1
  refine Rets.enterV Tryd.func29 rfl (rs := [.tmp 2]) Tryd.results29 Tryd.ntmps29 ?_
  refine kf ?_
  first | with_reducible refine ks [] uWB_1 ?_ | refine kp uWB_1 ?_
  refine Ow.buildSlice (e := 9) #[vs s] rfl rfl (by kernel_rfl) fun b1 hb1 hw1 => ?_
  refine ko uWB_1 ?_
  refine Ow.callFV rfl Tryd.call69 (fun w' hw' => cSum_spec b1 s _ w' (GlobC.of hG hw' (by simp [keys]; omega)) hs (hw'.has _ _ List.mem_cons_self)) ?_
  refine ko uWB_1 ?_
  first | with_reducible refine ks [] uWB_1 ?_ | refine kp uWB_1 ?_
  unfold sealV
  generalize crcV s = n
  refine Ow.alloc rfl rfl Tryd.zr141 fun b2 hb2 hw2 => ?_
  obtain ⟨h12, -⟩ := hb2
  refine ko uWB_1 ?_
  first | with_reducible refine ks [] uWB_1 ?_ | refine kp uWB_1 ?_
  rw [show a8 (List.replicate 4 0) = a8 (sumPre n 0) from rfl]
  refine Cw.loopG (G := Nat) [10, 11, 5, 12, 13, 14, 15, 16, 17, 18, 19, 9] (fun g => [(9, vi g)]) (fun g => [(b1, .cells #[vs s] 9 (0, 0)), (b2, .cells (a8 (sumPre n g)) 141 (0, 0))]) (fun g => g ≤ 4) (fun g => 4 - g) 0 rfl rfl ?_ ?_
  · omega
  intro g j hg
  refine kv ?_
  have hpl := sumPre_len n g
  by_cases hlt : g < 4
  · first | with_reducible refine ks [] uWB_1 ?_ | refine kp uWB_1 ?_
    refine Again.mk (g + 1) (by omega) (by omega) ?_ rfl
    rw [sumPre_succ n g hlt]
  · obtain rfl : g = 4 := by omega
    first | with_reducible refine ks [] uWB_1 ?_ | refine kp uWB_1 ?_
    refine ⟨_, (ke uWB_1), ⟨hw1, hw2, trivial⟩, ?_⟩
    rw [List.drop_zero, List.take_of_length_le (by omega)]; rfl
/-- What was sealed. -/
def unsealV (s : List UInt8) : List UInt8 × Bool :=
  if s.length < 4 then ([], false) else if sealV (s.take (s.length - 4)) = s then (s.take (s.length - 4), true) else ([], false)
theorem sealV_len (s : List UInt8) : (sealV s).length = s.length + 4 := by unfold sealV sum4; rw [List.length_append, sumPre_len]
theorem cUnseal_spec (s : List UInt8) (w : World) (hG : GlobC w) (hs : s.length < 1099511627776) :
    Rets Tryd.prog 31 #[vs s] w (fun v D => v = .tuple #[vs (unsealV s).1, .bool (unsealV s).2] ∧ D = []) := by
  refine Rets.enterV Tryd.func31 rfl (rs := [.tmp 2, .tmp 3]) Tryd.results31 Tryd.ntmps31 ?_
  refine kf ?_
  first | with_reducible refine ks [] uWB_1 ?_ | refine kp uWB_1 ?_
  unfold unsealV
  by_cases h4 : s.length < 4
  · have e1 : decide ((s.length : Int) < 4) = true := decide_eq_true (by omega)
    rw [if_pos h4]
    first | with_reducible refine ks [] (And.intro uWB_1 @e1) ?_ | refine kp (And.intro uWB_1 @e1) ?_
    refine ⟨_, (ke uWB_1), trivial, ?_⟩
    rfl
  · have e1 : decide ((s.length : Int) < 4) = false := decide_eq_false (by omega)
    have e2 : ((s.length : Int) - 4).toNat = s.length - 4 := by omega
    rw [if_neg h4]
    first | with_reducible refine ks [] (And.intro uWB_1 ( And.intro @e1 (@e2))) ?_ | refine kp (And.intro uWB_1 ( And.intro @e1 (@e2))) ?_
    refine Ow.callFV rfl Tryd.call29 (fun w' hw' => cSeal_spec (s.take (s.length - 4)) w' (GlobC.of hG hw' (by simp [keys])) (by rw [List.length_take]; omega)) ?_
    refine ko uWB_1 ?_
    cases hq : (sealV (s.take (s.length - 4)) != s)
    · rw [if_pos (by simpa using hq)]
      first | with_reducible refine ks [] (And.intro uWB_1 ( And.intro @hq (@e2))) ?_ | refine kp (And.intro uWB_1 ( And.intro @hq (@e2))) ?_
      refine ⟨_, (ke uWB_1), trivial, ?_⟩
      rfl
    · rw [if_neg (by simpa using hq)]
      first | with_reducible refine ks [] (And.intro uWB_1 @hq) ?_ | refine kp (And.intro uWB_1 @hq) ?_
      refine ⟨_, (ke uWB_1), trivial, ?_⟩
      rfl
end Go.Proofs
end
section
open Go Go.Proofs Go.Sx Go.StP Go.Flo
namespace Go.Proofs
set_option maxRecDepth 10000
set_option maxHeartbeats 400000
set_option linter.unusedSimpArgs false
/-! ### A pack's bytes, written and read: plain laws -/
/-- How far ahead of a part its base lies. -/
def farV (i : Nat) (p : PartL) : Int := if p.d = true then (i : Int) - p.b else 0
def pieceB (i : Nat) (p : PartL) : List UInt8 := numL (clampN (farV i p)) ++ textL p.x
def partsB : Nat → List PartL → List UInt8
  | _, [] => []
  | i, p :: r => pieceB i p ++ partsB (i + 1) r
def magB : List UInt8 := [83, 80, 75, 49]
def packB (l : List PartL) : List UInt8 := magB ++ (numL (clampN (l.length : Int)) ++ partsB 0 l)
/-- One part, read. -/
def pieceR (s : List UInt8) (i a : Nat) (e : Int) : PartL × Nat × Int :=
  (⟨decide (0 < (numR s a e 200).1), if 0 < (numR s a e 200).1 then (i : Int) - (numR s a e 200).1 else 0, (textR s (numR s a e 200).2.1 (numR s a e 200).2.2 65536).1⟩, (textR s (numR s a e 200).2.1 (numR s a e 200).2.2 65536).2)
/-- So many parts, read: they, where each begins, where reading ended, the error. -/
def piecesR (s : List UInt8) : Nat → Nat → Nat → Int → List PartL × List Nat × Nat × Int
  | 0, _, a, e => ([], [], a, e)
  | k + 1, i, a, e => if (pieceR s i a e).2.2 = 0 then ((pieceR s i a e).1 :: (piecesR s k (i + 1) (pieceR s i a e).2.1 0).1, a :: (piecesR s k (i + 1) (pieceR s i a e).2.1 0).2.1, (piecesR s k (i + 1) (pieceR s i a e).2.1 0).2.2) else ([], [], (pieceR s i a e).2)
/-- The beginning: how many, whether it is one, where it ends, the error. -/
def headR (s : List UInt8) : Int × Bool × Nat × Int :=
  if (rawR s 0 0 4).1 = magB then ((numR s (rawR s 0 0 4).2.1 (rawR s 0 0 4).2.2 200).1, (numR s (rawR s 0 0 4).2.1 (rawR s 0 0 4).2.2 200).2.2 == 0, (numR s (rawR s 0 0 4).2.1 (rawR s 0 0 4).2.2 200).2) else (0, false, (rawR s 0 0 4).2)
def readP (s : List UInt8) : List PartL × List Nat × Nat × Int := piecesR s (headR s).1.toNat 0 (headR s).2.2.1 (headR s).2.2.2
/-- A pack, opened: parts, spots, ids, objects. -/
def openV (b : List UInt8) : Option (List PartL × List Nat × List IdL × List ObL) :=
  if (unsealV b).2 = true ∧ (headR (unsealV b).1).2.1 = true ∧ endE (unsealV b).1 (readP (unsealV b).1).2.2.1 (readP (unsealV b).1).2.2.2 = 0 then (fillV (readP (unsealV b).1).1).map fun q => ((readP (unsealV b).1).1, (readP (unsealV b).1).2.1, q) else none
def writeV (l : List PartL) : List UInt8 × Int := match fillV l with
  | some _ => (sealV (packB l), 0)
  | none => ([], 1)
instance : DecidableEq ObL := fun a b => if h : a.k = b.k ∧ a.t = b.t then .isTrue (by cases a; cases b; simp only at h; obtain ⟨rfl, rfl⟩ := h; rfl) else .isFalse (fun e => h (by rw [e]; exact ⟨rfl, rfl⟩))
/-- The objects that can be saved of some first parts. -/
def saveGo (l : List PartL) : Nat → List ObL
  | 0 => []
  | k + 1 => match partV l (k : Nat) with
    | .ok s => if frOk s = true ∧ readV s ∉ saveGo l k then saveGo l k ++ [readV s] else saveGo l k
    | .error _ => saveGo l k
def saveV (b : List UInt8) : List ObL := if (headR b).2.1 = true then saveGo (readP b).1 (readP b).1.length else []
/-! ### What was written is read -/
/-- A part that can be written and read at its place. -/
def PartOk (i : Nat) (p : PartL) : Prop := (if p.d = true then 0 ≤ p.b ∧ p.b < i ∧ (i : Int) ≤ 200 else p.b = 0) ∧ p.x.length ≤ 65536
def PartsOk : Nat → List PartL → Prop
  | _, [] => True
  | i, p :: r => PartOk i p ∧ PartsOk (i + 1) r
theorem farV_ok {i : Nat} {p : PartL} (h : PartOk i p) : ∃ n : Nat, farV i p = n ∧ n ≤ 200 ∧ (0 < n ↔ p.d = true) := by
  unfold PartOk at h
  unfold farV
  by_cases hd : p.d = true
  · rw [if_pos hd] at h ⊢
    exact ⟨((i : Int) - p.b).toNat, by omega, by omega, ⟨fun _ => hd, fun _ => by omega⟩⟩
  · rw [if_neg hd]
    exact ⟨0, rfl, by omega, ⟨fun h => by omega, fun h => absurd h hd⟩⟩
theorem part_eq {i n : Nat} {p : PartL} (h : PartOk i p) (hf : farV i p = n) (hn : 0 < n ↔ p.d = true) : (⟨decide (0 < (n : Int)), if 0 < (n : Int) then (i : Int) - (n : Int) else 0, p.x⟩ : PartL) = p := by
  obtain ⟨d, b, x⟩ := p
  unfold PartOk at h
  unfold farV at hf
  simp only at h hf hn ⊢
  cases d
  · rw [if_neg (by simp)] at h hf
    have : ¬ 0 < (n : Int) := by omega
    rw [if_neg this, decide_eq_false this, h.1]
  · rw [if_pos rfl] at h hf
    have : 0 < (n : Int) := by have := hn.2 rfl; omega
    rw [if_pos this, decide_eq_true this]
    congr 1
    omega
theorem pieceR_app (A r : List UInt8) {i : Nat} {p : PartL} (h : PartOk i p) : pieceR (A ++ (pieceB i p ++ r)) i A.length 0 = (p, A.length + (pieceB i p).length, 0) := by
  obtain ⟨n, hf, hn, hd⟩ := farV_ok h
  have hx := h.2
  have h1 := numR_appE A (textL p.x ++ r) n 200 (by omega) (by omega)
  have h2 := textR_appE (A ++ numL n) p.x r 65536 (by omega) (by omega)
  rw [List.append_assoc, List.length_append] at h2
  unfold pieceR pieceB
  rw [hf, clampN_idE (by omega), List.append_assoc, h1]
  simp only
  rw [h2, part_eq h hf hd, List.length_append, Nat.add_assoc]
/-- Where each part begins. -/
def spotsG : Nat → Nat → List PartL → List Nat
  | _, _, [] => []
  | i, a, p :: r => a :: spotsG (i + 1) (a + (pieceB i p).length) r
theorem piecesR_app (r : List UInt8) : ∀ (l : List PartL) (A : List UInt8) (i : Nat), PartsOk i l → piecesR (A ++ (partsB i l ++ r)) l.length i A.length 0 = (l, spotsG i A.length l, A.length + (partsB i l).length, 0)
  | [], A, i, _ => by simp [piecesR, partsB, spotsG]
  | p :: l, A, i, h => by
    have h1 := pieceR_app A (partsB (i + 1) l ++ r) h.1
    have h2 := piecesR_app r l (A ++ pieceB i p) (i + 1) h.2
    rw [List.append_assoc, List.length_append] at h2
    unfold partsB
    rw [List.length_cons, List.append_assoc]
    unfold piecesR
    rw [h1]
    simp only [↓reduceIte]
    rw [h2]
    simp only [spotsG, List.length_append, Nat.add_assoc]
theorem numL_200 {n : Nat} (h : n ≤ 200) : clampN (n : Int) = n := clampN_idE (by omega)
theorem headR_app (x : List UInt8) {n : Nat} (h : n ≤ 200) : headR (magB ++ (numL n ++ x)) = ((n : Int), true, 4 + (numL n).length, 0) := by
  have h0 := rawR_appE [] magB (numL n ++ x)
  have h1 := numR_appE magB x n 200 (by omega) (by omega)
  simp only [List.nil_append, List.length_nil, Nat.zero_add] at h0
  have e4 : magB.length = 4 := rfl
  rw [e4] at h0 h1
  unfold headR
  rw [show ((4 : Nat) : Int) = 4 from rfl] at h0
  rw [h0]
  simp only [↓reduceIte]
  rw [h1]
  rfl
/-- What was written is read, whatever stands behind it. -/
theorem readP_app {l : List PartL} (h : PartsOk 0 l) (hl : l.length ≤ 200) (r : List UInt8) : headR (packB l ++ r) = ((l.length : Int), true, 4 + (numL l.length).length, 0) ∧
    readP (packB l ++ r) = (l, spotsG 0 (4 + (numL l.length).length) l, (packB l).length, 0) := by
  have e : packB l ++ r = magB ++ (numL l.length ++ (partsB 0 l ++ r)) := by unfold packB; rw [numL_200 hl, List.append_assoc, List.append_assoc]
  have hh := headR_app (partsB 0 l ++ r) hl
  have hp := piecesR_app r l (magB ++ numL l.length) 0 h
  rw [List.append_assoc, List.length_append, show magB.length = 4 from rfl] at hp
  refine ⟨by rw [e]; exact hh, ?_⟩
  unfold readP
  rw [e, hh]
  simp only [Int.toNat_natCast]
  rw [hp]
  unfold packB
  rw [numL_200 hl]
  simp only [List.length_append, show magB.length = 4 from rfl, Nat.add_assoc]
theorem unsealV_seal (s : List UInt8) : unsealV (sealV s) = (s, true) := by
  have hl := sealV_len s
  have ht : (sealV s).take ((sealV s).length - 4) = s := by rw [hl, Nat.add_sub_cancel]; unfold sealV; rw [List.take_left]
  unfold unsealV
  rw [if_neg (by omega), ht, if_pos rfl]
theorem endE_at (s : List UInt8) : endE s s.length 0 = 0 := by unfold endE; rw [if_neg (by simp), if_neg (by omega)]
/-- What may be in a pack can be written. -/
theorem partsOk_of {l : List PartL} {ts : List (List UInt8)} (h : allV l = .ok ts) (hx : ∀ p, p ∈ l → p.x.length ≤ 65536) : PartsOk 0 l ∧ l.length ≤ 200 := by
  unfold allV at h
  split at h
  · cases h
  · rename_i h2
    refine ⟨?_, by omega⟩
    have hkk : ∀ k, k < l.length → PartOk k (l.getD k part0) := by
      intro k hk
      have hp := allGo_at _ _ h k hk
      unfold partV at hp
      refine ⟨?_, hx _ (getD_mem hk)⟩
      cases hq : pathV l (k : Nat) with
      | error e => rw [hq] at hp; cases hp
      | ok p =>
        rcases pathV_cons hk hq with ⟨-, hd, hb⟩ | ⟨b, q, -, hd, hb, hlt, -⟩
        · rw [if_neg (by rw [hd]; decide), hb]
        · rw [if_pos hd, hb]; omega
    have go : ∀ (m : List PartL) (i : Nat), (∀ k, k < m.length → PartOk (i + k) (m.getD k part0)) → PartsOk i m := by
      intro m
      induction m with
      | nil => intro i _; trivial
      | cons p r ih =>
        intro i hm
        refine ⟨by simpa using hm 0 (by simp), ih (i + 1) fun k hk => ?_⟩
        have := hm (k + 1) (by simp; omega)
        rw [List.getD_cons_succ, show i + (k + 1) = i + 1 + k by omega] at this
        exact this
    exact go l 0 fun k hk => by rw [Nat.zero_add]; exact hkk k hk
end Go.Proofs
end
section
open Go Go.Proofs Go.Sx Go.StP Go.Flo
namespace Go.Proofs
set_option maxRecDepth 10000
set_option maxHeartbeats 400000
set_option linter.unusedSimpArgs false
/-! ### What is read was written so; there and back -/
theorem pieceR_canon {s : List UInt8} {i a : Nat} (ha : a ≤ s.length) (h : (pieceR s i a 0).2.2 = 0) : (pieceR s i a 0).2.1 ≤ s.length ∧ s.drop a = pieceB i (pieceR s i a 0).1 ++ s.drop (pieceR s i a 0).2.1 := by
  have hle := numR_le (e := 0) (most := 200) ha
  unfold pieceR at h ⊢
  simp only at h ⊢
  have e1 : (numR s a 0 200).2.2 = 0 := Decidable.byContradiction fun hn => by rw [textR_e hn] at h; exact hn h
  obtain ⟨n, hn, hb, hm, hd⟩ := numR_canon e1
  generalize numR s a 0 200 = p at *
  obtain ⟨p1, p2, p3⟩ := p
  simp only at e1 hn hd hle h ⊢
  subst e1 hn
  obtain ⟨-, h2⟩ := textR_canon hle.2 h
  have h3 := textE_le (e := 0) (most := 65536) hle.2
  refine ⟨h3.2, ?_⟩
  have hf : farV i ⟨decide (0 < (n : Int)), if 0 < (n : Int) then (i : Int) - (n : Int) else 0, (textR s p2 0 65536).1⟩ = n := by
    unfold farV
    simp only [decide_eq_true_eq]
    by_cases h0 : 0 < (n : Int)
    · rw [if_pos h0, if_pos h0]; omega
    · rw [if_neg h0]; omega
  unfold pieceB
  rw [hf, clampN_idE (by omega), List.append_assoc, ← h2]
  exact hd
theorem piecesR_canon {s : List UInt8} : ∀ (k i a : Nat), a ≤ s.length → (piecesR s k i a 0).2.2.2 = 0 → (piecesR s k i a 0).1.length = k ∧ (piecesR s k i a 0).2.2.1 ≤ s.length ∧ s.drop a = partsB i (piecesR s k i a 0).1 ++ s.drop (piecesR s k i a 0).2.2.1
  | 0, i, a, ha, _ => ⟨rfl, ha, rfl⟩
  | k + 1, i, a, ha, h => by
    unfold piecesR at h ⊢
    split at h
    · rename_i h0
      rw [if_pos h0]
      obtain ⟨h1, h2⟩ := pieceR_canon ha h0
      obtain ⟨h3, h4, h5⟩ := piecesR_canon k (i + 1) _ h1 h
      refine ⟨by rw [List.length_cons, h3], h4, ?_⟩
      simp only [partsB]
      rw [List.append_assoc, ← h5]
      exact h2
    · rename_i h0
      exact absurd h h0
theorem piecesR_len {s : List UInt8} : ∀ (k i a : Nat) (e : Int), (piecesR s k i a e).1.length ≤ k ∧ (piecesR s k i a e).2.1.length = (piecesR s k i a e).1.length
  | 0, i, a, e => ⟨Nat.le_refl _, rfl⟩
  | k + 1, i, a, e => by
    have := piecesR_len (s := s) k (i + 1) (pieceR s i a e).2.1 0
    unfold piecesR
    split
    · simp only [List.length_cons]; omega
    · simp
theorem endE_zeroP {s : List UInt8} {a : Nat} {e : Int} (h : endE s a e = 0) : e = 0 ∧ s.length ≤ a := by
  unfold endE at h
  split at h
  · rename_i h0; exact absurd h h0
  · rename_i h0
    split at h
    · cases h
    · exact ⟨by omega, by omega⟩
theorem unsealV_canon {b : List UInt8} (h : (unsealV b).2 = true) : sealV (unsealV b).1 = b := by
  unfold unsealV at h ⊢
  split at h
  · cases h
  · rename_i h0
    rw [if_neg h0]
    split at h
    · rename_i h1; rw [if_pos h1]; exact h1
    · cases h
theorem headR_canon {s : List UInt8} (h : (headR s).2.1 = true) : ∃ n : Nat, n ≤ 200 ∧ (headR s).1 = n ∧ (headR s).2.2.2 = 0 ∧ (headR s).2.2.1 ≤ s.length ∧ s = magB ++ (numL n ++ s.drop (headR s).2.2.1) := by
  unfold headR at h ⊢
  split at h
  · rename_i hm
    rw [if_pos hm]
    have hr := rawR_le (s := s) (a := 0) (e := 0) (n := 4) (Nat.zero_le _)
    have e0 : (rawR s 0 0 4).2.2 = 0 := by
      unfold rawR at hm ⊢
      rw [if_neg (by simp), if_neg (by omega)] at hm ⊢
      split at hm
      · cases hm
      · rename_i h4; rw [if_neg h4]
    obtain ⟨-, h1, h2⟩ := rawR_canon (Nat.zero_le _) e0
    rw [hm, List.drop_zero] at h2
    generalize rawR s 0 0 4 = p at *
    obtain ⟨p1, p2, p3⟩ := p
    simp only at *
    subst e0
    have e1 : (numR s p2 0 200).2.2 = 0 := by simpa using h
    obtain ⟨n, hn, hb, hl, hd⟩ := numR_canon e1
    have hle := numR_le (e := 0) (most := 200) hr.2
    refine ⟨n, by omega, hn, e1, hle.2, ?_⟩
    rw [← hd]
    exact h2
  · cases h
theorem partsOk_len {l : List PartL} {q : List IdL × List ObL} (h : fillV l = some q) (hx : ∀ p, p ∈ l → p.x.length ≤ 65536) : PartsOk 0 l ∧ l.length ≤ 200 := by
  unfold fillV at h
  cases ha : allV l with
  | error e => rw [ha] at h; cases h
  | ok ts => exact partsOk_of ha hx
/-- What was written is opened as it was. -/
theorem open_write {l : List PartL} {q : List IdL × List ObL} (h : fillV l = some q) (hx : ∀ p, p ∈ l → p.x.length ≤ 65536) : openV (sealV (packB l)) = some (l, spotsG 0 (4 + (numL l.length).length) l, q) := by
  obtain ⟨h1, h2⟩ := partsOk_len h hx
  obtain ⟨hh, hr⟩ := readP_app h1 h2 []
  rw [List.append_nil] at hh hr
  unfold openV
  rw [unsealV_seal]
  simp only [hh, hr, endE_at, and_self, ↓reduceIte, h, Option.map_some]
/-- What is opened is what is written of it. -/
theorem write_open {b : List UInt8} {l : List PartL} {sp : List Nat} {q : List IdL × List ObL} (h : openV b = some (l, sp, q)) : writeV l = (b, 0) := by
  unfold openV at h
  split at h
  · rename_i hc
    obtain ⟨hu, hh, he⟩ := hc
    have hb := unsealV_canon hu
    generalize (unsealV b).1 = s at *
    obtain ⟨n, hn, h1, h2, h3, h4⟩ := headR_canon hh
    obtain ⟨e0, hend⟩ := endE_zeroP he
    cases hf : fillV (readP s).1 with
    | none => rw [hf] at h; cases h
    | some q' =>
      rw [hf] at h
      cases h
      have hp : readP s = piecesR s n 0 (headR s).2.2.1 0 := by unfold readP; rw [h1, h2, Int.toNat_natCast]
      rw [hp] at e0 hend hf ⊢
      obtain ⟨h5, h6, h7⟩ := piecesR_canon n 0 _ h3 e0
      rw [List.drop_of_length_le hend, List.append_nil] at h7
      unfold writeV
      rw [hf]
      simp only
      unfold packB
      rw [h5, numL_200 hn, ← h7, ← h4, hb]
  · cases h
end Go.Proofs
end
section
open Go Go.Proofs Go.Sx Go.StP Go.Flo
namespace Go.Proofs
set_option maxRecDepth 10000
set_option maxHeartbeats 400000
set_option linter.unusedSimpArgs false
/-! ### A pack's reader -/
def prO (v0 v1 v2 : Value) : Obj := .cells #[v0, v1, v2] 90 (0, 0)
def wrO (s : List UInt8) (a : Nat) (e : Int) : Obj := .cells #[vs s, vi a, vi e] 143 (0, 0)
theorem load_pr0 (v0 v1 v2 : Value) (n : Nat) : loadV (some (false, n)) (some (prO v0 v1 v2)) 0 = some v0 := (rfl)
theorem load_pr1 (v0 v1 v2 : Value) (n : Nat) : loadV (some (false, n)) (some (prO v0 v1 v2)) 1 = some v1 := (rfl)
theorem load_pr2 (v0 v1 v2 : Value) (n : Nat) : loadV (some (false, n)) (some (prO v0 v1 v2)) 2 = some v2 := (rfl)
theorem store_pr1 (v0 v1 v2 q : Value) (a : Bool) (hq : Value.oneCell' q = true ∧ q.cells = #[q]) : storeV (some (a, 1)) (some (prO v0 v1 v2)) 1 q = some (prO v0 q v2) :=
  store_mid [v0] [v1] [q] [v2] a _ 90 rfl rfl hq.2 rfl (by simp [hq.1])
theorem store_pr2 (v0 v1 v2 q : Value) (a : Bool) (hq : Value.oneCell' q = true ∧ q.cells = #[q]) : storeV (some (a, 1)) (some (prO v0 v1 v2)) 2 q = some (prO v0 v1 q) :=
  store_mid [v0, v1] [v2] [q] [] a _ 90 rfl rfl hq.2 rfl (by simp [hq.1])
theorem store_partd (p : PartL) (E : TypeId) (a : Bool) (x : Bool) : storeV (some (a, 1)) (some (.cells (partC p).toArray E (0, 0))) 0 (.bool x) = some (.cells (partC ⟨x, p.b, p.x⟩).toArray E (0, 0)) := (rfl)
theorem store_partb (p : PartL) (E : TypeId) (a : Bool) (x : Int) : storeV (some (a, 1)) (some (.cells (partC p).toArray E (0, 0))) 1 (vi x) = some (.cells (partC ⟨p.d, x, p.x⟩).toArray E (0, 0)) := (rfl)
theorem load_partw (p : PartL) (E : TypeId) : loadV (some (true, 3)) (some (.cells (partC p).toArray E (0, 0))) 0 = some (.agg (partC p).toArray) := load_agg (n := 3) [] (partC p) [] E (0, 0) rfl rfl
theorem build_part2 (t : List UInt8) : buildV (plcT Tryd.prog 68) (zeroV Tryd.prog 68) [(2, vs t)] = some (.agg (partC ⟨false, 0, t⟩).toArray) := by
  rw [show plcT Tryd.prog 68 = some [(0, 1), (1, 1), (2, 1)] from id (by kernel_rfl), zrPart]; rfl
theorem prs_has {w : World} {a b : Nat} {x y : Obj} (h : w.heap[a]? = some x) (h' : w.heap[b]? = some y) : ∀ p : Nat × Obj, p ∈ [(a, x), (b, y)] → w.heap[p.1]? = some p.2 := by
  intro p hp
  simp only [List.mem_cons, List.not_mem_nil, or_false] at hp
  rcases hp with rfl | rfl <;> assumption
theorem RRaw_specW (b : Nat) (s : List UInt8) (a : Nat) (e n : Int) (w : World) (ha : a ≤ s.length) (hs : s.length < 9223372036854775808) (ho : w.heap[b]? = some (wrO s a e)) :
    Rets Tryd.prog 51 #[vp b 0, vi n] w (fun v D => ∃ o, D = [(b, o)] ∧ v = vs (rawR s a e n).1 ∧ o = wrO s (rawR s a e n).2.1 (rawR s a e n).2.2) := RRaw_spec b s a e n w ha hs ho
theorem RNumber_specW (b : Nat) (s : List UInt8) (a : Nat) (e most : Int) (w : World) (ha : a ≤ s.length) (hs : s.length < 9223372036854775808) (ho : w.heap[b]? = some (wrO s a e)) :
    Rets Tryd.prog 52 #[vp b 0, vi most] w (fun v D => ∃ o, D = [(b, o)] ∧ v = vi (numR s a e most).1 ∧ o = wrO s (numR s a e most).2.1 (numR s a e most).2.2) := RNumber_spec b s a e most w ha hs ho
theorem RText_specW (b : Nat) (s : List UInt8) (a : Nat) (e most : Int) (w : World) (ha : a ≤ s.length) (hs : s.length < 9223372036854775808) (ho : w.heap[b]? = some (wrO s a e)) :
    Rets Tryd.prog 53 #[vp b 0, vi most] w (fun v D => ∃ o, D = [(b, o)] ∧ v = vs (textR s a e most).1 ∧ o = wrO s (textR s a e most).2.1 (textR s a e most).2.2) := RText_spec b s a e most w ha hs ho
theorem ext_two {w : World} {a b : Nat} {x x' y y' : Obj} {D : Heap} (h : New w.heap.size D) : Ext w [(a, x), (b, y)] ((a, x') :: (b, y') :: D) := ⟨fun c hc => by
  simp only [keys, List.map_cons, List.mem_cons, List.map_nil, List.not_mem_nil, or_false] at hc ⊢
  rcases hc with h' | h' | h'
  · exact .inl (.inl h')
  · exact .inl (.inr h')
  · exact .inr (h.le c h'), fun c hc => by
  simp only [keys, List.map_cons, List.mem_cons, List.map_nil, List.not_mem_nil, or_false] at hc ⊢
  rcases hc with h' | h'
  · exact .inl h'
  · exact .inr (.inl h')⟩
set_option linter.defProp false
def uKM_1 := And.intro (And.intro (And.intro (@rdIn_v8) (And.intro (@rdIn_vi) (@load_pr0))) (And.intro (And.intro (@load_pr1) (@load_pr2)) (And.intro (@Sx.tup2_0) (@Sx.tup2_1)))) (And.intro (And.intro (And.intro (@load_part0) (@load_part1)) (And.intro (@load_part2) (@load_partw))) (And.intro (And.intro (@cells_part) (@store_part)) (And.intro (@store_partd) (@store_partb))))
theorem head_spec (br bw : Nat) (s : List UInt8) (v1 v2 : Value) (w : World) (hs : s.length < 9223372036854775808) (hne : br ≠ bw) (ho : w.heap[br]? = some (prO (vp bw 0) v1 v2)) (hr : w.heap[bw]? = some (wrO s 0 0)) :
    Rets Tryd.prog 33 #[vp br 0] w (XS w [(br, prO (vp bw 0) v1 v2), (bw, wrO s 0 0)] (fun v D => v = .tuple #[vi (headR s).1, .bool (headR s).2.1] ∧ D = [(br, prO (vp bw 0) v1 v2), (bw, wrO s (headR s).2.2.1 (headR s).2.2.2)])) := by
  refine Rets.enterX Tryd.func33 rfl (rs := [.tmp 2, .tmp 3]) Tryd.results33 Tryd.ntmps33 (prs_has ho hr) (by simp [keys, hne]) ?_
  refine kf ?_
  first | with_reducible refine ks [] uKM_1 ?_ | refine kp uKM_1 ?_
  refine Ow.callM rfl rfl Tryd.call51 (by simp [keys]) (fun w' hw' => RRaw_specW bw s 0 0 4 w' (Nat.zero_le _) hs (hw'.has _ _ (List.mem_cons_of_mem _ List.mem_cons_self))) ?_
  have r1 := rawR_le (s := s) (a := 0) (e := 0) (n := 4) (Nat.zero_le _)
  unfold headR
  generalize rawR s 0 0 4 = p at *
  obtain ⟨x, a1, e1⟩ := p
  simp only at r1 ⊢
  refine kn ?_
  by_cases hm : x = magB
  · have d1 : (x != magB) = false := by rw [hm]; exact bne_self_eq_false _
    unfold magB at d1
    rw [if_pos hm]
    refine ko (And.intro uKM_1 @d1) ?_
    first | with_reducible refine ks [] (And.intro uKM_1 @d1) ?_ | refine kp (And.intro uKM_1 @d1) ?_
    refine Ow.callM rfl rfl Tryd.call52 (by simp [keys]) (fun w' hw' => RNumber_specW bw s a1 e1 200 w' r1.2 hs (hw'.has _ _ (List.mem_cons_of_mem _ List.mem_cons_self))) ?_
    generalize numR s a1 e1 200 = q at *
    obtain ⟨n, a2, e2⟩ := q
    simp only
    refine kn ?_
    refine ko uKM_1 ?_
    first | with_reducible refine ks [] uKM_1 ?_ | refine kp uKM_1 ?_
    refine Ow.callFV rfl Tryd.call71 (fun w' hw' => RErr_spec bw s a2 e2 w' (hw'.has _ _ (List.mem_cons_of_mem _ List.mem_cons_self))) ?_
    refine ko uKM_1 ?_
    first | with_reducible refine ks [] uKM_1 ?_ | refine kp uKM_1 ?_
    refine ⟨_, (ke uKM_1), ?_⟩
    exact ⟨ext_two trivial, rfl, rfl⟩
  · have d1 : (x != magB) = true := bne_iff_ne.2 hm
    unfold magB at d1
    rw [if_neg hm]
    refine ko (And.intro uKM_1 @d1) ?_
    first | with_reducible refine ks [] (And.intro uKM_1 @d1) ?_ | refine kp (And.intro uKM_1 @d1) ?_
    refine ⟨_, (ke uKM_1), ?_⟩
    exact ⟨ext_two trivial, rfl, rfl⟩
structure RdG where
  lab : Nat
  l : List PartL
  sp : List Nat
  a : Nat
  e : Int
  v1 : Value
  v2 : Value
  b4 : Nat
  q : PartL
  D1 : Heap
  D2 : Heap
  DG : Heap
def RdJ (s : List UInt8) (n a0 : Nat) (e0 : Int) (sz : Nat) (g : RdG) : Prop :=
  sz ≤ g.b4 ∧ New sz g.D1 ∧ New sz g.D2 ∧ New sz g.DG ∧ Gr g.D1 68 3 g.v1 g.l.length (g.l.map partC).flatten ∧ Gr g.D2 3 1 g.v2 g.sp.length (g.sp.map natC).flatten ∧ g.sp.length = g.l.length ∧ g.a ≤ s.length ∧ g.l.length ≤ n ∧
    ((g.lab = 1 ∧ piecesR s n 0 a0 e0 = (g.l ++ (piecesR s (n - g.l.length) g.l.length g.a g.e).1, g.sp ++ (piecesR s (n - g.l.length) g.l.length g.a g.e).2.1, (piecesR s (n - g.l.length) g.l.length g.a g.e).2.2)) ∨
     (g.lab = 0 ∧ piecesR s n 0 a0 e0 = (g.l, g.sp, g.a, g.e)))
def RdL (g : RdG) : Nat := match g.lab with
  | 1 => 1
  | _ => 0
def RdH (br bw : Nat) (s : List UInt8) (g : RdG) : Heap := (br, prO (vp bw 0) g.v1 g.v2) :: (bw, wrO s g.a g.e) :: (g.b4, .cells (partC g.q).toArray 68 (0, 0)) :: (g.D1 ++ (g.D2 ++ g.DG))
/-- What a reader of parts leaves. -/
def ReadS (s : List UInt8) (n a0 : Nat) (e0 : Int) (br bw : Nat) (v : Value) (D : Heap) : Prop :=
  v = .tuple #[] ∧ ∃ v1 v2 D', D = (br, prO (vp bw 0) v1 v2) :: (bw, wrO s (piecesR s n 0 a0 e0).2.2.1 (piecesR s n 0 a0 e0).2.2.2) :: D' ∧
    GrI D' 68 3 v1 (piecesR s n 0 a0 e0).1.length ((piecesR s n 0 a0 e0).1.map partC).flatten ∧ GrI D' 3 1 v2 (piecesR s n 0 a0 e0).2.1.length ((piecesR s n 0 a0 e0).2.1.map natC).flatten
theorem read_spec (br bw : Nat) (s : List UInt8) (n a0 : Nat) (e0 : Int) (w : World) (hs : s.length < 9223372036854775808) (hn : n ≤ 1000000) (ha : a0 ≤ s.length) (hne : br ≠ bw) (ho : w.heap[br]? = some (prO (vp bw 0) (.slice none 0 0) (.slice none 0 0))) (hr : w.heap[bw]? = some (wrO s a0 e0)) :
    Rets Tryd.prog 34 #[vp br 0, vi n] w (XS w [(br, prO (vp bw 0) (.slice none 0 0) (.slice none 0 0)), (bw, wrO s a0 e0)] (ReadS s n a0 e0 br bw)) := by
  have hbr : br < w.heap.size := (Array.getElem?_eq_some_iff.1 ho).1
  have hbw : bw < w.heap.size := (Array.getElem?_eq_some_iff.1 hr).1
  refine Rets.enterX Tryd.func34 rfl (rs := []) Tryd.results34 Tryd.ntmps34 (prs_has ho hr) (by simp [keys, hne]) ?_
  refine kf ?_
  first | with_reducible refine ks [] uKM_1 ?_ | refine kp uKM_1 ?_
  refine Cw.scopeL (G := RdG) (fun g => RdL g) [4, 5, 6, 7, 8, 9, 10, 11, 12, 13, 14, 15, 16, 17, 18, 19, 20, 21, 22, 23, 24, 25, 26, 27, 28, 29, 30, 31, 32, 33, 34, 35, 36, 37, 38, 39, 40, 41, 42, 43, 44, 45, 46, 47, 48, 49, 50, 51, 52, 53, 54, 55, 56, 57, 58, 59, 60, 61, 62, 63, 64, 65, 66] (fun g => [(4, vp g.b4 0)]) (fun g => RdH br bw s g) (fun g => RdJ s n a0 e0 w.heap.size g) (fun g => (if g.lab = 1 then n - g.l.length + 1 else 0)) ?_ ?_ ?_
  · intro g
    unfold RdL
    split <;> rfl
  · intro g j hg
    obtain ⟨lab, l, sp, a, e, v1, v2, b4, q, D1, D2, DG⟩ := g
    obtain ⟨hw4, hN1, hN2, hNG, hG1, hG2, hsl, hal, hln, hg⟩ := hg
    simp only at hw4 hN1 hN2 hNG hG1 hG2 hsl hal hln
    have hNr : New w.heap.size (D1 ++ (D2 ++ DG)) := hN1.app (hN2.app hNG)
    have l1 := hG1.len
    rcases hg with hg | hg
    · obtain ⟨hlab, hpr⟩ := hg
      simp only at hlab
      subst hlab
      simp only [RdL, RdH] at hpr ⊢
      by_cases hlen : l.length = n
      · have d1 : ((l.length : Int) == (n : Int)) = true := by rw [hlen]; exact beq_self_eq_true _
        simp only [contP, hasL, Bool.or_false, Bool.false_or, Bool.or_true, Bool.true_or, Nat.reduceBEq, beq_self_eq_true, ↓reduceIte, Bool.false_eq_true]
        refine kv ?_
        try with_reducible refine thenK_normal ?_
        first | with_reducible refine ks [] (And.intro uKM_1 ( And.intro @l1 (@d1))) ?_ | refine kp (And.intro uKM_1 ( And.intro @l1 (@d1))) ?_
        refine Jump.mk ⟨0, l, sp, a, e, v1, v2, b4, q, D1, D2, DG⟩ rfl (by show 0 < n - l.length + 1; omega) ⟨hw4, hN1, hN2, hNG, hG1, hG2, hsl, hal, hln, .inr ⟨rfl, ?_⟩⟩ rfl rfl
        rw [hpr, hlen, Nat.sub_self]
        simp [piecesR]
      · have d1 : ((l.length : Int) == (n : Int)) = false := beq_eq_false_iff_ne.2 (by omega)
        simp only [contP, hasL, Bool.or_false, Bool.false_or, Bool.or_true, Bool.true_or, Nat.reduceBEq, beq_self_eq_true, ↓reduceIte, Bool.false_eq_true]
        refine kv ?_
        try with_reducible refine thenK_normal ?_
        first | with_reducible refine ks [1000007, 9] (And.intro uKM_1 ( And.intro @l1 (@d1))) ?_ | refine kp (And.intro uKM_1 ( And.intro @l1 (@d1))) ?_
        refine Ow.callFV rfl Tryd.call72 (fun w' hw' => RAt_spec bw s a e w' (hw'.has _ _ (List.mem_cons_of_mem _ List.mem_cons_self))) ?_
        refine ko uKM_1 ?_
        first | with_reducible refine ks [] uKM_1 ?_ | refine kp uKM_1 ?_
        have hle1 := numR_le (s := s) (a := a) (e := e) (most := 200) hal
        have hm1 := numR_mostE (s := s) (a := a) (e := e) (most := 200) (by omega)
        refine Ow.callM rfl rfl Tryd.call52 (by simp [keys]) (fun w' hw' => RNumber_specW bw s a e 200 w' hal hs (hw'.has _ _ (List.mem_cons_of_mem _ List.mem_cons_self))) ?_
        have hk : n - l.length = (n - (l.length + 1)) + 1 := by omega
        rw [hk] at hpr
        have hpc : pieceR s l.length a e = (⟨decide (0 < (numR s a e 200).1), if 0 < (numR s a e 200).1 then ((l.length : Nat) : Int) - (numR s a e 200).1 else 0, (textR s (numR s a e 200).2.1 (numR s a e 200).2.2 65536).1⟩, (textR s (numR s a e 200).2.1 (numR s a e 200).2.2 65536).2) := rfl
        generalize numR s a e 200 = x at *
        obtain ⟨F, a1, e1⟩ := x
        simp only at hle1 hm1 hpc ⊢
        have hle2 := textE_le (s := s) (a := a1) (e := e1) (most := 65536) hle1.2
        refine kn ?_
        refine ko uKM_1 ?_
        first | with_reducible refine ks [] uKM_1 ?_ | refine kp uKM_1 ?_
        refine Ow.callM rfl rfl Tryd.call53 (by simp [keys]) (fun w' hw' => RText_specW bw s a1 e1 65536 w' hle1.2 hs (hw'.has _ _ (List.mem_cons_of_mem _ List.mem_cons_self))) ?_
        generalize textR s a1 e1 65536 = x at *
        obtain ⟨t, a2, e2⟩ := x
        simp only at hle2 hpc ⊢
        refine kn ?_
        refine ko uKM_1 ?_
        refine Ow.build (.agg (partC ⟨false, 0, t⟩).toArray) rfl (build_part2 t) ?_
        have hst := store_part ⟨false, 0, t⟩ q 68
        have hb4r : b4 ≠ br := by omega
        have hb4w : b4 ≠ bw := by omega
        refine ko (And.intro uKM_1 @hst) ?_
        first | with_reducible refine ks [] uKM_1 ?_ | refine kp uKM_1 ?_
        refine Ow.callFV rfl Tryd.call71 (fun w' hw' => RErr_spec bw s a2 e2 w' (hw'.has _ _ (List.mem_cons_of_mem _ List.mem_cons_self))) ?_
        rw [piecesR, hpc] at hpr
        simp only at hpr
        by_cases he : e2 = 0
        · subst he
          rw [if_pos rfl] at hpr
          have d2 : ((0 : Int) != 0) = false := rfl
          refine ko (And.intro uKM_1 @d2) ?_
          obtain ⟨p, hp⟩ : ∃ p, p = (⟨decide (0 < F), if 0 < F then ((l.length : Nat) : Int) - F else 0, t⟩ : PartL) := ⟨_, rfl⟩
          rw [← hp] at hpr
          refine Cw.cut (G := PartL) 67 (fun g => [(0, vp br 0), (1, vi n), (2, undef), (3, undef), (4, vp b4 0), (6, vi a)]) (fun g => (b4, .cells (partC g).toArray 68 (0, 0)) :: (br, prO (vp bw 0) v1 v2) :: (bw, wrO s a2 0) :: (D1 ++ (D2 ++ DG))) (fun g => g = p) ?_ ?_
          · refine Cw.permL (M := (b4, .cells (partC ⟨false, 0, t⟩).toArray 68 (0, 0)) :: (br, prO (vp bw 0) v1 v2) :: (bw, wrO s a2 0) :: (D1 ++ (D2 ++ DG))) (by classical exact List.perm_iff_count.2 fun a => by simp only [List.count_append, List.count_cons, List.count_nil] <;> omega) ?_
            by_cases hF : 0 < F
            · have d3 : decide ((0 : Int) < F) = true := decide_eq_true hF
              first | with_reducible refine ks [] (And.intro uKM_1 @d3) ?_ | refine kp (And.intro uKM_1 @d3) ?_
              refine Cw.regionG [br] [10] 11 (by kernel_rfl) rfl ?_
              simp only [List.replicate_succ, List.replicate_zero]
              refine OwG.run [0, 1, 2, 3, 4, 5, 6, 7] [true, true, true, true, true, true, true, true, false, false, false] 3 rfl (by kernel_rfl) (by kernel_rfl) fun k hk => ?_
              simp only [nl_cons, ↓pickL_nil, ↓pickL_cons, ↓nthO_0, ↓nthO_s, consO_some]
              simp (disch := (first | assumption | omega | (simp only [lenS, lenT, UInt64.reduceToNat]; try omega))) only [↓Sx.S0, Sx.S1, Tryd.fx, uKM_1, Nat.reduceAdd, Nat.reducePow, Int.reducePow, Nat.reduceBEq, ↓reduceIte, UInt8.reduceToNat, UInt16.reduceToNat, UInt32.reduceToNat, UInt64.reduceToNat, Int.reduceToNat, Md.next_sofnil, l1]
              (with_reducible refine hk _ _ _ ?_); clear hk k
              refine OwG.one 8 _ (by kernel_rfl) rfl ?_
              refine ko uKM_1 ?_
              refine ⟨(fun r hr => by rw [List.mem_singleton] at hr; subst hr; simp (disch := omega) only [read_same, read_other]), ?_⟩
              refine OwG.rest [9, 10] rfl (by kernel_rfl) (by kernel_rfl) ?_
              simp only [nl_cons, ↓pickL_nil, ↓pickL_cons, ↓nthO_0, ↓nthO_s, consO_some]
              refine kq uKM_1 ?_
              refine Ow.store rfl rfl rfl (ke uKM_1) ?_
              refine ko uKM_1 ?_
              refine CutM.mk _ ?_ rfl rfl
              rw [hp, decide_eq_true hF, if_pos hF]
            · have d3 : decide ((0 : Int) < F) = false := decide_eq_false hF
              first | with_reducible refine ks [] (And.intro uKM_1 @d3) ?_ | refine kp (And.intro uKM_1 @d3) ?_
              refine CutM.mk _ ?_ rfl rfl
              rw [hp, decide_eq_false hF, if_neg hF]
          · intro g j hg
            simp only [allF_s, allF_0, pin, setF_0, setF_s, Nat.reduceAdd]
            subst hg
            clear hp
            generalize hpp : g = p at *
            obtain ⟨O4, hO4⟩ : ∃ O, O = Obj.cells (partC p).toArray 68 (0, 0) := ⟨_, rfl⟩
            first | with_reducible refine ks [] uKM_1 ?_ | refine kp uKM_1 ?_
            refine Cw.regionG [br, b4] [18, 21] 22 (by kernel_rfl) rfl ?_
            simp only [List.replicate_succ, List.replicate_zero]
            refine OwG.run [0, 1, 2, 3, 4, 5, 6, 9, 10, 11, 12, 13] [true, true, true, true, true, true, true, false, false, true, true, true, true, true, false, false, false, false, false, false, false, false] 10 rfl (by kernel_rfl) (by kernel_rfl) fun k hk => ?_
            simp only [nl_cons, ↓pickL_nil, ↓pickL_cons, ↓nthO_0, ↓nthO_s, consO_some]
            simp (disch := (first | assumption | omega | (simp only [lenS, lenT, UInt64.reduceToNat]; try omega))) only [↓Sx.S0, Sx.S1, Tryd.fx, uKM_1, Nat.reduceAdd, Nat.reducePow, Int.reducePow, Nat.reduceBEq, ↓reduceIte, UInt8.reduceToNat, UInt16.reduceToNat, UInt32.reduceToNat, UInt64.reduceToNat, Int.reduceToNat, Md.next_sofnil, Md.next_sofnil]
            (with_reducible refine hk _ _ _ ?_); clear hk k
            rw [← hO4]
            refine OwG.two 7 14 _ _ (by kernel_rfl) rfl rfl ?_ ?_
            · refine Ow.buildSlice (e := 68) (partC p).toArray rfl rfl (slice_one (cs := partC p) Tryd.underlying22 Tryd.ag68 zrPart (by decide) rfl) fun ba hba hwa => ?_
              with_reducible refine Ow.nil ?_
              refine ⟨readB_appR (by simp [keys]), ?_⟩
              simp only [List.set_cons_zero, List.set_cons_succ, putF_some, setF_0, setF_s]
              refine OwG.two 8 14 _ _ (by kernel_rfl) rfl rfl ?_ ?_
              · refine Ow.permL (M := D1 ++ ((b4, O4) :: (br, prO (vp bw 0) v1 v2) :: (bw, wrO s a2 0) :: (D2 ++ (DG ++ [(ba, .cells (partC p).toArray 68 (0, 0))])))) (by classical exact List.perm_iff_count.2 fun a => by simp only [List.count_append, List.count_cons, List.count_nil] <;> omega) ?_
                refine Ow.appendXG (e := 68) (k := 1) (new := partC p) (X := D1) v1 rfl rfl rfl rfl Tryd.underlying22 Tryd.ag68 (by kernel_rfl) zrPart (by rw [cells_part]; rfl) Tryd.underlying22 (by intro k h; cases h) hG1 (fun w' hw' => AppX.one1 (hw'.has ba (.cells (partC p).toArray 68 (0, 0)) (by simp)) (partC_len _) (partC_one _)) (by omega) (fun B4 v4 D4 hA4 hB4 hG4 hk41 hk42 hlk4 => ?_)
                have hN4 : New w.heap.size D4 := New.of_le fun q hq => by
                  rcases hk42 q hq with h | h
                  · exact hN1.le q h
                  · omega
                refine Ow.permL (M := (b4, O4) :: (br, prO (vp bw 0) v1 v2) :: (bw, wrO s a2 0) :: (D4 ++ (D2 ++ (DG ++ [(ba, .cells (partC p).toArray 68 (0, 0))])))) (by classical exact List.perm_iff_count.2 fun a => by simp only [List.count_append, List.count_cons, List.count_nil] <;> omega) ?_
                with_reducible refine Ow.nil ?_
                refine ⟨(fun r hr => by simp only [List.mem_cons, List.not_mem_nil, or_false] at hr; rcases hr with rfl | rfl <;> simp (disch := omega) only [List.cons_append, List.nil_append, read_same, read_other]), ?_⟩
                simp only [List.set_cons_zero, List.set_cons_succ, putF_some, setF_0, setF_s]
                refine OwG.one 14 _ (by kernel_rfl) rfl ?_
                refine Ow.buildSlice (e := 3) #[vi a] rfl rfl (by kernel_rfl) fun bc hbc hwc => ?_
                with_reducible refine Ow.nil ?_
                refine ⟨readB_appR (by simp [keys]), ?_⟩
                simp only [List.set_cons_zero, List.set_cons_succ, putF_some, setF_0, setF_s]
                refine OwG.permL (M := (b4, O4) :: (br, prO (vp bw 0) v1 v2) :: (bw, wrO s a2 0) :: (D4 ++ (D2 ++ (DG ++ [(ba, .cells (partC p).toArray 68 (0, 0)), (bc, .cells #[vi a] 3 (0, 0))])))) (by classical exact List.perm_iff_count.2 fun a => by simp only [List.count_append, List.count_cons, List.count_nil] <;> omega) (fun r hr => by simp only [List.mem_cons, List.not_mem_nil, or_false] at hr; rcases hr with rfl | rfl <;> simp (disch := omega) only [List.cons_append, List.nil_append, read_same, read_other]) ?_
                refine OwG.rest [15, 16, 17, 18, 19, 20, 21] rfl (by kernel_rfl) (by kernel_rfl) ?_
                simp only [nl_cons, ↓pickL_nil, ↓pickL_cons, ↓nthO_0, ↓nthO_s, consO_some]
                refine Ow.soft rfl rfl rfl ?_
                refine Ow.permL (M := D2 ++ ((b4, O4) :: (br, prO (vp bw 0) v1 v2) :: (bw, wrO s a2 0) :: (D4 ++ (DG ++ [(ba, .cells (partC p).toArray 68 (0, 0)), (bc, .cells #[vi a] 3 (0, 0))])))) (by classical exact List.perm_iff_count.2 fun a => by simp only [List.count_append, List.count_cons, List.count_nil] <;> omega) ?_
                refine Ow.appendXG (e := 3) (k := 1) (new := natC a) (X := D2) v2 rfl rfl rfl rfl Tryd.underlying71 (id (by kernel_rfl) : aggT Tryd.prog 3 = some (false, 1)) (by kernel_rfl) (id (by kernel_rfl) : zeroV Tryd.prog 3 = some (vi 0)) rfl Tryd.underlying71 (by intro k h; cases h) hG2 (fun w' hw' => AppX.one1 (hw'.has bc (.cells #[vi a] 3 (0, 0)) (by simp)) (natC_len a) rfl) (by omega) (fun B5 v5 D5 hA5 hB5 hG5 hk51 hk52 hlk5 => ?_)
                have hN5 : New w.heap.size D5 := New.of_le fun q hq => by
                  rcases hk52 q hq with h | h
                  · exact hN2.le q h
                  · omega
                refine Ow.permL (M := (br, prO (vp bw 0) v1 v2) :: (bw, wrO s a2 0) :: (b4, O4) :: (D4 ++ (D5 ++ (DG ++ [(ba, .cells (partC p).toArray 68 (0, 0)), (bc, .cells #[vi a] 3 (0, 0))])))) (by classical exact List.perm_iff_count.2 fun a => by simp only [List.count_append, List.count_cons, List.count_nil] <;> omega) ?_
                with_reducible refine Ow.nil ?_
                refine ⟨(fun r hr => by simp only [List.mem_cons, List.not_mem_nil, or_false] at hr; rcases hr with rfl | rfl <;> simp (disch := omega) only [read_same, read_other]), ?_⟩
                have st4 : ∀ a, storeV (some (a, 1)) (some (prO (vp bw 0) v1 v2)) 1 v4 = some (prO (vp bw 0) v4 v2) := fun a => store_pr1 _ v1 v2 v4 a hG4.cell
                have st5 : ∀ a, storeV (some (a, 1)) (some (prO (vp bw 0) v4 v2)) 2 v5 = some (prO (vp bw 0) v4 v5) := fun a => store_pr2 _ v4 v2 v5 a hG5.cell
                refine kq uKM_1 ?_
                refine Ow.store rfl rfl rfl (ke (And.intro uKM_1 @st4)) ?_
                refine ko (And.intro uKM_1 @st5) ?_
                subst hO4
                refine Jump.mk ⟨1, l ++ [p], sp ++ [a], a2, 0, v4, v5, b4, p, D4, D5, DG ++ [(ba, .cells (partC p).toArray 68 (0, 0)), (bc, .cells #[vi a] 3 (0, 0))]⟩ rfl (by show n - (l ++ [p]).length + 1 < n - l.length + 1; simp; omega) ⟨hw4, hN4, hN5, hNG.app ⟨hwa, hwc, trivial⟩, by simpa using hG4, by simpa using hG5, by simp [hsl], hle2.2, by simp; omega, .inl ⟨rfl, ?_⟩⟩ rfl rfl
                rw [hpr]
                simp
              · refine Ow.buildSlice (e := 3) #[vi a] rfl rfl (by kernel_rfl) fun bc hbc hwc => ?_
                with_reducible refine Ow.nil ?_
                refine ⟨readB_appR (by simp [keys]), ?_⟩
                simp only [List.set_cons_zero, List.set_cons_succ, putF_some, setF_0, setF_s]
                refine OwG.one 8 _ (by kernel_rfl) rfl ?_
                refine Ow.permL (M := D1 ++ ((b4, O4) :: (br, prO (vp bw 0) v1 v2) :: (bw, wrO s a2 0) :: (D2 ++ (DG ++ [(ba, .cells (partC p).toArray 68 (0, 0)), (bc, .cells #[vi a] 3 (0, 0))])))) (by classical exact List.perm_iff_count.2 fun a => by simp only [List.count_append, List.count_cons, List.count_nil] <;> omega) ?_
                refine Ow.appendXG (e := 68) (k := 1) (new := partC p) (X := D1) v1 rfl rfl rfl rfl Tryd.underlying22 Tryd.ag68 (by kernel_rfl) zrPart (by rw [cells_part]; rfl) Tryd.underlying22 (by intro k h; cases h) hG1 (fun w' hw' => AppX.one1 (hw'.has ba (.cells (partC p).toArray 68 (0, 0)) (by simp)) (partC_len _) (partC_one _)) (by omega) (fun B4 v4 D4 hA4 hB4 hG4 hk41 hk42 hlk4 => ?_)
                have hN4 : New w.heap.size D4 := New.of_le fun q hq => by
                  rcases hk42 q hq with h | h
                  · exact hN1.le q h
                  · omega
                refine Ow.permL (M := (b4, O4) :: (br, prO (vp bw 0) v1 v2) :: (bw, wrO s a2 0) :: (D4 ++ (D2 ++ (DG ++ [(ba, .cells (partC p).toArray 68 (0, 0)), (bc, .cells #[vi a] 3 (0, 0))])))) (by classical exact List.perm_iff_count.2 fun a => by simp only [List.count_append, List.count_cons, List.count_nil] <;> omega) ?_
                with_reducible refine Ow.nil ?_
                refine ⟨(fun r hr => by simp only [List.mem_cons, List.not_mem_nil, or_false] at hr; rcases hr with rfl | rfl <;> simp (disch := omega) only [List.cons_append, List.nil_append, read_same, read_other]), ?_⟩
                simp only [List.set_cons_zero, List.set_cons_succ, putF_some, setF_0, setF_s]
                refine OwG.permL (M := (b4, O4) :: (br, prO (vp bw 0) v1 v2) :: (bw, wrO s a2 0) :: (D4 ++ (D2 ++ (DG ++ [(ba, .cells (partC p).toArray 68 (0, 0)), (bc, .cells #[vi a] 3 (0, 0))])))) (by classical exact List.perm_iff_count.2 fun a => by simp only [List.count_append, List.count_cons, List.count_nil] <;> omega) (fun r hr => by simp only [List.mem_cons, List.not_mem_nil, or_false] at hr; rcases hr with rfl | rfl <;> simp (disch := omega) only [List.cons_append, List.nil_append, read_same, read_other]) ?_
                refine OwG.rest [15, 16, 17, 18, 19, 20, 21] rfl (by kernel_rfl) (by kernel_rfl) ?_
                simp only [nl_cons, ↓pickL_nil, ↓pickL_cons, ↓nthO_0, ↓nthO_s, consO_some]
                refine Ow.soft rfl rfl rfl ?_
                refine Ow.permL (M := D2 ++ ((b4, O4) :: (br, prO (vp bw 0) v1 v2) :: (bw, wrO s a2 0) :: (D4 ++ (DG ++ [(ba, .cells (partC p).toArray 68 (0, 0)), (bc, .cells #[vi a] 3 (0, 0))])))) (by classical exact List.perm_iff_count.2 fun a => by simp only [List.count_append, List.count_cons, List.count_nil] <;> omega) ?_
                refine Ow.appendXG (e := 3) (k := 1) (new := natC a) (X := D2) v2 rfl rfl rfl rfl Tryd.underlying71 (id (by kernel_rfl) : aggT Tryd.prog 3 = some (false, 1)) (by kernel_rfl) (id (by kernel_rfl) : zeroV Tryd.prog 3 = some (vi 0)) rfl Tryd.underlying71 (by intro k h; cases h) hG2 (fun w' hw' => AppX.one1 (hw'.has bc (.cells #[vi a] 3 (0, 0)) (by simp)) (natC_len a) rfl) (by omega) (fun B5 v5 D5 hA5 hB5 hG5 hk51 hk52 hlk5 => ?_)
                have hN5 : New w.heap.size D5 := New.of_le fun q hq => by
                  rcases hk52 q hq with h | h
                  · exact hN2.le q h
                  · omega
                refine Ow.permL (M := (br, prO (vp bw 0) v1 v2) :: (bw, wrO s a2 0) :: (b4, O4) :: (D4 ++ (D5 ++ (DG ++ [(ba, .cells (partC p).toArray 68 (0, 0)), (bc, .cells #[vi a] 3 (0, 0))])))) (by classical exact List.perm_iff_count.2 fun a => by simp only [List.count_append, List.count_cons, List.count_nil] <;> omega) ?_
                with_reducible refine Ow.nil ?_
                refine ⟨(fun r hr => by simp only [List.mem_cons, List.not_mem_nil, or_false] at hr; rcases hr with rfl | rfl <;> simp (disch := omega) only [read_same, read_other]), ?_⟩
                have st4 : ∀ a, storeV (some (a, 1)) (some (prO (vp bw 0) v1 v2)) 1 v4 = some (prO (vp bw 0) v4 v2) := fun a => store_pr1 _ v1 v2 v4 a hG4.cell
                have st5 : ∀ a, storeV (some (a, 1)) (some (prO (vp bw 0) v4 v2)) 2 v5 = some (prO (vp bw 0) v4 v5) := fun a => store_pr2 _ v4 v2 v5 a hG5.cell
                refine kq uKM_1 ?_
                refine Ow.store rfl rfl rfl (ke (And.intro uKM_1 @st4)) ?_
                refine ko (And.intro uKM_1 @st5) ?_
                subst hO4
                refine Jump.mk ⟨1, l ++ [p], sp ++ [a], a2, 0, v4, v5, b4, p, D4, D5, DG ++ [(ba, .cells (partC p).toArray 68 (0, 0)), (bc, .cells #[vi a] 3 (0, 0))]⟩ rfl (by show n - (l ++ [p]).length + 1 < n - l.length + 1; simp; omega) ⟨hw4, hN4, hN5, hNG.app ⟨hwa, hwc, trivial⟩, by simpa using hG4, by simpa using hG5, by simp [hsl], hle2.2, by simp; omega, .inl ⟨rfl, ?_⟩⟩ rfl rfl
                rw [hpr]
                simp
            · refine Ow.buildSlice (e := 3) #[vi a] rfl rfl (by kernel_rfl) fun bc hbc hwc => ?_
              with_reducible refine Ow.nil ?_
              refine ⟨readB_appR (by simp [keys]), ?_⟩
              simp only [List.set_cons_zero, List.set_cons_succ, putF_some, setF_0, setF_s]
              refine OwG.one 7 _ (by kernel_rfl) rfl ?_
              refine Ow.buildSlice (e := 68) (partC p).toArray rfl rfl (slice_one (cs := partC p) Tryd.underlying22 Tryd.ag68 zrPart (by decide) rfl) fun ba hba hwa => ?_
              with_reducible refine Ow.nil ?_
              refine ⟨readB_appR (by simp [keys]), ?_⟩
              simp only [List.set_cons_zero, List.set_cons_succ, putF_some, setF_0, setF_s]
              refine OwG.one 8 _ (by kernel_rfl) rfl ?_
              refine Ow.permL (M := D1 ++ ((b4, O4) :: (br, prO (vp bw 0) v1 v2) :: (bw, wrO s a2 0) :: (D2 ++ (DG ++ [(ba, .cells (partC p).toArray 68 (0, 0)), (bc, .cells #[vi a] 3 (0, 0))])))) (by classical exact List.perm_iff_count.2 fun a => by simp only [List.count_append, List.count_cons, List.count_nil] <;> omega) ?_
              refine Ow.appendXG (e := 68) (k := 1) (new := partC p) (X := D1) v1 rfl rfl rfl rfl Tryd.underlying22 Tryd.ag68 (by kernel_rfl) zrPart (by rw [cells_part]; rfl) Tryd.underlying22 (by intro k h; cases h) hG1 (fun w' hw' => AppX.one1 (hw'.has ba (.cells (partC p).toArray 68 (0, 0)) (by simp)) (partC_len _) (partC_one _)) (by omega) (fun B4 v4 D4 hA4 hB4 hG4 hk41 hk42 hlk4 => ?_)
              have hN4 : New w.heap.size D4 := New.of_le fun q hq => by
                rcases hk42 q hq with h | h
                · exact hN1.le q h
                · omega
              refine Ow.permL (M := (b4, O4) :: (br, prO (vp bw 0) v1 v2) :: (bw, wrO s a2 0) :: (D4 ++ (D2 ++ (DG ++ [(ba, .cells (partC p).toArray 68 (0, 0)), (bc, .cells #[vi a] 3 (0, 0))])))) (by classical exact List.perm_iff_count.2 fun a => by simp only [List.count_append, List.count_cons, List.count_nil] <;> omega) ?_
              with_reducible refine Ow.nil ?_
              refine ⟨(fun r hr => by simp only [List.mem_cons, List.not_mem_nil, or_false] at hr; rcases hr with rfl | rfl <;> simp (disch := omega) only [List.cons_append, List.nil_append, read_same, read_other]), ?_⟩
              simp only [List.set_cons_zero, List.set_cons_succ, putF_some, setF_0, setF_s]
              refine OwG.permL (M := (b4, O4) :: (br, prO (vp bw 0) v1 v2) :: (bw, wrO s a2 0) :: (D4 ++ (D2 ++ (DG ++ [(ba, .cells (partC p).toArray 68 (0, 0)), (bc, .cells #[vi a] 3 (0, 0))])))) (by classical exact List.perm_iff_count.2 fun a => by simp only [List.count_append, List.count_cons, List.count_nil] <;> omega) (fun r hr => by simp only [List.mem_cons, List.not_mem_nil, or_false] at hr; rcases hr with rfl | rfl <;> simp (disch := omega) only [List.cons_append, List.nil_append, read_same, read_other]) ?_
              refine OwG.rest [15, 16, 17, 18, 19, 20, 21] rfl (by kernel_rfl) (by kernel_rfl) ?_
              simp only [nl_cons, ↓pickL_nil, ↓pickL_cons, ↓nthO_0, ↓nthO_s, consO_some]
              refine Ow.soft rfl rfl rfl ?_
              refine Ow.permL (M := D2 ++ ((b4, O4) :: (br, prO (vp bw 0) v1 v2) :: (bw, wrO s a2 0) :: (D4 ++ (DG ++ [(ba, .cells (partC p).toArray 68 (0, 0)), (bc, .cells #[vi a] 3 (0, 0))])))) (by classical exact List.perm_iff_count.2 fun a => by simp only [List.count_append, List.count_cons, List.count_nil] <;> omega) ?_
              refine Ow.appendXG (e := 3) (k := 1) (new := natC a) (X := D2) v2 rfl rfl rfl rfl Tryd.underlying71 (id (by kernel_rfl) : aggT Tryd.prog 3 = some (false, 1)) (by kernel_rfl) (id (by kernel_rfl) : zeroV Tryd.prog 3 = some (vi 0)) rfl Tryd.underlying71 (by intro k h; cases h) hG2 (fun w' hw' => AppX.one1 (hw'.has bc (.cells #[vi a] 3 (0, 0)) (by simp)) (natC_len a) rfl) (by omega) (fun B5 v5 D5 hA5 hB5 hG5 hk51 hk52 hlk5 => ?_)
              have hN5 : New w.heap.size D5 := New.of_le fun q hq => by
                rcases hk52 q hq with h | h
                · exact hN2.le q h
                · omega
              refine Ow.permL (M := (br, prO (vp bw 0) v1 v2) :: (bw, wrO s a2 0) :: (b4, O4) :: (D4 ++ (D5 ++ (DG ++ [(ba, .cells (partC p).toArray 68 (0, 0)), (bc, .cells #[vi a] 3 (0, 0))])))) (by classical exact List.perm_iff_count.2 fun a => by simp only [List.count_append, List.count_cons, List.count_nil] <;> omega) ?_
              with_reducible refine Ow.nil ?_
              refine ⟨(fun r hr => by simp only [List.mem_cons, List.not_mem_nil, or_false] at hr; rcases hr with rfl | rfl <;> simp (disch := omega) only [read_same, read_other]), ?_⟩
              have st4 : ∀ a, storeV (some (a, 1)) (some (prO (vp bw 0) v1 v2)) 1 v4 = some (prO (vp bw 0) v4 v2) := fun a => store_pr1 _ v1 v2 v4 a hG4.cell
              have st5 : ∀ a, storeV (some (a, 1)) (some (prO (vp bw 0) v4 v2)) 2 v5 = some (prO (vp bw 0) v4 v5) := fun a => store_pr2 _ v4 v2 v5 a hG5.cell
              refine kq uKM_1 ?_
              refine Ow.store rfl rfl rfl (ke (And.intro uKM_1 @st4)) ?_
              refine ko (And.intro uKM_1 @st5) ?_
              subst hO4
              refine Jump.mk ⟨1, l ++ [p], sp ++ [a], a2, 0, v4, v5, b4, p, D4, D5, DG ++ [(ba, .cells (partC p).toArray 68 (0, 0)), (bc, .cells #[vi a] 3 (0, 0))]⟩ rfl (by show n - (l ++ [p]).length + 1 < n - l.length + 1; simp; omega) ⟨hw4, hN4, hN5, hNG.app ⟨hwa, hwc, trivial⟩, by simpa using hG4, by simpa using hG5, by simp [hsl], hle2.2, by simp; omega, .inl ⟨rfl, ?_⟩⟩ rfl rfl
              rw [hpr]
              simp
        · have d2 : (e2 != 0) = true := bne_iff_ne.2 he
          rw [if_neg he] at hpr
          refine ko (And.intro uKM_1 @d2) ?_
          first | with_reducible refine ks [] (And.intro uKM_1 @d2) ?_ | refine kp (And.intro uKM_1 @d2) ?_
          refine Jump.mk ⟨0, l, sp, a2, e2, v1, v2, b4, _, D1, D2, DG⟩ rfl (by show 0 < n - l.length + 1; omega) ⟨hw4, hN1, hN2, hNG, hG1, hG2, hsl, hle2.2, hln, .inr ⟨rfl, ?_⟩⟩ rfl rfl
          rw [hpr]
          simp
    · obtain ⟨hlab, hpr⟩ := hg
      simp only at hlab
      subst hlab
      simp only [RdL, RdH] at hpr ⊢
      simp only [contP, hasL, Bool.or_false, Bool.false_or, Bool.or_true, Bool.true_or, Nat.reduceBEq, beq_self_eq_true, ↓reduceIte, Bool.false_eq_true]
      refine kv ?_
      try with_reducible refine thenK_normal ?_
      first | with_reducible refine ks [] uKM_1 ?_ | refine kp uKM_1 ?_
      refine ⟨_, (ke uKM_1), ?_⟩
      refine ⟨ext_two ⟨hw4, hNr⟩, rfl, v1, v2, _, by rw [hpr], ?_, ?_⟩
      · rw [hpr]; exact Gr.i hG1 fun c hc => by simp [hc]
      · rw [hpr]; exact Gr.i hG2 fun c hc => by simp [hc]
  · intro key
    repeat ((try with_reducible refine Cw.go [999999] ?_); (simp (disch := (first | assumption | omega | (simp only [lenS, lenT, UInt64.reduceToNat]; try omega))) only [↓Sx.S0, Sx.S1, Tryd.fx, uKM_1, Nat.reduceAdd, Nat.reducePow, Int.reducePow, Nat.reduceBEq, ↓reduceIte, UInt8.reduceToNat, UInt16.reduceToNat, UInt32.reduceToNat, UInt64.reduceToNat, Int.reduceToNat]))
    refine Ow.alloc rfl rfl zrPart fun b4 hb4 hw4 => ?_
    simp only [cells_agg, List.nil_append, List.cons_append]
    refine ko uKM_1 ?_
    repeat ((try with_reducible refine Cw.go [999999] ?_); (simp (disch := (first | assumption | omega | (simp only [lenS, lenT, UInt64.reduceToNat]; try omega))) only [↓Sx.S0, Sx.S1, Tryd.fx, uKM_1, Nat.reduceAdd, Nat.reducePow, Int.reducePow, Nat.reduceBEq, ↓reduceIte, UInt8.reduceToNat, UInt16.reduceToNat, UInt32.reduceToNat, UInt64.reduceToNat, Int.reduceToNat]))
    have key0 := fun f' => key (⟨1, [], [], a0, e0, .slice none 0 0, .slice none 0 0, b4, part0, [], [], []⟩) f'
    simp only [contP, hasL, Bool.or_false, Bool.false_or, Bool.or_true, Bool.true_or, Nat.reduceBEq, beq_self_eq_true, ↓reduceIte, Bool.false_eq_true] at key0
    clear key
    refine Cw.label ?_
    refine key0 _ ⟨hw4, trivial, trivial, trivial, Gr.nl, Gr.nl, rfl, ha, Nat.zero_le _, .inl ⟨rfl, ?_⟩⟩ ?_
    · rfl
    · rfl
end Go.Proofs
end
section
open Go Go.Proofs Go.Sx Go.StP Go.Flo
namespace Go.Proofs
set_option maxRecDepth 10000
set_option maxHeartbeats 400000
set_option linter.unusedSimpArgs false
/-! ### What a pack tells -/
abbrev NatSl (w : World) (v : Value) (l : List Nat) : Prop := SlV 1 natC 0 w v l
abbrev ObSl (w : World) (v : Value) (l : List ObL) : Prop := SlV 2 obC ob0 w v l
/-- A pack in a world. -/
def PackIn (w : World) (bp : Nat) (l : List PartL) (sp : List Nat) (ids : List IdL) (os : List ObL) : Prop :=
  ∃ v0 v1 v2 v3, w.heap[bp]? = some (pkO v0 v1 v2 v3) ∧ PartSl w v0 l ∧ NatSl w v1 sp ∧ IdS w v2 ids ∧ ObSl w v3 os
/-- A pack among known blocks. -/
def PackD (D : Heap) (bp : Nat) (l : List PartL) (sp : List Nat) (ids : List IdL) (os : List ObL) : Prop :=
  ∃ v0 v1 v2 v3, (bp, pkO v0 v1 v2 v3) ∈ D ∧ GrI D 68 3 v0 l.length (l.map partC).flatten ∧ GrI D 3 1 v1 sp.length (sp.map natC).flatten ∧ GrI D 54 32 v2 ids.length (ids.map idLC).flatten ∧ GrI D 36 2 v3 os.length (os.map obC).flatten
theorem PackD.mono {D D' : Heap} {bp : Nat} {l : List PartL} {sp : List Nat} {ids : List IdL} {os : List ObL} (h : PackD D bp l sp ids os) (hD : ∀ p, p ∈ D → p ∈ D') : PackD D' bp l sp ids os := by
  obtain ⟨v0, v1, v2, v3, h1, h2, h3, h4, h5⟩ := h
  exact ⟨v0, v1, v2, v3, hD _ h1, h2.mono hD, h3.mono hD, h4.mono hD, h5.mono hD⟩
theorem PackD.inW {w0 w : World} {D L : Heap} {bp : Nat} {l : List PartL} {sp : List Nat} {ids : List IdL} {os : List ObL} (h : PackD D bp l sp ids os) (hD : ∀ p, p ∈ D → p ∈ L) (hw : Hp w0 L w) : PackIn w bp l sp ids os := by
  obtain ⟨v0, v1, v2, v3, h1, h2, h3, h4, h5⟩ := h.mono hD
  exact ⟨v0, v1, v2, v3, hw.has _ _ h1, h2.slV hw rfl rfl partC_len, h3.slV hw rfl rfl natC_len, h4.slV hw rfl rfl idLC_len', h5.slV hw rfl rfl obC_len⟩
theorem PackIn.old {w w' : World} {L : Heap} {bp : Nat} {l : List PartL} {sp : List Nat} {ids : List IdL} {os : List ObL} (h : PackIn w bp l sp ids os) (hw : Hp w L w') (hn : New w.heap.size L) : PackIn w' bp l sp ids os := by
  obtain ⟨v0, v1, v2, v3, h1, h2, h3, h4, h5⟩ := h
  exact ⟨v0, v1, v2, v3, by rw [hw.old bp (Array.getElem?_eq_some_iff.1 h1).1 (hn.not (Array.getElem?_eq_some_iff.1 h1).1)]; exact h1, h2.oldN hw hn, h3.oldN hw hn, h4.oldN hw hn, h5.oldN hw hn⟩
theorem nilPk (b o : Nat) : binX Tryd.prog .eql 29 (vp b o) (.pointer none) = some (.bool false) := by
  simp [binX, eqX, plainV, eqNilV, Tryd.underlying29, vp]
theorem row_obj {w : World} {v : Value} {l : List ObL} {b off : Nat} {arr : Array Value} {E : TypeId} {fz : Nat × Nat} (h : RowS 2 obC ob0 w v l b off arr E fz) {k : Nat} (hk : k < l.length) :
    loadV (some (true, 2)) (some (.cells arr E fz)) (off + k * 2) = some (obV (l.getD k ob0).k (l.getD k ob0).t) := RowS.load h obC_len (by omega) hk
theorem row_natG {w : World} {v : Value} {l : List Nat} {b off : Nat} {arr : Array Value} {E : TypeId} {fz : Nat × Nat} (h : RowS 1 natC 0 w v l b off arr E fz) {k : Nat} (hk : k < l.length) (n : Nat) :
    loadV (some (false, n)) (some (.cells arr E fz)) (off + k) = some (vi (l.getD k 0)) := by
  have := h.cell (j := 0) (n := n) hk (by omega)
  rwa [Nat.mul_one, Nat.add_zero] at this
set_option linter.defProp false
def uKQ_1 := And.intro (And.intro (And.intro (@rdIn_v8) (And.intro (@rdIn_vi) (@load_pk0))) (And.intro (@load_pk1) (And.intro (@load_pk2) (@load_pk3)))) (And.intro (And.intro (@nilPk) (And.intro (@load_ob) (@load_ob0))) (And.intro (@load_ob1) (And.intro (@store_ob) (@load_idb))))
theorem PLen_spec (bp : Nat) (l : List PartL) (sp : List Nat) (ids : List IdL) (os : List ObL) (w : World) (h : PackIn w bp l sp ids os) :
    Rets Tryd.prog 78 #[vp bp 0] w (fun v D => v = vi l.length ∧ D = []) := by
  obtain ⟨v0, v1, v2, v3, h1, h2, h3, h4, h5⟩ := h
  have ln := h2.len
  refine Rets.enterV Tryd.func78 rfl (rs := [.tmp 2]) Tryd.results78 Tryd.ntmps78 ?_
  refine kf ?_
  first | with_reducible refine ks [] (And.intro uKQ_1 ( And.intro @h1 (@ln))) ?_ | refine kp (And.intro uKQ_1 ( And.intro @h1 (@ln))) ?_
  refine ⟨_, (ke uKQ_1), trivial, ?_⟩
  rfl
def hasV (l : List PartL) (i : Int) : Bool := decide (0 ≤ i) && decide (i < (l.length : Int))
theorem Phas_spec (bp : Nat) (i : Int) (l : List PartL) (sp : List Nat) (ids : List IdL) (os : List ObL) (w : World) (h : PackIn w bp l sp ids os) :
    Rets Tryd.prog 39 #[vp bp 0, vi i] w (fun v D => v = .bool (hasV l i) ∧ D = []) := by
  refine Rets.enterV Tryd.func39 rfl (rs := [.tmp 4]) Tryd.results39 Tryd.ntmps39 ?_
  refine kf ?_
  unfold hasV
  by_cases hi : 0 ≤ i
  · have d1 : decide (0 ≤ i) = true := decide_eq_true hi
    rw [d1, Bool.true_and]
    first | with_reducible refine ks [] (And.intro uKQ_1 @d1) ?_ | refine kp (And.intro uKQ_1 @d1) ?_
    refine Ow.callFV rfl Tryd.call78 (fun w' hw' => PLen_spec bp l sp ids os w' (h.old hw' trivial)) ?_
    refine ko (And.intro uKQ_1 @d1) ?_
    first | with_reducible refine ks [] uKQ_1 ?_ | refine kp uKQ_1 ?_
    refine ⟨_, (ke uKQ_1), trivial, ?_⟩
    rfl
  · have d1 : decide (0 ≤ i) = false := decide_eq_false hi
    rw [d1, Bool.false_and]
    first | with_reducible refine ks [] (And.intro uKQ_1 @d1) ?_ | refine kp (And.intro uKQ_1 @d1) ?_
    refine ⟨_, (ke uKQ_1), trivial, ?_⟩
    rfl
theorem PSpot_spec (bp : Nat) (i : Int) (l : List PartL) (sp : List Nat) (ids : List IdL) (os : List ObL) (w : World) (h : PackIn w bp l sp ids os) (hsp : sp.length = l.length) :
    Rets Tryd.prog 12 #[vp bp 0, vi i] w (fun v D => v = vi (if hasV l i then ((sp.getD i.toNat 0 : Nat) : Int) else 0) ∧ D = []) := by
  obtain ⟨v0, v1, v2, v3, h1, h2, h3, h4, h5⟩ := id h
  obtain ⟨b, off, arr, E, fz, hr⟩ := h3.row
  refine Rets.enterV Tryd.func12 rfl (rs := [.tmp 4]) Tryd.results12 Tryd.ntmps12 ?_
  refine kf ?_
  first | with_reducible refine ks [] uKQ_1 ?_ | refine kp uKQ_1 ?_
  refine Ow.callFV rfl Tryd.call39 (fun w' hw' => Phas_spec bp i l sp ids os w' (h.old hw' trivial)) ?_
  cases hc : hasV l i with
  | false =>
    refine ko uKQ_1 ?_
    first | with_reducible refine ks [] uKQ_1 ?_ | refine kp uKQ_1 ?_
    refine ⟨_, (ke uKQ_1), trivial, ?_⟩
    rfl
  | true =>
    unfold hasV at hc
    simp only [Bool.and_eq_true, decide_eq_true_eq] at hc
    obtain ⟨k, rfl⟩ : ∃ k : Nat, i = (k : Int) := ⟨i.toNat, by omega⟩
    have hk : k < sp.length := by omega
    have hx := hr.has (by omega)
    have ix := hr.idx false k hk
    rw [Nat.mul_one] at ix
    have ld := row_natG hr hk
    refine ko uKQ_1 ?_
    first | with_reducible refine ks [] (And.intro uKQ_1 ( And.intro @h1 ( And.intro @hx ( And.intro @ix (@ld))))) ?_ | refine kp (And.intro uKQ_1 ( And.intro @h1 ( And.intro @hx ( And.intro @ix (@ld))))) ?_
    refine ⟨_, (ke uKQ_1), trivial, ?_⟩
    rfl
theorem PId_spec (bp : Nat) (i : Int) (l : List PartL) (sp : List Nat) (ids : List IdL) (os : List ObL) (w : World) (h : PackIn w bp l sp ids os) (hsp : ids.length = l.length) :
    Rets Tryd.prog 24 #[vp bp 0, vi i] w (fun v D => v = .agg (a8 (if hasV l i then ids.getD i.toNat id0 else id0).l) ∧ D = []) := by
  obtain ⟨v0, v1, v2, v3, h1, h2, h3, h4, h5⟩ := id h
  obtain ⟨b, off, arr, E, fz, hr⟩ := h4.row
  have hi0 := id0.h
  refine Rets.enterV Tryd.func24 rfl (rs := [.cell 4 54]) Tryd.results24 Tryd.ntmps24 ?_
  refine kf ?_
  first | with_reducible refine ks [] uKQ_1 ?_ | refine kp uKQ_1 ?_
  refine Ow.alloc rfl rfl zrIdE fun b4 hb4 hw4 => ?_
  simp only [cells_agg, List.nil_append, List.cons_append]
  refine ko uKQ_1 ?_
  first | with_reducible refine ks [] uKQ_1 ?_ | refine kp uKQ_1 ?_
  refine Ow.callFV rfl Tryd.call39 (fun w' hw' => Phas_spec bp i l sp ids os w' (h.old hw' ⟨hw4, trivial⟩)) ?_
  cases hc : hasV l i with
  | false =>
    refine ko uKQ_1 ?_
    first | with_reducible refine ks [] uKQ_1 ?_ | refine kp uKQ_1 ?_
    refine Ow.build (.agg (a8 id0.l)) rfl build_idZ ?_
    refine ko uKQ_1 ?_
    first | with_reducible refine ks [] uKQ_1 ?_ | refine kp uKQ_1 ?_
    refine ⟨_, (ke uKQ_1), ⟨hw4, trivial⟩, ?_⟩
    rfl
  | true =>
    unfold hasV at hc
    simp only [Bool.and_eq_true, decide_eq_true_eq] at hc
    obtain ⟨k, rfl⟩ : ∃ k : Nat, i = (k : Int) := ⟨i.toNat, by omega⟩
    have hk : k < ids.length := by omega
    have hx := hr.has (by omega)
    have hbl := hr.lt (by omega)
    have hbp := (Array.getElem?_eq_some_iff.1 h1).1
    have hn4 : b4 ≠ b := by omega
    have hn4p : b4 ≠ bp := by omega
    have ix := hr.idx true k hk
    have ld := row_id hr hk
    have hil := (ids.getD k id0).h
    refine ko uKQ_1 ?_
    first | with_reducible refine ks [] (And.intro uKQ_1 ( And.intro @h1 ( And.intro @hx ( And.intro @ix (@ld))))) ?_ | refine kp (And.intro uKQ_1 ( And.intro @h1 ( And.intro @hx ( And.intro @ix (@ld))))) ?_
    refine ⟨_, (ke uKQ_1), ⟨hw4, trivial⟩, ?_⟩
    rfl
theorem PObject_spec (bp : Nat) (i : Int) (l : List PartL) (sp : List Nat) (ids : List IdL) (os : List ObL) (w : World) (h : PackIn w bp l sp ids os) (hsp : os.length = l.length) :
    Rets Tryd.prog 13 #[vp bp 0, vi i] w (fun v D => v = .tuple #[obV (if hasV l i then os.getD i.toNat ob0 else ob0).k (if hasV l i then os.getD i.toNat ob0 else ob0).t, .bool (hasV l i)] ∧ D = []) := by
  obtain ⟨v0, v1, v2, v3, h1, h2, h3, h4, h5⟩ := id h
  obtain ⟨b, off, arr, E, fz, hr⟩ := h5.row
  refine Rets.enterV Tryd.func13 rfl (rs := [.cell 4 36, .tmp 5]) Tryd.results13 Tryd.ntmps13 ?_
  refine kf ?_
  first | with_reducible refine ks [] uKQ_1 ?_ | refine kp uKQ_1 ?_
  refine Ow.alloc rfl rfl zrOb fun b4 hb4 hw4 => ?_
  simp only [cells_agg, List.nil_append, List.cons_append]
  refine ko uKQ_1 ?_
  first | with_reducible refine ks [] uKQ_1 ?_ | refine kp uKQ_1 ?_
  refine Ow.callFV rfl Tryd.call39 (fun w' hw' => Phas_spec bp i l sp ids os w' (h.old hw' ⟨hw4, trivial⟩)) ?_
  cases hc : hasV l i with
  | false =>
    refine ko uKQ_1 ?_
    first | with_reducible refine ks [] uKQ_1 ?_ | refine kp uKQ_1 ?_
    refine Ow.build (obV 0 []) rfl build_ob0 ?_
    refine ko uKQ_1 ?_
    first | with_reducible refine ks [] uKQ_1 ?_ | refine kp uKQ_1 ?_
    refine ⟨_, (ke uKQ_1), ⟨hw4, trivial⟩, ?_⟩
    rfl
  | true =>
    unfold hasV at hc
    simp only [Bool.and_eq_true, decide_eq_true_eq] at hc
    obtain ⟨k, rfl⟩ : ∃ k : Nat, i = (k : Int) := ⟨i.toNat, by omega⟩
    have hk : k < os.length := by omega
    have hx := hr.has (by omega)
    have hbl := hr.lt (by omega)
    have hbp := (Array.getElem?_eq_some_iff.1 h1).1
    have hn4 : b4 ≠ b := by omega
    have hn4p : b4 ≠ bp := by omega
    have ix := hr.idx true k hk
    have ld := row_obj hr hk
    refine ko uKQ_1 ?_
    first | with_reducible refine ks [] (And.intro uKQ_1 ( And.intro @h1 ( And.intro @hx ( And.intro @ix (@ld))))) ?_ | refine kp (And.intro uKQ_1 ( And.intro @h1 ( And.intro @hx ( And.intro @ix (@ld))))) ?_
    refine ⟨_, (ke uKQ_1), ⟨hw4, trivial⟩, ?_⟩
    rfl
theorem PFind_spec (bp : Nat) (x : IdL) (l : List PartL) (sp : List Nat) (ids : List IdL) (os : List ObL) (w : World) (h : PackIn w bp l sp ids os) (hl : ids.length < 1000000) :
    Rets Tryd.prog 23 #[vp bp 0, .agg (a8 x.l)] w (fun v D => v = vi (idxG x ids 0) ∧ D = []) := by
  obtain ⟨v0, v1, v2, v3, h1, h2, h3, h4, h5⟩ := id h
  have hbp := (Array.getElem?_eq_some_iff.1 h1).1
  refine Rets.enterV Tryd.func23 rfl (rs := [.tmp 4]) Tryd.results23 Tryd.ntmps23 ?_
  refine kf ?_
  first | with_reducible refine ks [] uKQ_1 ?_ | refine kp uKQ_1 ?_
  refine Ow.box rfl rfl fun b1 hb1 hw1 => ?_
  simp only [ev_tmp, getF_0, getF_s, cells_agg, List.nil_append]
  have hn : b1 ≠ bp := by omega
  refine ko uKQ_1 ?_
  first | with_reducible refine ks [] uKQ_1 ?_ | refine kp uKQ_1 ?_
  refine Cw.regionS [b1, bp] [0, 1, 2, 3, 4, 5, 6] [] (by kernel_rfl) (by kernel_rfl) (by kernel_rfl) ?_
  simp only [nl_cons, ↓pickL_nil, ↓pickL_cons, ↓nthO_0, ↓nthO_s, consO_some]
  refine kq (And.intro uKQ_1 @h1) ?_
  refine Ow.callFV rfl Tryd.call63 (fun w' hw' => IndexId_spec v2 ids x w' (h4.oldN hw' ⟨hw1, trivial⟩) hl) ?_
  refine kq uKQ_1 ?_
  first | with_reducible refine ks [] uKQ_1 ?_ | refine kp uKQ_1 ?_
  refine ⟨_, (ke uKQ_1), ⟨hw1, trivial⟩, ?_⟩
  rfl
/-! ### Parts, cloned -/
theorem nilParts (b o n c : Nat) : binX Tryd.prog .eql 22 (vsl b o n c) (.slice none 0 0) = some (.bool false) := by
  simp [binX, eqX, plainV, eqNilV, Tryd.underlying22, vsl]
theorem nilParts' : binX Tryd.prog .eql 22 (.slice none 0 0) (.slice none 0 0) = some (.bool true) := by
  simp [binX, eqX, plainV, eqNilV, Tryd.underlying22]
theorem ClonePart_spec (v : Value) (ls : List PartL) (w : World) (hv : PartSl w v ls) (hl : ls.length < 1000000) :
    Rets Tryd.prog 40 #[v] w (XS w [] (fun v D => GrI D 68 3 v ls.length (ls.map partC).flatten)) := by
  obtain ⟨b, off, c, arr, E, fz, hr, hc, ⟨rfl, rfl, rfl⟩ | ⟨rfl, hb, hsz⟩⟩ := hv
  · refine Rets.enterX Tryd.func40 rfl (rs := [.tmp 2]) Tryd.results40 Tryd.ntmps40 (fun p hp => by cases hp) (by simp [keys]) ?_
    refine kf ?_
    first | with_reducible refine ks [] (And.intro uKQ_1 ( And.intro @nilParts (@nilParts'))) ?_ | refine kp (And.intro uKQ_1 ( And.intro @nilParts (@nilParts'))) ?_
    refine ⟨_, (ke uKQ_1), ?_⟩
    exact ⟨Ext.refl _ _, Gr.i (X := []) Gr.nl fun p hp => hp⟩
  · have hbl := (Array.getElem?_eq_some_iff.1 hb).1
    have hv : PartSl w (vsl b off ls.length c) ls := ⟨b, off, c, arr, E, fz, hr, hc, .inr ⟨rfl, hb, hsz⟩⟩
    refine Rets.enterX Tryd.func40 rfl (rs := [.tmp 2]) Tryd.results40 Tryd.ntmps40 (fun p hp => by cases hp) (by simp [keys]) ?_
    refine kf ?_
    first | with_reducible refine ks [] (And.intro uKQ_1 ( And.intro @nilParts (@nilParts'))) ?_ | refine kp (And.intro uKQ_1 ( And.intro @nilParts (@nilParts'))) ?_
    refine Ow.buildSlice (e := 68) #[] rfl rfl (by kernel_rfl) fun b1 hb1 hw1 => ?_
    refine ko uKQ_1 ?_
    refine Ow.appendG (e := 68) (k := ls.length) (new := (ls.map partC).flatten) (vsl b1 0 0 0) rfl rfl rfl Tryd.underlying22 Tryd.ag68 (by kernel_rfl) zrPart (by rw [cells_part, List.size_toArray, partC_len]) Tryd.underlying22 (by intro k h; cases h) (.inr ⟨rfl, rfl, b1, rfl, look_new hb1⟩) (fun w' hw' => (hv.oldN hw' ⟨hw1, trivial⟩).appX partC_len partC_one) (flat_len partC_len ls) (by omega) (fun v2 L2 hB hB2 hG hS => ?_)
    rw [Nat.zero_add, List.nil_append] at hB
    refine ko uKQ_1 ?_
    first | with_reducible refine ks [] uKQ_1 ?_ | refine kp uKQ_1 ?_
    refine ⟨_, (ke uKQ_1), ?_⟩
    exact ⟨((Ext.refl w []).app (o := Obj.cells #[] 68 (0, 0)) hw1).grew hG, Gr.i hB fun p hp => hp⟩
theorem PParts_spec (bp : Nat) (l : List PartL) (sp : List Nat) (ids : List IdL) (os : List ObL) (w : World) (h : PackIn w bp l sp ids os) (hl : l.length < 1000000) :
    Rets Tryd.prog 15 #[vp bp 0] w (XS w [] (fun v D => GrI D 68 3 v l.length (l.map partC).flatten)) := by
  obtain ⟨v0, v1, v2, v3, h1, h2, h3, h4, h5⟩ := id h
  refine Rets.enterX Tryd.func15 rfl (rs := [.tmp 2]) Tryd.results15 Tryd.ntmps15 (fun p hp => by cases hp) (by simp [keys]) ?_
  refine kf ?_
  first | with_reducible refine ks [] (And.intro uKQ_1 @h1) ?_ | refine kp (And.intro uKQ_1 @h1) ?_
  refine Ow.callX (Y := []) (by simp) rfl rfl Tryd.call40 (fun w' hw' hX hn => ClonePart_spec v0 l w' (h2.oldN hw' trivial) hl) (fun v2 D2 hC2 hS2 => ?_)
  rw [List.append_nil]
  refine ko uKQ_1 ?_
  first | with_reducible refine ks [] uKQ_1 ?_ | refine kp uKQ_1 ?_
  refine ⟨_, (ke uKQ_1), ?_⟩
  exact ⟨Ext.of_new (New.of_le fun c hc => (hC2.new c hc).elim (fun h => by cases h) fun h => h.2), hS2⟩
end Go.Proofs
end
section
open Go Go.Proofs Go.Sx Go.StP Go.Flo
namespace Go.Proofs
set_option maxRecDepth 10000
set_option maxHeartbeats 400000
set_option linter.unusedSimpArgs false
/-! ### pack.Write -/
theorem came_newP {w0 : World} {L X D : Heap} (hC : Came w0 L X D) (hX : New w0.heap.size X) : New w0.heap.size D := New.of_le fun c hc => by
  rcases hC.new c hc with h | ⟨-, h⟩
  · exact hX.le c h
  · exact h
theorem GlobC.newP {w0 w : World} {L : Heap} (hg : GlobC w0) (h : Hp w0 L w) (hn : New w0.heap.size L) : GlobC w :=
  hg.of h (hn.not (by obtain ⟨e, f, h⟩ := hg; exact (Array.getElem?_eq_some_iff.1 h).1))
theorem zrPk : zeroV Tryd.prog 73 = some (.agg #[.slice none 0 0, .slice none 0 0, .slice none 0 0, .slice none 0 0]) := id (by kernel_rfl)
theorem build_pk1 {w : World} {v0 : Value} {l : List PartL} (hv : PartSl w v0 l) : buildV (plcT Tryd.prog 73) (zeroV Tryd.prog 73) [(0, v0)] = some (.agg #[v0, .slice none 0 0, .slice none 0 0, .slice none 0 0]) := by
  rw [show plcT Tryd.prog 73 = some [(0, 1), (1, 1), (2, 1), (3, 1)] from id (by kernel_rfl), zrPk]
  obtain ⟨b, off, c, arr, E, fz, hr, hc, ⟨rfl, rfl, rfl⟩ | ⟨rfl, hb, hsz⟩⟩ := hv <;> rfl
theorem slV_lt {α : Type} {m : Nat} {enc : α → List Value} {z : α} {w : World} {v : Value} {l : List α} (hv : SlV m enc z w v l) {b : Nat} (hb : slB v = some b) : b < w.heap.size := by
  obtain ⟨bb, off, c, arr, E, fz, hr, hc, ⟨rfl, -, -⟩ | ⟨rfl, h, -⟩⟩ := hv
  · cases hb
  · cases hb; exact (Array.getElem?_eq_some_iff.1 h).1
theorem partsB_snoc : ∀ (l : List PartL) (i g : Nat), g < l.length → partsB i (l.take (g + 1)) = partsB i (l.take g) ++ pieceB (i + g) (l.getD g part0)
  | [], _, _, h => absurd h (Nat.not_lt_zero _)
  | p :: r, i, 0, _ => by simp [partsB]
  | p :: r, i, g + 1, h => by
    have := partsB_snoc r (i + 1) g (by simpa using h)
    rw [List.take_succ_cons, partsB, this, List.take_succ_cons, partsB, List.getD_cons_succ, List.append_assoc, show i + 1 + g = i + (g + 1) by omega]
/-- Texts of parts are not too long. -/
def SmallP (l : List PartL) : Prop := ∀ g, g < l.length → (l.getD g part0).x.length ≤ 17000000
theorem fill_small {l : List PartL} {q : List IdL × List ObL} (h : fillV l = some q) : SmallP l := by
  unfold fillV at h
  cases ha : allV l with
  | error e => rw [ha] at h; cases h
  | ok ts =>
    unfold allV at ha
    split at ha
    · cases ha
    · intro k hk
      have hp := allGo_at _ _ ha k hk
      unfold partV at hp
      cases hq : pathV l (k : Nat) with
      | error e => rw [hq] at hp; cases hp
      | ok p =>
        rw [hq] at hp
        change foldT l p = .ok _ at hp
        have hpk : ∃ r, p = k :: r := by
          rcases pathV_cons hk hq with ⟨rfl, -⟩ | ⟨b, q, rfl, -⟩
          · exact ⟨[], rfl⟩
          · exact ⟨q, rfl⟩
        obtain ⟨r, rfl⟩ := hpk
        unfold foldT at hp
        cases hf : foldT l r with
        | error e => rw [hf] at hp; cases hp
        | ok t =>
          rw [hf] at hp
          change (if (textV (l.getD k part0) t).2 = 0 then _ else _) = _ at hp
          split at hp
          · rename_i h0
            unfold textV at h0
            split at h0
            · unfold applyV at h0
              split at h0
              · exact absurd (show (2 : Int) = 0 from h0) (by decide)
              · rename_i p' hd; exact deltaR_len hd
            · split at h0
              · exact absurd (show (19 : Int) = 0 from h0) (by decide)
              · omega
          · cases hp
theorem SmallP.bnd {l : List PartL} (h : SmallP l) : BndL l := fun g hg => Nat.lt_of_le_of_lt (h g hg) (by omega)
theorem pieceB_len {i : Nat} {p : PartL} (h : p.x.length ≤ 17000000) : (pieceB i p).length ≤ 17000012 := by
  have h1 := numL_clamp_len (farV i p)
  have h2 := numL_clamp_len (p.x.length : Int)
  unfold pieceB textL
  rw [List.length_append, List.length_append]
  omega
theorem partsB_len {l : List PartL} (h : SmallP l) : ∀ g, g ≤ l.length → (partsB 0 (l.take g)).length ≤ g * 17000012
  | 0, _ => by simp [partsB]
  | g + 1, hg => by
    rw [partsB_snoc l 0 g hg, List.length_append]
    have := partsB_len h g (by omega)
    have := pieceB_len (i := 0 + g) (h g hg)
    omega
theorem fill_base {l : List PartL} {q : List IdL × List ObL} (h : fillV l = some q) {k : Nat} (hk : k < l.length) (hd : (l.getD k part0).d = true) : 0 ≤ (l.getD k part0).b ∧ (l.getD k part0).b < k := by
  unfold fillV at h
  cases ha : allV l with
  | error e => rw [ha] at h; cases h
  | ok ts =>
    unfold allV at ha
    split at ha
    · cases ha
    · have hp := allGo_at _ _ ha k hk
      unfold partV at hp
      cases hq : pathV l (k : Nat) with
      | error e => rw [hq] at hp; cases hp
      | ok p =>
        rcases pathV_cons hk hq with ⟨-, hd', -⟩ | ⟨b, q, -, -, hb, hlt, -⟩
        · rw [hd] at hd'; cases hd'
        · rw [hb]; omega
structure PwG where
  k : Nat
  D : Heap
set_option linter.defProp false
def uKR_1 := And.intro (And.intro (And.intro (@rdIn_v8) (@rdIn_vi)) (And.intro (@load_pk0) (And.intro (@load_part0) (@load_part1)))) (And.intro (And.intro (@load_part2) (And.intro (@load_partw) (@cells_part))) (And.intro (@store_part) (And.intro (@Sx.tup2_0) (@Sx.tup2_1))))
theorem WriteP_spec (v0 : Value) (l : List PartL) (w : World) (hv : PartSl w v0 l) (hG : GlobE w) (hC : GlobC w) (hb : BndL l) (hl : l.length < 1000000) :
    Rets Tryd.prog 9 #[v0] w (fun v D => v = .tuple #[vs (writeV l).1, vi (writeV l).2] ∧ D = []) := by
  have hgr : 3 < w.heap.size := by obtain ⟨e0, e1, f0, f1, h0, h1⟩ := hG; exact (Array.getElem?_eq_some_iff.1 h1).1
  obtain ⟨b1, off, arr, E, fz, hr⟩ := hv.row
  have ln := hv.len
  refine Rets.enterV Tryd.func9 rfl (rs := [.tmp 2, .tmp 3]) Tryd.results9 Tryd.ntmps9 ?_
  refine kf ?_
  first | with_reducible refine ks [4, 1000011] uKR_1 ?_ | refine kp uKR_1 ?_
  refine Ow.build (.agg #[v0, .slice none 0 0, .slice none 0 0, .slice none 0 0]) rfl (build_pk1 hv) ?_
  refine ko uKR_1 ?_
  refine Ow.box rfl rfl fun b4 hb4 hw4 => ?_
  simp only [ev_tmp, getF_0, getF_s, cells_agg, List.nil_append]
  refine Ow.permL (M := [(b4, pkO v0 (.slice none 0 0) (.slice none 0 0) (.slice none 0 0))]) (List.Perm.refl _) ?_
  refine ko uKR_1 ?_
  first | with_reducible refine ks [] uKR_1 ?_ | refine kp uKR_1 ?_
  refine Ow.callX (Y := []) (by simp) rfl rfl Tryd.call25 (fun w' hw' hX hn => fill_spec b4 v0 (.slice none 0 0) l w' (hv.oldN hw' ⟨hw4, trivial⟩) (hG.new hw' ⟨hw4, trivial⟩) hb hl (hX _ List.mem_cons_self) (fun h => by have := slV_lt hv h; omega) (by omega)) (fun v13 D13 hC13 hS13 => ?_)
  have hN13 : New w.heap.size D13 := came_newP hC13 ⟨hw4, trivial⟩
  rw [List.append_nil]
  unfold FillS at hS13
  unfold writeV
  cases hf : fillV l with
  | none =>
    rw [hf] at hS13
    have hS13' : v13 = .bool false := hS13
    subst hS13'
    refine ko uKR_1 ?_
    first | with_reducible refine ks [] uKR_1 ?_ | refine kp uKR_1 ?_
    refine ⟨_, (ke uKR_1), hN13, ?_⟩
    rfl
  | some q =>
    rw [hf] at hS13
    obtain ⟨rfl, -⟩ := hS13
    have hx := fill_small hf
    have hll : l.length ≤ 200 := by
      unfold fillV at hf
      cases ha : allV l with
      | error e => rw [ha] at hf; cases hf
      | ok ts => exact (allV_len ha).2.1
    refine ko uKR_1 ?_
    refine Cw.forgetN [] (by exact hN13) (by intro p hp; simp only [List.mem_cons, List.not_mem_nil, or_false] at hp ⊢; all_goals (first | (rcases hp with rfl | hp <;> simp_all) | (subst hp; simp) | simp_all)) (by simp [keys] <;> omega) ?_
    first | with_reducible refine ks [] uKR_1 ?_ | refine kp uKR_1 ?_
    refine Ow.alloc rfl rfl Tryd.zr79 fun b5 hb5 hw5 => ?_
    refine ko uKR_1 ?_
    have hZ : BldAt b5 [] [(b5, .cells #[.pointer none, .slice none 0 0] 79 (0, 0))] := BldAt.zeroK b5 (look_same _ _ _)
    refine Ow.buildSlice (e := 9) #[vs [83, 80, 75, 49]] rfl rfl (by kernel_rfl) fun b15 hb15 hw15 => ?_
    have h515 : b5 < b15 := above_to hb15 (by simp [keys])
    refine ko uKR_1 ?_
    refine Ow.callX (Y := [(b15, .cells #[vs [83, 80, 75, 49]] 9 (0, 0))]) (by simp) rfl rfl Tryd.call26 (fun w' hw' hX hn => WRaw_spec b5 [(b5, .cells #[.pointer none, .slice none 0 0] 79 (0, 0))] [] _ b15 0 [[83, 80, 75, 49]] _ _ _ w' hZ hX hn (StrS.lit [[83, 80, 75, 49]] rfl rfl (hw'.has _ _ (List.mem_cons_of_mem _ List.mem_cons_self))) (fun _ hm => by simp [keys] at hm; omega) (by simp) (by simp)) (fun v16 D16 hC16 hS16 => ?_)
    obtain ⟨rfl, hB16⟩ := hS16
    have hN16 : New w.heap.size D16 := came_newP hC16 ⟨hw5, trivial⟩
    refine ko uKR_1 ?_
    first | with_reducible refine ks [] (And.intro uKR_1 @ln) ?_ | refine kp (And.intro uKR_1 @ln) ?_
    refine Ow.buildSlice (e := 3) #[vi l.length] rfl rfl (by kernel_rfl) fun b19 hb19 hw19 => ?_
    refine ko uKR_1 ?_
    rw [List.append_assoc]
    refine Ow.callX (Y := [(b15, .cells #[vs [83, 80, 75, 49]] 9 (0, 0)), (b19, .cells #[vi l.length] 3 (0, 0))]) (by simp) rfl rfl Tryd.call27 (fun w' hw' hX hn => WNumber_spec b5 D16 _ _ b19 0 [(l.length : Int)] _ _ _ w' hB16 hX hn (OneS.lit [(l.length : Int)] rfl rfl (hw'.has b19 (.cells #[vi l.length] 3 (0, 0)) (by simp))) (fun _ hm => Nat.lt_irrefl _ (above_to hb19 (by rw [keys_app]; exact List.mem_append_left _ hm))) (by simp)) (fun v20 D20 hC20 hS20 => ?_)
    obtain ⟨rfl, hB20⟩ := hS20
    rw [numsL_one] at hB20
    have hN20 : New w.heap.size D20 := came_newP hC20 hN16
    have hB0 : BldAt b5 (magB ++ (numL (clampN (l.length : Int)) ++ partsB 0 (l.take 0))) (D20 ++ [(b15, .cells #[vs [83, 80, 75, 49]] 9 (0, 0)), (b19, .cells #[vi l.length] 3 (0, 0))]) := by
      have := hB20.app (Y := [(b15, Obj.cells #[vs [83, 80, 75, 49]] 9 (0, 0)), (b19, .cells #[vi l.length] 3 (0, 0))])
      simpa [magB, partsB] using this
    refine ko uKR_1 ?_
    first | with_reducible refine ks [] (And.intro uKR_1 @ln) ?_ | refine kp (And.intro uKR_1 @ln) ?_
    have hnl := numL_clamp_len (l.length : Int)
    refine Cw.loopG (G := PwG) [24, 25, 26, 27, 7, 6, 8, 28, 29, 30, 31, 32, 33, 34, 35, 36, 37, 38, 39, 40, 41, 23] (fun g => [(23, vi g.k)]) (fun g => g.D) (fun g => g.k ≤ l.length ∧ New w.heap.size g.D ∧ BldAt b5 (magB ++ (numL (clampN (l.length : Int)) ++ partsB 0 (l.take g.k))) g.D) (fun g => l.length - g.k) ⟨0, D20 ++ [(b15, .cells #[vs [83, 80, 75, 49]] 9 (0, 0)), (b19, .cells #[vi l.length] 3 (0, 0))]⟩ rfl rfl ?_ ?_
    · exact ⟨Nat.zero_le _, hN20.app ⟨hw15, hw19, trivial⟩, hB0⟩
    intro g j hg
    refine kv ?_
    obtain ⟨k, D⟩ := g
    simp only at hg ⊢
    obtain ⟨hk, hN, hB⟩ := hg
    by_cases hlt : k < l.length
    · have d1 : decide ((k : Int) < (l.length : Int)) = true := decide_eq_true (by omega)
      have hb1 := hr.has (by omega)
      have hb1l := hr.lt (by omega)
      have ix := hr.idx true k hlt
      have ld := hr.load partC_len (by omega) hlt
      have rd : readB w D b1 = some (.cells arr E fz) := by rw [read_none (hN.not hb1l)]; exact hb1
      have hpl := hx k hlt
      have hpt := partsB_len hx k hk
      have hsn := partsB_snoc l 0 k hlt
      have hpb := fill_base hf hlt
      generalize hp : l.getD k part0 = p at *
      have hst := store_part p part0 68
      first | with_reducible refine ks [1000011] (And.intro uKR_1 ( And.intro @d1 ( And.intro @ix ( And.intro @rd (@ld))))) ?_ | refine kp (And.intro uKR_1 ( And.intro @d1 ( And.intro @ix ( And.intro @rd (@ld))))) ?_
      refine Ow.alloc rfl rfl zrPart fun b7 hb7 hw7 => ?_
      simp only [cells_agg, List.nil_append, List.cons_append]
      refine Ow.permL (M := (b7, .cells (partC part0).toArray 68 (0, 0)) :: D) (by classical exact List.perm_iff_count.2 fun a => by simp only [List.count_append, List.count_cons, List.count_nil] <;> omega) ?_
      refine ko (And.intro uKR_1 @hst) ?_
      have hN7 : New w.heap.size ((b7, Obj.cells (partC p).toArray 68 (0, 0)) :: D) := ⟨hw7, hN⟩
      refine Cw.cutO (G := Unit) [8, 28, 29, 30, 31, 32, 33] (fun g => [(8, vi (farV k p))]) (fun g => (b7, .cells (partC p).toArray 68 (0, 0)) :: D) (fun g => True) ?_ ?_
      · cases hd : p.d with
        | true =>
          have hf : farV k p = (k : Int) - p.b := by unfold farV; rw [if_pos hd]
          have hb2 := hpb hd
          first | with_reducible refine ks [] (And.intro uKR_1 @hd) ?_ | refine kp (And.intro uKR_1 @hd) ?_
          refine CutO.mk () trivial rfl ?_
          rw [hf]; rfl
        | false =>
          have hf : farV k p = 0 := by unfold farV; rw [if_neg (by rw [hd]; decide)]
          first | with_reducible refine ks [] (And.intro uKR_1 @hd) ?_ | refine kp (And.intro uKR_1 @hd) ?_
          refine CutO.mk () trivial rfl ?_
          rw [hf]; rfl
      · intro u ju hu
        refine kv ?_
        first | with_reducible refine ks [] uKR_1 ?_ | refine kp uKR_1 ?_
        have hfl := numL_clamp_len (farV k p)
        have hxl := numL_clamp_len (p.x.length : Int)
        have htx : textsL [p.x] = textL p.x := by simp [textsL]
        have htl : (textL p.x).length = (numL (clampN p.x.length)).length + p.x.length := by unfold textL; rw [List.length_append]
        have hml : (magB ++ (numL (clampN (l.length : Int)) ++ partsB 0 (l.take k))).length = 4 + ((numL (clampN (l.length : Int))).length + (partsB 0 (l.take k)).length) := by rw [List.length_append, List.length_append]; rfl
        refine Ow.buildSlice (e := 3) #[vi (farV k p)] rfl rfl (by kernel_rfl) fun b35 hb35 hw35 => ?_
        refine ko uKR_1 ?_
        refine Ow.permL (M := D ++ [(b7, Obj.cells (partC p).toArray 68 (0, 0)), (b35, .cells #[vi (farV k p)] 3 (0, 0))]) (by classical exact List.perm_iff_count.2 fun a => by simp only [List.count_append, List.count_cons, List.count_nil] <;> omega) ?_
        refine Ow.callX (Y := [(b7, Obj.cells (partC p).toArray 68 (0, 0)), (b35, .cells #[vi (farV k p)] 3 (0, 0))]) (by simp) rfl rfl Tryd.call27 (fun w' hw' hX hn => WNumber_spec b5 D _ _ b35 0 [farV k p] _ _ _ w' hB hX hn (OneS.lit [farV k p] rfl rfl (hw'.has b35 (.cells #[vi (farV k p)] 3 (0, 0)) (by simp))) (fun _ hm => Nat.lt_irrefl _ (above_to hb35 (by simp [keys] at hm ⊢; exact .inr hm))) (by rw [hml]; simp; omega)) (fun v36 D36 hC36 hS36 => ?_)
        obtain ⟨rfl, hB36⟩ := hS36
        rw [numsL_one] at hB36
        have hN36 : New w.heap.size D36 := came_newP hC36 hN
        refine Ow.permL (M := (b7, Obj.cells (partC p).toArray 68 (0, 0)) :: (D36 ++ [(b35, .cells #[vi (farV k p)] 3 (0, 0))])) (by classical exact List.perm_iff_count.2 fun a => by simp only [List.count_append, List.count_cons, List.count_nil] <;> omega) ?_
        refine ko uKR_1 ?_
        first | with_reducible refine ks [] uKR_1 ?_ | refine kp uKR_1 ?_
        refine Ow.buildSlice (e := 9) #[vs p.x] rfl rfl (by kernel_rfl) fun b39 hb39 hw39 => ?_
        refine ko uKR_1 ?_
        refine Ow.permL (M := D36 ++ [(b7, Obj.cells (partC p).toArray 68 (0, 0)), (b35, .cells #[vi (farV k p)] 3 (0, 0)), (b39, .cells #[vs p.x] 9 (0, 0))]) (by classical exact List.perm_iff_count.2 fun a => by simp only [List.count_append, List.count_cons, List.count_nil] <;> omega) ?_
        refine Ow.callX (Y := [(b7, Obj.cells (partC p).toArray 68 (0, 0)), (b35, .cells #[vi (farV k p)] 3 (0, 0)), (b39, .cells #[vs p.x] 9 (0, 0))]) (by simp) rfl rfl Tryd.call28 (fun w' hw' hX hn => WText_spec b5 D36 _ _ b39 0 [p.x] _ _ _ w' hB36 hX hn (StrS.lit [p.x] rfl rfl (hw'.has b39 (.cells #[vs p.x] 9 (0, 0)) (by simp))) (fun _ hm => Nat.lt_irrefl _ (above_to hb39 (by simp [keys] at hm ⊢; exact .inr (.inl hm)))) (by rw [htx, List.length_append, hml, htl]; omega) (by simp)) (fun v40 D40 hC40 hS40 => ?_)
        obtain ⟨rfl, hB40⟩ := hS40
        rw [htx] at hB40
        have hN40 : New w.heap.size D40 := came_newP hC40 hN36
        refine ko uKR_1 ?_
        first | with_reducible refine ks [] uKR_1 ?_ | refine kp uKR_1 ?_
        refine Again.mk ⟨k + 1, D40 ++ [(b7, Obj.cells (partC p).toArray 68 (0, 0)), (b35, .cells #[vi (farV k p)] 3 (0, 0)), (b39, .cells #[vs p.x] 9 (0, 0))]⟩ (by show l.length - (k + 1) < l.length - k; omega) ⟨hlt, hN40.app ⟨hw7, hw35, hw39, trivial⟩, ?_⟩ rfl rfl
        show BldAt b5 (magB ++ (numL (clampN (l.length : Int)) ++ partsB 0 (l.take (k + 1)))) _
        rw [hsn]
        have := hB40.app (Y := [(b7, Obj.cells (partC p).toArray 68 (0, 0)), (b35, .cells #[vi (farV k p)] 3 (0, 0)), (b39, .cells #[vs p.x] 9 (0, 0))])
        rw [Nat.zero_add]
        simpa [pieceB] using this
    · obtain rfl : k = l.length := by omega
      have d1 : decide ((l.length : Int) < (l.length : Int)) = false := decide_eq_false (by omega)
      have hpt := partsB_len hx l.length (Nat.le_refl _)
      rw [List.take_length] at hpt hB
      have hpl : (packB l).length < 34359738368 := by
        unfold packB
        rw [List.length_append, List.length_append, show magB.length = 4 from rfl]
        omega
      first | with_reducible refine ks [] (And.intro uKR_1 @d1) ?_ | refine kp (And.intro uKR_1 @d1) ?_
      refine Ow.callX (Y := []) (by simp) rfl rfl Tryd.call30 (fun w' hw' hX hn => WString_spec b5 D (packB l) w' hB hX hn hpl) (fun v42 D42 hC42 hS42 => ?_)
      subst hS42
      have hN42 : New w.heap.size D42 := came_newP hC42 hN
      rw [List.append_nil]
      refine ko uKR_1 ?_
      refine Ow.callFV rfl Tryd.call29 (fun w' hw' => cSeal_spec (packB l) w' (hC.newP hw' hN42) (by omega)) ?_
      refine ko uKR_1 ?_
      first | with_reducible refine ks [] uKR_1 ?_ | refine kp uKR_1 ?_
      refine ⟨_, (ke uKR_1), hN42, ?_⟩
      rfl
end Go.Proofs
end
