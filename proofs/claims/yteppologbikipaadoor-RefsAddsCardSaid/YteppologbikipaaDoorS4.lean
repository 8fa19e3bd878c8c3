/-
  Part 4 of the walk: contracts of the functions that the law reaches, and the calculus they stand on.
  No conditions.
-/
import Derived.Test.YteppologbikipaaDoorS3
import Derived.RangeFuncLeaves
import Derived.RangeFuncIn
import Derived.RangeFuncSeq
import Derived.RangeFuncRecord
import Derived.TacticsIn
import Derived.ProofKit
import Derived.OpenShut
import Derived.WideKeyArgs
import Derived.ChangeSame
import Derived.ChangeMaps5
import Derived.Lib.LaidTab
import Derived.SliceStrings
import Derived.DataReads
namespace Go.Sx
open Go
/-- Every function may be called; a round's frame, or none. -/
def wideR (r : Option Nat) : Fence := { Fence.wide with round := r }
def noDefer : Op → Bool
  | .defer _ => false
  | _ => true
section
variable {P : Program} {w0 : World} {f : Fr} {L : Heap} {K : Kont} {N : Fr → Heap → Prop} {ops : Array Oper} {rest : List Oper} {r : Option Nat} {n : Nat}
theorem calls_wideR {k : FuncId} {args : Array Value} {w : World} {R : Ending → World → Prop} (h : Calls P k args w R) : CallsIn (wideR r) n P k args w R :=
  (callsIn_wide.2 h : CallsIn Fence.wide n P k args w R)
theorem rows_wideR {row : String} {args : Array Value} {w : World} {R : Value → World → Prop} (h : Rows P row args w R) : RowsIn (wideR r) n P row args w R :=
  (fun c cs _ => let ⟨v, w', hr, s⟩ := h c cs; ⟨v, w', hr, stepsIn_wide.2 s⟩ : RowsIn Fence.wide n P row args w R)
theorem oper_in {o : Oper} {a : Act} {w : World} {next : Act → World → Prop} {Q : Exit → Act → World → Prop} (hd : noDefer o.op = true) (h : o.wp P a w next Q) : o.wpIn (wideR r) n P a w next Q := by
  refine ⟨fun _ _ => trivial, ?_⟩
  rw [Oper.semAt_eq _ _ _ (fun c e => by rw [e] at hd; cases hd)]
  unfold Oper.wp at h
  generalize (execOp a.eval o).run P w = x at h
  match x, h with
  | .ok (.value v) _, h => exact h
  | .ok .skip _, h => exact h
  | .ok (.defer e) _, h => exact h
  | .ok (.enter k args) w', h =>
    have h' : Calls P k args w' _ := h
    exact ⟨fun (e : false = true) => (by cases e), calls_wideR h'⟩
  | .ok (.row row args) w', h =>
    have h' : Rows P row args w' _ := h
    exact ⟨fun (e : false = true) => (by cases e), rows_wideR h'⟩
  | .halt (.panic u) _, h => exact h
theorem list_in {Q : Exit → Act → World → Prop} {l2 : List Oper} : ∀ (l1 : List Oper) (a : Act) (w : World), (l1.all fun o => noDefer o.op) = true →
    wpList P ops (fun e a w => e = .normal ∧ wpListIn (wideR r) n P ops Q l2 a w) l1 a w → wpListIn (wideR r) n P ops Q (l1 ++ l2) a w
  | [], _, _, _, h => h.2
  | o :: l1, a, w, hd, h => by
    rw [List.cons_append]
    unfold wpList at h
    unfold wpListIn
    rw [List.all_cons, Bool.and_eq_true] at hd
    split at h
    · rename_i hw
      rw [if_pos hw]
      rcases h with h | ⟨-, hl⟩
      · exact oper_in hd.1 (upon_mono (fun a w hx => list_in l1 a w hd.2 hx) (fun e a w hne hq => hne hq.1) h)
      · obtain ⟨_, _, he, -⟩ := hl
        cases he
    · rename_i hw
      rw [if_neg hw]
      exact ⟨fun _ _ => trivial, list_in l1 _ _ hd.2 h⟩
/-- Operations of a region, in a round or not, where yield may be called. -/
def OwI (r : Option Nat) (P : Program) (w0 : World) (ops : Array Oper) (l : List Oper) (f : Fr) (L : Heap) (N : Fr → Heap → Prop) : Prop :=
  ∀ w, Hp w0 L w → wpListIn (wideR r) 0 P ops (postN w0 N) l (act f) w
theorem OwI.nil (h : N f L) : OwI r P w0 ops [] f L N := fun _ hw => ⟨rfl, rfl, L, hw, by simpa [act] using h⟩
theorem OwI.pre {l1 l2 : List Oper} (hd : (l1.all fun o => noDefer o.op) = true) (h : Ow P w0 ops .seq l1 f L (fun f' L' => OwI r P w0 ops l2 f' L' N)) : OwI r P w0 ops (l1 ++ l2) f L N := by
  intro w hw
  refine list_in l1 _ _ hd ?_
  have h1 := h w hw
  have mono : ∀ (l : List Oper) (a : Act) (w : World), wpList P ops (postN w0 (fun f' L' => OwI r P w0 ops l2 f' L' N)) l a w → wpList P ops (fun e a w => e = .normal ∧ wpListIn (wideR r) 0 P ops (postN w0 N) l2 a w) l a w := by
    intro l
    induction l with
    | nil =>
      rintro a w ⟨-, hd', L', hp, hO⟩
      refine ⟨rfl, ?_⟩
      have := hO w hp
      rwa [← act_of hd'] at this
    | cons o l ih =>
      intro a w h
      unfold wpList at h ⊢
      split at h
      · rename_i hw
        rw [if_pos hw]
        rcases h with h | ⟨-, hl⟩
        · exact .inl (upon_mono ih (fun e a w hne hq => hne hq.1) h)
        · obtain ⟨_, _, he, -⟩ := hl
          cases he
      · rename_i hw
        rw [if_neg hw]
        exact ih _ _ h
  exact mono l1 _ _ h1
theorem Ow.mono_seq {l : List Oper} {N' : Fr → Heap → Prop} (h : Ow P w0 ops .seq l f L N) (hN : ∀ f L, N f L → N' f L) : Ow P w0 ops .seq l f L N' := by
  intro w hw
  have h1 := h w hw
  clear h
  revert h1
  generalize act f = a
  clear hw
  induction l generalizing a w with
  | nil => rintro ⟨h1, h2, L', h3, h4⟩; exact ⟨h1, h2, L', h3, hN _ _ h4⟩
  | cons o l ih =>
    intro h
    unfold wpList at h ⊢
    split at h
    · rename_i hw
      rw [if_pos hw]
      rcases h with h | ⟨-, hl⟩
      · exact .inl (upon_mono (fun a w hx => ih w a hx) (fun e a w hne hq => hne hq.1) h)
      · obtain ⟨_, _, he, -⟩ := hl
        cases he
    · rename_i hw
      rw [if_neg hw]
      exact ih _ _ h
theorem OwI.all {l : List Oper} (hd : (l.all fun o => noDefer o.op) = true) (h : Ow P w0 ops .seq l f L N) : OwI r P w0 ops l f L N := by
  have := OwI.pre (r := r) (l2 := []) (N := N) hd (Ow.mono_seq h (fun f L hN => OwI.nil hN))
  simpa using this
/-- A code in a round's frame. -/
def CwR (r : Option Nat) (P : Program) (w0 : World) (c : Code) (f : Fr) (L : Heap) (K : Kont) : Prop := ∀ w, Hp w0 L w → c.wpIn (wideR r) 0 P (post w0 K) (act f) w
theorem CwR.region {id : Nat} {l : List Oper} (hd : (l.all fun o => noDefer o.op) = true) (h : Ow P w0 l.toArray .seq l f L (K .normal)) : CwR r P w0 (.region id l.toArray false) f L K :=
  fun w hw => wpIn_mono (wpIn_region_lit (OwI.all hd h w hw)) fun _ _ _ h => postN_post h
theorem CwR.block {id : Nat} {c : Code} (h : CwR r P w0 c f L (blockK id K)) : CwR r P w0 (.block id c) f L K := by
  intro w hw
  refine wpIn_block (wpIn_mono (h w hw) ?_)
  rintro e a w' ⟨hd, L', hp, k⟩
  cases e with
  | exit i =>
    simp only [Exit.inBlock]
    simp only [blockK] at k
    split
    · rename_i e; rw [if_pos e] at k; exact ⟨hd, L', hp, k⟩
    · rename_i e; rw [if_neg e] at k; exact ⟨hd, L', hp, k⟩
  | _ => exact ⟨hd, L', hp, k⟩
theorem Hp.put {w : World} (h : Hp w0 L w) {b : Nat} {o : Obj} (hb : b ∈ keys L) : Hp w0 (setB L b o) (w.putObj b o) := h.set hb rfl rfl rfl rfl
/-- What a round does, by its parts. -/
theorem YieldAt.of {l : Nat} {rc : Loop} {X : Heap} {args : Array Value} {w : World} {r0 : Option Nat} {S : Heap → Prop} (hX : Hp w X w) (hl : look X l = some (.loop rc)) (hr : rc.state = .ready) (hp : rc.pending = none) (hs : args.size = rc.params.size)
    (h : CwR (some l) P w rc.assign ((rc.params.zip args).foldl (fun tmps (p : Tmp × Value) => tmps.setIfInBounds p.1 p.2) rc.tmps).toList X (fun e f1 L1 => e = .normal ∧ look L1 l = some (.loop rc) ∧
      CwR (some l) P w rc.body f1 (setB L1 l (.loop { rc with state := .busy })) (fun e _ L2 => e = .normal ∧ look L2 l = some (.loop { rc with state := .busy }) ∧ S (setB L2 l (.loop rc))))) :
    YieldAt (wideR r0) 0 P l args w (fun e w' => ∃ D, e = .returned (.bool true) ∧ Hp w D w' ∧ S D) := by
  obtain ⟨st, pe, fn0, tm, pa, asg, bo, de⟩ := rc
  obtain rfl : st = .ready := hr
  obtain rfl : pe = none := hp
  have hl0 := hX.has _ _ (look_mem hl)
  refine ⟨fn0, _, asg, bo, run_yield hl0 hs, roundIn_of_wpIn (F := wideR r0) (n := 0) trivial ?_⟩
  have h1 := h w hX
  have ea : act ((pa.zip args).foldl (fun tmps (p : Tmp × Value) => tmps.setIfInBounds p.1 p.2) tm).toList = { tmps := (pa.zip args).foldl (fun tmps (p : Tmp × Value) => tmps.setIfInBounds p.1 p.2) tm, defers := [] } := by
    simp [act]
  simp only at h1
  rw [ea] at h1
  refine wpIn_mono h1 ?_
  rintro e a1 w1 ⟨hd1, L1, hp1, rfl, hl1, hbody⟩
  have hb1 := run_beginRound (P := P) (hp1.has _ _ (look_mem hl1)) rfl
  refine ⟨_, hb1, ?_⟩
  have h2 := hbody _ (hp1.put (o := .loop { state := .busy, pending := none, fn := fn0, tmps := tm, params := pa, assign := asg, body := bo, defers := de }) (key_of_look hl1))
  rw [← act_of hd1] at h2
  refine wpIn_mono h2 ?_
  rintro e a2 w2 ⟨hd2, L2, hp2, rfl, hl2, hS⟩
  have he := run_endRound (P := P) none (hp2.has _ _ (look_mem hl2))
  exact ⟨_, _, he, _, rfl, hp2.put (key_of_look hl2), hS⟩
/-! ### With a mark among the deferred calls -/
def postD (ds : List Deferred) (w0 : World) (K : Kont) (e : Exit) (a : Act) (w : World) : Prop := a.defers = ds ∧ ∃ L, Hp w0 L w ∧ K e a.tmps.toList L
def CwE (ds : List Deferred) (P : Program) (w0 : World) (c : Code) (f : Fr) (L : Heap) (K : Kont) : Prop := ∀ w, Hp w0 L w → c.wp P (postD ds w0 K) ⟨f.toArray, ds⟩ w
theorem CwE.seq {ds : List Deferred} {x y : Code} (h : CwE ds P w0 x f L (thenK (fun f L => CwE ds P w0 y f L K) K)) : CwE ds P w0 (.seq x y) f L K := by
  intro w hw
  refine wp_seq (wp_mono (h w hw) ?_)
  rintro e a w' ⟨hd, L', hp, k⟩
  cases e with
  | normal =>
    have := k w' hp
    have ea : a = ⟨a.tmps.toList.toArray, ds⟩ := by cases a; simp only at hd; subst hd; simp
    rw [ea]
    exact this
  | _ => exact ⟨hd, L', hp, k⟩
theorem CwE.ret {ds : List Deferred} (h : K .ret f L) : CwE ds P w0 .ret f L K := fun _ hw => wp_ret ⟨rfl, L, hw, by simpa using h⟩
/-- Values, one by one. -/
def evVs (P : Program) (w0 : World) (L : Heap) : List Oper → Fr → Option Fr
  | [], f => some f
  | o :: r, f => match o.guard, evalV P w0 L f o.op with
    | none, some v => evVs P w0 L r (putF f o.dst v)
    | _, _ => none
theorem evVs_sound {ds : List Deferred} {Q : Exit → Act → World → Prop} {w : World} (hw : Hp w0 L w) : ∀ (l : List Oper) (f f' : Fr), evVs P w0 L l f = some f' → Q .normal ⟨f'.toArray, ds⟩ w → wpList P ops Q l ⟨f.toArray, ds⟩ w
  | [], f, f', h, hQ => by cases h; exact hQ
  | o :: l, f, f', h, hQ => by
    unfold evVs at h
    split at h
    · rename_i v hg hv
      unfold wpList
      have hwn : Region.wanted o (yielded ops (⟨f.toArray, ds⟩ : Act).tmps) = true := by unfold Region.wanted; rw [hg]
      rw [if_pos hwn]
      refine .inl ?_
      unfold Oper.wp
      have he : (⟨f.toArray, ds⟩ : Act).eval = ev f := by
        have := act_eval' f
        funext x
        exact (congrFun this x)
      rw [he, run_evalV hw hv]
      have hp : (⟨f.toArray, ds⟩ : Act).put o.dst v = ⟨(putF f o.dst v).toArray, ds⟩ := by
        have := act_put f o.dst v
        cases hd : o.dst with
        | none => rfl
        | some d => simp only [Act.put, putF, setF_eq]
      show wpList P ops Q l ((⟨f.toArray, ds⟩ : Act).put o.dst v) w
      rw [hp]
      exact evVs_sound hw l _ f' h hQ
    · cases h
theorem CwE.region {ds : List Deferred} {id : Nat} {l : List Oper} {f' : Fr} (h : evVs P w0 L l f = some f') (hk : K .normal f' L) : CwE ds P w0 (.region id l.toArray false) f L K :=
  fun w hw => wp_region_lit (evVs_sound hw l f f' h ⟨rfl, L, hw, by simpa using hk⟩)
theorem Gr.at_ {L : Heap} {E : TypeId} {m n : Nat} {v : Value} {cs : List Value} (h : Gr L E m v n cs) {b : Nat} (hb : slB v = some b) : ∃ a, look L b = some (.cells a E (0, 0)) := by
  rcases h with h | ⟨rfl, rfl, c, rfl, hl⟩
  · rcases h.inv with ⟨rfl, -, -⟩ | ⟨c, cc, rest, rfl, hl, -⟩
    · cases hb
    · have : c = b := by simpa [slB, vsl] using hb
      subst this; exact ⟨_, hl⟩
  · have : c = b := by simpa [slB, vsl] using hb
    subst this; exact ⟨_, hl⟩
theorem Gr.ne {L : Heap} {E : TypeId} {m n : Nat} {v : Value} {cs : List Value} (h : Gr L E m v n cs) {b : Nat} {o : Obj} (hl : look L b = some o) (ho : ∀ a, o ≠ .cells a E (0, 0)) : slB v ≠ some b := fun e => by
  obtain ⟨a, ha⟩ := h.at_ e
  rw [hl] at ha
  exact ho a (Option.some.inj ha)
theorem Gr.setB {L : Heap} {E : TypeId} {m n : Nat} {v : Value} {cs : List Value} (h : Gr L E m v n cs) {b : Nat} (hb : slB v ≠ some b) (x : Obj) : Gr (setB L b x) E m v n cs :=
  h.keep fun c o hc ho => by rw [look_setB_ne (fun e : b = c => hb (by rw [e]; exact hc))]; exact ho
/-- The loop's record. -/
def recR (fn : FuncId) (f : Fr) (ps : Array Tmp) (assign body : Code) (dk : Nat) (st : LoopState) : Loop := { state := st, pending := none, fn, tmps := f.toArray, params := ps, assign, body, defers := dk }
/-- An iterator over some elements: whatever is done at each of them. -/
def SeqOk (P : Program) (gf : Nat) (lb : Array Value) {α : Type} (enc : α → Value) (xs : List α) (w : World) : Prop :=
  ∀ (l : Nat) (J : List α → Heap → Prop) (w1 : World) (X : Heap), (∀ b, b < w.heap.size → w1.heap[b]? = w.heap[b]?) → (∀ b, b ∈ keys X → w.heap.size ≤ b) → w.heap.size ≤ w1.heap.size → Hp w1 X w1 → J [] X → (∀ pre X Y, J pre X → J pre (X ++ Y)) →
    (∀ pre x post X2 w2, xs = pre ++ x :: post → Hp w2 X2 w2 → (∀ b, b ∈ keys X2 → w.heap.size ≤ b) → J pre X2 → YieldAt (wideR none) 0 P l #[enc x] w2 (fun e w3 => ∃ D, e = .returned (.bool true) ∧ Hp w2 D w3 ∧ Ext w2 X2 D ∧ J (pre ++ [x]) D)) →
    Rets P gf (#[.func (.yield l) #[] #[]] ++ lb) w1 (XS w1 X (fun _ D => J xs D))
end
end Go.Sx
namespace Go.Sx
open Go
section
variable {α : Type} {m : Nat} {enc : α → List Value} {z : α} {w : World} {v : Value} {l : List α}
/-- The last ones. -/
theorem SlV.dropE (h : SlV m enc z w v l) {k : Nat} (hk : k ≤ l.length) (a : Bool) : ∃ v', sliceV (.sl (a, m)) v (some (some (k : Int))) none = some v' ∧ SlV m enc z w v' (l.drop k) ∧ (∀ b, slB v' = some b → slB v = some b) := by
  obtain ⟨b, off, c, arr, E, fz, hr, hc, hv⟩ := h
  have hl : (l.drop k).length = l.length - k := by simp
  rcases hv with ⟨rfl, rfl, rfl⟩ | ⟨rfl, hhas, hsz⟩
  · obtain rfl : k = 0 := by simpa using hk
    exact ⟨.slice none 0 0, rfl, SlV.nil w, fun b hb => hb⟩
  · have hsl : sliceV (.sl (a, m)) (vsl b off l.length c) (some (some (k : Int))) none = some (vsl b (if c = k then off else off + k * m) (l.length - k) (c - k)) := by
      unfold sliceV vsl
      simp only [bnd_lo _ _ _ (⟨by omega, by omega⟩ : (0 : Int) ≤ (k : Int) ∧ (k : Int) ≤ (l.length : Int)), Int.toNat_natCast]
      by_cases hck : c = k
      · simp [hck]
      · simp only [hck, ↓reduceIte, Option.map_some, add_spot]
    refine ⟨_, hsl, ?_, fun b' hb => hb⟩
    have hkm : k * m + (l.length - k) * m = l.length * m := by rw [← Nat.add_mul]; congr 1; omega
    by_cases hck : c = k
    · have h0 : l.length - k = 0 := by omega
      rw [if_pos hck]
      refine ⟨b, off, c - k, arr, E, fz, RowS.sl' hl.symm (fun h => by omega) (fun i hi => by omega), by omega, .inr ⟨by rw [hl], hhas, by rw [hl, h0]; omega⟩⟩
    · rw [if_neg hck]
      refine ⟨b, off + k * m, c - k, arr, E, fz, RowS.sl' hl.symm (fun h => hhas) ?_, by omega, .inr ⟨by rw [hl], hhas, by rw [hl]; omega⟩⟩
      intro i hi j hj
      rw [hl] at hi
      rw [List.getD_eq_getElem?_getD, List.getElem?_drop, ← List.getD_eq_getElem?_getD, ← hr.get (k + i) (by omega) j hj]
      congr 1
      rw [Nat.add_mul]; omega
end
section
variable {P : Program} {w0 : World} {f : Fr} {L : Heap} {N : Fr → Heap → Prop} {ops : Array Oper} {rest : List Oper} {md : Md} {d : Option Tmp} {ty : TypeId} {ps : String} {af : Array Edge} {g : Option (Nat × Bool)}
end
section
variable {P : Program} {w0 : World} {f : Fr} {L : Heap} {K : Kont}
/-- In the world of the moment. -/
theorem Cw.world {c : Code} (h : ∀ w, Hp w0 L w → Cw P w0 c f L K) : Cw P w0 c f L K := fun w hw => h w hw w hw
/-- What the world of the moment holds where the list of blocks does. -/
theorem Gr.read {E : TypeId} {m n : Nat} {v : Value} {cs : List Value} (h : Gr L E m v n cs) {b : Nat} (hb : slB v = some b) {w : World} (hw : Hp w0 L w) {o : Obj} (ho : w.heap[b]? = some o) : readB w0 L b = some o := by
  obtain ⟨a, ha⟩ := h.at_ hb
  rw [hw.has _ _ (look_mem ha)] at ho
  rw [read_look ha]; exact ho
end
end Go.Sx
section
open Go Go.Proofs Go.Sx Go.RefP
namespace Go.Proofs
set_option maxRecDepth 10000
set_option maxHeartbeats 4000000
set_option linter.unusedSimpArgs false
theorem valR_if {t l : List RefL} {k : Nat} {ls : List RefL} (h : valR t l k = some ls) : t.length ≤ 16 ∧ l.length ≤ 100 ∧ tabOkR t = true ∧ logR l t k = some ls := by
  unfold valR at h
  split at h
  · rename_i hc; exact ⟨hc.1, hc.2.1, hc.2.2, h⟩
  · cases h
theorem logR_len {l t : List RefL} (ht : t.length ≤ 16) : ∀ (k : Nat) (ls : List RefL), logR l t k = some ls → ls.length ≤ 16
  | 0, ls, h => by
    unfold logR at h
    cases h; exact ht
  | k + 1, ls, h => by
    unfold logR at h
    cases hm : logR l t k with
    | none => rw [hm] at h; cases h
    | some m =>
      rw [hm, Option.bind_some] at h
      split at h
      · rename_i hc
        cases h
        simp only [Bool.and_eq_true, decide_eq_true_eq] at hc
        exact hc.2
      · cases h
/-- Behind some of the log of a right book. -/
theorem of_trim {t l : List RefL} (h : rightB t l = true) {k : Nat} (hk : k ≤ l.length) :
    ∃ m ls, ofM nameV z32 (prs t) (prs l) k = some m ∧ valR t l k = some ls ∧ Rel m (prs ls) ∧ ls.length ≤ 16 ∧ l.length ≤ 100 := by
  rw [← valR_right] at h
  cases hv : valR t l l.length with
  | none => rw [hv] at h; cases h
  | some le =>
    obtain ⟨h1, h2, h3, h4⟩ := valR_if hv
    cases hg : logR l t k with
    | none => rw [logR_stop hg _ hk] at h4; cases h4
    | some ls =>
      have hvk : valR t l k = some ls := by unfold valR; rw [if_pos ⟨h1, h2, h3⟩]; exact hg
      have hp := valR_prs t l k hk
      rw [hvk] at hp
      rcases of_rel nameV z32 (prs t) (prs l) (by rw [prs_len]; exact h2) k with ⟨-, hn⟩ | ⟨m, d, hm, hd, hr⟩
      · rw [hn] at hp; cases hp
      · rw [hd] at hp
        cases hp
        exact ⟨m, ls, hm, hvk, hr, logR_len h1 k ls hg, h2⟩
/-- How many first entries are taken together. -/
def trimK (n : Nat) (keep : Int) : Nat := ((n : Int) - max 0 (min keep n)).toNat
theorem trimK_le (n : Nat) (keep : Int) : trimK n keep ≤ n := by unfold trimK; omega
theorem trimK_eq (n : Nat) (keep : Int) : (n : Int) - max 0 (min keep n) = (trimK n keep : Nat) := by unfold trimK; omega
theorem minmax (n keep : Int) : (if (if n < keep then n else keep) > 0 then (if n < keep then n else keep) else 0) = max 0 (min keep n) := by
  split <;> split <;> omega
/-- What Trim hands back. -/
def TrimS (t l : List RefL) (keep : Int) (v : Value) (D : Heap) : Prop :=
  if rightB t l = true then ∃ vt vl ls, valR t l (trimK l.length keep) = some ls ∧ v = .tuple #[.agg #[vt, vl], vi 0] ∧ GrI D 42 33 vt ls.length (ls.map refC).flatten ∧ GrI D 42 33 vl (l.drop (trimK l.length keep)).length ((l.drop (trimK l.length keep)).map refC).flatten
  else v = .tuple #[.agg #[.slice none 0 0, .slice none 0 0], vi 1]
set_option linter.defProp false
def uWZ4_1 := And.intro (And.intro (And.intro (And.intro (@rdIn_v8) (@rdIn_v16)) (And.intro (@rdIn_v32) (@rdIn_v64))) (And.intro (And.intro (@rdIn_vi) (@load_ref0)) (And.intro (@load_ref1) (@cells_ref)))) (And.intro (And.intro (And.intro (@eqIdz) (@store_rr)) (And.intro (@load_ref) (@load_bk0))) (And.intro (And.intro (@load_bk1) (@load_bk)) (And.intro (@tup2_0) (And.intro (@tup2_1) (@store_bk0)))))
theorem Trim_spec (vt vl : Value) (t l : List RefL) (keep : Int) (w : World) (ht : RefSl w vt t) (hl : RefSl w vl l) (htl : t.length < 1000) (hll : l.length < 1000) (hnt : ShortN t) (hnl : ShortN l) :
    Rets Tryd.prog 31 #[.agg #[vt, vl], vi keep] w (XS w [] (TrimS t l keep)) := by
  refine Rets.enterX Tryd.func31 rfl (rs := [.cell 4 25, .tmp 5]) Tryd.results31 Tryd.ntmps31 (fun p hp => by cases hp) (by simp [keys]) ?_
  simp only [List.size_toArray, List.length_cons, List.length_nil, Nat.reduceAdd, Nat.reduceSub, List.replicate_succ, List.replicate_zero, List.cons_append, List.nil_append]
  ((try with_reducible refine Cw.go [5] ?_); (try simp (disch := (first | assumption | omega | (simp only [lenS, lenT, UInt64.reduceToNat]; try omega))) only [↓Sx.S0, Sx.S1, Tryd.fx, uWZ4_1, Nat.reduceAdd, Nat.reducePow, Int.reducePow, Nat.reduceBEq, ↓reduceIte, UInt8.reduceToNat, UInt16.reduceToNat, UInt32.reduceToNat, UInt64.reduceToNat, Int.reduceToNat]))
  refine Ow.box rfl rfl fun bx hbx hwx => ?_
  simp only [ev_tmp, getF_0, getF_s, cells_agg, List.nil_append, List.cons_append]
  refine Ow.go rfl ?_
  simp (disch := (first | assumption | omega | (simp only [lenS, lenT, UInt64.reduceToNat]; try omega))) only [↓Sx.S0, Sx.S1, Tryd.fx, uWZ4_1, Nat.reduceAdd, Nat.reducePow, Int.reducePow, Nat.reduceBEq, ↓reduceIte, UInt8.reduceToNat, UInt16.reduceToNat, UInt32.reduceToNat, UInt64.reduceToNat, Int.reduceToNat]
  refine Ow.alloc rfl rfl zrBk fun br hbr hwr => ?_
  simp only [cells_agg, List.nil_append, List.cons_append]
  obtain ⟨hxr, -⟩ := hbr
  refine Ow.go rfl ?_
  simp (disch := (first | assumption | omega | (simp only [lenS, lenT, UInt64.reduceToNat]; try omega))) only [↓Sx.S0, Sx.S1, Tryd.fx, uWZ4_1, Nat.reduceAdd, Nat.reducePow, Int.reducePow, Nat.reduceBEq, ↓reduceIte, UInt8.reduceToNat, UInt16.reduceToNat, UInt32.reduceToNat, UInt64.reduceToNat, Int.reduceToNat]
  ((try with_reducible refine Cw.go [] ?_); (try simp (disch := (first | assumption | omega | (simp only [lenS, lenT, UInt64.reduceToNat]; try omega))) only [↓Sx.S0, Sx.S1, Tryd.fx, uWZ4_1, Nat.reduceAdd, Nat.reducePow, Int.reducePow, Nat.reduceBEq, ↓reduceIte, UInt8.reduceToNat, UInt16.reduceToNat, UInt32.reduceToNat, UInt64.reduceToNat, Int.reduceToNat]))
  refine Ow.callFV rfl Tryd.call36 (fun w' hw' => Right_spec vt vl t l w' (ht.oldN hw' ⟨hwx, hwr, trivial⟩) (hl.oldN hw' ⟨hwx, hwr, trivial⟩) (by omega) (by omega) hnt hnl) ?_
  cases hr : rightB t l
  · refine Ow.go rfl ?_
    simp (disch := (first | assumption | omega | (simp only [lenS, lenT, UInt64.reduceToNat]; try omega))) only [↓Sx.S0, Sx.S1, Tryd.fx, uWZ4_1, Nat.reduceAdd, Nat.reducePow, Int.reducePow, Nat.reduceBEq, ↓reduceIte, UInt8.reduceToNat, UInt16.reduceToNat, UInt32.reduceToNat, UInt64.reduceToNat, Int.reduceToNat]
    ((try with_reducible refine Cw.go [] ?_); (try simp (disch := (first | assumption | omega | (simp only [lenS, lenT, UInt64.reduceToNat]; try omega))) only [↓Sx.S0, Sx.S1, Tryd.fx, uWZ4_1, Nat.reduceAdd, Nat.reducePow, Int.reducePow, Nat.reduceBEq, ↓reduceIte, UInt8.reduceToNat, UInt16.reduceToNat, UInt32.reduceToNat, UInt64.reduceToNat, Int.reduceToNat]))
    refine Ow.build (.agg #[.slice none 0 0, .slice none 0 0]) rfl (by kernel_rfl) ?_
    refine Ow.go rfl ?_
    simp (disch := (first | assumption | omega | (simp only [lenS, lenT, UInt64.reduceToNat]; try omega))) only [↓Sx.S0, Sx.S1, Tryd.fx, uWZ4_1, Nat.reduceAdd, Nat.reducePow, Int.reducePow, Nat.reduceBEq, ↓reduceIte, UInt8.reduceToNat, UInt16.reduceToNat, UInt32.reduceToNat, UInt64.reduceToNat, Int.reduceToNat]
    ((try with_reducible refine Cw.go [] ?_); (try simp (disch := (first | assumption | omega | (simp only [lenS, lenT, UInt64.reduceToNat]; try omega))) only [↓Sx.S0, Sx.S1, Tryd.fx, uWZ4_1, Nat.reduceAdd, Nat.reducePow, Int.reducePow, Nat.reduceBEq, ↓reduceIte, UInt8.reduceToNat, UInt16.reduceToNat, UInt32.reduceToNat, UInt64.reduceToNat, Int.reduceToNat]))
    refine ⟨_, (by simp (disch := (first | assumption | omega | (simp only [lenS, lenT, UInt64.reduceToNat]; try omega))) only [↓Sx.S0, Sx.S1, Tryd.fx, uWZ4_1, Nat.reduceAdd, Nat.reducePow, Int.reducePow, Nat.reduceBEq, ↓reduceIte, UInt8.reduceToNat, UInt16.reduceToNat, UInt32.reduceToNat, UInt64.reduceToNat, Int.reduceToNat]; rfl), ?_⟩
    refine ⟨Ext.of_new ⟨hwx, hwr, trivial⟩, ?_⟩
    unfold TrimS
    rw [if_neg (by rw [hr]; simp)]
    rfl
  · refine Ow.go rfl ?_
    simp (disch := (first | assumption | omega | (simp only [lenS, lenT, UInt64.reduceToNat]; try omega))) only [↓Sx.S0, Sx.S1, Tryd.fx, uWZ4_1, Nat.reduceAdd, Nat.reducePow, Int.reducePow, Nat.reduceBEq, ↓reduceIte, UInt8.reduceToNat, UInt16.reduceToNat, UInt32.reduceToNat, UInt64.reduceToNat, Int.reduceToNat]
    ((try with_reducible refine Cw.go [] ?_); (try simp (disch := (first | assumption | omega | (simp only [lenS, lenT, UInt64.reduceToNat]; try omega))) only [↓Sx.S0, Sx.S1, Tryd.fx, uWZ4_1, Nat.reduceAdd, Nat.reducePow, Int.reducePow, Nat.reduceBEq, ↓reduceIte, UInt8.reduceToNat, UInt16.reduceToNat, UInt32.reduceToNat, UInt64.reduceToNat, Int.reduceToNat, hl.len]))
    refine Ow.minI rfl rfl rfl ?_
    refine Ow.go rfl ?_
    simp (disch := (first | assumption | omega | (simp only [lenS, lenT, UInt64.reduceToNat]; try omega))) only [↓Sx.S0, Sx.S1, Tryd.fx, uWZ4_1, Nat.reduceAdd, Nat.reducePow, Int.reducePow, Nat.reduceBEq, ↓reduceIte, UInt8.reduceToNat, UInt16.reduceToNat, UInt32.reduceToNat, UInt64.reduceToNat, Int.reduceToNat]
    refine Ow.maxI (a := 0) rfl rfl rfl ?_
    rw [minmax]
    refine Ow.go rfl ?_
    simp (disch := (first | assumption | omega | (simp only [lenS, lenT, UInt64.reduceToNat]; try omega))) only [↓Sx.S0, Sx.S1, Tryd.fx, uWZ4_1, Nat.reduceAdd, Nat.reducePow, Int.reducePow, Nat.reduceBEq, ↓reduceIte, UInt8.reduceToNat, UInt16.reduceToNat, UInt32.reduceToNat, UInt64.reduceToNat, Int.reduceToNat]
    have hk := trimK_le l.length keep
    obtain ⟨m, ls, hm, hv, hrel, hls, hl100⟩ := of_trim hr hk
    rw [trimK_eq]
    ((try with_reducible refine Cw.go [] ?_); (try simp (disch := (first | assumption | omega | (simp only [lenS, lenT, UInt64.reduceToNat]; try omega))) only [↓Sx.S0, Sx.S1, Tryd.fx, uWZ4_1, Nat.reduceAdd, Nat.reducePow, Int.reducePow, Nat.reduceBEq, ↓reduceIte, UInt8.reduceToNat, UInt16.reduceToNat, UInt32.reduceToNat, UInt64.reduceToNat, Int.reduceToNat, load_bk]))
    refine Ow.callN rfl rfl Tryd.call72 (S := (fun B v D => OfS B t l (trimK l.length keep) v D)) (fun w' hw' => of_spec vt vl t l (trimK l.length keep) w' (ht.oldN hw' ⟨hwx, hwr, trivial⟩) (hl.oldN hw' ⟨hwx, hwr, trivial⟩) (by omega) (by omega) hk hnt hnl) (fun B v D h => h.new) (fun B v D hA hB hS => ?_)
    unfold OfS at hS
    rw [hm] at hS
    obtain ⟨bm, om, rfl, rfl, hom, hBm⟩ := hS
    have hxm : bx < bm := Nat.lt_of_lt_of_le (above_to hA (by simp [keys])) hBm
    have hrm : br < bm := Nat.lt_of_lt_of_le (above_to hA (by simp [keys])) hBm
    generalize hkk : trimK l.length keep = k at *
    refine Ow.go rfl ?_
    simp (disch := (first | assumption | omega | (simp only [lenS, lenT, UInt64.reduceToNat]; try omega))) only [↓Sx.S0, Sx.S1, Tryd.fx, uWZ4_1, Nat.reduceAdd, Nat.reducePow, Int.reducePow, Nat.reduceBEq, ↓reduceIte, UInt8.reduceToNat, UInt16.reduceToNat, UInt32.reduceToNat, UInt64.reduceToNat, Int.reduceToNat]
    ((try with_reducible refine Cw.go [] ?_); (try simp (disch := (first | assumption | omega | (simp only [lenS, lenT, UInt64.reduceToNat]; try omega))) only [↓Sx.S0, Sx.S1, Tryd.fx, uWZ4_1, Nat.reduceAdd, Nat.reducePow, Int.reducePow, Nat.reduceBEq, ↓reduceIte, UInt8.reduceToNat, UInt16.reduceToNat, UInt32.reduceToNat, UInt64.reduceToNat, Int.reduceToNat]))
    obtain ⟨vd, hvd, hld, -⟩ := SlV.dropE hl hk true
    refine Cw.regionS [bx] [0, 2, 4, 3, 5, 1, 6, 7, 8, 9] [8] (by kernel_rfl) (by kernel_rfl) (by kernel_rfl) ?_
    simp only [nl_cons, ↓pickL_nil, ↓pickL_cons, ↓nthO_0, ↓nthO_s, consO_some]
    refine Ow.goQ ?_
    simp (disch := (first | assumption | omega | (simp only [lenS, lenT, UInt64.reduceToNat]; try omega))) only [↓Sx.S0, Sx.S1, Tryd.fx, uWZ4_1, Nat.reduceAdd, Nat.reducePow, Int.reducePow, Nat.reduceBEq, ↓reduceIte, UInt8.reduceToNat, UInt16.reduceToNat, UInt32.reduceToNat, UInt64.reduceToNat, Int.reduceToNat, Tryd.ix23, hvd]
    refine Ow.soft rfl rfl rfl ?_
    refine Ow.callC rfl rfl Tryd.call73 (fun w' hw' => list_spec bm om m ls w' (hw'.has _ _ (by simp)) hom hrel (by omega)) (fun B1 v1 D1 hA1 hB1 hN1 hS1 => ?_)
    have hk1 : bm < B1 := above_to hA1 (by simp [keys])
    have hx1 : bx < B1 := above_to hA1 (by simp [keys])
    have hr1 : br < B1 := above_to hA1 (by simp [keys])
    have hn1 : New (w.heap.size) D1 := hN1.mono (by omega)
    with_reducible refine Ow.nil ?_
    refine ⟨by intro b hb; simp only [List.mem_cons, List.not_mem_nil, or_false] at hb; (try subst hb); simp only [List.cons_append, read_same], ?_⟩
    refine Ow.goQ ?_
    simp (disch := (first | assumption | omega | (simp only [lenS, lenT, UInt64.reduceToNat]; try omega))) only [↓Sx.S0, Sx.S1, Tryd.fx, uWZ4_1, Nat.reduceAdd, Nat.reducePow, Int.reducePow, Nat.reduceBEq, ↓reduceIte, UInt8.reduceToNat, UInt16.reduceToNat, UInt32.reduceToNat, UInt64.reduceToNat, Int.reduceToNat, Tryd.ix23, hvd]
    refine Ow.soft rfl rfl rfl ?_
    have hdl : (l.drop k).length < 1000 := by rw [List.length_drop]; omega
    refine Ow.callC rfl rfl Tryd.call47 (fun w' hw' => CloneRef_spec vd (l.drop k) w' (SlV.oldN hld hw' ⟨hwx, hwr, by omega, hn1⟩) (by omega)) (fun B2 v2 D2 hA2 hB2 hN2 hS2 => ?_)
    have hn2 : New (w.heap.size) D2 := hN2.mono (by omega)
    with_reducible refine Ow.nil ?_
    refine ⟨by intro b hb; simp only [List.mem_cons, List.not_mem_nil, or_false] at hb; (try subst hb); simp only [List.cons_append, read_same], ?_⟩
    refine Ow.goQ ?_
    simp (disch := (first | assumption | omega | (simp only [lenS, lenT, UInt64.reduceToNat]; try omega))) only [↓Sx.S0, Sx.S1, Tryd.fx, uWZ4_1, Nat.reduceAdd, Nat.reducePow, Int.reducePow, Nat.reduceBEq, ↓reduceIte, UInt8.reduceToNat, UInt16.reduceToNat, UInt32.reduceToNat, UInt64.reduceToNat, Int.reduceToNat]
    have hc1 := gri_cell hS1
    have hc2 := hS2.cell
    refine Ow.build (.agg #[v1, v2]) rfl (build_bk v1 v2 hc1.2 hc2.2) ?_
    refine Ow.goQ ?_
    simp (disch := (first | assumption | omega | (simp only [lenS, lenT, UInt64.reduceToNat]; try omega))) only [↓Sx.S0, Sx.S1, Tryd.fx, uWZ4_1, Nat.reduceAdd, Nat.reducePow, Int.reducePow, Nat.reduceBEq, ↓reduceIte, UInt8.reduceToNat, UInt16.reduceToNat, UInt32.reduceToNat, UInt64.reduceToNat, Int.reduceToNat]
    have hst := store_bk (.slice none 0 0) (.slice none 0 0) v1 v2 25 hc1.1 hc2.1
    refine Ow.store rfl rfl rfl (by simp (disch := (first | assumption | omega | (simp only [lenS, lenT, UInt64.reduceToNat]; try omega))) only [↓Sx.S0, Sx.S1, Tryd.fx, uWZ4_1, Nat.reduceAdd, Nat.reducePow, Int.reducePow, Nat.reduceBEq, ↓reduceIte, UInt8.reduceToNat, UInt16.reduceToNat, UInt32.reduceToNat, UInt64.reduceToNat, Int.reduceToNat, hst]; rfl) ?_
    refine Ow.goQ ?_
    simp (disch := (first | assumption | omega | (simp only [lenS, lenT, UInt64.reduceToNat]; try omega))) only [↓Sx.S0, Sx.S1, Tryd.fx, uWZ4_1, Nat.reduceAdd, Nat.reducePow, Int.reducePow, Nat.reduceBEq, ↓reduceIte, UInt8.reduceToNat, UInt16.reduceToNat, UInt32.reduceToNat, UInt64.reduceToNat, Int.reduceToNat]
    try with_reducible refine Ow.nil ?_
    ((try with_reducible refine Cw.go [] ?_); (try simp (disch := (first | assumption | omega | (simp only [lenS, lenT, UInt64.reduceToNat]; try omega))) only [↓Sx.S0, Sx.S1, Tryd.fx, uWZ4_1, Nat.reduceAdd, Nat.reducePow, Int.reducePow, Nat.reduceBEq, ↓reduceIte, UInt8.reduceToNat, UInt16.reduceToNat, UInt32.reduceToNat, UInt64.reduceToNat, Int.reduceToNat]))
    refine ⟨_, (by simp (disch := (first | assumption | omega | (simp only [lenS, lenT, UInt64.reduceToNat]; try omega))) only [↓Sx.S0, Sx.S1, Tryd.fx, uWZ4_1, Nat.reduceAdd, Nat.reducePow, Int.reducePow, Nat.reduceBEq, ↓reduceIte, UInt8.reduceToNat, UInt16.reduceToNat, UInt32.reduceToNat, UInt64.reduceToNat, Int.reduceToNat]; rfl), ?_⟩
    refine ⟨Ext.of_new ⟨hwx, hwr, by omega, hn1.app hn2⟩, ?_⟩
    unfold TrimS
    rw [if_pos hr, hkk]
    refine ⟨v1, v2, ls, hv, rfl, hS1.mono fun q hq => ?_, hS2.i fun q hq => ?_⟩
    · simp [hq]
    · simp [hq]
end Go.Proofs
end
section
open Go Go.Proofs Go.Sx
namespace Go.Proofs
set_option maxRecDepth 10000
set_option maxHeartbeats 4000000
set_option linter.unusedSimpArgs false
/-! ### Numbers, texts and ids, as the law writes them -/
theorem clampN_nat {n : Nat} (h : n < 1099511627776) : clampN (n : Int) = n := by unfold clampN maxN; omega
theorem NumberR_spec : ∀ (k : Nat) (n : Int) (w : World), clampN n ≤ k →
    Rets Tryd.prog 107 #[vi n] w (fun v D => v = vs (numL (clampN n)) ∧ D = []) := by
  intro k
  induction k using Nat.strongRecOn with
  | ind k ih =>
    intro n w hk
    refine Rets.enterV Tryd.func107 rfl (rs := [.tmp 2]) Tryd.results107 Tryd.ntmps107 ?_
    simp only [List.size_toArray, List.length_cons, List.length_nil, Nat.reduceAdd, Nat.reduceSub, List.replicate_succ, List.replicate_zero, List.cons_append, List.nil_append]
    by_cases h0 : n < 0
    · have d1 : decide (n < 0) = true := decide_eq_true h0
      have e : clampN n = 0 := by unfold clampN maxN; omega
      rw [e]
      ((try with_reducible refine Cw.go [] ?_); (try simp (disch := (first | assumption | omega | (simp only [lenS, lenT, UInt64.reduceToNat]; try omega))) only [↓Sx.S0, Sx.S1, Tryd.fx, Nat.reduceAdd, Nat.reducePow, Int.reducePow, Nat.reduceBEq, ↓reduceIte, UInt8.reduceToNat, UInt16.reduceToNat, UInt32.reduceToNat, UInt64.reduceToNat, Int.reduceToNat, d1]))
      refine Ow.buildSlice (e := 5) #[v8 0] rfl rfl (by kernel_rfl) fun b1 hb1 hw1 => ?_
      rw [show (#[v8 0] : Array Value) = a8 [0] from rfl]
      refine Ow.go rfl ?_
      simp (disch := (first | assumption | omega | (simp only [lenS, lenT, UInt64.reduceToNat]; try omega))) only [↓Sx.S0, Sx.S1, Tryd.fx, Nat.reduceAdd, Nat.reducePow, Int.reducePow, Nat.reduceBEq, ↓reduceIte, UInt8.reduceToNat, UInt16.reduceToNat, UInt32.reduceToNat, UInt64.reduceToNat, Int.reduceToNat]
      ((try with_reducible refine Cw.go [] ?_); (try simp (disch := (first | assumption | omega | (simp only [lenS, lenT, UInt64.reduceToNat]; try omega))) only [↓Sx.S0, Sx.S1, Tryd.fx, Nat.reduceAdd, Nat.reducePow, Int.reducePow, Nat.reduceBEq, ↓reduceIte, UInt8.reduceToNat, UInt16.reduceToNat, UInt32.reduceToNat, UInt64.reduceToNat, Int.reduceToNat]))
      refine ⟨_, (by simp (disch := (first | assumption | omega | (simp only [lenS, lenT, UInt64.reduceToNat]; try omega))) only [↓Sx.S0, Sx.S1, Tryd.fx, Nat.reduceAdd, Nat.reducePow, Int.reducePow, Nat.reduceBEq, ↓reduceIte, UInt8.reduceToNat, UInt16.reduceToNat, UInt32.reduceToNat, UInt64.reduceToNat, Int.reduceToNat]; rfl), ⟨hw1, trivial⟩, ?_⟩
      rw [numL_small (by omega)]; rfl
    · have d1 : decide (n < 0) = false := decide_eq_false h0
      generalize hm : clampN n = m at hk ⊢
      have hm2 : m ≤ 1099511627775 := by unfold clampN maxN at hm; omega
      by_cases h1 : n > 1099511627775
      · have d2 : decide (1099511627775 < n) = true := decide_eq_true h1
        have e : (1099511627775 : Int) = (m : Int) := by unfold clampN maxN at hm; omega
        ((try with_reducible refine Cw.go [5] ?_); (try simp (disch := (first | assumption | omega | (simp only [lenS, lenT, UInt64.reduceToNat]; try omega))) only [↓Sx.S0, Sx.S1, Tryd.fx, Nat.reduceAdd, Nat.reducePow, Int.reducePow, Nat.reduceBEq, ↓reduceIte, UInt8.reduceToNat, UInt16.reduceToNat, UInt32.reduceToNat, UInt64.reduceToNat, Int.reduceToNat, d1, d2]))
        rw [e]
        by_cases h2 : m < 128
        · have d3 : decide ((m : Int) < 128) = true := decide_eq_true (by omega)
          rw [numL_small h2]
          ((try with_reducible refine Cw.go [] ?_); (try simp (disch := (first | assumption | omega | (simp only [lenS, lenT, UInt64.reduceToNat]; try omega))) only [↓Sx.S0, Sx.S1, Tryd.fx, Nat.reduceAdd, Nat.reducePow, Int.reducePow, Nat.reduceBEq, ↓reduceIte, UInt8.reduceToNat, UInt16.reduceToNat, UInt32.reduceToNat, UInt64.reduceToNat, Int.reduceToNat, d1, d3]))
          generalize hc : UInt8.ofInt (m : Int) = c
          have hc' : c = UInt8.ofNat m := by rw [← hc, byte_int]
          refine Ow.buildSlice (e := 5) #[v8 c] rfl rfl (by kernel_rfl) fun b1 hb1 hw1 => ?_
          rw [show (#[v8 c] : Array Value) = a8 [c] from rfl]
          have e4 : List.take 1 (List.drop 0 [c]) = [c] := rfl
          refine Ow.go rfl ?_
          simp (disch := (first | assumption | omega | (simp only [lenS, lenT, UInt64.reduceToNat]; try omega))) only [↓Sx.S0, Sx.S1, Tryd.fx, Nat.reduceAdd, Nat.reducePow, Int.reducePow, Nat.reduceBEq, ↓reduceIte, UInt8.reduceToNat, UInt16.reduceToNat, UInt32.reduceToNat, UInt64.reduceToNat, Int.reduceToNat, e4]
          ((try with_reducible refine Cw.go [] ?_); (try simp (disch := (first | assumption | omega | (simp only [lenS, lenT, UInt64.reduceToNat]; try omega))) only [↓Sx.S0, Sx.S1, Tryd.fx, Nat.reduceAdd, Nat.reducePow, Int.reducePow, Nat.reduceBEq, ↓reduceIte, UInt8.reduceToNat, UInt16.reduceToNat, UInt32.reduceToNat, UInt64.reduceToNat, Int.reduceToNat]))
          refine ⟨_, (by simp (disch := (first | assumption | omega | (simp only [lenS, lenT, UInt64.reduceToNat]; try omega))) only [↓Sx.S0, Sx.S1, Tryd.fx, Nat.reduceAdd, Nat.reducePow, Int.reducePow, Nat.reduceBEq, ↓reduceIte, UInt8.reduceToNat, UInt16.reduceToNat, UInt32.reduceToNat, UInt64.reduceToNat, Int.reduceToNat]; rfl), ⟨hw1, trivial⟩, ?_⟩
          rw [hc']; rfl
        · have d3 : decide ((m : Int) < 128) = false := decide_eq_false (by omega)
          have ih2 := fun w => ih (m / 128) (by omega) ((m / 128 : Nat) : Int) w (by rw [clampN_nat (by omega)]; omega)
          rw [clampN_nat (by omega)] at ih2
          have hl2 := numL_len_lt 6 (m / 128) (by omega) (by omega)
          rw [numL_big h2]
          ((try with_reducible refine Cw.go [] ?_); (try simp (disch := (first | assumption | omega | (simp only [lenS, lenT, UInt64.reduceToNat]; try omega))) only [↓Sx.S0, Sx.S1, Tryd.fx, Nat.reduceAdd, Nat.reducePow, Int.reducePow, Nat.reduceBEq, ↓reduceIte, UInt8.reduceToNat, UInt16.reduceToNat, UInt32.reduceToNat, UInt64.reduceToNat, Int.reduceToNat, d1, d3]))
          refine Cw.regionK 11 (by kernel_rfl) (by kernel_rfl) ?_
          refine OwK.run [0, 1, 2, 3, 6, 7] [true, true, true, true, false, false, true, true, false, false, false] 5 rfl (by kernel_rfl) (by kernel_rfl) fun k hk => ?_
          simp only [nl_cons, ↓pickL_nil, ↓pickL_cons, ↓nthO_0, ↓nthO_s, consO_some]
          simp (disch := (first | assumption | omega | (simp only [lenS, lenT, UInt64.reduceToNat]; try omega))) only [↓Sx.S0, Sx.S1, Tryd.fx, Nat.reduceAdd, Nat.reducePow, Int.reducePow, Nat.reduceBEq, ↓reduceIte, UInt8.reduceToNat, UInt16.reduceToNat, UInt32.reduceToNat, UInt64.reduceToNat, Int.reduceToNat]
          (with_reducible refine hk _ _ _ ?_); clear hk k
          generalize hc : UInt8.ofInt ((m : Int) % 128 + 128) = c
          have hc' : c = UInt8.ofNat (m % 128 + 128) := by rw [← hc, show ((m : Int) % 128 + 128) = ((m % 128 + 128 : Nat) : Int) from rfl, byte_int]
          rw [show (m : Int) / 128 = ((m / 128 : Nat) : Int) from rfl]
          refine OwK.two 4 8 _ _ (by kernel_rfl) rfl rfl ?_ ?_
          · refine Ow.buildSlice (e := 5) #[v8 c] rfl rfl (by kernel_rfl) fun b1 hb1 hw1 => ?_
            rw [show (#[v8 c] : Array Value) = a8 [c] from rfl]
            have e4 : List.take 1 (List.drop 0 [c]) = [c] := rfl
            refine Ow.go rfl ?_
            simp (disch := (first | assumption | omega | (simp only [lenS, lenT, UInt64.reduceToNat]; try omega))) only [↓Sx.S0, Sx.S1, Tryd.fx, Nat.reduceAdd, Nat.reducePow, Int.reducePow, Nat.reduceBEq, ↓reduceIte, UInt8.reduceToNat, UInt16.reduceToNat, UInt32.reduceToNat, UInt64.reduceToNat, Int.reduceToNat, e4]
            try with_reducible refine Ow.nil ?_
            refine OwK.two 5 8 _ _ (by kernel_rfl) rfl rfl ?_ ?_
            · refine Ow.go rfl ?_
              simp (disch := (first | assumption | omega | (simp only [lenS, lenT, UInt64.reduceToNat]; try omega))) only [↓Sx.S0, Sx.S1, Tryd.fx, Nat.reduceAdd, Nat.reducePow, Int.reducePow, Nat.reduceBEq, ↓reduceIte, UInt8.reduceToNat, UInt16.reduceToNat, UInt32.reduceToNat, UInt64.reduceToNat, Int.reduceToNat, e4]
              refine OwK.rest [8, 9, 10] [4, 8] rfl (by kernel_rfl) (by kernel_rfl) ?_
              simp only [nl_cons, ↓pickL_nil, ↓pickL_cons, ↓nthO_0, ↓nthO_s, consO_some]
              refine Ow.callFV rfl Tryd.call107 (fun w' hw' => ih2 w') ?_
              refine Ow.go rfl ?_
              simp (disch := (first | assumption | omega | (simp only [lenS, lenT, UInt64.reduceToNat]; try omega))) only [↓Sx.S0, Sx.S1, Tryd.fx, Nat.reduceAdd, Nat.reducePow, Int.reducePow, Nat.reduceBEq, ↓reduceIte, UInt8.reduceToNat, UInt16.reduceToNat, UInt32.reduceToNat, UInt64.reduceToNat, Int.reduceToNat]
              ((try with_reducible refine Cw.go [] ?_); (try simp (disch := (first | assumption | omega | (simp only [lenS, lenT, UInt64.reduceToNat]; try omega))) only [↓Sx.S0, Sx.S1, Tryd.fx, Nat.reduceAdd, Nat.reducePow, Int.reducePow, Nat.reduceBEq, ↓reduceIte, UInt8.reduceToNat, UInt16.reduceToNat, UInt32.reduceToNat, UInt64.reduceToNat, Int.reduceToNat]))
              refine ⟨_, (by simp (disch := (first | assumption | omega | (simp only [lenS, lenT, UInt64.reduceToNat]; try omega))) only [↓Sx.S0, Sx.S1, Tryd.fx, Nat.reduceAdd, Nat.reducePow, Int.reducePow, Nat.reduceBEq, ↓reduceIte, UInt8.reduceToNat, UInt16.reduceToNat, UInt32.reduceToNat, UInt64.reduceToNat, Int.reduceToNat]; rfl), ⟨hw1, trivial⟩, ?_⟩
              rw [hc']; rfl
            · refine Ow.callFV rfl Tryd.call107 (fun w' hw' => ih2 w') ?_
              refine Ow.go rfl ?_
              simp (disch := (first | assumption | omega | (simp only [lenS, lenT, UInt64.reduceToNat]; try omega))) only [↓Sx.S0, Sx.S1, Tryd.fx, Nat.reduceAdd, Nat.reducePow, Int.reducePow, Nat.reduceBEq, ↓reduceIte, UInt8.reduceToNat, UInt16.reduceToNat, UInt32.reduceToNat, UInt64.reduceToNat, Int.reduceToNat]
              refine OwK.rest [5, 9, 10] [4, 8] rfl (by kernel_rfl) (by kernel_rfl) ?_
              simp only [nl_cons, ↓pickL_nil, ↓pickL_cons, ↓nthO_0, ↓nthO_s, consO_some]
              refine Ow.go rfl ?_
              simp (disch := (first | assumption | omega | (simp only [lenS, lenT, UInt64.reduceToNat]; try omega))) only [↓Sx.S0, Sx.S1, Tryd.fx, Nat.reduceAdd, Nat.reducePow, Int.reducePow, Nat.reduceBEq, ↓reduceIte, UInt8.reduceToNat, UInt16.reduceToNat, UInt32.reduceToNat, UInt64.reduceToNat, Int.reduceToNat, e4]
              ((try with_reducible refine Cw.go [] ?_); (try simp (disch := (first | assumption | omega | (simp only [lenS, lenT, UInt64.reduceToNat]; try omega))) only [↓Sx.S0, Sx.S1, Tryd.fx, Nat.reduceAdd, Nat.reducePow, Int.reducePow, Nat.reduceBEq, ↓reduceIte, UInt8.reduceToNat, UInt16.reduceToNat, UInt32.reduceToNat, UInt64.reduceToNat, Int.reduceToNat]))
              refine ⟨_, (by simp (disch := (first | assumption | omega | (simp only [lenS, lenT, UInt64.reduceToNat]; try omega))) only [↓Sx.S0, Sx.S1, Tryd.fx, Nat.reduceAdd, Nat.reducePow, Int.reducePow, Nat.reduceBEq, ↓reduceIte, UInt8.reduceToNat, UInt16.reduceToNat, UInt32.reduceToNat, UInt64.reduceToNat, Int.reduceToNat]; rfl), ⟨hw1, trivial⟩, ?_⟩
              rw [hc']; rfl
          · refine Ow.callFV rfl Tryd.call107 (fun w' hw' => ih2 w') ?_
            refine Ow.go rfl ?_
            simp (disch := (first | assumption | omega | (simp only [lenS, lenT, UInt64.reduceToNat]; try omega))) only [↓Sx.S0, Sx.S1, Tryd.fx, Nat.reduceAdd, Nat.reducePow, Int.reducePow, Nat.reduceBEq, ↓reduceIte, UInt8.reduceToNat, UInt16.reduceToNat, UInt32.reduceToNat, UInt64.reduceToNat, Int.reduceToNat]
            refine OwK.rest [4, 5, 9, 10] [4, 8] rfl (by kernel_rfl) (by kernel_rfl) ?_
            simp only [nl_cons, ↓pickL_nil, ↓pickL_cons, ↓nthO_0, ↓nthO_s, consO_some]
            refine Ow.buildSlice (e := 5) #[v8 c] rfl rfl (by kernel_rfl) fun b1 hb1 hw1 => ?_
            rw [show (#[v8 c] : Array Value) = a8 [c] from rfl]
            have e4 : List.take 1 (List.drop 0 [c]) = [c] := rfl
            refine Ow.go rfl ?_
            simp (disch := (first | assumption | omega | (simp only [lenS, lenT, UInt64.reduceToNat]; try omega))) only [↓Sx.S0, Sx.S1, Tryd.fx, Nat.reduceAdd, Nat.reducePow, Int.reducePow, Nat.reduceBEq, ↓reduceIte, UInt8.reduceToNat, UInt16.reduceToNat, UInt32.reduceToNat, UInt64.reduceToNat, Int.reduceToNat, e4]
            ((try with_reducible refine Cw.go [] ?_); (try simp (disch := (first | assumption | omega | (simp only [lenS, lenT, UInt64.reduceToNat]; try omega))) only [↓Sx.S0, Sx.S1, Tryd.fx, Nat.reduceAdd, Nat.reducePow, Int.reducePow, Nat.reduceBEq, ↓reduceIte, UInt8.reduceToNat, UInt16.reduceToNat, UInt32.reduceToNat, UInt64.reduceToNat, Int.reduceToNat]))
            refine ⟨_, (by simp (disch := (first | assumption | omega | (simp only [lenS, lenT, UInt64.reduceToNat]; try omega))) only [↓Sx.S0, Sx.S1, Tryd.fx, Nat.reduceAdd, Nat.reducePow, Int.reducePow, Nat.reduceBEq, ↓reduceIte, UInt8.reduceToNat, UInt16.reduceToNat, UInt32.reduceToNat, UInt64.reduceToNat, Int.reduceToNat]; rfl), ⟨hw1, trivial⟩, ?_⟩
            rw [hc']; rfl
      · have d2 : decide (1099511627775 < n) = false := decide_eq_false h1
        have e : n = (m : Int) := by unfold clampN maxN at hm; omega
        subst e
        ((try with_reducible refine Cw.go [5] ?_); (try simp (disch := (first | assumption | omega | (simp only [lenS, lenT, UInt64.reduceToNat]; try omega))) only [↓Sx.S0, Sx.S1, Tryd.fx, Nat.reduceAdd, Nat.reducePow, Int.reducePow, Nat.reduceBEq, ↓reduceIte, UInt8.reduceToNat, UInt16.reduceToNat, UInt32.reduceToNat, UInt64.reduceToNat, Int.reduceToNat, d1, d2]))
        by_cases h2 : m < 128
        · have d3 : decide ((m : Int) < 128) = true := decide_eq_true (by omega)
          rw [numL_small h2]
          ((try with_reducible refine Cw.go [] ?_); (try simp (disch := (first | assumption | omega | (simp only [lenS, lenT, UInt64.reduceToNat]; try omega))) only [↓Sx.S0, Sx.S1, Tryd.fx, Nat.reduceAdd, Nat.reducePow, Int.reducePow, Nat.reduceBEq, ↓reduceIte, UInt8.reduceToNat, UInt16.reduceToNat, UInt32.reduceToNat, UInt64.reduceToNat, Int.reduceToNat, d1, d3]))
          generalize hc : UInt8.ofInt (m : Int) = c
          have hc' : c = UInt8.ofNat m := by rw [← hc, byte_int]
          refine Ow.buildSlice (e := 5) #[v8 c] rfl rfl (by kernel_rfl) fun b1 hb1 hw1 => ?_
          rw [show (#[v8 c] : Array Value) = a8 [c] from rfl]
          have e4 : List.take 1 (List.drop 0 [c]) = [c] := rfl
          refine Ow.go rfl ?_
          simp (disch := (first | assumption | omega | (simp only [lenS, lenT, UInt64.reduceToNat]; try omega))) only [↓Sx.S0, Sx.S1, Tryd.fx, Nat.reduceAdd, Nat.reducePow, Int.reducePow, Nat.reduceBEq, ↓reduceIte, UInt8.reduceToNat, UInt16.reduceToNat, UInt32.reduceToNat, UInt64.reduceToNat, Int.reduceToNat, e4]
          ((try with_reducible refine Cw.go [] ?_); (try simp (disch := (first | assumption | omega | (simp only [lenS, lenT, UInt64.reduceToNat]; try omega))) only [↓Sx.S0, Sx.S1, Tryd.fx, Nat.reduceAdd, Nat.reducePow, Int.reducePow, Nat.reduceBEq, ↓reduceIte, UInt8.reduceToNat, UInt16.reduceToNat, UInt32.reduceToNat, UInt64.reduceToNat, Int.reduceToNat]))
          refine ⟨_, (by simp (disch := (first | assumption | omega | (simp only [lenS, lenT, UInt64.reduceToNat]; try omega))) only [↓Sx.S0, Sx.S1, Tryd.fx, Nat.reduceAdd, Nat.reducePow, Int.reducePow, Nat.reduceBEq, ↓reduceIte, UInt8.reduceToNat, UInt16.reduceToNat, UInt32.reduceToNat, UInt64.reduceToNat, Int.reduceToNat]; rfl), ⟨hw1, trivial⟩, ?_⟩
          rw [hc']; rfl
        · have d3 : decide ((m : Int) < 128) = false := decide_eq_false (by omega)
          have ih2 := fun w => ih (m / 128) (by omega) ((m / 128 : Nat) : Int) w (by rw [clampN_nat (by omega)]; omega)
          rw [clampN_nat (by omega)] at ih2
          have hl2 := numL_len_lt 6 (m / 128) (by omega) (by omega)
          rw [numL_big h2]
          ((try with_reducible refine Cw.go [] ?_); (try simp (disch := (first | assumption | omega | (simp only [lenS, lenT, UInt64.reduceToNat]; try omega))) only [↓Sx.S0, Sx.S1, Tryd.fx, Nat.reduceAdd, Nat.reducePow, Int.reducePow, Nat.reduceBEq, ↓reduceIte, UInt8.reduceToNat, UInt16.reduceToNat, UInt32.reduceToNat, UInt64.reduceToNat, Int.reduceToNat, d1, d3]))
          refine Cw.regionK 11 (by kernel_rfl) (by kernel_rfl) ?_
          refine OwK.run [0, 1, 2, 3, 6, 7] [true, true, true, true, false, false, true, true, false, false, false] 5 rfl (by kernel_rfl) (by kernel_rfl) fun k hk => ?_
          simp only [nl_cons, ↓pickL_nil, ↓pickL_cons, ↓nthO_0, ↓nthO_s, consO_some]
          simp (disch := (first | assumption | omega | (simp only [lenS, lenT, UInt64.reduceToNat]; try omega))) only [↓Sx.S0, Sx.S1, Tryd.fx, Nat.reduceAdd, Nat.reducePow, Int.reducePow, Nat.reduceBEq, ↓reduceIte, UInt8.reduceToNat, UInt16.reduceToNat, UInt32.reduceToNat, UInt64.reduceToNat, Int.reduceToNat]
          (with_reducible refine hk _ _ _ ?_); clear hk k
          generalize hc : UInt8.ofInt ((m : Int) % 128 + 128) = c
          have hc' : c = UInt8.ofNat (m % 128 + 128) := by rw [← hc, show ((m : Int) % 128 + 128) = ((m % 128 + 128 : Nat) : Int) from rfl, byte_int]
          rw [show (m : Int) / 128 = ((m / 128 : Nat) : Int) from rfl]
          refine OwK.two 4 8 _ _ (by kernel_rfl) rfl rfl ?_ ?_
          · refine Ow.buildSlice (e := 5) #[v8 c] rfl rfl (by kernel_rfl) fun b1 hb1 hw1 => ?_
            rw [show (#[v8 c] : Array Value) = a8 [c] from rfl]
            have e4 : List.take 1 (List.drop 0 [c]) = [c] := rfl
            refine Ow.go rfl ?_
            simp (disch := (first | assumption | omega | (simp only [lenS, lenT, UInt64.reduceToNat]; try omega))) only [↓Sx.S0, Sx.S1, Tryd.fx, Nat.reduceAdd, Nat.reducePow, Int.reducePow, Nat.reduceBEq, ↓reduceIte, UInt8.reduceToNat, UInt16.reduceToNat, UInt32.reduceToNat, UInt64.reduceToNat, Int.reduceToNat, e4]
            try with_reducible refine Ow.nil ?_
            refine OwK.two 5 8 _ _ (by kernel_rfl) rfl rfl ?_ ?_
            · refine Ow.go rfl ?_
              simp (disch := (first | assumption | omega | (simp only [lenS, lenT, UInt64.reduceToNat]; try omega))) only [↓Sx.S0, Sx.S1, Tryd.fx, Nat.reduceAdd, Nat.reducePow, Int.reducePow, Nat.reduceBEq, ↓reduceIte, UInt8.reduceToNat, UInt16.reduceToNat, UInt32.reduceToNat, UInt64.reduceToNat, Int.reduceToNat, e4]
              refine OwK.rest [8, 9, 10] [4, 8] rfl (by kernel_rfl) (by kernel_rfl) ?_
              simp only [nl_cons, ↓pickL_nil, ↓pickL_cons, ↓nthO_0, ↓nthO_s, consO_some]
              refine Ow.callFV rfl Tryd.call107 (fun w' hw' => ih2 w') ?_
              refine Ow.go rfl ?_
              simp (disch := (first | assumption | omega | (simp only [lenS, lenT, UInt64.reduceToNat]; try omega))) only [↓Sx.S0, Sx.S1, Tryd.fx, Nat.reduceAdd, Nat.reducePow, Int.reducePow, Nat.reduceBEq, ↓reduceIte, UInt8.reduceToNat, UInt16.reduceToNat, UInt32.reduceToNat, UInt64.reduceToNat, Int.reduceToNat]
              ((try with_reducible refine Cw.go [] ?_); (try simp (disch := (first | assumption | omega | (simp only [lenS, lenT, UInt64.reduceToNat]; try omega))) only [↓Sx.S0, Sx.S1, Tryd.fx, Nat.reduceAdd, Nat.reducePow, Int.reducePow, Nat.reduceBEq, ↓reduceIte, UInt8.reduceToNat, UInt16.reduceToNat, UInt32.reduceToNat, UInt64.reduceToNat, Int.reduceToNat]))
              refine ⟨_, (by simp (disch := (first | assumption | omega | (simp only [lenS, lenT, UInt64.reduceToNat]; try omega))) only [↓Sx.S0, Sx.S1, Tryd.fx, Nat.reduceAdd, Nat.reducePow, Int.reducePow, Nat.reduceBEq, ↓reduceIte, UInt8.reduceToNat, UInt16.reduceToNat, UInt32.reduceToNat, UInt64.reduceToNat, Int.reduceToNat]; rfl), ⟨hw1, trivial⟩, ?_⟩
              rw [hc']; rfl
            · refine Ow.callFV rfl Tryd.call107 (fun w' hw' => ih2 w') ?_
              refine Ow.go rfl ?_
              simp (disch := (first | assumption | omega | (simp only [lenS, lenT, UInt64.reduceToNat]; try omega))) only [↓Sx.S0, Sx.S1, Tryd.fx, Nat.reduceAdd, Nat.reducePow, Int.reducePow, Nat.reduceBEq, ↓reduceIte, UInt8.reduceToNat, UInt16.reduceToNat, UInt32.reduceToNat, UInt64.reduceToNat, Int.reduceToNat]
              refine OwK.rest [5, 9, 10] [4, 8] rfl (by kernel_rfl) (by kernel_rfl) ?_
              simp only [nl_cons, ↓pickL_nil, ↓pickL_cons, ↓nthO_0, ↓nthO_s, consO_some]
              refine Ow.go rfl ?_
              simp (disch := (first | assumption | omega | (simp only [lenS, lenT, UInt64.reduceToNat]; try omega))) only [↓Sx.S0, Sx.S1, Tryd.fx, Nat.reduceAdd, Nat.reducePow, Int.reducePow, Nat.reduceBEq, ↓reduceIte, UInt8.reduceToNat, UInt16.reduceToNat, UInt32.reduceToNat, UInt64.reduceToNat, Int.reduceToNat, e4]
              ((try with_reducible refine Cw.go [] ?_); (try simp (disch := (first | assumption | omega | (simp only [lenS, lenT, UInt64.reduceToNat]; try omega))) only [↓Sx.S0, Sx.S1, Tryd.fx, Nat.reduceAdd, Nat.reducePow, Int.reducePow, Nat.reduceBEq, ↓reduceIte, UInt8.reduceToNat, UInt16.reduceToNat, UInt32.reduceToNat, UInt64.reduceToNat, Int.reduceToNat]))
              refine ⟨_, (by simp (disch := (first | assumption | omega | (simp only [lenS, lenT, UInt64.reduceToNat]; try omega))) only [↓Sx.S0, Sx.S1, Tryd.fx, Nat.reduceAdd, Nat.reducePow, Int.reducePow, Nat.reduceBEq, ↓reduceIte, UInt8.reduceToNat, UInt16.reduceToNat, UInt32.reduceToNat, UInt64.reduceToNat, Int.reduceToNat]; rfl), ⟨hw1, trivial⟩, ?_⟩
              rw [hc']; rfl
          · refine Ow.callFV rfl Tryd.call107 (fun w' hw' => ih2 w') ?_
            refine Ow.go rfl ?_
            simp (disch := (first | assumption | omega | (simp only [lenS, lenT, UInt64.reduceToNat]; try omega))) only [↓Sx.S0, Sx.S1, Tryd.fx, Nat.reduceAdd, Nat.reducePow, Int.reducePow, Nat.reduceBEq, ↓reduceIte, UInt8.reduceToNat, UInt16.reduceToNat, UInt32.reduceToNat, UInt64.reduceToNat, Int.reduceToNat]
            refine OwK.rest [4, 5, 9, 10] [4, 8] rfl (by kernel_rfl) (by kernel_rfl) ?_
            simp only [nl_cons, ↓pickL_nil, ↓pickL_cons, ↓nthO_0, ↓nthO_s, consO_some]
            refine Ow.buildSlice (e := 5) #[v8 c] rfl rfl (by kernel_rfl) fun b1 hb1 hw1 => ?_
            rw [show (#[v8 c] : Array Value) = a8 [c] from rfl]
            have e4 : List.take 1 (List.drop 0 [c]) = [c] := rfl
            refine Ow.go rfl ?_
            simp (disch := (first | assumption | omega | (simp only [lenS, lenT, UInt64.reduceToNat]; try omega))) only [↓Sx.S0, Sx.S1, Tryd.fx, Nat.reduceAdd, Nat.reducePow, Int.reducePow, Nat.reduceBEq, ↓reduceIte, UInt8.reduceToNat, UInt16.reduceToNat, UInt32.reduceToNat, UInt64.reduceToNat, Int.reduceToNat, e4]
            ((try with_reducible refine Cw.go [] ?_); (try simp (disch := (first | assumption | omega | (simp only [lenS, lenT, UInt64.reduceToNat]; try omega))) only [↓Sx.S0, Sx.S1, Tryd.fx, Nat.reduceAdd, Nat.reducePow, Int.reducePow, Nat.reduceBEq, ↓reduceIte, UInt8.reduceToNat, UInt16.reduceToNat, UInt32.reduceToNat, UInt64.reduceToNat, Int.reduceToNat]))
            refine ⟨_, (by simp (disch := (first | assumption | omega | (simp only [lenS, lenT, UInt64.reduceToNat]; try omega))) only [↓Sx.S0, Sx.S1, Tryd.fx, Nat.reduceAdd, Nat.reducePow, Int.reducePow, Nat.reduceBEq, ↓reduceIte, UInt8.reduceToNat, UInt16.reduceToNat, UInt32.reduceToNat, UInt64.reduceToNat, Int.reduceToNat]; rfl), ⟨hw1, trivial⟩, ?_⟩
            rw [hc']; rfl
theorem TextR_spec (s : List UInt8) (w : World) (hs : s.length < 1099511627776) :
    Rets Tryd.prog 66 #[vs s] w (fun v D => v = vs (textL s) ∧ D = []) := by
  have hnl := numL_clamp_len (s.length : Int)
  refine Rets.enterV Tryd.func66 rfl (rs := [.tmp 2]) Tryd.results66 Tryd.ntmps66 ?_
  simp only [List.size_toArray, List.length_cons, List.length_nil, Nat.reduceAdd, Nat.reduceSub, List.replicate_succ, List.replicate_zero, List.cons_append, List.nil_append]
  ((try with_reducible refine Cw.go [] ?_); (try simp (disch := (first | assumption | omega | (simp only [lenS, lenT, UInt64.reduceToNat]; try omega))) only [↓Sx.S0, Sx.S1, Tryd.fx, Nat.reduceAdd, Nat.reducePow, Int.reducePow, Nat.reduceBEq, ↓reduceIte, UInt8.reduceToNat, UInt16.reduceToNat, UInt32.reduceToNat, UInt64.reduceToNat, Int.reduceToNat]))
  refine Ow.callFV rfl Tryd.call107 (fun w' hw' => NumberR_spec _ _ w' (Nat.le_refl _)) ?_
  refine Ow.go rfl ?_
  simp (disch := (first | assumption | omega | (simp only [lenS, lenT, UInt64.reduceToNat]; try omega))) only [↓Sx.S0, Sx.S1, Tryd.fx, Nat.reduceAdd, Nat.reducePow, Int.reducePow, Nat.reduceBEq, ↓reduceIte, UInt8.reduceToNat, UInt16.reduceToNat, UInt32.reduceToNat, UInt64.reduceToNat, Int.reduceToNat]
  ((try with_reducible refine Cw.go [] ?_); (try simp (disch := (first | assumption | omega | (simp only [lenS, lenT, UInt64.reduceToNat]; try omega))) only [↓Sx.S0, Sx.S1, Tryd.fx, Nat.reduceAdd, Nat.reducePow, Int.reducePow, Nat.reduceBEq, ↓reduceIte, UInt8.reduceToNat, UInt16.reduceToNat, UInt32.reduceToNat, UInt64.reduceToNat, Int.reduceToNat]))
  refine ⟨_, (by simp (disch := (first | assumption | omega | (simp only [lenS, lenT, UInt64.reduceToNat]; try omega))) only [↓Sx.S0, Sx.S1, Tryd.fx, Nat.reduceAdd, Nat.reducePow, Int.reducePow, Nat.reduceBEq, ↓reduceIte, UInt8.reduceToNat, UInt16.reduceToNat, UInt32.reduceToNat, UInt64.reduceToNat, Int.reduceToNat]; rfl), trivial, ?_⟩
  rfl
theorem IdR_spec (x : IdL) (w : World) :
    Rets Tryd.prog 76 #[.agg (a8 x.l)] w (fun v D => v = vs x.l ∧ D = []) := by
  have hxl := x.h
  refine Rets.enterV Tryd.func76 rfl (rs := [.tmp 2]) Tryd.results76 Tryd.ntmps76 ?_
  simp only [List.size_toArray, List.length_cons, List.length_nil, Nat.reduceAdd, Nat.reduceSub, List.replicate_succ, List.replicate_zero, List.cons_append, List.nil_append]
  ((try with_reducible refine Cw.go [] ?_); (try simp (disch := (first | assumption | omega | (simp only [lenS, lenT, UInt64.reduceToNat]; try omega))) only [↓Sx.S0, Sx.S1, Tryd.fx, Nat.reduceAdd, Nat.reducePow, Int.reducePow, Nat.reduceBEq, ↓reduceIte, UInt8.reduceToNat, UInt16.reduceToNat, UInt32.reduceToNat, UInt64.reduceToNat, Int.reduceToNat]))
  refine Ow.box rfl rfl fun bx hbx hwx => ?_
  simp only [ev_tmp, getF_0, getF_s, cells_agg, List.nil_append, List.cons_append]
  refine Ow.go rfl ?_
  simp (disch := (first | assumption | omega | (simp only [lenS, lenT, UInt64.reduceToNat]; try omega))) only [↓Sx.S0, Sx.S1, Tryd.fx, Nat.reduceAdd, Nat.reducePow, Int.reducePow, Nat.reduceBEq, ↓reduceIte, UInt8.reduceToNat, UInt16.reduceToNat, UInt32.reduceToNat, UInt64.reduceToNat, Int.reduceToNat]
  have e4 : List.take 32 (List.drop 0 x.l) = x.l := by rw [List.drop_zero, List.take_of_length_le (by omega)]
  ((try with_reducible refine Cw.go [] ?_); (try simp (disch := (first | assumption | omega | (simp only [lenS, lenT, UInt64.reduceToNat]; try omega))) only [↓Sx.S0, Sx.S1, Tryd.fx, Nat.reduceAdd, Nat.reducePow, Int.reducePow, Nat.reduceBEq, ↓reduceIte, UInt8.reduceToNat, UInt16.reduceToNat, UInt32.reduceToNat, UInt64.reduceToNat, Int.reduceToNat, e4]))
  refine ⟨_, (by simp (disch := (first | assumption | omega | (simp only [lenS, lenT, UInt64.reduceToNat]; try omega))) only [↓Sx.S0, Sx.S1, Tryd.fx, Nat.reduceAdd, Nat.reducePow, Int.reducePow, Nat.reduceBEq, ↓reduceIte, UInt8.reduceToNat, UInt16.reduceToNat, UInt32.reduceToNat, UInt64.reduceToNat, Int.reduceToNat]; rfl), ⟨hwx, trivial⟩, ?_⟩
  rfl
end Go.Proofs
end
section
open Go Go.Proofs Go.Sx Go.RefP
namespace Go.Proofs
set_option maxRecDepth 10000
set_option maxHeartbeats 4000000
set_option linter.unusedSimpArgs false
set_option linter.defProp false
def uWZ6_1 := And.intro (And.intro (And.intro (And.intro (@rdIn_v8) (@rdIn_v16)) (And.intro (@rdIn_v32) (@rdIn_v64))) (And.intro (And.intro (@rdIn_vi) (@load_ref0)) (And.intro (@load_ref1) (@cells_ref)))) (And.intro (And.intro (And.intro (@eqIdz) (@store_rr)) (And.intro (@load_ref) (@load_bk0))) (And.intro (And.intro (@load_bk1) (@load_bk)) (And.intro (@tup2_0) (And.intro (@tup2_1) (@store_bk0)))))
theorem refEntry_spec (r : RefL) (w : World) (hs : r.name.length < 1000) :
    Rets Tryd.prog 35 #[.agg (refC r).toArray] w (fun v D => v = vs (recordV (entryB r)) ∧ D = []) := by
  have hil := r.id.h
  refine Rets.enterV Tryd.func35 rfl (rs := [.tmp 2]) Tryd.results35 Tryd.ntmps35 ?_
  simp only [List.size_toArray, List.length_cons, List.length_nil, Nat.reduceAdd, Nat.reduceSub, List.replicate_succ, List.replicate_zero, List.cons_append, List.nil_append]
  ((try with_reducible refine Cw.go [] ?_); (try simp (disch := (first | assumption | omega | (simp only [lenS, lenT, UInt64.reduceToNat]; try omega))) only [↓Sx.S0, Sx.S1, Tryd.fx, uWZ6_1, Nat.reduceAdd, Nat.reducePow, Int.reducePow, Nat.reduceBEq, ↓reduceIte, UInt8.reduceToNat, UInt16.reduceToNat, UInt32.reduceToNat, UInt64.reduceToNat, Int.reduceToNat]))
  refine Ow.box rfl rfl fun bx hbx hwx => ?_
  simp only [ev_tmp, getF_0, getF_s, cells_agg, List.nil_append, List.cons_append]
  refine Ow.go rfl ?_
  simp (disch := (first | assumption | omega | (simp only [lenS, lenT, UInt64.reduceToNat]; try omega))) only [↓Sx.S0, Sx.S1, Tryd.fx, uWZ6_1, Nat.reduceAdd, Nat.reducePow, Int.reducePow, Nat.reduceBEq, ↓reduceIte, UInt8.reduceToNat, UInt16.reduceToNat, UInt32.reduceToNat, UInt64.reduceToNat, Int.reduceToNat]
  ((try with_reducible refine Cw.go [] ?_); (try simp (disch := (first | assumption | omega | (simp only [lenS, lenT, UInt64.reduceToNat]; try omega))) only [↓Sx.S0, Sx.S1, Tryd.fx, uWZ6_1, Nat.reduceAdd, Nat.reducePow, Int.reducePow, Nat.reduceBEq, ↓reduceIte, UInt8.reduceToNat, UInt16.reduceToNat, UInt32.reduceToNat, UInt64.reduceToNat, Int.reduceToNat]))
  refine Cw.regionO [0, 4, 1, 5, 2, 3, 6, 7, 8, 9, 10] [] rfl (by kernel_rfl) (by kernel_rfl) ?_
  simp only [nl_cons, ↓pickL_nil, ↓pickL_cons, ↓nthO_0, ↓nthO_s, consO_some]
  refine Ow.goQ ?_
  simp (disch := (first | assumption | omega | (simp only [lenS, lenT, UInt64.reduceToNat]; try omega))) only [↓Sx.S0, Sx.S1, Tryd.fx, uWZ6_1, Nat.reduceAdd, Nat.reducePow, Int.reducePow, Nat.reduceBEq, ↓reduceIte, UInt8.reduceToNat, UInt16.reduceToNat, UInt32.reduceToNat, UInt64.reduceToNat, Int.reduceToNat]
  have hel : (entryB r).length < 1100 := by
    have h1 := numL_clamp_len (r.name.length : Int)
    unfold entryB textL
    simp only [List.length_append, List.length_cons, List.length_nil]
    omega
  have hsl := sealV_len (entryB r)
  have htl : (textL r.name).length < 1100 := by
    have h1 := numL_clamp_len (r.name.length : Int)
    unfold textL
    simp only [List.length_append]
    omega
  have ha1 := bin_add_s [69] (textL r.name) (by simp; omega)
  have ha2 : binV .add (vs ([69] ++ textL r.name)) (vs r.id.l) = some (vs (entryB r)) := bin_add_s ([69] ++ textL r.name) r.id.l (by simp; omega)
  refine Ow.callFV rfl Tryd.call66 (fun w' hw' => TextR_spec r.name w' (by omega)) ?_
  refine Ow.goQ ?_
  simp (disch := (first | assumption | omega | (simp only [lenS, lenT, UInt64.reduceToNat]; try omega))) only [↓Sx.S0, Sx.S1, Tryd.fx, uWZ6_1, Nat.reduceAdd, Nat.reducePow, Int.reducePow, Nat.reduceBEq, ↓reduceIte, UInt8.reduceToNat, UInt16.reduceToNat, UInt32.reduceToNat, UInt64.reduceToNat, Int.reduceToNat, ha1]
  refine Ow.callFV rfl Tryd.call76 (fun w' hw' => IdR_spec r.id w') ?_
  refine Ow.goQ ?_
  simp (disch := (first | assumption | omega | (simp only [lenS, lenT, UInt64.reduceToNat]; try omega))) only [↓Sx.S0, Sx.S1, Tryd.fx, uWZ6_1, Nat.reduceAdd, Nat.reducePow, Int.reducePow, Nat.reduceBEq, ↓reduceIte, UInt8.reduceToNat, UInt16.reduceToNat, UInt32.reduceToNat, UInt64.reduceToNat, Int.reduceToNat, ha2]
  refine Ow.callFV rfl Tryd.call75 (fun w' hw' => refSeal_spec (entryB r) w' (by omega)) ?_
  refine Ow.goQ ?_
  simp (disch := (first | assumption | omega | (simp only [lenS, lenT, UInt64.reduceToNat]; try omega))) only [↓Sx.S0, Sx.S1, Tryd.fx, uWZ6_1, Nat.reduceAdd, Nat.reducePow, Int.reducePow, Nat.reduceBEq, ↓reduceIte, UInt8.reduceToNat, UInt16.reduceToNat, UInt32.reduceToNat, UInt64.reduceToNat, Int.reduceToNat]
  refine Ow.callFV rfl Tryd.call66 (fun w' hw' => TextR_spec (sealV (entryB r)) w' (by omega)) ?_
  refine Ow.goQ ?_
  simp (disch := (first | assumption | omega | (simp only [lenS, lenT, UInt64.reduceToNat]; try omega))) only [↓Sx.S0, Sx.S1, Tryd.fx, uWZ6_1, Nat.reduceAdd, Nat.reducePow, Int.reducePow, Nat.reduceBEq, ↓reduceIte, UInt8.reduceToNat, UInt16.reduceToNat, UInt32.reduceToNat, UInt64.reduceToNat, Int.reduceToNat]
  try with_reducible refine Ow.nil ?_
  ((try with_reducible refine Cw.go [] ?_); (try simp (disch := (first | assumption | omega | (simp only [lenS, lenT, UInt64.reduceToNat]; try omega))) only [↓Sx.S0, Sx.S1, Tryd.fx, uWZ6_1, Nat.reduceAdd, Nat.reducePow, Int.reducePow, Nat.reduceBEq, ↓reduceIte, UInt8.reduceToNat, UInt16.reduceToNat, UInt32.reduceToNat, UInt64.reduceToNat, Int.reduceToNat]))
  refine ⟨_, (by simp (disch := (first | assumption | omega | (simp only [lenS, lenT, UInt64.reduceToNat]; try omega))) only [↓Sx.S0, Sx.S1, Tryd.fx, uWZ6_1, Nat.reduceAdd, Nat.reducePow, Int.reducePow, Nat.reduceBEq, ↓reduceIte, UInt8.reduceToNat, UInt16.reduceToNat, UInt32.reduceToNat, UInt64.reduceToNat, Int.reduceToNat]; rfl), ⟨hwx, trivial⟩, ?_⟩
  rfl
theorem _root_.Go.Sx.SlV.cellW {α : Type} {m : Nat} {enc : α → List Value} {z : α} {w : World} {v : Value} {l : List α} (h : SlV m enc z w v l) : Value.oneCell' v = true ∧ v.cells = #[v] := by
  obtain ⟨b, off, c, arr, E, fz, -, -, ⟨rfl, -⟩ | ⟨rfl, -⟩⟩ := h
  · exact ⟨rfl, rfl⟩
  · exact ⟨rfl, rfl⟩
/-- What the document's Trim hands back. -/
def RefTrimS (v0 : Value) (t l : List RefL) (keep : Int) (v : Value) (D : Heap) : Prop :=
  ∃ vt vl ls, valR t l (trimK l.length keep) = some ls ∧ v = .agg #[vt, vl] ∧ GrI D 42 33 vt ls.length (ls.map refC).flatten ∧ sliceV (.sl (true, 33)) v0 (some (some ((trimK l.length keep : Nat) : Int))) none = some vl
theorem refTrim_spec (vt vl : Value) (t l : List RefL) (keep : Int) (w : World) (ht : RefSl w vt t) (hl : RefSl w vl l) (htl : t.length < 1000) (hll : l.length < 1000) (hnt : ShortN t) (hnl : ShortN l) (hr : rightB t l = true) :
    Rets Tryd.prog 33 #[.agg #[vt, vl], vi keep] w (XS w [] (RefTrimS vl t l keep)) := by
  have hk := trimK_le l.length keep
  obtain ⟨m, ls, hm, hv, hrel, hls, hl100⟩ := of_trim hr hk
  refine Rets.enterX Tryd.func33 rfl (rs := [.cell 4 25]) Tryd.results33 Tryd.ntmps33 (fun p hp => by cases hp) (by simp [keys]) ?_
  simp only [List.size_toArray, List.length_cons, List.length_nil, Nat.reduceAdd, Nat.reduceSub, List.replicate_succ, List.replicate_zero, List.cons_append, List.nil_append]
  ((try with_reducible refine Cw.go [] ?_); (try simp (disch := (first | assumption | omega | (simp only [lenS, lenT, UInt64.reduceToNat]; try omega))) only [↓Sx.S0, Sx.S1, Tryd.fx, uWZ6_1, Nat.reduceAdd, Nat.reducePow, Int.reducePow, Nat.reduceBEq, ↓reduceIte, UInt8.reduceToNat, UInt16.reduceToNat, UInt32.reduceToNat, UInt64.reduceToNat, Int.reduceToNat]))
  refine Ow.box rfl rfl fun bx hbx hwx => ?_
  simp only [ev_tmp, getF_0, getF_s, cells_agg, List.nil_append, List.cons_append]
  refine Ow.go rfl ?_
  simp (disch := (first | assumption | omega | (simp only [lenS, lenT, UInt64.reduceToNat]; try omega))) only [↓Sx.S0, Sx.S1, Tryd.fx, uWZ6_1, Nat.reduceAdd, Nat.reducePow, Int.reducePow, Nat.reduceBEq, ↓reduceIte, UInt8.reduceToNat, UInt16.reduceToNat, UInt32.reduceToNat, UInt64.reduceToNat, Int.reduceToNat]
  refine Ow.alloc rfl rfl zrBk fun br hbr hwr => ?_
  simp only [cells_agg, List.nil_append, List.cons_append]
  obtain ⟨hxr, -⟩ := hbr
  refine Ow.go rfl ?_
  simp (disch := (first | assumption | omega | (simp only [lenS, lenT, UInt64.reduceToNat]; try omega))) only [↓Sx.S0, Sx.S1, Tryd.fx, uWZ6_1, Nat.reduceAdd, Nat.reducePow, Int.reducePow, Nat.reduceBEq, ↓reduceIte, UInt8.reduceToNat, UInt16.reduceToNat, UInt32.reduceToNat, UInt64.reduceToNat, Int.reduceToNat]
  ((try with_reducible refine Cw.go [] ?_); (try simp (disch := (first | assumption | omega | (simp only [lenS, lenT, UInt64.reduceToNat]; try omega))) only [↓Sx.S0, Sx.S1, Tryd.fx, uWZ6_1, Nat.reduceAdd, Nat.reducePow, Int.reducePow, Nat.reduceBEq, ↓reduceIte, UInt8.reduceToNat, UInt16.reduceToNat, UInt32.reduceToNat, UInt64.reduceToNat, Int.reduceToNat, hl.len]))
  obtain ⟨vd, hvd, hld, -⟩ := SlV.dropE hl hk true
  by_cases h1 : keep < (l.length : Int)
  · have d1 : decide (keep < (l.length : Int)) = true := decide_eq_true h1
    by_cases h2 : keep < 0
    · have d2 : decide (keep < 0) = true := decide_eq_true h2
      have e : ((l.length : Nat) : Int) = (trimK l.length keep : Nat) := by unfold trimK; omega
      have hw0 : binV .sub (vi (l.length : Int)) (vi keep) = some (vi (IntKind.i64.wrap ((l.length : Int) - keep))) := rfl
      ((try with_reducible refine Cw.go [] ?_); (try simp (disch := (first | assumption | omega | (simp only [lenS, lenT, UInt64.reduceToNat]; try omega))) only [↓Sx.S0, Sx.S1, Tryd.fx, uWZ6_1, Nat.reduceAdd, Nat.reducePow, Int.reducePow, Nat.reduceBEq, ↓reduceIte, UInt8.reduceToNat, UInt16.reduceToNat, UInt32.reduceToNat, UInt64.reduceToNat, Int.reduceToNat, hl.len, d1, d2, hw0]))
      ((try with_reducible refine Cw.go [] ?_); (try simp (disch := (first | assumption | omega | (simp only [lenS, lenT, UInt64.reduceToNat]; try omega))) only [↓Sx.S0, Sx.S1, Tryd.fx, uWZ6_1, Nat.reduceAdd, Nat.reducePow, Int.reducePow, Nat.reduceBEq, ↓reduceIte, UInt8.reduceToNat, UInt16.reduceToNat, UInt32.reduceToNat, UInt64.reduceToNat, Int.reduceToNat, load_bk]))
      rw [e]
      generalize hkk : trimK l.length keep = k at *
      refine Ow.callC rfl rfl Tryd.call74 (fun w' hw' => Values_spec vt vl t l k w' (ht.oldN hw' ⟨hwx, hwr, trivial⟩) (hl.oldN hw' ⟨hwx, hwr, trivial⟩) (by omega) (by omega) hk hnt hnl) (fun B1 v1 D1 hA1 hB1 hN1 hS1 => ?_)
      unfold ValsS at hS1
      rw [hv] at hS1
      obtain ⟨x, rfl, hS1⟩ := hS1
      have hn1 : New (w.heap.size) D1 := hN1.mono (by omega)
      have hc1 := gri_cell hS1
      have hc2 := SlV.cellW hld
      have hst := store_bk (.slice none 0 0) (.slice none 0 0) x vd 25 hc1.1 hc2.1
      simp (disch := (first | assumption | omega | (simp only [lenS, lenT, UInt64.reduceToNat]; try omega))) only [setB_same, setB_other, List.cons_append, List.nil_append]
      refine Ow.go rfl ?_
      simp (disch := (first | assumption | omega | (simp only [lenS, lenT, UInt64.reduceToNat]; try omega))) only [↓Sx.S0, Sx.S1, Tryd.fx, uWZ6_1, Nat.reduceAdd, Nat.reducePow, Int.reducePow, Nat.reduceBEq, ↓reduceIte, UInt8.reduceToNat, UInt16.reduceToNat, UInt32.reduceToNat, UInt64.reduceToNat, Int.reduceToNat]
      ((try with_reducible refine Cw.go [] ?_); (try simp (disch := (first | assumption | omega | (simp only [lenS, lenT, UInt64.reduceToNat]; try omega))) only [↓Sx.S0, Sx.S1, Tryd.fx, uWZ6_1, Nat.reduceAdd, Nat.reducePow, Int.reducePow, Nat.reduceBEq, ↓reduceIte, UInt8.reduceToNat, UInt16.reduceToNat, UInt32.reduceToNat, UInt64.reduceToNat, Int.reduceToNat, Tryd.ix23, hvd]))
      refine Ow.build (.agg #[x, vd]) rfl (build_bk x vd hc1.2 hc2.2) ?_
      refine Ow.go rfl ?_
      simp (disch := (first | assumption | omega | (simp only [lenS, lenT, UInt64.reduceToNat]; try omega))) only [↓Sx.S0, Sx.S1, Tryd.fx, uWZ6_1, Nat.reduceAdd, Nat.reducePow, Int.reducePow, Nat.reduceBEq, ↓reduceIte, UInt8.reduceToNat, UInt16.reduceToNat, UInt32.reduceToNat, UInt64.reduceToNat, Int.reduceToNat, hst]
      ((try with_reducible refine Cw.go [] ?_); (try simp (disch := (first | assumption | omega | (simp only [lenS, lenT, UInt64.reduceToNat]; try omega))) only [↓Sx.S0, Sx.S1, Tryd.fx, uWZ6_1, Nat.reduceAdd, Nat.reducePow, Int.reducePow, Nat.reduceBEq, ↓reduceIte, UInt8.reduceToNat, UInt16.reduceToNat, UInt32.reduceToNat, UInt64.reduceToNat, Int.reduceToNat]))
      refine ⟨_, (by simp (disch := (first | assumption | omega | (simp only [lenS, lenT, UInt64.reduceToNat]; try omega))) only [↓Sx.S0, Sx.S1, Tryd.fx, uWZ6_1, Nat.reduceAdd, Nat.reducePow, Int.reducePow, Nat.reduceBEq, ↓reduceIte, UInt8.reduceToNat, UInt16.reduceToNat, UInt32.reduceToNat, UInt64.reduceToNat, Int.reduceToNat]; rfl), ?_⟩
      refine ⟨Ext.of_new ⟨hwx, hwr, hn1⟩, x, vd, ls, by rw [hkk]; exact hv, rfl, hS1.mono fun q hq => ?_, by rw [hkk]; exact hvd⟩
      simp [hq]
    · have d2 : decide (keep < 0) = false := decide_eq_false h2
      have e : ((l.length : Nat) : Int) - keep = (trimK l.length keep : Nat) := by unfold trimK; omega
      ((try with_reducible refine Cw.go [] ?_); (try simp (disch := (first | assumption | omega | (simp only [lenS, lenT, UInt64.reduceToNat]; try omega))) only [↓Sx.S0, Sx.S1, Tryd.fx, uWZ6_1, Nat.reduceAdd, Nat.reducePow, Int.reducePow, Nat.reduceBEq, ↓reduceIte, UInt8.reduceToNat, UInt16.reduceToNat, UInt32.reduceToNat, UInt64.reduceToNat, Int.reduceToNat, hl.len, d1, d2]))
      ((try with_reducible refine Cw.go [] ?_); (try simp (disch := (first | assumption | omega | (simp only [lenS, lenT, UInt64.reduceToNat]; try omega))) only [↓Sx.S0, Sx.S1, Tryd.fx, uWZ6_1, Nat.reduceAdd, Nat.reducePow, Int.reducePow, Nat.reduceBEq, ↓reduceIte, UInt8.reduceToNat, UInt16.reduceToNat, UInt32.reduceToNat, UInt64.reduceToNat, Int.reduceToNat, load_bk]))
      rw [e]
      generalize hkk : trimK l.length keep = k at *
      refine Ow.callC rfl rfl Tryd.call74 (fun w' hw' => Values_spec vt vl t l k w' (ht.oldN hw' ⟨hwx, hwr, trivial⟩) (hl.oldN hw' ⟨hwx, hwr, trivial⟩) (by omega) (by omega) hk hnt hnl) (fun B1 v1 D1 hA1 hB1 hN1 hS1 => ?_)
      unfold ValsS at hS1
      rw [hv] at hS1
      obtain ⟨x, rfl, hS1⟩ := hS1
      have hn1 : New (w.heap.size) D1 := hN1.mono (by omega)
      have hc1 := gri_cell hS1
      have hc2 := SlV.cellW hld
      have hst := store_bk (.slice none 0 0) (.slice none 0 0) x vd 25 hc1.1 hc2.1
      simp (disch := (first | assumption | omega | (simp only [lenS, lenT, UInt64.reduceToNat]; try omega))) only [setB_same, setB_other, List.cons_append, List.nil_append]
      refine Ow.go rfl ?_
      simp (disch := (first | assumption | omega | (simp only [lenS, lenT, UInt64.reduceToNat]; try omega))) only [↓Sx.S0, Sx.S1, Tryd.fx, uWZ6_1, Nat.reduceAdd, Nat.reducePow, Int.reducePow, Nat.reduceBEq, ↓reduceIte, UInt8.reduceToNat, UInt16.reduceToNat, UInt32.reduceToNat, UInt64.reduceToNat, Int.reduceToNat]
      ((try with_reducible refine Cw.go [] ?_); (try simp (disch := (first | assumption | omega | (simp only [lenS, lenT, UInt64.reduceToNat]; try omega))) only [↓Sx.S0, Sx.S1, Tryd.fx, uWZ6_1, Nat.reduceAdd, Nat.reducePow, Int.reducePow, Nat.reduceBEq, ↓reduceIte, UInt8.reduceToNat, UInt16.reduceToNat, UInt32.reduceToNat, UInt64.reduceToNat, Int.reduceToNat, Tryd.ix23, hvd]))
      refine Ow.build (.agg #[x, vd]) rfl (build_bk x vd hc1.2 hc2.2) ?_
      refine Ow.go rfl ?_
      simp (disch := (first | assumption | omega | (simp only [lenS, lenT, UInt64.reduceToNat]; try omega))) only [↓Sx.S0, Sx.S1, Tryd.fx, uWZ6_1, Nat.reduceAdd, Nat.reducePow, Int.reducePow, Nat.reduceBEq, ↓reduceIte, UInt8.reduceToNat, UInt16.reduceToNat, UInt32.reduceToNat, UInt64.reduceToNat, Int.reduceToNat, hst]
      ((try with_reducible refine Cw.go [] ?_); (try simp (disch := (first | assumption | omega | (simp only [lenS, lenT, UInt64.reduceToNat]; try omega))) only [↓Sx.S0, Sx.S1, Tryd.fx, uWZ6_1, Nat.reduceAdd, Nat.reducePow, Int.reducePow, Nat.reduceBEq, ↓reduceIte, UInt8.reduceToNat, UInt16.reduceToNat, UInt32.reduceToNat, UInt64.reduceToNat, Int.reduceToNat]))
      refine ⟨_, (by simp (disch := (first | assumption | omega | (simp only [lenS, lenT, UInt64.reduceToNat]; try omega))) only [↓Sx.S0, Sx.S1, Tryd.fx, uWZ6_1, Nat.reduceAdd, Nat.reducePow, Int.reducePow, Nat.reduceBEq, ↓reduceIte, UInt8.reduceToNat, UInt16.reduceToNat, UInt32.reduceToNat, UInt64.reduceToNat, Int.reduceToNat]; rfl), ?_⟩
      refine ⟨Ext.of_new ⟨hwx, hwr, hn1⟩, x, vd, ls, by rw [hkk]; exact hv, rfl, hS1.mono fun q hq => ?_, by rw [hkk]; exact hvd⟩
      simp [hq]
  · have d1 : decide (keep < (l.length : Int)) = false := decide_eq_false h1
    have e : (0 : Int) = (trimK l.length keep : Nat) := by unfold trimK; omega
    ((try with_reducible refine Cw.go [] ?_); (try simp (disch := (first | assumption | omega | (simp only [lenS, lenT, UInt64.reduceToNat]; try omega))) only [↓Sx.S0, Sx.S1, Tryd.fx, uWZ6_1, Nat.reduceAdd, Nat.reducePow, Int.reducePow, Nat.reduceBEq, ↓reduceIte, UInt8.reduceToNat, UInt16.reduceToNat, UInt32.reduceToNat, UInt64.reduceToNat, Int.reduceToNat, hl.len, d1]))
    ((try with_reducible refine Cw.go [] ?_); (try simp (disch := (first | assumption | omega | (simp only [lenS, lenT, UInt64.reduceToNat]; try omega))) only [↓Sx.S0, Sx.S1, Tryd.fx, uWZ6_1, Nat.reduceAdd, Nat.reducePow, Int.reducePow, Nat.reduceBEq, ↓reduceIte, UInt8.reduceToNat, UInt16.reduceToNat, UInt32.reduceToNat, UInt64.reduceToNat, Int.reduceToNat, load_bk]))
    rw [show vi 0 = vi (trimK l.length keep : Nat) by rw [← e]]
    generalize hkk : trimK l.length keep = k at *
    refine Ow.callC rfl rfl Tryd.call74 (fun w' hw' => Values_spec vt vl t l k w' (ht.oldN hw' ⟨hwx, hwr, trivial⟩) (hl.oldN hw' ⟨hwx, hwr, trivial⟩) (by omega) (by omega) hk hnt hnl) (fun B1 v1 D1 hA1 hB1 hN1 hS1 => ?_)
    unfold ValsS at hS1
    rw [hv] at hS1
    obtain ⟨x, rfl, hS1⟩ := hS1
    have hn1 : New (w.heap.size) D1 := hN1.mono (by omega)
    have hc1 := gri_cell hS1
    have hc2 := SlV.cellW hld
    have hst := store_bk (.slice none 0 0) (.slice none 0 0) x vd 25 hc1.1 hc2.1
    simp (disch := (first | assumption | omega | (simp only [lenS, lenT, UInt64.reduceToNat]; try omega))) only [setB_same, setB_other, List.cons_append, List.nil_append]
    refine Ow.go rfl ?_
    simp (disch := (first | assumption | omega | (simp only [lenS, lenT, UInt64.reduceToNat]; try omega))) only [↓Sx.S0, Sx.S1, Tryd.fx, uWZ6_1, Nat.reduceAdd, Nat.reducePow, Int.reducePow, Nat.reduceBEq, ↓reduceIte, UInt8.reduceToNat, UInt16.reduceToNat, UInt32.reduceToNat, UInt64.reduceToNat, Int.reduceToNat]
    ((try with_reducible refine Cw.go [] ?_); (try simp (disch := (first | assumption | omega | (simp only [lenS, lenT, UInt64.reduceToNat]; try omega))) only [↓Sx.S0, Sx.S1, Tryd.fx, uWZ6_1, Nat.reduceAdd, Nat.reducePow, Int.reducePow, Nat.reduceBEq, ↓reduceIte, UInt8.reduceToNat, UInt16.reduceToNat, UInt32.reduceToNat, UInt64.reduceToNat, Int.reduceToNat, Tryd.ix23, hvd]))
    refine Ow.build (.agg #[x, vd]) rfl (build_bk x vd hc1.2 hc2.2) ?_
    refine Ow.go rfl ?_
    simp (disch := (first | assumption | omega | (simp only [lenS, lenT, UInt64.reduceToNat]; try omega))) only [↓Sx.S0, Sx.S1, Tryd.fx, uWZ6_1, Nat.reduceAdd, Nat.reducePow, Int.reducePow, Nat.reduceBEq, ↓reduceIte, UInt8.reduceToNat, UInt16.reduceToNat, UInt32.reduceToNat, UInt64.reduceToNat, Int.reduceToNat, hst]
    ((try with_reducible refine Cw.go [] ?_); (try simp (disch := (first | assumption | omega | (simp only [lenS, lenT, UInt64.reduceToNat]; try omega))) only [↓Sx.S0, Sx.S1, Tryd.fx, uWZ6_1, Nat.reduceAdd, Nat.reducePow, Int.reducePow, Nat.reduceBEq, ↓reduceIte, UInt8.reduceToNat, UInt16.reduceToNat, UInt32.reduceToNat, UInt64.reduceToNat, Int.reduceToNat]))
    refine ⟨_, (by simp (disch := (first | assumption | omega | (simp only [lenS, lenT, UInt64.reduceToNat]; try omega))) only [↓Sx.S0, Sx.S1, Tryd.fx, uWZ6_1, Nat.reduceAdd, Nat.reducePow, Int.reducePow, Nat.reduceBEq, ↓reduceIte, UInt8.reduceToNat, UInt16.reduceToNat, UInt32.reduceToNat, UInt64.reduceToNat, Int.reduceToNat]; rfl), ?_⟩
    refine ⟨Ext.of_new ⟨hwx, hwr, hn1⟩, x, vd, ls, by rw [hkk]; exact hv, rfl, hS1.mono fun q hq => ?_, by rw [hkk]; exact hvd⟩
    simp [hq]
end Go.Proofs
end
section
open Go Go.Proofs Go.Sx Go.RefP
namespace Go.Proofs
set_option maxRecDepth 10000
set_option maxHeartbeats 4000000
set_option linter.unusedSimpArgs false
/-- Is a book more than is looked at? -/
def LongN (l : List RefL) : Prop := ∃ g, g < l.length ∧ 100 < (l.getD g ref0).name.length
def GreatB (t l : List RefL) : Prop := 30 < t.length ∨ 110 < l.length ∨ LongN t ∨ LongN l
open Classical in
/-- The answer. -/
noncomputable def greatV (t l : List RefL) : Bool := decide (GreatB t l)
theorem great_yes {t l : List RefL} (h : GreatB t l) : greatV t l = true := by unfold greatV; simpa using h
theorem great_no {t l : List RefL} (h : ¬ GreatB t l) : greatV t l = false := by unfold greatV; simpa using h
set_option linter.defProp false
def uXD_1 := And.intro (And.intro (And.intro (@rdIn_v8) (@rdIn_v16)) (And.intro (@rdIn_v32) (@rdIn_v64))) (And.intro (And.intro (@rdIn_vi) (@load_bk0)) (And.intro (@load_bk1) (@load_bk)))
theorem Great_spec (vt vl : Value) (t l : List RefL) (w : World) (ht : RefSl w vt t) (hl : RefSl w vl l) :
    Rets Tryd.prog 12 #[.agg #[vt, vl]] w (fun v D => v = .bool (greatV t l) ∧ D = []) := by
  obtain ⟨b1, o1, a1, E1, f1, h1⟩ := ht.row
  obtain ⟨b2, o2, a2, E2, f2, h2⟩ := hl.row
  refine Rets.enterV Tryd.func12 rfl (rs := [.tmp 2]) Tryd.results12 Tryd.ntmps12 ?_
  simp only [List.size_toArray, List.length_cons, List.length_nil, Nat.reduceAdd, Nat.reduceSub, List.replicate_succ, List.replicate_zero, List.cons_append, List.nil_append]
  ((try with_reducible refine Cw.go [] ?_); (try simp (disch := (first | assumption | omega | (simp only [lenS, lenT, UInt64.reduceToNat]; try omega))) only [↓Sx.S0, Sx.S1, Tryd.fx, uXD_1, Nat.reduceAdd, Nat.reducePow, Int.reducePow, Nat.reduceBEq, ↓reduceIte, UInt8.reduceToNat, UInt16.reduceToNat, UInt32.reduceToNat, UInt64.reduceToNat, Int.reduceToNat]))
  refine Ow.box rfl rfl fun bx hbx hwx => ?_
  simp only [ev_tmp, getF_0, getF_s, cells_agg, List.nil_append, List.cons_append]
  refine Ow.go rfl ?_
  simp (disch := (first | assumption | omega | (simp only [lenS, lenT, UInt64.reduceToNat]; try omega))) only [↓Sx.S0, Sx.S1, Tryd.fx, uXD_1, Nat.reduceAdd, Nat.reducePow, Int.reducePow, Nat.reduceBEq, ↓reduceIte, UInt8.reduceToNat, UInt16.reduceToNat, UInt32.reduceToNat, UInt64.reduceToNat, Int.reduceToNat]
  by_cases c1 : 30 < t.length
  · have hd : decide ((30 : Int) < (t.length : Int)) = true := by simp; omega
    ((try with_reducible refine Cw.go [] ?_); (try simp (disch := (first | assumption | omega | (simp only [lenS, lenT, UInt64.reduceToNat]; try omega))) only [↓Sx.S0, Sx.S1, Tryd.fx, uXD_1, Nat.reduceAdd, Nat.reducePow, Int.reducePow, Nat.reduceBEq, ↓reduceIte, UInt8.reduceToNat, UInt16.reduceToNat, UInt32.reduceToNat, UInt64.reduceToNat, Int.reduceToNat, h1.len, h2.len, hd]))
    refine ⟨_, (by simp (disch := (first | assumption | omega | (simp only [lenS, lenT, UInt64.reduceToNat]; try omega))) only [↓Sx.S0, Sx.S1, Tryd.fx, uXD_1, Nat.reduceAdd, Nat.reducePow, Int.reducePow, Nat.reduceBEq, ↓reduceIte, UInt8.reduceToNat, UInt16.reduceToNat, UInt32.reduceToNat, UInt64.reduceToNat, Int.reduceToNat]; rfl), ⟨hwx, trivial⟩, ?_⟩
    rw [great_yes (.inl c1)]; rfl
  by_cases c2 : 110 < l.length
  · have hd : decide ((30 : Int) < (t.length : Int)) = false := by simp; omega
    have hd2 : decide ((110 : Int) < (l.length : Int)) = true := by simp; omega
    ((try with_reducible refine Cw.go [] ?_); (try simp (disch := (first | assumption | omega | (simp only [lenS, lenT, UInt64.reduceToNat]; try omega))) only [↓Sx.S0, Sx.S1, Tryd.fx, uXD_1, Nat.reduceAdd, Nat.reducePow, Int.reducePow, Nat.reduceBEq, ↓reduceIte, UInt8.reduceToNat, UInt16.reduceToNat, UInt32.reduceToNat, UInt64.reduceToNat, Int.reduceToNat, h1.len, h2.len, hd, hd2]))
    refine ⟨_, (by simp (disch := (first | assumption | omega | (simp only [lenS, lenT, UInt64.reduceToNat]; try omega))) only [↓Sx.S0, Sx.S1, Tryd.fx, uXD_1, Nat.reduceAdd, Nat.reducePow, Int.reducePow, Nat.reduceBEq, ↓reduceIte, UInt8.reduceToNat, UInt16.reduceToNat, UInt32.reduceToNat, UInt64.reduceToNat, Int.reduceToNat]; rfl), ⟨hwx, trivial⟩, ?_⟩
    rw [great_yes (.inr (.inl c2))]; rfl
  have hd : decide ((30 : Int) < (t.length : Int)) = false := by simp; omega
  have hd2 : decide ((110 : Int) < (l.length : Int)) = false := by simp; omega
  ((try with_reducible refine Cw.go [] ?_); (try simp (disch := (first | assumption | omega | (simp only [lenS, lenT, UInt64.reduceToNat]; try omega))) only [↓Sx.S0, Sx.S1, Tryd.fx, uXD_1, Nat.reduceAdd, Nat.reducePow, Int.reducePow, Nat.reduceBEq, ↓reduceIte, UInt8.reduceToNat, UInt16.reduceToNat, UInt32.reduceToNat, UInt64.reduceToNat, Int.reduceToNat, h1.len, h2.len, hd, hd2]))
  refine Cw.loopG (G := Nat) [15, 16, 17, 18, 19, 22, 23, 24, 25, 26, 27, 28, 29, 2, 20, 21, 3] (fun g => [(3, vi g)]) (fun g => [(bx, .cells #[vt, vl] 25 (0, 0))]) (fun g => g ≤ t.length ∧ ∀ i, i < g → (t.getD i ref0).name.length ≤ 100) (fun g => t.length - g) 0 rfl rfl ?_ ?_
  · exact ⟨by omega, fun i hi => by omega⟩
  intro g j hg
  simp only [overFrom, pin, setF_0, setF_s, List.contains_cons, List.contains_nil, Nat.reduceBEq, Bool.or_false, Bool.false_or, Bool.or_true, Bool.true_or, Nat.reduceAdd, ↓reduceIte, Bool.false_eq_true]
  obtain ⟨hgL, hgood⟩ := hg
  by_cases hlt : g < t.length
  · have hb1 := h1.has (by omega)
    have hne : b1 ≠ bx := Nat.ne_of_lt (Nat.lt_of_lt_of_le (h1.lt (by omega)) hwx)
    have ld1 : ∀ n, loadV (some (false, n)) (some (.cells a1 E1 f1)) (o1 + g * 33) = some (vs (t.getD g ref0).name) := fun n => (h1.cell (j := 0) (n := n) hlt (by decide)).trans rfl
    by_cases hq : 100 < (t.getD g ref0).name.length
    · ((try with_reducible refine Cw.go [] ?_); (try simp (disch := (first | assumption | omega | (simp only [lenS, lenT, UInt64.reduceToNat]; try omega))) only [↓Sx.S0, Sx.S1, Tryd.fx, uXD_1, Nat.reduceAdd, Nat.reducePow, Int.reducePow, Nat.reduceBEq, ↓reduceIte, UInt8.reduceToNat, UInt16.reduceToNat, UInt32.reduceToNat, UInt64.reduceToNat, Int.reduceToNat, h1.len, h1.idx, hb1, ld1]))
      refine ⟨_, (by simp (disch := (first | assumption | omega | (simp only [lenS, lenT, UInt64.reduceToNat]; try omega))) only [↓Sx.S0, Sx.S1, Tryd.fx, uXD_1, Nat.reduceAdd, Nat.reducePow, Int.reducePow, Nat.reduceBEq, ↓reduceIte, UInt8.reduceToNat, UInt16.reduceToNat, UInt32.reduceToNat, UInt64.reduceToNat, Int.reduceToNat]; rfl), ⟨hwx, trivial⟩, ?_⟩
      rw [great_yes (.inr (.inr (.inl ⟨g, hlt, hq⟩)))]; rfl
    · ((try with_reducible refine Cw.go [] ?_); (try simp (disch := (first | assumption | omega | (simp only [lenS, lenT, UInt64.reduceToNat]; try omega))) only [↓Sx.S0, Sx.S1, Tryd.fx, uXD_1, Nat.reduceAdd, Nat.reducePow, Int.reducePow, Nat.reduceBEq, ↓reduceIte, UInt8.reduceToNat, UInt16.reduceToNat, UInt32.reduceToNat, UInt64.reduceToNat, Int.reduceToNat, h1.len, h1.idx, hb1, ld1]))
      refine Again.mk (g + 1) (by omega) ⟨by omega, fun i hi => ?_⟩ rfl rfl
      by_cases hig : i = g
      · subst hig; omega
      · exact hgood i (by omega)
  · obtain rfl : g = t.length := by omega
    ((try with_reducible refine Cw.go [] ?_); (try simp (disch := (first | assumption | omega | (simp only [lenS, lenT, UInt64.reduceToNat]; try omega))) only [↓Sx.S0, Sx.S1, Tryd.fx, uXD_1, Nat.reduceAdd, Nat.reducePow, Int.reducePow, Nat.reduceBEq, ↓reduceIte, UInt8.reduceToNat, UInt16.reduceToNat, UInt32.reduceToNat, UInt64.reduceToNat, Int.reduceToNat, h1.len]))
    refine Cw.loopG (G := Nat) [30, 31, 32, 33, 34, 37, 38, 39, 40, 41, 42, 43, 44, 2, 35, 36, 4] (fun g => [(4, vi g)]) (fun g => [(bx, .cells #[vt, vl] 25 (0, 0))]) (fun g => g ≤ l.length ∧ ∀ i, i < g → (l.getD i ref0).name.length ≤ 100) (fun g => l.length - g) 0 rfl rfl ?_ ?_
    · exact ⟨by omega, fun i hi => by omega⟩
    intro g j hg
    simp only [overFrom, pin, setF_0, setF_s, List.contains_cons, List.contains_nil, Nat.reduceBEq, Bool.or_false, Bool.false_or, Bool.or_true, Bool.true_or, Nat.reduceAdd, ↓reduceIte, Bool.false_eq_true]
    obtain ⟨hgL2, hgood2⟩ := hg
    by_cases hlt2 : g < l.length
    · have hb2 := h2.has (by omega)
      have hne : b2 ≠ bx := Nat.ne_of_lt (Nat.lt_of_lt_of_le (h2.lt (by omega)) hwx)
      have ld2 : ∀ n, loadV (some (false, n)) (some (.cells a2 E2 f2)) (o2 + g * 33) = some (vs (l.getD g ref0).name) := fun n => (h2.cell (j := 0) (n := n) hlt2 (by decide)).trans rfl
      by_cases hq : 100 < (l.getD g ref0).name.length
      · ((try with_reducible refine Cw.go [] ?_); (try simp (disch := (first | assumption | omega | (simp only [lenS, lenT, UInt64.reduceToNat]; try omega))) only [↓Sx.S0, Sx.S1, Tryd.fx, uXD_1, Nat.reduceAdd, Nat.reducePow, Int.reducePow, Nat.reduceBEq, ↓reduceIte, UInt8.reduceToNat, UInt16.reduceToNat, UInt32.reduceToNat, UInt64.reduceToNat, Int.reduceToNat, h2.len, h2.idx, hb2, ld2]))
        refine ⟨_, (by simp (disch := (first | assumption | omega | (simp only [lenS, lenT, UInt64.reduceToNat]; try omega))) only [↓Sx.S0, Sx.S1, Tryd.fx, uXD_1, Nat.reduceAdd, Nat.reducePow, Int.reducePow, Nat.reduceBEq, ↓reduceIte, UInt8.reduceToNat, UInt16.reduceToNat, UInt32.reduceToNat, UInt64.reduceToNat, Int.reduceToNat]; rfl), ⟨hwx, trivial⟩, ?_⟩
        rw [great_yes (.inr (.inr (.inr ⟨g, hlt2, hq⟩)))]; rfl
      · ((try with_reducible refine Cw.go [] ?_); (try simp (disch := (first | assumption | omega | (simp only [lenS, lenT, UInt64.reduceToNat]; try omega))) only [↓Sx.S0, Sx.S1, Tryd.fx, uXD_1, Nat.reduceAdd, Nat.reducePow, Int.reducePow, Nat.reduceBEq, ↓reduceIte, UInt8.reduceToNat, UInt16.reduceToNat, UInt32.reduceToNat, UInt64.reduceToNat, Int.reduceToNat, h2.len, h2.idx, hb2, ld2]))
        refine Again.mk (g + 1) (by omega) ⟨by omega, fun i hi => ?_⟩ rfl rfl
        by_cases hig : i = g
        · subst hig; omega
        · exact hgood2 i (by omega)
    · obtain rfl : g = l.length := by omega
      ((try with_reducible refine Cw.go [] ?_); (try simp (disch := (first | assumption | omega | (simp only [lenS, lenT, UInt64.reduceToNat]; try omega))) only [↓Sx.S0, Sx.S1, Tryd.fx, uXD_1, Nat.reduceAdd, Nat.reducePow, Int.reducePow, Nat.reduceBEq, ↓reduceIte, UInt8.reduceToNat, UInt16.reduceToNat, UInt32.reduceToNat, UInt64.reduceToNat, Int.reduceToNat, h2.len]))
      have hno : ¬ GreatB t l := by
        rintro (h | h | ⟨i, hi, h⟩ | ⟨i, hi, h⟩)
        · omega
        · omega
        · have := hgood i hi; omega
        · have := hgood2 i hi; omega
      refine ⟨_, (by simp (disch := (first | assumption | omega | (simp only [lenS, lenT, UInt64.reduceToNat]; try omega))) only [↓Sx.S0, Sx.S1, Tryd.fx, uXD_1, Nat.reduceAdd, Nat.reducePow, Int.reducePow, Nat.reduceBEq, ↓reduceIte, UInt8.reduceToNat, UInt16.reduceToNat, UInt32.reduceToNat, UInt64.reduceToNat, Int.reduceToNat]; rfl), ⟨hwx, trivial⟩, ?_⟩
      rw [great_no hno]; rfl
end Go.Proofs
end
section
open Go Go.Proofs Go.Sx Go.RefP
namespace Go.Sx
theorem Ow.appendB2 {P : Program} {w0 : World} {f : Fr} {L : Heap} {N : Fr → Heap → Prop} {ops : Array Oper} {rest : List Oper} {md : Md}
    {d : Option Tmp} {ty : TypeId} {ps : String} {af : Array Edge} {g : Option (Nat × Bool)} {ts tx e : TypeId} {m : Bool × Nat} {z : Value} {s x : Operand} {n k : Nat} {cs new : List Value} {dx : TypeDesc} {md' : Md} {X Y : Heap} (sv : Value) (hL : L = X ++ Y) (hsv : ev f s = sv) (he : md.turn = some md')
    (hs : skipped ops f ⟨d, .call ⟨.builtin .append, #[s, x], #[ts, tx]⟩, ty, ps, af, g⟩ = false)
    (hu : P.underlying ts = some (.slice e)) (hm : aggT P e = some m) (hi : bytesOk P e = true) (hz : zeroV P e = some z) (hzs : z.cells.size = m.2) (hux : P.underlying tx = some dx) (hnx : ∀ k, dx ≠ .int k)
    (hB : Buf X e m.2 sv n cs) (hX : ∀ w, Hp w0 L w → AppX P w m.2 (ev f x) k new) (hbig : 2 * (n + k) + 768 ≤ 2 ^ 38)
    (hn : ∀ B v' D, Above L B → w0.heap.size ≤ B → Buf D e m.2 v' (n + k) (cs ++ new) → (∀ c, c ∈ keys X → c ∈ keys D) → (∀ c, c ∈ keys D → c ∈ keys X ∨ B ≤ c) → (∀ c o, slB sv ≠ some c → look X c = some o → look D c = some o) → Ow P w0 ops md' rest (putF f d v') (D ++ Y) N) :
    Ow P w0 ops md (⟨d, .call ⟨.builtin .append, #[s, x], #[ts, tx]⟩, ty, ps, af, g⟩ :: rest) f L N := by
  subst hL
  refine Ow.step he rfl hs fun w hw => ?_
  have hp := hw.part
  have hA : Above (X ++ Y) w.heap.size := above_of fun b hb => hw.lt hb
  obtain ⟨v', w', D, hr, hD, hb, hg, -⟩ := run_append (w0 := w) (L := X) (ty := ty) (x := ev f x) hp hu hm hi hz hzs hux hnx hB (fun w2 hw2 => hX w2 (by
    refine hw.join hw2 (fun c hc => hc) (fun c hc => .inl hc))) hbig
  refine .inl ⟨v', w', D ++ Y, ?_, hw.join hD hg.keys (fun c hc => (hg.new c hc).imp id And.right), hn w.heap.size v' D hA hw.size hb hg.keys (fun c hc => (hg.new c hc).imp id And.right) hg.look⟩
  simp only [execOp, resolve, Sem.run_bind, Sem.run_pure, Result.andThen_ok, invoke, builtin, List.map_toArray, List.map_cons, List.map_nil, hsv]
  rw [hr]
  rfl
end Go.Sx
namespace Go.Proofs
set_option maxRecDepth 10000
set_option maxHeartbeats 4000000
set_option linter.unusedSimpArgs false
theorem great_parts {t l : List RefL} (h : greatV t l = false) : t.length ≤ 30 ∧ l.length ≤ 110 ∧ SmallN t ∧ SmallN l := by
  have hn : ¬ GreatB t l := fun hg => by rw [great_yes hg] at h; cases h
  refine ⟨?_, ?_, fun g hg => ?_, fun g hg => ?_⟩
  · exact Nat.le_of_not_lt fun h => hn (.inl h)
  · exact Nat.le_of_not_lt fun h => hn (.inr (.inl h))
  · have : ¬ 100 < (t.getD g ref0).name.length := fun h => hn (.inr (.inr (.inl ⟨g, hg, h⟩)))
    omega
  · have : ¬ 100 < (l.getD g ref0).name.length := fun h => hn (.inr (.inr (.inr ⟨g, hg, h⟩)))
    omega
theorem build_bkt (x : Value) (hx : x.cells = #[x]) : buildV (plcT Tryd.prog 25) (zeroV Tryd.prog 25) [(0, x)] = some (.agg #[x, .slice none 0 0]) := by
  have hp : plcT Tryd.prog 25 = some [(0, 1), (1, 1)] := id (by kernel_rfl)
  rw [hp, zrBk]
  simp [buildV, fillV, hx, putC]
theorem store_bkl (p q y : Value) (a : Bool) (E : TypeId) (hy : Value.oneCell' y = true) (hc : y.cells = #[y]) : storeV (some (a, 1)) (some (.cells #[p, q] E (0, 0))) 1 y = some (.cells #[p, y] E (0, 0)) := store_one a y #[p, q] E 1 (by simp) hc hy
/-- What Add tells. -/
def addR (t l : List RefL) (r : RefL) : (List RefL × List RefL) × List UInt8 × Int :=
  if rightB t l = true ∧ nameV r.name = true then (if rightB t (l ++ [r]) = true then ((t, l ++ [r]), recordV (entryB r), 0) else (([], []), [], 18)) else (([], []), [], 1)
/-- What Trim tells. -/
def trimR (t l : List RefL) (keep : Int) : (List RefL × List RefL) × Int :=
  if rightB t l = true then (((valR t l (trimK l.length keep)).getD [], l.drop (trimK l.length keep)), 0) else (([], []), 1)
theorem gri_nl {D : Heap} : GrI D 42 33 (.slice none 0 0) ([] : List RefL).length (([] : List RefL).map refC).flatten := (Gr.nl (L := [])).i fun q hq => by cases hq
theorem AddS.tells {n : Nat} {t l : List RefL} {r : RefL} {v : Value} {D : Heap} (h : AddS n t l r.name r.id v D) : ∃ x1 x2, v = .tuple #[.agg #[x1, x2], vs (addR t l r).2.1, vi (addR t l r).2.2] ∧ GrI D 42 33 x1 (addR t l r).1.1.length ((addR t l r).1.1.map refC).flatten ∧ GrI D 42 33 x2 (addR t l r).1.2.length ((addR t l r).1.2.map refC).flatten := by
  unfold AddS at h
  unfold addR
  by_cases h1 : rightB t l = true ∧ nameV r.name = true
  · rw [if_pos h1] at h ⊢
    by_cases h2 : rightB t (l ++ [r]) = true
    · rw [if_pos h2] at h ⊢
      obtain ⟨a, b, rfl, h3, h4⟩ := h
      exact ⟨a, b, rfl, h3, by simpa using h4⟩
    · rw [if_neg h2] at h ⊢
      exact ⟨_, _, h, gri_nl, gri_nl⟩
  · rw [if_neg h1] at h ⊢
    exact ⟨_, _, h, gri_nl, gri_nl⟩
theorem TrimS.tells {t l : List RefL} {keep : Int} {v : Value} {D : Heap} (h : TrimS t l keep v D) : ∃ x1 x2, v = .tuple #[.agg #[x1, x2], vi (trimR t l keep).2] ∧ GrI D 42 33 x1 (trimR t l keep).1.1.length ((trimR t l keep).1.1.map refC).flatten ∧ GrI D 42 33 x2 (trimR t l keep).1.2.length ((trimR t l keep).1.2.map refC).flatten := by
  unfold TrimS at h
  unfold trimR
  by_cases h1 : rightB t l = true
  · rw [if_pos h1] at h ⊢
    obtain ⟨a, b, ls, h2, rfl, h3, h4⟩ := h
    rw [h2]
    exact ⟨a, b, rfl, h3, h4⟩
  · rw [if_neg h1] at h ⊢
    exact ⟨_, _, h, gri_nl, gri_nl⟩
theorem addR_len {t l : List RefL} {r : RefL} (ht : t.length ≤ 30) (hl : l.length ≤ 110) : (addR t l r).1.1.length < 1000 ∧ (addR t l r).1.2.length < 1000 := by
  unfold addR
  split
  · split
    · exact ⟨by show t.length < 1000; omega, by show (l ++ [r]).length < 1000; simp; omega⟩
    · exact ⟨by simp, by simp⟩
  · exact ⟨by simp, by simp⟩
theorem trimR_len {t l : List RefL} {keep : Int} (hl : l.length ≤ 110) : (trimR t l keep).1.1.length < 1000 ∧ (trimR t l keep).1.2.length < 1000 := by
  unfold trimR
  split
  · rename_i hr
    obtain ⟨m, ls, -, hv, -, hls, -⟩ := of_trim hr (trimK_le l.length keep)
    rw [hv]
    exact ⟨by show ls.length < 1000; omega, by show (l.drop _).length < 1000; rw [List.length_drop]; omega⟩
  · exact ⟨by simp, by simp⟩
theorem Add0_spec (vt vl : Value) (t l : List RefL) (nm : List UInt8) (id : IdL) (w : World) (hG : GlobC w) (ht : RefSl w vt t) (hl : RefSl w vl l) (htl : t.length < 1000) (hll : l.length < 1000) (hnt : ShortN t) (hnl : ShortN l) (hnm : nm.length < 1000000) :
    Rets Tryd.prog 14 #[.agg #[vt, vl], vs nm, .agg (a8 id.l)] w (XS w [] (AddS 0 t l nm id)) := Add_spec vt vl t l nm id w hG ht hl htl hll hnt hnl hnm
set_option linter.defProp false
def uWZ7_1 := And.intro (And.intro (And.intro (And.intro (@rdIn_v8) (@rdIn_v16)) (And.intro (@rdIn_v32) (@rdIn_v64))) (And.intro (And.intro (@rdIn_vi) (@load_bk0)) (And.intro (@load_bk1) (@load_bk)))) (And.intro (And.intro (And.intro (@tup2_0) (@tup2_1)) (And.intro (@tup3_0) (@tup3_1))) (And.intro (And.intro (@tup3_2) (@store_bk0)) (And.intro (@eqb) (And.intro (@eqIdz) (@load_ref)))))
theorem RefsAdds_spec (vt vl : Value) (t l : List RefL) (nm : List UInt8) (id : IdL) (keep : Int) (w : World) (hG : GlobC w) (ht : RefSl w vt t) (hl : RefSl w vl l) :
    Rets Tryd.prog 6 #[.agg #[vt, vl], vs nm, .agg (a8 id.l), vi keep] w (fun v D => v = .bool true ∧ D = []) := by
  have hglt : (3 : Nat) < w.heap.size := by obtain ⟨e, f, h⟩ := hG; exact (Array.getElem?_eq_some_iff.1 h).1
  have hil := id.h
  have hli := load_idb id.l 40 hil
  refine Rets.enterV Tryd.func6 rfl (rs := [.tmp 8]) Tryd.results6 Tryd.ntmps6 ?_
  simp only [List.size_toArray, List.length_cons, List.length_nil, Nat.reduceAdd, Nat.reduceSub, List.replicate_succ, List.replicate_zero, List.cons_append, List.nil_append]
  ((try with_reducible refine Cw.go [] ?_); (try simp (disch := (first | assumption | omega | (simp only [lenS, lenT, UInt64.reduceToNat]; try omega))) only [↓Sx.S0, Sx.S1, Tryd.fx, uWZ7_1, Nat.reduceAdd, Nat.reducePow, Int.reducePow, Nat.reduceBEq, ↓reduceIte, UInt8.reduceToNat, UInt16.reduceToNat, UInt32.reduceToNat, UInt64.reduceToNat, Int.reduceToNat]))
  refine Ow.box rfl rfl fun bx hbx hwx => ?_
  simp only [ev_tmp, getF_0, getF_s, cells_agg, List.nil_append, List.cons_append]
  refine Ow.go rfl ?_
  simp (disch := (first | assumption | omega | (simp only [lenS, lenT, UInt64.reduceToNat]; try omega))) only [↓Sx.S0, Sx.S1, Tryd.fx, uWZ7_1, Nat.reduceAdd, Nat.reducePow, Int.reducePow, Nat.reduceBEq, ↓reduceIte, UInt8.reduceToNat, UInt16.reduceToNat, UInt32.reduceToNat, UInt64.reduceToNat, Int.reduceToNat]
  refine Ow.box rfl rfl fun bi hbi hwi => ?_
  simp only [ev_tmp, getF_0, getF_s, cells_agg, List.nil_append, List.cons_append]
  refine Ow.go rfl ?_
  simp (disch := (first | assumption | omega | (simp only [lenS, lenT, UInt64.reduceToNat]; try omega))) only [↓Sx.S0, Sx.S1, Tryd.fx, uWZ7_1, Nat.reduceAdd, Nat.reducePow, Int.reducePow, Nat.reduceBEq, ↓reduceIte, UInt8.reduceToNat, UInt16.reduceToNat, UInt32.reduceToNat, UInt64.reduceToNat, Int.reduceToNat]
  obtain ⟨hxi, -⟩ := hbi
  ((try with_reducible refine Cw.go [] ?_); (try simp (disch := (first | assumption | omega | (simp only [lenS, lenT, UInt64.reduceToNat]; try omega))) only [↓Sx.S0, Sx.S1, Tryd.fx, uWZ7_1, Nat.reduceAdd, Nat.reducePow, Int.reducePow, Nat.reduceBEq, ↓reduceIte, UInt8.reduceToNat, UInt16.reduceToNat, UInt32.reduceToNat, UInt64.reduceToNat, Int.reduceToNat]))
  refine Ow.callFV rfl Tryd.call8 (fun w' hw' => alive16_spec w' (GlobC.of hG hw' (New.not (L := [(bx, .cells #[vt, vl] 25 (0, 0)), (bi, .cells (a8 id.l) 40 (0, 0))]) ⟨hwx, hwi, trivial⟩ hglt))) ?_
  refine Ow.go rfl ?_
  simp (disch := (first | assumption | omega | (simp only [lenS, lenT, UInt64.reduceToNat]; try omega))) only [↓Sx.S0, Sx.S1, Tryd.fx, uWZ7_1, Nat.reduceAdd, Nat.reducePow, Int.reducePow, Nat.reduceBEq, ↓reduceIte, UInt8.reduceToNat, UInt16.reduceToNat, UInt32.reduceToNat, UInt64.reduceToNat, Int.reduceToNat]
  ((try with_reducible refine Cw.go [] ?_); (try simp (disch := (first | assumption | omega | (simp only [lenS, lenT, UInt64.reduceToNat]; try omega))) only [↓Sx.S0, Sx.S1, Tryd.fx, uWZ7_1, Nat.reduceAdd, Nat.reducePow, Int.reducePow, Nat.reduceBEq, ↓reduceIte, UInt8.reduceToNat, UInt16.reduceToNat, UInt32.reduceToNat, UInt64.reduceToNat, Int.reduceToNat, load_bk]))
  refine Ow.callFV rfl Tryd.call12 (fun w' hw' => Great_spec vt vl t l w' (ht.oldN hw' ⟨hwx, hwi, trivial⟩) (hl.oldN hw' ⟨hwx, hwi, trivial⟩)) ?_
  cases hgr : greatV t l
  case true =>
    refine Ow.go rfl ?_
    simp (disch := (first | assumption | omega | (simp only [lenS, lenT, UInt64.reduceToNat]; try omega))) only [↓Sx.S0, Sx.S1, Tryd.fx, uWZ7_1, Nat.reduceAdd, Nat.reducePow, Int.reducePow, Nat.reduceBEq, ↓reduceIte, UInt8.reduceToNat, UInt16.reduceToNat, UInt32.reduceToNat, UInt64.reduceToNat, Int.reduceToNat]
    ((try with_reducible refine Cw.go [] ?_); (try simp (disch := (first | assumption | omega | (simp only [lenS, lenT, UInt64.reduceToNat]; try omega))) only [↓Sx.S0, Sx.S1, Tryd.fx, uWZ7_1, Nat.reduceAdd, Nat.reducePow, Int.reducePow, Nat.reduceBEq, ↓reduceIte, UInt8.reduceToNat, UInt16.reduceToNat, UInt32.reduceToNat, UInt64.reduceToNat, Int.reduceToNat]))
    refine Ow.callFV rfl Tryd.call8 (fun w' hw' => alive16_spec w' (GlobC.of hG hw' (New.not (L := [(bx, .cells #[vt, vl] 25 (0, 0)), (bi, .cells (a8 id.l) 40 (0, 0))]) ⟨hwx, hwi, trivial⟩ hglt))) ?_
    refine Ow.go rfl ?_
    simp (disch := (first | assumption | omega | (simp only [lenS, lenT, UInt64.reduceToNat]; try omega))) only [↓Sx.S0, Sx.S1, Tryd.fx, uWZ7_1, Nat.reduceAdd, Nat.reducePow, Int.reducePow, Nat.reduceBEq, ↓reduceIte, UInt8.reduceToNat, UInt16.reduceToNat, UInt32.reduceToNat, UInt64.reduceToNat, Int.reduceToNat]
    ((try with_reducible refine Cw.go [] ?_); (try simp (disch := (first | assumption | omega | (simp only [lenS, lenT, UInt64.reduceToNat]; try omega))) only [↓Sx.S0, Sx.S1, Tryd.fx, uWZ7_1, Nat.reduceAdd, Nat.reducePow, Int.reducePow, Nat.reduceBEq, ↓reduceIte, UInt8.reduceToNat, UInt16.reduceToNat, UInt32.reduceToNat, UInt64.reduceToNat, Int.reduceToNat]))
    refine ⟨_, (by simp (disch := (first | assumption | omega | (simp only [lenS, lenT, UInt64.reduceToNat]; try omega))) only [↓Sx.S0, Sx.S1, Tryd.fx, uWZ7_1, Nat.reduceAdd, Nat.reducePow, Int.reducePow, Nat.reduceBEq, ↓reduceIte, UInt8.reduceToNat, UInt16.reduceToNat, UInt32.reduceToNat, UInt64.reduceToNat, Int.reduceToNat]; rfl), ⟨hwx, hwi, trivial⟩, ?_⟩
    rfl
  obtain ⟨htl, hll, hnt, hnl⟩ := great_parts hgr
  by_cases hn : 100 < nm.length
  · have d1 : decide ((100 : Int) < (nm.length : Int)) = true := decide_eq_true (by omega)
    refine Ow.go rfl ?_
    simp (disch := (first | assumption | omega | (simp only [lenS, lenT, UInt64.reduceToNat]; try omega))) only [↓Sx.S0, Sx.S1, Tryd.fx, uWZ7_1, Nat.reduceAdd, Nat.reducePow, Int.reducePow, Nat.reduceBEq, ↓reduceIte, UInt8.reduceToNat, UInt16.reduceToNat, UInt32.reduceToNat, UInt64.reduceToNat, Int.reduceToNat, d1]
    ((try with_reducible refine Cw.go [] ?_); (try simp (disch := (first | assumption | omega | (simp only [lenS, lenT, UInt64.reduceToNat]; try omega))) only [↓Sx.S0, Sx.S1, Tryd.fx, uWZ7_1, Nat.reduceAdd, Nat.reducePow, Int.reducePow, Nat.reduceBEq, ↓reduceIte, UInt8.reduceToNat, UInt16.reduceToNat, UInt32.reduceToNat, UInt64.reduceToNat, Int.reduceToNat, d1]))
    refine Ow.callFV rfl Tryd.call8 (fun w' hw' => alive16_spec w' (GlobC.of hG hw' (New.not (L := [(bx, .cells #[vt, vl] 25 (0, 0)), (bi, .cells (a8 id.l) 40 (0, 0))]) ⟨hwx, hwi, trivial⟩ hglt))) ?_
    refine Ow.go rfl ?_
    simp (disch := (first | assumption | omega | (simp only [lenS, lenT, UInt64.reduceToNat]; try omega))) only [↓Sx.S0, Sx.S1, Tryd.fx, uWZ7_1, Nat.reduceAdd, Nat.reducePow, Int.reducePow, Nat.reduceBEq, ↓reduceIte, UInt8.reduceToNat, UInt16.reduceToNat, UInt32.reduceToNat, UInt64.reduceToNat, Int.reduceToNat]
    ((try with_reducible refine Cw.go [] ?_); (try simp (disch := (first | assumption | omega | (simp only [lenS, lenT, UInt64.reduceToNat]; try omega))) only [↓Sx.S0, Sx.S1, Tryd.fx, uWZ7_1, Nat.reduceAdd, Nat.reducePow, Int.reducePow, Nat.reduceBEq, ↓reduceIte, UInt8.reduceToNat, UInt16.reduceToNat, UInt32.reduceToNat, UInt64.reduceToNat, Int.reduceToNat]))
    refine ⟨_, (by simp (disch := (first | assumption | omega | (simp only [lenS, lenT, UInt64.reduceToNat]; try omega))) only [↓Sx.S0, Sx.S1, Tryd.fx, uWZ7_1, Nat.reduceAdd, Nat.reducePow, Int.reducePow, Nat.reduceBEq, ↓reduceIte, UInt8.reduceToNat, UInt16.reduceToNat, UInt32.reduceToNat, UInt64.reduceToNat, Int.reduceToNat]; rfl), ⟨hwx, hwi, trivial⟩, ?_⟩
    rfl
  have d1 : decide ((100 : Int) < (nm.length : Int)) = false := by simp; omega
  refine Ow.go rfl ?_
  simp (disch := (first | assumption | omega | (simp only [lenS, lenT, UInt64.reduceToNat]; try omega))) only [↓Sx.S0, Sx.S1, Tryd.fx, uWZ7_1, Nat.reduceAdd, Nat.reducePow, Int.reducePow, Nat.reduceBEq, ↓reduceIte, UInt8.reduceToNat, UInt16.reduceToNat, UInt32.reduceToNat, UInt64.reduceToNat, Int.reduceToNat, d1]
  ((try with_reducible refine Cw.go [] ?_); (try simp (disch := (first | assumption | omega | (simp only [lenS, lenT, UInt64.reduceToNat]; try omega))) only [↓Sx.S0, Sx.S1, Tryd.fx, uWZ7_1, Nat.reduceAdd, Nat.reducePow, Int.reducePow, Nat.reduceBEq, ↓reduceIte, UInt8.reduceToNat, UInt16.reduceToNat, UInt32.reduceToNat, UInt64.reduceToNat, Int.reduceToNat, d1, load_bk, hli]))
  have hNb : New w.heap.size [(bx, Obj.cells #[vt, vl] 25 (0, 0)), (bi, Obj.cells (a8 id.l) 40 (0, 0))] := ⟨hwx, hwi, trivial⟩
  refine Ow.callC rfl rfl Tryd.call14 (fun w' hw' => Add0_spec vt vl t l nm id w' (GlobC.of hG hw' (hNb.not hglt)) (ht.oldN hw' hNb) (hl.oldN hw' hNb) (by omega) (by omega) hnt.short hnl.short (by omega)) (fun B1 v1 D1 hA1 hB1 hN1 hS1 => ?_)
  have hN1' := hN1.mono hB1
  obtain ⟨x1, x2, rfl, hg1, hg2⟩ := AddS.tells (r := ⟨nm, id⟩) hS1
  generalize hR : (⟨nm, id⟩ : RefL) = r at *
  obtain ⟨hla1, hla2⟩ := addR_len (r := r) htl hll
  obtain ⟨hlt1, hlt2⟩ := trimR_len (t := t) (keep := keep) hll
  generalize hAA : addR t l r = AA at *
  obtain ⟨⟨a1, a2⟩, sa, ae⟩ := AA
  simp only at hg1 hg2 hla1 hla2
  have hst1 := store_bk (.slice none 0 0) (.slice none 0 0) x1 x2 25 (gri_cell hg1).1 (gri_cell hg2).1
  refine Ow.go rfl ?_
  simp (disch := (first | assumption | omega | (simp only [lenS, lenT, UInt64.reduceToNat]; try omega))) only [↓Sx.S0, Sx.S1, Tryd.fx, uWZ7_1, Nat.reduceAdd, Nat.reducePow, Int.reducePow, Nat.reduceBEq, ↓reduceIte, UInt8.reduceToNat, UInt16.reduceToNat, UInt32.reduceToNat, UInt64.reduceToNat, Int.reduceToNat]
  refine Ow.alloc rfl rfl zrBk fun b9 hb9 hw9 => ?_
  simp only [cells_agg, List.nil_append, List.cons_append]
  have hx9 : bx < b9 := above_to hb9 (by simp [keys])
  have hi9 : bi < b9 := above_to hb9 (by simp [keys])
  refine Ow.permL (M := (bx, .cells #[vt, vl] 25 (0, 0)) :: (bi, .cells (a8 id.l) 40 (0, 0)) :: (b9, .cells #[.slice none 0 0, .slice none 0 0] 25 (0, 0)) :: D1) (by classical exact List.perm_iff_count.2 fun a => by simp only [List.count_append, List.count_cons, List.count_nil] <;> omega) ?_
  refine Ow.go rfl ?_
  simp (disch := (first | assumption | omega | (simp only [lenS, lenT, UInt64.reduceToNat]; try omega))) only [↓Sx.S0, Sx.S1, Tryd.fx, uWZ7_1, Nat.reduceAdd, Nat.reducePow, Int.reducePow, Nat.reduceBEq, ↓reduceIte, UInt8.reduceToNat, UInt16.reduceToNat, UInt32.reduceToNat, UInt64.reduceToNat, Int.reduceToNat, hst1]
  ((try with_reducible refine Cw.go [] ?_); (try simp (disch := (first | assumption | omega | (simp only [lenS, lenT, UInt64.reduceToNat]; try omega))) only [↓Sx.S0, Sx.S1, Tryd.fx, uWZ7_1, Nat.reduceAdd, Nat.reducePow, Int.reducePow, Nat.reduceBEq, ↓reduceIte, UInt8.reduceToNat, UInt16.reduceToNat, UInt32.reduceToNat, UInt64.reduceToNat, Int.reduceToNat, load_bk]))
  have hNc : New w.heap.size ((bx, Obj.cells #[vt, vl] 25 (0, 0)) :: (bi, Obj.cells (a8 id.l) 40 (0, 0)) :: (b9, Obj.cells #[x1, x2] 25 (0, 0)) :: D1) := ⟨hwx, hwi, hw9, hN1'⟩
  refine Ow.callC rfl rfl Tryd.call31 (fun w' hw' => Trim_spec vt vl t l keep w' (ht.oldN hw' hNc) (hl.oldN hw' hNc) (by omega) (by omega) hnt.short hnl.short) (fun B2 v2 D2 hA2 hB2 hN2 hS2 => ?_)
  have hN2' := hN2.mono hB2
  obtain ⟨y1, y2, rfl, hg3, hg4⟩ := TrimS.tells hS2
  generalize hTT : trimR t l keep = TT at *
  obtain ⟨⟨t1, t2⟩, te⟩ := TT
  simp only at hg3 hg4 hlt1 hlt2
  have hst2 := store_bk (.slice none 0 0) (.slice none 0 0) y1 y2 25 (gri_cell hg3).1 (gri_cell hg4).1
  simp (disch := (first | assumption | omega | (simp only [lenS, lenT, UInt64.reduceToNat]; try omega))) only [setB_same, setB_other, List.cons_append, List.nil_append]
  refine Ow.go rfl ?_
  simp (disch := (first | assumption | omega | (simp only [lenS, lenT, UInt64.reduceToNat]; try omega))) only [↓Sx.S0, Sx.S1, Tryd.fx, uWZ7_1, Nat.reduceAdd, Nat.reducePow, Int.reducePow, Nat.reduceBEq, ↓reduceIte, UInt8.reduceToNat, UInt16.reduceToNat, UInt32.reduceToNat, UInt64.reduceToNat, Int.reduceToNat]
  refine Ow.alloc rfl rfl zrBk fun bt hbt hwt => ?_
  simp only [cells_agg, List.nil_append, List.cons_append]
  have hxt : bx < bt := above_to hbt (by simp [keys])
  have hit : bi < bt := above_to hbt (by simp [keys])
  have h9t : b9 < bt := above_to hbt (by simp [keys])
  refine Ow.permL (M := (bx, .cells #[vt, vl] 25 (0, 0)) :: (bi, .cells (a8 id.l) 40 (0, 0)) :: (b9, .cells #[x1, x2] 25 (0, 0)) :: (bt, .cells #[.slice none 0 0, .slice none 0 0] 25 (0, 0)) :: (D1 ++ D2)) (by classical exact List.perm_iff_count.2 fun a => by simp only [List.count_append, List.count_cons, List.count_nil] <;> omega) ?_
  refine Ow.go rfl ?_
  simp (disch := (first | assumption | omega | (simp only [lenS, lenT, UInt64.reduceToNat]; try omega))) only [↓Sx.S0, Sx.S1, Tryd.fx, uWZ7_1, Nat.reduceAdd, Nat.reducePow, Int.reducePow, Nat.reduceBEq, ↓reduceIte, UInt8.reduceToNat, UInt16.reduceToNat, UInt32.reduceToNat, UInt64.reduceToNat, Int.reduceToNat, hst2]
  ((try with_reducible refine Cw.go [] ?_); (try simp (disch := (first | assumption | omega | (simp only [lenS, lenT, UInt64.reduceToNat]; try omega))) only [↓Sx.S0, Sx.S1, Tryd.fx, uWZ7_1, Nat.reduceAdd, Nat.reducePow, Int.reducePow, Nat.reduceBEq, ↓reduceIte, UInt8.reduceToNat, UInt16.reduceToNat, UInt32.reduceToNat, UInt64.reduceToNat, Int.reduceToNat, load_bk]))
  refine Ow.build (.agg #[.slice none 0 0, .slice none 0 0]) rfl (by kernel_rfl) ?_
  refine Ow.go rfl ?_
  simp (disch := (first | assumption | omega | (simp only [lenS, lenT, UInt64.reduceToNat]; try omega))) only [↓Sx.S0, Sx.S1, Tryd.fx, uWZ7_1, Nat.reduceAdd, Nat.reducePow, Int.reducePow, Nat.reduceBEq, ↓reduceIte, UInt8.reduceToNat, UInt16.reduceToNat, UInt32.reduceToNat, UInt64.reduceToNat, Int.reduceToNat]
  refine Ow.alloc rfl rfl zrBk fun bn hbn hwn => ?_
  simp only [cells_agg, List.nil_append, List.cons_append]
  have hxn : bx < bn := above_to hbn (by simp [keys])
  have hin : bi < bn := above_to hbn (by simp [keys])
  have h9n : b9 < bn := above_to hbn (by simp [keys])
  have htn : bt < bn := above_to hbn (by simp [keys])
  refine Ow.permL (M := (bx, .cells #[vt, vl] 25 (0, 0)) :: (bi, .cells (a8 id.l) 40 (0, 0)) :: (b9, .cells #[x1, x2] 25 (0, 0)) :: (bt, .cells #[y1, y2] 25 (0, 0)) :: (bn, .cells #[.slice none 0 0, .slice none 0 0] 25 (0, 0)) :: (D1 ++ D2)) (by classical exact List.perm_iff_count.2 fun a => by simp only [List.count_append, List.count_cons, List.count_nil] <;> omega) ?_
  refine Ow.go rfl ?_
  simp (disch := (first | assumption | omega | (simp only [lenS, lenT, UInt64.reduceToNat]; try omega))) only [↓Sx.S0, Sx.S1, Tryd.fx, uWZ7_1, Nat.reduceAdd, Nat.reducePow, Int.reducePow, Nat.reduceBEq, ↓reduceIte, UInt8.reduceToNat, UInt16.reduceToNat, UInt32.reduceToNat, UInt64.reduceToNat, Int.reduceToNat]
  ((try with_reducible refine Cw.go [] ?_); (try simp (disch := (first | assumption | omega | (simp only [lenS, lenT, UInt64.reduceToNat]; try omega))) only [↓Sx.S0, Sx.S1, Tryd.fx, uWZ7_1, Nat.reduceAdd, Nat.reducePow, Int.reducePow, Nat.reduceBEq, ↓reduceIte, UInt8.reduceToNat, UInt16.reduceToNat, UInt32.reduceToNat, UInt64.reduceToNat, Int.reduceToNat, load_bk]))
  have hNd : New w.heap.size ((bx, .cells #[vt, vl] 25 (0, 0)) :: (bi, .cells (a8 id.l) 40 (0, 0)) :: (b9, .cells #[x1, x2] 25 (0, 0)) :: (bt, .cells #[y1, y2] 25 (0, 0)) :: (bn, .cells #[.slice none 0 0, .slice none 0 0] 25 (0, 0)) :: (D1 ++ D2)) := ⟨hwx, hwi, hw9, hwt, hwn, hN1'.app hN2'⟩
  have hdl : ∀ (w' : World), Hp w ((bx, .cells #[vt, vl] 25 (0, 0)) :: (bi, .cells (a8 id.l) 40 (0, 0)) :: (b9, .cells #[x1, x2] 25 (0, 0)) :: (bt, .cells #[y1, y2] 25 (0, 0)) :: (bn, .cells #[.slice none 0 0, .slice none 0 0] 25 (0, 0)) :: (D1 ++ D2)) w' → RefSl w' x1 a1 ∧ RefSl w' x2 a2 ∧ RefSl w' y1 t1 ∧ RefSl w' y2 t2 := fun w' hw' =>
    ⟨GrI.slV (hg1.mono (fun p hp => by simp [hp])) hw' rfl rfl refC_len, GrI.slV (hg2.mono (fun p hp => by simp [hp])) hw' rfl rfl refC_len, GrI.slV (hg3.mono (fun p hp => by simp [hp])) hw' rfl rfl refC_len, GrI.slV (hg4.mono (fun p hp => by simp [hp])) hw' rfl rfl refC_len⟩
  have hnil : ∀ w', RefSl w' (.slice none 0 0) [] := fun w' => GrI.slV (D := []) gri_nl (Hp.refl w') rfl rfl refC_len
  refine Ow.callFV rfl Tryd.call32 (fun w' hw' => refRight_spec vt vl t l w' (ht.oldN hw' hNd) (hl.oldN hw' hNd) (by omega) (by omega) hnt.short hnl.short) ?_
  cases hr : rightB t l
  · have hAA' : a1 = [] ∧ a2 = [] ∧ sa = [] ∧ ae = 1 := by
      unfold addR at hAA
      rw [if_neg (by rw [hr]; simp)] at hAA
      simp only [Prod.mk.injEq] at hAA
      obtain ⟨⟨rfl, rfl⟩, rfl, rfl⟩ := hAA; exact ⟨rfl, rfl, rfl, rfl⟩
    have hTT' : t1 = [] ∧ t2 = [] ∧ te = 1 := by
      unfold trimR at hTT
      rw [if_neg (by rw [hr]; simp)] at hTT
      simp only [Prod.mk.injEq] at hTT
      obtain ⟨⟨rfl, rfl⟩, rfl⟩ := hTT; exact ⟨rfl, rfl, rfl⟩
    obtain ⟨rfl, rfl, rfl, rfl⟩ := hAA'
    obtain ⟨rfl, rfl, rfl⟩ := hTT'
    refine Ow.go rfl ?_
    simp (disch := (first | assumption | omega | (simp only [lenS, lenT, UInt64.reduceToNat]; try omega))) only [↓Sx.S0, Sx.S1, Tryd.fx, uWZ7_1, Nat.reduceAdd, Nat.reducePow, Int.reducePow, Nat.reduceBEq, ↓reduceIte, UInt8.reduceToNat, UInt16.reduceToNat, UInt32.reduceToNat, UInt64.reduceToNat, Int.reduceToNat]
    ((try with_reducible refine Cw.go [] ?_); (try simp (disch := (first | assumption | omega | (simp only [lenS, lenT, UInt64.reduceToNat]; try omega))) only [↓Sx.S0, Sx.S1, Tryd.fx, uWZ7_1, Nat.reduceAdd, Nat.reducePow, Int.reducePow, Nat.reduceBEq, ↓reduceIte, UInt8.reduceToNat, UInt16.reduceToNat, UInt32.reduceToNat, UInt64.reduceToNat, Int.reduceToNat]))
    refine Ow.callFV rfl Tryd.call8 (fun w' hw' => alive16_spec w' (GlobC.of hG hw' (hNd.not hglt))) ?_
    refine Ow.go rfl ?_
    simp (disch := (first | assumption | omega | (simp only [lenS, lenT, UInt64.reduceToNat]; try omega))) only [↓Sx.S0, Sx.S1, Tryd.fx, uWZ7_1, Nat.reduceAdd, Nat.reducePow, Int.reducePow, Nat.reduceBEq, ↓reduceIte, UInt8.reduceToNat, UInt16.reduceToNat, UInt32.reduceToNat, UInt64.reduceToNat, Int.reduceToNat, load_bk]
    refine Ow.callFV rfl Tryd.call11 (fun w' hw' => Same_spec x1 x2 _ _ [] [] [] [] w' (hdl w' hw').1 (hdl w' hw').2.1 (hnil w') (hnil w') (by simp) (by simp) (by simp) (by simp)) ?_
    have s0 : (sameR ([] : List RefL) [] && sameR ([] : List RefL) []) = true := by simp [sameR]
    refine Ow.go rfl ?_
    simp (disch := (first | assumption | omega | (simp only [lenS, lenT, UInt64.reduceToNat]; try omega))) only [↓Sx.S0, Sx.S1, Tryd.fx, uWZ7_1, Nat.reduceAdd, Nat.reducePow, Int.reducePow, Nat.reduceBEq, ↓reduceIte, UInt8.reduceToNat, UInt16.reduceToNat, UInt32.reduceToNat, UInt64.reduceToNat, Int.reduceToNat, load_bk, s0]
    refine Ow.callFV rfl Tryd.call11 (fun w' hw' => Same_spec y1 y2 _ _ [] [] [] [] w' (hdl w' hw').2.2.1 (hdl w' hw').2.2.2 (hnil w') (hnil w') (by simp) (by simp) (by simp) (by simp)) ?_
    refine Ow.go rfl ?_
    simp (disch := (first | assumption | omega | (simp only [lenS, lenT, UInt64.reduceToNat]; try omega))) only [↓Sx.S0, Sx.S1, Tryd.fx, uWZ7_1, Nat.reduceAdd, Nat.reducePow, Int.reducePow, Nat.reduceBEq, ↓reduceIte, UInt8.reduceToNat, UInt16.reduceToNat, UInt32.reduceToNat, UInt64.reduceToNat, Int.reduceToNat, load_bk, s0]
    ((try with_reducible refine Cw.go [] ?_); (try simp (disch := (first | assumption | omega | (simp only [lenS, lenT, UInt64.reduceToNat]; try omega))) only [↓Sx.S0, Sx.S1, Tryd.fx, uWZ7_1, Nat.reduceAdd, Nat.reducePow, Int.reducePow, Nat.reduceBEq, ↓reduceIte, UInt8.reduceToNat, UInt16.reduceToNat, UInt32.reduceToNat, UInt64.reduceToNat, Int.reduceToNat]))
    refine ⟨_, (by simp (disch := (first | assumption | omega | (simp only [lenS, lenT, UInt64.reduceToNat]; try omega))) only [↓Sx.S0, Sx.S1, Tryd.fx, uWZ7_1, Nat.reduceAdd, Nat.reducePow, Int.reducePow, Nat.reduceBEq, ↓reduceIte, UInt8.reduceToNat, UInt16.reduceToNat, UInt32.reduceToNat, UInt64.reduceToNat, Int.reduceToNat]; rfl), hNd, ?_⟩
    rfl
  · obtain ⟨m, ls, -, hv, -, hls, hl100⟩ := of_trim hr (trimK_le l.length keep)
    have hTT' : t1 = ls ∧ t2 = l.drop (trimK l.length keep) ∧ te = 0 := by
      unfold trimR at hTT
      rw [if_pos hr, hv] at hTT
      simp only [Prod.mk.injEq, Option.getD_some] at hTT
      obtain ⟨⟨rfl, rfl⟩, rfl⟩ := hTT; exact ⟨rfl, rfl, rfl⟩
    obtain ⟨rfl, rfl, rfl⟩ := hTT'
    refine Ow.go rfl ?_
    simp (disch := (first | assumption | omega | (simp only [lenS, lenT, UInt64.reduceToNat]; try omega))) only [↓Sx.S0, Sx.S1, Tryd.fx, uWZ7_1, Nat.reduceAdd, Nat.reducePow, Int.reducePow, Nat.reduceBEq, ↓reduceIte, UInt8.reduceToNat, UInt16.reduceToNat, UInt32.reduceToNat, UInt64.reduceToNat, Int.reduceToNat]
    ((try with_reducible refine Cw.go [] ?_); (try simp (disch := (first | assumption | omega | (simp only [lenS, lenT, UInt64.reduceToNat]; try omega))) only [↓Sx.S0, Sx.S1, Tryd.fx, uWZ7_1, Nat.reduceAdd, Nat.reducePow, Int.reducePow, Nat.reduceBEq, ↓reduceIte, UInt8.reduceToNat, UInt16.reduceToNat, UInt32.reduceToNat, UInt64.reduceToNat, Int.reduceToNat]))
    have e0 : ((0 : Int) != 0) = false := rfl
    refine Cw.regionS [bt, bx] [0, 1, 2, 5, 3, 4, 6, 7, 8, 9] [] (by kernel_rfl) (by kernel_rfl) (by kernel_rfl) ?_
    simp only [nl_cons, ↓pickL_nil, ↓pickL_cons, ↓nthO_0, ↓nthO_s, consO_some]
    refine Ow.goQ ?_
    simp (disch := (first | assumption | omega | (simp only [lenS, lenT, UInt64.reduceToNat]; try omega))) only [↓Sx.S0, Sx.S1, Tryd.fx, uWZ7_1, Nat.reduceAdd, Nat.reducePow, Int.reducePow, Nat.reduceBEq, ↓reduceIte, UInt8.reduceToNat, UInt16.reduceToNat, UInt32.reduceToNat, UInt64.reduceToNat, Int.reduceToNat, load_bk, e0]
    refine Ow.soft rfl rfl rfl ?_
    refine Ow.callC rfl rfl Tryd.call33 (fun w' hw' => refTrim_spec vt vl t l keep w' (ht.oldN hw' hNd) (hl.oldN hw' hNd) (by omega) (by omega) hnt.short hnl.short hr) (fun B3 v3 D3 hA3 hB3 hN3 hS3 => ?_)
    obtain ⟨z1, z2, ls', hv', rfl, hg5, hsl⟩ := hS3
    rw [hv] at hv'
    obtain rfl := Option.some.inj hv'
    have hN3' := hN3.mono hB3
    obtain ⟨z2', hsl', hld, -⟩ := SlV.dropE hl (trimK_le l.length keep) true
    rw [hsl] at hsl'
    obtain rfl := Option.some.inj hsl'
    with_reducible refine Ow.nil ?_
    refine ⟨readB_appR (fun q hq => by simp only [List.mem_cons, List.not_mem_nil, or_false] at hq; rcases hq with rfl | rfl <;> simp [keys]), ?_⟩
    have hre : ∀ x : List RefL, sameR x x = true := fun x => by unfold sameR; simp
    have hld3 : New w.heap.size ((bx, .cells #[vt, vl] 25 (0, 0)) :: (bi, .cells (a8 id.l) 40 (0, 0)) :: (b9, .cells #[x1, x2] 25 (0, 0)) :: (bt, .cells #[y1, y2] 25 (0, 0)) :: (bn, .cells #[.slice none 0 0, .slice none 0 0] 25 (0, 0)) :: (D1 ++ D2 ++ D3)) := ⟨hwx, hwi, hw9, hwt, hwn, (hN1'.app hN2').app hN3'⟩
    simp (disch := (first | assumption | omega | (simp only [lenS, lenT, UInt64.reduceToNat]; try omega))) only [setB_same, setB_other, List.cons_append, List.nil_append]
    refine Ow.goQ ?_
    simp (disch := (first | assumption | omega | (simp only [lenS, lenT, UInt64.reduceToNat]; try omega))) only [↓Sx.S0, Sx.S1, Tryd.fx, uWZ7_1, Nat.reduceAdd, Nat.reducePow, Int.reducePow, Nat.reduceBEq, ↓reduceIte, UInt8.reduceToNat, UInt16.reduceToNat, UInt32.reduceToNat, UInt64.reduceToNat, Int.reduceToNat, load_bk]
    refine Ow.callFV rfl Tryd.call11 (fun w' hw' => Same_spec y1 y2 z1 z2 _ _ _ _ w' (GrI.slV (hg3.mono (fun p hp => by simp [hp])) hw' rfl rfl refC_len) (GrI.slV (hg4.mono (fun p hp => by simp [hp])) hw' rfl rfl refC_len) (GrI.slV (hg5.mono (fun p hp => by simp [hp])) hw' rfl rfl refC_len) (SlV.oldN hld hw' hld3) (by omega) (by omega) (by omega) (by omega)) ?_
    rw [hre, hre, show (true && true) = true from rfl]
    have hg1' : GrI (D1 ++ D2 ++ D3) 42 33 x1 a1.length (a1.map refC).flatten := hg1.mono fun p hp => by simp [hp]
    have hg2' : GrI (D1 ++ D2 ++ D3) 42 33 x2 a2.length (a2.map refC).flatten := hg2.mono fun p hp => by simp [hp]
    have hNDD := (hN1'.app hN2').app hN3'
    refine Ow.goQ ?_
    simp (disch := (first | assumption | omega | (simp only [lenS, lenT, UInt64.reduceToNat]; try omega))) only [↓Sx.S0, Sx.S1, Tryd.fx, uWZ7_1, Nat.reduceAdd, Nat.reducePow, Int.reducePow, Nat.reduceBEq, ↓reduceIte, UInt8.reduceToNat, UInt16.reduceToNat, UInt32.reduceToNat, UInt64.reduceToNat, Int.reduceToNat]
    try with_reducible refine Ow.nil ?_
    clear hdl hg5 hg3 hg4 hg1 hg2
    generalize D1 ++ D2 ++ D3 = DD at *
    ((try with_reducible refine Cw.go [] ?_); (try simp (disch := (first | assumption | omega | (simp only [lenS, lenT, UInt64.reduceToNat]; try omega))) only [↓Sx.S0, Sx.S1, Tryd.fx, uWZ7_1, Nat.reduceAdd, Nat.reducePow, Int.reducePow, Nat.reduceBEq, ↓reduceIte, UInt8.reduceToNat, UInt16.reduceToNat, UInt32.reduceToNat, UInt64.reduceToNat, Int.reduceToNat]))
    refine Ow.build (.agg #[vt, .slice none 0 0]) rfl (build_bkt vt (SlV.cellW ht).2) ?_
    have hst3 := store_bk (.slice none 0 0) (.slice none 0 0) vt (.slice none 0 0) 25 (SlV.cellW ht).1 rfl
    refine Ow.go rfl ?_
    simp (disch := (first | assumption | omega | (simp only [lenS, lenT, UInt64.reduceToNat]; try omega))) only [↓Sx.S0, Sx.S1, Tryd.fx, uWZ7_1, Nat.reduceAdd, Nat.reducePow, Int.reducePow, Nat.reduceBEq, ↓reduceIte, UInt8.reduceToNat, UInt16.reduceToNat, UInt32.reduceToNat, UInt64.reduceToNat, Int.reduceToNat]
    refine Ow.alloc rfl rfl zrBk fun bd hbd hwd => ?_
    simp only [cells_agg, List.nil_append, List.cons_append]
    have hxd : bx < bd := above_to hbd (by simp [keys])
    have hid : bi < bd := above_to hbd (by simp [keys])
    have h9d : b9 < bd := above_to hbd (by simp [keys])
    have htd : bt < bd := above_to hbd (by simp [keys])
    have hnd : bn < bd := above_to hbd (by simp [keys])
    refine Ow.permL (M := (bx, .cells #[vt, vl] 25 (0, 0)) :: (bi, .cells (a8 id.l) 40 (0, 0)) :: (b9, .cells #[x1, x2] 25 (0, 0)) :: (bt, .cells #[y1, y2] 25 (0, 0)) :: (bn, .cells #[.slice none 0 0, .slice none 0 0] 25 (0, 0)) :: (bd, .cells #[.slice none 0 0, .slice none 0 0] 25 (0, 0)) :: DD) (by classical exact List.perm_iff_count.2 fun a => by simp only [List.count_append, List.count_cons, List.count_nil] <;> omega) ?_
    refine Ow.go rfl ?_
    simp (disch := (first | assumption | omega | (simp only [lenS, lenT, UInt64.reduceToNat]; try omega))) only [↓Sx.S0, Sx.S1, Tryd.fx, uWZ7_1, Nat.reduceAdd, Nat.reducePow, Int.reducePow, Nat.reduceBEq, ↓reduceIte, UInt8.reduceToNat, UInt16.reduceToNat, UInt32.reduceToNat, UInt64.reduceToNat, Int.reduceToNat, hst3]
    ((try with_reducible refine Cw.go [] ?_); (try simp (disch := (first | assumption | omega | (simp only [lenS, lenT, UInt64.reduceToNat]; try omega))) only [↓Sx.S0, Sx.S1, Tryd.fx, uWZ7_1, Nat.reduceAdd, Nat.reducePow, Int.reducePow, Nat.reduceBEq, ↓reduceIte, UInt8.reduceToNat, UInt16.reduceToNat, UInt32.reduceToNat, UInt64.reduceToNat, Int.reduceToNat, load_bk]))
    refine Ow.appendB2 (e := 42) (k := l.length) (new := (l.map refC).flatten) (X := []) (n := 0) (cs := []) (.slice none 0 0) rfl rfl rfl rfl Tryd.underlying23 Tryd.ag42 (by kernel_rfl) zrRef (by rw [cells_ref, List.size_toArray, refC_len]) Tryd.underlying23 (by intro k h; cases h) .nl (fun w' hw' => (hl.oldN hw' ⟨hwx, hwi, hw9, hwt, hwn, hwd, hNDD⟩).appX refC_len refC_one) (by omega) (fun B4 v4 D4 hA4 hB4 hbuf4 hk14 hk24 hlk4 => ?_)
    have hd4 : bd < B4 := above_to hA4 (by simp [keys])
    have hN4 : New (bd + 1) D4 := New.of_le fun q hq => by
      rcases hk24 q hq with h | h
      · cases h
      · omega
    have hc4 : Value.oneCell' v4 = true ∧ v4.cells = #[v4] := hbuf4.cell
    have hst4 := store_bkl vt (.slice none 0 0) v4 false 25 hc4.1 hc4.2
    refine Ow.permL (M := (bx, .cells #[vt, vl] 25 (0, 0)) :: (bi, .cells (a8 id.l) 40 (0, 0)) :: (b9, .cells #[x1, x2] 25 (0, 0)) :: (bt, .cells #[y1, y2] 25 (0, 0)) :: (bn, .cells #[.slice none 0 0, .slice none 0 0] 25 (0, 0)) :: (bd, .cells #[vt, .slice none 0 0] 25 (0, 0)) :: (DD ++ D4)) (by classical exact List.perm_iff_count.2 fun a => by simp only [List.count_append, List.count_cons, List.count_nil] <;> omega) ?_
    refine Ow.go rfl ?_
    simp (disch := (first | assumption | omega | (simp only [lenS, lenT, UInt64.reduceToNat]; try omega))) only [↓Sx.S0, Sx.S1, Tryd.fx, uWZ7_1, Nat.reduceAdd, Nat.reducePow, Int.reducePow, Nat.reduceBEq, ↓reduceIte, UInt8.reduceToNat, UInt16.reduceToNat, UInt32.reduceToNat, UInt64.reduceToNat, Int.reduceToNat, hst4]
    ((try with_reducible refine Cw.go [] ?_); (try simp (disch := (first | assumption | omega | (simp only [lenS, lenT, UInt64.reduceToNat]; try omega))) only [↓Sx.S0, Sx.S1, Tryd.fx, uWZ7_1, Nat.reduceAdd, Nat.reducePow, Int.reducePow, Nat.reduceBEq, ↓reduceIte, UInt8.reduceToNat, UInt16.reduceToNat, UInt32.reduceToNat, UInt64.reduceToNat, Int.reduceToNat, load_bk]))
    refine Ow.build _ rfl (build_ref nm id) ?_
    rw [hR]
    refine Ow.go rfl ?_
    simp (disch := (first | assumption | omega | (simp only [lenS, lenT, UInt64.reduceToNat]; try omega))) only [↓Sx.S0, Sx.S1, Tryd.fx, uWZ7_1, Nat.reduceAdd, Nat.reducePow, Int.reducePow, Nat.reduceBEq, ↓reduceIte, UInt8.reduceToNat, UInt16.reduceToNat, UInt32.reduceToNat, UInt64.reduceToNat, Int.reduceToNat]
    have hgr4 : Gr D4 42 33 v4 l.length (l.map refC).flatten := by
      have := hbuf4
      rw [Nat.zero_add, List.nil_append] at this
      exact .inl this
    refine Ow.buildSlice (e := 42) (refC r).toArray rfl rfl (sliceRef r) fun b5 hb5 hw5 => ?_
    have hd5 : bd < b5 := above_to hb5 (by simp [keys])
    refine Ow.permL (M := D4 ++ ((bx, .cells #[vt, vl] 25 (0, 0)) :: (bi, .cells (a8 id.l) 40 (0, 0)) :: (b9, .cells #[x1, x2] 25 (0, 0)) :: (bt, .cells #[y1, y2] 25 (0, 0)) :: (bn, .cells #[.slice none 0 0, .slice none 0 0] 25 (0, 0)) :: (bd, .cells #[vt, v4] 25 (0, 0)) :: (b5, Obj.cells (refC r).toArray 42 (0, 0)) :: DD)) (by classical exact List.perm_iff_count.2 fun a => by simp only [List.count_append, List.count_cons, List.count_nil] <;> omega) ?_
    refine Ow.appendX (e := 42) (k := 1) (new := refC r) (X := D4) v4 rfl rfl rfl rfl Tryd.underlying23 Tryd.ag42 (by kernel_rfl) zrRef (by rw [cells_ref, List.size_toArray, refC_len]) Tryd.underlying23 (by intro k h; cases h) hgr4 (fun w' hw' => AppX.one1 (hw'.has b5 (.cells (refC r).toArray 42 (0, 0)) (by simp)) (refC_len r) (refC_one r)) (by omega) (by omega) (fun B6 v6 D6 hA6 hB6 hbuf6 hk16 hk26 hlk6 => ?_)
    have hd6 : bd < B6 := above_to hA6 (by simp [keys_app, keys])
    have hN6 : New (bd + 1) D6 := New.of_le fun q hq => by
      rcases hk26 q hq with h | h
      · exact hN4.le q h
      · omega
    have hc6 := hbuf6.cell
    have hst6 := store_bkl vt v4 v6 false 25 hc6.1 hc6.2
    refine Ow.permL (M := (bx, .cells #[vt, vl] 25 (0, 0)) :: (bi, .cells (a8 id.l) 40 (0, 0)) :: (b9, .cells #[x1, x2] 25 (0, 0)) :: (bt, .cells #[y1, y2] 25 (0, 0)) :: (bn, .cells #[.slice none 0 0, .slice none 0 0] 25 (0, 0)) :: (bd, .cells #[vt, v4] 25 (0, 0)) :: (D6 ++ (b5, Obj.cells (refC r).toArray 42 (0, 0)) :: DD)) (by classical exact List.perm_iff_count.2 fun a => by simp only [List.count_append, List.count_cons, List.count_nil] <;> omega) ?_
    have hgr6 : Gr D6 42 33 v6 (l ++ [r]).length ((l ++ [r]).map refC).flatten := by
      have := hbuf6
      rw [show (l.map refC).flatten ++ refC r = ((l ++ [r]).map refC).flatten by simp, show l.length + 1 = (l ++ [r]).length by simp] at this
      exact .inl this
    have hsr : ShortN (l ++ [r]) := by
      intro g hg
      by_cases hlt : g < l.length
      · have := hnl.short g hlt
        rwa [List.getD_eq_getElem?_getD, List.getElem?_append_left hlt, ← List.getD_eq_getElem?_getD]
      · have : g = l.length := by simp at hg; omega
        subst this
        rw [List.getD_eq_getElem?_getD, List.getElem?_append_right (Nat.le_refl _)]
        simp only [Nat.sub_self, List.getElem?_cons_zero, Option.getD_some]
        rw [← hR]; show nm.length < _; omega
    have hNE : New w.heap.size ((bx, .cells #[vt, vl] 25 (0, 0)) :: (bi, .cells (a8 id.l) 40 (0, 0)) :: (b9, .cells #[x1, x2] 25 (0, 0)) :: (bt, .cells #[y1, y2] 25 (0, 0)) :: (bn, .cells #[.slice none 0 0, .slice none 0 0] 25 (0, 0)) :: (bd, .cells #[vt, v6] 25 (0, 0)) :: (D6 ++ (b5, Obj.cells (refC r).toArray 42 (0, 0)) :: DD)) := ⟨hwx, hwi, hw9, hwt, hwn, hwd, (hN6.mono (by omega)).app ⟨by omega, hNDD⟩⟩
    have hg6 : GrI (D6 ++ (b5, Obj.cells (refC r).toArray 42 (0, 0)) :: DD) 42 33 v6 (l ++ [r]).length ((l ++ [r]).map refC).flatten := hgr6.i fun q hq => by simp [hq]
    have hg1 := hg1'.mono (D' := D6 ++ (b5, Obj.cells (refC r).toArray 42 (0, 0)) :: DD) fun q hq => by simp [hq]
    have hg2 := hg2'.mono (D' := D6 ++ (b5, Obj.cells (refC r).toArray 42 (0, 0)) :: DD) fun q hq => by simp [hq]
    clear hg1' hg2' hlk6 hlk4 hk16 hk26 hk14 hk24
    generalize D6 ++ (b5, Obj.cells (refC r).toArray 42 (0, 0)) :: DD = DE at *
    have hll1 : (l ++ [r]).length < 1000 := by simp; omega
    refine Ow.go rfl ?_
    simp (disch := (first | assumption | omega | (simp only [lenS, lenT, UInt64.reduceToNat]; try omega))) only [↓Sx.S0, Sx.S1, Tryd.fx, uWZ7_1, Nat.reduceAdd, Nat.reducePow, Int.reducePow, Nat.reduceBEq, ↓reduceIte, UInt8.reduceToNat, UInt16.reduceToNat, UInt32.reduceToNat, UInt64.reduceToNat, Int.reduceToNat, hst6]
    ((try with_reducible refine Cw.go [] ?_); (try simp (disch := (first | assumption | omega | (simp only [lenS, lenT, UInt64.reduceToNat]; try omega))) only [↓Sx.S0, Sx.S1, Tryd.fx, uWZ7_1, Nat.reduceAdd, Nat.reducePow, Int.reducePow, Nat.reduceBEq, ↓reduceIte, UInt8.reduceToNat, UInt16.reduceToNat, UInt32.reduceToNat, UInt64.reduceToNat, Int.reduceToNat, load_bk]))
    refine Ow.callFV rfl Tryd.call32 (fun w' hw' => refRight_spec vt v6 t (l ++ [r]) w' (ht.oldN hw' hNE) (GrI.slV (hg6.mono (fun p hp => by simp [hp])) hw' rfl rfl refC_len) (by omega) (by omega) hnt.short hsr) ?_
    have e1 : ((1 : Int) != 0) = true := rfl
    have e18 : ((18 : Int) != 0) = true := rfl
    have e11 : ((1 : Int) == 1) = true := rfl
    have e88 : ((18 : Int) == 18) = true := rfl
    have hnr : r.name = nm := by rw [← hR]
    have hnm : nm.length < 1099511627776 := by omega
    cases hnn : nameV nm
    · have hAA' : a1 = [] ∧ a2 = [] ∧ sa = [] ∧ ae = 1 := by
        unfold addR at hAA
        rw [if_neg (by rw [hnr, hnn]; simp)] at hAA
        simp only [Prod.mk.injEq] at hAA
        obtain ⟨⟨rfl, rfl⟩, rfl, rfl⟩ := hAA; exact ⟨rfl, rfl, rfl, rfl⟩
      obtain ⟨rfl, rfl, rfl, rfl⟩ := hAA'
      cases hr2 : rightB t (l ++ [r])
      · refine Ow.go rfl ?_
        simp (disch := (first | assumption | omega | (simp only [lenS, lenT, UInt64.reduceToNat]; try omega))) only [↓Sx.S0, Sx.S1, Tryd.fx, uWZ7_1, Nat.reduceAdd, Nat.reducePow, Int.reducePow, Nat.reduceBEq, ↓reduceIte, UInt8.reduceToNat, UInt16.reduceToNat, UInt32.reduceToNat, UInt64.reduceToNat, Int.reduceToNat]
        ((try with_reducible refine Cw.go [] ?_); (try simp (disch := (first | assumption | omega | (simp only [lenS, lenT, UInt64.reduceToNat]; try omega))) only [↓Sx.S0, Sx.S1, Tryd.fx, uWZ7_1, Nat.reduceAdd, Nat.reducePow, Int.reducePow, Nat.reduceBEq, ↓reduceIte, UInt8.reduceToNat, UInt16.reduceToNat, UInt32.reduceToNat, UInt64.reduceToNat, Int.reduceToNat]))
        refine Ow.callFV rfl Tryd.call34 (fun w' hw' => refNameV_spec nm w' hnm) ?_
        rw [hnn]
        refine Ow.go rfl ?_
        simp (disch := (first | assumption | omega | (simp only [lenS, lenT, UInt64.reduceToNat]; try omega))) only [↓Sx.S0, Sx.S1, Tryd.fx, uWZ7_1, Nat.reduceAdd, Nat.reducePow, Int.reducePow, Nat.reduceBEq, ↓reduceIte, UInt8.reduceToNat, UInt16.reduceToNat, UInt32.reduceToNat, UInt64.reduceToNat, Int.reduceToNat, e1, e18]
        ((try with_reducible refine Cw.go [] ?_); (try simp (disch := (first | assumption | omega | (simp only [lenS, lenT, UInt64.reduceToNat]; try omega))) only [↓Sx.S0, Sx.S1, Tryd.fx, uWZ7_1, Nat.reduceAdd, Nat.reducePow, Int.reducePow, Nat.reduceBEq, ↓reduceIte, UInt8.reduceToNat, UInt16.reduceToNat, UInt32.reduceToNat, UInt64.reduceToNat, Int.reduceToNat, e1, e18]))
        refine Ow.callFV rfl Tryd.call8 (fun w' hw' => alive16_spec w' (GlobC.of hG hw' (hNE.not hglt))) ?_
        refine Ow.go rfl ?_
        simp (disch := (first | assumption | omega | (simp only [lenS, lenT, UInt64.reduceToNat]; try omega))) only [↓Sx.S0, Sx.S1, Tryd.fx, uWZ7_1, Nat.reduceAdd, Nat.reducePow, Int.reducePow, Nat.reduceBEq, ↓reduceIte, UInt8.reduceToNat, UInt16.reduceToNat, UInt32.reduceToNat, UInt64.reduceToNat, Int.reduceToNat, load_bk, e11, e88]
        refine Ow.callFV rfl Tryd.call11 (fun w' hw' => Same_spec x1 x2 _ _ [] [] [] [] w' (GrI.slV (hg1.mono (fun p hp => by simp [hp])) hw' rfl rfl refC_len) (GrI.slV (hg2.mono (fun p hp => by simp [hp])) hw' rfl rfl refC_len) (hnil w') (hnil w') (by simp) (by simp) (by simp) (by simp)) ?_
        rw [hre, show (true && true) = true from rfl]
        refine Ow.go rfl ?_
        simp (disch := (first | assumption | omega | (simp only [lenS, lenT, UInt64.reduceToNat]; try omega))) only [↓Sx.S0, Sx.S1, Tryd.fx, uWZ7_1, Nat.reduceAdd, Nat.reducePow, Int.reducePow, Nat.reduceBEq, ↓reduceIte, UInt8.reduceToNat, UInt16.reduceToNat, UInt32.reduceToNat, UInt64.reduceToNat, Int.reduceToNat]
        ((try with_reducible refine Cw.go [] ?_); (try simp (disch := (first | assumption | omega | (simp only [lenS, lenT, UInt64.reduceToNat]; try omega))) only [↓Sx.S0, Sx.S1, Tryd.fx, uWZ7_1, Nat.reduceAdd, Nat.reducePow, Int.reducePow, Nat.reduceBEq, ↓reduceIte, UInt8.reduceToNat, UInt16.reduceToNat, UInt32.reduceToNat, UInt64.reduceToNat, Int.reduceToNat]))
        refine ⟨_, (by simp (disch := (first | assumption | omega | (simp only [lenS, lenT, UInt64.reduceToNat]; try omega))) only [↓Sx.S0, Sx.S1, Tryd.fx, uWZ7_1, Nat.reduceAdd, Nat.reducePow, Int.reducePow, Nat.reduceBEq, ↓reduceIte, UInt8.reduceToNat, UInt16.reduceToNat, UInt32.reduceToNat, UInt64.reduceToNat, Int.reduceToNat]; rfl), hNE, ?_⟩
        rfl
      · refine Ow.go rfl ?_
        simp (disch := (first | assumption | omega | (simp only [lenS, lenT, UInt64.reduceToNat]; try omega))) only [↓Sx.S0, Sx.S1, Tryd.fx, uWZ7_1, Nat.reduceAdd, Nat.reducePow, Int.reducePow, Nat.reduceBEq, ↓reduceIte, UInt8.reduceToNat, UInt16.reduceToNat, UInt32.reduceToNat, UInt64.reduceToNat, Int.reduceToNat]
        ((try with_reducible refine Cw.go [] ?_); (try simp (disch := (first | assumption | omega | (simp only [lenS, lenT, UInt64.reduceToNat]; try omega))) only [↓Sx.S0, Sx.S1, Tryd.fx, uWZ7_1, Nat.reduceAdd, Nat.reducePow, Int.reducePow, Nat.reduceBEq, ↓reduceIte, UInt8.reduceToNat, UInt16.reduceToNat, UInt32.reduceToNat, UInt64.reduceToNat, Int.reduceToNat]))
        refine Ow.callFV rfl Tryd.call34 (fun w' hw' => refNameV_spec nm w' hnm) ?_
        rw [hnn]
        refine Ow.go rfl ?_
        simp (disch := (first | assumption | omega | (simp only [lenS, lenT, UInt64.reduceToNat]; try omega))) only [↓Sx.S0, Sx.S1, Tryd.fx, uWZ7_1, Nat.reduceAdd, Nat.reducePow, Int.reducePow, Nat.reduceBEq, ↓reduceIte, UInt8.reduceToNat, UInt16.reduceToNat, UInt32.reduceToNat, UInt64.reduceToNat, Int.reduceToNat, e1, e18]
        ((try with_reducible refine Cw.go [] ?_); (try simp (disch := (first | assumption | omega | (simp only [lenS, lenT, UInt64.reduceToNat]; try omega))) only [↓Sx.S0, Sx.S1, Tryd.fx, uWZ7_1, Nat.reduceAdd, Nat.reducePow, Int.reducePow, Nat.reduceBEq, ↓reduceIte, UInt8.reduceToNat, UInt16.reduceToNat, UInt32.reduceToNat, UInt64.reduceToNat, Int.reduceToNat, e1, e18]))
        refine Ow.callFV rfl Tryd.call8 (fun w' hw' => alive16_spec w' (GlobC.of hG hw' (hNE.not hglt))) ?_
        refine Ow.go rfl ?_
        simp (disch := (first | assumption | omega | (simp only [lenS, lenT, UInt64.reduceToNat]; try omega))) only [↓Sx.S0, Sx.S1, Tryd.fx, uWZ7_1, Nat.reduceAdd, Nat.reducePow, Int.reducePow, Nat.reduceBEq, ↓reduceIte, UInt8.reduceToNat, UInt16.reduceToNat, UInt32.reduceToNat, UInt64.reduceToNat, Int.reduceToNat, load_bk, e11, e88]
        refine Ow.callFV rfl Tryd.call11 (fun w' hw' => Same_spec x1 x2 _ _ [] [] [] [] w' (GrI.slV (hg1.mono (fun p hp => by simp [hp])) hw' rfl rfl refC_len) (GrI.slV (hg2.mono (fun p hp => by simp [hp])) hw' rfl rfl refC_len) (hnil w') (hnil w') (by simp) (by simp) (by simp) (by simp)) ?_
        rw [hre, show (true && true) = true from rfl]
        refine Ow.go rfl ?_
        simp (disch := (first | assumption | omega | (simp only [lenS, lenT, UInt64.reduceToNat]; try omega))) only [↓Sx.S0, Sx.S1, Tryd.fx, uWZ7_1, Nat.reduceAdd, Nat.reducePow, Int.reducePow, Nat.reduceBEq, ↓reduceIte, UInt8.reduceToNat, UInt16.reduceToNat, UInt32.reduceToNat, UInt64.reduceToNat, Int.reduceToNat]
        ((try with_reducible refine Cw.go [] ?_); (try simp (disch := (first | assumption | omega | (simp only [lenS, lenT, UInt64.reduceToNat]; try omega))) only [↓Sx.S0, Sx.S1, Tryd.fx, uWZ7_1, Nat.reduceAdd, Nat.reducePow, Int.reducePow, Nat.reduceBEq, ↓reduceIte, UInt8.reduceToNat, UInt16.reduceToNat, UInt32.reduceToNat, UInt64.reduceToNat, Int.reduceToNat]))
        refine ⟨_, (by simp (disch := (first | assumption | omega | (simp only [lenS, lenT, UInt64.reduceToNat]; try omega))) only [↓Sx.S0, Sx.S1, Tryd.fx, uWZ7_1, Nat.reduceAdd, Nat.reducePow, Int.reducePow, Nat.reduceBEq, ↓reduceIte, UInt8.reduceToNat, UInt16.reduceToNat, UInt32.reduceToNat, UInt64.reduceToNat, Int.reduceToNat]; rfl), hNE, ?_⟩
        rfl
    · cases hr2 : rightB t (l ++ [r])
      · have hAA' : a1 = [] ∧ a2 = [] ∧ sa = [] ∧ ae = 18 := by
          unfold addR at hAA
          rw [if_pos ⟨hr, by rw [hnr]; exact hnn⟩, if_neg (by rw [hr2]; simp)] at hAA
          simp only [Prod.mk.injEq] at hAA
          obtain ⟨⟨rfl, rfl⟩, rfl, rfl⟩ := hAA; exact ⟨rfl, rfl, rfl, rfl⟩
        obtain ⟨rfl, rfl, rfl, rfl⟩ := hAA'
        refine Ow.go rfl ?_
        simp (disch := (first | assumption | omega | (simp only [lenS, lenT, UInt64.reduceToNat]; try omega))) only [↓Sx.S0, Sx.S1, Tryd.fx, uWZ7_1, Nat.reduceAdd, Nat.reducePow, Int.reducePow, Nat.reduceBEq, ↓reduceIte, UInt8.reduceToNat, UInt16.reduceToNat, UInt32.reduceToNat, UInt64.reduceToNat, Int.reduceToNat]
        ((try with_reducible refine Cw.go [] ?_); (try simp (disch := (first | assumption | omega | (simp only [lenS, lenT, UInt64.reduceToNat]; try omega))) only [↓Sx.S0, Sx.S1, Tryd.fx, uWZ7_1, Nat.reduceAdd, Nat.reducePow, Int.reducePow, Nat.reduceBEq, ↓reduceIte, UInt8.reduceToNat, UInt16.reduceToNat, UInt32.reduceToNat, UInt64.reduceToNat, Int.reduceToNat]))
        refine Ow.callFV rfl Tryd.call34 (fun w' hw' => refNameV_spec nm w' hnm) ?_
        rw [hnn]
        refine Ow.go rfl ?_
        simp (disch := (first | assumption | omega | (simp only [lenS, lenT, UInt64.reduceToNat]; try omega))) only [↓Sx.S0, Sx.S1, Tryd.fx, uWZ7_1, Nat.reduceAdd, Nat.reducePow, Int.reducePow, Nat.reduceBEq, ↓reduceIte, UInt8.reduceToNat, UInt16.reduceToNat, UInt32.reduceToNat, UInt64.reduceToNat, Int.reduceToNat, e1, e18]
        ((try with_reducible refine Cw.go [] ?_); (try simp (disch := (first | assumption | omega | (simp only [lenS, lenT, UInt64.reduceToNat]; try omega))) only [↓Sx.S0, Sx.S1, Tryd.fx, uWZ7_1, Nat.reduceAdd, Nat.reducePow, Int.reducePow, Nat.reduceBEq, ↓reduceIte, UInt8.reduceToNat, UInt16.reduceToNat, UInt32.reduceToNat, UInt64.reduceToNat, Int.reduceToNat, e1, e18]))
        refine Ow.callFV rfl Tryd.call8 (fun w' hw' => alive16_spec w' (GlobC.of hG hw' (hNE.not hglt))) ?_
        refine Ow.go rfl ?_
        simp (disch := (first | assumption | omega | (simp only [lenS, lenT, UInt64.reduceToNat]; try omega))) only [↓Sx.S0, Sx.S1, Tryd.fx, uWZ7_1, Nat.reduceAdd, Nat.reducePow, Int.reducePow, Nat.reduceBEq, ↓reduceIte, UInt8.reduceToNat, UInt16.reduceToNat, UInt32.reduceToNat, UInt64.reduceToNat, Int.reduceToNat, load_bk, e11, e88]
        refine Ow.callFV rfl Tryd.call11 (fun w' hw' => Same_spec x1 x2 _ _ [] [] [] [] w' (GrI.slV (hg1.mono (fun p hp => by simp [hp])) hw' rfl rfl refC_len) (GrI.slV (hg2.mono (fun p hp => by simp [hp])) hw' rfl rfl refC_len) (hnil w') (hnil w') (by simp) (by simp) (by simp) (by simp)) ?_
        rw [hre, show (true && true) = true from rfl]
        refine Ow.go rfl ?_
        simp (disch := (first | assumption | omega | (simp only [lenS, lenT, UInt64.reduceToNat]; try omega))) only [↓Sx.S0, Sx.S1, Tryd.fx, uWZ7_1, Nat.reduceAdd, Nat.reducePow, Int.reducePow, Nat.reduceBEq, ↓reduceIte, UInt8.reduceToNat, UInt16.reduceToNat, UInt32.reduceToNat, UInt64.reduceToNat, Int.reduceToNat]
        ((try with_reducible refine Cw.go [] ?_); (try simp (disch := (first | assumption | omega | (simp only [lenS, lenT, UInt64.reduceToNat]; try omega))) only [↓Sx.S0, Sx.S1, Tryd.fx, uWZ7_1, Nat.reduceAdd, Nat.reducePow, Int.reducePow, Nat.reduceBEq, ↓reduceIte, UInt8.reduceToNat, UInt16.reduceToNat, UInt32.reduceToNat, UInt64.reduceToNat, Int.reduceToNat]))
        refine ⟨_, (by simp (disch := (first | assumption | omega | (simp only [lenS, lenT, UInt64.reduceToNat]; try omega))) only [↓Sx.S0, Sx.S1, Tryd.fx, uWZ7_1, Nat.reduceAdd, Nat.reducePow, Int.reducePow, Nat.reduceBEq, ↓reduceIte, UInt8.reduceToNat, UInt16.reduceToNat, UInt32.reduceToNat, UInt64.reduceToNat, Int.reduceToNat]; rfl), hNE, ?_⟩
        rfl
      · have hAA' : a1 = t ∧ a2 = l ++ [r] ∧ sa = recordV (entryB r) ∧ ae = 0 := by
          unfold addR at hAA
          rw [if_pos ⟨hr, by rw [hnr]; exact hnn⟩, if_pos hr2] at hAA
          simp only [Prod.mk.injEq] at hAA
          obtain ⟨⟨rfl, rfl⟩, rfl, rfl⟩ := hAA; exact ⟨rfl, rfl, rfl, rfl⟩
        obtain ⟨rfl, rfl, rfl, rfl⟩ := hAA'
        refine Ow.go rfl ?_
        simp (disch := (first | assumption | omega | (simp only [lenS, lenT, UInt64.reduceToNat]; try omega))) only [↓Sx.S0, Sx.S1, Tryd.fx, uWZ7_1, Nat.reduceAdd, Nat.reducePow, Int.reducePow, Nat.reduceBEq, ↓reduceIte, UInt8.reduceToNat, UInt16.reduceToNat, UInt32.reduceToNat, UInt64.reduceToNat, Int.reduceToNat]
        ((try with_reducible refine Cw.go [] ?_); (try simp (disch := (first | assumption | omega | (simp only [lenS, lenT, UInt64.reduceToNat]; try omega))) only [↓Sx.S0, Sx.S1, Tryd.fx, uWZ7_1, Nat.reduceAdd, Nat.reducePow, Int.reducePow, Nat.reduceBEq, ↓reduceIte, UInt8.reduceToNat, UInt16.reduceToNat, UInt32.reduceToNat, UInt64.reduceToNat, Int.reduceToNat]))
        refine Ow.callFV rfl Tryd.call34 (fun w' hw' => refNameV_spec nm w' hnm) ?_
        rw [hnn]
        refine Ow.go rfl ?_
        simp (disch := (first | assumption | omega | (simp only [lenS, lenT, UInt64.reduceToNat]; try omega))) only [↓Sx.S0, Sx.S1, Tryd.fx, uWZ7_1, Nat.reduceAdd, Nat.reducePow, Int.reducePow, Nat.reduceBEq, ↓reduceIte, UInt8.reduceToNat, UInt16.reduceToNat, UInt32.reduceToNat, UInt64.reduceToNat, Int.reduceToNat, e0]
        ((try with_reducible refine Cw.go [] ?_); (try simp (disch := (first | assumption | omega | (simp only [lenS, lenT, UInt64.reduceToNat]; try omega))) only [↓Sx.S0, Sx.S1, Tryd.fx, uWZ7_1, Nat.reduceAdd, Nat.reducePow, Int.reducePow, Nat.reduceBEq, ↓reduceIte, UInt8.reduceToNat, UInt16.reduceToNat, UInt32.reduceToNat, UInt64.reduceToNat, Int.reduceToNat, e0]))
        refine Ow.callFV rfl Tryd.call8 (fun w' hw' => alive16_spec w' (GlobC.of hG hw' (hNE.not hglt))) ?_
        refine Ow.go rfl ?_
        simp (disch := (first | assumption | omega | (simp only [lenS, lenT, UInt64.reduceToNat]; try omega))) only [↓Sx.S0, Sx.S1, Tryd.fx, uWZ7_1, Nat.reduceAdd, Nat.reducePow, Int.reducePow, Nat.reduceBEq, ↓reduceIte, UInt8.reduceToNat, UInt16.reduceToNat, UInt32.reduceToNat, UInt64.reduceToNat, Int.reduceToNat, load_bk]
        refine Ow.callFV rfl Tryd.call11 (fun w' hw' => Same_spec x1 x2 vt v6 _ _ _ (l ++ [r]) w' (GrI.slV (hg1.mono (fun p hp => by simp [hp])) hw' rfl rfl refC_len) (GrI.slV (hg2.mono (fun p hp => by simp [hp])) hw' rfl rfl refC_len) (ht.oldN hw' hNE) (GrI.slV (hg6.mono (fun p hp => by simp [hp])) hw' rfl rfl refC_len) (by omega) (by omega) (by omega) (by omega)) ?_
        rw [hre, hre, show (true && true) = true from rfl]
        refine Ow.go rfl ?_
        simp (disch := (first | assumption | omega | (simp only [lenS, lenT, UInt64.reduceToNat]; try omega))) only [↓Sx.S0, Sx.S1, Tryd.fx, uWZ7_1, Nat.reduceAdd, Nat.reducePow, Int.reducePow, Nat.reduceBEq, ↓reduceIte, UInt8.reduceToNat, UInt16.reduceToNat, UInt32.reduceToNat, UInt64.reduceToNat, Int.reduceToNat, hli]
        refine Ow.build _ rfl (build_ref nm id) ?_
        rw [hR]
        refine Ow.go rfl ?_
        simp (disch := (first | assumption | omega | (simp only [lenS, lenT, UInt64.reduceToNat]; try omega))) only [↓Sx.S0, Sx.S1, Tryd.fx, uWZ7_1, Nat.reduceAdd, Nat.reducePow, Int.reducePow, Nat.reduceBEq, ↓reduceIte, UInt8.reduceToNat, UInt16.reduceToNat, UInt32.reduceToNat, UInt64.reduceToNat, Int.reduceToNat]
        refine Ow.callFV rfl Tryd.call35 (fun w' hw' => refEntry_spec r w' (by rw [hnr]; omega)) ?_
        refine Ow.go rfl ?_
        simp (disch := (first | assumption | omega | (simp only [lenS, lenT, UInt64.reduceToNat]; try omega))) only [↓Sx.S0, Sx.S1, Tryd.fx, uWZ7_1, Nat.reduceAdd, Nat.reducePow, Int.reducePow, Nat.reduceBEq, ↓reduceIte, UInt8.reduceToNat, UInt16.reduceToNat, UInt32.reduceToNat, UInt64.reduceToNat, Int.reduceToNat]
        ((try with_reducible refine Cw.go [] ?_); (try simp (disch := (first | assumption | omega | (simp only [lenS, lenT, UInt64.reduceToNat]; try omega))) only [↓Sx.S0, Sx.S1, Tryd.fx, uWZ7_1, Nat.reduceAdd, Nat.reducePow, Int.reducePow, Nat.reduceBEq, ↓reduceIte, UInt8.reduceToNat, UInt16.reduceToNat, UInt32.reduceToNat, UInt64.reduceToNat, Int.reduceToNat]))
        refine ⟨_, (by simp (disch := (first | assumption | omega | (simp only [lenS, lenT, UInt64.reduceToNat]; try omega))) only [↓Sx.S0, Sx.S1, Tryd.fx, uWZ7_1, Nat.reduceAdd, Nat.reducePow, Int.reducePow, Nat.reduceBEq, ↓reduceIte, UInt8.reduceToNat, UInt16.reduceToNat, UInt32.reduceToNat, UInt64.reduceToNat, Int.reduceToNat]; rfl), hNE, ?_⟩
        rfl
end Go.Proofs
end
namespace Go.Sx
open Go Go.ChangeShapes Go.WideShapes Go.RowKit

theorem Hp.same0 {W W' : World} (h : Hp W [] W') {b : Nat} (hb : b < W.heap.size) : W'.heap[b]? = W.heap[b]? := h.old b hb (fun hm => by cases hm)
theorem Hp.kept {W W' : World} (h : Hp W [] W') (may : MemPlace → Prop) : W.keptBut W' may := by
  refine ⟨h.os, h.output, fun i hi => ?_⟩
  rw [h.same0 hi]
  cases ho : W.heap[i]? with
  | none => rfl
  | some o =>
    cases o <;> first
      | exact ⟨rfl, rfl, rfl, fun _ _ => rfl⟩
      | exact .inr ⟨rfl, rfl⟩
      | rfl
theorem Hp.sameAt {W W' : World} (h : Hp W [] W') {p : MemPlace} (hp : p.block < W.heap.size) : W.sameAt W' p := by
  cases p with
  | cell b off =>
    have := h.same0 (b := b) hp
    simp only [World.sameAt, World.cell?, this]
  | map b => exact h.same0 hp
theorem Hp.frozen {W W' : World} (h : Hp W [] W') {a : Addr} (ha : a.block < W.heap.size) : W'.frozen? a = W.frozen? a := by
  simp only [World.frozen?, h.same0 ha]

section
variable {H : Type} {enc : TypeId × Value → H} {P : Program}
theorem trodAll_stays (hl : laidOutB P = true) {W W' : World} {sp : Nat → Bool} (hp : Hp W [] W') : ∀ {ts : List TypeId} {vs : List Value} {ds : List (DataW H)} {ps : List MemPlace},
    (∀ t ∈ ts, P.readableRec t = true ∧ t < P.types.size) → (∀ p ∈ ps, p.block < W.heap.size) → (∀ p ∈ ps, sp p.block = true) →
    DataW.TrodAll enc P W 0 (fun _ => true) true ts vs ds ps → DataW.TrodAll enc P W' 0 sp true ts vs ds ps
  | [], _, _, _, _, _, _, h => by
    obtain ⟨rfl, rfl, rfl⟩ := trodAll_nil h
    exact trodAll_mk0
  | t :: ts, _, _, _, ht, hlt, hs, h => by
    obtain ⟨v, vs, d, ds, p, q, rfl, rfl, rfl, h1, h2⟩ := trodAll_cons h
    have hlt1 : ∀ x ∈ p, x.block < W.heap.size := fun x hx => hlt x (List.mem_append_left _ hx)
    exact trodAll_cons_mk (WideElems.Trod_stays hl (ht t List.mem_cons_self).1 (ht t List.mem_cons_self).2 h1 (fun x hx => hp.sameAt (hlt1 x hx)) (fun x hx => hs x (List.mem_append_left _ hx)))
      (trodAll_stays hl hp (fun u hu => ht u (List.mem_cons_of_mem _ hu)) (fun x hx => hlt x (List.mem_append_right _ hx)) (fun x hx => hs x (List.mem_append_right _ hx)) h2)

/-- WHAT THE ROW OF A LAW ASKS, from 'it answers true and turns nothing that was there'. -/
theorem post_true {f : Func} {s : ChangeSpec} {W W' : World} {args : Array Value} {ds gs : List (DataW H)} {before : List MemPlace} {tb : TypeId} (hl : laidOutB P = true)
    (hW : DataW.Whole enc P f.params.toList s.vars false W args.toList ds gs before) (hv : s.vars = []) (hpar : ∀ t ∈ f.params.toList, P.readableRec t = true ∧ t < P.types.size)
    (hr : f.resultTypes = #[tb]) (htb : P.underlying tb = some .bool) (hfn : s.fn H ds = { results := [.lit (.bool true)], args := ds }) (hp : Hp W [] W') :
    s.post enc P f false true false false W args (.bool true) W' := by
  have hlt := hW.lt
  have hW0 := hW
  obtain ⟨p, q, hA, hV, rfl, hz, hn⟩ := hW
  rw [hv] at hV
  obtain ⟨rfl, rfl⟩ := trodVars_none hV
  rw [List.append_nil] at hW0 hlt hz
  have hargs : ∀ sp : Nat → Bool, (∀ x ∈ p, sp x.block = true) → DataW.TrodAll enc P W' 0 sp true f.params.toList args.toList (s.fn H (ds ++ [])).args p := fun sp hs => by
    rw [List.append_nil, hfn]
    exact trodAll_stays hl hp hpar hlt hs hA
  have hvars : ∀ sp : Nat → Bool, DataW.TrodVars enc P W' sp s.vars (s.fn H (ds ++ [])).vars [] := fun sp => by
    rw [List.append_nil, hfn, hv]; rfl
  have hres : ∀ (b : Nat) (sp : Nat → Bool) (hd : Bool), DataW.TrodAll enc P W' b sp hd f.resultTypes.toList ((Value.bool true).resultList f.resultTypes.size) (s.fn H (ds ++ [])).results [] := fun b sp hd => by
    rw [List.append_nil, hfn, hr]
    exact trodAll_cons_mk (shut_bool htb true) trodAll_mk0
  have hold : ∀ x ∈ p, (fun b => decide (b < W.heap.size)) x.block = true := fun x hx => by simpa using hlt x hx
  refine ⟨ds, [], p, [], p, [], hW0, hres _ _ _, hargs _ hold, hvars _, hp.kept _, fun _ => ?_⟩
  refine ⟨ok_one hr rfl (okWide_bool_mk htb true), _, _, ([] ++ p) ++ [], ⟨[] ++ p, [], trodAll_append (hargs _ (fun _ _ => rfl)) (hres _ _ _), hvars _, rfl, ?_, fun h => by cases h⟩, ?_⟩
  · intro b off hx
    have hx' : MemPlace.cell b off ∈ p := by simpa using hx
    rw [hp.frozen (hlt _ hx')]
    exact hz b off hx'
  · intro x hx _
    simpa using hx
end
section
variable {P : Program} {W : World} {name : String} {k : IntKind} {zs : List Int}
theorem tab_of_vars {t e : TypeId} {g n : Nat} (hg : P.globalNamed name = some g) (hty : (P.globals[g]?).map (·.type) = some t) (ht : P.underlying t = some (.array n e)) (he : P.underlying e = some (.int k)) (hce : P.cellsOf e = 1) (hct : P.cellsOf t = n) :
    ∀ {laid : List (String × DataW Unit)} {ps : List MemPlace}, DataW.LaidVars P W laid ps → (name, Lib.tabData k zs) ∈ laid → Lib.TabIs P W name k zs
  | [], _, _, hm => by cases hm
  | (n', d') :: rest, ps, h, hm => by
    obtain ⟨g', t', cs, fuel, p, q, hg', ht', hvar, hd, hr, -⟩ := h
    rcases List.mem_cons.1 hm with hm | hm
    · cases hm
      obtain rfl := Option.some.inj (hg.symm.trans hg')
      obtain rfl := Option.some.inj (hty.symm.trans ht')
      unfold Lib.TabIs
      rw [hvar, ← Lib.cells_of_tab ht he hce hct hd]
    · exact tab_of_vars hg hty ht he hce hct hr hm
theorem heap_of_tab {g : Nat} (hg : P.globalNamed name = some g) (h : Lib.TabIs P W name k zs) : ∃ e f, W.heap[g]? = some (.cells (zs.map fun z => Value.int k z).toArray e f) := by
  unfold Lib.TabIs at h
  simp only [World.var?, hg, Option.bind_some] at h
  split at h
  · rename_i cs e f hb
    cases h
    exact ⟨e, f, hb⟩
  · cases h
end
section
variable {H : Type} {enc : TypeId × Value → H} {P : Program}
end
end Go.Sx
namespace Go.Sx
open Go
section
variable {P : Program}
theorem rowAt_le {fits : TypeId → Bool} {d : Nat} {e : TypeId} {count off n : Nat} (h : rowAt P fits d e count off n = true) : off ≤ count * P.cellsOf e := by
  cases d with
  | zero => simp [rowAt] at h
  | succ d =>
    unfold rowAt at h
    simp only at h
    split at h
    · cases h
    · rename_i hs
      have hs' : 0 < P.cellsOf e := Nat.pos_of_ne_zero hs
      have hd := Nat.div_add_mod off (P.cellsOf e)
      have hm := Nat.mod_lt off hs'
      rw [Bool.or_eq_true] at h
      rcases h with h | h
      · simp only [Bool.and_eq_true, beq_iff_eq, decide_eq_true_eq] at h
        have : off / P.cellsOf e * P.cellsOf e ≤ count * P.cellsOf e := Nat.mul_le_mul_right _ (by omega)
        rw [Nat.mul_comm (P.cellsOf e)] at hd
        omega
      · simp only [Bool.and_eq_true, decide_eq_true_eq] at h
        have : (off / P.cellsOf e + 1) * P.cellsOf e ≤ count * P.cellsOf e := Nat.mul_le_mul_right _ (by omega)
        rw [Nat.add_mul, Nat.one_mul] at this
        rw [Nat.mul_comm (P.cellsOf e)] at hd
        omega
theorem liesAt_le {e : TypeId} {count off : Nat} : ∀ {d : Nat} {u : TypeId} {n : Nat}, liesAt P d e count off u n = true → off ≤ count * P.cellsOf e
  | 0, u, n, h => by simp [liesAt] at h
  | d + 1, u, n, h => by
    unfold liesAt at h
    rw [Bool.or_eq_true] at h
    rcases h with h | h
    · exact rowAt_le h
    · split at h
      · exact liesAt_le h
      · cases h
theorem has_le {W : World} {r : Reach} {base : Nat} {a : Addr} {e : TypeId} {n : Nat} (h : W.has P r base a e n) : a.spot = none ∧ ∃ arr E fz, W.heap[a.block]? = some (.cells arr E fz) ∧ a.off ≤ arr.size := by
  obtain ⟨-, hs, row, cells, hsh, hl⟩ := h
  refine ⟨hs, ?_⟩
  unfold World.shape? at hsh
  split at hsh
  · rename_i c el fz hh
    cases hsh
    refine ⟨c, _, fz, hh, Nat.le_trans (liesAt_le hl) ?_⟩
    exact Nat.div_mul_le_self _ _
  · cases hsh
theorem okWide_sl {W : World} {r : Reach} {base : Nat} {t e : TypeId} {v : Value} (ht : P.underlying t = some (.slice e)) (h : Value.okWide P W r base t v) :
    v = .slice none 0 0 ∨ ∃ b off len cap arr E fz, v = vsl b off len cap ∧ len ≤ cap ∧ W.heap[b]? = some (.cells arr E fz) ∧ off ≤ arr.size := by
  obtain ⟨a, len, cap, rfl⟩ := Go.WideShapes.okWide_slice ht h
  unfold Value.okWide at h
  rw [ht] at h
  unfold Cell.okWide at h
  rw [ht] at h
  simp only at h
  unfold Cell.ok at h
  rw [ht] at h
  cases a with
  | none =>
    left
    simp only at h
    split at h
    all_goals first | (cases h; done) | simp_all
  | some a =>
    right
    simp only at h
    obtain ⟨hle, -, hh⟩ := h
    obtain ⟨hs, arr, E, fz, hb, ho⟩ := has_le hh
    obtain ⟨b, off, sp⟩ := a
    simp only at hs
    subst hs
    exact ⟨b, off, len, cap, arr, E, fz, rfl, hle, hb, ho⟩
theorem slV_of {α : Type} {enc : α → List Value} {z : α} {m : Nat} {W : World} {base b off c : Nat} {l : List α} {arr : Array Value} {E : TypeId} {fz : Nat × Nat} (hm0 : 0 < m) (hm : ∀ x, (enc x).length = m)
    (hcells : ∀ i, i < l.length → W.cells? base ((Addr.mk b off none).add (i * m)) m = some (enc (l.getD i z))) (hheap : W.heap[b]? = some (.cells arr E fz)) (hoff : off ≤ arr.size) (hc : l.length ≤ c) : SlV m enc z W (vsl b off l.length c) l := by
  have get : ∀ k, k < l.length → ∀ j, j < m → arr[off + k * m + j]? = (enc (l.getD k z))[j]? := by
    intro k hk j hj
    obtain ⟨-, hl, hg⟩ := World.cells?_some (hcells k hk)
    have := hg j (by omega)
    rw [add_spot, add_spot] at this
    simp only [World.cell?, hheap, Option.isSome_none, Bool.false_eq_true, if_false] at this
    exact this
  refine SlV.sl hheap get hc ?_
  by_cases h0 : l.length = 0
  · rw [h0]; omega
  · have h1 := get (l.length - 1) (by omega) (m - 1) (by omega)
    rw [List.getElem?_eq_getElem (by rw [hm]; omega)] at h1
    have h2 := (Array.getElem?_eq_some_iff.1 h1).1
    have h3 : (l.length - 1) * m + m = l.length * m := by
      rw [← Nat.succ_mul]; congr 1; omega
    omega
/-- An argument's row that is a slice of elements, each of which is told as one of some kind. -/
theorem open_slS {H : Type} {tell : TypeId × Value → H} {α : Type} {enc : α → List Value} {z : α} {m : Nat} {W : World} {r : Reach} {base b0 : Nat} {sp : Nat → Bool} {held : Bool} {fuel : Nat} {t e : TypeId} {v : Value} {x : DataW H × List MemPlace}
    (ht : P.underlying t = some (.slice e)) (he : P.cellsOf e = m) (hm0 : 0 < m) (hm : ∀ x, (enc x).length = m) (hval : Value.okWide P W r b0 t v)
    (hdec : ∀ n cs y, DataW.trod tell P W base sp held n e cs = some y → ∃ a, cs = enc a) (hd : DataW.trod tell P W base sp held fuel t [v] = some x) : ∃ l, SlV m enc z W v l := by
  rcases DataW.trod_slice ht hd with ⟨hcs, -⟩ | ⟨a, len, cap, elems, rest, n, -, hcs, -, -, hl, -, hlen, hel, -, -⟩
  · simp only [List.cons.injEq, and_true] at hcs
    subst hcs
    exact ⟨[], SlV.nil W⟩
  · simp only [List.cons.injEq, and_true] at hcs
    subst hcs
    rcases okWide_sl ht hval with h0 | ⟨b, off, len', cap', arr, E, fz, h1, -, hb, ho⟩
    · cases h0
    · unfold vsl at h1
      cases h1
      rw [he] at hel
      have hex : ∀ i, i < len → ∃ q, W.cells? base ((Addr.mk b off none).add (i * m)) m = some (enc q) := by
        intro i hi
        have h2 := hel i hi
        rw [List.getElem?_eq_getElem (by omega)] at h2
        cases hc : W.cells? base ((Addr.mk b off none).add (i * m)) m with
        | none => rw [hc] at h2; cases h2
        | some cs =>
          rw [hc] at h2
          obtain ⟨q, rfl⟩ := hdec _ _ _ h2
          exact ⟨q, rfl⟩
      obtain ⟨f, hf⟩ : ∃ f : Nat → α, ∀ i, i < len → W.cells? base ((Addr.mk b off none).add (i * m)) m = some (enc (f i)) := by
        classical
        refine ⟨fun i => if h : i < len then Classical.choose (hex i h) else z, fun i hi => ?_⟩
        simp only [dif_pos hi]
        exact Classical.choose_spec (hex i hi)
      have hll : ((List.range len).map f).length = len := by simp
      refine ⟨(List.range len).map f, ?_⟩
      have := slV_of (W := W) (base := base) (b := b) (off := off) (c := cap) (l := (List.range len).map f) (z := z) hm0 hm (fun i hi => by
        rw [hll] at hi
        rw [hf i hi]
        congr 2
        rw [List.getD_eq_getElem?_getD, List.getElem?_map, List.getElem?_range hi]; rfl) hb ho (by rw [hll]; exact hl)
      rw [hll] at this
      exact this
end
end Go.Sx
section
open Go Go.Proofs Go.Sx Go.RefP
namespace Go.Proofs
set_option maxRecDepth 10000
set_option maxHeartbeats 4000000
/-! ### An argument that is a book -/
theorem ints_v8 {H : Type} {tell : TypeId × Value → H} {W : World} {base : Nat} {sp : Nat → Bool} {held : Bool} {n : Nat} {cs : List Value} {y : DataW H × List MemPlace}
    (h : DataW.trod tell Tryd.prog W base sp held n 40 cs = some y) : ∃ i : IdL, cs = i.l.map v8 := by
  obtain ⟨xs, m, -, -, hlen, hxl, hel⟩ := DataW.trod_array Tryd.underlying40 h
  have hc : (Tryd.prog).cellsOf 40 = 32 := by kernel_rfl
  have h1 : (Tryd.prog).cellsOf 5 = 1 := by kernel_rfl
  rw [hc] at hlen
  rw [h1] at hel
  have hex : ∀ i (hi : i < cs.length), ∃ x : UInt8, cs[i] = v8 x := by
    intro i hi
    have h2 := hel i (by omega)
    rw [List.getElem?_eq_getElem (by omega), Nat.mul_one, List.drop_eq_getElem_cons hi, List.take_succ_cons, List.take_zero] at h2
    obtain ⟨z, hz, -, hw⟩ := DataW.trod_int Tryd.underlying5 h2
    simp only [List.cons.injEq, and_true] at hz
    rw [hz]
    simp only [Lit.wf, Bool.and_eq_true, decide_eq_true_eq] at hw
    have hw1 : 0 ≤ z := by simpa [IntKind.min, IntKind.bits, IntKind.signed] using hw.1
    have hw2 : z ≤ 255 := by simpa [IntKind.max, IntKind.bits, IntKind.signed] using hw.2
    refine ⟨UInt8.ofNat z.toNat, ?_⟩
    unfold v8
    rw [UInt8.toNat_ofNat', Nat.mod_eq_of_lt (by omega)]
    congr 1; omega
  have hl : ∃ l : List UInt8, cs = l.map v8 := by
    clear hel hlen hxl h
    induction cs with
    | nil => exact ⟨[], rfl⟩
    | cons c r ih =>
      obtain ⟨x, hx⟩ := hex 0 (by simp)
      obtain ⟨l, hl⟩ := ih (fun i hi => by have := hex (i + 1) (by simpa using hi); simpa using this)
      exact ⟨x :: l, by rw [hl]; simp at hx; simp [hx]⟩
  obtain ⟨l, rfl⟩ := hl
  exact ⟨⟨l, by simpa using hlen⟩, rfl⟩
theorem dec_ref {H : Type} {tell : TypeId × Value → H} {W : World} {base : Nat} {sp : Nat → Bool} {held : Bool} (n : Nat) (cs : List Value) (y : DataW H × List MemPlace)
    (h : DataW.trod tell Tryd.prog W base sp held n 42 cs = some y) : ∃ a : RefL, cs = refC a := by
  obtain ⟨y0, y1, n', -, hlen, h0, h1⟩ := ChangeShapes.trod_struct2 Tryd.underlying42 h
  have hc : (Tryd.prog).cellsOf 42 = 33 := by kernel_rfl
  have hc1 : (Tryd.prog).cellsOf 9 = 1 := by kernel_rfl
  have hc2 : (Tryd.prog).cellsOf 40 = 32 := by kernel_rfl
  simp only at h0 h1
  rw [hc1, List.drop_zero] at h0
  rw [hc2] at h1
  rw [hc] at hlen
  obtain ⟨s, hs, -, -⟩ := DataW.trod_string Tryd.underlying9 h0
  obtain ⟨i, hi⟩ := ints_v8 h1
  refine ⟨⟨s.data.toList, i⟩, ?_⟩
  have hd : cs = cs.take 1 ++ (cs.drop 1).take 32 := by
    rw [show (cs.drop 1).take 32 = cs.drop 1 from List.take_of_length_le (by rw [List.length_drop]; omega), List.take_append_drop]
  rw [hd, hs, hi]
  rfl
/-- The book. -/
theorem open_book {H : Type} {tell : TypeId × Value → H} {W : World} {r : Reach} {base b0 : Nat} {sp : Nat → Bool} {held : Bool} {fuel : Nat} {v : Value} {x : DataW H × List MemPlace}
    (hval : Value.okWide Tryd.prog W r b0 25 v) (hd : DataW.trod tell Tryd.prog W base sp held fuel 25 v.cells.toList = some x) : ∃ vt vl t l, v = .agg #[vt, vl] ∧ RefSl W vt t ∧ RefSl W vl l := by
  have hc : (Tryd.prog).cellsOf 25 = 2 := by kernel_rfl
  have hcr : (Tryd.prog).cellsOf 23 = 1 := by kernel_rfl
  have hcR : (Tryd.prog).cellsOf 42 = 33 := by kernel_rfl
  have hct : (Tryd.prog).cellTypes (Tryd.prog).depth 25 = some [23, 23] := by kernel_rfl
  obtain ⟨y0, y1, n', -, hlen, h0, h1⟩ := ChangeShapes.trod_struct2 Tryd.underlying25 hd
  unfold Value.okWide at hval
  rw [Tryd.underlying25] at hval
  obtain ⟨cs, rfl, hs, ts, hts, -, hcell⟩ := hval
  rw [hct] at hts
  cases hts
  rw [hc] at hs
  obtain ⟨vt, vl, rfl⟩ : ∃ a b, cs = #[a, b] := by
    obtain ⟨l⟩ := cs
    match l, hs with
    | [a, b], _ => exact ⟨a, b, rfl⟩
  simp only at h0 h1
  rw [hcr, cells_agg] at h0 h1
  have k0 : Value.okWide Tryd.prog W r b0 23 vt := by
    obtain ⟨u, hu, ho⟩ := hcell 0 vt rfl
    obtain rfl : 23 = u := by simpa using hu
    unfold Value.okWide
    rw [Tryd.underlying23]
    exact ho
  have k1 : Value.okWide Tryd.prog W r b0 23 vl := by
    obtain ⟨u, hu, ho⟩ := hcell 1 vl rfl
    obtain rfl : 23 = u := by simpa using hu
    unfold Value.okWide
    rw [Tryd.underlying23]
    exact ho
  obtain ⟨t, ht⟩ := open_slS (z := ref0) Tryd.underlying23 hcR (by decide) refC_len k0 dec_ref h0
  obtain ⟨l, hl⟩ := open_slS (z := ref0) Tryd.underlying23 hcR (by decide) refC_len k1 dec_ref h1
  exact ⟨vt, vl, t, l, rfl, ht, hl⟩
/-- The id. -/
theorem open_id {H : Type} {tell : TypeId × Value → H} {W : World} {r : Reach} {base b0 : Nat} {sp : Nat → Bool} {held : Bool} {fuel : Nat} {v : Value} {x : DataW H × List MemPlace}
    (hval : Value.okWide Tryd.prog W r b0 40 v) (hd : DataW.trod tell Tryd.prog W base sp held fuel 40 v.cells.toList = some x) : ∃ i : IdL, v = .agg (a8 i.l) := by
  unfold Value.okWide at hval
  rw [Tryd.underlying40] at hval
  obtain ⟨cs, rfl, -⟩ := hval
  rw [cells_agg] at hd
  obtain ⟨i, hi⟩ := ints_v8 hd
  refine ⟨i, ?_⟩
  congr 1
  exact Array.toList_inj.1 (by rw [hi]; rfl)
end Go.Proofs
end
