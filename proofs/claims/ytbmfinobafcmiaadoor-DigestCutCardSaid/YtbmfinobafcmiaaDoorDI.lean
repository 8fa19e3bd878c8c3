import Derived.Test.YtbmfinobafcmiaaDoorDC
import Derived.Test.YtbmfinobafcmiaaDoorSxEnd
import Derived.Test.YtbmfinobafcmiaaDoorCards
import Derived.Test.YtbmfinobafcmiaaDoorTie
import Derived.Deep.DeepHandedRow
namespace Go.Proofs.YtbmfinobafcmiaaDoor.digestCut
open Go Go.Proofs Go.Sx Go.Dig
open Go.ChangeShapes Go.WideShapes Go.ChangeAt Go.RowKit Go.ChangeMaps
set_option maxRecDepth 100000
theorem own : ownKnob Tryd.prog.godebug = none := by kernel_rfl
theorem laidOut : laidOutB Tryd.prog = true := by kernel_rfl
def kZ : List Int := kL.map fun x => (x.toNat : Int)
def initZ : List Int := initL.map fun x => (x.toNat : Int)
theorem roundsEq {H : Type} : (Rows.laid_sediment_digest_rounds : DataW H) = Lib.tabData .u32 kZ := by rfl
theorem firstEq {H : Type} : (Rows.laid_sediment_digest_first : DataW H) = Lib.tabData .u32 initZ := by rfl
theorem cells37 : Tryd.prog.cellsOf 37 = 8 := by kernel_rfl
theorem cells53 : Tryd.prog.cellsOf 53 = 64 := by kernel_rfl
theorem cells36 : Tryd.prog.cellsOf 36 = 1 := by kernel_rfl
theorem glob {W : World} (h : laidMet Tryd.prog [("sediment/digest.rounds", Rows.laid_sediment_digest_rounds), ("sediment/digest.first", Rows.laid_sediment_digest_first)] W) : Glob W := by
  obtain ⟨ps, hv, -⟩ := h
  obtain ⟨e0, f0, h0⟩ := heap_of_tab (P := Tryd.prog) (g := 0) (by kernel_rfl) (tab_of_vars (P := Tryd.prog) (name := "sediment/digest.first") (k := .u32) (zs := initZ) (t := 37) (e := 36) (n := 8) (g := 0) (by kernel_rfl) (by kernel_rfl) Tryd.underlying37 Tryd.underlying36 cells36 cells37 hv (by rw [← firstEq]; exact .tail _ (.head _)))
  obtain ⟨e1, f1, h1⟩ := heap_of_tab (P := Tryd.prog) (g := 1) (by kernel_rfl) (tab_of_vars (P := Tryd.prog) (name := "sediment/digest.rounds") (k := .u32) (zs := kZ) (t := 53) (e := 36) (n := 64) (g := 1) (by kernel_rfl) (by kernel_rfl) Tryd.underlying53 Tryd.underlying36 cells36 cells53 hv (by rw [← roundsEq]; exact .head _))
  refine ⟨e0, e1, f0, f1, ?_, ?_⟩
  · rw [h0, initZ, List.map_map]; rfl
  · rw [h1, kZ, List.map_map]; rfl
/-- A whole number of sixteen bits. -/
theorem u16_of {n : Int} (h : (Lit.int .u16 n).wf = true) : ∃ x : UInt16, Value.int .u16 n = v16 x := by
  simp only [Lit.wf, Bool.and_eq_true, decide_eq_true_eq] at h
  have h1 : (0 : Int) ≤ n := h.1
  have h2 : n ≤ 65535 := h.2
  refine ⟨UInt16.ofNat n.toNat, ?_⟩
  unfold v16
  rw [UInt16.toNat_ofNat', Nat.mod_eq_of_lt (by omega), Int.toNat_of_nonneg h1]
theorem readable : ∀ t ∈ Tryd.f4.params.toList, Tryd.prog.readableRec t = true ∧ t < Tryd.prog.types.size := by
  intro t ht
  have hm : t = 9 ∨ t = 30 := by
    rw [Tryd.params4] at ht
    simpa using ht
  rcases hm with rfl | rfl
  · exact ⟨by kernel_rfl, of_decide_eq_true (by kernel_rfl)⟩
  · exact ⟨by kernel_rfl, of_decide_eq_true (by kernel_rfl)⟩
theorem resultTypes : Tryd.f4.resultTypes = #[4] := by kernel_rfl
/-- What the walk gives, for every argument and every world that holds the tables. -/
theorem contract (H : Type) (enc : TypeId × Value → H) (W : World) (base : Nat) (args : Array Value) (ds gs : List (DataW H)) (before : List MemPlace)
    (hval : ∀ (j : Nat) t v, Tryd.f4.params[j]? = some t → args[j]? = some v → Value.okWide Tryd.prog W .any base t v)
    (hW : DataW.Whole enc Tryd.prog Tryd.f4.params.toList Rows.digestCutSpec.vars false W args.toList ds gs before) (hL : laidMetH Tryd.prog Rows.digestCutRow.laid W) :
    Calls Tryd.prog 4 args W fun e W' => ∃ v, e = .returned v ∧ Rows.digestCutSpec.post enc Tryd.prog Tryd.f4 false true false false W args v W' := by
  have hW' := hW
  obtain ⟨p, q, hA0, hV, rfl, hfz, hnd⟩ := hW
  have hA : DataW.TrodAll enc Tryd.prog W 0 (fun _ => true) true Tryd.f4.params.toList args.toList ds p := hA0
  rw [Tryd.params4] at hA hval
  obtain ⟨v0, vs0, d0, ds0, p0, q0, hargs, rfl, rfl, h0, r0⟩ := trodAll_cons hA
  obtain ⟨v1, vs1, d1, ds1, p1, q1, rfl, rfl, rfl, h1, r1⟩ := trodAll_cons r0
  obtain ⟨v2, vs2, d2, ds2, p2, q2, rfl, rfl, rfl, h2, r2⟩ := trodAll_cons r1
  obtain ⟨rfl, rfl, rfl⟩ := trodAll_nil r2
  obtain rfl : args = #[v0, v1, v2] := by cases args; simp_all
  obtain ⟨s, rfl, rfl, rfl, hs⟩ := open_string Tryd.underlying9 (hval 0 9 v0 rfl rfl) h0
  obtain ⟨n1, rfl, rfl, rfl, hw1⟩ := open_int Tryd.underlying30 (hval 1 30 v1 rfl rfl) h1
  obtain ⟨n2, rfl, rfl, rfl, hw2⟩ := open_int Tryd.underlying30 (hval 2 30 v2 rfl rfl) h2
  obtain ⟨x1, e1⟩ := u16_of hw1
  obtain ⟨x2, e2⟩ := u16_of hw2
  have hG : Glob W := glob hL
  have hs' : Value.string s = vs s.data.toList := rfl
  have hsp := DigestCut_spec s.data.toList x1 x2 W hG
  rw [← e1, ← e2] at hsp
  refine Calls.mono hsp ?_
  rintro e W' ⟨v, D, rfl, hp, rfl, rfl⟩
  exact ⟨_, rfl, post_true laidOut hW' rfl readable resultTypes Tryd.underlying4 rfl hp⟩
/-- A block with other cells. -/
def refill (a : Array Value) : Obj → Obj
  | .cells _ t frozen => .cells a t frozen
  | o => o
/-- A world for the witness. -/
noncomputable def laidWorld (os : Os) : World :=
  { World.holding Tryd.prog os ⟨#[], #[], []⟩ with heap := ((World.holding Tryd.prog os ⟨#[], #[], []⟩).heap.modify 0 (refill (a32 initL))).modify 1 (refill (a32 kL)) }
def wit : Array Value := #[.string ByteArray.empty, .int .u16 0, .int .u16 0]
theorem laid_met (os : Os) : laidMet Tryd.prog Rows.digestCutRow.laid ((laidWorld os).forCall (fun _ _ => 0) ⟨#[], wit, []⟩).memory :=
  laidMet_of_run' 8 (by kernel_rfl) (by kernel_rfl)
theorem reads (os : Os) {H : Type} (enc : TypeId × Value → H) : ∃ places, DataW.whole enc Tryd.prog ((laidWorld os).forCall (fun _ _ => 0) ⟨#[], wit, []⟩).memory Tryd.f4.params.toList Rows.digestCutSpec.vars false wit.toList 8 = some ([.lit (.string []), .lit (.int .u16 0), .lit (.int .u16 0)], [], places) :=
  ⟨[], by kernel_rfl⟩
theorem lifted (os : Os) (started : os.Started) (H : Type) (enc : TypeId × Value → H) (F : Stop.Interp) :
    ReturnsInHanded {} Tryd.checked os 4 .any ((OpenSpec.ofChange Rows.digestCutSpec).preRow enc Tryd.prog Tryd.f4 Rows.digestCutRow.domain false Rows.digestCutRow.laid) (((OpenSpec.ofChange Rows.digestCutSpec).at F).post enc Tryd.prog Tryd.f4 false true false false) := by
  obtain ⟨places, hx⟩ := reads os enc
  refine returnsInHanded_of_row (C := Tryd.checked) (s := OpenSpec.ofChange Rows.digestCutSpec) own started (by kernel_rfl) Tryd.func4
    (witness_row_at (enc := enc) (C := Tryd.checked) false (laidWorld os) wit rfl (by kernel_rfl) (by kernel_rfl) (by kernel_rfl)
      (OpenSpec.preRow_of_cond 8 hx (by kernel_rfl) (fun k hk => by cases hk) (by kernel_rfl) (laid_met os))) ?_
  intro W base args ds gs before hval hW _ _ _ hL _ _
  exact contract H enc W base args ds gs before hval hW hL
theorem said : Rows.DigestCutSaid :=
  OpenClaim.holds_of_cond 4 Tryd.f4 rfl rfl rfl rfl rfl rfl rfl ⟨rfl, rfl, rfl, rfl, rfl⟩ rfl rfl rfl rfl rfl (by kernel_rfl) Tryd.func4 (by kernel_rfl)
    (of_decide_eq_true (by kernel_rfl)) (by unfold Func.isWrapper; first | (rw [if_pos (by decide +kernel)]; kernel_rfl) | (rw [if_neg (by decide +kernel)]; exact ⟨rfl, rfl⟩))
    (fun os started H enc _ F => by rw [OpenClaim.pre_eq_preRow]; exact lifted os started H enc F)
theorem plain (f : FuncId) (fn : Func) (hf : Tryd.pinned.checked.prog.funcNamed "sediment/sedimentlaw01.DigestCut" = some f) (hfn : Tryd.pinned.checked.prog.funcs[f]? = some fn) :
    false = Tryd.pinned.checked.prog.looks [] ∧ ∀ (j : Nat) t, fn.params[j]? = some t → Tryd.pinned.checked.prog.wantsStandIn t = false := by
  obtain rfl : f = 4 := Option.some.inj ((show Tryd.prog.funcNamed "sediment/sedimentlaw01.DigestCut" = some 4 by kernel_rfl).symm.trans hf) |>.symm
  obtain rfl : fn = Tryd.f4 := (Option.some.inj (Tryd.func4.symm.trans hfn)).symm
  refine ⟨by kernel_rfl, fun j t ht => ?_⟩
  rw [Tryd.params4] at ht
  have hm : t = 9 ∨ t = 30 := by
    have := Array.mem_of_getElem? ht
    simpa using this
  rcases hm with rfl | rfl
  · exact (show Tryd.prog.wantsStandIn 9 = false by kernel_rfl)
  · exact (show Tryd.prog.wantsStandIn 30 = false by kernel_rfl)
theorem card : Rows.DigestCutCardSaid :=
  Claim7.holds_tied_plain_at .later [] _ _ _ _ said (fun _ h => by cases h) (by kernel_rfl) (fun _ h => by cases h) digestCut_row_tie rfl ⟨rfl, rfl⟩ (by kernel_rfl) rfl plain (by kernel_rfl)
end Go.Proofs.YtbmfinobafcmiaaDoor.digestCut
