/-
  The law answers true for every input, and its arguments read as they did.
  No conditions.
-/
import Derived.Test.YteppologbikipaaDoorR5
import Derived.Test.YteppologbikipaaDoorRows
import Derived.Test.YteppologbikipaaDoorCards
import Derived.Test.YteppologbikipaaDoorTie
import Derived.Deep.DeepHandedRow
namespace Go.Proofs.YteppologbikipaaDoor.objectRights
open Go Go.Proofs Go.Sx Go.Dig
open Go.ChangeShapes Go.WideShapes Go.ChangeAt Go.RowKit Go.ChangeMaps
set_option maxRecDepth 100000
theorem own : ownKnob Tryd.prog.godebug = none := by kernel_rfl
theorem laidOut : laidOutB Tryd.prog = true := by kernel_rfl
def kZ : List Int := kL.map fun x => (x.toNat : Int)
def initZ : List Int := initL.map fun x => (x.toNat : Int)
theorem roundsEq {H : Type} : (Rows.laid_sediment_digest_rounds : DataW H) = Lib.tabData .u32 kZ := by rfl
theorem firstEq {H : Type} : (Rows.laid_sediment_digest_first : DataW H) = Lib.tabData .u32 initZ := by rfl
theorem cells8 : Tryd.prog.cellsOf 161 = 8 := by kernel_rfl
theorem cells64 : Tryd.prog.cellsOf 189 = 64 := by kernel_rfl
theorem cells32 : Tryd.prog.cellsOf 160 = 1 := by kernel_rfl
theorem glob {W : World} (h : laidMet Tryd.prog [("sediment/digest.rounds", Rows.laid_sediment_digest_rounds), ("sediment/digest.first", Rows.laid_sediment_digest_first)] W) : GlobE W := by
  obtain ⟨ps, hv, -⟩ := h
  obtain ⟨e0, f0, h0⟩ := heap_of_tab (P := Tryd.prog) (g := 1) (by kernel_rfl) (tab_of_vars (P := Tryd.prog) (name := "sediment/digest.first") (k := .u32) (zs := initZ) (t := 161) (e := 160) (n := 8) (g := 1) (by kernel_rfl) (by kernel_rfl) Tryd.underlying161 Tryd.underlying160 cells32 cells8 hv (by rw [← firstEq]; exact .tail _ (.head _)))
  obtain ⟨e1, f1, h1⟩ := heap_of_tab (P := Tryd.prog) (g := 2) (by kernel_rfl) (tab_of_vars (P := Tryd.prog) (name := "sediment/digest.rounds") (k := .u32) (zs := kZ) (t := 189) (e := 160) (n := 64) (g := 2) (by kernel_rfl) (by kernel_rfl) Tryd.underlying189 Tryd.underlying160 cells32 cells64 hv (by rw [← roundsEq]; exact .head _))
  refine ⟨e0, e1, f0, f1, ?_, ?_⟩
  · rw [h0, initZ, List.map_map]; rfl
  · rw [h1, kZ, List.map_map]; rfl
/-- A block with other cells. -/
def refill (a : Array Value) : Obj → Obj
  | .cells _ t frozen => .cells a t frozen
  | o => o
/-- A world for the witness. -/
noncomputable def laidWorld (os : Os) : World :=
  { World.holding Tryd.prog os ⟨#[], #[], []⟩ with heap := ((World.holding Tryd.prog os ⟨#[], #[], []⟩).heap.modify 1 (refill (a32 initL))).modify 2 (refill (a32 kL)) }
theorem readable : ∀ t ∈ Tryd.f5.params.toList, Tryd.prog.readableRec t = true ∧ t < Tryd.prog.types.size := by
  intro t ht
  have hm : t = 45 := by
    rw [Tryd.params5] at ht
    simpa using ht
  subst hm
  exact ⟨by kernel_rfl, of_decide_eq_true (by kernel_rfl)⟩
theorem resultTypes : Tryd.f5.resultTypes = #[4] := by kernel_rfl
theorem contract (H : Type) (enc : TypeId × Value → H) (W : World) (base : Nat) (args : Array Value) (ds gs : List (DataW H)) (before : List MemPlace)
    (hval : ∀ (j : Nat) t v, Tryd.f5.params[j]? = some t → args[j]? = some v → Value.okWide Tryd.prog W .any base t v)
    (hW : DataW.Whole enc Tryd.prog Tryd.f5.params.toList Rows.objectRightsSpec.vars false W args.toList ds gs before) (hL : laidMetH Tryd.prog Rows.objectRightsRow.laid W) :
    Calls Tryd.prog 5 args W fun e W' => ∃ v, e = .returned v ∧ Rows.objectRightsSpec.post enc Tryd.prog Tryd.f5 false true false false W args v W' := by
  have hW' := hW
  obtain ⟨p, q, hA0, hV, rfl, hfz, hnd⟩ := hW
  have hA : DataW.TrodAll enc Tryd.prog W 0 (fun _ => true) true Tryd.f5.params.toList args.toList ds p := hA0
  rw [Tryd.params5] at hA hval
  obtain ⟨v0, vs0, d0, ds0, p0, q0, hargs, rfl, rfl, h0, r0⟩ := trodAll_cons hA
  obtain ⟨rfl, rfl, rfl⟩ := trodAll_nil r0
  obtain rfl : args = #[v0] := by cases args; simp_all
  obtain ⟨k0, t0, rfl⟩ := open_obj (hval 0 45 v0 rfl rfl) h0
  have hG := glob hL
  refine Calls.mono (ObjectRights_spec W hG k0 t0) ?_
  rintro e W' ⟨v, D, rfl, hp, rfl, rfl⟩
  exact ⟨_, rfl, post_true laidOut hW' rfl readable resultTypes Tryd.underlying4 rfl hp⟩
def wit : Array Value := #[.agg #[.int .i64 0, .string ByteArray.empty]]
theorem laid_met (os : Os) : laidMet Tryd.prog Rows.objectRightsRow.laid ((laidWorld os).forCall (fun _ _ => 0) ⟨#[], wit, []⟩).memory :=
  laidMet_of_run' 8 (by kernel_rfl) (by kernel_rfl)
theorem reads (os : Os) {H : Type} (enc : TypeId × Value → H) : ∃ places, DataW.whole enc Tryd.prog ((laidWorld os).forCall (fun _ _ => 0) ⟨#[], wit, []⟩).memory Tryd.f5.params.toList Rows.objectRightsSpec.vars false wit.toList 8 = some ([.agg [.lit (.int .i64 0), .lit (.string [])]], [], places) :=
  ⟨[], by kernel_rfl⟩
theorem lifted (os : Os) (started : os.Started) (H : Type) (enc : TypeId × Value → H) (F : Stop.Interp) :
    ReturnsInHanded {} Tryd.checked os 5 .any ((OpenSpec.ofChange Rows.objectRightsSpec).preRow enc Tryd.prog Tryd.f5 Rows.objectRightsRow.domain false Rows.objectRightsRow.laid) (((OpenSpec.ofChange Rows.objectRightsSpec).at F).post enc Tryd.prog Tryd.f5 false true false false) := by
  obtain ⟨places, hx⟩ := reads os enc
  refine returnsInHanded_of_row (C := Tryd.checked) (s := OpenSpec.ofChange Rows.objectRightsSpec) own started (by kernel_rfl) Tryd.func5
    (witness_row_at (enc := enc) (C := Tryd.checked) false (laidWorld os) wit rfl (by kernel_rfl) (by kernel_rfl) (by kernel_rfl)
      (OpenSpec.preRow_of_cond 8 hx (by kernel_rfl) (fun k hk => by cases hk) (by kernel_rfl) (laid_met os))) ?_
  intro W base args ds gs before hval hW _ _ _ hL _ _
  exact contract H enc W base args ds gs before hval hW hL
theorem said : Rows.ObjectRightsSaid :=
  OpenClaim.holds_of_cond 5 Tryd.f5 rfl rfl rfl rfl rfl rfl rfl ⟨rfl, rfl, rfl, rfl, rfl⟩ rfl rfl rfl rfl rfl (by kernel_rfl) Tryd.func5 (by kernel_rfl)
    (of_decide_eq_true (by kernel_rfl)) (by unfold Func.isWrapper; first | (rw [if_pos (by decide +kernel)]; kernel_rfl) | (rw [if_neg (by decide +kernel)]; exact ⟨rfl, rfl⟩))
    (fun os started H enc _ F => by rw [OpenClaim.pre_eq_preRow]; exact lifted os started H enc F)
theorem plain (f : FuncId) (fn : Func) (hf : Tryd.pinned.checked.prog.funcNamed "sediment/sedimentlaw06.ObjectRights" = some f) (hfn : Tryd.pinned.checked.prog.funcs[f]? = some fn) :
    false = Tryd.pinned.checked.prog.looks [] ∧ ∀ (j : Nat) t, fn.params[j]? = some t → Tryd.pinned.checked.prog.wantsStandIn t = false := by
  obtain rfl : f = 5 := Option.some.inj ((show Tryd.prog.funcNamed "sediment/sedimentlaw06.ObjectRights" = some 5 by kernel_rfl).symm.trans hf) |>.symm
  obtain rfl : fn = Tryd.f5 := (Option.some.inj (Tryd.func5.symm.trans hfn)).symm
  refine ⟨by kernel_rfl, fun j t ht => ?_⟩
  rw [Tryd.params5] at ht
  have hm : t = 45 := by
    have := Array.mem_of_getElem? ht
    simpa using this
  subst hm
  exact (show Tryd.prog.wantsStandIn 45 = false by kernel_rfl)
theorem card : Rows.ObjectRightsCardSaid :=
  Claim7.holds_tied_plain_at .later [] _ _ _ _ said (fun _ h => by cases h) (by kernel_rfl) (fun _ h => by cases h) objectRights_row_tie rfl ⟨rfl, rfl⟩ (by kernel_rfl) rfl plain (by kernel_rfl)
end Go.Proofs.YteppologbikipaaDoor.objectRights
