/-
  The law answers true for every input, and its arguments read as they did.
  No conditions.
-/
import Derived.Test.YtooklcgflocbcaaDoorP4
import Derived.Test.YtooklcgflocbcaaDoorRows
import Derived.Test.YtooklcgflocbcaaDoorCards
import Derived.Test.YtooklcgflocbcaaDoorTie
import Derived.Deep.DeepHandedRow
namespace Go.Proofs.YtooklcgflocbcaaDoor.packCut
open Go Go.Proofs Go.Sx Go.Dig
open Go.ChangeShapes Go.WideShapes Go.ChangeAt Go.RowKit Go.ChangeMaps
set_option maxRecDepth 100000
theorem own : ownKnob Tryd.prog.godebug = none := by kernel_rfl
theorem laidOut : laidOutB Tryd.prog = true := by kernel_rfl
def kZ : List Int := kL.map fun x => (x.toNat : Int)
def initZ : List Int := initL.map fun x => (x.toNat : Int)
def hvZ : List Int := hvL.map fun x => (x.toNat : Int)
theorem roundsEq {H : Type} : (Rows.laid_sediment_digest_rounds : DataW H) = Lib.tabData .u32 kZ := by rfl
theorem firstEq {H : Type} : (Rows.laid_sediment_digest_first : DataW H) = Lib.tabData .u32 initZ := by rfl
theorem halvesEq {H : Type} : (Rows.laid_sediment_crc_halves : DataW H) = Lib.tabData .u32 hvZ := by rfl
theorem cells8 : Tryd.prog.cellsOf 182 = 8 := by kernel_rfl
theorem cells64 : Tryd.prog.cellsOf 240 = 64 := by kernel_rfl
theorem cells16 : Tryd.prog.cellsOf 215 = 16 := by kernel_rfl
theorem cells32 : Tryd.prog.cellsOf 139 = 1 := by kernel_rfl
theorem glob {W : World} (h : laidMet Tryd.prog [("sediment/crc.halves", Rows.laid_sediment_crc_halves), ("sediment/digest.rounds", Rows.laid_sediment_digest_rounds), ("sediment/digest.first", Rows.laid_sediment_digest_first)] W) : GlobE W ∧ GlobC W := by
  obtain ⟨ps, hv, -⟩ := h
  obtain ⟨e0, f0, h0⟩ := heap_of_tab (P := Tryd.prog) (g := 2) (by kernel_rfl) (tab_of_vars (P := Tryd.prog) (name := "sediment/digest.first") (k := .u32) (zs := initZ) (t := 182) (e := 139) (n := 8) (g := 2) (by kernel_rfl) (by kernel_rfl) Tryd.underlying182 Tryd.underlying139 cells32 cells8 hv (by rw [← firstEq]; exact .tail _ (.tail _ (.head _))))
  obtain ⟨e1, f1, h1⟩ := heap_of_tab (P := Tryd.prog) (g := 3) (by kernel_rfl) (tab_of_vars (P := Tryd.prog) (name := "sediment/digest.rounds") (k := .u32) (zs := kZ) (t := 240) (e := 139) (n := 64) (g := 3) (by kernel_rfl) (by kernel_rfl) Tryd.underlying240 Tryd.underlying139 cells32 cells64 hv (by rw [← roundsEq]; exact .tail _ (.head _)))
  obtain ⟨e2, f2, h2⟩ := heap_of_tab (P := Tryd.prog) (g := 1) (by kernel_rfl) (tab_of_vars (P := Tryd.prog) (name := "sediment/crc.halves") (k := .u32) (zs := hvZ) (t := 215) (e := 139) (n := 16) (g := 1) (by kernel_rfl) (by kernel_rfl) Tryd.underlying215 Tryd.underlying139 cells32 cells16 hv (by rw [← halvesEq]; exact .head _))
  refine ⟨⟨e0, e1, f0, f1, ?_, ?_⟩, e2, f2, ?_⟩
  · rw [h0, initZ, List.map_map]; rfl
  · rw [h1, kZ, List.map_map]; rfl
  · rw [h2, hvZ, List.map_map]; rfl
/-- A block with other cells. -/
def refill (a : Array Value) : Obj → Obj
  | .cells _ t frozen => .cells a t frozen
  | o => o
/-- A world for the witness. -/
noncomputable def laidWorld (os : Os) : World :=
  { World.holding Tryd.prog os ⟨#[], #[], []⟩ with heap := (((World.holding Tryd.prog os ⟨#[], #[], []⟩).heap.modify 2 (refill (a32 initL))).modify 3 (refill (a32 kL))).modify 1 (refill (a32 hvL)) }
theorem readable : ∀ t ∈ Tryd.f3.params.toList, Tryd.prog.readableRec t = true ∧ t < Tryd.prog.types.size := by
  intro t ht
  have hm : t = 22 ∨ t = 23 := by
    rw [Tryd.params3] at ht
    simpa using ht
  rcases hm with rfl | rfl
  · exact ⟨by kernel_rfl, of_decide_eq_true (by kernel_rfl)⟩
  · exact ⟨by kernel_rfl, of_decide_eq_true (by kernel_rfl)⟩
theorem resultTypes : Tryd.f3.resultTypes = #[4] := by kernel_rfl
theorem contract (H : Type) (enc : TypeId × Value → H) (W : World) (base : Nat) (args : Array Value) (ds gs : List (DataW H)) (before : List MemPlace)
    (hval : ∀ (j : Nat) t v, Tryd.f3.params[j]? = some t → args[j]? = some v → Value.okWide Tryd.prog W .any base t v)
    (hW : DataW.Whole enc Tryd.prog Tryd.f3.params.toList Rows.packCutSpec.vars false W args.toList ds gs before) (hL : laidMetH Tryd.prog Rows.packCutRow.laid W) :
    Calls Tryd.prog 3 args W fun e W' => ∃ v, e = .returned v ∧ Rows.packCutSpec.post enc Tryd.prog Tryd.f3 false true false false W args v W' := by
  have hW' := hW
  obtain ⟨p, q, hA0, hV, rfl, hfz, hnd⟩ := hW
  have hA : DataW.TrodAll enc Tryd.prog W 0 (fun _ => true) true Tryd.f3.params.toList args.toList ds p := hA0
  rw [Tryd.params3] at hA hval
  obtain ⟨v0, vs0, d0, ds0, p0, q0, hargs, rfl, rfl, h0, r0⟩ := trodAll_cons hA
  obtain ⟨v1, vs1, d1, ds1, p1, q1, rfl, rfl, rfl, h1, r1⟩ := trodAll_cons r0
  obtain ⟨rfl, rfl, rfl⟩ := trodAll_nil r1
  obtain rfl : args = #[v0, v1] := by cases args; simp_all
  obtain ⟨l0, hl0⟩ := open_parts (hval 0 22 v0 rfl rfl) h0
  obtain ⟨n1, rfl, rfl, rfl, hw1⟩ := open_int Tryd.underlying23 (hval 1 23 v1 rfl rfl) h1
  have hG := glob hL
  obtain ⟨n, hn⟩ := u16_of hw1
  have hsp := PackCut_spec v0 l0 n W hG.1 hG.2 hl0.1 hl0.2
  rw [← hn] at hsp
  refine Calls.mono (hsp) ?_
  rintro e W' ⟨v, D, rfl, hp, rfl, rfl⟩
  exact ⟨_, rfl, post_true laidOut hW' rfl readable resultTypes Tryd.underlying4 rfl hp⟩
def wit : Array Value := #[.slice none 0 0, .int .u16 0]
theorem laid_met (os : Os) : laidMet Tryd.prog Rows.packCutRow.laid ((laidWorld os).forCall (fun _ _ => 0) ⟨#[], wit, []⟩).memory :=
  laidMet_of_run' 8 (by kernel_rfl) (by kernel_rfl)
theorem reads (os : Os) {H : Type} (enc : TypeId × Value → H) : ∃ places, DataW.whole enc Tryd.prog ((laidWorld os).forCall (fun _ _ => 0) ⟨#[], wit, []⟩).memory Tryd.f3.params.toList Rows.packCutSpec.vars false wit.toList 8 = some ([.nil, .lit (.int .u16 0)], [], places) :=
  ⟨[], by kernel_rfl⟩
theorem lifted (os : Os) (started : os.Started) (H : Type) (enc : TypeId × Value → H) (F : Stop.Interp) :
    ReturnsInHanded {} Tryd.checked os 3 .any ((OpenSpec.ofChange Rows.packCutSpec).preRow enc Tryd.prog Tryd.f3 Rows.packCutRow.domain false Rows.packCutRow.laid) (((OpenSpec.ofChange Rows.packCutSpec).at F).post enc Tryd.prog Tryd.f3 false true false false) := by
  obtain ⟨places, hx⟩ := reads os enc
  refine returnsInHanded_of_row (C := Tryd.checked) (s := OpenSpec.ofChange Rows.packCutSpec) own started (by kernel_rfl) Tryd.func3
    (witness_row_at (enc := enc) (C := Tryd.checked) false (laidWorld os) wit rfl (by kernel_rfl) (by kernel_rfl) (by kernel_rfl)
      (OpenSpec.preRow_of_cond 8 hx (by kernel_rfl) (fun k hk => by cases hk) (by kernel_rfl) (laid_met os))) ?_
  intro W base args ds gs before hval hW _ _ _ hL _ _
  exact contract H enc W base args ds gs before hval hW hL
theorem said : Rows.PackCutSaid :=
  OpenClaim.holds_of_cond 3 Tryd.f3 rfl rfl rfl rfl rfl rfl rfl ⟨rfl, rfl, rfl, rfl, rfl⟩ rfl rfl rfl rfl rfl (by kernel_rfl) Tryd.func3 (by kernel_rfl)
    (of_decide_eq_true (by kernel_rfl)) (by unfold Func.isWrapper; first | (rw [if_pos (by decide +kernel)]; kernel_rfl) | (rw [if_neg (by decide +kernel)]; exact ⟨rfl, rfl⟩))
    (fun os started H enc _ F => by rw [OpenClaim.pre_eq_preRow]; exact lifted os started H enc F)
theorem plain (f : FuncId) (fn : Func) (hf : Tryd.pinned.checked.prog.funcNamed "sediment/sedimentlaw10.PackCut" = some f) (hfn : Tryd.pinned.checked.prog.funcs[f]? = some fn) :
    false = Tryd.pinned.checked.prog.looks [] ∧ ∀ (j : Nat) t, fn.params[j]? = some t → Tryd.pinned.checked.prog.wantsStandIn t = false := by
  obtain rfl : f = 3 := Option.some.inj ((show Tryd.prog.funcNamed "sediment/sedimentlaw10.PackCut" = some 3 by kernel_rfl).symm.trans hf) |>.symm
  obtain rfl : fn = Tryd.f3 := (Option.some.inj (Tryd.func3.symm.trans hfn)).symm
  refine ⟨by kernel_rfl, fun j t ht => ?_⟩
  rw [Tryd.params3] at ht
  have hm : t = 22 ∨ t = 23 := by
    have := Array.mem_of_getElem? ht
    simpa using this
  rcases hm with rfl | rfl
  · exact (show Tryd.prog.wantsStandIn 22 = false by kernel_rfl)
  · exact (show Tryd.prog.wantsStandIn 23 = false by kernel_rfl)
theorem card : Rows.PackCutCardSaid :=
  Claim7.holds_tied_plain_at .later [] _ _ _ _ said (fun _ h => by cases h) (by kernel_rfl) (fun _ h => by cases h) packCut_row_tie rfl ⟨rfl, rfl⟩ (by kernel_rfl) rfl plain (by kernel_rfl)
end Go.Proofs.YtooklcgflocbcaaDoor.packCut
