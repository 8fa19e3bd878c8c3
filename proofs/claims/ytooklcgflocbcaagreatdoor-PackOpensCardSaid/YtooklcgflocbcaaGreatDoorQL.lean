/-
  The law answers true for every input, and its arguments read as they did.
  No conditions.
-/
import Derived.Test.YtooklcgflocbcaaGreatDoorP5
import Derived.Test.YtooklcgflocbcaaGreatDoorRows
import Derived.Test.YtooklcgflocbcaaGreatDoorCards
import Derived.Test.YtooklcgflocbcaaGreatDoorTie
import Derived.Deep.DeepHandedRow
namespace Go.Proofs.YtooklcgflocbcaaGreatDoor.packOpens
open Go Go.Proofs Go.Sx Go.Dig
open Go.ChangeShapes Go.WideShapes Go.ChangeAt Go.RowKit Go.ChangeMaps
set_option maxRecDepth 100000
theorem own : ownKnob Tryz.prog.godebug = none := by kernel_rfl
theorem laidOut : laidOutB Tryz.prog = true := by kernel_rfl
def kZ : List Int := kL.map fun x => (x.toNat : Int)
def initZ : List Int := initL.map fun x => (x.toNat : Int)
def hvZ : List Int := hvL.map fun x => (x.toNat : Int)
theorem roundsEq {H : Type} : (Rows.laid_sediment_digest_rounds : DataW H) = Lib.tabData .u32 kZ := by rfl
theorem firstEq {H : Type} : (Rows.laid_sediment_digest_first : DataW H) = Lib.tabData .u32 initZ := by rfl
theorem halvesEq {H : Type} : (Rows.laid_sediment_crc_halves : DataW H) = Lib.tabData .u32 hvZ := by rfl
theorem cells8 : Tryz.prog.cellsOf 244 = 8 := by kernel_rfl
theorem cells64 : Tryz.prog.cellsOf 274 = 64 := by kernel_rfl
theorem cells16 : Tryz.prog.cellsOf 297 = 16 := by kernel_rfl
theorem cells32 : Tryz.prog.cellsOf 202 = 1 := by kernel_rfl
theorem glob {W : World} (h : laidMet Tryz.prog [("sediment/crc.halves", Rows.laid_sediment_crc_halves), ("sediment/digest.rounds", Rows.laid_sediment_digest_rounds), ("sediment/digest.first", Rows.laid_sediment_digest_first)] W) : GlobE W ∧ GlobC W := by
  obtain ⟨ps, hv, -⟩ := h
  obtain ⟨e0, f0, h0⟩ := heap_of_tab (P := Tryz.prog) (g := 2) (by kernel_rfl) (tab_of_vars (P := Tryz.prog) (name := "sediment/digest.first") (k := .u32) (zs := initZ) (t := 244) (e := 202) (n := 8) (g := 2) (by kernel_rfl) (by kernel_rfl) Tryz.underlying244 Tryz.underlying202 cells32 cells8 hv (by rw [← firstEq]; exact .tail _ (.tail _ (.head _))))
  obtain ⟨e1, f1, h1⟩ := heap_of_tab (P := Tryz.prog) (g := 3) (by kernel_rfl) (tab_of_vars (P := Tryz.prog) (name := "sediment/digest.rounds") (k := .u32) (zs := kZ) (t := 274) (e := 202) (n := 64) (g := 3) (by kernel_rfl) (by kernel_rfl) Tryz.underlying274 Tryz.underlying202 cells32 cells64 hv (by rw [← roundsEq]; exact .tail _ (.head _)))
  obtain ⟨e2, f2, h2⟩ := heap_of_tab (P := Tryz.prog) (g := 1) (by kernel_rfl) (tab_of_vars (P := Tryz.prog) (name := "sediment/crc.halves") (k := .u32) (zs := hvZ) (t := 297) (e := 202) (n := 16) (g := 1) (by kernel_rfl) (by kernel_rfl) Tryz.underlying297 Tryz.underlying202 cells32 cells16 hv (by rw [← halvesEq]; exact .head _))
  refine ⟨⟨e0, e1, f0, f1, ?_, ?_⟩, e2, f2, ?_⟩
  · rw [h0, initZ, List.map_map]; rfl
  · rw [h1, kZ, List.map_map]; rfl
  · rw [h2, hvZ, List.map_map]; rfl
/-- A block with other cells. -/
def refill (a : Array Value) : Obj → Obj
  | .cells _ t frozen => .cells a t frozen
  | o => o
/-- A world for the witness. -/
noncomputable def laidWorld (os : Os) : World :=
  { World.holding Tryz.prog os ⟨#[], #[], []⟩ with heap := (((World.holding Tryz.prog os ⟨#[], #[], []⟩).heap.modify 2 (refill (a32 initL))).modify 3 (refill (a32 kL))).modify 1 (refill (a32 hvL)) }
theorem readable : ∀ t ∈ Tryz.f4.params.toList, Tryz.prog.readableRec t = true ∧ t < Tryz.prog.types.size := by
  intro t ht
  have hm : t = 9 ∨ t = 37 ∨ t = 3 := by
    rw [Tryz.params4] at ht
    simpa using ht
  rcases hm with rfl | rfl | rfl
  · exact ⟨by kernel_rfl, of_decide_eq_true (by kernel_rfl)⟩
  · exact ⟨by kernel_rfl, of_decide_eq_true (by kernel_rfl)⟩
  · exact ⟨by kernel_rfl, of_decide_eq_true (by kernel_rfl)⟩
theorem resultTypes : Tryz.f4.resultTypes = #[4] := by kernel_rfl
theorem contract (H : Type) (enc : TypeId × Value → H) (W : World) (base : Nat) (args : Array Value) (ds gs : List (DataW H)) (before : List MemPlace)
    (hval : ∀ (j : Nat) t v, Tryz.f4.params[j]? = some t → args[j]? = some v → Value.okWide Tryz.prog W .any base t v)
    (hW : DataW.Whole enc Tryz.prog Tryz.f4.params.toList Rows.packOpensSpec.vars false W args.toList ds gs before) (hL : laidMetH Tryz.prog Rows.packOpensRow.laid W) :
    Calls Tryz.prog 4 args W fun e W' => ∃ v, e = .returned v ∧ Rows.packOpensSpec.post enc Tryz.prog Tryz.f4 false true false false W args v W' := by
  have hW' := hW
  obtain ⟨p, q, hA0, hV, rfl, hfz, hnd⟩ := hW
  have hA : DataW.TrodAll enc Tryz.prog W 0 (fun _ => true) true Tryz.f4.params.toList args.toList ds p := hA0
  rw [Tryz.params4] at hA hval
  obtain ⟨v0, vs0, d0, ds0, p0, q0, hargs, rfl, rfl, h0, r0⟩ := trodAll_cons hA
  obtain ⟨v1, vs1, d1, ds1, p1, q1, rfl, rfl, rfl, h1, r1⟩ := trodAll_cons r0
  obtain ⟨v2, vs2, d2, ds2, p2, q2, rfl, rfl, rfl, h2, r2⟩ := trodAll_cons r1
  obtain ⟨rfl, rfl, rfl⟩ := trodAll_nil r2
  obtain rfl : args = #[v0, v1, v2] := by cases args; simp_all
  obtain ⟨s0, rfl, rfl, rfl, hs0⟩ := open_string Tryz.underlying9 (hval 0 9 v0 rfl rfl) h0
  obtain ⟨fu1, hf1⟩ := h1
  obtain ⟨i1, rfl⟩ := open_id (hval 1 37 v1 rfl rfl) hf1
  obtain ⟨n2, rfl, rfl, rfl, hw2⟩ := open_int Tryz.underlying3 (hval 2 3 v2 rfl rfl) h2
  have hG := glob hL
  refine Calls.mono (PackOpens_spec s0.data.toList i1 n2 W hG.1 hG.2) ?_
  rintro e W' ⟨v, D, rfl, hp, rfl, rfl⟩
  exact ⟨_, rfl, post_true laidOut hW' rfl readable resultTypes Tryz.underlying4 rfl hp⟩
def wit : Array Value := #[.string ByteArray.empty, .agg (Array.replicate 32 (.int .u8 0)), .int .i64 0]
theorem laid_met (os : Os) : laidMet Tryz.prog Rows.packOpensRow.laid ((laidWorld os).forCall (fun _ _ => 0) ⟨#[], wit, []⟩).memory :=
  laidMet_of_run' 8 (by kernel_rfl) (by kernel_rfl)
theorem reads (os : Os) {H : Type} (enc : TypeId × Value → H) : ∃ places, DataW.whole enc Tryz.prog ((laidWorld os).forCall (fun _ _ => 0) ⟨#[], wit, []⟩).memory Tryz.f4.params.toList Rows.packOpensSpec.vars false wit.toList 8 = some ([.lit (.string []), .agg (List.replicate 32 (.lit (.int .u8 0))), .lit (.int .i64 0)], [], places) :=
  ⟨[], by kernel_rfl⟩
theorem lifted (os : Os) (started : os.Started) (H : Type) (enc : TypeId × Value → H) (F : Stop.Interp) :
    ReturnsInHanded {} Tryz.checked os 4 .any ((OpenSpec.ofChange Rows.packOpensSpec).preRow enc Tryz.prog Tryz.f4 Rows.packOpensRow.domain false Rows.packOpensRow.laid) (((OpenSpec.ofChange Rows.packOpensSpec).at F).post enc Tryz.prog Tryz.f4 false true false false) := by
  obtain ⟨places, hx⟩ := reads os enc
  refine returnsInHanded_of_row (C := Tryz.checked) (s := OpenSpec.ofChange Rows.packOpensSpec) own started (by kernel_rfl) Tryz.func4
    (witness_row_at (enc := enc) (C := Tryz.checked) false (laidWorld os) wit rfl (by kernel_rfl) (by kernel_rfl) (by kernel_rfl)
      (OpenSpec.preRow_of_cond 8 hx (by kernel_rfl) (fun k hk => by cases hk) (by kernel_rfl) (laid_met os))) ?_
  intro W base args ds gs before hval hW _ _ _ hL _ _
  exact contract H enc W base args ds gs before hval hW hL
theorem said : Rows.PackOpensSaid :=
  OpenClaim.holds_of_cond 4 Tryz.f4 rfl rfl rfl rfl rfl rfl rfl ⟨rfl, rfl, rfl, rfl, rfl⟩ rfl rfl rfl rfl rfl (by kernel_rfl) Tryz.func4 (by kernel_rfl)
    (of_decide_eq_true (by kernel_rfl)) (by unfold Func.isWrapper; first | (rw [if_pos (by decide +kernel)]; kernel_rfl) | (rw [if_neg (by decide +kernel)]; exact ⟨rfl, rfl⟩))
    (fun os started H enc _ F => by rw [OpenClaim.pre_eq_preRow]; exact lifted os started H enc F)
theorem plain (f : FuncId) (fn : Func) (hf : Tryz.pinned.checked.prog.funcNamed "sediment/sedimentlaw10.PackOpens" = some f) (hfn : Tryz.pinned.checked.prog.funcs[f]? = some fn) :
    false = Tryz.pinned.checked.prog.looks [] ∧ ∀ (j : Nat) t, fn.params[j]? = some t → Tryz.pinned.checked.prog.wantsStandIn t = false := by
  obtain rfl : f = 4 := Option.some.inj ((show Tryz.prog.funcNamed "sediment/sedimentlaw10.PackOpens" = some 4 by kernel_rfl).symm.trans hf) |>.symm
  obtain rfl : fn = Tryz.f4 := (Option.some.inj (Tryz.func4.symm.trans hfn)).symm
  refine ⟨by kernel_rfl, fun j t ht => ?_⟩
  rw [Tryz.params4] at ht
  have hm : t = 9 ∨ t = 37 ∨ t = 3 := by
    have := Array.mem_of_getElem? ht
    simpa using this
  rcases hm with rfl | rfl | rfl
  · exact (show Tryz.prog.wantsStandIn 9 = false by kernel_rfl)
  · exact (show Tryz.prog.wantsStandIn 37 = false by kernel_rfl)
  · exact (show Tryz.prog.wantsStandIn 3 = false by kernel_rfl)
theorem card : Rows.PackOpensCardSaid :=
  Claim7.holds_tied_plain_at .later [] _ _ _ _ said (fun _ h => by cases h) (by kernel_rfl) (fun _ h => by cases h) packOpens_row_tie rfl ⟨rfl, rfl⟩ (by kernel_rfl) rfl plain (by kernel_rfl)
end Go.Proofs.YtooklcgflocbcaaGreatDoor.packOpens
