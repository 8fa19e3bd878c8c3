/-
  The law answers true for every input, and its arguments read as they did.
  No conditions.
-/
import Derived.Test.YtooklcgflocbcaaGreatDoorU5
import Derived.Test.YtooklcgflocbcaaGreatDoorRows
import Derived.Test.YtooklcgflocbcaaGreatDoorCards
import Derived.Test.YtooklcgflocbcaaGreatDoorTie
import Derived.Deep.DeepHandedRow
namespace Go.Proofs.YtooklcgflocbcaaGreatDoor.packWrites
open Go Go.Proofs Go.Sx Go.Dig
open Go.ChangeShapes Go.WideShapes Go.ChangeAt Go.RowKit Go.ChangeMaps
set_option maxRecDepth 100000
theorem bulkAll_app {H : Type} : ∀ a b : List (DataW H), Rows.uptoBulkAll (a ++ b) = Rows.uptoBulkAll a + Rows.uptoBulkAll b
  | [], b => by simp [Rows.uptoBulkAll]
  | d :: a, b => by
    rw [List.cons_append, Rows.uptoBulkAll, Rows.uptoBulkAll, bulkAll_app a b]
    omega
theorem bulk_mem {H : Type} {d : DataW H} : ∀ {l : List (DataW H)}, d ∈ l → Rows.uptoBulk d ≤ Rows.uptoBulkAll l
  | e :: r, h => by
    rw [Rows.uptoBulkAll]
    rcases List.mem_cons.1 h with rfl | h
    · omega
    · have := bulk_mem h
      omega
theorem own : ownKnob Tryz.prog.godebug = none := by kernel_rfl
theorem laidOut : laidOutB Tryz.prog = true := by kernel_rfl
def kZ : List Int := kL.map fun x => (x.toNat : Int)
def initZ : List Int := initL.map fun x => (x.toNat : Int)
def hvZ : List Int := hvL.map fun x => (x.toNat : Int)
theorem roundsEq {H : Type} : (Rows.laid_sediment_digest_rounds : DataW H) = Lib.tabData .u32 kZ := by rfl
theorem firstEq {H : Type} : (Rows.laid_sediment_digest_first : DataW H) = Lib.tabData .u32 initZ := by rfl
theorem halvesEq {H : Type} : (Rows.laid_sediment_crc_halves : DataW H) = Lib.tabData .u32 hvZ := by rfl
theorem cells8 : Tryz.prog.cellsOf 244 = 8 := by kernel_rfl
theorem cells64 : Tryz.prog.cellsOf 274 = 64 := by kernel_rfl
theorem cells16 : Tryz.prog.cellsOf 297 = 16 := by kernel_rfl
theorem cells32 : Tryz.prog.cellsOf 202 = 1 := by kernel_rfl
theorem glob {W : World} (h : laidMet Tryz.prog [("sediment/crc.halves", Rows.laid_sediment_crc_halves), ("sediment/digest.rounds", Rows.laid_sediment_digest_rounds), ("sediment/digest.first", Rows.laid_sediment_digest_first)] W) : GlobE W ∧ GlobC W := by
  obtain ⟨ps, hv, -⟩ := h
  obtain ⟨e0, f0, h0⟩ := heap_of_tab (P := Tryz.prog) (g := 2) (by kernel_rfl) (tab_of_vars (P := Tryz.prog) (name := "sediment/digest.first") (k := .u32) (zs := initZ) (t := 244) (e := 202) (n := 8) (g := 2) (by kernel_rfl) (by kernel_rfl) Tryz.underlying244 Tryz.underlying202 cells32 cells8 hv (by rw [← firstEq]; exact .tail _ (.tail _ (.head _))))
  obtain ⟨e1, f1, h1⟩ := heap_of_tab (P := Tryz.prog) (g := 3) (by kernel_rfl) (tab_of_vars (P := Tryz.prog) (name := "sediment/digest.rounds") (k := .u32) (zs := kZ) (t := 274) (e := 202) (n := 64) (g := 3) (by kernel_rfl) (by kernel_rfl) Tryz.underlying274 Tryz.underlying202 cells32 cells64 hv (by rw [← roundsEq]; exact .tail _ (.head _)))
  obtain ⟨e2, f2, h2⟩ := heap_of_tab (P := Tryz.prog) (g := 1) (by kernel_rfl) (tab_of_vars (P := Tryz.prog) (name := "sediment/crc.halves") (k := .u32) (zs := hvZ) (t := 297) (e := 202) (n := 16) (g := 1) (by kernel_rfl) (by kernel_rfl) Tryz.underlying297 Tryz.underlying202 cells32 cells16 hv (by rw [← halvesEq]; exact .head _))
  refine ⟨⟨e0, e1, f0, f1, ?_, ?_⟩, e2, f2, ?_⟩
  · rw [h0, initZ, List.map_map]; rfl
  · rw [h1, kZ, List.map_map]; rfl
  · rw [h2, hvZ, List.map_map]; rfl
/-- A block with other cells. -/
def refill (a : Array Value) : Obj → Obj
  | .cells _ t frozen => .cells a t frozen
  | o => o
/-- A world for the witness. -/
noncomputable def laidWorld (os : Os) : World :=
  { World.holding Tryz.prog os ⟨#[], #[], []⟩ with heap := (((World.holding Tryz.prog os ⟨#[], #[], []⟩).heap.modify 2 (refill (a32 initL))).modify 3 (refill (a32 kL))).modify 1 (refill (a32 hvL)) }
theorem readable : ∀ t ∈ Tryz.f3.params.toList, Tryz.prog.readableRec t = true ∧ t < Tryz.prog.types.size := by
  intro t ht
  have hm : t = 22 := by
    rw [Tryz.params3] at ht
    simpa using ht
  subst hm
  exact ⟨by kernel_rfl, of_decide_eq_true (by kernel_rfl)⟩
theorem resultTypes : Tryz.f3.resultTypes = #[4] := by kernel_rfl
theorem contract (H : Type) (enc : TypeId × Value → H) (W : World) (base : Nat) (args : Array Value) (ds gs : List (DataW H)) (before : List MemPlace)
    (hval : ∀ (j : Nat) t v, Tryz.f3.params[j]? = some t → args[j]? = some v → Value.okWide Tryz.prog W .any base t v)
    (hW : DataW.Whole enc Tryz.prog Tryz.f3.params.toList Rows.packWritesSpec.vars false W args.toList ds gs before) (hK : ∀ k, (Rows.OpenSpec.upto Rows.packWritesSpec).cond = some k → k H (ds ++ gs) = true) (hL : laidMetH Tryz.prog Rows.packWritesUptoRow.laid W) :
    Calls Tryz.prog 3 args W fun e W' => ∃ v, e = .returned v ∧ Rows.packWritesSpec.post enc Tryz.prog Tryz.f3 false true false false W args v W' := by
  have hW' := hW
  obtain ⟨p, q, hA0, hV, rfl, hfz, hnd⟩ := hW
  have hA : DataW.TrodAll enc Tryz.prog W 0 (fun _ => true) true Tryz.f3.params.toList args.toList ds p := hA0
  rw [Tryz.params3] at hA hval
  obtain ⟨v0, vs0, d0, ds0, p0, q0, hargs, rfl, rfl, h0, r0⟩ := trodAll_cons hA
  obtain ⟨rfl, rfl, rfl⟩ := trodAll_nil r0
  obtain rfl : args = #[v0] := by cases args; simp_all
  obtain ⟨l0, hl0, hr0⟩ := open_partsR (hval 0 22 v0 rfl rfl) h0
  have hB : Rows.uptoBulkAll ([d0] ++ gs) ≤ 1048576 := of_decide_eq_true (hK _ rfl)
  rw [bulkAll_app] at hB
  have hx : ∀ g, g < l0.length → (l0.getD g part0).x.length ≤ 1048576 := by
    rcases hr0 with rfl | ⟨es, sp', rfl, hes⟩
    · intro g hg; exact absurd hg (Nat.not_lt_zero _)
    · intro g hg
      obtain ⟨e, he, d0, d1, rfl⟩ := hes g hg
      have h1 := bulk_mem he
      simp only [Rows.uptoBulk, Rows.uptoBulkAll] at h1 hB
      omega
  have hG := glob hL
  refine Calls.mono (PackWrites_spec v0 l0 W hG.1 hG.2 hl0 (fun g hg => by have := hx g hg; omega) (fun g hg => by have := hx g hg; omega)) ?_
  rintro e W' ⟨v, D, rfl, hp, rfl, rfl⟩
  exact ⟨_, rfl, post_true laidOut hW' rfl readable resultTypes Tryz.underlying4 rfl hp⟩
def wit : Array Value := #[.slice none 0 0]
theorem laid_met (os : Os) : laidMet Tryz.prog Rows.packWritesUptoRow.laid ((laidWorld os).forCall (fun _ _ => 0) ⟨#[], wit, []⟩).memory :=
  laidMet_of_run' 8 (by kernel_rfl) (by kernel_rfl)
theorem reads (os : Os) {H : Type} (enc : TypeId × Value → H) : ∃ places, DataW.whole enc Tryz.prog ((laidWorld os).forCall (fun _ _ => 0) ⟨#[], wit, []⟩).memory Tryz.f3.params.toList Rows.packWritesSpec.vars false wit.toList 8 = some ([.nil], [], places) :=
  ⟨[], by kernel_rfl⟩
theorem lifted (os : Os) (started : os.Started) (H : Type) (enc : TypeId × Value → H) (F : Stop.Interp) :
    ReturnsInHanded {} Tryz.checked os 3 .any ((Rows.OpenSpec.upto Rows.packWritesSpec).preRow enc Tryz.prog Tryz.f3 Rows.packWritesUptoRow.domain false Rows.packWritesUptoRow.laid) (((Rows.OpenSpec.upto Rows.packWritesSpec).at F).post enc Tryz.prog Tryz.f3 false true false false) := by
  obtain ⟨places, hx⟩ := reads os enc
  refine returnsInHanded_of_row (C := Tryz.checked) (s := Rows.OpenSpec.upto Rows.packWritesSpec) own started (by kernel_rfl) Tryz.func3
    (witness_row_at (enc := enc) (C := Tryz.checked) false (laidWorld os) wit rfl (by kernel_rfl) (by kernel_rfl) (by kernel_rfl)
      (OpenSpec.preRow_of_cond 8 hx (by kernel_rfl) (fun k hk => by cases hk; kernel_rfl) (by kernel_rfl) (laid_met os))) ?_
  intro W base args ds gs before hval hW _ hK _ hL _ _
  exact contract H enc W base args ds gs before hval hW hK hL
theorem said : Rows.PackWritesUptoSaid :=
  OpenClaim.holds_of_cond 3 Tryz.f3 rfl rfl rfl rfl rfl rfl rfl ⟨rfl, rfl, rfl, rfl, rfl⟩ rfl rfl rfl rfl rfl (by kernel_rfl) Tryz.func3 (by kernel_rfl)
    (of_decide_eq_true (by kernel_rfl)) (by unfold Func.isWrapper; first | (rw [if_pos (by decide +kernel)]; kernel_rfl) | (rw [if_neg (by decide +kernel)]; exact ⟨rfl, rfl⟩))
    (fun os started H enc _ F => by rw [OpenClaim.pre_eq_preRow]; exact lifted os started H enc F)
theorem plain (f : FuncId) (fn : Func) (hf : Tryz.pinned.checked.prog.funcNamed "sediment/sedimentlaw10.PackWrites" = some f) (hfn : Tryz.pinned.checked.prog.funcs[f]? = some fn) :
    false = Tryz.pinned.checked.prog.looks [] ∧ ∀ (j : Nat) t, fn.params[j]? = some t → Tryz.pinned.checked.prog.wantsStandIn t = false := by
  obtain rfl : f = 3 := Option.some.inj ((show Tryz.prog.funcNamed "sediment/sedimentlaw10.PackWrites" = some 3 by kernel_rfl).symm.trans hf) |>.symm
  obtain rfl : fn = Tryz.f3 := (Option.some.inj (Tryz.func3.symm.trans hfn)).symm
  refine ⟨by kernel_rfl, fun j t ht => ?_⟩
  rw [Tryz.params3] at ht
  have hm : t = 22 := by
    have := Array.mem_of_getElem? ht
    simpa using this
  subst hm
  exact (show Tryz.prog.wantsStandIn 22 = false by kernel_rfl)
theorem card : Rows.PackWritesUptoCardSaid :=
  Claim7.holds_tied_plain_at .later [] _ _ _ _ said (fun _ h => by cases h) (by kernel_rfl) (fun _ h => by cases h) packWritesUpto_row_tie rfl ⟨rfl, rfl⟩ (by kernel_rfl) rfl plain (by kernel_rfl)
end Go.Proofs.YtooklcgflocbcaaGreatDoor.packWrites
