/-
  The law answers true for every input, and its arguments read as they did.
  No conditions.
-/
import Derived.Test.YteppologbikipaaDoorA5
import Derived.Test.YteppologbikipaaDoorCards
import Derived.Test.YteppologbikipaaDoorTie
import Derived.Deep.DeepHandedRow
namespace Go.Proofs.YteppologbikipaaDoor.refsCut
open Go Go.Proofs Go.Sx
open Go.ChangeShapes Go.WideShapes Go.ChangeAt Go.RowKit Go.ChangeMaps
set_option maxRecDepth 100000
theorem own : ownKnob Tryd.prog.godebug = none := by kernel_rfl
theorem laidOut : laidOutB Tryd.prog = true := by kernel_rfl
def hvZ : List Int := hvL.map fun x => (x.toNat : Int)
theorem halvesEq {H : Type} : (Rows.laid_sediment_crc_halves : DataW H) = Lib.tabData .u32 hvZ := by rfl
theorem cells16 : Tryd.prog.cellsOf 233 = 16 := by kernel_rfl
theorem cells1 : Tryd.prog.cellsOf 160 = 1 := by kernel_rfl
theorem glob {W : World} (h : laidMet Tryd.prog [("sediment/crc.halves", Rows.laid_sediment_crc_halves)] W) : GlobC W := by
  obtain ⟨ps, hv, -⟩ := h
  obtain ⟨e0, f0, h0⟩ := heap_of_tab (P := Tryd.prog) (g := 3) (by kernel_rfl) (tab_of_vars (P := Tryd.prog) (name := "sediment/crc.halves") (k := .u32) (zs := hvZ) (t := 233) (e := 160) (n := 16) (g := 3) (by kernel_rfl) (by kernel_rfl) Tryd.underlying233 Tryd.underlying160 cells1 cells16 hv (by rw [← halvesEq]; exact .head _))
  refine ⟨e0, f0, ?_⟩
  rw [h0, hvZ, List.map_map]; rfl
theorem readable : ∀ t ∈ Tryd.f4.params.toList, Tryd.prog.readableRec t = true ∧ t < Tryd.prog.types.size := by
  intro t ht
  have hm : t = 25 ∨ t = 33 := by
    rw [Tryd.params4] at ht
    simpa using ht
  rcases hm with rfl | rfl
  · exact ⟨by kernel_rfl, of_decide_eq_true (by kernel_rfl)⟩
  · exact ⟨by kernel_rfl, of_decide_eq_true (by kernel_rfl)⟩
theorem resultTypes : Tryd.f4.resultTypes = #[4] := by kernel_rfl
/-- What the walk gives, for every argument and every world that holds the table. -/
theorem contract (H : Type) (enc : TypeId × Value → H) (W : World) (base : Nat) (args : Array Value) (ds gs : List (DataW H)) (before : List MemPlace)
    (hval : ∀ (j : Nat) t v, Tryd.f4.params[j]? = some t → args[j]? = some v → Value.okWide Tryd.prog W .any base t v)
    (hW : DataW.Whole enc Tryd.prog Tryd.f4.params.toList Rows.refsCutSpec.vars false W args.toList ds gs before) (hL : laidMetH Tryd.prog Rows.refsCutRow.laid W) :
    Calls Tryd.prog 4 args W fun e W' => ∃ v, e = .returned v ∧ Rows.refsCutSpec.post enc Tryd.prog Tryd.f4 false true false false W args v W' := by
  have hW' := hW
  obtain ⟨p, q, hA0, hV, rfl, hfz, hnd⟩ := hW
  have hA : DataW.TrodAll enc Tryd.prog W 0 (fun _ => true) true Tryd.f4.params.toList args.toList ds p := hA0
  rw [Tryd.params4] at hA hval
  obtain ⟨v1, vs1, d1, ds1, p1, q1, hargs, rfl, rfl, h1, r1⟩ := trodAll_cons hA
  obtain ⟨v2, vs2, d2, ds2, p2, q2, rfl, rfl, rfl, h2, r2⟩ := trodAll_cons r1
  obtain ⟨rfl, rfl, rfl⟩ := trodAll_nil r2
  obtain rfl : args = #[v1, v2] := by cases args; simp_all
  obtain ⟨fu, hf⟩ := h1
  obtain ⟨vt, vl, tl, ll, rfl, ht, hl⟩ := open_book (hval 0 25 v1 rfl rfl) hf
  obtain ⟨n1, rfl, rfl, rfl, hw1⟩ := open_int Tryd.underlying33 (hval 1 33 v2 rfl rfl) h2
  obtain ⟨n, hn⟩ : ∃ n : UInt16, Value.int .u16 n1 = v16 n := by
    simp only [Lit.wf, Bool.and_eq_true, decide_eq_true_eq] at hw1
    have hw2 : 0 ≤ n1 := by simpa [IntKind.min, IntKind.bits, IntKind.signed] using hw1.1
    have hw3 : n1 ≤ 65535 := by simpa [IntKind.max, IntKind.bits, IntKind.signed] using hw1.2
    refine ⟨UInt16.ofNat n1.toNat, ?_⟩
    unfold v16
    rw [UInt16.toNat_ofNat', Nat.mod_eq_of_lt (by omega)]
    congr 1; omega
  have hG : GlobC W := glob hL
  have hsp := RefsCut_spec vt vl tl ll n W hG ht hl
  rw [← hn] at hsp
  refine Calls.mono hsp ?_
  rintro e W' ⟨v, D, rfl, hp, rfl, rfl⟩
  exact ⟨_, rfl, post_true laidOut hW' rfl readable resultTypes Tryd.underlying4 rfl hp⟩
/-- A block with other cells. -/
def refill (a : Array Value) : Obj → Obj
  | .cells _ t frozen => .cells a t frozen
  | o => o
/-- A world for the witness. -/
noncomputable def laidWorld (os : Os) : World :=
  { World.holding Tryd.prog os ⟨#[], #[], []⟩ with heap := ((World.holding Tryd.prog os ⟨#[], #[], []⟩).heap.modify 3 (refill (a32 hvL))) }
def wit : Array Value := #[.agg #[.slice none 0 0, .slice none 0 0], .int .u16 0]
theorem laid_met (os : Os) : laidMet Tryd.prog Rows.refsCutRow.laid ((laidWorld os).forCall (fun _ _ => 0) ⟨#[], wit, []⟩).memory :=
  laidMet_of_run' 8 (by kernel_rfl) (by kernel_rfl)
theorem reads (os : Os) {H : Type} (enc : TypeId × Value → H) : ∃ places, DataW.whole enc Tryd.prog ((laidWorld os).forCall (fun _ _ => 0) ⟨#[], wit, []⟩).memory Tryd.f4.params.toList Rows.refsCutSpec.vars false wit.toList 8 = some ([.agg [.nil, .nil], .lit (.int .u16 0)], [], places) :=
  ⟨[], by kernel_rfl⟩
theorem lifted (os : Os) (started : os.Started) (H : Type) (enc : TypeId × Value → H) (F : Stop.Interp) :
    ReturnsInHanded {} Tryd.checked os 4 .any ((OpenSpec.ofChange Rows.refsCutSpec).preRow enc Tryd.prog Tryd.f4 Rows.refsCutRow.domain false Rows.refsCutRow.laid) (((OpenSpec.ofChange Rows.refsCutSpec).at F).post enc Tryd.prog Tryd.f4 false true false false) := by
  obtain ⟨places, hx⟩ := reads os enc
  refine returnsInHanded_of_row (C := Tryd.checked) (s := OpenSpec.ofChange Rows.refsCutSpec) own started (by kernel_rfl) Tryd.func4
    (witness_row_at (enc := enc) (C := Tryd.checked) false (laidWorld os) wit rfl (by kernel_rfl) (by kernel_rfl) (by kernel_rfl)
      (OpenSpec.preRow_of_cond 8 hx (by kernel_rfl) (fun k hk => by cases hk) (by kernel_rfl) (laid_met os))) ?_
  intro W base args ds gs before hval hW _ _ _ hL _ _
  exact contract H enc W base args ds gs before hval hW hL
theorem said : Rows.RefsCutSaid :=
  OpenClaim.holds_of_cond 4 Tryd.f4 rfl rfl rfl rfl rfl rfl rfl ⟨rfl, rfl, rfl, rfl, rfl⟩ rfl rfl rfl rfl rfl (by kernel_rfl) Tryd.func4 (by kernel_rfl)
    (of_decide_eq_true (by kernel_rfl)) (by unfold Func.isWrapper; first | (rw [if_pos (by decide +kernel)]; kernel_rfl) | (rw [if_neg (by decide +kernel)]; exact ⟨rfl, rfl⟩))
    (fun os started H enc _ F => by rw [OpenClaim.pre_eq_preRow]; exact lifted os started H enc F)
theorem plain (f : FuncId) (fn : Func) (hf : Tryd.pinned.checked.prog.funcNamed "sediment/sedimentlaw16.RefsCut" = some f) (hfn : Tryd.pinned.checked.prog.funcs[f]? = some fn) :
    false = Tryd.pinned.checked.prog.looks [] ∧ ∀ (j : Nat) t, fn.params[j]? = some t → Tryd.pinned.checked.prog.wantsStandIn t = false := by
  obtain rfl : f = 4 := Option.some.inj ((show Tryd.prog.funcNamed "sediment/sedimentlaw16.RefsCut" = some 4 by kernel_rfl).symm.trans hf) |>.symm
  obtain rfl : fn = Tryd.f4 := (Option.some.inj (Tryd.func4.symm.trans hfn)).symm
  refine ⟨by kernel_rfl, fun j t ht => ?_⟩
  rw [Tryd.params4] at ht
  have hm : t = 25 ∨ t = 33 := by
    have := Array.mem_of_getElem? ht
    simpa using this
  rcases hm with rfl | rfl
  · exact (show Tryd.prog.wantsStandIn 25 = false by kernel_rfl)
  · exact (show Tryd.prog.wantsStandIn 33 = false by kernel_rfl)
theorem card : Rows.RefsCutCardSaid :=
  Claim7.holds_tied_plain_at .later [] _ _ _ _ said (fun _ h => by cases h) (by kernel_rfl) (fun _ h => by cases h) refsCut_row_tie rfl ⟨rfl, rfl⟩ (by kernel_rfl) rfl plain (by kernel_rfl)
end Go.Proofs.YteppologbikipaaDoor.refsCut
