/-
  The law answers true for every input, and its arguments read as they did.
  No conditions.
-/
import Derived.Test.YtcakbfbidacnlaaDoorO3
import Derived.Test.YtcakbfbidacnlaaDoorRows
import Derived.Test.YtcakbfbidacnlaaDoorCards
import Derived.Test.YtcakbfbidacnlaaDoorTie
import Derived.Deep.DeepHandedRow
namespace Go.Proofs.YtcakbfbidacnlaaDoor.mergeOrder
open Go Go.Proofs Go.Sx
open Go.ChangeShapes Go.WideShapes Go.ChangeAt Go.RowKit Go.ChangeMaps
set_option maxRecDepth 100000
theorem Zu_ {H:Type}: ∀a b:List (DataW H),Rows.uptoBulkAll (a++b)=Rows.uptoBulkAll a+Rows.uptoBulkAll b
 | [],b=>by simp[Rows.uptoBulkAll]
 |d::a,b=>by
  rw[List.cons_append,Rows.uptoBulkAll,Rows.uptoBulkAll,Zu_ a b]
  omega
theorem aaJ_ {H:Type} {d:DataW H}: ∀ {l:List (DataW H)},d∈l→Rows.uptoBulk d≤Rows.uptoBulkAll l
 |e::r,h=>by
  rw[Rows.uptoBulkAll]
  rcases List.mem_cons.1 h with rfl|h
  ·omega
  ·have:=aaJ_ h
   omega
theorem own:ownKnob Tryd.prog.godebug=none:=by kernel_rfl
theorem ahI_:laidOutB Tryd.prog=true:=by kernel_rfl
def hvZ:List Int:=hvL.map fun x=>(x.toNat:Int)
theorem agl_ {H:Type}: (Rows.laid_sediment_crc_halves:DataW H)=Lib.tabData .u32 hvZ:=by rfl
theorem aiv_:Tryd.prog.cellsOf 152=16:=by kernel_rfl
theorem ai5_:Tryd.prog.cellsOf 121=1:=by kernel_rfl
theorem glob {W:World} (h:laidMet Tryd.prog [("sediment/crc.halves",Rows.laid_sediment_crc_halves)] W):GlobC W:=by
 obtain⟨ps,hv,-⟩:=h
 obtain⟨e0,f0,h0⟩:=VM_ (P:=Tryd.prog) (g:=1) (by kernel_rfl) (Zl_ (P:=Tryd.prog) (name:= "sediment/crc.halves") (k:= .u32) (zs:=hvZ) (t:=152) (e:=121) (n:=16) (g:=1) (by kernel_rfl) (by kernel_rfl) Tryd.underlying152 Tryd.underlying121 ai5_ aiv_ hv (by rw[←agl_];exact .head _))
 refine⟨e0,f0, ?_⟩
 rw[h0,hvZ,List.map_map];rfl
theorem akC_ {n:Int} (h: (Lit.int .u8 n).wf=true): ∃x:UInt8,Value.int .u8 n=v8 x:=by
 have h2:0≤n∧n≤255:=by simpa [Lit.wf,IntKind.min,IntKind.max,IntKind.signed,IntKind.bits] using h
 refine⟨UInt8.ofNat n.toNat, ?_⟩
 show Value.int .u8 n=Value.int .u8 ((UInt8.ofNat n.toNat).toNat:Int)
 rw[UInt8.toNat_ofNat',Nat.mod_eq_of_lt (by omega),Int.toNat_of_nonneg h2.1]
def aj0_ (a:Array Value):Obj→Obj
 | .cells _ t frozen=> .cells a t frozen
 |o=>o
noncomputable def Zr_ (os:Os):World:=
 {World.holding Tryd.prog os ⟨#[], #[],[]⟩ with heap:=((World.holding Tryd.prog os ⟨#[], #[],[]⟩).heap.modify 1 (aj0_ (a32 hvL)))}
theorem afu_: ∀t∈Tryd.f3.params.toList,Tryd.prog.readableRec t=true∧t<Tryd.prog.types.size:=by
 intro t ht
 have hm:t=22∨t=5:=by
  rw[Tryd.params3] at ht
  first|simpa using ht| (simp at ht;rcases ht with h|h|h<;>simp[h])
 rcases hm with rfl|rfl
 ·exact⟨by kernel_rfl,of_decide_eq_true (by kernel_rfl)⟩
 ·exact⟨by kernel_rfl,of_decide_eq_true (by kernel_rfl)⟩
theorem resultTypes:Tryd.f3.resultTypes= #[4]:=by kernel_rfl
theorem afE_ (H:Type) (enc:TypeId×Value→H) (W:World) (base:Nat) (args:Array Value) (ds gs:List (DataW H)) (before:List MemPlace)
  (hval: ∀ (j:Nat) t v,Tryd.f3.params[j]? =some t→args[j]? =some v→Value.okWide Tryd.prog W .any base t v)
  (hW:DataW.Whole enc Tryd.prog Tryd.f3.params.toList Rows.mergeOrderSpec.vars false W args.toList ds gs before) (hK: ∀k,(Rows.OpenSpec.upto Rows.mergeOrderSpec).cond=some k→k H (ds++gs)=true) (hL:laidMetH Tryd.prog Rows.mergeOrderUptoRow.laid W):
  Calls Tryd.prog 3 args W fun e W'=> ∃v,e= .returned v∧Rows.mergeOrderSpec.post enc Tryd.prog Tryd.f3 false true false false W args v W':=by
 have hW':=hW
 obtain⟨p,q,hA0,hV,rfl,hfz,hnd⟩:=hW
 have hA:DataW.TrodAll enc Tryd.prog W 0 (fun _=>true) true Tryd.f3.params.toList args.toList ds p:=hA0
 rw[Tryd.params3] at hA hval
 obtain⟨v0,vs0,d0,ds0,p0,q0,hargs,rfl,rfl,h0,r0⟩:=trodAll_cons hA
 obtain⟨v1,vs1,d1,ds1,p1,q1,rfl,rfl,rfl,h1,r1⟩:=trodAll_cons r0
 obtain⟨rfl,rfl,rfl⟩:=trodAll_nil r1
 obtain rfl:args= #[v0,v1]:=by cases args;simp_all
 obtain⟨l0,hl0,hr0⟩:=Vd_ (hval 0 22 v0 rfl rfl) h0
 obtain⟨n1,rfl,rfl,rfl,hw1⟩:=open_int Tryd.underlying5 (hval 1 5 v1 rfl rfl) h1
 have hG:=glob hL
 have hB:Rows.uptoBulkAll ([d0, .lit (.int .u8 n1)]++gs)≤1048576:=of_decide_eq_true (hK _ rfl)
 rw[Zu_] at hB
 have hx:BndS l0:=by
  rcases hr0 with rfl| ⟨es,sp',rfl,hes⟩
  ·intro s hs;cases hs
  ·intro s hs
   obtain⟨g,hg,rfl⟩:=List.getElem_of_mem hs
   obtain⟨e,he,rfl⟩:=hes g hg
   have h1:=aaJ_ he
   rw[show l0.getD g sh0=l0[g] from by rw[List.getD_eq_getElem?_getD,List.getElem?_eq_getElem hg];rfl] at h1
   simp only[Rows.uptoBulk,Rows.uptoBulkAll] at h1 hB
   omega
 obtain⟨c,hn⟩:=akC_ hw1
 have hsp:=Qd_ v0 l0 c W hG hl0 hx
 rw[←hn] at hsp
 refine Calls.mono hsp ?_
 rintro e W' ⟨v,D,rfl,hp,rfl,rfl⟩
 exact⟨_,rfl,adc_ ahI_ hW' rfl afu_ resultTypes Tryd.underlying4 rfl hp⟩
def wit:Array Value:= #[.slice none 0 0, .int .u8 0]
theorem afU_ (os:Os):laidMet Tryd.prog Rows.mergeOrderUptoRow.laid ((Zr_ os).forCall (fun _ _=>0) ⟨#[],wit,[]⟩).memory:=
 laidMet_of_run' 8 (by kernel_rfl) (by kernel_rfl)
theorem akY_ (os:Os) {H:Type} (enc:TypeId×Value→H): ∃places,DataW.whole enc Tryd.prog ((Zr_ os).forCall (fun _ _=>0) ⟨#[],wit,[]⟩).memory Tryd.f3.params.toList Rows.mergeOrderSpec.vars false wit.toList 8=some ([.nil, .lit (.int .u8 0)],[],places):=
 ⟨[],by kernel_rfl⟩
theorem ajs_ (os:Os) (started:os.Started) (H:Type) (enc:TypeId×Value→H) (F:Stop.Interp):
  ReturnsInHanded {} Tryd.checked os 3 .any ((Rows.OpenSpec.upto Rows.mergeOrderSpec).preRow enc Tryd.prog Tryd.f3 Rows.mergeOrderUptoRow.domain false Rows.mergeOrderUptoRow.laid) (((Rows.OpenSpec.upto Rows.mergeOrderSpec).at F).post enc Tryd.prog Tryd.f3 false true false false):=by
 obtain⟨places,hx⟩:=akY_ os enc
 refine returnsInHanded_of_row (C:=Tryd.checked) (s:=Rows.OpenSpec.upto Rows.mergeOrderSpec) own started (by kernel_rfl) Tryd.func3
  (witness_row_at (enc:=enc) (C:=Tryd.checked) false (Zr_ os) wit rfl (by kernel_rfl) (by kernel_rfl) (by kernel_rfl)
   (OpenSpec.preRow_of_cond 8 hx (by kernel_rfl) (fun k hk=>by cases hk;kernel_rfl) (by kernel_rfl) (afU_ os))) ?_
 intro W base args ds gs before hval hW _ hK _ hL _ _
 exact afE_ H enc W base args ds gs before hval hW hK hL
theorem said:Rows.MergeOrderUptoSaid:=
 OpenClaim.holds_of_cond 3 Tryd.f3 rfl rfl rfl rfl rfl rfl rfl ⟨rfl,rfl,rfl,rfl,rfl⟩ rfl rfl rfl rfl rfl (by kernel_rfl) Tryd.func3 (by kernel_rfl)
  (of_decide_eq_true (by kernel_rfl)) (by unfold Func.isWrapper;first| (rw[if_pos (by decide+kernel)];kernel_rfl) | (rw[if_neg (by decide+kernel)];exact⟨rfl,rfl⟩))
  (fun os started H enc _ F=>by rw[OpenClaim.pre_eq_preRow];exact ajs_ os started H enc F)
theorem plain (f:FuncId) (fn:Func) (hf:Tryd.pinned.checked.prog.funcNamed "sediment/sedimentlaw12.MergeOrder" =some f) (hfn:Tryd.pinned.checked.prog.funcs[f]? =some fn):
  false=Tryd.pinned.checked.prog.looks []∧ ∀ (j:Nat) t,fn.params[j]? =some t→Tryd.pinned.checked.prog.wantsStandIn t=false:=by
 obtain rfl:f=3:=Option.some.inj ((show Tryd.prog.funcNamed "sediment/sedimentlaw12.MergeOrder" =some 3 by kernel_rfl).symm.trans hf) |>.symm
 obtain rfl:fn=Tryd.f3:=(Option.some.inj (Tryd.func3.symm.trans hfn)).symm
 refine⟨by kernel_rfl,fun j t ht=> ?_⟩
 rw[Tryd.params3] at ht
 have hm:t=22∨t=5:=by
  have ht:=Array.mem_of_getElem? ht
  first|simpa using ht| (simp at ht;rcases ht with h|h|h<;>simp[h])
 rcases hm with rfl|rfl
 ·exact(show Tryd.prog.wantsStandIn 22=false by kernel_rfl)
 ·exact(show Tryd.prog.wantsStandIn 5=false by kernel_rfl)
theorem card:Rows.MergeOrderUptoCardSaid:=
 Claim7.holds_tied_plain_at .later [] _ _ _ _ said (fun _ h=>by cases h) (by kernel_rfl) (fun _ h=>by cases h) mergeOrderUpto_row_tie rfl ⟨rfl,rfl⟩ (by kernel_rfl) rfl plain (by kernel_rfl)
end Go.Proofs.YtcakbfbidacnlaaDoor.mergeOrder
