/-
  The law answers true for every input, and its arguments read as they did.
  No conditions.
-/
import Derived.Test.YtfdphhalimbpbaaGreatDoorD4
import Derived.Test.YtfdphhalimbpbaaGreatDoorRows
import Derived.Test.YtfdphhalimbpbaaGreatDoorCards
import Derived.Test.YtfdphhalimbpbaaGreatDoorTie
import Derived.Deep.DeepHandedRow
set_option linter.defProp false
set_option maxRecDepth 100000
set_option maxHeartbeats 40000000
open Go.Proofs.Tryz
namespace Go.Proofs.YtfdphhalimbpbaaGreatDoor.bookStays
open Go Go.Proofs Go.Sx
open Go.ChangeShapes Go.WideShapes Go.ChangeAt Go.RowKit Go.ChangeMaps
theorem MS {H:Type} {d:DataW H}: ∀ {l:List (DataW H)},d∈l→Rows.uptoBulk d≤Rows.uptoBulkAll l
 |e::r,h=>by
  rw[Rows.uptoBulkAll]
  rcases List.mem_cons.1 h with rfl|h
  ·omega
  have:=MS h
  omega
def MH {H:Type} (d:DataW H):1≤Rows.uptoBulk d:=by
 cases d with
 |lit l=>cases l<;>simp[Rows.uptoBulk]
 |_=>simp[Rows.uptoBulk]
theorem Lu {H:Type}: ∀ (l:List (DataW H)),l.length≤Rows.uptoBulkAll l
 | []=>cC _
 |e::r=>by
  rw[Rows.uptoBulkAll,List.length_cons]
  have:=MH e
  have:=Lu r
  omega
def own:ownKnob Tryz.prog.godebug=none:=by kernel_rfl
def PB:laidOutB prog=true:=by kernel_rfl
def hvZ:List Int:=hvL.map fun x=>(x.toNat:Int)
def NJ {H:Type}: (Rows.laid_sediment_crc_halves:DataW H)=Lib.tabData .u32 hvZ:=by rfl
def Ni {H:Type}: (Rows.laid_sediment_disk_order:DataW H)= .agg [.lit (.string jm), .lit (.string jP), .lit (.string aJ)]:=by rfl
def OR:Tryz.prog.cellsOf 414=16:=by kernel_rfl
def Pw:Tryz.prog.cellsOf 250=1:=by kernel_rfl
def glob {W:World} (h:laidMet prog [("sediment/crc.halves",Rows.laid_sediment_crc_halves),("sediment/disk.order",Rows.laid_sediment_disk_order)] W):n8 W∧GlobC W:=by
 obtain⟨ps,hv,-⟩:=h
 obtain⟨e0,f0,h0⟩:=GG (P:=prog) (g:=4) kR (Ur (P:=prog) (name:= "sediment/crc.halves") (k:= .u32) (zs:=hvZ) (t:=414) (e:=250) (n:=16) (g:=4) kR kR underlying414 underlying250 Pw OR hv (by rw[←NJ];exact .head _))
 refine⟨V6 hv (by rw[Ni];exact .tail _ (.head _)),e0,f0, ?_⟩
 rw[h0,hvZ,List.map_map];rfl
def yn (a:Array Value):Obj→Obj
 | .cells _ t frozen=> .cells a t frozen
 |o=>o
noncomputable def Dj (os:Os):World:=
 {World.holding prog os ⟨#[], #[],[]⟩ with heap:=((World.holding prog os ⟨#[], #[],[]⟩).heap.modify 4 (yn (a32 hvL))).modify 0 (yn #[vs jm,vs jP,vs aJ])}
def Mf: ∀t∈Tryz.f10.params.toList,Tryz.prog.readableRec t=true∧t<Tryz.prog.types.size:=by
 intro t ht
 have hm:t=81∨t=67∨t=5∨t=65:=by
  rw[params10] at ht
  first|simpa using ht| (simp at ht;rcases ht with h|h|h|h<;>simp[h])
 rcases hm with rfl|rfl|rfl|rfl
 ·exact⟨by kernel_rfl,of_decide_eq_true kR⟩
 ·exact⟨by kernel_rfl,of_decide_eq_true kR⟩
 ·exact⟨by kernel_rfl,of_decide_eq_true kR⟩
 exact⟨by kernel_rfl,of_decide_eq_true kR⟩
theorem resultTypes:Tryz.f10.resultTypes= #[4]:=by kernel_rfl
def MI (H:Type) (enc:TypeId×Value→H) (W:World) (base:Nat) (args:Array Value) (ds gs:List (DataW H)) (before:List MemPlace)
  (bJ: ∀ (j:Nat) t v,Tryz.f10.params[j]? =some t→args[j]? =some v→Value.okWide prog W .any base t v)
  (hW:DataW.Whole enc prog Tryz.f10.params.toList Rows.bookStaysSpec.vars false W args.toList ds gs before) (hL:laidMetH prog Rows.bookStaysRow.laid W):
  Calls prog 10 args W fun e W'=> ∃v,e= .returned v∧Rows.bookStaysSpec.post enc prog Tryz.f10 false true false false W args v W':=by
 have VZ:=hW
 obtain⟨p,q,iM,hV,rfl,kl,ay⟩:=hW
 have hA:DataW.TrodAll enc prog W 0 (fun _=>true) true Tryz.f10.params.toList args.toList ds p:=iM
 rw[params10] at hA bJ
 obtain⟨v0,vs0,d0,ds0,p0,q0,mI,rfl,rfl,h0,r0⟩:=trodAll_cons hA
 obtain⟨v1,vs1,d1,ds1,p1,q1,rfl,rfl,rfl,h1,r1⟩:=trodAll_cons r0
 obtain⟨v2,vs2,d2,ds2,p2,q2,rfl,rfl,rfl,h2,r2⟩:=trodAll_cons r1
 obtain⟨v3,vs3,d3,ds3,p3,q3,rfl,rfl,rfl,h3,r3⟩:=trodAll_cons r2
 obtain⟨rfl,rfl,rfl⟩:=trodAll_nil r3
 obtain rfl:args= #[v0,v1,v2,v3]:=by cases args;simp_all
 obtain⟨l0,uF,At⟩:=G5 (bJ 0 81 v0 rfl rfl) h0
 obtain⟨k1,rfl,mZ,hi1⟩:=Jm (bJ 1 67 v1 rfl rfl) h1
 obtain⟨n2,rfl,rfl,rfl,eW⟩:=open_int underlying5 (bJ 2 5 v2 rfl rfl) h2
 obtain⟨c2,d9⟩:=Qa eW
 rw[d9] at VZ ⊢
 obtain⟨k3,rfl,hx3⟩:=M0 h3 (J8 (bJ 3 65 v3 rfl rfl))
 have hG:=glob hL
 refine Calls.mono (W_ v0 l0 k1 c2 k3 W hG.1 hG.2 uF (fun a ha=>(At a ha).1) mZ hx3) ?_
 rintro e W' ⟨v,D,rfl,hp,rfl,rfl⟩
 exact⟨_,rfl,LJ PB VZ rfl Mf resultTypes underlying4 rfl hp⟩
def wit:Array Value:= #[.slice none 0 0, .agg (#[.int .i64 0, .int .i64 0, .string ByteArray.empty]++Array.replicate 32 (.int .u8 0)++ #[.bool false, .slice none 0 0]), .int .u8 0, .slice none 0 0]
def NT (os:Os):laidMet prog Rows.bookStaysRow.laid ((Dj os).forCall (fun _ _=>0) ⟨#[],wit,[]⟩).memory:=
 laidMet_of_run' 8 kR kR
def QJ (os:Os) {H:Type} (enc:TypeId×Value→H): ∃places,DataW.whole enc prog ((Dj os).forCall (fun _ _=>0) ⟨#[],wit,[]⟩).memory Tryz.f10.params.toList Rows.bookStaysSpec.vars false wit.toList 8=some ([.nil, .agg [.lit (.int .i64 0), .lit (.int .i64 0), .lit (.string []), .agg (List.replicate 32 (.lit (.int .u8 0))), .lit (.bool false), .nil], .lit (.int .u8 0), .nil],[],places):=
 ⟨[],by kernel_rfl⟩
def lifted (os:Os) (started:os.Started) (H:Type) (enc:TypeId×Value→H) (F:Stop.Interp):
  ReturnsInHanded {} checked os 10 .any ((OpenSpec.ofChange Rows.bookStaysSpec).preRow enc prog Tryz.f10 Rows.bookStaysRow.domain false Rows.bookStaysRow.laid) (((OpenSpec.ofChange Rows.bookStaysSpec).at F).post enc prog Tryz.f10 false true false false):=by
 obtain⟨places,hx⟩:=QJ os enc
 refine returnsInHanded_of_row (C:=checked) (s:=OpenSpec.ofChange Rows.bookStaysSpec) own started kR func10
  (witness_row_at (enc:=enc) (C:=checked) false (Dj os) wit rfl kR kR kR
   (OpenSpec.preRow_of_cond 8 hx kR (fun k hk=>by cases hk) kR (NT os))) ?_
 intro W base args ds gs before bJ hW _ _ _ hL _ _
 exact MI H enc W base args ds gs before bJ hW hL
end Go.Proofs.YtfdphhalimbpbaaGreatDoor.bookStays
