/-
  The law answers true for every input, and its arguments read as they did.
  No conditions.
-/
import Derived.Test.YtfdphhalimbpbaaGreatDoorC5
import Derived.Test.YtfdphhalimbpbaaGreatDoorRows
import Derived.Test.YtfdphhalimbpbaaGreatDoorCards
import Derived.Test.YtfdphhalimbpbaaGreatDoorTie
import Derived.Deep.DeepHandedRow
set_option linter.defProp false
set_option maxRecDepth 100000
set_option maxHeartbeats 40000000
open Go.Proofs.Tryz
namespace Go.Proofs.YtfdphhalimbpbaaGreatDoor.bookTwice
open Go Go.Proofs Go.Sx
open Go.ChangeShapes Go.WideShapes Go.ChangeAt Go.RowKit Go.ChangeMaps
theorem wB {H:Type} {d:DataW H}: ∀ {l:List (DataW H)},d∈l→Rows.uptoBulk d≤Rows.uptoBulkAll l
 |e::r,h=>by
  rw[Rows.uptoBulkAll]
  rcases List.mem_cons.1 h with rfl|h
  ·omega
  have:=wB h
  omega
def WC {H:Type} (d:DataW H):1≤Rows.uptoBulk d:=by
 cases d with
 |lit l=>cases l<;>simp[Rows.uptoBulk]
 |_=>simp[Rows.uptoBulk]
theorem Vo {H:Type}: ∀ (l:List (DataW H)),l.length≤Rows.uptoBulkAll l
 | []=>aq _
 |e::r=>by
  rw[Rows.uptoBulkAll,List.length_cons]
  have:=WC e
  have:=Vo r
  omega
def own:ownKnob Tryz.prog.godebug=none:=by kernel_rfl
def YB:laidOutB prog=true:=by kernel_rfl
def hvZ:List Int:=hvL.map fun x=>(x.toNat:Int)
def WH {H:Type}: (Rows.laid_sediment_crc_halves:DataW H)=Lib.tabData .u32 hvZ:=by rfl
def YW {H:Type}: (Rows.laid_sediment_disk_order:DataW H)= .agg [.lit (.string mc), .lit (.string lu), .lit (.string aJ)]:=by rfl
def XN:Tryz.prog.cellsOf 414=16:=by kernel_rfl
def Z3:Tryz.prog.cellsOf 250=1:=by kernel_rfl
def glob {W:World} (h:laidMet prog [("sediment/crc.halves",Rows.laid_sediment_crc_halves),("sediment/disk.order",Rows.laid_sediment_disk_order)] W):oX W∧GlobC W:=by
 obtain⟨ps,hv,-⟩:=h
 obtain⟨e0,f0,h0⟩:=Oy (P:=prog) (g:=4) kR (WA_ (P:=prog) (name:= "sediment/crc.halves") (k:= .u32) (zs:=hvZ) (t:=414) (e:=250) (n:=16) (g:=4) kR kR underlying414 underlying250 Z3 XN hv (by rw[←WH];exact .head _))
 refine⟨Ju_ hv (by rw[YW];exact .tail _ (.head _)),e0,f0, ?_⟩
 rw[h0,hvZ,List.map_map];rfl
def Fi (a:Array Value):Obj→Obj
 | .cells _ t frozen=> .cells a t frozen
 |o=>o
noncomputable def Kp (os:Os):World:=
 {World.holding prog os ⟨#[], #[],[]⟩ with heap:=((World.holding prog os ⟨#[], #[],[]⟩).heap.modify 4 (Fi (a32 hvL))).modify 0 (Fi #[vs mc,vs lu,vs aJ])}
def W2: ∀t∈Tryz.f12.params.toList,Tryz.prog.readableRec t=true∧t<Tryz.prog.types.size:=by
 intro t ht
 have hm:t=81∨t=94∨t=5∨t=65:=by
  rw[params12] at ht
  first|simpa using ht| (simp at ht;rcases ht with h|h|h|h<;>simp[h])
 rcases hm with rfl|rfl|rfl|rfl
 ·exact⟨by kernel_rfl,of_decide_eq_true kR⟩
 ·exact⟨by kernel_rfl,of_decide_eq_true kR⟩
 ·exact⟨by kernel_rfl,of_decide_eq_true kR⟩
 exact⟨by kernel_rfl,of_decide_eq_true kR⟩
theorem resultTypes:Tryz.f12.resultTypes= #[4]:=by kernel_rfl
def WD (H:Type) (enc:TypeId×Value→H) (W:World) (base:Nat) (args:Array Value) (ds gs:List (DataW H)) (before:List MemPlace)
  (cR: ∀ (j:Nat) t v,Tryz.f12.params[j]? =some t→args[j]? =some v→Value.okWide prog W .any base t v)
  (hW:DataW.Whole enc prog Tryz.f12.params.toList Rows.bookTwiceSpec.vars false W args.toList ds gs before) (hK: ∀k,(Rows.OpenSpec.upto Rows.bookTwiceSpec).cond=some k→k H (ds++gs)=true) (hL:laidMetH prog Rows.bookTwiceUptoRow.laid W):
  Calls prog 12 args W fun e W'=> ∃v,e= .returned v∧Rows.bookTwiceSpec.post enc prog f12 false true false false W args v W':=by
 have hW':=hW
 obtain⟨p,q,tC,hV,rfl,hfz,ao⟩:=hW
 have hA:DataW.TrodAll enc prog W 0 (fun _=>true) true Tryz.f12.params.toList args.toList ds p:=tC
 rw[params12] at hA cR
 obtain⟨v0,vs0,d0,ds0,p0,q0,qL,rfl,rfl,h0,r0⟩:=trodAll_cons hA
 obtain⟨v1,vs1,d1,ds1,p1,q1,rfl,rfl,rfl,h1,r1⟩:=trodAll_cons r0
 obtain⟨v2,vs2,d2,ds2,p2,q2,rfl,rfl,rfl,h2,r2⟩:=trodAll_cons r1
 obtain⟨v3,vs3,d3,ds3,p3,q3,rfl,rfl,rfl,h3,r3⟩:=trodAll_cons r2
 obtain⟨rfl,rfl,rfl⟩:=trodAll_nil r3
 obtain rfl:args= #[v0,v1,v2,v3]:=by cases args;simp_all
 have hB:Rows.uptoBulkAll ([d0,d1,d2,d3]++gs)≤1048576:=of_decide_eq_true (hK _ rfl)
 obtain⟨l0,tS,hx0⟩:=Og (cR 0 81 v0 rfl rfl) h0
 have aO:=Nat.le_trans (wB (d:=d1) (by simp)) hB
 obtain⟨l1,mJ,lU⟩:=Ph (cR 1 94 v1 rfl rfl) h1
 have hx1:FiB l1:=by
  rcases lU with rfl| ⟨es,sp',rfl,gC⟩
  ·intro s hs;cases hs
  intro s hs
  obtain⟨g,hg,rfl⟩:=List.getElem_of_mem hs
  obtain⟨e,he,rfl⟩:=gC g hg
  have h1:=wB he
  rw[show l1.getD g fi0=l1[g] from by rw[List.getD_eq_getElem?_getD,List.getElem?_eq_getElem hg];rfl] at h1
  simp only[Rows.uptoBulk,Rows.uptoBulkAll] at h1 aO
  omega
 obtain⟨n2,rfl,rfl,rfl,bR⟩:=open_int underlying5 (cR 2 5 v2 rfl rfl) h2
 obtain⟨c2,dy⟩:=Zl bR
 rw[dy] at hW' ⊢
 obtain⟨k3,rfl,hx3⟩:=Uj h3 (Rp (cR 3 65 v3 rfl rfl))
 have hG:=glob hL
 refine Calls.mono (MT v0 v1 l0 l1 c2 k3 W hG.1 hG.2 tS (fun a ha=>(hx0 a ha).1) mJ hx1 hx3) ?_
 rintro e W' ⟨v,D,rfl,hp,rfl,rfl⟩
 exact⟨_,rfl,Tu YB hW' rfl W2 resultTypes underlying4 rfl hp⟩
def wit:Array Value:= #[.slice none 0 0, .slice none 0 0, .int .u8 0, .slice none 0 0]
def Wr (os:Os):laidMet prog Rows.bookTwiceUptoRow.laid ((Kp os).forCall (fun _ _=>0) ⟨#[],wit,[]⟩).memory:=
 laidMet_of_run' 8 kR kR
def axk_ (os:Os) {H:Type} (enc:TypeId×Value→H): ∃places,DataW.whole enc prog ((Kp os).forCall (fun _ _=>0) ⟨#[],wit,[]⟩).memory Tryz.f12.params.toList Rows.bookTwiceSpec.vars false wit.toList 8=some ([.nil, .nil, .lit (.int .u8 0), .nil],[],places):=
 ⟨[],by kernel_rfl⟩
def lifted (os:Os) (started:os.Started) (H:Type) (enc:TypeId×Value→H) (F:Stop.Interp):
  ReturnsInHanded {} checked os 12 .any ((Rows.OpenSpec.upto Rows.bookTwiceSpec).preRow enc prog f12 Rows.bookTwiceUptoRow.domain false Rows.bookTwiceUptoRow.laid) (((Rows.OpenSpec.upto Rows.bookTwiceSpec).at F).post enc prog f12 false true false false):=by
 obtain⟨places,hx⟩:=axk_ os enc
 refine returnsInHanded_of_row (C:=checked) (s:=Rows.OpenSpec.upto Rows.bookTwiceSpec) own started kR func12
  (witness_row_at (enc:=enc) (C:=checked) false (Kp os) wit rfl kR kR kR
   (OpenSpec.preRow_of_cond 8 hx kR (fun k hk=>by cases hk;kernel_rfl) kR (Wr os))) ?_
 intro W base args ds gs before cR hW _ hK _ hL _ _
 exact WD H enc W base args ds gs before cR hW hK hL
end Go.Proofs.YtfdphhalimbpbaaGreatDoor.bookTwice
