/-
  The law answers true for every input, and its arguments read as they did.
  No conditions.
-/
import Derived.Test.YtldgnkgllhmnbaaGreatDoorH6
import Derived.Test.YtldgnkgllhmnbaaGreatDoorRows
import Derived.Test.YtldgnkgllhmnbaaGreatDoorCards
import Derived.Test.YtldgnkgllhmnbaaGreatDoorTie
import Derived.Deep.DeepHandedRow
set_option linter.unusedVariables false
set_option linter.defProp false
set_option maxRecDepth 100000
set_option maxHeartbeats 40000000
open Go.Proofs.Tryz
namespace Go.Proofs.YtldgnkgllhmnbaaGreatDoor.bookPlays
open Go Go.Proofs Go.Sx
open Go.ChangeShapes Go.WideShapes Go.ChangeAt Go.RowKit Go.ChangeMaps
theorem nR{H:Type}{d:DataW H}:∀ {l:List (DataW H)},d∈l->Rows.uptoBulk d<=Rows.uptoBulkAll l
 |e::r,h=>by
  rw[Rows.uptoBulkAll];rcases Vw.1 h with rfl|h
  .omega
  have:=nR h;omega
def PD{H:Type}(d:DataW H):1<=Rows.uptoBulk d:=by
 cases d with
 |lit l=>cases l<;>simp[Rows.uptoBulk]
 |_=>simp[Rows.uptoBulk]
theorem Mm{H:Type}:∀ (l:List (DataW H)),l.length<=Rows.uptoBulkAll l
 | []=>aR _
 |e::r=>by rw[Rows.uptoBulkAll,Wt];have:=PD e;have:=Mm r;omega
def own:ownKnob Tryz.prog.godebug=none:=by kernel_rfl
def Qd:laidOutB prog=true:=by kernel_rfl
def hvZ:List Int:=hvL.map fun x=>(x.toNat:Int)
def OT{H:Type}:(Rows.laid_sediment_crc_halves:DataW H)=Lib.tabData .u32 hvZ:=by rfl
def Qv{H:Type}:(Rows.laid_sediment_disk_order:DataW H)=.agg [.lit (.string gZ),.lit (.string gG),.lit (.string aJ)]:=by rfl
def QO:Tryz.prog.cellsOf 313=16:=by kernel_rfl
def Rh:Tryz.prog.cellsOf 223=1:=by kernel_rfl
def glob{W:hW}(h:laidMet prog [("sediment/crc.halves",Rows.laid_sediment_crc_halves),("sediment/disk.order",Rows.laid_sediment_disk_order)] W):jT W/\Wz W:=by obtain⟨ps,a,-⟩:=h;obtain⟨b,c,d⟩:=HA (P:=prog) (g:=1) kR (Ug (P:=prog) (name:= "sediment/crc.halves") (k:=.u32) (zs:=hvZ) (t:=313) (e:=223) (n:=16) (g:=1) kR kR underlying313 underlying223 Rh QO a (by rw[<-OT];exact .head _));refine⟨Tr a (by rw[Qv];exact .tail _ (.head _)),b,c,?_⟩;rw[d,hvZ,List.map_map];rfl
def AS(a:Array hU):Obj->Obj
 | .cells _ t frozen=>.cells a t frozen
 |o=>o
noncomputable def Dn(os:Os):hW:=
 {World.holding prog os ⟨#[],#[],[]⟩ with heap:=((World.holding prog os ⟨#[],#[],[]⟩).heap.modify 1 (AS (a32 hvL))).modify 0 (AS #[vs gZ,vs gG,vs aJ])}
def P4:∀t∈Tryz.f3.params.toList,Tryz.prog.readableRec t=true/\t<Tryz.prog.types.size:=by
 intro t a;have b:t=3\/t=22\/t=23:=by
  rw[params3] at a
  first|simpa using a| (simp at a;rcases a with h|h|h<;>simp[h])
 rcases b with rfl|rfl|rfl
 .exact⟨by kernel_rfl,Zu kR⟩
 .exact⟨by kernel_rfl,Zu kR⟩
 exact⟨by kernel_rfl,Zu kR⟩
theorem resultTypes:Tryz.f3.resultTypes=#[4]:=by kernel_rfl
def PE(H:Type)(enc:h7×hU->H)(W:hW)(base:Nat)(b:Array hU)(i l:List (DataW H))(B:List MemPlace)
  (c:∀ (j:Nat) t v,Tryz.f3.params[j]? =some t->b[j]? =some v->Value.okWide prog W .any base t v)
  (q:DataW.Whole enc prog Tryz.f3.params.toList Rows.bookPlaysSpec.vars false W b.toList i l B) (C:∀k,(Rows.OpenSpec.upto Rows.bookPlaysSpec).cond=some k->k H (i++l)=true) (E:laidMetH prog Rows.bookPlaysUptoRow.laid W):
  Calls prog 3 b W fun e r=> ∃v,e=.returned v/\Rows.bookPlaysSpec.post enc prog Tryz.f3 false true false false W b v r:=by
 have F:=q;obtain⟨p,zb,G,hV,rfl,zc,zd⟩:=q;have u:DataW.TrodAll enc prog W 0 (fun _=>true) true Tryz.f3.params.toList b.toList i p:=G;rw[params3] at u c;obtain⟨w,ze,I,zf,p0,q0,zg,rfl,rfl,J,K⟩:=trodAll_cons u;obtain⟨v1,zh,x,zi,p1,q1,rfl,rfl,rfl,f,L⟩:=trodAll_cons K;obtain⟨v2,zj,M,zk,p2,q2,rfl,rfl,rfl,N,O⟩:=trodAll_cons L;obtain⟨rfl,rfl,rfl⟩:=trodAll_nil O;obtain rfl:b=#[w,v1,v2]:=by cases b;simp_all
 have P:Rows.uptoBulkAll ([I,x,M]++l)<=1048576:=Zu (C _ rfl);obtain⟨n0,rfl,rfl,rfl,m⟩:=open_int underlying3 (c 0 3 w rfl rfl) J;have Q: -9223372036854775808<=n0/\n0<9223372036854775808:=by
  simp only[Lit.wf,WK,XN] at m;have R:(-9223372036854775808:Int)<=n0:=by simpa [IntKind.min,IntKind.bits,IntKind.signed] using m.1
  have g2:n0<=9223372036854775807:=by simpa [IntKind.max,IntKind.bits,IntKind.signed] using m.2
  exact⟨R,by omega⟩
 have S:=Xq (nR (d:=x) V_) P;obtain⟨h,T,U⟩:=Hu (c 1 22 v1 rfl rfl) f;have V:FiB h:=by
  rcases U with rfl| ⟨es,zl,rfl,X⟩
  .intro s n;cases n
  intro s n;obtain⟨g,y,rfl⟩:=List.getElem_of_mem n;obtain⟨e,Y,rfl⟩:=X g y;have f:=nR Y;rw[show h.getD g XH=h[g] from by rw[List.getD_eq_getElem?_getD,List.getElem?_eq_getElem y];rfl] at f;simp only[Rows.uptoBulk,Rows.uptoBulkAll] at f S;omega
 obtain⟨Z,za,z⟩:=H2 (c 2 23 v2 rfl rfl) N;have A:=glob E;refine Calls.mono (Ef n0 v1 v2 h Z W A.1 A.2 Q T V za (fun a o=>(z a o).1) (fun a o=>(z a o).2)) ?_;rintro e r ⟨v,D,rfl,hp,rfl,rfl⟩;exact⟨_,rfl,Li Qd F rfl P4 resultTypes underlying4 rfl hp⟩
def wit:Array hU:=#[.int .i64 0, Vj, Vj]
def Oi(os:Os):laidMet prog Rows.bookPlaysUptoRow.laid ((Dn os).forCall (fun _ _=>0) ⟨#[],wit,[]⟩).memory:=
 laidMet_of_run' 8 kR kR
def TA(os:Os){H:Type}(enc:h7×hU->H):∃a,DataW.whole enc prog ((Dn os).forCall (fun _ _=>0) ⟨#[],wit,[]⟩).memory Tryz.f3.params.toList Rows.bookPlaysSpec.vars false wit.toList 8=some ([.lit (.int .i64 0),.nil,.nil],[],a):=
 ⟨[],by kernel_rfl⟩
def lifted(os:Os)(a:os.Started)(H:Type)(enc:h7×hU->H)(F:Stop.Interp):
  ReturnsInHanded {} checked os 3 .any ((Rows.OpenSpec.upto Rows.bookPlaysSpec).preRow enc prog Tryz.f3 Rows.bookPlaysUptoRow.domain false Rows.bookPlaysUptoRow.laid) (((Rows.OpenSpec.upto Rows.bookPlaysSpec).at F).post enc prog Tryz.f3 false true false false):=by
 obtain⟨n,b⟩:=TA os enc;refine returnsInHanded_of_row (C:=checked) (s:=Rows.OpenSpec.upto Rows.bookPlaysSpec) own a kR func3
  (witness_row_at (enc:=enc) (C:=checked) false (Dn os) wit rfl kR kR kR
   (OpenSpec.preRow_of_cond 8 b kR (fun k c=>by cases c;kernel_rfl) kR (Oi os))) ?_
 intro W d e f g h i j _ l _ m _ _;exact PE H enc W d e f g h i j l m
end Go.Proofs.YtldgnkgllhmnbaaGreatDoor.bookPlays
