/-
  Part 1 of the walk: contracts of the functions that the law reaches, and the calculus they stand on.
  No conditions.
-/
import Derived.Test.YtejnodepkhldgaaGreatDoorG0
import Derived.Test.YtejnodepkhldgaaGreatDoorProg
import Derived.RangeFuncLeaves
import Derived.RangeFuncIn
import Derived.RangeFuncSeq
import Derived.RangeFuncRecord
import Derived.TacticsIn
set_option linter.unusedVariables false
section
open Go Go.Proofs Go.Sx
namespace Go.Proofs
theorem Tryz.ix23:ixT Tryz.prog 23= .sl (true,32):=id (by kernel_rfl)
theorem Tryz.ix22:ixT Tryz.prog 22= .sl (true,2):=id (by kernel_rfl)
theorem Tryz.ix47:ixT Tryz.prog 47= .sl (false,1):=id (by kernel_rfl)
theorem Tryz.ix9:ixT Tryz.prog 9= .str:=id (by kernel_rfl)
theorem Tryz.ix68:ixT Tryz.prog 68= .sl (true,34):=id (by kernel_rfl)
theorem Tryz.ix77:ixT Tryz.prog 77= .sl (true,3):=id (by kernel_rfl)
theorem Tryz.ix116:ixT Tryz.prog 116= .sl (false,1):=id (by kernel_rfl)
theorem Tryz.ix42:ixT Tryz.prog 42= .arr 32 (false,1):=id (by kernel_rfl)
theorem Tryz.ix110:ixT Tryz.prog 110= .sl (true,4):=id (by kernel_rfl)
theorem Tryz.ix94:ixT Tryz.prog 94= .sl (true,34):=id (by kernel_rfl)
theorem Tryz.ix149:ixT Tryz.prog 149= .arr 8 (false,1):=id (by kernel_rfl)
theorem Tryz.ix113:ixT Tryz.prog 113= .arr 4 (false,1):=id (by kernel_rfl)
theorem Tryz.ix174:ixT Tryz.prog 174= .arr 4 (false,1):=id (by kernel_rfl)
theorem Tryz.ix185:ixT Tryz.prog 185= .arr 8 (false,1):=id (by kernel_rfl)
theorem Tryz.ix186:ixT Tryz.prog 186= .arr 64 (false,1):=id (by kernel_rfl)
theorem Tryz.ix109:ixT Tryz.prog 109= .sl (false,1):=id (by kernel_rfl)
theorem Tryz.ix211:ixT Tryz.prog 211= .arr 4 (false,1):=id (by kernel_rfl)
theorem Tryz.ix151:ixT Tryz.prog 151= .arr 64 (false,1):=id (by kernel_rfl)
theorem Tryz.ix205:ixT Tryz.prog 205= .sl (true,2):=id (by kernel_rfl)
theorem Tryz.ix239:ixT Tryz.prog 239= .sl (false,1):=id (by kernel_rfl)
theorem Tryz.ix242:ixT Tryz.prog 242= .arr 16 (false,1):=id (by kernel_rfl)
theorem Tryz.ix112:ixT Tryz.prog 112= .arr 4 (false,1):=id (by kernel_rfl)
theorem Tryz.ag29:z3_ Tryz.prog 29=some (true,2):=id (by kernel_rfl)
theorem Tryz.ag42:z3_ Tryz.prog 42=some (true,32):=id (by kernel_rfl)
theorem Tryz.ag38:z3_ Tryz.prog 38=some (true,2):=id (by kernel_rfl)
theorem Tryz.ag3:z3_ Tryz.prog 3=some (false,1):=id (by kernel_rfl)
theorem Tryz.ag9:z3_ Tryz.prog 9=some (false,1):=id (by kernel_rfl)
theorem Tryz.ag60:z3_ Tryz.prog 60=some (true,2):=id (by kernel_rfl)
theorem Tryz.ag22:z3_ Tryz.prog 22=some (false,1):=id (by kernel_rfl)
theorem Tryz.ag23:z3_ Tryz.prog 23=some (false,1):=id (by kernel_rfl)
theorem Tryz.ag64:z3_ Tryz.prog 64=some (true,1):=id (by kernel_rfl)
theorem Tryz.ag62:z3_ Tryz.prog 62=some (false,1):=id (by kernel_rfl)
theorem Tryz.ag70:z3_ Tryz.prog 70=some (true,34):=id (by kernel_rfl)
theorem Tryz.ag87:z3_ Tryz.prog 87=some (true,3):=id (by kernel_rfl)
theorem Tryz.ag77:z3_ Tryz.prog 77=some (false,1):=id (by kernel_rfl)
theorem Tryz.ag47:z3_ Tryz.prog 47=some (false,1):=id (by kernel_rfl)
theorem Tryz.ag92:z3_ Tryz.prog 92=some (true,4):=id (by kernel_rfl)
theorem Tryz.ag84:z3_ Tryz.prog 84=some (false,1):=id (by kernel_rfl)
theorem Tryz.ag98:z3_ Tryz.prog 98=some (true,34):=id (by kernel_rfl)
theorem Tryz.ag72:z3_ Tryz.prog 72=some (false,1):=id (by kernel_rfl)
theorem Tryz.ag122:z3_ Tryz.prog 122=some (true,2):=id (by kernel_rfl)
theorem Tryz.ag126:z3_ Tryz.prog 126=some (true,3):=id (by kernel_rfl)
theorem Tryz.ag4:z3_ Tryz.prog 4=some (false,1):=id (by kernel_rfl)
theorem Tryz.ag130:z3_ Tryz.prog 130=some (true,3):=id (by kernel_rfl)
theorem Tryz.ag140:z3_ Tryz.prog 140=some (true,3):=id (by kernel_rfl)
theorem Tryz.ag142:z3_ Tryz.prog 142=some (true,34):=id (by kernel_rfl)
theorem Tryz.ag149:z3_ Tryz.prog 149=some (true,8):=id (by kernel_rfl)
theorem Tryz.ag148:z3_ Tryz.prog 148=some (false,1):=id (by kernel_rfl)
theorem Tryz.ag5:z3_ Tryz.prog 5=some (false,1):=id (by kernel_rfl)
theorem Tryz.ag154:z3_ Tryz.prog 154=some (true,75):=id (by kernel_rfl)
theorem Tryz.ag113:z3_ Tryz.prog 113=some (true,4):=id (by kernel_rfl)
theorem Tryz.ag111:z3_ Tryz.prog 111=some (false,1):=id (by kernel_rfl)
theorem Tryz.ag174:z3_ Tryz.prog 174=some (true,4):=id (by kernel_rfl)
theorem Tryz.ag31:z3_ Tryz.prog 31=some (false,1):=id (by kernel_rfl)
theorem Tryz.ag176:z3_ Tryz.prog 176=some (false,1):=id (by kernel_rfl)
theorem Tryz.ag185:z3_ Tryz.prog 185=some (true,8):=id (by kernel_rfl)
theorem Tryz.ag186:z3_ Tryz.prog 186=some (true,64):=id (by kernel_rfl)
theorem Tryz.ag152:z3_ Tryz.prog 152=some (false,1):=id (by kernel_rfl)
theorem Tryz.ag194:z3_ Tryz.prog 194=some (false,1):=id (by kernel_rfl)
theorem Tryz.ag109:z3_ Tryz.prog 109=some (false,1):=id (by kernel_rfl)
theorem Tryz.ag211:z3_ Tryz.prog 211=some (true,4):=id (by kernel_rfl)
theorem Tryz.ag213:z3_ Tryz.prog 213=some (true,36):=id (by kernel_rfl)
theorem Tryz.ag210:z3_ Tryz.prog 210=some (false,1):=id (by kernel_rfl)
theorem Tryz.ag220:z3_ Tryz.prog 220=some (true,2):=id (by kernel_rfl)
theorem Tryz.ag118:z3_ Tryz.prog 118=some (false,1):=id (by kernel_rfl)
theorem Tryz.ag94:z3_ Tryz.prog 94=some (false,1):=id (by kernel_rfl)
theorem Tryz.ag238:z3_ Tryz.prog 238=some (true,2):=id (by kernel_rfl)
theorem Tryz.ag236:z3_ Tryz.prog 236=some (false,1):=id (by kernel_rfl)
theorem Tryz.ag242:z3_ Tryz.prog 242=some (true,16):=id (by kernel_rfl)
theorem Tryz.ag112:z3_ Tryz.prog 112=some (true,4):=id (by kernel_rfl)
theorem Tryz.zr42:zG_ Tryz.prog 42=some (.agg (a8 (List.replicate 32 0))):=id (by kernel_rfl)
theorem Tryz.zr9:zG_ Tryz.prog 9=some (vs []):=id (by kernel_rfl)
theorem Tryz.zr122:zG_ Tryz.prog 122=some (.agg #[(.pointer none),(.slice none 0 0)]):=id (by kernel_rfl)
theorem Tryz.zr149:zG_ Tryz.prog 149=some (.agg (a32 (List.replicate 8 0))):=id (by kernel_rfl)
theorem Tryz.zr174:zG_ Tryz.prog 174=some (.agg (a8 (List.replicate 4 0))):=id (by kernel_rfl)
theorem Tryz.zr185:zG_ Tryz.prog 185=some (.agg (a8 (List.replicate 8 0))):=id (by kernel_rfl)
theorem Tryz.zr186:zG_ Tryz.prog 186=some (.agg (a32 (List.replicate 64 0))):=id (by kernel_rfl)
theorem Tryz.zr5:zG_ Tryz.prog 5=some (v8 0):=id (by kernel_rfl)
theorem Tryz.fl38_0:j3_ Tryz.prog 38 0=some (0,(false,1)):=id (by kernel_rfl)
theorem Tryz.fl38_1:j3_ Tryz.prog 38 1=some (1,(false,1)):=id (by kernel_rfl)
theorem Tryz.fl29_0:j3_ Tryz.prog 29 0=some (0,(false,1)):=id (by kernel_rfl)
theorem Tryz.fl29_1:j3_ Tryz.prog 29 1=some (1,(false,1)):=id (by kernel_rfl)
theorem Tryz.fl60_0:j3_ Tryz.prog 60 0=some (0,(false,1)):=id (by kernel_rfl)
theorem Tryz.fl60_1:j3_ Tryz.prog 60 1=some (1,(false,1)):=id (by kernel_rfl)
theorem Tryz.fl64_0:j3_ Tryz.prog 64 0=some (0,(false,1)):=id (by kernel_rfl)
theorem Tryz.fl70_0:j3_ Tryz.prog 70 0=some (0,(true,2)):=id (by kernel_rfl)
theorem Tryz.fl87_1:j3_ Tryz.prog 87 1=some (1,(false,1)):=id (by kernel_rfl)
theorem Tryz.fl87_2:j3_ Tryz.prog 87 2=some (2,(false,1)):=id (by kernel_rfl)
theorem Tryz.fl87_0:j3_ Tryz.prog 87 0=some (0,(false,1)):=id (by kernel_rfl)
theorem Tryz.fl92_0:j3_ Tryz.prog 92 0=some (0,(false,1)):=id (by kernel_rfl)
theorem Tryz.fl70_1:j3_ Tryz.prog 70 1=some (2,(true,32)):=id (by kernel_rfl)
theorem Tryz.fl126_0:j3_ Tryz.prog 126 0=some (0,(false,1)):=id (by kernel_rfl)
theorem Tryz.fl126_1:j3_ Tryz.prog 126 1=some (1,(false,1)):=id (by kernel_rfl)
theorem Tryz.fl126_2:j3_ Tryz.prog 126 2=some (2,(false,1)):=id (by kernel_rfl)
theorem Tryz.fl130_1:j3_ Tryz.prog 130 1=some (1,(false,1)):=id (by kernel_rfl)
theorem Tryz.fl130_0:j3_ Tryz.prog 130 0=some (0,(false,1)):=id (by kernel_rfl)
theorem Tryz.fl92_2:j3_ Tryz.prog 92 2=some (2,(false,1)):=id (by kernel_rfl)
theorem Tryz.fl92_3:j3_ Tryz.prog 92 3=some (3,(false,1)):=id (by kernel_rfl)
theorem Tryz.fl140_2:j3_ Tryz.prog 140 2=some (2,(false,1)):=id (by kernel_rfl)
theorem Tryz.fl140_1:j3_ Tryz.prog 140 1=some (1,(false,1)):=id (by kernel_rfl)
theorem Tryz.fl142_1:j3_ Tryz.prog 142 1=some (1,(false,1)):=id (by kernel_rfl)
theorem Tryz.fl142_0:j3_ Tryz.prog 142 0=some (0,(false,1)):=id (by kernel_rfl)
theorem Tryz.fl142_2:j3_ Tryz.prog 142 2=some (2,(true,32)):=id (by kernel_rfl)
theorem Tryz.fl98_0:j3_ Tryz.prog 98 0=some (0,(true,32)):=id (by kernel_rfl)
theorem Tryz.fl98_1:j3_ Tryz.prog 98 1=some (32,(false,1)):=id (by kernel_rfl)
theorem Tryz.fl98_2:j3_ Tryz.prog 98 2=some (33,(false,1)):=id (by kernel_rfl)
theorem Tryz.fl122_0:j3_ Tryz.prog 122 0=some (0,(true,2)):=id (by kernel_rfl)
theorem Tryz.fl130_2:j3_ Tryz.prog 130 2=some (2,(false,1)):=id (by kernel_rfl)
theorem Tryz.fl140_0:j3_ Tryz.prog 140 0=some (0,(false,1)):=id (by kernel_rfl)
theorem Tryz.fl154_4:j3_ Tryz.prog 154 4=some (74,(false,1)):=id (by kernel_rfl)
theorem Tryz.fl154_3:j3_ Tryz.prog 154 3=some (73,(false,1)):=id (by kernel_rfl)
theorem Tryz.fl154_1:j3_ Tryz.prog 154 1=some (1,(true,8)):=id (by kernel_rfl)
theorem Tryz.fl120_1:j3_ Tryz.prog 120 1=some (1,(false,1)):=id (by kernel_rfl)
theorem Tryz.fl154_0:j3_ Tryz.prog 154 0=some (0,(false,1)):=id (by kernel_rfl)
theorem Tryz.fl154_2:j3_ Tryz.prog 154 2=some (9,(true,64)):=id (by kernel_rfl)
theorem Tryz.fl220_1:j3_ Tryz.prog 220 1=some (1,(false,1)):=id (by kernel_rfl)
theorem Tryz.fl120_0:j3_ Tryz.prog 120 0=some (0,(false,1)):=id (by kernel_rfl)
theorem Tryz.fl213_0:j3_ Tryz.prog 213 0=some (0,(false,1)):=id (by kernel_rfl)
theorem Tryz.fl213_1:j3_ Tryz.prog 213 1=some (1,(false,1)):=id (by kernel_rfl)
theorem Tryz.fl213_2:j3_ Tryz.prog 213 2=some (2,(true,34)):=id (by kernel_rfl)
theorem Tryz.fl220_0:j3_ Tryz.prog 220 0=some (0,(false,1)):=id (by kernel_rfl)
theorem Tryz.fl238_1:j3_ Tryz.prog 238 1=some (1,(false,1)):=id (by kernel_rfl)
theorem Tryz.fl238_0:j3_ Tryz.prog 238 0=some (0,(false,1)):=id (by kernel_rfl)
theorem Tryz.cv5_3:cvT Tryz.prog 5 3= .int .i64:=id (by kernel_rfl)
theorem Tryz.cv3_107:cvT Tryz.prog 3 107= .int .u64:=id (by kernel_rfl)
theorem Tryz.cv148_5:cvT Tryz.prog 148 5= .int .u8:=id (by kernel_rfl)
theorem Tryz.cv107_148:cvT Tryz.prog 107 148= .int .u32:=id (by kernel_rfl)
theorem Tryz.cv3_5:cvT Tryz.prog 3 5= .int .u8:=id (by kernel_rfl)
theorem Tryz.cv109_9:cvT Tryz.prog 109 9= .bytesStr:=id (by kernel_rfl)
theorem Tryz.cv3_152:cvT Tryz.prog 3 152= .int .u64:=id (by kernel_rfl)
theorem Tryz.cv152_5:cvT Tryz.prog 152 5= .int .u8:=id (by kernel_rfl)
theorem Tryz.cv5_148:cvT Tryz.prog 5 148= .int .u32:=id (by kernel_rfl)
theorem Tryz.cv3_194:cvT Tryz.prog 3 194= .int .u64:=id (by kernel_rfl)
theorem Tryz.cv107_3:cvT Tryz.prog 107 3= .int .i64:=id (by kernel_rfl)
theorem Tryz.cv5_200:cvT Tryz.prog 5 200= .no:=id (by kernel_rfl)
theorem Tryz.cv3_200:cvT Tryz.prog 3 200= .no:=id (by kernel_rfl)
theorem Tryz.cv118_226:cvT Tryz.prog 118 226= .no:=id (by kernel_rfl)
theorem Tryz.cv226_118:cvT Tryz.prog 226 118= .no:=id (by kernel_rfl)
theorem Tryz.cv200_3:cvT Tryz.prog 200 3= .no:=id (by kernel_rfl)
set_option linter.defProp false
def Tryz.fx:=And.intro (And.intro (And.intro (And.intro (And.intro (And.intro (And.intro (@Tryz.ix23) (@Tryz.ix22)) (And.intro (@Tryz.ix47) (@Tryz.ix9))) (And.intro (And.intro (@Tryz.ix68) (@Tryz.ix77)) (And.intro (@Tryz.ix116) (@Tryz.ix42)))) (And.intro (And.intro (And.intro (@Tryz.ix110) (@Tryz.ix94)) (And.intro (@Tryz.ix149) (@Tryz.ix113))) (And.intro (And.intro (@Tryz.ix174) (@Tryz.ix185)) (And.intro (@Tryz.ix186) (@Tryz.ix109))))) (And.intro (And.intro (And.intro (And.intro (@Tryz.ix211) (@Tryz.ix151)) (And.intro (@Tryz.ix205) (@Tryz.ix239))) (And.intro (And.intro (@Tryz.ix242) (@Tryz.ix112)) (And.intro (@Tryz.ag29) (@Tryz.ag42)))) (And.intro (And.intro (And.intro (@Tryz.ag38) (@Tryz.ag3)) (And.intro (@Tryz.ag9) (@Tryz.ag60))) (And.intro (And.intro (@Tryz.ag22) (@Tryz.ag23)) (And.intro (@Tryz.ag64) (@Tryz.ag62)))))) (And.intro (And.intro (And.intro (And.intro (And.intro (@Tryz.ag70) (@Tryz.ag87)) (And.intro (@Tryz.ag77) (@Tryz.ag47))) (And.intro (And.intro (@Tryz.ag92) (@Tryz.ag84)) (And.intro (@Tryz.ag98) (@Tryz.ag72)))) (And.intro (And.intro (And.intro (@Tryz.ag122) (@Tryz.ag126)) (And.intro (@Tryz.ag4) (@Tryz.ag130))) (And.intro (And.intro (@Tryz.ag140) (@Tryz.ag142)) (And.intro (@Tryz.ag149) (@Tryz.ag148))))) (And.intro (And.intro (And.intro (And.intro (@Tryz.ag5) (@Tryz.ag154)) (And.intro (@Tryz.ag113) (@Tryz.ag111))) (And.intro (And.intro (@Tryz.ag174) (@Tryz.ag31)) (And.intro (@Tryz.ag176) (@Tryz.ag185)))) (And.intro (And.intro (And.intro (@Tryz.ag186) (@Tryz.ag152)) (And.intro (@Tryz.ag194) (@Tryz.ag109))) (And.intro (And.intro (@Tryz.ag211) (@Tryz.ag213)) (And.intro (@Tryz.ag210) (And.intro (@Tryz.ag220) (@Tryz.ag118)))))))) (And.intro (And.intro (And.intro (And.intro (And.intro (And.intro (@Tryz.ag94) (@Tryz.ag238)) (And.intro (@Tryz.ag236) (@Tryz.ag242))) (And.intro (And.intro (@Tryz.ag112) (@Tryz.fl38_0)) (And.intro (@Tryz.fl38_1) (@Tryz.fl29_0)))) (And.intro (And.intro (And.intro (@Tryz.fl29_1) (@Tryz.fl60_0)) (And.intro (@Tryz.fl60_1) (@Tryz.fl64_0))) (And.intro (And.intro (@Tryz.fl70_0) (@Tryz.fl87_1)) (And.intro (@Tryz.fl87_2) (@Tryz.fl87_0))))) (And.intro (And.intro (And.intro (And.intro (@Tryz.fl92_0) (@Tryz.fl70_1)) (And.intro (@Tryz.fl126_0) (@Tryz.fl126_1))) (And.intro (And.intro (@Tryz.fl126_2) (@Tryz.fl130_1)) (And.intro (@Tryz.fl130_0) (@Tryz.fl92_2)))) (And.intro (And.intro (And.intro (@Tryz.fl92_3) (@Tryz.fl140_2)) (And.intro (@Tryz.fl140_1) (@Tryz.fl142_1))) (And.intro (And.intro (@Tryz.fl142_0) (@Tryz.fl142_2)) (And.intro (@Tryz.fl98_0) (And.intro (@Tryz.fl98_1) (@Tryz.fl98_2))))))) (And.intro (And.intro (And.intro (And.intro (And.intro (@Tryz.fl122_0) (@Tryz.fl130_2)) (And.intro (@Tryz.fl140_0) (@Tryz.fl154_4))) (And.intro (And.intro (@Tryz.fl154_3) (@Tryz.fl154_1)) (And.intro (@Tryz.fl120_1) (@Tryz.fl154_0)))) (And.intro (And.intro (And.intro (@Tryz.fl154_2) (@Tryz.fl220_1)) (And.intro (@Tryz.fl120_0) (@Tryz.fl213_0))) (And.intro (And.intro (@Tryz.fl213_1) (@Tryz.fl213_2)) (And.intro (@Tryz.fl220_0) (@Tryz.fl238_1))))) (And.intro (And.intro (And.intro (And.intro (@Tryz.fl238_0) (@Tryz.cv5_3)) (And.intro (@Tryz.cv3_107) (@Tryz.cv148_5))) (And.intro (And.intro (@Tryz.cv107_148) (@Tryz.cv3_5)) (And.intro (@Tryz.cv109_9) (@Tryz.cv3_152)))) (And.intro (And.intro (And.intro (@Tryz.cv152_5) (@Tryz.cv5_148)) (And.intro (@Tryz.cv3_194) (@Tryz.cv107_3))) (And.intro (And.intro (@Tryz.cv5_200) (@Tryz.cv3_200)) (And.intro (@Tryz.cv118_226) (And.intro (@Tryz.cv226_118) (@Tryz.cv200_3))))))))
theorem kp {X A G:Prop} (x:X) (h:G) (e:X→A=G:=by intro x;(try simp(disch:=(first|assumption|omega| (simp only[kk_,kj_,UInt64.reduceToNat];try omega))) only[↓Sx.S0,Sx.S1,Tryz.fx,Nat.reduceAdd,Nat.reducePow,Int.reducePow,Nat.reduceBEq, ↓reduceIte,UInt8.reduceToNat,UInt16.reduceToNat,UInt32.reduceToNat,UInt64.reduceToNat,Int.reduceToNat,x]);exact rfl):A:=(e x).mpr h
theorem kw {X A G:Prop} (x:X) (h:G) (e:X→A=G:=by intro x;simp(disch:=(first|assumption|omega| (simp only[kk_,kj_,UInt64.reduceToNat];try omega))) only[↓Sx.S0,Sx.S1,Tryz.fx,Nat.reduceAdd,Nat.reducePow,Int.reducePow,Nat.reduceBEq, ↓reduceIte,UInt8.reduceToNat,UInt16.reduceToNat,UInt32.reduceToNat,UInt64.reduceToNat,Int.reduceToNat,x];exact rfl):A:=(e x).mpr h
section
variable {P:Program} {w0:World} {f:Fr} {L:zb_} {K:xf_} {N:Fr→zb_→Prop} {ops:Array Oper} {md:Md} {l:List Oper} {X G:Prop}
theorem ks {c:Code} (z:List Nat) [Sx.Steps c] (x:X) (h:G) (e:X→vcC P w0 z c f L (bsK K)=G:=by intro x;(try simp(disch:=(first|assumption|omega| (simp only[kk_,kj_,UInt64.reduceToNat];try omega))) only[↓Sx.S0,Sx.S1,Tryz.fx,Nat.reduceAdd,Nat.reducePow,Int.reducePow,Nat.reduceBEq, ↓reduceIte,UInt8.reduceToNat,UInt16.reduceToNat,UInt32.reduceToNat,UInt64.reduceToNat,Int.reduceToNat,x]);exact rfl):Cw P w0 c f L K:=Cw.go z ((e x).mpr h)
theorem ko (x:X) (h:G) (e:X→vcL P w0 ops true md l f L (owk P w0 ops (bsN N))=G:=by intro x;(try simp(disch:=(first|assumption|omega| (simp only[kk_,kj_,UInt64.reduceToNat];try omega))) only[↓Sx.S0,Sx.S1,Tryz.fx,Nat.reduceAdd,Nat.reducePow,Int.reducePow,Nat.reduceBEq, ↓reduceIte,UInt8.reduceToNat,UInt16.reduceToNat,UInt32.reduceToNat,UInt64.reduceToNat,Int.reduceToNat,x]);exact rfl) (he:md.eff=true:=by rfl):Ow P w0 ops md l f L N:=Ow.go he ((e x).mpr h)
theorem kq (x:X) (h:G) (e:X→vcL P w0 ops false md l f L (owk P w0 ops (bsN N))=G:=by intro x;(try simp(disch:=(first|assumption|omega| (simp only[kk_,kj_,UInt64.reduceToNat];try omega))) only[↓Sx.S0,Sx.S1,Tryz.fx,Nat.reduceAdd,Nat.reducePow,Int.reducePow,Nat.reduceBEq, ↓reduceIte,UInt8.reduceToNat,UInt16.reduceToNat,UInt32.reduceToNat,UInt64.reduceToNat,Int.reduceToNat,x]);exact rfl):Ow P w0 ops md l f L N:=Ow.goQ ((e x).mpr h)
end
theorem ke {α:Type} {X:Prop} {a b:α} (x:X) (e:X→a=b:=by intro x;(try simp(disch:=(first|assumption|omega| (simp only[kk_,kj_,UInt64.reduceToNat];try omega))) only[↓Sx.S0,Sx.S1,Tryz.fx,Nat.reduceAdd,Nat.reducePow,Int.reducePow,Nat.reduceBEq, ↓reduceIte,UInt8.reduceToNat,UInt16.reduceToNat,UInt32.reduceToNat,UInt64.reduceToNat,Int.reduceToNat,x]);exact rfl):a=b:=e x
theorem kya {A G:Prop} (h:G) (e:A=G:=by(try simp only[aj4_, ↓ad3_, ↓vm_, ↓aiX_, ↓aiV_,vo_]);exact rfl):A:=e.mpr h
theorem kyb {A G:Prop} (h:G) (e:A=G:=by(try simp only[List.set_cons_zero,List.set_cons_succ,zK_,qu_,qv_]);exact rfl):A:=e.mpr h
theorem kyc {A G:Prop} (h:G) (e:A=G:=by(try simp only[List.replicate_succ,List.replicate_zero]);exact rfl):A:=e.mpr h
theorem kn {A G:Prop} (h:G) (e:A=G:=by(try simp(disch:=(first|assumption|omega| (simp only[kk_,kj_,UInt64.reduceToNat];try omega))) only[qR_,qw_,List.cons_append,List.nil_append]);exact rfl):A:=e.mpr h
theorem kf {A G:Prop} (h:G) (e:A=G:=by simp only[List.size_toArray,List.length_cons,List.length_nil,Nat.reduceAdd,Nat.reduceSub,List.replicate_succ,List.replicate_zero,List.cons_append,List.nil_append];exact rfl):A:=e.mpr h
theorem kv {A G:Prop} (h:G) (e:A=G:=by simp only[qD_,pin,qu_,qv_,List.contains_cons,List.contains_nil,Nat.reduceBEq,Bool.or_false,Bool.false_or,Bool.or_true,Bool.true_or,Nat.reduceAdd, ↓reduceIte,Bool.false_eq_true];exact rfl):A:=e.mpr h
set_option maxRecDepth 10000
set_option maxHeartbeats 1000000
set_option linter.unusedSimpArgs false
theorem WD_ (p v:Value) (E:TypeId) (n:Nat):zn_ (some (false,n)) (some (.cells #[p,v] E (0,0))) 0=some p:=(rfl)
theorem Ww_ (p v:Value) (E:TypeId) (n:Nat):zn_ (some (false,n)) (some (.cells #[p,v] E (0,0))) 1=some v:=(rfl)
theorem ahw_ (p v x:Value) (E:TypeId) (hx:Value.oneCell' x=true∧x.cells= #[x]):zi_ (some (false,1)) (some (.cells #[p,v] E (0,0))) 0 x=some (.cells #[x,v] E (0,0)):=by
 simp[zi_,hx,kZ_]
theorem abN_ (p v x:Value) (E:TypeId) (hx:Value.oneCell' x=true∧x.cells= #[x]):zi_ (some (false,1)) (some (.cells #[p,v] E (0,0))) 1 x=some (.cells #[p,x] E (0,0)):=by
 simp[zi_,hx,kZ_]
theorem adL_ (p v:Value) (b o:Nat) (E:TypeId):zi_ (some (false,1)) (some (.cells #[p,v] E (0,0))) 0 (vp b o)=some (.cells #[vp b o,v] E (0,0)):=ahw_ _ _ _ _ ⟨rfl,rfl⟩
theorem nilB (b o:Nat):q0_ Tryz.prog .eql 118 (vp b o) (.pointer none)=some (.bool false):=by
 simp[q0_,eqX,qy_,qr_,Tryz.underlying118,vp]
theorem ang_:q0_ Tryz.prog .eql 118 (.pointer none) (.pointer none)=some (.bool true):=by
 simp[q0_,eqX,qy_,qr_,Tryz.underlying118]
set_option linter.defProp false
def qn_:=And.intro (And.intro (@WD_) (@Ww_)) (And.intro (@adL_) (And.intro (@nilB) (@ang_)))
theorem am2_:liesAt Tryz.prog Tryz.prog.depth 122 ((#[Value.pointer none,Value.pointer none]:Array Value).size / Tryz.prog.cellsOf 122) 0 120 1=true:=id (by kernel_rfl)
theorem aggB:z3_ Tryz.prog 120=some (true,2):=id (by kernel_rfl)
theorem aiL_ (x:Value) (w:World): (callFunc 136 #[x]).run Tryz.prog w= .ok (.value x) w:=by kernel_rfl
theorem vJ_ (b:Nat) (p v:Value) (w:World) (hp:p= .pointer none∨p=vp b 0) (ho:w.heap[b]? =some (.cells #[p,v] 122 (0,0))):
  Rets Tryz.prog 122 #[vp b 0] w (fun v' D=> ∃o,D= [(b,o)]∧v'= .tuple #[]∧o= .cells #[vp b 0,v] 122 (0,0)):=by
 refine Rets.enterM Tryz.func122 rfl (rs:= []) Tryz.results122 Tryz.ntmps122 ho ?_
 refine kf ?_
 rcases hp with rfl|rfl
 ·first|with_reducible refine ks [] @qn_ ?_|refine kp @qn_ ?_
  refine Ow.toUnsafe rfl rfl (by kernel_rfl) rfl (zo_ (zL_ _ _ _)) (by simp) aggB (by decide) Tryz.underlying118 Tryz.underlying226 ?_
  refine Ow.callExt (v:=vp b 0) rfl rfl (fun w=>aiL_ _ w) ?_
  refine Ow.ofUnsafe rfl rfl (by kernel_rfl) rfl (zo_ (zL_ _ _ _)) aggB am2_ Tryz.underlying226 Tryz.underlying118 ?_
  refine ko @qn_ ?_
  first|with_reducible refine ks [] @qn_ ?_|refine kp @qn_ ?_
  refine⟨_,_,_,(ke @qn_),rfl,trivial, ?_⟩
  exact⟨rfl,rfl⟩
 ·first|with_reducible refine ks [2] @qn_ ?_|refine kp @qn_ ?_
  refine Cw.region ?_
  refine Ow.value rfl rfl rfl ?_
  refine Ow.value (v:=vp b 0) rfl rfl (by simp(disch:=(first|assumption|omega| (simp only[kk_,kj_,UInt64.reduceToNat];try omega))) only[↓Sx.S0,Sx.S1,Tryz.fx,qn_,Nat.reduceAdd,Nat.reducePow,Int.reducePow,Nat.reduceBEq, ↓reduceIte,UInt8.reduceToNat,UInt16.reduceToNat,UInt32.reduceToNat,UInt64.reduceToNat,Int.reduceToNat,q2_]) ?_
  refine Ow.value (v:=vp b 0) rfl rfl (by simp(disch:=(first|assumption|omega| (simp only[kk_,kj_,UInt64.reduceToNat];try omega))) only[↓Sx.S0,Sx.S1,Tryz.fx,qn_,Nat.reduceAdd,Nat.reducePow,Int.reducePow,Nat.reduceBEq, ↓reduceIte,UInt8.reduceToNat,UInt16.reduceToNat,UInt32.reduceToNat,UInt64.reduceToNat,Int.reduceToNat,q2_]) ?_
  refine Ow.value (v:=vp b 0) rfl rfl (by simp(disch:=(first|assumption|omega| (simp only[kk_,kj_,UInt64.reduceToNat];try omega))) only[↓Sx.S0,Sx.S1,Tryz.fx,qn_,Nat.reduceAdd,Nat.reducePow,Int.reducePow,Nat.reduceBEq, ↓reduceIte,UInt8.reduceToNat,UInt16.reduceToNat,UInt32.reduceToNat,UInt64.reduceToNat,Int.reduceToNat,q2_]) ?_
  refine Ow.value rfl rfl rfl ?_
  refine Ow.neqSame rfl Tryz.underlying118 aggB rfl rfl ?_
  refine ko @qn_ ?_
  first|with_reducible refine ks [] @qn_ ?_|refine kp @qn_ ?_
  refine⟨_,_,_,(ke @qn_),rfl,trivial, ?_⟩
  exact⟨rfl,rfl⟩
end Go.Proofs
end
section
open Go Go.Proofs Go.Sx
namespace Go.Proofs
set_option maxRecDepth 10000
set_option maxHeartbeats 1000000
set_option linter.unusedSimpArgs false
set_option linter.defProp false
def BldAt (b:Nat) (l:List UInt8) (X:zb_):Prop:=
 ∃p v,Sx.look X b=some (.cells #[p,v] 122 (0,0))∧(p= .pointer none∨p=vp b 0)∧Buf X 5 1 v l.length (l.map v8)∧slB v≠some b
theorem vK_ (b:Nat) (X:zb_) (l:List UInt8) (c:UInt8) (w:World) (hB:BldAt b l X) (hX: ∀p,p∈X→w.heap[p.1]? =some p.2) (hn: (keys X).Nodup) (hl:l.length<34359738368):
  Rets Tryz.prog 95 #[vp b 0,v8 c] w (XS w X (fun v D=>v= .nilIface∧BldAt b (l++ [c]) D)):=by
 obtain⟨p,v,hlk,hp,hb,hsl⟩:=hB
 refine Rets.enterX Tryz.func95 rfl (rs:= [.tmp 4]) Tryz.results95 Tryz.ntmps95 hX hn ?_
 refine kf ?_
 first|with_reducible refine ks [] @qn_ ?_|refine kp @qn_ ?_
 refine Ow.callM rfl rfl Tryz.call122 (zm_ hlk) (fun w' hw'=>vJ_ b p v w' hp (hw'.has _ _ (zF_ hlk))) ?_
 have lk1:=x7_ (x:= .cells #[vp b 0,v] 122 (0,0)) hlk
 have rd1:=zo_ (w0:=w) lk1
 have hb1:Buf (setB X b (.cells #[vp b 0,v] 122 (0,0))) 5 1 v l.length (l.map v8):=hb.setO hsl
 have kx:Ext w X (setB X b (.cells #[vp b 0,v] 122 (0,0))):=(Ext.refl w X).setB
 generalize setB X b (.cells #[vp b 0,v] 122 (0,0))=X1 at*
 refine ko @qn_ ?_
 first|with_reducible refine ks [] (And.intro @qn_ @rd1) ?_|refine kp (And.intro @qn_ @rd1) ?_
 refine Ow.buildSlice (e:=5) #[v8 c] rfl rfl (by kernel_rfl) fun b3 hb3 hw3=> ?_
 have lk3:Sx.look (X1++ [(b3, .cells #[v8 c] 5 (0,0))]) b3=some (.cells #[v8 c] 5 (0,0)):=Xj_ hb3
 have hb2:Buf (X1++ [(b3, .cells #[v8 c] 5 (0,0))]) 5 1 v l.length (l.map v8):=hb1.app
 refine ko @qn_ ?_
 refine Ow.append (e:=5) _ rfl rfl rfl Tryz.underlying109 Tryz.ag5 (by kernel_rfl) Tryz.zr5 (by kernel_rfl) Tryz.underlying109 (by intro k h;cases h) hb2 (fun w' hw'=>AppX.block (k:=1) (new:= [v8 c]) (zo_ lk3) (by simp) (by simp) rfl hw') (by omega) (fun v2 L2 hB2 hG2 hS2=> ?_)
 have lk2:Sx.look L2 b=some (.cells #[vp b 0,v] 122 (0,0)):=hG2.look b _ hsl (z9_ lk1)
 have st2:zi_ (some (false,1)) (some (.cells #[vp b 0,v] 122 (0,0))) 1 v2=some (.cells #[vp b 0,v2] 122 (0,0)):=abN_ _ _ _ _ hB2.cell
 refine ko (And.intro @qn_ (And.intro @lk2 (And.intro @st2 (@ab9_)))) ?_
 first|with_reducible refine ks [] @qn_ ?_|refine kp @qn_ ?_
 refine⟨_,(ke @qn_), ?_⟩
 have ex:=(kx.app (o:= .cells #[v8 c] 5 (0,0)) hw3).grew hG2
 have hs2:slB v2≠some b:=by
  rcases hS2 with h| ⟨c',h,ha⟩
  ·rw[h];exact hsl
  ·rw[h]
   intro e
   cases e
   exact Nat.lt_irrefl _ (ze_ ha (zm_ (z9_ lk1)))
 refine⟨ex.setB,rfl,vp b 0,v2,x7_ lk2, .inr rfl, ?_,hs2⟩
 rw[List.length_append,List.map_append]
 exact hB2.setO hs2
end Go.Proofs
end
section
open Go Go.Proofs Go.Sx
namespace Go.Proofs
set_option maxRecDepth 10000
set_option maxHeartbeats 1000000
set_option linter.unusedSimpArgs false
set_option linter.defProp false
theorem Zr_ (b:Nat) (X:zb_) (l s:List UInt8) (w:World) (hB:BldAt b l X) (hX: ∀p,p∈X→w.heap[p.1]? =some p.2) (hn: (keys X).Nodup) (hl:l.length+s.length<34359738368):
  Rets Tryz.prog 94 #[vp b 0,vs s] w (XS w X (fun v D=>v= .tuple #[vi s.length, .nilIface]∧BldAt b (l++s) D)):=by
 obtain⟨p,v,hlk,hp,hb,hsl⟩:=hB
 refine Rets.enterX Tryz.func94 rfl (rs:= [.tmp 4, .tmp 5]) Tryz.results94 Tryz.ntmps94 hX hn ?_
 refine kf ?_
 first|with_reducible refine ks [] @qn_ ?_|refine kp @qn_ ?_
 refine Ow.callM rfl rfl Tryz.call122 (zm_ hlk) (fun w' hw'=>vJ_ b p v w' hp (hw'.has _ _ (zF_ hlk))) ?_
 have lk1:=x7_ (x:= .cells #[vp b 0,v] 122 (0,0)) hlk
 have rd1:=zo_ (w0:=w) lk1
 have hb1:Buf (setB X b (.cells #[vp b 0,v] 122 (0,0))) 5 1 v l.length (l.map v8):=hb.setO hsl
 have kx:Ext w X (setB X b (.cells #[vp b 0,v] 122 (0,0))):=(Ext.refl w X).setB
 generalize setB X b (.cells #[vp b 0,v] 122 (0,0))=X1 at*
 refine ko @qn_ ?_
 first|with_reducible refine ks [] (And.intro @qn_ @rd1) ?_|refine kp (And.intro @qn_ @rd1) ?_
 refine Ow.append (e:=5) _ rfl rfl rfl Tryz.underlying109 Tryz.ag5 (by kernel_rfl) Tryz.zr5 (by kernel_rfl) Tryz.underlying9 (by intro k h;cases h) hb1 (fun w' hw'=>AppX.text _ w' s) (by omega) (fun v2 L2 hB2 hG2 hS2=> ?_)
 have lk2:Sx.look L2 b=some (.cells #[vp b 0,v] 122 (0,0)):=hG2.look b _ hsl lk1
 have st2:zi_ (some (false,1)) (some (.cells #[vp b 0,v] 122 (0,0))) 1 v2=some (.cells #[vp b 0,v2] 122 (0,0)):=abN_ _ _ _ _ hB2.cell
 refine ko (And.intro @qn_ (And.intro @lk2 (And.intro @st2 (@ab9_)))) ?_
 first|with_reducible refine ks [] @qn_ ?_|refine kp @qn_ ?_
 refine⟨_,(ke @qn_), ?_⟩
 have ex:=kx.grew hG2
 have hs2:slB v2≠some b:=by
  rcases hS2 with h| ⟨c',h,ha⟩
  ·rw[h];exact hsl
  ·rw[h]
   intro e
   cases e
   exact Nat.lt_irrefl _ (ze_ ha (zm_ lk1))
 refine⟨ex.setB,rfl,vp b 0,v2,x7_ lk2, .inr rfl, ?_,hs2⟩
 rw[List.length_append,List.map_append]
 exact hB2.setO hs2
theorem Ve_ (b:Nat) (X:zb_) (l:List UInt8) (w:World) (hB:BldAt b l X) (hX: ∀p,p∈X→w.heap[p.1]? =some p.2) (hn: (keys X).Nodup) (hl:l.length<34359738368):
  Rets Tryz.prog 97 #[vp b 0] w (XS w X (fun v _D=>v=vs l)):=by
 obtain⟨p,v,hlk,hp,hb,hsl⟩:=hB
 have rd1:=zo_ (w0:=w) hlk
 refine Rets.enterX Tryz.func97 rfl (rs:= [.tmp 2]) Tryz.results97 Tryz.ntmps97 hX hn ?_
 refine kf ?_
 first|with_reducible refine ks [] @qn_ ?_|refine kp @qn_ ?_
 refine Cw.regionS [b] [0,1,2,5,6,7,3,8,9,4,10,11] [] (by kernel_rfl) (by kernel_rfl) (by kernel_rfl) ?_
 refine kya ?_
 refine kq (And.intro @qn_ (And.intro @rd1 (hb.len))) ?_
 refine Ow.softA ?_
 rcases hb.inv with⟨rfl,h0,-⟩ | ⟨b2,c,rest,rfl,hl2,h1,h3,h4,-⟩
 ·obtain rfl:l= []:=List.eq_nil_of_length_eq_zero h0
  refine Ow.sliceData (v:= .pointer none) rfl rfl (.inl ⟨0,0,rfl,rfl⟩) ?_
  with_reducible refine Ow.nilD ?_
  refine Ow.softA ?_
  refine Ow.unsafeStringNil rfl rfl rfl rfl ?_
  with_reducible refine Ow.nilD ?_
  refine kq @qn_ ?_
  try with_reducible refine Ow.nil ?_
  first|with_reducible refine ks [] @qn_ ?_|refine kp @qn_ ?_
  refine⟨_,(ke @qn_), ?_⟩
  exact⟨Ext.refl _ _,rfl⟩
 ·refine Ow.sliceData (v:=vp b2 0) rfl rfl (.inr ⟨b2,_,c,rfl,by omega,rfl⟩) ?_
  with_reducible refine Ow.nilD ?_
  by_cases h0:l.length=0
  ·obtain rfl:l= []:=List.eq_nil_of_length_eq_zero h0
   refine Ow.softA ?_
   refine Ow.unsafeStringNil rfl rfl rfl rfl ?_
   with_reducible refine Ow.nilD ?_
   refine kq @qn_ ?_
   try with_reducible refine Ow.nil ?_
   first|with_reducible refine ks [] @qn_ ?_|refine kp @qn_ ?_
   refine⟨_,(ke @qn_), ?_⟩
   exact⟨Ext.refl _ _,rfl⟩
  ·refine Ow.softA ?_
   refine Ow.unsafeString rfl rfl rfl rfl hl2 (by omega) (by omega) Tryz.underlying208 (by kernel_rfl) (of_decide_eq_true (by kernel_rfl)) ?_
   with_reducible refine Ow.nil ?_
   refine⟨by intro b hb;simp only[List.mem_cons,List.not_mem_nil,or_false] at hb;(try subst hb);exact kN_ (fun e=>hsl (by rw[←e];rfl)), ?_⟩
   refine kq @qn_ ?_
   try with_reducible refine Ow.nil ?_
   first|with_reducible refine ks [] @qn_ ?_|refine kp @qn_ ?_
   refine⟨_,(ke @qn_), ?_⟩
   exact⟨(Ext.refl _ _).setB,rfl⟩
end Go.Proofs
end
section
open Go Go.Proofs Go.Sx
namespace Go.Proofs
set_option maxRecDepth 10000
set_option maxHeartbeats 1000000
set_option linter.unusedSimpArgs false
theorem nilW (b o:Nat):q0_ Tryz.prog .eql 167 (vp b o) (.pointer none)=some (.bool false):=by
 simp[q0_,eqX,qy_,qr_,Tryz.underlying167,vp]
set_option linter.defProp false
def jv_:=And.intro (@WD_) (And.intro (@Ww_) (@nilW))
structure WG where
 g:Nat
 D:zb_
theorem Jq_ (l:List (List UInt8)) (g:Nat) (h:g<l.length): (l.take (g+1)).flatten=(l.take g).flatten++l.getD g []:=by
 rw[List.take_add_one,List.getElem?_eq_getElem h,List.flatten_append,List.getD_eq_getElem?_getD,List.getElem?_eq_getElem h]
 simp
theorem Ks_ (l:List (List UInt8)) (g:Nat): (l.take g).flatten.length≤l.flatten.length:=by
 conv=>rhs;rw[←List.take_append_drop g l,List.flatten_append,List.length_append]
 omega
theorem wI_ (b:Nat) (X:zb_) (l:List UInt8) (x:Value) (b2 off:Nat) (ls:List (List UInt8)) (arr:Array Value) (E:TypeId) (fz:Nat×Nat) (w:World) (hB:BldAt b l X) (hX: ∀p,p∈X→w.heap[p.1]? =some p.2) (hn: (keys X).Nodup)
  (hS:StrS w x ls b2 off arr E fz) (hne:0<ls.length→b2∉keys X) (hl:l.length+ls.flatten.length<34359738368) (hls:ls.length<34359738368):
  Rets Tryz.prog 53 #[vp b 0,x] w (XS w X (fun v D=>v= .tuple #[]∧BldAt b (l++ls.flatten) D)):=by
 refine Rets.enterX Tryz.func53 rfl (rs:= []) Tryz.results53 Tryz.ntmps53 hX hn ?_
 refine kf ?_
 first|with_reducible refine ks [] (And.intro @jv_ hS.len) ?_|refine kp (And.intro @jv_ hS.len) ?_
 refine Cw.loopG (G:=WG) [11,12,13,5,14,15,16,17,18,19,10] (fun g=> [(10,vi g.g)]) (fun g=>g.D) (fun g=>g.g≤ls.length∧Ext w X g.D∧BldAt b (l++ (ls.take g.g).flatten) g.D) (fun g=>ls.length - g.g) ⟨0,X⟩ rfl rfl ?_ ?_
 ·exact⟨by simp,Ext.refl _ _,by simpa using hB⟩
 intro g j hg
 refine kv ?_
 obtain⟨g,D⟩:=g
 simp only at hg ⊢
 obtain⟨hgL,hE,hBD⟩:=hg
 by_cases hlt:g<ls.length
 ·have hlg:=hS.get g hlt
  have hrd:=hE.old (hS.has (by omega)) (hne (by omega))
  first|with_reducible refine ks [] (And.intro @jv_ (And.intro @Sx.loadV_one (And.intro @hrd (And.intro @hlg (hS.idx))))) ?_|refine kp (And.intro @jv_ (And.intro @Sx.loadV_one (And.intro @hrd (And.intro @hlg (hS.idx))))) ?_
  have hfl:=Jq_ ls g hlt
  have hfle:=Ks_ ls (g+1)
  have hfl2:=congrArg List.length hfl
  rw[List.length_append] at hfl2
  refine Ow.callX (Y:= []) (by simp) rfl rfl Tryz.call94 (fun w' hw' hX hn=>Zr_ b D _ (ls.getD g []) w' hBD hX hn (by rw[List.length_append];omega)) (fun v2 D2 hC hS2=> ?_)
  rw[List.append_nil]
  obtain⟨rfl,hB2⟩:=hS2
  refine ko @jv_ ?_
  first|with_reducible refine ks [] @jv_ ?_|refine kp @jv_ ?_
  refine Again.mk (WG.mk (g+1) D2) (by show ls.length - (g+1)<ls.length - g;omega) ⟨by show g+1≤ls.length;omega,hE.came0 hC, ?_⟩ rfl rfl
  show BldAt b (l++ (ls.take (g+1)).flatten) D2
  rw[hfl,←List.append_assoc]
  exact hB2
 ·obtain rfl:g=ls.length:=by omega
  first|with_reducible refine ks [] @jv_ ?_|refine kp @jv_ ?_
  refine⟨_,(ke @jv_), ?_⟩
  rw[List.take_length] at hBD
  exact⟨hE,rfl,hBD⟩
def maxN:Int:=1099511627775
def jM_ (n:Nat):List UInt8:=if h:n<128 then [UInt8.ofNat n] else UInt8.ofNat (n%128+128)::jM_ (n / 128)
termination_by n
decreasing_by omega
def zO_ (n:Int):Nat:=(if(if maxN<n then maxN else n)>0 then(if maxN<n then maxN else n) else 0).toNat
def v2_ (l:List Int):List UInt8:=(l.map fun n=>jM_ (zO_ n)).flatten
theorem qx_ {n:Nat} (h:n<128):jM_ n= [UInt8.ofNat n]:=by rw[jM_];simp[h]
theorem kr_ {n:Nat} (h: ¬n<128):jM_ n=UInt8.ofNat (n%128+128)::jM_ (n / 128):=by rw[jM_];simp[h]
theorem jS_: ∀ (k n:Nat),n<128^k→0<k→(jM_ n).length≤k
 |0,n,h,h0=>absurd h0 (by omega)
 |k+1,n,h,_=>by
  by_cases hn:n<128
  ·rw[qx_ hn];simp
  ·rw[kr_ hn]
   have hk:0<k:=by
    rcases Nat.eq_zero_or_pos k with rfl|hk
    ·simp at h;omega
    ·exact hk
   have:=jS_ k (n / 128) (by rw[Nat.pow_succ] at h;omega) hk
   simp only[List.length_cons];omega
theorem VM_ (n:Int):zO_ n<1099511627776:=by unfold zO_ maxN;split<;>split at* <;>omega
theorem zD_ (n:Int): (jM_ (zO_ n)).length≤6:=jS_ 6 _ (by have:=VM_ n;omega) (by omega)
theorem alx_: ∀b:BitVec 8,b.toNat<128→(b|||128#8)=b+128#8:=by decide
theorem vv_ (m:Nat):UInt8.ofInt (m:Int)=UInt8.ofNat m:=by
 apply UInt8.toBitVec_inj.1
 apply BitVec.eq_of_toNat_eq
 simp[UInt8.ofInt,UInt8.ofNat]
 omega
theorem ajY_ (m:Nat):UInt8.ofInt ((m:Int)%128) |||128=UInt8.ofNat (m%128+128):=by
 rw[show((m:Int)%128)=((m%128:Nat):Int) by omega,vv_]
 apply UInt8.toBitVec_inj.1
 have h:=alx_ (BitVec.ofNat 8 (m%128)) (by simp[BitVec.toNat_ofNat];omega)
 have h1: (UInt8.ofNat (m%128) |||128).toBitVec=BitVec.ofNat 8 (m%128) |||128#8:=rfl
 rw[h1,h]
 apply BitVec.eq_of_toNat_eq
 simp[UInt8.ofNat]
structure NG where
 m:Nat
 pre:List UInt8
 D:zb_
theorem kL_ (b:Nat) (X:zb_) (l:List UInt8) (x:Value) (b2 off:Nat) (ls:List Int) (arr:Array Value) (E:TypeId) (fz:Nat×Nat) (w:World) (hB:BldAt b l X) (hX: ∀p,p∈X→w.heap[p.1]? =some p.2) (hn: (keys X).Nodup)
  (hS:OneS vi 0 w x ls b2 off arr E fz) (hne:0<ls.length→b2∉keys X) (hl:l.length+ls.length*6<34359738368):
  Rets Tryz.prog 54 #[vp b 0,x] w (XS w X (fun v D=>v= .tuple #[]∧BldAt b (l++v2_ ls) D)):=by
 refine Rets.enterX Tryz.func54 rfl (rs:= []) Tryz.results54 Tryz.ntmps54 hX hn ?_
 refine kf ?_
 first|with_reducible refine ks [] (And.intro @jv_ hS.len) ?_|refine kp (And.intro @jv_ hS.len) ?_
 refine Cw.loopG (G:=WG) [11,12,13,5,14,15,16,17,18,21,22,23,24,25,26,27,28,19,20,29,30,31,32,33,34,35,10] (fun g=> [(10,vi g.g)]) (fun g=>g.D) (fun g=>g.g≤ls.length∧Ext w X g.D∧BldAt b (l++v2_ (ls.take g.g)) g.D) (fun g=>ls.length - g.g) ⟨0,X⟩ rfl rfl ?_ ?_
 ·exact⟨by simp,Ext.refl _ _,by simpa [v2_] using hB⟩
 intro g j hg
 refine kv ?_
 obtain⟨g,D⟩:=g
 simp only at hg ⊢
 obtain⟨hgL,hE,hBD⟩:=hg
 by_cases hlt:g<ls.length
 ·have hlg:=hS.get g hlt
  have hrd:=hE.old (hS.has (by omega)) (hne (by omega))
  first|with_reducible refine ks [] (And.intro @jv_ (And.intro @Sx.loadV_one (And.intro @hrd (And.intro @hlg (hS.idx))))) ?_|refine kp (And.intro @jv_ (And.intro @Sx.loadV_one (And.intro @hrd (And.intro @hlg (hS.idx))))) ?_
  refine Ow.minI rfl rfl rfl ?_
  refine Ow.maxI rfl rfl rfl ?_
  have hcl: (if(if maxN<ls.getD g 0 then maxN else ls.getD g 0)>0 then(if maxN<ls.getD g 0 then maxN else ls.getD g 0) else 0)=(zO_ (ls.getD g 0):Int):=by
   unfold zO_;omega
  have hcl': (if(if 1099511627775<ls.getD g 0 then 1099511627775 else ls.getD g 0)>0 then(if 1099511627775<ls.getD g 0 then 1099511627775 else ls.getD g 0) else 0)=(zO_ (ls.getD g 0):Int):=hcl
  rw[hcl']
  have hcb:=VM_ (ls.getD g 0)
  have hpl: (v2_ (ls.take g)).length≤g*6:=by
   unfold v2_
   rw[List.length_flatten,List.map_map]
   have: ∀ (q:List Int),(q.map (List.length∘fun n=>jM_ (zO_ n))).sum≤q.length*6:=by
    intro q
    induction q with
    |nil=>simp
    |cons y r ih=>have:=zD_ y;simp only[List.map_cons,List.sum_cons,List.length_cons,Function.comp];omega
   have h2:=this (ls.take g)
   rw[List.length_take] at h2
   have:min g ls.length*6≤g*6:=Nat.mul_le_mul_right _ (Nat.min_le_left _ _)
   omega
  have hnl:=zD_ (ls.getD g 0)
  have hsucc:v2_ (ls.take (g+1))=v2_ (ls.take g)++jM_ (zO_ (ls.getD g 0)):=by
   unfold v2_
   rw[List.take_succ_eq_append_getElem hlt,List.map_append,List.flatten_append,List.getD_eq_getElem?_getD,List.getElem?_eq_getElem hlt]
   simp only[List.map_cons,List.map_nil,List.flatten_cons,List.flatten_nil,List.append_nil,Option.getD_some]
  generalize zO_ (ls.getD g 0)=m0 at*
  refine ko @jv_ ?_
  first|with_reducible refine ks [] @jv_ ?_|refine kp @jv_ ?_
  refine Cw.loopG (G:=NG) [17,18,21,22,23,24,25,26,27,28,19,20,5] (fun q=> [(5,vi q.m)]) (fun q=>q.D) (fun q=>q.m≤m0∧Ext w X q.D∧jM_ m0=q.pre++jM_ q.m∧BldAt b (l++v2_ (ls.take g)++q.pre) q.D) (fun q=>q.m) ⟨m0,[],D⟩ rfl rfl ?_ ?_
  ·exact⟨Nat.le_refl _,hE,rfl,by rwa [List.append_nil]⟩
  intro q jq hq
  refine kv ?_
  obtain⟨m,pre,D1⟩:=q
  simp only at hq ⊢
  obtain⟨hqm,hE1,hpre,hB1⟩:=hq
  have hpl2:=congrArg List.length hpre
  rw[List.length_append] at hpl2
  by_cases hm:m<128
  ·first|with_reducible refine ks [] @jv_ ?_|refine kp @jv_ ?_
   rw[qx_ hm] at hpre hpl2
   have hlen: (l++v2_ (ls.take g)++pre).length+1<34359738368:=by
    rw[List.length_append,List.length_append]
    simp only[List.length_cons,List.length_nil] at hpl2
    omega
   refine Ow.callX (Y:= []) (by simp) rfl rfl Tryz.call95 (fun w' hw' hX hn=>vK_ b D1 _ _ w' hB1 hX hn (by omega)) (fun v2 D2 hC hS2=> ?_)
   rw[List.append_nil]
   obtain⟨rfl,hB2⟩:=hS2
   rw[vv_] at hB2
   refine ko @jv_ ?_
   first|with_reducible refine ks [] @jv_ ?_|refine kp @jv_ ?_
   refine Again.mk (WG.mk (g+1) D2) (by show ls.length - (g+1)<ls.length - g;omega) ⟨by show g+1≤ls.length;omega,hE1.came0 hC, ?_⟩ rfl rfl
   show BldAt b (l++v2_ (ls.take (g+1))) D2
   rw[hsucc,hpre,←List.append_assoc,←List.append_assoc]
   exact hB2
  ·first|with_reducible refine ks [] @jv_ ?_|refine kp @jv_ ?_
   rw[kr_ hm] at hpre hpl2
   have hlen: (l++v2_ (ls.take g)++pre).length+1<34359738368:=by
    rw[List.length_append,List.length_append]
    simp only[List.length_cons] at hpl2
    omega
   refine Ow.callX (Y:= []) (by simp) rfl rfl Tryz.call95 (fun w' hw' hX hn=>vK_ b D1 _ _ w' hB1 hX hn (by omega)) (fun v2 D2 hC hS2=> ?_)
   rw[List.append_nil]
   obtain⟨rfl,hB2⟩:=hS2
   rw[ajY_] at hB2
   refine ko @jv_ ?_
   first|with_reducible refine ks [] @jv_ ?_|refine kp @jv_ ?_
   refine Again.mk (NG.mk (m / 128) (pre++ [UInt8.ofNat (m%128+128)]) D2) (by show m / 128<m;omega) ⟨by show m / 128≤m0;omega,hE1.came0 hC, ?_, ?_⟩ rfl rfl
   ·show jM_ m0=pre++ [UInt8.ofNat (m%128+128)]++jM_ (m / 128)
    rw[hpre];simp
   ·show BldAt b (l++v2_ (ls.take g)++ (pre++ [UInt8.ofNat (m%128+128)])) D2
    rw[←List.append_assoc]
    exact hB2
 ·obtain rfl:g=ls.length:=by omega
  first|with_reducible refine ks [] @jv_ ?_|refine kp @jv_ ?_
  refine⟨_,(ke @jv_), ?_⟩
  rw[List.take_length] at hBD
  exact⟨hE,rfl,hBD⟩
end Go.Proofs
end
section
open Go Go.Proofs Go.Sx
namespace Go.Proofs
set_option maxRecDepth 10000
set_option maxHeartbeats 1000000
set_option linter.unusedSimpArgs false
set_option linter.defProp false
def xR_:=And.intro (And.intro (@WD_) (@Ww_)) (And.intro (@nilW) (And.intro (@adJ_) (@wJ_)))
theorem BldAt.app {b:Nat} {l:List UInt8} {X Y:zb_} (h:BldAt b l X):BldAt b l (X++Y):=by
 obtain⟨p,v,h1,h2,h3,h4⟩:=h
 exact⟨p,v,z9_ h1,h2,h3.app,h4⟩
def js_ (s:List UInt8):List UInt8:=jM_ (zO_ s.length)++s
def xp_ (ls:List (List UInt8)):List UInt8:=(ls.map js_).flatten
theorem QN_ (n:Int):v2_ [n]=jM_ (zO_ n):=by simp[v2_]
theorem aaD_ (ls:List (List UInt8)) (g:Nat) (h:g<ls.length):xp_ (ls.take (g+1))=xp_ (ls.take g)++js_ (ls.getD g []):=by
 unfold xp_
 rw[List.take_succ_eq_append_getElem h,List.map_append,List.flatten_append,List.getD_eq_getElem?_getD,List.getElem?_eq_getElem h]
 simp only[List.map_cons,List.map_nil,List.flatten_cons,List.flatten_nil,List.append_nil,Option.getD_some]
theorem Q4_ (ls:List (List UInt8)) (g:Nat): (xp_ (ls.take g)).length≤ (xp_ ls).length:=by
 conv=>rhs;rw[←List.take_append_drop g ls]
 unfold xp_
 rw[List.map_append,List.flatten_append,List.length_append];omega
theorem JI_ (b:Nat) (X:zb_) (l:List UInt8) (x:Value) (b2 off:Nat) (ls:List (List UInt8)) (arr:Array Value) (E:TypeId) (fz:Nat×Nat) (w:World) (hB:BldAt b l X) (hX: ∀p,p∈X→w.heap[p.1]? =some p.2) (hn: (keys X).Nodup)
  (hS:StrS w x ls b2 off arr E fz) (hne:0<ls.length→b2∉keys X) (hl:l.length+ (xp_ ls).length<17179869184) (hls:ls.length<17179869184):
  Rets Tryz.prog 55 #[vp b 0,x] w (XS w X (fun v D=>v= .tuple #[]∧BldAt b (l++xp_ ls) D)):=by
 refine Rets.enterX Tryz.func55 rfl (rs:= []) Tryz.results55 Tryz.ntmps55 hX hn ?_
 refine kf ?_
 first|with_reducible refine ks [] (And.intro @xR_ hS.len) ?_|refine kp (And.intro @xR_ hS.len) ?_
 refine Cw.loopG (G:=WG) [9,10,11,5,12,13,14,15,16,17,18,19,20,21,8] (fun g=> [(8,vi g.g)]) (fun g=>g.D) (fun g=>g.g≤ls.length∧Ext w X g.D∧BldAt b (l++xp_ (ls.take g.g)) g.D) (fun g=>ls.length - g.g) ⟨0,X⟩ rfl rfl ?_ ?_
 ·exact⟨by simp,Ext.refl _ _,by simpa [xp_] using hB⟩
 intro g j hg
 refine kv ?_
 obtain⟨g,D⟩:=g
 simp only at hg ⊢
 obtain⟨hgL,hE,hBD⟩:=hg
 by_cases hlt:g<ls.length
 ·have hlg:=hS.get g hlt
  have hrd:=hE.old (hS.has (by omega)) (hne (by omega))
  have hsu:=aaD_ ls g hlt
  have hle:=Q4_ ls (g+1)
  have hsl:=congrArg List.length hsu
  rw[List.length_append] at hsl
  have htl: (js_ (ls.getD g [])).length=(jM_ (zO_ (ls.getD g []).length)).length+ (ls.getD g []).length:=by unfold js_;rw[List.length_append]
  first|with_reducible refine ks [] (And.intro @xR_ (And.intro @Sx.loadV_one (And.intro @hrd (And.intro @hlg (hS.idx))))) ?_|refine kp (And.intro @xR_ (And.intro @Sx.loadV_one (And.intro @hrd (And.intro @hlg (hS.idx))))) ?_
  refine Ow.buildSlice (e:=3) #[vi (ls.getD g []).length] rfl rfl (by kernel_rfl) fun b3 hb3 hw3=> ?_
  refine ko @xR_ ?_
  refine Ow.callX (Y:= [(b3, .cells #[vi (ls.getD g []).length] 3 (0,0))]) (by simp) rfl rfl Tryz.call54 (fun w' hw' hX hn=>kL_ b D _ _ b3 0 [((ls.getD g []).length:Int)] _ _ _ w' hBD hX hn (OneS.lit [((ls.getD g []).length:Int)] rfl rfl (hw'.has _ _ (List.mem_append_right _ List.mem_cons_self))) (fun _ hm=>Nat.lt_irrefl _ (ze_ hb3 hm)) (by rw[List.length_append];simp only[List.length_cons,List.length_nil];omega)) (fun v2 D2 hC hS2=> ?_)
  obtain⟨rfl,hB2⟩:=hS2
  have hE2:=(hE.app (o:= .cells #[vi (ls.getD g []).length] 3 (0,0)) hw3).came hC
  rw[QN_] at hB2
  have hB3:=BldAt.app (Y:= [(b3, .cells #[vi (ls.getD g []).length] 3 (0,0))]) hB2
  generalize D2++ [(b3,Obj.cells #[vi (ls.getD g []).length] 3 (0,0))]=D3 at*
  refine ko @xR_ ?_
  first|with_reducible refine ks [] @xR_ ?_|refine kp @xR_ ?_
  refine Ow.buildSlice (e:=9) #[vs (ls.getD g [])] rfl rfl (by kernel_rfl) fun b4 hb4 hw4=> ?_
  refine ko @xR_ ?_
  refine Ow.callX (Y:= [(b4, .cells #[vs (ls.getD g [])] 9 (0,0))]) (by simp) rfl rfl Tryz.call53 (fun w' hw' hX hn=>wI_ b D3 _ _ b4 0 [ls.getD g []] _ _ _ w' hB3 hX hn (StrS.lit [ls.getD g []] rfl rfl (hw'.has _ _ (List.mem_append_right _ List.mem_cons_self))) (fun _ hm=>Nat.lt_irrefl _ (ze_ hb4 hm)) (by rw[List.length_append,List.length_append];simp only[List.flatten_cons,List.flatten_nil,List.append_nil];omega) (by simp)) (fun v4 D4 hC4 hS4=> ?_)
  obtain⟨rfl,hB4⟩:=hS4
  have hE4:=(hE2.app (o:= .cells #[vs (ls.getD g [])] 9 (0,0)) hw4).came hC4
  have hB5:=BldAt.app (Y:= [(b4, .cells #[vs (ls.getD g [])] 9 (0,0))]) hB4
  generalize D4++ [(b4,Obj.cells #[vs (ls.getD g [])] 9 (0,0))]=D5 at*
  refine ko @xR_ ?_
  first|with_reducible refine ks [] @xR_ ?_|refine kp @xR_ ?_
  refine Again.mk (WG.mk (g+1) D5) (by show ls.length - (g+1)<ls.length - g;omega) ⟨by show g+1≤ls.length;omega,hE4, ?_⟩ rfl rfl
  show BldAt b (l++xp_ (ls.take (g+1))) D5
  rw[hsu]
  simpa [js_] using hB5
 ·obtain rfl:g=ls.length:=by omega
  first|with_reducible refine ks [] @xR_ ?_|refine kp @xR_ ?_
  refine⟨_,(ke @xR_), ?_⟩
  rw[List.take_length] at hBD
  exact⟨hE,rfl,hBD⟩
structure IdL where
 l:List UInt8
 h:l.length=32
def jd_ (x:IdL):List Value:=x.l.map v8
def id0:IdL:=⟨List.replicate 32 0,by simp⟩
theorem zX_ (x:IdL): (jd_ x).length=32:=by simp[jd_,x.h]
theorem ZK_ (x:IdL): (jd_ x).toArray=a8 x.l:=rfl
theorem vf_ (b:Nat) (X:zb_) (l:List UInt8) (w:World) (hB:BldAt b l X) (hX: ∀p,p∈X→w.heap[p.1]? =some p.2) (hn: (keys X).Nodup) (hl:l.length<34359738368):
  Rets Tryz.prog 57 #[vp b 0] w (XS w X (fun v _=>v=vs l)):=by
 refine Rets.enterX Tryz.func57 rfl (rs:= [.tmp 2]) Tryz.results57 Tryz.ntmps57 hX hn ?_
 refine kf ?_
 first|with_reducible refine ks [] @xR_ ?_|refine kp @xR_ ?_
 refine Ow.callX (Y:= []) (by simp) rfl rfl Tryz.call97 (fun w' hw' hX hn=>Ve_ b X l w' hB hX hn hl) (fun v2 D2 hC hS2=> ?_)
 subst hS2
 rw[List.append_nil]
 refine ko @xR_ ?_
 first|with_reducible refine ks [] @xR_ ?_|refine kp @xR_ ?_
 refine⟨_,(ke @xR_), ?_⟩
 exact⟨(Ext.refl _ _).came0 hC,rfl⟩
end Go.Proofs
end
section
open Go Go.Proofs Go.Sx
namespace Go.Proofs
set_option maxRecDepth 10000
set_option maxHeartbeats 1000000
set_option linter.unusedSimpArgs false
theorem vk_ (s:List UInt8) (a e:Int) (E:TypeId) (n:Nat):zn_ (some (false,n)) (some (.cells #[vs s,vi a,vi e] E (0,0))) 0=some (vs s):=(rfl)
theorem vu_ (s:List UInt8) (a e:Int) (E:TypeId) (n:Nat):zn_ (some (false,n)) (some (.cells #[vs s,vi a,vi e] E (0,0))) 1=some (vi a):=(rfl)
theorem vC_ (s:List UInt8) (a e:Int) (E:TypeId) (n:Nat):zn_ (some (false,n)) (some (.cells #[vs s,vi a,vi e] E (0,0))) 2=some (vi e):=(rfl)
theorem x5_ (s:List UInt8) (a e x:Int) (E:TypeId):zi_ (some (false,1)) (some (.cells #[vs s,vi a,vi e] E (0,0))) 1 (vi x)=some (.cells #[vs s,vi x,vi e] E (0,0)):=by
 simp[zi_,kZ_,vi,Value.cells,Value.oneCell']
theorem kc_ (s:List UInt8) (a e x:Int) (E:TypeId):zi_ (some (false,1)) (some (.cells #[vs s,vi a,vi e] E (0,0))) 2 (vi x)=some (.cells #[vs s,vi a,vi x] E (0,0)):=by
 simp[zi_,kZ_,vi,Value.cells,Value.oneCell']
theorem nilR (b o:Nat):q0_ Tryz.prog .eql 84 (vp b o) (.pointer none)=some (.bool false):=by
 simp[q0_,eqX,qy_,qr_,Tryz.underlying84,vp]
theorem anv_:q0_ Tryz.prog .eql 84 (.pointer none) (.pointer none)=some (.bool true):=by
 simp[q0_,eqX,qy_,qr_,Tryz.underlying84]
theorem amP_ (b o:Nat):q0_ Tryz.prog .neq 84 (vp b o) (.pointer none)=some (.bool true):=by
 simp[q0_,eqX,qy_,qr_,Tryz.underlying84,vp]
theorem amq_:q0_ Tryz.prog .neq 84 (.pointer none) (.pointer none)=some (.bool false):=by
 simp[q0_,eqX,qy_,qr_,Tryz.underlying84]
set_option linter.defProp false
def zc_:=And.intro (And.intro (And.intro (@vk_) (@vu_)) (And.intro (@vC_) (@x5_))) (And.intro (And.intro (@kc_) (@nilR)) (And.intro (@anv_) (And.intro (@amP_) (@amq_))))
theorem j5_ (b:Nat) (s:List UInt8) (a e:Int) (w:World) (ho:w.heap[b]? =some (.cells #[vs s,vi a,vi e] 130 (0,0))):
  Rets Tryz.prog 60 #[vp b 0] w (fun v D=>v=vi e∧D= []):=by
 refine Rets.enterV Tryz.func60 rfl (rs:= [.tmp 2]) Tryz.results60 Tryz.ntmps60 ?_
 refine kf ?_
 first|with_reducible refine ks [] (And.intro @zc_ @ho) ?_|refine kp (And.intro @zc_ @ho) ?_
 refine⟨_,(ke @zc_),trivial, ?_⟩
 rfl
theorem aa7_ (b:Nat) (s:List UInt8) (a e:Int) (w:World) (ho:w.heap[b]? =some (.cells #[vs s,vi a,vi e] 130 (0,0))):
  Rets Tryz.prog 61 #[vp b 0] w (fun v D=>v=vi a∧D= []):=by
 refine Rets.enterV Tryz.func61 rfl (rs:= [.tmp 2]) Tryz.results61 Tryz.ntmps61 ?_
 refine kf ?_
 first|with_reducible refine ks [] (And.intro @zc_ @ho) ?_|refine kp (And.intro @zc_ @ho) ?_
 refine⟨_,(ke @zc_),trivial, ?_⟩
 rfl
theorem ZM_ (b:Nat) (s:List UInt8) (a e:Int) (w:World) (ho:w.heap[b]? =some (.cells #[vs s,vi a,vi e] 130 (0,0))):
  Rets Tryz.prog 38 #[vp b 0] w (fun v D=>v=vi (if e≠0 then e else if a<s.length then 5 else 0)∧D= []):=by
 refine Rets.enterV Tryz.func38 rfl (rs:= [.tmp 2]) Tryz.results38 Tryz.ntmps38 ?_
 refine kf ?_
 first|with_reducible refine ks [] @zc_ ?_|refine kp @zc_ ?_
 refine Ow.callFV rfl Tryz.call60 (fun w' hw'=>j5_ b s a e w' (by rw[hw'.old b (Array.getElem?_eq_some_iff.1 ho).1 (by simp[keys])];exact ho)) ?_
 refine ko @zc_ ?_
 first|with_reducible refine ks [] @zc_ ?_|refine kp @zc_ ?_
 by_cases he:e=0
 ·first|with_reducible refine ks [] @zc_ ?_|refine kp @zc_ ?_
  refine Cw.regionS [b] [0,1,2,4,5,6,3,7,8,9] [] (by kernel_rfl) (by kernel_rfl) (by kernel_rfl) ?_
  refine kya ?_
  refine kq (And.intro @zc_ @ho) ?_
  try with_reducible refine Ow.nil ?_
  first|with_reducible refine ks [] @zc_ ?_|refine kp @zc_ ?_
  refine cdC.splitp (fun hc=> ?_) (fun hc=> ?_)
  ·first|with_reducible refine ks [] @zc_ ?_|refine kp @zc_ ?_
   refine⟨_,(ke @zc_),trivial, ?_⟩
   simp[hc,he,kG_]
  ·first|with_reducible refine ks [] @zc_ ?_|refine kp @zc_ ?_
   refine⟨_,(ke @zc_),trivial, ?_⟩
   simp[hc,he,kG_]
 ·first|with_reducible refine ks [] @zc_ ?_|refine kp @zc_ ?_
  refine⟨_,(ke @zc_),trivial, ?_⟩
  simp[he,kG_]
theorem jR_ (b:Nat) (s:List UInt8) (a e x y:Int) (w:World) (ho:w.heap[b]? =some (.cells #[vs s,vi a,vi e] 130 (0,0))):
  Rets Tryz.prog 98 #[vp b 0,vi x,vi y] w (fun v D=> ∃o,D= [(b,o)]∧v= .tuple #[]∧o= .cells #[vs s,vi (if e=0 then y else a),vi (if e=0 then x else e)] 130 (0,0)):=by
 refine Rets.enterM Tryz.func98 rfl (rs:= []) Tryz.results98 Tryz.ntmps98 ho ?_
 refine kf ?_
 first|with_reducible refine ks [] @zc_ ?_|refine kp @zc_ ?_
 by_cases he:e=0
 ·first|with_reducible refine ks [] @zc_ ?_|refine kp @zc_ ?_
  refine⟨_,_,_,(ke @zc_),rfl,trivial, ?_⟩
  simp[he,kG_]
 ·first|with_reducible refine ks [] @zc_ ?_|refine kp @zc_ ?_
  refine⟨_,_,_,(ke @zc_),rfl,trivial, ?_⟩
  simp[he,kG_]
def q8_ (s:List UInt8) (a:Nat) (e n:Int):List UInt8×Nat×Int:=
 if e≠0 then([],a,e) else if n<0 then([],a,2) else if(s.length:Int) - a<n then([],a,3) else((s.drop a).take n.toNat,a+n.toNat,0)
theorem k8_ (b:Nat) (s:List UInt8) (a:Nat) (e n:Int) (w:World) (ha:a≤s.length) (hs:s.length<9223372036854775808) (ho:w.heap[b]? =some (.cells #[vs s,vi a,vi e] 130 (0,0))):
  Rets Tryz.prog 58 #[vp b 0,vi n] w (fun v D=> ∃o,D= [(b,o)]∧v=vs (q8_ s a e n).1∧o= .cells #[vs s,vi (q8_ s a e n).2.1,vi (q8_ s a e n).2.2] 130 (0,0)):=by
 refine Rets.enterM Tryz.func58 rfl (rs:= [.tmp 4]) Tryz.results58 Tryz.ntmps58 ho ?_
 refine kf ?_
 first|with_reducible refine ks [] @zc_ ?_|refine kp @zc_ ?_
 refine Ow.callFV rfl Tryz.call60 (fun w' hw'=>j5_ b s a e w' (hw'.has _ _ List.mem_cons_self)) ?_
 refine ko @zc_ ?_
 first|with_reducible refine ks [] @zc_ ?_|refine kp @zc_ ?_
 unfold q8_
 by_cases he:e=0
 ·subst he
  rw[if_neg (fun h=>h rfl)]
  first|with_reducible refine ks [] @zc_ ?_|refine kp @zc_ ?_
  by_cases hn:n<0
  ·rw[if_pos hn]
   first|with_reducible refine ks [] @zc_ ?_|refine kp @zc_ ?_
   refine Ow.callM rfl rfl Tryz.call98 (by simp[keys]) (fun w' hw'=>jR_ b s a 0 2 a w' (hw'.has _ _ List.mem_cons_self)) ?_
   refine ko @zc_ ?_
   first|with_reducible refine ks [] @zc_ ?_|refine kp @zc_ ?_
   refine⟨_,_,_,(ke @zc_),rfl,trivial, ?_⟩
   exact⟨rfl,rfl⟩
  ·rw[if_neg hn]
   first|with_reducible refine ks [] @zc_ ?_|refine kp @zc_ ?_
   refine Cw.regionS [b] [0,1,2,3,6,7,8,4,5,9,10,11,12] [] (by kernel_rfl) (by kernel_rfl) (by kernel_rfl) ?_
   refine kya ?_
   refine kq @zc_ ?_
   try with_reducible refine Ow.nil ?_
   first|with_reducible refine ks [] @zc_ ?_|refine kp @zc_ ?_
   by_cases hl: (s.length:Int) - a<n
   ·rw[if_pos hl]
    first|with_reducible refine ks [] @zc_ ?_|refine kp @zc_ ?_
    refine Ow.callM rfl rfl Tryz.call98 (by simp[keys]) (fun w' hw'=>jR_ b s a 0 3 a w' (hw'.has _ _ List.mem_cons_self)) ?_
    refine ko @zc_ ?_
    first|with_reducible refine ks [] @zc_ ?_|refine kp @zc_ ?_
    refine⟨_,_,_,(ke @zc_),rfl,trivial, ?_⟩
    exact⟨rfl,rfl⟩
   ·rw[if_neg hl]
    obtain⟨m,rfl⟩: ∃m:Nat,n=(m:Int):=⟨n.toNat,by omega⟩
    first|with_reducible refine ks [] @zc_ ?_|refine kp @zc_ ?_
    refine Cw.regionS [b] [0,1,2,4,5,6,8,9,10,12,3,7,11,13,14,15] [] (by kernel_rfl) (by kernel_rfl) (by kernel_rfl) ?_
    refine kya ?_
    refine kq @zc_ ?_
    try with_reducible refine Ow.nil ?_
    first|with_reducible refine ks [] @zc_ ?_|refine kp @zc_ ?_
    refine⟨_,_,_,(ke @zc_),rfl,trivial, ?_⟩
    refine⟨?_, ?_⟩
    ·simp only[kG_,Int.toNat_natCast]
     rw[List.drop_take,Nat.add_sub_cancel_left]
    ·rw[Int.toNat_natCast,Int.natCast_add]
 ·rw[if_pos he]
  first|with_reducible refine ks [] @zc_ ?_|refine kp @zc_ ?_
  refine⟨_,_,_,(ke @zc_),rfl,trivial, ?_⟩
  exact⟨rfl,rfl⟩
end Go.Proofs
end
section
open Go Go.Proofs Go.Sx
namespace Go.Proofs
set_option maxRecDepth 10000
set_option maxHeartbeats 8000000
set_option linter.unusedSimpArgs false
set_option linter.defProp false
def z2_ (most:Int):List UInt8→Nat→Nat→Except Nat (Nat×Nat)
 | [],_,_=> .error 3
 |c::r,k,n=>
  if 128≤c.toNat then(if k+1=6 then .error 4 else z2_ most r (k+1) (n+c.toNat%128*128^k))
  else if c.toNat=0∧0<k then .error 2
  else if n+c.toNat%128*128^k≤1099511627775∧((n+c.toNat%128*128^k:Nat):Int)≤most then .ok (n+c.toNat%128*128^k,k+1)
  else .error 4
def zr_ (s:List UInt8) (a:Nat) (e most:Int):Int×Nat×Int:=
 if e≠0 then(0,a,e) else match z2_ most (s.drop a) 0 0 with
  | .ok (n,k)=>(n,a+k,0)
  | .error x=>(0,a,x)
theorem QC_ {s:List UInt8} {a:Nat} {e most:Int} {n k:Nat} (he:e=0) (h:z2_ most (s.drop a) 0 0= .ok (n,k)):zr_ s a e most=((n:Int),a+k,0):=by
 unfold zr_;rw[if_neg (by simp[he]),h]
theorem jj_ {s:List UInt8} {a:Nat} {e most:Int} {x:Nat} (he:e=0) (h:z2_ most (s.drop a) 0 0= .error x):zr_ s a e most=(0,a,(x:Int)):=by
 unfold zr_;rw[if_neg (by simp[he]),h]
structure NumS where
 more:Bool
 k:Nat
 n:Nat
 x:Nat
theorem qL_ (b:Nat) (s:List UInt8) (a:Nat) (e most:Int) (w:World) (ha:a≤s.length) (hs:s.length<9223372036854775808) (ho:w.heap[b]? =some (.cells #[vs s,vi a,vi e] 130 (0,0))):
  Rets Tryz.prog 59 #[vp b 0,vi most] w (fun v D=> ∃o,D= [(b,o)]∧v=vi (zr_ s a e most).1∧o= .cells #[vs s,vi (zr_ s a e most).2.1,vi (zr_ s a e most).2.2] 130 (0,0)):=by
 refine Rets.enterM Tryz.func59 rfl (rs:= [.tmp 4]) Tryz.results59 Tryz.ntmps59 ho ?_
 refine kf ?_
 first|with_reducible refine ks [] @zc_ ?_|refine kp @zc_ ?_
 by_cases he:e=0
 ·subst he
  refine Cw.scopeL (G:=NumS) (fun g=>(if g.more then 1 else 0)) [10,11,12,4,5,6,7,13,14,15,16,8,9,17,18,19,20,21,22,23,24,25,26,27,28,29,30,31,32,33,34,35,36,37,38,39,40,41,42,43,44,45,46,47,48,49,50,51,52,53,54,55,56,57,58,59,60,61,62,63,64,65,66,67,68,69,70,71,72,73] (fun g=>(if g.more then [(5,vi g.n),(6,vi (7*g.k:Nat)),(8,vi 3),(9,vi a)] else [(8,vi g.x),(9,vi a)])) (fun g=> [(b, .cells #[vs s,vi (a+g.k:Nat),vi 0] 130 (0,0))]) (fun g=>a+g.k≤s.length∧(if g.more then z2_ most (s.drop a) 0 0=z2_ most (s.drop (a+g.k)) g.k g.n∧g.n<128^g.k∧g.k<6 else z2_ most (s.drop a) 0 0= .error g.x)) (fun g=>(if g.more then 7 - g.k else 0)) ?_ ?_ ?_
  ·intro g
   obtain⟨m,k,n,x⟩:=g
   cases m<;>rfl
  ·intro g j hg
   obtain⟨m,k,n,x⟩:=g
   obtain⟨hk,hg⟩:=hg
   simp only at hk
   cases m with
   |false=>
    simp only[Bool.false_eq_true, ↓reduceIte] at hg ⊢
    simp only[xu_,Zk_,Bool.or_false,Bool.false_or,Bool.or_true,Bool.true_or,Nat.reduceBEq,beq_self_eq_true, ↓reduceIte,Bool.false_eq_true]
    refine kv ?_
    try with_reducible refine qo_ ?_
    first|with_reducible refine ks [] @zc_ ?_|refine kp @zc_ ?_
    refine Ow.callM rfl rfl Tryz.call98 (by simp[keys]) (fun w' hw'=>jR_ b s _ 0 x a w' (hw'.has _ _ List.mem_cons_self)) ?_
    refine ko @zc_ ?_
    first|with_reducible refine ks [] @zc_ ?_|refine kp @zc_ ?_
    rw[jj_ rfl hg]
    refine⟨_,_,_,(ke @zc_),rfl,trivial, ?_⟩
    simp[kG_]
   |true=>
    simp only[↓reduceIte] at hg ⊢
    obtain⟨hgo,hn,hk6⟩:=hg
    simp only[xu_,Zk_,Bool.or_false,Bool.false_or,Bool.or_true,Bool.true_or,Nat.reduceBEq,beq_self_eq_true, ↓reduceIte,Bool.false_eq_true]
    refine kv ?_
    try with_reducible refine qo_ ?_
    first|with_reducible refine ks [] @zc_ ?_|refine kp @zc_ ?_
    refine Cw.regionS [b] [0,1,2,4,5,6,3,7,8,9] [] (by kernel_rfl) (by kernel_rfl) (by kernel_rfl) ?_
    refine kya ?_
    refine kq @zc_ ?_
    try with_reducible refine Ow.nil ?_
    by_cases hend:a+k=s.length
    ·first|with_reducible refine ks [] @zc_ ?_|refine kp @zc_ ?_
     refine Jump.mk (NumS.mk false k n 3) rfl (by show 0<7 - k;omega) ⟨hk, ?_⟩ rfl rfl
     show z2_ most (s.drop a) 0 0= .error 3
     rw[hgo,hend,List.drop_length];rfl
    ·first|with_reducible refine ks [] @zc_ ?_|refine kp @zc_ ?_
     have hak:a+k<s.length:=by omega
     have hdrop:s.drop (a+k)=s.getD (a+k) 0::s.drop (a+k+1):=by
      rw[List.drop_eq_getElem_cons hak,List.getD_eq_getElem?_getD,List.getElem?_eq_getElem hak];rfl
     rw[hdrop] at hgo
     refine Cw.regionS [b] [0,1,2,4,5,6,3,7,8,9] [] (by kernel_rfl) (by kernel_rfl) (by kernel_rfl) ?_
     refine kya ?_
     refine kq @zc_ ?_
     try with_reducible refine Ow.nil ?_
     generalize s.getD (a+k) 0=c at*
     have hp:128^k≤34359738368:=Nat.pow_le_pow_right (by omega) (show k≤5 by omega)
     have hp0:0<128^k:=Nat.pow_pos (by omega)
     have hd: (c%128).toNat=c.toNat%128:=by simp
     have hcl:=c.toNat_lt
     have hdm:c.toNat%128*128^k≤127*128^k:=Nat.mul_le_mul_right _ (by omega)
     have hshl:zM_ .shl (vi ((c.toNat%128:Nat):Int)) (vi ((7*k:Nat):Int))=some (vi ((c.toNat%128*128^k:Nat):Int)):=by
      have h2: (2:Int)^ (7*k)=((128^k:Nat):Int):=by
       rw[Int.pow_mul];push_cast;rfl
      have:=aeg_ ((c.toNat%128:Nat):Int) .i64 (7*k) (by rw[h2];refine⟨by omega,by omega, ?_⟩;rw[←Int.natCast_mul];omega)
      rw[h2,←Int.natCast_mul] at this
      exact this
     have hor:zM_ .or (vi (n:Int)) (vi ((c.toNat%128*128^k:Nat):Int))=some (vi ((n+c.toNat%128*128^k:Nat):Int)):=by
      have:=or_i (n:Int) ((c.toNat%128*128^k:Nat):Int) ⟨by omega,by omega,by omega,by omega⟩
      rw[this]
      congr 3
      rw[Int.toNat_natCast,Int.toNat_natCast,show 128^k=2^ (7*k) by rw[Nat.pow_mul],Nat.mul_comm,Nat.or_comm,←Nat.two_pow_add_eq_or_of_lt (by rw[Nat.pow_mul];exact hn),Nat.add_comm]
     have hlt:n+c.toNat%128*128^k<128^ (k+1):=by rw[Nat.pow_succ];omega
     have hrem:zM_ .rem (v8 c) (v8 128)=some (v8 (c%128)):=Xc_ _ _ (by decide)
     first|with_reducible refine ks [] (And.intro @zc_ (And.intro @hrem (And.intro @hd (And.intro @hshl (@hor))))) ?_|refine kp (And.intro @zc_ (And.intro @hrem (And.intro @hd (And.intro @hshl (@hor))))) ?_
     have hle:decide ((128:UInt8)≤c)=decide (128≤c.toNat):=by simp[UInt8.le_iff_toNat_le]
     cases h128:decide ((128:UInt8)≤c)
     ·rw[h128] at hle
      have hc128: ¬128≤c.toNat:=of_decide_eq_false hle.symm
      cases hz: (c==0)
      ·have hc0: ¬ (c.toNat=0∧0<k):=by
        rintro⟨h0,-⟩
        have:c=0:=UInt8.toNat_inj.1 h0
        rw[this] at hz
        exact absurd hz (by decide)
       first|with_reducible refine ks [] (And.intro @zc_ @hz) ?_|refine kp (And.intro @zc_ @hz) ?_
       by_cases hm:n+c.toNat%128*128^k≤1099511627775
       ·have e1:decide (((n+c.toNat%128*128^k:Nat):Int)≤1099511627775)=true:=decide_eq_true (by omega)
        first|with_reducible refine ks [] (And.intro @zc_ @e1) ?_|refine kp (And.intro @zc_ @e1) ?_
        by_cases hmo: ((n+c.toNat%128*128^k:Nat):Int)≤most
        ·first|with_reducible refine ks [] @zc_ ?_|refine kp @zc_ ?_
         rw[QC_ rfl (by rw[hgo,z2_,if_neg hc128,if_neg hc0,if_pos ⟨hm,hmo⟩])]
         refine⟨_,_,_,(ke @zc_),rfl,trivial, ?_⟩
         exact⟨rfl,rfl⟩
        ·first|with_reducible refine ks [] @zc_ ?_|refine kp @zc_ ?_
         refine Ow.callM rfl rfl Tryz.call98 (by simp[keys]) (fun w' hw'=>jR_ b s _ 0 4 a w' (hw'.has _ _ List.mem_cons_self)) ?_
         refine ko @zc_ ?_
         first|with_reducible refine ks [] @zc_ ?_|refine kp @zc_ ?_
         rw[jj_ (x:=4) rfl (by rw[hgo,z2_,if_neg hc128,if_neg hc0,if_neg (fun h=>hmo h.2)])]
         refine⟨_,_,_,(ke @zc_),rfl,trivial, ?_⟩
         exact⟨rfl,rfl⟩
       ·have e1:decide (((n+c.toNat%128*128^k:Nat):Int)≤1099511627775)=false:=decide_eq_false (by omega)
        first|with_reducible refine ks [] (And.intro @zc_ @e1) ?_|refine kp (And.intro @zc_ @e1) ?_
        refine Ow.callM rfl rfl Tryz.call98 (by simp[keys]) (fun w' hw'=>jR_ b s _ 0 4 a w' (hw'.has _ _ List.mem_cons_self)) ?_
        refine ko @zc_ ?_
        first|with_reducible refine ks [] @zc_ ?_|refine kp @zc_ ?_
        rw[jj_ (x:=4) rfl (by rw[hgo,z2_,if_neg hc128,if_neg hc0,if_neg (fun h=>hm h.1)])]
        refine⟨_,_,_,(ke @zc_),rfl,trivial, ?_⟩
        exact⟨rfl,rfl⟩
      ·have hcz:c=0:=eq_of_beq hz
       have hct:c.toNat=0:=by rw[hcz];rfl
       first|with_reducible refine ks [] (And.intro @zc_ @hz) ?_|refine kp (And.intro @zc_ @hz) ?_
       by_cases hk0:0<k
       ·first|with_reducible refine ks [] @zc_ ?_|refine kp @zc_ ?_
        refine Jump.mk (NumS.mk false (k+1) n 2) rfl (by show 0<7 - k;omega) ⟨by show a+ (k+1)≤s.length;omega, ?_⟩ rfl rfl
        show z2_ most (s.drop a) 0 0= .error 2
        rw[hgo,z2_,if_neg hc128,if_pos ⟨hct,hk0⟩]
       ·have hc0: ¬ (c.toNat=0∧0<k):=fun h=>hk0 h.2
        first|with_reducible refine ks [] @zc_ ?_|refine kp @zc_ ?_
        by_cases hm:n+c.toNat%128*128^k≤1099511627775
        ·have e1:decide (((n+c.toNat%128*128^k:Nat):Int)≤1099511627775)=true:=decide_eq_true (by omega)
         first|with_reducible refine ks [] (And.intro @zc_ @e1) ?_|refine kp (And.intro @zc_ @e1) ?_
         by_cases hmo: ((n+c.toNat%128*128^k:Nat):Int)≤most
         ·first|with_reducible refine ks [] @zc_ ?_|refine kp @zc_ ?_
          rw[QC_ rfl (by rw[hgo,z2_,if_neg hc128,if_neg hc0,if_pos ⟨hm,hmo⟩])]
          refine⟨_,_,_,(ke @zc_),rfl,trivial, ?_⟩
          exact⟨rfl,rfl⟩
         ·first|with_reducible refine ks [] @zc_ ?_|refine kp @zc_ ?_
          refine Ow.callM rfl rfl Tryz.call98 (by simp[keys]) (fun w' hw'=>jR_ b s _ 0 4 a w' (hw'.has _ _ List.mem_cons_self)) ?_
          refine ko @zc_ ?_
          first|with_reducible refine ks [] @zc_ ?_|refine kp @zc_ ?_
          rw[jj_ (x:=4) rfl (by rw[hgo,z2_,if_neg hc128,if_neg hc0,if_neg (fun h=>hmo h.2)])]
          refine⟨_,_,_,(ke @zc_),rfl,trivial, ?_⟩
          exact⟨rfl,rfl⟩
        ·have e1:decide (((n+c.toNat%128*128^k:Nat):Int)≤1099511627775)=false:=decide_eq_false (by omega)
         first|with_reducible refine ks [] (And.intro @zc_ @e1) ?_|refine kp (And.intro @zc_ @e1) ?_
         refine Ow.callM rfl rfl Tryz.call98 (by simp[keys]) (fun w' hw'=>jR_ b s _ 0 4 a w' (hw'.has _ _ List.mem_cons_self)) ?_
         refine ko @zc_ ?_
         first|with_reducible refine ks [] @zc_ ?_|refine kp @zc_ ?_
         rw[jj_ (x:=4) rfl (by rw[hgo,z2_,if_neg hc128,if_neg hc0,if_neg (fun h=>hm h.1)])]
         refine⟨_,_,_,(ke @zc_),rfl,trivial, ?_⟩
         exact⟨rfl,rfl⟩
     ·rw[h128] at hle
      have hc128:128≤c.toNat:=of_decide_eq_true hle.symm
      first|with_reducible refine ks [] @zc_ ?_|refine kp @zc_ ?_
      by_cases hk5:k=5
      ·first|with_reducible refine ks [] @zc_ ?_|refine kp @zc_ ?_
       refine Jump.mk (NumS.mk false (k+1) n 4) rfl (by show 0<7 - k;omega) ⟨by show a+ (k+1)≤s.length;omega, ?_⟩ rfl rfl
       show z2_ most (s.drop a) 0 0= .error 4
       rw[hgo,z2_,if_pos hc128,if_pos (by omega)]
      ·first|with_reducible refine ks [] @zc_ ?_|refine kp @zc_ ?_
       refine Jump.mk (NumS.mk true (k+1) (n+c.toNat%128*128^k) 0) rfl (by show 7 - (k+1)<7 - k;omega) ⟨by show a+ (k+1)≤s.length;omega, ?_⟩ rfl rfl
       show z2_ most (s.drop a) 0 0=z2_ most (s.drop (a+ (k+1))) (k+1) (n+c.toNat%128*128^k)∧n+c.toNat%128*128^k<128^ (k+1)∧k+1<6
       refine⟨?_,hlt,by omega⟩
       rw[hgo,z2_,if_pos hc128,if_neg (by omega)]
       rfl
  ·intro key
   have key0:=fun f'=>key (NumS.mk true 0 0 0) f'
   simp only[xu_,Zk_,Bool.or_false,Bool.false_or,Bool.or_true,Bool.true_or,Nat.reduceBEq,beq_self_eq_true, ↓reduceIte,Bool.false_eq_true] at key0
   clear key
   repeat first|with_reducible refine ks [999999] @zc_ ?_|refine kw @zc_ ?_
   refine Ow.callFV rfl Tryz.call60 (fun w' hw'=>j5_ b s a 0 w' (hw'.has _ _ List.mem_cons_self)) ?_
   refine ko @zc_ ?_
   repeat first|with_reducible refine ks [999999] @zc_ ?_|refine kw @zc_ ?_
   repeat first|with_reducible refine ks [999999] @zc_ ?_|refine kw @zc_ ?_
   refine Cw.regionS [b] [0,1,2,4,3,5] [] (by kernel_rfl) (by kernel_rfl) (by kernel_rfl) ?_
   refine kya ?_
   refine kq @zc_ ?_
   try with_reducible refine Ow.nil ?_
   repeat first|with_reducible refine ks [999999] @zc_ ?_|refine kw @zc_ ?_
   refine Cw.label ?_
   refine key0 _ ⟨by omega,rfl,by omega,by omega⟩ ?_
   rfl
 ·refine Cw.scopeS ?_
  first|with_reducible refine ks [] @zc_ ?_|refine kp @zc_ ?_
  refine Ow.callFV rfl Tryz.call60 (fun w' hw'=>j5_ b s a e w' (hw'.has _ _ List.mem_cons_self)) ?_
  refine ko @zc_ ?_
  first|with_reducible refine ks [] @zc_ ?_|refine kp @zc_ ?_
  unfold zr_
  refine⟨_,_,_,(ke @zc_),rfl,trivial, ?_⟩
  simp[he,kG_]
end Go.Proofs
end
namespace Go.Sx
open Go
section
variable {P:Program} {w0:World} {f:Fr} {L:zb_} {N:Fr→zb_→Prop} {ops:Array Oper} {rest:List Oper} {md:Md}
 {d:Option Tmp} {ty:TypeId} {ps:String} {af:Array Edge} {g:Option (Nat×Bool)}
theorem ZZ_ (l:List UInt8) (k size:Nat) (w:World): (Builtin.firstCells size k (vs l)).run P w= .ok ((l.take k).map v8).toArray w:=by
 simp only[vs,Builtin.firstCells]
 show Result.ok _ w=_
 congr 1
 have: ((ByteArray.mk l.toArray).extract 0 k).data=(l.take k).toArray:=by
  rw[ByteArray.data_extract]
  simp
 rw[this]
 simp
 rfl
theorem zv_ (R:List Nat) (x:UInt8):Wb_ R (v8 x)=true:=(rfl)
theorem Kk_ (R:List Nat) (x:UInt16):Wb_ R (v16 x)=true:=(rfl)
theorem X7_ (R:List Nat) (x:UInt32):Wb_ R (v32 x)=true:=(rfl)
theorem Xx_ (R:List Nat) (x:UInt64):Wb_ R (v64 x)=true:=(rfl)
theorem zu_ (R:List Nat) (x:Int):Wb_ R (vi x)=true:=(rfl)
theorem Ow.copyText {td tx e:TypeId} {m:Bool×Nat} {x y:Operand} {b off n c:Nat} {l:List UInt8} {cs:Array Value} {E:TypeId} {md':Md} (he:md.turn=some md')
  (hs:zf_ ops f ⟨d, .call ⟨.builtin .copy, #[x,y], #[td,tx]⟩,ty,ps,af,g⟩=false) (hu:P.underlying td=some (.slice e)) (hm:z3_ P e=some m)
  (hx:ev f x=vsl b off n c) (hy:ev f y=vs l) (hl:look L b=some (.cells cs E (0,0))) (hn:off+n≤cs.size)
  (hO:Ow P w0 ops md' rest (qg_ f d (vi (min l.length n:Nat))) (setB L b (.cells (kZ_ cs off ((l.take (min l.length n)).map v8)) E (0,0))) N):
  Ow P w0 ops md (⟨d, .call ⟨.builtin .copy, #[x,y], #[td,tx]⟩,ty,ps,af,g⟩::rest) f L N:=by
 refine Ow.step he rfl hs fun w hw=> ?_
 have hb:=hw.has _ _ (zF_ hl)
 have hlt:=(Array.getElem?_eq_some_iff.1 hb).1
 have hlen: (Builtin.lenOf (vs l)).run P w= .ok l.length w:=by simp only[vs,Builtin.lenOf,kP_];rfl
 have hfc:=ZZ_ (P:=P) l (min l.length n) m.2 w
 have hst:=jY_ (P:=P) (b:=b) (off:=off) (E:=E) (fz:=(0,0)) ((l.take (min l.length n)).map v8) 0 cs w hb (by
  rw[List.length_map,List.length_take];have:=Nat.min_le_right l.length n;omega) (.inl (Nat.le_refl 0)) (by rw[List.all_map,List.all_eq_true];intro x _;rfl)
 refine .inl ⟨vi (min l.length n:Nat),{w with heap:=w.heap.setIfInBounds b (.cells (kZ_ cs off ((l.take (min l.length n)).map v8)) E (0,0))},_, ?_,hw.set (zm_ hl) rfl rfl rfl rfl,hO⟩
 simp only[execOp,resolve,Sem.run_bind,Sem.run_pure,Result.andThen_ok,invoke,builtin,List.map_toArray,List.map_cons,List.map_nil,hx,hy]
 have: (Builtin.copy_ #[td,tx] ty #[vsl b off n c,vs l]).run P w= .ok (vi (min l.length n:Nat)) {w with heap:=w.heap.setIfInBounds b (.cells (kZ_ cs off ((l.take (min l.length n)).map v8)) E (0,0))}:=by
  simp only[Builtin.copy_,vsl,List.getElem?_toArray,List.getElem?_cons_zero,List.getElem?_cons_succ,Sem.run_bind,run_underlying hu w,Result.andThen_ok,hlen,zz_ hm w]
  rw[show l.length.min n=min l.length n from rfl,hfc]
  simp only[Result.andThen_ok]
  rw[hst]
  rfl
 rw[this]
 rfl
end
end Go.Sx
section
open Go Go.Proofs Go.Sx
namespace Go.Proofs
set_option maxRecDepth 10000
set_option maxHeartbeats 2000000
set_option linter.unusedSimpArgs false
set_option linter.defProp false
theorem XR_ (most:Int): ∀ (l:List UInt8) (k n m k':Nat),z2_ most l k n= .ok (m,k')→k<k'∧k'≤k+l.length
 | [],k,n,m,k',h=>by cases h
 |c::r,k,n,m,k',h=>by
  unfold z2_ at h
  split at h
  ·split at h
   ·cases h
   ·have:=XR_ most r (k+1) _ m k' h
    simp only[List.length_cons];omega
  ·split at h
   ·cases h
   ·split at h
    ·cases h;simp only[List.length_cons];omega
    ·cases h
theorem qd_ {s:List UInt8} {a:Nat} {e most:Int} (ha:a≤s.length):a≤ (zr_ s a e most).2.1∧(zr_ s a e most).2.1≤s.length:=by
 unfold zr_
 split
 ·exact⟨Nat.le_refl _,ha⟩
 ·cases h:z2_ most (s.drop a) 0 0 with
  |error x=>exact⟨Nat.le_refl _,ha⟩
  |ok p=>
   obtain⟨n,k⟩:=p
   have:=XR_ most _ _ _ _ _ h
   rw[List.length_drop] at this
   exact⟨by show a≤a+k;omega,by show a+k≤s.length;omega⟩
theorem kl_ {s:List UInt8} {a:Nat} {e n:Int} (ha:a≤s.length):a≤ (q8_ s a e n).2.1∧(q8_ s a e n).2.1≤s.length:=by
 unfold q8_
 split
 ·exact⟨Nat.le_refl _,ha⟩
 ·split
  ·exact⟨Nat.le_refl _,ha⟩
  ·split
   ·exact⟨Nat.le_refl _,ha⟩
   ·exact⟨by show a≤a+n.toNat;omega,by show a+n.toNat≤s.length;omega⟩
def zS_ (s:List UInt8) (a:Nat) (e most:Int):List UInt8×Nat×Int:=
 let p:=zr_ s a e most
 let q:=q8_ s p.2.1 p.2.2 p.1
 if q.2.2≠0 then([],a,q.2.2) else q
theorem vh_ (b:Nat) (s:List UInt8) (a:Nat) (e most:Int) (w:World) (ha:a≤s.length) (hs:s.length<9223372036854775808) (ho:w.heap[b]? =some (.cells #[vs s,vi a,vi e] 130 (0,0))):
  Rets Tryz.prog 62 #[vp b 0,vi most] w (fun v D=> ∃o,D= [(b,o)]∧v=vs (zS_ s a e most).1∧o= .cells #[vs s,vi (zS_ s a e most).2.1,vi (zS_ s a e most).2.2] 130 (0,0)):=by
 refine Rets.enterM Tryz.func62 rfl (rs:= [.tmp 4]) Tryz.results62 Tryz.ntmps62 ho ?_
 refine kf ?_
 first|with_reducible refine ks [] @zc_ ?_|refine kp @zc_ ?_
 refine Ow.callFV rfl Tryz.call61 (fun w' hw'=>aa7_ b s a e w' (hw'.has _ _ List.mem_cons_self)) ?_
 refine ko @zc_ ?_
 first|with_reducible refine ks [] @zc_ ?_|refine kp @zc_ ?_
 have hp:=qd_ (e:=e) (most:=most) ha
 unfold zS_
 refine Ow.callM rfl rfl Tryz.call59 (by simp[keys]) (fun w' hw'=>qL_ b s a e most w' ha hs (hw'.has _ _ List.mem_cons_self)) ?_
 generalize zr_ s a e most=p at*
 obtain⟨n,a1,e1⟩:=p
 simp only at hp ⊢
 refine ko @zc_ ?_
 refine Ow.callM rfl rfl Tryz.call58 (by simp[keys]) (fun w' hw'=>k8_ b s a1 e1 n w' hp.2 hs (hw'.has _ _ List.mem_cons_self)) ?_
 have hq:=kl_ (e:=e1) (n:=n) hp.2
 generalize q8_ s a1 e1 n=q at*
 obtain⟨t,a2,e2⟩:=q
 simp only at hq ⊢
 refine ko @zc_ ?_
 first|with_reducible refine ks [] @zc_ ?_|refine kp @zc_ ?_
 by_cases he:e2=0
 ·first|with_reducible refine ks [] @zc_ ?_|refine kp @zc_ ?_
  refine⟨_,_,_,(ke @zc_),rfl,trivial, ?_⟩
  simp[he,kG_]
 ·first|with_reducible refine ks [] @zc_ ?_|refine kp @zc_ ?_
  refine Ow.minI rfl rfl rfl ?_
  have hmin: (if(a:Int)< (a2:Int) then(a:Int) else(a2:Int))=a:=by split<;>omega
  rw[hmin]
  refine ko @zc_ ?_
  first|with_reducible refine ks [] @zc_ ?_|refine kp @zc_ ?_
  refine⟨_,_,_,(ke @zc_),rfl,trivial, ?_⟩
  simp[he,kG_]
def z32:List UInt8:=List.replicate 32 0
def idR (s:List UInt8) (a:Nat) (e:Int):List UInt8×Nat×Int:=
 let q:=q8_ s a e 32
 (if q.1.length=32 then q.1 else z32,q.2)
theorem abK_ {s:List UInt8} {a:Nat} {e:Int} (_ha:a≤s.length): (q8_ s a e 32).1= []∨(q8_ s a e 32).1.length=32:=by
 unfold q8_
 split
 ·exact .inl rfl
 ·split
  ·exact .inl rfl
  ·split
   ·exact .inl rfl
   ·right
    show((s.drop a).take 32).length=32
    rw[List.length_take,List.length_drop];omega
theorem ajI_ {t:List UInt8} (h:t= []∨t.length=32):kZ_ (a8 (List.replicate 32 0)) 0 ((t.take (min t.length 32)).map v8)=a8 (if t.length=32 then t else z32):=by
 rcases h with rfl|h
 ·rfl
 ·rw[if_pos h,h,Nat.min_self,List.take_of_length_le (by omega)]
  have:=ab2_ (t.map v8) [] ((List.replicate 32 (0:UInt8)).map v8) (by simp[h])
  simp only[List.nil_append,List.length_nil] at this
  show kZ_ ((List.replicate 32 (0:UInt8)).map v8).toArray 0 (t.map v8)=(t.map v8).toArray
  rw[this]
  rw[List.drop_eq_nil_of_le (by simp[h]),List.append_nil]
theorem Xz_ (b:Nat) (s:List UInt8) (a:Nat) (e:Int) (w:World) (ha:a≤s.length) (hs:s.length<9223372036854775808) (ho:w.heap[b]? =some (.cells #[vs s,vi a,vi e] 130 (0,0))):
  Rets Tryz.prog 144 #[vp b 0] w (fun v D=> ∃o,D= [(b,o)]∧v= .agg (a8 (idR s a e).1)∧o= .cells #[vs s,vi (idR s a e).2.1,vi (idR s a e).2.2] 130 (0,0)):=by
 have hbl:=(Array.getElem?_eq_some_iff.1 ho).1
 have hq:=abK_ (e:=e) ha
 unfold idR
 refine Rets.enterM Tryz.func144 rfl (rs:= [.cell 2 42]) Tryz.results144 Tryz.ntmps144 ho ?_
 refine kf ?_
 first|with_reducible refine ks [] @zc_ ?_|refine kp @zc_ ?_
 refine Ow.alloc rfl rfl Tryz.zr42 fun b2 hb2 hw2=> ?_
 refine ko @zc_ ?_
 first|with_reducible refine ks [] @zc_ ?_|refine kp @zc_ ?_
 refine Ow.alloc rfl rfl Tryz.zr42 fun b3 hb3 hw3=> ?_
 obtain⟨h13,h23,-⟩:=hb3
 obtain⟨h12,-⟩:=hb2
 refine ko @zc_ ?_
 first|with_reducible refine ks [] @zc_ ?_|refine kp @zc_ ?_
 refine Cw.regionS [] [0,1,2,3] [] (by kernel_rfl) (by kernel_rfl) (by kernel_rfl) ?_
 refine kya ?_
 refine kq @zc_ ?_
 refine Ow.softA ?_
 refine Ow.callM rfl rfl Tryz.call58 (by simp[keys]) (fun w' hw'=>k8_ b s a e 32 w' ha hs (hw'.has _ _ List.mem_cons_self)) ?_
 generalize q8_ s a e 32=q at*
 obtain⟨t,a2,e2⟩:=q
 simp only at hq ⊢
 try with_reducible refine Ow.nil ?_
 refine⟨fun b hb=>absurd hb (by simp), ?_⟩
 simp(disch:=omega) only[qR_]
 refine Ow.softA ?_
 refine Ow.copyText (cs:=a8 (List.replicate 32 0)) (E:=42) (e:=5) rfl rfl Tryz.underlying109 Tryz.ag5 rfl rfl (by simp(disch:=omega) only[z5_,zL_]) (by rw[xW_];simp) ?_
 rw[ajI_ hq]
 have hil: (if t.length=32 then t else z32).length=32:=by
  split
  ·assumption
  ·simp[z32]
 generalize (if t.length=32 then t else z32)=id at*
 try with_reducible refine Ow.nil ?_
 refine⟨fun b hb=>absurd hb (by simp), ?_⟩
 simp(disch:=omega) only[qR_,qw_]
 refine kq @zc_ ?_
 try with_reducible refine Ow.nil ?_
 first|with_reducible refine ks [] @zc_ ?_|refine kp @zc_ ?_
 refine⟨_,_,_,(ke @zc_),rfl,⟨hw2,hw3,trivial⟩, ?_⟩
 exact⟨rfl,rfl⟩
theorem wf_ (s:List UInt8) (w:World):
  Rets Tryz.prog 35 #[vs s] w (fun v D=> ∃b,w.heap.size≤b∧v=vp b 0∧D= [(b, .cells #[vs s,vi 0,vi 0] 130 (0,0))]):=by
 refine Rets.enter Tryz.func35 rfl (rs:= [.tmp 2]) Tryz.results35 Tryz.ntmps35 ?_
 refine kf ?_
 first|with_reducible refine ks [] @zc_ ?_|refine kp @zc_ ?_
 refine Ow.build (.agg #[vs s,vi 0,vi 0]) rfl (by kernel_rfl) ?_
 refine ko @zc_ ?_
 refine Ow.box rfl rfl fun b1 hb1 hw1=> ?_
 refine ko @zc_ ?_
 first|with_reducible refine ks [] @zc_ ?_|refine kp @zc_ ?_
 refine⟨_,(by simp only[JC_,KA_,abM_,zC_,zB_,JL_];rfl),b1,hw1,rfl, ?_⟩
 rfl
end Go.Proofs
end
section
open Go Go.Proofs Go.Sx
namespace Go.Proofs
set_option maxRecDepth 10000
set_option maxHeartbeats 4000000
set_option linter.unusedSimpArgs false
set_option linter.defProp false
def zj_:=And.intro (And.intro (And.intro (@zv_) (@Kk_)) (And.intro (@X7_) (And.intro (@Xx_) (@zu_)))) (And.intro (And.intro (@vk_) (@vu_)) (And.intro (@vC_) (And.intro (@x5_) (@kc_))))
theorem Z8_ (b:Nat) (s:List UInt8) (a:Nat) (e n:Int) (w:World) (ha:a≤s.length) (hs:s.length<1099511627776) (ho:w.heap[b]? =some (.cells #[vs s,vi a,vi e] 140 (0,0))):
  Rets Tryz.prog 104 #[vp b 0,vi n] w (fun v D=> ∃o,D= [(b,o)]∧v=vs (q8_ s a e n).1∧o= .cells #[vs s,vi (q8_ s a e n).2.1,vi (q8_ s a e n).2.2] 140 (0,0)):=by
 refine Rets.enterM Tryz.func104 rfl (rs:= [.tmp 4]) Tryz.results104 Tryz.ntmps104 ho ?_
 refine kf ?_
 first|with_reducible refine ks [] @zj_ ?_|refine kp @zj_ ?_
 unfold q8_
 by_cases he:e=0
 ·subst he
  rw[if_neg (fun h=>h rfl)]
  first|with_reducible refine ks [] @zj_ ?_|refine kp @zj_ ?_
  by_cases hn:n<0
  ·rw[if_pos hn]
   first|with_reducible refine ks [] @zj_ ?_|refine kp @zj_ ?_
   refine⟨_,_,_,(ke @zj_),rfl,trivial, ?_⟩
   exact⟨rfl,rfl⟩
  ·rw[if_neg hn]
   first|with_reducible refine ks [] @zj_ ?_|refine kp @zj_ ?_
   refine Cw.regionS [b] [0,1,2,5,6,7,10,3,4,8,9,11] [] (by kernel_rfl) (by kernel_rfl) (by kernel_rfl) ?_
   refine kya ?_
   refine kq @zj_ ?_
   try with_reducible refine Ow.nil ?_
   first|with_reducible refine ks [] @zj_ ?_|refine kp @zj_ ?_
   by_cases hl: (s.length:Int) - a<n
   ·rw[if_pos hl]
    first|with_reducible refine ks [] @zj_ ?_|refine kp @zj_ ?_
    refine⟨_,_,_,(ke @zj_),rfl,trivial, ?_⟩
    exact⟨rfl,rfl⟩
   ·rw[if_neg hl]
    obtain⟨m,rfl⟩: ∃m:Nat,n=(m:Int):=⟨n.toNat,by omega⟩
    first|with_reducible refine ks [] @zj_ ?_|refine kp @zj_ ?_
    refine Cw.regionS [b] [0,1,2,4,5,6,8,9,10,12,3,7,11,13,14,15] [] (by kernel_rfl) (by kernel_rfl) (by kernel_rfl) ?_
    refine kya ?_
    refine kq @zj_ ?_
    try with_reducible refine Ow.nil ?_
    first|with_reducible refine ks [] @zj_ ?_|refine kp @zj_ ?_
    refine⟨_,_,_,(ke @zj_),rfl,trivial, ?_⟩
    refine⟨?_, ?_⟩
    ·simp only[kG_,Int.toNat_natCast]
     rw[List.drop_take,Nat.add_sub_cancel_left]
    ·rw[Int.toNat_natCast,Int.natCast_add]
 ·rw[if_pos he]
  first|with_reducible refine ks [] @zj_ ?_|refine kp @zj_ ?_
  refine⟨_,_,_,(ke @zj_),rfl,trivial, ?_⟩
  exact⟨rfl,rfl⟩
theorem v6_ (b:Nat) (s:List UInt8) (a e:Int) (w:World) (ho:w.heap[b]? =some (.cells #[vs s,vi a,vi e] 140 (0,0))):
  Rets Tryz.prog 69 #[vp b 0] w (fun v D=>v=vi (if e≠0 then e else if a<s.length then 5 else 0)∧D= []):=by
 refine Rets.enterV Tryz.func69 rfl (rs:= [.tmp 2]) Tryz.results69 Tryz.ntmps69 ?_
 refine kf ?_
 first|with_reducible refine ks [] (And.intro @zj_ @ho) ?_|refine kp (And.intro @zj_ @ho) ?_
 by_cases he:e=0
 ·first|with_reducible refine ks [] @zj_ ?_|refine kp @zj_ ?_
  refine Cw.regionS [b] [0,1,2,4,5,6,3,7,8,9] [] (by kernel_rfl) (by kernel_rfl) (by kernel_rfl) ?_
  refine kya ?_
  refine kq (And.intro @zj_ @ho) ?_
  try with_reducible refine Ow.nil ?_
  first|with_reducible refine ks [] @zj_ ?_|refine kp @zj_ ?_
  refine cdC.splitp (fun hc=> ?_) (fun hc=> ?_)
  ·first|with_reducible refine ks [] @zj_ ?_|refine kp @zj_ ?_
   refine⟨_,(ke @zj_),trivial, ?_⟩
   simp[hc,he,kG_]
  ·first|with_reducible refine ks [] @zj_ ?_|refine kp @zj_ ?_
   refine⟨_,(ke @zj_),trivial, ?_⟩
   simp[hc,he,kG_]
 ·first|with_reducible refine ks [] (And.intro @zj_ @ho) ?_|refine kp (And.intro @zj_ @ho) ?_
  refine⟨_,(ke @zj_),trivial, ?_⟩
  simp[he,kG_]
structure KN where
 k:Nat
 n:Nat
theorem xU_ (b:Nat) (s:List UInt8) (a:Nat) (e most:Int) (w:World) (ha:a≤s.length) (hs:s.length<1099511627776) (ho:w.heap[b]? =some (.cells #[vs s,vi a,vi e] 140 (0,0))):
  Rets Tryz.prog 66 #[vp b 0,vi most] w (fun v D=> ∃o,D= [(b,o)]∧v=vi (zr_ s a e most).1∧o= .cells #[vs s,vi (zr_ s a e most).2.1,vi (zr_ s a e most).2.2] 140 (0,0)):=by
 refine Rets.enterM Tryz.func66 rfl (rs:= [.tmp 4]) Tryz.results66 Tryz.ntmps66 ho ?_
 refine kf ?_
 first|with_reducible refine ks [] @zj_ ?_|refine kp @zj_ ?_
 by_cases he:e=0
 ·subst he
  first|with_reducible refine ks [] @zj_ ?_|refine kp @zj_ ?_
  refine Cw.loopG (G:=KN) [14,15,18,19,20,21,22,23,24,25,26,27,28,29,30,31,32,4,33,34,35,36,37,38,39,40,41,42,43,44,8,45,46,47,48,49,50,5,51,52,6,53,54,55,56,57,58,59,60,61,62,63,64,65,66,67,68,69,70,71,72,73,74,75,76,77,78,79,80,81,82,83,84,16,17,7] (fun g=> [(5,vi g.n),(6,vi (128^g.k:Nat)),(7,vi g.k)]) (fun g=> [(b, .cells #[vs s,vi a,vi 0] 140 (0,0))]) (fun g=>g.k≤6∧(g.k<6→z2_ most (s.drop a) 0 0=z2_ most (s.drop (a+g.k)) g.k g.n∧a+g.k≤s.length∧g.n<128^g.k)∧(g.k=6→z2_ most (s.drop a) 0 0= .error 4)) (fun g=>6 - g.k) ⟨0,0⟩ rfl rfl ?_ ?_
  ·exact⟨by simp,fun _=>⟨rfl,by simpa using ha,by simp⟩,fun h=>by cases h⟩
  intro g j hg
  refine kv ?_
  obtain⟨k,n⟩:=g
  simp only at hg ⊢
  obtain⟨hk6,hg1,hg2⟩:=hg
  by_cases hk:k<6
  ·obtain⟨hgo,hak,hn⟩:=hg1 hk
   first|with_reducible refine ks [] @zj_ ?_|refine kp @zj_ ?_
   refine Cw.regionS [b] [0,1,2,4,6,7,8,3,5,9,10,11] [] (by kernel_rfl) (by kernel_rfl) (by kernel_rfl) ?_
   refine kya ?_
   refine kq @zj_ ?_
   try with_reducible refine Ow.nil ?_
   first|with_reducible refine ks [] @zj_ ?_|refine kp @zj_ ?_
   by_cases hend:a+k=s.length
   ·first|with_reducible refine ks [] @zj_ ?_|refine kp @zj_ ?_
    rw[jj_ (x:=3) rfl (by rw[hgo,hend,List.drop_length];rfl)]
    refine⟨_,_,_,(ke @zj_),rfl,trivial, ?_⟩
    exact⟨rfl,rfl⟩
   ·have hak':a+k<s.length:=by omega
    have hdrop:s.drop (a+k)=s.getD (a+k) 0::s.drop (a+k+1):=by
     rw[List.drop_eq_getElem_cons hak',List.getD_eq_getElem?_getD,List.getElem?_eq_getElem hak'];rfl
    rw[hdrop] at hgo
    first|with_reducible refine ks [] @zj_ ?_|refine kp @zj_ ?_
    refine Cw.regionS [b] [0,1,2,4,5,6,8,3,7,9,10,11,12] [] (by kernel_rfl) (by kernel_rfl) (by kernel_rfl) ?_
    refine kya ?_
    have hcast: ((a:Int)+ (k:Int))=((a+k:Nat):Int):=by omega
    refine kq (And.intro @zj_ @hcast) ?_
    try with_reducible refine Ow.nil ?_
    generalize s.getD (a+k) 0=c at*
    have hp:128^k≤34359738368:=Nat.pow_le_pow_right (by omega) (show k≤5 by omega)
    have hp0:0<128^k:=Nat.pow_pos (by omega)
    have hcl:=c.toNat_lt
    have hdm:c.toNat%128*128^k≤127*128^k:=Nat.mul_le_mul_right _ (by omega)
    have hcm: ((c.toNat:Int)%128)=((c.toNat%128:Nat):Int):=by omega
    have hmul:zM_ .mul (vi ((c.toNat%128:Nat):Int)) (vi ((128^k:Nat):Int))=some (vi ((c.toNat%128*128^k:Nat):Int)):=by
     rw[KR_ _ _ (by rw[←Int.natCast_mul];omega),←Int.natCast_mul]
    have hpow: (((128^k:Nat):Int)*128)=((128^ (k+1):Nat):Int):=by rw[Nat.pow_succ,Int.natCast_mul];rfl
    have hlt:n+c.toNat%128*128^k<128^ (k+1):=by rw[Nat.pow_succ];omega
    first|with_reducible refine ks [] (And.intro @zj_ (And.intro @hcm (And.intro @hmul (@hpow)))) ?_|refine kp (And.intro @zj_ (And.intro @hcm (And.intro @hmul (@hpow)))) ?_
    rw[show((n:Int)+ ((c.toNat%128*128^k:Nat):Int))=((n+c.toNat%128*128^k:Nat):Int) from(Int.natCast_add _ _).symm]
    by_cases hc128:128≤c.toNat
    ·first|with_reducible refine ks [] @zj_ ?_|refine kp @zj_ ?_
     refine Again.mk (KN.mk (k+1) (n+c.toNat%128*128^k)) (by show 6 - (k+1)<6 - k;omega) ⟨by show k+1≤6;omega,fun h=>⟨?_,by show a+ (k+1)≤s.length;omega,hlt⟩,fun h=> ?_⟩ rfl rfl
     ·show z2_ most (s.drop a) 0 0=z2_ most (s.drop (a+ (k+1))) (k+1) (n+c.toNat%128*128^k)
      have h':k+1<6:=h
      rw[hgo,z2_,if_pos hc128,if_neg (by omega)]
      rfl
     ·have h':k+1=6:=h
      rw[hgo,z2_,if_pos hc128,if_pos h']
    ·by_cases hz:c.toNat=0
     ·have e0: ((c.toNat:Int)==0)=true:=by simp[hz]
      first|with_reducible refine ks [] (And.intro @zj_ @e0) ?_|refine kp (And.intro @zj_ @e0) ?_
      by_cases hk0:0<k
      ·first|with_reducible refine ks [] @zj_ ?_|refine kp @zj_ ?_
       rw[jj_ (x:=2) rfl (by rw[hgo,z2_,if_neg hc128,if_pos ⟨hz,hk0⟩])]
       refine⟨_,_,_,(ke @zj_),rfl,trivial, ?_⟩
       exact⟨rfl,rfl⟩
      ·have hc0: ¬ (c.toNat=0∧0<k):=fun h=>hk0 h.2
       first|with_reducible refine ks [] @zj_ ?_|refine kp @zj_ ?_
       by_cases hm:n+c.toNat%128*128^k≤1099511627775
       ·have e1:decide ((1099511627775:Int)< ((n+c.toNat%128*128^k:Nat):Int))=false:=decide_eq_false (by omega)
        first|with_reducible refine ks [] (And.intro @zj_ @e1) ?_|refine kp (And.intro @zj_ @e1) ?_
        by_cases hmo: ((n+c.toNat%128*128^k:Nat):Int)≤most
        ·first|with_reducible refine ks [] @zj_ ?_|refine kp @zj_ ?_
         rw[QC_ rfl (by rw[hgo,z2_,if_neg hc128,if_neg hc0,if_pos ⟨hm,hmo⟩])]
         refine⟨_,_,_,(ke @zj_),rfl,trivial, ?_⟩
         exact⟨rfl,rfl⟩
        ·first|with_reducible refine ks [] @zj_ ?_|refine kp @zj_ ?_
         rw[jj_ (x:=4) rfl (by rw[hgo,z2_,if_neg hc128,if_neg hc0,if_neg (fun h=>hmo h.2)])]
         refine⟨_,_,_,(ke @zj_),rfl,trivial, ?_⟩
         exact⟨rfl,rfl⟩
       ·have e1:decide ((1099511627775:Int)< ((n+c.toNat%128*128^k:Nat):Int))=true:=decide_eq_true (by omega)
        first|with_reducible refine ks [] (And.intro @zj_ @e1) ?_|refine kp (And.intro @zj_ @e1) ?_
        rw[jj_ (x:=4) rfl (by rw[hgo,z2_,if_neg hc128,if_neg hc0,if_neg (fun h=>hm h.1)])]
        refine⟨_,_,_,(ke @zj_),rfl,trivial, ?_⟩
        exact⟨rfl,rfl⟩
     ·have e0: ((c.toNat:Int)==0)=false:=by simp;omega
      have hc0: ¬ (c.toNat=0∧0<k):=fun h=>hz h.1
      first|with_reducible refine ks [] (And.intro @zj_ @e0) ?_|refine kp (And.intro @zj_ @e0) ?_
      by_cases hm:n+c.toNat%128*128^k≤1099511627775
      ·have e1:decide ((1099511627775:Int)< ((n+c.toNat%128*128^k:Nat):Int))=false:=decide_eq_false (by omega)
       first|with_reducible refine ks [] (And.intro @zj_ @e1) ?_|refine kp (And.intro @zj_ @e1) ?_
       by_cases hmo: ((n+c.toNat%128*128^k:Nat):Int)≤most
       ·first|with_reducible refine ks [] @zj_ ?_|refine kp @zj_ ?_
        rw[QC_ rfl (by rw[hgo,z2_,if_neg hc128,if_neg hc0,if_pos ⟨hm,hmo⟩])]
        refine⟨_,_,_,(ke @zj_),rfl,trivial, ?_⟩
        exact⟨rfl,rfl⟩
       ·first|with_reducible refine ks [] @zj_ ?_|refine kp @zj_ ?_
        rw[jj_ (x:=4) rfl (by rw[hgo,z2_,if_neg hc128,if_neg hc0,if_neg (fun h=>hmo h.2)])]
        refine⟨_,_,_,(ke @zj_),rfl,trivial, ?_⟩
        exact⟨rfl,rfl⟩
      ·have e1:decide ((1099511627775:Int)< ((n+c.toNat%128*128^k:Nat):Int))=true:=decide_eq_true (by omega)
       first|with_reducible refine ks [] (And.intro @zj_ @e1) ?_|refine kp (And.intro @zj_ @e1) ?_
       rw[jj_ (x:=4) rfl (by rw[hgo,z2_,if_neg hc128,if_neg hc0,if_neg (fun h=>hm h.1)])]
       refine⟨_,_,_,(ke @zj_),rfl,trivial, ?_⟩
       exact⟨rfl,rfl⟩
  ·have hke:k=6:=by omega
   first|with_reducible refine ks [] @zj_ ?_|refine kp @zj_ ?_
   rw[jj_ (x:=4) rfl (hg2 hke)]
   refine⟨_,_,_,(ke @zj_),rfl,trivial, ?_⟩
   exact⟨rfl,rfl⟩
 ·first|with_reducible refine ks [] @zj_ ?_|refine kp @zj_ ?_
  unfold zr_
  refine⟨_,_,_,(ke @zj_),rfl,trivial, ?_⟩
  simp[he,kG_]
end Go.Proofs
end
section
open Go Go.Proofs Go.Sx
namespace Go.Proofs
set_option maxRecDepth 10000
set_option maxHeartbeats 4000000
set_option linter.unusedSimpArgs false
set_option linter.defProp false
theorem Zi_ (b:Nat) (s:List UInt8) (a:Nat) (e most:Int) (w:World) (ha:a≤s.length) (hs:s.length<1099511627776) (ho:w.heap[b]? =some (.cells #[vs s,vi a,vi e] 140 (0,0))):
  Rets Tryz.prog 67 #[vp b 0,vi most] w (fun v D=> ∃o,D= [(b,o)]∧v=vs (zS_ s a e most).1∧o= .cells #[vs s,vi (zS_ s a e most).2.1,vi (zS_ s a e most).2.2] 140 (0,0)):=by
 refine Rets.enterM Tryz.func67 rfl (rs:= [.tmp 4]) Tryz.results67 Tryz.ntmps67 ho ?_
 refine kf ?_
 first|with_reducible refine ks [] @zj_ ?_|refine kp @zj_ ?_
 by_cases he:e=0
 ·first|with_reducible refine ks [] @zj_ ?_|refine kp @zj_ ?_
  have hp:=qd_ (e:=e) (most:=most) ha
  unfold zS_
  refine Ow.callM rfl rfl Tryz.call66 (by simp[keys]) (fun w' hw'=>xU_ b s a e most w' ha hs (hw'.has _ _ List.mem_cons_self)) ?_
  generalize zr_ s a e most=p at*
  obtain⟨n,a1,e1⟩:=p
  simp only at hp ⊢
  refine ko @zj_ ?_
  first|with_reducible refine ks [] @zj_ ?_|refine kp @zj_ ?_
  refine Ow.callM rfl rfl Tryz.call104 (by simp[keys]) (fun w' hw'=>Z8_ b s a1 e1 n w' hp.2 hs (hw'.has _ _ List.mem_cons_self)) ?_
  generalize q8_ s a1 e1 n=q at*
  obtain⟨t,a2,e2⟩:=q
  simp only
  refine ko @zj_ ?_
  first|with_reducible refine ks [] @zj_ ?_|refine kp @zj_ ?_
  by_cases he2:e2=0
  ·first|with_reducible refine ks [] @zj_ ?_|refine kp @zj_ ?_
   refine⟨_,_,_,(ke @zj_),rfl,trivial, ?_⟩
   simp[he2,kG_]
  ·first|with_reducible refine ks [] @zj_ ?_|refine kp @zj_ ?_
   refine⟨_,_,_,(ke @zj_),rfl,trivial, ?_⟩
   simp[he2,kG_]
 ·first|with_reducible refine ks [] @zj_ ?_|refine kp @zj_ ?_
  have:zS_ s a e most=([],a,e):=by
   unfold zS_ zr_ q8_
   simp[he]
  rw[this]
  refine⟨_,_,_,(ke @zj_),rfl,trivial, ?_⟩
  exact⟨rfl,rfl⟩
def XH_ (t:List UInt8) (g:Nat):List UInt8:=t.take g++List.replicate (32 - g) 0
theorem af3_ (t:List UInt8) (g:Nat) (h:g≤t.length) (h2:t.length≤32): (XH_ t g).length=32:=by
 unfold XH_;rw[List.length_append,List.length_take,List.length_replicate];omega
theorem add_ (t:List UInt8) (g:Nat) (h:g<t.length) (h2:t.length≤32): (XH_ t g).set g (t.getD g 0)=XH_ t (g+1):=by
 unfold XH_
 have hl: (t.take g).length=g:=by rw[List.length_take];omega
 obtain⟨m,hm⟩: ∃m,32 - g=m+1:=⟨31 - g,by omega⟩
 rw[hm,List.replicate_succ,List.set_append_right _ _ (by omega),hl,Nat.sub_self,List.set_cons_zero,List.take_succ_eq_append_getElem h,List.getD_eq_getElem?_getD,List.getElem?_eq_getElem h,show 32 - (g+1)=m by omega,List.append_assoc]
 rfl
theorem adX_ (t:List UInt8) (h:t= []∨t.length=32):XH_ t t.length=(if t.length=32 then t else z32):=by
 unfold XH_
 rcases h with rfl|h
 ·rfl
 ·rw[if_pos h,h,List.take_of_length_le (by omega)];simp
theorem w2_ (b:Nat) (s:List UInt8) (a:Nat) (e:Int) (w:World) (ha:a≤s.length) (hs:s.length<1099511627776) (ho:w.heap[b]? =some (.cells #[vs s,vi a,vi e] 140 (0,0))):
  Rets Tryz.prog 68 #[vp b 0] w (fun v D=> ∃o,D= [(b,o)]∧v= .agg (a8 (idR s a e).1)∧o= .cells #[vs s,vi (idR s a e).2.1,vi (idR s a e).2.2] 140 (0,0)):=by
 have hbl:=(Array.getElem?_eq_some_iff.1 ho).1
 have hq:=abK_ (e:=e) ha
 unfold idR
 refine Rets.enterM Tryz.func68 rfl (rs:= [.cell 2 42]) Tryz.results68 Tryz.ntmps68 ho ?_
 refine kf ?_
 first|with_reducible refine ks [] @zj_ ?_|refine kp @zj_ ?_
 refine Ow.alloc rfl rfl Tryz.zr42 fun b2 hb2 hw2=> ?_
 obtain⟨h12,-⟩:=hb2
 refine ko @zj_ ?_
 first|with_reducible refine ks [] @zj_ ?_|refine kp @zj_ ?_
 refine Ow.callM rfl rfl Tryz.call104 (by simp[keys]) (fun w' hw'=>Z8_ b s a e 32 w' ha hs (hw'.has _ _ List.mem_cons_self)) ?_
 generalize q8_ s a e 32=q at*
 obtain⟨t,a2,e2⟩:=q
 simp only at hq ⊢
 have ht32:t.length≤32:=by rcases hq with rfl|h<;>simp_all
 refine ko @zj_ ?_
 first|with_reducible refine ks [] @zj_ ?_|refine kp @zj_ ?_
 refine Ow.alloc rfl rfl Tryz.zr42 fun b3 hb3 hw3=> ?_
 refine ko @zj_ ?_
 obtain⟨h13,h23,-⟩:=hb3
 rw[show a8 (List.replicate 32 0)=a8 (XH_ t 0) from rfl]
 first|with_reducible refine ks [] @zj_ ?_|refine kp @zj_ ?_
 refine Cw.loopG (G:=Nat) [8,9,10,11,14,15,16,17,18,12,13,5] (fun g=> [(5,vi g)]) (fun g=> [(b, .cells #[vs s,vi a2,vi e2] 140 (0,0)),(b2, .cells (a8 z32) 42 (0,0)),(b3, .cells (a8 (XH_ t g)) 42 (0,0))]) (fun g=>g≤t.length) (fun g=>t.length - g) 0 rfl rfl ?_ ?_
 ·omega
 intro g j hg
 refine kv ?_
 by_cases hlt:g<t.length
 ·have hil:=af3_ t g hg ht32
  first|with_reducible refine ks [] @zj_ ?_|refine kp @zj_ ?_
  refine Again.mk (g+1) (by omega) (by omega) ?_ rfl
  rw[add_ t g hlt ht32]
 ·obtain rfl:g=t.length:=by omega
  rw[adX_ t hq]
  have hil: (if t.length=32 then t else z32).length=32:=by
   split
   ·assumption
   ·simp[z32]
  have hz32:z32.length=32:=by simp[z32]
  generalize (if t.length=32 then t else z32)=id at*
  first|with_reducible refine ks [] @zj_ ?_|refine kp @zj_ ?_
  refine⟨_,_,_,(ke @zj_),rfl,⟨hw2,hw3,trivial⟩, ?_⟩
  exact⟨rfl,rfl⟩
end Go.Proofs
end
namespace Go.Sx
open Go
section
variable {P:Program} {w0:World} {f:Fr} {L:zb_} {N:Fr→zb_→Prop} {ops:Array Oper} {rest:List Oper} {md:Md}
 {d:Option Tmp} {ty:TypeId} {ps:String} {af:Array Edge} {g:Option (Nat×Bool)}
def JA_ (n:Int):Value:= .int .i32 n
theorem ahP_ (op:BinOp) (t:TypeId) (a b:Int):q0_ P op t (JA_ a) (JA_ b)=zM_ op (JA_ a) (JA_ b):=(rfl)
theorem WR_ (a b:Int):zM_ .lss (JA_ a) (JA_ b)=some (.bool (decide (a<b))):=by simp[zM_,JA_,x8_,cmpV]
theorem aak_ (a b:Int):zM_ .gtr (JA_ a) (JA_ b)=some (.bool (decide (b<a))):=by simp[zM_,JA_,x8_,cmpV]
theorem WG_ (a b:Int):zM_ .eql (JA_ a) (JA_ b)=some (.bool (a==b)):=by simp[zM_,JA_,x8_,cmpV]
theorem aj0_ (n:Int):Value.int .i32 n=JA_ n:=(rfl)
theorem Ow.callFn1 {x y:Operand} {ts:Array TypeId} {k:FuncId} {v a:Value} (hs:zf_ ops f ⟨d, .call ⟨.value x, #[y],ts⟩,ty,ps,af,g⟩=false) (hx:ev f x= .func (.func k) #[] #[]) (hy:ev f y=a)
  (hk: ∀a w,(callFunc k a).run P w= .ok (.enter k a) w) (hc: ∀w,Hp w0 L w→Rets P k #[a] w (fun v' D=>v'=v∧D= [])) (hn:Ow P w0 ops md.next rest (qg_ f d v) L N):
  Ow P w0 ops md (⟨d, .call ⟨.value x, #[y],ts⟩,ty,ps,af,g⟩::rest) f L N:=
 Ow.callV hs hx hk (fun w hw=>by simpa [hy] using hc w hw) hn
theorem Ow.rangeText {t:TypeId} {x:Operand} {l:List UInt8} {md':Md} (he:md.turn=some md') (hs:zf_ ops f ⟨d, .range t x,ty,ps,af,g⟩=false) (hu:P.underlying t=some .string) (hx:ev f x=vs l)
  (hn: ∀b,jz_ L b→w0.heap.size≤b→Ow P w0 ops md' rest (qg_ f d (vp b 0)) (L++ [(b, .stringIter ⟨l.toArray⟩ 0)]) N):
  Ow P w0 ops md (⟨d, .range t x,ty,ps,af,g⟩::rest) f L N:=by
 refine Ow.step he rfl hs fun w hw=> .inl ⟨vp w.heap.size 0,w.alloc (.stringIter ⟨l.toArray⟩ 0),_, ?_,hw.alloc _,hn _ (qf_ fun b hb=>hw.lt hb) hw.size⟩
 simp only[execOp,Instr.range,Sem.run_bind,run_underlying hu w,Result.andThen_ok,hx,vs]
 rfl
theorem Ow.nextText {x:Operand} {b:Nat} {l:List UInt8} {pos:Nat} {md':Md} (he:md.turn=some md') (hs:zf_ ops f ⟨d, .next x true,ty,ps,af,g⟩=false) (hx:ev f x=vp b 0) (hl:look L b=some (.stringIter ⟨l.toArray⟩ pos)) (hp:pos<l.length)
  (hn:Ow P w0 ops md' rest (qg_ f d (.tuple #[.bool true,vi pos,JA_ (Utf8.decode ⟨l.toArray⟩ pos).1])) (setB L b (.stringIter ⟨l.toArray⟩ (pos+ (Utf8.decode ⟨l.toArray⟩ pos).2))) N):
  Ow P w0 ops md (⟨d, .next x true,ty,ps,af,g⟩::rest) f L N:=by
 refine Ow.step he rfl hs fun w hw=> ?_
 have hb:=hw.has _ _ (zF_ hl)
 refine .inl ⟨_,{w with heap:=w.heap.setIfInBounds b (.stringIter ⟨l.toArray⟩ (pos+ (Utf8.decode ⟨l.toArray⟩ pos).2))},_, ?_,hw.set (zm_ hl) rfl rfl rfl rfl,hn⟩
 have hg: (getObj b).run P w= .ok (.stringIter ⟨l.toArray⟩ pos) w:=by
  simp only[getObj,Sem.run,hb]
 have hst: ∀o,(setObj b o).run P w= .ok () {w with heap:=w.heap.setIfInBounds b o}:=by
  intro o;simp only[setObj,Sem.run,hb]
 have hsz:pos< (ByteArray.mk l.toArray).size:=by rw[kP_];exact hp
 have: (Instr.next (vp b 0) true ty).run P w= .ok (.tuple #[.bool true,vi pos,JA_ (Utf8.decode ⟨l.toArray⟩ pos).1]) {w with heap:=w.heap.setIfInBounds b (.stringIter ⟨l.toArray⟩ (pos+ (Utf8.decode ⟨l.toArray⟩ pos).2))}:=by
  simp only[Instr.next,vp,Sem.run_bind,hg,Result.andThen_ok,hsz, ↓reduceIte,hst]
  rfl
 simp only[execOp,Sem.run_bind,hx]
 rw[this]
 rfl
theorem Ow.nextOver {x:Operand} {b:Nat} {l:List UInt8} {pos:Nat} {md':Md} (he:md.turn=some md') (hs:zf_ ops f ⟨d, .next x true,ty,ps,af,g⟩=false) (hx:ev f x=vp b 0) (hl:look L b=some (.stringIter ⟨l.toArray⟩ pos)) (hp: ¬pos<l.length)
  (hn:Ow P w0 ops md' rest (qg_ f d (.tuple #[.bool false])) L N):
  Ow P w0 ops md (⟨d, .next x true,ty,ps,af,g⟩::rest) f L N:=by
 refine Ow.step he rfl hs fun w hw=> ?_
 have hb:=hw.has _ _ (zF_ hl)
 refine .inl ⟨.tuple #[.bool false],w,_, ?_,hw,hn⟩
 have hg: (getObj b).run P w= .ok (.stringIter ⟨l.toArray⟩ pos) w:=by
  simp only[getObj,Sem.run,hb]
 have hsz: ¬pos< (ByteArray.mk l.toArray).size:=by rw[kP_];exact hp
 have: (Instr.next (vp b 0) true ty).run P w= .ok (.tuple #[.bool false]) w:=by
  simp only[Instr.next,vp,Sem.run_bind,hg,Result.andThen_ok,hsz, ↓reduceIte]
  rfl
 simp only[execOp,Sem.run_bind,hx]
 rw[this]
 rfl
end
theorem Wz_ (l:List UInt8) (i:Nat) (h:i<l.length):0< (Utf8.decode ⟨l.toArray⟩ i).2∧
  ((l.getD i 0).toNat<128→Utf8.decode ⟨l.toArray⟩ i=((l.getD i 0).toNat,1))∧(128≤ (l.getD i 0).toNat→128≤ (Utf8.decode ⟨l.toArray⟩ i).1):=by
 have hb: ((ByteArray.mk l.toArray).get! (i+0))=l.getD i 0:=by
  simp[ByteArray.get!,h]
 unfold Utf8.decode
 simp only[hb]
 generalize (l.getD i 0).toNat=b0
 refine⟨?_,fun h1=> ?_,fun h1=> ?_⟩
 ·(repeat' split)<;>simp
 ·rw[if_pos h1]
 ·rw[if_neg (by omega)]
  (repeat' split)<;>first
   | (simp only[Utf8.runeError];omega)
   | (rename_i hc;simp only[Bool.and_eq_true,decide_eq_true_eq,ge_iff_le] at hc;omega)
   | (rename_i hc;simp only[ge_iff_le] at hc;omega)
end Go.Sx
namespace Go.Sx
open Go
abbrev jN_:=List (List UInt8×List UInt8)
def fnd (k:List UInt8):jN_→Nat→Option (Nat×List UInt8)
 | [],_=>none
 |p::r,i=>if k==p.1 then some (i,p.2) else fnd k r (i+1)
def updV (k v:List UInt8):jN_→jN_
 | []=> [(k,v)]
 |p::r=>if k==p.1 then(p.1,v)::r else p::updV k v r
def delV (k:List UInt8):jN_→jN_
 | []=> []
 |p::r=>if k==p.1 then r else p::delV k r
def vH_ (p:List UInt8×List UInt8):Value×Value:=(vs p.1, .agg (a8 p.2))
def MapR (o:Obj) (m:jN_):Prop:= ∃es clock,o= .map es clock∧es.toList.map (fun e=>(e.key,e.val))=m.map vH_∧(es.toList.map (·.born)++ [clock]).Pairwise (· < ·)
theorem Wa_ {es:List MapEntry} {c:Nat} {e:MapEntry} (h: (es.map (·.born)++ [c]).Pairwise (· < ·)) (he:e.born=c): ((es++ [e]).map (·.born)++ [c+1]).Pairwise (· < ·):=by
 rw[List.map_append,List.map_cons,List.map_nil,he]
 refine List.pairwise_append.2 ⟨h,List.pairwise_singleton _ _, ?_⟩
 intro a ha b hb
 rw[List.mem_singleton] at hb
 subst hb
 rcases List.mem_append.1 ha with hm|hm
 ·have:=(List.pairwise_append.1 h).2.2 a hm c (List.mem_singleton.2 rfl)
  omega
 ·rw[List.mem_singleton] at hm
  omega
theorem ZJ_ {es:List MapEntry} {j:Nat} {g:MapEntry→MapEntry} (hg: ∀e,(g e).born=e.born): (es.modify j g).map (·.born)=es.map (·.born):=by
 apply List.ext_getElem?
 intro i
 rw[List.getElem?_map,List.getElem?_map,List.getElem?_modify]
 cases es[i]? with
 |none=>rfl
 |some e=>
  by_cases h:j=i
  ·simp[h,hg]
  ·simp[h]
theorem VF_ (a b:List UInt8): ((ByteArray.mk a.toArray)==(ByteArray.mk b.toArray))=(a==b):=by
 show(a.toArray==b.toArray)=(a==b)
 simp
theorem JW_ (k:List UInt8): ∀ (es:List MapEntry) (m:jN_) (i:Nat),es.map (fun e=>(e.key,e.val))=m.map vH_→
  Instr.findNow .string (vs k) es i=some ((fnd k m i).map fun p=>(p.1, .agg (a8 p.2)))
 | [],[],i,_=>rfl
 | [],_::_,_,h=>by cases h
 |_::_,[],_,h=>by cases h
 |e::es,p::m,i,h=>by
  simp only[List.map_cons,List.cons.injEq,vH_,Prod.mk.injEq] at h
  obtain⟨⟨h1,h2⟩,h3⟩:=h
  unfold Instr.findNow
  have hs:Instr.sameNow .string (vs k) e.key=some (k==p.1):=by
   rw[h1]
   simp only[vs,Instr.sameNow,VF_]
  rw[hs]
  unfold fnd
  cases hk: (k==p.1)
  ·simp only[Bool.false_eq_true, ↓reduceIte]
   exact JW_ k es m (i+1) h3
  ·simp[h2]
theorem Kf_ (k:List UInt8): ∀ (m:jN_) (i j:Nat) (v:List UInt8),fnd k m i=some (j,v)→i≤j∧ ∃a,m[j - i]? =some (k,a)∧a=v
 | [],_,_,_,h=>by cases h
 |p::r,i,j,v,h=>by
  unfold fnd at h
  split at h
  ·rename_i hk
   cases h
   refine⟨Nat.le_refl _,p.2, ?_,rfl⟩
   rw[Nat.sub_self,List.getElem?_cons_zero,eq_of_beq hk]
  ·obtain⟨h1,a,h2,h3⟩:=Kf_ k r (i+1) j v h
   refine⟨by omega,a, ?_,h3⟩
   rw[show j - i=(j - (i+1))+1 by omega,List.getElem?_cons_succ];exact h2
theorem Vb_ (k v:List UInt8): ∀ (es:List MapEntry) (m:jN_) (i j:Nat) (a:List UInt8),es.map (fun e=>(e.key,e.val))=m.map vH_→fnd k m i=some (j,a)→
  (es.modify (j - i) fun e=>{e with key:=vs k,val:= .agg (a8 v)}).map (fun e=>(e.key,e.val))=(updV k v m).map vH_
 | [],[],_,_,_,_,h=>by cases h
 | [],_::_,_,_,_,h,_=>by cases h
 |_::_,[],_,_,_,h,_=>by cases h
 |e::es,p::m,i,j,a,h,hf=>by
  simp only[List.map_cons,List.cons.injEq,vH_,Prod.mk.injEq] at h
  obtain⟨⟨h1,h2⟩,h3⟩:=h
  unfold fnd at hf
  unfold updV
  split at hf
  ·rename_i hk
   cases hf
   rw[if_pos hk,Nat.sub_self]
   simp only[List.modify_zero_cons,List.map_cons,vH_,eq_of_beq hk]
   rw[h3]
  ·rename_i hk
   have hle:=(Kf_ k m (i+1) j a hf).1
   rw[if_neg hk,show j - i=(j - (i+1))+1 by omega]
   simp only[List.modify_succ_cons,List.map_cons,vH_]
   rw[Vb_ k v es m (i+1) j a h3 hf,h1,h2]
theorem VL_ (k v:List UInt8): ∀ (m:jN_) (i:Nat),fnd k m i=none→updV k v m=m++ [(k,v)]
 | [],_,_=>rfl
 |p::r,i,h=>by
  unfold fnd at h
  split at h
  ·cases h
  ·rename_i hk
   unfold updV
   rw[if_neg hk,VL_ k v r (i+1) h];rfl
section
variable {P:Program} {w0:World} {f:Fr} {L:zb_} {N:Fr→zb_→Prop} {ops:Array Oper} {rest:List Oper} {md:Md}
 {d:Option Tmp} {ty:TypeId} {ps:String} {af:Array Edge} {g:Option (Nat×Bool)}
theorem aaX_ {w:World} {t:TypeId} (hu:P.underlying t=some .string) (k:List UInt8) (es:List MapEntry) (m:jN_) (h:es.map (fun e=>(e.key,e.val))=m.map vH_):
  (Instr.findKey t (vs k) es).run P w= .ok ((fnd k m 0).map fun p=>(p.1, .agg (a8 p.2))) w:=by
 simp only[Instr.findKey,Sem.run_bind,run_underlying hu w,Result.andThen_ok,JW_ k es m 0 h]
 rfl
theorem Zd_ {w:World} {t:TypeId} (hu:P.underlying t=some .string) (e:Bool) (k:List UInt8): (Instr.checkKey e 10000 t (vs k)).run P w= .ok () w:=by
 unfold Instr.checkKey
 simp only[Sem.run_bind,run_underlying hu w,Result.andThen_ok,vs]
 rfl
theorem jq_ {w:World} {b:Nat} {es:Array MapEntry} {c:Nat} (hb:w.heap[b]? =some (.map es c)): (getObj b).run P w= .ok (.map es c) w:=by
 simp only[getObj,Sem.run,hb]
theorem vl_ {w:World} {b:Nat} {es:Array MapEntry} {c:Nat} (hb:w.heap[b]? =some (.map es c)) (o:Obj): (setObj b o).run P w= .ok () {w with heap:=w.heap.setIfInBounds b o}:=by
 simp only[setObj,Sem.run,hb]
def vm (b:Nat):Value:= .map (some b)
theorem Ow.makeMap {t:TypeId} {md':Md} (he:md.turn=some md') (hs:zf_ ops f ⟨d, .makeMap t none,ty,ps,af,g⟩=false)
  (hn: ∀b o,jz_ L b→w0.heap.size≤b→MapR o []→Ow P w0 ops md' rest (qg_ f d (vm b)) (L++ [(b,o)]) N):
  Ow P w0 ops md (⟨d, .makeMap t none,ty,ps,af,g⟩::rest) f L N:=by
 refine Ow.step he rfl hs fun w hw=> .inl ⟨vm w.heap.size,w.alloc (.map #[] 0),_, ?_,hw.alloc _,hn _ _ (qf_ fun b hb=>hw.lt hb) hw.size ⟨#[],0,rfl,rfl,List.pairwise_singleton _ _⟩⟩
 simp only[execOp,Instr.makeMap,Sem.run_bind,Option.map_none]
 rfl
theorem ajn_ {k:List UInt8} {m:jN_} {es:List MapEntry} {j:Nat} {a:List UInt8} (h:es.map (fun e=>(e.key,e.val))=m.map vH_) (hf:fnd k m 0=some (j,a)): ∃e,es[j]? =some e∧e.key=vs k:=by
 obtain⟨-,a',h1,rfl⟩:=Kf_ k m 0 j a hf
 rw[Nat.sub_zero] at h1
 have:=congrArg (·[j]?) h
 simp only[List.getElem?_map,h1,Option.map_some] at this
 cases he:es[j]? with
 |none=>rw[he] at this;cases this
 |some e=>
  rw[he] at this
  simp only[Option.map_some,Option.some.injEq,vH_,Prod.mk.injEq] at this
  exact⟨e,rfl,this.1⟩
theorem Ow.mapUpdate {t kt vt:TypeId} {x y z:Operand} {b:Nat} {o:Obj} {m:jN_} {k v:List UInt8} {md':Md} (he:md.turn=some md') (hs:zf_ ops f ⟨d, .mapUpdate t x y z,ty,ps,af,g⟩=false) (hu:P.underlying t=some (.map kt vt)) (huk:P.underlying kt=some .string)
  (hx:ev f x=vm b) (hy:ev f y=vs k) (hz:ev f z= .agg (a8 v)) (hl:look L b=some o) (hm:MapR o m)
  (hn: ∀o',MapR o' (updV k v m)→Ow P w0 ops md' rest (qg_ f d undef) (setB L b o') N):
  Ow P w0 ops md (⟨d, .mapUpdate t x y z,ty,ps,af,g⟩::rest) f L N:=by
 obtain⟨es,c,rfl,hes,hbo⟩:=hm
 refine Ow.step he rfl hs fun w hw=> ?_
 have hb:=hw.has _ _ (zF_ hl)
 have hfk:=aaX_ (w:=w) huk k es.toList m hes
 cases hf:fnd k m 0 with
 |none=>
  rw[hf] at hfk
  refine .inr (.inl ⟨{w with heap:=w.heap.setIfInBounds b (.map (es.push {key:=vs k,val:= .agg (a8 v),born:=c}) (c+1))},_, ?_,hw.set (zm_ hl) rfl rfl rfl rfl,hn _ ⟨_,_,rfl, ?_,by rw[Array.toList_push];exact Wa_ hbo rfl⟩⟩)
  ·have: (Instr.mapUpdate t (vm b) (vs k) (.agg (a8 v))).run P w= .ok () {w with heap:=w.heap.setIfInBounds b (.map (es.push {key:=vs k,val:= .agg (a8 v),born:=c}) (c+1))}:=by
    simp only[Instr.mapUpdate,vm,Sem.run_bind,run_underlying hu w,Result.andThen_ok,jq_ hb,Zd_ huk,hfk,Option.map_none,vl_ hb]
   simp only[execOp,Sem.run_bind,hx,hy,hz]
   rw[this];rfl
  ·rw[VL_ k v m 0 hf,Array.toList_push,List.map_append,hes,List.map_append];rfl
 |some p=>
  obtain⟨j,a⟩:=p
  rw[hf] at hfk
  obtain⟨e,hej,hek⟩:=ajn_ hes hf
  have hej':es[j]? =some e:=by simpa using hej
  have hkt: (Instr.keyThatStays (((es[j]?).map (·.key)).getD (vs k)) (vs k)).run P w= .ok (vs k) w:=by
   rw[hej',Option.map_some,Option.getD_some,hek]
   unfold Instr.keyThatStays
   have:Instr.sameBits 10000 (vs k) (vs k)=true:=by simp[vs,Instr.sameBits,VF_]
   rw[if_pos this];rfl
  refine .inr (.inl ⟨{w with heap:=w.heap.setIfInBounds b (.map (es.modify j fun e=>{e with key:=vs k,val:= .agg (a8 v)}) c)},_, ?_,hw.set (zm_ hl) rfl rfl rfl rfl,hn _ ⟨_,_,rfl, ?_,by rw[Array.toList_modify,ZJ_ (g:=fun e=>{e with key:=vs k,val:= .agg (a8 v)}) fun _=>rfl];exact hbo⟩⟩)
  ·have: (Instr.mapUpdate t (vm b) (vs k) (.agg (a8 v))).run P w= .ok () {w with heap:=w.heap.setIfInBounds b (.map (es.modify j fun e=>{e with key:=vs k,val:= .agg (a8 v)}) c)}:=by
    simp only[Instr.mapUpdate,vm,Sem.run_bind,run_underlying hu w,Result.andThen_ok,jq_ hb,Zd_ huk,hfk,Option.map_some,hkt,vl_ hb]
   simp only[execOp,Sem.run_bind,hx,hy,hz]
   rw[this];rfl
  ·rw[Array.toList_modify]
   have:=Vb_ k v es.toList m 0 j a hes hf
   rw[Nat.sub_zero] at this
   exact this
end
end Go.Sx
namespace Go.Sx
open Go
section
variable {P:Program} {w0:World} {f:Fr} {L:zb_} {N:Fr→zb_→Prop} {ops:Array Oper} {rest:List Oper} {md:Md}
 {d:Option Tmp} {ty:TypeId} {ps:String} {af:Array Edge} {g:Option (Nat×Bool)}
end
end Go.Sx
namespace Go.Sx
open Go
theorem New.mono {n m:Nat} (h:n≤m): ∀ {L:zb_},New m L→New n L
 | [],_=>trivial
 | (_,_)::_,hL=>⟨Nat.le_trans h hL.1,New.mono h hL.2⟩
theorem New.app {n:Nat} {M:zb_}: ∀ {L:zb_},New n L→New n M→New n (L++M)
 | [],_,hM=>hM
 | (_,_)::_,hL,hM=>⟨hL.1,New.app hL.2 hM⟩
section
variable {P:Program} {w0:World} {f:Fr} {L:zb_} {N:Fr→zb_→Prop} {ops:Array Oper} {rest:List Oper} {md:Md}
 {d:Option Tmp} {ty:TypeId} {ps:String} {af:Array Edge} {g:Option (Nat×Bool)}
theorem Ow.callN {l:List Operand} {ts:Array TypeId} {k:FuncId} {S:Nat→Value→zb_→Prop} {md':Md} (he:md.turn=some md')
  (hs:zf_ ops f ⟨d, .call ⟨.value (.func k),l.toArray,ts⟩,ty,ps,af,g⟩=false)
  (hk: ∀a w,(callFunc k a).run P w= .ok (.enter k a) w)
  (hc: ∀w,Hp w0 L w→Rets P k (l.map (ev f)).toArray w (fun v D=>S w.heap.size v D))
  (hnew: ∀B v D,S B v D→New B D)
  (hn: ∀B v D,jz_ L B→w0.heap.size≤B→S B v D→Ow P w0 ops md' rest (qg_ f d v) (L++D) N):
  Ow P w0 ops md (⟨d, .call ⟨.value (.func k),l.toArray,ts⟩,ty,ps,af,g⟩::rest) f L N:=by
 refine Ow.callF he hs hk (S:=S) hc ?_
 intro B v D ha hB hS
 exact⟨_,Mrg.fresh (hnew B v D hS).le,hn B v D ha hB hS⟩
theorem Cw.forgetN {c:Code} {K:xf_} (M:zb_) (hnew:New w0.heap.size L) (hM: ∀p,p∈M→p∈L) (hn: (keys M).Nodup) (h:Cw P w0 c f M K):Cw P w0 c f L K:=
 Cw.forget M hM hn (fun p hp _=>hnew.le _ (List.mem_map.2 ⟨p,hp,rfl⟩)) h
end
end Go.Sx
section
namespace Go.Sx
open Go
set_option linter.unusedSimpArgs false
section
variable {P:Program} {w0:World} {L:zb_}
theorem xM_ {w:World} {ts tx ty e:TypeId} {m:Bool×Nat} {z x:Value} {b k:Nat} {new:List Value} (hw:Hp w0 L w)
  (hu:P.underlying ts=some (.slice e)) (hm:z3_ P e=some m) (hi:xr_ P e=true) (hz:zG_ P e=some z) (hzs:z.cells.size=m.2) {d:TypeDesc} (hux:P.underlying tx=some d) (hnx: ∀k,d≠ .int k)
  (hXa: ∀w,Hp w0 L w→AppX P w m.2 x k new) (hbig:2* (0+k)+768≤2^38):
  (k=0∧(Builtin.append_ #[ts,tx] ty #[vsl b 0 0 0,x]).run P w= .ok (vsl b 0 0 0) w)∨
  (0<k∧ ∃v' w' L',(Builtin.append_ #[ts,tx] ty #[vsl b 0 0 0,x]).run P w= .ok v' w'∧Hp w0 L' w'∧Buf L' e m.2 v' (0+k) ([]++new)∧Grew w0 (.slice none 0 0) L L'∧ ∃c,slB v'=some c∧jz_ L c):=by
 obtain⟨i,hi,hb0,hbig⟩:=k9_ hi hbig
 have hti: ∀w,(typeInfo e).run P w= .ok i w:=by
  intro w
  simp only[typeInfo,program,Sem.run_bind]
  show Result.andThen (Result.ok P w) _=_
  simp only[Result.andThen_ok,hi]
  rfl
 have hmd: (match d with| .int _=>true|_=>false)=false:=by
  cases d<;>first|rfl|exact absurd rfl (hnx _)
 have e1: ∀ {α β:Type} (a:α) (f:α→World→Result β),(Sem.run P (pure a) w).andThen f=f a w:=fun _ _=>rfl
 have hX:=hXa w hw
 have hxl:=hX.len
 have hxc:=hX.cells
 have hzv:=jw_ (P:=P) hz
 have room: ∀ (b:Nat) (w:World),(askRoom b).run P w= .ok () w:=by
  intro b w
  unfold askRoom
  split<;>rfl
 have zc: ∀j,(Builtin.zeroCells z.cells j).toList.length=j*m.2:=by
  intro j;simp[Builtin.zeroCells,hzs]
 have hbg: ∀c,c<0+k→ ¬ (Builtin.nextslicecap (0+k) c*i.bytes>2^48):=by
  intro c hc
  have:=kK_ hc
  have h2:=Nat.mul_le_mul_right i.bytes this
  omega
 by_cases hk:k=0
 ·subst hk
  have hnew:new= []:=List.eq_nil_of_length_eq_zero (by have:=hX.size;omega)
  subst hnew
  refine .inl ⟨rfl, ?_⟩
  simp only[Builtin.append_,vsl,List.getElem?_toArray,List.getElem?_cons_zero,List.getElem?_cons_succ,Sem.run_bind,run_underlying hu w,Result.andThen_ok,zz_ hm w,run_underlying hux w,hmd,e1,Bool.false_eq_true, ↓reduceIte,hxl,Bool.not_false,Nat.add_zero,Nat.le_refl,hxc]
  rfl
 ·have hpos: ¬0+k≤0:=by omega
  have hbg':=hbg 0 (by omega)
  simp only[Builtin.append_,List.getElem?_toArray,List.getElem?_cons_zero,List.getElem?_cons_succ,Sem.run_bind,run_underlying hu w,Result.andThen_ok,zz_ hm w,run_underlying hux w,hmd,e1,Bool.false_eq_true, ↓reduceIte,hxl,Bool.not_false,hpos,vsl,hti,hb0,or_false,and_false,hbg']
  have hch: (choose (Question.appendCap (0+k) 0 e)).run P w= .ok ((0+k)+w.tape w.drawn (.appendCap (0+k) 0 e)% (2^63 - (0+k))) w.drew:=rfl
  rw[hch]
  generalize hcc: (0+k)+w.tape w.drawn (.appendCap (0+k) 0 e)% (2^63 - (0+k))=c
  have hw1:=hw.drew
  have hX1:=hXa _ hw1
  have hold: (Builtin.firstCells m.2 0 (Value.slice (some ⟨b,0,none⟩) 0 0)).run P w.drew= .ok #[] w.drew:=by
   simp only[Builtin.firstCells,Nat.zero_mul];rfl
  simp only[Result.andThen_ok,room,hold,hX1.cells,hzv]
  refine .inr ⟨by omega,_,_,L++ [(w.drew.heap.size, .cells ([]++new++ (Builtin.zeroCells z.cells (c - (0+k))).toList).toArray e (0,0))],rfl, ?_, .at_ (b:=w.drew.heap.size) (rest:=(Builtin.zeroCells z.cells (c - (0+k))).toList) ?_ ?_ ?_ (by omega) (by omega), ?_,⟨_,rfl,qf_ fun b hb=>hw1.lt hb⟩⟩
  ·have ea: ([]++new++ (Builtin.zeroCells z.cells (c - (0+k))).toList).toArray= #[]++new.toArray++Builtin.zeroCells z.cells (c - (0+k)):=by apply Array.ext';simp
   rw[ea]
   exact hw1.alloc _
  ·rw[zV_ (fun hm=>Nat.lt_irrefl _ (hw1.lt hm))]
   simp[look]
  ·rw[List.nil_append,hX.size,Nat.zero_add]
  ·exact zc _
  ·refine⟨fun c hc=>by rw[zd_];exact List.mem_append_left _ hc,fun c hc=> ?_,fun c o hne ho=>z9_ ho⟩
   rw[zd_] at hc
   rcases List.mem_append.1 hc with hc|hc
   ·exact .inl hc
   ·right
    simp only[keys,List.map_cons,List.map_nil,List.mem_singleton] at hc
    subst hc
    exact⟨qf_ fun b hb=>hw1.lt hb,hw1.size⟩
end
section
variable {P:Program} {w0:World} {f:Fr} {L:zb_} {N:Fr→zb_→Prop} {ops:Array Oper} {rest:List Oper} {md:Md}
 {d:Option Tmp} {ty:TypeId} {ps:String} {af:Array Edge} {g:Option (Nat×Bool)}
theorem Ow.appendEm {ts tx e:TypeId} {m:Bool×Nat} {z:Value} {s x:Operand} {b k:Nat} {new:List Value} {dx:TypeDesc} {md':Md} (hsv:ev f s=vsl b 0 0 0) (he:md.turn=some md')
  (hs:zf_ ops f ⟨d, .call ⟨.builtin .append, #[s,x], #[ts,tx]⟩,ty,ps,af,g⟩=false)
  (hu:P.underlying ts=some (.slice e)) (hm:z3_ P e=some m) (hi:xr_ P e=true) (hz:zG_ P e=some z) (hzs:z.cells.size=m.2) (hux:P.underlying tx=some dx) (hnx: ∀k,dx≠ .int k)
  (hX: ∀w,Hp w0 L w→AppX P w m.2 (ev f x) k new) (hbig:2* (0+k)+768≤2^38)
  (hn0:k=0→Ow P w0 ops md' rest (qg_ f d (vsl b 0 0 0)) L N)
  (hn: ∀v' L',0<k→Buf L' e m.2 v' (0+k) ([]++new)→Grew w0 (.slice none 0 0) L L'→(∃c,slB v'=some c∧jz_ L c)→Ow P w0 ops md' rest (qg_ f d v') L' N):
  Ow P w0 ops md (⟨d, .call ⟨.builtin .append, #[s,x], #[ts,tx]⟩,ty,ps,af,g⟩::rest) f L N:=by
 refine Ow.step he rfl hs fun w hw=> ?_
 rcases xM_ (ty:=ty) (b:=b) hw hu hm hi hz hzs hux hnx hX hbig with⟨hk,hr⟩ | ⟨hk,v',w',L',hr,hp,hb,hg,hsl⟩
 ·refine .inl ⟨_,w,L, ?_,hw,hn0 hk⟩
  simp only[execOp,resolve,Sem.run_bind,Sem.run_pure,Result.andThen_ok,invoke,builtin,List.map_toArray,List.map_cons,List.map_nil,hsv]
  rw[hr]
  rfl
 ·refine .inl ⟨v',w',L', ?_,hp,hn v' L' hk hb hg hsl⟩
  simp only[execOp,resolve,Sem.run_bind,Sem.run_pure,Result.andThen_ok,invoke,builtin,List.map_toArray,List.map_cons,List.map_nil,hsv]
  rw[hr]
  rfl
end
end Go.Sx
end
namespace Go.Sx
open Go
section
variable {P:Program} {w0:World} {f:Fr} {L:zb_} {N:Fr→zb_→Prop} {K:xf_} {l:List Oper} {listed:List Bool} {n:Nat} {R ts:List Nat} {a d:Nat} {z:Obj}
theorem Md.next_sofnil (R ts:List Nat): (Md.sof R [] ts).next= .sof R [] ts:=(rfl)
theorem Kv_ {Q:Exit→Act→World→Prop} {o:Oper} {x:Act} {d:Option Tmp} {v:Value} {K:Act→World→Prop} (hd: ∀t,d=some t→o.dst≠some t)
  (hQ: ∀c a w,Q (.panic c) a w→Q (.panic c) (a.put d v) w) (r:Result Next) (h:o.upon P x (fun a' w'=>K (a'.put d v) w') Q r):
  o.upon P (x.put d v) K Q r:=by
 have comm: ∀u,(x.put o.dst u).put d v=(x.put d v).put o.dst u:=fun u=>(Act.put_comm x v u hd).symm
 match r,h with
 | .ok (.value u) _,h=>show K _ _;rw[←comm];exact h
 | .ok .skip _,h=>show K _ _;rw[←comm];exact h
 | .ok (.defer e) w',h=>
  have h':K ((({x with defers:=e::x.defers}:Act).put o.dst undef).put d v) w':=h
  rw[←Act.put_comm _ v undef hd,←Act.put_defers] at h'
  exact h'
 | .ok (.enter f args) _,h=>
  refine Calls.mono h fun e w'' he=> ?_
  match e,he with
  | .returned u,he=>show K _ _;rw[←comm];exact he
  | .panicked c,he=>exact hQ _ _ _ he
  | .outgrown,he=>exact he
 | .ok (.row row args) _,h=>exact Rows.mono h fun u w'' he=>by rw[←comm];exact he
 | .halt (.panic u) _,h=>exact hQ _ _ _ h
theorem Kx_ {ops:Array Oper} {Q:Exit→Act→World→Prop} {j:Nat} {oj:Oper} {d:Option Tmp} {v:Value} (hj:ops[j]? =some oj) (h1: ∀t,d=some t→t∉oj.looksAt ops) (h2: ∀t,d=some t→oj.dst≠some t) (hsj: ∀cs b,oj.op≠ .select cs b)
  (hQ: ∀c a w,Q (.panic c) a w→Q (.panic c) (a.put d v) w) {K:Act→World→Prop} {x:Act} {w:World}
  (h:wpOp P ops Q j (fun a' w'=>K (a'.put d v) w') x w):wpOp P ops Q j K (x.put d v) w:=by
 unfold wpOp at h ⊢
 simp only[hj] at h ⊢
 rw[wanted_put oj x d v h1]
 cases hw:Region.wanted oj (yielded ops x.tmps) with
 |true=>
  rw[hw] at h
  simp only[if_true] at h ⊢
  rcases h with h| ⟨hasks,hl⟩
  ·left
   unfold Oper.wp at h ⊢
   rw[execOp_put oj hsj x d v h1]
   exact Kv_ h2 hQ _ h
  ·right
   exact⟨by unfold Oper.asks at*;rwa [execOp_put oj hsj x d v h1],hl⟩
 |false=>
  rw[hw] at h
  simp only[Bool.false_eq_true,if_false] at h ⊢
  rw[Act.put_comm x v undef h2]
  exact h
structure Drift (P:Program) (l:List Oper) (ts:List Nat) (a d:Nat) (z:Obj):Prop where
 here: ∃oa t zv,l.toArray[a]? =some oa∧oa.op= .alloc t∧oa.dst=some d∧oa.guard=none∧zG_ P t=some zv∧z= .cells zv.cells t
 ts:a∉ts
 sel:Region.noSelect l.toArray=true
def OwD (P:Program) (w0:World) (l:List Oper) (R ts:List Nat) (a d:Nat) (z:Obj) (n:Nat) (listed:List Bool) (f:Fr) (L:zb_) (N:Fr→zb_→Prop):Prop:=
 (∀w,Hp w0 L w→xb_ P l.toArray (ji_ w0 N) ts (SR w0 R L) (n+1) listed.toArray (act f) w)∧
 (∀b w,w0.heap.size≤b→b∉keys L→Hp w0 (L++ [(b,z)]) w→xb_ P l.toArray (ji_ w0 N) ts (SR w0 R L) n (listed.set a true).toArray (act (XC_ f d (vp b 0))) w)
theorem SR.ofE {w:World} {b:Nat} (hb:w0.heap.size≤b) (h:Hp w0 (L++ [(b,z)]) w):SR w0 R L w:=by
 intro r _ o ho
 unfold zk_ at ho
 split at ho
 ·rename_i o' hl
  cases ho
  exact h.has _ _ (List.mem_append_left _ (zF_ hl))
 ·rename_i hl
  have hlt:=(Array.getElem?_eq_some_iff.1 ho).1
  rw[h.old r hlt ?_];exact ho
  intro hm
  simp only[keys,List.map_append,List.map_cons,List.map_nil,List.mem_append,List.mem_singleton] at hm
  rcases hm with hm|hm
  ·exact wC_ hl hm
  ·omega
theorem aeC_ {c:List PanicEntry} {x x':Act} {w:World} (h:ji_ w0 N (.panic c) x w):ji_ w0 N (.panic c) x' w:=zU_ h
theorem Hp.perm {w:World} {M:zb_} (h:Hp w0 L w) (hp:M.Perm L):Hp w0 M w:=
 h.same (fun _=>hp.mem_iff) ((List.Perm.nodup_iff (hp.map Prod.fst)).2 h.nodup)
def chkD (P:Program) (l:List Oper) (ts:List Nat) (a:Nat):List Nat→List Bool→Option (List Bool)
 | [],listed=>some listed
 |k::is,listed=>
  match kb_ l k,kb_ l a with
  |some o,some oa=>if k !=a&& !ts.contains k&& (ts.all fun t=> !listed.toArray.getD t true&& !(listed.set a true).toArray.getD t true)&& (Region.ready .any l.toArray listed.toArray).contains k&&Region.free .any l.toArray listed.toArray k&&
    (Region.ready .any l.toArray (listed.set a true).toArray).contains k&&Region.free .any l.toArray (listed.set a true).toArray k&&o.apart l.toArray oa&&
    (jI_ P o.op|| (Qr_ o.op&&ZQ_ l.toArray ts listed.toArray k&&ZQ_ l.toArray ts (listed.set a true).toArray k)) then chkD P l ts a is (listed.set k true) else none
  |_,_=>none
theorem OwD.step {k:Nat} {o:Oper} {v:Value} (hD:Drift P l ts a d z) (hk:kb_ l k=some o) {rest:List Bool} (hc:chkD P l ts a [k] listed=some rest)
  (hY:YieldsC P l.toArray (SR w0 R L) (jI_ P o.op=true) o v (act f)) (h:OwD P w0 l R ts a d z n rest (qg_ f o.dst v) L N):OwD P w0 l R ts a d z (n+1) listed f L N:=by
 obtain⟨⟨oa,t,zv,ha,hop,hdst,hg,hz,rfl⟩,hats,hns⟩:=hD
 have hoi:l.toArray[k]? =some o:=by rw[jP_] at hk;simpa using hk
 have ha':kb_ l a=some oa:=by rw[jP_];simpa using ha
 unfold chkD at hc
 rw[hk,ha'] at hc
 simp only at hc
 split at hc
 ·rename_i hcc
  simp only[chkD,Option.some.injEq] at hc
  subst hc
  simp only[Bool.and_eq_true,Bool.or_eq_true,Bool.not_eq_true',List.all_eq_true,List.contains_eq_mem,decide_eq_true_eq,decide_eq_false_iff_not,bne_iff_ne,ne_eq] at hcc
  obtain⟨⟨⟨⟨⟨⟨⟨⟨c1,c2⟩,c3⟩,c4⟩,c5⟩,c6⟩,c7⟩,c8⟩,c9⟩:=hcc
  obtain⟨q1,q2,q3⟩:=Oper.apart_spec c8
  have hsel:=Region.noSelect_spec hns
  have hset: (listed.set k true).set a true=(listed.set a true).set k true:=List.set_comm _ _ c1
  refine⟨fun w hw=> ?_,fun b w hb hbL hw=> ?_⟩
  ·refine kz_ hoi c2 hsel (fun c a w h=>zU_ h) _ _ _ _ (xd_ (P:=P) hoi c4 c5 (c9.imp id fun h=>⟨h.1.1,h.1.2,fun t ht=>(c3 t ht).1⟩)) (.inr fun t ht=>(c3 t ht).1) hY ?_
   rw[z0_,qj_]
   exact h.1 w hw
  ·have hY2:YieldsC P l.toArray (SR w0 R L) (jI_ P o.op=true) o v (act (XC_ f d (vp b 0))):=by
    refine hY.left (hsel k o · · hoi) (oj:=oa) q3 ⟨vp b 0,[], ?_⟩
    rw[hdst]
    exact(z0_ f (some d) (vp b 0)).symm
   refine kz_ hoi c2 hsel (fun c a w h=>zU_ h) _ _ _ _ (xd_ (P:=P) hoi c6 c7 (c9.imp id fun h=>⟨h.1.1,h.2,fun t ht=>(c3 t ht).2⟩)) (.inr fun t ht=>(c3 t ht).2) hY2 ?_
   have e: (act (XC_ f d (vp b 0))).put o.dst v=act (XC_ (qg_ f o.dst v) d (vp b 0)):=by
    have e1:act (XC_ f d (vp b 0))=(act f).put (some d) (vp b 0):=(z0_ f (some d) (vp b 0)).symm
    rw[e1,Act.put_comm (act f) (x:=some d) (y:=o.dst) (vp b 0) v (fun t ht hod=>by cases ht;exact q2 _ hod hdst),z0_,z0_];rfl
   rw[e,qj_,←hset]
   exact h.2 b w hb hbL hw
 ·cases hc
theorem afG_ {k:Nat} {is:List Nat} {listed listed':List Bool} (h:chkD P l ts a (k::is) listed=some listed'):chkD P l ts a [k] listed=some (listed.set k true)∧chkD P l ts a is (listed.set k true)=some listed':=by
 rw[chkD] at h
 cases ho:kb_ l k with
 |none=>rw[ho] at h;cases h
 |some o=>
  cases hoa:kb_ l a with
  |none=>rw[ho,hoa] at h;cases h
  |some oa=>
   rw[ho,hoa] at h
   simp only at h
   split at h
   ·rename_i hcc
    refine⟨?_,h⟩
    rw[chkD,ho,hoa]
    simp only
    rw[if_pos hcc];rfl
   ·cases h
theorem OwD.runs {k:Md→List Oper→Fr→zb_→Prop} (hD:Drift P l ts a d z): ∀ (is:List Nat) {listed listed':List Bool} {f:Fr} {L:zb_},chkD P l ts a is listed=some listed'→
  (∀md r f' L',k md r f' L'→r= []∧OwD P w0 l R ts a d z n listed' f' L' N)→vcL P w0 l.toArray false (.sof R [] []) (j8_ l is) f L k→OwD P w0 l R ts a d z (is.length+n) listed f L N
 | [],listed,listed',f,L,hc,hk,h=>by
  cases hc
  rw[List.length_nil,Nat.zero_add]
  exact(hk _ _ _ _ h).2
 |i::is,listed,listed',f,L,hc,hk,h=>by
  obtain⟨hc1,hc2⟩:=afG_ hc
  rw[vm_] at h
  cases ho:kb_ l i with
  |none=>unfold chkD at hc1;rw[ho] at hc1;cases hc1
  |some o=>
   rw[ho,vo_] at h
   unfold vcL at h
   rw[List.length_cons,show is.length+1+n=(is.length+n)+1 by omega]
   cases hs:zf_ l.toArray f o with
   |true=>
    rw[hs] at h
    have hw0:Region.wanted o (yielded l.toArray (act f).tmps)=false:=by rw[qc_,hs];rfl
    exact OwD.step hD ho hc1 (v:=undef) (.inr ⟨hw0,rfl⟩) (OwD.runs hD is hc2 hk h)
   |false=>
    rw[hs] at h
    have hw0:Region.wanted o (yielded l.toArray (act f).tmps)=true:=by rw[qc_,hs];rfl
    simp only[ib,vcB] at h
    split at h
    ·cases hrd:X3_ (.sof R [] []) f o.op with
     |false=>rw[hrd] at h;exact absurd (hk _ _ _ _ h).1 (by simp)
     |true=>
      rw[hrd] at h
      simp only at h
      cases hv:q2_ P w0 L f o.op with
      |none=>rw[hv] at h;exact absurd (hk _ _ _ _ h).1 (by simp)
      |some v=>
       rw[hv] at h
       refine OwD.step hD ho hc1 (v:=v) (.inl ⟨hw0,fun w hw=> ?_⟩) (OwD.runs hD is hc2 hk h)
       rw[qT_]
       rcases hw with hp|hw
       ·exact qH_ (Hp.refl w) (xm_ hp hv w)
       ·exact qH_ (Hp.refl w) (v3_ hrd hv hw)
    ·exact absurd (hk _ _ _ _ h).1 (by simp)
    ·exact absurd (hk _ _ _ _ h).1 (by simp)
theorem OwD.run (is:List Nat) (listed':List Bool) (n:Nat) {m:Nat} (hm:m=is.length+n) (hD:Drift P l ts a d z) (hc:chkD P l ts a is listed=some listed')
  (h: ∀k:Md→List Oper→Fr→zb_→Prop,(∀md f L,OwD P w0 l R ts a d z n listed' f L N→k md [] f L)→nl (j8_ l is) fun l'=>vcL P w0 l.toArray false (.sof R [] []) l' f L k):OwD P w0 l R ts a d z m listed f L N:=by
 subst hm
 refine OwD.runs (k:=fun _ r f' L'=>r= []∧OwD P w0 l R ts a d z n listed' f' L' N) hD is hc (fun _ _ _ _ h=>h) ?_
 exact h _ fun _ _ _ h=>⟨rfl,h⟩
theorem Xg_ {t:TypeId} {zv:Value} {oa:Oper} {Q:Exit→Act→World→Prop} {X:Act→World→Prop} {w:World} (ha:l.toArray[a]? =some oa) (hop:oa.op= .alloc t) (hdst:oa.dst=some d) (hg:oa.guard=none) (hz:zG_ P t=some zv)
  (h:X (act (XC_ f d (vp w.heap.size 0))) (w.alloc (.cells zv.cells t))):wpOp P l.toArray Q a X (act f) w:=by
 obtain⟨dst,op,ty,pos,after,guard⟩:=oa
 simp only at hop hdst hg
 subst hop;subst hdst;subst hg
 unfold wpOp
 simp only[ha]
 have hw:Region.wanted ⟨some d, .alloc t,ty,pos,after,none⟩ (yielded l.toArray (act f).tmps)=true:=by rw[qc_];rfl
 rw[hw]
 simp only[↓reduceIte]
 left
 unfold Oper.wp
 have hr: (execOp (act f).eval ⟨some d, .alloc t,ty,pos,after,none⟩).run P w= .ok (.value (vp w.heap.size 0)) (w.alloc (.cells zv.cells t)):=by
  simp only[execOp,Instr.alloc,Sem.run_bind,jw_ hz w,Result.andThen_ok]
  rfl
 rw[hr]
 show X ((act f).put (some d) (vp w.heap.size 0)) _
 rw[z0_]
 exact h
theorem vy_ {L':zb_} (hS: ∀b,b∈R→zk_ w0 L' b=zk_ w0 L b):SR w0 R L=SR w0 R L':=by
 funext v
 unfold SR
 apply propext
 constructor
 ·intro hh b hb o ho;exact hh b hb o (by rw[←hS b hb];exact ho)
 ·intro hh b hb o ho;exact hh b hb o (by rw[hS b hb];exact ho)
def abT_ (l:List Oper) (ts:List Nat) (a:Nat) (ks:List Nat) (listed:List Bool):Bool:=
 ((Region.ready .any l.toArray listed.toArray).all fun i=>i==a||ks.contains i)&& (Region.ready .any l.toArray listed.toArray != [])&& ((Region.ready .any l.toArray (listed.set a true).toArray).all fun i=>ks.contains i)&& (Region.ready .any l.toArray (listed.set a true).toArray != [])&&ks.all fun k=>
  match kb_ l k,kb_ l a with
  |some o,some oa=>k !=a&& !ts.contains k&&o.apart l.toArray oa
  |_,_=>false
theorem OwD.softs (ks:List Nat) (hD:Drift P l ts a d z) (hs:abT_ l ts a ks listed=true)
  (h: ∀k,k∈ks→ ∀o,kb_ l k=some o→ ∀E,(E= []∨ ∃b,E= [(b,z)]∧w0.heap.size≤b∧b∉keys L)→Ow P w0 l.toArray .seq [o] f (L++E) (fun f' L''=> ∃L',(L'++E).Perm L''∧(∀r,r∈R→zk_ w0 L' r=zk_ w0 L r)∧OwD P w0 l R ts a d z n (listed.set k true) f' L' N)):
  OwD P w0 l R ts a d z (n+1) listed f L N:=by
 obtain⟨⟨oa,t,zv,ha,hop,hdst,hg,hz,rfl⟩,hats,hns⟩:=hD
 have ha':kb_ l a=some oa:=by rw[jP_];simpa using ha
 unfold abT_ at hs
 simp only[Bool.and_eq_true,List.all_eq_true,Bool.or_eq_true,beq_iff_eq,bne_iff_ne,ne_eq,List.contains_eq_mem,decide_eq_true_eq] at hs
 obtain⟨⟨⟨⟨c3,c4⟩,c5⟩,c5'⟩,c6⟩:=hs
 have hsel:=Region.noSelect_spec hns
 have hkk: ∀k,k∈ks→ ∃o,kb_ l k=some o∧k≠a∧k∉ts∧o.apart l.toArray oa=true:=by
  intro k hk
  have:=c6 k hk
  rw[ha'] at this
  cases ho:kb_ l k with
  |none=>rw[ho] at this;cases this
  |some o=>
   rw[ho] at this
   simp only[Bool.and_eq_true,Bool.not_eq_true',bne_iff_ne,ne_eq,decide_eq_false_iff_not] at this
   exact⟨o,rfl,this.1.1,this.1.2,this.2⟩
 have t2: ∀b w,w0.heap.size≤b→b∉keys L→Hp w0 (L++ [(b, .cells zv.cells t)]) w→xb_ P l.toArray (ji_ w0 N) ts (SR w0 R L) (n+1) (listed.set a true).toArray (act (XC_ f d (vp b 0))) w:=by
  intro b w hb hbL hw
  refine⟨fun _=>SR.ofE hb hw,(fun h=>absurd h c5'), ?_⟩
  intro k hi
  have hkm:=c5 k hi
  obtain⟨o,hk,c1,c2,c7⟩:=hkk k hkm
  have hoi:l.toArray[k]? =some o:=by rw[jP_] at hk;simpa using hk
  obtain⟨q1,q2,q3⟩:=Oper.apart_spec c7
  have hset: (listed.set k true).set a true=(listed.set a true).set k true:=List.set_comm _ _ c1
  have e1:act (XC_ f d (vp b 0))=(act f).put (some d) (vp b 0):=(z0_ f (some d) (vp b 0)).symm
  rw[e1]
  refine Kx_ hoi (fun t ht=>by cases ht;exact q3 d hdst) (fun t ht=>by cases ht;exact fun hod=>q2 d hod hdst) (hsel _ o · · hoi) (fun c a w h=>aeC_ h) ?_
  refine v7_ hoi (X:=fun a' w'=>xb_ P l.toArray (ji_ w0 N) ts (SR w0 R L) n ((listed.set a true).toArray.setIfInBounds k true) (a'.put (some d) (vp b 0)) w') ?_ hw
  intro w' hw'
  refine xN_ ?_ (h k hkm o hk [(b, .cells zv.cells t)] (.inr ⟨b,rfl,hb,hbL⟩) w' hw')
  rintro f' L'' ⟨L',hpm,hR,hO⟩ w'' hw''
  have hw3:=hw''.perm hpm
  rw[z0_,qj_,←hset,vy_ hR]
  refine hO.2 b w'' hb (fun hm=> ?_) hw3
  have hnd:=hw3.nodup
  rw[zd_,List.nodup_append] at hnd
  exact hnd.2.2 b hm b (by simp[keys]) rfl
 refine⟨fun w hw=>⟨fun _=>SR.of hw,fun h=>absurd h c4,fun k hi=> ?_⟩,t2⟩
 rcases c3 k hi with rfl|hkm
 ·refine Xg_ ha hop hdst hg hz ?_
  rw[qj_]
  refine t2 _ _ hw.size (fun hm=>Nat.lt_irrefl _ (hw.lt hm)) (hw.alloc _)
 ·obtain⟨o,hk,c1,c2,c7⟩:=hkk k hkm
  have hoi:l.toArray[k]? =some o:=by rw[jP_] at hk;simpa using hk
  refine v7_ hoi (X:=xb_ P l.toArray (ji_ w0 N) ts (SR w0 R L) (n+1) (listed.toArray.setIfInBounds k true)) ?_ hw
  intro w' hw'
  have h1:=h k hkm o hk [] (.inl rfl)
  rw[List.append_nil] at h1
  refine xN_ ?_ (h1 w' hw')
  rintro f' L'' ⟨L',hpm,hR,hO⟩ w'' hw''
  rw[List.append_nil] at hpm
  rw[qj_,vy_ hR]
  exact hO.1 w'' (hw''.perm hpm)
theorem OwD.soft (k:Nat) (o:Oper) (hD:Drift P l ts a d z) (hk:kb_ l k=some o) (hs:abT_ l ts a [k] listed=true)
  (h: ∀E,(E= []∨ ∃b,E= [(b,z)]∧w0.heap.size≤b∧b∉keys L)→Ow P w0 l.toArray .seq [o] f (L++E) (fun f' L''=> ∃L',(L'++E).Perm L''∧(∀r,r∈R→zk_ w0 L' r=zk_ w0 L r)∧OwD P w0 l R ts a d z n (listed.set k true) f' L' N)):
  OwD P w0 l R ts a d z (n+1) listed f L N:=OwD.softs [k] hD hs fun k' hk' o' ho'=>by
 rw[List.mem_singleton] at hk'
 subst hk'
 rw[hk] at ho'
 cases ho'
 exact h
theorem OwD.two (k k2:Nat) (o o2:Oper) (hD:Drift P l ts a d z) (hk:kb_ l k=some o) (hk2:kb_ l k2=some o2) (hs:abT_ l ts a [k,k2] listed=true)
  (h: ∀E,(E= []∨ ∃b,E= [(b,z)]∧w0.heap.size≤b∧b∉keys L)→Ow P w0 l.toArray .seq [o] f (L++E) (fun f' L''=> ∃L',(L'++E).Perm L''∧(∀r,r∈R→zk_ w0 L' r=zk_ w0 L r)∧OwD P w0 l R ts a d z n (listed.set k true) f' L' N))
  (h2: ∀E,(E= []∨ ∃b,E= [(b,z)]∧w0.heap.size≤b∧b∉keys L)→Ow P w0 l.toArray .seq [o2] f (L++E) (fun f' L''=> ∃L',(L'++E).Perm L''∧(∀r,r∈R→zk_ w0 L' r=zk_ w0 L r)∧OwD P w0 l R ts a d z n (listed.set k2 true) f' L' N)):
  OwD P w0 l R ts a d z (n+1) listed f L N:=OwD.softs [k,k2] hD hs fun k' hk' o' ho'=>by
 simp only[List.mem_cons,List.not_mem_nil,or_false] at hk'
 rcases hk' with rfl|rfl
 ·rw[hk] at ho';cases ho';exact h
 ·rw[hk2] at ho';cases ho';exact h2
theorem OwD.real (is:List Nat) {m:Nat} (hm:m=is.length) (hD:Drift P l ts a d z) (hr:Region.ready .any l.toArray listed.toArray= [a]) (hB:Zf_ P l.toArray ts is (listed.set a true).toArray=true) (hts: (ts.all fun t=> !(listed.set a true).toArray.getD t true)=true)
  (hl:is.map (fun i:Nat=>l[i]?)=(j8_ l is).map some) (hR: ∀r,r∈R→r∈keys L∨r<w0.heap.size)
  (h:nl (j8_ l is) fun l'=> ∀b,w0.heap.size≤b→b∉keys L→Ow P w0 l.toArray (.sof R is ts) l' (XC_ f d (vp b 0)) (L++ [(b,z)]) N):OwD P w0 l R ts a d z m listed f L N:=by
 subst hm
 obtain⟨⟨oa,t,zv,ha,hop,hdst,hg,hz,rfl⟩,hats,hns⟩:=hD
 simp only[List.all_eq_true,Bool.not_eq_true'] at hts
 revert hl h
 generalize j8_ l is=l'
 intro hl h
 have hlen:is.length=l'.length:=by have:=congrArg List.length hl;simpa using this
 have hF:Fits P l.toArray ts is l' (listed.set a true).toArray:=⟨hlen,fun j=>by
  have:=congrArg (·[j]?) hl
  simp only[List.getElem?_map] at this
  cases hj:is[j]? with
  |none=>
   rw[hj] at this
   simp only[Option.map_none] at this
   cases hj':l'[j]? with
   |none=>rfl
   |some x=>rw[hj'] at this;cases this
  |some i=>
   rw[hj] at this
   simp only[Option.map_some] at this
   cases hj':l'[j]? with
   |none=>rw[hj'] at this;cases this
   |some x=>
    rw[hj'] at this
    simp only[Option.map_some,Option.some.injEq] at this
    simp[this],hns,hB⟩
 have hRb: ∀b,w0.heap.size≤b→b∉keys L→ ∀r,r∈R→zk_ w0 (L++ [(b,Obj.cells zv.cells t)]) r=zk_ w0 L r:=by
  intro b hb hbL r hr
  unfold zk_
  cases hlk:look L r with
  |some o=>rw[z9_ hlk]
  |none=>
   have hrn:r∉keys L:=wC_ hlk
   have hne:b≠r:=by
    rcases hR r hr with h|h
    ·exact absurd h hrn
    ·omega
   rw[zV_ hrn]
   unfold look
   rw[if_neg hne];rfl
 have t2: ∀b w,w0.heap.size≤b→b∉keys L→Hp w0 (L++ [(b, .cells zv.cells t)]) w→xb_ P l.toArray (ji_ w0 N) ts (SR w0 R L) is.length (listed.set a true).toArray (act (XC_ f d (vp b 0))) w:=by
  intro b w hb hbL hw
  rw[hlen,vy_ (hRb b hb hbL)]
  exact h b hb hbL _ hF (fun t ht=>hts t ht) w hw
 refine⟨fun w hw=>⟨fun _=>SR.of hw,(fun h=>by rw[hr] at h;cases h),fun i hi=> ?_⟩,t2⟩
 rw[hr,List.mem_singleton] at hi
 subst hi
 refine Xg_ ha hop hdst hg hz ?_
 rw[qj_]
 exact t2 _ _ hw.size (fun hm=>Nat.lt_irrefl _ (hw.lt hm)) (hw.alloc _)
theorem Cw.regionD {id:Nat} (R ts:List Nat) (a d t m:Nat) (zv:Value) (hl:l.length=m+1) (hm:P.follows .mixedOrders=true) (hop: ((kb_ l a).map fun o=>(o.op,o.dst,o.guard))=some (.alloc t,some d,none)) (hts:ts.contains a=false) (hns:Region.noSelect l.toArray=true) (hz:zG_ P t=some zv)
  (h:Drift P l ts a d (.cells zv.cells t)→OwD P w0 l R ts a d (.cells zv.cells t) m (List.replicate (m+1) false) f L (K .normal)):Cw P w0 (.region id l.toArray true) f L K:=by
 intro w hw
 refine wp_mono (wp_region_any hm ?_) fun _ _ _ h=>jV_ h
 have hD:Drift P l ts a d (.cells zv.cells t):=by
  cases hn:kb_ l a with
  |none=>rw[hn] at hop;cases hop
  |some oa=>
   rw[hn] at hop
   simp only[Option.map_some,Option.some.injEq,Prod.mk.injEq] at hop
   exact⟨⟨oa,t,zv,by rw[jP_] at hn;simpa using hn,hop.1,hop.2.1,hop.2.2,hz,rfl⟩,by simpa using hts,hns⟩
 have h1:=(h hD).1 w.drew hw.drew
 have:=ka_ _ _ _ _ h1
 simpa [hl] using this
end
end Go.Sx
namespace Go.Sx
open Go
def Gr (L:zb_) (E:TypeId) (m:Nat) (v:Value) (n:Nat) (cs:List Value):Prop:=
 Buf L E m v n cs∨(n=0∧cs= []∧ ∃b,v=vsl b 0 0 0∧look L b=some (.cells #[] E (0,0)))
theorem Gr.nl {L:zb_} {E:TypeId} {m:Nat}:Gr L E m (.slice none 0 0) 0 []:= .inl .nl
theorem Grew.any {w0:World} {v v':Value} {L L':zb_} (h:Grew w0 v L L') (hv:slB v=none):Grew w0 v' L L':=
 ⟨h.keys,h.new,fun c o _ hl=>h.look c o (by rw[hv];simp) hl⟩
theorem Gr.keep {L L':zb_} {E:TypeId} {m n:Nat} {v:Value} {cs:List Value} (h:Gr L E m v n cs) (hk: ∀b o,slB v=some b→look L b=some o→look L' b=some o):Gr L' E m v n cs:=by
 rcases h with h| ⟨h1,h2,b,rfl,h3⟩
 ·exact .inl (h.keep hk)
 ·exact .inr ⟨h1,h2,b,rfl,hk b _ rfl h3⟩
theorem Gr.app {L M:zb_} {E:TypeId} {m n:Nat} {v:Value} {cs:List Value} (h:Gr L E m v n cs):Gr (L++M) E m v n cs:=h.keep fun _ _ _ hl=>z9_ hl
theorem Gr.len {L:zb_} {E:TypeId} {m n:Nat} {v:Value} {cs:List Value} (h:Gr L E m v n cs) (x:Bool×Nat):v4_ (.sl x) v=some (vi n):=by
 rcases h with h| ⟨rfl,rfl,b,rfl,-⟩
 ·exact h.len x
 ·rfl
theorem Gr.cell {L:zb_} {E:TypeId} {m n:Nat} {v:Value} {cs:List Value} (h:Gr L E m v n cs):Value.oneCell' v=true∧v.cells= #[v]:=by
 rcases h with h| ⟨rfl,rfl,b,rfl,-⟩
 ·exact h.cell
 ·exact⟨rfl,rfl⟩
theorem Gr.key {L:zb_} {E:TypeId} {m n:Nat} {v:Value} {cs:List Value} (h:Gr L E m v n cs) {b:Nat} (hb:slB v=some b):b∈keys L:=by
 rcases h with h| ⟨rfl,rfl,c,rfl,hl⟩
 ·rcases h.inv with⟨rfl,-,-⟩ | ⟨c,cc,rest,rfl,hl,-⟩
  ·cases hb
  ·cases hb;exact zm_ hl
 ·cases hb;exact zm_ hl
section
variable {α:Type} {m:Nat} {enc:α→List Value} {z:α} {w:World} {v:Value} {l:List α}
theorem Gr.slM {L:zb_} {E:TypeId} {n:Nat} {cs:List Value} (h:Gr L E m v n cs) (hw: ∀b o,(b,o)∈L→w.heap[b]? =some o) (hl:l.length=n) (hcs:cs=(l.map enc).flatten) (hm: ∀x,(enc x).length=m):SlV m enc z w v l:=by
 rcases h with h| ⟨rfl,rfl,b,rfl,hlk⟩
 ·exact h.slM hw hl hcs hm
 ·obtain rfl:l= []:=List.eq_nil_of_length_eq_zero hl
  exact SlV.sl (l:=([]:List α)) (off:=0) (c:=0) (hw _ _ (zF_ hlk)) (fun k hk=>by simp at hk) (Nat.le_refl 0) (by simp)
theorem Gr.slV {L:zb_} {E:TypeId} {n:Nat} {cs:List Value} {w0:World} (h:Gr L E m v n cs) (hw:Hp w0 L w) (hl:l.length=n) (hcs:cs=(l.map enc).flatten) (hm: ∀x,(enc x).length=m):SlV m enc z w v l:=h.slM hw.has hl hcs hm
theorem Zh_ (hm: ∀x,(enc x).length=m) (arr:Array Value): ∀ (ls:List α) (off:Nat),off+ls.length*m≤arr.size→(∀k j,k<ls.length→j<m→arr[off+k*m+j]? =(enc (ls.getD k z))[j]?)→
  (arr.extract off (off+ls.length*m)).toList=(ls.map enc).flatten
 | [],off,_,_=>by simp
 |r::ls,off,hs,h=>by
  have hlm: (r::ls).length*m=m+ls.length*m:=by rw[List.length_cons,Nat.add_mul,Nat.one_mul,Nat.add_comm]
  rw[hlm] at hs ⊢
  have ih:=Zh_ hm arr ls (off+m) (by omega) (fun k j hk hj=>by
   have:=h (k+1) j (by simpa using hk) hj
   rw[List.getD_cons_succ] at this
   rw[←this];congr 1;rw[Nat.add_mul,Nat.one_mul];omega)
  have h0: (arr.extract off (off+m)).toList=enc r:=by
   apply List.ext_getElem?
   intro j
   rw[Array.getElem?_toList,Array.getElem?_extract]
   by_cases hj:j<m
   ·rw[if_pos (by omega)]
    have:=h 0 j (by simp) hj
    simpa using this
   ·rw[if_neg (by omega),List.getElem?_eq_none (by rw[hm];omega)]
  rw[List.map_cons,List.flatten_cons,←ih,←h0,←Array.toList_append]
  congr 1
  rw[Array.extract_append_extract]
  congr 1<;>omega
theorem Zz_ (hm: ∀x,(enc x).length=m) (l:List α): (l.map enc).flatten.length=l.length*m:=by
 induction l with
 |nil=>simp
 |cons x r ih=>rw[List.map_cons,List.flatten_cons,List.length_append,ih,hm,List.length_cons,Nat.add_mul,Nat.one_mul,Nat.add_comm]
theorem AppX.one1 {P:Program} {b:Nat} {E:TypeId} {fz:Nat×Nat} {cs:List Value} (hb:w.heap[b]? =some (.cells cs.toArray E fz)) (hm:cs.length=m) (h1:cs.all Value.oneCell'=true):AppX P w m (vsl b 0 1 1) 1 cs:=by
 refine AppX.block (w0:=w) (L:= []) (by rw[wK_];exact hb) (by simp;omega) ?_ h1 (Hp.refl w)
 rw[List.extract_toArray,List.extract_eq_take_drop,List.drop_zero,List.take_of_length_le (by omega)]
theorem SlV.appX {P:Program} (h:SlV m enc z w v l) (hm: ∀x,(enc x).length=m) (h1: ∀x,(enc x).all Value.oneCell'=true):AppX P w m v l.length (l.map enc).flatten:=by
 obtain⟨b,off,c,arr,E,fz,hr,hc,hv⟩:=h
 rcases hv with⟨rfl,rfl,rfl⟩ | ⟨rfl,hhas,hsz⟩
 ·exact AppX.nil P w m
 ·refine AppX.block (w0:=w) (L:= []) (by rw[wK_];exact hhas) hsz (Zh_ (z:=z) hm arr l off hsz (fun k j hk hj=>hr.get k hk j hj)) ?_ (Hp.refl w)
  rw[List.all_flatten,List.all_map,List.all_eq_true]
  exact fun r _=>h1 r
end
section
variable {P:Program} {w0:World} {f:Fr} {L:zb_} {N:Fr→zb_→Prop} {ops:Array Oper} {rest:List Oper} {md:Md}
 {d:Option Tmp} {ty:TypeId} {ps:String} {af:Array Edge} {g:Option (Nat×Bool)}
theorem Ow.appendG {ts tx e:TypeId} {m:Bool×Nat} {z:Value} {s x:Operand} {n k:Nat} {cs new:List Value} {dx:TypeDesc} {md':Md} (sv:Value) (hsv:ev f s=sv) (he:md.turn=some md')
  (hs:zf_ ops f ⟨d, .call ⟨.builtin .append, #[s,x], #[ts,tx]⟩,ty,ps,af,g⟩=false)
  (hu:P.underlying ts=some (.slice e)) (hm:z3_ P e=some m) (hi:xr_ P e=true) (hz:zG_ P e=some z) (hzs:z.cells.size=m.2) (hux:P.underlying tx=some dx) (hnx: ∀k,dx≠ .int k)
  (hB:Gr L e m.2 sv n cs) (hX: ∀w,Hp w0 L w→AppX P w m.2 (ev f x) k new) (hlen:new.length=k*m.2) (hbig:2* (n+k)+768≤2^38)
  (hn: ∀v' L',Gr L' e m.2 v' (n+k) (cs++new)→(0<k→Buf L' e m.2 v' (n+k) (cs++new))→Grew w0 sv L L'→(slB v'=slB sv∨ ∃c,slB v'=some c∧jz_ L c)→Ow P w0 ops md' rest (qg_ f d v') L' N):
  Ow P w0 ops md (⟨d, .call ⟨.builtin .append, #[s,x], #[ts,tx]⟩,ty,ps,af,g⟩::rest) f L N:=by
 rcases hB with hB| ⟨rfl,rfl,b,rfl,hlk⟩
 ·exact Ow.append sv hsv he hs hu hm hi hz hzs hux hnx hB hX hbig fun v' L' h1 h2 h3=>hn v' L' (.inl h1) (fun _=>h1) h2 h3
 ·refine Ow.appendEm hsv he hs hu hm hi hz hzs hux hnx hX hbig (fun h0=> ?_) (fun v' L' hk h1 h2 h3=> ?_)
  ·subst h0
   obtain rfl:new= []:=List.eq_nil_of_length_eq_zero (by rw[hlen,Nat.zero_mul])
   exact hn _ L (.inr ⟨rfl,rfl,b,rfl,hlk⟩) (fun h=>absurd h (Nat.lt_irrefl 0)) (Grew.refl _ _ _) (.inl rfl)
  ·exact hn v' L' (.inl h1) (fun _=>h1) (h2.any rfl) (.inr h3)
end
end Go.Sx
namespace Go.Sx
open Go
theorem ZU_ {w0:World} {L M:zb_} {r:Nat} (h:r∈keys L):zk_ w0 (L++M) r=zk_ w0 L r:=by
 obtain⟨o,ho⟩:=X9_ h
 rw[zo_ ho,zo_ (z9_ ho)]
theorem qh_ {w0:World} {L M:zb_} {R:List Nat} (h: ∀r,r∈R→r∈keys L): ∀r,r∈R→zk_ w0 (L++M) r=zk_ w0 L r:=fun r hr=>ZU_ (h r hr)
theorem New.of_le {n:Nat}: ∀ {D:zb_},(∀c,c∈keys D→n≤c)→New n D
 | [],_=>trivial
 | (b,o)::r,h=>⟨h b (by simp[keys]),New.of_le fun c hc=>h c (by simp only[keys,List.map_cons,List.mem_cons] at hc ⊢;exact .inr hc)⟩
theorem vq_ {w0:World} {L M:zb_} {r:Nat} (h:r∉keys M):zk_ w0 (M++L) r=zk_ w0 L r:=by
 unfold zk_;rw[zV_ h]
theorem Ext.new0 {w:World} {D:zb_} (h:Ext w [] D):New w.heap.size D:=by
 have hn:=h.new
 have key: ∀ (D:zb_),(∀c,c∈Sx.keys D→w.heap.size≤c)→New w.heap.size D:=by
  intro D
  induction D with
  |nil=>intro _;trivial
  |cons p r ih=>
   obtain⟨b,o⟩:=p
   intro hh
   exact⟨hh b (by simp[Sx.keys]),ih fun c hc=>hh c (by simp only[Sx.keys,List.map_cons,List.mem_cons] at hc ⊢;exact .inr hc)⟩
 refine key D fun c hc=> ?_
 rcases hn c hc with h1|h1
 ·cases h1
 ·exact h1
theorem Ext.of_new {w:World} {D:zb_} (h:New w.heap.size D):Ext w [] D:=⟨fun c hc=> .inr (h.le c hc),fun c hc=>by cases hc⟩
section
variable {P:Program} {w0:World} {f:Fr} {L:zb_} {N:Fr→zb_→Prop} {K:xf_} {ops:Array Oper} {rest:List Oper} {md:Md}
 {d:Option Tmp} {ty:TypeId} {ps:String} {af:Array Edge} {g:Option (Nat×Bool)}
theorem qC_ {b:Nat} {o:Obj}: ∀ {B:zb_},(keys B).Nodup→(b,o)∈B→look B b=some o
 | [],_,h=>by cases h
 | (c,x)::q,hn,h=>by
  simp only[keys,List.map_cons,List.nodup_cons] at hn
  unfold look
  rcases List.mem_cons.1 h with h|h
  ·cases h;rw[if_pos rfl]
  ·have:c≠b:=fun e=>hn.1 (e▸List.mem_map.2 ⟨_,h,rfl⟩)
   rw[if_neg this]
   exact qC_ hn.2 h
theorem SR.perm {R:List Nat} {M:zb_} (h:M.Perm L) (hn: (keys L).Nodup):SR w0 R M=SR w0 R L:=by
 refine vy_ fun r _=> ?_
 have hk: ∀ (A B:zb_),A.Perm B→(keys B).Nodup→ ∀o,look A r=some o→look B r=some o:=fun A B hp hB o ho=>qC_ hB (hp.mem_iff.1 (zF_ ho))
 have hnM: (keys M).Nodup:=(List.Perm.nodup_iff (h.map Prod.fst)).2 hn
 unfold zk_
 cases hl:look L r with
 |some o=>rw[hk L M h.symm hnM o hl]
 |none=>
  cases hm:look M r with
  |none=>rfl
  |some o=>rw[hk M L h hn o hm] at hl;cases hl
theorem OwD.permL {l:List Oper} {listed:List Bool} {n:Nat} {R ts:List Nat} {a d:Nat} {z:Obj} {M:zb_} (hp:M.Perm L) (h:OwD P w0 l R ts a d z n listed f M N):OwD P w0 l R ts a d z n listed f L N:=by
 refine⟨fun w hw=> ?_,fun b w hb hbL hw=> ?_⟩
 ·have:=h.1 w (hw.perm hp)
  rw[SR.perm hp hw.nodup] at this
  exact this
 ·have hnd: (keys L).Nodup:=by
   have:=hw.nodup
   rw[zd_,List.nodup_append] at this
   exact this.1
  have:=h.2 b w hb (fun hm=>hbL (by have:=(hp.map Prod.fst).mem_iff.1 hm;exact this)) (hw.perm (hp.append_right _))
  rw[SR.perm hp hnd] at this
  exact this
theorem Cw.permL {c:Code} {M:zb_} (hp:M.Perm L) (h:Cw P w0 c f M K):Cw P w0 c f L K:=fun w hw=>h w (hw.perm hp)
theorem Ow.permL {M:zb_} {l:List Oper} (hp:M.Perm L) (h:Ow P w0 ops .seq l f M N):Ow P w0 ops .seq l f L N:=fun w hw=>h w (hw.perm hp)
theorem Ow.callC {l:List Operand} {ts:Array TypeId} {k:FuncId} {S:Value→zb_→Prop} {md':Md} (he:md.turn=some md')
  (hs:zf_ ops f ⟨d, .call ⟨.value (.func k),l.toArray,ts⟩,ty,ps,af,g⟩=false)
  (hk: ∀a w,(callFunc k a).run P w= .ok (.enter k a) w)
  (hc: ∀w,Hp w0 L w→Rets P k (l.map (ev f)).toArray w (XS w [] S))
  (hn: ∀B v D,jz_ L B→w0.heap.size≤B→New B D→S v D→Ow P w0 ops md' rest (qg_ f d v) (L++D) N):
  Ow P w0 ops md (⟨d, .call ⟨.value (.func k),l.toArray,ts⟩,ty,ps,af,g⟩::rest) f L N:=
 Ow.callN he hs hk (S:=fun B v D=>New B D∧S v D) (fun w hw=>(hc w hw).mono fun _v _D h=>⟨h.1.new0,h.2⟩) (fun _ _ _ h=>h.1) (fun B v D hA hB hS=>hn B v D hA hB hS.1 hS.2)
theorem Hp.part {w:World} {X Y:zb_} (h:Hp w0 (X++Y) w):Hp w X w:=
 ⟨fun b o hm=>h.has b o (List.mem_append_left _ hm),by have:=h.nodup;rw[zd_,List.nodup_append] at this;exact this.1,fun _ _ _=>rfl,Nat.le_refl _,rfl,rfl,rfl⟩
theorem Hp.join {w w':World} {X Y D:zb_} (h:Hp w0 (X++Y) w) (k:Hp w D w') (h1: ∀c,c∈keys X→c∈keys D) (h2: ∀c,c∈keys D→c∈keys X∨w.heap.size≤c):Hp w0 (D++Y) w':=by
 have hnd:=h.nodup
 rw[zd_,List.nodup_append] at hnd
 have hY: ∀c,c∈keys Y→c∉keys D:=by
  intro c hc hd
  rcases h2 c hd with hx|hx
  ·exact hnd.2.2 c hx c hc rfl
  ·have:=h.lt (b:=c) (by rw[zd_];exact List.mem_append_right _ hc)
   omega
 have ht:=h.trans k
 have e: (X++Y).filter (fun p=> !(keys D).contains p.1)=Y:=by
  rw[List.filter_append,q1_ hY]
  have:X.filter (fun p=> !(keys D).contains p.1)= []:=by
   rw[List.filter_eq_nil_iff]
   intro p hp
   have:=h1 p.1 (List.mem_map.2 ⟨p,hp,rfl⟩)
   simp[this]
  rw[this,List.nil_append]
 rw[e] at ht
 exact ht.perm List.perm_append_comm
theorem Ow.appendX {ts tx e:TypeId} {m:Bool×Nat} {z:Value} {s x:Operand} {n k:Nat} {cs new:List Value} {dx:TypeDesc} {md':Md} {X Y:zb_} (sv:Value) (hL:L=X++Y) (hsv:ev f s=sv) (he:md.turn=some md')
  (hs:zf_ ops f ⟨d, .call ⟨.builtin .append, #[s,x], #[ts,tx]⟩,ty,ps,af,g⟩=false)
  (hu:P.underlying ts=some (.slice e)) (hm:z3_ P e=some m) (hi:xr_ P e=true) (hz:zG_ P e=some z) (hzs:z.cells.size=m.2) (hux:P.underlying tx=some dx) (hnx: ∀k,dx≠ .int k)
  (hB:Gr X e m.2 sv n cs) (hX: ∀w,Hp w0 L w→AppX P w m.2 (ev f x) k new) (hk:0<k) (hbig:2* (n+k)+768≤2^38)
  (hn: ∀B v' D,jz_ L B→w0.heap.size≤B→Buf D e m.2 v' (n+k) (cs++new)→(∀c,c∈keys X→c∈keys D)→(∀c,c∈keys D→c∈keys X∨B≤c)→(∀c o,slB sv≠some c→look X c=some o→look D c=some o)→Ow P w0 ops md' rest (qg_ f d v') (D++Y) N):
  Ow P w0 ops md (⟨d, .call ⟨.builtin .append, #[s,x], #[ts,tx]⟩,ty,ps,af,g⟩::rest) f L N:=by
 subst hL
 refine Ow.step he rfl hs fun w hw=> ?_
 have hp:=hw.part
 have hA:jz_ (X++Y) w.heap.size:=qf_ fun b hb=>hw.lt hb
 have fin: ∀v' w' D,(Builtin.append_ #[ts,tx] ty #[sv,ev f x]).run P w= .ok v' w'→Hp w D w'→Buf D e m.2 v' (n+k) (cs++new)→(∀c,c∈keys X→c∈keys D)→(∀c,c∈keys D→c∈keys X∨w.heap.size≤c)→(∀c o,slB sv≠some c→look X c=some o→look D c=some o)→
   (∃v w' L',(execOp (ev f) ⟨d, .call ⟨.builtin .append, #[s,x], #[ts,tx]⟩,ty,ps,af,g⟩).run P w= .ok (.value v) w'∧Hp w0 L' w'∧Ow P w0 ops md' rest (qg_ f d v) L' N):=by
  intro v' w' D hr hD hb h1 h2 h3
  refine⟨v',w',D++Y, ?_,hw.join hD h1 h2,hn w.heap.size v' D hA hw.size hb h1 h2 h3⟩
  simp only[execOp,resolve,Sem.run_bind,Sem.run_pure,Result.andThen_ok,invoke,builtin,List.map_toArray,List.map_cons,List.map_nil,hsv]
  rw[hr]
  rfl
 have hX': ∀w',Hp w [] w'→True:=fun _ _=>trivial
 rcases hB with hB| ⟨rfl,rfl,b,rfl,hlk⟩
 ·obtain⟨v',w',D,hr,hD,hb,hg,-⟩:=wV_ (w0:=w) (L:=X) (ty:=ty) (x:=ev f x) hp hu hm hi hz hzs hux hnx hB (fun w2 hw2=>hX w2 (by
   refine hw.join hw2 (fun c hc=>hc) (fun c hc=> .inl hc))) hbig
  exact .inl (fin v' w' D hr hD hb hg.keys (fun c hc=>(hg.new c hc).imp id And.right) hg.look)
 ·rcases xM_ (w0:=w) (L:=X) (ty:=ty) (b:=b) (x:=ev f x) hp hu hm hi hz hzs hux hnx (fun w2 hw2=>hX w2 (by
   refine hw.join hw2 (fun c hc=>hc) (fun c hc=> .inl hc))) hbig with⟨h0,-⟩ | ⟨-,v',w',D,hr,hD,hb,hg,-⟩
  ·omega
  ·exact .inl (fin v' w' D hr hD hb hg.keys (fun c hc=>(hg.new c hc).imp id And.right) (fun c o _ hl=>hg.look c o (by simp[slB]) hl))
end
def GrI (D:zb_) (E:TypeId) (m:Nat) (v:Value) (n:Nat) (cs:List Value):Prop:= ∃X,(∀p,p∈X→p∈D)∧Gr X E m v n cs
theorem Gr.i {X D:zb_} {E:TypeId} {m n:Nat} {v:Value} {cs:List Value} (h:Gr X E m v n cs) (hX: ∀p,p∈X→p∈D):GrI D E m v n cs:=⟨X,hX,h⟩
theorem GrI.mono {D D':zb_} {E:TypeId} {m n:Nat} {v:Value} {cs:List Value} (h:GrI D E m v n cs) (hX: ∀p,p∈D→p∈D'):GrI D' E m v n cs:=by
 obtain⟨X,h1,h2⟩:=h;exact⟨X,fun p hp=>hX p (h1 p hp),h2⟩
theorem GrI.slV {α:Type} {m:Nat} {enc:α→List Value} {z:α} {w0 w:World} {v:Value} {l:List α} {D:zb_} {E:TypeId} {n:Nat} {cs:List Value} (h:GrI D E m v n cs) (hw:Hp w0 D w) (hl:l.length=n) (hcs:cs=(l.map enc).flatten) (hm: ∀x,(enc x).length=m):SlV m enc z w v l:=by
 obtain⟨X,h1,h2⟩:=h
 exact h2.slM (fun b o hm=>hw.has b o (h1 _ hm)) hl hcs hm
section
variable {P:Program} {w0:World} {f:Fr} {L:zb_} {N:Fr→zb_→Prop}
theorem xw_ {L _M:zb_} {b:Nat} {o:Obj} (h:b∉keys L):look (L++ [(b,o)]) b=some o:=by
 rw[zV_ h];exact zL_ _ _ _
theorem x9_ {b:Nat} {o x:Obj}: ∀ {L:zb_},b∉keys L→setB (L++ [(b,o)]) b x=L++ [(b,x)]
 | [],_=>by rw[List.nil_append,qR_];rfl
 | (c,y)::r,h=>by
  simp only[keys,List.map_cons,List.mem_cons,not_or] at h
  rw[List.cons_append,qw_ _ _ _ _ _ (Ne.symm h.1),x9_ (by simpa [keys] using h.2)];rfl
end
end Go.Sx
namespace Go.Sx
open Go
theorem qa_ {P:Program} {t e:TypeId} {m:Nat} {zc:Array Value} {cs:List Value} (hu:P.underlying t=some (.slice e)) (ha:z3_ P e=some (true,m)) (hz:zG_ P e=some (.agg zc)) (hm:0<m∧m≤16777216) (hc:cs.length=m):
  xx_ P t 1 [(0, .agg cs.toArray)]=some (e,cs.toArray):=by
 have h2:Value.cells (.agg cs.toArray)=cs.toArray:=za_ _
 have hg: ¬ (1*m>2^24):=by simp;omega
 have h0: ¬ (1*m=0):=by omega
 simp only[xx_,hu,ha,hz,Option.map_some]
 rw[if_neg hg,if_neg h0]
 simp only
 generalize hI: (Array.range (1*m)).map (fun x=>(Value.cells (.agg zc))[x% (Value.cells (.agg zc)).size]!)=I
 have hIs:I.size=m:=by rw[←hI];simp
 have hfl:Instr.fill (fun i=>some (i*m,m)) I [(0,Value.agg cs.toArray)]=some cs.toArray:=by
  unfold Instr.fill
  have s3:cs.toArray.size=m:=by simp[hc]
  simp only[h2,s3,hIs,Nat.zero_mul,ne_eq,not_true_eq_false,decide_false,Bool.false_or,Nat.zero_add,Nat.lt_irrefl,gt_iff_lt,Bool.false_eq_true, ↓reduceIte]
  unfold Instr.fill
  congr 1
  have hz:=w1_ cs 0 0 I
  rw[Nat.add_zero,abE_ I cs (by rw[hc,hIs])] at hz
  simp only[Nat.zero_add] at hz
  rw[←Array.foldl_toList,Array.toList_zipIdx]
  exact hz
 rw[hfl]
 rfl
end Go.Sx
namespace Go.Sx
open Go
abbrev ltB (a b:List UInt8):Bool:=Op.bytesLess a b
theorem Z9_: ∀ (x y:List UInt8),ltB x y=decide (x<y)
 | [],[]=>by simp[ltB,Op.bytesLess]
 |_::_,[]=>by simp[ltB,Op.bytesLess]
 | [],_::_=>by simp[ltB,Op.bytesLess]
 |a::x,b::y=>by
  have ih:=Z9_ x y
  simp only[ltB] at ih ⊢
  rw[Op.bytesLess,ih]
  simp only[List.cons_lt_cons_iff]
  by_cases h1:a<b<;>by_cases h2:a=b<;>by_cases h3:x<y<;>simp[h1,h2,h3]
theorem xo_ (a:List UInt8):ltB a a=false:=by
 rw[Z9_];simp
theorem kR_ {a b c:List UInt8} (h:ltB a b=true) (k:ltB b c=true):ltB a c=true:=by
 rw[Z9_,decide_eq_true_eq] at*
 exact List.lt_trans h k
theorem K8_ {a b:List UInt8} (h:ltB a b=true):ltB b a=false:=by
 cases hb:ltB b a
 ·rfl
 ·have:=kR_ h hb
  rw[xo_] at this;cases this
theorem alm_ {a b:List UInt8} (h:ltB a b=true):a≠b:=by
 rintro rfl
 rw[xo_] at h;cases h
theorem wu_ {a b:List UInt8} (h:ltB a b=false) (hne:a≠b):ltB b a=true:=by
 rw[Z9_,decide_eq_false_iff_not] at h
 rw[Z9_,decide_eq_true_eq]
 rcases Std.Trichotomous.rel_or_eq_or_rel_swap (r:=(· < · :List UInt8→List UInt8→Prop)) (a:=a) (b:=b) with h1|h1|h1
 ·exact absurd h1 h
 ·exact absurd h1 hne
 ·exact h1
end Go.Sx
namespace Go.StP
open Go Go.Sx
variable {α:Type} (key:α→List UInt8)
def lt (a b:α):Bool:=ltB (key a) (key b)
def Sorted (l:List α):Prop:=l.Pairwise fun a b=>lt key b a=false
def of (k:List UInt8) (l:List α):List α:=l.filter fun a=>key a==k
def St (l l':List α):Prop:= ∀k,of key k l'=of key k l
theorem St.refl (l:List α):St key l l:=fun _=>rfl
variable {key}
theorem St.trans {a b c:List α} (h:St key a b) (h':St key b c):St key a c:=fun k=>(h' k).trans (h k)
theorem St.symm {a b:List α} (h:St key a b):St key b a:=fun k=>(h k).symm
theorem abU_ (k:List UInt8) (a b:List α):of key k (a++b)=of key k a++of key k b:=List.filter_append ..
theorem St.app {a a' b b':List α} (h:St key a a') (h':St key b b'):St key (a++b) (a'++b'):=fun k=>by rw[abU_,abU_,h,h']
theorem aja_ {k:List UInt8} {l:List α} {x:α}:x∈of key k l↔x∈l∧key x=k:=by
 unfold of;rw[List.mem_filter];simp
theorem St.mem {a b:List α} (h:St key a b) (x:α):x∈b↔x∈a:=by
 have e:=h (key x)
 have h1:x∈b↔x∈of key (key x) b:=by rw[aja_];simp
 have h2:x∈a↔x∈of key (key x) a:=by rw[aja_];simp
 rw[h1,h2,e]
theorem agr_ {k:List UInt8} {l:List α} (h: ∀x,x∈l→key x≠k):of key k l= []:=by
 unfold of
 rw[List.filter_eq_nil_iff]
 intro x hx
 simpa using h x hx
theorem St.swap {a b:List α} (h: ∀x,x∈a→ ∀y,y∈b→key x≠key y):St key (a++b) (b++a):=by
 intro k
 rw[abU_,abU_]
 by_cases ha: ∃x,x∈a∧key x=k
 ·obtain⟨x,hx,rfl⟩:=ha
  have:of key (key x) b= []:=agr_ fun y hy e=>h x hx y hy e.symm
  rw[this,List.append_nil,List.nil_append]
 ·have:of key k a= []:=agr_ fun x hx e=>ha ⟨x,hx,e⟩
  rw[this,List.append_nil,List.nil_append]
theorem lt_trans {a b c:α} (h:lt key a b=true) (k:lt key b c=true):lt key a c=true:=kR_ h k
theorem lt_irrefl (a:α):lt key a a=false:=xo_ _
theorem anh_ {a b:α} (h:lt key a b=false) (k:lt key b a=false):key a=key b:=by
 cases hk:decide (key a=key b)
 ·have hne:key a≠key b:=of_decide_eq_false hk
  have:=wu_ h hne
  unfold lt at k
  rw[this] at k;cases k
 ·exact of_decide_eq_true hk
theorem St.head {a b:α} {l l':List α} (hs:Sorted key (a::l)) (hs':Sorted key (b::l')) (h:St key (a::l) (b::l')):a=b∧St key l l':=by
 have h1:lt key b a=false:=by
  have hb:b∈a::l:=(h.mem b).1 List.mem_cons_self
  rcases List.mem_cons.1 hb with rfl|hb
  ·exact lt_irrefl _
  ·exact(List.pairwise_cons.1 hs).1 b hb
 have h2:lt key a b=false:=by
  have ha:a∈b::l':=(h.mem a).2 List.mem_cons_self
  rcases List.mem_cons.1 ha with rfl|ha
  ·exact lt_irrefl _
  ·exact(List.pairwise_cons.1 hs').1 a ha
 have hk:key a=key b:=anh_ h2 h1
 have he:=h (key a)
 unfold of at he
 rw[List.filter_cons,List.filter_cons,if_pos (by simp[hk]),if_pos (by simp)] at he
 have hab:b=a:=(List.cons.inj he).1
 refine⟨hab.symm,fun k=> ?_⟩
 have hk':=h k
 subst hab
 unfold of at hk' ⊢
 rw[List.filter_cons,List.filter_cons] at hk'
 split at hk'
 ·exact(List.cons.inj hk').2
 ·exact hk'
theorem St.eq: ∀ {l l':List α},Sorted key l→Sorted key l'→St key l l'→l=l'
 | [],[],_,_,_=>rfl
 | [],b::l',_,_,h=>by
  have:b∈ ([]:List α):=(h.mem b).1 List.mem_cons_self
  cases this
 |a::l,[],_,_,h=>by
  have:a∈ ([]:List α):=(h.mem a).2 List.mem_cons_self
  cases this
 |a::l,b::l',hs,hs',h=>by
  obtain⟨rfl,h'⟩:=St.head hs hs' h
  rw[St.eq (List.pairwise_cons.1 hs).2 (List.pairwise_cons.1 hs').2 h']
theorem Sorted.app {a b:List α} (ha:Sorted key a) (hb:Sorted key b) (h: ∀x,x∈a→ ∀y,y∈b→lt key y x=false):Sorted key (a++b):=
 List.pairwise_append.2 ⟨ha,hb,h⟩
theorem Sorted.left {a b:List α} (h:Sorted key (a++b)):Sorted key a:=(List.pairwise_append.1 h).1
theorem Sorted.right {a b:List α} (h:Sorted key (a++b)):Sorted key b:=(List.pairwise_append.1 h).2.1
end Go.StP
namespace Go.Sx
open Go
section
variable {α:Type} (enc:α→List Value)
def rowO (E:TypeId) (rest:List Value) (d:List α):Obj:= .cells ((d.map enc).flatten++rest).toArray E (0,0)
variable {enc} {m:Nat} {E:TypeId} {rest:List Value} {d:List α} {z:α}
end
section
variable {P:Program} {w0:World} {f:Fr} {L:zb_} {N:Fr→zb_→Prop} {ops:Array Oper} {rest:List Oper} {md:Md} {d:Option Tmp} {ty:TypeId} {ps:String} {af:Array Edge} {g:Option (Nat×Bool)}
end
end Go.Sx
namespace Go.StP
open Go Go.Sx
variable {α:Type} {key:α→List UInt8} {z:α}
theorem vA_ {a b:List α} {k:Nat} (h:k<a.length): (a++b).getD k z=a.getD k z:=by
 rw[List.getD_eq_getElem?_getD,List.getD_eq_getElem?_getD,List.getElem?_append_left h]
theorem vs_ {a b:List α} {k:Nat} (h:a.length≤k): (a++b).getD k z=b.getD (k - a.length) z:=by
 rw[List.getD_eq_getElem?_getD,List.getD_eq_getElem?_getD,List.getElem?_append_right h]
theorem ZI_ {l:List α} {k:Nat} (h:k<l.length):l.getD k z∈l:=by
 rw[List.getD_eq_getElem?_getD,List.getElem?_eq_getElem h];exact List.getElem_mem h
theorem afh_ {l:List α} {k n:Nat} (h:k<n): (l.take n).getD k z=l.getD k z:=by
 rw[List.getD_eq_getElem?_getD,List.getD_eq_getElem?_getD,List.getElem?_take,if_pos h]
theorem drop_cons {l:List α} {k:Nat} (h:k<l.length):l.drop k=l.getD k z::l.drop (k+1):=by
 rw[List.getD_eq_getElem?_getD,List.getElem?_eq_getElem h]
 exact List.drop_eq_getElem_cons h
theorem take_snoc {l:List α} {k:Nat} (h:k<l.length):l.take (k+1)=l.take k++ [l.getD k z]:=by
 rw[List.getD_eq_getElem?_getD,List.getElem?_eq_getElem h]
 exact List.take_succ_eq_append_getElem h
theorem Sorted.at_ {l:List α} (h:Sorted key l) {i j:Nat} (hij:i≤j) (hj:j<l.length):lt key (l.getD j z) (l.getD i z)=false:=by
 rcases Nat.lt_or_eq_of_le hij with h1|rfl
 ·have:=List.pairwise_iff_getElem.1 h i j (by omega) hj h1
  rw[List.getD_eq_getElem?_getD,List.getD_eq_getElem?_getD,List.getElem?_eq_getElem hj,List.getElem?_eq_getElem (show i<l.length by omega)]
  exact this
 ·exact lt_irrefl _
end Go.StP
section
open Go Go.Proofs Go.Sx Go.StP
namespace Go.Proofs
set_option maxRecDepth 10000
set_option maxHeartbeats 4000000
set_option linter.unusedSimpArgs false
structure EntL where
 name:List UInt8
 kind:Int
 id:IdL
def qW_ (r:EntL):List Value:= [vs r.name]++ ([vi r.kind]++ (r.id.l.map v8))
def jf_:EntL:=⟨[],0,id0⟩
theorem qX_ (r:EntL): (qW_ r).length=34:=by simp[qW_,r.id.h]
theorem vb_ (r:EntL):Value.cells (.agg (qW_ r).toArray)=(qW_ r).toArray:=za_ _
theorem XJ_ (r:EntL): (qW_ r).all Value.oneCell'=true:=by
 unfold qW_
 simp only[List.all_append,List.all_cons,List.all_nil,Jt_,Bool.and_true,Bool.true_and]
 rfl
theorem XG_:zG_ Tryz.prog 142=some (.agg (qW_ jf_).toArray):=id (by kernel_rfl)
theorem XB_ (r:EntL):qW_ r=([]:List Value)++ (([vs r.name])++ ([vi r.kind]++ (r.id.l.map v8))):=by
 unfold qW_;simp only[List.append_assoc,List.nil_append,List.append_nil]
theorem aes_ (r:EntL) (n:Nat) (E:TypeId) (fz:Nat×Nat):zn_ (some (false,n)) (some (.cells (qW_ r).toArray E fz)) 0=some (vs r.name):=by
 rw[XB_];exact kw_ _ _ _ n E fz (by simp)
theorem wr_ {w:World} {v:Value} {l:List EntL} {b off:Nat} {arr:Array Value} {E:TypeId} {fz:Nat×Nat} (h:RowS 34 qW_ jf_ w v l b off arr E fz) {k:Nat} (hk:k<l.length) (n:Nat):zn_ (some (false,n)) (some (.cells arr E fz)) (off+k*34+0)=some (vs (l.getD k jf_).name):=by
 rw[RowS.cell h hk (by omega)];generalize l.getD k jf_=r;rw[XB_];exact abv_ _ _ _ (by simp)
theorem JE_ (r:EntL) (x:List UInt8) (a:Bool) (E:TypeId):zi_ (some (a,1)) (some (.cells (qW_ r).toArray E (0,0))) 0 (vs x)=some (.cells (qW_ {r with name:=x}).toArray E (0,0)):=by
 rw[XB_ r,XB_ {r with name:=x}];exact qA_ _ _ _ _ a _ E (by simp) rfl (rfl) rfl (rfl)
theorem XK_ (r:EntL):qW_ r=(([vs r.name]))++ (([vi r.kind])++ (r.id.l.map v8)):=by
 unfold qW_;simp only[List.append_assoc,List.nil_append,List.append_nil]
theorem agn_ (r:EntL) (n:Nat) (E:TypeId) (fz:Nat×Nat):zn_ (some (false,n)) (some (.cells (qW_ r).toArray E fz)) 1=some (vi r.kind):=by
 rw[XK_];exact kw_ _ _ _ n E fz (by simp)
theorem ab6_ {w:World} {v:Value} {l:List EntL} {b off:Nat} {arr:Array Value} {E:TypeId} {fz:Nat×Nat} (h:RowS 34 qW_ jf_ w v l b off arr E fz) {k:Nat} (hk:k<l.length) (n:Nat):zn_ (some (false,n)) (some (.cells arr E fz)) (off+k*34+1)=some (vi (l.getD k jf_).kind):=by
 rw[RowS.cell h hk (by omega)];generalize l.getD k jf_=r;rw[XK_];exact abv_ _ _ _ (by simp)
theorem Js_ (r:EntL) (x:Int) (a:Bool) (E:TypeId):zi_ (some (a,1)) (some (.cells (qW_ r).toArray E (0,0))) 1 (vi x)=some (.cells (qW_ {r with kind:=x}).toArray E (0,0)):=by
 rw[XK_ r,XK_ {r with kind:=x}];exact qA_ _ _ _ _ a _ E (by simp) rfl (rfl) rfl (rfl)
theorem XS_ (r:EntL):qW_ r=(([vs r.name])++ ([vi r.kind]))++ ((r.id.l.map v8)++ (([]:List Value))):=by
 unfold qW_;simp only[List.append_assoc,List.nil_append,List.append_nil]
theorem aeK_ (r:EntL) (E:TypeId) (fz:Nat×Nat):zn_ (some (true,32)) (some (.cells (qW_ r).toArray E fz)) 2=some (Value.agg (a8 r.id.l)):=by
 rw[XS_,vB_ _ _ _ E fz (by simp) (by simp[r.id.h])];rfl
theorem alA_ (r:EntL): (qW_ r).toArray.extract 2 34=a8 r.id.l:=by
 rw[XS_];exact aeo_ (o:=2) (n:=32) _ _ _ (by simp) (by simp[r.id.h])
theorem ahc_ {w:World} {v:Value} {l:List EntL} {b off:Nat} {arr:Array Value} {E:TypeId} {fz:Nat×Nat} (h:RowS 34 qW_ jf_ w v l b off arr E fz) {k:Nat} (hk:k<l.length):zn_ (some (true,32)) (some (.cells arr E fz)) (off+k*34+2)=some (Value.agg (a8 (l.getD k jf_).id.l)):=by
 rw[RowS.part h qX_ hk (by omega) (by omega),alA_]
theorem J2_ (r:EntL) (x:IdL) (a:Bool) (E:TypeId):zi_ (some (a,32)) (some (.cells (qW_ r).toArray E (0,0))) 2 (Value.agg (a8 x.l))=some (.cells (qW_ {r with id:=x}).toArray E (0,0)):=by
 rw[XS_ r,XS_ {r with id:=x}];exact qA_ _ _ _ _ a _ E (by simp) (by simp[r.id.h]) (za_ _) (by simp[x.h]) (Jt_ _)
theorem XP_ (r:EntL) (E:TypeId) (fz:Nat×Nat):zn_ (some (true,34)) (some (.cells (qW_ r).toArray E fz)) 0=some (.agg (qW_ r).toArray):=xe_ _ E fz 34 (by rw[List.size_toArray,qX_])
theorem ad8_ (old:Array Value) (r:EntL) (a:Bool) (E:TypeId) (h:old.size=34):zi_ (some (a,34)) (some (.cells old E (0,0))) 0 (.agg (qW_ r).toArray)=some (.cells (qW_ r).toArray E (0,0)):=jO_ _ a old E (qX_ r) (XJ_ r) h
theorem vz_ (r r':EntL) (a:Bool) (E:TypeId):zi_ (some (a,34)) (some (.cells (qW_ r').toArray E (0,0))) 0 (.agg (qW_ r).toArray)=some (.cells (qW_ r).toArray E (0,0)):=ad8_ _ r a E (by rw[List.size_toArray,qX_])
theorem alb_ {w:World} {v:Value} {l:List EntL} {b off:Nat} {arr:Array Value} {E:TypeId} {fz:Nat×Nat} (h:RowS 34 qW_ jf_ w v l b off arr E fz) {k:Nat} (hk:k<l.length):zn_ (some (true,34)) (some (.cells arr E fz)) (off+k*34)=some (.agg (qW_ (l.getD k jf_)).toArray):=RowS.load h qX_ (by omega) hk
theorem akY_ (a b:List UInt8): (!(Op.bytesLess a b||a==b))=ltB b a:=by
 cases h:ltB a b
 ·have h':Op.bytesLess a b=false:=h
  rw[h',Bool.false_or]
  by_cases e:a=b
  ·subst e;rw[h];simp
  ·rw[wu_ h e];simp[e]
 ·have h':Op.bytesLess a b=true:=h
  rw[h',K8_ h];rfl
set_option linter.defProp false
end Go.Proofs
end
section
open Go Go.Proofs Go.Sx Go.StP
namespace Go.Proofs
set_option maxRecDepth 10000
set_option maxHeartbeats 4000000
set_option linter.unusedSimpArgs false
section
variable {α:Type} {a x m y c:List α} {i k:Nat} {z:α}
end
set_option linter.defProp false
end Go.Proofs
end
section
open Go Go.Proofs Go.Sx Go.StP
namespace Go.Proofs
set_option maxRecDepth 10000
set_option maxHeartbeats 4000000
set_option linter.unusedSimpArgs false
abbrev ajQ_ (l:List EntL):Prop:=StP.Sorted EntL.name l
abbrev StE (l l':List EntL):Prop:=StP.St EntL.name l l'
set_option linter.defProp false
end Go.Proofs
end
section
open Go Go.Proofs Go.Sx Go.StP
namespace Go.Proofs
set_option maxRecDepth 10000
set_option maxHeartbeats 4000000
set_option linter.unusedSimpArgs false
set_option linter.defProp false
end Go.Proofs
end
section
open Go Go.Proofs Go.Sx Go.StP
namespace Go.Proofs
set_option maxRecDepth 10000
set_option maxHeartbeats 4000000
set_option linter.unusedSimpArgs false
set_option linter.defProp false
end Go.Proofs
end
section
open Go Go.Proofs Go.Sx Go.StP
namespace Go.Proofs
set_option maxRecDepth 10000
set_option maxHeartbeats 4000000
set_option linter.unusedSimpArgs false
end Go.Proofs
end
namespace Go.Sx
open Go
def Jj_ (r:Option Nat):Fence:={Fence.wide with round:=r}
def QO_:Op→Bool
 | .defer _=>false
 |_=>true
section
variable {P:Program} {w0:World} {f:Fr} {L:zb_} {K:xf_} {N:Fr→zb_→Prop} {ops:Array Oper} {rest:List Oper} {r:Option Nat} {n:Nat}
theorem Wh_ {k:FuncId} {args:Array Value} {w:World} {R:Ending→World→Prop} (h:Calls P k args w R):CallsIn (Jj_ r) n P k args w R:=
 (callsIn_wide.2 h:CallsIn Fence.wide n P k args w R)
theorem ace_ {row:String} {args:Array Value} {w:World} {R:Value→World→Prop} (h:Rows P row args w R):RowsIn (Jj_ r) n P row args w R:=
 (fun c cs _=>let ⟨v,w',hr,s⟩:=h c cs;⟨v,w',hr,stepsIn_wide.2 s⟩:RowsIn Fence.wide n P row args w R)
theorem ajD_ {o:Oper} {a:Act} {w:World} {next:Act→World→Prop} {Q:Exit→Act→World→Prop} (hd:QO_ o.op=true) (h:o.wp P a w next Q):o.wpIn (Jj_ r) n P a w next Q:=by
 refine⟨fun _ _=>trivial, ?_⟩
 rw[Oper.semAt_eq _ _ _ (fun c e=>by rw[e] at hd;cases hd)]
 unfold Oper.wp at h
 generalize (execOp a.eval o).run P w=x at h
 match x,h with
 | .ok (.value v) _,h=>exact h
 | .ok .skip _,h=>exact h
 | .ok (.defer e) _,h=>exact h
 | .ok (.enter k args) w',h=>
  have h':Calls P k args w' _:=h
  exact⟨fun(e:false=true)=>(by cases e),Wh_ h'⟩
 | .ok (.row row args) w',h=>
  have h':Rows P row args w' _:=h
  exact⟨fun(e:false=true)=>(by cases e),ace_ h'⟩
 | .halt (.panic u) _,h=>exact h
theorem WF_ {Q:Exit→Act→World→Prop} {l2:List Oper}: ∀ (l1:List Oper) (a:Act) (w:World),(l1.all fun o=>QO_ o.op)=true→
  wpList P ops (fun e a w=>e= .normal∧wpListIn (Jj_ r) n P ops Q l2 a w) l1 a w→wpListIn (Jj_ r) n P ops Q (l1++l2) a w
 | [],_,_,_,h=>h.2
 |o::l1,a,w,hd,h=>by
  rw[List.cons_append]
  unfold wpList at h
  unfold wpListIn
  rw[List.all_cons,Bool.and_eq_true] at hd
  split at h
  ·rename_i hw
   rw[if_pos hw]
   rcases h with h| ⟨-,hl⟩
   ·exact ajD_ hd.1 (k4_ (fun a w hx=>WF_ l1 a w hd.2 hx) (fun e a w hne hq=>hne hq.1) h)
   ·obtain⟨_,_,he,-⟩:=hl
    cases he
  ·rename_i hw
   rw[if_neg hw]
   exact⟨fun _ _=>trivial,WF_ l1 _ _ hd.2 h⟩
def OwI (r:Option Nat) (P:Program) (w0:World) (ops:Array Oper) (l:List Oper) (f:Fr) (L:zb_) (N:Fr→zb_→Prop):Prop:=
 ∀w,Hp w0 L w→wpListIn (Jj_ r) 0 P ops (ji_ w0 N) l (act f) w
theorem OwI.nil (h:N f L):OwI r P w0 ops [] f L N:=fun _ hw=>⟨rfl,rfl,L,hw,by simpa [act] using h⟩
theorem OwI.pre {l1 l2:List Oper} (hd: (l1.all fun o=>QO_ o.op)=true) (h:Ow P w0 ops .seq l1 f L (fun f' L'=>OwI r P w0 ops l2 f' L' N)):OwI r P w0 ops (l1++l2) f L N:=by
 intro w hw
 refine WF_ l1 _ _ hd ?_
 have h1:=h w hw
 have mono: ∀ (l:List Oper) (a:Act) (w:World),wpList P ops (ji_ w0 (fun f' L'=>OwI r P w0 ops l2 f' L' N)) l a w→wpList P ops (fun e a w=>e= .normal∧wpListIn (Jj_ r) 0 P ops (ji_ w0 N) l2 a w) l a w:=by
  intro l
  induction l with
  |nil=>
   rintro a w ⟨-,hd',L',hp,hO⟩
   refine⟨rfl, ?_⟩
   have:=hO w hp
   rwa [←Z3_ hd'] at this
  |cons o l ih=>
   intro a w h
   unfold wpList at h ⊢
   split at h
   ·rename_i hw
    rw[if_pos hw]
    rcases h with h| ⟨-,hl⟩
    ·exact .inl (k4_ ih (fun e a w hne hq=>hne hq.1) h)
    ·obtain⟨_,_,he,-⟩:=hl
     cases he
   ·rename_i hw
    rw[if_neg hw]
    exact ih _ _ h
 exact mono l1 _ _ h1
theorem Ow.mono_seq {l:List Oper} {N':Fr→zb_→Prop} (h:Ow P w0 ops .seq l f L N) (hN: ∀f L,N f L→N' f L):Ow P w0 ops .seq l f L N':=by
 intro w hw
 have h1:=h w hw
 clear h
 revert h1
 generalize act f=a
 clear hw
 induction l generalizing a w with
 |nil=>rintro⟨h1,h2,L',h3,h4⟩;exact⟨h1,h2,L',h3,hN _ _ h4⟩
 |cons o l ih=>
  intro h
  unfold wpList at h ⊢
  split at h
  ·rename_i hw
   rw[if_pos hw]
   rcases h with h| ⟨-,hl⟩
   ·exact .inl (k4_ (fun a w hx=>ih w a hx) (fun e a w hne hq=>hne hq.1) h)
   ·obtain⟨_,_,he,-⟩:=hl
    cases he
  ·rename_i hw
   rw[if_neg hw]
   exact ih _ _ h
theorem OwI.all {l:List Oper} (hd: (l.all fun o=>QO_ o.op)=true) (h:Ow P w0 ops .seq l f L N):OwI r P w0 ops l f L N:=by
 have:=OwI.pre (r:=r) (l2:= []) (N:=N) hd (Ow.mono_seq h (fun f L hN=>OwI.nil hN))
 simpa using this
def CwR (r:Option Nat) (P:Program) (w0:World) (c:Code) (f:Fr) (L:zb_) (K:xf_):Prop:= ∀w,Hp w0 L w→c.wpIn (Jj_ r) 0 P (post w0 K) (act f) w
theorem CwR.region {id:Nat} {l:List Oper} (hd: (l.all fun o=>QO_ o.op)=true) (h:Ow P w0 l.toArray .seq l f L (K .normal)):CwR r P w0 (.region id l.toArray false) f L K:=
 fun w hw=>wpIn_mono (wpIn_region_lit (OwI.all hd h w hw)) fun _ _ _ h=>jV_ h
theorem CwR.block {id:Nat} {c:Code} (h:CwR r P w0 c f L (xO_ id K)):CwR r P w0 (.block id c) f L K:=by
 intro w hw
 refine wpIn_block (wpIn_mono (h w hw) ?_)
 rintro e a w' ⟨hd,L',hp,k⟩
 cases e with
 |exit i=>
  simp only[Exit.inBlock]
  simp only[xO_] at k
  split
  ·rename_i e;rw[if_pos e] at k;exact⟨hd,L',hp,k⟩
  ·rename_i e;rw[if_neg e] at k;exact⟨hd,L',hp,k⟩
 |_=>exact⟨hd,L',hp,k⟩
theorem Hp.put {w:World} (h:Hp w0 L w) {b:Nat} {o:Obj} (hb:b∈keys L):Hp w0 (setB L b o) (w.putObj b o):=h.set hb rfl rfl rfl rfl
theorem YieldAt.of {l:Nat} {rc:Loop} {X:zb_} {args:Array Value} {w:World} {r0:Option Nat} {S:zb_→Prop} (hX:Hp w X w) (hl:look X l=some (.loop rc)) (hr:rc.state= .ready) (hp:rc.pending=none) (hs:args.size=rc.params.size)
  (h:CwR (some l) P w rc.assign ((rc.params.zip args).foldl (fun tmps (p:Tmp×Value)=>tmps.setIfInBounds p.1 p.2) rc.tmps).toList X (fun e f1 L1=>e= .normal∧look L1 l=some (.loop rc)∧
   CwR (some l) P w rc.body f1 (setB L1 l (.loop {rc with state:= .busy})) (fun e _ L2=>e= .normal∧look L2 l=some (.loop {rc with state:= .busy})∧S (setB L2 l (.loop rc))))):
  YieldAt (Jj_ r0) 0 P l args w (fun e w'=> ∃D,e= .returned (.bool true)∧Hp w D w'∧S D):=by
 obtain⟨st,pe,fn0,tm,pa,asg,bo,de⟩:=rc
 obtain rfl:st= .ready:=hr
 obtain rfl:pe=none:=hp
 have hl0:=hX.has _ _ (zF_ hl)
 refine⟨fn0,_,asg,bo,run_yield hl0 hs,roundIn_of_wpIn (F:=Jj_ r0) (n:=0) trivial ?_⟩
 have h1:=h w hX
 have ea:act ((pa.zip args).foldl (fun tmps (p:Tmp×Value)=>tmps.setIfInBounds p.1 p.2) tm).toList={tmps:=(pa.zip args).foldl (fun tmps (p:Tmp×Value)=>tmps.setIfInBounds p.1 p.2) tm,defers:= []}:=by
  simp[act]
 simp only at h1
 rw[ea] at h1
 refine wpIn_mono h1 ?_
 rintro e a1 w1 ⟨hd1,L1,hp1,rfl,hl1,hbody⟩
 have hb1:=run_beginRound (P:=P) (hp1.has _ _ (zF_ hl1)) rfl
 refine⟨_,hb1, ?_⟩
 have h2:=hbody _ (hp1.put (o:= .loop {state:= .busy,pending:=none,fn:=fn0,tmps:=tm,params:=pa,assign:=asg,body:=bo,defers:=de}) (zm_ hl1))
 rw[←Z3_ hd1] at h2
 refine wpIn_mono h2 ?_
 rintro e a2 w2 ⟨hd2,L2,hp2,rfl,hl2,hS⟩
 have he:=run_endRound (P:=P) none (hp2.has _ _ (zF_ hl2))
 exact⟨_,_,he,_,rfl,hp2.put (zm_ hl2),hS⟩
def anj_ (ds:List Deferred) (w0:World) (K:xf_) (e:Exit) (a:Act) (w:World):Prop:=a.defers=ds∧ ∃L,Hp w0 L w∧K e a.tmps.toList L
def CwE (ds:List Deferred) (P:Program) (w0:World) (c:Code) (f:Fr) (L:zb_) (K:xf_):Prop:= ∀w,Hp w0 L w→c.wp P (anj_ ds w0 K) ⟨f.toArray,ds⟩ w
theorem CwE.seq {ds:List Deferred} {x y:Code} (h:CwE ds P w0 x f L (kQ_ (fun f L=>CwE ds P w0 y f L K) K)):CwE ds P w0 (.seq x y) f L K:=by
 intro w hw
 refine wp_seq (wp_mono (h w hw) ?_)
 rintro e a w' ⟨hd,L',hp,k⟩
 cases e with
 |normal=>
  have:=k w' hp
  have ea:a=⟨a.tmps.toList.toArray,ds⟩:=by cases a;simp only at hd;subst hd;simp
  rw[ea]
  exact this
 |_=>exact⟨hd,L',hp,k⟩
theorem CwE.ret {ds:List Deferred} (h:K .ret f L):CwE ds P w0 .ret f L K:=fun _ hw=>wp_ret ⟨rfl,L,hw,by simpa using h⟩
def evVs (P:Program) (w0:World) (L:zb_):List Oper→Fr→Option Fr
 | [],f=>some f
 |o::r,f=>match o.guard,q2_ P w0 L f o.op with
  |none,some v=>evVs P w0 L r (qg_ f o.dst v)
  |_,_=>none
theorem JG_ {ds:List Deferred} {Q:Exit→Act→World→Prop} {w:World} (hw:Hp w0 L w): ∀ (l:List Oper) (f f':Fr),evVs P w0 L l f=some f'→Q .normal ⟨f'.toArray,ds⟩ w→wpList P ops Q l ⟨f.toArray,ds⟩ w
 | [],f,f',h,hQ=>by cases h;exact hQ
 |o::l,f,f',h,hQ=>by
  unfold evVs at h
  split at h
  ·rename_i v hg hv
   unfold wpList
   have hwn:Region.wanted o (yielded ops (⟨f.toArray,ds⟩:Act).tmps)=true:=by unfold Region.wanted;rw[hg]
   rw[if_pos hwn]
   refine .inl ?_
   unfold Oper.wp
   have he: (⟨f.toArray,ds⟩:Act).eval=ev f:=by
    have:=qT_ f
    funext x
    exact(congrFun this x)
   rw[he,qH_ hw hv]
   have hp: (⟨f.toArray,ds⟩:Act).put o.dst v=⟨(qg_ f o.dst v).toArray,ds⟩:=by
    have:=z0_ f o.dst v
    cases hd:o.dst with
    |none=>rfl
    |some d=>simp only[Act.put,qg_,agj_]
   show wpList P ops Q l ((⟨f.toArray,ds⟩:Act).put o.dst v) w
   rw[hp]
   exact JG_ hw l _ f' h hQ
  ·cases h
theorem CwE.region {ds:List Deferred} {id:Nat} {l:List Oper} {f':Fr} (h:evVs P w0 L l f=some f') (hk:K .normal f' L):CwE ds P w0 (.region id l.toArray false) f L K:=
 fun w hw=>wp_region_lit (JG_ hw l f f' h ⟨rfl,L,hw,by simpa using hk⟩)
theorem Gr.at_ {L:zb_} {E:TypeId} {m n:Nat} {v:Value} {cs:List Value} (h:Gr L E m v n cs) {b:Nat} (hb:slB v=some b): ∃a,look L b=some (.cells a E (0,0)):=by
 rcases h with h| ⟨rfl,rfl,c,rfl,hl⟩
 ·rcases h.inv with⟨rfl,-,-⟩ | ⟨c,cc,rest,rfl,hl,-⟩
  ·cases hb
  ·have:c=b:=by simpa [slB,vsl] using hb
   subst this;exact⟨_,hl⟩
 ·have:c=b:=by simpa [slB,vsl] using hb
  subst this;exact⟨_,hl⟩
theorem Gr.ne {L:zb_} {E:TypeId} {m n:Nat} {v:Value} {cs:List Value} (h:Gr L E m v n cs) {b:Nat} {o:Obj} (hl:look L b=some o) (ho: ∀a,o≠ .cells a E (0,0)):slB v≠some b:=fun e=>by
 obtain⟨a,ha⟩:=h.at_ e
 rw[hl] at ha
 exact ho a (Option.some.inj ha)
theorem Gr.setB {L:zb_} {E:TypeId} {m n:Nat} {v:Value} {cs:List Value} (h:Gr L E m v n cs) {b:Nat} (hb:slB v≠some b) (x:Obj):Gr (setB L b x) E m v n cs:=
 h.keep fun c o hc ho=>by rw[xG_ (fun e:b=c=>hb (by rw[e];exact hc))];exact ho
end
end Go.Sx
section
open Go Go.Proofs Go.Sx Go.StP
namespace Go.Proofs
set_option maxRecDepth 10000
set_option maxHeartbeats 4000000
set_option linter.unusedSimpArgs false
abbrev EntS (w:World) (v:Value) (l:List EntL):Prop:=SlV 34 qW_ jf_ w v l
set_option linter.defProp false
end Go.Proofs
end
section
open Go Go.Proofs Go.Sx Go.StP
namespace Go.Proofs
set_option maxRecDepth 10000
set_option maxHeartbeats 4000000
set_option linter.unusedSimpArgs false
set_option linter.defProp false
end Go.Proofs
end
section
open Go Go.Proofs Go.Sx Go.StP
namespace Go.Proofs
set_option maxRecDepth 10000
set_option maxHeartbeats 4000000
set_option linter.unusedSimpArgs false
def SortOf (l Z:List EntL):Prop:=Z.length=l.length∧ajQ_ Z∧StE l Z
theorem SortOf.eq {l Z Z':List EntL} (h:SortOf l Z) (h':SortOf l Z'):Z=Z':=StP.St.eq h.2.1 h'.2.1 (h.2.2.symm.trans h'.2.2)
end Go.Proofs
end
section
open Go Go.Proofs Go.Sx
namespace Go.Proofs
set_option maxRecDepth 10000
set_option maxHeartbeats 4000000
set_option linter.unusedSimpArgs false
def badR (c:Int):Bool:=decide (c<33) ||decide (126<c) || (c==47)
def Zy_ (b:UInt8):Bool:=decide (b.toNat<33) ||decide (126<b.toNat) || (b.toNat==47)
theorem eqb (a b:Bool):q0_ Tryz.prog .eql 4 (.bool a) (.bool b)=some (.bool (a==b)):=by
 simp[q0_,eqX,qy_,qr_,Tryz.underlying4]
theorem aly_ (a:Value): (#[a]:Array Value)[0]? =some a:=(rfl)
set_option linter.defProp false
def z6_:=And.intro (And.intro (And.intro (@zv_) (And.intro (@Kk_) (@X7_))) (And.intro (And.intro (@Xx_) (@zu_)) (And.intro (@ahP_) (@WR_)))) (And.intro (And.intro (And.intro (@aak_) (@WG_)) (And.intro (@aj0_) (@aly_))) (And.intro (And.intro (@Sx.tup3_0) (@Sx.tup3_1)) (And.intro (@Sx.tup3_2) (@eqb))))
theorem KQ_ (c:Int) (w:World):Rets Tryz.prog 162 #[JA_ c] w (fun v D=>v= .bool (badR c)∧D= []):=by
 refine Rets.enterV Tryz.func162 rfl (rs:= [.tmp 2]) Tryz.results162 Tryz.ntmps162 ?_
 refine kf ?_
 unfold badR
 cases h1:decide (c<33)
 ·cases h2:decide (126<c)
  ·first|with_reducible refine ks [] (And.intro @z6_ (And.intro @h1 (@h2))) ?_|refine kp (And.intro @z6_ (And.intro @h1 (@h2))) ?_
   refine⟨_,(ke @z6_),trivial, ?_⟩
   simp[kG_]
  ·first|with_reducible refine ks [] (And.intro @z6_ (And.intro @h1 (@h2))) ?_|refine kp (And.intro @z6_ (And.intro @h1 (@h2))) ?_
   refine⟨_,(ke @z6_),trivial, ?_⟩
   simp[kG_]
 ·first|with_reducible refine ks [] (And.intro @z6_ @h1) ?_|refine kp (And.intro @z6_ @h1) ?_
  refine⟨_,(ke @z6_),trivial, ?_⟩
  simp[kG_]
theorem ah5_ (l:List UInt8) (i:Nat) (h:i<l.length):badR ((Utf8.decode ⟨l.toArray⟩ i).1:Nat)=Zy_ (l.getD i 0)∧(Zy_ (l.getD i 0)=false→(Utf8.decode ⟨l.toArray⟩ i).2=1):=by
 obtain⟨h0,h1,h2⟩:=Wz_ l i h
 by_cases hc: (l.getD i 0).toNat<128
 ·rw[h1 hc]
  refine⟨?_,fun _=>rfl⟩
  unfold badR Zy_
  congr 1
  ·congr 1
   ·apply decide_eq_decide.2;omega
   ·apply decide_eq_decide.2;omega
  ·rw[Bool.eq_iff_iff,beq_iff_eq,beq_iff_eq];omega
 ·have h2':=h2 (by omega)
  have hb:Zy_ (l.getD i 0)=true:=by
   unfold Zy_
   rw[decide_eq_true (show 126< (l.getD i 0).toNat by omega)];simp
  rw[hb]
  refine⟨?_,fun h=>by cases h⟩
  unfold badR
  rw[decide_eq_true (show(126:Int)< (((Utf8.decode ⟨l.toArray⟩ i).1:Nat):Int) by omega)];simp
theorem Jr_ (s:List UInt8) (k:FuncId) (hk: ∀a w,(callFunc k a).run Tryz.prog w= .ok (.enter k a) w) (hc: ∀c w,Rets Tryz.prog k #[JA_ c] w (fun v D=>v= .bool (badR c)∧D= [])) (w:World) (hs:s.length<1099511627776):
  Rets Tryz.prog 164 #[vs s, .func (.func k) #[] #[], .bool true] w (fun v D=> ∃n:Int,v=vi n∧(0≤n↔s.any Zy_=true)∧D= []):=by
 refine Rets.mono (S:=fun v D=>(∃n:Int,v=vi n∧(0≤n↔s.any Zy_=true))∧D= []) ?_ (by rintro v D ⟨⟨n,h1,h2⟩,h3⟩;exact⟨n,h1,h2,h3⟩)
 refine Rets.enterV Tryz.func164 rfl (rs:= [.tmp 6]) Tryz.results164 Tryz.ntmps164 ?_
 refine kf ?_
 first|with_reducible refine ks [] @z6_ ?_|refine kp @z6_ ?_
 refine Ow.rangeText rfl rfl Tryz.underlying9 rfl fun b1 hb1 hw1=> ?_
 refine ko @z6_ ?_
 first|with_reducible refine ks [] @z6_ ?_|refine kp @z6_ ?_
 refine Cw.loopG (G:=Nat) [11,12,13,14,7,8,15,16,17,18,19,20,6] (fun g=> []) (fun g=> [(b1, .stringIter ⟨s.toArray⟩ g)]) (fun g=>g≤s.length∧ ∀i,i<g→Zy_ (s.getD i 0)=false) (fun g=>s.length - g) 0 rfl rfl ?_ ?_
 ·exact⟨by omega,fun i hi=>by omega⟩
 intro g j hg
 refine kv ?_
 obtain⟨hgL,hgood⟩:=hg
 by_cases hlt:g<s.length
 ·have hbr:=ah5_ s g hlt
  first|with_reducible refine ks [] @z6_ ?_|refine kp @z6_ ?_
  refine Ow.nextText rfl rfl rfl (zL_ _ _ _) hlt ?_
  rw[qR_]
  generalize hdd:Utf8.decode ⟨s.toArray⟩ g=dd at*
  obtain⟨c,n⟩:=dd
  simp only at hbr ⊢
  refine ko @z6_ ?_
  first|with_reducible refine ks [] @z6_ ?_|refine kp @z6_ ?_
  refine Ow.callFn1 (v:= .bool (badR c)) (k:=k) rfl rfl rfl hk (fun w' hw'=>hc _ w') ?_
  rw[hbr.1]
  refine ko @z6_ ?_
  cases hbb:Zy_ (s.getD g 0)
  ·first|with_reducible refine ks [] @z6_ ?_|refine kp @z6_ ?_
   refine Again.mk (g+1) (by omega) ⟨by omega,fun i hi=> ?_⟩ ?_ rfl
   ·by_cases hig:i=g
    ·rw[hig];exact hbb
    ·exact hgood i (by omega)
   ·rw[hbr.2 hbb]
  ·first|with_reducible refine ks [] @z6_ ?_|refine kp @z6_ ?_
   refine⟨_,(ke @z6_),⟨hw1,trivial⟩, ?_⟩
   refine⟨(g:Int),rfl,⟨fun _=> ?_,fun _=>by omega⟩⟩
   rw[List.any_eq_true]
   refine⟨s.getD g 0, ?_,hbb⟩
   rw[List.getD_eq_getElem?_getD,List.getElem?_eq_getElem hlt]
   exact List.getElem_mem hlt
 ·obtain rfl:g=s.length:=by omega
  first|with_reducible refine ks [] @z6_ ?_|refine kp @z6_ ?_
  refine Ow.nextOver rfl rfl rfl (zL_ _ _ _) hlt ?_
  refine ko @z6_ ?_
  first|with_reducible refine ks [] @z6_ ?_|refine kp @z6_ ?_
  refine⟨_,(ke @z6_),⟨hw1,trivial⟩, ?_⟩
  refine⟨-1,rfl,⟨fun h=>by omega,fun h=> ?_⟩⟩
  rw[List.any_eq_true] at h
  obtain⟨x,hx,hxb⟩:=h
  obtain⟨i,hi,rfl⟩:=List.getElem_of_mem hx
  have:=hgood i hi
  rw[List.getD_eq_getElem?_getD,List.getElem?_eq_getElem hi] at this
  exact absurd hxb (by simpa using this)
theorem Jl_ (s:List UInt8) (k:FuncId) (hk: ∀a w,(callFunc k a).run Tryz.prog w= .ok (.enter k a) w) (hc: ∀c w,Rets Tryz.prog k #[JA_ c] w (fun v D=>v= .bool (badR c)∧D= [])) (w:World) (hs:s.length<1099511627776):
  Rets Tryz.prog 163 #[vs s, .func (.func k) #[] #[]] w (fun v D=> ∃n:Int,v=vi n∧(0≤n↔s.any Zy_=true)∧D= []):=by
 refine Rets.mono (S:=fun v D=>(∃n:Int,v=vi n∧(0≤n↔s.any Zy_=true))∧D= []) ?_ (by rintro v D ⟨⟨n,h1,h2⟩,h3⟩;exact⟨n,h1,h2,h3⟩)
 refine Rets.enterV Tryz.func163 rfl (rs:= [.tmp 4]) Tryz.results163 Tryz.ntmps163 ?_
 refine kf ?_
 first|with_reducible refine ks [] @z6_ ?_|refine kp @z6_ ?_
 refine Ow.callF rfl rfl Tryz.call164 (S:=fun _ v D=> ∃n:Int,v=vi n∧(0≤n↔s.any Zy_=true)∧D= []) (fun w' hw'=>Jr_ s k hk hc w' hs) ?_
 rintro B v D - - ⟨n,rfl,hn,rfl⟩
 refine⟨_,Mrg.nil, ?_⟩
 refine ko @z6_ ?_
 first|with_reducible refine ks [] @z6_ ?_|refine kp @z6_ ?_
 refine⟨_,(ke @z6_),trivial, ?_⟩
 exact⟨n,rfl,hn⟩
theorem w7_ (s:List UInt8) (k:FuncId) (hk: ∀a w,(callFunc k a).run Tryz.prog w= .ok (.enter k a) w) (hc: ∀c w,Rets Tryz.prog k #[JA_ c] w (fun v D=>v= .bool (badR c)∧D= [])) (w:World) (hs:s.length<1099511627776):
  Rets Tryz.prog 161 #[vs s, .func (.func k) #[] #[]] w (fun v D=>v= .bool (s.any Zy_)∧D= []):=by
 refine Rets.enterV Tryz.func161 rfl (rs:= [.tmp 4]) Tryz.results161 Tryz.ntmps161 ?_
 refine kf ?_
 first|with_reducible refine ks [] @z6_ ?_|refine kp @z6_ ?_
 refine Ow.callF rfl rfl Tryz.call163 (S:=fun _ v D=> ∃n:Int,v=vi n∧(0≤n↔s.any Zy_=true)∧D= []) (fun w' hw'=>Jl_ s k hk hc w' hs) ?_
 rintro B v D - - ⟨n,rfl,hn,rfl⟩
 refine⟨_,Mrg.nil, ?_⟩
 refine ko @z6_ ?_
 first|with_reducible refine ks [] @z6_ ?_|refine kp @z6_ ?_
 refine⟨_,(ke @z6_),trivial, ?_⟩
 exact congrArg Value.bool (by rw[Bool.eq_iff_iff,decide_eq_true_eq];exact hn)
theorem WS_ (s:List UInt8) (w:World) (hs:s.length<1099511627776):
  Rets Tryz.prog 156 #[vs s] w (fun v D=>v= .bool (!(s== [])&&decide (s.length≤32)&& !(s.any Zy_))∧D= []):=by
 refine Rets.enterV Tryz.func156 rfl (rs:= [.tmp 2]) Tryz.results156 Tryz.ntmps156 ?_
 refine kf ?_
 cases h0: (s != [])
 ·have e0: (s== [])=true:=by simpa using h0
  first|with_reducible refine ks [] (And.intro @z6_ @h0) ?_|refine kp (And.intro @z6_ @h0) ?_
  refine⟨_,(ke @z6_),trivial, ?_⟩
  simp[kG_,e0]
 ·have e0: (s== [])=false:=by simpa using h0
  cases h1:decide ((s.length:Int)≤32)
  ·have e1:decide (s.length≤32)=false:=decide_eq_false (by have:=of_decide_eq_false h1;omega)
   first|with_reducible refine ks [] (And.intro @z6_ (And.intro @h0 (@h1))) ?_|refine kp (And.intro @z6_ (And.intro @h0 (@h1))) ?_
   refine⟨_,(ke @z6_),trivial, ?_⟩
   simp only[kG_,e0,e1,Bool.not_false,Bool.true_and,Bool.false_and,Bool.and_false]
  ·have e1:decide (s.length≤32)=true:=decide_eq_true (by have:=of_decide_eq_true h1;omega)
   first|with_reducible refine ks [] (And.intro @z6_ (And.intro @h0 (@h1))) ?_|refine kp (And.intro @z6_ (And.intro @h0 (@h1))) ?_
   refine Ow.callFV rfl Tryz.call161 (fun w' hw'=>w7_ s 162 Tryz.call162 KQ_ w' hs) ?_
   refine ko @z6_ ?_
   first|with_reducible refine ks [] @z6_ ?_|refine kp @z6_ ?_
   refine⟨_,(ke @z6_),trivial, ?_⟩
   simp only[kG_,e0,e1,Bool.not_false,Bool.true_and]
set_option linter.defProp false
def zJ_:=And.intro (And.intro (@zv_) (@Kk_)) (And.intro (@X7_) (And.intro (@Xx_) (@zu_)))
def KY_ (s:List UInt8):Bool:= !(s== [])&&decide (s.length≤32)&& !(s.any Zy_)
theorem akN_ (c:UInt8):Zy_ c=(decide (c<33) ||decide (126<c) || (c==47)):=by
 unfold Zy_
 congr 1
 rw[Bool.eq_iff_iff,beq_iff_eq,beq_iff_eq,←UInt8.toNat_inj];rfl
theorem KW_ (s:List UInt8) (w:World) (hs:s.length<1099511627776):
  Rets Tryz.prog 105 #[vs s] w (fun v D=>v= .bool (KY_ s)∧D= []):=by
 refine Rets.enterV Tryz.func105 rfl (rs:= [.tmp 2]) Tryz.results105 Tryz.ntmps105 ?_
 refine kf ?_
 first|with_reducible refine ks [] @zJ_ ?_|refine kp @zJ_ ?_
 refine Cw.loopG (G:=Nat) [4,5,6,7,10,11,12,13,14,15,16,17,18,19,20,21,22,23,24,25,2,8,9,3] (fun g=> [(3,vi g)]) (fun g=> []) (fun g=>g≤s.length∧ ∀i,i<g→Zy_ (s.getD i 0)=false) (fun g=>s.length - g) 0 rfl rfl ?_ ?_
 ·exact⟨by omega,fun i hi=>by omega⟩
 intro g j hg
 refine kv ?_
 obtain⟨hgL,hgood⟩:=hg
 by_cases hlt:g<s.length
 ·have hb:=akN_ (s.getD g 0)
  have hbad:Zy_ (s.getD g 0)=true→KY_ s=false:=by
   intro h
   have:s.any Zy_=true:=List.any_eq_true.2 ⟨s.getD g 0,by rw[List.getD_eq_getElem?_getD,List.getElem?_eq_getElem hlt];exact List.getElem_mem hlt,h⟩
   unfold KY_
   rw[this];simp
  have hgo:Zy_ (s.getD g 0)=false→ ∀i,i<g+1→Zy_ (s.getD i 0)=false:=fun h i hi=>by
   by_cases hig:i=g
   ·rw[hig];exact h
   ·exact hgood i (by omega)
  generalize hc:s.getD g 0=c at*
  cases h1:decide (c<33)
  ·cases h2:decide (126<c)
   ·cases h3: (c==47)
    ·first|with_reducible refine ks [] (And.intro @zJ_ (And.intro @hc (And.intro @h1 (And.intro @h2 (@h3))))) ?_|refine kp (And.intro @zJ_ (And.intro @hc (And.intro @h1 (And.intro @h2 (@h3))))) ?_
     refine Again.mk (g+1) (by omega) ⟨by omega,hgo (by rw[hb,h1,h2,h3];rfl)⟩ rfl rfl
    ·first|with_reducible refine ks [] (And.intro @zJ_ (And.intro @hc (And.intro @h1 (And.intro @h2 (@h3))))) ?_|refine kp (And.intro @zJ_ (And.intro @hc (And.intro @h1 (And.intro @h2 (@h3))))) ?_
     rw[hbad (by rw[hb,h1,h2,h3];rfl)]
     refine⟨_,(ke @zJ_),trivial, ?_⟩
     rfl
   ·first|with_reducible refine ks [] (And.intro @zJ_ (And.intro @hc (And.intro @h1 (@h2)))) ?_|refine kp (And.intro @zJ_ (And.intro @hc (And.intro @h1 (@h2)))) ?_
    rw[hbad (by rw[hb,h1,h2];rfl)]
    refine⟨_,(ke @zJ_),trivial, ?_⟩
    rfl
  ·first|with_reducible refine ks [] (And.intro @zJ_ (And.intro @hc (@h1))) ?_|refine kp (And.intro @zJ_ (And.intro @hc (@h1))) ?_
   rw[hbad (by rw[hb,h1];simp)]
   refine⟨_,(ke @zJ_),trivial, ?_⟩
   rfl
 ·obtain rfl:g=s.length:=by omega
  have hany:s.any Zy_=false:=by
   rw[List.any_eq_false]
   intro x hx
   obtain⟨i,hi,rfl⟩:=List.getElem_of_mem hx
   have:=hgood i hi
   rw[List.getD_eq_getElem?_getD,List.getElem?_eq_getElem hi] at this
   simpa using this
  unfold KY_
  rw[hany]
  cases h1:decide (1≤ (s.length:Int))
  ·have e0: (s== [])=true:=by
    have:=of_decide_eq_false h1
    rw[List.eq_nil_of_length_eq_zero (show s.length=0 by omega)];rfl
   first|with_reducible refine ks [] (And.intro @zJ_ @h1) ?_|refine kp (And.intro @zJ_ @h1) ?_
   refine⟨_,(ke @zJ_),trivial, ?_⟩
   simp only[kG_,e0,Bool.not_true,Bool.false_and]
  ·have e0: (s== [])=false:=by
    have:=of_decide_eq_true h1
    cases s with
    |nil=>simp at this
    |cons x r=>rfl
   have e1:decide ((s.length:Int)≤32)=decide (s.length≤32):=decide_eq_decide.2 (by omega)
   first|with_reducible refine ks [] (And.intro @zJ_ @h1) ?_|refine kp (And.intro @zJ_ @h1) ?_
   refine⟨_,(ke @zJ_),trivial, ?_⟩
   simp only[kG_,e0,e1,Bool.not_false,Bool.true_and,Bool.and_true]
end Go.Proofs
end
section
open Go Go.Proofs Go.Sx Go.StP
namespace Go.Proofs
set_option maxRecDepth 10000
set_option maxHeartbeats 4000000
set_option linter.unusedSimpArgs false
def q4_ (l:List EntL) (i:Nat):Bool:=
 KY_ (l.getD i jf_).name&& ((l.getD i jf_).kind==1|| (l.getD i jf_).kind==2)&& (i==0||ltB (l.getD (i - 1) jf_).name (l.getD i jf_).name)
def xv_ (l:List EntL):Bool:=decide (l.length≤32)&& (List.range l.length).all (q4_ l)
theorem j1_ {l:List EntL} {k:Nat} (hk:k<l.length) (h:q4_ l k=false):xv_ l=false:=by
 unfold xv_
 have: (List.range l.length).all (q4_ l)=false:=by
  rw[List.all_eq_false]
  exact⟨k,List.mem_range.2 hk,by simp[h]⟩
 rw[this,Bool.and_false]
theorem Xa_ {l:List EntL} (h: ∀i,i<l.length→q4_ l i=true):xv_ l=decide (l.length≤32):=by
 unfold xv_
 have: (List.range l.length).all (q4_ l)=true:=List.all_eq_true.2 fun i hi=>h i (List.mem_range.1 hi)
 rw[this,Bool.and_true]
set_option linter.defProp false
def zY_:=And.intro (And.intro (And.intro (@aes_) (@agn_)) (And.intro (@aeK_) (@XP_))) (And.intro (And.intro (@vz_) (@vb_)) (And.intro (@zv_) (@zu_)))
def K0_ (l:List EntL):Prop:= ∀i,i<l.length→(l.getD i jf_).name.length<1099511627776
theorem Vd_ (s:List UInt8) (w:World) (hs:s.length<1099511627776):Rets Tryz.prog 156 #[vs s] w (fun v D=>v= .bool (KY_ s)∧D= []):=WS_ s w hs
theorem Ki_ {a b:Int} {c:Bool} (h: (a !=b)=c): (a==b)= !c:=by rw[←h];simp[bne]
theorem KD_ (v:Value) (l:List EntL) (w:World) (hv:EntS w v l) (hl:l.length<1000000) (hsh:K0_ l):
  Rets Tryz.prog 145 #[v] w (fun v' D=>v'= .bool (xv_ l)∧D= []):=by
 obtain⟨b,off,arr,E,fz,hr⟩:=hv.row
 have ln:=hv.len
 refine Rets.enterV Tryz.func145 rfl (rs:= [.tmp 2]) Tryz.results145 Tryz.ntmps145 ?_
 refine kf ?_
 first|with_reducible refine ks [] (And.intro @zY_ @ln) ?_|refine kp (And.intro @zY_ @ln) ?_
 refine Cw.loopG (G:=Nat) [8,9,10,11,4,3,12,13,14,15,16,17,18,19,20,21,22,23,24,25,26,27,28,29,30,31,32,33,34,35,36,37,38,39,40,2,41,7] (fun g=> [(7,vi g)]) (fun g=> []) (fun g=>g≤l.length∧ ∀i,i<g→q4_ l i=true) (fun g=>l.length - g) 0 rfl rfl ?_ ?_
 ·exact⟨Nat.zero_le _,fun i hi=>absurd hi (Nat.not_lt_zero i)⟩
 ·intro k jk hk
  refine kv ?_
  obtain⟨h1,h2⟩:=hk
  by_cases hk:k<l.length
  ·have h0:0<l.length:=by omega
   have hbl:=hr.lt h0
   have r2:=hr.has h0
   have i2:=hr.idx true k hk
   have l2:=alb_ hr hk
   first|with_reducible refine ks [6] (And.intro @zY_ (And.intro @r2 (And.intro @i2 (@l2)))) ?_|refine kp (And.intro @zY_ (And.intro @r2 (And.intro @i2 (@l2)))) ?_
   refine Ow.alloc rfl rfl XG_ fun b4 hb4 hw4=> ?_
   simp only[za_,List.nil_append,List.cons_append]
   have hn4:b4≠b:=by omega
   refine ko @zY_ ?_
   have hs:=hsh k hk
   refine Cw.regionS [b4,b] [0,1,2,3,4,5,6,7,8,9,10,11,12,13,14,15,16,17,18,19,20,21,22,24,23,25,26,27,28] [] (by kernel_rfl) (by kernel_rfl) (by kernel_rfl) ?_
   refine kya ?_
   refine kq @zY_ ?_
   refine Ow.callFV rfl Tryz.call156 (fun w' hw'=>Vd_ (l.getD k jf_).name w' hs) ?_
   cases hn:KY_ (l.getD k jf_).name
   ·have e0:q4_ l k=false:=by unfold q4_;rw[hn];rfl
    rw[j1_ hk e0]
    refine kq @zY_ ?_
    refine⟨_,(ke @zY_),⟨hw4,trivial⟩, ?_⟩
    rfl
   ·cases hk1: ((l.getD k jf_).kind !=1)
    ·have hkk: ((l.getD k jf_).kind==1|| (l.getD k jf_).kind==2)=true:=by rw[Ki_ hk1];rfl
     by_cases h0k:k=0
     ·have d1:decide ((0:Int)< (k:Int))=false:=decide_eq_false (by omega)
      have e1:q4_ l k=true:=by unfold q4_;rw[hn,hkk,h0k];rfl
      refine kq (And.intro @zY_ (And.intro @hk1 (@d1))) ?_
      refine Cw.forgetN [] (by exact⟨hw4,trivial⟩) (by intro p hp;simp only[List.mem_cons,List.not_mem_nil,or_false] at hp ⊢;all_goals (first| (rcases hp with rfl|hp<;>simp_all) | (subst hp;simp) |simp_all)) (by simp[keys]<;>omega) ?_
      first|with_reducible refine ks [] @zY_ ?_|refine kp @zY_ ?_
      exact Again.mk (k+1) (by omega) ⟨by omega,fun i hi=>by
       rcases Nat.lt_succ_iff_lt_or_eq.1 hi with h|rfl
       ·exact h2 i h
       ·exact e1⟩ rfl rfl
     ·have d1:decide ((0:Int)< (k:Int))=true:=decide_eq_true (by omega)
      have i3:zW_ (.sl (true,34)) v (some ((k:Int) - 1))=some (vp b (off+ (k - 1)*34)):=by
       rw[show(k:Int) - 1=((k - 1:Nat):Int) by omega];exact hr.idx true (k - 1) (by omega)
      have l3: ∀n,zn_ (some (false,n)) (some (.cells arr E fz)) (off+ (k - 1)*34)=some (vs (l.getD (k - 1) jf_).name):=fun n=>wr_ hr (show k - 1<l.length by omega) n
      have ek: (k==0)=false:=beq_eq_false_iff_ne.2 h0k
      cases hl3:Op.bytesLess (l.getD (k - 1) jf_).name (l.getD k jf_).name
      ·have e1:q4_ l k=false:=by unfold q4_;rw[hn,hkk,ek];exact hl3
       rw[j1_ hk e1]
       refine kq (And.intro @zY_ (And.intro @hk1 (And.intro @d1 (And.intro @i3 (And.intro @r2 (And.intro @l3 (@hl3))))))) ?_
       refine⟨_,(ke @zY_),⟨hw4,trivial⟩, ?_⟩
       rfl
      ·have e1:q4_ l k=true:=by unfold q4_;rw[hn,hkk,ek];exact hl3
       refine kq (And.intro @zY_ (And.intro @hk1 (And.intro @d1 (And.intro @i3 (And.intro @r2 (And.intro @l3 (@hl3))))))) ?_
       refine Cw.forgetN [] (by exact⟨hw4,trivial⟩) (by intro p hp;simp only[List.mem_cons,List.not_mem_nil,or_false] at hp ⊢;all_goals (first| (rcases hp with rfl|hp<;>simp_all) | (subst hp;simp) |simp_all)) (by simp[keys]<;>omega) ?_
       first|with_reducible refine ks [] @zY_ ?_|refine kp @zY_ ?_
       exact Again.mk (k+1) (by omega) ⟨by omega,fun i hi=>by
        rcases Nat.lt_succ_iff_lt_or_eq.1 hi with h|rfl
        ·exact h2 i h
        ·exact e1⟩ rfl rfl
    ·cases hk2: ((l.getD k jf_).kind !=2)
     ·have hkk: ((l.getD k jf_).kind==1|| (l.getD k jf_).kind==2)=true:=by rw[Ki_ hk2];simp
      by_cases h0k:k=0
      ·have d1:decide ((0:Int)< (k:Int))=false:=decide_eq_false (by omega)
       have e1:q4_ l k=true:=by unfold q4_;rw[hn,hkk,h0k];rfl
       refine kq (And.intro @zY_ (And.intro @hk1 (And.intro @hk2 (@d1)))) ?_
       refine Cw.forgetN [] (by exact⟨hw4,trivial⟩) (by intro p hp;simp only[List.mem_cons,List.not_mem_nil,or_false] at hp ⊢;all_goals (first| (rcases hp with rfl|hp<;>simp_all) | (subst hp;simp) |simp_all)) (by simp[keys]<;>omega) ?_
       first|with_reducible refine ks [] @zY_ ?_|refine kp @zY_ ?_
       exact Again.mk (k+1) (by omega) ⟨by omega,fun i hi=>by
        rcases Nat.lt_succ_iff_lt_or_eq.1 hi with h|rfl
        ·exact h2 i h
        ·exact e1⟩ rfl rfl
      ·have d1:decide ((0:Int)< (k:Int))=true:=decide_eq_true (by omega)
       have i3:zW_ (.sl (true,34)) v (some ((k:Int) - 1))=some (vp b (off+ (k - 1)*34)):=by
        rw[show(k:Int) - 1=((k - 1:Nat):Int) by omega];exact hr.idx true (k - 1) (by omega)
       have l3: ∀n,zn_ (some (false,n)) (some (.cells arr E fz)) (off+ (k - 1)*34)=some (vs (l.getD (k - 1) jf_).name):=fun n=>wr_ hr (show k - 1<l.length by omega) n
       have ek: (k==0)=false:=beq_eq_false_iff_ne.2 h0k
       cases hl3:Op.bytesLess (l.getD (k - 1) jf_).name (l.getD k jf_).name
       ·have e1:q4_ l k=false:=by unfold q4_;rw[hn,hkk,ek];exact hl3
        rw[j1_ hk e1]
        refine kq (And.intro @zY_ (And.intro @hk1 (And.intro @hk2 (And.intro @d1 (And.intro @i3 (And.intro @r2 (And.intro @l3 (@hl3)))))))) ?_
        refine⟨_,(ke @zY_),⟨hw4,trivial⟩, ?_⟩
        rfl
       ·have e1:q4_ l k=true:=by unfold q4_;rw[hn,hkk,ek];exact hl3
        refine kq (And.intro @zY_ (And.intro @hk1 (And.intro @hk2 (And.intro @d1 (And.intro @i3 (And.intro @r2 (And.intro @l3 (@hl3)))))))) ?_
        refine Cw.forgetN [] (by exact⟨hw4,trivial⟩) (by intro p hp;simp only[List.mem_cons,List.not_mem_nil,or_false] at hp ⊢;all_goals (first| (rcases hp with rfl|hp<;>simp_all) | (subst hp;simp) |simp_all)) (by simp[keys]<;>omega) ?_
        first|with_reducible refine ks [] @zY_ ?_|refine kp @zY_ ?_
        exact Again.mk (k+1) (by omega) ⟨by omega,fun i hi=>by
         rcases Nat.lt_succ_iff_lt_or_eq.1 hi with h|rfl
         ·exact h2 i h
         ·exact e1⟩ rfl rfl
     ·have e0:q4_ l k=false:=by
       unfold q4_
       rw[hn,Ki_ hk1,Ki_ hk2];rfl
      rw[j1_ hk e0]
      refine kq (And.intro @zY_ (And.intro @hk1 (@hk2))) ?_
      refine⟨_,(ke @zY_),⟨hw4,trivial⟩, ?_⟩
      rfl
  ·obtain rfl:k=l.length:=by omega
   rw[Xa_ h2]
   first|with_reducible refine ks [] (And.intro @zY_ @ln) ?_|refine kp (And.intro @zY_ @ln) ?_
   refine⟨_,(ke @zY_),trivial, ?_⟩
   exact congrArg Value.bool (decide_eq_decide.2 (by omega))
end Go.Proofs
end
section
open Go Go.Proofs Go.Sx Go.StP
namespace Go.Proofs
set_option maxRecDepth 10000
set_option maxHeartbeats 4000000
set_option linter.unusedSimpArgs false
set_option linter.defProp false
theorem aeY_ (a b:List UInt8): (Op.bytesLess a b||a==b)= !ltB b a:=by rw[←akY_,Bool.not_not]
theorem Jk_ (v:Value) (l:List EntL) (w:World) (hv:EntS w v l) (hl:l.length<1000000) (hsh:K0_ l):
  Rets Tryz.prog 70 #[v] w (fun v' D=>v'= .bool (xv_ l)∧D= []):=by
 obtain⟨b,off,arr,E,fz,hr⟩:=hv.row
 have ln:=hv.len
 refine Rets.enterV Tryz.func70 rfl (rs:= [.tmp 2]) Tryz.results70 Tryz.ntmps70 ?_
 refine kf ?_
 by_cases h32:32<l.length
 ·first|with_reducible refine ks [] (And.intro @zY_ @ln) ?_|refine kp (And.intro @zY_ @ln) ?_
  have:xv_ l=false:=by unfold xv_;rw[decide_eq_false (by omega),Bool.false_and]
  rw[this]
  refine⟨_,(ke @zY_),trivial, ?_⟩
  rfl
 ·first|with_reducible refine ks [] (And.intro @zY_ @ln) ?_|refine kp (And.intro @zY_ @ln) ?_
  refine Cw.loopG (G:=Nat) [7,8,9,10,13,14,15,16,17,18,19,20,21,22,23,24,25,26,27,28,29,30,31,32,33,34,35,2,36,37,38,39,40,41,42,43,44,45,46,47,48,49,50,51,11,12,3] (fun g=> [(3,vi g)]) (fun g=> []) (fun g=>g≤l.length∧ ∀i,i<g→q4_ l i=true) (fun g=>l.length - g) 0 rfl rfl ?_ ?_
  ·exact⟨Nat.zero_le _,fun i hi=>absurd hi (Nat.not_lt_zero i)⟩
  ·intro k jk hk
   refine kv ?_
   obtain⟨h1,h2⟩:=hk
   by_cases hk:k<l.length
   ·have h0:0<l.length:=by omega
    have hbl:=hr.lt h0
    have r2:=hr.has h0
    have i2:=hr.idx true k hk
    have m0: ∀n,zn_ (some (false,n)) (some (.cells arr E fz)) (off+k*34)=some (vs (l.getD k jf_).name):=fun n=>wr_ hr hk n
    have m1: ∀n,zn_ (some (false,n)) (some (.cells arr E fz)) (off+k*34+1)=some (vi (l.getD k jf_).kind):=fun n=>ab6_ hr hk n
    have hs:=hsh k hk
    first|with_reducible refine ks [] (And.intro @zY_ (And.intro @ln (And.intro @r2 (And.intro @i2 (And.intro @m0 (@m1)))))) ?_|refine kp (And.intro @zY_ (And.intro @ln (And.intro @r2 (And.intro @i2 (And.intro @m0 (@m1)))))) ?_
    refine Ow.callFV rfl Tryz.call105 (fun w' hw'=>KW_ (l.getD k jf_).name w' hs) ?_
    cases hn:KY_ (l.getD k jf_).name
    ·have e0:q4_ l k=false:=by unfold q4_;rw[hn];rfl
     rw[j1_ hk e0]
     refine ko @zY_ ?_
     refine⟨_,(ke @zY_),trivial, ?_⟩
     rfl
    ·cases hk1:decide ((l.getD k jf_).kind<1)
     ·cases hk2:decide (2< (l.getD k jf_).kind)
      ·have hkk: ((l.getD k jf_).kind==1|| (l.getD k jf_).kind==2)=true:=by
        have q1:=of_decide_eq_false hk1
        have q2:=of_decide_eq_false hk2
        rcases(show(l.getD k jf_).kind=1∨(l.getD k jf_).kind=2 by omega) with h|h<;>rw[h]<;>rfl
       refine ko (And.intro @zY_ (And.intro @r2 (And.intro @i2 (And.intro @m0 (And.intro @m1 (And.intro @hk1 (@hk2))))))) ?_
       by_cases h0k:k=0
       ·have d1:decide ((0:Int)< (k:Int))=false:=decide_eq_false (by omega)
        have e1:q4_ l k=true:=by unfold q4_;rw[hn,hkk,h0k];rfl
        refine Cw.regionS [b] [0,1,2,3,4,5,6,8,9,10,11,12,7,13,14,15] [] (by kernel_rfl) (by kernel_rfl) (by kernel_rfl) ?_
        refine kya ?_
        refine kq (And.intro @zY_ @d1) ?_
        exact Again.mk (k+1) (by omega) ⟨by omega,fun i hi=>by
         rcases Nat.lt_succ_iff_lt_or_eq.1 hi with h|rfl
         ·exact h2 i h
         ·exact e1⟩ rfl rfl
       ·have d1:decide ((0:Int)< (k:Int))=true:=decide_eq_true (by omega)
        have i3:zW_ (.sl (true,34)) v (some ((k:Int) - 1))=some (vp b (off+ (k - 1)*34)):=by
         rw[show(k:Int) - 1=((k - 1:Nat):Int) by omega];exact hr.idx true (k - 1) (by omega)
        have l3: ∀n,zn_ (some (false,n)) (some (.cells arr E fz)) (off+ (k - 1)*34)=some (vs (l.getD (k - 1) jf_).name):=fun n=>wr_ hr (show k - 1<l.length by omega) n
        have ek: (k==0)=false:=beq_eq_false_iff_ne.2 h0k
        cases hl3:ltB (l.getD (k - 1) jf_).name (l.getD k jf_).name
        ·have e1:q4_ l k=false:=by unfold q4_;rw[hn,hkk,ek];exact hl3
         rw[j1_ hk e1]
         refine Cw.regionS [b] [0,1,2,3,4,5,6,8,9,10,11,12,7,13,14,15] [] (by kernel_rfl) (by kernel_rfl) (by kernel_rfl) ?_
         refine kya ?_
         refine kq (And.intro @zY_ (And.intro @d1 (And.intro @i2 (And.intro @i3 (And.intro @r2 (And.intro @m0 (And.intro @l3 (And.intro @aeY_ (@hl3))))))))) ?_
         refine⟨_,(ke @zY_),trivial, ?_⟩
         rfl
        ·have e1:q4_ l k=true:=by unfold q4_;rw[hn,hkk,ek];exact hl3
         refine Cw.regionS [b] [0,1,2,3,4,5,6,8,9,10,11,12,7,13,14,15] [] (by kernel_rfl) (by kernel_rfl) (by kernel_rfl) ?_
         refine kya ?_
         refine kq (And.intro @zY_ (And.intro @d1 (And.intro @i2 (And.intro @i3 (And.intro @r2 (And.intro @m0 (And.intro @l3 (And.intro @aeY_ (@hl3))))))))) ?_
         exact Again.mk (k+1) (by omega) ⟨by omega,fun i hi=>by
          rcases Nat.lt_succ_iff_lt_or_eq.1 hi with h|rfl
          ·exact h2 i h
          ·exact e1⟩ rfl rfl
      ·have e0:q4_ l k=false:=by
        have q2:=of_decide_eq_true hk2
        unfold q4_
        rw[hn,show((l.getD k jf_).kind==1)=false from beq_eq_false_iff_ne.2 (by omega),show((l.getD k jf_).kind==2)=false from beq_eq_false_iff_ne.2 (by omega)];rfl
       rw[j1_ hk e0]
       refine ko (And.intro @zY_ (And.intro @r2 (And.intro @i2 (And.intro @m0 (And.intro @m1 (And.intro @hk1 (@hk2))))))) ?_
       refine⟨_,(ke @zY_),trivial, ?_⟩
       rfl
     ·have e0:q4_ l k=false:=by
       have q2:=of_decide_eq_true hk1
       unfold q4_
       rw[hn,show((l.getD k jf_).kind==1)=false from beq_eq_false_iff_ne.2 (by omega),show((l.getD k jf_).kind==2)=false from beq_eq_false_iff_ne.2 (by omega)];rfl
      rw[j1_ hk e0]
      refine ko (And.intro @zY_ (And.intro @r2 (And.intro @i2 (And.intro @m0 (And.intro @m1 (@hk1)))))) ?_
      refine⟨_,(ke @zY_),trivial, ?_⟩
      rfl
   ·obtain rfl:k=l.length:=by omega
    rw[Xa_ h2,show decide (l.length≤32)=true from decide_eq_true (by omega)]
    first|with_reducible refine ks [] (And.intro @zY_ @ln) ?_|refine kp (And.intro @zY_ @ln) ?_
    refine⟨_,(ke @zY_),trivial, ?_⟩
    rfl
end Go.Proofs
end
section
open Go Go.Proofs Go.Sx Go.StP
namespace Go.Proofs
set_option maxRecDepth 10000
set_option maxHeartbeats 4000000
set_option linter.unusedSimpArgs false
theorem j2_ (x:IdL): (jd_ x).all Value.oneCell'=true:=Jt_ _
abbrev IdS (w:World) (v:Value) (l:List IdL):Prop:=SlV 32 jd_ id0 w v l
theorem QE_ {w:World} {v:Value} {l:List IdL} {b off:Nat} {arr:Array Value} {E:TypeId} {fz:Nat×Nat} (h:RowS 32 jd_ id0 w v l b off arr E fz) {k:Nat} (hk:k<l.length):
  zn_ (some (true,32)) (some (.cells arr E fz)) (off+k*32)=some (.agg (a8 (l.getD k id0).l)):=RowS.load h zX_ (by omega) hk
theorem aiJ_ (a b:IdL):q0_ Tryz.prog .eql 42 (.agg (a8 a.l)) (.agg (a8 b.l))=some (.bool (a.l==b.l)):=
 ajR_ Tryz.underlying42 Tryz.underlying5 Tryz.ag5 (by kernel_rfl) a.l b.l ⟨a.h,b.h⟩
theorem aj8_ (a b:IdL):q0_ Tryz.prog .neq 42 (.agg (a8 a.l)) (.agg (a8 b.l))=some (.bool (!(a.l==b.l))):=
 agS_ Tryz.underlying42 Tryz.underlying5 Tryz.ag5 (by kernel_rfl) a.l b.l ⟨a.h,b.h⟩
instance:DecidableEq IdL:=fun a b=>if h:a.l=b.l then .isTrue (by cases a;cases b;simp only at h;subst h;rfl) else .isFalse (fun e=>h (by rw[e]))
theorem IdL.ext' {a b:IdL} (h:a.l=b.l):a=b:=by cases a;cases b;simp only at h;subst h;rfl
def idxG (x:IdL):List IdL→Nat→Int
 | [],_=> -1
 |y::r,i=>if x.l==y.l then(i:Int) else idxG x r (i+1)
theorem afb_ (x y:IdL) (r:List IdL) (i:Nat):idxG x (y::r) i=if x.l==y.l then(i:Int) else idxG x r (i+1):=rfl
theorem abw_ (x:IdL): ∀ (l:List IdL) (i:Nat),decide (0≤idxG x l i)=l.any fun y=>x.l==y.l
 | [],_=>rfl
 |y::r,i=>by
  unfold idxG
  rw[List.any_cons]
  cases h: (x.l==y.l)
  ·rw[if_neg (by simp),Bool.false_or];exact abw_ x r (i+1)
  ·rw[if_pos rfl,Bool.true_or,decide_eq_true (by omega)]
theorem kq_ (x:IdL) (E:TypeId) (fz:Nat×Nat):zn_ (some (true,32)) (some (.cells (a8 x.l) E fz)) 0=some (.agg (a8 x.l)):=wJ_ _ E fz 32 x.h
set_option linter.defProp false
def xC_:=And.intro (And.intro (@aiJ_) (@aj8_)) (And.intro (@kq_) (And.intro (@zv_) (@zu_)))
theorem KB_ (v:Value) (l:List IdL) (x:IdL) (w:World) (hv:IdS w v l) (hl:l.length<1000000):
  Rets Tryz.prog 103 #[v, .agg (a8 x.l)] w (fun v' D=>v'=vi (idxG x l 0)∧D= []):=by
 obtain⟨b,off,arr,E,fz,hr⟩:=hv.row
 have ln:=hv.len
 refine Rets.enterV Tryz.func103 rfl (rs:= [.tmp 4]) Tryz.results103 Tryz.ntmps103 ?_
 refine kf ?_
 first|with_reducible refine ks [] @xC_ ?_|refine kp @xC_ ?_
 refine Ow.box rfl rfl fun b1 hb1 hw1=> ?_
 simp only[zw_,zC_,zB_,za_,List.nil_append,List.cons_append]
 refine Ow.go rfl ?_
 simp(disch:=(first|assumption|omega| (simp only[kk_,kj_,UInt64.reduceToNat];try omega))) only[↓Sx.S0,Sx.S1,Tryz.fx,xC_,Nat.reduceAdd,Nat.reducePow,Int.reducePow,Nat.reduceBEq, ↓reduceIte,UInt8.reduceToNat,UInt16.reduceToNat,UInt32.reduceToNat,UInt64.reduceToNat,Int.reduceToNat]
 first|with_reducible refine ks [] (And.intro @xC_ @ln) ?_|refine kp (And.intro @xC_ @ln) ?_
 refine Cw.loopG (G:=Nat) [9,10,5,11,12,13,14,15,16,17,4,18,8] (fun g=> [(8,vi g)]) (fun g=> [(b1, .cells (a8 x.l) 42 (0,0))]) (fun g=>g≤l.length∧idxG x l 0=idxG x (l.drop g) g) (fun g=>l.length - g) 0 rfl rfl ?_ ?_
 ·exact⟨Nat.zero_le _,rfl⟩
 ·intro k jk hk
  refine kv ?_
  obtain⟨h1,h2⟩:=hk
  by_cases hk:k<l.length
  ·have h0:0<l.length:=by omega
   have hbl:=hr.lt h0
   have hn1:b1≠b:=by omega
   have r2:=hr.has h0
   have i2:=hr.idx true k hk
   have l2:=QE_ hr hk
   rw[drop_cons (z:=id0) hk,afb_] at h2
   first|with_reducible refine ks [] @xC_ ?_|refine kp @xC_ ?_
   refine Cw.regionS [b1,b] [1,2,3,0,4,5] [] (by kernel_rfl) (by kernel_rfl) (by kernel_rfl) ?_
   refine kya ?_
   refine kq (And.intro @xC_ (And.intro @i2 (And.intro @r2 (@l2)))) ?_
   cases hq: (x.l==(l.getD k id0).l)
   ·rw[hq,if_neg (by simp)] at h2
    first|with_reducible refine ks [] (And.intro @xC_ @hq) ?_|refine kp (And.intro @xC_ @hq) ?_
    exact Again.mk (k+1) (by omega) ⟨hk,h2⟩ rfl rfl
   ·rw[hq,if_pos rfl] at h2
    rw[h2]
    first|with_reducible refine ks [] (And.intro @xC_ @hq) ?_|refine kp (And.intro @xC_ @hq) ?_
    refine⟨_,(ke @xC_),⟨hw1,trivial⟩, ?_⟩
    rfl
  ·obtain rfl:k=l.length:=by omega
   rw[List.drop_length] at h2
   rw[h2]
   first|with_reducible refine ks [] @xC_ ?_|refine kp @xC_ ?_
   refine⟨_,(ke @xC_),⟨hw1,trivial⟩, ?_⟩
   rfl
theorem kO_ (v:Value) (l:List IdL) (x:IdL) (w:World) (hv:IdS w v l) (hl:l.length<1000000):
  Rets Tryz.prog 65 #[v, .agg (a8 x.l)] w (fun v' D=>v'= .bool (l.any fun y=>x.l==y.l)∧D= []):=by
 refine Rets.enterV Tryz.func65 rfl (rs:= [.tmp 4]) Tryz.results65 Tryz.ntmps65 ?_
 refine kf ?_
 first|with_reducible refine ks [] @xC_ ?_|refine kp @xC_ ?_
 refine Ow.box rfl rfl fun b1 hb1 hw1=> ?_
 simp only[zw_,zC_,zB_,za_,List.nil_append,List.cons_append]
 refine Ow.go rfl ?_
 simp(disch:=(first|assumption|omega| (simp only[kk_,kj_,UInt64.reduceToNat];try omega))) only[↓Sx.S0,Sx.S1,Tryz.fx,xC_,Nat.reduceAdd,Nat.reducePow,Int.reducePow,Nat.reduceBEq, ↓reduceIte,UInt8.reduceToNat,UInt16.reduceToNat,UInt32.reduceToNat,UInt64.reduceToNat,Int.reduceToNat]
 first|with_reducible refine ks [] @xC_ ?_|refine kp @xC_ ?_
 refine Ow.callFV rfl Tryz.call103 (fun w' hw'=>KB_ v l x w' (hv.oldN hw' ⟨hw1,trivial⟩) hl) ?_
 refine ko @xC_ ?_
 refine⟨_,(ke @xC_),⟨hw1,trivial⟩, ?_⟩
 exact congrArg Value.bool (abw_ x l 0)
end Go.Proofs
end
section
open Go Go.Proofs Go.Sx Go.StP
namespace Go.Proofs
set_option maxRecDepth 10000
set_option maxHeartbeats 4000000
set_option linter.unusedSimpArgs false
structure ComL where
 tree:IdL
 par:List IdL
 text:List UInt8
def qQ_ (t:IdL) (p:Value) (x:List UInt8):List Value:=t.l.map v8++ ([p]++ [vs x])
theorem vx_ (t:IdL) (p:Value) (x:List UInt8): (qQ_ t p x).length=34:=by simp[qQ_,t.h]
theorem aiI_ (t:IdL) (p:Value) (x:List UInt8) (hp:Value.oneCell' p=true): (qQ_ t p x).all Value.oneCell'=true:=by
 unfold qQ_
 simp only[List.all_append,List.all_cons,List.all_nil,Jt_,hp,Bool.and_true,Bool.true_and]
 rfl
theorem wz_ (t:IdL) (p:Value) (x:List UInt8):Value.cells (.agg (qQ_ t p x).toArray)=(qQ_ t p x).toArray:=za_ _
theorem Vs_ (t:IdL) (p:Value) (x:List UInt8) (E:TypeId) (fz:Nat×Nat):zn_ (some (true,32)) (some (.cells (qQ_ t p x).toArray E fz)) 0=some (.agg (a8 t.l)):=by
 unfold qQ_;exact vB_ [] _ _ E fz rfl (by simp[t.h])
theorem Vw_ (t:IdL) (p:Value) (x:List UInt8) (n:Nat) (E:TypeId) (fz:Nat×Nat):zn_ (some (false,n)) (some (.cells (qQ_ t p x).toArray E fz)) 32=some p:=by
 unfold qQ_;exact kw_ _ _ p n E fz (by simp[t.h])
theorem V0_ (t:IdL) (p:Value) (x:List UInt8) (n:Nat) (E:TypeId) (fz:Nat×Nat):zn_ (some (false,n)) (some (.cells (qQ_ t p x).toArray E fz)) 33=some (vs x):=by
 have e:qQ_ t p x=(t.l.map v8++ [p])++ ([vs x]++ []):=by unfold qQ_;simp only[List.append_assoc,List.append_nil]
 rw[e];exact kw_ _ _ (vs x) n E fz (by simp[t.h])
theorem abb_ (t:IdL) (p:Value) (x:List UInt8) (E:TypeId) (fz:Nat×Nat):zn_ (some (true,34)) (some (.cells (qQ_ t p x).toArray E fz)) 0=some (.agg (qQ_ t p x).toArray):=xe_ _ E fz 34 (by rw[List.size_toArray,vx_])
theorem QU_ (old:Array Value) (t:IdL) (p:Value) (x:List UInt8) (a:Bool) (E:TypeId) (h:old.size=34) (hp:Value.oneCell' p=true):zi_ (some (a,34)) (some (.cells old E (0,0))) 0 (.agg (qQ_ t p x).toArray)=some (.cells (qQ_ t p x).toArray E (0,0)):=jO_ _ a old E (vx_ t p x) (aiI_ t p x hp) h
def v0_ (l:List IdL) (i:Nat):Bool:= !((l.take i).any fun y=>(l.getD i id0).l==y.l)
def vd_ (c:ComL):Bool:=(decide (c.par.length≤4)&&decide (c.text.length≤64))&& (List.range c.par.length).all (v0_ c.par)
theorem abS_ {c:ComL} {k:Nat} (hk:k<c.par.length) (h:v0_ c.par k=false):vd_ c=false:=by
 unfold vd_
 have: (List.range c.par.length).all (v0_ c.par)=false:=by
  rw[List.all_eq_false]
  exact⟨k,List.mem_range.2 hk,by simp[h]⟩
 rw[this,Bool.and_false]
theorem VY_ {c:ComL} (h: ∀i,i<c.par.length→v0_ c.par i=true):vd_ c=(decide (c.par.length≤4)&&decide (c.text.length≤64)):=by
 unfold vd_
 have: (List.range c.par.length).all (v0_ c.par)=true:=List.all_eq_true.2 fun i hi=>h i (List.mem_range.1 hi)
 rw[this,Bool.and_true]
abbrev ComS (w:World) (v:Value) (c:ComL):Prop:= ∃p,v= .agg (qQ_ c.tree p c.text).toArray∧IdS w p c.par
theorem SlV.one {α:Type} {m:Nat} {enc:α→List Value} {z:α} {w:World} {v:Value} {l:List α} (h:SlV m enc z w v l):Value.oneCell' v=true∧v.cells= #[v]:=by
 obtain⟨b,off,c,arr,E,fz,-,-,⟨rfl,-,-⟩ | ⟨rfl,-,-⟩⟩:=h<;>exact⟨rfl,rfl⟩
set_option linter.defProp false
def zZ_:=And.intro (And.intro (And.intro (@aiJ_) (@aj8_)) (And.intro (@kq_) (And.intro (@zv_) (@zu_)))) (And.intro (And.intro (@Vs_) (@Vw_)) (And.intro (@V0_) (And.intro (@abb_) (@wz_))))
theorem W6_ (v:Value) (c:ComL) (w:World) (hv:ComS w v c) (hl:c.par.length<1000000) (ht:c.text.length<1099511627776):
  Rets Tryz.prog 146 #[v] w (fun v' D=>v'= .bool (vd_ c)∧D= []):=by
 obtain⟨p,rfl,hp⟩:=hv
 obtain⟨b,off,arr,E,fz,hr⟩:=hp.row
 have ln:=hp.len
 refine Rets.enterV Tryz.func146 rfl (rs:= [.tmp 2]) Tryz.results146 Tryz.ntmps146 ?_
 refine kf ?_
 first|with_reducible refine ks [] @zZ_ ?_|refine kp @zZ_ ?_
 refine Ow.box rfl rfl fun bx hbx hwx=> ?_
 simp only[zw_,zC_,zB_,za_,List.nil_append,List.cons_append]
 refine Ow.go rfl ?_
 simp(disch:=(first|assumption|omega| (simp only[kk_,kj_,UInt64.reduceToNat];try omega))) only[↓Sx.S0,Sx.S1,Tryz.fx,zZ_,Nat.reduceAdd,Nat.reducePow,Int.reducePow,Nat.reduceBEq, ↓reduceIte,UInt8.reduceToNat,UInt16.reduceToNat,UInt32.reduceToNat,UInt64.reduceToNat,Int.reduceToNat]
 first|with_reducible refine ks [] (And.intro @zZ_ @ln) ?_|refine kp (And.intro @zZ_ @ln) ?_
 refine Cw.loopG (G:=Nat) [9,10,11,12,4,3,13,14,15,16,17,18,2,19,8] (fun g=> [(8,vi g)]) (fun g=> [(bx, .cells (qQ_ c.tree p c.text).toArray 98 (0,0))]) (fun g=>g≤c.par.length∧ ∀i,i<g→v0_ c.par i=true) (fun g=>c.par.length - g) 0 rfl rfl ?_ ?_
 ·exact⟨Nat.zero_le _,fun i hi=>absurd hi (Nat.not_lt_zero i)⟩
 ·intro k jk hk
  refine kv ?_
  obtain⟨h1,h2⟩:=hk
  by_cases hk:k<c.par.length
  ·have h0:0<c.par.length:=by omega
   have hbl:=hr.lt h0
   have hnb:bx≠b:=by omega
   have r2:=hr.has h0
   have i2:=hr.idx true k hk
   have l2:=QE_ hr hk
   obtain⟨v3,s3,hv3,-⟩:=hp.take (show k≤c.par.length by omega) true
   first|with_reducible refine ks [6] (And.intro @zZ_ (And.intro @i2 (And.intro @r2 (@l2)))) ?_|refine kp (And.intro @zZ_ (And.intro @i2 (And.intro @r2 (@l2)))) ?_
   refine Ow.alloc rfl rfl Tryz.zr42 fun b4 hb4 hw4=> ?_
   simp only[za_,List.nil_append,List.cons_append]
   obtain⟨h4,-⟩:=hb4
   have hxl:=(c.par.getD k id0).h
   refine ko @zZ_ ?_
   refine Cw.regionS [bx,b4] [0,2,1,3,4,5] [] (by kernel_rfl) (by kernel_rfl) (by kernel_rfl) ?_
   refine kya ?_
   refine kq (And.intro @zZ_ @s3) ?_
   refine Ow.callFV rfl Tryz.call65 (fun w' hw'=>kO_ v3 (c.par.take k) (c.par.getD k id0) w' (hv3.oldN hw' ⟨hwx,hw4,trivial⟩) (by rw[List.length_take];omega)) ?_
   cases hq: (c.par.take k).any fun y=>(c.par.getD k id0).l==y.l
   ·have e1:v0_ c.par k=true:=by unfold v0_;rw[hq];rfl
    refine kq @zZ_ ?_
    refine Cw.forgetN [(bx, .cells (qQ_ c.tree p c.text).toArray 98 (0,0))] (by exact⟨hwx,hw4,trivial⟩) (by intro p hp;simp only[List.mem_cons,List.not_mem_nil,or_false] at hp ⊢;all_goals (first| (rcases hp with rfl|hp<;>simp_all) | (subst hp;simp) |simp_all)) (by simp[keys]<;>omega) ?_
    first|with_reducible refine ks [] @zZ_ ?_|refine kp @zZ_ ?_
    exact Again.mk (k+1) (by omega) ⟨by omega,fun i hi=>by
     rcases Nat.lt_succ_iff_lt_or_eq.1 hi with h|rfl
     ·exact h2 i h
     ·exact e1⟩ rfl rfl
   ·have e1:v0_ c.par k=false:=by unfold v0_;rw[hq];rfl
    rw[abS_ hk e1]
    refine kq @zZ_ ?_
    refine⟨_,(ke @zZ_),⟨hwx,hw4,trivial⟩, ?_⟩
    rfl
  ·obtain rfl:k=c.par.length:=by omega
   rw[VY_ h2]
   by_cases h4:c.par.length≤4
   ·have d1:decide (((c.par.length:Nat):Int)≤4)=true:=decide_eq_true (by omega)
    first|with_reducible refine ks [] (And.intro @zZ_ (And.intro @ln (@d1))) ?_|refine kp (And.intro @zZ_ (And.intro @ln (@d1))) ?_
    refine⟨_,(ke @zZ_),⟨hwx,trivial⟩, ?_⟩
    rw[show decide (c.par.length≤4)=true from decide_eq_true h4,Bool.true_and];exact congrArg Value.bool (decide_eq_decide.2 (by omega))
   ·have d1:decide (((c.par.length:Nat):Int)≤4)=false:=decide_eq_false (by omega)
    first|with_reducible refine ks [] (And.intro @zZ_ (And.intro @ln (@d1))) ?_|refine kp (And.intro @zZ_ (And.intro @ln (@d1))) ?_
    refine⟨_,(ke @zZ_),⟨hwx,trivial⟩, ?_⟩
    rw[show decide (c.par.length≤4)=false from decide_eq_false h4];rfl
end Go.Proofs
end
section
open Go Go.Proofs Go.Sx Go.StP
namespace Go.Proofs
set_option maxRecDepth 10000
set_option maxHeartbeats 4000000
set_option linter.unusedSimpArgs false
set_option linter.defProp false
theorem aig_ {l:List IdL} {k:Nat} {x:IdL} (hk:k<l.length) (h: ((l.take k).any fun y=>x.l==y.l)=false) (h2: (x.l==(l.getD k id0).l)=false): ((l.take (k+1)).any fun y=>x.l==y.l)=false:=by
 rw[take_snoc (z:=id0) hk,List.any_append,h,Bool.false_or,List.any_cons,h2];rfl
theorem aky_ {l:List IdL} {k i:Nat} {x:IdL} (hk:k<l.length) (hi:k<i) (h2: (x.l==(l.getD k id0).l)=true): ((l.take i).any fun y=>x.l==y.l)=true:=by
 rw[List.any_eq_true]
 refine⟨l.getD k id0, ?_,h2⟩
 rw[←afh_ (l:=l) (z:=id0) hi]
 exact ZI_ (by rw[List.length_take];omega)
theorem Zu_ (v:Value) (c:ComL) (w:World) (hv:ComS w v c) (hl:c.par.length<1000000) (ht:c.text.length<1099511627776):
  Rets Tryz.prog 72 #[v] w (fun v' D=>v'= .bool (vd_ c)∧D= []):=by
 obtain⟨p,rfl,hp⟩:=hv
 obtain⟨b,off,arr,E,fz,hr⟩:=hp.row
 have ln:=hp.len
 refine Rets.enterV Tryz.func72 rfl (rs:= [.tmp 2]) Tryz.results72 Tryz.ntmps72 ?_
 refine kf ?_
 first|with_reducible refine ks [] @zZ_ ?_|refine kp @zZ_ ?_
 refine Ow.box rfl rfl fun bx hbx hwx=> ?_
 simp only[zw_,zC_,zB_,za_,List.nil_append,List.cons_append]
 refine Ow.go rfl ?_
 simp(disch:=(first|assumption|omega| (simp only[kk_,kj_,UInt64.reduceToNat];try omega))) only[↓Sx.S0,Sx.S1,Tryz.fx,zZ_,Nat.reduceAdd,Nat.reducePow,Int.reducePow,Nat.reduceBEq, ↓reduceIte,UInt8.reduceToNat,UInt16.reduceToNat,UInt32.reduceToNat,UInt64.reduceToNat,Int.reduceToNat]
 by_cases h4:4<c.par.length
 ·have d1:decide (4< ((c.par.length:Nat):Int))=true:=decide_eq_true (by omega)
  first|with_reducible refine ks [] (And.intro @zZ_ (And.intro @ln (@d1))) ?_|refine kp (And.intro @zZ_ (And.intro @ln (@d1))) ?_
  have:vd_ c=false:=by unfold vd_;rw[show decide (c.par.length≤4)=false from decide_eq_false (by omega)];rfl
  rw[this]
  refine⟨_,(ke @zZ_),⟨hwx,trivial⟩, ?_⟩
  rfl
 have d1:decide (4< ((c.par.length:Nat):Int))=false:=decide_eq_false (by omega)
 by_cases h64:64<c.text.length
 ·have d2:decide (64< ((c.text.length:Nat):Int))=true:=decide_eq_true (by omega)
  first|with_reducible refine ks [] (And.intro @zZ_ (And.intro @ln (And.intro @d1 (@d2)))) ?_|refine kp (And.intro @zZ_ (And.intro @ln (And.intro @d1 (@d2)))) ?_
  have:vd_ c=false:=by unfold vd_;rw[show decide (c.text.length≤64)=false from decide_eq_false (by omega),Bool.and_false];rfl
  rw[this]
  refine⟨_,(ke @zZ_),⟨hwx,trivial⟩, ?_⟩
  rfl
 have d2:decide (64< ((c.text.length:Nat):Int))=false:=decide_eq_false (by omega)
 first|with_reducible refine ks [] (And.intro @zZ_ (And.intro @ln (And.intro @d1 (@d2)))) ?_|refine kp (And.intro @zZ_ (And.intro @ln (And.intro @d1 (@d2)))) ?_
 refine Cw.loopG (G:=Nat) [15,16,17,18,19,4,22,23,24,27,28,29,30,31,32,33,34,35,36,37,2,25,26,20,21,3] (fun g=> [(3,vi g)]) (fun g=> [(bx, .cells (qQ_ c.tree p c.text).toArray 98 (0,0))]) (fun g=>g≤c.par.length∧ ∀i,i<g→v0_ c.par i=true) (fun g=>c.par.length - g) 0 rfl rfl ?_ ?_
 ·exact⟨Nat.zero_le _,fun i hi=>absurd hi (Nat.not_lt_zero i)⟩
 ·intro i ji hi
  refine kv ?_
  obtain⟨h1,h2⟩:=hi
  by_cases hi:i<c.par.length
  ·have h0:0<c.par.length:=by omega
   have hbl:=hr.lt h0
   have hnb:bx≠b:=by omega
   have r2:=hr.has h0
   have i2:=hr.idx true i hi
   have l2:=QE_ hr hi
   first|with_reducible refine ks [] (And.intro @zZ_ @ln) ?_|refine kp (And.intro @zZ_ @ln) ?_
   refine Cw.loopG (G:=Nat) [22,23,24,27,28,29,30,31,32,33,34,35,36,37,2,25,26,4] (fun g=> [(4,vi g)]) (fun g=> [(bx, .cells (qQ_ c.tree p c.text).toArray 98 (0,0))]) (fun g=>g≤i∧((c.par.take g).any fun y=>(c.par.getD i id0).l==y.l)=false) (fun g=>i - g) 0 rfl rfl ?_ ?_
   ·exact⟨Nat.zero_le _,rfl⟩
   ·intro k jk hk
    refine kv ?_
    obtain⟨g1,g2⟩:=hk
    by_cases hk:k<i
    ·have i3:=hr.idx true k (show k<c.par.length by omega)
     have l3:=QE_ hr (show k<c.par.length by omega)
     first|with_reducible refine ks [] @zZ_ ?_|refine kp @zZ_ ?_
     refine Cw.regionS [bx,b] [0,2,5,7,1,3,4,6,8,9,10] [] (by kernel_rfl) (by kernel_rfl) (by kernel_rfl) ?_
     refine kya ?_
     refine kq (And.intro @zZ_ (And.intro @i2 (And.intro @r2 (And.intro @l2 (And.intro @i3 (@l3)))))) ?_
     cases hq: ((c.par.getD i id0).l==(c.par.getD k id0).l)
     ·first|with_reducible refine ks [] (And.intro @zZ_ @hq) ?_|refine kp (And.intro @zZ_ @hq) ?_
      exact Again.mk (k+1) (by omega) ⟨by omega,aig_ (by omega) g2 hq⟩ rfl rfl
     ·have e1:v0_ c.par i=false:=by unfold v0_;rw[aky_ (by omega) hk hq];rfl
      rw[abS_ hi e1]
      first|with_reducible refine ks [] (And.intro @zZ_ @hq) ?_|refine kp (And.intro @zZ_ @hq) ?_
      refine⟨_,(ke @zZ_),⟨hwx,trivial⟩, ?_⟩
      rfl
    ·obtain rfl:k=i:=by omega
     have e1:v0_ c.par k=true:=by unfold v0_;rw[g2];rfl
     first|with_reducible refine ks [] @zZ_ ?_|refine kp @zZ_ ?_
     exact Again.mk (k+1) (by omega) ⟨by omega,fun i hi=>by
      rcases Nat.lt_succ_iff_lt_or_eq.1 hi with h|rfl
      ·exact h2 i h
      ·exact e1⟩ rfl rfl
  ·obtain rfl:i=c.par.length:=by omega
   rw[VY_ h2,show decide (c.par.length≤4)=true from decide_eq_true (by omega),show decide (c.text.length≤64)=true from decide_eq_true (by omega)]
   first|with_reducible refine ks [] (And.intro @zZ_ @ln) ?_|refine kp (And.intro @zZ_ @ln) ?_
   refine⟨_,(ke @zZ_),⟨hwx,trivial⟩, ?_⟩
   rfl
end Go.Proofs
end
section
open Go Go.Proofs Go.Sx
namespace Go.Proofs
set_option maxRecDepth 10000
set_option maxHeartbeats 4000000
set_option linter.unusedSimpArgs false
theorem kh_ {n:Nat} (h:n<1099511627776):zO_ (n:Int)=n:=by unfold zO_ maxN;omega
theorem k5_: ∀ (k:Nat) (n:Int) (w:World),zO_ n≤k→
  Rets Tryz.prog 106 #[vi n] w (fun v D=>v=vs (jM_ (zO_ n))∧D= []):=by
 intro k
 induction k using Nat.strongRecOn with
 |ind k ih=>
  intro n w hk
  refine Rets.enterV Tryz.func106 rfl (rs:= [.tmp 2]) Tryz.results106 Tryz.ntmps106 ?_
  refine kf ?_
  by_cases h0:n<0
  ·have d1:decide (n<0)=true:=decide_eq_true h0
   have e:zO_ n=0:=by unfold zO_ maxN;omega
   rw[e]
   first|with_reducible refine ks [] @d1 ?_|refine kp @d1 ?_
   refine Ow.buildSlice (e:=5) #[v8 0] rfl rfl (by kernel_rfl) fun b1 hb1 hw1=> ?_
   rw[show(#[v8 0]:Array Value)=a8 [0] from rfl]
   refine ko @Nat.add_zero ?_
   first|with_reducible refine ks [] @Nat.add_zero ?_|refine kp @Nat.add_zero ?_
   refine⟨_,(ke @Nat.add_zero),⟨hw1,trivial⟩, ?_⟩
   rw[qx_ (by omega)];rfl
  ·have d1:decide (n<0)=false:=decide_eq_false h0
   generalize hm:zO_ n=m at hk ⊢
   have hm2:m≤1099511627775:=by unfold zO_ maxN at hm;omega
   by_cases h1:n>1099511627775
   ·have d2:decide (1099511627775<n)=true:=decide_eq_true h1
    have e: (1099511627775:Int)=(m:Int):=by unfold zO_ maxN at hm;omega
    first|with_reducible refine ks [5] (And.intro @d1 @d2) ?_|refine kp (And.intro @d1 @d2) ?_
    rw[e]
    by_cases h2:m<128
    ·have d3:decide ((m:Int)<128)=true:=decide_eq_true (by omega)
     rw[qx_ h2]
     first|with_reducible refine ks [] (And.intro @d1 @d3) ?_|refine kp (And.intro @d1 @d3) ?_
     generalize hc:UInt8.ofInt (m:Int)=c
     have hc':c=UInt8.ofNat m:=by rw[←hc,vv_]
     refine Ow.buildSlice (e:=5) #[v8 c] rfl rfl (by kernel_rfl) fun b1 hb1 hw1=> ?_
     rw[show(#[v8 c]:Array Value)=a8 [c] from rfl]
     have e4:List.take 1 (List.drop 0 [c])= [c]:=rfl
     refine ko @e4 ?_
     first|with_reducible refine ks [] @Nat.add_zero ?_|refine kp @Nat.add_zero ?_
     refine⟨_,(ke @Nat.add_zero),⟨hw1,trivial⟩, ?_⟩
     rw[hc'];rfl
    ·have d3:decide ((m:Int)<128)=false:=decide_eq_false (by omega)
     have ih2:=fun w=>ih (m / 128) (by omega) ((m / 128:Nat):Int) w (by rw[kh_ (by omega)];omega)
     rw[kh_ (by omega)] at ih2
     have hl2:=jS_ 6 (m / 128) (by omega) (by omega)
     rw[kr_ h2]
     first|with_reducible refine ks [] (And.intro @d1 @d3) ?_|refine kp (And.intro @d1 @d3) ?_
     refine Cw.regionK 11 (by kernel_rfl) (by kernel_rfl) ?_
     refine OwK.run [0,1,2,3,6,7] [true,true,true,true,false,false,true,true,false,false,false] 5 rfl (by kernel_rfl) (by kernel_rfl) fun k hk=> ?_
     refine kya ?_
     simp(disch:=(first|assumption|omega| (simp only[kk_,kj_,UInt64.reduceToNat];try omega))) only[↓Sx.S0,Sx.S1,Tryz.fx,Nat.reduceAdd,Nat.reducePow,Int.reducePow,Nat.reduceBEq, ↓reduceIte,UInt8.reduceToNat,UInt16.reduceToNat,UInt32.reduceToNat,UInt64.reduceToNat,Int.reduceToNat]
     (with_reducible refine hk _ _ _ ?_);clear hk k
     generalize hc:UInt8.ofInt ((m:Int)%128+128)=c
     have hc':c=UInt8.ofNat (m%128+128):=by rw[←hc,show((m:Int)%128+128)=((m%128+128:Nat):Int) from rfl,vv_]
     rw[show(m:Int) / 128=((m / 128:Nat):Int) from rfl]
     refine OwK.two 4 8 _ _ (by kernel_rfl) rfl rfl ?_ ?_
     ·refine Ow.buildSlice (e:=5) #[v8 c] rfl rfl (by kernel_rfl) fun b1 hb1 hw1=> ?_
      rw[show(#[v8 c]:Array Value)=a8 [c] from rfl]
      have e4:List.take 1 (List.drop 0 [c])= [c]:=rfl
      refine ko @e4 ?_
      try with_reducible refine Ow.nil ?_
      refine OwK.two 5 8 _ _ (by kernel_rfl) rfl rfl ?_ ?_
      ·refine ko @e4 ?_
       refine OwK.rest [8,9,10] [4,8] rfl (by kernel_rfl) (by kernel_rfl) ?_
       refine kya ?_
       refine Ow.callFV rfl Tryz.call106 (fun w' hw'=>ih2 w') ?_
       refine ko @Nat.add_zero ?_
       first|with_reducible refine ks [] @Nat.add_zero ?_|refine kp @Nat.add_zero ?_
       refine⟨_,(ke @Nat.add_zero),⟨hw1,trivial⟩, ?_⟩
       rw[hc'];rfl
      ·refine Ow.callFV rfl Tryz.call106 (fun w' hw'=>ih2 w') ?_
       refine ko @Nat.add_zero ?_
       refine OwK.rest [5,9,10] [4,8] rfl (by kernel_rfl) (by kernel_rfl) ?_
       refine kya ?_
       refine ko @e4 ?_
       first|with_reducible refine ks [] @Nat.add_zero ?_|refine kp @Nat.add_zero ?_
       refine⟨_,(ke @Nat.add_zero),⟨hw1,trivial⟩, ?_⟩
       rw[hc'];rfl
     ·refine Ow.callFV rfl Tryz.call106 (fun w' hw'=>ih2 w') ?_
      refine ko @Nat.add_zero ?_
      refine OwK.rest [4,5,9,10] [4,8] rfl (by kernel_rfl) (by kernel_rfl) ?_
      refine kya ?_
      refine Ow.buildSlice (e:=5) #[v8 c] rfl rfl (by kernel_rfl) fun b1 hb1 hw1=> ?_
      rw[show(#[v8 c]:Array Value)=a8 [c] from rfl]
      have e4:List.take 1 (List.drop 0 [c])= [c]:=rfl
      refine ko @e4 ?_
      first|with_reducible refine ks [] @Nat.add_zero ?_|refine kp @Nat.add_zero ?_
      refine⟨_,(ke @Nat.add_zero),⟨hw1,trivial⟩, ?_⟩
      rw[hc'];rfl
   ·have d2:decide (1099511627775<n)=false:=decide_eq_false h1
    have e:n=(m:Int):=by unfold zO_ maxN at hm;omega
    subst e
    first|with_reducible refine ks [5] (And.intro @d1 @d2) ?_|refine kp (And.intro @d1 @d2) ?_
    by_cases h2:m<128
    ·have d3:decide ((m:Int)<128)=true:=decide_eq_true (by omega)
     rw[qx_ h2]
     first|with_reducible refine ks [] (And.intro @d1 @d3) ?_|refine kp (And.intro @d1 @d3) ?_
     generalize hc:UInt8.ofInt (m:Int)=c
     have hc':c=UInt8.ofNat m:=by rw[←hc,vv_]
     refine Ow.buildSlice (e:=5) #[v8 c] rfl rfl (by kernel_rfl) fun b1 hb1 hw1=> ?_
     rw[show(#[v8 c]:Array Value)=a8 [c] from rfl]
     have e4:List.take 1 (List.drop 0 [c])= [c]:=rfl
     refine ko @e4 ?_
     first|with_reducible refine ks [] @Nat.add_zero ?_|refine kp @Nat.add_zero ?_
     refine⟨_,(ke @Nat.add_zero),⟨hw1,trivial⟩, ?_⟩
     rw[hc'];rfl
    ·have d3:decide ((m:Int)<128)=false:=decide_eq_false (by omega)
     have ih2:=fun w=>ih (m / 128) (by omega) ((m / 128:Nat):Int) w (by rw[kh_ (by omega)];omega)
     rw[kh_ (by omega)] at ih2
     have hl2:=jS_ 6 (m / 128) (by omega) (by omega)
     rw[kr_ h2]
     first|with_reducible refine ks [] (And.intro @d1 @d3) ?_|refine kp (And.intro @d1 @d3) ?_
     refine Cw.regionK 11 (by kernel_rfl) (by kernel_rfl) ?_
     refine OwK.run [0,1,2,3,6,7] [true,true,true,true,false,false,true,true,false,false,false] 5 rfl (by kernel_rfl) (by kernel_rfl) fun k hk=> ?_
     refine kya ?_
     simp(disch:=(first|assumption|omega| (simp only[kk_,kj_,UInt64.reduceToNat];try omega))) only[↓Sx.S0,Sx.S1,Tryz.fx,Nat.reduceAdd,Nat.reducePow,Int.reducePow,Nat.reduceBEq, ↓reduceIte,UInt8.reduceToNat,UInt16.reduceToNat,UInt32.reduceToNat,UInt64.reduceToNat,Int.reduceToNat]
     (with_reducible refine hk _ _ _ ?_);clear hk k
     generalize hc:UInt8.ofInt ((m:Int)%128+128)=c
     have hc':c=UInt8.ofNat (m%128+128):=by rw[←hc,show((m:Int)%128+128)=((m%128+128:Nat):Int) from rfl,vv_]
     rw[show(m:Int) / 128=((m / 128:Nat):Int) from rfl]
     refine OwK.two 4 8 _ _ (by kernel_rfl) rfl rfl ?_ ?_
     ·refine Ow.buildSlice (e:=5) #[v8 c] rfl rfl (by kernel_rfl) fun b1 hb1 hw1=> ?_
      rw[show(#[v8 c]:Array Value)=a8 [c] from rfl]
      have e4:List.take 1 (List.drop 0 [c])= [c]:=rfl
      refine ko @e4 ?_
      try with_reducible refine Ow.nil ?_
      refine OwK.two 5 8 _ _ (by kernel_rfl) rfl rfl ?_ ?_
      ·refine ko @e4 ?_
       refine OwK.rest [8,9,10] [4,8] rfl (by kernel_rfl) (by kernel_rfl) ?_
       refine kya ?_
       refine Ow.callFV rfl Tryz.call106 (fun w' hw'=>ih2 w') ?_
       refine ko @Nat.add_zero ?_
       first|with_reducible refine ks [] @Nat.add_zero ?_|refine kp @Nat.add_zero ?_
       refine⟨_,(ke @Nat.add_zero),⟨hw1,trivial⟩, ?_⟩
       rw[hc'];rfl
      ·refine Ow.callFV rfl Tryz.call106 (fun w' hw'=>ih2 w') ?_
       refine ko @Nat.add_zero ?_
       refine OwK.rest [5,9,10] [4,8] rfl (by kernel_rfl) (by kernel_rfl) ?_
       refine kya ?_
       refine ko @e4 ?_
       first|with_reducible refine ks [] @Nat.add_zero ?_|refine kp @Nat.add_zero ?_
       refine⟨_,(ke @Nat.add_zero),⟨hw1,trivial⟩, ?_⟩
       rw[hc'];rfl
     ·refine Ow.callFV rfl Tryz.call106 (fun w' hw'=>ih2 w') ?_
      refine ko @Nat.add_zero ?_
      refine OwK.rest [4,5,9,10] [4,8] rfl (by kernel_rfl) (by kernel_rfl) ?_
      refine kya ?_
      refine Ow.buildSlice (e:=5) #[v8 c] rfl rfl (by kernel_rfl) fun b1 hb1 hw1=> ?_
      rw[show(#[v8 c]:Array Value)=a8 [c] from rfl]
      have e4:List.take 1 (List.drop 0 [c])= [c]:=rfl
      refine ko @e4 ?_
      first|with_reducible refine ks [] @Nat.add_zero ?_|refine kp @Nat.add_zero ?_
      refine⟨_,(ke @Nat.add_zero),⟨hw1,trivial⟩, ?_⟩
      rw[hc'];rfl
theorem x0_ (s:List UInt8) (w:World) (hs:s.length<1099511627776):
  Rets Tryz.prog 76 #[vs s] w (fun v D=>v=vs (js_ s)∧D= []):=by
 have hnl:=zD_ (s.length:Int)
 refine Rets.enterV Tryz.func76 rfl (rs:= [.tmp 2]) Tryz.results76 Tryz.ntmps76 ?_
 refine kf ?_
 first|with_reducible refine ks [] @Nat.add_zero ?_|refine kp @Nat.add_zero ?_
 refine Ow.callFV rfl Tryz.call106 (fun w' hw'=>k5_ _ _ w' (Nat.le_refl _)) ?_
 refine ko @Nat.add_zero ?_
 first|with_reducible refine ks [] @Nat.add_zero ?_|refine kp @Nat.add_zero ?_
 refine⟨_,(ke @Nat.add_zero),trivial, ?_⟩
 rfl
theorem Kn_ (x:IdL) (w:World):
  Rets Tryz.prog 107 #[.agg (a8 x.l)] w (fun v D=>v=vs x.l∧D= []):=by
 have hxl:=x.h
 refine Rets.enterV Tryz.func107 rfl (rs:= [.tmp 2]) Tryz.results107 Tryz.ntmps107 ?_
 refine kf ?_
 first|with_reducible refine ks [] @Nat.add_zero ?_|refine kp @Nat.add_zero ?_
 refine Ow.box rfl rfl fun bx hbx hwx=> ?_
 simp only[zw_,zC_,zB_,za_,List.nil_append,List.cons_append]
 refine Ow.go rfl ?_
 simp(disch:=(first|assumption|omega| (simp only[kk_,kj_,UInt64.reduceToNat];try omega))) only[↓Sx.S0,Sx.S1,Tryz.fx,Nat.reduceAdd,Nat.reducePow,Int.reducePow,Nat.reduceBEq, ↓reduceIte,UInt8.reduceToNat,UInt16.reduceToNat,UInt32.reduceToNat,UInt64.reduceToNat,Int.reduceToNat]
 have e4:List.take 32 (List.drop 0 x.l)=x.l:=by rw[List.drop_zero,List.take_of_length_le (by omega)]
 first|with_reducible refine ks [] @e4 ?_|refine kp @e4 ?_
 refine⟨_,(ke @Nat.add_zero),⟨hwx,trivial⟩, ?_⟩
 rfl
end Go.Proofs
end
section
open Go Go.Proofs Go.Sx Go.StP
namespace Go.Proofs
set_option maxRecDepth 10000
set_option maxHeartbeats 400000
set_option linter.unusedSimpArgs false
set_option linter.defProp false
def entB (e:EntL):List UInt8:=(jM_ (zO_ e.kind)++js_ e.name)++e.id.l
def xQ_ (l:List EntL):List UInt8:=(l.map entB).flatten
theorem JP_ {l:List EntL} {k:Nat} (hk:k<l.length):xQ_ (l.take (k+1))=xQ_ (l.take k)++entB (l.getD k jf_):=by
 unfold xQ_
 rw[List.take_succ_eq_append_getElem hk,List.map_append,List.flatten_append,List.getD_eq_getElem?_getD,List.getElem?_eq_getElem hk]
 simp
theorem aaI_ {l:List EntL} {k:Nat} (hk:k<l.length):xQ_ (l.take (k+1))=xQ_ (l.take k)++jM_ (zO_ (l.getD k jf_).kind)++js_ (l.getD k jf_).name++ (l.getD k jf_).id.l:=by
 rw[JP_ hk];simp only[entB,List.append_assoc]
theorem ke_ {s:List UInt8} (h:s.length<1099511627776): (js_ s).length<1099511627783:=by
 have:=zD_ (s.length:Int)
 unfold js_;rw[List.length_append];omega
theorem Vu_ {l:List EntL} (hsh:K0_ l): ∀k,k≤l.length→(xQ_ (l.take k)).length≤k*1099511627830
 |0,_=>by simp[xQ_]
 |k+1,hk=>by
  have ih:=Vu_ hsh k (by omega)
  have h1:=ke_ (hsh k hk)
  have h2:=zD_ (l.getD k jf_).kind
  have h3:=(l.getD k jf_).id.h
  rw[JP_ hk]
  unfold entB
  simp only[List.length_append]
  omega
theorem Xv_ (v:Value) (l:List EntL) (w:World) (hv:EntS w v l) (hl:l.length<1000000) (hsh:K0_ l):
  Rets Tryz.prog 71 #[v] w (fun v' D=>v'=vs (xQ_ l)∧D= []):=by
 obtain⟨b,off,arr,E,fz,hr⟩:=hv.row
 have ln:=hv.len
 refine Rets.enterV Tryz.func71 rfl (rs:= [.tmp 2]) Tryz.results71 Tryz.ntmps71 ?_
 refine kf ?_
 first|with_reducible refine ks [] (And.intro @zY_ @ln) ?_|refine kp (And.intro @zY_ @ln) ?_
 refine Cw.loopG (G:=Nat) [5,6,7,8,11,12,13,14,15,16,17,18,19,20,21,22,23,24,25,26,27,28,29,30,31,32,3,9,10,4] (fun g=> [(3,vs (xQ_ (l.take g))),(4,vi g)]) (fun g=> []) (fun g=>g≤l.length) (fun g=>l.length - g) 0 rfl rfl ?_ ?_
 ·exact Nat.zero_le _
 ·intro k jk hk
  refine kv ?_
  have h1:k≤l.length:=hk
  clear hk
  by_cases hk:k<l.length
  ·have h0:0<l.length:=by omega
   have hbl:=hr.lt h0
   have r2:=hr.has h0
   have i2:=hr.idx true k hk
   have m0: ∀n,zn_ (some (false,n)) (some (.cells arr E fz)) (off+k*34)=some (vs (l.getD k jf_).name):=fun n=>wr_ hr hk n
   have m1: ∀n,zn_ (some (false,n)) (some (.cells arr E fz)) (off+k*34+1)=some (vi (l.getD k jf_).kind):=fun n=>ab6_ hr hk n
   have m2:zn_ (some (true,32)) (some (.cells arr E fz)) (off+k*34+2)=some (.agg (a8 (l.getD k jf_).id.l)):=ahc_ hr hk
   have hs:=hsh k hk
   have t1:=Vu_ hsh k h1
   have t2:=ke_ hs
   have t3:=zD_ (l.getD k jf_).kind
   have t4:=(l.getD k jf_).id.h
   first|with_reducible refine ks [] (And.intro @zY_ @ln) ?_|refine kp (And.intro @zY_ @ln) ?_
   refine Cw.regionS [b] [0,1,2,3,4,8,9,10,11,15,16,17,18,5,12,19,6,7,13,14,20,21,22] [] (by kernel_rfl) (by kernel_rfl) (by kernel_rfl) ?_
   refine kya ?_
   refine kq (And.intro @zY_ (And.intro @r2 (And.intro @i2 (And.intro @m0 (And.intro @m1 (@m2)))))) ?_
   refine Ow.callFV rfl Tryz.call106 (fun w' hw'=>k5_ _ _ w' (Nat.le_refl _)) ?_
   refine kq (And.intro @zY_ (And.intro @r2 (And.intro @i2 (And.intro @m0 (And.intro @m1 (@m2)))))) ?_
   refine Ow.callFV rfl Tryz.call76 (fun w' hw'=>x0_ _ w' hs) ?_
   refine kq (And.intro @zY_ (And.intro @r2 (And.intro @i2 (And.intro @m0 (And.intro @m1 (@m2)))))) ?_
   refine Ow.callFV rfl Tryz.call107 (fun w' hw'=>Kn_ _ w') ?_
   refine kq (And.intro @zY_ (And.intro @r2 (And.intro @i2 (And.intro @m0 (And.intro @m1 (@m2)))))) ?_
   exact Again.mk (k+1) (by omega) (by omega) rfl (by rw[aaI_ hk];rfl)
  ·obtain rfl:k=l.length:=by omega
   first|with_reducible refine ks [] (And.intro @zY_ @ln) ?_|refine kp (And.intro @zY_ @ln) ?_
   refine⟨_,(ke @zY_),trivial, ?_⟩
   rw[List.take_length];rfl
def idsB (l:List IdL):List UInt8:=(l.map IdL.l).flatten
theorem ad7_ {l:List IdL} {k:Nat} (hk:k<l.length):idsB (l.take (k+1))=idsB (l.take k)++ (l.getD k id0).l:=by
 unfold idsB
 rw[List.take_succ_eq_append_getElem hk,List.map_append,List.flatten_append,List.getD_eq_getElem?_getD,List.getElem?_eq_getElem hk]
 simp
theorem abt_: ∀ (l:List IdL),(idsB l).length=l.length*32
 | []=>rfl
 |x::r=>by
  have h:=abt_ r
  have:=x.h
  unfold idsB at h ⊢
  rw[List.map_cons,List.flatten_cons,List.length_append,h,List.length_cons]
  omega
def WO_ (c:ComL):List UInt8:=c.tree.l++jM_ (zO_ c.par.length)
def comB (c:ComL):List UInt8:=WO_ c++idsB c.par++js_ c.text
set_option linter.defProp false
theorem QL_ (v:Value) (c:ComL) (w:World) (hv:ComS w v c) (hl:c.par.length<1000000) (ht:c.text.length<1099511627776):
  Rets Tryz.prog 73 #[v] w (fun v' D=>v'=vs (comB c)∧D= []):=by
 obtain⟨p,rfl,hp⟩:=hv
 obtain⟨b,off,arr,E,fz,hr⟩:=hp.row
 have ln:=hp.len
 have t2:=ke_ ht
 have t3:=zD_ (c.par.length:Int)
 have t4:=c.tree.h
 have t5: (WO_ c).length≤38:=by unfold WO_;rw[List.length_append];omega
 refine Rets.enterV Tryz.func73 rfl (rs:= [.tmp 2]) Tryz.results73 Tryz.ntmps73 ?_
 refine kf ?_
 first|with_reducible refine ks [] @zZ_ ?_|refine kp @zZ_ ?_
 refine Ow.box rfl rfl fun bx hbx hwx=> ?_
 simp only[zw_,zC_,zB_,za_,List.nil_append,List.cons_append]
 refine Ow.go rfl ?_
 simp(disch:=(first|assumption|omega| (simp only[kk_,kj_,UInt64.reduceToNat];try omega))) only[↓Sx.S0,Sx.S1,Tryz.fx,zZ_,Nat.reduceAdd,Nat.reducePow,Int.reducePow,Nat.reduceBEq, ↓reduceIte,UInt8.reduceToNat,UInt16.reduceToNat,UInt32.reduceToNat,UInt64.reduceToNat,Int.reduceToNat]
 first|with_reducible refine ks [] (And.intro @zZ_ @ln) ?_|refine kp (And.intro @zZ_ @ln) ?_
 refine Cw.regionS [bx] [0,3,1,4,5,2,6,7,8] [] (by kernel_rfl) (by kernel_rfl) (by kernel_rfl) ?_
 refine kya ?_
 refine kq (And.intro @zZ_ @ln) ?_
 refine Ow.callFV rfl Tryz.call107 (fun w' hw'=>Kn_ _ w') ?_
 refine kq (And.intro @zZ_ @ln) ?_
 refine Ow.callFV rfl Tryz.call106 (fun w' hw'=>k5_ _ _ w' (Nat.le_refl _)) ?_
 refine kq (And.intro @zZ_ @ln) ?_
 rw[show c.tree.l++jM_ (zO_ c.par.length)=WO_ c++idsB (c.par.take 0) by simp[WO_,idsB]]
 refine Cw.loopG (G:=Nat) [13,14,15,16,17,20,21,22,23,24,25,26,27,3,18,19,4] (fun g=> [(3,vs (WO_ c++idsB (c.par.take g))),(4,vi g)]) (fun g=> [(bx, .cells (qQ_ c.tree p c.text).toArray 98 (0,0))]) (fun g=>g≤c.par.length) (fun g=>c.par.length - g) 0 rfl rfl ?_ ?_
 ·exact Nat.zero_le _
 ·intro k jk hk
  refine kv ?_
  have h1:k≤c.par.length:=hk
  clear hk
  have t6:=abt_ (c.par.take k)
  rw[List.length_take,Nat.min_eq_left h1] at t6
  by_cases hk:k<c.par.length
  ·have h0:0<c.par.length:=by omega
   have hbl:=hr.lt h0
   have hnb:bx≠b:=by omega
   have r2:=hr.has h0
   have i2:=hr.idx true k hk
   have l2:=QE_ hr hk
   have hxl:=(c.par.getD k id0).h
   first|with_reducible refine ks [] (And.intro @zZ_ (And.intro @ln (And.intro @r2 (And.intro @i2 (@l2))))) ?_|refine kp (And.intro @zZ_ (And.intro @ln (And.intro @r2 (And.intro @i2 (@l2))))) ?_
   refine Ow.callFV rfl Tryz.call107 (fun w' hw'=>Kn_ _ w') ?_
   refine ko (And.intro @zZ_ (And.intro @ln (And.intro @r2 (And.intro @i2 (@l2))))) ?_
   exact Again.mk (k+1) (by omega) (by omega) rfl (by rw[ad7_ hk,←List.append_assoc];rfl)
  ·obtain rfl:k=c.par.length:=by omega
   rw[List.take_length]
   rw[List.take_length] at t6
   first|with_reducible refine ks [] (And.intro @zZ_ @ln) ?_|refine kp (And.intro @zZ_ @ln) ?_
   refine Ow.callFV rfl Tryz.call76 (fun w' hw'=>x0_ _ w' ht) ?_
   refine ko @zZ_ ?_
   refine⟨_,(ke @zZ_),⟨hwx,trivial⟩, ?_⟩
   rfl
end Go.Proofs
end
section
open Go Go.Proofs Go.Sx Go.StP
namespace Go.Proofs
set_option maxRecDepth 10000
set_option maxHeartbeats 400000
set_option linter.unusedSimpArgs false
instance:DecidableEq EntL:=fun a b=>if h:a.name=b.name∧a.kind=b.kind∧a.id.l=b.id.l then .isTrue (by cases a;cases b;simp only at h;obtain⟨rfl,rfl,h3⟩:=h;rw[IdL.ext' h3]) else .isFalse (fun e=>h (by rw[e];exact⟨rfl,rfl,rfl⟩))
theorem EntL.ext' {a b:EntL} (h: (a.name==b.name&&a.kind==b.kind&&a.id.l==b.id.l)=true):a=b:=by
 simp only[Bool.and_eq_true,beq_iff_eq] at h
 cases a;cases b;simp only at h;obtain⟨⟨rfl,rfl⟩,h3⟩:=h;rw[IdL.ext' h3]
set_option linter.defProp false
end Go.Proofs
end
namespace Go.Sx
open Go
section
variable {α:Type} {m:Nat} {enc:α→List Value} {z:α} {w:World} {v:Value} {l:List α}
end
section
variable {P:Program} {w0:World} {f:Fr} {L:zb_} {N:Fr→zb_→Prop} {ops:Array Oper} {rest:List Oper} {md:Md} {d:Option Tmp} {ty:TypeId} {ps:String} {af:Array Edge} {g:Option (Nat×Bool)}
theorem Ow.callFnX {x y:Operand} {b:Value} {ts:Array TypeId} {k:FuncId} {X Y:zb_} {S:Value→zb_→Prop} {md':Md} (hL:L=X++Y) (he:md.turn=some md')
  (hs:zf_ ops f ⟨d, .call ⟨.value x, #[y],ts⟩,ty,ps,af,g⟩=false)
  (hx:ev f x= .func (.func k) #[] #[]) (hy:ev f y=b)
  (hk: ∀a w,(callFunc k a).run P w= .ok (.enter k a) w)
  (hc: ∀w,Hp w0 L w→(∀p,p∈X→w.heap[p.1]? =some p.2)→(keys X).Nodup→Rets P k #[b] w (XS w X S))
  (hn: ∀v D,Came w0 L X D→S v D→Ow P w0 ops md' rest (qg_ f d v) (D++Y) N):
  Ow P w0 ops md (⟨d, .call ⟨.value x, #[y],ts⟩,ty,ps,af,g⟩::rest) f L N:=by
 subst hL
 have hnd: ∀w,Hp w0 (X++Y) w→(keys X).Nodup∧ ∀c,c∈keys Y→c∉keys X:=by
  intro w hw
  have:=hw.nodup
  rw[zd_,List.nodup_append] at this
  exact⟨this.1,fun c hc hx=>this.2.2 c hx c hc rfl⟩
 refine Ow.call (S:=fun B v D=>((∀c,c∈keys D→c∈keys X∨B≤c)∧(∀c,c∈keys X→c∈keys D)∧S v D)∧ ∃w,Hp w0 (X++Y) w∧w.heap.size=B) he hs hx hk (fun w hw=> ?_) ?_
 ·show Rets P k (#[]++ #[y].map (ev f)++ #[]) w _
  rw[show(#[]++ #[y].map (ev f)++ #[]:Array Value)= #[b] by simp[hy]]
  refine Calls.mono (hc w hw (fun p hp=>hw.has _ _ (List.mem_append_left _ hp)) (hnd w hw).1) ?_
  rintro e w' ⟨v,D,he,hp,hS⟩
  exact⟨v,D,he,hp,⟨hS.1.new,hS.1.all,hS.2⟩,w,hw,rfl⟩
 ·rintro B v D hab hB ⟨⟨h1,h2,h3⟩,w1,hw1,hwB⟩
  refine⟨D++Y, ?_,hn v D ⟨fun c hc=>(h1 c hc).imp id fun h=>⟨qf_ fun b hb=>by have:=hw1.lt hb;omega,by have:=hw1.size;omega⟩,h2⟩ h3⟩
  intro w w' hwb h k
  have ht:=h.trans k
  have hY: ∀c,c∈keys Y→c∉keys D:=by
   intro c hc hd
   rcases h1 c hd with hx|hx
   ·exact(hnd w h).2 c hc hx
   ·have:=h.lt (b:=c) (by rw[zd_];exact List.mem_append_right _ hc)
    omega
  have e1:X.filter (fun p=> !(keys D).contains p.1)= []:=by
   rw[List.filter_eq_nil_iff]
   intro p hp
   have:=h2 p.1 (List.mem_map.2 ⟨p,hp,rfl⟩)
   simpa using this
  have e2:Y.filter (fun p=> !(keys D).contains p.1)=Y:=q1_ hY
  rw[List.filter_append,e1,e2,List.nil_append] at ht
  refine ht.same (fun p=>by simp[or_comm]) ?_
  have:=ht.nodup
  rw[zd_] at this ⊢
  exact(List.perm_append_comm.nodup_iff).1 this
end
section
variable {P:Program} {w0:World} {f:Fr} {L:zb_} {K:xf_}
theorem Cw.world {c:Code} (h: ∀w,Hp w0 L w→Cw P w0 c f L K):Cw P w0 c f L K:=fun w hw=>h w hw w hw
theorem Gr.read {E:TypeId} {m n:Nat} {v:Value} {cs:List Value} (h:Gr L E m v n cs) {b:Nat} (hb:slB v=some b) {w:World} (hw:Hp w0 L w) {o:Obj} (ho:w.heap[b]? =some o):zk_ w0 L b=some o:=by
 obtain⟨a,ha⟩:=h.at_ hb
 rw[hw.has _ _ (zF_ ha)] at ho
 rw[zo_ ha];exact ho
end
end Go.Sx
section
open Go Go.Proofs Go.Sx Go.StP
namespace Go.Proofs
set_option maxRecDepth 10000
set_option maxHeartbeats 400000
set_option linter.unusedSimpArgs false
set_option linter.defProp false
end Go.Proofs
end
section
open Go Go.Proofs Go.Sx Go.StP
namespace Go.Proofs
set_option maxRecDepth 10000
set_option maxHeartbeats 400000
set_option linter.unusedSimpArgs false
def vF_ (l:List UInt8):IdL:=if h:l.length=32 then⟨l,h⟩ else id0
theorem ko_ {l:List UInt8} (h:l.length=32): (vF_ l).l=l:=by unfold vF_;rw[dif_pos h]
theorem v9_ (s:List UInt8) (a:Nat) (e:Int): (idR s a e).1.length=32:=by
 unfold idR
 simp only
 split
 ·assumption
 ·simp[z32]
theorem JY_ {s:List UInt8} {a:Nat} {e:Int} (ha:a≤s.length):a≤ (idR s a e).2.1∧(idR s a e).2.1≤s.length:=kl_ ha
theorem xL_ {s:List UInt8} {a:Nat} {e most:Int} (ha:a≤s.length):a≤ (zS_ s a e most).2.1∧(zS_ s a e most).2.1≤s.length:=by
 have hp:=qd_ (e:=e) (most:=most) ha
 have hq:=kl_ (e:=(zr_ s a e most).2.2) (n:=(zr_ s a e most).1) hp.2
 unfold zS_
 simp only
 split
 ·exact⟨Nat.le_refl _,ha⟩
 ·exact⟨by omega,hq.2⟩
theorem ZV_ (s:List UInt8) (a:Nat) (e most:Int): (zS_ s a e most).1.length≤s.length:=by
 have: ∀ (b:Nat) (e n:Int),(q8_ s b e n).1.length≤s.length:=by
  intro b e n
  unfold q8_
  split
  ·simp
  ·split
   ·simp
   ·split
    ·simp
    ·simp only[List.length_take,List.length_drop];omega
 unfold zS_
 simp only
 split
 ·simp
 ·exact this _ _ _
theorem Xb_ {s:List UInt8} {a:Nat} {e n:Int} (he:e≠0): (q8_ s a e n).2=(a,e):=by unfold q8_;rw[if_pos he]
theorem QK_ {s:List UInt8} {a:Nat} {e most:Int} (he:e≠0): (zr_ s a e most).2=(a,e):=by unfold zr_;rw[if_pos he]
theorem Kb_ {s:List UInt8} {a:Nat} {e most:Int} (he:e≠0): (zS_ s a e most).2=(a,e):=by
 unfold zS_
 simp only[QK_ he,Xb_ he]
 rw[if_pos he]
theorem aeM_ {s:List UInt8} {a:Nat} {e:Int} (he:e≠0): (idR s a e).2=(a,e):=by unfold idR;simp only[Xb_ he]
theorem afH_ {s:List UInt8} {a:Nat} {e n:Int} (h:e≠5): (q8_ s a e n).2.2≠5:=by
 unfold q8_
 split
 ·exact h
 ·split
  ·show(2:Int)≠5;decide
  ·split
   ·show(3:Int)≠5;decide
   ·show(0:Int)≠5;decide
theorem ajA_ (most:Int): ∀ (l:List UInt8) (k n x:Nat),z2_ most l k n= .error x→x≠5:=by
 intro l
 induction l with
 |nil=>intro k n x h;unfold z2_ at h;cases h;decide
 |cons c r ih=>
  intro k n x h
  unfold z2_ at h
  split at h
  ·split at h
   ·cases h;decide
   ·exact ih _ _ _ h
  ·split at h
   ·cases h;decide
   ·split at h
    ·cases h
    ·cases h;decide
theorem afg_ (most:Int): ∀ (l:List UInt8) (k n:Nat),z2_ most l k n≠ .error 0:=by
 intro l
 induction l with
 |nil=>intro k n h;unfold z2_ at h;cases h
 |cons c r ih=>
  intro k n h
  unfold z2_ at h
  split at h
  ·split at h
   ·cases h
   ·exact ih _ _ h
  ·split at h
   ·cases h
   ·split at h
    ·cases h
    ·cases h
theorem adT_ {s:List UInt8} {a:Nat} {e most:Int} (h:e≠5): (zr_ s a e most).2.2≠5:=by
 unfold zr_
 split
 ·exact h
 ·split
  ·show(0:Int)≠5;decide
  ·rename_i x hx
   have:=ajA_ _ _ _ _ _ hx
   show((x:Nat):Int)≠5
   omega
theorem ajE_ {s:List UInt8} {a:Nat} {e most:Int} (h:e≠5): (zS_ s a e most).2.2≠5:=by
 unfold zS_
 simp only
 split
 ·exact afH_ (adT_ h)
 ·exact afH_ (adT_ h)
theorem ana_ {s:List UInt8} {a:Nat} {e:Int} (h:e≠5): (idR s a e).2.2≠5:=by unfold idR;exact afH_ h
theorem aff_ {s:List UInt8} {a:Nat} {e most:Int} (h: (zr_ s a e most).2.2=0):a< (zr_ s a e most).2.1:=by
 unfold zr_ at h ⊢
 split
 ·rename_i he
  rw[if_pos he] at h
  exact absurd h he
 ·rename_i he
  rw[if_neg he] at h
  split
  ·rename_i n k hk
   have:=XR_ _ _ _ _ _ _ hk
   show a<a+k
   omega
  ·rename_i x hx
   rw[hx] at h
   exfalso
   have:x=0:=by have: ((x:Nat):Int)=0:=h;omega
   subst this
   exact afg_ _ _ _ _ hx
def Q0_ (s:List UInt8) (a:Nat) (e:Int):EntL×Nat×Int:=
 let p:=zr_ s a e 2
 let q:=zS_ s p.2.1 p.2.2 32
 let i:=idR s q.2.1 q.2.2
 (⟨q.1,p.1,vF_ i.1⟩,i.2)
theorem aaw_ {s:List UInt8} {a:Nat} {e:Int} (ha:a≤s.length):a≤ (Q0_ s a e).2.1∧(Q0_ s a e).2.1≤s.length:=by
 have h1:=qd_ (e:=e) (most:=2) ha
 have h2:=xL_ (e:=(zr_ s a e 2).2.2) (most:=32) h1.2
 have h3:=JY_ (e:=(zS_ s (zr_ s a e 2).2.1 (zr_ s a e 2).2.2 32).2.2) h2.2
 unfold Q0_
 exact⟨by simp only;omega,h3.2⟩
theorem alJ_ {s:List UInt8} {a:Nat} {e:Int} (h:e≠5): (Q0_ s a e).2.2≠5:=ana_ (ajE_ (adT_ h))
theorem adV_ {s:List UInt8} {a:Nat} {e:Int} (ha:a≤s.length) (h: (Q0_ s a e).2.2=0):a< (Q0_ s a e).2.1:=by
 have h1:=qd_ (e:=e) (most:=2) ha
 have h2:=xL_ (e:=(zr_ s a e 2).2.2) (most:=32) h1.2
 have h3:=JY_ (e:=(zS_ s (zr_ s a e 2).2.1 (zr_ s a e 2).2.2 32).2.2) h2.2
 unfold Q0_ at h ⊢
 simp only at h ⊢
 have e2: (zS_ s (zr_ s a e 2).2.1 (zr_ s a e 2).2.2 32).2.2=0:=Decidable.byContradiction fun hn=>by rw[aeM_ hn] at h;exact hn h
 have e1: (zr_ s a e 2).2.2=0:=Decidable.byContradiction fun hn=>by rw[Kb_ hn] at e2;exact hn e2
 have:=aff_ e1
 omega
def xK_ (s:List UInt8):Nat→Nat→Int→List EntL→List EntL×Nat×Int
 |0,a,e,l=>(l,a,e)
 |n+1,a,e,l=>if e=0∧a<s.length then xK_ s n (Q0_ s a e).2.1 (Q0_ s a e).2.2 (l++ [(Q0_ s a e).1]) else(l,a,e)
theorem Z6_ {s:List UInt8} {n a:Nat} {e:Int} {l:List EntL} (h:e=0∧a<s.length):xK_ s (n+1) a e l=xK_ s n (Q0_ s a e).2.1 (Q0_ s a e).2.2 (l++ [(Q0_ s a e).1]):=by rw[xK_,if_pos h]
theorem wN_ {s:List UInt8} {n a:Nat} {e:Int} {l:List EntL} (h: ¬ (e=0∧a<s.length)):xK_ s n a e l=(l,a,e):=by
 cases n with
 |zero=>rfl
 |succ n=>rw[xK_,if_neg h]
def jk_ (s:List UInt8):List EntL×Nat×Int:=xK_ s (s.length+1) 0 0 []
structure EntsJ (s:List UInt8) (n a:Nat) (e:Int) (l:List EntL):Prop where
 go:jk_ s=xK_ s n a e l
 le:a≤s.length
 five:e≠5
 fuel:e=0→s.length<a+n
 cnt:l.length+n=s.length+1
 short: ∀i,i<l.length→(l.getD i jf_).name.length≤s.length
theorem EntsJ.init (s:List UInt8):EntsJ s (s.length+1) 0 0 []:=⟨rfl,Nat.zero_le _,by decide,fun _=>by omega,by simp,fun i hi=>by simp at hi⟩
theorem EntsJ.next {s:List UInt8} {n a:Nat} {e:Int} {l:List EntL} (h:EntsJ s n a e l) (hc:e=0∧a<s.length): ∃m,n=m+1∧EntsJ s m (Q0_ s a e).2.1 (Q0_ s a e).2.2 (l++ [(Q0_ s a e).1]):=by
 have:=h.fuel hc.1
 obtain⟨m,rfl⟩: ∃m,n=m+1:=⟨n - 1,by omega⟩
 refine⟨m,rfl,h.go.trans (Z6_ hc),(aaw_ h.le).2,alJ_ h.five,fun h0=> ?_, ?_,fun i hi=> ?_⟩
 ·have:=adV_ h.le h0;omega
 ·have:=h.cnt;simp only[List.length_append,List.length_cons,List.length_nil];omega
 ·by_cases hlt:i<l.length
  ·rw[vA_ hlt];exact h.short i hlt
  ·have:i=l.length:=by simp only[List.length_append,List.length_cons,List.length_nil] at hi;omega
   subst this
   rw[vs_ (Nat.le_refl _),Nat.sub_self]
   exact ZV_ _ _ _ _
theorem EntsJ.done {s:List UInt8} {n a:Nat} {e:Int} {l:List EntL} (h:EntsJ s n a e l) (hc: ¬ (e=0∧a<s.length)):jk_ s=(l,a,e):=h.go.trans (wN_ hc)
theorem EntsJ.sh {s:List UInt8} {n a:Nat} {e:Int} {l:List EntL} (h:EntsJ s n a e l) (hs:s.length<1000000):K0_ l:=fun i hi=>by have:=h.short i hi;omega
end Go.Proofs
end
section
open Go Go.Proofs Go.Sx Go.StP
namespace Go.Proofs
set_option maxRecDepth 10000
set_option maxHeartbeats 400000
set_option linter.unusedSimpArgs false
theorem Ws_:buildV (xY_ Tryz.prog 142) (zG_ Tryz.prog 142) []=some (.agg (qW_ jf_).toArray):=by
 rw[show xY_ Tryz.prog 142=some [(0,1),(1,1),(2,32)] from id (by kernel_rfl),XG_];rfl
def Wv_ (s:List UInt8):Option (List EntL):=if(jk_ s).2.2=0∧xv_ (jk_ s).1=true∧xQ_ (jk_ s).1=s then some (jk_ s).1 else none
def ae1_ (s:List UInt8) (v:Value) (D:zb_):Prop:=
 match Wv_ s with
 |some l=> ∃v1,v= .tuple #[v1, .bool true]∧Gr D 142 34 v1 l.length (l.map qW_).flatten
 |none=>v= .tuple #[.slice none 0 0, .bool false]
structure EnG where
 n:Nat
 a:Nat
 e:Int
 l:List EntL
 v:Value
 D:zb_
set_option linter.defProp false
def qN_:=And.intro (And.intro (And.intro (@vk_) (And.intro (@vu_) (@vC_))) (And.intro (@x5_) (And.intro (@kc_) (@XP_)))) (And.intro (And.intro (@JE_) (And.intro (@Js_) (@J2_))) (And.intro (And.intro (@vz_) (@vb_)) (And.intro (@zv_) (@zu_))))
theorem Kg_ (s:List UInt8) (w:World) (hs:s.length<100000):
  Rets Tryz.prog 40 #[vs s] w (XS w [] (ae1_ s)):=by
 refine Rets.enterX Tryz.func40 rfl (rs:= [.tmp 2, .tmp 3]) Tryz.results40 Tryz.ntmps40 (fun p hp=>by cases hp) (by simp[keys]) ?_
 refine kf ?_
 first|with_reducible refine ks [] @qN_ ?_|refine kp @qN_ ?_
 refine Ow.build ((.agg #[vs s,vi 0,vi 0])) rfl (by kernel_rfl) ?_
 refine ko @qN_ ?_
 refine Ow.box rfl rfl fun br hbr hwr=> ?_
 simp only[zw_,zC_,zB_,za_,List.nil_append]
 refine ko @qN_ ?_
 refine Cw.loopG (G:=EnG) [10,11,12,13,14,15,16,17,18,19,20,21,22,23,24,6,25,26,27,28,29,30,31,32,33,34,35,36,37,5] (fun q=> [(5,q.v)]) (fun q=>(br, .cells #[vs s,vi q.a,vi q.e] 140 (0,0))::q.D) (fun q=>EntsJ s q.n q.a q.e q.l∧New (br+1) q.D∧Gr q.D 142 34 q.v q.l.length (q.l.map qW_).flatten) (fun q=>q.n) ⟨s.length+1,0,0,[], .slice none 0 0,[]⟩ rfl rfl ?_ ?_
 ·exact⟨EntsJ.init s,trivial,Gr.nl⟩
 ·intro q jq hq
  refine kv ?_
  obtain⟨n,a,e,l,v,D⟩:=q
  simp only at hq ⊢
  obtain⟨hJ,hN,hG⟩:=hq
  have hle:=hJ.le
  by_cases hc:e=0∧a<s.length
  ·obtain⟨m,rfl,hJ'⟩:=hJ.next hc
   obtain⟨he,hlt⟩:=hc
   have d1: (e==0)=true:=by simp[he]
   have d2:decide ((a:Int)< (s.length:Int))=true:=decide_eq_true (by omega)
   have hp:=qd_ (e:=e) (most:=2) hle
   have hq:=xL_ (e:=(zr_ s a e 2).2.2) (most:=32) hp.2
   have heq:Q0_ s a e=(⟨(zS_ s (zr_ s a e 2).2.1 (zr_ s a e 2).2.2 32).1,(zr_ s a e 2).1,vF_ (idR s (zS_ s (zr_ s a e 2).2.1 (zr_ s a e 2).2.2 32).2.1 (zS_ s (zr_ s a e 2).2.1 (zr_ s a e 2).2.2 32).2.2).1⟩,(idR s (zS_ s (zr_ s a e 2).2.1 (zr_ s a e 2).2.2 32).2.1 (zS_ s (zr_ s a e 2).2.1 (zr_ s a e 2).2.2 32).2.2).2):=rfl
   have hil:=v9_ s (zS_ s (zr_ s a e 2).2.1 (zr_ s a e 2).2.2 32).2.1 (zS_ s (zr_ s a e 2).2.1 (zr_ s a e 2).2.2 32).2.2
   first|with_reducible refine ks [] (And.intro @qN_ (And.intro @d1 (@d2))) ?_|refine kp (And.intro @qN_ (And.intro @d1 (@d2))) ?_
   refine Ow.build (.agg (qW_ jf_).toArray) rfl Ws_ ?_
   refine ko @qN_ ?_
   refine Ow.alloc rfl rfl XG_ fun b6 hb6 hw6=> ?_
   simp only[za_,List.nil_append,List.cons_append]
   have hr6:br<b6:=ze_ hb6 (by simp[keys])
   refine Ow.permL (M:=(b6,Obj.cells (qW_ jf_).toArray 142 (0,0)):: (br, .cells #[vs s,vi a,vi e] 140 (0,0))::D) (by classical exact List.perm_iff_count.2 fun a=>by simp only[List.count_append,List.count_cons,List.count_nil]<;>omega) ?_
   refine ko @qN_ ?_
   refine Ow.callM rfl rfl Tryz.call66 (by simp[keys]) (fun w' hw'=>xU_ br s a e 2 w' hle (by omega) (hw'.has _ _ (List.mem_cons_of_mem _ List.mem_cons_self))) ?_
   generalize zr_ s a e 2=p at*
   obtain⟨kd,a1,e1⟩:=p
   simp only at hp hq heq hil ⊢
   refine kn ?_
   refine ko @qN_ ?_
   first|with_reducible refine ks [] @qN_ ?_|refine kp @qN_ ?_
   refine Ow.callM rfl rfl Tryz.call67 (by simp[keys]) (fun w' hw'=>Zi_ br s a1 e1 32 w' hp.2 (by omega) (hw'.has _ _ (List.mem_cons_of_mem _ List.mem_cons_self))) ?_
   generalize zS_ s a1 e1 32=q at*
   obtain⟨tt,a2,e2⟩:=q
   simp only at hq heq hil ⊢
   refine kn ?_
   refine ko @qN_ ?_
   first|with_reducible refine ks [] @qN_ ?_|refine kp @qN_ ?_
   refine Ow.callM rfl rfl Tryz.call68 (by simp[keys]) (fun w' hw'=>w2_ br s a2 e2 w' hq.2 (by omega) (hw'.has _ _ (List.mem_cons_of_mem _ List.mem_cons_self))) ?_
   generalize idR s a2 e2=i at*
   obtain⟨il,a3,e3⟩:=i
   simp only at heq hil ⊢
   obtain⟨I,hI⟩: ∃I,vF_ il=I:=⟨_,rfl⟩
   have hiI:il=I.l:=by rw[←hI,ko_ hil]
   rw[hI] at heq
   rw[hiI]
   refine kn ?_
   refine ko @qN_ ?_
   generalize hx: ({name:=tt,kind:=kd,id:=I}:EntL)=x
   rw[hx] at heq
   rw[heq] at hJ'
   refine Ow.buildSlice (e:=142) (qW_ x).toArray rfl rfl (qa_ Tryz.underlying94 Tryz.ag142 XG_ (by decide) (qX_ x)) fun b13 hb13 hw13=> ?_
   have hr13:br<b13:=ze_ hb13 (by simp[keys])
   refine Ow.permL (M:=D++ ((b6,Obj.cells (qW_ x).toArray 142 (0,0)):: (br, .cells #[vs s,vi a3,vi e3] 140 (0,0)):: [(b13,Obj.cells (qW_ x).toArray 142 (0,0))])) (by classical exact List.perm_iff_count.2 fun a=>by simp only[List.count_append,List.count_cons,List.count_nil]<;>omega) ?_
   refine ko @qN_ ?_
   refine Ow.appendX (e:=142) (k:=1) (new:=qW_ x) (X:=D) v rfl rfl rfl rfl Tryz.underlying94 Tryz.ag142 (by kernel_rfl) XG_ (by rw[vb_,List.size_toArray,qX_]) Tryz.underlying94 (by intro k h;cases h) hG (fun w' hw'=>AppX.one1 (hw'.has b13 (.cells (qW_ x).toArray 142 (0,0)) (by simp)) (qX_ _) (XJ_ _)) (by omega) (by have:=hJ.cnt;omega) (fun B v4 D4 hA4 hB4 hbuf hk1 hk2 hlk=> ?_)
   have hB13:b13<B:=ze_ hA4 (by simp[zd_,keys])
   have hN4:New (br+1) D4:=New.of_le fun q hq=>by
    rcases hk2 q hq with h|h
    ·exact hN.le q h
    ·omega
   refine Ow.permL (M:=(br, .cells #[vs s,vi a3,vi e3] 140 (0,0)):: (D4++ [(b6,Obj.cells (qW_ x).toArray 142 (0,0)),(b13,Obj.cells (qW_ x).toArray 142 (0,0))])) (by classical exact List.perm_iff_count.2 fun a=>by simp only[List.count_append,List.count_cons,List.count_nil]<;>omega) ?_
   refine ko @qN_ ?_
   refine Again.mk (EnG.mk m a3 e3 (l++ [x]) v4 (D4++ [(b6,Obj.cells (qW_ x).toArray 142 (0,0)),(b13,Obj.cells (qW_ x).toArray 142 (0,0))])) (by show m<m+1;omega) ⟨hJ',hN4.app ⟨by omega,by omega,trivial⟩, ?_⟩ rfl rfl
   show Gr _ _ _ _ (l++ [x]).length ((l++ [x]).map qW_).flatten
   rw[List.length_append,List.map_append,List.flatten_append,show([x].map qW_).flatten=qW_ x by simp]
   exact Gr.app (.inl hbuf)
  ·have hd:=hJ.done hc
   have hsh:=hJ.sh (by omega)
   have hcn:=hJ.cnt
   have hR:Wv_ s=if e=0∧xv_ l=true∧xQ_ l=s then some l else none:=by unfold Wv_;rw[hd]
   unfold ae1_
   rw[hR]
   have hNe:New w.heap.size ((br,Obj.cells #[vs s,vi a,vi e] 140 (0,0))::D):=⟨hwr,New.mono (by omega) hN⟩
   by_cases he:e=0
   ·have d1: (e==0)=true:=by simp[he]
    have d2:decide ((a:Int)< (s.length:Int))=false:=decide_eq_false (by omega)
    have hend: (if e≠0 then e else if(a:Int)< (s.length:Int) then 5 else 0)=(0:Int):=by rw[if_neg (by simp[he]),if_neg (by omega)]
    first|with_reducible refine ks [] (And.intro @qN_ (And.intro @d1 (@d2))) ?_|refine kp (And.intro @qN_ (And.intro @d1 (@d2))) ?_
    refine Ow.callFV rfl Tryz.call69 (fun w' hw'=>v6_ br s a e w' (hw'.has _ _ (by simp))) ?_
    rw[hend]
    have d4: ((0:Int) !=0)=false:=rfl
    refine ko (And.intro @qN_ @d4) ?_
    refine Ow.callFV rfl Tryz.call70 (fun w' hw'=>Jk_ v l w' (hG.slM (fun b o hm=>hw'.has b o (by simp[hm])) rfl rfl qX_) (by omega) hsh) ?_
    cases hr:xv_ l
    ·rw[if_neg (by simp)]
     refine ko @qN_ ?_
     first|with_reducible refine ks [] @qN_ ?_|refine kp @qN_ ?_
     refine⟨_,(ke @qN_), ?_⟩
     exact⟨Ext.of_new hNe,rfl⟩
    ·refine ko @qN_ ?_
     refine Ow.callFV rfl Tryz.call71 (fun w' hw'=>Xv_ v l w' (hG.slM (fun b o hm=>hw'.has b o (by simp[hm])) rfl rfl qX_) (by omega) hsh) ?_
     by_cases hb:xQ_ l=s
     ·have d3: (xQ_ l !=s)=false:=by simp[hb]
      rw[if_pos ⟨he,rfl,hb⟩]
      refine ko (And.intro @qN_ @d3) ?_
      first|with_reducible refine ks [] @qN_ ?_|refine kp @qN_ ?_
      refine⟨_,(ke @qN_), ?_⟩
      exact⟨Ext.of_new hNe,v,rfl,hG.keep fun b o hb ho=>by rw[Sx.look,if_neg (by have:=hN.le b (zm_ ho);omega)];exact ho⟩
     ·have d3: (xQ_ l !=s)=true:=by simp[hb]
      rw[if_neg (fun h=>hb h.2.2)]
      refine ko (And.intro @qN_ @d3) ?_
      first|with_reducible refine ks [] @qN_ ?_|refine kp @qN_ ?_
      refine⟨_,(ke @qN_), ?_⟩
      exact⟨Ext.of_new hNe,rfl⟩
   ·have d1: (e==0)=false:=by simp[he]
    have d3: (e !=0)=true:=by simp[he]
    have hend: (if e≠0 then e else if(a:Int)< (s.length:Int) then 5 else 0)=e:=by rw[if_pos he]
    rw[if_neg (fun h=>he h.1)]
    first|with_reducible refine ks [] (And.intro @qN_ @d1) ?_|refine kp (And.intro @qN_ @d1) ?_
    refine Ow.callFV rfl Tryz.call69 (fun w' hw'=>v6_ br s a e w' (hw'.has _ _ (by simp))) ?_
    rw[hend]
    refine ko (And.intro @qN_ @d3) ?_
    first|with_reducible refine ks [] @qN_ ?_|refine kp @qN_ ?_
    refine⟨_,(ke @qN_), ?_⟩
    exact⟨Ext.of_new hNe,rfl⟩
end Go.Proofs
end
section
open Go Go.Proofs Go.Sx Go.StP
namespace Go.Proofs
set_option maxRecDepth 10000
set_option maxHeartbeats 400000
set_option linter.unusedSimpArgs false
theorem vY_ (most:Int): ∀ (l:List UInt8) (k n m k':Nat),z2_ most l k n= .ok (m,k')→(m:Int)≤most
 | [],_,_,_,_,h=>by simp[z2_] at h
 |c::r,k,n,m,k',h=>by
  unfold z2_ at h
  split at h
  ·split at h
   ·cases h
   ·exact vY_ most r _ _ _ _ h
  ·split at h
   ·cases h
   ·split at h
    ·rename_i hh
     cases h
     exact hh.2
    ·cases h
theorem qV_ {s:List UInt8} {a:Nat} {e most:Int} (h0:0≤most):0≤ (zr_ s a e most).1∧(zr_ s a e most).1≤most:=by
 unfold zr_
 split
 ·exact⟨Int.le_refl 0,h0⟩
 ·split
  ·rename_i n k h
   exact⟨Int.natCast_nonneg _,vY_ most _ _ _ _ _ h⟩
  ·exact⟨Int.le_refl 0,h0⟩
def zI_ (s:List UInt8) (a:Nat) (e:Int):Nat→List IdL×Nat×Int
 |0=>([],a,e)
 |n+1=>let p:=zI_ s a e n;let i:=idR s p.2.1 p.2.2;(p.1++ [vF_ i.1],i.2)
theorem wh_ (s:List UInt8) (a:Nat) (e:Int): ∀n,(zI_ s a e n).1.length=n
 |0=>rfl
 |n+1=>by simp only[zI_,List.length_append,List.length_cons,List.length_nil,wh_ s a e n]
theorem wB_ {s:List UInt8} {a:Nat} {e:Int} (ha:a≤s.length): ∀n,(zI_ s a e n).2.1≤s.length
 |0=>ha
 |n+1=>(JY_ (wB_ ha n)).2
def comN (s:List UInt8):Int×Nat×Int:=zr_ s (idR s 0 0).2.1 (idR s 0 0).2.2 4
def kF_ (s:List UInt8):List IdL×Nat×Int:=zI_ s (comN s).2.1 (comN s).2.2 (comN s).1.toNat
def comT (s:List UInt8):List UInt8×Nat×Int:=zS_ s (kF_ s).2.1 (kF_ s).2.2 64
def vD_ (s:List UInt8):ComL×Nat×Int:=(⟨vF_ (idR s 0 0).1,(kF_ s).1,(comT s).1⟩,(comT s).2)
def xE_ (s:List UInt8) (a:Nat) (e:Int):Int:=if e≠0 then e else if(a:Int)< (s.length:Int) then 5 else 0
def aaa_ (s:List UInt8):Option ComL:=if xE_ s (vD_ s).2.1 (vD_ s).2.2=0∧vd_ (vD_ s).1=true∧comB (vD_ s).1=s then some (vD_ s).1 else none
theorem acd_ (t x:IdL) (p:Value) (y:List UInt8) (a:Bool) (E:TypeId):zi_ (some (a,32)) (some (.cells (qQ_ t p y).toArray E (0,0))) 0 (.agg (a8 x.l))=some (.cells (qQ_ x p y).toArray E (0,0)):=
 qA_ [] _ _ _ a _ E rfl (by simp[t.h]) (za_ _) (by simp[x.h]) (Jt_ _)
theorem acV_ (t:IdL) (p q:Value) (y:List UInt8) (a:Bool) (E:TypeId) (hq:Value.oneCell' q=true∧q.cells= #[q]):zi_ (some (a,1)) (some (.cells (qQ_ t p y).toArray E (0,0))) 32 q=some (.cells (qQ_ t q y).toArray E (0,0)):=
 qA_ (t.l.map v8) [p] [q] [vs y] a _ E (by simp[t.h]) rfl hq.2 rfl (by simp[hq.1])
theorem aci_ (t:IdL) (p:Value) (y z:List UInt8) (a:Bool) (E:TypeId):zi_ (some (a,1)) (some (.cells (qQ_ t p y).toArray E (0,0))) 33 (vs z)=some (.cells (qQ_ t p z).toArray E (0,0)):=by
 have e: ∀y,qQ_ t p y=(t.l.map v8++ [p])++ ([vs y]++ []):=fun y=>by unfold qQ_;simp only[List.append_assoc,List.append_nil]
 rw[e,e];exact qA_ _ _ _ _ a _ E (by simp[t.h]) rfl rfl rfl rfl
theorem aip_:zG_ Tryz.prog 98=some (.agg (qQ_ id0 (.slice none 0 0) []).toArray):=id (by kernel_rfl)
theorem vw_:buildV (xY_ Tryz.prog 98) (zG_ Tryz.prog 98) []=some (.agg (qQ_ id0 (.slice none 0 0) []).toArray):=by
 rw[show xY_ Tryz.prog 98=some [(0,32),(32,1),(33,1)] from id (by kernel_rfl),aip_];rfl
theorem v1_:zG_ Tryz.prog 42=some (.agg (a8 id0.l)):=id (by kernel_rfl)
end Go.Proofs
end
section
open Go Go.Proofs Go.Sx Go.StP
namespace Go.Proofs
set_option maxRecDepth 10000
set_option maxHeartbeats 400000
set_option linter.unusedSimpArgs false
theorem wx_ {b:Nat} {x:Obj}: ∀ {D L:zb_},b∉keys D→setB (D++L) b x=D++setB L b x
 | [],_,_=>rfl
 | (c,y)::r,L,h=>by
  simp only[keys,List.map_cons,List.mem_cons,not_or] at h
  rw[List.cons_append,qw_ _ _ _ _ _ (Ne.symm h.1),wx_ (by simpa [keys] using h.2)];rfl
def afQ_ (s:List UInt8) (v:Value) (D:zb_):Prop:=
 match aaa_ s with
 |some c=> ∃p,v= .tuple #[.agg (qQ_ c.tree p c.text).toArray, .bool true]∧Gr D 42 32 p c.par.length (c.par.map jd_).flatten
 |none=>v= .tuple #[.agg (qQ_ id0 (.slice none 0 0) []).toArray, .bool false]
theorem V4_ (b:Nat) (s:List UInt8) (a:Nat) (e:Int) (w:World) (ho:w.heap[b]? =some (.cells #[vs s,vi a,vi e] 140 (0,0))):
  Rets Tryz.prog 69 #[vp b 0] w (fun v D=>v=vi (xE_ s a e)∧D= []):=v6_ b s a e w ho
structure CmG where
 g:Nat
 v:Value
 D:zb_
set_option linter.defProp false
def qI_:=And.intro (And.intro (And.intro (@vk_) (And.intro (@vu_) (@vC_))) (And.intro (And.intro (@x5_) (@kc_)) (And.intro (@Vs_) (@Vw_)))) (And.intro (And.intro (@V0_) (And.intro (@abb_) (@wz_))) (And.intro (And.intro (@acd_) (@aci_)) (And.intro (@zv_) (@zu_))))
theorem XW_ (s:List UInt8) (w:World) (hs:s.length<100000):
  Rets Tryz.prog 41 #[vs s] w (XS w [] (afQ_ s)):=by
 refine Rets.enterX Tryz.func41 rfl (rs:= [.cell 2 98, .tmp 3]) Tryz.results41 Tryz.ntmps41 (fun p hp=>by cases hp) (by simp[keys]) ?_
 refine kf ?_
 first|with_reducible refine ks [] @qI_ ?_|refine kp @qI_ ?_
 refine Ow.alloc rfl rfl aip_ fun b2 hb2 hw2=> ?_
 simp only[za_,List.nil_append,List.cons_append]
 refine ko @qI_ ?_
 refine Ow.build ((.agg #[vs s,vi 0,vi 0])) rfl (by kernel_rfl) ?_
 refine ko @qI_ ?_
 refine Ow.box rfl rfl fun br hbr hwr=> ?_
 have h2r:b2<br:=ze_ hbr (by simp[keys])
 simp only[zw_,zC_,zB_,za_,List.nil_append,List.cons_append]
 refine ko @qI_ ?_
 refine Ow.build (.agg (qQ_ id0 (.slice none 0 0) []).toArray) rfl vw_ ?_
 refine ko @qI_ ?_
 refine Ow.alloc rfl rfl aip_ fun b5 hb5 hw5=> ?_
 simp only[za_,List.nil_append,List.cons_append]
 have h25:b2<b5:=ze_ hb5 (by simp[keys])
 have hr5:br<b5:=ze_ hb5 (by simp[keys])
 have st5: ∀a E,zi_ (some (a,34)) (some (.cells (qQ_ id0 (.slice none 0 0) []).toArray E (0,0))) 0 (.agg (qQ_ id0 (.slice none 0 0) []).toArray)=some (.cells (qQ_ id0 (.slice none 0 0) []).toArray E (0,0)):=fun a E=>QU_ _ _ _ _ a E (by rw[List.size_toArray,vx_]) rfl
 refine ko (And.intro @qI_ @st5) ?_
 refine Ow.callM rfl rfl Tryz.call68 (by simp[keys]) (fun w' hw'=>w2_ br s 0 0 w' (Nat.zero_le _) (by omega) (hw'.has _ _ (List.mem_cons_of_mem _ List.mem_cons_self))) ?_
 have ip:=JY_ (s:=s) (a:=0) (e:=0) (Nat.zero_le _)
 have np:=qd_ (e:=(idR s 0 0).2.2) (most:=4) ip.2
 have nm:=qV_ (s:=s) (a:=(idR s 0 0).2.1) (e:=(idR s 0 0).2.2) (most:=4) (by decide)
 obtain⟨T,hT⟩: ∃T,vF_ (idR s 0 0).1=T:=⟨_,rfl⟩
 have hiT: (idR s 0 0).1=T.l:=by rw[←hT,ko_ (v9_ s 0 0)]
 have hcE:vD_ s=(⟨T,(kF_ s).1,(comT s).1⟩,(comT s).2):=by unfold vD_;rw[hT]
 rw[hiT]
 refine kn ?_
 refine ko @qI_ ?_
 refine Ow.callM rfl rfl Tryz.call66 (by simp[keys]) (fun w' hw'=>xU_ br s _ _ 4 w' ip.2 (by omega) (hw'.has _ _ (List.mem_cons_of_mem _ List.mem_cons_self))) ?_
 have hP:kF_ s=zI_ s (zr_ s (idR s 0 0).2.1 (idR s 0 0).2.2 4).2.1 (zr_ s (idR s 0 0).2.1 (idR s 0 0).2.2 4).2.2 (zr_ s (idR s 0 0).2.1 (idR s 0 0).2.2 4).1.toNat:=rfl
 generalize zr_ s (idR s 0 0).2.1 (idR s 0 0).2.2 4=nr at*
 obtain⟨cn,na,ne⟩:=nr
 simp only at np nm hP ⊢
 obtain⟨k,rfl⟩:=Int.eq_ofNat_of_zero_le nm.1
 rw[Int.toNat_natCast] at hP
 refine kn ?_
 refine ko @qI_ ?_
 refine Cw.permL (M:=(b5, .cells (qQ_ T (.slice none 0 0) []).toArray 98 (0,0)):: (br, .cells #[vs s,vi na,vi ne] 140 (0,0)):: (b2, .cells (qQ_ id0 (.slice none 0 0) []).toArray 98 (0,0)):: []) (by classical exact List.perm_iff_count.2 fun a=>by simp only[List.count_append,List.count_cons,List.count_nil]<;>omega) ?_
 refine Cw.loopG (G:=CmG) [17,18,19,22,23,24,25,26,27,28,20,21,7] (fun q=> [(7,vi q.g)]) (fun q=>(b5, .cells (qQ_ T q.v []).toArray 98 (0,0)):: (br, .cells #[vs s,vi (zI_ s na ne q.g).2.1,vi (zI_ s na ne q.g).2.2] 140 (0,0)):: (b2, .cells (qQ_ id0 (.slice none 0 0) []).toArray 98 (0,0))::q.D) (fun q=>q.g≤k∧New (b5+1) q.D∧Gr q.D 42 32 q.v q.g ((zI_ s na ne q.g).1.map jd_).flatten) (fun q=>k - q.g) ⟨0, .slice none 0 0,[]⟩ rfl rfl ?_ ?_
 ·exact⟨Nat.zero_le _,trivial,Gr.nl⟩
 ·intro q jq hq
  refine kv ?_
  obtain⟨g,v,D⟩:=q
  simp only at hq ⊢
  obtain⟨hgk,hN,hG⟩:=hq
  have gle:=wB_ (e:=ne) np.2 g
  by_cases hlt:g<k
  ·have hgs:zI_ s na ne (g+1)=((zI_ s na ne g).1++ [vF_ (idR s (zI_ s na ne g).2.1 (zI_ s na ne g).2.2).1],(idR s (zI_ s na ne g).2.1 (zI_ s na ne g).2.2).2):=rfl
   first|with_reducible refine ks [7] @qI_ ?_|refine kp @qI_ ?_
   refine Cw.regionS [b5] [0,2,1,3,4,5,6,7] [7] (by kernel_rfl) (by kernel_rfl) (by kernel_rfl) ?_
   refine kya ?_
   refine kq @qI_ ?_
   refine Ow.softA ?_
   refine Ow.callM rfl rfl Tryz.call68 (by simp[keys]) (fun w' hw'=>w2_ br s (zI_ s na ne g).2.1 (zI_ s na ne g).2.2 w' gle (by omega) (hw'.has _ _ (List.mem_cons_of_mem _ List.mem_cons_self))) ?_
   with_reducible refine Ow.nil ?_
   refine⟨fun b hb=>kN_ (by simp only[List.mem_cons,List.not_mem_nil,or_false] at hb;omega), ?_⟩
   have hil:=v9_ s (zI_ s na ne g).2.1 (zI_ s na ne g).2.2
   obtain⟨I,hI⟩: ∃I,vF_ (idR s (zI_ s na ne g).2.1 (zI_ s na ne g).2.2).1=I:=⟨_,rfl⟩
   have hiI: (idR s (zI_ s na ne g).2.1 (zI_ s na ne g).2.2).1=I.l:=by rw[←hI,ko_ hil]
   rw[hI] at hgs
   have hg1: (zI_ s na ne (g+1)).1=(zI_ s na ne g).1++ [I]:=by rw[hgs]
   have hg2: (zI_ s na ne (g+1)).2=(idR s (zI_ s na ne g).2.1 (zI_ s na ne g).2.2).2:=by rw[hgs]
   rw[hiI,←hg2]
   refine kn ?_
   refine Ow.softA ?_
   refine Ow.buildSlice (e:=42) (a8 I.l) rfl rfl (qa_ (cs:=I.l.map v8) Tryz.underlying23 Tryz.ag42 v1_ (by decide) (by simp[I.h])) fun b13 hb13 hw13=> ?_
   have hr13:b5<b13:=ze_ hb13 (by simp[keys])
   with_reducible refine Ow.nil ?_
   refine⟨qh_ (by simp[keys]), ?_⟩
   try simp only[List.cons_append,List.nil_append]
   refine Ow.softA ?_
   refine Ow.permL (M:=D++ ((b5,Obj.cells (qQ_ T v []).toArray 98 (0,0)):: (br,Obj.cells #[vs s,vi (zI_ s na ne (g+1)).2.1,vi (zI_ s na ne (g+1)).2.2] 140 (0,0)):: (b2,Obj.cells (qQ_ id0 (.slice none 0 0) []).toArray 98 (0,0)):: [(b13,Obj.cells (a8 I.l) 42 (0,0))])) (by classical exact List.perm_iff_count.2 fun a=>by simp only[List.count_append,List.count_cons,List.count_nil]<;>omega) ?_
   refine Ow.appendX (e:=42) (k:=1) (new:=jd_ I) (X:=D) v rfl rfl rfl rfl Tryz.underlying23 Tryz.ag42 (by kernel_rfl) v1_ (by rw[za_,xW_,id0.h]) Tryz.underlying23 (by intro k h;cases h) hG (fun w' hw'=>AppX.one1 (hw'.has b13 (.cells (a8 I.l) 42 (0,0)) (by simp)) (zX_ I) (j2_ I)) (by omega) (by omega) (fun B v4 D4 hA4 hB4 hbuf hk1 hk2 hlk=> ?_)
   have hB13:b13<B:=ze_ hA4 (by simp[zd_,keys])
   have hN4:New (b5+1) D4:=New.of_le fun q hq=>by
    rcases hk2 q hq with h|h
    ·exact hN.le q h
    ·omega
   have h54:b5∉keys D4:=hN4.not (by omega)
   with_reducible refine Ow.nil ?_
   refine⟨fun q hq=> ?_, ?_⟩
   ·rw[List.mem_singleton] at hq
    subst hq
    rw[vq_ h54]
    simp only[zp_]
   have hlk5: ∀M,Sx.look (D4++M) b5=Sx.look M b5:=fun M=>zV_ h54
   have hsb5: ∀M x,setB (D4++M) b5 x=D4++setB M b5 x:=fun M x=>wx_ h54
   have st5:=fun a E=>acV_ T v v4 [] a E hbuf.cell
   refine kq (And.intro @qI_ (And.intro @hlk5 (And.intro @hsb5 (And.intro @st5 (@ab9_))))) ?_
   have hst7:jX_ (z3_ Tryz.prog 23) (D4++ [(b5,Obj.cells (qQ_ T v []).toArray 98 (0,0)),(br,Obj.cells #[vs s,vi (zI_ s na ne (g+1)).2.1,vi (zI_ s na ne (g+1)).2.2] 140 (0,0)),(b2,Obj.cells (qQ_ id0 (.slice none 0 0) []).toArray 98 (0,0)),(b13,Obj.cells (a8 I.l) 42 (0,0))]) (vp b5 32) v4=
     some (D4++ [(b5,Obj.cells (qQ_ T v4 []).toArray 98 (0,0)),(br,Obj.cells #[vs s,vi (zI_ s na ne (g+1)).2.1,vi (zI_ s na ne (g+1)).2.2] 140 (0,0)),(b2,Obj.cells (qQ_ id0 (.slice none 0 0) []).toArray 98 (0,0)),(b13,Obj.cells (a8 I.l) 42 (0,0))]):=by
    rw[Tryz.ag23,j7_,hlk5]
    simp only[zL_,st5,xh_,hsb5,qR_]
   refine Ow.store rfl rfl rfl hst7 ?_
   refine ko @qI_ ?_
   refine Cw.permL (M:=(b5,Obj.cells (qQ_ T v4 []).toArray 98 (0,0)):: (br,Obj.cells #[vs s,vi (zI_ s na ne (g+1)).2.1,vi (zI_ s na ne (g+1)).2.2] 140 (0,0)):: (b2,Obj.cells (qQ_ id0 (.slice none 0 0) []).toArray 98 (0,0)):: (D4++ [(b13,Obj.cells (a8 I.l) 42 (0,0))])) (by classical exact List.perm_iff_count.2 fun a=>by simp only[List.count_append,List.count_cons,List.count_nil]<;>omega) ?_
   first|with_reducible refine ks [] @qI_ ?_|refine kp @qI_ ?_
   refine Again.mk (CmG.mk (g+1) v4 (D4++ [(b13,Obj.cells (a8 I.l) 42 (0,0))])) (by show k - (g+1)<k - g;omega) ⟨by show g+1≤k;omega,hN4.app ⟨by omega,trivial⟩, ?_⟩ rfl rfl
   show Gr _ _ _ _ (g+1) ((zI_ s na ne (g+1)).1.map jd_).flatten
   rw[hg1,List.map_append,List.flatten_append,show([I].map jd_).flatten=jd_ I by simp]
   exact Gr.app (.inl hbuf)
  ·obtain rfl:g=k:=by omega
   rw[←hP] at hG
   rw[←hP] at gle
   rw[←hP]
   have tp:=xL_ (e:=(kF_ s).2.2) (most:=64) gle
   first|with_reducible refine ks [] @qI_ ?_|refine kp @qI_ ?_
   refine Ow.callM rfl rfl Tryz.call67 (by simp[keys]) (fun w' hw'=>Zi_ br s (kF_ s).2.1 (kF_ s).2.2 64 w' gle (by omega) (hw'.has _ _ (List.mem_cons_of_mem _ List.mem_cons_self))) ?_
   refine kn ?_
   refine ko @qI_ ?_
   have hT2:comT s=zS_ s (kF_ s).2.1 (kF_ s).2.2 64:=rfl
   have htl:=ZV_ s (kF_ s).2.1 (kF_ s).2.2 64
   rw[hT2] at hcE
   generalize zS_ s (kF_ s).2.1 (kF_ s).2.2 64=tx at*
   obtain⟨tt,a3,e3⟩:=tx
   simp only at tp hcE htl ⊢
   have hPl: (kF_ s).1.length=g:=by rw[hP,wh_]
   generalize (kF_ s).1=pl at*
   have hg4:g≤4:=by omega
   have hC: ∀w',Hp w ((b5,Obj.cells (qQ_ T v tt).toArray 98 (0,0)):: (br, .cells #[vs s,vi a3,vi e3] 140 (0,0)):: (b2,Obj.cells (qQ_ id0 (.slice none 0 0) []).toArray 98 (0,0))::D) w'→ComS w' (.agg (qQ_ T v tt).toArray) ⟨T,pl,tt⟩:=fun w' hw'=>
    ⟨v,rfl,hG.slM (fun b o hm=>hw'.has b o (by simp[hm])) hPl rfl zX_⟩
   have hNe:New w.heap.size ((b5,Obj.cells (qQ_ T v tt).toArray 98 (0,0)):: (br, .cells #[vs s,vi a3,vi e3] 140 (0,0)):: (b2,Obj.cells (qQ_ id0 (.slice none 0 0) []).toArray 98 (0,0))::D):=⟨hw5,hwr,hw2,New.mono (by omega) hN⟩
   have hR:aaa_ s=if xE_ s a3 e3=0∧vd_ ⟨T,pl,tt⟩=true∧comB ⟨T,pl,tt⟩=s then some ⟨T,pl,tt⟩ else none:=by unfold aaa_;rw[hcE]
   have stz: ∀a E,zi_ (some (a,34)) (some (.cells (qQ_ id0 (.slice none 0 0) []).toArray E (0,0))) 0 (.agg (qQ_ id0 (.slice none 0 0) []).toArray)=some (.cells (qQ_ id0 (.slice none 0 0) []).toArray E (0,0)):=st5
   unfold afQ_
   rw[hR]
   refine Ow.callFV rfl Tryz.call69 (fun w' hw'=>V4_ br s a3 e3 w' (hw'.has _ _ (List.mem_cons_of_mem _ List.mem_cons_self))) ?_
   by_cases he:xE_ s a3 e3=0
   ·have d1: (xE_ s a3 e3 !=0)=false:=by simp[he]
    refine ko (And.intro @qI_ @d1) ?_
    refine Ow.callFV rfl Tryz.call72 (fun w' hw'=>Zu_ _ _ w' (hC w' hw') (by show pl.length<1000000;omega) (by show tt.length<1099511627776;omega)) ?_
    cases hr:vd_ ⟨T,pl,tt⟩
    ·rw[if_neg (by simp)]
     refine ko @qI_ ?_
     refine Ow.build (.agg (qQ_ id0 (.slice none 0 0) []).toArray) rfl vw_ ?_
     refine ko (And.intro @qI_ @stz) ?_
     first|with_reducible refine ks [] @qI_ ?_|refine kp @qI_ ?_
     refine⟨_,(ke @qI_), ?_⟩
     exact⟨Ext.of_new hNe,rfl⟩
    ·refine ko @qI_ ?_
     refine Ow.callFV rfl Tryz.call73 (fun w' hw'=>QL_ _ _ w' (hC w' hw') (by show pl.length<1000000;omega) (by show tt.length<1099511627776;omega)) ?_
     by_cases hb:comB ⟨T,pl,tt⟩=s
     ·have d3: (comB ⟨T,pl,tt⟩ !=s)=false:=by simp[hb]
      have stq: ∀a E,zi_ (some (a,34)) (some (.cells (qQ_ id0 (.slice none 0 0) []).toArray E (0,0))) 0 (.agg (qQ_ T v tt).toArray)=some (.cells (qQ_ T v tt).toArray E (0,0)):=fun a E=>QU_ _ _ _ _ a E (by rw[List.size_toArray,vx_]) hG.cell.1
      rw[if_pos ⟨he,rfl,hb⟩]
      refine ko (And.intro @qI_ (And.intro @d3 (@stq))) ?_
      first|with_reducible refine ks [] @qI_ ?_|refine kp @qI_ ?_
      refine⟨_,(ke @qI_), ?_⟩
      refine⟨Ext.of_new ⟨hw5,hwr,hw2,New.mono (by omega) hN⟩,v,rfl, ?_⟩
      show Gr _ _ _ _ pl.length (pl.map jd_).flatten
      rw[hPl]
      exact hG.keep fun b o hb ho=>by
       have:=hN.le b (zm_ ho)
       simp(disch:=omega) only[z5_]
       exact ho
     ·have d3: (comB ⟨T,pl,tt⟩ !=s)=true:=by simp[hb]
      rw[if_neg (fun h=>hb h.2.2)]
      refine ko (And.intro @qI_ @d3) ?_
      refine Ow.build (.agg (qQ_ id0 (.slice none 0 0) []).toArray) rfl vw_ ?_
      refine ko (And.intro @qI_ @stz) ?_
      first|with_reducible refine ks [] @qI_ ?_|refine kp @qI_ ?_
      refine⟨_,(ke @qI_), ?_⟩
      exact⟨Ext.of_new hNe,rfl⟩
   ·have d1: (xE_ s a3 e3 !=0)=true:=by simp[he]
    rw[if_neg (fun h=>he h.1)]
    refine ko (And.intro @qI_ @d1) ?_
    refine Ow.build (.agg (qQ_ id0 (.slice none 0 0) []).toArray) rfl vw_ ?_
    refine ko (And.intro @qI_ @stz) ?_
    first|with_reducible refine ks [] @qI_ ?_|refine kp @qI_ ?_
    refine⟨_,(ke @qI_), ?_⟩
    exact⟨Ext.of_new hNe,rfl⟩
end Go.Proofs
end
