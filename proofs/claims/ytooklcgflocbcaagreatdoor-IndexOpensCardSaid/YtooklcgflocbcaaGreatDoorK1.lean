/-
  Part 1 of the walk: contracts of the functions that the law reaches, and the calculus they stand on.
  No conditions.
-/
import Derived.Test.YtooklcgflocbcaaGreatDoorK0
import Derived.Test.YtooklcgflocbcaaGreatDoorProg
import Derived.RangeFuncLeaves
import Derived.RangeFuncIn
import Derived.RangeFuncSeq
import Derived.RangeFuncRecord
import Derived.TacticsIn
import Derived.Lib.Small
import Derived.Lib.Walk
import Derived.Lib.Bytealg
import Derived.Deep.Draws
import Derived.Deep.QuietTactic
section
namespace Go.Sx
open Go
set_option maxRecDepth 100000
set_option linter.defProp false
def S0:=And.intro (And.intro (And.intro (And.intro (And.intro (And.intro (@ajy_) (And.intro (@akS_) (@amE_))) (And.intro (@ajR_) (And.intro (@afD_) (@ajn_)))) (And.intro (And.intro (@ahR_) (And.intro (@akH_) (@abf_))) (And.intro (And.intro (@Wm_) (@Vs_)) (And.intro (@aid_) (@KR_))))) (And.intro (And.intro (And.intro (@ahi_) (And.intro (@ake_) (@ab8_))) (And.intro (And.intro (@air_) (@aaK_)) (And.intro (@anv_) (@al7_)))) (And.intro (And.intro (@ahf_) (And.intro (@acj_) (@agJ_))) (And.intro (And.intro (@al6_) (@agT_)) (And.intro (@Xv_) (@Vc_)))))) (And.intro (And.intro (And.intro (And.intro (@akx_) (And.intro (@aeU_) (@ajt_))) (And.intro (@aeF_) (And.intro (@agc_) (@amG_)))) (And.intro (And.intro (@amB_) (And.intro (@QH_) (@wV_))) (And.intro (And.intro (@abJ_) (@afy_)) (And.intro (@VY_) (@aiq_))))) (And.intro (And.intro (And.intro (@alu_) (And.intro (@afk_) (@Qi_))) (And.intro (And.intro (@aaS_) (@XS_)) (And.intro (@ai6_) (@ajU_)))) (And.intro (And.intro (@anA_) (And.intro (@alb_) (@qi_))) (And.intro (And.intro (@aka_) (@aiY_)) (And.intro (@amq_) (@qe_))))))) (And.intro (And.intro (And.intro (And.intro (And.intro (@qc_) (And.intro (@zn_) (@zo_))) (And.intro (@abq_) (And.intro (@XN_) (@akZ_)))) (And.intro (And.intro (@ajz_) (And.intro (@ahX_) (@afQ_))) (And.intro (And.intro (@amp_) (@aeD_)) (And.intro (@ahl_) (@ajx_))))) (And.intro (And.intro (And.intro (@akV_) (And.intro (@ai2_) (@ahH_))) (And.intro (And.intro (@akg_) (@akG_)) (And.intro (@ajL_) (@amb_)))) (And.intro (And.intro (@ahj_) (And.intro (@alv_) (@alq_))) (And.intro (And.intro (@akt_) (@amN_)) (And.intro (@ahc_) (@aiE_)))))) (And.intro (And.intro (And.intro (And.intro (@aj6_) (And.intro (@aeJ_) (@ahg_))) (And.intro (And.intro (@ajV_) (@agY_)) (And.intro (@agW_) (@amU_)))) (And.intro (And.intro (@amm_) (And.intro (@ana_) (@amQ_))) (And.intro (And.intro (@amx_) (@ajJ_)) (And.intro (@akj_) (@aj5_))))) (And.intro (And.intro (And.intro (@akw_) (And.intro (@als_) (@aj8_))) (And.intro (And.intro (@akU_) (@ak6_)) (And.intro (@amO_) (@ak5_)))) (And.intro (And.intro (@apL_) (And.intro (@aof_) (@aos_))) (And.intro (And.intro (@aoI_) (@ak2_)) (And.intro (@ags_) (@ahv_)))))))
def S1:=And.intro (And.intro (And.intro (And.intro (And.intro (And.intro (And.intro (And.intro (@aku_) (@amA_)) (And.intro (@amP_) (And.intro (@aoT_) (@amk_)))) (And.intro (And.intro (@aou_) (@qO_)) (And.intro (@qM_) (And.intro (@zO_) (@ahA_))))) (And.intro (And.intro (And.intro (@aff_) (@acM_)) (And.intro (@ajk_) (And.intro (@WN_) (@akO_)))) (And.intro (And.intro (@akk_) (@beq_true)) (And.intro (@beq_false) (And.intro (@Bool.not_true) (@Bool.not_false)))))) (And.intro (And.intro (And.intro (And.intro (@Md.next_seq) (@Md.next_any)) (And.intro (@Md.next_qui) (And.intro (@Md.next_sof) (@acl_)))) (And.intro (And.intro (@abP_) (@acF_)) (And.intro (@XW_) (And.intro (@Ke_) (@XT_))))) (And.intro (And.intro (And.intro (@anX_) (@am3_)) (And.intro (@aj4_) (And.intro (@aju_) (@alp_)))) (And.intro (And.intro (@aoH_) (And.intro (@amK_) (@anc_))) (And.intro (@amT_) (And.intro (@anl_) (@am1_))))))) (And.intro (And.intro (And.intro (And.intro (And.intro (@ae5_) (@afX_)) (And.intro (@afT_) (And.intro (@aet_) (@aic_)))) (And.intro (And.intro (@aeL_) (@aeM_)) (And.intro (@Ky_) (And.intro (@ae8_) (@aeB_))))) (And.intro (And.intro (And.intro (@af0_) (@aeS_)) (And.intro (@aeE_) (And.intro (@aeC_) (@aif_)))) (And.intro (And.intro (@ab7_) (And.intro (@JP_) (@aev_))) (And.intro (@Vl_) (And.intro (@V1_) (@QB_)))))) (And.intro (And.intro (And.intro (And.intro (@QC_) (@VF_)) (And.intro (@VU_) (And.intro (@afY_) (@XO_)))) (And.intro (And.intro (@XR_) (@ack_)) (And.intro (@Xw_) (And.intro (@X2_) (@ac2_))))) (And.intro (And.intro (And.intro (@XQ_) (@XE_)) (And.intro (@abD_) (And.intro (@acq_) (@adg_)))) (And.intro (And.intro (@abj_) (And.intro (@acx_) (@ae0_))) (And.intro (@acV_) (And.intro (@acy_) (@abT_)))))))) (And.intro (And.intro (And.intro (And.intro (And.intro (And.intro (@aci_) (@acn_)) (And.intro (@adj_) (And.intro (@acv_) (@acL_)))) (And.intro (And.intro (@acm_) (@afB_)) (And.intro (@aag_) (And.intro (@QE_) (@abI_))))) (And.intro (And.intro (And.intro (@X0_) (@Xy_)) (And.intro (@ZO_) (And.intro (@ZV_) (@X5_)))) (And.intro (And.intro (@Kf_) (And.intro (@add_) (@Jg_))) (And.intro (@Xl_) (And.intro (@aaa_) (@JJ_)))))) (And.intro (And.intro (And.intro (And.intro (@Jf_) (@aaU_)) (And.intro (@J2_) (And.intro (@JY_) (@aaE_)))) (And.intro (And.intro (@ab1_) (@abL_)) (And.intro (@ac9_) (And.intro (@abX_) (@aez_))))) (And.intro (And.intro (And.intro (@acu_) (@ks_)) (And.intro (@kn_) (And.intro (@acP_) (@acG_)))) (And.intro (And.intro (@abS_) (And.intro (@abn_) (@ach_))) (And.intro (@abQ_) (And.intro (@afN_) (@W3_))))))) (And.intro (And.intro (And.intro (And.intro (And.intro (@Qw_) (@abV_)) (And.intro (@X1_) (And.intro (@Kg_) (@w9_)))) (And.intro (And.intro (@Zu_) (@Xx_)) (And.intro (@XX_) (And.intro (@abU_) (@JG_))))) (And.intro (And.intro (And.intro (@Xd_) (@W5_)) (And.intro (@Xm_) (And.intro (@Q8_) (@aaq_)))) (And.intro (And.intro (@JL_) (And.intro (@JT_) (@W4_))) (And.intro (@acs_) (And.intro (@abF_) (@abw_)))))) (And.intro (And.intro (And.intro (And.intro (@abm_) (@afs_)) (And.intro (@acd_) (And.intro (@abx_) (@acb_)))) (And.intro (And.intro (@ac1_) (@ado_)) (And.intro (@abc_) (And.intro (@acp_) (@aa3_))))) (And.intro (And.intro (And.intro (@acB_) (@aeT_)) (And.intro (@aao_) (And.intro (@Qu_) (@ab0_)))) (And.intro (And.intro (@XA_) (And.intro (@XH_) (@ZK_))) (And.intro (@ZT_) (And.intro (@XV_) (@XI_))))))))) (And.intro (And.intro (And.intro (And.intro (And.intro (And.intro (And.intro (@abu_) (@Jw_)) (And.intro (@Jh_) (And.intro (@aaI_) (@Xp_)))) (And.intro (And.intro (@J0_) (@W0_)) (And.intro (@Q4_) (And.intro (@Je_) (@aaG_))))) (And.intro (And.intro (And.intro (@ahQ_) (@agB_)) (And.intro (@aaQ_) (And.intro (@agF_) (@ai4_)))) (And.intro (And.intro (@agZ_) (And.intro (@ahD_) (@agV_))) (And.intro (@aiz_) (And.intro (@ahb_) (@agv_)))))) (And.intro (And.intro (And.intro (And.intro (@ajH_) (@aoK_)) (And.intro (@Wq_) (And.intro (@agf_) (@ahC_)))) (And.intro (And.intro (@agx_) (@aiS_)) (And.intro (@aiy_) (And.intro (@ahp_) (@ahq_))))) (And.intro (And.intro (And.intro (@amF_) (@agl_)) (And.intro (@amV_) (And.intro (@V6_) (@aav_)))) (And.intro (And.intro (@wL_) (And.intro (@aoY_) (@anO_))) (And.intro (@ajh_) (And.intro (@afd_) (@acU_))))))) (And.intro (And.intro (And.intro (And.intro (And.intro (@acX_) (@ac8_)) (And.intro (@aes_) (And.intro (@amu_) (@alY_)))) (And.intro (And.intro (@ahV_) (@abE_)) (And.intro (@aap_) (And.intro (@aab_) (@W1_))))) (And.intro (And.intro (And.intro (@abh_) (@al8_)) (And.intro (@ang_) (And.intro (@aiO_) (@adq_)))) (And.intro (And.intro (@W2_) (And.intro (@WG_) (@W8_))) (And.intro (@ac7_) (And.intro (@ama_) (@anx_)))))) (And.intro (And.intro (And.intro (And.intro (@ah1_) (@adm_)) (And.intro (@aaz_) (And.intro (@WV_) (@W7_)))) (And.intro (And.intro (@adc_) (@aox_)) (And.intro (@aoJ_) (And.intro (@alf_) (@aeI_))))) (And.intro (And.intro (And.intro (@abO_) (@abG_)) (And.intro (@adk_) (And.intro (@aeX_) (@ajZ_)))) (And.intro (And.intro (@ajX_) (And.intro (@VR_) (@anh_))) (And.intro (@aa0_) (And.intro (@Vf_) (@jP_)))))))) (And.intro (And.intro (And.intro (And.intro (And.intro (And.intro (@apv_) (@amt_)) (And.intro (@aoL_) (And.intro (@aoR_) (@K9_)))) (And.intro (And.intro (@X4_) (@zS_)) (And.intro (@q9_) (And.intro (@jW_) (@jm_))))) (And.intro (And.intro (And.intro (@zF_) (@zE_)) (And.intro (@aki_) (And.intro (@ak8_) (@aia_)))) (And.intro (And.intro (@akL_) (And.intro (@J5_) (@aft_))) (And.intro (@v8_) (And.intro (@aeV_) (@aby_)))))) (And.intro (And.intro (And.intro (And.intro (@ak0_) (@aiX_)) (And.intro (@ZE_) (And.intro (@ajQ_) (@ahG_)))) (And.intro (And.intro (@agS_) (@aoA_)) (And.intro (@aoE_) (And.intro (@Option.map_some.{0,0}) (@Option.map_none.{0,0}))))) (And.intro (And.intro (And.intro (@KV_) (@Ve_)) (And.intro (@Z0_) (And.intro (@afh_) (@VB_)))) (And.intro (And.intro (@VC_) (And.intro (@KU_) (@ajm_))) (And.intro (@aji_) (And.intro (@or_i) (@apR_))))))) (And.intro (And.intro (And.intro (And.intro (And.intro (@KP_) (@K8_)) (And.intro (@X3_) (And.intro (@ze_) (@List.cons_append.{0})))) (And.intro (And.intro (@List.nil_append.{0}) (@List.contains_cons.{0})) (And.intro (@List.contains_nil.{0}) (And.intro (@Bool.or_false) (@Bool.false_or))))) (And.intro (And.intro (And.intro (@Bool.or_true) (@Bool.true_or)) (And.intro (@Bool.false_eq_true) (And.intro (@We_) (@wz_)))) (And.intro (And.intro (@Kh_) (And.intro (@adB_) (@agt_))) (And.intro (@Nat.add_sub_cancel_left) (And.intro (@List.set_set.{0}) (@Int.toNat_natCast)))))) (And.intro (And.intro (And.intro (And.intro (@Nat.mul_one) (@Nat.zero_add)) (And.intro (@Nat.add_zero) (And.intro (@ge_iff_le.{0}) (@gt_iff_lt.{0})))) (And.intro (And.intro (@beq_self_eq_true.{0}) (@apW_)) (And.intro (@apQ_) (And.intro (@ajI_) (@akQ_))))) (And.intro (And.intro (And.intro (@aoa_) (@anQ_)) (And.intro (@aod_) (And.intro (@aok_) (@apK_)))) (And.intro (And.intro (@apA_) (And.intro (@amL_) (@amM_))) (And.intro (@aom_) (And.intro (@anm_) (@am7_)))))))))
end Go.Sx
end
section
open Go Go.Proofs Go.Sx
namespace Go.Proofs
theorem Tryz.ix9:ixT Tryz.prog 9= .str:=id (by kernel_rfl)
theorem Tryz.ix22:ixT Tryz.prog 22= .sl (true,3):=id (by kernel_rfl)
theorem Tryz.ix30:ixT Tryz.prog 30= .sl (true,32):=id (by kernel_rfl)
theorem Tryz.ix57:ixT Tryz.prog 57= .sl (false,1):=id (by kernel_rfl)
theorem Tryz.ix70:ixT Tryz.prog 70= .sl (true,35):=id (by kernel_rfl)
theorem Tryz.ix58:ixT Tryz.prog 58= .sl (true,35):=id (by kernel_rfl)
theorem Tryz.ix81:ixT Tryz.prog 81= .sl (true,34):=id (by kernel_rfl)
theorem Tryz.ix29:ixT Tryz.prog 29= .sl (true,2):=id (by kernel_rfl)
theorem Tryz.ix28:ixT Tryz.prog 28= .sl (false,1):=id (by kernel_rfl)
theorem Tryz.ix54:ixT Tryz.prog 54= .sl (true,2):=id (by kernel_rfl)
theorem Tryz.ix155:ixT Tryz.prog 155= .sl (false,1):=id (by kernel_rfl)
theorem Tryz.ix61:ixT Tryz.prog 61= .sl (true,2):=id (by kernel_rfl)
theorem Tryz.ix83:ixT Tryz.prog 83= .sl (true,34):=id (by kernel_rfl)
theorem Tryz.ix176:ixT Tryz.prog 176= .arr 16 (false,1):=id (by kernel_rfl)
theorem Tryz.ix37:ixT Tryz.prog 37= .arr 32 (false,1):=id (by kernel_rfl)
theorem Tryz.ix204:ixT Tryz.prog 204= .arr 4 (false,1):=id (by kernel_rfl)
theorem Tryz.ix119:ixT Tryz.prog 119= .sl (false,1):=id (by kernel_rfl)
theorem Tryz.ix223:ixT Tryz.prog 223= .arr 64 (false,1):=id (by kernel_rfl)
theorem Tryz.ix244:ixT Tryz.prog 244= .arr 8 (false,1):=id (by kernel_rfl)
theorem Tryz.ix237:ixT Tryz.prog 237= .sl (true,34):=id (by kernel_rfl)
theorem Tryz.ix273:ixT Tryz.prog 273= .arr 8 (false,1):=id (by kernel_rfl)
theorem Tryz.ix274:ixT Tryz.prog 274= .arr 64 (false,1):=id (by kernel_rfl)
theorem Tryz.ix292:ixT Tryz.prog 292= .arr 4 (false,1):=id (by kernel_rfl)
theorem Tryz.ix297:ixT Tryz.prog 297= .arr 16 (false,1):=id (by kernel_rfl)
theorem Tryz.ix263:ixT Tryz.prog 263= .sl (true,2):=id (by kernel_rfl)
theorem Tryz.ag32:z0_ Tryz.prog 32=some (true,4):=id (by kernel_rfl)
theorem Tryz.ag37:z0_ Tryz.prog 37=some (true,32):=id (by kernel_rfl)
theorem Tryz.ag43:z0_ Tryz.prog 43=some (true,2):=id (by kernel_rfl)
theorem Tryz.ag30:z0_ Tryz.prog 30=some (false,1):=id (by kernel_rfl)
theorem Tryz.ag74:z0_ Tryz.prog 74=some (true,35):=id (by kernel_rfl)
theorem Tryz.ag75:z0_ Tryz.prog 75=some (true,35):=id (by kernel_rfl)
theorem Tryz.ag3:z0_ Tryz.prog 3=some (false,1):=id (by kernel_rfl)
theorem Tryz.ag9:z0_ Tryz.prog 9=some (false,1):=id (by kernel_rfl)
theorem Tryz.ag104:z0_ Tryz.prog 104=some (true,34):=id (by kernel_rfl)
theorem Tryz.ag107:z0_ Tryz.prog 107=some (true,34):=id (by kernel_rfl)
theorem Tryz.ag114:z0_ Tryz.prog 114=some (true,3):=id (by kernel_rfl)
theorem Tryz.ag117:z0_ Tryz.prog 117=some (true,4):=id (by kernel_rfl)
theorem Tryz.ag123:z0_ Tryz.prog 123=some (true,2):=id (by kernel_rfl)
theorem Tryz.ag4:z0_ Tryz.prog 4=some (false,1):=id (by kernel_rfl)
theorem Tryz.ag29:z0_ Tryz.prog 29=some (false,1):=id (by kernel_rfl)
theorem Tryz.ag137:z0_ Tryz.prog 137=some (true,3):=id (by kernel_rfl)
theorem Tryz.ag22:z0_ Tryz.prog 22=some (false,1):=id (by kernel_rfl)
theorem Tryz.ag28:z0_ Tryz.prog 28=some (false,1):=id (by kernel_rfl)
theorem Tryz.ag134:z0_ Tryz.prog 134=some (false,1):=id (by kernel_rfl)
theorem Tryz.ag148:z0_ Tryz.prog 148=some (true,2):=id (by kernel_rfl)
theorem Tryz.ag154:z0_ Tryz.prog 154=some (true,3):=id (by kernel_rfl)
theorem Tryz.ag57:z0_ Tryz.prog 57=some (false,1):=id (by kernel_rfl)
theorem Tryz.ag70:z0_ Tryz.prog 70=some (false,1):=id (by kernel_rfl)
theorem Tryz.ag158:z0_ Tryz.prog 158=some (true,2):=id (by kernel_rfl)
theorem Tryz.ag166:z0_ Tryz.prog 166=some (true,3):=id (by kernel_rfl)
theorem Tryz.ag5:z0_ Tryz.prog 5=some (false,1):=id (by kernel_rfl)
theorem Tryz.ag81:z0_ Tryz.prog 81=some (false,1):=id (by kernel_rfl)
theorem Tryz.ag93:z0_ Tryz.prog 93=some (false,1):=id (by kernel_rfl)
theorem Tryz.ag204:z0_ Tryz.prog 204=some (true,4):=id (by kernel_rfl)
theorem Tryz.ag212:z0_ Tryz.prog 212=some (true,3):=id (by kernel_rfl)
theorem Tryz.ag25:z0_ Tryz.prog 25=some (false,1):=id (by kernel_rfl)
theorem Tryz.ag178:z0_ Tryz.prog 178=some (true,18):=id (by kernel_rfl)
theorem Tryz.ag223:z0_ Tryz.prog 223=some (true,64):=id (by kernel_rfl)
theorem Tryz.ag228:z0_ Tryz.prog 228=some (false,1):=id (by kernel_rfl)
theorem Tryz.ag119:z0_ Tryz.prog 119=some (false,1):=id (by kernel_rfl)
theorem Tryz.ag241:z0_ Tryz.prog 241=some (true,34):=id (by kernel_rfl)
theorem Tryz.ag244:z0_ Tryz.prog 244=some (true,8):=id (by kernel_rfl)
theorem Tryz.ag202:z0_ Tryz.prog 202=some (false,1):=id (by kernel_rfl)
theorem Tryz.ag260:z0_ Tryz.prog 260=some (true,75):=id (by kernel_rfl)
theorem Tryz.ag118:z0_ Tryz.prog 118=some (false,1):=id (by kernel_rfl)
theorem Tryz.ag268:z0_ Tryz.prog 268=some (true,34):=id (by kernel_rfl)
theorem Tryz.ag273:z0_ Tryz.prog 273=some (true,8):=id (by kernel_rfl)
theorem Tryz.ag274:z0_ Tryz.prog 274=some (true,64):=id (by kernel_rfl)
theorem Tryz.ag292:z0_ Tryz.prog 292=some (true,4):=id (by kernel_rfl)
theorem Tryz.ag294:z0_ Tryz.prog 294=some (true,36):=id (by kernel_rfl)
theorem Tryz.ag291:z0_ Tryz.prog 291=some (false,1):=id (by kernel_rfl)
theorem Tryz.ag258:z0_ Tryz.prog 258=some (false,1):=id (by kernel_rfl)
theorem Tryz.ag300:z0_ Tryz.prog 300=some (true,2):=id (by kernel_rfl)
theorem Tryz.ag298:z0_ Tryz.prog 298=some (false,1):=id (by kernel_rfl)
theorem Tryz.ag305:z0_ Tryz.prog 305=some (false,1):=id (by kernel_rfl)
theorem Tryz.ag237:z0_ Tryz.prog 237=some (false,1):=id (by kernel_rfl)
theorem Tryz.ag297:z0_ Tryz.prog 297=some (true,16):=id (by kernel_rfl)
theorem Tryz.zr37:zK_ Tryz.prog 37=some (.agg (a8 (List.replicate 32 0))):=id (by kernel_rfl)
theorem Tryz.zr123:zK_ Tryz.prog 123=some (.agg #[(.pointer none),(.slice none 0 0)]):=id (by kernel_rfl)
theorem Tryz.zr9:zK_ Tryz.prog 9=some (vs []):=id (by kernel_rfl)
theorem Tryz.zr204:zK_ Tryz.prog 204=some (.agg (a8 (List.replicate 4 0))):=id (by kernel_rfl)
theorem Tryz.zr5:zK_ Tryz.prog 5=some (v8 0):=id (by kernel_rfl)
theorem Tryz.zr223:zK_ Tryz.prog 223=some (.agg (a8 (List.replicate 64 0))):=id (by kernel_rfl)
theorem Tryz.zr244:zK_ Tryz.prog 244=some (.agg (a32 (List.replicate 8 0))):=id (by kernel_rfl)
theorem Tryz.zr274:zK_ Tryz.prog 274=some (.agg (a32 (List.replicate 64 0))):=id (by kernel_rfl)
theorem Tryz.fl32_3:jg_ Tryz.prog 32 3=some (3,(false,1)):=id (by kernel_rfl)
theorem Tryz.fl74_0:jg_ Tryz.prog 74 0=some (0,(true,32)):=id (by kernel_rfl)
theorem Tryz.fl74_1:jg_ Tryz.prog 74 1=some (32,(false,1)):=id (by kernel_rfl)
theorem Tryz.fl74_2:jg_ Tryz.prog 74 2=some (33,(false,1)):=id (by kernel_rfl)
theorem Tryz.fl74_3:jg_ Tryz.prog 74 3=some (34,(false,1)):=id (by kernel_rfl)
theorem Tryz.fl107_0:jg_ Tryz.prog 107 0=some (0,(true,32)):=id (by kernel_rfl)
theorem Tryz.fl107_1:jg_ Tryz.prog 107 1=some (32,(false,1)):=id (by kernel_rfl)
theorem Tryz.fl107_2:jg_ Tryz.prog 107 2=some (33,(false,1)):=id (by kernel_rfl)
theorem Tryz.fl104_0:jg_ Tryz.prog 104 0=some (0,(true,32)):=id (by kernel_rfl)
theorem Tryz.fl104_1:jg_ Tryz.prog 104 1=some (32,(false,1)):=id (by kernel_rfl)
theorem Tryz.fl104_2:jg_ Tryz.prog 104 2=some (33,(false,1)):=id (by kernel_rfl)
theorem Tryz.fl114_2:jg_ Tryz.prog 114 2=some (2,(false,1)):=id (by kernel_rfl)
theorem Tryz.fl114_0:jg_ Tryz.prog 114 0=some (0,(false,1)):=id (by kernel_rfl)
theorem Tryz.fl114_1:jg_ Tryz.prog 114 1=some (1,(false,1)):=id (by kernel_rfl)
theorem Tryz.fl32_2:jg_ Tryz.prog 32 2=some (2,(false,1)):=id (by kernel_rfl)
theorem Tryz.fl137_1:jg_ Tryz.prog 137 1=some (1,(false,1)):=id (by kernel_rfl)
theorem Tryz.fl137_2:jg_ Tryz.prog 137 2=some (2,(false,1)):=id (by kernel_rfl)
theorem Tryz.fl137_0:jg_ Tryz.prog 137 0=some (0,(false,1)):=id (by kernel_rfl)
theorem Tryz.fl32_1:jg_ Tryz.prog 32 1=some (1,(false,1)):=id (by kernel_rfl)
theorem Tryz.fl117_3:jg_ Tryz.prog 117 3=some (3,(false,1)):=id (by kernel_rfl)
theorem Tryz.fl117_0:jg_ Tryz.prog 117 0=some (0,(false,1)):=id (by kernel_rfl)
theorem Tryz.fl117_2:jg_ Tryz.prog 117 2=some (2,(false,1)):=id (by kernel_rfl)
theorem Tryz.fl117_1:jg_ Tryz.prog 117 1=some (1,(false,1)):=id (by kernel_rfl)
theorem Tryz.fl32_0:jg_ Tryz.prog 32 0=some (0,(false,1)):=id (by kernel_rfl)
theorem Tryz.fl75_2:jg_ Tryz.prog 75 2=some (33,(false,1)):=id (by kernel_rfl)
theorem Tryz.fl148_1:jg_ Tryz.prog 148 1=some (1,(false,1)):=id (by kernel_rfl)
theorem Tryz.fl148_0:jg_ Tryz.prog 148 0=some (0,(false,1)):=id (by kernel_rfl)
theorem Tryz.fl154_0:jg_ Tryz.prog 154 0=some (0,(false,1)):=id (by kernel_rfl)
theorem Tryz.fl154_1:jg_ Tryz.prog 154 1=some (1,(false,1)):=id (by kernel_rfl)
theorem Tryz.fl154_2:jg_ Tryz.prog 154 2=some (2,(false,1)):=id (by kernel_rfl)
theorem Tryz.fl158_0:jg_ Tryz.prog 158 0=some (0,(false,1)):=id (by kernel_rfl)
theorem Tryz.fl158_1:jg_ Tryz.prog 158 1=some (1,(false,1)):=id (by kernel_rfl)
theorem Tryz.fl75_1:jg_ Tryz.prog 75 1=some (32,(false,1)):=id (by kernel_rfl)
theorem Tryz.fl75_3:jg_ Tryz.prog 75 3=some (34,(false,1)):=id (by kernel_rfl)
theorem Tryz.fl178_2:jg_ Tryz.prog 178 2=some (2,(true,16)):=id (by kernel_rfl)
theorem Tryz.fl178_0:jg_ Tryz.prog 178 0=some (0,(false,1)):=id (by kernel_rfl)
theorem Tryz.fl178_1:jg_ Tryz.prog 178 1=some (1,(false,1)):=id (by kernel_rfl)
theorem Tryz.fl123_0:jg_ Tryz.prog 123 0=some (0,(true,2)):=id (by kernel_rfl)
theorem Tryz.fl43_0:jg_ Tryz.prog 43 0=some (0,(false,1)):=id (by kernel_rfl)
theorem Tryz.fl43_1:jg_ Tryz.prog 43 1=some (1,(false,1)):=id (by kernel_rfl)
theorem Tryz.fl212_1:jg_ Tryz.prog 212 1=some (1,(false,1)):=id (by kernel_rfl)
theorem Tryz.fl212_0:jg_ Tryz.prog 212 0=some (0,(false,1)):=id (by kernel_rfl)
theorem Tryz.fl166_2:jg_ Tryz.prog 166 2=some (2,(false,1)):=id (by kernel_rfl)
theorem Tryz.fl166_1:jg_ Tryz.prog 166 1=some (1,(false,1)):=id (by kernel_rfl)
theorem Tryz.fl75_0:jg_ Tryz.prog 75 0=some (0,(true,32)):=id (by kernel_rfl)
theorem Tryz.fl212_2:jg_ Tryz.prog 212 2=some (2,(false,1)):=id (by kernel_rfl)
theorem Tryz.fl166_0:jg_ Tryz.prog 166 0=some (0,(false,1)):=id (by kernel_rfl)
theorem Tryz.fl121_1:jg_ Tryz.prog 121 1=some (1,(false,1)):=id (by kernel_rfl)
theorem Tryz.fl121_0:jg_ Tryz.prog 121 0=some (0,(false,1)):=id (by kernel_rfl)
theorem Tryz.fl268_1:jg_ Tryz.prog 268 1=some (1,(false,1)):=id (by kernel_rfl)
theorem Tryz.fl268_0:jg_ Tryz.prog 268 0=some (0,(false,1)):=id (by kernel_rfl)
theorem Tryz.fl268_2:jg_ Tryz.prog 268 2=some (2,(true,32)):=id (by kernel_rfl)
theorem Tryz.fl241_0:jg_ Tryz.prog 241 0=some (0,(true,32)):=id (by kernel_rfl)
theorem Tryz.fl241_1:jg_ Tryz.prog 241 1=some (32,(false,1)):=id (by kernel_rfl)
theorem Tryz.fl241_2:jg_ Tryz.prog 241 2=some (33,(false,1)):=id (by kernel_rfl)
theorem Tryz.fl260_4:jg_ Tryz.prog 260 4=some (74,(false,1)):=id (by kernel_rfl)
theorem Tryz.fl260_3:jg_ Tryz.prog 260 3=some (73,(false,1)):=id (by kernel_rfl)
theorem Tryz.fl260_1:jg_ Tryz.prog 260 1=some (1,(true,8)):=id (by kernel_rfl)
theorem Tryz.fl300_0:jg_ Tryz.prog 300 0=some (0,(false,1)):=id (by kernel_rfl)
theorem Tryz.fl300_1:jg_ Tryz.prog 300 1=some (1,(false,1)):=id (by kernel_rfl)
theorem Tryz.fl294_0:jg_ Tryz.prog 294 0=some (0,(false,1)):=id (by kernel_rfl)
theorem Tryz.fl294_1:jg_ Tryz.prog 294 1=some (1,(false,1)):=id (by kernel_rfl)
theorem Tryz.fl294_2:jg_ Tryz.prog 294 2=some (2,(true,34)):=id (by kernel_rfl)
theorem Tryz.fl260_0:jg_ Tryz.prog 260 0=some (0,(false,1)):=id (by kernel_rfl)
theorem Tryz.fl260_2:jg_ Tryz.prog 260 2=some (9,(true,64)):=id (by kernel_rfl)
theorem Tryz.cv5_3:cvT Tryz.prog 5 3= .int .i64:=id (by kernel_rfl)
theorem Tryz.cv3_5:cvT Tryz.prog 3 5= .int .u8:=id (by kernel_rfl)
theorem Tryz.cv202_5:cvT Tryz.prog 202 5= .int .u8:=id (by kernel_rfl)
theorem Tryz.cv119_9:cvT Tryz.prog 119 9= .bytesStr:=id (by kernel_rfl)
theorem Tryz.cv3_221:cvT Tryz.prog 3 221= .int .u64:=id (by kernel_rfl)
theorem Tryz.cv221_3:cvT Tryz.prog 221 3= .int .i64:=id (by kernel_rfl)
theorem Tryz.cv118_261:cvT Tryz.prog 118 261= .no:=id (by kernel_rfl)
theorem Tryz.cv261_118:cvT Tryz.prog 261 118= .no:=id (by kernel_rfl)
theorem Tryz.cv3_258:cvT Tryz.prog 3 258= .int .u64:=id (by kernel_rfl)
theorem Tryz.cv258_5:cvT Tryz.prog 258 5= .int .u8:=id (by kernel_rfl)
theorem Tryz.cv5_202:cvT Tryz.prog 5 202= .int .u32:=id (by kernel_rfl)
theorem Tryz.cv221_202:cvT Tryz.prog 221 202= .int .u32:=id (by kernel_rfl)
theorem Tryz.cv3_301:cvT Tryz.prog 3 301= .no:=id (by kernel_rfl)
theorem Tryz.cv3_305:cvT Tryz.prog 3 305= .int .u64:=id (by kernel_rfl)
theorem Tryz.cv301_3:cvT Tryz.prog 301 3= .no:=id (by kernel_rfl)
set_option linter.defProp false
def Tryz.fx:=And.intro (And.intro (And.intro (And.intro (And.intro (And.intro (And.intro (@Tryz.ix9) (@Tryz.ix22)) (And.intro (@Tryz.ix30) (@Tryz.ix57))) (And.intro (And.intro (@Tryz.ix70) (@Tryz.ix58)) (And.intro (@Tryz.ix81) (And.intro (@Tryz.ix29) (@Tryz.ix28))))) (And.intro (And.intro (And.intro (@Tryz.ix54) (@Tryz.ix155)) (And.intro (@Tryz.ix61) (And.intro (@Tryz.ix83) (@Tryz.ix176)))) (And.intro (And.intro (@Tryz.ix37) (@Tryz.ix204)) (And.intro (@Tryz.ix119) (And.intro (@Tryz.ix223) (@Tryz.ix244)))))) (And.intro (And.intro (And.intro (And.intro (@Tryz.ix237) (@Tryz.ix273)) (And.intro (@Tryz.ix274) (And.intro (@Tryz.ix292) (@Tryz.ix297)))) (And.intro (And.intro (@Tryz.ix263) (@Tryz.ag32)) (And.intro (@Tryz.ag37) (And.intro (@Tryz.ag43) (@Tryz.ag30))))) (And.intro (And.intro (And.intro (@Tryz.ag74) (@Tryz.ag75)) (And.intro (@Tryz.ag3) (And.intro (@Tryz.ag9) (@Tryz.ag104)))) (And.intro (And.intro (@Tryz.ag107) (@Tryz.ag114)) (And.intro (@Tryz.ag117) (And.intro (@Tryz.ag123) (@Tryz.ag4))))))) (And.intro (And.intro (And.intro (And.intro (And.intro (@Tryz.ag29) (@Tryz.ag137)) (And.intro (@Tryz.ag22) (@Tryz.ag28))) (And.intro (And.intro (@Tryz.ag134) (@Tryz.ag148)) (And.intro (@Tryz.ag154) (And.intro (@Tryz.ag57) (@Tryz.ag70))))) (And.intro (And.intro (And.intro (@Tryz.ag158) (@Tryz.ag166)) (And.intro (@Tryz.ag5) (And.intro (@Tryz.ag81) (@Tryz.ag93)))) (And.intro (And.intro (@Tryz.ag204) (@Tryz.ag212)) (And.intro (@Tryz.ag25) (And.intro (@Tryz.ag178) (@Tryz.ag223)))))) (And.intro (And.intro (And.intro (And.intro (@Tryz.ag228) (@Tryz.ag119)) (And.intro (@Tryz.ag241) (And.intro (@Tryz.ag244) (@Tryz.ag202)))) (And.intro (And.intro (@Tryz.ag260) (@Tryz.ag118)) (And.intro (@Tryz.ag268) (And.intro (@Tryz.ag273) (@Tryz.ag274))))) (And.intro (And.intro (And.intro (@Tryz.ag292) (@Tryz.ag294)) (And.intro (@Tryz.ag291) (And.intro (@Tryz.ag258) (@Tryz.ag300)))) (And.intro (And.intro (@Tryz.ag298) (@Tryz.ag305)) (And.intro (@Tryz.ag237) (And.intro (@Tryz.ag297) (@Tryz.fl32_3)))))))) (And.intro (And.intro (And.intro (And.intro (And.intro (And.intro (@Tryz.fl74_0) (@Tryz.fl74_1)) (And.intro (@Tryz.fl74_2) (@Tryz.fl74_3))) (And.intro (And.intro (@Tryz.fl107_0) (@Tryz.fl107_1)) (And.intro (@Tryz.fl107_2) (And.intro (@Tryz.fl104_0) (@Tryz.fl104_1))))) (And.intro (And.intro (And.intro (@Tryz.fl104_2) (@Tryz.fl114_2)) (And.intro (@Tryz.fl114_0) (And.intro (@Tryz.fl114_1) (@Tryz.fl32_2)))) (And.intro (And.intro (@Tryz.fl137_1) (@Tryz.fl137_2)) (And.intro (@Tryz.fl137_0) (And.intro (@Tryz.fl32_1) (@Tryz.fl117_3)))))) (And.intro (And.intro (And.intro (And.intro (@Tryz.fl117_0) (@Tryz.fl117_2)) (And.intro (@Tryz.fl117_1) (And.intro (@Tryz.fl32_0) (@Tryz.fl75_2)))) (And.intro (And.intro (@Tryz.fl148_1) (@Tryz.fl148_0)) (And.intro (@Tryz.fl154_0) (And.intro (@Tryz.fl154_1) (@Tryz.fl154_2))))) (And.intro (And.intro (And.intro (@Tryz.fl158_0) (@Tryz.fl158_1)) (And.intro (@Tryz.fl75_1) (And.intro (@Tryz.fl75_3) (@Tryz.fl178_2)))) (And.intro (And.intro (@Tryz.fl178_0) (@Tryz.fl178_1)) (And.intro (@Tryz.fl123_0) (And.intro (@Tryz.fl43_0) (@Tryz.fl43_1))))))) (And.intro (And.intro (And.intro (And.intro (And.intro (@Tryz.fl212_1) (@Tryz.fl212_0)) (And.intro (@Tryz.fl166_2) (And.intro (@Tryz.fl166_1) (@Tryz.fl75_0)))) (And.intro (And.intro (@Tryz.fl212_2) (@Tryz.fl166_0)) (And.intro (@Tryz.fl121_1) (And.intro (@Tryz.fl121_0) (@Tryz.fl268_1))))) (And.intro (And.intro (And.intro (@Tryz.fl268_0) (@Tryz.fl268_2)) (And.intro (@Tryz.fl241_0) (And.intro (@Tryz.fl241_1) (@Tryz.fl241_2)))) (And.intro (And.intro (@Tryz.fl260_4) (@Tryz.fl260_3)) (And.intro (@Tryz.fl260_1) (And.intro (@Tryz.fl300_0) (@Tryz.fl300_1)))))) (And.intro (And.intro (And.intro (And.intro (@Tryz.fl294_0) (@Tryz.fl294_1)) (And.intro (@Tryz.fl294_2) (And.intro (@Tryz.fl260_0) (@Tryz.fl260_2)))) (And.intro (And.intro (@Tryz.cv5_3) (@Tryz.cv3_5)) (And.intro (@Tryz.cv202_5) (And.intro (@Tryz.cv119_9) (@Tryz.cv3_221))))) (And.intro (And.intro (And.intro (@Tryz.cv221_3) (@Tryz.cv118_261)) (And.intro (@Tryz.cv261_118) (And.intro (@Tryz.cv3_258) (@Tryz.cv258_5)))) (And.intro (And.intro (@Tryz.cv5_202) (@Tryz.cv221_202)) (And.intro (@Tryz.cv3_301) (And.intro (@Tryz.cv3_305) (@Tryz.cv301_3))))))))
theorem kp {X A G:Prop} (x:X) (h:G) (e:X→A=G:=by intro x;(try simp(disch:=(first|assumption|omega| (simp only[jF_,jE_,UInt64.reduceToNat];try omega))) only[↓Sx.S0,Sx.S1,Tryz.fx,Nat.reduceAdd,Nat.reducePow,Int.reducePow,Nat.reduceBEq, ↓reduceIte,UInt8.reduceToNat,UInt16.reduceToNat,UInt32.reduceToNat,UInt64.reduceToNat,Int.reduceToNat,x]);exact rfl):A:=(e x).mpr h
section
variable {P:Program} {w0:World} {f:Fr} {L:zd_} {K:xF_} {N:Fr→zd_→Prop} {ops:Array Oper} {md:Md} {l:List Oper} {X G:Prop}
theorem ks {c:Code} (z:List Nat) [Sx.Steps c] (x:X) (h:G) (e:X→vcC P w0 z c f L (bsK K)=G:=by intro x;(try simp(disch:=(first|assumption|omega| (simp only[jF_,jE_,UInt64.reduceToNat];try omega))) only[↓Sx.S0,Sx.S1,Tryz.fx,Nat.reduceAdd,Nat.reducePow,Int.reducePow,Nat.reduceBEq, ↓reduceIte,UInt8.reduceToNat,UInt16.reduceToNat,UInt32.reduceToNat,UInt64.reduceToNat,Int.reduceToNat,x]);exact rfl):Cw P w0 c f L K:=Cw.go z ((e x).mpr h)
theorem ko (x:X) (h:G) (e:X→vcL P w0 ops true md l f L (owk P w0 ops (bsN N))=G:=by intro x;(try simp(disch:=(first|assumption|omega| (simp only[jF_,jE_,UInt64.reduceToNat];try omega))) only[↓Sx.S0,Sx.S1,Tryz.fx,Nat.reduceAdd,Nat.reducePow,Int.reducePow,Nat.reduceBEq, ↓reduceIte,UInt8.reduceToNat,UInt16.reduceToNat,UInt32.reduceToNat,UInt64.reduceToNat,Int.reduceToNat,x]);exact rfl) (he:md.eff=true:=by rfl):Ow P w0 ops md l f L N:=Ow.go he ((e x).mpr h)
theorem kq (x:X) (h:G) (e:X→vcL P w0 ops false md l f L (owk P w0 ops (bsN N))=G:=by intro x;(try simp(disch:=(first|assumption|omega| (simp only[jF_,jE_,UInt64.reduceToNat];try omega))) only[↓Sx.S0,Sx.S1,Tryz.fx,Nat.reduceAdd,Nat.reducePow,Int.reducePow,Nat.reduceBEq, ↓reduceIte,UInt8.reduceToNat,UInt16.reduceToNat,UInt32.reduceToNat,UInt64.reduceToNat,Int.reduceToNat,x]);exact rfl):Ow P w0 ops md l f L N:=Ow.goQ ((e x).mpr h)
end
theorem ke {α:Type} {X:Prop} {a b:α} (x:X) (e:X→a=b:=by intro x;(try simp(disch:=(first|assumption|omega| (simp only[jF_,jE_,UInt64.reduceToNat];try omega))) only[↓Sx.S0,Sx.S1,Tryz.fx,Nat.reduceAdd,Nat.reducePow,Int.reducePow,Nat.reduceBEq, ↓reduceIte,UInt8.reduceToNat,UInt16.reduceToNat,UInt32.reduceToNat,UInt64.reduceToNat,Int.reduceToNat,x]);exact rfl):a=b:=e x
theorem kn {A G:Prop} (h:G) (e:A=G:=by(try simp(disch:=(first|assumption|omega| (simp only[jF_,jE_,UInt64.reduceToNat];try omega))) only[jW_,jm_,List.cons_append,List.nil_append]);exact rfl):A:=e.mpr h
theorem kf {A G:Prop} (h:G) (e:A=G:=by simp only[List.size_toArray,List.length_cons,List.length_nil,Nat.reduceAdd,Nat.reduceSub,List.replicate_succ,List.replicate_zero,List.cons_append,List.nil_append];exact rfl):A:=e.mpr h
theorem kv {A G:Prop} (h:G) (e:A=G:=by simp only[qR_,pin,qO_,qM_,List.contains_cons,List.contains_nil,Nat.reduceBEq,Bool.or_false,Bool.false_or,Bool.or_true,Bool.true_or,Nat.reduceAdd, ↓reduceIte,Bool.false_eq_true];exact rfl):A:=e.mpr h
set_option maxRecDepth 10000
set_option maxHeartbeats 1000000
set_option linter.unusedSimpArgs false
theorem Jx_ (p v:Value) (E:TypeId) (n:Nat):zr_ (some (false,n)) (some (.cells #[p,v] E (0,0))) 0=some p:=(rfl)
theorem Js_ (p v:Value) (E:TypeId) (n:Nat):zr_ (some (false,n)) (some (.cells #[p,v] E (0,0))) 1=some v:=(rfl)
theorem akb_ (p v x:Value) (E:TypeId) (hx:Value.oneCell' x=true∧x.cells= #[x]):zp_ (some (false,1)) (some (.cells #[p,v] E (0,0))) 0 x=some (.cells #[x,v] E (0,0)):=by
 simp[zp_,hx,vH_]
theorem aeq_ (p v x:Value) (E:TypeId) (hx:Value.oneCell' x=true∧x.cells= #[x]):zp_ (some (false,1)) (some (.cells #[p,v] E (0,0))) 1 x=some (.cells #[p,x] E (0,0)):=by
 simp[zp_,hx,vH_]
theorem JK_ (p v:Value) (b o:Nat) (E:TypeId):zp_ (some (false,1)) (some (.cells #[p,v] E (0,0))) 0 (vp b o)=some (.cells #[vp b o,v] E (0,0)):=akb_ _ _ _ _ ⟨rfl,rfl⟩
theorem nilB (b o:Nat):qJ_ Tryz.prog .eql 118 (vp b o) (.pointer none)=some (.bool false):=by
 simp[qJ_,eqX,qw_,qE_,Tryz.underlying118,vp]
theorem amX_:qJ_ Tryz.prog .eql 118 (.pointer none) (.pointer none)=some (.bool true):=by
 simp[qJ_,eqX,qw_,qE_,Tryz.underlying118]
set_option linter.defProp false
def wZ_:=And.intro (And.intro (@Jx_) (@Js_)) (And.intro (@JK_) (And.intro (@nilB) (@amX_)))
theorem aqp_:liesAt Tryz.prog Tryz.prog.depth 123 ((#[Value.pointer none,Value.pointer none]:Array Value).size / Tryz.prog.cellsOf 123) 0 121 1=true:=id (by kernel_rfl)
theorem aggB:z0_ Tryz.prog 121=some (true,2):=id (by kernel_rfl)
theorem alr_ (x:Value) (w:World): (callFunc 182 #[x]).run Tryz.prog w= .ok (.value x) w:=by kernel_rfl
theorem wN_ (b:Nat) (p v:Value) (w:World) (hp:p= .pointer none∨p=vp b 0) (ho:w.heap[b]? =some (.cells #[p,v] 123 (0,0))):
  Rets Tryz.prog 161 #[vp b 0] w (fun v' D=> ∃o,D= [(b,o)]∧v'= .tuple #[]∧o= .cells #[vp b 0,v] 123 (0,0)):=by
 refine Rets.enterM Tryz.func161 rfl (rs:= []) Tryz.results161 Tryz.ntmps161 ho ?_
 refine kf ?_
 rcases hp with rfl|rfl
 ·first|with_reducible refine ks [] @wZ_ ?_|refine kp @wZ_ ?_
  refine Ow.toUnsafe rfl rfl (by kernel_rfl) rfl (qd_ (zS_ _ _ _)) (by simp) aggB (by decide) Tryz.underlying118 Tryz.underlying261 ?_
  refine Ow.callExt (v:=vp b 0) rfl rfl (fun w=>alr_ _ w) ?_
  refine Ow.ofUnsafe rfl rfl (by kernel_rfl) rfl (qd_ (zS_ _ _ _)) aggB aqp_ Tryz.underlying261 Tryz.underlying118 ?_
  refine ko @wZ_ ?_
  first|with_reducible refine ks [] @wZ_ ?_|refine kp @wZ_ ?_
  refine⟨_,_,_,(ke @wZ_),rfl,trivial, ?_⟩
  exact⟨rfl,rfl⟩
 ·first|with_reducible refine ks [2] @wZ_ ?_|refine kp @wZ_ ?_
  refine Cw.region ?_
  refine Ow.value rfl rfl rfl ?_
  refine Ow.value (v:=vp b 0) rfl rfl (by simp(disch:=(first|assumption|omega| (simp only[jF_,jE_,UInt64.reduceToNat];try omega))) only[↓Sx.S0,Sx.S1,Tryz.fx,wZ_,Nat.reduceAdd,Nat.reducePow,Int.reducePow,Nat.reduceBEq, ↓reduceIte,UInt8.reduceToNat,UInt16.reduceToNat,UInt32.reduceToNat,UInt64.reduceToNat,Int.reduceToNat,kO_]) ?_
  refine Ow.value (v:=vp b 0) rfl rfl (by simp(disch:=(first|assumption|omega| (simp only[jF_,jE_,UInt64.reduceToNat];try omega))) only[↓Sx.S0,Sx.S1,Tryz.fx,wZ_,Nat.reduceAdd,Nat.reducePow,Int.reducePow,Nat.reduceBEq, ↓reduceIte,UInt8.reduceToNat,UInt16.reduceToNat,UInt32.reduceToNat,UInt64.reduceToNat,Int.reduceToNat,kO_]) ?_
  refine Ow.value (v:=vp b 0) rfl rfl (by simp(disch:=(first|assumption|omega| (simp only[jF_,jE_,UInt64.reduceToNat];try omega))) only[↓Sx.S0,Sx.S1,Tryz.fx,wZ_,Nat.reduceAdd,Nat.reducePow,Int.reducePow,Nat.reduceBEq, ↓reduceIte,UInt8.reduceToNat,UInt16.reduceToNat,UInt32.reduceToNat,UInt64.reduceToNat,Int.reduceToNat,kO_]) ?_
  refine Ow.value rfl rfl rfl ?_
  refine Ow.neqSame rfl Tryz.underlying118 aggB rfl rfl ?_
  refine ko @wZ_ ?_
  first|with_reducible refine ks [] @wZ_ ?_|refine kp @wZ_ ?_
  refine⟨_,_,_,(ke @wZ_),rfl,trivial, ?_⟩
  exact⟨rfl,rfl⟩
end Go.Proofs
end
section
open Go Go.Proofs Go.Sx
namespace Go.Proofs
set_option maxRecDepth 10000
set_option maxHeartbeats 1000000
set_option linter.unusedSimpArgs false
set_option linter.defProp false
def XG_:=And.intro (And.intro (@Jx_) (@Js_)) (And.intro (@JK_) (And.intro (@nilB) (@amX_)))
def BldAt (b:Nat) (l:List UInt8) (X:zd_):Prop:=
 ∃p v,Sx.look X b=some (.cells #[p,v] 123 (0,0))∧(p= .pointer none∨p=vp b 0)∧Buf X 5 1 v l.length (l.map v8)∧slB v≠some b
theorem wC_ (b:Nat) (X:zd_) (l:List UInt8) (c:UInt8) (w:World) (hB:BldAt b l X) (hX: ∀p,p∈X→w.heap[p.1]? =some p.2) (hn: (keys X).Nodup) (hl:l.length<34359738368):
  Rets Tryz.prog 129 #[vp b 0,v8 c] w (XS w X (fun v D=>v= .nilIface∧BldAt b (l++ [c]) D)):=by
 obtain⟨p,v,hlk,hp,hb,hsl⟩:=hB
 refine Rets.enterX Tryz.func129 rfl (rs:= [.tmp 4]) Tryz.results129 Tryz.ntmps129 hX hn ?_
 refine kf ?_
 first|with_reducible refine ks [] @XG_ ?_|refine kp @XG_ ?_
 refine Ow.callM rfl rfl Tryz.call161 (zw_ hlk) (fun w' hw'=>wN_ b p v w' hp (hw'.has _ _ (zJ_ hlk))) ?_
 have lk1:=kp_ (x:= .cells #[vp b 0,v] 123 (0,0)) hlk
 have rd1:=qd_ (w0:=w) lk1
 have hb1:Buf (setB X b (.cells #[vp b 0,v] 123 (0,0))) 5 1 v l.length (l.map v8):=hb.setO hsl
 have kx:Ext w X (setB X b (.cells #[vp b 0,v] 123 (0,0))):=(Ext.refl w X).setB
 generalize setB X b (.cells #[vp b 0,v] 123 (0,0))=X1 at*
 refine ko @XG_ ?_
 first|with_reducible refine ks [] (And.intro @XG_ @rd1) ?_|refine kp (And.intro @XG_ @rd1) ?_
 refine Ow.buildSlice (e:=5) #[v8 c] rfl rfl (by kernel_rfl) fun b3 hb3 hw3=> ?_
 have lk3:Sx.look (X1++ [(b3, .cells #[v8 c] 5 (0,0))]) b3=some (.cells #[v8 c] 5 (0,0)):=QW_ hb3
 have hb2:Buf (X1++ [(b3, .cells #[v8 c] 5 (0,0))]) 5 1 v l.length (l.map v8):=hb1.app
 refine ko @XG_ ?_
 refine Ow.append (e:=5) _ rfl rfl rfl Tryz.underlying119 Tryz.ag5 (by kernel_rfl) Tryz.zr5 (by kernel_rfl) Tryz.underlying119 (by intro k h;cases h) hb2 (fun w' hw'=>AppX.block (k:=1) (new:= [v8 c]) (qd_ lk3) (by simp) (by simp) rfl hw') (by omega) (fun v2 L2 hB2 hG2 hS2=> ?_)
 have lk2:Sx.look L2 b=some (.cells #[vp b 0,v] 123 (0,0)):=hG2.look b _ hsl (je_ lk1)
 have st2:zp_ (some (false,1)) (some (.cells #[vp b 0,v] 123 (0,0))) 1 v2=some (.cells #[vp b 0,v2] 123 (0,0)):=aeq_ _ _ _ _ hB2.cell
 refine ko (And.intro @XG_ (And.intro @lk2 (And.intro @st2 (@aii_)))) ?_
 first|with_reducible refine ks [] @XG_ ?_|refine kp @XG_ ?_
 refine⟨_,(ke @XG_), ?_⟩
 have ex:=(kx.app (o:= .cells #[v8 c] 5 (0,0)) hw3).grew hG2
 have hs2:slB v2≠some b:=by
  rcases hS2 with h| ⟨c',h,ha⟩
  ·rw[h];exact hsl
  ·rw[h]
   intro e
   cases e
   exact Nat.lt_irrefl _ (zk_ ha (zw_ (je_ lk1)))
 refine⟨ex.setB,rfl,vp b 0,v2,kp_ lk2, .inr rfl, ?_,hs2⟩
 rw[List.length_append,List.map_append]
 exact hB2.setO hs2
end Go.Proofs
end
section
open Go Go.Proofs Go.Sx
namespace Go.Proofs
set_option maxRecDepth 10000
set_option maxHeartbeats 1000000
set_option linter.unusedSimpArgs false
set_option linter.defProp false
def xL_:=And.intro (And.intro (@Jx_) (@Js_)) (And.intro (@JK_) (And.intro (@nilB) (@amX_)))
theorem QG_ (b:Nat) (X:zd_) (l s:List UInt8) (w:World) (hB:BldAt b l X) (hX: ∀p,p∈X→w.heap[p.1]? =some p.2) (hn: (keys X).Nodup) (hl:l.length+s.length<34359738368):
  Rets Tryz.prog 128 #[vp b 0,vs s] w (XS w X (fun v D=>v= .tuple #[vi s.length, .nilIface]∧BldAt b (l++s) D)):=by
 obtain⟨p,v,hlk,hp,hb,hsl⟩:=hB
 refine Rets.enterX Tryz.func128 rfl (rs:= [.tmp 4, .tmp 5]) Tryz.results128 Tryz.ntmps128 hX hn ?_
 refine kf ?_
 first|with_reducible refine ks [] @xL_ ?_|refine kp @xL_ ?_
 refine Ow.callM rfl rfl Tryz.call161 (zw_ hlk) (fun w' hw'=>wN_ b p v w' hp (hw'.has _ _ (zJ_ hlk))) ?_
 have lk1:=kp_ (x:= .cells #[vp b 0,v] 123 (0,0)) hlk
 have rd1:=qd_ (w0:=w) lk1
 have hb1:Buf (setB X b (.cells #[vp b 0,v] 123 (0,0))) 5 1 v l.length (l.map v8):=hb.setO hsl
 have kx:Ext w X (setB X b (.cells #[vp b 0,v] 123 (0,0))):=(Ext.refl w X).setB
 generalize setB X b (.cells #[vp b 0,v] 123 (0,0))=X1 at*
 refine ko @xL_ ?_
 first|with_reducible refine ks [] (And.intro @xL_ @rd1) ?_|refine kp (And.intro @xL_ @rd1) ?_
 refine Ow.append (e:=5) _ rfl rfl rfl Tryz.underlying119 Tryz.ag5 (by kernel_rfl) Tryz.zr5 (by kernel_rfl) Tryz.underlying9 (by intro k h;cases h) hb1 (fun w' hw'=>AppX.text _ w' s) (by omega) (fun v2 L2 hB2 hG2 hS2=> ?_)
 have lk2:Sx.look L2 b=some (.cells #[vp b 0,v] 123 (0,0)):=hG2.look b _ hsl lk1
 have st2:zp_ (some (false,1)) (some (.cells #[vp b 0,v] 123 (0,0))) 1 v2=some (.cells #[vp b 0,v2] 123 (0,0)):=aeq_ _ _ _ _ hB2.cell
 refine ko (And.intro @xL_ (And.intro @lk2 (And.intro @st2 (@aii_)))) ?_
 first|with_reducible refine ks [] @xL_ ?_|refine kp @xL_ ?_
 refine⟨_,(ke @xL_), ?_⟩
 have ex:=kx.grew hG2
 have hs2:slB v2≠some b:=by
  rcases hS2 with h| ⟨c',h,ha⟩
  ·rw[h];exact hsl
  ·rw[h]
   intro e
   cases e
   exact Nat.lt_irrefl _ (zk_ ha (zw_ lk1))
 refine⟨ex.setB,rfl,vp b 0,v2,kp_ lk2, .inr rfl, ?_,hs2⟩
 rw[List.length_append,List.map_append]
 exact hB2.setO hs2
theorem Wj_ (b:Nat) (X:zd_) (l:List UInt8) (w:World) (hB:BldAt b l X) (hX: ∀p,p∈X→w.heap[p.1]? =some p.2) (hn: (keys X).Nodup) (hl:l.length<34359738368):
  Rets Tryz.prog 131 #[vp b 0] w (XS w X (fun v _D=>v=vs l)):=by
 obtain⟨p,v,hlk,hp,hb,hsl⟩:=hB
 have rd1:=qd_ (w0:=w) hlk
 refine Rets.enterX Tryz.func131 rfl (rs:= [.tmp 2]) Tryz.results131 Tryz.ntmps131 hX hn ?_
 refine kf ?_
 first|with_reducible refine ks [] @xL_ ?_|refine kp @xL_ ?_
 refine Cw.regionS [b] [0,1,2,5,6,7,3,8,9,4,10,11] [] (by kernel_rfl) (by kernel_rfl) (by kernel_rfl) ?_
 simp only[zh_, ↓zc_, ↓zb_, ↓zn_, ↓zo_,za_]
 refine Ow.goQ ?_
 simp(disch:=(first|assumption|omega| (simp only[jF_,jE_,UInt64.reduceToNat];try omega))) only[↓Sx.S0,Sx.S1,Tryz.fx,xL_,Nat.reduceAdd,Nat.reducePow,Int.reducePow,Nat.reduceBEq, ↓reduceIte,UInt8.reduceToNat,UInt16.reduceToNat,UInt32.reduceToNat,UInt64.reduceToNat,Int.reduceToNat,rd1,hb.len]
 refine Ow.soft rfl rfl rfl ?_
 rcases hb.inv with⟨rfl,h0,-⟩ | ⟨b2,c,rest,rfl,hl2,h1,h3,h4,-⟩
 ·obtain rfl:l= []:=List.eq_nil_of_length_eq_zero h0
  refine Ow.sliceData (v:= .pointer none) rfl rfl (.inl ⟨0,0,rfl,rfl⟩) ?_
  with_reducible refine Ow.nil ?_
  refine⟨by intro b hb;simp only[List.mem_cons,List.not_mem_nil,or_false] at hb;(try subst hb);rfl, ?_⟩
  refine Ow.soft rfl rfl rfl ?_
  refine Ow.unsafeStringNil rfl rfl rfl rfl ?_
  with_reducible refine Ow.nil ?_
  refine⟨by intro b hb;simp only[List.mem_cons,List.not_mem_nil,or_false] at hb;(try subst hb);rfl, ?_⟩
  refine kq @xL_ ?_
  try with_reducible refine Ow.nil ?_
  first|with_reducible refine ks [] @xL_ ?_|refine kp @xL_ ?_
  refine⟨_,(ke @xL_), ?_⟩
  exact⟨Ext.refl _ _,rfl⟩
 ·refine Ow.sliceData (v:=vp b2 0) rfl rfl (.inr ⟨b2,_,c,rfl,by omega,rfl⟩) ?_
  with_reducible refine Ow.nil ?_
  refine⟨by intro b hb;simp only[List.mem_cons,List.not_mem_nil,or_false] at hb;(try subst hb);rfl, ?_⟩
  by_cases h0:l.length=0
  ·obtain rfl:l= []:=List.eq_nil_of_length_eq_zero h0
   refine Ow.soft rfl rfl rfl ?_
   refine Ow.unsafeStringNil rfl rfl rfl rfl ?_
   with_reducible refine Ow.nil ?_
   refine⟨by intro b hb;simp only[List.mem_cons,List.not_mem_nil,or_false] at hb;(try subst hb);rfl, ?_⟩
   refine kq @xL_ ?_
   try with_reducible refine Ow.nil ?_
   first|with_reducible refine ks [] @xL_ ?_|refine kp @xL_ ?_
   refine⟨_,(ke @xL_), ?_⟩
   exact⟨Ext.refl _ _,rfl⟩
  ·refine Ow.soft rfl rfl rfl ?_
   refine Ow.unsafeString rfl rfl rfl rfl hl2 (by omega) (by omega) Tryz.underlying233 (by kernel_rfl) (of_decide_eq_true (by kernel_rfl)) ?_
   with_reducible refine Ow.nil ?_
   refine⟨by intro b hb;simp only[List.mem_cons,List.not_mem_nil,or_false] at hb;(try subst hb);exact Qs_ (fun e=>hsl (by rw[←e];rfl)), ?_⟩
   refine kq @xL_ ?_
   try with_reducible refine Ow.nil ?_
   first|with_reducible refine ks [] @xL_ ?_|refine kp @xL_ ?_
   refine⟨_,(ke @xL_), ?_⟩
   exact⟨(Ext.refl _ _).setB,rfl⟩
end Go.Proofs
end
section
open Go Go.Proofs Go.Sx
namespace Go.Proofs
set_option maxRecDepth 10000
set_option maxHeartbeats 1000000
set_option linter.unusedSimpArgs false
theorem nilW (b o:Nat):qJ_ Tryz.prog .eql 196 (vp b o) (.pointer none)=some (.bool false):=by
 simp[qJ_,eqX,qw_,qE_,Tryz.underlying196,vp]
set_option linter.defProp false
def xA_:=And.intro (@Jx_) (And.intro (@Js_) (@nilW))
structure WG where
 g:Nat
 D:zd_
theorem Kc_ (l:List (List UInt8)) (g:Nat) (h:g<l.length): (l.take (g+1)).flatten=(l.take g).flatten++l.getD g []:=by
 rw[List.take_add_one,List.getElem?_eq_getElem h,List.flatten_append,List.getD_eq_getElem?_getD,List.getElem?_eq_getElem h]
 simp
theorem Wv_ (l:List (List UInt8)) (g:Nat): (l.take g).flatten.length≤l.flatten.length:=by
 conv=>rhs;rw[←List.take_append_drop g l,List.flatten_append,List.length_append]
 omega
theorem kW_ (b:Nat) (X:zd_) (l:List UInt8) (x:Value) (b2 off:Nat) (ls:List (List UInt8)) (arr:Array Value) (E:TypeId) (fz:Nat×Nat) (w:World) (hB:BldAt b l X) (hX: ∀p,p∈X→w.heap[p.1]? =some p.2) (hn: (keys X).Nodup)
  (hS:StrS w x ls b2 off arr E fz) (hne:0<ls.length→b2∉keys X) (hl:l.length+ls.flatten.length<34359738368) (hls:ls.length<34359738368):
  Rets Tryz.prog 60 #[vp b 0,x] w (XS w X (fun v D=>v= .tuple #[]∧BldAt b (l++ls.flatten) D)):=by
 refine Rets.enterX Tryz.func60 rfl (rs:= []) Tryz.results60 Tryz.ntmps60 hX hn ?_
 refine kf ?_
 ((try with_reducible refine Cw.go [] ?_);(try simp(disch:=(first|assumption|omega| (simp only[jF_,jE_,UInt64.reduceToNat];try omega))) only[↓Sx.S0,Sx.S1,Tryz.fx,xA_,Nat.reduceAdd,Nat.reducePow,Int.reducePow,Nat.reduceBEq, ↓reduceIte,UInt8.reduceToNat,UInt16.reduceToNat,UInt32.reduceToNat,UInt64.reduceToNat,Int.reduceToNat,hS.len]))
 refine Cw.loopG (G:=WG) [11,12,13,5,14,15,16,17,18,19,10] (fun g=> [(10,vi g.g)]) (fun g=>g.D) (fun g=>g.g≤ls.length∧Ext w X g.D∧BldAt b (l++ (ls.take g.g).flatten) g.D) (fun g=>ls.length - g.g) ⟨0,X⟩ rfl rfl ?_ ?_
 ·exact⟨by simp,Ext.refl _ _,by simpa using hB⟩
 intro g j hg
 refine kv ?_
 obtain⟨g,D⟩:=g
 simp only at hg ⊢
 obtain⟨hgL,hE,hBD⟩:=hg
 by_cases hlt:g<ls.length
 ·have hlg:=hS.get g hlt
  have hrd:=hE.old (hS.has (by omega)) (hne (by omega))
  ((try with_reducible refine Cw.go [] ?_);(try simp(disch:=(first|assumption|omega| (simp only[jF_,jE_,UInt64.reduceToNat];try omega))) only[↓Sx.S0,Sx.S1,Tryz.fx,xA_,Nat.reduceAdd,Nat.reducePow,Int.reducePow,Nat.reduceBEq, ↓reduceIte,UInt8.reduceToNat,UInt16.reduceToNat,UInt32.reduceToNat,UInt64.reduceToNat,Int.reduceToNat,Sx.loadV_one,hrd,hlg,hS.idx]))
  have hfl:=Kc_ ls g hlt
  have hfle:=Wv_ ls (g+1)
  have hfl2:=congrArg List.length hfl
  rw[List.length_append] at hfl2
  refine Ow.callX (Y:= []) (by simp) rfl rfl Tryz.call128 (fun w' hw' hX hn=>QG_ b D _ (ls.getD g []) w' hBD hX hn (by rw[List.length_append];omega)) (fun v2 D2 hC hS2=> ?_)
  rw[List.append_nil]
  obtain⟨rfl,hB2⟩:=hS2
  refine ko @xA_ ?_
  first|with_reducible refine ks [] @xA_ ?_|refine kp @xA_ ?_
  refine Again.mk (WG.mk (g+1) D2) (by show ls.length - (g+1)<ls.length - g;omega) ⟨by show g+1≤ls.length;omega,hE.came0 hC, ?_⟩ rfl rfl
  show BldAt b (l++ (ls.take (g+1)).flatten) D2
  rw[hfl,←List.append_assoc]
  exact hB2
 ·obtain rfl:g=ls.length:=by omega
  first|with_reducible refine ks [] @xA_ ?_|refine kp @xA_ ?_
  refine⟨_,(ke @xA_), ?_⟩
  rw[List.take_length] at hBD
  exact⟨hE,rfl,hBD⟩
def maxN:Int:=1099511627775
def qS_ (n:Nat):List UInt8:=if h:n<128 then [UInt8.ofNat n] else UInt8.ofNat (n%128+128)::qS_ (n / 128)
termination_by n
decreasing_by omega
def zz_ (n:Int):Nat:=(if(if maxN<n then maxN else n)>0 then(if maxN<n then maxN else n) else 0).toNat
def xw_ (l:List Int):List UInt8:=(l.map fun n=>qS_ (zz_ n)).flatten
theorem qI_ {n:Nat} (h:n<128):qS_ n= [UInt8.ofNat n]:=by rw[qS_];simp[h]
theorem vm_ {n:Nat} (h: ¬n<128):qS_ n=UInt8.ofNat (n%128+128)::qS_ (n / 128):=by rw[qS_];simp[h]
theorem xg_: ∀ (k n:Nat),n<128^k→0<k→(qS_ n).length≤k
 |0,n,h,h0=>absurd h0 (by omega)
 |k+1,n,h,_=>by
  by_cases hn:n<128
  ·rw[qI_ hn];simp
  ·rw[vm_ hn]
   have hk:0<k:=by
    rcases Nat.eq_zero_or_pos k with rfl|hk
    ·simp at h;omega
    ·exact hk
   have:=xg_ k (n / 128) (by rw[Nat.pow_succ] at h;omega) hk
   simp only[List.length_cons];omega
theorem WP_ (n:Int):zz_ n<1099511627776:=by unfold zz_ maxN;split<;>split at* <;>omega
theorem zs_ (n:Int): (qS_ (zz_ n)).length≤6:=xg_ 6 _ (by have:=WP_ n;omega) (by omega)
theorem aoi_: ∀b:BitVec 8,b.toNat<128→(b|||128#8)=b+128#8:=by decide
theorem wt_ (m:Nat):UInt8.ofInt (m:Int)=UInt8.ofNat m:=by
 apply UInt8.toBitVec_inj.1
 apply BitVec.eq_of_toNat_eq
 simp[UInt8.ofInt,UInt8.ofNat]
 omega
theorem amH_ (m:Nat):UInt8.ofInt ((m:Int)%128) |||128=UInt8.ofNat (m%128+128):=by
 rw[show((m:Int)%128)=((m%128:Nat):Int) by omega,wt_]
 apply UInt8.toBitVec_inj.1
 have h:=aoi_ (BitVec.ofNat 8 (m%128)) (by simp[BitVec.toNat_ofNat];omega)
 have h1: (UInt8.ofNat (m%128) |||128).toBitVec=BitVec.ofNat 8 (m%128) |||128#8:=rfl
 rw[h1,h]
 apply BitVec.eq_of_toNat_eq
 simp[UInt8.ofNat]
structure NG where
 m:Nat
 pre:List UInt8
 D:zd_
theorem jN_ (b:Nat) (X:zd_) (l:List UInt8) (x:Value) (b2 off:Nat) (ls:List Int) (arr:Array Value) (E:TypeId) (fz:Nat×Nat) (w:World) (hB:BldAt b l X) (hX: ∀p,p∈X→w.heap[p.1]? =some p.2) (hn: (keys X).Nodup)
  (hS:OneS vi 0 w x ls b2 off arr E fz) (hne:0<ls.length→b2∉keys X) (hl:l.length+ls.length*6<34359738368):
  Rets Tryz.prog 61 #[vp b 0,x] w (XS w X (fun v D=>v= .tuple #[]∧BldAt b (l++xw_ ls) D)):=by
 refine Rets.enterX Tryz.func61 rfl (rs:= []) Tryz.results61 Tryz.ntmps61 hX hn ?_
 refine kf ?_
 ((try with_reducible refine Cw.go [] ?_);(try simp(disch:=(first|assumption|omega| (simp only[jF_,jE_,UInt64.reduceToNat];try omega))) only[↓Sx.S0,Sx.S1,Tryz.fx,xA_,Nat.reduceAdd,Nat.reducePow,Int.reducePow,Nat.reduceBEq, ↓reduceIte,UInt8.reduceToNat,UInt16.reduceToNat,UInt32.reduceToNat,UInt64.reduceToNat,Int.reduceToNat,hS.len]))
 refine Cw.loopG (G:=WG) [11,12,13,5,14,15,16,17,18,21,22,23,24,25,26,27,28,19,20,29,30,31,32,33,34,35,10] (fun g=> [(10,vi g.g)]) (fun g=>g.D) (fun g=>g.g≤ls.length∧Ext w X g.D∧BldAt b (l++xw_ (ls.take g.g)) g.D) (fun g=>ls.length - g.g) ⟨0,X⟩ rfl rfl ?_ ?_
 ·exact⟨by simp,Ext.refl _ _,by simpa [xw_] using hB⟩
 intro g j hg
 refine kv ?_
 obtain⟨g,D⟩:=g
 simp only at hg ⊢
 obtain⟨hgL,hE,hBD⟩:=hg
 by_cases hlt:g<ls.length
 ·have hlg:=hS.get g hlt
  have hrd:=hE.old (hS.has (by omega)) (hne (by omega))
  ((try with_reducible refine Cw.go [] ?_);(try simp(disch:=(first|assumption|omega| (simp only[jF_,jE_,UInt64.reduceToNat];try omega))) only[↓Sx.S0,Sx.S1,Tryz.fx,xA_,Nat.reduceAdd,Nat.reducePow,Int.reducePow,Nat.reduceBEq, ↓reduceIte,UInt8.reduceToNat,UInt16.reduceToNat,UInt32.reduceToNat,UInt64.reduceToNat,Int.reduceToNat,Sx.loadV_one,hrd,hlg,hS.idx]))
  refine Ow.minI rfl rfl rfl ?_
  refine Ow.maxI rfl rfl rfl ?_
  have hcl: (if(if maxN<ls.getD g 0 then maxN else ls.getD g 0)>0 then(if maxN<ls.getD g 0 then maxN else ls.getD g 0) else 0)=(zz_ (ls.getD g 0):Int):=by
   unfold zz_;omega
  have hcl': (if(if 1099511627775<ls.getD g 0 then 1099511627775 else ls.getD g 0)>0 then(if 1099511627775<ls.getD g 0 then 1099511627775 else ls.getD g 0) else 0)=(zz_ (ls.getD g 0):Int):=hcl
  rw[hcl']
  have hcb:=WP_ (ls.getD g 0)
  have hpl: (xw_ (ls.take g)).length≤g*6:=by
   unfold xw_
   rw[List.length_flatten,List.map_map]
   have: ∀ (q:List Int),(q.map (List.length∘fun n=>qS_ (zz_ n))).sum≤q.length*6:=by
    intro q
    induction q with
    |nil=>simp
    |cons y r ih=>have:=zs_ y;simp only[List.map_cons,List.sum_cons,List.length_cons,Function.comp];omega
   have h2:=this (ls.take g)
   rw[List.length_take] at h2
   have:min g ls.length*6≤g*6:=Nat.mul_le_mul_right _ (Nat.min_le_left _ _)
   omega
  have hnl:=zs_ (ls.getD g 0)
  have hsucc:xw_ (ls.take (g+1))=xw_ (ls.take g)++qS_ (zz_ (ls.getD g 0)):=by
   unfold xw_
   rw[List.take_succ_eq_append_getElem hlt,List.map_append,List.flatten_append,List.getD_eq_getElem?_getD,List.getElem?_eq_getElem hlt]
   simp only[List.map_cons,List.map_nil,List.flatten_cons,List.flatten_nil,List.append_nil,Option.getD_some]
  generalize zz_ (ls.getD g 0)=m0 at*
  refine ko @xA_ ?_
  first|with_reducible refine ks [] @xA_ ?_|refine kp @xA_ ?_
  refine Cw.loopG (G:=NG) [17,18,21,22,23,24,25,26,27,28,19,20,5] (fun q=> [(5,vi q.m)]) (fun q=>q.D) (fun q=>q.m≤m0∧Ext w X q.D∧qS_ m0=q.pre++qS_ q.m∧BldAt b (l++xw_ (ls.take g)++q.pre) q.D) (fun q=>q.m) ⟨m0,[],D⟩ rfl rfl ?_ ?_
  ·exact⟨Nat.le_refl _,hE,rfl,by rwa [List.append_nil]⟩
  intro q jq hq
  refine kv ?_
  obtain⟨m,pre,D1⟩:=q
  simp only at hq ⊢
  obtain⟨hqm,hE1,hpre,hB1⟩:=hq
  have hpl2:=congrArg List.length hpre
  rw[List.length_append] at hpl2
  by_cases hm:m<128
  ·first|with_reducible refine ks [] @xA_ ?_|refine kp @xA_ ?_
   rw[qI_ hm] at hpre hpl2
   have hlen: (l++xw_ (ls.take g)++pre).length+1<34359738368:=by
    rw[List.length_append,List.length_append]
    simp only[List.length_cons,List.length_nil] at hpl2
    omega
   refine Ow.callX (Y:= []) (by simp) rfl rfl Tryz.call129 (fun w' hw' hX hn=>wC_ b D1 _ _ w' hB1 hX hn (by omega)) (fun v2 D2 hC hS2=> ?_)
   rw[List.append_nil]
   obtain⟨rfl,hB2⟩:=hS2
   rw[wt_] at hB2
   refine ko @xA_ ?_
   first|with_reducible refine ks [] @xA_ ?_|refine kp @xA_ ?_
   refine Again.mk (WG.mk (g+1) D2) (by show ls.length - (g+1)<ls.length - g;omega) ⟨by show g+1≤ls.length;omega,hE1.came0 hC, ?_⟩ rfl rfl
   show BldAt b (l++xw_ (ls.take (g+1))) D2
   rw[hsucc,hpre,←List.append_assoc,←List.append_assoc]
   exact hB2
  ·first|with_reducible refine ks [] @xA_ ?_|refine kp @xA_ ?_
   rw[vm_ hm] at hpre hpl2
   have hlen: (l++xw_ (ls.take g)++pre).length+1<34359738368:=by
    rw[List.length_append,List.length_append]
    simp only[List.length_cons] at hpl2
    omega
   refine Ow.callX (Y:= []) (by simp) rfl rfl Tryz.call129 (fun w' hw' hX hn=>wC_ b D1 _ _ w' hB1 hX hn (by omega)) (fun v2 D2 hC hS2=> ?_)
   rw[List.append_nil]
   obtain⟨rfl,hB2⟩:=hS2
   rw[amH_] at hB2
   refine ko @xA_ ?_
   first|with_reducible refine ks [] @xA_ ?_|refine kp @xA_ ?_
   refine Again.mk (NG.mk (m / 128) (pre++ [UInt8.ofNat (m%128+128)]) D2) (by show m / 128<m;omega) ⟨by show m / 128≤m0;omega,hE1.came0 hC, ?_, ?_⟩ rfl rfl
   ·show qS_ m0=pre++ [UInt8.ofNat (m%128+128)]++qS_ (m / 128)
    rw[hpre];simp
   ·show BldAt b (l++xw_ (ls.take g)++ (pre++ [UInt8.ofNat (m%128+128)])) D2
    rw[←List.append_assoc]
    exact hB2
 ·obtain rfl:g=ls.length:=by omega
  first|with_reducible refine ks [] @xA_ ?_|refine kp @xA_ ?_
  refine⟨_,(ke @xA_), ?_⟩
  rw[List.take_length] at hBD
  exact⟨hE,rfl,hBD⟩
end Go.Proofs
end
section
open Go Go.Proofs Go.Sx
namespace Go.Proofs
set_option maxRecDepth 10000
set_option maxHeartbeats 1000000
set_option linter.unusedSimpArgs false
set_option linter.defProp false
def jJ_:=And.intro (And.intro (@Jx_) (@Js_)) (And.intro (@nilW) (And.intro (@aia_) (@J5_)))
theorem BldAt.app {b:Nat} {l:List UInt8} {X Y:zd_} (h:BldAt b l X):BldAt b l (X++Y):=by
 obtain⟨p,v,h1,h2,h3,h4⟩:=h
 exact⟨p,v,je_ h1,h2,h3.app,h4⟩
def xD_ (s:List UInt8):List UInt8:=qS_ (zz_ s.length)++s
def x9_ (ls:List (List UInt8)):List UInt8:=(ls.map xD_).flatten
theorem ZD_ (n:Int):xw_ [n]=qS_ (zz_ n):=by simp[xw_]
theorem ab6_ (ls:List (List UInt8)) (g:Nat) (h:g<ls.length):x9_ (ls.take (g+1))=x9_ (ls.take g)++xD_ (ls.getD g []):=by
 unfold x9_
 rw[List.take_succ_eq_append_getElem h,List.map_append,List.flatten_append,List.getD_eq_getElem?_getD,List.getElem?_eq_getElem h]
 simp only[List.map_cons,List.map_nil,List.flatten_cons,List.flatten_nil,List.append_nil,Option.getD_some]
theorem Xu_ (ls:List (List UInt8)) (g:Nat): (x9_ (ls.take g)).length≤ (x9_ ls).length:=by
 conv=>rhs;rw[←List.take_append_drop g ls]
 unfold x9_
 rw[List.map_append,List.flatten_append,List.length_append];omega
theorem KF_ (b:Nat) (X:zd_) (l:List UInt8) (x:Value) (b2 off:Nat) (ls:List (List UInt8)) (arr:Array Value) (E:TypeId) (fz:Nat×Nat) (w:World) (hB:BldAt b l X) (hX: ∀p,p∈X→w.heap[p.1]? =some p.2) (hn: (keys X).Nodup)
  (hS:StrS w x ls b2 off arr E fz) (hne:0<ls.length→b2∉keys X) (hl:l.length+ (x9_ ls).length<17179869184) (hls:ls.length<17179869184):
  Rets Tryz.prog 62 #[vp b 0,x] w (XS w X (fun v D=>v= .tuple #[]∧BldAt b (l++x9_ ls) D)):=by
 refine Rets.enterX Tryz.func62 rfl (rs:= []) Tryz.results62 Tryz.ntmps62 hX hn ?_
 refine kf ?_
 ((try with_reducible refine Cw.go [] ?_);(try simp(disch:=(first|assumption|omega| (simp only[jF_,jE_,UInt64.reduceToNat];try omega))) only[↓Sx.S0,Sx.S1,Tryz.fx,jJ_,Nat.reduceAdd,Nat.reducePow,Int.reducePow,Nat.reduceBEq, ↓reduceIte,UInt8.reduceToNat,UInt16.reduceToNat,UInt32.reduceToNat,UInt64.reduceToNat,Int.reduceToNat,hS.len]))
 refine Cw.loopG (G:=WG) [9,10,11,5,12,13,14,15,16,17,18,19,20,21,8] (fun g=> [(8,vi g.g)]) (fun g=>g.D) (fun g=>g.g≤ls.length∧Ext w X g.D∧BldAt b (l++x9_ (ls.take g.g)) g.D) (fun g=>ls.length - g.g) ⟨0,X⟩ rfl rfl ?_ ?_
 ·exact⟨by simp,Ext.refl _ _,by simpa [x9_] using hB⟩
 intro g j hg
 refine kv ?_
 obtain⟨g,D⟩:=g
 simp only at hg ⊢
 obtain⟨hgL,hE,hBD⟩:=hg
 by_cases hlt:g<ls.length
 ·have hlg:=hS.get g hlt
  have hrd:=hE.old (hS.has (by omega)) (hne (by omega))
  have hsu:=ab6_ ls g hlt
  have hle:=Xu_ ls (g+1)
  have hsl:=congrArg List.length hsu
  rw[List.length_append] at hsl
  have htl: (xD_ (ls.getD g [])).length=(qS_ (zz_ (ls.getD g []).length)).length+ (ls.getD g []).length:=by unfold xD_;rw[List.length_append]
  ((try with_reducible refine Cw.go [] ?_);(try simp(disch:=(first|assumption|omega| (simp only[jF_,jE_,UInt64.reduceToNat];try omega))) only[↓Sx.S0,Sx.S1,Tryz.fx,jJ_,Nat.reduceAdd,Nat.reducePow,Int.reducePow,Nat.reduceBEq, ↓reduceIte,UInt8.reduceToNat,UInt16.reduceToNat,UInt32.reduceToNat,UInt64.reduceToNat,Int.reduceToNat,Sx.loadV_one,hrd,hlg,hS.idx]))
  refine Ow.buildSlice (e:=3) #[vi (ls.getD g []).length] rfl rfl (by kernel_rfl) fun b3 hb3 hw3=> ?_
  refine ko @jJ_ ?_
  refine Ow.callX (Y:= [(b3, .cells #[vi (ls.getD g []).length] 3 (0,0))]) (by simp) rfl rfl Tryz.call61 (fun w' hw' hX hn=>jN_ b D _ _ b3 0 [((ls.getD g []).length:Int)] _ _ _ w' hBD hX hn (OneS.lit [((ls.getD g []).length:Int)] rfl rfl (hw'.has _ _ (List.mem_append_right _ List.mem_cons_self))) (fun _ hm=>Nat.lt_irrefl _ (zk_ hb3 hm)) (by rw[List.length_append];simp only[List.length_cons,List.length_nil];omega)) (fun v2 D2 hC hS2=> ?_)
  obtain⟨rfl,hB2⟩:=hS2
  have hE2:=(hE.app (o:= .cells #[vi (ls.getD g []).length] 3 (0,0)) hw3).came hC
  rw[ZD_] at hB2
  have hB3:=BldAt.app (Y:= [(b3, .cells #[vi (ls.getD g []).length] 3 (0,0))]) hB2
  generalize D2++ [(b3,Obj.cells #[vi (ls.getD g []).length] 3 (0,0))]=D3 at*
  refine ko @jJ_ ?_
  first|with_reducible refine ks [] @jJ_ ?_|refine kp @jJ_ ?_
  refine Ow.buildSlice (e:=9) #[vs (ls.getD g [])] rfl rfl (by kernel_rfl) fun b4 hb4 hw4=> ?_
  refine ko @jJ_ ?_
  refine Ow.callX (Y:= [(b4, .cells #[vs (ls.getD g [])] 9 (0,0))]) (by simp) rfl rfl Tryz.call60 (fun w' hw' hX hn=>kW_ b D3 _ _ b4 0 [ls.getD g []] _ _ _ w' hB3 hX hn (StrS.lit [ls.getD g []] rfl rfl (hw'.has _ _ (List.mem_append_right _ List.mem_cons_self))) (fun _ hm=>Nat.lt_irrefl _ (zk_ hb4 hm)) (by rw[List.length_append,List.length_append];simp only[List.flatten_cons,List.flatten_nil,List.append_nil];omega) (by simp)) (fun v4 D4 hC4 hS4=> ?_)
  obtain⟨rfl,hB4⟩:=hS4
  have hE4:=(hE2.app (o:= .cells #[vs (ls.getD g [])] 9 (0,0)) hw4).came hC4
  have hB5:=BldAt.app (Y:= [(b4, .cells #[vs (ls.getD g [])] 9 (0,0))]) hB4
  generalize D4++ [(b4,Obj.cells #[vs (ls.getD g [])] 9 (0,0))]=D5 at*
  refine ko @jJ_ ?_
  first|with_reducible refine ks [] @jJ_ ?_|refine kp @jJ_ ?_
  refine Again.mk (WG.mk (g+1) D5) (by show ls.length - (g+1)<ls.length - g;omega) ⟨by show g+1≤ls.length;omega,hE4, ?_⟩ rfl rfl
  show BldAt b (l++x9_ (ls.take (g+1))) D5
  rw[hsu]
  simpa [xD_] using hB5
 ·obtain rfl:g=ls.length:=by omega
  first|with_reducible refine ks [] @jJ_ ?_|refine kp @jJ_ ?_
  refine⟨_,(ke @jJ_), ?_⟩
  rw[List.take_length] at hBD
  exact⟨hE,rfl,hBD⟩
def idC (id:List UInt8):List Value:=id.map v8
structure IdL where
 l:List UInt8
 h:l.length=32
def wR_ (x:IdL):List Value:=x.l.map v8
def id0:IdL:=⟨List.replicate 32 0,by simp⟩
theorem ajr_ (x:IdL): (wR_ x).length=32:=by simp[wR_,x.h]
theorem J9_ (x:IdL): (wR_ x).toArray=a8 x.l:=rfl
def idsL (ls:List IdL):List UInt8:=(ls.map IdL.l).flatten
theorem ai3_ (ls:List IdL) (g:Nat) (h:g<ls.length):idsL (ls.take (g+1))=idsL (ls.take g)++ (ls.getD g id0).l:=by
 unfold idsL
 rw[List.take_succ_eq_append_getElem h,List.map_append,List.flatten_append,List.getD_eq_getElem?_getD,List.getElem?_eq_getElem h]
 simp only[List.map_cons,List.map_nil,List.flatten_cons,List.flatten_nil,List.append_nil,Option.getD_some]
theorem akX_ (ls:List IdL): (idsL ls).length=32*ls.length:=by
 unfold idsL
 induction ls with
 |nil=>rfl
 |cons x r ih=>rw[List.map_cons,List.flatten_cons,List.length_append,ih,x.h,List.length_cons];omega
theorem ala_ (b:Nat) (X:zd_) (l:List UInt8) (x:Value) (b2 off:Nat) (ls:List IdL) (arr:Array Value) (E:TypeId) (fz:Nat×Nat) (w:World) (hB:BldAt b l X) (hX: ∀p,p∈X→w.heap[p.1]? =some p.2) (hn: (keys X).Nodup)
  (hS:RowS 32 wR_ id0 w x ls b2 off arr E fz) (hne:0<ls.length→b2∉keys X) (hl:l.length+32*ls.length<17179869184):
  Rets Tryz.prog 111 #[vp b 0,x] w (XS w X (fun v D=>v= .tuple #[]∧BldAt b (l++idsL ls) D)):=by
 refine Rets.enterX Tryz.func111 rfl (rs:= []) Tryz.results111 Tryz.ntmps111 hX hn ?_
 refine kf ?_
 ((try with_reducible refine Cw.go [] ?_);(try simp(disch:=(first|assumption|omega| (simp only[jF_,jE_,UInt64.reduceToNat];try omega))) only[↓Sx.S0,Sx.S1,Tryz.fx,jJ_,Nat.reduceAdd,Nat.reducePow,Int.reducePow,Nat.reduceBEq, ↓reduceIte,UInt8.reduceToNat,UInt16.reduceToNat,UInt32.reduceToNat,UInt64.reduceToNat,Int.reduceToNat,hS.len]))
 refine Cw.loopG (G:=WG) [9,10,11,5,12,13,14,15,16,17,8] (fun g=> [(8,vi g.g)]) (fun g=>g.D) (fun g=>g.g≤ls.length∧Ext w X g.D∧BldAt b (l++idsL (ls.take g.g)) g.D) (fun g=>ls.length - g.g) ⟨0,X⟩ rfl rfl ?_ ?_
 ·exact⟨by simp,Ext.refl _ _,by simpa [idsL] using hB⟩
 intro g j hg
 refine kv ?_
 obtain⟨g,D⟩:=g
 simp only at hg ⊢
 obtain⟨hgL,hE,hBD⟩:=hg
 by_cases hlt:g<ls.length
 ·have hrd:=hE.old (hS.has (by omega)) (hne (by omega))
  have hld:=hS.load ajr_ (by omega) hlt
  rw[J9_] at hld
  have hsu:=ai3_ ls g hlt
  have hil:=(ls.getD g id0).h
  have hll:=akX_ (ls.take g)
  rw[List.length_take] at hll
  have hmin:min g ls.length≤g:=Nat.min_le_left _ _
  ((try with_reducible refine Cw.go [] ?_);(try simp(disch:=(first|assumption|omega| (simp only[jF_,jE_,UInt64.reduceToNat];try omega))) only[↓Sx.S0,Sx.S1,Tryz.fx,jJ_,Nat.reduceAdd,Nat.reducePow,Int.reducePow,Nat.reduceBEq, ↓reduceIte,UInt8.reduceToNat,UInt16.reduceToNat,UInt32.reduceToNat,UInt64.reduceToNat,Int.reduceToNat,hrd,hld,hS.idx]))
  refine Ow.alloc rfl rfl Tryz.zr37 fun b5 hb5 hw5=> ?_
  refine Ow.go rfl ?_
  simp(disch:=(first|assumption|omega| (simp only[jF_,jE_,UInt64.reduceToNat];try omega))) only[↓Sx.S0,Sx.S1,Tryz.fx,jJ_,Nat.reduceAdd,Nat.reducePow,Int.reducePow,Nat.reduceBEq, ↓reduceIte,UInt8.reduceToNat,UInt16.reduceToNat,UInt32.reduceToNat,UInt64.reduceToNat,Int.reduceToNat,QW_ hb5,ajp_ hb5,aii_]
  have hE5:=hE.app (o:= .cells (a8 (ls.getD g id0).l) 37 (0,0)) hw5
  have hB5:=BldAt.app (Y:= [(b5, .cells (a8 (ls.getD g id0).l) 37 (0,0))]) hBD
  have rd5:zy_ w (D++ [(b5, .cells (a8 (ls.getD g id0).l) 37 (0,0))]) b5=_:=qd_ (QW_ hb5)
  generalize D++ [(b5,Obj.cells (a8 (ls.getD g id0).l) 37 (0,0))]=D5 at*
  first|with_reducible refine ks [] (And.intro @jJ_ @rd5) ?_|refine kp (And.intro @jJ_ @rd5) ?_
  have e32:List.take 32 (List.drop 0 (ls.getD g id0).l)=(ls.getD g id0).l:=by rw[List.drop_zero,List.take_of_length_le (by omega)]
  rw[e32]
  refine Ow.buildSlice (e:=9) #[vs (ls.getD g id0).l] rfl rfl (by kernel_rfl) fun b6 hb6 hw6=> ?_
  refine ko @jJ_ ?_
  refine Ow.callX (Y:= [(b6, .cells #[vs (ls.getD g id0).l] 9 (0,0))]) (by simp) rfl rfl Tryz.call60 (fun w' hw' hX hn=>kW_ b D5 _ _ b6 0 [(ls.getD g id0).l] _ _ _ w' hB5 hX hn (StrS.lit [(ls.getD g id0).l] rfl rfl (hw'.has _ _ (List.mem_append_right _ List.mem_cons_self))) (fun _ hm=>Nat.lt_irrefl _ (zk_ hb6 hm)) (by rw[List.length_append];simp only[List.flatten_cons,List.flatten_nil,List.append_nil];omega) (by simp)) (fun v4 D4 hC4 hS4=> ?_)
  obtain⟨rfl,hB4⟩:=hS4
  have hE4:=(hE5.app (o:= .cells #[vs (ls.getD g id0).l] 9 (0,0)) hw6).came hC4
  have hB6:=BldAt.app (Y:= [(b6, .cells #[vs (ls.getD g id0).l] 9 (0,0))]) hB4
  generalize D4++ [(b6,Obj.cells #[vs (ls.getD g id0).l] 9 (0,0))]=D6 at*
  refine ko @jJ_ ?_
  first|with_reducible refine ks [] @jJ_ ?_|refine kp @jJ_ ?_
  refine Again.mk (WG.mk (g+1) D6) (by show ls.length - (g+1)<ls.length - g;omega) ⟨by show g+1≤ls.length;omega,hE4, ?_⟩ rfl rfl
  show BldAt b (l++idsL (ls.take (g+1))) D6
  rw[hsu]
  simpa using hB6
 ·obtain rfl:g=ls.length:=by omega
  first|with_reducible refine ks [] @jJ_ ?_|refine kp @jJ_ ?_
  refine⟨_,(ke @jJ_), ?_⟩
  rw[List.take_length] at hBD
  exact⟨hE,rfl,hBD⟩
theorem kI_ (b:Nat) (X:zd_) (l:List UInt8) (w:World) (hB:BldAt b l X) (hX: ∀p,p∈X→w.heap[p.1]? =some p.2) (hn: (keys X).Nodup) (hl:l.length<34359738368):
  Rets Tryz.prog 64 #[vp b 0] w (XS w X (fun v _=>v=vs l)):=by
 refine Rets.enterX Tryz.func64 rfl (rs:= [.tmp 2]) Tryz.results64 Tryz.ntmps64 hX hn ?_
 refine kf ?_
 first|with_reducible refine ks [] @jJ_ ?_|refine kp @jJ_ ?_
 refine Ow.callX (Y:= []) (by simp) rfl rfl Tryz.call131 (fun w' hw' hX hn=>Wj_ b X l w' hB hX hn hl) (fun v2 D2 hC hS2=> ?_)
 subst hS2
 rw[List.append_nil]
 refine ko @jJ_ ?_
 first|with_reducible refine ks [] @jJ_ ?_|refine kp @jJ_ ?_
 refine⟨_,(ke @jJ_), ?_⟩
 exact⟨(Ext.refl _ _).came0 hC,rfl⟩
end Go.Proofs
end
section
open Go Go.Proofs Go.Sx
namespace Go.Proofs
set_option maxRecDepth 10000
set_option maxHeartbeats 1000000
set_option linter.unusedSimpArgs false
structure Rd where
 s:List UInt8
 at_:Nat
 err:Nat
def rdC (r:Rd):Array Value:= #[vs r.s,vi r.at_,vi r.err]
theorem xN_ (s:List UInt8) (a e:Int) (E:TypeId) (n:Nat):zr_ (some (false,n)) (some (.cells #[vs s,vi a,vi e] E (0,0))) 0=some (vs s):=(rfl)
theorem xS_ (s:List UInt8) (a e:Int) (E:TypeId) (n:Nat):zr_ (some (false,n)) (some (.cells #[vs s,vi a,vi e] E (0,0))) 1=some (vi a):=(rfl)
theorem xV_ (s:List UInt8) (a e:Int) (E:TypeId) (n:Nat):zr_ (some (false,n)) (some (.cells #[vs s,vi a,vi e] E (0,0))) 2=some (vi e):=(rfl)
theorem j2_ (s:List UInt8) (a e x:Int) (E:TypeId):zp_ (some (false,1)) (some (.cells #[vs s,vi a,vi e] E (0,0))) 1 (vi x)=some (.cells #[vs s,vi x,vi e] E (0,0)):=by
 simp[zp_,vH_,vi,Value.cells,Value.oneCell']
theorem j0_ (s:List UInt8) (a e x:Int) (E:TypeId):zp_ (some (false,1)) (some (.cells #[vs s,vi a,vi e] E (0,0))) 2 (vi x)=some (.cells #[vs s,vi a,vi x] E (0,0)):=by
 simp[zp_,vH_,vi,Value.cells,Value.oneCell']
theorem nilR (b o:Nat):qJ_ Tryz.prog .eql 134 (vp b o) (.pointer none)=some (.bool false):=by
 simp[qJ_,eqX,qw_,qE_,Tryz.underlying134,vp]
theorem anB_:qJ_ Tryz.prog .eql 134 (.pointer none) (.pointer none)=some (.bool true):=by
 simp[qJ_,eqX,qw_,qE_,Tryz.underlying134]
theorem alX_ (b o:Nat):qJ_ Tryz.prog .neq 134 (vp b o) (.pointer none)=some (.bool true):=by
 simp[qJ_,eqX,qw_,qE_,Tryz.underlying134,vp]
theorem agR_:qJ_ Tryz.prog .neq 134 (.pointer none) (.pointer none)=some (.bool false):=by
 simp[qJ_,eqX,qw_,qE_,Tryz.underlying134]
set_option linter.defProp false
def zQ_:=And.intro (And.intro (And.intro (@xN_) (@xS_)) (And.intro (@xV_) (@j2_))) (And.intro (And.intro (@j0_) (@nilR)) (And.intro (@anB_) (And.intro (@alX_) (@agR_))))
theorem xz_ (b:Nat) (s:List UInt8) (a e:Int) (w:World) (ho:w.heap[b]? =some (.cells #[vs s,vi a,vi e] 212 (0,0))):
  Rets Tryz.prog 137 #[vp b 0] w (fun v D=>v=vi e∧D= []):=by
 refine Rets.enterV Tryz.func137 rfl (rs:= [.tmp 2]) Tryz.results137 Tryz.ntmps137 ?_
 refine kf ?_
 first|with_reducible refine ks [] (And.intro @zQ_ @ho) ?_|refine kp (And.intro @zQ_ @ho) ?_
 refine⟨_,(ke @zQ_),trivial, ?_⟩
 rfl
theorem ad0_ (b:Nat) (s:List UInt8) (a e:Int) (w:World) (ho:w.heap[b]? =some (.cells #[vs s,vi a,vi e] 212 (0,0))):
  Rets Tryz.prog 138 #[vp b 0] w (fun v D=>v=vi a∧D= []):=by
 refine Rets.enterV Tryz.func138 rfl (rs:= [.tmp 2]) Tryz.results138 Tryz.ntmps138 ?_
 refine kf ?_
 first|with_reducible refine ks [] (And.intro @zQ_ @ho) ?_|refine kp (And.intro @zQ_ @ho) ?_
 refine⟨_,(ke @zQ_),trivial, ?_⟩
 rfl
theorem Xi_ (b:Nat) (s:List UInt8) (a e:Int) (w:World) (ho:w.heap[b]? =some (.cells #[vs s,vi a,vi e] 212 (0,0))):
  Rets Tryz.prog 74 #[vp b 0] w (fun v D=>v=vi (if e≠0 then e else if a<s.length then 5 else 0)∧D= []):=by
 refine Rets.enterV Tryz.func74 rfl (rs:= [.tmp 2]) Tryz.results74 Tryz.ntmps74 ?_
 refine kf ?_
 first|with_reducible refine ks [] @zQ_ ?_|refine kp @zQ_ ?_
 refine Ow.callFV rfl Tryz.call137 (fun w' hw'=>xz_ b s a e w' (by rw[hw'.old b (Array.getElem?_eq_some_iff.1 ho).1 (by simp[keys])];exact ho)) ?_
 refine ko @zQ_ ?_
 first|with_reducible refine ks [] @zQ_ ?_|refine kp @zQ_ ?_
 by_cases he:e=0
 ·first|with_reducible refine ks [] @zQ_ ?_|refine kp @zQ_ ?_
  refine Cw.regionS [b] [0,1,2,4,5,6,3,7,8,9] [] (by kernel_rfl) (by kernel_rfl) (by kernel_rfl) ?_
  simp only[zh_, ↓zc_, ↓zb_, ↓zn_, ↓zo_,za_]
  refine kq (And.intro @zQ_ @ho) ?_
  try with_reducible refine Ow.nil ?_
  first|with_reducible refine ks [] @zQ_ ?_|refine kp @zQ_ ?_
  refine cdC.splitp (fun hc=> ?_) (fun hc=> ?_)
  ·first|with_reducible refine ks [] @zQ_ ?_|refine kp @zQ_ ?_
   refine⟨_,(ke @zQ_),trivial, ?_⟩
   simp[hc,he,vE_]
  ·first|with_reducible refine ks [] @zQ_ ?_|refine kp @zQ_ ?_
   refine⟨_,(ke @zQ_),trivial, ?_⟩
   simp[hc,he,vE_]
 ·first|with_reducible refine ks [] @zQ_ ?_|refine kp @zQ_ ?_
  refine⟨_,(ke @zQ_),trivial, ?_⟩
  simp[he,vE_]
theorem xi_ (b:Nat) (s:List UInt8) (a e x y:Int) (w:World) (ho:w.heap[b]? =some (.cells #[vs s,vi a,vi e] 212 (0,0))):
  Rets Tryz.prog 149 #[vp b 0,vi x,vi y] w (fun v D=> ∃o,D= [(b,o)]∧v= .tuple #[]∧o= .cells #[vs s,vi (if e=0 then y else a),vi (if e=0 then x else e)] 212 (0,0)):=by
 refine Rets.enterM Tryz.func149 rfl (rs:= []) Tryz.results149 Tryz.ntmps149 ho ?_
 refine kf ?_
 first|with_reducible refine ks [] @zQ_ ?_|refine kp @zQ_ ?_
 by_cases he:e=0
 ·first|with_reducible refine ks [] @zQ_ ?_|refine kp @zQ_ ?_
  refine⟨_,_,_,(ke @zQ_),rfl,trivial, ?_⟩
  simp[he,vE_]
 ·first|with_reducible refine ks [] @zQ_ ?_|refine kp @zQ_ ?_
  refine⟨_,_,_,(ke @zQ_),rfl,trivial, ?_⟩
  simp[he,vE_]
def jc_ (s:List UInt8) (a:Nat) (e n:Int):List UInt8×Nat×Int:=
 if e≠0 then([],a,e) else if n<0 then([],a,2) else if(s.length:Int) - a<n then([],a,3) else((s.drop a).take n.toNat,a+n.toNat,0)
theorem v9_ (b:Nat) (s:List UInt8) (a:Nat) (e n:Int) (w:World) (ha:a≤s.length) (hs:s.length<9223372036854775808) (ho:w.heap[b]? =some (.cells #[vs s,vi a,vi e] 212 (0,0))):
  Rets Tryz.prog 94 #[vp b 0,vi n] w (fun v D=> ∃o,D= [(b,o)]∧v=vs (jc_ s a e n).1∧o= .cells #[vs s,vi (jc_ s a e n).2.1,vi (jc_ s a e n).2.2] 212 (0,0)):=by
 refine Rets.enterM Tryz.func94 rfl (rs:= [.tmp 4]) Tryz.results94 Tryz.ntmps94 ho ?_
 refine kf ?_
 first|with_reducible refine ks [] @zQ_ ?_|refine kp @zQ_ ?_
 refine Ow.callFV rfl Tryz.call137 (fun w' hw'=>xz_ b s a e w' (hw'.has _ _ List.mem_cons_self)) ?_
 refine ko @zQ_ ?_
 first|with_reducible refine ks [] @zQ_ ?_|refine kp @zQ_ ?_
 unfold jc_
 by_cases he:e=0
 ·subst he
  rw[if_neg (fun h=>h rfl)]
  first|with_reducible refine ks [] @zQ_ ?_|refine kp @zQ_ ?_
  by_cases hn:n<0
  ·rw[if_pos hn]
   first|with_reducible refine ks [] @zQ_ ?_|refine kp @zQ_ ?_
   refine Ow.callM rfl rfl Tryz.call149 (by simp[keys]) (fun w' hw'=>xi_ b s a 0 2 a w' (hw'.has _ _ List.mem_cons_self)) ?_
   refine ko @zQ_ ?_
   first|with_reducible refine ks [] @zQ_ ?_|refine kp @zQ_ ?_
   refine⟨_,_,_,(ke @zQ_),rfl,trivial, ?_⟩
   exact⟨rfl,rfl⟩
  ·rw[if_neg hn]
   first|with_reducible refine ks [] @zQ_ ?_|refine kp @zQ_ ?_
   refine Cw.regionS [b] [0,1,2,3,6,7,8,4,5,9,10,11,12] [] (by kernel_rfl) (by kernel_rfl) (by kernel_rfl) ?_
   simp only[zh_, ↓zc_, ↓zb_, ↓zn_, ↓zo_,za_]
   refine kq @zQ_ ?_
   try with_reducible refine Ow.nil ?_
   first|with_reducible refine ks [] @zQ_ ?_|refine kp @zQ_ ?_
   by_cases hl: (s.length:Int) - a<n
   ·rw[if_pos hl]
    first|with_reducible refine ks [] @zQ_ ?_|refine kp @zQ_ ?_
    refine Ow.callM rfl rfl Tryz.call149 (by simp[keys]) (fun w' hw'=>xi_ b s a 0 3 a w' (hw'.has _ _ List.mem_cons_self)) ?_
    refine ko @zQ_ ?_
    first|with_reducible refine ks [] @zQ_ ?_|refine kp @zQ_ ?_
    refine⟨_,_,_,(ke @zQ_),rfl,trivial, ?_⟩
    exact⟨rfl,rfl⟩
   ·rw[if_neg hl]
    obtain⟨m,rfl⟩: ∃m:Nat,n=(m:Int):=⟨n.toNat,by omega⟩
    first|with_reducible refine ks [] @zQ_ ?_|refine kp @zQ_ ?_
    refine Cw.regionS [b] [0,1,2,4,5,6,8,9,10,12,3,7,11,13,14,15] [] (by kernel_rfl) (by kernel_rfl) (by kernel_rfl) ?_
    simp only[zh_, ↓zc_, ↓zb_, ↓zn_, ↓zo_,za_]
    refine kq @zQ_ ?_
    try with_reducible refine Ow.nil ?_
    first|with_reducible refine ks [] @zQ_ ?_|refine kp @zQ_ ?_
    refine⟨_,_,_,(ke @zQ_),rfl,trivial, ?_⟩
    refine⟨?_, ?_⟩
    ·simp only[vE_,Int.toNat_natCast]
     rw[List.drop_take,Nat.add_sub_cancel_left]
    ·rw[Int.toNat_natCast,Int.natCast_add]
 ·rw[if_pos he]
  first|with_reducible refine ks [] @zQ_ ?_|refine kp @zQ_ ?_
  refine⟨_,_,_,(ke @zQ_),rfl,trivial, ?_⟩
  exact⟨rfl,rfl⟩
end Go.Proofs
end
section
open Go Go.Proofs Go.Sx
namespace Go.Proofs
set_option maxRecDepth 10000
set_option maxHeartbeats 8000000
set_option linter.unusedSimpArgs false
set_option linter.defProp false
def zH_:=And.intro (And.intro (And.intro (@xN_) (@xS_)) (And.intro (@xV_) (@j2_))) (And.intro (And.intro (@j0_) (@nilR)) (And.intro (@anB_) (And.intro (@alX_) (@agR_))))
def z2_ (most:Int):List UInt8→Nat→Nat→Except Nat (Nat×Nat)
 | [],_,_=> .error 3
 |c::r,k,n=>
  if 128≤c.toNat then(if k+1=6 then .error 4 else z2_ most r (k+1) (n+c.toNat%128*128^k))
  else if c.toNat=0∧0<k then .error 2
  else if n+c.toNat%128*128^k≤1099511627775∧((n+c.toNat%128*128^k:Nat):Int)≤most then .ok (n+c.toNat%128*128^k,k+1)
  else .error 4
def zu_ (s:List UInt8) (a:Nat) (e most:Int):Int×Nat×Int:=
 if e≠0 then(0,a,e) else match z2_ most (s.drop a) 0 0 with
  | .ok (n,k)=>(n,a+k,0)
  | .error x=>(0,a,x)
theorem Xa_ {s:List UInt8} {a:Nat} {e most:Int} {n k:Nat} (he:e=0) (h:z2_ most (s.drop a) 0 0= .ok (n,k)):zu_ s a e most=((n:Int),a+k,0):=by
 unfold zu_;rw[if_neg (by simp[he]),h]
theorem jH_ {s:List UInt8} {a:Nat} {e most:Int} {x:Nat} (he:e=0) (h:z2_ most (s.drop a) 0 0= .error x):zu_ s a e most=(0,a,(x:Int)):=by
 unfold zu_;rw[if_neg (by simp[he]),h]
structure NumS where
 more:Bool
 k:Nat
 n:Nat
 x:Nat
theorem qY_ (b:Nat) (s:List UInt8) (a:Nat) (e most:Int) (w:World) (ha:a≤s.length) (hs:s.length<9223372036854775808) (ho:w.heap[b]? =some (.cells #[vs s,vi a,vi e] 212 (0,0))):
  Rets Tryz.prog 95 #[vp b 0,vi most] w (fun v D=> ∃o,D= [(b,o)]∧v=vi (zu_ s a e most).1∧o= .cells #[vs s,vi (zu_ s a e most).2.1,vi (zu_ s a e most).2.2] 212 (0,0)):=by
 refine Rets.enterM Tryz.func95 rfl (rs:= [.tmp 4]) Tryz.results95 Tryz.ntmps95 ho ?_
 refine kf ?_
 first|with_reducible refine ks [] @zH_ ?_|refine kp @zH_ ?_
 by_cases he:e=0
 ·subst he
  refine Cw.scopeL (G:=NumS) (fun g=>(if g.more then 1 else 0)) [10,11,12,4,5,6,7,13,14,15,16,8,9,17,18,19,20,21,22,23,24,25,26,27,28,29,30,31,32,33,34,35,36,37,38,39,40,41,42,43,44,45,46,47,48,49,50,51,52,53,54,55,56,57,58,59,60,61,62,63,64,65,66,67,68,69,70,71,72,73] (fun g=>(if g.more then [(5,vi g.n),(6,vi (7*g.k:Nat)),(8,vi 3),(9,vi a)] else [(8,vi g.x),(9,vi a)])) (fun g=> [(b, .cells #[vs s,vi (a+g.k:Nat),vi 0] 212 (0,0))]) (fun g=>a+g.k≤s.length∧(if g.more then z2_ most (s.drop a) 0 0=z2_ most (s.drop (a+g.k)) g.k g.n∧g.n<128^g.k∧g.k<6 else z2_ most (s.drop a) 0 0= .error g.x)) (fun g=>(if g.more then 7 - g.k else 0)) ?_ ?_ ?_
  ·intro g
   obtain⟨m,k,n,x⟩:=g
   cases m<;>rfl
  ·intro g j hg
   obtain⟨m,k,n,x⟩:=g
   obtain⟨hk,hg⟩:=hg
   simp only at hk
   cases m with
   |false=>
    simp only[Bool.false_eq_true, ↓reduceIte] at hg ⊢
    simp only[ki_,Qp_,Bool.or_false,Bool.false_or,Bool.or_true,Bool.true_or,Nat.reduceBEq,beq_self_eq_true, ↓reduceIte,Bool.false_eq_true]
    refine kv ?_
    try with_reducible refine qr_ ?_
    first|with_reducible refine ks [] @zH_ ?_|refine kp @zH_ ?_
    refine Ow.callM rfl rfl Tryz.call149 (by simp[keys]) (fun w' hw'=>xi_ b s _ 0 x a w' (hw'.has _ _ List.mem_cons_self)) ?_
    refine ko @zH_ ?_
    first|with_reducible refine ks [] @zH_ ?_|refine kp @zH_ ?_
    rw[jH_ rfl hg]
    refine⟨_,_,_,(ke @zH_),rfl,trivial, ?_⟩
    simp[vE_]
   |true=>
    simp only[↓reduceIte] at hg ⊢
    obtain⟨hgo,hn,hk6⟩:=hg
    simp only[ki_,Qp_,Bool.or_false,Bool.false_or,Bool.or_true,Bool.true_or,Nat.reduceBEq,beq_self_eq_true, ↓reduceIte,Bool.false_eq_true]
    refine kv ?_
    try with_reducible refine qr_ ?_
    first|with_reducible refine ks [] @zH_ ?_|refine kp @zH_ ?_
    refine Cw.regionS [b] [0,1,2,4,5,6,3,7,8,9] [] (by kernel_rfl) (by kernel_rfl) (by kernel_rfl) ?_
    simp only[zh_, ↓zc_, ↓zb_, ↓zn_, ↓zo_,za_]
    refine kq @zH_ ?_
    try with_reducible refine Ow.nil ?_
    by_cases hend:a+k=s.length
    ·first|with_reducible refine ks [] @zH_ ?_|refine kp @zH_ ?_
     refine Jump.mk (NumS.mk false k n 3) rfl (by show 0<7 - k;omega) ⟨hk, ?_⟩ rfl rfl
     show z2_ most (s.drop a) 0 0= .error 3
     rw[hgo,hend,List.drop_length];rfl
    ·first|with_reducible refine ks [] @zH_ ?_|refine kp @zH_ ?_
     have hak:a+k<s.length:=by omega
     have hdrop:s.drop (a+k)=s.getD (a+k) 0::s.drop (a+k+1):=by
      rw[List.drop_eq_getElem_cons hak,List.getD_eq_getElem?_getD,List.getElem?_eq_getElem hak];rfl
     rw[hdrop] at hgo
     refine Cw.regionS [b] [0,1,2,4,5,6,3,7,8,9] [] (by kernel_rfl) (by kernel_rfl) (by kernel_rfl) ?_
     simp only[zh_, ↓zc_, ↓zb_, ↓zn_, ↓zo_,za_]
     refine kq @zH_ ?_
     try with_reducible refine Ow.nil ?_
     generalize s.getD (a+k) 0=c at*
     have hp:128^k≤34359738368:=Nat.pow_le_pow_right (by omega) (show k≤5 by omega)
     have hp0:0<128^k:=Nat.pow_pos (by omega)
     have hd: (c%128).toNat=c.toNat%128:=by simp
     have hcl:=c.toNat_lt
     have hdm:c.toNat%128*128^k≤127*128^k:=Nat.mul_le_mul_right _ (by omega)
     have hshl:zm_ .shl (vi ((c.toNat%128:Nat):Int)) (vi ((7*k:Nat):Int))=some (vi ((c.toNat%128*128^k:Nat):Int)):=by
      have h2: (2:Int)^ (7*k)=((128^k:Nat):Int):=by
       rw[Int.pow_mul];push_cast;rfl
      have:=ahP_ ((c.toNat%128:Nat):Int) .i64 (7*k) (by rw[h2];refine⟨by omega,by omega, ?_⟩;rw[←Int.natCast_mul];omega)
      rw[h2,←Int.natCast_mul] at this
      exact this
     have hor:zm_ .or (vi (n:Int)) (vi ((c.toNat%128*128^k:Nat):Int))=some (vi ((n+c.toNat%128*128^k:Nat):Int)):=by
      have:=or_i (n:Int) ((c.toNat%128*128^k:Nat):Int) ⟨by omega,by omega,by omega,by omega⟩
      rw[this]
      congr 3
      rw[Int.toNat_natCast,Int.toNat_natCast,show 128^k=2^ (7*k) by rw[Nat.pow_mul],Nat.mul_comm,Nat.or_comm,←Nat.two_pow_add_eq_or_of_lt (by rw[Nat.pow_mul];exact hn),Nat.add_comm]
     have hlt:n+c.toNat%128*128^k<128^ (k+1):=by rw[Nat.pow_succ];omega
     have hrem:zm_ .rem (v8 c) (v8 128)=some (v8 (c%128)):=Ky_ _ _ (by decide)
     first|with_reducible refine ks [] (And.intro @zH_ (And.intro @hrem (And.intro @hd (And.intro @hshl (@hor))))) ?_|refine kp (And.intro @zH_ (And.intro @hrem (And.intro @hd (And.intro @hshl (@hor))))) ?_
     have hle:decide ((128:UInt8)≤c)=decide (128≤c.toNat):=by simp[UInt8.le_iff_toNat_le]
     cases h128:decide ((128:UInt8)≤c)
     ·rw[h128] at hle
      have hc128: ¬128≤c.toNat:=of_decide_eq_false hle.symm
      cases hz: (c==0)
      ·have hc0: ¬ (c.toNat=0∧0<k):=by
        rintro⟨h0,-⟩
        have:c=0:=UInt8.toNat_inj.1 h0
        rw[this] at hz
        exact absurd hz (by decide)
       first|with_reducible refine ks [] (And.intro @zH_ @hz) ?_|refine kp (And.intro @zH_ @hz) ?_
       by_cases hm:n+c.toNat%128*128^k≤1099511627775
       ·have e1:decide (((n+c.toNat%128*128^k:Nat):Int)≤1099511627775)=true:=decide_eq_true (by omega)
        first|with_reducible refine ks [] (And.intro @zH_ @e1) ?_|refine kp (And.intro @zH_ @e1) ?_
        by_cases hmo: ((n+c.toNat%128*128^k:Nat):Int)≤most
        ·first|with_reducible refine ks [] @zH_ ?_|refine kp @zH_ ?_
         rw[Xa_ rfl (by rw[hgo,z2_,if_neg hc128,if_neg hc0,if_pos ⟨hm,hmo⟩])]
         refine⟨_,_,_,(ke @zH_),rfl,trivial, ?_⟩
         exact⟨rfl,rfl⟩
        ·first|with_reducible refine ks [] @zH_ ?_|refine kp @zH_ ?_
         refine Ow.callM rfl rfl Tryz.call149 (by simp[keys]) (fun w' hw'=>xi_ b s _ 0 4 a w' (hw'.has _ _ List.mem_cons_self)) ?_
         refine ko @zH_ ?_
         first|with_reducible refine ks [] @zH_ ?_|refine kp @zH_ ?_
         rw[jH_ (x:=4) rfl (by rw[hgo,z2_,if_neg hc128,if_neg hc0,if_neg (fun h=>hmo h.2)])]
         refine⟨_,_,_,(ke @zH_),rfl,trivial, ?_⟩
         exact⟨rfl,rfl⟩
       ·have e1:decide (((n+c.toNat%128*128^k:Nat):Int)≤1099511627775)=false:=decide_eq_false (by omega)
        first|with_reducible refine ks [] (And.intro @zH_ @e1) ?_|refine kp (And.intro @zH_ @e1) ?_
        refine Ow.callM rfl rfl Tryz.call149 (by simp[keys]) (fun w' hw'=>xi_ b s _ 0 4 a w' (hw'.has _ _ List.mem_cons_self)) ?_
        refine ko @zH_ ?_
        first|with_reducible refine ks [] @zH_ ?_|refine kp @zH_ ?_
        rw[jH_ (x:=4) rfl (by rw[hgo,z2_,if_neg hc128,if_neg hc0,if_neg (fun h=>hm h.1)])]
        refine⟨_,_,_,(ke @zH_),rfl,trivial, ?_⟩
        exact⟨rfl,rfl⟩
      ·have hcz:c=0:=eq_of_beq hz
       have hct:c.toNat=0:=by rw[hcz];rfl
       first|with_reducible refine ks [] (And.intro @zH_ @hz) ?_|refine kp (And.intro @zH_ @hz) ?_
       by_cases hk0:0<k
       ·first|with_reducible refine ks [] @zH_ ?_|refine kp @zH_ ?_
        refine Jump.mk (NumS.mk false (k+1) n 2) rfl (by show 0<7 - k;omega) ⟨by show a+ (k+1)≤s.length;omega, ?_⟩ rfl rfl
        show z2_ most (s.drop a) 0 0= .error 2
        rw[hgo,z2_,if_neg hc128,if_pos ⟨hct,hk0⟩]
       ·have hc0: ¬ (c.toNat=0∧0<k):=fun h=>hk0 h.2
        first|with_reducible refine ks [] @zH_ ?_|refine kp @zH_ ?_
        by_cases hm:n+c.toNat%128*128^k≤1099511627775
        ·have e1:decide (((n+c.toNat%128*128^k:Nat):Int)≤1099511627775)=true:=decide_eq_true (by omega)
         first|with_reducible refine ks [] (And.intro @zH_ @e1) ?_|refine kp (And.intro @zH_ @e1) ?_
         by_cases hmo: ((n+c.toNat%128*128^k:Nat):Int)≤most
         ·first|with_reducible refine ks [] @zH_ ?_|refine kp @zH_ ?_
          rw[Xa_ rfl (by rw[hgo,z2_,if_neg hc128,if_neg hc0,if_pos ⟨hm,hmo⟩])]
          refine⟨_,_,_,(ke @zH_),rfl,trivial, ?_⟩
          exact⟨rfl,rfl⟩
         ·first|with_reducible refine ks [] @zH_ ?_|refine kp @zH_ ?_
          refine Ow.callM rfl rfl Tryz.call149 (by simp[keys]) (fun w' hw'=>xi_ b s _ 0 4 a w' (hw'.has _ _ List.mem_cons_self)) ?_
          refine ko @zH_ ?_
          first|with_reducible refine ks [] @zH_ ?_|refine kp @zH_ ?_
          rw[jH_ (x:=4) rfl (by rw[hgo,z2_,if_neg hc128,if_neg hc0,if_neg (fun h=>hmo h.2)])]
          refine⟨_,_,_,(ke @zH_),rfl,trivial, ?_⟩
          exact⟨rfl,rfl⟩
        ·have e1:decide (((n+c.toNat%128*128^k:Nat):Int)≤1099511627775)=false:=decide_eq_false (by omega)
         first|with_reducible refine ks [] (And.intro @zH_ @e1) ?_|refine kp (And.intro @zH_ @e1) ?_
         refine Ow.callM rfl rfl Tryz.call149 (by simp[keys]) (fun w' hw'=>xi_ b s _ 0 4 a w' (hw'.has _ _ List.mem_cons_self)) ?_
         refine ko @zH_ ?_
         first|with_reducible refine ks [] @zH_ ?_|refine kp @zH_ ?_
         rw[jH_ (x:=4) rfl (by rw[hgo,z2_,if_neg hc128,if_neg hc0,if_neg (fun h=>hm h.1)])]
         refine⟨_,_,_,(ke @zH_),rfl,trivial, ?_⟩
         exact⟨rfl,rfl⟩
     ·rw[h128] at hle
      have hc128:128≤c.toNat:=of_decide_eq_true hle.symm
      first|with_reducible refine ks [] @zH_ ?_|refine kp @zH_ ?_
      by_cases hk5:k=5
      ·first|with_reducible refine ks [] @zH_ ?_|refine kp @zH_ ?_
       refine Jump.mk (NumS.mk false (k+1) n 4) rfl (by show 0<7 - k;omega) ⟨by show a+ (k+1)≤s.length;omega, ?_⟩ rfl rfl
       show z2_ most (s.drop a) 0 0= .error 4
       rw[hgo,z2_,if_pos hc128,if_pos (by omega)]
      ·first|with_reducible refine ks [] @zH_ ?_|refine kp @zH_ ?_
       refine Jump.mk (NumS.mk true (k+1) (n+c.toNat%128*128^k) 0) rfl (by show 7 - (k+1)<7 - k;omega) ⟨by show a+ (k+1)≤s.length;omega, ?_⟩ rfl rfl
       show z2_ most (s.drop a) 0 0=z2_ most (s.drop (a+ (k+1))) (k+1) (n+c.toNat%128*128^k)∧n+c.toNat%128*128^k<128^ (k+1)∧k+1<6
       refine⟨?_,hlt,by omega⟩
       rw[hgo,z2_,if_pos hc128,if_neg (by omega)]
       rfl
  ·intro key
   have key0:=fun f'=>key (NumS.mk true 0 0 0) f'
   simp only[ki_,Qp_,Bool.or_false,Bool.false_or,Bool.or_true,Bool.true_or,Nat.reduceBEq,beq_self_eq_true, ↓reduceIte,Bool.false_eq_true] at key0
   clear key
   repeat ((try with_reducible refine Cw.go [999999] ?_);(simp(disch:=(first|assumption|omega| (simp only[jF_,jE_,UInt64.reduceToNat];try omega))) only[↓Sx.S0,Sx.S1,Tryz.fx,zH_,Nat.reduceAdd,Nat.reducePow,Int.reducePow,Nat.reduceBEq, ↓reduceIte,UInt8.reduceToNat,UInt16.reduceToNat,UInt32.reduceToNat,UInt64.reduceToNat,Int.reduceToNat]))
   refine Ow.callFV rfl Tryz.call137 (fun w' hw'=>xz_ b s a 0 w' (hw'.has _ _ List.mem_cons_self)) ?_
   refine ko @zH_ ?_
   repeat ((try with_reducible refine Cw.go [999999] ?_);(simp(disch:=(first|assumption|omega| (simp only[jF_,jE_,UInt64.reduceToNat];try omega))) only[↓Sx.S0,Sx.S1,Tryz.fx,zH_,Nat.reduceAdd,Nat.reducePow,Int.reducePow,Nat.reduceBEq, ↓reduceIte,UInt8.reduceToNat,UInt16.reduceToNat,UInt32.reduceToNat,UInt64.reduceToNat,Int.reduceToNat]))
   repeat ((try with_reducible refine Cw.go [999999] ?_);(simp(disch:=(first|assumption|omega| (simp only[jF_,jE_,UInt64.reduceToNat];try omega))) only[↓Sx.S0,Sx.S1,Tryz.fx,zH_,Nat.reduceAdd,Nat.reducePow,Int.reducePow,Nat.reduceBEq, ↓reduceIte,UInt8.reduceToNat,UInt16.reduceToNat,UInt32.reduceToNat,UInt64.reduceToNat,Int.reduceToNat]))
   refine Cw.regionS [b] [0,1,2,4,3,5] [] (by kernel_rfl) (by kernel_rfl) (by kernel_rfl) ?_
   simp only[zh_, ↓zc_, ↓zb_, ↓zn_, ↓zo_,za_]
   refine kq @zH_ ?_
   try with_reducible refine Ow.nil ?_
   repeat ((try with_reducible refine Cw.go [999999] ?_);(simp(disch:=(first|assumption|omega| (simp only[jF_,jE_,UInt64.reduceToNat];try omega))) only[↓Sx.S0,Sx.S1,Tryz.fx,zH_,Nat.reduceAdd,Nat.reducePow,Int.reducePow,Nat.reduceBEq, ↓reduceIte,UInt8.reduceToNat,UInt16.reduceToNat,UInt32.reduceToNat,UInt64.reduceToNat,Int.reduceToNat]))
   refine Cw.label ?_
   refine key0 _ ⟨by omega,rfl,by omega,by omega⟩ ?_
   rfl
 ·refine Cw.scopeS ?_
  first|with_reducible refine ks [] @zH_ ?_|refine kp @zH_ ?_
  refine Ow.callFV rfl Tryz.call137 (fun w' hw'=>xz_ b s a e w' (hw'.has _ _ List.mem_cons_self)) ?_
  refine ko @zH_ ?_
  first|with_reducible refine ks [] @zH_ ?_|refine kp @zH_ ?_
  unfold zu_
  refine⟨_,_,_,(ke @zH_),rfl,trivial, ?_⟩
  simp[he,vE_]
end Go.Proofs
end
namespace Go.Sx
open Go
section
variable {P:Program} {w0:World} {f:Fr} {L:zd_} {N:Fr→zd_→Prop} {ops:Array Oper} {rest:List Oper} {md:Md}
 {d:Option Tmp} {ty:TypeId} {ps:String} {af:Array Edge} {g:Option (Nat×Bool)}
theorem Xn_ (l:List UInt8) (k size:Nat) (w:World): (Builtin.firstCells size k (vs l)).run P w= .ok ((l.take k).map v8).toArray w:=by
 simp only[vs,Builtin.firstCells]
 show Result.ok _ w=_
 congr 1
 have: ((ByteArray.mk l.toArray).extract 0 k).data=(l.take k).toArray:=by
  rw[ByteArray.data_extract]
  simp
 rw[this]
 simp
 rfl
theorem zg_ (R:List Nat) (x:UInt8):rdIn R (v8 x)=true:=(rfl)
theorem wo_ (R:List Nat) (x:UInt16):rdIn R (v16 x)=true:=(rfl)
theorem wk_ (R:List Nat) (x:UInt32):rdIn R (v32 x)=true:=(rfl)
theorem ww_ (R:List Nat) (x:UInt64):rdIn R (v64 x)=true:=(rfl)
theorem zf_ (R:List Nat) (x:Int):rdIn R (vi x)=true:=(rfl)
theorem Ow.copyText {td tx e:TypeId} {m:Bool×Nat} {x y:Operand} {b off n c:Nat} {l:List UInt8} {cs:Array Value} {E:TypeId} {md':Md} (he:md.turn=some md')
  (hs:zl_ ops f ⟨d, .call ⟨.builtin .copy, #[x,y], #[td,tx]⟩,ty,ps,af,g⟩=false) (hu:P.underlying td=some (.slice e)) (hm:z0_ P e=some m)
  (hx:ev f x=vsl b off n c) (hy:ev f y=vs l) (hl:look L b=some (.cells cs E (0,0))) (hn:off+n≤cs.size)
  (hO:Ow P w0 ops md' rest (qz_ f d (vi (min l.length n:Nat))) (setB L b (.cells (vH_ cs off ((l.take (min l.length n)).map v8)) E (0,0))) N):
  Ow P w0 ops md (⟨d, .call ⟨.builtin .copy, #[x,y], #[td,tx]⟩,ty,ps,af,g⟩::rest) f L N:=by
 refine Ow.step he rfl hs fun w hw=> ?_
 have hb:=hw.has _ _ (zJ_ hl)
 have hlt:=(Array.getElem?_eq_some_iff.1 hb).1
 have hlen: (Builtin.lenOf (vs l)).run P w= .ok l.length w:=by simp only[vs,Builtin.lenOf,vW_];rfl
 have hfc:=Xn_ (P:=P) l (min l.length n) m.2 w
 have hst:=xo_ (P:=P) (b:=b) (off:=off) (E:=E) (fz:=(0,0)) ((l.take (min l.length n)).map v8) 0 cs w hb (by
  rw[List.length_map,List.length_take];have:=Nat.min_le_right l.length n;omega) (.inl (Nat.le_refl 0)) (by rw[List.all_map,List.all_eq_true];intro x _;rfl)
 refine .inl ⟨vi (min l.length n:Nat),{w with heap:=w.heap.setIfInBounds b (.cells (vH_ cs off ((l.take (min l.length n)).map v8)) E (0,0))},_, ?_,hw.set (zw_ hl) rfl rfl rfl rfl,hO⟩
 simp only[execOp,resolve,Sem.run_bind,Sem.run_pure,Result.andThen_ok,invoke,builtin,List.map_toArray,List.map_cons,List.map_nil,hx,hy]
 have: (Builtin.copy_ #[td,tx] ty #[vsl b off n c,vs l]).run P w= .ok (vi (min l.length n:Nat)) {w with heap:=w.heap.setIfInBounds b (.cells (vH_ cs off ((l.take (min l.length n)).map v8)) E (0,0))}:=by
  simp only[Builtin.copy_,vsl,List.getElem?_toArray,List.getElem?_cons_zero,List.getElem?_cons_succ,Sem.run_bind,run_underlying hu w,Result.andThen_ok,hlen,zD_ hm w]
  rw[show l.length.min n=min l.length n from rfl,hfc]
  simp only[Result.andThen_ok]
  rw[hst]
  rfl
 rw[this]
 rfl
end
end Go.Sx
section
open Go Go.Proofs Go.Sx
namespace Go.Proofs
set_option maxRecDepth 10000
set_option maxHeartbeats 2000000
set_option linter.unusedSimpArgs false
set_option linter.defProp false
def ja_:=And.intro (And.intro (And.intro (@xN_) (@xS_)) (And.intro (@xV_) (@j2_))) (And.intro (And.intro (@j0_) (@nilR)) (And.intro (@anB_) (And.intro (@alX_) (@agR_))))
theorem Vx_ (most:Int): ∀ (l:List UInt8) (k n m k':Nat),z2_ most l k n= .ok (m,k')→k<k'∧k'≤k+l.length
 | [],k,n,m,k',h=>by cases h
 |c::r,k,n,m,k',h=>by
  unfold z2_ at h
  split at h
  ·split at h
   ·cases h
   ·have:=Vx_ most r (k+1) _ m k' h
    simp only[List.length_cons];omega
  ·split at h
   ·cases h
   ·split at h
    ·cases h;simp only[List.length_cons];omega
    ·cases h
theorem z4_ {s:List UInt8} {a:Nat} {e most:Int} (ha:a≤s.length):a≤ (zu_ s a e most).2.1∧(zu_ s a e most).2.1≤s.length:=by
 unfold zu_
 split
 ·exact⟨Nat.le_refl _,ha⟩
 ·cases h:z2_ most (s.drop a) 0 0 with
  |error x=>exact⟨Nat.le_refl _,ha⟩
  |ok p=>
   obtain⟨n,k⟩:=p
   have:=Vx_ most _ _ _ _ _ h
   rw[List.length_drop] at this
   exact⟨by show a≤a+k;omega,by show a+k≤s.length;omega⟩
theorem ko_ {s:List UInt8} {a:Nat} {e n:Int} (ha:a≤s.length):a≤ (jc_ s a e n).2.1∧(jc_ s a e n).2.1≤s.length:=by
 unfold jc_
 split
 ·exact⟨Nat.le_refl _,ha⟩
 ·split
  ·exact⟨Nat.le_refl _,ha⟩
  ·split
   ·exact⟨Nat.le_refl _,ha⟩
   ·exact⟨by show a≤a+n.toNat;omega,by show a+n.toNat≤s.length;omega⟩
def qN_ (s:List UInt8) (a:Nat) (e most:Int):List UInt8×Nat×Int:=
 let p:=zu_ s a e most
 let q:=jc_ s p.2.1 p.2.2 p.1
 if q.2.2≠0 then([],a,q.2.2) else q
theorem wq_ (b:Nat) (s:List UInt8) (a:Nat) (e most:Int) (w:World) (ha:a≤s.length) (hs:s.length<9223372036854775808) (ho:w.heap[b]? =some (.cells #[vs s,vi a,vi e] 212 (0,0))):
  Rets Tryz.prog 96 #[vp b 0,vi most] w (fun v D=> ∃o,D= [(b,o)]∧v=vs (qN_ s a e most).1∧o= .cells #[vs s,vi (qN_ s a e most).2.1,vi (qN_ s a e most).2.2] 212 (0,0)):=by
 refine Rets.enterM Tryz.func96 rfl (rs:= [.tmp 4]) Tryz.results96 Tryz.ntmps96 ho ?_
 refine kf ?_
 first|with_reducible refine ks [] @ja_ ?_|refine kp @ja_ ?_
 refine Ow.callFV rfl Tryz.call138 (fun w' hw'=>ad0_ b s a e w' (hw'.has _ _ List.mem_cons_self)) ?_
 refine ko @ja_ ?_
 first|with_reducible refine ks [] @ja_ ?_|refine kp @ja_ ?_
 have hp:=z4_ (e:=e) (most:=most) ha
 unfold qN_
 refine Ow.callM rfl rfl Tryz.call95 (by simp[keys]) (fun w' hw'=>qY_ b s a e most w' ha hs (hw'.has _ _ List.mem_cons_self)) ?_
 generalize zu_ s a e most=p at*
 obtain⟨n,a1,e1⟩:=p
 simp only at hp ⊢
 refine ko @ja_ ?_
 refine Ow.callM rfl rfl Tryz.call94 (by simp[keys]) (fun w' hw'=>v9_ b s a1 e1 n w' hp.2 hs (hw'.has _ _ List.mem_cons_self)) ?_
 have hq:=ko_ (e:=e1) (n:=n) hp.2
 generalize jc_ s a1 e1 n=q at*
 obtain⟨t,a2,e2⟩:=q
 simp only at hq ⊢
 refine ko @ja_ ?_
 first|with_reducible refine ks [] @ja_ ?_|refine kp @ja_ ?_
 by_cases he:e2=0
 ·first|with_reducible refine ks [] @ja_ ?_|refine kp @ja_ ?_
  refine⟨_,_,_,(ke @ja_),rfl,trivial, ?_⟩
  simp[he,vE_]
 ·first|with_reducible refine ks [] @ja_ ?_|refine kp @ja_ ?_
  refine Ow.minI rfl rfl rfl ?_
  have hmin: (if(a:Int)< (a2:Int) then(a:Int) else(a2:Int))=a:=by split<;>omega
  rw[hmin]
  refine ko @ja_ ?_
  first|with_reducible refine ks [] @ja_ ?_|refine kp @ja_ ?_
  refine⟨_,_,_,(ke @ja_),rfl,trivial, ?_⟩
  simp[he,vE_]
def z32:List UInt8:=List.replicate 32 0
def idR (s:List UInt8) (a:Nat) (e:Int):List UInt8×Nat×Int:=
 let q:=jc_ s a e 32
 (if q.1.length=32 then q.1 else z32,q.2)
theorem adU_ {s:List UInt8} {a:Nat} {e:Int} (_ha:a≤s.length): (jc_ s a e 32).1= []∨(jc_ s a e 32).1.length=32:=by
 unfold jc_
 split
 ·exact .inl rfl
 ·split
  ·exact .inl rfl
  ·split
   ·exact .inl rfl
   ·right
    show((s.drop a).take 32).length=32
    rw[List.length_take,List.length_drop];omega
theorem al2_ {t:List UInt8} (h:t= []∨t.length=32):vH_ (a8 (List.replicate 32 0)) 0 ((t.take (min t.length 32)).map v8)=a8 (if t.length=32 then t else z32):=by
 rcases h with rfl|h
 ·rfl
 ·rw[if_pos h,h,Nat.min_self,List.take_of_length_le (by omega)]
  have:=adV_ (t.map v8) [] ((List.replicate 32 (0:UInt8)).map v8) (by simp[h])
  simp only[List.nil_append,List.length_nil] at this
  show vH_ ((List.replicate 32 (0:UInt8)).map v8).toArray 0 (t.map v8)=(t.map v8).toArray
  rw[this]
  rw[List.drop_eq_nil_of_le (by simp[h]),List.append_nil]
theorem QZ_ (b:Nat) (s:List UInt8) (a:Nat) (e:Int) (w:World) (ha:a≤s.length) (hs:s.length<9223372036854775808) (ho:w.heap[b]? =some (.cells #[vs s,vi a,vi e] 212 (0,0))):
  Rets Tryz.prog 97 #[vp b 0] w (fun v D=> ∃o,D= [(b,o)]∧v= .agg (a8 (idR s a e).1)∧o= .cells #[vs s,vi (idR s a e).2.1,vi (idR s a e).2.2] 212 (0,0)):=by
 have hbl:=(Array.getElem?_eq_some_iff.1 ho).1
 have hq:=adU_ (e:=e) ha
 unfold idR
 refine Rets.enterM Tryz.func97 rfl (rs:= [.cell 2 37]) Tryz.results97 Tryz.ntmps97 ho ?_
 refine kf ?_
 first|with_reducible refine ks [] @ja_ ?_|refine kp @ja_ ?_
 refine Ow.alloc rfl rfl Tryz.zr37 fun b2 hb2 hw2=> ?_
 refine ko @ja_ ?_
 first|with_reducible refine ks [] @ja_ ?_|refine kp @ja_ ?_
 refine Ow.alloc rfl rfl Tryz.zr37 fun b3 hb3 hw3=> ?_
 obtain⟨h13,h23,-⟩:=hb3
 obtain⟨h12,-⟩:=hb2
 refine ko @ja_ ?_
 first|with_reducible refine ks [] @ja_ ?_|refine kp @ja_ ?_
 refine Cw.regionS [] [0,1,2,3] [] (by kernel_rfl) (by kernel_rfl) (by kernel_rfl) ?_
 simp only[zh_, ↓zc_, ↓zb_, ↓zn_, ↓zo_,za_]
 refine kq @ja_ ?_
 refine Ow.soft rfl rfl rfl ?_
 refine Ow.callM rfl rfl Tryz.call94 (by simp[keys]) (fun w' hw'=>v9_ b s a e 32 w' ha hs (hw'.has _ _ List.mem_cons_self)) ?_
 generalize jc_ s a e 32=q at*
 obtain⟨t,a2,e2⟩:=q
 simp only at hq ⊢
 try with_reducible refine Ow.nil ?_
 refine⟨fun b hb=>absurd hb (by simp), ?_⟩
 simp(disch:=omega) only[jW_]
 refine Ow.soft rfl rfl rfl ?_
 refine Ow.copyText (cs:=a8 (List.replicate 32 0)) (E:=37) (e:=5) rfl rfl Tryz.underlying119 Tryz.ag5 rfl rfl (by simp(disch:=omega) only[q9_,zS_]) (by rw[vh_];simp) ?_
 rw[al2_ hq]
 have hil: (if t.length=32 then t else z32).length=32:=by
  split
  ·assumption
  ·simp[z32]
 generalize (if t.length=32 then t else z32)=id at*
 try with_reducible refine Ow.nil ?_
 refine⟨fun b hb=>absurd hb (by simp), ?_⟩
 simp(disch:=omega) only[jW_,jm_]
 refine kq @ja_ ?_
 try with_reducible refine Ow.nil ?_
 first|with_reducible refine ks [] @ja_ ?_|refine kp @ja_ ?_
 refine⟨_,_,_,(ke @ja_),rfl,⟨hw2,hw3,trivial⟩, ?_⟩
 exact⟨rfl,rfl⟩
theorem v3_ (s:List UInt8) (w:World):
  Rets Tryz.prog 71 #[vs s] w (fun v D=> ∃b,w.heap.size≤b∧v=vp b 0∧D= [(b, .cells #[vs s,vi 0,vi 0] 212 (0,0))]):=by
 refine Rets.enter Tryz.func71 rfl (rs:= [.tmp 2]) Tryz.results71 Tryz.ntmps71 ?_
 refine kf ?_
 first|with_reducible refine ks [] @ja_ ?_|refine kp @ja_ ?_
 refine Ow.build (.agg #[vs s,vi 0,vi 0]) rfl (by kernel_rfl) ?_
 refine ko @ja_ ?_
 refine Ow.box rfl rfl fun b1 hb1 hw1=> ?_
 refine ko @ja_ ?_
 first|with_reducible refine ks [] @ja_ ?_|refine kp @ja_ ?_
 refine⟨_,(by simp only[wz_,We_,adB_,qe_,qc_,Kh_];rfl),b1,hw1,rfl, ?_⟩
 rfl
end Go.Proofs
end
section
open Go Go.Proofs Go.Sx
namespace Go.Proofs
set_option maxRecDepth 10000
set_option maxHeartbeats 4000000
set_option linter.unusedSimpArgs false
set_option linter.defProp false
def zv_:=And.intro (And.intro (And.intro (@zg_) (@wo_)) (And.intro (@wk_) (And.intro (@ww_) (@zf_)))) (And.intro (And.intro (@xN_) (@xS_)) (And.intro (@xV_) (And.intro (@j2_) (@j0_))))
theorem abd_ (b:Nat) (s:List UInt8) (a:Nat) (e n:Int) (w:World) (ha:a≤s.length) (hs:s.length<1099511627776) (ho:w.heap[b]? =some (.cells #[vs s,vi a,vi e] 166 (0,0))):
  Rets Tryz.prog 100 #[vp b 0,vi n] w (fun v D=> ∃o,D= [(b,o)]∧v=vs (jc_ s a e n).1∧o= .cells #[vs s,vi (jc_ s a e n).2.1,vi (jc_ s a e n).2.2] 166 (0,0)):=by
 refine Rets.enterM Tryz.func100 rfl (rs:= [.tmp 4]) Tryz.results100 Tryz.ntmps100 ho ?_
 refine kf ?_
 first|with_reducible refine ks [] @zv_ ?_|refine kp @zv_ ?_
 unfold jc_
 by_cases he:e=0
 ·subst he
  rw[if_neg (fun h=>h rfl)]
  first|with_reducible refine ks [] @zv_ ?_|refine kp @zv_ ?_
  by_cases hn:n<0
  ·rw[if_pos hn]
   first|with_reducible refine ks [] @zv_ ?_|refine kp @zv_ ?_
   refine⟨_,_,_,(ke @zv_),rfl,trivial, ?_⟩
   exact⟨rfl,rfl⟩
  ·rw[if_neg hn]
   first|with_reducible refine ks [] @zv_ ?_|refine kp @zv_ ?_
   refine Cw.regionS [b] [0,1,2,5,6,7,10,3,4,8,9,11] [] (by kernel_rfl) (by kernel_rfl) (by kernel_rfl) ?_
   simp only[zh_, ↓zc_, ↓zb_, ↓zn_, ↓zo_,za_]
   refine kq @zv_ ?_
   try with_reducible refine Ow.nil ?_
   first|with_reducible refine ks [] @zv_ ?_|refine kp @zv_ ?_
   by_cases hl: (s.length:Int) - a<n
   ·rw[if_pos hl]
    first|with_reducible refine ks [] @zv_ ?_|refine kp @zv_ ?_
    refine⟨_,_,_,(ke @zv_),rfl,trivial, ?_⟩
    exact⟨rfl,rfl⟩
   ·rw[if_neg hl]
    obtain⟨m,rfl⟩: ∃m:Nat,n=(m:Int):=⟨n.toNat,by omega⟩
    first|with_reducible refine ks [] @zv_ ?_|refine kp @zv_ ?_
    refine Cw.regionS [b] [0,1,2,4,5,6,8,9,10,12,3,7,11,13,14,15] [] (by kernel_rfl) (by kernel_rfl) (by kernel_rfl) ?_
    simp only[zh_, ↓zc_, ↓zb_, ↓zn_, ↓zo_,za_]
    refine kq @zv_ ?_
    try with_reducible refine Ow.nil ?_
    first|with_reducible refine ks [] @zv_ ?_|refine kp @zv_ ?_
    refine⟨_,_,_,(ke @zv_),rfl,trivial, ?_⟩
    refine⟨?_, ?_⟩
    ·simp only[vE_,Int.toNat_natCast]
     rw[List.drop_take,Nat.add_sub_cancel_left]
    ·rw[Int.toNat_natCast,Int.natCast_add]
 ·rw[if_pos he]
  first|with_reducible refine ks [] @zv_ ?_|refine kp @zv_ ?_
  refine⟨_,_,_,(ke @zv_),rfl,trivial, ?_⟩
  exact⟨rfl,rfl⟩
theorem ac6_ (b:Nat) (s:List UInt8) (a e:Int) (w:World) (ho:w.heap[b]? =some (.cells #[vs s,vi a,vi e] 166 (0,0))):
  Rets Tryz.prog 102 #[vp b 0] w (fun v D=>v=vi (if e≠0 then e else if a<s.length then 5 else 0)∧D= []):=by
 refine Rets.enterV Tryz.func102 rfl (rs:= [.tmp 2]) Tryz.results102 Tryz.ntmps102 ?_
 refine kf ?_
 first|with_reducible refine ks [] (And.intro @zv_ @ho) ?_|refine kp (And.intro @zv_ @ho) ?_
 by_cases he:e=0
 ·first|with_reducible refine ks [] @zv_ ?_|refine kp @zv_ ?_
  refine Cw.regionS [b] [0,1,2,4,5,6,3,7,8,9] [] (by kernel_rfl) (by kernel_rfl) (by kernel_rfl) ?_
  simp only[zh_, ↓zc_, ↓zb_, ↓zn_, ↓zo_,za_]
  refine kq (And.intro @zv_ @ho) ?_
  try with_reducible refine Ow.nil ?_
  first|with_reducible refine ks [] @zv_ ?_|refine kp @zv_ ?_
  refine cdC.splitp (fun hc=> ?_) (fun hc=> ?_)
  ·first|with_reducible refine ks [] @zv_ ?_|refine kp @zv_ ?_
   refine⟨_,(ke @zv_),trivial, ?_⟩
   simp[hc,he,vE_]
  ·first|with_reducible refine ks [] @zv_ ?_|refine kp @zv_ ?_
   refine⟨_,(ke @zv_),trivial, ?_⟩
   simp[hc,he,vE_]
 ·first|with_reducible refine ks [] (And.intro @zv_ @ho) ?_|refine kp (And.intro @zv_ @ho) ?_
  refine⟨_,(ke @zv_),trivial, ?_⟩
  simp[he,vE_]
structure KN where
 k:Nat
 n:Nat
theorem X9_ (b:Nat) (s:List UInt8) (a:Nat) (e most:Int) (w:World) (ha:a≤s.length) (hs:s.length<1099511627776) (ho:w.heap[b]? =some (.cells #[vs s,vi a,vi e] 166 (0,0))):
  Rets Tryz.prog 98 #[vp b 0,vi most] w (fun v D=> ∃o,D= [(b,o)]∧v=vi (zu_ s a e most).1∧o= .cells #[vs s,vi (zu_ s a e most).2.1,vi (zu_ s a e most).2.2] 166 (0,0)):=by
 refine Rets.enterM Tryz.func98 rfl (rs:= [.tmp 4]) Tryz.results98 Tryz.ntmps98 ho ?_
 refine kf ?_
 first|with_reducible refine ks [] @zv_ ?_|refine kp @zv_ ?_
 by_cases he:e=0
 ·subst he
  first|with_reducible refine ks [] @zv_ ?_|refine kp @zv_ ?_
  refine Cw.loopG (G:=KN) [14,15,18,19,20,21,22,23,24,25,26,27,28,29,30,31,32,4,33,34,35,36,37,38,39,40,41,42,43,44,8,45,46,47,48,49,50,5,51,52,6,53,54,55,56,57,58,59,60,61,62,63,64,65,66,67,68,69,70,71,72,73,74,75,76,77,78,79,80,81,82,83,84,16,17,7] (fun g=> [(5,vi g.n),(6,vi (128^g.k:Nat)),(7,vi g.k)]) (fun g=> [(b, .cells #[vs s,vi a,vi 0] 166 (0,0))]) (fun g=>g.k≤6∧(g.k<6→z2_ most (s.drop a) 0 0=z2_ most (s.drop (a+g.k)) g.k g.n∧a+g.k≤s.length∧g.n<128^g.k)∧(g.k=6→z2_ most (s.drop a) 0 0= .error 4)) (fun g=>6 - g.k) ⟨0,0⟩ rfl rfl ?_ ?_
  ·exact⟨by simp,fun _=>⟨rfl,by simpa using ha,by simp⟩,fun h=>by cases h⟩
  intro g j hg
  refine kv ?_
  obtain⟨k,n⟩:=g
  simp only at hg ⊢
  obtain⟨hk6,hg1,hg2⟩:=hg
  by_cases hk:k<6
  ·obtain⟨hgo,hak,hn⟩:=hg1 hk
   first|with_reducible refine ks [] @zv_ ?_|refine kp @zv_ ?_
   refine Cw.regionS [b] [0,1,2,4,6,7,8,3,5,9,10,11] [] (by kernel_rfl) (by kernel_rfl) (by kernel_rfl) ?_
   simp only[zh_, ↓zc_, ↓zb_, ↓zn_, ↓zo_,za_]
   refine kq @zv_ ?_
   try with_reducible refine Ow.nil ?_
   first|with_reducible refine ks [] @zv_ ?_|refine kp @zv_ ?_
   by_cases hend:a+k=s.length
   ·first|with_reducible refine ks [] @zv_ ?_|refine kp @zv_ ?_
    rw[jH_ (x:=3) rfl (by rw[hgo,hend,List.drop_length];rfl)]
    refine⟨_,_,_,(ke @zv_),rfl,trivial, ?_⟩
    exact⟨rfl,rfl⟩
   ·have hak':a+k<s.length:=by omega
    have hdrop:s.drop (a+k)=s.getD (a+k) 0::s.drop (a+k+1):=by
     rw[List.drop_eq_getElem_cons hak',List.getD_eq_getElem?_getD,List.getElem?_eq_getElem hak'];rfl
    rw[hdrop] at hgo
    first|with_reducible refine ks [] @zv_ ?_|refine kp @zv_ ?_
    refine Cw.regionS [b] [0,1,2,4,5,6,8,3,7,9,10,11,12] [] (by kernel_rfl) (by kernel_rfl) (by kernel_rfl) ?_
    simp only[zh_, ↓zc_, ↓zb_, ↓zn_, ↓zo_,za_]
    have hcast: ((a:Int)+ (k:Int))=((a+k:Nat):Int):=by omega
    refine kq (And.intro @zv_ @hcast) ?_
    try with_reducible refine Ow.nil ?_
    generalize s.getD (a+k) 0=c at*
    have hp:128^k≤34359738368:=Nat.pow_le_pow_right (by omega) (show k≤5 by omega)
    have hp0:0<128^k:=Nat.pow_pos (by omega)
    have hcl:=c.toNat_lt
    have hdm:c.toNat%128*128^k≤127*128^k:=Nat.mul_le_mul_right _ (by omega)
    have hcm: ((c.toNat:Int)%128)=((c.toNat%128:Nat):Int):=by omega
    have hmul:zm_ .mul (vi ((c.toNat%128:Nat):Int)) (vi ((128^k:Nat):Int))=some (vi ((c.toNat%128*128^k:Nat):Int)):=by
     rw[aaQ_ _ _ (by rw[←Int.natCast_mul];omega),←Int.natCast_mul]
    have hpow: (((128^k:Nat):Int)*128)=((128^ (k+1):Nat):Int):=by rw[Nat.pow_succ,Int.natCast_mul];rfl
    have hlt:n+c.toNat%128*128^k<128^ (k+1):=by rw[Nat.pow_succ];omega
    first|with_reducible refine ks [] (And.intro @zv_ (And.intro @hcm (And.intro @hmul (@hpow)))) ?_|refine kp (And.intro @zv_ (And.intro @hcm (And.intro @hmul (@hpow)))) ?_
    rw[show((n:Int)+ ((c.toNat%128*128^k:Nat):Int))=((n+c.toNat%128*128^k:Nat):Int) from(Int.natCast_add _ _).symm]
    by_cases hc128:128≤c.toNat
    ·first|with_reducible refine ks [] @zv_ ?_|refine kp @zv_ ?_
     refine Again.mk (KN.mk (k+1) (n+c.toNat%128*128^k)) (by show 6 - (k+1)<6 - k;omega) ⟨by show k+1≤6;omega,fun h=>⟨?_,by show a+ (k+1)≤s.length;omega,hlt⟩,fun h=> ?_⟩ rfl rfl
     ·show z2_ most (s.drop a) 0 0=z2_ most (s.drop (a+ (k+1))) (k+1) (n+c.toNat%128*128^k)
      have h':k+1<6:=h
      rw[hgo,z2_,if_pos hc128,if_neg (by omega)]
      rfl
     ·have h':k+1=6:=h
      rw[hgo,z2_,if_pos hc128,if_pos h']
    ·by_cases hz:c.toNat=0
     ·have e0: ((c.toNat:Int)==0)=true:=by simp[hz]
      first|with_reducible refine ks [] (And.intro @zv_ @e0) ?_|refine kp (And.intro @zv_ @e0) ?_
      by_cases hk0:0<k
      ·first|with_reducible refine ks [] @zv_ ?_|refine kp @zv_ ?_
       rw[jH_ (x:=2) rfl (by rw[hgo,z2_,if_neg hc128,if_pos ⟨hz,hk0⟩])]
       refine⟨_,_,_,(ke @zv_),rfl,trivial, ?_⟩
       exact⟨rfl,rfl⟩
      ·have hc0: ¬ (c.toNat=0∧0<k):=fun h=>hk0 h.2
       first|with_reducible refine ks [] @zv_ ?_|refine kp @zv_ ?_
       by_cases hm:n+c.toNat%128*128^k≤1099511627775
       ·have e1:decide ((1099511627775:Int)< ((n+c.toNat%128*128^k:Nat):Int))=false:=decide_eq_false (by omega)
        first|with_reducible refine ks [] (And.intro @zv_ @e1) ?_|refine kp (And.intro @zv_ @e1) ?_
        by_cases hmo: ((n+c.toNat%128*128^k:Nat):Int)≤most
        ·first|with_reducible refine ks [] @zv_ ?_|refine kp @zv_ ?_
         rw[Xa_ rfl (by rw[hgo,z2_,if_neg hc128,if_neg hc0,if_pos ⟨hm,hmo⟩])]
         refine⟨_,_,_,(ke @zv_),rfl,trivial, ?_⟩
         exact⟨rfl,rfl⟩
        ·first|with_reducible refine ks [] @zv_ ?_|refine kp @zv_ ?_
         rw[jH_ (x:=4) rfl (by rw[hgo,z2_,if_neg hc128,if_neg hc0,if_neg (fun h=>hmo h.2)])]
         refine⟨_,_,_,(ke @zv_),rfl,trivial, ?_⟩
         exact⟨rfl,rfl⟩
       ·have e1:decide ((1099511627775:Int)< ((n+c.toNat%128*128^k:Nat):Int))=true:=decide_eq_true (by omega)
        first|with_reducible refine ks [] (And.intro @zv_ @e1) ?_|refine kp (And.intro @zv_ @e1) ?_
        rw[jH_ (x:=4) rfl (by rw[hgo,z2_,if_neg hc128,if_neg hc0,if_neg (fun h=>hm h.1)])]
        refine⟨_,_,_,(ke @zv_),rfl,trivial, ?_⟩
        exact⟨rfl,rfl⟩
     ·have e0: ((c.toNat:Int)==0)=false:=by simp;omega
      have hc0: ¬ (c.toNat=0∧0<k):=fun h=>hz h.1
      first|with_reducible refine ks [] (And.intro @zv_ @e0) ?_|refine kp (And.intro @zv_ @e0) ?_
      by_cases hm:n+c.toNat%128*128^k≤1099511627775
      ·have e1:decide ((1099511627775:Int)< ((n+c.toNat%128*128^k:Nat):Int))=false:=decide_eq_false (by omega)
       first|with_reducible refine ks [] (And.intro @zv_ @e1) ?_|refine kp (And.intro @zv_ @e1) ?_
       by_cases hmo: ((n+c.toNat%128*128^k:Nat):Int)≤most
       ·first|with_reducible refine ks [] @zv_ ?_|refine kp @zv_ ?_
        rw[Xa_ rfl (by rw[hgo,z2_,if_neg hc128,if_neg hc0,if_pos ⟨hm,hmo⟩])]
        refine⟨_,_,_,(ke @zv_),rfl,trivial, ?_⟩
        exact⟨rfl,rfl⟩
       ·first|with_reducible refine ks [] @zv_ ?_|refine kp @zv_ ?_
        rw[jH_ (x:=4) rfl (by rw[hgo,z2_,if_neg hc128,if_neg hc0,if_neg (fun h=>hmo h.2)])]
        refine⟨_,_,_,(ke @zv_),rfl,trivial, ?_⟩
        exact⟨rfl,rfl⟩
      ·have e1:decide ((1099511627775:Int)< ((n+c.toNat%128*128^k:Nat):Int))=true:=decide_eq_true (by omega)
       first|with_reducible refine ks [] (And.intro @zv_ @e1) ?_|refine kp (And.intro @zv_ @e1) ?_
       rw[jH_ (x:=4) rfl (by rw[hgo,z2_,if_neg hc128,if_neg hc0,if_neg (fun h=>hm h.1)])]
       refine⟨_,_,_,(ke @zv_),rfl,trivial, ?_⟩
       exact⟨rfl,rfl⟩
  ·have hke:k=6:=by omega
   first|with_reducible refine ks [] @zv_ ?_|refine kp @zv_ ?_
   rw[jH_ (x:=4) rfl (hg2 hke)]
   refine⟨_,_,_,(ke @zv_),rfl,trivial, ?_⟩
   exact⟨rfl,rfl⟩
 ·first|with_reducible refine ks [] @zv_ ?_|refine kp @zv_ ?_
  unfold zu_
  refine⟨_,_,_,(ke @zv_),rfl,trivial, ?_⟩
  simp[he,vE_]
end Go.Proofs
end
section
open Go Go.Proofs Go.Sx
namespace Go.Proofs
set_option maxRecDepth 10000
set_option maxHeartbeats 4000000
set_option linter.unusedSimpArgs false
set_option linter.defProp false
def wB_:=And.intro (And.intro (And.intro (@zg_) (@wo_)) (And.intro (@wk_) (And.intro (@ww_) (@zf_)))) (And.intro (And.intro (@xN_) (@xS_)) (And.intro (@xV_) (And.intro (@j2_) (@j0_))))
def K6_ (t:List UInt8) (g:Nat):List UInt8:=t.take g++List.replicate (32 - g) 0
theorem agm_ (t:List UInt8) (g:Nat) (h:g≤t.length) (h2:t.length≤32): (K6_ t g).length=32:=by
 unfold K6_;rw[List.length_append,List.length_take,List.length_replicate];omega
theorem afI_ (t:List UInt8) (g:Nat) (h:g<t.length) (h2:t.length≤32): (K6_ t g).set g (t.getD g 0)=K6_ t (g+1):=by
 unfold K6_
 have hl: (t.take g).length=g:=by rw[List.length_take];omega
 obtain⟨m,hm⟩: ∃m,32 - g=m+1:=⟨31 - g,by omega⟩
 rw[hm,List.replicate_succ,List.set_append_right _ _ (by omega),hl,Nat.sub_self,List.set_cons_zero,List.take_succ_eq_append_getElem h,List.getD_eq_getElem?_getD,List.getElem?_eq_getElem h,show 32 - (g+1)=m by omega,List.append_assoc]
 rfl
theorem agk_ (t:List UInt8) (h:t= []∨t.length=32):K6_ t t.length=(if t.length=32 then t else z32):=by
 unfold K6_
 rcases h with rfl|h
 ·rfl
 ·rw[if_pos h,h,List.take_of_length_le (by omega)];simp
theorem afP_ (b:Nat) (s:List UInt8) (a:Nat) (e:Int) (w:World) (ha:a≤s.length) (hs:s.length<1099511627776) (ho:w.heap[b]? =some (.cells #[vs s,vi a,vi e] 166 (0,0))):
  Rets Tryz.prog 101 #[vp b 0] w (fun v D=> ∃o,D= [(b,o)]∧v= .agg (a8 (idR s a e).1)∧o= .cells #[vs s,vi (idR s a e).2.1,vi (idR s a e).2.2] 166 (0,0)):=by
 have hbl:=(Array.getElem?_eq_some_iff.1 ho).1
 have hq:=adU_ (e:=e) ha
 unfold idR
 refine Rets.enterM Tryz.func101 rfl (rs:= [.cell 2 37]) Tryz.results101 Tryz.ntmps101 ho ?_
 refine kf ?_
 first|with_reducible refine ks [] @wB_ ?_|refine kp @wB_ ?_
 refine Ow.alloc rfl rfl Tryz.zr37 fun b2 hb2 hw2=> ?_
 obtain⟨h12,-⟩:=hb2
 refine ko @wB_ ?_
 first|with_reducible refine ks [] @wB_ ?_|refine kp @wB_ ?_
 refine Ow.callM rfl rfl Tryz.call100 (by simp[keys]) (fun w' hw'=>abd_ b s a e 32 w' ha hs (hw'.has _ _ List.mem_cons_self)) ?_
 generalize jc_ s a e 32=q at*
 obtain⟨t,a2,e2⟩:=q
 simp only at hq ⊢
 have ht32:t.length≤32:=by rcases hq with rfl|h<;>simp_all
 refine ko @wB_ ?_
 first|with_reducible refine ks [] @wB_ ?_|refine kp @wB_ ?_
 refine Ow.alloc rfl rfl Tryz.zr37 fun b3 hb3 hw3=> ?_
 refine ko @wB_ ?_
 obtain⟨h13,h23,-⟩:=hb3
 rw[show a8 (List.replicate 32 0)=a8 (K6_ t 0) from rfl]
 first|with_reducible refine ks [] @wB_ ?_|refine kp @wB_ ?_
 refine Cw.loopG (G:=Nat) [8,9,10,11,14,15,16,17,18,12,13,5] (fun g=> [(5,vi g)]) (fun g=> [(b, .cells #[vs s,vi a2,vi e2] 166 (0,0)),(b2, .cells (a8 z32) 37 (0,0)),(b3, .cells (a8 (K6_ t g)) 37 (0,0))]) (fun g=>g≤t.length) (fun g=>t.length - g) 0 rfl rfl ?_ ?_
 ·omega
 intro g j hg
 refine kv ?_
 by_cases hlt:g<t.length
 ·have hil:=agm_ t g hg ht32
  first|with_reducible refine ks [] @wB_ ?_|refine kp @wB_ ?_
  refine Again.mk (g+1) (by omega) (by omega) ?_ rfl
  rw[afI_ t g hlt ht32]
 ·obtain rfl:g=t.length:=by omega
  rw[agk_ t hq]
  have hil: (if t.length=32 then t else z32).length=32:=by
   split
   ·assumption
   ·simp[z32]
  have hz32:z32.length=32:=by simp[z32]
  generalize (if t.length=32 then t else z32)=id at*
  first|with_reducible refine ks [] @wB_ ?_|refine kp @wB_ ?_
  refine⟨_,_,_,(ke @wB_),rfl,⟨hw2,hw3,trivial⟩, ?_⟩
  exact⟨rfl,rfl⟩
end Go.Proofs
end
namespace Go.Sx
open Go
theorem abK_ (A B C:List Value) {o n:Nat} (hA:A.length=o) (hB:B.length=n): (A++ (B++C)).toArray.extract o (o+n)=B.toArray:=by
 subst hA;subst hB
 rw[List.extract_toArray,List.extract_eq_take_drop,List.drop_left,Nat.add_sub_cancel_left,List.take_left]
theorem aiC_ (A C:List Value) (v:Value) {o:Nat} (hA:A.length=o): (A++ ([v]++C)).toArray[o]? =some v:=by
 subst hA;simp
theorem VE_ (A C:List Value) (v:Value) {o:Nat} (hA:A.length=o): (A++ ([v]++C))[o]? =some v:=by
 subst hA;simp
theorem w0_ (A B B' C:List Value) {o:Nat} (hA:A.length=o) (hB:B.length=B'.length):vH_ (A++ (B++C)).toArray o B'=(A++ (B'++C)).toArray:=by
 subst hA
 have hp:=Vp_ B' A B C hB
 rw[List.append_assoc,List.append_assoc] at hp
 exact hp
theorem ad1_ (A B C:List Value) {o n:Nat} (hA:A.length=o) (hB:B.length=n):partV (true,n) (A++ (B++C)).toArray o=some (.agg B.toArray):=by
 show some (Value.agg _)=_
 rw[abK_ A B C hA hB]
theorem Q3_ (A C:List Value) (v:Value) {o n:Nat} (hA:A.length=o):partV (false,n) (A++ ([v]++C)).toArray o=some v:=aiC_ A C v hA
theorem wx_ (A B C:List Value) {o n:Nat} (E:TypeId) (fz:Nat×Nat) (hA:A.length=o) (hB:B.length=n):zr_ (some (true,n)) (some (.cells (A++ (B++C)).toArray E fz)) o=some (.agg B.toArray):=by
 have hs:o+n≤ (A++ (B++C)).toArray.size:=by
  simp only[List.size_toArray,List.length_append];omega
 unfold zr_
 simp only[hs, ↓reduceIte]
 rw[abK_ A B C hA hB]
theorem xW_ (A C:List Value) (v:Value) {o:Nat} (n:Nat) (E:TypeId) (fz:Nat×Nat) (hA:A.length=o):zr_ (some (false,n)) (some (.cells (A++ ([v]++C)).toArray E fz)) o=some v:=by
 rw[loadV_one];exact aiC_ A C v hA
theorem z6_ (A B B' C:List Value) {o n:Nat} (a:Bool) (x:Value) (E:TypeId) (hA:A.length=o) (hB:B.length=n) (hx:x.cells=B'.toArray) (hB':B'.length=n) (ho:B'.all Value.oneCell'=true):
  zp_ (some (a,n)) (some (.cells (A++ (B++C)).toArray E (0,0))) o x=some (.cells (A++ (B'++C)).toArray E (0,0)):=by
 subst hA
 have hp:=Vp_ B' A B C (by rw[hB,hB'])
 rw[List.append_assoc,List.append_assoc] at hp
 unfold zp_
 simp only[hx]
 rw[if_pos ⟨by rw[List.size_toArray,hB'],by simp only[List.size_toArray,List.length_append];omega, .inl (Nat.le_refl 0),ho⟩,hp]
theorem vk_ (cs:List Value) {n:Nat} (a:Bool) (old:Array Value) (E:TypeId) (hn:cs.length=n) (ho:cs.all Value.oneCell'=true) (h:old.size=n):
  zp_ (some (a,n)) (some (.cells old E (0,0))) 0 (.agg cs.toArray)=some (.cells cs.toArray E (0,0)):=
 ZU_ n a cs.toArray old E ⟨by rw[List.size_toArray,hn],h⟩ ho
theorem Jk_ (l:List UInt8): (l.map v8).all Value.oneCell'=true:=by
 rw[List.all_map]
 exact List.all_eq_true.2 fun x _=>rfl
theorem RowS.part {α:Type} {m:Nat} {enc:α→List Value} {z:α} {w:World} {v:Value} {l:List α} {b off:Nat} {arr:Array Value} {E:TypeId} {fz:Nat×Nat} (h:RowS m enc z w v l b off arr E fz) (hm: ∀x,(enc x).length=m) {k o n:Nat} (hk:k<l.length) (ho:o+n≤m) (hn:0<n):
  zr_ (some (true,n)) (some (.cells arr E fz)) (off+k*m+o)=some (.agg ((enc (l.getD k z)).toArray.extract o (o+n))):=by
 have hg: ∀i,i<n→arr[off+k*m+ (o+i)]? =(enc (l.getD k z))[o+i]? :=fun i hi=>h.get k hk (o+i) (by omega)
 have hlen:=hm (l.getD k z)
 have hsz:off+k*m+o+n≤arr.size:=by
  have h1:=hg (n - 1) (by omega)
  rw[List.getElem?_eq_getElem (by omega)] at h1
  have:=(Array.getElem?_eq_some_iff.1 h1).1
  omega
 unfold zr_
 simp only[hsz, ↓reduceIte]
 congr 2
 apply Array.ext_getElem?
 intro i
 by_cases hi:i<n
 ·rw[Array.getElem?_extract,Array.getElem?_extract,if_pos (by omega),if_pos (by rw[List.size_toArray];omega)]
  have hh:=hg i hi
  rw[show off+k*m+ (o+i)=off+k*m+o+i by omega] at hh
  rw[hh]
  exact(List.getElem?_toArray ..).symm
 ·rw[Array.getElem?_eq_none (by rw[Array.size_extract];omega),Array.getElem?_eq_none (by rw[Array.size_extract];omega)]
end Go.Sx
namespace Go.Sx
open Go
theorem Cw.forget {P:Program} {w0:World} {c:Code} {f:Fr} {L:zd_} {K:xF_} (M:zd_) (hM: ∀p,p∈M→p∈L) (hn: (keys M).Nodup) (hnew: ∀p,p∈L→p.1∉keys M→w0.heap.size≤p.1)
  (h:Cw P w0 c f M K):Cw P w0 c f L K:=fun w hw=>h w (hw.drop hM hn fun p hp hlt hk=>by have:=hnew p hp hk;omega)
end Go.Sx
namespace Go.Sx
open Go
def SlV {α:Type} (m:Nat) (enc:α→List Value) (z:α) (w:World) (v:Value) (l:List α):Prop:=
 ∃b off c arr E fz,RowS m enc z w v l b off arr E fz∧l.length≤c∧((v= .slice none 0 0∧l= []∧c=0)∨(v=vsl b off l.length c∧w.heap[b]? =some (.cells arr E fz)∧off+l.length*m≤arr.size))
section
variable {α:Type} {m:Nat} {enc:α→List Value} {z:α} {w:World} {v:Value} {l:List α}
theorem RowS.sl' {b off n c:Nat} {arr:Array Value} {E:TypeId} {fz:Nat×Nat} (hn:n=l.length)
  (has:0<l.length→w.heap[b]? =some (.cells arr E fz)) (get: ∀k,k<l.length→ ∀j,j<m→arr[off+k*m+j]? =(enc (l.getD k z))[j]?):RowS m enc z w (vsl b off n c) l b off arr E fz:=by
 subst hn
 exact⟨fun x=>rfl,fun a k hk=>jP_ _ _ _ _ _ _ ⟨by omega,by omega⟩,has,get⟩
theorem SlV.nil (w:World):SlV m enc z w (.slice none 0 0) []:=⟨0,0,0, #[],0,(0,0),RowS.nil w 0 0 rfl,Nat.le_refl _, .inl ⟨rfl,rfl,rfl⟩⟩
theorem SlV.row (h:SlV m enc z w v l): ∃b off arr E fz,RowS m enc z w v l b off arr E fz:=by
 obtain⟨b,off,c,arr,E,fz,hr,-⟩:=h;exact⟨b,off,arr,E,fz,hr⟩
theorem SlV.sl {b off c:Nat} {arr:Array Value} {E:TypeId} {fz:Nat×Nat} (has:w.heap[b]? =some (.cells arr E fz)) (get: ∀k,k<l.length→ ∀j,j<m→arr[off+k*m+j]? =(enc (l.getD k z))[j]?) (hc:l.length≤c) (hs:off+l.length*m≤arr.size):SlV m enc z w (vsl b off l.length c) l:=
 ⟨b,off,c,arr,E,fz,RowS.sl rfl has get,hc, .inr ⟨rfl,has,hs⟩⟩
theorem RowS.old {w':World} {b off:Nat} {arr:Array Value} {E:TypeId} {fz:Nat×Nat} {L:zd_} (h:RowS m enc z w v l b off arr E fz) (hw:Hp w L w') (hb:0<l.length→b∉keys L):RowS m enc z w' v l b off arr E fz:=
 ⟨h.len,h.idx,fun hl=>by have hh:=h.has hl;rw[hw.old b (Array.getElem?_eq_some_iff.1 hh).1 (hb hl)];exact hh,h.get⟩
theorem RowS.lt {b off:Nat} {arr:Array Value} {E:TypeId} {fz:Nat×Nat} (h:RowS m enc z w v l b off arr E fz) (hl:0<l.length):b<w.heap.size:=(Array.getElem?_eq_some_iff.1 (h.has hl)).1
theorem SlV.old {w':World} {L:zd_} (h:SlV m enc z w v l) (hw:Hp w L w') (hb: ∀b,slB v=some b→b<w.heap.size→b∉keys L):SlV m enc z w' v l:=by
 obtain⟨b,off,c,arr,E,fz,hr,hc,hv⟩:=h
 rcases hv with⟨rfl,rfl,rfl⟩ | ⟨rfl,hhas,hsz⟩
 ·exact SlV.nil w'
 ·have hnb:=hb b rfl (Array.getElem?_eq_some_iff.1 hhas).1
  refine⟨b,off,c,arr,E,fz,hr.old hw (fun _=>hnb),hc, .inr ⟨rfl, ?_,hsz⟩⟩
  rw[hw.old b (Array.getElem?_eq_some_iff.1 hhas).1 hnb];exact hhas
theorem New.not {L:zd_} {n b:Nat} (h:New n L) (hb:b<n):b∉keys L:=fun hm=>by have:=h.le b hm;omega
theorem SlV.oldN {w':World} {L:zd_} (h:SlV m enc z w v l) (hw:Hp w L w') (hn:New w.heap.size L):SlV m enc z w' v l:=h.old hw fun _ _ hb=>hn.not hb
theorem SlV.len (h:SlV m enc z w v l) (x:Bool×Nat):Xr_ (.sl x) v=some (vi l.length):=by
 obtain⟨b,off,arr,E,fz,hr⟩:=h.row
 exact hr.len x
theorem SlV.take (h:SlV m enc z w v l) {k:Nat} (hk:k≤l.length) (a:Bool): ∃v',jx_ (.sl (a,m)) v none (some (some (k:Int)))=some v'∧SlV m enc z w v' (l.take k)∧(∀b,slB v'=some b→slB v=some b):=by
 obtain⟨b,off,c,arr,E,fz,hr,hc,hv⟩:=h
 have hl: (l.take k).length=k:=by simp;omega
 rcases hv with⟨rfl,rfl,rfl⟩ | ⟨rfl,hhas,hsz⟩
 ·obtain rfl:k=0:=by simpa using hk
  refine⟨.slice none 0 0,rfl,SlV.nil w,fun b hb=>hb⟩
 ·refine⟨vsl b off k c, ?_, ?_,fun b hb=>hb⟩
  ·unfold jx_ vsl
   simp only[alF_ _ _ _ (⟨by omega,by omega⟩: (0:Int)≤ (k:Int)∧(k:Int)≤ (c:Int)),Int.toNat_natCast,Nat.zero_mul,Nat.sub_zero,Option.map_some,jf_,Nat.add_zero]
   split<;>rfl
  ·refine⟨b,off,c,arr,E,fz,RowS.sl' hl.symm (fun h0=>hr.has (by omega)) ?_,by omega, .inr ⟨by rw[hl],hhas,by rw[hl];have:k*m≤l.length*m:=Nat.mul_le_mul_right _ hk;omega⟩⟩
   ·intro i hi j hj
    rw[hl] at hi
    rw[hr.get i (by omega) j hj]
    congr 2
    rw[List.getD_eq_getElem?_getD,List.getD_eq_getElem?_getD,List.getElem?_take_of_lt hi]
theorem Buf.slM {L:zd_} {E:TypeId} {n:Nat} {cs:List Value} (h:Buf L E m v n cs) (hw: ∀b o,(b,o)∈L→w.heap[b]? =some o) (hl:l.length=n) (hcs:cs=(l.map enc).flatten) (hm: ∀x,(enc x).length=m):SlV m enc z w v l:=by
 rcases h.inv with⟨rfl,rfl,rfl⟩ | ⟨b,c,rest,rfl,hlk,hlen,hnc,h0,hrest⟩
 ·have:l= []:=by simpa using hl
  subst this;exact SlV.nil w
 ·subst hl
  refine SlV.sl (hw _ _ (zJ_ hlk)) ?_ hnc (by rw[List.size_toArray,List.length_append,hlen];omega)
  intro k hk j hj
  rw[Nat.zero_add,List.getElem?_toArray,List.getElem?_append_left (by rw[hlen];have: (k+1)*m≤l.length*m:=Nat.mul_le_mul_right _ hk;rw[Nat.add_mul,Nat.one_mul] at this;omega),hcs]
  clear hlen hrest hlk hcs hnc h
  induction l generalizing k with
  |nil=>simp at hk
  |cons x r ih=>
   rw[List.map_cons,List.flatten_cons]
   cases k with
   |zero=>
    rw[Nat.zero_mul,Nat.zero_add,List.getElem?_append_left (by rw[hm];exact hj),List.getD_cons_zero]
   |succ k=>
    rw[List.getElem?_append_right (by rw[hm,Nat.add_mul,Nat.one_mul];omega),hm,List.getD_cons_succ]
    have:=ih (k:=k) (by simpa using hk)
    rw[←this]
    congr 1
    rw[Nat.add_mul,Nat.one_mul];omega
theorem Buf.slV {L:zd_} {E:TypeId} {n:Nat} {cs:List Value} {w0:World} (h:Buf L E m v n cs) (hw:Hp w0 L w) (hl:l.length=n) (hcs:cs=(l.map enc).flatten) (hm: ∀x,(enc x).length=m):SlV m enc z w v l:=h.slM hw.has hl hcs hm
end
end Go.Sx
namespace Go.Sx
open Go
section
variable {P:Program} {w0:World} {f:Fr} {L:zd_} {N:Fr→zd_→Prop} {ops:Array Oper} {rest:List Oper} {md:Md}
 {d:Option Tmp} {ty:TypeId} {ps:String} {af:Array Edge} {g:Option (Nat×Bool)}
def KG_ (n:Int):Value:= .int .i32 n
theorem aks_ (op:BinOp) (t:TypeId) (a b:Int):qJ_ P op t (KG_ a) (KG_ b)=zm_ op (KG_ a) (KG_ b):=(rfl)
theorem abY_ (a b:Int):zm_ .lss (KG_ a) (KG_ b)=some (.bool (decide (a<b))):=by simp[zm_,KG_,jw_,Zz_]
theorem acZ_ (a b:Int):zm_ .gtr (KG_ a) (KG_ b)=some (.bool (decide (b<a))):=by simp[zm_,KG_,jw_,Zz_]
theorem abC_ (a b:Int):zm_ .eql (KG_ a) (KG_ b)=some (.bool (a==b)):=by simp[zm_,KG_,jw_,Zz_]
theorem any_ (n:Int):Value.int .i32 n=KG_ n:=(rfl)
theorem Ow.callFn1 {x y:Operand} {ts:Array TypeId} {k:FuncId} {v a:Value} (hs:zl_ ops f ⟨d, .call ⟨.value x, #[y],ts⟩,ty,ps,af,g⟩=false) (hx:ev f x= .func (.func k) #[] #[]) (hy:ev f y=a)
  (hk: ∀a w,(callFunc k a).run P w= .ok (.enter k a) w) (hc: ∀w,Hp w0 L w→Rets P k #[a] w (fun v' D=>v'=v∧D= [])) (hn:Ow P w0 ops md.next rest (qz_ f d v) L N):
  Ow P w0 ops md (⟨d, .call ⟨.value x, #[y],ts⟩,ty,ps,af,g⟩::rest) f L N:=
 Ow.callV hs hx hk (fun w hw=>by simpa [hy] using hc w hw) hn
theorem Ow.rangeText {t:TypeId} {x:Operand} {l:List UInt8} {md':Md} (he:md.turn=some md') (hs:zl_ ops f ⟨d, .range t x,ty,ps,af,g⟩=false) (hu:P.underlying t=some .string) (hx:ev f x=vs l)
  (hn: ∀b,xa_ L b→w0.heap.size≤b→Ow P w0 ops md' rest (qz_ f d (vp b 0)) (L++ [(b, .stringIter ⟨l.toArray⟩ 0)]) N):
  Ow P w0 ops md (⟨d, .range t x,ty,ps,af,g⟩::rest) f L N:=by
 refine Ow.step he rfl hs fun w hw=> .inl ⟨vp w.heap.size 0,w.alloc (.stringIter ⟨l.toArray⟩ 0),_, ?_,hw.alloc _,hn _ (qq_ fun b hb=>hw.lt hb) hw.size⟩
 simp only[execOp,Instr.range,Sem.run_bind,run_underlying hu w,Result.andThen_ok,hx,vs]
 rfl
theorem Ow.nextText {x:Operand} {b:Nat} {l:List UInt8} {pos:Nat} {md':Md} (he:md.turn=some md') (hs:zl_ ops f ⟨d, .next x true,ty,ps,af,g⟩=false) (hx:ev f x=vp b 0) (hl:look L b=some (.stringIter ⟨l.toArray⟩ pos)) (hp:pos<l.length)
  (hn:Ow P w0 ops md' rest (qz_ f d (.tuple #[.bool true,vi pos,KG_ (Utf8.decode ⟨l.toArray⟩ pos).1])) (setB L b (.stringIter ⟨l.toArray⟩ (pos+ (Utf8.decode ⟨l.toArray⟩ pos).2))) N):
  Ow P w0 ops md (⟨d, .next x true,ty,ps,af,g⟩::rest) f L N:=by
 refine Ow.step he rfl hs fun w hw=> ?_
 have hb:=hw.has _ _ (zJ_ hl)
 refine .inl ⟨_,{w with heap:=w.heap.setIfInBounds b (.stringIter ⟨l.toArray⟩ (pos+ (Utf8.decode ⟨l.toArray⟩ pos).2))},_, ?_,hw.set (zw_ hl) rfl rfl rfl rfl,hn⟩
 have hg: (getObj b).run P w= .ok (.stringIter ⟨l.toArray⟩ pos) w:=by
  simp only[getObj,Sem.run,hb]
 have hst: ∀o,(setObj b o).run P w= .ok () {w with heap:=w.heap.setIfInBounds b o}:=by
  intro o;simp only[setObj,Sem.run,hb]
 have hsz:pos< (ByteArray.mk l.toArray).size:=by rw[vW_];exact hp
 have: (Instr.next (vp b 0) true ty).run P w= .ok (.tuple #[.bool true,vi pos,KG_ (Utf8.decode ⟨l.toArray⟩ pos).1]) {w with heap:=w.heap.setIfInBounds b (.stringIter ⟨l.toArray⟩ (pos+ (Utf8.decode ⟨l.toArray⟩ pos).2))}:=by
  simp only[Instr.next,vp,Sem.run_bind,hg,Result.andThen_ok,hsz, ↓reduceIte,hst]
  rfl
 simp only[execOp,Sem.run_bind,hx]
 rw[this]
 rfl
theorem Ow.nextOver {x:Operand} {b:Nat} {l:List UInt8} {pos:Nat} {md':Md} (he:md.turn=some md') (hs:zl_ ops f ⟨d, .next x true,ty,ps,af,g⟩=false) (hx:ev f x=vp b 0) (hl:look L b=some (.stringIter ⟨l.toArray⟩ pos)) (hp: ¬pos<l.length)
  (hn:Ow P w0 ops md' rest (qz_ f d (.tuple #[.bool false])) L N):
  Ow P w0 ops md (⟨d, .next x true,ty,ps,af,g⟩::rest) f L N:=by
 refine Ow.step he rfl hs fun w hw=> ?_
 have hb:=hw.has _ _ (zJ_ hl)
 refine .inl ⟨.tuple #[.bool false],w,_, ?_,hw,hn⟩
 have hg: (getObj b).run P w= .ok (.stringIter ⟨l.toArray⟩ pos) w:=by
  simp only[getObj,Sem.run,hb]
 have hsz: ¬pos< (ByteArray.mk l.toArray).size:=by rw[vW_];exact hp
 have: (Instr.next (vp b 0) true ty).run P w= .ok (.tuple #[.bool false]) w:=by
  simp only[Instr.next,vp,Sem.run_bind,hg,Result.andThen_ok,hsz, ↓reduceIte]
  rfl
 simp only[execOp,Sem.run_bind,hx]
 rw[this]
 rfl
end
theorem aco_ (l:List UInt8) (i:Nat) (h:i<l.length):0< (Utf8.decode ⟨l.toArray⟩ i).2∧
  ((l.getD i 0).toNat<128→Utf8.decode ⟨l.toArray⟩ i=((l.getD i 0).toNat,1))∧(128≤ (l.getD i 0).toNat→128≤ (Utf8.decode ⟨l.toArray⟩ i).1):=by
 have hb: ((ByteArray.mk l.toArray).get! (i+0))=l.getD i 0:=by
  simp[ByteArray.get!,h]
 unfold Utf8.decode
 simp only[hb]
 generalize (l.getD i 0).toNat=b0
 refine⟨?_,fun h1=> ?_,fun h1=> ?_⟩
 ·(repeat' split)<;>simp
 ·rw[if_pos h1]
 ·rw[if_neg (by omega)]
  (repeat' split)<;>first
   | (simp only[Utf8.runeError];omega)
   | (rename_i hc;simp only[Bool.and_eq_true,decide_eq_true_eq,ge_iff_le] at hc;omega)
   | (rename_i hc;simp only[ge_iff_le] at hc;omega)
end Go.Sx
namespace Go.Sx
open Go
abbrev Vals:=List (List UInt8×List UInt8)
def fnd (k:List UInt8):Vals→Nat→Option (Nat×List UInt8)
 | [],_=>none
 |p::r,i=>if k==p.1 then some (i,p.2) else fnd k r (i+1)
def updV (k v:List UInt8):Vals→Vals
 | []=> [(k,v)]
 |p::r=>if k==p.1 then(p.1,v)::r else p::updV k v r
def delV (k:List UInt8):Vals→Vals
 | []=> []
 |p::r=>if k==p.1 then r else p::delV k r
def JW_ (p:List UInt8×List UInt8):Value×Value:=(vs p.1, .agg (a8 p.2))
def MapR (o:Obj) (m:Vals):Prop:= ∃es clock,o= .map es clock∧es.toList.map (fun e=>(e.key,e.val))=m.map JW_∧(es.toList.map (·.born)++ [clock]).Pairwise (· < ·)
theorem aaj_ {es:List MapEntry} {c:Nat} {e:MapEntry} (h: (es.map (·.born)++ [c]).Pairwise (· < ·)) (he:e.born=c): ((es++ [e]).map (·.born)++ [c+1]).Pairwise (· < ·):=by
 rw[List.map_append,List.map_cons,List.map_nil,he]
 refine List.pairwise_append.2 ⟨h,List.pairwise_singleton _ _, ?_⟩
 intro a ha b hb
 rw[List.mem_singleton] at hb
 subst hb
 rcases List.mem_append.1 ha with hm|hm
 ·have:=(List.pairwise_append.1 h).2.2 a hm c (List.mem_singleton.2 rfl)
  omega
 ·rw[List.mem_singleton] at hm
  omega
theorem JN_ {es:List MapEntry} {j:Nat} {g:MapEntry→MapEntry} (hg: ∀e,(g e).born=e.born): (es.modify j g).map (·.born)=es.map (·.born):=by
 apply List.ext_getElem?
 intro i
 rw[List.getElem?_map,List.getElem?_map,List.getElem?_modify]
 cases es[i]? with
 |none=>rfl
 |some e=>
  by_cases h:j=i
  ·simp[h,hg]
  ·simp[h]
theorem adF_ (a b:List UInt8): ((ByteArray.mk a.toArray)==(ByteArray.mk b.toArray))=(a==b):=by
 show(a.toArray==b.toArray)=(a==b)
 simp
theorem Kr_ (k:List UInt8): ∀ (es:List MapEntry) (m:Vals) (i:Nat),es.map (fun e=>(e.key,e.val))=m.map JW_→
  Instr.findNow .string (vs k) es i=some ((fnd k m i).map fun p=>(p.1, .agg (a8 p.2)))
 | [],[],i,_=>rfl
 | [],_::_,_,h=>by cases h
 |_::_,[],_,h=>by cases h
 |e::es,p::m,i,h=>by
  simp only[List.map_cons,List.cons.injEq,JW_,Prod.mk.injEq] at h
  obtain⟨⟨h1,h2⟩,h3⟩:=h
  unfold Instr.findNow
  have hs:Instr.sameNow .string (vs k) e.key=some (k==p.1):=by
   rw[h1]
   simp only[vs,Instr.sameNow,adF_]
  rw[hs]
  unfold fnd
  cases hk: (k==p.1)
  ·simp only[Bool.false_eq_true, ↓reduceIte]
   exact Kr_ k es m (i+1) h3
  ·simp[h2]
theorem VV_ (k:List UInt8): ∀ (m:Vals) (i j:Nat) (v:List UInt8),fnd k m i=some (j,v)→i≤j∧ ∃a,m[j - i]? =some (k,a)∧a=v
 | [],_,_,_,h=>by cases h
 |p::r,i,j,v,h=>by
  unfold fnd at h
  split at h
  ·rename_i hk
   cases h
   refine⟨Nat.le_refl _,p.2, ?_,rfl⟩
   rw[Nat.sub_self,List.getElem?_cons_zero,eq_of_beq hk]
  ·obtain⟨h1,a,h2,h3⟩:=VV_ k r (i+1) j v h
   refine⟨by omega,a, ?_,h3⟩
   rw[show j - i=(j - (i+1))+1 by omega,List.getElem?_cons_succ];exact h2
theorem Wr_ (k v:List UInt8): ∀ (es:List MapEntry) (m:Vals) (i j:Nat) (a:List UInt8),es.map (fun e=>(e.key,e.val))=m.map JW_→fnd k m i=some (j,a)→
  (es.modify (j - i) fun e=>{e with key:=vs k,val:= .agg (a8 v)}).map (fun e=>(e.key,e.val))=(updV k v m).map JW_
 | [],[],_,_,_,_,h=>by cases h
 | [],_::_,_,_,_,h,_=>by cases h
 |_::_,[],_,_,_,h,_=>by cases h
 |e::es,p::m,i,j,a,h,hf=>by
  simp only[List.map_cons,List.cons.injEq,JW_,Prod.mk.injEq] at h
  obtain⟨⟨h1,h2⟩,h3⟩:=h
  unfold fnd at hf
  unfold updV
  split at hf
  ·rename_i hk
   cases hf
   rw[if_pos hk,Nat.sub_self]
   simp only[List.modify_zero_cons,List.map_cons,JW_,eq_of_beq hk]
   rw[h3]
  ·rename_i hk
   have hle:=(VV_ k m (i+1) j a hf).1
   rw[if_neg hk,show j - i=(j - (i+1))+1 by omega]
   simp only[List.modify_succ_cons,List.map_cons,JW_]
   rw[Wr_ k v es m (i+1) j a h3 hf,h1,h2]
theorem WK_ (k v:List UInt8): ∀ (m:Vals) (i:Nat),fnd k m i=none→updV k v m=m++ [(k,v)]
 | [],_,_=>rfl
 |p::r,i,h=>by
  unfold fnd at h
  split at h
  ·cases h
  ·rename_i hk
   unfold updV
   rw[if_neg hk,WK_ k v r (i+1) h];rfl
section
variable {P:Program} {w0:World} {f:Fr} {L:zd_} {N:Fr→zd_→Prop} {ops:Array Oper} {rest:List Oper} {md:Md}
 {d:Option Tmp} {ty:TypeId} {ps:String} {af:Array Edge} {g:Option (Nat×Bool)}
theorem acN_ {w:World} {t:TypeId} (hu:P.underlying t=some .string) (k:List UInt8) (es:List MapEntry) (m:Vals) (h:es.map (fun e=>(e.key,e.val))=m.map JW_):
  (Instr.findKey t (vs k) es).run P w= .ok ((fnd k m 0).map fun p=>(p.1, .agg (a8 p.2))) w:=by
 simp only[Instr.findKey,Sem.run_bind,run_underlying hu w,Result.andThen_ok,Kr_ k es m 0 h]
 rfl
theorem Qx_ {w:World} {t:TypeId} (hu:P.underlying t=some .string) (e:Bool) (k:List UInt8): (Instr.checkKey e 10000 t (vs k)).run P w= .ok () w:=by
 unfold Instr.checkKey
 simp only[Sem.run_bind,run_underlying hu w,Result.andThen_ok,vs]
 rfl
theorem x1_ {w:World} {b:Nat} {es:Array MapEntry} {c:Nat} (hb:w.heap[b]? =some (.map es c)): (getObj b).run P w= .ok (.map es c) w:=by
 simp only[getObj,Sem.run,hb]
theorem wn_ {w:World} {b:Nat} {es:Array MapEntry} {c:Nat} (hb:w.heap[b]? =some (.map es c)) (o:Obj): (setObj b o).run P w= .ok () {w with heap:=w.heap.setIfInBounds b o}:=by
 simp only[setObj,Sem.run,hb]
def vm (b:Nat):Value:= .map (some b)
theorem Ow.makeMap {t:TypeId} {md':Md} (he:md.turn=some md') (hs:zl_ ops f ⟨d, .makeMap t none,ty,ps,af,g⟩=false)
  (hn: ∀b o,xa_ L b→w0.heap.size≤b→MapR o []→Ow P w0 ops md' rest (qz_ f d (vm b)) (L++ [(b,o)]) N):
  Ow P w0 ops md (⟨d, .makeMap t none,ty,ps,af,g⟩::rest) f L N:=by
 refine Ow.step he rfl hs fun w hw=> .inl ⟨vm w.heap.size,w.alloc (.map #[] 0),_, ?_,hw.alloc _,hn _ _ (qq_ fun b hb=>hw.lt hb) hw.size ⟨#[],0,rfl,rfl,List.pairwise_singleton _ _⟩⟩
 simp only[execOp,Instr.makeMap,Sem.run_bind,Option.map_none]
 rfl
theorem amS_ {k:List UInt8} {m:Vals} {es:List MapEntry} {j:Nat} {a:List UInt8} (h:es.map (fun e=>(e.key,e.val))=m.map JW_) (hf:fnd k m 0=some (j,a)): ∃e,es[j]? =some e∧e.key=vs k:=by
 obtain⟨-,a',h1,rfl⟩:=VV_ k m 0 j a hf
 rw[Nat.sub_zero] at h1
 have:=congrArg (·[j]?) h
 simp only[List.getElem?_map,h1,Option.map_some] at this
 cases he:es[j]? with
 |none=>rw[he] at this;cases this
 |some e=>
  rw[he] at this
  simp only[Option.map_some,Option.some.injEq,JW_,Prod.mk.injEq] at this
  exact⟨e,rfl,this.1⟩
theorem Ow.mapUpdate {t kt vt:TypeId} {x y z:Operand} {b:Nat} {o:Obj} {m:Vals} {k v:List UInt8} {md':Md} (he:md.turn=some md') (hs:zl_ ops f ⟨d, .mapUpdate t x y z,ty,ps,af,g⟩=false) (hu:P.underlying t=some (.map kt vt)) (huk:P.underlying kt=some .string)
  (hx:ev f x=vm b) (hy:ev f y=vs k) (hz:ev f z= .agg (a8 v)) (hl:look L b=some o) (hm:MapR o m)
  (hn: ∀o',MapR o' (updV k v m)→Ow P w0 ops md' rest (qz_ f d undef) (setB L b o') N):
  Ow P w0 ops md (⟨d, .mapUpdate t x y z,ty,ps,af,g⟩::rest) f L N:=by
 obtain⟨es,c,rfl,hes,hbo⟩:=hm
 refine Ow.step he rfl hs fun w hw=> ?_
 have hb:=hw.has _ _ (zJ_ hl)
 have hfk:=acN_ (w:=w) huk k es.toList m hes
 cases hf:fnd k m 0 with
 |none=>
  rw[hf] at hfk
  refine .inr (.inl ⟨{w with heap:=w.heap.setIfInBounds b (.map (es.push {key:=vs k,val:= .agg (a8 v),born:=c}) (c+1))},_, ?_,hw.set (zw_ hl) rfl rfl rfl rfl,hn _ ⟨_,_,rfl, ?_,by rw[Array.toList_push];exact aaj_ hbo rfl⟩⟩)
  ·have: (Instr.mapUpdate t (vm b) (vs k) (.agg (a8 v))).run P w= .ok () {w with heap:=w.heap.setIfInBounds b (.map (es.push {key:=vs k,val:= .agg (a8 v),born:=c}) (c+1))}:=by
    simp only[Instr.mapUpdate,vm,Sem.run_bind,run_underlying hu w,Result.andThen_ok,x1_ hb,Qx_ huk,hfk,Option.map_none,wn_ hb]
   simp only[execOp,Sem.run_bind,hx,hy,hz]
   rw[this];rfl
  ·rw[WK_ k v m 0 hf,Array.toList_push,List.map_append,hes,List.map_append];rfl
 |some p=>
  obtain⟨j,a⟩:=p
  rw[hf] at hfk
  obtain⟨e,hej,hek⟩:=amS_ hes hf
  have hej':es[j]? =some e:=by simpa using hej
  have hkt: (Instr.keyThatStays (((es[j]?).map (·.key)).getD (vs k)) (vs k)).run P w= .ok (vs k) w:=by
   rw[hej',Option.map_some,Option.getD_some,hek]
   unfold Instr.keyThatStays
   have:Instr.sameBits 10000 (vs k) (vs k)=true:=by simp[vs,Instr.sameBits,adF_]
   rw[if_pos this];rfl
  refine .inr (.inl ⟨{w with heap:=w.heap.setIfInBounds b (.map (es.modify j fun e=>{e with key:=vs k,val:= .agg (a8 v)}) c)},_, ?_,hw.set (zw_ hl) rfl rfl rfl rfl,hn _ ⟨_,_,rfl, ?_,by rw[Array.toList_modify,JN_ (g:=fun e=>{e with key:=vs k,val:= .agg (a8 v)}) fun _=>rfl];exact hbo⟩⟩)
  ·have: (Instr.mapUpdate t (vm b) (vs k) (.agg (a8 v))).run P w= .ok () {w with heap:=w.heap.setIfInBounds b (.map (es.modify j fun e=>{e with key:=vs k,val:= .agg (a8 v)}) c)}:=by
    simp only[Instr.mapUpdate,vm,Sem.run_bind,run_underlying hu w,Result.andThen_ok,x1_ hb,Qx_ huk,hfk,Option.map_some,hkt,wn_ hb]
   simp only[execOp,Sem.run_bind,hx,hy,hz]
   rw[this];rfl
  ·rw[Array.toList_modify]
   have:=Wr_ k v es.toList m 0 j a hes hf
   rw[Nat.sub_zero] at this
   exact this
end
end Go.Sx
namespace Go.Sx
open Go
section
variable {P:Program} {w0:World} {f:Fr} {L:zd_} {N:Fr→zd_→Prop} {ops:Array Oper} {rest:List Oper} {md:Md}
 {d:Option Tmp} {ty:TypeId} {ps:String} {af:Array Edge} {g:Option (Nat×Bool)}
def getV (k:List UInt8) (z:List UInt8) (m:Vals):List UInt8:=match m.find? fun p=>k==p.1 with|some p=>p.2|none=>z
end
end Go.Sx
namespace Go.Sx
open Go
theorem New.mono {n m:Nat} (h:n≤m): ∀ {L:zd_},New m L→New n L
 | [],_=>trivial
 | (_,_)::_,hL=>⟨Nat.le_trans h hL.1,New.mono h hL.2⟩
theorem New.app {n:Nat} {M:zd_}: ∀ {L:zd_},New n L→New n M→New n (L++M)
 | [],_,hM=>hM
 | (_,_)::_,hL,hM=>⟨hL.1,New.app hL.2 hM⟩
section
variable {P:Program} {w0:World} {f:Fr} {L:zd_} {N:Fr→zd_→Prop} {ops:Array Oper} {rest:List Oper} {md:Md}
 {d:Option Tmp} {ty:TypeId} {ps:String} {af:Array Edge} {g:Option (Nat×Bool)}
theorem Ow.callE {l:List Operand} {ts:Array TypeId} {k:FuncId} {b:Nat} {S:Value→Obj→Prop} {md':Md} (he:md.turn=some md')
  (hs:zl_ ops f ⟨d, .call ⟨.value (.func k),l.toArray,ts⟩,ty,ps,af,g⟩=false)
  (hk: ∀a w,(callFunc k a).run P w= .ok (.enter k a) w) (hb:b∈keys L)
  (hc: ∀w,Hp w0 L w→Rets P k (l.map (ev f)).toArray w (fun v D=> ∃o,D= [(b,o)]∧S v o))
  (hn: ∀v o,S v o→Ow P w0 ops md' rest (qz_ f d v) (setB L b o) N):
  Ow P w0 ops md (⟨d, .call ⟨.value (.func k),l.toArray,ts⟩,ty,ps,af,g⟩::rest) f L N:=by
 refine Ow.callF he hs hk (S:=fun _ v D=> ∃o,D= [(b,o)]∧S v o) hc ?_
 rintro B v D - - ⟨o,rfl,hS⟩
 exact⟨_,Mrg.set hb,hn v o hS⟩
theorem Ow.callN {l:List Operand} {ts:Array TypeId} {k:FuncId} {S:Nat→Value→zd_→Prop} {md':Md} (he:md.turn=some md')
  (hs:zl_ ops f ⟨d, .call ⟨.value (.func k),l.toArray,ts⟩,ty,ps,af,g⟩=false)
  (hk: ∀a w,(callFunc k a).run P w= .ok (.enter k a) w)
  (hc: ∀w,Hp w0 L w→Rets P k (l.map (ev f)).toArray w (fun v D=>S w.heap.size v D))
  (hnew: ∀B v D,S B v D→New B D)
  (hn: ∀B v D,xa_ L B→w0.heap.size≤B→S B v D→Ow P w0 ops md' rest (qz_ f d v) (L++D) N):
  Ow P w0 ops md (⟨d, .call ⟨.value (.func k),l.toArray,ts⟩,ty,ps,af,g⟩::rest) f L N:=by
 refine Ow.callF he hs hk (S:=S) hc ?_
 intro B v D ha hB hS
 exact⟨_,Mrg.fresh (hnew B v D hS).le,hn B v D ha hB hS⟩
theorem Cw.forgetN {c:Code} {K:xF_} (M:zd_) (hnew:New w0.heap.size L) (hM: ∀p,p∈M→p∈L) (hn: (keys M).Nodup) (h:Cw P w0 c f M K):Cw P w0 c f L K:=
 Cw.forget M hM hn (fun p hp _=>hnew.le _ (List.mem_map.2 ⟨p,hp,rfl⟩)) h
end
end Go.Sx
section
namespace Go.Sx
open Go
set_option linter.unusedSimpArgs false
section
variable {P:Program} {w0:World} {L:zd_}
theorem vR_ {w:World} {ts tx ty e:TypeId} {m:Bool×Nat} {z x:Value} {b k:Nat} {new:List Value} (hw:Hp w0 L w)
  (hu:P.underlying ts=some (.slice e)) (hm:z0_ P e=some m) (hi:kN_ P e=true) (hz:zK_ P e=some z) (hzs:z.cells.size=m.2) {d:TypeDesc} (hux:P.underlying tx=some d) (hnx: ∀k,d≠ .int k)
  (hXa: ∀w,Hp w0 L w→AppX P w m.2 x k new) (hbig:2* (0+k)+768≤2^38):
  (k=0∧(Builtin.append_ #[ts,tx] ty #[vsl b 0 0 0,x]).run P w= .ok (vsl b 0 0 0) w)∨
  (0<k∧ ∃v' w' L',(Builtin.append_ #[ts,tx] ty #[vsl b 0 0 0,x]).run P w= .ok v' w'∧Hp w0 L' w'∧Buf L' e m.2 v' (0+k) ([]++new)∧Grew w0 (.slice none 0 0) L L'∧ ∃c,slB v'=some c∧xa_ L c):=by
 obtain⟨i,hi,hb0,hbig⟩:=vQ_ hi hbig
 have hti: ∀w,(typeInfo e).run P w= .ok i w:=by
  intro w
  simp only[typeInfo,program,Sem.run_bind]
  show Result.andThen (Result.ok P w) _=_
  simp only[Result.andThen_ok,hi]
  rfl
 have hmd: (match d with| .int _=>true|_=>false)=false:=by
  cases d<;>first|rfl|exact absurd rfl (hnx _)
 have e1: ∀ {α β:Type} (a:α) (f:α→World→Result β),(Sem.run P (pure a) w).andThen f=f a w:=fun _ _=>rfl
 have hX:=hXa w hw
 have hxl:=hX.len
 have hxc:=hX.cells
 have hzv:=xC_ (P:=P) hz
 have room: ∀ (b:Nat) (w:World),(askRoom b).run P w= .ok () w:=by
  intro b w
  unfold askRoom
  split<;>rfl
 have zc: ∀j,(Builtin.zeroCells z.cells j).toList.length=j*m.2:=by
  intro j;simp[Builtin.zeroCells,hzs]
 have hbg: ∀c,c<0+k→ ¬ (Builtin.nextslicecap (0+k) c*i.bytes>2^48):=by
  intro c hc
  have:=vY_ hc
  have h2:=Nat.mul_le_mul_right i.bytes this
  omega
 by_cases hk:k=0
 ·subst hk
  have hnew:new= []:=List.eq_nil_of_length_eq_zero (by have:=hX.size;omega)
  subst hnew
  refine .inl ⟨rfl, ?_⟩
  simp only[Builtin.append_,vsl,List.getElem?_toArray,List.getElem?_cons_zero,List.getElem?_cons_succ,Sem.run_bind,run_underlying hu w,Result.andThen_ok,zD_ hm w,run_underlying hux w,hmd,e1,Bool.false_eq_true, ↓reduceIte,hxl,Bool.not_false,Nat.add_zero,Nat.le_refl,hxc]
  rfl
 ·have hpos: ¬0+k≤0:=by omega
  have hbg':=hbg 0 (by omega)
  simp only[Builtin.append_,List.getElem?_toArray,List.getElem?_cons_zero,List.getElem?_cons_succ,Sem.run_bind,run_underlying hu w,Result.andThen_ok,zD_ hm w,run_underlying hux w,hmd,e1,Bool.false_eq_true, ↓reduceIte,hxl,Bool.not_false,hpos,vsl,hti,hb0,or_false,and_false,hbg']
  have hch: (choose (Question.appendCap (0+k) 0 e)).run P w= .ok ((0+k)+w.tape w.drawn (.appendCap (0+k) 0 e)% (2^63 - (0+k))) w.drew:=rfl
  rw[hch]
  generalize hcc: (0+k)+w.tape w.drawn (.appendCap (0+k) 0 e)% (2^63 - (0+k))=c
  have hw1:=hw.drew
  have hX1:=hXa _ hw1
  have hold: (Builtin.firstCells m.2 0 (Value.slice (some ⟨b,0,none⟩) 0 0)).run P w.drew= .ok #[] w.drew:=by
   simp only[Builtin.firstCells,Nat.zero_mul];rfl
  simp only[Result.andThen_ok,room,hold,hX1.cells,hzv]
  refine .inr ⟨by omega,_,_,L++ [(w.drew.heap.size, .cells ([]++new++ (Builtin.zeroCells z.cells (c - (0+k))).toList).toArray e (0,0))],rfl, ?_, .at_ (b:=w.drew.heap.size) (rest:=(Builtin.zeroCells z.cells (c - (0+k))).toList) ?_ ?_ ?_ (by omega) (by omega), ?_,⟨_,rfl,qq_ fun b hb=>hw1.lt hb⟩⟩
  ·have ea: ([]++new++ (Builtin.zeroCells z.cells (c - (0+k))).toList).toArray= #[]++new.toArray++Builtin.zeroCells z.cells (c - (0+k)):=by apply Array.ext';simp
   rw[ea]
   exact hw1.alloc _
  ·rw[qU_ (fun hm=>Nat.lt_irrefl _ (hw1.lt hm))]
   simp[look]
  ·rw[List.nil_append,hX.size,Nat.zero_add]
  ·exact zc _
  ·refine⟨fun c hc=>by rw[zj_];exact List.mem_append_left _ hc,fun c hc=> ?_,fun c o hne ho=>je_ ho⟩
   rw[zj_] at hc
   rcases List.mem_append.1 hc with hc|hc
   ·exact .inl hc
   ·right
    simp only[keys,List.map_cons,List.map_nil,List.mem_singleton] at hc
    subst hc
    exact⟨qq_ fun b hb=>hw1.lt hb,hw1.size⟩
end
section
variable {P:Program} {w0:World} {f:Fr} {L:zd_} {N:Fr→zd_→Prop} {ops:Array Oper} {rest:List Oper} {md:Md}
 {d:Option Tmp} {ty:TypeId} {ps:String} {af:Array Edge} {g:Option (Nat×Bool)}
theorem Ow.appendEm {ts tx e:TypeId} {m:Bool×Nat} {z:Value} {s x:Operand} {b k:Nat} {new:List Value} {dx:TypeDesc} {md':Md} (hsv:ev f s=vsl b 0 0 0) (he:md.turn=some md')
  (hs:zl_ ops f ⟨d, .call ⟨.builtin .append, #[s,x], #[ts,tx]⟩,ty,ps,af,g⟩=false)
  (hu:P.underlying ts=some (.slice e)) (hm:z0_ P e=some m) (hi:kN_ P e=true) (hz:zK_ P e=some z) (hzs:z.cells.size=m.2) (hux:P.underlying tx=some dx) (hnx: ∀k,dx≠ .int k)
  (hX: ∀w,Hp w0 L w→AppX P w m.2 (ev f x) k new) (hbig:2* (0+k)+768≤2^38)
  (hn0:k=0→Ow P w0 ops md' rest (qz_ f d (vsl b 0 0 0)) L N)
  (hn: ∀v' L',0<k→Buf L' e m.2 v' (0+k) ([]++new)→Grew w0 (.slice none 0 0) L L'→(∃c,slB v'=some c∧xa_ L c)→Ow P w0 ops md' rest (qz_ f d v') L' N):
  Ow P w0 ops md (⟨d, .call ⟨.builtin .append, #[s,x], #[ts,tx]⟩,ty,ps,af,g⟩::rest) f L N:=by
 refine Ow.step he rfl hs fun w hw=> ?_
 rcases vR_ (ty:=ty) (b:=b) hw hu hm hi hz hzs hux hnx hX hbig with⟨hk,hr⟩ | ⟨hk,v',w',L',hr,hp,hb,hg,hsl⟩
 ·refine .inl ⟨_,w,L, ?_,hw,hn0 hk⟩
  simp only[execOp,resolve,Sem.run_bind,Sem.run_pure,Result.andThen_ok,invoke,builtin,List.map_toArray,List.map_cons,List.map_nil,hsv]
  rw[hr]
  rfl
 ·refine .inl ⟨v',w',L', ?_,hp,hn v' L' hk hb hg hsl⟩
  simp only[execOp,resolve,Sem.run_bind,Sem.run_pure,Result.andThen_ok,invoke,builtin,List.map_toArray,List.map_cons,List.map_nil,hsv]
  rw[hr]
  rfl
end
end Go.Sx
end
namespace Go.Sx
open Go
section
variable {P:Program} {w0:World} {f:Fr} {L:zd_} {N:Fr→zd_→Prop} {K:xF_} {l:List Oper} {listed:List Bool} {n:Nat} {R ts:List Nat} {a d:Nat} {z:Obj}
theorem Md.next_sofnil (R ts:List Nat): (Md.sof R [] ts).next= .sof R [] ts:=(rfl)
theorem aae_ {Q:Exit→Act→World→Prop} {o:Oper} {x:Act} {d:Option Tmp} {v:Value} {K:Act→World→Prop} (hd: ∀t,d=some t→o.dst≠some t)
  (hQ: ∀c a w,Q (.panic c) a w→Q (.panic c) (a.put d v) w) (r:Result Next) (h:o.upon P x (fun a' w'=>K (a'.put d v) w') Q r):
  o.upon P (x.put d v) K Q r:=by
 have comm: ∀u,(x.put o.dst u).put d v=(x.put d v).put o.dst u:=fun u=>(Act.put_comm x v u hd).symm
 match r,h with
 | .ok (.value u) _,h=>show K _ _;rw[←comm];exact h
 | .ok .skip _,h=>show K _ _;rw[←comm];exact h
 | .ok (.defer e) w',h=>
  have h':K ((({x with defers:=e::x.defers}:Act).put o.dst undef).put d v) w':=h
  rw[←Act.put_comm _ v undef hd,←Act.put_defers] at h'
  exact h'
 | .ok (.enter f args) _,h=>
  refine Calls.mono h fun e w'' he=> ?_
  match e,he with
  | .returned u,he=>show K _ _;rw[←comm];exact he
  | .panicked c,he=>exact hQ _ _ _ he
  | .outgrown,he=>exact he
 | .ok (.row row args) _,h=>exact Rows.mono h fun u w'' he=>by rw[←comm];exact he
 | .halt (.panic u) _,h=>exact hQ _ _ _ h
theorem WW_ {ops:Array Oper} {Q:Exit→Act→World→Prop} {j:Nat} {oj:Oper} {d:Option Tmp} {v:Value} (hj:ops[j]? =some oj) (h1: ∀t,d=some t→t∉oj.looksAt ops) (h2: ∀t,d=some t→oj.dst≠some t) (hsj: ∀cs b,oj.op≠ .select cs b)
  (hQ: ∀c a w,Q (.panic c) a w→Q (.panic c) (a.put d v) w) {K:Act→World→Prop} {x:Act} {w:World}
  (h:wpOp P ops Q j (fun a' w'=>K (a'.put d v) w') x w):wpOp P ops Q j K (x.put d v) w:=by
 unfold wpOp at h ⊢
 simp only[hj] at h ⊢
 rw[wanted_put oj x d v h1]
 cases hw:Region.wanted oj (yielded ops x.tmps) with
 |true=>
  rw[hw] at h
  simp only[if_true] at h ⊢
  rcases h with h| ⟨hasks,hl⟩
  ·left
   unfold Oper.wp at h ⊢
   rw[execOp_put oj hsj x d v h1]
   exact aae_ h2 hQ _ h
  ·right
   exact⟨by unfold Oper.asks at*;rwa [execOp_put oj hsj x d v h1],hl⟩
 |false=>
  rw[hw] at h
  simp only[Bool.false_eq_true,if_false] at h ⊢
  rw[Act.put_comm x v undef h2]
  exact h
structure Drift (P:Program) (l:List Oper) (ts:List Nat) (a d:Nat) (z:Obj):Prop where
 here: ∃oa t zv,l.toArray[a]? =some oa∧oa.op= .alloc t∧oa.dst=some d∧oa.guard=none∧zK_ P t=some zv∧z= .cells zv.cells t
 ts:a∉ts
 sel:Region.noSelect l.toArray=true
def aqD_ (l:List Oper) (ts:List Nat) (a d:Nat):Bool:=
 (match kT_ l a with
 |some oa=>(match oa.op with| .alloc _=>true|_=>false)&&oa.dst==some d&&oa.guard==none
 |none=>false)&& !ts.contains a&&Region.noSelect l.toArray
def OwD (P:Program) (w0:World) (l:List Oper) (R ts:List Nat) (a d:Nat) (z:Obj) (n:Nat) (listed:List Bool) (f:Fr) (L:zd_) (N:Fr→zd_→Prop):Prop:=
 (∀w,Hp w0 L w→xI_ P l.toArray (jC_ w0 N) ts (SR w0 R L) (n+1) listed.toArray (act f) w)∧
 (∀b w,w0.heap.size≤b→b∉keys L→Hp w0 (L++ [(b,z)]) w→xI_ P l.toArray (jC_ w0 N) ts (SR w0 R L) n (listed.set a true).toArray (act (Vn_ f d (vp b 0))) w)
theorem SR.ofE {w:World} {b:Nat} (hb:w0.heap.size≤b) (h:Hp w0 (L++ [(b,z)]) w):SR w0 R L w:=by
 intro r _ o ho
 unfold zy_ at ho
 split at ho
 ·rename_i o' hl
  cases ho
  exact h.has _ _ (List.mem_append_left _ (zJ_ hl))
 ·rename_i hl
  have hlt:=(Array.getElem?_eq_some_iff.1 ho).1
  rw[h.old r hlt ?_];exact ho
  intro hm
  simp only[keys,List.map_append,List.map_cons,List.map_nil,List.mem_append,List.mem_singleton] at hm
  rcases hm with hm|hm
  ·exact ZP_ hl hm
  ·omega
theorem agA_ {c:List PanicEntry} {x x':Act} {w:World} (h:jC_ w0 N (.panic c) x w):jC_ w0 N (.panic c) x' w:=zV_ h
theorem Hp.perm {w:World} {M:zd_} (h:Hp w0 L w) (hp:M.Perm L):Hp w0 M w:=
 h.same (fun _=>hp.mem_iff) ((List.Perm.nodup_iff (hp.map Prod.fst)).2 h.nodup)
def chkD (P:Program) (l:List Oper) (ts:List Nat) (a:Nat):List Nat→List Bool→Option (List Bool)
 | [],listed=>some listed
 |k::is,listed=>
  match kT_ l k,kT_ l a with
  |some o,some oa=>if k !=a&& !ts.contains k&& (ts.all fun t=> !listed.toArray.getD t true&& !(listed.set a true).toArray.getD t true)&& (Region.ready .any l.toArray listed.toArray).contains k&&Region.free .any l.toArray listed.toArray k&&
    (Region.ready .any l.toArray (listed.set a true).toArray).contains k&&Region.free .any l.toArray (listed.set a true).toArray k&&o.apart l.toArray oa&&
    (xb_ P o.op|| (XF_ o.op&&Ja_ l.toArray ts listed.toArray k&&Ja_ l.toArray ts (listed.set a true).toArray k)) then chkD P l ts a is (listed.set k true) else none
  |_,_=>none
theorem OwD.step {k:Nat} {o:Oper} {v:Value} (hD:Drift P l ts a d z) (hk:kT_ l k=some o) {rest:List Bool} (hc:chkD P l ts a [k] listed=some rest)
  (hY:YieldsC P l.toArray (SR w0 R L) (xb_ P o.op=true) o v (act f)) (h:OwD P w0 l R ts a d z n rest (qz_ f o.dst v) L N):OwD P w0 l R ts a d z (n+1) listed f L N:=by
 obtain⟨⟨oa,t,zv,ha,hop,hdst,hg,hz,rfl⟩,hats,hns⟩:=hD
 have hoi:l.toArray[k]? =some o:=by rw[xf_] at hk;simpa using hk
 have ha':kT_ l a=some oa:=by rw[xf_];simpa using ha
 unfold chkD at hc
 rw[hk,ha'] at hc
 simp only at hc
 split at hc
 ·rename_i hcc
  simp only[chkD,Option.some.injEq] at hc
  subst hc
  simp only[Bool.and_eq_true,Bool.or_eq_true,Bool.not_eq_true',List.all_eq_true,List.contains_eq_mem,decide_eq_true_eq,decide_eq_false_iff_not,bne_iff_ne,ne_eq] at hcc
  obtain⟨⟨⟨⟨⟨⟨⟨⟨c1,c2⟩,c3⟩,c4⟩,c5⟩,c6⟩,c7⟩,c8⟩,c9⟩:=hcc
  obtain⟨q1,q2,q3⟩:=Oper.apart_spec c8
  have hsel:=Region.noSelect_spec hns
  have hset: (listed.set k true).set a true=(listed.set a true).set k true:=List.set_comm _ _ c1
  refine⟨fun w hw=> ?_,fun b w hb hbL hw=> ?_⟩
  ·refine vn_ hoi c2 hsel (fun c a w h=>zV_ h) _ _ _ _ (xQ_ (P:=P) hoi c4 c5 (c9.imp id fun h=>⟨h.1.1,h.1.2,fun t ht=>(c3 t ht).1⟩)) (.inr fun t ht=>(c3 t ht).1) hY ?_
   rw[z5_,ql_]
   exact h.1 w hw
  ·have hY2:YieldsC P l.toArray (SR w0 R L) (xb_ P o.op=true) o v (act (Vn_ f d (vp b 0))):=by
    refine hY.left (hsel k o · · hoi) (oj:=oa) q3 ⟨vp b 0,[], ?_⟩
    rw[hdst]
    exact(z5_ f (some d) (vp b 0)).symm
   refine vn_ hoi c2 hsel (fun c a w h=>zV_ h) _ _ _ _ (xQ_ (P:=P) hoi c6 c7 (c9.imp id fun h=>⟨h.1.1,h.2,fun t ht=>(c3 t ht).2⟩)) (.inr fun t ht=>(c3 t ht).2) hY2 ?_
   have e: (act (Vn_ f d (vp b 0))).put o.dst v=act (Vn_ (qz_ f o.dst v) d (vp b 0)):=by
    have e1:act (Vn_ f d (vp b 0))=(act f).put (some d) (vp b 0):=(z5_ f (some d) (vp b 0)).symm
    rw[e1,Act.put_comm (act f) (x:=some d) (y:=o.dst) (vp b 0) v (fun t ht hod=>by cases ht;exact q2 _ hod hdst),z5_,z5_];rfl
   rw[e,ql_,←hset]
   exact h.2 b w hb hbL hw
 ·cases hc
theorem ahk_ {k:Nat} {is:List Nat} {listed listed':List Bool} (h:chkD P l ts a (k::is) listed=some listed'):chkD P l ts a [k] listed=some (listed.set k true)∧chkD P l ts a is (listed.set k true)=some listed':=by
 rw[chkD] at h
 cases ho:kT_ l k with
 |none=>rw[ho] at h;cases h
 |some o=>
  cases hoa:kT_ l a with
  |none=>rw[ho,hoa] at h;cases h
  |some oa=>
   rw[ho,hoa] at h
   simp only at h
   split at h
   ·rename_i hcc
    refine⟨?_,h⟩
    rw[chkD,ho,hoa]
    simp only
    rw[if_pos hcc];rfl
   ·cases h
theorem OwD.runs {k:Md→List Oper→Fr→zd_→Prop} (hD:Drift P l ts a d z): ∀ (is:List Nat) {listed listed':List Bool} {f:Fr} {L:zd_},chkD P l ts a is listed=some listed'→
  (∀md r f' L',k md r f' L'→r= []∧OwD P w0 l R ts a d z n listed' f' L' N)→vcL P w0 l.toArray false (.sof R [] []) (xE_ l is) f L k→OwD P w0 l R ts a d z (is.length+n) listed f L N
 | [],listed,listed',f,L,hc,hk,h=>by
  cases hc
  rw[List.length_nil,Nat.zero_add]
  exact(hk _ _ _ _ h).2
 |i::is,listed,listed',f,L,hc,hk,h=>by
  obtain⟨hc1,hc2⟩:=ahk_ hc
  rw[zb_] at h
  cases ho:kT_ l i with
  |none=>unfold chkD at hc1;rw[ho] at hc1;cases hc1
  |some o=>
   rw[ho,za_] at h
   unfold vcL at h
   rw[List.length_cons,show is.length+1+n=(is.length+n)+1 by omega]
   cases hs:zl_ l.toArray f o with
   |true=>
    rw[hs] at h
    have hw0:Region.wanted o (yielded l.toArray (act f).tmps)=false:=by rw[qn_,hs];rfl
    exact OwD.step hD ho hc1 (v:=undef) (.inr ⟨hw0,rfl⟩) (OwD.runs hD is hc2 hk h)
   |false=>
    rw[hs] at h
    have hw0:Region.wanted o (yielded l.toArray (act f).tmps)=true:=by rw[qn_,hs];rfl
    simp only[ib,vcB] at h
    split at h
    ·cases hrd:Vy_ (.sof R [] []) f o.op with
     |false=>rw[hrd] at h;exact absurd (hk _ _ _ _ h).1 (by simp)
     |true=>
      rw[hrd] at h
      simp only at h
      cases hv:kO_ P w0 L f o.op with
      |none=>rw[hv] at h;exact absurd (hk _ _ _ _ h).1 (by simp)
      |some v=>
       rw[hv] at h
       refine OwD.step hD ho hc1 (v:=v) (.inl ⟨hw0,fun w hw=> ?_⟩) (OwD.runs hD is hc2 hk h)
       rw[jD_]
       rcases hw with hp|hw
       ·exact q6_ (Hp.refl w) (x5_ hp hv w)
       ·exact q6_ (Hp.refl w) (w5_ hrd hv hw)
    ·exact absurd (hk _ _ _ _ h).1 (by simp)
    ·exact absurd (hk _ _ _ _ h).1 (by simp)
theorem OwD.run (is:List Nat) (listed':List Bool) (n:Nat) {m:Nat} (hm:m=is.length+n) (hD:Drift P l ts a d z) (hc:chkD P l ts a is listed=some listed')
  (h: ∀k:Md→List Oper→Fr→zd_→Prop,(∀md f L,OwD P w0 l R ts a d z n listed' f L N→k md [] f L)→nl (xE_ l is) fun l'=>vcL P w0 l.toArray false (.sof R [] []) l' f L k):OwD P w0 l R ts a d z m listed f L N:=by
 subst hm
 refine OwD.runs (k:=fun _ r f' L'=>r= []∧OwD P w0 l R ts a d z n listed' f' L' N) hD is hc (fun _ _ _ _ h=>h) ?_
 exact h _ fun _ _ _ h=>⟨rfl,h⟩
theorem Kk_ {t:TypeId} {zv:Value} {oa:Oper} {Q:Exit→Act→World→Prop} {X:Act→World→Prop} {w:World} (ha:l.toArray[a]? =some oa) (hop:oa.op= .alloc t) (hdst:oa.dst=some d) (hg:oa.guard=none) (hz:zK_ P t=some zv)
  (h:X (act (Vn_ f d (vp w.heap.size 0))) (w.alloc (.cells zv.cells t))):wpOp P l.toArray Q a X (act f) w:=by
 obtain⟨dst,op,ty,pos,after,guard⟩:=oa
 simp only at hop hdst hg
 subst hop;subst hdst;subst hg
 unfold wpOp
 simp only[ha]
 have hw:Region.wanted ⟨some d, .alloc t,ty,pos,after,none⟩ (yielded l.toArray (act f).tmps)=true:=by rw[qn_];rfl
 rw[hw]
 simp only[↓reduceIte]
 left
 unfold Oper.wp
 have hr: (execOp (act f).eval ⟨some d, .alloc t,ty,pos,after,none⟩).run P w= .ok (.value (vp w.heap.size 0)) (w.alloc (.cells zv.cells t)):=by
  simp only[execOp,Instr.alloc,Sem.run_bind,xC_ hz w,Result.andThen_ok]
  rfl
 rw[hr]
 show X ((act f).put (some d) (vp w.heap.size 0)) _
 rw[z5_]
 exact h
theorem wl_ {L':zd_} (hS: ∀b,b∈R→zy_ w0 L' b=zy_ w0 L b):SR w0 R L=SR w0 R L':=by
 funext v
 unfold SR
 apply propext
 constructor
 ·intro hh b hb o ho;exact hh b hb o (by rw[←hS b hb];exact ho)
 ·intro hh b hb o ho;exact hh b hb o (by rw[hS b hb];exact ho)
def adP_ (l:List Oper) (ts:List Nat) (a:Nat) (ks:List Nat) (listed:List Bool):Bool:=
 ((Region.ready .any l.toArray listed.toArray).all fun i=>i==a||ks.contains i)&& (Region.ready .any l.toArray listed.toArray != [])&& ((Region.ready .any l.toArray (listed.set a true).toArray).all fun i=>ks.contains i)&& (Region.ready .any l.toArray (listed.set a true).toArray != [])&&ks.all fun k=>
  match kT_ l k,kT_ l a with
  |some o,some oa=>k !=a&& !ts.contains k&&o.apart l.toArray oa
  |_,_=>false
theorem OwD.softs (ks:List Nat) (hD:Drift P l ts a d z) (hs:adP_ l ts a ks listed=true)
  (h: ∀k,k∈ks→ ∀o,kT_ l k=some o→ ∀E,(E= []∨ ∃b,E= [(b,z)]∧w0.heap.size≤b∧b∉keys L)→Ow P w0 l.toArray .seq [o] f (L++E) (fun f' L''=> ∃L',(L'++E).Perm L''∧(∀r,r∈R→zy_ w0 L' r=zy_ w0 L r)∧OwD P w0 l R ts a d z n (listed.set k true) f' L' N)):
  OwD P w0 l R ts a d z (n+1) listed f L N:=by
 obtain⟨⟨oa,t,zv,ha,hop,hdst,hg,hz,rfl⟩,hats,hns⟩:=hD
 have ha':kT_ l a=some oa:=by rw[xf_];simpa using ha
 unfold adP_ at hs
 simp only[Bool.and_eq_true,List.all_eq_true,Bool.or_eq_true,beq_iff_eq,bne_iff_ne,ne_eq,List.contains_eq_mem,decide_eq_true_eq] at hs
 obtain⟨⟨⟨⟨c3,c4⟩,c5⟩,c5'⟩,c6⟩:=hs
 have hsel:=Region.noSelect_spec hns
 have hkk: ∀k,k∈ks→ ∃o,kT_ l k=some o∧k≠a∧k∉ts∧o.apart l.toArray oa=true:=by
  intro k hk
  have:=c6 k hk
  rw[ha'] at this
  cases ho:kT_ l k with
  |none=>rw[ho] at this;cases this
  |some o=>
   rw[ho] at this
   simp only[Bool.and_eq_true,Bool.not_eq_true',bne_iff_ne,ne_eq,decide_eq_false_iff_not] at this
   exact⟨o,rfl,this.1.1,this.1.2,this.2⟩
 have t2: ∀b w,w0.heap.size≤b→b∉keys L→Hp w0 (L++ [(b, .cells zv.cells t)]) w→xI_ P l.toArray (jC_ w0 N) ts (SR w0 R L) (n+1) (listed.set a true).toArray (act (Vn_ f d (vp b 0))) w:=by
  intro b w hb hbL hw
  refine⟨fun _=>SR.ofE hb hw,(fun h=>absurd h c5'), ?_⟩
  intro k hi
  have hkm:=c5 k hi
  obtain⟨o,hk,c1,c2,c7⟩:=hkk k hkm
  have hoi:l.toArray[k]? =some o:=by rw[xf_] at hk;simpa using hk
  obtain⟨q1,q2,q3⟩:=Oper.apart_spec c7
  have hset: (listed.set k true).set a true=(listed.set a true).set k true:=List.set_comm _ _ c1
  have e1:act (Vn_ f d (vp b 0))=(act f).put (some d) (vp b 0):=(z5_ f (some d) (vp b 0)).symm
  rw[e1]
  refine WW_ hoi (fun t ht=>by cases ht;exact q3 d hdst) (fun t ht=>by cases ht;exact fun hod=>q2 d hod hdst) (hsel _ o · · hoi) (fun c a w h=>agA_ h) ?_
  refine wS_ hoi (X:=fun a' w'=>xI_ P l.toArray (jC_ w0 N) ts (SR w0 R L) n ((listed.set a true).toArray.setIfInBounds k true) (a'.put (some d) (vp b 0)) w') ?_ hw
  intro w' hw'
  refine kF_ ?_ (h k hkm o hk [(b, .cells zv.cells t)] (.inr ⟨b,rfl,hb,hbL⟩) w' hw')
  rintro f' L'' ⟨L',hpm,hR,hO⟩ w'' hw''
  have hw3:=hw''.perm hpm
  rw[z5_,ql_,←hset,wl_ hR]
  refine hO.2 b w'' hb (fun hm=> ?_) hw3
  have hnd:=hw3.nodup
  rw[zj_,List.nodup_append] at hnd
  exact hnd.2.2 b hm b (by simp[keys]) rfl
 refine⟨fun w hw=>⟨fun _=>SR.of hw,fun h=>absurd h c4,fun k hi=> ?_⟩,t2⟩
 rcases c3 k hi with rfl|hkm
 ·refine Kk_ ha hop hdst hg hz ?_
  rw[ql_]
  refine t2 _ _ hw.size (fun hm=>Nat.lt_irrefl _ (hw.lt hm)) (hw.alloc _)
 ·obtain⟨o,hk,c1,c2,c7⟩:=hkk k hkm
  have hoi:l.toArray[k]? =some o:=by rw[xf_] at hk;simpa using hk
  refine wS_ hoi (X:=xI_ P l.toArray (jC_ w0 N) ts (SR w0 R L) (n+1) (listed.toArray.setIfInBounds k true)) ?_ hw
  intro w' hw'
  have h1:=h k hkm o hk [] (.inl rfl)
  rw[List.append_nil] at h1
  refine kF_ ?_ (h1 w' hw')
  rintro f' L'' ⟨L',hpm,hR,hO⟩ w'' hw''
  rw[List.append_nil] at hpm
  rw[ql_,wl_ hR]
  exact hO.1 w'' (hw''.perm hpm)
theorem OwD.soft (k:Nat) (o:Oper) (hD:Drift P l ts a d z) (hk:kT_ l k=some o) (hs:adP_ l ts a [k] listed=true)
  (h: ∀E,(E= []∨ ∃b,E= [(b,z)]∧w0.heap.size≤b∧b∉keys L)→Ow P w0 l.toArray .seq [o] f (L++E) (fun f' L''=> ∃L',(L'++E).Perm L''∧(∀r,r∈R→zy_ w0 L' r=zy_ w0 L r)∧OwD P w0 l R ts a d z n (listed.set k true) f' L' N)):
  OwD P w0 l R ts a d z (n+1) listed f L N:=OwD.softs [k] hD hs fun k' hk' o' ho'=>by
 rw[List.mem_singleton] at hk'
 subst hk'
 rw[hk] at ho'
 cases ho'
 exact h
theorem OwD.two (k k2:Nat) (o o2:Oper) (hD:Drift P l ts a d z) (hk:kT_ l k=some o) (hk2:kT_ l k2=some o2) (hs:adP_ l ts a [k,k2] listed=true)
  (h: ∀E,(E= []∨ ∃b,E= [(b,z)]∧w0.heap.size≤b∧b∉keys L)→Ow P w0 l.toArray .seq [o] f (L++E) (fun f' L''=> ∃L',(L'++E).Perm L''∧(∀r,r∈R→zy_ w0 L' r=zy_ w0 L r)∧OwD P w0 l R ts a d z n (listed.set k true) f' L' N))
  (h2: ∀E,(E= []∨ ∃b,E= [(b,z)]∧w0.heap.size≤b∧b∉keys L)→Ow P w0 l.toArray .seq [o2] f (L++E) (fun f' L''=> ∃L',(L'++E).Perm L''∧(∀r,r∈R→zy_ w0 L' r=zy_ w0 L r)∧OwD P w0 l R ts a d z n (listed.set k2 true) f' L' N)):
  OwD P w0 l R ts a d z (n+1) listed f L N:=OwD.softs [k,k2] hD hs fun k' hk' o' ho'=>by
 simp only[List.mem_cons,List.not_mem_nil,or_false] at hk'
 rcases hk' with rfl|rfl
 ·rw[hk] at ho';cases ho';exact h
 ·rw[hk2] at ho';cases ho';exact h2
theorem OwD.real (is:List Nat) {m:Nat} (hm:m=is.length) (hD:Drift P l ts a d z) (hr:Region.ready .any l.toArray listed.toArray= [a]) (hB:QF_ P l.toArray ts is (listed.set a true).toArray=true) (hts: (ts.all fun t=> !(listed.set a true).toArray.getD t true)=true)
  (hl:is.map (fun i:Nat=>l[i]?)=(xE_ l is).map some) (hR: ∀r,r∈R→r∈keys L∨r<w0.heap.size)
  (h:nl (xE_ l is) fun l'=> ∀b,w0.heap.size≤b→b∉keys L→Ow P w0 l.toArray (.sof R is ts) l' (Vn_ f d (vp b 0)) (L++ [(b,z)]) N):OwD P w0 l R ts a d z m listed f L N:=by
 subst hm
 obtain⟨⟨oa,t,zv,ha,hop,hdst,hg,hz,rfl⟩,hats,hns⟩:=hD
 simp only[List.all_eq_true,Bool.not_eq_true'] at hts
 revert hl h
 generalize xE_ l is=l'
 intro hl h
 have hlen:is.length=l'.length:=by have:=congrArg List.length hl;simpa using this
 have hF:Fits P l.toArray ts is l' (listed.set a true).toArray:=⟨hlen,fun j=>by
  have:=congrArg (·[j]?) hl
  simp only[List.getElem?_map] at this
  cases hj:is[j]? with
  |none=>
   rw[hj] at this
   simp only[Option.map_none] at this
   cases hj':l'[j]? with
   |none=>rfl
   |some x=>rw[hj'] at this;cases this
  |some i=>
   rw[hj] at this
   simp only[Option.map_some] at this
   cases hj':l'[j]? with
   |none=>rw[hj'] at this;cases this
   |some x=>
    rw[hj'] at this
    simp only[Option.map_some,Option.some.injEq] at this
    simp[this],hns,hB⟩
 have hRb: ∀b,w0.heap.size≤b→b∉keys L→ ∀r,r∈R→zy_ w0 (L++ [(b,Obj.cells zv.cells t)]) r=zy_ w0 L r:=by
  intro b hb hbL r hr
  unfold zy_
  cases hlk:look L r with
  |some o=>rw[je_ hlk]
  |none=>
   have hrn:r∉keys L:=ZP_ hlk
   have hne:b≠r:=by
    rcases hR r hr with h|h
    ·exact absurd h hrn
    ·omega
   rw[qU_ hrn]
   unfold look
   rw[if_neg hne];rfl
 have t2: ∀b w,w0.heap.size≤b→b∉keys L→Hp w0 (L++ [(b, .cells zv.cells t)]) w→xI_ P l.toArray (jC_ w0 N) ts (SR w0 R L) is.length (listed.set a true).toArray (act (Vn_ f d (vp b 0))) w:=by
  intro b w hb hbL hw
  rw[hlen,wl_ (hRb b hb hbL)]
  exact h b hb hbL _ hF (fun t ht=>hts t ht) w hw
 refine⟨fun w hw=>⟨fun _=>SR.of hw,(fun h=>by rw[hr] at h;cases h),fun i hi=> ?_⟩,t2⟩
 rw[hr,List.mem_singleton] at hi
 subst hi
 refine Kk_ ha hop hdst hg hz ?_
 rw[ql_]
 exact t2 _ _ hw.size (fun hm=>Nat.lt_irrefl _ (hw.lt hm)) (hw.alloc _)
theorem Cw.regionD {id:Nat} (R ts:List Nat) (a d t m:Nat) (zv:Value) (hl:l.length=m+1) (hm:P.follows .mixedOrders=true) (hop: ((kT_ l a).map fun o=>(o.op,o.dst,o.guard))=some (.alloc t,some d,none)) (hts:ts.contains a=false) (hns:Region.noSelect l.toArray=true) (hz:zK_ P t=some zv)
  (h:Drift P l ts a d (.cells zv.cells t)→OwD P w0 l R ts a d (.cells zv.cells t) m (List.replicate (m+1) false) f L (K .normal)):Cw P w0 (.region id l.toArray true) f L K:=by
 intro w hw
 refine wp_mono (wp_region_any hm ?_) fun _ _ _ h=>xj_ h
 have hD:Drift P l ts a d (.cells zv.cells t):=by
  cases hn:kT_ l a with
  |none=>rw[hn] at hop;cases hop
  |some oa=>
   rw[hn] at hop
   simp only[Option.map_some,Option.some.injEq,Prod.mk.injEq] at hop
   exact⟨⟨oa,t,zv,by rw[xf_] at hn;simpa using hn,hop.1,hop.2.1,hop.2.2,hz,rfl⟩,by simpa using hts,hns⟩
 have h1:=(h hD).1 w.drew hw.drew
 have:=va_ _ _ _ _ h1
 simpa [hl] using this
end
end Go.Sx
namespace Go.Sx
open Go
def Gr (L:zd_) (E:TypeId) (m:Nat) (v:Value) (n:Nat) (cs:List Value):Prop:=
 Buf L E m v n cs∨(n=0∧cs= []∧ ∃b,v=vsl b 0 0 0∧look L b=some (.cells #[] E (0,0)))
theorem Gr.nl {L:zd_} {E:TypeId} {m:Nat}:Gr L E m (.slice none 0 0) 0 []:= .inl .nl
theorem Grew.any {w0:World} {v v':Value} {L L':zd_} (h:Grew w0 v L L') (hv:slB v=none):Grew w0 v' L L':=
 ⟨h.keys,h.new,fun c o _ hl=>h.look c o (by rw[hv];simp) hl⟩
theorem Gr.keep {L L':zd_} {E:TypeId} {m n:Nat} {v:Value} {cs:List Value} (h:Gr L E m v n cs) (hk: ∀b o,slB v=some b→look L b=some o→look L' b=some o):Gr L' E m v n cs:=by
 rcases h with h| ⟨h1,h2,b,rfl,h3⟩
 ·exact .inl (h.keep hk)
 ·exact .inr ⟨h1,h2,b,rfl,hk b _ rfl h3⟩
theorem Gr.app {L M:zd_} {E:TypeId} {m n:Nat} {v:Value} {cs:List Value} (h:Gr L E m v n cs):Gr (L++M) E m v n cs:=h.keep fun _ _ _ hl=>je_ hl
theorem Gr.len {L:zd_} {E:TypeId} {m n:Nat} {v:Value} {cs:List Value} (h:Gr L E m v n cs) (x:Bool×Nat):Xr_ (.sl x) v=some (vi n):=by
 rcases h with h| ⟨rfl,rfl,b,rfl,-⟩
 ·exact h.len x
 ·rfl
theorem Gr.cell {L:zd_} {E:TypeId} {m n:Nat} {v:Value} {cs:List Value} (h:Gr L E m v n cs):Value.oneCell' v=true∧v.cells= #[v]:=by
 rcases h with h| ⟨rfl,rfl,b,rfl,-⟩
 ·exact h.cell
 ·exact⟨rfl,rfl⟩
theorem Gr.key {L:zd_} {E:TypeId} {m n:Nat} {v:Value} {cs:List Value} (h:Gr L E m v n cs) {b:Nat} (hb:slB v=some b):b∈keys L:=by
 rcases h with h| ⟨rfl,rfl,c,rfl,hl⟩
 ·rcases h.inv with⟨rfl,-,-⟩ | ⟨c,cc,rest,rfl,hl,-⟩
  ·cases hb
  ·cases hb;exact zw_ hl
 ·cases hb;exact zw_ hl
section
variable {α:Type} {m:Nat} {enc:α→List Value} {z:α} {w:World} {v:Value} {l:List α}
theorem Gr.slM {L:zd_} {E:TypeId} {n:Nat} {cs:List Value} (h:Gr L E m v n cs) (hw: ∀b o,(b,o)∈L→w.heap[b]? =some o) (hl:l.length=n) (hcs:cs=(l.map enc).flatten) (hm: ∀x,(enc x).length=m):SlV m enc z w v l:=by
 rcases h with h| ⟨rfl,rfl,b,rfl,hlk⟩
 ·exact h.slM hw hl hcs hm
 ·obtain rfl:l= []:=List.eq_nil_of_length_eq_zero hl
  exact SlV.sl (l:=([]:List α)) (off:=0) (c:=0) (hw _ _ (zJ_ hlk)) (fun k hk=>by simp at hk) (Nat.le_refl 0) (by simp)
theorem Gr.slV {L:zd_} {E:TypeId} {n:Nat} {cs:List Value} {w0:World} (h:Gr L E m v n cs) (hw:Hp w0 L w) (hl:l.length=n) (hcs:cs=(l.map enc).flatten) (hm: ∀x,(enc x).length=m):SlV m enc z w v l:=h.slM hw.has hl hcs hm
theorem Qr_ (hm: ∀x,(enc x).length=m) (arr:Array Value): ∀ (ls:List α) (off:Nat),off+ls.length*m≤arr.size→(∀k j,k<ls.length→j<m→arr[off+k*m+j]? =(enc (ls.getD k z))[j]?)→
  (arr.extract off (off+ls.length*m)).toList=(ls.map enc).flatten
 | [],off,_,_=>by simp
 |r::ls,off,hs,h=>by
  have hlm: (r::ls).length*m=m+ls.length*m:=by rw[List.length_cons,Nat.add_mul,Nat.one_mul,Nat.add_comm]
  rw[hlm] at hs ⊢
  have ih:=Qr_ hm arr ls (off+m) (by omega) (fun k j hk hj=>by
   have:=h (k+1) j (by simpa using hk) hj
   rw[List.getD_cons_succ] at this
   rw[←this];congr 1;rw[Nat.add_mul,Nat.one_mul];omega)
  have h0: (arr.extract off (off+m)).toList=enc r:=by
   apply List.ext_getElem?
   intro j
   rw[Array.getElem?_toList,Array.getElem?_extract]
   by_cases hj:j<m
   ·rw[if_pos (by omega)]
    have:=h 0 j (by simp) hj
    simpa using this
   ·rw[if_neg (by omega),List.getElem?_eq_none (by rw[hm];omega)]
  rw[List.map_cons,List.flatten_cons,←ih,←h0,←Array.toList_append]
  congr 1
  rw[Array.extract_append_extract]
  congr 1<;>omega
theorem VG_ (hm: ∀x,(enc x).length=m) (l:List α): (l.map enc).flatten.length=l.length*m:=by
 induction l with
 |nil=>simp
 |cons x r ih=>rw[List.map_cons,List.flatten_cons,List.length_append,ih,hm,List.length_cons,Nat.add_mul,Nat.one_mul,Nat.add_comm]
theorem AppX.one1 {P:Program} {b:Nat} {E:TypeId} {fz:Nat×Nat} {cs:List Value} (hb:w.heap[b]? =some (.cells cs.toArray E fz)) (hm:cs.length=m) (h1:cs.all Value.oneCell'=true):AppX P w m (vsl b 0 1 1) 1 cs:=by
 refine AppX.block (w0:=w) (L:= []) (by rw[Zn_];exact hb) (by simp;omega) ?_ h1 (Hp.refl w)
 rw[List.extract_toArray,List.extract_eq_take_drop,List.drop_zero,List.take_of_length_le (by omega)]
theorem SlV.appX {P:Program} (h:SlV m enc z w v l) (hm: ∀x,(enc x).length=m) (h1: ∀x,(enc x).all Value.oneCell'=true):AppX P w m v l.length (l.map enc).flatten:=by
 obtain⟨b,off,c,arr,E,fz,hr,hc,hv⟩:=h
 rcases hv with⟨rfl,rfl,rfl⟩ | ⟨rfl,hhas,hsz⟩
 ·exact AppX.nil P w m
 ·refine AppX.block (w0:=w) (L:= []) (by rw[Zn_];exact hhas) hsz (Qr_ (z:=z) hm arr l off hsz (fun k j hk hj=>hr.get k hk j hj)) ?_ (Hp.refl w)
  rw[List.all_flatten,List.all_map,List.all_eq_true]
  exact fun r _=>h1 r
end
section
variable {P:Program} {w0:World} {f:Fr} {L:zd_} {N:Fr→zd_→Prop} {ops:Array Oper} {rest:List Oper} {md:Md}
 {d:Option Tmp} {ty:TypeId} {ps:String} {af:Array Edge} {g:Option (Nat×Bool)}
theorem Ow.appendG {ts tx e:TypeId} {m:Bool×Nat} {z:Value} {s x:Operand} {n k:Nat} {cs new:List Value} {dx:TypeDesc} {md':Md} (sv:Value) (hsv:ev f s=sv) (he:md.turn=some md')
  (hs:zl_ ops f ⟨d, .call ⟨.builtin .append, #[s,x], #[ts,tx]⟩,ty,ps,af,g⟩=false)
  (hu:P.underlying ts=some (.slice e)) (hm:z0_ P e=some m) (hi:kN_ P e=true) (hz:zK_ P e=some z) (hzs:z.cells.size=m.2) (hux:P.underlying tx=some dx) (hnx: ∀k,dx≠ .int k)
  (hB:Gr L e m.2 sv n cs) (hX: ∀w,Hp w0 L w→AppX P w m.2 (ev f x) k new) (hlen:new.length=k*m.2) (hbig:2* (n+k)+768≤2^38)
  (hn: ∀v' L',Gr L' e m.2 v' (n+k) (cs++new)→(0<k→Buf L' e m.2 v' (n+k) (cs++new))→Grew w0 sv L L'→(slB v'=slB sv∨ ∃c,slB v'=some c∧xa_ L c)→Ow P w0 ops md' rest (qz_ f d v') L' N):
  Ow P w0 ops md (⟨d, .call ⟨.builtin .append, #[s,x], #[ts,tx]⟩,ty,ps,af,g⟩::rest) f L N:=by
 rcases hB with hB| ⟨rfl,rfl,b,rfl,hlk⟩
 ·exact Ow.append sv hsv he hs hu hm hi hz hzs hux hnx hB hX hbig fun v' L' h1 h2 h3=>hn v' L' (.inl h1) (fun _=>h1) h2 h3
 ·refine Ow.appendEm hsv he hs hu hm hi hz hzs hux hnx hX hbig (fun h0=> ?_) (fun v' L' hk h1 h2 h3=> ?_)
  ·subst h0
   obtain rfl:new= []:=List.eq_nil_of_length_eq_zero (by rw[hlen,Nat.zero_mul])
   exact hn _ L (.inr ⟨rfl,rfl,b,rfl,hlk⟩) (fun h=>absurd h (Nat.lt_irrefl 0)) (Grew.refl _ _ _) (.inl rfl)
  ·exact hn v' L' (.inl h1) (fun _=>h1) (h2.any rfl) (.inr h3)
end
end Go.Sx
namespace Go.Sx
open Go
theorem agd_ {w0:World} {L M:zd_} {r:Nat} (h:r∈keys L):zy_ w0 (L++M) r=zy_ w0 L r:=by
 obtain⟨o,ho⟩:=Vv_ h
 rw[qd_ ho,qd_ (je_ ho)]
theorem qH_ {w0:World} {L M:zd_} {R:List Nat} (h: ∀r,r∈R→r∈keys L): ∀r,r∈R→zy_ w0 (L++M) r=zy_ w0 L r:=fun r hr=>agd_ (h r hr)
theorem New.of_le {n:Nat}: ∀ {D:zd_},(∀c,c∈keys D→n≤c)→New n D
 | [],_=>trivial
 | (b,o)::r,h=>⟨h b (by simp[keys]),New.of_le fun c hc=>h c (by simp only[keys,List.map_cons,List.mem_cons] at hc ⊢;exact .inr hc)⟩
theorem Qj_ {w0:World} {L M:zd_} {r:Nat} (h:r∉keys M):zy_ w0 (M++L) r=zy_ w0 L r:=by
 unfold zy_;rw[qU_ h]
theorem Ext.new0 {w:World} {D:zd_} (h:Ext w [] D):New w.heap.size D:=by
 have hn:=h.new
 have key: ∀ (D:zd_),(∀c,c∈Sx.keys D→w.heap.size≤c)→New w.heap.size D:=by
  intro D
  induction D with
  |nil=>intro _;trivial
  |cons p r ih=>
   obtain⟨b,o⟩:=p
   intro hh
   exact⟨hh b (by simp[Sx.keys]),ih fun c hc=>hh c (by simp only[Sx.keys,List.map_cons,List.mem_cons] at hc ⊢;exact .inr hc)⟩
 refine key D fun c hc=> ?_
 rcases hn c hc with h1|h1
 ·cases h1
 ·exact h1
theorem Ext.of_new {w:World} {D:zd_} (h:New w.heap.size D):Ext w [] D:=⟨fun c hc=> .inr (h.le c hc),fun c hc=>by cases hc⟩
section
variable {P:Program} {w0:World} {f:Fr} {L:zd_} {N:Fr→zd_→Prop} {K:xF_} {ops:Array Oper} {rest:List Oper} {md:Md}
 {d:Option Tmp} {ty:TypeId} {ps:String} {af:Array Edge} {g:Option (Nat×Bool)}
theorem x6_ {b:Nat} {o:Obj}: ∀ {B:zd_},(keys B).Nodup→(b,o)∈B→look B b=some o
 | [],_,h=>by cases h
 | (c,x)::q,hn,h=>by
  simp only[keys,List.map_cons,List.nodup_cons] at hn
  unfold look
  rcases List.mem_cons.1 h with h|h
  ·cases h;rw[if_pos rfl]
  ·have:c≠b:=fun e=>hn.1 (e▸List.mem_map.2 ⟨_,h,rfl⟩)
   rw[if_neg this]
   exact x6_ hn.2 h
theorem SR.perm {R:List Nat} {M:zd_} (h:M.Perm L) (hn: (keys L).Nodup):SR w0 R M=SR w0 R L:=by
 refine wl_ fun r _=> ?_
 have hk: ∀ (A B:zd_),A.Perm B→(keys B).Nodup→ ∀o,look A r=some o→look B r=some o:=fun A B hp hB o ho=>x6_ hB (hp.mem_iff.1 (zJ_ ho))
 have hnM: (keys M).Nodup:=(List.Perm.nodup_iff (h.map Prod.fst)).2 hn
 unfold zy_
 cases hl:look L r with
 |some o=>rw[hk L M h.symm hnM o hl]
 |none=>
  cases hm:look M r with
  |none=>rfl
  |some o=>rw[hk M L h hn o hm] at hl;cases hl
theorem OwD.permL {l:List Oper} {listed:List Bool} {n:Nat} {R ts:List Nat} {a d:Nat} {z:Obj} {M:zd_} (hp:M.Perm L) (h:OwD P w0 l R ts a d z n listed f M N):OwD P w0 l R ts a d z n listed f L N:=by
 refine⟨fun w hw=> ?_,fun b w hb hbL hw=> ?_⟩
 ·have:=h.1 w (hw.perm hp)
  rw[SR.perm hp hw.nodup] at this
  exact this
 ·have hnd: (keys L).Nodup:=by
   have:=hw.nodup
   rw[zj_,List.nodup_append] at this
   exact this.1
  have:=h.2 b w hb (fun hm=>hbL (by have:=(hp.map Prod.fst).mem_iff.1 hm;exact this)) (hw.perm (hp.append_right _))
  rw[SR.perm hp hnd] at this
  exact this
theorem Cw.permL {c:Code} {M:zd_} (hp:M.Perm L) (h:Cw P w0 c f M K):Cw P w0 c f L K:=fun w hw=>h w (hw.perm hp)
theorem Ow.permL {M:zd_} {l:List Oper} (hp:M.Perm L) (h:Ow P w0 ops .seq l f M N):Ow P w0 ops .seq l f L N:=fun w hw=>h w (hw.perm hp)
theorem Ow.callC {l:List Operand} {ts:Array TypeId} {k:FuncId} {S:Value→zd_→Prop} {md':Md} (he:md.turn=some md')
  (hs:zl_ ops f ⟨d, .call ⟨.value (.func k),l.toArray,ts⟩,ty,ps,af,g⟩=false)
  (hk: ∀a w,(callFunc k a).run P w= .ok (.enter k a) w)
  (hc: ∀w,Hp w0 L w→Rets P k (l.map (ev f)).toArray w (XS w [] S))
  (hn: ∀B v D,xa_ L B→w0.heap.size≤B→New B D→S v D→Ow P w0 ops md' rest (qz_ f d v) (L++D) N):
  Ow P w0 ops md (⟨d, .call ⟨.value (.func k),l.toArray,ts⟩,ty,ps,af,g⟩::rest) f L N:=
 Ow.callN he hs hk (S:=fun B v D=>New B D∧S v D) (fun w hw=>(hc w hw).mono fun _v _D h=>⟨h.1.new0,h.2⟩) (fun _ _ _ h=>h.1) (fun B v D hA hB hS=>hn B v D hA hB hS.1 hS.2)
theorem Hp.part {w:World} {X Y:zd_} (h:Hp w0 (X++Y) w):Hp w X w:=
 ⟨fun b o hm=>h.has b o (List.mem_append_left _ hm),by have:=h.nodup;rw[zj_,List.nodup_append] at this;exact this.1,fun _ _ _=>rfl,Nat.le_refl _,rfl,rfl,rfl⟩
theorem Hp.join {w w':World} {X Y D:zd_} (h:Hp w0 (X++Y) w) (k:Hp w D w') (h1: ∀c,c∈keys X→c∈keys D) (h2: ∀c,c∈keys D→c∈keys X∨w.heap.size≤c):Hp w0 (D++Y) w':=by
 have hnd:=h.nodup
 rw[zj_,List.nodup_append] at hnd
 have hY: ∀c,c∈keys Y→c∉keys D:=by
  intro c hc hd
  rcases h2 c hd with hx|hx
  ·exact hnd.2.2 c hx c hc rfl
  ·have:=h.lt (b:=c) (by rw[zj_];exact List.mem_append_right _ hc)
   omega
 have ht:=h.trans k
 have e: (X++Y).filter (fun p=> !(keys D).contains p.1)=Y:=by
  rw[List.filter_append,jk_ hY]
  have:X.filter (fun p=> !(keys D).contains p.1)= []:=by
   rw[List.filter_eq_nil_iff]
   intro p hp
   have:=h1 p.1 (List.mem_map.2 ⟨p,hp,rfl⟩)
   simp[this]
  rw[this,List.nil_append]
 rw[e] at ht
 exact ht.perm List.perm_append_comm
theorem Ow.appendX {ts tx e:TypeId} {m:Bool×Nat} {z:Value} {s x:Operand} {n k:Nat} {cs new:List Value} {dx:TypeDesc} {md':Md} {X Y:zd_} (sv:Value) (hL:L=X++Y) (hsv:ev f s=sv) (he:md.turn=some md')
  (hs:zl_ ops f ⟨d, .call ⟨.builtin .append, #[s,x], #[ts,tx]⟩,ty,ps,af,g⟩=false)
  (hu:P.underlying ts=some (.slice e)) (hm:z0_ P e=some m) (hi:kN_ P e=true) (hz:zK_ P e=some z) (hzs:z.cells.size=m.2) (hux:P.underlying tx=some dx) (hnx: ∀k,dx≠ .int k)
  (hB:Gr X e m.2 sv n cs) (hX: ∀w,Hp w0 L w→AppX P w m.2 (ev f x) k new) (hk:0<k) (hbig:2* (n+k)+768≤2^38)
  (hn: ∀B v' D,xa_ L B→w0.heap.size≤B→Buf D e m.2 v' (n+k) (cs++new)→(∀c,c∈keys X→c∈keys D)→(∀c,c∈keys D→c∈keys X∨B≤c)→(∀c o,slB sv≠some c→look X c=some o→look D c=some o)→Ow P w0 ops md' rest (qz_ f d v') (D++Y) N):
  Ow P w0 ops md (⟨d, .call ⟨.builtin .append, #[s,x], #[ts,tx]⟩,ty,ps,af,g⟩::rest) f L N:=by
 subst hL
 refine Ow.step he rfl hs fun w hw=> ?_
 have hp:=hw.part
 have hA:xa_ (X++Y) w.heap.size:=qq_ fun b hb=>hw.lt hb
 have fin: ∀v' w' D,(Builtin.append_ #[ts,tx] ty #[sv,ev f x]).run P w= .ok v' w'→Hp w D w'→Buf D e m.2 v' (n+k) (cs++new)→(∀c,c∈keys X→c∈keys D)→(∀c,c∈keys D→c∈keys X∨w.heap.size≤c)→(∀c o,slB sv≠some c→look X c=some o→look D c=some o)→
   (∃v w' L',(execOp (ev f) ⟨d, .call ⟨.builtin .append, #[s,x], #[ts,tx]⟩,ty,ps,af,g⟩).run P w= .ok (.value v) w'∧Hp w0 L' w'∧Ow P w0 ops md' rest (qz_ f d v) L' N):=by
  intro v' w' D hr hD hb h1 h2 h3
  refine⟨v',w',D++Y, ?_,hw.join hD h1 h2,hn w.heap.size v' D hA hw.size hb h1 h2 h3⟩
  simp only[execOp,resolve,Sem.run_bind,Sem.run_pure,Result.andThen_ok,invoke,builtin,List.map_toArray,List.map_cons,List.map_nil,hsv]
  rw[hr]
  rfl
 have hX': ∀w',Hp w [] w'→True:=fun _ _=>trivial
 rcases hB with hB| ⟨rfl,rfl,b,rfl,hlk⟩
 ·obtain⟨v',w',D,hr,hD,hb,hg,-⟩:=Z3_ (w0:=w) (L:=X) (ty:=ty) (x:=ev f x) hp hu hm hi hz hzs hux hnx hB (fun w2 hw2=>hX w2 (by
   refine hw.join hw2 (fun c hc=>hc) (fun c hc=> .inl hc))) hbig
  exact .inl (fin v' w' D hr hD hb hg.keys (fun c hc=>(hg.new c hc).imp id And.right) hg.look)
 ·rcases vR_ (w0:=w) (L:=X) (ty:=ty) (b:=b) (x:=ev f x) hp hu hm hi hz hzs hux hnx (fun w2 hw2=>hX w2 (by
   refine hw.join hw2 (fun c hc=>hc) (fun c hc=> .inl hc))) hbig with⟨h0,-⟩ | ⟨-,v',w',D,hr,hD,hb,hg,-⟩
  ·omega
  ·exact .inl (fin v' w' D hr hD hb hg.keys (fun c hc=>(hg.new c hc).imp id And.right) (fun c o _ hl=>hg.look c o (by simp[slB]) hl))
end
def GrI (D:zd_) (E:TypeId) (m:Nat) (v:Value) (n:Nat) (cs:List Value):Prop:= ∃X,(∀p,p∈X→p∈D)∧Gr X E m v n cs
theorem Gr.i {X D:zd_} {E:TypeId} {m n:Nat} {v:Value} {cs:List Value} (h:Gr X E m v n cs) (hX: ∀p,p∈X→p∈D):GrI D E m v n cs:=⟨X,hX,h⟩
theorem GrI.mono {D D':zd_} {E:TypeId} {m n:Nat} {v:Value} {cs:List Value} (h:GrI D E m v n cs) (hX: ∀p,p∈D→p∈D'):GrI D' E m v n cs:=by
 obtain⟨X,h1,h2⟩:=h;exact⟨X,fun p hp=>hX p (h1 p hp),h2⟩
theorem GrI.slV {α:Type} {m:Nat} {enc:α→List Value} {z:α} {w0 w:World} {v:Value} {l:List α} {D:zd_} {E:TypeId} {n:Nat} {cs:List Value} (h:GrI D E m v n cs) (hw:Hp w0 D w) (hl:l.length=n) (hcs:cs=(l.map enc).flatten) (hm: ∀x,(enc x).length=m):SlV m enc z w v l:=by
 obtain⟨X,h1,h2⟩:=h
 exact h2.slM (fun b o hm=>hw.has b o (h1 _ hm)) hl hcs hm
section
variable {P:Program} {w0:World} {f:Fr} {L:zd_} {N:Fr→zd_→Prop}
theorem Ji_ {L _M:zd_} {b:Nat} {o:Obj} (h:b∉keys L):look (L++ [(b,o)]) b=some o:=by
 rw[qU_ h];exact zS_ _ _ _
theorem Qf_ {b:Nat} {o x:Obj}: ∀ {L:zd_},b∉keys L→setB (L++ [(b,o)]) b x=L++ [(b,x)]
 | [],_=>by rw[List.nil_append,jW_];rfl
 | (c,y)::r,h=>by
  simp only[keys,List.map_cons,List.mem_cons,not_or] at h
  rw[List.cons_append,jm_ _ _ _ _ _ (Ne.symm h.1),Qf_ (by simpa [keys] using h.2)];rfl
end
end Go.Sx
namespace Go.Sx
open Go
theorem zX_ {P:Program} {t e:TypeId} {m:Nat} {zc:Array Value} {cs:List Value} (hu:P.underlying t=some (.slice e)) (ha:z0_ P e=some (true,m)) (hz:zK_ P e=some (.agg zc)) (hm:0<m∧m≤16777216) (hc:cs.length=m):
  wO_ P t 1 [(0, .agg cs.toArray)]=some (e,cs.toArray):=by
 have h2:Value.cells (.agg cs.toArray)=cs.toArray:=ze_ _
 have hg: ¬ (1*m>2^24):=by simp;omega
 have h0: ¬ (1*m=0):=by omega
 simp only[wO_,hu,ha,hz,Option.map_some]
 rw[if_neg hg,if_neg h0]
 simp only
 generalize hI: (Array.range (1*m)).map (fun x=>(Value.cells (.agg zc))[x% (Value.cells (.agg zc)).size]!)=I
 have hIs:I.size=m:=by rw[←hI];simp
 have hfl:Instr.fill (fun i=>some (i*m,m)) I [(0,Value.agg cs.toArray)]=some cs.toArray:=by
  unfold Instr.fill
  have s3:cs.toArray.size=m:=by simp[hc]
  simp only[h2,s3,hIs,Nat.zero_mul,ne_eq,not_true_eq_false,decide_false,Bool.false_or,Nat.zero_add,Nat.lt_irrefl,gt_iff_lt,Bool.false_eq_true, ↓reduceIte]
  unfold Instr.fill
  congr 1
  have hz:=Qg_ cs 0 0 I
  rw[Nat.add_zero,ad7_ I cs (by rw[hc,hIs])] at hz
  simp only[Nat.zero_add] at hz
  rw[←Array.foldl_toList,Array.toList_zipIdx]
  exact hz
 rw[hfl]
 rfl
end Go.Sx
namespace Go.Sx
open Go
abbrev ltB (a b:List UInt8):Bool:=Op.bytesLess a b
theorem wK_: ∀ (x y:List UInt8),ltB x y=decide (x<y)
 | [],[]=>by simp[ltB,Op.bytesLess]
 |_::_,[]=>by simp[ltB,Op.bytesLess]
 | [],_::_=>by simp[ltB,Op.bytesLess]
 |a::x,b::y=>by
  have ih:=wK_ x y
  simp only[ltB] at ih ⊢
  rw[Op.bytesLess,ih]
  simp only[List.cons_lt_cons_iff]
  by_cases h1:a<b<;>by_cases h2:a=b<;>by_cases h3:x<y<;>simp[h1,h2,h3]
theorem x2_ (a:List UInt8):ltB a a=false:=by
 rw[wK_];simp
theorem Zk_ {a b c:List UInt8} (h:ltB a b=true) (k:ltB b c=true):ltB a c=true:=by
 rw[wK_,decide_eq_true_eq] at*
 exact List.lt_trans h k
theorem Wz_ {a b:List UInt8} (h:ltB a b=true):ltB b a=false:=by
 cases hb:ltB b a
 ·rfl
 ·have:=Zk_ h hb
  rw[x2_] at this;cases this
theorem aoq_ {a b:List UInt8} (h:ltB a b=true):a≠b:=by
 rintro rfl
 rw[x2_] at h;cases h
theorem Wu_ {a b:List UInt8} (h:ltB a b=false) (hne:a≠b):ltB b a=true:=by
 rw[wK_,decide_eq_false_iff_not] at h
 rw[wK_,decide_eq_true_eq]
 rcases Std.Trichotomous.rel_or_eq_or_rel_swap (r:=(· < · :List UInt8→List UInt8→Prop)) (a:=a) (b:=b) with h1|h1|h1
 ·exact absurd h1 h
 ·exact absurd h1 hne
 ·exact h1
end Go.Sx
namespace Go.StP
open Go Go.Sx
variable {α:Type} (key:α→List UInt8)
def lt (a b:α):Bool:=ltB (key a) (key b)
def Sorted (l:List α):Prop:=l.Pairwise fun a b=>lt key b a=false
def of (k:List UInt8) (l:List α):List α:=l.filter fun a=>key a==k
def St (l l':List α):Prop:= ∀k,of key k l'=of key k l
theorem St.refl (l:List α):St key l l:=fun _=>rfl
variable {key}
theorem St.trans {a b c:List α} (h:St key a b) (h':St key b c):St key a c:=fun k=>(h' k).trans (h k)
theorem St.symm {a b:List α} (h:St key a b):St key b a:=fun k=>(h k).symm
theorem adZ_ (k:List UInt8) (a b:List α):of key k (a++b)=of key k a++of key k b:=List.filter_append ..
theorem St.app {a a' b b':List α} (h:St key a a') (h':St key b b'):St key (a++b) (a'++b'):=fun k=>by rw[adZ_,adZ_,h,h']
theorem alI_ {k:List UInt8} {l:List α} {x:α}:x∈of key k l↔x∈l∧key x=k:=by
 unfold of;rw[List.mem_filter];simp
theorem St.mem {a b:List α} (h:St key a b) (x:α):x∈b↔x∈a:=by
 have e:=h (key x)
 have h1:x∈b↔x∈of key (key x) b:=by rw[alI_];simp
 have h2:x∈a↔x∈of key (key x) a:=by rw[alI_];simp
 rw[h1,h2,e]
theorem agb_ {k:List UInt8} {l:List α} (h: ∀x,x∈l→key x≠k):of key k l= []:=by
 unfold of
 rw[List.filter_eq_nil_iff]
 intro x hx
 simpa using h x hx
theorem St.swap {a b:List α} (h: ∀x,x∈a→ ∀y,y∈b→key x≠key y):St key (a++b) (b++a):=by
 intro k
 rw[adZ_,adZ_]
 by_cases ha: ∃x,x∈a∧key x=k
 ·obtain⟨x,hx,rfl⟩:=ha
  have:of key (key x) b= []:=agb_ fun y hy e=>h x hx y hy e.symm
  rw[this,List.append_nil,List.nil_append]
 ·have:of key k a= []:=agb_ fun x hx e=>ha ⟨x,hx,e⟩
  rw[this,List.append_nil,List.nil_append]
theorem anj_ {a b:α} (h:lt key a b=true):key a≠key b:=aoq_ h
theorem lt_trans {a b c:α} (h:lt key a b=true) (k:lt key b c=true):lt key a c=true:=Zk_ h k
theorem V2_ {a b:α} (h:lt key a b=true):lt key b a=false:=Wz_ h
theorem lt_irrefl (a:α):lt key a a=false:=x2_ _
theorem apY_ {a b:α} (h:lt key a b=false) (k:lt key b a=false):key a=key b:=by
 cases hk:decide (key a=key b)
 ·have hne:key a≠key b:=of_decide_eq_false hk
  have:=Wu_ h hne
  unfold lt at k
  rw[this] at k;cases k
 ·exact of_decide_eq_true hk
theorem Zy_ {a b c:α} (h:lt key b a=false) (k:lt key c b=false):lt key c a=false:=by
 cases hc:lt key c a
 ·rfl
 ·by_cases e:key b=key c
  ·unfold lt at*
   rw[e,hc] at h;cases h
  ·have h1:lt key b c=true:=by
    refine Wu_ ?_ (fun e'=>e e'.symm)
    exact k
   have:=lt_trans h1 hc
   rw[h] at this;cases this
theorem wF_ {a b c:α} (h:lt key a b=true) (k:lt key c b=false):lt key a c=true:=by
 cases hc:lt key a c
 ·have:=Zy_ (key:=key) (a:=b) (b:=c) (c:=a) k hc
  rw[h] at this;cases this
 ·rfl
theorem XM_ {a b c:α} (h:lt key b a=false) (k:lt key b c=true):lt key a c=true:=by
 cases hc:lt key a c
 ·have:=Zy_ (key:=key) (a:=c) (b:=a) (c:=b) hc h
  rw[k] at this;cases this
 ·rfl
theorem St.head {a b:α} {l l':List α} (hs:Sorted key (a::l)) (hs':Sorted key (b::l')) (h:St key (a::l) (b::l')):a=b∧St key l l':=by
 have h1:lt key b a=false:=by
  have hb:b∈a::l:=(h.mem b).1 List.mem_cons_self
  rcases List.mem_cons.1 hb with rfl|hb
  ·exact lt_irrefl _
  ·exact(List.pairwise_cons.1 hs).1 b hb
 have h2:lt key a b=false:=by
  have ha:a∈b::l':=(h.mem a).2 List.mem_cons_self
  rcases List.mem_cons.1 ha with rfl|ha
  ·exact lt_irrefl _
  ·exact(List.pairwise_cons.1 hs').1 a ha
 have hk:key a=key b:=apY_ h2 h1
 have he:=h (key a)
 unfold of at he
 rw[List.filter_cons,List.filter_cons,if_pos (by simp[hk]),if_pos (by simp)] at he
 have hab:b=a:=(List.cons.inj he).1
 refine⟨hab.symm,fun k=> ?_⟩
 have hk':=h k
 subst hab
 unfold of at hk' ⊢
 rw[List.filter_cons,List.filter_cons] at hk'
 split at hk'
 ·exact(List.cons.inj hk').2
 ·exact hk'
theorem St.eq: ∀ {l l':List α},Sorted key l→Sorted key l'→St key l l'→l=l'
 | [],[],_,_,_=>rfl
 | [],b::l',_,_,h=>by
  have:b∈ ([]:List α):=(h.mem b).1 List.mem_cons_self
  cases this
 |a::l,[],_,_,h=>by
  have:a∈ ([]:List α):=(h.mem a).2 List.mem_cons_self
  cases this
 |a::l,b::l',hs,hs',h=>by
  obtain⟨rfl,h'⟩:=St.head hs hs' h
  rw[St.eq (List.pairwise_cons.1 hs).2 (List.pairwise_cons.1 hs').2 h']
theorem Sorted.app {a b:List α} (ha:Sorted key a) (hb:Sorted key b) (h: ∀x,x∈a→ ∀y,y∈b→lt key y x=false):Sorted key (a++b):=
 List.pairwise_append.2 ⟨ha,hb,h⟩
theorem Sorted.left {a b:List α} (h:Sorted key (a++b)):Sorted key a:=(List.pairwise_append.1 h).1
theorem Sorted.right {a b:List α} (h:Sorted key (a++b)):Sorted key b:=(List.pairwise_append.1 h).2.1
theorem Sorted.cross {a b:List α} (h:Sorted key (a++b)): ∀x,x∈a→ ∀y,y∈b→lt key y x=false:=(List.pairwise_append.1 h).2.2
theorem aeK_ {a b:List α} {x:α} (h:Sorted key (a++b)) (hb: ∀y,y∈b→lt key x y=true) (ha: ∀y,y∈a→lt key x y=false):Sorted key (a++x::b)∧St key (a++b++ [x]) (a++x::b):=by
 refine⟨Sorted.app h.left (List.pairwise_cons.2 ⟨fun y hy=>V2_ (hb y hy),h.right⟩) ?_, ?_⟩
 ·intro y hy z hz
  rcases List.mem_cons.1 hz with rfl|hz
  ·exact ha y hy
  ·exact h.cross y hy z hz
 ·rw[List.append_assoc]
  refine St.app (St.refl key a) ?_
  exact St.swap (a:=b) (b:= [x]) fun y hy z hz=>by
   rw[List.mem_singleton] at hz
   subst hz
   exact fun e=>anj_ (hb y hy) e.symm
end Go.StP
namespace Go.Sx
open Go
section
variable {α:Type} (enc:α→List Value)
def rowO (E:TypeId) (rest:List Value) (d:List α):Obj:= .cells ((d.map enc).flatten++rest).toArray E (0,0)
variable {enc} {m:Nat} {E:TypeId} {rest:List Value} {d:List α} {z:α}
theorem Wg_ (hm: ∀x,(enc x).length=m) {k:Nat} (hk:k<d.length): ∃A C,(d.map enc).flatten++rest=A++ (enc (d.getD k z)++C)∧A.length=k*m∧ ∀x,((d.set k x).map enc).flatten++rest=A++ (enc x++C):=by
 refine⟨((d.take k).map enc).flatten,((d.drop (k+1)).map enc).flatten++rest, ?_, ?_,fun x=> ?_⟩
 ·have e:d=d.take k++d.getD k z::d.drop (k+1):=by
   rw[List.getD_eq_getElem?_getD,List.getElem?_eq_getElem hk,Option.getD_some,List.getElem_cons_drop,List.take_append_drop]
  have e2:=congrArg (fun l=>(l.map enc).flatten++rest) e
  simp only[List.map_append,List.map_cons,List.flatten_append,List.flatten_cons,List.append_assoc] at e2
  exact e2
 ·rw[VG_ hm,List.length_take,Nat.min_eq_left (Nat.le_of_lt hk)]
 ·have e:d.set k x=d.take k++x::d.drop (k+1):=List.set_eq_take_append_cons_drop.trans (by rw[if_pos hk])
  rw[e]
  simp only[List.map_append,List.map_cons,List.flatten_append,List.flatten_cons,List.append_assoc]
theorem adG_ (hm: ∀x,(enc x).length=m) (k:Nat) (hk:k<d.length):zr_ (some (true,m)) (some (rowO enc E rest d)) (k*m)=some (.agg (enc (d.getD k z)).toArray):=by
 obtain⟨A,C,e,hA,-⟩:=Wg_ (z:=z) (rest:=rest) hm hk
 unfold rowO
 rw[e]
 exact wx_ A _ C E (0,0) hA (hm _)
theorem WF_ (hm: ∀x,(enc x).length=m) (h1: ∀x,(enc x).all Value.oneCell'=true) (k:Nat) (x:α) (a:Bool) (hk:k<d.length):
  zp_ (some (a,m)) (some (rowO enc E rest d)) (k*m) (.agg (enc x).toArray)=some (rowO enc E rest (d.set k x)):=by
 obtain⟨A,C,e,hA,e2⟩:=Wg_ (z:=x) (rest:=rest) hm hk
 unfold rowO
 rw[e,e2 x]
 exact z6_ A _ _ C a _ E hA (hm _) (ze_ _) (hm _) (h1 _)
end
section
variable {P:Program} {w0:World} {f:Fr} {L:zd_} {N:Fr→zd_→Prop} {ops:Array Oper} {rest:List Oper} {md:Md} {d:Option Tmp} {ty:TypeId} {ps:String} {af:Array Edge} {g:Option (Nat×Bool)}
theorem Ow.callFn2 {x y y2:Operand} {ts:Array TypeId} {k:FuncId} {v a a2:Value} (hs:zl_ ops f ⟨d, .call ⟨.value x, #[y,y2],ts⟩,ty,ps,af,g⟩=false) (hx:ev f x= .func (.func k) #[] #[]) (hy:ev f y=a) (hy2:ev f y2=a2)
  (hk: ∀a w,(callFunc k a).run P w= .ok (.enter k a) w) (hc: ∀w,Hp w0 L w→Rets P k #[a,a2] w (fun v' D=>v'=v∧D= [])) (hn:Ow P w0 ops md.next rest (qz_ f d v) L N):
  Ow P w0 ops md (⟨d, .call ⟨.value x, #[y,y2],ts⟩,ty,ps,af,g⟩::rest) f L N:=
 Ow.callV hs hx hk (fun w hw=>by simpa [hy,hy2] using hc w hw) hn
end
end Go.Sx
namespace Go.StP
open Go Go.Sx
variable {α:Type} {key:α→List UInt8} {z:α}
theorem jO_ {a b:List α} {k:Nat} (h:k<a.length): (a++b).getD k z=a.getD k z:=by
 rw[List.getD_eq_getElem?_getD,List.getD_eq_getElem?_getD,List.getElem?_append_left h]
theorem qG_ {a b:List α} {k:Nat} (h:a.length≤k): (a++b).getD k z=b.getD (k - a.length) z:=by
 rw[List.getD_eq_getElem?_getD,List.getD_eq_getElem?_getD,List.getElem?_append_right h]
theorem VO_ {l:List α} {k:Nat} (h:k<l.length):l.getD k z∈l:=by
 rw[List.getD_eq_getElem?_getD,List.getElem?_eq_getElem h];exact List.getElem_mem h
theorem wr_ {l:List α} {x:α} (h:x∈l): ∃k,k<l.length∧l.getD k z=x:=by
 obtain⟨k,hk,rfl⟩:=List.mem_iff_getElem.1 h
 exact⟨k,hk,by rw[List.getD_eq_getElem?_getD,List.getElem?_eq_getElem hk];rfl⟩
theorem Zv_ {l:List α} {k n:Nat} (h:k<n): (l.take n).getD k z=l.getD k z:=by
 rw[List.getD_eq_getElem?_getD,List.getD_eq_getElem?_getD,List.getElem?_take,if_pos h]
theorem ZW_ {l:List α} {k n:Nat}: (l.drop n).getD k z=l.getD (n+k) z:=by
 rw[List.getD_eq_getElem?_getD,List.getD_eq_getElem?_getD,List.getElem?_drop]
theorem drop_cons {l:List α} {k:Nat} (h:k<l.length):l.drop k=l.getD k z::l.drop (k+1):=by
 rw[List.getD_eq_getElem?_getD,List.getElem?_eq_getElem h]
 exact List.drop_eq_getElem_cons h
theorem take_snoc {l:List α} {k:Nat} (h:k<l.length):l.take (k+1)=l.take k++ [l.getD k z]:=by
 rw[List.getD_eq_getElem?_getD,List.getElem?_eq_getElem h]
 exact List.take_succ_eq_append_getElem h
theorem Sorted.at_ {l:List α} (h:Sorted key l) {i j:Nat} (hij:i≤j) (hj:j<l.length):lt key (l.getD j z) (l.getD i z)=false:=by
 rcases Nat.lt_or_eq_of_le hij with h1|rfl
 ·have:=List.pairwise_iff_getElem.1 h i j (by omega) hj h1
  rw[List.getD_eq_getElem?_getD,List.getD_eq_getElem?_getD,List.getElem?_eq_getElem hj,List.getElem?_eq_getElem (show i<l.length by omega)]
  exact this
 ·exact lt_irrefl _
theorem Sorted.take_lt {l:List α} (h:Sorted key l) {k:Nat} {x:α} (hk:k≤l.length) (hx:k=0∨lt key (l.getD (k - 1) z) x=true): ∀y,y∈l.take k→lt key y x=true:=by
 intro y hy
 obtain⟨i,hi,rfl⟩:=wr_ (z:=z) hy
 rw[List.length_take,Nat.min_eq_left hk] at hi
 rw[Zv_ hi]
 rcases hx with rfl|hx
 ·omega
 ·exact XM_ (h.at_ (by omega) (by omega)) hx
theorem Sorted.take_le {l:List α} (h:Sorted key l) {k:Nat} {x:α} (hk:k≤l.length) (hx:k=0∨lt key x (l.getD (k - 1) z)=false): ∀y,y∈l.take k→lt key x y=false:=by
 intro y hy
 obtain⟨i,hi,rfl⟩:=wr_ (z:=z) hy
 rw[List.length_take,Nat.min_eq_left hk] at hi
 rw[Zv_ hi]
 rcases hx with rfl|hx
 ·omega
 ·exact Zy_ (h.at_ (by omega) (by omega)) hx
theorem Sorted.drop_gt {l:List α} (h:Sorted key l) {k:Nat} {x:α} (hx:l.length≤k∨lt key x (l.getD k z)=true): ∀y,y∈l.drop k→lt key x y=true:=by
 intro y hy
 obtain⟨i,hi,rfl⟩:=wr_ (z:=z) hy
 rw[List.length_drop] at hi
 rw[ZW_]
 rcases hx with hx|hx
 ·omega
 ·exact wF_ hx (h.at_ (by omega) (by omega))
theorem Sorted.drop_ge {l:List α} (h:Sorted key l) {k:Nat} {x:α} (hx:l.length≤k∨lt key (l.getD k z) x=false): ∀y,y∈l.drop k→lt key y x=false:=by
 intro y hy
 obtain⟨i,hi,rfl⟩:=wr_ (z:=z) hy
 rw[List.length_drop] at hi
 rw[ZW_]
 rcases hx with hx|hx
 ·omega
 ·exact Zy_ hx (h.at_ (by omega) (by omega))
theorem ahm_ {a c:List α} (u v:α) {i:Nat} (h:i=a.length): ((a++u::v::c).set i v).set (i+1) u=a++v::u::c:=by
 subst h
 rw[List.set_append_right _ _ (Nat.le_refl _),Nat.sub_self,List.set_cons_zero,List.set_append_right _ _ (by omega),show a.length+1 - a.length=1 by omega]
 rfl
theorem at_0 {a c:List α} (u:α) {i:Nat} (h:i=a.length): (a++u::c).getD i z=u:=by
 subst h
 rw[qG_ (Nat.le_refl _),Nat.sub_self];rfl
theorem at_1 {a c:List α} (u v:α) {i:Nat} (h:i=a.length+1): (a++u::v::c).getD i z=v:=by
 subst h
 rw[qG_ (by omega),show a.length+1 - a.length=1 by omega];rfl
def qX_ (a s:List α) (x:α) (b:List α) (k:Nat):List α:=a++ (s.take k++ (x:: (s.drop k++b)))
theorem vT_ (a s:List α) (x:α) (b:List α) (k:Nat): (qX_ a s x b k).length=a.length+s.length+1+b.length:=by
 unfold qX_;simp only[List.length_append,List.length_cons,List.length_take,List.length_drop];omega
theorem Z4_ {a s:List α} {x:α} {b:List α} {k i:Nat} (hk:k≤s.length) (h:i=a.length+k): (qX_ a s x b k).getD i z=x:=by
 unfold qX_
 rw[←List.append_assoc]
 exact at_0 x (by simp only[List.length_append,List.length_take];omega)
theorem abe_ {a s:List α} {x:α} {b:List α} {k i:Nat} (hk:k<s.length) (h:i=a.length+k): (qX_ a s x b (k+1)).getD i z=s.getD k z:=by
 unfold qX_
 rw[take_snoc (z:=z) hk,List.append_assoc,List.singleton_append,←List.append_assoc]
 exact at_0 _ (by simp only[List.length_append,List.length_take];omega)
theorem am6_ {a s:List α} {x:α} {b:List α} {k i:Nat} (hk:k<s.length) (h:i=a.length+k+1): (qX_ a s x b k).getD i z=s.getD k z:=by
 unfold qX_
 rw[drop_cons (z:=z) hk,←List.append_assoc,List.cons_append]
 exact at_1 x _ (by simp only[List.length_append,List.length_take];omega)
theorem akT_ {a s:List α} {x:α} {b:List α} {k h i:Nat} (hh:h<k) (hk:k≤s.length) (e:i=a.length+h): (qX_ a s x b k).getD i z=s.getD h z:=by
 subst e
 unfold qX_
 rw[qG_ (by omega),Nat.add_sub_cancel_left,jO_ (by rw[List.length_take];omega),Zv_ hh]
theorem aj7_ {a s:List α} {x:α} {b:List α} {k h i:Nat} (hh:k≤h) (hk:h<s.length) (e:i=a.length+1+h): (qX_ a s x b k).getD i z=s.getD h z:=by
 subst e
 unfold qX_
 rw[qG_ (by omega),qG_ (by rw[List.length_take];omega),List.length_take,show a.length+1+h - a.length - min k s.length=(h - k)+1 by omega,List.getD_cons_succ,jO_ (by rw[List.length_drop];omega),ZW_,show k+ (h - k)=h by omega]
theorem KN_ {a s:List α} {x:α} {b:List α} {k i:Nat} (hk:k<s.length) (h:i=a.length+k): ((qX_ a s x b (k+1)).set i x).set (i+1) (s.getD k z)=qX_ a s x b k:=by
 unfold qX_
 rw[take_snoc (z:=z) hk,drop_cons (z:=z) hk,List.append_assoc,List.singleton_append,←List.append_assoc,←List.append_assoc]
 rw[ahm_ _ _ (by simp only[List.length_append,List.length_take];omega),List.cons_append]
theorem alw_ {a s:List α} {x:α} {b:List α} {k i:Nat} (hk:k<s.length) (h:i=a.length+k): ((qX_ a s x b k).set i (s.getD k z)).set (i+1) x=qX_ a s x b (k+1):=by
 unfold qX_
 rw[take_snoc (z:=z) hk,drop_cons (z:=z) hk,List.append_assoc,List.singleton_append,←List.append_assoc,←List.append_assoc,List.cons_append]
 rw[ahm_ _ _ (by simp only[List.length_append,List.length_take];omega)]
theorem Wk_ {l:List α} {i j:Nat} (h:i≠j) (u v:α): (l.set i u).set j v=(l.set j v).set i u:=List.set_comm _ _ h
theorem Wo_ (a s:List α) (x:α) (b:List α) {k:Nat} (h:s.length≤k):qX_ a s x b k=a++ ((s++ [x])++b):=by
 unfold qX_
 rw[List.take_of_length_le h,List.drop_eq_nil_of_le h,List.nil_append,List.append_assoc,List.singleton_append]
theorem afH_ (a s:List α) (x:α) (b:List α):qX_ a s x b 0=a++ (([x]++s)++b):=by
 unfold qX_;rfl
theorem Zi_ (a s:List α) (x:α) (b:List α) (k:Nat):qX_ a s x b k=a++ ((s.take k++x::s.drop k)++b):=by
 unfold qX_
 rw[List.append_assoc,List.cons_append]
theorem vM_ {s:List α} {x:α} {k:Nat} (hs:Sorted key s) (hk:k≤s.length) (h1:k=0∨lt key x (s.getD (k - 1) z)=false) (h2:s.length≤k∨lt key x (s.getD k z)=true):
  Sorted key (s.take k++x::s.drop k)∧St key (s++ [x]) (s.take k++x::s.drop k):=by
 have:=aeK_ (a:=s.take k) (b:=s.drop k) (x:=x) (by rw[List.take_append_drop];exact hs) (hs.drop_gt h2) (hs.take_le hk h1)
 rwa [List.take_append_drop] at this
theorem Vg_ {s:List α} {x:α} {k:Nat} (hs:Sorted key s) (hk:k≤s.length) (h1:k=0∨lt key (s.getD (k - 1) z) x=true) (h2:s.length≤k∨lt key (s.getD k z) x=false):
  Sorted key (s.take k++x::s.drop k)∧St key ([x]++s) (s.take k++x::s.drop k):=by
 have ht:=hs.take_lt hk h1
 have hd:=hs.drop_ge h2
 have hs':Sorted key (s.take k++s.drop k):=by rw[List.take_append_drop];exact hs
 refine⟨Sorted.app hs'.left (List.pairwise_cons.2 ⟨fun y hy=>hd y hy,hs'.right⟩) ?_, ?_⟩
 ·intro y hy w hw
  rcases List.mem_cons.1 hw with rfl|hw
  ·exact V2_ (ht y hy)
  ·exact hs'.cross y hy w hw
 ·have e: [x]++s=([x]++s.take k)++s.drop k:=by rw[List.append_assoc,List.take_append_drop]
  rw[e,show s.take k++x::s.drop k=(s.take k++ [x])++s.drop k by simp]
  refine St.app (St.swap fun y hy w hw=> ?_) (St.refl key _)
  rw[List.mem_singleton] at hy
  subst hy
  exact fun e=>anj_ (ht w hw) e.symm
theorem aih_ {l r:List α} {i j:Nat} {x1 x2:List α} (hl:Sorted key l) (hr:Sorted key r) (hi:i≤l.length) (hj:j≤r.length)
  (h1:j=0∨l.length≤i∨lt key (r.getD (j - 1) z) (l.getD i z)=true) (h2:i=0∨r.length≤j∨lt key (r.getD j z) (l.getD (i - 1) z)=false)
  (s1:Sorted key x1) (t1:St key (l.take i++r.take j) x1) (s2:Sorted key x2) (t2:St key (l.drop i++r.drop j) x2):Sorted key (x1++x2)∧St key (l++r) (x1++x2):=by
 have hl':Sorted key (l.take i++l.drop i):=by rw[List.take_append_drop];exact hl
 have hr':Sorted key (r.take j++r.drop j):=by rw[List.take_append_drop];exact hr
 have ha: ∀x,x∈r.take j→ ∀y,y∈l.drop i→lt key x y=true:=by
  intro x hx y hy
  rcases h1 with rfl|h1|h1
  ·cases hx
  ·rw[List.drop_eq_nil_of_le h1] at hy;cases hy
  ·have:=hr.take_lt (k:=j) (x:=l.getD i z) hj (.inr h1) x hx
   obtain⟨k,hk,rfl⟩:=wr_ (z:=z) hy
   rw[List.length_drop] at hk
   rw[ZW_]
   exact wF_ this (hl.at_ (by omega) (by omega))
 have hb: ∀x,x∈l.take i→ ∀y,y∈r.drop j→lt key y x=false:=by
  intro x hx y hy
  rcases h2 with rfl|h2|h2
  ·cases hx
  ·rw[List.drop_eq_nil_of_le h2] at hy;cases hy
  ·have:=hr.drop_ge (k:=j) (x:=l.getD (i - 1) z) (.inr h2) y hy
   obtain⟨k,hk,rfl⟩:=wr_ (z:=z) hx
   rw[List.length_take,Nat.min_eq_left hi] at hk
   rw[Zv_ hk]
   exact Zy_ (hl.at_ (by omega) (by omega)) this
 refine⟨Sorted.app s1 s2 fun x hx y hy=> ?_, ?_⟩
 ·rw[t1.mem,List.mem_append] at hx
  rw[t2.mem,List.mem_append] at hy
  rcases hx with hx|hx<;>rcases hy with hy|hy
  ·exact hl'.cross x hx y hy
  ·exact hb x hx y hy
  ·exact V2_ (ha x hx y hy)
  ·exact hr'.cross x hx y hy
 ·have e:l++r=l.take i++ ((l.drop i++r.take j)++r.drop j):=by
   rw[List.append_assoc,List.take_append_drop,←List.append_assoc,List.take_append_drop]
  rw[e]
  refine St.trans (b:=l.take i++ ((r.take j++l.drop i)++r.drop j)) (St.app (St.refl key _) (St.app (St.swap fun x hx y hy e=>anj_ (ha y hy x hx) e.symm) (St.refl key _))) ?_
  rw[show l.take i++ ((r.take j++l.drop i)++r.drop j)=(l.take i++r.take j)++ (l.drop i++r.drop j) by simp only[List.append_assoc]]
  exact St.app t1 t2
end Go.StP
section
open Go Go.Proofs Go.Sx Go.StP
namespace Go.Proofs
set_option maxRecDepth 10000
set_option maxHeartbeats 4000000
set_option linter.unusedSimpArgs false
structure EntL where
 name:List UInt8
 kind:Int
 id:IdL
def jA_ (r:EntL):List Value:= [vs r.name]++ ([vi r.kind]++ (r.id.l.map v8))
def wT_:EntL:=⟨[],0,id0⟩
theorem xp_ (r:EntL): (jA_ r).length=34:=by simp[jA_,r.id.h]
theorem qu_ (r:EntL):Value.cells (.agg (jA_ r).toArray)=(jA_ r).toArray:=ze_ _
theorem Vj_ (r:EntL): (jA_ r).all Value.oneCell'=true:=by
 unfold jA_
 simp only[List.all_append,List.all_cons,List.all_nil,Jk_,Bool.and_true,Bool.true_and]
 rfl
theorem agO_:zK_ Tryz.prog 268=some (.agg (jA_ wT_).toArray):=id (by kernel_rfl)
theorem alJ_:z0_ Tryz.prog 268=some (true,34):=id (by kernel_rfl)
theorem Jt_ (r:EntL):jA_ r=([]:List Value)++ (([vs r.name])++ ([vi r.kind]++ (r.id.l.map v8))):=by
 unfold jA_;simp only[List.append_assoc,List.nil_append,List.append_nil]
theorem ao5_ (r:EntL):partV (false,1) (jA_ r).toArray 0=some (vs r.name):=by
 rw[Jt_];exact Q3_ _ _ _ (by simp)
theorem k6_ (r:EntL) (n:Nat) (E:TypeId) (fz:Nat×Nat):zr_ (some (false,n)) (some (.cells (jA_ r).toArray E fz)) 0=some (vs r.name):=by
 rw[Jt_];exact xW_ _ _ _ n E fz (by simp)
theorem aef_ {w:World} {v:Value} {l:List EntL} {b off:Nat} {arr:Array Value} {E:TypeId} {fz:Nat×Nat} (h:RowS 34 jA_ wT_ w v l b off arr E fz) {k:Nat} (hk:k<l.length) (n:Nat):zr_ (some (false,n)) (some (.cells arr E fz)) (off+k*34+0)=some (vs (l.getD k wT_).name):=by
 rw[RowS.cell h hk (by omega)];generalize l.getD k wT_=r;rw[Jt_];exact VE_ _ _ _ (by simp)
theorem KD_ (r:EntL) (x:List UInt8) (a:Bool) (E:TypeId):zp_ (some (a,1)) (some (.cells (jA_ r).toArray E (0,0))) 0 (vs x)=some (.cells (jA_ {r with name:=x}).toArray E (0,0)):=by
 rw[Jt_ r,Jt_ {r with name:=x}];exact z6_ _ _ _ _ a _ E (by simp) rfl (rfl) rfl (rfl)
theorem Vu_ (r:EntL):jA_ r=(([vs r.name]))++ (([vi r.kind])++ (r.id.l.map v8)):=by
 unfold jA_;simp only[List.append_assoc,List.nil_append,List.append_nil]
theorem an1_ (r:EntL):partV (false,1) (jA_ r).toArray 1=some (vi r.kind):=by
 rw[Vu_];exact Q3_ _ _ _ (by simp)
theorem v6_ (r:EntL) (n:Nat) (E:TypeId) (fz:Nat×Nat):zr_ (some (false,n)) (some (.cells (jA_ r).toArray E fz)) 1=some (vi r.kind):=by
 rw[Vu_];exact xW_ _ _ _ n E fz (by simp)
theorem Ks_ (r:EntL) (x:Int) (a:Bool) (E:TypeId):zp_ (some (a,1)) (some (.cells (jA_ r).toArray E (0,0))) 1 (vi x)=some (.cells (jA_ {r with kind:=x}).toArray E (0,0)):=by
 rw[Vu_ r,Vu_ {r with kind:=x}];exact z6_ _ _ _ _ a _ E (by simp) rfl (rfl) rfl (rfl)
theorem K4_ (r:EntL):jA_ r=(([vs r.name])++ ([vi r.kind]))++ ((r.id.l.map v8)++ (([]:List Value))):=by
 unfold jA_;simp only[List.append_assoc,List.nil_append,List.append_nil]
theorem aog_ (r:EntL):partV (true,32) (jA_ r).toArray 2=some (Value.agg (a8 r.id.l)):=by
 rw[K4_,ad1_ _ _ _ (by simp) (by simp[r.id.h])];rfl
theorem v0_ (r:EntL) (E:TypeId) (fz:Nat×Nat):zr_ (some (true,32)) (some (.cells (jA_ r).toArray E fz)) 2=some (Value.agg (a8 r.id.l)):=by
 rw[K4_,wx_ _ _ _ E fz (by simp) (by simp[r.id.h])];rfl
theorem KA_ (r:EntL) (x:IdL) (a:Bool) (E:TypeId):zp_ (some (a,32)) (some (.cells (jA_ r).toArray E (0,0))) 2 (Value.agg (a8 x.l))=some (.cells (jA_ {r with id:=x}).toArray E (0,0)):=by
 rw[K4_ r,K4_ {r with id:=x}];exact z6_ _ _ _ _ a _ E (by simp) (by simp[r.id.h]) (ze_ _) (by simp[x.h]) (Jk_ _)
theorem jp_ (r:EntL) (E:TypeId) (fz:Nat×Nat):zr_ (some (true,34)) (some (.cells (jA_ r).toArray E fz)) 0=some (.agg (jA_ r).toArray):=vl_ _ E fz 34 (by rw[List.size_toArray,xp_])
theorem aiI_ (old:Array Value) (r:EntL) (a:Bool) (E:TypeId) (h:old.size=34):zp_ (some (a,34)) (some (.cells old E (0,0))) 0 (.agg (jA_ r).toArray)=some (.cells (jA_ r).toArray E (0,0)):=vk_ _ a old E (xp_ r) (Vj_ r) h
theorem qj_ (r r':EntL) (a:Bool) (E:TypeId):zp_ (some (a,34)) (some (.cells (jA_ r').toArray E (0,0))) 0 (.agg (jA_ r).toArray)=some (.cells (jA_ r).toArray E (0,0)):=aiI_ _ r a E (by rw[List.size_toArray,xp_])
theorem ant_ {w:World} {v:Value} {l:List EntL} {b off:Nat} {arr:Array Value} {E:TypeId} {fz:Nat×Nat} (h:RowS 34 jA_ wT_ w v l b off arr E fz) {k:Nat} (hk:k<l.length):zr_ (some (true,34)) (some (.cells arr E fz)) (off+k*34)=some (.agg (jA_ (l.getD k wT_)).toArray):=RowS.load h xp_ (by omega) hk
theorem ak4_:Tryz.prog.stoodInHeld 268=false:=by kernel_rfl
theorem ajj_:Tryz.prog.eqGuardType Tryz.prog.depth 268=false:=by kernel_rfl
theorem aoC_ (r r':EntL):eqD Tryz.prog 8 268 (.agg (jA_ r).toArray) (.agg (jA_ r').toArray)=some ((r.name==r'.name)&& (r.kind==r'.kind)&& (r.id.l==r'.id.l)):=by
 have hs: ∀ (a b:List UInt8),eqD Tryz.prog 7 9 (vs a) (vs b)=some (a==b):=by
  intro a b;unfold eqD;rw[Tryz.underlying9];simp only[vs,adF_]
 have hi: ∀ (a b:Int),eqD Tryz.prog 7 3 (vi a) (vi b)=some (a==b):=by
  intro a b;unfold eqD;rw[Tryz.underlying3];rfl
 have hd: ∀ (a b:IdL),eqD Tryz.prog 7 37 (.agg (a8 a.l)) (.agg (a8 b.l))=some (a.l==b.l):=fun a b=>aeo_ (d:=5) Tryz.underlying37 Tryz.underlying5 Tryz.ag5 _ _ a.h b.h
 have ags:z0_ Tryz.prog 9=some (false,1):=id (by kernel_rfl)
 have agi:z0_ Tryz.prog 3=some (false,1):=id (by kernel_rfl)
 have agd:z0_ Tryz.prog 37=some (true,32):=id (by kernel_rfl)
 unfold eqD
 rw[Tryz.underlying268]
 simp only
 rw[ak4_]
 simp only[Bool.false_eq_true, ↓reduceIte,xv_,kl_,ags,agi,agd,ao5_,an1_,aog_,hs,hi,hd]
 cases(r.name==r'.name)<;>cases(r.kind==r'.kind)<;>cases(r.id.l==r'.id.l)<;>simp
theorem apx_ (r r':EntL):qJ_ Tryz.prog .neq 268 (.agg (jA_ r).toArray) (.agg (jA_ r').toArray)=some (.bool (!((r.name==r'.name)&& (r.kind==r'.kind)&& (r.id.l==r'.id.l)))):=by
 unfold qJ_ eqX;rw[ajj_];simp[qw_,aoC_]
def cmpS (a b:List UInt8):Int:=if ltB a b then -1 else if ltB b a then 1 else 0
set_option linter.defProp false
def arE_:=And.intro (@k6_) (@qu_)
def cmpE (a b:EntL):Int:=cmpS a.name b.name
end Go.Proofs
end
section
open Go Go.Proofs Go.Sx Go.StP
namespace Go.Proofs
set_option maxRecDepth 10000
set_option maxHeartbeats 4000000
set_option linter.unusedSimpArgs false
def swp {α:Type} (a x m y c:List α) (i:Nat):List α:=a++ ((y.take i++x.drop i)++ (m++ ((x.take i++y.drop i)++c)))
section
variable {α:Type} {a x m y c:List α} {i k:Nat} {z:α}
theorem and_ (hx:x.length=k) (hy:y.length=k) (hi:i≤k): (swp a x m y c i).length=a.length+k+m.length+k+c.length:=by
 unfold swp;simp only[List.length_append,List.length_take,List.length_drop];omega
theorem ap3_ (hx:x.length=k) (hy:y.length=k) (hi:i<k) {n:Nat} (hn:n=a.length+i): (swp a x m y c i).getD n z=x.getD i z:=by
 subst hn
 unfold swp
 rw[drop_cons (z:=z) (l:=x) (by omega),List.append_assoc,List.cons_append,←List.append_assoc]
 exact at_0 _ (by simp only[List.length_append,List.length_take];omega)
theorem ap8_ (hx:x.length=k) (hy:y.length=k) (hi:i<k) {n:Nat} (hn:n=a.length+k+m.length+i): (swp a x m y c i).getD n z=y.getD i z:=by
 subst hn
 unfold swp
 rw[drop_cons (z:=z) (l:=y) (by omega),List.append_assoc (x.take i),List.cons_append,←List.append_assoc,←List.append_assoc,←List.append_assoc]
 exact at_0 _ (by simp only[List.length_append,List.length_take,List.length_drop];omega)
theorem alG_ {l r:List α} (u v:α) {n:Nat} (h:n=l.length): (l++u::r).set n v=l++v::r:=by
 subst h
 rw[List.set_append_right _ _ (Nat.le_refl _),Nat.sub_self,List.set_cons_zero]
theorem akD_ (hx:x.length=k) (hy:y.length=k) (hi:i<k) {n n':Nat} (hn:n=a.length+i) (hn':n'=a.length+k+m.length+i):
  ((swp a x m y c i).set n (y.getD i z)).set n' (x.getD i z)=swp a x m y c (i+1):=by
 subst hn hn'
 have e:swp a x m y c i=(a++y.take i)++ (x.getD i z:: (x.drop (i+1)++ (m++ (x.take i++ (y.getD i z:: (y.drop (i+1)++c)))))):=by
  unfold swp
  rw[drop_cons (z:=z) (l:=y) (by omega),drop_cons (z:=z) (l:=x) (by omega)]
  simp only[List.append_assoc,List.cons_append]
 have e':swp a x m y c (i+1)=(a++y.take i)++ (y.getD i z:: (x.drop (i+1)++ (m++ (x.take i++ (x.getD i z:: (y.drop (i+1)++c)))))):=by
  unfold swp
  rw[take_snoc (z:=z) (l:=y) (by omega),take_snoc (z:=z) (l:=x) (by omega)]
  simp only[List.append_assoc,List.cons_append,List.nil_append]
 rw[e,e',alG_ _ _ (by simp only[List.length_append,List.length_take];omega)]
 have e2: ∀u v:α,(a++y.take i)++ (u:: (x.drop (i+1)++ (m++ (x.take i++ (v:: (y.drop (i+1)++c))))))=((a++y.take i)++ (u:: (x.drop (i+1)++ (m++x.take i))))++ (v:: (y.drop (i+1)++c)):=fun u v=>by
  simp only[List.append_assoc,List.cons_append]
 rw[e2,e2,alG_ _ _ (by simp only[List.length_append,List.length_take,List.length_cons,List.length_drop];omega)]
end
abbrev entO (rest:List Value) (d:List EntL):Obj:=rowO jA_ 268 rest d
theorem kZ_ {rest:List Value} {d:List EntL} (k:Nat) (hk:k<d.length):zr_ (some (true,34)) (some (entO rest d)) (k*34)=some (.agg (jA_ (d.getD k wT_)).toArray):=adG_ (z:=wT_) xp_ k hk
theorem xZ_ {rest:List Value} {d:List EntL} (k:Nat) (x:EntL) (a:Bool) (hk:k<d.length):zp_ (some (a,34)) (some (entO rest d)) (k*34) (.agg (jA_ x).toArray)=some (entO rest (d.set k x)):=WF_ xp_ Vj_ k x a hk
set_option linter.defProp false
def art_:=And.intro (And.intro (@kZ_) (@xZ_)) (And.intro (@jp_) (And.intro (@qj_) (@qu_)))
structure RotG where
 A:List EntL
 U:List EntL
 V:List EntL
 B:List EntL
theorem agz_ {α:Type} (l:List α) {k:Nat} (h:k≤l.length): ∃a b,l=a++b∧a.length=k:=⟨l.take k,l.drop k,(List.take_append_drop k l).symm,by rw[List.length_take];omega⟩
end Go.Proofs
end
section
open Go Go.Proofs Go.Sx Go.StP
namespace Go.Proofs
set_option maxRecDepth 10000
set_option maxHeartbeats 4000000
set_option linter.unusedSimpArgs false
abbrev ltE (a b:EntL):Bool:=StP.lt EntL.name a b
abbrev Vz_ (l:List EntL):Prop:=StP.Sorted EntL.name l
abbrev StE (l l':List EntL):Prop:=StP.St EntL.name l l'
theorem ab5_ (a b:EntL):decide (cmpE a b<0)=ltE a b:=by
 unfold cmpE cmpS ltE StP.lt
 cases h:ltB a.name b.name
 ·rw[if_neg (by simp)]
  split<;>rfl
 ·rw[if_pos rfl];rfl
structure InsG where
 S:List EntL
 R:List EntL
set_option linter.defProp false
def aq9_:=And.intro (And.intro (@kZ_) (And.intro (@xZ_) (@jp_))) (And.intro (@qj_) (And.intro (@qu_) (@ab5_)))
end Go.Proofs
end
section
open Go Go.Proofs Go.Sx Go.StP
namespace Go.Proofs
set_option maxRecDepth 10000
set_option maxHeartbeats 4000000
set_option linter.unusedSimpArgs false
theorem V9_ (p q:Nat) (h:p+q<4611686018427387904):IntKind.wrap .i64 ((jT_ (UInt64.ofInt ((p:Int)+ (q:Int))) 1).toNat:Int)=(((p+q) / 2:Nat):Int):=by
 have e: (UInt64.ofInt ((p:Int)+ (q:Int))).toNat=p+q:=by
  have h2:UInt64.ofInt ((p:Int)+ (q:Int))=UInt64.ofNat (((p:Int)+ (q:Int))%2^64).toNat:=rfl
  rw[h2,UInt64.toNat_ofNat']
  omega
 have e2: (jT_ (UInt64.ofInt ((p:Int)+ (q:Int))) 1).toNat=(p+q) / 2:=by
  unfold jT_
  rw[e,UInt64.toNat_ofNat',Nat.pow_one]
  omega
 rw[e2,jv_ _ (by omega)]
structure BsG where
 i:Nat
 j:Nat
def aqF_ (rb:Nat) (A X Y B:List EntL) (rest:List Value) (v:Value) (D:zd_):Prop:=
 ∃o,D= [(rb,o)]∧v= .tuple #[]∧ ∃Z,o=entO rest (A++ (Z++B))∧Z.length=X.length+Y.length∧Vz_ Z∧StE (X++Y) Z
set_option linter.defProp false
def are_:=And.intro (And.intro (@kZ_) (And.intro (@xZ_) (@jp_))) (And.intro (And.intro (@qj_) (@qu_)) (And.intro (@ab5_) (@V9_)))
end Go.Proofs
end
section
open Go Go.Proofs Go.Sx Go.StP
namespace Go.Proofs
set_option maxRecDepth 10000
set_option maxHeartbeats 4000000
set_option linter.unusedSimpArgs false
set_option linter.defProp false
def aqT_:=And.intro (And.intro (@kZ_) (And.intro (@xZ_) (@jp_))) (And.intro (And.intro (@qj_) (@qu_)) (And.intro (@ab5_) (@V9_)))
end Go.Proofs
end
section
open Go Go.Proofs Go.Sx Go.StP
namespace Go.Proofs
set_option maxRecDepth 10000
set_option maxHeartbeats 4000000
set_option linter.unusedSimpArgs false
def Blks (k:Nat) (ls:List (List EntL)):Prop:= ∀x,x∈ls→x.length=k∧Vz_ x
theorem Blks.snoc {k:Nat} {ls:List (List EntL)} {x:List EntL} (h:Blks k ls) (hx:x.length=k) (hs:Vz_ x):Blks k (ls++ [x]):=by
 intro y hy
 rcases List.mem_append.1 hy with hy|hy
 ·exact h y hy
 ·rw[List.mem_singleton] at hy;subst hy;exact⟨hx,hs⟩
structure StG where
 k:Nat
 ls:List (List EntL)
 r:List EntL
structure StH where
 l2:List (List EntL)
 ls:List (List EntL)
end Go.Proofs
end
namespace Go.Sx
open Go
def JM_ (r:Option Nat):Fence:={Fence.wide with round:=r}
def Jc_:Op→Bool
 | .defer _=>false
 |_=>true
section
variable {P:Program} {w0:World} {f:Fr} {L:zd_} {K:xF_} {N:Fr→zd_→Prop} {ops:Array Oper} {rest:List Oper} {r:Option Nat} {n:Nat}
theorem acS_ {k:FuncId} {args:Array Value} {w:World} {R:Ending→World→Prop} (h:Calls P k args w R):CallsIn (JM_ r) n P k args w R:=
 (callsIn_wide.2 h:CallsIn Fence.wide n P k args w R)
theorem afE_ {row:String} {args:Array Value} {w:World} {R:Value→World→Prop} (h:Rows P row args w R):RowsIn (JM_ r) n P row args w R:=
 (fun c cs _=>let ⟨v,w',hr,s⟩:=h c cs;⟨v,w',hr,stepsIn_wide.2 s⟩:RowsIn Fence.wide n P row args w R)
theorem amY_ {o:Oper} {a:Act} {w:World} {next:Act→World→Prop} {Q:Exit→Act→World→Prop} (hd:Jc_ o.op=true) (h:o.wp P a w next Q):o.wpIn (JM_ r) n P a w next Q:=by
 refine⟨fun _ _=>trivial, ?_⟩
 rw[Oper.semAt_eq _ _ _ (fun c e=>by rw[e] at hd;cases hd)]
 unfold Oper.wp at h
 generalize (execOp a.eval o).run P w=x at h
 match x,h with
 | .ok (.value v) _,h=>exact h
 | .ok .skip _,h=>exact h
 | .ok (.defer e) _,h=>exact h
 | .ok (.enter k args) w',h=>
  have h':Calls P k args w' _:=h
  exact⟨fun(e:false=true)=>(by cases e),acS_ h'⟩
 | .ok (.row row args) w',h=>
  have h':Rows P row args w' _:=h
  exact⟨fun(e:false=true)=>(by cases e),afE_ h'⟩
 | .halt (.panic u) _,h=>exact h
theorem adp_ {Q:Exit→Act→World→Prop} {l2:List Oper}: ∀ (l1:List Oper) (a:Act) (w:World),(l1.all fun o=>Jc_ o.op)=true→
  wpList P ops (fun e a w=>e= .normal∧wpListIn (JM_ r) n P ops Q l2 a w) l1 a w→wpListIn (JM_ r) n P ops Q (l1++l2) a w
 | [],_,_,_,h=>h.2
 |o::l1,a,w,hd,h=>by
  rw[List.cons_append]
  unfold wpList at h
  unfold wpListIn
  rw[List.all_cons,Bool.and_eq_true] at hd
  split at h
  ·rename_i hw
   rw[if_pos hw]
   rcases h with h| ⟨-,hl⟩
   ·exact amY_ hd.1 (v2_ (fun a w hx=>adp_ l1 a w hd.2 hx) (fun e a w hne hq=>hne hq.1) h)
   ·obtain⟨_,_,he,-⟩:=hl
    cases he
  ·rename_i hw
   rw[if_neg hw]
   exact⟨fun _ _=>trivial,adp_ l1 _ _ hd.2 h⟩
def OwI (r:Option Nat) (P:Program) (w0:World) (ops:Array Oper) (l:List Oper) (f:Fr) (L:zd_) (N:Fr→zd_→Prop):Prop:=
 ∀w,Hp w0 L w→wpListIn (JM_ r) 0 P ops (jC_ w0 N) l (act f) w
theorem OwI.nil (h:N f L):OwI r P w0 ops [] f L N:=fun _ hw=>⟨rfl,rfl,L,hw,by simpa [act] using h⟩
theorem OwI.pre {l1 l2:List Oper} (hd: (l1.all fun o=>Jc_ o.op)=true) (h:Ow P w0 ops .seq l1 f L (fun f' L'=>OwI r P w0 ops l2 f' L' N)):OwI r P w0 ops (l1++l2) f L N:=by
 intro w hw
 refine adp_ l1 _ _ hd ?_
 have h1:=h w hw
 have mono: ∀ (l:List Oper) (a:Act) (w:World),wpList P ops (jC_ w0 (fun f' L'=>OwI r P w0 ops l2 f' L' N)) l a w→wpList P ops (fun e a w=>e= .normal∧wpListIn (JM_ r) 0 P ops (jC_ w0 N) l2 a w) l a w:=by
  intro l
  induction l with
  |nil=>
   rintro a w ⟨-,hd',L',hp,hO⟩
   refine⟨rfl, ?_⟩
   have:=hO w hp
   rwa [←JX_ hd'] at this
  |cons o l ih=>
   intro a w h
   unfold wpList at h ⊢
   split at h
   ·rename_i hw
    rw[if_pos hw]
    rcases h with h| ⟨-,hl⟩
    ·exact .inl (v2_ ih (fun e a w hne hq=>hne hq.1) h)
    ·obtain⟨_,_,he,-⟩:=hl
     cases he
   ·rename_i hw
    rw[if_neg hw]
    exact ih _ _ h
 exact mono l1 _ _ h1
theorem Ow.mono_seq {l:List Oper} {N':Fr→zd_→Prop} (h:Ow P w0 ops .seq l f L N) (hN: ∀f L,N f L→N' f L):Ow P w0 ops .seq l f L N':=by
 intro w hw
 have h1:=h w hw
 clear h
 revert h1
 generalize act f=a
 clear hw
 induction l generalizing a w with
 |nil=>rintro⟨h1,h2,L',h3,h4⟩;exact⟨h1,h2,L',h3,hN _ _ h4⟩
 |cons o l ih=>
  intro h
  unfold wpList at h ⊢
  split at h
  ·rename_i hw
   rw[if_pos hw]
   rcases h with h| ⟨-,hl⟩
   ·exact .inl (v2_ (fun a w hx=>ih w a hx) (fun e a w hne hq=>hne hq.1) h)
   ·obtain⟨_,_,he,-⟩:=hl
    cases he
  ·rename_i hw
   rw[if_neg hw]
   exact ih _ _ h
theorem OwI.all {l:List Oper} (hd: (l.all fun o=>Jc_ o.op)=true) (h:Ow P w0 ops .seq l f L N):OwI r P w0 ops l f L N:=by
 have:=OwI.pre (r:=r) (l2:= []) (N:=N) hd (Ow.mono_seq h (fun f L hN=>OwI.nil hN))
 simpa using this
def CwR (r:Option Nat) (P:Program) (w0:World) (c:Code) (f:Fr) (L:zd_) (K:xF_):Prop:= ∀w,Hp w0 L w→c.wpIn (JM_ r) 0 P (post w0 K) (act f) w
theorem CwR.region {id:Nat} {l:List Oper} (hd: (l.all fun o=>Jc_ o.op)=true) (h:Ow P w0 l.toArray .seq l f L (K .normal)):CwR r P w0 (.region id l.toArray false) f L K:=
 fun w hw=>wpIn_mono (wpIn_region_lit (OwI.all hd h w hw)) fun _ _ _ h=>xj_ h
theorem CwR.block {id:Nat} {c:Code} (h:CwR r P w0 c f L (ky_ id K)):CwR r P w0 (.block id c) f L K:=by
 intro w hw
 refine wpIn_block (wpIn_mono (h w hw) ?_)
 rintro e a w' ⟨hd,L',hp,k⟩
 cases e with
 |exit i=>
  simp only[Exit.inBlock]
  simp only[ky_] at k
  split
  ·rename_i e;rw[if_pos e] at k;exact⟨hd,L',hp,k⟩
  ·rename_i e;rw[if_neg e] at k;exact⟨hd,L',hp,k⟩
 |_=>exact⟨hd,L',hp,k⟩
theorem Hp.put {w:World} (h:Hp w0 L w) {b:Nat} {o:Obj} (hb:b∈keys L):Hp w0 (setB L b o) (w.putObj b o):=h.set hb rfl rfl rfl rfl
theorem YieldAt.of {l:Nat} {rc:Loop} {X:zd_} {args:Array Value} {w:World} {r0:Option Nat} {S:zd_→Prop} (hX:Hp w X w) (hl:look X l=some (.loop rc)) (hr:rc.state= .ready) (hp:rc.pending=none) (hs:args.size=rc.params.size)
  (h:CwR (some l) P w rc.assign ((rc.params.zip args).foldl (fun tmps (p:Tmp×Value)=>tmps.setIfInBounds p.1 p.2) rc.tmps).toList X (fun e f1 L1=>e= .normal∧look L1 l=some (.loop rc)∧
   CwR (some l) P w rc.body f1 (setB L1 l (.loop {rc with state:= .busy})) (fun e _ L2=>e= .normal∧look L2 l=some (.loop {rc with state:= .busy})∧S (setB L2 l (.loop rc))))):
  YieldAt (JM_ r0) 0 P l args w (fun e w'=> ∃D,e= .returned (.bool true)∧Hp w D w'∧S D):=by
 obtain⟨st,pe,fn0,tm,pa,asg,bo,de⟩:=rc
 obtain rfl:st= .ready:=hr
 obtain rfl:pe=none:=hp
 have hl0:=hX.has _ _ (zJ_ hl)
 refine⟨fn0,_,asg,bo,run_yield hl0 hs,roundIn_of_wpIn (F:=JM_ r0) (n:=0) trivial ?_⟩
 have h1:=h w hX
 have ea:act ((pa.zip args).foldl (fun tmps (p:Tmp×Value)=>tmps.setIfInBounds p.1 p.2) tm).toList={tmps:=(pa.zip args).foldl (fun tmps (p:Tmp×Value)=>tmps.setIfInBounds p.1 p.2) tm,defers:= []}:=by
  simp[act]
 simp only at h1
 rw[ea] at h1
 refine wpIn_mono h1 ?_
 rintro e a1 w1 ⟨hd1,L1,hp1,rfl,hl1,hbody⟩
 have hb1:=run_beginRound (P:=P) (hp1.has _ _ (zJ_ hl1)) rfl
 refine⟨_,hb1, ?_⟩
 have h2:=hbody _ (hp1.put (o:= .loop {state:= .busy,pending:=none,fn:=fn0,tmps:=tm,params:=pa,assign:=asg,body:=bo,defers:=de}) (zw_ hl1))
 rw[←JX_ hd1] at h2
 refine wpIn_mono h2 ?_
 rintro e a2 w2 ⟨hd2,L2,hp2,rfl,hl2,hS⟩
 have he:=run_endRound (P:=P) none (hp2.has _ _ (zJ_ hl2))
 exact⟨_,_,he,_,rfl,hp2.put (zw_ hl2),hS⟩
def ap0_ (ds:List Deferred) (w0:World) (K:xF_) (e:Exit) (a:Act) (w:World):Prop:=a.defers=ds∧ ∃L,Hp w0 L w∧K e a.tmps.toList L
def CwE (ds:List Deferred) (P:Program) (w0:World) (c:Code) (f:Fr) (L:zd_) (K:xF_):Prop:= ∀w,Hp w0 L w→c.wp P (ap0_ ds w0 K) ⟨f.toArray,ds⟩ w
theorem CwE.seq {ds:List Deferred} {x y:Code} (h:CwE ds P w0 x f L (vK_ (fun f L=>CwE ds P w0 y f L K) K)):CwE ds P w0 (.seq x y) f L K:=by
 intro w hw
 refine wp_seq (wp_mono (h w hw) ?_)
 rintro e a w' ⟨hd,L',hp,k⟩
 cases e with
 |normal=>
  have:=k w' hp
  have ea:a=⟨a.tmps.toList.toArray,ds⟩:=by cases a;simp only at hd;subst hd;simp
  rw[ea]
  exact this
 |_=>exact⟨hd,L',hp,k⟩
theorem CwE.ret {ds:List Deferred} (h:K .ret f L):CwE ds P w0 .ret f L K:=fun _ hw=>wp_ret ⟨rfl,L,hw,by simpa using h⟩
def evVs (P:Program) (w0:World) (L:zd_):List Oper→Fr→Option Fr
 | [],f=>some f
 |o::r,f=>match o.guard,kO_ P w0 L f o.op with
  |none,some v=>evVs P w0 L r (qz_ f o.dst v)
  |_,_=>none
theorem Ku_ {ds:List Deferred} {Q:Exit→Act→World→Prop} {w:World} (hw:Hp w0 L w): ∀ (l:List Oper) (f f':Fr),evVs P w0 L l f=some f'→Q .normal ⟨f'.toArray,ds⟩ w→wpList P ops Q l ⟨f.toArray,ds⟩ w
 | [],f,f',h,hQ=>by cases h;exact hQ
 |o::l,f,f',h,hQ=>by
  unfold evVs at h
  split at h
  ·rename_i v hg hv
   unfold wpList
   have hwn:Region.wanted o (yielded ops (⟨f.toArray,ds⟩:Act).tmps)=true:=by unfold Region.wanted;rw[hg]
   rw[if_pos hwn]
   refine .inl ?_
   unfold Oper.wp
   have he: (⟨f.toArray,ds⟩:Act).eval=ev f:=by
    have:=jD_ f
    funext x
    exact(congrFun this x)
   rw[he,q6_ hw hv]
   have hp: (⟨f.toArray,ds⟩:Act).put o.dst v=⟨(qz_ f o.dst v).toArray,ds⟩:=by
    have:=z5_ f o.dst v
    cases hd:o.dst with
    |none=>rfl
    |some d=>simp only[Act.put,qz_,ahn_]
   show wpList P ops Q l ((⟨f.toArray,ds⟩:Act).put o.dst v) w
   rw[hp]
   exact Ku_ hw l _ f' h hQ
  ·cases h
theorem CwE.region {ds:List Deferred} {id:Nat} {l:List Oper} {f':Fr} (h:evVs P w0 L l f=some f') (hk:K .normal f' L):CwE ds P w0 (.region id l.toArray false) f L K:=
 fun w hw=>wp_region_lit (Ku_ hw l f f' h ⟨rfl,L,hw,by simpa using hk⟩)
theorem Gr.at_ {L:zd_} {E:TypeId} {m n:Nat} {v:Value} {cs:List Value} (h:Gr L E m v n cs) {b:Nat} (hb:slB v=some b): ∃a,look L b=some (.cells a E (0,0)):=by
 rcases h with h| ⟨rfl,rfl,c,rfl,hl⟩
 ·rcases h.inv with⟨rfl,-,-⟩ | ⟨c,cc,rest,rfl,hl,-⟩
  ·cases hb
  ·have:c=b:=by simpa [slB,vsl] using hb
   subst this;exact⟨_,hl⟩
 ·have:c=b:=by simpa [slB,vsl] using hb
  subst this;exact⟨_,hl⟩
theorem Gr.ne {L:zd_} {E:TypeId} {m n:Nat} {v:Value} {cs:List Value} (h:Gr L E m v n cs) {b:Nat} {o:Obj} (hl:look L b=some o) (ho: ∀a,o≠ .cells a E (0,0)):slB v≠some b:=fun e=>by
 obtain⟨a,ha⟩:=h.at_ e
 rw[hl] at ha
 exact ho a (Option.some.inj ha)
theorem Gr.setB {L:zd_} {E:TypeId} {m n:Nat} {v:Value} {cs:List Value} (h:Gr L E m v n cs) {b:Nat} (hb:slB v≠some b) (x:Obj):Gr (setB L b x) E m v n cs:=
 h.keep fun c o hc ho=>by rw[kD_ (fun e:b=c=>hb (by rw[e];exact hc))];exact ho
def recR (fn:FuncId) (f:Fr) (ps:Array Tmp) (assign body:Code) (dk:Nat) (st:LoopState):Loop:={state:=st,pending:=none,fn,tmps:=f.toArray,params:=ps,assign,body,defers:=dk}
def arZ_ (P:Program) (gf:Nat) (lb:Array Value) {α:Type} (enc:α→Value) (xs:List α) (w:World):Prop:=
 ∀ (l:Nat) (J:List α→zd_→Prop) (w1:World) (X:zd_),(∀b,b<w.heap.size→w1.heap[b]? =w.heap[b]?)→(∀b,b∈keys X→w.heap.size≤b)→w.heap.size≤w1.heap.size→Hp w1 X w1→J [] X→(∀pre X Y,J pre X→J pre (X++Y))→
  (∀pre x post X2 w2,xs=pre++x::post→Hp w2 X2 w2→(∀b,b∈keys X2→w.heap.size≤b)→J pre X2→YieldAt (JM_ none) 0 P l #[enc x] w2 (fun e w3=> ∃D,e= .returned (.bool true)∧Hp w2 D w3∧Ext w2 X2 D∧J (pre++ [x]) D))→
  Rets P gf (#[.func (.yield l) #[] #[]]++lb) w1 (XS w1 X (fun _ D=>J xs D))
end
end Go.Sx
section
open Go Go.Proofs Go.Sx Go.StP
namespace Go.Proofs
set_option maxRecDepth 10000
set_option maxHeartbeats 4000000
set_option linter.unusedSimpArgs false
abbrev EntS (w:World) (v:Value) (l:List EntL):Prop:=SlV 34 jA_ wT_ w v l
structure ValG where
 k:Nat
 X:zd_
set_option linter.defProp false
def ar4_:=And.intro (And.intro (@kZ_) (@xZ_)) (And.intro (@jp_) (And.intro (@qj_) (@qu_)))
end Go.Proofs
end
section
open Go Go.Proofs Go.Sx Go.StP
namespace Go.Proofs
set_option maxRecDepth 10000
set_option maxHeartbeats 4000000
set_option linter.unusedSimpArgs false
set_option linter.defProp false
def aqS_:=And.intro (And.intro (@kZ_) (@xZ_)) (And.intro (@jp_) (And.intro (@qj_) (@qu_)))
end Go.Proofs
end
section
open Go Go.Proofs Go.Sx Go.StP
namespace Go.Proofs
set_option maxRecDepth 10000
set_option maxHeartbeats 4000000
set_option linter.unusedSimpArgs false
def SortOf (l Z:List EntL):Prop:=Z.length=l.length∧Vz_ Z∧StE l Z
theorem SortOf.eq {l Z Z':List EntL} (h:SortOf l Z) (h':SortOf l Z'):Z=Z':=StP.St.eq h.2.1 h'.2.1 (h.2.2.symm.trans h'.2.2)
end Go.Proofs
end
section
open Go Go.Proofs Go.Sx
namespace Go.Proofs
set_option maxRecDepth 10000
set_option maxHeartbeats 4000000
set_option linter.unusedSimpArgs false
def badR (c:Int):Bool:=decide (c<33) ||decide (126<c) || (c==47)
def badB (b:UInt8):Bool:=decide (b.toNat<33) ||decide (126<b.toNat) || (b.toNat==47)
theorem eqb (a b:Bool):qJ_ Tryz.prog .eql 4 (.bool a) (.bool b)=some (.bool (a==b)):=by
 simp[qJ_,eqX,qw_,qE_,Tryz.underlying4]
theorem aoO_ (a:Value): (#[a]:Array Value)[0]? =some a:=(rfl)
set_option linter.defProp false
def z9_:=And.intro (And.intro (And.intro (@zg_) (And.intro (@wo_) (@wk_))) (And.intro (And.intro (@ww_) (@zf_)) (And.intro (@aks_) (@abY_)))) (And.intro (And.intro (And.intro (@acZ_) (@abC_)) (And.intro (@any_) (@aoO_))) (And.intro (And.intro (@Sx.tup3_0) (@Sx.tup3_1)) (And.intro (@Sx.tup3_2) (@eqb))))
theorem aal_ (c:Int) (w:World):Rets Tryz.prog 242 #[KG_ c] w (fun v D=>v= .bool (badR c)∧D= []):=by
 refine Rets.enterV Tryz.func242 rfl (rs:= [.tmp 2]) Tryz.results242 Tryz.ntmps242 ?_
 refine kf ?_
 unfold badR
 cases h1:decide (c<33)
 ·cases h2:decide (126<c)
  ·first|with_reducible refine ks [] (And.intro @z9_ (And.intro @h1 (@h2))) ?_|refine kp (And.intro @z9_ (And.intro @h1 (@h2))) ?_
   refine⟨_,(ke @z9_),trivial, ?_⟩
   simp[vE_]
  ·first|with_reducible refine ks [] (And.intro @z9_ (And.intro @h1 (@h2))) ?_|refine kp (And.intro @z9_ (And.intro @h1 (@h2))) ?_
   refine⟨_,(ke @z9_),trivial, ?_⟩
   simp[vE_]
 ·first|with_reducible refine ks [] (And.intro @z9_ @h1) ?_|refine kp (And.intro @z9_ @h1) ?_
  refine⟨_,(ke @z9_),trivial, ?_⟩
  simp[vE_]
theorem akA_ (l:List UInt8) (i:Nat) (h:i<l.length):badR ((Utf8.decode ⟨l.toArray⟩ i).1:Nat)=badB (l.getD i 0)∧(badB (l.getD i 0)=false→(Utf8.decode ⟨l.toArray⟩ i).2=1):=by
 obtain⟨h0,h1,h2⟩:=aco_ l i h
 by_cases hc: (l.getD i 0).toNat<128
 ·rw[h1 hc]
  refine⟨?_,fun _=>rfl⟩
  unfold badR badB
  congr 1
  ·congr 1
   ·apply decide_eq_decide.2;omega
   ·apply decide_eq_decide.2;omega
  ·rw[Bool.eq_iff_iff,beq_iff_eq,beq_iff_eq];omega
 ·have h2':=h2 (by omega)
  have hb:badB (l.getD i 0)=true:=by
   unfold badB
   rw[decide_eq_true (show 126< (l.getD i 0).toNat by omega)];simp
  rw[hb]
  refine⟨?_,fun h=>by cases h⟩
  unfold badR
  rw[decide_eq_true (show(126:Int)< (((Utf8.decode ⟨l.toArray⟩ i).1:Nat):Int) by omega)];simp
theorem Kb_ (s:List UInt8) (k:FuncId) (hk: ∀a w,(callFunc k a).run Tryz.prog w= .ok (.enter k a) w) (hc: ∀c w,Rets Tryz.prog k #[KG_ c] w (fun v D=>v= .bool (badR c)∧D= [])) (w:World) (hs:s.length<1099511627776):
  Rets Tryz.prog 245 #[vs s, .func (.func k) #[] #[], .bool true] w (fun v D=> ∃n:Int,v=vi n∧(0≤n↔s.any badB=true)∧D= []):=by
 refine Rets.mono (S:=fun v D=>(∃n:Int,v=vi n∧(0≤n↔s.any badB=true))∧D= []) ?_ (by rintro v D ⟨⟨n,h1,h2⟩,h3⟩;exact⟨n,h1,h2,h3⟩)
 refine Rets.enterV Tryz.func245 rfl (rs:= [.tmp 6]) Tryz.results245 Tryz.ntmps245 ?_
 refine kf ?_
 first|with_reducible refine ks [] @z9_ ?_|refine kp @z9_ ?_
 refine Ow.rangeText rfl rfl Tryz.underlying9 rfl fun b1 hb1 hw1=> ?_
 refine ko @z9_ ?_
 first|with_reducible refine ks [] @z9_ ?_|refine kp @z9_ ?_
 refine Cw.loopG (G:=Nat) [11,12,13,14,7,8,15,16,17,18,19,20,6] (fun g=> []) (fun g=> [(b1, .stringIter ⟨s.toArray⟩ g)]) (fun g=>g≤s.length∧ ∀i,i<g→badB (s.getD i 0)=false) (fun g=>s.length - g) 0 rfl rfl ?_ ?_
 ·exact⟨by omega,fun i hi=>by omega⟩
 intro g j hg
 refine kv ?_
 obtain⟨hgL,hgood⟩:=hg
 by_cases hlt:g<s.length
 ·have hbr:=akA_ s g hlt
  first|with_reducible refine ks [] @z9_ ?_|refine kp @z9_ ?_
  refine Ow.nextText rfl rfl rfl (zS_ _ _ _) hlt ?_
  rw[jW_]
  generalize hdd:Utf8.decode ⟨s.toArray⟩ g=dd at*
  obtain⟨c,n⟩:=dd
  simp only at hbr ⊢
  refine ko @z9_ ?_
  first|with_reducible refine ks [] @z9_ ?_|refine kp @z9_ ?_
  refine Ow.callFn1 (v:= .bool (badR c)) (k:=k) rfl rfl rfl hk (fun w' hw'=>hc _ w') ?_
  rw[hbr.1]
  refine ko @z9_ ?_
  cases hbb:badB (s.getD g 0)
  ·first|with_reducible refine ks [] @z9_ ?_|refine kp @z9_ ?_
   refine Again.mk (g+1) (by omega) ⟨by omega,fun i hi=> ?_⟩ ?_ rfl
   ·by_cases hig:i=g
    ·rw[hig];exact hbb
    ·exact hgood i (by omega)
   ·rw[hbr.2 hbb]
  ·first|with_reducible refine ks [] @z9_ ?_|refine kp @z9_ ?_
   refine⟨_,(ke @z9_),⟨hw1,trivial⟩, ?_⟩
   refine⟨(g:Int),rfl,⟨fun _=> ?_,fun _=>by omega⟩⟩
   rw[List.any_eq_true]
   refine⟨s.getD g 0, ?_,hbb⟩
   rw[List.getD_eq_getElem?_getD,List.getElem?_eq_getElem hlt]
   exact List.getElem_mem hlt
 ·obtain rfl:g=s.length:=by omega
  first|with_reducible refine ks [] @z9_ ?_|refine kp @z9_ ?_
  refine Ow.nextOver rfl rfl rfl (zS_ _ _ _) hlt ?_
  refine ko @z9_ ?_
  first|with_reducible refine ks [] @z9_ ?_|refine kp @z9_ ?_
  refine⟨_,(ke @z9_),⟨hw1,trivial⟩, ?_⟩
  refine⟨-1,rfl,⟨fun h=>by omega,fun h=> ?_⟩⟩
  rw[List.any_eq_true] at h
  obtain⟨x,hx,hxb⟩:=h
  obtain⟨i,hi,rfl⟩:=List.getElem_of_mem hx
  have:=hgood i hi
  rw[List.getD_eq_getElem?_getD,List.getElem?_eq_getElem hi] at this
  exact absurd hxb (by simpa using this)
theorem Xz_ (s:List UInt8) (k:FuncId) (hk: ∀a w,(callFunc k a).run Tryz.prog w= .ok (.enter k a) w) (hc: ∀c w,Rets Tryz.prog k #[KG_ c] w (fun v D=>v= .bool (badR c)∧D= [])) (w:World) (hs:s.length<1099511627776):
  Rets Tryz.prog 244 #[vs s, .func (.func k) #[] #[]] w (fun v D=> ∃n:Int,v=vi n∧(0≤n↔s.any badB=true)∧D= []):=by
 refine Rets.mono (S:=fun v D=>(∃n:Int,v=vi n∧(0≤n↔s.any badB=true))∧D= []) ?_ (by rintro v D ⟨⟨n,h1,h2⟩,h3⟩;exact⟨n,h1,h2,h3⟩)
 refine Rets.enterV Tryz.func244 rfl (rs:= [.tmp 4]) Tryz.results244 Tryz.ntmps244 ?_
 refine kf ?_
 first|with_reducible refine ks [] @z9_ ?_|refine kp @z9_ ?_
 refine Ow.callF rfl rfl Tryz.call245 (S:=fun _ v D=> ∃n:Int,v=vi n∧(0≤n↔s.any badB=true)∧D= []) (fun w' hw'=>Kb_ s k hk hc w' hs) ?_
 rintro B v D - - ⟨n,rfl,hn,rfl⟩
 refine⟨_,Mrg.nil, ?_⟩
 refine ko @z9_ ?_
 first|with_reducible refine ks [] @z9_ ?_|refine kp @z9_ ?_
 refine⟨_,(ke @z9_),trivial, ?_⟩
 exact⟨n,rfl,hn⟩
theorem Z2_ (s:List UInt8) (k:FuncId) (hk: ∀a w,(callFunc k a).run Tryz.prog w= .ok (.enter k a) w) (hc: ∀c w,Rets Tryz.prog k #[KG_ c] w (fun v D=>v= .bool (badR c)∧D= [])) (w:World) (hs:s.length<1099511627776):
  Rets Tryz.prog 241 #[vs s, .func (.func k) #[] #[]] w (fun v D=>v= .bool (s.any badB)∧D= []):=by
 refine Rets.enterV Tryz.func241 rfl (rs:= [.tmp 4]) Tryz.results241 Tryz.ntmps241 ?_
 refine kf ?_
 first|with_reducible refine ks [] @z9_ ?_|refine kp @z9_ ?_
 refine Ow.callF rfl rfl Tryz.call244 (S:=fun _ v D=> ∃n:Int,v=vi n∧(0≤n↔s.any badB=true)∧D= []) (fun w' hw'=>Xz_ s k hk hc w' hs) ?_
 rintro B v D - - ⟨n,rfl,hn,rfl⟩
 refine⟨_,Mrg.nil, ?_⟩
 refine ko @z9_ ?_
 first|with_reducible refine ks [] @z9_ ?_|refine kp @z9_ ?_
 refine⟨_,(ke @z9_),trivial, ?_⟩
 exact congrArg Value.bool (by rw[Bool.eq_iff_iff,decide_eq_true_eq];exact hn)
theorem adh_ (s:List UInt8) (w:World) (hs:s.length<1099511627776):
  Rets Tryz.prog 238 #[vs s] w (fun v D=>v= .bool (!(s== [])&&decide (s.length≤32)&& !(s.any badB))∧D= []):=by
 refine Rets.enterV Tryz.func238 rfl (rs:= [.tmp 2]) Tryz.results238 Tryz.ntmps238 ?_
 refine kf ?_
 cases h0: (s != [])
 ·have e0: (s== [])=true:=by simpa using h0
  first|with_reducible refine ks [] (And.intro @z9_ @h0) ?_|refine kp (And.intro @z9_ @h0) ?_
  refine⟨_,(ke @z9_),trivial, ?_⟩
  simp[vE_,e0]
 ·have e0: (s== [])=false:=by simpa using h0
  cases h1:decide ((s.length:Int)≤32)
  ·have e1:decide (s.length≤32)=false:=decide_eq_false (by have:=of_decide_eq_false h1;omega)
   first|with_reducible refine ks [] (And.intro @z9_ (And.intro @h0 (@h1))) ?_|refine kp (And.intro @z9_ (And.intro @h0 (@h1))) ?_
   refine⟨_,(ke @z9_),trivial, ?_⟩
   simp only[vE_,e0,e1,Bool.not_false,Bool.true_and,Bool.false_and,Bool.and_false]
  ·have e1:decide (s.length≤32)=true:=decide_eq_true (by have:=of_decide_eq_true h1;omega)
   first|with_reducible refine ks [] (And.intro @z9_ (And.intro @h0 (@h1))) ?_|refine kp (And.intro @z9_ (And.intro @h0 (@h1))) ?_
   refine Ow.callFV rfl Tryz.call241 (fun w' hw'=>Z2_ s 242 Tryz.call242 aal_ w' hs) ?_
   refine ko @z9_ ?_
   first|with_reducible refine ks [] @z9_ ?_|refine kp @z9_ ?_
   refine⟨_,(ke @z9_),trivial, ?_⟩
   simp only[vE_,e0,e1,Bool.not_false,Bool.true_and]
set_option linter.defProp false
def aqX_:=And.intro (And.intro (@zg_) (@wo_)) (And.intro (@wk_) (And.intro (@ww_) (@zf_)))
def anC_ (s:List UInt8):Bool:= !(s== [])&&decide (s.length≤32)&& !(s.any badB)
end Go.Proofs
end
section
open Go Go.Proofs Go.Sx Go.StP
namespace Go.Proofs
set_option maxRecDepth 10000
set_option maxHeartbeats 4000000
set_option linter.unusedSimpArgs false
def ku_ (l:List EntL) (i:Nat):Bool:=
 anC_ (l.getD i wT_).name&& ((l.getD i wT_).kind==1|| (l.getD i wT_).kind==2)&& (i==0||ltB (l.getD (i - 1) wT_).name (l.getD i wT_).name)
def ZR_ (l:List EntL):Bool:=decide (l.length≤32)&& (List.range l.length).all (ku_ l)
theorem Zx_ {l:List EntL} {k:Nat} (hk:k<l.length) (h:ku_ l k=false):ZR_ l=false:=by
 unfold ZR_
 have: (List.range l.length).all (ku_ l)=false:=by
  rw[List.all_eq_false]
  exact⟨k,List.mem_range.2 hk,by simp[h]⟩
 rw[this,Bool.and_false]
theorem aeR_ {l:List EntL} (h: ∀i,i<l.length→ku_ l i=true):ZR_ l=decide (l.length≤32):=by
 unfold ZR_
 have: (List.range l.length).all (ku_ l)=true:=List.all_eq_true.2 fun i hi=>h i (List.mem_range.1 hi)
 rw[this,Bool.and_true]
set_option linter.defProp false
def j1_:=And.intro (And.intro (And.intro (@k6_) (@v6_)) (And.intro (@v0_) (@jp_))) (And.intro (And.intro (@qj_) (@qu_)) (And.intro (@zg_) (@zf_)))
def alM_ (l:List EntL):Prop:= ∀i,i<l.length→(l.getD i wT_).name.length<1099511627776
theorem WT_ (s:List UInt8) (w:World) (hs:s.length<1099511627776):Rets Tryz.prog 238 #[vs s] w (fun v D=>v= .bool (anC_ s)∧D= []):=adh_ s w hs
theorem VA_ {a b:Int} {c:Bool} (h: (a !=b)=c): (a==b)= !c:=by rw[←h];simp[bne]
theorem Wx_ (v:Value) (l:List EntL) (w:World) (hv:EntS w v l) (hl:l.length<1000000) (hsh:alM_ l):
  Rets Tryz.prog 230 #[v] w (fun v' D=>v'= .bool (ZR_ l)∧D= []):=by
 obtain⟨b,off,arr,E,fz,hr⟩:=hv.row
 have ln:=hv.len
 refine Rets.enterV Tryz.func230 rfl (rs:= [.tmp 2]) Tryz.results230 Tryz.ntmps230 ?_
 refine kf ?_
 first|with_reducible refine ks [] (And.intro @j1_ @ln) ?_|refine kp (And.intro @j1_ @ln) ?_
 refine Cw.loopG (G:=Nat) [8,9,10,11,4,3,12,13,14,15,16,17,18,19,20,21,22,23,24,25,26,27,28,29,30,31,32,33,34,35,36,37,38,39,40,2,41,7] (fun g=> [(7,vi g)]) (fun g=> []) (fun g=>g≤l.length∧ ∀i,i<g→ku_ l i=true) (fun g=>l.length - g) 0 rfl rfl ?_ ?_
 ·exact⟨Nat.zero_le _,fun i hi=>absurd hi (Nat.not_lt_zero i)⟩
 ·intro k jk hk
  refine kv ?_
  obtain⟨h1,h2⟩:=hk
  by_cases hk:k<l.length
  ·have h0:0<l.length:=by omega
   have hbl:=hr.lt h0
   have r2:=hr.has h0
   have i2:=hr.idx true k hk
   have l2:=ant_ hr hk
   first|with_reducible refine ks [6] (And.intro @j1_ (And.intro @r2 (And.intro @i2 (@l2)))) ?_|refine kp (And.intro @j1_ (And.intro @r2 (And.intro @i2 (@l2)))) ?_
   refine Ow.alloc rfl rfl agO_ fun b4 hb4 hw4=> ?_
   simp only[ze_,List.nil_append,List.cons_append]
   have hn4:b4≠b:=by omega
   refine ko @j1_ ?_
   have hs:=hsh k hk
   refine Cw.regionS [b4,b] [0,1,2,3,4,5,6,7,8,9,10,11,12,13,14,15,16,17,18,19,20,21,22,24,23,25,26,27,28] [] (by kernel_rfl) (by kernel_rfl) (by kernel_rfl) ?_
   simp only[zh_, ↓zc_, ↓zb_, ↓zn_, ↓zo_,za_]
   refine kq @j1_ ?_
   refine Ow.callFV rfl Tryz.call238 (fun w' hw'=>WT_ (l.getD k wT_).name w' hs) ?_
   cases hn:anC_ (l.getD k wT_).name
   ·have e0:ku_ l k=false:=by unfold ku_;rw[hn];rfl
    rw[Zx_ hk e0]
    refine kq @j1_ ?_
    refine⟨_,(ke @j1_),⟨hw4,trivial⟩, ?_⟩
    rfl
   ·cases hk1: ((l.getD k wT_).kind !=1)
    ·have hkk: ((l.getD k wT_).kind==1|| (l.getD k wT_).kind==2)=true:=by rw[VA_ hk1];rfl
     by_cases h0k:k=0
     ·have d1:decide ((0:Int)< (k:Int))=false:=decide_eq_false (by omega)
      have e1:ku_ l k=true:=by unfold ku_;rw[hn,hkk,h0k];rfl
      refine kq (And.intro @j1_ (And.intro @hk1 (@d1))) ?_
      refine Cw.forgetN [] (by exact⟨hw4,trivial⟩) (by intro p hp;simp only[List.mem_cons,List.not_mem_nil,or_false] at hp ⊢;all_goals (first| (rcases hp with rfl|hp<;>simp_all) | (subst hp;simp) |simp_all)) (by simp[keys]<;>omega) ?_
      first|with_reducible refine ks [] @j1_ ?_|refine kp @j1_ ?_
      exact Again.mk (k+1) (by omega) ⟨by omega,fun i hi=>by
       rcases Nat.lt_succ_iff_lt_or_eq.1 hi with h|rfl
       ·exact h2 i h
       ·exact e1⟩ rfl rfl
     ·have d1:decide ((0:Int)< (k:Int))=true:=decide_eq_true (by omega)
      have i3:qa_ (.sl (true,34)) v (some ((k:Int) - 1))=some (vp b (off+ (k - 1)*34)):=by
       rw[show(k:Int) - 1=((k - 1:Nat):Int) by omega];exact hr.idx true (k - 1) (by omega)
      have l3: ∀n,zr_ (some (false,n)) (some (.cells arr E fz)) (off+ (k - 1)*34)=some (vs (l.getD (k - 1) wT_).name):=fun n=>aef_ hr (show k - 1<l.length by omega) n
      have ek: (k==0)=false:=beq_eq_false_iff_ne.2 h0k
      cases hl3:Op.bytesLess (l.getD (k - 1) wT_).name (l.getD k wT_).name
      ·have e1:ku_ l k=false:=by unfold ku_;rw[hn,hkk,ek];exact hl3
       rw[Zx_ hk e1]
       refine kq (And.intro @j1_ (And.intro @hk1 (And.intro @d1 (And.intro @i3 (And.intro @r2 (And.intro @l3 (@hl3))))))) ?_
       refine⟨_,(ke @j1_),⟨hw4,trivial⟩, ?_⟩
       rfl
      ·have e1:ku_ l k=true:=by unfold ku_;rw[hn,hkk,ek];exact hl3
       refine kq (And.intro @j1_ (And.intro @hk1 (And.intro @d1 (And.intro @i3 (And.intro @r2 (And.intro @l3 (@hl3))))))) ?_
       refine Cw.forgetN [] (by exact⟨hw4,trivial⟩) (by intro p hp;simp only[List.mem_cons,List.not_mem_nil,or_false] at hp ⊢;all_goals (first| (rcases hp with rfl|hp<;>simp_all) | (subst hp;simp) |simp_all)) (by simp[keys]<;>omega) ?_
       first|with_reducible refine ks [] @j1_ ?_|refine kp @j1_ ?_
       exact Again.mk (k+1) (by omega) ⟨by omega,fun i hi=>by
        rcases Nat.lt_succ_iff_lt_or_eq.1 hi with h|rfl
        ·exact h2 i h
        ·exact e1⟩ rfl rfl
    ·cases hk2: ((l.getD k wT_).kind !=2)
     ·have hkk: ((l.getD k wT_).kind==1|| (l.getD k wT_).kind==2)=true:=by rw[VA_ hk2];simp
      by_cases h0k:k=0
      ·have d1:decide ((0:Int)< (k:Int))=false:=decide_eq_false (by omega)
       have e1:ku_ l k=true:=by unfold ku_;rw[hn,hkk,h0k];rfl
       refine kq (And.intro @j1_ (And.intro @hk1 (And.intro @hk2 (@d1)))) ?_
       refine Cw.forgetN [] (by exact⟨hw4,trivial⟩) (by intro p hp;simp only[List.mem_cons,List.not_mem_nil,or_false] at hp ⊢;all_goals (first| (rcases hp with rfl|hp<;>simp_all) | (subst hp;simp) |simp_all)) (by simp[keys]<;>omega) ?_
       first|with_reducible refine ks [] @j1_ ?_|refine kp @j1_ ?_
       exact Again.mk (k+1) (by omega) ⟨by omega,fun i hi=>by
        rcases Nat.lt_succ_iff_lt_or_eq.1 hi with h|rfl
        ·exact h2 i h
        ·exact e1⟩ rfl rfl
      ·have d1:decide ((0:Int)< (k:Int))=true:=decide_eq_true (by omega)
       have i3:qa_ (.sl (true,34)) v (some ((k:Int) - 1))=some (vp b (off+ (k - 1)*34)):=by
        rw[show(k:Int) - 1=((k - 1:Nat):Int) by omega];exact hr.idx true (k - 1) (by omega)
       have l3: ∀n,zr_ (some (false,n)) (some (.cells arr E fz)) (off+ (k - 1)*34)=some (vs (l.getD (k - 1) wT_).name):=fun n=>aef_ hr (show k - 1<l.length by omega) n
       have ek: (k==0)=false:=beq_eq_false_iff_ne.2 h0k
       cases hl3:Op.bytesLess (l.getD (k - 1) wT_).name (l.getD k wT_).name
       ·have e1:ku_ l k=false:=by unfold ku_;rw[hn,hkk,ek];exact hl3
        rw[Zx_ hk e1]
        refine kq (And.intro @j1_ (And.intro @hk1 (And.intro @hk2 (And.intro @d1 (And.intro @i3 (And.intro @r2 (And.intro @l3 (@hl3)))))))) ?_
        refine⟨_,(ke @j1_),⟨hw4,trivial⟩, ?_⟩
        rfl
       ·have e1:ku_ l k=true:=by unfold ku_;rw[hn,hkk,ek];exact hl3
        refine kq (And.intro @j1_ (And.intro @hk1 (And.intro @hk2 (And.intro @d1 (And.intro @i3 (And.intro @r2 (And.intro @l3 (@hl3)))))))) ?_
        refine Cw.forgetN [] (by exact⟨hw4,trivial⟩) (by intro p hp;simp only[List.mem_cons,List.not_mem_nil,or_false] at hp ⊢;all_goals (first| (rcases hp with rfl|hp<;>simp_all) | (subst hp;simp) |simp_all)) (by simp[keys]<;>omega) ?_
        first|with_reducible refine ks [] @j1_ ?_|refine kp @j1_ ?_
        exact Again.mk (k+1) (by omega) ⟨by omega,fun i hi=>by
         rcases Nat.lt_succ_iff_lt_or_eq.1 hi with h|rfl
         ·exact h2 i h
         ·exact e1⟩ rfl rfl
     ·have e0:ku_ l k=false:=by
       unfold ku_
       rw[hn,VA_ hk1,VA_ hk2];rfl
      rw[Zx_ hk e0]
      refine kq (And.intro @j1_ (And.intro @hk1 (@hk2))) ?_
      refine⟨_,(ke @j1_),⟨hw4,trivial⟩, ?_⟩
      rfl
  ·obtain rfl:k=l.length:=by omega
   rw[aeR_ h2]
   first|with_reducible refine ks [] (And.intro @j1_ @ln) ?_|refine kp (And.intro @j1_ @ln) ?_
   refine⟨_,(ke @j1_),trivial, ?_⟩
   exact congrArg Value.bool (decide_eq_decide.2 (by omega))
end Go.Proofs
end
section
open Go Go.Proofs Go.Sx Go.StP
namespace Go.Proofs
set_option maxRecDepth 10000
set_option maxHeartbeats 4000000
set_option linter.unusedSimpArgs false
set_option linter.defProp false
def arS_:=And.intro (And.intro (And.intro (@k6_) (@v6_)) (And.intro (@v0_) (@jp_))) (And.intro (And.intro (@qj_) (@qu_)) (And.intro (@zg_) (@zf_)))
end Go.Proofs
end
section
open Go Go.Proofs Go.Sx Go.StP
namespace Go.Proofs
set_option maxRecDepth 10000
set_option maxHeartbeats 4000000
set_option linter.unusedSimpArgs false
theorem jV_ (x:IdL): (wR_ x).length=32:=by simp[wR_,x.h]
theorem Zb_ (x:IdL): (wR_ x).all Value.oneCell'=true:=Jk_ _
abbrev IdS (w:World) (v:Value) (l:List IdL):Prop:=SlV 32 wR_ id0 w v l
theorem adJ_ {w:World} {v:Value} {l:List IdL} {b off:Nat} {arr:Array Value} {E:TypeId} {fz:Nat×Nat} (h:RowS 32 wR_ id0 w v l b off arr E fz) {k:Nat} (hk:k<l.length):
  zr_ (some (true,32)) (some (.cells arr E fz)) (off+k*32)=some (.agg (a8 (l.getD k id0).l)):=RowS.load h jV_ (by omega) hk
theorem afZ_ (a b:IdL):qJ_ Tryz.prog .eql 37 (.agg (a8 a.l)) (.agg (a8 b.l))=some (.bool (a.l==b.l)):=
 amI_ Tryz.underlying37 Tryz.underlying5 Tryz.ag5 (by kernel_rfl) a.l b.l ⟨a.h,b.h⟩
theorem abr_ (a b:IdL):qJ_ Tryz.prog .neq 37 (.agg (a8 a.l)) (.agg (a8 b.l))=some (.bool (!(a.l==b.l))):=
 ajs_ Tryz.underlying37 Tryz.underlying5 Tryz.ag5 (by kernel_rfl) a.l b.l ⟨a.h,b.h⟩
instance:DecidableEq IdL:=fun a b=>if h:a.l=b.l then .isTrue (by cases a;cases b;simp only at h;subst h;rfl) else .isFalse (fun e=>h (by rw[e]))
theorem IdL.ext' {a b:IdL} (h:a.l=b.l):a=b:=by cases a;cases b;simp only at h;subst h;rfl
def idxG (x:IdL):List IdL→Nat→Int
 | [],_=> -1
 |y::r,i=>if x.l==y.l then(i:Int) else idxG x r (i+1)
theorem ahF_ (x y:IdL) (r:List IdL) (i:Nat):idxG x (y::r) i=if x.l==y.l then(i:Int) else idxG x r (i+1):=rfl
theorem aej_ (x:IdL): ∀ (l:List IdL) (i:Nat),decide (0≤idxG x l i)=l.any fun y=>x.l==y.l
 | [],_=>rfl
 |y::r,i=>by
  unfold idxG
  rw[List.any_cons]
  cases h: (x.l==y.l)
  ·rw[if_neg (by simp),Bool.false_or];exact aej_ x r (i+1)
  ·rw[if_pos rfl,Bool.true_or,decide_eq_true (by omega)]
theorem jd_ (x:IdL) (E:TypeId) (fz:Nat×Nat):zr_ (some (true,32)) (some (.cells (a8 x.l) E fz)) 0=some (.agg (a8 x.l)):=J5_ _ E fz 32 x.h
set_option linter.defProp false
def x7_:=And.intro (And.intro (@afZ_) (@abr_)) (And.intro (@jd_) (And.intro (@zg_) (@zf_)))
theorem aaP_ (v:Value) (l:List IdL) (x:IdL) (w:World) (hv:IdS w v l) (hl:l.length<1000000):
  Rets Tryz.prog 79 #[v, .agg (a8 x.l)] w (fun v' D=>v'=vi (idxG x l 0)∧D= []):=by
 obtain⟨b,off,arr,E,fz,hr⟩:=hv.row
 have ln:=hv.len
 refine Rets.enterV Tryz.func79 rfl (rs:= [.tmp 4]) Tryz.results79 Tryz.ntmps79 ?_
 refine kf ?_
 first|with_reducible refine ks [] @x7_ ?_|refine kp @x7_ ?_
 refine Ow.box rfl rfl fun b1 hb1 hw1=> ?_
 simp only[qi_,qe_,qc_,ze_,List.nil_append,List.cons_append]
 refine Ow.go rfl ?_
 simp(disch:=(first|assumption|omega| (simp only[jF_,jE_,UInt64.reduceToNat];try omega))) only[↓Sx.S0,Sx.S1,Tryz.fx,x7_,Nat.reduceAdd,Nat.reducePow,Int.reducePow,Nat.reduceBEq, ↓reduceIte,UInt8.reduceToNat,UInt16.reduceToNat,UInt32.reduceToNat,UInt64.reduceToNat,Int.reduceToNat]
 first|with_reducible refine ks [] (And.intro @x7_ @ln) ?_|refine kp (And.intro @x7_ @ln) ?_
 refine Cw.loopG (G:=Nat) [9,10,5,11,12,13,14,15,16,17,4,18,8] (fun g=> [(8,vi g)]) (fun g=> [(b1, .cells (a8 x.l) 37 (0,0))]) (fun g=>g≤l.length∧idxG x l 0=idxG x (l.drop g) g) (fun g=>l.length - g) 0 rfl rfl ?_ ?_
 ·exact⟨Nat.zero_le _,rfl⟩
 ·intro k jk hk
  refine kv ?_
  obtain⟨h1,h2⟩:=hk
  by_cases hk:k<l.length
  ·have h0:0<l.length:=by omega
   have hbl:=hr.lt h0
   have hn1:b1≠b:=by omega
   have r2:=hr.has h0
   have i2:=hr.idx true k hk
   have l2:=adJ_ hr hk
   rw[drop_cons (z:=id0) hk,ahF_] at h2
   first|with_reducible refine ks [] @x7_ ?_|refine kp @x7_ ?_
   refine Cw.regionS [b1,b] [1,2,3,0,4,5] [] (by kernel_rfl) (by kernel_rfl) (by kernel_rfl) ?_
   simp only[zh_, ↓zc_, ↓zb_, ↓zn_, ↓zo_,za_]
   refine kq (And.intro @x7_ (And.intro @i2 (And.intro @r2 (@l2)))) ?_
   cases hq: (x.l==(l.getD k id0).l)
   ·rw[hq,if_neg (by simp)] at h2
    first|with_reducible refine ks [] (And.intro @x7_ @hq) ?_|refine kp (And.intro @x7_ @hq) ?_
    exact Again.mk (k+1) (by omega) ⟨hk,h2⟩ rfl rfl
   ·rw[hq,if_pos rfl] at h2
    rw[h2]
    first|with_reducible refine ks [] (And.intro @x7_ @hq) ?_|refine kp (And.intro @x7_ @hq) ?_
    refine⟨_,(ke @x7_),⟨hw1,trivial⟩, ?_⟩
    rfl
  ·obtain rfl:k=l.length:=by omega
   rw[List.drop_length] at h2
   rw[h2]
   first|with_reducible refine ks [] @x7_ ?_|refine kp @x7_ ?_
   refine⟨_,(ke @x7_),⟨hw1,trivial⟩, ?_⟩
   rfl
theorem v7_ (v:Value) (l:List IdL) (x:IdL) (w:World) (hv:IdS w v l) (hl:l.length<1000000):
  Rets Tryz.prog 127 #[v, .agg (a8 x.l)] w (fun v' D=>v'= .bool (l.any fun y=>x.l==y.l)∧D= []):=by
 refine Rets.enterV Tryz.func127 rfl (rs:= [.tmp 4]) Tryz.results127 Tryz.ntmps127 ?_
 refine kf ?_
 first|with_reducible refine ks [] @x7_ ?_|refine kp @x7_ ?_
 refine Ow.box rfl rfl fun b1 hb1 hw1=> ?_
 simp only[qi_,qe_,qc_,ze_,List.nil_append,List.cons_append]
 refine Ow.go rfl ?_
 simp(disch:=(first|assumption|omega| (simp only[jF_,jE_,UInt64.reduceToNat];try omega))) only[↓Sx.S0,Sx.S1,Tryz.fx,x7_,Nat.reduceAdd,Nat.reducePow,Int.reducePow,Nat.reduceBEq, ↓reduceIte,UInt8.reduceToNat,UInt16.reduceToNat,UInt32.reduceToNat,UInt64.reduceToNat,Int.reduceToNat]
 first|with_reducible refine ks [] @x7_ ?_|refine kp @x7_ ?_
 refine Ow.callFV rfl Tryz.call79 (fun w' hw'=>aaP_ v l x w' (hv.oldN hw' ⟨hw1,trivial⟩) hl) ?_
 refine ko @x7_ ?_
 refine⟨_,(ke @x7_),⟨hw1,trivial⟩, ?_⟩
 exact congrArg Value.bool (aej_ x l 0)
end Go.Proofs
end
section
open Go Go.Proofs Go.Sx Go.StP
namespace Go.Proofs
set_option maxRecDepth 100000
set_option maxHeartbeats 400000
set_option linter.unusedSimpArgs false
structure RwL where
 id:IdL
 place:Int
 spot:Int
def rwC (r:RwL):List Value:=r.id.l.map v8++ ([vi r.place]++ ([vi r.spot]))
def rw0:RwL:=⟨id0,0,0⟩
theorem zi_ (r:RwL): (rwC r).length=34:=by simp[rwC,r.id.h]
theorem zI_ (r:RwL):Value.cells (.agg (rwC r).toArray)=(rwC r).toArray:=ze_ _
theorem jU_ (r:RwL): (rwC r).all Value.oneCell'=true:=by
 unfold rwC
 simp only[List.all_append,List.all_cons,List.all_nil,Jk_,Bool.and_true,Bool.true_and]
 rfl
theorem Q9_:zK_ Tryz.prog 104=some (.agg (rwC rw0).toArray):=id (by kernel_rfl)
theorem aai_:z0_ Tryz.prog 104=some (true,34):=id (by kernel_rfl)
theorem Kl_ (r:RwL):rwC r=([]:List Value)++ ((r.id.l.map v8)++ ([vi r.place]++ ([vi r.spot]))):=by
 unfold rwC;simp only[List.append_assoc,List.nil_append,List.append_nil]
theorem aqo_ (r:RwL):partV (true,32) (rwC r).toArray 0=some (Value.agg (a8 r.id.l)):=by
 rw[Kl_,ad1_ _ _ _ (by simp) (by simp[r.id.h])];rfl
theorem xm_ (r:RwL) (E:TypeId) (fz:Nat×Nat):zr_ (some (true,32)) (some (.cells (rwC r).toArray E fz)) 0=some (Value.agg (a8 r.id.l)):=by
 rw[Kl_,wx_ _ _ _ E fz (by simp) (by simp[r.id.h])];rfl
theorem ap5_ (r:RwL): (rwC r).toArray.extract 0 32=a8 r.id.l:=by
 rw[Kl_];exact abK_ (o:=0) (n:=32) _ _ _ (by simp) (by simp[r.id.h])
theorem vg_ {w:World} {v:Value} {l:List RwL} {b off:Nat} {arr:Array Value} {E:TypeId} {fz:Nat×Nat} (h:RowS 34 rwC rw0 w v l b off arr E fz) {k:Nat} (hk:k<l.length):zr_ (some (true,32)) (some (.cells arr E fz)) (off+k*34+0)=some (Value.agg (a8 (l.getD k rw0).id.l)):=by
 rw[RowS.part h zi_ hk (by omega) (by omega),ap5_]
theorem ah2_ (r:RwL) (x:IdL) (a:Bool) (E:TypeId):zp_ (some (a,32)) (some (.cells (rwC r).toArray E (0,0))) 0 (Value.agg (a8 x.l))=some (.cells (rwC {r with id:=x}).toArray E (0,0)):=by
 rw[Kl_ r,Kl_ {r with id:=x}];exact z6_ _ _ _ _ a _ E (by simp) (by simp[r.id.h]) (ze_ _) (by simp[x.h]) (Jk_ _)
theorem aad_ (r:RwL):rwC r=((r.id.l.map v8))++ (([vi r.place])++ ([vi r.spot])):=by
 unfold rwC;simp only[List.append_assoc,List.nil_append,List.append_nil]
theorem apF_ (r:RwL):partV (false,1) (rwC r).toArray 32=some (vi r.place):=by
 rw[aad_];exact Q3_ _ _ _ (by simp[r.id.h])
theorem xM_ (r:RwL) (n:Nat) (E:TypeId) (fz:Nat×Nat):zr_ (some (false,n)) (some (.cells (rwC r).toArray E fz)) 32=some (vi r.place):=by
 rw[aad_];exact xW_ _ _ _ n E fz (by simp[r.id.h])
theorem abH_ {w:World} {v:Value} {l:List RwL} {b off:Nat} {arr:Array Value} {E:TypeId} {fz:Nat×Nat} (h:RowS 34 rwC rw0 w v l b off arr E fz) {k:Nat} (hk:k<l.length) (n:Nat):zr_ (some (false,n)) (some (.cells arr E fz)) (off+k*34+32)=some (vi (l.getD k rw0).place):=by
 rw[RowS.cell h hk (by omega)];generalize l.getD k rw0=r;rw[aad_];exact VE_ _ _ _ (by simp[r.id.h])
theorem WE_ (r:RwL) (x:Int) (a:Bool) (E:TypeId):zp_ (some (a,1)) (some (.cells (rwC r).toArray E (0,0))) 32 (vi x)=some (.cells (rwC {r with place:=x}).toArray E (0,0)):=by
 rw[aad_ r,aad_ {r with place:=x}];exact z6_ _ _ _ _ a _ E (by simp[r.id.h]) rfl (rfl) rfl (rfl)
theorem aaH_ (r:RwL):rwC r=((r.id.l.map v8)++ ([vi r.place]))++ (([vi r.spot])++ (([]:List Value))):=by
 unfold rwC;simp only[List.append_assoc,List.nil_append,List.append_nil]
theorem apI_ (r:RwL):partV (false,1) (rwC r).toArray 33=some (vi r.spot):=by
 rw[aaH_];exact Q3_ _ _ _ (by simp[r.id.h])
theorem xT_ (r:RwL) (n:Nat) (E:TypeId) (fz:Nat×Nat):zr_ (some (false,n)) (some (.cells (rwC r).toArray E fz)) 33=some (vi r.spot):=by
 rw[aaH_];exact xW_ _ _ _ n E fz (by simp[r.id.h])
theorem K5_ {w:World} {v:Value} {l:List RwL} {b off:Nat} {arr:Array Value} {E:TypeId} {fz:Nat×Nat} (h:RowS 34 rwC rw0 w v l b off arr E fz) {k:Nat} (hk:k<l.length) (n:Nat):zr_ (some (false,n)) (some (.cells arr E fz)) (off+k*34+33)=some (vi (l.getD k rw0).spot):=by
 rw[RowS.cell h hk (by omega)];generalize l.getD k rw0=r;rw[aaH_];exact VE_ _ _ _ (by simp[r.id.h])
theorem WB_ (r:RwL) (x:Int) (a:Bool) (E:TypeId):zp_ (some (a,1)) (some (.cells (rwC r).toArray E (0,0))) 33 (vi x)=some (.cells (rwC {r with spot:=x}).toArray E (0,0)):=by
 rw[aaH_ r,aaH_ {r with spot:=x}];exact z6_ _ _ _ _ a _ E (by simp[r.id.h]) rfl (rfl) rfl (rfl)
theorem jZ_ (r:RwL) (E:TypeId) (fz:Nat×Nat):zr_ (some (true,34)) (some (.cells (rwC r).toArray E fz)) 0=some (.agg (rwC r).toArray):=vl_ _ E fz 34 (by rw[List.size_toArray,zi_])
theorem alz_ (old:Array Value) (r:RwL) (a:Bool) (E:TypeId) (h:old.size=34):zp_ (some (a,34)) (some (.cells old E (0,0))) 0 (.agg (rwC r).toArray)=some (.cells (rwC r).toArray E (0,0)):=vk_ _ a old E (zi_ r) (jU_ r) h
theorem qL_ (r r':RwL) (a:Bool) (E:TypeId):zp_ (some (a,34)) (some (.cells (rwC r').toArray E (0,0))) 0 (.agg (rwC r).toArray)=some (.cells (rwC r).toArray E (0,0)):=alz_ _ r a E (by rw[List.size_toArray,zi_])
theorem anY_ {w:World} {v:Value} {l:List RwL} {b off:Nat} {arr:Array Value} {E:TypeId} {fz:Nat×Nat} (h:RowS 34 rwC rw0 w v l b off arr E fz) {k:Nat} (hk:k<l.length):zr_ (some (true,34)) (some (.cells arr E fz)) (off+k*34)=some (.agg (rwC (l.getD k rw0)).toArray):=RowS.load h zi_ (by omega) hk
theorem amd_:Tryz.prog.stoodInHeld 104=false:=by kernel_rfl
theorem amc_:Tryz.prog.eqGuardType Tryz.prog.depth 104=false:=by kernel_rfl
theorem apB_ (r r':RwL):eqD Tryz.prog 8 104 (.agg (rwC r).toArray) (.agg (rwC r').toArray)=some ((r.id.l==r'.id.l)&& (r.place==r'.place)&& (r.spot==r'.spot)):=by
 have hd: ∀ (a b:IdL),eqD Tryz.prog 7 37 (.agg (a8 a.l)) (.agg (a8 b.l))=some (a.l==b.l):=fun a b=>aeo_ (d:=5) Tryz.underlying37 Tryz.underlying5 Tryz.ag5 _ _ a.h b.h
 have hi: ∀ (a b:Int),eqD Tryz.prog 7 3 (vi a) (vi b)=some (a==b):=by
  intro a b;unfold eqD;rw[Tryz.underlying3];rfl
 have agd:z0_ Tryz.prog 37=some (true,32):=id (by kernel_rfl)
 have agi:z0_ Tryz.prog 3=some (false,1):=id (by kernel_rfl)
 unfold eqD
 rw[Tryz.underlying104]
 simp only
 rw[amd_]
 simp only[Bool.false_eq_true, ↓reduceIte,xv_,kl_,agd,agi,aqo_,apF_,apI_,hd,hi]
 cases(r.id.l==r'.id.l)<;>cases(r.place==r'.place)<;>cases(r.spot==r'.spot)<;>simp
theorem neRw (r r':RwL):qJ_ Tryz.prog .neq 104 (.agg (rwC r).toArray) (.agg (rwC r').toArray)=some (.bool (!((r.id.l==r'.id.l)&& (r.place==r'.place)&& (r.spot==r'.spot)))):=by
 unfold qJ_ eqX;rw[amc_];simp[qw_,apB_]
theorem VP_ (r:RwL):qg_ (kt_ Tryz.prog 104) (zK_ Tryz.prog 104) [(0,Value.agg (a8 r.id.l)),(1,vi r.place),(2,vi r.spot)]=some (.agg (rwC r).toArray):=by
 have hp:kt_ Tryz.prog 104=some [(0,32),(32,1),(33,1)]:=id (by kernel_rfl)
 rw[hp,Q9_]
 have e0: (rwC rw0).toArray=(([]:List Value)++ ((rw0.id.l.map v8)++ ([vi rw0.place]++ ([vi rw0.spot])))).toArray:=by congr 1<;>simp only[rwC,List.append_assoc,List.nil_append,List.append_nil]
 have q0:vH_ (([]:List Value)++ ((rw0.id.l.map v8)++ ([vi rw0.place]++ ([vi rw0.spot])))).toArray 0 (r.id.l.map v8)=(([]:List Value)++ ((r.id.l.map v8)++ ([vi rw0.place]++ ([vi rw0.spot])))).toArray:=w0_ _ _ _ _ (by simp) (by simp[rw0.id.h,r.id.h])
 have s0: (([]:List Value)++ ((rw0.id.l.map v8)++ ([vi rw0.place]++ ([vi rw0.spot])))).toArray.size=34:=by simp[r.id.h,rw0.id.h]
 have z0: (Value.cells (Value.agg (a8 r.id.l))).toList=r.id.l.map v8:=by rw[ze_];rfl
 have y0: (Value.cells (Value.agg (a8 r.id.l))).size=32:=by rw[←Array.length_toList,z0];simp[r.id.h]
 have e1: (([]:List Value)++ ((r.id.l.map v8)++ ([vi rw0.place]++ ([vi rw0.spot])))).toArray=(((r.id.l.map v8))++ (([vi rw0.place])++ ([vi rw0.spot]))).toArray:=by congr 1<;>simp only[rwC,List.append_assoc,List.nil_append,List.append_nil]
 have q1:vH_ (((r.id.l.map v8))++ (([vi rw0.place])++ ([vi rw0.spot]))).toArray 32 ([vi r.place])=(((r.id.l.map v8))++ (([vi r.place])++ ([vi rw0.spot]))).toArray:=w0_ _ _ _ _ (by simp[r.id.h]) (rfl)
 have s1: (((r.id.l.map v8))++ (([vi rw0.place])++ ([vi rw0.spot]))).toArray.size=34:=by simp[r.id.h,rw0.id.h]
 have z1: (Value.cells (vi r.place)).toList= [vi r.place]:=by rfl
 have y1: (Value.cells (vi r.place)).size=1:=by rw[←Array.length_toList,z1];simp
 have e2: (((r.id.l.map v8))++ (([vi r.place])++ ([vi rw0.spot]))).toArray=(((r.id.l.map v8)++ ([vi r.place]))++ (([vi rw0.spot])++ (([]:List Value)))).toArray:=by congr 1<;>simp only[rwC,List.append_assoc,List.nil_append,List.append_nil]
 have q2:vH_ (((r.id.l.map v8)++ ([vi r.place]))++ (([vi rw0.spot])++ (([]:List Value)))).toArray 33 ([vi r.spot])=(((r.id.l.map v8)++ ([vi r.place]))++ (([vi r.spot])++ (([]:List Value)))).toArray:=w0_ _ _ _ _ (by simp[r.id.h]) (rfl)
 have s2: (((r.id.l.map v8)++ ([vi r.place]))++ (([vi rw0.spot])++ (([]:List Value)))).toArray.size=34:=by simp[r.id.h,rw0.id.h]
 have z2: (Value.cells (vi r.spot)).toList= [vi r.spot]:=by rfl
 have y2: (Value.cells (vi r.spot)).size=1:=by rw[←Array.length_toList,z2];simp
 have e3: (((r.id.l.map v8)++ ([vi r.place]))++ (([vi r.spot])++ (([]:List Value)))).toArray=(rwC r).toArray:=by congr 1<;>simp only[rwC,List.append_assoc,List.nil_append,List.append_nil]
 simp only[qg_]
 rw[e0]
 unfold fillV
 simp only[List.getElem?_cons_zero,List.getElem?_cons_succ,z0,y0]
 rw[if_pos ⟨trivial,by rw[s0];decide⟩,q0]
 rw[e1]
 unfold fillV
 simp only[List.getElem?_cons_zero,List.getElem?_cons_succ,z1,y1]
 rw[if_pos ⟨trivial,by rw[s1];decide⟩,q1]
 rw[e2]
 unfold fillV
 simp only[List.getElem?_cons_zero,List.getElem?_cons_succ,z2,y2]
 rw[if_pos ⟨trivial,by rw[s2];decide⟩,q2]
 rw[e3];rfl
theorem ahx_: ∀ (a b:List UInt8),Lib.compareBytes a b=if ltB a b=true then -1 else if ltB b a=true then 1 else 0
 | [],[]=>by simp[Lib.compareBytes,ltB,Op.bytesLess]
 |_::_,[]=>by simp[Lib.compareBytes,ltB,Op.bytesLess]
 | [],_::_=>by simp[Lib.compareBytes,ltB,Op.bytesLess]
 |a::x,b::y=>by
  have ih:=ahx_ x y
  unfold Lib.compareBytes
  rw[wK_,wK_] at*
  rw[ih]
  simp only[List.cons_lt_cons_iff,decide_eq_true_eq]
  by_cases h1:a<b
  ·simp[h1]
  ·by_cases h2:b<a
   ·have: ¬a=b:=fun e=>by subst e;exact h1 h2
    simp[h1,h2,this]
   ·have:a=b:=UInt8.le_antisymm (UInt8.not_lt.1 h2) (UInt8.not_lt.1 h1)
    subst this
    simp[h1]
theorem wI_ {b:Nat} {E:TypeId} {fz:Nat×Nat} {arr:Array Value} {w:World} (hb:w.heap[b]? =some (.cells arr E fz)): ∀ (l:List UInt8) (off:Nat) (acc:ByteArray),(∀j,j<l.length→arr[off+j]? =some (v8 (l.getD j 0)))→
  (Extern.Bytes.loadBytes ⟨b,off,none⟩ l.length acc).run Tryz.prog w= .ok (acc++ ⟨l.toArray⟩) w
 | [],off,acc,_=>by
  show Result.ok acc w=_
  congr 1
  apply ByteArray.ext
  simp
 |x::l,off,acc,h=>by
  have h0:=h 0 (by simp)
  simp only[Nat.add_zero,List.getD_cons_zero] at h0
  have hc:w.cell? ⟨b,off,none⟩=some (v8 x):=by rw[cell_of_row w b _ arr E fz hb];exact h0
  have hld: (load ⟨b,off,none⟩).run Tryz.prog w= .ok (v8 x) w:=by
   simp only[load,Sem.run,hc]
  rw[List.length_cons,Extern.Bytes.loadBytes,Sem.run_bind,hld,Result.andThen_ok]
  simp only[v8,jf_]
  have e: ((x.toNat:Int).toNat.toUInt8)=x:=by
   rw[Int.toNat_natCast]
   exact UInt8.ofNat_toNat
  rw[e,wI_ hb l (off+1) _ (fun j hj=>by
   have:=h (j+1) (by simpa using hj)
   rw[List.getD_cons_succ] at this
   rw[←this];congr 1;omega)]
  congr 1
  apply ByteArray.ext
  simp
def kL_ (arr:Array Value) (off:Nat) (l:List UInt8):Prop:= ∀j,j<l.length→arr[off+j]? =some (v8 (l.getD j 0))
theorem Qo_ {b off c:Nat} {l:List UInt8} {arr:Array Value} {E:TypeId} {fz:Nat×Nat} {w:World} (hb:w.heap[b]? =some (.cells arr E fz)) (h:kL_ arr off l): (Extern.Bytes.bytesOf (vsl b off l.length c)).run Tryz.prog w= .ok ⟨l.toArray⟩ w:=by
 have h:=wI_ hb l off .empty h
 show(Extern.Bytes.loadBytes ⟨b,off,none⟩ l.length .empty).run Tryz.prog w=_
 rw[h]
 congr 1
theorem aga_ {b o1 k1 c o2 k2:Nat} {l m:List UInt8} {a1 a2:Array Value} {E E2:TypeId} {f1 f2:Nat×Nat} {w:World} (hb:w.heap[b]? =some (.cells a1 E f1)) (h1:kL_ a1 o1 l) (hc:w.heap[c]? =some (.cells a2 E2 f2)) (h2:kL_ a2 o2 m):
  (callFunc 152 #[vsl b o1 l.length k1,vsl c o2 m.length k2]).run Tryz.prog w= .ok (.value (vi (Lib.compareBytes l m))) w:=by
 rw[run_callFunc_extern Tryz.func152 (by kernel_rfl) (by kernel_rfl) (by kernel_rfl) (e:=Extern.BytealgCompare.compare) (by kernel_rfl)]
 show((Extern.BytealgCompare.compare #[vsl b o1 l.length k1,vsl c o2 m.length k2]).run Tryz.prog w).andThen _=_
 have: (Extern.BytealgCompare.compare #[vsl b o1 l.length k1,vsl c o2 m.length k2]).run Tryz.prog w= .ok (vi (Lib.compareBytes l m)) w:=by
  change Sem.run Tryz.prog (do pure (goInt (Extern.BytealgCompare.cmp (←Extern.Bytes.bytesOf _) (←Extern.Bytes.bytesOf _)))) w=_
  have h1:=Qo_ (c:=k1) hb h1
  have h2:=Qo_ (c:=k2) hc h2
  rw[Sem.run_bind]
  erw[h1]
  rw[Result.andThen_ok,Sem.run_bind]
  erw[h2]
  rw[Result.andThen_ok,Lib.cmp_eq]
  rfl
 rw[this];rfl
theorem aiu_ {b o1 k1 c o2 k2:Nat} {l m:List UInt8} {a1 a2:Array Value} {E E2:TypeId} {f1 f2:Nat×Nat} {w:World} (hb:w.heap[b]? =some (.cells a1 E f1)) (h1:kL_ a1 o1 l) (hc:w.heap[c]? =some (.cells a2 E2 f2)) (h2:kL_ a2 o2 m):
  Rets Tryz.prog 121 #[vsl b o1 l.length k1,vsl c o2 m.length k2] w (fun v D=>v=vi (Lib.compareBytes l m)∧D= []):=by
 have hr:=aga_ (k1:=k1) (k2:=k2) hb h1 hc h2
 have hcc:Calls Tryz.prog 121 #[vsl b o1 l.length k1,vsl c o2 m.length k2] w fun e w'=>e= .returned (vi (Lib.compareBytes l m))∧w'=w:=by
  generalize vsl b o1 l.length k1=x at hr ⊢
  generalize vsl c o2 m.length k2=y at hr ⊢
  go_enter Tryz.func121,Tryz.ntmps121
  go_wp2
  go_ret
  exact⟨rfl,rfl⟩
 refine Calls.mono hcc ?_
 rintro e w' ⟨rfl,rfl⟩
 exact⟨_,[],rfl,Hp.refl _,rfl,rfl⟩
def cmpI (x y:IdL):Int:=cmpS x.l y.l
theorem alK_ {b o1 k1 c o2 k2:Nat} {x y:IdL} {a1 a2:Array Value} {E E2:TypeId} {f1 f2:Nat×Nat} {w:World} (hb:w.heap[b]? =some (.cells a1 E f1)) (h1:kL_ a1 o1 x.l) (hc:w.heap[c]? =some (.cells a2 E2 f2)) (h2:kL_ a2 o2 y.l):
  Rets Tryz.prog 121 #[vsl b o1 32 k1,vsl c o2 32 k2] w (fun v D=>v=vi (cmpI x y)∧D= []):=by
 have h:=aiu_ (k1:=k1) (k2:=k2) hb h1 hc h2
 rw[x.h,y.h,ahx_] at h
 exact h
theorem aek_ (r:RwL):kL_ (rwC r).toArray 0 r.id.l:=by
 intro j hj
 rw[Nat.zero_add,List.getElem?_toArray,Kl_,List.nil_append,List.getElem?_append_left (by simpa using hj),List.getElem?_map,List.getElem?_eq_getElem hj,List.getD_eq_getElem?_getD,List.getElem?_eq_getElem hj]
 rfl
set_option linter.defProp false
def KT_:=And.intro (@zg_) (And.intro (@zf_) (@zI_))
theorem KL_ (a b:RwL) (w:World):Rets Tryz.prog 109 #[.agg (rwC a).toArray, .agg (rwC b).toArray] w (fun v D=>v=vi (cmpI a.id b.id)∧D= []):=by
 refine Rets.enterV Tryz.func109 rfl (rs:= [.tmp 4]) Tryz.results109 Tryz.ntmps109 ?_
 refine kf ?_
 first|with_reducible refine ks [] @KT_ ?_|refine kp @KT_ ?_
 refine Ow.box rfl rfl fun b1 hb1 hw1=> ?_
 simp only[qi_,qe_,qc_,ze_,List.nil_append,List.cons_append]
 refine Ow.go rfl ?_
 simp(disch:=(first|assumption|omega| (simp only[jF_,jE_,UInt64.reduceToNat];try omega))) only[↓Sx.S0,Sx.S1,Tryz.fx,KT_,Nat.reduceAdd,Nat.reducePow,Int.reducePow,Nat.reduceBEq, ↓reduceIte,UInt8.reduceToNat,UInt16.reduceToNat,UInt32.reduceToNat,UInt64.reduceToNat,Int.reduceToNat]
 refine Ow.box rfl rfl fun b2 hb2 hw2=> ?_
 simp only[qi_,qe_,qc_,ze_,List.nil_append,List.cons_append]
 refine Ow.go rfl ?_
 simp(disch:=(first|assumption|omega| (simp only[jF_,jE_,UInt64.reduceToNat];try omega))) only[↓Sx.S0,Sx.S1,Tryz.fx,KT_,Nat.reduceAdd,Nat.reducePow,Int.reducePow,Nat.reduceBEq, ↓reduceIte,UInt8.reduceToNat,UInt16.reduceToNat,UInt32.reduceToNat,UInt64.reduceToNat,Int.reduceToNat]
 obtain⟨h12,-⟩:=hb2
 have hn:b1≠b2:=by omega
 first|with_reducible refine ks [] @KT_ ?_|refine kp @KT_ ?_
 refine Cw.regionS [b1,b2] [0,1,2,3,4,5] [] (by kernel_rfl) (by kernel_rfl) (by kernel_rfl) ?_
 simp only[zh_, ↓zc_, ↓zb_, ↓zn_, ↓zo_,za_]
 refine kq @KT_ ?_
 refine Ow.soft rfl rfl rfl ?_
 refine Ow.callFV rfl Tryz.call121 (fun w' hw'=>alK_ (x:=a.id) (y:=b.id) (hw'.has b1 (.cells (rwC a).toArray 104 (0,0)) (by simp)) (aek_ a) (hw'.has b2 (.cells (rwC b).toArray 104 (0,0)) (by simp)) (aek_ b)) ?_
 with_reducible refine Ow.nil ?_
 refine⟨by intro b hb;simp only[List.mem_cons,List.not_mem_nil,or_false] at hb;(try subst hb);rfl, ?_⟩
 refine kq @KT_ ?_
 refine⟨_,(ke @KT_),⟨hw1,hw2,trivial⟩, ?_⟩
 rfl
def vv_ (a b:RwL):Int:=cmpS a.id.l b.id.l
theorem xO_ (a b:RwL) (w:World):Rets Tryz.prog 109 #[.agg (rwC a).toArray, .agg (rwC b).toArray] w (fun v D=>v=vi (vv_ a b)∧D= []):=KL_ a b w
end Go.Proofs
end
section
open Go Go.Proofs Go.Sx Go.StP
namespace Go.Proofs
set_option maxRecDepth 10000
set_option maxHeartbeats 4000000
set_option linter.unusedSimpArgs false
abbrev zB_ (rest:List Value) (d:List RwL):Obj:=rowO rwC 104 rest d
theorem xX_ {rest:List Value} {d:List RwL} (k:Nat) (hk:k<d.length):zr_ (some (true,34)) (some (zB_ rest d)) (k*34)=some (.agg (rwC (d.getD k rw0)).toArray):=adG_ (z:=rw0) zi_ k hk
theorem xl_ {rest:List Value} {d:List RwL} (k:Nat) (x:RwL) (a:Bool) (hk:k<d.length):zp_ (some (a,34)) (some (zB_ rest d)) (k*34) (.agg (rwC x).toArray)=some (zB_ rest (d.set k x)):=WF_ zi_ jU_ k x a hk
set_option linter.defProp false
def kv_:=And.intro (And.intro (@xX_) (@xl_)) (And.intro (@jZ_) (And.intro (@qL_) (@zI_)))
theorem j3_ (rb n c:Nat) (A X M Y C:List RwL) (rest:List Value) (fv:Value) (a b k:Nat) (w:World) (hX:X.length=k) (hY:Y.length=k) (ha:A.length=a) (hb:b=a+k+M.length) (hn:n=a+k+M.length+k+C.length) (hs:n<1000000)
  (ho:w.heap[rb]? =some (zB_ rest (A++ (X++ (M++ (Y++C)))))):
  Rets Tryz.prog 225 #[vsl rb 0 n c,vi a,vi b,vi k,fv] w (fun v D=> ∃o,D= [(rb,o)]∧v= .tuple #[]∧o=zB_ rest (A++ (Y++ (M++ (X++C))))):=by
 refine Rets.enterM Tryz.func225 rfl (rs:= []) Tryz.results225 Tryz.ntmps225 ho ?_
 refine kf ?_
 first|with_reducible refine ks [] @kv_ ?_|refine kp @kv_ ?_
 subst ha hb hn
 refine Cw.loopG (G:=Nat) [11,12,13,16,17,18,19,20,21,22,23,24,25,26,27,28,29,30,31,32,33,34,35,36,37,14,15,10] (fun g=> [(10,vi g)]) (fun g=> [(rb,zB_ rest (swp A X M Y C g))]) (fun g=>g≤k) (fun g=>k - g) 0 rfl rfl ?_ ?_
 ·exact Nat.zero_le _
 ·intro g j hg
  refine kv ?_
  by_cases hlt:g<k
  ·first|with_reducible refine ks [] @kv_ ?_|refine kp @kv_ ?_
   have hl:=and_ (a:=A) (m:=M) (c:=C) hX hY hg
   have h1:=ap3_ (a:=A) (m:=M) (c:=C) (z:=rw0) hX hY hlt rfl
   have h2:=ap8_ (a:=A) (m:=M) (c:=C) (z:=rw0) hX hY hlt rfl
   refine Cw.regionS [rb] [0,1,2,3,4,5,6,7,8,9,10,11,12,14,15,16,17,18,13,19,20,21,22,23] [21,23] (by kernel_rfl) (by kernel_rfl) (by kernel_rfl) ?_
   simp only[zh_, ↓zc_, ↓zb_, ↓zn_, ↓zo_,za_]
   refine kq @kv_ ?_
   refine Ow.store rfl rfl rfl (ke @kv_) ?_
   refine ko @kv_ ?_
   rw[h1,h2]
   refine Again.mk (g+1) (by omega) (by omega) ?_ rfl
   rw[akD_ hX hY hlt rfl rfl]
  ·obtain rfl:g=k:=by omega
   first|with_reducible refine ks [] @kv_ ?_|refine kp @kv_ ?_
   refine⟨_,_,_,(ke @kv_),rfl,trivial, ?_⟩
   exact⟨rfl,by unfold swp;rw[List.take_of_length_le (by omega),List.take_of_length_le (by omega),List.drop_eq_nil_of_le (by omega),List.drop_eq_nil_of_le (by omega),List.append_nil,List.append_nil]⟩
structure rws_RotG where
 A:List RwL
 U:List RwL
 V:List RwL
 B:List RwL
theorem Jq_ (rb n c:Nat) (A U V B:List RwL) (rest:List Value) (fv:Value) (a m b:Nat) (w:World) (hU:0<U.length) (hV:0<V.length) (ha:A.length=a) (hm:m=a+U.length) (hb:b=m+V.length) (hn:n=b+B.length) (hs:n<1000000)
  (ho:w.heap[rb]? =some (zB_ rest (A++ (U++ (V++B))))):
  Rets Tryz.prog 204 #[vsl rb 0 n c,vi a,vi m,vi b,fv] w (fun v D=> ∃o,D= [(rb,o)]∧v= .tuple #[]∧o=zB_ rest (A++ (V++ (U++B)))):=by
 have e1: (m:Int) - a=(U.length:Nat):=by omega
 have e2: (b:Int) - m=(V.length:Nat):=by omega
 refine Rets.enterM Tryz.func204 rfl (rs:= []) Tryz.results204 Tryz.ntmps204 ho ?_
 refine kf ?_
 first|with_reducible refine ks [] (And.intro @kv_ (And.intro @e1 (@e2))) ?_|refine kp (And.intro @kv_ (And.intro @e1 (@e2))) ?_
 refine Cw.loopG (G:=rws_RotG) [18,19,20,21,22,23,24,25,26,27,28,29,30,31,32,33,34,10,35,36,37,38,39,40,41,42,43,44,45,46,47,48,49,11] (fun g=> [(10,vi g.U.length),(11,vi g.V.length)]) (fun g=> [(rb,zB_ rest (g.A++ (g.U++ (g.V++g.B))))]) (fun g=>0<g.U.length∧0<g.V.length∧g.A.length+g.U.length=m∧g.A++ (g.V++ (g.U++g.B))=A++ (V++ (U++B))∧m+g.V.length+g.B.length=n) (fun g=>g.U.length+g.V.length) ⟨A,U,V,B⟩ rfl rfl ?_ ?_
 ·exact⟨hU,hV,by show A.length+U.length=m;omega,rfl,by show m+V.length+B.length=n;omega⟩
 ·intro g j hg
  refine kv ?_
  obtain⟨A',U',V',B'⟩:=g
  obtain⟨hu,hv,hA,hT,hN⟩:=hg
  dsimp only at hu hv hA hT hN ⊢
  have e3: (m:Int) - U'.length=(A'.length:Nat):=by omega
  by_cases h1:U'.length=V'.length
  ·first|with_reducible refine ks [] (And.intro @kv_ @e3) ?_|refine kp (And.intro @kv_ @e3) ?_
   refine Ow.callM rfl rfl Tryz.call225 (by simp[keys]) (fun w' hw'=>j3_ rb n c A' U' [] V' B' rest fv A'.length m U'.length w' rfl h1.symm rfl (by simp only[List.length_nil];omega) (by simp only[List.length_nil];omega) hs (hw'.has _ _ List.mem_cons_self)) ?_
   refine ko @kv_ ?_
   refine⟨_,_,_,(ke @kv_),rfl,trivial, ?_⟩
   exact⟨rfl,congrArg (zB_ rest) hT⟩
  ·by_cases h2:V'.length<U'.length
   ·obtain⟨U1,U2,rfl,hU1⟩:=agz_ U' (Nat.le_of_lt h2)
    rw[List.length_append] at hA h2 hu h1
    have e4: (m:Int) - (U1++U2).length=(A'.length:Nat):=by rw[List.length_append];omega
    first|with_reducible refine ks [] (And.intro @kv_ @e4) ?_|refine kp (And.intro @kv_ @e4) ?_
    refine Ow.callM rfl rfl Tryz.call225 (by simp[keys]) (fun w' hw'=>j3_ rb n c A' U1 U2 V' B' rest fv A'.length m V'.length w' hU1 rfl rfl (by omega) (by omega) hs (by rw[←List.append_assoc U1];exact hw'.has _ _ List.mem_cons_self)) ?_
    have e5: ((U1++U2).length:Int) - (V'.length:Int)=(U2.length:Nat):=by rw[List.length_append];omega
    refine ko (And.intro @kv_ @e5) ?_
    refine Again.mk ⟨A'++V',U2,U1,B'⟩ (by simp only[List.length_append];omega) ⟨by show 0<U2.length;omega,by show 0<U1.length;omega,by simp only[List.length_append];omega, ?_,by show m+U1.length+B'.length=n;omega⟩ ?_ ?_
    ·rw[←hT];simp only[List.append_assoc]
    ·simp only[List.append_assoc]
    ·dsimp only;rw[hU1];rfl
   ·obtain⟨V1,V2,rfl,hV1⟩:=agz_ V' (show V'.length - U'.length≤V'.length by omega)
    rw[List.length_append] at hN h2 hv h1 hV1
    have e4: (m:Int)+ (V1++V2).length - U'.length=((A'.length+U'.length+V1.length:Nat):Int):=by rw[List.length_append];omega
    first|with_reducible refine ks [] (And.intro @kv_ (And.intro @e3 (@e4))) ?_|refine kp (And.intro @kv_ (And.intro @e3 (@e4))) ?_
    refine Ow.callM rfl rfl Tryz.call225 (by simp[keys]) (fun w' hw'=>j3_ rb n c A' U' V1 V2 B' rest fv A'.length (A'.length+U'.length+V1.length) U'.length w' rfl (by omega) rfl (by omega) (by omega) hs (by rw[←List.append_assoc V1];exact hw'.has _ _ List.mem_cons_self)) ?_
    have e5: ((V1++V2).length:Int) - (U'.length:Int)=(V1.length:Nat):=by rw[List.length_append];omega
    have e6:V2.length=U'.length:=by omega
    refine ko (And.intro @kv_ @e5) ?_
    refine Again.mk ⟨A',V2,V1,U'++B'⟩ (by simp only[List.length_append];omega) ⟨by show 0<V2.length;omega,by show 0<V1.length;omega,by show A'.length+V2.length=m;omega, ?_,by simp only[List.length_append];omega⟩ ?_ ?_
    ·rw[←hT];simp only[List.append_assoc]
    ·simp only[List.append_assoc]
    ·dsimp only;rw[e6];rfl
end Go.Proofs
end
section
open Go Go.Proofs Go.Sx Go.StP
namespace Go.Proofs
set_option maxRecDepth 10000
set_option maxHeartbeats 4000000
set_option linter.unusedSimpArgs false
abbrev jl_ (a b:RwL):Bool:=StP.lt (fun r:RwL=>r.id.l) a b
abbrev zC_ (l:List RwL):Prop:=StP.Sorted (fun r:RwL=>r.id.l) l
abbrev jI_ (l l':List RwL):Prop:=StP.St (fun r:RwL=>r.id.l) l l'
theorem w1_ (a b:RwL):decide (vv_ a b<0)=jl_ a b:=by
 unfold vv_ cmpS jl_ StP.lt
 cases h:ltB a.id.l b.id.l
 ·rw[if_neg (by simp)]
  split<;>rfl
 ·rw[if_pos rfl];rfl
structure rws_InsG where
 S:List RwL
 R:List RwL
set_option linter.defProp false
def xs_:=And.intro (And.intro (@xX_) (And.intro (@xl_) (@jZ_))) (And.intro (@qL_) (And.intro (@zI_) (@w1_)))
theorem kH_ (rb n c:Nat) (A M B:List RwL) (rest:List Value) (a b:Nat) (w:World) (ha:A.length=a) (hb:b=a+M.length) (hn:n=b+B.length) (hs:n<1000000)
  (ho:w.heap[rb]? =some (zB_ rest (A++ (M++B)))):
  Rets Tryz.prog 175 #[vsl rb 0 n c,vi a,vi b, .func (.func 109) #[] #[]] w (fun v D=> ∃o,D= [(rb,o)]∧v= .tuple #[]∧ ∃M',o=zB_ rest (A++ (M'++B))∧M'.length=M.length∧zC_ M'∧jI_ M M'):=by
 cases M with
 |nil=>
  simp only[List.length_nil,Nat.add_zero] at hb
  subst hb
  refine Rets.enterM Tryz.func175 rfl (rs:= []) Tryz.results175 Tryz.ntmps175 ho ?_
  refine kf ?_
  first|with_reducible refine ks [] @xs_ ?_|refine kp @xs_ ?_
  refine Cw.loopG (G:=Unit) [12,13,14,17,9,18,19,20,21,22,23,24,25,26,27,28,29,30,31,32,33,34,37,38,39,40,41,42,43,44,45,46,47,48,49,50,51,52,35,36,15,16,8] (fun g=> [(8,vi (b+1))]) (fun g=> [(rb,zB_ rest (A++ ([]++B)))]) (fun g=>True) (fun g=>0) () rfl rfl ?_ ?_
  ·trivial
  ·intro g j hg
   refine kv ?_
   first|with_reducible refine ks [] @xs_ ?_|refine kp @xs_ ?_
   refine⟨_,_,_,(ke @xs_),rfl,trivial, ?_⟩
   exact⟨rfl,[],rfl,rfl,List.Pairwise.nil,StP.St.refl _ _⟩
 |cons x0 M=>
  refine Rets.enterM Tryz.func175 rfl (rs:= []) Tryz.results175 Tryz.ntmps175 ho ?_
  refine kf ?_
  first|with_reducible refine ks [] @xs_ ?_|refine kp @xs_ ?_
  have e0: (a:Int)+1=((a+ [x0].length:Nat):Int):=by simp
  rw[e0]
  refine Cw.loopG (G:=rws_InsG) [12,13,14,17,9,18,19,20,21,22,23,24,25,26,27,28,29,30,31,32,33,34,37,38,39,40,41,42,43,44,45,46,47,48,49,50,51,52,35,36,15,16,8] (fun g=> [(8,vi (a+g.S.length:Nat))]) (fun g=> [(rb,zB_ rest (A++ (g.S++ (g.R++B))))]) (fun g=> ∃M1,x0::M=M1++g.R∧g.S.length=M1.length∧zC_ g.S∧jI_ M1 g.S) (fun g=>g.R.length) ⟨[x0],M⟩ rfl rfl ?_ ?_
  ·exact⟨[x0],rfl,rfl,List.pairwise_singleton _ _,StP.St.refl _ _⟩
  ·intro g j hg
   refine kv ?_
   obtain⟨S,R⟩:=g
   obtain⟨M1,hM,hS1,hS2,hS3⟩:=hg
   dsimp only at hM hS1 hS2 hS3 ⊢
   have hlen:=congrArg List.length hM
   rw[List.length_cons,List.length_append] at hlen
   rw[List.length_cons] at hb
   cases R with
   |nil=>
    rw[List.length_nil] at hlen
    first|with_reducible refine ks [] @xs_ ?_|refine kp @xs_ ?_
    refine⟨_,_,_,(ke @xs_),rfl,trivial, ?_⟩
    exact⟨rfl,S,rfl,by show S.length=M.length+1;omega,hS2,by rw[show x0::M=M1 from by rw[hM,List.append_nil]];exact hS3⟩
   |cons x R=>
    rw[List.length_cons] at hlen
    have e1:A++ (S++ (x::R++B))=qX_ A S x (R++B) S.length:=by rw[Wo_ _ _ _ _ (Nat.le_refl _)];simp only[List.append_assoc,List.cons_append,List.nil_append]
    rw[e1]
    first|with_reducible refine ks [] @xs_ ?_|refine kp @xs_ ?_
    refine Cw.loopG (G:=Nat) [18,19,20,21,22,23,24,25,26,27,28,29,30,31,32,33,34,37,38,39,40,41,42,43,44,45,46,47,48,49,50,51,52,35,36,9] (fun g=> [(9,vi (a+g:Nat))]) (fun g=> [(rb,zB_ rest (qX_ A S x (R++B) g))]) (fun g=>g≤S.length∧(S.length≤g∨jl_ x (S.getD g rw0)=true)) (fun g=>g) S.length rfl rfl ?_ ?_
    ·exact⟨Nat.le_refl _, .inl (Nat.le_refl _)⟩
    ·intro k jk hk
     refine kv ?_
     obtain⟨hk1,hk2⟩:=hk
     have hl:=vT_ A S x (R++B) k
     rw[List.length_append] at hl
     have done: (k=0∨jl_ x (S.getD (k - 1) rw0)=false)→jI_ (M1++ [x]) (S.take k++x::S.drop k)∧zC_ (S.take k++x::S.drop k):=fun h=>by
      obtain⟨q1,q2⟩:=vM_ (z:=rw0) hS2 hk1 h hk2
      exact⟨(StP.St.app hS3 (StP.St.refl _ _)).trans q2,q1⟩
     first|with_reducible refine ks [] @xs_ ?_|refine kp @xs_ ?_
     by_cases hk0:k=0
     ·have e2:decide ((a:Int)< ((a+k:Nat):Int))=false:=decide_eq_false (by omega)
      refine Cw.regionS [rb] [0,1,2,3,4,5,6,7,9,10,11,12,8,13,14,15,16] [] (by kernel_rfl) (by kernel_rfl) (by kernel_rfl) ?_
      simp only[zh_, ↓zc_, ↓zb_, ↓zn_, ↓zo_,za_]
      refine kq (And.intro @xs_ @e2) ?_
      first|with_reducible refine ks [] @xs_ ?_|refine kp @xs_ ?_
      obtain⟨d1,d2⟩:=done (.inl hk0)
      refine Again.mk ⟨S.take k++x::S.drop k,R⟩ (by show R.length< (x::R).length;simp) ⟨M1++ [x],by rw[hM];simp,by simp only[List.length_append,List.length_cons,List.length_nil,List.length_take,List.length_drop];omega,d2,d1⟩ ?_ ?_
      ·rw[Zi_]
      ·dsimp only
       rw[show(S.take k++x::S.drop k).length=S.length+1 by simp only[List.length_append,List.length_cons,List.length_take,List.length_drop];omega]
       rfl
     ·have e2:decide ((a:Int)< ((a+k:Nat):Int))=true:=decide_eq_true (by omega)
      refine Cw.regionS [rb] [0,1,2,3,4,5,6,7,9,10,11,12,8,13,14,15,16] [] (by kernel_rfl) (by kernel_rfl) (by kernel_rfl) ?_
      simp only[zh_, ↓zc_, ↓zb_, ↓zn_, ↓zo_,za_]
      refine kq (And.intro @xs_ @e2) ?_
      refine Ow.callFn2 (v:=vi (vv_ x (S.getD (k - 1) rw0))) rfl rfl (by
       show Value.agg _=Value.agg (rwC x).toArray
       rw[Z4_ (z:=rw0) hk1 (by rw[ha])]) (by
       show Value.agg _=Value.agg (rwC (S.getD (k - 1) rw0)).toArray
       rw[show k=(k - 1)+1 by omega,abe_ (z:=rw0) (k:=k - 1) (by omega) (by rw[ha];omega)];rfl) Tryz.call109 (fun w' hw'=>xO_ x (S.getD (k - 1) rw0) w') ?_
      refine kq @xs_ ?_
      cases hc:jl_ x (S.getD (k - 1) rw0)
      ·first|with_reducible refine ks [] @xs_ ?_|refine kp @xs_ ?_
       obtain⟨d1,d2⟩:=done (.inr hc)
       refine Again.mk ⟨S.take k++x::S.drop k,R⟩ (by show R.length< (x::R).length;simp) ⟨M1++ [x],by rw[hM];simp,by simp only[List.length_append,List.length_cons,List.length_nil,List.length_take,List.length_drop];omega,d2,d1⟩ ?_ ?_
       ·rw[Zi_]
       ·dsimp only
        rw[show(S.take k++x::S.drop k).length=S.length+1 by simp only[List.length_append,List.length_cons,List.length_take,List.length_drop];omega]
        rfl
      ·first|with_reducible refine ks [] @xs_ ?_|refine kp @xs_ ?_
       obtain⟨k,rfl⟩: ∃q,k=q+1:=⟨k - 1,by omega⟩
       have h1:=Z4_ (z:=rw0) (a:=A) (b:=R++B) (x:=x) hk1 (show a+ (k+1)=A.length+ (k+1) by omega)
       have h2:=abe_ (z:=rw0) (a:=A) (b:=R++B) (x:=x) (k:=k) (s:=S) (by omega) (show a+k=A.length+k by omega)
       have e3:a+ (k+1) - 1=a+k:=by omega
       refine Cw.regionS [rb] [0,1,2,3,4,5,6,7,8,10,11,12,9,13,14,15,16,17] [15,17] (by kernel_rfl) (by kernel_rfl) (by kernel_rfl) ?_
       simp only[zh_, ↓zc_, ↓zb_, ↓zn_, ↓zo_,za_]
       refine kq (And.intro @xs_ (And.intro @e3 (And.intro @h1 (@h2)))) ?_
       refine Ow.store rfl rfl rfl (ke (And.intro @xs_ (And.intro @e3 (And.intro @h1 (@h2))))) ?_
       refine ko (And.intro @xs_ (And.intro @e3 (And.intro @h1 (@h2)))) ?_
       rw[Wk_ (by omega),←Nat.add_assoc,KN_ (z:=rw0) (by omega) (by rw[ha])]
       refine Again.mk k (by omega) ⟨by omega, .inr hc⟩ rfl ?_
       rw[show(((a+k+1:Nat):Int)) - 1=((a+k:Nat):Int) by omega]
       rfl
end Go.Proofs
end
section
open Go Go.Proofs Go.Sx Go.StP
namespace Go.Proofs
set_option maxRecDepth 10000
set_option maxHeartbeats 4000000
set_option linter.unusedSimpArgs false
abbrev qT_:Value:= .func (.func 109) #[] #[]
def Z8_ (rb:Nat) (A X Y B:List RwL) (rest:List Value) (v:Value) (D:zd_):Prop:=
 ∃o,D= [(rb,o)]∧v= .tuple #[]∧ ∃Z,o=zB_ rest (A++ (Z++B))∧Z.length=X.length+Y.length∧zC_ Z∧jI_ (X++Y) Z
set_option linter.defProp false
def k3_:=And.intro (And.intro (@xX_) (And.intro (@xl_) (@jZ_))) (And.intro (And.intro (@qL_) (@zI_)) (And.intro (@w1_) (@V9_)))
theorem K2_ (rb n c:Nat) (A:List RwL) (x:RwL) (Y B:List RwL) (rest:List Value) (a m b:Nat) (w:World) (ha:A.length=a) (hm:m=a+1) (hb:b=m+Y.length) (hn:n=b+B.length) (hs:n<1000000) (hY:zC_ Y)
  (ho:w.heap[rb]? =some (zB_ rest (A++ ([x]++ (Y++B))))):
  Rets Tryz.prog 176 #[vsl rb 0 n c,vi a,vi m,vi b,qT_] w (Z8_ rb A [x] Y B rest):=by
 subst hb
 refine Rets.enterM Tryz.func176 rfl (rs:= []) Tryz.results176 Tryz.ntmps176 ho ?_
 refine kf ?_
 first|with_reducible refine ks [] @k3_ ?_|refine kp @k3_ ?_
 have e0:A++x:: (Y++B)=qX_ A Y x B 0:=by rw[afH_];simp only[List.append_assoc,List.cons_append,List.nil_append]
 rw[e0]
 refine Cw.loopG (G:=BsG) [31,32,33,34,35,36,37,38,39,12,40,41,42,43,44,45,46,47,48,49,50,51,52,10,53,11] (fun g=> [(10,vi (m+g.i:Nat)),(11,vi (m+g.j:Nat))]) (fun g=> [(rb,zB_ rest (qX_ A Y x B 0))]) (fun g=>g.i≤g.j∧g.j≤Y.length∧(g.i=0∨jl_ (Y.getD (g.i - 1) rw0) x=true)∧(Y.length≤g.j∨jl_ (Y.getD g.j rw0) x=false)) (fun g=>g.j - g.i) ⟨0,Y.length⟩ rfl rfl ?_ ?_
 ·exact⟨Nat.zero_le _,Nat.le_refl _, .inl rfl, .inl (Nat.le_refl _)⟩
 ·intro g j hg
  refine kv ?_
  obtain⟨i,j⟩:=g
  obtain⟨h1,h2,h3,h4⟩:=hg
  dsimp only at h1 h2 h3 h4 ⊢
  by_cases hij:i<j
  ·have e1: (m+i+ (m+j)) / 2=m+ (i+j) / 2:=by omega
   have hl:=vT_ A Y x B 0
   first|with_reducible refine ks [] (And.intro @k3_ @e1) ?_|refine kp (And.intro @k3_ @e1) ?_
   have g1: (qX_ A Y x B 0).getD (m+ (i+j) / 2) rw0=Y.getD ((i+j) / 2) rw0:=aj7_ (Nat.zero_le _) (by omega) (by omega)
   have g2: (qX_ A Y x B 0).getD a rw0=x:=Z4_ (Nat.zero_le _) (by omega)
   refine Cw.regionS [rb] [0,1,2,3,5,6,7,4,8,9,10] [] (by kernel_rfl) (by kernel_rfl) (by kernel_rfl) ?_
   simp only[zh_, ↓zc_, ↓zb_, ↓zn_, ↓zo_,za_]
   refine kq (And.intro @k3_ (And.intro @g1 (@g2))) ?_
   refine Ow.callFn2 (v:=vi (vv_ (Y.getD ((i+j) / 2) rw0) x)) rfl rfl rfl rfl Tryz.call109 (fun w' hw'=>xO_ _ _ w') ?_
   refine kq @k3_ ?_
   cases hc:jl_ (Y.getD ((i+j) / 2) rw0) x
   ·first|with_reducible refine ks [] @k3_ ?_|refine kp @k3_ ?_
    refine Again.mk ⟨i,(i+j) / 2⟩ (by show(i+j) / 2 - i<j - i;omega) ⟨by show i≤ (i+j) / 2;omega,by show(i+j) / 2≤Y.length;omega,h3, .inr hc⟩ rfl rfl
   ·first|with_reducible refine ks [] @k3_ ?_|refine kp @k3_ ?_
    refine Again.mk ⟨(i+j) / 2+1,j⟩ (by show j - ((i+j) / 2+1)<j - i;omega) ⟨by show(i+j) / 2+1≤j;omega,h2, .inr hc,h4⟩ rfl rfl
  ·obtain rfl:i=j:=by omega
   first|with_reducible refine ks [] @k3_ ?_|refine kp @k3_ ?_
   refine Cw.loopG (G:=Nat) [55,56,57,58,61,62,63,64,65,66,67,68,69,70,71,72,73,74,75,76,59,60,13] (fun g=> [(13,vi (a+g:Nat))]) (fun g=> [(rb,zB_ rest (qX_ A Y x B g))]) (fun g=>g≤i) (fun g=>i - g) 0 rfl rfl ?_ ?_
   ·exact Nat.zero_le _
   ·intro k jk hk
    refine kv ?_
    by_cases hk1:k<i
    ·first|with_reducible refine ks [] @k3_ ?_|refine kp @k3_ ?_
     have hl:=vT_ A Y x B k
     have g1: (qX_ A Y x B k).getD (a+k) rw0=x:=Z4_ (by omega) (by omega)
     have g2: (qX_ A Y x B k).getD (a+k+1) rw0=Y.getD k rw0:=am6_ (by omega) (by omega)
     refine Cw.regionS [rb] [0,1,2,3,4,5,6,7,8,10,11,12,9,13,14,15,16,17] [15,17] (by kernel_rfl) (by kernel_rfl) (by kernel_rfl) ?_
     simp only[zh_, ↓zc_, ↓zb_, ↓zn_, ↓zo_,za_]
     refine kq (And.intro @k3_ (And.intro @g1 (@g2))) ?_
     refine Ow.store rfl rfl rfl (ke (And.intro @k3_ (And.intro @g1 (@g2)))) ?_
     refine ko (And.intro @k3_ (And.intro @g1 (@g2))) ?_
     rw[alw_ (z:=rw0) (by omega) (by omega)]
     exact Again.mk (k+1) (by omega) (by omega) rfl rfl
    ·obtain rfl:k=i:=by omega
     first|with_reducible refine ks [] @k3_ ?_|refine kp @k3_ ?_
     have hz:=Vg_ (z:=rw0) hY h2 h3 h4
     refine⟨_,_,_,(ke @k3_),rfl,trivial, ?_⟩
     exact⟨rfl,_,by rw[Zi_],by simp only[List.length_append,List.length_cons,List.length_nil,List.length_take,List.length_drop];omega,hz.1,hz.2⟩
end Go.Proofs
end
