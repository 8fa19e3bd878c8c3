/-
  Part 1 of the walk: contracts of the functions that the law reaches, and the calculus they stand on.
  No conditions.
-/
import Derived.Test.YtooklcgflocbcaaGreatDoorL0
import Derived.Test.YtooklcgflocbcaaGreatDoorProg
import Derived.RangeFuncLeaves
import Derived.RangeFuncIn
import Derived.RangeFuncSeq
import Derived.RangeFuncRecord
import Derived.TacticsIn
import Derived.Lib.Small
import Derived.Lib.Walk
import Derived.Lib.Bytealg
import Derived.Deep.Draws
import Derived.Deep.QuietTactic
section
namespace Go.Sx
open Go
set_option maxRecDepth 100000
set_option linter.defProp false
def S0:=And.intro (And.intro (And.intro (And.intro (And.intro (And.intro (@ama_) (And.intro (@anc_) (@aoH_))) (And.intro (@alm_) (And.intro (@ahh_) (@alf_)))) (And.intro (And.intro (@ah1_) (And.intro (@am6_) (@aek_))) (And.intro (And.intro (@abV_) (@aad_)) (And.intro (@ajK_) (@WJ_))))) (And.intro (And.intro (And.intro (@aj1_) (And.intro (@alq_) (@aeI_))) (And.intro (And.intro (@aj8_) (@ab3_)) (And.intro (@apr_) (@aoV_)))) (And.intro (And.intro (@ajZ_) (And.intro (@acZ_) (@aif_))) (And.intro (And.intro (@an4_) (@ahU_)) (And.intro (@K6_) (@W5_)))))) (And.intro (And.intro (And.intro (And.intro (@alh_) (And.intro (@ahg_) (@al8_))) (And.intro (@agw_) (And.intro (@ah0_) (@aol_)))) (And.intro (And.intro (@aos_) (And.intro (@JN_) (@ZN_))) (And.intro (And.intro (@ac8_) (@aha_)) (And.intro (@WV_) (@ahT_))))) (And.intro (And.intro (And.intro (@al5_) (And.intro (@agm_) (@Jj_))) (And.intro (And.intro (@ack_) (@VC_)) (And.intro (@akF_) (@alM_)))) (And.intro (And.intro (@aox_) (And.intro (@amz_) (@z8_))) (And.intro (And.intro (@anf_) (@akr_)) (And.intro (@apm_) (@z3_))))))) (And.intro (And.intro (And.intro (And.intro (And.intro (@z4_) (And.intro (@zp_) (@zq_))) (And.intro (@ady_) (And.intro (@Vp_) (@alR_)))) (And.intro (And.intro (@amy_) (And.intro (@aji_) (@afY_))) (And.intro (And.intro (@apg_) (@af2_)) (And.intro (@aiQ_) (@ald_))))) (And.intro (And.intro (And.intro (@alY_) (And.intro (@aj0_) (@akt_))) (And.intro (And.intro (@alw_) (@amR_)) (And.intro (@am3_) (@aoZ_)))) (And.intro (And.intro (@aiq_) (And.intro (@alD_) (@amh_))) (And.intro (And.intro (@alt_) (@aoQ_)) (And.intro (@aiX_) (@aiE_)))))) (And.intro (And.intro (And.intro (And.intro (@amr_) (And.intro (@ag0_) (@ai9_))) (And.intro (And.intro (@am7_) (@akq_)) (And.intro (@aiU_) (@aoD_)))) (And.intro (And.intro (@an2_) (And.intro (@aoj_) (@apo_))) (And.intro (And.intro (@anP_) (@amD_)) (And.intro (@al9_) (@alv_))))) (And.intro (And.intro (And.intro (@amM_) (And.intro (@amj_) (@alz_))) (And.intro (And.intro (@al4_) (@amV_)) (And.intro (@anU_) (@alp_)))) (And.intro (And.intro (@arR_) (And.intro (@aqi_) (@aqK_))) (And.intro (And.intro (@aqO_) (@ang_)) (And.intro (@aix_) (@ais_)))))))
def S1:=And.intro (And.intro (And.intro (And.intro (And.intro (And.intro (And.intro (And.intro (@amo_) (@apx_)) (And.intro (@aoW_) (And.intro (@apY_) (@aoq_)))) (And.intro (And.intro (@aqx_) (@qY_)) (And.intro (@qX_) (And.intro (@z0_) (@aiS_))))) (And.intro (And.intro (And.intro (@agk_) (@adQ_)) (And.intro (@amu_) (And.intro (@aaN_) (@anl_)))) (And.intro (And.intro (@al6_) (@beq_true)) (And.intro (@beq_false) (And.intro (@Bool.not_true) (@Bool.not_false)))))) (And.intro (And.intro (And.intro (And.intro (@Md.next_seq) (@Md.next_any)) (And.intro (@Md.next_qui) (And.intro (@Md.next_sof) (@adY_)))) (And.intro (And.intro (@acH_) (@ac4_)) (And.intro (@Vk_) (And.intro (@KW_) (@Vm_))))) (And.intro (And.intro (And.intro (@apL_) (@apC_)) (And.intro (@amL_) (And.intro (@al3_) (@ano_)))) (And.intro (And.intro (@aqt_) (And.intro (@apf_) (@aps_))) (And.intro (@ao8_) (And.intro (@anS_) (@aog_))))))) (And.intro (And.intro (And.intro (And.intro (And.intro (@ahv_) (@ahr_)) (And.intro (@afX_) (And.intro (@ahG_) (@ajB_)))) (And.intro (And.intro (@agG_) (@agb_)) (And.intro (@V2_) (And.intro (@ahj_) (@agD_))))) (And.intro (And.intro (And.intro (@ag7_) (@ahA_)) (And.intro (@ag3_) (And.intro (@agX_) (@akh_)))) (And.intro (And.intro (@aex_) (And.intro (@Xx_) (@ag8_))) (And.intro (@Wr_) (And.intro (@Wx_) (@Jm_)))))) (And.intro (And.intro (And.intro (And.intro (@Jz_) (@WS_)) (And.intro (@aae_) (And.intro (@aht_) (@KV_)))) (And.intro (And.intro (@Va_) (@acT_)) (And.intro (@K5_) (And.intro (@Vu_) (@adJ_))))) (And.intro (And.intro (And.intro (@KX_) (@KS_)) (And.intro (@acw_) (And.intro (@adb_) (@adA_)))) (And.intro (And.intro (@aeO_) (And.intro (@adG_) (@afZ_))) (And.intro (@ad5_) (And.intro (@adF_) (@adj_)))))))) (And.intro (And.intro (And.intro (And.intro (And.intro (And.intro (@aeh_) (@adt_)) (And.intro (@adh_) (And.intro (@adK_) (@aey_)))) (And.intro (And.intro (@ad7_) (@aho_)) (And.intro (@ace_) (And.intro (@Jv_) (@aeJ_))))) (And.intro (And.intro (And.intro (@KZ_) (@Vf_)) (And.intro (@QK_) (And.intro (@Qk_) (@Vz_)))) (And.intro (And.intro (@Vr_) (And.intro (@acS_) (@XN_))) (And.intro (@X8_) (And.intro (@aaH_) (@Xy_)))))) (And.intro (And.intro (And.intro (And.intro (@XU_) (@ab9_)) (And.intro (@Xm_) (And.intro (@X9_) (@abv_)))) (And.intro (And.intro (@aej_) (@acB_)) (And.intro (@acD_) (And.intro (@adW_) (@agt_))))) (And.intro (And.intro (And.intro (@adp_) (@kC_)) (And.intro (@kq_) (And.intro (@ad6_) (@adV_)))) (And.intro (And.intro (@adf_) (And.intro (@adg_) (@adR_))) (And.intro (@acz_) (And.intro (@af5_) (@ab1_))))))) (And.intro (And.intro (And.intro (And.intro (And.intro (@Jw_) (@adU_)) (And.intro (@K2_) (And.intro (@Vx_) (@QM_)))) (And.intro (And.intro (@Qu_) (@Vv_)) (And.intro (@K4_) (And.intro (@aeP_) (@Xa_))))) (And.intro (And.intro (And.intro (@Kf_) (@ab2_)) (And.intro (@Ku_) (And.intro (@X0_) (@aby_)))) (And.intro (And.intro (@XK_) (And.intro (@Xi_) (@acr_))) (And.intro (@aeE_) (And.intro (@aeQ_) (@aeu_)))))) (And.intro (And.intro (And.intro (And.intro (@adn_) (@ahk_)) (And.intro (@adB_) (And.intro (@acI_) (@aeq_)))) (And.intro (And.intro (@aec_) (@acP_)) (And.intro (@adv_) (And.intro (@adN_) (@aeS_))))) (And.intro (And.intro (And.intro (@acN_) (@af3_)) (And.intro (@aa0_) (And.intro (@Jp_) (@adc_)))) (And.intro (And.intro (@K0_) (And.intro (@K1_) (@QL_))) (And.intro (@Qo_) (And.intro (@K7_) (@Vo_))))))))) (And.intro (And.intro (And.intro (And.intro (And.intro (And.intro (And.intro (@adZ_) (@XL_)) (And.intro (@KG_) (And.intro (@abD_) (@Kt_)))) (And.intro (And.intro (@XM_) (@abT_)) (And.intro (@Kl_) (And.intro (@Xz_) (@aa2_))))) (And.intro (And.intro (And.intro (@akg_) (@ajS_)) (And.intro (@abN_) (And.intro (@akI_) (@aiY_)))) (And.intro (And.intro (@akP_) (And.intro (@ajl_) (@aiu_))) (And.intro (@ajk_) (And.intro (@aky_) (@ajO_)))))) (And.intro (And.intro (And.intro (And.intro (@ane_) (@aqS_)) (And.intro (@aaM_) (And.intro (@aik_) (@aiR_)))) (And.intro (And.intro (@ai7_) (@ajT_)) (And.intro (@ajr_) (And.intro (@aiG_) (@akJ_))))) (And.intro (And.intro (And.intro (@apj_) (@ain_)) (And.intro (@apa_) (And.intro (@abE_) (@aa9_)))) (And.intro (And.intro (@ZB_) (And.intro (@apV_) (@ap0_))) (And.intro (@all_) (And.intro (@ag2_) (@aeB_))))))) (And.intro (And.intro (And.intro (And.intro (And.intro (@adm_) (@acO_)) (And.intro (@agr_) (And.intro (@aoX_) (@aoG_)))) (And.intro (And.intro (@akL_) (@acK_)) (And.intro (@abw_) (And.intro (@aaI_) (@abc_))))) (And.intro (And.intro (And.intro (@adC_) (@apt_)) (And.intro (@anT_) (And.intro (@aj9_) (@acv_)))) (And.intro (And.intro (@aaG_) (And.intro (@ab8_) (@aaV_))) (And.intro (@adT_) (And.intro (@anV_) (@aow_)))))) (And.intro (And.intro (And.intro (And.intro (@akx_) (@acx_)) (And.intro (@abW_) (And.intro (@abm_) (@abl_)))) (And.intro (And.intro (@aez_) (@aqs_)) (And.intro (@apS_) (And.intro (@amZ_) (@agF_))))) (And.intro (And.intro (And.intro (@ac3_) (@ad9_)) (And.intro (@aeF_) (And.intro (@agu_) (@al2_)))) (And.intro (And.intro (@amJ_) (And.intro (@WE_) (@aoI_))) (And.intro (@ac0_) (And.intro (@Wv_) (@xd_)))))))) (And.intro (And.intro (And.intro (And.intro (And.intro (And.intro (@arS_) (@an8_)) (And.intro (@apU_) (And.intro (@aqR_) (@WD_)))) (And.intro (And.intro (@Vc_) (@zT_)) (And.intro (@qw_) (And.intro (@j1_) (@jK_))))) (And.intro (And.intro (And.intro (@zH_) (@zG_)) (And.intro (@ali_) (And.intro (@amv_) (@ajm_)))) (And.intro (And.intro (@al7_) (And.intro (@XH_) (@age_))) (And.intro (@wR_) (And.intro (@af9_) (@adM_)))))) (And.intro (And.intro (And.intro (And.intro (@ame_) (@aiL_)) (And.intro (@QQ_) (And.intro (@am1_) (@ahV_)))) (And.intro (And.intro (@ail_) (@aqe_)) (And.intro (@aqk_) (And.intro (@Option.map_some.{0,0}) (@Option.map_none.{0,0}))))) (And.intro (And.intro (And.intro (@WF_) (@Wq_)) (And.intro (@Q1_) (And.intro (@agz_) (@Ww_)))) (And.intro (And.intro (@Wp_) (And.intro (@aac_) (@amf_))) (And.intro (@aln_) (And.intro (@or_i) (@arp_))))))) (And.intro (And.intro (And.intro (And.intro (And.intro (@WM_) (@W1_)) (And.intro (@Vj_) (And.intro (@zc_) (@List.cons_append.{0})))) (And.intro (And.intro (@List.nil_append.{0}) (@List.contains_cons.{0})) (And.intro (@List.contains_nil.{0}) (And.intro (@Bool.or_false) (@Bool.false_or))))) (And.intro (And.intro (And.intro (@Bool.or_true) (@Bool.true_or)) (And.intro (@Bool.false_eq_true) (And.intro (@abU_) (@Zl_)))) (And.intro (And.intro (@V3_) (And.intro (@afa_) (@ajc_))) (And.intro (@Nat.add_sub_cancel_left) (And.intro (@List.set_set.{0}) (@Int.toNat_natCast)))))) (And.intro (And.intro (And.intro (And.intro (@Nat.mul_one) (@Nat.zero_add)) (And.intro (@Nat.add_zero) (And.intro (@ge_iff_le.{0}) (@gt_iff_lt.{0})))) (And.intro (And.intro (@beq_self_eq_true.{0}) (@ar5_)) (And.intro (@arB_) (And.intro (@alx_) (@alF_))))) (And.intro (And.intro (And.intro (@ap9_) (@aqI_)) (And.intro (@aqM_) (And.intro (@ap7_) (@arK_)))) (And.intro (And.intro (@arx_) (And.intro (@ao5_) (@aoa_))) (And.intro (@aqJ_) (And.intro (@aof_) (@aoP_)))))))))
end Go.Sx
end
section
open Go Go.Proofs Go.Sx
namespace Go.Proofs
theorem Tryz.ix9:ixT Tryz.prog 9= .str:=id (by kernel_rfl)
theorem Tryz.ix22:ixT Tryz.prog 22= .sl (true,3):=id (by kernel_rfl)
theorem Tryz.ix30:ixT Tryz.prog 30= .sl (true,32):=id (by kernel_rfl)
theorem Tryz.ix57:ixT Tryz.prog 57= .sl (false,1):=id (by kernel_rfl)
theorem Tryz.ix70:ixT Tryz.prog 70= .sl (true,35):=id (by kernel_rfl)
theorem Tryz.ix58:ixT Tryz.prog 58= .sl (true,35):=id (by kernel_rfl)
theorem Tryz.ix81:ixT Tryz.prog 81= .sl (true,34):=id (by kernel_rfl)
theorem Tryz.ix29:ixT Tryz.prog 29= .sl (true,2):=id (by kernel_rfl)
theorem Tryz.ix28:ixT Tryz.prog 28= .sl (false,1):=id (by kernel_rfl)
theorem Tryz.ix54:ixT Tryz.prog 54= .sl (true,2):=id (by kernel_rfl)
theorem Tryz.ix155:ixT Tryz.prog 155= .sl (false,1):=id (by kernel_rfl)
theorem Tryz.ix61:ixT Tryz.prog 61= .sl (true,2):=id (by kernel_rfl)
theorem Tryz.ix83:ixT Tryz.prog 83= .sl (true,34):=id (by kernel_rfl)
theorem Tryz.ix176:ixT Tryz.prog 176= .arr 16 (false,1):=id (by kernel_rfl)
theorem Tryz.ix37:ixT Tryz.prog 37= .arr 32 (false,1):=id (by kernel_rfl)
theorem Tryz.ix204:ixT Tryz.prog 204= .arr 4 (false,1):=id (by kernel_rfl)
theorem Tryz.ix119:ixT Tryz.prog 119= .sl (false,1):=id (by kernel_rfl)
theorem Tryz.ix223:ixT Tryz.prog 223= .arr 64 (false,1):=id (by kernel_rfl)
theorem Tryz.ix244:ixT Tryz.prog 244= .arr 8 (false,1):=id (by kernel_rfl)
theorem Tryz.ix237:ixT Tryz.prog 237= .sl (true,34):=id (by kernel_rfl)
theorem Tryz.ix273:ixT Tryz.prog 273= .arr 8 (false,1):=id (by kernel_rfl)
theorem Tryz.ix274:ixT Tryz.prog 274= .arr 64 (false,1):=id (by kernel_rfl)
theorem Tryz.ix292:ixT Tryz.prog 292= .arr 4 (false,1):=id (by kernel_rfl)
theorem Tryz.ix297:ixT Tryz.prog 297= .arr 16 (false,1):=id (by kernel_rfl)
theorem Tryz.ix263:ixT Tryz.prog 263= .sl (true,2):=id (by kernel_rfl)
theorem Tryz.ag32:z2_ Tryz.prog 32=some (true,4):=id (by kernel_rfl)
theorem Tryz.ag37:z2_ Tryz.prog 37=some (true,32):=id (by kernel_rfl)
theorem Tryz.ag43:z2_ Tryz.prog 43=some (true,2):=id (by kernel_rfl)
theorem Tryz.ag30:z2_ Tryz.prog 30=some (false,1):=id (by kernel_rfl)
theorem Tryz.ag74:z2_ Tryz.prog 74=some (true,35):=id (by kernel_rfl)
theorem Tryz.ag75:z2_ Tryz.prog 75=some (true,35):=id (by kernel_rfl)
theorem Tryz.ag3:z2_ Tryz.prog 3=some (false,1):=id (by kernel_rfl)
theorem Tryz.ag9:z2_ Tryz.prog 9=some (false,1):=id (by kernel_rfl)
theorem Tryz.ag104:z2_ Tryz.prog 104=some (true,34):=id (by kernel_rfl)
theorem Tryz.ag107:z2_ Tryz.prog 107=some (true,34):=id (by kernel_rfl)
theorem Tryz.ag114:z2_ Tryz.prog 114=some (true,3):=id (by kernel_rfl)
theorem Tryz.ag117:z2_ Tryz.prog 117=some (true,4):=id (by kernel_rfl)
theorem Tryz.ag123:z2_ Tryz.prog 123=some (true,2):=id (by kernel_rfl)
theorem Tryz.ag4:z2_ Tryz.prog 4=some (false,1):=id (by kernel_rfl)
theorem Tryz.ag29:z2_ Tryz.prog 29=some (false,1):=id (by kernel_rfl)
theorem Tryz.ag137:z2_ Tryz.prog 137=some (true,3):=id (by kernel_rfl)
theorem Tryz.ag22:z2_ Tryz.prog 22=some (false,1):=id (by kernel_rfl)
theorem Tryz.ag28:z2_ Tryz.prog 28=some (false,1):=id (by kernel_rfl)
theorem Tryz.ag134:z2_ Tryz.prog 134=some (false,1):=id (by kernel_rfl)
theorem Tryz.ag148:z2_ Tryz.prog 148=some (true,2):=id (by kernel_rfl)
theorem Tryz.ag154:z2_ Tryz.prog 154=some (true,3):=id (by kernel_rfl)
theorem Tryz.ag57:z2_ Tryz.prog 57=some (false,1):=id (by kernel_rfl)
theorem Tryz.ag70:z2_ Tryz.prog 70=some (false,1):=id (by kernel_rfl)
theorem Tryz.ag158:z2_ Tryz.prog 158=some (true,2):=id (by kernel_rfl)
theorem Tryz.ag166:z2_ Tryz.prog 166=some (true,3):=id (by kernel_rfl)
theorem Tryz.ag5:z2_ Tryz.prog 5=some (false,1):=id (by kernel_rfl)
theorem Tryz.ag81:z2_ Tryz.prog 81=some (false,1):=id (by kernel_rfl)
theorem Tryz.ag93:z2_ Tryz.prog 93=some (false,1):=id (by kernel_rfl)
theorem Tryz.ag204:z2_ Tryz.prog 204=some (true,4):=id (by kernel_rfl)
theorem Tryz.ag212:z2_ Tryz.prog 212=some (true,3):=id (by kernel_rfl)
theorem Tryz.ag25:z2_ Tryz.prog 25=some (false,1):=id (by kernel_rfl)
theorem Tryz.ag178:z2_ Tryz.prog 178=some (true,18):=id (by kernel_rfl)
theorem Tryz.ag223:z2_ Tryz.prog 223=some (true,64):=id (by kernel_rfl)
theorem Tryz.ag228:z2_ Tryz.prog 228=some (false,1):=id (by kernel_rfl)
theorem Tryz.ag119:z2_ Tryz.prog 119=some (false,1):=id (by kernel_rfl)
theorem Tryz.ag241:z2_ Tryz.prog 241=some (true,34):=id (by kernel_rfl)
theorem Tryz.ag244:z2_ Tryz.prog 244=some (true,8):=id (by kernel_rfl)
theorem Tryz.ag202:z2_ Tryz.prog 202=some (false,1):=id (by kernel_rfl)
theorem Tryz.ag260:z2_ Tryz.prog 260=some (true,75):=id (by kernel_rfl)
theorem Tryz.ag118:z2_ Tryz.prog 118=some (false,1):=id (by kernel_rfl)
theorem Tryz.ag268:z2_ Tryz.prog 268=some (true,34):=id (by kernel_rfl)
theorem Tryz.ag273:z2_ Tryz.prog 273=some (true,8):=id (by kernel_rfl)
theorem Tryz.ag274:z2_ Tryz.prog 274=some (true,64):=id (by kernel_rfl)
theorem Tryz.ag292:z2_ Tryz.prog 292=some (true,4):=id (by kernel_rfl)
theorem Tryz.ag294:z2_ Tryz.prog 294=some (true,36):=id (by kernel_rfl)
theorem Tryz.ag291:z2_ Tryz.prog 291=some (false,1):=id (by kernel_rfl)
theorem Tryz.ag258:z2_ Tryz.prog 258=some (false,1):=id (by kernel_rfl)
theorem Tryz.ag300:z2_ Tryz.prog 300=some (true,2):=id (by kernel_rfl)
theorem Tryz.ag298:z2_ Tryz.prog 298=some (false,1):=id (by kernel_rfl)
theorem Tryz.ag305:z2_ Tryz.prog 305=some (false,1):=id (by kernel_rfl)
theorem Tryz.ag237:z2_ Tryz.prog 237=some (false,1):=id (by kernel_rfl)
theorem Tryz.ag297:z2_ Tryz.prog 297=some (true,16):=id (by kernel_rfl)
theorem Tryz.zr37:zE_ Tryz.prog 37=some (.agg (a8 (List.replicate 32 0))):=id (by kernel_rfl)
theorem Tryz.zr123:zE_ Tryz.prog 123=some (.agg #[(.pointer none),(.slice none 0 0)]):=id (by kernel_rfl)
theorem Tryz.zr9:zE_ Tryz.prog 9=some (vs []):=id (by kernel_rfl)
theorem Tryz.zr204:zE_ Tryz.prog 204=some (.agg (a8 (List.replicate 4 0))):=id (by kernel_rfl)
theorem Tryz.zr5:zE_ Tryz.prog 5=some (v8 0):=id (by kernel_rfl)
theorem Tryz.zr223:zE_ Tryz.prog 223=some (.agg (a8 (List.replicate 64 0))):=id (by kernel_rfl)
theorem Tryz.zr244:zE_ Tryz.prog 244=some (.agg (a32 (List.replicate 8 0))):=id (by kernel_rfl)
theorem Tryz.zr273:zE_ Tryz.prog 273=some (.agg (a8 (List.replicate 8 0))):=id (by kernel_rfl)
theorem Tryz.zr274:zE_ Tryz.prog 274=some (.agg (a32 (List.replicate 64 0))):=id (by kernel_rfl)
theorem Tryz.fl32_3:jr_ Tryz.prog 32 3=some (3,(false,1)):=id (by kernel_rfl)
theorem Tryz.fl74_0:jr_ Tryz.prog 74 0=some (0,(true,32)):=id (by kernel_rfl)
theorem Tryz.fl74_1:jr_ Tryz.prog 74 1=some (32,(false,1)):=id (by kernel_rfl)
theorem Tryz.fl74_2:jr_ Tryz.prog 74 2=some (33,(false,1)):=id (by kernel_rfl)
theorem Tryz.fl74_3:jr_ Tryz.prog 74 3=some (34,(false,1)):=id (by kernel_rfl)
theorem Tryz.fl107_0:jr_ Tryz.prog 107 0=some (0,(true,32)):=id (by kernel_rfl)
theorem Tryz.fl107_1:jr_ Tryz.prog 107 1=some (32,(false,1)):=id (by kernel_rfl)
theorem Tryz.fl107_2:jr_ Tryz.prog 107 2=some (33,(false,1)):=id (by kernel_rfl)
theorem Tryz.fl104_0:jr_ Tryz.prog 104 0=some (0,(true,32)):=id (by kernel_rfl)
theorem Tryz.fl104_1:jr_ Tryz.prog 104 1=some (32,(false,1)):=id (by kernel_rfl)
theorem Tryz.fl104_2:jr_ Tryz.prog 104 2=some (33,(false,1)):=id (by kernel_rfl)
theorem Tryz.fl114_2:jr_ Tryz.prog 114 2=some (2,(false,1)):=id (by kernel_rfl)
theorem Tryz.fl114_0:jr_ Tryz.prog 114 0=some (0,(false,1)):=id (by kernel_rfl)
theorem Tryz.fl114_1:jr_ Tryz.prog 114 1=some (1,(false,1)):=id (by kernel_rfl)
theorem Tryz.fl32_2:jr_ Tryz.prog 32 2=some (2,(false,1)):=id (by kernel_rfl)
theorem Tryz.fl137_1:jr_ Tryz.prog 137 1=some (1,(false,1)):=id (by kernel_rfl)
theorem Tryz.fl137_2:jr_ Tryz.prog 137 2=some (2,(false,1)):=id (by kernel_rfl)
theorem Tryz.fl137_0:jr_ Tryz.prog 137 0=some (0,(false,1)):=id (by kernel_rfl)
theorem Tryz.fl32_1:jr_ Tryz.prog 32 1=some (1,(false,1)):=id (by kernel_rfl)
theorem Tryz.fl117_3:jr_ Tryz.prog 117 3=some (3,(false,1)):=id (by kernel_rfl)
theorem Tryz.fl117_0:jr_ Tryz.prog 117 0=some (0,(false,1)):=id (by kernel_rfl)
theorem Tryz.fl117_2:jr_ Tryz.prog 117 2=some (2,(false,1)):=id (by kernel_rfl)
theorem Tryz.fl117_1:jr_ Tryz.prog 117 1=some (1,(false,1)):=id (by kernel_rfl)
theorem Tryz.fl32_0:jr_ Tryz.prog 32 0=some (0,(false,1)):=id (by kernel_rfl)
theorem Tryz.fl75_2:jr_ Tryz.prog 75 2=some (33,(false,1)):=id (by kernel_rfl)
theorem Tryz.fl148_1:jr_ Tryz.prog 148 1=some (1,(false,1)):=id (by kernel_rfl)
theorem Tryz.fl148_0:jr_ Tryz.prog 148 0=some (0,(false,1)):=id (by kernel_rfl)
theorem Tryz.fl154_0:jr_ Tryz.prog 154 0=some (0,(false,1)):=id (by kernel_rfl)
theorem Tryz.fl154_1:jr_ Tryz.prog 154 1=some (1,(false,1)):=id (by kernel_rfl)
theorem Tryz.fl154_2:jr_ Tryz.prog 154 2=some (2,(false,1)):=id (by kernel_rfl)
theorem Tryz.fl158_0:jr_ Tryz.prog 158 0=some (0,(false,1)):=id (by kernel_rfl)
theorem Tryz.fl158_1:jr_ Tryz.prog 158 1=some (1,(false,1)):=id (by kernel_rfl)
theorem Tryz.fl75_1:jr_ Tryz.prog 75 1=some (32,(false,1)):=id (by kernel_rfl)
theorem Tryz.fl75_3:jr_ Tryz.prog 75 3=some (34,(false,1)):=id (by kernel_rfl)
theorem Tryz.fl178_2:jr_ Tryz.prog 178 2=some (2,(true,16)):=id (by kernel_rfl)
theorem Tryz.fl178_0:jr_ Tryz.prog 178 0=some (0,(false,1)):=id (by kernel_rfl)
theorem Tryz.fl178_1:jr_ Tryz.prog 178 1=some (1,(false,1)):=id (by kernel_rfl)
theorem Tryz.fl123_0:jr_ Tryz.prog 123 0=some (0,(true,2)):=id (by kernel_rfl)
theorem Tryz.fl43_0:jr_ Tryz.prog 43 0=some (0,(false,1)):=id (by kernel_rfl)
theorem Tryz.fl43_1:jr_ Tryz.prog 43 1=some (1,(false,1)):=id (by kernel_rfl)
theorem Tryz.fl212_1:jr_ Tryz.prog 212 1=some (1,(false,1)):=id (by kernel_rfl)
theorem Tryz.fl212_0:jr_ Tryz.prog 212 0=some (0,(false,1)):=id (by kernel_rfl)
theorem Tryz.fl166_2:jr_ Tryz.prog 166 2=some (2,(false,1)):=id (by kernel_rfl)
theorem Tryz.fl166_1:jr_ Tryz.prog 166 1=some (1,(false,1)):=id (by kernel_rfl)
theorem Tryz.fl75_0:jr_ Tryz.prog 75 0=some (0,(true,32)):=id (by kernel_rfl)
theorem Tryz.fl212_2:jr_ Tryz.prog 212 2=some (2,(false,1)):=id (by kernel_rfl)
theorem Tryz.fl166_0:jr_ Tryz.prog 166 0=some (0,(false,1)):=id (by kernel_rfl)
theorem Tryz.fl121_1:jr_ Tryz.prog 121 1=some (1,(false,1)):=id (by kernel_rfl)
theorem Tryz.fl121_0:jr_ Tryz.prog 121 0=some (0,(false,1)):=id (by kernel_rfl)
theorem Tryz.fl268_1:jr_ Tryz.prog 268 1=some (1,(false,1)):=id (by kernel_rfl)
theorem Tryz.fl268_0:jr_ Tryz.prog 268 0=some (0,(false,1)):=id (by kernel_rfl)
theorem Tryz.fl268_2:jr_ Tryz.prog 268 2=some (2,(true,32)):=id (by kernel_rfl)
theorem Tryz.fl241_0:jr_ Tryz.prog 241 0=some (0,(true,32)):=id (by kernel_rfl)
theorem Tryz.fl241_1:jr_ Tryz.prog 241 1=some (32,(false,1)):=id (by kernel_rfl)
theorem Tryz.fl241_2:jr_ Tryz.prog 241 2=some (33,(false,1)):=id (by kernel_rfl)
theorem Tryz.fl260_4:jr_ Tryz.prog 260 4=some (74,(false,1)):=id (by kernel_rfl)
theorem Tryz.fl260_3:jr_ Tryz.prog 260 3=some (73,(false,1)):=id (by kernel_rfl)
theorem Tryz.fl260_1:jr_ Tryz.prog 260 1=some (1,(true,8)):=id (by kernel_rfl)
theorem Tryz.fl300_0:jr_ Tryz.prog 300 0=some (0,(false,1)):=id (by kernel_rfl)
theorem Tryz.fl300_1:jr_ Tryz.prog 300 1=some (1,(false,1)):=id (by kernel_rfl)
theorem Tryz.fl294_0:jr_ Tryz.prog 294 0=some (0,(false,1)):=id (by kernel_rfl)
theorem Tryz.fl294_1:jr_ Tryz.prog 294 1=some (1,(false,1)):=id (by kernel_rfl)
theorem Tryz.fl294_2:jr_ Tryz.prog 294 2=some (2,(true,34)):=id (by kernel_rfl)
theorem Tryz.fl260_0:jr_ Tryz.prog 260 0=some (0,(false,1)):=id (by kernel_rfl)
theorem Tryz.fl260_2:jr_ Tryz.prog 260 2=some (9,(true,64)):=id (by kernel_rfl)
theorem Tryz.cv5_3:cvT Tryz.prog 5 3= .int .i64:=id (by kernel_rfl)
theorem Tryz.cv3_5:cvT Tryz.prog 3 5= .int .u8:=id (by kernel_rfl)
theorem Tryz.cv202_5:cvT Tryz.prog 202 5= .int .u8:=id (by kernel_rfl)
theorem Tryz.cv119_9:cvT Tryz.prog 119 9= .bytesStr:=id (by kernel_rfl)
theorem Tryz.cv3_221:cvT Tryz.prog 3 221= .int .u64:=id (by kernel_rfl)
theorem Tryz.cv221_3:cvT Tryz.prog 221 3= .int .i64:=id (by kernel_rfl)
theorem Tryz.cv118_261:cvT Tryz.prog 118 261= .no:=id (by kernel_rfl)
theorem Tryz.cv261_118:cvT Tryz.prog 261 118= .no:=id (by kernel_rfl)
theorem Tryz.cv3_258:cvT Tryz.prog 3 258= .int .u64:=id (by kernel_rfl)
theorem Tryz.cv258_5:cvT Tryz.prog 258 5= .int .u8:=id (by kernel_rfl)
theorem Tryz.cv5_202:cvT Tryz.prog 5 202= .int .u32:=id (by kernel_rfl)
theorem Tryz.cv221_202:cvT Tryz.prog 221 202= .int .u32:=id (by kernel_rfl)
theorem Tryz.cv3_301:cvT Tryz.prog 3 301= .no:=id (by kernel_rfl)
theorem Tryz.cv3_305:cvT Tryz.prog 3 305= .int .u64:=id (by kernel_rfl)
theorem Tryz.cv301_3:cvT Tryz.prog 301 3= .no:=id (by kernel_rfl)
set_option linter.defProp false
def Tryz.fx:=And.intro (And.intro (And.intro (And.intro (And.intro (And.intro (And.intro (@Tryz.ix9) (@Tryz.ix22)) (And.intro (@Tryz.ix30) (@Tryz.ix57))) (And.intro (And.intro (@Tryz.ix70) (@Tryz.ix58)) (And.intro (@Tryz.ix81) (And.intro (@Tryz.ix29) (@Tryz.ix28))))) (And.intro (And.intro (And.intro (@Tryz.ix54) (@Tryz.ix155)) (And.intro (@Tryz.ix61) (And.intro (@Tryz.ix83) (@Tryz.ix176)))) (And.intro (And.intro (@Tryz.ix37) (@Tryz.ix204)) (And.intro (@Tryz.ix119) (And.intro (@Tryz.ix223) (@Tryz.ix244)))))) (And.intro (And.intro (And.intro (And.intro (@Tryz.ix237) (@Tryz.ix273)) (And.intro (@Tryz.ix274) (And.intro (@Tryz.ix292) (@Tryz.ix297)))) (And.intro (And.intro (@Tryz.ix263) (@Tryz.ag32)) (And.intro (@Tryz.ag37) (And.intro (@Tryz.ag43) (@Tryz.ag30))))) (And.intro (And.intro (And.intro (@Tryz.ag74) (@Tryz.ag75)) (And.intro (@Tryz.ag3) (And.intro (@Tryz.ag9) (@Tryz.ag104)))) (And.intro (And.intro (@Tryz.ag107) (@Tryz.ag114)) (And.intro (@Tryz.ag117) (And.intro (@Tryz.ag123) (@Tryz.ag4))))))) (And.intro (And.intro (And.intro (And.intro (And.intro (@Tryz.ag29) (@Tryz.ag137)) (And.intro (@Tryz.ag22) (@Tryz.ag28))) (And.intro (And.intro (@Tryz.ag134) (@Tryz.ag148)) (And.intro (@Tryz.ag154) (And.intro (@Tryz.ag57) (@Tryz.ag70))))) (And.intro (And.intro (And.intro (@Tryz.ag158) (@Tryz.ag166)) (And.intro (@Tryz.ag5) (And.intro (@Tryz.ag81) (@Tryz.ag93)))) (And.intro (And.intro (@Tryz.ag204) (@Tryz.ag212)) (And.intro (@Tryz.ag25) (And.intro (@Tryz.ag178) (@Tryz.ag223)))))) (And.intro (And.intro (And.intro (And.intro (@Tryz.ag228) (@Tryz.ag119)) (And.intro (@Tryz.ag241) (And.intro (@Tryz.ag244) (@Tryz.ag202)))) (And.intro (And.intro (@Tryz.ag260) (@Tryz.ag118)) (And.intro (@Tryz.ag268) (And.intro (@Tryz.ag273) (@Tryz.ag274))))) (And.intro (And.intro (And.intro (@Tryz.ag292) (@Tryz.ag294)) (And.intro (@Tryz.ag291) (And.intro (@Tryz.ag258) (@Tryz.ag300)))) (And.intro (And.intro (@Tryz.ag298) (@Tryz.ag305)) (And.intro (@Tryz.ag237) (And.intro (@Tryz.ag297) (@Tryz.fl32_3)))))))) (And.intro (And.intro (And.intro (And.intro (And.intro (And.intro (@Tryz.fl74_0) (@Tryz.fl74_1)) (And.intro (@Tryz.fl74_2) (@Tryz.fl74_3))) (And.intro (And.intro (@Tryz.fl107_0) (@Tryz.fl107_1)) (And.intro (@Tryz.fl107_2) (And.intro (@Tryz.fl104_0) (@Tryz.fl104_1))))) (And.intro (And.intro (And.intro (@Tryz.fl104_2) (@Tryz.fl114_2)) (And.intro (@Tryz.fl114_0) (And.intro (@Tryz.fl114_1) (@Tryz.fl32_2)))) (And.intro (And.intro (@Tryz.fl137_1) (@Tryz.fl137_2)) (And.intro (@Tryz.fl137_0) (And.intro (@Tryz.fl32_1) (@Tryz.fl117_3)))))) (And.intro (And.intro (And.intro (And.intro (@Tryz.fl117_0) (@Tryz.fl117_2)) (And.intro (@Tryz.fl117_1) (And.intro (@Tryz.fl32_0) (@Tryz.fl75_2)))) (And.intro (And.intro (@Tryz.fl148_1) (@Tryz.fl148_0)) (And.intro (@Tryz.fl154_0) (And.intro (@Tryz.fl154_1) (@Tryz.fl154_2))))) (And.intro (And.intro (And.intro (@Tryz.fl158_0) (@Tryz.fl158_1)) (And.intro (@Tryz.fl75_1) (And.intro (@Tryz.fl75_3) (@Tryz.fl178_2)))) (And.intro (And.intro (@Tryz.fl178_0) (@Tryz.fl178_1)) (And.intro (@Tryz.fl123_0) (And.intro (@Tryz.fl43_0) (@Tryz.fl43_1))))))) (And.intro (And.intro (And.intro (And.intro (And.intro (@Tryz.fl212_1) (@Tryz.fl212_0)) (And.intro (@Tryz.fl166_2) (And.intro (@Tryz.fl166_1) (@Tryz.fl75_0)))) (And.intro (And.intro (@Tryz.fl212_2) (@Tryz.fl166_0)) (And.intro (@Tryz.fl121_1) (And.intro (@Tryz.fl121_0) (@Tryz.fl268_1))))) (And.intro (And.intro (And.intro (@Tryz.fl268_0) (@Tryz.fl268_2)) (And.intro (@Tryz.fl241_0) (And.intro (@Tryz.fl241_1) (@Tryz.fl241_2)))) (And.intro (And.intro (@Tryz.fl260_4) (@Tryz.fl260_3)) (And.intro (@Tryz.fl260_1) (And.intro (@Tryz.fl300_0) (@Tryz.fl300_1)))))) (And.intro (And.intro (And.intro (And.intro (@Tryz.fl294_0) (@Tryz.fl294_1)) (And.intro (@Tryz.fl294_2) (And.intro (@Tryz.fl260_0) (@Tryz.fl260_2)))) (And.intro (And.intro (@Tryz.cv5_3) (@Tryz.cv3_5)) (And.intro (@Tryz.cv202_5) (And.intro (@Tryz.cv119_9) (@Tryz.cv3_221))))) (And.intro (And.intro (And.intro (@Tryz.cv221_3) (@Tryz.cv118_261)) (And.intro (@Tryz.cv261_118) (And.intro (@Tryz.cv3_258) (@Tryz.cv258_5)))) (And.intro (And.intro (@Tryz.cv5_202) (@Tryz.cv221_202)) (And.intro (@Tryz.cv3_301) (And.intro (@Tryz.cv3_305) (@Tryz.cv301_3))))))))
theorem kp {X A G:Prop} (x:X) (h:G) (e:X→A=G:=by intro x;(try simp(disch:=(first|assumption|omega| (simp only[xg_,xe_,UInt64.reduceToNat];try omega))) only[↓Sx.S0,Sx.S1,Tryz.fx,Nat.reduceAdd,Nat.reducePow,Int.reducePow,Nat.reduceBEq, ↓reduceIte,UInt8.reduceToNat,UInt16.reduceToNat,UInt32.reduceToNat,UInt64.reduceToNat,Int.reduceToNat,x]);exact rfl):A:=(e x).mpr h
section
variable {P:Program} {w0:World} {f:Fr} {L:ze_} {K:x2_} {N:Fr→ze_→Prop} {ops:Array Oper} {md:Md} {l:List Oper} {X G:Prop}
theorem ks {c:Code} (z:List Nat) [Sx.Steps c] (x:X) (h:G) (e:X→vcC P w0 z c f L (bsK K)=G:=by intro x;(try simp(disch:=(first|assumption|omega| (simp only[xg_,xe_,UInt64.reduceToNat];try omega))) only[↓Sx.S0,Sx.S1,Tryz.fx,Nat.reduceAdd,Nat.reducePow,Int.reducePow,Nat.reduceBEq, ↓reduceIte,UInt8.reduceToNat,UInt16.reduceToNat,UInt32.reduceToNat,UInt64.reduceToNat,Int.reduceToNat,x]);exact rfl):Cw P w0 c f L K:=Cw.go z ((e x).mpr h)
theorem ko (x:X) (h:G) (e:X→vcL P w0 ops true md l f L (owk P w0 ops (bsN N))=G:=by intro x;(try simp(disch:=(first|assumption|omega| (simp only[xg_,xe_,UInt64.reduceToNat];try omega))) only[↓Sx.S0,Sx.S1,Tryz.fx,Nat.reduceAdd,Nat.reducePow,Int.reducePow,Nat.reduceBEq, ↓reduceIte,UInt8.reduceToNat,UInt16.reduceToNat,UInt32.reduceToNat,UInt64.reduceToNat,Int.reduceToNat,x]);exact rfl) (he:md.eff=true:=by rfl):Ow P w0 ops md l f L N:=Ow.go he ((e x).mpr h)
theorem kq (x:X) (h:G) (e:X→vcL P w0 ops false md l f L (owk P w0 ops (bsN N))=G:=by intro x;(try simp(disch:=(first|assumption|omega| (simp only[xg_,xe_,UInt64.reduceToNat];try omega))) only[↓Sx.S0,Sx.S1,Tryz.fx,Nat.reduceAdd,Nat.reducePow,Int.reducePow,Nat.reduceBEq, ↓reduceIte,UInt8.reduceToNat,UInt16.reduceToNat,UInt32.reduceToNat,UInt64.reduceToNat,Int.reduceToNat,x]);exact rfl):Ow P w0 ops md l f L N:=Ow.goQ ((e x).mpr h)
end
theorem ke {α:Type} {X:Prop} {a b:α} (x:X) (e:X→a=b:=by intro x;(try simp(disch:=(first|assumption|omega| (simp only[xg_,xe_,UInt64.reduceToNat];try omega))) only[↓Sx.S0,Sx.S1,Tryz.fx,Nat.reduceAdd,Nat.reducePow,Int.reducePow,Nat.reduceBEq, ↓reduceIte,UInt8.reduceToNat,UInt16.reduceToNat,UInt32.reduceToNat,UInt64.reduceToNat,Int.reduceToNat,x]);exact rfl):a=b:=e x
theorem kn {A G:Prop} (h:G) (e:A=G:=by(try simp(disch:=(first|assumption|omega| (simp only[xg_,xe_,UInt64.reduceToNat];try omega))) only[j1_,jK_,List.cons_append,List.nil_append]);exact rfl):A:=e.mpr h
theorem kf {A G:Prop} (h:G) (e:A=G:=by simp only[List.size_toArray,List.length_cons,List.length_nil,Nat.reduceAdd,Nat.reduceSub,List.replicate_succ,List.replicate_zero,List.cons_append,List.nil_append];exact rfl):A:=e.mpr h
theorem kv {A G:Prop} (h:G) (e:A=G:=by simp only[qS_,pin,qY_,qX_,List.contains_cons,List.contains_nil,Nat.reduceBEq,Bool.or_false,Bool.false_or,Bool.or_true,Bool.true_or,Nat.reduceAdd, ↓reduceIte,Bool.false_eq_true];exact rfl):A:=e.mpr h
set_option maxRecDepth 10000
set_option maxHeartbeats 1000000
set_option linter.unusedSimpArgs false
theorem KB_ (p v:Value) (E:TypeId) (n:Nat):zs_ (some (false,n)) (some (.cells #[p,v] E (0,0))) 0=some p:=(rfl)
theorem XC_ (p v:Value) (E:TypeId) (n:Nat):zs_ (some (false,n)) (some (.cells #[p,v] E (0,0))) 1=some v:=(rfl)
theorem alW_ (p v x:Value) (E:TypeId) (hx:Value.oneCell' x=true∧x.cells= #[x]):zl_ (some (false,1)) (some (.cells #[p,v] E (0,0))) 0 x=some (.cells #[x,v] E (0,0)):=by
 simp[zl_,hx,wg_]
theorem afH_ (p v x:Value) (E:TypeId) (hx:Value.oneCell' x=true∧x.cells= #[x]):zl_ (some (false,1)) (some (.cells #[p,v] E (0,0))) 1 x=some (.cells #[p,x] E (0,0)):=by
 simp[zl_,hx,wg_]
theorem XT_ (p v:Value) (b o:Nat) (E:TypeId):zl_ (some (false,1)) (some (.cells #[p,v] E (0,0))) 0 (vp b o)=some (.cells #[vp b o,v] E (0,0)):=alW_ _ _ _ _ ⟨rfl,rfl⟩
theorem nilB (b o:Nat):qO_ Tryz.prog .eql 118 (vp b o) (.pointer none)=some (.bool false):=by
 simp[qO_,eqX,qH_,qI_,Tryz.underlying118,vp]
theorem apz_:qO_ Tryz.prog .eql 118 (.pointer none) (.pointer none)=some (.bool true):=by
 simp[qO_,eqX,qH_,qI_,Tryz.underlying118]
set_option linter.defProp false
def ZX_:=And.intro (And.intro (@KB_) (@XC_)) (And.intro (@XT_) (And.intro (@nilB) (@apz_)))
theorem arQ_:liesAt Tryz.prog Tryz.prog.depth 123 ((#[Value.pointer none,Value.pointer none]:Array Value).size / Tryz.prog.cellsOf 123) 0 121 1=true:=id (by kernel_rfl)
theorem aggB:z2_ Tryz.prog 121=some (true,2):=id (by kernel_rfl)
theorem anb_ (x:Value) (w:World): (callFunc 182 #[x]).run Tryz.prog w= .ok (.value x) w:=by kernel_rfl
theorem Zy_ (b:Nat) (p v:Value) (w:World) (hp:p= .pointer none∨p=vp b 0) (ho:w.heap[b]? =some (.cells #[p,v] 123 (0,0))):
  Rets Tryz.prog 161 #[vp b 0] w (fun v' D=> ∃o,D= [(b,o)]∧v'= .tuple #[]∧o= .cells #[vp b 0,v] 123 (0,0)):=by
 refine Rets.enterM Tryz.func161 rfl (rs:= []) Tryz.results161 Tryz.ntmps161 ho ?_
 refine kf ?_
 rcases hp with rfl|rfl
 ·first|with_reducible refine ks [] @ZX_ ?_|refine kp @ZX_ ?_
  refine Ow.toUnsafe rfl rfl (by kernel_rfl) rfl (z6_ (zT_ _ _ _)) (by simp) aggB (by decide) Tryz.underlying118 Tryz.underlying261 ?_
  refine Ow.callExt (v:=vp b 0) rfl rfl (fun w=>anb_ _ w) ?_
  refine Ow.ofUnsafe rfl rfl (by kernel_rfl) rfl (z6_ (zT_ _ _ _)) aggB arQ_ Tryz.underlying261 Tryz.underlying118 ?_
  refine ko @ZX_ ?_
  first|with_reducible refine ks [] @ZX_ ?_|refine kp @ZX_ ?_
  refine⟨_,_,_,(ke @ZX_),rfl,trivial, ?_⟩
  exact⟨rfl,rfl⟩
 ·first|with_reducible refine ks [2] @ZX_ ?_|refine kp @ZX_ ?_
  refine Cw.region ?_
  refine Ow.value rfl rfl rfl ?_
  refine Ow.value (v:=vp b 0) rfl rfl (by simp(disch:=(first|assumption|omega| (simp only[xg_,xe_,UInt64.reduceToNat];try omega))) only[↓Sx.S0,Sx.S1,Tryz.fx,ZX_,Nat.reduceAdd,Nat.reducePow,Int.reducePow,Nat.reduceBEq, ↓reduceIte,UInt8.reduceToNat,UInt16.reduceToNat,UInt32.reduceToNat,UInt64.reduceToNat,Int.reduceToNat,k5_]) ?_
  refine Ow.value (v:=vp b 0) rfl rfl (by simp(disch:=(first|assumption|omega| (simp only[xg_,xe_,UInt64.reduceToNat];try omega))) only[↓Sx.S0,Sx.S1,Tryz.fx,ZX_,Nat.reduceAdd,Nat.reducePow,Int.reducePow,Nat.reduceBEq, ↓reduceIte,UInt8.reduceToNat,UInt16.reduceToNat,UInt32.reduceToNat,UInt64.reduceToNat,Int.reduceToNat,k5_]) ?_
  refine Ow.value (v:=vp b 0) rfl rfl (by simp(disch:=(first|assumption|omega| (simp only[xg_,xe_,UInt64.reduceToNat];try omega))) only[↓Sx.S0,Sx.S1,Tryz.fx,ZX_,Nat.reduceAdd,Nat.reducePow,Int.reducePow,Nat.reduceBEq, ↓reduceIte,UInt8.reduceToNat,UInt16.reduceToNat,UInt32.reduceToNat,UInt64.reduceToNat,Int.reduceToNat,k5_]) ?_
  refine Ow.value rfl rfl rfl ?_
  refine Ow.neqSame rfl Tryz.underlying118 aggB rfl rfl ?_
  refine ko @ZX_ ?_
  first|with_reducible refine ks [] @ZX_ ?_|refine kp @ZX_ ?_
  refine⟨_,_,_,(ke @ZX_),rfl,trivial, ?_⟩
  exact⟨rfl,rfl⟩
end Go.Proofs
end
section
open Go Go.Proofs Go.Sx
namespace Go.Proofs
set_option maxRecDepth 10000
set_option maxHeartbeats 1000000
set_option linter.unusedSimpArgs false
set_option linter.defProp false
def Vg_:=And.intro (And.intro (@KB_) (@XC_)) (And.intro (@XT_) (And.intro (@nilB) (@apz_)))
def BldAt (b:Nat) (l:List UInt8) (X:ze_):Prop:=
 ∃p v,Sx.look X b=some (.cells #[p,v] 123 (0,0))∧(p= .pointer none∨p=vp b 0)∧Buf X 5 1 v l.length (l.map v8)∧slB v≠some b
theorem Zv_ (b:Nat) (X:ze_) (l:List UInt8) (c:UInt8) (w:World) (hB:BldAt b l X) (hX: ∀p,p∈X→w.heap[p.1]? =some p.2) (hn: (keys X).Nodup) (hl:l.length<34359738368):
  Rets Tryz.prog 129 #[vp b 0,v8 c] w (XS w X (fun v D=>v= .nilIface∧BldAt b (l++ [c]) D)):=by
 obtain⟨p,v,hlk,hp,hb,hsl⟩:=hB
 refine Rets.enterX Tryz.func129 rfl (rs:= [.tmp 4]) Tryz.results129 Tryz.ntmps129 hX hn ?_
 refine kf ?_
 first|with_reducible refine ks [] @Vg_ ?_|refine kp @Vg_ ?_
 refine Ow.callM rfl rfl Tryz.call161 (zx_ hlk) (fun w' hw'=>Zy_ b p v w' hp (hw'.has _ _ (zJ_ hlk))) ?_
 have lk1:=kA_ (x:= .cells #[vp b 0,v] 123 (0,0)) hlk
 have rd1:=z6_ (w0:=w) lk1
 have hb1:Buf (setB X b (.cells #[vp b 0,v] 123 (0,0))) 5 1 v l.length (l.map v8):=hb.setO hsl
 have kx:Ext w X (setB X b (.cells #[vp b 0,v] 123 (0,0))):=(Ext.refl w X).setB
 generalize setB X b (.cells #[vp b 0,v] 123 (0,0))=X1 at*
 refine ko @Vg_ ?_
 first|with_reducible refine ks [] (And.intro @Vg_ @rd1) ?_|refine kp (And.intro @Vg_ @rd1) ?_
 refine Ow.buildSlice (e:=5) #[v8 c] rfl rfl (by kernel_rfl) fun b3 hb3 hw3=> ?_
 have lk3:Sx.look (X1++ [(b3, .cells #[v8 c] 5 (0,0))]) b3=some (.cells #[v8 c] 5 (0,0)):=JV_ hb3
 have hb2:Buf (X1++ [(b3, .cells #[v8 c] 5 (0,0))]) 5 1 v l.length (l.map v8):=hb1.app
 refine ko @Vg_ ?_
 refine Ow.append (e:=5) _ rfl rfl rfl Tryz.underlying119 Tryz.ag5 (by kernel_rfl) Tryz.zr5 (by kernel_rfl) Tryz.underlying119 (by intro k h;cases h) hb2 (fun w' hw'=>AppX.block (k:=1) (new:= [v8 c]) (z6_ lk3) (by simp) (by simp) rfl hw') (by omega) (fun v2 L2 hB2 hG2 hS2=> ?_)
 have lk2:Sx.look L2 b=some (.cells #[vp b 0,v] 123 (0,0)):=hG2.look b _ hsl (qR_ lk1)
 have st2:zl_ (some (false,1)) (some (.cells #[vp b 0,v] 123 (0,0))) 1 v2=some (.cells #[vp b 0,v2] 123 (0,0)):=afH_ _ _ _ _ hB2.cell
 refine ko (And.intro @Vg_ (And.intro @lk2 (And.intro @st2 (@afy_)))) ?_
 first|with_reducible refine ks [] @Vg_ ?_|refine kp @Vg_ ?_
 refine⟨_,(ke @Vg_), ?_⟩
 have ex:=(kx.app (o:= .cells #[v8 c] 5 (0,0)) hw3).grew hG2
 have hs2:slB v2≠some b:=by
  rcases hS2 with h| ⟨c',h,ha⟩
  ·rw[h];exact hsl
  ·rw[h]
   intro e
   cases e
   exact Nat.lt_irrefl _ (zf_ ha (zx_ (qR_ lk1)))
 refine⟨ex.setB,rfl,vp b 0,v2,kA_ lk2, .inr rfl, ?_,hs2⟩
 rw[List.length_append,List.map_append]
 exact hB2.setO hs2
end Go.Proofs
end
section
open Go Go.Proofs Go.Sx
namespace Go.Proofs
set_option maxRecDepth 10000
set_option maxHeartbeats 1000000
set_option linter.unusedSimpArgs false
set_option linter.defProp false
def ka_:=And.intro (And.intro (@KB_) (@XC_)) (And.intro (@XT_) (And.intro (@nilB) (@apz_)))
theorem JL_ (b:Nat) (X:ze_) (l s:List UInt8) (w:World) (hB:BldAt b l X) (hX: ∀p,p∈X→w.heap[p.1]? =some p.2) (hn: (keys X).Nodup) (hl:l.length+s.length<34359738368):
  Rets Tryz.prog 128 #[vp b 0,vs s] w (XS w X (fun v D=>v= .tuple #[vi s.length, .nilIface]∧BldAt b (l++s) D)):=by
 obtain⟨p,v,hlk,hp,hb,hsl⟩:=hB
 refine Rets.enterX Tryz.func128 rfl (rs:= [.tmp 4, .tmp 5]) Tryz.results128 Tryz.ntmps128 hX hn ?_
 refine kf ?_
 first|with_reducible refine ks [] @ka_ ?_|refine kp @ka_ ?_
 refine Ow.callM rfl rfl Tryz.call161 (zx_ hlk) (fun w' hw'=>Zy_ b p v w' hp (hw'.has _ _ (zJ_ hlk))) ?_
 have lk1:=kA_ (x:= .cells #[vp b 0,v] 123 (0,0)) hlk
 have rd1:=z6_ (w0:=w) lk1
 have hb1:Buf (setB X b (.cells #[vp b 0,v] 123 (0,0))) 5 1 v l.length (l.map v8):=hb.setO hsl
 have kx:Ext w X (setB X b (.cells #[vp b 0,v] 123 (0,0))):=(Ext.refl w X).setB
 generalize setB X b (.cells #[vp b 0,v] 123 (0,0))=X1 at*
 refine ko @ka_ ?_
 first|with_reducible refine ks [] (And.intro @ka_ @rd1) ?_|refine kp (And.intro @ka_ @rd1) ?_
 refine Ow.append (e:=5) _ rfl rfl rfl Tryz.underlying119 Tryz.ag5 (by kernel_rfl) Tryz.zr5 (by kernel_rfl) Tryz.underlying9 (by intro k h;cases h) hb1 (fun w' hw'=>AppX.text _ w' s) (by omega) (fun v2 L2 hB2 hG2 hS2=> ?_)
 have lk2:Sx.look L2 b=some (.cells #[vp b 0,v] 123 (0,0)):=hG2.look b _ hsl lk1
 have st2:zl_ (some (false,1)) (some (.cells #[vp b 0,v] 123 (0,0))) 1 v2=some (.cells #[vp b 0,v2] 123 (0,0)):=afH_ _ _ _ _ hB2.cell
 refine ko (And.intro @ka_ (And.intro @lk2 (And.intro @st2 (@afy_)))) ?_
 first|with_reducible refine ks [] @ka_ ?_|refine kp @ka_ ?_
 refine⟨_,(ke @ka_), ?_⟩
 have ex:=kx.grew hG2
 have hs2:slB v2≠some b:=by
  rcases hS2 with h| ⟨c',h,ha⟩
  ·rw[h];exact hsl
  ·rw[h]
   intro e
   cases e
   exact Nat.lt_irrefl _ (zf_ ha (zx_ lk1))
 refine⟨ex.setB,rfl,vp b 0,v2,kA_ lk2, .inr rfl, ?_,hs2⟩
 rw[List.length_append,List.map_append]
 exact hB2.setO hs2
theorem aaC_ (b:Nat) (X:ze_) (l:List UInt8) (w:World) (hB:BldAt b l X) (hX: ∀p,p∈X→w.heap[p.1]? =some p.2) (hn: (keys X).Nodup) (hl:l.length<34359738368):
  Rets Tryz.prog 131 #[vp b 0] w (XS w X (fun v _D=>v=vs l)):=by
 obtain⟨p,v,hlk,hp,hb,hsl⟩:=hB
 have rd1:=z6_ (w0:=w) hlk
 refine Rets.enterX Tryz.func131 rfl (rs:= [.tmp 2]) Tryz.results131 Tryz.ntmps131 hX hn ?_
 refine kf ?_
 first|with_reducible refine ks [] @ka_ ?_|refine kp @ka_ ?_
 refine Cw.regionS [b] [0,1,2,5,6,7,3,8,9,4,10,11] [] (by kernel_rfl) (by kernel_rfl) (by kernel_rfl) ?_
 simp only[zg_, ↓zd_, ↓zb_, ↓zp_, ↓zq_,za_]
 refine Ow.goQ ?_
 simp(disch:=(first|assumption|omega| (simp only[xg_,xe_,UInt64.reduceToNat];try omega))) only[↓Sx.S0,Sx.S1,Tryz.fx,ka_,Nat.reduceAdd,Nat.reducePow,Int.reducePow,Nat.reduceBEq, ↓reduceIte,UInt8.reduceToNat,UInt16.reduceToNat,UInt32.reduceToNat,UInt64.reduceToNat,Int.reduceToNat,rd1,hb.len]
 refine Ow.soft rfl rfl rfl ?_
 rcases hb.inv with⟨rfl,h0,-⟩ | ⟨b2,c,rest,rfl,hl2,h1,h3,h4,-⟩
 ·obtain rfl:l= []:=List.eq_nil_of_length_eq_zero h0
  refine Ow.sliceData (v:= .pointer none) rfl rfl (.inl ⟨0,0,rfl,rfl⟩) ?_
  with_reducible refine Ow.nil ?_
  refine⟨by intro b hb;simp only[List.mem_cons,List.not_mem_nil,or_false] at hb;(try subst hb);rfl, ?_⟩
  refine Ow.soft rfl rfl rfl ?_
  refine Ow.unsafeStringNil rfl rfl rfl rfl ?_
  with_reducible refine Ow.nil ?_
  refine⟨by intro b hb;simp only[List.mem_cons,List.not_mem_nil,or_false] at hb;(try subst hb);rfl, ?_⟩
  refine kq @ka_ ?_
  try with_reducible refine Ow.nil ?_
  first|with_reducible refine ks [] @ka_ ?_|refine kp @ka_ ?_
  refine⟨_,(ke @ka_), ?_⟩
  exact⟨Ext.refl _ _,rfl⟩
 ·refine Ow.sliceData (v:=vp b2 0) rfl rfl (.inr ⟨b2,_,c,rfl,by omega,rfl⟩) ?_
  with_reducible refine Ow.nil ?_
  refine⟨by intro b hb;simp only[List.mem_cons,List.not_mem_nil,or_false] at hb;(try subst hb);rfl, ?_⟩
  by_cases h0:l.length=0
  ·obtain rfl:l= []:=List.eq_nil_of_length_eq_zero h0
   refine Ow.soft rfl rfl rfl ?_
   refine Ow.unsafeStringNil rfl rfl rfl rfl ?_
   with_reducible refine Ow.nil ?_
   refine⟨by intro b hb;simp only[List.mem_cons,List.not_mem_nil,or_false] at hb;(try subst hb);rfl, ?_⟩
   refine kq @ka_ ?_
   try with_reducible refine Ow.nil ?_
   first|with_reducible refine ks [] @ka_ ?_|refine kp @ka_ ?_
   refine⟨_,(ke @ka_), ?_⟩
   exact⟨Ext.refl _ _,rfl⟩
  ·refine Ow.soft rfl rfl rfl ?_
   refine Ow.unsafeString rfl rfl rfl rfl hl2 (by omega) (by omega) Tryz.underlying233 (by kernel_rfl) (of_decide_eq_true (by kernel_rfl)) ?_
   with_reducible refine Ow.nil ?_
   refine⟨by intro b hb;simp only[List.mem_cons,List.not_mem_nil,or_false] at hb;(try subst hb);exact wA_ (fun e=>hsl (by rw[←e];rfl)), ?_⟩
   refine kq @ka_ ?_
   try with_reducible refine Ow.nil ?_
   first|with_reducible refine ks [] @ka_ ?_|refine kp @ka_ ?_
   refine⟨_,(ke @ka_), ?_⟩
   exact⟨(Ext.refl _ _).setB,rfl⟩
end Go.Proofs
end
section
open Go Go.Proofs Go.Sx
namespace Go.Proofs
set_option maxRecDepth 10000
set_option maxHeartbeats 1000000
set_option linter.unusedSimpArgs false
theorem nilW (b o:Nat):qO_ Tryz.prog .eql 196 (vp b o) (.pointer none)=some (.bool false):=by
 simp[qO_,eqX,qH_,qI_,Tryz.underlying196,vp]
set_option linter.defProp false
def xW_:=And.intro (@KB_) (And.intro (@XC_) (@nilW))
structure WG where
 g:Nat
 D:ze_
theorem KR_ (l:List (List UInt8)) (g:Nat) (h:g<l.length): (l.take (g+1)).flatten=(l.take g).flatten++l.getD g []:=by
 rw[List.take_add_one,List.getElem?_eq_getElem h,List.flatten_append,List.getD_eq_getElem?_getD,List.getElem?_eq_getElem h]
 simp
theorem aaB_ (l:List (List UInt8)) (g:Nat): (l.take g).flatten.length≤l.flatten.length:=by
 conv=>rhs;rw[←List.take_append_drop g l,List.flatten_append,List.length_append]
 omega
theorem vk_ (b:Nat) (X:ze_) (l:List UInt8) (x:Value) (b2 off:Nat) (ls:List (List UInt8)) (arr:Array Value) (E:TypeId) (fz:Nat×Nat) (w:World) (hB:BldAt b l X) (hX: ∀p,p∈X→w.heap[p.1]? =some p.2) (hn: (keys X).Nodup)
  (hS:StrS w x ls b2 off arr E fz) (hne:0<ls.length→b2∉keys X) (hl:l.length+ls.flatten.length<34359738368) (hls:ls.length<34359738368):
  Rets Tryz.prog 60 #[vp b 0,x] w (XS w X (fun v D=>v= .tuple #[]∧BldAt b (l++ls.flatten) D)):=by
 refine Rets.enterX Tryz.func60 rfl (rs:= []) Tryz.results60 Tryz.ntmps60 hX hn ?_
 refine kf ?_
 ((try with_reducible refine Cw.go [] ?_);(try simp(disch:=(first|assumption|omega| (simp only[xg_,xe_,UInt64.reduceToNat];try omega))) only[↓Sx.S0,Sx.S1,Tryz.fx,xW_,Nat.reduceAdd,Nat.reducePow,Int.reducePow,Nat.reduceBEq, ↓reduceIte,UInt8.reduceToNat,UInt16.reduceToNat,UInt32.reduceToNat,UInt64.reduceToNat,Int.reduceToNat,hS.len]))
 refine Cw.loopG (G:=WG) [11,12,13,5,14,15,16,17,18,19,10] (fun g=> [(10,vi g.g)]) (fun g=>g.D) (fun g=>g.g≤ls.length∧Ext w X g.D∧BldAt b (l++ (ls.take g.g).flatten) g.D) (fun g=>ls.length - g.g) ⟨0,X⟩ rfl rfl ?_ ?_
 ·exact⟨by simp,Ext.refl _ _,by simpa using hB⟩
 intro g j hg
 refine kv ?_
 obtain⟨g,D⟩:=g
 simp only at hg ⊢
 obtain⟨hgL,hE,hBD⟩:=hg
 by_cases hlt:g<ls.length
 ·have hlg:=hS.get g hlt
  have hrd:=hE.old (hS.has (by omega)) (hne (by omega))
  ((try with_reducible refine Cw.go [] ?_);(try simp(disch:=(first|assumption|omega| (simp only[xg_,xe_,UInt64.reduceToNat];try omega))) only[↓Sx.S0,Sx.S1,Tryz.fx,xW_,Nat.reduceAdd,Nat.reducePow,Int.reducePow,Nat.reduceBEq, ↓reduceIte,UInt8.reduceToNat,UInt16.reduceToNat,UInt32.reduceToNat,UInt64.reduceToNat,Int.reduceToNat,Sx.loadV_one,hrd,hlg,hS.idx]))
  have hfl:=KR_ ls g hlt
  have hfle:=aaB_ ls (g+1)
  have hfl2:=congrArg List.length hfl
  rw[List.length_append] at hfl2
  refine Ow.callX (Y:= []) (by simp) rfl rfl Tryz.call128 (fun w' hw' hX hn=>JL_ b D _ (ls.getD g []) w' hBD hX hn (by rw[List.length_append];omega)) (fun v2 D2 hC hS2=> ?_)
  rw[List.append_nil]
  obtain⟨rfl,hB2⟩:=hS2
  refine ko @xW_ ?_
  first|with_reducible refine ks [] @xW_ ?_|refine kp @xW_ ?_
  refine Again.mk (WG.mk (g+1) D2) (by show ls.length - (g+1)<ls.length - g;omega) ⟨by show g+1≤ls.length;omega,hE.came0 hC, ?_⟩ rfl rfl
  show BldAt b (l++ (ls.take (g+1)).flatten) D2
  rw[hfl,←List.append_assoc]
  exact hB2
 ·obtain rfl:g=ls.length:=by omega
  first|with_reducible refine ks [] @xW_ ?_|refine kp @xW_ ?_
  refine⟨_,(ke @xW_), ?_⟩
  rw[List.take_length] at hBD
  exact⟨hE,rfl,hBD⟩
def maxN:Int:=1099511627775
def qP_ (n:Nat):List UInt8:=if h:n<128 then [UInt8.ofNat n] else UInt8.ofNat (n%128+128)::qP_ (n / 128)
termination_by n
decreasing_by omega
def zz_ (n:Int):Nat:=(if(if maxN<n then maxN else n)>0 then(if maxN<n then maxN else n) else 0).toNat
def xX_ (l:List Int):List UInt8:=(l.map fun n=>qP_ (zz_ n)).flatten
theorem qK_ {n:Nat} (h:n<128):qP_ n= [UInt8.ofNat n]:=by rw[qP_];simp[h]
theorem v6_ {n:Nat} (h: ¬n<128):qP_ n=UInt8.ofNat (n%128+128)::qP_ (n / 128):=by rw[qP_];simp[h]
theorem xF_: ∀ (k n:Nat),n<128^k→0<k→(qP_ n).length≤k
 |0,n,h,h0=>absurd h0 (by omega)
 |k+1,n,h,_=>by
  by_cases hn:n<128
  ·rw[qK_ hn];simp
  ·rw[v6_ hn]
   have hk:0<k:=by
    rcases Nat.eq_zero_or_pos k with rfl|hk
    ·simp at h;omega
    ·exact hk
   have:=xF_ k (n / 128) (by rw[Nat.pow_succ] at h;omega) hk
   simp only[List.length_cons];omega
theorem aaU_ (n:Int):zz_ n<1099511627776:=by unfold zz_ maxN;split<;>split at* <;>omega
theorem zm_ (n:Int): (qP_ (zz_ n)).length≤6:=xF_ 6 _ (by have:=aaU_ n;omega) (by omega)
theorem apX_: ∀b:BitVec 8,b.toNat<128→(b|||128#8)=b+128#8:=by decide
theorem w7_ (m:Nat):UInt8.ofInt (m:Int)=UInt8.ofNat m:=by
 apply UInt8.toBitVec_inj.1
 apply BitVec.eq_of_toNat_eq
 simp[UInt8.ofInt,UInt8.ofNat]
 omega
theorem aph_ (m:Nat):UInt8.ofInt ((m:Int)%128) |||128=UInt8.ofNat (m%128+128):=by
 rw[show((m:Int)%128)=((m%128:Nat):Int) by omega,w7_]
 apply UInt8.toBitVec_inj.1
 have h:=apX_ (BitVec.ofNat 8 (m%128)) (by simp[BitVec.toNat_ofNat];omega)
 have h1: (UInt8.ofNat (m%128) |||128).toBitVec=BitVec.ofNat 8 (m%128) |||128#8:=rfl
 rw[h1,h]
 apply BitVec.eq_of_toNat_eq
 simp[UInt8.ofNat]
structure NG where
 m:Nat
 pre:List UInt8
 D:ze_
theorem xf_ (b:Nat) (X:ze_) (l:List UInt8) (x:Value) (b2 off:Nat) (ls:List Int) (arr:Array Value) (E:TypeId) (fz:Nat×Nat) (w:World) (hB:BldAt b l X) (hX: ∀p,p∈X→w.heap[p.1]? =some p.2) (hn: (keys X).Nodup)
  (hS:OneS vi 0 w x ls b2 off arr E fz) (hne:0<ls.length→b2∉keys X) (hl:l.length+ls.length*6<34359738368):
  Rets Tryz.prog 61 #[vp b 0,x] w (XS w X (fun v D=>v= .tuple #[]∧BldAt b (l++xX_ ls) D)):=by
 refine Rets.enterX Tryz.func61 rfl (rs:= []) Tryz.results61 Tryz.ntmps61 hX hn ?_
 refine kf ?_
 ((try with_reducible refine Cw.go [] ?_);(try simp(disch:=(first|assumption|omega| (simp only[xg_,xe_,UInt64.reduceToNat];try omega))) only[↓Sx.S0,Sx.S1,Tryz.fx,xW_,Nat.reduceAdd,Nat.reducePow,Int.reducePow,Nat.reduceBEq, ↓reduceIte,UInt8.reduceToNat,UInt16.reduceToNat,UInt32.reduceToNat,UInt64.reduceToNat,Int.reduceToNat,hS.len]))
 refine Cw.loopG (G:=WG) [11,12,13,5,14,15,16,17,18,21,22,23,24,25,26,27,28,19,20,29,30,31,32,33,34,35,10] (fun g=> [(10,vi g.g)]) (fun g=>g.D) (fun g=>g.g≤ls.length∧Ext w X g.D∧BldAt b (l++xX_ (ls.take g.g)) g.D) (fun g=>ls.length - g.g) ⟨0,X⟩ rfl rfl ?_ ?_
 ·exact⟨by simp,Ext.refl _ _,by simpa [xX_] using hB⟩
 intro g j hg
 refine kv ?_
 obtain⟨g,D⟩:=g
 simp only at hg ⊢
 obtain⟨hgL,hE,hBD⟩:=hg
 by_cases hlt:g<ls.length
 ·have hlg:=hS.get g hlt
  have hrd:=hE.old (hS.has (by omega)) (hne (by omega))
  ((try with_reducible refine Cw.go [] ?_);(try simp(disch:=(first|assumption|omega| (simp only[xg_,xe_,UInt64.reduceToNat];try omega))) only[↓Sx.S0,Sx.S1,Tryz.fx,xW_,Nat.reduceAdd,Nat.reducePow,Int.reducePow,Nat.reduceBEq, ↓reduceIte,UInt8.reduceToNat,UInt16.reduceToNat,UInt32.reduceToNat,UInt64.reduceToNat,Int.reduceToNat,Sx.loadV_one,hrd,hlg,hS.idx]))
  refine Ow.minI rfl rfl rfl ?_
  refine Ow.maxI rfl rfl rfl ?_
  have hcl: (if(if maxN<ls.getD g 0 then maxN else ls.getD g 0)>0 then(if maxN<ls.getD g 0 then maxN else ls.getD g 0) else 0)=(zz_ (ls.getD g 0):Int):=by
   unfold zz_;omega
  have hcl': (if(if 1099511627775<ls.getD g 0 then 1099511627775 else ls.getD g 0)>0 then(if 1099511627775<ls.getD g 0 then 1099511627775 else ls.getD g 0) else 0)=(zz_ (ls.getD g 0):Int):=hcl
  rw[hcl']
  have hcb:=aaU_ (ls.getD g 0)
  have hpl: (xX_ (ls.take g)).length≤g*6:=by
   unfold xX_
   rw[List.length_flatten,List.map_map]
   have: ∀ (q:List Int),(q.map (List.length∘fun n=>qP_ (zz_ n))).sum≤q.length*6:=by
    intro q
    induction q with
    |nil=>simp
    |cons y r ih=>have:=zm_ y;simp only[List.map_cons,List.sum_cons,List.length_cons,Function.comp];omega
   have h2:=this (ls.take g)
   rw[List.length_take] at h2
   have:min g ls.length*6≤g*6:=Nat.mul_le_mul_right _ (Nat.min_le_left _ _)
   omega
  have hnl:=zm_ (ls.getD g 0)
  have hsucc:xX_ (ls.take (g+1))=xX_ (ls.take g)++qP_ (zz_ (ls.getD g 0)):=by
   unfold xX_
   rw[List.take_succ_eq_append_getElem hlt,List.map_append,List.flatten_append,List.getD_eq_getElem?_getD,List.getElem?_eq_getElem hlt]
   simp only[List.map_cons,List.map_nil,List.flatten_cons,List.flatten_nil,List.append_nil,Option.getD_some]
  generalize zz_ (ls.getD g 0)=m0 at*
  refine ko @xW_ ?_
  first|with_reducible refine ks [] @xW_ ?_|refine kp @xW_ ?_
  refine Cw.loopG (G:=NG) [17,18,21,22,23,24,25,26,27,28,19,20,5] (fun q=> [(5,vi q.m)]) (fun q=>q.D) (fun q=>q.m≤m0∧Ext w X q.D∧qP_ m0=q.pre++qP_ q.m∧BldAt b (l++xX_ (ls.take g)++q.pre) q.D) (fun q=>q.m) ⟨m0,[],D⟩ rfl rfl ?_ ?_
  ·exact⟨Nat.le_refl _,hE,rfl,by rwa [List.append_nil]⟩
  intro q jq hq
  refine kv ?_
  obtain⟨m,pre,D1⟩:=q
  simp only at hq ⊢
  obtain⟨hqm,hE1,hpre,hB1⟩:=hq
  have hpl2:=congrArg List.length hpre
  rw[List.length_append] at hpl2
  by_cases hm:m<128
  ·first|with_reducible refine ks [] @xW_ ?_|refine kp @xW_ ?_
   rw[qK_ hm] at hpre hpl2
   have hlen: (l++xX_ (ls.take g)++pre).length+1<34359738368:=by
    rw[List.length_append,List.length_append]
    simp only[List.length_cons,List.length_nil] at hpl2
    omega
   refine Ow.callX (Y:= []) (by simp) rfl rfl Tryz.call129 (fun w' hw' hX hn=>Zv_ b D1 _ _ w' hB1 hX hn (by omega)) (fun v2 D2 hC hS2=> ?_)
   rw[List.append_nil]
   obtain⟨rfl,hB2⟩:=hS2
   rw[w7_] at hB2
   refine ko @xW_ ?_
   first|with_reducible refine ks [] @xW_ ?_|refine kp @xW_ ?_
   refine Again.mk (WG.mk (g+1) D2) (by show ls.length - (g+1)<ls.length - g;omega) ⟨by show g+1≤ls.length;omega,hE1.came0 hC, ?_⟩ rfl rfl
   show BldAt b (l++xX_ (ls.take (g+1))) D2
   rw[hsucc,hpre,←List.append_assoc,←List.append_assoc]
   exact hB2
  ·first|with_reducible refine ks [] @xW_ ?_|refine kp @xW_ ?_
   rw[v6_ hm] at hpre hpl2
   have hlen: (l++xX_ (ls.take g)++pre).length+1<34359738368:=by
    rw[List.length_append,List.length_append]
    simp only[List.length_cons] at hpl2
    omega
   refine Ow.callX (Y:= []) (by simp) rfl rfl Tryz.call129 (fun w' hw' hX hn=>Zv_ b D1 _ _ w' hB1 hX hn (by omega)) (fun v2 D2 hC hS2=> ?_)
   rw[List.append_nil]
   obtain⟨rfl,hB2⟩:=hS2
   rw[aph_] at hB2
   refine ko @xW_ ?_
   first|with_reducible refine ks [] @xW_ ?_|refine kp @xW_ ?_
   refine Again.mk (NG.mk (m / 128) (pre++ [UInt8.ofNat (m%128+128)]) D2) (by show m / 128<m;omega) ⟨by show m / 128≤m0;omega,hE1.came0 hC, ?_, ?_⟩ rfl rfl
   ·show qP_ m0=pre++ [UInt8.ofNat (m%128+128)]++qP_ (m / 128)
    rw[hpre];simp
   ·show BldAt b (l++xX_ (ls.take g)++ (pre++ [UInt8.ofNat (m%128+128)])) D2
    rw[←List.append_assoc]
    exact hB2
 ·obtain rfl:g=ls.length:=by omega
  first|with_reducible refine ks [] @xW_ ?_|refine kp @xW_ ?_
  refine⟨_,(ke @xW_), ?_⟩
  rw[List.take_length] at hBD
  exact⟨hE,rfl,hBD⟩
end Go.Proofs
end
section
open Go Go.Proofs Go.Sx
namespace Go.Proofs
set_option maxRecDepth 10000
set_option maxHeartbeats 1000000
set_option linter.unusedSimpArgs false
set_option linter.defProp false
def j7_:=And.intro (And.intro (@KB_) (@XC_)) (And.intro (@nilW) (And.intro (@ajm_) (@XH_)))
theorem BldAt.app {b:Nat} {l:List UInt8} {X Y:ze_} (h:BldAt b l X):BldAt b l (X++Y):=by
 obtain⟨p,v,h1,h2,h3,h4⟩:=h
 exact⟨p,v,qR_ h1,h2,h3.app,h4⟩
def xi_ (s:List UInt8):List UInt8:=qP_ (zz_ s.length)++s
def ko_ (ls:List (List UInt8)):List UInt8:=(ls.map xi_).flatten
theorem Qc_ (n:Int):xX_ [n]=qP_ (zz_ n):=by simp[xX_]
theorem ac6_ (ls:List (List UInt8)) (g:Nat) (h:g<ls.length):ko_ (ls.take (g+1))=ko_ (ls.take g)++xi_ (ls.getD g []):=by
 unfold ko_
 rw[List.take_succ_eq_append_getElem h,List.map_append,List.flatten_append,List.getD_eq_getElem?_getD,List.getElem?_eq_getElem h]
 simp only[List.map_cons,List.map_nil,List.flatten_cons,List.flatten_nil,List.append_nil,Option.getD_some]
theorem Vd_ (ls:List (List UInt8)) (g:Nat): (ko_ (ls.take g)).length≤ (ko_ ls).length:=by
 conv=>rhs;rw[←List.take_append_drop g ls]
 unfold ko_
 rw[List.map_append,List.flatten_append,List.length_append];omega
theorem VZ_ (b:Nat) (X:ze_) (l:List UInt8) (x:Value) (b2 off:Nat) (ls:List (List UInt8)) (arr:Array Value) (E:TypeId) (fz:Nat×Nat) (w:World) (hB:BldAt b l X) (hX: ∀p,p∈X→w.heap[p.1]? =some p.2) (hn: (keys X).Nodup)
  (hS:StrS w x ls b2 off arr E fz) (hne:0<ls.length→b2∉keys X) (hl:l.length+ (ko_ ls).length<17179869184) (hls:ls.length<17179869184):
  Rets Tryz.prog 62 #[vp b 0,x] w (XS w X (fun v D=>v= .tuple #[]∧BldAt b (l++ko_ ls) D)):=by
 refine Rets.enterX Tryz.func62 rfl (rs:= []) Tryz.results62 Tryz.ntmps62 hX hn ?_
 refine kf ?_
 ((try with_reducible refine Cw.go [] ?_);(try simp(disch:=(first|assumption|omega| (simp only[xg_,xe_,UInt64.reduceToNat];try omega))) only[↓Sx.S0,Sx.S1,Tryz.fx,j7_,Nat.reduceAdd,Nat.reducePow,Int.reducePow,Nat.reduceBEq, ↓reduceIte,UInt8.reduceToNat,UInt16.reduceToNat,UInt32.reduceToNat,UInt64.reduceToNat,Int.reduceToNat,hS.len]))
 refine Cw.loopG (G:=WG) [9,10,11,5,12,13,14,15,16,17,18,19,20,21,8] (fun g=> [(8,vi g.g)]) (fun g=>g.D) (fun g=>g.g≤ls.length∧Ext w X g.D∧BldAt b (l++ko_ (ls.take g.g)) g.D) (fun g=>ls.length - g.g) ⟨0,X⟩ rfl rfl ?_ ?_
 ·exact⟨by simp,Ext.refl _ _,by simpa [ko_] using hB⟩
 intro g j hg
 refine kv ?_
 obtain⟨g,D⟩:=g
 simp only at hg ⊢
 obtain⟨hgL,hE,hBD⟩:=hg
 by_cases hlt:g<ls.length
 ·have hlg:=hS.get g hlt
  have hrd:=hE.old (hS.has (by omega)) (hne (by omega))
  have hsu:=ac6_ ls g hlt
  have hle:=Vd_ ls (g+1)
  have hsl:=congrArg List.length hsu
  rw[List.length_append] at hsl
  have htl: (xi_ (ls.getD g [])).length=(qP_ (zz_ (ls.getD g []).length)).length+ (ls.getD g []).length:=by unfold xi_;rw[List.length_append]
  ((try with_reducible refine Cw.go [] ?_);(try simp(disch:=(first|assumption|omega| (simp only[xg_,xe_,UInt64.reduceToNat];try omega))) only[↓Sx.S0,Sx.S1,Tryz.fx,j7_,Nat.reduceAdd,Nat.reducePow,Int.reducePow,Nat.reduceBEq, ↓reduceIte,UInt8.reduceToNat,UInt16.reduceToNat,UInt32.reduceToNat,UInt64.reduceToNat,Int.reduceToNat,Sx.loadV_one,hrd,hlg,hS.idx]))
  refine Ow.buildSlice (e:=3) #[vi (ls.getD g []).length] rfl rfl (by kernel_rfl) fun b3 hb3 hw3=> ?_
  refine ko @j7_ ?_
  refine Ow.callX (Y:= [(b3, .cells #[vi (ls.getD g []).length] 3 (0,0))]) (by simp) rfl rfl Tryz.call61 (fun w' hw' hX hn=>xf_ b D _ _ b3 0 [((ls.getD g []).length:Int)] _ _ _ w' hBD hX hn (OneS.lit [((ls.getD g []).length:Int)] rfl rfl (hw'.has _ _ (List.mem_append_right _ List.mem_cons_self))) (fun _ hm=>Nat.lt_irrefl _ (zf_ hb3 hm)) (by rw[List.length_append];simp only[List.length_cons,List.length_nil];omega)) (fun v2 D2 hC hS2=> ?_)
  obtain⟨rfl,hB2⟩:=hS2
  have hE2:=(hE.app (o:= .cells #[vi (ls.getD g []).length] 3 (0,0)) hw3).came hC
  rw[Qc_] at hB2
  have hB3:=BldAt.app (Y:= [(b3, .cells #[vi (ls.getD g []).length] 3 (0,0))]) hB2
  generalize D2++ [(b3,Obj.cells #[vi (ls.getD g []).length] 3 (0,0))]=D3 at*
  refine ko @j7_ ?_
  first|with_reducible refine ks [] @j7_ ?_|refine kp @j7_ ?_
  refine Ow.buildSlice (e:=9) #[vs (ls.getD g [])] rfl rfl (by kernel_rfl) fun b4 hb4 hw4=> ?_
  refine ko @j7_ ?_
  refine Ow.callX (Y:= [(b4, .cells #[vs (ls.getD g [])] 9 (0,0))]) (by simp) rfl rfl Tryz.call60 (fun w' hw' hX hn=>vk_ b D3 _ _ b4 0 [ls.getD g []] _ _ _ w' hB3 hX hn (StrS.lit [ls.getD g []] rfl rfl (hw'.has _ _ (List.mem_append_right _ List.mem_cons_self))) (fun _ hm=>Nat.lt_irrefl _ (zf_ hb4 hm)) (by rw[List.length_append,List.length_append];simp only[List.flatten_cons,List.flatten_nil,List.append_nil];omega) (by simp)) (fun v4 D4 hC4 hS4=> ?_)
  obtain⟨rfl,hB4⟩:=hS4
  have hE4:=(hE2.app (o:= .cells #[vs (ls.getD g [])] 9 (0,0)) hw4).came hC4
  have hB5:=BldAt.app (Y:= [(b4, .cells #[vs (ls.getD g [])] 9 (0,0))]) hB4
  generalize D4++ [(b4,Obj.cells #[vs (ls.getD g [])] 9 (0,0))]=D5 at*
  refine ko @j7_ ?_
  first|with_reducible refine ks [] @j7_ ?_|refine kp @j7_ ?_
  refine Again.mk (WG.mk (g+1) D5) (by show ls.length - (g+1)<ls.length - g;omega) ⟨by show g+1≤ls.length;omega,hE4, ?_⟩ rfl rfl
  show BldAt b (l++ko_ (ls.take (g+1))) D5
  rw[hsu]
  simpa [xi_] using hB5
 ·obtain rfl:g=ls.length:=by omega
  first|with_reducible refine ks [] @j7_ ?_|refine kp @j7_ ?_
  refine⟨_,(ke @j7_), ?_⟩
  rw[List.take_length] at hBD
  exact⟨hE,rfl,hBD⟩
def idC (id:List UInt8):List Value:=id.map v8
structure IdL where
 l:List UInt8
 h:l.length=32
def wb_ (x:IdL):List Value:=x.l.map v8
def id0:IdL:=⟨List.replicate 32 0,by simp⟩
theorem alC_ (x:IdL): (wb_ x).length=32:=by simp[wb_,x.h]
theorem Q8_ (x:IdL): (wb_ x).toArray=a8 x.l:=rfl
def idsL (ls:List IdL):List UInt8:=(ls.map IdL.l).flatten
theorem ajj_ (ls:List IdL) (g:Nat) (h:g<ls.length):idsL (ls.take (g+1))=idsL (ls.take g)++ (ls.getD g id0).l:=by
 unfold idsL
 rw[List.take_succ_eq_append_getElem h,List.map_append,List.flatten_append,List.getD_eq_getElem?_getD,List.getElem?_eq_getElem h]
 simp only[List.map_cons,List.map_nil,List.flatten_cons,List.flatten_nil,List.append_nil,Option.getD_some]
theorem als_ (ls:List IdL): (idsL ls).length=32*ls.length:=by
 unfold idsL
 induction ls with
 |nil=>rfl
 |cons x r ih=>rw[List.map_cons,List.flatten_cons,List.length_append,ih,x.h,List.length_cons];omega
theorem alZ_ (b:Nat) (X:ze_) (l:List UInt8) (x:Value) (b2 off:Nat) (ls:List IdL) (arr:Array Value) (E:TypeId) (fz:Nat×Nat) (w:World) (hB:BldAt b l X) (hX: ∀p,p∈X→w.heap[p.1]? =some p.2) (hn: (keys X).Nodup)
  (hS:RowS 32 wb_ id0 w x ls b2 off arr E fz) (hne:0<ls.length→b2∉keys X) (hl:l.length+32*ls.length<17179869184):
  Rets Tryz.prog 111 #[vp b 0,x] w (XS w X (fun v D=>v= .tuple #[]∧BldAt b (l++idsL ls) D)):=by
 refine Rets.enterX Tryz.func111 rfl (rs:= []) Tryz.results111 Tryz.ntmps111 hX hn ?_
 refine kf ?_
 ((try with_reducible refine Cw.go [] ?_);(try simp(disch:=(first|assumption|omega| (simp only[xg_,xe_,UInt64.reduceToNat];try omega))) only[↓Sx.S0,Sx.S1,Tryz.fx,j7_,Nat.reduceAdd,Nat.reducePow,Int.reducePow,Nat.reduceBEq, ↓reduceIte,UInt8.reduceToNat,UInt16.reduceToNat,UInt32.reduceToNat,UInt64.reduceToNat,Int.reduceToNat,hS.len]))
 refine Cw.loopG (G:=WG) [9,10,11,5,12,13,14,15,16,17,8] (fun g=> [(8,vi g.g)]) (fun g=>g.D) (fun g=>g.g≤ls.length∧Ext w X g.D∧BldAt b (l++idsL (ls.take g.g)) g.D) (fun g=>ls.length - g.g) ⟨0,X⟩ rfl rfl ?_ ?_
 ·exact⟨by simp,Ext.refl _ _,by simpa [idsL] using hB⟩
 intro g j hg
 refine kv ?_
 obtain⟨g,D⟩:=g
 simp only at hg ⊢
 obtain⟨hgL,hE,hBD⟩:=hg
 by_cases hlt:g<ls.length
 ·have hrd:=hE.old (hS.has (by omega)) (hne (by omega))
  have hld:=hS.load alC_ (by omega) hlt
  rw[Q8_] at hld
  have hsu:=ajj_ ls g hlt
  have hil:=(ls.getD g id0).h
  have hll:=als_ (ls.take g)
  rw[List.length_take] at hll
  have hmin:min g ls.length≤g:=Nat.min_le_left _ _
  ((try with_reducible refine Cw.go [] ?_);(try simp(disch:=(first|assumption|omega| (simp only[xg_,xe_,UInt64.reduceToNat];try omega))) only[↓Sx.S0,Sx.S1,Tryz.fx,j7_,Nat.reduceAdd,Nat.reducePow,Int.reducePow,Nat.reduceBEq, ↓reduceIte,UInt8.reduceToNat,UInt16.reduceToNat,UInt32.reduceToNat,UInt64.reduceToNat,Int.reduceToNat,hrd,hld,hS.idx]))
  refine Ow.alloc rfl rfl Tryz.zr37 fun b5 hb5 hw5=> ?_
  refine Ow.go rfl ?_
  simp(disch:=(first|assumption|omega| (simp only[xg_,xe_,UInt64.reduceToNat];try omega))) only[↓Sx.S0,Sx.S1,Tryz.fx,j7_,Nat.reduceAdd,Nat.reducePow,Int.reducePow,Nat.reduceBEq, ↓reduceIte,UInt8.reduceToNat,UInt16.reduceToNat,UInt32.reduceToNat,UInt64.reduceToNat,Int.reduceToNat,JV_ hb5,alH_ hb5,afy_]
  have hE5:=hE.app (o:= .cells (a8 (ls.getD g id0).l) 37 (0,0)) hw5
  have hB5:=BldAt.app (Y:= [(b5, .cells (a8 (ls.getD g id0).l) 37 (0,0))]) hBD
  have rd5:zA_ w (D++ [(b5, .cells (a8 (ls.getD g id0).l) 37 (0,0))]) b5=_:=z6_ (JV_ hb5)
  generalize D++ [(b5,Obj.cells (a8 (ls.getD g id0).l) 37 (0,0))]=D5 at*
  first|with_reducible refine ks [] (And.intro @j7_ @rd5) ?_|refine kp (And.intro @j7_ @rd5) ?_
  have e32:List.take 32 (List.drop 0 (ls.getD g id0).l)=(ls.getD g id0).l:=by rw[List.drop_zero,List.take_of_length_le (by omega)]
  rw[e32]
  refine Ow.buildSlice (e:=9) #[vs (ls.getD g id0).l] rfl rfl (by kernel_rfl) fun b6 hb6 hw6=> ?_
  refine ko @j7_ ?_
  refine Ow.callX (Y:= [(b6, .cells #[vs (ls.getD g id0).l] 9 (0,0))]) (by simp) rfl rfl Tryz.call60 (fun w' hw' hX hn=>vk_ b D5 _ _ b6 0 [(ls.getD g id0).l] _ _ _ w' hB5 hX hn (StrS.lit [(ls.getD g id0).l] rfl rfl (hw'.has _ _ (List.mem_append_right _ List.mem_cons_self))) (fun _ hm=>Nat.lt_irrefl _ (zf_ hb6 hm)) (by rw[List.length_append];simp only[List.flatten_cons,List.flatten_nil,List.append_nil];omega) (by simp)) (fun v4 D4 hC4 hS4=> ?_)
  obtain⟨rfl,hB4⟩:=hS4
  have hE4:=(hE5.app (o:= .cells #[vs (ls.getD g id0).l] 9 (0,0)) hw6).came hC4
  have hB6:=BldAt.app (Y:= [(b6, .cells #[vs (ls.getD g id0).l] 9 (0,0))]) hB4
  generalize D4++ [(b6,Obj.cells #[vs (ls.getD g id0).l] 9 (0,0))]=D6 at*
  refine ko @j7_ ?_
  first|with_reducible refine ks [] @j7_ ?_|refine kp @j7_ ?_
  refine Again.mk (WG.mk (g+1) D6) (by show ls.length - (g+1)<ls.length - g;omega) ⟨by show g+1≤ls.length;omega,hE4, ?_⟩ rfl rfl
  show BldAt b (l++idsL (ls.take (g+1))) D6
  rw[hsu]
  simpa using hB6
 ·obtain rfl:g=ls.length:=by omega
  first|with_reducible refine ks [] @j7_ ?_|refine kp @j7_ ?_
  refine⟨_,(ke @j7_), ?_⟩
  rw[List.take_length] at hBD
  exact⟨hE,rfl,hBD⟩
theorem kZ_ (b:Nat) (X:ze_) (l:List UInt8) (w:World) (hB:BldAt b l X) (hX: ∀p,p∈X→w.heap[p.1]? =some p.2) (hn: (keys X).Nodup) (hl:l.length<34359738368):
  Rets Tryz.prog 64 #[vp b 0] w (XS w X (fun v _=>v=vs l)):=by
 refine Rets.enterX Tryz.func64 rfl (rs:= [.tmp 2]) Tryz.results64 Tryz.ntmps64 hX hn ?_
 refine kf ?_
 first|with_reducible refine ks [] @j7_ ?_|refine kp @j7_ ?_
 refine Ow.callX (Y:= []) (by simp) rfl rfl Tryz.call131 (fun w' hw' hX hn=>aaC_ b X l w' hB hX hn hl) (fun v2 D2 hC hS2=> ?_)
 subst hS2
 rw[List.append_nil]
 refine ko @j7_ ?_
 first|with_reducible refine ks [] @j7_ ?_|refine kp @j7_ ?_
 refine⟨_,(ke @j7_), ?_⟩
 exact⟨(Ext.refl _ _).came0 hC,rfl⟩
end Go.Proofs
end
section
open Go Go.Proofs Go.Sx
namespace Go.Proofs
set_option maxRecDepth 10000
set_option maxHeartbeats 1000000
set_option linter.unusedSimpArgs false
structure Rd where
 s:List UInt8
 at_:Nat
 err:Nat
def rdC (r:Rd):Array Value:= #[vs r.s,vi r.at_,vi r.err]
theorem kc_ (s:List UInt8) (a e:Int) (E:TypeId) (n:Nat):zs_ (some (false,n)) (some (.cells #[vs s,vi a,vi e] E (0,0))) 0=some (vs s):=(rfl)
theorem ke_ (s:List UInt8) (a e:Int) (E:TypeId) (n:Nat):zs_ (some (false,n)) (some (.cells #[vs s,vi a,vi e] E (0,0))) 1=some (vi a):=(rfl)
theorem kf_ (s:List UInt8) (a e:Int) (E:TypeId) (n:Nat):zs_ (some (false,n)) (some (.cells #[vs s,vi a,vi e] E (0,0))) 2=some (vi e):=(rfl)
theorem xr_ (s:List UInt8) (a e x:Int) (E:TypeId):zl_ (some (false,1)) (some (.cells #[vs s,vi a,vi e] E (0,0))) 1 (vi x)=some (.cells #[vs s,vi x,vi e] E (0,0)):=by
 simp[zl_,wg_,vi,Value.cells,Value.oneCell']
theorem xp_ (s:List UInt8) (a e x:Int) (E:TypeId):zl_ (some (false,1)) (some (.cells #[vs s,vi a,vi e] E (0,0))) 2 (vi x)=some (.cells #[vs s,vi a,vi x] E (0,0)):=by
 simp[zl_,wg_,vi,Value.cells,Value.oneCell']
theorem nilR (b o:Nat):qO_ Tryz.prog .eql 134 (vp b o) (.pointer none)=some (.bool false):=by
 simp[qO_,eqX,qH_,qI_,Tryz.underlying134,vp]
theorem aoE_:qO_ Tryz.prog .eql 134 (.pointer none) (.pointer none)=some (.bool true):=by
 simp[qO_,eqX,qH_,qI_,Tryz.underlying134]
theorem anR_ (b o:Nat):qO_ Tryz.prog .neq 134 (vp b o) (.pointer none)=some (.bool true):=by
 simp[qO_,eqX,qH_,qI_,Tryz.underlying134,vp]
theorem aj2_:qO_ Tryz.prog .neq 134 (.pointer none) (.pointer none)=some (.bool false):=by
 simp[qO_,eqX,qH_,qI_,Tryz.underlying134]
set_option linter.defProp false
def zV_:=And.intro (And.intro (And.intro (@kc_) (@ke_)) (And.intro (@kf_) (@xr_))) (And.intro (And.intro (@xp_) (@nilR)) (And.intro (@aoE_) (And.intro (@anR_) (@aj2_))))
theorem xR_ (b:Nat) (s:List UInt8) (a e:Int) (w:World) (ho:w.heap[b]? =some (.cells #[vs s,vi a,vi e] 212 (0,0))):
  Rets Tryz.prog 137 #[vp b 0] w (fun v D=>v=vi e∧D= []):=by
 refine Rets.enterV Tryz.func137 rfl (rs:= [.tmp 2]) Tryz.results137 Tryz.ntmps137 ?_
 refine kf ?_
 first|with_reducible refine ks [] (And.intro @zV_ @ho) ?_|refine kp (And.intro @zV_ @ho) ?_
 refine⟨_,(ke @zV_),trivial, ?_⟩
 rfl
theorem afD_ (b:Nat) (s:List UInt8) (a e:Int) (w:World) (ho:w.heap[b]? =some (.cells #[vs s,vi a,vi e] 212 (0,0))):
  Rets Tryz.prog 138 #[vp b 0] w (fun v D=>v=vi a∧D= []):=by
 refine Rets.enterV Tryz.func138 rfl (rs:= [.tmp 2]) Tryz.results138 Tryz.ntmps138 ?_
 refine kf ?_
 first|with_reducible refine ks [] (And.intro @zV_ @ho) ?_|refine kp (And.intro @zV_ @ho) ?_
 refine⟨_,(ke @zV_),trivial, ?_⟩
 rfl
theorem Kc_ (b:Nat) (s:List UInt8) (a e:Int) (w:World) (ho:w.heap[b]? =some (.cells #[vs s,vi a,vi e] 212 (0,0))):
  Rets Tryz.prog 74 #[vp b 0] w (fun v D=>v=vi (if e≠0 then e else if a<s.length then 5 else 0)∧D= []):=by
 refine Rets.enterV Tryz.func74 rfl (rs:= [.tmp 2]) Tryz.results74 Tryz.ntmps74 ?_
 refine kf ?_
 first|with_reducible refine ks [] @zV_ ?_|refine kp @zV_ ?_
 refine Ow.callFV rfl Tryz.call137 (fun w' hw'=>xR_ b s a e w' (by rw[hw'.old b (Array.getElem?_eq_some_iff.1 ho).1 (by simp[keys])];exact ho)) ?_
 refine ko @zV_ ?_
 first|with_reducible refine ks [] @zV_ ?_|refine kp @zV_ ?_
 by_cases he:e=0
 ·first|with_reducible refine ks [] @zV_ ?_|refine kp @zV_ ?_
  refine Cw.regionS [b] [0,1,2,4,5,6,3,7,8,9] [] (by kernel_rfl) (by kernel_rfl) (by kernel_rfl) ?_
  simp only[zg_, ↓zd_, ↓zb_, ↓zp_, ↓zq_,za_]
  refine kq (And.intro @zV_ @ho) ?_
  try with_reducible refine Ow.nil ?_
  first|with_reducible refine ks [] @zV_ ?_|refine kp @zV_ ?_
  refine cdC.splitp (fun hc=> ?_) (fun hc=> ?_)
  ·first|with_reducible refine ks [] @zV_ ?_|refine kp @zV_ ?_
   refine⟨_,(ke @zV_),trivial, ?_⟩
   simp[hc,he,vi_]
  ·first|with_reducible refine ks [] @zV_ ?_|refine kp @zV_ ?_
   refine⟨_,(ke @zV_),trivial, ?_⟩
   simp[hc,he,vi_]
 ·first|with_reducible refine ks [] @zV_ ?_|refine kp @zV_ ?_
  refine⟨_,(ke @zV_),trivial, ?_⟩
  simp[he,vi_]
theorem xD_ (b:Nat) (s:List UInt8) (a e x y:Int) (w:World) (ho:w.heap[b]? =some (.cells #[vs s,vi a,vi e] 212 (0,0))):
  Rets Tryz.prog 149 #[vp b 0,vi x,vi y] w (fun v D=> ∃o,D= [(b,o)]∧v= .tuple #[]∧o= .cells #[vs s,vi (if e=0 then y else a),vi (if e=0 then x else e)] 212 (0,0)):=by
 refine Rets.enterM Tryz.func149 rfl (rs:= []) Tryz.results149 Tryz.ntmps149 ho ?_
 refine kf ?_
 first|with_reducible refine ks [] @zV_ ?_|refine kp @zV_ ?_
 by_cases he:e=0
 ·first|with_reducible refine ks [] @zV_ ?_|refine kp @zV_ ?_
  refine⟨_,_,_,(ke @zV_),rfl,trivial, ?_⟩
  simp[he,vi_]
 ·first|with_reducible refine ks [] @zV_ ?_|refine kp @zV_ ?_
  refine⟨_,_,_,(ke @zV_),rfl,trivial, ?_⟩
  simp[he,vi_]
def qD_ (s:List UInt8) (a:Nat) (e n:Int):List UInt8×Nat×Int:=
 if e≠0 then([],a,e) else if n<0 then([],a,2) else if(s.length:Int) - a<n then([],a,3) else((s.drop a).take n.toNat,a+n.toNat,0)
theorem wB_ (b:Nat) (s:List UInt8) (a:Nat) (e n:Int) (w:World) (ha:a≤s.length) (hs:s.length<9223372036854775808) (ho:w.heap[b]? =some (.cells #[vs s,vi a,vi e] 212 (0,0))):
  Rets Tryz.prog 94 #[vp b 0,vi n] w (fun v D=> ∃o,D= [(b,o)]∧v=vs (qD_ s a e n).1∧o= .cells #[vs s,vi (qD_ s a e n).2.1,vi (qD_ s a e n).2.2] 212 (0,0)):=by
 refine Rets.enterM Tryz.func94 rfl (rs:= [.tmp 4]) Tryz.results94 Tryz.ntmps94 ho ?_
 refine kf ?_
 first|with_reducible refine ks [] @zV_ ?_|refine kp @zV_ ?_
 refine Ow.callFV rfl Tryz.call137 (fun w' hw'=>xR_ b s a e w' (hw'.has _ _ List.mem_cons_self)) ?_
 refine ko @zV_ ?_
 first|with_reducible refine ks [] @zV_ ?_|refine kp @zV_ ?_
 unfold qD_
 by_cases he:e=0
 ·subst he
  rw[if_neg (fun h=>h rfl)]
  first|with_reducible refine ks [] @zV_ ?_|refine kp @zV_ ?_
  by_cases hn:n<0
  ·rw[if_pos hn]
   first|with_reducible refine ks [] @zV_ ?_|refine kp @zV_ ?_
   refine Ow.callM rfl rfl Tryz.call149 (by simp[keys]) (fun w' hw'=>xD_ b s a 0 2 a w' (hw'.has _ _ List.mem_cons_self)) ?_
   refine ko @zV_ ?_
   first|with_reducible refine ks [] @zV_ ?_|refine kp @zV_ ?_
   refine⟨_,_,_,(ke @zV_),rfl,trivial, ?_⟩
   exact⟨rfl,rfl⟩
  ·rw[if_neg hn]
   first|with_reducible refine ks [] @zV_ ?_|refine kp @zV_ ?_
   refine Cw.regionS [b] [0,1,2,3,6,7,8,4,5,9,10,11,12] [] (by kernel_rfl) (by kernel_rfl) (by kernel_rfl) ?_
   simp only[zg_, ↓zd_, ↓zb_, ↓zp_, ↓zq_,za_]
   refine kq @zV_ ?_
   try with_reducible refine Ow.nil ?_
   first|with_reducible refine ks [] @zV_ ?_|refine kp @zV_ ?_
   by_cases hl: (s.length:Int) - a<n
   ·rw[if_pos hl]
    first|with_reducible refine ks [] @zV_ ?_|refine kp @zV_ ?_
    refine Ow.callM rfl rfl Tryz.call149 (by simp[keys]) (fun w' hw'=>xD_ b s a 0 3 a w' (hw'.has _ _ List.mem_cons_self)) ?_
    refine ko @zV_ ?_
    first|with_reducible refine ks [] @zV_ ?_|refine kp @zV_ ?_
    refine⟨_,_,_,(ke @zV_),rfl,trivial, ?_⟩
    exact⟨rfl,rfl⟩
   ·rw[if_neg hl]
    obtain⟨m,rfl⟩: ∃m:Nat,n=(m:Int):=⟨n.toNat,by omega⟩
    first|with_reducible refine ks [] @zV_ ?_|refine kp @zV_ ?_
    refine Cw.regionS [b] [0,1,2,4,5,6,8,9,10,12,3,7,11,13,14,15] [] (by kernel_rfl) (by kernel_rfl) (by kernel_rfl) ?_
    simp only[zg_, ↓zd_, ↓zb_, ↓zp_, ↓zq_,za_]
    refine kq @zV_ ?_
    try with_reducible refine Ow.nil ?_
    first|with_reducible refine ks [] @zV_ ?_|refine kp @zV_ ?_
    refine⟨_,_,_,(ke @zV_),rfl,trivial, ?_⟩
    refine⟨?_, ?_⟩
    ·simp only[vi_,Int.toNat_natCast]
     rw[List.drop_take,Nat.add_sub_cancel_left]
    ·rw[Int.toNat_natCast,Int.natCast_add]
 ·rw[if_pos he]
  first|with_reducible refine ks [] @zV_ ?_|refine kp @zV_ ?_
  refine⟨_,_,_,(ke @zV_),rfl,trivial, ?_⟩
  exact⟨rfl,rfl⟩
end Go.Proofs
end
section
open Go Go.Proofs Go.Sx
namespace Go.Proofs
set_option maxRecDepth 10000
set_option maxHeartbeats 8000000
set_option linter.unusedSimpArgs false
set_option linter.defProp false
def zK_:=And.intro (And.intro (And.intro (@kc_) (@ke_)) (And.intro (@kf_) (@xr_))) (And.intro (And.intro (@xp_) (@nilR)) (And.intro (@aoE_) (And.intro (@anR_) (@aj2_))))
def qb_ (most:Int):List UInt8→Nat→Nat→Except Nat (Nat×Nat)
 | [],_,_=> .error 3
 |c::r,k,n=>
  if 128≤c.toNat then(if k+1=6 then .error 4 else qb_ most r (k+1) (n+c.toNat%128*128^k))
  else if c.toNat=0∧0<k then .error 2
  else if n+c.toNat%128*128^k≤1099511627775∧((n+c.toNat%128*128^k:Nat):Int)≤most then .ok (n+c.toNat%128*128^k,k+1)
  else .error 4
def zr_ (s:List UInt8) (a:Nat) (e most:Int):Int×Nat×Int:=
 if e≠0 then(0,a,e) else match qb_ most (s.drop a) 0 0 with
  | .ok (n,k)=>(n,a+k,0)
  | .error x=>(0,a,x)
theorem Xp_ {s:List UInt8} {a:Nat} {e most:Int} {n k:Nat} (he:e=0) (h:qb_ most (s.drop a) 0 0= .ok (n,k)):zr_ s a e most=((n:Int),a+k,0):=by
 unfold zr_;rw[if_neg (by simp[he]),h]
theorem j3_ {s:List UInt8} {a:Nat} {e most:Int} {x:Nat} (he:e=0) (h:qb_ most (s.drop a) 0 0= .error x):zr_ s a e most=(0,a,(x:Int)):=by
 unfold zr_;rw[if_neg (by simp[he]),h]
structure NumS where
 more:Bool
 k:Nat
 n:Nat
 x:Nat
theorem q8_ (b:Nat) (s:List UInt8) (a:Nat) (e most:Int) (w:World) (ha:a≤s.length) (hs:s.length<9223372036854775808) (ho:w.heap[b]? =some (.cells #[vs s,vi a,vi e] 212 (0,0))):
  Rets Tryz.prog 95 #[vp b 0,vi most] w (fun v D=> ∃o,D= [(b,o)]∧v=vi (zr_ s a e most).1∧o= .cells #[vs s,vi (zr_ s a e most).2.1,vi (zr_ s a e most).2.2] 212 (0,0)):=by
 refine Rets.enterM Tryz.func95 rfl (rs:= [.tmp 4]) Tryz.results95 Tryz.ntmps95 ho ?_
 refine kf ?_
 first|with_reducible refine ks [] @zK_ ?_|refine kp @zK_ ?_
 by_cases he:e=0
 ·subst he
  refine Cw.scopeL (G:=NumS) (fun g=>(if g.more then 1 else 0)) [10,11,12,4,5,6,7,13,14,15,16,8,9,17,18,19,20,21,22,23,24,25,26,27,28,29,30,31,32,33,34,35,36,37,38,39,40,41,42,43,44,45,46,47,48,49,50,51,52,53,54,55,56,57,58,59,60,61,62,63,64,65,66,67,68,69,70,71,72,73] (fun g=>(if g.more then [(5,vi g.n),(6,vi (7*g.k:Nat)),(8,vi 3),(9,vi a)] else [(8,vi g.x),(9,vi a)])) (fun g=> [(b, .cells #[vs s,vi (a+g.k:Nat),vi 0] 212 (0,0))]) (fun g=>a+g.k≤s.length∧(if g.more then qb_ most (s.drop a) 0 0=qb_ most (s.drop (a+g.k)) g.k g.n∧g.n<128^g.k∧g.k<6 else qb_ most (s.drop a) 0 0= .error g.x)) (fun g=>(if g.more then 7 - g.k else 0)) ?_ ?_ ?_
  ·intro g
   obtain⟨m,k,n,x⟩:=g
   cases m<;>rfl
  ·intro g j hg
   obtain⟨m,k,n,x⟩:=g
   obtain⟨hk,hg⟩:=hg
   simp only at hk
   cases m with
   |false=>
    simp only[Bool.false_eq_true, ↓reduceIte] at hg ⊢
    simp only[kF_,Jn_,Bool.or_false,Bool.false_or,Bool.or_true,Bool.true_or,Nat.reduceBEq,beq_self_eq_true, ↓reduceIte,Bool.false_eq_true]
    refine kv ?_
    try with_reducible refine qv_ ?_
    first|with_reducible refine ks [] @zK_ ?_|refine kp @zK_ ?_
    refine Ow.callM rfl rfl Tryz.call149 (by simp[keys]) (fun w' hw'=>xD_ b s _ 0 x a w' (hw'.has _ _ List.mem_cons_self)) ?_
    refine ko @zK_ ?_
    first|with_reducible refine ks [] @zK_ ?_|refine kp @zK_ ?_
    rw[j3_ rfl hg]
    refine⟨_,_,_,(ke @zK_),rfl,trivial, ?_⟩
    simp[vi_]
   |true=>
    simp only[↓reduceIte] at hg ⊢
    obtain⟨hgo,hn,hk6⟩:=hg
    simp only[kF_,Jn_,Bool.or_false,Bool.false_or,Bool.or_true,Bool.true_or,Nat.reduceBEq,beq_self_eq_true, ↓reduceIte,Bool.false_eq_true]
    refine kv ?_
    try with_reducible refine qv_ ?_
    first|with_reducible refine ks [] @zK_ ?_|refine kp @zK_ ?_
    refine Cw.regionS [b] [0,1,2,4,5,6,3,7,8,9] [] (by kernel_rfl) (by kernel_rfl) (by kernel_rfl) ?_
    simp only[zg_, ↓zd_, ↓zb_, ↓zp_, ↓zq_,za_]
    refine kq @zK_ ?_
    try with_reducible refine Ow.nil ?_
    by_cases hend:a+k=s.length
    ·first|with_reducible refine ks [] @zK_ ?_|refine kp @zK_ ?_
     refine Jump.mk (NumS.mk false k n 3) rfl (by show 0<7 - k;omega) ⟨hk, ?_⟩ rfl rfl
     show qb_ most (s.drop a) 0 0= .error 3
     rw[hgo,hend,List.drop_length];rfl
    ·first|with_reducible refine ks [] @zK_ ?_|refine kp @zK_ ?_
     have hak:a+k<s.length:=by omega
     have hdrop:s.drop (a+k)=s.getD (a+k) 0::s.drop (a+k+1):=by
      rw[List.drop_eq_getElem_cons hak,List.getD_eq_getElem?_getD,List.getElem?_eq_getElem hak];rfl
     rw[hdrop] at hgo
     refine Cw.regionS [b] [0,1,2,4,5,6,3,7,8,9] [] (by kernel_rfl) (by kernel_rfl) (by kernel_rfl) ?_
     simp only[zg_, ↓zd_, ↓zb_, ↓zp_, ↓zq_,za_]
     refine kq @zK_ ?_
     try with_reducible refine Ow.nil ?_
     generalize s.getD (a+k) 0=c at*
     have hp:128^k≤34359738368:=Nat.pow_le_pow_right (by omega) (show k≤5 by omega)
     have hp0:0<128^k:=Nat.pow_pos (by omega)
     have hd: (c%128).toNat=c.toNat%128:=by simp
     have hcl:=c.toNat_lt
     have hdm:c.toNat%128*128^k≤127*128^k:=Nat.mul_le_mul_right _ (by omega)
     have hshl:zo_ .shl (vi ((c.toNat%128:Nat):Int)) (vi ((7*k:Nat):Int))=some (vi ((c.toNat%128*128^k:Nat):Int)):=by
      have h2: (2:Int)^ (7*k)=((128^k:Nat):Int):=by
       rw[Int.pow_mul];push_cast;rfl
      have:=aju_ ((c.toNat%128:Nat):Int) .i64 (7*k) (by rw[h2];refine⟨by omega,by omega, ?_⟩;rw[←Int.natCast_mul];omega)
      rw[h2,←Int.natCast_mul] at this
      exact this
     have hor:zo_ .or (vi (n:Int)) (vi ((c.toNat%128*128^k:Nat):Int))=some (vi ((n+c.toNat%128*128^k:Nat):Int)):=by
      have:=or_i (n:Int) ((c.toNat%128*128^k:Nat):Int) ⟨by omega,by omega,by omega,by omega⟩
      rw[this]
      congr 3
      rw[Int.toNat_natCast,Int.toNat_natCast,show 128^k=2^ (7*k) by rw[Nat.pow_mul],Nat.mul_comm,Nat.or_comm,←Nat.two_pow_add_eq_or_of_lt (by rw[Nat.pow_mul];exact hn),Nat.add_comm]
     have hlt:n+c.toNat%128*128^k<128^ (k+1):=by rw[Nat.pow_succ];omega
     have hrem:zo_ .rem (v8 c) (v8 128)=some (v8 (c%128)):=V2_ _ _ (by decide)
     first|with_reducible refine ks [] (And.intro @zK_ (And.intro @hrem (And.intro @hd (And.intro @hshl (@hor))))) ?_|refine kp (And.intro @zK_ (And.intro @hrem (And.intro @hd (And.intro @hshl (@hor))))) ?_
     have hle:decide ((128:UInt8)≤c)=decide (128≤c.toNat):=by simp[UInt8.le_iff_toNat_le]
     cases h128:decide ((128:UInt8)≤c)
     ·rw[h128] at hle
      have hc128: ¬128≤c.toNat:=of_decide_eq_false hle.symm
      cases hz: (c==0)
      ·have hc0: ¬ (c.toNat=0∧0<k):=by
        rintro⟨h0,-⟩
        have:c=0:=UInt8.toNat_inj.1 h0
        rw[this] at hz
        exact absurd hz (by decide)
       first|with_reducible refine ks [] (And.intro @zK_ @hz) ?_|refine kp (And.intro @zK_ @hz) ?_
       by_cases hm:n+c.toNat%128*128^k≤1099511627775
       ·have e1:decide (((n+c.toNat%128*128^k:Nat):Int)≤1099511627775)=true:=decide_eq_true (by omega)
        first|with_reducible refine ks [] (And.intro @zK_ @e1) ?_|refine kp (And.intro @zK_ @e1) ?_
        by_cases hmo: ((n+c.toNat%128*128^k:Nat):Int)≤most
        ·first|with_reducible refine ks [] @zK_ ?_|refine kp @zK_ ?_
         rw[Xp_ rfl (by rw[hgo,qb_,if_neg hc128,if_neg hc0,if_pos ⟨hm,hmo⟩])]
         refine⟨_,_,_,(ke @zK_),rfl,trivial, ?_⟩
         exact⟨rfl,rfl⟩
        ·first|with_reducible refine ks [] @zK_ ?_|refine kp @zK_ ?_
         refine Ow.callM rfl rfl Tryz.call149 (by simp[keys]) (fun w' hw'=>xD_ b s _ 0 4 a w' (hw'.has _ _ List.mem_cons_self)) ?_
         refine ko @zK_ ?_
         first|with_reducible refine ks [] @zK_ ?_|refine kp @zK_ ?_
         rw[j3_ (x:=4) rfl (by rw[hgo,qb_,if_neg hc128,if_neg hc0,if_neg (fun h=>hmo h.2)])]
         refine⟨_,_,_,(ke @zK_),rfl,trivial, ?_⟩
         exact⟨rfl,rfl⟩
       ·have e1:decide (((n+c.toNat%128*128^k:Nat):Int)≤1099511627775)=false:=decide_eq_false (by omega)
        first|with_reducible refine ks [] (And.intro @zK_ @e1) ?_|refine kp (And.intro @zK_ @e1) ?_
        refine Ow.callM rfl rfl Tryz.call149 (by simp[keys]) (fun w' hw'=>xD_ b s _ 0 4 a w' (hw'.has _ _ List.mem_cons_self)) ?_
        refine ko @zK_ ?_
        first|with_reducible refine ks [] @zK_ ?_|refine kp @zK_ ?_
        rw[j3_ (x:=4) rfl (by rw[hgo,qb_,if_neg hc128,if_neg hc0,if_neg (fun h=>hm h.1)])]
        refine⟨_,_,_,(ke @zK_),rfl,trivial, ?_⟩
        exact⟨rfl,rfl⟩
      ·have hcz:c=0:=eq_of_beq hz
       have hct:c.toNat=0:=by rw[hcz];rfl
       first|with_reducible refine ks [] (And.intro @zK_ @hz) ?_|refine kp (And.intro @zK_ @hz) ?_
       by_cases hk0:0<k
       ·first|with_reducible refine ks [] @zK_ ?_|refine kp @zK_ ?_
        refine Jump.mk (NumS.mk false (k+1) n 2) rfl (by show 0<7 - k;omega) ⟨by show a+ (k+1)≤s.length;omega, ?_⟩ rfl rfl
        show qb_ most (s.drop a) 0 0= .error 2
        rw[hgo,qb_,if_neg hc128,if_pos ⟨hct,hk0⟩]
       ·have hc0: ¬ (c.toNat=0∧0<k):=fun h=>hk0 h.2
        first|with_reducible refine ks [] @zK_ ?_|refine kp @zK_ ?_
        by_cases hm:n+c.toNat%128*128^k≤1099511627775
        ·have e1:decide (((n+c.toNat%128*128^k:Nat):Int)≤1099511627775)=true:=decide_eq_true (by omega)
         first|with_reducible refine ks [] (And.intro @zK_ @e1) ?_|refine kp (And.intro @zK_ @e1) ?_
         by_cases hmo: ((n+c.toNat%128*128^k:Nat):Int)≤most
         ·first|with_reducible refine ks [] @zK_ ?_|refine kp @zK_ ?_
          rw[Xp_ rfl (by rw[hgo,qb_,if_neg hc128,if_neg hc0,if_pos ⟨hm,hmo⟩])]
          refine⟨_,_,_,(ke @zK_),rfl,trivial, ?_⟩
          exact⟨rfl,rfl⟩
         ·first|with_reducible refine ks [] @zK_ ?_|refine kp @zK_ ?_
          refine Ow.callM rfl rfl Tryz.call149 (by simp[keys]) (fun w' hw'=>xD_ b s _ 0 4 a w' (hw'.has _ _ List.mem_cons_self)) ?_
          refine ko @zK_ ?_
          first|with_reducible refine ks [] @zK_ ?_|refine kp @zK_ ?_
          rw[j3_ (x:=4) rfl (by rw[hgo,qb_,if_neg hc128,if_neg hc0,if_neg (fun h=>hmo h.2)])]
          refine⟨_,_,_,(ke @zK_),rfl,trivial, ?_⟩
          exact⟨rfl,rfl⟩
        ·have e1:decide (((n+c.toNat%128*128^k:Nat):Int)≤1099511627775)=false:=decide_eq_false (by omega)
         first|with_reducible refine ks [] (And.intro @zK_ @e1) ?_|refine kp (And.intro @zK_ @e1) ?_
         refine Ow.callM rfl rfl Tryz.call149 (by simp[keys]) (fun w' hw'=>xD_ b s _ 0 4 a w' (hw'.has _ _ List.mem_cons_self)) ?_
         refine ko @zK_ ?_
         first|with_reducible refine ks [] @zK_ ?_|refine kp @zK_ ?_
         rw[j3_ (x:=4) rfl (by rw[hgo,qb_,if_neg hc128,if_neg hc0,if_neg (fun h=>hm h.1)])]
         refine⟨_,_,_,(ke @zK_),rfl,trivial, ?_⟩
         exact⟨rfl,rfl⟩
     ·rw[h128] at hle
      have hc128:128≤c.toNat:=of_decide_eq_true hle.symm
      first|with_reducible refine ks [] @zK_ ?_|refine kp @zK_ ?_
      by_cases hk5:k=5
      ·first|with_reducible refine ks [] @zK_ ?_|refine kp @zK_ ?_
       refine Jump.mk (NumS.mk false (k+1) n 4) rfl (by show 0<7 - k;omega) ⟨by show a+ (k+1)≤s.length;omega, ?_⟩ rfl rfl
       show qb_ most (s.drop a) 0 0= .error 4
       rw[hgo,qb_,if_pos hc128,if_pos (by omega)]
      ·first|with_reducible refine ks [] @zK_ ?_|refine kp @zK_ ?_
       refine Jump.mk (NumS.mk true (k+1) (n+c.toNat%128*128^k) 0) rfl (by show 7 - (k+1)<7 - k;omega) ⟨by show a+ (k+1)≤s.length;omega, ?_⟩ rfl rfl
       show qb_ most (s.drop a) 0 0=qb_ most (s.drop (a+ (k+1))) (k+1) (n+c.toNat%128*128^k)∧n+c.toNat%128*128^k<128^ (k+1)∧k+1<6
       refine⟨?_,hlt,by omega⟩
       rw[hgo,qb_,if_pos hc128,if_neg (by omega)]
       rfl
  ·intro key
   have key0:=fun f'=>key (NumS.mk true 0 0 0) f'
   simp only[kF_,Jn_,Bool.or_false,Bool.false_or,Bool.or_true,Bool.true_or,Nat.reduceBEq,beq_self_eq_true, ↓reduceIte,Bool.false_eq_true] at key0
   clear key
   repeat ((try with_reducible refine Cw.go [999999] ?_);(simp(disch:=(first|assumption|omega| (simp only[xg_,xe_,UInt64.reduceToNat];try omega))) only[↓Sx.S0,Sx.S1,Tryz.fx,zK_,Nat.reduceAdd,Nat.reducePow,Int.reducePow,Nat.reduceBEq, ↓reduceIte,UInt8.reduceToNat,UInt16.reduceToNat,UInt32.reduceToNat,UInt64.reduceToNat,Int.reduceToNat]))
   refine Ow.callFV rfl Tryz.call137 (fun w' hw'=>xR_ b s a 0 w' (hw'.has _ _ List.mem_cons_self)) ?_
   refine ko @zK_ ?_
   repeat ((try with_reducible refine Cw.go [999999] ?_);(simp(disch:=(first|assumption|omega| (simp only[xg_,xe_,UInt64.reduceToNat];try omega))) only[↓Sx.S0,Sx.S1,Tryz.fx,zK_,Nat.reduceAdd,Nat.reducePow,Int.reducePow,Nat.reduceBEq, ↓reduceIte,UInt8.reduceToNat,UInt16.reduceToNat,UInt32.reduceToNat,UInt64.reduceToNat,Int.reduceToNat]))
   repeat ((try with_reducible refine Cw.go [999999] ?_);(simp(disch:=(first|assumption|omega| (simp only[xg_,xe_,UInt64.reduceToNat];try omega))) only[↓Sx.S0,Sx.S1,Tryz.fx,zK_,Nat.reduceAdd,Nat.reducePow,Int.reducePow,Nat.reduceBEq, ↓reduceIte,UInt8.reduceToNat,UInt16.reduceToNat,UInt32.reduceToNat,UInt64.reduceToNat,Int.reduceToNat]))
   refine Cw.regionS [b] [0,1,2,4,3,5] [] (by kernel_rfl) (by kernel_rfl) (by kernel_rfl) ?_
   simp only[zg_, ↓zd_, ↓zb_, ↓zp_, ↓zq_,za_]
   refine kq @zK_ ?_
   try with_reducible refine Ow.nil ?_
   repeat ((try with_reducible refine Cw.go [999999] ?_);(simp(disch:=(first|assumption|omega| (simp only[xg_,xe_,UInt64.reduceToNat];try omega))) only[↓Sx.S0,Sx.S1,Tryz.fx,zK_,Nat.reduceAdd,Nat.reducePow,Int.reducePow,Nat.reduceBEq, ↓reduceIte,UInt8.reduceToNat,UInt16.reduceToNat,UInt32.reduceToNat,UInt64.reduceToNat,Int.reduceToNat]))
   refine Cw.label ?_
   refine key0 _ ⟨by omega,rfl,by omega,by omega⟩ ?_
   rfl
 ·refine Cw.scopeS ?_
  first|with_reducible refine ks [] @zK_ ?_|refine kp @zK_ ?_
  refine Ow.callFV rfl Tryz.call137 (fun w' hw'=>xR_ b s a e w' (hw'.has _ _ List.mem_cons_self)) ?_
  refine ko @zK_ ?_
  first|with_reducible refine ks [] @zK_ ?_|refine kp @zK_ ?_
  unfold zr_
  refine⟨_,_,_,(ke @zK_),rfl,trivial, ?_⟩
  simp[he,vi_]
end Go.Proofs
end
namespace Go.Sx
open Go
section
variable {P:Program} {w0:World} {f:Fr} {L:ze_} {N:Fr→ze_→Prop} {ops:Array Oper} {rest:List Oper} {md:Md}
 {d:Option Tmp} {ty:TypeId} {ps:String} {af:Array Edge} {g:Option (Nat×Bool)}
theorem KF_ (l:List UInt8) (k size:Nat) (w:World): (Builtin.firstCells size k (vs l)).run P w= .ok ((l.take k).map v8).toArray w:=by
 simp only[vs,Builtin.firstCells]
 show Result.ok _ w=_
 congr 1
 have: ((ByteArray.mk l.toArray).extract 0 k).data=(l.take k).toArray:=by
  rw[ByteArray.data_extract]
  simp
 rw[this]
 simp
 rfl
theorem zi_ (R:List Nat) (x:UInt8):rdIn R (v8 x)=true:=(rfl)
theorem Zq_ (R:List Nat) (x:UInt16):rdIn R (v16 x)=true:=(rfl)
theorem w4_ (R:List Nat) (x:UInt32):rdIn R (v32 x)=true:=(rfl)
theorem Zp_ (R:List Nat) (x:UInt64):rdIn R (v64 x)=true:=(rfl)
theorem zh_ (R:List Nat) (x:Int):rdIn R (vi x)=true:=(rfl)
theorem Ow.copyText {td tx e:TypeId} {m:Bool×Nat} {x y:Operand} {b off n c:Nat} {l:List UInt8} {cs:Array Value} {E:TypeId} {md':Md} (he:md.turn=some md')
  (hs:zn_ ops f ⟨d, .call ⟨.builtin .copy, #[x,y], #[td,tx]⟩,ty,ps,af,g⟩=false) (hu:P.underlying td=some (.slice e)) (hm:z2_ P e=some m)
  (hx:ev f x=vsl b off n c) (hy:ev f y=vs l) (hl:look L b=some (.cells cs E (0,0))) (hn:off+n≤cs.size)
  (hO:Ow P w0 ops md' rest (qC_ f d (vi (min l.length n:Nat))) (setB L b (.cells (wg_ cs off ((l.take (min l.length n)).map v8)) E (0,0))) N):
  Ow P w0 ops md (⟨d, .call ⟨.builtin .copy, #[x,y], #[td,tx]⟩,ty,ps,af,g⟩::rest) f L N:=by
 refine Ow.step he rfl hs fun w hw=> ?_
 have hb:=hw.has _ _ (zJ_ hl)
 have hlt:=(Array.getElem?_eq_some_iff.1 hb).1
 have hlen: (Builtin.lenOf (vs l)).run P w= .ok l.length w:=by simp only[vs,Builtin.lenOf,wy_];rfl
 have hfc:=KF_ (P:=P) l (min l.length n) m.2 w
 have hst:=xH_ (P:=P) (b:=b) (off:=off) (E:=E) (fz:=(0,0)) ((l.take (min l.length n)).map v8) 0 cs w hb (by
  rw[List.length_map,List.length_take];have:=Nat.min_le_right l.length n;omega) (.inl (Nat.le_refl 0)) (by rw[List.all_map,List.all_eq_true];intro x _;rfl)
 refine .inl ⟨vi (min l.length n:Nat),{w with heap:=w.heap.setIfInBounds b (.cells (wg_ cs off ((l.take (min l.length n)).map v8)) E (0,0))},_, ?_,hw.set (zx_ hl) rfl rfl rfl rfl,hO⟩
 simp only[execOp,resolve,Sem.run_bind,Sem.run_pure,Result.andThen_ok,invoke,builtin,List.map_toArray,List.map_cons,List.map_nil,hx,hy]
 have: (Builtin.copy_ #[td,tx] ty #[vsl b off n c,vs l]).run P w= .ok (vi (min l.length n:Nat)) {w with heap:=w.heap.setIfInBounds b (.cells (wg_ cs off ((l.take (min l.length n)).map v8)) E (0,0))}:=by
  simp only[Builtin.copy_,vsl,List.getElem?_toArray,List.getElem?_cons_zero,List.getElem?_cons_succ,Sem.run_bind,run_underlying hu w,Result.andThen_ok,hlen,zF_ hm w]
  rw[show l.length.min n=min l.length n from rfl,hfc]
  simp only[Result.andThen_ok]
  rw[hst]
  rfl
 rw[this]
 rfl
end
end Go.Sx
section
open Go Go.Proofs Go.Sx
namespace Go.Proofs
set_option maxRecDepth 10000
set_option maxHeartbeats 2000000
set_option linter.unusedSimpArgs false
set_option linter.defProp false
def jm_:=And.intro (And.intro (And.intro (@kc_) (@ke_)) (And.intro (@kf_) (@xr_))) (And.intro (And.intro (@xp_) (@nilR)) (And.intro (@aoE_) (And.intro (@anR_) (@aj2_))))
theorem WA_ (most:Int): ∀ (l:List UInt8) (k n m k':Nat),qb_ most l k n= .ok (m,k')→k<k'∧k'≤k+l.length
 | [],k,n,m,k',h=>by cases h
 |c::r,k,n,m,k',h=>by
  unfold qb_ at h
  split at h
  ·split at h
   ·cases h
   ·have:=WA_ most r (k+1) _ m k' h
    simp only[List.length_cons];omega
  ·split at h
   ·cases h
   ·split at h
    ·cases h;simp only[List.length_cons];omega
    ·cases h
theorem zO_ {s:List UInt8} {a:Nat} {e most:Int} (ha:a≤s.length):a≤ (zr_ s a e most).2.1∧(zr_ s a e most).2.1≤s.length:=by
 unfold zr_
 split
 ·exact⟨Nat.le_refl _,ha⟩
 ·cases h:qb_ most (s.drop a) 0 0 with
  |error x=>exact⟨Nat.le_refl _,ha⟩
  |ok p=>
   obtain⟨n,k⟩:=p
   have:=WA_ most _ _ _ _ _ h
   rw[List.length_drop] at this
   exact⟨by show a≤a+k;omega,by show a+k≤s.length;omega⟩
theorem kG_ {s:List UInt8} {a:Nat} {e n:Int} (ha:a≤s.length):a≤ (qD_ s a e n).2.1∧(qD_ s a e n).2.1≤s.length:=by
 unfold qD_
 split
 ·exact⟨Nat.le_refl _,ha⟩
 ·split
  ·exact⟨Nat.le_refl _,ha⟩
  ·split
   ·exact⟨Nat.le_refl _,ha⟩
   ·exact⟨by show a≤a+n.toNat;omega,by show a+n.toNat≤s.length;omega⟩
def zI_ (s:List UInt8) (a:Nat) (e most:Int):List UInt8×Nat×Int:=
 let p:=zr_ s a e most
 let q:=qD_ s p.2.1 p.2.2 p.1
 if q.2.2≠0 then([],a,q.2.2) else q
theorem w3_ (b:Nat) (s:List UInt8) (a:Nat) (e most:Int) (w:World) (ha:a≤s.length) (hs:s.length<9223372036854775808) (ho:w.heap[b]? =some (.cells #[vs s,vi a,vi e] 212 (0,0))):
  Rets Tryz.prog 96 #[vp b 0,vi most] w (fun v D=> ∃o,D= [(b,o)]∧v=vs (zI_ s a e most).1∧o= .cells #[vs s,vi (zI_ s a e most).2.1,vi (zI_ s a e most).2.2] 212 (0,0)):=by
 refine Rets.enterM Tryz.func96 rfl (rs:= [.tmp 4]) Tryz.results96 Tryz.ntmps96 ho ?_
 refine kf ?_
 first|with_reducible refine ks [] @jm_ ?_|refine kp @jm_ ?_
 refine Ow.callFV rfl Tryz.call138 (fun w' hw'=>afD_ b s a e w' (hw'.has _ _ List.mem_cons_self)) ?_
 refine ko @jm_ ?_
 first|with_reducible refine ks [] @jm_ ?_|refine kp @jm_ ?_
 have hp:=zO_ (e:=e) (most:=most) ha
 unfold zI_
 refine Ow.callM rfl rfl Tryz.call95 (by simp[keys]) (fun w' hw'=>q8_ b s a e most w' ha hs (hw'.has _ _ List.mem_cons_self)) ?_
 generalize zr_ s a e most=p at*
 obtain⟨n,a1,e1⟩:=p
 simp only at hp ⊢
 refine ko @jm_ ?_
 refine Ow.callM rfl rfl Tryz.call94 (by simp[keys]) (fun w' hw'=>wB_ b s a1 e1 n w' hp.2 hs (hw'.has _ _ List.mem_cons_self)) ?_
 have hq:=kG_ (e:=e1) (n:=n) hp.2
 generalize qD_ s a1 e1 n=q at*
 obtain⟨t,a2,e2⟩:=q
 simp only at hq ⊢
 refine ko @jm_ ?_
 first|with_reducible refine ks [] @jm_ ?_|refine kp @jm_ ?_
 by_cases he:e2=0
 ·first|with_reducible refine ks [] @jm_ ?_|refine kp @jm_ ?_
  refine⟨_,_,_,(ke @jm_),rfl,trivial, ?_⟩
  simp[he,vi_]
 ·first|with_reducible refine ks [] @jm_ ?_|refine kp @jm_ ?_
  refine Ow.minI rfl rfl rfl ?_
  have hmin: (if(a:Int)< (a2:Int) then(a:Int) else(a2:Int))=a:=by split<;>omega
  rw[hmin]
  refine ko @jm_ ?_
  first|with_reducible refine ks [] @jm_ ?_|refine kp @jm_ ?_
  refine⟨_,_,_,(ke @jm_),rfl,trivial, ?_⟩
  simp[he,vi_]
def z32:List UInt8:=List.replicate 32 0
def idR (s:List UInt8) (a:Nat) (e:Int):List UInt8×Nat×Int:=
 let q:=qD_ s a e 32
 (if q.1.length=32 then q.1 else z32,q.2)
theorem afT_ {s:List UInt8} {a:Nat} {e:Int} (_ha:a≤s.length): (qD_ s a e 32).1= []∨(qD_ s a e 32).1.length=32:=by
 unfold qD_
 split
 ·exact .inl rfl
 ·split
  ·exact .inl rfl
  ·split
   ·exact .inl rfl
   ·right
    show((s.drop a).take 32).length=32
    rw[List.length_take,List.length_drop];omega
theorem aom_ {t:List UInt8} (h:t= []∨t.length=32):wg_ (a8 (List.replicate 32 0)) 0 ((t.take (min t.length 32)).map v8)=a8 (if t.length=32 then t else z32):=by
 rcases h with rfl|h
 ·rfl
 ·rw[if_pos h,h,Nat.min_self,List.take_of_length_le (by omega)]
  have:=afO_ (t.map v8) [] ((List.replicate 32 (0:UInt8)).map v8) (by simp[h])
  simp only[List.nil_append,List.length_nil] at this
  show wg_ ((List.replicate 32 (0:UInt8)).map v8).toArray 0 (t.map v8)=(t.map v8).toArray
  rw[this]
  rw[List.drop_eq_nil_of_le (by simp[h]),List.append_nil]
theorem J3_ (b:Nat) (s:List UInt8) (a:Nat) (e:Int) (w:World) (ha:a≤s.length) (hs:s.length<9223372036854775808) (ho:w.heap[b]? =some (.cells #[vs s,vi a,vi e] 212 (0,0))):
  Rets Tryz.prog 97 #[vp b 0] w (fun v D=> ∃o,D= [(b,o)]∧v= .agg (a8 (idR s a e).1)∧o= .cells #[vs s,vi (idR s a e).2.1,vi (idR s a e).2.2] 212 (0,0)):=by
 have hbl:=(Array.getElem?_eq_some_iff.1 ho).1
 have hq:=afT_ (e:=e) ha
 unfold idR
 refine Rets.enterM Tryz.func97 rfl (rs:= [.cell 2 37]) Tryz.results97 Tryz.ntmps97 ho ?_
 refine kf ?_
 first|with_reducible refine ks [] @jm_ ?_|refine kp @jm_ ?_
 refine Ow.alloc rfl rfl Tryz.zr37 fun b2 hb2 hw2=> ?_
 refine ko @jm_ ?_
 first|with_reducible refine ks [] @jm_ ?_|refine kp @jm_ ?_
 refine Ow.alloc rfl rfl Tryz.zr37 fun b3 hb3 hw3=> ?_
 obtain⟨h13,h23,-⟩:=hb3
 obtain⟨h12,-⟩:=hb2
 refine ko @jm_ ?_
 first|with_reducible refine ks [] @jm_ ?_|refine kp @jm_ ?_
 refine Cw.regionS [] [0,1,2,3] [] (by kernel_rfl) (by kernel_rfl) (by kernel_rfl) ?_
 simp only[zg_, ↓zd_, ↓zb_, ↓zp_, ↓zq_,za_]
 refine kq @jm_ ?_
 refine Ow.soft rfl rfl rfl ?_
 refine Ow.callM rfl rfl Tryz.call94 (by simp[keys]) (fun w' hw'=>wB_ b s a e 32 w' ha hs (hw'.has _ _ List.mem_cons_self)) ?_
 generalize qD_ s a e 32=q at*
 obtain⟨t,a2,e2⟩:=q
 simp only at hq ⊢
 try with_reducible refine Ow.nil ?_
 refine⟨fun b hb=>absurd hb (by simp), ?_⟩
 simp(disch:=omega) only[j1_]
 refine Ow.soft rfl rfl rfl ?_
 refine Ow.copyText (cs:=a8 (List.replicate 32 0)) (E:=37) (e:=5) rfl rfl Tryz.underlying119 Tryz.ag5 rfl rfl (by simp(disch:=omega) only[qw_,zT_]) (by rw[kD_];simp) ?_
 rw[aom_ hq]
 have hil: (if t.length=32 then t else z32).length=32:=by
  split
  ·assumption
  ·simp[z32]
 generalize (if t.length=32 then t else z32)=id at*
 try with_reducible refine Ow.nil ?_
 refine⟨fun b hb=>absurd hb (by simp), ?_⟩
 simp(disch:=omega) only[j1_,jK_]
 refine kq @jm_ ?_
 try with_reducible refine Ow.nil ?_
 first|with_reducible refine ks [] @jm_ ?_|refine kp @jm_ ?_
 refine⟨_,_,_,(ke @jm_),rfl,⟨hw2,hw3,trivial⟩, ?_⟩
 exact⟨rfl,rfl⟩
theorem wL_ (s:List UInt8) (w:World):
  Rets Tryz.prog 71 #[vs s] w (fun v D=> ∃b,w.heap.size≤b∧v=vp b 0∧D= [(b, .cells #[vs s,vi 0,vi 0] 212 (0,0))]):=by
 refine Rets.enter Tryz.func71 rfl (rs:= [.tmp 2]) Tryz.results71 Tryz.ntmps71 ?_
 refine kf ?_
 first|with_reducible refine ks [] @jm_ ?_|refine kp @jm_ ?_
 refine Ow.build (.agg #[vs s,vi 0,vi 0]) rfl (by kernel_rfl) ?_
 refine ko @jm_ ?_
 refine Ow.box rfl rfl fun b1 hb1 hw1=> ?_
 refine ko @jm_ ?_
 first|with_reducible refine ks [] @jm_ ?_|refine kp @jm_ ?_
 refine⟨_,(by simp only[Zl_,abU_,afa_,z3_,z4_,V3_];rfl),b1,hw1,rfl, ?_⟩
 rfl
end Go.Proofs
end
section
open Go Go.Proofs Go.Sx
namespace Go.Proofs
set_option maxRecDepth 10000
set_option maxHeartbeats 4000000
set_option linter.unusedSimpArgs false
set_option linter.defProp false
def zy_:=And.intro (And.intro (And.intro (@zi_) (@Zq_)) (And.intro (@w4_) (And.intro (@Zp_) (@zh_)))) (And.intro (And.intro (@kc_) (@ke_)) (And.intro (@kf_) (And.intro (@xr_) (@xp_))))
theorem ZI_ (b:Nat) (s:List UInt8) (a:Nat) (e n:Int) (w:World) (ha:a≤s.length) (hs:s.length<1099511627776) (ho:w.heap[b]? =some (.cells #[vs s,vi a,vi e] 166 (0,0))):
  Rets Tryz.prog 100 #[vp b 0,vi n] w (fun v D=> ∃o,D= [(b,o)]∧v=vs (qD_ s a e n).1∧o= .cells #[vs s,vi (qD_ s a e n).2.1,vi (qD_ s a e n).2.2] 166 (0,0)):=by
 refine Rets.enterM Tryz.func100 rfl (rs:= [.tmp 4]) Tryz.results100 Tryz.ntmps100 ho ?_
 refine kf ?_
 first|with_reducible refine ks [] @zy_ ?_|refine kp @zy_ ?_
 unfold qD_
 by_cases he:e=0
 ·subst he
  rw[if_neg (fun h=>h rfl)]
  first|with_reducible refine ks [] @zy_ ?_|refine kp @zy_ ?_
  by_cases hn:n<0
  ·rw[if_pos hn]
   first|with_reducible refine ks [] @zy_ ?_|refine kp @zy_ ?_
   refine⟨_,_,_,(ke @zy_),rfl,trivial, ?_⟩
   exact⟨rfl,rfl⟩
  ·rw[if_neg hn]
   first|with_reducible refine ks [] @zy_ ?_|refine kp @zy_ ?_
   refine Cw.regionS [b] [0,1,2,5,6,7,10,3,4,8,9,11] [] (by kernel_rfl) (by kernel_rfl) (by kernel_rfl) ?_
   simp only[zg_, ↓zd_, ↓zb_, ↓zp_, ↓zq_,za_]
   refine kq @zy_ ?_
   try with_reducible refine Ow.nil ?_
   first|with_reducible refine ks [] @zy_ ?_|refine kp @zy_ ?_
   by_cases hl: (s.length:Int) - a<n
   ·rw[if_pos hl]
    first|with_reducible refine ks [] @zy_ ?_|refine kp @zy_ ?_
    refine⟨_,_,_,(ke @zy_),rfl,trivial, ?_⟩
    exact⟨rfl,rfl⟩
   ·rw[if_neg hl]
    obtain⟨m,rfl⟩: ∃m:Nat,n=(m:Int):=⟨n.toNat,by omega⟩
    first|with_reducible refine ks [] @zy_ ?_|refine kp @zy_ ?_
    refine Cw.regionS [b] [0,1,2,4,5,6,8,9,10,12,3,7,11,13,14,15] [] (by kernel_rfl) (by kernel_rfl) (by kernel_rfl) ?_
    simp only[zg_, ↓zd_, ↓zb_, ↓zp_, ↓zq_,za_]
    refine kq @zy_ ?_
    try with_reducible refine Ow.nil ?_
    first|with_reducible refine ks [] @zy_ ?_|refine kp @zy_ ?_
    refine⟨_,_,_,(ke @zy_),rfl,trivial, ?_⟩
    refine⟨?_, ?_⟩
    ·simp only[vi_,Int.toNat_natCast]
     rw[List.drop_take,Nat.add_sub_cancel_left]
    ·rw[Int.toNat_natCast,Int.natCast_add]
 ·rw[if_pos he]
  first|with_reducible refine ks [] @zy_ ?_|refine kp @zy_ ?_
  refine⟨_,_,_,(ke @zy_),rfl,trivial, ?_⟩
  exact⟨rfl,rfl⟩
theorem vX_ (b:Nat) (s:List UInt8) (a e:Int) (w:World) (ho:w.heap[b]? =some (.cells #[vs s,vi a,vi e] 166 (0,0))):
  Rets Tryz.prog 102 #[vp b 0] w (fun v D=>v=vi (if e≠0 then e else if a<s.length then 5 else 0)∧D= []):=by
 refine Rets.enterV Tryz.func102 rfl (rs:= [.tmp 2]) Tryz.results102 Tryz.ntmps102 ?_
 refine kf ?_
 first|with_reducible refine ks [] (And.intro @zy_ @ho) ?_|refine kp (And.intro @zy_ @ho) ?_
 by_cases he:e=0
 ·first|with_reducible refine ks [] @zy_ ?_|refine kp @zy_ ?_
  refine Cw.regionS [b] [0,1,2,4,5,6,3,7,8,9] [] (by kernel_rfl) (by kernel_rfl) (by kernel_rfl) ?_
  simp only[zg_, ↓zd_, ↓zb_, ↓zp_, ↓zq_,za_]
  refine kq (And.intro @zy_ @ho) ?_
  try with_reducible refine Ow.nil ?_
  first|with_reducible refine ks [] @zy_ ?_|refine kp @zy_ ?_
  refine cdC.splitp (fun hc=> ?_) (fun hc=> ?_)
  ·first|with_reducible refine ks [] @zy_ ?_|refine kp @zy_ ?_
   refine⟨_,(ke @zy_),trivial, ?_⟩
   simp[hc,he,vi_]
  ·first|with_reducible refine ks [] @zy_ ?_|refine kp @zy_ ?_
   refine⟨_,(ke @zy_),trivial, ?_⟩
   simp[hc,he,vi_]
 ·first|with_reducible refine ks [] (And.intro @zy_ @ho) ?_|refine kp (And.intro @zy_ @ho) ?_
  refine⟨_,(ke @zy_),trivial, ?_⟩
  simp[he,vi_]
structure KN where
 k:Nat
 n:Nat
theorem xO_ (b:Nat) (s:List UInt8) (a:Nat) (e most:Int) (w:World) (ha:a≤s.length) (hs:s.length<1099511627776) (ho:w.heap[b]? =some (.cells #[vs s,vi a,vi e] 166 (0,0))):
  Rets Tryz.prog 98 #[vp b 0,vi most] w (fun v D=> ∃o,D= [(b,o)]∧v=vi (zr_ s a e most).1∧o= .cells #[vs s,vi (zr_ s a e most).2.1,vi (zr_ s a e most).2.2] 166 (0,0)):=by
 refine Rets.enterM Tryz.func98 rfl (rs:= [.tmp 4]) Tryz.results98 Tryz.ntmps98 ho ?_
 refine kf ?_
 first|with_reducible refine ks [] @zy_ ?_|refine kp @zy_ ?_
 by_cases he:e=0
 ·subst he
  first|with_reducible refine ks [] @zy_ ?_|refine kp @zy_ ?_
  refine Cw.loopG (G:=KN) [14,15,18,19,20,21,22,23,24,25,26,27,28,29,30,31,32,4,33,34,35,36,37,38,39,40,41,42,43,44,8,45,46,47,48,49,50,5,51,52,6,53,54,55,56,57,58,59,60,61,62,63,64,65,66,67,68,69,70,71,72,73,74,75,76,77,78,79,80,81,82,83,84,16,17,7] (fun g=> [(5,vi g.n),(6,vi (128^g.k:Nat)),(7,vi g.k)]) (fun g=> [(b, .cells #[vs s,vi a,vi 0] 166 (0,0))]) (fun g=>g.k≤6∧(g.k<6→qb_ most (s.drop a) 0 0=qb_ most (s.drop (a+g.k)) g.k g.n∧a+g.k≤s.length∧g.n<128^g.k)∧(g.k=6→qb_ most (s.drop a) 0 0= .error 4)) (fun g=>6 - g.k) ⟨0,0⟩ rfl rfl ?_ ?_
  ·exact⟨by simp,fun _=>⟨rfl,by simpa using ha,by simp⟩,fun h=>by cases h⟩
  intro g j hg
  refine kv ?_
  obtain⟨k,n⟩:=g
  simp only at hg ⊢
  obtain⟨hk6,hg1,hg2⟩:=hg
  by_cases hk:k<6
  ·obtain⟨hgo,hak,hn⟩:=hg1 hk
   first|with_reducible refine ks [] @zy_ ?_|refine kp @zy_ ?_
   refine Cw.regionS [b] [0,1,2,4,6,7,8,3,5,9,10,11] [] (by kernel_rfl) (by kernel_rfl) (by kernel_rfl) ?_
   simp only[zg_, ↓zd_, ↓zb_, ↓zp_, ↓zq_,za_]
   refine kq @zy_ ?_
   try with_reducible refine Ow.nil ?_
   first|with_reducible refine ks [] @zy_ ?_|refine kp @zy_ ?_
   by_cases hend:a+k=s.length
   ·first|with_reducible refine ks [] @zy_ ?_|refine kp @zy_ ?_
    rw[j3_ (x:=3) rfl (by rw[hgo,hend,List.drop_length];rfl)]
    refine⟨_,_,_,(ke @zy_),rfl,trivial, ?_⟩
    exact⟨rfl,rfl⟩
   ·have hak':a+k<s.length:=by omega
    have hdrop:s.drop (a+k)=s.getD (a+k) 0::s.drop (a+k+1):=by
     rw[List.drop_eq_getElem_cons hak',List.getD_eq_getElem?_getD,List.getElem?_eq_getElem hak'];rfl
    rw[hdrop] at hgo
    first|with_reducible refine ks [] @zy_ ?_|refine kp @zy_ ?_
    refine Cw.regionS [b] [0,1,2,4,5,6,8,3,7,9,10,11,12] [] (by kernel_rfl) (by kernel_rfl) (by kernel_rfl) ?_
    simp only[zg_, ↓zd_, ↓zb_, ↓zp_, ↓zq_,za_]
    have hcast: ((a:Int)+ (k:Int))=((a+k:Nat):Int):=by omega
    refine kq (And.intro @zy_ @hcast) ?_
    try with_reducible refine Ow.nil ?_
    generalize s.getD (a+k) 0=c at*
    have hp:128^k≤34359738368:=Nat.pow_le_pow_right (by omega) (show k≤5 by omega)
    have hp0:0<128^k:=Nat.pow_pos (by omega)
    have hcl:=c.toNat_lt
    have hdm:c.toNat%128*128^k≤127*128^k:=Nat.mul_le_mul_right _ (by omega)
    have hcm: ((c.toNat:Int)%128)=((c.toNat%128:Nat):Int):=by omega
    have hmul:zo_ .mul (vi ((c.toNat%128:Nat):Int)) (vi ((128^k:Nat):Int))=some (vi ((c.toNat%128*128^k:Nat):Int)):=by
     rw[abN_ _ _ (by rw[←Int.natCast_mul];omega),←Int.natCast_mul]
    have hpow: (((128^k:Nat):Int)*128)=((128^ (k+1):Nat):Int):=by rw[Nat.pow_succ,Int.natCast_mul];rfl
    have hlt:n+c.toNat%128*128^k<128^ (k+1):=by rw[Nat.pow_succ];omega
    first|with_reducible refine ks [] (And.intro @zy_ (And.intro @hcm (And.intro @hmul (@hpow)))) ?_|refine kp (And.intro @zy_ (And.intro @hcm (And.intro @hmul (@hpow)))) ?_
    rw[show((n:Int)+ ((c.toNat%128*128^k:Nat):Int))=((n+c.toNat%128*128^k:Nat):Int) from(Int.natCast_add _ _).symm]
    by_cases hc128:128≤c.toNat
    ·first|with_reducible refine ks [] @zy_ ?_|refine kp @zy_ ?_
     refine Again.mk (KN.mk (k+1) (n+c.toNat%128*128^k)) (by show 6 - (k+1)<6 - k;omega) ⟨by show k+1≤6;omega,fun h=>⟨?_,by show a+ (k+1)≤s.length;omega,hlt⟩,fun h=> ?_⟩ rfl rfl
     ·show qb_ most (s.drop a) 0 0=qb_ most (s.drop (a+ (k+1))) (k+1) (n+c.toNat%128*128^k)
      have h':k+1<6:=h
      rw[hgo,qb_,if_pos hc128,if_neg (by omega)]
      rfl
     ·have h':k+1=6:=h
      rw[hgo,qb_,if_pos hc128,if_pos h']
    ·by_cases hz:c.toNat=0
     ·have e0: ((c.toNat:Int)==0)=true:=by simp[hz]
      first|with_reducible refine ks [] (And.intro @zy_ @e0) ?_|refine kp (And.intro @zy_ @e0) ?_
      by_cases hk0:0<k
      ·first|with_reducible refine ks [] @zy_ ?_|refine kp @zy_ ?_
       rw[j3_ (x:=2) rfl (by rw[hgo,qb_,if_neg hc128,if_pos ⟨hz,hk0⟩])]
       refine⟨_,_,_,(ke @zy_),rfl,trivial, ?_⟩
       exact⟨rfl,rfl⟩
      ·have hc0: ¬ (c.toNat=0∧0<k):=fun h=>hk0 h.2
       first|with_reducible refine ks [] @zy_ ?_|refine kp @zy_ ?_
       by_cases hm:n+c.toNat%128*128^k≤1099511627775
       ·have e1:decide ((1099511627775:Int)< ((n+c.toNat%128*128^k:Nat):Int))=false:=decide_eq_false (by omega)
        first|with_reducible refine ks [] (And.intro @zy_ @e1) ?_|refine kp (And.intro @zy_ @e1) ?_
        by_cases hmo: ((n+c.toNat%128*128^k:Nat):Int)≤most
        ·first|with_reducible refine ks [] @zy_ ?_|refine kp @zy_ ?_
         rw[Xp_ rfl (by rw[hgo,qb_,if_neg hc128,if_neg hc0,if_pos ⟨hm,hmo⟩])]
         refine⟨_,_,_,(ke @zy_),rfl,trivial, ?_⟩
         exact⟨rfl,rfl⟩
        ·first|with_reducible refine ks [] @zy_ ?_|refine kp @zy_ ?_
         rw[j3_ (x:=4) rfl (by rw[hgo,qb_,if_neg hc128,if_neg hc0,if_neg (fun h=>hmo h.2)])]
         refine⟨_,_,_,(ke @zy_),rfl,trivial, ?_⟩
         exact⟨rfl,rfl⟩
       ·have e1:decide ((1099511627775:Int)< ((n+c.toNat%128*128^k:Nat):Int))=true:=decide_eq_true (by omega)
        first|with_reducible refine ks [] (And.intro @zy_ @e1) ?_|refine kp (And.intro @zy_ @e1) ?_
        rw[j3_ (x:=4) rfl (by rw[hgo,qb_,if_neg hc128,if_neg hc0,if_neg (fun h=>hm h.1)])]
        refine⟨_,_,_,(ke @zy_),rfl,trivial, ?_⟩
        exact⟨rfl,rfl⟩
     ·have e0: ((c.toNat:Int)==0)=false:=by simp;omega
      have hc0: ¬ (c.toNat=0∧0<k):=fun h=>hz h.1
      first|with_reducible refine ks [] (And.intro @zy_ @e0) ?_|refine kp (And.intro @zy_ @e0) ?_
      by_cases hm:n+c.toNat%128*128^k≤1099511627775
      ·have e1:decide ((1099511627775:Int)< ((n+c.toNat%128*128^k:Nat):Int))=false:=decide_eq_false (by omega)
       first|with_reducible refine ks [] (And.intro @zy_ @e1) ?_|refine kp (And.intro @zy_ @e1) ?_
       by_cases hmo: ((n+c.toNat%128*128^k:Nat):Int)≤most
       ·first|with_reducible refine ks [] @zy_ ?_|refine kp @zy_ ?_
        rw[Xp_ rfl (by rw[hgo,qb_,if_neg hc128,if_neg hc0,if_pos ⟨hm,hmo⟩])]
        refine⟨_,_,_,(ke @zy_),rfl,trivial, ?_⟩
        exact⟨rfl,rfl⟩
       ·first|with_reducible refine ks [] @zy_ ?_|refine kp @zy_ ?_
        rw[j3_ (x:=4) rfl (by rw[hgo,qb_,if_neg hc128,if_neg hc0,if_neg (fun h=>hmo h.2)])]
        refine⟨_,_,_,(ke @zy_),rfl,trivial, ?_⟩
        exact⟨rfl,rfl⟩
      ·have e1:decide ((1099511627775:Int)< ((n+c.toNat%128*128^k:Nat):Int))=true:=decide_eq_true (by omega)
       first|with_reducible refine ks [] (And.intro @zy_ @e1) ?_|refine kp (And.intro @zy_ @e1) ?_
       rw[j3_ (x:=4) rfl (by rw[hgo,qb_,if_neg hc128,if_neg hc0,if_neg (fun h=>hm h.1)])]
       refine⟨_,_,_,(ke @zy_),rfl,trivial, ?_⟩
       exact⟨rfl,rfl⟩
  ·have hke:k=6:=by omega
   first|with_reducible refine ks [] @zy_ ?_|refine kp @zy_ ?_
   rw[j3_ (x:=4) rfl (hg2 hke)]
   refine⟨_,_,_,(ke @zy_),rfl,trivial, ?_⟩
   exact⟨rfl,rfl⟩
 ·first|with_reducible refine ks [] @zy_ ?_|refine kp @zy_ ?_
  unfold zr_
  refine⟨_,_,_,(ke @zy_),rfl,trivial, ?_⟩
  simp[he,vi_]
end Go.Proofs
end
section
open Go Go.Proofs Go.Sx
namespace Go.Proofs
set_option maxRecDepth 10000
set_option maxHeartbeats 4000000
set_option linter.unusedSimpArgs false
set_option linter.defProp false
def jz_:=And.intro (And.intro (And.intro (@zi_) (@Zq_)) (And.intro (@w4_) (And.intro (@Zp_) (@zh_)))) (And.intro (And.intro (@kc_) (@ke_)) (And.intro (@kf_) (And.intro (@xr_) (@xp_))))
theorem kQ_ (b:Nat) (s:List UInt8) (a:Nat) (e most:Int) (w:World) (ha:a≤s.length) (hs:s.length<1099511627776) (ho:w.heap[b]? =some (.cells #[vs s,vi a,vi e] 166 (0,0))):
  Rets Tryz.prog 99 #[vp b 0,vi most] w (fun v D=> ∃o,D= [(b,o)]∧v=vs (zI_ s a e most).1∧o= .cells #[vs s,vi (zI_ s a e most).2.1,vi (zI_ s a e most).2.2] 166 (0,0)):=by
 refine Rets.enterM Tryz.func99 rfl (rs:= [.tmp 4]) Tryz.results99 Tryz.ntmps99 ho ?_
 refine kf ?_
 first|with_reducible refine ks [] @jz_ ?_|refine kp @jz_ ?_
 by_cases he:e=0
 ·first|with_reducible refine ks [] @jz_ ?_|refine kp @jz_ ?_
  have hp:=zO_ (e:=e) (most:=most) ha
  unfold zI_
  refine Ow.callM rfl rfl Tryz.call98 (by simp[keys]) (fun w' hw'=>xO_ b s a e most w' ha hs (hw'.has _ _ List.mem_cons_self)) ?_
  generalize zr_ s a e most=p at*
  obtain⟨n,a1,e1⟩:=p
  simp only at hp ⊢
  refine ko @jz_ ?_
  first|with_reducible refine ks [] @jz_ ?_|refine kp @jz_ ?_
  refine Ow.callM rfl rfl Tryz.call100 (by simp[keys]) (fun w' hw'=>ZI_ b s a1 e1 n w' hp.2 hs (hw'.has _ _ List.mem_cons_self)) ?_
  generalize qD_ s a1 e1 n=q at*
  obtain⟨t,a2,e2⟩:=q
  simp only
  refine ko @jz_ ?_
  first|with_reducible refine ks [] @jz_ ?_|refine kp @jz_ ?_
  by_cases he2:e2=0
  ·first|with_reducible refine ks [] @jz_ ?_|refine kp @jz_ ?_
   refine⟨_,_,_,(ke @jz_),rfl,trivial, ?_⟩
   simp[he2,vi_]
  ·first|with_reducible refine ks [] @jz_ ?_|refine kp @jz_ ?_
   refine⟨_,_,_,(ke @jz_),rfl,trivial, ?_⟩
   simp[he2,vi_]
 ·first|with_reducible refine ks [] @jz_ ?_|refine kp @jz_ ?_
  have:zI_ s a e most=([],a,e):=by
   unfold zI_ zr_ qD_
   simp[he]
  rw[this]
  refine⟨_,_,_,(ke @jz_),rfl,trivial, ?_⟩
  exact⟨rfl,rfl⟩
def WU_ (t:List UInt8) (g:Nat):List UInt8:=t.take g++List.replicate (32 - g) 0
theorem ajX_ (t:List UInt8) (g:Nat) (h:g≤t.length) (h2:t.length≤32): (WU_ t g).length=32:=by
 unfold WU_;rw[List.length_append,List.length_take,List.length_replicate];omega
theorem agg_ (t:List UInt8) (g:Nat) (h:g<t.length) (h2:t.length≤32): (WU_ t g).set g (t.getD g 0)=WU_ t (g+1):=by
 unfold WU_
 have hl: (t.take g).length=g:=by rw[List.length_take];omega
 obtain⟨m,hm⟩: ∃m,32 - g=m+1:=⟨31 - g,by omega⟩
 rw[hm,List.replicate_succ,List.set_append_right _ _ (by omega),hl,Nat.sub_self,List.set_cons_zero,List.take_succ_eq_append_getElem h,List.getD_eq_getElem?_getD,List.getElem?_eq_getElem h,show 32 - (g+1)=m by omega,List.append_assoc]
 rfl
theorem ajy_ (t:List UInt8) (h:t= []∨t.length=32):WU_ t t.length=(if t.length=32 then t else z32):=by
 unfold WU_
 rcases h with rfl|h
 ·rfl
 ·rw[if_pos h,h,List.take_of_length_le (by omega)];simp
theorem QY_ (b:Nat) (s:List UInt8) (a:Nat) (e:Int) (w:World) (ha:a≤s.length) (hs:s.length<1099511627776) (ho:w.heap[b]? =some (.cells #[vs s,vi a,vi e] 166 (0,0))):
  Rets Tryz.prog 101 #[vp b 0] w (fun v D=> ∃o,D= [(b,o)]∧v= .agg (a8 (idR s a e).1)∧o= .cells #[vs s,vi (idR s a e).2.1,vi (idR s a e).2.2] 166 (0,0)):=by
 have hbl:=(Array.getElem?_eq_some_iff.1 ho).1
 have hq:=afT_ (e:=e) ha
 unfold idR
 refine Rets.enterM Tryz.func101 rfl (rs:= [.cell 2 37]) Tryz.results101 Tryz.ntmps101 ho ?_
 refine kf ?_
 first|with_reducible refine ks [] @jz_ ?_|refine kp @jz_ ?_
 refine Ow.alloc rfl rfl Tryz.zr37 fun b2 hb2 hw2=> ?_
 obtain⟨h12,-⟩:=hb2
 refine ko @jz_ ?_
 first|with_reducible refine ks [] @jz_ ?_|refine kp @jz_ ?_
 refine Ow.callM rfl rfl Tryz.call100 (by simp[keys]) (fun w' hw'=>ZI_ b s a e 32 w' ha hs (hw'.has _ _ List.mem_cons_self)) ?_
 generalize qD_ s a e 32=q at*
 obtain⟨t,a2,e2⟩:=q
 simp only at hq ⊢
 have ht32:t.length≤32:=by rcases hq with rfl|h<;>simp_all
 refine ko @jz_ ?_
 first|with_reducible refine ks [] @jz_ ?_|refine kp @jz_ ?_
 refine Ow.alloc rfl rfl Tryz.zr37 fun b3 hb3 hw3=> ?_
 refine ko @jz_ ?_
 obtain⟨h13,h23,-⟩:=hb3
 rw[show a8 (List.replicate 32 0)=a8 (WU_ t 0) from rfl]
 first|with_reducible refine ks [] @jz_ ?_|refine kp @jz_ ?_
 refine Cw.loopG (G:=Nat) [8,9,10,11,14,15,16,17,18,12,13,5] (fun g=> [(5,vi g)]) (fun g=> [(b, .cells #[vs s,vi a2,vi e2] 166 (0,0)),(b2, .cells (a8 z32) 37 (0,0)),(b3, .cells (a8 (WU_ t g)) 37 (0,0))]) (fun g=>g≤t.length) (fun g=>t.length - g) 0 rfl rfl ?_ ?_
 ·omega
 intro g j hg
 refine kv ?_
 by_cases hlt:g<t.length
 ·have hil:=ajX_ t g hg ht32
  first|with_reducible refine ks [] @jz_ ?_|refine kp @jz_ ?_
  refine Again.mk (g+1) (by omega) (by omega) ?_ rfl
  rw[agg_ t g hlt ht32]
 ·obtain rfl:g=t.length:=by omega
  rw[ajy_ t hq]
  have hil: (if t.length=32 then t else z32).length=32:=by
   split
   ·assumption
   ·simp[z32]
  have hz32:z32.length=32:=by simp[z32]
  generalize (if t.length=32 then t else z32)=id at*
  first|with_reducible refine ks [] @jz_ ?_|refine kp @jz_ ?_
  refine⟨_,_,_,(ke @jz_),rfl,⟨hw2,hw3,trivial⟩, ?_⟩
  exact⟨rfl,rfl⟩
end Go.Proofs
end
namespace Go.Sx
open Go
theorem Wk_ (A B C:List Value) {o n:Nat} (hA:A.length=o) (hB:B.length=n): (A++ (B++C)).toArray.extract o (o+n)=B.toArray:=by
 subst hA;subst hB
 rw[List.extract_toArray,List.extract_eq_take_drop,List.drop_left,Nat.add_sub_cancel_left,List.take_left]
theorem aje_ (A C:List Value) (v:Value) {o:Nat} (hA:A.length=o): (A++ ([v]++C)).toArray[o]? =some v:=by
 subst hA;simp
theorem JS_ (A C:List Value) (v:Value) {o:Nat} (hA:A.length=o): (A++ ([v]++C))[o]? =some v:=by
 subst hA;simp
theorem ZR_ (A B B' C:List Value) {o:Nat} (hA:A.length=o) (hB:B.length=B'.length):wg_ (A++ (B++C)).toArray o B'=(A++ (B'++C)).toArray:=by
 subst hA
 have hp:=Wm_ B' A B C hB
 rw[List.append_assoc,List.append_assoc] at hp
 exact hp
theorem alQ_ (A B C:List Value) {o n:Nat} (hA:A.length=o) (hB:B.length=n):partV (true,n) (A++ (B++C)).toArray o=some (.agg B.toArray):=by
 show some (Value.agg _)=_
 rw[Wk_ A B C hA hB]
theorem aeY_ (A C:List Value) (v:Value) {o n:Nat} (hA:A.length=o):partV (false,n) (A++ ([v]++C)).toArray o=some v:=aje_ A C v hA
theorem Zi_ (A B C:List Value) {o n:Nat} (E:TypeId) (fz:Nat×Nat) (hA:A.length=o) (hB:B.length=n):zs_ (some (true,n)) (some (.cells (A++ (B++C)).toArray E fz)) o=some (.agg B.toArray):=by
 have hs:o+n≤ (A++ (B++C)).toArray.size:=by
  simp only[List.size_toArray,List.length_append];omega
 unfold zs_
 simp only[hs, ↓reduceIte]
 rw[Wk_ A B C hA hB]
theorem kg_ (A C:List Value) (v:Value) {o:Nat} (n:Nat) (E:TypeId) (fz:Nat×Nat) (hA:A.length=o):zs_ (some (false,n)) (some (.cells (A++ ([v]++C)).toArray E fz)) o=some v:=by
 rw[loadV_one];exact aje_ A C v hA
theorem zS_ (A B B' C:List Value) {o n:Nat} (a:Bool) (x:Value) (E:TypeId) (hA:A.length=o) (hB:B.length=n) (hx:x.cells=B'.toArray) (hB':B'.length=n) (ho:B'.all Value.oneCell'=true):
  zl_ (some (a,n)) (some (.cells (A++ (B++C)).toArray E (0,0))) o x=some (.cells (A++ (B'++C)).toArray E (0,0)):=by
 subst hA
 have hp:=Wm_ B' A B C (by rw[hB,hB'])
 rw[List.append_assoc,List.append_assoc] at hp
 unfold zl_
 simp only[hx]
 rw[if_pos ⟨by rw[List.size_toArray,hB'],by simp only[List.size_toArray,List.length_append];omega, .inl (Nat.le_refl 0),ho⟩,hp]
theorem kK_ (cs:List Value) {n:Nat} (a:Bool) (old:Array Value) (E:TypeId) (hn:cs.length=n) (ho:cs.all Value.oneCell'=true) (h:old.size=n):
  zl_ (some (a,n)) (some (.cells old E (0,0))) 0 (.agg cs.toArray)=some (.cells cs.toArray E (0,0)):=
 Qi_ n a cs.toArray old E ⟨by rw[List.size_toArray,hn],h⟩ ho
theorem Kb_ (l:List UInt8): (l.map v8).all Value.oneCell'=true:=by
 rw[List.all_map]
 exact List.all_eq_true.2 fun x _=>rfl
theorem RowS.part {α:Type} {m:Nat} {enc:α→List Value} {z:α} {w:World} {v:Value} {l:List α} {b off:Nat} {arr:Array Value} {E:TypeId} {fz:Nat×Nat} (h:RowS m enc z w v l b off arr E fz) (hm: ∀x,(enc x).length=m) {k o n:Nat} (hk:k<l.length) (ho:o+n≤m) (hn:0<n):
  zs_ (some (true,n)) (some (.cells arr E fz)) (off+k*m+o)=some (.agg ((enc (l.getD k z)).toArray.extract o (o+n))):=by
 have hg: ∀i,i<n→arr[off+k*m+ (o+i)]? =(enc (l.getD k z))[o+i]? :=fun i hi=>h.get k hk (o+i) (by omega)
 have hlen:=hm (l.getD k z)
 have hsz:off+k*m+o+n≤arr.size:=by
  have h1:=hg (n - 1) (by omega)
  rw[List.getElem?_eq_getElem (by omega)] at h1
  have:=(Array.getElem?_eq_some_iff.1 h1).1
  omega
 unfold zs_
 simp only[hsz, ↓reduceIte]
 congr 2
 apply Array.ext_getElem?
 intro i
 by_cases hi:i<n
 ·rw[Array.getElem?_extract,Array.getElem?_extract,if_pos (by omega),if_pos (by rw[List.size_toArray];omega)]
  have hh:=hg i hi
  rw[show off+k*m+ (o+i)=off+k*m+o+i by omega] at hh
  rw[hh]
  exact(List.getElem?_toArray ..).symm
 ·rw[Array.getElem?_eq_none (by rw[Array.size_extract];omega),Array.getElem?_eq_none (by rw[Array.size_extract];omega)]
end Go.Sx
namespace Go.Sx
open Go
theorem Cw.forget {P:Program} {w0:World} {c:Code} {f:Fr} {L:ze_} {K:x2_} (M:ze_) (hM: ∀p,p∈M→p∈L) (hn: (keys M).Nodup) (hnew: ∀p,p∈L→p.1∉keys M→w0.heap.size≤p.1)
  (h:Cw P w0 c f M K):Cw P w0 c f L K:=fun w hw=>h w (hw.drop hM hn fun p hp hlt hk=>by have:=hnew p hp hk;omega)
end Go.Sx
namespace Go.Sx
open Go
def SlV {α:Type} (m:Nat) (enc:α→List Value) (z:α) (w:World) (v:Value) (l:List α):Prop:=
 ∃b off c arr E fz,RowS m enc z w v l b off arr E fz∧l.length≤c∧((v= .slice none 0 0∧l= []∧c=0)∨(v=vsl b off l.length c∧w.heap[b]? =some (.cells arr E fz)∧off+l.length*m≤arr.size))
section
variable {α:Type} {m:Nat} {enc:α→List Value} {z:α} {w:World} {v:Value} {l:List α}
theorem RowS.sl' {b off n c:Nat} {arr:Array Value} {E:TypeId} {fz:Nat×Nat} (hn:n=l.length)
  (has:0<l.length→w.heap[b]? =some (.cells arr E fz)) (get: ∀k,k<l.length→ ∀j,j<m→arr[off+k*m+j]? =(enc (l.getD k z))[j]?):RowS m enc z w (vsl b off n c) l b off arr E fz:=by
 subst hn
 exact⟨fun x=>rfl,fun a k hk=>xd_ _ _ _ _ _ _ ⟨by omega,by omega⟩,has,get⟩
theorem SlV.nil (w:World):SlV m enc z w (.slice none 0 0) []:=⟨0,0,0, #[],0,(0,0),RowS.nil w 0 0 rfl,Nat.le_refl _, .inl ⟨rfl,rfl,rfl⟩⟩
theorem SlV.row (h:SlV m enc z w v l): ∃b off arr E fz,RowS m enc z w v l b off arr E fz:=by
 obtain⟨b,off,c,arr,E,fz,hr,-⟩:=h;exact⟨b,off,arr,E,fz,hr⟩
theorem SlV.sl {b off c:Nat} {arr:Array Value} {E:TypeId} {fz:Nat×Nat} (has:w.heap[b]? =some (.cells arr E fz)) (get: ∀k,k<l.length→ ∀j,j<m→arr[off+k*m+j]? =(enc (l.getD k z))[j]?) (hc:l.length≤c) (hs:off+l.length*m≤arr.size):SlV m enc z w (vsl b off l.length c) l:=
 ⟨b,off,c,arr,E,fz,RowS.sl rfl has get,hc, .inr ⟨rfl,has,hs⟩⟩
theorem RowS.old {w':World} {b off:Nat} {arr:Array Value} {E:TypeId} {fz:Nat×Nat} {L:ze_} (h:RowS m enc z w v l b off arr E fz) (hw:Hp w L w') (hb:0<l.length→b∉keys L):RowS m enc z w' v l b off arr E fz:=
 ⟨h.len,h.idx,fun hl=>by have hh:=h.has hl;rw[hw.old b (Array.getElem?_eq_some_iff.1 hh).1 (hb hl)];exact hh,h.get⟩
theorem RowS.lt {b off:Nat} {arr:Array Value} {E:TypeId} {fz:Nat×Nat} (h:RowS m enc z w v l b off arr E fz) (hl:0<l.length):b<w.heap.size:=(Array.getElem?_eq_some_iff.1 (h.has hl)).1
theorem SlV.old {w':World} {L:ze_} (h:SlV m enc z w v l) (hw:Hp w L w') (hb: ∀b,slB v=some b→b<w.heap.size→b∉keys L):SlV m enc z w' v l:=by
 obtain⟨b,off,c,arr,E,fz,hr,hc,hv⟩:=h
 rcases hv with⟨rfl,rfl,rfl⟩ | ⟨rfl,hhas,hsz⟩
 ·exact SlV.nil w'
 ·have hnb:=hb b rfl (Array.getElem?_eq_some_iff.1 hhas).1
  refine⟨b,off,c,arr,E,fz,hr.old hw (fun _=>hnb),hc, .inr ⟨rfl, ?_,hsz⟩⟩
  rw[hw.old b (Array.getElem?_eq_some_iff.1 hhas).1 hnb];exact hhas
theorem New.not {L:ze_} {n b:Nat} (h:New n L) (hb:b<n):b∉keys L:=fun hm=>by have:=h.le b hm;omega
theorem SlV.oldN {w':World} {L:ze_} (h:SlV m enc z w v l) (hw:Hp w L w') (hn:New w.heap.size L):SlV m enc z w' v l:=h.old hw fun _ _ hb=>hn.not hb
theorem SlV.len (h:SlV m enc z w v l) (x:Bool×Nat):X4_ (.sl x) v=some (vi l.length):=by
 obtain⟨b,off,arr,E,fz,hr⟩:=h.row
 exact hr.len x
theorem SlV.take (h:SlV m enc z w v l) {k:Nat} (hk:k≤l.length) (a:Bool): ∃v',jO_ (.sl (a,m)) v none (some (some (k:Int)))=some v'∧SlV m enc z w v' (l.take k)∧(∀b,slB v'=some b→slB v=some b):=by
 obtain⟨b,off,c,arr,E,fz,hr,hc,hv⟩:=h
 have hl: (l.take k).length=k:=by simp;omega
 rcases hv with⟨rfl,rfl,rfl⟩ | ⟨rfl,hhas,hsz⟩
 ·obtain rfl:k=0:=by simpa using hk
  refine⟨.slice none 0 0,rfl,SlV.nil w,fun b hb=>hb⟩
 ·refine⟨vsl b off k c, ?_, ?_,fun b hb=>hb⟩
  ·unfold jO_ vsl
   simp only[anD_ _ _ _ (⟨by omega,by omega⟩: (0:Int)≤ (k:Int)∧(k:Int)≤ (c:Int)),Int.toNat_natCast,Nat.zero_mul,Nat.sub_zero,Option.map_some,j5_,Nat.add_zero]
   split<;>rfl
  ·refine⟨b,off,c,arr,E,fz,RowS.sl' hl.symm (fun h0=>hr.has (by omega)) ?_,by omega, .inr ⟨by rw[hl],hhas,by rw[hl];have:k*m≤l.length*m:=Nat.mul_le_mul_right _ hk;omega⟩⟩
   ·intro i hi j hj
    rw[hl] at hi
    rw[hr.get i (by omega) j hj]
    congr 2
    rw[List.getD_eq_getElem?_getD,List.getD_eq_getElem?_getD,List.getElem?_take_of_lt hi]
theorem Buf.slM {L:ze_} {E:TypeId} {n:Nat} {cs:List Value} (h:Buf L E m v n cs) (hw: ∀b o,(b,o)∈L→w.heap[b]? =some o) (hl:l.length=n) (hcs:cs=(l.map enc).flatten) (hm: ∀x,(enc x).length=m):SlV m enc z w v l:=by
 rcases h.inv with⟨rfl,rfl,rfl⟩ | ⟨b,c,rest,rfl,hlk,hlen,hnc,h0,hrest⟩
 ·have:l= []:=by simpa using hl
  subst this;exact SlV.nil w
 ·subst hl
  refine SlV.sl (hw _ _ (zJ_ hlk)) ?_ hnc (by rw[List.size_toArray,List.length_append,hlen];omega)
  intro k hk j hj
  rw[Nat.zero_add,List.getElem?_toArray,List.getElem?_append_left (by rw[hlen];have: (k+1)*m≤l.length*m:=Nat.mul_le_mul_right _ hk;rw[Nat.add_mul,Nat.one_mul] at this;omega),hcs]
  clear hlen hrest hlk hcs hnc h
  induction l generalizing k with
  |nil=>simp at hk
  |cons x r ih=>
   rw[List.map_cons,List.flatten_cons]
   cases k with
   |zero=>
    rw[Nat.zero_mul,Nat.zero_add,List.getElem?_append_left (by rw[hm];exact hj),List.getD_cons_zero]
   |succ k=>
    rw[List.getElem?_append_right (by rw[hm,Nat.add_mul,Nat.one_mul];omega),hm,List.getD_cons_succ]
    have:=ih (k:=k) (by simpa using hk)
    rw[←this]
    congr 1
    rw[Nat.add_mul,Nat.one_mul];omega
theorem Buf.slV {L:ze_} {E:TypeId} {n:Nat} {cs:List Value} {w0:World} (h:Buf L E m v n cs) (hw:Hp w0 L w) (hl:l.length=n) (hcs:cs=(l.map enc).flatten) (hm: ∀x,(enc x).length=m):SlV m enc z w v l:=h.slM hw.has hl hcs hm
end
end Go.Sx
namespace Go.Sx
open Go
section
variable {P:Program} {w0:World} {f:Fr} {L:ze_} {N:Fr→ze_→Prop} {ops:Array Oper} {rest:List Oper} {md:Md}
 {d:Option Tmp} {ty:TypeId} {ps:String} {af:Array Edge} {g:Option (Nat×Bool)}
def V7_ (n:Int):Value:= .int .i32 n
theorem alE_ (op:BinOp) (t:TypeId) (a b:Int):qO_ P op t (V7_ a) (V7_ b)=zo_ op (V7_ a) (V7_ b):=(rfl)
theorem aeG_ (a b:Int):zo_ .lss (V7_ a) (V7_ b)=some (.bool (decide (a<b))):=by simp[zo_,V7_,jN_,QB_]
theorem acL_ (a b:Int):zo_ .gtr (V7_ a) (V7_ b)=some (.bool (decide (b<a))):=by simp[zo_,V7_,jN_,QB_]
theorem aer_ (a b:Int):zo_ .eql (V7_ a) (V7_ b)=some (.bool (a==b)):=by simp[zo_,V7_,jN_,QB_]
theorem apk_ (n:Int):Value.int .i32 n=V7_ n:=(rfl)
theorem Ow.callFn1 {x y:Operand} {ts:Array TypeId} {k:FuncId} {v a:Value} (hs:zn_ ops f ⟨d, .call ⟨.value x, #[y],ts⟩,ty,ps,af,g⟩=false) (hx:ev f x= .func (.func k) #[] #[]) (hy:ev f y=a)
  (hk: ∀a w,(callFunc k a).run P w= .ok (.enter k a) w) (hc: ∀w,Hp w0 L w→Rets P k #[a] w (fun v' D=>v'=v∧D= [])) (hn:Ow P w0 ops md.next rest (qC_ f d v) L N):
  Ow P w0 ops md (⟨d, .call ⟨.value x, #[y],ts⟩,ty,ps,af,g⟩::rest) f L N:=
 Ow.callV hs hx hk (fun w hw=>by simpa [hy] using hc w hw) hn
theorem Ow.rangeText {t:TypeId} {x:Operand} {l:List UInt8} {md':Md} (he:md.turn=some md') (hs:zn_ ops f ⟨d, .range t x,ty,ps,af,g⟩=false) (hu:P.underlying t=some .string) (hx:ev f x=vs l)
  (hn: ∀b,xB_ L b→w0.heap.size≤b→Ow P w0 ops md' rest (qC_ f d (vp b 0)) (L++ [(b, .stringIter ⟨l.toArray⟩ 0)]) N):
  Ow P w0 ops md (⟨d, .range t x,ty,ps,af,g⟩::rest) f L N:=by
 refine Ow.step he rfl hs fun w hw=> .inl ⟨vp w.heap.size 0,w.alloc (.stringIter ⟨l.toArray⟩ 0),_, ?_,hw.alloc _,hn _ (qu_ fun b hb=>hw.lt hb) hw.size⟩
 simp only[execOp,Instr.range,Sem.run_bind,run_underlying hu w,Result.andThen_ok,hx,vs]
 rfl
theorem Ow.nextText {x:Operand} {b:Nat} {l:List UInt8} {pos:Nat} {md':Md} (he:md.turn=some md') (hs:zn_ ops f ⟨d, .next x true,ty,ps,af,g⟩=false) (hx:ev f x=vp b 0) (hl:look L b=some (.stringIter ⟨l.toArray⟩ pos)) (hp:pos<l.length)
  (hn:Ow P w0 ops md' rest (qC_ f d (.tuple #[.bool true,vi pos,V7_ (Utf8.decode ⟨l.toArray⟩ pos).1])) (setB L b (.stringIter ⟨l.toArray⟩ (pos+ (Utf8.decode ⟨l.toArray⟩ pos).2))) N):
  Ow P w0 ops md (⟨d, .next x true,ty,ps,af,g⟩::rest) f L N:=by
 refine Ow.step he rfl hs fun w hw=> ?_
 have hb:=hw.has _ _ (zJ_ hl)
 refine .inl ⟨_,{w with heap:=w.heap.setIfInBounds b (.stringIter ⟨l.toArray⟩ (pos+ (Utf8.decode ⟨l.toArray⟩ pos).2))},_, ?_,hw.set (zx_ hl) rfl rfl rfl rfl,hn⟩
 have hg: (getObj b).run P w= .ok (.stringIter ⟨l.toArray⟩ pos) w:=by
  simp only[getObj,Sem.run,hb]
 have hst: ∀o,(setObj b o).run P w= .ok () {w with heap:=w.heap.setIfInBounds b o}:=by
  intro o;simp only[setObj,Sem.run,hb]
 have hsz:pos< (ByteArray.mk l.toArray).size:=by rw[wy_];exact hp
 have: (Instr.next (vp b 0) true ty).run P w= .ok (.tuple #[.bool true,vi pos,V7_ (Utf8.decode ⟨l.toArray⟩ pos).1]) {w with heap:=w.heap.setIfInBounds b (.stringIter ⟨l.toArray⟩ (pos+ (Utf8.decode ⟨l.toArray⟩ pos).2))}:=by
  simp only[Instr.next,vp,Sem.run_bind,hg,Result.andThen_ok,hsz, ↓reduceIte,hst]
  rfl
 simp only[execOp,Sem.run_bind,hx]
 rw[this]
 rfl
theorem Ow.nextOver {x:Operand} {b:Nat} {l:List UInt8} {pos:Nat} {md':Md} (he:md.turn=some md') (hs:zn_ ops f ⟨d, .next x true,ty,ps,af,g⟩=false) (hx:ev f x=vp b 0) (hl:look L b=some (.stringIter ⟨l.toArray⟩ pos)) (hp: ¬pos<l.length)
  (hn:Ow P w0 ops md' rest (qC_ f d (.tuple #[.bool false])) L N):
  Ow P w0 ops md (⟨d, .next x true,ty,ps,af,g⟩::rest) f L N:=by
 refine Ow.step he rfl hs fun w hw=> ?_
 have hb:=hw.has _ _ (zJ_ hl)
 refine .inl ⟨.tuple #[.bool false],w,_, ?_,hw,hn⟩
 have hg: (getObj b).run P w= .ok (.stringIter ⟨l.toArray⟩ pos) w:=by
  simp only[getObj,Sem.run,hb]
 have hsz: ¬pos< (ByteArray.mk l.toArray).size:=by rw[wy_];exact hp
 have: (Instr.next (vp b 0) true ty).run P w= .ok (.tuple #[.bool false]) w:=by
  simp only[Instr.next,vp,Sem.run_bind,hg,Result.andThen_ok,hsz, ↓reduceIte]
  rfl
 simp only[execOp,Sem.run_bind,hx]
 rw[this]
 rfl
end
theorem aeV_ (l:List UInt8) (i:Nat) (h:i<l.length):0< (Utf8.decode ⟨l.toArray⟩ i).2∧
  ((l.getD i 0).toNat<128→Utf8.decode ⟨l.toArray⟩ i=((l.getD i 0).toNat,1))∧(128≤ (l.getD i 0).toNat→128≤ (Utf8.decode ⟨l.toArray⟩ i).1):=by
 have hb: ((ByteArray.mk l.toArray).get! (i+0))=l.getD i 0:=by
  simp[ByteArray.get!,h]
 unfold Utf8.decode
 simp only[hb]
 generalize (l.getD i 0).toNat=b0
 refine⟨?_,fun h1=> ?_,fun h1=> ?_⟩
 ·(repeat' split)<;>simp
 ·rw[if_pos h1]
 ·rw[if_neg (by omega)]
  (repeat' split)<;>first
   | (simp only[Utf8.runeError];omega)
   | (rename_i hc;simp only[Bool.and_eq_true,decide_eq_true_eq,ge_iff_le] at hc;omega)
   | (rename_i hc;simp only[ge_iff_le] at hc;omega)
end Go.Sx
namespace Go.Sx
open Go
abbrev Vals:=List (List UInt8×List UInt8)
def fnd (k:List UInt8):Vals→Nat→Option (Nat×List UInt8)
 | [],_=>none
 |p::r,i=>if k==p.1 then some (i,p.2) else fnd k r (i+1)
def updV (k v:List UInt8):Vals→Vals
 | []=> [(k,v)]
 |p::r=>if k==p.1 then(p.1,v)::r else p::updV k v r
def delV (k:List UInt8):Vals→Vals
 | []=> []
 |p::r=>if k==p.1 then r else p::delV k r
def XA_ (p:List UInt8×List UInt8):Value×Value:=(vs p.1, .agg (a8 p.2))
def MapR (o:Obj) (m:Vals):Prop:= ∃es clock,o= .map es clock∧es.toList.map (fun e=>(e.key,e.val))=m.map XA_∧(es.toList.map (·.born)++ [clock]).Pairwise (· < ·)
theorem abO_ {es:List MapEntry} {c:Nat} {e:MapEntry} (h: (es.map (·.born)++ [c]).Pairwise (· < ·)) (he:e.born=c): ((es++ [e]).map (·.born)++ [c+1]).Pairwise (· < ·):=by
 rw[List.map_append,List.map_cons,List.map_nil,he]
 refine List.pairwise_append.2 ⟨h,List.pairwise_singleton _ _, ?_⟩
 intro a ha b hb
 rw[List.mem_singleton] at hb
 subst hb
 rcases List.mem_append.1 ha with hm|hm
 ·have:=(List.pairwise_append.1 h).2.2 a hm c (List.mem_singleton.2 rfl)
  omega
 ·rw[List.mem_singleton] at hm
  omega
theorem KJ_ {es:List MapEntry} {j:Nat} {g:MapEntry→MapEntry} (hg: ∀e,(g e).born=e.born): (es.modify j g).map (·.born)=es.map (·.born):=by
 apply List.ext_getElem?
 intro i
 rw[List.getElem?_map,List.getElem?_map,List.getElem?_modify]
 cases es[i]? with
 |none=>rfl
 |some e=>
  by_cases h:j=i
  ·simp[h,hg]
  ·simp[h]
theorem ae5_ (a b:List UInt8): ((ByteArray.mk a.toArray)==(ByteArray.mk b.toArray))=(a==b):=by
 show(a.toArray==b.toArray)=(a==b)
 simp
theorem VD_ (k:List UInt8): ∀ (es:List MapEntry) (m:Vals) (i:Nat),es.map (fun e=>(e.key,e.val))=m.map XA_→
  Instr.findNow .string (vs k) es i=some ((fnd k m i).map fun p=>(p.1, .agg (a8 p.2)))
 | [],[],i,_=>rfl
 | [],_::_,_,h=>by cases h
 |_::_,[],_,h=>by cases h
 |e::es,p::m,i,h=>by
  simp only[List.map_cons,List.cons.injEq,XA_,Prod.mk.injEq] at h
  obtain⟨⟨h1,h2⟩,h3⟩:=h
  unfold Instr.findNow
  have hs:Instr.sameNow .string (vs k) e.key=some (k==p.1):=by
   rw[h1]
   simp only[vs,Instr.sameNow,ae5_]
  rw[hs]
  unfold fnd
  cases hk: (k==p.1)
  ·simp only[Bool.false_eq_true, ↓reduceIte]
   exact VD_ k es m (i+1) h3
  ·simp[h2]
theorem WR_ (k:List UInt8): ∀ (m:Vals) (i j:Nat) (v:List UInt8),fnd k m i=some (j,v)→i≤j∧ ∃a,m[j - i]? =some (k,a)∧a=v
 | [],_,_,_,h=>by cases h
 |p::r,i,j,v,h=>by
  unfold fnd at h
  split at h
  ·rename_i hk
   cases h
   refine⟨Nat.le_refl _,p.2, ?_,rfl⟩
   rw[Nat.sub_self,List.getElem?_cons_zero,eq_of_beq hk]
  ·obtain⟨h1,a,h2,h3⟩:=WR_ k r (i+1) j v h
   refine⟨by omega,a, ?_,h3⟩
   rw[show j - i=(j - (i+1))+1 by omega,List.getElem?_cons_succ];exact h2
theorem abJ_ (k v:List UInt8): ∀ (es:List MapEntry) (m:Vals) (i j:Nat) (a:List UInt8),es.map (fun e=>(e.key,e.val))=m.map XA_→fnd k m i=some (j,a)→
  (es.modify (j - i) fun e=>{e with key:=vs k,val:= .agg (a8 v)}).map (fun e=>(e.key,e.val))=(updV k v m).map XA_
 | [],[],_,_,_,_,h=>by cases h
 | [],_::_,_,_,_,h,_=>by cases h
 |_::_,[],_,_,_,h,_=>by cases h
 |e::es,p::m,i,j,a,h,hf=>by
  simp only[List.map_cons,List.cons.injEq,XA_,Prod.mk.injEq] at h
  obtain⟨⟨h1,h2⟩,h3⟩:=h
  unfold fnd at hf
  unfold updV
  split at hf
  ·rename_i hk
   cases hf
   rw[if_pos hk,Nat.sub_self]
   simp only[List.modify_zero_cons,List.map_cons,XA_,eq_of_beq hk]
   rw[h3]
  ·rename_i hk
   have hle:=(WR_ k m (i+1) j a hf).1
   rw[if_neg hk,show j - i=(j - (i+1))+1 by omega]
   simp only[List.modify_succ_cons,List.map_cons,XA_]
   rw[abJ_ k v es m (i+1) j a h3 hf,h1,h2]
theorem aaO_ (k v:List UInt8): ∀ (m:Vals) (i:Nat),fnd k m i=none→updV k v m=m++ [(k,v)]
 | [],_,_=>rfl
 |p::r,i,h=>by
  unfold fnd at h
  split at h
  ·cases h
  ·rename_i hk
   unfold updV
   rw[if_neg hk,aaO_ k v r (i+1) h];rfl
section
variable {P:Program} {w0:World} {f:Fr} {L:ze_} {N:Fr→ze_→Prop} {ops:Array Oper} {rest:List Oper} {md:Md}
 {d:Option Tmp} {ty:TypeId} {ps:String} {af:Array Edge} {g:Option (Nat×Bool)}
theorem aei_ {w:World} {t:TypeId} (hu:P.underlying t=some .string) (k:List UInt8) (es:List MapEntry) (m:Vals) (h:es.map (fun e=>(e.key,e.val))=m.map XA_):
  (Instr.findKey t (vs k) es).run P w= .ok ((fnd k m 0).map fun p=>(p.1, .agg (a8 p.2))) w:=by
 simp only[Instr.findKey,Sem.run_bind,run_underlying hu w,Result.andThen_ok,VD_ k es m 0 h]
 rfl
theorem JD_ {w:World} {t:TypeId} (hu:P.underlying t=some .string) (e:Bool) (k:List UInt8): (Instr.checkKey e 10000 t (vs k)).run P w= .ok () w:=by
 unfold Instr.checkKey
 simp only[Sem.run_bind,run_underlying hu w,Result.andThen_ok,vs]
 rfl
theorem kj_ {w:World} {b:Nat} {es:Array MapEntry} {c:Nat} (hb:w.heap[b]? =some (.map es c)): (getObj b).run P w= .ok (.map es c) w:=by
 simp only[getObj,Sem.run,hb]
theorem Zr_ {w:World} {b:Nat} {es:Array MapEntry} {c:Nat} (hb:w.heap[b]? =some (.map es c)) (o:Obj): (setObj b o).run P w= .ok () {w with heap:=w.heap.setIfInBounds b o}:=by
 simp only[setObj,Sem.run,hb]
def vm (b:Nat):Value:= .map (some b)
theorem Ow.makeMap {t:TypeId} {md':Md} (he:md.turn=some md') (hs:zn_ ops f ⟨d, .makeMap t none,ty,ps,af,g⟩=false)
  (hn: ∀b o,xB_ L b→w0.heap.size≤b→MapR o []→Ow P w0 ops md' rest (qC_ f d (vm b)) (L++ [(b,o)]) N):
  Ow P w0 ops md (⟨d, .makeMap t none,ty,ps,af,g⟩::rest) f L N:=by
 refine Ow.step he rfl hs fun w hw=> .inl ⟨vm w.heap.size,w.alloc (.map #[] 0),_, ?_,hw.alloc _,hn _ _ (qu_ fun b hb=>hw.lt hb) hw.size ⟨#[],0,rfl,rfl,List.pairwise_singleton _ _⟩⟩
 simp only[execOp,Instr.makeMap,Sem.run_bind,Option.map_none]
 rfl
theorem apu_ {k:List UInt8} {m:Vals} {es:List MapEntry} {j:Nat} {a:List UInt8} (h:es.map (fun e=>(e.key,e.val))=m.map XA_) (hf:fnd k m 0=some (j,a)): ∃e,es[j]? =some e∧e.key=vs k:=by
 obtain⟨-,a',h1,rfl⟩:=WR_ k m 0 j a hf
 rw[Nat.sub_zero] at h1
 have:=congrArg (·[j]?) h
 simp only[List.getElem?_map,h1,Option.map_some] at this
 cases he:es[j]? with
 |none=>rw[he] at this;cases this
 |some e=>
  rw[he] at this
  simp only[Option.map_some,Option.some.injEq,XA_,Prod.mk.injEq] at this
  exact⟨e,rfl,this.1⟩
theorem Ow.mapUpdate {t kt vt:TypeId} {x y z:Operand} {b:Nat} {o:Obj} {m:Vals} {k v:List UInt8} {md':Md} (he:md.turn=some md') (hs:zn_ ops f ⟨d, .mapUpdate t x y z,ty,ps,af,g⟩=false) (hu:P.underlying t=some (.map kt vt)) (huk:P.underlying kt=some .string)
  (hx:ev f x=vm b) (hy:ev f y=vs k) (hz:ev f z= .agg (a8 v)) (hl:look L b=some o) (hm:MapR o m)
  (hn: ∀o',MapR o' (updV k v m)→Ow P w0 ops md' rest (qC_ f d undef) (setB L b o') N):
  Ow P w0 ops md (⟨d, .mapUpdate t x y z,ty,ps,af,g⟩::rest) f L N:=by
 obtain⟨es,c,rfl,hes,hbo⟩:=hm
 refine Ow.step he rfl hs fun w hw=> ?_
 have hb:=hw.has _ _ (zJ_ hl)
 have hfk:=aei_ (w:=w) huk k es.toList m hes
 cases hf:fnd k m 0 with
 |none=>
  rw[hf] at hfk
  refine .inr (.inl ⟨{w with heap:=w.heap.setIfInBounds b (.map (es.push {key:=vs k,val:= .agg (a8 v),born:=c}) (c+1))},_, ?_,hw.set (zx_ hl) rfl rfl rfl rfl,hn _ ⟨_,_,rfl, ?_,by rw[Array.toList_push];exact abO_ hbo rfl⟩⟩)
  ·have: (Instr.mapUpdate t (vm b) (vs k) (.agg (a8 v))).run P w= .ok () {w with heap:=w.heap.setIfInBounds b (.map (es.push {key:=vs k,val:= .agg (a8 v),born:=c}) (c+1))}:=by
    simp only[Instr.mapUpdate,vm,Sem.run_bind,run_underlying hu w,Result.andThen_ok,kj_ hb,JD_ huk,hfk,Option.map_none,Zr_ hb]
   simp only[execOp,Sem.run_bind,hx,hy,hz]
   rw[this];rfl
  ·rw[aaO_ k v m 0 hf,Array.toList_push,List.map_append,hes,List.map_append];rfl
 |some p=>
  obtain⟨j,a⟩:=p
  rw[hf] at hfk
  obtain⟨e,hej,hek⟩:=apu_ hes hf
  have hej':es[j]? =some e:=by simpa using hej
  have hkt: (Instr.keyThatStays (((es[j]?).map (·.key)).getD (vs k)) (vs k)).run P w= .ok (vs k) w:=by
   rw[hej',Option.map_some,Option.getD_some,hek]
   unfold Instr.keyThatStays
   have:Instr.sameBits 10000 (vs k) (vs k)=true:=by simp[vs,Instr.sameBits,ae5_]
   rw[if_pos this];rfl
  refine .inr (.inl ⟨{w with heap:=w.heap.setIfInBounds b (.map (es.modify j fun e=>{e with key:=vs k,val:= .agg (a8 v)}) c)},_, ?_,hw.set (zx_ hl) rfl rfl rfl rfl,hn _ ⟨_,_,rfl, ?_,by rw[Array.toList_modify,KJ_ (g:=fun e=>{e with key:=vs k,val:= .agg (a8 v)}) fun _=>rfl];exact hbo⟩⟩)
  ·have: (Instr.mapUpdate t (vm b) (vs k) (.agg (a8 v))).run P w= .ok () {w with heap:=w.heap.setIfInBounds b (.map (es.modify j fun e=>{e with key:=vs k,val:= .agg (a8 v)}) c)}:=by
    simp only[Instr.mapUpdate,vm,Sem.run_bind,run_underlying hu w,Result.andThen_ok,kj_ hb,JD_ huk,hfk,Option.map_some,hkt,Zr_ hb]
   simp only[execOp,Sem.run_bind,hx,hy,hz]
   rw[this];rfl
  ·rw[Array.toList_modify]
   have:=abJ_ k v es.toList m 0 j a hes hf
   rw[Nat.sub_zero] at this
   exact this
end
end Go.Sx
namespace Go.Sx
open Go
section
variable {P:Program} {w0:World} {f:Fr} {L:ze_} {N:Fr→ze_→Prop} {ops:Array Oper} {rest:List Oper} {md:Md}
 {d:Option Tmp} {ty:TypeId} {ps:String} {af:Array Edge} {g:Option (Nat×Bool)}
def getV (k:List UInt8) (z:List UInt8) (m:Vals):List UInt8:=match m.find? fun p=>k==p.1 with|some p=>p.2|none=>z
end
end Go.Sx
namespace Go.Sx
open Go
theorem New.mono {n m:Nat} (h:n≤m): ∀ {L:ze_},New m L→New n L
 | [],_=>trivial
 | (_,_)::_,hL=>⟨Nat.le_trans h hL.1,New.mono h hL.2⟩
theorem New.app {n:Nat} {M:ze_}: ∀ {L:ze_},New n L→New n M→New n (L++M)
 | [],_,hM=>hM
 | (_,_)::_,hL,hM=>⟨hL.1,New.app hL.2 hM⟩
section
variable {P:Program} {w0:World} {f:Fr} {L:ze_} {N:Fr→ze_→Prop} {ops:Array Oper} {rest:List Oper} {md:Md}
 {d:Option Tmp} {ty:TypeId} {ps:String} {af:Array Edge} {g:Option (Nat×Bool)}
theorem Ow.callE {l:List Operand} {ts:Array TypeId} {k:FuncId} {b:Nat} {S:Value→Obj→Prop} {md':Md} (he:md.turn=some md')
  (hs:zn_ ops f ⟨d, .call ⟨.value (.func k),l.toArray,ts⟩,ty,ps,af,g⟩=false)
  (hk: ∀a w,(callFunc k a).run P w= .ok (.enter k a) w) (hb:b∈keys L)
  (hc: ∀w,Hp w0 L w→Rets P k (l.map (ev f)).toArray w (fun v D=> ∃o,D= [(b,o)]∧S v o))
  (hn: ∀v o,S v o→Ow P w0 ops md' rest (qC_ f d v) (setB L b o) N):
  Ow P w0 ops md (⟨d, .call ⟨.value (.func k),l.toArray,ts⟩,ty,ps,af,g⟩::rest) f L N:=by
 refine Ow.callF he hs hk (S:=fun _ v D=> ∃o,D= [(b,o)]∧S v o) hc ?_
 rintro B v D - - ⟨o,rfl,hS⟩
 exact⟨_,Mrg.set hb,hn v o hS⟩
theorem Ow.callN {l:List Operand} {ts:Array TypeId} {k:FuncId} {S:Nat→Value→ze_→Prop} {md':Md} (he:md.turn=some md')
  (hs:zn_ ops f ⟨d, .call ⟨.value (.func k),l.toArray,ts⟩,ty,ps,af,g⟩=false)
  (hk: ∀a w,(callFunc k a).run P w= .ok (.enter k a) w)
  (hc: ∀w,Hp w0 L w→Rets P k (l.map (ev f)).toArray w (fun v D=>S w.heap.size v D))
  (hnew: ∀B v D,S B v D→New B D)
  (hn: ∀B v D,xB_ L B→w0.heap.size≤B→S B v D→Ow P w0 ops md' rest (qC_ f d v) (L++D) N):
  Ow P w0 ops md (⟨d, .call ⟨.value (.func k),l.toArray,ts⟩,ty,ps,af,g⟩::rest) f L N:=by
 refine Ow.callF he hs hk (S:=S) hc ?_
 intro B v D ha hB hS
 exact⟨_,Mrg.fresh (hnew B v D hS).le,hn B v D ha hB hS⟩
theorem Cw.forgetN {c:Code} {K:x2_} (M:ze_) (hnew:New w0.heap.size L) (hM: ∀p,p∈M→p∈L) (hn: (keys M).Nodup) (h:Cw P w0 c f M K):Cw P w0 c f L K:=
 Cw.forget M hM hn (fun p hp _=>hnew.le _ (List.mem_map.2 ⟨p,hp,rfl⟩)) h
end
end Go.Sx
section
namespace Go.Sx
open Go
set_option linter.unusedSimpArgs false
section
variable {P:Program} {w0:World} {L:ze_}
theorem wW_ {w:World} {ts tx ty e:TypeId} {m:Bool×Nat} {z x:Value} {b k:Nat} {new:List Value} (hw:Hp w0 L w)
  (hu:P.underlying ts=some (.slice e)) (hm:z2_ P e=some m) (hi:k9_ P e=true) (hz:zE_ P e=some z) (hzs:z.cells.size=m.2) {d:TypeDesc} (hux:P.underlying tx=some d) (hnx: ∀k,d≠ .int k)
  (hXa: ∀w,Hp w0 L w→AppX P w m.2 x k new) (hbig:2* (0+k)+768≤2^38):
  (k=0∧(Builtin.append_ #[ts,tx] ty #[vsl b 0 0 0,x]).run P w= .ok (vsl b 0 0 0) w)∨
  (0<k∧ ∃v' w' L',(Builtin.append_ #[ts,tx] ty #[vsl b 0 0 0,x]).run P w= .ok v' w'∧Hp w0 L' w'∧Buf L' e m.2 v' (0+k) ([]++new)∧Grew w0 (.slice none 0 0) L L'∧ ∃c,slB v'=some c∧xB_ L c):=by
 obtain⟨i,hi,hb0,hbig⟩:=wz_ hi hbig
 have hti: ∀w,(typeInfo e).run P w= .ok i w:=by
  intro w
  simp only[typeInfo,program,Sem.run_bind]
  show Result.andThen (Result.ok P w) _=_
  simp only[Result.andThen_ok,hi]
  rfl
 have hmd: (match d with| .int _=>true|_=>false)=false:=by
  cases d<;>first|rfl|exact absurd rfl (hnx _)
 have e1: ∀ {α β:Type} (a:α) (f:α→World→Result β),(Sem.run P (pure a) w).andThen f=f a w:=fun _ _=>rfl
 have hX:=hXa w hw
 have hxl:=hX.len
 have hxc:=hX.cells
 have hzv:=xU_ (P:=P) hz
 have room: ∀ (b:Nat) (w:World),(askRoom b).run P w= .ok () w:=by
  intro b w
  unfold askRoom
  split<;>rfl
 have zc: ∀j,(Builtin.zeroCells z.cells j).toList.length=j*m.2:=by
  intro j;simp[Builtin.zeroCells,hzs]
 have hbg: ∀c,c<0+k→ ¬ (Builtin.nextslicecap (0+k) c*i.bytes>2^48):=by
  intro c hc
  have:=wI_ hc
  have h2:=Nat.mul_le_mul_right i.bytes this
  omega
 by_cases hk:k=0
 ·subst hk
  have hnew:new= []:=List.eq_nil_of_length_eq_zero (by have:=hX.size;omega)
  subst hnew
  refine .inl ⟨rfl, ?_⟩
  simp only[Builtin.append_,vsl,List.getElem?_toArray,List.getElem?_cons_zero,List.getElem?_cons_succ,Sem.run_bind,run_underlying hu w,Result.andThen_ok,zF_ hm w,run_underlying hux w,hmd,e1,Bool.false_eq_true, ↓reduceIte,hxl,Bool.not_false,Nat.add_zero,Nat.le_refl,hxc]
  rfl
 ·have hpos: ¬0+k≤0:=by omega
  have hbg':=hbg 0 (by omega)
  simp only[Builtin.append_,List.getElem?_toArray,List.getElem?_cons_zero,List.getElem?_cons_succ,Sem.run_bind,run_underlying hu w,Result.andThen_ok,zF_ hm w,run_underlying hux w,hmd,e1,Bool.false_eq_true, ↓reduceIte,hxl,Bool.not_false,hpos,vsl,hti,hb0,or_false,and_false,hbg']
  have hch: (choose (Question.appendCap (0+k) 0 e)).run P w= .ok ((0+k)+w.tape w.drawn (.appendCap (0+k) 0 e)% (2^63 - (0+k))) w.drew:=rfl
  rw[hch]
  generalize hcc: (0+k)+w.tape w.drawn (.appendCap (0+k) 0 e)% (2^63 - (0+k))=c
  have hw1:=hw.drew
  have hX1:=hXa _ hw1
  have hold: (Builtin.firstCells m.2 0 (Value.slice (some ⟨b,0,none⟩) 0 0)).run P w.drew= .ok #[] w.drew:=by
   simp only[Builtin.firstCells,Nat.zero_mul];rfl
  simp only[Result.andThen_ok,room,hold,hX1.cells,hzv]
  refine .inr ⟨by omega,_,_,L++ [(w.drew.heap.size, .cells ([]++new++ (Builtin.zeroCells z.cells (c - (0+k))).toList).toArray e (0,0))],rfl, ?_, .at_ (b:=w.drew.heap.size) (rest:=(Builtin.zeroCells z.cells (c - (0+k))).toList) ?_ ?_ ?_ (by omega) (by omega), ?_,⟨_,rfl,qu_ fun b hb=>hw1.lt hb⟩⟩
  ·have ea: ([]++new++ (Builtin.zeroCells z.cells (c - (0+k))).toList).toArray= #[]++new.toArray++Builtin.zeroCells z.cells (c - (0+k)):=by apply Array.ext';simp
   rw[ea]
   exact hw1.alloc _
  ·rw[qJ_ (fun hm=>Nat.lt_irrefl _ (hw1.lt hm))]
   simp[look]
  ·rw[List.nil_append,hX.size,Nat.zero_add]
  ·exact zc _
  ·refine⟨fun c hc=>by rw[zk_];exact List.mem_append_left _ hc,fun c hc=> ?_,fun c o hne ho=>qR_ ho⟩
   rw[zk_] at hc
   rcases List.mem_append.1 hc with hc|hc
   ·exact .inl hc
   ·right
    simp only[keys,List.map_cons,List.map_nil,List.mem_singleton] at hc
    subst hc
    exact⟨qu_ fun b hb=>hw1.lt hb,hw1.size⟩
end
section
variable {P:Program} {w0:World} {f:Fr} {L:ze_} {N:Fr→ze_→Prop} {ops:Array Oper} {rest:List Oper} {md:Md}
 {d:Option Tmp} {ty:TypeId} {ps:String} {af:Array Edge} {g:Option (Nat×Bool)}
theorem Ow.appendEm {ts tx e:TypeId} {m:Bool×Nat} {z:Value} {s x:Operand} {b k:Nat} {new:List Value} {dx:TypeDesc} {md':Md} (hsv:ev f s=vsl b 0 0 0) (he:md.turn=some md')
  (hs:zn_ ops f ⟨d, .call ⟨.builtin .append, #[s,x], #[ts,tx]⟩,ty,ps,af,g⟩=false)
  (hu:P.underlying ts=some (.slice e)) (hm:z2_ P e=some m) (hi:k9_ P e=true) (hz:zE_ P e=some z) (hzs:z.cells.size=m.2) (hux:P.underlying tx=some dx) (hnx: ∀k,dx≠ .int k)
  (hX: ∀w,Hp w0 L w→AppX P w m.2 (ev f x) k new) (hbig:2* (0+k)+768≤2^38)
  (hn0:k=0→Ow P w0 ops md' rest (qC_ f d (vsl b 0 0 0)) L N)
  (hn: ∀v' L',0<k→Buf L' e m.2 v' (0+k) ([]++new)→Grew w0 (.slice none 0 0) L L'→(∃c,slB v'=some c∧xB_ L c)→Ow P w0 ops md' rest (qC_ f d v') L' N):
  Ow P w0 ops md (⟨d, .call ⟨.builtin .append, #[s,x], #[ts,tx]⟩,ty,ps,af,g⟩::rest) f L N:=by
 refine Ow.step he rfl hs fun w hw=> ?_
 rcases wW_ (ty:=ty) (b:=b) hw hu hm hi hz hzs hux hnx hX hbig with⟨hk,hr⟩ | ⟨hk,v',w',L',hr,hp,hb,hg,hsl⟩
 ·refine .inl ⟨_,w,L, ?_,hw,hn0 hk⟩
  simp only[execOp,resolve,Sem.run_bind,Sem.run_pure,Result.andThen_ok,invoke,builtin,List.map_toArray,List.map_cons,List.map_nil,hsv]
  rw[hr]
  rfl
 ·refine .inl ⟨v',w',L', ?_,hp,hn v' L' hk hb hg hsl⟩
  simp only[execOp,resolve,Sem.run_bind,Sem.run_pure,Result.andThen_ok,invoke,builtin,List.map_toArray,List.map_cons,List.map_nil,hsv]
  rw[hr]
  rfl
end
end Go.Sx
end
namespace Go.Sx
open Go
section
variable {P:Program} {w0:World} {f:Fr} {L:ze_} {N:Fr→ze_→Prop} {K:x2_} {l:List Oper} {listed:List Bool} {n:Nat} {R ts:List Nat} {a d:Nat} {z:Obj}
theorem Md.next_sofnil (R ts:List Nat): (Md.sof R [] ts).next= .sof R [] ts:=(rfl)
theorem acd_ {Q:Exit→Act→World→Prop} {o:Oper} {x:Act} {d:Option Tmp} {v:Value} {K:Act→World→Prop} (hd: ∀t,d=some t→o.dst≠some t)
  (hQ: ∀c a w,Q (.panic c) a w→Q (.panic c) (a.put d v) w) (r:Result Next) (h:o.upon P x (fun a' w'=>K (a'.put d v) w') Q r):
  o.upon P (x.put d v) K Q r:=by
 have comm: ∀u,(x.put o.dst u).put d v=(x.put d v).put o.dst u:=fun u=>(Act.put_comm x v u hd).symm
 match r,h with
 | .ok (.value u) _,h=>show K _ _;rw[←comm];exact h
 | .ok .skip _,h=>show K _ _;rw[←comm];exact h
 | .ok (.defer e) w',h=>
  have h':K ((({x with defers:=e::x.defers}:Act).put o.dst undef).put d v) w':=h
  rw[←Act.put_comm _ v undef hd,←Act.put_defers] at h'
  exact h'
 | .ok (.enter f args) _,h=>
  refine Calls.mono h fun e w'' he=> ?_
  match e,he with
  | .returned u,he=>show K _ _;rw[←comm];exact he
  | .panicked c,he=>exact hQ _ _ _ he
  | .outgrown,he=>exact he
 | .ok (.row row args) _,h=>exact Rows.mono h fun u w'' he=>by rw[←comm];exact he
 | .halt (.panic u) _,h=>exact hQ _ _ _ h
theorem aa5_ {ops:Array Oper} {Q:Exit→Act→World→Prop} {j:Nat} {oj:Oper} {d:Option Tmp} {v:Value} (hj:ops[j]? =some oj) (h1: ∀t,d=some t→t∉oj.looksAt ops) (h2: ∀t,d=some t→oj.dst≠some t) (hsj: ∀cs b,oj.op≠ .select cs b)
  (hQ: ∀c a w,Q (.panic c) a w→Q (.panic c) (a.put d v) w) {K:Act→World→Prop} {x:Act} {w:World}
  (h:wpOp P ops Q j (fun a' w'=>K (a'.put d v) w') x w):wpOp P ops Q j K (x.put d v) w:=by
 unfold wpOp at h ⊢
 simp only[hj] at h ⊢
 rw[wanted_put oj x d v h1]
 cases hw:Region.wanted oj (yielded ops x.tmps) with
 |true=>
  rw[hw] at h
  simp only[if_true] at h ⊢
  rcases h with h| ⟨hasks,hl⟩
  ·left
   unfold Oper.wp at h ⊢
   rw[execOp_put oj hsj x d v h1]
   exact acd_ h2 hQ _ h
  ·right
   exact⟨by unfold Oper.asks at*;rwa [execOp_put oj hsj x d v h1],hl⟩
 |false=>
  rw[hw] at h
  simp only[Bool.false_eq_true,if_false] at h ⊢
  rw[Act.put_comm x v undef h2]
  exact h
structure Drift (P:Program) (l:List Oper) (ts:List Nat) (a d:Nat) (z:Obj):Prop where
 here: ∃oa t zv,l.toArray[a]? =some oa∧oa.op= .alloc t∧oa.dst=some d∧oa.guard=none∧zE_ P t=some zv∧z= .cells zv.cells t
 ts:a∉ts
 sel:Region.noSelect l.toArray=true
def asl_ (l:List Oper) (ts:List Nat) (a d:Nat):Bool:=
 (match vj_ l a with
 |some oa=>(match oa.op with| .alloc _=>true|_=>false)&&oa.dst==some d&&oa.guard==none
 |none=>false)&& !ts.contains a&&Region.noSelect l.toArray
def OwD (P:Program) (w0:World) (l:List Oper) (R ts:List Nat) (a d:Nat) (z:Obj) (n:Nat) (listed:List Bool) (f:Fr) (L:ze_) (N:Fr→ze_→Prop):Prop:=
 (∀w,Hp w0 L w→x7_ P l.toArray (jZ_ w0 N) ts (SR w0 R L) (n+1) listed.toArray (act f) w)∧
 (∀b w,w0.heap.size≤b→b∉keys L→Hp w0 (L++ [(b,z)]) w→x7_ P l.toArray (jZ_ w0 N) ts (SR w0 R L) n (listed.set a true).toArray (act (WP_ f d (vp b 0))) w)
theorem SR.ofE {w:World} {b:Nat} (hb:w0.heap.size≤b) (h:Hp w0 (L++ [(b,z)]) w):SR w0 R L w:=by
 intro r _ o ho
 unfold zA_ at ho
 split at ho
 ·rename_i o' hl
  cases ho
  exact h.has _ _ (List.mem_append_left _ (zJ_ hl))
 ·rename_i hl
  have hlt:=(Array.getElem?_eq_some_iff.1 ho).1
  rw[h.old r hlt ?_];exact ho
  intro hm
  simp only[keys,List.map_append,List.map_cons,List.map_nil,List.mem_append,List.mem_singleton] at hm
  rcases hm with hm|hm
  ·exact Qr_ hl hm
  ·omega
theorem ajw_ {c:List PanicEntry} {x x':Act} {w:World} (h:jZ_ w0 N (.panic c) x w):jZ_ w0 N (.panic c) x' w:=zZ_ h
theorem Hp.perm {w:World} {M:ze_} (h:Hp w0 L w) (hp:M.Perm L):Hp w0 M w:=
 h.same (fun _=>hp.mem_iff) ((List.Perm.nodup_iff (hp.map Prod.fst)).2 h.nodup)
def chkD (P:Program) (l:List Oper) (ts:List Nat) (a:Nat):List Nat→List Bool→Option (List Bool)
 | [],listed=>some listed
 |k::is,listed=>
  match vj_ l k,vj_ l a with
  |some o,some oa=>if k !=a&& !ts.contains k&& (ts.all fun t=> !listed.toArray.getD t true&& !(listed.set a true).toArray.getD t true)&& (Region.ready .any l.toArray listed.toArray).contains k&&Region.free .any l.toArray listed.toArray k&&
    (Region.ready .any l.toArray (listed.set a true).toArray).contains k&&Region.free .any l.toArray (listed.set a true).toArray k&&o.apart l.toArray oa&&
    (xC_ P o.op|| (K3_ o.op&&J8_ l.toArray ts listed.toArray k&&J8_ l.toArray ts (listed.set a true).toArray k)) then chkD P l ts a is (listed.set k true) else none
  |_,_=>none
theorem OwD.step {k:Nat} {o:Oper} {v:Value} (hD:Drift P l ts a d z) (hk:vj_ l k=some o) {rest:List Bool} (hc:chkD P l ts a [k] listed=some rest)
  (hY:YieldsC P l.toArray (SR w0 R L) (xC_ P o.op=true) o v (act f)) (h:OwD P w0 l R ts a d z n rest (qC_ f o.dst v) L N):OwD P w0 l R ts a d z (n+1) listed f L N:=by
 obtain⟨⟨oa,t,zv,ha,hop,hdst,hg,hz,rfl⟩,hats,hns⟩:=hD
 have hoi:l.toArray[k]? =some o:=by rw[xG_] at hk;simpa using hk
 have ha':vj_ l a=some oa:=by rw[xG_];simpa using ha
 unfold chkD at hc
 rw[hk,ha'] at hc
 simp only at hc
 split at hc
 ·rename_i hcc
  simp only[chkD,Option.some.injEq] at hc
  subst hc
  simp only[Bool.and_eq_true,Bool.or_eq_true,Bool.not_eq_true',List.all_eq_true,List.contains_eq_mem,decide_eq_true_eq,decide_eq_false_iff_not,bne_iff_ne,ne_eq] at hcc
  obtain⟨⟨⟨⟨⟨⟨⟨⟨c1,c2⟩,c3⟩,c4⟩,c5⟩,c6⟩,c7⟩,c8⟩,c9⟩:=hcc
  obtain⟨q1,q2,q3⟩:=Oper.apart_spec c8
  have hsel:=Region.noSelect_spec hns
  have hset: (listed.set k true).set a true=(listed.set a true).set k true:=List.set_comm _ _ c1
  refine⟨fun w hw=> ?_,fun b w hb hbL hw=> ?_⟩
  ·refine vM_ hoi c2 hsel (fun c a w h=>zZ_ h) _ _ _ _ (x8_ (P:=P) hoi c4 c5 (c9.imp id fun h=>⟨h.1.1,h.1.2,fun t ht=>(c3 t ht).1⟩)) (.inr fun t ht=>(c3 t ht).1) hY ?_
   rw[qd_,qm_]
   exact h.1 w hw
  ·have hY2:YieldsC P l.toArray (SR w0 R L) (xC_ P o.op=true) o v (act (WP_ f d (vp b 0))):=by
    refine hY.left (hsel k o · · hoi) (oj:=oa) q3 ⟨vp b 0,[], ?_⟩
    rw[hdst]
    exact(qd_ f (some d) (vp b 0)).symm
   refine vM_ hoi c2 hsel (fun c a w h=>zZ_ h) _ _ _ _ (x8_ (P:=P) hoi c6 c7 (c9.imp id fun h=>⟨h.1.1,h.2,fun t ht=>(c3 t ht).2⟩)) (.inr fun t ht=>(c3 t ht).2) hY2 ?_
   have e: (act (WP_ f d (vp b 0))).put o.dst v=act (WP_ (qC_ f o.dst v) d (vp b 0)):=by
    have e1:act (WP_ f d (vp b 0))=(act f).put (some d) (vp b 0):=(qd_ f (some d) (vp b 0)).symm
    rw[e1,Act.put_comm (act f) (x:=some d) (y:=o.dst) (vp b 0) v (fun t ht hod=>by cases ht;exact q2 _ hod hdst),qd_,qd_];rfl
   rw[e,qm_,←hset]
   exact h.2 b w hb hbL hw
 ·cases hc
theorem akY_ {k:Nat} {is:List Nat} {listed listed':List Bool} (h:chkD P l ts a (k::is) listed=some listed'):chkD P l ts a [k] listed=some (listed.set k true)∧chkD P l ts a is (listed.set k true)=some listed':=by
 rw[chkD] at h
 cases ho:vj_ l k with
 |none=>rw[ho] at h;cases h
 |some o=>
  cases hoa:vj_ l a with
  |none=>rw[ho,hoa] at h;cases h
  |some oa=>
   rw[ho,hoa] at h
   simp only at h
   split at h
   ·rename_i hcc
    refine⟨?_,h⟩
    rw[chkD,ho,hoa]
    simp only
    rw[if_pos hcc];rfl
   ·cases h
theorem OwD.runs {k:Md→List Oper→Fr→ze_→Prop} (hD:Drift P l ts a d z): ∀ (is:List Nat) {listed listed':List Bool} {f:Fr} {L:ze_},chkD P l ts a is listed=some listed'→
  (∀md r f' L',k md r f' L'→r= []∧OwD P w0 l R ts a d z n listed' f' L' N)→vcL P w0 l.toArray false (.sof R [] []) (x0_ l is) f L k→OwD P w0 l R ts a d z (is.length+n) listed f L N
 | [],listed,listed',f,L,hc,hk,h=>by
  cases hc
  rw[List.length_nil,Nat.zero_add]
  exact(hk _ _ _ _ h).2
 |i::is,listed,listed',f,L,hc,hk,h=>by
  obtain⟨hc1,hc2⟩:=akY_ hc
  rw[zb_] at h
  cases ho:vj_ l i with
  |none=>unfold chkD at hc1;rw[ho] at hc1;cases hc1
  |some o=>
   rw[ho,za_] at h
   unfold vcL at h
   rw[List.length_cons,show is.length+1+n=(is.length+n)+1 by omega]
   cases hs:zn_ l.toArray f o with
   |true=>
    rw[hs] at h
    have hw0:Region.wanted o (yielded l.toArray (act f).tmps)=false:=by rw[qq_,hs];rfl
    exact OwD.step hD ho hc1 (v:=undef) (.inr ⟨hw0,rfl⟩) (OwD.runs hD is hc2 hk h)
   |false=>
    rw[hs] at h
    have hw0:Region.wanted o (yielded l.toArray (act f).tmps)=true:=by rw[qq_,hs];rfl
    simp only[ib,vcB] at h
    split at h
    ·cases hrd:WI_ (.sof R [] []) f o.op with
     |false=>rw[hrd] at h;exact absurd (hk _ _ _ _ h).1 (by simp)
     |true=>
      rw[hrd] at h
      simp only at h
      cases hv:k5_ P w0 L f o.op with
      |none=>rw[hv] at h;exact absurd (hk _ _ _ _ h).1 (by simp)
      |some v=>
       rw[hv] at h
       refine OwD.step hD ho hc1 (v:=v) (.inl ⟨hw0,fun w hw=> ?_⟩) (OwD.runs hD is hc2 hk h)
       rw[j2_]
       rcases hw with hp|hw
       ·exact jj_ (Hp.refl w) (kl_ hp hv w)
       ·exact jj_ (Hp.refl w) (Z0_ hrd hv hw)
    ·exact absurd (hk _ _ _ _ h).1 (by simp)
    ·exact absurd (hk _ _ _ _ h).1 (by simp)
theorem OwD.run (is:List Nat) (listed':List Bool) (n:Nat) {m:Nat} (hm:m=is.length+n) (hD:Drift P l ts a d z) (hc:chkD P l ts a is listed=some listed')
  (h: ∀k:Md→List Oper→Fr→ze_→Prop,(∀md f L,OwD P w0 l R ts a d z n listed' f L N→k md [] f L)→nl (x0_ l is) fun l'=>vcL P w0 l.toArray false (.sof R [] []) l' f L k):OwD P w0 l R ts a d z m listed f L N:=by
 subst hm
 refine OwD.runs (k:=fun _ r f' L'=>r= []∧OwD P w0 l R ts a d z n listed' f' L' N) hD is hc (fun _ _ _ _ h=>h) ?_
 exact h _ fun _ _ _ h=>⟨rfl,h⟩
theorem VG_ {t:TypeId} {zv:Value} {oa:Oper} {Q:Exit→Act→World→Prop} {X:Act→World→Prop} {w:World} (ha:l.toArray[a]? =some oa) (hop:oa.op= .alloc t) (hdst:oa.dst=some d) (hg:oa.guard=none) (hz:zE_ P t=some zv)
  (h:X (act (WP_ f d (vp w.heap.size 0))) (w.alloc (.cells zv.cells t))):wpOp P l.toArray Q a X (act f) w:=by
 obtain⟨dst,op,ty,pos,after,guard⟩:=oa
 simp only at hop hdst hg
 subst hop;subst hdst;subst hg
 unfold wpOp
 simp only[ha]
 have hw:Region.wanted ⟨some d, .alloc t,ty,pos,after,none⟩ (yielded l.toArray (act f).tmps)=true:=by rw[qq_];rfl
 rw[hw]
 simp only[↓reduceIte]
 left
 unfold Oper.wp
 have hr: (execOp (act f).eval ⟨some d, .alloc t,ty,pos,after,none⟩).run P w= .ok (.value (vp w.heap.size 0)) (w.alloc (.cells zv.cells t)):=by
  simp only[execOp,Instr.alloc,Sem.run_bind,xU_ hz w,Result.andThen_ok]
  rfl
 rw[hr]
 show X ((act f).put (some d) (vp w.heap.size 0)) _
 rw[qd_]
 exact h
theorem Zc_ {L':ze_} (hS: ∀b,b∈R→zA_ w0 L' b=zA_ w0 L b):SR w0 R L=SR w0 R L':=by
 funext v
 unfold SR
 apply propext
 constructor
 ·intro hh b hb o ho;exact hh b hb o (by rw[←hS b hb];exact ho)
 ·intro hh b hb o ho;exact hh b hb o (by rw[hS b hb];exact ho)
def afp_ (l:List Oper) (ts:List Nat) (a:Nat) (ks:List Nat) (listed:List Bool):Bool:=
 ((Region.ready .any l.toArray listed.toArray).all fun i=>i==a||ks.contains i)&& (Region.ready .any l.toArray listed.toArray != [])&& ((Region.ready .any l.toArray (listed.set a true).toArray).all fun i=>ks.contains i)&& (Region.ready .any l.toArray (listed.set a true).toArray != [])&&ks.all fun k=>
  match vj_ l k,vj_ l a with
  |some o,some oa=>k !=a&& !ts.contains k&&o.apart l.toArray oa
  |_,_=>false
theorem OwD.softs (ks:List Nat) (hD:Drift P l ts a d z) (hs:afp_ l ts a ks listed=true)
  (h: ∀k,k∈ks→ ∀o,vj_ l k=some o→ ∀E,(E= []∨ ∃b,E= [(b,z)]∧w0.heap.size≤b∧b∉keys L)→Ow P w0 l.toArray .seq [o] f (L++E) (fun f' L''=> ∃L',(L'++E).Perm L''∧(∀r,r∈R→zA_ w0 L' r=zA_ w0 L r)∧OwD P w0 l R ts a d z n (listed.set k true) f' L' N)):
  OwD P w0 l R ts a d z (n+1) listed f L N:=by
 obtain⟨⟨oa,t,zv,ha,hop,hdst,hg,hz,rfl⟩,hats,hns⟩:=hD
 have ha':vj_ l a=some oa:=by rw[xG_];simpa using ha
 unfold afp_ at hs
 simp only[Bool.and_eq_true,List.all_eq_true,Bool.or_eq_true,beq_iff_eq,bne_iff_ne,ne_eq,List.contains_eq_mem,decide_eq_true_eq] at hs
 obtain⟨⟨⟨⟨c3,c4⟩,c5⟩,c5'⟩,c6⟩:=hs
 have hsel:=Region.noSelect_spec hns
 have hkk: ∀k,k∈ks→ ∃o,vj_ l k=some o∧k≠a∧k∉ts∧o.apart l.toArray oa=true:=by
  intro k hk
  have:=c6 k hk
  rw[ha'] at this
  cases ho:vj_ l k with
  |none=>rw[ho] at this;cases this
  |some o=>
   rw[ho] at this
   simp only[Bool.and_eq_true,Bool.not_eq_true',bne_iff_ne,ne_eq,decide_eq_false_iff_not] at this
   exact⟨o,rfl,this.1.1,this.1.2,this.2⟩
 have t2: ∀b w,w0.heap.size≤b→b∉keys L→Hp w0 (L++ [(b, .cells zv.cells t)]) w→x7_ P l.toArray (jZ_ w0 N) ts (SR w0 R L) (n+1) (listed.set a true).toArray (act (WP_ f d (vp b 0))) w:=by
  intro b w hb hbL hw
  refine⟨fun _=>SR.ofE hb hw,(fun h=>absurd h c5'), ?_⟩
  intro k hi
  have hkm:=c5 k hi
  obtain⟨o,hk,c1,c2,c7⟩:=hkk k hkm
  have hoi:l.toArray[k]? =some o:=by rw[xG_] at hk;simpa using hk
  obtain⟨q1,q2,q3⟩:=Oper.apart_spec c7
  have hset: (listed.set k true).set a true=(listed.set a true).set k true:=List.set_comm _ _ c1
  have e1:act (WP_ f d (vp b 0))=(act f).put (some d) (vp b 0):=(qd_ f (some d) (vp b 0)).symm
  rw[e1]
  refine aa5_ hoi (fun t ht=>by cases ht;exact q3 d hdst) (fun t ht=>by cases ht;exact fun hod=>q2 d hod hdst) (hsel _ o · · hoi) (fun c a w h=>ajw_ h) ?_
  refine ZO_ hoi (X:=fun a' w'=>x7_ P l.toArray (jZ_ w0 N) ts (SR w0 R L) n ((listed.set a true).toArray.setIfInBounds k true) (a'.put (some d) (vp b 0)) w') ?_ hw
  intro w' hw'
  refine kV_ ?_ (h k hkm o hk [(b, .cells zv.cells t)] (.inr ⟨b,rfl,hb,hbL⟩) w' hw')
  rintro f' L'' ⟨L',hpm,hR,hO⟩ w'' hw''
  have hw3:=hw''.perm hpm
  rw[qd_,qm_,←hset,Zc_ hR]
  refine hO.2 b w'' hb (fun hm=> ?_) hw3
  have hnd:=hw3.nodup
  rw[zk_,List.nodup_append] at hnd
  exact hnd.2.2 b hm b (by simp[keys]) rfl
 refine⟨fun w hw=>⟨fun _=>SR.of hw,fun h=>absurd h c4,fun k hi=> ?_⟩,t2⟩
 rcases c3 k hi with rfl|hkm
 ·refine VG_ ha hop hdst hg hz ?_
  rw[qm_]
  refine t2 _ _ hw.size (fun hm=>Nat.lt_irrefl _ (hw.lt hm)) (hw.alloc _)
 ·obtain⟨o,hk,c1,c2,c7⟩:=hkk k hkm
  have hoi:l.toArray[k]? =some o:=by rw[xG_] at hk;simpa using hk
  refine ZO_ hoi (X:=x7_ P l.toArray (jZ_ w0 N) ts (SR w0 R L) (n+1) (listed.toArray.setIfInBounds k true)) ?_ hw
  intro w' hw'
  have h1:=h k hkm o hk [] (.inl rfl)
  rw[List.append_nil] at h1
  refine kV_ ?_ (h1 w' hw')
  rintro f' L'' ⟨L',hpm,hR,hO⟩ w'' hw''
  rw[List.append_nil] at hpm
  rw[qm_,Zc_ hR]
  exact hO.1 w'' (hw''.perm hpm)
theorem OwD.soft (k:Nat) (o:Oper) (hD:Drift P l ts a d z) (hk:vj_ l k=some o) (hs:afp_ l ts a [k] listed=true)
  (h: ∀E,(E= []∨ ∃b,E= [(b,z)]∧w0.heap.size≤b∧b∉keys L)→Ow P w0 l.toArray .seq [o] f (L++E) (fun f' L''=> ∃L',(L'++E).Perm L''∧(∀r,r∈R→zA_ w0 L' r=zA_ w0 L r)∧OwD P w0 l R ts a d z n (listed.set k true) f' L' N)):
  OwD P w0 l R ts a d z (n+1) listed f L N:=OwD.softs [k] hD hs fun k' hk' o' ho'=>by
 rw[List.mem_singleton] at hk'
 subst hk'
 rw[hk] at ho'
 cases ho'
 exact h
theorem OwD.two (k k2:Nat) (o o2:Oper) (hD:Drift P l ts a d z) (hk:vj_ l k=some o) (hk2:vj_ l k2=some o2) (hs:afp_ l ts a [k,k2] listed=true)
  (h: ∀E,(E= []∨ ∃b,E= [(b,z)]∧w0.heap.size≤b∧b∉keys L)→Ow P w0 l.toArray .seq [o] f (L++E) (fun f' L''=> ∃L',(L'++E).Perm L''∧(∀r,r∈R→zA_ w0 L' r=zA_ w0 L r)∧OwD P w0 l R ts a d z n (listed.set k true) f' L' N))
  (h2: ∀E,(E= []∨ ∃b,E= [(b,z)]∧w0.heap.size≤b∧b∉keys L)→Ow P w0 l.toArray .seq [o2] f (L++E) (fun f' L''=> ∃L',(L'++E).Perm L''∧(∀r,r∈R→zA_ w0 L' r=zA_ w0 L r)∧OwD P w0 l R ts a d z n (listed.set k2 true) f' L' N)):
  OwD P w0 l R ts a d z (n+1) listed f L N:=OwD.softs [k,k2] hD hs fun k' hk' o' ho'=>by
 simp only[List.mem_cons,List.not_mem_nil,or_false] at hk'
 rcases hk' with rfl|rfl
 ·rw[hk] at ho';cases ho';exact h
 ·rw[hk2] at ho';cases ho';exact h2
theorem OwD.real (is:List Nat) {m:Nat} (hm:m=is.length) (hD:Drift P l ts a d z) (hr:Region.ready .any l.toArray listed.toArray= [a]) (hB:JC_ P l.toArray ts is (listed.set a true).toArray=true) (hts: (ts.all fun t=> !(listed.set a true).toArray.getD t true)=true)
  (hl:is.map (fun i:Nat=>l[i]?)=(x0_ l is).map some) (hR: ∀r,r∈R→r∈keys L∨r<w0.heap.size)
  (h:nl (x0_ l is) fun l'=> ∀b,w0.heap.size≤b→b∉keys L→Ow P w0 l.toArray (.sof R is ts) l' (WP_ f d (vp b 0)) (L++ [(b,z)]) N):OwD P w0 l R ts a d z m listed f L N:=by
 subst hm
 obtain⟨⟨oa,t,zv,ha,hop,hdst,hg,hz,rfl⟩,hats,hns⟩:=hD
 simp only[List.all_eq_true,Bool.not_eq_true'] at hts
 revert hl h
 generalize x0_ l is=l'
 intro hl h
 have hlen:is.length=l'.length:=by have:=congrArg List.length hl;simpa using this
 have hF:Fits P l.toArray ts is l' (listed.set a true).toArray:=⟨hlen,fun j=>by
  have:=congrArg (·[j]?) hl
  simp only[List.getElem?_map] at this
  cases hj:is[j]? with
  |none=>
   rw[hj] at this
   simp only[Option.map_none] at this
   cases hj':l'[j]? with
   |none=>rfl
   |some x=>rw[hj'] at this;cases this
  |some i=>
   rw[hj] at this
   simp only[Option.map_some] at this
   cases hj':l'[j]? with
   |none=>rw[hj'] at this;cases this
   |some x=>
    rw[hj'] at this
    simp only[Option.map_some,Option.some.injEq] at this
    simp[this],hns,hB⟩
 have hRb: ∀b,w0.heap.size≤b→b∉keys L→ ∀r,r∈R→zA_ w0 (L++ [(b,Obj.cells zv.cells t)]) r=zA_ w0 L r:=by
  intro b hb hbL r hr
  unfold zA_
  cases hlk:look L r with
  |some o=>rw[qR_ hlk]
  |none=>
   have hrn:r∉keys L:=Qr_ hlk
   have hne:b≠r:=by
    rcases hR r hr with h|h
    ·exact absurd h hrn
    ·omega
   rw[qJ_ hrn]
   unfold look
   rw[if_neg hne];rfl
 have t2: ∀b w,w0.heap.size≤b→b∉keys L→Hp w0 (L++ [(b, .cells zv.cells t)]) w→x7_ P l.toArray (jZ_ w0 N) ts (SR w0 R L) is.length (listed.set a true).toArray (act (WP_ f d (vp b 0))) w:=by
  intro b w hb hbL hw
  rw[hlen,Zc_ (hRb b hb hbL)]
  exact h b hb hbL _ hF (fun t ht=>hts t ht) w hw
 refine⟨fun w hw=>⟨fun _=>SR.of hw,(fun h=>by rw[hr] at h;cases h),fun i hi=> ?_⟩,t2⟩
 rw[hr,List.mem_singleton] at hi
 subst hi
 refine VG_ ha hop hdst hg hz ?_
 rw[qm_]
 exact t2 _ _ hw.size (fun hm=>Nat.lt_irrefl _ (hw.lt hm)) (hw.alloc _)
theorem Cw.regionD {id:Nat} (R ts:List Nat) (a d t m:Nat) (zv:Value) (hl:l.length=m+1) (hm:P.follows .mixedOrders=true) (hop: ((vj_ l a).map fun o=>(o.op,o.dst,o.guard))=some (.alloc t,some d,none)) (hts:ts.contains a=false) (hns:Region.noSelect l.toArray=true) (hz:zE_ P t=some zv)
  (h:Drift P l ts a d (.cells zv.cells t)→OwD P w0 l R ts a d (.cells zv.cells t) m (List.replicate (m+1) false) f L (K .normal)):Cw P w0 (.region id l.toArray true) f L K:=by
 intro w hw
 refine wp_mono (wp_region_any hm ?_) fun _ _ _ h=>xy_ h
 have hD:Drift P l ts a d (.cells zv.cells t):=by
  cases hn:vj_ l a with
  |none=>rw[hn] at hop;cases hop
  |some oa=>
   rw[hn] at hop
   simp only[Option.map_some,Option.some.injEq,Prod.mk.injEq] at hop
   exact⟨⟨oa,t,zv,by rw[xG_] at hn;simpa using hn,hop.1,hop.2.1,hop.2.2,hz,rfl⟩,by simpa using hts,hns⟩
 have h1:=(h hD).1 w.drew hw.drew
 have:=vr_ _ _ _ _ h1
 simpa [hl] using this
end
end Go.Sx
namespace Go.Sx
open Go
def Gr (L:ze_) (E:TypeId) (m:Nat) (v:Value) (n:Nat) (cs:List Value):Prop:=
 Buf L E m v n cs∨(n=0∧cs= []∧ ∃b,v=vsl b 0 0 0∧look L b=some (.cells #[] E (0,0)))
theorem Gr.nl {L:ze_} {E:TypeId} {m:Nat}:Gr L E m (.slice none 0 0) 0 []:= .inl .nl
theorem Grew.any {w0:World} {v v':Value} {L L':ze_} (h:Grew w0 v L L') (hv:slB v=none):Grew w0 v' L L':=
 ⟨h.keys,h.new,fun c o _ hl=>h.look c o (by rw[hv];simp) hl⟩
theorem Gr.keep {L L':ze_} {E:TypeId} {m n:Nat} {v:Value} {cs:List Value} (h:Gr L E m v n cs) (hk: ∀b o,slB v=some b→look L b=some o→look L' b=some o):Gr L' E m v n cs:=by
 rcases h with h| ⟨h1,h2,b,rfl,h3⟩
 ·exact .inl (h.keep hk)
 ·exact .inr ⟨h1,h2,b,rfl,hk b _ rfl h3⟩
theorem Gr.app {L M:ze_} {E:TypeId} {m n:Nat} {v:Value} {cs:List Value} (h:Gr L E m v n cs):Gr (L++M) E m v n cs:=h.keep fun _ _ _ hl=>qR_ hl
theorem Gr.len {L:ze_} {E:TypeId} {m n:Nat} {v:Value} {cs:List Value} (h:Gr L E m v n cs) (x:Bool×Nat):X4_ (.sl x) v=some (vi n):=by
 rcases h with h| ⟨rfl,rfl,b,rfl,-⟩
 ·exact h.len x
 ·rfl
theorem Gr.cell {L:ze_} {E:TypeId} {m n:Nat} {v:Value} {cs:List Value} (h:Gr L E m v n cs):Value.oneCell' v=true∧v.cells= #[v]:=by
 rcases h with h| ⟨rfl,rfl,b,rfl,-⟩
 ·exact h.cell
 ·exact⟨rfl,rfl⟩
theorem Gr.key {L:ze_} {E:TypeId} {m n:Nat} {v:Value} {cs:List Value} (h:Gr L E m v n cs) {b:Nat} (hb:slB v=some b):b∈keys L:=by
 rcases h with h| ⟨rfl,rfl,c,rfl,hl⟩
 ·rcases h.inv with⟨rfl,-,-⟩ | ⟨c,cc,rest,rfl,hl,-⟩
  ·cases hb
  ·cases hb;exact zx_ hl
 ·cases hb;exact zx_ hl
section
variable {α:Type} {m:Nat} {enc:α→List Value} {z:α} {w:World} {v:Value} {l:List α}
theorem Gr.slM {L:ze_} {E:TypeId} {n:Nat} {cs:List Value} (h:Gr L E m v n cs) (hw: ∀b o,(b,o)∈L→w.heap[b]? =some o) (hl:l.length=n) (hcs:cs=(l.map enc).flatten) (hm: ∀x,(enc x).length=m):SlV m enc z w v l:=by
 rcases h with h| ⟨rfl,rfl,b,rfl,hlk⟩
 ·exact h.slM hw hl hcs hm
 ·obtain rfl:l= []:=List.eq_nil_of_length_eq_zero hl
  exact SlV.sl (l:=([]:List α)) (off:=0) (c:=0) (hw _ _ (zJ_ hlk)) (fun k hk=>by simp at hk) (Nat.le_refl 0) (by simp)
theorem Gr.slV {L:ze_} {E:TypeId} {n:Nat} {cs:List Value} {w0:World} (h:Gr L E m v n cs) (hw:Hp w0 L w) (hl:l.length=n) (hcs:cs=(l.map enc).flatten) (hm: ∀x,(enc x).length=m):SlV m enc z w v l:=h.slM hw.has hl hcs hm
theorem JF_ (hm: ∀x,(enc x).length=m) (arr:Array Value): ∀ (ls:List α) (off:Nat),off+ls.length*m≤arr.size→(∀k j,k<ls.length→j<m→arr[off+k*m+j]? =(enc (ls.getD k z))[j]?)→
  (arr.extract off (off+ls.length*m)).toList=(ls.map enc).flatten
 | [],off,_,_=>by simp
 |r::ls,off,hs,h=>by
  have hlm: (r::ls).length*m=m+ls.length*m:=by rw[List.length_cons,Nat.add_mul,Nat.one_mul,Nat.add_comm]
  rw[hlm] at hs ⊢
  have ih:=JF_ hm arr ls (off+m) (by omega) (fun k j hk hj=>by
   have:=h (k+1) j (by simpa using hk) hj
   rw[List.getD_cons_succ] at this
   rw[←this];congr 1;rw[Nat.add_mul,Nat.one_mul];omega)
  have h0: (arr.extract off (off+m)).toList=enc r:=by
   apply List.ext_getElem?
   intro j
   rw[Array.getElem?_toList,Array.getElem?_extract]
   by_cases hj:j<m
   ·rw[if_pos (by omega)]
    have:=h 0 j (by simp) hj
    simpa using this
   ·rw[if_neg (by omega),List.getElem?_eq_none (by rw[hm];omega)]
  rw[List.map_cons,List.flatten_cons,←ih,←h0,←Array.toList_append]
  congr 1
  rw[Array.extract_append_extract]
  congr 1<;>omega
theorem WX_ (hm: ∀x,(enc x).length=m) (l:List α): (l.map enc).flatten.length=l.length*m:=by
 induction l with
 |nil=>simp
 |cons x r ih=>rw[List.map_cons,List.flatten_cons,List.length_append,ih,hm,List.length_cons,Nat.add_mul,Nat.one_mul,Nat.add_comm]
theorem AppX.one1 {P:Program} {b:Nat} {E:TypeId} {fz:Nat×Nat} {cs:List Value} (hb:w.heap[b]? =some (.cells cs.toArray E fz)) (hm:cs.length=m) (h1:cs.all Value.oneCell'=true):AppX P w m (vsl b 0 1 1) 1 cs:=by
 refine AppX.block (w0:=w) (L:= []) (by rw[Qm_];exact hb) (by simp;omega) ?_ h1 (Hp.refl w)
 rw[List.extract_toArray,List.extract_eq_take_drop,List.drop_zero,List.take_of_length_le (by omega)]
theorem SlV.appX {P:Program} (h:SlV m enc z w v l) (hm: ∀x,(enc x).length=m) (h1: ∀x,(enc x).all Value.oneCell'=true):AppX P w m v l.length (l.map enc).flatten:=by
 obtain⟨b,off,c,arr,E,fz,hr,hc,hv⟩:=h
 rcases hv with⟨rfl,rfl,rfl⟩ | ⟨rfl,hhas,hsz⟩
 ·exact AppX.nil P w m
 ·refine AppX.block (w0:=w) (L:= []) (by rw[Qm_];exact hhas) hsz (JF_ (z:=z) hm arr l off hsz (fun k j hk hj=>hr.get k hk j hj)) ?_ (Hp.refl w)
  rw[List.all_flatten,List.all_map,List.all_eq_true]
  exact fun r _=>h1 r
end
section
variable {P:Program} {w0:World} {f:Fr} {L:ze_} {N:Fr→ze_→Prop} {ops:Array Oper} {rest:List Oper} {md:Md}
 {d:Option Tmp} {ty:TypeId} {ps:String} {af:Array Edge} {g:Option (Nat×Bool)}
theorem Ow.appendG {ts tx e:TypeId} {m:Bool×Nat} {z:Value} {s x:Operand} {n k:Nat} {cs new:List Value} {dx:TypeDesc} {md':Md} (sv:Value) (hsv:ev f s=sv) (he:md.turn=some md')
  (hs:zn_ ops f ⟨d, .call ⟨.builtin .append, #[s,x], #[ts,tx]⟩,ty,ps,af,g⟩=false)
  (hu:P.underlying ts=some (.slice e)) (hm:z2_ P e=some m) (hi:k9_ P e=true) (hz:zE_ P e=some z) (hzs:z.cells.size=m.2) (hux:P.underlying tx=some dx) (hnx: ∀k,dx≠ .int k)
  (hB:Gr L e m.2 sv n cs) (hX: ∀w,Hp w0 L w→AppX P w m.2 (ev f x) k new) (hlen:new.length=k*m.2) (hbig:2* (n+k)+768≤2^38)
  (hn: ∀v' L',Gr L' e m.2 v' (n+k) (cs++new)→(0<k→Buf L' e m.2 v' (n+k) (cs++new))→Grew w0 sv L L'→(slB v'=slB sv∨ ∃c,slB v'=some c∧xB_ L c)→Ow P w0 ops md' rest (qC_ f d v') L' N):
  Ow P w0 ops md (⟨d, .call ⟨.builtin .append, #[s,x], #[ts,tx]⟩,ty,ps,af,g⟩::rest) f L N:=by
 rcases hB with hB| ⟨rfl,rfl,b,rfl,hlk⟩
 ·exact Ow.append sv hsv he hs hu hm hi hz hzs hux hnx hB hX hbig fun v' L' h1 h2 h3=>hn v' L' (.inl h1) (fun _=>h1) h2 h3
 ·refine Ow.appendEm hsv he hs hu hm hi hz hzs hux hnx hX hbig (fun h0=> ?_) (fun v' L' hk h1 h2 h3=> ?_)
  ·subst h0
   obtain rfl:new= []:=List.eq_nil_of_length_eq_zero (by rw[hlen,Nat.zero_mul])
   exact hn _ L (.inr ⟨rfl,rfl,b,rfl,hlk⟩) (fun h=>absurd h (Nat.lt_irrefl 0)) (Grew.refl _ _ _) (.inl rfl)
  ·exact hn v' L' (.inl h1) (fun _=>h1) (h2.any rfl) (.inr h3)
end
end Go.Sx
namespace Go.Sx
open Go
theorem aiy_ {w0:World} {L M:ze_} {r:Nat} (h:r∈keys L):zA_ w0 (L++M) r=zA_ w0 L r:=by
 obtain⟨o,ho⟩:=aaj_ h
 rw[z6_ ho,z6_ (qR_ ho)]
theorem qx_ {w0:World} {L M:ze_} {R:List Nat} (h: ∀r,r∈R→r∈keys L): ∀r,r∈R→zA_ w0 (L++M) r=zA_ w0 L r:=fun r hr=>aiy_ (h r hr)
theorem New.of_le {n:Nat}: ∀ {D:ze_},(∀c,c∈keys D→n≤c)→New n D
 | [],_=>trivial
 | (b,o)::r,h=>⟨h b (by simp[keys]),New.of_le fun c hc=>h c (by simp only[keys,List.map_cons,List.mem_cons] at hc ⊢;exact .inr hc)⟩
theorem w6_ {w0:World} {L M:ze_} {r:Nat} (h:r∉keys M):zA_ w0 (M++L) r=zA_ w0 L r:=by
 unfold zA_;rw[qJ_ h]
theorem Ext.new0 {w:World} {D:ze_} (h:Ext w [] D):New w.heap.size D:=by
 have hn:=h.new
 have key: ∀ (D:ze_),(∀c,c∈Sx.keys D→w.heap.size≤c)→New w.heap.size D:=by
  intro D
  induction D with
  |nil=>intro _;trivial
  |cons p r ih=>
   obtain⟨b,o⟩:=p
   intro hh
   exact⟨hh b (by simp[Sx.keys]),ih fun c hc=>hh c (by simp only[Sx.keys,List.map_cons,List.mem_cons] at hc ⊢;exact .inr hc)⟩
 refine key D fun c hc=> ?_
 rcases hn c hc with h1|h1
 ·cases h1
 ·exact h1
theorem Ext.of_new {w:World} {D:ze_} (h:New w.heap.size D):Ext w [] D:=⟨fun c hc=> .inr (h.le c hc),fun c hc=>by cases hc⟩
section
variable {P:Program} {w0:World} {f:Fr} {L:ze_} {N:Fr→ze_→Prop} {K:x2_} {ops:Array Oper} {rest:List Oper} {md:Md}
 {d:Option Tmp} {ty:TypeId} {ps:String} {af:Array Edge} {g:Option (Nat×Bool)}
theorem xA_ {b:Nat} {o:Obj}: ∀ {B:ze_},(keys B).Nodup→(b,o)∈B→look B b=some o
 | [],_,h=>by cases h
 | (c,x)::q,hn,h=>by
  simp only[keys,List.map_cons,List.nodup_cons] at hn
  unfold look
  rcases List.mem_cons.1 h with h|h
  ·cases h;rw[if_pos rfl]
  ·have:c≠b:=fun e=>hn.1 (e▸List.mem_map.2 ⟨_,h,rfl⟩)
   rw[if_neg this]
   exact xA_ hn.2 h
theorem SR.perm {R:List Nat} {M:ze_} (h:M.Perm L) (hn: (keys L).Nodup):SR w0 R M=SR w0 R L:=by
 refine Zc_ fun r _=> ?_
 have hk: ∀ (A B:ze_),A.Perm B→(keys B).Nodup→ ∀o,look A r=some o→look B r=some o:=fun A B hp hB o ho=>xA_ hB (hp.mem_iff.1 (zJ_ ho))
 have hnM: (keys M).Nodup:=(List.Perm.nodup_iff (h.map Prod.fst)).2 hn
 unfold zA_
 cases hl:look L r with
 |some o=>rw[hk L M h.symm hnM o hl]
 |none=>
  cases hm:look M r with
  |none=>rfl
  |some o=>rw[hk M L h hn o hm] at hl;cases hl
theorem OwD.permL {l:List Oper} {listed:List Bool} {n:Nat} {R ts:List Nat} {a d:Nat} {z:Obj} {M:ze_} (hp:M.Perm L) (h:OwD P w0 l R ts a d z n listed f M N):OwD P w0 l R ts a d z n listed f L N:=by
 refine⟨fun w hw=> ?_,fun b w hb hbL hw=> ?_⟩
 ·have:=h.1 w (hw.perm hp)
  rw[SR.perm hp hw.nodup] at this
  exact this
 ·have hnd: (keys L).Nodup:=by
   have:=hw.nodup
   rw[zk_,List.nodup_append] at this
   exact this.1
  have:=h.2 b w hb (fun hm=>hbL (by have:=(hp.map Prod.fst).mem_iff.1 hm;exact this)) (hw.perm (hp.append_right _))
  rw[SR.perm hp hnd] at this
  exact this
theorem Cw.permL {c:Code} {M:ze_} (hp:M.Perm L) (h:Cw P w0 c f M K):Cw P w0 c f L K:=fun w hw=>h w (hw.perm hp)
theorem Ow.permL {M:ze_} {l:List Oper} (hp:M.Perm L) (h:Ow P w0 ops .seq l f M N):Ow P w0 ops .seq l f L N:=fun w hw=>h w (hw.perm hp)
theorem Ow.callC {l:List Operand} {ts:Array TypeId} {k:FuncId} {S:Value→ze_→Prop} {md':Md} (he:md.turn=some md')
  (hs:zn_ ops f ⟨d, .call ⟨.value (.func k),l.toArray,ts⟩,ty,ps,af,g⟩=false)
  (hk: ∀a w,(callFunc k a).run P w= .ok (.enter k a) w)
  (hc: ∀w,Hp w0 L w→Rets P k (l.map (ev f)).toArray w (XS w [] S))
  (hn: ∀B v D,xB_ L B→w0.heap.size≤B→New B D→S v D→Ow P w0 ops md' rest (qC_ f d v) (L++D) N):
  Ow P w0 ops md (⟨d, .call ⟨.value (.func k),l.toArray,ts⟩,ty,ps,af,g⟩::rest) f L N:=
 Ow.callN he hs hk (S:=fun B v D=>New B D∧S v D) (fun w hw=>(hc w hw).mono fun _v _D h=>⟨h.1.new0,h.2⟩) (fun _ _ _ h=>h.1) (fun B v D hA hB hS=>hn B v D hA hB hS.1 hS.2)
theorem Hp.part {w:World} {X Y:ze_} (h:Hp w0 (X++Y) w):Hp w X w:=
 ⟨fun b o hm=>h.has b o (List.mem_append_left _ hm),by have:=h.nodup;rw[zk_,List.nodup_append] at this;exact this.1,fun _ _ _=>rfl,Nat.le_refl _,rfl,rfl,rfl⟩
theorem Hp.join {w w':World} {X Y D:ze_} (h:Hp w0 (X++Y) w) (k:Hp w D w') (h1: ∀c,c∈keys X→c∈keys D) (h2: ∀c,c∈keys D→c∈keys X∨w.heap.size≤c):Hp w0 (D++Y) w':=by
 have hnd:=h.nodup
 rw[zk_,List.nodup_append] at hnd
 have hY: ∀c,c∈keys Y→c∉keys D:=by
  intro c hc hd
  rcases h2 c hd with hx|hx
  ·exact hnd.2.2 c hx c hc rfl
  ·have:=h.lt (b:=c) (by rw[zk_];exact List.mem_append_right _ hc)
   omega
 have ht:=h.trans k
 have e: (X++Y).filter (fun p=> !(keys D).contains p.1)=Y:=by
  rw[List.filter_append,jw_ hY]
  have:X.filter (fun p=> !(keys D).contains p.1)= []:=by
   rw[List.filter_eq_nil_iff]
   intro p hp
   have:=h1 p.1 (List.mem_map.2 ⟨p,hp,rfl⟩)
   simp[this]
  rw[this,List.nil_append]
 rw[e] at ht
 exact ht.perm List.perm_append_comm
theorem Ow.appendX {ts tx e:TypeId} {m:Bool×Nat} {z:Value} {s x:Operand} {n k:Nat} {cs new:List Value} {dx:TypeDesc} {md':Md} {X Y:ze_} (sv:Value) (hL:L=X++Y) (hsv:ev f s=sv) (he:md.turn=some md')
  (hs:zn_ ops f ⟨d, .call ⟨.builtin .append, #[s,x], #[ts,tx]⟩,ty,ps,af,g⟩=false)
  (hu:P.underlying ts=some (.slice e)) (hm:z2_ P e=some m) (hi:k9_ P e=true) (hz:zE_ P e=some z) (hzs:z.cells.size=m.2) (hux:P.underlying tx=some dx) (hnx: ∀k,dx≠ .int k)
  (hB:Gr X e m.2 sv n cs) (hX: ∀w,Hp w0 L w→AppX P w m.2 (ev f x) k new) (hk:0<k) (hbig:2* (n+k)+768≤2^38)
  (hn: ∀B v' D,xB_ L B→w0.heap.size≤B→Buf D e m.2 v' (n+k) (cs++new)→(∀c,c∈keys X→c∈keys D)→(∀c,c∈keys D→c∈keys X∨B≤c)→(∀c o,slB sv≠some c→look X c=some o→look D c=some o)→Ow P w0 ops md' rest (qC_ f d v') (D++Y) N):
  Ow P w0 ops md (⟨d, .call ⟨.builtin .append, #[s,x], #[ts,tx]⟩,ty,ps,af,g⟩::rest) f L N:=by
 subst hL
 refine Ow.step he rfl hs fun w hw=> ?_
 have hp:=hw.part
 have hA:xB_ (X++Y) w.heap.size:=qu_ fun b hb=>hw.lt hb
 have fin: ∀v' w' D,(Builtin.append_ #[ts,tx] ty #[sv,ev f x]).run P w= .ok v' w'→Hp w D w'→Buf D e m.2 v' (n+k) (cs++new)→(∀c,c∈keys X→c∈keys D)→(∀c,c∈keys D→c∈keys X∨w.heap.size≤c)→(∀c o,slB sv≠some c→look X c=some o→look D c=some o)→
   (∃v w' L',(execOp (ev f) ⟨d, .call ⟨.builtin .append, #[s,x], #[ts,tx]⟩,ty,ps,af,g⟩).run P w= .ok (.value v) w'∧Hp w0 L' w'∧Ow P w0 ops md' rest (qC_ f d v) L' N):=by
  intro v' w' D hr hD hb h1 h2 h3
  refine⟨v',w',D++Y, ?_,hw.join hD h1 h2,hn w.heap.size v' D hA hw.size hb h1 h2 h3⟩
  simp only[execOp,resolve,Sem.run_bind,Sem.run_pure,Result.andThen_ok,invoke,builtin,List.map_toArray,List.map_cons,List.map_nil,hsv]
  rw[hr]
  rfl
 have hX': ∀w',Hp w [] w'→True:=fun _ _=>trivial
 rcases hB with hB| ⟨rfl,rfl,b,rfl,hlk⟩
 ·obtain⟨v',w',D,hr,hD,hb,hg,-⟩:=Jk_ (w0:=w) (L:=X) (ty:=ty) (x:=ev f x) hp hu hm hi hz hzs hux hnx hB (fun w2 hw2=>hX w2 (by
   refine hw.join hw2 (fun c hc=>hc) (fun c hc=> .inl hc))) hbig
  exact .inl (fin v' w' D hr hD hb hg.keys (fun c hc=>(hg.new c hc).imp id And.right) hg.look)
 ·rcases wW_ (w0:=w) (L:=X) (ty:=ty) (b:=b) (x:=ev f x) hp hu hm hi hz hzs hux hnx (fun w2 hw2=>hX w2 (by
   refine hw.join hw2 (fun c hc=>hc) (fun c hc=> .inl hc))) hbig with⟨h0,-⟩ | ⟨-,v',w',D,hr,hD,hb,hg,-⟩
  ·omega
  ·exact .inl (fin v' w' D hr hD hb hg.keys (fun c hc=>(hg.new c hc).imp id And.right) (fun c o _ hl=>hg.look c o (by simp[slB]) hl))
end
def GrI (D:ze_) (E:TypeId) (m:Nat) (v:Value) (n:Nat) (cs:List Value):Prop:= ∃X,(∀p,p∈X→p∈D)∧Gr X E m v n cs
theorem Gr.i {X D:ze_} {E:TypeId} {m n:Nat} {v:Value} {cs:List Value} (h:Gr X E m v n cs) (hX: ∀p,p∈X→p∈D):GrI D E m v n cs:=⟨X,hX,h⟩
theorem GrI.mono {D D':ze_} {E:TypeId} {m n:Nat} {v:Value} {cs:List Value} (h:GrI D E m v n cs) (hX: ∀p,p∈D→p∈D'):GrI D' E m v n cs:=by
 obtain⟨X,h1,h2⟩:=h;exact⟨X,fun p hp=>hX p (h1 p hp),h2⟩
theorem GrI.slV {α:Type} {m:Nat} {enc:α→List Value} {z:α} {w0 w:World} {v:Value} {l:List α} {D:ze_} {E:TypeId} {n:Nat} {cs:List Value} (h:GrI D E m v n cs) (hw:Hp w0 D w) (hl:l.length=n) (hcs:cs=(l.map enc).flatten) (hm: ∀x,(enc x).length=m):SlV m enc z w v l:=by
 obtain⟨X,h1,h2⟩:=h
 exact h2.slM (fun b o hm=>hw.has b o (h1 _ hm)) hl hcs hm
section
variable {P:Program} {w0:World} {f:Fr} {L:ze_} {N:Fr→ze_→Prop}
theorem aeH_ {L _M:ze_} {b:Nat} {o:Obj} (h:b∉keys L):look (L++ [(b,o)]) b=some o:=by
 rw[qJ_ h];exact zT_ _ _ _
theorem Wg_ {b:Nat} {o x:Obj}: ∀ {L:ze_},b∉keys L→setB (L++ [(b,o)]) b x=L++ [(b,x)]
 | [],_=>by rw[List.nil_append,j1_];rfl
 | (c,y)::r,h=>by
  simp only[keys,List.map_cons,List.mem_cons,not_or] at h
  rw[List.cons_append,jK_ _ _ _ _ _ (Ne.symm h.1),Wg_ (by simpa [keys] using h.2)];rfl
end
end Go.Sx
namespace Go.Sx
open Go
theorem zR_ {P:Program} {t e:TypeId} {m:Nat} {zc:Array Value} {cs:List Value} (hu:P.underlying t=some (.slice e)) (ha:z2_ P e=some (true,m)) (hz:zE_ P e=some (.agg zc)) (hm:0<m∧m≤16777216) (hc:cs.length=m):
  ZA_ P t 1 [(0, .agg cs.toArray)]=some (e,cs.toArray):=by
 have h2:Value.cells (.agg cs.toArray)=cs.toArray:=zc_ _
 have hg: ¬ (1*m>2^24):=by simp;omega
 have h0: ¬ (1*m=0):=by omega
 simp only[ZA_,hu,ha,hz,Option.map_some]
 rw[if_neg hg,if_neg h0]
 simp only
 generalize hI: (Array.range (1*m)).map (fun x=>(Value.cells (.agg zc))[x% (Value.cells (.agg zc)).size]!)=I
 have hIs:I.size=m:=by rw[←hI];simp
 have hfl:Instr.fill (fun i=>some (i*m,m)) I [(0,Value.agg cs.toArray)]=some cs.toArray:=by
  unfold Instr.fill
  have s3:cs.toArray.size=m:=by simp[hc]
  simp only[h2,s3,hIs,Nat.zero_mul,ne_eq,not_true_eq_false,decide_false,Bool.false_or,Nat.zero_add,Nat.lt_irrefl,gt_iff_lt,Bool.false_eq_true, ↓reduceIte]
  unfold Instr.fill
  congr 1
  have hz:=Ja_ cs 0 0 I
  rw[Nat.add_zero,ae7_ I cs (by rw[hc,hIs])] at hz
  simp only[Nat.zero_add] at hz
  rw[←Array.foldl_toList,Array.toList_zipIdx]
  exact hz
 rw[hfl]
 rfl
end Go.Sx
namespace Go.Sx
open Go
abbrev ltB (a b:List UInt8):Bool:=Op.bytesLess a b
theorem QA_: ∀ (x y:List UInt8),ltB x y=decide (x<y)
 | [],[]=>by simp[ltB,Op.bytesLess]
 |_::_,[]=>by simp[ltB,Op.bytesLess]
 | [],_::_=>by simp[ltB,Op.bytesLess]
 |a::x,b::y=>by
  have ih:=QA_ x y
  simp only[ltB] at ih ⊢
  rw[Op.bytesLess,ih]
  simp only[List.cons_lt_cons_iff]
  by_cases h1:a<b<;>by_cases h2:a=b<;>by_cases h3:x<y<;>simp[h1,h2,h3]
theorem Zb_ (a:List UInt8):ltB a a=false:=by
 rw[QA_];simp
theorem Kz_ {a b c:List UInt8} (h:ltB a b=true) (k:ltB b c=true):ltB a c=true:=by
 rw[QA_,decide_eq_true_eq] at*
 exact List.lt_trans h k
theorem XJ_ {a b:List UInt8} (h:ltB a b=true):ltB b a=false:=by
 cases hb:ltB b a
 ·rfl
 ·have:=Kz_ h hb
  rw[Zb_] at this;cases this
theorem apK_ {a b:List UInt8} (h:ltB a b=true):a≠b:=by
 rintro rfl
 rw[Zb_] at h;cases h
theorem Qq_ {a b:List UInt8} (h:ltB a b=false) (hne:a≠b):ltB b a=true:=by
 rw[QA_,decide_eq_false_iff_not] at h
 rw[QA_,decide_eq_true_eq]
 rcases Std.Trichotomous.rel_or_eq_or_rel_swap (r:=(· < · :List UInt8→List UInt8→Prop)) (a:=a) (b:=b) with h1|h1|h1
 ·exact absurd h1 h
 ·exact absurd h1 hne
 ·exact h1
end Go.Sx
namespace Go.StP
open Go Go.Sx
variable {α:Type} (key:α→List UInt8)
def lt (a b:α):Bool:=ltB (key a) (key b)
def Sorted (l:List α):Prop:=l.Pairwise fun a b=>lt key b a=false
def of (k:List UInt8) (l:List α):List α:=l.filter fun a=>key a==k
def St (l l':List α):Prop:= ∀k,of key k l'=of key k l
theorem St.refl (l:List α):St key l l:=fun _=>rfl
variable {key}
theorem St.trans {a b c:List α} (h:St key a b) (h':St key b c):St key a c:=fun k=>(h' k).trans (h k)
theorem St.symm {a b:List α} (h:St key a b):St key b a:=fun k=>(h k).symm
theorem afr_ (k:List UInt8) (a b:List α):of key k (a++b)=of key k a++of key k b:=List.filter_append ..
theorem St.app {a a' b b':List α} (h:St key a a') (h':St key b b'):St key (a++b) (a'++b'):=fun k=>by rw[afr_,afr_,h,h']
theorem anJ_ {k:List UInt8} {l:List α} {x:α}:x∈of key k l↔x∈l∧key x=k:=by
 unfold of;rw[List.mem_filter];simp
theorem St.mem {a b:List α} (h:St key a b) (x:α):x∈b↔x∈a:=by
 have e:=h (key x)
 have h1:x∈b↔x∈of key (key x) b:=by rw[anJ_];simp
 have h2:x∈a↔x∈of key (key x) a:=by rw[anJ_];simp
 rw[h1,h2,e]
theorem ajh_ {k:List UInt8} {l:List α} (h: ∀x,x∈l→key x≠k):of key k l= []:=by
 unfold of
 rw[List.filter_eq_nil_iff]
 intro x hx
 simpa using h x hx
theorem St.swap {a b:List α} (h: ∀x,x∈a→ ∀y,y∈b→key x≠key y):St key (a++b) (b++a):=by
 intro k
 rw[afr_,afr_]
 by_cases ha: ∃x,x∈a∧key x=k
 ·obtain⟨x,hx,rfl⟩:=ha
  have:of key (key x) b= []:=ajh_ fun y hy e=>h x hx y hy e.symm
  rw[this,List.append_nil,List.nil_append]
 ·have:of key k a= []:=ajh_ fun x hx e=>ha ⟨x,hx,e⟩
  rw[this,List.append_nil,List.nil_append]
theorem aoT_ {a b:α} (h:lt key a b=true):key a≠key b:=apK_ h
theorem lt_trans {a b c:α} (h:lt key a b=true) (k:lt key b c=true):lt key a c=true:=Kz_ h k
theorem aaf_ {a b:α} (h:lt key a b=true):lt key b a=false:=XJ_ h
theorem lt_irrefl (a:α):lt key a a=false:=Zb_ _
theorem ar2_ {a b:α} (h:lt key a b=false) (k:lt key b a=false):key a=key b:=by
 cases hk:decide (key a=key b)
 ·have hne:key a≠key b:=of_decide_eq_false hk
  have:=Qq_ h hne
  unfold lt at k
  rw[this] at k;cases k
 ·exact of_decide_eq_true hk
theorem Qn_ {a b c:α} (h:lt key b a=false) (k:lt key c b=false):lt key c a=false:=by
 cases hc:lt key c a
 ·rfl
 ·by_cases e:key b=key c
  ·unfold lt at*
   rw[e,hc] at h;cases h
  ·have h1:lt key b c=true:=by
    refine Qq_ ?_ (fun e'=>e e'.symm)
    exact k
   have:=lt_trans h1 hc
   rw[h] at this;cases this
theorem ZF_ {a b c:α} (h:lt key a b=true) (k:lt key c b=false):lt key a c=true:=by
 cases hc:lt key a c
 ·have:=Qn_ (key:=key) (a:=b) (b:=c) (c:=a) k hc
  rw[h] at this;cases this
 ·rfl
theorem KY_ {a b c:α} (h:lt key b a=false) (k:lt key b c=true):lt key a c=true:=by
 cases hc:lt key a c
 ·have:=Qn_ (key:=key) (a:=c) (b:=a) (c:=b) hc h
  rw[k] at this;cases this
 ·rfl
theorem St.head {a b:α} {l l':List α} (hs:Sorted key (a::l)) (hs':Sorted key (b::l')) (h:St key (a::l) (b::l')):a=b∧St key l l':=by
 have h1:lt key b a=false:=by
  have hb:b∈a::l:=(h.mem b).1 List.mem_cons_self
  rcases List.mem_cons.1 hb with rfl|hb
  ·exact lt_irrefl _
  ·exact(List.pairwise_cons.1 hs).1 b hb
 have h2:lt key a b=false:=by
  have ha:a∈b::l':=(h.mem a).2 List.mem_cons_self
  rcases List.mem_cons.1 ha with rfl|ha
  ·exact lt_irrefl _
  ·exact(List.pairwise_cons.1 hs').1 a ha
 have hk:key a=key b:=ar2_ h2 h1
 have he:=h (key a)
 unfold of at he
 rw[List.filter_cons,List.filter_cons,if_pos (by simp[hk]),if_pos (by simp)] at he
 have hab:b=a:=(List.cons.inj he).1
 refine⟨hab.symm,fun k=> ?_⟩
 have hk':=h k
 subst hab
 unfold of at hk' ⊢
 rw[List.filter_cons,List.filter_cons] at hk'
 split at hk'
 ·exact(List.cons.inj hk').2
 ·exact hk'
theorem St.eq: ∀ {l l':List α},Sorted key l→Sorted key l'→St key l l'→l=l'
 | [],[],_,_,_=>rfl
 | [],b::l',_,_,h=>by
  have:b∈ ([]:List α):=(h.mem b).1 List.mem_cons_self
  cases this
 |a::l,[],_,_,h=>by
  have:a∈ ([]:List α):=(h.mem a).2 List.mem_cons_self
  cases this
 |a::l,b::l',hs,hs',h=>by
  obtain⟨rfl,h'⟩:=St.head hs hs' h
  rw[St.eq (List.pairwise_cons.1 hs).2 (List.pairwise_cons.1 hs').2 h']
theorem Sorted.app {a b:List α} (ha:Sorted key a) (hb:Sorted key b) (h: ∀x,x∈a→ ∀y,y∈b→lt key y x=false):Sorted key (a++b):=
 List.pairwise_append.2 ⟨ha,hb,h⟩
theorem Sorted.left {a b:List α} (h:Sorted key (a++b)):Sorted key a:=(List.pairwise_append.1 h).1
theorem Sorted.right {a b:List α} (h:Sorted key (a++b)):Sorted key b:=(List.pairwise_append.1 h).2.1
theorem Sorted.cross {a b:List α} (h:Sorted key (a++b)): ∀x,x∈a→ ∀y,y∈b→lt key y x=false:=(List.pairwise_append.1 h).2.2
theorem agv_ {a b:List α} {x:α} (h:Sorted key (a++b)) (hb: ∀y,y∈b→lt key x y=true) (ha: ∀y,y∈a→lt key x y=false):Sorted key (a++x::b)∧St key (a++b++ [x]) (a++x::b):=by
 refine⟨Sorted.app h.left (List.pairwise_cons.2 ⟨fun y hy=>aaf_ (hb y hy),h.right⟩) ?_, ?_⟩
 ·intro y hy z hz
  rcases List.mem_cons.1 hz with rfl|hz
  ·exact ha y hy
  ·exact h.cross y hy z hz
 ·rw[List.append_assoc]
  refine St.app (St.refl key a) ?_
  exact St.swap (a:=b) (b:= [x]) fun y hy z hz=>by
   rw[List.mem_singleton] at hz
   subst hz
   exact fun e=>aoT_ (hb y hy) e.symm
end Go.StP
namespace Go.Sx
open Go
section
variable {α:Type} (enc:α→List Value)
def rowO (E:TypeId) (rest:List Value) (d:List α):Obj:= .cells ((d.map enc).flatten++rest).toArray E (0,0)
variable {enc} {m:Nat} {E:TypeId} {rest:List Value} {d:List α} {z:α}
theorem aaR_ (hm: ∀x,(enc x).length=m) {k:Nat} (hk:k<d.length): ∃A C,(d.map enc).flatten++rest=A++ (enc (d.getD k z)++C)∧A.length=k*m∧ ∀x,((d.set k x).map enc).flatten++rest=A++ (enc x++C):=by
 refine⟨((d.take k).map enc).flatten,((d.drop (k+1)).map enc).flatten++rest, ?_, ?_,fun x=> ?_⟩
 ·have e:d=d.take k++d.getD k z::d.drop (k+1):=by
   rw[List.getD_eq_getElem?_getD,List.getElem?_eq_getElem hk,Option.getD_some,List.getElem_cons_drop,List.take_append_drop]
  have e2:=congrArg (fun l=>(l.map enc).flatten++rest) e
  simp only[List.map_append,List.map_cons,List.flatten_append,List.flatten_cons,List.append_assoc] at e2
  exact e2
 ·rw[WX_ hm,List.length_take,Nat.min_eq_left (Nat.le_of_lt hk)]
 ·have e:d.set k x=d.take k++x::d.drop (k+1):=List.set_eq_take_append_cons_drop.trans (by rw[if_pos hk])
  rw[e]
  simp only[List.map_append,List.map_cons,List.flatten_append,List.flatten_cons,List.append_assoc]
theorem afQ_ (hm: ∀x,(enc x).length=m) (k:Nat) (hk:k<d.length):zs_ (some (true,m)) (some (rowO enc E rest d)) (k*m)=some (.agg (enc (d.getD k z)).toArray):=by
 obtain⟨A,C,e,hA,-⟩:=aaR_ (z:=z) (rest:=rest) hm hk
 unfold rowO
 rw[e]
 exact Zi_ A _ C E (0,0) hA (hm _)
theorem ab7_ (hm: ∀x,(enc x).length=m) (h1: ∀x,(enc x).all Value.oneCell'=true) (k:Nat) (x:α) (a:Bool) (hk:k<d.length):
  zl_ (some (a,m)) (some (rowO enc E rest d)) (k*m) (.agg (enc x).toArray)=some (rowO enc E rest (d.set k x)):=by
 obtain⟨A,C,e,hA,e2⟩:=aaR_ (z:=x) (rest:=rest) hm hk
 unfold rowO
 rw[e,e2 x]
 exact zS_ A _ _ C a _ E hA (hm _) (zc_ _) (hm _) (h1 _)
end
section
variable {P:Program} {w0:World} {f:Fr} {L:ze_} {N:Fr→ze_→Prop} {ops:Array Oper} {rest:List Oper} {md:Md} {d:Option Tmp} {ty:TypeId} {ps:String} {af:Array Edge} {g:Option (Nat×Bool)}
theorem Ow.callFn2 {x y y2:Operand} {ts:Array TypeId} {k:FuncId} {v a a2:Value} (hs:zn_ ops f ⟨d, .call ⟨.value x, #[y,y2],ts⟩,ty,ps,af,g⟩=false) (hx:ev f x= .func (.func k) #[] #[]) (hy:ev f y=a) (hy2:ev f y2=a2)
  (hk: ∀a w,(callFunc k a).run P w= .ok (.enter k a) w) (hc: ∀w,Hp w0 L w→Rets P k #[a,a2] w (fun v' D=>v'=v∧D= [])) (hn:Ow P w0 ops md.next rest (qC_ f d v) L N):
  Ow P w0 ops md (⟨d, .call ⟨.value x, #[y,y2],ts⟩,ty,ps,af,g⟩::rest) f L N:=
 Ow.callV hs hx hk (fun w hw=>by simpa [hy,hy2] using hc w hw) hn
end
end Go.Sx
namespace Go.StP
open Go Go.Sx
variable {α:Type} {key:α→List UInt8} {z:α}
theorem jL_ {a b:List α} {k:Nat} (h:k<a.length): (a++b).getD k z=a.getD k z:=by
 rw[List.getD_eq_getElem?_getD,List.getD_eq_getElem?_getD,List.getElem?_append_left h]
theorem qy_ {a b:List α} {k:Nat} (h:a.length≤k): (a++b).getD k z=b.getD (k - a.length) z:=by
 rw[List.getD_eq_getElem?_getD,List.getD_eq_getElem?_getD,List.getElem?_append_right h]
theorem Ql_ {l:List α} {k:Nat} (h:k<l.length):l.getD k z∈l:=by
 rw[List.getD_eq_getElem?_getD,List.getElem?_eq_getElem h];exact List.getElem_mem h
theorem w5_ {l:List α} {x:α} (h:x∈l): ∃k,k<l.length∧l.getD k z=x:=by
 obtain⟨k,hk,rfl⟩:=List.mem_iff_getElem.1 h
 exact⟨k,hk,by rw[List.getD_eq_getElem?_getD,List.getElem?_eq_getElem hk];rfl⟩
theorem wN_ {l:List α} {k n:Nat} (h:k<n): (l.take n).getD k z=l.getD k z:=by
 rw[List.getD_eq_getElem?_getD,List.getD_eq_getElem?_getD,List.getElem?_take,if_pos h]
theorem Qd_ {l:List α} {k n:Nat}: (l.drop n).getD k z=l.getD (n+k) z:=by
 rw[List.getD_eq_getElem?_getD,List.getD_eq_getElem?_getD,List.getElem?_drop]
theorem jA_ {l:List α} {k:Nat} (h:k<l.length):l.drop k=l.getD k z::l.drop (k+1):=by
 rw[List.getD_eq_getElem?_getD,List.getElem?_eq_getElem h]
 exact List.drop_eq_getElem_cons h
theorem take_snoc {l:List α} {k:Nat} (h:k<l.length):l.take (k+1)=l.take k++ [l.getD k z]:=by
 rw[List.getD_eq_getElem?_getD,List.getElem?_eq_getElem h]
 exact List.take_succ_eq_append_getElem h
theorem Sorted.at_ {l:List α} (h:Sorted key l) {i j:Nat} (hij:i≤j) (hj:j<l.length):lt key (l.getD j z) (l.getD i z)=false:=by
 rcases Nat.lt_or_eq_of_le hij with h1|rfl
 ·have:=List.pairwise_iff_getElem.1 h i j (by omega) hj h1
  rw[List.getD_eq_getElem?_getD,List.getD_eq_getElem?_getD,List.getElem?_eq_getElem hj,List.getElem?_eq_getElem (show i<l.length by omega)]
  exact this
 ·exact lt_irrefl _
theorem Sorted.take_lt {l:List α} (h:Sorted key l) {k:Nat} {x:α} (hk:k≤l.length) (hx:k=0∨lt key (l.getD (k - 1) z) x=true): ∀y,y∈l.take k→lt key y x=true:=by
 intro y hy
 obtain⟨i,hi,rfl⟩:=w5_ (z:=z) hy
 rw[List.length_take,Nat.min_eq_left hk] at hi
 rw[wN_ hi]
 rcases hx with rfl|hx
 ·omega
 ·exact KY_ (h.at_ (by omega) (by omega)) hx
theorem Sorted.take_le {l:List α} (h:Sorted key l) {k:Nat} {x:α} (hk:k≤l.length) (hx:k=0∨lt key x (l.getD (k - 1) z)=false): ∀y,y∈l.take k→lt key x y=false:=by
 intro y hy
 obtain⟨i,hi,rfl⟩:=w5_ (z:=z) hy
 rw[List.length_take,Nat.min_eq_left hk] at hi
 rw[wN_ hi]
 rcases hx with rfl|hx
 ·omega
 ·exact Qn_ (h.at_ (by omega) (by omega)) hx
theorem Sorted.drop_gt {l:List α} (h:Sorted key l) {k:Nat} {x:α} (hx:l.length≤k∨lt key x (l.getD k z)=true): ∀y,y∈l.drop k→lt key x y=true:=by
 intro y hy
 obtain⟨i,hi,rfl⟩:=w5_ (z:=z) hy
 rw[List.length_drop] at hi
 rw[Qd_]
 rcases hx with hx|hx
 ·omega
 ·exact ZF_ hx (h.at_ (by omega) (by omega))
theorem Sorted.drop_ge {l:List α} (h:Sorted key l) {k:Nat} {x:α} (hx:l.length≤k∨lt key (l.getD k z) x=false): ∀y,y∈l.drop k→lt key y x=false:=by
 intro y hy
 obtain⟨i,hi,rfl⟩:=w5_ (z:=z) hy
 rw[List.length_drop] at hi
 rw[Qd_]
 rcases hx with hx|hx
 ·omega
 ·exact Qn_ hx (h.at_ (by omega) (by omega))
theorem ajU_ {a c:List α} (u v:α) {i:Nat} (h:i=a.length): ((a++u::v::c).set i v).set (i+1) u=a++v::u::c:=by
 subst h
 rw[List.set_append_right _ _ (Nat.le_refl _),Nat.sub_self,List.set_cons_zero,List.set_append_right _ _ (by omega),show a.length+1 - a.length=1 by omega]
 rfl
theorem at_0 {a c:List α} (u:α) {i:Nat} (h:i=a.length): (a++u::c).getD i z=u:=by
 subst h
 rw[qy_ (Nat.le_refl _),Nat.sub_self];rfl
theorem at_1 {a c:List α} (u v:α) {i:Nat} (h:i=a.length+1): (a++u::v::c).getD i z=v:=by
 subst h
 rw[qy_ (by omega),show a.length+1 - a.length=1 by omega];rfl
def q3_ (a s:List α) (x:α) (b:List α) (k:Nat):List α:=a++ (s.take k++ (x:: (s.drop k++b)))
theorem wY_ (a s:List α) (x:α) (b:List α) (k:Nat): (q3_ a s x b k).length=a.length+s.length+1+b.length:=by
 unfold q3_;simp only[List.length_append,List.length_cons,List.length_take,List.length_drop];omega
theorem Ji_ {a s:List α} {x:α} {b:List α} {k i:Nat} (hk:k≤s.length) (h:i=a.length+k): (q3_ a s x b k).getD i z=x:=by
 unfold q3_
 rw[←List.append_assoc]
 exact at_0 x (by simp only[List.length_append,List.length_take];omega)
theorem ac7_ {a s:List α} {x:α} {b:List α} {k i:Nat} (hk:k<s.length) (h:i=a.length+k): (q3_ a s x b (k+1)).getD i z=s.getD k z:=by
 unfold q3_
 rw[take_snoc (z:=z) hk,List.append_assoc,List.singleton_append,←List.append_assoc]
 exact at_0 _ (by simp only[List.length_append,List.length_take];omega)
theorem aoF_ {a s:List α} {x:α} {b:List α} {k i:Nat} (hk:k<s.length) (h:i=a.length+k+1): (q3_ a s x b k).getD i z=s.getD k z:=by
 unfold q3_
 rw[jA_ (z:=z) hk,←List.append_assoc,List.cons_append]
 exact at_1 x _ (by simp only[List.length_append,List.length_take];omega)
theorem anm_ {a s:List α} {x:α} {b:List α} {k h i:Nat} (hh:h<k) (hk:k≤s.length) (e:i=a.length+h): (q3_ a s x b k).getD i z=s.getD h z:=by
 subst e
 unfold q3_
 rw[qy_ (by omega),Nat.add_sub_cancel_left,jL_ (by rw[List.length_take];omega),wN_ hh]
theorem ami_ {a s:List α} {x:α} {b:List α} {k h i:Nat} (hh:k≤h) (hk:h<s.length) (e:i=a.length+1+h): (q3_ a s x b k).getD i z=s.getD h z:=by
 subst e
 unfold q3_
 rw[qy_ (by omega),qy_ (by rw[List.length_take];omega),List.length_take,show a.length+1+h - a.length - min k s.length=(h - k)+1 by omega,List.getD_cons_succ,jL_ (by rw[List.length_drop];omega),Qd_,show k+ (h - k)=h by omega]
theorem V8_ {a s:List α} {x:α} {b:List α} {k i:Nat} (hk:k<s.length) (h:i=a.length+k): ((q3_ a s x b (k+1)).set i x).set (i+1) (s.getD k z)=q3_ a s x b k:=by
 unfold q3_
 rw[take_snoc (z:=z) hk,jA_ (z:=z) hk,List.append_assoc,List.singleton_append,←List.append_assoc,←List.append_assoc]
 rw[ajU_ _ _ (by simp only[List.length_append,List.length_take];omega),List.cons_append]
theorem alL_ {a s:List α} {x:α} {b:List α} {k i:Nat} (hk:k<s.length) (h:i=a.length+k): ((q3_ a s x b k).set i (s.getD k z)).set (i+1) x=q3_ a s x b (k+1):=by
 unfold q3_
 rw[take_snoc (z:=z) hk,jA_ (z:=z) hk,List.append_assoc,List.singleton_append,←List.append_assoc,←List.append_assoc,List.cons_append]
 rw[ajU_ _ _ (by simp only[List.length_append,List.length_take];omega)]
theorem aaZ_ {l:List α} {i j:Nat} (h:i≠j) (u v:α): (l.set i u).set j v=(l.set j v).set i u:=List.set_comm _ _ h
theorem abG_ (a s:List α) (x:α) (b:List α) {k:Nat} (h:s.length≤k):q3_ a s x b k=a++ ((s++ [x])++b):=by
 unfold q3_
 rw[List.take_of_length_le h,List.drop_eq_nil_of_le h,List.nil_append,List.append_assoc,List.singleton_append]
theorem agf_ (a s:List α) (x:α) (b:List α):q3_ a s x b 0=a++ (([x]++s)++b):=by
 unfold q3_;rfl
theorem Qg_ (a s:List α) (x:α) (b:List α) (k:Nat):q3_ a s x b k=a++ ((s.take k++x::s.drop k)++b):=by
 unfold q3_
 rw[List.append_assoc,List.cons_append]
theorem wn_ {s:List α} {x:α} {k:Nat} (hs:Sorted key s) (hk:k≤s.length) (h1:k=0∨lt key x (s.getD (k - 1) z)=false) (h2:s.length≤k∨lt key x (s.getD k z)=true):
  Sorted key (s.take k++x::s.drop k)∧St key (s++ [x]) (s.take k++x::s.drop k):=by
 have:=agv_ (a:=s.take k) (b:=s.drop k) (x:=x) (by rw[List.take_append_drop];exact hs) (hs.drop_gt h2) (hs.take_le hk h1)
 rwa [List.take_append_drop] at this
theorem WW_ {s:List α} {x:α} {k:Nat} (hs:Sorted key s) (hk:k≤s.length) (h1:k=0∨lt key (s.getD (k - 1) z) x=true) (h2:s.length≤k∨lt key (s.getD k z) x=false):
  Sorted key (s.take k++x::s.drop k)∧St key ([x]++s) (s.take k++x::s.drop k):=by
 have ht:=hs.take_lt hk h1
 have hd:=hs.drop_ge h2
 have hs':Sorted key (s.take k++s.drop k):=by rw[List.take_append_drop];exact hs
 refine⟨Sorted.app hs'.left (List.pairwise_cons.2 ⟨fun y hy=>hd y hy,hs'.right⟩) ?_, ?_⟩
 ·intro y hy w hw
  rcases List.mem_cons.1 hw with rfl|hw
  ·exact aaf_ (ht y hy)
  ·exact hs'.cross y hy w hw
 ·have e: [x]++s=([x]++s.take k)++s.drop k:=by rw[List.append_assoc,List.take_append_drop]
  rw[e,show s.take k++x::s.drop k=(s.take k++ [x])++s.drop k by simp]
  refine St.app (St.swap fun y hy w hw=> ?_) (St.refl key _)
  rw[List.mem_singleton] at hy
  subst hy
  exact fun e=>aoT_ (ht w hw) e.symm
theorem aiA_ {l r:List α} {i j:Nat} {x1 x2:List α} (hl:Sorted key l) (hr:Sorted key r) (hi:i≤l.length) (hj:j≤r.length)
  (h1:j=0∨l.length≤i∨lt key (r.getD (j - 1) z) (l.getD i z)=true) (h2:i=0∨r.length≤j∨lt key (r.getD j z) (l.getD (i - 1) z)=false)
  (s1:Sorted key x1) (t1:St key (l.take i++r.take j) x1) (s2:Sorted key x2) (t2:St key (l.drop i++r.drop j) x2):Sorted key (x1++x2)∧St key (l++r) (x1++x2):=by
 have hl':Sorted key (l.take i++l.drop i):=by rw[List.take_append_drop];exact hl
 have hr':Sorted key (r.take j++r.drop j):=by rw[List.take_append_drop];exact hr
 have ha: ∀x,x∈r.take j→ ∀y,y∈l.drop i→lt key x y=true:=by
  intro x hx y hy
  rcases h1 with rfl|h1|h1
  ·cases hx
  ·rw[List.drop_eq_nil_of_le h1] at hy;cases hy
  ·have:=hr.take_lt (k:=j) (x:=l.getD i z) hj (.inr h1) x hx
   obtain⟨k,hk,rfl⟩:=w5_ (z:=z) hy
   rw[List.length_drop] at hk
   rw[Qd_]
   exact ZF_ this (hl.at_ (by omega) (by omega))
 have hb: ∀x,x∈l.take i→ ∀y,y∈r.drop j→lt key y x=false:=by
  intro x hx y hy
  rcases h2 with rfl|h2|h2
  ·cases hx
  ·rw[List.drop_eq_nil_of_le h2] at hy;cases hy
  ·have:=hr.drop_ge (k:=j) (x:=l.getD (i - 1) z) (.inr h2) y hy
   obtain⟨k,hk,rfl⟩:=w5_ (z:=z) hx
   rw[List.length_take,Nat.min_eq_left hi] at hk
   rw[wN_ hk]
   exact Qn_ (hl.at_ (by omega) (by omega)) this
 refine⟨Sorted.app s1 s2 fun x hx y hy=> ?_, ?_⟩
 ·rw[t1.mem,List.mem_append] at hx
  rw[t2.mem,List.mem_append] at hy
  rcases hx with hx|hx<;>rcases hy with hy|hy
  ·exact hl'.cross x hx y hy
  ·exact hb x hx y hy
  ·exact aaf_ (ha x hx y hy)
  ·exact hr'.cross x hx y hy
 ·have e:l++r=l.take i++ ((l.drop i++r.take j)++r.drop j):=by
   rw[List.append_assoc,List.take_append_drop,←List.append_assoc,List.take_append_drop]
  rw[e]
  refine St.trans (b:=l.take i++ ((r.take j++l.drop i)++r.drop j)) (St.app (St.refl key _) (St.app (St.swap fun x hx y hy e=>aoT_ (ha y hy x hx) e.symm) (St.refl key _))) ?_
  rw[show l.take i++ ((r.take j++l.drop i)++r.drop j)=(l.take i++r.take j)++ (l.drop i++r.drop j) by simp only[List.append_assoc]]
  exact St.app t1 t2
end Go.StP
section
open Go Go.Proofs Go.Sx Go.StP
namespace Go.Proofs
set_option maxRecDepth 10000
set_option maxHeartbeats 4000000
set_option linter.unusedSimpArgs false
structure EntL where
 name:List UInt8
 kind:Int
 id:IdL
def qQ_ (r:EntL):List Value:= [vs r.name]++ ([vi r.kind]++ (r.id.l.map v8))
def jQ_:EntL:=⟨[],0,id0⟩
theorem qT_ (r:EntL): (qQ_ r).length=34:=by simp[qQ_,r.id.h]
theorem qr_ (r:EntL):Value.cells (.agg (qQ_ r).toArray)=(qQ_ r).toArray:=zc_ _
theorem JX_ (r:EntL): (qQ_ r).all Value.oneCell'=true:=by
 unfold qQ_
 simp only[List.all_append,List.all_cons,List.all_nil,Kb_,Bool.and_true,Bool.true_and]
 rfl
theorem WK_:zE_ Tryz.prog 268=some (.agg (qQ_ jQ_).toArray):=id (by kernel_rfl)
theorem afN_:z2_ Tryz.prog 268=some (true,34):=id (by kernel_rfl)
theorem KM_ (r:EntL):qQ_ r=([]:List Value)++ (([vs r.name])++ ([vi r.kind]++ (r.id.l.map v8))):=by
 unfold qQ_;simp only[List.append_assoc,List.nil_append,List.append_nil]
theorem aqU_ (r:EntL):partV (false,1) (qQ_ r).toArray 0=some (vs r.name):=by
 rw[KM_];exact aeY_ _ _ _ (by simp)
theorem vG_ (r:EntL) (n:Nat) (E:TypeId) (fz:Nat×Nat):zs_ (some (false,n)) (some (.cells (qQ_ r).toArray E fz)) 0=some (vs r.name):=by
 rw[KM_];exact kg_ _ _ _ n E fz (by simp)
theorem QP_ {w:World} {v:Value} {l:List EntL} {b off:Nat} {arr:Array Value} {E:TypeId} {fz:Nat×Nat} (h:RowS 34 qQ_ jQ_ w v l b off arr E fz) {k:Nat} (hk:k<l.length) (n:Nat):zs_ (some (false,n)) (some (.cells arr E fz)) (off+k*34+0)=some (vs (l.getD k jQ_).name):=by
 rw[RowS.cell h hk (by omega)];generalize l.getD k jQ_=r;rw[KM_];exact JS_ _ _ _ (by simp)
theorem VP_ (r:EntL) (x:List UInt8) (a:Bool) (E:TypeId):zl_ (some (a,1)) (some (.cells (qQ_ r).toArray E (0,0))) 0 (vs x)=some (.cells (qQ_ {r with name:=x}).toArray E (0,0)):=by
 rw[KM_ r,KM_ {r with name:=x}];exact zS_ _ _ _ _ a _ E (by simp) rfl (rfl) rfl (rfl)
theorem Xw_ (r:EntL):qQ_ r=(([vs r.name]))++ (([vi r.kind])++ (r.id.l.map v8)):=by
 unfold qQ_;simp only[List.append_assoc,List.nil_append,List.append_nil]
theorem aqh_ (r:EntL):partV (false,1) (qQ_ r).toArray 1=some (vi r.kind):=by
 rw[Xw_];exact aeY_ _ _ _ (by simp)
theorem wF_ (r:EntL) (n:Nat) (E:TypeId) (fz:Nat×Nat):zs_ (some (false,n)) (some (.cells (qQ_ r).toArray E fz)) 1=some (vi r.kind):=by
 rw[Xw_];exact kg_ _ _ _ n E fz (by simp)
theorem afn_ {w:World} {v:Value} {l:List EntL} {b off:Nat} {arr:Array Value} {E:TypeId} {fz:Nat×Nat} (h:RowS 34 qQ_ jQ_ w v l b off arr E fz) {k:Nat} (hk:k<l.length) (n:Nat):zs_ (some (false,n)) (some (.cells arr E fz)) (off+k*34+1)=some (vi (l.getD k jQ_).kind):=by
 rw[RowS.cell h hk (by omega)];generalize l.getD k jQ_=r;rw[Xw_];exact JS_ _ _ _ (by simp)
theorem VL_ (r:EntL) (x:Int) (a:Bool) (E:TypeId):zl_ (some (a,1)) (some (.cells (qQ_ r).toArray E (0,0))) 1 (vi x)=some (.cells (qQ_ {r with kind:=x}).toArray E (0,0)):=by
 rw[Xw_ r,Xw_ {r with kind:=x}];exact zS_ _ _ _ _ a _ E (by simp) rfl (rfl) rfl (rfl)
theorem XD_ (r:EntL):qQ_ r=(([vs r.name])++ ([vi r.kind]))++ ((r.id.l.map v8)++ (([]:List Value))):=by
 unfold qQ_;simp only[List.append_assoc,List.nil_append,List.append_nil]
theorem aqg_ (r:EntL):partV (true,32) (qQ_ r).toArray 2=some (Value.agg (a8 r.id.l)):=by
 rw[XD_,alQ_ _ _ _ (by simp) (by simp[r.id.h])];rfl
theorem w1_ (r:EntL) (E:TypeId) (fz:Nat×Nat):zs_ (some (true,32)) (some (.cells (qQ_ r).toArray E fz)) 2=some (Value.agg (a8 r.id.l)):=by
 rw[XD_,Zi_ _ _ _ E fz (by simp) (by simp[r.id.h])];rfl
theorem aqq_ (r:EntL): (qQ_ r).toArray.extract 2 34=a8 r.id.l:=by
 rw[XD_];exact Wk_ (o:=2) (n:=32) _ _ _ (by simp) (by simp[r.id.h])
theorem am9_ {w:World} {v:Value} {l:List EntL} {b off:Nat} {arr:Array Value} {E:TypeId} {fz:Nat×Nat} (h:RowS 34 qQ_ jQ_ w v l b off arr E fz) {k:Nat} (hk:k<l.length):zs_ (some (true,32)) (some (.cells arr E fz)) (off+k*34+2)=some (Value.agg (a8 (l.getD k jQ_).id.l)):=by
 rw[RowS.part h qT_ hk (by omega) (by omega),aqq_]
theorem VW_ (r:EntL) (x:IdL) (a:Bool) (E:TypeId):zl_ (some (a,32)) (some (.cells (qQ_ r).toArray E (0,0))) 2 (Value.agg (a8 x.l))=some (.cells (qQ_ {r with id:=x}).toArray E (0,0)):=by
 rw[XD_ r,XD_ {r with id:=x}];exact zS_ _ _ _ _ a _ E (by simp) (by simp[r.id.h]) (zc_ _) (by simp[x.h]) (Kb_ _)
theorem jC_ (r:EntL) (E:TypeId) (fz:Nat×Nat):zs_ (some (true,34)) (some (.cells (qQ_ r).toArray E fz)) 0=some (.agg (qQ_ r).toArray):=v5_ _ E fz 34 (by rw[List.size_toArray,qT_])
theorem akE_ (old:Array Value) (r:EntL) (a:Bool) (E:TypeId) (h:old.size=34):zl_ (some (a,34)) (some (.cells old E (0,0))) 0 (.agg (qQ_ r).toArray)=some (.cells (qQ_ r).toArray E (0,0)):=kK_ _ a old E (qT_ r) (JX_ r) h
theorem ql_ (r r':EntL) (a:Bool) (E:TypeId):zl_ (some (a,34)) (some (.cells (qQ_ r').toArray E (0,0))) 0 (.agg (qQ_ r).toArray)=some (.cells (qQ_ r).toArray E (0,0)):=akE_ _ r a E (by rw[List.size_toArray,qT_])
theorem apw_ {w:World} {v:Value} {l:List EntL} {b off:Nat} {arr:Array Value} {E:TypeId} {fz:Nat×Nat} (h:RowS 34 qQ_ jQ_ w v l b off arr E fz) {k:Nat} (hk:k<l.length):zs_ (some (true,34)) (some (.cells arr E fz)) (off+k*34)=some (.agg (qQ_ (l.getD k jQ_)).toArray):=RowS.load h qT_ (by omega) hk
theorem amI_:Tryz.prog.stoodInHeld 268=false:=by kernel_rfl
theorem alT_:Tryz.prog.eqGuardType Tryz.prog.depth 268=false:=by kernel_rfl
theorem apJ_ (r r':EntL):eqD Tryz.prog 8 268 (.agg (qQ_ r).toArray) (.agg (qQ_ r').toArray)=some ((r.name==r'.name)&& (r.kind==r'.kind)&& (r.id.l==r'.id.l)):=by
 have hs: ∀ (a b:List UInt8),eqD Tryz.prog 7 9 (vs a) (vs b)=some (a==b):=by
  intro a b;unfold eqD;rw[Tryz.underlying9];simp only[vs,ae5_]
 have hi: ∀ (a b:Int),eqD Tryz.prog 7 3 (vi a) (vi b)=some (a==b):=by
  intro a b;unfold eqD;rw[Tryz.underlying3];rfl
 have hd: ∀ (a b:IdL),eqD Tryz.prog 7 37 (.agg (a8 a.l)) (.agg (a8 b.l))=some (a.l==b.l):=fun a b=>ajG_ (d:=5) Tryz.underlying37 Tryz.underlying5 Tryz.ag5 _ _ a.h b.h
 have ags:z2_ Tryz.prog 9=some (false,1):=id (by kernel_rfl)
 have agi:z2_ Tryz.prog 3=some (false,1):=id (by kernel_rfl)
 have agd:z2_ Tryz.prog 37=some (true,32):=id (by kernel_rfl)
 unfold eqD
 rw[Tryz.underlying268]
 simp only
 rw[amI_]
 simp only[Bool.false_eq_true, ↓reduceIte,kz_,va_,ags,agi,agd,aqU_,aqh_,aqg_,hs,hi,hd]
 cases(r.name==r'.name)<;>cases(r.kind==r'.kind)<;>cases(r.id.l==r'.id.l)<;>simp
theorem aru_ (r r':EntL):qO_ Tryz.prog .neq 268 (.agg (qQ_ r).toArray) (.agg (qQ_ r').toArray)=some (.bool (!((r.name==r'.name)&& (r.kind==r'.kind)&& (r.id.l==r'.id.l)))):=by
 unfold qO_ eqX;rw[alT_];simp[qH_,apJ_]
def cmpS (a b:List UInt8):Int:=if ltB a b then -1 else if ltB b a then 1 else 0
theorem apB_ (a b:List UInt8): (!(Op.bytesLess a b||a==b))=ltB b a:=by
 cases h:ltB a b
 ·have h':Op.bytesLess a b=false:=h
  rw[h',Bool.false_or]
  by_cases e:a=b
  ·subst e;rw[h];simp
  ·rw[Qq_ h e];simp[e]
 ·have h':Op.bytesLess a b=true:=h
  rw[h',XJ_ h];rfl
set_option linter.defProp false
def as1_:=And.intro (@vG_) (@qr_)
def cmpE (a b:EntL):Int:=cmpS a.name b.name
end Go.Proofs
end
section
open Go Go.Proofs Go.Sx Go.StP
namespace Go.Proofs
set_option maxRecDepth 10000
set_option maxHeartbeats 4000000
set_option linter.unusedSimpArgs false
def swp {α:Type} (a x m y c:List α) (i:Nat):List α:=a++ ((y.take i++x.drop i)++ (m++ ((x.take i++y.drop i)++c)))
section
variable {α:Type} {a x m y c:List α} {i k:Nat} {z:α}
theorem apq_ (hx:x.length=k) (hy:y.length=k) (hi:i≤k): (swp a x m y c i).length=a.length+k+m.length+k+c.length:=by
 unfold swp;simp only[List.length_append,List.length_take,List.length_drop];omega
theorem arH_ (hx:x.length=k) (hy:y.length=k) (hi:i<k) {n:Nat} (hn:n=a.length+i): (swp a x m y c i).getD n z=x.getD i z:=by
 subst hn
 unfold swp
 rw[jA_ (z:=z) (l:=x) (by omega),List.append_assoc,List.cons_append,←List.append_assoc]
 exact at_0 _ (by simp only[List.length_append,List.length_take];omega)
theorem arI_ (hx:x.length=k) (hy:y.length=k) (hi:i<k) {n:Nat} (hn:n=a.length+k+m.length+i): (swp a x m y c i).getD n z=y.getD i z:=by
 subst hn
 unfold swp
 rw[jA_ (z:=z) (l:=y) (by omega),List.append_assoc (x.take i),List.cons_append,←List.append_assoc,←List.append_assoc,←List.append_assoc]
 exact at_0 _ (by simp only[List.length_append,List.length_take,List.length_drop];omega)
theorem anG_ {l r:List α} (u v:α) {n:Nat} (h:n=l.length): (l++u::r).set n v=l++v::r:=by
 subst h
 rw[List.set_append_right _ _ (Nat.le_refl _),Nat.sub_self,List.set_cons_zero]
theorem ant_ (hx:x.length=k) (hy:y.length=k) (hi:i<k) {n n':Nat} (hn:n=a.length+i) (hn':n'=a.length+k+m.length+i):
  ((swp a x m y c i).set n (y.getD i z)).set n' (x.getD i z)=swp a x m y c (i+1):=by
 subst hn hn'
 have e:swp a x m y c i=(a++y.take i)++ (x.getD i z:: (x.drop (i+1)++ (m++ (x.take i++ (y.getD i z:: (y.drop (i+1)++c)))))):=by
  unfold swp
  rw[jA_ (z:=z) (l:=y) (by omega),jA_ (z:=z) (l:=x) (by omega)]
  simp only[List.append_assoc,List.cons_append]
 have e':swp a x m y c (i+1)=(a++y.take i)++ (y.getD i z:: (x.drop (i+1)++ (m++ (x.take i++ (x.getD i z:: (y.drop (i+1)++c)))))):=by
  unfold swp
  rw[take_snoc (z:=z) (l:=y) (by omega),take_snoc (z:=z) (l:=x) (by omega)]
  simp only[List.append_assoc,List.cons_append,List.nil_append]
 rw[e,e',anG_ _ _ (by simp only[List.length_append,List.length_take];omega)]
 have e2: ∀u v:α,(a++y.take i)++ (u:: (x.drop (i+1)++ (m++ (x.take i++ (v:: (y.drop (i+1)++c))))))=((a++y.take i)++ (u:: (x.drop (i+1)++ (m++x.take i))))++ (v:: (y.drop (i+1)++c)):=fun u v=>by
  simp only[List.append_assoc,List.cons_append]
 rw[e2,e2,anG_ _ _ (by simp only[List.length_append,List.length_take,List.length_cons,List.length_drop];omega)]
end
abbrev entO (rest:List Value) (d:List EntL):Obj:=rowO qQ_ 268 rest d
theorem vy_ {rest:List Value} {d:List EntL} (k:Nat) (hk:k<d.length):zs_ (some (true,34)) (some (entO rest d)) (k*34)=some (.agg (qQ_ (d.getD k jQ_)).toArray):=afQ_ (z:=jQ_) qT_ k hk
theorem kh_ {rest:List Value} {d:List EntL} (k:Nat) (x:EntL) (a:Bool) (hk:k<d.length):zl_ (some (a,34)) (some (entO rest d)) (k*34) (.agg (qQ_ x).toArray)=some (entO rest (d.set k x)):=ab7_ qT_ JX_ k x a hk
set_option linter.defProp false
def asL_:=And.intro (And.intro (@vy_) (@kh_)) (And.intro (@jC_) (And.intro (@ql_) (@qr_)))
structure RotG where
 A:List EntL
 U:List EntL
 V:List EntL
 B:List EntL
theorem aiz_ {α:Type} (l:List α) {k:Nat} (h:k≤l.length): ∃a b,l=a++b∧a.length=k:=⟨l.take k,l.drop k,(List.take_append_drop k l).symm,by rw[List.length_take];omega⟩
end Go.Proofs
end
section
open Go Go.Proofs Go.Sx Go.StP
namespace Go.Proofs
set_option maxRecDepth 10000
set_option maxHeartbeats 4000000
set_option linter.unusedSimpArgs false
abbrev ltE (a b:EntL):Bool:=StP.lt EntL.name a b
abbrev Wz_ (l:List EntL):Prop:=StP.Sorted EntL.name l
abbrev StE (l l':List EntL):Prop:=StP.St EntL.name l l'
theorem adr_ (a b:EntL):decide (cmpE a b<0)=ltE a b:=by
 unfold cmpE cmpS ltE StP.lt
 cases h:ltB a.name b.name
 ·rw[if_neg (by simp)]
  split<;>rfl
 ·rw[if_pos rfl];rfl
structure InsG where
 S:List EntL
 R:List EntL
set_option linter.defProp false
def asI_:=And.intro (And.intro (@vy_) (And.intro (@kh_) (@jC_))) (And.intro (@ql_) (And.intro (@qr_) (@adr_)))
end Go.Proofs
end
section
open Go Go.Proofs Go.Sx Go.StP
namespace Go.Proofs
set_option maxRecDepth 10000
set_option maxHeartbeats 4000000
set_option linter.unusedSimpArgs false
theorem aa6_ (p q:Nat) (h:p+q<4611686018427387904):IntKind.wrap .i64 ((j9_ (UInt64.ofInt ((p:Int)+ (q:Int))) 1).toNat:Int)=(((p+q) / 2:Nat):Int):=by
 have e: (UInt64.ofInt ((p:Int)+ (q:Int))).toNat=p+q:=by
  have h2:UInt64.ofInt ((p:Int)+ (q:Int))=UInt64.ofNat (((p:Int)+ (q:Int))%2^64).toNat:=rfl
  rw[h2,UInt64.toNat_ofNat']
  omega
 have e2: (j9_ (UInt64.ofInt ((p:Int)+ (q:Int))) 1).toNat=(p+q) / 2:=by
  unfold j9_
  rw[e,UInt64.toNat_ofNat',Nat.pow_one]
  omega
 rw[e2,jD_ _ (by omega)]
structure BsG where
 i:Nat
 j:Nat
def ase_ (rb:Nat) (A X Y B:List EntL) (rest:List Value) (v:Value) (D:ze_):Prop:=
 ∃o,D= [(rb,o)]∧v= .tuple #[]∧ ∃Z,o=entO rest (A++ (Z++B))∧Z.length=X.length+Y.length∧Wz_ Z∧StE (X++Y) Z
set_option linter.defProp false
def asM_:=And.intro (And.intro (@vy_) (And.intro (@kh_) (@jC_))) (And.intro (And.intro (@ql_) (@qr_)) (And.intro (@adr_) (@aa6_)))
end Go.Proofs
end
section
open Go Go.Proofs Go.Sx Go.StP
namespace Go.Proofs
set_option maxRecDepth 10000
set_option maxHeartbeats 4000000
set_option linter.unusedSimpArgs false
set_option linter.defProp false
def asP_:=And.intro (And.intro (@vy_) (And.intro (@kh_) (@jC_))) (And.intro (And.intro (@ql_) (@qr_)) (And.intro (@adr_) (@aa6_)))
end Go.Proofs
end
section
open Go Go.Proofs Go.Sx Go.StP
namespace Go.Proofs
set_option maxRecDepth 10000
set_option maxHeartbeats 4000000
set_option linter.unusedSimpArgs false
def Blks (k:Nat) (ls:List (List EntL)):Prop:= ∀x,x∈ls→x.length=k∧Wz_ x
theorem Blks.snoc {k:Nat} {ls:List (List EntL)} {x:List EntL} (h:Blks k ls) (hx:x.length=k) (hs:Wz_ x):Blks k (ls++ [x]):=by
 intro y hy
 rcases List.mem_append.1 hy with hy|hy
 ·exact h y hy
 ·rw[List.mem_singleton] at hy;subst hy;exact⟨hx,hs⟩
structure StG where
 k:Nat
 ls:List (List EntL)
 r:List EntL
structure StH where
 l2:List (List EntL)
 ls:List (List EntL)
end Go.Proofs
end
namespace Go.Sx
open Go
def KL_ (r:Option Nat):Fence:={Fence.wide with round:=r}
def Xc_:Op→Bool
 | .defer _=>false
 |_=>true
section
variable {P:Program} {w0:World} {f:Fr} {L:ze_} {K:x2_} {N:Fr→ze_→Prop} {ops:Array Oper} {rest:List Oper} {r:Option Nat} {n:Nat}
theorem ac2_ {k:FuncId} {args:Array Value} {w:World} {R:Ending→World→Prop} (h:Calls P k args w R):CallsIn (KL_ r) n P k args w R:=
 (callsIn_wide.2 h:CallsIn Fence.wide n P k args w R)
theorem agS_ {row:String} {args:Array Value} {w:World} {R:Value→World→Prop} (h:Rows P row args w R):RowsIn (KL_ r) n P row args w R:=
 (fun c cs _=>let ⟨v,w',hr,s⟩:=h c cs;⟨v,w',hr,stepsIn_wide.2 s⟩:RowsIn Fence.wide n P row args w R)
theorem an6_ {o:Oper} {a:Act} {w:World} {next:Act→World→Prop} {Q:Exit→Act→World→Prop} (hd:Xc_ o.op=true) (h:o.wp P a w next Q):o.wpIn (KL_ r) n P a w next Q:=by
 refine⟨fun _ _=>trivial, ?_⟩
 rw[Oper.semAt_eq _ _ _ (fun c e=>by rw[e] at hd;cases hd)]
 unfold Oper.wp at h
 generalize (execOp a.eval o).run P w=x at h
 match x,h with
 | .ok (.value v) _,h=>exact h
 | .ok .skip _,h=>exact h
 | .ok (.defer e) _,h=>exact h
 | .ok (.enter k args) w',h=>
  have h':Calls P k args w' _:=h
  exact⟨fun(e:false=true)=>(by cases e),ac2_ h'⟩
 | .ok (.row row args) w',h=>
  have h':Rows P row args w' _:=h
  exact⟨fun(e:false=true)=>(by cases e),agS_ h'⟩
 | .halt (.panic u) _,h=>exact h
theorem aeD_ {Q:Exit→Act→World→Prop} {l2:List Oper}: ∀ (l1:List Oper) (a:Act) (w:World),(l1.all fun o=>Xc_ o.op)=true→
  wpList P ops (fun e a w=>e= .normal∧wpListIn (KL_ r) n P ops Q l2 a w) l1 a w→wpListIn (KL_ r) n P ops Q (l1++l2) a w
 | [],_,_,_,h=>h.2
 |o::l1,a,w,hd,h=>by
  rw[List.cons_append]
  unfold wpList at h
  unfold wpListIn
  rw[List.all_cons,Bool.and_eq_true] at hd
  split at h
  ·rename_i hw
   rw[if_pos hw]
   rcases h with h| ⟨-,hl⟩
   ·exact an6_ hd.1 (wx_ (fun a w hx=>aeD_ l1 a w hd.2 hx) (fun e a w hne hq=>hne hq.1) h)
   ·obtain⟨_,_,he,-⟩:=hl
    cases he
  ·rename_i hw
   rw[if_neg hw]
   exact⟨fun _ _=>trivial,aeD_ l1 _ _ hd.2 h⟩
def OwI (r:Option Nat) (P:Program) (w0:World) (ops:Array Oper) (l:List Oper) (f:Fr) (L:ze_) (N:Fr→ze_→Prop):Prop:=
 ∀w,Hp w0 L w→wpListIn (KL_ r) 0 P ops (jZ_ w0 N) l (act f) w
theorem OwI.nil (h:N f L):OwI r P w0 ops [] f L N:=fun _ hw=>⟨rfl,rfl,L,hw,by simpa [act] using h⟩
theorem OwI.pre {l1 l2:List Oper} (hd: (l1.all fun o=>Xc_ o.op)=true) (h:Ow P w0 ops .seq l1 f L (fun f' L'=>OwI r P w0 ops l2 f' L' N)):OwI r P w0 ops (l1++l2) f L N:=by
 intro w hw
 refine aeD_ l1 _ _ hd ?_
 have h1:=h w hw
 have mono: ∀ (l:List Oper) (a:Act) (w:World),wpList P ops (jZ_ w0 (fun f' L'=>OwI r P w0 ops l2 f' L' N)) l a w→wpList P ops (fun e a w=>e= .normal∧wpListIn (KL_ r) 0 P ops (jZ_ w0 N) l2 a w) l a w:=by
  intro l
  induction l with
  |nil=>
   rintro a w ⟨-,hd',L',hp,hO⟩
   refine⟨rfl, ?_⟩
   have:=hO w hp
   rwa [←Xv_ hd'] at this
  |cons o l ih=>
   intro a w h
   unfold wpList at h ⊢
   split at h
   ·rename_i hw
    rw[if_pos hw]
    rcases h with h| ⟨-,hl⟩
    ·exact .inl (wx_ ih (fun e a w hne hq=>hne hq.1) h)
    ·obtain⟨_,_,he,-⟩:=hl
     cases he
   ·rename_i hw
    rw[if_neg hw]
    exact ih _ _ h
 exact mono l1 _ _ h1
theorem Ow.mono_seq {l:List Oper} {N':Fr→ze_→Prop} (h:Ow P w0 ops .seq l f L N) (hN: ∀f L,N f L→N' f L):Ow P w0 ops .seq l f L N':=by
 intro w hw
 have h1:=h w hw
 clear h
 revert h1
 generalize act f=a
 clear hw
 induction l generalizing a w with
 |nil=>rintro⟨h1,h2,L',h3,h4⟩;exact⟨h1,h2,L',h3,hN _ _ h4⟩
 |cons o l ih=>
  intro h
  unfold wpList at h ⊢
  split at h
  ·rename_i hw
   rw[if_pos hw]
   rcases h with h| ⟨-,hl⟩
   ·exact .inl (wx_ (fun a w hx=>ih w a hx) (fun e a w hne hq=>hne hq.1) h)
   ·obtain⟨_,_,he,-⟩:=hl
    cases he
  ·rename_i hw
   rw[if_neg hw]
   exact ih _ _ h
theorem OwI.all {l:List Oper} (hd: (l.all fun o=>Xc_ o.op)=true) (h:Ow P w0 ops .seq l f L N):OwI r P w0 ops l f L N:=by
 have:=OwI.pre (r:=r) (l2:= []) (N:=N) hd (Ow.mono_seq h (fun f L hN=>OwI.nil hN))
 simpa using this
def CwR (r:Option Nat) (P:Program) (w0:World) (c:Code) (f:Fr) (L:ze_) (K:x2_):Prop:= ∀w,Hp w0 L w→c.wpIn (KL_ r) 0 P (post w0 K) (act f) w
theorem CwR.region {id:Nat} {l:List Oper} (hd: (l.all fun o=>Xc_ o.op)=true) (h:Ow P w0 l.toArray .seq l f L (K .normal)):CwR r P w0 (.region id l.toArray false) f L K:=
 fun w hw=>wpIn_mono (wpIn_region_lit (OwI.all hd h w hw)) fun _ _ _ h=>xy_ h
theorem CwR.block {id:Nat} {c:Code} (h:CwR r P w0 c f L (k0_ id K)):CwR r P w0 (.block id c) f L K:=by
 intro w hw
 refine wpIn_block (wpIn_mono (h w hw) ?_)
 rintro e a w' ⟨hd,L',hp,k⟩
 cases e with
 |exit i=>
  simp only[Exit.inBlock]
  simp only[k0_] at k
  split
  ·rename_i e;rw[if_pos e] at k;exact⟨hd,L',hp,k⟩
  ·rename_i e;rw[if_neg e] at k;exact⟨hd,L',hp,k⟩
 |_=>exact⟨hd,L',hp,k⟩
theorem Hp.put {w:World} (h:Hp w0 L w) {b:Nat} {o:Obj} (hb:b∈keys L):Hp w0 (setB L b o) (w.putObj b o):=h.set hb rfl rfl rfl rfl
theorem YieldAt.of {l:Nat} {rc:Loop} {X:ze_} {args:Array Value} {w:World} {r0:Option Nat} {S:ze_→Prop} (hX:Hp w X w) (hl:look X l=some (.loop rc)) (hr:rc.state= .ready) (hp:rc.pending=none) (hs:args.size=rc.params.size)
  (h:CwR (some l) P w rc.assign ((rc.params.zip args).foldl (fun tmps (p:Tmp×Value)=>tmps.setIfInBounds p.1 p.2) rc.tmps).toList X (fun e f1 L1=>e= .normal∧look L1 l=some (.loop rc)∧
   CwR (some l) P w rc.body f1 (setB L1 l (.loop {rc with state:= .busy})) (fun e _ L2=>e= .normal∧look L2 l=some (.loop {rc with state:= .busy})∧S (setB L2 l (.loop rc))))):
  YieldAt (KL_ r0) 0 P l args w (fun e w'=> ∃D,e= .returned (.bool true)∧Hp w D w'∧S D):=by
 obtain⟨st,pe,fn0,tm,pa,asg,bo,de⟩:=rc
 obtain rfl:st= .ready:=hr
 obtain rfl:pe=none:=hp
 have hl0:=hX.has _ _ (zJ_ hl)
 refine⟨fn0,_,asg,bo,run_yield hl0 hs,roundIn_of_wpIn (F:=KL_ r0) (n:=0) trivial ?_⟩
 have h1:=h w hX
 have ea:act ((pa.zip args).foldl (fun tmps (p:Tmp×Value)=>tmps.setIfInBounds p.1 p.2) tm).toList={tmps:=(pa.zip args).foldl (fun tmps (p:Tmp×Value)=>tmps.setIfInBounds p.1 p.2) tm,defers:= []}:=by
  simp[act]
 simp only at h1
 rw[ea] at h1
 refine wpIn_mono h1 ?_
 rintro e a1 w1 ⟨hd1,L1,hp1,rfl,hl1,hbody⟩
 have hb1:=run_beginRound (P:=P) (hp1.has _ _ (zJ_ hl1)) rfl
 refine⟨_,hb1, ?_⟩
 have h2:=hbody _ (hp1.put (o:= .loop {state:= .busy,pending:=none,fn:=fn0,tmps:=tm,params:=pa,assign:=asg,body:=bo,defers:=de}) (zx_ hl1))
 rw[←Xv_ hd1] at h2
 refine wpIn_mono h2 ?_
 rintro e a2 w2 ⟨hd2,L2,hp2,rfl,hl2,hS⟩
 have he:=run_endRound (P:=P) none (hp2.has _ _ (zJ_ hl2))
 exact⟨_,_,he,_,rfl,hp2.put (zx_ hl2),hS⟩
def arG_ (ds:List Deferred) (w0:World) (K:x2_) (e:Exit) (a:Act) (w:World):Prop:=a.defers=ds∧ ∃L,Hp w0 L w∧K e a.tmps.toList L
def CwE (ds:List Deferred) (P:Program) (w0:World) (c:Code) (f:Fr) (L:ze_) (K:x2_):Prop:= ∀w,Hp w0 L w→c.wp P (arG_ ds w0 K) ⟨f.toArray,ds⟩ w
theorem CwE.seq {ds:List Deferred} {x y:Code} (h:CwE ds P w0 x f L (wq_ (fun f L=>CwE ds P w0 y f L K) K)):CwE ds P w0 (.seq x y) f L K:=by
 intro w hw
 refine wp_seq (wp_mono (h w hw) ?_)
 rintro e a w' ⟨hd,L',hp,k⟩
 cases e with
 |normal=>
  have:=k w' hp
  have ea:a=⟨a.tmps.toList.toArray,ds⟩:=by cases a;simp only at hd;subst hd;simp
  rw[ea]
  exact this
 |_=>exact⟨hd,L',hp,k⟩
theorem CwE.ret {ds:List Deferred} (h:K .ret f L):CwE ds P w0 .ret f L K:=fun _ hw=>wp_ret ⟨rfl,L,hw,by simpa using h⟩
def evVs (P:Program) (w0:World) (L:ze_):List Oper→Fr→Option Fr
 | [],f=>some f
 |o::r,f=>match o.guard,k5_ P w0 L f o.op with
  |none,some v=>evVs P w0 L r (qC_ f o.dst v)
  |_,_=>none
theorem VU_ {ds:List Deferred} {Q:Exit→Act→World→Prop} {w:World} (hw:Hp w0 L w): ∀ (l:List Oper) (f f':Fr),evVs P w0 L l f=some f'→Q .normal ⟨f'.toArray,ds⟩ w→wpList P ops Q l ⟨f.toArray,ds⟩ w
 | [],f,f',h,hQ=>by cases h;exact hQ
 |o::l,f,f',h,hQ=>by
  unfold evVs at h
  split at h
  ·rename_i v hg hv
   unfold wpList
   have hwn:Region.wanted o (yielded ops (⟨f.toArray,ds⟩:Act).tmps)=true:=by unfold Region.wanted;rw[hg]
   rw[if_pos hwn]
   refine .inl ?_
   unfold Oper.wp
   have he: (⟨f.toArray,ds⟩:Act).eval=ev f:=by
    have:=j2_ f
    funext x
    exact(congrFun this x)
   rw[he,jj_ hw hv]
   have hp: (⟨f.toArray,ds⟩:Act).put o.dst v=⟨(qC_ f o.dst v).toArray,ds⟩:=by
    have:=qd_ f o.dst v
    cases hd:o.dst with
    |none=>rfl
    |some d=>simp only[Act.put,qC_,aiT_]
   show wpList P ops Q l ((⟨f.toArray,ds⟩:Act).put o.dst v) w
   rw[hp]
   exact VU_ hw l _ f' h hQ
  ·cases h
theorem CwE.region {ds:List Deferred} {id:Nat} {l:List Oper} {f':Fr} (h:evVs P w0 L l f=some f') (hk:K .normal f' L):CwE ds P w0 (.region id l.toArray false) f L K:=
 fun w hw=>wp_region_lit (VU_ hw l f f' h ⟨rfl,L,hw,by simpa using hk⟩)
theorem Gr.at_ {L:ze_} {E:TypeId} {m n:Nat} {v:Value} {cs:List Value} (h:Gr L E m v n cs) {b:Nat} (hb:slB v=some b): ∃a,look L b=some (.cells a E (0,0)):=by
 rcases h with h| ⟨rfl,rfl,c,rfl,hl⟩
 ·rcases h.inv with⟨rfl,-,-⟩ | ⟨c,cc,rest,rfl,hl,-⟩
  ·cases hb
  ·have:c=b:=by simpa [slB,vsl] using hb
   subst this;exact⟨_,hl⟩
 ·have:c=b:=by simpa [slB,vsl] using hb
  subst this;exact⟨_,hl⟩
theorem Gr.ne {L:ze_} {E:TypeId} {m n:Nat} {v:Value} {cs:List Value} (h:Gr L E m v n cs) {b:Nat} {o:Obj} (hl:look L b=some o) (ho: ∀a,o≠ .cells a E (0,0)):slB v≠some b:=fun e=>by
 obtain⟨a,ha⟩:=h.at_ e
 rw[hl] at ha
 exact ho a (Option.some.inj ha)
theorem Gr.setB {L:ze_} {E:TypeId} {m n:Nat} {v:Value} {cs:List Value} (h:Gr L E m v n cs) {b:Nat} (hb:slB v≠some b) (x:Obj):Gr (setB L b x) E m v n cs:=
 h.keep fun c o hc ho=>by rw[kU_ (fun e:b=c=>hb (by rw[e];exact hc))];exact ho
def recR (fn:FuncId) (f:Fr) (ps:Array Tmp) (assign body:Code) (dk:Nat) (st:LoopState):Loop:={state:=st,pending:=none,fn,tmps:=f.toArray,params:=ps,assign,body,defers:=dk}
def asK_ (P:Program) (gf:Nat) (lb:Array Value) {α:Type} (enc:α→Value) (xs:List α) (w:World):Prop:=
 ∀ (l:Nat) (J:List α→ze_→Prop) (w1:World) (X:ze_),(∀b,b<w.heap.size→w1.heap[b]? =w.heap[b]?)→(∀b,b∈keys X→w.heap.size≤b)→w.heap.size≤w1.heap.size→Hp w1 X w1→J [] X→(∀pre X Y,J pre X→J pre (X++Y))→
  (∀pre x post X2 w2,xs=pre++x::post→Hp w2 X2 w2→(∀b,b∈keys X2→w.heap.size≤b)→J pre X2→YieldAt (KL_ none) 0 P l #[enc x] w2 (fun e w3=> ∃D,e= .returned (.bool true)∧Hp w2 D w3∧Ext w2 X2 D∧J (pre++ [x]) D))→
  Rets P gf (#[.func (.yield l) #[] #[]]++lb) w1 (XS w1 X (fun _ D=>J xs D))
end
end Go.Sx
section
open Go Go.Proofs Go.Sx Go.StP
namespace Go.Proofs
set_option maxRecDepth 10000
set_option maxHeartbeats 4000000
set_option linter.unusedSimpArgs false
abbrev EntS (w:World) (v:Value) (l:List EntL):Prop:=SlV 34 qQ_ jQ_ w v l
structure ValG where
 k:Nat
 X:ze_
set_option linter.defProp false
def asS_:=And.intro (And.intro (@vy_) (@kh_)) (And.intro (@jC_) (And.intro (@ql_) (@qr_)))
end Go.Proofs
end
section
open Go Go.Proofs Go.Sx Go.StP
namespace Go.Proofs
set_option maxRecDepth 10000
set_option maxHeartbeats 4000000
set_option linter.unusedSimpArgs false
set_option linter.defProp false
def asY_:=And.intro (And.intro (@vy_) (@kh_)) (And.intro (@jC_) (And.intro (@ql_) (@qr_)))
end Go.Proofs
end
section
open Go Go.Proofs Go.Sx Go.StP
namespace Go.Proofs
set_option maxRecDepth 10000
set_option maxHeartbeats 4000000
set_option linter.unusedSimpArgs false
def SortOf (l Z:List EntL):Prop:=Z.length=l.length∧Wz_ Z∧StE l Z
theorem SortOf.eq {l Z Z':List EntL} (h:SortOf l Z) (h':SortOf l Z'):Z=Z':=StP.St.eq h.2.1 h'.2.1 (h.2.2.symm.trans h'.2.2)
end Go.Proofs
end
section
open Go Go.Proofs Go.Sx
namespace Go.Proofs
set_option maxRecDepth 10000
set_option maxHeartbeats 4000000
set_option linter.unusedSimpArgs false
def badR (c:Int):Bool:=decide (c<33) ||decide (126<c) || (c==47)
def JU_ (b:UInt8):Bool:=decide (b.toNat<33) ||decide (126<b.toNat) || (b.toNat==47)
theorem eqb (a b:Bool):qO_ Tryz.prog .eql 4 (.bool a) (.bool b)=some (.bool (a==b)):=by
 simp[qO_,eqX,qH_,qI_,Tryz.underlying4]
theorem aqL_ (a:Value): (#[a]:Array Value)[0]? =some a:=(rfl)
set_option linter.defProp false
def qe_:=And.intro (And.intro (And.intro (@zi_) (And.intro (@Zq_) (@w4_))) (And.intro (And.intro (@Zp_) (@zh_)) (And.intro (@alE_) (@aeG_)))) (And.intro (And.intro (And.intro (@acL_) (@aer_)) (And.intro (@apk_) (@aqL_))) (And.intro (And.intro (@Sx.tup3_0) (@Sx.tup3_1)) (And.intro (@Sx.tup3_2) (@eqb))))
theorem aaE_ (c:Int) (w:World):Rets Tryz.prog 242 #[V7_ c] w (fun v D=>v= .bool (badR c)∧D= []):=by
 refine Rets.enterV Tryz.func242 rfl (rs:= [.tmp 2]) Tryz.results242 Tryz.ntmps242 ?_
 refine kf ?_
 unfold badR
 cases h1:decide (c<33)
 ·cases h2:decide (126<c)
  ·first|with_reducible refine ks [] (And.intro @qe_ (And.intro @h1 (@h2))) ?_|refine kp (And.intro @qe_ (And.intro @h1 (@h2))) ?_
   refine⟨_,(ke @qe_),trivial, ?_⟩
   simp[vi_]
  ·first|with_reducible refine ks [] (And.intro @qe_ (And.intro @h1 (@h2))) ?_|refine kp (And.intro @qe_ (And.intro @h1 (@h2))) ?_
   refine⟨_,(ke @qe_),trivial, ?_⟩
   simp[vi_]
 ·first|with_reducible refine ks [] (And.intro @qe_ @h1) ?_|refine kp (And.intro @qe_ @h1) ?_
  refine⟨_,(ke @qe_),trivial, ?_⟩
  simp[vi_]
theorem am4_ (l:List UInt8) (i:Nat) (h:i<l.length):badR ((Utf8.decode ⟨l.toArray⟩ i).1:Nat)=JU_ (l.getD i 0)∧(JU_ (l.getD i 0)=false→(Utf8.decode ⟨l.toArray⟩ i).2=1):=by
 obtain⟨h0,h1,h2⟩:=aeV_ l i h
 by_cases hc: (l.getD i 0).toNat<128
 ·rw[h1 hc]
  refine⟨?_,fun _=>rfl⟩
  unfold badR JU_
  congr 1
  ·congr 1
   ·apply decide_eq_decide.2;omega
   ·apply decide_eq_decide.2;omega
  ·rw[Bool.eq_iff_iff,beq_iff_eq,beq_iff_eq];omega
 ·have h2':=h2 (by omega)
  have hb:JU_ (l.getD i 0)=true:=by
   unfold JU_
   rw[decide_eq_true (show 126< (l.getD i 0).toNat by omega)];simp
  rw[hb]
  refine⟨?_,fun h=>by cases h⟩
  unfold badR
  rw[decide_eq_true (show(126:Int)< (((Utf8.decode ⟨l.toArray⟩ i).1:Nat):Int) by omega)];simp
theorem KT_ (s:List UInt8) (k:FuncId) (hk: ∀a w,(callFunc k a).run Tryz.prog w= .ok (.enter k a) w) (hc: ∀c w,Rets Tryz.prog k #[V7_ c] w (fun v D=>v= .bool (badR c)∧D= [])) (w:World) (hs:s.length<1099511627776):
  Rets Tryz.prog 245 #[vs s, .func (.func k) #[] #[], .bool true] w (fun v D=> ∃n:Int,v=vi n∧(0≤n↔s.any JU_=true)∧D= []):=by
 refine Rets.mono (S:=fun v D=>(∃n:Int,v=vi n∧(0≤n↔s.any JU_=true))∧D= []) ?_ (by rintro v D ⟨⟨n,h1,h2⟩,h3⟩;exact⟨n,h1,h2,h3⟩)
 refine Rets.enterV Tryz.func245 rfl (rs:= [.tmp 6]) Tryz.results245 Tryz.ntmps245 ?_
 refine kf ?_
 first|with_reducible refine ks [] @qe_ ?_|refine kp @qe_ ?_
 refine Ow.rangeText rfl rfl Tryz.underlying9 rfl fun b1 hb1 hw1=> ?_
 refine ko @qe_ ?_
 first|with_reducible refine ks [] @qe_ ?_|refine kp @qe_ ?_
 refine Cw.loopG (G:=Nat) [11,12,13,14,7,8,15,16,17,18,19,20,6] (fun g=> []) (fun g=> [(b1, .stringIter ⟨s.toArray⟩ g)]) (fun g=>g≤s.length∧ ∀i,i<g→JU_ (s.getD i 0)=false) (fun g=>s.length - g) 0 rfl rfl ?_ ?_
 ·exact⟨by omega,fun i hi=>by omega⟩
 intro g j hg
 refine kv ?_
 obtain⟨hgL,hgood⟩:=hg
 by_cases hlt:g<s.length
 ·have hbr:=am4_ s g hlt
  first|with_reducible refine ks [] @qe_ ?_|refine kp @qe_ ?_
  refine Ow.nextText rfl rfl rfl (zT_ _ _ _) hlt ?_
  rw[j1_]
  generalize hdd:Utf8.decode ⟨s.toArray⟩ g=dd at*
  obtain⟨c,n⟩:=dd
  simp only at hbr ⊢
  refine ko @qe_ ?_
  first|with_reducible refine ks [] @qe_ ?_|refine kp @qe_ ?_
  refine Ow.callFn1 (v:= .bool (badR c)) (k:=k) rfl rfl rfl hk (fun w' hw'=>hc _ w') ?_
  rw[hbr.1]
  refine ko @qe_ ?_
  cases hbb:JU_ (s.getD g 0)
  ·first|with_reducible refine ks [] @qe_ ?_|refine kp @qe_ ?_
   refine Again.mk (g+1) (by omega) ⟨by omega,fun i hi=> ?_⟩ ?_ rfl
   ·by_cases hig:i=g
    ·rw[hig];exact hbb
    ·exact hgood i (by omega)
   ·rw[hbr.2 hbb]
  ·first|with_reducible refine ks [] @qe_ ?_|refine kp @qe_ ?_
   refine⟨_,(ke @qe_),⟨hw1,trivial⟩, ?_⟩
   refine⟨(g:Int),rfl,⟨fun _=> ?_,fun _=>by omega⟩⟩
   rw[List.any_eq_true]
   refine⟨s.getD g 0, ?_,hbb⟩
   rw[List.getD_eq_getElem?_getD,List.getElem?_eq_getElem hlt]
   exact List.getElem_mem hlt
 ·obtain rfl:g=s.length:=by omega
  first|with_reducible refine ks [] @qe_ ?_|refine kp @qe_ ?_
  refine Ow.nextOver rfl rfl rfl (zT_ _ _ _) hlt ?_
  refine ko @qe_ ?_
  first|with_reducible refine ks [] @qe_ ?_|refine kp @qe_ ?_
  refine⟨_,(ke @qe_),⟨hw1,trivial⟩, ?_⟩
  refine⟨-1,rfl,⟨fun h=>by omega,fun h=> ?_⟩⟩
  rw[List.any_eq_true] at h
  obtain⟨x,hx,hxb⟩:=h
  obtain⟨i,hi,rfl⟩:=List.getElem_of_mem hx
  have:=hgood i hi
  rw[List.getD_eq_getElem?_getD,List.getElem?_eq_getElem hi] at this
  exact absurd hxb (by simpa using this)
theorem VB_ (s:List UInt8) (k:FuncId) (hk: ∀a w,(callFunc k a).run Tryz.prog w= .ok (.enter k a) w) (hc: ∀c w,Rets Tryz.prog k #[V7_ c] w (fun v D=>v= .bool (badR c)∧D= [])) (w:World) (hs:s.length<1099511627776):
  Rets Tryz.prog 244 #[vs s, .func (.func k) #[] #[]] w (fun v D=> ∃n:Int,v=vi n∧(0≤n↔s.any JU_=true)∧D= []):=by
 refine Rets.mono (S:=fun v D=>(∃n:Int,v=vi n∧(0≤n↔s.any JU_=true))∧D= []) ?_ (by rintro v D ⟨⟨n,h1,h2⟩,h3⟩;exact⟨n,h1,h2,h3⟩)
 refine Rets.enterV Tryz.func244 rfl (rs:= [.tmp 4]) Tryz.results244 Tryz.ntmps244 ?_
 refine kf ?_
 first|with_reducible refine ks [] @qe_ ?_|refine kp @qe_ ?_
 refine Ow.callF rfl rfl Tryz.call245 (S:=fun _ v D=> ∃n:Int,v=vi n∧(0≤n↔s.any JU_=true)∧D= []) (fun w' hw'=>KT_ s k hk hc w' hs) ?_
 rintro B v D - - ⟨n,rfl,hn,rfl⟩
 refine⟨_,Mrg.nil, ?_⟩
 refine ko @qe_ ?_
 first|with_reducible refine ks [] @qe_ ?_|refine kp @qe_ ?_
 refine⟨_,(ke @qe_),trivial, ?_⟩
 exact⟨n,rfl,hn⟩
theorem Q6_ (s:List UInt8) (k:FuncId) (hk: ∀a w,(callFunc k a).run Tryz.prog w= .ok (.enter k a) w) (hc: ∀c w,Rets Tryz.prog k #[V7_ c] w (fun v D=>v= .bool (badR c)∧D= [])) (w:World) (hs:s.length<1099511627776):
  Rets Tryz.prog 241 #[vs s, .func (.func k) #[] #[]] w (fun v D=>v= .bool (s.any JU_)∧D= []):=by
 refine Rets.enterV Tryz.func241 rfl (rs:= [.tmp 4]) Tryz.results241 Tryz.ntmps241 ?_
 refine kf ?_
 first|with_reducible refine ks [] @qe_ ?_|refine kp @qe_ ?_
 refine Ow.callF rfl rfl Tryz.call244 (S:=fun _ v D=> ∃n:Int,v=vi n∧(0≤n↔s.any JU_=true)∧D= []) (fun w' hw'=>VB_ s k hk hc w' hs) ?_
 rintro B v D - - ⟨n,rfl,hn,rfl⟩
 refine⟨_,Mrg.nil, ?_⟩
 refine ko @qe_ ?_
 first|with_reducible refine ks [] @qe_ ?_|refine kp @qe_ ?_
 refine⟨_,(ke @qe_),trivial, ?_⟩
 exact congrArg Value.bool (by rw[Bool.eq_iff_iff,decide_eq_true_eq];exact hn)
theorem aeC_ (s:List UInt8) (w:World) (hs:s.length<1099511627776):
  Rets Tryz.prog 238 #[vs s] w (fun v D=>v= .bool (!(s== [])&&decide (s.length≤32)&& !(s.any JU_))∧D= []):=by
 refine Rets.enterV Tryz.func238 rfl (rs:= [.tmp 2]) Tryz.results238 Tryz.ntmps238 ?_
 refine kf ?_
 cases h0: (s != [])
 ·have e0: (s== [])=true:=by simpa using h0
  first|with_reducible refine ks [] (And.intro @qe_ @h0) ?_|refine kp (And.intro @qe_ @h0) ?_
  refine⟨_,(ke @qe_),trivial, ?_⟩
  simp[vi_,e0]
 ·have e0: (s== [])=false:=by simpa using h0
  cases h1:decide ((s.length:Int)≤32)
  ·have e1:decide (s.length≤32)=false:=decide_eq_false (by have:=of_decide_eq_false h1;omega)
   first|with_reducible refine ks [] (And.intro @qe_ (And.intro @h0 (@h1))) ?_|refine kp (And.intro @qe_ (And.intro @h0 (@h1))) ?_
   refine⟨_,(ke @qe_),trivial, ?_⟩
   simp only[vi_,e0,e1,Bool.not_false,Bool.true_and,Bool.false_and,Bool.and_false]
  ·have e1:decide (s.length≤32)=true:=decide_eq_true (by have:=of_decide_eq_true h1;omega)
   first|with_reducible refine ks [] (And.intro @qe_ (And.intro @h0 (@h1))) ?_|refine kp (And.intro @qe_ (And.intro @h0 (@h1))) ?_
   refine Ow.callFV rfl Tryz.call241 (fun w' hw'=>Q6_ s 242 Tryz.call242 aaE_ w' hs) ?_
   refine ko @qe_ ?_
   first|with_reducible refine ks [] @qe_ ?_|refine kp @qe_ ?_
   refine⟨_,(ke @qe_),trivial, ?_⟩
   simp only[vi_,e0,e1,Bool.not_false,Bool.true_and]
set_option linter.defProp false
def vY_:=And.intro (And.intro (@zi_) (@Zq_)) (And.intro (@w4_) (And.intro (@Zp_) (@zh_)))
def aaW_ (s:List UInt8):Bool:= !(s== [])&&decide (s.length≤32)&& !(s.any JU_)
theorem apl_ (c:UInt8):JU_ c=(decide (c<33) ||decide (126<c) || (c==47)):=by
 unfold JU_
 congr 1
 rw[Bool.eq_iff_iff,beq_iff_eq,beq_iff_eq,←UInt8.toNat_inj];rfl
theorem aco_ (s:List UInt8) (w:World) (hs:s.length<1099511627776):
  Rets Tryz.prog 218 #[vs s] w (fun v D=>v= .bool (aaW_ s)∧D= []):=by
 refine Rets.enterV Tryz.func218 rfl (rs:= [.tmp 2]) Tryz.results218 Tryz.ntmps218 ?_
 refine kf ?_
 first|with_reducible refine ks [] @vY_ ?_|refine kp @vY_ ?_
 refine Cw.loopG (G:=Nat) [4,5,6,7,10,11,12,13,14,15,16,17,18,19,20,21,22,23,24,25,2,8,9,3] (fun g=> [(3,vi g)]) (fun g=> []) (fun g=>g≤s.length∧ ∀i,i<g→JU_ (s.getD i 0)=false) (fun g=>s.length - g) 0 rfl rfl ?_ ?_
 ·exact⟨by omega,fun i hi=>by omega⟩
 intro g j hg
 refine kv ?_
 obtain⟨hgL,hgood⟩:=hg
 by_cases hlt:g<s.length
 ·have hb:=apl_ (s.getD g 0)
  have hbad:JU_ (s.getD g 0)=true→aaW_ s=false:=by
   intro h
   have:s.any JU_=true:=List.any_eq_true.2 ⟨s.getD g 0,by rw[List.getD_eq_getElem?_getD,List.getElem?_eq_getElem hlt];exact List.getElem_mem hlt,h⟩
   unfold aaW_
   rw[this];simp
  have hgo:JU_ (s.getD g 0)=false→ ∀i,i<g+1→JU_ (s.getD i 0)=false:=fun h i hi=>by
   by_cases hig:i=g
   ·rw[hig];exact h
   ·exact hgood i (by omega)
  generalize hc:s.getD g 0=c at*
  cases h1:decide (c<33)
  ·cases h2:decide (126<c)
   ·cases h3: (c==47)
    ·first|with_reducible refine ks [] (And.intro @vY_ (And.intro @hc (And.intro @h1 (And.intro @h2 (@h3))))) ?_|refine kp (And.intro @vY_ (And.intro @hc (And.intro @h1 (And.intro @h2 (@h3))))) ?_
     refine Again.mk (g+1) (by omega) ⟨by omega,hgo (by rw[hb,h1,h2,h3];rfl)⟩ rfl rfl
    ·first|with_reducible refine ks [] (And.intro @vY_ (And.intro @hc (And.intro @h1 (And.intro @h2 (@h3))))) ?_|refine kp (And.intro @vY_ (And.intro @hc (And.intro @h1 (And.intro @h2 (@h3))))) ?_
     rw[hbad (by rw[hb,h1,h2,h3];rfl)]
     refine⟨_,(ke @vY_),trivial, ?_⟩
     rfl
   ·first|with_reducible refine ks [] (And.intro @vY_ (And.intro @hc (And.intro @h1 (@h2)))) ?_|refine kp (And.intro @vY_ (And.intro @hc (And.intro @h1 (@h2)))) ?_
    rw[hbad (by rw[hb,h1,h2];rfl)]
    refine⟨_,(ke @vY_),trivial, ?_⟩
    rfl
  ·first|with_reducible refine ks [] (And.intro @vY_ (And.intro @hc (@h1))) ?_|refine kp (And.intro @vY_ (And.intro @hc (@h1))) ?_
   rw[hbad (by rw[hb,h1];simp)]
   refine⟨_,(ke @vY_),trivial, ?_⟩
   rfl
 ·obtain rfl:g=s.length:=by omega
  have hany:s.any JU_=false:=by
   rw[List.any_eq_false]
   intro x hx
   obtain⟨i,hi,rfl⟩:=List.getElem_of_mem hx
   have:=hgood i hi
   rw[List.getD_eq_getElem?_getD,List.getElem?_eq_getElem hi] at this
   simpa using this
  unfold aaW_
  rw[hany]
  cases h1:decide (1≤ (s.length:Int))
  ·have e0: (s== [])=true:=by
    have:=of_decide_eq_false h1
    rw[List.eq_nil_of_length_eq_zero (show s.length=0 by omega)];rfl
   first|with_reducible refine ks [] (And.intro @vY_ @h1) ?_|refine kp (And.intro @vY_ @h1) ?_
   refine⟨_,(ke @vY_),trivial, ?_⟩
   simp only[vi_,e0,Bool.not_true,Bool.false_and]
  ·have e0: (s== [])=false:=by
    have:=of_decide_eq_true h1
    cases s with
    |nil=>simp at this
    |cons x r=>rfl
   have e1:decide ((s.length:Int)≤32)=decide (s.length≤32):=decide_eq_decide.2 (by omega)
   first|with_reducible refine ks [] (And.intro @vY_ @h1) ?_|refine kp (And.intro @vY_ @h1) ?_
   refine⟨_,(ke @vY_),trivial, ?_⟩
   simp only[vi_,e0,e1,Bool.not_false,Bool.true_and,Bool.and_true]
end Go.Proofs
end
section
open Go Go.Proofs Go.Sx Go.StP
namespace Go.Proofs
set_option maxRecDepth 10000
set_option maxHeartbeats 4000000
set_option linter.unusedSimpArgs false
def ju_ (l:List EntL) (i:Nat):Bool:=
 aaW_ (l.getD i jQ_).name&& ((l.getD i jQ_).kind==1|| (l.getD i jQ_).kind==2)&& (i==0||ltB (l.getD (i - 1) jQ_).name (l.getD i jQ_).name)
def kJ_ (l:List EntL):Bool:=decide (l.length≤32)&& (List.range l.length).all (ju_ l)
theorem xS_ {l:List EntL} {k:Nat} (hk:k<l.length) (h:ju_ l k=false):kJ_ l=false:=by
 unfold kJ_
 have: (List.range l.length).all (ju_ l)=false:=by
  rw[List.all_eq_false]
  exact⟨k,List.mem_range.2 hk,by simp[h]⟩
 rw[this,Bool.and_false]
theorem VV_ {l:List EntL} (h: ∀i,i<l.length→ju_ l i=true):kJ_ l=decide (l.length≤32):=by
 unfold kJ_
 have: (List.range l.length).all (ju_ l)=true:=List.all_eq_true.2 fun i hi=>h i (List.mem_range.1 hi)
 rw[this,Bool.and_true]
set_option linter.defProp false
def xt_:=And.intro (And.intro (And.intro (@vG_) (@wF_)) (And.intro (@w1_) (@jC_))) (And.intro (And.intro (@ql_) (@qr_)) (And.intro (@zi_) (@zh_)))
def abR_ (l:List EntL):Prop:= ∀i,i<l.length→(l.getD i jQ_).name.length<1099511627776
theorem aaD_ (s:List UInt8) (w:World) (hs:s.length<1099511627776):Rets Tryz.prog 238 #[vs s] w (fun v D=>v= .bool (aaW_ s)∧D= []):=aeC_ s w hs
theorem aab_ {a b:Int} {c:Bool} (h: (a !=b)=c): (a==b)= !c:=by rw[←h];simp[bne]
theorem abB_ (v:Value) (l:List EntL) (w:World) (hv:EntS w v l) (hl:l.length<1000000) (hsh:abR_ l):
  Rets Tryz.prog 230 #[v] w (fun v' D=>v'= .bool (kJ_ l)∧D= []):=by
 obtain⟨b,off,arr,E,fz,hr⟩:=hv.row
 have ln:=hv.len
 refine Rets.enterV Tryz.func230 rfl (rs:= [.tmp 2]) Tryz.results230 Tryz.ntmps230 ?_
 refine kf ?_
 first|with_reducible refine ks [] (And.intro @xt_ @ln) ?_|refine kp (And.intro @xt_ @ln) ?_
 refine Cw.loopG (G:=Nat) [8,9,10,11,4,3,12,13,14,15,16,17,18,19,20,21,22,23,24,25,26,27,28,29,30,31,32,33,34,35,36,37,38,39,40,2,41,7] (fun g=> [(7,vi g)]) (fun g=> []) (fun g=>g≤l.length∧ ∀i,i<g→ju_ l i=true) (fun g=>l.length - g) 0 rfl rfl ?_ ?_
 ·exact⟨Nat.zero_le _,fun i hi=>absurd hi (Nat.not_lt_zero i)⟩
 ·intro k jk hk
  refine kv ?_
  obtain⟨h1,h2⟩:=hk
  by_cases hk:k<l.length
  ·have h0:0<l.length:=by omega
   have hbl:=hr.lt h0
   have r2:=hr.has h0
   have i2:=hr.idx true k hk
   have l2:=apw_ hr hk
   first|with_reducible refine ks [6] (And.intro @xt_ (And.intro @r2 (And.intro @i2 (@l2)))) ?_|refine kp (And.intro @xt_ (And.intro @r2 (And.intro @i2 (@l2)))) ?_
   refine Ow.alloc rfl rfl WK_ fun b4 hb4 hw4=> ?_
   simp only[zc_,List.nil_append,List.cons_append]
   have hn4:b4≠b:=by omega
   refine ko @xt_ ?_
   have hs:=hsh k hk
   refine Cw.regionS [b4,b] [0,1,2,3,4,5,6,7,8,9,10,11,12,13,14,15,16,17,18,19,20,21,22,24,23,25,26,27,28] [] (by kernel_rfl) (by kernel_rfl) (by kernel_rfl) ?_
   simp only[zg_, ↓zd_, ↓zb_, ↓zp_, ↓zq_,za_]
   refine kq @xt_ ?_
   refine Ow.callFV rfl Tryz.call238 (fun w' hw'=>aaD_ (l.getD k jQ_).name w' hs) ?_
   cases hn:aaW_ (l.getD k jQ_).name
   ·have e0:ju_ l k=false:=by unfold ju_;rw[hn];rfl
    rw[xS_ hk e0]
    refine kq @xt_ ?_
    refine⟨_,(ke @xt_),⟨hw4,trivial⟩, ?_⟩
    rfl
   ·cases hk1: ((l.getD k jQ_).kind !=1)
    ·have hkk: ((l.getD k jQ_).kind==1|| (l.getD k jQ_).kind==2)=true:=by rw[aab_ hk1];rfl
     by_cases h0k:k=0
     ·have d1:decide ((0:Int)< (k:Int))=false:=decide_eq_false (by omega)
      have e1:ju_ l k=true:=by unfold ju_;rw[hn,hkk,h0k];rfl
      refine kq (And.intro @xt_ (And.intro @hk1 (@d1))) ?_
      refine Cw.forgetN [] (by exact⟨hw4,trivial⟩) (by intro p hp;simp only[List.mem_cons,List.not_mem_nil,or_false] at hp ⊢;all_goals (first| (rcases hp with rfl|hp<;>simp_all) | (subst hp;simp) |simp_all)) (by simp[keys]<;>omega) ?_
      first|with_reducible refine ks [] @xt_ ?_|refine kp @xt_ ?_
      exact Again.mk (k+1) (by omega) ⟨by omega,fun i hi=>by
       rcases Nat.lt_succ_iff_lt_or_eq.1 hi with h|rfl
       ·exact h2 i h
       ·exact e1⟩ rfl rfl
     ·have d1:decide ((0:Int)< (k:Int))=true:=decide_eq_true (by omega)
      have i3:qa_ (.sl (true,34)) v (some ((k:Int) - 1))=some (vp b (off+ (k - 1)*34)):=by
       rw[show(k:Int) - 1=((k - 1:Nat):Int) by omega];exact hr.idx true (k - 1) (by omega)
      have l3: ∀n,zs_ (some (false,n)) (some (.cells arr E fz)) (off+ (k - 1)*34)=some (vs (l.getD (k - 1) jQ_).name):=fun n=>QP_ hr (show k - 1<l.length by omega) n
      have ek: (k==0)=false:=beq_eq_false_iff_ne.2 h0k
      cases hl3:Op.bytesLess (l.getD (k - 1) jQ_).name (l.getD k jQ_).name
      ·have e1:ju_ l k=false:=by unfold ju_;rw[hn,hkk,ek];exact hl3
       rw[xS_ hk e1]
       refine kq (And.intro @xt_ (And.intro @hk1 (And.intro @d1 (And.intro @i3 (And.intro @r2 (And.intro @l3 (@hl3))))))) ?_
       refine⟨_,(ke @xt_),⟨hw4,trivial⟩, ?_⟩
       rfl
      ·have e1:ju_ l k=true:=by unfold ju_;rw[hn,hkk,ek];exact hl3
       refine kq (And.intro @xt_ (And.intro @hk1 (And.intro @d1 (And.intro @i3 (And.intro @r2 (And.intro @l3 (@hl3))))))) ?_
       refine Cw.forgetN [] (by exact⟨hw4,trivial⟩) (by intro p hp;simp only[List.mem_cons,List.not_mem_nil,or_false] at hp ⊢;all_goals (first| (rcases hp with rfl|hp<;>simp_all) | (subst hp;simp) |simp_all)) (by simp[keys]<;>omega) ?_
       first|with_reducible refine ks [] @xt_ ?_|refine kp @xt_ ?_
       exact Again.mk (k+1) (by omega) ⟨by omega,fun i hi=>by
        rcases Nat.lt_succ_iff_lt_or_eq.1 hi with h|rfl
        ·exact h2 i h
        ·exact e1⟩ rfl rfl
    ·cases hk2: ((l.getD k jQ_).kind !=2)
     ·have hkk: ((l.getD k jQ_).kind==1|| (l.getD k jQ_).kind==2)=true:=by rw[aab_ hk2];simp
      by_cases h0k:k=0
      ·have d1:decide ((0:Int)< (k:Int))=false:=decide_eq_false (by omega)
       have e1:ju_ l k=true:=by unfold ju_;rw[hn,hkk,h0k];rfl
       refine kq (And.intro @xt_ (And.intro @hk1 (And.intro @hk2 (@d1)))) ?_
       refine Cw.forgetN [] (by exact⟨hw4,trivial⟩) (by intro p hp;simp only[List.mem_cons,List.not_mem_nil,or_false] at hp ⊢;all_goals (first| (rcases hp with rfl|hp<;>simp_all) | (subst hp;simp) |simp_all)) (by simp[keys]<;>omega) ?_
       first|with_reducible refine ks [] @xt_ ?_|refine kp @xt_ ?_
       exact Again.mk (k+1) (by omega) ⟨by omega,fun i hi=>by
        rcases Nat.lt_succ_iff_lt_or_eq.1 hi with h|rfl
        ·exact h2 i h
        ·exact e1⟩ rfl rfl
      ·have d1:decide ((0:Int)< (k:Int))=true:=decide_eq_true (by omega)
       have i3:qa_ (.sl (true,34)) v (some ((k:Int) - 1))=some (vp b (off+ (k - 1)*34)):=by
        rw[show(k:Int) - 1=((k - 1:Nat):Int) by omega];exact hr.idx true (k - 1) (by omega)
       have l3: ∀n,zs_ (some (false,n)) (some (.cells arr E fz)) (off+ (k - 1)*34)=some (vs (l.getD (k - 1) jQ_).name):=fun n=>QP_ hr (show k - 1<l.length by omega) n
       have ek: (k==0)=false:=beq_eq_false_iff_ne.2 h0k
       cases hl3:Op.bytesLess (l.getD (k - 1) jQ_).name (l.getD k jQ_).name
       ·have e1:ju_ l k=false:=by unfold ju_;rw[hn,hkk,ek];exact hl3
        rw[xS_ hk e1]
        refine kq (And.intro @xt_ (And.intro @hk1 (And.intro @hk2 (And.intro @d1 (And.intro @i3 (And.intro @r2 (And.intro @l3 (@hl3)))))))) ?_
        refine⟨_,(ke @xt_),⟨hw4,trivial⟩, ?_⟩
        rfl
       ·have e1:ju_ l k=true:=by unfold ju_;rw[hn,hkk,ek];exact hl3
        refine kq (And.intro @xt_ (And.intro @hk1 (And.intro @hk2 (And.intro @d1 (And.intro @i3 (And.intro @r2 (And.intro @l3 (@hl3)))))))) ?_
        refine Cw.forgetN [] (by exact⟨hw4,trivial⟩) (by intro p hp;simp only[List.mem_cons,List.not_mem_nil,or_false] at hp ⊢;all_goals (first| (rcases hp with rfl|hp<;>simp_all) | (subst hp;simp) |simp_all)) (by simp[keys]<;>omega) ?_
        first|with_reducible refine ks [] @xt_ ?_|refine kp @xt_ ?_
        exact Again.mk (k+1) (by omega) ⟨by omega,fun i hi=>by
         rcases Nat.lt_succ_iff_lt_or_eq.1 hi with h|rfl
         ·exact h2 i h
         ·exact e1⟩ rfl rfl
     ·have e0:ju_ l k=false:=by
       unfold ju_
       rw[hn,aab_ hk1,aab_ hk2];rfl
      rw[xS_ hk e0]
      refine kq (And.intro @xt_ (And.intro @hk1 (@hk2))) ?_
      refine⟨_,(ke @xt_),⟨hw4,trivial⟩, ?_⟩
      rfl
  ·obtain rfl:k=l.length:=by omega
   rw[VV_ h2]
   first|with_reducible refine ks [] (And.intro @xt_ @ln) ?_|refine kp (And.intro @xt_ @ln) ?_
   refine⟨_,(ke @xt_),trivial, ?_⟩
   exact congrArg Value.bool (decide_eq_decide.2 (by omega))
end Go.Proofs
end
section
open Go Go.Proofs Go.Sx Go.StP
namespace Go.Proofs
set_option maxRecDepth 10000
set_option maxHeartbeats 4000000
set_option linter.unusedSimpArgs false
set_option linter.defProp false
def vf_:=And.intro (And.intro (And.intro (@vG_) (@wF_)) (And.intro (@w1_) (@jC_))) (And.intro (And.intro (@ql_) (@qr_)) (And.intro (@zi_) (@zh_)))
theorem akU_ (a b:List UInt8): (Op.bytesLess a b||a==b)= !ltB b a:=by rw[←apB_,Bool.not_not]
theorem K8_ (v:Value) (l:List EntL) (w:World) (hv:EntS w v l) (hl:l.length<1000000) (hsh:abR_ l):
  Rets Tryz.prog 186 #[v] w (fun v' D=>v'= .bool (kJ_ l)∧D= []):=by
 obtain⟨b,off,arr,E,fz,hr⟩:=hv.row
 have ln:=hv.len
 refine Rets.enterV Tryz.func186 rfl (rs:= [.tmp 2]) Tryz.results186 Tryz.ntmps186 ?_
 refine kf ?_
 by_cases h32:32<l.length
 ·first|with_reducible refine ks [] (And.intro @vf_ @ln) ?_|refine kp (And.intro @vf_ @ln) ?_
  have:kJ_ l=false:=by unfold kJ_;rw[decide_eq_false (by omega),Bool.false_and]
  rw[this]
  refine⟨_,(ke @vf_),trivial, ?_⟩
  rfl
 ·first|with_reducible refine ks [] (And.intro @vf_ @ln) ?_|refine kp (And.intro @vf_ @ln) ?_
  refine Cw.loopG (G:=Nat) [7,8,9,10,13,14,15,16,17,18,19,20,21,22,23,24,25,26,27,28,29,30,31,32,33,34,35,2,36,37,38,39,40,41,42,43,44,45,46,47,48,49,50,51,11,12,3] (fun g=> [(3,vi g)]) (fun g=> []) (fun g=>g≤l.length∧ ∀i,i<g→ju_ l i=true) (fun g=>l.length - g) 0 rfl rfl ?_ ?_
  ·exact⟨Nat.zero_le _,fun i hi=>absurd hi (Nat.not_lt_zero i)⟩
  ·intro k jk hk
   refine kv ?_
   obtain⟨h1,h2⟩:=hk
   by_cases hk:k<l.length
   ·have h0:0<l.length:=by omega
    have hbl:=hr.lt h0
    have r2:=hr.has h0
    have i2:=hr.idx true k hk
    have m0: ∀n,zs_ (some (false,n)) (some (.cells arr E fz)) (off+k*34)=some (vs (l.getD k jQ_).name):=fun n=>QP_ hr hk n
    have m1: ∀n,zs_ (some (false,n)) (some (.cells arr E fz)) (off+k*34+1)=some (vi (l.getD k jQ_).kind):=fun n=>afn_ hr hk n
    have hs:=hsh k hk
    first|with_reducible refine ks [] (And.intro @vf_ (And.intro @ln (And.intro @r2 (And.intro @i2 (And.intro @m0 (@m1)))))) ?_|refine kp (And.intro @vf_ (And.intro @ln (And.intro @r2 (And.intro @i2 (And.intro @m0 (@m1)))))) ?_
    refine Ow.callFV rfl Tryz.call218 (fun w' hw'=>aco_ (l.getD k jQ_).name w' hs) ?_
    cases hn:aaW_ (l.getD k jQ_).name
    ·have e0:ju_ l k=false:=by unfold ju_;rw[hn];rfl
     rw[xS_ hk e0]
     refine ko @vf_ ?_
     refine⟨_,(ke @vf_),trivial, ?_⟩
     rfl
    ·cases hk1:decide ((l.getD k jQ_).kind<1)
     ·cases hk2:decide (2< (l.getD k jQ_).kind)
      ·have hkk: ((l.getD k jQ_).kind==1|| (l.getD k jQ_).kind==2)=true:=by
        have q1:=of_decide_eq_false hk1
        have q2:=of_decide_eq_false hk2
        rcases(show(l.getD k jQ_).kind=1∨(l.getD k jQ_).kind=2 by omega) with h|h<;>rw[h]<;>rfl
       refine ko (And.intro @vf_ (And.intro @r2 (And.intro @i2 (And.intro @m0 (And.intro @m1 (And.intro @hk1 (@hk2))))))) ?_
       by_cases h0k:k=0
       ·have d1:decide ((0:Int)< (k:Int))=false:=decide_eq_false (by omega)
        have e1:ju_ l k=true:=by unfold ju_;rw[hn,hkk,h0k];rfl
        refine Cw.regionS [b] [0,1,2,3,4,5,6,8,9,10,11,12,7,13,14,15] [] (by kernel_rfl) (by kernel_rfl) (by kernel_rfl) ?_
        simp only[zg_, ↓zd_, ↓zb_, ↓zp_, ↓zq_,za_]
        refine kq (And.intro @vf_ @d1) ?_
        exact Again.mk (k+1) (by omega) ⟨by omega,fun i hi=>by
         rcases Nat.lt_succ_iff_lt_or_eq.1 hi with h|rfl
         ·exact h2 i h
         ·exact e1⟩ rfl rfl
       ·have d1:decide ((0:Int)< (k:Int))=true:=decide_eq_true (by omega)
        have i3:qa_ (.sl (true,34)) v (some ((k:Int) - 1))=some (vp b (off+ (k - 1)*34)):=by
         rw[show(k:Int) - 1=((k - 1:Nat):Int) by omega];exact hr.idx true (k - 1) (by omega)
        have l3: ∀n,zs_ (some (false,n)) (some (.cells arr E fz)) (off+ (k - 1)*34)=some (vs (l.getD (k - 1) jQ_).name):=fun n=>QP_ hr (show k - 1<l.length by omega) n
        have ek: (k==0)=false:=beq_eq_false_iff_ne.2 h0k
        cases hl3:ltB (l.getD (k - 1) jQ_).name (l.getD k jQ_).name
        ·have e1:ju_ l k=false:=by unfold ju_;rw[hn,hkk,ek];exact hl3
         rw[xS_ hk e1]
         refine Cw.regionS [b] [0,1,2,3,4,5,6,8,9,10,11,12,7,13,14,15] [] (by kernel_rfl) (by kernel_rfl) (by kernel_rfl) ?_
         simp only[zg_, ↓zd_, ↓zb_, ↓zp_, ↓zq_,za_]
         refine kq (And.intro @vf_ (And.intro @d1 (And.intro @i2 (And.intro @i3 (And.intro @r2 (And.intro @m0 (And.intro @l3 (And.intro @akU_ (@hl3))))))))) ?_
         refine⟨_,(ke @vf_),trivial, ?_⟩
         rfl
        ·have e1:ju_ l k=true:=by unfold ju_;rw[hn,hkk,ek];exact hl3
         refine Cw.regionS [b] [0,1,2,3,4,5,6,8,9,10,11,12,7,13,14,15] [] (by kernel_rfl) (by kernel_rfl) (by kernel_rfl) ?_
         simp only[zg_, ↓zd_, ↓zb_, ↓zp_, ↓zq_,za_]
         refine kq (And.intro @vf_ (And.intro @d1 (And.intro @i2 (And.intro @i3 (And.intro @r2 (And.intro @m0 (And.intro @l3 (And.intro @akU_ (@hl3))))))))) ?_
         exact Again.mk (k+1) (by omega) ⟨by omega,fun i hi=>by
          rcases Nat.lt_succ_iff_lt_or_eq.1 hi with h|rfl
          ·exact h2 i h
          ·exact e1⟩ rfl rfl
      ·have e0:ju_ l k=false:=by
        have q2:=of_decide_eq_true hk2
        unfold ju_
        rw[hn,show((l.getD k jQ_).kind==1)=false from beq_eq_false_iff_ne.2 (by omega),show((l.getD k jQ_).kind==2)=false from beq_eq_false_iff_ne.2 (by omega)];rfl
       rw[xS_ hk e0]
       refine ko (And.intro @vf_ (And.intro @r2 (And.intro @i2 (And.intro @m0 (And.intro @m1 (And.intro @hk1 (@hk2))))))) ?_
       refine⟨_,(ke @vf_),trivial, ?_⟩
       rfl
     ·have e0:ju_ l k=false:=by
       have q2:=of_decide_eq_true hk1
       unfold ju_
       rw[hn,show((l.getD k jQ_).kind==1)=false from beq_eq_false_iff_ne.2 (by omega),show((l.getD k jQ_).kind==2)=false from beq_eq_false_iff_ne.2 (by omega)];rfl
      rw[xS_ hk e0]
      refine ko (And.intro @vf_ (And.intro @r2 (And.intro @i2 (And.intro @m0 (And.intro @m1 (@hk1)))))) ?_
      refine⟨_,(ke @vf_),trivial, ?_⟩
      rfl
   ·obtain rfl:k=l.length:=by omega
    rw[VV_ h2,show decide (l.length≤32)=true from decide_eq_true (by omega)]
    first|with_reducible refine ks [] (And.intro @vf_ @ln) ?_|refine kp (And.intro @vf_ @ln) ?_
    refine⟨_,(ke @vf_),trivial, ?_⟩
    rfl
end Go.Proofs
end
section
open Go Go.Proofs Go.Sx Go.StP
namespace Go.Proofs
set_option maxRecDepth 10000
set_option maxHeartbeats 4000000
set_option linter.unusedSimpArgs false
theorem qZ_ (x:IdL): (wb_ x).length=32:=by simp[wb_,x.h]
theorem vC_ (x:IdL): (wb_ x).all Value.oneCell'=true:=Kb_ _
abbrev IdS (w:World) (v:Value) (l:List IdL):Prop:=SlV 32 wb_ id0 w v l
theorem JH_ {w:World} {v:Value} {l:List IdL} {b off:Nat} {arr:Array Value} {E:TypeId} {fz:Nat×Nat} (h:RowS 32 wb_ id0 w v l b off arr E fz) {k:Nat} (hk:k<l.length):
  zs_ (some (true,32)) (some (.cells arr E fz)) (off+k*32)=some (.agg (a8 (l.getD k id0).l)):=RowS.load h qZ_ (by omega) hk
theorem aih_ (a b:IdL):qO_ Tryz.prog .eql 37 (.agg (a8 a.l)) (.agg (a8 b.l))=some (.bool (a.l==b.l)):=
 aoh_ Tryz.underlying37 Tryz.underlying5 Tryz.ag5 (by kernel_rfl) a.l b.l ⟨a.h,b.h⟩
theorem ag4_ (a b:IdL):qO_ Tryz.prog .neq 37 (.agg (a8 a.l)) (.agg (a8 b.l))=some (.bool (!(a.l==b.l))):=
 anp_ Tryz.underlying37 Tryz.underlying5 Tryz.ag5 (by kernel_rfl) a.l b.l ⟨a.h,b.h⟩
instance:DecidableEq IdL:=fun a b=>if h:a.l=b.l then .isTrue (by cases a;cases b;simp only at h;subst h;rfl) else .isFalse (fun e=>h (by rw[e]))
theorem IdL.ext' {a b:IdL} (h:a.l=b.l):a=b:=by cases a;cases b;simp only at h;subst h;rfl
def idxG (x:IdL):List IdL→Nat→Int
 | [],_=> -1
 |y::r,i=>if x.l==y.l then(i:Int) else idxG x r (i+1)
theorem abq_ (x y:IdL) (r:List IdL) (i:Nat):idxG x (y::r) i=if x.l==y.l then(i:Int) else idxG x r (i+1):=rfl
theorem W4_ (x:IdL): ∀ (l:List IdL) (i:Nat),decide (0≤idxG x l i)=l.any fun y=>x.l==y.l
 | [],_=>rfl
 |y::r,i=>by
  unfold idxG
  rw[List.any_cons]
  cases h: (x.l==y.l)
  ·rw[if_neg (by simp),Bool.false_or];exact W4_ x r (i+1)
  ·rw[if_pos rfl,Bool.true_or,decide_eq_true (by omega)]
theorem j4_ (x:IdL) (E:TypeId) (fz:Nat×Nat):zs_ (some (true,32)) (some (.cells (a8 x.l) E fz)) 0=some (.agg (a8 x.l)):=XH_ _ E fz 32 x.h
set_option linter.defProp false
def ks_:=And.intro (And.intro (@aih_) (@ag4_)) (And.intro (@j4_) (And.intro (@zi_) (@zh_)))
theorem abe_ (v:Value) (l:List IdL) (x:IdL) (w:World) (hv:IdS w v l) (hl:l.length<1000000):
  Rets Tryz.prog 79 #[v, .agg (a8 x.l)] w (fun v' D=>v'=vi (idxG x l 0)∧D= []):=by
 obtain⟨b,off,arr,E,fz,hr⟩:=hv.row
 have ln:=hv.len
 refine Rets.enterV Tryz.func79 rfl (rs:= [.tmp 4]) Tryz.results79 Tryz.ntmps79 ?_
 refine kf ?_
 first|with_reducible refine ks [] @ks_ ?_|refine kp @ks_ ?_
 refine Ow.box rfl rfl fun b1 hb1 hw1=> ?_
 simp only[z8_,z3_,z4_,zc_,List.nil_append,List.cons_append]
 refine Ow.go rfl ?_
 simp(disch:=(first|assumption|omega| (simp only[xg_,xe_,UInt64.reduceToNat];try omega))) only[↓Sx.S0,Sx.S1,Tryz.fx,ks_,Nat.reduceAdd,Nat.reducePow,Int.reducePow,Nat.reduceBEq, ↓reduceIte,UInt8.reduceToNat,UInt16.reduceToNat,UInt32.reduceToNat,UInt64.reduceToNat,Int.reduceToNat]
 first|with_reducible refine ks [] (And.intro @ks_ @ln) ?_|refine kp (And.intro @ks_ @ln) ?_
 refine Cw.loopG (G:=Nat) [9,10,5,11,12,13,14,15,16,17,4,18,8] (fun g=> [(8,vi g)]) (fun g=> [(b1, .cells (a8 x.l) 37 (0,0))]) (fun g=>g≤l.length∧idxG x l 0=idxG x (l.drop g) g) (fun g=>l.length - g) 0 rfl rfl ?_ ?_
 ·exact⟨Nat.zero_le _,rfl⟩
 ·intro k jk hk
  refine kv ?_
  obtain⟨h1,h2⟩:=hk
  by_cases hk:k<l.length
  ·have h0:0<l.length:=by omega
   have hbl:=hr.lt h0
   have hn1:b1≠b:=by omega
   have r2:=hr.has h0
   have i2:=hr.idx true k hk
   have l2:=JH_ hr hk
   rw[jA_ (z:=id0) hk,abq_] at h2
   first|with_reducible refine ks [] @ks_ ?_|refine kp @ks_ ?_
   refine Cw.regionS [b1,b] [1,2,3,0,4,5] [] (by kernel_rfl) (by kernel_rfl) (by kernel_rfl) ?_
   simp only[zg_, ↓zd_, ↓zb_, ↓zp_, ↓zq_,za_]
   refine kq (And.intro @ks_ (And.intro @i2 (And.intro @r2 (@l2)))) ?_
   cases hq: (x.l==(l.getD k id0).l)
   ·rw[hq,if_neg (by simp)] at h2
    first|with_reducible refine ks [] (And.intro @ks_ @hq) ?_|refine kp (And.intro @ks_ @hq) ?_
    exact Again.mk (k+1) (by omega) ⟨hk,h2⟩ rfl rfl
   ·rw[hq,if_pos rfl] at h2
    rw[h2]
    first|with_reducible refine ks [] (And.intro @ks_ @hq) ?_|refine kp (And.intro @ks_ @hq) ?_
    refine⟨_,(ke @ks_),⟨hw1,trivial⟩, ?_⟩
    rfl
  ·obtain rfl:k=l.length:=by omega
   rw[List.drop_length] at h2
   rw[h2]
   first|with_reducible refine ks [] @ks_ ?_|refine kp @ks_ ?_
   refine⟨_,(ke @ks_),⟨hw1,trivial⟩, ?_⟩
   rfl
theorem wT_ (v:Value) (l:List IdL) (x:IdL) (w:World) (hv:IdS w v l) (hl:l.length<1000000):
  Rets Tryz.prog 127 #[v, .agg (a8 x.l)] w (fun v' D=>v'= .bool (l.any fun y=>x.l==y.l)∧D= []):=by
 refine Rets.enterV Tryz.func127 rfl (rs:= [.tmp 4]) Tryz.results127 Tryz.ntmps127 ?_
 refine kf ?_
 first|with_reducible refine ks [] @ks_ ?_|refine kp @ks_ ?_
 refine Ow.box rfl rfl fun b1 hb1 hw1=> ?_
 simp only[z8_,z3_,z4_,zc_,List.nil_append,List.cons_append]
 refine Ow.go rfl ?_
 simp(disch:=(first|assumption|omega| (simp only[xg_,xe_,UInt64.reduceToNat];try omega))) only[↓Sx.S0,Sx.S1,Tryz.fx,ks_,Nat.reduceAdd,Nat.reducePow,Int.reducePow,Nat.reduceBEq, ↓reduceIte,UInt8.reduceToNat,UInt16.reduceToNat,UInt32.reduceToNat,UInt64.reduceToNat,Int.reduceToNat]
 first|with_reducible refine ks [] @ks_ ?_|refine kp @ks_ ?_
 refine Ow.callFV rfl Tryz.call79 (fun w' hw'=>abe_ v l x w' (hv.oldN hw' ⟨hw1,trivial⟩) hl) ?_
 refine ko @ks_ ?_
 refine⟨_,(ke @ks_),⟨hw1,trivial⟩, ?_⟩
 exact congrArg Value.bool (W4_ x l 0)
end Go.Proofs
end
section
open Go Go.Proofs Go.Sx Go.StP
namespace Go.Proofs
set_option maxRecDepth 100000
set_option maxHeartbeats 400000
set_option linter.unusedSimpArgs false
structure RwL where
 id:IdL
 place:Int
 spot:Int
def rwC (r:RwL):List Value:=r.id.l.map v8++ ([vi r.place]++ ([vi r.spot]))
def rw0:RwL:=⟨id0,0,0⟩
theorem zw_ (r:RwL): (rwC r).length=34:=by simp[rwC,r.id.h]
theorem z7_ (r:RwL):Value.cells (.agg (rwC r).toArray)=(rwC r).toArray:=zc_ _
theorem kL_ (r:RwL): (rwC r).all Value.oneCell'=true:=by
 unfold rwC
 simp only[List.all_append,List.all_cons,List.all_nil,Kb_,Bool.and_true,Bool.true_and]
 rfl
theorem zrRw:zE_ Tryz.prog 104=some (.agg (rwC rw0).toArray):=id (by kernel_rfl)
theorem ag6_:z2_ Tryz.prog 104=some (true,34):=id (by kernel_rfl)
theorem aiK_ (r:RwL):rwC r=([]:List Value)++ ((r.id.l.map v8)++ ([vi r.place]++ ([vi r.spot]))):=by
 unfold rwC;simp only[List.append_assoc,List.nil_append,List.append_nil]
theorem Zg_ (r:RwL) (E:TypeId) (fz:Nat×Nat):zs_ (some (true,32)) (some (.cells (rwC r).toArray E fz)) 0=some (Value.agg (a8 r.id.l)):=by
 rw[aiK_,Zi_ _ _ _ E fz (by simp) (by simp[r.id.h])];rfl
theorem arT_ (r:RwL): (rwC r).toArray.extract 0 32=a8 r.id.l:=by
 rw[aiK_];exact Wk_ (o:=0) (n:=32) _ _ _ (by simp) (by simp[r.id.h])
theorem acJ_ {w:World} {v:Value} {l:List RwL} {b off:Nat} {arr:Array Value} {E:TypeId} {fz:Nat×Nat} (h:RowS 34 rwC rw0 w v l b off arr E fz) {k:Nat} (hk:k<l.length):zs_ (some (true,32)) (some (.cells arr E fz)) (off+k*34+0)=some (Value.agg (a8 (l.getD k rw0).id.l)):=by
 rw[RowS.part h zw_ hk (by omega) (by omega),arT_]
theorem afm_ (r:RwL):rwC r=((r.id.l.map v8))++ (([vi r.place])++ ([vi r.spot])):=by
 unfold rwC;simp only[List.append_assoc,List.nil_append,List.append_nil]
theorem Qj_ (r:RwL) (n:Nat) (E:TypeId) (fz:Nat×Nat):zs_ (some (false,n)) (some (.cells (rwC r).toArray E fz)) 32=some (vi r.place):=by
 rw[afm_];exact kg_ _ _ _ n E fz (by simp[r.id.h])
theorem aok_ {w:World} {v:Value} {l:List RwL} {b off:Nat} {arr:Array Value} {E:TypeId} {fz:Nat×Nat} (h:RowS 34 rwC rw0 w v l b off arr E fz) {k:Nat} (hk:k<l.length) (n:Nat):zs_ (some (false,n)) (some (.cells arr E fz)) (off+k*34+32)=some (vi (l.getD k rw0).place):=by
 rw[RowS.cell h hk (by omega)];generalize l.getD k rw0=r;rw[afm_];exact JS_ _ _ _ (by simp[r.id.h])
theorem aie_ (r:RwL) (x:Int) (a:Bool) (E:TypeId):zl_ (some (a,1)) (some (.cells (rwC r).toArray E (0,0))) 32 (vi x)=some (.cells (rwC {r with place:=x}).toArray E (0,0)):=by
 rw[afm_ r,afm_ {r with place:=x}];exact zS_ _ _ _ _ a _ E (by simp[r.id.h]) rfl (rfl) rfl (rfl)
theorem afI_ (r:RwL):rwC r=((r.id.l.map v8)++ ([vi r.place]))++ (([vi r.spot])++ (([]:List Value))):=by
 unfold rwC;simp only[List.append_assoc,List.nil_append,List.append_nil]
theorem Qp_ (r:RwL) (n:Nat) (E:TypeId) (fz:Nat×Nat):zs_ (some (false,n)) (some (.cells (rwC r).toArray E fz)) 33=some (vi r.spot):=by
 rw[afI_];exact kg_ _ _ _ n E fz (by simp[r.id.h])
theorem ajz_ {w:World} {v:Value} {l:List RwL} {b off:Nat} {arr:Array Value} {E:TypeId} {fz:Nat×Nat} (h:RowS 34 rwC rw0 w v l b off arr E fz) {k:Nat} (hk:k<l.length) (n:Nat):zs_ (some (false,n)) (some (.cells arr E fz)) (off+k*34+33)=some (vi (l.getD k rw0).spot):=by
 rw[RowS.cell h hk (by omega)];generalize l.getD k rw0=r;rw[afI_];exact JS_ _ _ _ (by simp[r.id.h])
theorem ajo_ (r:RwL) (x:Int) (a:Bool) (E:TypeId):zl_ (some (a,1)) (some (.cells (rwC r).toArray E (0,0))) 33 (vi x)=some (.cells (rwC {r with spot:=x}).toArray E (0,0)):=by
 rw[afI_ r,afI_ {r with spot:=x}];exact zS_ _ _ _ _ a _ E (by simp[r.id.h]) rfl (rfl) rfl (rfl)
theorem vb_ (r:RwL) (E:TypeId) (fz:Nat×Nat):zs_ (some (true,34)) (some (.cells (rwC r).toArray E fz)) 0=some (.agg (rwC r).toArray):=v5_ _ E fz 34 (by rw[List.size_toArray,zw_])
theorem amb_ (old:Array Value) (r:RwL) (a:Bool) (E:TypeId) (h:old.size=34):zl_ (some (a,34)) (some (.cells old E (0,0))) 0 (.agg (rwC r).toArray)=some (.cells (rwC r).toArray E (0,0)):=kK_ _ a old E (zw_ r) (kL_ r) h
theorem jY_ (r r':RwL) (a:Bool) (E:TypeId):zl_ (some (a,34)) (some (.cells (rwC r').toArray E (0,0))) 0 (.agg (rwC r).toArray)=some (.cells (rwC r).toArray E (0,0)):=amb_ _ r a E (by rw[List.size_toArray,zw_])
theorem aqD_ {w:World} {v:Value} {l:List RwL} {b off:Nat} {arr:Array Value} {E:TypeId} {fz:Nat×Nat} (h:RowS 34 rwC rw0 w v l b off arr E fz) {k:Nat} (hk:k<l.length):zs_ (some (true,34)) (some (.cells arr E fz)) (off+k*34)=some (.agg (rwC (l.getD k rw0)).toArray):=RowS.load h zw_ (by omega) hk
theorem anr_ (r:RwL):qp_ (x3_ Tryz.prog 104) (zE_ Tryz.prog 104) [(0,Value.agg (a8 r.id.l)),(1,vi r.place),(2,vi r.spot)]=some (.agg (rwC r).toArray):=by
 have hp:x3_ Tryz.prog 104=some [(0,32),(32,1),(33,1)]:=id (by kernel_rfl)
 rw[hp,zrRw]
 have e0: (rwC rw0).toArray=(([]:List Value)++ ((rw0.id.l.map v8)++ ([vi rw0.place]++ ([vi rw0.spot])))).toArray:=by congr 1<;>simp only[rwC,List.append_assoc,List.nil_append,List.append_nil]
 have q0:wg_ (([]:List Value)++ ((rw0.id.l.map v8)++ ([vi rw0.place]++ ([vi rw0.spot])))).toArray 0 (r.id.l.map v8)=(([]:List Value)++ ((r.id.l.map v8)++ ([vi rw0.place]++ ([vi rw0.spot])))).toArray:=ZR_ _ _ _ _ (by simp) (by simp[rw0.id.h,r.id.h])
 have s0: (([]:List Value)++ ((rw0.id.l.map v8)++ ([vi rw0.place]++ ([vi rw0.spot])))).toArray.size=34:=by simp[r.id.h,rw0.id.h]
 have z0: (Value.cells (Value.agg (a8 r.id.l))).toList=r.id.l.map v8:=by rw[zc_];rfl
 have y0: (Value.cells (Value.agg (a8 r.id.l))).size=32:=by rw[←Array.length_toList,z0];simp[r.id.h]
 have e1: (([]:List Value)++ ((r.id.l.map v8)++ ([vi rw0.place]++ ([vi rw0.spot])))).toArray=(((r.id.l.map v8))++ (([vi rw0.place])++ ([vi rw0.spot]))).toArray:=by congr 1<;>simp only[rwC,List.append_assoc,List.nil_append,List.append_nil]
 have q1:wg_ (((r.id.l.map v8))++ (([vi rw0.place])++ ([vi rw0.spot]))).toArray 32 ([vi r.place])=(((r.id.l.map v8))++ (([vi r.place])++ ([vi rw0.spot]))).toArray:=ZR_ _ _ _ _ (by simp[r.id.h]) (rfl)
 have s1: (((r.id.l.map v8))++ (([vi rw0.place])++ ([vi rw0.spot]))).toArray.size=34:=by simp[r.id.h,rw0.id.h]
 have z1: (Value.cells (vi r.place)).toList= [vi r.place]:=by rfl
 have y1: (Value.cells (vi r.place)).size=1:=by rw[←Array.length_toList,z1];simp
 have e2: (((r.id.l.map v8))++ (([vi r.place])++ ([vi rw0.spot]))).toArray=(((r.id.l.map v8)++ ([vi r.place]))++ (([vi rw0.spot])++ (([]:List Value)))).toArray:=by congr 1<;>simp only[rwC,List.append_assoc,List.nil_append,List.append_nil]
 have q2:wg_ (((r.id.l.map v8)++ ([vi r.place]))++ (([vi rw0.spot])++ (([]:List Value)))).toArray 33 ([vi r.spot])=(((r.id.l.map v8)++ ([vi r.place]))++ (([vi r.spot])++ (([]:List Value)))).toArray:=ZR_ _ _ _ _ (by simp[r.id.h]) (rfl)
 have s2: (((r.id.l.map v8)++ ([vi r.place]))++ (([vi rw0.spot])++ (([]:List Value)))).toArray.size=34:=by simp[r.id.h,rw0.id.h]
 have z2: (Value.cells (vi r.spot)).toList= [vi r.spot]:=by rfl
 have y2: (Value.cells (vi r.spot)).size=1:=by rw[←Array.length_toList,z2];simp
 have e3: (((r.id.l.map v8)++ ([vi r.place]))++ (([vi r.spot])++ (([]:List Value)))).toArray=(rwC r).toArray:=by congr 1<;>simp only[rwC,List.append_assoc,List.nil_append,List.append_nil]
 simp only[qp_]
 rw[e0]
 unfold fillV
 simp only[List.getElem?_cons_zero,List.getElem?_cons_succ,z0,y0]
 rw[if_pos ⟨trivial,by rw[s0];decide⟩,q0]
 rw[e1]
 unfold fillV
 simp only[List.getElem?_cons_zero,List.getElem?_cons_succ,z1,y1]
 rw[if_pos ⟨trivial,by rw[s1];decide⟩,q1]
 rw[e2]
 unfold fillV
 simp only[List.getElem?_cons_zero,List.getElem?_cons_succ,z2,y2]
 rw[if_pos ⟨trivial,by rw[s2];decide⟩,q2]
 rw[e3];rfl
theorem akc_: ∀ (a b:List UInt8),Lib.compareBytes a b=if ltB a b=true then -1 else if ltB b a=true then 1 else 0
 | [],[]=>by simp[Lib.compareBytes,ltB,Op.bytesLess]
 |_::_,[]=>by simp[Lib.compareBytes,ltB,Op.bytesLess]
 | [],_::_=>by simp[Lib.compareBytes,ltB,Op.bytesLess]
 |a::x,b::y=>by
  have ih:=akc_ x y
  unfold Lib.compareBytes
  rw[QA_,QA_] at*
  rw[ih]
  simp only[List.cons_lt_cons_iff,decide_eq_true_eq]
  by_cases h1:a<b
  ·simp[h1]
  ·by_cases h2:b<a
   ·have: ¬a=b:=fun e=>by subst e;exact h1 h2
    simp[h1,h2,this]
   ·have:a=b:=UInt8.le_antisymm (UInt8.not_lt.1 h2) (UInt8.not_lt.1 h1)
    subst this
    simp[h1]
theorem Zz_ {b:Nat} {E:TypeId} {fz:Nat×Nat} {arr:Array Value} {w:World} (hb:w.heap[b]? =some (.cells arr E fz)): ∀ (l:List UInt8) (off:Nat) (acc:ByteArray),(∀j,j<l.length→arr[off+j]? =some (v8 (l.getD j 0)))→
  (Extern.Bytes.loadBytes ⟨b,off,none⟩ l.length acc).run Tryz.prog w= .ok (acc++ ⟨l.toArray⟩) w
 | [],off,acc,_=>by
  show Result.ok acc w=_
  congr 1
  apply ByteArray.ext
  simp
 |x::l,off,acc,h=>by
  have h0:=h 0 (by simp)
  simp only[Nat.add_zero,List.getD_cons_zero] at h0
  have hc:w.cell? ⟨b,off,none⟩=some (v8 x):=by rw[cell_of_row w b _ arr E fz hb];exact h0
  have hld: (load ⟨b,off,none⟩).run Tryz.prog w= .ok (v8 x) w:=by
   simp only[load,Sem.run,hc]
  rw[List.length_cons,Extern.Bytes.loadBytes,Sem.run_bind,hld,Result.andThen_ok]
  simp only[v8,j5_]
  have e: ((x.toNat:Int).toNat.toUInt8)=x:=by
   rw[Int.toNat_natCast]
   exact UInt8.ofNat_toNat
  rw[e,Zz_ hb l (off+1) _ (fun j hj=>by
   have:=h (j+1) (by simpa using hj)
   rw[List.getD_cons_succ] at this
   rw[←this];congr 1;omega)]
  congr 1
  apply ByteArray.ext
  simp
def v8_ (arr:Array Value) (off:Nat) (l:List UInt8):Prop:= ∀j,j<l.length→arr[off+j]? =some (v8 (l.getD j 0))
theorem Jo_ {b off c:Nat} {l:List UInt8} {arr:Array Value} {E:TypeId} {fz:Nat×Nat} {w:World} (hb:w.heap[b]? =some (.cells arr E fz)) (h:v8_ arr off l): (Extern.Bytes.bytesOf (vsl b off l.length c)).run Tryz.prog w= .ok ⟨l.toArray⟩ w:=by
 have h:=Zz_ hb l off .empty h
 show(Extern.Bytes.loadBytes ⟨b,off,none⟩ l.length .empty).run Tryz.prog w=_
 rw[h]
 congr 1
theorem aib_ {b o1 k1 c o2 k2:Nat} {l m:List UInt8} {a1 a2:Array Value} {E E2:TypeId} {f1 f2:Nat×Nat} {w:World} (hb:w.heap[b]? =some (.cells a1 E f1)) (h1:v8_ a1 o1 l) (hc:w.heap[c]? =some (.cells a2 E2 f2)) (h2:v8_ a2 o2 m):
  (callFunc 152 #[vsl b o1 l.length k1,vsl c o2 m.length k2]).run Tryz.prog w= .ok (.value (vi (Lib.compareBytes l m))) w:=by
 rw[run_callFunc_extern Tryz.func152 (by kernel_rfl) (by kernel_rfl) (by kernel_rfl) (e:=Extern.BytealgCompare.compare) (by kernel_rfl)]
 show((Extern.BytealgCompare.compare #[vsl b o1 l.length k1,vsl c o2 m.length k2]).run Tryz.prog w).andThen _=_
 have: (Extern.BytealgCompare.compare #[vsl b o1 l.length k1,vsl c o2 m.length k2]).run Tryz.prog w= .ok (vi (Lib.compareBytes l m)) w:=by
  change Sem.run Tryz.prog (do pure (goInt (Extern.BytealgCompare.cmp (←Extern.Bytes.bytesOf _) (←Extern.Bytes.bytesOf _)))) w=_
  have h1:=Jo_ (c:=k1) hb h1
  have h2:=Jo_ (c:=k2) hc h2
  rw[Sem.run_bind]
  erw[h1]
  rw[Result.andThen_ok,Sem.run_bind]
  erw[h2]
  rw[Result.andThen_ok,Lib.cmp_eq]
  rfl
 rw[this];rfl
theorem ajJ_ {b o1 k1 c o2 k2:Nat} {l m:List UInt8} {a1 a2:Array Value} {E E2:TypeId} {f1 f2:Nat×Nat} {w:World} (hb:w.heap[b]? =some (.cells a1 E f1)) (h1:v8_ a1 o1 l) (hc:w.heap[c]? =some (.cells a2 E2 f2)) (h2:v8_ a2 o2 m):
  Rets Tryz.prog 121 #[vsl b o1 l.length k1,vsl c o2 m.length k2] w (fun v D=>v=vi (Lib.compareBytes l m)∧D= []):=by
 have hr:=aib_ (k1:=k1) (k2:=k2) hb h1 hc h2
 have hcc:Calls Tryz.prog 121 #[vsl b o1 l.length k1,vsl c o2 m.length k2] w fun e w'=>e= .returned (vi (Lib.compareBytes l m))∧w'=w:=by
  generalize vsl b o1 l.length k1=x at hr ⊢
  generalize vsl c o2 m.length k2=y at hr ⊢
  go_enter Tryz.func121,Tryz.ntmps121
  go_wp2
  go_ret
  exact⟨rfl,rfl⟩
 refine Calls.mono hcc ?_
 rintro e w' ⟨rfl,rfl⟩
 exact⟨_,[],rfl,Hp.refl _,rfl,rfl⟩
def cmpI (x y:IdL):Int:=cmpS x.l y.l
theorem ap2_ {b o1 k1 c o2 k2:Nat} {x y:IdL} {a1 a2:Array Value} {E E2:TypeId} {f1 f2:Nat×Nat} {w:World} (hb:w.heap[b]? =some (.cells a1 E f1)) (h1:v8_ a1 o1 x.l) (hc:w.heap[c]? =some (.cells a2 E2 f2)) (h2:v8_ a2 o2 y.l):
  Rets Tryz.prog 121 #[vsl b o1 32 k1,vsl c o2 32 k2] w (fun v D=>v=vi (cmpI x y)∧D= []):=by
 have h:=ajJ_ (k1:=k1) (k2:=k2) hb h1 hc h2
 rw[x.h,y.h,akc_] at h
 exact h
theorem afo_ (r:RwL):v8_ (rwC r).toArray 0 r.id.l:=by
 intro j hj
 rw[Nat.zero_add,List.getElem?_toArray,aiK_,List.nil_append,List.getElem?_append_left (by simpa using hj),List.getElem?_map,List.getElem?_eq_getElem hj,List.getD_eq_getElem?_getD,List.getElem?_eq_getElem hj]
 rfl
set_option linter.defProp false
def aat_:=And.intro (@zi_) (And.intro (@zh_) (@z7_))
theorem V9_ (a b:RwL) (w:World):Rets Tryz.prog 109 #[.agg (rwC a).toArray, .agg (rwC b).toArray] w (fun v D=>v=vi (cmpI a.id b.id)∧D= []):=by
 refine Rets.enterV Tryz.func109 rfl (rs:= [.tmp 4]) Tryz.results109 Tryz.ntmps109 ?_
 refine kf ?_
 first|with_reducible refine ks [] @aat_ ?_|refine kp @aat_ ?_
 refine Ow.box rfl rfl fun b1 hb1 hw1=> ?_
 simp only[z8_,z3_,z4_,zc_,List.nil_append,List.cons_append]
 refine Ow.go rfl ?_
 simp(disch:=(first|assumption|omega| (simp only[xg_,xe_,UInt64.reduceToNat];try omega))) only[↓Sx.S0,Sx.S1,Tryz.fx,aat_,Nat.reduceAdd,Nat.reducePow,Int.reducePow,Nat.reduceBEq, ↓reduceIte,UInt8.reduceToNat,UInt16.reduceToNat,UInt32.reduceToNat,UInt64.reduceToNat,Int.reduceToNat]
 refine Ow.box rfl rfl fun b2 hb2 hw2=> ?_
 simp only[z8_,z3_,z4_,zc_,List.nil_append,List.cons_append]
 refine Ow.go rfl ?_
 simp(disch:=(first|assumption|omega| (simp only[xg_,xe_,UInt64.reduceToNat];try omega))) only[↓Sx.S0,Sx.S1,Tryz.fx,aat_,Nat.reduceAdd,Nat.reducePow,Int.reducePow,Nat.reduceBEq, ↓reduceIte,UInt8.reduceToNat,UInt16.reduceToNat,UInt32.reduceToNat,UInt64.reduceToNat,Int.reduceToNat]
 obtain⟨h12,-⟩:=hb2
 have hn:b1≠b2:=by omega
 first|with_reducible refine ks [] @aat_ ?_|refine kp @aat_ ?_
 refine Cw.regionS [b1,b2] [0,1,2,3,4,5] [] (by kernel_rfl) (by kernel_rfl) (by kernel_rfl) ?_
 simp only[zg_, ↓zd_, ↓zb_, ↓zp_, ↓zq_,za_]
 refine kq @aat_ ?_
 refine Ow.soft rfl rfl rfl ?_
 refine Ow.callFV rfl Tryz.call121 (fun w' hw'=>ap2_ (x:=a.id) (y:=b.id) (hw'.has b1 (.cells (rwC a).toArray 104 (0,0)) (by simp)) (afo_ a) (hw'.has b2 (.cells (rwC b).toArray 104 (0,0)) (by simp)) (afo_ b)) ?_
 with_reducible refine Ow.nil ?_
 refine⟨by intro b hb;simp only[List.mem_cons,List.not_mem_nil,or_false] at hb;(try subst hb);rfl, ?_⟩
 refine kq @aat_ ?_
 refine⟨_,(ke @aat_),⟨hw1,hw2,trivial⟩, ?_⟩
 rfl
def vT_ (a b:RwL):Int:=cmpS a.id.l b.id.l
theorem kd_ (a b:RwL) (w:World):Rets Tryz.prog 109 #[.agg (rwC a).toArray, .agg (rwC b).toArray] w (fun v D=>v=vi (vT_ a b)∧D= []):=V9_ a b w
end Go.Proofs
end
section
open Go Go.Proofs Go.Sx Go.StP
namespace Go.Proofs
set_option maxRecDepth 10000
set_option maxHeartbeats 4000000
set_option linter.unusedSimpArgs false
abbrev zD_ (rest:List Value) (d:List RwL):Obj:=rowO rwC 104 rest d
theorem kb_ {rest:List Value} {d:List RwL} (k:Nat) (hk:k<d.length):zs_ (some (true,34)) (some (zD_ rest d)) (k*34)=some (.agg (rwC (d.getD k rw0)).toArray):=afQ_ (z:=rw0) zw_ k hk
theorem xI_ {rest:List Value} {d:List RwL} (k:Nat) (x:RwL) (a:Bool) (hk:k<d.length):zl_ (some (a,34)) (some (zD_ rest d)) (k*34) (.agg (rwC x).toArray)=some (zD_ rest (d.set k x)):=ab7_ zw_ kL_ k x a hk
set_option linter.defProp false
def kP_:=And.intro (And.intro (@kb_) (@xI_)) (And.intro (@vb_) (And.intro (@jY_) (@z7_)))
theorem xq_ (rb n c:Nat) (A X M Y C:List RwL) (rest:List Value) (fv:Value) (a b k:Nat) (w:World) (hX:X.length=k) (hY:Y.length=k) (ha:A.length=a) (hb:b=a+k+M.length) (hn:n=a+k+M.length+k+C.length) (hs:n<1000000)
  (ho:w.heap[rb]? =some (zD_ rest (A++ (X++ (M++ (Y++C)))))):
  Rets Tryz.prog 225 #[vsl rb 0 n c,vi a,vi b,vi k,fv] w (fun v D=> ∃o,D= [(rb,o)]∧v= .tuple #[]∧o=zD_ rest (A++ (Y++ (M++ (X++C))))):=by
 refine Rets.enterM Tryz.func225 rfl (rs:= []) Tryz.results225 Tryz.ntmps225 ho ?_
 refine kf ?_
 first|with_reducible refine ks [] @kP_ ?_|refine kp @kP_ ?_
 subst ha hb hn
 refine Cw.loopG (G:=Nat) [11,12,13,16,17,18,19,20,21,22,23,24,25,26,27,28,29,30,31,32,33,34,35,36,37,14,15,10] (fun g=> [(10,vi g)]) (fun g=> [(rb,zD_ rest (swp A X M Y C g))]) (fun g=>g≤k) (fun g=>k - g) 0 rfl rfl ?_ ?_
 ·exact Nat.zero_le _
 ·intro g j hg
  refine kv ?_
  by_cases hlt:g<k
  ·first|with_reducible refine ks [] @kP_ ?_|refine kp @kP_ ?_
   have hl:=apq_ (a:=A) (m:=M) (c:=C) hX hY hg
   have h1:=arH_ (a:=A) (m:=M) (c:=C) (z:=rw0) hX hY hlt rfl
   have h2:=arI_ (a:=A) (m:=M) (c:=C) (z:=rw0) hX hY hlt rfl
   refine Cw.regionS [rb] [0,1,2,3,4,5,6,7,8,9,10,11,12,14,15,16,17,18,13,19,20,21,22,23] [21,23] (by kernel_rfl) (by kernel_rfl) (by kernel_rfl) ?_
   simp only[zg_, ↓zd_, ↓zb_, ↓zp_, ↓zq_,za_]
   refine kq @kP_ ?_
   refine Ow.store rfl rfl rfl (ke @kP_) ?_
   refine ko @kP_ ?_
   rw[h1,h2]
   refine Again.mk (g+1) (by omega) (by omega) ?_ rfl
   rw[ant_ hX hY hlt rfl rfl]
  ·obtain rfl:g=k:=by omega
   first|with_reducible refine ks [] @kP_ ?_|refine kp @kP_ ?_
   refine⟨_,_,_,(ke @kP_),rfl,trivial, ?_⟩
   exact⟨rfl,by unfold swp;rw[List.take_of_length_le (by omega),List.take_of_length_le (by omega),List.drop_eq_nil_of_le (by omega),List.drop_eq_nil_of_le (by omega),List.append_nil,List.append_nil]⟩
structure rws_RotG where
 A:List RwL
 U:List RwL
 V:List RwL
 B:List RwL
theorem Kj_ (rb n c:Nat) (A U V B:List RwL) (rest:List Value) (fv:Value) (a m b:Nat) (w:World) (hU:0<U.length) (hV:0<V.length) (ha:A.length=a) (hm:m=a+U.length) (hb:b=m+V.length) (hn:n=b+B.length) (hs:n<1000000)
  (ho:w.heap[rb]? =some (zD_ rest (A++ (U++ (V++B))))):
  Rets Tryz.prog 204 #[vsl rb 0 n c,vi a,vi m,vi b,fv] w (fun v D=> ∃o,D= [(rb,o)]∧v= .tuple #[]∧o=zD_ rest (A++ (V++ (U++B)))):=by
 have e1: (m:Int) - a=(U.length:Nat):=by omega
 have e2: (b:Int) - m=(V.length:Nat):=by omega
 refine Rets.enterM Tryz.func204 rfl (rs:= []) Tryz.results204 Tryz.ntmps204 ho ?_
 refine kf ?_
 first|with_reducible refine ks [] (And.intro @kP_ (And.intro @e1 (@e2))) ?_|refine kp (And.intro @kP_ (And.intro @e1 (@e2))) ?_
 refine Cw.loopG (G:=rws_RotG) [18,19,20,21,22,23,24,25,26,27,28,29,30,31,32,33,34,10,35,36,37,38,39,40,41,42,43,44,45,46,47,48,49,11] (fun g=> [(10,vi g.U.length),(11,vi g.V.length)]) (fun g=> [(rb,zD_ rest (g.A++ (g.U++ (g.V++g.B))))]) (fun g=>0<g.U.length∧0<g.V.length∧g.A.length+g.U.length=m∧g.A++ (g.V++ (g.U++g.B))=A++ (V++ (U++B))∧m+g.V.length+g.B.length=n) (fun g=>g.U.length+g.V.length) ⟨A,U,V,B⟩ rfl rfl ?_ ?_
 ·exact⟨hU,hV,by show A.length+U.length=m;omega,rfl,by show m+V.length+B.length=n;omega⟩
 ·intro g j hg
  refine kv ?_
  obtain⟨A',U',V',B'⟩:=g
  obtain⟨hu,hv,hA,hT,hN⟩:=hg
  dsimp only at hu hv hA hT hN ⊢
  have e3: (m:Int) - U'.length=(A'.length:Nat):=by omega
  by_cases h1:U'.length=V'.length
  ·first|with_reducible refine ks [] (And.intro @kP_ @e3) ?_|refine kp (And.intro @kP_ @e3) ?_
   refine Ow.callM rfl rfl Tryz.call225 (by simp[keys]) (fun w' hw'=>xq_ rb n c A' U' [] V' B' rest fv A'.length m U'.length w' rfl h1.symm rfl (by simp only[List.length_nil];omega) (by simp only[List.length_nil];omega) hs (hw'.has _ _ List.mem_cons_self)) ?_
   refine ko @kP_ ?_
   refine⟨_,_,_,(ke @kP_),rfl,trivial, ?_⟩
   exact⟨rfl,congrArg (zD_ rest) hT⟩
  ·by_cases h2:V'.length<U'.length
   ·obtain⟨U1,U2,rfl,hU1⟩:=aiz_ U' (Nat.le_of_lt h2)
    rw[List.length_append] at hA h2 hu h1
    have e4: (m:Int) - (U1++U2).length=(A'.length:Nat):=by rw[List.length_append];omega
    first|with_reducible refine ks [] (And.intro @kP_ @e4) ?_|refine kp (And.intro @kP_ @e4) ?_
    refine Ow.callM rfl rfl Tryz.call225 (by simp[keys]) (fun w' hw'=>xq_ rb n c A' U1 U2 V' B' rest fv A'.length m V'.length w' hU1 rfl rfl (by omega) (by omega) hs (by rw[←List.append_assoc U1];exact hw'.has _ _ List.mem_cons_self)) ?_
    have e5: ((U1++U2).length:Int) - (V'.length:Int)=(U2.length:Nat):=by rw[List.length_append];omega
    refine ko (And.intro @kP_ @e5) ?_
    refine Again.mk ⟨A'++V',U2,U1,B'⟩ (by simp only[List.length_append];omega) ⟨by show 0<U2.length;omega,by show 0<U1.length;omega,by simp only[List.length_append];omega, ?_,by show m+U1.length+B'.length=n;omega⟩ ?_ ?_
    ·rw[←hT];simp only[List.append_assoc]
    ·simp only[List.append_assoc]
    ·dsimp only;rw[hU1];rfl
   ·obtain⟨V1,V2,rfl,hV1⟩:=aiz_ V' (show V'.length - U'.length≤V'.length by omega)
    rw[List.length_append] at hN h2 hv h1 hV1
    have e4: (m:Int)+ (V1++V2).length - U'.length=((A'.length+U'.length+V1.length:Nat):Int):=by rw[List.length_append];omega
    first|with_reducible refine ks [] (And.intro @kP_ (And.intro @e3 (@e4))) ?_|refine kp (And.intro @kP_ (And.intro @e3 (@e4))) ?_
    refine Ow.callM rfl rfl Tryz.call225 (by simp[keys]) (fun w' hw'=>xq_ rb n c A' U' V1 V2 B' rest fv A'.length (A'.length+U'.length+V1.length) U'.length w' rfl (by omega) rfl (by omega) (by omega) hs (by rw[←List.append_assoc V1];exact hw'.has _ _ List.mem_cons_self)) ?_
    have e5: ((V1++V2).length:Int) - (U'.length:Int)=(V1.length:Nat):=by rw[List.length_append];omega
    have e6:V2.length=U'.length:=by omega
    refine ko (And.intro @kP_ @e5) ?_
    refine Again.mk ⟨A',V2,V1,U'++B'⟩ (by simp only[List.length_append];omega) ⟨by show 0<V2.length;omega,by show 0<V1.length;omega,by show A'.length+V2.length=m;omega, ?_,by simp only[List.length_append];omega⟩ ?_ ?_
    ·rw[←hT];simp only[List.append_assoc]
    ·simp only[List.append_assoc]
    ·dsimp only;rw[e6];rfl
end Go.Proofs
end
