/- The functions of this seat: their compiled code is what the library says of it, so that the contracts hold of them. -/
import Derived.Test.YtebpminoibmngaaGreatChecked
import Derived.Test.YtebpminoibmngaaGreatPk7
import Derived.Test.YtebpminoibmngaaGreatEach2
namespace Go.Proofs.YtebpminoibmngaaGreat
open Go.Eng
set_option maxRecDepth 100000
theorem hm : Tryz.prog.follows .mixedOrders = true := by kernel_rfl
theorem cf76 : cFn Tryz.prog 76 = some cc_law00_At := by kernel_rfl
theorem s76 : At.Spec (Pure Tryz.prog) 76 := At.ok hm cf76
theorem cf10 : cFn Tryz.prog 10 = some cc_law00_Place := by kernel_rfl
theorem s10 : Place.Spec (Pure Tryz.prog) 10 := Place.ok hm cf10
theorem cf41 : cFn Tryz.prog 41 = some (cc_law00_from 76 10) := by kernel_rfl
theorem s41 : from.Spec (Pure Tryz.prog) 41 := from.ok hm cf41 s76 s10
theorem cf38 : cFn Tryz.prog 38 = some (cc_law00_rows 41 3 42) := by kernel_rfl
theorem s38 : rows.Spec (Pure Tryz.prog) 38 := rows.ok hm cf38 s41
theorem cf39 : cFn Tryz.prog 39 = some (cc_law00_phase 41) := by kernel_rfl
theorem s39 : phase.Spec (Pure Tryz.prog) 39 := phase.ok hm cf39 s41
theorem cf88 : cFn Tryz.prog 88 = some (cc_ref08_Spots 94) := by kernel_rfl
theorem s88 : spots.Spec (Pure Tryz.prog) 88 94 := spots.ok hm cf88
theorem cf75 : cFn Tryz.prog 75 = some (cc_ref08_Where 88) := by kernel_rfl
theorem s75 : where.Spec (Pure Tryz.prog) 75 := where.ok hm cf75 s88
theorem cf40 : cFn Tryz.prog 40 = some (cc_ref08_Beside 75) := by kernel_rfl
theorem s40 : beside.Spec (Pure Tryz.prog) 40 := beside.ok hm cf40 s75
theorem cf53 : cFn Tryz.prog 53 = some cc_ref01_Has := by kernel_rfl
theorem s53 : refHas.Spec (Pure Tryz.prog) 53 := refHas.ok hm cf53
theorem cf49 : cFn Tryz.prog 49 = some (cc_ref01_List 53 3) := by kernel_rfl
theorem s49 : refList.Spec (Pure Tryz.prog) 49 3 := refList.ok hm cf49 s53
theorem cf77 : cFn Tryz.prog 77 = some cc_ref01_Of := by kernel_rfl
theorem s77 : refOf.Spec (Pure Tryz.prog) 77 := refOf.ok hm cf77
theorem cf42 : cFn Tryz.prog 42 = some (cc_ref01_With 49 3 77) := by kernel_rfl
theorem s42 : refWith.Spec (Pure Tryz.prog) 42 := refWith.ok hm cf42 s49 s77
theorem cf43 : cFn Tryz.prog 43 = some (cc_law00_detector 41) := by kernel_rfl
theorem s43 : detector.Spec (Pure Tryz.prog) 43 := detector.ok hm cf43 s41
theorem cf78 : cFn Tryz.prog 78 = some (cc_law00_with 3 77 40 42) := by kernel_rfl
theorem s78 : with.Spec (Pure Tryz.prog) 78 := with.ok hm cf78 s77 s40 s42
theorem cf44 : cFn Tryz.prog 44 = some (cc_law00_rail 41 78) := by kernel_rfl
theorem s44 : rail.Spec (Pure Tryz.prog) 44 := rail.ok hm cf44 s41 s78
theorem cf48 : cFn Tryz.prog 48 = some (cc_ref08_On 3 77) := by kernel_rfl
theorem s48_1 : on.Spec (Pure Tryz.prog) 48 := on.ok hm cf48 s77
theorem cf130 : cFn Tryz.prog 130 = some cc_ref01_Cut := by kernel_rfl
theorem s130 : Cut.Spec (Pure Tryz.prog) 130 := Cut.ok hm cf130
theorem cf112 : cFn Tryz.prog 112 = some (cc_ref01_Cap 130) := by kernel_rfl
theorem s112 : Cap.Spec (Pure Tryz.prog) 112 := Cap.ok hm cf112 s130
theorem cf129 : cFn Tryz.prog 129 = some (cc_ref01_Add 112) := by kernel_rfl
theorem s129 : Add.Spec (Pure Tryz.prog) 129 := Add.ok hm cf129 s112
theorem cf111 : cFn Tryz.prog 111 = some (cc_ref01_Sum 129) := by kernel_rfl
theorem s111 : sum1.Spec (Pure Tryz.prog) 111 := Sum.ok hm cf111 s129
theorem cf80 : cFn Tryz.prog 80 = some (cc_ref08_sum 111) := by kernel_rfl
theorem s80 : sum1.Spec (Pure Tryz.prog) 80 := sum1.ok hm cf80 s111
theorem cf114 : cFn Tryz.prog 114 = some cc_ref08_most := by kernel_rfl
theorem s114 : most.Spec (Pure Tryz.prog) 114 := most.ok hm cf114
theorem cf128 : cFn Tryz.prog 128 = some (cc_ref08_Serve 48 53 112 3 80 114) := by kernel_rfl
theorem s128 : serve.Spec (Pure Tryz.prog) 128 := serve.ok hm cf128 s48_1 s53 s112 s80 s114
theorem cf110 : cFn Tryz.prog 110 = some (cc_ref08_Pass 3 88 128 80) := by kernel_rfl
theorem s110 : pass.Spec (Pure Tryz.prog) 110 := pass.ok hm cf110 s88 s128 s80
theorem cf79 : cFn Tryz.prog 79 = some (cc_ref08_Free 75 48 53 110 3 80) := by kernel_rfl
theorem s79 : free.Spec (Pure Tryz.prog) 79 := free.ok hm cf79 s75 s48_1 s53 s110 s80
theorem cf115 : cFn Tryz.prog 115 = some (cc_ref08_clear 48 49 3 80 114) := by kernel_rfl
theorem s115 : clear.Spec (Pure Tryz.prog) 115 := clear.ok hm cf115 s48_1 s49 s80 s114
theorem cf113 : cFn Tryz.prog 113 = some (cc_ref08_Entry 115 3 80) := by kernel_rfl
theorem s113 : entry.Spec (Pure Tryz.prog) 113 := entry.ok hm cf113 s115 s80
theorem cf82 : cFn Tryz.prog 82 = some (cc_ref08_Over 113 3 80 48 49 112 114 115) := by kernel_rfl
theorem s82 : over.Spec (Pure Tryz.prog) 82 := over.ok hm cf82 s113 s80 s48_1 s49 s112 s114 s115
theorem cf81 : cFn Tryz.prog 81 = some (cc_ref01_Mul 112) := by kernel_rfl
theorem s81 : Mul.Spec (Pure Tryz.prog) 81 := Mul.ok hm cf81 s112
theorem cf45 : cFn Tryz.prog 45 = some (cc_ref08_Wait 79 3 80 82 81) := by kernel_rfl
theorem s45 : wait.Spec (Pure Tryz.prog) 45 := wait.ok hm cf45 s79 s80 s82 s81
theorem cf8 : cFn Tryz.prog 8 = some (cc_law00_Table 38 39 40 41 42 43 46 44 48 50 45) := by kernel_rfl
theorem s8 : Table.Spec (Pure Tryz.prog) 8 := Table.ok hm cf8 s38 s39 s40 s41 s42 s43 s44 s45
theorem cf92 : cFn Tryz.prog 92 = some cc_table_every_api_Phase_1 := by kernel_rfl
theorem s92 : ev1P.Spec (Pure Tryz.prog) 92 := ev1P.ok hm cf92
theorem cf118 : cFn Tryz.prog 118 = some cc_slices_IndexFunc_api_Phase_api_Phase := by kernel_rfl
theorem s118 : idxP.Spec (Pure Tryz.prog) 118 := idxP.ok hm cf118
theorem cf91 : cFn Tryz.prog 91 = some (cc_slices_ContainsFunc_api_Phase_api_Phase 118) := by kernel_rfl
theorem s91 : conP.Spec (Pure Tryz.prog) 91 := conP.ok hm cf91 s118
theorem cf57 : cFn Tryz.prog 57 = some (cc_table_every_api_Phase 92 91) := by kernel_rfl
theorem s57 : evP.Spec (Pure Tryz.prog) 57 := evP.ok hm cf57 s92 s91
theorem cf98 : cFn Tryz.prog 98 = some cc_table_within_1 := by kernel_rfl
theorem s98 : with1.Spec (Pure Tryz.prog) 98 := with1.ok hm cf98
theorem cf121 : cFn Tryz.prog 121 = some cc_table_every_int_1 := by kernel_rfl
theorem s121 : ev1I.Spec (Pure Tryz.prog) 121 := ev1I.ok hm cf121
theorem cf132 : cFn Tryz.prog 132 = some cc_slices_IndexFunc_int_int := by kernel_rfl
theorem s132 : idxI.Spec (Pure Tryz.prog) 132 := idxI.ok hm cf132
theorem cf120 : cFn Tryz.prog 120 = some (cc_slices_ContainsFunc_int_int 132) := by kernel_rfl
theorem s120 : conI.Spec (Pure Tryz.prog) 120 := conI.ok hm cf120 s132
theorem cf96 : cFn Tryz.prog 96 = some (cc_table_every_int 121 120) := by kernel_rfl
theorem s96 : evI.Spec (Pure Tryz.prog) 96 := evI.ok hm cf96 s121 s120
theorem cf61 : cFn Tryz.prog 61 = some (cc_table_within 98 96) := by kernel_rfl
theorem s61 : within.Spec (Pure Tryz.prog) 61 := within.ok hm cf61 s98 s96
theorem cf68 : cFn Tryz.prog 68 = some (cc_table_times 61) := by kernel_rfl
theorem s68 : tTimes.Spec (Pure Tryz.prog) 68 := tTimes.ok hm cf68 s61
theorem cf58 : cFn Tryz.prog 58 = some (cc_table_phase 3 68 61) := by kernel_rfl
theorem s58 : tPhase.Spec (Pure Tryz.prog) 58 := tPhase.ok hm cf58 s68 s61
theorem cf94 : cFn Tryz.prog 94 = some cc_table_every_2_int_1 := by kernel_rfl
theorem s94 : ev1G.Spec (Pure Tryz.prog) 94 := ev1G.ok hm cf94
theorem cf119 : cFn Tryz.prog 119 = some cc_slices_IndexFunc_2_int_2_int := by kernel_rfl
theorem s119 : idxG.Spec (Pure Tryz.prog) 119 := idxG.ok hm cf119
theorem cf93 : cFn Tryz.prog 93 = some (cc_slices_ContainsFunc_2_int_2_int 119) := by kernel_rfl
theorem s93 : conG.Spec (Pure Tryz.prog) 93 := conG.ok hm cf93 s119
theorem cf59 : cFn Tryz.prog 59 = some (cc_table_every_2_int 94 93) := by kernel_rfl
theorem s59 : evG.Spec (Pure Tryz.prog) 59 := evG.ok hm cf59 s94 s93
theorem cf97 : cFn Tryz.prog 97 = some (cc_table_group_1_1 3 61) := by kernel_rfl
theorem s97 : tG11.Spec (Pure Tryz.prog) 97 := tG11.ok hm cf97 s61
theorem cf95 : cFn Tryz.prog 95 = some (cc_table_group_1 96 97) := by kernel_rfl
theorem s95 : tG1.Spec (Pure Tryz.prog) 95 := tG1.ok hm cf95 s96 s97
theorem cf60 : cFn Tryz.prog 60 = some (cc_table_group 95) := by kernel_rfl
theorem s60 : tGroup.Spec (Pure Tryz.prog) 60 := tGroup.ok hm cf60 s95
theorem cf100 : cFn Tryz.prog 100 = some cc_table_every_api_Detector_1 := by kernel_rfl
theorem s100 : ev1D.Spec (Pure Tryz.prog) 100 := ev1D.ok hm cf100
theorem cf122 : cFn Tryz.prog 122 = some cc_slices_IndexFunc_api_Detector_api_Detector := by kernel_rfl
theorem s122 : idxD.Spec (Pure Tryz.prog) 122 := idxD.ok hm cf122
theorem cf99 : cFn Tryz.prog 99 = some (cc_slices_ContainsFunc_api_Detector_api_Detector 122) := by kernel_rfl
theorem s99 : conD.Spec (Pure Tryz.prog) 99 := conD.ok hm cf99 s122
theorem cf62 : cFn Tryz.prog 62 = some (cc_table_every_api_Detector 100 99) := by kernel_rfl
theorem s62 : evD.Spec (Pure Tryz.prog) 62 := evD.ok hm cf62 s100 s99
theorem cf101 : cFn Tryz.prog 101 = some cc_table_detector_1 := by kernel_rfl
theorem s101 : tDet1.Spec (Pure Tryz.prog) 101 := tDet1.ok hm cf101
theorem cf123 : cFn Tryz.prog 123 = some cc_secs_Ticks := by kernel_rfl
theorem s123 : sTicks.Spec (Pure Tryz.prog) 123 := sTicks.ok hm cf123
theorem cf124 : cFn Tryz.prog 124 = some cc_math_Signbit := by kernel_rfl
theorem s124 : sgn.Spec (Pure Tryz.prog) 124 := sgn.ok hm cf124
theorem cf102 : cFn Tryz.prog 102 = some (cc_table_seconds 123 124) := by kernel_rfl
theorem s102 : tSecs.Spec (Pure Tryz.prog) 102 := tSecs.ok hm cf102 s123 s124
theorem cf63 : cFn Tryz.prog 63 = some (cc_table_detector 101 3 61 102 68) := by kernel_rfl
theorem s63 : tDet.Spec (Pure Tryz.prog) 63 := tDet.ok hm cf63 s101 s61 s102 s68
theorem cf104 : cFn Tryz.prog 104 = some cc_table_every_api_Rail_1 := by kernel_rfl
theorem s104 : ev1R.Spec (Pure Tryz.prog) 104 := ev1R.ok hm cf104
theorem cf125 : cFn Tryz.prog 125 = some cc_slices_IndexFunc_api_Rail_api_Rail := by kernel_rfl
theorem s125 : idxR.Spec (Pure Tryz.prog) 125 := idxR.ok hm cf125
theorem cf103 : cFn Tryz.prog 103 = some (cc_slices_ContainsFunc_api_Rail_api_Rail 125) := by kernel_rfl
theorem s103 : conR.Spec (Pure Tryz.prog) 103 := conR.ok hm cf103 s125
theorem cf64 : cFn Tryz.prog 64 = some (cc_table_every_api_Rail 104 103) := by kernel_rfl
theorem s64 : evR.Spec (Pure Tryz.prog) 64 := evR.ok hm cf64 s104 s103
theorem cf65 : cFn Tryz.prog 65 = some (cc_table_rail 3 61 68) := by kernel_rfl
theorem s65 : tRail.Spec (Pure Tryz.prog) 65 := tRail.ok hm cf65 s61 s68
theorem cf106 : cFn Tryz.prog 106 = some cc_table_every_api_Bus_1 := by kernel_rfl
theorem s106 : ev1U.Spec (Pure Tryz.prog) 106 := ev1U.ok hm cf106
theorem cf126 : cFn Tryz.prog 126 = some cc_slices_IndexFunc_api_Bus_api_Bus := by kernel_rfl
theorem s126 : idxU.Spec (Pure Tryz.prog) 126 := idxU.ok hm cf126
theorem cf105 : cFn Tryz.prog 105 = some (cc_slices_ContainsFunc_api_Bus_api_Bus 126) := by kernel_rfl
theorem s105 : conU.Spec (Pure Tryz.prog) 105 := conU.ok hm cf105 s126
theorem cf66 : cFn Tryz.prog 66 = some (cc_table_every_api_Bus 106 105) := by kernel_rfl
theorem s66 : evU.Spec (Pure Tryz.prog) 66 := evU.ok hm cf66 s106 s105
theorem cf67 : cFn Tryz.prog 67 = some (cc_table_bus 3 61 68) := by kernel_rfl
theorem s67 : tBus.Spec (Pure Tryz.prog) 67 := tBus.ok hm cf67 s61 s68
theorem cf12 : cFn Tryz.prog 12 = some (cc_table_May 57 58 59 60 61 62 63 64 65 66 67 3 68) := by kernel_rfl
theorem s12 : tMay.Spec (Pure Tryz.prog) 12 := tMay.ok hm cf12 s57 s58 s59 s60 s61 s62 s63 s64 s65 s66 s67 s68
theorem cf13 : cFn Tryz.prog 13 = some cc_check_bad := by kernel_rfl
theorem s13 : cBad.Spec (Pure Tryz.prog) 13 := cBad.ok hm cf13
theorem cf70 : cFn Tryz.prog 70 = some cc_set_bit := by kernel_rfl
theorem s70 : bit.Spec (Pure Tryz.prog) 70 := bit.ok hm cf70
theorem cf69 : cFn Tryz.prog 69 = some (cc_set_With 70) := by kernel_rfl
theorem s69 : setWith.Spec (Pure Tryz.prog) 69 := setWith.ok hm cf69 s70
theorem cf14 : cFn Tryz.prog 14 = some (cc_plan_On 69) := by kernel_rfl
theorem s14 : pOn.Spec (Pure Tryz.prog) 14 := pOn.ok hm cf14 s69
theorem cf18 : cFn Tryz.prog 18 = some (cc_set_Has 70) := by kernel_rfl
theorem s18 : setHas.Spec (Pure Tryz.prog) 18 := setHas.ok hm cf18 s70
theorem cf17 : cFn Tryz.prog 17 = some (cc_check_Check_1_1 18) := by kernel_rfl
theorem s17 : ck11.Spec (Pure Tryz.prog) 17 := ck11.ok hm cf17 s18
theorem cf37 : cFn Tryz.prog 37 = some cc_check_none := by kernel_rfl
theorem s37 : cNone.Spec (Pure Tryz.prog) 37 := cNone.ok hm cf37
theorem cf16 : cFn Tryz.prog 16 = some (cc_check_first 13 37) := by kernel_rfl
theorem s16 : cFirst.Spec (Pure Tryz.prog) 16 := cFirst.ok hm cf16 s13 s37
theorem cf15 : cFn Tryz.prog 15 = some (cc_check_Check_1 17 16) := by kernel_rfl
theorem s15 : ck1.Spec (Pure Tryz.prog) 15 := ck1.ok hm cf15 s17 s16
theorem cf21 : cFn Tryz.prog 21 = some cc_check_phase := by kernel_rfl
theorem s21 : cPhase.Spec (Pure Tryz.prog) 21 := cPhase.ok hm cf21
theorem cf20 : cFn Tryz.prog 20 = some (cc_check_Check_2_1 21) := by kernel_rfl
theorem s20 : ck21.Spec (Pure Tryz.prog) 20 := ck21.ok hm cf20 s21
theorem cf19 : cFn Tryz.prog 19 = some (cc_check_Check_2 20) := by kernel_rfl
theorem s19 : ck2.Spec (Pure Tryz.prog) 19 := ck2.ok hm cf19 s20
theorem cf23 : cFn Tryz.prog 23 = some (cc_check_rings 13 18 69 37) := by kernel_rfl
theorem s23 : cRings.Spec (Pure Tryz.prog) 23 := cRings.ok hm cf23 s13 s18 s69 s37
theorem cf22 : cFn Tryz.prog 22 = some (cc_check_Check_3 23) := by kernel_rfl
theorem s22 : ck3.Spec (Pure Tryz.prog) 22 := ck3.ok hm cf22 s23
theorem s107 : Go.Eng.setEach1.Spec (Go.Eng.Pure Tryz.prog) 107 := Go.Eng.setEach1.of (by kernel_rfl) (setEach_some (Go.Eng.HasCall.of s18))
theorem cf71 : cFn Tryz.prog 71 = some (cc_set_Each 107) := by kernel_rfl
theorem s71 : each27.Spec (Pure Tryz.prog) 71 := setEach.ok hm cf71 s107
theorem cf127 : cFn Tryz.prog 127 = some (cc_set_Of 70) := by kernel_rfl
theorem s127 : setOf.Spec (Pure Tryz.prog) 127 := setOf.ok hm cf127 s70
theorem cf108 : cFn Tryz.prog 108 = some (cc_plan_Where 3 127) := by kernel_rfl
theorem s108 : pWhere.Spec (Pure Tryz.prog) 108 := pWhere.ok hm cf108 s127
theorem cf72 : cFn Tryz.prog 72 = some (cc_plan_Beside 108) := by kernel_rfl
theorem s72 : pBeside.Spec (Pure Tryz.prog) 72 := pBeside.ok hm cf72 s108
theorem cf26 : cFn Tryz.prog 26 = some (cc_check_conflict 18 71 72) := by kernel_rfl
theorem s26 : cConf.Spec (Pure Tryz.prog) 26 := cConf.ok hm cf26 s18 s71 s72
theorem cf25 : cFn Tryz.prog 25 = some (cc_check_Check_4_1 26) := by kernel_rfl
theorem s25 : ck41.Spec (Pure Tryz.prog) 25 := ck41.ok hm cf25 s26
theorem cf24 : cFn Tryz.prog 24 = some (cc_check_Check_4 25) := by kernel_rfl
theorem s24 : ck4.Spec (Pure Tryz.prog) 24 := ck4.ok hm cf24 s25
theorem cf28 : cFn Tryz.prog 28 = some (cc_check_Check_5_1 18) := by kernel_rfl
theorem s28 : ck51.Spec (Pure Tryz.prog) 28 := ck51.ok hm cf28 s18
theorem cf27 : cFn Tryz.prog 27 = some (cc_check_Check_5 28 16) := by kernel_rfl
theorem s27 : ck5.Spec (Pure Tryz.prog) 27 := ck5.ok hm cf27 s28 s16
theorem cf109 : cFn Tryz.prog 109 = some (cc_check_clash 18) := by kernel_rfl
theorem s109 : cClash.Spec (Pure Tryz.prog) 109 := cClash.ok hm cf109 s18
theorem cf73 : cFn Tryz.prog 73 = some (cc_check_clashes 71 109) := by kernel_rfl
theorem s73 : cClashes.Spec (Pure Tryz.prog) 73 := cClashes.ok hm cf73 s71 s109
theorem cf74 : cFn Tryz.prog 74 = some (cc_check_apart 71 72) := by kernel_rfl
theorem s74 : cApart.Spec (Pure Tryz.prog) 74 := cApart.ok hm cf74 s71 s72
theorem cf31 : cFn Tryz.prog 31 = some (cc_check_rail 73 74) := by kernel_rfl
theorem s31 : cRail.Spec (Pure Tryz.prog) 31 := cRail.ok hm cf31 s73 s74
theorem cf30 : cFn Tryz.prog 30 = some (cc_check_Check_6_1 31) := by kernel_rfl
theorem s30 : ck61.Spec (Pure Tryz.prog) 30 := ck61.ok hm cf30 s31
theorem cf29 : cFn Tryz.prog 29 = some (cc_check_Check_6 30 16) := by kernel_rfl
theorem s29 : ck6.Spec (Pure Tryz.prog) 29 := ck6.ok hm cf29 s30 s16
theorem cf33 : cFn Tryz.prog 33 = some cc_check_Check_7_1 := by kernel_rfl
theorem s33 : ck71.Spec (Pure Tryz.prog) 33 := ck71.ok hm cf33
theorem cf32 : cFn Tryz.prog 32 = some (cc_check_Check_7 33 16) := by kernel_rfl
theorem s32 : ck7.Spec (Pure Tryz.prog) 32 := ck7.ok hm cf32 s33 s16
theorem cf36 : cFn Tryz.prog 36 = some (cc_check_flash 71) := by kernel_rfl
theorem s36 : cFlash.Spec (Pure Tryz.prog) 36 := cFlash.ok hm cf36 s71
theorem cf35 : cFn Tryz.prog 35 = some (cc_check_Check_8_1 36) := by kernel_rfl
theorem s35 : ck81.Spec (Pure Tryz.prog) 35 := ck81.ok hm cf35 s36
theorem cf34 : cFn Tryz.prog 34 = some (cc_check_Check_8 35) := by kernel_rfl
theorem s34 : ck8.Spec (Pure Tryz.prog) 34 := ck8.ok hm cf34 s35
theorem cf7 : cFn Tryz.prog 7 = some (cc_check_Check 12 13 14 15 19 22 24 27 29 32 34 37) := by kernel_rfl
theorem s7 : check9.Spec (Pure Tryz.prog) 7 := check9.ok hm cf7 s12 s13 s14 s15 s19 s22 s24 s27 s29 s32 s34 s37
theorem cf83 : cFn Tryz.prog 83 = some cc_ref05_times := by kernel_rfl
theorem s83 : rTimes.Spec (Pure Tryz.prog) 83 := rTimes.ok hm cf83
theorem cf84 : cFn Tryz.prog 84 = some cc_ref05_upto := by kernel_rfl
theorem s84 : upto.Spec (Pure Tryz.prog) 84 := upto.ok hm cf84
theorem cf85 : cFn Tryz.prog 85 = some (cc_ref05_phase 3 83 84) := by kernel_rfl
theorem s85 : rPhase5.Spec (Pure Tryz.prog) 85 := rPhase5.ok hm cf85 s83 s84
theorem cf116 : cFn Tryz.prog 116 = some cc_ref05_Level := by kernel_rfl
theorem s116 : rLevel.Spec (Pure Tryz.prog) 116 := rLevel.ok hm cf116
theorem cf131 : cFn Tryz.prog 131 = some cc_ref01_Ticks := by kernel_rfl
theorem s131 : rTicks.Spec (Pure Tryz.prog) 131 := rTicks.ok hm cf131
theorem cf117 : cFn Tryz.prog 117 = some (cc_ref05_Seconds 131 124) := by kernel_rfl
theorem s117 : rSeconds.Spec (Pure Tryz.prog) 117 := rSeconds.ok hm cf117 s131 s124
theorem cf86 : cFn Tryz.prog 86 = some (cc_ref05_detector 3 84 116 117 83) := by kernel_rfl
theorem s86 : rDet5.Spec (Pure Tryz.prog) 86 := rDet5.ok hm cf86 s84 s116 s117 s83
theorem cf87 : cFn Tryz.prog 87 = some (cc_ref05_rail 3 84 83) := by kernel_rfl
theorem s87 : rRail5.Spec (Pure Tryz.prog) 87 := rRail5.ok hm cf87 s84 s83
theorem cf47 : cFn Tryz.prog 47 = some (cc_ref05_May 3 83 84 85 86 87) := by kernel_rfl
theorem s47 : rMay.Spec (Pure Tryz.prog) 47 := rMay.ok hm cf47 s83 s84 s85 s86 s87
theorem cf50 : cFn Tryz.prog 50 = some cc_ref08_phase := by kernel_rfl
theorem s50 : kPhase.Spec (Pure Tryz.prog) 50 := kPhase.ok hm cf50
theorem cf51 : cFn Tryz.prog 51 = some (cc_ref08_rings 48 88 53 42) := by kernel_rfl
theorem s51 : kRings.Spec (Pure Tryz.prog) 51 := kRings.ok hm cf51 s48_1 s88 s53 s42
theorem cf52 : cFn Tryz.prog 52 = some (cc_ref08_conflict 49 53 40) := by kernel_rfl
theorem s52 : kConf.Spec (Pure Tryz.prog) 52 := kConf.ok hm cf52 s49 s53 s40
theorem cf55 : cFn Tryz.prog 55 = some cc_ref08_in := by kernel_rfl
theorem s55 : kIn.Spec (Pure Tryz.prog) 55 := kIn.ok hm cf55
theorem cf89 : cFn Tryz.prog 89 = some (cc_ref08_exit 49 40) := by kernel_rfl
theorem s89 : kExit.Spec (Pure Tryz.prog) 89 := kExit.ok hm cf89 s49 s40
theorem cf90 : cFn Tryz.prog 90 = some (cc_ref08_Clash 49 53) := by kernel_rfl
theorem s90 : kClash.Spec (Pure Tryz.prog) 90 := kClash.ok hm cf90 s49 s53
theorem cf54 : cFn Tryz.prog 54 = some (cc_ref08_rail 55 89 90) := by kernel_rfl
theorem s54 : kRail.Spec (Pure Tryz.prog) 54 := kRail.ok hm cf54 s55 s89 s90
theorem cf56 : cFn Tryz.prog 56 = some (cc_ref08_flash 49 53) := by kernel_rfl
theorem s56 : kFlash.Spec (Pure Tryz.prog) 56 := kFlash.ok hm cf56 s49 s53
theorem cf11 : cFn Tryz.prog 11 = some (cc_ref08_Check 47 48 49 50 51 52 53 54 55 56) := by kernel_rfl
theorem s11 : kCheck.Spec (Pure Tryz.prog) 11 := kCheck.ok hm cf11 s47 s48_1 s49 s50 s51 s52 s53 s54 s55 s56
theorem cf46 : cFn Tryz.prog 46 = some (cc_law09_good 3 42) := by kernel_rfl
theorem s46 : good09.Spec (Pure Tryz.prog) 46 := good09.ok hm cf46
theorem cf9 : cFn Tryz.prog 9 = some (cc_law09_awake 7 46) := by kernel_rfl
theorem s9 : awake09.Spec (Pure Tryz.prog) 9 := awake09.ok hm cf9 s7 s46
theorem cf4 : cFn Tryz.prog 4 = some (cc_law09_CheckPhase 8 10 7 11 9) := by kernel_rfl
theorem s4 : chkPhase.Spec (Pure Tryz.prog) 4 := chkPhase.ok hm cf4 s8 s10 s7 s11 s9
theorem cf3 : cFn Tryz.prog 3 = some (cc_law09_CheckGood 8 7 9) := by kernel_rfl
theorem s3 : chkGood.Spec (Pure Tryz.prog) 3 := chkGood.ok hm cf3 s8 s7 s9
end Go.Proofs.YtebpminoibmngaaGreat
