/- The functions of this seat: their compiled code is what the library says of it, so that the contracts hold of them. -/
import Derived.Test.YtklehkdpcfmmgaaGreatChecked
import Derived.Test.YtklehkdpcfmmgaaGreatPk7
import Derived.Test.YtklehkdpcfmmgaaGreatEach2
namespace Go.Proofs.YtklehkdpcfmmgaaGreat
open Go.Eng
set_option maxRecDepth 100000
theorem hm : Tryz.prog.follows .mixedOrders = true := by kernel_rfl
theorem cf44 : cFn Tryz.prog 44 = some cc_law00_At := by kernel_rfl
theorem s44 : At.Spec (Pure Tryz.prog) 44 := At.ok hm cf44
theorem cf9 : cFn Tryz.prog 9 = some cc_law00_Place := by kernel_rfl
theorem s9 : Place.Spec (Pure Tryz.prog) 9 := Place.ok hm cf9
theorem cf21 : cFn Tryz.prog 21 = some (cc_law00_from 44 9) := by kernel_rfl
theorem s21 : from.Spec (Pure Tryz.prog) 21 := from.ok hm cf21 s44 s9
theorem cf18 : cFn Tryz.prog 18 = some (cc_law00_rows 21 3 79) := by kernel_rfl
theorem s18 : rows.Spec (Pure Tryz.prog) 18 := rows.ok hm cf18 s21
theorem cf19 : cFn Tryz.prog 19 = some (cc_law00_phase 21) := by kernel_rfl
theorem s19 : phase.Spec (Pure Tryz.prog) 19 := phase.ok hm cf19 s21
theorem cf37 : cFn Tryz.prog 37 = some (cc_ref08_Spots 47) := by kernel_rfl
theorem s37 : spots.Spec (Pure Tryz.prog) 37 47 := spots.ok hm cf37
theorem cf12 : cFn Tryz.prog 12 = some (cc_ref08_Where 37) := by kernel_rfl
theorem s12 : where.Spec (Pure Tryz.prog) 12 := where.ok hm cf12 s37
theorem cf20 : cFn Tryz.prog 20 = some (cc_ref08_Beside 12) := by kernel_rfl
theorem s20 : beside.Spec (Pure Tryz.prog) 20 := beside.ok hm cf20 s12
theorem cf83 : cFn Tryz.prog 83 = some cc_ref01_Has := by kernel_rfl
theorem s83 : refHas.Spec (Pure Tryz.prog) 83 := refHas.ok hm cf83
theorem cf46 : cFn Tryz.prog 46 = some (cc_ref01_List 83 3) := by kernel_rfl
theorem s46 : refList.Spec (Pure Tryz.prog) 46 3 := refList.ok hm cf46 s83
theorem cf45 : cFn Tryz.prog 45 = some cc_ref01_Of := by kernel_rfl
theorem s45 : refOf.Spec (Pure Tryz.prog) 45 := refOf.ok hm cf45
theorem cf22 : cFn Tryz.prog 22 = some (cc_ref01_With 46 3 45) := by kernel_rfl
theorem s22 : refWith.Spec (Pure Tryz.prog) 22 := refWith.ok hm cf22 s46 s45
theorem cf23 : cFn Tryz.prog 23 = some (cc_law00_detector 21) := by kernel_rfl
theorem s23 : detector.Spec (Pure Tryz.prog) 23 := detector.ok hm cf23 s21
theorem cf47 : cFn Tryz.prog 47 = some (cc_law00_with 3 45 20 22) := by kernel_rfl
theorem s47 : with.Spec (Pure Tryz.prog) 47 := with.ok hm cf47 s45 s20 s22
theorem cf24 : cFn Tryz.prog 24 = some (cc_law00_rail 21 47) := by kernel_rfl
theorem s24 : rail.Spec (Pure Tryz.prog) 24 := rail.ok hm cf24 s21 s47
theorem cf79 : cFn Tryz.prog 79 = some (cc_ref08_On 3 45) := by kernel_rfl
theorem s79_1 : on.Spec (Pure Tryz.prog) 79 := on.ok hm cf79 s45
theorem cf119 : cFn Tryz.prog 119 = some cc_ref01_Cut := by kernel_rfl
theorem s119 : Cut.Spec (Pure Tryz.prog) 119 := Cut.ok hm cf119
theorem cf94 : cFn Tryz.prog 94 = some (cc_ref01_Cap 119) := by kernel_rfl
theorem s94 : Cap.Spec (Pure Tryz.prog) 94 := Cap.ok hm cf94 s119
theorem cf118 : cFn Tryz.prog 118 = some (cc_ref01_Add 94) := by kernel_rfl
theorem s118 : Add.Spec (Pure Tryz.prog) 118 := Add.ok hm cf118 s94
theorem cf93 : cFn Tryz.prog 93 = some (cc_ref01_Sum 118) := by kernel_rfl
theorem s93 : sum1.Spec (Pure Tryz.prog) 93 := Sum.ok hm cf93 s118
theorem cf49 : cFn Tryz.prog 49 = some (cc_ref08_sum 93) := by kernel_rfl
theorem s49 : sum1.Spec (Pure Tryz.prog) 49 := sum1.ok hm cf49 s93
theorem cf33 : cFn Tryz.prog 33 = some cc_ref08_most := by kernel_rfl
theorem s33 : most.Spec (Pure Tryz.prog) 33 := most.ok hm cf33
theorem cf117 : cFn Tryz.prog 117 = some (cc_ref08_Serve 79 83 94 3 49 33) := by kernel_rfl
theorem s117 : serve.Spec (Pure Tryz.prog) 117 := serve.ok hm cf117 s79_1 s83 s94 s49 s33
theorem cf92 : cFn Tryz.prog 92 = some (cc_ref08_Pass 3 37 117 49) := by kernel_rfl
theorem s92 : pass.Spec (Pure Tryz.prog) 92 := pass.ok hm cf92 s37 s117 s49
theorem cf48 : cFn Tryz.prog 48 = some (cc_ref08_Free 12 79 83 92 3 49) := by kernel_rfl
theorem s48 : free.Spec (Pure Tryz.prog) 48 := free.ok hm cf48 s12 s79_1 s83 s92 s49
theorem cf87 : cFn Tryz.prog 87 = some (cc_ref08_clear 79 46 3 49 33) := by kernel_rfl
theorem s87 : clear.Spec (Pure Tryz.prog) 87 := clear.ok hm cf87 s79_1 s46 s49 s33
theorem cf32 : cFn Tryz.prog 32 = some (cc_ref08_Entry 87 3 49) := by kernel_rfl
theorem s32 : entry.Spec (Pure Tryz.prog) 32 := entry.ok hm cf32 s87 s49
theorem cf51 : cFn Tryz.prog 51 = some (cc_ref08_Over 32 3 49 79 46 94 33 87) := by kernel_rfl
theorem s51 : over.Spec (Pure Tryz.prog) 51 := over.ok hm cf51 s32 s49 s79_1 s46 s94 s33 s87
theorem cf50 : cFn Tryz.prog 50 = some (cc_ref01_Mul 94) := by kernel_rfl
theorem s50 : Mul.Spec (Pure Tryz.prog) 50 := Mul.ok hm cf50 s94
theorem cf25 : cFn Tryz.prog 25 = some (cc_ref08_Wait 48 3 49 51 50) := by kernel_rfl
theorem s25 : wait.Spec (Pure Tryz.prog) 25 := wait.ok hm cf25 s48 s49 s51 s50
theorem cf6 : cFn Tryz.prog 6 = some (cc_law00_Table 18 19 20 21 22 23 59 24 62 66 25) := by kernel_rfl
theorem s6 : Table.Spec (Pure Tryz.prog) 6 := Table.ok hm cf6 s18 s19 s20 s21 s22 s23 s24 s25
theorem cf121 : cFn Tryz.prog 121 = some cc_table_every_api_Phase_1 := by kernel_rfl
theorem s121 : ev1P.Spec (Pure Tryz.prog) 121 := ev1P.ok hm cf121
theorem cf139 : cFn Tryz.prog 139 = some cc_slices_IndexFunc_api_Phase_api_Phase := by kernel_rfl
theorem s139 : idxP.Spec (Pure Tryz.prog) 139 := idxP.ok hm cf139
theorem cf120 : cFn Tryz.prog 120 = some (cc_slices_ContainsFunc_api_Phase_api_Phase 139) := by kernel_rfl
theorem s120 : conP.Spec (Pure Tryz.prog) 120 := conP.ok hm cf120 s139
theorem cf95 : cFn Tryz.prog 95 = some (cc_table_every_api_Phase 121 120) := by kernel_rfl
theorem s95 : evP.Spec (Pure Tryz.prog) 95 := evP.ok hm cf95 s121 s120
theorem cf127 : cFn Tryz.prog 127 = some cc_table_within_1 := by kernel_rfl
theorem s127 : with1.Spec (Pure Tryz.prog) 127 := with1.ok hm cf127
theorem cf142 : cFn Tryz.prog 142 = some cc_table_every_int_1 := by kernel_rfl
theorem s142 : ev1I.Spec (Pure Tryz.prog) 142 := ev1I.ok hm cf142
theorem cf149 : cFn Tryz.prog 149 = some cc_slices_IndexFunc_int_int := by kernel_rfl
theorem s149 : idxI.Spec (Pure Tryz.prog) 149 := idxI.ok hm cf149
theorem cf141 : cFn Tryz.prog 141 = some (cc_slices_ContainsFunc_int_int 149) := by kernel_rfl
theorem s141 : conI.Spec (Pure Tryz.prog) 141 := conI.ok hm cf141 s149
theorem cf125 : cFn Tryz.prog 125 = some (cc_table_every_int 142 141) := by kernel_rfl
theorem s125 : evI.Spec (Pure Tryz.prog) 125 := evI.ok hm cf125 s142 s141
theorem cf99 : cFn Tryz.prog 99 = some (cc_table_within 127 125) := by kernel_rfl
theorem s99 : within.Spec (Pure Tryz.prog) 99 := within.ok hm cf99 s127 s125
theorem cf106 : cFn Tryz.prog 106 = some (cc_table_times 99) := by kernel_rfl
theorem s106 : tTimes.Spec (Pure Tryz.prog) 106 := tTimes.ok hm cf106 s99
theorem cf96 : cFn Tryz.prog 96 = some (cc_table_phase 3 106 99) := by kernel_rfl
theorem s96 : tPhase.Spec (Pure Tryz.prog) 96 := tPhase.ok hm cf96 s106 s99
theorem cf123 : cFn Tryz.prog 123 = some cc_table_every_2_int_1 := by kernel_rfl
theorem s123 : ev1G.Spec (Pure Tryz.prog) 123 := ev1G.ok hm cf123
theorem cf140 : cFn Tryz.prog 140 = some cc_slices_IndexFunc_2_int_2_int := by kernel_rfl
theorem s140 : idxG.Spec (Pure Tryz.prog) 140 := idxG.ok hm cf140
theorem cf122 : cFn Tryz.prog 122 = some (cc_slices_ContainsFunc_2_int_2_int 140) := by kernel_rfl
theorem s122 : conG.Spec (Pure Tryz.prog) 122 := conG.ok hm cf122 s140
theorem cf97 : cFn Tryz.prog 97 = some (cc_table_every_2_int 123 122) := by kernel_rfl
theorem s97 : evG.Spec (Pure Tryz.prog) 97 := evG.ok hm cf97 s123 s122
theorem cf126 : cFn Tryz.prog 126 = some (cc_table_group_1_1 3 99) := by kernel_rfl
theorem s126 : tG11.Spec (Pure Tryz.prog) 126 := tG11.ok hm cf126 s99
theorem cf124 : cFn Tryz.prog 124 = some (cc_table_group_1 125 126) := by kernel_rfl
theorem s124 : tG1.Spec (Pure Tryz.prog) 124 := tG1.ok hm cf124 s125 s126
theorem cf98 : cFn Tryz.prog 98 = some (cc_table_group 124) := by kernel_rfl
theorem s98 : tGroup.Spec (Pure Tryz.prog) 98 := tGroup.ok hm cf98 s124
theorem cf129 : cFn Tryz.prog 129 = some cc_table_every_api_Detector_1 := by kernel_rfl
theorem s129 : ev1D.Spec (Pure Tryz.prog) 129 := ev1D.ok hm cf129
theorem cf143 : cFn Tryz.prog 143 = some cc_slices_IndexFunc_api_Detector_api_Detector := by kernel_rfl
theorem s143 : idxD.Spec (Pure Tryz.prog) 143 := idxD.ok hm cf143
theorem cf128 : cFn Tryz.prog 128 = some (cc_slices_ContainsFunc_api_Detector_api_Detector 143) := by kernel_rfl
theorem s128 : conD.Spec (Pure Tryz.prog) 128 := conD.ok hm cf128 s143
theorem cf100 : cFn Tryz.prog 100 = some (cc_table_every_api_Detector 129 128) := by kernel_rfl
theorem s100 : evD.Spec (Pure Tryz.prog) 100 := evD.ok hm cf100 s129 s128
theorem cf130 : cFn Tryz.prog 130 = some cc_table_detector_1 := by kernel_rfl
theorem s130 : tDet1.Spec (Pure Tryz.prog) 130 := tDet1.ok hm cf130
theorem cf144 : cFn Tryz.prog 144 = some cc_secs_Ticks := by kernel_rfl
theorem s144 : sTicks.Spec (Pure Tryz.prog) 144 := sTicks.ok hm cf144
theorem cf145 : cFn Tryz.prog 145 = some cc_math_Signbit := by kernel_rfl
theorem s145 : sgn.Spec (Pure Tryz.prog) 145 := sgn.ok hm cf145
theorem cf131 : cFn Tryz.prog 131 = some (cc_table_seconds 144 145) := by kernel_rfl
theorem s131 : tSecs.Spec (Pure Tryz.prog) 131 := tSecs.ok hm cf131 s144 s145
theorem cf101 : cFn Tryz.prog 101 = some (cc_table_detector 130 3 99 131 106) := by kernel_rfl
theorem s101 : tDet.Spec (Pure Tryz.prog) 101 := tDet.ok hm cf101 s130 s99 s131 s106
theorem cf133 : cFn Tryz.prog 133 = some cc_table_every_api_Rail_1 := by kernel_rfl
theorem s133 : ev1R.Spec (Pure Tryz.prog) 133 := ev1R.ok hm cf133
theorem cf146 : cFn Tryz.prog 146 = some cc_slices_IndexFunc_api_Rail_api_Rail := by kernel_rfl
theorem s146 : idxR.Spec (Pure Tryz.prog) 146 := idxR.ok hm cf146
theorem cf132 : cFn Tryz.prog 132 = some (cc_slices_ContainsFunc_api_Rail_api_Rail 146) := by kernel_rfl
theorem s132 : conR.Spec (Pure Tryz.prog) 132 := conR.ok hm cf132 s146
theorem cf102 : cFn Tryz.prog 102 = some (cc_table_every_api_Rail 133 132) := by kernel_rfl
theorem s102 : evR.Spec (Pure Tryz.prog) 102 := evR.ok hm cf102 s133 s132
theorem cf103 : cFn Tryz.prog 103 = some (cc_table_rail 3 99 106) := by kernel_rfl
theorem s103 : tRail.Spec (Pure Tryz.prog) 103 := tRail.ok hm cf103 s99 s106
theorem cf135 : cFn Tryz.prog 135 = some cc_table_every_api_Bus_1 := by kernel_rfl
theorem s135 : ev1U.Spec (Pure Tryz.prog) 135 := ev1U.ok hm cf135
theorem cf147 : cFn Tryz.prog 147 = some cc_slices_IndexFunc_api_Bus_api_Bus := by kernel_rfl
theorem s147 : idxU.Spec (Pure Tryz.prog) 147 := idxU.ok hm cf147
theorem cf134 : cFn Tryz.prog 134 = some (cc_slices_ContainsFunc_api_Bus_api_Bus 147) := by kernel_rfl
theorem s134 : conU.Spec (Pure Tryz.prog) 134 := conU.ok hm cf134 s147
theorem cf104 : cFn Tryz.prog 104 = some (cc_table_every_api_Bus 135 134) := by kernel_rfl
theorem s104 : evU.Spec (Pure Tryz.prog) 104 := evU.ok hm cf104 s135 s134
theorem cf105 : cFn Tryz.prog 105 = some (cc_table_bus 3 99 106) := by kernel_rfl
theorem s105 : tBus.Spec (Pure Tryz.prog) 105 := tBus.ok hm cf105 s99 s106
theorem cf52 : cFn Tryz.prog 52 = some (cc_table_May 95 96 97 98 99 100 101 102 103 104 105 3 106) := by kernel_rfl
theorem s52 : tMay.Spec (Pure Tryz.prog) 52 := tMay.ok hm cf52 s95 s96 s97 s98 s99 s100 s101 s102 s103 s104 s105 s106
theorem cf53 : cFn Tryz.prog 53 = some cc_check_bad := by kernel_rfl
theorem s53 : cBad.Spec (Pure Tryz.prog) 53 := cBad.ok hm cf53
theorem cf89 : cFn Tryz.prog 89 = some cc_set_bit := by kernel_rfl
theorem s89 : bit.Spec (Pure Tryz.prog) 89 := bit.ok hm cf89
theorem cf77 : cFn Tryz.prog 77 = some (cc_set_With 89) := by kernel_rfl
theorem s77 : setWith.Spec (Pure Tryz.prog) 77 := setWith.ok hm cf77 s89
theorem cf29 : cFn Tryz.prog 29 = some (cc_plan_On 77) := by kernel_rfl
theorem s29 : pOn.Spec (Pure Tryz.prog) 29 := pOn.ok hm cf29 s77
theorem cf35 : cFn Tryz.prog 35 = some (cc_set_Has 89) := by kernel_rfl
theorem s35 : setHas.Spec (Pure Tryz.prog) 35 := setHas.ok hm cf35 s89
theorem cf56 : cFn Tryz.prog 56 = some (cc_check_Check_1_1 35) := by kernel_rfl
theorem s56 : ck11.Spec (Pure Tryz.prog) 56 := ck11.ok hm cf56 s35
theorem cf75 : cFn Tryz.prog 75 = some cc_check_none := by kernel_rfl
theorem s75 : cNone.Spec (Pure Tryz.prog) 75 := cNone.ok hm cf75
theorem cf55 : cFn Tryz.prog 55 = some (cc_check_first 53 75) := by kernel_rfl
theorem s55 : cFirst.Spec (Pure Tryz.prog) 55 := cFirst.ok hm cf55 s53 s75
theorem cf54 : cFn Tryz.prog 54 = some (cc_check_Check_1 56 55) := by kernel_rfl
theorem s54 : ck1.Spec (Pure Tryz.prog) 54 := ck1.ok hm cf54 s56 s55
theorem cf59 : cFn Tryz.prog 59 = some cc_check_phase := by kernel_rfl
theorem s59 : cPhase.Spec (Pure Tryz.prog) 59 := cPhase.ok hm cf59
theorem cf58 : cFn Tryz.prog 58 = some (cc_check_Check_2_1 59) := by kernel_rfl
theorem s58 : ck21.Spec (Pure Tryz.prog) 58 := ck21.ok hm cf58 s59
theorem cf57 : cFn Tryz.prog 57 = some (cc_check_Check_2 58) := by kernel_rfl
theorem s57 : ck2.Spec (Pure Tryz.prog) 57 := ck2.ok hm cf57 s58
theorem cf61 : cFn Tryz.prog 61 = some (cc_check_rings 53 35 77 75) := by kernel_rfl
theorem s61 : cRings.Spec (Pure Tryz.prog) 61 := cRings.ok hm cf61 s53 s35 s77 s75
theorem cf60 : cFn Tryz.prog 60 = some (cc_check_Check_3 61) := by kernel_rfl
theorem s60 : ck3.Spec (Pure Tryz.prog) 60 := ck3.ok hm cf60 s61
theorem s76 : Go.Eng.setEach1.Spec (Go.Eng.Pure Tryz.prog) 76 := Go.Eng.setEach1.of (by kernel_rfl) (setEach_some (Go.Eng.HasCall.of s35))
theorem cf28 : cFn Tryz.prog 28 = some (cc_set_Each 76) := by kernel_rfl
theorem s28 : each27.Spec (Pure Tryz.prog) 28 := setEach.ok hm cf28 s76
theorem cf88 : cFn Tryz.prog 88 = some (cc_set_Of 89) := by kernel_rfl
theorem s88 : setOf.Spec (Pure Tryz.prog) 88 := setOf.ok hm cf88 s89
theorem cf34 : cFn Tryz.prog 34 = some (cc_plan_Where 3 88) := by kernel_rfl
theorem s34 : pWhere.Spec (Pure Tryz.prog) 34 := pWhere.ok hm cf34 s88
theorem cf107 : cFn Tryz.prog 107 = some (cc_plan_Beside 34) := by kernel_rfl
theorem s107 : pBeside.Spec (Pure Tryz.prog) 107 := pBeside.ok hm cf107 s34
theorem cf64 : cFn Tryz.prog 64 = some (cc_check_conflict 35 28 107) := by kernel_rfl
theorem s64 : cConf.Spec (Pure Tryz.prog) 64 := cConf.ok hm cf64 s35 s28 s107
theorem cf63 : cFn Tryz.prog 63 = some (cc_check_Check_4_1 64) := by kernel_rfl
theorem s63 : ck41.Spec (Pure Tryz.prog) 63 := ck41.ok hm cf63 s64
theorem cf62 : cFn Tryz.prog 62 = some (cc_check_Check_4 63) := by kernel_rfl
theorem s62 : ck4.Spec (Pure Tryz.prog) 62 := ck4.ok hm cf62 s63
theorem cf66 : cFn Tryz.prog 66 = some (cc_check_Check_5_1 35) := by kernel_rfl
theorem s66 : ck51.Spec (Pure Tryz.prog) 66 := ck51.ok hm cf66 s35
theorem cf65 : cFn Tryz.prog 65 = some (cc_check_Check_5 66 55) := by kernel_rfl
theorem s65 : ck5.Spec (Pure Tryz.prog) 65 := ck5.ok hm cf65 s66 s55
theorem cf136 : cFn Tryz.prog 136 = some (cc_check_clash 35) := by kernel_rfl
theorem s136 : cClash.Spec (Pure Tryz.prog) 136 := cClash.ok hm cf136 s35
theorem cf108 : cFn Tryz.prog 108 = some (cc_check_clashes 28 136) := by kernel_rfl
theorem s108 : cClashes.Spec (Pure Tryz.prog) 108 := cClashes.ok hm cf108 s28 s136
theorem cf109 : cFn Tryz.prog 109 = some (cc_check_apart 28 107) := by kernel_rfl
theorem s109 : cApart.Spec (Pure Tryz.prog) 109 := cApart.ok hm cf109 s28 s107
theorem cf69 : cFn Tryz.prog 69 = some (cc_check_rail 108 109) := by kernel_rfl
theorem s69 : cRail.Spec (Pure Tryz.prog) 69 := cRail.ok hm cf69 s108 s109
theorem cf68 : cFn Tryz.prog 68 = some (cc_check_Check_6_1 69) := by kernel_rfl
theorem s68 : ck61.Spec (Pure Tryz.prog) 68 := ck61.ok hm cf68 s69
theorem cf67 : cFn Tryz.prog 67 = some (cc_check_Check_6 68 55) := by kernel_rfl
theorem s67 : ck6.Spec (Pure Tryz.prog) 67 := ck6.ok hm cf67 s68 s55
theorem cf71 : cFn Tryz.prog 71 = some cc_check_Check_7_1 := by kernel_rfl
theorem s71 : ck71.Spec (Pure Tryz.prog) 71 := ck71.ok hm cf71
theorem cf70 : cFn Tryz.prog 70 = some (cc_check_Check_7 71 55) := by kernel_rfl
theorem s70 : ck7.Spec (Pure Tryz.prog) 70 := ck7.ok hm cf70 s71 s55
theorem cf74 : cFn Tryz.prog 74 = some (cc_check_flash 28) := by kernel_rfl
theorem s74 : cFlash.Spec (Pure Tryz.prog) 74 := cFlash.ok hm cf74 s28
theorem cf73 : cFn Tryz.prog 73 = some (cc_check_Check_8_1 74) := by kernel_rfl
theorem s73 : ck81.Spec (Pure Tryz.prog) 73 := ck81.ok hm cf73 s74
theorem cf72 : cFn Tryz.prog 72 = some (cc_check_Check_8 73) := by kernel_rfl
theorem s72 : ck8.Spec (Pure Tryz.prog) 72 := ck8.ok hm cf72 s73
theorem cf26 : cFn Tryz.prog 26 = some (cc_check_Check 52 53 29 54 57 60 62 65 67 70 72 75) := by kernel_rfl
theorem s26 : check9.Spec (Pure Tryz.prog) 26 := check9.ok hm cf26 s52 s53 s29 s54 s57 s60 s62 s65 s67 s70 s72 s75
theorem cf27 : cFn Tryz.prog 27 = some cc_bound_bad := by kernel_rfl
theorem s27 : bBad.Spec (Pure Tryz.prog) 27 := bBad.ok hm cf27
theorem cf90 : cFn Tryz.prog 90 = some cc_sat_Cap := by kernel_rfl
theorem s90 : Cap.Spec (Pure Tryz.prog) 90 := sCap.ok hm cf90
theorem cf36 : cFn Tryz.prog 36 = some (cc_sat_Add 90) := by kernel_rfl
theorem s36 : Add.Spec (Pure Tryz.prog) 36 := sAdd.ok hm cf36 s90
theorem cf39 : cFn Tryz.prog 39 = some (cc_bound_feet 36) := by kernel_rfl
theorem s39 : bFeet.Spec (Pure Tryz.prog) 39 := bFeet.ok hm cf39 s36
theorem cf38 : cFn Tryz.prog 38 = some (cc_sat_Sum 36) := by kernel_rfl
theorem s38 : sum1.Spec (Pure Tryz.prog) 38 := sSum.ok hm cf38 s36
theorem cf14 : cFn Tryz.prog 14 = some (cc_bound_Serve 29 35 39 3 38) := by kernel_rfl
theorem s14 : serve.Spec (Pure Tryz.prog) 14 := bServe.ok hm cf14 s29 s35 s39 s38
theorem cf13 : cFn Tryz.prog 13 = some (cc_bound_Pass 14 36) := by kernel_rfl
theorem s13 : bPass.Spec (Pure Tryz.prog) 13 := bPass.ok hm cf13 s14 s36
theorem cf11 : cFn Tryz.prog 11 = some (cc_bound_Free 34 29 35 13 36) := by kernel_rfl
theorem s11 : bFree.Spec (Pure Tryz.prog) 11 := bFree.ok hm cf11 s34 s29 s35 s13 s36
theorem cf40 : cFn Tryz.prog 40 = some (cc_sat_Mul 90) := by kernel_rfl
theorem s40 : Mul.Spec (Pure Tryz.prog) 40 := sMul.ok hm cf40 s90
theorem cf42 : cFn Tryz.prog 42 = some (cc_bound_greatest 29 28 90) := by kernel_rfl
theorem s42 : bGreat.Spec (Pure Tryz.prog) 42 := bGreat.ok hm cf42 s29 s28 s90
theorem cf91 : cFn Tryz.prog 91 = some (cc_bound_clearance_1 36) := by kernel_rfl
theorem s91 : bClr1.Spec (Pure Tryz.prog) 91 := bClr1.ok hm cf91 s36
theorem cf41 : cFn Tryz.prog 41 = some (cc_bound_clearance 42 91) := by kernel_rfl
theorem s41 : clear.Spec (Pure Tryz.prog) 41 := bClear.ok hm cf41 s42 s91
theorem cf16 : cFn Tryz.prog 16 = some (cc_bound_Entry 40 41 3 38) := by kernel_rfl
theorem s16 : entry.Spec (Pure Tryz.prog) 16 := bEntry.ok hm cf16 s40 s41 s38
theorem cf43 : cFn Tryz.prog 43 = some (cc_bound_Over_1 39) := by kernel_rfl
theorem s43 : bOver1.Spec (Pure Tryz.prog) 43 := bOver1.ok hm cf43 s39
theorem cf17 : cFn Tryz.prog 17 = some (cc_bound_Over 16 36 42 43 41 3 38) := by kernel_rfl
theorem s17 : over.Spec (Pure Tryz.prog) 17 := bOver.ok hm cf17 s16 s36 s42 s43 s41 s38
theorem cf15 : cFn Tryz.prog 15 = some (cc_bound_Wait 11 36 17 3 38 40) := by kernel_rfl
theorem s15 : bWait.Spec (Pure Tryz.prog) 15 := bWait.ok hm cf15 s11 s36 s17 s38 s40
theorem cf30 : cFn Tryz.prog 30 = some cc_sat_Full := by kernel_rfl
theorem s30 : satFull.Spec (Pure Tryz.prog) 30 := sFull.ok hm cf30
theorem cf7 : cFn Tryz.prog 7 = some (cc_bound_All 26 27 29 28 15 30 16) := by kernel_rfl
theorem s7 : bAll.Spec (Pure Tryz.prog) 7 := bAll.ok hm cf7 s26 s27 s29 s28 s15 s30 s16
theorem cf110 : cFn Tryz.prog 110 = some cc_ref05_times := by kernel_rfl
theorem s110 : rTimes.Spec (Pure Tryz.prog) 110 := rTimes.ok hm cf110
theorem cf111 : cFn Tryz.prog 111 = some cc_ref05_upto := by kernel_rfl
theorem s111 : upto.Spec (Pure Tryz.prog) 111 := upto.ok hm cf111
theorem cf112 : cFn Tryz.prog 112 = some (cc_ref05_phase 3 110 111) := by kernel_rfl
theorem s112 : rPhase5.Spec (Pure Tryz.prog) 112 := rPhase5.ok hm cf112 s110 s111
theorem cf137 : cFn Tryz.prog 137 = some cc_ref05_Level := by kernel_rfl
theorem s137 : rLevel.Spec (Pure Tryz.prog) 137 := rLevel.ok hm cf137
theorem cf148 : cFn Tryz.prog 148 = some cc_ref01_Ticks := by kernel_rfl
theorem s148 : rTicks.Spec (Pure Tryz.prog) 148 := rTicks.ok hm cf148
theorem cf138 : cFn Tryz.prog 138 = some (cc_ref05_Seconds 148 145) := by kernel_rfl
theorem s138 : rSeconds.Spec (Pure Tryz.prog) 138 := rSeconds.ok hm cf138 s148 s145
theorem cf113 : cFn Tryz.prog 113 = some (cc_ref05_detector 3 111 137 138 110) := by kernel_rfl
theorem s113 : rDet5.Spec (Pure Tryz.prog) 113 := rDet5.ok hm cf113 s111 s137 s138 s110
theorem cf114 : cFn Tryz.prog 114 = some (cc_ref05_rail 3 111 110) := by kernel_rfl
theorem s114 : rRail5.Spec (Pure Tryz.prog) 114 := rRail5.ok hm cf114 s111 s110
theorem cf78 : cFn Tryz.prog 78 = some (cc_ref05_May 3 110 111 112 113 114) := by kernel_rfl
theorem s78 : rMay.Spec (Pure Tryz.prog) 78 := rMay.ok hm cf78 s110 s111 s112 s113 s114
theorem cf80 : cFn Tryz.prog 80 = some cc_ref08_phase := by kernel_rfl
theorem s80 : kPhase.Spec (Pure Tryz.prog) 80 := kPhase.ok hm cf80
theorem cf81 : cFn Tryz.prog 81 = some (cc_ref08_rings 79 37 83 22) := by kernel_rfl
theorem s81 : kRings.Spec (Pure Tryz.prog) 81 := kRings.ok hm cf81 s79_1 s37 s83 s22
theorem cf82 : cFn Tryz.prog 82 = some (cc_ref08_conflict 46 83 20) := by kernel_rfl
theorem s82 : kConf.Spec (Pure Tryz.prog) 82 := kConf.ok hm cf82 s46 s83 s20
theorem cf85 : cFn Tryz.prog 85 = some cc_ref08_in := by kernel_rfl
theorem s85 : kIn.Spec (Pure Tryz.prog) 85 := kIn.ok hm cf85
theorem cf115 : cFn Tryz.prog 115 = some (cc_ref08_exit 46 20) := by kernel_rfl
theorem s115 : kExit.Spec (Pure Tryz.prog) 115 := kExit.ok hm cf115 s46 s20
theorem cf116 : cFn Tryz.prog 116 = some (cc_ref08_Clash 46 83) := by kernel_rfl
theorem s116 : kClash.Spec (Pure Tryz.prog) 116 := kClash.ok hm cf116 s46 s83
theorem cf84 : cFn Tryz.prog 84 = some (cc_ref08_rail 85 115 116) := by kernel_rfl
theorem s84 : kRail.Spec (Pure Tryz.prog) 84 := kRail.ok hm cf84 s85 s115 s116
theorem cf86 : cFn Tryz.prog 86 = some (cc_ref08_flash 46 83) := by kernel_rfl
theorem s86 : kFlash.Spec (Pure Tryz.prog) 86 := kFlash.ok hm cf86 s46 s83
theorem cf31 : cFn Tryz.prog 31 = some (cc_ref08_Check 78 79 46 80 81 82 83 84 85 86) := by kernel_rfl
theorem s31 : kCheck.Spec (Pure Tryz.prog) 31 := kCheck.ok hm cf31 s78 s79_1 s46 s80 s81 s82 s83 s84 s85 s86
theorem cf8 : cFn Tryz.prog 8 = some (cc_ref08_All 31 25 32 33) := by kernel_rfl
theorem s8 : bAll.Spec (Pure Tryz.prog) 8 := rAll.ok hm cf8 s31 s25 s32 s33
theorem cf10 : cFn Tryz.prog 10 = some (cc_law10_awake 7 14) := by kernel_rfl
theorem s10 : awake10.Spec (Pure Tryz.prog) 10 := awake10.ok hm cf10 s7 s14
theorem cf3 : cFn Tryz.prog 3 = some (cc_law10_BoundGood 6 7 8 9 10) := by kernel_rfl
theorem s3 : bndGood.Spec (Pure Tryz.prog) 3 := bndGood.ok hm cf3 s6 s7 s8 s9 s10
theorem cf4 : cFn Tryz.prog 4 = some (cc_law10_BoundSerial 6 9 11 10 12 13 14 15) := by kernel_rfl
theorem s4 : bndSerial.Spec (Pure Tryz.prog) 4 := bndSerial.ok hm cf4 s6 s9 s11 s10 s12 s13 s14 s15
theorem cf5 : cFn Tryz.prog 5 = some (cc_law10_BoundMore 6 9 15 16 17 13 10) := by kernel_rfl
theorem s5 : bndMore.Spec (Pure Tryz.prog) 5 := bndMore.ok hm cf5 s6 s9 s15 s16 s17 s13 s10
end Go.Proofs.YtklehkdpcfmmgaaGreat
