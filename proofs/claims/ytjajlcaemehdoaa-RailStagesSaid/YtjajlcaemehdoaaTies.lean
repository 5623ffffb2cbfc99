/- The functions of this seat: their compiled code is what the library says of it, so that the contracts hold of them. -/
import Derived.Test.YtjajlcaemehdoaaChecked
import Derived.Test.YtjajlcaemehdoaaPk6
import Derived.Test.YtjajlcaemehdoaaEach2
namespace Go.Proofs.Ytjajlcaemehdoaa
open Go.Eng
set_option maxRecDepth 100000
theorem hm : Try.prog.follows .mixedOrders = true := by kernel_rfl
theorem cf36 : cFn Try.prog 36 = some cc_law00_At := by kernel_rfl
theorem s36 : At.Spec (Pure Try.prog) 36 := At.ok hm cf36
theorem cf27 : cFn Try.prog 27 = some cc_law00_Place := by kernel_rfl
theorem s27 : Place.Spec (Pure Try.prog) 27 := Place.ok hm cf27
theorem cf22 : cFn Try.prog 22 = some (cc_law00_from 36 27) := by kernel_rfl
theorem s22 : from.Spec (Pure Try.prog) 22 := from.ok hm cf22 s36 s27
theorem cf19 : cFn Try.prog 19 = some (cc_law00_rows 22 3 89) := by kernel_rfl
theorem s19 : rows.Spec (Pure Try.prog) 19 := rows.ok hm cf19 s22
theorem cf20 : cFn Try.prog 20 = some (cc_law00_phase 22) := by kernel_rfl
theorem s20 : phase.Spec (Pure Try.prog) 20 := phase.ok hm cf20 s22
theorem cf61 : cFn Try.prog 61 = some (cc_ref08_Spots 91) := by kernel_rfl
theorem s61 : spots.Spec (Pure Try.prog) 61 91 := spots.ok hm cf61
theorem cf35 : cFn Try.prog 35 = some (cc_ref08_Where 61) := by kernel_rfl
theorem s35 : where.Spec (Pure Try.prog) 35 := where.ok hm cf35 s61
theorem cf21 : cFn Try.prog 21 = some (cc_ref08_Beside 35) := by kernel_rfl
theorem s21 : beside.Spec (Pure Try.prog) 21 := beside.ok hm cf21 s35
theorem cf15 : cFn Try.prog 15 = some cc_ref01_Has := by kernel_rfl
theorem s15 : refHas.Spec (Pure Try.prog) 15 := refHas.ok hm cf15
theorem cf13 : cFn Try.prog 13 = some (cc_ref01_List 15 3) := by kernel_rfl
theorem s13 : refList.Spec (Pure Try.prog) 13 3 := refList.ok hm cf13 s15
theorem cf37 : cFn Try.prog 37 = some cc_ref01_Of := by kernel_rfl
theorem s37 : refOf.Spec (Pure Try.prog) 37 := refOf.ok hm cf37
theorem cf23 : cFn Try.prog 23 = some (cc_ref01_With 13 3 37) := by kernel_rfl
theorem s23 : refWith.Spec (Pure Try.prog) 23 := refWith.ok hm cf23 s13 s37
theorem cf24 : cFn Try.prog 24 = some (cc_law00_detector 22) := by kernel_rfl
theorem s24 : detector.Spec (Pure Try.prog) 24 := detector.ok hm cf24 s22
theorem cf38 : cFn Try.prog 38 = some (cc_law00_with 3 37 21 23) := by kernel_rfl
theorem s38 : with.Spec (Pure Try.prog) 38 := with.ok hm cf38 s37 s21 s23
theorem cf25 : cFn Try.prog 25 = some (cc_law00_rail 22 38) := by kernel_rfl
theorem s25 : rail.Spec (Pure Try.prog) 25 := rail.ok hm cf25 s22 s38
theorem cf62 : cFn Try.prog 62 = some (cc_ref08_On 3 37) := by kernel_rfl
theorem s62_1 : on.Spec (Pure Try.prog) 62 := on.ok hm cf62 s37
theorem cf83 : cFn Try.prog 83 = some cc_ref01_Cut := by kernel_rfl
theorem s83 : Cut.Spec (Pure Try.prog) 83 := Cut.ok hm cf83
theorem cf65 : cFn Try.prog 65 = some (cc_ref01_Cap 83) := by kernel_rfl
theorem s65 : Cap.Spec (Pure Try.prog) 65 := Cap.ok hm cf65 s83
theorem cf82 : cFn Try.prog 82 = some (cc_ref01_Add 65) := by kernel_rfl
theorem s82 : Add.Spec (Pure Try.prog) 82 := Add.ok hm cf82 s65
theorem cf64 : cFn Try.prog 64 = some (cc_ref01_Sum 82) := by kernel_rfl
theorem s64 : sum1.Spec (Pure Try.prog) 64 := Sum.ok hm cf64 s82
theorem cf40 : cFn Try.prog 40 = some (cc_ref08_sum 64) := by kernel_rfl
theorem s40 : sum1.Spec (Pure Try.prog) 40 := sum1.ok hm cf40 s64
theorem cf67 : cFn Try.prog 67 = some cc_ref08_most := by kernel_rfl
theorem s67 : most.Spec (Pure Try.prog) 67 := most.ok hm cf67
theorem cf81 : cFn Try.prog 81 = some (cc_ref08_Serve 62 15 65 3 40 67) := by kernel_rfl
theorem s81 : serve.Spec (Pure Try.prog) 81 := serve.ok hm cf81 s62_1 s15 s65 s40 s67
theorem cf63 : cFn Try.prog 63 = some (cc_ref08_Pass 3 61 81 40) := by kernel_rfl
theorem s63 : pass.Spec (Pure Try.prog) 63 := pass.ok hm cf63 s61 s81 s40
theorem cf39 : cFn Try.prog 39 = some (cc_ref08_Free 35 62 15 63 3 40) := by kernel_rfl
theorem s39 : free.Spec (Pure Try.prog) 39 := free.ok hm cf39 s35 s62_1 s15 s63 s40
theorem cf68 : cFn Try.prog 68 = some (cc_ref08_clear 62 13 3 40 67) := by kernel_rfl
theorem s68 : clear.Spec (Pure Try.prog) 68 := clear.ok hm cf68 s62_1 s13 s40 s67
theorem cf66 : cFn Try.prog 66 = some (cc_ref08_Entry 68 3 40) := by kernel_rfl
theorem s66 : entry.Spec (Pure Try.prog) 66 := entry.ok hm cf66 s68 s40
theorem cf42 : cFn Try.prog 42 = some (cc_ref08_Over 66 3 40 62 13 65 67 68) := by kernel_rfl
theorem s42 : over.Spec (Pure Try.prog) 42 := over.ok hm cf42 s66 s40 s62_1 s13 s65 s67 s68
theorem cf41 : cFn Try.prog 41 = some (cc_ref01_Mul 65) := by kernel_rfl
theorem s41 : Mul.Spec (Pure Try.prog) 41 := Mul.ok hm cf41 s65
theorem cf26 : cFn Try.prog 26 = some (cc_ref08_Wait 39 3 40 42 41) := by kernel_rfl
theorem s26 : wait.Spec (Pure Try.prog) 26 := wait.ok hm cf26 s39 s40 s42 s41
theorem cf6 : cFn Try.prog 6 = some (cc_law00_Table 19 20 21 22 23 24 69 25 55 73 26) := by kernel_rfl
theorem s6 : Table.Spec (Pure Try.prog) 6 := Table.ok hm cf6 s19 s20 s21 s22 s23 s24 s25 s26
theorem cf7 : cFn Try.prog 7 = some (cc_law00_Pre 27) := by kernel_rfl
theorem s7 : lPre.Spec (Pure Try.prog) 7 := lPre.ok hm cf7 s27
theorem cf32 : cFn Try.prog 32 = some cc_preempt_rails := by kernel_rfl
theorem s32 : pRails.Spec (Pure Try.prog) 32 := pRails.ok hm cf32
theorem cf17 : cFn Try.prog 17 = some (cc_preempt_Lines 32) := by kernel_rfl
theorem s17 : pLines.Spec (Pure Try.prog) 17 := pLines.ok hm cf17 s32
theorem cf43 : cFn Try.prog 43 = some cc_preempt_way_idle := by kernel_rfl
theorem s43 : wIdle.Spec (Pure Try.prog) 43 := wIdle.ok hm cf43
theorem cf44 : cFn Try.prog 44 = some cc_preempt_way_free := by kernel_rfl
theorem s44 : wFree.Spec (Pure Try.prog) 44 := wFree.ok hm cf44
theorem cf56 : cFn Try.prog 56 = some (cc_preempt_way_rail 32) := by kernel_rfl
theorem s56 : wRail.Spec (Pure Try.prog) 56 := wRail.ok hm cf56 s32
theorem cf55 : cFn Try.prog 55 = some (cc_preempt_way_target 56) := by kernel_rfl
theorem s55 : wTgt.Spec (Pure Try.prog) 55 := wTgt.ok hm cf55 s56
theorem cf87 : cFn Try.prog 87 = some cc_set_bit := by kernel_rfl
theorem s87 : bit.Spec (Pure Try.prog) 87 := bit.ok hm cf87
theorem cf86 : cFn Try.prog 86 = some (cc_set_Has 87) := by kernel_rfl
theorem s86 : setHas.Spec (Pure Try.prog) 86 := setHas.ok hm cf86 s87
theorem s85 : Go.Eng.setEach1.Spec (Go.Eng.Pure Try.prog) 85 := Go.Eng.setEach1.of (by kernel_rfl) (setEach_some (Go.Eng.HasCall.of s86))
theorem cf78 : cFn Try.prog 78 = some (cc_set_Each 85) := by kernel_rfl
theorem s78 : each27.Spec (Pure Try.prog) 78 := setEach.ok hm cf78 s85
theorem cf79 : cFn Try.prog 79 = some (cc_set_With 87) := by kernel_rfl
theorem s79 : setWith.Spec (Pure Try.prog) 79 := setWith.ok hm cf79 s87
theorem cf57 : cFn Try.prog 57 = some (cc_preempt_way_those 78 79) := by kernel_rfl
theorem s57 : wThose.Spec (Pure Try.prog) 57 := wThose.ok hm cf57 s78 s79
theorem cf74 : cFn Try.prog 74 = some cc_preempt_red := by kernel_rfl
theorem s74 : wRed.Spec (Pure Try.prog) 74 := wRed.ok hm cf74
theorem cf58 : cFn Try.prog 58 = some (cc_preempt_isRed 74) := by kernel_rfl
theorem s58 : wIsRed.Spec (Pure Try.prog) 58 := wIsRed.ok hm cf58 s74
theorem cf69 : cFn Try.prog 69 = some (cc_preempt_way_reds 57 58) := by kernel_rfl
theorem s69 : wReds.Spec (Pure Try.prog) 69 := wReds.ok hm cf69 s57 s58
theorem cf45 : cFn Try.prog 45 = some (cc_preempt_way_enters 55 69 56) := by kernel_rfl
theorem s45 : wEnters.Spec (Pure Try.prog) 45 := wEnters.ok hm cf45 s55 s69 s56
theorem cf72 : cFn Try.prog 72 = some (cc_preempt_way_over 56) := by kernel_rfl
theorem s72 : wOver.Spec (Pure Try.prog) 72 := wOver.ok hm cf72 s56
theorem cf76 : cFn Try.prog 76 = some (cc_preempt_way_ends_1 72) := by kernel_rfl
theorem s76 : wEnds1.Spec (Pure Try.prog) 76 := wEnds1.ok hm cf76 s72
theorem cf77 : cFn Try.prog 77 = some cc_preempt_isWalk := by kernel_rfl
theorem s77 : wIsWalk.Spec (Pure Try.prog) 77 := wIsWalk.ok hm cf77
theorem cf54 : cFn Try.prog 54 = some (cc_preempt_way_ends 76 57 77) := by kernel_rfl
theorem s54 : wEnds.Spec (Pure Try.prog) 54 := wEnds.ok hm cf54 s76 s57 s77
theorem cf29 : cFn Try.prog 29 = some (cc_preempt_way_entry 55 56 54) := by kernel_rfl
theorem s29 : wEntry.Spec (Pure Try.prog) 29 := wEntry.ok hm cf29 s55 s56 s54
theorem cf46 : cFn Try.prog 46 = some (cc_preempt_way_clears 56) := by kernel_rfl
theorem s46 : wClears.Spec (Pure Try.prog) 46 := wClears.ok hm cf46 s56
theorem cf84 : cFn Try.prog 84 = some (cc_preempt_way_begins_1 74 69) := by kernel_rfl
theorem s84 : wBegin1.Spec (Pure Try.prog) 84 := wBegin1.ok hm cf84 s74 s69
theorem cf70 : cFn Try.prog 70 = some (cc_preempt_way_begins 84 57) := by kernel_rfl
theorem s70 : wBegins.Spec (Pure Try.prog) 70 := wBegins.ok hm cf70 s84 s57
theorem cf47 : cFn Try.prog 47 = some (cc_preempt_way_track 56 70) := by kernel_rfl
theorem s47 : wTrack.Spec (Pure Try.prog) 47 := wTrack.ok hm cf47 s56 s70
theorem cf48 : cFn Try.prog 48 = some (cc_preempt_way_betweens 56 69) := by kernel_rfl
theorem s48 : wBetweens.Spec (Pure Try.prog) 48 := wBetweens.ok hm cf48 s56 s69
theorem cf71 : cFn Try.prog 71 = some (cc_preempt_way_between_1 72) := by kernel_rfl
theorem s71 : wBet1.Spec (Pure Try.prog) 71 := wBet1.ok hm cf71 s72
theorem cf49 : cFn Try.prog 49 = some (cc_preempt_way_between 56 54 71 57) := by kernel_rfl
theorem s49 : wBetween.Spec (Pure Try.prog) 49 := wBetween.ok hm cf49 s56 s54 s71 s57
theorem cf9 : cFn Try.prog 9 = some (cc_preempt_Ready 32) := by kernel_rfl
theorem s9 : pReady.Spec (Pure Try.prog) 9 := pReady.ok hm cf9 s32
theorem cf50 : cFn Try.prog 50 = some (cc_preempt_way_dwells 56 9) := by kernel_rfl
theorem s50 : wDwells.Spec (Pure Try.prog) 50 := wDwells.ok hm cf50 s56 s9
theorem cf51 : cFn Try.prog 51 = some (cc_preempt_way_dwell 56 70) := by kernel_rfl
theorem s51 : wDwell.Spec (Pure Try.prog) 51 := wDwell.ok hm cf51 s56 s70
theorem cf73 : cFn Try.prog 73 = some (cc_preempt_way_leaves_1 74) := by kernel_rfl
theorem s73 : wLeaves1.Spec (Pure Try.prog) 73 := wLeaves1.ok hm cf73 s74
theorem cf52 : cFn Try.prog 52 = some (cc_preempt_way_leaves 56 73 57 69) := by kernel_rfl
theorem s52 : wLeaves.Spec (Pure Try.prog) 52 := wLeaves.ok hm cf52 s56 s73 s57 s69
theorem cf75 : cFn Try.prog 75 = some cc_preempt_way_leave_1 := by kernel_rfl
theorem s75 : wLeave1.Spec (Pure Try.prog) 75 := wLeave1.ok hm cf75
theorem cf53 : cFn Try.prog 53 = some (cc_preempt_way_leave 56 75 57) := by kernel_rfl
theorem s53 : wLeave.Spec (Pure Try.prog) 53 := wLeave.ok hm cf53 s56 s75 s57
theorem cf28 : cFn Try.prog 28 = some (cc_preempt_stages 43 44 45 29 46 47 48 49 50 51 52 53) := by kernel_rfl
theorem s28 : wStages.Spec (Pure Try.prog) 28 := wStages.ok hm cf28 s43 s44 s45 s29 s46 s47 s48 s49 s50 s51 s52 s53
theorem cf30 : cFn Try.prog 30 = some (cc_preempt_way_back 56 57 58) := by kernel_rfl
theorem s30 : wBack.Spec (Pure Try.prog) 30 := wBack.ok hm cf30 s56 s57 s58
theorem cf80 : cFn Try.prog 80 = some cc_preempt_isGreen := by kernel_rfl
theorem s80 : wIsGreen.Spec (Pure Try.prog) 80 := wIsGreen.ok hm cf80
theorem cf59 : cFn Try.prog 59 = some (cc_preempt_way_greens 57 80) := by kernel_rfl
theorem s59 : wGreens.Spec (Pure Try.prog) 59 := wGreens.ok hm cf59 s57 s80
theorem cf60 : cFn Try.prog 60 = some cc_preempt_more := by kernel_rfl
theorem s60 : pMore.Spec (Pure Try.prog) 60 := pMore.ok hm cf60
theorem cf31 : cFn Try.prog 31 = some (cc_preempt_way_time 56 59 60) := by kernel_rfl
theorem s31 : wTime.Spec (Pure Try.prog) 31 := wTime.ok hm cf31 s56 s59 s60
theorem cf8 : cFn Try.prog 8 = some (cc_preempt_Step 17 28 9 29 30 31) := by kernel_rfl
theorem s8 : pStep.Spec (Pure Try.prog) 8 := pStep.ok hm cf8 s17 s28 s9 s29 s30 s31
theorem cf33 : cFn Try.prog 33 = some (cc_law21_one 3 89 55) := by kernel_rfl
theorem s33 : lOne.Spec (Pure Try.prog) 33 := lOne.ok hm cf33
theorem cf10 : cFn Try.prog 10 = some (cc_law21_awake 33 8 9) := by kernel_rfl
theorem s10 : awake21.Spec (Pure Try.prog) 10 := awake21.ok hm cf10 s33 s8 s9
theorem cf11 : cFn Try.prog 11 = some cc_law21_may := by kernel_rfl
theorem s11 : lMay.Spec (Pure Try.prog) 11 := lMay.ok hm cf11
theorem cf3 : cFn Try.prog 3 = some (cc_law21_RailStages 6 7 8 9 10 11) := by kernel_rfl
theorem s3 : railStages.Spec (Pure Try.prog) 3 := railStages.ok hm cf3 s6 s7 s8 s9 s10 s11
theorem cf12 : cFn Try.prog 12 = some (cc_ref19_Green 23) := by kernel_rfl
theorem s12 : green19.Spec (Pure Try.prog) 12 := green19.ok hm cf12 s23
theorem cf14 : cFn Try.prog 14 = some (cc_law00_Clash 15) := by kernel_rfl
theorem s14 : clash00.Spec (Pure Try.prog) 14 := clash00.ok hm cf14 s15
theorem cf34 : cFn Try.prog 34 = some cc_ref19_red := by kernel_rfl
theorem s34 : red19.Spec (Pure Try.prog) 34 := red19.ok hm cf34
theorem cf16 : cFn Try.prog 16 = some (cc_ref19_Reds 34 23) := by kernel_rfl
theorem s16 : reds19.Spec (Pure Try.prog) 16 := reds19.ok hm cf16 s34 s23
theorem cf4 : cFn Try.prog 4 = some (cc_law21_RailActs 6 7 8 12 10 13 14 16 15) := by kernel_rfl
theorem s4 : railActs.Spec (Pure Try.prog) 4 := railActs.ok hm cf4 s6 s7 s8 s12 s10 s13 s14 s16 s15
theorem cf18 : cFn Try.prog 18 = some (cc_preempt_Stuck 32) := by kernel_rfl
theorem s18 : pStuck.Spec (Pure Try.prog) 18 := pStuck.ok hm cf18 s32
theorem cf5 : cFn Try.prog 5 = some (cc_law21_RailCounts 6 10 17 9 18) := by kernel_rfl
theorem s5 : railCounts.Spec (Pure Try.prog) 5 := railCounts.ok hm cf5 s6 s10 s17 s9 s18
end Go.Proofs.Ytjajlcaemehdoaa
