/- The functions of this seat: their compiled code is what the library says of it, so that the contracts hold of them. -/
import Derived.Test.YthghbmjeihahmaaChecked
import Derived.Test.YthghbmjeihahmaaPk6
namespace Go.Proofs.Ythghbmjeihahmaa
open Go.Eng
set_option maxRecDepth 100000
theorem hm : Try.prog.follows .mixedOrders = true := by kernel_rfl
theorem cf13 : cFn Try.prog 13 = some cc_monitor_more := by kernel_rfl
theorem s13 : more24.Spec (Pure Try.prog) 13 := more24.ok hm cf13
theorem cf66 : cFn Try.prog 66 = some cc_math_bits_OnesCount64 := by kernel_rfl
theorem s66 : ones64.Spec (Pure Try.prog) 66 := ones64.ok hm cf66
theorem cf52 : cFn Try.prog 52 = some (cc_math_bits_OnesCount 65 66) := by kernel_rfl
theorem s52 : ones.Spec (Pure Try.prog) 52 := ones.ok hm cf52 s66
theorem cf30 : cFn Try.prog 30 = some (cc_monitor_watch_lit 52) := by kernel_rfl
theorem s30 : lit24.Spec (Pure Try.prog) 30 := lit24.ok hm cf30 s52
theorem cf29 : cFn Try.prog 29 = some (cc_monitor_watch_fault_1 30) := by kernel_rfl
theorem s29 : fau1.Spec (Pure Try.prog) 29 := fau1.ok hm cf29 s30
theorem cf28 : cFn Try.prog 28 = some cc_monitor_watch_any := by kernel_rfl
theorem s28 : any24.Spec (Pure Try.prog) 28 := any24.ok hm cf28
theorem cf31 : cFn Try.prog 31 = some (cc_monitor_watch_fault_2 30) := by kernel_rfl
theorem s31 : fau2.Spec (Pure Try.prog) 31 := fau2.ok hm cf31 s30
theorem cf33 : cFn Try.prog 33 = some cc_monitor_watch_moves := by kernel_rfl
theorem s33 : moves24.Spec (Pure Try.prog) 33 := moves24.ok hm cf33
theorem cf67 : cFn Try.prog 67 = some cc_set_bit := by kernel_rfl
theorem s67 : bit.Spec (Pure Try.prog) 67 := bit.ok hm cf67
theorem cf54 : cFn Try.prog 54 = some (cc_set_Has 67) := by kernel_rfl
theorem s54 : setHas.Spec (Pure Try.prog) 54 := setHas.ok hm cf54 s67
theorem cf53 : cFn Try.prog 53 = some (cc_monitor_watch_against_1 54 33) := by kernel_rfl
theorem s53 : agst1.Spec (Pure Try.prog) 53 := agst1.ok hm cf53 s54 s33
theorem cf34 : cFn Try.prog 34 = some (cc_monitor_watch_against 53 28) := by kernel_rfl
theorem s34 : agst.Spec (Pure Try.prog) 34 := agst.ok hm cf34 s53 s28
theorem cf32 : cFn Try.prog 32 = some (cc_monitor_watch_fault_3 33 34) := by kernel_rfl
theorem s32 : fau3.Spec (Pure Try.prog) 32 := fau3.ok hm cf32 s33 s34
theorem cf35 : cFn Try.prog 35 = some (cc_monitor_watch_fault_4 34) := by kernel_rfl
theorem s35 : fau4.Spec (Pure Try.prog) 35 := fau4.ok hm cf35 s34
theorem cf38 : cFn Try.prog 38 = some cc_monitor_watch_turned := by kernel_rfl
theorem s38 : turned24.Spec (Pure Try.prog) 38 := turned24.ok hm cf38
theorem cf36 : cFn Try.prog 36 = some (cc_monitor_watch_skipped 38) := by kernel_rfl
theorem s36 : skipped24.Spec (Pure Try.prog) 36 := skipped24.ok hm cf36 s38
theorem cf37 : cFn Try.prog 37 = some (cc_monitor_watch_fault_5 38) := by kernel_rfl
theorem s37 : fau5.Spec (Pure Try.prog) 37 := fau5.ok hm cf37 s38
theorem cf14 : cFn Try.prog 14 = some (cc_monitor_watch_fault 29 28 31 32 35 36 37) := by kernel_rfl
theorem s14 : fault24.Spec (Pure Try.prog) 14 := fault24.ok hm cf14 s29 s28 s31 s32 s35 s36 s37
theorem cf7 : cFn Try.prog 7 = some (cc_monitor_Step 13 14) := by kernel_rfl
theorem s7 : Step24.Spec (Pure Try.prog) 7 := Step24.ok hm cf7 s13 s14
theorem cf15 : cFn Try.prog 15 = some cc_ref23_lights := by kernel_rfl
theorem s15 : lights.Spec (Pure Try.prog) 15 := lights.ok hm cf15
theorem cf39 : cFn Try.prog 39 = some cc_ref01_Cut := by kernel_rfl
theorem s39 : Cut.Spec (Pure Try.prog) 39 := Cut.ok hm cf39
theorem cf16 : cFn Try.prog 16 = some (cc_ref01_More 39) := by kernel_rfl
theorem s16 : refMore.Spec (Pure Try.prog) 16 := refMore.ok hm cf16 s39
theorem cf46 : cFn Try.prog 46 = some cc_ref01_Of := by kernel_rfl
theorem s46 : refOf.Spec (Pure Try.prog) 46 := refOf.ok hm cf46
theorem cf41 : cFn Try.prog 41 = some (cc_ref08_On 3 46) := by kernel_rfl
theorem s41 : onL.Spec (Pure Try.prog) 41 := onL.ok hm cf41 s46
theorem cf27 : cFn Try.prog 27 = some cc_ref01_Has := by kernel_rfl
theorem s27 : refHas.Spec (Pure Try.prog) 27 := refHas.ok hm cf27
theorem cf40 : cFn Try.prog 40 = some (cc_ref01_List 27 3) := by kernel_rfl
theorem s40 : refList.Spec (Pure Try.prog) 40 3 := refList.ok hm cf40 s27
theorem cf55 : cFn Try.prog 55 = some cc_ref23_one := by kernel_rfl
theorem s55 : one23.Spec (Pure Try.prog) 55 := one23.ok hm cf55
theorem cf42 : cFn Try.prog 42 = some (cc_ref23_own 55) := by kernel_rfl
theorem s42 : own23.Spec (Pure Try.prog) 42 := own23.ok hm cf42 s55
theorem cf57 : cFn Try.prog 57 = some cc_ref23_lit := by kernel_rfl
theorem s57 : lit23.Spec (Pure Try.prog) 57 := lit23.ok hm cf57
theorem cf56 : cFn Try.prog 56 = some (cc_ref23_Moves 57) := by kernel_rfl
theorem s56 : moves23.Spec (Pure Try.prog) 56 := moves23.ok hm cf56 s57
theorem cf43 : cFn Try.prog 43 = some (cc_ref23_both 56 57) := by kernel_rfl
theorem s43 : both23.Spec (Pure Try.prog) 43 := both23.ok hm cf43 s56 s57
theorem cf17 : cFn Try.prog 17 = some (cc_ref23_wrong 41 40 15 42 27 43) := by kernel_rfl
theorem s17 : wrong23.Spec (Pure Try.prog) 17 := wrong23.ok hm cf17 s41 s40 s15 s42 s27 s43
theorem cf8 : cFn Try.prog 8 = some (cc_ref23_Watch 15 16 17) := by kernel_rfl
theorem s8 : Watch23.Spec (Pure Try.prog) 8 := Watch23.ok hm cf8 s15 s16 s17
theorem cf18 : cFn Try.prog 18 = some cc_law24_pair := by kernel_rfl
theorem s18 : pair24.Spec (Pure Try.prog) 18 := pair24.ok hm cf18
theorem cf9 : cFn Try.prog 9 = some (cc_law24_awake 18 7) := by kernel_rfl
theorem s9 : awake24.Spec (Pure Try.prog) 9 := awake24.ok hm cf9 s18 s7
theorem cf3 : cFn Try.prog 3 = some (cc_law24_MonitorAll 7 8 9) := by kernel_rfl
theorem s3 : monAll.Spec (Pure Try.prog) 3 := monAll.ok hm cf3 s7 s8 s9
theorem cf45 : cFn Try.prog 45 = some cc_law00_At := by kernel_rfl
theorem s45 : At.Spec (Pure Try.prog) 45 := At.ok hm cf45
theorem cf11 : cFn Try.prog 11 = some cc_law00_Place := by kernel_rfl
theorem s11 : Place.Spec (Pure Try.prog) 11 := Place.ok hm cf11
theorem cf22 : cFn Try.prog 22 = some (cc_law00_from 45 11) := by kernel_rfl
theorem s22 : from.Spec (Pure Try.prog) 22 := from.ok hm cf22 s45 s11
theorem cf19 : cFn Try.prog 19 = some (cc_law00_rows 22 3 75) := by kernel_rfl
theorem s19 : rows.Spec (Pure Try.prog) 19 := rows.ok hm cf19 s22
theorem cf20 : cFn Try.prog 20 = some (cc_law00_phase 22) := by kernel_rfl
theorem s20 : phase.Spec (Pure Try.prog) 20 := phase.ok hm cf20 s22
theorem cf58 : cFn Try.prog 58 = some (cc_ref08_Spots 77) := by kernel_rfl
theorem s58 : spots.Spec (Pure Try.prog) 58 77 := spots.ok hm cf58
theorem cf44 : cFn Try.prog 44 = some (cc_ref08_Where 58) := by kernel_rfl
theorem s44 : where.Spec (Pure Try.prog) 44 := where.ok hm cf44 s58
theorem cf21 : cFn Try.prog 21 = some (cc_ref08_Beside 44) := by kernel_rfl
theorem s21 : beside.Spec (Pure Try.prog) 21 := beside.ok hm cf21 s44
theorem cf23 : cFn Try.prog 23 = some (cc_ref01_With 40 3 46) := by kernel_rfl
theorem s23 : refWith.Spec (Pure Try.prog) 23 := refWith.ok hm cf23 s40 s46
theorem cf24 : cFn Try.prog 24 = some (cc_law00_detector 22) := by kernel_rfl
theorem s24 : detector.Spec (Pure Try.prog) 24 := detector.ok hm cf24 s22
theorem cf47 : cFn Try.prog 47 = some (cc_law00_with 3 46 21 23) := by kernel_rfl
theorem s47 : with.Spec (Pure Try.prog) 47 := with.ok hm cf47 s46 s21 s23
theorem cf25 : cFn Try.prog 25 = some (cc_law00_rail 22 47) := by kernel_rfl
theorem s25 : rail.Spec (Pure Try.prog) 25 := rail.ok hm cf25 s22 s47
theorem s41_1 : on.Spec (Pure Try.prog) 41 := on.ok hm cf41 s46
theorem cf61 : cFn Try.prog 61 = some (cc_ref01_Cap 39) := by kernel_rfl
theorem s61 : Cap.Spec (Pure Try.prog) 61 := Cap.ok hm cf61 s39
theorem cf69 : cFn Try.prog 69 = some (cc_ref01_Add 61) := by kernel_rfl
theorem s69 : Add.Spec (Pure Try.prog) 69 := Add.ok hm cf69 s61
theorem cf60 : cFn Try.prog 60 = some (cc_ref01_Sum 69) := by kernel_rfl
theorem s60 : sum1.Spec (Pure Try.prog) 60 := Sum.ok hm cf60 s69
theorem cf49 : cFn Try.prog 49 = some (cc_ref08_sum 60) := by kernel_rfl
theorem s49 : sum1.Spec (Pure Try.prog) 49 := sum1.ok hm cf49 s60
theorem cf63 : cFn Try.prog 63 = some cc_ref08_most := by kernel_rfl
theorem s63 : most.Spec (Pure Try.prog) 63 := most.ok hm cf63
theorem cf68 : cFn Try.prog 68 = some (cc_ref08_Serve 41 27 61 3 49 63) := by kernel_rfl
theorem s68 : serve.Spec (Pure Try.prog) 68 := serve.ok hm cf68 s41_1 s27 s61 s49 s63
theorem cf59 : cFn Try.prog 59 = some (cc_ref08_Pass 3 58 68 49) := by kernel_rfl
theorem s59 : pass.Spec (Pure Try.prog) 59 := pass.ok hm cf59 s58 s68 s49
theorem cf48 : cFn Try.prog 48 = some (cc_ref08_Free 44 41 27 59 3 49) := by kernel_rfl
theorem s48 : free.Spec (Pure Try.prog) 48 := free.ok hm cf48 s44 s41_1 s27 s59 s49
theorem cf64 : cFn Try.prog 64 = some (cc_ref08_clear 41 40 3 49 63) := by kernel_rfl
theorem s64 : clear.Spec (Pure Try.prog) 64 := clear.ok hm cf64 s41_1 s40 s49 s63
theorem cf62 : cFn Try.prog 62 = some (cc_ref08_Entry 64 3 49) := by kernel_rfl
theorem s62 : entry.Spec (Pure Try.prog) 62 := entry.ok hm cf62 s64 s49
theorem cf51 : cFn Try.prog 51 = some (cc_ref08_Over 62 3 49 41 40 61 63 64) := by kernel_rfl
theorem s51 : over.Spec (Pure Try.prog) 51 := over.ok hm cf51 s62 s49 s41_1 s40 s61 s63 s64
theorem cf50 : cFn Try.prog 50 = some (cc_ref01_Mul 61) := by kernel_rfl
theorem s50 : Mul.Spec (Pure Try.prog) 50 := Mul.ok hm cf50 s61
theorem cf26 : cFn Try.prog 26 = some (cc_ref08_Wait 48 3 49 51 50) := by kernel_rfl
theorem s26 : wait.Spec (Pure Try.prog) 26 := wait.ok hm cf26 s48 s49 s51 s50
theorem cf10 : cFn Try.prog 10 = some (cc_law00_Table 19 20 21 22 23 24 58 25 61 65 26) := by kernel_rfl
theorem s10 : Table.Spec (Pure Try.prog) 10 := Table.ok hm cf10 s19 s20 s21 s22 s23 s24 s25 s26
theorem cf4 : cFn Try.prog 4 = some (cc_law24_MonitorPlays 10 11 7 8 9) := by kernel_rfl
theorem s4 : monPlays.Spec (Pure Try.prog) 4 := monPlays.ok hm cf4 s10 s11 s7 s8 s9
theorem cf5 : cFn Try.prog 5 = some (cc_law24_MonitorFinds 10 11 9 7) := by kernel_rfl
theorem s5 : monFinds.Spec (Pure Try.prog) 5 := monFinds.ok hm cf5 s10 s11 s9 s7
theorem cf12 : cFn Try.prog 12 = some (cc_law00_Clash 27) := by kernel_rfl
theorem s12 : clash00.Spec (Pure Try.prog) 12 := clash00.ok hm cf12 s27
theorem cf6 : cFn Try.prog 6 = some (cc_law24_MonitorClash 10 11 9 7 12) := by kernel_rfl
theorem s6 : monClash.Spec (Pure Try.prog) 6 := monClash.ok hm cf6 s10 s11 s9 s7 s12
end Go.Proofs.Ythghbmjeihahmaa
