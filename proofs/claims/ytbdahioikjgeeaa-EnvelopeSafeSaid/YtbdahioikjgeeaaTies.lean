/- The functions of this seat: their compiled code is what the library says of it, so that the contracts hold of them. -/
import Derived.Test.YtbdahioikjgeeaaChecked
import Derived.Test.YtbdahioikjgeeaaPk6
import Derived.Test.YtbdahioikjgeeaaEach2
namespace Go.Proofs.Ytbdahioikjgeeaa
open Go.Eng
set_option maxRecDepth 100000
theorem hm : Try.prog.follows .mixedOrders = true := by kernel_rfl
theorem cf34 : cFn Try.prog 34 = some cc_law00_At := by kernel_rfl
theorem s34 : At.Spec (Pure Try.prog) 34 := At.ok hm cf34
theorem cf8 : cFn Try.prog 8 = some cc_law00_Place := by kernel_rfl
theorem s8 : Place.Spec (Pure Try.prog) 8 := Place.ok hm cf8
theorem cf21 : cFn Try.prog 21 = some (cc_law00_from 34 8) := by kernel_rfl
theorem s21 : from.Spec (Pure Try.prog) 21 := from.ok hm cf21 s34 s8
theorem cf18 : cFn Try.prog 18 = some (cc_law00_rows 21 3 93) := by kernel_rfl
theorem s18 : rows.Spec (Pure Try.prog) 18 := rows.ok hm cf18 s21
theorem cf19 : cFn Try.prog 19 = some (cc_law00_phase 21) := by kernel_rfl
theorem s19 : phase.Spec (Pure Try.prog) 19 := phase.ok hm cf19 s21
theorem cf49 : cFn Try.prog 49 = some (cc_ref08_Spots 95) := by kernel_rfl
theorem s49 : spots.Spec (Pure Try.prog) 49 95 := spots.ok hm cf49
theorem cf33 : cFn Try.prog 33 = some (cc_ref08_Where 49) := by kernel_rfl
theorem s33 : where.Spec (Pure Try.prog) 33 := where.ok hm cf33 s49
theorem cf20 : cFn Try.prog 20 = some (cc_ref08_Beside 33) := by kernel_rfl
theorem s20 : beside.Spec (Pure Try.prog) 20 := beside.ok hm cf20 s33
theorem cf32 : cFn Try.prog 32 = some cc_ref01_Has := by kernel_rfl
theorem s32 : refHas.Spec (Pure Try.prog) 32 := refHas.ok hm cf32
theorem cf36 : cFn Try.prog 36 = some (cc_ref01_List 32 3) := by kernel_rfl
theorem s36 : refList.Spec (Pure Try.prog) 36 3 := refList.ok hm cf36 s32
theorem cf35 : cFn Try.prog 35 = some cc_ref01_Of := by kernel_rfl
theorem s35 : refOf.Spec (Pure Try.prog) 35 := refOf.ok hm cf35
theorem cf22 : cFn Try.prog 22 = some (cc_ref01_With 36 3 35) := by kernel_rfl
theorem s22 : refWith.Spec (Pure Try.prog) 22 := refWith.ok hm cf22 s36 s35
theorem cf23 : cFn Try.prog 23 = some (cc_law00_detector 21) := by kernel_rfl
theorem s23 : detector.Spec (Pure Try.prog) 23 := detector.ok hm cf23 s21
theorem cf37 : cFn Try.prog 37 = some (cc_law00_with 3 35 20 22) := by kernel_rfl
theorem s37 : with.Spec (Pure Try.prog) 37 := with.ok hm cf37 s35 s20 s22
theorem cf24 : cFn Try.prog 24 = some (cc_law00_rail 21 37) := by kernel_rfl
theorem s24 : rail.Spec (Pure Try.prog) 24 := rail.ok hm cf24 s21 s37
theorem cf50 : cFn Try.prog 50 = some (cc_ref08_On 3 35) := by kernel_rfl
theorem s50_1 : on.Spec (Pure Try.prog) 50 := on.ok hm cf50 s35
theorem cf26 : cFn Try.prog 26 = some cc_ref01_Cut := by kernel_rfl
theorem s26 : Cut.Spec (Pure Try.prog) 26 := Cut.ok hm cf26
theorem cf53 : cFn Try.prog 53 = some (cc_ref01_Cap 26) := by kernel_rfl
theorem s53 : Cap.Spec (Pure Try.prog) 53 := Cap.ok hm cf53 s26
theorem cf60 : cFn Try.prog 60 = some (cc_ref01_Add 53) := by kernel_rfl
theorem s60 : Add.Spec (Pure Try.prog) 60 := Add.ok hm cf60 s53
theorem cf52 : cFn Try.prog 52 = some (cc_ref01_Sum 60) := by kernel_rfl
theorem s52 : sum1.Spec (Pure Try.prog) 52 := Sum.ok hm cf52 s60
theorem cf39 : cFn Try.prog 39 = some (cc_ref08_sum 52) := by kernel_rfl
theorem s39 : sum1.Spec (Pure Try.prog) 39 := sum1.ok hm cf39 s52
theorem cf55 : cFn Try.prog 55 = some cc_ref08_most := by kernel_rfl
theorem s55 : most.Spec (Pure Try.prog) 55 := most.ok hm cf55
theorem cf59 : cFn Try.prog 59 = some (cc_ref08_Serve 50 32 53 3 39 55) := by kernel_rfl
theorem s59 : serve.Spec (Pure Try.prog) 59 := serve.ok hm cf59 s50_1 s32 s53 s39 s55
theorem cf51 : cFn Try.prog 51 = some (cc_ref08_Pass 3 49 59 39) := by kernel_rfl
theorem s51 : pass.Spec (Pure Try.prog) 51 := pass.ok hm cf51 s49 s59 s39
theorem cf38 : cFn Try.prog 38 = some (cc_ref08_Free 33 50 32 51 3 39) := by kernel_rfl
theorem s38 : free.Spec (Pure Try.prog) 38 := free.ok hm cf38 s33 s50_1 s32 s51 s39
theorem cf56 : cFn Try.prog 56 = some (cc_ref08_clear 50 36 3 39 55) := by kernel_rfl
theorem s56 : clear.Spec (Pure Try.prog) 56 := clear.ok hm cf56 s50_1 s36 s39 s55
theorem cf54 : cFn Try.prog 54 = some (cc_ref08_Entry 56 3 39) := by kernel_rfl
theorem s54 : entry.Spec (Pure Try.prog) 54 := entry.ok hm cf54 s56 s39
theorem cf41 : cFn Try.prog 41 = some (cc_ref08_Over 54 3 39 50 36 53 55 56) := by kernel_rfl
theorem s41 : over.Spec (Pure Try.prog) 41 := over.ok hm cf41 s54 s39 s50_1 s36 s53 s55 s56
theorem cf40 : cFn Try.prog 40 = some (cc_ref01_Mul 53) := by kernel_rfl
theorem s40 : Mul.Spec (Pure Try.prog) 40 := Mul.ok hm cf40 s53
theorem cf25 : cFn Try.prog 25 = some (cc_ref08_Wait 38 3 39 41 40) := by kernel_rfl
theorem s25 : wait.Spec (Pure Try.prog) 25 := wait.ok hm cf25 s38 s39 s41 s40
theorem cf6 : cFn Try.prog 6 = some (cc_law00_Table 18 19 20 21 22 23 75 24 78 82 25) := by kernel_rfl
theorem s6 : Table.Spec (Pure Try.prog) 6 := Table.ok hm cf6 s18 s19 s20 s21 s22 s23 s24 s25
theorem cf7 : cFn Try.prog 7 = some (cc_law27_near 8) := by kernel_rfl
theorem s7 : near.Spec (Pure Try.prog) 7 := near.ok hm cf7 s8
theorem cf9 : cFn Try.prog 9 = some (cc_ref01_More 26) := by kernel_rfl
theorem s9 : refMore.Spec (Pure Try.prog) 9 := refMore.ok hm cf9 s26
theorem cf57 : cFn Try.prog 57 = some cc_envelope_more := by kernel_rfl
theorem s57 : more27.Spec (Pure Try.prog) 57 := more27.ok hm cf57
theorem cf42 : cFn Try.prog 42 = some (cc_envelope_pair_goes 57) := by kernel_rfl
theorem s42 : goes.Spec (Pure Try.prog) 42 := goes.ok hm cf42 s57
theorem cf43 : cFn Try.prog 43 = some cc_envelope_pair_begins := by kernel_rfl
theorem s43 : begins.Spec (Pure Try.prog) 43 := begins.ok hm cf43
theorem cf63 : cFn Try.prog 63 = some cc_set_bit := by kernel_rfl
theorem s63 : bit.Spec (Pure Try.prog) 63 := bit.ok hm cf63
theorem cf62 : cFn Try.prog 62 = some (cc_set_Has 63) := by kernel_rfl
theorem s62 : setHas.Spec (Pure Try.prog) 62 := setHas.ok hm cf62 s63
theorem s61 : Go.Eng.setEach1.Spec (Go.Eng.Pure Try.prog) 61 := Go.Eng.setEach1.of (by kernel_rfl) (setEach_some (Go.Eng.HasCall.of s62))
theorem cf58 : cFn Try.prog 58 = some (cc_set_Each 61) := by kernel_rfl
theorem s58 : each27.Spec (Pure Try.prog) 58 := setEach.ok hm cf58 s61
theorem cf44 : cFn Try.prog 44 = some (cc_envelope_step_free 58) := by kernel_rfl
theorem s44 : free27.Spec (Pure Try.prog) 44 := free27.ok hm cf44 s58
theorem cf27 : cFn Try.prog 27 = some (cc_envelope_step_colour 42 43 44) := by kernel_rfl
theorem s27 : colour27.Spec (Pure Try.prog) 27 := colour27.ok hm cf27 s42 s43 s44
theorem cf45 : cFn Try.prog 45 = some (cc_envelope_step_feet 43 42) := by kernel_rfl
theorem s45 : feet27.Spec (Pure Try.prog) 45 := feet27.ok hm cf45 s43 s42
theorem cf28 : cFn Try.prog 28 = some (cc_envelope_step_foot 45) := by kernel_rfl
theorem s28 : foot27.Spec (Pure Try.prog) 28 := foot27.ok hm cf28 s45
theorem cf10 : cFn Try.prog 10 = some (cc_envelope_Allowed 27 28) := by kernel_rfl
theorem s10 : allowed27.Spec (Pure Try.prog) 10 := allowed27.ok hm cf10 s27 s28
theorem cf29 : cFn Try.prog 29 = some cc_ref23_known := by kernel_rfl
theorem s29 : known23.Spec (Pure Try.prog) 29 := known23.ok hm cf29
theorem cf46 : cFn Try.prog 46 = some (cc_ref23_on 9) := by kernel_rfl
theorem s46 : on23.Spec (Pure Try.prog) 46 := on23.ok hm cf46 s9
theorem s50 : onL.Spec (Pure Try.prog) 50 := onL.ok hm cf50 s35
theorem cf47 : cFn Try.prog 47 = some (cc_ref23_begins 50 36 32) := by kernel_rfl
theorem s47 : begins23.Spec (Pure Try.prog) 47 := begins23.ok hm cf47 s50 s36 s32
theorem cf48 : cFn Try.prog 48 = some (cc_ref23_foot 46) := by kernel_rfl
theorem s48 : foot23.Spec (Pure Try.prog) 48 := foot23.ok hm cf48 s46
theorem cf30 : cFn Try.prog 30 = some (cc_ref23_step 46 47 48) := by kernel_rfl
theorem s30 : step23.Spec (Pure Try.prog) 30 := step23.ok hm cf30 s46 s47 s48
theorem cf11 : cFn Try.prog 11 = some (cc_ref23_Allowed 29 30) := by kernel_rfl
theorem s11 : allowed23.Spec (Pure Try.prog) 11 := allowed23.ok hm cf11 s29 s30
theorem cf16 : cFn Try.prog 16 = some (cc_envelope_Runs 10) := by kernel_rfl
theorem s16 : Runs.Spec (Pure Try.prog) 16 := Runs.ok hm cf16 s10
theorem cf12 : cFn Try.prog 12 = some (cc_law27_awake 10 25 16) := by kernel_rfl
theorem s12 : awake27.Spec (Pure Try.prog) 12 := awake27.ok hm cf12 s10 s16
theorem cf3 : cFn Try.prog 3 = some (cc_law27_EnvelopeOne 6 7 8 9 10 11 12) := by kernel_rfl
theorem s3 : envOne.Spec (Pure Try.prog) 3 := envOne.ok hm cf3 s6 s7 s8 s9 s10 s11 s12
theorem cf13 : cFn Try.prog 13 = some cc_envelope_Of := by kernel_rfl
theorem s13 : Of27.Spec (Pure Try.prog) 13 := Of27.ok hm cf13
theorem cf14 : cFn Try.prog 14 = some cc_ref23_Shape := by kernel_rfl
theorem s14 : Shape23.Spec (Pure Try.prog) 14 := Shape23.ok hm cf14
theorem cf4 : cFn Try.prog 4 = some (cc_law27_EnvelopeAll 10 11 13 14 12) := by kernel_rfl
theorem s4 : envAll.Spec (Pure Try.prog) 4 := envAll.ok hm cf4 s10 s11 s13 s14 s12
theorem cf31 : cFn Try.prog 31 = some cc_ref11_Begin := by kernel_rfl
theorem s31 : begin11.Spec (Pure Try.prog) 31 := begin11.ok hm cf31
theorem cf15 : cFn Try.prog 15 = some (cc_ref19_Begin 31) := by kernel_rfl
theorem s15 : begin19.Spec (Pure Try.prog) 15 := begin19.ok hm cf15 s31
theorem cf17 : cFn Try.prog 17 = some (cc_law00_Clash 32) := by kernel_rfl
theorem s17 : clash00.Spec (Pure Try.prog) 17 := clash00.ok hm cf17 s32
theorem cf5 : cFn Try.prog 5 = some (cc_law27_EnvelopeSafe 6 12 15 13 25 7 16 17) := by kernel_rfl
theorem s5 : envSafe.Spec (Pure Try.prog) 5 := envSafe.ok hm cf5 s6 s12 s15 s13 s7 s16 s17
end Go.Proofs.Ytbdahioikjgeeaa
