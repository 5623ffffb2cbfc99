/- The functions of this seat: their compiled code is what the library says of it, so that the contracts hold of them. -/
import Derived.Test.YtklkmmgbcmeinaaChecked
import Derived.Test.YtklkmmgbcmeinaaLib1
import Derived.Test.YtklkmmgbcmeinaaLib10
import Derived.Test.YtklkmmgbcmeinaaLib11
import Derived.Test.YtklkmmgbcmeinaaLib12
import Derived.Test.YtklkmmgbcmeinaaLib13
import Derived.Test.YtklkmmgbcmeinaaLib14
import Derived.Test.YtklkmmgbcmeinaaLib16
import Derived.Test.YtklkmmgbcmeinaaLib18
import Derived.Test.YtklkmmgbcmeinaaLib2
import Derived.Test.YtklkmmgbcmeinaaLib3
import Derived.Test.YtklkmmgbcmeinaaLib4
import Derived.Test.YtklkmmgbcmeinaaLib5
import Derived.Test.YtklkmmgbcmeinaaLib6
import Derived.Test.YtklkmmgbcmeinaaLib7
import Derived.Test.YtklkmmgbcmeinaaLib8
import Derived.Test.YtklkmmgbcmeinaaLib9
namespace Go.Proofs.Ytklkmmgbcmeinaa
open Go.Eng
set_option maxRecDepth 100000
theorem hm : Try.prog.follows .mixedOrders = true := by kernel_rfl
theorem cf30 : cFn Try.prog 30 = some cc_law00_At := by kernel_rfl
theorem s30 : At.Spec (Pure Try.prog) 30 := At.ok hm cf30
theorem cf11 : cFn Try.prog 11 = some cc_law00_Place := by kernel_rfl
theorem s11 : Place.Spec (Pure Try.prog) 11 := Place.ok hm cf11
theorem cf18 : cFn Try.prog 18 = some (cc_law00_from 30 11) := by kernel_rfl
theorem s18 : from.Spec (Pure Try.prog) 18 := from.ok hm cf18 s30 s11
theorem cf15 : cFn Try.prog 15 = some (cc_law00_rows 18 3 64) := by kernel_rfl
theorem s15 : rows.Spec (Pure Try.prog) 15 := rows.ok hm cf15 s18
theorem cf16 : cFn Try.prog 16 = some (cc_law00_phase 18) := by kernel_rfl
theorem s16 : phase.Spec (Pure Try.prog) 16 := phase.ok hm cf16 s18
theorem cf39 : cFn Try.prog 39 = some (cc_ref08_Spots 66) := by kernel_rfl
theorem s39 : spots.Spec (Pure Try.prog) 39 66 := spots.ok hm cf39
theorem cf29 : cFn Try.prog 29 = some (cc_ref08_Where 39) := by kernel_rfl
theorem s29 : where.Spec (Pure Try.prog) 29 := where.ok hm cf29 s39
theorem cf17 : cFn Try.prog 17 = some (cc_ref08_Beside 29) := by kernel_rfl
theorem s17 : beside.Spec (Pure Try.prog) 17 := beside.ok hm cf17 s29
theorem cf13 : cFn Try.prog 13 = some cc_ref01_Has := by kernel_rfl
theorem s13 : refHas.Spec (Pure Try.prog) 13 := refHas.ok hm cf13
theorem cf31 : cFn Try.prog 31 = some (cc_ref01_List 13 3) := by kernel_rfl
theorem s31 : refList.Spec (Pure Try.prog) 31 3 := refList.ok hm cf31 s13
theorem cf12 : cFn Try.prog 12 = some cc_ref01_Of := by kernel_rfl
theorem s12 : refOf.Spec (Pure Try.prog) 12 := refOf.ok hm cf12
theorem cf19 : cFn Try.prog 19 = some (cc_ref01_With 31 3 12) := by kernel_rfl
theorem s19 : refWith.Spec (Pure Try.prog) 19 := refWith.ok hm cf19 s31 s12
theorem cf20 : cFn Try.prog 20 = some (cc_law00_detector 18) := by kernel_rfl
theorem s20 : detector.Spec (Pure Try.prog) 20 := detector.ok hm cf20 s18
theorem cf32 : cFn Try.prog 32 = some (cc_law00_with 3 12 17 19) := by kernel_rfl
theorem s32 : with.Spec (Pure Try.prog) 32 := with.ok hm cf32 s12 s17 s19
theorem cf21 : cFn Try.prog 21 = some (cc_law00_rail 18 32) := by kernel_rfl
theorem s21 : rail.Spec (Pure Try.prog) 21 := rail.ok hm cf21 s18 s32
theorem cf7 : cFn Try.prog 7 = some (cc_ref08_On 3 12) := by kernel_rfl
theorem s7 : on.Spec (Pure Try.prog) 7 := on.ok hm cf7 s12
theorem cf48 : cFn Try.prog 48 = some cc_ref01_Cut := by kernel_rfl
theorem s48 : Cut.Spec (Pure Try.prog) 48 := Cut.ok hm cf48
theorem cf42 : cFn Try.prog 42 = some (cc_ref01_Cap 48) := by kernel_rfl
theorem s42 : Cap.Spec (Pure Try.prog) 42 := Cap.ok hm cf42 s48
theorem cf47 : cFn Try.prog 47 = some (cc_ref01_Add 42) := by kernel_rfl
theorem s47 : Add.Spec (Pure Try.prog) 47 := Add.ok hm cf47 s42
theorem cf41 : cFn Try.prog 41 = some (cc_ref01_Sum 47) := by kernel_rfl
theorem s41 : sum1.Spec (Pure Try.prog) 41 := Sum.ok hm cf41 s47
theorem cf34 : cFn Try.prog 34 = some (cc_ref08_sum 41) := by kernel_rfl
theorem s34 : sum1.Spec (Pure Try.prog) 34 := sum1.ok hm cf34 s41
theorem cf44 : cFn Try.prog 44 = some cc_ref08_most := by kernel_rfl
theorem s44 : most.Spec (Pure Try.prog) 44 := most.ok hm cf44
theorem cf46 : cFn Try.prog 46 = some (cc_ref08_Serve 7 13 42 3 34 44) := by kernel_rfl
theorem s46 : serve.Spec (Pure Try.prog) 46 := serve.ok hm cf46 s7 s13 s42 s34 s44
theorem cf40 : cFn Try.prog 40 = some (cc_ref08_Pass 3 39 46 34) := by kernel_rfl
theorem s40 : pass.Spec (Pure Try.prog) 40 := pass.ok hm cf40 s39 s46 s34
theorem cf33 : cFn Try.prog 33 = some (cc_ref08_Free 29 7 13 40 3 34) := by kernel_rfl
theorem s33 : free.Spec (Pure Try.prog) 33 := free.ok hm cf33 s29 s7 s13 s40 s34
theorem cf45 : cFn Try.prog 45 = some (cc_ref08_clear 7 31 3 34 44) := by kernel_rfl
theorem s45 : clear.Spec (Pure Try.prog) 45 := clear.ok hm cf45 s7 s31 s34 s44
theorem cf43 : cFn Try.prog 43 = some (cc_ref08_Entry 45 3 34) := by kernel_rfl
theorem s43 : entry.Spec (Pure Try.prog) 43 := entry.ok hm cf43 s45 s34
theorem cf36 : cFn Try.prog 36 = some (cc_ref08_Over 43 3 34 7 31 42 44 45) := by kernel_rfl
theorem s36 : over.Spec (Pure Try.prog) 36 := over.ok hm cf36 s43 s34 s7 s31 s42 s44 s45
theorem cf35 : cFn Try.prog 35 = some (cc_ref01_Mul 42) := by kernel_rfl
theorem s35 : Mul.Spec (Pure Try.prog) 35 := Mul.ok hm cf35 s42
theorem cf22 : cFn Try.prog 22 = some (cc_ref08_Wait 33 3 34 36 35) := by kernel_rfl
theorem s22 : wait.Spec (Pure Try.prog) 22 := wait.ok hm cf22 s33 s34 s36 s35
theorem cf6 : cFn Try.prog 6 = some (cc_law00_Table 15 16 17 18 19 20 55 21 58 61 22) := by kernel_rfl
theorem s6 : Table.Spec (Pure Try.prog) 6 := Table.ok hm cf6 s15 s16 s17 s18 s19 s20 s21 s22
theorem cf37 : cFn Try.prog 37 = some cc_set_bit := by kernel_rfl
theorem s37 : bit.Spec (Pure Try.prog) 37 := bit.ok hm cf37
theorem cf24 : cFn Try.prog 24 = some (cc_set_Has 37) := by kernel_rfl
theorem s24 : setHas.Spec (Pure Try.prog) 24 := setHas.ok hm cf24 s37
theorem cf23 : cFn Try.prog 23 = some (cc_calls_Step_1 24) := by kernel_rfl
theorem s23 : Step1.Spec (Pure Try.prog) 23 := Step1.ok hm cf23 s24
theorem cf25 : cFn Try.prog 25 = some (cc_calls_Step_2 24) := by kernel_rfl
theorem s25 : Step2.Spec (Pure Try.prog) 25 := Step2.ok hm cf25 s24
theorem cf38 : cFn Try.prog 38 = some (cc_set_With 37) := by kernel_rfl
theorem s38 : setWith.Spec (Pure Try.prog) 38 := setWith.ok hm cf38 s37
theorem cf26 : cFn Try.prog 26 = some (cc_calls_those 38) := by kernel_rfl
theorem s26 : those.Spec (Pure Try.prog) 26 := those.ok hm cf26 s38
theorem cf8 : cFn Try.prog 8 = some (cc_calls_Step 23 25 26) := by kernel_rfl
theorem s8 : Step.Spec (Pure Try.prog) 8 := Step.ok hm cf8 s23 s25 s26
theorem cf28 : cFn Try.prog 28 = some (cc_calls_Held_1 24) := by kernel_rfl
theorem s28 : Held1.Spec (Pure Try.prog) 28 := Held1.ok hm cf28 s24
theorem cf14 : cFn Try.prog 14 = some (cc_calls_Held 28 26) := by kernel_rfl
theorem s14 : Held.Spec (Pure Try.prog) 14 := Held.ok hm cf14 s28 s26
theorem cf27 : cFn Try.prog 27 = some (cc_calls_Want_1 24) := by kernel_rfl
theorem s27 : Want1.Spec (Pure Try.prog) 27 := Want1.ok hm cf27 s24
theorem cf9 : cFn Try.prog 9 = some (cc_calls_Want 14 27 26) := by kernel_rfl
theorem s9 : Want.Spec (Pure Try.prog) 9 := Want.ok hm cf9 s14 s27 s26
theorem cf10 : cFn Try.prog 10 = some (cc_law15_awake 8 9) := by kernel_rfl
theorem s10 : awake15.Spec (Pure Try.prog) 10 := awake15.ok hm cf10 s8 s9
theorem cf3 : cFn Try.prog 3 = some (cc_law15_CallsKept 6 7 8 9 10) := by kernel_rfl
theorem s3 : kept.Spec (Pure Try.prog) 3 := kept.ok hm cf3 s6 s7 s8 s9 s10
theorem cf4 : cFn Try.prog 4 = some (cc_law15_CallsRecall 6 11 3 12 8 13 14 9 10) := by kernel_rfl
theorem s4 : recall.Spec (Pure Try.prog) 4 := recall.ok hm cf4 s6 s11 s12 s8 s13 s14 s9 s10
theorem cf5 : cFn Try.prog 5 = some (cc_law15_CallsMore 6 8 9 10) := by kernel_rfl
theorem s5 : more.Spec (Pure Try.prog) 5 := more.ok hm cf5 s6 s8 s9 s10
end Go.Proofs.Ytklkmmgbcmeinaa
