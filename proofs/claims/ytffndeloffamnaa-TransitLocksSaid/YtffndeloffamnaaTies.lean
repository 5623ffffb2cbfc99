/- The functions of this seat: their compiled code is what the library says of it, so that the contracts hold of them. -/
import Derived.Test.YtffndeloffamnaaChecked
import Derived.Test.YtffndeloffamnaaLib1
import Derived.Test.YtffndeloffamnaaLib10
import Derived.Test.YtffndeloffamnaaLib11
import Derived.Test.YtffndeloffamnaaLib12
import Derived.Test.YtffndeloffamnaaLib13
import Derived.Test.YtffndeloffamnaaLib14
import Derived.Test.YtffndeloffamnaaLib16
import Derived.Test.YtffndeloffamnaaLib19
import Derived.Test.YtffndeloffamnaaLib2
import Derived.Test.YtffndeloffamnaaLib20
import Derived.Test.YtffndeloffamnaaLib21
import Derived.Test.YtffndeloffamnaaLib22
import Derived.Test.YtffndeloffamnaaLib3
import Derived.Test.YtffndeloffamnaaLib7
import Derived.Test.YtffndeloffamnaaLib8
import Derived.Test.YtffndeloffamnaaLib9
import Derived.Test.YtffndeloffamnaaEach1
namespace Go.Proofs.Ytffndeloffamnaa
open Go.Eng
set_option maxRecDepth 100000
theorem hm : Try.prog.follows .mixedOrders = true := by kernel_rfl
theorem cf29 : cFn Try.prog 29 = some cc_law00_At := by kernel_rfl
theorem s29 : At.Spec (Pure Try.prog) 29 := At.ok hm cf29
theorem cf28 : cFn Try.prog 28 = some cc_law00_Place := by kernel_rfl
theorem s28 : Place.Spec (Pure Try.prog) 28 := Place.ok hm cf28
theorem cf17 : cFn Try.prog 17 = some (cc_law00_from 29 28) := by kernel_rfl
theorem s17 : from.Spec (Pure Try.prog) 17 := from.ok hm cf17 s29 s28
theorem cf14 : cFn Try.prog 14 = some (cc_law00_rows 17 3 76) := by kernel_rfl
theorem s14 : rows.Spec (Pure Try.prog) 14 := rows.ok hm cf14 s17
theorem cf15 : cFn Try.prog 15 = some (cc_law00_phase 17) := by kernel_rfl
theorem s15 : phase.Spec (Pure Try.prog) 15 := phase.ok hm cf15 s17
theorem cf39 : cFn Try.prog 39 = some (cc_ref08_Spots 78) := by kernel_rfl
theorem s39 : spots.Spec (Pure Try.prog) 39 78 := spots.ok hm cf39
theorem cf27 : cFn Try.prog 27 = some (cc_ref08_Where 39) := by kernel_rfl
theorem s27 : where.Spec (Pure Try.prog) 27 := where.ok hm cf27 s39
theorem cf16 : cFn Try.prog 16 = some (cc_ref08_Beside 27) := by kernel_rfl
theorem s16 : beside.Spec (Pure Try.prog) 16 := beside.ok hm cf16 s27
theorem cf11 : cFn Try.prog 11 = some cc_ref01_Has := by kernel_rfl
theorem s11 : refHas.Spec (Pure Try.prog) 11 := refHas.ok hm cf11
theorem cf31 : cFn Try.prog 31 = some (cc_ref01_List 11 3) := by kernel_rfl
theorem s31 : refList.Spec (Pure Try.prog) 31 3 := refList.ok hm cf31 s11
theorem cf30 : cFn Try.prog 30 = some cc_ref01_Of := by kernel_rfl
theorem s30 : refOf.Spec (Pure Try.prog) 30 := refOf.ok hm cf30
theorem cf18 : cFn Try.prog 18 = some (cc_ref01_With 31 3 30) := by kernel_rfl
theorem s18 : refWith.Spec (Pure Try.prog) 18 := refWith.ok hm cf18 s31 s30
theorem cf19 : cFn Try.prog 19 = some (cc_law00_detector 17) := by kernel_rfl
theorem s19 : detector.Spec (Pure Try.prog) 19 := detector.ok hm cf19 s17
theorem cf32 : cFn Try.prog 32 = some (cc_law00_with 3 30 16 18) := by kernel_rfl
theorem s32 : with.Spec (Pure Try.prog) 32 := with.ok hm cf32 s30 s16 s18
theorem cf20 : cFn Try.prog 20 = some (cc_law00_rail 17 32) := by kernel_rfl
theorem s20 : rail.Spec (Pure Try.prog) 20 := rail.ok hm cf20 s17 s32
theorem cf40 : cFn Try.prog 40 = some (cc_ref08_On 3 30) := by kernel_rfl
theorem s40 : on.Spec (Pure Try.prog) 40 := on.ok hm cf40 s30
theorem cf50 : cFn Try.prog 50 = some cc_ref01_Cut := by kernel_rfl
theorem s50 : Cut.Spec (Pure Try.prog) 50 := Cut.ok hm cf50
theorem cf43 : cFn Try.prog 43 = some (cc_ref01_Cap 50) := by kernel_rfl
theorem s43 : Cap.Spec (Pure Try.prog) 43 := Cap.ok hm cf43 s50
theorem cf49 : cFn Try.prog 49 = some (cc_ref01_Add 43) := by kernel_rfl
theorem s49 : Add.Spec (Pure Try.prog) 49 := Add.ok hm cf49 s43
theorem cf42 : cFn Try.prog 42 = some (cc_ref01_Sum 49) := by kernel_rfl
theorem s42 : sum1.Spec (Pure Try.prog) 42 := Sum.ok hm cf42 s49
theorem cf34 : cFn Try.prog 34 = some (cc_ref08_sum 42) := by kernel_rfl
theorem s34 : sum1.Spec (Pure Try.prog) 34 := sum1.ok hm cf34 s42
theorem cf45 : cFn Try.prog 45 = some cc_ref08_most := by kernel_rfl
theorem s45 : most.Spec (Pure Try.prog) 45 := most.ok hm cf45
theorem cf48 : cFn Try.prog 48 = some (cc_ref08_Serve 40 11 43 3 34 45) := by kernel_rfl
theorem s48 : serve.Spec (Pure Try.prog) 48 := serve.ok hm cf48 s40 s11 s43 s34 s45
theorem cf41 : cFn Try.prog 41 = some (cc_ref08_Pass 3 39 48 34) := by kernel_rfl
theorem s41 : pass.Spec (Pure Try.prog) 41 := pass.ok hm cf41 s39 s48 s34
theorem cf33 : cFn Try.prog 33 = some (cc_ref08_Free 27 40 11 41 3 34) := by kernel_rfl
theorem s33 : free.Spec (Pure Try.prog) 33 := free.ok hm cf33 s27 s40 s11 s41 s34
theorem cf46 : cFn Try.prog 46 = some (cc_ref08_clear 40 31 3 34 45) := by kernel_rfl
theorem s46 : clear.Spec (Pure Try.prog) 46 := clear.ok hm cf46 s40 s31 s34 s45
theorem cf44 : cFn Try.prog 44 = some (cc_ref08_Entry 46 3 34) := by kernel_rfl
theorem s44 : entry.Spec (Pure Try.prog) 44 := entry.ok hm cf44 s46 s34
theorem cf36 : cFn Try.prog 36 = some (cc_ref08_Over 44 3 34 40 31 43 45 46) := by kernel_rfl
theorem s36 : over.Spec (Pure Try.prog) 36 := over.ok hm cf36 s44 s34 s40 s31 s43 s45 s46
theorem cf35 : cFn Try.prog 35 = some (cc_ref01_Mul 43) := by kernel_rfl
theorem s35 : Mul.Spec (Pure Try.prog) 35 := Mul.ok hm cf35 s43
theorem cf21 : cFn Try.prog 21 = some (cc_ref08_Wait 33 3 34 36 35) := by kernel_rfl
theorem s21 : wait.Spec (Pure Try.prog) 21 := wait.ok hm cf21 s33 s34 s36 s35
theorem cf6 : cFn Try.prog 6 = some (cc_law00_Table 14 15 16 17 18 19 64 20 67 49 21) := by kernel_rfl
theorem s6 : Table.Spec (Pure Try.prog) 6 := Table.ok hm cf6 s14 s15 s16 s17 s18 s19 s20 s21
theorem cf22 : cFn Try.prog 22 = some (cc_transit_each 37) := by kernel_rfl
theorem s22 : each.Spec (Pure Try.prog) 22 := each.ok hm cf22 s37
theorem cf7 : cFn Try.prog 7 = some (cc_transit_Live 22) := by kernel_rfl
theorem s7 : Live.Spec (Pure Try.prog) 7 := Live.ok hm cf7 s22
theorem cf24 : cFn Try.prog 24 = some cc_transit_Hold_1 := by kernel_rfl
theorem s24 : Hold1.Spec (Pure Try.prog) 24 := Hold1.ok hm cf24
theorem cf47 : cFn Try.prog 47 = some cc_set_bit := by kernel_rfl
theorem s47 : bit.Spec (Pure Try.prog) 47 := bit.ok hm cf47
theorem cf38 : cFn Try.prog 38 = some (cc_set_With 47) := by kernel_rfl
theorem s38 : setWith.Spec (Pure Try.prog) 38 := setWith.ok hm cf38 s47
theorem cf23 : cFn Try.prog 23 = some (cc_transit_those 38) := by kernel_rfl
theorem s23 : those20.Spec (Pure Try.prog) 23 := those20.ok hm cf23 s38
theorem cf8 : cFn Try.prog 8 = some (cc_transit_Hold 7 22 24 23) := by kernel_rfl
theorem s8 : Hold.Spec (Pure Try.prog) 8 := Hold.ok hm cf8 s7 s22 s24 s23
theorem cf25 : cFn Try.prog 25 = some cc_transit_Early_1 := by kernel_rfl
theorem s25 : Early1.Spec (Pure Try.prog) 25 := Early1.ok hm cf25
theorem cf9 : cFn Try.prog 9 = some (cc_transit_Early 23 25 7 22) := by kernel_rfl
theorem s9 : Early.Spec (Pure Try.prog) 9 := Early.ok hm cf9 s23 s25 s7 s22
theorem cf10 : cFn Try.prog 10 = some (cc_ref19_Green 18) := by kernel_rfl
theorem s10 : green19.Spec (Pure Try.prog) 10 := green19.ok hm cf10 s18
theorem cf12 : cFn Try.prog 12 = some (cc_law20_awake 49 9 8 7) := by kernel_rfl
theorem s12 : awake20.Spec (Pure Try.prog) 12 := awake20.ok hm cf12 s9 s8 s7
theorem cf3 : cFn Try.prog 3 = some (cc_law20_TransitFair 6 7 8 9 10 11 12) := by kernel_rfl
theorem s3 : fair.Spec (Pure Try.prog) 3 := fair.ok hm cf3 s6 s7 s8 s9 s10 s11 s12
theorem cf26 : cFn Try.prog 26 = some cc_transit_more := by kernel_rfl
theorem s26 : more20.Spec (Pure Try.prog) 26 := more20.ok hm cf26
theorem cf13 : cFn Try.prog 13 = some (cc_transit_Step 7 26 22) := by kernel_rfl
theorem s13 : Step20.Spec (Pure Try.prog) 13 := Step20.ok hm cf13 s7 s26 s22
theorem cf4 : cFn Try.prog 4 = some (cc_law20_TransitLocks 6 12 7 13) := by kernel_rfl
theorem s4 : locks.Spec (Pure Try.prog) 4 := locks.ok hm cf4 s6 s12 s7 s13
theorem cf5 : cFn Try.prog 5 = some (cc_law20_TransitBudget 6 12 11 8 13) := by kernel_rfl
theorem s5 : budget.Spec (Pure Try.prog) 5 := budget.ok hm cf5 s6 s12 s11 s8 s13
end Go.Proofs.Ytffndeloffamnaa
