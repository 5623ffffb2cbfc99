/- The functions of this seat: their compiled code is what the library says of it, so that the contracts hold of them. -/
import Derived.Test.YtmdlpepjodcjeaaChecked
import Derived.Test.YtmdlpepjodcjeaaLib23
import Derived.Test.YtmdlpepjodcjeaaLib7
namespace Go.Proofs.Ytmdlpepjodcjeaa
open Go.Eng
set_option maxRecDepth 100000
theorem hm : Try.prog.follows .mixedOrders = true := by kernel_rfl
theorem cf8 : cFn Try.prog 8 = some cc_ref01_Cut := by kernel_rfl
theorem s8 : Cut.Spec (Pure Try.prog) 8 := Cut.ok hm cf8
theorem cf9 : cFn Try.prog 9 = some cc_secs_Of := by kernel_rfl
theorem s9 : sOf.Spec (Pure Try.prog) 9 := sOf.ok hm cf9
theorem cf10 : cFn Try.prog 10 = some cc_secs_Ticks := by kernel_rfl
theorem s10 : sTicks.Spec (Pure Try.prog) 10 := sTicks.ok hm cf10
theorem cf12 : cFn Try.prog 12 = some (cc_ref01_Seconds 8) := by kernel_rfl
theorem s12 : rSecs.Spec (Pure Try.prog) 12 := rSecs.ok hm cf12 s8
theorem cf16 : cFn Try.prog 16 = some cc_ref01_Nan := by kernel_rfl
theorem s16 : rNan.Spec (Pure Try.prog) 16 := rNan.ok hm cf16
theorem cf11 : cFn Try.prog 11 = some (cc_ref01_Alike 16) := by kernel_rfl
theorem s11 : rAlike.Spec (Pure Try.prog) 11 := rAlike.ok hm cf11 s16
theorem cf13 : cFn Try.prog 13 = some (cc_law02_awake 10 9) := by kernel_rfl
theorem s13 : awake02.Spec (Pure Try.prog) 13 := awake02.ok hm cf13 s10 s9
theorem cf3 : cFn Try.prog 3 = some (cc_law02_SecsBack 8 9 10 12 11 13) := by kernel_rfl
theorem s3 : secsBack.Spec (Pure Try.prog) 3 := secsBack.ok hm cf3 s8 s9 s10 s12 s11 s13
theorem cf4 : cFn Try.prog 4 = some (cc_law02_SecsRise 10 13) := by kernel_rfl
theorem s4 : secsRise.Spec (Pure Try.prog) 4 := secsRise.ok hm cf4 s10 s13
theorem cf17 : cFn Try.prog 17 = some cc_ref01_Ticks := by kernel_rfl
theorem s17 : rTicks.Spec (Pure Try.prog) 17 := rTicks.ok hm cf17
theorem cf18 : cFn Try.prog 18 = some cc_secs_Clean := by kernel_rfl
theorem s18 : sClean.Spec (Pure Try.prog) 18 := sClean.ok hm cf18
theorem cf19 : cFn Try.prog 19 = some cc_ref01_Clean := by kernel_rfl
theorem s19 : rClean.Spec (Pure Try.prog) 19 := rClean.ok hm cf19
theorem cf6 : cFn Try.prog 6 = some (cc_law02_SecsAll 10 17 18 19 11 13) := by kernel_rfl
theorem s6 : secsAll.Spec (Pure Try.prog) 6 := secsAll.ok hm cf6 s10 s17 s18 s19 s11 s13
theorem cf7 : cFn Try.prog 7 = some (cc_law02_SecsClean 18 10 11 9 13) := by kernel_rfl
theorem s7 : secsClean.Spec (Pure Try.prog) 7 := secsClean.ok hm cf7 s18 s10 s11 s9 s13
end Go.Proofs.Ytmdlpepjodcjeaa
