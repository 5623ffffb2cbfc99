/- The functions of this seat: their compiled code is what the library says of it, so that the contracts hold of them. -/
import Derived.Test.YtmdlpepjodcjeaaChecked
import Derived.Test.YtmdlpepjodcjeaaPk3
namespace Go.Proofs.Ytmdlpepjodcjeaa
open Go.Eng
set_option maxRecDepth 100000
theorem hm : Try.prog.follows .mixedOrders = true := by kernel_rfl
theorem cf14 : cFn Try.prog 14 = some cc_secs_Longer := by kernel_rfl
theorem s14 : sLonger.Spec (Pure Try.prog) 14 := sLonger.ok hm cf14
theorem cf16 : cFn Try.prog 16 = some cc_ref01_Nan := by kernel_rfl
theorem s16 : rNanV.Spec (Pure Try.prog) 16 := rNanV.ok hm cf16
theorem cf15 : cFn Try.prog 15 = some (cc_ref01_Longer 16) := by kernel_rfl
theorem s15 : rLonger.Spec (Pure Try.prog) 15 := rLonger.ok hm cf15 s16
theorem s16_1 : rNan.Spec (Pure Try.prog) 16 := rNan.ok hm cf16
theorem cf11 : cFn Try.prog 11 = some (cc_ref01_Alike 16) := by kernel_rfl
theorem s11 : rAlikeV.Spec (Pure Try.prog) 11 := rAlikeV.ok hm cf11 s16_1
theorem cf10 : cFn Try.prog 10 = some cc_secs_Ticks := by kernel_rfl
theorem s10 : sTicks.Spec (Pure Try.prog) 10 := sTicks.ok hm cf10
theorem cf9 : cFn Try.prog 9 = some cc_secs_Of := by kernel_rfl
theorem s9 : sOf.Spec (Pure Try.prog) 9 := sOf.ok hm cf9
theorem cf13 : cFn Try.prog 13 = some (cc_law02_awake 10 9) := by kernel_rfl
theorem s13 : awake02.Spec (Pure Try.prog) 13 := awake02.ok hm cf13 s10 s9
theorem cf5 : cFn Try.prog 5 = some (cc_law02_SecsLonger 14 15 11 16 13) := by kernel_rfl
theorem s5 : secsLonger.Spec (Pure Try.prog) 5 := secsLonger.ok hm cf5 s14 s15 s11 s16 s13
end Go.Proofs.Ytmdlpepjodcjeaa
