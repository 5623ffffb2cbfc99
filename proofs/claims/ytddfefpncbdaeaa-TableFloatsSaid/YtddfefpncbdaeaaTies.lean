/- The functions of this seat: their compiled code is what the library says of it, so that the contracts hold of them. -/
import Derived.Test.YtddfefpncbdaeaaChecked
import Derived.Test.YtddfefpncbdaeaaPk4
namespace Go.Proofs.Ytddfefpncbdaeaa
open Go.Eng
set_option maxRecDepth 100000
theorem hm : Try.prog.follows .mixedOrders = true := by kernel_rfl
theorem cf60 : cFn Try.prog 60 = some cc_table_every_api_Phase_1 := by kernel_rfl
theorem s60 : ev1P.Spec (Pure Try.prog) 60 := ev1P.ok hm cf60
theorem cf84 : cFn Try.prog 84 = some cc_slices_IndexFunc_api_Phase_api_Phase := by kernel_rfl
theorem s84 : idxP.Spec (Pure Try.prog) 84 := idxP.ok hm cf84
theorem cf59 : cFn Try.prog 59 = some (cc_slices_ContainsFunc_api_Phase_api_Phase 84) := by kernel_rfl
theorem s59 : conP.Spec (Pure Try.prog) 59 := conP.ok hm cf59 s84
theorem cf36 : cFn Try.prog 36 = some (cc_table_every_api_Phase 60 59) := by kernel_rfl
theorem s36 : evP.Spec (Pure Try.prog) 36 := evP.ok hm cf36 s60 s59
theorem cf66 : cFn Try.prog 66 = some cc_table_within_1 := by kernel_rfl
theorem s66 : with1.Spec (Pure Try.prog) 66 := with1.ok hm cf66
theorem cf87 : cFn Try.prog 87 = some cc_table_every_int_1 := by kernel_rfl
theorem s87 : ev1I.Spec (Pure Try.prog) 87 := ev1I.ok hm cf87
theorem cf95 : cFn Try.prog 95 = some cc_slices_IndexFunc_int_int := by kernel_rfl
theorem s95 : idxI.Spec (Pure Try.prog) 95 := idxI.ok hm cf95
theorem cf86 : cFn Try.prog 86 = some (cc_slices_ContainsFunc_int_int 95) := by kernel_rfl
theorem s86 : conI.Spec (Pure Try.prog) 86 := conI.ok hm cf86 s95
theorem cf64 : cFn Try.prog 64 = some (cc_table_every_int 87 86) := by kernel_rfl
theorem s64 : evI.Spec (Pure Try.prog) 64 := evI.ok hm cf64 s87 s86
theorem cf40 : cFn Try.prog 40 = some (cc_table_within 66 64) := by kernel_rfl
theorem s40 : within.Spec (Pure Try.prog) 40 := within.ok hm cf40 s66 s64
theorem cf47 : cFn Try.prog 47 = some (cc_table_times 40) := by kernel_rfl
theorem s47 : tTimes.Spec (Pure Try.prog) 47 := tTimes.ok hm cf47 s40
theorem cf37 : cFn Try.prog 37 = some (cc_table_phase 3 47 40) := by kernel_rfl
theorem s37 : tPhase.Spec (Pure Try.prog) 37 := tPhase.ok hm cf37 s47 s40
theorem cf62 : cFn Try.prog 62 = some cc_table_every_2_int_1 := by kernel_rfl
theorem s62 : ev1G.Spec (Pure Try.prog) 62 := ev1G.ok hm cf62
theorem cf85 : cFn Try.prog 85 = some cc_slices_IndexFunc_2_int_2_int := by kernel_rfl
theorem s85 : idxG.Spec (Pure Try.prog) 85 := idxG.ok hm cf85
theorem cf61 : cFn Try.prog 61 = some (cc_slices_ContainsFunc_2_int_2_int 85) := by kernel_rfl
theorem s61 : conG.Spec (Pure Try.prog) 61 := conG.ok hm cf61 s85
theorem cf38 : cFn Try.prog 38 = some (cc_table_every_2_int 62 61) := by kernel_rfl
theorem s38 : evG.Spec (Pure Try.prog) 38 := evG.ok hm cf38 s62 s61
theorem cf65 : cFn Try.prog 65 = some (cc_table_group_1_1 3 40) := by kernel_rfl
theorem s65 : tG11.Spec (Pure Try.prog) 65 := tG11.ok hm cf65 s40
theorem cf63 : cFn Try.prog 63 = some (cc_table_group_1 64 65) := by kernel_rfl
theorem s63 : tG1.Spec (Pure Try.prog) 63 := tG1.ok hm cf63 s64 s65
theorem cf39 : cFn Try.prog 39 = some (cc_table_group 63) := by kernel_rfl
theorem s39 : tGroup.Spec (Pure Try.prog) 39 := tGroup.ok hm cf39 s63
theorem cf68 : cFn Try.prog 68 = some cc_table_every_api_Detector_1 := by kernel_rfl
theorem s68 : ev1D.Spec (Pure Try.prog) 68 := ev1D.ok hm cf68
theorem cf88 : cFn Try.prog 88 = some cc_slices_IndexFunc_api_Detector_api_Detector := by kernel_rfl
theorem s88 : idxD.Spec (Pure Try.prog) 88 := idxD.ok hm cf88
theorem cf67 : cFn Try.prog 67 = some (cc_slices_ContainsFunc_api_Detector_api_Detector 88) := by kernel_rfl
theorem s67 : conD.Spec (Pure Try.prog) 67 := conD.ok hm cf67 s88
theorem cf41 : cFn Try.prog 41 = some (cc_table_every_api_Detector 68 67) := by kernel_rfl
theorem s41 : evD.Spec (Pure Try.prog) 41 := evD.ok hm cf41 s68 s67
theorem cf69 : cFn Try.prog 69 = some cc_table_detector_1 := by kernel_rfl
theorem s69 : tDet1.Spec (Pure Try.prog) 69 := tDet1.ok hm cf69
theorem cf89 : cFn Try.prog 89 = some cc_secs_Ticks := by kernel_rfl
theorem s89 : sTicks.Spec (Pure Try.prog) 89 := sTicks.ok hm cf89
theorem cf12 : cFn Try.prog 12 = some cc_math_Signbit := by kernel_rfl
theorem s12 : sgn.Spec (Pure Try.prog) 12 := sgn.ok hm cf12
theorem cf70 : cFn Try.prog 70 = some (cc_table_seconds 89 12) := by kernel_rfl
theorem s70 : tSecs.Spec (Pure Try.prog) 70 := tSecs.ok hm cf70 s89 s12
theorem cf42 : cFn Try.prog 42 = some (cc_table_detector 69 3 40 70 47) := by kernel_rfl
theorem s42 : tDet.Spec (Pure Try.prog) 42 := tDet.ok hm cf42 s69 s40 s70 s47
theorem cf72 : cFn Try.prog 72 = some cc_table_every_api_Rail_1 := by kernel_rfl
theorem s72 : ev1R.Spec (Pure Try.prog) 72 := ev1R.ok hm cf72
theorem cf90 : cFn Try.prog 90 = some cc_slices_IndexFunc_api_Rail_api_Rail := by kernel_rfl
theorem s90 : idxR.Spec (Pure Try.prog) 90 := idxR.ok hm cf90
theorem cf71 : cFn Try.prog 71 = some (cc_slices_ContainsFunc_api_Rail_api_Rail 90) := by kernel_rfl
theorem s71 : conR.Spec (Pure Try.prog) 71 := conR.ok hm cf71 s90
theorem cf43 : cFn Try.prog 43 = some (cc_table_every_api_Rail 72 71) := by kernel_rfl
theorem s43 : evR.Spec (Pure Try.prog) 43 := evR.ok hm cf43 s72 s71
theorem cf44 : cFn Try.prog 44 = some (cc_table_rail 3 40 47) := by kernel_rfl
theorem s44 : tRail.Spec (Pure Try.prog) 44 := tRail.ok hm cf44 s40 s47
theorem cf74 : cFn Try.prog 74 = some cc_table_every_api_Bus_1 := by kernel_rfl
theorem s74 : ev1U.Spec (Pure Try.prog) 74 := ev1U.ok hm cf74
theorem cf91 : cFn Try.prog 91 = some cc_slices_IndexFunc_api_Bus_api_Bus := by kernel_rfl
theorem s91 : idxU.Spec (Pure Try.prog) 91 := idxU.ok hm cf91
theorem cf73 : cFn Try.prog 73 = some (cc_slices_ContainsFunc_api_Bus_api_Bus 91) := by kernel_rfl
theorem s73 : conU.Spec (Pure Try.prog) 73 := conU.ok hm cf73 s91
theorem cf45 : cFn Try.prog 45 = some (cc_table_every_api_Bus 74 73) := by kernel_rfl
theorem s45 : evU.Spec (Pure Try.prog) 45 := evU.ok hm cf45 s74 s73
theorem cf46 : cFn Try.prog 46 = some (cc_table_bus 3 40 47) := by kernel_rfl
theorem s46 : tBus.Spec (Pure Try.prog) 46 := tBus.ok hm cf46 s40 s47
theorem cf11 : cFn Try.prog 11 = some (cc_table_May 36 37 38 39 40 41 42 43 44 45 46 3 47) := by kernel_rfl
theorem s11 : tMay.Spec (Pure Try.prog) 11 := tMay.ok hm cf11 s36 s37 s38 s39 s40 s41 s42 s43 s44 s45 s46 s47
theorem cf28 : cFn Try.prog 28 = some cc_slices_Equal_int_int := by kernel_rfl
theorem s28 : eqLI.Spec (Pure Try.prog) 28 := eqLI.ok hm cf28
theorem cf27 : cFn Try.prog 27 = some (cc_table_Same_1 28) := by kernel_rfl
theorem s27 : tRows.Spec (Pure Try.prog) 27 := tRows.ok hm cf27 s28
theorem cf29 : cFn Try.prog 29 = some cc_slices_EqualFunc_2_int_2_int_2_int_2_int := by kernel_rfl
theorem s29 : efG.Spec (Pure Try.prog) 29 := efG.ok hm cf29
theorem cf30 : cFn Try.prog 30 = some cc_slices_EqualFunc_api_Detector_api_Detector_api_Detector_api_Detector := by kernel_rfl
theorem s30 : efD.Spec (Pure Try.prog) 30 := efD.ok hm cf30
theorem cf58 : cFn Try.prog 58 = some cc_table_bits := by kernel_rfl
theorem s58 : tBits.Spec (Pure Try.prog) 58 := tBits.ok hm cf58
theorem cf31 : cFn Try.prog 31 = some (cc_table_alike 58) := by kernel_rfl
theorem s31 : tAlike.Spec (Pure Try.prog) 31 := tAlike.ok hm cf31 s58
theorem cf32 : cFn Try.prog 32 = some cc_slices_Equal_api_Rail_api_Rail := by kernel_rfl
theorem s32 : eqLR.Spec (Pure Try.prog) 32 := eqLR.ok hm cf32
theorem cf33 : cFn Try.prog 33 = some cc_slices_Equal_api_Bus_api_Bus := by kernel_rfl
theorem s33 : eqLU.Spec (Pure Try.prog) 33 := eqLU.ok hm cf33
theorem cf7 : cFn Try.prog 7 = some (cc_table_Same 27 29 30 31 32 33) := by kernel_rfl
theorem s7 : tSame.Spec (Pure Try.prog) 7 := tSame.ok hm cf7 s27 s29 s30 s31 s32 s33
theorem cf22 : cFn Try.prog 22 = some (cc_slices_Clone_2_int_2_int 36) := by kernel_rfl
theorem s22 : clG.Spec (Pure Try.prog) 22 := clG.ok hm cf22
theorem cf24 : cFn Try.prog 24 = some (cc_slices_Clone_api_Detector_api_Detector 39) := by kernel_rfl
theorem s24 : clD.Spec (Pure Try.prog) 24 := clD.ok hm cf24
theorem cf25 : cFn Try.prog 25 = some (cc_slices_Clone_api_Rail_api_Rail 41) := by kernel_rfl
theorem s25 : clR.Spec (Pure Try.prog) 25 := clR.ok hm cf25
theorem cf26 : cFn Try.prog 26 = some (cc_slices_Clone_api_Bus_api_Bus 43) := by kernel_rfl
theorem s26 : clU.Spec (Pure Try.prog) 26 := clU.ok hm cf26
theorem cf6 : cFn Try.prog 6 = some (cc_table_Clone 22 23 24 25 26) := by kernel_rfl
theorem s6 : tClone0.Spec (Pure Try.prog) 6 := tClone0.ok hm cf6 s22 s24 s25 s26
theorem cf10 : cFn Try.prog 10 = some (cc_law06_awake 11 6 7) := by kernel_rfl
theorem s10 : awake06.Spec (Pure Try.prog) 10 := awake06.ok hm cf10 s11 s6 s7
theorem cf4 : cFn Try.prog 4 = some (cc_law06_TableFloats 39 11 12 7 10) := by kernel_rfl
theorem s4 : tabFloats.Spec (Pure Try.prog) 4 := tabFloats.ok hm cf4 s11 s12 s7 s10
end Go.Proofs.Ytddfefpncbdaeaa
