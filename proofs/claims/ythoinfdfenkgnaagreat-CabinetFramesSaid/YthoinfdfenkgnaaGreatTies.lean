/- The functions of this seat: their compiled code is what the library says of it, so that the contracts hold of them. -/
import Derived.Test.YthoinfdfenkgnaaGreatChecked
import Derived.Test.YthoinfdfenkgnaaGreatPk1
import Derived.Test.YthoinfdfenkgnaaGreatPk2
import Derived.Test.YthoinfdfenkgnaaGreatPk3
import Derived.Test.YthoinfdfenkgnaaGreatPk4
import Derived.Test.YthoinfdfenkgnaaGreatPk5
import Derived.Test.YthoinfdfenkgnaaGreatPk6
import Derived.Test.YthoinfdfenkgnaaGreatPk7
import Derived.Test.YthoinfdfenkgnaaGreatPk8
import Derived.Test.YthoinfdfenkgnaaGreatPk9
import Derived.Test.YthoinfdfenkgnaaGreatPk10
import Derived.Test.YthoinfdfenkgnaaGreatPk11
import Derived.Test.YthoinfdfenkgnaaGreatPk12
namespace Go.Proofs.YthoinfdfenkgnaaGreat
open Go.Eng
set_option maxRecDepth 100000
theorem hm : Tryz.prog.follows .mixedOrders = true := by kernel_rfl
theorem cf49 : bU Tryz.prog 49 = some (ic 93 3 120 96 100) := by kernel_rfl
theorem s49 : me.Spec (Pure Tryz.prog) 49 := me.ok hm cf49
theorem cf80 : bU Tryz.prog 80 = some kQ := by kernel_rfl
theorem s80 : sW.Spec (Pure Tryz.prog) 80 := sW.ok hm cf80
theorem cf67 : bU Tryz.prog 67 = some (jh 80) := by kernel_rfl
theorem s67 : oM.Spec (Pure Tryz.prog) 67 := oM.ok hm cf67 s80
theorem cf40 : bU Tryz.prog 40 = some (ig 67) := by kernel_rfl
theorem s40 : vC.Spec (Pure Tryz.prog) 40 := Fc.ok hm cf40 s67
theorem cf10 : bU Tryz.prog 10 = some (gu 40) := by kernel_rfl
theorem s10 : oK.Spec (Pure Tryz.prog) 10 := oK.ok hm cf10 s40
theorem cf54 : bU Tryz.prog 54 = some gb := by kernel_rfl
theorem s54 : oI.Spec (Pure Tryz.prog) 54 := oI.ok hm cf54
theorem cf25 : bU Tryz.prog 25 = some (gX 54) := by kernel_rfl
theorem s25 : jg.Spec (Pure Tryz.prog) 25 := jg.ok hm cf25 s54
theorem cf41 : bU Tryz.prog 41 = some (ga 25) := by kernel_rfl
theorem s41 : gh.Spec (Pure Tryz.prog) 41 := gh.ok hm cf41 s25
theorem cf42 : bU Tryz.prog 42 = some gZ := by kernel_rfl
theorem s42 : sU.Spec (Pure Tryz.prog) 42 := sU.ok hm cf42
theorem cf43 : bU Tryz.prog 43 = some hJ := by kernel_rfl
theorem s43 : sP.Spec (Pure Tryz.prog) 43 := sP.ok hm cf43
theorem cf44 : bU Tryz.prog 44 = some hY := by kernel_rfl
theorem s44 : sO.Spec (Pure Tryz.prog) 44 := sO.ok hm cf44
theorem cf46 : tF true Tryz.prog 46 = some (cQ 81) := by kernel_rfl
theorem s46 : sQ.Spec (Pure Tryz.prog) 46 := sQ.ok hm cf46
theorem s46_1 : sR.Spec (Pure Tryz.prog) 46 := sR.ok hm cf46
theorem cf13 : tF true Tryz.prog 13 = some (gW 25 41 42 43 44 45 46) := by kernel_rfl
theorem s13 : oL.Spec (Pure Tryz.prog) 13 := oL.ok hm cf13 s25 s41 s42 s43 s44 s46 s46_1
theorem cf16 : bU Tryz.prog 16 = some (je 49 10 13) := by kernel_rfl
theorem s16 : mL.Spec (Pure Tryz.prog) 16 := mL.ok hm cf16 s49 s10 s13
theorem cf50 : bU Tryz.prog 50 = some mb := by kernel_rfl
theorem s50 : LR.Spec (Pure Tryz.prog) 50 := LR.ok hm cf50
theorem cf18 : bU Tryz.prog 18 = some (jL 50) := by kernel_rfl
theorem s18 : jg.Spec (Pure Tryz.prog) 18 := Iv.ok hm cf18 s50
theorem cf58 : bU Tryz.prog 58 = some lS := by kernel_rfl
theorem s58 : At.Spec (Pure Tryz.prog) 58 := At.ok hm cf58
theorem cf23 : bU Tryz.prog 23 = some iX := by kernel_rfl
theorem s23 : Place.Spec (Pure Tryz.prog) 23 := Place.ok hm cf23
theorem cf32 : bU Tryz.prog 32 = some (jA 58 23) := by kernel_rfl
theorem s32 : from.Spec (Pure Tryz.prog) 32 := from.ok hm cf32 s58 s23
theorem cf29 : bU Tryz.prog 29 = some (jz 32 3 120) := by kernel_rfl
theorem s29 : rows.Spec (Pure Tryz.prog) 29 := rows.ok hm cf29 s32
theorem cf30 : bU Tryz.prog 30 = some (iY 32) := by kernel_rfl
theorem s30 : phase.Spec (Pure Tryz.prog) 30 := phase.ok hm cf30 s32
theorem cf71 : bU Tryz.prog 71 = some (i4 122) := by kernel_rfl
theorem s71 : bJ.Spec (Pure Tryz.prog) 71 122 := bJ.ok hm cf71
theorem cf57 : bU Tryz.prog 57 = some (iZ 71) := by kernel_rfl
theorem s57 : where.Spec (Pure Tryz.prog) 57 := where.ok hm cf57 s71
theorem cf31 : bU Tryz.prog 31 = some (gR 57) := by kernel_rfl
theorem s31 : beside.Spec (Pure Tryz.prog) 31 := beside.ok hm cf31 s57
theorem cf72 : bU Tryz.prog 72 = some kB := by kernel_rfl
theorem s72 : ny.Spec (Pure Tryz.prog) 72 := ny.ok hm cf72
theorem cf59 : bU Tryz.prog 59 = some (jE 72 3) := by kernel_rfl
theorem s59 : kI.Spec (Pure Tryz.prog) 59 3 := kI.ok hm cf59 s72
theorem cf24 : bU Tryz.prog 24 = some lR := by kernel_rfl
theorem s24 : rU.Spec (Pure Tryz.prog) 24 := rU.ok hm cf24
theorem cf33 : bU Tryz.prog 33 = some (jB 59 3 24) := by kernel_rfl
theorem s33 : mD.Spec (Pure Tryz.prog) 33 := mD.ok hm cf33 s59 s24
theorem cf34 : bU Tryz.prog 34 = some (fX 32) := by kernel_rfl
theorem s34 : lV.Spec (Pure Tryz.prog) 34 := lV.ok hm cf34 s32
theorem cf60 : bU Tryz.prog 60 = some (jF 3 24 31 33) := by kernel_rfl
theorem s60 : with.Spec (Pure Tryz.prog) 60 := with.ok hm cf60 s24 s31 s33
theorem cf35 : bU Tryz.prog 35 = some (jC 32 60) := by kernel_rfl
theorem s35 : BY.Spec (Pure Tryz.prog) 35 := BY.ok hm cf35 s32 s60
theorem cf73 : bU Tryz.prog 73 = some (lQ 3 24) := by kernel_rfl
theorem s73_1 : on.Spec (Pure Tryz.prog) 73 := on.ok hm cf73 s24
theorem cf51 : bU Tryz.prog 51 = some kH := by kernel_rfl
theorem s51 : Cut.Spec (Pure Tryz.prog) 51 := Cut.ok hm cf51
theorem cf76 : bU Tryz.prog 76 = some (kF 51) := by kernel_rfl
theorem s76 : Cap.Spec (Pure Tryz.prog) 76 := Cap.ok hm cf76 s51
theorem cf92 : bU Tryz.prog 92 = some (kG 76) := by kernel_rfl
theorem s92 : Add.Spec (Pure Tryz.prog) 92 := Add.ok hm cf92 s76
theorem cf75 : bU Tryz.prog 75 = some (kE 92) := by kernel_rfl
theorem s75 : ox.Spec (Pure Tryz.prog) 75 := Sum.ok hm cf75 s92
theorem cf62 : bU Tryz.prog 62 = some (kC 75) := by kernel_rfl
theorem s62 : ox.Spec (Pure Tryz.prog) 62 := ox.ok hm cf62 s75
theorem cf78 : bU Tryz.prog 78 = some jJ := by kernel_rfl
theorem s78 : most.Spec (Pure Tryz.prog) 78 := most.ok hm cf78
theorem cf91 : bU Tryz.prog 91 = some (i7 73 72 76 3 62 78) := by kernel_rfl
theorem s91 : serve.Spec (Pure Tryz.prog) 91 := serve.ok hm cf91 s73_1 s72 s76 s62 s78
theorem cf74 : bU Tryz.prog 74 = some (jI 3 71 91 62) := by kernel_rfl
theorem s74 : pass.Spec (Pure Tryz.prog) 74 := pass.ok hm cf74 s71 s91 s62
theorem cf61 : bU Tryz.prog 61 = some (jG 57 73 72 74 3 62) := by kernel_rfl
theorem s61 : free.Spec (Pure Tryz.prog) 61 := free.ok hm cf61 s57 s73_1 s72 s74 s62
theorem cf79 : bU Tryz.prog 79 = some (i6 73 59 3 62 78) := by kernel_rfl
theorem s79 : clear.Spec (Pure Tryz.prog) 79 := clear.ok hm cf79 s73_1 s59 s62 s78
theorem cf77 : bU Tryz.prog 77 = some (i5 79 3 62) := by kernel_rfl
theorem s77 : entry.Spec (Pure Tryz.prog) 77 := entry.ok hm cf77 s79 s62
theorem cf64 : bU Tryz.prog 64 = some (jH 77 3 62 73 59 76 78 79) := by kernel_rfl
theorem s64 : rY.Spec (Pure Tryz.prog) 64 := rY.ok hm cf64 s77 s62 s73_1 s59 s76 s78 s79
theorem cf63 : bU Tryz.prog 63 = some (kD 76) := by kernel_rfl
theorem s63 : Mul.Spec (Pure Tryz.prog) 63 := Mul.ok hm cf63 s76
theorem cf36 : bU Tryz.prog 36 = some (jD 61 3 62 64 63) := by kernel_rfl
theorem s36 : wait.Spec (Pure Tryz.prog) 36 := wait.ok hm cf36 s61 s62 s64 s63
theorem cf8 : bU Tryz.prog 8 = some (iW 29 30 31 32 33 34 93 35 96 100 36) := by kernel_rfl
theorem s8 : Table.Spec (Pure Tryz.prog) 8 := Table.ok hm cf8 s29 s30 s31 s32 s33 s34 s35 s36
theorem cf55 : bU Tryz.prog 55 = some fe := by kernel_rfl
theorem s55 : j8.Spec (Pure Tryz.prog) 55 := j8.ok hm cf55
theorem cf56 : bU Tryz.prog 56 = some ff := by kernel_rfl
theorem s56 : j9.Spec (Pure Tryz.prog) 56 := j9.ok hm cf56
theorem cf26 : bU Tryz.prog 26 = some (gY 41 3 55 56) := by kernel_rfl
theorem s26 : pL.Spec (Pure Tryz.prog) 26 := pL.ok hm cf26 s41 s55 s56
theorem cf47 : bU Tryz.prog 47 = some (ia 18) := by kernel_rfl
theorem s47 : gh.Spec (Pure Tryz.prog) 47 := CD.ok hm cf47 s18
theorem cf27 : bU Tryz.prog 27 = some (jM 47 3) := by kernel_rfl
theorem s27 : sL.Spec (Pure Tryz.prog) 27 := sL.ok hm cf27 s47
theorem cf6 : bU Tryz.prog 6 = some (dM 16 25 18 8 26 27) := by kernel_rfl
theorem s6 : oO.Spec (Pure Tryz.prog) 6 := oO.ok hm cf6 s16 s25 s18 s8 s26 s27
theorem cf37 : bU Tryz.prog 37 = some mh := by kernel_rfl
theorem s37 : CN.Spec (Pure Tryz.prog) 37 := CN.ok hm cf37
theorem cf38 : bU Tryz.prog 38 = some mj := by kernel_rfl
theorem s38 : CS.Spec (Pure Tryz.prog) 38 := CS.ok hm cf38
theorem cf39 : bU Tryz.prog 39 = some gw := by kernel_rfl
theorem s39 : CT.Spec (Pure Tryz.prog) 39 := CT.ok hm cf39
theorem cf9 : bU Tryz.prog 9 = some (ij 23 37 38 39 91 68) := by kernel_rfl
theorem s9 : sZ.Spec (Pure Tryz.prog) 9 := sZ.ok hm cf9 s23 s37 s38 s39
theorem cf28 : bU Tryz.prog 28 = some (jN 68) := by kernel_rfl
theorem s28 : sN.Spec (Pure Tryz.prog) 28 := sN.ok hm cf28
theorem cf7 : bU Tryz.prog 7 = some (eo 8 9 28 26 16) := by kernel_rfl
theorem s7 : qL.Spec (Pure Tryz.prog) 7 := qL.ok hm cf7 s8 s9 s28 s26 s16
end Go.Proofs.YthoinfdfenkgnaaGreat
