/- The functions of this seat: their compiled code is what the library says of it, so that the contracts hold of them. -/
import Derived.Test.YtobofgkfhjlneaaChecked
import Derived.Test.YtobofgkfhjlneaaPk1
import Derived.Test.YtobofgkfhjlneaaPk2
import Derived.Test.YtobofgkfhjlneaaPk3
import Derived.Test.YtobofgkfhjlneaaPk4
import Derived.Test.YtobofgkfhjlneaaPk5
import Derived.Test.YtobofgkfhjlneaaPk6
import Derived.Test.YtobofgkfhjlneaaPk7
import Derived.Test.YtobofgkfhjlneaaPk8
import Derived.Test.YtobofgkfhjlneaaPk9
namespace Go.Proofs.Ytobofgkfhjlneaa
open Go.Eng
set_option maxRecDepth 100000
theorem hm : Try.prog.follows .mixedOrders = true := by kernel_rfl
theorem cf27 : fM Try.prog 27 = some (bp 5) := by kernel_rfl
theorem s27 : mA.Spec (Pure Try.prog) 27 := mA.ok hm cf27
theorem cf13 : fM Try.prog 13 = some (g9 27) := by kernel_rfl
theorem s13 : o6.Spec (Pure Try.prog) 13 := o6.ok hm cf13 s27
theorem cf28 : qb Try.prog 28 = some (bN 35) := by kernel_rfl
theorem s28 : o3.Spec (Pure Try.prog) 35 28 := o3.ok hm cf28
theorem cf20 : fM Try.prog 20 = some cN := by kernel_rfl
theorem s20 : kV.Spec (Pure Try.prog) 20 := kV.ok hm cf20
theorem cf30 : eD true Try.prog 30 = some (cB 35) := by kernel_rfl
theorem s30 : kr.Spec (Pure Try.prog) 35 30 := kr.ok hm cf30
theorem cf36 : eD true Try.prog 36 = some (bU 20 30) := by kernel_rfl
theorem s36 : oZ.Spec (Pure Try.prog) 35 36 := oZ.ok hm cf36 s20 s30
theorem cf29 : eD true Try.prog 29 = some (bO 36) := by kernel_rfl
theorem s29 : ku.Spec (Pure Try.prog) 35 29 := ku.ok hm cf29 s36
theorem cf15 : qc Try.prog 15 = some (bI 28 29 30) := by kernel_rfl
theorem s15 : ob.Spec (Pure Try.prog) 15 := ob.ok hm cf15 s28 s29 s30
theorem cf17 : fM Try.prog 17 = some dG := by kernel_rfl
theorem s17 : Ao.Spec (Pure Try.prog) 17 := Ao.ok hm cf17
theorem cf8 : eD true Try.prog 8 = some (g8 5) := by kernel_rfl
theorem s8 : o8.Spec (Pure Try.prog) 8 := o8.ok hm cf8
theorem cf7 : eD true Try.prog 7 = some (eM 5 13 15 17 8) := by kernel_rfl
theorem s7 : eZ.Spec (Pure Try.prog) 7 := eZ.ok hm cf7 s13 s15 s17 s8
theorem cf9 : fM Try.prog 9 = some (dQ 8) := by kernel_rfl
theorem s9 : nq.Spec (Pure Try.prog) 9 := nq.ok hm cf9 s8
theorem cf26 : fM Try.prog 26 = some gk := by kernel_rfl
theorem s26 : Cut.Spec (Pure Try.prog) 26 := Cut.ok hm cf26
theorem cf11 : fM Try.prog 11 = some (gq 5 26) := by kernel_rfl
theorem s11 : r5.Spec (Pure Try.prog) 11 := r5.ok hm cf11 s26
theorem cf10 : fM Try.prog 10 = some cY := by kernel_rfl
theorem s10 : pg.Spec (Pure Try.prog) 10 := pg.ok hm cf10
theorem cf12 : fM Try.prog 12 = some (dF 11) := by kernel_rfl
theorem s12 : o9.Spec (Pure Try.prog) 12 := o9.ok hm cf12 s11
theorem cf3 : fM Try.prog 3 = some (dA 7 5 8 9 11 10 12) := by kernel_rfl
theorem s3 : jN.Spec (Pure Try.prog) 3 := jN.ok hm cf3 s7 s8 s9 s11 s10 s12
theorem cf14 : fM Try.prog 14 = some eJ := by kernel_rfl
theorem s14 : Place.Spec (Pure Try.prog) 14 := Place.ok hm cf14
theorem cf16 : fM Try.prog 16 = some cz := by kernel_rfl
theorem s16 : jg.Spec (Pure Try.prog) 16 := jg.ok hm cf16
theorem cf31 : qb Try.prog 31 = some (bD 35) := by kernel_rfl
theorem s31 : o4.Spec (Pure Try.prog) 35 31 := o4.ok hm cf31
theorem cf18 : qc Try.prog 18 = some (bM 31 29) := by kernel_rfl
theorem s18 : jh.Spec (Pure Try.prog) 18 := jh.ok hm cf18 s31 s29
theorem cf19 : fM Try.prog 19 = some (cM 15) := by kernel_rfl
theorem s19 : nj.Spec (Pure Try.prog) 19 := nj.ok hm cf19 s15
theorem cf4 : eD true Try.prog 4 = some (dB 7 13 14 15 16 17 18 19 20) := by kernel_rfl
theorem s4 : jO.Spec (Pure Try.prog) 4 := jO.ok hm cf4 s7 s13 s14 s15 s16 s17 s18 s19 s20
theorem cf33 : fM Try.prog 33 = some cZ := by kernel_rfl
theorem s33 : AH.Spec (Pure Try.prog) 33 := AH.ok hm cf33
theorem cf34 : fM Try.prog 34 = some cC := by kernel_rfl
theorem s34 : nr.Spec (Pure Try.prog) 34 := nr.ok hm cf34
theorem cf21 : fM Try.prog 21 = some (bn 33 26 34) := by kernel_rfl
theorem s21 : r6.Spec (Pure Try.prog) 21 := r6.ok hm cf21 s33 s26 s34
theorem cf23 : fM Try.prog 23 = some (bq 33 34) := by kernel_rfl
theorem s23 : mB.Spec (Pure Try.prog) 23 := mB.ok hm cf23 s33 s34
theorem cf35 : fM Try.prog 35 = some gl := by kernel_rfl
theorem s35_1 : uu.Spec (Pure Try.prog) 35 := uu.ok hm cf35
theorem cf22 : fM Try.prog 22 = some (eK 35) := by kernel_rfl
theorem s22_1 : ko.Spec (Pure Try.prog) 22 := ko.ok hm cf22 s35_1
theorem cf24 : fM Try.prog 24 = some (cA 21) := by kernel_rfl
theorem s24 : pn.Spec (Pure Try.prog) 24 := pn.ok hm cf24 s21
theorem cf5 : eD true Try.prog 5 = some (cX 7 13 15 21 18 23 22 19 24 17 20 16) := by kernel_rfl
theorem s5 : iJ.Spec (Pure Try.prog) 5 := iJ.ok hm cf5 s7 s13 s15 s21 s18 s23 s22_1 s19 s24 s17 s20 s16
theorem cf6 : eD true Try.prog 6 = some (dD 7 8 9 13 15 18 22 20 16) := by kernel_rfl
theorem s6 : jP.Spec (Pure Try.prog) 6 := jP.ok hm cf6 s7 s8 s9 s13 s15 s18 s22_1 s20 s16
end Go.Proofs.Ytobofgkfhjlneaa
