/- The functions of this seat: their compiled code is what the library says of it, so that the contracts hold of them. -/
import Derived.Test.YtdhlkekmkollhaaGreatChecked
import Derived.Test.YtdhlkekmkollhaaGreatPk1
import Derived.Test.YtdhlkekmkollhaaGreatPk2
import Derived.Test.YtdhlkekmkollhaaGreatPk3
import Derived.Test.YtdhlkekmkollhaaGreatPk4
import Derived.Test.YtdhlkekmkollhaaGreatPk5
import Derived.Test.YtdhlkekmkollhaaGreatPk6
import Derived.Test.YtdhlkekmkollhaaGreatPk7
import Derived.Test.YtdhlkekmkollhaaGreatPk8
import Derived.Test.YtdhlkekmkollhaaGreatPk9
import Derived.Test.YtdhlkekmkollhaaGreatPk10
import Derived.Test.YtdhlkekmkollhaaGreatPk11
import Derived.Test.YtdhlkekmkollhaaGreatPk12
import Derived.Test.YtdhlkekmkollhaaGreatPk13
import Derived.Test.YtdhlkekmkollhaaGreatPk14
import Derived.Test.YtdhlkekmkollhaaGreatPk15
import Derived.Test.YtdhlkekmkollhaaGreatPk16
import Derived.Test.YtdhlkekmkollhaaGreatPk17
import Derived.Test.YtdhlkekmkollhaaGreatPk18
import Derived.Test.YtdhlkekmkollhaaGreatEach2
import Derived.Test.YtdhlkekmkollhaaGreatEach1
namespace Go.Proofs.YtdhlkekmkollhaaGreat
open Go.Eng
set_option maxRecDepth 100000
theorem hm : Tryz.prog.follows .mixedOrders = true := by kernel_rfl
theorem cf58 : aE Tryz.prog 58 = some sG := by kernel_rfl
theorem s58 : At.Spec (Pure Tryz.prog) 58 := At.ok hm cf58
theorem cf14 : aE Tryz.prog 14 = some nk := by kernel_rfl
theorem s14 : Place.Spec (Pure Tryz.prog) 14 := Place.ok hm cf14
theorem cf22 : aE Tryz.prog 22 = some (oP 58 14) := by kernel_rfl
theorem s22 : from.Spec (Pure Tryz.prog) 22 := from.ok hm cf22 s58 s14
theorem cf19 : aE Tryz.prog 19 = some (oO 22 3 134) := by kernel_rfl
theorem s19 : rows.Spec (Pure Tryz.prog) 19 := rows.ok hm cf19 s22
theorem cf20 : aE Tryz.prog 20 = some (nq 22) := by kernel_rfl
theorem s20 : phase.Spec (Pure Tryz.prog) 20 := phase.ok hm cf20 s22
theorem cf134 : aE Tryz.prog 134 = some (nv 136) := by kernel_rfl
theorem s134 : bu.Spec (Pure Tryz.prog) 134 136 := bu.ok hm cf134
theorem cf57 : aE Tryz.prog 57 = some (nu 134) := by kernel_rfl
theorem s57 : where.Spec (Pure Tryz.prog) 57 := where.ok hm cf57 s134
theorem cf21 : aE Tryz.prog 21 = some (lK 57) := by kernel_rfl
theorem s21 : beside.Spec (Pure Tryz.prog) 21 := beside.ok hm cf21 s57
theorem cf135 : aE Tryz.prog 135 = some qD := by kernel_rfl
theorem s135 : uV.Spec (Pure Tryz.prog) 135 := uV.ok hm cf135
theorem cf60 : aE Tryz.prog 60 = some (oT 135 3) := by kernel_rfl
theorem s60 : qK.Spec (Pure Tryz.prog) 60 3 := qK.ok hm cf60 s135
theorem cf59 : aE Tryz.prog 59 = some sF := by kernel_rfl
theorem s59 : AH.Spec (Pure Tryz.prog) 59 := AH.ok hm cf59
theorem cf23 : aE Tryz.prog 23 = some (oQ 60 3 59) := by kernel_rfl
theorem s23 : tW.Spec (Pure Tryz.prog) 23 := tW.ok hm cf23 s60 s59
theorem cf24 : aE Tryz.prog 24 = some (jL 22) := by kernel_rfl
theorem s24 : sL.Spec (Pure Tryz.prog) 24 := sL.ok hm cf24 s22
theorem cf61 : aE Tryz.prog 61 = some (oU 3 59 21 23) := by kernel_rfl
theorem s61 : with.Spec (Pure Tryz.prog) 61 := with.ok hm cf61 s59 s21 s23
theorem cf25 : aE Tryz.prog 25 = some (oR 22 61) := by kernel_rfl
theorem s25 : LP.Spec (Pure Tryz.prog) 25 := LP.ok hm cf25 s22 s61
theorem cf136 : aE Tryz.prog 136 = some (sE 3 59) := by kernel_rfl
theorem s136_1 : on.Spec (Pure Tryz.prog) 136 := on.ok hm cf136 s59
theorem cf185 : aE Tryz.prog 185 = some qJ := by kernel_rfl
theorem s185 : Cut.Spec (Pure Tryz.prog) 185 := Cut.ok hm cf185
theorem cf139 : aE Tryz.prog 139 = some (qH 185) := by kernel_rfl
theorem s139 : Cap.Spec (Pure Tryz.prog) 139 := Cap.ok hm cf139 s185
theorem cf184 : aE Tryz.prog 184 = some (qI 139) := by kernel_rfl
theorem s184 : Add.Spec (Pure Tryz.prog) 184 := Add.ok hm cf184 s139
theorem cf138 : aE Tryz.prog 138 = some (qG 184) := by kernel_rfl
theorem s138 : v8.Spec (Pure Tryz.prog) 138 := Sum.ok hm cf138 s184
theorem cf63 : aE Tryz.prog 63 = some (qE 138) := by kernel_rfl
theorem s63 : v8.Spec (Pure Tryz.prog) 63 := v8.ok hm cf63 s138
theorem cf141 : aE Tryz.prog 141 = some oY := by kernel_rfl
theorem s141 : most.Spec (Pure Tryz.prog) 141 := most.ok hm cf141
theorem cf183 : aE Tryz.prog 183 = some (nA 136 135 139 3 63 141) := by kernel_rfl
theorem s183 : serve.Spec (Pure Tryz.prog) 183 := serve.ok hm cf183 s136_1 s135 s139 s63 s141
theorem cf137 : aE Tryz.prog 137 = some (oX 3 134 183 63) := by kernel_rfl
theorem s137 : pass.Spec (Pure Tryz.prog) 137 := pass.ok hm cf137 s134 s183 s63
theorem cf62 : aE Tryz.prog 62 = some (oV 57 136 135 137 3 63) := by kernel_rfl
theorem s62 : free.Spec (Pure Tryz.prog) 62 := free.ok hm cf62 s57 s136_1 s135 s137 s63
theorem cf142 : aE Tryz.prog 142 = some (ny 136 60 3 63 141) := by kernel_rfl
theorem s142 : clear.Spec (Pure Tryz.prog) 142 := clear.ok hm cf142 s136_1 s60 s63 s141
theorem cf140 : aE Tryz.prog 140 = some (nw 142 3 63) := by kernel_rfl
theorem s140 : entry.Spec (Pure Tryz.prog) 140 := entry.ok hm cf140 s142 s63
theorem cf65 : aE Tryz.prog 65 = some (oW 140 3 63 136 60 139 141 142) := by kernel_rfl
theorem s65 : xU.Spec (Pure Tryz.prog) 65 := xU.ok hm cf65 s140 s63 s136_1 s60 s139 s141 s142
theorem cf64 : aE Tryz.prog 64 = some (qF 139) := by kernel_rfl
theorem s64 : Mul.Spec (Pure Tryz.prog) 64 := Mul.ok hm cf64 s139
theorem cf26 : aE Tryz.prog 26 = some (oS 62 3 63 65 64) := by kernel_rfl
theorem s26 : wait.Spec (Pure Tryz.prog) 26 := wait.ok hm cf26 s62 s63 s65 s64
theorem cf6 : aE Tryz.prog 6 = some (nj 19 20 21 22 23 24 86 25 89 93 26) := by kernel_rfl
theorem s6 : Table.Spec (Pure Tryz.prog) 6 := Table.ok hm cf6 s19 s20 s21 s22 s23 s24 s25 s26
theorem cf27 : aE Tryz.prog 27 = some tK := by kernel_rfl
theorem s27 : Kq.Spec (Pure Tryz.prog) 27 := Kq.ok hm cf27
theorem cf28 : aE Tryz.prog 28 = some tL := by kernel_rfl
theorem s28 : M0.Spec (Pure Tryz.prog) 28 := M0.ok hm cf28
theorem cf29 : aE Tryz.prog 29 = some kR := by kernel_rfl
theorem s29 : M1.Spec (Pure Tryz.prog) 29 := M1.ok hm cf29
theorem cf7 : aE Tryz.prog 7 = some (mB 14 27 28 29 84 63) := by kernel_rfl
theorem s7 : yz.Spec (Pure Tryz.prog) 7 := yz.ok hm cf7 s14 s27 s28 s29
theorem cf68 : aE Tryz.prog 68 = some qZ := by kernel_rfl
theorem s68 : Bw.Spec (Pure Tryz.prog) 68 := Bw.ok hm cf68
theorem cf30 : aE Tryz.prog 30 = some (nU 68) := by kernel_rfl
theorem s30 : xg.Spec (Pure Tryz.prog) 30 := xg.ok hm cf30 s68
theorem cf8 : aE Tryz.prog 8 = some (mg 30) := by kernel_rfl
theorem s8 : zH.Spec (Pure Tryz.prog) 8 := Pz.ok hm cf8 s30
theorem cf9 : aE Tryz.prog 9 = some nI := by kernel_rfl
theorem s9 : Mi.Spec (Pure Tryz.prog) 9 := Mi.ok hm cf9
theorem cf69 : aE Tryz.prog 69 = some eY := by kernel_rfl
theorem s69 : Gm.Spec (Pure Tryz.prog) 69 := Gm.ok hm cf69
theorem cf71 : aE Tryz.prog 71 = some iA := by kernel_rfl
theorem s71 : Gn.Spec (Pure Tryz.prog) 71 := Gn.ok hm cf71
theorem cf143 : aE Tryz.prog 143 = some pH := by kernel_rfl
theorem s143 : tM.Spec (Pure Tryz.prog) 143 := tM.ok hm cf143
theorem cf70 : aE Tryz.prog 70 = some (kZ 143) := by kernel_rfl
theorem s70 : BH.Spec (Pure Tryz.prog) 70 := BH.ok hm cf70 s143
theorem cf78 : aE Tryz.prog 78 = some mu := by kernel_rfl
theorem s78 : yu.Spec (Pure Tryz.prog) 78 := yu.ok hm cf78
theorem cf72 : aE Tryz.prog 72 = some (pq 78) := by kernel_rfl
theorem s72 : BI.Spec (Pure Tryz.prog) 72 := BI.ok hm cf72 s78
theorem cf144 : aE Tryz.prog 144 = some rq := by kernel_rfl
theorem s144 : tM.Spec (Pure Tryz.prog) 144 := SW.ok hm cf144
theorem cf73 : aE Tryz.prog 73 = some (ri 144) := by kernel_rfl
theorem s73 : BJ.Spec (Pure Tryz.prog) 73 := BJ.ok hm cf73 s144
theorem cf146 : aE Tryz.prog 146 = some o5 := by kernel_rfl
theorem s146 : A5.Spec (Pure Tryz.prog) 146 := A5.ok hm cf146
theorem cf75 : aE Tryz.prog 75 = some (mq 146) := by kernel_rfl
theorem s75 : xp.Spec (Pure Tryz.prog) 75 := xp.ok hm cf75 s146
theorem cf145 : aE Tryz.prog 145 = some ru := by kernel_rfl
theorem s145 : Gl.Spec (Pure Tryz.prog) 145 := Gl.ok hm cf145
theorem cf74 : aE Tryz.prog 74 = some (pz 145) := by kernel_rfl
theorem s74 : BK.Spec (Pure Tryz.prog) 74 := BK.ok hm cf74 s145
theorem cf31 : aE Tryz.prog 31 = some (nV 69 27 71 70 72 73 75 74 159) := by kernel_rfl
theorem s31 : BL.Spec (Pure Tryz.prog) 31 := BL.ok hm cf31 s69 s27 s71 s70 s72 s73 s75 s74
theorem cf79 : aE Tryz.prog 79 = some pE := by kernel_rfl
theorem s79 : xm.Spec (Pure Tryz.prog) 79 := xm.ok hm cf79
theorem cf109 : aE Tryz.prog 109 = some uU := by kernel_rfl
theorem s109 : bit.Spec (Pure Tryz.prog) 109 := bit.ok hm cf109
theorem cf80 : aE Tryz.prog 80 = some (sH 109) := by kernel_rfl
theorem s80 : gP.Spec (Pure Tryz.prog) 80 := gP.ok hm cf80 s109
theorem cf33 : aE Tryz.prog 33 = some (nW 78 79 80) := by kernel_rfl
theorem s33 : BN.Spec (Pure Tryz.prog) 33 := BN.ok hm cf33 s78 s79 s80
theorem cf45 : aE Tryz.prog 45 = some (uT 109) := by kernel_rfl
theorem s45 : kz.Spec (Pure Tryz.prog) 45 := kz.ok hm cf45 s109
theorem cf77 : aE Tryz.prog 77 = some (lP 45) := by kernel_rfl
theorem s77 : E6.Spec (Pure Tryz.prog) 77 := E6.ok hm cf77 s45
theorem cf76 : aE Tryz.prog 76 = some (nr 80) := by kernel_rfl
theorem s76 : AF.Spec (Pure Tryz.prog) 76 := AF.ok hm cf76 s80
theorem cf32 : aE Tryz.prog 32 = some (oN 77 76) := by kernel_rfl
theorem s32 : JK.Spec (Pure Tryz.prog) 32 := JK.ok hm cf32 s77 s76
theorem cf35 : aE Tryz.prog 35 = some (mh 80) := by kernel_rfl
theorem s35 : xw.Spec (Pure Tryz.prog) 35 := xw.ok hm cf35 s80
theorem cf36 : aE Tryz.prog 36 = some (mj 80) := by kernel_rfl
theorem s36 : xx.Spec (Pure Tryz.prog) 36 := xx.ok hm cf36 s80
theorem cf81 : aE Tryz.prog 81 = some (lM 45) := by kernel_rfl
theorem s81 : E7.Spec (Pure Tryz.prog) 81 := E7.ok hm cf81 s45
theorem cf82 : aE Tryz.prog 82 = some (lN 45) := by kernel_rfl
theorem s82 : E8.Spec (Pure Tryz.prog) 82 := E8.ok hm cf82 s45
theorem cf34 : aE Tryz.prog 34 = some (oL 81 82 76) := by kernel_rfl
theorem s34 : Step.Spec (Pure Tryz.prog) 34 := Step.ok hm cf34 s81 s82 s76
theorem cf83 : aE Tryz.prog 83 = some (lO 45) := by kernel_rfl
theorem s83 : E9.Spec (Pure Tryz.prog) 83 := E9.ok hm cf83 s45
theorem cf37 : aE Tryz.prog 37 = some (oM 32 83 76) := by kernel_rfl
theorem s37 : Want.Spec (Pure Tryz.prog) 37 := Want.ok hm cf37 s32 s83 s76
theorem cf147 : aE Tryz.prog 147 = some kM := by kernel_rfl
theorem s147 : vt.Spec (Pure Tryz.prog) 147 := vt.ok hm cf147
theorem cf84 : aE Tryz.prog 84 = some (kL 147) := by kernel_rfl
theorem s84 : Bp.Spec (Pure Tryz.prog) 84 := Bp.ok hm cf84 s147
theorem cf148 : aE Tryz.prog 148 = some iW := by kernel_rfl
theorem s148 : F2.Spec (Pure Tryz.prog) 148 := F2.ok hm cf148
theorem cf149 : aE Tryz.prog 149 = some iX := by kernel_rfl
theorem s149 : F3.Spec (Pure Tryz.prog) 149 := F3.ok hm cf149
theorem cf161 : aE Tryz.prog 161 = some (iZ 147) := by kernel_rfl
theorem s161 : ki.Spec (Pure Tryz.prog) 161 := ki.ok hm cf161 s147
theorem cf160 : aE Tryz.prog 160 = some (gJ 161) := by kernel_rfl
theorem s160 : Kl.Spec (Pure Tryz.prog) 160 := Kl.ok hm cf160 s161
theorem s169 : Go.Eng.sX.Spec (Go.Eng.Pure Tryz.prog) 169 := Go.Eng.sX.of (by kernel_rfl) (setEach_some (Go.Eng.zI.of s45))
theorem cf100 : aE Tryz.prog 100 = some (sV 169) := by kernel_rfl
theorem Gw : sW.Spec (Pure Tryz.prog) 100 := setEach.ok hm cf100 s169
theorem cf162 : aE Tryz.prog 162 = some (iz 100 80) := by kernel_rfl
theorem s162 : me.Spec (Pure Tryz.prog) 162 := me.ok hm cf162 Gw s80
theorem cf192 : aE Tryz.prog 192 = some nM := by kernel_rfl
theorem s192 : Hx.Spec (Pure Tryz.prog) 192 := Hx.ok hm cf192
theorem cf163 : aE Tryz.prog 163 = some (kN 192) := by kernel_rfl
theorem s163 : ym.Spec (Pure Tryz.prog) 163 := ym.ok hm cf163 s192
theorem cf187 : aE Tryz.prog 187 = some (i0 162 163) := by kernel_rfl
theorem s187 : zi.Spec (Pure Tryz.prog) 187 := zi.ok hm cf187 s162 s163
theorem cf150 : aE Tryz.prog 150 = some (gF 160 187 161) := by kernel_rfl
theorem s150 : wV.Spec (Pure Tryz.prog) 150 := wV.ok hm cf150 s160 s187 s161
theorem cf190 : aE Tryz.prog 190 = some (i4 161) := by kernel_rfl
theorem s190 : C3.Spec (Pure Tryz.prog) 190 := C3.ok hm cf190 s161
theorem cf194 : aE Tryz.prog 194 = some (gM 190) := by kernel_rfl
theorem s194 : Br.Spec (Pure Tryz.prog) 194 := Br.ok hm cf194 s190
theorem cf195 : aE Tryz.prog 195 = some jW := by kernel_rfl
theorem s195 : wS.Spec (Pure Tryz.prog) 195 := wS.ok hm cf195
theorem cf159 : aE Tryz.prog 159 = some (iY 194 162 195) := by kernel_rfl
theorem s159 : C4.Spec (Pure Tryz.prog) 159 := C4.ok hm cf159 s194 s162 s195
theorem cf87 : aE Tryz.prog 87 = some (ir 160 161 159) := by kernel_rfl
theorem s87 : yo.Spec (Pure Tryz.prog) 87 := yo.ok hm cf87 s160 s161 s159
theorem cf151 : aE Tryz.prog 151 = some (gG 161) := by kernel_rfl
theorem s151 : wW.Spec (Pure Tryz.prog) 151 := wW.ok hm cf151 s161
theorem cf203 : aE Tryz.prog 203 = some (fq 192 187) := by kernel_rfl
theorem s203 : wU.Spec (Pure Tryz.prog) 203 := wU.ok hm cf203 s192 s187
theorem cf188 : aE Tryz.prog 188 = some (gL 203 162) := by kernel_rfl
theorem s188 : uh.Spec (Pure Tryz.prog) 188 := uh.ok hm cf188 s203 s162
theorem cf152 : aE Tryz.prog 152 = some (iu 161 188) := by kernel_rfl
theorem s152 : Bt.Spec (Pure Tryz.prog) 152 := Bt.ok hm cf152 s161 s188
theorem cf153 : aE Tryz.prog 153 = some (fk 161 187) := by kernel_rfl
theorem s153 : qh.Spec (Pure Tryz.prog) 153 := qh.ok hm cf153 s161 s187
theorem cf189 : aE Tryz.prog 189 = some (eV 190) := by kernel_rfl
theorem s189 : F4.Spec (Pure Tryz.prog) 189 := F4.ok hm cf189 s190
theorem cf154 : aE Tryz.prog 154 = some (gl 161 159 189 162) := by kernel_rfl
theorem s154 : tr.Spec (Pure Tryz.prog) 154 := tr.ok hm cf154 s161 s159 s189 s162
theorem cf86 : aE Tryz.prog 86 = some (kK 147) := by kernel_rfl
theorem s86 : yh.Spec (Pure Tryz.prog) 86 := yh.ok hm cf86 s147
theorem cf155 : aE Tryz.prog 155 = some (gH 161 86) := by kernel_rfl
theorem s155 : wX.Spec (Pure Tryz.prog) 155 := wX.ok hm cf155 s161 s86
theorem cf156 : aE Tryz.prog 156 = some (iw 161 188) := by kernel_rfl
theorem s156 : Bu.Spec (Pure Tryz.prog) 156 := Bu.ok hm cf156 s161 s188
theorem cf191 : aE Tryz.prog 191 = some (fm 192) := by kernel_rfl
theorem s191 : tu.Spec (Pure Tryz.prog) 191 := tu.ok hm cf191 s192
theorem cf157 : aE Tryz.prog 157 = some (gI 161 191 162 187) := by kernel_rfl
theorem s157 : wY.Spec (Pure Tryz.prog) 157 := wY.ok hm cf157 s161 s191 s162 s187
theorem cf193 : aE Tryz.prog 193 = some gm := by kernel_rfl
theorem s193 : wZ.Spec (Pure Tryz.prog) 193 := wZ.ok hm cf193
theorem cf158 : aE Tryz.prog 158 = some (iy 161 193 162) := by kernel_rfl
theorem s158 : Bv.Spec (Pure Tryz.prog) 158 := Bv.ok hm cf158 s161 s193 s162
theorem cf85 : aE Tryz.prog 85 = some (jV 148 149 150 87 151 152 153 154 155 156 157 158) := by kernel_rfl
theorem s85 : xb.Spec (Pure Tryz.prog) 85 := xb.ok hm cf85 s148 s149 s150 s87 s151 s152 s153 s154 s155 s156 s157 s158
theorem cf88 : aE Tryz.prog 88 = some (iU 161 162 163) := by kernel_rfl
theorem s88 : F5.Spec (Pure Tryz.prog) 88 := F5.ok hm cf88 s161 s162 s163
theorem cf196 : aE Tryz.prog 196 = some jr := by kernel_rfl
theorem s196 : tq.Spec (Pure Tryz.prog) 196 := tq.ok hm cf196
theorem cf164 : aE Tryz.prog 164 = some (gK 162 196) := by kernel_rfl
theorem s164 : wT.Spec (Pure Tryz.prog) 164 := wT.ok hm cf164 s162 s196
theorem cf165 : aE Tryz.prog 165 = some mb := by kernel_rfl
theorem s165 : FX.Spec (Pure Tryz.prog) 165 := FX.ok hm cf165
theorem cf89 : aE Tryz.prog 89 = some (iV 161 164 165) := by kernel_rfl
theorem s89 : F6.Spec (Pure Tryz.prog) 89 := F6.ok hm cf89 s161 s164 s165
theorem cf38 : aE Tryz.prog 38 = some (l9 84 85 86 87 88 89) := by kernel_rfl
theorem s38 : F7.Spec (Pure Tryz.prog) 38 := F7.ok hm cf38 s84 s85 s86 s87 s88 s89
theorem cf93 : aE Tryz.prog 93 = some tA := by kernel_rfl
theorem s93 : BF.Spec (Pure Tryz.prog) 93 := BF.ok hm cf93
theorem cf167 : aE Tryz.prog 167 = some tC := by kernel_rfl
theorem s167 : C6.Spec (Pure Tryz.prog) 167 := C6.ok hm cf167
theorem cf168 : aE Tryz.prog 168 = some (yg 109) := by kernel_rfl
theorem s168 : setOf.Spec (Pure Tryz.prog) 168 := setOf.ok hm cf168 s109
theorem cf197 : aE Tryz.prog 197 = some (mz 167 168) := by kernel_rfl
theorem s197 : Gf.Spec (Pure Tryz.prog) 197 := Gf.ok hm cf197 s167 s168
theorem cf166 : aE Tryz.prog 166 = some (jZ 197) := by kernel_rfl
theorem s166 : Gg.Spec (Pure Tryz.prog) 166 := Gg.ok hm cf166 s197
theorem cf90 : aE Tryz.prog 90 = some (mw 93 166) := by kernel_rfl
theorem s90 : xq.Spec (Pure Tryz.prog) 90 := xq.ok hm cf90 s93 s166
theorem cf95 : aE Tryz.prog 95 = some (vw 3 168) := by kernel_rfl
theorem s95 : Ko.Spec (Pure Tryz.prog) 95 := Ko.ok hm cf95 s168
theorem cf91 : aE Tryz.prog 91 = some (tw 95) := by kernel_rfl
theorem s91 : Gh.Spec (Pure Tryz.prog) 91 := Gh.ok hm cf91 s95
theorem cf92 : aE Tryz.prog 92 = some (rj 167 45) := by kernel_rfl
theorem s92 : BE.Spec (Pure Tryz.prog) 92 := BE.ok hm cf92 s167 s45
theorem cf94 : aE Tryz.prog 94 = some pF := by kernel_rfl
theorem s94 : xl.Spec (Pure Tryz.prog) 94 := xl.ok hm cf94
theorem cf96 : aE Tryz.prog 96 = some (tB 93 100) := by kernel_rfl
theorem Xw : Gi.Spec (Pure Tryz.prog) 96 := Gi.ok hm cf96 s93 Gw
theorem cf97 : aE Tryz.prog 97 = some (nY 80) := by kernel_rfl
theorem s97 : qi.Spec (Pure Tryz.prog) 97 := qi.ok hm cf97 s80
theorem cf98 : aE Tryz.prog 98 = some i6 := by kernel_rfl
theorem s98 : BO.Spec (Pure Tryz.prog) 98 := BO.ok hm cf98
theorem cf99 : aE Tryz.prog 99 = some (rm 100) := by kernel_rfl
theorem s99 : uk.Spec (Pure Tryz.prog) 99 := uk.ok hm cf99 Gw
theorem cf39 : aE Tryz.prog 39 = some (qY 90 91 92 93 94 45 80 95 96 97 98 99) := by kernel_rfl
theorem s39 : BP.Spec (Pure Tryz.prog) 39 := BP.ok hm cf39 s90 s91 s92 s93 s94 s45 s80 s95 Xw s97 s98 s99
theorem cf101 : aE Tryz.prog 101 = some (vp 80) := by kernel_rfl
theorem s101 : VY.Spec (Pure Tryz.prog) 101 := VY.ok hm cf101 s80
theorem cf102 : aE Tryz.prog 102 = some (o9 3 168) := by kernel_rfl
theorem s102 : vq.Spec (Pure Tryz.prog) 102 := vq.ok hm cf102 s168
theorem cf103 : aE Tryz.prog 103 = some (pG 102) := by kernel_rfl
theorem s103 : xk.Spec (Pure Tryz.prog) 103 := xk.ok hm cf103 s102
theorem cf40 : aE Tryz.prog 40 = some (mo 97 101 100 102 103 80) := by kernel_rfl
theorem s40 : Gt.Spec (Pure Tryz.prog) 40 := Gt.ok hm cf40 s97 s101 Gw s102 s103 s80
theorem cf104 : aE Tryz.prog 104 = some (lX 170) := by kernel_rfl
theorem s104 : each.Spec (Pure Tryz.prog) 104 := each.ok hm cf104 s170
theorem cf105 : aE Tryz.prog 105 = some (lU 104) := by kernel_rfl
theorem s105 : Live.Spec (Pure Tryz.prog) 105 := Live.ok hm cf105 s104
theorem cf107 : aE Tryz.prog 107 = some jP := by kernel_rfl
theorem s107 : Fp.Spec (Pure Tryz.prog) 107 := Fp.ok hm cf107
theorem cf106 : aE Tryz.prog 106 = some (kD 80) := by kernel_rfl
theorem PA : t6.Spec (Pure Tryz.prog) 106 := t6.ok hm cf106 s80
theorem cf41 : aE Tryz.prog 41 = some (lV 105 104 107 106) := by kernel_rfl
theorem s41 : LW.Spec (Pure Tryz.prog) 41 := LW.ok hm cf41 s105 s104 s107 PA
theorem cf108 : aE Tryz.prog 108 = some jo := by kernel_rfl
theorem s108 : AU.Spec (Pure Tryz.prog) 108 := AU.ok hm cf108
theorem cf42 : aE Tryz.prog 42 = some (kC 106 108 105 104) := by kernel_rfl
theorem s42 : Early.Spec (Pure Tryz.prog) 42 := Early.ok hm cf42 PA s108 s105 s104
theorem cf44 : aE Tryz.prog 44 = some nX := by kernel_rfl
theorem s44 : BR.Spec (Pure Tryz.prog) 44 := BR.ok hm cf44
theorem cf43 : aE Tryz.prog 43 = some (tv 99 102 100) := by kernel_rfl
theorem s43 : Gu.Spec (Pure Tryz.prog) 43 := Gu.ok hm cf43 s99 s102 Gw
theorem cf171 : aE Tryz.prog 171 = some pI := by kernel_rfl
theorem s171 : mA.Spec (Pure Tryz.prog) 171 := mA.ok hm cf171
theorem cf172 : aE Tryz.prog 172 = some vz := by kernel_rfl
theorem s172 : By.Spec (Pure Tryz.prog) 172 := By.ok hm cf172
theorem cf198 : aE Tryz.prog 198 = some tG := by kernel_rfl
theorem s198 : mA.Spec (Pure Tryz.prog) 198 := Pp.ok hm cf198
theorem cf173 : aE Tryz.prog 173 = some (tD 198) := by kernel_rfl
theorem s173 : uj.Spec (Pure Tryz.prog) 173 := uj.ok hm cf173 s198
theorem cf174 : aE Tryz.prog 174 = some nZ := by kernel_rfl
theorem s174 : xe.Spec (Pure Tryz.prog) 174 := xe.ok hm cf174
theorem cf175 : aE Tryz.prog 175 = some tE := by kernel_rfl
theorem s175 : Ga.Spec (Pure Tryz.prog) 175 := Ga.ok hm cf175
theorem cf176 : aE Tryz.prog 176 = some ry := by kernel_rfl
theorem s176 : vB.Spec (Pure Tryz.prog) 176 := vB.ok hm cf176
theorem cf110 : aE Tryz.prog 110 = some (jt 171 172 173 174 175 176) := by kernel_rfl
theorem s110 : yq.Spec (Pure Tryz.prog) 110 := yq.ok hm cf110 s171 s172 s173 s174 s175 s176
theorem cf46 : aE Tryz.prog 46 = some (pg 110) := by kernel_rfl
theorem s46 : BA.Spec (Pure Tryz.prog) 46 := BA.ok hm cf46 s110
theorem cf177 : aE Tryz.prog 177 = some kP := by kernel_rfl
theorem s177 : Gd.Spec (Pure Tryz.prog) 177 := Gd.ok hm cf177
theorem cf111 : aE Tryz.prog 111 = some (jY 171 177 173) := by kernel_rfl
theorem s111 : Ge.Spec (Pure Tryz.prog) 111 := Ge.ok hm cf111 s171 s177 s173
theorem cf199 : aE Tryz.prog 199 = some tH := by kernel_rfl
theorem s199 : Gb.Spec (Pure Tryz.prog) 199 := Gb.ok hm cf199
theorem cf200 : aE Tryz.prog 200 = some rz := by kernel_rfl
theorem s200 : Bx.Spec (Pure Tryz.prog) 200 := Bx.ok hm cf200
theorem cf178 : aE Tryz.prog 178 = some (tF 176 199 200) := by kernel_rfl
theorem s178 : Gc.Spec (Pure Tryz.prog) 178 := Gc.ok hm cf178 s176 s199 s200
theorem cf112 : aE Tryz.prog 112 = some (i7 177 178 110 171 176) := by kernel_rfl
theorem s112 : xh.Spec (Pure Tryz.prog) 112 := xh.ok hm cf112 s177 s178 s110 s171 s176
theorem cf113 : aE Tryz.prog 113 = some (iB 171 177) := by kernel_rfl
theorem s113 : tI.Spec (Pure Tryz.prog) 113 := tI.ok hm cf113 s171 s177
theorem cf114 : aE Tryz.prog 114 = some (iC 171 177) := by kernel_rfl
theorem S0 : tJ.Spec (Pure Tryz.prog) 114 := tJ.ok hm cf114 s171 s177
theorem cf47 : aE Tryz.prog 47 = some (pn 111 112 113 114) := by kernel_rfl
theorem s47 : Bz.Spec (Pure Tryz.prog) 47 := Bz.ok hm cf47 s111 s112 s113 S0
theorem cf115 : aE Tryz.prog 115 = some lY := by kernel_rfl
theorem s115 : AT.Spec (Pure Tryz.prog) 115 := AT.ok hm cf115
theorem cf48 : aE Tryz.prog 48 = some (lW 105 115 104) := by kernel_rfl
theorem s48 : AZ.Spec (Pure Tryz.prog) 48 := AZ.ok hm cf48 s105 s115 s104
theorem cf10 : aE Tryz.prog 10 = some (nS 31 33 32 35 36 34 37 38 39 40 41 42 44 43 45 46 47 48) := by kernel_rfl
theorem s10 : yx.Spec (Pure Tryz.prog) 10 := yx.ok hm cf10 s31 s33 s32 s35 s36 s34 s37 s38 s39 s40 s41 s42 s44 s43 s45 s46 s47 s48
theorem cf179 : aE Tryz.prog 179 = some kH := by kernel_rfl
theorem s179 : A6.Spec (Pure Tryz.prog) 179 := A6.ok hm cf179
theorem cf116 : aE Tryz.prog 116 = some (gC 179) := by kernel_rfl
theorem PB : J4.Spec (Pure Tryz.prog) 116 := J4.ok hm cf116 s179
theorem cf117 : aE Tryz.prog 117 = some fh := by kernel_rfl
theorem s117 : yd.Spec (Pure Tryz.prog) 117 := yd.ok hm cf117
theorem cf118 : aE Tryz.prog 118 = some (gD 100) := by kernel_rfl
theorem s118 : A7.Spec (Pure Tryz.prog) 118 := A7.ok hm cf118 Gw
theorem cf49 : aE Tryz.prog 49 = some (ff 116 117 118) := by kernel_rfl
theorem s49 : sY.Spec (Pure Tryz.prog) 49 := sY.ok hm cf49 PB s117 s118
theorem cf119 : aE Tryz.prog 119 = some (gE 117 116) := by kernel_rfl
theorem s119 : A9.Spec (Pure Tryz.prog) 119 := A9.ok hm cf119 s117 PB
theorem cf50 : aE Tryz.prog 50 = some (gB 119) := by kernel_rfl
theorem s50 : A8.Spec (Pure Tryz.prog) 50 := A8.ok hm cf50 s119
theorem cf11 : aE Tryz.prog 11 = some (iT 49 50) := by kernel_rfl
theorem s11 : kI.Spec (Pure Tryz.prog) 11 := kI.ok hm cf11 s49 s50
theorem cf12 : aE Tryz.prog 12 = some (kG 11) := by kernel_rfl
theorem s12 : J9.Spec (Pure Tryz.prog) 12 := J9.ok hm cf12 s11
theorem cf13 : aE Tryz.prog 13 = some (nH 11 58 12) := by kernel_rfl
theorem s13 : wG.Spec (Pure Tryz.prog) 13 := wG.ok hm cf13 s11 s12
theorem cf3 : aE Tryz.prog 3 = some (gN 6 7 8 9 58 10 11 12 13) := by kernel_rfl
theorem s3 : zR.Spec (Pure Tryz.prog) 3 := zR.ok hm cf3 s6 s7 s8 s9 s10 s11 s12 s13
theorem cf55 : aE Tryz.prog 55 = some rB := by kernel_rfl
theorem s55 : Cc.Spec (Pure Tryz.prog) 55 := Cc.ok hm cf55
theorem cf17 : aE Tryz.prog 17 = some (tO 55) := by kernel_rfl
theorem s17 : GG.Spec (Pure Tryz.prog) 17 := GG.ok hm cf17 s55
theorem cf53 : aE Tryz.prog 53 = some l7 := by kernel_rfl
theorem s53 : Bd.Spec (Pure Tryz.prog) 53 := Bd.ok hm cf53
theorem cf202 : aE Tryz.prog 202 = some eU := by kernel_rfl
theorem s202 : Bb.Spec (Pure Tryz.prog) 202 := Bb.ok hm cf202
theorem cf181 : aE Tryz.prog 181 = some (gk 201 202) := by kernel_rfl
theorem s181 : Mo.Spec (Pure Tryz.prog) 181 := Mo.ok hm cf181 s202
theorem cf125 : aE Tryz.prog 125 = some (ij 181) := by kernel_rfl
theorem s125 : CW.Spec (Pure Tryz.prog) 125 := CW.ok hm cf125 s181
theorem cf124 : aE Tryz.prog 124 = some (eJ 125) := by kernel_rfl
theorem s124 : Mp.Spec (Pure Tryz.prog) 124 := Mp.ok hm cf124 s125
theorem cf123 : aE Tryz.prog 123 = some ig := by kernel_rfl
theorem s123 : CX.Spec (Pure Tryz.prog) 123 := CX.ok hm cf123
theorem cf126 : aE Tryz.prog 126 = some (eK 125) := by kernel_rfl
theorem s126 : Mq.Spec (Pure Tryz.prog) 126 := Mq.ok hm cf126 s125
theorem cf128 : aE Tryz.prog 128 = some gj := by kernel_rfl
theorem s128 : ue.Spec (Pure Tryz.prog) 128 := ue.ok hm cf128
theorem cf182 : aE Tryz.prog 182 = some (eo 45 128) := by kernel_rfl
theorem s182 : FF.Spec (Pure Tryz.prog) 182 := FF.ok hm cf182 s45 s128
theorem cf129 : aE Tryz.prog 129 = some (eN 182 123) := by kernel_rfl
theorem s129 : Ke.Spec (Pure Tryz.prog) 129 := Ke.ok hm cf129 s182 s123
theorem cf127 : aE Tryz.prog 127 = some (eM 128 129) := by kernel_rfl
theorem s127 : Mr.Spec (Pure Tryz.prog) 127 := Mr.ok hm cf127 s128 s129
theorem cf130 : aE Tryz.prog 130 = some (eO 129) := by kernel_rfl
theorem s130 : Ms.Spec (Pure Tryz.prog) 130 := Ms.ok hm cf130 s129
theorem cf133 : aE Tryz.prog 133 = some fj := by kernel_rfl
theorem s133 : p5.Spec (Pure Tryz.prog) 133 := p5.ok hm cf133
theorem cf131 : aE Tryz.prog 131 = some (eP 133) := by kernel_rfl
theorem s131 : p6.Spec (Pure Tryz.prog) 131 := p6.ok hm cf131 s133
theorem cf132 : aE Tryz.prog 132 = some (eS 133) := by kernel_rfl
theorem s132 : Mt.Spec (Pure Tryz.prog) 132 := Mt.ok hm cf132 s133
theorem cf54 : aE Tryz.prog 54 = some (gi 124 123 126 127 130 131 132) := by kernel_rfl
theorem s54 : wJ.Spec (Pure Tryz.prog) 54 := wJ.ok hm cf54 s124 s123 s126 s127 s130 s131 s132
theorem cf16 : aE Tryz.prog 16 = some (l6 53 54) := by kernel_rfl
theorem s16 : yf.Spec (Pure Tryz.prog) 16 := yf.ok hm cf16 s53 s54
theorem cf56 : aE Tryz.prog 56 = some o7 := by kernel_rfl
theorem s56 : Be.Spec (Pure Tryz.prog) 56 := Be.ok hm cf56
theorem cf18 : aE Tryz.prog 18 = some (nK 56 16) := by kernel_rfl
theorem s18 : wM.Spec (Pure Tryz.prog) 18 := wM.ok hm cf18 s56 s16
theorem cf5 : aE Tryz.prog 5 = some (gO 6 7 8 10 17 16 18) := by kernel_rfl
theorem s5 : xB.Spec (Pure Tryz.prog) 5 := xB.ok hm cf5 s6 s7 s8 s10 s17 s16 s18
end Go.Proofs.YtdhlkekmkollhaaGreat
