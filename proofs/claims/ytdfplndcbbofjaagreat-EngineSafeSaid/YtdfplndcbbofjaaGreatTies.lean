/- The functions of this seat: their compiled code is what the library says of it, so that the contracts hold of them. -/
import Derived.Test.YtdfplndcbbofjaaGreatChecked
import Derived.Test.YtdfplndcbbofjaaGreatPk1
import Derived.Test.YtdfplndcbbofjaaGreatPk2
import Derived.Test.YtdfplndcbbofjaaGreatPk3
import Derived.Test.YtdfplndcbbofjaaGreatPk4
import Derived.Test.YtdfplndcbbofjaaGreatPk5
import Derived.Test.YtdfplndcbbofjaaGreatPk6
import Derived.Test.YtdfplndcbbofjaaGreatPk7
import Derived.Test.YtdfplndcbbofjaaGreatPk8
import Derived.Test.YtdfplndcbbofjaaGreatPk9
import Derived.Test.YtdfplndcbbofjaaGreatPk10
import Derived.Test.YtdfplndcbbofjaaGreatPk11
import Derived.Test.YtdfplndcbbofjaaGreatPk12
import Derived.Test.YtdfplndcbbofjaaGreatPk13
import Derived.Test.YtdfplndcbbofjaaGreatPk14
import Derived.Test.YtdfplndcbbofjaaGreatPk15
import Derived.Test.YtdfplndcbbofjaaGreatPk16
import Derived.Test.YtdfplndcbbofjaaGreatEach2
import Derived.Test.YtdfplndcbbofjaaGreatEach1
namespace Go.Proofs.YtdfplndcbbofjaaGreat
open Go.Eng
set_option maxRecDepth 100000
theorem hm : Tryz.prog.follows .mixedOrders = true := by kernel_rfl
theorem cf77 : aL Tryz.prog 77 = some qO := by kernel_rfl
theorem s77 : At.Spec (Pure Tryz.prog) 77 := At.ok hm cf77
theorem cf24 : aL Tryz.prog 24 = some mg := by kernel_rfl
theorem s24 : Place.Spec (Pure Tryz.prog) 24 := Place.ok hm cf24
theorem cf28 : aL Tryz.prog 28 = some (nK 77 24) := by kernel_rfl
theorem s28 : from.Spec (Pure Tryz.prog) 28 := from.ok hm cf28 s77 s24
theorem cf25 : aL Tryz.prog 25 = some (nJ 28 3 124) := by kernel_rfl
theorem s25 : rows.Spec (Pure Tryz.prog) 25 := rows.ok hm cf25 s28
theorem cf26 : aL Tryz.prog 26 = some (mh 28) := by kernel_rfl
theorem s26 : phase.Spec (Pure Tryz.prog) 26 := phase.ok hm cf26 s28
theorem cf164 : aL Tryz.prog 164 = some (mq 129) := by kernel_rfl
theorem s164 : bt.Spec (Pure Tryz.prog) 164 129 := bt.ok hm cf164
theorem cf76 : aL Tryz.prog 76 = some (mo 164) := by kernel_rfl
theorem s76 : where.Spec (Pure Tryz.prog) 76 := where.ok hm cf76 s164
theorem cf27 : aL Tryz.prog 27 = some (kI 76) := by kernel_rfl
theorem s27 : beside.Spec (Pure Tryz.prog) 27 := beside.ok hm cf27 s76
theorem cf20 : aL Tryz.prog 20 = some o6 := by kernel_rfl
theorem s20 : pE.Spec (Pure Tryz.prog) 20 := pE.ok hm cf20
theorem cf22 : aL Tryz.prog 22 = some (nO 20 3) := by kernel_rfl
theorem s22 : ni.Spec (Pure Tryz.prog) 22 3 := ni.ok hm cf22 s20
theorem cf78 : aL Tryz.prog 78 = some qN := by kernel_rfl
theorem s78 : y9.Spec (Pure Tryz.prog) 78 := y9.ok hm cf78
theorem cf29 : aL Tryz.prog 29 = some (nL 22 3 78) := by kernel_rfl
theorem s29 : pF.Spec (Pure Tryz.prog) 29 := pF.ok hm cf29 s22 s78
theorem cf30 : aL Tryz.prog 30 = some (jl 28) := by kernel_rfl
theorem s30 : qV.Spec (Pure Tryz.prog) 30 := qV.ok hm cf30 s28
theorem cf79 : aL Tryz.prog 79 = some (nP 3 78 27 29) := by kernel_rfl
theorem s79 : with.Spec (Pure Tryz.prog) 79 := with.ok hm cf79 s78 s27 s29
theorem cf31 : aL Tryz.prog 31 = some (nM 28 79) := by kernel_rfl
theorem s31 : JP.Spec (Pure Tryz.prog) 31 := JP.ok hm cf31 s28 s79
theorem cf134 : aL Tryz.prog 134 = some (qM 3 78) := by kernel_rfl
theorem s134_1 : on.Spec (Pure Tryz.prog) 134 := on.ok hm cf134 s78
theorem cf202 : aL Tryz.prog 202 = some pq := by kernel_rfl
theorem s202 : Cut.Spec (Pure Tryz.prog) 202 := Cut.ok hm cf202
theorem cf160 : aL Tryz.prog 160 = some (pg 202) := by kernel_rfl
theorem s160 : Cap.Spec (Pure Tryz.prog) 160 := Cap.ok hm cf160 s202
theorem cf215 : aL Tryz.prog 215 = some (pn 160) := by kernel_rfl
theorem s215 : Add.Spec (Pure Tryz.prog) 215 := Add.ok hm cf215 s160
theorem cf159 : aL Tryz.prog 159 = some (o9 215) := by kernel_rfl
theorem s159 : uP.Spec (Pure Tryz.prog) 159 := Sum.ok hm cf159 s215
theorem cf73 : aL Tryz.prog 73 = some (o7 159) := by kernel_rfl
theorem s73 : uP.Spec (Pure Tryz.prog) 73 := uP.ok hm cf73 s159
theorem cf162 : aL Tryz.prog 162 = some nV := by kernel_rfl
theorem s162 : most.Spec (Pure Tryz.prog) 162 := most.ok hm cf162
theorem cf214 : aL Tryz.prog 214 = some (mz 134 20 160 3 73 162) := by kernel_rfl
theorem s214 : serve.Spec (Pure Tryz.prog) 214 := serve.ok hm cf214 s134_1 s20 s160 s73 s162
theorem cf158 : aL Tryz.prog 158 = some (nU 3 164 214 73) := by kernel_rfl
theorem s158 : pass.Spec (Pure Tryz.prog) 158 := pass.ok hm cf158 s164 s214 s73
theorem cf72 : aL Tryz.prog 72 = some (nQ 76 134 20 158 3 73) := by kernel_rfl
theorem s72 : free.Spec (Pure Tryz.prog) 72 := free.ok hm cf72 s76 s134_1 s20 s158 s73
theorem cf163 : aL Tryz.prog 163 = some (mw 134 22 3 73 162) := by kernel_rfl
theorem s163 : clear.Spec (Pure Tryz.prog) 163 := clear.ok hm cf163 s134_1 s22 s73 s162
theorem cf161 : aL Tryz.prog 161 = some (mu 163 3 73) := by kernel_rfl
theorem s161 : entry.Spec (Pure Tryz.prog) 161 := entry.ok hm cf161 s163 s73
theorem cf75 : aL Tryz.prog 75 = some (nS 161 3 73 134 22 160 162 163) := by kernel_rfl
theorem s75 : v9.Spec (Pure Tryz.prog) 75 := v9.ok hm cf75 s161 s73 s134_1 s22 s160 s162 s163
theorem cf74 : aL Tryz.prog 74 = some (o8 160) := by kernel_rfl
theorem s74 : Mul.Spec (Pure Tryz.prog) 74 := Mul.ok hm cf74 s160
theorem cf23 : aL Tryz.prog 23 = some (nN 72 3 73 75 74) := by kernel_rfl
theorem s23 : wait.Spec (Pure Tryz.prog) 23 := wait.ok hm cf23 s72 s73 s75 s74
theorem cf8 : aL Tryz.prog 8 = some (me 25 26 27 28 29 30 89 31 92 96 23) := by kernel_rfl
theorem s8 : Table.Spec (Pure Tryz.prog) 8 := Table.ok hm cf8 s25 s26 s27 s28 s29 s30 s31 s23
theorem cf32 : aL Tryz.prog 32 = some rT := by kernel_rfl
theorem s32 : Is.Spec (Pure Tryz.prog) 32 := Is.ok hm cf32
theorem cf33 : aL Tryz.prog 33 = some rU := by kernel_rfl
theorem s33 : KI.Spec (Pure Tryz.prog) 33 := KI.ok hm cf33
theorem cf34 : aL Tryz.prog 34 = some jZ := by kernel_rfl
theorem s34 : KJ.Spec (Pure Tryz.prog) 34 := KJ.ok hm cf34
theorem cf9 : aL Tryz.prog 9 = some (lD 24 32 33 34 87 64) := by kernel_rfl
theorem s9 : wM.Spec (Pure Tryz.prog) 9 := wM.ok hm cf9 s24 s32 s33 s34
theorem cf82 : aL Tryz.prog 82 = some pR := by kernel_rfl
theorem s82 : zU.Spec (Pure Tryz.prog) 82 := zU.ok hm cf82
theorem cf35 : aL Tryz.prog 35 = some (mM 82) := by kernel_rfl
theorem s35 : vv.Spec (Pure Tryz.prog) 35 := vv.ok hm cf35 s82
theorem cf10 : aL Tryz.prog 10 = some (lf 35) := by kernel_rfl
theorem s10 : uY.Spec (Pure Tryz.prog) 10 := M1.ok hm cf10 s35
theorem cf14 : aL Tryz.prog 14 = some mS := by kernel_rfl
theorem s14 : sO.Spec (Pure Tryz.prog) 14 := sO.ok hm cf14
theorem cf83 : aL Tryz.prog 83 = some eJ := by kernel_rfl
theorem s83 : EA.Spec (Pure Tryz.prog) 83 := EA.ok hm cf83
theorem cf85 : aL Tryz.prog 85 = some gN := by kernel_rfl
theorem s85 : EC.Spec (Pure Tryz.prog) 85 := EC.ok hm cf85
theorem cf165 : aL Tryz.prog 165 = some oo := by kernel_rfl
theorem s165 : rW.Spec (Pure Tryz.prog) 165 := rW.ok hm cf165
theorem cf84 : aL Tryz.prog 84 = some (j7 165) := by kernel_rfl
theorem s84 : z9.Spec (Pure Tryz.prog) 84 := z9.ok hm cf84 s165
theorem cf92 : aL Tryz.prog 92 = some lz := by kernel_rfl
theorem s92 : wJ.Spec (Pure Tryz.prog) 92 := wJ.ok hm cf92
theorem cf86 : aL Tryz.prog 86 = some (od 92) := by kernel_rfl
theorem s86 : Aa.Spec (Pure Tryz.prog) 86 := Aa.ok hm cf86 s92
theorem cf166 : aL Tryz.prog 166 = some pV := by kernel_rfl
theorem s166 : rW.Spec (Pure Tryz.prog) 166 := PX.ok hm cf166
theorem cf87 : aL Tryz.prog 87 = some (pS 166) := by kernel_rfl
theorem s87 : Ab.Spec (Pure Tryz.prog) 87 := Ab.ok hm cf87 s166
theorem cf168 : aL Tryz.prog 168 = some nZ := by kernel_rfl
theorem s168 : zA.Spec (Pure Tryz.prog) 168 := zA.ok hm cf168
theorem cf89 : aL Tryz.prog 89 = some (lu 168) := by kernel_rfl
theorem s89 : vD.Spec (Pure Tryz.prog) 89 := vD.ok hm cf89 s168
theorem cf167 : aL Tryz.prog 167 = some pW := by kernel_rfl
theorem s167 : Ez.Spec (Pure Tryz.prog) 167 := Ez.ok hm cf167
theorem cf88 : aL Tryz.prog 88 = some (oe 167) := by kernel_rfl
theorem s88 : Ad.Spec (Pure Tryz.prog) 88 := Ad.ok hm cf88 s167
theorem cf38 : aL Tryz.prog 38 = some (mN 83 32 85 84 86 87 89 88 81) := by kernel_rfl
theorem s38 : Ae.Spec (Pure Tryz.prog) 38 := Ae.ok hm cf38 s83 s32 s85 s84 s86 s87 s89 s88
theorem cf93 : aL Tryz.prog 93 = some og := by kernel_rfl
theorem s93 : vC.Spec (Pure Tryz.prog) 93 := vC.ok hm cf93
theorem cf122 : aL Tryz.prog 122 = some tJ := by kernel_rfl
theorem s122 : bit.Spec (Pure Tryz.prog) 122 := bit.ok hm cf122
theorem cf70 : aL Tryz.prog 70 = some (qP 122) := by kernel_rfl
theorem s70 : gw.Spec (Pure Tryz.prog) 70 := gw.ok hm cf70 s122
theorem cf40 : aL Tryz.prog 40 = some (mO 92 93 70) := by kernel_rfl
theorem s40 : Ag.Spec (Pure Tryz.prog) 40 := Ag.ok hm cf40 s92 s93 s70
theorem cf51 : aL Tryz.prog 51 = some (tI 122) := by kernel_rfl
theorem s51 : kN.Spec (Pure Tryz.prog) 51 := kN.ok hm cf51 s122
theorem cf91 : aL Tryz.prog 91 = some (kM 51) := by kernel_rfl
theorem s91 : Dq.Spec (Pure Tryz.prog) 91 := Dq.ok hm cf91 s51
theorem cf90 : aL Tryz.prog 90 = some (mj 70) := by kernel_rfl
theorem s90 : yX.Spec (Pure Tryz.prog) 90 := yX.ok hm cf90 s70
theorem cf39 : aL Tryz.prog 39 = some (nI 91 90) := by kernel_rfl
theorem s39 : HP.Spec (Pure Tryz.prog) 39 := HP.ok hm cf39 s91 s90
theorem cf16 : aL Tryz.prog 16 = some (lg 70) := by kernel_rfl
theorem s16 : p4.Spec (Pure Tryz.prog) 16 := p4.ok hm cf16 s70
theorem cf42 : aL Tryz.prog 42 = some (lp 70) := by kernel_rfl
theorem s42 : vG.Spec (Pure Tryz.prog) 42 := vG.ok hm cf42 s70
theorem cf94 : aL Tryz.prog 94 = some (kJ 51) := by kernel_rfl
theorem s94 : Dr.Spec (Pure Tryz.prog) 94 := Dr.ok hm cf94 s51
theorem cf95 : aL Tryz.prog 95 = some (kK 51) := by kernel_rfl
theorem s95 : Dt.Spec (Pure Tryz.prog) 95 := Dt.ok hm cf95 s51
theorem cf41 : aL Tryz.prog 41 = some (nG 94 95 90) := by kernel_rfl
theorem s41 : Step.Spec (Pure Tryz.prog) 41 := Step.ok hm cf41 s94 s95 s90
theorem cf96 : aL Tryz.prog 96 = some (kL 51) := by kernel_rfl
theorem UH : Du.Spec (Pure Tryz.prog) 96 := Du.ok hm cf96 s51
theorem cf43 : aL Tryz.prog 43 = some (nH 39 96 90) := by kernel_rfl
theorem s43 : Want.Spec (Pure Tryz.prog) 43 := Want.ok hm cf43 s39 UH s90
theorem cf169 : aL Tryz.prog 169 = some jU := by kernel_rfl
theorem s169 : t6.Spec (Pure Tryz.prog) 169 := t6.ok hm cf169
theorem cf97 : aL Tryz.prog 97 = some (jT 169) := by kernel_rfl
theorem s97 : zN.Spec (Pure Tryz.prog) 97 := zN.ok hm cf97 s169
theorem cf170 : aL Tryz.prog 170 = some ir := by kernel_rfl
theorem s170 : Ed.Spec (Pure Tryz.prog) 170 := Ed.ok hm cf170
theorem cf171 : aL Tryz.prog 171 = some iu := by kernel_rfl
theorem s171 : Ee.Spec (Pure Tryz.prog) 171 := Ee.ok hm cf171
theorem cf183 : aL Tryz.prog 183 = some (iy 169) := by kernel_rfl
theorem s183 : jG.Spec (Pure Tryz.prog) 183 := jG.ok hm cf183 s169
theorem cf182 : aL Tryz.prog 182 = some (gn 183) := by kernel_rfl
theorem s182 : Ip.Spec (Pure Tryz.prog) 182 := Ip.ok hm cf182 s183
theorem s191 : Go.Eng.rA.Spec (Go.Eng.Pure Tryz.prog) 191 := Go.Eng.rA.of (by kernel_rfl) (setEach_some (Go.Eng.xV.of s51))
theorem cf113 : aL Tryz.prog 113 = some (rz 191) := by kernel_rfl
theorem s113 : tW.Spec (Pure Tryz.prog) 113 := setEach.ok hm cf113 s191
theorem cf184 : aL Tryz.prog 184 = some (gM 113 70) := by kernel_rfl
theorem s184 : k9.Spec (Pure Tryz.prog) 184 := k9.ok hm cf184 s113 s70
theorem cf222 : aL Tryz.prog 222 = some mH := by kernel_rfl
theorem s222 : FC.Spec (Pure Tryz.prog) 222 := FC.ok hm cf222
theorem cf185 : aL Tryz.prog 185 = some (jV 222) := by kernel_rfl
theorem s185 : wF.Spec (Pure Tryz.prog) 185 := wF.ok hm cf185 s222
theorem cf217 : aL Tryz.prog 217 = some (iz 184 185) := by kernel_rfl
theorem s217 : xB.Spec (Pure Tryz.prog) 217 := xB.ok hm cf217 s184 s185
theorem cf172 : aL Tryz.prog 172 = some (gj 182 217 183) := by kernel_rfl
theorem s172 : vl.Spec (Pure Tryz.prog) 172 := vl.ok hm cf172 s182 s217 s183
theorem cf220 : aL Tryz.prog 220 = some (iA 183) := by kernel_rfl
theorem s220 : Bm.Spec (Pure Tryz.prog) 220 := Bm.ok hm cf220 s183
theorem cf224 : aL Tryz.prog 224 = some (gu 220) := by kernel_rfl
theorem s224 : zP.Spec (Pure Tryz.prog) 224 := zP.ok hm cf224 s220
theorem cf225 : aL Tryz.prog 225 = some ju := by kernel_rfl
theorem s225 : vg.Spec (Pure Tryz.prog) 225 := vg.ok hm cf225
theorem cf181 : aL Tryz.prog 181 = some (iw 224 184 225) := by kernel_rfl
theorem s181 : Bn.Spec (Pure Tryz.prog) 181 := Bn.ok hm cf181 s224 s184 s225
theorem cf100 : aL Tryz.prog 100 = some (gI 182 183 181) := by kernel_rfl
theorem M3 : wG.Spec (Pure Tryz.prog) 100 := wG.ok hm cf100 s182 s183 s181
theorem cf173 : aL Tryz.prog 173 = some (gk 183) := by kernel_rfl
theorem s173 : vm.Spec (Pure Tryz.prog) 173 := vm.ok hm cf173 s183
theorem cf232 : aL Tryz.prog 232 = some (eS 222 217) := by kernel_rfl
theorem s232 : vk.Spec (Pure Tryz.prog) 232 := vk.ok hm cf232 s222 s217
theorem cf218 : aL Tryz.prog 218 = some (gq 232 184) := by kernel_rfl
theorem s218 : sL.Spec (Pure Tryz.prog) 218 := sL.ok hm cf218 s232 s184
theorem cf174 : aL Tryz.prog 174 = some (gJ 183 218) := by kernel_rfl
theorem s174 : zQ.Spec (Pure Tryz.prog) 174 := zQ.ok hm cf174 s183 s218
theorem cf175 : aL Tryz.prog 175 = some (eO 183 217) := by kernel_rfl
theorem s175 : oR.Spec (Pure Tryz.prog) 175 := oR.ok hm cf175 s183 s217
theorem cf219 : aL Tryz.prog 219 = some (eI 220) := by kernel_rfl
theorem s219 : Ef.Spec (Pure Tryz.prog) 219 := Ef.ok hm cf219 s220
theorem cf176 : aL Tryz.prog 176 = some (fm 183 181 219 184) := by kernel_rfl
theorem s176 : rF.Spec (Pure Tryz.prog) 176 := rF.ok hm cf176 s183 s181 s219 s184
theorem cf99 : aL Tryz.prog 99 = some (jS 169) := by kernel_rfl
theorem s99 : wD.Spec (Pure Tryz.prog) 99 := wD.ok hm cf99 s169
theorem cf177 : aL Tryz.prog 177 = some (gl 183 99) := by kernel_rfl
theorem s177 : vn.Spec (Pure Tryz.prog) 177 := vn.ok hm cf177 s183 s99
theorem cf178 : aL Tryz.prog 178 = some (gK 183 218) := by kernel_rfl
theorem s178 : zR.Spec (Pure Tryz.prog) 178 := zR.ok hm cf178 s183 s218
theorem cf221 : aL Tryz.prog 221 = some (eP 222) := by kernel_rfl
theorem s221 : rG.Spec (Pure Tryz.prog) 221 := rG.ok hm cf221 s222
theorem cf179 : aL Tryz.prog 179 = some (gm 183 221 184 217) := by kernel_rfl
theorem s179 : vo.Spec (Pure Tryz.prog) 179 := vo.ok hm cf179 s183 s221 s184 s217
theorem cf223 : aL Tryz.prog 223 = some fq := by kernel_rfl
theorem s223 : vp.Spec (Pure Tryz.prog) 223 := vp.ok hm cf223
theorem cf180 : aL Tryz.prog 180 = some (gL 183 223 184) := by kernel_rfl
theorem s180 : zS.Spec (Pure Tryz.prog) 180 := zS.ok hm cf180 s183 s223 s184
theorem cf98 : aL Tryz.prog 98 = some (jt 170 171 172 100 173 174 175 176 177 178 179 180) := by kernel_rfl
theorem s98 : vq.Spec (Pure Tryz.prog) 98 := vq.ok hm cf98 s170 s171 s172 M3 s173 s174 s175 s176 s177 s178 s179 s180
theorem cf101 : aL Tryz.prog 101 = some (ij 183 184 185) := by kernel_rfl
theorem s101 : Eg.Spec (Pure Tryz.prog) 101 := Eg.ok hm cf101 s183 s184 s185
theorem cf226 : aL Tryz.prog 226 = some iX := by kernel_rfl
theorem s226 : rE.Spec (Pure Tryz.prog) 226 := rE.ok hm cf226
theorem cf186 : aL Tryz.prog 186 = some (gp 184 226) := by kernel_rfl
theorem s186 : vh.Spec (Pure Tryz.prog) 186 := vh.ok hm cf186 s184 s226
theorem cf187 : aL Tryz.prog 187 = some kZ := by kernel_rfl
theorem s187 : D8.Spec (Pure Tryz.prog) 187 := D8.ok hm cf187
theorem cf102 : aL Tryz.prog 102 = some (iq 183 186 187) := by kernel_rfl
theorem s102 : Eh.Spec (Pure Tryz.prog) 102 := Eh.ok hm cf102 s183 s186 s187
theorem cf44 : aL Tryz.prog 44 = some (kY 97 98 99 100 101 102) := by kernel_rfl
theorem s44 : Ei.Spec (Pure Tryz.prog) 44 := Ei.ok hm cf44 s97 s98 s99 M3 s101 s102
theorem cf106 : aL Tryz.prog 106 = some rJ := by kernel_rfl
theorem KC : z7.Spec (Pure Tryz.prog) 106 := z7.ok hm cf106
theorem cf189 : aL Tryz.prog 189 = some rL := by kernel_rfl
theorem s189 : Bp.Spec (Pure Tryz.prog) 189 := Bp.ok hm cf189
theorem cf190 : aL Tryz.prog 190 = some (wA 122) := by kernel_rfl
theorem s190 : setOf.Spec (Pure Tryz.prog) 190 := setOf.ok hm cf190 s122
theorem cf227 : aL Tryz.prog 227 = some (lB 189 190) := by kernel_rfl
theorem s227 : Et.Spec (Pure Tryz.prog) 227 := Et.ok hm cf227 s189 s190
theorem cf188 : aL Tryz.prog 188 = some (jx 227) := by kernel_rfl
theorem s188 : Eu.Spec (Pure Tryz.prog) 188 := Eu.ok hm cf188 s227
theorem cf103 : aL Tryz.prog 103 = some (lA 106 188) := by kernel_rfl
theorem s103 : vE.Spec (Pure Tryz.prog) 103 := vE.ok hm cf103 KC s188
theorem cf108 : aL Tryz.prog 108 = some (t9 3 190) := by kernel_rfl
theorem s108 : Ir.Spec (Pure Tryz.prog) 108 := Ir.ok hm cf108 s190
theorem cf104 : aL Tryz.prog 104 = some (rI 108) := by kernel_rfl
theorem s104 : Ev.Spec (Pure Tryz.prog) 104 := Ev.ok hm cf104 s108
theorem cf105 : aL Tryz.prog 105 = some (pT 189 51) := by kernel_rfl
theorem s105 : z6.Spec (Pure Tryz.prog) 105 := z6.ok hm cf105 s189 s51
theorem cf107 : aL Tryz.prog 107 = some oh := by kernel_rfl
theorem s107 : vB.Spec (Pure Tryz.prog) 107 := vB.ok hm cf107
theorem cf109 : aL Tryz.prog 109 = some (rK 106 113) := by kernel_rfl
theorem s109 : Ew.Spec (Pure Tryz.prog) 109 := Ew.ok hm cf109 KC s113
theorem cf110 : aL Tryz.prog 110 = some (mQ 70) := by kernel_rfl
theorem s110 : oS.Spec (Pure Tryz.prog) 110 := oS.ok hm cf110 s70
theorem cf111 : aL Tryz.prog 111 = some iC := by kernel_rfl
theorem s111 : Ah.Spec (Pure Tryz.prog) 111 := Ah.ok hm cf111
theorem cf112 : aL Tryz.prog 112 = some (pU 113) := by kernel_rfl
theorem s112 : sN.Spec (Pure Tryz.prog) 112 := sN.ok hm cf112 s113
theorem cf45 : aL Tryz.prog 45 = some (pQ 103 104 105 106 107 51 70 108 109 110 111 112) := by kernel_rfl
theorem s45 : Ai.Spec (Pure Tryz.prog) 45 := Ai.ok hm cf45 s103 s104 s105 KC s107 s51 s70 s108 s109 s110 s111 s112
theorem cf114 : aL Tryz.prog 114 = some (tY 70) := by kernel_rfl
theorem P1 : Tc.Spec (Pure Tryz.prog) 114 := Tc.ok hm cf114 s70
theorem cf115 : aL Tryz.prog 115 = some (n9 3 190) := by kernel_rfl
theorem s115 : tZ.Spec (Pure Tryz.prog) 115 := tZ.ok hm cf115 s190
theorem cf116 : aL Tryz.prog 116 = some (om 115) := by kernel_rfl
theorem P2 : vA.Spec (Pure Tryz.prog) 116 := vA.ok hm cf116 s115
theorem cf46 : aL Tryz.prog 46 = some (lq 110 114 113 115 116 70) := by kernel_rfl
theorem s46 : EG.Spec (Pure Tryz.prog) 46 := EG.ok hm cf46 s110 P1 s113 s115 P2 s70
theorem cf117 : aL Tryz.prog 117 = some (kU 192) := by kernel_rfl
theorem s117 : each.Spec (Pure Tryz.prog) 117 := each.ok hm cf117 s192
theorem cf118 : aL Tryz.prog 118 = some (kR 117) := by kernel_rfl
theorem s118 : Live.Spec (Pure Tryz.prog) 118 := Live.ok hm cf118 s117
theorem cf120 : aL Tryz.prog 120 = some jr := by kernel_rfl
theorem s120 : DJ.Spec (Pure Tryz.prog) 120 := DJ.ok hm cf120
theorem cf119 : aL Tryz.prog 119 = some (jP 70) := by kernel_rfl
theorem s119 : sF.Spec (Pure Tryz.prog) 119 := sF.ok hm cf119 s70
theorem cf47 : aL Tryz.prog 47 = some (kS 118 117 120 119) := by kernel_rfl
theorem s47 : JU.Spec (Pure Tryz.prog) 47 := JU.ok hm cf47 s118 s117 s120 s119
theorem cf121 : aL Tryz.prog 121 = some iW := by kernel_rfl
theorem s121 : zo.Spec (Pure Tryz.prog) 121 := zo.ok hm cf121
theorem cf48 : aL Tryz.prog 48 = some (jO 119 121 118 117) := by kernel_rfl
theorem s48 : Early.Spec (Pure Tryz.prog) 48 := Early.ok hm cf48 s119 s121 s118 s117
theorem cf50 : aL Tryz.prog 50 = some mP := by kernel_rfl
theorem s50 : Ak.Spec (Pure Tryz.prog) 50 := Ak.ok hm cf50
theorem cf49 : aL Tryz.prog 49 = some (rH 112 115 113) := by kernel_rfl
theorem s49 : EH.Spec (Pure Tryz.prog) 49 := EH.ok hm cf49 s112 s115 s113
theorem cf193 : aL Tryz.prog 193 = some oq := by kernel_rfl
theorem s193 : lC.Spec (Pure Tryz.prog) 193 := lC.ok hm cf193
theorem cf194 : aL Tryz.prog 194 = some uc := by kernel_rfl
theorem s194 : zW.Spec (Pure Tryz.prog) 194 := zW.ok hm cf194
theorem cf228 : aL Tryz.prog 228 = some rP := by kernel_rfl
theorem s228 : lC.Spec (Pure Tryz.prog) 228 := MT.ok hm cf228
theorem cf195 : aL Tryz.prog 195 = some (rM 228) := by kernel_rfl
theorem s195 : sM.Spec (Pure Tryz.prog) 195 := sM.ok hm cf195 s228
theorem cf196 : aL Tryz.prog 196 = some mR := by kernel_rfl
theorem s196 : vu.Spec (Pure Tryz.prog) 196 := vu.ok hm cf196
theorem cf197 : aL Tryz.prog 197 = some rN := by kernel_rfl
theorem s197 : En.Spec (Pure Tryz.prog) 197 := En.ok hm cf197
theorem cf198 : aL Tryz.prog 198 = some pX := by kernel_rfl
theorem s198 : ue.Spec (Pure Tryz.prog) 198 := ue.ok hm cf198
theorem cf123 : aL Tryz.prog 123 = some (iZ 193 194 195 196 197 198) := by kernel_rfl
theorem s123 : wI.Spec (Pure Tryz.prog) 123 := wI.ok hm cf123 s193 s194 s195 s196 s197 s198
theorem cf52 : aL Tryz.prog 52 = some (ob 123) := by kernel_rfl
theorem s52 : zY.Spec (Pure Tryz.prog) 52 := zY.ok hm cf52 s123
theorem cf199 : aL Tryz.prog 199 = some jX := by kernel_rfl
theorem s199 : Er.Spec (Pure Tryz.prog) 199 := Er.ok hm cf199
theorem cf124 : aL Tryz.prog 124 = some (jw 193 199 195) := by kernel_rfl
theorem s124 : Es.Spec (Pure Tryz.prog) 124 := Es.ok hm cf124 s193 s199 s195
theorem cf229 : aL Tryz.prog 229 = some rQ := by kernel_rfl
theorem s229 : Eo.Spec (Pure Tryz.prog) 229 := Eo.ok hm cf229
theorem cf230 : aL Tryz.prog 230 = some pY := by kernel_rfl
theorem s230 : zV.Spec (Pure Tryz.prog) 230 := zV.ok hm cf230
theorem cf200 : aL Tryz.prog 200 = some (rO 198 229 230) := by kernel_rfl
theorem s200 : Ep.Spec (Pure Tryz.prog) 200 := Ep.ok hm cf200 s198 s229 s230
theorem cf125 : aL Tryz.prog 125 = some (iD 199 200 123 193 198) := by kernel_rfl
theorem s125 : vw.Spec (Pure Tryz.prog) 125 := vw.ok hm cf125 s199 s200 s123 s193 s198
theorem cf126 : aL Tryz.prog 126 = some (gO 193 199) := by kernel_rfl
theorem s126 : rR.Spec (Pure Tryz.prog) 126 := rR.ok hm cf126 s193 s199
theorem cf127 : aL Tryz.prog 127 = some (gP 193 199) := by kernel_rfl
theorem s127 : rS.Spec (Pure Tryz.prog) 127 := rS.ok hm cf127 s193 s199
theorem cf53 : aL Tryz.prog 53 = some (oc 124 125 126 127) := by kernel_rfl
theorem s53 : zX.Spec (Pure Tryz.prog) 53 := zX.ok hm cf53 s124 s125 s126 s127
theorem cf128 : aL Tryz.prog 128 = some kV := by kernel_rfl
theorem s128 : zn.Spec (Pure Tryz.prog) 128 := zn.ok hm cf128
theorem cf54 : aL Tryz.prog 54 = some (kT 118 128 117) := by kernel_rfl
theorem s54 : zx.Spec (Pure Tryz.prog) 54 := zx.ok hm cf54 s118 s128 s117
theorem cf13 : aL Tryz.prog 13 = some (mL 38 40 39 16 42 41 43 44 45 46 47 48 50 49 51 52 53 54) := by kernel_rfl
theorem s13 : ug.Spec (Pure Tryz.prog) 13 := ug.ok hm cf13 s38 s40 s39 s16 s42 s41 s43 s44 s45 s46 s47 s48 s50 s49 s51 s52 s53 s54
theorem cf18 : aL Tryz.prog 18 = some (mT 3 124 10 16 13) := by kernel_rfl
theorem s18 : sP.Spec (Pure Tryz.prog) 18 := sP.ok hm cf18 s10 s16 s13
theorem cf5 : aL Tryz.prog 5 = some (iF 8 9 10 14 13 16 22 18) := by kernel_rfl
theorem s5 : CI.Spec (Pure Tryz.prog) 5 := CI.ok hm cf5 s8 s9 s10 s14 s13 s16 s22 s18
theorem cf71 : aL Tryz.prog 71 = some pO := by kernel_rfl
theorem s71 : Ek.Spec (Pure Tryz.prog) 71 := Ek.ok hm cf71
theorem cf19 : aL Tryz.prog 19 = some (oa 71 29) := by kernel_rfl
theorem s19 : zT.Spec (Pure Tryz.prog) 19 := zT.ok hm cf19 s71 s29
theorem cf21 : aL Tryz.prog 21 = some (mF 20) := by kernel_rfl
theorem s21 : uZ.Spec (Pure Tryz.prog) 21 := uZ.ok hm cf21 s20
theorem cf4 : aL Tryz.prog 4 = some (iE 8 9 10 14 13 19 20 21 18) := by kernel_rfl
theorem s4 : CN.Spec (Pure Tryz.prog) 4 := CN.ok hm cf4 s8 s9 s10 s14 s13 s19 s20 s21 s18
end Go.Proofs.YtdfplndcbbofjaaGreat
