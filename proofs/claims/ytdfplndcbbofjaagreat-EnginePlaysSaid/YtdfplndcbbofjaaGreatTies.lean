/- The functions of this seat: their compiled code is what the library says of it, so that the contracts hold of them. -/
import Derived.Test.YtdfplndcbbofjaaGreatChecked
import Derived.Test.YtdfplndcbbofjaaGreatPk21
import Derived.Test.YtdfplndcbbofjaaGreatEach2
import Derived.Test.YtdfplndcbbofjaaGreatEach1
namespace Go.Proofs.YtdfplndcbbofjaaGreat
open Go.Eng
set_option maxRecDepth 100000
theorem hm:Tryz.prog.follows .mixedOrders=true:=by kernel_rfl
abbrev PurP:=Pure Tryz.prog
theorem kr{p:Prop} (h:p:=by kernel_rfl):p:=h
theorem an{a b:Bool} (h:a=true) (k:b=true):(a&&b)=true:=by rw[h,k];rfl
theorem g2:mapsRowed Tryz.prog=true:=kr
theorem g3:Tryz.prog.stopsHeard=true:=kr
theorem g4:Tryz.prog.mayEnter=true:=kr
theorem s77:At.Spec PurP 77:=At.ok hm kr
theorem s24:Place.Spec PurP 24:=Place.ok hm kr
theorem s28:from.Spec PurP 28:=from.ok hm kr s77 s24
theorem cf25:bu Tryz.prog 25=some (pH 28 3 124):=by kernel_rfl
theorem s25:rows.Spec PurP 25:=rows.ok hm cf25 s28
theorem s26:phase.Spec PurP 26:=phase.ok hm kr s28
theorem s164:aS.Spec PurP 164 129:=aS.ok hm kr
theorem s76:where.Spec PurP 76:=where.ok hm kr s164
theorem s27:beside.Spec PurP 27:=beside.ok hm kr s76
theorem s20:jm.Spec PurP 20:=jm.ok hm kr
theorem s22:gE.Spec PurP 22 3:=gE.ok hm kr s20
theorem s78:zA.Spec PurP 78:=zA.ok hm kr
theorem s29:fJ.Spec PurP 29:=fJ.ok hm kr s22 s78
theorem s30:uo.Spec PurP 30:=uo.ok hm kr s28
theorem cf79:bu Tryz.prog 79=some (pJ 3 78 27 29):=by kernel_rfl
theorem s79:with.Spec PurP 79:=with.ok hm cf79 s78 s27 s29
theorem s31:QX.Spec PurP 31:=QX.ok hm kr s28 s79
theorem cf134:bu Tryz.prog 134=some (l8 3 78):=by kernel_rfl
theorem s134_1:on.Spec PurP 134:=on.ok hm cf134 s78
theorem s202_1:Cut.Spec PurP 202:=Cut.ok hm kr
theorem s160:Cap.Spec PurP 160:=Cap.ok hm kr s202_1
theorem s215:Add.Spec PurP 215:=Add.ok hm kr s160
theorem s159:zB.Spec PurP 159:=Sum.ok hm kr s215
theorem s73:zB.Spec PurP 73:=zB.ok hm kr s159
theorem s162:most.Spec PurP 162:=most.ok hm kr
theorem cf214:bu Tryz.prog 214=some (nY 134 20 160 3 73 162):=by kernel_rfl
theorem s214:serve.Spec PurP 214:=serve.ok hm cf214 s134_1 s20 s160 s73 s162
theorem cf158:bu Tryz.prog 158=some (pL 3 164 214 73):=by kernel_rfl
theorem s158:pass.Spec PurP 158:=pass.ok hm cf158 s164 s214 s73
theorem cf72:bu Tryz.prog 72=some (pK 76 134 20 158 3 73):=by kernel_rfl
theorem s72:free.Spec PurP 72:=free.ok hm cf72 s76 s134_1 s20 s158 s73
theorem s163:clear.Spec PurP 163:=clear.ok hm kr s134_1 s22 s73 s162
theorem cf161:bu Tryz.prog 161=some (nX 163 3 73):=by kernel_rfl
theorem s161:entry.Spec PurP 161:=entry.ok hm cf161 s163 s73
theorem s75:El.Spec PurP 75:=El.ok hm kr s161 s73 s134_1 s22 s160 s162 s163
theorem s74:Mul.Spec PurP 74:=Mul.ok hm kr s160
theorem cf23:bu Tryz.prog 23=some (pI 72 3 73 75 74):=by kernel_rfl
theorem s23:wait.Spec PurP 23:=wait.ok hm cf23 s72 s73 s75 s74
theorem cf8:bu Tryz.prog 8=some (nW 25 26 27 28 29 30 89 31 92 96 23):=by kernel_rfl
theorem s8:Table.Spec PurP 8:=Table.ok hm cf8 s25 s26 s27 s28 s29 s30 s31 s23
theorem s32:LW.Spec PurP 32:=LW.ok hm kr
theorem s33:RU.Spec PurP 33:=RU.ok hm kr
theorem s34:RZ.Spec PurP 34:=RZ.ok hm kr
theorem cf9:bu Tryz.prog 9=some (mQ 24 32 33 34 87 64):=by kernel_rfl
theorem s9:Fj.Spec PurP 9:=Fj.ok hm cf9 s24 s32 s33 s34
theorem s82:E4.Spec PurP 82:=E4.ok hm kr
theorem s35:Ak.Spec PurP 35:=Ak.ok hm kr s82
theorem s10:nu.Spec PurP 10:=Vj.ok hm kr s35
theorem s36:zK.Spec PurP 36:=zK.ok hm kr
theorem s11:nu.Spec PurP 11:=nu.ok hm kr s36
theorem s37:Fo.Spec PurP 37:=Fo.ok hm kr
theorem s12:Fp.Spec PurP 12:=Fp.ok hm kr s37
theorem s14:Ay.Spec PurP 14:=Ay.ok hm kr
theorem s83:Kl.Spec PurP 83:=Kl.ok hm kr
theorem s85:Km.Spec PurP 85:=Km.ok hm kr
theorem s165:iy.Spec PurP 165:=iy.ok hm kr
theorem s84:u9.Spec PurP 84:=u9.ok hm kr s165
theorem s92:pX.Spec PurP 92:=pX.ok hm kr
theorem s86:vc.Spec PurP 86:=vc.ok hm kr s92
theorem s166:iy.Spec PurP 166:=Ze.ok hm kr
theorem s87:ve.Spec PurP 87:=ve.ok hm kr s166
theorem s168:EA.Spec PurP 168:=EA.ok hm kr
theorem s89:Ar.Spec PurP 89:=Ar.ok hm kr s168
theorem s167:Kk.Spec PurP 167:=Kk.ok hm kr
theorem s88:vf.Spec PurP 88:=vf.ok hm kr s167
theorem cf38:bu Tryz.prog 38=some (oh 83 32 85 84 86 87 89 88 81):=by kernel_rfl
theorem s38:vg.Spec PurP 38:=vg.ok hm cf38 s83 s32 s85 s84 s86 s87 s89 s88
theorem s93:o8.Spec PurP 93:=o8.ok hm kr
theorem s122:bit.Spec PurP 122:=bit.ok hm kr
theorem s70:iq.Spec PurP 70:=iq.ok hm kr s122
theorem s40:vh.Spec PurP 40:=vh.ok hm kr s92 s93 s70
theorem s51:lE.Spec PurP 51:=lE.ok hm kr s122
theorem s91:Jp.Spec PurP 91:=Jp.ok hm kr s51
theorem s90:Co.Spec PurP 90:=Co.ok hm kr s70
theorem s39:FY.Spec PurP 39:=FY.ok hm kr s91 s90
theorem s16:sA.Spec PurP 16:=sA.ok hm kr s70
theorem s42:Aq.Spec PurP 42:=Aq.ok hm kr s70
theorem s94:Jq.Spec PurP 94:=Jq.ok hm kr s51
theorem s95:Js.Spec PurP 95:=Js.ok hm kr s51
theorem s41:Step.Spec PurP 41:=Step.ok hm kr s94 s95 s90
theorem s96:Jt.Spec PurP 96:=Jt.ok hm kr s51
theorem s43:Want.Spec PurP 43:=Want.ok hm kr s39 s96 s90
theorem s169:yF.Spec PurP 169:=yF.ok hm kr
theorem s97:uJ.Spec PurP 97:=uJ.ok hm kr s169
theorem s170:J6.Spec PurP 170:=J6.ok hm kr
theorem s171:J7.Spec PurP 171:=J7.ok hm kr
theorem s183:lg.Spec PurP 183:=lg.ok hm kr s169
theorem s182:OQ.Spec PurP 182:=OQ.ok hm kr s183
theorem s191:Go.Eng.uD.Spec (Go.Eng.Pure Tryz.prog) 191:=Go.Eng.uD.of (by kernel_rfl) (setEach_some (Go.Eng.Du.of s51))
theorem s113:yy.Spec PurP 113:=setEach.ok hm kr s191
theorem s184:mO.Spec PurP 184:=mO.ok hm kr s113 s70
theorem s222:LP.Spec PurP 222:=LP.ok hm kr
theorem s185:BB.Spec PurP 185:=BB.ok hm kr s222
theorem s217:CE.Spec PurP 217:=CE.ok hm kr s184 s185
theorem s172:zW.Spec PurP 172:=zW.ok hm kr s182 s217 s183
theorem s220:GM.Spec PurP 220:=GM.ok hm kr s183
theorem s224:EX.Spec PurP 224:=EX.ok hm kr s220
theorem s225:zT.Spec PurP 225:=zT.ok hm kr
theorem s181:GN.Spec PurP 181:=GN.ok hm kr s224 s184 s225
theorem RJ:BC.Spec PurP 100:=BC.ok hm kr s182 s183 s181
theorem s173:zX.Spec PurP 173:=zX.ok hm kr s183
theorem s232:zV.Spec PurP 232:=zV.ok hm kr s222 s217
theorem s218:wj.Spec PurP 218:=wj.ok hm kr s232 s184
theorem s174:EY.Spec PurP 174:=EY.ok hm kr s183 s218
theorem s175:qS.Spec PurP 175:=qS.ok hm kr s183 s217
theorem s219:J8.Spec PurP 219:=J8.ok hm kr s220
theorem s176:uL.Spec PurP 176:=uL.ok hm kr s183 s181 s219 s184
theorem s99:pV.Spec PurP 99:=pV.ok hm kr s169
theorem s177:zY.Spec PurP 177:=zY.ok hm kr s183 s99
theorem s178:EZ.Spec PurP 178:=EZ.ok hm kr s183 s218
theorem s221:uM.Spec PurP 221:=uM.ok hm kr s222
theorem s179:zZ.Spec PurP 179:=zZ.ok hm kr s183 s221 s184 s217
theorem s223:z0.Spec PurP 223:=z0.ok hm kr
theorem s180:E0.Spec PurP 180:=E0.ok hm kr s183 s223 s184
theorem s98:As.Spec PurP 98:=As.ok hm kr s170 s171 s172 RJ s173 s174 s175 s176 s177 s178 s179 s180
theorem s101:J9.Spec PurP 101:=J9.ok hm kr s183 s184 s185
theorem s226:uK.Spec PurP 226:=uK.ok hm kr
theorem s186:zU.Spec PurP 186:=zU.ok hm kr s184 s226
theorem s187:J4.Spec PurP 187:=J4.ok hm kr
theorem s102:Ka.Spec PurP 102:=Ka.ok hm kr s183 s186 s187
theorem s44:Ko.Spec PurP 44:=Ko.ok hm kr s97 s98 s99 RJ s101 s102
theorem OZ:E3.Spec PurP 106:=E3.ok hm kr
theorem s189:GO.Spec PurP 189:=GO.ok hm kr
theorem s190:setOf.Spec PurP 190:=setOf.ok hm kr s122
theorem s227:CR.Spec PurP 227:=CR.ok hm kr s189 s190
theorem s188:CS.Spec PurP 188:=CS.ok hm kr s227
theorem s103:An.Spec PurP 103:=An.ok hm kr OZ s188
theorem cf108:bu Tryz.prog 108=some (yG 3 190):=by kernel_rfl
theorem s108:OR.Spec PurP 108:=OR.ok hm cf108 s190
theorem s104:CT.Spec PurP 104:=CT.ok hm kr s108
theorem s105:uU.Spec PurP 105:=uU.ok hm kr s189 s51
theorem s107:Ah.Spec PurP 107:=Ah.ok hm kr
theorem s109:Ai.Spec PurP 109:=Ai.ok hm kr OZ s113
theorem s110:qU.Spec PurP 110:=qU.ok hm kr s70
theorem s111:E9.Spec PurP 111:=E9.ok hm kr
theorem s112:wk.Spec PurP 112:=wk.ok hm kr s113
theorem s45:uZ.Spec PurP 45:=uZ.ok hm kr s103 s104 s105 OZ s107 s51 s70 s108 s109 s110 s111 s112
theorem Vm:pOn.Spec PurP 114:=pOn.ok hm kr s70
theorem cf115:bu Tryz.prog 115=some (pR 3 190):=by kernel_rfl
theorem s115:yD.Spec PurP 115:=yD.ok hm cf115 s190
theorem Vn:Ag.Spec PurP 116:=Ag.ok hm kr s115
theorem s46:CW.Spec PurP 46:=CW.ok hm kr s110 Vm s113 s115 Vn s70
theorem s117:each.Spec PurP 117:=each.ok hm kr s192
theorem s118:Live.Spec PurP 118:=Live.ok hm kr s117
theorem s120:JM.Spec PurP 120:=JM.ok hm kr
theorem s119:v8.Spec PurP 119:=v8.ok hm kr s70
theorem s47:JN.Spec PurP 47:=JN.ok hm kr s118 s117 s120 s119
theorem s121:EH.Spec PurP 121:=EH.ok hm kr
theorem s48:Early.Spec PurP 48:=Early.ok hm kr s119 s121 s118 s117
theorem s50:Fe.Spec PurP 50:=Fe.ok hm kr
theorem s49:CX.Spec PurP 49:=CX.ok hm kr s112 s115 s113
theorem s193:mP.Spec PurP 193:=mP.ok hm kr
theorem s194:uW.Spec PurP 194:=uW.ok hm kr
theorem s228:mP.Spec PurP 228:=Vi.ok hm kr
theorem s195:lV.Spec PurP 195:=lV.ok hm kr s228
theorem s196:Aj.Spec PurP 196:=Aj.ok hm kr
theorem s197:CU.Spec PurP 197:=CU.ok hm kr
theorem s198:oo.Spec PurP 198:=oo.ok hm kr
theorem s123:BE.Spec PurP 123:=BE.ok hm kr s193 s194 s195 s196 s197 s198
theorem s52:E7.Spec PurP 52:=E7.ok hm kr s123
theorem s199:Kf.Spec PurP 199:=Kf.ok hm kr
theorem s124:Kg.Spec PurP 124:=Kg.ok hm kr s193 s199 s195
theorem s229:Kc.Spec PurP 229:=Kc.ok hm kr
theorem s230:E5.Spec PurP 230:=E5.ok hm kr
theorem s200:Ke.Spec PurP 200:=Ke.ok hm kr s198 s229 s230
theorem s125:Am.Spec PurP 125:=Am.ok hm kr s199 s200 s123 s193 s198
theorem s126:uX.Spec PurP 126:=uX.ok hm kr s193 s199
theorem s127:uY.Spec PurP 127:=uY.ok hm kr s193 s199
theorem s53:E6.Spec PurP 53:=E6.ok hm kr s124 s125 s126 s127
theorem s128:EF.Spec PurP 128:=EF.ok hm kr
theorem s54:uE.Spec PurP 54:=uE.ok hm kr s118 s128 s117
theorem s13:BK.Spec PurP 13:=BK.ok hm kr s38 s40 s39 s16 s42 s41 s43 s44 s45 s46 s47 s48 s50 s49 s51 s52 s53 s54
theorem s129:EC.Spec PurP 129:=EC.ok hm kr
theorem s201:Fq.Spec PurP 201:=Fq.ok hm kr
theorem s140:iy.Spec PurP 140:=ZQ.ok hm kr s202_1
theorem s156:iy.Spec PurP 156:=VA.ok hm kr s140
theorem s130:u9.Spec PurP 130:=Sa.ok hm kr s201 s156
theorem s135:pX.Spec PurP 135:=O2.ok hm kr
theorem s132:vc.Spec PurP 132:=VB.ok hm kr s135
theorem s131:ve.Spec PurP 131:=Sb.ok hm kr s156
theorem s202:vD.Spec PurP 202:=vD.ok hm kr
theorem s133:vf.Spec PurP 133:=Se.ok hm kr s156 s202
theorem cf55:bu Tryz.prog 55=some (mR 32 129 130 132 131 133 81):=by kernel_rfl
theorem s55:vg.Spec PurP 55:=O5.ok hm cf55 s32 s129 s130 s132 s131 s133
theorem s136:o8.Spec PurP 136:=Sd.ok hm kr
theorem s57:vh.Spec PurP 57:=VK.ok hm kr s135 s136 s29
theorem s134:Y3.Spec PurP 134:=Y3.ok hm cf134 s78
theorem s56:FY.Spec PurP 56:=VI.ok hm kr s134 s22 s20 s29
theorem s17:jF.Spec PurP 17:=jF.ok hm kr s29
theorem s59:vH.Spec PurP 59:=vH.ok hm kr s29
theorem s58:Step.Spec PurP 58:=Sl.ok hm kr s134 s22 s20 s29
theorem s60:Want.Spec PurP 60:=VJ.ok hm kr s56 s134 s22 s20 s29
theorem s152:pY.Spec PurP 152:=pY.ok hm kr
theorem s137:uJ.Spec PurP 137:=So.ok hm kr s152 s202
theorem s203:pV.Spec PurP 203:=Sq.ok hm kr s152
theorem s142:GY.Spec PurP 142:=GY.ok hm kr
theorem s71:C0.Spec PurP 71:=C0.ok hm kr
theorem s19:vl.Spec PurP 19:=vl.ok hm kr s71 s29
theorem s204:AO.Spec PurP 204:=AO.ok hm kr s19
theorem s205:AT.Spec PurP 205:=AT.ok hm kr s203
theorem s206:AP.Spec PurP 206:=AP.ok hm kr s22 s71
theorem s138:AU.Spec PurP 138:=AU.ok hm kr s203 s142 s204 s205 s206
theorem s207:Fz.Spec PurP 207:=Fz.ok hm kr s22
theorem s139:rj.Spec PurP 139:=rj.ok hm kr s207
theorem s140_1:sg.Spec PurP 140:=sg.ok hm kr s202_1
theorem s209:o9.Spec PurP 209:=o9.ok hm kr
theorem s208:AI.Spec PurP 208:=AI.ok hm kr s209
theorem s141:AQ.Spec PurP 141:=AQ.ok hm kr s17 s22 s208 s29
theorem s143:AR.Spec PurP 143:=AR.ok hm kr s20 s29
theorem s150:Ai.Spec PurP 150:=Zw.ok hm kr s71 s19
theorem s144:qZ.Spec PurP 144:=qZ.ok hm kr s22 s150 s29
theorem s145:ri.Spec PurP 145:=ri.ok hm kr s17 s22 s209 s29
theorem s61:AW.Spec PurP 61:=AW.ok hm kr s137 s138 s139 s140_1 s19 s142 s141 s143 s144 s145
theorem cf210:bu Tryz.prog 210=some (lO 164 3 78):=by kernel_rfl
theorem s210:CR.Spec PurP 210:=ada.ok hm cf210 s164 s78
theorem s146:CS.Spec PurP 146:=adb.ok hm kr s210
theorem s147:CT.Spec PurP 147:=ZF.ok hm kr s164
theorem s148:uU.Spec PurP 148:=ZE.ok hm kr s164 s20
theorem s149:vK.Spec PurP 149:=vK.ok hm kr s209 s20
theorem s62:uZ.Spec PurP 62:=Sw.ok hm kr s17 s19 s146 s147 s148 s71 s20 s149 s29 s150
theorem s151:vJ.Spec PurP 151:=vJ.ok hm kr s76
theorem s63:CW.Spec PurP 63:=ZG.ok hm kr s17 s134_1 s22 s151 s29
theorem s153:Live.Spec PurP 153:=VM.ok hm kr s152
theorem s64:JN.Spec PurP 64:=VP.ok hm kr s17 s22 s153 s152 s29
theorem s65:Early.Spec PurP 65:=Sn.ok hm kr s153 s152 s17
theorem s66:CX.Spec PurP 66:=ZH.ok hm kr s22 s76
theorem s211:uW.Spec PurP 211:=VE.ok hm kr
theorem s157:lV.Spec PurP 157:=VD.ok hm kr s156
theorem s231:AJ.Spec PurP 231:=AJ.ok hm kr s202
theorem s212:CU.Spec PurP 212:=VC.ok hm kr s231
theorem s213:oo.Spec PurP 213:=Sf.ok hm kr
theorem s154:qY.Spec PurP 154:=qY.ok hm kr s156 s211 s157 s209 s212 s213
theorem s67:AM.Spec PurP 67:=AM.ok hm kr s154
theorem s155:AK.Spec PurP 155:=AK.ok hm kr s213 s202
theorem s68:AL.Spec PurP 68:=AL.ok hm kr s155 s154 s156 s157
theorem s69:uE.Spec PurP 69:=VN.ok hm kr s153 s140_1 s152
theorem s15:AZ.Spec PurP 15:=AZ.ok hm kr s55 s57 s56 s17 s59 s58 s60 s61 s62 s63 s64 s65 s66 s20 s67 s68 s69
theorem cf18:bu Tryz.prog 18=some (ou 3 124 10 16 13):=by kernel_rfl
theorem s18:Az.Spec PurP 18:=Az.ok hm cf18 s10 s16 s13
theorem s3:Dt.Spec PurP 3:=Dt.ok hm kr s8 s9 s10 s11 s12 s14 s13 s15 s16 s17 s18
end Go.Proofs.YtdfplndcbbofjaaGreat
