/- The functions of this seat: their compiled code is what the library says of it, so that the contracts hold of them. -/
import Derived.Test.YthoinfdfenkgnaaGreatChecked
import Derived.Test.YthoinfdfenkgnaaGreatPk1
import Derived.Test.YthoinfdfenkgnaaGreatPk2
import Derived.Test.YthoinfdfenkgnaaGreatPk3
import Derived.Test.YthoinfdfenkgnaaGreatPk4
import Derived.Test.YthoinfdfenkgnaaGreatPk5
import Derived.Test.YthoinfdfenkgnaaGreatPk6
import Derived.Test.YthoinfdfenkgnaaGreatPk7
import Derived.Test.YthoinfdfenkgnaaGreatPk8
import Derived.Test.YthoinfdfenkgnaaGreatPk9
import Derived.Test.YthoinfdfenkgnaaGreatPk10
import Derived.Test.YthoinfdfenkgnaaGreatPk11
import Derived.Test.YthoinfdfenkgnaaGreatPk12
import Derived.Test.YthoinfdfenkgnaaGreatPk13
import Derived.Test.YthoinfdfenkgnaaGreatPk14
import Derived.Test.YthoinfdfenkgnaaGreatPk15
import Derived.Test.YthoinfdfenkgnaaGreatPk16
import Derived.Test.YthoinfdfenkgnaaGreatPk17
import Derived.Test.YthoinfdfenkgnaaGreatPk18
import Derived.Test.YthoinfdfenkgnaaGreatEach2
import Derived.Test.YthoinfdfenkgnaaGreatEach1
namespace Go.Proofs.YthoinfdfenkgnaaGreat
open Go.Eng
set_option maxRecDepth 100000
theorem hm:Tryz.prog.follows .mixedOrders=true:=by kernel_rfl
abbrev PurP:=Pure Tryz.prog
theorem s58:At.Spec PurP 58:=At.ok hm (by kernel_rfl)
theorem s23:Place.Spec PurP 23:=Place.ok hm (by kernel_rfl)
theorem s32:from.Spec PurP 32:=from.ok hm (by kernel_rfl) s58 s23
theorem cf29:bF Tryz.prog 29=some (ot 32 3 120):=by kernel_rfl
theorem s29:rows.Spec PurP 29:=rows.ok hm cf29 s32
theorem s30:phase.Spec PurP 30:=phase.ok hm (by kernel_rfl) s32
theorem s71:cU.Spec PurP 71 122:=cU.ok hm (by kernel_rfl)
theorem s57:where.Spec PurP 57:=where.ok hm (by kernel_rfl) s71
theorem s31:beside.Spec PurP 31:=beside.ok hm (by kernel_rfl) s57
theorem s72:vO.Spec PurP 72:=vO.ok hm (by kernel_rfl)
theorem s59:qm.Spec PurP 59 3:=qm.ok hm (by kernel_rfl) s72
theorem s24:zP.Spec PurP 24:=zP.ok hm (by kernel_rfl)
theorem s33:uk.Spec PurP 33:=uk.ok hm (by kernel_rfl) s59 s24
theorem s34:sU.Spec PurP 34:=sU.ok hm (by kernel_rfl) s32
theorem cf60:bF Tryz.prog 60=some (ov 3 24 31 33):=by kernel_rfl
theorem s60:with.Spec PurP 60:=with.ok hm cf60 s24 s31 s33
theorem s35:NH.Spec PurP 35:=NH.ok hm (by kernel_rfl) s32 s60
theorem cf73:bF Tryz.prog 73=some (sJ 3 24):=by kernel_rfl
theorem s73_1:on.Spec PurP 73:=on.ok hm cf73 s24
theorem s51:Cut.Spec PurP 51:=Cut.ok hm (by kernel_rfl)
theorem s76:Cap.Spec PurP 76:=Cap.ok hm (by kernel_rfl) s51
theorem s92:Add.Spec PurP 92:=Add.ok hm (by kernel_rfl) s76
theorem s75:xu.Spec PurP 75:=Sum.ok hm (by kernel_rfl) s92
theorem s62:xu.Spec PurP 62:=xu.ok hm (by kernel_rfl) s75
theorem s78:most.Spec PurP 78:=most.ok hm (by kernel_rfl)
theorem cf91:bF Tryz.prog 91=some (mW 73 72 76 3 62 78):=by kernel_rfl
theorem s91:serve.Spec PurP 91:=serve.ok hm cf91 s73_1 s72 s76 s62 s78
theorem cf74:bF Tryz.prog 74=some (oy 3 71 91 62):=by kernel_rfl
theorem s74:pass.Spec PurP 74:=pass.ok hm cf74 s71 s91 s62
theorem cf61:bF Tryz.prog 61=some (ox 57 73 72 74 3 62):=by kernel_rfl
theorem s61:free.Spec PurP 61:=free.ok hm cf61 s57 s73_1 s72 s74 s62
theorem s79:clear.Spec PurP 79:=clear.ok hm (by kernel_rfl) s73_1 s59 s62 s78
theorem cf77:bF Tryz.prog 77=some (mV 79 3 62):=by kernel_rfl
theorem s77:entry.Spec PurP 77:=entry.ok hm cf77 s79 s62
theorem s64:BT.Spec PurP 64:=BT.ok hm (by kernel_rfl) s77 s62 s73_1 s59 s76 s78 s79
theorem s63:Mul.Spec PurP 63:=Mul.ok hm (by kernel_rfl) s76
theorem cf36:bF Tryz.prog 36=some (ou 61 3 62 64 63):=by kernel_rfl
theorem s36:wait.Spec PurP 36:=wait.ok hm cf36 s61 s62 s64 s63
theorem cf8:bF Tryz.prog 8=some (mU 29 30 31 32 33 34 93 35 96 100 36):=by kernel_rfl
theorem s8:Table.Spec PurP 8:=Table.ok hm cf8 s29 s30 s31 s32 s33 s34 s35 s36
theorem s37:Mb.Spec PurP 37:=Mb.ok hm (by kernel_rfl)
theorem s38:OW.Spec PurP 38:=OW.ok hm (by kernel_rfl)
theorem s39:OX.Spec PurP 39:=OX.ok hm (by kernel_rfl)
theorem cf9:bF Tryz.prog 9=some (lS 23 37 38 39 91 68):=by kernel_rfl
theorem s9:Dj.Spec PurP 9:=Dj.ok hm cf9 s23 s37 s38 s39
theorem s80:CM.Spec PurP 80:=CM.ok hm (by kernel_rfl)
theorem s67:yl.Spec PurP 67:=yl.ok hm (by kernel_rfl) s80
theorem s40:AU.Spec PurP 40:=RR.ok hm (by kernel_rfl) s67
theorem s10:uF.Spec PurP 10:=uF.ok hm (by kernel_rfl) s40
theorem s54:xI.Spec PurP 54:=xI.ok hm (by kernel_rfl)
theorem s25:ni.Spec PurP 25:=ni.ok hm (by kernel_rfl) s54
theorem s41:iV.Spec PurP 41:=iV.ok hm (by kernel_rfl) s25
theorem s42:nq.Spec PurP 42:=nq.ok hm (by kernel_rfl)
theorem s43:wj.Spec PurP 43:=wj.ok hm (by kernel_rfl)
theorem s44:qE.Spec PurP 44:=qE.ok hm (by kernel_rfl)
theorem s81:Iu.Spec PurP 81:=Iu.ok hm (by kernel_rfl)
theorem s135:Im.Spec PurP 135:=Im.ok hm (by kernel_rfl)
theorem s137:Io.Spec PurP 137:=Io.ok hm (by kernel_rfl)
theorem s223:tT.Spec PurP 223:=tT.ok hm (by kernel_rfl)
theorem s136:CY.Spec PurP 136:=CY.ok hm (by kernel_rfl) s223
theorem s144:zh.Spec PurP 144:=zh.ok hm (by kernel_rfl)
theorem s138:CZ.Spec PurP 138:=CZ.ok hm (by kernel_rfl) s144
theorem s224:tT.Spec PurP 224:=VP.ok hm (by kernel_rfl)
theorem s139:C0.Spec PurP 139:=C0.ok hm (by kernel_rfl) s224
theorem s226:Ca.Spec PurP 226:=Ca.ok hm (by kernel_rfl)
theorem s141:yw.Spec PurP 141:=yw.ok hm (by kernel_rfl) s226
theorem s225:Il.Spec PurP 225:=Il.ok hm (by kernel_rfl)
theorem s140:Da.Spec PurP 140:=Da.ok hm (by kernel_rfl) s225
theorem cf93:bF Tryz.prog 93=some (nv 135 37 137 136 138 139 141 140 144):=by kernel_rfl
theorem s93:Db.Spec PurP 93:=Db.ok hm cf93 s135 s37 s137 s136 s138 s139 s141 s140
theorem s145:yu.Spec PurP 145:=yu.ok hm (by kernel_rfl)
theorem s174:bit.Spec PurP 174:=bit.ok hm (by kernel_rfl)
theorem s146:gO.Spec PurP 146:=gO.ok hm (by kernel_rfl) s174
theorem s95:Dd.Spec PurP 95:=Dd.ok hm (by kernel_rfl) s144 s145 s146
theorem s107:kn.Spec PurP 107:=kn.ok hm (by kernel_rfl) s174
theorem s143:G0.Spec PurP 143:=G0.ok hm (by kernel_rfl) s107
theorem s142:BQ.Spec PurP 142:=BQ.ok hm (by kernel_rfl) s146
theorem s94:Lz.Spec PurP 94:=Lz.ok hm (by kernel_rfl) s143 s142
theorem s97:yp.Spec PurP 97:=yp.ok hm (by kernel_rfl) s146
theorem s98:yq.Spec PurP 98:=yq.ok hm (by kernel_rfl) s146
theorem s147:G1.Spec PurP 147:=G1.ok hm (by kernel_rfl) s107
theorem s148:G2.Spec PurP 148:=G2.ok hm (by kernel_rfl) s107
theorem s96:Step.Spec PurP 96:=Step.ok hm (by kernel_rfl) s147 s148 s142
theorem s149:G3.Spec PurP 149:=G3.ok hm (by kernel_rfl) s107
theorem s99:Want.Spec PurP 99:=Want.ok hm (by kernel_rfl) s94 s149 s142
theorem s115:tC.Spec PurP 115:=tC.ok hm (by kernel_rfl)
theorem s150:Cq.Spec PurP 150:=Cq.ok hm (by kernel_rfl) s115
theorem s227:HT.Spec PurP 227:=HT.ok hm (by kernel_rfl)
theorem s228:HU.Spec PurP 228:=HU.ok hm (by kernel_rfl)
theorem s240:j8.Spec PurP 240:=j8.ok hm (by kernel_rfl) s115
theorem s239:L6.Spec PurP 239:=L6.ok hm (by kernel_rfl) s240
theorem s112:Go.Eng.th.Spec (Go.Eng.Pure Tryz.prog) 112:=Go.Eng.th.of (by kernel_rfl) (setEach_some (Go.Eng.A6.of s107))
theorem s84:tf.Spec PurP 84:=setEach.ok hm (by kernel_rfl) s112
theorem s241:lP.Spec PurP 241:=lP.ok hm (by kernel_rfl) s84 s146
theorem s280:Jo.Spec PurP 280:=Jo.ok hm (by kernel_rfl)
theorem s242:zc.Spec PurP 242:=zc.ok hm (by kernel_rfl) s280
theorem s275:Aa.Spec PurP 275:=Aa.ok hm (by kernel_rfl) s241 s242
theorem s229:xQ.Spec PurP 229:=xQ.ok hm (by kernel_rfl) s239 s275 s240
theorem s278:EG.Spec PurP 278:=EG.ok hm (by kernel_rfl) s240
theorem s282:CC.Spec PurP 282:=CC.ok hm (by kernel_rfl) s278
theorem s283:xN.Spec PurP 283:=xN.ok hm (by kernel_rfl)
theorem s238:EH.Spec PurP 238:=EH.ok hm (by kernel_rfl) s282 s241 s283
theorem s153:zf.Spec PurP 153:=zf.ok hm (by kernel_rfl) s239 s240 s238
theorem s230:xR.Spec PurP 230:=xR.ok hm (by kernel_rfl) s240
theorem s292:xP.Spec PurP 292:=xP.ok hm (by kernel_rfl) s280 s275
theorem s276:uI.Spec PurP 276:=uI.ok hm (by kernel_rfl) s292 s241
theorem s231:CD.Spec PurP 231:=CD.ok hm (by kernel_rfl) s240 s276
theorem s232:pP.Spec PurP 232:=pP.ok hm (by kernel_rfl) s240 s275
theorem s277:HV.Spec PurP 277:=HV.ok hm (by kernel_rfl) s278
theorem s233:tH.Spec PurP 233:=tH.ok hm (by kernel_rfl) s240 s238 s277 s241
theorem s152:y6.Spec PurP 152:=y6.ok hm (by kernel_rfl) s115
theorem s234:xS.Spec PurP 234:=xS.ok hm (by kernel_rfl) s240 s152
theorem s235:CE.Spec PurP 235:=CE.ok hm (by kernel_rfl) s240 s276
theorem s279:tI.Spec PurP 279:=tI.ok hm (by kernel_rfl) s280
theorem s236:xT.Spec PurP 236:=xT.ok hm (by kernel_rfl) s240 s279 s241 s275
theorem s281:xU.Spec PurP 281:=xU.ok hm (by kernel_rfl)
theorem s237:CF.Spec PurP 237:=CF.ok hm (by kernel_rfl) s240 s281 s241
theorem s151:yx.Spec PurP 151:=yx.ok hm (by kernel_rfl) s227 s228 s229 s153 s230 s231 s232 s233 s234 s235 s236 s237
theorem s154:HW.Spec PurP 154:=HW.ok hm (by kernel_rfl) s240 s241 s242
theorem s284:tG.Spec PurP 284:=tG.ok hm (by kernel_rfl)
theorem s243:xO.Spec PurP 243:=xO.ok hm (by kernel_rfl) s241 s284
theorem s244:HL.Spec PurP 244:=HL.ok hm (by kernel_rfl)
theorem s155:HX.Spec PurP 155:=HX.ok hm (by kernel_rfl) s240 s243 s244
theorem VY:Ip.Spec PurP 100:=Ip.ok hm (by kernel_rfl) s150 s151 s152 s153 s154 s155
theorem s159:CL.Spec PurP 159:=CL.ok hm (by kernel_rfl)
theorem s246:EI.Spec PurP 246:=EI.ok hm (by kernel_rfl)
theorem s247:setOf.Spec PurP 247:=setOf.ok hm (by kernel_rfl) s174
theorem s285:HY.Spec PurP 285:=HY.ok hm (by kernel_rfl) s246 s247
theorem s245:HZ.Spec PurP 245:=HZ.ok hm (by kernel_rfl) s285
theorem s156:yo.Spec PurP 156:=yo.ok hm (by kernel_rfl) s159 s245
theorem cf161:bF Tryz.prog 161=some (wq 3 247):=by kernel_rfl
theorem s161:L7.Spec PurP 161:=L7.ok hm cf161 s247
theorem s157:H6.Spec PurP 157:=H6.ok hm (by kernel_rfl) s161
theorem s158:CJ.Spec PurP 158:=CJ.ok hm (by kernel_rfl) s246 s107
theorem s160:yf.Spec PurP 160:=yf.ok hm (by kernel_rfl)
theorem s162:H7.Spec PurP 162:=H7.ok hm (by kernel_rfl) s159 s84
theorem s163:pR.Spec PurP 163:=pR.ok hm (by kernel_rfl) s146
theorem s164:CT.Spec PurP 164:=CT.ok hm (by kernel_rfl)
theorem s165:uJ.Spec PurP 165:=uJ.ok hm (by kernel_rfl) s84
theorem s101:CU.Spec PurP 101:=CU.ok hm (by kernel_rfl) s156 s157 s158 s159 s160 s107 s146 s161 s162 s163 s164 s165
theorem s166:Zh.Spec PurP 166:=Zh.ok hm (by kernel_rfl) s146
theorem cf167:bF Tryz.prog 167=some (oz 3 247):=by kernel_rfl
theorem s167:vY.Spec PurP 167:=vY.ok hm cf167 s247
theorem s168:ye.Spec PurP 168:=ye.ok hm (by kernel_rfl) s167
theorem s102:Ih.Spec PurP 102:=Ih.ok hm (by kernel_rfl) s163 s166 s84 s167 s168 s146
theorem s169:each.Spec PurP 169:=each.ok hm (by kernel_rfl) s248
theorem s170:Live.Spec PurP 170:=Live.ok hm (by kernel_rfl) s169
theorem s172:Hr.Spec PurP 172:=Hr.ok hm (by kernel_rfl)
theorem s171:uw.Spec PurP 171:=uw.ok hm (by kernel_rfl) s146
theorem s103:NX.Spec PurP 103:=NX.ok hm (by kernel_rfl) s170 s169 s172 s171
theorem s173:Ce.Spec PurP 173:=Ce.ok hm (by kernel_rfl)
theorem s104:Early.Spec PurP 104:=Early.ok hm (by kernel_rfl) s171 s173 s170 s169
theorem VZ:CW.Spec PurP 106:=CW.ok hm (by kernel_rfl)
theorem s105:Ii.Spec PurP 105:=Ii.ok hm (by kernel_rfl) s165 s167 s84
theorem s249:lR.Spec PurP 249:=lR.ok hm (by kernel_rfl)
theorem s250:CP.Spec PurP 250:=CP.ok hm (by kernel_rfl)
theorem s286:lR.Spec PurP 286:=RJ.ok hm (by kernel_rfl)
theorem s251:uK.Spec PurP 251:=uK.ok hm (by kernel_rfl) s286
theorem s252:yj.Spec PurP 252:=yj.ok hm (by kernel_rfl)
theorem s253:H8.Spec PurP 253:=H8.ok hm (by kernel_rfl)
theorem s254:wz.Spec PurP 254:=wz.ok hm (by kernel_rfl)
theorem s175:zg.Spec PurP 175:=zg.ok hm (by kernel_rfl) s249 s250 s251 s252 s253 s254
theorem s108:CR.Spec PurP 108:=CR.ok hm (by kernel_rfl) s175
theorem s255:Ib.Spec PurP 255:=Ib.ok hm (by kernel_rfl)
theorem s176:Ic.Spec PurP 176:=Ic.ok hm (by kernel_rfl) s249 s255 s251
theorem s287:H9.Spec PurP 287:=H9.ok hm (by kernel_rfl)
theorem s288:CN.Spec PurP 288:=CN.ok hm (by kernel_rfl)
theorem s256:Ia.Spec PurP 256:=Ia.ok hm (by kernel_rfl) s254 s287 s288
theorem s177:ym.Spec PurP 177:=ym.ok hm (by kernel_rfl) s255 s256 s175 s249 s254
theorem s178:tR.Spec PurP 178:=tR.ok hm (by kernel_rfl) s249 s255
theorem s179:tS.Spec PurP 179:=tS.ok hm (by kernel_rfl) s249 s255
theorem s109:CQ.Spec PurP 109:=CQ.ok hm (by kernel_rfl) s176 s177 s178 s179
theorem s180:Cd.Spec PurP 180:=Cd.ok hm (by kernel_rfl)
theorem s110:Cj.Spec PurP 110:=Cj.ok hm (by kernel_rfl) s170 s180 s169
theorem s82:Dg.Spec PurP 82:=Dg.ok hm (by kernel_rfl) s93 s95 s94 s97 s98 s96 s99 VY s101 s102 s103 s104 VZ s105 s107 s108 s109 s110
theorem s111:Dn.Spec PurP 111:=Dn.ok hm (by kernel_rfl)
theorem s83:Ir.Spec PurP 83:=Ir.ok hm (by kernel_rfl) s111
theorem s113:Dl.Spec PurP 113:=Dl.ok hm (by kernel_rfl)
theorem s290:Cv.Spec PurP 290:=Cv.ok hm (by kernel_rfl)
theorem cf257:bF Tryz.prog 257=some (gA 289 290):=by kernel_rfl
theorem s257:Oj.Spec PurP 257:=Oj.ok hm cf257 s290
theorem s183:ED.Spec PurP 183:=ED.ok hm (by kernel_rfl) s257
theorem s182:Oo.Spec PurP 182:=Oo.ok hm (by kernel_rfl) s183
theorem s181:EE.Spec PurP 181:=EE.ok hm (by kernel_rfl)
theorem s184:Oq.Spec PurP 184:=Oq.ok hm (by kernel_rfl) s183
theorem s186:uC.Spec PurP 186:=uC.ok hm (by kernel_rfl)
theorem s258:HO.Spec PurP 258:=HO.ok hm (by kernel_rfl) s107 s186
theorem s187:L5.Spec PurP 187:=L5.ok hm (by kernel_rfl) s258 s181
theorem s185:Ot.Spec PurP 185:=Ot.ok hm (by kernel_rfl) s186 s187
theorem s188:Ou.Spec PurP 188:=Ou.ok hm (by kernel_rfl) s187
theorem s191:pK.Spec PurP 191:=pK.ok hm (by kernel_rfl)
theorem s189:pL.Spec PurP 189:=pL.ok hm (by kernel_rfl) s191
theorem s190:Ov.Spec PurP 190:=Ov.ok hm (by kernel_rfl) s191
theorem V0:xK.Spec PurP 114:=xK.ok hm (by kernel_rfl) s182 s181 s184 s185 s188 s189 s190
theorem s85:Dm.Spec PurP 85:=Dm.ok hm (by kernel_rfl) s113 V0
theorem s86:Cr.Spec PurP 86:=Cr.ok hm (by kernel_rfl) s115
theorem s68:Dr.Spec PurP 68:=Dr.ok hm (by kernel_rfl) s81 s82 s83 s84 s85 s86
theorem s45:Dw.Spec PurP 45:=Dw.ok hm (by kernel_rfl) s68 s40 s42 s44
theorem cf46:pZ true Tryz.prog 46=some (bS 81):=by kernel_rfl
theorem s46_3:oB.Spec PurP 46:=oB.ok hm cf46
theorem s46:qJ.Spec PurP 81 46:=qJ.ok hm (by kernel_rfl)
theorem s46_1:qK.Spec PurP 81 46:=qK.ok hm (by kernel_rfl)
theorem s46_2:qL.Spec PurP 81 46:=qL.ok hm (by kernel_rfl)
theorem s13:Dx.Spec PurP 13:=Dx.ok hm (by kernel_rfl) s25 s41 s42 s43 s44 s45 s46_3 s46 s46_1 s46_2
theorem cf49:bF Tryz.prog 49=some (lM 93 3 120 96 100):=by kernel_rfl
theorem s49:tE.Spec PurP 49:=tE.ok hm cf49
theorem s46_4:Cw.Spec PurP 46:=Cw.ok hm cf46
theorem cf13:pZ true Tryz.prog 13=some (aO 25 41 42 43 44 45 46):=by kernel_rfl
theorem s13_3:xM.Spec PurP 13:=xM.ok hm cf13 s25 s41 s42 s43 s44 s46_3 s46_4
theorem s16:xL.Spec PurP 16:=xL.ok hm (by kernel_rfl) s49 s10 s13_3
theorem s17:Iy.Spec PurP 17:=Iy.ok hm (by kernel_rfl)
theorem cf5:bF Tryz.prog 5=some (gM 8 9 23 10 13 16 3 24 17):=by kernel_rfl
theorem s5:A8.Spec PurP 5:=A8.ok hm cf5 s8 s9 s23 s10 s13 s16 s24 s17
end Go.Proofs.YthoinfdfenkgnaaGreat
