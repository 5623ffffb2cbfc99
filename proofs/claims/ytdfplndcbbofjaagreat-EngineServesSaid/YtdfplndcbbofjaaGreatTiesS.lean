/- The functions of this seat: their compiled code is what the library says of it, so that the contracts hold of them. -/
import Derived.Test.YtdfplndcbbofjaaGreatChecked
import Derived.Test.YtdfplndcbbofjaaGreatPkS19
import Derived.Test.YtdfplndcbbofjaaGreatEachS2
import Derived.Test.YtdfplndcbbofjaaGreatEachS1
namespace Go.Proofs.YtdfplndcbbofjaaGreat
open Go.Eng
set_option maxRecDepth 100000
theorem hm:Tryz.prog.follows .mixedOrders=true:=by kernel_rfl
abbrev PurP:=Pure Tryz.prog
theorem kr{p:Prop} (h:p:=by kernel_rfl):p:=h
theorem an{a b:Bool} (h:a=true) (k:b=true):(a&&b)=true:=by rw[h,k];rfl
theorem g2:mapsRowed Tryz.prog=true:=kr
theorem g3:Tryz.prog.stopsHeard=true:=kr
theorem g4:Tryz.prog.mayEnter=true:=kr
theorem s77:At.Spec PurP 77:=At.ok hm kr
theorem s24:Place.Spec PurP 24:=Place.ok hm kr
theorem s28:from.Spec PurP 28:=from.ok hm kr s77 s24
theorem cf25:bY Tryz.prog 25=some (nO 28 3 124):=by kernel_rfl
theorem s25:rows.Spec PurP 25:=rows.ok hm cf25 s28
theorem s26:phase.Spec PurP 26:=phase.ok hm kr s28
theorem s164:aO.Spec PurP 164 129:=aO.ok hm kr
theorem s76:where.Spec PurP 76:=where.ok hm kr s164
theorem s27:beside.Spec PurP 27:=beside.ok hm kr s76
theorem s20:pN.Spec PurP 20:=pN.ok hm kr
theorem s22:pO.Spec PurP 22 3:=pO.ok hm kr s20
theorem s78:Bg.Spec PurP 78:=Bg.ok hm kr
theorem s29:tE.Spec PurP 29:=tE.ok hm kr s22 s78
theorem s30:rZ.Spec PurP 30:=rZ.ok hm kr s28
theorem cf79:bY Tryz.prog 79=some (nQ 3 78 27 29):=by kernel_rfl
theorem s79:with.Spec PurP 79:=with.ok hm cf79 s78 s27 s29
theorem s31:N1.Spec PurP 31:=N1.ok hm kr s28 s79
theorem cf134:bY Tryz.prog 134=some (rN 3 78):=by kernel_rfl
theorem s134_1:on.Spec PurP 134:=on.ok hm cf134 s78
theorem s202_1:Cut.Spec PurP 202:=Cut.ok hm kr
theorem s160:Cap.Spec PurP 160:=Cap.ok hm kr s202_1
theorem s215:Add.Spec PurP 215:=Add.ok hm kr s160
theorem s159:wD.Spec PurP 159:=Sum.ok hm kr s215
theorem s73:wD.Spec PurP 73:=wD.ok hm kr s159
theorem s162:most.Spec PurP 162:=most.ok hm kr
theorem cf214:bY Tryz.prog 214=some (mz 134 20 160 3 73 162):=by kernel_rfl
theorem s214:serve.Spec PurP 214:=serve.ok hm cf214 s134_1 s20 s160 s73 s162
theorem cf158:bY Tryz.prog 158=some (nU 3 164 214 73):=by kernel_rfl
theorem s158:pass.Spec PurP 158:=pass.ok hm cf158 s164 s214 s73
theorem cf72:bY Tryz.prog 72=some (nS 76 134 20 158 3 73):=by kernel_rfl
theorem s72:free.Spec PurP 72:=free.ok hm cf72 s76 s134_1 s20 s158 s73
theorem s163:clear.Spec PurP 163:=clear.ok hm kr s134_1 s22 s73 s162
theorem cf161:bY Tryz.prog 161=some (mw 163 3 73):=by kernel_rfl
theorem s161:entry.Spec PurP 161:=entry.ok hm cf161 s163 s73
theorem s75:Bj.Spec PurP 75:=Bj.ok hm kr s161 s73 s134_1 s22 s160 s162 s163
theorem s74:Mul.Spec PurP 74:=Mul.ok hm kr s160
theorem cf23:bY Tryz.prog 23=some (nP 72 3 73 75 74):=by kernel_rfl
theorem s23:wait.Spec PurP 23:=wait.ok hm cf23 s72 s73 s75 s74
theorem cf8:bY Tryz.prog 8=some (mu 25 26 27 28 29 30 89 31 92 96 23):=by kernel_rfl
theorem s8:Table.Spec PurP 8:=Table.ok hm cf8 s25 s26 s27 s28 s29 s30 s31 s23
theorem s32:Mi.Spec PurP 32:=Mi.ok hm kr
theorem s33:O9.Spec PurP 33:=O9.ok hm kr
theorem s34:Pa.Spec PurP 34:=Pa.ok hm kr
theorem cf9:bY Tryz.prog 9=some (lg 24 32 33 34 87 64):=by kernel_rfl
theorem s9:Cp.Spec PurP 9:=Cp.ok hm cf9 s24 s32 s33 s34
theorem s82:BZ.Spec PurP 82:=BZ.ok hm kr
theorem s35:xp.Spec PurP 35:=xp.ok hm kr s82
theorem s10:z9.Spec PurP 10:=Sq.ok hm kr s35
theorem s14:xD.Spec PurP 14:=xD.ok hm kr
theorem s83:Hp.Spec PurP 83:=Hp.ok hm kr
theorem s85:Hq.Spec PurP 85:=Hq.ok hm kr
theorem s165:sW.Spec PurP 165:=sW.ok hm kr
theorem s84:Cf.Spec PurP 84:=Cf.ok hm kr s165
theorem s92:yC.Spec PurP 92:=yC.ok hm kr
theorem s86:Cg.Spec PurP 86:=Cg.ok hm kr s92
theorem s166:sW.Spec PurP 166:=Wn.ok hm kr
theorem s87:Ci.Spec PurP 87:=Ci.ok hm kr s166
theorem s168:BC.Spec PurP 168:=BC.ok hm kr
theorem s89:xz.Spec PurP 89:=xz.ok hm kr s168
theorem s167:Ho.Spec PurP 167:=Ho.ok hm kr
theorem s88:Cj.Spec PurP 88:=Cj.ok hm kr s167
theorem cf38:bY Tryz.prog 38=some (mK 83 32 85 84 86 87 89 88 81):=by kernel_rfl
theorem s38:Ck.Spec PurP 38:=Ck.ok hm cf38 s83 s32 s85 s84 s86 s87 s89 s88
theorem s93:xy.Spec PurP 93:=xy.ok hm kr
theorem s122:bit.Spec PurP 122:=bit.ok hm kr
theorem s70:gC.Spec PurP 70:=gC.ok hm kr s122
theorem s40:Cm.Spec PurP 40:=Cm.ok hm kr s92 s93 s70
theorem s51:jU.Spec PurP 51:=jU.ok hm kr s122
theorem s91:Ga.Spec PurP 91:=Ga.ok hm kr s51
theorem s90:zk.Spec PurP 90:=zk.ok hm kr s70
theorem s39:LH.Spec PurP 39:=LH.ok hm kr s91 s90
theorem s16:tS.Spec PurP 16:=tS.ok hm kr s70
theorem s42:xx.Spec PurP 42:=xx.ok hm kr s70
theorem s94:Gb.Spec PurP 94:=Gb.ok hm kr s51
theorem s95:Gc.Spec PurP 95:=Gc.ok hm kr s51
theorem s41:Step.Spec PurP 41:=Step.ok hm kr s94 s95 s90
theorem s96:Gd.Spec PurP 96:=Gd.ok hm kr s51
theorem s43:Want.Spec PurP 43:=Want.ok hm kr s39 s96 s90
theorem s169:vo.Spec PurP 169:=vo.ok hm kr
theorem s97:BP.Spec PurP 97:=BP.ok hm kr s169
theorem s170:GW.Spec PurP 170:=GW.ok hm kr
theorem s171:GX.Spec PurP 171:=GX.ok hm kr
theorem s183:jL.Spec PurP 183:=jL.ok hm kr s169
theorem s182:Mc.Spec PurP 182:=Mc.ok hm kr s183
theorem s191:Go.Eng.sC.Spec (Go.Eng.Pure Tryz.prog) 191:=Go.Eng.sC.of (by kernel_rfl) (setEach_some (Go.Eng.An.of s51))
theorem s113:vk.Spec PurP 113:=setEach.ok hm kr s191
theorem s184:k7.Spec PurP 184:=k7.ok hm kr s113 s70
theorem s222:IL.Spec PurP 222:=IL.ok hm kr
theorem s185:yx.Spec PurP 185:=yx.ok hm kr s222
theorem s217:zy.Spec PurP 217:=zy.ok hm kr s184 s185
theorem s172:wU.Spec PurP 172:=wU.ok hm kr s182 s217 s183
theorem s220:DE.Spec PurP 220:=DE.ok hm kr s183
theorem s224:BR.Spec PurP 224:=BR.ok hm kr s220
theorem s225:wR.Spec PurP 225:=wR.ok hm kr
theorem s181:DG.Spec PurP 181:=DG.ok hm kr s224 s184 s225
theorem Sy:yy.Spec PurP 100:=yy.ok hm kr s182 s183 s181
theorem s173:wV.Spec PurP 173:=wV.ok hm kr s183
theorem s232:wT.Spec PurP 232:=wT.ok hm kr s222 s217
theorem s218:tP.Spec PurP 218:=tP.ok hm kr s232 s184
theorem s174:BS.Spec PurP 174:=BS.ok hm kr s183 s218
theorem s175:oQ.Spec PurP 175:=oQ.ok hm kr s183 s217
theorem s219:GY.Spec PurP 219:=GY.ok hm kr s220
theorem s176:sK.Spec PurP 176:=sK.ok hm kr s183 s181 s219 s184
theorem s99:yq.Spec PurP 99:=yq.ok hm kr s169
theorem s177:wW.Spec PurP 177:=wW.ok hm kr s183 s99
theorem s178:BT.Spec PurP 178:=BT.ok hm kr s183 s218
theorem s221:sL.Spec PurP 221:=sL.ok hm kr s222
theorem s179:wX.Spec PurP 179:=wX.ok hm kr s183 s221 s184 s217
theorem s223:wY.Spec PurP 223:=wY.ok hm kr
theorem s180:BU.Spec PurP 180:=BU.ok hm kr s183 s223 s184
theorem s98:xA.Spec PurP 98:=xA.ok hm kr s170 s171 s172 Sy s173 s174 s175 s176 s177 s178 s179 s180
theorem s101:GZ.Spec PurP 101:=GZ.ok hm kr s183 s184 s185
theorem s226:sJ.Spec PurP 226:=sJ.ok hm kr
theorem s186:wS.Spec PurP 186:=wS.ok hm kr s184 s226
theorem s187:GQ.Spec PurP 187:=GQ.ok hm kr
theorem s102:G0.Spec PurP 102:=G0.ok hm kr s183 s186 s187
theorem s44:Hr.Spec PurP 44:=Hr.ok hm kr s97 s98 s99 Sy s101 s102
theorem O0:BY.Spec PurP 106:=BY.ok hm kr
theorem s189:DH.Spec PurP 189:=DH.ok hm kr
theorem s190:setOf.Spec PurP 190:=setOf.ok hm kr s122
theorem s227:G1.Spec PurP 227:=G1.ok hm kr s189 s190
theorem s188:G2.Spec PurP 188:=G2.ok hm kr s227
theorem s103:xu.Spec PurP 103:=xu.ok hm kr O0 s188
theorem cf108:bY Tryz.prog 108=some (vr 3 190):=by kernel_rfl
theorem s108:Md.Spec PurP 108:=Md.ok hm cf108 s190
theorem s104:G3.Spec PurP 104:=G3.ok hm kr s108
theorem s105:BX.Spec PurP 105:=BX.ok hm kr s189 s51
theorem s107:xl.Spec PurP 107:=xl.ok hm kr
theorem s109:G4.Spec PurP 109:=G4.ok hm kr O0 s113
theorem s110:oS.Spec PurP 110:=oS.ok hm kr s70
theorem s111:B8.Spec PurP 111:=B8.ok hm kr
theorem s112:tQ.Spec PurP 112:=tQ.ok hm kr s113
theorem s45:Cb.Spec PurP 45:=Cb.ok hm kr s103 s104 s105 O0 s107 s51 s70 s108 s109 s110 s111 s112
theorem Ww:ZL.Spec PurP 114:=ZL.ok hm kr s70
theorem cf115:bY Tryz.prog 115=some (nZ 3 190):=by kernel_rfl
theorem s115:vl.Spec PurP 115:=vl.ok hm cf115 s190
theorem Wx:xk.Spec PurP 116:=xk.ok hm kr s115
theorem s46:Hg.Spec PurP 46:=Hg.ok hm kr s110 Ww s113 s115 Wx s70
theorem s117:each.Spec PurP 117:=each.ok hm kr s192
theorem s118:Live.Spec PurP 118:=Live.ok hm kr s117
theorem s120:Gs.Spec PurP 120:=Gs.ok hm kr
theorem s119:tJ.Spec PurP 119:=tJ.ok hm kr s70
theorem s47:N7.Spec PurP 47:=N7.ok hm kr s118 s117 s120 s119
theorem s121:Bx.Spec PurP 121:=Bx.ok hm kr
theorem s48:Early.Spec PurP 48:=Early.ok hm kr s119 s121 s118 s117
theorem s50:Cc.Spec PurP 50:=Cc.ok hm kr
theorem s49:Hh.Spec PurP 49:=Hh.ok hm kr s112 s115 s113
theorem s193:lf.Spec PurP 193:=lf.ok hm kr
theorem s194:B4.Spec PurP 194:=B4.ok hm kr
theorem s228:lf.Spec PurP 228:=Sl.ok hm kr
theorem s195:tR.Spec PurP 195:=tR.ok hm kr s228
theorem s196:xm.Spec PurP 196:=xm.ok hm kr
theorem s197:G5.Spec PurP 197:=G5.ok hm kr
theorem s198:vw.Spec PurP 198:=vw.ok hm kr
theorem s123:yz.Spec PurP 123:=yz.ok hm kr s193 s194 s195 s196 s197 s198
theorem s52:B6.Spec PurP 52:=B6.ok hm kr s123
theorem s199:G8.Spec PurP 199:=G8.ok hm kr
theorem s124:G9.Spec PurP 124:=G9.ok hm kr s193 s199 s195
theorem s229:G6.Spec PurP 229:=G6.ok hm kr
theorem s230:B3.Spec PurP 230:=B3.ok hm kr
theorem s200:G7.Spec PurP 200:=G7.ok hm kr s198 s229 s230
theorem s125:xq.Spec PurP 125:=xq.ok hm kr s199 s200 s123 s193 s198
theorem s126:sS.Spec PurP 126:=sS.ok hm kr s193 s199
theorem s127:sU.Spec PurP 127:=sU.ok hm kr s193 s199
theorem s53:B5.Spec PurP 53:=B5.ok hm kr s124 s125 s126 s127
theorem s128:Bv.Spec PurP 128:=Bv.ok hm kr
theorem s54:BA.Spec PurP 54:=BA.ok hm kr s118 s128 s117
theorem s13:yE.Spec PurP 13:=yE.ok hm kr s38 s40 s39 s16 s42 s41 s43 s44 s45 s46 s47 s48 s50 s49 s51 s52 s53 s54
theorem cf18:bY Tryz.prog 18=some (mN 3 124 10 16 13):=by kernel_rfl
theorem s18:xE.Spec PurP 18:=xE.ok hm cf18 s10 s16 s13
theorem s6:xL.Spec PurP 6:=xL.ok hm kr s8 s9 s10 s14 s13 s20 s23 s18
end Go.Proofs.YtdfplndcbbofjaaGreat
