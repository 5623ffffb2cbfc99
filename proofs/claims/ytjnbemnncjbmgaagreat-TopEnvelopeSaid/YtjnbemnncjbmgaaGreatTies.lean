/- The functions of this seat: their compiled code is what the library says of it, so that the contracts hold of them. -/
import Derived.Test.YtjnbemnncjbmgaaGreatChecked
import Derived.Test.YtjnbemnncjbmgaaGreatPk22
import Derived.Test.YtjnbemnncjbmgaaGreatEach2
import Derived.Test.YtjnbemnncjbmgaaGreatEach1
import Derived.Test.YtjnbemnncjbmgaaGreatAw52
import Derived.Test.YtjnbemnncjbmgaaGreatAw30
import Derived.Test.YtjnbemnncjbmgaaGreatAw21
import Derived.Test.YtjnbemnncjbmgaaGreatAw22
import Derived.Test.YtjnbemnncjbmgaaGreatAw53
namespace Go.Proofs.YtjnbemnncjbmgaaGreat
open Go.Eng
set_option maxRecDepth 100000
theorem hm:Tryz.prog.follows .mixedOrders=true:=by kernel_rfl
abbrev PurP:=Pure Tryz.prog
theorem kr{p:Prop} (h:p:=by kernel_rfl):p:=h
theorem an{a b:Bool} (h:a=true) (k:b=true):(a&&b)=true:=by rw[h,k];rfl
theorem g2:mapsRowed Tryz.prog=true:=kr
theorem g3:Tryz.prog.stopsHeard=true:=kr
theorem g4:Tryz.prog.mayEnter=true:=kr
theorem s80:At.Spec PurP 80:=At.ok hm kr
theorem s24:Place.Spec PurP 24:=Place.ok hm kr
theorem s37:from.Spec PurP 37:=from.ok hm kr s80 s24
theorem cf34:bK Tryz.prog 34=some (rN 37 3 136):=by kernel_rfl
theorem s34:rows.Spec PurP 34:=rows.ok hm cf34 s37
theorem s35:phase.Spec PurP 35:=phase.ok hm kr s37
theorem s155:bQ.Spec PurP 155 162:=bQ.ok hm kr
theorem s79:where.Spec PurP 79:=where.ok hm kr s155
theorem s36:beside.Spec PurP 36:=beside.ok hm kr s79
theorem s20:rT.Spec PurP 20:=rT.ok hm kr
theorem s82:um.Spec PurP 82 3:=um.ok hm kr s20
theorem s81:GL.Spec PurP 81:=GL.ok hm kr
theorem s38:uo.Spec PurP 38:=uo.ok hm kr s82 s81
theorem s39:wZ.Spec PurP 39:=wZ.ok hm kr s37
theorem cf83:bK Tryz.prog 83=some (rP 3 81 36 38):=by kernel_rfl
theorem s83:with.Spec PurP 83:=with.ok hm cf83 s81 s36 s38
theorem s40:Ws.Spec PurP 40:=Ws.ok hm kr s37 s83
theorem cf156:bK Tryz.prog 156=some (wO 3 81):=by kernel_rfl
theorem s156_1:on.Spec PurP 156:=on.ok hm cf156 s81
theorem s210:Cut.Spec PurP 210:=Cut.ok hm kr
theorem s159:Cap.Spec PurP 159:=Cap.ok hm kr s210
theorem s209:Add.Spec PurP 209:=Add.ok hm kr s159
theorem s158:By.Spec PurP 158:=Sum.ok hm kr s209
theorem s85:By.Spec PurP 85:=By.ok hm kr s158
theorem s161:most.Spec PurP 161:=most.ok hm kr
theorem cf208:bK Tryz.prog 208=some (pO 156 20 159 3 85 161):=by kernel_rfl
theorem s208:serve.Spec PurP 208:=serve.ok hm cf208 s156_1 s20 s159 s85 s161
theorem cf157:bK Tryz.prog 157=some (rR 3 155 208 85):=by kernel_rfl
theorem s157:pass.Spec PurP 157:=pass.ok hm cf157 s155 s208 s85
theorem cf84:bK Tryz.prog 84=some (rQ 79 156 20 157 3 85):=by kernel_rfl
theorem s84:free.Spec PurP 84:=free.ok hm cf84 s79 s156_1 s20 s157 s85
theorem s162:clear.Spec PurP 162:=clear.ok hm kr s156_1 s82 s85 s161
theorem cf160:bK Tryz.prog 160=some (pN 162 3 85):=by kernel_rfl
theorem s160:entry.Spec PurP 160:=entry.ok hm cf160 s162 s85
theorem s87:pQ.Spec PurP 87:=pQ.ok hm kr s160 s85 s156_1 s82 s159 s161 s162
theorem s86:Mul.Spec PurP 86:=Mul.ok hm kr s159
theorem cf41:bK Tryz.prog 41=some (rO 84 3 85 87 86):=by kernel_rfl
theorem s41:wait.Spec PurP 41:=wait.ok hm cf41 s84 s85 s87 s86
theorem cf13:bK Tryz.prog 13=some (pM 34 35 36 37 38 39 109 40 75 113 41):=by kernel_rfl
theorem s13:Table.Spec PurP 13:=Table.ok hm cf13 s34 s35 s36 s37 s38 s39 s40 s41
theorem s42:Uw.Spec PurP 42:=Uw.ok hm kr
theorem s43:XX.Spec PurP 43:=XX.ok hm kr
theorem s44:XY.Spec PurP 44:=XY.ok hm kr
theorem cf14:bK Tryz.prog 14=some (ot 24 42 43 44 107 67):=by kernel_rfl
theorem s14:qg.Spec PurP 14:=qg.ok hm cf14 s24 s42 s43 s44
theorem s163:HG.Spec PurP 163:=HG.ok hm kr
theorem s90:Cl.Spec PurP 90:=Cl.ok hm kr s163
theorem s45:Fv.Spec PurP 45:=abK.ok hm kr s90
theorem s15:lO.Spec PurP 15:=lO.ok hm kr s45
theorem s91:BQ.Spec PurP 91:=BQ.ok hm kr
theorem s46:rY.Spec PurP 46:=rY.ok hm kr s91
theorem s47:lK.Spec PurP 47:=lK.ok hm kr s46
theorem s18:pZ.Spec PurP 18:=pZ.ok hm kr
theorem s48:Dx.Spec PurP 48:=Dx.ok hm kr
theorem s49:xy.Spec PurP 49:=xy.ok hm kr
theorem s164:Ot.Spec PurP 164:=Ot.ok hm kr
theorem s246:Od.Spec PurP 246:=Od.ok hm kr
theorem s248:Oe.Spec PurP 248:=Oe.ok hm kr
theorem s301:xM.Spec PurP 301:=xM.ok hm kr
theorem s247:HR.Spec PurP 247:=HR.ok hm kr s301
theorem s255:DC.Spec PurP 255:=DC.ok hm kr
theorem s249:HS.Spec PurP 249:=HS.ok hm kr s255
theorem s302:xM.Spec PurP 302:=agL.ok hm kr
theorem s250:HT.Spec PurP 250:=HT.ok hm kr s302
theorem s236:GZ.Spec PurP 236:=GZ.ok hm kr
theorem s252:Ct.Spec PurP 252:=Ct.ok hm kr s236
theorem s303:Oc.Spec PurP 303:=Oc.ok hm kr
theorem s251:HU.Spec PurP 251:=HU.ok hm kr s303
theorem cf211:bK Tryz.prog 211=some (qa 246 42 248 247 249 250 252 251 211):=by kernel_rfl
theorem s211:HV.Spec PurP 211:=HV.ok hm cf211 s246 s42 s248 s247 s249 s250 s252 s251
theorem s256:Cr.Spec PurP 256:=Cr.ok hm kr
theorem s196:bit.Spec PurP 196:=bit.ok hm kr
theorem s144:jb.Spec PurP 144:=jb.ok hm kr s196
theorem s213:HX.Spec PurP 213:=HX.ok hm kr s255 s256 s144
theorem s123:mN.Spec PurP 123:=mN.ok hm kr s196
theorem s254:M5.Spec PurP 254:=M5.ok hm kr s123
theorem s253:Es.Spec PurP 253:=Es.ok hm kr s144
theorem s212:TN.Spec PurP 212:=TN.ok hm kr s254 s253
theorem s215:Cp.Spec PurP 215:=Cp.ok hm kr s144
theorem s216:Cq.Spec PurP 216:=Cq.ok hm kr s144
theorem s257:M6.Spec PurP 257:=M6.ok hm kr s123
theorem s258:M7.Spec PurP 258:=M7.ok hm kr s123
theorem s214:Step.Spec PurP 214:=Step.ok hm kr s257 s258 s253
theorem s259:M8.Spec PurP 259:=M8.ok hm kr s123
theorem s217:Want.Spec PurP 217:=Want.ok hm kr s212 s259 s253
theorem s67:xw.Spec PurP 67:=xw.ok hm kr
theorem s260:Hp.Spec PurP 260:=Hp.ok hm kr s67
theorem s304:NR.Spec PurP 304:=NR.ok hm kr
theorem s305:NS.Spec PurP 305:=NS.ok hm kr
theorem s317:mB.Spec PurP 317:=mB.ok hm kr s67
theorem s316:Up.Spec PurP 316:=Up.ok hm kr s317
theorem s143:Go.Eng.iY.Spec (Go.Eng.Pure Tryz.prog) 143:=Go.Eng.iY.of (by kernel_rfl) (setEach_some (Go.Eng.FH.of s123))
theorem s70:uz.Spec PurP 70:=setEach.ok hm kr s143
theorem s318:oo.Spec PurP 318:=oo.ok hm kr s70 s144
theorem s340:P4.Spec PurP 340:=P4.ok hm kr
theorem s319:Dz.Spec PurP 319:=Dz.ok hm kr s340
theorem s335:EH.Spec PurP 335:=EH.ok hm kr s318 s319
theorem s306:BZ.Spec PurP 306:=BZ.ok hm kr s316 s335 s317
theorem s338:JT.Spec PurP 338:=JT.ok hm kr s317
theorem s342:Hx.Spec PurP 342:=Hx.ok hm kr s338
theorem s343:BW.Spec PurP 343:=BW.ok hm kr
theorem s315:JU.Spec PurP 315:=JU.ok hm kr s342 s318 s343
theorem s262:DA.Spec PurP 262:=DA.ok hm kr s316 s317 s315
theorem s307:B3.Spec PurP 307:=B3.ok hm kr s317
theorem s351:BY.Spec PurP 351:=BY.ok hm kr s340 s335
theorem s336:yJ.Spec PurP 336:=yJ.ok hm kr s351 s318
theorem s308:Hy.Spec PurP 308:=Hy.ok hm kr s317 s336
theorem s309:tF.Spec PurP 309:=tF.ok hm kr s317 s335
theorem s337:NT.Spec PurP 337:=NT.ok hm kr s338
theorem s310:xC.Spec PurP 310:=xC.ok hm kr s317 s315 s337 s318
theorem s28:Aw.Spec PurP 28:=Aw.ok hm kr s67
theorem s311:B4.Spec PurP 311:=B4.ok hm kr s317 s28
theorem s312:Hz.Spec PurP 312:=Hz.ok hm kr s317 s336
theorem s339:xD.Spec PurP 339:=xD.ok hm kr s340
theorem s313:B5.Spec PurP 313:=B5.ok hm kr s317 s339 s318 s335
theorem s341:B6.Spec PurP 341:=B6.ok hm kr
theorem s314:HA.Spec PurP 314:=HA.ok hm kr s317 s341 s318
theorem s261:Cv.Spec PurP 261:=Cv.ok hm kr s304 s305 s306 s262 s307 s308 s309 s310 s311 s312 s313 s314
theorem s263:NU.Spec PurP 263:=NU.ok hm kr s317 s318 s319
theorem s344:xB.Spec PurP 344:=xB.ok hm kr
theorem s320:BX.Spec PurP 320:=BX.ok hm kr s318 s344
theorem s321:NJ.Spec PurP 321:=NJ.ok hm kr
theorem s264:NV.Spec PurP 264:=NV.ok hm kr s317 s320 s321
theorem s218:Of.Spec PurP 218:=Of.ok hm kr s260 s261 s28 s262 s263 s264
theorem s268:HE.Spec PurP 268:=HE.ok hm kr
theorem s323:JV.Spec PurP 323:=JV.ok hm kr
theorem s244:setOf.Spec PurP 244:=setOf.ok hm kr s196
theorem s345:NW.Spec PurP 345:=NW.ok hm kr s323 s244
theorem s322:NX.Spec PurP 322:=NX.ok hm kr s345
theorem s265:Cn.Spec PurP 265:=Cn.ok hm kr s268 s322
theorem cf270:bK Tryz.prog 270=some (AA 3 244):=by kernel_rfl
theorem s270:Ur.Spec PurP 270:=Ur.ok hm cf270 s244
theorem s266:NY.Spec PurP 266:=NY.ok hm kr s270
theorem s267:HD.Spec PurP 267:=HD.ok hm kr s323 s123
theorem s269:Cj.Spec PurP 269:=Cj.ok hm kr
theorem s271:NZ.Spec PurP 271:=NZ.ok hm kr s268 s70
theorem s272:tH.Spec PurP 272:=tH.ok hm kr s144
theorem s273:HM.Spec PurP 273:=HM.ok hm kr
theorem s274:yK.Spec PurP 274:=yK.ok hm kr s70
theorem s219:HN.Spec PurP 219:=HN.ok hm kr s265 s266 s267 s268 s269 s123 s144 s270 s271 s272 s273 s274
theorem s71:pOn.Spec PurP 71:=pOn.ok hm kr s144
theorem cf200:bK Tryz.prog 200=some (rW 3 244):=by kernel_rfl
theorem s200:As.Spec PurP 200:=As.ok hm cf200 s244
theorem s275:Ci.Spec PurP 275:=Ci.ok hm kr s200
theorem s220:N8.Spec PurP 220:=N8.ok hm kr s272 s71 s70 s200 s275 s144
theorem s276:each.Spec PurP 276:=each.ok hm kr s324
theorem s277:Live.Spec PurP 277:=Live.ok hm kr s276
theorem s279:Np.Spec PurP 279:=Np.ok hm kr
theorem s278:yD.Spec PurP 278:=yD.ok hm kr s144
theorem s221:WM.Spec PurP 221:=WM.ok hm kr s277 s276 s279 s278
theorem s280:G4.Spec PurP 280:=G4.ok hm kr
theorem s222:Early.Spec PurP 222:=Early.ok hm kr s278 s280 s277 s276
theorem s224:HP.Spec PurP 224:=HP.ok hm kr
theorem s223:N9.Spec PurP 223:=N9.ok hm kr s274 s200 s70
theorem s325:oq.Spec PurP 325:=oq.ok hm kr
theorem s326:HI.Spec PurP 326:=HI.ok hm kr
theorem s346:oq.Spec PurP 346:=abE.ok hm kr
theorem s327:yL.Spec PurP 327:=yL.ok hm kr s346
theorem s328:Ck.Spec PurP 328:=Ck.ok hm kr
theorem s329:N0.Spec PurP 329:=N0.ok hm kr
theorem s330:AD.Spec PurP 330:=AD.ok hm kr
theorem s281:DB.Spec PurP 281:=DB.ok hm kr s325 s326 s327 s328 s329 s330
theorem s225:HK.Spec PurP 225:=HK.ok hm kr s281
theorem s331:N3.Spec PurP 331:=N3.ok hm kr
theorem s282:N4.Spec PurP 282:=N4.ok hm kr s325 s331 s327
theorem s347:N1.Spec PurP 347:=N1.ok hm kr
theorem s348:HH.Spec PurP 348:=HH.ok hm kr
theorem s332:N2.Spec PurP 332:=N2.ok hm kr s330 s347 s348
theorem s283:Cm.Spec PurP 283:=Cm.ok hm kr s331 s332 s281 s325 s330
theorem s284:xK.Spec PurP 284:=xK.ok hm kr s325 s331
theorem s285:xL.Spec PurP 285:=xL.ok hm kr s325 s331
theorem s226:HJ.Spec PurP 226:=HJ.ok hm kr s282 s283 s284 s285
theorem s286:G2.Spec PurP 286:=G2.ok hm kr
theorem s227:G8.Spec PurP 227:=G8.ok hm kr s277 s286 s276
theorem s165:H6.Spec PurP 165:=H6.ok hm kr s211 s213 s212 s215 s216 s214 s217 s218 s219 s220 s221 s222 s224 s223 s123 s225 s226 s227
theorem s228:Im.Spec PurP 228:=Im.ok hm kr
theorem s166:Om.Spec PurP 166:=Om.ok hm kr s228
theorem s229:Ik.Spec PurP 229:=Ik.ok hm kr
theorem s350:Hu.Spec PurP 350:=Hu.ok hm kr
theorem cf333:bK Tryz.prog 333=some (iQ 349 350):=by kernel_rfl
theorem s333:Xj.Spec PurP 333:=Xj.ok hm cf333 s350
theorem s289:JQ.Spec PurP 289:=JQ.ok hm kr s333
theorem s288:Xl.Spec PurP 288:=Xl.ok hm kr s289
theorem s287:JR.Spec PurP 287:=JR.ok hm kr
theorem s290:Xm.Spec PurP 290:=Xm.ok hm kr s289
theorem s292:yI.Spec PurP 292:=yI.ok hm kr
theorem s334:NO.Spec PurP 334:=NO.ok hm kr s123 s292
theorem s293:Uo.Spec PurP 293:=Uo.ok hm kr s334 s287
theorem s291:Xn.Spec PurP 291:=Xn.ok hm kr s292 s293
theorem s294:Xp.Spec PurP 294:=Xp.ok hm kr s293
theorem s297:tC.Spec PurP 297:=tC.ok hm kr
theorem s295:tD.Spec PurP 295:=tD.ok hm kr s297
theorem s296:Xq.Spec PurP 296:=Xq.ok hm kr s297
theorem s230:BS.Spec PurP 230:=BS.ok hm kr s288 s287 s290 s291 s294 s295 s296
theorem s167:Il.Spec PurP 167:=Il.ok hm kr s229 s230
theorem s168:Hq.Spec PurP 168:=Hq.ok hm kr s67
theorem s92:Iq.Spec PurP 92:=Iq.ok hm kr s164 s165 s166 s70 s167 s168
theorem s50:It.Spec PurP 50:=It.ok hm kr s92 s45 s18 s49
theorem cf51:qE true Tryz.prog 51=some (dY 72):=by kernel_rfl
theorem s51_3:uF.Spec PurP 51:=uF.ok hm cf51
theorem s51:uI.Spec PurP 72 51:=uI.ok hm kr
theorem s51_1:uJ.Spec PurP 72 51:=uJ.ok hm kr
theorem s51_2:uK.Spec PurP 72 51:=uK.ok hm kr
theorem s16:qi.Spec PurP 16:=qi.ok hm kr s46 s47 s18 s48 s49 s50 s51_3 s51 s51_1 s51_2
theorem s26:DM.Spec PurP 26:=DM.ok hm kr
theorem s17:jw.Spec PurP 17:=jw.ok hm kr (aw52 s143) (aw30 s143) (aw21 s143) (aw22 s143) (aw53 s143)
end Go.Proofs.YtjnbemnncjbmgaaGreat
