/- The functions of this seat: their compiled code is what the library says of it, so that the contracts hold of them. -/
import Derived.Test.YtjnbemnncjbmgaaGreatChecked
import Derived.Test.YtjnbemnncjbmgaaGreatPkA21
import Derived.Test.YtjnbemnncjbmgaaGreatEachA2
import Derived.Test.YtjnbemnncjbmgaaGreatEachA1
import Derived.Test.YtjnbemnncjbmgaaGreatAwA52
import Derived.Test.YtjnbemnncjbmgaaGreatAwA30
import Derived.Test.YtjnbemnncjbmgaaGreatAwA21
import Derived.Test.YtjnbemnncjbmgaaGreatAwA22
import Derived.Test.YtjnbemnncjbmgaaGreatAwA53
namespace Go.Proofs.YtjnbemnncjbmgaaGreat
open Go.Eng
set_option maxRecDepth 100000
theorem hm:Tryz.prog.follows .mixedOrders=true:=by kernel_rfl
abbrev PurP:=Pure Tryz.prog
theorem kr{p:Prop} (h:p:=by kernel_rfl):p:=h
theorem an{a b:Bool} (h:a=true) (k:b=true):(a&&b)=true:=by rw[h,k];rfl
theorem g2:mapsRowed Tryz.prog=true:=kr
theorem g3:Tryz.prog.stopsHeard=true:=kr
theorem g4:Tryz.prog.mayEnter=true:=kr
theorem s80:At.Spec PurP 80:=At.ok hm kr
theorem s24:Place.Spec PurP 24:=Place.ok hm kr
theorem s37:from.Spec PurP 37:=from.ok hm kr s80 s24
theorem cf34:bF Tryz.prog 34=some (pT 37 3 136):=by kernel_rfl
theorem s34:rows.Spec PurP 34:=rows.ok hm cf34 s37
theorem s35:phase.Spec PurP 35:=phase.ok hm kr s37
theorem s155:cQ.Spec PurP 155 162:=cQ.ok hm kr
theorem s79:where.Spec PurP 79:=where.ok hm kr s155
theorem s36:beside.Spec PurP 36:=beside.ok hm kr s79
theorem s20:xZ.Spec PurP 20:=xZ.ok hm kr
theorem s82:sg.Spec PurP 82 3:=sg.ok hm kr s20
theorem s81:Ef.Spec PurP 81:=Ef.ok hm kr
theorem s38:sj.Spec PurP 38:=sj.ok hm kr s82 s81
theorem s39:uZ.Spec PurP 39:=uZ.ok hm kr s37
theorem cf83:bF Tryz.prog 83=some (pV 3 81 36 38):=by kernel_rfl
theorem s83:with.Spec PurP 83:=with.ok hm cf83 s81 s36 s38
theorem s40:Tv.Spec PurP 40:=Tv.ok hm kr s37 s83
theorem cf156:bF Tryz.prog 156=some (uP 3 81):=by kernel_rfl
theorem s156_1:on.Spec PurP 156:=on.ok hm cf156 s81
theorem s210:Cut.Spec PurP 210:=Cut.ok hm kr
theorem s159:Cap.Spec PurP 159:=Cap.ok hm kr s210
theorem s209:Add.Spec PurP 209:=Add.ok hm kr s159
theorem s158:zu.Spec PurP 158:=Sum.ok hm kr s209
theorem s85:zu.Spec PurP 85:=zu.ok hm kr s158
theorem s161:most.Spec PurP 161:=most.ok hm kr
theorem cf208:bF Tryz.prog 208=some (oh 156 20 159 3 85 161):=by kernel_rfl
theorem s208:serve.Spec PurP 208:=serve.ok hm cf208 s156_1 s20 s159 s85 s161
theorem cf157:bF Tryz.prog 157=some (pX 3 155 208 85):=by kernel_rfl
theorem s157:pass.Spec PurP 157:=pass.ok hm cf157 s155 s208 s85
theorem cf84:bF Tryz.prog 84=some (pW 79 156 20 157 3 85):=by kernel_rfl
theorem s84:free.Spec PurP 84:=free.ok hm cf84 s79 s156_1 s20 s157 s85
theorem s162:clear.Spec PurP 162:=clear.ok hm kr s156_1 s82 s85 s161
theorem cf160:bF Tryz.prog 160=some (og 162 3 85):=by kernel_rfl
theorem s160:entry.Spec PurP 160:=entry.ok hm cf160 s162 s85
theorem s87:Ei.Spec PurP 87:=Ei.ok hm kr s160 s85 s156_1 s82 s159 s161 s162
theorem s86:Mul.Spec PurP 86:=Mul.ok hm kr s159
theorem cf41:bF Tryz.prog 41=some (pU 84 3 85 87 86):=by kernel_rfl
theorem s41:wait.Spec PurP 41:=wait.ok hm cf41 s84 s85 s87 s86
theorem cf13:bF Tryz.prog 13=some (oe 34 35 36 37 38 39 109 40 75 113 41):=by kernel_rfl
theorem s13:Table.Spec PurP 13:=Table.ok hm cf13 s34 s35 s36 s37 s38 s39 s40 s41
theorem s42:Ra.Spec PurP 42:=Ra.ok hm kr
theorem s43:UX.Spec PurP 43:=UX.ok hm kr
theorem s44:UY.Spec PurP 44:=UY.ok hm kr
theorem cf14:bF Tryz.prog 14=some (mW 24 42 43 44 107 67):=by kernel_rfl
theorem s14:FA.Spec PurP 14:=FA.ok hm cf14 s24 s42 s43 s44
theorem s196:bit.Spec PurP 196:=bit.ok hm kr
theorem s123:lD.Spec PurP 123:=lD.ok hm kr s196
theorem s143:Go.Eng.iq.Spec (Go.Eng.Pure Tryz.prog) 143:=Go.Eng.iq.of (by kernel_rfl) (setEach_some (Go.Eng.Dd.of s123))
theorem s17:vO.Spec PurP 17:=vO.ok hm kr (aw52 s143) (aw30 s143) (aw21 s143) (aw22 s143) (aw53 s143)
theorem s163:E6.Spec PurP 163:=E6.ok hm kr
theorem s90:Aj.Spec PurP 90:=Aj.ok hm kr s163
theorem s45:CW.Spec PurP 45:=YY.ok hm kr s90
theorem s15:zN.Spec PurP 15:=zN.ok hm kr s45
theorem s91:zK.Spec PurP 91:=zK.ok hm kr
theorem s46:p9.Spec PurP 46:=p9.ok hm kr s91
theorem s47:kH.Spec PurP 47:=kH.ok hm kr s46
theorem s18:qa.Spec PurP 18:=qa.ok hm kr
theorem s48:Bj.Spec PurP 48:=Bj.ok hm kr
theorem s49:vt.Spec PurP 49:=vt.ok hm kr
theorem s164:L0.Spec PurP 164:=L0.ok hm kr
theorem s246:LL.Spec PurP 246:=LL.ok hm kr
theorem s248:LM.Spec PurP 248:=LM.ok hm kr
theorem s301:vI.Spec PurP 301:=vI.ok hm kr
theorem s247:Fi.Spec PurP 247:=Fi.ok hm kr s301
theorem s255:Bp.Spec PurP 255:=Bp.ok hm kr
theorem s249:Fj.Spec PurP 249:=Fj.ok hm kr s255
theorem s302:vI.Spec PurP 302:=adP.ok hm kr
theorem s250:Fk.Spec PurP 250:=Fk.ok hm kr s302
theorem s236:Ev.Spec PurP 236:=Ev.ok hm kr
theorem s252:Ar.Spec PurP 252:=Ar.ok hm kr s236
theorem s303:LK.Spec PurP 303:=LK.ok hm kr
theorem s251:Fp.Spec PurP 251:=Fp.ok hm kr s303
theorem cf211:bF Tryz.prog 211=some (oz 246 42 248 247 249 250 252 251 211):=by kernel_rfl
theorem s211:Fq.Spec PurP 211:=Fq.ok hm cf211 s246 s42 s248 s247 s249 s250 s252 s251
theorem s256:Aq.Spec PurP 256:=Aq.ok hm kr
theorem s144:iD.Spec PurP 144:=iD.ok hm kr s196
theorem s213:Ft.Spec PurP 213:=Ft.ok hm kr s255 s256 s144
theorem s254:Ku.Spec PurP 254:=Ku.ok hm kr s123
theorem s253:BY.Spec PurP 253:=BY.ok hm kr s144
theorem s212:Qw.Spec PurP 212:=Qw.ok hm kr s254 s253
theorem s215:Ao.Spec PurP 215:=Ao.ok hm kr s144
theorem s216:Ap.Spec PurP 216:=Ap.ok hm kr s144
theorem s257:Kv.Spec PurP 257:=Kv.ok hm kr s123
theorem s258:Kw.Spec PurP 258:=Kw.ok hm kr s123
theorem s214:Step.Spec PurP 214:=Step.ok hm kr s257 s258 s253
theorem s259:Kx.Spec PurP 259:=Kx.ok hm kr s123
theorem s217:Want.Spec PurP 217:=Want.ok hm kr s212 s259 s253
theorem s67:vr.Spec PurP 67:=vr.ok hm kr
theorem s260:EO.Spec PurP 260:=EO.ok hm kr s67
theorem s304:Ll.Spec PurP 304:=Ll.ok hm kr
theorem s305:Lm.Spec PurP 305:=Lm.ok hm kr
theorem s317:lg.Spec PurP 317:=lg.ok hm kr s67
theorem s316:Q4.Spec PurP 316:=Q4.ok hm kr s317
theorem s70:vk.Spec PurP 70:=setEach.ok hm kr s143
theorem s318:mU.Spec PurP 318:=mU.ok hm kr s70 s144
theorem s340:Np.Spec PurP 340:=Np.ok hm kr
theorem s319:Bm.Spec PurP 319:=Bm.ok hm kr s340
theorem s335:Cd.Spec PurP 335:=Cd.ok hm kr s318 s319
theorem s306:zR.Spec PurP 306:=zR.ok hm kr s316 s335 s317
theorem s338:Hq.Spec PurP 338:=Hq.ok hm kr s317
theorem s342:EY.Spec PurP 342:=EY.ok hm kr s338
theorem s343:zO.Spec PurP 343:=zO.ok hm kr
theorem s315:Hr.Spec PurP 315:=Hr.ok hm kr s342 s318 s343
theorem s262:Bn.Spec PurP 262:=Bn.ok hm kr s316 s317 s315
theorem s307:zS.Spec PurP 307:=zS.ok hm kr s317
theorem s351:zQ.Spec PurP 351:=zQ.ok hm kr s340 s335
theorem s336:wI.Spec PurP 336:=wI.ok hm kr s351 s318
theorem s308:EZ.Spec PurP 308:=EZ.ok hm kr s317 s336
theorem s309:rq.Spec PurP 309:=rq.ok hm kr s317 s335
theorem s337:Lo.Spec PurP 337:=Lo.ok hm kr s338
theorem s310:vv.Spec PurP 310:=vv.ok hm kr s317 s315 s337 s318
theorem s28:Bh.Spec PurP 28:=Bh.ok hm kr s67
theorem s311:zT.Spec PurP 311:=zT.ok hm kr s317 s28
theorem s312:E0.Spec PurP 312:=E0.ok hm kr s317 s336
theorem s339:vw.Spec PurP 339:=vw.ok hm kr s340
theorem s313:zU.Spec PurP 313:=zU.ok hm kr s317 s339 s318 s335
theorem s341:zV.Spec PurP 341:=zV.ok hm kr
theorem s314:E1.Spec PurP 314:=E1.ok hm kr s317 s341 s318
theorem s261:As.Spec PurP 261:=As.ok hm kr s304 s305 s306 s262 s307 s308 s309 s310 s311 s312 s313 s314
theorem s263:Lp.Spec PurP 263:=Lp.ok hm kr s317 s318 s319
theorem s344:vu.Spec PurP 344:=vu.ok hm kr
theorem s320:zP.Spec PurP 320:=zP.ok hm kr s318 s344
theorem s321:La.Spec PurP 321:=La.ok hm kr
theorem s264:Lq.Spec PurP 264:=Lq.ok hm kr s317 s320 s321
theorem s218:LN.Spec PurP 218:=LN.ok hm kr s260 s261 s28 s262 s263 s264
theorem s268:E5.Spec PurP 268:=E5.ok hm kr
theorem s323:Hs.Spec PurP 323:=Hs.ok hm kr
theorem s244:setOf.Spec PurP 244:=setOf.ok hm kr s196
theorem s345:Lr.Spec PurP 345:=Lr.ok hm kr s323 s244
theorem s322:Ls.Spec PurP 322:=Ls.ok hm kr s345
theorem s265:Am.Spec PurP 265:=Am.ok hm kr s268 s322
theorem cf270:bF Tryz.prog 270=some (yw 3 244):=by kernel_rfl
theorem s270:Q5.Spec PurP 270:=Q5.ok hm cf270 s244
theorem s266:Lt.Spec PurP 266:=Lt.ok hm kr s270
theorem s267:E4.Spec PurP 267:=E4.ok hm kr s323 s123
theorem s269:Ah.Spec PurP 269:=Ah.ok hm kr
theorem s271:Lu.Spec PurP 271:=Lu.ok hm kr s268 s70
theorem s272:ry.Spec PurP 272:=ry.ok hm kr s144
theorem s273:Fc.Spec PurP 273:=Fc.ok hm kr
theorem s274:wJ.Spec PurP 274:=wJ.ok hm kr s70
theorem s219:Fe.Spec PurP 219:=Fe.ok hm kr s265 s266 s267 s268 s269 s123 s144 s270 s271 s272 s273 s274
theorem s71:pOn.Spec PurP 71:=pOn.ok hm kr s144
theorem cf200:bF Tryz.prog 200=some (pZ 3 244):=by kernel_rfl
theorem s200:yl.Spec PurP 200:=yl.ok hm cf200 s244
theorem s275:Ag.Spec PurP 275:=Ag.ok hm kr s200
theorem s220:LG.Spec PurP 220:=LG.ok hm kr s272 s71 s70 s200 s275 s144
theorem s276:each.Spec PurP 276:=each.ok hm kr s324
theorem s277:Live.Spec PurP 277:=Live.ok hm kr s276
theorem s279:KR.Spec PurP 279:=KR.ok hm kr
theorem s278:wA.Spec PurP 278:=wA.ok hm kr s144
theorem s221:TP.Spec PurP 221:=TP.ok hm kr s277 s276 s279 s278
theorem s280:EA.Spec PurP 280:=EA.ok hm kr
theorem s222:Early.Spec PurP 222:=Early.ok hm kr s278 s280 s277 s276
theorem s224:Fg.Spec PurP 224:=Fg.ok hm kr
theorem s223:LH.Spec PurP 223:=LH.ok hm kr s274 s200 s70
theorem s325:mV.Spec PurP 325:=mV.ok hm kr
theorem s326:E8.Spec PurP 326:=E8.ok hm kr
theorem s346:mV.Spec PurP 346:=YS.ok hm kr
theorem s327:wK.Spec PurP 327:=wK.ok hm kr s346
theorem s328:Ai.Spec PurP 328:=Ai.ok hm kr
theorem s329:Lx.Spec PurP 329:=Lx.ok hm kr
theorem s330:yy.Spec PurP 330:=yy.ok hm kr
theorem s281:Bo.Spec PurP 281:=Bo.ok hm kr s325 s326 s327 s328 s329 s330
theorem s225:Fa.Spec PurP 225:=Fa.ok hm kr s281
theorem s331:LA.Spec PurP 331:=LA.ok hm kr
theorem s282:LB.Spec PurP 282:=LB.ok hm kr s325 s331 s327
theorem s347:Ly.Spec PurP 347:=Ly.ok hm kr
theorem s348:E7.Spec PurP 348:=E7.ok hm kr
theorem s332:Lz.Spec PurP 332:=Lz.ok hm kr s330 s347 s348
theorem s283:Ak.Spec PurP 283:=Ak.ok hm kr s331 s332 s281 s325 s330
theorem s284:vG.Spec PurP 284:=vG.ok hm kr s325 s331
theorem s285:vH.Spec PurP 285:=vH.ok hm kr s325 s331
theorem s226:E9.Spec PurP 226:=E9.ok hm kr s282 s283 s284 s285
theorem s286:Ez.Spec PurP 286:=Ez.ok hm kr
theorem s227:EF.Spec PurP 227:=EF.ok hm kr s277 s286 s276
theorem s165:Fv.Spec PurP 165:=Fv.ok hm kr s211 s213 s212 s215 s216 s214 s217 s218 s219 s220 s221 s222 s224 s223 s123 s225 s226 s227
theorem s228:FL.Spec PurP 228:=FL.ok hm kr
theorem s166:LW.Spec PurP 166:=LW.ok hm kr s228
theorem s229:FH.Spec PurP 229:=FH.ok hm kr
theorem s350:EU.Spec PurP 350:=EU.ok hm kr
theorem cf333:bF Tryz.prog 333=some (gY 349 350):=by kernel_rfl
theorem s333:Um.Spec PurP 333:=Um.ok hm cf333 s350
theorem s289:Hl.Spec PurP 289:=Hl.ok hm kr s333
theorem s288:Up.Spec PurP 288:=Up.ok hm kr s289
theorem s287:Ho.Spec PurP 287:=Ho.ok hm kr
theorem s290:Ur.Spec PurP 290:=Ur.ok hm kr s289
theorem s292:wH.Spec PurP 292:=wH.ok hm kr
theorem s334:Lh.Spec PurP 334:=Lh.ok hm kr s123 s292
theorem s293:Q3.Spec PurP 293:=Q3.ok hm kr s334 s287
theorem s291:Us.Spec PurP 291:=Us.ok hm kr s292 s293
theorem s294:Ut.Spec PurP 294:=Ut.ok hm kr s293
theorem s297:qZ.Spec PurP 297:=qZ.ok hm kr
theorem s295:rj.Spec PurP 295:=rj.ok hm kr s297
theorem s296:Uu.Spec PurP 296:=Uu.ok hm kr s297
theorem s230:zM.Spec PurP 230:=zM.ok hm kr s288 s287 s290 s291 s294 s295 s296
theorem s167:FJ.Spec PurP 167:=FJ.ok hm kr s229 s230
theorem s168:EP.Spec PurP 168:=EP.ok hm kr s67
theorem s92:FO.Spec PurP 92:=FO.ok hm kr s164 s165 s166 s70 s167 s168
theorem s50:FR.Spec PurP 50:=FR.ok hm kr s92 s45 s18 s49
theorem cf51:oK true Tryz.prog 51=some (dD 72):=by kernel_rfl
theorem s51_3:sH.Spec PurP 51:=sH.ok hm cf51
theorem s51:sK.Spec PurP 72 51:=sK.ok hm kr
theorem s51_1:sL.Spec PurP 72 51:=sL.ok hm kr
theorem s51_2:sM.Spec PurP 72 51:=sM.ok hm kr
theorem s16:FT.Spec PurP 16:=FT.ok hm kr s46 s47 s18 s48 s49 s50 s51_3 s51 s51_1 s51_2
theorem s19:zF.Spec PurP 19:=zF.ok hm kr s38
theorem s66:F7.Spec PurP 66:=F7.ok hm kr
theorem s25:F8.Spec PurP 25:=F8.ok hm kr s66
theorem s8:AO.Spec PurP 8:=AO.ok hm kr s13 s14 s24 s17 s15 s16 s19 s25
end Go.Proofs.YtjnbemnncjbmgaaGreat
