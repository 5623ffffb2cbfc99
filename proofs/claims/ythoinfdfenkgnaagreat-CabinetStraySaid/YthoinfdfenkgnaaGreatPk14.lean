/- The engine and the library,part 14 of 18: what the proofs of this seat need of them. -/
import Derived.Test.YthoinfdfenkgnaaGreatPk13
set_option linter.unnecessarySimpa false
set_option linter.unusedSimpArgs false
set_option linter.unusedVariables false
set_option linter.defProp false
set_option maxRecDepth 10000
set_option maxHeartbeats 4000000
namespace Go.Eng
open Go
structure Cu where
 start:Bool
 fin:Bool
 here:Bool
 push:Bool
 dD:Bool
 hold:Bool
 early:Bool
 cut:Bool
 deriving Inhabited,DecidableEq
def Cu.cells(c:Cu):List AV:=[B c.start,B c.fin,B c.here,B c.push,B c.dD,B c.hold,B c.early,B c.cut]
def WM(p:Ph) (st time:Int) (begin':Bool):Int×Int:=
 if st==1&&decide (time>=p.walk)then(2,1)else if st==2&&decide (time>=p.f7)then(0,0)else if st==1||st==2 then(st,cV time)
 else if begin'&&decide (p.walk>0)then(1,1)else(0,0)
def OD(st time:Int):Int×Int:=if st==1 then(2,1)else(st,time)
def Mq(p:Ph) (left:Int) (here:Bool):Int:=if here then p.Pb else if left>9999 then 9998 else if left>0 then left-1 else 0
def Gm(p:Ph) (x:Int):Int:=if p.max>(if p.top<x then p.top else x)then p.max else(if p.top<x then p.top else x)
def plE(a b:Int):Int:=if decide (b>0)&&decide (a>IntKind.i64.wrap (9223372036854775807-b))then 9223372036854775807 else if decide (b<0)&&decide (a<IntKind.i64.wrap (-9223372036854775808-b))then -9223372036854775808 else IntKind.i64.wrap (a+b)
def miE(a b:Int):Int:=if decide (b>0)&&decide (a<IntKind.i64.wrap (-9223372036854775808+b))then -9223372036854775808 else if decide (b<0)&&decide (a>IntKind.i64.wrap (9223372036854775807+b))then 9223372036854775807 else IntKind.i64.wrap (a-b)
structure Tr where
 limit:Int
 up:Int
 down:Int
 deriving Inhabited,DecidableEq
def Tr.cells(x:Tr):List AV:=[I x.limit,I x.up,I x.down]
def VM(n:Int):Int:=(if 1<(if 0>n then 0 else n)then 1 else(if 0>n then 0 else n))+1
def WN(p:Ph) (x:Tr) (jW:Bool):Tr:=if jW then⟨Gm p x.limit,VM x.up,0⟩else⟨Gm p x.limit,0,VM x.down⟩
def WO(p:Ph) (x:Tr):Tr:=if x.up==2 then⟨plE x.limit p.step,0,x.down⟩else if x.down==2 then⟨miE x.limit p.step,x.up,0⟩else x
def SR(p:Ph) (x:Tr) (jW:Bool):Tr:={WO p (WN p x jW)with limit:=Gm p (WO p (WN p x jW)).limit}
def gE(st:Int):Bool:=st==1||st==2
def yg(r:Rn) (aQ time:Int):Rn:=⟨aQ,time,0,0,0,0,0,false,false,r.limit,r.up,r.down⟩
def SS(p:Ph) (r:Rn) (c:Cu):Int×Int:=if c.cut&&r.fst==1 then OD r.fst r.dR else WM p r.fst r.dR (c.push&& !c.dD)
def bT(p:Ph) (r:Rn) (c:Cu):Bool:=!gE r.fst&&(SS p r c).1==1
def iw(p:Ph) (r:Rn) (c:Cu):Rn:=
 ⟨1,cV r.time,(SS p r c).1,(SS p r c).2,Mq p r.left c.here,if c.dD then cV r.jL else r.jL,r.extra,if bT p r c then false else r.done,if bT p r c then false else r.jW,r.limit,r.up,r.down⟩
def bU(p:Ph) (r:Rn):Bool:=decide (r.jL>=Gm p r.limit)
def dM(p:Ph) (r:Rn) (c:Cu):Bool:=(((c.dD&& !r.done)&&decide (r.time>=p.min))&& !gE r.fst)&&((r.left==0||bU p r)||c.early)
def tQ(p:Ph) (r:Rn) (c:Cu):Rn:=
 if c.fin then(if r.done then{yg r 2 1 with limit:=(SR p ⟨r.limit,r.up,r.down⟩ r.jW).limit,up:=(SR p ⟨r.limit,r.up,r.down⟩ r.jW).up,down:=(SR p ⟨r.limit,r.up,r.down⟩ r.jW).down}else yg r 2 1)
 else if dM p (iw p r c) c&&c.hold then{iw p r c with extra:=cV (iw p r c).extra}
 else if dM p (iw p r c) c then{iw p r c with done:=true,jW:=decide ((iw p r c).left>0)&&bU p (iw p r c)}else iw p r c
def RI(p:Ph) (r:Rn) (c:Cu):Rn:=if c.start then{yg r 1 1 with fst:=(WM p 0 0 c.push).1,dR:=(WM p 0 0 c.push).2,left:=p.Pb}else yg r 0 (cV r.time)
def yh(p:Ph) (r:Rn):Rn:=if r.time<p.ei then yg r 2 (cV r.time)else if p.red>0 then yg r 3 1 else yg r 0 1
def F3(p:Ph) (r:Rn):Rn:=if r.time<p.red then yg r 3 (cV r.time)else yg r 0 1
def qG(p:Ph) (r:Rn) (c:Cu):Rn:=if r.aQ==1 then tQ p r c else if r.aQ==2 then yh p r else if r.aQ==3 then F3 p r else RI p r c
def wu(p:Ph) (r:Rn) (c:Cu):Bool:=if r.aQ !=1||c.fin|| !c.hold then false else dM p (iw p r c) c
def eA(p:Ph) (r:Rn) (c:Cu):List AV:=p.cells++(r.cells++c.cells)
def CM.Spec(C:aS) (f:Nat):Prop:=∀p:Ph,C.c f [.agg p.cells] (.agg (Tr.cells ⟨p.max,0,0⟩)) none
def wz.Spec(C:aS) (f:Nat):Prop:=∀(p:Ph) (x:Tr),C.c f [.agg p.cells,.agg x.cells] (I (Gm p x.limit)) none
def H8.Spec(C:aS) (f:Nat):Prop:=∀(p:Ph) (left:Int) (here:Bool),C.c f [.agg p.cells,I left,B here] (I (Mq p left here)) none
def H9.Spec(C:aS) (f:Nat):Prop:=∀a b:Int,C.c f [I a,I b] (I (plE a b)) none
def CN.Spec(C:aS) (f:Nat):Prop:=∀a b:Int,C.c f [I a,I b] (I (miE a b)) none
def Ia.Spec(C:aS) (f:Nat):Prop:=∀(p:Ph) (x:Tr) (jW:Bool),C.c f [.agg p.cells,.agg x.cells,B jW] (.agg (SR p x jW).cells) none
def uK.Spec(C:aS) (f:Nat):Prop:=∀(p:Ph) (st time:Int) (b:Bool),C.c f [.agg p.cells,.agg [I st,I time],B b] (.agg [I (WM p st time b).1,I (WM p st time b).2]) none
def CP.Spec(C:aS) (f:Nat):Prop:=∀(st time:Int),C.c f [.agg [I st,I time]] (.agg [I (OD st time).1,I (OD st time).2]) none
def lR.Spec(C:aS) (f:Nat):Prop:=∀n:Int,C.c f [I n] (I (cV n)) none
def yj.Spec(C:aS) (f:Nat):Prop:=∀st time:Int,C.c f [.agg [I st,I time]] (B (gE st)) none
def yl.Spec(C:aS) (f:Nat):Prop:=∀p:Ph,C.c f [.agg p.cells] (.agg (Hv p).cells) none
def Ib.Spec(C:aS) (f:Nat):Prop:=∀(p:Ph) (r:Rn) (c:Cu) (a b:Int),C.c f [.agg (eA p r c),I a,I b] (.agg (yg r a b).cells) none
def Ic.Spec(C:aS) (f:Nat):Prop:=∀(p:Ph) (r:Rn) (c:Cu),C.c f [.agg (eA p r c)] (.agg (RI p r c).cells) none
def zg.Spec(C:aS) (f:Nat):Prop:=∀(p:Ph) (r:Rn) (c:Cu),C.c f [.agg (eA p r c)] (.cN [.agg (iw p r c).cells,B (dM p (iw p r c) c)]) none
def ym.Spec(C:aS) (f:Nat):Prop:=∀(p:Ph) (r:Rn) (c:Cu),C.c f [.agg (eA p r c)] (.agg (tQ p r c).cells) none
def tR.Spec(C:aS) (f:Nat):Prop:=∀(p:Ph) (r:Rn) (c:Cu),C.c f [.agg (eA p r c)] (.agg (yh p r).cells) none
def tS.Spec(C:aS) (f:Nat):Prop:=∀(p:Ph) (r:Rn) (c:Cu),C.c f [.agg (eA p r c)] (.agg (F3 p r).cells) none
def CQ.Spec(C:aS) (f:Nat):Prop:=∀(p:Ph) (r:Rn) (c:Cu),C.c f [.agg p.cells,.agg r.cells,.agg c.cells] (.agg (qG p r c).cells) none
def CR.Spec(C:aS) (f:Nat):Prop:=∀(p:Ph) (r:Rn) (c:Cu),C.c f [.agg p.cells,.agg r.cells,.agg c.cells] (B (wu p r c)) none
theorem wA(p:Ph) (r:Rn) (c:Cu):(eA p r c).length=33/\ay (eA p r c) 0 (some 13)=some (.agg p.cells)/\ay (eA p r c) 13 (some 12)=some (.agg r.cells)/\ay (eA p r c) 15 (some 2)=some (.agg [I r.fst,I r.dR])/\ay (eA p r c) 22 (some 3)=some (.agg (Tr.cells ⟨r.limit,r.up,r.down⟩))/\ay (eA p r c) 0 (some 33)=some (.agg (eA p r c)):=⟨rfl,rfl,rfl,rfl,rfl,rfl⟩
theorem F4(p:Ph) (r:Rn) (c:Cu):(eA p r c)[1]? =some (I p.min)/\(eA p r c)[2]? =some (I p.Pb)/\(eA p r c)[6]? =some (I p.ei)/\(eA p r c)[7]? =some (I p.red):=⟨rfl,rfl,rfl,rfl⟩
theorem CS(p:Ph) (r:Rn) (c:Cu):(eA p r c)[14]? =some (I r.time)/\(eA p r c)[15]? =some (I r.fst)/\(eA p r c)[17]? =some (I r.left)/\(eA p r c)[18]? =some (I r.jL)/\(eA p r c)[20]? =some (B r.done)/\(eA p r c)[21]? =some (B r.jW):=⟨rfl,rfl,rfl,rfl,rfl,rfl⟩
theorem Jq(p:Ph) (r:Rn) (c:Cu):(eA p r c)[25]? =some (B c.start)/\(eA p r c)[26]? =some (B c.fin)/\(eA p r c)[27]? =some (B c.here)/\(eA p r c)[28]? =some (B c.push)/\(eA p r c)[29]? =some (B c.dD)/\(eA p r c)[30]? =some (B c.hold)/\(eA p r c)[31]? =some (B c.early)/\(eA p r c)[32]? =some (B c.cut):=⟨rfl,rfl,rfl,rfl,rfl,rfl,rfl,rfl⟩
section
variable{P:Program} (hm:P.follows .mixedOrders=true) {f:Nat}
include hm
omit hm in
theorem OE(n:Int):(if 9999<(if 0>n then 0 else n)then 9999 else(if 0>n then 0 else n))=fj n 0 9999:=by
 unfold fj;split<;>split<;>(try split)<;>omega
theorem lR.ok(hc:bF P f=some vz):lR.Spec (Pure P) f:=by
 intro n
 have h1:=OE n
 refine ak hm hc (by show 1<=7;decide) (aj (keep:=[]) (i:=0) ?_)
 try simp only[I,B,D,RX,↓KW,seval,vz,Z.H]
 rw[h1];rfl
theorem RJ.ok(hc:bF P f=some Ak):lR.Spec (Pure P) f:=by
 intro n
 have h1:=OE n
 refine ak hm hc (by show 1<=7;decide) (aj (keep:=[]) (i:=0) ?_)
 try simp only[I,B,D,RX,↓KW,seval,Ak,Z.H]
 rw[h1];rfl
theorem CM.ok(hc:bF P f=some xW):CM.Spec (Pure P) f:=by
 intro p
 refine ak hm hc (by show 1<=6;decide) (aj (keep:=[]) (i:=0) ?_)
 try simp only[I,B,D,RX,↓KW,seval,xW,Z.H,Ph.cells]
 rfl
theorem wz.ok(hc:bF P f=some yc):wz.Spec (Pure P) f:=by
 intro p x
 refine ak hm hc (by show 2<=13;decide) (aj (keep:=[]) (i:=0) ?_)
 try simp only[I,B,D,RX,↓KW,seval,yc,Z.H,Ph.cells,Tr.cells]
 rfl
theorem H9.ok(hc:bF P f=some Am):H9.Spec (Pure P) f:=by
 intro a b
 refine ak hm hc (by show 2<=26;decide) (aj (keep:=[]) (i:=0) ?_)
 try simp only[I,B,D,RX,↓KW,seval,Am,Z.H]
 cases h1:decide (b>0)<;>cases h2:decide (a>IntKind.i64.wrap (9223372036854775807-b))<;>cases h3:decide (b<0)<;>cases h4:decide (a<IntKind.i64.wrap (-9223372036854775808-b))<;>
 (try simp only[I,B,D,RX,↓KW,seval,h1,h2,h3,h4];try(try simp only[I,B,D,RX,↓KW,seval,h1,h2,h3,h4]);rw[plE,h1,h2,h3,h4];rfl)
theorem CN.ok(hc:bF P f=some yd):CN.Spec (Pure P) f:=by
 intro a b
 refine ak hm hc (by show 2<=26;decide) (aj (keep:=[]) (i:=0) ?_)
 try simp only[I,B,D,RX,↓KW,seval,yd,Z.H]
 cases h1:decide (b>0)<;>cases h2:decide (a<IntKind.i64.wrap (-9223372036854775808+b))<;>cases h3:decide (b<0)<;>cases h4:decide (a>IntKind.i64.wrap (9223372036854775807+b))<;>
 (try simp only[I,B,D,RX,↓KW,seval,h1,h2,h3,h4];try(try simp only[I,B,D,RX,↓KW,seval,h1,h2,h3,h4]);rw[miE,h1,h2,h3,h4];rfl)
theorem H8.ok(hc:bF P f=some Ai):H8.Spec (Pure P) f:=by
 intro p left here
 refine ak hm hc (by show 3<=19;decide) (aj (keep:=[]) (i:=0) ?_)
 try simp only[I,B,D,RX,↓KW,seval,Ai,Z.H,Ph.cells]
 cases here
 ·try simp only[I,B,D,RX,↓KW,seval,Ph.cells]
  cases h1:decide (left>9999)
  ·try simp only[I,B,D,RX,↓KW,seval,h1]
   cases h2:decide (left>0)
   ·try simp only[I,B,D,RX,↓KW,seval,h2]
    have a:=of_decide_eq_false h1
    have b:=of_decide_eq_false h2
    simp only[Mq,if_neg a,if_neg b,Bool.false_eq_true,if_false]
   ·try simp only[I,B,D,RX,↓KW,seval,h2]
    have a:=of_decide_eq_false h1
    have b:=of_decide_eq_true h2
    rw[aW (by omega) (by omega)]
    simp only[Mq,if_neg a,if_pos b,Bool.false_eq_true,if_false]
  ·try simp only[I,B,D,RX,↓KW,seval,h1]
   have a:=of_decide_eq_true h1
   simp only[Mq,if_pos a,Bool.false_eq_true,if_false]
   try rfl
 ·try simp only[I,B,D,RX,↓KW,seval,Ph.cells]
  try rfl
theorem Ia.ok{fL fP fM:Nat} (hc:bF P f=some (Aj fL fP fM)) (hL:wz.Spec (Pure P) fL) (hP:H9.Spec (Pure P) fP) (hM:CN.Spec (Pure P) fM):Ia.Spec (Pure P) f:=by
 intro p x jW
 have q:∀p:Ph,p.cells.length=13/\ay p.cells 0 (some 13)=some (.agg p.cells)/\p.cells[5]? =some (I p.step):=fun _=>⟨rfl,rfl,rfl⟩
 have qx:∀x:Tr,x.cells.length=3/\ay x.cells 0 (some 3)=some (.agg x.cells)/\x.cells[0]? =some (I x.limit)/\x.cells[1]? =some (I x.up)/\x.cells[2]? =some (I x.down):=fun _=>⟨rfl,rfl,rfl,rfl,rfl⟩
 have hw:∀n:Int,IntKind.i64.wrap ((if 1<(if 0>n then 0 else n)then 1 else(if 0>n then 0 else n))+1)=VM n:=fun n=>by
  rw[aW (by split<;>split<;>omega) (by split<;>split<;>omega)];rfl
 have z3:∀x:Tr,setCells [I 0,I 0,I 0] 0 x.cells=x.cells:=fun _=>rfl
 have z3':∀a b c:Int,setCells [I 0,I 0,I 0] 0 [I a,I b,I c]=Tr.cells ⟨a,b,c⟩:=fun _ _ _=>rfl
 have s0:∀(x:Tr) (y:Int),setCells x.cells 0 [I y]=({x with limit:=y}:Tr).cells:=fun _ _=>rfl
 have s1:∀(x:Tr) (y:Int),setCells x.cells 1 [I y]=({x with up:=y}:Tr).cells:=fun _ _=>rfl
 have s2:∀(x:Tr) (y:Int),setCells x.cells 2 [I y]=({x with down:=y}:Tr).cells:=fun _ _=>rfl
 refine ak hm hc (by show 3<=52;decide) (aj (keep:=[]) (i:=0) ?_)
 try simp only[I,B,D,RY,↓KW,seval,Aj,Z.H,q,qx,hw,z3,z3',s0,s1,s2]
 refine af (hL p x) ?_;try simp only[I,B,D,RY,↓KW,seval,q,qx,hw,z3,z3',s0,s1,s2]
 cases jW
 ·try simp only[I,B,D,RY,↓KW,seval,q,qx,hw,z3,z3',s0,s1,s2]
  cases h2:(VM x.down==2)
  ·try simp only[I,B,D,RY,↓KW,seval,q,qx,hw,z3,z3',s0,s1,s2,h2]
   refine af (hL p ⟨Gm p x.limit,0,VM x.down⟩) ?_;try simp only[I,B,D,RY,↓KW,seval,q,qx,hw,z3,z3',s0,s1,s2]
   simp[SR,WN,WO,h2]
  ·try simp only[I,B,D,RY,↓KW,seval,q,qx,hw,z3,z3',s0,s1,s2,h2]
   refine af (hM (Gm p x.limit) p.step) ?_;try simp only[I,B,D,RY,↓KW,seval,q,qx,hw,z3,z3',s0,s1,s2]
   refine af (hL p ⟨miE (Gm p x.limit) p.step,0,0⟩) ?_;try simp only[I,B,D,RY,↓KW,seval,q,qx,hw,z3,z3',s0,s1,s2]
   simp[SR,WN,WO,h2]
 ·try simp only[I,B,D,RY,↓KW,seval,q,qx,hw,z3,z3',s0,s1,s2]
  cases h2:(VM x.up==2)
  ·try simp only[I,B,D,RY,↓KW,seval,q,qx,hw,z3,z3',s0,s1,s2,h2]
   refine af (hL p ⟨Gm p x.limit,VM x.up,0⟩) ?_;try simp only[I,B,D,RY,↓KW,seval,q,qx,hw,z3,z3',s0,s1,s2]
   simp[SR,WN,WO,h2]
  ·try simp only[I,B,D,RY,↓KW,seval,q,qx,hw,z3,z3',s0,s1,s2,h2]
   refine af (hP (Gm p x.limit) p.step) ?_;try simp only[I,B,D,RY,↓KW,seval,q,qx,hw,z3,z3',s0,s1,s2]
   refine af (hL p ⟨plE (Gm p x.limit) p.step,0,0⟩) ?_;try simp only[I,B,D,RY,↓KW,seval,q,qx,hw,z3,z3',s0,s1,s2]
   simp[SR,WN,WO,h2]
theorem uK.ok{fM:Nat} (hc:bF P f=some (Ah fM)) (hM:lR.Spec (Pure P) fM):uK.Spec (Pure P) f:=by
 intro p st time b
 refine ak hm hc (by show 3<=53;decide) (aj (keep:=[]) (i:=0) ?_)
 try simp only[I,B,D,RX,↓KW,seval,Ah,Z.H,Ph.cells]
 cases h1:(st==1)<;>cases h2:(st==2)<;>cases h3:decide (time>=p.walk)<;>cases h4:decide (time>=p.f7)<;>cases b<;>cases h5:decide (p.walk>0)
 all_goals try simp only[I,B,D,RX,↓KW,seval,h1,h2,h3,h4,h5,Ph.cells]
 all_goals try simp only[I,B,D,RX,↓KW,seval,h1,h2,h3,h4,h5,Ph.cells]
 all_goals(try(refine af (hM _) ?_))
 all_goals try simp only[I,B,D,RX,↓KW,seval,h1,h2,h3,h4,h5,Ph.cells]
 all_goals simp only[WM,h1,h2,h3,h4,h5,Bool.true_and,Bool.false_and,Bool.and_true,Bool.and_false,Bool.or_true,Bool.or_false,Bool.true_or,Bool.false_or,Bool.false_eq_true,if_true,if_false]
theorem CP.ok(hc:bF P f=some CG):CP.Spec (Pure P) f:=by
 intro st time
 refine ak hm hc (by show 1<=8;decide) (aj (keep:=[]) (i:=0) ?_)
 try simp only[I,B,D,RX,↓KW,seval,CG,Z.H]
 cases h1:(st==1)
 ·try simp only[I,B,D,RX,↓KW,seval,h1]
  simp[OD,h1]
 ·try simp only[I,B,D,RX,↓KW,seval,h1]
  simp[OD,h1]
theorem yj.ok(hc:bF P f=some tO):yj.Spec (Pure P) f:=by
 intro st time
 refine ak hm hc (by show 1<=11;decide) (aj (keep:=[]) (i:=0) ?_)
 try simp only[I,B,D,RX,↓KW,seval,tO,Z.H]
 cases h1:(st==1)
 ·try simp only[I,B,D,RX,↓KW,seval,h1]
  simp[gE,h1]
 ·try simp only[I,B,D,RX,↓KW,seval,h1]
  simp[gE,h1]
theorem yl.ok{fG:Nat} (hc:bF P f=some (tK fG)) (hG:CM.Spec (Pure P) fG):yl.Spec (Pure P) f:=by
 intro p
 have q:ay p.cells 0 (some 13)=some (.agg p.cells):=rfl
 refine ak hm hc (by show 1<=6;decide) (aj (keep:=[]) (i:=0) ?_)
 try simp only[I,B,D,RX,↓KW,seval,tK,Z.H,q]
 refine af (hG p) ?_;try simp only[I,B,D,RX,↓KW,seval,Tr.cells,aP]
 rfl
theorem Ib.ok(hc:bF P f=some pQ):Ib.Spec (Pure P) f:=by
 intro p r c a b
 have t1:=wA p r c
 refine ak hm hc (by show 3<=13;decide) (aj (keep:=[]) (i:=0) ?_)
 try simp only[I,B,D,RX,↓KW,seval,pQ,Z.H,t1,Tr.cells,aP]
 rfl
theorem Ic.ok{fM fA fP:Nat} (hc:bF P f=some (od fM fA fP)) (hM:lR.Spec (Pure P) fM) (hA:Ib.Spec (Pure P) fA) (hP:uK.Spec (Pure P) fP):Ic.Spec (Pure P) f:=by
 intro p r c
 have t1:=wA p r c
 have t2:=F4 p r c
 have t3:=CS p r c
 have t4:=Jq p r c
 refine ak hm hc (by show 1<=29;decide) (aj (keep:=[]) (i:=0) ?_)
 try simp only[I,B,D,RX,↓KW,seval,od,Z.H,t1,t2,t3,t4,aP]
 cases h1:c.start
 ·try simp only[I,B,D,RX,↓KW,seval,h1,t1,t2,t3,t4]
  refine af (hM _) ?_;try simp only[I,B,D,RX,↓KW,seval,t1,t2,t3,t4]
  refine af (hA p r c _ _) ?_;try simp only[I,B,D,RX,↓KW,seval,t1,t2,t3,t4,Rn.cells,yg,aP]
  simp[RI,h1,yg,Rn.cells]
 ·try simp only[I,B,D,RX,↓KW,seval,h1,t1,t2,t3,t4]
  refine af (hA p r c _ _) ?_;try simp only[I,B,D,RX,↓KW,seval,t1,t2,t3,t4,Rn.cells,yg,aP]
  refine dG rfl ?_;try simp only[I,B,D,RX,↓KW,seval,t1,t2,t3,t4,Rn.cells,yg,aP]
  refine af (hP p 0 0 c.push) ?_;try simp only[I,B,D,RX,↓KW,seval,t1,t2,t3,t4,Rn.cells,yg,aP]
  simp[RI,h1,yg,Rn.cells]
theorem tR.ok{fM fA:Nat} (hc:bF P f=some (lz fM fA)) (hM:lR.Spec (Pure P) fM) (hA:Ib.Spec (Pure P) fA):tR.Spec (Pure P) f:=by
 intro p r c
 have t1:=wA p r c
 have t2:=F4 p r c
 have t3:=CS p r c
 refine ak hm hc (by show 1<=26;decide) (aj (keep:=[]) (i:=0) ?_)
 try simp only[I,B,D,RX,↓KW,seval,lz,Z.H,t1,t2,t3,aP]
 cases h1:decide (r.time<p.ei)
 ·have a:=of_decide_eq_false h1
  try simp only[I,B,D,RX,↓KW,seval,h1,t1,t2,t3]
  cases h2:decide (p.red>0)
  ·have b:=of_decide_eq_false h2
   try simp only[I,B,D,RX,↓KW,seval,h2,t1,t2,t3]
   refine af (hA p r c _ _) ?_;try simp only[I,B,D,RX,↓KW,seval,t1,t2,t3,Rn.cells,yg,aP]
   simp only[yh,if_neg a,if_neg b,yg,Rn.cells]
  ·have b:=of_decide_eq_true h2
   try simp only[I,B,D,RX,↓KW,seval,h2,t1,t2,t3]
   refine af (hA p r c _ _) ?_;try simp only[I,B,D,RX,↓KW,seval,t1,t2,t3,Rn.cells,yg,aP]
   simp only[yh,if_neg a,if_pos b,yg,Rn.cells]
 ·have a:=of_decide_eq_true h1
  try simp only[I,B,D,RX,↓KW,seval,h1,t1,t2,t3]
  refine af (hM _) ?_;try simp only[I,B,D,RX,↓KW,seval,t1,t2,t3]
  refine af (hA p r c _ _) ?_;try simp only[I,B,D,RX,↓KW,seval,t1,t2,t3,Rn.cells,yg,aP]
  simp only[yh,if_pos a,yg,Rn.cells]
theorem tS.ok{fM fA:Nat} (hc:bF P f=some (lA fM fA)) (hM:lR.Spec (Pure P) fM) (hA:Ib.Spec (Pure P) fA):tS.Spec (Pure P) f:=by
 intro p r c
 have t1:=wA p r c
 have t2:=F4 p r c
 have t3:=CS p r c
 refine ak hm hc (by show 1<=18;decide) (aj (keep:=[]) (i:=0) ?_)
 try simp only[I,B,D,RX,↓KW,seval,lA,Z.H,t1,t2,t3,aP]
 cases h1:decide (r.time<p.red)
 ·have a:=of_decide_eq_false h1
  try simp only[I,B,D,RX,↓KW,seval,h1,t1,t2,t3]
  refine af (hA p r c _ _) ?_;try simp only[I,B,D,RX,↓KW,seval,t1,t2,t3,Rn.cells,yg,aP]
  simp only[F3,if_neg a,yg,Rn.cells]
 ·have a:=of_decide_eq_true h1
  try simp only[I,B,D,RX,↓KW,seval,h1,t1,t2,t3]
  refine af (hM _) ?_;try simp only[I,B,D,RX,↓KW,seval,t1,t2,t3]
  refine af (hA p r c _ _) ?_;try simp only[I,B,D,RX,↓KW,seval,t1,t2,t3,Rn.cells,yg,aP]
  simp only[F3,if_pos a,yg,Rn.cells]
omit hm in
theorem bc(b:Bool):b=false\/b=true:=by cases b<;>simp
set_option maxHeartbeats 40000000 in
theorem zg.ok{fM fC fP fS fL fI:Nat} (hc:bF P f=some (nw fM fC fP fS fL fI)) (hM:lR.Spec (Pure P) fM) (hC:CP.Spec (Pure P) fC) (hP:uK.Spec (Pure P) fP) (hS:yj.Spec (Pure P) fS) (hL:H8.Spec (Pure P) fL) (hI:wz.Spec (Pure P) fI):zg.Spec (Pure P) f:=by
 intro p r c
 have t1:=wA p r c
 have t2:=F4 p r c
 have t3:=CS p r c
 have t4:=Jq p r c
 obtain⟨a,b,hab⟩:∃a b,SS p r c=(a,b):=⟨_,_,rfl⟩
 obtain⟨d,hd⟩:∃d,bT p r c=d:=⟨_,rfl⟩
 refine ak hm hc (by show 1<=120;decide) (aj (keep:=[]) (i:=0) ?_)
 try simp only[I,B,D,RX,↓KW,seval,nw,Z.H,t1,t2,t3,t4,aP,Rn.cells]
 refine af (hM _) ?_;try simp only[I,B,D,RX,↓KW,seval,t1,t2,t3,t4,Rn.cells]
 have hP2:∀q,(c.push&& !c.dD)=q->((c.cut&&r.fst==1)=false)->(Pure P).c fP [.agg p.cells,.agg [I r.fst,I r.dR],B q] (.agg [I a,I b]) none:=fun q h1 h2=>by
  have h3:=hP p r.fst r.dR q
  have hF:=hab
  rw[SS,h2,h1]at hF;simp only[Bool.false_eq_true,if_false]at hF;rw[hF]at h3;exact h3
 have hC2:c.cut=true->(r.fst==1)=true->(Pure P).c fC [.agg [I r.fst,I r.dR]] (.agg [I a,I b]) none:=fun h1 h2=>by
  have h3:=hC r.fst r.dR
  have hF:=hab
  rw[SS,h1,h2]at hF;simp only[Bool.and_self,if_true]at hF;rw[hF]at h3;exact h3
 have J:(c.cut=false/\(c.cut&&r.fst==1)=false)\/(c.cut=true/\(r.fst==1)=false/\(c.cut&&r.fst==1)=false)\/(c.cut=true/\(r.fst==1)=true/\(c.cut&&r.fst==1)=true):=by
  rcases bc c.cut with h|h<;>rcases bc (r.fst==1)with h'|h'<;>simp[h,h']
 have K:(c.push=false/\(c.push&& !c.dD)=false)\/(c.push=true/\c.dD=false/\(c.push&& !c.dD)=true)\/(c.push=true/\c.dD=true/\(c.push&& !c.dD)=false):=by
  rcases bc c.push with h|h<;>rcases bc c.dD with h'|h'<;>simp[h,h']
 rcases J with⟨j1,j3⟩|⟨j1,j2,j3⟩|⟨j1,j2,j3⟩
 ·try simp only[I,B,D,RX,↓KW,seval,j1,t1,t2,t3,t4,Rn.cells]
  rcases K with⟨k1,k3⟩|⟨k1,k2,k3⟩|⟨k1,k2,k3⟩
  ·try simp only[I,B,D,RX,↓KW,seval,k1,t1,t2,t3,t4,Rn.cells]
   refine af (hP2 _ k3 j3) ?_;try simp only[I,B,D,RX,↓KW,seval,t1,t2,t3,t4,Rn.cells]
   refine af (hS r.fst r.dR) ?_;try simp only[I,B,D,RX,↓KW,seval,t1,t2,t3,t4,Rn.cells]
   rcases bc (gE r.fst)with hs|hs
   all_goals try simp only[I,B,D,RX,↓KW,seval,hs,t1,t2,t3,t4,Rn.cells]
   rcases bc (a==1)with ha|ha
   all_goals try simp only[I,B,D,RX,↓KW,seval,ha,t1,t2,t3,t4,Rn.cells]
   all_goals(refine af (hL p r.left c.here) ?_)
   all_goals try simp only[I,B,D,RX,↓KW,seval,t1,t2,t3,t4,Rn.cells]
   all_goals rcases bc c.dD with hpr|hpr
   all_goals try simp only[I,B,D,RX,↓KW,seval,hpr,t1,t2,t3,t4,Rn.cells]
   all_goals(try(refine af (hM r.jL) ?_))
   all_goals try simp only[I,B,D,RX,↓KW,seval,t1,t2,t3,t4,Rn.cells]
   all_goals(refine af (hI p ⟨r.limit,r.up,r.down⟩) ?_)
   all_goals try simp only[I,B,D,RX,↓KW,seval,hpr,t1,t2,t3,t4,Rn.cells]
   all_goals(refine dG rfl ?_)
   all_goals try simp only[I,B,D,RX,↓KW,seval,hpr,t1,t2,t3,t4,Rn.cells]
   all_goals(first|(show AV.cN _=AV.cN _;simp[iw,dM,bU,bT,Rn.cells,hab,hs,hpr, *];done)|(rcases bc r.done with hdn|hdn<;>try simp only[I,B,D,RX,↓KW,seval,hdn,t1,t2,t3,t4,Rn.cells]))
   all_goals(first|(show AV.cN _=AV.cN _;simp[iw,dM,bU,bT,Rn.cells,hab,hs,hpr, *];done)|(rcases bc (decide (cV r.time>=p.min))with ht|ht<;>try simp only[I,B,D,RX,↓KW,seval,ht,t1,t2,t3,t4,Rn.cells]))
   all_goals(first|(show AV.cN _=AV.cN _;simp[iw,dM,bU,bT,Rn.cells,hab,hs,hpr, *];done)|(refine af (hS a b) ?_))
   all_goals try simp only[I,B,D,RX,↓KW,seval,t1,t2,t3,t4,Rn.cells]
   all_goals(first|(show AV.cN _=AV.cN _;simp[iw,dM,bU,bT,Rn.cells,hab,hs,hpr, *];done)|(rcases bc (gE a)with hsa|hsa<;>try simp only[I,B,D,RX,↓KW,seval,hsa,t1,t2,t3,t4,Rn.cells]))
   all_goals(first|(show AV.cN _=AV.cN _;simp[iw,dM,bU,bT,Rn.cells,hab,hs,hpr, *];done)|(rcases bc (Mq p r.left c.here==0)with hl|hl<;>try simp only[I,B,D,RX,↓KW,seval,hl,t1,t2,t3,t4,Rn.cells]))
   all_goals(first|(show AV.cN _=AV.cN _;simp[iw,dM,bU,bT,Rn.cells,hab,hs,hpr, *];done)|(rcases bc (decide (cV r.jL>=Gm p r.limit))with hlo|hlo<;>try simp only[I,B,D,RX,↓KW,seval,hlo,t1,t2,t3,t4,Rn.cells]))
   all_goals(first|(show AV.cN _=AV.cN _;simp[iw,dM,bU,bT,Rn.cells,hab,hs,hpr, *];done)|(rcases bc c.early with he|he<;>try simp only[I,B,D,RX,↓KW,seval,he,t1,t2,t3,t4,Rn.cells]))
   all_goals(first|(show AV.cN _=AV.cN _;simp[iw,dM,bU,bT,Rn.cells,hab,hs,hpr, *];done)|skip)
  ·try simp only[I,B,D,RX,↓KW,seval,k1,k2,t1,t2,t3,t4,Rn.cells]
   refine af (hP2 _ k3 j3) ?_;try simp only[I,B,D,RX,↓KW,seval,t1,t2,t3,t4,Rn.cells]
   refine af (hS r.fst r.dR) ?_;try simp only[I,B,D,RX,↓KW,seval,t1,t2,t3,t4,Rn.cells]
   rcases bc (gE r.fst)with hs|hs
   all_goals try simp only[I,B,D,RX,↓KW,seval,hs,t1,t2,t3,t4,Rn.cells]
   rcases bc (a==1)with ha|ha
   all_goals try simp only[I,B,D,RX,↓KW,seval,ha,t1,t2,t3,t4,Rn.cells]
   all_goals(refine af (hL p r.left c.here) ?_)
   all_goals try simp only[I,B,D,RX,↓KW,seval,t1,t2,t3,t4,Rn.cells]
   all_goals rcases bc c.dD with hpr|hpr
   all_goals try simp only[I,B,D,RX,↓KW,seval,hpr,t1,t2,t3,t4,Rn.cells]
   all_goals(try(refine af (hM r.jL) ?_))
   all_goals try simp only[I,B,D,RX,↓KW,seval,t1,t2,t3,t4,Rn.cells]
   all_goals(refine af (hI p ⟨r.limit,r.up,r.down⟩) ?_)
   all_goals try simp only[I,B,D,RX,↓KW,seval,hpr,t1,t2,t3,t4,Rn.cells]
   all_goals(refine dG rfl ?_)
   all_goals try simp only[I,B,D,RX,↓KW,seval,hpr,t1,t2,t3,t4,Rn.cells]
   all_goals(first|(show AV.cN _=AV.cN _;simp[iw,dM,bU,bT,Rn.cells,hab,hs,hpr, *];done)|(rcases bc r.done with hdn|hdn<;>try simp only[I,B,D,RX,↓KW,seval,hdn,t1,t2,t3,t4,Rn.cells]))
   all_goals(first|(show AV.cN _=AV.cN _;simp[iw,dM,bU,bT,Rn.cells,hab,hs,hpr, *];done)|(rcases bc (decide (cV r.time>=p.min))with ht|ht<;>try simp only[I,B,D,RX,↓KW,seval,ht,t1,t2,t3,t4,Rn.cells]))
   all_goals(first|(show AV.cN _=AV.cN _;simp[iw,dM,bU,bT,Rn.cells,hab,hs,hpr, *];done)|(refine af (hS a b) ?_))
   all_goals try simp only[I,B,D,RX,↓KW,seval,t1,t2,t3,t4,Rn.cells]
   all_goals(first|(show AV.cN _=AV.cN _;simp[iw,dM,bU,bT,Rn.cells,hab,hs,hpr, *];done)|(rcases bc (gE a)with hsa|hsa<;>try simp only[I,B,D,RX,↓KW,seval,hsa,t1,t2,t3,t4,Rn.cells]))
   all_goals(first|(show AV.cN _=AV.cN _;simp[iw,dM,bU,bT,Rn.cells,hab,hs,hpr, *];done)|(rcases bc (Mq p r.left c.here==0)with hl|hl<;>try simp only[I,B,D,RX,↓KW,seval,hl,t1,t2,t3,t4,Rn.cells]))
   all_goals(first|(show AV.cN _=AV.cN _;simp[iw,dM,bU,bT,Rn.cells,hab,hs,hpr, *];done)|(rcases bc (decide (cV r.jL>=Gm p r.limit))with hlo|hlo<;>try simp only[I,B,D,RX,↓KW,seval,hlo,t1,t2,t3,t4,Rn.cells]))
   all_goals(first|(show AV.cN _=AV.cN _;simp[iw,dM,bU,bT,Rn.cells,hab,hs,hpr, *];done)|(rcases bc c.early with he|he<;>try simp only[I,B,D,RX,↓KW,seval,he,t1,t2,t3,t4,Rn.cells]))
   all_goals(first|(show AV.cN _=AV.cN _;simp[iw,dM,bU,bT,Rn.cells,hab,hs,hpr, *];done)|skip)
  ·try simp only[I,B,D,RX,↓KW,seval,k1,k2,t1,t2,t3,t4,Rn.cells]
   refine af (hP2 _ k3 j3) ?_;try simp only[I,B,D,RX,↓KW,seval,t1,t2,t3,t4,Rn.cells]
   refine af (hS r.fst r.dR) ?_;try simp only[I,B,D,RX,↓KW,seval,t1,t2,t3,t4,Rn.cells]
   rcases bc (gE r.fst)with hs|hs
   all_goals try simp only[I,B,D,RX,↓KW,seval,hs,t1,t2,t3,t4,Rn.cells]
   rcases bc (a==1)with ha|ha
   all_goals try simp only[I,B,D,RX,↓KW,seval,ha,t1,t2,t3,t4,Rn.cells]
   all_goals(refine af (hL p r.left c.here) ?_)
   all_goals try simp only[I,B,D,RX,↓KW,seval,t1,t2,t3,t4,Rn.cells]
   all_goals rcases bc c.dD with hpr|hpr
   all_goals try simp only[I,B,D,RX,↓KW,seval,hpr,t1,t2,t3,t4,Rn.cells]
   all_goals(try(refine af (hM r.jL) ?_))
   all_goals try simp only[I,B,D,RX,↓KW,seval,t1,t2,t3,t4,Rn.cells]
   all_goals(refine af (hI p ⟨r.limit,r.up,r.down⟩) ?_)
   all_goals try simp only[I,B,D,RX,↓KW,seval,hpr,t1,t2,t3,t4,Rn.cells]
   all_goals(refine dG rfl ?_)
   all_goals try simp only[I,B,D,RX,↓KW,seval,hpr,t1,t2,t3,t4,Rn.cells]
   all_goals(first|(show AV.cN _=AV.cN _;simp[iw,dM,bU,bT,Rn.cells,hab,hs,hpr, *];done)|(rcases bc r.done with hdn|hdn<;>try simp only[I,B,D,RX,↓KW,seval,hdn,t1,t2,t3,t4,Rn.cells]))
   all_goals(first|(show AV.cN _=AV.cN _;simp[iw,dM,bU,bT,Rn.cells,hab,hs,hpr, *];done)|(rcases bc (decide (cV r.time>=p.min))with ht|ht<;>try simp only[I,B,D,RX,↓KW,seval,ht,t1,t2,t3,t4,Rn.cells]))
   all_goals(first|(show AV.cN _=AV.cN _;simp[iw,dM,bU,bT,Rn.cells,hab,hs,hpr, *];done)|(refine af (hS a b) ?_))
   all_goals try simp only[I,B,D,RX,↓KW,seval,t1,t2,t3,t4,Rn.cells]
   all_goals(first|(show AV.cN _=AV.cN _;simp[iw,dM,bU,bT,Rn.cells,hab,hs,hpr, *];done)|(rcases bc (gE a)with hsa|hsa<;>try simp only[I,B,D,RX,↓KW,seval,hsa,t1,t2,t3,t4,Rn.cells]))
   all_goals(first|(show AV.cN _=AV.cN _;simp[iw,dM,bU,bT,Rn.cells,hab,hs,hpr, *];done)|(rcases bc (Mq p r.left c.here==0)with hl|hl<;>try simp only[I,B,D,RX,↓KW,seval,hl,t1,t2,t3,t4,Rn.cells]))
   all_goals(first|(show AV.cN _=AV.cN _;simp[iw,dM,bU,bT,Rn.cells,hab,hs,hpr, *];done)|(rcases bc (decide (cV r.jL>=Gm p r.limit))with hlo|hlo<;>try simp only[I,B,D,RX,↓KW,seval,hlo,t1,t2,t3,t4,Rn.cells]))
   all_goals(first|(show AV.cN _=AV.cN _;simp[iw,dM,bU,bT,Rn.cells,hab,hs,hpr, *];done)|(rcases bc c.early with he|he<;>try simp only[I,B,D,RX,↓KW,seval,he,t1,t2,t3,t4,Rn.cells]))
   all_goals(first|(show AV.cN _=AV.cN _;simp[iw,dM,bU,bT,Rn.cells,hab,hs,hpr, *];done)|skip)
 ·try simp only[I,B,D,RX,↓KW,seval,j1,j2,t1,t2,t3,t4,Rn.cells]
  try simp only[I,B,D,RX,↓KW,seval,j1,j2,t1,t2,t3,t4,Rn.cells]
  rcases K with⟨k1,k3⟩|⟨k1,k2,k3⟩|⟨k1,k2,k3⟩
  ·try simp only[I,B,D,RX,↓KW,seval,k1,t1,t2,t3,t4,Rn.cells]
   refine af (hP2 _ k3 j3) ?_;try simp only[I,B,D,RX,↓KW,seval,t1,t2,t3,t4,Rn.cells]
   refine af (hS r.fst r.dR) ?_;try simp only[I,B,D,RX,↓KW,seval,t1,t2,t3,t4,Rn.cells]
   rcases bc (gE r.fst)with hs|hs
   all_goals try simp only[I,B,D,RX,↓KW,seval,hs,t1,t2,t3,t4,Rn.cells]
   rcases bc (a==1)with ha|ha
   all_goals try simp only[I,B,D,RX,↓KW,seval,ha,t1,t2,t3,t4,Rn.cells]
   all_goals(refine af (hL p r.left c.here) ?_)
   all_goals try simp only[I,B,D,RX,↓KW,seval,t1,t2,t3,t4,Rn.cells]
   all_goals rcases bc c.dD with hpr|hpr
   all_goals try simp only[I,B,D,RX,↓KW,seval,hpr,t1,t2,t3,t4,Rn.cells]
   all_goals(try(refine af (hM r.jL) ?_))
   all_goals try simp only[I,B,D,RX,↓KW,seval,t1,t2,t3,t4,Rn.cells]
   all_goals(refine af (hI p ⟨r.limit,r.up,r.down⟩) ?_)
   all_goals try simp only[I,B,D,RX,↓KW,seval,hpr,t1,t2,t3,t4,Rn.cells]
   all_goals(refine dG rfl ?_)
   all_goals try simp only[I,B,D,RX,↓KW,seval,hpr,t1,t2,t3,t4,Rn.cells]
   all_goals(first|(show AV.cN _=AV.cN _;simp[iw,dM,bU,bT,Rn.cells,hab,hs,hpr, *];done)|(rcases bc r.done with hdn|hdn<;>try simp only[I,B,D,RX,↓KW,seval,hdn,t1,t2,t3,t4,Rn.cells]))
   all_goals(first|(show AV.cN _=AV.cN _;simp[iw,dM,bU,bT,Rn.cells,hab,hs,hpr, *];done)|(rcases bc (decide (cV r.time>=p.min))with ht|ht<;>try simp only[I,B,D,RX,↓KW,seval,ht,t1,t2,t3,t4,Rn.cells]))
   all_goals(first|(show AV.cN _=AV.cN _;simp[iw,dM,bU,bT,Rn.cells,hab,hs,hpr, *];done)|(refine af (hS a b) ?_))
   all_goals try simp only[I,B,D,RX,↓KW,seval,t1,t2,t3,t4,Rn.cells]
   all_goals(first|(show AV.cN _=AV.cN _;simp[iw,dM,bU,bT,Rn.cells,hab,hs,hpr, *];done)|(rcases bc (gE a)with hsa|hsa<;>try simp only[I,B,D,RX,↓KW,seval,hsa,t1,t2,t3,t4,Rn.cells]))
   all_goals(first|(show AV.cN _=AV.cN _;simp[iw,dM,bU,bT,Rn.cells,hab,hs,hpr, *];done)|(rcases bc (Mq p r.left c.here==0)with hl|hl<;>try simp only[I,B,D,RX,↓KW,seval,hl,t1,t2,t3,t4,Rn.cells]))
   all_goals(first|(show AV.cN _=AV.cN _;simp[iw,dM,bU,bT,Rn.cells,hab,hs,hpr, *];done)|(rcases bc (decide (cV r.jL>=Gm p r.limit))with hlo|hlo<;>try simp only[I,B,D,RX,↓KW,seval,hlo,t1,t2,t3,t4,Rn.cells]))
   all_goals(first|(show AV.cN _=AV.cN _;simp[iw,dM,bU,bT,Rn.cells,hab,hs,hpr, *];done)|(rcases bc c.early with he|he<;>try simp only[I,B,D,RX,↓KW,seval,he,t1,t2,t3,t4,Rn.cells]))
   all_goals(first|(show AV.cN _=AV.cN _;simp[iw,dM,bU,bT,Rn.cells,hab,hs,hpr, *];done)|skip)
  ·try simp only[I,B,D,RX,↓KW,seval,k1,k2,t1,t2,t3,t4,Rn.cells]
   refine af (hP2 _ k3 j3) ?_;try simp only[I,B,D,RX,↓KW,seval,t1,t2,t3,t4,Rn.cells]
   refine af (hS r.fst r.dR) ?_;try simp only[I,B,D,RX,↓KW,seval,t1,t2,t3,t4,Rn.cells]
   rcases bc (gE r.fst)with hs|hs
   all_goals try simp only[I,B,D,RX,↓KW,seval,hs,t1,t2,t3,t4,Rn.cells]
   rcases bc (a==1)with ha|ha
   all_goals try simp only[I,B,D,RX,↓KW,seval,ha,t1,t2,t3,t4,Rn.cells]
   all_goals(refine af (hL p r.left c.here) ?_)
   all_goals try simp only[I,B,D,RX,↓KW,seval,t1,t2,t3,t4,Rn.cells]
   all_goals rcases bc c.dD with hpr|hpr
   all_goals try simp only[I,B,D,RX,↓KW,seval,hpr,t1,t2,t3,t4,Rn.cells]
   all_goals(try(refine af (hM r.jL) ?_))
   all_goals try simp only[I,B,D,RX,↓KW,seval,t1,t2,t3,t4,Rn.cells]
   all_goals(refine af (hI p ⟨r.limit,r.up,r.down⟩) ?_)
   all_goals try simp only[I,B,D,RX,↓KW,seval,hpr,t1,t2,t3,t4,Rn.cells]
   all_goals(refine dG rfl ?_)
   all_goals try simp only[I,B,D,RX,↓KW,seval,hpr,t1,t2,t3,t4,Rn.cells]
   all_goals(first|(show AV.cN _=AV.cN _;simp[iw,dM,bU,bT,Rn.cells,hab,hs,hpr, *];done)|(rcases bc r.done with hdn|hdn<;>try simp only[I,B,D,RX,↓KW,seval,hdn,t1,t2,t3,t4,Rn.cells]))
   all_goals(first|(show AV.cN _=AV.cN _;simp[iw,dM,bU,bT,Rn.cells,hab,hs,hpr, *];done)|(rcases bc (decide (cV r.time>=p.min))with ht|ht<;>try simp only[I,B,D,RX,↓KW,seval,ht,t1,t2,t3,t4,Rn.cells]))
   all_goals(first|(show AV.cN _=AV.cN _;simp[iw,dM,bU,bT,Rn.cells,hab,hs,hpr, *];done)|(refine af (hS a b) ?_))
   all_goals try simp only[I,B,D,RX,↓KW,seval,t1,t2,t3,t4,Rn.cells]
   all_goals(first|(show AV.cN _=AV.cN _;simp[iw,dM,bU,bT,Rn.cells,hab,hs,hpr, *];done)|(rcases bc (gE a)with hsa|hsa<;>try simp only[I,B,D,RX,↓KW,seval,hsa,t1,t2,t3,t4,Rn.cells]))
   all_goals(first|(show AV.cN _=AV.cN _;simp[iw,dM,bU,bT,Rn.cells,hab,hs,hpr, *];done)|(rcases bc (Mq p r.left c.here==0)with hl|hl<;>try simp only[I,B,D,RX,↓KW,seval,hl,t1,t2,t3,t4,Rn.cells]))
   all_goals(first|(show AV.cN _=AV.cN _;simp[iw,dM,bU,bT,Rn.cells,hab,hs,hpr, *];done)|(rcases bc (decide (cV r.jL>=Gm p r.limit))with hlo|hlo<;>try simp only[I,B,D,RX,↓KW,seval,hlo,t1,t2,t3,t4,Rn.cells]))
   all_goals(first|(show AV.cN _=AV.cN _;simp[iw,dM,bU,bT,Rn.cells,hab,hs,hpr, *];done)|(rcases bc c.early with he|he<;>try simp only[I,B,D,RX,↓KW,seval,he,t1,t2,t3,t4,Rn.cells]))
   all_goals(first|(show AV.cN _=AV.cN _;simp[iw,dM,bU,bT,Rn.cells,hab,hs,hpr, *];done)|skip)
  ·try simp only[I,B,D,RX,↓KW,seval,k1,k2,t1,t2,t3,t4,Rn.cells]
   refine af (hP2 _ k3 j3) ?_;try simp only[I,B,D,RX,↓KW,seval,t1,t2,t3,t4,Rn.cells]
   refine af (hS r.fst r.dR) ?_;try simp only[I,B,D,RX,↓KW,seval,t1,t2,t3,t4,Rn.cells]
   rcases bc (gE r.fst)with hs|hs
   all_goals try simp only[I,B,D,RX,↓KW,seval,hs,t1,t2,t3,t4,Rn.cells]
   rcases bc (a==1)with ha|ha
   all_goals try simp only[I,B,D,RX,↓KW,seval,ha,t1,t2,t3,t4,Rn.cells]
   all_goals(refine af (hL p r.left c.here) ?_)
   all_goals try simp only[I,B,D,RX,↓KW,seval,t1,t2,t3,t4,Rn.cells]
   all_goals rcases bc c.dD with hpr|hpr
   all_goals try simp only[I,B,D,RX,↓KW,seval,hpr,t1,t2,t3,t4,Rn.cells]
   all_goals(try(refine af (hM r.jL) ?_))
   all_goals try simp only[I,B,D,RX,↓KW,seval,t1,t2,t3,t4,Rn.cells]
   all_goals(refine af (hI p ⟨r.limit,r.up,r.down⟩) ?_)
   all_goals try simp only[I,B,D,RX,↓KW,seval,hpr,t1,t2,t3,t4,Rn.cells]
   all_goals(refine dG rfl ?_)
   all_goals try simp only[I,B,D,RX,↓KW,seval,hpr,t1,t2,t3,t4,Rn.cells]
   all_goals(first|(show AV.cN _=AV.cN _;simp[iw,dM,bU,bT,Rn.cells,hab,hs,hpr, *];done)|(rcases bc r.done with hdn|hdn<;>try simp only[I,B,D,RX,↓KW,seval,hdn,t1,t2,t3,t4,Rn.cells]))
   all_goals(first|(show AV.cN _=AV.cN _;simp[iw,dM,bU,bT,Rn.cells,hab,hs,hpr, *];done)|(rcases bc (decide (cV r.time>=p.min))with ht|ht<;>try simp only[I,B,D,RX,↓KW,seval,ht,t1,t2,t3,t4,Rn.cells]))
   all_goals(first|(show AV.cN _=AV.cN _;simp[iw,dM,bU,bT,Rn.cells,hab,hs,hpr, *];done)|(refine af (hS a b) ?_))
   all_goals try simp only[I,B,D,RX,↓KW,seval,t1,t2,t3,t4,Rn.cells]
   all_goals(first|(show AV.cN _=AV.cN _;simp[iw,dM,bU,bT,Rn.cells,hab,hs,hpr, *];done)|(rcases bc (gE a)with hsa|hsa<;>try simp only[I,B,D,RX,↓KW,seval,hsa,t1,t2,t3,t4,Rn.cells]))
   all_goals(first|(show AV.cN _=AV.cN _;simp[iw,dM,bU,bT,Rn.cells,hab,hs,hpr, *];done)|(rcases bc (Mq p r.left c.here==0)with hl|hl<;>try simp only[I,B,D,RX,↓KW,seval,hl,t1,t2,t3,t4,Rn.cells]))
   all_goals(first|(show AV.cN _=AV.cN _;simp[iw,dM,bU,bT,Rn.cells,hab,hs,hpr, *];done)|(rcases bc (decide (cV r.jL>=Gm p r.limit))with hlo|hlo<;>try simp only[I,B,D,RX,↓KW,seval,hlo,t1,t2,t3,t4,Rn.cells]))
   all_goals(first|(show AV.cN _=AV.cN _;simp[iw,dM,bU,bT,Rn.cells,hab,hs,hpr, *];done)|(rcases bc c.early with he|he<;>try simp only[I,B,D,RX,↓KW,seval,he,t1,t2,t3,t4,Rn.cells]))
   all_goals(first|(show AV.cN _=AV.cN _;simp[iw,dM,bU,bT,Rn.cells,hab,hs,hpr, *];done)|skip)
 ·try simp only[I,B,D,RX,↓KW,seval,j1,j2,t1,t2,t3,t4,Rn.cells]
  ·try simp only[I,B,D,RX,↓KW,seval,j1,j2,t1,t2,t3,t4,Rn.cells]
   refine af (hC2 j1 j2) ?_;try simp only[I,B,D,RX,↓KW,seval,t1,t2,t3,t4,Rn.cells]
   refine af (hS r.fst r.dR) ?_;try simp only[I,B,D,RX,↓KW,seval,t1,t2,t3,t4,Rn.cells]
   rcases bc (gE r.fst)with hs|hs
   all_goals try simp only[I,B,D,RX,↓KW,seval,hs,t1,t2,t3,t4,Rn.cells]
   rcases bc (a==1)with ha|ha
   all_goals try simp only[I,B,D,RX,↓KW,seval,ha,t1,t2,t3,t4,Rn.cells]
   all_goals(refine af (hL p r.left c.here) ?_)
   all_goals try simp only[I,B,D,RX,↓KW,seval,t1,t2,t3,t4,Rn.cells]
   all_goals rcases bc c.dD with hpr|hpr
   all_goals try simp only[I,B,D,RX,↓KW,seval,hpr,t1,t2,t3,t4,Rn.cells]
   all_goals(try(refine af (hM r.jL) ?_))
   all_goals try simp only[I,B,D,RX,↓KW,seval,t1,t2,t3,t4,Rn.cells]
   all_goals(refine af (hI p ⟨r.limit,r.up,r.down⟩) ?_)
   all_goals try simp only[I,B,D,RX,↓KW,seval,hpr,t1,t2,t3,t4,Rn.cells]
   all_goals(refine dG rfl ?_)
   all_goals try simp only[I,B,D,RX,↓KW,seval,hpr,t1,t2,t3,t4,Rn.cells]
   all_goals(first|(show AV.cN _=AV.cN _;simp[iw,dM,bU,bT,Rn.cells,hab,hs,hpr, *];done)|(rcases bc r.done with hdn|hdn<;>try simp only[I,B,D,RX,↓KW,seval,hdn,t1,t2,t3,t4,Rn.cells]))
   all_goals(first|(show AV.cN _=AV.cN _;simp[iw,dM,bU,bT,Rn.cells,hab,hs,hpr, *];done)|(rcases bc (decide (cV r.time>=p.min))with ht|ht<;>try simp only[I,B,D,RX,↓KW,seval,ht,t1,t2,t3,t4,Rn.cells]))
   all_goals(first|(show AV.cN _=AV.cN _;simp[iw,dM,bU,bT,Rn.cells,hab,hs,hpr, *];done)|(refine af (hS a b) ?_))
   all_goals try simp only[I,B,D,RX,↓KW,seval,t1,t2,t3,t4,Rn.cells]
   all_goals(first|(show AV.cN _=AV.cN _;simp[iw,dM,bU,bT,Rn.cells,hab,hs,hpr, *];done)|(rcases bc (gE a)with hsa|hsa<;>try simp only[I,B,D,RX,↓KW,seval,hsa,t1,t2,t3,t4,Rn.cells]))
   all_goals(first|(show AV.cN _=AV.cN _;simp[iw,dM,bU,bT,Rn.cells,hab,hs,hpr, *];done)|(rcases bc (Mq p r.left c.here==0)with hl|hl<;>try simp only[I,B,D,RX,↓KW,seval,hl,t1,t2,t3,t4,Rn.cells]))
   all_goals(first|(show AV.cN _=AV.cN _;simp[iw,dM,bU,bT,Rn.cells,hab,hs,hpr, *];done)|(rcases bc (decide (cV r.jL>=Gm p r.limit))with hlo|hlo<;>try simp only[I,B,D,RX,↓KW,seval,hlo,t1,t2,t3,t4,Rn.cells]))
   all_goals(first|(show AV.cN _=AV.cN _;simp[iw,dM,bU,bT,Rn.cells,hab,hs,hpr, *];done)|(rcases bc c.early with he|he<;>try simp only[I,B,D,RX,↓KW,seval,he,t1,t2,t3,t4,Rn.cells]))
   all_goals(first|(show AV.cN _=AV.cN _;simp[iw,dM,bU,bT,Rn.cells,hab,hs,hpr, *];done)|skip)
end
section
variable{P:Program} (hm:P.follows .mixedOrders=true) {f:Nat}
include hm
theorem ym.ok {fA fG fO fM fI:Nat} (hc:bF P f=some (mg fA fG fO fM fI)) (hA:Ib.Spec (Pure P) fA) (hG:Ia.Spec (Pure P) fG) (hO:zg.Spec (Pure P) fO) (hM:lR.Spec (Pure P) fM) (hI:wz.Spec (Pure P) fI):ym.Spec (Pure P) f:=by
  intro p r c
  have t1:=wA p r c
  have t3:=CS p r c
  have t4:=Jq p r c
  have hO2:=hO p r c
  obtain ⟨g,hg⟩:∃ g,iw p r c=g:=⟨_,rfl⟩
  obtain ⟨d,hd⟩:∃ d,dM p g c=d:=⟨_,rfl⟩
  rw [hg,hd] at hO2
  refine ak hm hc (by show 1≤59; decide) (aj (keep:=[]) (i:=0) ?_)
  try simp only [B,RX,↓ KW,seval,mg,Z.H,t4,aP]
  rcases bc c.fin with h1|h1
  · try simp only [RX,↓ KW,seval,h1,t1]
    refine af hO2 ?_
    try simp only [I,B,RX,↓ KW,seval,Rn.cells]
    rcases bc d with h2|h2
    · try simp only [RX,↓ KW,seval,h2]
      simp [tQ,h1,hg,hd,h2]
    · try simp only [B,RX,↓ KW,seval,h2,t4]
      rcases bc c.hold with h3|h3
      · try simp only [RX,↓ KW,seval,h3]
        rcases bc (decide (g.left > 0)) with h4|h4
        · try simp only [RX,↓ KW,seval,h4]
          simp [tQ,h1,hg,hd,h2,h3,h4]
        · try simp only [RX,↓ KW,seval,h4,t1]
          refine af (hI p ⟨g.limit,g.up,g.down⟩) ?_
          try simp only [I,RX,↓ KW,seval]
          simp [tQ,h1,hg,hd,h2,h3,h4,bU]
      · try simp only [RX,↓ KW,seval,h3]
        refine af (hM g.extra) ?_
        try simp only [I,RX,↓ KW,seval]
        simp [tQ,h1,hg,hd,h2,h3]
  · try simp only [RX,↓ KW,seval,h1,t1]
    refine af (hA p r c _ _) ?_
    try simp only [I,B,RX,↓ KW,seval,t3,Rn.cells,yg]
    rcases bc r.done with h2|h2
    · try simp only [RX,↓ KW,seval,h2]
      simp [tQ,h1,h2,yg]
    · try simp only [B,RX,↓ KW,seval,h2,t1,t3]
      refine af (hG p ⟨r.limit,r.up,r.down⟩ r.jW) ?_
      try simp only [I,RX,↓ KW,seval,Tr.cells]
      simp [tQ,h1,h2,yg]
theorem CR.ok{fO:Nat} (hc:bF P f=some (vo fO)) (hO:zg.Spec (Pure P) fO):CR.Spec (Pure P) f:=by
 intro p r c
 have qp:ay p.cells 0 (some 13)=some (.agg p.cells):=rfl
 have qr:ay r.cells 0 (some 12)=some (.agg r.cells)/\r.cells[0]? =some (I r.aQ):=⟨rfl,rfl⟩
 have qc:ay c.cells 0 (some 8)=some (.agg c.cells)/\c.cells[1]? =some (B c.fin)/\c.cells[5]? =some (B c.hold):=⟨rfl,rfl,rfl⟩
 have hO2:=hO p r c
 obtain⟨g,hg⟩:∃g,iw p r c=g:=⟨_,rfl⟩
 obtain⟨d,hd⟩:∃d,dM p g c=d:=⟨_,rfl⟩
 rw[hg,hd]at hO2
 have b1:∀ps,uV 0 13 (some (.agg p.cells)) (some ps)=some ((0,p.cells)::ps):=fun _=>rfl
 have b2:∀ps,uV 13 12 (some (.agg r.cells)) (some ps)=some ((13,r.cells)::ps):=fun _=>rfl
 have b3:∀ps,uV 25 8 (some (.agg c.cells)) (some ps)=some ((25,c.cells)::ps):=fun _=>rfl
 have b4:nF kD [(0,p.cells),(13,r.cells),(25,c.cells)]=eA p r c:=rfl
 refine ak hm hc (by show 3<=30;decide) (aj (keep:=[]) (i:=0) ?_)
 try simp only[I,B,RX,↓KW,seval,vo,Z.H,qr]
 rcases bc (r.aQ !=1)with h1|h1
 ·try simp only[B,RX,↓KW,seval,h1,qc]
  rcases bc c.fin with h2|h2
  ·try simp only[B,RX,↓KW,seval,h2,qc]
   rcases bc c.hold with h3|h3
   ·try simp only[RX,↓KW,seval,h3]
    simp[wu,h1,h2,h3]
   ·try simp only[RX,↓KW,seval,h3,qp,qr,qc,b1,b2,b3,b4]
    refine af hO2 ?_;try simp only[I,B,RX,↓KW,seval,Rn.cells,aP]
    simp[wu,h1,h2,h3,hg,hd]
  ·try simp only[RX,↓KW,seval,h2]
   simp[wu,h1,h2]
 ·try simp only[RX,↓KW,seval,h1]
  simp[wu,h1]
theorem CQ.ok{fR fG fY fC:Nat} (hc:bF P f=some (vp fR fG fY fC)) (hR:Ic.Spec (Pure P) fR) (hG:ym.Spec (Pure P) fG) (hY:tR.Spec (Pure P) fY) (hC:tS.Spec (Pure P) fC):CQ.Spec (Pure P) f:=by
 intro p r c
 have qp:ay p.cells 0 (some 13)=some (.agg p.cells):=rfl
 have qr:ay r.cells 0 (some 12)=some (.agg r.cells)/\r.cells[0]? =some (I r.aQ):=⟨rfl,rfl⟩
 have qc:ay c.cells 0 (some 8)=some (.agg c.cells)/\c.cells[1]? =some (B c.fin)/\c.cells[5]? =some (B c.hold):=⟨rfl,rfl,rfl⟩
 have t1:=wA p r c
 have b1:∀ps,uV 0 13 (some (.agg p.cells)) (some ps)=some ((0,p.cells)::ps):=fun _=>rfl
 have b2:∀ps,uV 13 12 (some (.agg r.cells)) (some ps)=some ((13,r.cells)::ps):=fun _=>rfl
 have b3:∀ps,uV 25 8 (some (.agg c.cells)) (some ps)=some ((25,c.cells)::ps):=fun _=>rfl
 have b4:nF kD [(0,p.cells),(13,r.cells),(25,c.cells)]=eA p r c:=rfl
 have b5:setCells kD 0 (eA p r c)=eA p r c:=rfl
 have b6:kD.length=33:=rfl
 have b7:∀x:Rn,setCells aP 0 x.cells=x.cells/\x.cells.length=12/\ay x.cells 0 (some 12)=some (.agg x.cells):=fun _=>⟨rfl,rfl,rfl⟩
 have b8:aP.length=12:=rfl
 refine ak hm hc (by show 3<=31;decide) (aj (keep:=[]) (i:=0) ?_)
 try simp only[I,RY,↓KW,seval,vp,Z.H,qp,qr,qc,t1,b1,b2,b3,b4,b5,b6]
 rcases bc (r.aQ==1)with h1|h1
 ·try simp only[RY,↓KW,seval,h1]
  rcases bc (r.aQ==2)with h2|h2
  ·try simp only[RY,↓KW,seval,h2]
   rcases bc (r.aQ==3)with h3|h3
   ·try simp only[RY,↓KW,seval,h3]
    refine⟨rfl,af (hR p r c) ?_⟩;try simp only[RY,seval,b7,b8]
    simp[qG,h1,h2,h3]
   ·try simp only[RY,↓KW,seval,h3,t1]
    refine⟨rfl,rfl,af (hC p r c) ?_⟩;try simp only[RY,seval,b7,b8]
    simp[qG,h1,h2,h3]
  ·try simp only[RY,↓KW,seval,h2,t1]
   refine⟨rfl,rfl,af (hY p r c) ?_⟩;try simp only[RY,seval,b7,b8]
   simp[qG,h1,h2]
 ·try simp only[RY,↓KW,seval,h1,t1]
  refine⟨rfl,rfl,af (hG p r c) ?_⟩;try simp only[RY,seval,b7,b8]
  simp[qG,h1]
end
def ZM(t:Tb) (r:gL) (l:List Rn) (want:Int):gL:=
 if(List.range 8).all (fun p=>iu (bp l p))then⟨if WL t r.group want>=0 then WL t r.group want else r.group,-1,-1,false⟩else r
def yo.Spec(C:aS) (f:Nat):Prop:=∀(t:Tb) (r:gL) (l:List Rn) (want:Int),t.Ok->l.length=8->C.c f [.agg t.cells,.agg r.cells,.agg (cz l),I want] (.agg (ZM t r l want).cells) none
section
variable{P:Program} (hm:P.follows .mixedOrders=true) {f:Nat}
include hm
theorem yo.ok{fR fF:Nat} (hc:bF P f=some (rM fR fF)) (hR:CL.Spec (Pure P) fR) (hF:HZ.Spec (Pure P) fF):yo.Spec (Pure P) f:=by
 intro t r l want ht hl
 have hw:=gB hl
 have hp:=Tb.whole ht
 have hr:r.cells.length=4/\ay r.cells 0 (some 4)=some (.agg r.cells)/\r.cells[0]? =some (I r.group):=⟨rfl,rfl,rfl⟩
 have hrs:∀n:Int,setCells r.cells 0 [I n]=(⟨n,r.a0,r.a1,r.lU⟩:gL).cells:=fun _=>rfl
 have hr2:∀n:Int,(⟨n,r.a0,r.a1,r.lU⟩:gL).cells[0]? =some (I n):=fun _=>rfl
 have ql:aP.length=12:=rfl
 have hq4:∀x:gL,x.cells.length=4/\ay x.cells 0 (some 4)=some (.agg x.cells):=fun _=>⟨rfl,rfl⟩
 have hz4:∀x:gL,setCells [.int .i64 0,.int .i64 0,.int .i64 0,.bool false] 0 x.cells=x.cells:=fun _=>rfl
 refine ak hm hc (by show 4<=34;decide) (aj (keep:=[]) (i:=0) ?_)
 try simp only[I,RY,↓KW,seval,rM,Z.H,hw]
 refine aG (fun k:Nat=>(⟨[(13,.dat (I k) none),(12,.dat (.agg (cz l)) none),(5,.ptr 5 0),(8,.ptr 7 0),(4,.ptr 4 0),(3,.dat (I want) none)],[(4,⟨t.cells,[]⟩),(5,⟨r.cells,[]⟩),(7,⟨[.int .i64 0,.int .i64 0,.int .i64 0,.bool false],[]⟩)],[],400⟩:S)) (fun k=>8-k) (fun k=>k<=8/\∀q,q<k->iu (bp l q)=true) ?_ 0 ⟨by omega,by omega⟩ ?_
 ·rintro k ⟨hk,hall⟩ A back
  have hwr:=aB (k:=k) (by omega)
  try simp only[I,RY,↓KW,seval]
  rcases bc (decide ((k:Int)<8))with h|h
  ·have:k=8:=by have:=of_decide_eq_false h;omega
   subst this
   have ha:(List.range 8).all (fun p=>iu (bp l p))=true:=List.all_eq_true.2 fun q hq=>hall q (List.mem_range.1 hq)
   try simp only[I,RY,↓KW,seval,hp,hr]
   refine af (hF t r.group want ht) ?_;try simp only[I,RY,↓KW,seval]
   have hz5:∀n:Int,nF [.int .i64 0,.int .i64 0,.int .i64 0,.bool false] [(0,[I n]),(1,[I (-1),I (-1)])]=(⟨n,-1,-1,false⟩:gL).cells:=fun _=>rfl
   rcases bc (decide (0<=WL t r.group want))with h2|h2
   ·have h3:=of_decide_eq_false h2
    try simp only[I,RY,↓KW,seval,h2,hr,hz4,hq4,hz5]
    simp[ZM,ha,h3]
   ·have h3:=of_decide_eq_true h2
    try simp only[I,RY,↓KW,seval,h2,hr,hrs,hr2,hz4,hq4,hz5]
    simp[ZM,ha,h3]
  ·have h8:k<8:=by have:=of_decide_eq_true h;omega
   have hat:ay (cz l) (k*12) (some 12)=some (.agg (bp l k).cells):=i6 hl h8
   have hy:0<=(k:Int)/\(k:Int)<8:=by omega
   have qz:setCells aP 0 (bp l k).cells=(bp l k).cells:=rfl
   have qw:ay (bp l k).cells 0 (some 12)=some (.agg (bp l k).cells):=rfl
   try simp only[RY,↓KW,seval,hy,hat,qz,qw,Rn.len,ql]
   refine af (hR (bp l k)) ?_;try simp only[B,RY,↓KW,seval]
   rcases bc (iu (bp l k))with h2|h2
   ·have ha:(List.range 8).all (fun p=>iu (bp l p))=false:=List.all_eq_false.2 ⟨k,List.mem_range.2 h8,by simp[h2]⟩
    try simp only[RY,↓KW,seval,h2,hr,hz4]
    simp[ZM,ha]
   ·try simp only[RY,↓KW,seval,h2]
    refine back (k+1) _ ⟨by omega,fun q hq=>?_⟩ (by omega) ?_
    ·by_cases e:q=k
     ·rw[e];exact h2
     ·exact hall q (by omega)
    ·refine ai (by decide) ?_ ?_ ?_ ?_<;>simp[LX,I,hwr]
 ·refine ai (by decide) ?_ ?_ ?_ ?_<;>simp[LX,I]
end
def An(l:List Rn) (now next:Int) (mv:Bool):Bool:=decide (next<0)&&(!mv||(ga (bp l now.toNat)&&(bp l now.toNat).done))
def CT.Spec(C:aS) (f:Nat):Prop:=∀(l:List Rn) (now next:Int) (mv:Bool),l.length=8->(mv=true->0<=now/\now<8)->C.c f [.agg [I now,I next,B mv],.agg (cz l)] (B (An l now next mv)) none
section
variable{P:Program} (hm:P.follows .mixedOrders=true) {f:Nat}
include hm
theorem CT.ok(hc:bF P f=some me):CT.Spec (Pure P) f:=by
 intro l now next mv hl hmv
 refine ak hm hc (by show 2<=28;decide) (aj (keep:=[]) (i:=0) ?_)
 try simp only[I,B,RY,↓KW,seval,me,Z.H]
 rcases bc (decide (next<0))with h1|h1
 ·try simp only[RY,↓KW,seval,h1]
  simp only[An,h1,Bool.false_and]
 ·try simp only[RY,↓KW,seval,h1]
  rcases bc mv with h2|h2
  ·try simp only[RY,↓KW,seval,h2]
   simp only[An,h1,Bool.not_false,Bool.true_or,Bool.and_self]
  ·obtain⟨ha,hb⟩:=hmv h2
   obtain⟨k,rfl⟩:∃k:Nat,now=k:=⟨now.toNat,by omega⟩
   have h8:k<8:=by omega
   have hat:ay (cz l) (k*12) (some 12)=some (.agg (bp l k).cells):=i6 hl h8
   have hat0:(cz l)[k*12]? =some (I (bp l k).aQ):=by have:=kG hat (j:=0) (by omega);rw[Nat.add_zero]at this;rw[this];rfl
   have hat7:(cz l)[k*12+7]? =some (B (bp l k).done):=by rw[kG hat (by omega)];rfl
   have hy:0<=(k:Int)/\(k:Int)<8:=by omega
   have hg:((bp l k).aQ==1)=ga (bp l k):=rfl
   try simp only[I,RY,↓KW,seval,h2,hy,hat0]
   rw[hg]
   have hn:(k:Int).toNat=k:=rfl
   rcases bc (ga (bp l k))with h3|h3
   ·try simp only[RY,↓KW,seval,h3]
    simp only[An,h1,hn,h3,Bool.not_true,Bool.false_or,Bool.false_and,Bool.and_false]
   ·try simp only[B,RY,↓KW,seval,h3,hy,hat7]
    simp only[An,h1,hn,h3,Bool.not_true,Bool.false_or,Bool.true_and]
end
def EJ(t:Tb) (r:gL) (l:List Rn) (k:Int):Bool:=decide (tP t r k>=0)&& !iu (bp l (tP t r k).toNat)
def DS(t:Tb) (r:gL) (want k:Int):Int:=WH t r.group k (r.at k) want
def gL.put(r:gL) (k x:Int):gL:=if k=0 then{r with a0:=x}else{r with a1:=x}
def KJ(t:Tb) (r:gL) (l:List Rn) (want k:Int):Bool:=
 (bp l (tP t r k).toNat).aQ==1&&(((bp l (tP t r k).toNat).done&&decide (DS t r want k>=0))||(RH (aX t (tP t r k)) (bp l (tP t r k).toNat)&& !ej want (tP t r k)))
def EK(t:Tb) (r:gL) (l:List Rn) (want k:Int) (x:gL×Int×Int):gL×Int×Int:=
 if EJ t r l k then(if KJ t r l want k then(x.1,x.2.1,d9 x.2.2 (tP t r k))else x)
 else if DS t r want k>=0 then(if nr t l (Jp t r.group k (DS t r want k)).toNat then(x.1.put k (DS t r want k),d9 x.2.1 (Jp t r.group k (DS t r want k)),x.2.2)else x)else x
def Ie(t:Tb) (r:gL) (l:List Rn) (want:Int):gL×Int×Int:=EK t r l want 1 (EK t r l want 0 (r,0,0))
def Ig(t:Tb) (r:gL) (l:List Rn) (want:Int):Nat->gL×Int×Int
 |0=>(r,0,0)
 |k+1=>EK t r l want k (Ig t r l want k)
def j9(l:List Rn):Int:=Kw fun p=>ga (bp l p)
def EL(t:Tb) (r:gL) (l:List Rn) (want k:Int):Bool:=An l (tP t r k) (DS t r want k) (EJ t r l k)
def VN(t:Tb) (r:gL) (l:List Rn) (want:Int) (x:gL×Int×Int):Bool:=
 yE .i64 x.2.1 x.2.2==0&&(EL t r l want 0&&(EL t r l want 1&&decide (AI (ep .i64 want (j9 l))>=0)))
def L8(t:Tb) (r:gL) (l:List Rn) (want:Int):gL×Int×Int:=
 if r.lU then(ZM t r l want,0,0)
 else if VN t r l want (Ie t r l want)then({(Ie t r l want).1 with lU:=true},(Ie t r l want).2.1,j9 l)else Ie t r l want
theorem RM{s p:Int} (h:ej s p=true):0<=p/\p<8:=by
 by_cases hc:p<0\/8<=p
 ·have e1:oR p=0:=by simp only[oR];rw[if_pos hc]
  have e3:dw .i64 s 0=0:=by
   have e:BitVec.ofInt IntKind.i64.bits 0=0#_:=rfl
   simp only[dw,e,BitVec.and_zero,BitVec.toNat_zero];decide
  rw[ej,e1,e3]at h;cases h
 ·omega
theorem Jr{t:Tb} {r:gL} {k:Int}:tP t r k<8:=by
 unfold tP;split
 ·omega
 ·unfold Jp;split
  ·omega
  ·split
   ·omega
   ·split<;>omega
theorem ZN{t:Tb} {r:gL} {k want:Int} (h:DS t r want k>=0) (hk:0<=k/\k<2):0<=Jp t r.group k (DS t r want k)/\Jp t r.group k (DS t r want k)<8:=by
 have e:DS t r want k=match(List.range ((lQ t r.group k).getD []).length).find? (VL t r.group k (r.at k) want)with
  |some i=>(i:Int)
  |none=>-1:=rfl
 cases hf:(List.range ((lQ t r.group k).getD []).length).find? (VL t r.group k (r.at k) want)with
 |none=>rw[hf]at e;simp only at e;omega
 |some i=>
  rw[hf]at e;simp only at e
  have hi:=List.mem_range.1 (List.mem_of_find?_eq_some hf)
  have hp:=List.find?_some hf
  simp only[VL,Bool.and_eq_true]at hp
  have hh:=hp.2
  have hz:=RM hh
  have hr:¬(r.group<0\/((t.groups.getD []).length:Int)<=r.group\/k<0\/1<k):=fun hc=>by
   rw[lQ,if_pos hc]at hi;simp at hi
  rw[e];unfold Jp
  rw[if_neg hr,if_neg (by omega)]
  simp only[Int.toNat_natCast];rw[if_pos hz];exact hz
theorem OG{t:Tb} {r:gL} {l:List Rn} {k:Int} (h:EJ t r l k=true):0<=tP t r k/\tP t r k<8:=by
 simp only[EJ,Bool.and_eq_true]at h;exact⟨of_decide_eq_true h.1,Jr⟩
theorem gL.OH(x:gL) {k:Nat} (hk:k<2) (n:Int):setCells x.cells (1+k) [I n]=(x.put k n).cells:=by
 have:k=0\/k=1:=by omega
 rcases this with rfl|rfl<;>rfl
def lB(t:Tb) (r:gL) (l:List Rn) (want:Int) (n:Nat):List AV:=
 (if 0<n then[I (tP t r 0),I (DS t r want 0),B (EJ t r l 0)]else[I 0,I 0,B false])++(if 1<n then[I (tP t r 1),I (DS t r want 1),B (EJ t r l 1)]else[I 0,I 0,B false])
theorem L9(t:Tb) (r:gL) (l:List Rn) (want:Int) (n:Nat):(lB t r l want n).length=6:=by
 unfold lB;split<;>split<;>rfl
theorem Ma(t:Tb) (r:gL) (l:List Rn) (want:Int) {k:Nat} (hk:k<2):setCells (lB t r l want k) (k*3) [I (tP t r k),I (DS t r want k),B (EJ t r l k)]=lB t r l want (k+1):=by
 have:k=0\/k=1:=by omega
 rcases this with rfl|rfl<;>rfl
theorem OI(t:Tb) (r:gL) (l:List Rn) (want:Int) {k:Nat} (hk:k<2):ay (lB t r l want 2) (k*3) (some 3)=some (.agg [I (tP t r k),I (DS t r want k),B (EJ t r l k)]):=by
 have:k=0\/k=1:=by omega
 rcases this with rfl|rfl<;>rfl
def CU.Spec(C:aS) (f:Nat):Prop:=∀(t:Tb) (r:gL) (l:List Rn) (want:Int),t.Ok->l.length=8->C.c f [.agg t.cells,.agg r.cells,.agg (cz l),I want] (.cN [.agg (L8 t r l want).1.cells,I (L8 t r l want).2.1,I (L8 t r l want).2.2]) none
section
variable{P:Program} (hm:P.follows .mixedOrders=true) {f:Nat}
include hm
theorem CU.ok {fC fN fX fR fE fH fW fA fM fG fS fF:Nat} (hc:bF P f=some (xV fC fN fX fR fE fH fW fA fM fG fS fF)) (hC:yo.Spec (Pure P) fC) (hN:H6.Spec (Pure P) fN) (hX:CJ.Spec (Pure P) fX) (hR:CL.Spec (Pure P) fR)
    (hE:yf.Spec (Pure P) fE) (hH:kn.Spec (Pure P) fH) (hW:gO.Spec (Pure P) fW) (hA:L7.Spec (Pure P) fA) (hM:H7.Spec (Pure P) fM) (hG:pR.Spec (Pure P) fG) (hS:CT.Spec (Pure P) fS) (hF:uJ.Spec (Pure P) fF):CU.Spec (Pure P) f:=by
  intro t r l want ht hl
  have hw:=gB hl
  have hrl:=dF hl
  have htl:=Tb.len ht
  have hp:=Tb.whole ht
  have hr:r.cells.length=4∧ay r.cells 0 (some 4)=some (.agg r.cells)∧r.cells[0]? = some (I r.group)∧r.cells[3]? = some (B r.lU):=⟨rfl,rfl,rfl,rfl⟩
  have hz4:∀ x:gL,setCells [.int .i64 0,.int .i64 0,.int .i64 0,.bool false] 0 x.cells=x.cells:=fun _=>rfl
  have hss:∀ x y:gL,setCells x.cells 0 y.cells=y.cells:=fun _ _=>rfl
  have hx4:∀ x:gL,x.cells.length=4∧ay x.cells 0 (some 4)=some (.agg x.cells):=fun _=>⟨rfl,rfl⟩
  have hz3:∀ a b c d e g:AV,setCells [a,b,c] 0 [d,e,g]=[d,e,g]:=fun _ _ _ _ _ _=>rfl
  have hz2:∀ a b c d:AV,setCells [a,b,c] 2 [d]=[a,b,d]:=fun _ _ _ _=>rfl
  refine ak hm hc (by show 4≤159; decide) (aj (keep:=[]) (i:=0) ?_)
  try simp only [I,B,RY,↓ KW,seval,xV,Z.H,hr]
  rcases bc r.lU with hcr|hcr
  rotate_left
  · try simp only [RY,↓ KW,seval,hcr,hw,hp,hr]
    refine af (hC t r l want ht hl) ?_
    try simp only [RY,↓ KW,seval,hz4,hx4]
    simp [L8,hcr]
  try simp only [RY,↓ KW,seval,hcr]
  refine aG (fun k:Nat=>(⟨[(26,.dat (I k) none),(3,.dat (I want) none),(4,.ptr 4 0),(5,.ptr 5 0),(6,.ptr 6 0),(8,.ptr 7 0),(11,.ptr 12 0),(9,.dat (I 0) none),(10,.dat (I 0) none)],[(4,⟨t.cells,[]⟩),(5,⟨r.cells,[]⟩),(6,⟨cz l,[]⟩),(7,⟨[.int .i64 0,.int .i64 0,.int .i64 0,.bool false],[]⟩),(12,⟨lB t r l want k,[]⟩)],[],400⟩:S)) (fun k=>2 - k) (fun k=>k≤2) ?_ 0 (by omega) ?_
  rotate_left
  · refine ai (by decide) ?_ ?_ ?_ ?_<;>simp [LX,I,B,lB]
  intro k hk A back
  have hwr:=aB (k:=k) (by omega)
  try simp only [I,RY,↓ KW,seval]
  rcases bc (decide ((k:Int) < 2)) with h|h
  rotate_left
  · have h2:k < 2:=by have:=of_decide_eq_true h; omega
    have hy:0≤(k:Int)∧(k:Int) < 2:=by omega
    have hr1:r.cells[1 + k]? = some (I (r.at k)):=by
      have:k=0∨k=1:=by omega
      rcases this with rfl|rfl<;>rfl
    have ol:=L9 t r l want k
    have os:=Ma t r l want h2
    try simp only [RY,↓ KW,seval,hy,hp,hr]
    refine af (hN t r k ht) ?_
    try simp only [I,RY,↓ KW,seval,hr1,hy,hp,hr]
    refine af (hX t r.group k (r.at k) want ht) ?_
    try simp only [I,RY,↓ KW,seval,hz3]
    rcases bc (decide (tP t r k ≥ 0)) with h3|h3
    · have hb:EJ t r l k=false:=by rw [EJ,h3]; rfl
      rw [hb] at os
      have os2:setCells (lB t r l want k) (k * 3) [I (tP t r k),I (WH t r.group k (r.at k) want),B false]=lB t r l want (k + 1):=os
      try simp only [RY,↓ KW,seval,h3,hy,ol,os2,hz2]
      refine ⟨by omega,back (k + 1) _ (by omega) (by omega) ?_⟩
      refine ai (by decide) ?_ ?_ ?_ ?_<;>simp [LX,I,hwr]
    · have h30:=of_decide_eq_true h3
      have h31:=Jr (t:=t) (r:=r) (k:=k)
      obtain ⟨q,hq⟩:∃ q:Nat,tP t r k=q:=⟨(tP t r k).toNat,by omega⟩
      have hy2:0≤(q:Int)∧(q:Int) < 8:=by omega
      have hat:ay (cz l) (q * 12) (some 12)=some (.agg (bp l q).cells):=i6 hl (by omega)
      have hb:EJ t r l k=!iu (bp l q):=by rw [EJ,h3,hq]; rfl
      rw [hb] at os
      have os2:setCells (lB t r l want k) (k * 3) [I (tP t r k),I (WH t r.group k (r.at k) want),B (!iu (bp l q))]=lB t r l want (k + 1):=os
      rw [hq] at *
      try simp only [RY,↓ KW,seval,hy2,hat]
      refine af (hR (bp l q)) ?_
      try simp only [B,RY,↓ KW,seval,hy,ol,os2,hz2]
      refine ⟨by omega,back (k + 1) _ (by omega) (by omega) ?_⟩
      refine ai (by decide) ?_ ?_ ?_ ?_<;>simp [LX,I,hwr]
  have hk2:k=2:=by have:=of_decide_eq_false h; omega
  subst hk2
  have ow:ay (lB t r l want 2) 0 (some 6)=some (.agg (lB t r l want 2)):=rfl
  try simp only [RY,↓ KW,seval,ow,hr,hz4]
  clear back
  refine aG (fun k:Nat=>(⟨[(62,.dat (I k) none),(61,.dat (.agg (lB t r l want 2)) none),(3,.dat (I want) none),(4,.ptr 4 0),(5,.ptr 5 0),(6,.ptr 6 0),(8,.ptr 7 0),(11,.ptr 12 0),(9,.dat (I (Ig t r l want k).2.1) none),(10,.dat (I (Ig t r l want k).2.2) none)],[(4,⟨t.cells,[]⟩),(5,⟨r.cells,[]⟩),(6,⟨cz l,[]⟩),(7,⟨(Ig t r l want k).1.cells,[]⟩),(12,⟨lB t r l want 2,[]⟩)],[],400⟩:S)) (fun k=>2 - k) (fun k=>k≤2) ?_ 0 (by omega) ?_
  rotate_left
  · refine ai (by decide) ?_ ?_ ?_ ?_<;>simp [LX,I,Ig]
  intro k hk A2 back
  have hwr:=aB (k:=k) (by omega)
  obtain ⟨x,hx⟩:∃ x,Ig t r l want k=x:=⟨_,rfl⟩
  have hn:Ig t r l want (k + 1)=EK t r l want k x:=by rw [Ig,hx]
  rw [hx]
  try simp only [I,RY,↓ KW,seval]
  rcases bc (decide ((k:Int) < 2)) with h|h
  rotate_left
  · have h2:k < 2:=by have:=of_decide_eq_true h; omega
    have hy:0≤(k:Int)∧(k:Int) < 2:=by omega
    have oat:=OI t r l want h2
    obtain ⟨b,hb⟩:∃ b,EJ t r l k=b:=⟨_,rfl⟩
    obtain ⟨n,hnx⟩:∃ n,DS t r want k=n:=⟨_,rfl⟩
    obtain ⟨w,hnw⟩:∃ w,tP t r k=w:=⟨_,rfl⟩
    have hone:EK t r l want k x=if b then (if KJ t r l want k then (x.1,x.2.1,d9 x.2.2 w) else x)
      else if n ≥ 0 then (if nr t l (Jp t r.group k n).toNat then (x.1.put k n,d9 x.2.1 (Jp t r.group k n),x.2.2) else x) else x:=by rw [EK,hb,hnx,hnw]
    rw [hb,hnx,hnw] at oat
    rcases b with _|_
    · rw [if_neg (by decide)] at hone
      try simp only [I,B,RY,↓ KW,seval,hy,oat,hz3]
      rcases bc (decide (n ≥ 0)) with h4|h4
      · rw [if_neg (of_decide_eq_false h4)] at hone
        try simp only [RY,↓ KW,seval,h4]
        refine back (k + 1) _ (by omega) (by omega) ?_
        refine ai (by decide) ?_ ?_ ?_ ?_<;>simp [LX,I,hwr,hn,hone]
      · have h40:=of_decide_eq_true h4
        rw [if_pos h40] at hone
        have hq:=ZN (t:=t) (r:=r) (k:=k) (want:=want) (by rw [hnx]; exact h40) (by omega)
        rw [hnx] at hq
        obtain ⟨q,hq1⟩:∃ q:Nat,Jp t r.group k n=q:=⟨(Jp t r.group k n).toNat,by omega⟩
        rw [hq1] at hone hq
        have hA1:=hA t r.group k n ht
        rw [hq1] at hA1
        try simp only [I,RY,↓ KW,seval,h4,hp,hr]
        refine af hA1 ?_
        try simp only [I,RY,↓ KW,seval,hw,hp]
        refine af (hM t l q ht hl (by omega)) ?_
        try simp only [B,RY,↓ KW,seval]
        have hq2:(q:Int).toNat=q:=rfl
        rw [hq2] at hone
        rcases bc (nr t l q) with h5|h5
        · rw [if_neg (by rw [h5]; decide)] at hone
          try simp only [RY,↓ KW,seval,h5]
          refine back (k + 1) _ (by omega) (by omega) ?_
          refine ai (by decide) ?_ ?_ ?_ ?_<;>simp [LX,I,hwr,hn,hone]
        · rw [if_pos h5] at hone
          have hps:=x.1.OH h2 n
          try simp only [RY,↓ KW,seval,h5]
          refine af (hW _ _) ?_
          try simp only [I,RY,↓ KW,seval,hy,hps,hx4]
          refine ⟨by omega,back (k + 1) _ (by omega) (by omega) ?_⟩
          refine ai (by decide) ?_ ?_ ?_ ?_<;>simp [LX,I,hwr,hn,hone]
    · rw [if_pos rfl] at hone
      have hbt:=hb
      simp only [EJ,Bool.and_eq_true] at hbt
      have h30:=of_decide_eq_true hbt.1
      have h31:=Jr (t:=t) (r:=r) (k:=k)
      rw [hnw] at h30 h31
      obtain ⟨q,hq⟩:∃ q:Nat,w=q:=⟨w.toNat,by omega⟩
      subst hq
      have hy2:0≤(q:Int)∧(q:Int) < 8:=by omega
      have hat:ay (cz l) (q * 12) (some 12)=some (.agg (bp l q).cells):=i6 hl (by omega)
      have qz:setCells aP 0 (bp l q).cells=(bp l q).cells:=rfl
      have ql:aP.length=12:=rfl
      have qr:(bp l q).cells[0]? = some (I (bp l q).aQ)∧(bp l q).cells[7]? = some (B (bp l q).done)∧ay (bp l q).cells 0 (some 12)=some (.agg (bp l q).cells):=⟨rfl,rfl,rfl⟩
      have hph:=Tb.mT (ht.ln.tc (k:=q) (by omega))
      have he:KJ t r l want k=((bp l q).aQ == 1 && (((bp l q).done && decide (n ≥ 0)) || (RH (aX t q) (bp l q) && !ej want q))):=by rw [KJ,hnw,hnx]; rfl
      try simp only [I,B,RY,↓ KW,seval,hy,oat,hy2,hat,qz,ql,qr,Rn.len,hz3]
      rw [he] at hone
      repeat' (first | ((first | refine af (hE (aX t q) (bp l q)) ?_ | refine af (hH want q) ?_ | refine af (hW _ _) ?_); try simp only [I,B,RY,↓ KW,seval]) | (((first | refine aV ?_ ?_ | refine ax ?_ ?_ | refine bC ?_ ?_)<;>intro h)<;>try simp only [B,RY,↓ KW,seval,hy2,hph,qr,h]))
      all_goals
        refine back (k + 1) _ (by omega) (by omega) ?_
        refine ai (by decide) ?_ ?_ ?_ ?_<;>simp [LX,I, *]
  have hk2:k=2:=by have:=of_decide_eq_false h; omega
  subst hk2
  try simp only [RY,↓ KW,seval,hw]
  refine af (hG l hl) ?_
  try simp only [I,RY,↓ KW,seval]
  have hx2:Ie t r l want=x:=hx
  have o0:ay (lB t r l want 2) 0 (some 3)=some (.agg [I (tP t r 0),I (DS t r want 0),B (EJ t r l 0)]):=rfl
  have o1:ay (lB t r l want 2) 3 (some 3)=some (.agg [I (tP t r 1),I (DS t r want 1),B (EJ t r l 1)]):=rfl
  have hc3:setCells x.1.cells 3 [B true]=({ x.1 with lU:=true }:gL).cells:=rfl
  have hg:(Kw fun p=>ga (bp l p))=j9 l:=rfl
  have hcs:VN t r l want x=(yE .i64 x.2.1 x.2.2 == 0 && (EL t r l want 0 && (EL t r l want 1 && decide (AI (ep .i64 want (j9 l)) ≥ 0)))):=rfl
  have hr2:L8 t r l want=if VN t r l want x then ({ x.1 with lU:=true },x.2.1,j9 l) else x:=by rw [L8,if_neg (by rw [hcr]; decide),hx2]
  have hs0:=hS l (tP t r 0) (DS t r want 0) (EJ t r l 0) hl (OG (t:=t) (r:=r) (l:=l))
  have hs1:=hS l (tP t r 1) (DS t r want 1) (EJ t r l 1) hl (OG (t:=t) (r:=r) (l:=l))
  rw [show An l (tP t r 0) (DS t r want 0) (EJ t r l 0)=EL t r l want 0 from rfl] at hs0
  rw [show An l (tP t r 1) (DS t r want 1) (EJ t r l 1)=EL t r l want 1 from rfl] at hs1
  rw [hg]
  try simp only [I,B,D,RY,↓ KW,seval,o0,o1,hw,hrl,htl,hp,hr,hz4,hx4,hz3,hz2,hss]
  repeat' (first | ((first | refine af (hs0) ?_ | refine af (hs1) ?_ | refine af (hF _) ?_); try simp only [I,B,RY,↓ KW,seval]) | (((first | refine aV ?_ ?_ | refine ax ?_ ?_ | refine bC ?_ ?_)<;>intro h)<;>try simp only [I,B,RY,↓ KW,seval,o0,o1,hc3,hw,hx4,hss,h]))
  all_goals simp [*]
end
theorem Js(s:Int) {p:Nat} (hp:p<8):d9 (d9 s p) p=d9 s p:=
 AW (tw hp) (tw hp) fun i hi=>by
  rw[ur hp,ur hp]
  cases tb s i<;>simp[hi]
theorem OJ{α:Type} {l:List α} {f:α->Bool} {i:Nat} {x:α} (h:l[i]? =some x):(l.take (i+1)).any f=((l.take i).any f||f x):=by
 rw[List.take_add_one,h];simp
def CV(l:List Rn) (want:Int):Int:=ep .i64 want (j9 l)
def RO(t:Tb) (r:gL) (l:List Rn) (want:Int) (p:Nat) (q:Nat):Bool:=!(aR t p).2|| !ZL t r (aR t p).1.ring q
def ZO(t:Tb) (r:gL) (l:List Rn) (want:Int) (n:Int) (p:Nat):Int:=if(fJ (CV l want)).any (RO t r l want p)then d9 n p else n
def RQ(t:Tb) (r:gL) (l:List Rn) (want:Int):Int:=(fJ (dw .i64 (j9 l) (wE t))).foldl (ZO t r l want) 0
def Ih.Spec(C:aS) (f:Nat):Prop:=∀(t:Tb) (r:gL) (l:List Rn) (want:Int),t.Ok->l.length=8->C.c f [.agg t.cells,.agg r.cells,.agg (cz l),I want] (I (RQ t r l want)) none
def ptF(t:Tb) (r:gL) (p:Nat):gL:=if(aR t p).2&&((aR t p).1.group==r.group&&decide (r.at (aR t p).1.ring<0))then r.put (aR t p).1.ring (aR t p).1.pos else r
def VO(t:Tb) (s:Int):gL:=(fJ s).foldl (ptF t) ⟨(aR t (AI s)).1.group,-1,-1,false⟩
def Ii.Spec(C:aS) (f:Nat):Prop:=∀(t:Tb) (s:Int),t.Ok->C.c f [.agg t.cells,I s] (.agg (VO t s).cells) none
def WQ(t:Tb) (k:Int):Int:=if k<0\/((t.bQ.getD []).length:Int)<=k then 0 else(Ku t k.toNat).exit
def CW.Spec(C:aS) (f:Nat):Prop:=∀(t:Tb) (k:Int),t.Ok->C.c f [.agg t.cells,I k] (I (WQ t k)) none
def yp.Spec(C:aS) (f:Nat):Prop:=∀s:bP,s.Ok->C.c f [.agg s.cells] (I (Kw fun p=>ga (s.rn p))) none
def yq.Spec(C:aS) (f:Nat):Prop:=∀s:bP,s.Ok->C.c f [.agg s.cells] (I (Kw fun p=>zb (s.rn p))) none
section
variable{P:Program} (hm:P.follows .mixedOrders=true) {f:Nat}
include hm
theorem CW.ok(hc:bF P f=some tM):CW.Spec (Pure P) f:=by
 intro t k ht
 have hr:t.cells[114]? =some (aH Rl.cells t.bQ):=ht.ln.NJ
 refine ak hm hc (by show 2<=20;decide) (aj (keep:=[]) (i:=0) ?_)
 try simp only[I,RX,↓KW,seval,tM,Z.H]
 rcases bc (decide (k<0))with h1|h1
 rotate_left
 ·try simp only[RX,↓KW,seval,h1]
  rw[WQ,if_pos (.inl (of_decide_eq_true h1))]
 try simp only[RX,↓KW,seval,h1,hr]
 rcases bc (decide (k>=((t.bQ.getD []).length:Int)))with h2|h2
 rotate_left
 ·try simp only[RX,↓KW,seval,h2]
  rw[WQ,if_pos (.inr (of_decide_eq_true h2))]
 have a1:=of_decide_eq_false h1
 have a2:=of_decide_eq_false h2
 obtain⟨x,hx⟩:∃x,(t.bQ.getD [])[k.toNat]? =some x:=⟨_,List.getElem?_eq_getElem (by omega)⟩
 have hx2:Ku t k.toNat=x:=by rw[Ku,List.getD_eq_getElem?_getD,hx];rfl
 have hy:0<=k/\k<((t.bQ.getD []).length:Int):=by omega
 have hq:x.cells.length=11/\x.cells.drop 3=I x.exit::x.cells.drop 4:=⟨rfl,rfl⟩
 try simp only[I,RX,↓KW,seval,h2,hx,hy,hq,hr]
 rw[WQ,if_neg (by omega),hx2]
theorem yp.ok{fW:Nat} (hc:bF P f=some (rH fW)) (hW:gO.Spec (Pure P) fW):yp.Spec (Pure P) f:=by
 intro s hs
 refine ak hm hc (by show 1<=19;decide) (aj (keep:=[]) (i:=0) ?_)
 try simp only[I,RY,↓KW,seval,rH,Z.H]
 refine aG (fun k:Nat=>(⟨[(5,.dat (I k) none),(1,.ptr 4 0),(3,.dat (I (nh (fun p=>ga (s.rn p)) k)) none)],[(4,⟨s.cells,[]⟩)],[],400⟩:S)) (fun k=>8-k) (fun k=>k<=8) ?_ 0 (by omega) ?_
 ·intro k hk A back
  have hwr:=aB (k:=k) (by omega)
  try simp only[I,RY,↓KW,seval]
  rcases bc (decide ((k:Int)<8))with h|h
  ·have:k=8:=by have:=of_decide_eq_false h;omega
   subst this;try simp only[RY,↓KW,seval]
   rfl
  ·have h8:k<8:=by have:=of_decide_eq_true h;omega
   have hat:s.cells[k*12]? =some (I (s.rn k).aQ):=bP.N0 hs h8 (j:=0) (by omega)
   have hn:nh (fun p=>ga (s.rn p)) (k+1)=if ga (s.rn k)then d9 (nh (fun p=>ga (s.rn p)) k) k else nh (fun p=>ga (s.rn p)) k:=rfl
   have hy:0<=(k:Int)/\(k:Int)<8:=by omega
   have hg:((s.rn k).aQ==1)=ga (s.rn k):=rfl
   try simp only[I,RY,↓KW,seval,hy,hat]
   rw[hg]
   rcases bc (ga (s.rn k))with h2|h2
   ·try simp only[RY,↓KW,seval,h2]
    refine back (k+1) _ (by omega) (by omega) (ai (by decide) ?_ ?_ ?_ ?_)<;>simp[LX,I,hwr,hn,h2]
   ·try simp only[RY,↓KW,seval,h2]
    refine af (hW _ _) ?_;try simp only[I,RY,↓KW,seval]
    refine back (k+1) _ (by omega) (by omega) (ai (by decide) ?_ ?_ ?_ ?_)<;>simp[LX,I,hwr,hn,h2]
 ·refine ai (by decide) ?_ ?_ ?_ ?_<;>simp[LX,I,nh]
theorem yq.ok{fW:Nat} (hc:bF P f=some (rI fW)) (hW:gO.Spec (Pure P) fW):yq.Spec (Pure P) f:=by
 intro s hs
 refine ak hm hc (by show 1<=20;decide) (aj (keep:=[]) (i:=0) ?_)
 try simp only[I,RY,↓KW,seval,rI,Z.H]
 refine aG (fun k:Nat=>(⟨[(5,.dat (I k) none),(1,.ptr 4 0),(3,.dat (I (nh (fun p=>zb (s.rn p)) k)) none)],[(4,⟨s.cells,[]⟩)],[],400⟩:S)) (fun k=>8-k) (fun k=>k<=8) ?_ 0 (by omega) ?_
 ·intro k hk A back
  have hwr:=aB (k:=k) (by omega)
  try simp only[I,RY,↓KW,seval]
  rcases bc (decide ((k:Int)<8))with h|h
  ·have:k=8:=by have:=of_decide_eq_false h;omega
   subst this;try simp only[RY,↓KW,seval]
   rfl
  ·have h8:k<8:=by have:=of_decide_eq_true h;omega
   have hat:s.cells[k*12+2]? =some (I (s.rn k).fst):=bP.N0 hs h8 (j:=2) (by omega)
   have hn:nh (fun p=>zb (s.rn p)) (k+1)=if zb (s.rn k)then d9 (nh (fun p=>zb (s.rn p)) k) k else nh (fun p=>zb (s.rn p)) k:=rfl
   have hy:0<=(k:Int)/\(k:Int)<8:=by omega
   have hg:((s.rn k).fst==1)=zb (s.rn k):=rfl
   try simp only[I,RY,↓KW,seval,hy,hat]
   rw[hg]
   rcases bc (zb (s.rn k))with h2|h2
   ·try simp only[RY,↓KW,seval,h2]
    refine back (k+1) _ (by omega) (by omega) (ai (by decide) ?_ ?_ ?_ ?_)<;>simp[LX,I,hwr,hn,h2]
   ·try simp only[RY,↓KW,seval,h2]
    refine af (hW _ _) ?_;try simp only[I,RY,↓KW,seval]
    refine back (k+1) _ (by omega) (by omega) (ai (by decide) ?_ ?_ ?_ ?_)<;>simp[LX,I,hwr,hn,h2]
 ·refine ai (by decide) ?_ ?_ ?_ ?_<;>simp[LX,I,nh]
theorem Ih.ok{fG fO fE fW fA fS:Nat} (hc:bF P f=some (rJ fG fO fE fW fA fS)) (hG:pR.Spec (Pure P) fG) (hO:Zh.Spec (Pure P) fO) (hE:tf.Spec (Pure P) fE) (hW:vY.Spec (Pure P) fW) (hA:ye.Spec (Pure P) fA) (hS:gO.Spec (Pure P) fS):Ih.Spec (Pure P) f:=by
 intro t r l want ht hl
 have hw:=gB hl
 have hp:=Tb.whole ht
 have hr:r.cells.length=4/\ay r.cells 0 (some 4)=some (.agg r.cells):=⟨rfl,rfl⟩
 refine ak hm hc (by show 4<=52;decide) (aj (keep:=[]) (i:=0) ?_)
 try simp only[I,RX,↓KW,seval,rJ,Z.H,hw]
 refine af (hG l hl) ?_
 have hg:(Kw fun p=>ga (bp l p))=j9 l:=rfl
 rw[hg];try simp only[I,RX,↓KW,seval,hp]
 refine af (hO t ht.ln) ?_;try simp only[I,RX,↓KW,seval]
 obtain⟨k,hk,hi⟩:=hE (dw .i64 (j9 l) (wE t))
 refine af hk ?_;try simp only[I,RX,seval]
 refine ia (fun s:Int=>(⟨[(23,.dat (.fn (.func k) [] [.ref [I (dw .i64 (j9 l) (wE t))]]) none),(4,.ptr 4 0),(5,.ptr 5 0),(7,.ptr 7 0),(9,.ptr 11 0),(10,.ptr 12 0)],[(4,⟨t.cells,[]⟩),(5,⟨r.cells,[]⟩),(7,⟨[I want],[]⟩),(11,⟨[I (j9 l)],[]⟩),(12,⟨[I s],[]⟩)],[],400⟩:S)) (fun i s=>s=((fJ (dw .i64 (j9 l) (wE t))).take i).foldl (ZO t r l want) 0) hi rfl (gZ fun _=>rfl) (fun _=>rfl) ?_ ?_ 0 rfl ?_
 ·rintro i x s hx' he A back
  obtain⟨p,hp',rfl⟩:=m7 hx'
  have hp':(fJ (dw .i64 (j9 l) (wE t)))[i]? =some p:=hp'
  have h8:=xF (List.mem_of_getElem? hp')
  have hn:=kq (f:=ZO t r l want) (b:=0) hp'
  rw[<-he]at hn
  have hn':ZO t r l want s p=if(fJ (CV l want)).any (RO t r l want p)then d9 s p else s:=rfl
  rw[hn']at hn;try simp only[I,RX,↓KW,seval,hp]
  refine af (hW t p ht) ?_;try simp only[I,B,RX,↓KW,seval]
  obtain⟨k2,hk2,hi2⟩:=hE (ep .i64 want (j9 l))
  refine af hk2 ?_;try simp only[I,RX,seval]
  have hP:∀q:Nat,RO t r l want p q=(!(aR t p).2|| !ZL t r (aR t p).1.ring q):=fun _=>rfl
  generalize(aR t p).2=ok at*;generalize(aR t p).1=w at*
  refine ia (fun z:Int=>(⟨[(36,.dat (.fn (.func k2) [] [.ref [I (ep .i64 want (j9 l))]]) none),(23,.dat (.fn (.func k) [] [.ref [I (dw .i64 (j9 l) (wE t))]]) none),(4,.ptr 4 0),(5,.ptr 5 0),(7,.ptr 7 0),(9,.ptr 11 0),(10,.ptr 12 0),(11,.ptr 400 0),(13,.ptr 410 0),(15,.ptr 411 0)],[(4,⟨t.cells,[]⟩),(5,⟨r.cells,[]⟩),(7,⟨[I want],[]⟩),(11,⟨[I (j9 l)],[]⟩),(12,⟨[I z],[]⟩),(400,⟨[I p],[]⟩),(410,⟨[I w.ring],[]⟩),(411,⟨[B ok],[]⟩)],[],420⟩:S))
   (fun j z=>z=if((fJ (CV l want)).take j).any (RO t r l want p)then d9 s p else s) hi2 rfl (gZ fun _=>rfl) (fun _=>rfl) ?_ ?_ s (by simp) ?_
  ·rintro j y z hy' hz A2 back2
   obtain⟨q,hq',rfl⟩:=m7 hy'
   have hq':(fJ (CV l want))[j]? =some q:=hq'
   have hz2:=OJ (f:=RO t r l want p) hq'
   have hnx:(if((fJ (CV l want)).take (j+1)).any (RO t r l want p)then d9 s p else s)=if RO t r l want p q then d9 z p else z:=by
    rw[hz2,hz]
    cases((fJ (CV l want)).take j).any (RO t r l want p)<;>cases RO t r l want p q<;>simp[Js s h8]
   have hA2:=hA t r w.ring q ht
   rw[hP q]at hnx;clear hz2 hz hi hi2 hk hk2;try simp only[I,B,RX,↓KW,seval]
   repeat' (first|((first|refine af (hA2) ?_|refine af (hS _ _) ?_);try simp only[I,B,RX,↓KW,seval])|(((first|refine aV ?_ ?_|refine ax ?_ ?_|refine bC ?_ ?_)<;>intro h)<;>try simp only[RX,↓KW,seval,hp,hr,h]))
   all_goals
    refine back2 _ _ hnx.symm ?_
    refine ai (by decide) ?_ ?_ ?_ ?_<;>simp[LX,I,B, *]
  ·rintro z hz
   have hz2:z=((fJ (dw .i64 (j9 l) (wE t))).take (i+1)).foldl (ZO t r l want) 0:=by
    rw[hz,hn,List.take_of_length_le (by simp[fJ,CV])]
   try simp only[I,B,RX,seval]
   refine back _ _ hz2 ?_
   refine ai (by decide) ?_ ?_ ?_ ?_<;>simp[LX,I]
  ·refine ai (by decide) ?_ ?_ ?_ ?_<;>simp[LX,I,B]
 ·rintro s he
  rw[List.take_of_length_le (by simp[fJ])]at he
  try simp only[I,RX,↓KW,seval]
  rw[he];rfl
 ·refine ai (by decide) ?_ ?_ ?_ ?_<;>simp[LX,I]
theorem Ii.ok{fF fW fE:Nat} (hc:bF P f=some (Ab fF fW fE)) (hF:uJ.Spec (Pure P) fF) (hW:vY.Spec (Pure P) fW) (hE:tf.Spec (Pure P) fE):Ii.Spec (Pure P) f:=by
 intro t e ht
 have hp:=Tb.whole ht
 have hz5:∀x:gL,setCells [.int .i64 0,.int .i64 0,.int .i64 0,.bool false] 0 x.cells=x.cells:=fun _=>rfl
 have hzi:setCells [.int .i64 0,.int .i64 0,.int .i64 0,.bool false] 0 [I 0,I (-1),I (-1),B false]=(⟨0,-1,-1,false⟩:gL).cells:=rfl
 have hzg:∀(x:gL) (n:Int),setCells x.cells 0 [I n]=({x with group:=n}:gL).cells:=fun _ _=>rfl
 have hx4:∀x:gL,x.cells.length=4/\ay x.cells 0 (some 4)=some (.agg x.cells)/\x.cells[0]? =some (I x.group):=fun _=>⟨rfl,rfl,rfl⟩
 refine ak hm hc (by show 2<=53;decide) (aj (keep:=[]) (i:=0) ?_)
 try simp only[I,RY,↓KW,seval,Ab,Z.H,hp]
 refine af (hF e) ?_;try simp only[I,RY,↓KW,seval,hzi]
 refine af (hW t (AI e) ht) ?_;try simp only[I,B,RY,↓KW,seval,hx4]
 obtain⟨k,hk,hi⟩:=hE e;refine af hk ?_;try simp only[I,RY,seval,hzg]
 refine ia (fun x:gL=>(⟨[(24,.dat (.fn (.func k) [] [.ref [I e]]) none),(2,.ptr 4 0),(4,.ptr 5 0),(5,.ptr 8 0)],[(4,⟨t.cells,[]⟩),(5,⟨[.int .i64 0,.int .i64 0,.int .i64 0,.bool false],[]⟩),(8,⟨x.cells,[]⟩)],[],400⟩:S)) (fun i x=>x=((fJ e).take i).foldl (ptF t) ⟨(aR t (AI e)).1.group,-1,-1,false⟩) hi rfl (gZ fun _=>rfl) (fun _=>rfl) ?_ ?_ ⟨(aR t (AI e)).1.group,-1,-1,false⟩ rfl ?_
 ·rintro i y x hy' he A back
  obtain⟨p,hp',rfl⟩:=m7 hy'
  have hp':(fJ e)[i]? =some p:=hp'
  have hn:=kq (f:=ptF t) (b:=⟨(aR t (AI e)).1.group,-1,-1,false⟩) hp'
  rw[<-he]at hn
  have hP:ptF t x p=if(aR t p).2&&((aR t p).1.group==x.group&&decide (x.at (aR t p).1.ring<0))then x.put (aR t p).1.ring (aR t p).1.pos else x:=rfl
  rw[hP]at hn
  have hwr:=CI (t:=t) (q:=p)
  try simp only[I,RY,↓KW,seval,hp]
  refine af (hW t p ht) ?_;generalize(aR t p).2=ok at*;generalize(aR t p).1=w at*;try simp only[I,B,RY,↓KW,seval]
  rcases bc ok with h1|h1
  ·try simp only[RY,↓KW,seval,h1]
   refine back x _ (by rw[hn,h1];rfl) ?_
   refine ai (by decide) ?_ ?_ ?_ ?_<;>simp[LX,I]
  have hy:=hwr h1
  have hr1:x.cells[1+w.ring.toNat]? =some (I (x.at w.ring)):=by
   have:w.ring=0\/w.ring=1:=by omega
   rcases this with e|e<;>rw[e]<;>rfl
  obtain⟨q,hq⟩:∃q:Nat,w.ring=q:=⟨w.ring.toNat,by omega⟩
  have hps:=x.OH (k:=q) (by omega) w.pos
  rw[hq]at hr1 hn
  have hr1:x.cells[1+q]? =some (I (x.at q)):=hr1
  have hy2:0<=(q:Int)/\(q:Int)<2:=by omega
  try simp only[I,RY,↓KW,seval,h1,hq,hx4]
  clear he hP
  repeat' (((first|refine aV ?_ ?_|refine ax ?_ ?_|refine bC ?_ ?_)<;>intro h)<;>try simp only[I,RY,↓KW,seval,hy2,hr1,hps,hx4,h])
  all_goals
   try refine⟨by omega,?_⟩
   refine back _ _ hn.symm ?_
   refine ai (by decide) ?_ ?_ ?_ ?_<;>simp[LX,I, *]
 ·rintro x he
  rw[List.take_of_length_le (by simp[fJ])]at he
  try simp only[I,RY,↓KW,seval,hx4,hz5]
  rw[he];rfl
 ·refine ai (by decide) ?_ ?_ ?_ ?_<;>simp[LX,I]
theorem RR.ok{fB:Nat} (hc:bF P f=some (rG fB)) (hB:yl.Spec (Pure P) fB):AU.Spec (Pure P) f:=by
 intro t ht
 have hzl:bX.length=117:=rfl
 have hz0:List.take 96 bX++[I 0,I (-1),I (-1),B false]++List.drop 100 bX=({kX t 0 with rings:=⟨0,-1,-1,false⟩}:bP).cells:=rfl
 have hr:∀k,({kX t k with rings:=⟨0,-1,-1,false⟩}:bP).Ok:=fun k=>⟨(N2 t k).runs,rfl,rfl⟩
 have hs0:∀k,setCells bX 0 ({kX t k with rings:=⟨0,-1,-1,false⟩}:bP).cells=({kX t k with rings:=⟨0,-1,-1,false⟩}:bP).cells:=fun k=>bk (by rw[bP.len (hr k)];rfl)
 have hl0:=fun k=>bP.len (hr k)
 have hwo:=fun k=>bP.whole (hr k)
 refine ak hm hc (by show 1<=21;decide) (aj (keep:=[]) (i:=0) ?_)
 try simp only[RY,↓KW,seval,rG,Z.H,hzl,hz0,hs0,hl0]
 refine aG (fun k:Nat=>(⟨[(8,.dat (I k) none),(1,.ptr 4 0),(2,.ptr 5 0),(3,.ptr 9 0)],[(4,⟨t.cells,[]⟩),(5,⟨bX,[]⟩),(9,⟨({kX t k with rings:=⟨0,-1,-1,false⟩}:bP).cells,[]⟩)],[],400⟩:S)) (fun k=>8-k) (fun k=>k<=8) ?_ 0 (by omega) ?_
 ·intro k hk A back
  have hw:=aB (k:=k) (by omega)
  try simp only[I,RY,↓KW,seval]
  rcases bc (decide ((k:Int)<8))with h2|h2
  ·have:k=8:=by have:=of_decide_eq_false h2;omega
   subst this;try simp only[RY,↓KW,seval,hzl,hs0,hl0,hwo]
   rfl
  ·have h8:k<8:=by have:=of_decide_eq_true h2;omega
   have hx:0<=(k:Int)/\(k:Int)<8:=by omega
   have hph:=Tb.mT (ht.tc h8)
   have hs:=bP.SM (hr k) h8 (Hv (aX t k))
   have hs2:({kX t k with runs:=(kX t k).runs.set k (Hv (aX t k)),rings:=⟨0,-1,-1,false⟩}:bP)={kX t (k+1)with rings:=⟨0,-1,-1,false⟩}:=by rw[<-Jj t h8]
   simp only at hs;rw[hs2]at hs;try simp only[RY,↓KW,seval,hx,hph]
   refine af (hB _) ?_;try simp only[RY,↓KW,seval,hx,hs,Rn.len,hl0]
   refine⟨by omega,back (k+1) _ (by omega) (by omega) ?_⟩
   refine ai (by decide) ?_ ?_ ?_ ?_<;>simp[LX,I,hw]
 ·refine ai (by decide) ?_ ?_ ?_ ?_<;>simp[LX,I]
end
open Ieee
set_option exponentiation.threshold 4000
def rk(x:Nat):Int:=if x<2^63 then(x:Int)else -((x:Int)-(2^63:Nat))-1
def fv:Option Nat->AV
 |none=>.eM
 |some n=>Fl n
theorem OK:iz .eM=.dat .eM none:=rfl
section
open Z
def EM:List AV:=[.float .f64 0,.float .f64 0,.float .f64 0,.float .f64 0,.float .f64 0,.float .f64 0,.float .f64 0,.float .f64 0,.float .f64 0,.float .f64 0,.float .f64 0,.float .f64 0,.float .f64 0,.float .f64 0,.float .f64 0,.float .f64 0]
def lS(g0 g1 g2 g3 g4 g5:Nat):bM:=⟨200,[.tmp 4],r [V 4 .aL] (r [V 5 .aL] (r [o 6 (.alloc EM)] (r [V 7 (i 16)] (r [o 18 (.build [.aL,i 0,i 0,i 0,i 0,F] []),o 8 (.alloc [.aL,i 0,i 0,i 0,i 0,F]),n (s 8 18 6)] (j (r [V 9 (i 0)] (u 0 (.loop (j (r [M 19 9,M 20 0,o 21 (h 20),o 22 (b .lss 19 21),M 23 22,p 24 (m 9) 23,p 25 (bb .lss 24 (i 120)) 23,o 26 (P 23 25),M 27 26,p 28 (m 5) 27,p 29 (h 28) 27,p 30 (bb .lss 29 (i 1500)) 27,o 31 (P 27 30)] (c 31 z (.exit 0))) (j (u 1 (r [M 34 0,M 35 9,o 36 (a 34 35 1),o 37 (l 36),o 38 (.call g0 [t 37,k (i 1099511627776)]),M 10 38] (r [M 39 10,o 40 (bb .quo 39 (i 16)),o 41 (bb .rem 40 (i 64)),M 11 41] (r [M 42 10,o 43 (bb .quo 42 (i 1024)),o 44 (bb .rem 43 (i 30)),o 45 (.bin .add (k (i 1)) (t 44)),M 12 45] (r [o 46 (.build [.aL,i 0,i 0,i 0,i 0,F] []),o 13 (.alloc [.aL,i 0,i 0,i 0,i 0,F]),n (s 13 46 6)] (j (r [M 47 10,o 48 (bb .rem 47 (i 16))] (u 2 (j (r [o 50 (bb .eql 48 (i 0)),M 49 50] (c 49 z (r [o 51 (bb .eql 48 (i 1)),M 49 51] (c 49 z (R [o 52 (bb .eql 48 (i 2)),M 49 52]))))) (c 49 (R [M 53 11,o 54 (bb .rem 53 (i 16)),M 55 11,o 56 (bb .rem 55 (i 16)),o 57 (A 6 56 16 1),o 58 (l 57),o 59 (.bin .sub (k (.float .f64 4626322717216342016)) (t 58)),o 60 (A 6 54 16 1),n (s 60 59 1)]) (r [o 62 (bb .eql 48 (i 3)),M 61 62] (c 61 (R [M 63 11,o 64 (bb .rem 63 (i 16)),o 65 (.call g1 []),o 66 (.call g2 [k (i 1)]),o 67 (.call g3 [k (.float .f64 0),k (.float .f64 13830554455654793216)]),o 68 (.build [.float .f64 0,.float .f64 0,.float .f64 0,.float .f64 0,.float .f64 0,.float .f64 0] [(0,1,t 65),(1,1,t 66),(2,1,t 67),(3,1,k (.float .f64 4613937818241073152)),(4,1,k (.float .f64 4711630319722168320)),(5,1,k (.float .f64 4604930618986332160))]),M 69 11,o 70 (bb .rem 69 (i 6)),o 71 (.DU (t 68) (t 70) 6 1 none),o 72 (A 6 64 16 1),n (s 72 71 1)]) (j (r [o 74 (bb .eql 48 (i 4)),M 73 74] (c 73 z (R [o 75 (bb .eql 48 (i 5)),M 73 75]))) (c 73 (R [M 76 10,o 77 (bb .quo 76 (i 1024)),o 78 (bb .rem 77 (i 256)),o 79 (f 13 1),n (s 79 78 1)]) (r [o 81 (bb .eql 48 (i 6)),M 80 81] (c 80 (R [o 82 (f 8 2),o 83 (l 82),M 84 11,o 85 (bb .rem 84 (i 4)),o 86 (.oG .u64 (t 85)),o 87 (.bin .shl (k (i 1)) (t 86)),o 88 (b .xor 83 87),o 89 (f 8 2),n (s 89 88 1)]) (r [o 91 (bb .eql 48 (i 7)),M 90 91] (c 90 (R [M 92 11,o 93 (bb .rem 92 (i 4)),o 94 (.oG .u64 (t 93)),o 95 (.bin .shl (k (i 1)) (t 94)),o 96 (f 13 3),n (s 96 95 1)]) (r [o 98 (bb .eql 48 (i 8)),M 97 98] (c 97 (R [o 99 (f 8 3),o 100 (l 99),M 101 11,o 102 (bb .rem 101 (i 4)),o 103 (.oG .u64 (t 102)),o 104 (.bin .shl (k (i 1)) (t 103)),o 105 (b .xor 100 104),o 106 (f 8 3),n (s 106 105 1)]) (r [o 108 (bb .eql 48 (i 9)),M 107 108] (c 107 (R [M 109 12,o 110 (bb .mul 109 (i 6)),M 12 110]) (r [o 112 (bb .eql 48 (i 10)),M 111 112] (c 111 (r [V 14 (i 0)] (u 3 (.loop (j (r [M 113 14,o 114 (bb .lss 113 (i 16))] (c 114 z (.exit 3))) (j (u 4 (R [M 117 14,M 118 11,o 119 (bb .rem 118 (i 2)),o 120 (bb .mul 119 (i 20)),o 121 (.DH .f64 (t 120)),o 122 (A 6 117 16 1),n (s 122 121 1)])) (R [M 115 14,o 116 (bb .add 115 (i 1)),M 14 116])))))) (r [o 124 (bb .eql 48 (i 11)),M 123 124] (c 123 (R [M 125 11,o 126 (bb .rem 125 (i 17)),M 7 126]) (r [o 128 (bb .eql 48 (i 12)),M 127 128] (c 127 (r [o 129 (f 8 3),n (ss 129 (i 0) 1)] (R [V 7 (i 16)])) (r [o 131 (bb .eql 48 (i 13)),M 130 131] (c 130 (j (r [M 132 1,M 133 132,p 134 (m 11) 133,p 135 (bb .rem 134 (i 4)) 133,p 136 (bb .eql 135 (i 0)) 133,o 137 (P 133 136)] (c 137 (R [M 138 11,o 139 (.oG .u64 (t 138)),o 140 (.bin .shl (k (i 256)) (t 139)),o 141 (f 13 1),n (s 141 140 1)]) z)) (j (r [M 142 1,M 143 142,p 144 (m 11) 143,p 145 (bb .rem 144 (i 4)) 143,p 146 (bb .eql 145 (i 1)) 143,o 147 (P 143 146)] (c 147 (R [M 148 10,o 149 (bb .quo 148 (i 1024)),o 150 (bb .rem 149 (i 256)),o 151 (f 13 4),n (s 151 150 1)]) z)) (R [M 152 1,M 153 152,p 154 (m 11) 153,p 155 (bb .rem 154 (i 2)) 153,p 156 (bb .eql 155 (i 0)) 153,o 157 (P 153 156),o 158 (f 13 5),n (s 158 157 1)]))) z)))))))))))))))))))))))) (r [M 159 7,o 160 (.Wn (t 6) 16 1 (t 159)),o 161 (.DI g4 1 8 (t 160) (t 6)),M 15 161] (r [V 16 (i 0)] (u 5 (.loop (j (r [M 162 16,M 163 12,o 164 (b .lss 162 163),M 165 164,p 166 (m 5) 165,p 167 (h 166) 165,p 168 (bb .lss 167 (i 1500)) 165,o 169 (P 165 168)] (c 169 z (.exit 5))) (j (u 6 (r [M 172 15,o 173 (f 8 2),o 174 (l 173),o 175 (f 8 3),o 176 (l 175),o 177 (.build [.aL,i 0,i 0,i 0,i 0,F] [(0,1,t 172),(2,1,t 174),(3,1,t 176)]),o 17 (.alloc [.aL,i 0,i 0,i 0,i 0,F]),n (s 17 177 6)] (j (r [M 178 16,o 179 (bb .eql 178 (i 0))] (c 179 (r [o 180 (f 13 1),o 181 (l 180),o 182 (f 17 1),n (s 182 181 1)] (r [o 183 (f 13 4),o 184 (l 183),o 185 (f 17 4),n (s 185 184 1)] (r [o 186 (f 17 3),o 187 (l 186),o 188 (f 13 3),o 189 (l 188),o 190 (b .or 187 189),o 191 (f 17 3),n (s 191 190 1)] (R [o 192 (f 13 5),o 193 (l 192),o 194 (f 17 5),n (s 194 193 1)])))) z)) (R [M 195 5,o 196 (L 17 6),o 197 (.mz g5 6 [t 196]),o 198 (.app g5 6 64 (t 195) (t 197)),M 5 198])))) (R [M 170 16,o 171 (bb .add 170 (i 1)),M 16 171]))))))))))))) (R [M 32 9,o 33 (bb .add 32 (i 1)),M 9 33])))))) (r [M 199 5,M 4 199] y))))))⟩
def Ao:bM:=⟨2,[.tmp 0],r [V 0 (.float .f64 0)] (r [o 1 (.xt .ffrom (k (.int .u64 9221120237041090561))),M 0 1] y)⟩
def Ap:bM:=⟨8,[.tmp 2],r [V 2 (.float .f64 0)] (r [V 3 (.int .u64 0)] (j (r [M 4 0,o 5 (bb .geq 4 (i 0))] (c 5 (R [V 3 (.int .u64 9218868437227405312)]) (R [V 3 (.int .u64 18442240474082181120)]))) (r [M 6 3,o 7 (.xt .ffrom (t 6)),M 2 7] y)))⟩
def pS:bM:=⟨13,[.tmp 4],r [V 4 (.float .f64 0)] (r [M 5 0,o 6 (.xt .Gs (t 5)),o 7 (bb .andNot 6 (.int .u64 9223372036854775808)),M 8 1,o 9 (.xt .Gs (t 8)),o 10 (bb .and 9 (.int .u64 9223372036854775808)),o 11 (b .or 7 10),o 12 (.xt .ffrom (t 11)),M 4 12] y)⟩
end
def abv(x:Nat):Bool:=Mp x 13920209183539462144&&LN x 4696837146684686336
def lvN(d:nL) (on:Bool) (dU:Int) (x:Nat):Bool×Int:=
 if abv x then(if Mp x d.on then(true,0)else if LN x d.off then(false,0)else(on,0))else(on,cV dU)
def Ij(d:nL) (on:Bool) (dU:Int):Option Nat->Bool×Int
 |some x=>lvN d on dU x
 |none=>(on,cV dU)
def Aq(on:Bool) (dU:Int):Bool:=on||decide (dU>=3)
def dgE(Pe DR:Int) (b:Bool):Int×Int:=if b then(cV Pe,0)else(0,cV DR)
def RS(a b Pe DR:Int):Bool:=(decide (a>0)&&decide (Pe>=a))||(decide (b>0)&&decide (DR>=b))
def c9(n:Int):Int:=fj n 0 9999
def RU(delay extend held tail:Int) (out b:Bool):Int×Int×Bool:=
 if !b&&(held==0&&(tail==0&&out==false))then(held,tail,out)
 else if(if b then cV held else 0)>c9 delay then((if b then cV held else 0),c9 extend,true)
 else if out&&decide (c9 tail>0)then((if b then cV held else 0),c9 tail-1,true)
 else((if b then cV held else 0),0,false)
def Jt(x:Nat):Int:=if Pd x then(tk x:Int)else 0
def Ju (d:nL) (c:Ch) (x:Option Nat):Ch :=
  ⟨(Ij d c.on c.dU x).1,(Ij d c.on c.dU x).2,(dgE c.Pe c.DR (Aq (Ij d c.on c.dU x).1 (Ij d c.on c.dU x).2)).1,(dgE c.Pe c.DR (Aq (Ij d c.on c.dU x).1 (Ij d c.on c.dU x).2)).2,
   (RU (Jt d.delay) (Jt d.extend) c.held c.tail c.out (Aq (Ij d c.on c.dU x).1 (Ij d c.on c.dU x).2)).1,(RU (Jt d.delay) (Jt d.extend) c.held c.tail c.out (Aq (Ij d c.on c.dU x).1 (Ij d c.on c.dU x).2)).2.1,(RU (Jt d.delay) (Jt d.extend) c.held c.tail c.out (Aq (Ij d c.on c.dU x).1 (Ij d c.on c.dU x).2)).2.2⟩
def abw:Nat:=9221120237041090561
def CX(l:List Ch) (k:Nat):Ch:=l.getD k default
def Ik(l:List (Option Nat)) (k:Nat):Option Nat:=l.getD k none
def og(t:Tb) (l:List Ch) (x:List (Option Nat)) (n:Nat):List Ch:=(List.range n).map fun k=>Ju (HE t k) (CX l k) (Ik x k)
def iZ(x:Option Nat):List AV:=[fv x]
def EN(d:nL) (c:Ch):Bool:=c.out||(decide (c.dU>=3)||RS d.maxOn d.sI c.Pe c.DR)
def jR(t:Tb) (l:List Ch):Nat->Int
 |0=>0
 |k+1=>if EN (HE t k) (CX l k)then d9 (jR t l k) (HE t k).phase else jR t l k
def tT.Spec(C:aS) (f:Nat):Prop:=∀n:Int,C.c f [I n] (I (cV n)) none
def CY.Spec(C:aS) (f:Nat):Prop:=∀(d:nL) (on:Bool) (dU:Int) (x:Option Nat),C.c f [.agg d.cells,.agg [B on,I dU],fv x] (.agg [B (Ij d on dU x).1,I (Ij d on dU x).2]) none
def zh.Spec(C:aS) (f:Nat):Prop:=∀(on:Bool) (dU:Int),C.c f [.agg [B on,I dU]] (B (decide (dU>=3))) none
def CZ.Spec(C:aS) (f:Nat):Prop:=∀(on:Bool) (dU:Int),C.c f [.agg [B on,I dU]] (B (Aq on dU)) none
def C0.Spec(C:aS) (f:Nat):Prop:=∀(a b:Int) (x:Bool),C.c f [.agg [I a,I b],B x] (.agg [I (dgE a b x).1,I (dgE a b x).2]) none
def yu.Spec(C:aS) (f:Nat):Prop:=∀(a b x y:Int),C.c f [I a,I b,.agg [I x,I y]] (B (RS a b x y)) none
def Il.Spec(C:aS) (f:Nat):Prop:=∀n:Int,C.c f [I n] (I (c9 n)) none
def Da.Spec(C:aS) (f:Nat):Prop:=∀(a b held tail:Int) (out x:Bool),C.c f [I a,I b,.agg [I held,I tail,B out],B x] (.agg [I (RU a b held tail out x).1,I (RU a b held tail out x).2.1,B (RU a b held tail out x).2.2]) none
def Im.Spec(C:aS) (f:Nat):Prop:=∀(l:Option (List Ch)) (k:Nat),(l.getD []).length<=1000000->C.c f [aH Ch.cells l,I k,.agg (Ch.cells default)] (.agg (CX (l.getD []) k).cells) none
def Io.Spec(C:aS) (f:Nat):Prop:=∀(l:Option (List (Option Nat))) (k:Nat),(l.getD []).length<=1000000->C.c f [aH iZ l,I k,.eM] (fv (Ik (l.getD []) k)) none
def yw.Spec(C:aS) (f:Nat):Prop:=∀x:Nat,x<2^64->C.c f [Fl x] (I (Jt x)) none
def Mb.Spec(C:aS) (f:Nat):Prop:=C.c f [] .eM none
section
variable{P:Program} (hm:P.follows .mixedOrders=true) {f:Nat}
include hm
theorem tT.ok(hc:bF P f=some vw):tT.Spec (Pure P) f:=by
 intro n
 have h1:=OE n
 refine ak hm hc (by show 1<=7;decide) (aj (keep:=[]) (i:=0) ?_)
 try simp only[I,RX,↓KW,seval,vw,Z.H]
 rw[h1];rfl
theorem VP.ok(hc:bF P f=some ya):tT.Spec (Pure P) f:=by
 intro n
 have h1:=OE n
 refine ak hm hc (by show 1<=7;decide) (aj (keep:=[]) (i:=0) ?_)
 try simp only[I,RX,↓KW,seval,ya,Z.H]
 rw[h1];rfl
theorem Il.ok(hc:bF P f=some yb):Il.Spec (Pure P) f:=by
 intro n
 have h1:=OE n
 refine ak hm hc (by show 1<=6;decide) (aj (keep:=[]) (i:=0) ?_)
 try simp only[I,RX,↓KW,seval,yb,Z.H]
 rw[h1];rfl
theorem Mb.ok(hc:bF P f=some Ao):Mb.Spec (Pure P) f:=by
 show(Pure P).c f [] .eM none
 refine UN (n:=abw) (by decide+kernel) ?_
 refine ak hm hc (by show 0<=2;decide) (aj (keep:=[]) (i:=0) ?_)
 try simp only[RX,↓KW,seval,Ao,Z.H]
 all_goals rfl
theorem yw.ok{fS:Nat} (hc:bF P f=some (rK fS)) (hS:Ca.Spec (Pure P) fS):yw.Spec (Pure P) f:=by
 intro x hx
 refine ak hm hc (by show 1<=11;decide) (aj (keep:=[]) (i:=0) ?_)
 try simp only[I,RX,↓KW,seval,rK,Z.H]
 refine af (hS x hx) ?_;try simp only[I,B,RX,↓KW,seval,LQ]
 rfl
theorem zh.ok(hc:bF P f=some rL):zh.Spec (Pure P) f:=by
 intro on dU
 refine ak hm hc (by show 1<=6;decide) (aj (keep:=[]) (i:=0) ?_)
 try simp only[I,B,RX,↓KW,seval,rL,Z.H]
 try rfl
theorem CZ.ok{fF:Nat} (hc:bF P f=some (vq fF)) (hF:zh.Spec (Pure P) fF):CZ.Spec (Pure P) f:=by
 intro on dU
 refine ak hm hc (by show 1<=9;decide) (aj (keep:=[]) (i:=0) ?_)
 try simp only[I,B,RX,↓KW,seval,vq,Z.H]
 cases on
 ·try simp only[RX,↓KW,seval]
  refine af (hF false dU) ?_;try simp only[B,RX,↓KW,seval]
  simp[Aq]
 ·try simp only[RX,↓KW,seval]
  simp[Aq]
theorem CY.ok{fM:Nat} (hc:bF P f=some (oC fM)) (hM:tT.Spec (Pure P) fM):CY.Spec (Pure P) f:=by
 intro d on dU x
 have q1:d.cells[1]? =some (Fl d.on)/\d.cells[2]? =some (Fl d.off):=⟨rfl,rfl⟩
 cases x with
 |none=>
  have hE:Ij d on dU none=(on,cV dU):=rfl
  rw[hE]
  show(Pure P).c f [.agg d.cells,.agg [B on,I dU],.eM] _ none
  refine ak hm hc (by show 3<=35;decide) (aj (keep:=[]) (i:=0) ?_)
  try simp only[I,B,RX,↓KW,seval,oC,Z.H,NAN,OK]
  refine af (hM _) ?_;try simp only[I,RX,↓KW,seval]
 |some x=>
  show(Pure P).c f [.agg d.cells,.agg [B on,I dU],Fl x] _ none
  have hE:Ij d on dU (some x)=if Mp x 13920209183539462144&&LN x 4696837146684686336 then(if Mp x d.on then(true,0)else if LN x d.off then(false,0)else(on,0))else(on,cV dU):=rfl
  generalize Ij d on dU (some x)=res at*
  refine ak hm hc (by show 3<=35;decide) (aj (keep:=[]) (i:=0) ?_)
  try simp only[I,B,RX,↓KW,seval,oC,Z.H,Wy]
  cases h1:Mp x 13920209183539462144<;>cases h2:LN x 4696837146684686336<;>cases h3:Mp x d.on<;>cases h4:LN x d.off<;>rw[h1,h2,h3,h4]at hE
  all_goals try simp only[RX,↓KW,seval,h2,h3,h4,Wy,q1]
  all_goals try simp only[I,B,D,RX,↓KW,seval,h1,h2,h3,h4,Wy,q1]
  all_goals(try(refine af (hM _) ?_))
  all_goals try simp only[I,RX,↓KW,seval]
  all_goals(rw[hE];rfl)
theorem C0.ok{fM:Nat} (hc:bF P f=some (xX fM)) (hM:tT.Spec (Pure P) fM):C0.Spec (Pure P) f:=by
 intro a b x
 refine ak hm hc (by show 2<=14;decide) (aj (keep:=[]) (i:=0) ?_)
 try simp only[I,B,RX,↓KW,seval,xX,Z.H]
 cases x
 ·try simp only[RX,↓KW,seval]
  refine af (hM _) ?_;try simp only[I,RX,↓KW,seval]
  rfl
 ·try simp only[RX,↓KW,seval]
  refine af (hM _) ?_;try simp only[I,RX,↓KW,seval]
  rfl
theorem yu.ok(hc:bF P f=some vt):yu.Spec (Pure P) f:=by
 intro a b x y
 refine ak hm hc (by show 3<=25;decide) (aj (keep:=[]) (i:=0) ?_)
 try simp only[I,B,RX,↓KW,seval,vt,Z.H]
 cases h1:decide (a>0)<;>cases h2:decide (x>=a)<;>cases h3:decide (b>0)<;>cases h4:decide (y>=b)<;>
 (try simp only[RX,↓KW,seval,h2,h3,h4];try(try simp only[I,B,D,RX,↓KW,seval,h1,h2,h3,h4]);simp[RS,h1,h2,h3,h4])
end
end Go.Eng
