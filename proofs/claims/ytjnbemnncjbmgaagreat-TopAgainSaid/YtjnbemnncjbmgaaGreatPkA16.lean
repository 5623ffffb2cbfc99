/- Part 16 of the engine and its library. -/
import Derived.Test.YtjnbemnncjbmgaaGreatPkA15
set_option linter.all false
set_option maxRecDepth 10000
set_option maxHeartbeats 4000000
namespace Go.Eng
open Go
section
variable (a:Int) (p:Ph) (st b time:Int)
structure Cu where
 start:Bool
 fin:Bool
 here:Bool
 push:Bool
 dM:Bool
 hold:Bool
 early:Bool
 cut:Bool
 deriving Inhabited,DecidableEq
def Cu.cells(c:Cu):List AV:=[B c.start,B c.fin,B c.here,B c.push,B c.dM,B c.hold,B c.early,B c.cut]
def Lw(D:Bool):Int×Int:=
 if st==1&&decide (time>=p.walk)then(2,1)else if st==2&&decide (time>=p.eP)then(0,0)else if st==1||st==2 then(st,bM time)
 else if D&&decide (p.walk>0)then(1,1)else(0,0)
def Q6:Int×Int:=if st==1 then(2,1)else(st,time)
def RD(left:Int) (here:Bool):Int:=if here then p.V7 else if left>9999 then 9998 else if left>0 then left-1 else 0
def JK(x:Int):Int:=if p.max>(if p.top<x then p.top else x)then p.max else(if p.top<x then p.top else x)
def plE:Int:=if decide (b>0)&&decide (a>IntKind.i64.wrap (9223372036854775807-b))then 9223372036854775807 else if decide (b<0)&&decide (a<IntKind.i64.wrap (-9223372036854775808-b))then -9223372036854775808 else IntKind.i64.wrap (a+b)
def miE:Int:=if decide (b>0)&&decide (a<IntKind.i64.wrap (-9223372036854775808+b))then -9223372036854775808 else if decide (b<0)&&decide (a>IntKind.i64.wrap (9223372036854775807+b))then 9223372036854775807 else IntKind.i64.wrap (a-b)
structure Tr where
 limit:Int
 up:Int
 down:Int
 deriving Inhabited,DecidableEq
def Tr.cells(x:Tr):List AV:=[I x.limit,I x.up,I x.down]
def c01(n:Int):Int:=(if 1<(if 0>n then 0 else n)then 1 else(if 0>n then 0 else n))+1
def gr0(x:Tr) (kT:Bool):Tr:=if kT then⟨JK p x.limit,c01 x.up,0⟩else⟨JK p x.limit,0,c01 x.down⟩
end
section
variable (p:Ph) (C:aQ) (r:Rn) (c:Cu) (f:Nat) (x:Tr)
def gr1:Tr:=if x.up==2 then⟨plE x.limit p.step,0,x.down⟩else if x.down==2 then⟨miE x.limit p.step,x.up,0⟩else x
def grE(kT:Bool):Tr:={gr1 p (gr0 p x kT)with limit:=JK p (gr1 p (gr0 p x kT)).limit}
def gE(st:Int):Bool:=st==1||st==2
def qh(aA time:Int):Rn:=⟨aA,time,0,0,0,0,0,false,false,r.limit,r.up,r.down⟩
def JL:Int×Int:=if c.cut&&r.fst==1 then Q6 r.fst r.dH else Lw p r.fst r.dH (c.push&& !c.dM)
def bN:Bool:=!gE r.fst&&(JL p r c).1==1
def iZ:Rn:=
 ⟨1,bM r.time,(JL p r c).1,(JL p r c).2,RD p r.left c.here,if c.dM then bM r.kD else r.kD,r.extra,if bN p r c then false else r.done,if bN p r c then false else r.kT,r.limit,r.up,r.down⟩
def cg:Bool:=decide (r.kD>=JK p r.limit)
def dY:Bool:=(((c.dM&& !r.done)&&decide (r.time>=p.min))&& !gE r.fst)&&((r.left==0||cg p r)||c.early)
def gF:Rn:=
 if c.fin then(if r.done then{qh r 2 1 with limit:=(grE p ⟨r.limit,r.up,r.down⟩ r.kT).limit,up:=(grE p ⟨r.limit,r.up,r.down⟩ r.kT).up,down:=(grE p ⟨r.limit,r.up,r.down⟩ r.kT).down}else qh r 2 1)
 else if dY p (iZ p r c) c&&c.hold then{iZ p r c with extra:=bM (iZ p r c).extra}
 else if dY p (iZ p r c) c then{iZ p r c with done:=true,kT:=decide ((iZ p r c).left>0)&&cg p (iZ p r c)}else iZ p r c
def Gt:Rn:=if c.start then{qh r 1 1 with fst:=(Lw p 0 0 c.push).1,dH:=(Lw p 0 0 c.push).2,left:=p.V7}else qh r 0 (bM r.time)
def nD:Rn:=if r.time<p.dQ then qh r 2 (bM r.time)else if p.red>0 then qh r 3 1 else qh r 0 1
def vF:Rn:=if r.time<p.red then qh r 3 (bM r.time)else qh r 0 1
def cj:Rn:=if r.aA==1 then gF p r c else if r.aA==2 then nD p r else if r.aA==3 then vF p r else Gt p r c
def yx:Bool:=if r.aA !=1||c.fin|| !c.hold then false else dY p (iZ p r c) c
def eW:List AV:=p.cells++(r.cells++c.cells)
def E6.Spec:Prop:=∀p:Ph,C.c f [.agg p.cells] (.agg (Tr.cells ⟨p.max,0,0⟩)) none
def yy.Spec:Prop:=∀(p:Ph) (x:Tr),C.c f [.agg p.cells,.agg x.cells] (I (JK p x.limit)) none
def Lx.Spec:Prop:=∀(p:Ph) (left:Int) (here:Bool),C.c f [.agg p.cells,I left,B here] (I (RD p left here)) none
def Ly.Spec:Prop:=∀a b:Int,C.c f [I a,I b] (I (plE a b)) none
def E7.Spec:Prop:=∀a b:Int,C.c f [I a,I b] (I (miE a b)) none
def Lz.Spec:Prop:=∀(p:Ph) (x:Tr) (kT:Bool),C.c f [.agg p.cells,.agg x.cells,B kT] (.agg (grE p x kT).cells) none
def wK.Spec:Prop:=∀(p:Ph) (st time:Int) (b:Bool),C.c f [.agg p.cells,.agg [I st,I time],B b] (.agg [I (Lw p st time b).1,I (Lw p st time b).2]) none
def E8.Spec:Prop:=∀(st time:Int),C.c f [.agg [I st,I time]] (.agg [I (Q6 st time).1,I (Q6 st time).2]) none
def mV.Spec:Prop:=∀n:Int,C.c f [I n] (I (bM n)) none
def Ai.Spec:Prop:=∀st time:Int,C.c f [.agg [I st,I time]] (B (gE st)) none
def Aj.Spec:Prop:=∀p:Ph,C.c f [.agg p.cells] (.agg (EG p).cells) none
def LA.Spec:Prop:=∀(p:Ph) (r:Rn) (c:Cu) (a b:Int),C.c f [.agg (eW p r c),I a,I b] (.agg (qh r a b).cells) none
def LB.Spec:Prop:=∀(p:Ph) (r:Rn) (c:Cu),C.c f [.agg (eW p r c)] (.agg (Gt p r c).cells) none
def Bo.Spec:Prop:=∀(p:Ph) (r:Rn) (c:Cu),C.c f [.agg (eW p r c)] (.de [.agg (iZ p r c).cells,B (dY p (iZ p r c) c)]) none
def Ak.Spec:Prop:=∀(p:Ph) (r:Rn) (c:Cu),C.c f [.agg (eW p r c)] (.agg (gF p r c).cells) none
def vG.Spec:Prop:=∀(p:Ph) (r:Rn) (c:Cu),C.c f [.agg (eW p r c)] (.agg (nD p r).cells) none
def vH.Spec:Prop:=∀(p:Ph) (r:Rn) (c:Cu),C.c f [.agg (eW p r c)] (.agg (vF p r).cells) none
def E9.Spec:Prop:=∀(p:Ph) (r:Rn) (c:Cu),C.c f [.agg p.cells,.agg r.cells,.agg c.cells] (.agg (cj p r c).cells) none
def Fa.Spec:Prop:=∀(p:Ph) (r:Rn) (c:Cu),C.c f [.agg p.cells,.agg r.cells,.agg c.cells] (B (yx p r c)) none
theorem yz:(eW p r c).length=33/\aB (eW p r c) 0 (some 13)=some (.agg p.cells)/\aB (eW p r c) 13 (some 12)=some (.agg r.cells)/\aB (eW p r c) 15 (some 2)=some (.agg [I r.fst,I r.dH])/\aB (eW p r c) 22 (some 3)=some (.agg (Tr.cells ⟨r.limit,r.up,r.down⟩))/\aB (eW p r c) 0 (some 33)=some (.agg (eW p r c)):=⟨rfl,rfl,rfl,rfl,rfl,rfl⟩
theorem Ja:(eW p r c)[1]? =some (I p.min)/\(eW p r c)[2]? =some (I p.V7)/\(eW p r c)[6]? =some (I p.dQ)/\(eW p r c)[7]? =some (I p.red):=⟨rfl,rfl,rfl,rfl⟩
theorem Fb:(eW p r c)[14]? =some (I r.time)/\(eW p r c)[15]? =some (I r.fst)/\(eW p r c)[17]? =some (I r.left)/\(eW p r c)[18]? =some (I r.kD)/\(eW p r c)[20]? =some (B r.done)/\(eW p r c)[21]? =some (B r.kT):=⟨rfl,rfl,rfl,rfl,rfl,rfl⟩
theorem Nr:(eW p r c)[25]? =some (B c.start)/\(eW p r c)[26]? =some (B c.fin)/\(eW p r c)[27]? =some (B c.here)/\(eW p r c)[28]? =some (B c.push)/\(eW p r c)[29]? =some (B c.dM)/\(eW p r c)[30]? =some (B c.hold)/\(eW p r c)[31]? =some (B c.early)/\(eW p r c)[32]? =some (B c.cut):=⟨rfl,rfl,rfl,rfl,rfl,rfl,rfl,rfl⟩
end
section
variable{P:Program} (hm:P.follows .mixedOrders=true) {f:Nat}
include hm
section
variable {L M O V:Nat}
omit hm in
theorem UC(n:Int):(if 9999<(if 0>n then 0 else n)then 9999 else(if 0>n then 0 else n))=gN n 0 9999:=by
 unfold gN;split<;>split<;>(try split)<;>omega
theorem mV.ok(L:bF P f=some xB):mV.Spec (Pure P) f:=by
 intro n
 have D:=UC n
 refine aq hm L [] rfl ?_;try simp only[I,RX,↓KW,seval,xB,Z.H]
 rw[D];rfl
theorem YS.ok(L:bF P f=some Cn):mV.Spec (Pure P) f:=by
 intro n
 have D:=UC n
 refine aq hm L [] rfl ?_;try simp only[I,RX,↓KW,seval,Cn,Z.H]
 rw[D];rfl
theorem E6.ok(D:bF P f=some zX):E6.Spec (Pure P) f:=by
 intro p;refine aq hm D [] rfl ?_;try simp only[I,B,RX,↓KW,seval,zX,Z.H,Ph.cells]
 rfl
theorem yy.ok(D:bF P f=some Ad):yy.Spec (Pure P) f:=by
 intro p x;refine aq hm D [] rfl ?_;try simp only[I,B,RX,↓KW,seval,Ad,Z.H,Ph.cells,Tr.cells]
 rfl
theorem Ly.ok(R:bF P f=some Co):Ly.Spec (Pure P) f:=by
 intro a b;refine aq hm R [] rfl ?_;try simp only[I,RX,↓KW,seval,Co,Z.H]
 cases O:decide (b>0)<;>cases L:decide (a>IntKind.i64.wrap (9223372036854775807-b))<;>cases M:decide (b<0)<;>cases h4:decide (a<IntKind.i64.wrap (-9223372036854775808-b))<;>
 (try simp only[RX,↓KW,seval,L,M,h4];try(try simp only[I,B,D,RX,↓KW,seval,O,L,M,h4]);rw[plE,O,L,M,h4];rfl)
theorem E7.ok(R:bF P f=some Ae):E7.Spec (Pure P) f:=by
 intro a b;refine aq hm R [] rfl ?_;try simp only[I,RX,↓KW,seval,Ae,Z.H]
 cases O:decide (b>0)<;>cases L:decide (a<IntKind.i64.wrap (-9223372036854775808+b))<;>cases M:decide (b<0)<;>cases h4:decide (a>IntKind.i64.wrap (9223372036854775807+b))<;>
 (try simp only[RX,↓KW,seval,L,M,h4];try(try simp only[I,B,D,RX,↓KW,seval,O,L,M,h4]);rw[miE,O,L,M,h4];rfl)
theorem Lx.ok(M:bF P f=some Cl):Lx.Spec (Pure P) f:=by
 intro p left here;refine aq hm M [] rfl ?_;try simp only[I,B,RX,↓KW,seval,Cl,Z.H,Ph.cells]
 cases here
 ·try simp only[RX,↓KW,seval]
  cases D:decide (left>9999)
  ·try simp only[RX,↓KW,seval]
   cases L:decide (left>0)
   ·try simp only[RX,↓KW,seval]
    have a:=dE D
    have b:=dE L
    simp only[RD,ge a,ge b,eQ,il]
   ·try simp only[RX,↓KW,seval]
    have a:=dE D
    have b:=dT L
    rw[aY aaN aaN]
    simp only[RD,ge a,ib b,eQ,il]
  ·try simp only[RX,↓KW,seval]
   have a:=dT D
   simp only[RD,ib a,eQ,il]
   try rfl
 ·try simp only[RX,↓KW,seval]
  try rfl
theorem Lz.ok{R:Nat} (hc:bF P f=some (Cm V R O)) (hL:yy.Spec (Pure P) V) (hP:Ly.Spec (Pure P) R) (hM:E7.Spec (Pure P) O):Lz.Spec (Pure P) f:=by
 intro p x kT
 have q:∀p:Ph,p.cells.length=13/\aB p.cells 0 (some 13)=some (.agg p.cells)/\p.cells[5]? =some (I p.step):=λ_=>⟨rfl,rfl,rfl⟩
 have qx:∀x:Tr,x.cells.length=3/\aB x.cells 0 (some 3)=some (.agg x.cells)/\x.cells[0]? =some (I x.limit)/\x.cells[1]? =some (I x.up)/\x.cells[2]? =some (I x.down):=λ_=>⟨rfl,rfl,rfl,rfl,rfl⟩
 have hw:∀n:Int,IntKind.i64.wrap ((if 1<(if 0>n then 0 else n)then 1 else(if 0>n then 0 else n))+1)=c01 n:=λn=>by
  rw[aY (by split<;>split<;>omega) (by split<;>split<;>omega)];rfl
 have z3:∀x:Tr,setCells [I 0,I 0,I 0] 0 x.cells=x.cells:=λ_=>rfl
 have M:∀a b c:Int,setCells [I 0,I 0,I 0] 0 [I a,I b,I c]=Tr.cells ⟨a,b,c⟩:=λ_ _ _=>rfl
 have s0:∀(x:Tr) (y:Int),setCells x.cells 0 [I y]=({x with limit:=y}:Tr).cells:=λ_ _=>rfl
 have s1:∀(x:Tr) (y:Int),setCells x.cells 1 [I y]=({x with up:=y}:Tr).cells:=λ_ _=>rfl
 have s2:∀(x:Tr) (y:Int),setCells x.cells 2 [I y]=({x with down:=y}:Tr).cells:=λ_ _=>rfl
 have D:=dC q (dC qx (dC hw (dC z3 (dC M (dC s0 (dC s1 (s2)))))))
 refine aq hm hc [] rfl ?_;try simp only[B,RY,↓KW,seval,Cm,Z.H,D]
 refine af (hL p x) ?_;try simp only[I,RY,↓KW,seval,D]
 cases kT
 ·try simp only[I,RY,↓KW,seval,D]
  cases L:(c01 x.down==2)
  ·try simp only[RY,↓KW,seval,D]
   refine af (hL p ⟨JK p x.limit,0,c01 x.down⟩) ?_;try simp only[I,RY,↓KW,seval,D]
   simp[grE,gr0,gr1,L]
  ·try simp only[I,RY,↓KW,seval,D]
   refine af (hM (JK p x.limit) p.step) ?_;try simp only[I,RY,↓KW,seval,D]
   refine af (hL p ⟨miE (JK p x.limit) p.step,0,0⟩) ?_;try simp only[I,RY,↓KW,seval,D]
   simp[grE,gr0,gr1,L]
 ·try simp only[I,RY,↓KW,seval,D]
  cases L:(c01 x.up==2)
  ·try simp only[I,RY,↓KW,seval,D]
   refine af (hL p ⟨JK p x.limit,c01 x.up,0⟩) ?_;try simp only[I,RY,↓KW,seval,D]
   simp[grE,gr0,gr1,L]
  ·try simp only[I,RY,↓KW,seval,D]
   refine af (hP (JK p x.limit) p.step) ?_;try simp only[I,RY,↓KW,seval,D]
   refine af (hL p ⟨plE (JK p x.limit) p.step,0,0⟩) ?_;try simp only[I,RY,↓KW,seval,D]
   simp[grE,gr0,gr1,L]
theorem wK.ok(hc:bF P f=some (Ck V)) (hM:mV.Spec (Pure P) V):wK.Spec (Pure P) f:=by
 intro p st time b;refine aq hm hc [] rfl ?_;try simp only[I,B,RX,↓KW,seval,Ck,Z.H,Ph.cells]
 cases M:(st==1)<;>cases L:(st==2)<;>cases R:decide (time>=p.walk)<;>cases h4:decide (time>=p.eP)<;>cases b<;>cases O:decide (p.walk>0)
 all_goals try simp only[RX,↓KW,seval,M,L,R,h4,O]
 all_goals try simp only[I,B,D,RX,↓KW,seval,M,L,R,h4,O,Ph.cells]
 all_goals(try(refine af (hM _) ?_))
 all_goals try simp only[I,RX,↓KW,seval]
 all_goals simp only[Lw,M,L,R,h4,O,pB,pd,Bool.or_true,Bool.or_false,eQ,kv,il]
theorem E8.ok(L:bF P f=some E2):E8.Spec (Pure P) f:=by
 intro st time;refine aq hm L [] rfl ?_;try simp only[I,RX,↓KW,seval,E2,Z.H]
 cases D:(st==1)
 ·try simp only[RX,↓KW,seval]
  simp[Q6,D]
 ·try simp only[RX,↓KW,seval]
  simp[Q6,D]
theorem Ai.ok(L:bF P f=some vE):Ai.Spec (Pure P) f:=by
 intro st time;refine aq hm L [] rfl ?_;try simp only[I,B,RX,↓KW,seval,vE,Z.H]
 cases D:(st==1)
 ·try simp only[RX,↓KW,seval]
  simp[gE,D]
 ·try simp only[RX,↓KW,seval]
  simp[gE,D]
theorem Aj.ok{D:Nat} (L:bF P f=some (vA D)) (M:E6.Spec (Pure P) D):Aj.Spec (Pure P) f:=by
 intro p
 have q:aB p.cells 0 (some 13)=some (.agg p.cells):=rfl
 refine aq hm L [] rfl ?_;try simp only[RX,↓KW,seval,vA,Z.H,q]
 refine af (M p) ?_;try simp only[I,RX,↓KW,seval,Tr.cells,bC]
 rfl
theorem LA.ok(D:bF P f=some ru):LA.Spec (Pure P) f:=by
 intro p r c a b
 have L:=yz p r c
 refine aq hm D [] rfl ?_;try simp only[I,RX,↓KW,seval,ru,Z.H,L,Tr.cells,bC]
 rfl
theorem LB.ok(hc:bF P f=some (pJ L O M)) (hM:mV.Spec (Pure P) L) (hA:LA.Spec (Pure P) O) (hP:wK.Spec (Pure P) M):LB.Spec (Pure P) f:=by
 intro p r c
 have t1:=yz p r c
 have V:=Ja p r c
 have t3:=Fb p r c
 have t4:=Nr p r c
 have D:=dC t1 (dC V (dC t3 (t4)))
 refine aq hm hc [] rfl ?_;try simp only[B,RX,↓KW,seval,pJ,Z.H,D,bC]
 cases R:c.start
 ·try simp only[I,RX,↓KW,seval,D]
  refine af (hM _) ?_;try simp only[I,RX,↓KW,seval]
  refine af (hA p r c _ _) ?_;try simp only[I,B,RX,↓KW,seval,Rn.cells,qh]
  simp[Gt,R,qh]
 ·try simp only[RX,↓KW,seval,D]
  refine af (hA p r c _ _) ?_;try simp only[I,B,RX,↓KW,seval,Rn.cells,qh]
  refine ej rfl ?_;try simp only[B,RX,↓KW,seval,D]
  refine af (hP p 0 0 c.push) ?_;try simp only[I,RX,↓KW,seval,D]
  simp[Gt,R,qh]
theorem vG.ok(hc:bF P f=some (mF L O)) (hM:mV.Spec (Pure P) L) (hA:LA.Spec (Pure P) O):vG.Spec (Pure P) f:=by
 intro p r c
 have t1:=yz p r c
 have V:=Ja p r c
 have t3:=Fb p r c
 have D:=dC t1 (dC V (t3))
 refine aq hm hc [] rfl ?_;try simp only[I,RX,↓KW,seval,mF,Z.H,D,bC]
 cases R:decide (r.time<p.dQ)
 ·have a:=dE R
  try simp only[I,RX,↓KW,seval,D]
  cases M:decide (p.red>0)
  ·have b:=dE M
   try simp only[RX,↓KW,seval,D]
   refine af (hA p r c _ _) ?_;try simp only[I,B,RX,↓KW,seval,Rn.cells,qh]
   simp only[nD,ge a,ge b,qh]
  ·have b:=dT M
   try simp only[RX,↓KW,seval,D]
   refine af (hA p r c _ _) ?_;try simp only[I,B,RX,↓KW,seval,Rn.cells,qh]
   simp only[nD,ge a,ib b,qh]
 ·have a:=dT R
  try simp only[I,RX,↓KW,seval,D]
  refine af (hM _) ?_;try simp only[I,RX,↓KW,seval]
  refine af (hA p r c _ _) ?_;try simp only[I,B,RX,↓KW,seval,Rn.cells,qh]
  simp only[nD,ib a,qh]
theorem vH.ok(hc:bF P f=some (mG L M)) (hM:mV.Spec (Pure P) L) (hA:LA.Spec (Pure P) M):vH.Spec (Pure P) f:=by
 intro p r c
 have t1:=yz p r c
 have R:=Ja p r c
 have V:=Fb p r c
 have D:=dC t1 (dC R (V))
 refine aq hm hc [] rfl ?_;try simp only[I,RX,↓KW,seval,mG,Z.H,D,bC]
 cases O:decide (r.time<p.red)
 ·have a:=dE O
  try simp only[RX,↓KW,seval,D]
  refine af (hA p r c _ _) ?_;try simp only[I,B,RX,↓KW,seval,Rn.cells,qh]
  simp only[vF,ge a,qh]
 ·have a:=dT O
  try simp only[I,RX,↓KW,seval,D]
  refine af (hM _) ?_;try simp only[I,RX,↓KW,seval]
  refine af (hA p r c _ _) ?_;try simp only[I,B,RX,↓KW,seval,Rn.cells,qh]
  simp only[vF,ib a,qh]
omit hm in
theorem bc(b:Bool):b=false\/b=true:=by cases b<;>simp
set_option maxHeartbeats 40000000 in
theorem Bo.ok{fM fC fP fS fL fI:Nat} (hc:bF P f=some (oA fM fC fP fS fL fI)) (hM:mV.Spec (Pure P) fM) (hC:E8.Spec (Pure P) fC) (hP:wK.Spec (Pure P) fP) (hS:Ai.Spec (Pure P) fS) (hL:Lx.Spec (Pure P) fL) (hI:yy.Spec (Pure P) fI):Bo.Spec (Pure P) f:=by
 intro p r c
 have t1:=yz p r c
 have t2:=Ja p r c
 have t3:=Fb p r c
 have t4:=Nr p r c
 have L:=dC t1 (dC t2 (dC t3 (t4)))
 obtain⟨a,b,O⟩:∃a b,JL p r c=(a,b):=⟨_,_,rfl⟩
 obtain⟨d,hd⟩:∃d,bN p r c=d:=⟨_,rfl⟩
 refine aq hm hc [] rfl ?_;try simp only[I,B,D,RX,↓KW,seval,oA,Z.H,L,bC,Rn.cells]
 refine af (hM _) ?_;try simp only[I,B,D,RX,↓KW,seval,L,Rn.cells]
 have ac:∀q,(c.push&& !c.dM)=q->((c.cut&&r.fst==1)=false)->(Pure P).c fP [.agg p.cells,.agg [I r.fst,I r.dH],B q] (.agg [I a,I b]) none:=λq h1 h2=>by
  have h3:=hP p r.fst r.dH q
  have hF:=O
  rw[JL,h2,h1]at hF;simp only[eQ,il]at hF;rw[hF]at h3;exact h3
 have ad:c.cut=true->(r.fst==1)=true->(Pure P).c fC [.agg [I r.fst,I r.dH]] (.agg [I a,I b]) none:=λh1 h2=>by
  have h3:=hC r.fst r.dH
  have hF:=O
  rw[JL,h1,h2]at hF;simp only[zr,kv]at hF;rw[hF]at h3;exact h3
 have J:(c.cut=false/\(c.cut&&r.fst==1)=false)\/(c.cut=true/\(r.fst==1)=false/\(c.cut&&r.fst==1)=false)\/(c.cut=true/\(r.fst==1)=true/\(c.cut&&r.fst==1)=true):=by
  rcases bc c.cut with h|h<;>rcases bc (r.fst==1)with h'|h'<;>simp[h,h']
 have K:(c.push=false/\(c.push&& !c.dM)=false)\/(c.push=true/\c.dM=false/\(c.push&& !c.dM)=true)\/(c.push=true/\c.dM=true/\(c.push&& !c.dM)=false):=by
  rcases bc c.push with h|h<;>rcases bc c.dM with h'|h'<;>simp[h,h']
 rcases J with⟨j1,j3⟩|⟨j1,j2,j3⟩|⟨j1,j2,j3⟩
 ·try simp only[I,B,D,RX,↓KW,seval,j1,L,Rn.cells]
  rcases K with⟨k1,k3⟩|⟨k1,k2,k3⟩|⟨k1,k2,k3⟩
  ·try simp only[I,B,D,RX,↓KW,seval,k1,L,Rn.cells]
   refine af (ac _ k3 j3) ?_;try simp only[I,B,D,RX,↓KW,seval,L,Rn.cells]
   refine af (hS r.fst r.dH) ?_;try simp only[I,B,D,RX,↓KW,seval,L,Rn.cells]
   rcases bc (gE r.fst)with R|R
   all_goals try simp only[I,B,D,RX,↓KW,seval,R,L,Rn.cells]
   rcases bc (a==1)with ha|ha
   all_goals try simp only[I,B,D,RX,↓KW,seval,ha,L,Rn.cells]
   all_goals(refine af (hL p r.left c.here) ?_)
   all_goals try simp only[I,B,D,RX,↓KW,seval,L,Rn.cells]
   all_goals rcases bc c.dM with M|M
   all_goals try simp only[I,B,D,RX,↓KW,seval,M,L,Rn.cells]
   all_goals(try(refine af (hM r.kD) ?_))
   all_goals try simp only[I,B,D,RX,↓KW,seval,L,Rn.cells]
   all_goals(refine af (hI p ⟨r.limit,r.up,r.down⟩) ?_)
   all_goals try simp only[I,B,D,RX,↓KW,seval,M,L,Rn.cells]
   all_goals(refine ej rfl ?_)
   all_goals try simp only[I,B,D,RX,↓KW,seval,M,L,Rn.cells]
   all_goals(first|(show AV.de _=AV.de _;simp[iZ,dY,cg,bN,Rn.cells,O,R,M, *];done)|(rcases bc r.done with aa|aa<;>try simp only[I,B,D,RX,↓KW,seval,aa,L,Rn.cells]))
   all_goals(first|(show AV.de _=AV.de _;simp[iZ,dY,cg,bN,Rn.cells,O,R,M, *];done)|(rcases bc (decide (bM r.time>=p.min))with ht|ht<;>try simp only[I,B,D,RX,↓KW,seval,ht,L,Rn.cells]))
   all_goals(first|(show AV.de _=AV.de _;simp[iZ,dY,cg,bN,Rn.cells,O,R,M, *];done)|(refine af (hS a b) ?_))
   all_goals try simp only[I,B,D,RX,↓KW,seval,L,Rn.cells]
   all_goals(first|(show AV.de _=AV.de _;simp[iZ,dY,cg,bN,Rn.cells,O,R,M, *];done)|(rcases bc (gE a)with V|V<;>try simp only[I,B,D,RX,↓KW,seval,V,L,Rn.cells]))
   all_goals(first|(show AV.de _=AV.de _;simp[iZ,dY,cg,bN,Rn.cells,O,R,M, *];done)|(rcases bc (RD p r.left c.here==0)with hl|hl<;>try simp only[I,B,D,RX,↓KW,seval,hl,L,Rn.cells]))
   all_goals(first|(show AV.de _=AV.de _;simp[iZ,dY,cg,bN,Rn.cells,O,R,M, *];done)|(rcases bc (decide (bM r.kD>=JK p r.limit))with ab|ab<;>try simp only[I,B,D,RX,↓KW,seval,ab,L,Rn.cells]))
   all_goals(first|(show AV.de _=AV.de _;simp[iZ,dY,cg,bN,Rn.cells,O,R,M, *];done)|(rcases bc c.early with he|he<;>try simp only[I,B,D,RX,↓KW,seval,he,L,Rn.cells]))
   all_goals(first|(show AV.de _=AV.de _;simp[iZ,dY,cg,bN,Rn.cells,O,R,M, *];done)|skip)
  ·try simp only[I,B,D,RX,↓KW,seval,k1,k2,L,Rn.cells]
   refine af (ac _ k3 j3) ?_;try simp only[I,B,D,RX,↓KW,seval,L,Rn.cells]
   refine af (hS r.fst r.dH) ?_;try simp only[I,B,D,RX,↓KW,seval,L,Rn.cells]
   rcases bc (gE r.fst)with R|R
   all_goals try simp only[I,B,D,RX,↓KW,seval,R,L,Rn.cells]
   rcases bc (a==1)with ha|ha
   all_goals try simp only[I,B,D,RX,↓KW,seval,ha,L,Rn.cells]
   all_goals(refine af (hL p r.left c.here) ?_)
   all_goals try simp only[I,B,D,RX,↓KW,seval,L,Rn.cells]
   all_goals rcases bc c.dM with M|M
   all_goals try simp only[I,B,D,RX,↓KW,seval,M,L,Rn.cells]
   all_goals(try(refine af (hM r.kD) ?_))
   all_goals try simp only[I,B,D,RX,↓KW,seval,L,Rn.cells]
   all_goals(refine af (hI p ⟨r.limit,r.up,r.down⟩) ?_)
   all_goals try simp only[I,B,D,RX,↓KW,seval,M,L,Rn.cells]
   all_goals(refine ej rfl ?_)
   all_goals try simp only[I,B,D,RX,↓KW,seval,M,L,Rn.cells]
   all_goals(first|(show AV.de _=AV.de _;simp[iZ,dY,cg,bN,Rn.cells,O,R,M, *];done)|(rcases bc r.done with aa|aa<;>try simp only[I,B,D,RX,↓KW,seval,aa,L,Rn.cells]))
   all_goals(first|(show AV.de _=AV.de _;simp[iZ,dY,cg,bN,Rn.cells,O,R,M, *];done)|(rcases bc (decide (bM r.time>=p.min))with ht|ht<;>try simp only[I,B,D,RX,↓KW,seval,ht,L,Rn.cells]))
   all_goals(first|(show AV.de _=AV.de _;simp[iZ,dY,cg,bN,Rn.cells,O,R,M, *];done)|(refine af (hS a b) ?_))
   all_goals try simp only[I,B,D,RX,↓KW,seval,L,Rn.cells]
   all_goals(first|(show AV.de _=AV.de _;simp[iZ,dY,cg,bN,Rn.cells,O,R,M, *];done)|(rcases bc (gE a)with V|V<;>try simp only[I,B,D,RX,↓KW,seval,V,L,Rn.cells]))
   all_goals(first|(show AV.de _=AV.de _;simp[iZ,dY,cg,bN,Rn.cells,O,R,M, *];done)|(rcases bc (RD p r.left c.here==0)with hl|hl<;>try simp only[I,B,D,RX,↓KW,seval,hl,L,Rn.cells]))
   all_goals(first|(show AV.de _=AV.de _;simp[iZ,dY,cg,bN,Rn.cells,O,R,M, *];done)|(rcases bc (decide (bM r.kD>=JK p r.limit))with ab|ab<;>try simp only[I,B,D,RX,↓KW,seval,ab,L,Rn.cells]))
   all_goals(first|(show AV.de _=AV.de _;simp[iZ,dY,cg,bN,Rn.cells,O,R,M, *];done)|(rcases bc c.early with he|he<;>try simp only[I,B,D,RX,↓KW,seval,he,L,Rn.cells]))
   all_goals(first|(show AV.de _=AV.de _;simp[iZ,dY,cg,bN,Rn.cells,O,R,M, *];done)|skip)
  ·try simp only[I,B,D,RX,↓KW,seval,k1,k2,L,Rn.cells]
   refine af (ac _ k3 j3) ?_;try simp only[I,B,D,RX,↓KW,seval,L,Rn.cells]
   refine af (hS r.fst r.dH) ?_;try simp only[I,B,D,RX,↓KW,seval,L,Rn.cells]
   rcases bc (gE r.fst)with R|R
   all_goals try simp only[I,B,D,RX,↓KW,seval,R,L,Rn.cells]
   rcases bc (a==1)with ha|ha
   all_goals try simp only[I,B,D,RX,↓KW,seval,ha,L,Rn.cells]
   all_goals(refine af (hL p r.left c.here) ?_)
   all_goals try simp only[I,B,D,RX,↓KW,seval,L,Rn.cells]
   all_goals rcases bc c.dM with M|M
   all_goals try simp only[I,B,D,RX,↓KW,seval,M,L,Rn.cells]
   all_goals(try(refine af (hM r.kD) ?_))
   all_goals try simp only[I,B,D,RX,↓KW,seval,L,Rn.cells]
   all_goals(refine af (hI p ⟨r.limit,r.up,r.down⟩) ?_)
   all_goals try simp only[I,B,D,RX,↓KW,seval,M,L,Rn.cells]
   all_goals(refine ej rfl ?_)
   all_goals try simp only[I,B,D,RX,↓KW,seval,M,L,Rn.cells]
   all_goals(first|(show AV.de _=AV.de _;simp[iZ,dY,cg,bN,Rn.cells,O,R,M, *];done)|(rcases bc r.done with aa|aa<;>try simp only[I,B,D,RX,↓KW,seval,aa,L,Rn.cells]))
   all_goals(first|(show AV.de _=AV.de _;simp[iZ,dY,cg,bN,Rn.cells,O,R,M, *];done)|(rcases bc (decide (bM r.time>=p.min))with ht|ht<;>try simp only[I,B,D,RX,↓KW,seval,ht,L,Rn.cells]))
   all_goals(first|(show AV.de _=AV.de _;simp[iZ,dY,cg,bN,Rn.cells,O,R,M, *];done)|(refine af (hS a b) ?_))
   all_goals try simp only[I,B,D,RX,↓KW,seval,L,Rn.cells]
   all_goals(first|(show AV.de _=AV.de _;simp[iZ,dY,cg,bN,Rn.cells,O,R,M, *];done)|(rcases bc (gE a)with V|V<;>try simp only[I,B,D,RX,↓KW,seval,V,L,Rn.cells]))
   all_goals(first|(show AV.de _=AV.de _;simp[iZ,dY,cg,bN,Rn.cells,O,R,M, *];done)|(rcases bc (RD p r.left c.here==0)with hl|hl<;>try simp only[I,B,D,RX,↓KW,seval,hl,L,Rn.cells]))
   all_goals(first|(show AV.de _=AV.de _;simp[iZ,dY,cg,bN,Rn.cells,O,R,M, *];done)|(rcases bc (decide (bM r.kD>=JK p r.limit))with ab|ab<;>try simp only[I,B,D,RX,↓KW,seval,ab,L,Rn.cells]))
   all_goals(first|(show AV.de _=AV.de _;simp[iZ,dY,cg,bN,Rn.cells,O,R,M, *];done)|(rcases bc c.early with he|he<;>try simp only[I,B,D,RX,↓KW,seval,he,L,Rn.cells]))
   all_goals(first|(show AV.de _=AV.de _;simp[iZ,dY,cg,bN,Rn.cells,O,R,M, *];done)|skip)
 ·try simp only[I,B,D,RX,↓KW,seval,j1,j2,L,Rn.cells]
  try simp only[I,B,D,RX,↓KW,seval,j1,j2,L,Rn.cells]
  rcases K with⟨k1,k3⟩|⟨k1,k2,k3⟩|⟨k1,k2,k3⟩
  ·try simp only[I,B,D,RX,↓KW,seval,k1,L,Rn.cells]
   refine af (ac _ k3 j3) ?_;try simp only[I,B,D,RX,↓KW,seval,L,Rn.cells]
   refine af (hS r.fst r.dH) ?_;try simp only[I,B,D,RX,↓KW,seval,L,Rn.cells]
   rcases bc (gE r.fst)with R|R
   all_goals try simp only[I,B,D,RX,↓KW,seval,R,L,Rn.cells]
   rcases bc (a==1)with ha|ha
   all_goals try simp only[I,B,D,RX,↓KW,seval,ha,L,Rn.cells]
   all_goals(refine af (hL p r.left c.here) ?_)
   all_goals try simp only[I,B,D,RX,↓KW,seval,L,Rn.cells]
   all_goals rcases bc c.dM with M|M
   all_goals try simp only[I,B,D,RX,↓KW,seval,M,L,Rn.cells]
   all_goals(try(refine af (hM r.kD) ?_))
   all_goals try simp only[I,B,D,RX,↓KW,seval,L,Rn.cells]
   all_goals(refine af (hI p ⟨r.limit,r.up,r.down⟩) ?_)
   all_goals try simp only[I,B,D,RX,↓KW,seval,M,L,Rn.cells]
   all_goals(refine ej rfl ?_)
   all_goals try simp only[I,B,D,RX,↓KW,seval,M,L,Rn.cells]
   all_goals(first|(show AV.de _=AV.de _;simp[iZ,dY,cg,bN,Rn.cells,O,R,M, *];done)|(rcases bc r.done with aa|aa<;>try simp only[I,B,D,RX,↓KW,seval,aa,L,Rn.cells]))
   all_goals(first|(show AV.de _=AV.de _;simp[iZ,dY,cg,bN,Rn.cells,O,R,M, *];done)|(rcases bc (decide (bM r.time>=p.min))with ht|ht<;>try simp only[I,B,D,RX,↓KW,seval,ht,L,Rn.cells]))
   all_goals(first|(show AV.de _=AV.de _;simp[iZ,dY,cg,bN,Rn.cells,O,R,M, *];done)|(refine af (hS a b) ?_))
   all_goals try simp only[I,B,D,RX,↓KW,seval,L,Rn.cells]
   all_goals(first|(show AV.de _=AV.de _;simp[iZ,dY,cg,bN,Rn.cells,O,R,M, *];done)|(rcases bc (gE a)with V|V<;>try simp only[I,B,D,RX,↓KW,seval,V,L,Rn.cells]))
   all_goals(first|(show AV.de _=AV.de _;simp[iZ,dY,cg,bN,Rn.cells,O,R,M, *];done)|(rcases bc (RD p r.left c.here==0)with hl|hl<;>try simp only[I,B,D,RX,↓KW,seval,hl,L,Rn.cells]))
   all_goals(first|(show AV.de _=AV.de _;simp[iZ,dY,cg,bN,Rn.cells,O,R,M, *];done)|(rcases bc (decide (bM r.kD>=JK p r.limit))with ab|ab<;>try simp only[I,B,D,RX,↓KW,seval,ab,L,Rn.cells]))
   all_goals(first|(show AV.de _=AV.de _;simp[iZ,dY,cg,bN,Rn.cells,O,R,M, *];done)|(rcases bc c.early with he|he<;>try simp only[I,B,D,RX,↓KW,seval,he,L,Rn.cells]))
   all_goals(first|(show AV.de _=AV.de _;simp[iZ,dY,cg,bN,Rn.cells,O,R,M, *];done)|skip)
  ·try simp only[I,B,D,RX,↓KW,seval,k1,k2,L,Rn.cells]
   refine af (ac _ k3 j3) ?_;try simp only[I,B,D,RX,↓KW,seval,L,Rn.cells]
   refine af (hS r.fst r.dH) ?_;try simp only[I,B,D,RX,↓KW,seval,L,Rn.cells]
   rcases bc (gE r.fst)with R|R
   all_goals try simp only[I,B,D,RX,↓KW,seval,R,L,Rn.cells]
   rcases bc (a==1)with ha|ha
   all_goals try simp only[I,B,D,RX,↓KW,seval,ha,L,Rn.cells]
   all_goals(refine af (hL p r.left c.here) ?_)
   all_goals try simp only[I,B,D,RX,↓KW,seval,L,Rn.cells]
   all_goals rcases bc c.dM with M|M
   all_goals try simp only[I,B,D,RX,↓KW,seval,M,L,Rn.cells]
   all_goals(try(refine af (hM r.kD) ?_))
   all_goals try simp only[I,B,D,RX,↓KW,seval,L,Rn.cells]
   all_goals(refine af (hI p ⟨r.limit,r.up,r.down⟩) ?_)
   all_goals try simp only[I,B,D,RX,↓KW,seval,M,L,Rn.cells]
   all_goals(refine ej rfl ?_)
   all_goals try simp only[I,B,D,RX,↓KW,seval,M,L,Rn.cells]
   all_goals(first|(show AV.de _=AV.de _;simp[iZ,dY,cg,bN,Rn.cells,O,R,M, *];done)|(rcases bc r.done with aa|aa<;>try simp only[I,B,D,RX,↓KW,seval,aa,L,Rn.cells]))
   all_goals(first|(show AV.de _=AV.de _;simp[iZ,dY,cg,bN,Rn.cells,O,R,M, *];done)|(rcases bc (decide (bM r.time>=p.min))with ht|ht<;>try simp only[I,B,D,RX,↓KW,seval,ht,L,Rn.cells]))
   all_goals(first|(show AV.de _=AV.de _;simp[iZ,dY,cg,bN,Rn.cells,O,R,M, *];done)|(refine af (hS a b) ?_))
   all_goals try simp only[I,B,D,RX,↓KW,seval,L,Rn.cells]
   all_goals(first|(show AV.de _=AV.de _;simp[iZ,dY,cg,bN,Rn.cells,O,R,M, *];done)|(rcases bc (gE a)with V|V<;>try simp only[I,B,D,RX,↓KW,seval,V,L,Rn.cells]))
   all_goals(first|(show AV.de _=AV.de _;simp[iZ,dY,cg,bN,Rn.cells,O,R,M, *];done)|(rcases bc (RD p r.left c.here==0)with hl|hl<;>try simp only[I,B,D,RX,↓KW,seval,hl,L,Rn.cells]))
   all_goals(first|(show AV.de _=AV.de _;simp[iZ,dY,cg,bN,Rn.cells,O,R,M, *];done)|(rcases bc (decide (bM r.kD>=JK p r.limit))with ab|ab<;>try simp only[I,B,D,RX,↓KW,seval,ab,L,Rn.cells]))
   all_goals(first|(show AV.de _=AV.de _;simp[iZ,dY,cg,bN,Rn.cells,O,R,M, *];done)|(rcases bc c.early with he|he<;>try simp only[I,B,D,RX,↓KW,seval,he,L,Rn.cells]))
   all_goals(first|(show AV.de _=AV.de _;simp[iZ,dY,cg,bN,Rn.cells,O,R,M, *];done)|skip)
  ·try simp only[I,B,D,RX,↓KW,seval,k1,k2,L,Rn.cells]
   refine af (ac _ k3 j3) ?_;try simp only[I,B,D,RX,↓KW,seval,L,Rn.cells]
   refine af (hS r.fst r.dH) ?_;try simp only[I,B,D,RX,↓KW,seval,L,Rn.cells]
   rcases bc (gE r.fst)with R|R
   all_goals try simp only[I,B,D,RX,↓KW,seval,R,L,Rn.cells]
   rcases bc (a==1)with ha|ha
   all_goals try simp only[I,B,D,RX,↓KW,seval,ha,L,Rn.cells]
   all_goals(refine af (hL p r.left c.here) ?_)
   all_goals try simp only[I,B,D,RX,↓KW,seval,L,Rn.cells]
   all_goals rcases bc c.dM with M|M
   all_goals try simp only[I,B,D,RX,↓KW,seval,M,L,Rn.cells]
   all_goals(try(refine af (hM r.kD) ?_))
   all_goals try simp only[I,B,D,RX,↓KW,seval,L,Rn.cells]
   all_goals(refine af (hI p ⟨r.limit,r.up,r.down⟩) ?_)
   all_goals try simp only[I,B,D,RX,↓KW,seval,M,L,Rn.cells]
   all_goals(refine ej rfl ?_)
   all_goals try simp only[I,B,D,RX,↓KW,seval,M,L,Rn.cells]
   all_goals(first|(show AV.de _=AV.de _;simp[iZ,dY,cg,bN,Rn.cells,O,R,M, *];done)|(rcases bc r.done with aa|aa<;>try simp only[I,B,D,RX,↓KW,seval,aa,L,Rn.cells]))
   all_goals(first|(show AV.de _=AV.de _;simp[iZ,dY,cg,bN,Rn.cells,O,R,M, *];done)|(rcases bc (decide (bM r.time>=p.min))with ht|ht<;>try simp only[I,B,D,RX,↓KW,seval,ht,L,Rn.cells]))
   all_goals(first|(show AV.de _=AV.de _;simp[iZ,dY,cg,bN,Rn.cells,O,R,M, *];done)|(refine af (hS a b) ?_))
   all_goals try simp only[I,B,D,RX,↓KW,seval,L,Rn.cells]
   all_goals(first|(show AV.de _=AV.de _;simp[iZ,dY,cg,bN,Rn.cells,O,R,M, *];done)|(rcases bc (gE a)with V|V<;>try simp only[I,B,D,RX,↓KW,seval,V,L,Rn.cells]))
   all_goals(first|(show AV.de _=AV.de _;simp[iZ,dY,cg,bN,Rn.cells,O,R,M, *];done)|(rcases bc (RD p r.left c.here==0)with hl|hl<;>try simp only[I,B,D,RX,↓KW,seval,hl,L,Rn.cells]))
   all_goals(first|(show AV.de _=AV.de _;simp[iZ,dY,cg,bN,Rn.cells,O,R,M, *];done)|(rcases bc (decide (bM r.kD>=JK p r.limit))with ab|ab<;>try simp only[I,B,D,RX,↓KW,seval,ab,L,Rn.cells]))
   all_goals(first|(show AV.de _=AV.de _;simp[iZ,dY,cg,bN,Rn.cells,O,R,M, *];done)|(rcases bc c.early with he|he<;>try simp only[I,B,D,RX,↓KW,seval,he,L,Rn.cells]))
   all_goals(first|(show AV.de _=AV.de _;simp[iZ,dY,cg,bN,Rn.cells,O,R,M, *];done)|skip)
 ·try simp only[I,B,D,RX,↓KW,seval,j1,j2,L,Rn.cells]
  ·try simp only[I,B,D,RX,↓KW,seval,j1,j2,L,Rn.cells]
   refine af (ad j1 j2) ?_;try simp only[I,B,D,RX,↓KW,seval,L,Rn.cells]
   refine af (hS r.fst r.dH) ?_;try simp only[I,B,D,RX,↓KW,seval,L,Rn.cells]
   rcases bc (gE r.fst)with R|R
   all_goals try simp only[I,B,D,RX,↓KW,seval,R,L,Rn.cells]
   rcases bc (a==1)with ha|ha
   all_goals try simp only[I,B,D,RX,↓KW,seval,ha,L,Rn.cells]
   all_goals(refine af (hL p r.left c.here) ?_)
   all_goals try simp only[I,B,D,RX,↓KW,seval,L,Rn.cells]
   all_goals rcases bc c.dM with M|M
   all_goals try simp only[I,B,D,RX,↓KW,seval,M,L,Rn.cells]
   all_goals(try(refine af (hM r.kD) ?_))
   all_goals try simp only[I,B,D,RX,↓KW,seval,L,Rn.cells]
   all_goals(refine af (hI p ⟨r.limit,r.up,r.down⟩) ?_)
   all_goals try simp only[I,B,D,RX,↓KW,seval,M,L,Rn.cells]
   all_goals(refine ej rfl ?_)
   all_goals try simp only[I,B,D,RX,↓KW,seval,M,L,Rn.cells]
   all_goals(first|(show AV.de _=AV.de _;simp[iZ,dY,cg,bN,Rn.cells,O,R,M, *];done)|(rcases bc r.done with aa|aa<;>try simp only[I,B,D,RX,↓KW,seval,aa,L,Rn.cells]))
   all_goals(first|(show AV.de _=AV.de _;simp[iZ,dY,cg,bN,Rn.cells,O,R,M, *];done)|(rcases bc (decide (bM r.time>=p.min))with ht|ht<;>try simp only[I,B,D,RX,↓KW,seval,ht,L,Rn.cells]))
   all_goals(first|(show AV.de _=AV.de _;simp[iZ,dY,cg,bN,Rn.cells,O,R,M, *];done)|(refine af (hS a b) ?_))
   all_goals try simp only[I,B,D,RX,↓KW,seval,L,Rn.cells]
   all_goals(first|(show AV.de _=AV.de _;simp[iZ,dY,cg,bN,Rn.cells,O,R,M, *];done)|(rcases bc (gE a)with V|V<;>try simp only[I,B,D,RX,↓KW,seval,V,L,Rn.cells]))
   all_goals(first|(show AV.de _=AV.de _;simp[iZ,dY,cg,bN,Rn.cells,O,R,M, *];done)|(rcases bc (RD p r.left c.here==0)with hl|hl<;>try simp only[I,B,D,RX,↓KW,seval,hl,L,Rn.cells]))
   all_goals(first|(show AV.de _=AV.de _;simp[iZ,dY,cg,bN,Rn.cells,O,R,M, *];done)|(rcases bc (decide (bM r.kD>=JK p r.limit))with ab|ab<;>try simp only[I,B,D,RX,↓KW,seval,ab,L,Rn.cells]))
   all_goals(first|(show AV.de _=AV.de _;simp[iZ,dY,cg,bN,Rn.cells,O,R,M, *];done)|(rcases bc c.early with he|he<;>try simp only[I,B,D,RX,↓KW,seval,he,L,Rn.cells]))
   all_goals(first|(show AV.de _=AV.de _;simp[iZ,dY,cg,bN,Rn.cells,O,R,M, *];done)|skip)
end
end
section
variable{P:Program} (hm:P.follows .mixedOrders=true) {f:Nat}
include hm
theorem Ak.ok{fA fG fO fM fI:Nat} (hc:bF P f=some (nq fA fG fO fM fI)) (hA:LA.Spec (Pure P) fA) (hG:Lz.Spec (Pure P) fG) (hO:Bo.Spec (Pure P) fO) (hM:mV.Spec (Pure P) fM) (hI:yy.Spec (Pure P) fI):Ak.Spec (Pure P) f:=by
 intro p r c
 have V:=yz p r c
 have t3:=Fb p r c
 have t4:=Nr p r c
 have R:=hO p r c
 obtain⟨g,O⟩:∃g,iZ p r c=g:=⟨_,rfl⟩
 obtain⟨d,hd⟩:∃d,dY p g c=d:=⟨_,rfl⟩
 rw[O,hd]at R;refine aq hm hc [] rfl ?_;try simp only[B,RX,↓KW,seval,nq,Z.H,t4,bC]
 rcases bc c.fin with L|L
 ·try simp only[RX,↓KW,seval,L,V]
  refine af R ?_;try simp only[I,B,RX,↓KW,seval,Rn.cells]
  rcases bc d with D|D
  ·try simp only[RX,↓KW,seval,D]
   simp[gF,L,O,hd,D]
  ·try simp only[B,RX,↓KW,seval,D,t4]
   rcases bc c.hold with M|M
   ·try simp only[RX,↓KW,seval,M]
    rcases bc (decide (g.left>0))with h4|h4
    ·try simp only[RX,↓KW,seval,h4]
     simp[gF,L,O,hd,D,M,h4]
    ·try simp only[RX,↓KW,seval,h4,V]
     refine af (hI p ⟨g.limit,g.up,g.down⟩) ?_;try simp only[I,RX,↓KW,seval]
     simp[gF,L,O,hd,D,M,h4,cg]
   ·try simp only[RX,↓KW,seval,M]
    refine af (hM g.extra) ?_;try simp only[I,RX,↓KW,seval]
    simp[gF,L,O,hd,D,M]
 ·try simp only[RX,↓KW,seval,L,V]
  refine af (hA p r c _ _) ?_;try simp only[I,B,RX,↓KW,seval,t3,Rn.cells,qh]
  rcases bc r.done with D|D
  ·try simp only[RX,↓KW,seval,D]
   simp[gF,L,D,qh]
  ·try simp only[B,RX,↓KW,seval,D,V,t3]
   refine af (hG p ⟨r.limit,r.up,r.down⟩ r.kT) ?_;try simp only[I,RX,↓KW,seval,Tr.cells]
   simp[gF,L,D,qh]
theorem Fa.ok{V:Nat} (hc:bF P f=some (xp V)) (hO:Bo.Spec (Pure P) V):Fa.Spec (Pure P) f:=by
 intro p r c
 have qp:aB p.cells 0 (some 13)=some (.agg p.cells):=rfl
 have qr:aB r.cells 0 (some 12)=some (.agg r.cells)/\r.cells[0]? =some (I r.aA):=⟨rfl,rfl⟩
 have R:aB c.cells 0 (some 8)=some (.agg c.cells)/\c.cells[1]? =some (B c.fin)/\c.cells[5]? =some (B c.hold):=⟨rfl,rfl,rfl⟩
 have O:=hO p r c
 obtain⟨g,hg⟩:∃g,iZ p r c=g:=⟨_,rfl⟩
 obtain⟨d,hd⟩:∃d,dY p g c=d:=⟨_,rfl⟩
 rw[hg,hd]at O
 have b1:∀ps,wZ 0 13 (some (.agg p.cells)) (some ps)=some ((0,p.cells)::ps):=λ_=>rfl
 have b2:∀ps,wZ 13 12 (some (.agg r.cells)) (some ps)=some ((13,r.cells)::ps):=λ_=>rfl
 have b3:∀ps,wZ 25 8 (some (.agg c.cells)) (some ps)=some ((25,c.cells)::ps):=λ_=>rfl
 have b4:nN lM [(0,p.cells),(13,r.cells),(25,c.cells)]=eW p r c:=rfl
 refine aq hm hc [] rfl ?_;try simp only[I,B,RX,↓KW,seval,xp,Z.H,qr]
 rcases bc (r.aA !=1)with D|D
 ·try simp only[B,RX,↓KW,seval,D,R]
  rcases bc c.fin with L|L
  ·try simp only[B,RX,↓KW,seval,L,R]
   rcases bc c.hold with M|M
   ·try simp only[RX,↓KW,seval,M]
    simp[yx,D,L,M]
   ·try simp only[RX,↓KW,seval,M,qp,qr,R,b1,b2,b3,b4]
    refine af O ?_;try simp only[I,B,RX,↓KW,seval,Rn.cells,bC]
    simp[yx,D,L,M,hg,hd]
  ·try simp only[RX,↓KW,seval,L]
   simp[yx,D,L]
 ·try simp only[RX,↓KW,seval,D]
  simp[yx,D]
theorem E9.ok{fR fG fY fC:Nat} (hc:bF P f=some (xq fR fG fY fC)) (hR:LB.Spec (Pure P) fR) (hG:Ak.Spec (Pure P) fG) (hY:vG.Spec (Pure P) fY) (hC:vH.Spec (Pure P) fC):E9.Spec (Pure P) f:=by
 intro p r c
 have qp:aB p.cells 0 (some 13)=some (.agg p.cells):=rfl
 have qr:aB r.cells 0 (some 12)=some (.agg r.cells)/\r.cells[0]? =some (I r.aA):=⟨rfl,rfl⟩
 have qc:aB c.cells 0 (some 8)=some (.agg c.cells)/\c.cells[1]? =some (B c.fin)/\c.cells[5]? =some (B c.hold):=⟨rfl,rfl,rfl⟩
 have R:=yz p r c
 have b1:∀ps,wZ 0 13 (some (.agg p.cells)) (some ps)=some ((0,p.cells)::ps):=λ_=>rfl
 have b2:∀ps,wZ 13 12 (some (.agg r.cells)) (some ps)=some ((13,r.cells)::ps):=λ_=>rfl
 have b3:∀ps,wZ 25 8 (some (.agg c.cells)) (some ps)=some ((25,c.cells)::ps):=λ_=>rfl
 have b4:nN lM [(0,p.cells),(13,r.cells),(25,c.cells)]=eW p r c:=rfl
 have b5:setCells lM 0 (eW p r c)=eW p r c:=rfl
 have b6:lM.length=33:=rfl
 have O:∀x:Rn,setCells bC 0 x.cells=x.cells/\x.cells.length=12/\aB x.cells 0 (some 12)=some (.agg x.cells):=λ_=>⟨rfl,rfl,rfl⟩
 have V:bC.length=12:=rfl
 refine aq hm hc [] rfl ?_;try simp only[I,RY,↓KW,seval,xq,Z.H,qp,qr,qc,R,b1,b2,b3,b4,b5,b6]
 rcases bc (r.aA==1)with D|D
 ·try simp only[RY,↓KW,seval,D]
  rcases bc (r.aA==2)with L|L
  ·try simp only[RY,↓KW,seval,L]
   rcases bc (r.aA==3)with M|M
   ·try simp only[RY,↓KW,seval,M]
    refine⟨rfl,af (hR p r c) ?_⟩;try simp only[RY,seval,O,V]
    simp[cj,D,L,M]
   ·try simp only[RY,↓KW,seval,M,R]
    refine⟨rfl,rfl,af (hC p r c) ?_⟩;try simp only[RY,seval,O,V]
    simp[cj,D,L,M]
  ·try simp only[RY,↓KW,seval,L,R]
   refine⟨rfl,rfl,af (hY p r c) ?_⟩;try simp only[RY,seval,O,V]
   simp[cj,D,L]
 ·try simp only[RY,↓KW,seval,D,R]
  refine⟨rfl,rfl,af (hG p r c) ?_⟩;try simp only[RY,seval,O,V]
  simp[cj,D]
end
def crE(t:Tb) (r:gx) (l:List Rn) (want:Int):gx:=
 if(List.range 8).all (λp=>dX (aX l p))then⟨if fwE t r.group want>=0 then fwE t r.group want else r.group,-1,-1,false⟩else r
def Am.Spec(C:aQ) (f:Nat):Prop:=∀(t:Tb) (r:gx) (l:List Rn) (want:Int),t.Ok->l.length=8->C.c f [.agg t.cells,.agg r.cells,.agg (bU l),I want] (.agg (crE t r l want).cells) none
section
variable{P:Program} (hm:P.follows .mixedOrders=true) {f:Nat}
include hm
theorem Am.ok{fR fF:Nat} (hc:bF P f=some (tU fR fF)) (hR:E5.Spec (Pure P) fR) (hF:Ls.Spec (Pure P) fF):Am.Spec (Pure P) f:=by
 intro t r l want ht hl
 have hw:=gD hl
 have ak:=dw hl
 have ad:=Tb.len ht
 have hp:=Tb.whole ht
 have hr:r.cells.length=4/\aB r.cells 0 (some 4)=some (.agg r.cells)/\r.cells[0]? =some (I r.group):=⟨rfl,rfl,rfl⟩
 have ae:∀n:Int,setCells r.cells 0 [I n]=(⟨n,r.a0,r.a1,r.mX⟩:gx).cells:=λ_=>rfl
 have ab:∀n:Int,(⟨n,r.a0,r.a1,r.mX⟩:gx).cells[0]? =some (I n):=λ_=>rfl
 have ql:bC.length=12:=rfl
 have aa:∀x:gx,x.cells.length=4/\aB x.cells 0 (some 4)=some (.agg x.cells):=λ_=>⟨rfl,rfl⟩
 have ag:∀x:gx,setCells [.int .i64 0,.int .i64 0,.int .i64 0,.bool false] 0 x.cells=x.cells:=λ_=>rfl
 have L:=dC hw (dC ak (dC ad (dC hp (dC hr (dC ae (dC ab (dC ql (dC ag (aa)))))))))
 refine aq hm hc [] rfl ?_;try simp only[I,B,D,RY,↓KW,seval,tU,Z.H,L]
 refine aK (λk:Nat=>(⟨[(13,.dat (I k) none),(12,.dat (.agg (bU l)) none),(5,.ptr 5 0),(8,.ptr 7 0),(4,.ptr 4 0),(3,.dat (I want) none)],[(4,⟨t.cells,[]⟩),(5,⟨r.cells,[]⟩),(7,⟨[.int .i64 0,.int .i64 0,.int .i64 0,.bool false],[]⟩)],[],400⟩:S)) (λk=>8-k) (λk=>k<=8/\∀q,q<k->dX (aX l q)=true) ?_ 0 ⟨aaN,aaN⟩ ?_
 ·rintro k ⟨hk,O⟩ A back
  have al:=aD (k:=k) aaN
  try simp only[I,B,D,RY,↓KW,seval]
  rcases bc (decide ((k:Int)<8))with h|h
  ·have:k=8:=by have:=dE h;omega
   subst this
   have V:(List.range 8).all (λp=>dX (aX l p))=true:=np.2 λq hq=>O q (j9.1 hq)
   try simp only[I,B,D,RY,↓KW,seval,h,L]
   refine af (hF t r.group want ht) ?_;try simp only[I,B,D,RY,↓KW,seval,L]
   have R:∀n:Int,nN [.int .i64 0,.int .i64 0,.int .i64 0,.bool false] [(0,[I n]),(1,[I (-1),I (-1)])]=(⟨n,-1,-1,false⟩:gx).cells:=λ_=>rfl
   rcases bc (decide (0<=fwE t r.group want))with M|M
   ·have h3:=dE M
    try simp only[I,B,D,RY,↓KW,seval,M,L,R]
    simp[crE,V,h3]
   ·have h3:=dT M
    try simp only[I,B,D,RY,↓KW,seval,M,L,R]
    simp[crE,V,h3]
  ·have h8:k<8:=by have:=dT h;omega
   have ac:aB (bU l) (k*12) (some 12)=some (.agg (aX l k).cells):=jH hl h8
   have hy:0<=(k:Int)/\(k:Int)<8:=aaN
   have qz:setCells bC 0 (aX l k).cells=(aX l k).cells:=rfl
   have qw:aB (aX l k).cells 0 (some 12)=some (.agg (aX l k).cells):=rfl
   try simp only[I,B,D,RY,↓KW,seval,h,hy,ac,qz,qw,Rn.len,L]
   refine af (hR (aX l k)) ?_;try simp only[I,B,D,RY,↓KW,seval,L]
   rcases bc (dX (aX l k))with M|M
   ·have V:(List.range 8).all (λp=>dX (aX l p))=false:=List.all_eq_false.2 ⟨k,j9.2 h8,by simp[M]⟩
    try simp only[I,B,D,RY,↓KW,seval,M,L,nm]
    simp[crE,V]
   ·try simp only[I,B,D,RY,↓KW,seval,M,L,nz]
    refine back (k+1) _ ⟨aaN,λq hq=>?_⟩ aaN ?_
    ·by_cases e:q=k
     ·rw[e];exact M
     ·exact O q aaN
    ·refine ai aaO ?_ ?_ ?_ ?_<;>simp[LX,I,B,D,al]
 ·refine ai aaO ?_ ?_ ?_ ?_<;>simp[LX,I,B,D]
end
def An(l:List Rn) (D next:Int) (mv:Bool):Bool:=decide (next<0)&&(!mv||(gp (aX l D.toNat)&&(aX l D.toNat).done))
def Fc.Spec(C:aQ) (f:Nat):Prop:=∀(l:List Rn) (D next:Int) (mv:Bool),l.length=8->(mv=true->0<=D/\D<8)->C.c f [.agg [I D,I next,B mv],.agg (bU l)] (B (An l D next mv)) none
section
variable{P:Program} (hm:P.follows .mixedOrders=true) {f:Nat}
include hm
theorem Fc.ok(hc:bF P f=some nk):Fc.Spec (Pure P) f:=by
 intro l aa next mv hl ad
 have O:=gD hl
 have L:=dw hl
 refine aq hm hc [] rfl ?_;try simp only[I,B,D,RY,↓KW,seval,nk,Z.H,O,L]
 rcases bc (decide (next<0))with V|V
 ·try simp only[I,B,D,RY,↓KW,seval,V,O,L]
  simp only[An,V,pc]
 ·try simp only[I,B,D,RY,↓KW,seval,V,O,L]
  rcases bc mv with R|R
  ·try simp only[I,B,D,RY,↓KW,seval,R,O,L,nm]
   simp only[An,V,R,nm,PP,zr]
  ·obtain⟨ha,hb⟩:=ad R
   obtain⟨k,rfl⟩:∃k:Nat,aa=k:=⟨aa.toNat,aaN⟩
   have h8:k<8:=aaN
   have ab:aB (bU l) (k*12) (some 12)=some (.agg (aX l k).cells):=jH hl h8
   have ac:(bU l)[k*12]? =some (I (aX l k).aA):=by have:=nB ab (j:=0) aaN;rw[sh]at this;rw[this];rfl
   have M:(bU l)[k*12+7]? =some (B (aX l k).done):=by rw[nB ab aaN];rfl
   have hy:0<=(k:Int)/\(k:Int)<8:=aaN
   have hg:((aX l k).aA==1)=gp (aX l k):=rfl
   try simp only[I,B,D,RY,↓KW,seval,R,O,L,nz,hy,ac,M]
   rw[hg]
   have hn:(k:Int).toNat=k:=rfl
   rcases bc (gp (aX l k))with h3|h3
   ·try simp only[I,B,D,RY,↓KW,seval,h3,O,L,nz]
    simp only[An,V,R,hn,h3,nz,w5,pc,pd]
   ·try simp only[I,B,D,RY,↓KW,seval,h3,O,L,hy,M,nz]
    simp only[An,V,R,hn,h3,nz,w5,pA]
end
section
variable (t:Tb) (r:gx) (l:List Rn) (want k:Int) (n:Nat) (x:gx×Int×Int)
def Db:Bool:=decide (oE t r k>=0)&& !dX (aX l (oE t r k).toNat)
def yH:Int:=nxE t r.group k (r.at k) want
def gx.put(x:Int):gx:=if k=0 then{r with a0:=x}else{r with a1:=x}
def Ht:Bool:=
 (aX l (oE t r k).toNat).aA==1&&(((aX l (oE t r k).toNat).done&&decide (yH t r want k>=0))||(Nq (aV t (oE t r k)) (aX l (oE t r k).toNat)&& !eK want (oE t r k)))
def tX:gx×Int×Int:=
 if Db t r l k then(if Ht t r l want k then(x.1,x.2.1,dZ x.2.2 (oE t r k))else x)
 else if yH t r want k>=0 then(if jh t l (tW t r.group k (yH t r want k)).toNat then(x.1.put k (yH t r want k),dZ x.2.1 (tW t r.group k (yH t r want k)),x.2.2)else x)else x
def kJ:gx×Int×Int:=tX t r l want 1 (tX t r l want 0 (r,0,0))
def LC(t:Tb) (r:gx) (l:List Rn) (want:Int):Nat->gx×Int×Int
 |0=>(r,0,0)
 |k+1=>tX t r l want k (LC t r l want k)
def lp:Int:=OR λp=>gp (aX l p)
def Cp:Bool:=An l (oE t r k) (yH t r want k) (Db t r l k)
def YT:Bool:=
 AQ .i64 x.2.1 x.2.2==0&&(Cp t r l want 0&&(Cp t r l want 1&&decide (Af (dW .i64 want (lp l))>=0)))
def LD:gx×Int×Int:=
 if r.mX then(crE t r l want,0,0)
 else if YT t r l want (kJ t r l want)then({(kJ t r l want).1 with mX:=true},(kJ t r l want).2.1,lp l)else kJ t r l want
theorem YU{s p:Int} (h:eK s p=true):0<=p/\p<8:=by
 by_cases L:p<0\/8<=p
 ·have M:qE p=0:=by simp only[qE];rw[ib L]
  have D:dL .i64 s 0=0:=by
   have e:BitVec.ofInt IntKind.i64.bits 0=0#_:=rfl
   simp only[dL,e,BitVec.and_zero,BitVec.toNat_zero];decide
  rw[eK,M,D]at h;cases h
 ·omega
theorem Ns{t:Tb} {r:gx} {k:Int}:oE t r k<8:=by
 unfold oE;split
 ·omega
 ·unfold tW;split
  ·omega
  ·split
   ·omega
   ·split<;>omega
theorem LF{t:Tb} {r:gx} {k want:Int} (h:yH t r want k>=0) (hk:0<=k/\k<2):0<=tW t r.group k (yH t r want k)/\tW t r.group k (yH t r want k)<8:=by
 have e:yH t r want k=match(List.range ((jE t r.group k).getD []).length).find? (nxP t r.group k (r.at k) want)with
  |some i=>(i:Int)
  |none=>-1:=rfl
 cases D:(List.range ((jE t r.group k).getD []).length).find? (nxP t r.group k (r.at k) want)with
 |none=>rw[D]at e;simp only at e;omega
 |some i=>
  rw[D]at e;simp only at e
  have M:=j9.1 (H3 D)
  have L:=List.find?_some D
  simp only[nxP,ed]at L
  have R:=L.2
  have O:=YU R
  have V:¬(r.group<0\/((t.groups.getD []).length:Int)<=r.group\/k<0\/1<k):=λZ=>by
   rw[jE,ib Z]at M;simp at M
  rw[e];unfold tW
  rw[ge V,ge aaN]
  simp only[pu];rw[ib O];exact O
theorem Nt{t:Tb} {r:gx} {l:List Rn} {k:Int} (h:Db t r l k=true):0<=oE t r k/\oE t r k<8:=by
 simp only[Db,ed]at h;exact⟨dT h.1,Ns⟩
theorem gx.UD(x:gx) {k:Nat} (hk:k<2) (n:Int):setCells x.cells (1+k) [I n]=(x.put k n).cells:=by
 have:k=0\/k=1:=aaN
 rcases this with rfl|rfl<;>rfl
def mH:List AV:=
 (if 0<n then[I (oE t r 0),I (yH t r want 0),B (Db t r l 0)]else[I 0,I 0,B false])++(if 1<n then[I (oE t r 1),I (yH t r want 1),B (Db t r l 1)]else[I 0,I 0,B false])
theorem Q7:(mH t r l want n).length=6:=by
 unfold mH;split<;>split<;>rfl
theorem Q8{k:Nat} (hk:k<2):setCells (mH t r l want k) (k*3) [I (oE t r k),I (yH t r want k),B (Db t r l k)]=mH t r l want (k+1):=by
 have:k=0\/k=1:=aaN
 rcases this with rfl|rfl<;>rfl
theorem UE{k:Nat} (hk:k<2):aB (mH t r l want 2) (k*3) (some 3)=some (.agg [I (oE t r k),I (yH t r want k),B (Db t r l k)]):=by
 have:k=0\/k=1:=aaN
 rcases this with rfl|rfl<;>rfl
def Fe.Spec(C:aQ) (f:Nat):Prop:=∀(t:Tb) (r:gx) (l:List Rn) (want:Int),t.Ok->l.length=8->C.c f [.agg t.cells,.agg r.cells,.agg (bU l),I want] (.de [.agg (LD t r l want).1.cells,I (LD t r l want).2.1,I (LD t r l want).2.2]) none
end
section
variable{P:Program} (hm:P.follows .mixedOrders=true) {f:Nat}
include hm
theorem Fe.ok{fC fN fX fR fE fH fW fA fM fG fS fF:Nat} (hc:bF P f=some (zW fC fN fX fR fE fH fW fA fM fG fS fF)) (hC:Am.Spec (Pure P) fC) (hN:Lt.Spec (Pure P) fN) (hX:E4.Spec (Pure P) fX) (hR:E5.Spec (Pure P) fR)
  (hE:Ah.Spec (Pure P) fE) (hH:lD.Spec (Pure P) fH) (hW:iD.Spec (Pure P) fW) (hA:Q5.Spec (Pure P) fA) (hM:Lu.Spec (Pure P) fM) (hG:ry.Spec (Pure P) fG) (hS:Fc.Spec (Pure P) fS) (hF:wJ.Spec (Pure P) fF):Fe.Spec (Pure P) f:=by
 intro t r l want ht hl
 have hw:=gD hl
 have a9:=dw hl
 have a4:=Tb.len ht
 have hp:=Tb.whole ht
 have hr:r.cells.length=4/\aB r.cells 0 (some 4)=some (.agg r.cells)/\r.cells[0]? =some (I r.group)/\r.cells[3]? =some (B r.mX):=⟨rfl,rfl,rfl,rfl⟩
 have a7:∀x:gx,setCells [.int .i64 0,.int .i64 0,.int .i64 0,.bool false] 0 x.cells=x.cells:=λ_=>rfl
 have ba:∀x y:gx,setCells x.cells 0 y.cells=y.cells:=λ_ _=>rfl
 have a6:∀x:gx,x.cells.length=4/\aB x.cells 0 (some 4)=some (.agg x.cells):=λ_=>⟨rfl,rfl⟩
 have bd:∀a b c d e g:AV,setCells [a,b,c] 0 [d,e,g]=[d,e,g]:=λ_ _ _ _ _ _=>rfl
 have a8:∀a b c d:AV,setCells [a,b,c] 2 [d]=[a,b,d]:=λ_ _ _ _=>rfl
 have M:=dC hw (dC a9 (dC a4 (dC hp (dC hr (dC a7 (dC a6 (dC bd (dC a8 (ba)))))))))
 refine aq hm hc [] rfl ?_;try simp only[I,B,RY,↓KW,seval,zW,Z.H,M]
 rcases bc r.mX with V|V
 rotate_left
 ·try simp only[RY,↓KW,seval,V,M]
  refine af (hC t r l want ht hl) ?_;try simp only[RY,↓KW,seval,M]
  simp[LD,V]
 try simp only[RY,↓KW,seval,V]
 refine aK (λk:Nat=>(⟨[(26,.dat (I k) none),(3,.dat (I want) none),(4,.ptr 4 0),(5,.ptr 5 0),(6,.ptr 6 0),(8,.ptr 7 0),(11,.ptr 12 0),(9,.dat (I 0) none),(10,.dat (I 0) none)],[(4,⟨t.cells,[]⟩),(5,⟨r.cells,[]⟩),(6,⟨bU l,[]⟩),(7,⟨[.int .i64 0,.int .i64 0,.int .i64 0,.bool false],[]⟩),(12,⟨mH t r l want k,[]⟩)],[],400⟩:S)) (λk=>2-k) (λk=>k<=2) ?_ 0 aaN ?_
 rotate_left
 ·refine ai aaO ?_ ?_ ?_ ?_<;>simp[LX,I,B,mH]
 intro k hk A back
 have O:=aD (k:=k) aaN
 try simp only[I,RY,↓KW,seval]
 rcases bc (decide ((k:Int)<2))with h|h
 rotate_left
 ·have h2:k<2:=by have:=dT h;omega
  have hy:0<=(k:Int)/\(k:Int)<2:=aaN
  have be:r.cells[1+k]? =some (I (r.at k)):=by
   have:k=0\/k=1:=aaN
   rcases this with rfl|rfl<;>rfl
  have ol:=Q7 t r l want k
  have os:=Q8 t r l want h2
  try simp only[RY,↓KW,seval,hy,M]
  refine af (hN t r k ht) ?_;try simp only[I,RY,↓KW,seval,be,hy,M]
  refine af (hX t r.group k (r.at k) want ht) ?_;try simp only[I,RY,↓KW,seval,M]
  rcases bc (decide (oE t r k>=0))with h3|h3
  ·have hb:Db t r l k=false:=by rw[Db,h3];rfl
   rw[hb]at os
   have ac:setCells (mH t r l want k) (k*3) [I (oE t r k),I (nxE t r.group k (r.at k) want),B false]=mH t r l want (k+1):=os
   try simp only[RY,↓KW,seval,h3,hy,ol,ac,M]
   refine⟨aaN,back (k+1) _ aaN aaN ?_⟩
   refine ai aaO ?_ ?_ ?_ ?_<;>simp[LX,I,O]
  ·have ar:=dT h3
   have a2:=Ns (t:=t) (r:=r) (k:=k)
   obtain⟨q,hq⟩:∃q:Nat,oE t r k=q:=⟨(oE t r k).toNat,aaN⟩
   have aa:0<=(q:Int)/\(q:Int)<8:=aaN
   have ae:aB (bU l) (q*12) (some 12)=some (.agg (aX l q).cells):=jH hl aaN
   have hb:Db t r l k=!dX (aX l q):=by rw[Db,h3,hq];rfl
   rw[hb]at os
   have ac:setCells (mH t r l want k) (k*3) [I (oE t r k),I (nxE t r.group k (r.at k) want),B (!dX (aX l q))]=mH t r l want (k+1):=os
   rw[hq]at*;try simp only[RY,↓KW,seval,aa,ae]
   refine af (hR (aX l q)) ?_;try simp only[B,RY,↓KW,seval,hy,ol,ac,M]
   refine⟨aaN,back (k+1) _ aaN aaN ?_⟩
   refine ai aaO ?_ ?_ ?_ ?_<;>simp[LX,I,O]
 have ad:k=2:=by have:=dE h;omega
 subst ad
 have ow:aB (mH t r l want 2) 0 (some 6)=some (.agg (mH t r l want 2)):=rfl
 try simp only[RY,↓KW,seval,ow,M]
 clear back
 refine aK (λk:Nat=>(⟨[(62,.dat (I k) none),(61,.dat (.agg (mH t r l want 2)) none),(3,.dat (I want) none),(4,.ptr 4 0),(5,.ptr 5 0),(6,.ptr 6 0),(8,.ptr 7 0),(11,.ptr 12 0),(9,.dat (I (LC t r l want k).2.1) none),(10,.dat (I (LC t r l want k).2.2) none)],[(4,⟨t.cells,[]⟩),(5,⟨r.cells,[]⟩),(6,⟨bU l,[]⟩),(7,⟨(LC t r l want k).1.cells,[]⟩),(12,⟨mH t r l want 2,[]⟩)],[],400⟩:S)) (λk=>2-k) (λk=>k<=2) ?_ 0 aaN ?_
 rotate_left
 ·refine ai aaO ?_ ?_ ?_ ?_<;>simp[LX,I,LC]
 intro k hk A2 back
 have O:=aD (k:=k) aaN
 obtain⟨x,hx⟩:∃x,LC t r l want k=x:=⟨_,rfl⟩
 have hn:LC t r l want (k+1)=tX t r l want k x:=by rw[LC,hx]
 rw[hx];try simp only[I,RY,↓KW,seval]
 rcases bc (decide ((k:Int)<2))with h|h
 rotate_left
 ·have h2:k<2:=by have:=dT h;omega
  have hy:0<=(k:Int)/\(k:Int)<2:=aaN
  have ag:=UE t r l want h2
  obtain⟨b,hb⟩:∃b,Db t r l k=b:=⟨_,rfl⟩
  obtain⟨n,R⟩:∃n,yH t r want k=n:=⟨_,rfl⟩
  obtain⟨w,ab⟩:∃w,oE t r k=w:=⟨_,rfl⟩
  have L:tX t r l want k x=if b then(if Ht t r l want k then(x.1,x.2.1,dZ x.2.2 w)else x)
   else if n>=0 then(if jh t l (tW t r.group k n).toNat then(x.1.put k n,dZ x.2.1 (tW t r.group k n),x.2.2)else x)else x:=by rw[tX,hb,R,ab]
  rw[hb,R,ab]at ag
  rcases b with _|_
  ·rw[ge aaO]at L
   try simp only[I,B,RY,↓KW,seval,hy,ag,M]
   rcases bc (decide (n>=0))with h4|h4
   ·rw[ge (dE h4)]at L
    try simp only[RY,↓KW,seval,h4]
    refine back (k+1) _ aaN aaN ?_
    refine ai aaO ?_ ?_ ?_ ?_<;>simp[LX,I,O,hn,L]
   ·have an:=dT h4
    rw[ib an]at L
    have hq:=LF (t:=t) (r:=r) (k:=k) (want:=want) (by rw[R];exact an) aaN
    rw[R]at hq
    obtain⟨q,ak⟩:∃q:Nat,tW t r.group k n=q:=⟨(tW t r.group k n).toNat,aaN⟩
    rw[ak]at L hq
    have al:=hA t r.group k n ht
    rw[ak]at al;try simp only[I,RY,↓KW,seval,h4,M]
    refine af al ?_;try simp only[I,RY,↓KW,seval,M]
    refine af (hM t l q ht hl aaN) ?_
    try simp only[B,RY,↓KW,seval]
    have bl:(q:Int).toNat=q:=rfl
    rw[bl]at L
    rcases bc (jh t l q)with h5|h5
    ·rw[ge (by rw[h5];decide)]at L
     try simp only[RY,↓KW,seval,h5]
     refine back (k+1) _ aaN aaN ?_
     refine ai aaO ?_ ?_ ?_ ?_<;>simp[LX,I,O,hn,L]
    ·rw[ib h5]at L
     have bi:=x.1.UD h2 n
     try simp only[RY,↓KW,seval,h5]
     refine af (hW _ _) ?_;try simp only[I,RY,↓KW,seval,hy,bi,M]
     refine⟨aaN,back (k+1) _ aaN aaN ?_⟩
     refine ai aaO ?_ ?_ ?_ ?_<;>simp[LX,I,O,hn,L]
  ·rw[ib rfl]at L
   have ao:=hb
   simp only[Db,ed]at ao
   have ar:=dT ao.1
   have a2:=Ns (t:=t) (r:=r) (k:=k)
   rw[ab]at ar a2
   obtain⟨q,hq⟩:∃q:Nat,w=q:=⟨w.toNat,aaN⟩
   subst hq
   have aa:0<=(q:Int)/\(q:Int)<8:=aaN
   have ae:aB (bU l) (q*12) (some 12)=some (.agg (aX l q).cells):=jH hl aaN
   have qz:setCells bC 0 (aX l q).cells=(aX l q).cells:=rfl
   have ql:bC.length=12:=rfl
   have qr:(aX l q).cells[0]? =some (I (aX l q).aA)/\(aX l q).cells[7]? =some (B (aX l q).done)/\aB (aX l q).cells 0 (some 12)=some (.agg (aX l q).cells):=⟨rfl,rfl,rfl⟩
   have a5:=Tb.od (ht.ln.vh (k:=q) aaN)
   have he:Ht t r l want k=((aX l q).aA==1&&(((aX l q).done&&decide (n>=0))||(Nq (aV t q) (aX l q)&& !eK want q))):=by rw[Ht,ab,R];rfl
   try simp only[I,B,RY,↓KW,seval,hy,ag,aa,ae,qz,ql,qr,Rn.len,M]
   rw[he]at L
   repeat' (first|((first|refine af (hE (aV t q) (aX l q)) ?_|refine af (hH want q) ?_|refine af (hW _ _) ?_);try simp only[I,B,RY,↓KW,seval])|(((first|refine bg ?_ ?_|refine az ?_ ?_|refine bz ?_ ?_)<;>intro h)<;>try simp only[B,RY,↓KW,seval,aa,a5,qr,h]))
   all_goals
    refine back (k+1) _ aaN aaN ?_
    refine ai aaO ?_ ?_ ?_ ?_<;>simp[LX,I, *]
 have ad:k=2:=by have:=dE h;omega
 subst ad;try simp only[RY,↓KW,seval,M]
 refine af (hG l hl) ?_;try simp only[I,RY,↓KW,seval]
 have a3:kJ t r l want=x:=hx
 have o0:aB (mH t r l want 2) 0 (some 3)=some (.agg [I (oE t r 0),I (yH t r want 0),B (Db t r l 0)]):=rfl
 have o1:aB (mH t r l want 2) 3 (some 3)=some (.agg [I (oE t r 1),I (yH t r want 1),B (Db t r l 1)]):=rfl
 have bj:setCells x.1.cells 3 [B true]=({x.1 with mX:=true}:gx).cells:=rfl
 have hg:(OR λp=>gp (aX l p))=lp l:=rfl
 have bo:YT t r l want x=(AQ .i64 x.2.1 x.2.2==0&&(Cp t r l want 0&&(Cp t r l want 1&&decide (Af (dW .i64 want (lp l))>=0)))):=rfl
 have bm:LD t r l want=if YT t r l want x then({x.1 with mX:=true},x.2.1,lp l)else x:=by rw[LD,ge (by rw[V];decide),a3]
 have am:=hS l (oE t r 0) (yH t r want 0) (Db t r l 0) hl (Nt (t:=t) (r:=r) (l:=l))
 have au:=hS l (oE t r 1) (yH t r want 1) (Db t r l 1) hl (Nt (t:=t) (r:=r) (l:=l))
 rw[show An l (oE t r 0) (yH t r want 0) (Db t r l 0)=Cp t r l want 0 from rfl]at am
 rw[show An l (oE t r 1) (yH t r want 1) (Db t r l 1)=Cp t r l want 1 from rfl]at au
 rw[hg];try simp only[I,B,D,RY,↓KW,seval,o0,o1,M]
 repeat' (first|((first|refine af (am) ?_|refine af (au) ?_|refine af (hF _) ?_);try simp only[I,B,RY,↓KW,seval])|(((first|refine bg ?_ ?_|refine az ?_ ?_|refine bz ?_ ?_)<;>intro h)<;>try simp only[I,B,RY,↓KW,seval,o0,o1,bj,M,h]))
 all_goals simp[*]
end
section
variable (t:Tb) (r:gx) (C:aQ) (l:List Rn) (f:Nat) (s want:Int)
theorem Nu{p:Nat} (D:p<8):dZ (dZ s p) p=dZ s p:=
 zH (qN D) (qN D) λi L=>by
  rw[o5 D,o5 D]
  cases tb s i<;>simp[L]
theorem UF{α:Type} {l:List α} {f:α->Bool} {i:Nat} {x:α} (h:l[i]? =some x):(l.take (i+1)).any f=((l.take i).any f||f x):=by
 rw[List.take_add_one,h];simp
def Ff:Int:=dW .i64 want (lp l)
def YV(l:List Rn) (want:Int) (p q:Nat):Bool:=!(aC t p).2|| !ahE t r (aC t p).1.ring q
def prF(n:Int) (p:Nat):Int:=if(fe (Ff l want)).any (YV t r l want p)then dZ n p else n
def YW:Int:=(fe (dL .i64 (lp l) (yG t))).foldl (prF t r l want) 0
def LG.Spec:Prop:=∀(t:Tb) (r:gx) (l:List Rn) (want:Int),t.Ok->l.length=8->C.c f [.agg t.cells,.agg r.cells,.agg (bU l),I want] (I (YW t r l want)) none
def Wc(p:Nat):gx:=if(aC t p).2&&((aC t p).1.group==r.group&&decide (r.at (aC t p).1.ring<0))then r.put (aC t p).1.ring (aC t p).1.pos else r
def Q9:gx:=(fe s).foldl (Wc t) ⟨(aC t (Af s)).1.group,-1,-1,false⟩
def LH.Spec:Prop:=∀(t:Tb) (s:Int),t.Ok->C.c f [.agg t.cells,I s] (.agg (Q9 t s).cells) none
def YX(k:Int):Int:=if k<0\/((t.bQ.getD []).length:Int)<=k then 0 else(Ng t k.toNat).exit
def Fg.Spec:Prop:=∀(t:Tb) (k:Int),t.Ok->C.c f [.agg t.cells,I k] (I (YX t k)) none
def Ao.Spec:Prop:=∀s:bB,s.Ok->C.c f [.agg s.cells] (I (OR λp=>gp (s.rn p))) none
def Ap.Spec:Prop:=∀s:bB,s.Ok->C.c f [.agg s.cells] (I (OR λp=>Bl (s.rn p))) none
end
section
variable{P:Program} (hm:P.follows .mixedOrders=true) {f:Nat}
include hm
theorem Fg.ok(hc:bF P f=some vC):Fg.Spec (Pure P) f:=by
 intro t k R
 have hl:=Tb.len R
 have hr:t.cells[114]? =some (aJ Rl.cells t.bQ):=R.ln.Tx
 have M:=dC hl (hr)
 refine aq hm hc [] rfl ?_;try simp only[I,RX,↓KW,seval,vC,Z.H]
 rcases bc (decide (k<0))with L|L
 rotate_left
 ·try simp only[RX,↓KW,seval,L]
  rw[YX,ib (.inl (dT L))]
 try simp only[RX,↓KW,seval,L,M]
 rcases bc (decide (k>=((t.bQ.getD []).length:Int)))with D|D
 rotate_left
 ·try simp only[RX,↓KW,seval,D]
  rw[YX,ib (.inr (dT D))]
 have a1:=dE L
 have a2:=dE D
 obtain⟨x,V⟩:∃x,(t.bQ.getD [])[k.toNat]? =some x:=⟨_,eh aaN⟩
 have O:Ng t k.toNat=x:=by rw[Ng,ia,V];rfl
 have hy:0<=k/\k<((t.bQ.getD []).length:Int):=aaN
 have hq:x.cells.length=11/\x.cells.drop 3=I x.exit::x.cells.drop 4:=⟨rfl,rfl⟩
 try simp only[I,RX,↓KW,seval,D,V,hy,hq,M]
 rw[YX,ge aaN,O]
theorem Ao.ok{O:Nat} (hc:bF P f=some (tP O)) (hW:iD.Spec (Pure P) O):Ao.Spec (Pure P) f:=by
 intro s hs;refine aq hm hc [] rfl ?_;try simp only[I,RY,↓KW,seval,tP,Z.H]
 refine aK (λk:Nat=>(⟨[(5,.dat (I k) none),(1,.ptr 4 0),(3,.dat (I (mC (λp=>gp (s.rn p)) k)) none)],[(4,⟨s.cells,[]⟩)],[],400⟩:S)) (λk=>8-k) (λk=>k<=8) ?_ 0 aaN ?_
 ·intro k hk A back
  have L:=aD (k:=k) aaN
  try simp only[I,RY,↓KW,seval]
  rcases bc (decide ((k:Int)<8))with h|h
  ·have:k=8:=by have:=dE h;omega
   subst this;try simp only[RY,↓KW,seval]
   rfl
  ·have V:k<8:=by have:=dT h;omega
   have M:s.cells[k*12]? =some (I (s.rn k).aA):=bB.TS hs V (j:=0) aaN
   have R:mC (λp=>gp (s.rn p)) (k+1)=if gp (s.rn k)then dZ (mC (λp=>gp (s.rn p)) k) k else mC (λp=>gp (s.rn p)) k:=rfl
   have hy:0<=(k:Int)/\(k:Int)<8:=aaN
   have hg:((s.rn k).aA==1)=gp (s.rn k):=rfl
   try simp only[I,RY,↓KW,seval,hy,M]
   rw[hg]
   rcases bc (gp (s.rn k))with D|D
   ·try simp only[RY,↓KW,seval,D]
    refine back (k+1) _ aaN aaN (ai aaO ?_ ?_ ?_ ?_)<;>simp[LX,I,L,R,D]
   ·try simp only[RY,↓KW,seval,D]
    refine af (hW _ _) ?_;try simp only[I,RY,↓KW,seval]
    refine back (k+1) _ aaN aaN (ai aaO ?_ ?_ ?_ ?_)<;>simp[LX,I,L,R,D]
 ·refine ai aaO ?_ ?_ ?_ ?_<;>simp[LX,I,mC]
theorem Ap.ok{O:Nat} (hc:bF P f=some (tQ O)) (hW:iD.Spec (Pure P) O):Ap.Spec (Pure P) f:=by
 intro s hs;refine aq hm hc [] rfl ?_;try simp only[I,RY,↓KW,seval,tQ,Z.H]
 refine aK (λk:Nat=>(⟨[(5,.dat (I k) none),(1,.ptr 4 0),(3,.dat (I (mC (λp=>Bl (s.rn p)) k)) none)],[(4,⟨s.cells,[]⟩)],[],400⟩:S)) (λk=>8-k) (λk=>k<=8) ?_ 0 aaN ?_
 ·intro k hk A back
  have L:=aD (k:=k) aaN
  try simp only[I,RY,↓KW,seval]
  rcases bc (decide ((k:Int)<8))with h|h
  ·have:k=8:=by have:=dE h;omega
   subst this;try simp only[RY,↓KW,seval]
   rfl
  ·have V:k<8:=by have:=dT h;omega
   have M:s.cells[k*12+2]? =some (I (s.rn k).fst):=bB.TS hs V (j:=2) aaN
   have R:mC (λp=>Bl (s.rn p)) (k+1)=if Bl (s.rn k)then dZ (mC (λp=>Bl (s.rn p)) k) k else mC (λp=>Bl (s.rn p)) k:=rfl
   have hy:0<=(k:Int)/\(k:Int)<8:=aaN
   have hg:((s.rn k).fst==1)=Bl (s.rn k):=rfl
   try simp only[I,RY,↓KW,seval,hy,M]
   rw[hg]
   rcases bc (Bl (s.rn k))with D|D
   ·try simp only[RY,↓KW,seval,D]
    refine back (k+1) _ aaN aaN (ai aaO ?_ ?_ ?_ ?_)<;>simp[LX,I,L,R,D]
   ·try simp only[RY,↓KW,seval,D]
    refine af (hW _ _) ?_;try simp only[I,RY,↓KW,seval]
    refine back (k+1) _ aaN aaN (ai aaO ?_ ?_ ?_ ?_)<;>simp[LX,I,L,R,D]
 ·refine ai aaO ?_ ?_ ?_ ?_<;>simp[LX,I,mC]
theorem LG.ok{fG fO fE fW fA fS:Nat} (hc:bF P f=some (tR fG fO fE fW fA fS)) (hG:ry.Spec (Pure P) fG) (hO:pOn.Spec (Pure P) fO) (hE:vk.Spec (Pure P) fE) (hW:yl.Spec (Pure P) fW) (hA:Ag.Spec (Pure P) fA) (hS:iD.Spec (Pure P) fS):LG.Spec (Pure P) f:=by
 intro t r l want V hl
 have hw:=gD hl
 have al:=dw hl
 have ae:=Tb.len V
 have hp:=Tb.whole V
 have hr:r.cells.length=4/\aB r.cells 0 (some 4)=some (.agg r.cells):=⟨rfl,rfl⟩
 have L:=dC hw (dC al (dC ae (dC hp (hr))))
 refine aq hm hc [] rfl ?_;try simp only[I,RX,↓KW,seval,tR,Z.H,L]
 refine af (hG l hl) ?_
 have hg:(OR λp=>gp (aX l p))=lp l:=rfl
 rw[hg];try simp only[I,RX,↓KW,seval,L]
 refine af (hO t V.ln) ?_;try simp only[I,RX,↓KW,seval]
 obtain⟨k,hk,hi⟩:=hE (dL .i64 (lp l) (yG t))
 refine af hk ?_;try simp only[I,RX,seval]
 refine iW (λs:Int=>(⟨[(23,.dat (.fn (.func k) [] [.ref [I (dL .i64 (lp l) (yG t))]]) none),(4,.ptr 4 0),(5,.ptr 5 0),(7,.ptr 7 0),(9,.ptr 11 0),(10,.ptr 12 0)],[(4,⟨t.cells,[]⟩),(5,⟨r.cells,[]⟩),(7,⟨[I want],[]⟩),(11,⟨[I (lp l)],[]⟩),(12,⟨[I s],[]⟩)],[],400⟩:S)) (λi s=>s=((fe (dL .i64 (lp l) (yG t))).take i).foldl (prF t r l want) 0) hi rfl (iV λ_=>rfl) (λ_=>rfl) ?_ ?_ 0 rfl ?_
 ·rintro i x s ad he A back
  obtain⟨p,D,rfl⟩:=oq ad
  have D:(fe (dL .i64 (lp l) (yG t)))[i]? =some p:=D
  have h8:=lX (et D)
  have hn:=lF (f:=prF t r l want) (b:=0) D
  rw[<-he]at hn
  have ag:prF t r l want s p=if(fe (Ff l want)).any (YV t r l want p)then dZ s p else s:=rfl
  rw[ag]at hn;try simp only[I,RX,↓KW,seval,L]
  refine af (hW t p V) ?_;try simp only[I,B,RX,↓KW,seval]
  obtain⟨k2,aa,ab⟩:=hE (dW .i64 want (lp l))
  refine af aa ?_;try simp only[I,RX,seval]
  have hP:∀q:Nat,YV t r l want p q=(!(aC t p).2|| !ahE t r (aC t p).1.ring q):=λ_=>rfl
  generalize(aC t p).2=ok at*;generalize(aC t p).1=w at*
  refine iW (λz:Int=>(⟨[(36,.dat (.fn (.func k2) [] [.ref [I (dW .i64 want (lp l))]]) none),(23,.dat (.fn (.func k) [] [.ref [I (dL .i64 (lp l) (yG t))]]) none),(4,.ptr 4 0),(5,.ptr 5 0),(7,.ptr 7 0),(9,.ptr 11 0),(10,.ptr 12 0),(11,.ptr 400 0),(13,.ptr 410 0),(15,.ptr 411 0)],[(4,⟨t.cells,[]⟩),(5,⟨r.cells,[]⟩),(7,⟨[I want],[]⟩),(11,⟨[I (lp l)],[]⟩),(12,⟨[I z],[]⟩),(400,⟨[I p],[]⟩),(410,⟨[I w.ring],[]⟩),(411,⟨[B ok],[]⟩)],[],420⟩:S))
   (λj z=>z=if((fe (Ff l want)).take j).any (YV t r l want p)then dZ s p else s) ab rfl (iV λ_=>rfl) (λ_=>rfl) ?_ ?_ s aaP ?_
  ·rintro j y z am hz A2 R
   obtain⟨q,O,rfl⟩:=oq am
   have O:(fe (Ff l want))[j]? =some q:=O
   have M:=UF (f:=YV t r l want p) O
   have ac:(if((fe (Ff l want)).take (j+1)).any (YV t r l want p)then dZ s p else s)=if YV t r l want p q then dZ z p else z:=by
    rw[M,hz]
    cases((fe (Ff l want)).take j).any (YV t r l want p)<;>cases YV t r l want p q<;>simp[Nu s h8]
   have ak:=hA t r w.ring q V
   rw[hP q]at ac;clear M hz hi ab hk aa;try simp only[I,B,RX,↓KW,seval]
   repeat' (first|((first|refine af (ak) ?_|refine af (hS _ _) ?_);try simp only[I,B,RX,↓KW,seval])|(((first|refine bg ?_ ?_|refine az ?_ ?_|refine bz ?_ ?_)<;>intro h)<;>try simp only[RX,↓KW,seval,hr,L,h]))
   all_goals
    refine R _ _ ac.symm ?_
    refine ai aaO ?_ ?_ ?_ ?_<;>simp[LX,I,B, *]
  ·rintro z hz
   have M:z=((fe (dL .i64 (lp l) (yG t))).take (i+1)).foldl (prF t r l want) 0:=by
    rw[hz,hn,jp (by simp[fe,Ff])]
   try simp only[I,B,RX,seval]
   refine back _ _ M ?_
   refine ai aaO ?_ ?_ ?_ ?_<;>simp[LX,I]
  ·refine ai aaO ?_ ?_ ?_ ?_<;>simp[LX,I,B]
 ·rintro s he
  rw[jp (by simp[fe])]at he
  try simp only[I,RX,↓KW,seval]
  rw[he];rfl
 ·refine ai aaO ?_ ?_ ?_ ?_<;>simp[LX,I]
theorem LH.ok{fF fW fE:Nat} (hc:bF P f=some (Ce fF fW fE)) (hF:wJ.Spec (Pure P) fF) (hW:yl.Spec (Pure P) fW) (hE:vk.Spec (Pure P) fE):LH.Spec (Pure P) f:=by
 intro t e ht
 have ab:=Tb.len ht
 have hp:=Tb.whole ht
 have ad:∀x:gx,setCells [.int .i64 0,.int .i64 0,.int .i64 0,.bool false] 0 x.cells=x.cells:=λ_=>rfl
 have ag:setCells [.int .i64 0,.int .i64 0,.int .i64 0,.bool false] 0 [I 0,I (-1),I (-1),B false]=(⟨0,-1,-1,false⟩:gx).cells:=rfl
 have ac:∀(x:gx) (n:Int),setCells x.cells 0 [I n]=({x with group:=n}:gx).cells:=λ_ _=>rfl
 have ae:∀x:gx,x.cells.length=4/\aB x.cells 0 (some 4)=some (.agg x.cells)/\x.cells[0]? =some (I x.group):=λ_=>⟨rfl,rfl,rfl⟩
 have D:=dC ab (dC hp (dC ae (dC ad (dC ag (ac)))))
 refine aq hm hc [] rfl ?_;try simp only[I,RY,↓KW,seval,Ce,Z.H,D]
 refine af (hF e) ?_;try simp only[I,RY,↓KW,seval,D]
 refine af (hW t (Af e) ht) ?_;try simp only[I,B,RY,↓KW,seval,D]
 obtain⟨k,hk,hi⟩:=hE e;refine af hk ?_;try simp only[I,RY,seval,D]
 refine iW (λx:gx=>(⟨[(24,.dat (.fn (.func k) [] [.ref [I e]]) none),(2,.ptr 4 0),(4,.ptr 5 0),(5,.ptr 8 0)],[(4,⟨t.cells,[]⟩),(5,⟨[.int .i64 0,.int .i64 0,.int .i64 0,.bool false],[]⟩),(8,⟨x.cells,[]⟩)],[],400⟩:S)) (λi x=>x=((fe e).take i).foldl (Wc t) ⟨(aC t (Af e)).1.group,-1,-1,false⟩) hi rfl (iV λ_=>rfl) (λ_=>rfl) ?_ ?_ ⟨(aC t (Af e)).1.group,-1,-1,false⟩ rfl ?_
 ·rintro i y x ak V A back
  obtain⟨p,M,rfl⟩:=oq ak
  have M:(fe e)[i]? =some p:=M
  have R:=lF (f:=Wc t) (b:=⟨(aC t (Af e)).1.group,-1,-1,false⟩) M
  rw[<-V]at R
  have hP:Wc t x p=if(aC t p).2&&((aC t p).1.group==x.group&&decide (x.at (aC t p).1.ring<0))then x.put (aC t p).1.ring (aC t p).1.pos else x:=rfl
  rw[hP]at R
  have am:=lN (t:=t) (q:=p)
  try simp only[I,RY,↓KW,seval,D]
  refine af (hW t p ht) ?_;generalize(aC t p).2=ok at*;generalize(aC t p).1=w at*;try simp only[I,B,RY,↓KW,seval]
  rcases bc ok with O|O
  ·try simp only[RY,↓KW,seval,O]
   refine back x _ (by rw[R,O];rfl) ?_
   refine ai aaO ?_ ?_ ?_ ?_<;>simp[LX,I]
  have hy:=am O
  have L:x.cells[1+w.ring.toNat]? =some (I (x.at w.ring)):=by
   have:w.ring=0\/w.ring=1:=aaN
   rcases this with e|e<;>rw[e]<;>rfl
  obtain⟨q,hq⟩:∃q:Nat,w.ring=q:=⟨w.ring.toNat,aaN⟩
  have al:=x.UD (k:=q) aaN w.pos
  rw[hq]at L R
  have L:x.cells[1+q]? =some (I (x.at q)):=L
  have aa:0<=(q:Int)/\(q:Int)<2:=aaN
  try simp only[I,RY,↓KW,seval,O,hq,D]
  clear V hP
  repeat' (((first|refine bg ?_ ?_|refine az ?_ ?_|refine bz ?_ ?_)<;>intro h)<;>try simp only[I,RY,↓KW,seval,aa,L,al,D,h])
  all_goals
   try refine⟨aaN,?_⟩
   refine back _ _ R.symm ?_
   refine ai aaO ?_ ?_ ?_ ?_<;>simp[LX,I, *]
 ·rintro x V
  rw[jp (by simp[fe])]at V
  try simp only[I,RY,↓KW,seval,D]
  rw[V];rfl
 ·refine ai aaO ?_ ?_ ?_ ?_<;>simp[LX,I]
theorem YY.ok{fB:Nat} (hc:bF P f=some (tO fB)) (hB:Aj.Spec (Pure P) fB):CW.Spec (Pure P) f:=by
 intro t ht
 have hl:=ht.len
 have ag:dA.length=117:=rfl
 have ad:List.take 96 dA++[I 0,I (-1),I (-1),B false]++List.drop 100 dA=({mq t 0 with rings:=⟨0,-1,-1,false⟩}:bB).cells:=rfl
 have L:∀k,({mq t k with rings:=⟨0,-1,-1,false⟩}:bB).Ok:=λk=>⟨(TU t k).runs,rfl,rfl⟩
 have aa:∀k,setCells dA 0 ({mq t k with rings:=⟨0,-1,-1,false⟩}:bB).cells=({mq t k with rings:=⟨0,-1,-1,false⟩}:bB).cells:=λk=>bp (by rw[bB.len (L k)];rfl)
 have ac:=λk=>bB.len (L k)
 have V:=λk=>bB.whole (L k)
 have D:=dC hl (dC ag (dC ad (dC aa (dC ac (V)))))
 refine aq hm hc [] rfl ?_;try simp only[RY,↓KW,seval,tO,Z.H,D]
 refine aK (λk:Nat=>(⟨[(8,.dat (I k) none),(1,.ptr 4 0),(2,.ptr 5 0),(3,.ptr 9 0)],[(4,⟨t.cells,[]⟩),(5,⟨dA,[]⟩),(9,⟨({mq t k with rings:=⟨0,-1,-1,false⟩}:bB).cells,[]⟩)],[],400⟩:S)) (λk=>8-k) (λk=>k<=8) ?_ 0 aaN ?_
 ·intro k hk A back
  have hw:=aD (k:=k) aaN
  try simp only[I,RY,↓KW,seval]
  rcases bc (decide ((k:Int)<8))with O|O
  ·have:k=8:=by have:=dE O;omega
   subst this;try simp only[RY,↓KW,seval,D]
   rfl
  ·have M:k<8:=by have:=dT O;omega
   have hx:0<=(k:Int)/\(k:Int)<8:=aaN
   have ab:=Tb.od (ht.vh M)
   have R:=bB.aae (L k) M (EG (aV t k))
   have ae:({mq t k with runs:=(mq t k).runs.set k (EG (aV t k)),rings:=⟨0,-1,-1,false⟩}:bB)={mq t (k+1)with rings:=⟨0,-1,-1,false⟩}:=by rw[<-Nf t M]
   simp only at R;rw[ae]at R;try simp only[RY,↓KW,seval,hx,ab]
   refine af (hB _) ?_;try simp only[RY,↓KW,seval,hx,R,Rn.len,D]
   refine⟨aaN,back (k+1) _ aaN aaN ?_⟩
   refine ai aaO ?_ ?_ ?_ ?_<;>simp[LX,I,hw]
 ·refine ai aaO ?_ ?_ ?_ ?_<;>simp[LX,I]
end
open Ieee
set_option exponentiation.threshold 4000
def rk(x:Nat):Int:=if x<2^63 then(x:Int)else -((x:Int)-(2^63:Nat))-1
def fv:Option Nat->AV
 |none=>.fc
 |some n=>Fl n
theorem UG:jc .fc=.dat .fc none:=rfl
section
open Z
def Hu:List AV:=(⟨_,by conv=>lhs;cbv⟩:bT (Oz [(4,16)])).1
def mW(g0 g1 Z g3 O D:Nat):bE:=⟨200,[.tmp 4],r [V 4 .aU] (r [V 5 .aU] (r [o 6 (.alloc Hu)] (r [V 7 (i 16)] (r [o 18 (.build [.aU,i 0,i 0,i 0,i 0,F] []),o 8 (.alloc [.aU,i 0,i 0,i 0,i 0,F]),n (s 8 18 6)] (j (r [V 9 (i 0)] (u 0 (.loop (j (r [M 19 9,M 20 0,o 21 (h 20),o 22 (b .lss 19 21),M 23 22,p 24 (m 9) 23,p 25 (bb .lss 24 (i 120)) 23,o 26 (P 23 25),M 27 26,p 28 (m 5) 27,p 29 (h 28) 27,p 30 (bb .lss 29 (i 1500)) 27,o 31 (P 27 30)] (c 31 z (.exit 0))) (j (u 1 (r [M 34 0,M 35 9,o 36 (a 34 35 1),o 37 (l 36),o 38 (.call g0 [t 37,k (i 1099511627776)]),M 10 38] (r [M 39 10,o 40 (bb .quo 39 (i 16)),o 41 (bb .rem 40 (i 64)),M 11 41] (r [M 42 10,o 43 (bb .quo 42 (i 1024)),o 44 (bb .rem 43 (i 30)),o 45 (.bin .add (k (i 1)) (t 44)),M 12 45] (r [o 46 (.build [.aU,i 0,i 0,i 0,i 0,F] []),o 13 (.alloc [.aU,i 0,i 0,i 0,i 0,F]),n (s 13 46 6)] (j (r [M 47 10,o 48 (bb .rem 47 (i 16))] (u 2 (j (r [o 50 (bb .eql 48 (i 0)),M 49 50] (c 49 z (r [o 51 (bb .eql 48 (i 1)),M 49 51] (c 49 z (R [o 52 (bb .eql 48 (i 2)),M 49 52]))))) (c 49 (R [M 53 11,o 54 (bb .rem 53 (i 16)),M 55 11,o 56 (bb .rem 55 (i 16)),o 57 (A 6 56 16 1),o 58 (l 57),o 59 (.bin .sub (k (.float .f64 4626322717216342016)) (t 58)),o 60 (A 6 54 16 1),n (s 60 59 1)]) (r [o 62 (bb .eql 48 (i 3)),M 61 62] (c 61 (R [M 63 11,o 64 (bb .rem 63 (i 16)),o 65 (.call g1 []),o 66 (.call Z [k (i 1)]),o 67 (.call g3 [k (.float .f64 0),k (.float .f64 13830554455654793216)]),o 68 (.build [.float .f64 0,.float .f64 0,.float .f64 0,.float .f64 0,.float .f64 0,.float .f64 0] [(0,1,t 65),(1,1,t 66),(2,1,t 67),(3,1,k (.float .f64 4613937818241073152)),(4,1,k (.float .f64 4711630319722168320)),(5,1,k (.float .f64 4604930618986332160))]),M 69 11,o 70 (bb .rem 69 (i 6)),o 71 (.GC (t 68) (t 70) 6 1 none),o 72 (A 6 64 16 1),n (s 72 71 1)]) (j (r [o 74 (bb .eql 48 (i 4)),M 73 74] (c 73 z (R [o 75 (bb .eql 48 (i 5)),M 73 75]))) (c 73 (R [M 76 10,o 77 (bb .quo 76 (i 1024)),o 78 (bb .rem 77 (i 256)),o 79 (f 13 1),n (s 79 78 1)]) (r [o 81 (bb .eql 48 (i 6)),M 80 81] (c 80 (R [o 82 (f 8 2),o 83 (l 82),M 84 11,o 85 (bb .rem 84 (i 4)),o 86 (.qi .u64 (t 85)),o 87 (.bin .shl (k (i 1)) (t 86)),o 88 (b .xor 83 87),o 89 (f 8 2),n (s 89 88 1)]) (r [o 91 (bb .eql 48 (i 7)),M 90 91] (c 90 (R [M 92 11,o 93 (bb .rem 92 (i 4)),o 94 (.qi .u64 (t 93)),o 95 (.bin .shl (k (i 1)) (t 94)),o 96 (f 13 3),n (s 96 95 1)]) (r [o 98 (bb .eql 48 (i 8)),M 97 98] (c 97 (R [o 99 (f 8 3),o 100 (l 99),M 101 11,o 102 (bb .rem 101 (i 4)),o 103 (.qi .u64 (t 102)),o 104 (.bin .shl (k (i 1)) (t 103)),o 105 (b .xor 100 104),o 106 (f 8 3),n (s 106 105 1)]) (r [o 108 (bb .eql 48 (i 9)),M 107 108] (c 107 (R [M 109 12,o 110 (bb .mul 109 (i 6)),M 12 110]) (r [o 112 (bb .eql 48 (i 10)),M 111 112] (c 111 (r [V 14 (i 0)] (u 3 (.loop (j (r [M 113 14,o 114 (bb .lss 113 (i 16))] (c 114 z (.exit 3))) (j (u 4 (R [M 117 14,M 118 11,o 119 (bb .rem 118 (i 2)),o 120 (bb .mul 119 (i 20)),o 121 (.Gi .f64 (t 120)),o 122 (A 6 117 16 1),n (s 122 121 1)])) (R [M 115 14,o 116 (bb .add 115 (i 1)),M 14 116])))))) (r [o 124 (bb .eql 48 (i 11)),M 123 124] (c 123 (R [M 125 11,o 126 (bb .rem 125 (i 17)),M 7 126]) (r [o 128 (bb .eql 48 (i 12)),M 127 128] (c 127 (r [o 129 (f 8 3),n (ss 129 (i 0) 1)] (R [V 7 (i 16)])) (r [o 131 (bb .eql 48 (i 13)),M 130 131] (c 130 (j (r [M 132 1,M 133 132,p 134 (m 11) 133,p 135 (bb .rem 134 (i 4)) 133,p 136 (bb .eql 135 (i 0)) 133,o 137 (P 133 136)] (c 137 (R [M 138 11,o 139 (.qi .u64 (t 138)),o 140 (.bin .shl (k (i 256)) (t 139)),o 141 (f 13 1),n (s 141 140 1)]) z)) (j (r [M 142 1,M 143 142,p 144 (m 11) 143,p 145 (bb .rem 144 (i 4)) 143,p 146 (bb .eql 145 (i 1)) 143,o 147 (P 143 146)] (c 147 (R [M 148 10,o 149 (bb .quo 148 (i 1024)),o 150 (bb .rem 149 (i 256)),o 151 (f 13 4),n (s 151 150 1)]) z)) (R [M 152 1,M 153 152,p 154 (m 11) 153,p 155 (bb .rem 154 (i 2)) 153,p 156 (bb .eql 155 (i 0)) 153,o 157 (P 153 156),o 158 (f 13 5),n (s 158 157 1)]))) z)))))))))))))))))))))))) (r [M 159 7,o 160 (.ZT (t 6) 16 1 (t 159)),o 161 (.Dm O 1 8 (t 160) (t 6)),M 15 161] (r [V 16 (i 0)] (u 5 (.loop (j (r [M 162 16,M 163 12,o 164 (b .lss 162 163),M 165 164,p 166 (m 5) 165,p 167 (h 166) 165,p 168 (bb .lss 167 (i 1500)) 165,o 169 (P 165 168)] (c 169 z (.exit 5))) (j (u 6 (r [M 172 15,o 173 (f 8 2),o 174 (l 173),o 175 (f 8 3),o 176 (l 175),o 177 (.build [.aU,i 0,i 0,i 0,i 0,F] [(0,1,t 172),(2,1,t 174),(3,1,t 176)]),o 17 (.alloc [.aU,i 0,i 0,i 0,i 0,F]),n (s 17 177 6)] (j (r [M 178 16,o 179 (bb .eql 178 (i 0))] (c 179 (r [o 180 (f 13 1),o 181 (l 180),o 182 (f 17 1),n (s 182 181 1)] (r [o 183 (f 13 4),o 184 (l 183),o 185 (f 17 4),n (s 185 184 1)] (r [o 186 (f 17 3),o 187 (l 186),o 188 (f 13 3),o 189 (l 188),o 190 (b .or 187 189),o 191 (f 17 3),n (s 191 190 1)] (R [o 192 (f 13 5),o 193 (l 192),o 194 (f 17 5),n (s 194 193 1)])))) z)) (R [M 195 5,o 196 (L 17 6),o 197 (.RG D 6 [t 196]),o 198 (.app D 6 64 (t 195) (t 197)),M 5 198])))) (R [M 170 16,o 171 (bb .add 170 (i 1)),M 16 171]))))))))))))) (R [M 32 9,o 33 (bb .add 32 (i 1)),M 9 33])))))) (r [M 199 5,M 4 199] y))))))⟩
def oB(D:Nat):bE:=(⟨_,by conv=>lhs;cbv⟩:bT (cH 45 [.tmp 4] [D] [] 0x284050a382104c86d74179f4a05ae82f2e1403428e92cfe418dfdc85e7d28811bfb90bcb8500d0a39cb3fc0637f6a179f4a8046fed42f2e1403428e52cfec18dfd905e7d29811bfb20bcb8500d0a38cb3fa0637f60179f4a4046fec02f2e14020e601784831300bc24108a45e130b405b30 [] [] [.eqc [.i,.i,.i,.i,.i,.i,.i,.b,.b,.i,.i,.i,.i,.i,.i,.i,.i,.i,.i,.b,.b,.i,.i,.i,.i,.i,.i,.i,.i,.i,.i,.b,.b,.i,.i,.i,.i,.i,.i,.i,.i,.i,.i,.b,.b,.i,.i,.i,.i,.i,.i,.i,.i,.i,.i,.b,.b,.i,.i,.i,.i,.i,.i,.i,.i,.i,.i,.b,.b,.i,.i,.i,.i,.i,.i,.i,.i,.i,.i,.b,.b,.i,.i,.i,.i,.i,.i,.i,.i,.i,.i,.b,.b,.i,.i,.i] false (.t 6) (.t 8),.eqc [.i,.i,.i,.b] false (.t 12) (.t 14),.eqc [.i,.i,.i,.i,.i,.i] false (.t 19) (.t 21),.eqc [.i,.i,.i,.i,.i,.i,.i,.i] false (.t 26) (.t 28),.eqc [.i,.i] false (.t 33) (.t 35)])).1
def Cq:bE:=(⟨_,by conv=>lhs;cbv⟩:bT (cH 2 [.tmp 0] [] [] 0x50000710060810 [] [.float .f64 0] [.xt .ffrom (.k (.int .u64 9221120237041090561))])).1
def Cr:bE:=(⟨_,by conv=>lhs;cbv⟩:bT (cH 8 [.tmp 2] [] [0] 0x141001c1806079a044b34088201010178d8480c7608064810 [] [.float .f64 0,.int .u64 0,.int .u64 9218868437227405312,.int .u64 18442240474082181120] [.xt .ffrom (.t 6)])).1
def rz:bE:=(⟨_,by conv=>lhs;cbv⟩:bT (cH 13 [.tmp 4] [] [] 0x284013819863c1462ec11e1030740c8068810 [] [.float .f64 0,.int .u64 9223372036854775808] [.xt .JM (.t 5),.xt .JM (.t 8),.xt .ffrom (.t 11)])).1
def lq:bE:=(⟨_,by conv=>lhs;cbv⟩:bT (cH 26 [.tmp 4] [] [0,1] 0xaa20402804800d7f87c062cb22040101ce12e0555e11e1709702aaf087111782405cc258101346140e1160403807018206cb2204010130614c10a460281c8810 [] [] [.eqc [.b,.i,.i,.i,.i,.i,.b] true (.t 20) (.t 24)])).1
end
section
variable (C:aQ) (d:zh) (c:Ch) (f:Nat) (x:Option Nat)
def akq(x:Nat):Bool:=RC x 13920209183539462144&&QM x 4696837146684686336
def lvN(on:Bool) (cJ:Int) (x:Nat):Bool×Int:=
 if akq x then(if RC x d.on then(true,0)else if QM x d.off then(false,0)else(on,0))else(on,bM cJ)
def LI(on:Bool) (cJ:Int):Option Nat->Bool×Int
 |some x=>lvN d on cJ x
 |none=>(on,bM cJ)
def Ct(on:Bool) (cJ:Int):Bool:=on||decide (cJ>=3)
def dgE(Wa Gs:Int) (b:Bool):Int×Int:=if b then(bM Wa,0)else(0,bM Gs)
def YZ(a b Wa Gs:Int):Bool:=(decide (a>0)&&decide (Wa>=a))||(decide (b>0)&&decide (Gs>=b))
def c9(n:Int):Int:=gN n 0 9999
def Y0(delay extend held tail:Int) (out b:Bool):Int×Int×Bool:=
 if !b&&(held==0&&(tail==0&&out==false))then(held,tail,out)
 else if(if b then bM held else 0)>c9 delay then((if b then bM held else 0),c9 extend,true)
 else if out&&decide (c9 tail>0)then((if b then bM held else 0),c9 tail-1,true)
 else((if b then bM held else 0),0,false)
def Nv(x:Nat):Int:=if V9 x then(tk x:Int)else 0
def Nw:Ch :=
  ⟨(LI d c.on c.cJ x).1,(LI d c.on c.cJ x).2,(dgE c.Wa c.Gs (Ct (LI d c.on c.cJ x).1 (LI d c.on c.cJ x).2)).1,(dgE c.Wa c.Gs (Ct (LI d c.on c.cJ x).1 (LI d c.on c.cJ x).2)).2,
   (Y0 (Nv d.delay) (Nv d.extend) c.held c.tail c.out (Ct (LI d c.on c.cJ x).1 (LI d c.on c.cJ x).2)).1,(Y0 (Nv d.delay) (Nv d.extend) c.held c.tail c.out (Ct (LI d c.on c.cJ x).1 (LI d c.on c.cJ x).2)).2.1,(Y0 (Nv d.delay) (Nv d.extend) c.held c.tail c.out (Ct (LI d c.on c.cJ x).1 (LI d c.on c.cJ x).2)).2.2⟩
def akr:Nat:=9221120237041090561
def Fh(l:List Ch) (k:Nat):Ch:=l.getD k default
def LJ(l:List (Option Nat)) (k:Nat):Option Nat:=l.getD k none
def pL(t:Tb) (l:List Ch) (x:List (Option Nat)) (n:Nat):List Ch:=(List.range n).map λk=>Nw (K3 t k) (Fh l k) (LJ x k)
def jF:List AV:=[fv x]
def Hv:Bool:=c.out||(decide (c.cJ>=3)||YZ d.maxOn d.uO c.Wa c.Gs)
def kK(t:Tb) (l:List Ch):Nat->Int
 |0=>0
 |k+1=>if Hv (K3 t k) (Fh l k)then dZ (kK t l k) (K3 t k).phase else kK t l k
def vI.Spec:Prop:=∀n:Int,C.c f [I n] (I (bM n)) none
def Fi.Spec:Prop:=∀(d:zh) (on:Bool) (cJ:Int) (x:Option Nat),C.c f [.agg d.cells,.agg [B on,I cJ],fv x] (.agg [B (LI d on cJ x).1,I (LI d on cJ x).2]) none
def Bp.Spec:Prop:=∀(on:Bool) (cJ:Int),C.c f [.agg [B on,I cJ]] (B (decide (cJ>=3))) none
def Fj.Spec:Prop:=∀(on:Bool) (cJ:Int),C.c f [.agg [B on,I cJ]] (B (Ct on cJ)) none
def Fk.Spec:Prop:=∀(a b:Int) (x:Bool),C.c f [.agg [I a,I b],B x] (.agg [I (dgE a b x).1,I (dgE a b x).2]) none
def Aq.Spec:Prop:=∀(a b x y:Int),C.c f [I a,I b,.agg [I x,I y]] (B (YZ a b x y)) none
def LK.Spec:Prop:=∀n:Int,C.c f [I n] (I (c9 n)) none
def Fp.Spec:Prop:=∀(a b held tail:Int) (out x:Bool),C.c f [I a,I b,.agg [I held,I tail,B out],B x] (.agg [I (Y0 a b held tail out x).1,I (Y0 a b held tail out x).2.1,B (Y0 a b held tail out x).2.2]) none
def LL.Spec:Prop:=∀(l:Option (List Ch)) (k:Nat),(l.getD []).length<=1000000->C.c f [aJ Ch.cells l,I k,.agg (Ch.cells default)] (.agg (Fh (l.getD []) k).cells) none
def LM.Spec:Prop:=∀(l:Option (List (Option Nat))) (k:Nat),(l.getD []).length<=1000000->C.c f [aJ jF l,I k,.fc] (fv (LJ (l.getD []) k)) none
def Ar.Spec:Prop:=∀x:Nat,x<2^64->C.c f [Fl x] (I (Nv x)) none
def Ra.Spec:Prop:=C.c f [] .fc none
end
section
variable{P:Program} (hm:P.follows .mixedOrders=true) {f:Nat}
include hm
theorem vI.ok(L:bF P f=some xA):vI.Spec (Pure P) f:=by
 intro n
 have D:=UC n
 refine aq hm L [] rfl ?_;try simp only[I,RX,↓KW,seval,xA,Z.H]
 rw[D];rfl
theorem adP.ok(L:bF P f=some Aa):vI.Spec (Pure P) f:=by
 intro n
 have D:=UC n
 refine aq hm L [] rfl ?_;try simp only[I,RX,↓KW,seval,Aa,Z.H]
 rw[D];rfl
theorem LK.ok(L:bF P f=some Ab):LK.Spec (Pure P) f:=by
 intro n
 have D:=UC n
 refine aq hm L [] rfl ?_;try simp only[I,RX,↓KW,seval,Ab,Z.H]
 rw[D];rfl
theorem Ra.ok(D:bF P f=some Cq):Ra.Spec (Pure P) f:=by
 show(Pure P).c f [] .fc none
 refine acP (n:=akr) (by decide+kernel) ?_
 refine aq hm D [] rfl ?_;try simp only[RX,↓KW,seval,Cq,Z.H]
 all_goals rfl
theorem Ar.ok{D:Nat} (L:bF P f=some (tS D)) (hS:Ev.Spec (Pure P) D):Ar.Spec (Pure P) f:=by
 intro x M;refine aq hm L [] rfl ?_;try simp only[I,RX,↓KW,seval,tS,Z.H]
 refine af (hS x M) ?_;try simp only[I,B,RX,↓KW,seval,QS]
 rfl
theorem Bp.ok(D:bF P f=some tT):Bp.Spec (Pure P) f:=by
 intro on cJ;refine aq hm D [] rfl ?_;try simp only[I,B,RX,↓KW,seval,tT,Z.H]
 try rfl
theorem Fj.ok{D:Nat} (L:bF P f=some (xu D)) (hF:Bp.Spec (Pure P) D):Fj.Spec (Pure P) f:=by
 intro on cJ;refine aq hm L [] rfl ?_;try simp only[I,B,RX,↓KW,seval,xu,Z.H]
 cases on
 ·try simp only[RX,↓KW,seval]
  refine af (hF false cJ) ?_;try simp only[B,RX,↓KW,seval]
  simp[Ct]
 ·try simp only[RX,↓KW,seval]
  simp[Ct]
theorem Fi.ok{O:Nat} (hc:bF P f=some (qb O)) (V:vI.Spec (Pure P) O):Fi.Spec (Pure P) f:=by
 intro d on cJ x
 have R:d.cells[1]? =some (Fl d.on)/\d.cells[2]? =some (Fl d.off):=⟨rfl,rfl⟩
 cases x with
 |none=>
  have hE:LI d on cJ none=(on,bM cJ):=rfl
  rw[hE]
  show(Pure P).c f [.agg d.cells,.agg [B on,I cJ],.fc] _ none
  refine aq hm hc [] rfl ?_;try simp only[I,B,RX,↓KW,seval,qb,Z.H,NAN,UG]
  refine af (V _) ?_;try simp only[I,RX,↓KW,seval]
 |some x=>
  show(Pure P).c f [.agg d.cells,.agg [B on,I cJ],Fl x] _ none
  have hE:LI d on cJ (some x)=if RC x 13920209183539462144&&QM x 4696837146684686336 then(if RC x d.on then(true,0)else if QM x d.off then(false,0)else(on,0))else(on,bM cJ):=rfl
  generalize LI d on cJ (some x)=res at*;refine aq hm hc [] rfl ?_;try simp only[I,B,RX,↓KW,seval,qb,Z.H,FLW]
  cases h1:RC x 13920209183539462144<;>cases L:QM x 4696837146684686336<;>cases M:RC x d.on<;>cases h4:QM x d.off<;>rw[h1,L,M,h4]at hE
  all_goals try simp only[RX,↓KW,seval,L,M,h4,FLW,R]
  all_goals try simp only[I,B,D,RX,↓KW,seval,h1,L,M,h4,FLW,R]
  all_goals(try(refine af (V _) ?_))
  all_goals try simp only[I,RX,↓KW,seval]
  all_goals(rw[hE];rfl)
theorem Fk.ok{L:Nat} (M:bF P f=some (zY L)) (D:vI.Spec (Pure P) L):Fk.Spec (Pure P) f:=by
 intro a b x;refine aq hm M [] rfl ?_;try simp only[I,B,RX,↓KW,seval,zY,Z.H]
 cases x
 ·try simp only[RX,↓KW,seval]
  refine af (D _) ?_;try simp only[I,RX,↓KW,seval]
  rfl
 ·try simp only[RX,↓KW,seval]
  refine af (D _) ?_;try simp only[I,RX,↓KW,seval]
  rfl
theorem Aq.ok(R:bF P f=some xx):Aq.Spec (Pure P) f:=by
 intro a b x y;refine aq hm R [] rfl ?_;try simp only[I,B,RX,↓KW,seval,xx,Z.H]
 cases O:decide (a>0)<;>cases L:decide (x>=a)<;>cases M:decide (b>0)<;>cases h4:decide (y>=b)<;>
 (try simp only[RX,↓KW,seval,L,M,h4];try(try simp only[I,B,D,RX,↓KW,seval,O,L,M,h4]);simp[YZ,O,L,M,h4])
end
end Go.Eng
