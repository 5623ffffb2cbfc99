/- The engine and the library,part 15 of 18: what the proofs of this seat need of them. -/
import Derived.Test.YtdhlkekmkollhaaGreatPk14
set_option linter.unnecessarySimpa false
set_option linter.unusedSimpArgs false
set_option linter.unusedVariables false
set_option linter.defProp false
set_option maxRecDepth 10000
set_option maxHeartbeats 4000000
namespace Go.Eng
open Go
structure Cu where
 start:Bool
 fin:Bool
 here:Bool
 push:Bool
 cN:Bool
 hold:Bool
 early:Bool
 cut:Bool
 deriving Inhabited,DecidableEq
def Cu.cells (c:Cu):List AV:=[B c.start,B c.fin,B c.here,B c.push,B c.cN,B c.hold,B c.early,B c.cut]
def F8 (p:Ph) (st time:Int) (begin':Bool):Int × Int :=
 if st == 1 && decide (time ≥ p.walk) then (2,1) else if st == 2 && decide (time ≥ p.dG) then (0,0) else if st == 1 || st == 2 then (st,bD time)
 else if begin' && decide (p.walk > 0) then (1,1) else (0,0)
def Km (st time:Int):Int × Int:=if st == 1 then (2,1) else (st,time)
def KA (p:Ph) (left:Int) (here:Bool):Int:=if here then p.Nk else if left > 9999 then 9998 else if left > 0 then left - 1 else 0
def Ez (p:Ph) (x:Int):Int:=if p.max > (if p.top < x then p.top else x) then p.max else (if p.top < x then p.top else x)
def Wv (a b:Int):Int:=if decide (b > 0) && decide (a > IntKind.i64.wrap (9223372036854775807 - b)) then 9223372036854775807 else if decide (b < 0) && decide (a < IntKind.i64.wrap (-9223372036854775808 - b)) then -9223372036854775808 else IntKind.i64.wrap (a + b)
def Ww (a b:Int):Int:=if decide (b > 0) && decide (a < IntKind.i64.wrap (-9223372036854775808 + b)) then -9223372036854775808 else if decide (b < 0) && decide (a > IntKind.i64.wrap (9223372036854775807 + b)) then 9223372036854775807 else IntKind.i64.wrap (a - b)
structure Tr where
 limit:Int
 up:Int
 down:Int
 deriving Inhabited,DecidableEq
def Tr.cells (x:Tr):List AV:=[I x.limit,I x.up,I x.down]
def SS (n:Int):Int:=(if 1 < (if 0 > n then 0 else n) then 1 else (if 0 > n then 0 else n)) + 1
def Tp (p:Ph) (x:Tr) (kg:Bool):Tr:=if kg then ⟨Ez p x.limit,SS x.up,0⟩ else ⟨Ez p x.limit,0,SS x.down⟩
def Tq (p:Ph) (x:Tr):Tr:=if x.up == 2 then ⟨Wv x.limit p.step,0,x.down⟩ else if x.down == 2 then ⟨Ww x.limit p.step,x.up,0⟩ else x
def Qg (p:Ph) (x:Tr) (kg:Bool):Tr:={ Tq p (Tp p x kg) with limit:=Ez p (Tq p (Tp p x kg)).limit }
def eZ (st:Int):Bool:=st == 1 || st == 2
def xd (r:Rn) (ax time:Int):Rn:=⟨ax,time,0,0,0,0,0,false,false,r.limit,r.up,r.down⟩
def EA (p:Ph) (r:Rn) (c:Cu):Int × Int:=if c.cut && r.fst == 1 then Km r.fst r.bw else F8 p r.fst r.bw (c.push && !c.cN)
def bH (p:Ph) (r:Rn) (c:Cu):Bool:=!eZ r.fst && (EA p r c).1 == 1
def iD (p:Ph) (r:Rn) (c:Cu):Rn :=
 ⟨1,bD r.time,(EA p r c).1,(EA p r c).2,KA p r.left c.here,if c.cN then bD r.jQ else r.jQ,r.extra,if bH p r c then false else r.done,if bH p r c then false else r.kg,r.limit,r.up,r.down⟩
def bQ (p:Ph) (r:Rn):Bool:=decide (r.jQ ≥ Ez p r.limit)
def c8 (p:Ph) (r:Rn) (c:Cu):Bool:=(((c.cN && !r.done) && decide (r.time ≥ p.min)) && !eZ r.fst) && ((r.left == 0 || bQ p r) || c.early)
def j0 (p:Ph) (r:Rn) (c:Cu):Rn :=
 if c.fin then (if r.done then { xd r 2 1 with limit:=(Qg p ⟨r.limit,r.up,r.down⟩ r.kg).limit,up:=(Qg p ⟨r.limit,r.up,r.down⟩ r.kg).up,down:=(Qg p ⟨r.limit,r.up,r.down⟩ r.kg).down } else xd r 2 1)
 else if c8 p (iD p r c) c && c.hold then { iD p r c with extra:=bD (iD p r c).extra }
 else if c8 p (iD p r c) c then { iD p r c with done:=true,kg:=decide ((iD p r c).left > 0) && bQ p (iD p r c) } else iD p r c
def F9 (p:Ph) (r:Rn) (c:Cu):Rn:=if c.start then { xd r 1 1 with fst:=(F8 p 0 0 c.push).1,bw:=(F8 p 0 0 c.push).2,left:=p.Nk } else xd r 0 (bD r.time)
def rA (p:Ph) (r:Rn):Rn:=if r.time < p.cB then xd r 2 (bD r.time) else if p.red > 0 then xd r 3 1 else xd r 0 1
def yp (p:Ph) (r:Rn):Rn:=if r.time < p.red then xd r 3 (bD r.time) else xd r 0 1
def de (p:Ph) (r:Rn) (c:Cu):Rn:=if r.ax == 1 then j0 p r c else if r.ax == 2 then rA p r else if r.ax == 3 then yp p r else F9 p r c
def vA (p:Ph) (r:Rn) (c:Cu):Bool:=if r.ax != 1 || c.fin || !c.hold then false else c8 p (iD p r c) c
def dO (p:Ph) (r:Rn) (c:Cu):List AV:=p.cells++(r.cells++c.cells)
def Bw.Spec (C:aZ) (f:Nat):Prop:=∀ p:Ph,C.c f [.agg p.cells] (.agg (Tr.cells ⟨p.max,0,0⟩)) none
def vB.Spec (C:aZ) (f:Nat):Prop:=∀ (p:Ph) (x:Tr),C.c f [.agg p.cells,.agg x.cells] (I (Ez p x.limit)) none
def Ga.Spec (C:aZ) (f:Nat):Prop:=∀ (p:Ph) (left:Int) (here:Bool),C.c f [.agg p.cells,I left,B here] (I (KA p left here)) none
def Gb.Spec (C:aZ) (f:Nat):Prop:=∀ a b:Int,C.c f [I a,I b] (I (Wv a b)) none
def Bx.Spec (C:aZ) (f:Nat):Prop:=∀ a b:Int,C.c f [I a,I b] (I (Ww a b)) none
def Gc.Spec (C:aZ) (f:Nat):Prop:=∀ (p:Ph) (x:Tr) (kg:Bool),C.c f [.agg p.cells,.agg x.cells,B kg] (.agg (Qg p x kg).cells) none
def uj.Spec (C:aZ) (f:Nat):Prop:=∀ (p:Ph) (st time:Int) (b:Bool),C.c f [.agg p.cells,.agg [I st,I time],B b] (.agg [I (F8 p st time b).1,I (F8 p st time b).2]) none
def By.Spec (C:aZ) (f:Nat):Prop:=∀ (st time:Int),C.c f [.agg [I st,I time]] (.agg [I (Km st time).1,I (Km st time).2]) none
def mA.Spec (C:aZ) (f:Nat):Prop:=∀ n:Int,C.c f [I n] (I (bD n)) none
def xe.Spec (C:aZ) (f:Nat):Prop:=∀ st time:Int,C.c f [.agg [I st,I time]] (B (eZ st)) none
def xg.Spec (C:aZ) (f:Nat):Prop:=∀ p:Ph,C.c f [.agg p.cells] (.agg (Ba p).cells) none
def Gd.Spec (C:aZ) (f:Nat):Prop:=∀ (p:Ph) (r:Rn) (c:Cu) (a b:Int),C.c f [.agg (dO p r c),I a,I b] (.agg (xd r a b).cells) none
def Ge.Spec (C:aZ) (f:Nat):Prop:=∀ (p:Ph) (r:Rn) (c:Cu),C.c f [.agg (dO p r c)] (.agg (F9 p r c).cells) none
def yq.Spec (C:aZ) (f:Nat):Prop:=∀ (p:Ph) (r:Rn) (c:Cu),C.c f [.agg (dO p r c)] (.cQ [.agg (iD p r c).cells,B (c8 p (iD p r c) c)]) none
def xh.Spec (C:aZ) (f:Nat):Prop:=∀ (p:Ph) (r:Rn) (c:Cu),C.c f [.agg (dO p r c)] (.agg (j0 p r c).cells) none
def tI.Spec (C:aZ) (f:Nat):Prop:=∀ (p:Ph) (r:Rn) (c:Cu),C.c f [.agg (dO p r c)] (.agg (rA p r).cells) none
def tJ.Spec (C:aZ) (f:Nat):Prop:=∀ (p:Ph) (r:Rn) (c:Cu),C.c f [.agg (dO p r c)] (.agg (yp p r).cells) none
def Bz.Spec (C:aZ) (f:Nat):Prop:=∀ (p:Ph) (r:Rn) (c:Cu),C.c f [.agg p.cells,.agg r.cells,.agg c.cells] (.agg (de p r c).cells) none
def BA.Spec (C:aZ) (f:Nat):Prop:=∀ (p:Ph) (r:Rn) (c:Cu),C.c f [.agg p.cells,.agg r.cells,.agg c.cells] (B (vA p r c)) none
theorem vC (p:Ph) (r:Rn) (c:Cu):(dO p r c).length=33∧aB (dO p r c) 0 (some 13)=some (.agg p.cells)∧aB (dO p r c) 13 (some 12)=some (.agg r.cells)∧aB (dO p r c) 15 (some 2)=some (.agg [I r.fst,I r.bw])∧aB (dO p r c) 22 (some 3)=some (.agg (Tr.cells ⟨r.limit,r.up,r.down⟩))∧aB (dO p r c) 0 (some 33)=some (.agg (dO p r c)):=⟨rfl,rfl,rfl,rfl,rfl,rfl⟩
theorem BB (p:Ph) (r:Rn) (c:Cu):(dO p r c)[1]? = some (I p.min)∧(dO p r c)[2]? = some (I p.Nk)∧(dO p r c)[6]? = some (I p.cB)∧(dO p r c)[7]? = some (I p.red):=⟨rfl,rfl,rfl,rfl⟩
theorem BC (p:Ph) (r:Rn) (c:Cu):(dO p r c)[14]? = some (I r.time)∧(dO p r c)[15]? = some (I r.fst)∧(dO p r c)[17]? = some (I r.left)∧(dO p r c)[18]? = some (I r.jQ)∧(dO p r c)[20]? = some (B r.done)∧(dO p r c)[21]? = some (B r.kg):=⟨rfl,rfl,rfl,rfl,rfl,rfl⟩
theorem Hz (p:Ph) (r:Rn) (c:Cu):(dO p r c)[25]? = some (B c.start)∧(dO p r c)[26]? = some (B c.fin)∧(dO p r c)[27]? = some (B c.here)∧(dO p r c)[28]? = some (B c.push)∧(dO p r c)[29]? = some (B c.cN)∧(dO p r c)[30]? = some (B c.hold)∧(dO p r c)[31]? = some (B c.early)∧(dO p r c)[32]? = some (B c.cut):=⟨rfl,rfl,rfl,rfl,rfl,rfl,rfl,rfl⟩
section
variable {P:Program} (hm:P.follows .mixedOrders=true) {f:Nat}
include hm
omit hm in
theorem MM (n:Int):(if 9999 < (if 0 > n then 0 else n) then 9999 else (if 0 > n then 0 else n))=j8 n 0 9999:=by
 unfold j8; split<;>split<;>(try split)<;>omega
theorem mA.ok (hc:aE P f=some pI):mA.Spec (Pure P) f:=by
 intro n
 have h1:=MM n
 refine ak hm hc (by show 1≤7; decide) (aj (keep:=[]) (i:=0) ?_)
 try simp only [I,B,D,RX,↓ KW,seval,pI,Z.H]
 rw [h1]; rfl
theorem Pp.ok (hc:aE P f=some tG):mA.Spec (Pure P) f:=by
 intro n
 have h1:=MM n
 refine ak hm hc (by show 1≤7; decide) (aj (keep:=[]) (i:=0) ?_)
 try simp only [I,B,D,RX,↓ KW,seval,tG,Z.H]
 rw [h1]; rfl
theorem Bw.ok (hc:aE P f=some qZ):Bw.Spec (Pure P) f:=by
 intro p
 refine ak hm hc (by show 1≤6; decide) (aj (keep:=[]) (i:=0) ?_)
 try simp only [I,B,D,RX,↓ KW,seval,qZ,Z.H,Ph.cells]
 rfl
theorem vB.ok (hc:aE P f=some ry):vB.Spec (Pure P) f:=by
 intro p x
 refine ak hm hc (by show 2≤13; decide) (aj (keep:=[]) (i:=0) ?_)
 try simp only [I,B,D,RX,↓ KW,seval,ry,Z.H,Ph.cells,Tr.cells]
 rfl
theorem Gb.ok (hc:aE P f=some tH):Gb.Spec (Pure P) f:=by
 intro a b
 refine ak hm hc (by show 2≤26; decide) (aj (keep:=[]) (i:=0) ?_)
 try simp only [I,B,D,RX,↓ KW,seval,tH,Z.H]
 cases h1:decide (b > 0)<;>cases h2:decide (a > IntKind.i64.wrap (9223372036854775807 - b))<;>cases h3:decide (b < 0)<;>cases h4:decide (a < IntKind.i64.wrap (-9223372036854775808 - b)) <;>
 (try simp only [I,B,D,RX,↓ KW,seval,h1,h2,h3,h4]; try (try simp only [I,B,D,RX,↓ KW,seval,h1,h2,h3,h4]); rw [Wv,h1,h2,h3,h4]; rfl)
theorem Bx.ok (hc:aE P f=some rz):Bx.Spec (Pure P) f:=by
 intro a b
 refine ak hm hc (by show 2≤26; decide) (aj (keep:=[]) (i:=0) ?_)
 try simp only [I,B,D,RX,↓ KW,seval,rz,Z.H]
 cases h1:decide (b > 0)<;>cases h2:decide (a < IntKind.i64.wrap (-9223372036854775808 + b))<;>cases h3:decide (b < 0)<;>cases h4:decide (a > IntKind.i64.wrap (9223372036854775807 + b)) <;>
 (try simp only [I,B,D,RX,↓ KW,seval,h1,h2,h3,h4]; try (try simp only [I,B,D,RX,↓ KW,seval,h1,h2,h3,h4]); rw [Ww,h1,h2,h3,h4]; rfl)
theorem Ga.ok (hc:aE P f=some tE):Ga.Spec (Pure P) f:=by
 intro p left here
 refine ak hm hc (by show 3≤19; decide) (aj (keep:=[]) (i:=0) ?_)
 try simp only [I,B,D,RX,↓ KW,seval,tE,Z.H,Ph.cells]
 cases here
 ·try simp only [I,B,D,RX,↓ KW,seval,Ph.cells]
  cases h1:decide (left > 9999)
  ·try simp only [I,B,D,RX,↓ KW,seval,h1]
   cases h2:decide (left > 0)
   ·try simp only [I,B,D,RX,↓ KW,seval,h2]
    have a:=of_decide_eq_false h1
    have b:=of_decide_eq_false h2
    simp only [KA,if_neg a,if_neg b,Bool.false_eq_true,if_false]
   ·try simp only [I,B,D,RX,↓ KW,seval,h2]
    have a:=of_decide_eq_false h1
    have b:=of_decide_eq_true h2
    rw [aV (by omega) (by omega)]
    simp only [KA,if_neg a,if_pos b,Bool.false_eq_true,if_false]
  ·try simp only [I,B,D,RX,↓ KW,seval,h1]
   have a:=of_decide_eq_true h1
   simp only [KA,if_pos a,Bool.false_eq_true,if_false]
   try rfl
 ·try simp only [I,B,D,RX,↓ KW,seval,Ph.cells]
  try rfl
theorem Gc.ok {fL fP fM:Nat} (hc:aE P f=some (tF fL fP fM)) (hL:vB.Spec (Pure P) fL) (hP:Gb.Spec (Pure P) fP) (hM:Bx.Spec (Pure P) fM):Gc.Spec (Pure P) f:=by
 intro p x kg
 have q:∀ p:Ph,p.cells.length=13∧aB p.cells 0 (some 13)=some (.agg p.cells)∧p.cells[5]? = some (I p.step):=fun _=>⟨rfl,rfl,rfl⟩
 have qx:∀ x:Tr,x.cells.length=3∧aB x.cells 0 (some 3)=some (.agg x.cells)∧x.cells[0]? = some (I x.limit)∧x.cells[1]? = some (I x.up)∧x.cells[2]? = some (I x.down):=fun _=>⟨rfl,rfl,rfl,rfl,rfl⟩
 have hw:∀ n:Int,IntKind.i64.wrap ((if 1 < (if 0 > n then 0 else n) then 1 else (if 0 > n then 0 else n)) + 1)=SS n:=fun n=>by
  rw [aV (by split<;>split<;>omega) (by split<;>split<;>omega)]; rfl
 have z3:∀ x:Tr,setCells [I 0,I 0,I 0] 0 x.cells=x.cells:=fun _=>rfl
 have z3':∀ a b c:Int,setCells [I 0,I 0,I 0] 0 [I a,I b,I c]=Tr.cells ⟨a,b,c⟩:=fun _ _ _=>rfl
 have s0:∀ (x:Tr) (y:Int),setCells x.cells 0 [I y]=({ x with limit:=y }:Tr).cells:=fun _ _=>rfl
 have s1:∀ (x:Tr) (y:Int),setCells x.cells 1 [I y]=({ x with up:=y }:Tr).cells:=fun _ _=>rfl
 have s2:∀ (x:Tr) (y:Int),setCells x.cells 2 [I y]=({ x with down:=y }:Tr).cells:=fun _ _=>rfl
 refine ak hm hc (by show 3≤52; decide) (aj (keep:=[]) (i:=0) ?_)
 try simp only [I,B,D,RY,↓ KW,seval,tF,Z.H,q,qx,hw,z3,z3',s0,s1,s2]
 refine af (hL p x) ?_
 try simp only [I,B,D,RY,↓ KW,seval,q,qx,hw,z3,z3',s0,s1,s2]
 cases kg
 ·try simp only [I,B,D,RY,↓ KW,seval,q,qx,hw,z3,z3',s0,s1,s2]
  cases h2:(SS x.down == 2)
  ·try simp only [I,B,D,RY,↓ KW,seval,q,qx,hw,z3,z3',s0,s1,s2,h2]
   refine af (hL p ⟨Ez p x.limit,0,SS x.down⟩) ?_
   try simp only [I,B,D,RY,↓ KW,seval,q,qx,hw,z3,z3',s0,s1,s2]
   simp [Qg,Tp,Tq,h2]
  ·try simp only [I,B,D,RY,↓ KW,seval,q,qx,hw,z3,z3',s0,s1,s2,h2]
   refine af (hM (Ez p x.limit) p.step) ?_
   try simp only [I,B,D,RY,↓ KW,seval,q,qx,hw,z3,z3',s0,s1,s2]
   refine af (hL p ⟨Ww (Ez p x.limit) p.step,0,0⟩) ?_
   try simp only [I,B,D,RY,↓ KW,seval,q,qx,hw,z3,z3',s0,s1,s2]
   simp [Qg,Tp,Tq,h2]
 ·try simp only [I,B,D,RY,↓ KW,seval,q,qx,hw,z3,z3',s0,s1,s2]
  cases h2:(SS x.up == 2)
  ·try simp only [I,B,D,RY,↓ KW,seval,q,qx,hw,z3,z3',s0,s1,s2,h2]
   refine af (hL p ⟨Ez p x.limit,SS x.up,0⟩) ?_
   try simp only [I,B,D,RY,↓ KW,seval,q,qx,hw,z3,z3',s0,s1,s2]
   simp [Qg,Tp,Tq,h2]
  ·try simp only [I,B,D,RY,↓ KW,seval,q,qx,hw,z3,z3',s0,s1,s2,h2]
   refine af (hP (Ez p x.limit) p.step) ?_
   try simp only [I,B,D,RY,↓ KW,seval,q,qx,hw,z3,z3',s0,s1,s2]
   refine af (hL p ⟨Wv (Ez p x.limit) p.step,0,0⟩) ?_
   try simp only [I,B,D,RY,↓ KW,seval,q,qx,hw,z3,z3',s0,s1,s2]
   simp [Qg,Tp,Tq,h2]
theorem uj.ok {fM:Nat} (hc:aE P f=some (tD fM)) (hM:mA.Spec (Pure P) fM):uj.Spec (Pure P) f:=by
 intro p st time b
 refine ak hm hc (by show 3≤53; decide) (aj (keep:=[]) (i:=0) ?_)
 try simp only [I,B,D,RX,↓ KW,seval,tD,Z.H,Ph.cells]
 cases h1:(st == 1)<;>cases h2:(st == 2)<;>cases h3:decide (time ≥ p.walk)<;>cases h4:decide (time ≥ p.dG)<;>cases b<;>cases h5:decide (p.walk > 0)
 all_goals try simp only [I,B,D,RX,↓ KW,seval,h1,h2,h3,h4,h5,Ph.cells]
 all_goals try simp only [I,B,D,RX,↓ KW,seval,h1,h2,h3,h4,h5,Ph.cells]
 all_goals (try (refine af (hM _) ?_))
 all_goals try simp only [I,B,D,RX,↓ KW,seval,h1,h2,h3,h4,h5,Ph.cells]
 all_goals simp only [F8,h1,h2,h3,h4,h5,Bool.true_and,Bool.false_and,Bool.and_true,Bool.and_false,Bool.or_true,Bool.or_false,Bool.true_or,Bool.false_or,Bool.false_eq_true,if_true,if_false]
theorem By.ok (hc:aE P f=some vz):By.Spec (Pure P) f:=by
 intro st time
 refine ak hm hc (by show 1≤8; decide) (aj (keep:=[]) (i:=0) ?_)
 try simp only [I,B,D,RX,↓ KW,seval,vz,Z.H]
 cases h1:(st == 1)
 ·try simp only [I,B,D,RX,↓ KW,seval,h1]
  simp [Km,h1]
 ·try simp only [I,B,D,RX,↓ KW,seval,h1]
  simp [Km,h1]
theorem xe.ok (hc:aE P f=some nZ):xe.Spec (Pure P) f:=by
 intro st time
 refine ak hm hc (by show 1≤11; decide) (aj (keep:=[]) (i:=0) ?_)
 try simp only [I,B,D,RX,↓ KW,seval,nZ,Z.H]
 cases h1:(st == 1)
 ·try simp only [I,B,D,RX,↓ KW,seval,h1]
  simp [eZ,h1]
 ·try simp only [I,B,D,RX,↓ KW,seval,h1]
  simp [eZ,h1]
theorem xg.ok {fG:Nat} (hc:aE P f=some (nU fG)) (hG:Bw.Spec (Pure P) fG):xg.Spec (Pure P) f:=by
 intro p
 have q:aB p.cells 0 (some 13)=some (.agg p.cells):=rfl
 refine ak hm hc (by show 1≤6; decide) (aj (keep:=[]) (i:=0) ?_)
 try simp only [I,B,D,RX,↓ KW,seval,nU,Z.H,q]
 refine af (hG p) ?_
 try simp only [I,B,D,RX,↓ KW,seval,Tr.cells,aN]
 rfl
theorem Gd.ok (hc:aE P f=some kP):Gd.Spec (Pure P) f:=by
 intro p r c a b
 have t1:=vC p r c
 refine ak hm hc (by show 3≤13; decide) (aj (keep:=[]) (i:=0) ?_)
 try simp only [I,B,D,RX,↓ KW,seval,kP,Z.H,t1,Tr.cells,aN]
 rfl
theorem Ge.ok {fM fA fP:Nat} (hc:aE P f=some (jY fM fA fP)) (hM:mA.Spec (Pure P) fM) (hA:Gd.Spec (Pure P) fA) (hP:uj.Spec (Pure P) fP):Ge.Spec (Pure P) f:=by
 intro p r c
 have t1:=vC p r c
 have t2:=BB p r c
 have t3:=BC p r c
 have t4:=Hz p r c
 refine ak hm hc (by show 1≤29; decide) (aj (keep:=[]) (i:=0) ?_)
 try simp only [I,B,D,RX,↓ KW,seval,jY,Z.H,t1,t2,t3,t4,aN]
 cases h1:c.start
 ·try simp only [I,B,D,RX,↓ KW,seval,h1,t1,t2,t3,t4]
  refine af (hM _) ?_
  try simp only [I,B,D,RX,↓ KW,seval,t1,t2,t3,t4]
  refine af (hA p r c _ _) ?_
  try simp only [I,B,D,RX,↓ KW,seval,t1,t2,t3,t4,Rn.cells,xd,aN]
  simp [F9,h1,xd,Rn.cells]
 ·try simp only [I,B,D,RX,↓ KW,seval,h1,t1,t2,t3,t4]
  refine af (hA p r c _ _) ?_
  try simp only [I,B,D,RX,↓ KW,seval,t1,t2,t3,t4,Rn.cells,xd,aN]
  refine mE rfl ?_
  try simp only [I,B,D,RX,↓ KW,seval,t1,t2,t3,t4,Rn.cells,xd,aN]
  refine af (hP p 0 0 c.push) ?_
  try simp only [I,B,D,RX,↓ KW,seval,t1,t2,t3,t4,Rn.cells,xd,aN]
  simp [F9,h1,xd,Rn.cells]
theorem tI.ok {fM fA:Nat} (hc:aE P f=some (iB fM fA)) (hM:mA.Spec (Pure P) fM) (hA:Gd.Spec (Pure P) fA):tI.Spec (Pure P) f:=by
 intro p r c
 have t1:=vC p r c
 have t2:=BB p r c
 have t3:=BC p r c
 refine ak hm hc (by show 1≤26; decide) (aj (keep:=[]) (i:=0) ?_)
 try simp only [I,B,D,RX,↓ KW,seval,iB,Z.H,t1,t2,t3,aN]
 cases h1:decide (r.time < p.cB)
 ·have a:=of_decide_eq_false h1
  try simp only [I,B,D,RX,↓ KW,seval,h1,t1,t2,t3]
  cases h2:decide (p.red > 0)
  ·have b:=of_decide_eq_false h2
   try simp only [I,B,D,RX,↓ KW,seval,h2,t1,t2,t3]
   refine af (hA p r c _ _) ?_
   try simp only [I,B,D,RX,↓ KW,seval,t1,t2,t3,Rn.cells,xd,aN]
   simp only [rA,if_neg a,if_neg b,xd,Rn.cells]
  ·have b:=of_decide_eq_true h2
   try simp only [I,B,D,RX,↓ KW,seval,h2,t1,t2,t3]
   refine af (hA p r c _ _) ?_
   try simp only [I,B,D,RX,↓ KW,seval,t1,t2,t3,Rn.cells,xd,aN]
   simp only [rA,if_neg a,if_pos b,xd,Rn.cells]
 ·have a:=of_decide_eq_true h1
  try simp only [I,B,D,RX,↓ KW,seval,h1,t1,t2,t3]
  refine af (hM _) ?_
  try simp only [I,B,D,RX,↓ KW,seval,t1,t2,t3]
  refine af (hA p r c _ _) ?_
  try simp only [I,B,D,RX,↓ KW,seval,t1,t2,t3,Rn.cells,xd,aN]
  simp only [rA,if_pos a,xd,Rn.cells]
theorem tJ.ok {fM fA:Nat} (hc:aE P f=some (iC fM fA)) (hM:mA.Spec (Pure P) fM) (hA:Gd.Spec (Pure P) fA):tJ.Spec (Pure P) f:=by
 intro p r c
 have t1:=vC p r c
 have t2:=BB p r c
 have t3:=BC p r c
 refine ak hm hc (by show 1≤18; decide) (aj (keep:=[]) (i:=0) ?_)
 try simp only [I,B,D,RX,↓ KW,seval,iC,Z.H,t1,t2,t3,aN]
 cases h1:decide (r.time < p.red)
 ·have a:=of_decide_eq_false h1
  try simp only [I,B,D,RX,↓ KW,seval,h1,t1,t2,t3]
  refine af (hA p r c _ _) ?_
  try simp only [I,B,D,RX,↓ KW,seval,t1,t2,t3,Rn.cells,xd,aN]
  simp only [yp,if_neg a,xd,Rn.cells]
 ·have a:=of_decide_eq_true h1
  try simp only [I,B,D,RX,↓ KW,seval,h1,t1,t2,t3]
  refine af (hM _) ?_
  try simp only [I,B,D,RX,↓ KW,seval,t1,t2,t3]
  refine af (hA p r c _ _) ?_
  try simp only [I,B,D,RX,↓ KW,seval,t1,t2,t3,Rn.cells,xd,aN]
  simp only [yp,if_pos a,xd,Rn.cells]
omit hm in
theorem bc (b:Bool):b=false∨b=true:=by cases b<;>simp
set_option maxHeartbeats 40000000 in
theorem yq.ok {fM fC fP fS fL fI:Nat} (hc:aE P f=some (jt fM fC fP fS fL fI)) (hM:mA.Spec (Pure P) fM) (hC:By.Spec (Pure P) fC) (hP:uj.Spec (Pure P) fP) (hS:xe.Spec (Pure P) fS) (hL:Ga.Spec (Pure P) fL) (hI:vB.Spec (Pure P) fI):yq.Spec (Pure P) f:=by
 intro p r c
 have t1:=vC p r c
 have t2:=BB p r c
 have t3:=BC p r c
 have t4:=Hz p r c
 obtain ⟨a,b,hab⟩:∃ a b,EA p r c=(a,b):=⟨_,_,rfl⟩
 obtain ⟨d,hd⟩:∃ d,bH p r c=d:=⟨_,rfl⟩
 refine ak hm hc (by show 1≤120; decide) (aj (keep:=[]) (i:=0) ?_)
 try simp only [I,B,D,RX,↓ KW,seval,jt,Z.H,t1,t2,t3,t4,aN,Rn.cells]
 refine af (hM _) ?_
 try simp only [I,B,D,RX,↓ KW,seval,t1,t2,t3,t4,Rn.cells]
 have hP2:∀ q,(c.push && !c.cN)=q→((c.cut && r.fst == 1)=false)→(Pure P).c fP [.agg p.cells,.agg [I r.fst,I r.bw],B q] (.agg [I a,I b]) none:=fun q h1 h2=>by
  have h3:=hP p r.fst r.bw q
  have hF:=hab
  rw [EA,h2,h1] at hF
  simp only [Bool.false_eq_true,if_false] at hF
  rw [hF] at h3
  exact h3
 have hC2:c.cut=true→(r.fst == 1)=true→(Pure P).c fC [.agg [I r.fst,I r.bw]] (.agg [I a,I b]) none:=fun h1 h2=>by
  have h3:=hC r.fst r.bw
  have hF:=hab
  rw [EA,h1,h2] at hF
  simp only [Bool.and_self,if_true] at hF
  rw [hF] at h3
  exact h3
 have J:(c.cut=false∧(c.cut && r.fst == 1)=false)∨(c.cut=true∧(r.fst == 1)=false∧(c.cut && r.fst == 1)=false)∨(c.cut=true∧(r.fst == 1)=true∧(c.cut && r.fst == 1)=true):=by
  rcases bc c.cut with h|h<;>rcases bc (r.fst == 1) with h'|h'<;>simp [h,h']
 have K:(c.push=false∧(c.push && !c.cN)=false)∨(c.push=true∧c.cN=false∧(c.push && !c.cN)=true)∨(c.push=true∧c.cN=true∧(c.push && !c.cN)=false):=by
  rcases bc c.push with h|h<;>rcases bc c.cN with h'|h'<;>simp [h,h']
 rcases J with ⟨j1,j3⟩|⟨j1,j2,j3⟩|⟨j1,j2,j3⟩
 ·try simp only [I,B,D,RX,↓ KW,seval,j1,t1,t2,t3,t4,Rn.cells]
  rcases K with ⟨k1,k3⟩|⟨k1,k2,k3⟩|⟨k1,k2,k3⟩
  ·try simp only [I,B,D,RX,↓ KW,seval,k1,t1,t2,t3,t4,Rn.cells]
   refine af (hP2 _ k3 j3) ?_
   try simp only [I,B,D,RX,↓ KW,seval,t1,t2,t3,t4,Rn.cells]
   refine af (hS r.fst r.bw) ?_
   try simp only [I,B,D,RX,↓ KW,seval,t1,t2,t3,t4,Rn.cells]
   rcases bc (eZ r.fst) with hs|hs
   all_goals try simp only [I,B,D,RX,↓ KW,seval,hs,t1,t2,t3,t4,Rn.cells]
   rcases bc (a == 1) with ha|ha
   all_goals try simp only [I,B,D,RX,↓ KW,seval,ha,t1,t2,t3,t4,Rn.cells]
   all_goals (refine af (hL p r.left c.here) ?_)
   all_goals try simp only [I,B,D,RX,↓ KW,seval,t1,t2,t3,t4,Rn.cells]
   all_goals rcases bc c.cN with hpr | hpr
   all_goals try simp only [I,B,D,RX,↓ KW,seval,hpr,t1,t2,t3,t4,Rn.cells]
   all_goals (try (refine af (hM r.jQ) ?_))
   all_goals try simp only [I,B,D,RX,↓ KW,seval,t1,t2,t3,t4,Rn.cells]
   all_goals (refine af (hI p ⟨r.limit,r.up,r.down⟩) ?_)
   all_goals try simp only [I,B,D,RX,↓ KW,seval,hpr,t1,t2,t3,t4,Rn.cells]
   all_goals (refine mE rfl ?_)
   all_goals try simp only [I,B,D,RX,↓ KW,seval,hpr,t1,t2,t3,t4,Rn.cells]
   all_goals (first | (show AV.cQ _=AV.cQ _; simp [iD,c8,bQ,bH,Rn.cells,hab,hs,hpr, *]; done) | (rcases bc r.done with hdn | hdn<;>try simp only [I,B,D,RX,↓ KW,seval,hdn,t1,t2,t3,t4,Rn.cells]))
   all_goals (first | (show AV.cQ _=AV.cQ _; simp [iD,c8,bQ,bH,Rn.cells,hab,hs,hpr, *]; done) | (rcases bc (decide (bD r.time ≥ p.min)) with ht | ht<;>try simp only [I,B,D,RX,↓ KW,seval,ht,t1,t2,t3,t4,Rn.cells]))
   all_goals (first | (show AV.cQ _=AV.cQ _; simp [iD,c8,bQ,bH,Rn.cells,hab,hs,hpr, *]; done) | (refine af (hS a b) ?_))
   all_goals try simp only [I,B,D,RX,↓ KW,seval,t1,t2,t3,t4,Rn.cells]
   all_goals (first | (show AV.cQ _=AV.cQ _; simp [iD,c8,bQ,bH,Rn.cells,hab,hs,hpr, *]; done) | (rcases bc (eZ a) with hsa | hsa<;>try simp only [I,B,D,RX,↓ KW,seval,hsa,t1,t2,t3,t4,Rn.cells]))
   all_goals (first | (show AV.cQ _=AV.cQ _; simp [iD,c8,bQ,bH,Rn.cells,hab,hs,hpr, *]; done) | (rcases bc (KA p r.left c.here == 0) with hl | hl<;>try simp only [I,B,D,RX,↓ KW,seval,hl,t1,t2,t3,t4,Rn.cells]))
   all_goals (first | (show AV.cQ _=AV.cQ _; simp [iD,c8,bQ,bH,Rn.cells,hab,hs,hpr, *]; done) | (rcases bc (decide (bD r.jQ ≥ Ez p r.limit)) with hlo | hlo<;>try simp only [I,B,D,RX,↓ KW,seval,hlo,t1,t2,t3,t4,Rn.cells]))
   all_goals (first | (show AV.cQ _=AV.cQ _; simp [iD,c8,bQ,bH,Rn.cells,hab,hs,hpr, *]; done) | (rcases bc c.early with he | he<;>try simp only [I,B,D,RX,↓ KW,seval,he,t1,t2,t3,t4,Rn.cells]))
   all_goals (first | (show AV.cQ _=AV.cQ _; simp [iD,c8,bQ,bH,Rn.cells,hab,hs,hpr, *]; done) | skip)
  ·try simp only [I,B,D,RX,↓ KW,seval,k1,k2,t1,t2,t3,t4,Rn.cells]
   refine af (hP2 _ k3 j3) ?_
   try simp only [I,B,D,RX,↓ KW,seval,t1,t2,t3,t4,Rn.cells]
   refine af (hS r.fst r.bw) ?_
   try simp only [I,B,D,RX,↓ KW,seval,t1,t2,t3,t4,Rn.cells]
   rcases bc (eZ r.fst) with hs|hs
   all_goals try simp only [I,B,D,RX,↓ KW,seval,hs,t1,t2,t3,t4,Rn.cells]
   rcases bc (a == 1) with ha|ha
   all_goals try simp only [I,B,D,RX,↓ KW,seval,ha,t1,t2,t3,t4,Rn.cells]
   all_goals (refine af (hL p r.left c.here) ?_)
   all_goals try simp only [I,B,D,RX,↓ KW,seval,t1,t2,t3,t4,Rn.cells]
   all_goals rcases bc c.cN with hpr | hpr
   all_goals try simp only [I,B,D,RX,↓ KW,seval,hpr,t1,t2,t3,t4,Rn.cells]
   all_goals (try (refine af (hM r.jQ) ?_))
   all_goals try simp only [I,B,D,RX,↓ KW,seval,t1,t2,t3,t4,Rn.cells]
   all_goals (refine af (hI p ⟨r.limit,r.up,r.down⟩) ?_)
   all_goals try simp only [I,B,D,RX,↓ KW,seval,hpr,t1,t2,t3,t4,Rn.cells]
   all_goals (refine mE rfl ?_)
   all_goals try simp only [I,B,D,RX,↓ KW,seval,hpr,t1,t2,t3,t4,Rn.cells]
   all_goals (first | (show AV.cQ _=AV.cQ _; simp [iD,c8,bQ,bH,Rn.cells,hab,hs,hpr, *]; done) | (rcases bc r.done with hdn | hdn<;>try simp only [I,B,D,RX,↓ KW,seval,hdn,t1,t2,t3,t4,Rn.cells]))
   all_goals (first | (show AV.cQ _=AV.cQ _; simp [iD,c8,bQ,bH,Rn.cells,hab,hs,hpr, *]; done) | (rcases bc (decide (bD r.time ≥ p.min)) with ht | ht<;>try simp only [I,B,D,RX,↓ KW,seval,ht,t1,t2,t3,t4,Rn.cells]))
   all_goals (first | (show AV.cQ _=AV.cQ _; simp [iD,c8,bQ,bH,Rn.cells,hab,hs,hpr, *]; done) | (refine af (hS a b) ?_))
   all_goals try simp only [I,B,D,RX,↓ KW,seval,t1,t2,t3,t4,Rn.cells]
   all_goals (first | (show AV.cQ _=AV.cQ _; simp [iD,c8,bQ,bH,Rn.cells,hab,hs,hpr, *]; done) | (rcases bc (eZ a) with hsa | hsa<;>try simp only [I,B,D,RX,↓ KW,seval,hsa,t1,t2,t3,t4,Rn.cells]))
   all_goals (first | (show AV.cQ _=AV.cQ _; simp [iD,c8,bQ,bH,Rn.cells,hab,hs,hpr, *]; done) | (rcases bc (KA p r.left c.here == 0) with hl | hl<;>try simp only [I,B,D,RX,↓ KW,seval,hl,t1,t2,t3,t4,Rn.cells]))
   all_goals (first | (show AV.cQ _=AV.cQ _; simp [iD,c8,bQ,bH,Rn.cells,hab,hs,hpr, *]; done) | (rcases bc (decide (bD r.jQ ≥ Ez p r.limit)) with hlo | hlo<;>try simp only [I,B,D,RX,↓ KW,seval,hlo,t1,t2,t3,t4,Rn.cells]))
   all_goals (first | (show AV.cQ _=AV.cQ _; simp [iD,c8,bQ,bH,Rn.cells,hab,hs,hpr, *]; done) | (rcases bc c.early with he | he<;>try simp only [I,B,D,RX,↓ KW,seval,he,t1,t2,t3,t4,Rn.cells]))
   all_goals (first | (show AV.cQ _=AV.cQ _; simp [iD,c8,bQ,bH,Rn.cells,hab,hs,hpr, *]; done) | skip)
  ·try simp only [I,B,D,RX,↓ KW,seval,k1,k2,t1,t2,t3,t4,Rn.cells]
   refine af (hP2 _ k3 j3) ?_
   try simp only [I,B,D,RX,↓ KW,seval,t1,t2,t3,t4,Rn.cells]
   refine af (hS r.fst r.bw) ?_
   try simp only [I,B,D,RX,↓ KW,seval,t1,t2,t3,t4,Rn.cells]
   rcases bc (eZ r.fst) with hs|hs
   all_goals try simp only [I,B,D,RX,↓ KW,seval,hs,t1,t2,t3,t4,Rn.cells]
   rcases bc (a == 1) with ha|ha
   all_goals try simp only [I,B,D,RX,↓ KW,seval,ha,t1,t2,t3,t4,Rn.cells]
   all_goals (refine af (hL p r.left c.here) ?_)
   all_goals try simp only [I,B,D,RX,↓ KW,seval,t1,t2,t3,t4,Rn.cells]
   all_goals rcases bc c.cN with hpr | hpr
   all_goals try simp only [I,B,D,RX,↓ KW,seval,hpr,t1,t2,t3,t4,Rn.cells]
   all_goals (try (refine af (hM r.jQ) ?_))
   all_goals try simp only [I,B,D,RX,↓ KW,seval,t1,t2,t3,t4,Rn.cells]
   all_goals (refine af (hI p ⟨r.limit,r.up,r.down⟩) ?_)
   all_goals try simp only [I,B,D,RX,↓ KW,seval,hpr,t1,t2,t3,t4,Rn.cells]
   all_goals (refine mE rfl ?_)
   all_goals try simp only [I,B,D,RX,↓ KW,seval,hpr,t1,t2,t3,t4,Rn.cells]
   all_goals (first | (show AV.cQ _=AV.cQ _; simp [iD,c8,bQ,bH,Rn.cells,hab,hs,hpr, *]; done) | (rcases bc r.done with hdn | hdn<;>try simp only [I,B,D,RX,↓ KW,seval,hdn,t1,t2,t3,t4,Rn.cells]))
   all_goals (first | (show AV.cQ _=AV.cQ _; simp [iD,c8,bQ,bH,Rn.cells,hab,hs,hpr, *]; done) | (rcases bc (decide (bD r.time ≥ p.min)) with ht | ht<;>try simp only [I,B,D,RX,↓ KW,seval,ht,t1,t2,t3,t4,Rn.cells]))
   all_goals (first | (show AV.cQ _=AV.cQ _; simp [iD,c8,bQ,bH,Rn.cells,hab,hs,hpr, *]; done) | (refine af (hS a b) ?_))
   all_goals try simp only [I,B,D,RX,↓ KW,seval,t1,t2,t3,t4,Rn.cells]
   all_goals (first | (show AV.cQ _=AV.cQ _; simp [iD,c8,bQ,bH,Rn.cells,hab,hs,hpr, *]; done) | (rcases bc (eZ a) with hsa | hsa<;>try simp only [I,B,D,RX,↓ KW,seval,hsa,t1,t2,t3,t4,Rn.cells]))
   all_goals (first | (show AV.cQ _=AV.cQ _; simp [iD,c8,bQ,bH,Rn.cells,hab,hs,hpr, *]; done) | (rcases bc (KA p r.left c.here == 0) with hl | hl<;>try simp only [I,B,D,RX,↓ KW,seval,hl,t1,t2,t3,t4,Rn.cells]))
   all_goals (first | (show AV.cQ _=AV.cQ _; simp [iD,c8,bQ,bH,Rn.cells,hab,hs,hpr, *]; done) | (rcases bc (decide (bD r.jQ ≥ Ez p r.limit)) with hlo | hlo<;>try simp only [I,B,D,RX,↓ KW,seval,hlo,t1,t2,t3,t4,Rn.cells]))
   all_goals (first | (show AV.cQ _=AV.cQ _; simp [iD,c8,bQ,bH,Rn.cells,hab,hs,hpr, *]; done) | (rcases bc c.early with he | he<;>try simp only [I,B,D,RX,↓ KW,seval,he,t1,t2,t3,t4,Rn.cells]))
   all_goals (first | (show AV.cQ _=AV.cQ _; simp [iD,c8,bQ,bH,Rn.cells,hab,hs,hpr, *]; done) | skip)
 ·try simp only [I,B,D,RX,↓ KW,seval,j1,j2,t1,t2,t3,t4,Rn.cells]
  try simp only [I,B,D,RX,↓ KW,seval,j1,j2,t1,t2,t3,t4,Rn.cells]
  rcases K with ⟨k1,k3⟩|⟨k1,k2,k3⟩|⟨k1,k2,k3⟩
  ·try simp only [I,B,D,RX,↓ KW,seval,k1,t1,t2,t3,t4,Rn.cells]
   refine af (hP2 _ k3 j3) ?_
   try simp only [I,B,D,RX,↓ KW,seval,t1,t2,t3,t4,Rn.cells]
   refine af (hS r.fst r.bw) ?_
   try simp only [I,B,D,RX,↓ KW,seval,t1,t2,t3,t4,Rn.cells]
   rcases bc (eZ r.fst) with hs|hs
   all_goals try simp only [I,B,D,RX,↓ KW,seval,hs,t1,t2,t3,t4,Rn.cells]
   rcases bc (a == 1) with ha|ha
   all_goals try simp only [I,B,D,RX,↓ KW,seval,ha,t1,t2,t3,t4,Rn.cells]
   all_goals (refine af (hL p r.left c.here) ?_)
   all_goals try simp only [I,B,D,RX,↓ KW,seval,t1,t2,t3,t4,Rn.cells]
   all_goals rcases bc c.cN with hpr | hpr
   all_goals try simp only [I,B,D,RX,↓ KW,seval,hpr,t1,t2,t3,t4,Rn.cells]
   all_goals (try (refine af (hM r.jQ) ?_))
   all_goals try simp only [I,B,D,RX,↓ KW,seval,t1,t2,t3,t4,Rn.cells]
   all_goals (refine af (hI p ⟨r.limit,r.up,r.down⟩) ?_)
   all_goals try simp only [I,B,D,RX,↓ KW,seval,hpr,t1,t2,t3,t4,Rn.cells]
   all_goals (refine mE rfl ?_)
   all_goals try simp only [I,B,D,RX,↓ KW,seval,hpr,t1,t2,t3,t4,Rn.cells]
   all_goals (first | (show AV.cQ _=AV.cQ _; simp [iD,c8,bQ,bH,Rn.cells,hab,hs,hpr, *]; done) | (rcases bc r.done with hdn | hdn<;>try simp only [I,B,D,RX,↓ KW,seval,hdn,t1,t2,t3,t4,Rn.cells]))
   all_goals (first | (show AV.cQ _=AV.cQ _; simp [iD,c8,bQ,bH,Rn.cells,hab,hs,hpr, *]; done) | (rcases bc (decide (bD r.time ≥ p.min)) with ht | ht<;>try simp only [I,B,D,RX,↓ KW,seval,ht,t1,t2,t3,t4,Rn.cells]))
   all_goals (first | (show AV.cQ _=AV.cQ _; simp [iD,c8,bQ,bH,Rn.cells,hab,hs,hpr, *]; done) | (refine af (hS a b) ?_))
   all_goals try simp only [I,B,D,RX,↓ KW,seval,t1,t2,t3,t4,Rn.cells]
   all_goals (first | (show AV.cQ _=AV.cQ _; simp [iD,c8,bQ,bH,Rn.cells,hab,hs,hpr, *]; done) | (rcases bc (eZ a) with hsa | hsa<;>try simp only [I,B,D,RX,↓ KW,seval,hsa,t1,t2,t3,t4,Rn.cells]))
   all_goals (first | (show AV.cQ _=AV.cQ _; simp [iD,c8,bQ,bH,Rn.cells,hab,hs,hpr, *]; done) | (rcases bc (KA p r.left c.here == 0) with hl | hl<;>try simp only [I,B,D,RX,↓ KW,seval,hl,t1,t2,t3,t4,Rn.cells]))
   all_goals (first | (show AV.cQ _=AV.cQ _; simp [iD,c8,bQ,bH,Rn.cells,hab,hs,hpr, *]; done) | (rcases bc (decide (bD r.jQ ≥ Ez p r.limit)) with hlo | hlo<;>try simp only [I,B,D,RX,↓ KW,seval,hlo,t1,t2,t3,t4,Rn.cells]))
   all_goals (first | (show AV.cQ _=AV.cQ _; simp [iD,c8,bQ,bH,Rn.cells,hab,hs,hpr, *]; done) | (rcases bc c.early with he | he<;>try simp only [I,B,D,RX,↓ KW,seval,he,t1,t2,t3,t4,Rn.cells]))
   all_goals (first | (show AV.cQ _=AV.cQ _; simp [iD,c8,bQ,bH,Rn.cells,hab,hs,hpr, *]; done) | skip)
  ·try simp only [I,B,D,RX,↓ KW,seval,k1,k2,t1,t2,t3,t4,Rn.cells]
   refine af (hP2 _ k3 j3) ?_
   try simp only [I,B,D,RX,↓ KW,seval,t1,t2,t3,t4,Rn.cells]
   refine af (hS r.fst r.bw) ?_
   try simp only [I,B,D,RX,↓ KW,seval,t1,t2,t3,t4,Rn.cells]
   rcases bc (eZ r.fst) with hs|hs
   all_goals try simp only [I,B,D,RX,↓ KW,seval,hs,t1,t2,t3,t4,Rn.cells]
   rcases bc (a == 1) with ha|ha
   all_goals try simp only [I,B,D,RX,↓ KW,seval,ha,t1,t2,t3,t4,Rn.cells]
   all_goals (refine af (hL p r.left c.here) ?_)
   all_goals try simp only [I,B,D,RX,↓ KW,seval,t1,t2,t3,t4,Rn.cells]
   all_goals rcases bc c.cN with hpr | hpr
   all_goals try simp only [I,B,D,RX,↓ KW,seval,hpr,t1,t2,t3,t4,Rn.cells]
   all_goals (try (refine af (hM r.jQ) ?_))
   all_goals try simp only [I,B,D,RX,↓ KW,seval,t1,t2,t3,t4,Rn.cells]
   all_goals (refine af (hI p ⟨r.limit,r.up,r.down⟩) ?_)
   all_goals try simp only [I,B,D,RX,↓ KW,seval,hpr,t1,t2,t3,t4,Rn.cells]
   all_goals (refine mE rfl ?_)
   all_goals try simp only [I,B,D,RX,↓ KW,seval,hpr,t1,t2,t3,t4,Rn.cells]
   all_goals (first | (show AV.cQ _=AV.cQ _; simp [iD,c8,bQ,bH,Rn.cells,hab,hs,hpr, *]; done) | (rcases bc r.done with hdn | hdn<;>try simp only [I,B,D,RX,↓ KW,seval,hdn,t1,t2,t3,t4,Rn.cells]))
   all_goals (first | (show AV.cQ _=AV.cQ _; simp [iD,c8,bQ,bH,Rn.cells,hab,hs,hpr, *]; done) | (rcases bc (decide (bD r.time ≥ p.min)) with ht | ht<;>try simp only [I,B,D,RX,↓ KW,seval,ht,t1,t2,t3,t4,Rn.cells]))
   all_goals (first | (show AV.cQ _=AV.cQ _; simp [iD,c8,bQ,bH,Rn.cells,hab,hs,hpr, *]; done) | (refine af (hS a b) ?_))
   all_goals try simp only [I,B,D,RX,↓ KW,seval,t1,t2,t3,t4,Rn.cells]
   all_goals (first | (show AV.cQ _=AV.cQ _; simp [iD,c8,bQ,bH,Rn.cells,hab,hs,hpr, *]; done) | (rcases bc (eZ a) with hsa | hsa<;>try simp only [I,B,D,RX,↓ KW,seval,hsa,t1,t2,t3,t4,Rn.cells]))
   all_goals (first | (show AV.cQ _=AV.cQ _; simp [iD,c8,bQ,bH,Rn.cells,hab,hs,hpr, *]; done) | (rcases bc (KA p r.left c.here == 0) with hl | hl<;>try simp only [I,B,D,RX,↓ KW,seval,hl,t1,t2,t3,t4,Rn.cells]))
   all_goals (first | (show AV.cQ _=AV.cQ _; simp [iD,c8,bQ,bH,Rn.cells,hab,hs,hpr, *]; done) | (rcases bc (decide (bD r.jQ ≥ Ez p r.limit)) with hlo | hlo<;>try simp only [I,B,D,RX,↓ KW,seval,hlo,t1,t2,t3,t4,Rn.cells]))
   all_goals (first | (show AV.cQ _=AV.cQ _; simp [iD,c8,bQ,bH,Rn.cells,hab,hs,hpr, *]; done) | (rcases bc c.early with he | he<;>try simp only [I,B,D,RX,↓ KW,seval,he,t1,t2,t3,t4,Rn.cells]))
   all_goals (first | (show AV.cQ _=AV.cQ _; simp [iD,c8,bQ,bH,Rn.cells,hab,hs,hpr, *]; done) | skip)
  ·try simp only [I,B,D,RX,↓ KW,seval,k1,k2,t1,t2,t3,t4,Rn.cells]
   refine af (hP2 _ k3 j3) ?_
   try simp only [I,B,D,RX,↓ KW,seval,t1,t2,t3,t4,Rn.cells]
   refine af (hS r.fst r.bw) ?_
   try simp only [I,B,D,RX,↓ KW,seval,t1,t2,t3,t4,Rn.cells]
   rcases bc (eZ r.fst) with hs|hs
   all_goals try simp only [I,B,D,RX,↓ KW,seval,hs,t1,t2,t3,t4,Rn.cells]
   rcases bc (a == 1) with ha|ha
   all_goals try simp only [I,B,D,RX,↓ KW,seval,ha,t1,t2,t3,t4,Rn.cells]
   all_goals (refine af (hL p r.left c.here) ?_)
   all_goals try simp only [I,B,D,RX,↓ KW,seval,t1,t2,t3,t4,Rn.cells]
   all_goals rcases bc c.cN with hpr | hpr
   all_goals try simp only [I,B,D,RX,↓ KW,seval,hpr,t1,t2,t3,t4,Rn.cells]
   all_goals (try (refine af (hM r.jQ) ?_))
   all_goals try simp only [I,B,D,RX,↓ KW,seval,t1,t2,t3,t4,Rn.cells]
   all_goals (refine af (hI p ⟨r.limit,r.up,r.down⟩) ?_)
   all_goals try simp only [I,B,D,RX,↓ KW,seval,hpr,t1,t2,t3,t4,Rn.cells]
   all_goals (refine mE rfl ?_)
   all_goals try simp only [I,B,D,RX,↓ KW,seval,hpr,t1,t2,t3,t4,Rn.cells]
   all_goals (first | (show AV.cQ _=AV.cQ _; simp [iD,c8,bQ,bH,Rn.cells,hab,hs,hpr, *]; done) | (rcases bc r.done with hdn | hdn<;>try simp only [I,B,D,RX,↓ KW,seval,hdn,t1,t2,t3,t4,Rn.cells]))
   all_goals (first | (show AV.cQ _=AV.cQ _; simp [iD,c8,bQ,bH,Rn.cells,hab,hs,hpr, *]; done) | (rcases bc (decide (bD r.time ≥ p.min)) with ht | ht<;>try simp only [I,B,D,RX,↓ KW,seval,ht,t1,t2,t3,t4,Rn.cells]))
   all_goals (first | (show AV.cQ _=AV.cQ _; simp [iD,c8,bQ,bH,Rn.cells,hab,hs,hpr, *]; done) | (refine af (hS a b) ?_))
   all_goals try simp only [I,B,D,RX,↓ KW,seval,t1,t2,t3,t4,Rn.cells]
   all_goals (first | (show AV.cQ _=AV.cQ _; simp [iD,c8,bQ,bH,Rn.cells,hab,hs,hpr, *]; done) | (rcases bc (eZ a) with hsa | hsa<;>try simp only [I,B,D,RX,↓ KW,seval,hsa,t1,t2,t3,t4,Rn.cells]))
   all_goals (first | (show AV.cQ _=AV.cQ _; simp [iD,c8,bQ,bH,Rn.cells,hab,hs,hpr, *]; done) | (rcases bc (KA p r.left c.here == 0) with hl | hl<;>try simp only [I,B,D,RX,↓ KW,seval,hl,t1,t2,t3,t4,Rn.cells]))
   all_goals (first | (show AV.cQ _=AV.cQ _; simp [iD,c8,bQ,bH,Rn.cells,hab,hs,hpr, *]; done) | (rcases bc (decide (bD r.jQ ≥ Ez p r.limit)) with hlo | hlo<;>try simp only [I,B,D,RX,↓ KW,seval,hlo,t1,t2,t3,t4,Rn.cells]))
   all_goals (first | (show AV.cQ _=AV.cQ _; simp [iD,c8,bQ,bH,Rn.cells,hab,hs,hpr, *]; done) | (rcases bc c.early with he | he<;>try simp only [I,B,D,RX,↓ KW,seval,he,t1,t2,t3,t4,Rn.cells]))
   all_goals (first | (show AV.cQ _=AV.cQ _; simp [iD,c8,bQ,bH,Rn.cells,hab,hs,hpr, *]; done) | skip)
 ·try simp only [I,B,D,RX,↓ KW,seval,j1,j2,t1,t2,t3,t4,Rn.cells]
  ·try simp only [I,B,D,RX,↓ KW,seval,j1,j2,t1,t2,t3,t4,Rn.cells]
   refine af (hC2 j1 j2) ?_
   try simp only [I,B,D,RX,↓ KW,seval,t1,t2,t3,t4,Rn.cells]
   refine af (hS r.fst r.bw) ?_
   try simp only [I,B,D,RX,↓ KW,seval,t1,t2,t3,t4,Rn.cells]
   rcases bc (eZ r.fst) with hs|hs
   all_goals try simp only [I,B,D,RX,↓ KW,seval,hs,t1,t2,t3,t4,Rn.cells]
   rcases bc (a == 1) with ha|ha
   all_goals try simp only [I,B,D,RX,↓ KW,seval,ha,t1,t2,t3,t4,Rn.cells]
   all_goals (refine af (hL p r.left c.here) ?_)
   all_goals try simp only [I,B,D,RX,↓ KW,seval,t1,t2,t3,t4,Rn.cells]
   all_goals rcases bc c.cN with hpr | hpr
   all_goals try simp only [I,B,D,RX,↓ KW,seval,hpr,t1,t2,t3,t4,Rn.cells]
   all_goals (try (refine af (hM r.jQ) ?_))
   all_goals try simp only [I,B,D,RX,↓ KW,seval,t1,t2,t3,t4,Rn.cells]
   all_goals (refine af (hI p ⟨r.limit,r.up,r.down⟩) ?_)
   all_goals try simp only [I,B,D,RX,↓ KW,seval,hpr,t1,t2,t3,t4,Rn.cells]
   all_goals (refine mE rfl ?_)
   all_goals try simp only [I,B,D,RX,↓ KW,seval,hpr,t1,t2,t3,t4,Rn.cells]
   all_goals (first | (show AV.cQ _=AV.cQ _; simp [iD,c8,bQ,bH,Rn.cells,hab,hs,hpr, *]; done) | (rcases bc r.done with hdn | hdn<;>try simp only [I,B,D,RX,↓ KW,seval,hdn,t1,t2,t3,t4,Rn.cells]))
   all_goals (first | (show AV.cQ _=AV.cQ _; simp [iD,c8,bQ,bH,Rn.cells,hab,hs,hpr, *]; done) | (rcases bc (decide (bD r.time ≥ p.min)) with ht | ht<;>try simp only [I,B,D,RX,↓ KW,seval,ht,t1,t2,t3,t4,Rn.cells]))
   all_goals (first | (show AV.cQ _=AV.cQ _; simp [iD,c8,bQ,bH,Rn.cells,hab,hs,hpr, *]; done) | (refine af (hS a b) ?_))
   all_goals try simp only [I,B,D,RX,↓ KW,seval,t1,t2,t3,t4,Rn.cells]
   all_goals (first | (show AV.cQ _=AV.cQ _; simp [iD,c8,bQ,bH,Rn.cells,hab,hs,hpr, *]; done) | (rcases bc (eZ a) with hsa | hsa<;>try simp only [I,B,D,RX,↓ KW,seval,hsa,t1,t2,t3,t4,Rn.cells]))
   all_goals (first | (show AV.cQ _=AV.cQ _; simp [iD,c8,bQ,bH,Rn.cells,hab,hs,hpr, *]; done) | (rcases bc (KA p r.left c.here == 0) with hl | hl<;>try simp only [I,B,D,RX,↓ KW,seval,hl,t1,t2,t3,t4,Rn.cells]))
   all_goals (first | (show AV.cQ _=AV.cQ _; simp [iD,c8,bQ,bH,Rn.cells,hab,hs,hpr, *]; done) | (rcases bc (decide (bD r.jQ ≥ Ez p r.limit)) with hlo | hlo<;>try simp only [I,B,D,RX,↓ KW,seval,hlo,t1,t2,t3,t4,Rn.cells]))
   all_goals (first | (show AV.cQ _=AV.cQ _; simp [iD,c8,bQ,bH,Rn.cells,hab,hs,hpr, *]; done) | (rcases bc c.early with he | he<;>try simp only [I,B,D,RX,↓ KW,seval,he,t1,t2,t3,t4,Rn.cells]))
   all_goals (first | (show AV.cQ _=AV.cQ _; simp [iD,c8,bQ,bH,Rn.cells,hab,hs,hpr, *]; done) | skip)
end
end Go.Eng
namespace Go.Eng
open Go
def je (t:Tb) (g r:Int):Option (List Int):=if g < 0∨((t.groups.getD []).length:Int)≤g∨r < 0∨1 < r then none else (((t.groups.getD []).getD g.toNat default).row r.toNat)
theorem BD {t:Tb} (h:t.Ok) (g r:Int):((je t g r).getD []).length≤1048576:=by
 unfold je
 split
 ·simp
 ·rename_i hn
  have hlt:g.toNat < (t.groups.getD []).length:=by omega
  have hm:(t.groups.getD []).getD g.toNat default∈t.groups.getD []:=by
   rw [List.getD_eq_getElem?_getD,List.getElem?_eq_getElem hlt]; exact List.getElem_mem hlt
  have:=h.rows _ hm
  unfold Gr.row
  split
  ·exact this.1
  ·exact this.2
def SU (t:Tb) (g r at' want:Int) (i:Nat):Bool:=decide ((i:Int) > at') && dM want (((je t g r).getD []).getD i 0)
def Tt (t:Tb) (g r at' want:Int):Int:=match (List.range ((je t g r).getD []).length).find? (SU t g r at' want) with
 | some i=>i
 | none=>-1
def Tu (t:Tb) (g:Int):Int:=zD .i64 (SJ ((je t g 0).getD [])) (SJ ((je t g 1).getD []))
def V2 (t:Tb) (g:Int):Int:=if g < 0∨((t.groups.getD []).length:Int)≤g then IntKind.i64.wrap ((t.groups.getD []).length - 1) else g
def Tv (t:Tb) (g:Int) (k:Nat):Int:=(IntKind.i64.wrap (IntKind.i64.wrap (V2 t g + 1) + k)).tmod (t.groups.getD []).length
def Wx (t:Tb) (g want:Int) (k:Nat):Bool:=cn .i64 (Tu t (Tv t g k)) want != 0
def Tw (t:Tb) (g want:Int):Int:=match (List.range (t.groups.getD []).length).find? (Wx t g want) with
 | some k=>Tv t g k
 | none=>-1
def rK (t:Tb) (g r pl:Int):Int :=
 if g < 0∨((t.groups.getD []).length:Int)≤g∨r < 0∨1 < r then -1
 else if pl < 0∨(((je t g r).getD []).length:Int)≤pl then -1
 else if 0≤((je t g r).getD []).getD pl.toNat 0∧((je t g r).getD []).getD pl.toNat 0 < 8 then ((je t g r).getD []).getD pl.toNat 0 else -1
def eG.at (r:eG) (k:Int):Int:=if k=0 then r.a0 else r.a1
def n9 (t:Tb) (r:eG) (k:Int):Int:=if k < 0∨1 < k then -1 else rK t r.group k (r.at k)
def xj (s:Int):Int:=match (ep s).head? with
 | some p=>p
 | none=>-1
def HA (p:Ph) (r:Rn):Bool:=p.rest && decide (r.time ≥ p.min) && !(r.fst == 1 || r.fst == 2) && r.left == 0
def V3 (t:Tb) (r:eG) (ring q:Int):Bool:=(az t q).2 && (az t q).1.group == r.group && (az t q).1.ring != ring && decide ((az t q).1.pos > r.at (az t q).1.ring)
theorem kQ {t:Tb} {q:Int} (h:(az t q).2=true):0≤(az t q).1.ring∧(az t q).1.ring < 2:=by
 unfold az at h ⊢
 split at h
 ·rename_i x hx
  have hm:=List.mem_of_find?_eq_some hx
  show 0≤x.ring∧x.ring < 2
  clear h
  simp only [bu,ck,List.mem_flatMap] at hm
  obtain ⟨⟨gr,g⟩,_,hm⟩:=hm
  simp only [cw,List.mem_flatMap,List.mem_range] at hm
  obtain ⟨k,hk,hm⟩:=hm
  simp only [bt,List.mem_filterMap] at hm
  obtain ⟨⟨p,i⟩,_,hm⟩:=hm
  split at hm
  ·cases hm; simp only; omega
  ·cases hm
 ·cases h
def C6.Spec (C:aZ) (f:Nat):Prop:=∀ (t:Tb) (g r:Int),t.Ok→C.c f [.agg t.cells,I g,I r] (aG aC (je t g r)) none
def BE.Spec (C:aZ) (f:Nat):Prop:=∀ (t:Tb) (g r at' want:Int),t.Ok→C.c f [.agg t.cells,I g,I r,I at',I want] (I (Tt t g r at' want)) none
def Gf.Spec (C:aZ) (f:Nat):Prop:=∀ (t:Tb) (g:Int),t.Ok→C.c f [.agg t.cells,I g] (I (Tu t g)) none
def Gg.Spec (C:aZ) (f:Nat):Prop:=∀ (t:Tb) (g want:Int),t.Ok→C.c f [.agg t.cells,I g,I want] (I (Tw t g want)) none
def BF.Spec (C:aZ) (f:Nat):Prop:=∀ r:Rn,C.c f [.agg r.cells] (B (cq r)) none
def Ko.Spec (C:aZ) (f:Nat):Prop:=∀ (t:Tb) (g r pl:Int),t.Ok→C.c f [.agg t.cells,I g,I r,I pl] (I (rK t g r pl)) none
def Gh.Spec (C:aZ) (f:Nat):Prop:=∀ (t:Tb) (r:eG) (k:Int),t.Ok→C.c f [.agg t.cells,.agg r.cells,I k] (I (n9 t r k)) none
def qi.Spec (C:aZ) (f:Nat):Prop:=∀ l:List Rn,l.length=8→C.c f [.agg (b9 l)] (I (IQ fun p=>eW (aU l p))) none
def xk.Spec (C:aZ) (f:Nat):Prop:=∀ (t:Tb) (r:eG) (k q:Int),t.Ok→C.c f [.agg t.cells,.agg r.cells,I k,I q] (B (V3 t r k q)) none
def xl.Spec (C:aZ) (f:Nat):Prop:=∀ (p:Ph) (r:Rn),C.c f [.agg p.cells,.agg r.cells] (B (HA p r)) none
def Gi.Spec (C:aZ) (f:Nat):Prop:=∀ (t:Tb) (l:List Rn) (p:Nat),t.Ok→l.length=8→p < 8→C.c f [.agg t.cells,.agg (b9 l),I p] (B (i5 t l p)) none
def uk.Spec (C:aZ) (f:Nat):Prop:=∀ s:Int,C.c f [I s] (I (xj s)) none
section
variable {P:Program} (hm:P.follows .mixedOrders=true) {f:Nat}
include hm
theorem BF.ok (hc:aE P f=some tA):BF.Spec (Pure P) f:=by
 intro r
 refine ak hm hc (by show 1≤16; decide) (aj (keep:=[]) (i:=0) ?_)
 try simp only [I,B,D,RX,↓ KW,seval,tA,Z.H,Rn.cells]
 repeat' (((first | refine aR ?_ ?_ | refine ay ?_ ?_ | refine bk ?_ ?_)<;>intro h)<;>try simp only [I,B,D,RX,↓ KW,seval,Rn.cells,h])
 all_goals (try simp only [cq])
 all_goals (cases e1:(r.ax != 1)<;>cases e2:(r.ax != 2)<;>simp_all [B])
theorem uk.ok {fE:Nat} (hc:aE P f=some (rm fE)) (hE:sW.Spec (Pure P) fE):uk.Spec (Pure P) f:=by
 intro s
 refine ak hm hc (by show 1≤8; decide) (aj (keep:=[]) (i:=0) ?_)
 try simp only [I,B,D,RX,↓ KW,seval,rm,Z.H]
 obtain ⟨k,hk,hi⟩:=hE s
 refine af hk ?_
 try simp only [I,B,D,RX,↓ KW,seval]
 refine ie (fun y:Unit=>(⟨[(5,.dat (.fn (.func k) [] [.ref [.int .i64 s]]) none),(2,.ptr 4 0)],[(4,⟨[I 0],[]⟩)],[],400⟩:S)) (fun i _=>i=0) hi rfl (ic fun _=>rfl) (fun _=>rfl) ?_ ?_ () rfl ?_
 ·rintro i y ⟨⟩ hx' hi0 A back
  subst hi0
  obtain ⟨q,hq,rfl⟩:=nF hx'
  have hq:(ep s)[0]? = some q:=hq
  have he:xj s=q:=by rw [xj,List.head?_eq_getElem?,hq]
  try simp only [I,B,D,RX,↓ KW,seval]
  rw [he]
 ·rintro ⟨⟩ hl
  have hn:ep s=[]:=by
   have:(ep s).length=0:=by simpa [ep] using hl
   exact List.eq_nil_of_length_eq_zero this
  have he:xj s=-1:=by rw [xj,hn]; rfl
  try simp only [I,B,D,RX,↓ KW,seval]
  rw [he]
 ·refine ai (by decide) ?_ ?_ ?_ ?_<;>simp [LX,I,B,D]
theorem xl.ok (hc:aE P f=some pF):xl.Spec (Pure P) f:=by
 intro p r
 have q1:p.cells[12]? = some (B p.rest)∧p.cells[1]? = some (I p.min):=⟨rfl,rfl⟩
 have q2:r.cells[2]? = some (I r.fst)∧r.cells[1]? = some (I r.time)∧r.cells[4]? = some (I r.left):=⟨rfl,rfl,rfl⟩
 refine ak hm hc (by show 2≤34; decide) (aj (keep:=[]) (i:=0) ?_)
 try simp only [I,B,D,RX,↓ KW,seval,pF,Z.H,q1,q2]
 cases h1:(r.fst == 1)<;>cases h2:(r.fst == 2)<;>cases h3:p.rest<;>cases h4:decide (r.time ≥ p.min)<;>cases h5:(r.left == 0) <;>
 (try simp only [I,B,D,RX,↓ KW,seval,h1,h2,h3,h4,h5,q1,q2]; try (try simp only [I,B,D,RX,↓ KW,seval,h1,h2,h3,h4,h5,q1,q2]); simp_all [HA])
theorem qi.ok {fW:Nat} (hc:aE P f=some (nY fW)) (hW:gP.Spec (Pure P) fW):qi.Spec (Pure P) f:=by
 intro l hl
 have hw:=eI hl
 refine ak hm hc (by show 1≤19; decide) (aj (keep:=[]) (i:=0) ?_)
 try simp only [I,B,D,RY,↓ KW,seval,nY,Z.H,hw]
 refine aF (fun k:Nat=>(⟨[(7,.dat (I k) none),(6,.dat (.agg (b9 l)) none),(3,.dat (I (nN (fun p=>eW (aU l p)) k)) none)],[],[],400⟩:S)) (fun k=>8 - k) (fun k=>k≤8) ?_ 0 (by omega) ?_
 ·intro k hk A back
  have hwr:=aD (k:=k) (by omega)
  try simp only [I,B,D,RY,↓ KW,seval]
  refine ay (fun h=>?_) (fun h=>?_)<;>try simp only [I,B,D,RY,↓ KW,seval,h]
  ·have h8:k < 8:=by have:=of_decide_eq_true h; omega
   have hat:aB (b9 l) (k * 12) (some 12)=some (.agg (aU l k).cells):=iM hl h8
   have hn:nN (fun p=>eW (aU l p)) (k + 1)=if eW (aU l k) then dn (nN (fun p=>eW (aU l p)) k) k else nN (fun p=>eW (aU l p)) k:=rfl
   have hy:0≤(k:Int)∧(k:Int) < 8:=by omega
   have q0:(aU l k).cells[0]? = some (I (aU l k).ax):=rfl
   have qz:setCells aN 0 (aU l k).cells=(aU l k).cells:=rfl
   have ql:aN.length=12:=rfl
   have hg:((aU l k).ax == 1)=eW (aU l k):=rfl
   try simp only [I,B,D,RY,↓ KW,seval,hy,hat,q0,qz,ql,Rn.len]
   rw [hg]
   cases h2:eW (aU l k)
   ·try simp only [I,B,D,RY,↓ KW,seval]
    refine back (k + 1) _ (by omega) (by omega) (ai (by decide) ?_ ?_ ?_ ?_)<;>simp [LX,I,B,D,hwr,hn,h2]
   ·try simp only [I,B,D,RY,↓ KW,seval]
    refine af (hW _ _) ?_
    try simp only [I,B,D,RY,↓ KW,seval]
    refine back (k + 1) _ (by omega) (by omega) (ai (by decide) ?_ ?_ ?_ ?_)<;>simp [LX,I,B,D,hwr,hn,h2]
  ·have:k=8:=by have:=of_decide_eq_false h; omega
   subst this
   try simp only [I,B,D,RY,↓ KW,seval]
   rfl
 ·refine ai (by decide) ?_ ?_ ?_ ?_<;>simp [LX,I,B,D,nN]
theorem Gi.ok {fR fE:Nat} (hc:aE P f=some (tB fR fE)) (hR:BF.Spec (Pure P) fR) (hE:sW.Spec (Pure P) fE):Gi.Spec (Pure P) f:=by
 intro t l p ht hl hp
 have hat:aB (b9 l) (p * 12) (some 12)=some (.agg (aU l p).cells):=iM hl hp
 have hat1:(b9 l)[p * 12 + 1]? = some (I (aU l p).time):=by rw [mK hat (by omega)]; rfl
 have hrv:t.cells[119]? = some (I t.revert):=Tb.tail_at ht 3 (by omega)
 have hcn:=ht.ln.D8 hp
 have hy:0≤(p:Int)∧(p:Int) < 8:=by omega
 have hb:i5 t l p=(cq (aU l p) && decide ((aU l p).time ≥ t.revert) && oE l (dr t p)):=rfl
 refine ak hm hc (by show 3≤33; decide) (aj (keep:=[]) (i:=0) ?_)
 try simp only [I,B,D,RX,↓ KW,seval,tB,Z.H,hat,hat1,hrv,hcn,hy]
 refine af (hR _) ?_
 cases h1:cq (aU l p)
 ·try simp only [I,B,D,RX,↓ KW,seval,hat,hat1,hrv,hcn,hy]
  simp [hb,h1]
 try simp only [I,B,D,RX,↓ KW,seval,hat,hat1,hrv,hcn,hy]
 cases h2:decide ((aU l p).time < t.revert)
 rotate_left
 ·have:=of_decide_eq_true h2
  have h3:decide ((aU l p).time ≥ t.revert)=false:=by simp; omega
  try simp only [I,B,D,RX,↓ KW,seval,h2,hat,hat1,hrv,hcn,hy]
  simp [hb,h1,h3]
 have h3:decide ((aU l p).time ≥ t.revert)=true:=by have:=of_decide_eq_false h2; simp; omega
 have hb:i5 t l p=oE l (dr t p):=by rw [hb,h1,h3]; rfl
 try simp only [I,B,D,RX,↓ KW,seval,h2,hat,hat1,hrv,hcn,hy]
 obtain ⟨k,hk,hi⟩:=hE (dr t p)
 refine af hk ?_
 try simp only [I,B,D,RX,↓ KW,seval,hat,hat1,hrv,hcn,hy]
 refine ie (fun y:Unit=>(⟨[(26,.dat (.fn (.func k) [] [.ref [.int .i64 (dr t p)]]) none),(6,.ptr 6 0),(4,.ptr 5 0)],[(6,⟨[B false],[]⟩),(5,⟨b9 l,[]⟩)],[],400⟩:S)) (fun i _=>∀ q∈(ep (dr t p)).take i,cq (aU l q)=true) hi rfl (ic fun _=>rfl) (fun _=>rfl) ?_ ?_ () (by simp) ?_
 ·rintro i y ⟨⟩ hx' hal A back
  obtain ⟨q,hq,rfl⟩:=nF hx'
  have hq:(ep (dr t p))[i]? = some q:=hq
  have hm:=List.mem_of_getElem? hq
  have h8:=kY hm
  have hy2:0≤(q:Int)∧(q:Int) < 8:=by omega
  have hq1:aB (b9 l) (q * 12) (some 12)=some (.agg (aU l q).cells):=iM hl h8
  try simp only [I,B,D,RX,↓ KW,seval,hy2,hq1]
  refine af (hR _) ?_
  cases h4:cq (aU l q)
  ·try simp only [I,B,D,RX,↓ KW,seval]
   have:oE l (dr t p)=false:=by
    rw [Bool.eq_false_iff]; intro hh
    have:=th.1 hh q h8 (qU hm)
    rw [h4] at this; cases this
   rw [hb,this]
  ·try simp only [I,B,D,RX,↓ KW,seval]
   refine back () _ (fun q' hq'=>?_) ?_
   ·rw [List.take_add_one,hq] at hq'
    rcases List.mem_append.1 hq' with h|h
    ·exact hal q' h
    ·simp at h; rw [h]; exact h4
   ·refine ai (by decide) ?_ ?_ ?_ ?_<;>simp [LX,I,B,D]
 ·rintro ⟨⟩ hal
  rw [List.take_of_length_le (by simp [ep])] at hal
  have:oE l (dr t p)=true:=th.2 fun q h8 ht=>hal q (Bh h8 ht)
  try simp only [I,B,D,RX,↓ KW,seval]
  rw [hb,this]
 ·refine ai (by decide) ?_ ?_ ?_ ?_<;>simp [LX,I,B,D]
theorem C6.ok (hc:aE P f=some tC):C6.Spec (Pure P) f:=by
 intro t g r ht
 have hl:=Tb.len ht
 have hg:=Tb.mP ht
 refine ak hm hc (by show 3≤31; decide) (aj (keep:=[]) (i:=0) ?_)
 try simp only [I,B,D,RX,↓ KW,seval,tC,Z.H,hl,hg]
 by_cases h0:g < 0∨((t.groups.getD []).length:Int)≤g∨r < 0∨1 < r
 ·have hx:je t g r=none:=if_pos h0
  rw [hx]
  cases h1:decide (g < 0)
  ·try simp only [I,B,D,RX,↓ KW,seval,h1,hg]
   cases h2:decide (g ≥ ((t.groups.getD []).length:Int))
   ·try simp only [I,B,D,RX,↓ KW,seval,h2,hg]
    cases h3:decide (r < 0)
    ·have h4:decide (r > 1)=true:=by
      have:=of_decide_eq_false h1; have:=of_decide_eq_false h2; have:=of_decide_eq_false h3; simp; omega
     try simp only [I,B,D,RX,↓ KW,seval,h3,h4]
     try rfl
    ·try simp only [I,B,D,RX,↓ KW,seval,h3]
     try rfl
   ·try simp only [I,B,D,RX,↓ KW,seval,h2]
    try rfl
  ·try simp only [I,B,D,RX,↓ KW,seval,h1]
   try rfl
 ·have hx:je t g r=((t.groups.getD []).getD g.toNat default).row r.toNat:=if_neg h0
  have h1:decide (g < 0)=false:=by simp; omega
  have h2:decide (g ≥ ((t.groups.getD []).length:Int))=false:=by simp; omega
  have h3:decide (r < 0)=false:=by simp; omega
  have h4:decide (r > 1)=false:=by simp; omega
  obtain ⟨gr,hgr⟩:∃ gr,(t.groups.getD [])[g.toNat]? = some gr:=⟨_,List.getElem?_eq_getElem (by omega)⟩
  have hgd:(t.groups.getD []).getD g.toNat default=gr:=by rw [List.getD_eq_getElem?_getD,hgr]; rfl
  rw [hgd] at hx
  have hrow:(gr.cells.drop r.toNat)[0]? = some (aG aC (gr.row r.toNat)):=by
   have:r=0∨r=1:=by omega
   rcases this with rfl|rfl<;>rfl
  have hgl:gr.cells.length=2:=rfl
  have hgt:gr.cells.take 2=gr.cells:=rfl
  have hy:0≤g∧g < ((t.groups.getD []).length:Int):=by omega
  have hy2:0≤r∧r < 2:=by omega
  try simp only [I,B,D,RX,↓ KW,seval,h1,h2,h3,h4,hg,hgr,hgl,hgt,hy,hy2,hrow]
  rw [hx]
end
end Go.Eng
namespace Go.Eng
open Go
section
variable {P:Program} (hm:P.follows .mixedOrders=true) {f:Nat}
include hm
theorem BE.ok {fR fH:Nat} (hc:aE P f=some (rj fR fH)) (hR:C6.Spec (Pure P) fR) (hH:kz.Spec (Pure P) fH):BE.Spec (Pure P) f:=by
 intro t g r at' want ht
 have hl:=Tb.len ht
 have hp:=Tb.whole ht
 have hln:=BD ht g r
 refine ak hm hc (by show 5≤33; decide) (aj (keep:=[]) (i:=0) ?_)
 try simp only [I,B,D,RX,↓ KW,seval,rj,Z.H,hl,hp]
 refine af (hR t g r ht) ?_
 have hP:∀ i,SU t g r at' want i=(decide ((i:Int) > at') && dM want (((je t g r).getD []).getD i 0)):=fun _=>rfl
 have hE:Tt t g r at' want=match (List.range ((je t g r).getD []).length).find? (SU t g r at' want) with
  | some i=>(i:Int)
  | none=>-1:=rfl
 generalize SU t g r at' want=pr at *
 generalize Tt t g r at' want=res at *
 generalize je t g r=row at *
 try simp only [I,B,D,RX,↓ KW,seval]
 refine aF (fun k:Nat=>(⟨[(18,.dat (I k) none),(17,.dat (I (row.getD []).length) none),(16,.dat (aG aC row) none),(3,.dat (I at') none),(4,.dat (I want) none)],[],[],400⟩:S)) (fun k=>(row.getD []).length - k) (fun k=>k≤(row.getD []).length∧∀ q,q < k→pr q=false) ?_ 0 ⟨by omega,by omega⟩ ?_
 rotate_left
 ·refine ai (by decide) ?_ ?_ ?_ ?_<;>simp [LX,I,B,D]
 rintro k ⟨hk,hno⟩ A back
 have hwr:=aD (k:=k) (by omega)
 try simp only [I,B,D,RX,↓ KW,seval]
 cases h:decide ((k:Int) < ((row.getD []).length:Int))
 ·have hk':k=(row.getD []).length:=by have:=of_decide_eq_false h; omega
  have hf:(List.range (row.getD []).length).find? pr=none:=qa fun x hx=>hno x (by have:=List.mem_range.1 hx; omega)
  rw [hf] at hE
  try simp only [I,B,D,RX,↓ KW,seval,h]
  rw [hE]
 ·have h8:k < (row.getD []).length:=by have:=of_decide_eq_true h; omega
  obtain ⟨x,hx⟩:∃ x,(row.getD [])[k]? = some x:=⟨_,List.getElem?_eq_getElem h8⟩
  have hxd:(row.getD []).getD k 0=x:=by rw [List.getD_eq_getElem?_getD,hx]; rfl
  have hpk:=hP k
  rw [hxd] at hpk
  try simp only [I,B,D,RX,↓ KW,seval,h,hx,aC]
  refine ⟨by omega,?_⟩
  try simp only [I,B,D,RX,↓ KW,seval,hx,aC]
  cases h1:decide ((k:Int) > at')
  ·have hx2:pr k=false:=by rw [hpk,h1]; rfl
   try simp only [I,B,D,RX,↓ KW,seval,h1]
   refine back (k + 1) _ ⟨by omega,fun q hq'=>?_⟩ (by omega) ?_
   ·by_cases e:q=k
    ·rw [e]; exact hx2
    ·exact hno q (by omega)
   ·refine ai (by decide) ?_ ?_ ?_ ?_<;>simp [LX,I,B,D,hwr]
  ·try simp only [I,B,D,RX,↓ KW,seval,h1]
   refine af (hH want x) ?_
   cases h2:dM want x
   ·have hx2:pr k=false:=by rw [hpk,h1,h2]; rfl
    try simp only [I,B,D,RX,↓ KW,seval]
    refine back (k + 1) _ ⟨by omega,fun q hq'=>?_⟩ (by omega) ?_
    ·by_cases e:q=k
     ·rw [e]; exact hx2
     ·exact hno q (by omega)
    ·refine ai (by decide) ?_ ?_ ?_ ?_<;>simp [LX,I,B,D,hwr]
   ·have hx2:pr k=true:=by rw [hpk,h1,h2]; rfl
    have hf:(List.range (row.getD []).length).find? pr=some k:=tY (List.getElem?_range h8) hx2 (fun y hy=>hno y (by rw [List.take_range] at hy; have:=List.mem_range.1 hy; omega))
    rw [hf] at hE
    try simp only [I,B,D,RX,↓ KW,seval]
    rw [hE]
theorem Gf.ok {fR fO:Nat} (hc:aE P f=some (mz fR fO)) (hR:C6.Spec (Pure P) fR) (hO:setOf.Spec (Pure P) fO):Gf.Spec (Pure P) f:=by
 intro t g ht
 have hl:=Tb.len ht
 have hp:=Tb.whole ht
 have l0:=BD ht g 0
 have l1:=BD ht g 1
 refine ak hm hc (by show 2≤14; decide) (aj (keep:=[]) (i:=0) ?_)
 try simp only [I,B,D,RX,↓ KW,seval,mz,Z.H,hl,hp]
 refine af (hR t g 0 ht) ?_
 try simp only [I,B,D,RX,↓ KW,seval,hp]
 refine af (hO _ (by omega)) ?_
 try simp only [I,B,D,RX,↓ KW,seval,hp]
 refine af (hR t g 1 ht) ?_
 try simp only [I,B,D,RX,↓ KW,seval,hp]
 refine af (hO _ (by omega)) ?_
 try simp only [I,B,D,RX,↓ KW,seval]
 rfl
theorem Gg.ok {fM:Nat} (hc:aE P f=some (jZ fM)) (hM:Gf.Spec (Pure P) fM):Gg.Spec (Pure P) f:=by
 intro t g want ht
 have hl:=Tb.len ht
 have hp:=Tb.whole ht
 have hg:=Tb.mP ht
 have hgl:=ht.groups
 have hE:Tw t g want=match (List.range (t.groups.getD []).length).find? (Wx t g want) with
  | some k=>Tv t g k
  | none=>-1:=rfl
 have hP:∀ k,Wx t g want k=(cn .i64 (Tu t (Tv t g k)) want != 0):=fun _=>rfl
 have hF:∀ k,Tv t g k=(IntKind.i64.wrap (IntKind.i64.wrap (V2 t g + 1) + k)).tmod (t.groups.getD []).length:=fun _=>rfl
 have hw0:IntKind.i64.wrap (((t.groups.getD []).length:Int) - 1)=IntKind.i64.wrap ((t.groups.getD []).length - 1):=rfl
 refine ak hm hc (by show 3≤40; decide) (aj (keep:=[]) (i:=0) ?_)
 try simp only [I,B,D,RX,↓ KW,seval,jZ,Z.H,hl,hp,hg]
 have hG:(g < 0∨((t.groups.getD []).length:Int)≤g→IntKind.i64.wrap (((t.groups.getD []).length:Int) - 1)=V2 t g)∧(¬ (g < 0∨((t.groups.getD []).length:Int)≤g)→g=V2 t g) :=
  ⟨fun h=>(if_pos h).symm,fun h=>(if_neg h).symm⟩
 generalize hgr:V2 t g=g0 at *
 generalize Tv t g=fg at *
 generalize Wx t g want=pr at *
 generalize Tw t g want=res at *
 cases c1:decide (g < 0)
 cases c2:decide (g ≥ ((t.groups.getD []).length:Int))
 ·have e0:=hG.2 (by have:=of_decide_eq_false c1; have:=of_decide_eq_false c2; omega)
  subst e0
  try simp only [I,B,D,RX,↓ KW,seval,c1,c2,hl,hp,hg]
  refine aF (fun k:Nat=>(⟨[(23,.dat (I k) none),(22,.dat (I (t.groups.getD []).length) none),(1,.dat (I g) none),(7,.dat (I (t.groups.getD []).length) none),(3,.ptr 4 0),(2,.dat (I want) none)],[(4,⟨t.cells,[]⟩)],[],400⟩:S)) (fun k=>(t.groups.getD []).length - k) (fun k=>k≤(t.groups.getD []).length∧∀ q,q < k→pr q=false) ?_ 0 ⟨by omega,by omega⟩ ?_
  rotate_left
  ·refine ai (by decide) ?_ ?_ ?_ ?_<;>simp [LX,I,B,D]
  rintro k ⟨hk,hno⟩ A back
  have hwr:=aD (k:=k) (by omega)
  try simp only [I,B,D,RX,↓ KW,seval]
  cases h:decide ((k:Int) < ((t.groups.getD []).length:Int))
  ·have hk':k=(t.groups.getD []).length:=by have:=of_decide_eq_false h; omega
   have hf:(List.range (t.groups.getD []).length).find? pr=none:=qa fun x hx=>hno x (by have:=List.mem_range.1 hx; omega)
   rw [hf] at hE
   try simp only [I,B,D,RX,↓ KW,seval,h]
   rw [hE]
  ·have h8:k < (t.groups.getD []).length:=by have:=of_decide_eq_true h; omega
   have hFk:=hF k
   have hne:(((t.groups.getD []).length:Int)=0)=False:=by simp; intro h; rw [h] at h8; simp at h8
   have hPk:=hP k
   try simp only [I,B,D,RX,↓ KW,seval,h,hne,hl,hp,hg]
   rw [← hFk]
   refine af (hM t (fg k) ht) ?_
   cases h2:(cn .i64 (Tu t (fg k)) want != 0)
   ·have hx2:pr k=false:=by rw [hPk,h2]
    try simp only [I,B,D,RX,↓ KW,seval,h2]
    refine back (k + 1) _ ⟨by omega,fun q hq'=>?_⟩ (by omega) ?_
    ·by_cases e:q=k
     ·rw [e]; exact hx2
     ·exact hno q (by omega)
    ·refine ai (by decide) ?_ ?_ ?_ ?_<;>simp [LX,I,B,D,hwr]
   ·have hx2:pr k=true:=by rw [hPk,h2]
    have hf:(List.range (t.groups.getD []).length).find? pr=some k:=tY (List.getElem?_range h8) hx2 (fun y hy=>hno y (by rw [List.take_range] at hy; have:=List.mem_range.1 hy; omega))
    rw [hf] at hE
    try simp only [I,B,D,RX,↓ KW,seval,h2]
    rw [hE]
 ·have e0:=hG.1 (.inr (by have:=of_decide_eq_true c2; omega))
  try simp only [I,B,D,RX,↓ KW,seval,c1,c2,hl,hp,hg]
  refine aF (fun k:Nat=>(⟨[(23,.dat (I k) none),(22,.dat (I (t.groups.getD []).length) none),(1,.dat (I g0) none),(7,.dat (I (t.groups.getD []).length) none),(3,.ptr 4 0),(2,.dat (I want) none)],[(4,⟨t.cells,[]⟩)],[],400⟩:S)) (fun k=>(t.groups.getD []).length - k) (fun k=>k≤(t.groups.getD []).length∧∀ q,q < k→pr q=false) ?_ 0 ⟨by omega,by omega⟩ ?_
  rotate_left
  ·refine ai (by decide) ?_ ?_ ?_ ?_<;>simp [LX,I,B,D,e0]
  rintro k ⟨hk,hno⟩ A back
  have hwr:=aD (k:=k) (by omega)
  try simp only [I,B,D,RX,↓ KW,seval]
  cases h:decide ((k:Int) < ((t.groups.getD []).length:Int))
  ·have hk':k=(t.groups.getD []).length:=by have:=of_decide_eq_false h; omega
   have hf:(List.range (t.groups.getD []).length).find? pr=none:=qa fun x hx=>hno x (by have:=List.mem_range.1 hx; omega)
   rw [hf] at hE
   try simp only [I,B,D,RX,↓ KW,seval,h]
   rw [hE]
  ·have h8:k < (t.groups.getD []).length:=by have:=of_decide_eq_true h; omega
   have hFk:=hF k
   have hne:(((t.groups.getD []).length:Int)=0)=False:=by simp; intro h; rw [h] at h8; simp at h8
   have hPk:=hP k
   try simp only [I,B,D,RX,↓ KW,seval,h,hne,hl,hp,hg]
   rw [← hFk]
   refine af (hM t (fg k) ht) ?_
   cases h2:(cn .i64 (Tu t (fg k)) want != 0)
   ·have hx2:pr k=false:=by rw [hPk,h2]
    try simp only [I,B,D,RX,↓ KW,seval,h2]
    refine back (k + 1) _ ⟨by omega,fun q hq'=>?_⟩ (by omega) ?_
    ·by_cases e:q=k
     ·rw [e]; exact hx2
     ·exact hno q (by omega)
    ·refine ai (by decide) ?_ ?_ ?_ ?_<;>simp [LX,I,B,D,hwr]
   ·have hx2:pr k=true:=by rw [hPk,h2]
    have hf:(List.range (t.groups.getD []).length).find? pr=some k:=tY (List.getElem?_range h8) hx2 (fun y hy=>hno y (by rw [List.take_range] at hy; have:=List.mem_range.1 hy; omega))
    rw [hf] at hE
    try simp only [I,B,D,RX,↓ KW,seval,h2]
    rw [hE]
 ·have e0:=hG.1 (.inl (of_decide_eq_true c1))
  try simp only [I,B,D,RX,↓ KW,seval,c1,hl,hp,hg]
  refine aF (fun k:Nat=>(⟨[(23,.dat (I k) none),(22,.dat (I (t.groups.getD []).length) none),(1,.dat (I g0) none),(7,.dat (I (t.groups.getD []).length) none),(3,.ptr 4 0),(2,.dat (I want) none)],[(4,⟨t.cells,[]⟩)],[],400⟩:S)) (fun k=>(t.groups.getD []).length - k) (fun k=>k≤(t.groups.getD []).length∧∀ q,q < k→pr q=false) ?_ 0 ⟨by omega,by omega⟩ ?_
  rotate_left
  ·refine ai (by decide) ?_ ?_ ?_ ?_<;>simp [LX,I,B,D,e0]
  rintro k ⟨hk,hno⟩ A back
  have hwr:=aD (k:=k) (by omega)
  try simp only [I,B,D,RX,↓ KW,seval]
  cases h:decide ((k:Int) < ((t.groups.getD []).length:Int))
  ·have hk':k=(t.groups.getD []).length:=by have:=of_decide_eq_false h; omega
   have hf:(List.range (t.groups.getD []).length).find? pr=none:=qa fun x hx=>hno x (by have:=List.mem_range.1 hx; omega)
   rw [hf] at hE
   try simp only [I,B,D,RX,↓ KW,seval,h]
   rw [hE]
  ·have h8:k < (t.groups.getD []).length:=by have:=of_decide_eq_true h; omega
   have hFk:=hF k
   have hne:(((t.groups.getD []).length:Int)=0)=False:=by simp; intro h; rw [h] at h8; simp at h8
   have hPk:=hP k
   try simp only [I,B,D,RX,↓ KW,seval,h,hne,hl,hp,hg]
   rw [← hFk]
   refine af (hM t (fg k) ht) ?_
   cases h2:(cn .i64 (Tu t (fg k)) want != 0)
   ·have hx2:pr k=false:=by rw [hPk,h2]
    try simp only [I,B,D,RX,↓ KW,seval,h2]
    refine back (k + 1) _ ⟨by omega,fun q hq'=>?_⟩ (by omega) ?_
    ·by_cases e:q=k
     ·rw [e]; exact hx2
     ·exact hno q (by omega)
    ·refine ai (by decide) ?_ ?_ ?_ ?_<;>simp [LX,I,B,D,hwr]
   ·have hx2:pr k=true:=by rw [hPk,h2]
    have hf:(List.range (t.groups.getD []).length).find? pr=some k:=tY (List.getElem?_range h8) hx2 (fun y hy=>hno y (by rw [List.take_range] at hy; have:=List.mem_range.1 hy; omega))
    rw [hf] at hE
    try simp only [I,B,D,RX,↓ KW,seval,h2]
    rw [hE]
theorem Ko.ok {e fO:Nat} (hc:aE P f=some (vw e fO)) (hO:setOf.Spec (Pure P) fO):Ko.Spec (Pure P) f:=by
 intro t g r pl ht
 have hl:=Tb.len ht
 have hg:=Tb.mP ht
 refine ak hm hc (by show 4≤55; decide) (aj (keep:=[]) (i:=0) ?_)
 try simp only [I,B,D,RX,↓ KW,seval,vw,Z.H,hl,hg]
 by_cases h0:g < 0∨((t.groups.getD []).length:Int)≤g∨r < 0∨1 < r
 ·have hx:rK t g r pl=-1:=if_pos h0
  rw [hx]
  cases h1:decide (g < 0)
  ·try simp only [I,B,D,RX,↓ KW,seval,h1,hg]
   cases h2:decide (g ≥ ((t.groups.getD []).length:Int))
   ·try simp only [I,B,D,RX,↓ KW,seval,h2,hg]
    cases h3:decide (r < 0)
    ·have h4:decide (r > 1)=true:=by
      have:=of_decide_eq_false h1; have:=of_decide_eq_false h2; have:=of_decide_eq_false h3; simp; omega
     try simp only [I,B,D,RX,↓ KW,seval,h3,h4]
    ·try simp only [I,B,D,RX,↓ KW,seval,h3]
   ·try simp only [I,B,D,RX,↓ KW,seval,h2]
  ·try simp only [I,B,D,RX,↓ KW,seval,h1]
 have hx:je t g r=((t.groups.getD []).getD g.toNat default).row r.toNat:=if_neg h0
 have hat:rK t g r pl=if pl < 0∨(((je t g r).getD []).length:Int)≤pl then -1
  else if 0≤((je t g r).getD []).getD pl.toNat 0∧((je t g r).getD []).getD pl.toNat 0 < 8 then ((je t g r).getD []).getD pl.toNat 0 else -1:=if_neg h0
 have h1:decide (g < 0)=false:=by simp; omega
 have h2:decide (g ≥ ((t.groups.getD []).length:Int))=false:=by simp; omega
 have h3:decide (r < 0)=false:=by simp; omega
 have h4:decide (r > 1)=false:=by simp; omega
 obtain ⟨gr,hgr⟩:∃ gr,(t.groups.getD [])[g.toNat]? = some gr:=⟨_,List.getElem?_eq_getElem (by omega)⟩
 have hgd:(t.groups.getD []).getD g.toNat default=gr:=by rw [List.getD_eq_getElem?_getD,hgr]; rfl
 rw [hgd] at hx
 have hrow:(gr.cells.drop r.toNat)[0]? = some (aG aC (gr.row r.toNat)):=by
  have:r=0∨r=1:=by omega
  rcases this with rfl|rfl<;>rfl
 rw [← hx] at hrow
 have hgl:gr.cells.length=2:=rfl
 have hgt:gr.cells.take 2=gr.cells:=rfl
 have hy:0≤g∧g < ((t.groups.getD []).length:Int):=by omega
 have hy2:0≤r∧r < 2:=by omega
 generalize rK t g r pl=res at *
 generalize je t g r=row at *
 try simp only [I,B,D,RX,↓ KW,seval,h1,h2,h3,h4,hg,hgr,hgl,hgt,hy,hy2,hrow]
 by_cases h5:pl < 0∨((row.getD []).length:Int)≤pl
 ·rw [if_pos h5] at hat
  rw [hat]
  cases h6:decide (pl < 0)
  ·have h7:decide (pl ≥ ((row.getD []).length:Int))=true:=by have:=of_decide_eq_false h6; simp; omega
   try simp only [I,B,D,RX,↓ KW,seval,h6,h7]
  ·try simp only [I,B,D,RX,↓ KW,seval,h6]
 ·rw [if_neg h5] at hat
  have h6:decide (pl < 0)=false:=by simp; omega
  have h7:decide (pl ≥ ((row.getD []).length:Int))=false:=by simp; omega
  obtain ⟨x,hx2⟩:∃ x,(row.getD [])[pl.toNat]? = some x:=⟨_,List.getElem?_eq_getElem (by omega)⟩
  have hxd:(row.getD []).getD pl.toNat 0=x:=by rw [List.getD_eq_getElem?_getD,hx2]; rfl
  rw [hxd] at hat
  have ho:=Ed x
  have hy3:0≤pl∧pl < ((row.getD []).length:Int):=by omega
  try simp only [I,B,D,RX,↓ KW,seval,h6,h7,hy3,hx2,aC]
  have hOx:=hO (some [x]) (by simp)
  obtain ⟨z,hz⟩:∃ z,SJ ((some [x]:Option (List Int)).getD [])=z:=⟨_,rfl⟩
  have hs:(z == 0)=!(decide (0≤x) && decide (x < 8)):=by rw [← hz]; exact ho
  rw [hz] at hOx
  refine af hOx ?_
  by_cases h8:0≤x∧x < 8
  ·rw [if_pos h8] at hat
   rw [decide_eq_true h8.1,decide_eq_true h8.2] at hs
   try simp only [I,B,D,RX,↓ KW,seval,hs,hy3,hx2,aC,Bool.and_self]
   rw [hat]
  ·rw [if_neg h8] at hat
   have h9:(decide (0≤x) && decide (x < 8))=false:=by
    rw [← Bool.decide_and]; exact decide_eq_false h8
   rw [h9] at hs
   try simp only [I,B,D,RX,↓ KW,seval,hs,hy3,hx2,aC]
   rw [hat]
theorem Gh.ok {fA:Nat} (hc:aE P f=some (tw fA)) (hA:Ko.Spec (Pure P) fA):Gh.Spec (Pure P) f:=by
 intro t r k ht
 have hl:=Tb.len ht
 have hp:=Tb.whole ht
 have hr0:r.cells[0]? = some (I r.group):=rfl
 refine ak hm hc (by show 3≤22; decide) (aj (keep:=[]) (i:=0) ?_)
 try simp only [I,B,D,RX,↓ KW,seval,tw,Z.H,hl,hp,hr0]
 cases h1:decide (k < 0)
 ·try simp only [I,B,D,RX,↓ KW,seval,h1]
  cases h2:decide (k > 1)
  ·try simp only [I,B,D,RX,↓ KW,seval,h2,hp,hr0]
   have a:=of_decide_eq_false h1
   have b:=of_decide_eq_false h2
   have hy:0≤k∧k < 2:=by omega
   have hr1:r.cells[1 + k.toNat]? = some (I (r.at k)):=by
    have:k=0∨k=1:=by omega
    rcases this with rfl|rfl<;>rfl
   try simp only [I,B,D,RX,↓ KW,seval,hy,hr1]
   refine af (hA t r.group k (r.at k) ht) ?_
   try simp only [I,B,D,RX,↓ KW,seval]
   rw [n9,if_neg (by omega)]
  ·try simp only [I,B,D,RX,↓ KW,seval,h2]
   rw [n9,if_pos (.inr (of_decide_eq_true h2))]
 ·try simp only [I,B,D,RX,↓ KW,seval,h1]
  rw [n9,if_pos (.inl (of_decide_eq_true h1))]
theorem xk.ok {fW:Nat} (hc:aE P f=some (pG fW)) (hW:vq.Spec (Pure P) fW):xk.Spec (Pure P) f:=by
 intro t r k q ht
 have hl:=Tb.len ht
 have hp:=Tb.whole ht
 have hr0:r.cells[0]? = some (I r.group):=rfl
 have hwr:=fun h=>kQ (t:=t) (q:=q) h
 have hE:V3 t r k q=((az t q).2 && (az t q).1.group == r.group && (az t q).1.ring != k && decide ((az t q).1.pos > r.at (az t q).1.ring)):=rfl
 refine ak hm hc (by show 4≤41; decide) (aj (keep:=[]) (i:=0) ?_)
 try simp only [I,B,D,RX,↓ KW,seval,pG,Z.H,hl,hp,hr0]
 refine af (hW t q ht) ?_
 generalize (az t q).2=ok at *
 generalize (az t q).1=w at *
 generalize V3 t r k q=res at *
 cases ok
 ·try simp only [I,B,D,RX,↓ KW,seval]
  rw [hE]; rfl
 try simp only [I,B,D,RX,↓ KW,seval,hr0]
 have hy:0≤w.ring∧w.ring < 2:=hwr rfl
 have hr1:r.cells[1 + w.ring.toNat]? = some (I (r.at w.ring)):=by
  have:w.ring=0∨w.ring=1:=by omega
  rcases this with e|e<;>rw [e]<;>rfl
 cases h1:(w.group == r.group)
 ·try simp only [I,B,D,RX,↓ KW,seval,h1]
  rw [hE,h1]; rfl
 try simp only [I,B,D,RX,↓ KW,seval,h1]
 cases h2:(w.ring != k)
 ·try simp only [I,B,D,RX,↓ KW,seval,h2]
  rw [hE,h1,h2]; rfl
 try simp only [I,B,D,RX,↓ KW,seval,h2,hy,hr1]
 rw [hE,h1,h2]; rfl
end
end Go.Eng
namespace Go.Eng
open Go
open Ieee
set_option exponentiation.threshold 4000
def rk (x:Nat):Int:=if x < 2 ^ 63 then (x:Int) else -((x:Int) - (2 ^ 63:Nat)) - 1
def fv:Option Nat→AV
 | none=>.d4
 | some n=>Fl n
theorem MN:jx .d4=.dat .d4 none:=rfl
end Go.Eng
namespace Go.Eng
open Go
section
open Z
def C7:List AV:=[.float .f64 0,.float .f64 0,.float .f64 0,.float .f64 0,.float .f64 0,.float .f64 0,.float .f64 0,.float .f64 0,.float .f64 0,.float .f64 0,.float .f64 0,.float .f64 0,.float .f64 0,.float .f64 0,.float .f64 0,.float .f64 0]
def mB (g0 g1 g2 g3 g4 g5:Nat):bF:=⟨200,[.tmp 4],r [V 4 .bl] (r [V 5 .bl] (r [o 6 (.alloc C7)] (r [V 7 (i 16)] (r [o 18 (.build [.bl,i 0,i 0,i 0,i 0,F] []),o 8 (.alloc [.bl,i 0,i 0,i 0,i 0,F]),n (s 8 18 6)] (j (r [V 9 (i 0)] (u 0 (.loop (j (r [M 19 9,M 20 0,o 21 (h 20),o 22 (b .lss 19 21),M 23 22,p 24 (m 9) 23,p 25 (bb .lss 24 (i 120)) 23,o 26 (P 23 25),M 27 26,p 28 (m 5) 27,p 29 (h 28) 27,p 30 (bb .lss 29 (i 1500)) 27,o 31 (P 27 30)] (c 31 z (.exit 0))) (j (u 1 (r [M 34 0,M 35 9,o 36 (a 34 35 1),o 37 (l 36),o 38 (.call g0 [t 37,k (i 1099511627776)]),M 10 38] (r [M 39 10,o 40 (bb .quo 39 (i 16)),o 41 (bb .rem 40 (i 64)),M 11 41] (r [M 42 10,o 43 (bb .quo 42 (i 1024)),o 44 (bb .rem 43 (i 30)),o 45 (.bin .add (k (i 1)) (t 44)),M 12 45] (r [o 46 (.build [.bl,i 0,i 0,i 0,i 0,F] []),o 13 (.alloc [.bl,i 0,i 0,i 0,i 0,F]),n (s 13 46 6)] (j (r [M 47 10,o 48 (bb .rem 47 (i 16))] (u 2 (j (r [o 50 (bb .eql 48 (i 0)),M 49 50] (c 49 z (r [o 51 (bb .eql 48 (i 1)),M 49 51] (c 49 z (R [o 52 (bb .eql 48 (i 2)),M 49 52]))))) (c 49 (R [M 53 11,o 54 (bb .rem 53 (i 16)),M 55 11,o 56 (bb .rem 55 (i 16)),o 57 (A 6 56 16 1),o 58 (l 57),o 59 (.bin .sub (k (.float .f64 4626322717216342016)) (t 58)),o 60 (A 6 54 16 1),n (s 60 59 1)]) (r [o 62 (bb .eql 48 (i 3)),M 61 62] (c 61 (R [M 63 11,o 64 (bb .rem 63 (i 16)),o 65 (.call g1 []),o 66 (.call g2 [k (i 1)]),o 67 (.call g3 [k (.float .f64 0),k (.float .f64 13830554455654793216)]),o 68 (.build [.float .f64 0,.float .f64 0,.float .f64 0,.float .f64 0,.float .f64 0,.float .f64 0] [(0,1,t 65),(1,1,t 66),(2,1,t 67),(3,1,k (.float .f64 4613937818241073152)),(4,1,k (.float .f64 4711630319722168320)),(5,1,k (.float .f64 4604930618986332160))]),M 69 11,o 70 (bb .rem 69 (i 6)),o 71 (.Cx (t 68) (t 70) 6 1 none),o 72 (A 6 64 16 1),n (s 72 71 1)]) (j (r [o 74 (bb .eql 48 (i 4)),M 73 74] (c 73 z (R [o 75 (bb .eql 48 (i 5)),M 73 75]))) (c 73 (R [M 76 10,o 77 (bb .quo 76 (i 1024)),o 78 (bb .rem 77 (i 256)),o 79 (f 13 1),n (s 79 78 1)]) (r [o 81 (bb .eql 48 (i 6)),M 80 81] (c 80 (R [o 82 (f 8 2),o 83 (l 82),M 84 11,o 85 (bb .rem 84 (i 4)),o 86 (.qm .u64 (t 85)),o 87 (.bin .shl (k (i 1)) (t 86)),o 88 (b .xor 83 87),o 89 (f 8 2),n (s 89 88 1)]) (r [o 91 (bb .eql 48 (i 7)),M 90 91] (c 90 (R [M 92 11,o 93 (bb .rem 92 (i 4)),o 94 (.qm .u64 (t 93)),o 95 (.bin .shl (k (i 1)) (t 94)),o 96 (f 13 3),n (s 96 95 1)]) (r [o 98 (bb .eql 48 (i 8)),M 97 98] (c 97 (R [o 99 (f 8 3),o 100 (l 99),M 101 11,o 102 (bb .rem 101 (i 4)),o 103 (.qm .u64 (t 102)),o 104 (.bin .shl (k (i 1)) (t 103)),o 105 (b .xor 100 104),o 106 (f 8 3),n (s 106 105 1)]) (r [o 108 (bb .eql 48 (i 9)),M 107 108] (c 107 (R [M 109 12,o 110 (bb .mul 109 (i 6)),M 12 110]) (r [o 112 (bb .eql 48 (i 10)),M 111 112] (c 111 (r [V 14 (i 0)] (u 3 (.loop (j (r [M 113 14,o 114 (bb .lss 113 (i 16))] (c 114 z (.exit 3))) (j (u 4 (R [M 117 14,M 118 11,o 119 (bb .rem 118 (i 2)),o 120 (bb .mul 119 (i 20)),o 121 (.Cf .f64 (t 120)),o 122 (A 6 117 16 1),n (s 122 121 1)])) (R [M 115 14,o 116 (bb .add 115 (i 1)),M 14 116])))))) (r [o 124 (bb .eql 48 (i 11)),M 123 124] (c 123 (R [M 125 11,o 126 (bb .rem 125 (i 17)),M 7 126]) (r [o 128 (bb .eql 48 (i 12)),M 127 128] (c 127 (r [o 129 (f 8 3),n (ss 129 (i 0) 1)] (R [V 7 (i 16)])) (r [o 131 (bb .eql 48 (i 13)),M 130 131] (c 130 (j (r [M 132 1,M 133 132,p 134 (m 11) 133,p 135 (bb .rem 134 (i 4)) 133,p 136 (bb .eql 135 (i 0)) 133,o 137 (P 133 136)] (c 137 (R [M 138 11,o 139 (.qm .u64 (t 138)),o 140 (.bin .shl (k (i 256)) (t 139)),o 141 (f 13 1),n (s 141 140 1)]) z)) (j (r [M 142 1,M 143 142,p 144 (m 11) 143,p 145 (bb .rem 144 (i 4)) 143,p 146 (bb .eql 145 (i 1)) 143,o 147 (P 143 146)] (c 147 (R [M 148 10,o 149 (bb .quo 148 (i 1024)),o 150 (bb .rem 149 (i 256)),o 151 (f 13 4),n (s 151 150 1)]) z)) (R [M 152 1,M 153 152,p 154 (m 11) 153,p 155 (bb .rem 154 (i 2)) 153,p 156 (bb .eql 155 (i 0)) 153,o 157 (P 153 156),o 158 (f 13 5),n (s 158 157 1)]))) z)))))))))))))))))))))))) (r [M 159 7,o 160 (.S9 (t 6) 16 1 (t 159)),o 161 (.Cg g4 1 8 (t 160) (t 6)),M 15 161] (r [V 16 (i 0)] (u 5 (.loop (j (r [M 162 16,M 163 12,o 164 (b .lss 162 163),M 165 164,p 166 (m 5) 165,p 167 (h 166) 165,p 168 (bb .lss 167 (i 1500)) 165,o 169 (P 165 168)] (c 169 z (.exit 5))) (j (u 6 (r [M 172 15,o 173 (f 8 2),o 174 (l 173),o 175 (f 8 3),o 176 (l 175),o 177 (.build [.bl,i 0,i 0,i 0,i 0,F] [(0,1,t 172),(2,1,t 174),(3,1,t 176)]),o 17 (.alloc [.bl,i 0,i 0,i 0,i 0,F]),n (s 17 177 6)] (j (r [M 178 16,o 179 (bb .eql 178 (i 0))] (c 179 (r [o 180 (f 13 1),o 181 (l 180),o 182 (f 17 1),n (s 182 181 1)] (r [o 183 (f 13 4),o 184 (l 183),o 185 (f 17 4),n (s 185 184 1)] (r [o 186 (f 17 3),o 187 (l 186),o 188 (f 13 3),o 189 (l 188),o 190 (b .or 187 189),o 191 (f 17 3),n (s 191 190 1)] (R [o 192 (f 13 5),o 193 (l 192),o 194 (f 17 5),n (s 194 193 1)])))) z)) (R [M 195 5,o 196 (L 17 6),o 197 (.pL g5 6 [t 196]),o 198 (.app g5 6 64 (t 195) (t 197)),M 5 198])))) (R [M 170 16,o 171 (bb .add 170 (i 1)),M 16 171]))))))))))))) (R [M 32 9,o 33 (bb .add 32 (i 1)),M 9 33])))))) (r [M 199 5,M 4 199] y))))))⟩
def tK:bF:=⟨2,[.tmp 0],r [V 0 (.float .f64 0)] (r [o 1 (.xt .ffrom (k (.int .u64 9221120237041090561))),M 0 1] y)⟩
def tL:bF:=⟨8,[.tmp 2],r [V 2 (.float .f64 0)] (r [V 3 (.int .u64 0)] (j (r [M 4 0,o 5 (bb .geq 4 (i 0))] (c 5 (R [V 3 (.int .u64 9218868437227405312)]) (R [V 3 (.int .u64 18442240474082181120)]))) (r [M 6 3,o 7 (.xt .ffrom (t 6)),M 2 7] y)))⟩
def kR:bF:=⟨13,[.tmp 4],r [V 4 (.float .f64 0)] (r [M 5 0,o 6 (.xt .EC (t 5)),o 7 (bb .andNot 6 (.int .u64 9223372036854775808)),M 8 1,o 9 (.xt .EC (t 8)),o 10 (bb .and 9 (.int .u64 9223372036854775808)),o 11 (b .or 7 10),o 12 (.xt .ffrom (t 11)),M 4 12] y)⟩
end
end Go.Eng
namespace Go.Eng
open Go
def Xm (x:Nat):Bool:=Kz x 13920209183539462144 && J0 x 4696837146684686336
def Yq (d:vZ) (on:Bool) (dF:Int) (x:Nat):Bool × Int :=
 if Xm x then (if Kz x d.on then (true,0) else if J0 x d.off then (false,0) else (on,0)) else (on,bD dF)
def Gj (d:vZ) (on:Bool) (dF:Int):Option Nat→Bool × Int
 | some x=>Yq d on dF x
 | none=>(on,bD dF)
def zj (on:Bool) (dF:Int):Bool:=on || decide (dF ≥ 3)
def Wy (No Cq:Int) (b:Bool):Int × Int:=if b then (bD No,0) else (0,bD Cq)
def Pq (a b No Cq:Int):Bool:=(decide (a > 0) && decide (No ≥ a)) || (decide (b > 0) && decide (Cq ≥ b))
def c9 (n:Int):Int:=j8 n 0 9999
def Pt (delay extend held tail:Int) (out b:Bool):Int × Int × Bool :=
 if !b && (held == 0 && (tail == 0 && out == false)) then (held,tail,out)
 else if (if b then bD held else 0) > c9 delay then ((if b then bD held else 0),c9 extend,true)
 else if out && decide (c9 tail > 0) then ((if b then bD held else 0),c9 tail - 1,true)
 else ((if b then bD held else 0),0,false)
def HB (x:Nat):Int:=if Nm x then (tk x:Int) else 0
def HC (d:vZ) (c:Ch) (x:Option Nat):Ch :=
  ⟨(Gj d c.on c.dF x).1,(Gj d c.on c.dF x).2,(Wy c.No c.Cq (zj (Gj d c.on c.dF x).1 (Gj d c.on c.dF x).2)).1,(Wy c.No c.Cq (zj (Gj d c.on c.dF x).1 (Gj d c.on c.dF x).2)).2,
   (Pt (HB d.delay) (HB d.extend) c.held c.tail c.out (zj (Gj d c.on c.dF x).1 (Gj d c.on c.dF x).2)).1,(Pt (HB d.delay) (HB d.extend) c.held c.tail c.out (zj (Gj d c.on c.dF x).1 (Gj d c.on c.dF x).2)).2.1,(Pt (HB d.delay) (HB d.extend) c.held c.tail c.out (zj (Gj d c.on c.dF x).1 (Gj d c.on c.dF x).2)).2.2⟩
def Xn:Nat:=9221120237041090561
def BG (l:List Ch) (k:Nat):Ch:=l.getD k default
def Gk (l:List (Option Nat)) (k:Nat):Option Nat:=l.getD k none
def oG (t:Tb) (l:List Ch) (x:List (Option Nat)) (n:Nat):List Ch:=(List.range n).map fun k=>HC (FN t k) (BG l k) (Gk x k)
def iR (x:Option Nat):List AV:=[fv x]
def C8 (d:vZ) (c:Ch):Bool:=c.out || (decide (c.dF ≥ 3) || Pq d.maxOn d.sD c.No c.Cq)
def j4 (t:Tb) (l:List Ch):Nat→Int
 | 0=>0
 | k + 1=>if C8 (FN t k) (BG l k) then dn (j4 t l k) (FN t k).phase else j4 t l k
def tM.Spec (C:aZ) (f:Nat):Prop:=∀ n:Int,C.c f [I n] (I (bD n)) none
def BH.Spec (C:aZ) (f:Nat):Prop:=∀ (d:vZ) (on:Bool) (dF:Int) (x:Option Nat),C.c f [.agg d.cells,.agg [B on,I dF],fv x] (.agg [B (Gj d on dF x).1,I (Gj d on dF x).2]) none
def yu.Spec (C:aZ) (f:Nat):Prop:=∀ (on:Bool) (dF:Int),C.c f [.agg [B on,I dF]] (B (decide (dF ≥ 3))) none
def BI.Spec (C:aZ) (f:Nat):Prop:=∀ (on:Bool) (dF:Int),C.c f [.agg [B on,I dF]] (B (zj on dF)) none
def BJ.Spec (C:aZ) (f:Nat):Prop:=∀ (a b:Int) (x:Bool),C.c f [.agg [I a,I b],B x] (.agg [I (Wy a b x).1,I (Wy a b x).2]) none
def xm.Spec (C:aZ) (f:Nat):Prop:=∀ (a b x y:Int),C.c f [I a,I b,.agg [I x,I y]] (B (Pq a b x y)) none
def Gl.Spec (C:aZ) (f:Nat):Prop:=∀ n:Int,C.c f [I n] (I (c9 n)) none
def BK.Spec (C:aZ) (f:Nat):Prop:=∀ (a b held tail:Int) (out x:Bool),C.c f [I a,I b,.agg [I held,I tail,B out],B x] (.agg [I (Pt a b held tail out x).1,I (Pt a b held tail out x).2.1,B (Pt a b held tail out x).2.2]) none
def Gm.Spec (C:aZ) (f:Nat):Prop:=∀ (l:Option (List Ch)) (k:Nat),(l.getD []).length≤1000000→C.c f [aG Ch.cells l,I k,.agg (Ch.cells default)] (.agg (BG (l.getD []) k).cells) none
def Gn.Spec (C:aZ) (f:Nat):Prop:=∀ (l:Option (List (Option Nat))) (k:Nat),(l.getD []).length≤1000000→C.c f [aG iR l,I k,.d4] (fv (Gk (l.getD []) k)) none
def xp.Spec (C:aZ) (f:Nat):Prop:=∀ x:Nat,x < 2 ^ 64→C.c f [Fl x] (I (HB x)) none
def Kq.Spec (C:aZ) (f:Nat):Prop:=C.c f [] .d4 none
section
variable {P:Program} (hm:P.follows .mixedOrders=true) {f:Nat}
include hm
theorem tM.ok (hc:aE P f=some pH):tM.Spec (Pure P) f:=by
 intro n
 have h1:=MM n
 refine ak hm hc (by show 1≤7; decide) (aj (keep:=[]) (i:=0) ?_)
 try simp only [I,B,D,RX,↓ KW,seval,pH,Z.H]
 rw [h1]; rfl
theorem SW.ok (hc:aE P f=some rq):tM.Spec (Pure P) f:=by
 intro n
 have h1:=MM n
 refine ak hm hc (by show 1≤7; decide) (aj (keep:=[]) (i:=0) ?_)
 try simp only [I,B,D,RX,↓ KW,seval,rq,Z.H]
 rw [h1]; rfl
theorem Gl.ok (hc:aE P f=some ru):Gl.Spec (Pure P) f:=by
 intro n
 have h1:=MM n
 refine ak hm hc (by show 1≤6; decide) (aj (keep:=[]) (i:=0) ?_)
 try simp only [I,B,D,RX,↓ KW,seval,ru,Z.H]
 rw [h1]; rfl
theorem Kq.ok (hc:aE P f=some tK):Kq.Spec (Pure P) f:=by
 show (Pure P).c f [] .d4 none
 refine Sj (n:=Xn) (by decide +kernel) ?_
 refine ak hm hc (by show 0≤2; decide) (aj (keep:=[]) (i:=0) ?_)
 try simp only [I,B,D,RX,↓ KW,seval,tK,Z.H]
 all_goals rfl
theorem xp.ok {fS:Nat} (hc:aE P f=some (mq fS)) (hS:A5.Spec (Pure P) fS):xp.Spec (Pure P) f:=by
 intro x hx
 refine ak hm hc (by show 1≤11; decide) (aj (keep:=[]) (i:=0) ?_)
 try simp only [I,B,D,RX,↓ KW,seval,mq,Z.H]
 refine af (hS x hx) ?_
 try simp only [I,B,D,RX,↓ KW,seval,J3]
 rfl
theorem yu.ok (hc:aE P f=some mu):yu.Spec (Pure P) f:=by
 intro on dF
 refine ak hm hc (by show 1≤6; decide) (aj (keep:=[]) (i:=0) ?_)
 try simp only [I,B,D,RX,↓ KW,seval,mu,Z.H]
 try rfl
theorem BI.ok {fF:Nat} (hc:aE P f=some (pq fF)) (hF:yu.Spec (Pure P) fF):BI.Spec (Pure P) f:=by
 intro on dF
 refine ak hm hc (by show 1≤9; decide) (aj (keep:=[]) (i:=0) ?_)
 try simp only [I,B,D,RX,↓ KW,seval,pq,Z.H]
 cases on
 ·try simp only [I,B,D,RX,↓ KW,seval]
  refine af (hF false dF) ?_
  try simp only [I,B,D,RX,↓ KW,seval]
  simp [zj]
 ·try simp only [I,B,D,RX,↓ KW,seval]
  simp [zj]
theorem BH.ok {fM:Nat} (hc:aE P f=some (kZ fM)) (hM:tM.Spec (Pure P) fM):BH.Spec (Pure P) f:=by
 intro d on dF x
 have q1:d.cells[1]? = some (Fl d.on)∧d.cells[2]? = some (Fl d.off):=⟨rfl,rfl⟩
 cases x with
 | none =>
  have hE:Gj d on dF none=(on,bD dF):=rfl
  rw [hE]
  show (Pure P).c f [.agg d.cells,.agg [B on,I dF],.d4] _ none
  refine ak hm hc (by show 3≤35; decide) (aj (keep:=[]) (i:=0) ?_)
  try simp only [I,B,D,RX,↓ KW,seval,kZ,Z.H,Nn,Yj,MN,q1]
  refine af (hM _) ?_
  try simp only [I,B,D,RX,↓ KW,seval]
 | some x =>
  show (Pure P).c f [.agg d.cells,.agg [B on,I dF],Fl x] _ none
  have hE:Gj d on dF (some x)=if Kz x 13920209183539462144 && J0 x 4696837146684686336 then (if Kz x d.on then (true,0) else if J0 x d.off then (false,0) else (on,0)) else (on,bD dF):=rfl
  generalize Gj d on dF (some x)=res at *
  refine ak hm hc (by show 3≤35; decide) (aj (keep:=[]) (i:=0) ?_)
  try simp only [I,B,D,RX,↓ KW,seval,kZ,Z.H,Nn,q1]
  cases h1:Kz x 13920209183539462144<;>cases h2:J0 x 4696837146684686336<;>cases h3:Kz x d.on<;>cases h4:J0 x d.off<;>rw [h1,h2,h3,h4] at hE
  all_goals try simp only [I,B,D,RX,↓ KW,seval,h1,h2,h3,h4,Nn,q1]
  all_goals try simp only [I,B,D,RX,↓ KW,seval,h1,h2,h3,h4,Nn,q1]
  all_goals (try (refine af (hM _) ?_))
  all_goals try simp only [I,B,D,RX,↓ KW,seval,h1,h2,h3,h4,Nn,q1]
  all_goals (rw [hE]; rfl)
theorem BJ.ok {fM:Nat} (hc:aE P f=some (ri fM)) (hM:tM.Spec (Pure P) fM):BJ.Spec (Pure P) f:=by
 intro a b x
 refine ak hm hc (by show 2≤14; decide) (aj (keep:=[]) (i:=0) ?_)
 try simp only [I,B,D,RX,↓ KW,seval,ri,Z.H]
 cases x
 ·try simp only [I,B,D,RX,↓ KW,seval]
  refine af (hM _) ?_
  try simp only [I,B,D,RX,↓ KW,seval]
  rfl
 ·try simp only [I,B,D,RX,↓ KW,seval]
  refine af (hM _) ?_
  try simp only [I,B,D,RX,↓ KW,seval]
  rfl
theorem xm.ok (hc:aE P f=some pE):xm.Spec (Pure P) f:=by
 intro a b x y
 refine ak hm hc (by show 3≤25; decide) (aj (keep:=[]) (i:=0) ?_)
 try simp only [I,B,D,RX,↓ KW,seval,pE,Z.H]
 cases h1:decide (a > 0)<;>cases h2:decide (x ≥ a)<;>cases h3:decide (b > 0)<;>cases h4:decide (y ≥ b) <;>
 (try simp only [I,B,D,RX,↓ KW,seval,h1,h2,h3,h4]; try (try simp only [I,B,D,RX,↓ KW,seval,h1,h2,h3,h4]); simp [Pq,h1,h2,h3,h4])
end
end Go.Eng
namespace Go.Eng
open Go
section
variable {P:Program} (hm:P.follows .mixedOrders=true) {f:Nat}
include hm
theorem xh.ok {fA fG fO fM fI:Nat} (hc:aE P f=some (i7 fA fG fO fM fI)) (hA:Gd.Spec (Pure P) fA) (hG:Gc.Spec (Pure P) fG) (hO:yq.Spec (Pure P) fO) (hM:mA.Spec (Pure P) fM) (hI:vB.Spec (Pure P) fI):xh.Spec (Pure P) f:=by
  intro p r c
  have t1:=vC p r c
  have t2:=BB p r c
  have t3:=BC p r c
  have t4:=Hz p r c
  have hO2:=hO p r c
  obtain ⟨g,hg⟩:∃ g,iD p r c=g:=⟨_,rfl⟩
  obtain ⟨d,hd⟩:∃ d,c8 p g c=d:=⟨_,rfl⟩
  rw [hg,hd] at hO2
  refine ak hm hc (by show 1≤59; decide) (aj (keep:=[]) (i:=0) ?_)
  try simp only [I,B,D,RX,↓ KW,seval,i7,Z.H,t1,t2,t3,t4,aN]
  rcases bc c.fin with h1|h1
  · try simp only [I,B,D,RX,↓ KW,seval,h1,t1,t2,t3,t4]
    refine af hO2 ?_
    try simp only [I,B,D,RX,↓ KW,seval,t1,t2,t3,t4,Rn.cells]
    rcases bc d with h2|h2
    · try simp only [I,B,D,RX,↓ KW,seval,h2,t1,t2,t3,t4,Rn.cells]
      simp [j0,h1,hg,hd,h2,Rn.cells]
    · try simp only [I,B,D,RX,↓ KW,seval,h2,t1,t2,t3,t4,Rn.cells]
      rcases bc c.hold with h3|h3
      · try simp only [I,B,D,RX,↓ KW,seval,h3,h2,t1,t2,t3,t4,Rn.cells]
        rcases bc (decide (g.left > 0)) with h4|h4
        · try simp only [I,B,D,RX,↓ KW,seval,h4,t1,t2,t3,t4,Rn.cells]
          simp [j0,h1,hg,hd,h2,h3,h4,Rn.cells]
        · try simp only [I,B,D,RX,↓ KW,seval,h4,t1,t2,t3,t4,Rn.cells]
          refine af (hI p ⟨g.limit,g.up,g.down⟩) ?_
          try simp only [I,B,D,RX,↓ KW,seval,t1,t2,t3,t4,Rn.cells]
          simp [j0,h1,hg,hd,h2,h3,h4,Rn.cells,bQ]
      · try simp only [I,B,D,RX,↓ KW,seval,h3,h2,t1,t2,t3,t4,Rn.cells]
        refine af (hM g.extra) ?_
        try simp only [I,B,D,RX,↓ KW,seval,t1,t2,t3,t4,Rn.cells]
        simp [j0,h1,hg,hd,h2,h3,Rn.cells]
  · try simp only [I,B,D,RX,↓ KW,seval,h1,t1,t2,t3,t4]
    refine af (hA p r c _ _) ?_
    try simp only [I,B,D,RX,↓ KW,seval,t1,t2,t3,t4,Rn.cells,xd]
    rcases bc r.done with h2|h2
    · try simp only [I,B,D,RX,↓ KW,seval,h2,t1,t2,t3,t4]
      simp [j0,h1,h2,xd,Rn.cells]
    · try simp only [I,B,D,RX,↓ KW,seval,h2,t1,t2,t3,t4]
      refine af (hG p ⟨r.limit,r.up,r.down⟩ r.kg) ?_
      try simp only [I,B,D,RX,↓ KW,seval,t1,t2,t3,t4,Tr.cells]
      simp [j0,h1,h2,xd,Rn.cells]
theorem BA.ok {fO:Nat} (hc:aE P f=some (pg fO)) (hO:yq.Spec (Pure P) fO):BA.Spec (Pure P) f:=by
 intro p r c
 have qp:aB p.cells 0 (some 13)=some (.agg p.cells):=rfl
 have qr:aB r.cells 0 (some 12)=some (.agg r.cells)∧r.cells[0]? = some (I r.ax):=⟨rfl,rfl⟩
 have qc:aB c.cells 0 (some 8)=some (.agg c.cells)∧c.cells[1]? = some (B c.fin)∧c.cells[5]? = some (B c.hold):=⟨rfl,rfl,rfl⟩
 have hO2:=hO p r c
 obtain ⟨g,hg⟩:∃ g,iD p r c=g:=⟨_,rfl⟩
 obtain ⟨d,hd⟩:∃ d,c8 p g c=d:=⟨_,rfl⟩
 rw [hg,hd] at hO2
 have b1:∀ ps,uD 0 13 (some (.agg p.cells)) (some ps)=some ((0,p.cells) :: ps):=fun _=>rfl
 have b2:∀ ps,uD 13 12 (some (.agg r.cells)) (some ps)=some ((13,r.cells) :: ps):=fun _=>rfl
 have b3:∀ ps,uD 25 8 (some (.agg c.cells)) (some ps)=some ((25,c.cells) :: ps):=fun _=>rfl
 have b4:bE iO [(0,p.cells),(13,r.cells),(25,c.cells)]=dO p r c:=rfl
 have b5:setCells iO 0 (dO p r c)=dO p r c:=rfl
 have b6:iO.length=33:=rfl
 refine ak hm hc (by show 3≤30; decide) (aj (keep:=[]) (i:=0) ?_)
 try simp only [I,B,D,RX,↓ KW,seval,pg,Z.H,qp,qr,qc,b1,b2,b3,b4]
 rcases bc (r.ax != 1) with h1|h1
 ·try simp only [I,B,D,RX,↓ KW,seval,h1,qp,qr,qc,b1,b2,b3,b4]
  rcases bc c.fin with h2|h2
  ·try simp only [I,B,D,RX,↓ KW,seval,h2,qp,qr,qc,b1,b2,b3,b4]
   rcases bc c.hold with h3|h3
   ·try simp only [I,B,D,RX,↓ KW,seval,h3,qp,qr,qc,b1,b2,b3,b4]
    simp [vA,h1,h2,h3]
   ·try simp only [I,B,D,RX,↓ KW,seval,h3,qp,qr,qc,b1,b2,b3,b4]
    refine af hO2 ?_
    try simp only [I,B,D,RX,↓ KW,seval,qp,qr,qc,b1,b2,b3,b4,Rn.cells,aN]
    simp [vA,h1,h2,h3,hg,hd]
  ·try simp only [I,B,D,RX,↓ KW,seval,h2,qp,qr,qc,b1,b2,b3,b4]
   simp [vA,h1,h2]
 ·try simp only [I,B,D,RX,↓ KW,seval,h1,qp,qr,qc,b1,b2,b3,b4]
  simp [vA,h1]
theorem Bz.ok {fR fG fY fC:Nat} (hc:aE P f=some (pn fR fG fY fC)) (hR:Ge.Spec (Pure P) fR) (hG:xh.Spec (Pure P) fG) (hY:tI.Spec (Pure P) fY) (hC:tJ.Spec (Pure P) fC):Bz.Spec (Pure P) f:=by
 intro p r c
 have qp:aB p.cells 0 (some 13)=some (.agg p.cells):=rfl
 have qr:aB r.cells 0 (some 12)=some (.agg r.cells)∧r.cells[0]? = some (I r.ax):=⟨rfl,rfl⟩
 have qc:aB c.cells 0 (some 8)=some (.agg c.cells)∧c.cells[1]? = some (B c.fin)∧c.cells[5]? = some (B c.hold):=⟨rfl,rfl,rfl⟩
 have t1:=vC p r c
 have b1:∀ ps,uD 0 13 (some (.agg p.cells)) (some ps)=some ((0,p.cells) :: ps):=fun _=>rfl
 have b2:∀ ps,uD 13 12 (some (.agg r.cells)) (some ps)=some ((13,r.cells) :: ps):=fun _=>rfl
 have b3:∀ ps,uD 25 8 (some (.agg c.cells)) (some ps)=some ((25,c.cells) :: ps):=fun _=>rfl
 have b4:bE iO [(0,p.cells),(13,r.cells),(25,c.cells)]=dO p r c:=rfl
 have b5:setCells iO 0 (dO p r c)=dO p r c:=rfl
 have b6:iO.length=33:=rfl
 have b7:∀ x:Rn,setCells aN 0 x.cells=x.cells∧x.cells.length=12∧aB x.cells 0 (some 12)=some (.agg x.cells):=fun _=>⟨rfl,rfl,rfl⟩
 have b8:aN.length=12:=rfl
 refine ak hm hc (by show 3≤31; decide) (aj (keep:=[]) (i:=0) ?_)
 try simp only [I,B,D,RY,↓ KW,seval,pn,Z.H,qp,qr,qc,t1,b1,b2,b3,b4,b5,b6,b7,b8]
 rcases bc (r.ax == 1) with h1|h1
 ·try simp only [I,B,D,RY,↓ KW,seval,h1,qp,qr,qc,t1,b1,b2,b3,b4,b5,b6,b7,b8]
  rcases bc (r.ax == 2) with h2|h2
  ·try simp only [I,B,D,RY,↓ KW,seval,h2,qp,qr,qc,t1,b1,b2,b3,b4,b5,b6,b7,b8]
   rcases bc (r.ax == 3) with h3|h3
   ·try simp only [I,B,D,RY,↓ KW,seval,h3,qp,qr,qc,t1,b1,b2,b3,b4,b5,b6,b7,b8]
    refine ⟨rfl,af (hR p r c) ?_⟩
    try simp only [I,B,D,RY,↓ KW,seval,qp,qr,qc,t1,b1,b2,b3,b4,b5,b6,b7,b8]
    simp [de,h1,h2,h3]
   ·try simp only [I,B,D,RY,↓ KW,seval,h3,qp,qr,qc,t1,b1,b2,b3,b4,b5,b6,b7,b8]
    refine ⟨rfl,rfl,af (hC p r c) ?_⟩
    try simp only [I,B,D,RY,↓ KW,seval,qp,qr,qc,t1,b1,b2,b3,b4,b5,b6,b7,b8]
    simp [de,h1,h2,h3]
  ·try simp only [I,B,D,RY,↓ KW,seval,h2,qp,qr,qc,t1,b1,b2,b3,b4,b5,b6,b7,b8]
   refine ⟨rfl,rfl,af (hY p r c) ?_⟩
   try simp only [I,B,D,RY,↓ KW,seval,qp,qr,qc,t1,b1,b2,b3,b4,b5,b6,b7,b8]
   simp [de,h1,h2]
 ·try simp only [I,B,D,RY,↓ KW,seval,h1,qp,qr,qc,t1,b1,b2,b3,b4,b5,b6,b7,b8]
  refine ⟨rfl,rfl,af (hG p r c) ?_⟩
  try simp only [I,B,D,RY,↓ KW,seval,qp,qr,qc,t1,b1,b2,b3,b4,b5,b6,b7,b8]
  simp [de,h1]
end
end Go.Eng
