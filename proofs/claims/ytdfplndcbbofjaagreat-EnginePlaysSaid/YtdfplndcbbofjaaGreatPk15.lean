/- Part 15 of the engine and its library. -/
import Derived.Test.YtdfplndcbbofjaaGreatPk14
set_option linter.all false
set_option maxRecDepth 10000
set_option maxHeartbeats 4000000
namespace Go.Eng
open Go
section
variable{P:Program} (hm:P.follows .mixedOrders=true) {f:Nat}
include hm
theorem uU.ok{fR fH:Nat} (hc:bu P f=some (z9 fR fH)) (hR:GO.Spec (Pure P) fR) (hH:lE.Spec (Pure P) fH):uU.Spec (Pure P) f:=by
 intro t g r E want ht
 have hp:=Tb.whole ht
 have ad:=E2 ht g r
 refine aj hm hc [] rfl ?_;try simp only[I,RX,↓KW,seval,z9,Z.H,hp]
 refine af (hR t g r ht) ?_
 have hP:∀i,SX t g r E want i=(decide ((i:Int)>E)&&bD want (((eM t g r).getD []).getD i 0)):=λ_=>rfl
 have hE:SY t g r E want=match(List.range ((eM t g r).getD []).length).find? (SX t g r E want)with
  |some i=>(i:Int)
  |none=>-1:=rfl
 generalize SX t g r E want=pr at*;generalize SY t g r E want=res at*;generalize eM t g r=row at*;try simp only[RX,↓KW,seval]
 refine aD (λk:Nat=>(⟨[(18,.dat (I k) none),(17,.dat (I (row.getD []).length) none),(16,.dat (aI aC row) none),(3,.dat (I E) none),(4,.dat (I want) none)],[],[],400⟩:S)) (λk=>(row.getD []).length-k) (λk=>k<=(row.getD []).length/\∀q,q<k->pr q=false) ?_ 0 ⟨ST,ST⟩ ?_
 rotate_left
 ·refine ai Ts ?_ ?_ ?_ ?_<;>simp[LX,I]
 rintro k ⟨hk,M⟩ A back
 have V:=aA (k:=k) ST
 try simp only[I,RX,↓KW,seval]
 cases h:decide ((k:Int)<((row.getD []).length:Int))
 ·have ac:k=(row.getD []).length:=by have:=dE h;omega
  have hf:(List.range (row.getD []).length).find? pr=none:=nE λx R=>M x (by have:=fp.1 R;omega)
  rw[hf]at hE;try simp only[RX,↓KW,seval]
  rw[hE]
 ·have h8:k<(row.getD []).length:=by have:=dC h;omega
  obtain⟨x,R⟩:∃x,(row.getD [])[k]? =some x:=⟨_,dT h8⟩
  have aa:(row.getD []).getD k 0=x:=by rw[eh,R];rfl
  have O:=hP k
  rw[aa]at O;try simp only[I,RX,↓KW,seval,R,aC]
  refine⟨ST,?_⟩
  try simp only[I,B,D,RX,↓KW,seval,R,aC]
  cases h1:decide ((k:Int)>E)
  ·have L:pr k=false:=by rw[O,h1];rfl
   try simp only[RX,↓KW,seval]
   refine back (k+1) _ ⟨ST,λq ab=>?_⟩ ST ?_
   ·by_cases e:q=k
    ·rw[e];exact L
    ·exact M q ST
   ·refine ai Ts ?_ ?_ ?_ ?_<;>simp[LX,I,V]
  ·try simp only[RX,↓KW,seval]
   refine af (hH want x) ?_;cases h2:bD want x
   ·have L:pr k=false:=by rw[O,h1,h2];rfl
    try simp only[B,RX,↓KW,seval]
    refine back (k+1) _ ⟨ST,λq ab=>?_⟩ ST ?_
    ·by_cases e:q=k
     ·rw[e];exact L
     ·exact M q ST
    ·refine ai Ts ?_ ?_ ?_ ?_<;>simp[LX,I,V]
   ·have L:pr k=true:=by rw[O,h1,h2];rfl
    have hf:(List.range (row.getD []).length).find? pr=some k:=lS (kr h8) L (λy hy=>M y (by rw[yr]at hy;have:=fp.1 hy;omega))
    rw[hf]at hE;try simp only[B,RX,↓KW,seval]
    rw[hE]
theorem CR.ok{E D:Nat} (M:bu P f=some (tf E D)) (hR:GO.Spec (Pure P) E) (L:setOf.Spec (Pure P) D):CR.Spec (Pure P) f:=by
 intro t g A
 have B:=Tb.whole A
 have O:=E2 A g 0
 have R:=E2 A g 1
 refine aj hm M [] rfl ?_;try simp only[I,RX,↓KW,seval,tf,Z.H,B]
 refine af (hR t g 0 A) ?_;try simp only[RX,↓KW,seval]
 refine af (L _ ST) ?_
 try simp only[I,RX,↓KW,seval,B]
 refine af (hR t g 1 A) ?_;try simp only[RX,↓KW,seval]
 refine af (L _ ST) ?_
 try simp only[I,RX,↓KW,seval]
 rfl
theorem CS.ok{fM:Nat} (hc:bu P f=some (o6 fM)) (hM:CR.Spec (Pure P) fM):CS.Spec (Pure P) f:=by
 intro t g want ht
 have hl:=Tb.len ht
 have hp:=Tb.whole ht
 have hg:=Tb.jT ht
 have ag:=ht.groups
 have hE:Rx t g want=match(List.range (t.groups.getD []).length).find? (Zb t g want)with
  |some k=>Rw t g k
  |none=>-1:=rfl
 have hP:∀k,Zb t g want k=(bK .i64 (SZ t (Rw t g k)) want !=0):=λ_=>rfl
 have hF:∀k,Rw t g k=(IntKind.i64.wrap (IntKind.i64.wrap (Pm t g+1)+k)).tmod (t.groups.getD []).length:=λ_=>rfl
 have ab:=cB hl (cB hp (hg))
 refine aj hm hc [] rfl ?_;try simp only[I,RX,↓KW,seval,o6,Z.H,ab]
 have hG:(g<0\/((t.groups.getD []).length:Int)<=g->IntKind.i64.wrap (((t.groups.getD []).length:Int)-1)=Pm t g)/\(¬(g<0\/((t.groups.getD []).length:Int)<=g)->g=Pm t g):=
  ⟨λh=>(et h).symm,λh=>(ek h).symm⟩
 generalize ae:Pm t g=g0 at*;generalize Rw t g=fg at*;generalize Zb t g want=pr at*;generalize Rx t g want=res at*;cases c1:decide (g<0);cases c2:decide (g>=((t.groups.getD []).length:Int))
 ·have e0:=hG.2 (by have:=dE c1;have:=dE c2;omega)
  subst e0;try simp only[RX,↓KW,seval,c2]
  refine aD (λk:Nat=>(⟨[(23,.dat (I k) none),(22,.dat (I (t.groups.getD []).length) none),(1,.dat (I g) none),(7,.dat (I (t.groups.getD []).length) none),(3,.ptr 4 0),(2,.dat (I want) none)],[(4,⟨t.cells,[]⟩)],[],400⟩:S)) (λk=>(t.groups.getD []).length-k) (λk=>k<=(t.groups.getD []).length/\∀q,q<k->pr q=false) ?_ 0 ⟨ST,ST⟩ ?_
  rotate_left
  ·refine ai Ts ?_ ?_ ?_ ?_<;>simp[LX,I]
  rintro k ⟨hk,B⟩ A back
  have V:=aA (k:=k) ST
  try simp only[I,RX,↓KW,seval]
  cases h:decide ((k:Int)<((t.groups.getD []).length:Int))
  ·have ac:k=(t.groups.getD []).length:=by have:=dE h;omega
   have M:(List.range (t.groups.getD []).length).find? pr=none:=nE λx hx=>B x (by have:=fp.1 hx;omega)
   rw[M]at hE;try simp only[RX,↓KW,seval]
   rw[hE]
  ·have O:k<(t.groups.getD []).length:=by have:=dC h;omega
   have aa:=hF k
   have R:(((t.groups.getD []).length:Int)=0)=False:=by simp;intro h;rw[h]at O;simp at O
   have E:=hP k
   try simp only[RX,↓KW,seval,R,ab]
   rw[<-aa];refine af (hM t (fg k) ht) ?_;cases L:(bK .i64 (SZ t (fg k)) want !=0)
   ·have D:pr k=false:=by rw[E,L]
    try simp only[I,RX,↓KW,seval,L]
    refine back (k+1) _ ⟨ST,λq ad=>?_⟩ ST ?_
    ·by_cases e:q=k
     ·rw[e];exact D
     ·exact B q ST
    ·refine ai Ts ?_ ?_ ?_ ?_<;>simp[LX,I,V]
   ·have D:pr k=true:=by rw[E,L]
    have M:(List.range (t.groups.getD []).length).find? pr=some k:=lS (kr O) D (λy hy=>B y (by rw[yr]at hy;have:=fp.1 hy;omega))
    rw[M]at hE;try simp only[I,RX,↓KW,seval,L]
    rw[hE]
 ·have e0:=hG.1 (.inr (by have:=dC c2;omega))
  try simp only[RX,↓KW,seval,c2]
  refine aD (λk:Nat=>(⟨[(23,.dat (I k) none),(22,.dat (I (t.groups.getD []).length) none),(1,.dat (I g0) none),(7,.dat (I (t.groups.getD []).length) none),(3,.ptr 4 0),(2,.dat (I want) none)],[(4,⟨t.cells,[]⟩)],[],400⟩:S)) (λk=>(t.groups.getD []).length-k) (λk=>k<=(t.groups.getD []).length/\∀q,q<k->pr q=false) ?_ 0 ⟨ST,ST⟩ ?_
  rotate_left
  ·refine ai Ts ?_ ?_ ?_ ?_<;>simp[LX,I,e0]
  rintro k ⟨hk,B⟩ A back
  have V:=aA (k:=k) ST
  try simp only[I,RX,↓KW,seval]
  cases h:decide ((k:Int)<((t.groups.getD []).length:Int))
  ·have ac:k=(t.groups.getD []).length:=by have:=dE h;omega
   have M:(List.range (t.groups.getD []).length).find? pr=none:=nE λx hx=>B x (by have:=fp.1 hx;omega)
   rw[M]at hE;try simp only[RX,↓KW,seval]
   rw[hE]
  ·have O:k<(t.groups.getD []).length:=by have:=dC h;omega
   have aa:=hF k
   have R:(((t.groups.getD []).length:Int)=0)=False:=by simp;intro h;rw[h]at O;simp at O
   have E:=hP k
   try simp only[RX,↓KW,seval,R,ab]
   rw[<-aa];refine af (hM t (fg k) ht) ?_;cases L:(bK .i64 (SZ t (fg k)) want !=0)
   ·have D:pr k=false:=by rw[E,L]
    try simp only[I,RX,↓KW,seval,L]
    refine back (k+1) _ ⟨ST,λq ad=>?_⟩ ST ?_
    ·by_cases e:q=k
     ·rw[e];exact D
     ·exact B q ST
    ·refine ai Ts ?_ ?_ ?_ ?_<;>simp[LX,I,V]
   ·have D:pr k=true:=by rw[E,L]
    have M:(List.range (t.groups.getD []).length).find? pr=some k:=lS (kr O) D (λy hy=>B y (by rw[yr]at hy;have:=fp.1 hy;omega))
    rw[M]at hE;try simp only[I,RX,↓KW,seval,L]
    rw[hE]
 ·have e0:=hG.1 (.inl (dC c1))
  try simp only[RX,↓KW,seval]
  refine aD (λk:Nat=>(⟨[(23,.dat (I k) none),(22,.dat (I (t.groups.getD []).length) none),(1,.dat (I g0) none),(7,.dat (I (t.groups.getD []).length) none),(3,.ptr 4 0),(2,.dat (I want) none)],[(4,⟨t.cells,[]⟩)],[],400⟩:S)) (λk=>(t.groups.getD []).length-k) (λk=>k<=(t.groups.getD []).length/\∀q,q<k->pr q=false) ?_ 0 ⟨ST,ST⟩ ?_
  rotate_left
  ·refine ai Ts ?_ ?_ ?_ ?_<;>simp[LX,I,e0]
  rintro k ⟨hk,B⟩ A back
  have V:=aA (k:=k) ST
  try simp only[I,RX,↓KW,seval]
  cases h:decide ((k:Int)<((t.groups.getD []).length:Int))
  ·have ac:k=(t.groups.getD []).length:=by have:=dE h;omega
   have M:(List.range (t.groups.getD []).length).find? pr=none:=nE λx hx=>B x (by have:=fp.1 hx;omega)
   rw[M]at hE;try simp only[RX,↓KW,seval]
   rw[hE]
  ·have O:k<(t.groups.getD []).length:=by have:=dC h;omega
   have aa:=hF k
   have R:(((t.groups.getD []).length:Int)=0)=False:=by simp;intro h;rw[h]at O;simp at O
   have E:=hP k
   try simp only[RX,↓KW,seval,R,ab]
   rw[<-aa];refine af (hM t (fg k) ht) ?_;cases L:(bK .i64 (SZ t (fg k)) want !=0)
   ·have D:pr k=false:=by rw[E,L]
    try simp only[I,RX,↓KW,seval,L]
    refine back (k+1) _ ⟨ST,λq ad=>?_⟩ ST ?_
    ·by_cases e:q=k
     ·rw[e];exact D
     ·exact B q ST
    ·refine ai Ts ?_ ?_ ?_ ?_<;>simp[LX,I,V]
   ·have D:pr k=true:=by rw[E,L]
    have M:(List.range (t.groups.getD []).length).find? pr=some k:=lS (kr O) D (λy hy=>B y (by rw[yr]at hy;have:=fp.1 hy;omega))
    rw[M]at hE;try simp only[I,RX,↓KW,seval,L]
    rw[hE]
theorem OR.ok{e fO:Nat} (hc:bu P f=some (yG e fO)) (hO:setOf.Spec (Pure P) fO):OR.Spec (Pure P) f:=by
 intro t g r pl ht
 have hg:=Tb.jT ht
 refine aj hm hc [] rfl ?_;try simp only[I,RX,↓KW,seval,yG,Z.H]
 by_cases h0:g<0\/((t.groups.getD []).length:Int)<=g\/r<0\/1<r
 ·have hx:nh t g r pl=-1:=et h0
  rw[hx];cases h1:decide (g<0)
  ·try simp only[RX,↓KW,seval,hg]
   cases h2:decide (g>=((t.groups.getD []).length:Int))
   ·try simp only[RX,↓KW,seval]
    cases h3:decide (r<0)
    ·have h4:decide (r>1)=true:=by
      have:=dE h1;have:=dE h2;have:=dE h3;simp;omega
     try simp only[RX,↓KW,seval,h4]
    ·try simp only[RX,↓KW,seval]
   ·try simp only[RX,↓KW,seval]
  ·try simp only[RX,↓KW,seval]
 have hx:eM t g r=((t.groups.getD []).getD g.toNat default).row r.toNat:=ek h0
 have A:nh t g r pl=if pl<0\/(((eM t g r).getD []).length:Int)<=pl then -1
  else if 0<=((eM t g r).getD []).getD pl.toNat 0/\((eM t g r).getD []).getD pl.toNat 0<8 then((eM t g r).getD []).getD pl.toNat 0 else -1:=ek h0
 have h1:decide (g<0)=false:=by simp;omega
 have h2:decide (g>=((t.groups.getD []).length:Int))=false:=by simp;omega
 have h3:decide (r<0)=false:=by simp;omega
 have h4:decide (r>1)=false:=by simp;omega
 obtain⟨E,R⟩:∃E,(t.groups.getD [])[g.toNat]? =some E:=⟨_,dT ST⟩
 have aa:(t.groups.getD []).getD g.toNat default=E:=by rw[eh,R];rfl
 rw[aa]at hx
 have B:(E.cells.drop r.toNat)[0]? =some (aI aC (E.row r.toNat)):=by
  have:r=0\/r=1:=ST
  rcases this with rfl|rfl<;>rfl
 rw[<-hx]at B
 have ad:E.cells.length=2:=rfl
 have hy:0<=g/\g<((t.groups.getD []).length:Int):=ST
 have ac:0<=r/\r<2:=ST
 generalize nh t g r pl=res at*;generalize eM t g r=row at*;try simp only[RX,↓KW,seval,h1,h2,h3,h4,hg,R,ad,hy,ac,B]
 by_cases h5:pl<0\/((row.getD []).length:Int)<=pl
 ·rw[et h5]at A
  rw[A];cases h6:decide (pl<0)
  ·have h7:decide (pl>=((row.getD []).length:Int))=true:=by have:=dE h6;simp;omega
   try simp only[RX,↓KW,seval,h7]
  ·try simp only[RX,↓KW,seval]
 ·rw[ek h5]at A
  have h6:decide (pl<0)=false:=by simp;omega
  have h7:decide (pl>=((row.getD []).length:Int))=false:=by simp;omega
  obtain⟨x,D⟩:∃x,(row.getD [])[pl.toNat]? =some x:=⟨_,dT ST⟩
  have ab:(row.getD []).getD pl.toNat 0=x:=by rw[eh,D];rfl
  rw[ab]at A
  have ho:=HZ x
  have M:0<=pl/\pl<((row.getD []).length:Int):=ST
  try simp only[I,RX,↓KW,seval,h6,h7,M,D,aC]
  have O:=hO (some [x]) TB
  obtain⟨z,hz⟩:∃z,SW ((some [x]:Option (List Int)).getD [])=z:=⟨_,rfl⟩
  have V:(z==0)=!(decide (0<=x)&&decide (x<8)):=by rw[<-hz];exact ho
  rw[hz]at O;refine af O ?_
  by_cases L:0<=x/\x<8
  ·rw[et L]at A
   rw[na L.1,na L.2]at V;try simp only[I,RX,↓KW,seval,V,M,D,aC,Fd]
   rw[A]
  ·rw[ek L]at A
   have h9:(decide (0<=x)&&decide (x<8))=false:=by
    rw[<-Bool.decide_and];exact kd L
   rw[h9]at V;try simp only[I,RX,↓KW,seval,V]
   rw[A]
theorem CT.ok{E:Nat} (V:bu P f=some (CG E)) (hA:OR.Spec (Pure P) E):CT.Spec (Pure P) f:=by
 intro t r k M
 have O:=Tb.whole M
 have A:r.cells[0]? =some (I r.group):=rfl
 refine aj hm V [] rfl ?_;try simp only[I,RX,↓KW,seval,CG,Z.H]
 cases L:decide (k<0)
 ·try simp only[RX,↓KW,seval]
  cases D:decide (k>1)
  ·try simp only[I,RX,↓KW,seval,O,A]
   have a:=dE L
   have b:=dE D
   have R:0<=k/\k<2:=ST
   have B:r.cells[1+k.toNat]? =some (I (r.at k)):=by
    have:k=0\/k=1:=ST
    rcases this with rfl|rfl<;>rfl
   try simp only[I,RX,↓KW,seval,R,B]
   refine af (hA t r.group k (r.at k) M) ?_;try simp only[I,RX,↓KW,seval]
   rw[kK,ek ST]
  ·try simp only[RX,↓KW,seval]
   rw[kK,et (.inr (dC D))]
 ·try simp only[RX,↓KW,seval]
  rw[kK,et (.inl (dC L))]
theorem Ag.ok{M:Nat} (hc:bu P f=some (xg M)) (hW:yD.Spec (Pure P) M):Ag.Spec (Pure P) f:=by
 intro t r k q R
 have V:=Tb.whole R
 have D:r.cells[0]? =some (I r.group):=rfl
 have E:=λh=>i4 (t:=t) (q:=q) h
 have hE:Z7 t r k q=((az t q).2&&(az t q).1.group==r.group&&(az t q).1.ring !=k&&decide ((az t q).1.pos>r.at (az t q).1.ring)):=rfl
 refine aj hm hc [] rfl ?_;try simp only[I,B,RX,↓KW,seval,xg,Z.H,V]
 refine af (hW t q R) ?_;generalize(az t q).2=ok at*;generalize(az t q).1=w at*;generalize Z7 t r k q=res at*;cases ok
 ·try simp only[I,B,RX,↓KW,seval]
  rw[hE];rfl
 try simp only[I,B,RX,↓KW,seval,D]
 have hy:0<=w.ring/\w.ring<2:=E rfl
 have L:r.cells[1+w.ring.toNat]? =some (I (r.at w.ring)):=by
  have:w.ring=0\/w.ring=1:=ST
  rcases this with e|e<;>rw[e]<;>rfl
 cases A:(w.group==r.group)
 ·try simp only[RX,↓KW,seval]
  rw[hE,A];rfl
 try simp only[RX,↓KW,seval]
 cases O:(w.ring !=k)
 ·try simp only[RX,↓KW,seval]
  rw[hE,A,O];rfl
 try simp only[I,RX,↓KW,seval,hy,L]
 rw[hE,A,O];rfl
end
section
variable (a:Int) (p:Ph) (st b time:Int)
structure Cu where
 start:Bool
 fin:Bool
 here:Bool
 push:Bool
 bL:Bool
 hold:Bool
 early:Bool
 cut:Bool
 deriving Inhabited,DecidableEq
def Cu.cells(c:Cu):List AV:=[B c.start,B c.fin,B c.here,B c.push,B c.bL,B c.hold,B c.early,B c.cut]
def Ig(A:Bool):Int×Int:=
 if st==1&&decide (time>=p.walk)then(2,1)else if st==2&&decide (time>=p.fc)then(0,0)else if st==1||st==2 then(st,bz time)
 else if A&&decide (p.walk>0)then(1,1)else(0,0)
def Kb:Int×Int:=if st==1 then(2,1)else(st,time)
def KU(left:Int) (here:Bool):Int:=if here then p.Pf else if left>9999 then 9998 else if left>0 then left-1 else 0
def o7(x:Int):Int:=if p.max>(if p.top<x then p.top else x)then p.max else(if p.top<x then p.top else x)
def Z8:Int:=if decide (b>0)&&decide (a>IntKind.i64.wrap (9223372036854775807-b))then 9223372036854775807 else if decide (b<0)&&decide (a<IntKind.i64.wrap (-9223372036854775808-b))then -9223372036854775808 else IntKind.i64.wrap (a+b)
def Z9:Int:=if decide (b>0)&&decide (a<IntKind.i64.wrap (-9223372036854775808+b))then -9223372036854775808 else if decide (b<0)&&decide (a>IntKind.i64.wrap (9223372036854775807+b))then 9223372036854775807 else IntKind.i64.wrap (a-b)
structure Tr where
 limit:Int
 up:Int
 down:Int
 deriving Inhabited,DecidableEq
def Tr.cells(x:Tr):List AV:=[I x.limit,I x.up,I x.down]
def Vh(n:Int):Int:=(if 1<(if 0>n then 0 else n)then 1 else(if 0>n then 0 else n))+1
def Zc(x:Tr) (eU:Bool):Tr:=if eU then⟨o7 p x.limit,Vh x.up,0⟩else⟨o7 p x.limit,0,Vh x.down⟩
end
section
variable (p:Ph) (C:aY) (r:Rn) (c:Cu) (f:Nat) (x:Tr)
def Zd:Tr:=if x.up==2 then⟨Z8 x.limit p.step,0,x.down⟩else if x.down==2 then⟨Z9 x.limit p.step,x.up,0⟩else x
def LQ(eU:Bool):Tr:={Zd p (Zc p x eU)with limit:=o7 p (Zd p (Zc p x eU)).limit}
def dQ(st:Int):Bool:=st==1||st==2
def th(aH time:Int):Rn:=⟨aH,time,0,0,0,0,0,false,false,r.limit,r.up,r.down⟩
def F2:Int×Int:=if c.cut&&r.fst==1 then Kb r.fst r.cn else Ig p r.fst r.cn (c.push&& !c.bL)
def bN:Bool:=!dQ r.fst&&(F2 p r c).1==1
def gT:Rn:=
 ⟨1,bz r.time,(F2 p r c).1,(F2 p r c).2,KU p r.left c.here,if c.bL then bz r.ie else r.ie,r.extra,if bN p r c then false else r.done,if bN p r c then false else r.eU,r.limit,r.up,r.down⟩
def bR:Bool:=decide (r.ie>=o7 p r.limit)
def dR:Bool:=(((c.bL&& !r.done)&&decide (r.time>=p.min))&& !dQ r.fst)&&((r.left==0||bR p r)||c.early)
def iw:Rn:=
 if c.fin then(if r.done then{th r 2 1 with limit:=(LQ p ⟨r.limit,r.up,r.down⟩ r.eU).limit,up:=(LQ p ⟨r.limit,r.up,r.down⟩ r.eU).up,down:=(LQ p ⟨r.limit,r.up,r.down⟩ r.eU).down}else th r 2 1)
 else if dR p (gT p r c) c&&c.hold then{gT p r c with extra:=bz (gT p r c).extra}
 else if dR p (gT p r c) c then{gT p r c with done:=true,eU:=decide ((gT p r c).left>0)&&bR p (gT p r c)}else gT p r c
def F3:Rn:=if c.start then{th r 1 1 with fst:=(Ig p 0 0 c.push).1,cn:=(Ig p 0 0 c.push).2,left:=p.Pf}else th r 0 (bz r.time)
def ny:Rn:=if r.time<p.eZ then th r 2 (bz r.time)else if p.red>0 then th r 3 1 else th r 0 1
def uV:Rn:=if r.time<p.red then th r 3 (bz r.time)else th r 0 1
def dz:Rn:=if r.aH==1 then iw p r c else if r.aH==2 then ny p r else if r.aH==3 then uV p r else F3 p r c
def lM:Bool:=if r.aH !=1||c.fin|| !c.hold then false else dR p (gT p r c) c
def fQ:List AV:=p.cells++(r.cells++c.cells)
def E4.Spec:Prop:=∀p:Ph,C.c f [.agg p.cells] (.agg (Tr.cells ⟨p.max,0,0⟩)) none
def oo.Spec:Prop:=∀(p:Ph) (x:Tr),C.c f [.agg p.cells,.agg x.cells] (I (o7 p x.limit)) none
def CU.Spec:Prop:=∀(p:Ph) (left:Int) (here:Bool),C.c f [.agg p.cells,I left,B here] (I (KU p left here)) none
def Kc.Spec:Prop:=∀a b:Int,C.c f [I a,I b] (I (Z8 a b)) none
def E5.Spec:Prop:=∀a b:Int,C.c f [I a,I b] (I (Z9 a b)) none
def Ke.Spec:Prop:=∀(p:Ph) (x:Tr) (eU:Bool),C.c f [.agg p.cells,.agg x.cells,B eU] (.agg (LQ p x eU).cells) none
def lV.Spec:Prop:=∀(p:Ph) (st time:Int) (b:Bool),C.c f [.agg p.cells,.agg [I st,I time],B b] (.agg [I (Ig p st time b).1,I (Ig p st time b).2]) none
def uW.Spec:Prop:=∀(st time:Int),C.c f [.agg [I st,I time]] (.agg [I (Kb st time).1,I (Kb st time).2]) none
def mP.Spec:Prop:=∀n:Int,C.c f [I n] (I (bz n)) none
def Aj.Spec:Prop:=∀st time:Int,C.c f [.agg [I st,I time]] (B (dQ st)) none
def Ak.Spec:Prop:=∀p:Ph,C.c f [.agg p.cells] (.agg (wW p).cells) none
def Kf.Spec:Prop:=∀(p:Ph) (r:Rn) (c:Cu) (a b:Int),C.c f [.agg (fQ p r c),I a,I b] (.agg (th r a b).cells) none
def Kg.Spec:Prop:=∀(p:Ph) (r:Rn) (c:Cu),C.c f [.agg (fQ p r c)] (.agg (F3 p r c).cells) none
def BE.Spec:Prop:=∀(p:Ph) (r:Rn) (c:Cu),C.c f [.agg (fQ p r c)] (.dF [.agg (gT p r c).cells,B (dR p (gT p r c) c)]) none
def Am.Spec:Prop:=∀(p:Ph) (r:Rn) (c:Cu),C.c f [.agg (fQ p r c)] (.agg (iw p r c).cells) none
def uX.Spec:Prop:=∀(p:Ph) (r:Rn) (c:Cu),C.c f [.agg (fQ p r c)] (.agg (ny p r).cells) none
def uY.Spec:Prop:=∀(p:Ph) (r:Rn) (c:Cu),C.c f [.agg (fQ p r c)] (.agg (uV p r).cells) none
def E6.Spec:Prop:=∀(p:Ph) (r:Rn) (c:Cu),C.c f [.agg p.cells,.agg r.cells,.agg c.cells] (.agg (dz p r c).cells) none
def E7.Spec:Prop:=∀(p:Ph) (r:Rn) (c:Cu),C.c f [.agg p.cells,.agg r.cells,.agg c.cells] (B (lM p r c)) none
theorem yH:(fQ p r c).length=33/\aF (fQ p r c) 0 (some 13)=some (.agg p.cells)/\aF (fQ p r c) 13 (some 12)=some (.agg r.cells)/\aF (fQ p r c) 15 (some 2)=some (.agg [I r.fst,I r.cn])/\aF (fQ p r c) 22 (some 3)=some (.agg (Tr.cells ⟨r.limit,r.up,r.down⟩))/\aF (fQ p r c) 0 (some 33)=some (.agg (fQ p r c)):=⟨rfl,rfl,rfl,rfl,rfl,rfl⟩
theorem Ih:(fQ p r c)[1]? =some (I p.min)/\(fQ p r c)[2]? =some (I p.Pf)/\(fQ p r c)[6]? =some (I p.eZ)/\(fQ p r c)[7]? =some (I p.red):=⟨rfl,rfl,rfl,rfl⟩
theorem E8:(fQ p r c)[14]? =some (I r.time)/\(fQ p r c)[15]? =some (I r.fst)/\(fQ p r c)[17]? =some (I r.left)/\(fQ p r c)[18]? =some (I r.ie)/\(fQ p r c)[20]? =some (B r.done)/\(fQ p r c)[21]? =some (B r.eU):=⟨rfl,rfl,rfl,rfl,rfl,rfl⟩
theorem LR:(fQ p r c)[25]? =some (B c.start)/\(fQ p r c)[26]? =some (B c.fin)/\(fQ p r c)[27]? =some (B c.here)/\(fQ p r c)[28]? =some (B c.push)/\(fQ p r c)[29]? =some (B c.bL)/\(fQ p r c)[30]? =some (B c.hold)/\(fQ p r c)[31]? =some (B c.early)/\(fQ p r c)[32]? =some (B c.cut):=⟨rfl,rfl,rfl,rfl,rfl,rfl,rfl,rfl⟩
end
section
variable{P:Program} (hm:P.follows .mixedOrders=true) {f:Nat}
include hm
omit hm in
theorem Ry(n:Int):(if 9999<(if 0>n then 0 else n)then 9999 else(if 0>n then 0 else n))=d7 n 0 9999:=by
 unfold d7;split<;>split<;>(try split)<;>omega
theorem mP.ok(B:bu P f=some xj):mP.Spec (Pure P) f:=by
 intro n
 have A:=Ry n
 refine aj hm B [] rfl ?_;try simp only[I,RX,↓KW,seval,xj,Z.H]
 rw[A];rfl
theorem Vi.ok(B:bu P f=some CP):mP.Spec (Pure P) f:=by
 intro n
 have A:=Ry n
 refine aj hm B [] rfl ?_;try simp only[I,RX,↓KW,seval,CP,Z.H]
 rw[A];rfl
theorem E4.ok(A:bu P f=some z7):E4.Spec (Pure P) f:=by
 intro p;refine aj hm A [] rfl ?_;try simp only[I,B,RX,↓KW,seval,z7,Z.H,Ph.cells]
 rfl
theorem oo.ok(A:bu P f=some Ae):oo.Spec (Pure P) f:=by
 intro p x;refine aj hm A [] rfl ?_;try simp only[I,B,RX,↓KW,seval,Ae,Z.H,Ph.cells,Tr.cells]
 rfl
theorem Kc.ok(O:bu P f=some CQ):Kc.Spec (Pure P) f:=by
 intro a b;refine aj hm O [] rfl ?_;try simp only[I,RX,↓KW,seval,CQ,Z.H]
 cases M:decide (b>0)<;>cases A:decide (a>IntKind.i64.wrap (9223372036854775807-b))<;>cases L:decide (b<0)<;>cases E:decide (a<IntKind.i64.wrap (-9223372036854775808-b))<;>
 (try simp only[RX,↓KW,seval,A,L,E];try(try simp only[I,B,D,RX,↓KW,seval,M,A,L,E]);rw[Z8,M,A,L,E];rfl)
theorem E5.ok(O:bu P f=some Af):E5.Spec (Pure P) f:=by
 intro a b;refine aj hm O [] rfl ?_;try simp only[I,RX,↓KW,seval,Af,Z.H]
 cases M:decide (b>0)<;>cases A:decide (a<IntKind.i64.wrap (-9223372036854775808+b))<;>cases L:decide (b<0)<;>cases E:decide (a>IntKind.i64.wrap (9223372036854775807+b))<;>
 (try simp only[RX,↓KW,seval,A,L,E];try(try simp only[I,B,D,RX,↓KW,seval,M,A,L,E]);rw[Z9,M,A,L,E];rfl)
theorem CU.ok(E:bu P f=some CM):CU.Spec (Pure P) f:=by
 intro p left here;refine aj hm E [] rfl ?_;try simp only[I,B,RX,↓KW,seval,CM,Z.H,Ph.cells]
 cases here
 ·try simp only[RX,↓KW,seval]
  cases A:decide (left>9999)
  ·try simp only[RX,↓KW,seval]
   cases D:decide (left>0)
   ·try simp only[RX,↓KW,seval]
    have a:=dE A
    have b:=dE D
    simp only[KU,ek a,ek b,ev,ib]
   ·try simp only[RX,↓KW,seval]
    have a:=dE A
    have b:=dC D
    rw[aU ST ST]
    simp only[KU,ek a,et b,ev,ib]
  ·try simp only[RX,↓KW,seval]
   have a:=dC A
   simp only[KU,et a,ev,ib]
   try rfl
 ·try simp only[RX,↓KW,seval]
  try rfl
theorem Ke.ok{O M L:Nat} (hc:bu P f=some (CN O M L)) (hL:oo.Spec (Pure P) O) (hP:Kc.Spec (Pure P) M) (hM:E5.Spec (Pure P) L):Ke.Spec (Pure P) f:=by
 intro p x eU
 have q:∀p:Ph,p.cells.length=13/\aF p.cells 0 (some 13)=some (.agg p.cells)/\p.cells[5]? =some (I p.step):=λ_=>⟨rfl,rfl,rfl⟩
 have V:∀x:Tr,x.cells.length=3/\aF x.cells 0 (some 3)=some (.agg x.cells)/\x.cells[0]? =some (I x.limit)/\x.cells[1]? =some (I x.up)/\x.cells[2]? =some (I x.down):=λ_=>⟨rfl,rfl,rfl,rfl,rfl⟩
 have R:∀n:Int,IntKind.i64.wrap ((if 1<(if 0>n then 0 else n)then 1 else(if 0>n then 0 else n))+1)=Vh n:=λn=>by
  rw[aU (by split<;>split<;>omega) (by split<;>split<;>omega)];rfl
 have z3:∀x:Tr,setCells [I 0,I 0,I 0] 0 x.cells=x.cells:=λ_=>rfl
 have E:∀a b c:Int,setCells [I 0,I 0,I 0] 0 [I a,I b,I c]=Tr.cells ⟨a,b,c⟩:=λ_ _ _=>rfl
 have s0:∀(x:Tr) (y:Int),setCells x.cells 0 [I y]=({x with limit:=y}:Tr).cells:=λ_ _=>rfl
 have s1:∀(x:Tr) (y:Int),setCells x.cells 1 [I y]=({x with up:=y}:Tr).cells:=λ_ _=>rfl
 have s2:∀(x:Tr) (y:Int),setCells x.cells 2 [I y]=({x with down:=y}:Tr).cells:=λ_ _=>rfl
 have A:=cB q (cB V (cB R (cB z3 (cB E (cB s0 (cB s1 (s2)))))))
 refine aj hm hc [] rfl ?_;try simp only[B,RY,↓KW,seval,CN,Z.H,A]
 refine af (hL p x) ?_;try simp only[I,RY,↓KW,seval,A]
 cases eU
 ·try simp only[I,RY,↓KW,seval,A]
  cases D:(Vh x.down==2)
  ·try simp only[RY,↓KW,seval,A]
   refine af (hL p ⟨o7 p x.limit,0,Vh x.down⟩) ?_;try simp only[I,RY,↓KW,seval,A]
   simp[LQ,Zc,Zd,D]
  ·try simp only[I,RY,↓KW,seval,A]
   refine af (hM (o7 p x.limit) p.step) ?_;try simp only[I,RY,↓KW,seval,A]
   refine af (hL p ⟨Z9 (o7 p x.limit) p.step,0,0⟩) ?_;try simp only[I,RY,↓KW,seval,A]
   simp[LQ,Zc,Zd,D]
 ·try simp only[I,RY,↓KW,seval,A]
  cases D:(Vh x.up==2)
  ·try simp only[I,RY,↓KW,seval,A]
   refine af (hL p ⟨o7 p x.limit,Vh x.up,0⟩) ?_;try simp only[I,RY,↓KW,seval,A]
   simp[LQ,Zc,Zd,D]
  ·try simp only[I,RY,↓KW,seval,A]
   refine af (hP (o7 p x.limit) p.step) ?_;try simp only[I,RY,↓KW,seval,A]
   refine af (hL p ⟨Z8 (o7 p x.limit) p.step,0,0⟩) ?_;try simp only[I,RY,↓KW,seval,A]
   simp[LQ,Zc,Zd,D]
theorem lV.ok{R:Nat} (hc:bu P f=some (CL R)) (V:mP.Spec (Pure P) R):lV.Spec (Pure P) f:=by
 intro p st time b;refine aj hm hc [] rfl ?_;try simp only[I,B,RX,↓KW,seval,CL,Z.H,Ph.cells]
 cases L:(st==1)<;>cases A:(st==2)<;>cases O:decide (time>=p.walk)<;>cases E:decide (time>=p.fc)<;>cases b<;>cases M:decide (p.walk>0)
 all_goals try simp only[RX,↓KW,seval,L,A,O,E,M]
 all_goals try simp only[I,B,D,RX,↓KW,seval,L,A,O,E,M,Ph.cells]
 all_goals(try(refine af (V _) ?_))
 all_goals try simp only[I,RX,↓KW,seval]
 all_goals simp only[Ig,L,A,O,E,M,pA,nd,wi,Bool.or_false,ev,kh,ib]
theorem uW.ok(B:bu P f=some E1):uW.Spec (Pure P) f:=by
 intro st time;refine aj hm B [] rfl ?_;try simp only[I,RX,↓KW,seval,E1,Z.H]
 cases A:(st==1)
 ·try simp only[RX,↓KW,seval]
  simp[Kb,A]
 ·try simp only[RX,↓KW,seval]
  simp[Kb,A]
theorem Aj.ok(D:bu P f=some uS):Aj.Spec (Pure P) f:=by
 intro st time;refine aj hm D [] rfl ?_;try simp only[I,B,RX,↓KW,seval,uS,Z.H]
 cases A:(st==1)
 ·try simp only[RX,↓KW,seval]
  simp[dQ,A]
 ·try simp only[RX,↓KW,seval]
  simp[dQ,A]
theorem Ak.ok{A:Nat} (B:bu P f=some (uO A)) (hG:E4.Spec (Pure P) A):Ak.Spec (Pure P) f:=by
 intro p
 have q:aF p.cells 0 (some 13)=some (.agg p.cells):=rfl
 refine aj hm B [] rfl ?_;try simp only[RX,↓KW,seval,uO,Z.H,q]
 refine af (hG p) ?_;try simp only[I,RX,↓KW,seval,Tr.cells,bw]
 rfl
theorem Kf.ok(A:bu P f=some qT):Kf.Spec (Pure P) f:=by
 intro p r c a b
 have B:=yH p r c
 refine aj hm A [] rfl ?_;try simp only[I,RX,↓KW,seval,qT,Z.H,B,Tr.cells,bw]
 rfl
theorem Kg.ok{D L E:Nat} (hc:bu P f=some (o5 D L E)) (hM:mP.Spec (Pure P) D) (hA:Kf.Spec (Pure P) L) (hP:lV.Spec (Pure P) E):Kg.Spec (Pure P) f:=by
 intro p r c
 have V:=yH p r c
 have O:=Ih p r c
 have R:=E8 p r c
 have t4:=LR p r c
 have A:=cB V (cB O (cB R (t4)))
 refine aj hm hc [] rfl ?_;try simp only[B,RX,↓KW,seval,o5,Z.H,A,bw]
 cases M:c.start
 ·try simp only[I,RX,↓KW,seval,A]
  refine af (hM _) ?_;try simp only[I,RX,↓KW,seval]
  refine af (hA p r c _ _) ?_;try simp only[I,B,RX,↓KW,seval,Rn.cells,th]
  simp[F3,M,th]
 ·try simp only[RX,↓KW,seval,A]
  refine af (hA p r c _ _) ?_;try simp only[I,B,RX,↓KW,seval,Rn.cells,th]
  refine mT rfl ?_;try simp only[B,RX,↓KW,seval,A]
  refine af (hP p 0 0 c.push) ?_;try simp only[I,RX,↓KW,seval,A]
  simp[F3,M,th]
theorem uX.ok{D L:Nat} (hc:bu P f=some (mw D L)) (hM:mP.Spec (Pure P) D) (hA:Kf.Spec (Pure P) L):uX.Spec (Pure P) f:=by
 intro p r c
 have V:=yH p r c
 have O:=Ih p r c
 have R:=E8 p r c
 have A:=cB V (cB O (R))
 refine aj hm hc [] rfl ?_;try simp only[I,RX,↓KW,seval,mw,Z.H,A,bw]
 cases M:decide (r.time<p.eZ)
 ·have a:=dE M
  try simp only[I,RX,↓KW,seval,A]
  cases E:decide (p.red>0)
  ·have b:=dE E
   try simp only[RX,↓KW,seval,A]
   refine af (hA p r c _ _) ?_;try simp only[I,B,RX,↓KW,seval,Rn.cells,th]
   simp only[ny,ek a,ek b,th]
  ·have b:=dC E
   try simp only[RX,↓KW,seval,A]
   refine af (hA p r c _ _) ?_;try simp only[I,B,RX,↓KW,seval,Rn.cells,th]
   simp only[ny,ek a,et b,th]
 ·have a:=dC M
  try simp only[I,RX,↓KW,seval,A]
  refine af (hM _) ?_;try simp only[I,RX,↓KW,seval]
  refine af (hA p r c _ _) ?_;try simp only[I,B,RX,↓KW,seval,Rn.cells,th]
  simp only[ny,et a,th]
theorem uY.ok{D E:Nat} (hc:bu P f=some (mz D E)) (V:mP.Spec (Pure P) D) (hA:Kf.Spec (Pure P) E):uY.Spec (Pure P) f:=by
 intro p r c
 have R:=yH p r c
 have M:=Ih p r c
 have O:=E8 p r c
 have A:=cB R (cB M (O))
 refine aj hm hc [] rfl ?_;try simp only[I,RX,↓KW,seval,mz,Z.H,A,bw]
 cases L:decide (r.time<p.red)
 ·have a:=dE L
  try simp only[RX,↓KW,seval,A]
  refine af (hA p r c _ _) ?_;try simp only[I,B,RX,↓KW,seval,Rn.cells,th]
  simp only[uV,ek a,th]
 ·have a:=dC L
  try simp only[I,RX,↓KW,seval,A]
  refine af (V _) ?_;try simp only[I,RX,↓KW,seval]
  refine af (hA p r c _ _) ?_;try simp only[I,B,RX,↓KW,seval,Rn.cells,th]
  simp only[uV,et a,th]
omit hm in
theorem bc(b:Bool):b=false\/b=true:=by cases b<;>simp
set_option maxHeartbeats 40000000 in
theorem BE.ok{fM fC fP fS fL fI:Nat} (hc:bu P f=some (om fM fC fP fS fL fI)) (hM:mP.Spec (Pure P) fM) (hC:uW.Spec (Pure P) fC) (hP:lV.Spec (Pure P) fP) (hS:Aj.Spec (Pure P) fS) (hL:CU.Spec (Pure P) fL) (hI:oo.Spec (Pure P) fI):BE.Spec (Pure P) f:=by
 intro p r c
 have t1:=yH p r c
 have t2:=Ih p r c
 have t3:=E8 p r c
 have t4:=LR p r c
 have A:=cB t1 (cB t2 (cB t3 (t4)))
 obtain⟨a,b,L⟩:∃a b,F2 p r c=(a,b):=⟨_,_,rfl⟩
 obtain⟨d,hd⟩:∃d,bN p r c=d:=⟨_,rfl⟩
 refine aj hm hc [] rfl ?_;try simp only[I,B,D,RX,↓KW,seval,om,Z.H,A,bw,Rn.cells]
 refine af (hM _) ?_;try simp only[I,B,D,RX,↓KW,seval,A,Rn.cells]
 have aa:∀q,(c.push&& !c.bL)=q->((c.cut&&r.fst==1)=false)->(Pure P).c fP [.agg p.cells,.agg [I r.fst,I r.cn],B q] (.agg [I a,I b]) none:=λq h1 h2=>by
  have h3:=hP p r.fst r.cn q
  have hF:=L
  rw[F2,h2,h1]at hF;simp only[ev,ib]at hF;rw[hF]at h3;exact h3
 have ab:c.cut=true->(r.fst==1)=true->(Pure P).c fC [.agg [I r.fst,I r.cn]] (.agg [I a,I b]) none:=λh1 h2=>by
  have h3:=hC r.fst r.cn
  have hF:=L
  rw[F2,h1,h2]at hF;simp only[Fd,kh]at hF;rw[hF]at h3;exact h3
 have J:(c.cut=false/\(c.cut&&r.fst==1)=false)\/(c.cut=true/\(r.fst==1)=false/\(c.cut&&r.fst==1)=false)\/(c.cut=true/\(r.fst==1)=true/\(c.cut&&r.fst==1)=true):=by
  rcases bc c.cut with h|h<;>rcases bc (r.fst==1)with h'|h'<;>simp[h,h']
 have K:(c.push=false/\(c.push&& !c.bL)=false)\/(c.push=true/\c.bL=false/\(c.push&& !c.bL)=true)\/(c.push=true/\c.bL=true/\(c.push&& !c.bL)=false):=by
  rcases bc c.push with h|h<;>rcases bc c.bL with h'|h'<;>simp[h,h']
 rcases J with⟨j1,j3⟩|⟨j1,j2,j3⟩|⟨j1,j2,j3⟩
 ·try simp only[I,B,D,RX,↓KW,seval,j1,A,Rn.cells]
  rcases K with⟨k1,k3⟩|⟨k1,k2,k3⟩|⟨k1,k2,k3⟩
  ·try simp only[I,B,D,RX,↓KW,seval,k1,A,Rn.cells]
   refine af (aa _ k3 j3) ?_;try simp only[I,B,D,RX,↓KW,seval,A,Rn.cells]
   refine af (hS r.fst r.cn) ?_;try simp only[I,B,D,RX,↓KW,seval,A,Rn.cells]
   rcases bc (dQ r.fst)with M|M
   all_goals try simp only[I,B,D,RX,↓KW,seval,M,A,Rn.cells]
   rcases bc (a==1)with ha|ha
   all_goals try simp only[I,B,D,RX,↓KW,seval,ha,A,Rn.cells]
   all_goals(refine af (hL p r.left c.here) ?_)
   all_goals try simp only[I,B,D,RX,↓KW,seval,A,Rn.cells]
   all_goals rcases bc c.bL with E|E
   all_goals try simp only[I,B,D,RX,↓KW,seval,E,A,Rn.cells]
   all_goals(try(refine af (hM r.ie) ?_))
   all_goals try simp only[I,B,D,RX,↓KW,seval,A,Rn.cells]
   all_goals(refine af (hI p ⟨r.limit,r.up,r.down⟩) ?_)
   all_goals try simp only[I,B,D,RX,↓KW,seval,E,A,Rn.cells]
   all_goals(refine mT rfl ?_)
   all_goals try simp only[I,B,D,RX,↓KW,seval,E,A,Rn.cells]
   all_goals(first|(show AV.dF _=AV.dF _;simp[gT,dR,bR,bN,Rn.cells,L,M,E, *];done)|(rcases bc r.done with R|R<;>try simp only[I,B,D,RX,↓KW,seval,R,A,Rn.cells]))
   all_goals(first|(show AV.dF _=AV.dF _;simp[gT,dR,bR,bN,Rn.cells,L,M,E, *];done)|(rcases bc (decide (bz r.time>=p.min))with ht|ht<;>try simp only[I,B,D,RX,↓KW,seval,ht,A,Rn.cells]))
   all_goals(first|(show AV.dF _=AV.dF _;simp[gT,dR,bR,bN,Rn.cells,L,M,E, *];done)|(refine af (hS a b) ?_))
   all_goals try simp only[I,B,D,RX,↓KW,seval,A,Rn.cells]
   all_goals(first|(show AV.dF _=AV.dF _;simp[gT,dR,bR,bN,Rn.cells,L,M,E, *];done)|(rcases bc (dQ a)with O|O<;>try simp only[I,B,D,RX,↓KW,seval,O,A,Rn.cells]))
   all_goals(first|(show AV.dF _=AV.dF _;simp[gT,dR,bR,bN,Rn.cells,L,M,E, *];done)|(rcases bc (KU p r.left c.here==0)with hl|hl<;>try simp only[I,B,D,RX,↓KW,seval,hl,A,Rn.cells]))
   all_goals(first|(show AV.dF _=AV.dF _;simp[gT,dR,bR,bN,Rn.cells,L,M,E, *];done)|(rcases bc (decide (bz r.ie>=o7 p r.limit))with V|V<;>try simp only[I,B,D,RX,↓KW,seval,V,A,Rn.cells]))
   all_goals(first|(show AV.dF _=AV.dF _;simp[gT,dR,bR,bN,Rn.cells,L,M,E, *];done)|(rcases bc c.early with he|he<;>try simp only[I,B,D,RX,↓KW,seval,he,A,Rn.cells]))
   all_goals(first|(show AV.dF _=AV.dF _;simp[gT,dR,bR,bN,Rn.cells,L,M,E, *];done)|skip)
  ·try simp only[I,B,D,RX,↓KW,seval,k1,k2,A,Rn.cells]
   refine af (aa _ k3 j3) ?_;try simp only[I,B,D,RX,↓KW,seval,A,Rn.cells]
   refine af (hS r.fst r.cn) ?_;try simp only[I,B,D,RX,↓KW,seval,A,Rn.cells]
   rcases bc (dQ r.fst)with M|M
   all_goals try simp only[I,B,D,RX,↓KW,seval,M,A,Rn.cells]
   rcases bc (a==1)with ha|ha
   all_goals try simp only[I,B,D,RX,↓KW,seval,ha,A,Rn.cells]
   all_goals(refine af (hL p r.left c.here) ?_)
   all_goals try simp only[I,B,D,RX,↓KW,seval,A,Rn.cells]
   all_goals rcases bc c.bL with E|E
   all_goals try simp only[I,B,D,RX,↓KW,seval,E,A,Rn.cells]
   all_goals(try(refine af (hM r.ie) ?_))
   all_goals try simp only[I,B,D,RX,↓KW,seval,A,Rn.cells]
   all_goals(refine af (hI p ⟨r.limit,r.up,r.down⟩) ?_)
   all_goals try simp only[I,B,D,RX,↓KW,seval,E,A,Rn.cells]
   all_goals(refine mT rfl ?_)
   all_goals try simp only[I,B,D,RX,↓KW,seval,E,A,Rn.cells]
   all_goals(first|(show AV.dF _=AV.dF _;simp[gT,dR,bR,bN,Rn.cells,L,M,E, *];done)|(rcases bc r.done with R|R<;>try simp only[I,B,D,RX,↓KW,seval,R,A,Rn.cells]))
   all_goals(first|(show AV.dF _=AV.dF _;simp[gT,dR,bR,bN,Rn.cells,L,M,E, *];done)|(rcases bc (decide (bz r.time>=p.min))with ht|ht<;>try simp only[I,B,D,RX,↓KW,seval,ht,A,Rn.cells]))
   all_goals(first|(show AV.dF _=AV.dF _;simp[gT,dR,bR,bN,Rn.cells,L,M,E, *];done)|(refine af (hS a b) ?_))
   all_goals try simp only[I,B,D,RX,↓KW,seval,A,Rn.cells]
   all_goals(first|(show AV.dF _=AV.dF _;simp[gT,dR,bR,bN,Rn.cells,L,M,E, *];done)|(rcases bc (dQ a)with O|O<;>try simp only[I,B,D,RX,↓KW,seval,O,A,Rn.cells]))
   all_goals(first|(show AV.dF _=AV.dF _;simp[gT,dR,bR,bN,Rn.cells,L,M,E, *];done)|(rcases bc (KU p r.left c.here==0)with hl|hl<;>try simp only[I,B,D,RX,↓KW,seval,hl,A,Rn.cells]))
   all_goals(first|(show AV.dF _=AV.dF _;simp[gT,dR,bR,bN,Rn.cells,L,M,E, *];done)|(rcases bc (decide (bz r.ie>=o7 p r.limit))with V|V<;>try simp only[I,B,D,RX,↓KW,seval,V,A,Rn.cells]))
   all_goals(first|(show AV.dF _=AV.dF _;simp[gT,dR,bR,bN,Rn.cells,L,M,E, *];done)|(rcases bc c.early with he|he<;>try simp only[I,B,D,RX,↓KW,seval,he,A,Rn.cells]))
   all_goals(first|(show AV.dF _=AV.dF _;simp[gT,dR,bR,bN,Rn.cells,L,M,E, *];done)|skip)
  ·try simp only[I,B,D,RX,↓KW,seval,k1,k2,A,Rn.cells]
   refine af (aa _ k3 j3) ?_;try simp only[I,B,D,RX,↓KW,seval,A,Rn.cells]
   refine af (hS r.fst r.cn) ?_;try simp only[I,B,D,RX,↓KW,seval,A,Rn.cells]
   rcases bc (dQ r.fst)with M|M
   all_goals try simp only[I,B,D,RX,↓KW,seval,M,A,Rn.cells]
   rcases bc (a==1)with ha|ha
   all_goals try simp only[I,B,D,RX,↓KW,seval,ha,A,Rn.cells]
   all_goals(refine af (hL p r.left c.here) ?_)
   all_goals try simp only[I,B,D,RX,↓KW,seval,A,Rn.cells]
   all_goals rcases bc c.bL with E|E
   all_goals try simp only[I,B,D,RX,↓KW,seval,E,A,Rn.cells]
   all_goals(try(refine af (hM r.ie) ?_))
   all_goals try simp only[I,B,D,RX,↓KW,seval,A,Rn.cells]
   all_goals(refine af (hI p ⟨r.limit,r.up,r.down⟩) ?_)
   all_goals try simp only[I,B,D,RX,↓KW,seval,E,A,Rn.cells]
   all_goals(refine mT rfl ?_)
   all_goals try simp only[I,B,D,RX,↓KW,seval,E,A,Rn.cells]
   all_goals(first|(show AV.dF _=AV.dF _;simp[gT,dR,bR,bN,Rn.cells,L,M,E, *];done)|(rcases bc r.done with R|R<;>try simp only[I,B,D,RX,↓KW,seval,R,A,Rn.cells]))
   all_goals(first|(show AV.dF _=AV.dF _;simp[gT,dR,bR,bN,Rn.cells,L,M,E, *];done)|(rcases bc (decide (bz r.time>=p.min))with ht|ht<;>try simp only[I,B,D,RX,↓KW,seval,ht,A,Rn.cells]))
   all_goals(first|(show AV.dF _=AV.dF _;simp[gT,dR,bR,bN,Rn.cells,L,M,E, *];done)|(refine af (hS a b) ?_))
   all_goals try simp only[I,B,D,RX,↓KW,seval,A,Rn.cells]
   all_goals(first|(show AV.dF _=AV.dF _;simp[gT,dR,bR,bN,Rn.cells,L,M,E, *];done)|(rcases bc (dQ a)with O|O<;>try simp only[I,B,D,RX,↓KW,seval,O,A,Rn.cells]))
   all_goals(first|(show AV.dF _=AV.dF _;simp[gT,dR,bR,bN,Rn.cells,L,M,E, *];done)|(rcases bc (KU p r.left c.here==0)with hl|hl<;>try simp only[I,B,D,RX,↓KW,seval,hl,A,Rn.cells]))
   all_goals(first|(show AV.dF _=AV.dF _;simp[gT,dR,bR,bN,Rn.cells,L,M,E, *];done)|(rcases bc (decide (bz r.ie>=o7 p r.limit))with V|V<;>try simp only[I,B,D,RX,↓KW,seval,V,A,Rn.cells]))
   all_goals(first|(show AV.dF _=AV.dF _;simp[gT,dR,bR,bN,Rn.cells,L,M,E, *];done)|(rcases bc c.early with he|he<;>try simp only[I,B,D,RX,↓KW,seval,he,A,Rn.cells]))
   all_goals(first|(show AV.dF _=AV.dF _;simp[gT,dR,bR,bN,Rn.cells,L,M,E, *];done)|skip)
 ·try simp only[I,B,D,RX,↓KW,seval,j1,j2,A,Rn.cells]
  try simp only[I,B,D,RX,↓KW,seval,j1,j2,A,Rn.cells]
  rcases K with⟨k1,k3⟩|⟨k1,k2,k3⟩|⟨k1,k2,k3⟩
  ·try simp only[I,B,D,RX,↓KW,seval,k1,A,Rn.cells]
   refine af (aa _ k3 j3) ?_;try simp only[I,B,D,RX,↓KW,seval,A,Rn.cells]
   refine af (hS r.fst r.cn) ?_;try simp only[I,B,D,RX,↓KW,seval,A,Rn.cells]
   rcases bc (dQ r.fst)with M|M
   all_goals try simp only[I,B,D,RX,↓KW,seval,M,A,Rn.cells]
   rcases bc (a==1)with ha|ha
   all_goals try simp only[I,B,D,RX,↓KW,seval,ha,A,Rn.cells]
   all_goals(refine af (hL p r.left c.here) ?_)
   all_goals try simp only[I,B,D,RX,↓KW,seval,A,Rn.cells]
   all_goals rcases bc c.bL with E|E
   all_goals try simp only[I,B,D,RX,↓KW,seval,E,A,Rn.cells]
   all_goals(try(refine af (hM r.ie) ?_))
   all_goals try simp only[I,B,D,RX,↓KW,seval,A,Rn.cells]
   all_goals(refine af (hI p ⟨r.limit,r.up,r.down⟩) ?_)
   all_goals try simp only[I,B,D,RX,↓KW,seval,E,A,Rn.cells]
   all_goals(refine mT rfl ?_)
   all_goals try simp only[I,B,D,RX,↓KW,seval,E,A,Rn.cells]
   all_goals(first|(show AV.dF _=AV.dF _;simp[gT,dR,bR,bN,Rn.cells,L,M,E, *];done)|(rcases bc r.done with R|R<;>try simp only[I,B,D,RX,↓KW,seval,R,A,Rn.cells]))
   all_goals(first|(show AV.dF _=AV.dF _;simp[gT,dR,bR,bN,Rn.cells,L,M,E, *];done)|(rcases bc (decide (bz r.time>=p.min))with ht|ht<;>try simp only[I,B,D,RX,↓KW,seval,ht,A,Rn.cells]))
   all_goals(first|(show AV.dF _=AV.dF _;simp[gT,dR,bR,bN,Rn.cells,L,M,E, *];done)|(refine af (hS a b) ?_))
   all_goals try simp only[I,B,D,RX,↓KW,seval,A,Rn.cells]
   all_goals(first|(show AV.dF _=AV.dF _;simp[gT,dR,bR,bN,Rn.cells,L,M,E, *];done)|(rcases bc (dQ a)with O|O<;>try simp only[I,B,D,RX,↓KW,seval,O,A,Rn.cells]))
   all_goals(first|(show AV.dF _=AV.dF _;simp[gT,dR,bR,bN,Rn.cells,L,M,E, *];done)|(rcases bc (KU p r.left c.here==0)with hl|hl<;>try simp only[I,B,D,RX,↓KW,seval,hl,A,Rn.cells]))
   all_goals(first|(show AV.dF _=AV.dF _;simp[gT,dR,bR,bN,Rn.cells,L,M,E, *];done)|(rcases bc (decide (bz r.ie>=o7 p r.limit))with V|V<;>try simp only[I,B,D,RX,↓KW,seval,V,A,Rn.cells]))
   all_goals(first|(show AV.dF _=AV.dF _;simp[gT,dR,bR,bN,Rn.cells,L,M,E, *];done)|(rcases bc c.early with he|he<;>try simp only[I,B,D,RX,↓KW,seval,he,A,Rn.cells]))
   all_goals(first|(show AV.dF _=AV.dF _;simp[gT,dR,bR,bN,Rn.cells,L,M,E, *];done)|skip)
  ·try simp only[I,B,D,RX,↓KW,seval,k1,k2,A,Rn.cells]
   refine af (aa _ k3 j3) ?_;try simp only[I,B,D,RX,↓KW,seval,A,Rn.cells]
   refine af (hS r.fst r.cn) ?_;try simp only[I,B,D,RX,↓KW,seval,A,Rn.cells]
   rcases bc (dQ r.fst)with M|M
   all_goals try simp only[I,B,D,RX,↓KW,seval,M,A,Rn.cells]
   rcases bc (a==1)with ha|ha
   all_goals try simp only[I,B,D,RX,↓KW,seval,ha,A,Rn.cells]
   all_goals(refine af (hL p r.left c.here) ?_)
   all_goals try simp only[I,B,D,RX,↓KW,seval,A,Rn.cells]
   all_goals rcases bc c.bL with E|E
   all_goals try simp only[I,B,D,RX,↓KW,seval,E,A,Rn.cells]
   all_goals(try(refine af (hM r.ie) ?_))
   all_goals try simp only[I,B,D,RX,↓KW,seval,A,Rn.cells]
   all_goals(refine af (hI p ⟨r.limit,r.up,r.down⟩) ?_)
   all_goals try simp only[I,B,D,RX,↓KW,seval,E,A,Rn.cells]
   all_goals(refine mT rfl ?_)
   all_goals try simp only[I,B,D,RX,↓KW,seval,E,A,Rn.cells]
   all_goals(first|(show AV.dF _=AV.dF _;simp[gT,dR,bR,bN,Rn.cells,L,M,E, *];done)|(rcases bc r.done with R|R<;>try simp only[I,B,D,RX,↓KW,seval,R,A,Rn.cells]))
   all_goals(first|(show AV.dF _=AV.dF _;simp[gT,dR,bR,bN,Rn.cells,L,M,E, *];done)|(rcases bc (decide (bz r.time>=p.min))with ht|ht<;>try simp only[I,B,D,RX,↓KW,seval,ht,A,Rn.cells]))
   all_goals(first|(show AV.dF _=AV.dF _;simp[gT,dR,bR,bN,Rn.cells,L,M,E, *];done)|(refine af (hS a b) ?_))
   all_goals try simp only[I,B,D,RX,↓KW,seval,A,Rn.cells]
   all_goals(first|(show AV.dF _=AV.dF _;simp[gT,dR,bR,bN,Rn.cells,L,M,E, *];done)|(rcases bc (dQ a)with O|O<;>try simp only[I,B,D,RX,↓KW,seval,O,A,Rn.cells]))
   all_goals(first|(show AV.dF _=AV.dF _;simp[gT,dR,bR,bN,Rn.cells,L,M,E, *];done)|(rcases bc (KU p r.left c.here==0)with hl|hl<;>try simp only[I,B,D,RX,↓KW,seval,hl,A,Rn.cells]))
   all_goals(first|(show AV.dF _=AV.dF _;simp[gT,dR,bR,bN,Rn.cells,L,M,E, *];done)|(rcases bc (decide (bz r.ie>=o7 p r.limit))with V|V<;>try simp only[I,B,D,RX,↓KW,seval,V,A,Rn.cells]))
   all_goals(first|(show AV.dF _=AV.dF _;simp[gT,dR,bR,bN,Rn.cells,L,M,E, *];done)|(rcases bc c.early with he|he<;>try simp only[I,B,D,RX,↓KW,seval,he,A,Rn.cells]))
   all_goals(first|(show AV.dF _=AV.dF _;simp[gT,dR,bR,bN,Rn.cells,L,M,E, *];done)|skip)
  ·try simp only[I,B,D,RX,↓KW,seval,k1,k2,A,Rn.cells]
   refine af (aa _ k3 j3) ?_;try simp only[I,B,D,RX,↓KW,seval,A,Rn.cells]
   refine af (hS r.fst r.cn) ?_;try simp only[I,B,D,RX,↓KW,seval,A,Rn.cells]
   rcases bc (dQ r.fst)with M|M
   all_goals try simp only[I,B,D,RX,↓KW,seval,M,A,Rn.cells]
   rcases bc (a==1)with ha|ha
   all_goals try simp only[I,B,D,RX,↓KW,seval,ha,A,Rn.cells]
   all_goals(refine af (hL p r.left c.here) ?_)
   all_goals try simp only[I,B,D,RX,↓KW,seval,A,Rn.cells]
   all_goals rcases bc c.bL with E|E
   all_goals try simp only[I,B,D,RX,↓KW,seval,E,A,Rn.cells]
   all_goals(try(refine af (hM r.ie) ?_))
   all_goals try simp only[I,B,D,RX,↓KW,seval,A,Rn.cells]
   all_goals(refine af (hI p ⟨r.limit,r.up,r.down⟩) ?_)
   all_goals try simp only[I,B,D,RX,↓KW,seval,E,A,Rn.cells]
   all_goals(refine mT rfl ?_)
   all_goals try simp only[I,B,D,RX,↓KW,seval,E,A,Rn.cells]
   all_goals(first|(show AV.dF _=AV.dF _;simp[gT,dR,bR,bN,Rn.cells,L,M,E, *];done)|(rcases bc r.done with R|R<;>try simp only[I,B,D,RX,↓KW,seval,R,A,Rn.cells]))
   all_goals(first|(show AV.dF _=AV.dF _;simp[gT,dR,bR,bN,Rn.cells,L,M,E, *];done)|(rcases bc (decide (bz r.time>=p.min))with ht|ht<;>try simp only[I,B,D,RX,↓KW,seval,ht,A,Rn.cells]))
   all_goals(first|(show AV.dF _=AV.dF _;simp[gT,dR,bR,bN,Rn.cells,L,M,E, *];done)|(refine af (hS a b) ?_))
   all_goals try simp only[I,B,D,RX,↓KW,seval,A,Rn.cells]
   all_goals(first|(show AV.dF _=AV.dF _;simp[gT,dR,bR,bN,Rn.cells,L,M,E, *];done)|(rcases bc (dQ a)with O|O<;>try simp only[I,B,D,RX,↓KW,seval,O,A,Rn.cells]))
   all_goals(first|(show AV.dF _=AV.dF _;simp[gT,dR,bR,bN,Rn.cells,L,M,E, *];done)|(rcases bc (KU p r.left c.here==0)with hl|hl<;>try simp only[I,B,D,RX,↓KW,seval,hl,A,Rn.cells]))
   all_goals(first|(show AV.dF _=AV.dF _;simp[gT,dR,bR,bN,Rn.cells,L,M,E, *];done)|(rcases bc (decide (bz r.ie>=o7 p r.limit))with V|V<;>try simp only[I,B,D,RX,↓KW,seval,V,A,Rn.cells]))
   all_goals(first|(show AV.dF _=AV.dF _;simp[gT,dR,bR,bN,Rn.cells,L,M,E, *];done)|(rcases bc c.early with he|he<;>try simp only[I,B,D,RX,↓KW,seval,he,A,Rn.cells]))
   all_goals(first|(show AV.dF _=AV.dF _;simp[gT,dR,bR,bN,Rn.cells,L,M,E, *];done)|skip)
 ·try simp only[I,B,D,RX,↓KW,seval,j1,j2,A,Rn.cells]
  ·try simp only[I,B,D,RX,↓KW,seval,j1,j2,A,Rn.cells]
   refine af (ab j1 j2) ?_;try simp only[I,B,D,RX,↓KW,seval,A,Rn.cells]
   refine af (hS r.fst r.cn) ?_;try simp only[I,B,D,RX,↓KW,seval,A,Rn.cells]
   rcases bc (dQ r.fst)with M|M
   all_goals try simp only[I,B,D,RX,↓KW,seval,M,A,Rn.cells]
   rcases bc (a==1)with ha|ha
   all_goals try simp only[I,B,D,RX,↓KW,seval,ha,A,Rn.cells]
   all_goals(refine af (hL p r.left c.here) ?_)
   all_goals try simp only[I,B,D,RX,↓KW,seval,A,Rn.cells]
   all_goals rcases bc c.bL with E|E
   all_goals try simp only[I,B,D,RX,↓KW,seval,E,A,Rn.cells]
   all_goals(try(refine af (hM r.ie) ?_))
   all_goals try simp only[I,B,D,RX,↓KW,seval,A,Rn.cells]
   all_goals(refine af (hI p ⟨r.limit,r.up,r.down⟩) ?_)
   all_goals try simp only[I,B,D,RX,↓KW,seval,E,A,Rn.cells]
   all_goals(refine mT rfl ?_)
   all_goals try simp only[I,B,D,RX,↓KW,seval,E,A,Rn.cells]
   all_goals(first|(show AV.dF _=AV.dF _;simp[gT,dR,bR,bN,Rn.cells,L,M,E, *];done)|(rcases bc r.done with R|R<;>try simp only[I,B,D,RX,↓KW,seval,R,A,Rn.cells]))
   all_goals(first|(show AV.dF _=AV.dF _;simp[gT,dR,bR,bN,Rn.cells,L,M,E, *];done)|(rcases bc (decide (bz r.time>=p.min))with ht|ht<;>try simp only[I,B,D,RX,↓KW,seval,ht,A,Rn.cells]))
   all_goals(first|(show AV.dF _=AV.dF _;simp[gT,dR,bR,bN,Rn.cells,L,M,E, *];done)|(refine af (hS a b) ?_))
   all_goals try simp only[I,B,D,RX,↓KW,seval,A,Rn.cells]
   all_goals(first|(show AV.dF _=AV.dF _;simp[gT,dR,bR,bN,Rn.cells,L,M,E, *];done)|(rcases bc (dQ a)with O|O<;>try simp only[I,B,D,RX,↓KW,seval,O,A,Rn.cells]))
   all_goals(first|(show AV.dF _=AV.dF _;simp[gT,dR,bR,bN,Rn.cells,L,M,E, *];done)|(rcases bc (KU p r.left c.here==0)with hl|hl<;>try simp only[I,B,D,RX,↓KW,seval,hl,A,Rn.cells]))
   all_goals(first|(show AV.dF _=AV.dF _;simp[gT,dR,bR,bN,Rn.cells,L,M,E, *];done)|(rcases bc (decide (bz r.ie>=o7 p r.limit))with V|V<;>try simp only[I,B,D,RX,↓KW,seval,V,A,Rn.cells]))
   all_goals(first|(show AV.dF _=AV.dF _;simp[gT,dR,bR,bN,Rn.cells,L,M,E, *];done)|(rcases bc c.early with he|he<;>try simp only[I,B,D,RX,↓KW,seval,he,A,Rn.cells]))
   all_goals(first|(show AV.dF _=AV.dF _;simp[gT,dR,bR,bN,Rn.cells,L,M,E, *];done)|skip)
end
section
variable{P:Program} (hm:P.follows .mixedOrders=true) {f:Nat}
include hm
theorem Am.ok{fA V fO fM fI:Nat} (hc:bu P f=some (ng fA V fO fM fI)) (hA:Kf.Spec (Pure P) fA) (hG:Ke.Spec (Pure P) V) (hO:BE.Spec (Pure P) fO) (hM:mP.Spec (Pure P) fM) (hI:oo.Spec (Pure P) fI):Am.Spec (Pure P) f:=by
 intro p r c
 have R:=yH p r c
 have t3:=E8 p r c
 have t4:=LR p r c
 have O:=hO p r c
 obtain⟨g,M⟩:∃g,gT p r c=g:=⟨_,rfl⟩
 obtain⟨d,hd⟩:∃d,dR p g c=d:=⟨_,rfl⟩
 rw[M,hd]at O;refine aj hm hc [] rfl ?_;try simp only[B,RX,↓KW,seval,ng,Z.H,t4,bw]
 rcases bc c.fin with D|D
 ·try simp only[RX,↓KW,seval,D,R]
  refine af O ?_;try simp only[I,B,RX,↓KW,seval,Rn.cells]
  rcases bc d with A|A
  ·try simp only[RX,↓KW,seval,A]
   simp[iw,D,M,hd,A]
  ·try simp only[B,RX,↓KW,seval,A,t4]
   rcases bc c.hold with E|E
   ·try simp only[RX,↓KW,seval,E]
    rcases bc (decide (g.left>0))with L|L
    ·try simp only[RX,↓KW,seval,L]
     simp[iw,D,M,hd,A,E,L]
    ·try simp only[RX,↓KW,seval,L,R]
     refine af (hI p ⟨g.limit,g.up,g.down⟩) ?_;try simp only[I,RX,↓KW,seval]
     simp[iw,D,M,hd,A,E,L,bR]
   ·try simp only[RX,↓KW,seval,E]
    refine af (hM g.extra) ?_;try simp only[I,RX,↓KW,seval]
    simp[iw,D,M,hd,A,E]
 ·try simp only[RX,↓KW,seval,D,R]
  refine af (hA p r c _ _) ?_;try simp only[I,B,RX,↓KW,seval,t3,Rn.cells,th]
  rcases bc r.done with A|A
  ·try simp only[RX,↓KW,seval,A]
   simp[iw,D,A,th]
  ·try simp only[B,RX,↓KW,seval,A,R,t3]
   refine af (hG p ⟨r.limit,r.up,r.down⟩ r.eU) ?_;try simp only[I,RX,↓KW,seval,Tr.cells]
   simp[iw,D,A,th]
theorem E7.ok{O:Nat} (hc:bu P f=some (wY O)) (hO:BE.Spec (Pure P) O):E7.Spec (Pure P) f:=by
 intro p r c
 have qp:aF p.cells 0 (some 13)=some (.agg p.cells):=rfl
 have V:aF r.cells 0 (some 12)=some (.agg r.cells)/\r.cells[0]? =some (I r.aH):=⟨rfl,rfl⟩
 have M:aF c.cells 0 (some 8)=some (.agg c.cells)/\c.cells[1]? =some (B c.fin)/\c.cells[5]? =some (B c.hold):=⟨rfl,rfl,rfl⟩
 have L:=hO p r c
 obtain⟨g,R⟩:∃g,gT p r c=g:=⟨_,rfl⟩
 obtain⟨d,hd⟩:∃d,dR p g c=d:=⟨_,rfl⟩
 rw[R,hd]at L
 have b1:∀ps,wG 0 13 (some (.agg p.cells)) (some ps)=some ((0,p.cells)::ps):=λ_=>rfl
 have b2:∀ps,wG 13 12 (some (.agg r.cells)) (some ps)=some ((13,r.cells)::ps):=λ_=>rfl
 have b3:∀ps,wG 25 8 (some (.agg c.cells)) (some ps)=some ((25,c.cells)::ps):=λ_=>rfl
 have b4:nG lK [(0,p.cells),(13,r.cells),(25,c.cells)]=fQ p r c:=rfl
 refine aj hm hc [] rfl ?_;try simp only[I,B,RX,↓KW,seval,wY,Z.H,V]
 rcases bc (r.aH !=1)with A|A
 ·try simp only[B,RX,↓KW,seval,A,M]
  rcases bc c.fin with D|D
  ·try simp only[B,RX,↓KW,seval,D,M]
   rcases bc c.hold with E|E
   ·try simp only[RX,↓KW,seval,E]
    simp[lM,A,D,E]
   ·try simp only[RX,↓KW,seval,E,qp,V,M,b1,b2,b3,b4]
    refine af L ?_;try simp only[I,B,RX,↓KW,seval,Rn.cells,bw]
    simp[lM,A,D,E,R,hd]
  ·try simp only[RX,↓KW,seval,D]
   simp[lM,A,D]
 ·try simp only[RX,↓KW,seval,A]
  simp[lM,A]
theorem E6.ok{V R fY fC:Nat} (hc:bu P f=some (wZ V R fY fC)) (hR:Kg.Spec (Pure P) V) (hG:Am.Spec (Pure P) R) (hY:uX.Spec (Pure P) fY) (hC:uY.Spec (Pure P) fC):E6.Spec (Pure P) f:=by
 intro p r c
 have qp:aF p.cells 0 (some 13)=some (.agg p.cells):=rfl
 have qr:aF r.cells 0 (some 12)=some (.agg r.cells)/\r.cells[0]? =some (I r.aH):=⟨rfl,rfl⟩
 have qc:aF c.cells 0 (some 8)=some (.agg c.cells)/\c.cells[1]? =some (B c.fin)/\c.cells[5]? =some (B c.hold):=⟨rfl,rfl,rfl⟩
 have M:=yH p r c
 have b1:∀ps,wG 0 13 (some (.agg p.cells)) (some ps)=some ((0,p.cells)::ps):=λ_=>rfl
 have b2:∀ps,wG 13 12 (some (.agg r.cells)) (some ps)=some ((13,r.cells)::ps):=λ_=>rfl
 have b3:∀ps,wG 25 8 (some (.agg c.cells)) (some ps)=some ((25,c.cells)::ps):=λ_=>rfl
 have b4:nG lK [(0,p.cells),(13,r.cells),(25,c.cells)]=fQ p r c:=rfl
 have b5:setCells lK 0 (fQ p r c)=fQ p r c:=rfl
 have b6:lK.length=33:=rfl
 have L:∀x:Rn,setCells bw 0 x.cells=x.cells/\x.cells.length=12/\aF x.cells 0 (some 12)=some (.agg x.cells):=λ_=>⟨rfl,rfl,rfl⟩
 have O:bw.length=12:=rfl
 refine aj hm hc [] rfl ?_;try simp only[I,RY,↓KW,seval,wZ,Z.H,qp,qr,qc,M,b1,b2,b3,b4,b5,b6]
 rcases bc (r.aH==1)with A|A
 ·try simp only[RY,↓KW,seval,A]
  rcases bc (r.aH==2)with D|D
  ·try simp only[RY,↓KW,seval,D]
   rcases bc (r.aH==3)with E|E
   ·try simp only[RY,↓KW,seval,E]
    refine⟨rfl,af (hR p r c) ?_⟩;try simp only[RY,seval,L,O]
    simp[dz,A,D,E]
   ·try simp only[RY,↓KW,seval,E,M]
    refine⟨rfl,rfl,af (hC p r c) ?_⟩;try simp only[RY,seval,L,O]
    simp[dz,A,D,E]
  ·try simp only[RY,↓KW,seval,D,M]
   refine⟨rfl,rfl,af (hY p r c) ?_⟩;try simp only[RY,seval,L,O]
   simp[dz,A,D]
 ·try simp only[RY,↓KW,seval,A,M]
  refine⟨rfl,rfl,af (hG p r c) ?_⟩;try simp only[RY,seval,L,O]
  simp[dz,A]
end
def OS(t:Tb) (r:ff) (l:List Rn) (want:Int):ff:=
 if(List.range 8).all (λp=>de (aE l p))then⟨if Rx t r.group want>=0 then Rx t r.group want else r.group,-1,-1,false⟩else r
def An.Spec(C:aY) (f:Nat):Prop:=∀(t:Tb) (r:ff) (l:List Rn) (want:Int),t.Ok->l.length=8->C.c f [.agg t.cells,.agg r.cells,.agg (aQ l),I want] (.agg (OS t r l want).cells) none
section
variable{P:Program} (hm:P.follows .mixedOrders=true) {f:Nat}
include hm
theorem An.ok{fR fF:Nat} (hc:bu P f=some (tc fR fF)) (hR:E3.Spec (Pure P) fR) (hF:CS.Spec (Pure P) fF):An.Spec (Pure P) f:=by
 intro t r l want V hl
 have hw:=bQ hl
 have ag:=c8 hl
 have ac:=Tb.len V
 have hp:=Tb.whole V
 have hr:r.cells.length=4/\aF r.cells 0 (some 4)=some (.agg r.cells)/\r.cells[0]? =some (I r.group):=⟨rfl,rfl,rfl⟩
 have ad:∀n:Int,setCells r.cells 0 [I n]=(⟨n,r.a0,r.a1,r.iD⟩:ff).cells:=λ_=>rfl
 have aa:∀n:Int,(⟨n,r.a0,r.a1,r.iD⟩:ff).cells[0]? =some (I n):=λ_=>rfl
 have ql:bw.length=12:=rfl
 have al:∀x:ff,x.cells.length=4/\aF x.cells 0 (some 4)=some (.agg x.cells):=λ_=>⟨rfl,rfl⟩
 have ae:∀x:ff,setCells [.int .i64 0,.int .i64 0,.int .i64 0,.bool false] 0 x.cells=x.cells:=λ_=>rfl
 have E:=cB hw (cB ag (cB ac (cB hp (cB hr (cB ad (cB aa (cB ql (cB ae (al)))))))))
 refine aj hm hc [] rfl ?_;try simp only[I,B,D,RY,↓KW,seval,tc,Z.H,E]
 refine aD (λk:Nat=>(⟨[(13,.dat (I k) none),(12,.dat (.agg (aQ l)) none),(5,.ptr 5 0),(8,.ptr 7 0),(4,.ptr 4 0),(3,.dat (I want) none)],[(4,⟨t.cells,[]⟩),(5,⟨r.cells,[]⟩),(7,⟨[.int .i64 0,.int .i64 0,.int .i64 0,.bool false],[]⟩)],[],400⟩:S)) (λk=>8-k) (λk=>k<=8/\∀q,q<k->de (aE l q)=true) ?_ 0 ⟨ST,ST⟩ ?_
 ·rintro k ⟨hk,M⟩ A back
  have ak:=aA (k:=k) ST
  try simp only[I,B,D,RY,↓KW,seval]
  rcases bc (decide ((k:Int)<8))with h|h
  ·have:k=8:=by have:=dE h;omega
   subst this
   have R:(List.range 8).all (λp=>de (aE l p))=true:=lj.2 λq hq=>M q (fp.1 hq)
   try simp only[I,B,D,RY,↓KW,seval,h,E]
   refine af (hF t r.group want V) ?_;try simp only[I,B,D,RY,↓KW,seval,E]
   have O:∀n:Int,nG [.int .i64 0,.int .i64 0,.int .i64 0,.bool false] [(0,[I n]),(1,[I (-1),I (-1)])]=(⟨n,-1,-1,false⟩:ff).cells:=λ_=>rfl
   rcases bc (decide (0<=Rx t r.group want))with L|L
   ·have h3:=dE L
    try simp only[I,B,D,RY,↓KW,seval,L,E,O]
    simp[OS,R,h3]
   ·have h3:=dC L
    try simp only[I,B,D,RY,↓KW,seval,L,E,O]
    simp[OS,R,h3]
  ·have h8:k<8:=by have:=dC h;omega
   have ab:aF (aQ l) (k*12) (some 12)=some (.agg (aE l k).cells):=gl hl h8
   have hy:0<=(k:Int)/\(k:Int)<8:=ST
   have qz:setCells bw 0 (aE l k).cells=(aE l k).cells:=rfl
   have qw:aF (aE l k).cells 0 (some 12)=some (.agg (aE l k).cells):=rfl
   try simp only[I,B,D,RY,↓KW,seval,h,hy,ab,qz,qw,Rn.len,E]
   refine af (hR (aE l k)) ?_;try simp only[I,B,D,RY,↓KW,seval,E]
   rcases bc (de (aE l k))with L|L
   ·have R:(List.range 8).all (λp=>de (aE l p))=false:=List.all_eq_false.2 ⟨k,fp.2 h8,by simp[L]⟩
    try simp only[I,B,D,RY,↓KW,seval,L,E,fx]
    simp[OS,R]
   ·try simp only[I,B,D,RY,↓KW,seval,L,E,gs]
    refine back (k+1) _ ⟨ST,λq hq=>?_⟩ ST ?_
    ·by_cases e:q=k
     ·rw[e];exact L
     ·exact M q ST
    ·refine ai Ts ?_ ?_ ?_ ?_<;>simp[LX,I,B,D,ak]
 ·refine ai Ts ?_ ?_ ?_ ?_<;>simp[LX,I,B,D]
end
def Ao(l:List Rn) (A next:Int) (mv:Bool):Bool:=decide (next<0)&&(!mv||(dX (aE l A.toNat)&&(aE l A.toNat).done))
def E9.Spec(C:aY) (f:Nat):Prop:=∀(l:List Rn) (A next:Int) (mv:Bool),l.length=8->(mv=true->0<=A/\A<8)->C.c f [.agg [I A,I next,B mv],.agg (aQ l)] (B (Ao l A next mv)) none
section
variable{P:Program} (hm:P.follows .mixedOrders=true) {f:Nat}
include hm
theorem E9.ok(hc:bu P f=some m9):E9.Spec (Pure P) f:=by
 intro l V next mv hl ac
 have L:=bQ hl
 have A:=c8 hl
 refine aj hm hc [] rfl ?_;try simp only[I,B,D,RY,↓KW,seval,m9,Z.H,L,A]
 rcases bc (decide (next<0))with O|O
 ·try simp only[I,B,D,RY,↓KW,seval,O,L,A]
  simp only[Ao,O,mn]
 ·try simp only[I,B,D,RY,↓KW,seval,O,L,A]
  rcases bc mv with M|M
  ·try simp only[I,B,D,RY,↓KW,seval,M,L,A,fx]
   simp only[Ao,O,M,fx,ti,Fd]
  ·obtain⟨ha,hb⟩:=ac M
   obtain⟨k,rfl⟩:∃k:Nat,V=k:=⟨V.toNat,ST⟩
   have h8:k<8:=ST
   have aa:aF (aQ l) (k*12) (some 12)=some (.agg (aE l k).cells):=gl hl h8
   have ab:(aQ l)[k*12]? =some (I (aE l k).aH):=by have:=jD aa (j:=0) ST;rw[pm]at this;rw[this];rfl
   have E:(aQ l)[k*12+7]? =some (B (aE l k).done):=by rw[jD aa ST];rfl
   have hy:0<=(k:Int)/\(k:Int)<8:=ST
   have hg:((aE l k).aH==1)=dX (aE l k):=rfl
   try simp only[I,B,D,RY,↓KW,seval,M,L,A,gs,hy,ab,E]
   rw[hg]
   have hn:(k:Int).toNat=k:=rfl
   rcases bc (dX (aE l k))with R|R
   ·try simp only[I,B,D,RY,↓KW,seval,R,L,A,gs]
    simp only[Ao,O,M,hn,R,gs,nz,mn,nd]
   ·try simp only[I,B,D,RY,↓KW,seval,R,L,A,hy,E,gs]
    simp only[Ao,O,M,hn,R,gs,nz,kt]
end
section
variable (t:Tb) (r:ff) (l:List Rn) (want k:Int) (n:Nat) (x:ff×Int×Int)
def A9:Bool:=decide (kK t r k>=0)&& !de (aE l (kK t r k).toNat)
def sw:Int:=SY t r.group k (r.at k) want
def ff.put(x:Int):ff:=if k=0 then{r with a0:=x}else{r with a1:=x}
def Ap:Bool:=
 (aE l (kK t r k).toNat).aH==1&&(((aE l (kK t r k).toNat).done&&decide (sw t r want k>=0))||(BD (aO t (kK t r k)) (aE l (kK t r k).toNat)&& !bD want (kK t r k)))
def mA:ff×Int×Int:=
 if A9 t r l k then(if Ap t r l want k then(x.1,x.2.1,bJ x.2.2 (kK t r k))else x)
 else if sw t r want k>=0 then(if gm t l (nh t r.group k (sw t r want k)).toNat then(x.1.put k (sw t r want k),bJ x.2.1 (nh t r.group k (sw t r want k)),x.2.2)else x)else x
def f7:ff×Int×Int:=mA t r l want 1 (mA t r l want 0 (r,0,0))
def yI(t:Tb) (r:ff) (l:List Rn) (want:Int):Nat->ff×Int×Int
 |0=>(r,0,0)
 |k+1=>mA t r l want k (yI t r l want k)
def ef:Int:=A8 λp=>dX (aE l p)
def mB:Bool:=Ao l (kK t r k) (sw t r want k) (A9 t r l k)
def LS:Bool:=
 rP .i64 x.2.1 x.2.2==0&&(mB t r l want 0&&(mB t r l want 1&&decide (uT (aJ .i64 want (ef l))>=0)))
def CV:ff×Int×Int:=
 if r.iD then(OS t r l want,0,0)
 else if LS t r l want (f7 t r l want)then({(f7 t r l want).1 with iD:=true},(f7 t r l want).2.1,ef l)else f7 t r l want
theorem Nm{s p:Int} (h:bD s p=true):0<=p/\p<8:=by
 by_cases B:p<0\/8<=p
 ·have D:jt p=0:=by simp only[jt];rw[et B]
  have A:bK .i64 s 0=0:=by
   have e:BitVec.ofInt IntKind.i64.bits 0=0#_:=rfl
   simp only[bK,e,BitVec.and_zero,BitVec.toNat_zero];decide
  rw[bD,D,A]at h;cases h
 ·omega
theorem Ii{t:Tb} {r:ff} {k:Int}:kK t r k<8:=by
 unfold kK;split
 ·omega
 ·unfold nh;split
  ·omega
  ·split
   ·omega
   ·split<;>omega
theorem GP{t:Tb} {r:ff} {k want:Int} (h:sw t r want k>=0) (hk:0<=k/\k<2):0<=nh t r.group k (sw t r want k)/\nh t r.group k (sw t r want k)<8:=by
 have e:sw t r want k=match(List.range ((eM t r.group k).getD []).length).find? (SX t r.group k (r.at k) want)with
  |some i=>(i:Int)
  |none=>-1:=rfl
 cases A:(List.range ((eM t r.group k).getD []).length).find? (SX t r.group k (r.at k) want)with
 |none=>rw[A]at e;simp only at e;omega
 |some i=>
  rw[A]at e;simp only at e
  have D:=fp.1 (vd A)
  have B:=List.find?_some A
  simp only[SX,ed]at B
  have L:=B.2
  have E:=Nm L
  have M:¬(r.group<0\/((t.groups.getD []).length:Int)<=r.group\/k<0\/1<k):=λO=>by
   rw[eM,et O]at D;simp at D
  rw[e];unfold nh
  rw[ek M,ek ST]
  simp only[ix];rw[et E];exact E
theorem LU{t:Tb} {r:ff} {l:List Rn} {k:Int} (h:A9 t r l k=true):0<=kK t r k/\kK t r k<8:=by
 simp only[A9,ed]at h;exact⟨dC h.1,Ii⟩
theorem ff.Fa(x:ff) {k:Nat} (hk:k<2) (n:Int):setCells x.cells (1+k) [I n]=(x.put k n).cells:=by
 have:k=0\/k=1:=ST
 rcases this with rfl|rfl<;>rfl
def mC:List AV:=
 (if 0<n then[I (kK t r 0),I (sw t r want 0),B (A9 t r l 0)]else[I 0,I 0,B false])++(if 1<n then[I (kK t r 1),I (sw t r want 1),B (A9 t r l 1)]else[I 0,I 0,B false])
theorem OT:(mC t r l want n).length=6:=by
 unfold mC;split<;>split<;>rfl
theorem OU{k:Nat} (hk:k<2):setCells (mC t r l want k) (k*3) [I (kK t r k),I (sw t r want k),B (A9 t r l k)]=mC t r l want (k+1):=by
 have:k=0\/k=1:=ST
 rcases this with rfl|rfl<;>rfl
theorem Rz{k:Nat} (hk:k<2):aF (mC t r l want 2) (k*3) (some 3)=some (.agg [I (kK t r k),I (sw t r want k),B (A9 t r l k)]):=by
 have:k=0\/k=1:=ST
 rcases this with rfl|rfl<;>rfl
def uZ.Spec(C:aY) (f:Nat):Prop:=∀(t:Tb) (r:ff) (l:List Rn) (want:Int),t.Ok->l.length=8->C.c f [.agg t.cells,.agg r.cells,.agg (aQ l),I want] (.dF [.agg (CV t r l want).1.cells,I (CV t r l want).2.1,I (CV t r l want).2.2]) none
end
section
variable{P:Program} (hm:P.follows .mixedOrders=true) {f:Nat}
include hm
theorem uZ.ok{fC fN fX fR fE fH fW fA fM fG fS fF:Nat} (hc:bu P f=some (z6 fC fN fX fR fE fH fW fA fM fG fS fF)) (hC:An.Spec (Pure P) fC) (hN:CT.Spec (Pure P) fN) (hX:uU.Spec (Pure P) fX) (hR:E3.Spec (Pure P) fR)
  (hE:Ah.Spec (Pure P) fE) (hH:lE.Spec (Pure P) fH) (hW:iq.Spec (Pure P) fW) (hA:OR.Spec (Pure P) fA) (hM:Ai.Spec (Pure P) fM) (hG:qU.Spec (Pure P) fG) (hS:E9.Spec (Pure P) fS) (hF:wk.Spec (Pure P) fF):uZ.Spec (Pure P) f:=by
 intro t r l want ht V
 have hw:=bQ V
 have a9:=c8 V
 have a4:=Tb.len ht
 have hp:=Tb.whole ht
 have hr:r.cells.length=4/\aF r.cells 0 (some 4)=some (.agg r.cells)/\r.cells[0]? =some (I r.group)/\r.cells[3]? =some (B r.iD):=⟨rfl,rfl,rfl,rfl⟩
 have a7:∀x:ff,setCells [.int .i64 0,.int .i64 0,.int .i64 0,.bool false] 0 x.cells=x.cells:=λ_=>rfl
 have ba:∀x y:ff,setCells x.cells 0 y.cells=y.cells:=λ_ _=>rfl
 have a6:∀x:ff,x.cells.length=4/\aF x.cells 0 (some 4)=some (.agg x.cells):=λ_=>⟨rfl,rfl⟩
 have bd:∀a b c d e g:AV,setCells [a,b,c] 0 [d,e,g]=[d,e,g]:=λ_ _ _ _ _ _=>rfl
 have a8:∀a b c d:AV,setCells [a,b,c] 2 [d]=[a,b,d]:=λ_ _ _ _=>rfl
 have L:=cB hw (cB a9 (cB a4 (cB hp (cB hr (cB a7 (cB a6 (cB bd (cB a8 (ba)))))))))
 refine aj hm hc [] rfl ?_;try simp only[I,B,RY,↓KW,seval,z6,Z.H,L]
 rcases bc r.iD with R|R
 rotate_left
 ·try simp only[RY,↓KW,seval,R,L]
  refine af (hC t r l want ht V) ?_;try simp only[RY,↓KW,seval,L]
  simp[CV,R]
 try simp only[RY,↓KW,seval,R]
 refine aD (λk:Nat=>(⟨[(26,.dat (I k) none),(3,.dat (I want) none),(4,.ptr 4 0),(5,.ptr 5 0),(6,.ptr 6 0),(8,.ptr 7 0),(11,.ptr 12 0),(9,.dat (I 0) none),(10,.dat (I 0) none)],[(4,⟨t.cells,[]⟩),(5,⟨r.cells,[]⟩),(6,⟨aQ l,[]⟩),(7,⟨[.int .i64 0,.int .i64 0,.int .i64 0,.bool false],[]⟩),(12,⟨mC t r l want k,[]⟩)],[],400⟩:S)) (λk=>2-k) (λk=>k<=2) ?_ 0 ST ?_
 rotate_left
 ·refine ai Ts ?_ ?_ ?_ ?_<;>simp[LX,I,B,mC]
 intro k hk A back
 have M:=aA (k:=k) ST
 try simp only[I,RY,↓KW,seval]
 rcases bc (decide ((k:Int)<2))with h|h
 rotate_left
 ·have h2:k<2:=by have:=dC h;omega
  have hy:0<=(k:Int)/\(k:Int)<2:=ST
  have be:r.cells[1+k]? =some (I (r.at k)):=by
   have:k=0\/k=1:=ST
   rcases this with rfl|rfl<;>rfl
  have ol:=OT t r l want k
  have os:=OU t r l want h2
  try simp only[RY,↓KW,seval,hy,L]
  refine af (hN t r k ht) ?_;try simp only[I,RY,↓KW,seval,be,hy,L]
  refine af (hX t r.group k (r.at k) want ht) ?_;try simp only[I,RY,↓KW,seval,L]
  rcases bc (decide (kK t r k>=0))with h3|h3
  ·have hb:A9 t r l k=false:=by rw[A9,h3];rfl
   rw[hb]at os
   have ac:setCells (mC t r l want k) (k*3) [I (kK t r k),I (SY t r.group k (r.at k) want),B false]=mC t r l want (k+1):=os
   try simp only[RY,↓KW,seval,h3,hy,ol,ac,L]
   refine⟨ST,back (k+1) _ ST ST ?_⟩
   refine ai Ts ?_ ?_ ?_ ?_<;>simp[LX,I,M]
  ·have ar:=dC h3
   have a2:=Ii (t:=t) (r:=r) (k:=k)
   obtain⟨q,hq⟩:∃q:Nat,kK t r k=q:=⟨(kK t r k).toNat,ST⟩
   have aa:0<=(q:Int)/\(q:Int)<8:=ST
   have ae:aF (aQ l) (q*12) (some 12)=some (.agg (aE l q).cells):=gl V ST
   have hb:A9 t r l k=!de (aE l q):=by rw[A9,h3,hq];rfl
   rw[hb]at os
   have ac:setCells (mC t r l want k) (k*3) [I (kK t r k),I (SY t r.group k (r.at k) want),B (!de (aE l q))]=mC t r l want (k+1):=os
   rw[hq]at*;try simp only[RY,↓KW,seval,aa,ae]
   refine af (hR (aE l q)) ?_;try simp only[B,RY,↓KW,seval,hy,ol,ac,L]
   refine⟨ST,back (k+1) _ ST ST ?_⟩
   refine ai Ts ?_ ?_ ?_ ?_<;>simp[LX,I,M]
 have ad:k=2:=by have:=dE h;omega
 subst ad
 have ow:aF (mC t r l want 2) 0 (some 6)=some (.agg (mC t r l want 2)):=rfl
 try simp only[RY,↓KW,seval,ow,L]
 clear back
 refine aD (λk:Nat=>(⟨[(62,.dat (I k) none),(61,.dat (.agg (mC t r l want 2)) none),(3,.dat (I want) none),(4,.ptr 4 0),(5,.ptr 5 0),(6,.ptr 6 0),(8,.ptr 7 0),(11,.ptr 12 0),(9,.dat (I (yI t r l want k).2.1) none),(10,.dat (I (yI t r l want k).2.2) none)],[(4,⟨t.cells,[]⟩),(5,⟨r.cells,[]⟩),(6,⟨aQ l,[]⟩),(7,⟨(yI t r l want k).1.cells,[]⟩),(12,⟨mC t r l want 2,[]⟩)],[],400⟩:S)) (λk=>2-k) (λk=>k<=2) ?_ 0 ST ?_
 rotate_left
 ·refine ai Ts ?_ ?_ ?_ ?_<;>simp[LX,I,yI]
 intro k hk A2 back
 have M:=aA (k:=k) ST
 obtain⟨x,hx⟩:∃x,yI t r l want k=x:=⟨_,rfl⟩
 have hn:yI t r l want (k+1)=mA t r l want k x:=by rw[yI,hx]
 rw[hx];try simp only[I,RY,↓KW,seval]
 rcases bc (decide ((k:Int)<2))with h|h
 rotate_left
 ·have h2:k<2:=by have:=dC h;omega
  have hy:0<=(k:Int)/\(k:Int)<2:=ST
  have ag:=Rz t r l want h2
  obtain⟨b,hb⟩:∃b,A9 t r l k=b:=⟨_,rfl⟩
  obtain⟨n,O⟩:∃n,sw t r want k=n:=⟨_,rfl⟩
  obtain⟨w,ab⟩:∃w,kK t r k=w:=⟨_,rfl⟩
  have E:mA t r l want k x=if b then(if Ap t r l want k then(x.1,x.2.1,bJ x.2.2 w)else x)
   else if n>=0 then(if gm t l (nh t r.group k n).toNat then(x.1.put k n,bJ x.2.1 (nh t r.group k n),x.2.2)else x)else x:=by rw[mA,hb,O,ab]
  rw[hb,O,ab]at ag
  rcases b with _|_
  ·rw[ek Ts]at E
   try simp only[I,B,RY,↓KW,seval,hy,ag,L]
   rcases bc (decide (n>=0))with h4|h4
   ·rw[ek (dE h4)]at E
    try simp only[RY,↓KW,seval,h4]
    refine back (k+1) _ ST ST ?_
    refine ai Ts ?_ ?_ ?_ ?_<;>simp[LX,I,M,hn,E]
   ·have an:=dC h4
    rw[et an]at E
    have hq:=GP (t:=t) (r:=r) (k:=k) (want:=want) (by rw[O];exact an) ST
    rw[O]at hq
    obtain⟨q,ak⟩:∃q:Nat,nh t r.group k n=q:=⟨(nh t r.group k n).toNat,ST⟩
    rw[ak]at E hq
    have al:=hA t r.group k n ht
    rw[ak]at al;try simp only[I,RY,↓KW,seval,h4,L]
    refine af al ?_;try simp only[I,RY,↓KW,seval,L]
    refine af (hM t l q ht V ST) ?_
    try simp only[B,RY,↓KW,seval]
    have bm:(q:Int).toNat=q:=rfl
    rw[bm]at E
    rcases bc (gm t l q)with h5|h5
    ·rw[ek (by rw[h5];decide)]at E
     try simp only[RY,↓KW,seval,h5]
     refine back (k+1) _ ST ST ?_
     refine ai Ts ?_ ?_ ?_ ?_<;>simp[LX,I,M,hn,E]
    ·rw[et h5]at E
     have bi:=x.1.Fa h2 n
     try simp only[RY,↓KW,seval,h5]
     refine af (hW _ _) ?_;try simp only[I,RY,↓KW,seval,hy,bi,L]
     refine⟨ST,back (k+1) _ ST ST ?_⟩
     refine ai Ts ?_ ?_ ?_ ?_<;>simp[LX,I,M,hn,E]
  ·rw[et rfl]at E
   have ao:=hb
   simp only[A9,ed]at ao
   have ar:=dC ao.1
   have a2:=Ii (t:=t) (r:=r) (k:=k)
   rw[ab]at ar a2
   obtain⟨q,hq⟩:∃q:Nat,w=q:=⟨w.toNat,ST⟩
   subst hq
   have aa:0<=(q:Int)/\(q:Int)<8:=ST
   have ae:aF (aQ l) (q*12) (some 12)=some (.agg (aE l q).cells):=gl V ST
   have qz:setCells bw 0 (aE l q).cells=(aE l q).cells:=rfl
   have ql:bw.length=12:=rfl
   have qr:(aE l q).cells[0]? =some (I (aE l q).aH)/\(aE l q).cells[7]? =some (B (aE l q).done)/\aF (aE l q).cells 0 (some 12)=some (.agg (aE l q).cells):=⟨rfl,rfl,rfl⟩
   have a5:=Tb.ij (ht.ln.jL (k:=q) ST)
   have he:Ap t r l want k=((aE l q).aH==1&&(((aE l q).done&&decide (n>=0))||(BD (aO t q) (aE l q)&& !bD want q))):=by rw[Ap,ab,O];rfl
   try simp only[I,B,RY,↓KW,seval,hy,ag,aa,ae,qz,ql,qr,Rn.len,L]
   rw[he]at E
   repeat' (first|((first|refine af (hE (aO t q) (aE l q)) ?_|refine af (hH want q) ?_|refine af (hW _ _) ?_);try simp only[I,B,RY,↓KW,seval])|(((first|refine bn ?_ ?_|refine aB ?_ ?_|refine bM ?_ ?_)<;>intro h)<;>try simp only[B,RY,↓KW,seval,aa,a5,qr,h]))
   all_goals
    refine back (k+1) _ ST ST ?_
    refine ai Ts ?_ ?_ ?_ ?_<;>simp[LX,I, *]
 have ad:k=2:=by have:=dE h;omega
 subst ad;try simp only[RY,↓KW,seval,L]
 refine af (hG l V) ?_;try simp only[I,RY,↓KW,seval]
 have a3:f7 t r l want=x:=hx
 have o0:aF (mC t r l want 2) 0 (some 3)=some (.agg [I (kK t r 0),I (sw t r want 0),B (A9 t r l 0)]):=rfl
 have o1:aF (mC t r l want 2) 3 (some 3)=some (.agg [I (kK t r 1),I (sw t r want 1),B (A9 t r l 1)]):=rfl
 have bj:setCells x.1.cells 3 [B true]=({x.1 with iD:=true}:ff).cells:=rfl
 have hg:(A8 λp=>dX (aE l p))=ef l:=rfl
 have bs:LS t r l want x=(rP .i64 x.2.1 x.2.2==0&&(mB t r l want 0&&(mB t r l want 1&&decide (uT (aJ .i64 want (ef l))>=0)))):=rfl
 have bo:CV t r l want=if LS t r l want x then({x.1 with iD:=true},x.2.1,ef l)else x:=by rw[CV,ek (by rw[R];decide),a3]
 have am:=hS l (kK t r 0) (sw t r want 0) (A9 t r l 0) V (LU (t:=t) (r:=r) (l:=l))
 have au:=hS l (kK t r 1) (sw t r want 1) (A9 t r l 1) V (LU (t:=t) (r:=r) (l:=l))
 rw[show Ao l (kK t r 0) (sw t r want 0) (A9 t r l 0)=mB t r l want 0 from rfl]at am
 rw[show Ao l (kK t r 1) (sw t r want 1) (A9 t r l 1)=mB t r l want 1 from rfl]at au
 rw[hg];try simp only[I,B,D,RY,↓KW,seval,o0,o1,L]
 repeat' (first|((first|refine af (am) ?_|refine af (au) ?_|refine af (hF _) ?_);try simp only[I,B,RY,↓KW,seval])|(((first|refine bn ?_ ?_|refine aB ?_ ?_|refine bM ?_ ?_)<;>intro h)<;>try simp only[I,B,RY,↓KW,seval,o0,o1,bj,L,h]))
 all_goals simp[*]
end
section
variable (t:Tb) (r:ff) (C:aY) (l:List Rn) (f:Nat) (s want:Int)
theorem Fb{p:Nat} (A:p<8):bJ (bJ s p) p=bJ s p:=
 iM (jz A) (jz A) λi B=>by
  rw[jE A,jE A]
  cases tb s i<;>simp[B]
theorem Kh{α:Type} {l:List α} {f:α->Bool} {i:Nat} {x:α} (h:l[i]? =some x):(l.take (i+1)).any f=((l.take i).any f||f x):=by
 rw[List.take_add_one,h];simp
def Fc:Int:=aJ .i64 want (ef l)
def II(l:List Rn) (want:Int) (p q:Nat):Bool:=!(az t p).2|| !Z7 t r (az t p).1.ring q
def Wy(n:Int) (p:Nat):Int:=if(d6 (Fc l want)).any (II t r l want p)then bJ n p else n
def Ki:Int:=(d6 (bK .i64 (ef l) (oS t))).foldl (Wy t r l want) 0
def CW.Spec:Prop:=∀(t:Tb) (r:ff) (l:List Rn) (want:Int),t.Ok->l.length=8->C.c f [.agg t.cells,.agg r.cells,.agg (aQ l),I want] (I (Ki t r l want)) none
def LV(p:Nat):ff:=if(az t p).2&&((az t p).1.group==r.group&&decide (r.at (az t p).1.ring<0))then r.put (az t p).1.ring (az t p).1.pos else r
def Ij:ff:=(d6 s).foldl (LV t) ⟨(az t (uT s)).1.group,-1,-1,false⟩
def CX.Spec:Prop:=∀(t:Tb) (s:Int),t.Ok->C.c f [.agg t.cells,I s] (.agg (Ij t s).cells) none
def OV(k:Int):Int:=if k<0\/((t.aV.getD []).length:Int)<=k then 0 else(LK t k.toNat).exit
def Fe.Spec:Prop:=∀(t:Tb) (k:Int),t.Ok->C.c f [.agg t.cells,I k] (I (OV t k)) none
def sA.Spec:Prop:=∀s:bt,s.Ok->C.c f [.agg s.cells] (I (A8 λp=>dX (s.rn p))) none
def Aq.Spec:Prop:=∀s:bt,s.Ok->C.c f [.agg s.cells] (I (A8 λp=>nw (s.rn p))) none
end
section
variable{P:Program} (hm:P.follows .mixedOrders=true) {f:Nat}
include hm
theorem Fe.ok(hc:bu P f=some uQ):Fe.Spec (Pure P) f:=by
 intro t k L
 have R:=Tb.len L
 have hr:t.cells[114]? =some (aI Rl.cells t.aV):=L.ln.Cv
 have D:=cB R (hr)
 refine aj hm hc [] rfl ?_;try simp only[I,RX,↓KW,seval,uQ,Z.H]
 rcases bc (decide (k<0))with B|B
 rotate_left
 ·try simp only[RX,↓KW,seval,B]
  rw[OV,et (.inl (dC B))]
 try simp only[RX,↓KW,seval,B,D]
 rcases bc (decide (k>=((t.aV.getD []).length:Int)))with A|A
 rotate_left
 ·try simp only[RX,↓KW,seval,A]
  rw[OV,et (.inr (dC A))]
 have a1:=dE B
 have a2:=dE A
 obtain⟨x,M⟩:∃x,(t.aV.getD [])[k.toNat]? =some x:=⟨_,dT ST⟩
 have E:LK t k.toNat=x:=by rw[LK,eh,M];rfl
 have V:0<=k/\k<((t.aV.getD []).length:Int):=ST
 have O:x.cells.length=11/\x.cells.drop 3=I x.exit::x.cells.drop 4:=⟨rfl,rfl⟩
 try simp only[I,RX,↓KW,seval,A,M,V,O,D]
 rw[OV,ek ST,E]
theorem sA.ok{L:Nat} (hc:bu P f=some (sW L)) (hW:iq.Spec (Pure P) L):sA.Spec (Pure P) f:=by
 intro s V;refine aj hm hc [] rfl ?_;try simp only[I,RY,↓KW,seval,sW,Z.H]
 refine aD (λk:Nat=>(⟨[(5,.dat (I k) none),(1,.ptr 4 0),(3,.dat (I (iH (λp=>dX (s.rn p)) k)) none)],[(4,⟨s.cells,[]⟩)],[],400⟩:S)) (λk=>8-k) (λk=>k<=8) ?_ 0 ST ?_
 ·intro k hk A back
  have D:=aA (k:=k) ST
  try simp only[I,RY,↓KW,seval]
  rcases bc (decide ((k:Int)<8))with h|h
  ·have:k=8:=by have:=dE h;omega
   subst this;try simp only[RY,↓KW,seval]
   rfl
  ·have O:k<8:=by have:=dC h;omega
   have E:s.cells[k*12]? =some (I (s.rn k).aH):=bt.Rh V O (j:=0) ST
   have M:iH (λp=>dX (s.rn p)) (k+1)=if dX (s.rn k)then bJ (iH (λp=>dX (s.rn p)) k) k else iH (λp=>dX (s.rn p)) k:=rfl
   have R:0<=(k:Int)/\(k:Int)<8:=ST
   have hg:((s.rn k).aH==1)=dX (s.rn k):=rfl
   try simp only[I,RY,↓KW,seval,R,E]
   rw[hg]
   rcases bc (dX (s.rn k))with B|B
   ·try simp only[RY,↓KW,seval,B]
    refine back (k+1) _ ST ST (ai Ts ?_ ?_ ?_ ?_)<;>simp[LX,I,D,M,B]
   ·try simp only[RY,↓KW,seval,B]
    refine af (hW _ _) ?_;try simp only[I,RY,↓KW,seval]
    refine back (k+1) _ ST ST (ai Ts ?_ ?_ ?_ ?_)<;>simp[LX,I,D,M,B]
 ·refine ai Ts ?_ ?_ ?_ ?_<;>simp[LX,I,iH]
theorem Aq.ok{L:Nat} (hc:bu P f=some (sX L)) (hW:iq.Spec (Pure P) L):Aq.Spec (Pure P) f:=by
 intro s V;refine aj hm hc [] rfl ?_;try simp only[I,RY,↓KW,seval,sX,Z.H]
 refine aD (λk:Nat=>(⟨[(5,.dat (I k) none),(1,.ptr 4 0),(3,.dat (I (iH (λp=>nw (s.rn p)) k)) none)],[(4,⟨s.cells,[]⟩)],[],400⟩:S)) (λk=>8-k) (λk=>k<=8) ?_ 0 ST ?_
 ·intro k hk A back
  have D:=aA (k:=k) ST
  try simp only[I,RY,↓KW,seval]
  rcases bc (decide ((k:Int)<8))with h|h
  ·have:k=8:=by have:=dE h;omega
   subst this;try simp only[RY,↓KW,seval]
   rfl
  ·have O:k<8:=by have:=dC h;omega
   have E:s.cells[k*12+2]? =some (I (s.rn k).fst):=bt.Rh V O (j:=2) ST
   have M:iH (λp=>nw (s.rn p)) (k+1)=if nw (s.rn k)then bJ (iH (λp=>nw (s.rn p)) k) k else iH (λp=>nw (s.rn p)) k:=rfl
   have R:0<=(k:Int)/\(k:Int)<8:=ST
   have hg:((s.rn k).fst==1)=nw (s.rn k):=rfl
   try simp only[I,RY,↓KW,seval,R,E]
   rw[hg]
   rcases bc (nw (s.rn k))with B|B
   ·try simp only[RY,↓KW,seval,B]
    refine back (k+1) _ ST ST (ai Ts ?_ ?_ ?_ ?_)<;>simp[LX,I,D,M,B]
   ·try simp only[RY,↓KW,seval,B]
    refine af (hW _ _) ?_;try simp only[I,RY,↓KW,seval]
    refine back (k+1) _ ST ST (ai Ts ?_ ?_ ?_ ?_)<;>simp[LX,I,D,M,B]
 ·refine ai Ts ?_ ?_ ?_ ?_<;>simp[LX,I,iH]
theorem CW.ok{fG fO fE fW fA fS:Nat} (hc:bu P f=some (sY fG fO fE fW fA fS)) (hG:qU.Spec (Pure P) fG) (hO:pOn.Spec (Pure P) fO) (hE:yy.Spec (Pure P) fE) (hW:yD.Spec (Pure P) fW) (hA:Ag.Spec (Pure P) fA) (hS:iq.Spec (Pure P) fS):CW.Spec (Pure P) f:=by
 intro t r l want R hl
 have hw:=bQ hl
 have ak:=c8 hl
 have ad:=Tb.len R
 have hp:=Tb.whole R
 have hr:r.cells.length=4/\aF r.cells 0 (some 4)=some (.agg r.cells):=⟨rfl,rfl⟩
 have E:=cB hw (cB ak (cB ad (cB hp (hr))))
 refine aj hm hc [] rfl ?_;try simp only[I,RX,↓KW,seval,sY,Z.H,E]
 refine af (hG l hl) ?_
 have hg:(A8 λp=>dX (aE l p))=ef l:=rfl
 rw[hg];try simp only[I,RX,↓KW,seval,E]
 refine af (hO t R.ln) ?_;try simp only[I,RX,↓KW,seval]
 obtain⟨k,hk,hi⟩:=hE (bK .i64 (ef l) (oS t))
 refine af hk ?_;try simp only[I,RX,seval]
 refine jw (λs:Int=>(⟨[(23,.dat (.fn (.func k) [] [.ref [I (bK .i64 (ef l) (oS t))]]) none),(4,.ptr 4 0),(5,.ptr 5 0),(7,.ptr 7 0),(9,.ptr 11 0),(10,.ptr 12 0)],[(4,⟨t.cells,[]⟩),(5,⟨r.cells,[]⟩),(7,⟨[I want],[]⟩),(11,⟨[I (ef l)],[]⟩),(12,⟨[I s],[]⟩)],[],400⟩:S)) (λi s=>s=((d6 (bK .i64 (ef l) (oS t))).take i).foldl (Wy t r l want) 0) hi rfl (jv λ_=>rfl) (λ_=>rfl) ?_ ?_ 0 rfl ?_
 ·rintro i x s ac he A back
  obtain⟨p,D,rfl⟩:=pP ac
  have D:(d6 (bK .i64 (ef l) (oS t)))[i]? =some p:=D
  have h8:=jd (em D)
  have hn:=jU (f:=Wy t r l want) (b:=0) D
  rw[<-he]at hn
  have ae:Wy t r l want s p=if(d6 (Fc l want)).any (II t r l want p)then bJ s p else s:=rfl
  rw[ae]at hn;try simp only[I,RX,↓KW,seval,E]
  refine af (hW t p R) ?_;try simp only[I,B,RX,↓KW,seval]
  obtain⟨k2,V,aa⟩:=hE (aJ .i64 want (ef l))
  refine af V ?_;try simp only[I,RX,seval]
  have hP:∀q:Nat,II t r l want p q=(!(az t p).2|| !Z7 t r (az t p).1.ring q):=λ_=>rfl
  generalize(az t p).2=ok at*;generalize(az t p).1=w at*
  refine jw (λz:Int=>(⟨[(36,.dat (.fn (.func k2) [] [.ref [I (aJ .i64 want (ef l))]]) none),(23,.dat (.fn (.func k) [] [.ref [I (bK .i64 (ef l) (oS t))]]) none),(4,.ptr 4 0),(5,.ptr 5 0),(7,.ptr 7 0),(9,.ptr 11 0),(10,.ptr 12 0),(11,.ptr 400 0),(13,.ptr 410 0),(15,.ptr 411 0)],[(4,⟨t.cells,[]⟩),(5,⟨r.cells,[]⟩),(7,⟨[I want],[]⟩),(11,⟨[I (ef l)],[]⟩),(12,⟨[I z],[]⟩),(400,⟨[I p],[]⟩),(410,⟨[I w.ring],[]⟩),(411,⟨[B ok],[]⟩)],[],420⟩:S))
   (λj z=>z=if((d6 (Fc l want)).take j).any (II t r l want p)then bJ s p else s) aa rfl (jv λ_=>rfl) (λ_=>rfl) ?_ ?_ s TB ?_
  ·rintro j y z al hz A2 O
   obtain⟨q,M,rfl⟩:=pP al
   have M:(d6 (Fc l want))[j]? =some q:=M
   have L:=Kh (f:=II t r l want p) M
   have ab:(if((d6 (Fc l want)).take (j+1)).any (II t r l want p)then bJ s p else s)=if II t r l want p q then bJ z p else z:=by
    rw[L,hz]
    cases((d6 (Fc l want)).take j).any (II t r l want p)<;>cases II t r l want p q<;>simp[Fb s h8]
   have ag:=hA t r w.ring q R
   rw[hP q]at ab;clear L hz hi aa hk V;try simp only[I,B,RX,↓KW,seval]
   repeat' (first|((first|refine af (ag) ?_|refine af (hS _ _) ?_);try simp only[I,B,RX,↓KW,seval])|(((first|refine bn ?_ ?_|refine aB ?_ ?_|refine bM ?_ ?_)<;>intro h)<;>try simp only[RX,↓KW,seval,hr,E,h]))
   all_goals
    refine O _ _ ab.symm ?_
    refine ai Ts ?_ ?_ ?_ ?_<;>simp[LX,I,B, *]
  ·rintro z hz
   have L:z=((d6 (bK .i64 (ef l) (oS t))).take (i+1)).foldl (Wy t r l want) 0:=by
    rw[hz,hn,l4 (by simp[d6,Fc])]
   try simp only[I,B,RX,seval]
   refine back _ _ L ?_
   refine ai Ts ?_ ?_ ?_ ?_<;>simp[LX,I]
  ·refine ai Ts ?_ ?_ ?_ ?_<;>simp[LX,I,B]
 ·rintro s he
  rw[l4 (by simp[d6])]at he
  try simp only[I,RX,↓KW,seval]
  rw[he];rfl
 ·refine ai Ts ?_ ?_ ?_ ?_<;>simp[LX,I]
theorem CX.ok{fF fW fE:Nat} (hc:bu P f=some (CF fF fW fE)) (hF:wk.Spec (Pure P) fF) (hW:yD.Spec (Pure P) fW) (hE:yy.Spec (Pure P) fE):CX.Spec (Pure P) f:=by
 intro t e V
 have ab:=Tb.len V
 have hp:=Tb.whole V
 have ad:∀x:ff,setCells [.int .i64 0,.int .i64 0,.int .i64 0,.bool false] 0 x.cells=x.cells:=λ_=>rfl
 have ag:setCells [.int .i64 0,.int .i64 0,.int .i64 0,.bool false] 0 [I 0,I (-1),I (-1),B false]=(⟨0,-1,-1,false⟩:ff).cells:=rfl
 have ac:∀(x:ff) (n:Int),setCells x.cells 0 [I n]=({x with group:=n}:ff).cells:=λ_ _=>rfl
 have ae:∀x:ff,x.cells.length=4/\aF x.cells 0 (some 4)=some (.agg x.cells)/\x.cells[0]? =some (I x.group):=λ_=>⟨rfl,rfl,rfl⟩
 have D:=cB ab (cB hp (cB ae (cB ad (cB ag (ac)))))
 refine aj hm hc [] rfl ?_;try simp only[I,RY,↓KW,seval,CF,Z.H,D]
 refine af (hF e) ?_;try simp only[I,RY,↓KW,seval,D]
 refine af (hW t (uT e) V) ?_;try simp only[I,B,RY,↓KW,seval,D]
 obtain⟨k,hk,hi⟩:=hE e;refine af hk ?_;try simp only[I,RY,seval,D]
 refine jw (λx:ff=>(⟨[(24,.dat (.fn (.func k) [] [.ref [I e]]) none),(2,.ptr 4 0),(4,.ptr 5 0),(5,.ptr 8 0)],[(4,⟨t.cells,[]⟩),(5,⟨[.int .i64 0,.int .i64 0,.int .i64 0,.bool false],[]⟩),(8,⟨x.cells,[]⟩)],[],400⟩:S)) (λi x=>x=((d6 e).take i).foldl (LV t) ⟨(az t (uT e)).1.group,-1,-1,false⟩) hi rfl (jv λ_=>rfl) (λ_=>rfl) ?_ ?_ ⟨(az t (uT e)).1.group,-1,-1,false⟩ rfl ?_
 ·rintro i y x ak R A back
  obtain⟨p,L,rfl⟩:=pP ak
  have L:(d6 e)[i]? =some p:=L
  have O:=jU (f:=LV t) (b:=⟨(az t (uT e)).1.group,-1,-1,false⟩) L
  rw[<-R]at O
  have hP:LV t x p=if(az t p).2&&((az t p).1.group==x.group&&decide (x.at (az t p).1.ring<0))then x.put (az t p).1.ring (az t p).1.pos else x:=rfl
  rw[hP]at O
  have am:=i4 (t:=t) (q:=p)
  try simp only[I,RY,↓KW,seval,D]
  refine af (hW t p V) ?_;generalize(az t p).2=ok at*;generalize(az t p).1=w at*;try simp only[I,B,RY,↓KW,seval]
  rcases bc ok with M|M
  ·try simp only[RY,↓KW,seval,M]
   refine back x _ (by rw[O,M];rfl) ?_
   refine ai Ts ?_ ?_ ?_ ?_<;>simp[LX,I]
  have hy:=am M
  have E:x.cells[1+w.ring.toNat]? =some (I (x.at w.ring)):=by
   have:w.ring=0\/w.ring=1:=ST
   rcases this with e|e<;>rw[e]<;>rfl
  obtain⟨q,hq⟩:∃q:Nat,w.ring=q:=⟨w.ring.toNat,ST⟩
  have al:=x.Fa (k:=q) ST w.pos
  rw[hq]at E O
  have E:x.cells[1+q]? =some (I (x.at q)):=E
  have aa:0<=(q:Int)/\(q:Int)<2:=ST
  try simp only[I,RY,↓KW,seval,M,hq,D]
  clear R hP
  repeat' (((first|refine bn ?_ ?_|refine aB ?_ ?_|refine bM ?_ ?_)<;>intro h)<;>try simp only[I,RY,↓KW,seval,aa,E,al,D,h])
  all_goals
   try refine⟨ST,?_⟩
   refine back _ _ O.symm ?_
   refine ai Ts ?_ ?_ ?_ ?_<;>simp[LX,I, *]
 ·rintro x R
  rw[l4 (by simp[d6])]at R
  try simp only[I,RY,↓KW,seval,D]
  rw[R];rfl
 ·refine ai Ts ?_ ?_ ?_ ?_<;>simp[LX,I]
theorem Vj.ok{fB:Nat} (hc:bu P f=some (sV fB)) (hB:Ak.Spec (Pure P) fB):nu.Spec (Pure P) f:=by
 intro t ht
 have hl:=ht.len
 have ad:bI.length=117:=rfl
 have aa:List.take 96 bI++[I 0,I (-1),I (-1),B false]++List.drop 100 bI=({jX t 0 with rings:=⟨0,-1,-1,false⟩}:bt).cells:=rfl
 have E:∀k,({jX t k with rings:=⟨0,-1,-1,false⟩}:bt).Ok:=λk=>⟨(uG t k).runs,rfl,rfl⟩
 have ab:∀k,setCells bI 0 ({jX t k with rings:=⟨0,-1,-1,false⟩}:bt).cells=({jX t k with rings:=⟨0,-1,-1,false⟩}:bt).cells:=λk=>eI (by rw[bt.len (E k)];rfl)
 have V:=λk=>bt.len (E k)
 have R:=λk=>bt.whole (E k)
 have D:=cB hl (cB ad (cB aa (cB ab (cB V (R)))))
 refine aj hm hc [] rfl ?_;try simp only[RY,↓KW,seval,sV,Z.H,D]
 refine aD (λk:Nat=>(⟨[(8,.dat (I k) none),(1,.ptr 4 0),(2,.ptr 5 0),(3,.ptr 9 0)],[(4,⟨t.cells,[]⟩),(5,⟨bI,[]⟩),(9,⟨({jX t k with rings:=⟨0,-1,-1,false⟩}:bt).cells,[]⟩)],[],400⟩:S)) (λk=>8-k) (λk=>k<=8) ?_ 0 ST ?_
 ·intro k hk A back
  have hw:=aA (k:=k) ST
  try simp only[I,RY,↓KW,seval]
  rcases bc (decide ((k:Int)<8))with L|L
  ·have:k=8:=by have:=dE L;omega
   subst this;try simp only[RY,↓KW,seval,D]
   rfl
  ·have M:k<8:=by have:=dC L;omega
   have hx:0<=(k:Int)/\(k:Int)<8:=ST
   have ac:=Tb.ij (ht.jL M)
   have O:=bt.M6 (E k) M (wW (aO t k))
   have ae:({jX t k with runs:=(jX t k).runs.set k (wW (aO t k)),rings:=⟨0,-1,-1,false⟩}:bt)={jX t (k+1)with rings:=⟨0,-1,-1,false⟩}:=by rw[<-EI t M]
   simp only at O;rw[ae]at O;try simp only[RY,↓KW,seval,hx,ac]
   refine af (hB _) ?_;try simp only[RY,↓KW,seval,hx,O,Rn.len,D]
   refine⟨ST,back (k+1) _ ST ST ?_⟩
   refine ai Ts ?_ ?_ ?_ ?_<;>simp[LX,I,hw]
 ·refine ai Ts ?_ ?_ ?_ ?_<;>simp[LX,I]
end
open Ieee
set_option exponentiation.threshold 4000
def rk(x:Nat):Int:=if x<2^63 then(x:Int)else -((x:Int)-(2^63:Nat))-1
def fv:Option Nat->AV
 |none=>.fm
 |some n=>Fl n
theorem Ik:jR .fm=.dat .fm none:=rfl
end Go.Eng
