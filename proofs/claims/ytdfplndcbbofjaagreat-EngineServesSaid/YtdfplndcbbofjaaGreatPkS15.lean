/- Part 15 of the engine and its library. -/
import Derived.Test.YtdfplndcbbofjaaGreatPkS14
set_option linter.all false
set_option maxRecDepth 10000
set_option maxHeartbeats 4000000
namespace Go.Eng
open Go
section
variable{P:Program} (hm:P.follows .mixedOrders=true) {f:Nat}
include hm
theorem BX.ok{fR fH:Nat} (hc:bY P f=some (xb fR fH)) (hR:DH.Spec (Pure P) fR) (hH:jU.Spec (Pure P) fH):BX.Spec (Pure P) f:=by
 intro t g r L want ht
 have hp:=Tb.whole ht
 have ae:=BW ht g r
 refine aq hm hc [] rfl ?_;try simp only[I,RX,↓KW,seval,xb,Z.H,hp]
 refine ah (hR t g r ht) ?_
 have hP:∀i,Mu t g r L want i=(decide ((i:Int)>L)&&dP want (((fq t g r).getD []).getD i 0)):=λ_=>rfl
 have hE:Tp t g r L want=match(List.range ((fq t g r).getD []).length).find? (Mu t g r L want)with
  |some i=>(i:Int)
  |none=>-1:=rfl
 generalize Mu t g r L want=pr at*;generalize Tp t g r L want=res at*;generalize fq t g r=row at*;try simp only[RX,↓KW,seval]
 refine aN (λk:Nat=>(⟨[(18,.dat (I k) none),(17,.dat (I (row.getD []).length) none),(16,.dat (aI aE row) none),(3,.dat (I L) none),(4,.dat (I want) none)],[],[],400⟩:S)) (λk=>(row.getD []).length-k) (λk=>k<=(row.getD []).length/\∀q,q<k->pr q=false) ?_ 0 ⟨ST,ST⟩ ?_
 rotate_left
 ·refine ai Ts ?_ ?_ ?_ ?_<;>simp[LX,I]
 rintro k ⟨hk,O⟩ A back
 have aa:=aG (k:=k) ST
 try simp only[I,RX,↓KW,seval]
 cases h:decide ((k:Int)<((row.getD []).length:Int))
 ·have ad:k=(row.getD []).length:=by have:=dC h;omega
  have hf:(List.range (row.getD []).length).find? pr=none:=oH λx V=>O x (by have:=ib.1 V;omega)
  rw[hf]at hE;try simp only[RX,↓KW,seval]
  rw[hE]
 ·have h8:k<(row.getD []).length:=by have:=dE h;omega
  obtain⟨x,V⟩:∃x,(row.getD [])[k]? =some x:=⟨_,et h8⟩
  have ab:(row.getD []).getD k 0=x:=by rw[fi,V];rfl
  have R:=hP k
  rw[ab]at R;try simp only[I,RX,↓KW,seval,V,aE]
  refine⟨ST,?_⟩
  try simp only[I,B,D,RX,↓KW,seval,V,aE]
  cases h1:decide ((k:Int)>L)
  ·have M:pr k=false:=by rw[R,h1];rfl
   try simp only[RX,↓KW,seval]
   refine back (k+1) _ ⟨ST,λq ac=>?_⟩ ST ?_
   ·by_cases e:q=k
    ·rw[e];exact M
    ·exact O q ST
   ·refine ai Ts ?_ ?_ ?_ ?_<;>simp[LX,I,aa]
  ·try simp only[RX,↓KW,seval]
   refine ah (hH want x) ?_;cases h2:dP want x
   ·have M:pr k=false:=by rw[R,h1,h2];rfl
    try simp only[B,RX,↓KW,seval]
    refine back (k+1) _ ⟨ST,λq ac=>?_⟩ ST ?_
    ·by_cases e:q=k
     ·rw[e];exact M
     ·exact O q ST
    ·refine ai Ts ?_ ?_ ?_ ?_<;>simp[LX,I,aa]
   ·have M:pr k=true:=by rw[R,h1,h2];rfl
    have hf:(List.range (row.getD []).length).find? pr=some k:=tG (kh h8) M (λy hy=>O y (by rw[IN]at hy;have:=ib.1 hy;omega))
    rw[hf]at hE;try simp only[B,RX,↓KW,seval]
    rw[hE]
theorem G1.ok{D B:Nat} (M:bY P f=some (qK D B)) (hR:DH.Spec (Pure P) D) (L:setOf.Spec (Pure P) B):G1.Spec (Pure P) f:=by
 intro t g ht
 have A:=Tb.whole ht
 have O:=BW ht g 0
 have R:=BW ht g 1
 refine aq hm M [] rfl ?_;try simp only[I,RX,↓KW,seval,qK,Z.H,A]
 refine ah (hR t g 0 ht) ?_;try simp only[RX,↓KW,seval]
 refine ah (L _ ST) ?_
 try simp only[I,RX,↓KW,seval,A]
 refine ah (hR t g 1 ht) ?_;try simp only[RX,↓KW,seval]
 refine ah (L _ ST) ?_
 try simp only[I,RX,↓KW,seval]
 rfl
theorem G2.ok{fM:Nat} (hc:bY P f=some (nH fM)) (hM:G1.Spec (Pure P) fM):G2.Spec (Pure P) f:=by
 intro t g want ht
 have hl:=Tb.len ht
 have hp:=Tb.whole ht
 have hg:=Tb.lT ht
 have ak:=ht.groups
 have hE:Kr t g want=match(List.range (t.groups.getD []).length).find? (Tq t g want)with
  |some k=>PR t g k
  |none=>-1:=rfl
 have hP:∀k,Tq t g want k=(dh .i64 (Mv t (PR t g k)) want !=0):=λ_=>rfl
 have hF:∀k,PR t g k=(IntKind.i64.wrap (IntKind.i64.wrap (OI t g+1)+k)).tmod (t.groups.getD []).length:=λ_=>rfl
 have ac:=cG hl (cG hp (hg))
 refine aq hm hc [] rfl ?_;try simp only[I,RX,↓KW,seval,nH,Z.H,ac]
 have hG:(g<0\/((t.groups.getD []).length:Int)<=g->IntKind.i64.wrap (((t.groups.getD []).length:Int)-1)=OI t g)/\(¬(g<0\/((t.groups.getD []).length:Int)<=g)->g=OI t g):=
  ⟨λh=>(gc h).symm,λh=>(fx h).symm⟩
 generalize ag:OI t g=g0 at*;generalize PR t g=fg at*;generalize Tq t g want=pr at*;generalize Kr t g want=res at*;cases c1:decide (g<0);cases c2:decide (g>=((t.groups.getD []).length:Int))
 ·have e0:=hG.2 (by have:=dC c1;have:=dC c2;omega)
  subst e0;try simp only[RX,↓KW,seval,c2]
  refine aN (λk:Nat=>(⟨[(23,.dat (I k) none),(22,.dat (I (t.groups.getD []).length) none),(1,.dat (I g) none),(7,.dat (I (t.groups.getD []).length) none),(3,.ptr 4 0),(2,.dat (I want) none)],[(4,⟨t.cells,[]⟩)],[],400⟩:S)) (λk=>(t.groups.getD []).length-k) (λk=>k<=(t.groups.getD []).length/\∀q,q<k->pr q=false) ?_ 0 ⟨ST,ST⟩ ?_
  rotate_left
  ·refine ai Ts ?_ ?_ ?_ ?_<;>simp[LX,I]
  rintro k ⟨hk,B⟩ A back
  have aa:=aG (k:=k) ST
  try simp only[I,RX,↓KW,seval]
  cases h:decide ((k:Int)<((t.groups.getD []).length:Int))
  ·have ad:k=(t.groups.getD []).length:=by have:=dC h;omega
   have O:(List.range (t.groups.getD []).length).find? pr=none:=oH λx hx=>B x (by have:=ib.1 hx;omega)
   rw[O]at hE;try simp only[RX,↓KW,seval]
   rw[hE]
  ·have R:k<(t.groups.getD []).length:=by have:=dE h;omega
   have ab:=hF k
   have V:(((t.groups.getD []).length:Int)=0)=False:=by simp;intro h;rw[h]at R;simp at R
   have L:=hP k
   try simp only[RX,↓KW,seval,V,ac]
   rw[<-ab];refine ah (hM t (fg k) ht) ?_;cases M:(dh .i64 (Mv t (fg k)) want !=0)
   ·have D:pr k=false:=by rw[L,M]
    try simp only[I,RX,↓KW,seval,M]
    refine back (k+1) _ ⟨ST,λq ae=>?_⟩ ST ?_
    ·by_cases e:q=k
     ·rw[e];exact D
     ·exact B q ST
    ·refine ai Ts ?_ ?_ ?_ ?_<;>simp[LX,I,aa]
   ·have D:pr k=true:=by rw[L,M]
    have O:(List.range (t.groups.getD []).length).find? pr=some k:=tG (kh R) D (λy hy=>B y (by rw[IN]at hy;have:=ib.1 hy;omega))
    rw[O]at hE;try simp only[I,RX,↓KW,seval,M]
    rw[hE]
 ·have e0:=hG.1 (.inr (by have:=dE c2;omega))
  try simp only[RX,↓KW,seval,c2]
  refine aN (λk:Nat=>(⟨[(23,.dat (I k) none),(22,.dat (I (t.groups.getD []).length) none),(1,.dat (I g0) none),(7,.dat (I (t.groups.getD []).length) none),(3,.ptr 4 0),(2,.dat (I want) none)],[(4,⟨t.cells,[]⟩)],[],400⟩:S)) (λk=>(t.groups.getD []).length-k) (λk=>k<=(t.groups.getD []).length/\∀q,q<k->pr q=false) ?_ 0 ⟨ST,ST⟩ ?_
  rotate_left
  ·refine ai Ts ?_ ?_ ?_ ?_<;>simp[LX,I,e0]
  rintro k ⟨hk,B⟩ A back
  have aa:=aG (k:=k) ST
  try simp only[I,RX,↓KW,seval]
  cases h:decide ((k:Int)<((t.groups.getD []).length:Int))
  ·have ad:k=(t.groups.getD []).length:=by have:=dC h;omega
   have O:(List.range (t.groups.getD []).length).find? pr=none:=oH λx hx=>B x (by have:=ib.1 hx;omega)
   rw[O]at hE;try simp only[RX,↓KW,seval]
   rw[hE]
  ·have R:k<(t.groups.getD []).length:=by have:=dE h;omega
   have ab:=hF k
   have V:(((t.groups.getD []).length:Int)=0)=False:=by simp;intro h;rw[h]at R;simp at R
   have L:=hP k
   try simp only[RX,↓KW,seval,V,ac]
   rw[<-ab];refine ah (hM t (fg k) ht) ?_;cases M:(dh .i64 (Mv t (fg k)) want !=0)
   ·have D:pr k=false:=by rw[L,M]
    try simp only[I,RX,↓KW,seval,M]
    refine back (k+1) _ ⟨ST,λq ae=>?_⟩ ST ?_
    ·by_cases e:q=k
     ·rw[e];exact D
     ·exact B q ST
    ·refine ai Ts ?_ ?_ ?_ ?_<;>simp[LX,I,aa]
   ·have D:pr k=true:=by rw[L,M]
    have O:(List.range (t.groups.getD []).length).find? pr=some k:=tG (kh R) D (λy hy=>B y (by rw[IN]at hy;have:=ib.1 hy;omega))
    rw[O]at hE;try simp only[I,RX,↓KW,seval,M]
    rw[hE]
 ·have e0:=hG.1 (.inl (dE c1))
  try simp only[RX,↓KW,seval]
  refine aN (λk:Nat=>(⟨[(23,.dat (I k) none),(22,.dat (I (t.groups.getD []).length) none),(1,.dat (I g0) none),(7,.dat (I (t.groups.getD []).length) none),(3,.ptr 4 0),(2,.dat (I want) none)],[(4,⟨t.cells,[]⟩)],[],400⟩:S)) (λk=>(t.groups.getD []).length-k) (λk=>k<=(t.groups.getD []).length/\∀q,q<k->pr q=false) ?_ 0 ⟨ST,ST⟩ ?_
  rotate_left
  ·refine ai Ts ?_ ?_ ?_ ?_<;>simp[LX,I,e0]
  rintro k ⟨hk,B⟩ A back
  have aa:=aG (k:=k) ST
  try simp only[I,RX,↓KW,seval]
  cases h:decide ((k:Int)<((t.groups.getD []).length:Int))
  ·have ad:k=(t.groups.getD []).length:=by have:=dC h;omega
   have O:(List.range (t.groups.getD []).length).find? pr=none:=oH λx hx=>B x (by have:=ib.1 hx;omega)
   rw[O]at hE;try simp only[RX,↓KW,seval]
   rw[hE]
  ·have R:k<(t.groups.getD []).length:=by have:=dE h;omega
   have ab:=hF k
   have V:(((t.groups.getD []).length:Int)=0)=False:=by simp;intro h;rw[h]at R;simp at R
   have L:=hP k
   try simp only[RX,↓KW,seval,V,ac]
   rw[<-ab];refine ah (hM t (fg k) ht) ?_;cases M:(dh .i64 (Mv t (fg k)) want !=0)
   ·have D:pr k=false:=by rw[L,M]
    try simp only[I,RX,↓KW,seval,M]
    refine back (k+1) _ ⟨ST,λq ae=>?_⟩ ST ?_
    ·by_cases e:q=k
     ·rw[e];exact D
     ·exact B q ST
    ·refine ai Ts ?_ ?_ ?_ ?_<;>simp[LX,I,aa]
   ·have D:pr k=true:=by rw[L,M]
    have O:(List.range (t.groups.getD []).length).find? pr=some k:=tG (kh R) D (λy hy=>B y (by rw[IN]at hy;have:=ib.1 hy;omega))
    rw[O]at hE;try simp only[I,RX,↓KW,seval,M]
    rw[hE]
theorem Md.ok{e fO:Nat} (hc:bY P f=some (vr e fO)) (hO:setOf.Spec (Pure P) fO):Md.Spec (Pure P) f:=by
 intro t g r pl ht
 have hg:=Tb.lT ht
 refine aq hm hc [] rfl ?_;try simp only[I,RX,↓KW,seval,vr,Z.H]
 by_cases h0:g<0\/((t.groups.getD []).length:Int)<=g\/r<0\/1<r
 ·have hx:mM t g r pl=-1:=gc h0
  rw[hx];cases h1:decide (g<0)
  ·try simp only[RX,↓KW,seval,hg]
   cases h2:decide (g>=((t.groups.getD []).length:Int))
   ·try simp only[RX,↓KW,seval]
    cases h3:decide (r<0)
    ·have h4:decide (r>1)=true:=by
      have:=dC h1;have:=dC h2;have:=dC h3;simp;omega
     try simp only[RX,↓KW,seval,h4]
    ·try simp only[RX,↓KW,seval]
   ·try simp only[RX,↓KW,seval]
  ·try simp only[RX,↓KW,seval]
 have hx:fq t g r=((t.groups.getD []).getD g.toNat default).row r.toNat:=fx h0
 have A:mM t g r pl=if pl<0\/(((fq t g r).getD []).length:Int)<=pl then -1
  else if 0<=((fq t g r).getD []).getD pl.toNat 0/\((fq t g r).getD []).getD pl.toNat 0<8 then((fq t g r).getD []).getD pl.toNat 0 else -1:=fx h0
 have h1:decide (g<0)=false:=by simp;omega
 have h2:decide (g>=((t.groups.getD []).length:Int))=false:=by simp;omega
 have h3:decide (r<0)=false:=by simp;omega
 have h4:decide (r>1)=false:=by simp;omega
 obtain⟨gr,R⟩:∃gr,(t.groups.getD [])[g.toNat]? =some gr:=⟨_,et ST⟩
 have aa:(t.groups.getD []).getD g.toNat default=gr:=by rw[fi,R];rfl
 rw[aa]at hx
 have B:(gr.cells.drop r.toNat)[0]? =some (aI aE (gr.row r.toNat)):=by
  have:r=0\/r=1:=ST
  rcases this with rfl|rfl<;>rfl
 rw[<-hx]at B
 have ad:gr.cells.length=2:=rfl
 have hy:0<=g/\g<((t.groups.getD []).length:Int):=ST
 have ac:0<=r/\r<2:=ST
 generalize mM t g r pl=res at*;generalize fq t g r=row at*;try simp only[RX,↓KW,seval,h1,h2,h3,h4,hg,R,ad,hy,ac,B]
 by_cases h5:pl<0\/((row.getD []).length:Int)<=pl
 ·rw[gc h5]at A
  rw[A];cases h6:decide (pl<0)
  ·have h7:decide (pl>=((row.getD []).length:Int))=true:=by have:=dC h6;simp;omega
   try simp only[RX,↓KW,seval,h7]
  ·try simp only[RX,↓KW,seval]
 ·rw[fx h5]at A
  have h6:decide (pl<0)=false:=by simp;omega
  have h7:decide (pl>=((row.getD []).length:Int))=false:=by simp;omega
  obtain⟨x,D⟩:∃x,(row.getD [])[pl.toNat]? =some x:=⟨_,et ST⟩
  have ab:(row.getD []).getD pl.toNat 0=x:=by rw[fi,D];rfl
  rw[ab]at A
  have ho:=EP x
  have M:0<=pl/\pl<((row.getD []).length:Int):=ST
  try simp only[I,RX,↓KW,seval,h6,h7,M,D,aE]
  have O:=hO (some [x]) TB
  obtain⟨z,hz⟩:∃z,PO ((some [x]:Option (List Int)).getD [])=z:=⟨_,rfl⟩
  have V:(z==0)=!(decide (0<=x)&&decide (x<8)):=by rw[<-hz];exact ho
  rw[hz]at O;refine ah O ?_
  by_cases L:0<=x/\x<8
  ·rw[gc L]at A
   rw[pc L.1,pc L.2]at V;try simp only[I,RX,↓KW,seval,V,M,D,aE,wn]
   rw[A]
  ·rw[fx L]at A
   have h9:(decide (0<=x)&&decide (x<8))=false:=by
    rw[<-Bool.decide_and];exact tp L
   rw[h9]at V;try simp only[I,RX,↓KW,seval,V]
   rw[A]
theorem G3.ok{L:Nat} (V:bY P f=some (zA L)) (hA:Md.Spec (Pure P) L):G3.Spec (Pure P) f:=by
 intro t r k ht
 have O:=Tb.whole ht
 have A:r.cells[0]? =some (I r.group):=rfl
 refine aq hm V [] rfl ?_;try simp only[I,RX,↓KW,seval,zA,Z.H]
 cases M:decide (k<0)
 ·try simp only[RX,↓KW,seval]
  cases D:decide (k>1)
  ·try simp only[I,RX,↓KW,seval,O,A]
   have a:=dC M
   have b:=dC D
   have R:0<=k/\k<2:=ST
   have B:r.cells[1+k.toNat]? =some (I (r.at k)):=by
    have:k=0\/k=1:=ST
    rcases this with rfl|rfl<;>rfl
   try simp only[I,RX,↓KW,seval,R,B]
   refine ah (hA t r.group k (r.at k) ht) ?_;try simp only[I,RX,↓KW,seval]
   rw[jM,fx ST]
  ·try simp only[RX,↓KW,seval]
   rw[jM,gc (.inr (dE D))]
 ·try simp only[RX,↓KW,seval]
  rw[jM,gc (.inl (dE M))]
theorem xk.ok{O:Nat} (hc:bY P f=some (uE O)) (hW:vl.Spec (Pure P) O):xk.Spec (Pure P) f:=by
 intro t r k q ht
 have V:=Tb.whole ht
 have D:r.cells[0]? =some (I r.group):=rfl
 have L:=λh=>j4 (t:=t) (q:=q) h
 have hE:Xf t r k q=((aA t q).2&&(aA t q).1.group==r.group&&(aA t q).1.ring !=k&&decide ((aA t q).1.pos>r.at (aA t q).1.ring)):=rfl
 refine aq hm hc [] rfl ?_;try simp only[I,B,RX,↓KW,seval,uE,Z.H,V]
 refine ah (hW t q ht) ?_;generalize(aA t q).2=ok at*;generalize(aA t q).1=w at*;generalize Xf t r k q=res at*;cases ok
 ·try simp only[I,B,RX,↓KW,seval]
  rw[hE];rfl
 try simp only[I,B,RX,↓KW,seval,D]
 have hy:0<=w.ring/\w.ring<2:=L rfl
 have M:r.cells[1+w.ring.toNat]? =some (I (r.at w.ring)):=by
  have:w.ring=0\/w.ring=1:=ST
  rcases this with e|e<;>rw[e]<;>rfl
 cases A:(w.group==r.group)
 ·try simp only[RX,↓KW,seval]
  rw[hE,A];rfl
 try simp only[RX,↓KW,seval]
 cases R:(w.ring !=k)
 ·try simp only[RX,↓KW,seval]
  rw[hE,A,R];rfl
 try simp only[I,RX,↓KW,seval,hy,M]
 rw[hE,A,R];rfl
end
section
variable (a:Int) (p:Ph) (st b time:Int)
structure Cu where
 start:Bool
 fin:Bool
 here:Bool
 push:Bool
 bI:Bool
 hold:Bool
 early:Bool
 cut:Bool
 deriving Inhabited,DecidableEq
def Cu.cells(c:Cu):List AV:=[B c.start,B c.fin,B c.here,B c.push,B c.bI,B c.hold,B c.early,B c.cut]
def ob(A:Bool):Int×Int:=
 if st==1&&decide (time>=p.walk)then(2,1)else if st==2&&decide (time>=p.bR)then(0,0)else if st==1||st==2 then(st,bh time)
 else if A&&decide (p.walk>0)then(1,1)else(0,0)
def IP:Int×Int:=if st==1 then(2,1)else(st,time)
def Mw(left:Int) (here:Bool):Int:=if here then p.LF else if left>9999 then 9998 else if left>0 then left-1 else 0
def Af(x:Int):Int:=if p.max>(if p.top<x then p.top else x)then p.max else(if p.top<x then p.top else x)
def plE:Int:=if decide (b>0)&&decide (a>IntKind.i64.wrap (9223372036854775807-b))then 9223372036854775807 else if decide (b<0)&&decide (a<IntKind.i64.wrap (-9223372036854775808-b))then -9223372036854775808 else IntKind.i64.wrap (a+b)
def miE:Int:=if decide (b>0)&&decide (a<IntKind.i64.wrap (-9223372036854775808+b))then -9223372036854775808 else if decide (b<0)&&decide (a>IntKind.i64.wrap (9223372036854775807+b))then 9223372036854775807 else IntKind.i64.wrap (a-b)
structure Tr where
 limit:Int
 up:Int
 down:Int
 deriving Inhabited,DecidableEq
def Tr.cells(x:Tr):List AV:=[I x.limit,I x.up,I x.down]
def Wj(n:Int):Int:=(if 1<(if 0>n then 0 else n)then 1 else(if 0>n then 0 else n))+1
def Wk(x:Tr) (jB:Bool):Tr:=if jB then⟨Af p x.limit,Wj x.up,0⟩else⟨Af p x.limit,0,Wj x.down⟩
end
section
variable (p:Ph) (C:bk) (r:Rn) (c:Cu) (f:Nat) (x:Tr)
def Xg:Tr:=if x.up==2 then⟨plE x.limit p.step,0,x.down⟩else if x.down==2 then⟨miE x.limit p.step,x.up,0⟩else x
def Tt(jB:Bool):Tr:={Xg p (Wk p x jB)with limit:=Af p (Xg p (Wk p x jB)).limit}
def eo(st:Int):Bool:=st==1||st==2
def mU(ay time:Int):Rn:=⟨ay,time,0,0,0,0,0,false,false,r.limit,r.up,r.down⟩
def vt:Int×Int:=if c.cut&&r.fst==1 then IP r.fst r.bu else ob p r.fst r.bu (c.push&& !c.bI)
def bw:Bool:=!eo r.fst&&(vt p r c).1==1
def d5:Rn:=
 ⟨1,bh r.time,(vt p r c).1,(vt p r c).2,Mw p r.left c.here,if c.bI then bh r.d6 else r.d6,r.extra,if bw p r c then false else r.done,if bw p r c then false else r.jB,r.limit,r.up,r.down⟩
def bM:Bool:=decide (r.d6>=Af p r.limit)
def cV:Bool:=(((c.bI&& !r.done)&&decide (r.time>=p.min))&& !eo r.fst)&&((r.left==0||bM p r)||c.early)
def eV:Rn:=
 if c.fin then(if r.done then{mU r 2 1 with limit:=(Tt p ⟨r.limit,r.up,r.down⟩ r.jB).limit,up:=(Tt p ⟨r.limit,r.up,r.down⟩ r.jB).up,down:=(Tt p ⟨r.limit,r.up,r.down⟩ r.jB).down}else mU r 2 1)
 else if cV p (d5 p r c) c&&c.hold then{d5 p r c with extra:=bh (d5 p r c).extra}
 else if cV p (d5 p r c) c then{d5 p r c with done:=true,jB:=decide ((d5 p r c).left>0)&&bM p (d5 p r c)}else d5 p r c
def vu:Rn:=if c.start then{mU r 1 1 with fst:=(ob p 0 0 c.push).1,bu:=(ob p 0 0 c.push).2,left:=p.LF}else mU r 0 (bh r.time)
def gZ:Rn:=if r.time<p.bQ then mU r 2 (bh r.time)else if p.red>0 then mU r 3 1 else mU r 0 1
def k9:Rn:=if r.time<p.red then mU r 3 (bh r.time)else mU r 0 1
def aL:Rn:=if r.ay==1 then eV p r c else if r.ay==2 then gZ p r else if r.ay==3 then k9 p r else vu p r c
def vv:Bool:=if r.ay !=1||c.fin|| !c.hold then false else cV p (d5 p r c) c
def d7:List AV:=p.cells++(r.cells++c.cells)
def BZ.Spec:Prop:=∀p:Ph,C.c f [.agg p.cells] (.agg (Tr.cells ⟨p.max,0,0⟩)) none
def vw.Spec:Prop:=∀(p:Ph) (x:Tr),C.c f [.agg p.cells,.agg x.cells] (I (Af p x.limit)) none
def G5.Spec:Prop:=∀(p:Ph) (left:Int) (here:Bool),C.c f [.agg p.cells,I left,B here] (I (Mw p left here)) none
def G6.Spec:Prop:=∀a b:Int,C.c f [I a,I b] (I (plE a b)) none
def B3.Spec:Prop:=∀a b:Int,C.c f [I a,I b] (I (miE a b)) none
def G7.Spec:Prop:=∀(p:Ph) (x:Tr) (jB:Bool),C.c f [.agg p.cells,.agg x.cells,B jB] (.agg (Tt p x jB).cells) none
def tR.Spec:Prop:=∀(p:Ph) (st time:Int) (b:Bool),C.c f [.agg p.cells,.agg [I st,I time],B b] (.agg [I (ob p st time b).1,I (ob p st time b).2]) none
def B4.Spec:Prop:=∀(st time:Int),C.c f [.agg [I st,I time]] (.agg [I (IP st time).1,I (IP st time).2]) none
def lf.Spec:Prop:=∀n:Int,C.c f [I n] (I (bh n)) none
def xm.Spec:Prop:=∀st time:Int,C.c f [.agg [I st,I time]] (B (eo st)) none
def xp.Spec:Prop:=∀p:Ph,C.c f [.agg p.cells] (.agg (BG p).cells) none
def G8.Spec:Prop:=∀(p:Ph) (r:Rn) (c:Cu) (a b:Int),C.c f [.agg (d7 p r c),I a,I b] (.agg (mU r a b).cells) none
def G9.Spec:Prop:=∀(p:Ph) (r:Rn) (c:Cu),C.c f [.agg (d7 p r c)] (.agg (vu p r c).cells) none
def yz.Spec:Prop:=∀(p:Ph) (r:Rn) (c:Cu),C.c f [.agg (d7 p r c)] (.cU [.agg (d5 p r c).cells,B (cV p (d5 p r c) c)]) none
def xq.Spec:Prop:=∀(p:Ph) (r:Rn) (c:Cu),C.c f [.agg (d7 p r c)] (.agg (eV p r c).cells) none
def sS.Spec:Prop:=∀(p:Ph) (r:Rn) (c:Cu),C.c f [.agg (d7 p r c)] (.agg (gZ p r).cells) none
def sU.Spec:Prop:=∀(p:Ph) (r:Rn) (c:Cu),C.c f [.agg (d7 p r c)] (.agg (k9 p r).cells) none
def B5.Spec:Prop:=∀(p:Ph) (r:Rn) (c:Cu),C.c f [.agg p.cells,.agg r.cells,.agg c.cells] (.agg (aL p r c).cells) none
def B6.Spec:Prop:=∀(p:Ph) (r:Rn) (c:Cu),C.c f [.agg p.cells,.agg r.cells,.agg c.cells] (B (vv p r c)) none
theorem vz:(d7 p r c).length=33/\aH (d7 p r c) 0 (some 13)=some (.agg p.cells)/\aH (d7 p r c) 13 (some 12)=some (.agg r.cells)/\aH (d7 p r c) 15 (some 2)=some (.agg [I r.fst,I r.bu])/\aH (d7 p r c) 22 (some 3)=some (.agg (Tr.cells ⟨r.limit,r.up,r.down⟩))/\aH (d7 p r c) 0 (some 33)=some (.agg (d7 p r c)):=⟨rfl,rfl,rfl,rfl,rfl,rfl⟩
theorem E2:(d7 p r c)[1]? =some (I p.min)/\(d7 p r c)[2]? =some (I p.LF)/\(d7 p r c)[6]? =some (I p.bQ)/\(d7 p r c)[7]? =some (I p.red):=⟨rfl,rfl,rfl,rfl⟩
theorem B7:(d7 p r c)[14]? =some (I r.time)/\(d7 p r c)[15]? =some (I r.fst)/\(d7 p r c)[17]? =some (I r.left)/\(d7 p r c)[18]? =some (I r.d6)/\(d7 p r c)[20]? =some (B r.done)/\(d7 p r c)[21]? =some (B r.jB):=⟨rfl,rfl,rfl,rfl,rfl,rfl⟩
theorem IQ:(d7 p r c)[25]? =some (B c.start)/\(d7 p r c)[26]? =some (B c.fin)/\(d7 p r c)[27]? =some (B c.here)/\(d7 p r c)[28]? =some (B c.push)/\(d7 p r c)[29]? =some (B c.bI)/\(d7 p r c)[30]? =some (B c.hold)/\(d7 p r c)[31]? =some (B c.early)/\(d7 p r c)[32]? =some (B c.cut):=⟨rfl,rfl,rfl,rfl,rfl,rfl,rfl,rfl⟩
end
section
variable{P:Program} (hm:P.follows .mixedOrders=true) {f:Nat}
include hm
omit hm in
theorem OJ(n:Int):(if 9999<(if 0>n then 0 else n)then 9999 else(if 0>n then 0 else n))=iO n 0 9999:=by
 unfold iO;split<;>split<;>(try split)<;>omega
theorem lf.ok(B:bY P f=some uG):lf.Spec (Pure P) f:=by
 intro n
 have A:=OJ n
 refine aq hm B [] rfl ?_;try simp only[I,RX,↓KW,seval,uG,Z.H]
 rw[A];rfl
theorem Sl.ok(B:bY P f=some zH):lf.Spec (Pure P) f:=by
 intro n
 have A:=OJ n
 refine aq hm B [] rfl ?_;try simp only[I,RX,↓KW,seval,zH,Z.H]
 rw[A];rfl
theorem BZ.ok(A:bY P f=some w5):BZ.Spec (Pure P) f:=by
 intro p;refine aq hm A [] rfl ?_;try simp only[I,B,RX,↓KW,seval,w5,Z.H,Ph.cells]
 rfl
theorem vw.ok(A:bY P f=some xh):vw.Spec (Pure P) f:=by
 intro p x;refine aq hm A [] rfl ?_;try simp only[I,B,RX,↓KW,seval,xh,Z.H,Ph.cells,Tr.cells]
 rfl
theorem G6.ok(R:bY P f=some zI):G6.Spec (Pure P) f:=by
 intro a b;refine aq hm R [] rfl ?_;try simp only[I,RX,↓KW,seval,zI,Z.H]
 cases O:decide (b>0)<;>cases A:decide (a>IntKind.i64.wrap (9223372036854775807-b))<;>cases M:decide (b<0)<;>cases L:decide (a<IntKind.i64.wrap (-9223372036854775808-b))<;>
 (try simp only[RX,↓KW,seval,A,M,L];try(try simp only[I,B,D,RX,↓KW,seval,O,A,M,L]);rw[plE,O,A,M,L];rfl)
theorem B3.ok(R:bY P f=some xj):B3.Spec (Pure P) f:=by
 intro a b;refine aq hm R [] rfl ?_;try simp only[I,RX,↓KW,seval,xj,Z.H]
 cases O:decide (b>0)<;>cases A:decide (a<IntKind.i64.wrap (-9223372036854775808+b))<;>cases M:decide (b<0)<;>cases L:decide (a>IntKind.i64.wrap (9223372036854775807+b))<;>
 (try simp only[RX,↓KW,seval,A,M,L];try(try simp only[I,B,D,RX,↓KW,seval,O,A,M,L]);rw[miE,O,A,M,L];rfl)
theorem G5.ok(L:bY P f=some zF):G5.Spec (Pure P) f:=by
 intro p left here;refine aq hm L [] rfl ?_;try simp only[I,B,RX,↓KW,seval,zF,Z.H,Ph.cells]
 cases here
 ·try simp only[RX,↓KW,seval]
  cases A:decide (left>9999)
  ·try simp only[RX,↓KW,seval]
   cases D:decide (left>0)
   ·try simp only[RX,↓KW,seval]
    have a:=dC A
    have b:=dC D
    simp only[Mw,fx a,fx b,eQ,ik]
   ·try simp only[RX,↓KW,seval]
    have a:=dC A
    have b:=dE D
    rw[aT ST ST]
    simp only[Mw,fx a,gc b,eQ,ik]
  ·try simp only[RX,↓KW,seval]
   have a:=dE A
   simp only[Mw,gc a,eQ,ik]
   try rfl
 ·try simp only[RX,↓KW,seval]
  try rfl
theorem G7.ok{R O M:Nat} (hc:bY P f=some (zG R O M)) (hL:vw.Spec (Pure P) R) (hP:G6.Spec (Pure P) O) (hM:B3.Spec (Pure P) M):G7.Spec (Pure P) f:=by
 intro p x jB
 have q:∀p:Ph,p.cells.length=13/\aH p.cells 0 (some 13)=some (.agg p.cells)/\p.cells[5]? =some (I p.step):=λ_=>⟨rfl,rfl,rfl⟩
 have qx:∀x:Tr,x.cells.length=3/\aH x.cells 0 (some 3)=some (.agg x.cells)/\x.cells[0]? =some (I x.limit)/\x.cells[1]? =some (I x.up)/\x.cells[2]? =some (I x.down):=λ_=>⟨rfl,rfl,rfl,rfl,rfl⟩
 have V:∀n:Int,IntKind.i64.wrap ((if 1<(if 0>n then 0 else n)then 1 else(if 0>n then 0 else n))+1)=Wj n:=λn=>by
  rw[aT (by split<;>split<;>omega) (by split<;>split<;>omega)];rfl
 have z3:∀x:Tr,setCells [I 0,I 0,I 0] 0 x.cells=x.cells:=λ_=>rfl
 have L:∀a b c:Int,setCells [I 0,I 0,I 0] 0 [I a,I b,I c]=Tr.cells ⟨a,b,c⟩:=λ_ _ _=>rfl
 have s0:∀(x:Tr) (y:Int),setCells x.cells 0 [I y]=({x with limit:=y}:Tr).cells:=λ_ _=>rfl
 have s1:∀(x:Tr) (y:Int),setCells x.cells 1 [I y]=({x with up:=y}:Tr).cells:=λ_ _=>rfl
 have s2:∀(x:Tr) (y:Int),setCells x.cells 2 [I y]=({x with down:=y}:Tr).cells:=λ_ _=>rfl
 have A:=cG q (cG qx (cG V (cG z3 (cG L (cG s0 (cG s1 (s2)))))))
 refine aq hm hc [] rfl ?_;try simp only[B,RY,↓KW,seval,zG,Z.H,A]
 refine ah (hL p x) ?_;try simp only[I,RY,↓KW,seval,A]
 cases jB
 ·try simp only[I,RY,↓KW,seval,A]
  cases D:(Wj x.down==2)
  ·try simp only[RY,↓KW,seval,A]
   refine ah (hL p ⟨Af p x.limit,0,Wj x.down⟩) ?_;try simp only[I,RY,↓KW,seval,A]
   simp[Tt,Wk,Xg,D]
  ·try simp only[I,RY,↓KW,seval,A]
   refine ah (hM (Af p x.limit) p.step) ?_;try simp only[I,RY,↓KW,seval,A]
   refine ah (hL p ⟨miE (Af p x.limit) p.step,0,0⟩) ?_;try simp only[I,RY,↓KW,seval,A]
   simp[Tt,Wk,Xg,D]
 ·try simp only[I,RY,↓KW,seval,A]
  cases D:(Wj x.up==2)
  ·try simp only[I,RY,↓KW,seval,A]
   refine ah (hL p ⟨Af p x.limit,Wj x.up,0⟩) ?_;try simp only[I,RY,↓KW,seval,A]
   simp[Tt,Wk,Xg,D]
  ·try simp only[I,RY,↓KW,seval,A]
   refine ah (hP (Af p x.limit) p.step) ?_;try simp only[I,RY,↓KW,seval,A]
   refine ah (hL p ⟨plE (Af p x.limit) p.step,0,0⟩) ?_;try simp only[I,RY,↓KW,seval,A]
   simp[Tt,Wk,Xg,D]
theorem tR.ok{V:Nat} (hc:bY P f=some (zE V)) (hM:lf.Spec (Pure P) V):tR.Spec (Pure P) f:=by
 intro p st time b;refine aq hm hc [] rfl ?_;try simp only[I,B,RX,↓KW,seval,zE,Z.H,Ph.cells]
 cases M:(st==1)<;>cases A:(st==2)<;>cases R:decide (time>=p.walk)<;>cases L:decide (time>=p.bR)<;>cases b<;>cases O:decide (p.walk>0)
 all_goals try simp only[RX,↓KW,seval,M,A,R,L,O]
 all_goals try simp only[I,B,D,RX,↓KW,seval,M,A,R,L,O,Ph.cells]
 all_goals(try(refine ah (hM _) ?_))
 all_goals try simp only[I,RX,↓KW,seval]
 all_goals simp only[ob,M,A,R,L,O,nm,nf,H4,Bool.or_false,eQ,kv,ik]
theorem B4.ok(B:bY P f=some BV):B4.Spec (Pure P) f:=by
 intro st time;refine aq hm B [] rfl ?_;try simp only[I,RX,↓KW,seval,BV,Z.H]
 cases A:(st==1)
 ·try simp only[RX,↓KW,seval]
  simp[IP,A]
 ·try simp only[RX,↓KW,seval]
  simp[IP,A]
theorem xm.ok(D:bY P f=some sR):xm.Spec (Pure P) f:=by
 intro st time;refine aq hm D [] rfl ?_;try simp only[I,B,RX,↓KW,seval,sR,Z.H]
 cases A:(st==1)
 ·try simp only[RX,↓KW,seval]
  simp[eo,A]
 ·try simp only[RX,↓KW,seval]
  simp[eo,A]
theorem xp.ok{A:Nat} (B:bY P f=some (sN A)) (hG:BZ.Spec (Pure P) A):xp.Spec (Pure P) f:=by
 intro p
 have q:aH p.cells 0 (some 13)=some (.agg p.cells):=rfl
 refine aq hm B [] rfl ?_;try simp only[RX,↓KW,seval,sN,Z.H,q]
 refine ah (hG p) ?_;try simp only[I,RX,↓KW,seval,Tr.cells,bL]
 rfl
theorem G8.ok(A:bY P f=some oR):G8.Spec (Pure P) f:=by
 intro p r c a b
 have B:=vz p r c
 refine aq hm A [] rfl ?_;try simp only[I,RX,↓KW,seval,oR,Z.H,B,Tr.cells,bL]
 rfl
theorem G9.ok{D M L:Nat} (hc:bY P f=some (nG D M L)) (hM:lf.Spec (Pure P) D) (hA:G8.Spec (Pure P) M) (hP:tR.Spec (Pure P) L):G9.Spec (Pure P) f:=by
 intro p r c
 have t1:=vz p r c
 have R:=E2 p r c
 have V:=B7 p r c
 have t4:=IQ p r c
 have A:=cG t1 (cG R (cG V (t4)))
 refine aq hm hc [] rfl ?_;try simp only[B,RX,↓KW,seval,nG,Z.H,A,bL]
 cases O:c.start
 ·try simp only[I,RX,↓KW,seval,A]
  refine ah (hM _) ?_;try simp only[I,RX,↓KW,seval]
  refine ah (hA p r c _ _) ?_;try simp only[I,B,RX,↓KW,seval,Rn.cells,mU]
  simp[vu,O,mU]
 ·try simp only[RX,↓KW,seval,A]
  refine ah (hA p r c _ _) ?_;try simp only[I,B,RX,↓KW,seval,Rn.cells,mU]
  refine p9 rfl ?_;try simp only[B,RX,↓KW,seval,A]
  refine ah (hP p 0 0 c.push) ?_;try simp only[I,RX,↓KW,seval,A]
  simp[vu,O,mU]
theorem sS.ok{D M:Nat} (hc:bY P f=some (kM D M)) (hM:lf.Spec (Pure P) D) (hA:G8.Spec (Pure P) M):sS.Spec (Pure P) f:=by
 intro p r c
 have t1:=vz p r c
 have R:=E2 p r c
 have V:=B7 p r c
 have A:=cG t1 (cG R (V))
 refine aq hm hc [] rfl ?_;try simp only[I,RX,↓KW,seval,kM,Z.H,A,bL]
 cases O:decide (r.time<p.bQ)
 ·have a:=dC O
  try simp only[I,RX,↓KW,seval,A]
  cases L:decide (p.red>0)
  ·have b:=dC L
   try simp only[RX,↓KW,seval,A]
   refine ah (hA p r c _ _) ?_;try simp only[I,B,RX,↓KW,seval,Rn.cells,mU]
   simp only[gZ,fx a,fx b,mU]
  ·have b:=dE L
   try simp only[RX,↓KW,seval,A]
   refine ah (hA p r c _ _) ?_;try simp only[I,B,RX,↓KW,seval,Rn.cells,mU]
   simp only[gZ,fx a,gc b,mU]
 ·have a:=dE O
  try simp only[I,RX,↓KW,seval,A]
  refine ah (hM _) ?_;try simp only[I,RX,↓KW,seval]
  refine ah (hA p r c _ _) ?_;try simp only[I,B,RX,↓KW,seval,Rn.cells,mU]
  simp only[gZ,gc a,mU]
theorem sU.ok{D L:Nat} (hc:bY P f=some (kN D L)) (hM:lf.Spec (Pure P) D) (hA:G8.Spec (Pure P) L):sU.Spec (Pure P) f:=by
 intro p r c
 have V:=vz p r c
 have O:=E2 p r c
 have R:=B7 p r c
 have A:=cG V (cG O (R))
 refine aq hm hc [] rfl ?_;try simp only[I,RX,↓KW,seval,kN,Z.H,A,bL]
 cases M:decide (r.time<p.red)
 ·have a:=dC M
  try simp only[RX,↓KW,seval,A]
  refine ah (hA p r c _ _) ?_;try simp only[I,B,RX,↓KW,seval,Rn.cells,mU]
  simp only[k9,fx a,mU]
 ·have a:=dE M
  try simp only[I,RX,↓KW,seval,A]
  refine ah (hM _) ?_;try simp only[I,RX,↓KW,seval]
  refine ah (hA p r c _ _) ?_;try simp only[I,B,RX,↓KW,seval,Rn.cells,mU]
  simp only[k9,gc a,mU]
omit hm in
theorem bc(b:Bool):b=false\/b=true:=by cases b<;>simp
set_option maxHeartbeats 40000000 in
theorem yz.ok{fM fC fP fS fL fI:Nat} (hc:bY P f=some (mL fM fC fP fS fL fI)) (hM:lf.Spec (Pure P) fM) (hC:B4.Spec (Pure P) fC) (hP:tR.Spec (Pure P) fP) (hS:xm.Spec (Pure P) fS) (hL:G5.Spec (Pure P) fL) (hI:vw.Spec (Pure P) fI):yz.Spec (Pure P) f:=by
 intro p r c
 have t1:=vz p r c
 have t2:=E2 p r c
 have t3:=B7 p r c
 have t4:=IQ p r c
 have A:=cG t1 (cG t2 (cG t3 (t4)))
 obtain⟨a,b,M⟩:∃a b,vt p r c=(a,b):=⟨_,_,rfl⟩
 obtain⟨d,hd⟩:∃d,bw p r c=d:=⟨_,rfl⟩
 refine aq hm hc [] rfl ?_;try simp only[I,B,D,RX,↓KW,seval,mL,Z.H,A,bL,Rn.cells]
 refine ah (hM _) ?_;try simp only[I,B,D,RX,↓KW,seval,A,Rn.cells]
 have ab:∀q,(c.push&& !c.bI)=q->((c.cut&&r.fst==1)=false)->(Pure P).c fP [.agg p.cells,.agg [I r.fst,I r.bu],B q] (.agg [I a,I b]) none:=λq h1 h2=>by
  have h3:=hP p r.fst r.bu q
  have hF:=M
  rw[vt,h2,h1]at hF;simp only[eQ,ik]at hF;rw[hF]at h3;exact h3
 have ac:c.cut=true->(r.fst==1)=true->(Pure P).c fC [.agg [I r.fst,I r.bu]] (.agg [I a,I b]) none:=λh1 h2=>by
  have h3:=hC r.fst r.bu
  have hF:=M
  rw[vt,h1,h2]at hF;simp only[wn,kv]at hF;rw[hF]at h3;exact h3
 have J:(c.cut=false/\(c.cut&&r.fst==1)=false)\/(c.cut=true/\(r.fst==1)=false/\(c.cut&&r.fst==1)=false)\/(c.cut=true/\(r.fst==1)=true/\(c.cut&&r.fst==1)=true):=by
  rcases bc c.cut with h|h<;>rcases bc (r.fst==1)with h'|h'<;>simp[h,h']
 have K:(c.push=false/\(c.push&& !c.bI)=false)\/(c.push=true/\c.bI=false/\(c.push&& !c.bI)=true)\/(c.push=true/\c.bI=true/\(c.push&& !c.bI)=false):=by
  rcases bc c.push with h|h<;>rcases bc c.bI with h'|h'<;>simp[h,h']
 rcases J with⟨j1,j3⟩|⟨j1,j2,j3⟩|⟨j1,j2,j3⟩
 ·try simp only[I,B,D,RX,↓KW,seval,j1,A,Rn.cells]
  rcases K with⟨k1,k3⟩|⟨k1,k2,k3⟩|⟨k1,k2,k3⟩
  ·try simp only[I,B,D,RX,↓KW,seval,k1,A,Rn.cells]
   refine ah (ab _ k3 j3) ?_;try simp only[I,B,D,RX,↓KW,seval,A,Rn.cells]
   refine ah (hS r.fst r.bu) ?_;try simp only[I,B,D,RX,↓KW,seval,A,Rn.cells]
   rcases bc (eo r.fst)with O|O
   all_goals try simp only[I,B,D,RX,↓KW,seval,O,A,Rn.cells]
   rcases bc (a==1)with ha|ha
   all_goals try simp only[I,B,D,RX,↓KW,seval,ha,A,Rn.cells]
   all_goals(refine ah (hL p r.left c.here) ?_)
   all_goals try simp only[I,B,D,RX,↓KW,seval,A,Rn.cells]
   all_goals rcases bc c.bI with L|L
   all_goals try simp only[I,B,D,RX,↓KW,seval,L,A,Rn.cells]
   all_goals(try(refine ah (hM r.d6) ?_))
   all_goals try simp only[I,B,D,RX,↓KW,seval,A,Rn.cells]
   all_goals(refine ah (hI p ⟨r.limit,r.up,r.down⟩) ?_)
   all_goals try simp only[I,B,D,RX,↓KW,seval,L,A,Rn.cells]
   all_goals(refine p9 rfl ?_)
   all_goals try simp only[I,B,D,RX,↓KW,seval,L,A,Rn.cells]
   all_goals(first|(show AV.cU _=AV.cU _;simp[d5,cV,bM,bw,Rn.cells,M,O,L, *];done)|(rcases bc r.done with V|V<;>try simp only[I,B,D,RX,↓KW,seval,V,A,Rn.cells]))
   all_goals(first|(show AV.cU _=AV.cU _;simp[d5,cV,bM,bw,Rn.cells,M,O,L, *];done)|(rcases bc (decide (bh r.time>=p.min))with ht|ht<;>try simp only[I,B,D,RX,↓KW,seval,ht,A,Rn.cells]))
   all_goals(first|(show AV.cU _=AV.cU _;simp[d5,cV,bM,bw,Rn.cells,M,O,L, *];done)|(refine ah (hS a b) ?_))
   all_goals try simp only[I,B,D,RX,↓KW,seval,A,Rn.cells]
   all_goals(first|(show AV.cU _=AV.cU _;simp[d5,cV,bM,bw,Rn.cells,M,O,L, *];done)|(rcases bc (eo a)with R|R<;>try simp only[I,B,D,RX,↓KW,seval,R,A,Rn.cells]))
   all_goals(first|(show AV.cU _=AV.cU _;simp[d5,cV,bM,bw,Rn.cells,M,O,L, *];done)|(rcases bc (Mw p r.left c.here==0)with hl|hl<;>try simp only[I,B,D,RX,↓KW,seval,hl,A,Rn.cells]))
   all_goals(first|(show AV.cU _=AV.cU _;simp[d5,cV,bM,bw,Rn.cells,M,O,L, *];done)|(rcases bc (decide (bh r.d6>=Af p r.limit))with aa|aa<;>try simp only[I,B,D,RX,↓KW,seval,aa,A,Rn.cells]))
   all_goals(first|(show AV.cU _=AV.cU _;simp[d5,cV,bM,bw,Rn.cells,M,O,L, *];done)|(rcases bc c.early with he|he<;>try simp only[I,B,D,RX,↓KW,seval,he,A,Rn.cells]))
   all_goals(first|(show AV.cU _=AV.cU _;simp[d5,cV,bM,bw,Rn.cells,M,O,L, *];done)|skip)
  ·try simp only[I,B,D,RX,↓KW,seval,k1,k2,A,Rn.cells]
   refine ah (ab _ k3 j3) ?_;try simp only[I,B,D,RX,↓KW,seval,A,Rn.cells]
   refine ah (hS r.fst r.bu) ?_;try simp only[I,B,D,RX,↓KW,seval,A,Rn.cells]
   rcases bc (eo r.fst)with O|O
   all_goals try simp only[I,B,D,RX,↓KW,seval,O,A,Rn.cells]
   rcases bc (a==1)with ha|ha
   all_goals try simp only[I,B,D,RX,↓KW,seval,ha,A,Rn.cells]
   all_goals(refine ah (hL p r.left c.here) ?_)
   all_goals try simp only[I,B,D,RX,↓KW,seval,A,Rn.cells]
   all_goals rcases bc c.bI with L|L
   all_goals try simp only[I,B,D,RX,↓KW,seval,L,A,Rn.cells]
   all_goals(try(refine ah (hM r.d6) ?_))
   all_goals try simp only[I,B,D,RX,↓KW,seval,A,Rn.cells]
   all_goals(refine ah (hI p ⟨r.limit,r.up,r.down⟩) ?_)
   all_goals try simp only[I,B,D,RX,↓KW,seval,L,A,Rn.cells]
   all_goals(refine p9 rfl ?_)
   all_goals try simp only[I,B,D,RX,↓KW,seval,L,A,Rn.cells]
   all_goals(first|(show AV.cU _=AV.cU _;simp[d5,cV,bM,bw,Rn.cells,M,O,L, *];done)|(rcases bc r.done with V|V<;>try simp only[I,B,D,RX,↓KW,seval,V,A,Rn.cells]))
   all_goals(first|(show AV.cU _=AV.cU _;simp[d5,cV,bM,bw,Rn.cells,M,O,L, *];done)|(rcases bc (decide (bh r.time>=p.min))with ht|ht<;>try simp only[I,B,D,RX,↓KW,seval,ht,A,Rn.cells]))
   all_goals(first|(show AV.cU _=AV.cU _;simp[d5,cV,bM,bw,Rn.cells,M,O,L, *];done)|(refine ah (hS a b) ?_))
   all_goals try simp only[I,B,D,RX,↓KW,seval,A,Rn.cells]
   all_goals(first|(show AV.cU _=AV.cU _;simp[d5,cV,bM,bw,Rn.cells,M,O,L, *];done)|(rcases bc (eo a)with R|R<;>try simp only[I,B,D,RX,↓KW,seval,R,A,Rn.cells]))
   all_goals(first|(show AV.cU _=AV.cU _;simp[d5,cV,bM,bw,Rn.cells,M,O,L, *];done)|(rcases bc (Mw p r.left c.here==0)with hl|hl<;>try simp only[I,B,D,RX,↓KW,seval,hl,A,Rn.cells]))
   all_goals(first|(show AV.cU _=AV.cU _;simp[d5,cV,bM,bw,Rn.cells,M,O,L, *];done)|(rcases bc (decide (bh r.d6>=Af p r.limit))with aa|aa<;>try simp only[I,B,D,RX,↓KW,seval,aa,A,Rn.cells]))
   all_goals(first|(show AV.cU _=AV.cU _;simp[d5,cV,bM,bw,Rn.cells,M,O,L, *];done)|(rcases bc c.early with he|he<;>try simp only[I,B,D,RX,↓KW,seval,he,A,Rn.cells]))
   all_goals(first|(show AV.cU _=AV.cU _;simp[d5,cV,bM,bw,Rn.cells,M,O,L, *];done)|skip)
  ·try simp only[I,B,D,RX,↓KW,seval,k1,k2,A,Rn.cells]
   refine ah (ab _ k3 j3) ?_;try simp only[I,B,D,RX,↓KW,seval,A,Rn.cells]
   refine ah (hS r.fst r.bu) ?_;try simp only[I,B,D,RX,↓KW,seval,A,Rn.cells]
   rcases bc (eo r.fst)with O|O
   all_goals try simp only[I,B,D,RX,↓KW,seval,O,A,Rn.cells]
   rcases bc (a==1)with ha|ha
   all_goals try simp only[I,B,D,RX,↓KW,seval,ha,A,Rn.cells]
   all_goals(refine ah (hL p r.left c.here) ?_)
   all_goals try simp only[I,B,D,RX,↓KW,seval,A,Rn.cells]
   all_goals rcases bc c.bI with L|L
   all_goals try simp only[I,B,D,RX,↓KW,seval,L,A,Rn.cells]
   all_goals(try(refine ah (hM r.d6) ?_))
   all_goals try simp only[I,B,D,RX,↓KW,seval,A,Rn.cells]
   all_goals(refine ah (hI p ⟨r.limit,r.up,r.down⟩) ?_)
   all_goals try simp only[I,B,D,RX,↓KW,seval,L,A,Rn.cells]
   all_goals(refine p9 rfl ?_)
   all_goals try simp only[I,B,D,RX,↓KW,seval,L,A,Rn.cells]
   all_goals(first|(show AV.cU _=AV.cU _;simp[d5,cV,bM,bw,Rn.cells,M,O,L, *];done)|(rcases bc r.done with V|V<;>try simp only[I,B,D,RX,↓KW,seval,V,A,Rn.cells]))
   all_goals(first|(show AV.cU _=AV.cU _;simp[d5,cV,bM,bw,Rn.cells,M,O,L, *];done)|(rcases bc (decide (bh r.time>=p.min))with ht|ht<;>try simp only[I,B,D,RX,↓KW,seval,ht,A,Rn.cells]))
   all_goals(first|(show AV.cU _=AV.cU _;simp[d5,cV,bM,bw,Rn.cells,M,O,L, *];done)|(refine ah (hS a b) ?_))
   all_goals try simp only[I,B,D,RX,↓KW,seval,A,Rn.cells]
   all_goals(first|(show AV.cU _=AV.cU _;simp[d5,cV,bM,bw,Rn.cells,M,O,L, *];done)|(rcases bc (eo a)with R|R<;>try simp only[I,B,D,RX,↓KW,seval,R,A,Rn.cells]))
   all_goals(first|(show AV.cU _=AV.cU _;simp[d5,cV,bM,bw,Rn.cells,M,O,L, *];done)|(rcases bc (Mw p r.left c.here==0)with hl|hl<;>try simp only[I,B,D,RX,↓KW,seval,hl,A,Rn.cells]))
   all_goals(first|(show AV.cU _=AV.cU _;simp[d5,cV,bM,bw,Rn.cells,M,O,L, *];done)|(rcases bc (decide (bh r.d6>=Af p r.limit))with aa|aa<;>try simp only[I,B,D,RX,↓KW,seval,aa,A,Rn.cells]))
   all_goals(first|(show AV.cU _=AV.cU _;simp[d5,cV,bM,bw,Rn.cells,M,O,L, *];done)|(rcases bc c.early with he|he<;>try simp only[I,B,D,RX,↓KW,seval,he,A,Rn.cells]))
   all_goals(first|(show AV.cU _=AV.cU _;simp[d5,cV,bM,bw,Rn.cells,M,O,L, *];done)|skip)
 ·try simp only[I,B,D,RX,↓KW,seval,j1,j2,A,Rn.cells]
  try simp only[I,B,D,RX,↓KW,seval,j1,j2,A,Rn.cells]
  rcases K with⟨k1,k3⟩|⟨k1,k2,k3⟩|⟨k1,k2,k3⟩
  ·try simp only[I,B,D,RX,↓KW,seval,k1,A,Rn.cells]
   refine ah (ab _ k3 j3) ?_;try simp only[I,B,D,RX,↓KW,seval,A,Rn.cells]
   refine ah (hS r.fst r.bu) ?_;try simp only[I,B,D,RX,↓KW,seval,A,Rn.cells]
   rcases bc (eo r.fst)with O|O
   all_goals try simp only[I,B,D,RX,↓KW,seval,O,A,Rn.cells]
   rcases bc (a==1)with ha|ha
   all_goals try simp only[I,B,D,RX,↓KW,seval,ha,A,Rn.cells]
   all_goals(refine ah (hL p r.left c.here) ?_)
   all_goals try simp only[I,B,D,RX,↓KW,seval,A,Rn.cells]
   all_goals rcases bc c.bI with L|L
   all_goals try simp only[I,B,D,RX,↓KW,seval,L,A,Rn.cells]
   all_goals(try(refine ah (hM r.d6) ?_))
   all_goals try simp only[I,B,D,RX,↓KW,seval,A,Rn.cells]
   all_goals(refine ah (hI p ⟨r.limit,r.up,r.down⟩) ?_)
   all_goals try simp only[I,B,D,RX,↓KW,seval,L,A,Rn.cells]
   all_goals(refine p9 rfl ?_)
   all_goals try simp only[I,B,D,RX,↓KW,seval,L,A,Rn.cells]
   all_goals(first|(show AV.cU _=AV.cU _;simp[d5,cV,bM,bw,Rn.cells,M,O,L, *];done)|(rcases bc r.done with V|V<;>try simp only[I,B,D,RX,↓KW,seval,V,A,Rn.cells]))
   all_goals(first|(show AV.cU _=AV.cU _;simp[d5,cV,bM,bw,Rn.cells,M,O,L, *];done)|(rcases bc (decide (bh r.time>=p.min))with ht|ht<;>try simp only[I,B,D,RX,↓KW,seval,ht,A,Rn.cells]))
   all_goals(first|(show AV.cU _=AV.cU _;simp[d5,cV,bM,bw,Rn.cells,M,O,L, *];done)|(refine ah (hS a b) ?_))
   all_goals try simp only[I,B,D,RX,↓KW,seval,A,Rn.cells]
   all_goals(first|(show AV.cU _=AV.cU _;simp[d5,cV,bM,bw,Rn.cells,M,O,L, *];done)|(rcases bc (eo a)with R|R<;>try simp only[I,B,D,RX,↓KW,seval,R,A,Rn.cells]))
   all_goals(first|(show AV.cU _=AV.cU _;simp[d5,cV,bM,bw,Rn.cells,M,O,L, *];done)|(rcases bc (Mw p r.left c.here==0)with hl|hl<;>try simp only[I,B,D,RX,↓KW,seval,hl,A,Rn.cells]))
   all_goals(first|(show AV.cU _=AV.cU _;simp[d5,cV,bM,bw,Rn.cells,M,O,L, *];done)|(rcases bc (decide (bh r.d6>=Af p r.limit))with aa|aa<;>try simp only[I,B,D,RX,↓KW,seval,aa,A,Rn.cells]))
   all_goals(first|(show AV.cU _=AV.cU _;simp[d5,cV,bM,bw,Rn.cells,M,O,L, *];done)|(rcases bc c.early with he|he<;>try simp only[I,B,D,RX,↓KW,seval,he,A,Rn.cells]))
   all_goals(first|(show AV.cU _=AV.cU _;simp[d5,cV,bM,bw,Rn.cells,M,O,L, *];done)|skip)
  ·try simp only[I,B,D,RX,↓KW,seval,k1,k2,A,Rn.cells]
   refine ah (ab _ k3 j3) ?_;try simp only[I,B,D,RX,↓KW,seval,A,Rn.cells]
   refine ah (hS r.fst r.bu) ?_;try simp only[I,B,D,RX,↓KW,seval,A,Rn.cells]
   rcases bc (eo r.fst)with O|O
   all_goals try simp only[I,B,D,RX,↓KW,seval,O,A,Rn.cells]
   rcases bc (a==1)with ha|ha
   all_goals try simp only[I,B,D,RX,↓KW,seval,ha,A,Rn.cells]
   all_goals(refine ah (hL p r.left c.here) ?_)
   all_goals try simp only[I,B,D,RX,↓KW,seval,A,Rn.cells]
   all_goals rcases bc c.bI with L|L
   all_goals try simp only[I,B,D,RX,↓KW,seval,L,A,Rn.cells]
   all_goals(try(refine ah (hM r.d6) ?_))
   all_goals try simp only[I,B,D,RX,↓KW,seval,A,Rn.cells]
   all_goals(refine ah (hI p ⟨r.limit,r.up,r.down⟩) ?_)
   all_goals try simp only[I,B,D,RX,↓KW,seval,L,A,Rn.cells]
   all_goals(refine p9 rfl ?_)
   all_goals try simp only[I,B,D,RX,↓KW,seval,L,A,Rn.cells]
   all_goals(first|(show AV.cU _=AV.cU _;simp[d5,cV,bM,bw,Rn.cells,M,O,L, *];done)|(rcases bc r.done with V|V<;>try simp only[I,B,D,RX,↓KW,seval,V,A,Rn.cells]))
   all_goals(first|(show AV.cU _=AV.cU _;simp[d5,cV,bM,bw,Rn.cells,M,O,L, *];done)|(rcases bc (decide (bh r.time>=p.min))with ht|ht<;>try simp only[I,B,D,RX,↓KW,seval,ht,A,Rn.cells]))
   all_goals(first|(show AV.cU _=AV.cU _;simp[d5,cV,bM,bw,Rn.cells,M,O,L, *];done)|(refine ah (hS a b) ?_))
   all_goals try simp only[I,B,D,RX,↓KW,seval,A,Rn.cells]
   all_goals(first|(show AV.cU _=AV.cU _;simp[d5,cV,bM,bw,Rn.cells,M,O,L, *];done)|(rcases bc (eo a)with R|R<;>try simp only[I,B,D,RX,↓KW,seval,R,A,Rn.cells]))
   all_goals(first|(show AV.cU _=AV.cU _;simp[d5,cV,bM,bw,Rn.cells,M,O,L, *];done)|(rcases bc (Mw p r.left c.here==0)with hl|hl<;>try simp only[I,B,D,RX,↓KW,seval,hl,A,Rn.cells]))
   all_goals(first|(show AV.cU _=AV.cU _;simp[d5,cV,bM,bw,Rn.cells,M,O,L, *];done)|(rcases bc (decide (bh r.d6>=Af p r.limit))with aa|aa<;>try simp only[I,B,D,RX,↓KW,seval,aa,A,Rn.cells]))
   all_goals(first|(show AV.cU _=AV.cU _;simp[d5,cV,bM,bw,Rn.cells,M,O,L, *];done)|(rcases bc c.early with he|he<;>try simp only[I,B,D,RX,↓KW,seval,he,A,Rn.cells]))
   all_goals(first|(show AV.cU _=AV.cU _;simp[d5,cV,bM,bw,Rn.cells,M,O,L, *];done)|skip)
  ·try simp only[I,B,D,RX,↓KW,seval,k1,k2,A,Rn.cells]
   refine ah (ab _ k3 j3) ?_;try simp only[I,B,D,RX,↓KW,seval,A,Rn.cells]
   refine ah (hS r.fst r.bu) ?_;try simp only[I,B,D,RX,↓KW,seval,A,Rn.cells]
   rcases bc (eo r.fst)with O|O
   all_goals try simp only[I,B,D,RX,↓KW,seval,O,A,Rn.cells]
   rcases bc (a==1)with ha|ha
   all_goals try simp only[I,B,D,RX,↓KW,seval,ha,A,Rn.cells]
   all_goals(refine ah (hL p r.left c.here) ?_)
   all_goals try simp only[I,B,D,RX,↓KW,seval,A,Rn.cells]
   all_goals rcases bc c.bI with L|L
   all_goals try simp only[I,B,D,RX,↓KW,seval,L,A,Rn.cells]
   all_goals(try(refine ah (hM r.d6) ?_))
   all_goals try simp only[I,B,D,RX,↓KW,seval,A,Rn.cells]
   all_goals(refine ah (hI p ⟨r.limit,r.up,r.down⟩) ?_)
   all_goals try simp only[I,B,D,RX,↓KW,seval,L,A,Rn.cells]
   all_goals(refine p9 rfl ?_)
   all_goals try simp only[I,B,D,RX,↓KW,seval,L,A,Rn.cells]
   all_goals(first|(show AV.cU _=AV.cU _;simp[d5,cV,bM,bw,Rn.cells,M,O,L, *];done)|(rcases bc r.done with V|V<;>try simp only[I,B,D,RX,↓KW,seval,V,A,Rn.cells]))
   all_goals(first|(show AV.cU _=AV.cU _;simp[d5,cV,bM,bw,Rn.cells,M,O,L, *];done)|(rcases bc (decide (bh r.time>=p.min))with ht|ht<;>try simp only[I,B,D,RX,↓KW,seval,ht,A,Rn.cells]))
   all_goals(first|(show AV.cU _=AV.cU _;simp[d5,cV,bM,bw,Rn.cells,M,O,L, *];done)|(refine ah (hS a b) ?_))
   all_goals try simp only[I,B,D,RX,↓KW,seval,A,Rn.cells]
   all_goals(first|(show AV.cU _=AV.cU _;simp[d5,cV,bM,bw,Rn.cells,M,O,L, *];done)|(rcases bc (eo a)with R|R<;>try simp only[I,B,D,RX,↓KW,seval,R,A,Rn.cells]))
   all_goals(first|(show AV.cU _=AV.cU _;simp[d5,cV,bM,bw,Rn.cells,M,O,L, *];done)|(rcases bc (Mw p r.left c.here==0)with hl|hl<;>try simp only[I,B,D,RX,↓KW,seval,hl,A,Rn.cells]))
   all_goals(first|(show AV.cU _=AV.cU _;simp[d5,cV,bM,bw,Rn.cells,M,O,L, *];done)|(rcases bc (decide (bh r.d6>=Af p r.limit))with aa|aa<;>try simp only[I,B,D,RX,↓KW,seval,aa,A,Rn.cells]))
   all_goals(first|(show AV.cU _=AV.cU _;simp[d5,cV,bM,bw,Rn.cells,M,O,L, *];done)|(rcases bc c.early with he|he<;>try simp only[I,B,D,RX,↓KW,seval,he,A,Rn.cells]))
   all_goals(first|(show AV.cU _=AV.cU _;simp[d5,cV,bM,bw,Rn.cells,M,O,L, *];done)|skip)
 ·try simp only[I,B,D,RX,↓KW,seval,j1,j2,A,Rn.cells]
  ·try simp only[I,B,D,RX,↓KW,seval,j1,j2,A,Rn.cells]
   refine ah (ac j1 j2) ?_;try simp only[I,B,D,RX,↓KW,seval,A,Rn.cells]
   refine ah (hS r.fst r.bu) ?_;try simp only[I,B,D,RX,↓KW,seval,A,Rn.cells]
   rcases bc (eo r.fst)with O|O
   all_goals try simp only[I,B,D,RX,↓KW,seval,O,A,Rn.cells]
   rcases bc (a==1)with ha|ha
   all_goals try simp only[I,B,D,RX,↓KW,seval,ha,A,Rn.cells]
   all_goals(refine ah (hL p r.left c.here) ?_)
   all_goals try simp only[I,B,D,RX,↓KW,seval,A,Rn.cells]
   all_goals rcases bc c.bI with L|L
   all_goals try simp only[I,B,D,RX,↓KW,seval,L,A,Rn.cells]
   all_goals(try(refine ah (hM r.d6) ?_))
   all_goals try simp only[I,B,D,RX,↓KW,seval,A,Rn.cells]
   all_goals(refine ah (hI p ⟨r.limit,r.up,r.down⟩) ?_)
   all_goals try simp only[I,B,D,RX,↓KW,seval,L,A,Rn.cells]
   all_goals(refine p9 rfl ?_)
   all_goals try simp only[I,B,D,RX,↓KW,seval,L,A,Rn.cells]
   all_goals(first|(show AV.cU _=AV.cU _;simp[d5,cV,bM,bw,Rn.cells,M,O,L, *];done)|(rcases bc r.done with V|V<;>try simp only[I,B,D,RX,↓KW,seval,V,A,Rn.cells]))
   all_goals(first|(show AV.cU _=AV.cU _;simp[d5,cV,bM,bw,Rn.cells,M,O,L, *];done)|(rcases bc (decide (bh r.time>=p.min))with ht|ht<;>try simp only[I,B,D,RX,↓KW,seval,ht,A,Rn.cells]))
   all_goals(first|(show AV.cU _=AV.cU _;simp[d5,cV,bM,bw,Rn.cells,M,O,L, *];done)|(refine ah (hS a b) ?_))
   all_goals try simp only[I,B,D,RX,↓KW,seval,A,Rn.cells]
   all_goals(first|(show AV.cU _=AV.cU _;simp[d5,cV,bM,bw,Rn.cells,M,O,L, *];done)|(rcases bc (eo a)with R|R<;>try simp only[I,B,D,RX,↓KW,seval,R,A,Rn.cells]))
   all_goals(first|(show AV.cU _=AV.cU _;simp[d5,cV,bM,bw,Rn.cells,M,O,L, *];done)|(rcases bc (Mw p r.left c.here==0)with hl|hl<;>try simp only[I,B,D,RX,↓KW,seval,hl,A,Rn.cells]))
   all_goals(first|(show AV.cU _=AV.cU _;simp[d5,cV,bM,bw,Rn.cells,M,O,L, *];done)|(rcases bc (decide (bh r.d6>=Af p r.limit))with aa|aa<;>try simp only[I,B,D,RX,↓KW,seval,aa,A,Rn.cells]))
   all_goals(first|(show AV.cU _=AV.cU _;simp[d5,cV,bM,bw,Rn.cells,M,O,L, *];done)|(rcases bc c.early with he|he<;>try simp only[I,B,D,RX,↓KW,seval,he,A,Rn.cells]))
   all_goals(first|(show AV.cU _=AV.cU _;simp[d5,cV,bM,bw,Rn.cells,M,O,L, *];done)|skip)
end
section
variable{P:Program} (hm:P.follows .mixedOrders=true) {f:Nat}
include hm
theorem xq.ok{fA fG fO fM fI:Nat} (hc:bY P f=some (lI fA fG fO fM fI)) (hA:G8.Spec (Pure P) fA) (hG:G7.Spec (Pure P) fG) (hO:yz.Spec (Pure P) fO) (hM:lf.Spec (Pure P) fM) (hI:vw.Spec (Pure P) fI):xq.Spec (Pure P) f:=by
 intro p r c
 have V:=vz p r c
 have t3:=B7 p r c
 have t4:=IQ p r c
 have R:=hO p r c
 obtain⟨g,O⟩:∃g,d5 p r c=g:=⟨_,rfl⟩
 obtain⟨d,hd⟩:∃d,cV p g c=d:=⟨_,rfl⟩
 rw[O,hd]at R;refine aq hm hc [] rfl ?_;try simp only[B,RX,↓KW,seval,lI,Z.H,t4,bL]
 rcases bc c.fin with D|D
 ·try simp only[RX,↓KW,seval,D,V]
  refine ah R ?_;try simp only[I,B,RX,↓KW,seval,Rn.cells]
  rcases bc d with A|A
  ·try simp only[RX,↓KW,seval,A]
   simp[eV,D,O,hd,A]
  ·try simp only[B,RX,↓KW,seval,A,t4]
   rcases bc c.hold with L|L
   ·try simp only[RX,↓KW,seval,L]
    rcases bc (decide (g.left>0))with M|M
    ·try simp only[RX,↓KW,seval,M]
     simp[eV,D,O,hd,A,L,M]
    ·try simp only[RX,↓KW,seval,M,V]
     refine ah (hI p ⟨g.limit,g.up,g.down⟩) ?_;try simp only[I,RX,↓KW,seval]
     simp[eV,D,O,hd,A,L,M,bM]
   ·try simp only[RX,↓KW,seval,L]
    refine ah (hM g.extra) ?_;try simp only[I,RX,↓KW,seval]
    simp[eV,D,O,hd,A,L]
 ·try simp only[RX,↓KW,seval,D,V]
  refine ah (hA p r c _ _) ?_;try simp only[I,B,RX,↓KW,seval,t3,Rn.cells,mU]
  rcases bc r.done with A|A
  ·try simp only[RX,↓KW,seval,A]
   simp[eV,D,A,mU]
  ·try simp only[B,RX,↓KW,seval,A,V,t3]
   refine ah (hG p ⟨r.limit,r.up,r.down⟩ r.jB) ?_;try simp only[I,RX,↓KW,seval,Tr.cells]
   simp[eV,D,A,mU]
theorem B6.ok{R:Nat} (hc:bY P f=some (uy R)) (hO:yz.Spec (Pure P) R):B6.Spec (Pure P) f:=by
 intro p r c
 have qp:aH p.cells 0 (some 13)=some (.agg p.cells):=rfl
 have qr:aH r.cells 0 (some 12)=some (.agg r.cells)/\r.cells[0]? =some (I r.ay):=⟨rfl,rfl⟩
 have O:aH c.cells 0 (some 8)=some (.agg c.cells)/\c.cells[1]? =some (B c.fin)/\c.cells[5]? =some (B c.hold):=⟨rfl,rfl,rfl⟩
 have M:=hO p r c
 obtain⟨g,V⟩:∃g,d5 p r c=g:=⟨_,rfl⟩
 obtain⟨d,hd⟩:∃d,cV p g c=d:=⟨_,rfl⟩
 rw[V,hd]at M
 have b1:∀ps,t9 0 13 (some (.agg p.cells)) (some ps)=some ((0,p.cells)::ps):=λ_=>rfl
 have b2:∀ps,t9 13 12 (some (.agg r.cells)) (some ps)=some ((13,r.cells)::ps):=λ_=>rfl
 have b3:∀ps,t9 25 8 (some (.agg c.cells)) (some ps)=some ((25,c.cells)::ps):=λ_=>rfl
 have b4:m7 j0 [(0,p.cells),(13,r.cells),(25,c.cells)]=d7 p r c:=rfl
 refine aq hm hc [] rfl ?_;try simp only[I,B,RX,↓KW,seval,uy,Z.H,qr]
 rcases bc (r.ay !=1)with A|A
 ·try simp only[B,RX,↓KW,seval,A,O]
  rcases bc c.fin with D|D
  ·try simp only[B,RX,↓KW,seval,D,O]
   rcases bc c.hold with L|L
   ·try simp only[RX,↓KW,seval,L]
    simp[vv,A,D,L]
   ·try simp only[RX,↓KW,seval,L,qp,qr,O,b1,b2,b3,b4]
    refine ah M ?_;try simp only[I,B,RX,↓KW,seval,Rn.cells,bL]
    simp[vv,A,D,L,V,hd]
  ·try simp only[RX,↓KW,seval,D]
   simp[vv,A,D]
 ·try simp only[RX,↓KW,seval,A]
  simp[vv,A]
theorem B5.ok{fR V fY fC:Nat} (hc:bY P f=some (uz fR V fY fC)) (hR:G9.Spec (Pure P) fR) (hG:xq.Spec (Pure P) V) (hY:sS.Spec (Pure P) fY) (hC:sU.Spec (Pure P) fC):B5.Spec (Pure P) f:=by
 intro p r c
 have qp:aH p.cells 0 (some 13)=some (.agg p.cells):=rfl
 have qr:aH r.cells 0 (some 12)=some (.agg r.cells)/\r.cells[0]? =some (I r.ay):=⟨rfl,rfl⟩
 have qc:aH c.cells 0 (some 8)=some (.agg c.cells)/\c.cells[1]? =some (B c.fin)/\c.cells[5]? =some (B c.hold):=⟨rfl,rfl,rfl⟩
 have O:=vz p r c
 have b1:∀ps,t9 0 13 (some (.agg p.cells)) (some ps)=some ((0,p.cells)::ps):=λ_=>rfl
 have b2:∀ps,t9 13 12 (some (.agg r.cells)) (some ps)=some ((13,r.cells)::ps):=λ_=>rfl
 have b3:∀ps,t9 25 8 (some (.agg c.cells)) (some ps)=some ((25,c.cells)::ps):=λ_=>rfl
 have b4:m7 j0 [(0,p.cells),(13,r.cells),(25,c.cells)]=d7 p r c:=rfl
 have b5:setCells j0 0 (d7 p r c)=d7 p r c:=rfl
 have b6:j0.length=33:=rfl
 have M:∀x:Rn,setCells bL 0 x.cells=x.cells/\x.cells.length=12/\aH x.cells 0 (some 12)=some (.agg x.cells):=λ_=>⟨rfl,rfl,rfl⟩
 have R:bL.length=12:=rfl
 refine aq hm hc [] rfl ?_;try simp only[I,RY,↓KW,seval,uz,Z.H,qp,qr,qc,O,b1,b2,b3,b4,b5,b6]
 rcases bc (r.ay==1)with A|A
 ·try simp only[RY,↓KW,seval,A]
  rcases bc (r.ay==2)with D|D
  ·try simp only[RY,↓KW,seval,D]
   rcases bc (r.ay==3)with L|L
   ·try simp only[RY,↓KW,seval,L]
    refine⟨rfl,ah (hR p r c) ?_⟩;try simp only[RY,seval,M,R]
    simp[aL,A,D,L]
   ·try simp only[RY,↓KW,seval,L,O]
    refine⟨rfl,rfl,ah (hC p r c) ?_⟩;try simp only[RY,seval,M,R]
    simp[aL,A,D,L]
  ·try simp only[RY,↓KW,seval,D,O]
   refine⟨rfl,rfl,ah (hY p r c) ?_⟩;try simp only[RY,seval,M,R]
   simp[aL,A,D]
 ·try simp only[RY,↓KW,seval,A,O]
  refine⟨rfl,rfl,ah (hG p r c) ?_⟩;try simp only[RY,seval,M,R]
  simp[aL,A]
end
def HP(t:Tb) (r:d4) (l:List Rn) (want:Int):d4:=
 if(List.range 8).all (λp=>bD (aP l p))then⟨if Kr t r.group want>=0 then Kr t r.group want else r.group,-1,-1,false⟩else r
def xu.Spec(C:bk) (f:Nat):Prop:=∀(t:Tb) (r:d4) (l:List Rn) (want:Int),t.Ok->l.length=8->C.c f [.agg t.cells,.agg r.cells,.agg (cE l),I want] (.agg (HP t r l want).cells) none
section
variable{P:Program} (hm:P.follows .mixedOrders=true) {f:Nat}
include hm
theorem xu.ok{fR fF:Nat} (hc:bY P f=some (qJ fR fF)) (hR:BY.Spec (Pure P) fR) (hF:G2.Spec (Pure P) fF):xu.Spec (Pure P) f:=by
 intro t r l want ht hl
 have hw:=gl hl
 have ak:=c7 hl
 have ad:=Tb.len ht
 have hp:=Tb.whole ht
 have hr:r.cells.length=4/\aH r.cells 0 (some 4)=some (.agg r.cells)/\r.cells[0]? =some (I r.group):=⟨rfl,rfl,rfl⟩
 have ae:∀n:Int,setCells r.cells 0 [I n]=(⟨n,r.a0,r.a1,r.dF⟩:d4).cells:=λ_=>rfl
 have ab:∀n:Int,(⟨n,r.a0,r.a1,r.dF⟩:d4).cells[0]? =some (I n):=λ_=>rfl
 have ql:bL.length=12:=rfl
 have aa:∀x:d4,x.cells.length=4/\aH x.cells 0 (some 4)=some (.agg x.cells):=λ_=>⟨rfl,rfl⟩
 have ag:∀x:d4,setCells [.int .i64 0,.int .i64 0,.int .i64 0,.bool false] 0 x.cells=x.cells:=λ_=>rfl
 have L:=cG hw (cG ak (cG ad (cG hp (cG hr (cG ae (cG ab (cG ql (cG ag (aa)))))))))
 refine aq hm hc [] rfl ?_;try simp only[I,B,D,RY,↓KW,seval,qJ,Z.H,L]
 refine aN (λk:Nat=>(⟨[(13,.dat (I k) none),(12,.dat (.agg (cE l)) none),(5,.ptr 5 0),(8,.ptr 7 0),(4,.ptr 4 0),(3,.dat (I want) none)],[(4,⟨t.cells,[]⟩),(5,⟨r.cells,[]⟩),(7,⟨[.int .i64 0,.int .i64 0,.int .i64 0,.bool false],[]⟩)],[],400⟩:S)) (λk=>8-k) (λk=>k<=8/\∀q,q<k->bD (aP l q)=true) ?_ 0 ⟨ST,ST⟩ ?_
 ·rintro k ⟨hk,O⟩ A back
  have al:=aG (k:=k) ST
  try simp only[I,B,D,RY,↓KW,seval]
  rcases bc (decide ((k:Int)<8))with h|h
  ·have:k=8:=by have:=dC h;omega
   subst this
   have V:(List.range 8).all (λp=>bD (aP l p))=true:=mf.2 λq hq=>O q (ib.1 hq)
   try simp only[I,B,D,RY,↓KW,seval,h,L]
   refine ah (hF t r.group want ht) ?_;try simp only[I,B,D,RY,↓KW,seval,L]
   have R:∀n:Int,m7 [.int .i64 0,.int .i64 0,.int .i64 0,.bool false] [(0,[I n]),(1,[I (-1),I (-1)])]=(⟨n,-1,-1,false⟩:d4).cells:=λ_=>rfl
   rcases bc (decide (0<=Kr t r.group want))with M|M
   ·have h3:=dC M
    try simp only[I,B,D,RY,↓KW,seval,M,L,R]
    simp[HP,V,h3]
   ·have h3:=dE M
    try simp only[I,B,D,RY,↓KW,seval,M,L,R]
    simp[HP,V,h3]
  ·have h8:k<8:=by have:=dE h;omega
   have ac:aH (cE l) (k*12) (some 12)=some (.agg (aP l k).cells):=jm hl h8
   have hy:0<=(k:Int)/\(k:Int)<8:=ST
   have qz:setCells bL 0 (aP l k).cells=(aP l k).cells:=rfl
   have qw:aH (aP l k).cells 0 (some 12)=some (.agg (aP l k).cells):=rfl
   try simp only[I,B,D,RY,↓KW,seval,h,hy,ac,qz,qw,Rn.len,L]
   refine ah (hR (aP l k)) ?_;try simp only[I,B,D,RY,↓KW,seval,L]
   rcases bc (bD (aP l k))with M|M
   ·have V:(List.range 8).all (λp=>bD (aP l p))=false:=List.all_eq_false.2 ⟨k,ib.2 h8,by simp[M]⟩
    try simp only[I,B,D,RY,↓KW,seval,M,L,ma]
    simp[HP,V]
   ·try simp only[I,B,D,RY,↓KW,seval,M,L,nd]
    refine back (k+1) _ ⟨ST,λq hq=>?_⟩ ST ?_
    ·by_cases e:q=k
     ·rw[e];exact M
     ·exact O q ST
    ·refine ai Ts ?_ ?_ ?_ ?_<;>simp[LX,I,B,D,al]
 ·refine ai Ts ?_ ?_ ?_ ?_<;>simp[LX,I,B,D]
end
def kO(l:List Rn) (now next:Int) (mv:Bool):Bool:=decide (next<0)&&(!mv||(ej (aP l now.toNat)&&(aP l now.toNat).done))
def B8.Spec(C:bk) (f:Nat):Prop:=∀(l:List Rn) (now next:Int) (mv:Bool),l.length=8->(mv=true->0<=now/\now<8)->C.c f [.agg [I now,I next,B mv],.agg (cE l)] (B (kO l now next mv)) none
section
variable{P:Program} (hm:P.follows .mixedOrders=true) {f:Nat}
include hm
theorem B8.ok(hc:bY P f=some lH):B8.Spec (Pure P) f:=by
 intro l now next mv hl ac
 have M:=gl hl
 have A:=c7 hl
 refine aq hm hc [] rfl ?_;try simp only[I,B,D,RY,↓KW,seval,lH,Z.H,M,A]
 rcases bc (decide (next<0))with R|R
 ·try simp only[I,B,D,RY,↓KW,seval,R,M,A]
  simp only[kO,R,md]
 ·try simp only[I,B,D,RY,↓KW,seval,R,M,A]
  rcases bc mv with O|O
  ·try simp only[I,B,D,RY,↓KW,seval,O,M,A,ma]
   simp only[kO,R,O,ma,wi,wn]
  ·obtain⟨ha,hb⟩:=ac O
   obtain⟨k,rfl⟩:∃k:Nat,now=k:=⟨now.toNat,ST⟩
   have h8:k<8:=ST
   have aa:aH (cE l) (k*12) (some 12)=some (.agg (aP l k).cells):=jm hl h8
   have ab:(cE l)[k*12]? =some (I (aP l k).ay):=by have:=j8 aa (j:=0) ST;rw[py]at this;rw[this];rfl
   have L:(cE l)[k*12+7]? =some (B (aP l k).done):=by rw[j8 aa ST];rfl
   have hy:0<=(k:Int)/\(k:Int)<8:=ST
   have hg:((aP l k).ay==1)=ej (aP l k):=rfl
   try simp only[I,B,D,RY,↓KW,seval,O,M,A,nd,hy,ab,L]
   rw[hg]
   have hn:(k:Int).toNat=k:=rfl
   rcases bc (ej (aP l k))with V|V
   ·try simp only[I,B,D,RY,↓KW,seval,V,M,A,nd]
    simp only[kO,R,O,hn,V,nd,pv,md,nf]
   ·try simp only[I,B,D,RY,↓KW,seval,V,M,A,hy,L,nd]
    simp only[kO,R,O,hn,V,nd,pv,na]
end
section
variable (t:Tb) (r:d4) (l:List Rn) (want k:Int) (n:Nat) (x:d4×Int×Int)
def qT:Bool:=decide (jM t r k>=0)&& !bD (aP l (jM t r k).toNat)
def jN:Int:=Tp t r.group k (r.at k) want
def d4.put(x:Int):d4:=if k=0 then{r with a0:=x}else{r with a1:=x}
def B9:Bool:=
 (aP l (jM t r k).toNat).ay==1&&(((aP l (jM t r k).toNat).done&&decide (jN t r want k>=0))||(IM (aD t (jM t r k)) (aP l (jM t r k).toNat)&& !dP want (jM t r k)))
def kP:d4×Int×Int:=
 if qT t r l k then(if B9 t r l want k then(x.1,x.2.1,dr x.2.2 (jM t r k))else x)
 else if jN t r want k>=0 then(if gz t l (mM t r.group k (jN t r want k)).toNat then(x.1.put k (jN t r want k),dr x.2.1 (mM t r.group k (jN t r want k)),x.2.2)else x)else x
def dN:d4×Int×Int:=kP t r l want 1 (kP t r l want 0 (r,0,0))
def He(t:Tb) (r:d4) (l:List Rn) (want:Int):Nat->d4×Int×Int
 |0=>(r,0,0)
 |k+1=>kP t r l want k (He t r l want k)
def fu:Int:=HO λp=>ej (aP l p)
def fy:Bool:=kO l (jM t r k) (jN t r want k) (qT t r l k)
def CU:Bool:=
 qV .i64 x.2.1 x.2.2==0&&(fy t r l want 0&&(fy t r l want 1&&decide (qS (bg .i64 want (fu l))>=0)))
def vH:d4×Int×Int:=
 if r.dF then(HP t r l want,0,0)
 else if CU t r l want (dN t r l want)then({(dN t r l want).1 with dF:=true},(dN t r l want).2.1,fu l)else dN t r l want
theorem Sm{s p:Int} (h:dP s p=true):0<=p/\p<8:=by
 by_cases B:p<0\/8<=p
 ·have D:jc p=0:=by simp only[jc];rw[gc B]
  have A:dh .i64 s 0=0:=by
   have e:BitVec.ofInt IntKind.i64.bits 0=0#_:=rfl
   simp only[dh,e,BitVec.and_zero,BitVec.toNat_zero];decide
  rw[dP,D,A]at h;cases h
 ·omega
theorem IS{t:Tb} {r:d4} {k:Int}:jM t r k<8:=by
 unfold jM;split
 ·omega
 ·unfold mM;split
  ·omega
  ·split
   ·omega
   ·split<;>omega
theorem zJ{t:Tb} {r:d4} {k want:Int} (h:jN t r want k>=0) (hk:0<=k/\k<2):0<=mM t r.group k (jN t r want k)/\mM t r.group k (jN t r want k)<8:=by
 have e:jN t r want k=match(List.range ((fq t r.group k).getD []).length).find? (Mu t r.group k (r.at k) want)with
  |some i=>(i:Int)
  |none=>-1:=rfl
 cases A:(List.range ((fq t r.group k).getD []).length).find? (Mu t r.group k (r.at k) want)with
 |none=>rw[A]at e;simp only at e;omega
 |some i=>
  rw[A]at e;simp only at e
  have D:=ib.1 (p5 A)
  have B:=List.find?_some A
  simp only[Mu,dT]at B
  have M:=B.2
  have L:=Sm M
  have O:¬(r.group<0\/((t.groups.getD []).length:Int)<=r.group\/k<0\/1<k):=λR=>by
   rw[fq,gc R]at D;simp at D
  rw[e];unfold mM
  rw[fx O,fx ST]
  simp only[j9];rw[gc L];exact L
theorem Ca{t:Tb} {r:d4} {l:List Rn} {k:Int} (h:qT t r l k=true):0<=jM t r k/\jM t r k<8:=by
 simp only[qT,dT]at h;exact⟨dE h.1,IS⟩
theorem d4.OK(x:d4) {k:Nat} (hk:k<2) (n:Int):setCells x.cells (1+k) [I n]=(x.put k n).cells:=by
 have:k=0\/k=1:=ST
 rcases this with rfl|rfl<;>rfl
def kQ:List AV:=
 (if 0<n then[I (jM t r 0),I (jN t r want 0),B (qT t r l 0)]else[I 0,I 0,B false])++(if 1<n then[I (jM t r 1),I (jN t r want 1),B (qT t r l 1)]else[I 0,I 0,B false])
theorem Me:(kQ t r l want n).length=6:=by
 unfold kQ;split<;>split<;>rfl
theorem Mf{k:Nat} (hk:k<2):setCells (kQ t r l want k) (k*3) [I (jM t r k),I (jN t r want k),B (qT t r l k)]=kQ t r l want (k+1):=by
 have:k=0\/k=1:=ST
 rcases this with rfl|rfl<;>rfl
theorem OL{k:Nat} (hk:k<2):aH (kQ t r l want 2) (k*3) (some 3)=some (.agg [I (jM t r k),I (jN t r want k),B (qT t r l k)]):=by
 have:k=0\/k=1:=ST
 rcases this with rfl|rfl<;>rfl
def Cb.Spec(C:bk) (f:Nat):Prop:=∀(t:Tb) (r:d4) (l:List Rn) (want:Int),t.Ok->l.length=8->C.c f [.agg t.cells,.agg r.cells,.agg (cE l),I want] (.cU [.agg (vH t r l want).1.cells,I (vH t r l want).2.1,I (vH t r l want).2.2]) none
end
section
variable{P:Program} (hm:P.follows .mixedOrders=true) {f:Nat}
include hm
theorem Cb.ok{fC fN fX fR fE fH fW fA fM fG fS fF:Nat} (hc:bY P f=some (wZ fC fN fX fR fE fH fW fA fM fG fS fF)) (hC:xu.Spec (Pure P) fC) (hN:G3.Spec (Pure P) fN) (hX:BX.Spec (Pure P) fX) (hR:BY.Spec (Pure P) fR)
  (hE:xl.Spec (Pure P) fE) (hH:jU.Spec (Pure P) fH) (hW:gC.Spec (Pure P) fW) (hA:Md.Spec (Pure P) fA) (hM:G4.Spec (Pure P) fM) (hG:oS.Spec (Pure P) fG) (hS:B8.Spec (Pure P) fS) (hF:tQ.Spec (Pure P) fF):Cb.Spec (Pure P) f:=by
 intro t r l want ht hl
 have hw:=gl hl
 have a9:=c7 hl
 have a4:=Tb.len ht
 have hp:=Tb.whole ht
 have hr:r.cells.length=4/\aH r.cells 0 (some 4)=some (.agg r.cells)/\r.cells[0]? =some (I r.group)/\r.cells[3]? =some (B r.dF):=⟨rfl,rfl,rfl,rfl⟩
 have a7:∀x:d4,setCells [.int .i64 0,.int .i64 0,.int .i64 0,.bool false] 0 x.cells=x.cells:=λ_=>rfl
 have ba:∀x y:d4,setCells x.cells 0 y.cells=y.cells:=λ_ _=>rfl
 have a6:∀x:d4,x.cells.length=4/\aH x.cells 0 (some 4)=some (.agg x.cells):=λ_=>⟨rfl,rfl⟩
 have bd:∀a b c d e g:AV,setCells [a,b,c] 0 [d,e,g]=[d,e,g]:=λ_ _ _ _ _ _=>rfl
 have a8:∀a b c d:AV,setCells [a,b,c] 2 [d]=[a,b,d]:=λ_ _ _ _=>rfl
 have M:=cG hw (cG a9 (cG a4 (cG hp (cG hr (cG a7 (cG a6 (cG bd (cG a8 (ba)))))))))
 refine aq hm hc [] rfl ?_;try simp only[I,B,RY,↓KW,seval,wZ,Z.H,M]
 rcases bc r.dF with V|V
 rotate_left
 ·try simp only[RY,↓KW,seval,V,M]
  refine ah (hC t r l want ht hl) ?_;try simp only[RY,↓KW,seval,M]
  simp[vH,V]
 try simp only[RY,↓KW,seval,V]
 refine aN (λk:Nat=>(⟨[(26,.dat (I k) none),(3,.dat (I want) none),(4,.ptr 4 0),(5,.ptr 5 0),(6,.ptr 6 0),(8,.ptr 7 0),(11,.ptr 12 0),(9,.dat (I 0) none),(10,.dat (I 0) none)],[(4,⟨t.cells,[]⟩),(5,⟨r.cells,[]⟩),(6,⟨cE l,[]⟩),(7,⟨[.int .i64 0,.int .i64 0,.int .i64 0,.bool false],[]⟩),(12,⟨kQ t r l want k,[]⟩)],[],400⟩:S)) (λk=>2-k) (λk=>k<=2) ?_ 0 ST ?_
 rotate_left
 ·refine ai Ts ?_ ?_ ?_ ?_<;>simp[LX,I,B,kQ]
 intro k hk A back
 have O:=aG (k:=k) ST
 try simp only[I,RY,↓KW,seval]
 rcases bc (decide ((k:Int)<2))with h|h
 rotate_left
 ·have h2:k<2:=by have:=dE h;omega
  have hy:0<=(k:Int)/\(k:Int)<2:=ST
  have be:r.cells[1+k]? =some (I (r.at k)):=by
   have:k=0\/k=1:=ST
   rcases this with rfl|rfl<;>rfl
  have ol:=Me t r l want k
  have os:=Mf t r l want h2
  try simp only[RY,↓KW,seval,hy,M]
  refine ah (hN t r k ht) ?_;try simp only[I,RY,↓KW,seval,be,hy,M]
  refine ah (hX t r.group k (r.at k) want ht) ?_;try simp only[I,RY,↓KW,seval,M]
  rcases bc (decide (jM t r k>=0))with h3|h3
  ·have hb:qT t r l k=false:=by rw[qT,h3];rfl
   rw[hb]at os
   have ac:setCells (kQ t r l want k) (k*3) [I (jM t r k),I (Tp t r.group k (r.at k) want),B false]=kQ t r l want (k+1):=os
   try simp only[RY,↓KW,seval,h3,hy,ol,ac,M]
   refine⟨ST,back (k+1) _ ST ST ?_⟩
   refine ai Ts ?_ ?_ ?_ ?_<;>simp[LX,I,O]
  ·have ar:=dE h3
   have a2:=IS (t:=t) (r:=r) (k:=k)
   obtain⟨q,hq⟩:∃q:Nat,jM t r k=q:=⟨(jM t r k).toNat,ST⟩
   have aa:0<=(q:Int)/\(q:Int)<8:=ST
   have ae:aH (cE l) (q*12) (some 12)=some (.agg (aP l q).cells):=jm hl ST
   have hb:qT t r l k=!bD (aP l q):=by rw[qT,h3,hq];rfl
   rw[hb]at os
   have ac:setCells (kQ t r l want k) (k*3) [I (jM t r k),I (Tp t r.group k (r.at k) want),B (!bD (aP l q))]=kQ t r l want (k+1):=os
   rw[hq]at*;try simp only[RY,↓KW,seval,aa,ae]
   refine ah (hR (aP l q)) ?_;try simp only[B,RY,↓KW,seval,hy,ol,ac,M]
   refine⟨ST,back (k+1) _ ST ST ?_⟩
   refine ai Ts ?_ ?_ ?_ ?_<;>simp[LX,I,O]
 have ad:k=2:=by have:=dC h;omega
 subst ad
 have ow:aH (kQ t r l want 2) 0 (some 6)=some (.agg (kQ t r l want 2)):=rfl
 try simp only[RY,↓KW,seval,ow,M]
 clear back
 refine aN (λk:Nat=>(⟨[(62,.dat (I k) none),(61,.dat (.agg (kQ t r l want 2)) none),(3,.dat (I want) none),(4,.ptr 4 0),(5,.ptr 5 0),(6,.ptr 6 0),(8,.ptr 7 0),(11,.ptr 12 0),(9,.dat (I (He t r l want k).2.1) none),(10,.dat (I (He t r l want k).2.2) none)],[(4,⟨t.cells,[]⟩),(5,⟨r.cells,[]⟩),(6,⟨cE l,[]⟩),(7,⟨(He t r l want k).1.cells,[]⟩),(12,⟨kQ t r l want 2,[]⟩)],[],400⟩:S)) (λk=>2-k) (λk=>k<=2) ?_ 0 ST ?_
 rotate_left
 ·refine ai Ts ?_ ?_ ?_ ?_<;>simp[LX,I,He]
 intro k hk A2 back
 have O:=aG (k:=k) ST
 obtain⟨x,hx⟩:∃x,He t r l want k=x:=⟨_,rfl⟩
 have hn:He t r l want (k+1)=kP t r l want k x:=by rw[He,hx]
 rw[hx];try simp only[I,RY,↓KW,seval]
 rcases bc (decide ((k:Int)<2))with h|h
 rotate_left
 ·have h2:k<2:=by have:=dE h;omega
  have hy:0<=(k:Int)/\(k:Int)<2:=ST
  have ag:=OL t r l want h2
  obtain⟨b,hb⟩:∃b,qT t r l k=b:=⟨_,rfl⟩
  obtain⟨n,R⟩:∃n,jN t r want k=n:=⟨_,rfl⟩
  obtain⟨w,ab⟩:∃w,jM t r k=w:=⟨_,rfl⟩
  have L:kP t r l want k x=if b then(if B9 t r l want k then(x.1,x.2.1,dr x.2.2 w)else x)
   else if n>=0 then(if gz t l (mM t r.group k n).toNat then(x.1.put k n,dr x.2.1 (mM t r.group k n),x.2.2)else x)else x:=by rw[kP,hb,R,ab]
  rw[hb,R,ab]at ag
  rcases b with _|_
  ·rw[fx Ts]at L
   try simp only[I,B,RY,↓KW,seval,hy,ag,M]
   rcases bc (decide (n>=0))with h4|h4
   ·rw[fx (dC h4)]at L
    try simp only[RY,↓KW,seval,h4]
    refine back (k+1) _ ST ST ?_
    refine ai Ts ?_ ?_ ?_ ?_<;>simp[LX,I,O,hn,L]
   ·have an:=dE h4
    rw[gc an]at L
    have hq:=zJ (t:=t) (r:=r) (k:=k) (want:=want) (by rw[R];exact an) ST
    rw[R]at hq
    obtain⟨q,ak⟩:∃q:Nat,mM t r.group k n=q:=⟨(mM t r.group k n).toNat,ST⟩
    rw[ak]at L hq
    have al:=hA t r.group k n ht
    rw[ak]at al;try simp only[I,RY,↓KW,seval,h4,M]
    refine ah al ?_;try simp only[I,RY,↓KW,seval,M]
    refine ah (hM t l q ht hl ST) ?_
    try simp only[B,RY,↓KW,seval]
    have bm:(q:Int).toNat=q:=rfl
    rw[bm]at L
    rcases bc (gz t l q)with h5|h5
    ·rw[fx (by rw[h5];decide)]at L
     try simp only[RY,↓KW,seval,h5]
     refine back (k+1) _ ST ST ?_
     refine ai Ts ?_ ?_ ?_ ?_<;>simp[LX,I,O,hn,L]
    ·rw[gc h5]at L
     have bi:=x.1.OK h2 n
     try simp only[RY,↓KW,seval,h5]
     refine ah (hW _ _) ?_;try simp only[I,RY,↓KW,seval,hy,bi,M]
     refine⟨ST,back (k+1) _ ST ST ?_⟩
     refine ai Ts ?_ ?_ ?_ ?_<;>simp[LX,I,O,hn,L]
  ·rw[gc rfl]at L
   have ao:=hb
   simp only[qT,dT]at ao
   have ar:=dE ao.1
   have a2:=IS (t:=t) (r:=r) (k:=k)
   rw[ab]at ar a2
   obtain⟨q,hq⟩:∃q:Nat,w=q:=⟨w.toNat,ST⟩
   subst hq
   have aa:0<=(q:Int)/\(q:Int)<8:=ST
   have ae:aH (cE l) (q*12) (some 12)=some (.agg (aP l q).cells):=jm hl ST
   have qz:setCells bL 0 (aP l q).cells=(aP l q).cells:=rfl
   have ql:bL.length=12:=rfl
   have qr:(aP l q).cells[0]? =some (I (aP l q).ay)/\(aP l q).cells[7]? =some (B (aP l q).done)/\aH (aP l q).cells 0 (some 12)=some (.agg (aP l q).cells):=⟨rfl,rfl,rfl⟩
   have a5:=Tb.mq (ht.ln.BD (k:=q) ST)
   have he:B9 t r l want k=((aP l q).ay==1&&(((aP l q).done&&decide (n>=0))||(IM (aD t q) (aP l q)&& !dP want q))):=by rw[B9,ab,R];rfl
   try simp only[I,B,RY,↓KW,seval,hy,ag,aa,ae,qz,ql,qr,Rn.len,M]
   rw[he]at L
   repeat' (first|((first|refine ah (hE (aD t q) (aP l q)) ?_|refine ah (hH want q) ?_|refine ah (hW _ _) ?_);try simp only[I,B,RY,↓KW,seval])|(((first|refine bf ?_ ?_|refine az ?_ ?_|refine bz ?_ ?_)<;>intro h)<;>try simp only[B,RY,↓KW,seval,aa,a5,qr,h]))
   all_goals
    refine back (k+1) _ ST ST ?_
    refine ai Ts ?_ ?_ ?_ ?_<;>simp[LX,I, *]
 have ad:k=2:=by have:=dC h;omega
 subst ad;try simp only[RY,↓KW,seval,M]
 refine ah (hG l hl) ?_;try simp only[I,RY,↓KW,seval]
 have a3:dN t r l want=x:=hx
 have o0:aH (kQ t r l want 2) 0 (some 3)=some (.agg [I (jM t r 0),I (jN t r want 0),B (qT t r l 0)]):=rfl
 have o1:aH (kQ t r l want 2) 3 (some 3)=some (.agg [I (jM t r 1),I (jN t r want 1),B (qT t r l 1)]):=rfl
 have bj:setCells x.1.cells 3 [B true]=({x.1 with dF:=true}:d4).cells:=rfl
 have hg:(HO λp=>ej (aP l p))=fu l:=rfl
 have bs:CU t r l want x=(qV .i64 x.2.1 x.2.2==0&&(fy t r l want 0&&(fy t r l want 1&&decide (qS (bg .i64 want (fu l))>=0)))):=rfl
 have bo:vH t r l want=if CU t r l want x then({x.1 with dF:=true},x.2.1,fu l)else x:=by rw[vH,fx (by rw[V];decide),a3]
 have am:=hS l (jM t r 0) (jN t r want 0) (qT t r l 0) hl (Ca (t:=t) (r:=r) (l:=l))
 have au:=hS l (jM t r 1) (jN t r want 1) (qT t r l 1) hl (Ca (t:=t) (r:=r) (l:=l))
 rw[show kO l (jM t r 0) (jN t r want 0) (qT t r l 0)=fy t r l want 0 from rfl]at am
 rw[show kO l (jM t r 1) (jN t r want 1) (qT t r l 1)=fy t r l want 1 from rfl]at au
 rw[hg];try simp only[I,B,D,RY,↓KW,seval,o0,o1,M]
 repeat' (first|((first|refine ah (am) ?_|refine ah (au) ?_|refine ah (hF _) ?_);try simp only[I,B,RY,↓KW,seval])|(((first|refine bf ?_ ?_|refine az ?_ ?_|refine bz ?_ ?_)<;>intro h)<;>try simp only[I,B,RY,↓KW,seval,o0,o1,bj,M,h]))
 all_goals simp[*]
end
section
variable (t:Tb) (r:d4) (C:bk) (l:List Rn) (f:Nat) (s want:Int)
theorem IT{p:Nat} (A:p<8):dr (dr s p) p=dr s p:=
 lP (sF A) (sF A) λi B=>by
  rw[jl A,jl A]
  cases tb s i<;>simp[B]
theorem OM{α:Type} {l:List α} {f:α->Bool} {i:Nat} {x:α} (h:l[i]? =some x):(l.take (i+1)).any f=((l.take i).any f||f x):=by
 rw[List.take_add_one,h];simp
def xw:Int:=bg .i64 want (fu l)
def Mg(l:List Rn) (want:Int) (p q:Nat):Bool:=!(aA t p).2|| !Xf t r (aA t p).1.ring q
def Sn(n:Int) (p:Nat):Int:=if(d9 (xw l want)).any (Mg t r l want p)then dr n p else n
def Hf:Int:=(d9 (dh .i64 (fu l) (qW t))).foldl (Sn t r l want) 0
def Hg.Spec:Prop:=∀(t:Tb) (r:d4) (l:List Rn) (want:Int),t.Ok->l.length=8->C.c f [.agg t.cells,.agg r.cells,.agg (cE l),I want] (I (Hf t r l want)) none
def PS(p:Nat):d4:=if(aA t p).2&&((aA t p).1.group==r.group&&decide (r.at (aA t p).1.ring<0))then r.put (aA t p).1.ring (aA t p).1.pos else r
def Mh:d4:=(d9 s).foldl (PS t) ⟨(aA t (qS s)).1.group,-1,-1,false⟩
def Hh.Spec:Prop:=∀(t:Tb) (s:Int),t.Ok->C.c f [.agg t.cells,I s] (.agg (Mh t s).cells) none
def So(k:Int):Int:=if k<0\/((t.bp.getD []).length:Int)<=k then 0 else(Ot t k.toNat).exit
def Cc.Spec:Prop:=∀(t:Tb) (k:Int),t.Ok->C.c f [.agg t.cells,I k] (I (So t k)) none
def tS.Spec:Prop:=∀s:bA,s.Ok->C.c f [.agg s.cells] (I (HO λp=>ej (s.rn p))) none
def xx.Spec:Prop:=∀s:bA,s.Ok->C.c f [.agg s.cells] (I (HO λp=>yw (s.rn p))) none
end
section
variable{P:Program} (hm:P.follows .mixedOrders=true) {f:Nat}
include hm
theorem Cc.ok(hc:bY P f=some sP):Cc.Spec (Pure P) f:=by
 intro t k ht
 have R:=Tb.len ht
 have hr:t.cells[114]? =some (aI Rl.cells t.bp):=ht.ln.N4
 have D:=cG R (hr)
 refine aq hm hc [] rfl ?_;try simp only[I,RX,↓KW,seval,sP,Z.H]
 rcases bc (decide (k<0))with B|B
 rotate_left
 ·try simp only[RX,↓KW,seval,B]
  rw[So,gc (.inl (dE B))]
 try simp only[RX,↓KW,seval,B,D]
 rcases bc (decide (k>=((t.bp.getD []).length:Int)))with A|A
 rotate_left
 ·try simp only[RX,↓KW,seval,A]
  rw[So,gc (.inr (dE A))]
 have a1:=dC B
 have a2:=dC A
 obtain⟨x,M⟩:∃x,(t.bp.getD [])[k.toNat]? =some x:=⟨_,et ST⟩
 have L:Ot t k.toNat=x:=by rw[Ot,fi,M];rfl
 have V:0<=k/\k<((t.bp.getD []).length:Int):=ST
 have O:x.cells.length=11/\x.cells.drop 3=I x.exit::x.cells.drop 4:=⟨rfl,rfl⟩
 try simp only[I,RX,↓KW,seval,A,M,V,O,D]
 rw[So,fx ST,L]
theorem tS.ok{M:Nat} (hc:bY P f=some (qE M)) (hW:gC.Spec (Pure P) M):tS.Spec (Pure P) f:=by
 intro s hs;refine aq hm hc [] rfl ?_;try simp only[I,RY,↓KW,seval,qE,Z.H]
 refine aN (λk:Nat=>(⟨[(5,.dat (I k) none),(1,.ptr 4 0),(3,.dat (I (mI (λp=>ej (s.rn p)) k)) none)],[(4,⟨s.cells,[]⟩)],[],400⟩:S)) (λk=>8-k) (λk=>k<=8) ?_ 0 ST ?_
 ·intro k hk A back
  have D:=aG (k:=k) ST
  try simp only[I,RY,↓KW,seval]
  rcases bc (decide ((k:Int)<8))with h|h
  ·have:k=8:=by have:=dC h;omega
   subst this;try simp only[RY,↓KW,seval]
   rfl
  ·have R:k<8:=by have:=dE h;omega
   have L:s.cells[k*12]? =some (I (s.rn k).ay):=bA.IG hs R (j:=0) ST
   have O:mI (λp=>ej (s.rn p)) (k+1)=if ej (s.rn k)then dr (mI (λp=>ej (s.rn p)) k) k else mI (λp=>ej (s.rn p)) k:=rfl
   have V:0<=(k:Int)/\(k:Int)<8:=ST
   have hg:((s.rn k).ay==1)=ej (s.rn k):=rfl
   try simp only[I,RY,↓KW,seval,V,L]
   rw[hg]
   rcases bc (ej (s.rn k))with B|B
   ·try simp only[RY,↓KW,seval,B]
    refine back (k+1) _ ST ST (ai Ts ?_ ?_ ?_ ?_)<;>simp[LX,I,D,O,B]
   ·try simp only[RY,↓KW,seval,B]
    refine ah (hW _ _) ?_;try simp only[I,RY,↓KW,seval]
    refine back (k+1) _ ST ST (ai Ts ?_ ?_ ?_ ?_)<;>simp[LX,I,D,O,B]
 ·refine ai Ts ?_ ?_ ?_ ?_<;>simp[LX,I,mI]
theorem xx.ok{M:Nat} (hc:bY P f=some (qF M)) (hW:gC.Spec (Pure P) M):xx.Spec (Pure P) f:=by
 intro s hs;refine aq hm hc [] rfl ?_;try simp only[I,RY,↓KW,seval,qF,Z.H]
 refine aN (λk:Nat=>(⟨[(5,.dat (I k) none),(1,.ptr 4 0),(3,.dat (I (mI (λp=>yw (s.rn p)) k)) none)],[(4,⟨s.cells,[]⟩)],[],400⟩:S)) (λk=>8-k) (λk=>k<=8) ?_ 0 ST ?_
 ·intro k hk A back
  have D:=aG (k:=k) ST
  try simp only[I,RY,↓KW,seval]
  rcases bc (decide ((k:Int)<8))with h|h
  ·have:k=8:=by have:=dC h;omega
   subst this;try simp only[RY,↓KW,seval]
   rfl
  ·have R:k<8:=by have:=dE h;omega
   have L:s.cells[k*12+2]? =some (I (s.rn k).fst):=bA.IG hs R (j:=2) ST
   have O:mI (λp=>yw (s.rn p)) (k+1)=if yw (s.rn k)then dr (mI (λp=>yw (s.rn p)) k) k else mI (λp=>yw (s.rn p)) k:=rfl
   have V:0<=(k:Int)/\(k:Int)<8:=ST
   have hg:((s.rn k).fst==1)=yw (s.rn k):=rfl
   try simp only[I,RY,↓KW,seval,V,L]
   rw[hg]
   rcases bc (yw (s.rn k))with B|B
   ·try simp only[RY,↓KW,seval,B]
    refine back (k+1) _ ST ST (ai Ts ?_ ?_ ?_ ?_)<;>simp[LX,I,D,O,B]
   ·try simp only[RY,↓KW,seval,B]
    refine ah (hW _ _) ?_;try simp only[I,RY,↓KW,seval]
    refine back (k+1) _ ST ST (ai Ts ?_ ?_ ?_ ?_)<;>simp[LX,I,D,O,B]
 ·refine ai Ts ?_ ?_ ?_ ?_<;>simp[LX,I,mI]
theorem Hg.ok{fG fO fE fW fA fS:Nat} (hc:bY P f=some (qG fG fO fE fW fA fS)) (hG:oS.Spec (Pure P) fG) (hO:ZL.Spec (Pure P) fO) (hE:vk.Spec (Pure P) fE) (hW:vl.Spec (Pure P) fW) (hA:xk.Spec (Pure P) fA) (hS:gC.Spec (Pure P) fS):Hg.Spec (Pure P) f:=by
 intro t r l want ht hl
 have hw:=gl hl
 have ak:=c7 hl
 have ad:=Tb.len ht
 have hp:=Tb.whole ht
 have hr:r.cells.length=4/\aH r.cells 0 (some 4)=some (.agg r.cells):=⟨rfl,rfl⟩
 have L:=cG hw (cG ak (cG ad (cG hp (hr))))
 refine aq hm hc [] rfl ?_;try simp only[I,RX,↓KW,seval,qG,Z.H,L]
 refine ah (hG l hl) ?_
 have hg:(HO λp=>ej (aP l p))=fu l:=rfl
 rw[hg];try simp only[I,RX,↓KW,seval,L]
 refine ah (hO t ht.ln) ?_;try simp only[I,RX,↓KW,seval]
 obtain⟨k,hk,hi⟩:=hE (dh .i64 (fu l) (qW t))
 refine ah hk ?_;try simp only[I,RX,seval]
 refine iF (λs:Int=>(⟨[(23,.dat (.fn (.func k) [] [.ref [I (dh .i64 (fu l) (qW t))]]) none),(4,.ptr 4 0),(5,.ptr 5 0),(7,.ptr 7 0),(9,.ptr 11 0),(10,.ptr 12 0)],[(4,⟨t.cells,[]⟩),(5,⟨r.cells,[]⟩),(7,⟨[I want],[]⟩),(11,⟨[I (fu l)],[]⟩),(12,⟨[I s],[]⟩)],[],400⟩:S)) (λi s=>s=((d9 (dh .i64 (fu l) (qW t))).take i).foldl (Sn t r l want) 0) hi rfl (iE λ_=>rfl) (λ_=>rfl) ?_ ?_ 0 rfl ?_
 ·rintro i x s ac he A back
  obtain⟨p,D,rfl⟩:=nX ac
  have D:(d9 (dh .i64 (fu l) (qW t)))[i]? =some p:=D
  have h8:=jn (ev D)
  have hn:=lU (f:=Sn t r l want) (b:=0) D
  rw[<-he]at hn
  have ae:Sn t r l want s p=if(d9 (xw l want)).any (Mg t r l want p)then dr s p else s:=rfl
  rw[ae]at hn;try simp only[I,RX,↓KW,seval,L]
  refine ah (hW t p ht) ?_;try simp only[I,B,RX,↓KW,seval]
  obtain⟨k2,V,aa⟩:=hE (bg .i64 want (fu l))
  refine ah V ?_;try simp only[I,RX,seval]
  have hP:∀q:Nat,Mg t r l want p q=(!(aA t p).2|| !Xf t r (aA t p).1.ring q):=λ_=>rfl
  generalize(aA t p).2=ok at*;generalize(aA t p).1=w at*
  refine iF (λz:Int=>(⟨[(36,.dat (.fn (.func k2) [] [.ref [I (bg .i64 want (fu l))]]) none),(23,.dat (.fn (.func k) [] [.ref [I (dh .i64 (fu l) (qW t))]]) none),(4,.ptr 4 0),(5,.ptr 5 0),(7,.ptr 7 0),(9,.ptr 11 0),(10,.ptr 12 0),(11,.ptr 400 0),(13,.ptr 410 0),(15,.ptr 411 0)],[(4,⟨t.cells,[]⟩),(5,⟨r.cells,[]⟩),(7,⟨[I want],[]⟩),(11,⟨[I (fu l)],[]⟩),(12,⟨[I z],[]⟩),(400,⟨[I p],[]⟩),(410,⟨[I w.ring],[]⟩),(411,⟨[B ok],[]⟩)],[],420⟩:S))
   (λj z=>z=if((d9 (xw l want)).take j).any (Mg t r l want p)then dr s p else s) aa rfl (iE λ_=>rfl) (λ_=>rfl) ?_ ?_ s TB ?_
  ·rintro j y z al hz A2 R
   obtain⟨q,O,rfl⟩:=nX al
   have O:(d9 (xw l want))[j]? =some q:=O
   have M:=OM (f:=Mg t r l want p) O
   have ab:(if((d9 (xw l want)).take (j+1)).any (Mg t r l want p)then dr s p else s)=if Mg t r l want p q then dr z p else z:=by
    rw[M,hz]
    cases((d9 (xw l want)).take j).any (Mg t r l want p)<;>cases Mg t r l want p q<;>simp[IT s h8]
   have ag:=hA t r w.ring q ht
   rw[hP q]at ab;clear M hz hi aa hk V;try simp only[I,B,RX,↓KW,seval]
   repeat' (first|((first|refine ah (ag) ?_|refine ah (hS _ _) ?_);try simp only[I,B,RX,↓KW,seval])|(((first|refine bf ?_ ?_|refine az ?_ ?_|refine bz ?_ ?_)<;>intro h)<;>try simp only[RX,↓KW,seval,hr,L,h]))
   all_goals
    refine R _ _ ab.symm ?_
    refine ai Ts ?_ ?_ ?_ ?_<;>simp[LX,I,B, *]
  ·rintro z hz
   have M:z=((d9 (dh .i64 (fu l) (qW t))).take (i+1)).foldl (Sn t r l want) 0:=by
    rw[hz,hn,my (by simp[d9,xw])]
   try simp only[I,B,RX,seval]
   refine back _ _ M ?_
   refine ai Ts ?_ ?_ ?_ ?_<;>simp[LX,I]
  ·refine ai Ts ?_ ?_ ?_ ?_<;>simp[LX,I,B]
 ·rintro s he
  rw[my (by simp[d9])]at he
  try simp only[I,RX,↓KW,seval]
  rw[he];rfl
 ·refine ai Ts ?_ ?_ ?_ ?_<;>simp[LX,I]
theorem Hh.ok{fF fW fE:Nat} (hc:bY P f=some (zz fF fW fE)) (hF:tQ.Spec (Pure P) fF) (hW:vl.Spec (Pure P) fW) (hE:vk.Spec (Pure P) fE):Hh.Spec (Pure P) f:=by
 intro t e ht
 have ab:=Tb.len ht
 have hp:=Tb.whole ht
 have ad:∀x:d4,setCells [.int .i64 0,.int .i64 0,.int .i64 0,.bool false] 0 x.cells=x.cells:=λ_=>rfl
 have ag:setCells [.int .i64 0,.int .i64 0,.int .i64 0,.bool false] 0 [I 0,I (-1),I (-1),B false]=(⟨0,-1,-1,false⟩:d4).cells:=rfl
 have ac:∀(x:d4) (n:Int),setCells x.cells 0 [I n]=({x with group:=n}:d4).cells:=λ_ _=>rfl
 have ae:∀x:d4,x.cells.length=4/\aH x.cells 0 (some 4)=some (.agg x.cells)/\x.cells[0]? =some (I x.group):=λ_=>⟨rfl,rfl,rfl⟩
 have D:=cG ab (cG hp (cG ae (cG ad (cG ag (ac)))))
 refine aq hm hc [] rfl ?_;try simp only[I,RY,↓KW,seval,zz,Z.H,D]
 refine ah (hF e) ?_;try simp only[I,RY,↓KW,seval,D]
 refine ah (hW t (qS e) ht) ?_;try simp only[I,B,RY,↓KW,seval,D]
 obtain⟨k,hk,hi⟩:=hE e;refine ah hk ?_;try simp only[I,RY,seval,D]
 refine iF (λx:d4=>(⟨[(24,.dat (.fn (.func k) [] [.ref [I e]]) none),(2,.ptr 4 0),(4,.ptr 5 0),(5,.ptr 8 0)],[(4,⟨t.cells,[]⟩),(5,⟨[.int .i64 0,.int .i64 0,.int .i64 0,.bool false],[]⟩),(8,⟨x.cells,[]⟩)],[],400⟩:S)) (λi x=>x=((d9 e).take i).foldl (PS t) ⟨(aA t (qS e)).1.group,-1,-1,false⟩) hi rfl (iE λ_=>rfl) (λ_=>rfl) ?_ ?_ ⟨(aA t (qS e)).1.group,-1,-1,false⟩ rfl ?_
 ·rintro i y x ak V A back
  obtain⟨p,M,rfl⟩:=nX ak
  have M:(d9 e)[i]? =some p:=M
  have R:=lU (f:=PS t) (b:=⟨(aA t (qS e)).1.group,-1,-1,false⟩) M
  rw[<-V]at R
  have hP:PS t x p=if(aA t p).2&&((aA t p).1.group==x.group&&decide (x.at (aA t p).1.ring<0))then x.put (aA t p).1.ring (aA t p).1.pos else x:=rfl
  rw[hP]at R
  have am:=j4 (t:=t) (q:=p)
  try simp only[I,RY,↓KW,seval,D]
  refine ah (hW t p ht) ?_;generalize(aA t p).2=ok at*;generalize(aA t p).1=w at*;try simp only[I,B,RY,↓KW,seval]
  rcases bc ok with O|O
  ·try simp only[RY,↓KW,seval,O]
   refine back x _ (by rw[R,O];rfl) ?_
   refine ai Ts ?_ ?_ ?_ ?_<;>simp[LX,I]
  have hy:=am O
  have L:x.cells[1+w.ring.toNat]? =some (I (x.at w.ring)):=by
   have:w.ring=0\/w.ring=1:=ST
   rcases this with e|e<;>rw[e]<;>rfl
  obtain⟨q,hq⟩:∃q:Nat,w.ring=q:=⟨w.ring.toNat,ST⟩
  have al:=x.OK (k:=q) ST w.pos
  rw[hq]at L R
  have L:x.cells[1+q]? =some (I (x.at q)):=L
  have aa:0<=(q:Int)/\(q:Int)<2:=ST
  try simp only[I,RY,↓KW,seval,O,hq,D]
  clear V hP
  repeat' (((first|refine bf ?_ ?_|refine az ?_ ?_|refine bz ?_ ?_)<;>intro h)<;>try simp only[I,RY,↓KW,seval,aa,L,al,D,h])
  all_goals
   try refine⟨ST,?_⟩
   refine back _ _ R.symm ?_
   refine ai Ts ?_ ?_ ?_ ?_<;>simp[LX,I, *]
 ·rintro x V
  rw[my (by simp[d9])]at V
  try simp only[I,RY,↓KW,seval,D]
  rw[V];rfl
 ·refine ai Ts ?_ ?_ ?_ ?_<;>simp[LX,I]
theorem Sq.ok{fB:Nat} (hc:bY P f=some (qD fB)) (hB:xp.Spec (Pure P) fB):z9.Spec (Pure P) f:=by
 intro t ht
 have hl:=ht.len
 have ag:cQ.length=117:=rfl
 have ad:List.take 96 cQ++[I 0,I (-1),I (-1),B false]++List.drop 100 cQ=({jC t 0 with rings:=⟨0,-1,-1,false⟩}:bA).cells:=rfl
 have L:∀k,({jC t k with rings:=⟨0,-1,-1,false⟩}:bA).Ok:=λk=>⟨(Oo t k).runs,rfl,rfl⟩
 have aa:∀k,setCells cQ 0 ({jC t k with rings:=⟨0,-1,-1,false⟩}:bA).cells=({jC t k with rings:=⟨0,-1,-1,false⟩}:bA).cells:=λk=>gB (by rw[bA.len (L k)];rfl)
 have ac:=λk=>bA.len (L k)
 have V:=λk=>bA.whole (L k)
 have D:=cG hl (cG ag (cG ad (cG aa (cG ac (V)))))
 refine aq hm hc [] rfl ?_;try simp only[RY,↓KW,seval,qD,Z.H,D]
 refine aN (λk:Nat=>(⟨[(8,.dat (I k) none),(1,.ptr 4 0),(2,.ptr 5 0),(3,.ptr 9 0)],[(4,⟨t.cells,[]⟩),(5,⟨cQ,[]⟩),(9,⟨({jC t k with rings:=⟨0,-1,-1,false⟩}:bA).cells,[]⟩)],[],400⟩:S)) (λk=>8-k) (λk=>k<=8) ?_ 0 ST ?_
 ·intro k hk A back
  have hw:=aG (k:=k) ST
  try simp only[I,RY,↓KW,seval]
  rcases bc (decide ((k:Int)<8))with O|O
  ·have:k=8:=by have:=dC O;omega
   subst this;try simp only[RY,↓KW,seval,D]
   rfl
  ·have M:k<8:=by have:=dE O;omega
   have hx:0<=(k:Int)/\(k:Int)<8:=ST
   have ab:=Tb.mq (ht.BD M)
   have R:=bA.Tn (L k) M (BG (aD t k))
   have ae:({jC t k with runs:=(jC t k).runs.set k (BG (aD t k)),rings:=⟨0,-1,-1,false⟩}:bA)={jC t (k+1)with rings:=⟨0,-1,-1,false⟩}:=by rw[<-II t M]
   simp only at R;rw[ae]at R;try simp only[RY,↓KW,seval,hx,ab]
   refine ah (hB _) ?_;try simp only[RY,↓KW,seval,hx,R,Rn.len,D]
   refine⟨ST,back (k+1) _ ST ST ?_⟩
   refine ai Ts ?_ ?_ ?_ ?_<;>simp[LX,I,hw]
 ·refine ai Ts ?_ ?_ ?_ ?_<;>simp[LX,I]
end
end Go.Eng
