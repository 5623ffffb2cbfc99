/- Part 16 of the engine and its library. -/
import Derived.Test.YtjnbemnncjbmgaaGreatPk15
set_option linter.all false
set_option maxRecDepth 10000
set_option maxHeartbeats 4000000
namespace Go.Eng
open Go
section
variable{P:Program} (hm:P.follows .mixedOrders=true) {f:Nat}
include hm
theorem HD.ok{fR fH:Nat} (hc:bK P f=some (Ca fR fH)) (hR:JV.Spec (Pure P) fR) (hH:mN.Spec (Pure P) fH):HD.Spec (Pure P) f:=by
 intro t g r L want ht
 have hp:=Tb.whole ht
 have ad:=HC ht g r
 refine aq hm hc [] rfl ?_;try simp only[I,RX,↓KW,seval,Ca,Z.H,hp]
 refine af (hR t g r ht) ?_
 have hP:∀i,nxP t g r L want i=(decide ((i:Int)>L)&&fu want (((ku t g r).getD []).getD i 0)):=λ_=>rfl
 have hE:nxE t g r L want=match(List.range ((ku t g r).getD []).length).find? (nxP t g r L want)with
  |some i=>(i:Int)
  |none=>-1:=rfl
 generalize nxP t g r L want=pr at*;generalize nxE t g r L want=res at*;generalize ku t g r=row at*;try simp only[RX,↓KW,seval]
 refine aG (λk:Nat=>(⟨[(18,.dat (I k) none),(17,.dat (I (row.getD []).length) none),(16,.dat (aI aH row) none),(3,.dat (I L) none),(4,.dat (I want) none)],[],[],400⟩:S)) (λk=>(row.getD []).length-k) (λk=>k<=(row.getD []).length/\∀q,q<k->pr q=false) ?_ 0 ⟨ado,ado⟩ ?_
 rotate_left
 ·refine ai adp ?_ ?_ ?_ ?_<;>simp[LX,I]
 rintro k ⟨hk,O⟩ A back
 have aa:=aC (k:=k) ado
 try simp only[I,RX,↓KW,seval]
 cases h:decide ((k:Int)<((row.getD []).length:Int))
 ·have ae:k=(row.getD []).length:=by have:=dT h;omega
  have hf:(List.range (row.getD []).length).find? pr=none:=tc λx V=>O x (by have:=ip.1 V;omega)
  rw[hf]at hE;try simp only[RX,↓KW,seval]
  rw[hE]
 ·have h8:k<(row.getD []).length:=by have:=dE h;omega
  obtain⟨x,V⟩:∃x,(row.getD [])[k]? =some x:=⟨_,eh h8⟩
  have ac:(row.getD []).getD k 0=x:=by rw[em,V];rfl
  have R:=hP k
  rw[ac]at R;try simp only[I,RX,↓KW,seval,V,aH]
  refine⟨ado,?_⟩
  try simp only[I,B,D,RX,↓KW,seval,V,aH]
  cases h1:decide ((k:Int)>L)
  ·have M:pr k=false:=by rw[R,h1];rfl
   try simp only[RX,↓KW,seval]
   refine back (k+1) _ ⟨ado,λq ab=>?_⟩ ado ?_
   ·by_cases e:q=k
    ·rw[e];exact M
    ·exact O q ado
   ·refine ai adp ?_ ?_ ?_ ?_<;>simp[LX,I,aa]
  ·try simp only[RX,↓KW,seval]
   refine af (hH want x) ?_;cases h2:fu want x
   ·have M:pr k=false:=by rw[R,h1,h2];rfl
    try simp only[B,RX,↓KW,seval]
    refine back (k+1) _ ⟨ado,λq ab=>?_⟩ ado ?_
    ·by_cases e:q=k
     ·rw[e];exact M
     ·exact O q ado
    ·refine ai adp ?_ ?_ ?_ ?_<;>simp[LX,I,aa]
   ·have M:pr k=true:=by rw[R,h1,h2];rfl
    have hf:(List.range (row.getD []).length).find? pr=some k:=yy (kv h8) M (λy hy=>O y (by rw[aca]at hy;have:=ip.1 hy;omega))
    rw[hf]at hE;try simp only[B,RX,↓KW,seval]
    rw[hE]
theorem NW.ok{L R:Nat} (V:bK P f=some (vI L R)) (hR:JV.Spec (Pure P) L) (O:setOf.Spec (Pure P) R):NW.Spec (Pure P) f:=by
 intro t g D
 have M:=Tb.whole D
 have l0:=HC D g 0
 have l1:=HC D g 1
 refine aq hm V [] rfl ?_;try simp only[I,RX,↓KW,seval,vI,Z.H,M]
 refine af (hR t g 0 D) ?_;try simp only[RX,↓KW,seval]
 refine af (O _ ado) ?_
 try simp only[I,RX,↓KW,seval,M]
 refine af (hR t g 1 D) ?_;try simp only[RX,↓KW,seval]
 refine af (O _ ado) ?_
 try simp only[I,RX,↓KW,seval]
 rfl
theorem NX.ok{fM:Nat} (hc:bK P f=some (ry fM)) (hM:NW.Spec (Pure P) fM):NX.Spec (Pure P) f:=by
 intro t g want ht
 have hl:=Tb.len ht
 have hp:=Tb.whole ht
 have hg:=Tb.oU ht
 have al:=ht.groups
 have hE:fwE t g want=match(List.range (t.groups.getD []).length).find? (fwP t g want)with
  |some k=>fgE t g k
  |none=>-1:=rfl
 have hP:∀k,fwP t g want k=(bT .i64 (mbE t (fgE t g k)) want !=0):=λ_=>rfl
 have hF:∀k,fgE t g k=(IntKind.i64.wrap (IntKind.i64.wrap (g0E t g+1)+k)).tmod (t.groups.getD []).length:=λ_=>rfl
 have ad:=dC hl (dC hp (hg))
 refine aq hm hc [] rfl ?_;try simp only[I,RX,↓KW,seval,ry,Z.H,ad]
 have hG:(g<0\/((t.groups.getD []).length:Int)<=g->IntKind.i64.wrap (((t.groups.getD []).length:Int)-1)=g0E t g)/\(¬(g<0\/((t.groups.getD []).length:Int)<=g)->g=g0E t g):=
  ⟨λh=>(fp h).symm,λh=>(fb h).symm⟩
 generalize ak:g0E t g=g0 at*;generalize fgE t g=fg at*;generalize fwP t g want=pr at*;generalize fwE t g want=res at*;cases c1:decide (g<0);cases c2:decide (g>=((t.groups.getD []).length:Int))
 ·have e0:=hG.2 (by have:=dT c1;have:=dT c2;omega)
  subst e0;try simp only[RX,↓KW,seval,c2]
  refine aG (λk:Nat=>(⟨[(23,.dat (I k) none),(22,.dat (I (t.groups.getD []).length) none),(1,.dat (I g) none),(7,.dat (I (t.groups.getD []).length) none),(3,.ptr 4 0),(2,.dat (I want) none)],[(4,⟨t.cells,[]⟩)],[],400⟩:S)) (λk=>(t.groups.getD []).length-k) (λk=>k<=(t.groups.getD []).length/\∀q,q<k->pr q=false) ?_ 0 ⟨ado,ado⟩ ?_
  rotate_left
  ·refine ai adp ?_ ?_ ?_ ?_<;>simp[LX,I]
  rintro k ⟨hk,D⟩ A back
  have ac:=aC (k:=k) ado
  try simp only[I,RX,↓KW,seval]
  cases h:decide ((k:Int)<((t.groups.getD []).length:Int))
  ·have ag:k=(t.groups.getD []).length:=by have:=dT h;omega
   have V:(List.range (t.groups.getD []).length).find? pr=none:=tc λx hx=>D x (by have:=ip.1 hx;omega)
   rw[V]at hE;try simp only[RX,↓KW,seval]
   rw[hE]
  ·have R:k<(t.groups.getD []).length:=by have:=dE h;omega
   have ab:=hF k
   have aa:(((t.groups.getD []).length:Int)=0)=False:=by simp;intro h;rw[h]at R;simp at R
   have M:=hP k
   try simp only[RX,↓KW,seval,aa,ad]
   rw[<-ab];refine af (hM t (fg k) ht) ?_;cases O:(bT .i64 (mbE t (fg k)) want !=0)
   ·have L:pr k=false:=by rw[M,O]
    try simp only[I,RX,↓KW,seval,O]
    refine back (k+1) _ ⟨ado,λq ae=>?_⟩ ado ?_
    ·by_cases e:q=k
     ·rw[e];exact L
     ·exact D q ado
    ·refine ai adp ?_ ?_ ?_ ?_<;>simp[LX,I,ac]
   ·have L:pr k=true:=by rw[M,O]
    have V:(List.range (t.groups.getD []).length).find? pr=some k:=yy (kv R) L (λy hy=>D y (by rw[aca]at hy;have:=ip.1 hy;omega))
    rw[V]at hE;try simp only[I,RX,↓KW,seval,O]
    rw[hE]
 ·have e0:=hG.1 (.inr (by have:=dE c2;omega))
  try simp only[RX,↓KW,seval,c2]
  refine aG (λk:Nat=>(⟨[(23,.dat (I k) none),(22,.dat (I (t.groups.getD []).length) none),(1,.dat (I g0) none),(7,.dat (I (t.groups.getD []).length) none),(3,.ptr 4 0),(2,.dat (I want) none)],[(4,⟨t.cells,[]⟩)],[],400⟩:S)) (λk=>(t.groups.getD []).length-k) (λk=>k<=(t.groups.getD []).length/\∀q,q<k->pr q=false) ?_ 0 ⟨ado,ado⟩ ?_
  rotate_left
  ·refine ai adp ?_ ?_ ?_ ?_<;>simp[LX,I,e0]
  rintro k ⟨hk,D⟩ A back
  have ac:=aC (k:=k) ado
  try simp only[I,RX,↓KW,seval]
  cases h:decide ((k:Int)<((t.groups.getD []).length:Int))
  ·have ag:k=(t.groups.getD []).length:=by have:=dT h;omega
   have V:(List.range (t.groups.getD []).length).find? pr=none:=tc λx hx=>D x (by have:=ip.1 hx;omega)
   rw[V]at hE;try simp only[RX,↓KW,seval]
   rw[hE]
  ·have R:k<(t.groups.getD []).length:=by have:=dE h;omega
   have ab:=hF k
   have aa:(((t.groups.getD []).length:Int)=0)=False:=by simp;intro h;rw[h]at R;simp at R
   have M:=hP k
   try simp only[RX,↓KW,seval,aa,ad]
   rw[<-ab];refine af (hM t (fg k) ht) ?_;cases O:(bT .i64 (mbE t (fg k)) want !=0)
   ·have L:pr k=false:=by rw[M,O]
    try simp only[I,RX,↓KW,seval,O]
    refine back (k+1) _ ⟨ado,λq ae=>?_⟩ ado ?_
    ·by_cases e:q=k
     ·rw[e];exact L
     ·exact D q ado
    ·refine ai adp ?_ ?_ ?_ ?_<;>simp[LX,I,ac]
   ·have L:pr k=true:=by rw[M,O]
    have V:(List.range (t.groups.getD []).length).find? pr=some k:=yy (kv R) L (λy hy=>D y (by rw[aca]at hy;have:=ip.1 hy;omega))
    rw[V]at hE;try simp only[I,RX,↓KW,seval,O]
    rw[hE]
 ·have e0:=hG.1 (.inl (dE c1))
  try simp only[RX,↓KW,seval]
  refine aG (λk:Nat=>(⟨[(23,.dat (I k) none),(22,.dat (I (t.groups.getD []).length) none),(1,.dat (I g0) none),(7,.dat (I (t.groups.getD []).length) none),(3,.ptr 4 0),(2,.dat (I want) none)],[(4,⟨t.cells,[]⟩)],[],400⟩:S)) (λk=>(t.groups.getD []).length-k) (λk=>k<=(t.groups.getD []).length/\∀q,q<k->pr q=false) ?_ 0 ⟨ado,ado⟩ ?_
  rotate_left
  ·refine ai adp ?_ ?_ ?_ ?_<;>simp[LX,I,e0]
  rintro k ⟨hk,D⟩ A back
  have ac:=aC (k:=k) ado
  try simp only[I,RX,↓KW,seval]
  cases h:decide ((k:Int)<((t.groups.getD []).length:Int))
  ·have ag:k=(t.groups.getD []).length:=by have:=dT h;omega
   have V:(List.range (t.groups.getD []).length).find? pr=none:=tc λx hx=>D x (by have:=ip.1 hx;omega)
   rw[V]at hE;try simp only[RX,↓KW,seval]
   rw[hE]
  ·have R:k<(t.groups.getD []).length:=by have:=dE h;omega
   have ab:=hF k
   have aa:(((t.groups.getD []).length:Int)=0)=False:=by simp;intro h;rw[h]at R;simp at R
   have M:=hP k
   try simp only[RX,↓KW,seval,aa,ad]
   rw[<-ab];refine af (hM t (fg k) ht) ?_;cases O:(bT .i64 (mbE t (fg k)) want !=0)
   ·have L:pr k=false:=by rw[M,O]
    try simp only[I,RX,↓KW,seval,O]
    refine back (k+1) _ ⟨ado,λq ae=>?_⟩ ado ?_
    ·by_cases e:q=k
     ·rw[e];exact L
     ·exact D q ado
    ·refine ai adp ?_ ?_ ?_ ?_<;>simp[LX,I,ac]
   ·have L:pr k=true:=by rw[M,O]
    have V:(List.range (t.groups.getD []).length).find? pr=some k:=yy (kv R) L (λy hy=>D y (by rw[aca]at hy;have:=ip.1 hy;omega))
    rw[V]at hE;try simp only[I,RX,↓KW,seval,O]
    rw[hE]
theorem Ur.ok{e fO:Nat} (hc:bK P f=some (AA e fO)) (hO:setOf.Spec (Pure P) fO):Ur.Spec (Pure P) f:=by
 intro t g r pl ht
 have hg:=Tb.oU ht
 refine aq hm hc [] rfl ?_;try simp only[I,RX,↓KW,seval,AA,Z.H]
 by_cases h0:g<0\/((t.groups.getD []).length:Int)<=g\/r<0\/1<r
 ·have hx:vJ t g r pl=-1:=fp h0
  rw[hx];cases h1:decide (g<0)
  ·try simp only[RX,↓KW,seval,hg]
   cases h2:decide (g>=((t.groups.getD []).length:Int))
   ·try simp only[RX,↓KW,seval]
    cases h3:decide (r<0)
    ·have h4:decide (r>1)=true:=by
      have:=dT h1;have:=dT h2;have:=dT h3;simp;omega
     try simp only[RX,↓KW,seval,h4]
    ·try simp only[RX,↓KW,seval]
   ·try simp only[RX,↓KW,seval]
  ·try simp only[RX,↓KW,seval]
 have hx:ku t g r=((t.groups.getD []).getD g.toNat default).row r.toNat:=fb h0
 have D:vJ t g r pl=if pl<0\/(((ku t g r).getD []).length:Int)<=pl then -1
  else if 0<=((ku t g r).getD []).getD pl.toNat 0/\((ku t g r).getD []).getD pl.toNat 0<8 then((ku t g r).getD []).getD pl.toNat 0 else -1:=fb h0
 have h1:decide (g<0)=false:=by simp;omega
 have h2:decide (g>=((t.groups.getD []).length:Int))=false:=by simp;omega
 have h3:decide (r<0)=false:=by simp;omega
 have h4:decide (r>1)=false:=by simp;omega
 obtain⟨O,aa⟩:∃O,(t.groups.getD [])[g.toNat]? =some O:=⟨_,eh ado⟩
 have ac:(t.groups.getD []).getD g.toNat default=O:=by rw[em,aa];rfl
 rw[ac]at hx
 have L:(O.cells.drop r.toNat)[0]? =some (aI aH (O.row r.toNat)):=by
  have:r=0\/r=1:=ado
  rcases this with rfl|rfl<;>rfl
 rw[<-hx]at L
 have ag:O.cells.length=2:=rfl
 have hy:0<=g/\g<((t.groups.getD []).length:Int):=ado
 have ad:0<=r/\r<2:=ado
 generalize vJ t g r pl=res at*;generalize ku t g r=row at*;try simp only[RX,↓KW,seval,h1,h2,h3,h4,hg,aa,ag,hy,ad,L]
 by_cases h5:pl<0\/((row.getD []).length:Int)<=pl
 ·rw[fp h5]at D
  rw[D];cases h6:decide (pl<0)
  ·have h7:decide (pl>=((row.getD []).length:Int))=true:=by have:=dT h6;simp;omega
   try simp only[RX,↓KW,seval,h7]
  ·try simp only[RX,↓KW,seval]
 ·rw[fb h5]at D
  have h6:decide (pl<0)=false:=by simp;omega
  have h7:decide (pl>=((row.getD []).length:Int))=false:=by simp;omega
  obtain⟨x,M⟩:∃x,(row.getD [])[pl.toNat]? =some x:=⟨_,eh ado⟩
  have ae:(row.getD []).getD pl.toNat 0=x:=by rw[em,M];rfl
  rw[ae]at D
  have ho:=Lp x
  have ab:0<=pl/\pl<((row.getD []).length:Int):=ado
  try simp only[I,RX,↓KW,seval,h6,h7,ab,M,aH]
  have V:=hO (some [x]) adI
  obtain⟨z,hz⟩:∃z,ofS ((some [x]:Option (List Int)).getD [])=z:=⟨_,rfl⟩
  have hs:(z==0)=!(decide (0<=x)&&decide (x<8)):=by rw[<-hz];exact ho
  rw[hz]at V;refine af V ?_
  by_cases R:0<=x/\x<8
  ·rw[fp R]at D
   rw[IR R.1,IR R.2]at hs;try simp only[I,RX,↓KW,seval,hs,ab,M,aH,H0]
   rw[D]
  ·rw[fb R]at D
   have h9:(decide (0<=x)&&decide (x<8))=false:=by
    rw[<-Bool.decide_and];exact ut R
   rw[h9]at hs;try simp only[I,RX,↓KW,seval,hs]
   rw[D]
theorem NY.ok{V:Nat} (hc:bK P f=some (EJ V)) (hA:Ur.Spec (Pure P) V):NY.Spec (Pure P) f:=by
 intro t r k M
 have hp:=Tb.whole M
 have D:r.cells[0]? =some (I r.group):=rfl
 refine aq hm hc [] rfl ?_;try simp only[I,RX,↓KW,seval,EJ,Z.H]
 cases O:decide (k<0)
 ·try simp only[RX,↓KW,seval]
  cases R:decide (k>1)
  ·try simp only[I,RX,↓KW,seval,hp,D]
   have a:=dT O
   have b:=dT R
   have hy:0<=k/\k<2:=ado
   have L:r.cells[1+k.toNat]? =some (I (r.at k)):=by
    have:k=0\/k=1:=ado
    rcases this with rfl|rfl<;>rfl
   try simp only[I,RX,↓KW,seval,hy,L]
   refine af (hA t r.group k (r.at k) M) ?_;try simp only[I,RX,↓KW,seval]
   rw[qq,fb ado]
  ·try simp only[RX,↓KW,seval]
   rw[qq,fp (.inr (dE R))]
 ·try simp only[RX,↓KW,seval]
  rw[qq,fp (.inl (dE O))]
theorem Ci.ok{V:Nat} (hc:bK P f=some (zF V)) (hW:As.Spec (Pure P) V):Ci.Spec (Pure P) f:=by
 intro t r k q R
 have hp:=Tb.whole R
 have L:r.cells[0]? =some (I r.group):=rfl
 have O:=λh=>mW (t:=t) (q:=q) h
 have hE:ahE t r k q=((aE t q).2&&(aE t q).1.group==r.group&&(aE t q).1.ring !=k&&decide ((aE t q).1.pos>r.at (aE t q).1.ring)):=rfl
 refine aq hm hc [] rfl ?_;try simp only[I,B,RX,↓KW,seval,zF,Z.H,hp]
 refine af (hW t q R) ?_;generalize(aE t q).2=ok at*;generalize(aE t q).1=w at*;generalize ahE t r k q=res at*;cases ok
 ·try simp only[I,B,RX,↓KW,seval]
  rw[hE];rfl
 try simp only[I,B,RX,↓KW,seval,L]
 have hy:0<=w.ring/\w.ring<2:=O rfl
 have M:r.cells[1+w.ring.toNat]? =some (I (r.at w.ring)):=by
  have:w.ring=0\/w.ring=1:=ado
  rcases this with e|e<;>rw[e]<;>rfl
 cases D:(w.group==r.group)
 ·try simp only[RX,↓KW,seval]
  rw[hE,D];rfl
 try simp only[RX,↓KW,seval]
 cases h2:(w.ring !=k)
 ·try simp only[RX,↓KW,seval]
  rw[hE,D,h2];rfl
 try simp only[I,RX,↓KW,seval,hy,M]
 rw[hE,D,h2];rfl
end
section
variable (a:Int) (p:Ph) (st b time:Int)
structure Cu where
 start:Bool
 fin:Bool
 here:Bool
 push:Bool
 bO:Bool
 hold:Bool
 early:Bool
 cut:Bool
 deriving Inhabited,DecidableEq
def Cu.cells(c:Cu):List AV:=[B c.start,B c.fin,B c.here,B c.push,B c.bO,B c.hold,B c.early,B c.cut]
def JW(D:Bool):Int×Int:=
 if st==1&&decide (time>=p.walk)then(2,1)else if st==2&&decide (time>=p.cz)then(0,0)else if st==1||st==2 then(st,bt time)
 else if D&&decide (p.walk>0)then(1,1)else(0,0)
def Us:Int×Int:=if st==1 then(2,1)else(st,time)
def U1(left:Int) (here:Bool):Int:=if here then p.Zd else if left>9999 then 9998 else if left>0 then left-1 else 0
def ET(x:Int):Int:=if p.max>(if p.top<x then p.top else x)then p.max else(if p.top<x then p.top else x)
def plE:Int:=if decide (b>0)&&decide (a>IntKind.i64.wrap (9223372036854775807-b))then 9223372036854775807 else if decide (b<0)&&decide (a<IntKind.i64.wrap (-9223372036854775808-b))then -9223372036854775808 else IntKind.i64.wrap (a+b)
def miE:Int:=if decide (b>0)&&decide (a<IntKind.i64.wrap (-9223372036854775808+b))then -9223372036854775808 else if decide (b<0)&&decide (a>IntKind.i64.wrap (9223372036854775807+b))then 9223372036854775807 else IntKind.i64.wrap (a-b)
structure Tr where
 limit:Int
 up:Int
 down:Int
 deriving Inhabited,DecidableEq
def Tr.cells(x:Tr):List AV:=[I x.limit,I x.up,I x.down]
def c01(n:Int):Int:=(if 1<(if 0>n then 0 else n)then 1 else(if 0>n then 0 else n))+1
def gr0(x:Tr) (l9:Bool):Tr:=if l9 then⟨ET p x.limit,c01 x.up,0⟩else⟨ET p x.limit,0,c01 x.down⟩
end
section
variable (p:Ph) (C:aT) (r:Rn) (c:Cu) (f:Nat) (x:Tr)
def gr1:Tr:=if x.up==2 then⟨plE x.limit p.step,0,x.down⟩else if x.down==2 then⟨miE x.limit p.step,x.up,0⟩else x
def grE(l9:Bool):Tr:={gr1 p (gr0 p x l9)with limit:=ET p (gr1 p (gr0 p x l9)).limit}
def gT(st:Int):Bool:=st==1||st==2
def qG(az time:Int):Rn:=⟨az,time,0,0,0,0,0,false,false,r.limit,r.up,r.down⟩
def HF:Int×Int:=if c.cut&&r.fst==1 then Us r.fst r.bI else JW p r.fst r.bI (c.push&& !c.bO)
def cg:Bool:=!gT r.fst&&(HF p r c).1==1
def iG:Rn:=
 ⟨1,bt r.time,(HF p r c).1,(HF p r c).2,U1 p r.left c.here,if c.bO then bt r.dX else r.dX,r.extra,if cg p r c then false else r.done,if cg p r c then false else r.l9,r.limit,r.up,r.down⟩
def cq:Bool:=decide (r.dX>=ET p r.limit)
def eH:Bool:=(((c.bO&& !r.done)&&decide (r.time>=p.min))&& !gT r.fst)&&((r.left==0||cq p r)||c.early)
def gx:Rn:=
 if c.fin then(if r.done then{qG r 2 1 with limit:=(grE p ⟨r.limit,r.up,r.down⟩ r.l9).limit,up:=(grE p ⟨r.limit,r.up,r.down⟩ r.l9).up,down:=(grE p ⟨r.limit,r.up,r.down⟩ r.l9).down}else qG r 2 1)
 else if eH p (iG p r c) c&&c.hold then{iG p r c with extra:=bt (iG p r c).extra}
 else if eH p (iG p r c) c then{iG p r c with done:=true,l9:=decide ((iG p r c).left>0)&&cq p (iG p r c)}else iG p r c
def Fg:Rn:=if c.start then{qG r 1 1 with fst:=(JW p 0 0 c.push).1,bI:=(JW p 0 0 c.push).2,left:=p.Zd}else qG r 0 (bt r.time)
def lP:Rn:=if r.time<p.dD then qG r 2 (bt r.time)else if p.red>0 then qG r 3 1 else qG r 0 1
def sg:Rn:=if r.time<p.red then qG r 3 (bt r.time)else qG r 0 1
def bG:Rn:=if r.az==1 then gx p r c else if r.az==2 then lP p r else if r.az==3 then sg p r else Fg p r c
def AB:Bool:=if r.az !=1||c.fin|| !c.hold then false else eH p (iG p r c) c
def gj:List AV:=p.cells++(r.cells++c.cells)
def HG.Spec:Prop:=∀p:Ph,C.c f [.agg p.cells] (.agg (Tr.cells ⟨p.max,0,0⟩)) none
def AD.Spec:Prop:=∀(p:Ph) (x:Tr),C.c f [.agg p.cells,.agg x.cells] (I (ET p x.limit)) none
def N0.Spec:Prop:=∀(p:Ph) (left:Int) (here:Bool),C.c f [.agg p.cells,I left,B here] (I (U1 p left here)) none
def N1.Spec:Prop:=∀a b:Int,C.c f [I a,I b] (I (plE a b)) none
def HH.Spec:Prop:=∀a b:Int,C.c f [I a,I b] (I (miE a b)) none
def N2.Spec:Prop:=∀(p:Ph) (x:Tr) (l9:Bool),C.c f [.agg p.cells,.agg x.cells,B l9] (.agg (grE p x l9).cells) none
def yL.Spec:Prop:=∀(p:Ph) (st time:Int) (b:Bool),C.c f [.agg p.cells,.agg [I st,I time],B b] (.agg [I (JW p st time b).1,I (JW p st time b).2]) none
def HI.Spec:Prop:=∀(st time:Int),C.c f [.agg [I st,I time]] (.agg [I (Us st time).1,I (Us st time).2]) none
def oq.Spec:Prop:=∀n:Int,C.c f [I n] (I (bt n)) none
def Ck.Spec:Prop:=∀st time:Int,C.c f [.agg [I st,I time]] (B (gT st)) none
def Cl.Spec:Prop:=∀p:Ph,C.c f [.agg p.cells] (.agg (zy p).cells) none
def N3.Spec:Prop:=∀(p:Ph) (r:Rn) (c:Cu) (a b:Int),C.c f [.agg (gj p r c),I a,I b] (.agg (qG r a b).cells) none
def N4.Spec:Prop:=∀(p:Ph) (r:Rn) (c:Cu),C.c f [.agg (gj p r c)] (.agg (Fg p r c).cells) none
def DB.Spec:Prop:=∀(p:Ph) (r:Rn) (c:Cu),C.c f [.agg (gj p r c)] (.dP [.agg (iG p r c).cells,B (eH p (iG p r c) c)]) none
def Cm.Spec:Prop:=∀(p:Ph) (r:Rn) (c:Cu),C.c f [.agg (gj p r c)] (.agg (gx p r c).cells) none
def xK.Spec:Prop:=∀(p:Ph) (r:Rn) (c:Cu),C.c f [.agg (gj p r c)] (.agg (lP p r).cells) none
def xL.Spec:Prop:=∀(p:Ph) (r:Rn) (c:Cu),C.c f [.agg (gj p r c)] (.agg (sg p r).cells) none
def HJ.Spec:Prop:=∀(p:Ph) (r:Rn) (c:Cu),C.c f [.agg p.cells,.agg r.cells,.agg c.cells] (.agg (bG p r c).cells) none
def HK.Spec:Prop:=∀(p:Ph) (r:Rn) (c:Cu),C.c f [.agg p.cells,.agg r.cells,.agg c.cells] (B (AB p r c)) none
theorem AE:(gj p r c).length=33/\aB (gj p r c) 0 (some 13)=some (.agg p.cells)/\aB (gj p r c) 13 (some 12)=some (.agg r.cells)/\aB (gj p r c) 15 (some 2)=some (.agg [I r.fst,I r.bI])/\aB (gj p r c) 22 (some 3)=some (.agg (Tr.cells ⟨r.limit,r.up,r.down⟩))/\aB (gj p r c) 0 (some 33)=some (.agg (gj p r c)):=⟨rfl,rfl,rfl,rfl,rfl,rfl⟩
theorem LD:(gj p r c)[1]? =some (I p.min)/\(gj p r c)[2]? =some (I p.Zd)/\(gj p r c)[6]? =some (I p.dD)/\(gj p r c)[7]? =some (I p.red):=⟨rfl,rfl,rfl,rfl⟩
theorem HL:(gj p r c)[14]? =some (I r.time)/\(gj p r c)[15]? =some (I r.fst)/\(gj p r c)[17]? =some (I r.left)/\(gj p r c)[18]? =some (I r.dX)/\(gj p r c)[20]? =some (B r.done)/\(gj p r c)[21]? =some (B r.l9):=⟨rfl,rfl,rfl,rfl,rfl,rfl⟩
theorem P6:(gj p r c)[25]? =some (B c.start)/\(gj p r c)[26]? =some (B c.fin)/\(gj p r c)[27]? =some (B c.here)/\(gj p r c)[28]? =some (B c.push)/\(gj p r c)[29]? =some (B c.bO)/\(gj p r c)[30]? =some (B c.hold)/\(gj p r c)[31]? =some (B c.early)/\(gj p r c)[32]? =some (B c.cut):=⟨rfl,rfl,rfl,rfl,rfl,rfl,rfl,rfl⟩
end
section
variable{P:Program} (hm:P.follows .mixedOrders=true) {f:Nat}
include hm
section
variable {L O R V:Nat}
omit hm in
theorem XA(n:Int):(if 9999<(if 0>n then 0 else n)then 9999 else(if 0>n then 0 else n))=gM n 0 9999:=by
 unfold gM;split<;>split<;>(try split)<;>omega
theorem oq.ok(D:bK P f=some zH):oq.Spec (Pure P) f:=by
 intro n
 have L:=XA n
 refine aq hm D [] rfl ?_;try simp only[I,RX,↓KW,seval,zH,Z.H]
 rw[L];rfl
theorem abE.ok(D:bK P f=some ER):oq.Spec (Pure P) f:=by
 intro n
 have L:=XA n
 refine aq hm D [] rfl ?_;try simp only[I,RX,↓KW,seval,ER,Z.H]
 rw[L];rfl
theorem HG.ok(D:bK P f=some B8):HG.Spec (Pure P) f:=by
 intro p;refine aq hm D [] rfl ?_;try simp only[I,B,RX,↓KW,seval,B8,Z.H,Ph.cells]
 rfl
theorem AD.ok(D:bK P f=some Ce):AD.Spec (Pure P) f:=by
 intro p x;refine aq hm D [] rfl ?_;try simp only[I,B,RX,↓KW,seval,Ce,Z.H,Ph.cells,Tr.cells]
 rfl
theorem N1.ok(R:bK P f=some ES):N1.Spec (Pure P) f:=by
 intro a b;refine aq hm R [] rfl ?_;try simp only[I,RX,↓KW,seval,ES,Z.H]
 cases O:decide (b>0)<;>cases M:decide (a>IntKind.i64.wrap (9223372036854775807-b))<;>cases L:decide (b<0)<;>cases h4:decide (a<IntKind.i64.wrap (-9223372036854775808-b))<;>
 (try simp only[RX,↓KW,seval,M,L,h4];try(try simp only[I,B,D,RX,↓KW,seval,O,M,L,h4]);rw[plE,O,M,L,h4];rfl)
theorem HH.ok(R:bK P f=some Cf):HH.Spec (Pure P) f:=by
 intro a b;refine aq hm R [] rfl ?_;try simp only[I,RX,↓KW,seval,Cf,Z.H]
 cases O:decide (b>0)<;>cases M:decide (a<IntKind.i64.wrap (-9223372036854775808+b))<;>cases L:decide (b<0)<;>cases h4:decide (a>IntKind.i64.wrap (9223372036854775807+b))<;>
 (try simp only[RX,↓KW,seval,M,L,h4];try(try simp only[I,B,D,RX,↓KW,seval,O,M,L,h4]);rw[miE,O,M,L,h4];rfl)
theorem N0.ok(M:bK P f=some EO):N0.Spec (Pure P) f:=by
 intro p left here;refine aq hm M [] rfl ?_;try simp only[I,B,RX,↓KW,seval,EO,Z.H,Ph.cells]
 cases here
 ·try simp only[RX,↓KW,seval]
  cases D:decide (left>9999)
  ·try simp only[RX,↓KW,seval]
   cases L:decide (left>0)
   ·try simp only[RX,↓KW,seval]
    have a:=dT D
    have b:=dT L
    simp only[U1,fb a,fb b,eQ,il]
   ·try simp only[RX,↓KW,seval]
    have a:=dT D
    have b:=dE L
    rw[aU ado ado]
    simp only[U1,fb a,fp b,eQ,il]
  ·try simp only[RX,↓KW,seval]
   have a:=dE D
   simp only[U1,fp a,eQ,il]
   try rfl
 ·try simp only[RX,↓KW,seval]
  try rfl
theorem N2.ok(hc:bK P f=some (EP V R O)) (hL:AD.Spec (Pure P) V) (hP:N1.Spec (Pure P) R) (hM:HH.Spec (Pure P) O):N2.Spec (Pure P) f:=by
 intro p x l9
 have q:∀p:Ph,p.cells.length=13/\aB p.cells 0 (some 13)=some (.agg p.cells)/\p.cells[5]? =some (I p.step):=λ_=>⟨rfl,rfl,rfl⟩
 have qx:∀x:Tr,x.cells.length=3/\aB x.cells 0 (some 3)=some (.agg x.cells)/\x.cells[0]? =some (I x.limit)/\x.cells[1]? =some (I x.up)/\x.cells[2]? =some (I x.down):=λ_=>⟨rfl,rfl,rfl,rfl,rfl⟩
 have hw:∀n:Int,IntKind.i64.wrap ((if 1<(if 0>n then 0 else n)then 1 else(if 0>n then 0 else n))+1)=c01 n:=λn=>by
  rw[aU (by split<;>split<;>omega) (by split<;>split<;>omega)];rfl
 have z3:∀x:Tr,setCells [I 0,I 0,I 0] 0 x.cells=x.cells:=λ_=>rfl
 have M:∀a b c:Int,setCells [I 0,I 0,I 0] 0 [I a,I b,I c]=Tr.cells ⟨a,b,c⟩:=λ_ _ _=>rfl
 have s0:∀(x:Tr) (y:Int),setCells x.cells 0 [I y]=({x with limit:=y}:Tr).cells:=λ_ _=>rfl
 have s1:∀(x:Tr) (y:Int),setCells x.cells 1 [I y]=({x with up:=y}:Tr).cells:=λ_ _=>rfl
 have s2:∀(x:Tr) (y:Int),setCells x.cells 2 [I y]=({x with down:=y}:Tr).cells:=λ_ _=>rfl
 have D:=dC q (dC qx (dC hw (dC z3 (dC M (dC s0 (dC s1 (s2)))))))
 refine aq hm hc [] rfl ?_;try simp only[B,RY,↓KW,seval,EP,Z.H,D]
 refine af (hL p x) ?_;try simp only[I,RY,↓KW,seval,D]
 cases l9
 ·try simp only[I,RY,↓KW,seval,D]
  cases L:(c01 x.down==2)
  ·try simp only[RY,↓KW,seval,D]
   refine af (hL p ⟨ET p x.limit,0,c01 x.down⟩) ?_;try simp only[I,RY,↓KW,seval,D]
   simp[grE,gr0,gr1,L]
  ·try simp only[I,RY,↓KW,seval,D]
   refine af (hM (ET p x.limit) p.step) ?_;try simp only[I,RY,↓KW,seval,D]
   refine af (hL p ⟨miE (ET p x.limit) p.step,0,0⟩) ?_;try simp only[I,RY,↓KW,seval,D]
   simp[grE,gr0,gr1,L]
 ·try simp only[I,RY,↓KW,seval,D]
  cases L:(c01 x.up==2)
  ·try simp only[I,RY,↓KW,seval,D]
   refine af (hL p ⟨ET p x.limit,c01 x.up,0⟩) ?_;try simp only[I,RY,↓KW,seval,D]
   simp[grE,gr0,gr1,L]
  ·try simp only[I,RY,↓KW,seval,D]
   refine af (hP (ET p x.limit) p.step) ?_;try simp only[I,RY,↓KW,seval,D]
   refine af (hL p ⟨plE (ET p x.limit) p.step,0,0⟩) ?_;try simp only[I,RY,↓KW,seval,D]
   simp[grE,gr0,gr1,L]
theorem yL.ok(hc:bK P f=some (EN V)) (hM:oq.Spec (Pure P) V):yL.Spec (Pure P) f:=by
 intro p st time b;refine aq hm hc [] rfl ?_;try simp only[I,B,RX,↓KW,seval,EN,Z.H,Ph.cells]
 cases M:(st==1)<;>cases O:(st==2)<;>cases L:decide (time>=p.walk)<;>cases h4:decide (time>=p.cz)<;>cases b<;>cases R:decide (p.walk>0)
 all_goals try simp only[RX,↓KW,seval,M,O,L,h4,R]
 all_goals try simp only[I,B,D,RX,↓KW,seval,M,O,L,h4,R,Ph.cells]
 all_goals(try(refine af (hM _) ?_))
 all_goals try simp only[I,RX,↓KW,seval]
 all_goals simp only[JW,M,O,L,h4,R,sh,pm,M2,Bool.or_false,eQ,kw,il]
theorem HI.ok(L:bK P f=some HB):HI.Spec (Pure P) f:=by
 intro st time;refine aq hm L [] rfl ?_;try simp only[I,RX,↓KW,seval,HB,Z.H]
 cases D:(st==1)
 ·try simp only[RX,↓KW,seval]
  simp[Us,D]
 ·try simp only[RX,↓KW,seval]
  simp[Us,D]
theorem Ck.ok(L:bK P f=some xJ):Ck.Spec (Pure P) f:=by
 intro st time;refine aq hm L [] rfl ?_;try simp only[I,B,RX,↓KW,seval,xJ,Z.H]
 cases D:(st==1)
 ·try simp only[RX,↓KW,seval]
  simp[gT,D]
 ·try simp only[RX,↓KW,seval]
  simp[gT,D]
theorem Cl.ok{D:Nat} (L:bK P f=some (xF D)) (M:HG.Spec (Pure P) D):Cl.Spec (Pure P) f:=by
 intro p
 have q:aB p.cells 0 (some 13)=some (.agg p.cells):=rfl
 refine aq hm L [] rfl ?_;try simp only[RX,↓KW,seval,xF,Z.H,q]
 refine af (M p) ?_;try simp only[I,RX,↓KW,seval,Tr.cells,bB]
 rfl
theorem N3.ok(D:bK P f=some tG):N3.Spec (Pure P) f:=by
 intro p r c a b
 have L:=AE p r c
 refine aq hm D [] rfl ?_;try simp only[I,RX,↓KW,seval,tG,Z.H,L,Tr.cells,bB]
 rfl
theorem N4.ok{M:Nat} (V:bK P f=some (ru L R M)) (hM:oq.Spec (Pure P) L) (hA:N3.Spec (Pure P) R) (hP:yL.Spec (Pure P) M):N4.Spec (Pure P) f:=by
 intro p r c
 have t1:=AE p r c
 have t2:=LD p r c
 have t3:=HL p r c
 have t4:=P6 p r c
 have D:=dC t1 (dC t2 (dC t3 (t4)))
 refine aq hm V [] rfl ?_;try simp only[B,RX,↓KW,seval,ru,Z.H,D,bB]
 cases O:c.start
 ·try simp only[I,RX,↓KW,seval,D]
  refine af (hM _) ?_;try simp only[I,RX,↓KW,seval]
  refine af (hA p r c _ _) ?_;try simp only[I,B,RX,↓KW,seval,Rn.cells,qG]
  simp[Fg,O,qG]
 ·try simp only[RX,↓KW,seval,D]
  refine af (hA p r c _ _) ?_;try simp only[I,B,RX,↓KW,seval,Rn.cells,qG]
  refine ep rfl ?_;try simp only[B,RX,↓KW,seval,D]
  refine af (hP p 0 0 c.push) ?_;try simp only[I,RX,↓KW,seval,D]
  simp[Fg,O,qG]
theorem xK.ok(V:bK P f=some (nQ L R)) (hM:oq.Spec (Pure P) L) (hA:N3.Spec (Pure P) R):xK.Spec (Pure P) f:=by
 intro p r c
 have t1:=AE p r c
 have t2:=LD p r c
 have t3:=HL p r c
 have D:=dC t1 (dC t2 (t3))
 refine aq hm V [] rfl ?_;try simp only[I,RX,↓KW,seval,nQ,Z.H,D,bB]
 cases M:decide (r.time<p.dD)
 ·have a:=dT M
  try simp only[I,RX,↓KW,seval,D]
  cases O:decide (p.red>0)
  ·have b:=dT O
   try simp only[RX,↓KW,seval,D]
   refine af (hA p r c _ _) ?_;try simp only[I,B,RX,↓KW,seval,Rn.cells,qG]
   simp only[lP,fb a,fb b,qG]
  ·have b:=dE O
   try simp only[RX,↓KW,seval,D]
   refine af (hA p r c _ _) ?_;try simp only[I,B,RX,↓KW,seval,Rn.cells,qG]
   simp only[lP,fb a,fp b,qG]
 ·have a:=dE M
  try simp only[I,RX,↓KW,seval,D]
  refine af (hM _) ?_;try simp only[I,RX,↓KW,seval]
  refine af (hA p r c _ _) ?_;try simp only[I,B,RX,↓KW,seval,Rn.cells,qG]
  simp only[lP,fp a,qG]
theorem xL.ok(R:bK P f=some (nS L O)) (hM:oq.Spec (Pure P) L) (hA:N3.Spec (Pure P) O):xL.Spec (Pure P) f:=by
 intro p r c
 have t1:=AE p r c
 have t2:=LD p r c
 have V:=HL p r c
 have D:=dC t1 (dC t2 (V))
 refine aq hm R [] rfl ?_;try simp only[I,RX,↓KW,seval,nS,Z.H,D,bB]
 cases M:decide (r.time<p.red)
 ·have a:=dT M
  try simp only[RX,↓KW,seval,D]
  refine af (hA p r c _ _) ?_;try simp only[I,B,RX,↓KW,seval,Rn.cells,qG]
  simp only[sg,fb a,qG]
 ·have a:=dE M
  try simp only[I,RX,↓KW,seval,D]
  refine af (hM _) ?_;try simp only[I,RX,↓KW,seval]
  refine af (hA p r c _ _) ?_;try simp only[I,B,RX,↓KW,seval,Rn.cells,qG]
  simp only[sg,fp a,qG]
omit hm in
theorem bc(b:Bool):b=false\/b=true:=by cases b<;>simp
set_option maxHeartbeats 40000000 in
theorem DB.ok{fM fC fP fS fL fI:Nat} (hc:bK P f=some (qb fM fC fP fS fL fI)) (hM:oq.Spec (Pure P) fM) (hC:HI.Spec (Pure P) fC) (hP:yL.Spec (Pure P) fP) (hS:Ck.Spec (Pure P) fS) (hL:N0.Spec (Pure P) fL) (hI:AD.Spec (Pure P) fI):DB.Spec (Pure P) f:=by
 intro p r c
 have t1:=AE p r c
 have t2:=LD p r c
 have t3:=HL p r c
 have t4:=P6 p r c
 have L:=dC t1 (dC t2 (dC t3 (t4)))
 obtain⟨a,b,O⟩:∃a b,HF p r c=(a,b):=⟨_,_,rfl⟩
 obtain⟨d,hd⟩:∃d,cg p r c=d:=⟨_,rfl⟩
 refine aq hm hc [] rfl ?_;try simp only[I,B,D,RX,↓KW,seval,qb,Z.H,L,bB,Rn.cells]
 refine af (hM _) ?_;try simp only[I,B,D,RX,↓KW,seval,L,Rn.cells]
 have ac:∀q,(c.push&& !c.bO)=q->((c.cut&&r.fst==1)=false)->(Pure P).c fP [.agg p.cells,.agg [I r.fst,I r.bI],B q] (.agg [I a,I b]) none:=λq h1 h2=>by
  have h3:=hP p r.fst r.bI q
  have hF:=O
  rw[HF,h2,h1]at hF;simp only[eQ,il]at hF;rw[hF]at h3;exact h3
 have ad:c.cut=true->(r.fst==1)=true->(Pure P).c fC [.agg [I r.fst,I r.bI]] (.agg [I a,I b]) none:=λh1 h2=>by
  have h3:=hC r.fst r.bI
  have hF:=O
  rw[HF,h1,h2]at hF;simp only[H0,kw]at hF;rw[hF]at h3;exact h3
 have J:(c.cut=false/\(c.cut&&r.fst==1)=false)\/(c.cut=true/\(r.fst==1)=false/\(c.cut&&r.fst==1)=false)\/(c.cut=true/\(r.fst==1)=true/\(c.cut&&r.fst==1)=true):=by
  rcases bc c.cut with h|h<;>rcases bc (r.fst==1)with h'|h'<;>simp[h,h']
 have K:(c.push=false/\(c.push&& !c.bO)=false)\/(c.push=true/\c.bO=false/\(c.push&& !c.bO)=true)\/(c.push=true/\c.bO=true/\(c.push&& !c.bO)=false):=by
  rcases bc c.push with h|h<;>rcases bc c.bO with h'|h'<;>simp[h,h']
 rcases J with⟨j1,j3⟩|⟨j1,j2,j3⟩|⟨j1,j2,j3⟩
 ·try simp only[I,B,D,RX,↓KW,seval,j1,L,Rn.cells]
  rcases K with⟨k1,k3⟩|⟨k1,k2,k3⟩|⟨k1,k2,k3⟩
  ·try simp only[I,B,D,RX,↓KW,seval,k1,L,Rn.cells]
   refine af (ac _ k3 j3) ?_;try simp only[I,B,D,RX,↓KW,seval,L,Rn.cells]
   refine af (hS r.fst r.bI) ?_;try simp only[I,B,D,RX,↓KW,seval,L,Rn.cells]
   rcases bc (gT r.fst)with R|R
   all_goals try simp only[I,B,D,RX,↓KW,seval,R,L,Rn.cells]
   rcases bc (a==1)with ha|ha
   all_goals try simp only[I,B,D,RX,↓KW,seval,ha,L,Rn.cells]
   all_goals(refine af (hL p r.left c.here) ?_)
   all_goals try simp only[I,B,D,RX,↓KW,seval,L,Rn.cells]
   all_goals rcases bc c.bO with M|M
   all_goals try simp only[I,B,D,RX,↓KW,seval,M,L,Rn.cells]
   all_goals(try(refine af (hM r.dX) ?_))
   all_goals try simp only[I,B,D,RX,↓KW,seval,L,Rn.cells]
   all_goals(refine af (hI p ⟨r.limit,r.up,r.down⟩) ?_)
   all_goals try simp only[I,B,D,RX,↓KW,seval,M,L,Rn.cells]
   all_goals(refine ep rfl ?_)
   all_goals try simp only[I,B,D,RX,↓KW,seval,M,L,Rn.cells]
   all_goals(first|(show AV.dP _=AV.dP _;simp[iG,eH,cq,cg,Rn.cells,O,R,M, *];done)|(rcases bc r.done with aa|aa<;>try simp only[I,B,D,RX,↓KW,seval,aa,L,Rn.cells]))
   all_goals(first|(show AV.dP _=AV.dP _;simp[iG,eH,cq,cg,Rn.cells,O,R,M, *];done)|(rcases bc (decide (bt r.time>=p.min))with ht|ht<;>try simp only[I,B,D,RX,↓KW,seval,ht,L,Rn.cells]))
   all_goals(first|(show AV.dP _=AV.dP _;simp[iG,eH,cq,cg,Rn.cells,O,R,M, *];done)|(refine af (hS a b) ?_))
   all_goals try simp only[I,B,D,RX,↓KW,seval,L,Rn.cells]
   all_goals(first|(show AV.dP _=AV.dP _;simp[iG,eH,cq,cg,Rn.cells,O,R,M, *];done)|(rcases bc (gT a)with ab|ab<;>try simp only[I,B,D,RX,↓KW,seval,ab,L,Rn.cells]))
   all_goals(first|(show AV.dP _=AV.dP _;simp[iG,eH,cq,cg,Rn.cells,O,R,M, *];done)|(rcases bc (U1 p r.left c.here==0)with hl|hl<;>try simp only[I,B,D,RX,↓KW,seval,hl,L,Rn.cells]))
   all_goals(first|(show AV.dP _=AV.dP _;simp[iG,eH,cq,cg,Rn.cells,O,R,M, *];done)|(rcases bc (decide (bt r.dX>=ET p r.limit))with V|V<;>try simp only[I,B,D,RX,↓KW,seval,V,L,Rn.cells]))
   all_goals(first|(show AV.dP _=AV.dP _;simp[iG,eH,cq,cg,Rn.cells,O,R,M, *];done)|(rcases bc c.early with he|he<;>try simp only[I,B,D,RX,↓KW,seval,he,L,Rn.cells]))
   all_goals(first|(show AV.dP _=AV.dP _;simp[iG,eH,cq,cg,Rn.cells,O,R,M, *];done)|skip)
  ·try simp only[I,B,D,RX,↓KW,seval,k1,k2,L,Rn.cells]
   refine af (ac _ k3 j3) ?_;try simp only[I,B,D,RX,↓KW,seval,L,Rn.cells]
   refine af (hS r.fst r.bI) ?_;try simp only[I,B,D,RX,↓KW,seval,L,Rn.cells]
   rcases bc (gT r.fst)with R|R
   all_goals try simp only[I,B,D,RX,↓KW,seval,R,L,Rn.cells]
   rcases bc (a==1)with ha|ha
   all_goals try simp only[I,B,D,RX,↓KW,seval,ha,L,Rn.cells]
   all_goals(refine af (hL p r.left c.here) ?_)
   all_goals try simp only[I,B,D,RX,↓KW,seval,L,Rn.cells]
   all_goals rcases bc c.bO with M|M
   all_goals try simp only[I,B,D,RX,↓KW,seval,M,L,Rn.cells]
   all_goals(try(refine af (hM r.dX) ?_))
   all_goals try simp only[I,B,D,RX,↓KW,seval,L,Rn.cells]
   all_goals(refine af (hI p ⟨r.limit,r.up,r.down⟩) ?_)
   all_goals try simp only[I,B,D,RX,↓KW,seval,M,L,Rn.cells]
   all_goals(refine ep rfl ?_)
   all_goals try simp only[I,B,D,RX,↓KW,seval,M,L,Rn.cells]
   all_goals(first|(show AV.dP _=AV.dP _;simp[iG,eH,cq,cg,Rn.cells,O,R,M, *];done)|(rcases bc r.done with aa|aa<;>try simp only[I,B,D,RX,↓KW,seval,aa,L,Rn.cells]))
   all_goals(first|(show AV.dP _=AV.dP _;simp[iG,eH,cq,cg,Rn.cells,O,R,M, *];done)|(rcases bc (decide (bt r.time>=p.min))with ht|ht<;>try simp only[I,B,D,RX,↓KW,seval,ht,L,Rn.cells]))
   all_goals(first|(show AV.dP _=AV.dP _;simp[iG,eH,cq,cg,Rn.cells,O,R,M, *];done)|(refine af (hS a b) ?_))
   all_goals try simp only[I,B,D,RX,↓KW,seval,L,Rn.cells]
   all_goals(first|(show AV.dP _=AV.dP _;simp[iG,eH,cq,cg,Rn.cells,O,R,M, *];done)|(rcases bc (gT a)with ab|ab<;>try simp only[I,B,D,RX,↓KW,seval,ab,L,Rn.cells]))
   all_goals(first|(show AV.dP _=AV.dP _;simp[iG,eH,cq,cg,Rn.cells,O,R,M, *];done)|(rcases bc (U1 p r.left c.here==0)with hl|hl<;>try simp only[I,B,D,RX,↓KW,seval,hl,L,Rn.cells]))
   all_goals(first|(show AV.dP _=AV.dP _;simp[iG,eH,cq,cg,Rn.cells,O,R,M, *];done)|(rcases bc (decide (bt r.dX>=ET p r.limit))with V|V<;>try simp only[I,B,D,RX,↓KW,seval,V,L,Rn.cells]))
   all_goals(first|(show AV.dP _=AV.dP _;simp[iG,eH,cq,cg,Rn.cells,O,R,M, *];done)|(rcases bc c.early with he|he<;>try simp only[I,B,D,RX,↓KW,seval,he,L,Rn.cells]))
   all_goals(first|(show AV.dP _=AV.dP _;simp[iG,eH,cq,cg,Rn.cells,O,R,M, *];done)|skip)
  ·try simp only[I,B,D,RX,↓KW,seval,k1,k2,L,Rn.cells]
   refine af (ac _ k3 j3) ?_;try simp only[I,B,D,RX,↓KW,seval,L,Rn.cells]
   refine af (hS r.fst r.bI) ?_;try simp only[I,B,D,RX,↓KW,seval,L,Rn.cells]
   rcases bc (gT r.fst)with R|R
   all_goals try simp only[I,B,D,RX,↓KW,seval,R,L,Rn.cells]
   rcases bc (a==1)with ha|ha
   all_goals try simp only[I,B,D,RX,↓KW,seval,ha,L,Rn.cells]
   all_goals(refine af (hL p r.left c.here) ?_)
   all_goals try simp only[I,B,D,RX,↓KW,seval,L,Rn.cells]
   all_goals rcases bc c.bO with M|M
   all_goals try simp only[I,B,D,RX,↓KW,seval,M,L,Rn.cells]
   all_goals(try(refine af (hM r.dX) ?_))
   all_goals try simp only[I,B,D,RX,↓KW,seval,L,Rn.cells]
   all_goals(refine af (hI p ⟨r.limit,r.up,r.down⟩) ?_)
   all_goals try simp only[I,B,D,RX,↓KW,seval,M,L,Rn.cells]
   all_goals(refine ep rfl ?_)
   all_goals try simp only[I,B,D,RX,↓KW,seval,M,L,Rn.cells]
   all_goals(first|(show AV.dP _=AV.dP _;simp[iG,eH,cq,cg,Rn.cells,O,R,M, *];done)|(rcases bc r.done with aa|aa<;>try simp only[I,B,D,RX,↓KW,seval,aa,L,Rn.cells]))
   all_goals(first|(show AV.dP _=AV.dP _;simp[iG,eH,cq,cg,Rn.cells,O,R,M, *];done)|(rcases bc (decide (bt r.time>=p.min))with ht|ht<;>try simp only[I,B,D,RX,↓KW,seval,ht,L,Rn.cells]))
   all_goals(first|(show AV.dP _=AV.dP _;simp[iG,eH,cq,cg,Rn.cells,O,R,M, *];done)|(refine af (hS a b) ?_))
   all_goals try simp only[I,B,D,RX,↓KW,seval,L,Rn.cells]
   all_goals(first|(show AV.dP _=AV.dP _;simp[iG,eH,cq,cg,Rn.cells,O,R,M, *];done)|(rcases bc (gT a)with ab|ab<;>try simp only[I,B,D,RX,↓KW,seval,ab,L,Rn.cells]))
   all_goals(first|(show AV.dP _=AV.dP _;simp[iG,eH,cq,cg,Rn.cells,O,R,M, *];done)|(rcases bc (U1 p r.left c.here==0)with hl|hl<;>try simp only[I,B,D,RX,↓KW,seval,hl,L,Rn.cells]))
   all_goals(first|(show AV.dP _=AV.dP _;simp[iG,eH,cq,cg,Rn.cells,O,R,M, *];done)|(rcases bc (decide (bt r.dX>=ET p r.limit))with V|V<;>try simp only[I,B,D,RX,↓KW,seval,V,L,Rn.cells]))
   all_goals(first|(show AV.dP _=AV.dP _;simp[iG,eH,cq,cg,Rn.cells,O,R,M, *];done)|(rcases bc c.early with he|he<;>try simp only[I,B,D,RX,↓KW,seval,he,L,Rn.cells]))
   all_goals(first|(show AV.dP _=AV.dP _;simp[iG,eH,cq,cg,Rn.cells,O,R,M, *];done)|skip)
 ·try simp only[I,B,D,RX,↓KW,seval,j1,j2,L,Rn.cells]
  try simp only[I,B,D,RX,↓KW,seval,j1,j2,L,Rn.cells]
  rcases K with⟨k1,k3⟩|⟨k1,k2,k3⟩|⟨k1,k2,k3⟩
  ·try simp only[I,B,D,RX,↓KW,seval,k1,L,Rn.cells]
   refine af (ac _ k3 j3) ?_;try simp only[I,B,D,RX,↓KW,seval,L,Rn.cells]
   refine af (hS r.fst r.bI) ?_;try simp only[I,B,D,RX,↓KW,seval,L,Rn.cells]
   rcases bc (gT r.fst)with R|R
   all_goals try simp only[I,B,D,RX,↓KW,seval,R,L,Rn.cells]
   rcases bc (a==1)with ha|ha
   all_goals try simp only[I,B,D,RX,↓KW,seval,ha,L,Rn.cells]
   all_goals(refine af (hL p r.left c.here) ?_)
   all_goals try simp only[I,B,D,RX,↓KW,seval,L,Rn.cells]
   all_goals rcases bc c.bO with M|M
   all_goals try simp only[I,B,D,RX,↓KW,seval,M,L,Rn.cells]
   all_goals(try(refine af (hM r.dX) ?_))
   all_goals try simp only[I,B,D,RX,↓KW,seval,L,Rn.cells]
   all_goals(refine af (hI p ⟨r.limit,r.up,r.down⟩) ?_)
   all_goals try simp only[I,B,D,RX,↓KW,seval,M,L,Rn.cells]
   all_goals(refine ep rfl ?_)
   all_goals try simp only[I,B,D,RX,↓KW,seval,M,L,Rn.cells]
   all_goals(first|(show AV.dP _=AV.dP _;simp[iG,eH,cq,cg,Rn.cells,O,R,M, *];done)|(rcases bc r.done with aa|aa<;>try simp only[I,B,D,RX,↓KW,seval,aa,L,Rn.cells]))
   all_goals(first|(show AV.dP _=AV.dP _;simp[iG,eH,cq,cg,Rn.cells,O,R,M, *];done)|(rcases bc (decide (bt r.time>=p.min))with ht|ht<;>try simp only[I,B,D,RX,↓KW,seval,ht,L,Rn.cells]))
   all_goals(first|(show AV.dP _=AV.dP _;simp[iG,eH,cq,cg,Rn.cells,O,R,M, *];done)|(refine af (hS a b) ?_))
   all_goals try simp only[I,B,D,RX,↓KW,seval,L,Rn.cells]
   all_goals(first|(show AV.dP _=AV.dP _;simp[iG,eH,cq,cg,Rn.cells,O,R,M, *];done)|(rcases bc (gT a)with ab|ab<;>try simp only[I,B,D,RX,↓KW,seval,ab,L,Rn.cells]))
   all_goals(first|(show AV.dP _=AV.dP _;simp[iG,eH,cq,cg,Rn.cells,O,R,M, *];done)|(rcases bc (U1 p r.left c.here==0)with hl|hl<;>try simp only[I,B,D,RX,↓KW,seval,hl,L,Rn.cells]))
   all_goals(first|(show AV.dP _=AV.dP _;simp[iG,eH,cq,cg,Rn.cells,O,R,M, *];done)|(rcases bc (decide (bt r.dX>=ET p r.limit))with V|V<;>try simp only[I,B,D,RX,↓KW,seval,V,L,Rn.cells]))
   all_goals(first|(show AV.dP _=AV.dP _;simp[iG,eH,cq,cg,Rn.cells,O,R,M, *];done)|(rcases bc c.early with he|he<;>try simp only[I,B,D,RX,↓KW,seval,he,L,Rn.cells]))
   all_goals(first|(show AV.dP _=AV.dP _;simp[iG,eH,cq,cg,Rn.cells,O,R,M, *];done)|skip)
  ·try simp only[I,B,D,RX,↓KW,seval,k1,k2,L,Rn.cells]
   refine af (ac _ k3 j3) ?_;try simp only[I,B,D,RX,↓KW,seval,L,Rn.cells]
   refine af (hS r.fst r.bI) ?_;try simp only[I,B,D,RX,↓KW,seval,L,Rn.cells]
   rcases bc (gT r.fst)with R|R
   all_goals try simp only[I,B,D,RX,↓KW,seval,R,L,Rn.cells]
   rcases bc (a==1)with ha|ha
   all_goals try simp only[I,B,D,RX,↓KW,seval,ha,L,Rn.cells]
   all_goals(refine af (hL p r.left c.here) ?_)
   all_goals try simp only[I,B,D,RX,↓KW,seval,L,Rn.cells]
   all_goals rcases bc c.bO with M|M
   all_goals try simp only[I,B,D,RX,↓KW,seval,M,L,Rn.cells]
   all_goals(try(refine af (hM r.dX) ?_))
   all_goals try simp only[I,B,D,RX,↓KW,seval,L,Rn.cells]
   all_goals(refine af (hI p ⟨r.limit,r.up,r.down⟩) ?_)
   all_goals try simp only[I,B,D,RX,↓KW,seval,M,L,Rn.cells]
   all_goals(refine ep rfl ?_)
   all_goals try simp only[I,B,D,RX,↓KW,seval,M,L,Rn.cells]
   all_goals(first|(show AV.dP _=AV.dP _;simp[iG,eH,cq,cg,Rn.cells,O,R,M, *];done)|(rcases bc r.done with aa|aa<;>try simp only[I,B,D,RX,↓KW,seval,aa,L,Rn.cells]))
   all_goals(first|(show AV.dP _=AV.dP _;simp[iG,eH,cq,cg,Rn.cells,O,R,M, *];done)|(rcases bc (decide (bt r.time>=p.min))with ht|ht<;>try simp only[I,B,D,RX,↓KW,seval,ht,L,Rn.cells]))
   all_goals(first|(show AV.dP _=AV.dP _;simp[iG,eH,cq,cg,Rn.cells,O,R,M, *];done)|(refine af (hS a b) ?_))
   all_goals try simp only[I,B,D,RX,↓KW,seval,L,Rn.cells]
   all_goals(first|(show AV.dP _=AV.dP _;simp[iG,eH,cq,cg,Rn.cells,O,R,M, *];done)|(rcases bc (gT a)with ab|ab<;>try simp only[I,B,D,RX,↓KW,seval,ab,L,Rn.cells]))
   all_goals(first|(show AV.dP _=AV.dP _;simp[iG,eH,cq,cg,Rn.cells,O,R,M, *];done)|(rcases bc (U1 p r.left c.here==0)with hl|hl<;>try simp only[I,B,D,RX,↓KW,seval,hl,L,Rn.cells]))
   all_goals(first|(show AV.dP _=AV.dP _;simp[iG,eH,cq,cg,Rn.cells,O,R,M, *];done)|(rcases bc (decide (bt r.dX>=ET p r.limit))with V|V<;>try simp only[I,B,D,RX,↓KW,seval,V,L,Rn.cells]))
   all_goals(first|(show AV.dP _=AV.dP _;simp[iG,eH,cq,cg,Rn.cells,O,R,M, *];done)|(rcases bc c.early with he|he<;>try simp only[I,B,D,RX,↓KW,seval,he,L,Rn.cells]))
   all_goals(first|(show AV.dP _=AV.dP _;simp[iG,eH,cq,cg,Rn.cells,O,R,M, *];done)|skip)
  ·try simp only[I,B,D,RX,↓KW,seval,k1,k2,L,Rn.cells]
   refine af (ac _ k3 j3) ?_;try simp only[I,B,D,RX,↓KW,seval,L,Rn.cells]
   refine af (hS r.fst r.bI) ?_;try simp only[I,B,D,RX,↓KW,seval,L,Rn.cells]
   rcases bc (gT r.fst)with R|R
   all_goals try simp only[I,B,D,RX,↓KW,seval,R,L,Rn.cells]
   rcases bc (a==1)with ha|ha
   all_goals try simp only[I,B,D,RX,↓KW,seval,ha,L,Rn.cells]
   all_goals(refine af (hL p r.left c.here) ?_)
   all_goals try simp only[I,B,D,RX,↓KW,seval,L,Rn.cells]
   all_goals rcases bc c.bO with M|M
   all_goals try simp only[I,B,D,RX,↓KW,seval,M,L,Rn.cells]
   all_goals(try(refine af (hM r.dX) ?_))
   all_goals try simp only[I,B,D,RX,↓KW,seval,L,Rn.cells]
   all_goals(refine af (hI p ⟨r.limit,r.up,r.down⟩) ?_)
   all_goals try simp only[I,B,D,RX,↓KW,seval,M,L,Rn.cells]
   all_goals(refine ep rfl ?_)
   all_goals try simp only[I,B,D,RX,↓KW,seval,M,L,Rn.cells]
   all_goals(first|(show AV.dP _=AV.dP _;simp[iG,eH,cq,cg,Rn.cells,O,R,M, *];done)|(rcases bc r.done with aa|aa<;>try simp only[I,B,D,RX,↓KW,seval,aa,L,Rn.cells]))
   all_goals(first|(show AV.dP _=AV.dP _;simp[iG,eH,cq,cg,Rn.cells,O,R,M, *];done)|(rcases bc (decide (bt r.time>=p.min))with ht|ht<;>try simp only[I,B,D,RX,↓KW,seval,ht,L,Rn.cells]))
   all_goals(first|(show AV.dP _=AV.dP _;simp[iG,eH,cq,cg,Rn.cells,O,R,M, *];done)|(refine af (hS a b) ?_))
   all_goals try simp only[I,B,D,RX,↓KW,seval,L,Rn.cells]
   all_goals(first|(show AV.dP _=AV.dP _;simp[iG,eH,cq,cg,Rn.cells,O,R,M, *];done)|(rcases bc (gT a)with ab|ab<;>try simp only[I,B,D,RX,↓KW,seval,ab,L,Rn.cells]))
   all_goals(first|(show AV.dP _=AV.dP _;simp[iG,eH,cq,cg,Rn.cells,O,R,M, *];done)|(rcases bc (U1 p r.left c.here==0)with hl|hl<;>try simp only[I,B,D,RX,↓KW,seval,hl,L,Rn.cells]))
   all_goals(first|(show AV.dP _=AV.dP _;simp[iG,eH,cq,cg,Rn.cells,O,R,M, *];done)|(rcases bc (decide (bt r.dX>=ET p r.limit))with V|V<;>try simp only[I,B,D,RX,↓KW,seval,V,L,Rn.cells]))
   all_goals(first|(show AV.dP _=AV.dP _;simp[iG,eH,cq,cg,Rn.cells,O,R,M, *];done)|(rcases bc c.early with he|he<;>try simp only[I,B,D,RX,↓KW,seval,he,L,Rn.cells]))
   all_goals(first|(show AV.dP _=AV.dP _;simp[iG,eH,cq,cg,Rn.cells,O,R,M, *];done)|skip)
 ·try simp only[I,B,D,RX,↓KW,seval,j1,j2,L,Rn.cells]
  ·try simp only[I,B,D,RX,↓KW,seval,j1,j2,L,Rn.cells]
   refine af (ad j1 j2) ?_;try simp only[I,B,D,RX,↓KW,seval,L,Rn.cells]
   refine af (hS r.fst r.bI) ?_;try simp only[I,B,D,RX,↓KW,seval,L,Rn.cells]
   rcases bc (gT r.fst)with R|R
   all_goals try simp only[I,B,D,RX,↓KW,seval,R,L,Rn.cells]
   rcases bc (a==1)with ha|ha
   all_goals try simp only[I,B,D,RX,↓KW,seval,ha,L,Rn.cells]
   all_goals(refine af (hL p r.left c.here) ?_)
   all_goals try simp only[I,B,D,RX,↓KW,seval,L,Rn.cells]
   all_goals rcases bc c.bO with M|M
   all_goals try simp only[I,B,D,RX,↓KW,seval,M,L,Rn.cells]
   all_goals(try(refine af (hM r.dX) ?_))
   all_goals try simp only[I,B,D,RX,↓KW,seval,L,Rn.cells]
   all_goals(refine af (hI p ⟨r.limit,r.up,r.down⟩) ?_)
   all_goals try simp only[I,B,D,RX,↓KW,seval,M,L,Rn.cells]
   all_goals(refine ep rfl ?_)
   all_goals try simp only[I,B,D,RX,↓KW,seval,M,L,Rn.cells]
   all_goals(first|(show AV.dP _=AV.dP _;simp[iG,eH,cq,cg,Rn.cells,O,R,M, *];done)|(rcases bc r.done with aa|aa<;>try simp only[I,B,D,RX,↓KW,seval,aa,L,Rn.cells]))
   all_goals(first|(show AV.dP _=AV.dP _;simp[iG,eH,cq,cg,Rn.cells,O,R,M, *];done)|(rcases bc (decide (bt r.time>=p.min))with ht|ht<;>try simp only[I,B,D,RX,↓KW,seval,ht,L,Rn.cells]))
   all_goals(first|(show AV.dP _=AV.dP _;simp[iG,eH,cq,cg,Rn.cells,O,R,M, *];done)|(refine af (hS a b) ?_))
   all_goals try simp only[I,B,D,RX,↓KW,seval,L,Rn.cells]
   all_goals(first|(show AV.dP _=AV.dP _;simp[iG,eH,cq,cg,Rn.cells,O,R,M, *];done)|(rcases bc (gT a)with ab|ab<;>try simp only[I,B,D,RX,↓KW,seval,ab,L,Rn.cells]))
   all_goals(first|(show AV.dP _=AV.dP _;simp[iG,eH,cq,cg,Rn.cells,O,R,M, *];done)|(rcases bc (U1 p r.left c.here==0)with hl|hl<;>try simp only[I,B,D,RX,↓KW,seval,hl,L,Rn.cells]))
   all_goals(first|(show AV.dP _=AV.dP _;simp[iG,eH,cq,cg,Rn.cells,O,R,M, *];done)|(rcases bc (decide (bt r.dX>=ET p r.limit))with V|V<;>try simp only[I,B,D,RX,↓KW,seval,V,L,Rn.cells]))
   all_goals(first|(show AV.dP _=AV.dP _;simp[iG,eH,cq,cg,Rn.cells,O,R,M, *];done)|(rcases bc c.early with he|he<;>try simp only[I,B,D,RX,↓KW,seval,he,L,Rn.cells]))
   all_goals(first|(show AV.dP _=AV.dP _;simp[iG,eH,cq,cg,Rn.cells,O,R,M, *];done)|skip)
end
end
section
variable{P:Program} (hm:P.follows .mixedOrders=true) {f:Nat}
include hm
theorem Cm.ok{fA fG fO fM fI:Nat} (hc:bK P f=some (oF fA fG fO fM fI)) (hA:N3.Spec (Pure P) fA) (hG:N2.Spec (Pure P) fG) (hO:DB.Spec (Pure P) fO) (hM:oq.Spec (Pure P) fM) (hI:AD.Spec (Pure P) fI):Cm.Spec (Pure P) f:=by
 intro p r c
 have V:=AE p r c
 have t3:=HL p r c
 have t4:=P6 p r c
 have R:=hO p r c
 obtain⟨g,O⟩:∃g,iG p r c=g:=⟨_,rfl⟩
 obtain⟨d,hd⟩:∃d,eH p g c=d:=⟨_,rfl⟩
 rw[O,hd]at R;refine aq hm hc [] rfl ?_;try simp only[B,RX,↓KW,seval,oF,Z.H,t4,bB]
 rcases bc c.fin with L|L
 ·try simp only[RX,↓KW,seval,L,V]
  refine af R ?_;try simp only[I,B,RX,↓KW,seval,Rn.cells]
  rcases bc d with D|D
  ·try simp only[RX,↓KW,seval,D]
   simp[gx,L,O,hd,D]
  ·try simp only[B,RX,↓KW,seval,D,t4]
   rcases bc c.hold with M|M
   ·try simp only[RX,↓KW,seval,M]
    rcases bc (decide (g.left>0))with h4|h4
    ·try simp only[RX,↓KW,seval,h4]
     simp[gx,L,O,hd,D,M,h4]
    ·try simp only[RX,↓KW,seval,h4,V]
     refine af (hI p ⟨g.limit,g.up,g.down⟩) ?_;try simp only[I,RX,↓KW,seval]
     simp[gx,L,O,hd,D,M,h4,cq]
   ·try simp only[RX,↓KW,seval,M]
    refine af (hM g.extra) ?_;try simp only[I,RX,↓KW,seval]
    simp[gx,L,O,hd,D,M]
 ·try simp only[RX,↓KW,seval,L,V]
  refine af (hA p r c _ _) ?_;try simp only[I,B,RX,↓KW,seval,t3,Rn.cells,qG]
  rcases bc r.done with D|D
  ·try simp only[RX,↓KW,seval,D]
   simp[gx,L,D,qG]
  ·try simp only[B,RX,↓KW,seval,D,V,t3]
   refine af (hG p ⟨r.limit,r.up,r.down⟩ r.l9) ?_;try simp only[I,RX,↓KW,seval,Tr.cells]
   simp[gx,L,D,qG]
theorem HK.ok{V:Nat} (hc:bK P f=some (zz V)) (hO:DB.Spec (Pure P) V):HK.Spec (Pure P) f:=by
 intro p r c
 have qp:aB p.cells 0 (some 13)=some (.agg p.cells):=rfl
 have qr:aB r.cells 0 (some 12)=some (.agg r.cells)/\r.cells[0]? =some (I r.az):=⟨rfl,rfl⟩
 have R:aB c.cells 0 (some 8)=some (.agg c.cells)/\c.cells[1]? =some (B c.fin)/\c.cells[5]? =some (B c.hold):=⟨rfl,rfl,rfl⟩
 have O:=hO p r c
 obtain⟨g,hg⟩:∃g,iG p r c=g:=⟨_,rfl⟩
 obtain⟨d,hd⟩:∃d,eH p g c=d:=⟨_,rfl⟩
 rw[hg,hd]at O
 have b1:∀ps,zc 0 13 (some (.agg p.cells)) (some ps)=some ((0,p.cells)::ps):=λ_=>rfl
 have b2:∀ps,zc 13 12 (some (.agg r.cells)) (some ps)=some ((13,r.cells)::ps):=λ_=>rfl
 have b3:∀ps,zc 25 8 (some (.agg c.cells)) (some ps)=some ((25,c.cells)::ps):=λ_=>rfl
 have b4:o6 mV [(0,p.cells),(13,r.cells),(25,c.cells)]=gj p r c:=rfl
 refine aq hm hc [] rfl ?_;try simp only[I,B,RX,↓KW,seval,zz,Z.H,qr]
 rcases bc (r.az !=1)with D|D
 ·try simp only[B,RX,↓KW,seval,D,R]
  rcases bc c.fin with L|L
  ·try simp only[B,RX,↓KW,seval,L,R]
   rcases bc c.hold with M|M
   ·try simp only[RX,↓KW,seval,M]
    simp[AB,D,L,M]
   ·try simp only[RX,↓KW,seval,M,qp,qr,R,b1,b2,b3,b4]
    refine af O ?_;try simp only[I,B,RX,↓KW,seval,Rn.cells,bB]
    simp[AB,D,L,M,hg,hd]
  ·try simp only[RX,↓KW,seval,L]
   simp[AB,D,L]
 ·try simp only[RX,↓KW,seval,D]
  simp[AB,D]
theorem HJ.ok{fR fG fY fC:Nat} (hc:bK P f=some (zA fR fG fY fC)) (hR:N4.Spec (Pure P) fR) (hG:Cm.Spec (Pure P) fG) (hY:xK.Spec (Pure P) fY) (hC:xL.Spec (Pure P) fC):HJ.Spec (Pure P) f:=by
 intro p r c
 have qp:aB p.cells 0 (some 13)=some (.agg p.cells):=rfl
 have qr:aB r.cells 0 (some 12)=some (.agg r.cells)/\r.cells[0]? =some (I r.az):=⟨rfl,rfl⟩
 have qc:aB c.cells 0 (some 8)=some (.agg c.cells)/\c.cells[1]? =some (B c.fin)/\c.cells[5]? =some (B c.hold):=⟨rfl,rfl,rfl⟩
 have O:=AE p r c
 have b1:∀ps,zc 0 13 (some (.agg p.cells)) (some ps)=some ((0,p.cells)::ps):=λ_=>rfl
 have b2:∀ps,zc 13 12 (some (.agg r.cells)) (some ps)=some ((13,r.cells)::ps):=λ_=>rfl
 have b3:∀ps,zc 25 8 (some (.agg c.cells)) (some ps)=some ((25,c.cells)::ps):=λ_=>rfl
 have b4:o6 mV [(0,p.cells),(13,r.cells),(25,c.cells)]=gj p r c:=rfl
 have b5:setCells mV 0 (gj p r c)=gj p r c:=rfl
 have b6:mV.length=33:=rfl
 have R:∀x:Rn,setCells bB 0 x.cells=x.cells/\x.cells.length=12/\aB x.cells 0 (some 12)=some (.agg x.cells):=λ_=>⟨rfl,rfl,rfl⟩
 have V:bB.length=12:=rfl
 refine aq hm hc [] rfl ?_;try simp only[I,RY,↓KW,seval,zA,Z.H,qp,qr,qc,O,b1,b2,b3,b4,b5,b6]
 rcases bc (r.az==1)with D|D
 ·try simp only[RY,↓KW,seval,D]
  rcases bc (r.az==2)with L|L
  ·try simp only[RY,↓KW,seval,L]
   rcases bc (r.az==3)with M|M
   ·try simp only[RY,↓KW,seval,M]
    refine⟨rfl,af (hR p r c) ?_⟩;try simp only[RY,seval,R,V]
    simp[bG,D,L,M]
   ·try simp only[RY,↓KW,seval,M,O]
    refine⟨rfl,rfl,af (hC p r c) ?_⟩;try simp only[RY,seval,R,V]
    simp[bG,D,L,M]
  ·try simp only[RY,↓KW,seval,L,O]
   refine⟨rfl,rfl,af (hY p r c) ?_⟩;try simp only[RY,seval,R,V]
   simp[bG,D,L]
 ·try simp only[RY,↓KW,seval,D,O]
  refine⟨rfl,rfl,af (hG p r c) ?_⟩;try simp only[RY,seval,R,V]
  simp[bG,D]
end
def crE(t:Tb) (r:gW) (l:List Rn) (want:Int):gW:=
 if(List.range 8).all (λp=>dN (bh l p))then⟨if fwE t r.group want>=0 then fwE t r.group want else r.group,-1,-1,false⟩else r
def Cn.Spec(C:aT) (f:Nat):Prop:=∀(t:Tb) (r:gW) (l:List Rn) (want:Int),t.Ok->l.length=8->C.c f [.agg t.cells,.agg r.cells,.agg (de l),I want] (.agg (crE t r l want).cells) none
section
variable{P:Program} (hm:P.follows .mixedOrders=true) {f:Nat}
include hm
theorem Cn.ok{fR fF:Nat} (hc:bK P f=some (vH fR fF)) (hR:HE.Spec (Pure P) fR) (hF:NX.Spec (Pure P) fF):Cn.Spec (Pure P) f:=by
 intro t r l want ht hl
 have hw:=ir hl
 have ac:=dW hl
 have ad:=Tb.len ht
 have hp:=Tb.whole ht
 have hr:r.cells.length=4/\aB r.cells 0 (some 4)=some (.agg r.cells)/\r.cells[0]? =some (I r.group):=⟨rfl,rfl,rfl⟩
 have ak:∀n:Int,setCells r.cells 0 [I n]=(⟨n,r.a0,r.a1,r.ou⟩:gW).cells:=λ_=>rfl
 have ag:∀n:Int,(⟨n,r.a0,r.a1,r.ou⟩:gW).cells[0]? =some (I n):=λ_=>rfl
 have ql:bB.length=12:=rfl
 have ab:∀x:gW,x.cells.length=4/\aB x.cells 0 (some 4)=some (.agg x.cells):=λ_=>⟨rfl,rfl⟩
 have ae:∀x:gW,setCells [.int .i64 0,.int .i64 0,.int .i64 0,.bool false] 0 x.cells=x.cells:=λ_=>rfl
 have L:=dC hw (dC ac (dC ad (dC hp (dC hr (dC ak (dC ag (dC ql (dC ae (ab)))))))))
 refine aq hm hc [] rfl ?_;try simp only[I,B,D,RY,↓KW,seval,vH,Z.H,L]
 refine aG (λk:Nat=>(⟨[(13,.dat (I k) none),(12,.dat (.agg (de l)) none),(5,.ptr 5 0),(8,.ptr 7 0),(4,.ptr 4 0),(3,.dat (I want) none)],[(4,⟨t.cells,[]⟩),(5,⟨r.cells,[]⟩),(7,⟨[.int .i64 0,.int .i64 0,.int .i64 0,.bool false],[]⟩)],[],400⟩:S)) (λk=>8-k) (λk=>k<=8/\∀q,q<k->dN (bh l q)=true) ?_ 0 ⟨ado,ado⟩ ?_
 ·rintro k ⟨hk,O⟩ A back
  have al:=aC (k:=k) ado
  try simp only[I,B,D,RY,↓KW,seval]
  rcases bc (decide ((k:Int)<8))with h|h
  ·have:k=8:=by have:=dT h;omega
   subst this
   have V:(List.range 8).all (λp=>dN (bh l p))=true:=mt.2 λq hq=>O q (ip.1 hq)
   try simp only[I,B,D,RY,↓KW,seval,h,L]
   refine af (hF t r.group want ht) ?_;try simp only[I,B,D,RY,↓KW,seval,L]
   have R:∀n:Int,o6 [.int .i64 0,.int .i64 0,.int .i64 0,.bool false] [(0,[I n]),(1,[I (-1),I (-1)])]=(⟨n,-1,-1,false⟩:gW).cells:=λ_=>rfl
   rcases bc (decide (0<=fwE t r.group want))with M|M
   ·have h3:=dT M
    try simp only[I,B,D,RY,↓KW,seval,M,L,R]
    simp[crE,V,h3]
   ·have h3:=dE M
    try simp only[I,B,D,RY,↓KW,seval,M,L,R]
    simp[crE,V,h3]
  ·have h8:k<8:=by have:=dE h;omega
   have aa:aB (de l) (k*12) (some 12)=some (.agg (bh l k).cells):=jE hl h8
   have hy:0<=(k:Int)/\(k:Int)<8:=ado
   have qz:setCells bB 0 (bh l k).cells=(bh l k).cells:=rfl
   have qw:aB (bh l k).cells 0 (some 12)=some (.agg (bh l k).cells):=rfl
   try simp only[I,B,D,RY,↓KW,seval,h,hy,aa,qz,qw,Rn.len,L]
   refine af (hR (bh l k)) ?_;try simp only[I,B,D,RY,↓KW,seval,L]
   rcases bc (dN (bh l k))with M|M
   ·have V:(List.range 8).all (λp=>dN (bh l p))=false:=List.all_eq_false.2 ⟨k,ip.2 h8,by simp[M]⟩
    try simp only[I,B,D,RY,↓KW,seval,M,L,pd]
    simp[crE,V]
   ·try simp only[I,B,D,RY,↓KW,seval,M,L,po]
    refine back (k+1) _ ⟨ado,λq hq=>?_⟩ ado ?_
    ·by_cases e:q=k
     ·rw[e];exact M
     ·exact O q ado
    ·refine ai adp ?_ ?_ ?_ ?_<;>simp[LX,I,B,D,al]
 ·refine ai adp ?_ ?_ ?_ ?_<;>simp[LX,I,B,D]
end
def Co(l:List Rn) (D next:Int) (mv:Bool):Bool:=decide (next<0)&&(!mv||(fJ (bh l D.toNat)&&(bh l D.toNat).done))
def HM.Spec(C:aT) (f:Nat):Prop:=∀(l:List Rn) (D next:Int) (mv:Bool),l.length=8->(mv=true->0<=D/\D<8)->C.c f [.agg [I D,I next,B mv],.agg (de l)] (B (Co l D next mv)) none
section
variable{P:Program} (hm:P.follows .mixedOrders=true) {f:Nat}
include hm
theorem HM.ok(hc:bK P f=some oE):HM.Spec (Pure P) f:=by
 intro l aa next mv hl ad
 have V:=ir hl
 have L:=dW hl
 refine aq hm hc [] rfl ?_;try simp only[I,B,D,RY,↓KW,seval,oE,Z.H,V,L]
 rcases bc (decide (next<0))with O|O
 ·try simp only[I,B,D,RY,↓KW,seval,O,V,L]
  simp only[Co,O,px]
 ·try simp only[I,B,D,RY,↓KW,seval,O,V,L]
  rcases bc mv with R|R
  ·try simp only[I,B,D,RY,↓KW,seval,R,V,L,pd]
   simp only[Co,O,R,pd,LT,H0]
  ·obtain⟨ha,hb⟩:=ad R
   obtain⟨k,rfl⟩:∃k:Nat,aa=k:=⟨aa.toNat,ado⟩
   have h8:k<8:=ado
   have ab:aB (de l) (k*12) (some 12)=some (.agg (bh l k).cells):=jE hl h8
   have ac:(de l)[k*12]? =some (I (bh l k).az):=by have:=kF ab (j:=0) ado;rw[se]at this;rw[this];rfl
   have M:(de l)[k*12+7]? =some (B (bh l k).done):=by rw[kF ab ado];rfl
   have hy:0<=(k:Int)/\(k:Int)<8:=ado
   have hg:((bh l k).az==1)=fJ (bh l k):=rfl
   try simp only[I,B,D,RY,↓KW,seval,R,V,L,po,hy,ac,M]
   rw[hg]
   have hn:(k:Int).toNat=k:=rfl
   rcases bc (fJ (bh l k))with h3|h3
   ·try simp only[I,B,D,RY,↓KW,seval,h3,V,L,po]
    simp only[Co,O,R,hn,h3,po,w5,px,pm]
   ·try simp only[I,B,D,RY,↓KW,seval,h3,V,L,hy,M,po]
    simp only[Co,O,R,hn,h3,po,w5,py]
end
section
variable (t:Tb) (r:gW) (l:List Rn) (want k:Int) (n:Nat) (x:gW×Int×Int)
def FC:Bool:=decide (qq t r k>=0)&& !dN (bh l (qq t r k).toNat)
def AX:Int:=nxE t r.group k (r.at k) want
def gW.put(x:Int):gW:=if k=0 then{r with a0:=x}else{r with a1:=x}
def JX:Bool:=
 (bh l (qq t r k).toNat).az==1&&(((bh l (qq t r k).toNat).done&&decide (AX t r want k>=0))||(P5 (aK t (qq t r k)) (bh l (qq t r k).toNat)&& !fu want (qq t r k)))
def vK:gW×Int×Int:=
 if FC t r l k then(if JX t r l want k then(x.1,x.2.1,eJ x.2.2 (qq t r k))else x)
 else if AX t r want k>=0 then(if ju t l (vJ t r.group k (AX t r want k)).toNat then(x.1.put k (AX t r want k),eJ x.2.1 (vJ t r.group k (AX t r want k)),x.2.2)else x)else x
def lQ:gW×Int×Int:=vK t r l want 1 (vK t r l want 0 (r,0,0))
def N5(t:Tb) (r:gW) (l:List Rn) (want:Int):Nat->gW×Int×Int
 |0=>(r,0,0)
 |k+1=>vK t r l want k (N5 t r l want k)
def mC:Int:=RG λp=>fJ (bh l p)
def EU:Bool:=Co l (qq t r k) (AX t r want k) (FC t r l k)
def abF:Bool:=
 AW .i64 x.2.1 x.2.2==0&&(EU t r l want 0&&(EU t r l want 1&&decide (Cg (bC .i64 want (mC l))>=0)))
def N6:gW×Int×Int:=
 if r.ou then(crE t r l want,0,0)
 else if abF t r l want (lQ t r l want)then({(lQ t r l want).1 with ou:=true},(lQ t r l want).2.1,mC l)else lQ t r l want
theorem abG{s p:Int} (h:fu s p=true):0<=p/\p<8:=by
 by_cases D:p<0\/8<=p
 ·have L:sJ p=0:=by simp only[sJ];rw[fp D]
  have M:bT .i64 s 0=0:=by
   have e:BitVec.ofInt IntKind.i64.bits 0=0#_:=rfl
   simp only[bT,e,BitVec.and_zero,BitVec.toNat_zero];decide
  rw[fu,L,M]at h;cases h
 ·omega
theorem P7{t:Tb} {r:gW} {k:Int}:qq t r k<8:=by
 unfold qq;split
 ·omega
 ·unfold vJ;split
  ·omega
  ·split
   ·omega
   ·split<;>omega
theorem N7{t:Tb} {r:gW} {k want:Int} (h:AX t r want k>=0) (hk:0<=k/\k<2):0<=vJ t r.group k (AX t r want k)/\vJ t r.group k (AX t r want k)<8:=by
 have e:AX t r want k=match(List.range ((ku t r.group k).getD []).length).find? (nxP t r.group k (r.at k) want)with
  |some i=>(i:Int)
  |none=>-1:=rfl
 cases D:(List.range ((ku t r.group k).getD []).length).find? (nxP t r.group k (r.at k) want)with
 |none=>rw[D]at e;simp only at e;omega
 |some i=>
  rw[D]at e;simp only at e
  have M:=ip.1 (Hk D)
  have O:=List.find?_some D
  simp only[nxP,ed]at O
  have Z:=O.2
  have L:=abG Z
  have V:¬(r.group<0\/((t.groups.getD []).length:Int)<=r.group\/k<0\/1<k):=λR=>by
   rw[ku,fp R]at M;simp at M
  rw[e];unfold vJ
  rw[fb V,fb ado]
  simp only[rc];rw[fp L];exact L
theorem P8{t:Tb} {r:gW} {l:List Rn} {k:Int} (h:FC t r l k=true):0<=qq t r k/\qq t r k<8:=by
 simp only[FC,ed]at h;exact⟨dE h.1,P7⟩
theorem gW.XB(x:gW) {k:Nat} (hk:k<2) (n:Int):setCells x.cells (1+k) [I n]=(x.put k n).cells:=by
 have:k=0\/k=1:=ado
 rcases this with rfl|rfl<;>rfl
def nU:List AV:=
 (if 0<n then[I (qq t r 0),I (AX t r want 0),B (FC t r l 0)]else[I 0,I 0,B false])++(if 1<n then[I (qq t r 1),I (AX t r want 1),B (FC t r l 1)]else[I 0,I 0,B false])
theorem Ut:(nU t r l want n).length=6:=by
 unfold nU;split<;>split<;>rfl
theorem Uu{k:Nat} (hk:k<2):setCells (nU t r l want k) (k*3) [I (qq t r k),I (AX t r want k),B (FC t r l k)]=nU t r l want (k+1):=by
 have:k=0\/k=1:=ado
 rcases this with rfl|rfl<;>rfl
theorem XC{k:Nat} (hk:k<2):aB (nU t r l want 2) (k*3) (some 3)=some (.agg [I (qq t r k),I (AX t r want k),B (FC t r l k)]):=by
 have:k=0\/k=1:=ado
 rcases this with rfl|rfl<;>rfl
def HN.Spec(C:aT) (f:Nat):Prop:=∀(t:Tb) (r:gW) (l:List Rn) (want:Int),t.Ok->l.length=8->C.c f [.agg t.cells,.agg r.cells,.agg (de l),I want] (.dP [.agg (N6 t r l want).1.cells,I (N6 t r l want).2.1,I (N6 t r l want).2.2]) none
end
section
variable{P:Program} (hm:P.follows .mixedOrders=true) {f:Nat}
include hm
theorem HN.ok{fC fN fX fR fE fH fW fA fM fG fS fF:Nat} (hc:bK P f=some (B7 fC fN fX fR fE fH fW fA fM fG fS fF)) (hC:Cn.Spec (Pure P) fC) (hN:NY.Spec (Pure P) fN) (hX:HD.Spec (Pure P) fX) (hR:HE.Spec (Pure P) fR)
  (hE:Cj.Spec (Pure P) fE) (hH:mN.Spec (Pure P) fH) (hW:jb.Spec (Pure P) fW) (hA:Ur.Spec (Pure P) fA) (hM:NZ.Spec (Pure P) fM) (hG:tH.Spec (Pure P) fG) (hS:HM.Spec (Pure P) fS) (hF:yK.Spec (Pure P) fF):HN.Spec (Pure P) f:=by
 intro t r l want ht hl
 have hw:=ir hl
 have a4:=dW hl
 have a6:=Tb.len ht
 have hp:=Tb.whole ht
 have hr:r.cells.length=4/\aB r.cells 0 (some 4)=some (.agg r.cells)/\r.cells[0]? =some (I r.group)/\r.cells[3]? =some (B r.ou):=⟨rfl,rfl,rfl,rfl⟩
 have a7:∀x:gW,setCells [.int .i64 0,.int .i64 0,.int .i64 0,.bool false] 0 x.cells=x.cells:=λ_=>rfl
 have a3:∀x y:gW,setCells x.cells 0 y.cells=y.cells:=λ_ _=>rfl
 have ba:∀x:gW,x.cells.length=4/\aB x.cells 0 (some 4)=some (.agg x.cells):=λ_=>⟨rfl,rfl⟩
 have bi:∀a b c d e g:AV,setCells [a,b,c] 0 [d,e,g]=[d,e,g]:=λ_ _ _ _ _ _=>rfl
 have bd:∀a b c d:AV,setCells [a,b,c] 2 [d]=[a,b,d]:=λ_ _ _ _=>rfl
 have M:=dC hw (dC a4 (dC a6 (dC hp (dC hr (dC a7 (dC ba (dC bi (dC bd (a3)))))))))
 refine aq hm hc [] rfl ?_;try simp only[I,B,RY,↓KW,seval,B7,Z.H,M]
 rcases bc r.ou with R|R
 rotate_left
 ·try simp only[RY,↓KW,seval,R,M]
  refine af (hC t r l want ht hl) ?_;try simp only[RY,↓KW,seval,M]
  simp[N6,R]
 try simp only[RY,↓KW,seval,R]
 refine aG (λk:Nat=>(⟨[(26,.dat (I k) none),(3,.dat (I want) none),(4,.ptr 4 0),(5,.ptr 5 0),(6,.ptr 6 0),(8,.ptr 7 0),(11,.ptr 12 0),(9,.dat (I 0) none),(10,.dat (I 0) none)],[(4,⟨t.cells,[]⟩),(5,⟨r.cells,[]⟩),(6,⟨de l,[]⟩),(7,⟨[.int .i64 0,.int .i64 0,.int .i64 0,.bool false],[]⟩),(12,⟨nU t r l want k,[]⟩)],[],400⟩:S)) (λk=>2-k) (λk=>k<=2) ?_ 0 ado ?_
 rotate_left
 ·refine ai adp ?_ ?_ ?_ ?_<;>simp[LX,I,B,nU]
 intro k hk A back
 have O:=aC (k:=k) ado
 try simp only[I,RY,↓KW,seval]
 rcases bc (decide ((k:Int)<2))with h|h
 rotate_left
 ·have h2:k<2:=by have:=dE h;omega
  have hy:0<=(k:Int)/\(k:Int)<2:=ado
  have a9:r.cells[1+k]? =some (I (r.at k)):=by
   have:k=0\/k=1:=ado
   rcases this with rfl|rfl<;>rfl
  have ol:=Ut t r l want k
  have os:=Uu t r l want h2
  try simp only[RY,↓KW,seval,hy,M]
  refine af (hN t r k ht) ?_;try simp only[I,RY,↓KW,seval,a9,hy,M]
  refine af (hX t r.group k (r.at k) want ht) ?_;try simp only[I,RY,↓KW,seval,M]
  rcases bc (decide (qq t r k>=0))with h3|h3
  ·have hb:FC t r l k=false:=by rw[FC,h3];rfl
   rw[hb]at os
   have ae:setCells (nU t r l want k) (k*3) [I (qq t r k),I (nxE t r.group k (r.at k) want),B false]=nU t r l want (k+1):=os
   try simp only[RY,↓KW,seval,h3,hy,ol,ae,M]
   refine⟨ado,back (k+1) _ ado ado ?_⟩
   refine ai adp ?_ ?_ ?_ ?_<;>simp[LX,I,O]
  ·have au:=dE h3
   have a2:=P7 (t:=t) (r:=r) (k:=k)
   obtain⟨q,hq⟩:∃q:Nat,qq t r k=q:=⟨(qq t r k).toNat,ado⟩
   have ab:0<=(q:Int)/\(q:Int)<8:=ado
   have ac:aB (de l) (q*12) (some 12)=some (.agg (bh l q).cells):=jE hl ado
   have hb:FC t r l k=!dN (bh l q):=by rw[FC,h3,hq];rfl
   rw[hb]at os
   have ae:setCells (nU t r l want k) (k*3) [I (qq t r k),I (nxE t r.group k (r.at k) want),B (!dN (bh l q))]=nU t r l want (k+1):=os
   rw[hq]at*;try simp only[RY,↓KW,seval,ab,ac]
   refine af (hR (bh l q)) ?_;try simp only[B,RY,↓KW,seval,hy,ol,ae,M]
   refine⟨ado,back (k+1) _ ado ado ?_⟩
   refine ai adp ?_ ?_ ?_ ?_<;>simp[LX,I,O]
 have ad:k=2:=by have:=dT h;omega
 subst ad
 have ow:aB (nU t r l want 2) 0 (some 6)=some (.agg (nU t r l want 2)):=rfl
 try simp only[RY,↓KW,seval,ow,M]
 clear back
 refine aG (λk:Nat=>(⟨[(62,.dat (I k) none),(61,.dat (.agg (nU t r l want 2)) none),(3,.dat (I want) none),(4,.ptr 4 0),(5,.ptr 5 0),(6,.ptr 6 0),(8,.ptr 7 0),(11,.ptr 12 0),(9,.dat (I (N5 t r l want k).2.1) none),(10,.dat (I (N5 t r l want k).2.2) none)],[(4,⟨t.cells,[]⟩),(5,⟨r.cells,[]⟩),(6,⟨de l,[]⟩),(7,⟨(N5 t r l want k).1.cells,[]⟩),(12,⟨nU t r l want 2,[]⟩)],[],400⟩:S)) (λk=>2-k) (λk=>k<=2) ?_ 0 ado ?_
 rotate_left
 ·refine ai adp ?_ ?_ ?_ ?_<;>simp[LX,I,N5]
 intro k hk A2 back
 have O:=aC (k:=k) ado
 obtain⟨x,hx⟩:∃x,N5 t r l want k=x:=⟨_,rfl⟩
 have hn:N5 t r l want (k+1)=vK t r l want k x:=by rw[N5,hx]
 rw[hx];try simp only[I,RY,↓KW,seval]
 rcases bc (decide ((k:Int)<2))with h|h
 rotate_left
 ·have h2:k<2:=by have:=dE h;omega
  have hy:0<=(k:Int)/\(k:Int)<2:=ado
  have ag:=XC t r l want h2
  obtain⟨b,hb⟩:∃b,FC t r l k=b:=⟨_,rfl⟩
  obtain⟨n,V⟩:∃n,AX t r want k=n:=⟨_,rfl⟩
  obtain⟨w,aa⟩:∃w,qq t r k=w:=⟨_,rfl⟩
  have L:vK t r l want k x=if b then(if JX t r l want k then(x.1,x.2.1,eJ x.2.2 w)else x)
   else if n>=0 then(if ju t l (vJ t r.group k n).toNat then(x.1.put k n,eJ x.2.1 (vJ t r.group k n),x.2.2)else x)else x:=by rw[vK,hb,V,aa]
  rw[hb,V,aa]at ag
  rcases b with _|_
  ·rw[fb adp]at L
   try simp only[I,B,RY,↓KW,seval,hy,ag,M]
   rcases bc (decide (n>=0))with h4|h4
   ·rw[fb (dT h4)]at L
    try simp only[RY,↓KW,seval,h4]
    refine back (k+1) _ ado ado ?_
    refine ai adp ?_ ?_ ?_ ?_<;>simp[LX,I,O,hn,L]
   ·have ar:=dE h4
    rw[fp ar]at L
    have hq:=N7 (t:=t) (r:=r) (k:=k) (want:=want) (by rw[V];exact ar) ado
    rw[V]at hq
    obtain⟨q,ao⟩:∃q:Nat,vJ t r.group k n=q:=⟨(vJ t r.group k n).toNat,ado⟩
    rw[ao]at L hq
    have al:=hA t r.group k n ht
    rw[ao]at al;try simp only[I,RY,↓KW,seval,h4,M]
    refine af al ?_;try simp only[I,RY,↓KW,seval,M]
    refine af (hM t l q ht hl ado) ?_
    try simp only[B,RY,↓KW,seval]
    have bl:(q:Int).toNat=q:=rfl
    rw[bl]at L
    rcases bc (ju t l q)with h5|h5
    ·rw[fb (by rw[h5];decide)]at L
     try simp only[RY,↓KW,seval,h5]
     refine back (k+1) _ ado ado ?_
     refine ai adp ?_ ?_ ?_ ?_<;>simp[LX,I,O,hn,L]
    ·rw[fp h5]at L
     have bj:=x.1.XB h2 n
     try simp only[RY,↓KW,seval,h5]
     refine af (hW _ _) ?_;try simp only[I,RY,↓KW,seval,hy,bj,M]
     refine⟨ado,back (k+1) _ ado ado ?_⟩
     refine ai adp ?_ ?_ ?_ ?_<;>simp[LX,I,O,hn,L]
  ·rw[fp rfl]at L
   have an:=hb
   simp only[FC,ed]at an
   have au:=dE an.1
   have a2:=P7 (t:=t) (r:=r) (k:=k)
   rw[aa]at au a2
   obtain⟨q,hq⟩:∃q:Nat,w=q:=⟨w.toNat,ado⟩
   subst hq
   have ab:0<=(q:Int)/\(q:Int)<8:=ado
   have ac:aB (de l) (q*12) (some 12)=some (.agg (bh l q).cells):=jE hl ado
   have qz:setCells bB 0 (bh l q).cells=(bh l q).cells:=rfl
   have ql:bB.length=12:=rfl
   have qr:(bh l q).cells[0]? =some (I (bh l q).az)/\(bh l q).cells[7]? =some (B (bh l q).done)/\aB (bh l q).cells 0 (some 12)=some (.agg (bh l q).cells):=⟨rfl,rfl,rfl⟩
   have a5:=Tb.iO (ht.ln.mT (k:=q) ado)
   have he:JX t r l want k=((bh l q).az==1&&(((bh l q).done&&decide (n>=0))||(P5 (aK t q) (bh l q)&& !fu want q))):=by rw[JX,aa,V];rfl
   try simp only[I,B,RY,↓KW,seval,hy,ag,ab,ac,qz,ql,qr,Rn.len,M]
   rw[he]at L
   repeat' (first|((first|refine af (hE (aK t q) (bh l q)) ?_|refine af (hH want q) ?_|refine af (hW _ _) ?_);try simp only[I,B,RY,↓KW,seval])|(((first|refine aY ?_ ?_|refine aA ?_ ?_|refine bH ?_ ?_)<;>intro h)<;>try simp only[B,RY,↓KW,seval,ab,a5,qr,h]))
   all_goals
    refine back (k+1) _ ado ado ?_
    refine ai adp ?_ ?_ ?_ ?_<;>simp[LX,I, *]
 have ad:k=2:=by have:=dT h;omega
 subst ad;try simp only[RY,↓KW,seval,M]
 refine af (hG l hl) ?_;try simp only[I,RY,↓KW,seval]
 have a8:lQ t r l want=x:=hx
 have o0:aB (nU t r l want 2) 0 (some 3)=some (.agg [I (qq t r 0),I (AX t r want 0),B (FC t r l 0)]):=rfl
 have o1:aB (nU t r l want 2) 3 (some 3)=some (.agg [I (qq t r 1),I (AX t r want 1),B (FC t r l 1)]):=rfl
 have be:setCells x.1.cells 3 [B true]=({x.1 with ou:=true}:gW).cells:=rfl
 have hg:(RG λp=>fJ (bh l p))=mC l:=rfl
 have bo:abF t r l want x=(AW .i64 x.2.1 x.2.2==0&&(EU t r l want 0&&(EU t r l want 1&&decide (Cg (bC .i64 want (mC l))>=0)))):=rfl
 have bm:N6 t r l want=if abF t r l want x then({x.1 with ou:=true},x.2.1,mC l)else x:=by rw[N6,fb (by rw[R];decide),a8]
 have am:=hS l (qq t r 0) (AX t r want 0) (FC t r l 0) hl (P8 (t:=t) (r:=r) (l:=l))
 have ak:=hS l (qq t r 1) (AX t r want 1) (FC t r l 1) hl (P8 (t:=t) (r:=r) (l:=l))
 rw[show Co l (qq t r 0) (AX t r want 0) (FC t r l 0)=EU t r l want 0 from rfl]at am
 rw[show Co l (qq t r 1) (AX t r want 1) (FC t r l 1)=EU t r l want 1 from rfl]at ak
 rw[hg];try simp only[I,B,D,RY,↓KW,seval,o0,o1,M]
 repeat' (first|((first|refine af (am) ?_|refine af (ak) ?_|refine af (hF _) ?_);try simp only[I,B,RY,↓KW,seval])|(((first|refine aY ?_ ?_|refine aA ?_ ?_|refine bH ?_ ?_)<;>intro h)<;>try simp only[I,B,RY,↓KW,seval,o0,o1,be,M,h]))
 all_goals simp[*]
end
section
variable (t:Tb) (r:gW) (C:aT) (l:List Rn) (f:Nat) (s want:Int)
theorem P9{p:Nat} (D:p<8):eJ (eJ s p) p=eJ s p:=
 BK (sZ D) (sZ D) λi L=>by
  rw[ng D,ng D]
  cases tb s i<;>simp[L]
theorem XD{α:Type} {l:List α} {f:α->Bool} {i:Nat} {x:α} (h:l[i]? =some x):(l.take (i+1)).any f=((l.take i).any f||f x):=by
 rw[ac6,h];simp
def HO:Int:=bC .i64 want (mC l)
def prP(l:List Rn) (want:Int) (p q:Nat):Bool:=!(aE t p).2|| !ahE t r (aE t p).1.ring q
def prF(n:Int) (p:Nat):Int:=if(gw (HO l want)).any (prP t r l want p)then eJ n p else n
def abI:Int:=(gw (bT .i64 (mC l) (yx t))).foldl (prF t r l want) 0
def N8.Spec:Prop:=∀(t:Tb) (r:gW) (l:List Rn) (want:Int),t.Ok->l.length=8->C.c f [.agg t.cells,.agg r.cells,.agg (de l),I want] (I (abI t r l want)) none
def Zh(p:Nat):gW:=if(aE t p).2&&((aE t p).1.group==r.group&&decide (r.at (aE t p).1.ring<0))then r.put (aE t p).1.ring (aE t p).1.pos else r
def Uv:gW:=(gw s).foldl (Zh t) ⟨(aE t (Cg s)).1.group,-1,-1,false⟩
def N9.Spec:Prop:=∀(t:Tb) (s:Int),t.Ok->C.c f [.agg t.cells,I s] (.agg (Uv t s).cells) none
def exE(k:Int):Int:=if k<0\/((t.bE.getD []).length:Int)<=k then 0 else(NA t k.toNat).exit
def HP.Spec:Prop:=∀(t:Tb) (k:Int),t.Ok->C.c f [.agg t.cells,I k] (I (exE t k)) none
def Cp.Spec:Prop:=∀s:bD,s.Ok->C.c f [.agg s.cells] (I (RG λp=>fJ (s.rn p))) none
def Cq.Spec:Prop:=∀s:bD,s.Ok->C.c f [.agg s.cells] (I (RG λp=>BV (s.rn p))) none
end
section
variable{P:Program} (hm:P.follows .mixedOrders=true) {f:Nat}
include hm
theorem HP.ok(hc:bK P f=some xH):HP.Spec (Pure P) f:=by
 intro t k R
 have hl:=Tb.len R
 have hr:t.cells[114]? =some (aI Rl.cells t.bE):=R.ln.Wu
 have M:=dC hl (hr)
 refine aq hm hc [] rfl ?_;try simp only[I,RX,↓KW,seval,xH,Z.H]
 rcases bc (decide (k<0))with D|D
 rotate_left
 ·try simp only[RX,↓KW,seval,D]
  rw[exE,fp (.inl (dE D))]
 try simp only[RX,↓KW,seval,D,M]
 rcases bc (decide (k>=((t.bE.getD []).length:Int)))with L|L
 rotate_left
 ·try simp only[RX,↓KW,seval,L]
  rw[exE,fp (.inr (dE L))]
 have a1:=dT D
 have a2:=dT L
 obtain⟨x,V⟩:∃x,(t.bE.getD [])[k.toNat]? =some x:=⟨_,eh ado⟩
 have O:NA t k.toNat=x:=by rw[NA,em,V];rfl
 have hy:0<=k/\k<((t.bE.getD []).length:Int):=ado
 have hq:x.cells.length=11/\x.cells.drop 3=I x.exit::x.cells.drop 4:=⟨rfl,rfl⟩
 try simp only[I,RX,↓KW,seval,L,V,hy,hq,M]
 rw[exE,fb ado,O]
theorem Cp.ok{O:Nat} (V:bK P f=some (vC O)) (hW:jb.Spec (Pure P) O):Cp.Spec (Pure P) f:=by
 intro s hs;refine aq hm V [] rfl ?_;try simp only[I,RY,↓KW,seval,vC,Z.H]
 refine aG (λk:Nat=>(⟨[(5,.dat (I k) none),(1,.ptr 4 0),(3,.dat (I (og (λp=>fJ (s.rn p)) k)) none)],[(4,⟨s.cells,[]⟩)],[],400⟩:S)) (λk=>8-k) (λk=>k<=8) ?_ 0 ado ?_
 ·intro k hk A back
  have L:=aC (k:=k) ado
  try simp only[I,RY,↓KW,seval]
  rcases bc (decide ((k:Int)<8))with h|h
  ·have:k=8:=by have:=dT h;omega
   subst this;try simp only[RY,↓KW,seval]
   rfl
  ·have h8:k<8:=by have:=dE h;omega
   have M:s.cells[k*12]? =some (I (s.rn k).az):=bD.Du hs h8 (j:=0) ado
   have R:og (λp=>fJ (s.rn p)) (k+1)=if fJ (s.rn k)then eJ (og (λp=>fJ (s.rn p)) k) k else og (λp=>fJ (s.rn p)) k:=rfl
   have hy:0<=(k:Int)/\(k:Int)<8:=ado
   have hg:((s.rn k).az==1)=fJ (s.rn k):=rfl
   try simp only[I,RY,↓KW,seval,hy,M]
   rw[hg]
   rcases bc (fJ (s.rn k))with D|D
   ·try simp only[RY,↓KW,seval,D]
    refine back (k+1) _ ado ado (ai adp ?_ ?_ ?_ ?_)<;>simp[LX,I,L,R,D]
   ·try simp only[RY,↓KW,seval,D]
    refine af (hW _ _) ?_;try simp only[I,RY,↓KW,seval]
    refine back (k+1) _ ado ado (ai adp ?_ ?_ ?_ ?_)<;>simp[LX,I,L,R,D]
 ·refine ai adp ?_ ?_ ?_ ?_<;>simp[LX,I,og]
theorem Cq.ok{O:Nat} (V:bK P f=some (vD O)) (hW:jb.Spec (Pure P) O):Cq.Spec (Pure P) f:=by
 intro s hs;refine aq hm V [] rfl ?_;try simp only[I,RY,↓KW,seval,vD,Z.H]
 refine aG (λk:Nat=>(⟨[(5,.dat (I k) none),(1,.ptr 4 0),(3,.dat (I (og (λp=>BV (s.rn p)) k)) none)],[(4,⟨s.cells,[]⟩)],[],400⟩:S)) (λk=>8-k) (λk=>k<=8) ?_ 0 ado ?_
 ·intro k hk A back
  have L:=aC (k:=k) ado
  try simp only[I,RY,↓KW,seval]
  rcases bc (decide ((k:Int)<8))with h|h
  ·have:k=8:=by have:=dT h;omega
   subst this;try simp only[RY,↓KW,seval]
   rfl
  ·have h8:k<8:=by have:=dE h;omega
   have M:s.cells[k*12+2]? =some (I (s.rn k).fst):=bD.Du hs h8 (j:=2) ado
   have R:og (λp=>BV (s.rn p)) (k+1)=if BV (s.rn k)then eJ (og (λp=>BV (s.rn p)) k) k else og (λp=>BV (s.rn p)) k:=rfl
   have hy:0<=(k:Int)/\(k:Int)<8:=ado
   have hg:((s.rn k).fst==1)=BV (s.rn k):=rfl
   try simp only[I,RY,↓KW,seval,hy,M]
   rw[hg]
   rcases bc (BV (s.rn k))with D|D
   ·try simp only[RY,↓KW,seval,D]
    refine back (k+1) _ ado ado (ai adp ?_ ?_ ?_ ?_)<;>simp[LX,I,L,R,D]
   ·try simp only[RY,↓KW,seval,D]
    refine af (hW _ _) ?_;try simp only[I,RY,↓KW,seval]
    refine back (k+1) _ ado ado (ai adp ?_ ?_ ?_ ?_)<;>simp[LX,I,L,R,D]
 ·refine ai adp ?_ ?_ ?_ ?_<;>simp[LX,I,og]
theorem N8.ok{fG fO fE fW fA fS:Nat} (hc:bK P f=some (vE fG fO fE fW fA fS)) (hG:tH.Spec (Pure P) fG) (hO:pOn.Spec (Pure P) fO) (hE:uz.Spec (Pure P) fE) (hW:As.Spec (Pure P) fW) (hA:Ci.Spec (Pure P) fA) (hS:jb.Spec (Pure P) fS):N8.Spec (Pure P) f:=by
 intro t r l want V hl
 have hw:=ir hl
 have ae:=dW hl
 have ak:=Tb.len V
 have hp:=Tb.whole V
 have hr:r.cells.length=4/\aB r.cells 0 (some 4)=some (.agg r.cells):=⟨rfl,rfl⟩
 have M:=dC hw (dC ae (dC ak (dC hp (hr))))
 refine aq hm hc [] rfl ?_;try simp only[I,RX,↓KW,seval,vE,Z.H,M]
 refine af (hG l hl) ?_
 have hg:(RG λp=>fJ (bh l p))=mC l:=rfl
 rw[hg];try simp only[I,RX,↓KW,seval,M]
 refine af (hO t V.ln) ?_;try simp only[I,RX,↓KW,seval]
 obtain⟨k,hk,hi⟩:=hE (bT .i64 (mC l) (yx t))
 refine af hk ?_;try simp only[I,RX,seval]
 refine iW (λs:Int=>(⟨[(23,.dat (.fn (.func k) [] [.ref [I (bT .i64 (mC l) (yx t))]]) none),(4,.ptr 4 0),(5,.ptr 5 0),(7,.ptr 7 0),(9,.ptr 11 0),(10,.ptr 12 0)],[(4,⟨t.cells,[]⟩),(5,⟨r.cells,[]⟩),(7,⟨[I want],[]⟩),(11,⟨[I (mC l)],[]⟩),(12,⟨[I s],[]⟩)],[],400⟩:S)) (λi s=>s=((gw (bT .i64 (mC l) (yx t))).take i).foldl (prF t r l want) 0) hi rfl (iV λ_=>rfl) (λ_=>rfl) ?_ ?_ 0 rfl ?_
 ·rintro i x s am he A back
  obtain⟨p,D,rfl⟩:=od am
  have D:(gw (bT .i64 (mC l) (yx t)))[i]? =some p:=D
  have h8:=ni (er D)
  have hn:=mP (f:=prF t r l want) (b:=0) D
  rw[<-he]at hn
  have ad:prF t r l want s p=if(gw (HO l want)).any (prP t r l want p)then eJ s p else s:=rfl
  rw[ad]at hn;try simp only[I,RX,↓KW,seval,M]
  refine af (hW t p V) ?_;try simp only[I,B,RX,↓KW,seval]
  obtain⟨k2,aa,ab⟩:=hE (bC .i64 want (mC l))
  refine af aa ?_;try simp only[I,RX,seval]
  have hP:∀q:Nat,prP t r l want p q=(!(aE t p).2|| !ahE t r (aE t p).1.ring q):=λ_=>rfl
  generalize(aE t p).2=ok at*;generalize(aE t p).1=w at*
  refine iW (λz:Int=>(⟨[(36,.dat (.fn (.func k2) [] [.ref [I (bC .i64 want (mC l))]]) none),(23,.dat (.fn (.func k) [] [.ref [I (bT .i64 (mC l) (yx t))]]) none),(4,.ptr 4 0),(5,.ptr 5 0),(7,.ptr 7 0),(9,.ptr 11 0),(10,.ptr 12 0),(11,.ptr 400 0),(13,.ptr 410 0),(15,.ptr 411 0)],[(4,⟨t.cells,[]⟩),(5,⟨r.cells,[]⟩),(7,⟨[I want],[]⟩),(11,⟨[I (mC l)],[]⟩),(12,⟨[I z],[]⟩),(400,⟨[I p],[]⟩),(410,⟨[I w.ring],[]⟩),(411,⟨[B ok],[]⟩)],[],420⟩:S))
   (λj z=>z=if((gw (HO l want)).take j).any (prP t r l want p)then eJ s p else s) ab rfl (iV λ_=>rfl) (λ_=>rfl) ?_ ?_ s adI ?_
  ·rintro j y z ag hz A2 R
   obtain⟨q,O,rfl⟩:=od ag
   have O:(gw (HO l want))[j]? =some q:=O
   have L:=XD (f:=prP t r l want p) O
   have ac:(if((gw (HO l want)).take (j+1)).any (prP t r l want p)then eJ s p else s)=if prP t r l want p q then eJ z p else z:=by
    rw[L,hz]
    cases((gw (HO l want)).take j).any (prP t r l want p)<;>cases prP t r l want p q<;>simp[P9 s h8]
   have al:=hA t r w.ring q V
   rw[hP q]at ac;clear L hz hi ab hk aa;try simp only[I,B,RX,↓KW,seval]
   repeat' (first|((first|refine af (al) ?_|refine af (hS _ _) ?_);try simp only[I,B,RX,↓KW,seval])|(((first|refine aY ?_ ?_|refine aA ?_ ?_|refine bH ?_ ?_)<;>intro h)<;>try simp only[RX,↓KW,seval,hr,M,h]))
   all_goals
    refine R _ _ ac.symm ?_
    refine ai adp ?_ ?_ ?_ ?_<;>simp[LX,I,B, *]
  ·rintro z hz
   have L:z=((gw (bT .i64 (mC l) (yx t))).take (i+1)).foldl (prF t r l want) 0:=by
    rw[hz,hn,kf (by simp[gw,HO])]
   try simp only[I,B,RX,seval]
   refine back _ _ L ?_
   refine ai adp ?_ ?_ ?_ ?_<;>simp[LX,I]
  ·refine ai adp ?_ ?_ ?_ ?_<;>simp[LX,I,B]
 ·rintro s he
  rw[kf (by simp[gw])]at he
  try simp only[I,RX,↓KW,seval]
  rw[he];rfl
 ·refine ai adp ?_ ?_ ?_ ?_<;>simp[LX,I]
theorem N9.ok{fF fW fE:Nat} (hc:bK P f=some (EI fF fW fE)) (hF:yK.Spec (Pure P) fF) (hW:As.Spec (Pure P) fW) (hE:uz.Spec (Pure P) fE):N9.Spec (Pure P) f:=by
 intro t e ht
 have ad:=Tb.len ht
 have hp:=Tb.whole ht
 have ab:∀x:gW,setCells [.int .i64 0,.int .i64 0,.int .i64 0,.bool false] 0 x.cells=x.cells:=λ_=>rfl
 have aa:setCells [.int .i64 0,.int .i64 0,.int .i64 0,.bool false] 0 [I 0,I (-1),I (-1),B false]=(⟨0,-1,-1,false⟩:gW).cells:=rfl
 have ag:∀(x:gW) (n:Int),setCells x.cells 0 [I n]=({x with group:=n}:gW).cells:=λ_ _=>rfl
 have ak:∀x:gW,x.cells.length=4/\aB x.cells 0 (some 4)=some (.agg x.cells)/\x.cells[0]? =some (I x.group):=λ_=>⟨rfl,rfl,rfl⟩
 have D:=dC ad (dC hp (dC ak (dC ab (dC aa (ag)))))
 refine aq hm hc [] rfl ?_;try simp only[I,RY,↓KW,seval,EI,Z.H,D]
 refine af (hF e) ?_;try simp only[I,RY,↓KW,seval,D]
 refine af (hW t (Cg e) ht) ?_;try simp only[I,B,RY,↓KW,seval,D]
 obtain⟨k,hk,hi⟩:=hE e;refine af hk ?_;try simp only[I,RY,seval,D]
 refine iW (λx:gW=>(⟨[(24,.dat (.fn (.func k) [] [.ref [I e]]) none),(2,.ptr 4 0),(4,.ptr 5 0),(5,.ptr 8 0)],[(4,⟨t.cells,[]⟩),(5,⟨[.int .i64 0,.int .i64 0,.int .i64 0,.bool false],[]⟩),(8,⟨x.cells,[]⟩)],[],400⟩:S)) (λi x=>x=((gw e).take i).foldl (Zh t) ⟨(aE t (Cg e)).1.group,-1,-1,false⟩) hi rfl (iV λ_=>rfl) (λ_=>rfl) ?_ ?_ ⟨(aE t (Cg e)).1.group,-1,-1,false⟩ rfl ?_
 ·rintro i y x ac O A back
  obtain⟨p,M,rfl⟩:=od ac
  have M:(gw e)[i]? =some p:=M
  have V:=mP (f:=Zh t) (b:=⟨(aE t (Cg e)).1.group,-1,-1,false⟩) M
  rw[<-O]at V
  have hP:Zh t x p=if(aE t p).2&&((aE t p).1.group==x.group&&decide (x.at (aE t p).1.ring<0))then x.put (aE t p).1.ring (aE t p).1.pos else x:=rfl
  rw[hP]at V
  have al:=mW (t:=t) (q:=p)
  try simp only[I,RY,↓KW,seval,D]
  refine af (hW t p ht) ?_;generalize(aE t p).2=ok at*;generalize(aE t p).1=w at*;try simp only[I,B,RY,↓KW,seval]
  rcases bc ok with R|R
  ·try simp only[RY,↓KW,seval,R]
   refine back x _ (by rw[V,R];rfl) ?_
   refine ai adp ?_ ?_ ?_ ?_<;>simp[LX,I]
  have hy:=al R
  have L:x.cells[1+w.ring.toNat]? =some (I (x.at w.ring)):=by
   have:w.ring=0\/w.ring=1:=ado
   rcases this with e|e<;>rw[e]<;>rfl
  obtain⟨q,hq⟩:∃q:Nat,w.ring=q:=⟨w.ring.toNat,ado⟩
  have am:=x.XB (k:=q) ado w.pos
  rw[hq]at L V
  have L:x.cells[1+q]? =some (I (x.at q)):=L
  have ae:0<=(q:Int)/\(q:Int)<2:=ado
  try simp only[I,RY,↓KW,seval,R,hq,D]
  clear O hP
  repeat' (((first|refine aY ?_ ?_|refine aA ?_ ?_|refine bH ?_ ?_)<;>intro h)<;>try simp only[I,RY,↓KW,seval,ae,L,am,D,h])
  all_goals
   try refine⟨ado,?_⟩
   refine back _ _ V.symm ?_
   refine ai adp ?_ ?_ ?_ ?_<;>simp[LX,I, *]
 ·rintro x O
  rw[kf (by simp[gw])]at O
  try simp only[I,RY,↓KW,seval,D]
  rw[O];rfl
 ·refine ai adp ?_ ?_ ?_ ?_<;>simp[LX,I]
theorem abK.ok{fB:Nat} (hc:bK P f=some (vB fB)) (hB:Cl.Spec (Pure P) fB):Fv.Spec (Pure P) f:=by
 intro t ht
 have hl:=ht.len
 have aa:b9.length=117:=rfl
 have ae:List.take 96 b9++[I 0,I (-1),I (-1),B false]++List.drop 100 b9=({mb t 0 with rings:=⟨0,-1,-1,false⟩}:bD).cells:=rfl
 have L:∀k,({mb t k with rings:=⟨0,-1,-1,false⟩}:bD).Ok:=λk=>⟨(WQ t k).runs,rfl,rfl⟩
 have V:∀k,setCells b9 0 ({mb t k with rings:=⟨0,-1,-1,false⟩}:bD).cells=({mb t k with rings:=⟨0,-1,-1,false⟩}:bD).cells:=λk=>aM (by rw[bD.len (L k)];rfl)
 have ac:=λk=>bD.len (L k)
 have ab:=λk=>bD.whole (L k)
 have D:=dC hl (dC aa (dC ae (dC V (dC ac (ab)))))
 refine aq hm hc [] rfl ?_;try simp only[RY,↓KW,seval,vB,Z.H,D]
 refine aG (λk:Nat=>(⟨[(8,.dat (I k) none),(1,.ptr 4 0),(2,.ptr 5 0),(3,.ptr 9 0)],[(4,⟨t.cells,[]⟩),(5,⟨b9,[]⟩),(9,⟨({mb t k with rings:=⟨0,-1,-1,false⟩}:bD).cells,[]⟩)],[],400⟩:S)) (λk=>8-k) (λk=>k<=8) ?_ 0 ado ?_
 ·intro k hk A back
  have hw:=aC (k:=k) ado
  try simp only[I,RY,↓KW,seval]
  rcases bc (decide ((k:Int)<8))with O|O
  ·have:k=8:=by have:=dT O;omega
   subst this;try simp only[RY,↓KW,seval,D]
   rfl
  ·have M:k<8:=by have:=dE O;omega
   have hx:0<=(k:Int)/\(k:Int)<8:=ado
   have ag:=Tb.iO (ht.mT M)
   have R:=bD.ade (L k) M (zy (aK t k))
   have ad:({mb t k with runs:=(mb t k).runs.set k (zy (aK t k)),rings:=⟨0,-1,-1,false⟩}:bD)={mb t (k+1)with rings:=⟨0,-1,-1,false⟩}:=by rw[<-PU t M]
   simp only at R;rw[ad]at R;try simp only[RY,↓KW,seval,hx,ag]
   refine af (hB _) ?_;try simp only[RY,↓KW,seval,hx,R,Rn.len,D]
   refine⟨ado,back (k+1) _ ado ado ?_⟩
   refine ai adp ?_ ?_ ?_ ?_<;>simp[LX,I,hw]
 ·refine ai adp ?_ ?_ ?_ ?_<;>simp[LX,I]
end
open Ieee
set_option exponentiation.threshold 4000
def rk(x:Nat):Int:=if x<2^63 then(x:Int)else -((x:Int)-(2^63:Nat))-1
def fv:Option Nat->AV
 |none=>.gn
 |some n=>Fl n
theorem XE:jI .gn=.dat .gn none:=rfl
end Go.Eng
