/- Part 14 of the engine and its library. -/
import Derived.Test.YtjnbemnncjbmgaaGreatPk13
set_option linter.all false
set_option maxRecDepth 10000
set_option maxHeartbeats 4000000
namespace Go.Eng
open Go
section
variable (s:Int) {x:Int} (f:Nat->Bool)
def og(f:Nat->Bool):Nat->Int
 |0=>0
 |k+1=>if f k then eJ (og f k) k else og f k
def RG:Int:=og f 8
theorem NF(f:Nat->Bool):∀k,k<=8->Can (og f k)
 |0,_=>by show Can 0;exact⟨adp,adp⟩
 |k+1,h=>by
  simp only[og];split
  ·exact sZ ado
  ·exact NF f k ado
theorem RH(f:Nat->Bool) (i:Nat):∀k,k<=8->tb (og f k) i=(decide (i<k)&&f i)
 |0,_=>by simp[og,ef]
 |k+1,h=>by
  have M:=RH f i k ado
  simp only[og];split
  ·rename_i hk
   rw[ng ado,M]
   by_cases e:i=k
   ·subst e;simp[hk]
   ·have D:(i<k+1)↔i<k:=ado
    have O:i<k->i<8:=ado
    by_cases L:i<k
    ·simp[D,L,O L,e]
    ·simp[D,L,e]
  ·rename_i hk
   rw[M]
   by_cases e:i=k
   ·subst e;simp at hk;simp[hk]
   ·have D:(i<k+1)↔i<k:=ado
    simp[D]
theorem RJ:Can (RG f):=NF f 8 ado
theorem xu(i:Nat):tb (RG f) i=(decide (i<8)&&f i):=RH f i 8 ado
theorem WZ(L:Can x) {f:Nat->Bool} (h:∀i,i<8->tb x i=f i):x=RG f:=
 BK L (RJ f) λi D=>by rw[h i D,xu];simp[D]
theorem abj{y:Int} (M:Can y):Can (bT .i64 x y):=by
 have e:bT .i64 x y=IntKind.i64.wrap ((bv x&&&bv y).toNat:Int):=rfl
 rw[e]
 refine BL λi L D=>?_
 have a:=BJ M L D
 simp only[tb]at a;rw[BitVec.getLsbD_and,a,pm]
theorem abk:Can 255:=⟨adp,adp⟩
theorem akG:Can 0:=⟨adp,adp⟩
def Lw:Bool:=(List.range 8).all λp=>!tb s p||f p
theorem nN{s:Int} {f:Nat->Bool}:Lw s f=true↔∀p,p<8->tb s p=true->f p=true:=by
 simp only[Lw,mt,ip,na,pA];constructor
 ·intro h p L D;rcases h p L with e|e
  ·rw[D]at e;cases e
  ·exact e
 ·intro h p L
  cases D:tb s p
  ·exact .inl rfl
  ·exact .inr (h p L D)
theorem Lx:(RG (λp=>tb s p&&f p)==bT .i64 s 255)=Lw s f:=by
 rw[Pi,nN,l4];constructor
 ·intro h p M D
  have:=sd (λx=>tb x p) h
  simp only[xu,xg,ux,M,D,Id,py,sh]at this;exact this
 ·intro h
  refine BK (RJ _) (abj abk) λi L=>?_
  rw[xu,xg,ux];cases D:tb s i
  ·simp
  ·simp[L,h i L D]
def JO(D:Nat->Bool) (l:List Nat):Int:=l.foldl (λn p=>if D p then eJ n p else n) 0
theorem Hl(D:Nat->Bool):∀(l:List Nat) (n:Int),(∀p∈l,p<8)->Can n->Can (l.foldl (λn p=>if D p then eJ n p else n) n)/\∀i,i<8->tb (l.foldl (λn p=>if D p then eJ n p else n) n) i=(tb n i||(decide (i∈l)&&D i))
 |[],n,_,L=>⟨L,λi O=>adI⟩
 |q::l,n,h,L=>by
  have M:q<8:=h q adI
  rw[xa]
  have R:Can (if D q then eJ n q else n):=by split;exact sZ M;exact L
  obtain⟨a,b⟩:=Hl D l _ (λp Z=>h p (by simp[Z])) R
  refine⟨a,λi O=>?_⟩
  rw[b i O]
  by_cases e:i=q
  ·subst e
   split
   ·rename_i hk;rw[ng M];simp[hk]
   ·rename_i hk;simp at hk;simp[hk]
  ·have V:(i∈q::l)↔i∈l:=by simp[e]
   simp only[V];split
   ·rw[ng M];simp[O,e]
   ·rfl
theorem Uj(L:Nat->Bool) (s:Int):JO L (gw s)=RG λp=>tb s p&&L p:=by
 obtain⟨a,b⟩:=Hl L (gw s) 0 (λp O=>ni O) akG
 refine WZ a λi M=>?_
 rw[b i M,ef,w5];cases D:tb s i
 ·have:¬i∈gw s:=λh=>by rw[uC h]at D;cases D
  simp[this]
 ·simp[He M D]
end
section
variable (t:Tb) (C:aT) (s:Pr) {k:Nat} (f:Nat) (lines:Int)
def gi(k:Nat):Int:=s.held.getD k 0
def tr4:Option (List Rl):=t.bE.map (·.take 4)
def nR:Nat:=min (t.bE.getD []).length 4
theorem Fz:((tr4 t).getD []).length=nR t:=by
 unfold tr4 nR;cases t.bE with
 |none=>rfl
 |some l=>simp[Nat.min_comm]
theorem Ly(hk:k<nR t):((tr4 t).getD [])[k]? =some (NA t k):=by
 unfold nR at hk;unfold tr4 NA
 cases h:t.bE with
 |none=>rw[h]at hk;simp at hk
 |some l=>
  rw[h]at hk;simp only[yn]at hk;simp only[mn,yn]
  have D:k<l.length:=ado
  rw[yv,fp ado]
  simp[D]
theorem Pr.len{s:Pr} (h:s.held.length=4):s.cells.length=8:=by simp[Pr.cells,h]
theorem Pr.whole{s:Pr} (h:s.held.length=4):aB s.cells 0 (some 8)=some (.agg s.cells):=by
 have:=Pr.len h
 simp[aB,this];rw[<-this,io]
theorem kK{s:Pr} (h:s.held.length=4):s.held=[gi s 0,gi s 1,gi s 2,gi s 3]:=by
 match D:s.held,h with
 |[a,b,c,d],_=>simp[gi,D]
theorem Pr.Lz{s:Pr} (h:s.held.length=4) (hk:k<4):s.cells[3+k]? =some (I (gi s k)):=by
 have e:k=0\/k=1\/k=2\/k=3:=ado
 rw[Pr.cells,kK h]
 rcases e with rfl|rfl|rfl|rfl<;>rfl
theorem Pr.xk{s:Pr} (h:s.held.length=4):s.cells[7]? =some (I s.ff):=by
 rw[Pr.cells,kK h];rfl
def tA(t:Tb) (lines:Int):Nat->Int
 |0=>0
 |k+1=>if tb lines k then AW .i64 (tA t lines k) (2^k)else tA t lines k
def W0(k:Nat):Int:=gM (gi s k) 0 2147483646+1
def gR(t:Tb) (s:Pr) (lines:Int) (n:Nat):List Int:=(List.range 4).map λk=>if k<n&&tb lines k then W0 s k else 0
def iE:Pr:={s with held:=gR t s lines (nR t),ff:=bT .i64 s.ff (tA t lines (nR t))}
theorem NG:(iE t s lines).held.length=4:=rfl
def NH(k:Nat):Bool:=decide (gi s k>(NA t k).delay)&& !tb s.ff k
def aQ:Int:=match(List.range (nR t)).find? (NH t s)with
 |some k=>k
 |none=>-1
def Ho(k:Nat):Bool:=decide (gi s k>(NA t k).limit)
def Av:Bool:=(List.range (nR t)).any (Ho t s)
def xw.Spec:Prop:=∀t:Tb,t.Ok->C.c f [.agg t.cells] (aI Rl.cells (tr4 t)) none
def Hp.Spec:Prop:=∀(t:Tb) (s:Pr) (lines:Int),t.Ok->s.held.length=4->C.c f [.agg t.cells,.agg s.cells,I lines] (.agg (iE t s lines).cells) none
def Aw.Spec:Prop:=∀(t:Tb) (s:Pr),t.Ok->s.held.length=4->C.c f [.agg t.cells,.agg s.cells] (I (aQ t s)) none
def Hq.Spec:Prop:=∀(t:Tb) (s:Pr),t.Ok->s.held.length=4->C.c f [.agg t.cells,.agg s.cells] (B (Av t s)) none
def NJ.Spec:Prop:=∀n:Int,C.c f [I n] (I (bt n)) none
theorem RM{s:Int} (hk:k<4):bT .i64 (s.fdiv (2^k)) 1=if tb s k then 1 else 0:=by
 have D:tb (s.fdiv (2^k)) 0=tb s k:=by
  rw[Am _ ado,Am _ ado]
  simp
 rw[GX,D]
theorem RO(hk:k<4):min ((k:Int)).toNat IntKind.i64.bits=k:=by
 have:IntKind.i64.bits=64:=rfl
 rw[this];omega
theorem NK(hk:k<4):(gR t s lines (k+1)).map I=setCells ((gR t s lines k).map I) k [I (if tb lines k then W0 s k else 0)]:=by
 have e:k=0\/k=1\/k=2\/k=3:=ado
 rcases e with rfl|rfl|rfl|rfl<;>simp[gR,setCells,lj]
theorem NL(h:tb lines k=false):gR t s lines (k+1)=gR t s lines k:=by
 unfold gR
 apply B0
 intro i D
 by_cases e:i=k
 ·subst e;simp[h]
 ·have:(i<k+1)↔i<k:=ado
  simp[this]
end
section
variable{P:Program} (hm:P.follows .mixedOrders=true) {f:Nat}
include hm
section
variable {fR:Nat}
theorem NJ.ok(D:bK P f=some vq):NJ.Spec (Pure P) f:=by
 intro n
 have L:(if 9999<(if 0>n then 0 else n)then 9999 else(if 0>n then 0 else n))=gM n 0 9999:=by
  unfold gM;split<;>split<;>(try split)<;>omega
 refine aq hm D [] rfl ?_;try simp only[I,RX,↓KW,seval,vq,Z.H]
 rw[L];rfl
theorem xw.ok(L:bK P f=some tu):xw.Spec (Pure P) f:=by
 intro t M
 have O:=Tb.sK M
 refine aq hm L [] rfl ?_;try simp only[RX,↓KW,seval,tu,Z.H,O]
 have D:(if(4:Int)<((t.bE.getD []).length:Int)then(4:Int)else((t.bE.getD []).length:Int))=(nR t:Int):=by unfold nR;split<;>omega
 rw[D]
 refine⟨⟨ado,by unfold nR;omega⟩,λr _=>rfl,?_⟩
 unfold tr4 nR
 cases t.bE with
 |none=>rfl
 |some l=>
  simp only[yn,aI,Pf,mn,AV.sl.injEq,rc,Int.toNat_zero,kb,List.map_take]
  rcases ma l.length 4 with h|h
  ·rw[ab7 ado,kf adI,kf (by simp;omega)]
  ·rw[Nat.min_eq_right h]
theorem Hp.ok(hc:bK P f=some (tj fR)) (hR:xw.Spec (Pure P) fR):Hp.Spec (Pure P) f:=by
 intro t s lines L V
 have hp:=Tb.whole L
 have ac:=Pr.len V
 have hn:=Fz t
 have h1:=Pr.xk V
 refine aq hm hc [] rfl ?_;try simp only[I,RY,↓KW,seval,tj,Z.H,hp]
 refine af (hR t L) ?_;try simp only[RY,↓KW,seval,hn]
 refine aG (λk:Nat=>(⟨[(13,.dat (I k) none),(12,.dat (I (nR t)) none),(2,.dat (I lines) none),(7,.dat (I (tA t lines k)) none),(4,.ptr 5 0),(8,.ptr 8 0),(6,.ptr 6 0)],[(5,⟨s.cells,[]⟩),(8,⟨(gR t s lines k).map I,[]⟩),(6,⟨[I 0,I 0,I 0,I 0,I 0,I 0,I 0,I 0],[]⟩)],[],400⟩:S)) (λk=>nR t-k) (λk=>k<=nR t) ?_ 0 ado ?_
 rotate_left
 ·refine ai adp ?_ ?_ ?_ ?_<;>simp[LX,I,gR,tA]
  rfl
 ·intro k hk A back
  have O:=aC (k:=k) (by unfold nR at*;omega)
  try simp only[I,RY,↓KW,seval]
  refine aA (λh=>?_) (λh=>?_)<;>try simp only[RY,↓KW,seval,h]
  ·have h8:k<nR t:=by have:=dE h;omega
   have h4:k<4:=by unfold nR at h8;omega
   have hy:0<=(k:Int)/\(k:Int)<4:=ado
   have hm:min k IntKind.i64.bits=k:=by have:=RO h4;simpa using this
   have R:=RM (s:=lines) h4
   have ha:=Pr.Lz V h4
   have M:=NK t s lines h4
   have D:tA t lines (k+1)=if tb lines k then AW .i64 (tA t lines k) (2^k)else tA t lines k:=rfl
   have ab:IntKind.i64.wrap (1*2^k)=2^k:=by
    have e:k=0\/k=1\/k=2\/k=3:=ado
    rcases e with rfl|rfl|rfl|rfl<;>rfl
   refine⟨hy.1,?_⟩;cases L:tb lines k
   ·have aa:=NL t s lines L
    rw[L]at R D;try simp only[RY,↓KW,seval,hm,R]
    refine back (k+1) _ ado ado (ai adp ?_ ?_ ?_ ?_)<;>simp[LX,I,O,D,aa]
   ·rw[L]at R D M
    have ae:(if 2147483646<(if 0>gi s k then 0 else gi s k)then 2147483646 else(if 0>gi s k then 0 else gi s k))=gM (gi s k) 0 2147483646:=by
     unfold gM;split<;>split<;>(try split)<;>omega
    have hr:0<=gM (gi s k) 0 2147483646/\gM (gi s k) 0 2147483646<=2147483646:=by unfold gM;split<;>(try split)<;>omega
    have ad:IntKind.i64.wrap (gM (gi s k) 0 2147483646+1)=W0 s k:=by rw[aU ado ado];rfl
    try simp only[I,RY,↓KW,seval,hm,R,ab,hy,ha,ae,ad]
    refine⟨by show k+1<=4;omega,?_⟩
    refine back (k+1) _ ado ado (ai adp ?_ ?_ ?_ ?_)<;>simp[LX,I,O,D,M]
  ·have ag:k=nR t:=by have:=dT h;omega
   subst ag
   have q1:aB ((gR t s lines (nR t)).map I) 0 (some 4)=some (.agg ((gR t s lines (nR t)).map I)):=rfl
   have q2:((gR t s lines (nR t)).map I).length=4:=rfl
   have e1:setCells s.cells 3 ((gR t s lines (nR t)).map I)=({s with held:=gR t s lines (nR t)}:Pr).cells:=by
    rw[Pr.cells,kK V];rfl
   have e2:∀x,setCells ({s with held:=gR t s lines (nR t)}:Pr).cells 7 [I x]=({s with held:=gR t s lines (nR t),ff:=x}:Pr).cells:=λx=>rfl
   have e3:({s with held:=gR t s lines (nR t)}:Pr).cells.length=8:=rfl
   have e6:aB ({s with held:=gR t s lines (nR t),ff:=bT .i64 s.ff (tA t lines (nR t))}:Pr).cells 0 (some 8)=some (.agg ({s with held:=gR t s lines (nR t),ff:=bT .i64 s.ff (tA t lines (nR t))}:Pr).cells):=rfl
   have e7:({s with held:=gR t s lines (nR t),ff:=bT .i64 s.ff (tA t lines (nR t))}:Pr).cells.length=8:=rfl
   have e8:setCells [I 0,I 0,I 0,I 0,I 0,I 0,I 0,I 0] 0 ({s with held:=gR t s lines (nR t),ff:=bT .i64 s.ff (tA t lines (nR t))}:Pr).cells=({s with held:=gR t s lines (nR t),ff:=bT .i64 s.ff (tA t lines (nR t))}:Pr).cells:=rfl
   try simp only[I,RY,↓KW,seval,q1,q2,h1,e1,e2,e3,e6,e7,e8,ac]
   rfl
theorem Aw.ok(hc:bK P f=some (th fR)) (hR:xw.Spec (Pure P) fR):Aw.Spec (Pure P) f:=by
 intro t s ht hs
 have hp:=Tb.whole ht
 have hn:=Fz t
 have h7:=Pr.xk hs
 refine aq hm hc [] rfl ?_;try simp only[I,RX,↓KW,seval,th,Z.H,hp]
 refine af (hR t ht) ?_;try simp only[RX,↓KW,seval,hn]
 refine aG (λk:Nat=>(⟨[(10,.dat (I k) none),(9,.dat (I (nR t)) none),(8,.dat (aI Rl.cells (tr4 t)) none),(3,.ptr 5 0)],[(5,⟨s.cells,[]⟩)],[],400⟩:S)) (λk=>nR t-k) (λk=>k<=nR t/\∀q,q<k->NH t s q=false) ?_ 0 ⟨ado,ado⟩ ?_
 rotate_left
 ·refine ai adp ?_ ?_ ?_ ?_<;>simp[LX,I]
 ·rintro k ⟨hk,L⟩ A back
  have V:=aC (k:=k) (by unfold nR at*;omega)
  try simp only[I,RX,↓KW,seval]
  refine aA (λh=>?_) (λh=>?_)<;>try simp only[RX,↓KW,seval,h]
  ·have h8:k<nR t:=by have:=dE h;omega
   have h4:k<4:=by unfold nR at h8;omega
   have R:0<=(k:Int)/\(k:Int)<4:=ado
   have hm:min k IntKind.i64.bits=k:=by have:=RO h4;simpa using this
   have hb:=RM (s:=s.ff) h4
   have ha:=Pr.Lz hs h4
   have hg:=Ly t h8
   have O:NH t s k=(decide (gi s k>(NA t k).delay)&& !tb s.ff k):=rfl
   generalize hq:NA t k=r at*
   have ac:aB r.cells 0 (some 11)=some (.agg r.cells):=rfl
   have ad:r.cells[4]? =some (I r.delay):=rfl
   refine⟨ado,?_⟩
   have hz:setCells cI 0 r.cells=r.cells:=rfl
   have ab:cI.length=11:=rfl
   try simp only[I,RY,↓KW,seval,R,ha,hg,ac,ad,hz,ab,Rl.len]
   cases hd:decide (gi s k>r.delay)
   ·have D:NH t s k=false:=by rw[O,hd];rfl
    try simp only[RY,↓KW,seval]
    refine back (k+1) _ ⟨ado,λq aa=>?_⟩ ado ?_
    ·by_cases e:q=k
     ·rw[e];exact D
     ·exact L q ado
    ·refine ai adp ?_ ?_ ?_ ?_<;>simp[LX,I,V]
   ·try simp only[I,RY,↓KW,seval,hm,R,h7]
    cases M:tb s.ff k
    ·have D:NH t s k=true:=by rw[O,hd,M];rfl
     rw[M]at hb
     have hf:(List.range (nR t)).find? (NH t s)=some k:=yy (kv h8) D (λy R=>L y (by rw[aca]at R;have:=ip.1 R;omega))
     try simp only[RY,↓KW,seval,hb]
     simp[aQ,hf]
    ·have D:NH t s k=false:=by rw[O,hd,M];rfl
     rw[M]at hb;try simp only[RY,↓KW,seval,hb]
     refine back (k+1) _ ⟨ado,λq aa=>?_⟩ ado ?_
     ·by_cases e:q=k
      ·rw[e];exact D
      ·exact L q ado
     ·refine ai adp ?_ ?_ ?_ ?_<;>simp[LX,I,V]
  ·have ae:k=nR t:=by have:=dT h;omega
   subst ae
   have hf:(List.range (nR t)).find? (NH t s)=none:=tc λx O=>L x (ip.1 O)
   simp[aQ,hf]
theorem Hq.ok(hc:bK P f=some (tq fR)) (hR:xw.Spec (Pure P) fR):Hq.Spec (Pure P) f:=by
 intro t s ht hs
 have hp:=Tb.whole ht
 have hn:=Fz t
 refine aq hm hc [] rfl ?_;try simp only[B,RX,↓KW,seval,tq,Z.H,hp]
 refine af (hR t ht) ?_;try simp only[RX,↓KW,seval,hn]
 refine aG (λk:Nat=>(⟨[(10,.dat (I k) none),(9,.dat (I (nR t)) none),(8,.dat (aI Rl.cells (tr4 t)) none),(3,.ptr 5 0)],[(5,⟨s.cells,[]⟩)],[],400⟩:S)) (λk=>nR t-k) (λk=>k<=nR t/\∀q,q<k->Ho t s q=false) ?_ 0 ⟨ado,ado⟩ ?_
 rotate_left
 ·refine ai adp ?_ ?_ ?_ ?_<;>simp[LX,I]
 ·rintro k ⟨hk,M⟩ A back
  have ad:=aC (k:=k) (by unfold nR at*;omega)
  try simp only[I,RX,↓KW,seval]
  refine aA (λh=>?_) (λh=>?_)<;>try simp only[RX,↓KW,seval,h]
  ·have R:k<nR t:=by have:=dE h;omega
   have h4:k<4:=by unfold nR at R;omega
   have hy:0<=(k:Int)/\(k:Int)<4:=ado
   have ha:=Pr.Lz hs h4
   have hg:=Ly t R
   have O:Ho t s k=decide (gi s k>(NA t k).limit):=rfl
   generalize hq:NA t k=r at*
   have aa:aB r.cells 0 (some 11)=some (.agg r.cells):=rfl
   have ab:r.cells[10]? =some (I r.limit):=rfl
   refine⟨ado,?_⟩
   have hz:setCells cI 0 r.cells=r.cells:=rfl
   have V:cI.length=11:=rfl
   try simp only[I,RY,↓KW,seval,hy,ha,hg,aa,ab,hz,V,Rl.len]
   cases hd:decide (gi s k>r.limit)
   ·have L:Ho t s k=false:=by rw[O,hd]
    try simp only[RY,↓KW,seval]
    refine back (k+1) _ ⟨ado,λq ae=>?_⟩ ado ?_
    ·by_cases e:q=k
     ·rw[e];exact L
     ·exact M q ado
    ·refine ai adp ?_ ?_ ?_ ?_<;>simp[LX,I,ad]
   ·have L:Ho t s k=true:=by rw[O,hd]
    try simp only[RY,↓KW,seval]
    have D:Av t s=true:=List.any_eq_true.2 ⟨k,ip.2 R,L⟩
    simp[D]
  ·have ac:k=nR t:=by have:=dT h;omega
   subst ac
   have D:Av t s=false:=by
    rw[Av,List.any_eq_false];intro x O;simp[M x (ip.1 O)]
   simp[D]
end
end
open Go.RowKit (Below)
section
variable{C:aT} {Q:Exit->S->Prop} {K:SV->S->Prop} {J:S->Prop} {X:AV->S->Prop}
variable(sl:List (Nat×SV)) (bx:List (Nat×bV)) (lv:List (Nat×Nat)) (nx:Nat)
section
variable (b f i id:Nat)
theorem af8:ji C b i [] J X ⟨sl,bx,lv,nx⟩=J ⟨sl,bx,lv,nx⟩:=rfl
theorem akH(d:Option Nat) (o:IY) (r:List XO):ji C b i (⟨d,o,none⟩::r) J X ⟨sl,bx,lv,nx⟩=dF C (b+i) o (λv D=>ji C b (i+1) r J X (D.put d v)) X ⟨sl,bx,lv,nx⟩:=rfl
theorem af9(t:Nat) (w:Bool) (d:Option Nat) (o:IY) (r:List XO):ji C b i (⟨d,o,some (t,w)⟩::r) J X ⟨sl,bx,lv,nx⟩=
  nY w (dF C (b+i) o (λv D=>ji C b (i+1) r J X (D.put d v)) X ⟨sl,bx,lv,nx⟩) (ji C b (i+1) r J X (S.put ⟨sl,bx,lv,nx⟩ d .undef)) (lk t sl):=by
 simp only[ji,gq,nY]
 cases lk t sl with
 |none=>rfl
 |some v=>cases v with
  |dat a q=>cases a<;>rfl
  |_=>rfl
theorem x_o(c:bU):dF C id (.o c) K X ⟨sl,bx,lv,nx⟩=bF C id c K ⟨sl,bx,lv,nx⟩:=rfl
def RQ(k:Exit->S->Prop) (n:Nat):AV->S->Prop:=λp s=>k (.panic (iB p)) {s with nx:=n}
theorem akI(ops:List XO):aw C (.qy ops) Q ⟨sl,bx,lv,nx⟩=ji C nx 0 ops (I6 (Q .normal) (nx+ops.length)) (RQ Q (nx+ops.length)) ⟨sl,bx,lv,nx⟩:=rfl
theorem aga(k:Exit->S->Prop) (n:Nat) (p:AV):RQ k n p ⟨sl,bx,lv,nx⟩=k (.panic (iB p)) ⟨sl,bx,lv,n⟩:=rfl
class KX where
 run:SV->List (Nat×bV)->List (Nat×Nat)->Prop
 rx:AV->List (Nat×bV)->Prop
def Hr(C:aT) (f:Nat) (as:List AV) (id:Nat) (bx:List (Nat×bV)) (lv:List (Nat×Nat)) (k:SV->List (Nat×bV)->List (Nat×Nat)->Prop) (x:AV->List (Nat×bV)->Prop):Prop:=
 Ek C f as id lv (λv l=>k v bx l)\/(∃cs,C.n f as cs/\k (.ptr id 0) ((id,⟨cs,[]⟩)::bx) lv)\/(∃p,C.q f [] (as.map some) p []/\x p bx)\/∃rows e z,C.c f as (.sl rows) (some e)/\Ji z rows=true/\k (.vs id 0 rows.length z) ((id,⟨rows.flatten,[]⟩)::bx) lv
def clx(C:aT) (f:Nat) (as:List AV) (id:Nat) (bx:List (Nat×bV)) (lv:List (Nat×Nat)) [k:KX]:Prop:=Hr C f as id bx lv k.run k.rx
theorem akJ(as:List AV) (id:Nat) (bx:List (Nat×bV)) (lv:List (Nat×Nat)) (k:SV->List (Nat×bV)->List (Nat×Nat)->Prop) (x:AV->List (Nat×bV)->Prop):Hr C f as id bx lv k x=@clx C f as id bx lv ⟨k,x⟩:=rfl
@[congr] theorem akK{as D:List AV} (bx:List (Nat×bV)) (lv:List (Nat×Nat)) (k:SV->List (Nat×bV)->List (Nat×Nat)->Prop) (x:AV->List (Nat×bV)->Prop) (h:as=D):Hr C f as id bx lv k x=Hr C f D id bx lv k x:=by rw[h]
end
section
variable {as:List (Option AV)} {css:List (List AV)} {ids:List Nat} {k:SV->List (Nat×bV)->List (Nat×Nat)->Prop} {r:AV} {x:AV->List (Nat×bV)->Prop} (f id:Nat)
theorem aN{f:Nat} {as:List AV} {id:Nat} {bx:List (Nat×bV)} {lv:List (Nat×Nat)} (h:C.c f as r none) (hk:k (.dat r none) bx lv):@clx C f as id bx lv ⟨k,x⟩:=.inl ⟨r,none,h,hk⟩
theorem agb(f:Nat) (args:List aR):dF C id (.call f args) K X ⟨sl,bx,lv,nx⟩=aj (ei ⟨sl,bx,lv,nx⟩ args) λas=>Hr C f as id bx lv (λv b l=>K v ⟨sl,b,l,nx⟩) (λp b=>X p ⟨sl,b,lv,nx⟩):=by
 simp only[dF,bF]
 cases ei ⟨sl,bx,lv,nx⟩ args with
 |none=>simp
 |some as=>rfl
def yG(C:aT) (f:Nat) (css:List (List AV)) (as:List (Option AV)) (ids:List Nat) (id:Nat) (bx:List (Nat×bV)) (lv:List (Nat×Nat)) (k:SV->List (Nat×bV)->List (Nat×Nat)->Prop) (x:AV->List (Nat×bV)->Prop):Prop:=
 GB C f css as ids id bx lv k\/(∃v D,C.q f css as v D/\x v (dR ids D bx))\/QI C f css as ids id bx lv k
def W4(C:aT) (f:Nat) (css:List (List AV)) (as:List (Option AV)) (ids:List Nat) (id:Nat) (bx:List (Nat×bV)) (lv:List (Nat×Nat)) [k:KX]:Prop:=yG C f css as ids id bx lv k.run k.rx
theorem agc(css:List (List AV)) (as:List (Option AV)) (ids:List Nat) (id:Nat) (bx:List (Nat×bV)) (lv:List (Nat×Nat)) (k:SV->List (Nat×bV)->List (Nat×Nat)->Prop) (x:AV->List (Nat×bV)->Prop):yG C f css as ids id bx lv k x=@W4 C f css as ids id bx lv ⟨k,x⟩:=rfl
@[congr] theorem ahZ{L:List (List AV)} {M:List (Option AV)} {D:List Nat} (bx:List (Nat×bV)) (lv:List (Nat×Nat)) (k:SV->List (Nat×bV)->List (Nat×Nat)->Prop) (x:AV->List (Nat×bV)->Prop) (R:css=L) (V:as=M) (O:ids=D):yG C f css as ids id bx lv k x=yG C f L M D id bx lv k x:=by rw[R,V,O]
theorem aX{f id:Nat} {bx:List (Nat×bV)} {lv:List (Nat×Nat)} {D:List (List AV)} (h:C.p f css as r none D) (hk:k (.dat r none) (dR ids D bx) lv):@W4 C f css as ids id bx lv ⟨k,x⟩:=.inl ⟨r,none,D,h,hk⟩
theorem JP{f id:Nat} {bx:List (Nat×bV)} {lv:List (Nat×Nat)} {D:List (List AV)} {M L:Option (Nat×Nat×Nat)} {qo:Option Nat} (h:C.t f css M as r D L) (O:Pg bx lv ids M=some qo) (hk:k (.dat r none) (uT id ids L (dR ids D bx)) (CY id L (Mv qo lv))):@W4 C f css as ids id bx lv ⟨k,x⟩:=.inr (.inr ⟨M,r,D,L,h,by rw[O];exact hk⟩)
end
def BP(C:aT) (f id:Nat) (bx:List (Nat×bV)) (lv:List (Nat×Nat)) (L:List (Option AV)) (D:List Nat) (k:SV->List (Nat×bV)->List (Nat×Nat)->Prop) (x:AV->List (Nat×bV)->Prop) (p:List (Option AV)×List Nat):Prop:=
 dS (p.2++D)=true/\aj (aW bx (p.2++D)) λcss=>yG C f css (p.1++L) (p.2++D) id bx lv k x
section
variable (id:Nat) (b:Bool) (g:aR) (f:Nat) (args:List aR) (k:SV->Prop)
theorem W5(id:Nat) (as D:List (Option AV)) (ids L:List Nat) (k:SV->List (Nat×bV)->List (Nat×Nat)->Prop) (x:AV->List (Nat×bV)->Prop):BP C f id bx lv D L k x (as,ids)=(dS (ids++L)=true/\aj (aW bx (ids++L)) λcss=>yG C f css (as++D) (ids++L) id bx lv k x):=rfl
theorem abl:dF C id (.ew f args) K X ⟨sl,bx,lv,nx⟩=aj (ej true ⟨sl,bx,lv,nx⟩ args) (BP C f id bx lv [] [] (λv b l=>K v ⟨sl,b,l,nx⟩) (λp b=>X p ⟨sl,b,lv,nx⟩)):=by
 simp only[dF,bF]
 cases ej true ⟨sl,bx,lv,nx⟩ args with
 |none=>simp
 |some p=>
  simp only[ay,BP,tp]
  cases aW bx p.2 with
  |none=>simp
  |some css=>
   exact(propext and_or_left).symm
def yH(C:aT) (id:Nat) (b:Bool) (g:aR) (args:List aR) (K:SV->S->Prop) (X:AV->S->Prop) (s:S):Option SV->Prop
 |some (.nX f as D)=>aj (ej true s args) (BP C f id s.boxes s.live as D (λv b l=>K v ⟨s.slots,b,l,s.nx⟩) (λp b=>X p ⟨s.slots,b,s.live,s.nx⟩))
 |_=>bF C id (if b then .gK g args else .gy g args) K s
theorem abm:dF C id (.gy b g args) K X ⟨sl,bx,lv,nx⟩=yH C id b g args K X ⟨sl,bx,lv,nx⟩ (bX ⟨sl,bx,lv,nx⟩ g):=by
 simp only[dF]
 cases bX ⟨sl,bx,lv,nx⟩ g with
 |none=>rfl
 |some v=>cases v<;>rfl
@[congr] theorem ah0(K:SV->S->Prop) (X:AV->S->Prop) (s:S) {v D:Option SV} (h:v=D):yH C id b g args K X s v=yH C id b g args K X s D:=by rw[h]
theorem W6(f:Nat) (as:List (Option AV)) (D:List Nat):yH C id b g args K X ⟨sl,bx,lv,nx⟩ (some (.nX f as D))=aj (ej true ⟨sl,bx,lv,nx⟩ args) (BP C f id bx lv as D (λv b l=>K v ⟨sl,b,l,nx⟩) (λp b=>X p ⟨sl,b,lv,nx⟩)):=rfl
theorem W7(s:S) (a:AV) (q:Option Nat):yH C id true g args K X s (some (.dat a q))=bF C id (.gK g args) K s:=rfl
theorem W8(s:S) (a:AV) (q:Option Nat):yH C id false g args K X s (some (.dat a q))=bF C id (.gy g args) K s:=rfl
def abn(p:List (Option AV)×List Nat):Prop:=k (.nX f p.1 p.2)
theorem akL(caps:List aR):dF C id (.mkc f caps) K X ⟨sl,bx,lv,nx⟩=aj (ej false ⟨sl,bx,lv,nx⟩ caps) (abn f λv=>K v ⟨sl,bx,lv,nx⟩):=rfl
theorem agd(as:List (Option AV)) (D:List Nat):abn f k (as,D)=k (.nX f as D):=rfl
theorem akM(x:aR):dF C id (.S0 x) K X ⟨sl,bx,lv,nx⟩=aj (aL ⟨sl,bx,lv,nx⟩ x) λa=>jh a=true/\X a ⟨sl,bx,lv,nx⟩:=rfl
end
section
variable (q n id t:Nat) (neg:Bool) (e b:Nat) (z a:AV) (cs:List AV) (f:Nat) {L v:SV} (k:SV->Prop) (p:List (Option AV)×List Nat) (s:S) (x:aR)
theorem akN:dF C id (.mkI t x) K X ⟨sl,bx,lv,nx⟩=aj (aL ⟨sl,bx,lv,nx⟩ x) λa=>iI a none=true/\K (.dat (.iface t a) none) ⟨sl,bx,lv,nx⟩:=rfl
theorem akO:dF C id (.tas t z x) K X ⟨sl,bx,lv,nx⟩=aj (aL ⟨sl,bx,lv,nx⟩ x) λa=>aj (Mt t z a) λv=>K (.dat v none) ⟨sl,bx,lv,nx⟩:=rfl
theorem akP:dF C id (.isI neg x) K X ⟨sl,bx,lv,nx⟩=aj (aL ⟨sl,bx,lv,nx⟩ x) λa=>aj (Pe neg a) λv=>K (.dat (.bool v) none) ⟨sl,bx,lv,nx⟩:=rfl
theorem akQ:dF C id (.isP neg x) K X ⟨sl,bx,lv,nx⟩=aj (bX ⟨sl,bx,lv,nx⟩ x) λa=>aj (F0 neg a) λv=>K (.dat (.bool v) none) ⟨sl,bx,lv,nx⟩:=rfl
theorem akR(bytes:Nat) (l c:aR):dF C id (.mks e bytes l c) K X ⟨sl,bx,lv,nx⟩=aj (aL ⟨sl,bx,lv,nx⟩ l) λa=>aj (idxOf a) λl=>aj (aL ⟨sl,bx,lv,nx⟩ c) λb=>aj (idxOf b) λc=>(0<=l/\l<=c/\c*bytes<=140737488355328)/\K (.raw id l.toNat) ⟨sl,bx,(id,e)::lv,nx⟩:=rfl
def abo(id:Nat) (s:S) (b:Option AV) (k:SV->S->Prop):SV->Prop
 | .raw q n=>aj b λb=>aj (rowsOf b) λD=>(D.length=n/\∀r∈D,r.length=1)/\d9 q s.live=some e/\k (.dat (.int .i64 n) none) {s with slots:=F2 q n (.sl D) id s.slots,live:=(id,e)::jT q s.live}
 |_=>False
theorem akS(y:aR):dF C id (.cpy e x y) K X ⟨sl,bx,lv,nx⟩=aj (bX ⟨sl,bx,lv,nx⟩ x) (abo e id ⟨sl,bx,lv,nx⟩ (aL ⟨sl,bx,lv,nx⟩ y) K):=by
 show aj _ _=aj _ _
 cases bX ⟨sl,bx,lv,nx⟩ x with
 |none=>rfl
 |some v=>cases v<;>rfl
theorem age(q n:Nat) (b:Option AV):abo e id ⟨sl,bx,lv,nx⟩ b K (.raw q n)=aj b λb=>aj (rowsOf b) λD=>(D.length=n/\∀r∈D,r.length=1)/\d9 q lv=some e/\K (.dat (.int .i64 n) none) ⟨F2 q n (.sl D) id sl,bx,(id,e)::jT q lv,nx⟩:=rfl
@[congr] theorem ana(id:Nat) (s:S) {b D:Option AV} (k:SV->S->Prop) (h:b=D) (M:v=L):abo e id s b k v=abo e id s D k L:=by rw[h,M]
theorem abp(id:Nat):F2 q n a id []=[]:=rfl
theorem agf(id t:Nat) (v:SV) (r:List (Nat×SV)):F2 q n a id ((t,v)::r)=(t,F1 q n a id v)::F2 q n a id r:=rfl
theorem agh(id:Nat):F1 q n a id (.raw q n)=.dat a (some id):=by simp[F1]
theorem agi(b:AV) (id:Nat) (m:Option Nat):F1 q n a id (.dat b m)=.dat b m:=rfl
theorem agj(id b o:Nat):F1 q n a id (.ptr b o)=.ptr b o:=rfl
theorem agk(id:Nat) (cs:List AV):F1 q n a id (.rp cs)=.rp cs:=rfl
theorem agl(id:Nat):F1 q n a id .undef=.undef:=rfl
theorem agm(q n:Nat):lg b cs (.raw q n)=.raw q n:=rfl
theorem agn:Mt t z .gJ=some (.dP [z,.bool false]):=rfl
theorem ago:Mt t z (.iface t a)=some (.dP [a,.bool true]):=by simp[Mt]
theorem agp:Pe neg .gJ=some !neg:=rfl
theorem agq(t:Nat) (a:AV):Pe neg (.iface t a)=some neg:=rfl
theorem ags(o:Nat):F0 neg (.ptr b o)=some neg:=rfl
theorem agt:F0 neg (.rp cs)=some neg:=rfl
theorem agu(q:Option Nat):F0 neg (.dat .tQ q)=some !neg:=rfl
theorem akT(as:List (Option AV)) (D:List Nat):lg b cs (.nX f as D)=.nX f as D:=rfl
theorem anb(q:Option Nat):iI (.iface t a) q=true:=rfl
theorem akU(q:Option Nat):iI .gJ q=true:=rfl
theorem abq:AV.cells (.iface t a)=[.iface t a]:=rfl
theorem akV:jI (.iface t a)=.dat (.iface t a) none:=rfl
theorem agv:jI .gJ=.dat .gJ none:=rfl
def adh:SV->Prop
 | .ptr b o=>k (.pt 0 [(b,o)])
 |_=>False
def adi:SV->Prop
 | .pt 0 ps=>k (.pt 2 ps)
 |_=>False
def agw(k:S->Prop) (b:Nat):SV->Prop
 | .pt 0 ps=>aj (cj b s.boxes) λy=>(4<=b/\y.cells.length=1/\ps.length=1)/\k {s with slots:=F3 b ps s.slots,boxes:=mI b s.boxes}
 |_=>False
def akW(k:S->Prop) (v:Option SV):SV->Prop
 | .ptr b 0=>aj v (agw s k b)
 |_=>False
def akX(a:Option AV) (k:SV->Prop):SV->Prop
 | .pt 1 ps=>aj a λa=>aj (idxOf a) λi=>(0<=i/\i<ps.length)/\k (.pt 2 (ps.drop i.toNat))
 |_=>False
def akY:SV->Prop
 | .pt 1 ps=>k (.dat (.int .i64 ps.length) none)
 |_=>False
def PW(C:aT) (f:Nat) (css:List (List AV)) (as:List (Option AV)) (ids:List Nat) (bx:List (Nat×bV)) (k:SV->List (Nat×bV)->Prop):Prop:=∃j o b,C.r f css as j o/\ids[j]? =some b/\k (.ptr b o) (dR ids css bx)
def W9(C:aT) (bx:List (Nat×bV)) (p:List (Option AV)×List Nat) (k:SV->List (Nat×bV)->Prop):AV->Prop
 | .fn (.func f) [] []=>dS p.2=true/\aj (aW bx p.2) λcss=>PW C f css p.1 p.2 bx k
 |_=>False
@[congr] theorem al8{D:SV} (h:v=D):adh k v=adh k D:=by rw[h]
@[congr] theorem al9{D:SV} (h:v=D):adi k v=adi k D:=by rw[h]
@[congr] theorem anc(k:S->Prop) {u D:Option SV} (M:u=D) (h:v=L):akW s k u v=akW s k D L:=by rw[h,M]
@[congr] theorem ane(k:S->Prop) (b:Nat) {D:SV} (h:v=D):agw s k b v=agw s k b D:=by rw[h]
@[congr] theorem anf{a a':Option AV} {D:SV} (L:a=a') (h:v=D):akX a k v=akX a' k D:=by rw[h,L]
@[congr] theorem ang{D:SV} (h:v=D):akY k v=akY k D:=by rw[h]
@[congr] theorem akZ{css L:List (List AV)} {as O:List (Option AV)} {ids D:List Nat} {bx M:List (Nat×bV)} (k:SV->List (Nat×bV)->Prop) (V:css=L) (Z:as=O) (R:ids=D) (h4:bx=M):PW C f css as ids bx k=PW C f L O D M k:=by rw[V,Z,R,h4]
@[congr] theorem ak0(k:SV->List (Nat×bV)->Prop) {v D:AV} (h:v=D):W9 C bx p k v=W9 C bx p k D:=by rw[h]
theorem agx(k:S->Prop) (s:S) (c:List PanicEntry):jU k Q (.panic c) s=Q (.panic c) s:=rfl
theorem ak1(c:List PanicEntry):jN id Q (.panic c) s=Q (.panic c) s:=rfl
theorem anh(l:Nat) (k:S->Prop) (s:S) (c:List PanicEntry):tX l k Q (.panic c) s=Q (.panic c) s:=rfl
theorem ani(s:S) (c:List PanicEntry):Ku Q (.panic c) s=Q (.panic c) s:=rfl
theorem ak2(k D:IntKind) (x y:Int):jh (.iface t (.agg [.int k x,.int D y]))=true:=rfl
@[congr] theorem anj(o:IY) (s:S):dF C id o K X s=dF C id o K X s:=rfl
@[congr] theorem ama(i:Nat) (l:List XO) (s:S):ji C b i l J X s=ji C b i l J X s:=rfl
@[congr] theorem amb(p:AV) (s:S):RQ Q n p s=RQ Q n p s:=rfl
@[congr] theorem ank{p D:List (Option AV)×List Nat} (h:p=D):abn f k p=abn f k D:=by rw[h]
end
end
section
variable (p:AV) (css:List (List AV))
def dh:=
 dC @af8 (dC @akH (dC @af9 (dC @x_o (dC @akI (dC @aga (dC @agb (dC @W5 (dC @abl (dC @abm (dC @W6 (dC @W7 (dC @W8 (dC @akL (dC @agd (dC @akM (dC @akN (dC @akO (dC @akP (dC @akQ (dC @akR (dC @akS (dC @age (dC @abp (dC @agf (dC @agh (dC @agi (dC @agj (dC @agk (@agl)))))))))))))))))))))))))))))
def gm:=
 dC @agm (dC @agn (dC @ago (dC @agp (dC @agq (dC @ags (dC @agt (dC @agu (dC @akT (dC @anb (dC @akU (dC @abq (dC @akV (dC @agv (dC @agx (dC @ak1 (dC @anh (dC @ani (@ak2))))))))))))))))))
def dQ:=dC @akJ @agc
def agy:Exit->S->Prop
 | .panic c,s=>c=iB p/\ja s.boxes 0 css
 |_,_=>False
theorem agz(s:S):agy p css (.panic (iB p)) s=ja s.boxes 0 css:=by simp[agy]
def abr(res:List gu) (cs:List AV):Exit->S->Prop
 | .normal,s| .ret,s=>match res with
  |[.tmp t]=>match lk t s.slots with
   |some (.ptr b 0)=>4<=b/\aj (cj b s.boxes) λx=>x.cells=cs
   |_=>False
  |_=>False
 |_,_=>False
end
section
variable{P:Program}
section
variable {args:List (Option AV)} {cf:bJ} {css:List (List AV)} {f:FuncId} {mo:Bool}
theorem Hs{w:World} {π:Nat->Nat->Prop} {Bs:List Nat} {vs:List Value} {nt:Nat} (hn:args.length<=nt) (h4:css.length<=4) (O:∀b o,π b o->b<w.heap.size) (ab:Bs.Nodup) (ag:cY w π css Bs) (hd:gb w π args Bs vs):
  eF P nt (gV.i6 w Bs) w π (lZ css args) {tmps:=vs.toArray++Array.replicate (nt-vs.toArray.size) undef,defers:=[]} w:=by
 have am:=sH hd
 obtain⟨ao,R⟩:=ag.get
 have hβ:∀(j B:Nat),Bs[j]? =some B->(gV.i6 w Bs).β j=B:=λj B hj=>by simp[gV.i6,hj]
 refine⟨ik 4,(gV.i6 w Bs).β,λ_=>undef,π,λn=>n<4,λ_ h=>h,?_⟩
 have D:∀b x,cj b (lZ css args).boxes=some x->∃B cs,b<4/\Bs[b]? =some B/\(gV.i6 w Bs).β b=B/\x=⟨cs,[]⟩/\rH (λ_=>undef) w π B ⟨cs,[]⟩:=by
  intro b x Z;obtain⟨cs,_,M,V⟩:=ug Z;simp only[QP]at M
  have an:b<css.length:=(eo.1 M).1
  have hB:Bs[b]? =some Bs[b]:=eh ado
  exact⟨_,cs,ado,hB,hβ _ _ hB,V,R b cs _ M hB⟩
 refine{size:=?_,slots:=?_,boxes:=?_,inj:=?_,live:=λq e h=>(by cases h),dr:=λq q' e e' B h=>(by cases h),dw:=λq e b x h=>(by cases h),below:=.refl _ _,gG:=ik _,eZ:=O,eU:=λ_ _ h=>h,dz:=λ_ _ h=>.inl h,mJ:=λ_ _=>rfl,jH:=λ_ h=>h,kept:=λ_ _ _=>rfl}
 ·simp;omega
 ·intro t v hv
  obtain⟨x,_,hx,ac⟩:=oS hd hv;simp only[QP]at hx
  have ae:t<vs.length:=(eo.1 hx).1
  have L:(vs.toArray++Array.replicate (nt-vs.toArray.size) undef)[t]? =some x:=by
   simp[WP,ae]
   simpa using(eo.1 hx).2
  rcases ac with⟨a,rfl,aa⟩|⟨j,B,hB,⟨rfl,rfl⟩|⟨rfl,rfl⟩⟩
  ·exact⟨⟨x,L,(nA (U:=λn=>n<4) aa).1⟩,(nA (β:=id) (τ:=λ_=>undef) aa).2⟩
  ·refine⟨⟨_,L,?_⟩,?_⟩
   ·show Value.pointer (some ⟨B,0,none⟩)=.pointer (some ⟨(gV.i6 w Bs).β (0+j),0,none⟩)
    rw[lc,hβ j B hB]
   ·have:j<Bs.length:=(eo.1 hB).1
    show 0+j<4
    omega
  ·have hj:j<Bs.length:=(eo.1 hB).1
   refine⟨⟨_,L,?_⟩,λp hp=>?_⟩
   ·show Value.agg #[.pointer (some ⟨B,0,none⟩)]=.agg #[.pointer (some ⟨(gV.i6 w Bs).β (0+j),0,none⟩)]
    rw[lc,hβ j B hB]
   ·simp at hp;subst hp
    show j<4
    omega
 ·intro b x Z
  obtain⟨B,cs,h1,M,V,rfl,h5⟩:=D b x Z
  exact⟨h1,.inr ⟨h1,by rw[V];exact er M⟩,by rw[V];exact h5,λo q hq=>by cases hq⟩
 ·intro b b' x x' Z ad e
  obtain⟨B,_,_,M,V,_,_⟩:=D b x Z;obtain⟨B',_,_,al,ak,_,_⟩:=D b' x' ad;rw[V,ak]at e;subst e;exact yq ab b b' B M al
theorem kj{nt:Nat} {n0:gV} {w:World} {π:Nat->Nat->Prop} {s:S} {a:Act} {fn:Func} {tm:Array Value} {R:Ending->World->Prop} {u:FrameMode} (hu:u≠.run) {dd:List Deferred}
  (L:∀w',eF P nt n0 w π s a w'->LeavesInM Fence.wide 0 P fn tm R dd u w'):
  ∀(O:List Nat) (w':World),O.Nodup->(∀D∈O,n0.n<=D/\w'.heap[D]? =some (.deferred (some [])))->eF P nt n0 w π s a w'->w.heap.size<=n0.n->LeavesInM Fence.wide 0 P fn tm R (O.map Tk++dd) u w'
 |[],w',_,_,R',_=>L w' R'
 |D::O,w',M,hD,R',hn=>by
  obtain⟨h1,Z⟩:=hD D nb;simp only[yi]at M;refine⟨hu,.inl ⟨D,_,rfl,run_takeDeferred Z,?_⟩⟩
  refine kj hu L O _ M.2 (λD' V=>?_) ((R'.putObj Z rfl rfl).rew (R'.below.putObj (lh hn h1) h1 _) R'.gG (λb o hb=>(kS Z rfl rfl _).trans (R'.kept b o hb))) hn
  obtain⟨g1,g2⟩:=hD D' (lw _ V)
  exact⟨g1,(ui (λe=>M.1 (by rw[<-e];exact V))).trans g2⟩
theorem Xa(hm:P.follows .mixedOrders=true) (ak:qE mo P f=some cf) {D:List (List AV)} {p:AV} (hn:args.length<=cf.nt) (hl:D.length=css.length) (h4:css.length<=4) (h:aw (Pure P) cf.code (agy p D) (lZ css args)):Vj P f css args p D:=by
 obtain⟨fn,c,cc,al,hbody,am,aa,ec,en,V,M⟩:=sG ak;rw[ec]at h;rw[en]at hn
 refine⟨M,hl,h4,λw π Bs vs L ab O hd=>?_⟩
 have ag:=O.get.1
 have R:=Hs (P:=P) hn h4 L ab O hd
 refine Ix.1 (EQ (n:=0) (F:=Fence.wide) al hbody trivial (xo (oM (pL hm c cc aa V _ (λ_=>False) ⟨#[],[]⟩ (λ_ h=>h.elim) none 0 w _ _ _ _ ⟨R,λl h=>by(cases h),⟨[],rfl,.nil,adI⟩,λ_ h=>h.elim⟩ h)) ?_))
 rintro e a' w' ⟨s,hq,R',_,⟨Ds,ad,ac,ae⟩,_⟩
 cases e with
 |panic ch=>
  obtain⟨rfl,Z⟩:=hq
  show LeavesInM _ _ _ _ _ _ a'.defers _ _
  rw[ad]
  refine kj adI (λw' R'=>?_) Ds w' ac ae R' (ik _)
  obtain⟨_,β,τ,π',U,hU,R'⟩:=R'
  have hB:=R'.MY ag h4 hl Z
  exact⟨π',rfl,R'.below,R'.eU,λb o h=>(R'.dz b o h).imp id (λk=>k.elim id (λk=>absurd h (kI hB b k o))),R'.eZ,hB⟩
 |_=>exact hq.elim
def agA(res:List gu) (css:List (List AV)) (j o:Nat):Exit->S->Prop
 | .normal,s| .ret,s=>match res with
  |[.tmp t]=>lk t s.slots=some (.ptr j o)/\ja s.boxes 0 css
  |_=>False
 |_,_=>False
theorem Xb(hm:P.follows .mixedOrders=true) (a2:qE mo P f=some cf) {j o:Nat} (hn:args.length<=cf.nt) (h4:css.length<=4) (hj:j<css.length) (h:aw (Pure P) cf.code (agA cf.res css j o) (lZ css args)):Vl P f css args j o:=by
 obtain⟨fn,c,cc,a3,hbody,D,ao,ec,en,am,ab⟩:=sG a2;rw[ec]at h;rw[en]at hn
 refine⟨ab,h4,λw π Bs vs aa ar ak hd=>?_⟩
 have au:=ak.get.1
 have R:=Hs (P:=P) hn h4 aa ar ak hd
 refine Ix.1 (EQ (n:=0) (F:=Fence.wide) a3 hbody trivial (xo (oM (pL hm c cc ao am _ (λ_=>False) ⟨#[],[]⟩ (λ_ h=>h.elim) none 0 w _ _ _ _ ⟨R,λl h=>by(cases h),⟨[],rfl,.nil,adI⟩,λ_ h=>h.elim⟩ h)) ?_))
 have O:∀(s:S) (a':Act) (w':World),agA cf.res css j o .ret s->eF P fn.ntmps (gV.i6 w Bs) w π s a' w'->
   ∃v,(results fn a'.tmps).run P w'=.ok v w'/\∃B π',Bs[j]? =some B/\Ending.returned v=.returned (.pointer (some ⟨B,o,none⟩))/\yb (gV.i6 w Bs) w w'/\(∀b o,π b o->π' b o)/\(∀b o,π' b o->π b o\/w.heap.size<=b)/\
    (∀b o,π' b o->b<w'.heap.size)/\cY w' π' css Bs:=by
  rintro s a' w' M ⟨_,β,τ,π',U,hU,R'⟩
  simp only[agA]at M
  split at M<;>try(exact M.elim)
  rename_i t al;obtain⟨a4,an⟩:=M;obtain⟨⟨y,hy,Z⟩,_⟩:=R'.slots t _ a4
  have Z:y=.pointer (some ⟨β j,o,none⟩):=Z
  have hB:=R'.MY au h4 rfl an
  have ac:Bs[j]? =some Bs[j]:=eh ado
  have hβ:β j=Bs[j]:=by
   rw[R'.mJ j ado]
   simp[gV.i6,ac]
  have hr:fn.results.toList=[.tmp t]:=by
   rw[al]at D
   cases hf:fn.results.toList with
   |nil=>rw[hf]at D;simp at D
   |cons rv a5=>
    rw[hf]at D;simp only[tl,pb,jp,vd,fx]at D;obtain⟨cr,ae,a6,V,e⟩:=D;cases e
    cases a5 with
    |nil=>
     cases rv with
     |tmp t'=>cases ae;rfl
     |cell a t'=>simp only[I4,eg,reduceCtorEq,and_false,exists_false]at ae
    |cons x xs=>
     simp only[tl,pb,jp,vd,fx]at V;obtain⟨_,_,_,_,h⟩:=V;cases h
  refine⟨y,?_,Bs[j],π',ac,by rw[Z,hβ],R'.below,R'.eU,λb o h=>(R'.dz b o h).imp id (λk=>k.elim id (λk=>absurd h (kI hB b k o))),R'.eZ,hB⟩
  have e:fn.results=#[.tmp t]:=md.1 (by simpa using hr)
  rw[ue,e];simp[oL,hy]
 rintro e a' w' ⟨s,M,R',_,⟨Ds,L,ad,ag⟩,_⟩
 have L:a'.defers=Ds.map Tk:=by simpa using L
 cases e with
 |normal=>show LeavesInM _ _ _ _ _ _ a'.defers _ _;rw[L];exact eW (O s a' · M) Ds w' ad ag R' (ik _)
 |ret=>show LeavesInM _ _ _ _ _ _ a'.defers _ _;rw[L];exact eW (O s a' · M) Ds w' ad ag R' (ik _)
 |_=>exact M.elim
theorem Xc(hm:P.follows .mixedOrders=true) (an:qE mo P f=some cf) {args cs:List AV} (hn:args.length<=cf.nt) (h:aw (Pure P) cf.code (abr cf.res cs) (lZ [] (args.map some))):acW P f args cs:=by
 obtain⟨fn,c,cc,ar,hbody,D,al,ec,en,ak,ab⟩:=sG an;rw[ec]at h;rw[en]at hn
 refine⟨ab,λw π vs aa hd=>?_⟩
 have R:=Hs (P:=P) (nt:=fn.ntmps) (css:=[]) (args:=args.map some) (by simpa using hn) adI aa acN trivial (uc hd)
 refine Ix.1 (EQ (n:=0) (F:=Fence.wide) ar hbody trivial (xo (oM (pL hm c cc al ak _ (λ_=>False) ⟨#[],[]⟩ (λ_ h=>h.elim) none 0 w _ _ _ _ ⟨R,λl h=>by(cases h),⟨[],rfl,.nil,adI⟩,λ_ h=>h.elim⟩ h)) ?_))
 have O:∀(s:S) (a':Act) (w':World),abr cf.res cs .ret s->eF P fn.ntmps (gV.i6 w []) w π s a' w'->
   ∃v,(results fn a'.tmps).run P w'=.ok v w'/\∃B π',Ending.returned v=.returned (.pointer (some ⟨B,0,none⟩))/\w.heap.size<=B/\Below w.heap.size w w'/\(∀b o,π b o->π' b o)/\(∀b o,π' b o->π b o\/w.heap.size<=b)/\
    (∀b o,π' b o->b<w'.heap.size)/\rH (λ_=>undef) w' π' B ⟨cs,[]⟩:=by
  rintro s a' w' L ⟨_,β,τ,π',U,hU,R'⟩
  simp only[abr]at L
  split at L<;>try(exact L.elim)
  rename_i t ag
  split at L<;>try(exact L.elim)
  rename_i b au;obtain⟨h4,L⟩:=L;obtain⟨x,hx,ao⟩:=ah L;obtain⟨⟨y,hy,Z⟩,_⟩:=R'.slots t _ au
  have Z:y=.pointer (some ⟨β b,0,none⟩):=Z
  obtain⟨g1,g2,g3,g4⟩:=R'.boxes b x hx
  have am:w.heap.size<=β b:=by
   rcases g2 with h|h
   ·exact h
   ·omega
  have hr:fn.results.toList=[.tmp t]:=by
   rw[ag]at D
   cases hf:fn.results.toList with
   |nil=>rw[hf]at D;simp at D
   |cons rv a2=>
    rw[hf]at D;simp only[tl,pb,jp,vd,fx]at D;obtain⟨cr,ad,a3,V,e⟩:=D;cases e
    cases a2 with
    |nil=>
     cases rv with
     |tmp t'=>cases ad;rfl
     |cell a t'=>simp only[I4,eg,reduceCtorEq,and_false,exists_false]at ad
    |cons x xs=>
     simp only[tl,pb,jp,vd,fx]at V;obtain⟨_,_,_,_,h⟩:=V;cases h
  refine⟨y,?_,β b,π',by rw[Z],am,R'.below.below (λ_ h=>by cases h),R'.eU,λb o h=>(R'.dz b o h).imp id (λk=>k.elim id (λk=>by cases k)),R'.eZ,?_⟩
  ·have e:fn.results=#[.tmp t]:=md.1 (by simpa using hr)
   rw[ue,e];simp[oL,hy]
  ·have:=g3.t5 (τ':=λ_=>undef)
   rwa[ao]at this
 rintro e a' w' ⟨s,L,R',_,⟨Ds,M,ac,ae⟩,_⟩
 have M:a'.defers=Ds.map Tk:=by simpa using M
 cases e with
 |normal=>show LeavesInM _ _ _ _ _ _ a'.defers _ _;rw[M];exact eW (O s a' · L) Ds w' ac ae R' (ik _)
 |ret=>show LeavesInM _ _ _ _ _ _ a'.defers _ _;rw[M];exact eW (O s a' · L) Ds w' ac ae R' (ik _)
 |_=>exact L.elim
end
end
open Go.RowKit (Below)
section
variable (css:List (List AV)) (s:S)
def isRec(o:Oper):Option Nat:=
 match o.op,o.dst,o.guard with
 | .call ⟨.builtin .recover,as,_⟩,some d,none=>if as.isEmpty then some d else none
 |_,_,_=>none
def iF:aS->Bool
 | .skip| .Jh _| .qy _| .sq _ _| .E8 _ _ _ _=>true
 | .seq a b| .join a b| .cond _ a b=>iF a&&iF b
 |_=>false
structure abt where
 nt:Nat
 d:Nat
 ops:List XO
 code:aS
def Xd(P:Program) (f:FuncId):Option abt:=
 match P.funcs[f]? with
 |some fn=>match fn.body with
  |some (.seq (.region _ ops false) rest)=>match ops.toList with
   |o::os=>match isRec o,wg P ops os,bW true P rest with
    |some d,some xs,some cc=>if pE fn.ntmps xs&&decide (d<fn.ntmps)&&cc.fits fn.ntmps&&iF cc&&bZ P f&&fn.results.isEmpty then some ⟨fn.ntmps,d,xs,cc⟩else none
    |_,_,_=>none
   |[]=>none
  |_=>none
 |none=>none
def Uk:Exit->S->Prop
 | .normal,s| .ret,s=>ja s.boxes 0 css
 |_,_=>False
theorem abu:Uk css .normal s=ja s.boxes 0 css:=rfl
theorem abv:Uk css .ret s=ja s.boxes 0 css:=rfl
def Xe(D:AV):Bool:=match D with
 | .gJ=>true
 |p=>jh p
def rvV(D:AV):Value:=match D with
 | .gJ=>.nilIface
 |p=>adT p
end
section
variable{P:Program} {nt:Nat} {n0:gV} {π0:Nat->Nat->Prop}
section
variable {cf:abt} {f:FuncId} {w:World}
theorem agB{π:Nat->Nat->Prop} {D:AV} (h:Xe D=true):DV w π D (rvV D):=by
 cases D<;>try(simp[Xe,jh]at h;done)
 ·rename_i t a
  exact .iface t a _ (.flat h)
 ·exact .gJ
theorem abw{O:Bool} {x y:Code} {cc:aS} (M:bW O P (.seq x y)=some cc):∃D L,bW O P x=some D/\bW O P y=some L/\(cc=.seq D L\/cc=.join D L):=by
 simp only[bW]at M
 split at M<;>try(cases M;done)
 rename_i D L R V;cases M;refine⟨D,L,R,V,?_⟩;split
 ·exact .inl rfl
 ·exact .inr rfl
theorem EA{mo:Bool} (hm:P.follows .mixedOrders=true):∀(c:Code) (cc:aS),bW mo P c=some cc->iF cc=true->cc.fits nt=true->∀(n:Nat) (w0:World) (QA:Exit->S->Prop) (s:S) (a:Act) (w:World),
  eF P nt n0 w0 π0 s a w->aw (Pure P) cc QA s->c.wpIn (FW none) n P (λe a' w'=>∃s',QA e s'/\eF P nt n0 w0 π0 s' a' w'/\a'.defers=a.defers) a w:=by
 intro c
 induction c with
 |skip=>intro cc D _ _ n w0 QA s a w R h;cases D;exact wpIn_skip ⟨s,h,R,rfl⟩
 |region id ops nu=>
  intro cc D L M n w0 QA s a w R h;obtain⟨h4,β,τ,π,U,hU,R0⟩:=R
  have put:∀{s':S} {a':Act} {w':World},eF P nt n0 w π0 s' a' w'->eF P nt n0 w0 π0 s' a' w':=λRN=>
   RN.rew (R0.below.trans RN.below) R0.gG (λb o h=>(RN.kept b o h).trans (R0.kept b o h))
  simp only[bW]at D;split at D
  ·rename_i am
   simp only[ed,pA]at am;obtain⟨_,rfl⟩:=am;simp only[eg]at D;obtain⟨cos,aa,rfl⟩:=D
   refine y9 (w0:=w) aa M R0.ZS hU h (T:=λ_=>False) (λd hd ht=>ht) ?_ ?_
   ·intro s' a' w' β' τ' π' U' O hK hp R'
    exact⟨_,hK,put ⟨by show 4<=s.nx+_;omega,β',τ',π',U',O,R'.nx _⟩,hp.1⟩
   ·intro p s' a' w' β' τ' π' U' O hK hp R'
    exact⟨_,hK,put ⟨by show 4<=s.nx+_;omega,β',τ',π',U',O,R'.nx _⟩,hp.1⟩
  split at D<;>try(cases D;done)
  rename_i cos aa
  have fin:∀(ro:List Nat) (s1:S) (π1:Nat->Nat->Prop),Rel P nt n0 w0 π0 U s1 a w β τ π1->s1.nx=s.nx->(nu=true->∃dG T,kH dG ops.toList cos=true/\A6 T (lY ro 0 cos) dG=true/\m8 T s1.nx 0 (lY ro 0 cos)=true/\rI T s1)->iz nt cos=true->
    jM (Pure P) s1.nx 0 (lY ro 0 cos) (λs'=>QA .normal {s' with nx:=s.nx+cos.length}) s1->(Code.region id ops nu).wpIn (FW none) n P (λe a' w'=>∃s',QA e s'/\eF P nt n0 w0 π0 s' a' w'/\a'.defers=a.defers) a w:=by
   intro ro s1 π1 R1 al hd M h
   refine Bh (w0:=w) hm aa ro hd M R1.ZS (by rw[al];exact hU) h (T:=λ_=>False) (λd hd ht=>ht) ?_
   intro s' a' w' β' τ' π' U' O hK hp R';rw[al]at O
   exact⟨_,hK,put ⟨by show 4<=s.nx+_;omega,β',τ',π',U',O,R'.nx _⟩,hp.1⟩
  split at D
  ·rename_i ae
   subst ae
   have Jh:∀dG,kH dG ops.toList cos=true->iz nt cos=true->(∃ids,(dS ids&&i5 ids)=true/\aj (aW s.boxes ids) λcss=>S3 (Pure P) cos dG (λs'=>QA .normal {s' with nx:=s.nx+cos.length}) (iC ids css s))->(Code.region id ops true).wpIn (FW none) n P (λe a' w'=>∃s',QA e s'/\eF P nt n0 w0 π0 s' a' w'/\a'.defers=a.defers) a w:=by
    intro dG V M h;obtain⟨ids,ab,h⟩:=h;obtain⟨css,an,ro,Z,h⟩:=ah h;rw[ed]at ab
    obtain⟨π1,_,R1,_⟩:=R0.yg (fc ab.1) ab.2 an
    simp only[qI,Zq,ed]at Z
    exact fin ro _ π1 R1 tT (λ_=>⟨_,_,V,Z.2,Z.1.2,λt b ⟨v,hl,hb⟩=>oK Z.1.1 t b v hl hb⟩) M h
   split at D
   ·split at D<;>try(cases D;done)
    rename_i V;unfold Kx at D
    split at D<;>try(cases D;done)
    rename_i k _
    split at D<;>try(cases D;done)
    rename_i d hd;simp only at D
    split at D<;>try(cases D;done)
    rename_i hk;cases D;simp only[ed,ii]at hk;obtain⟨⟨⟨h1,h2⟩,h3⟩,h5⟩:=hk
    rcases h with h|h
    ·exact Jh _ V M h
    ·refine zb (w0:=w) hm aa h1 h2 h3 (by simpa using h5) M R0.ZS hU h (T:=λ_=>False) (λd hd ht=>ht) ?_
     intro p s' a' w' β' τ' π' U' O hK hp R'
     exact⟨_,hK,put ⟨by show 4<=s.nx+_;omega,β',τ',π',U',O,R'.nx _⟩,hp.1⟩
   ·split at D
    ·split at D<;>try(cases D;done)
     rename_i V;cases D
     exact fin [] s π R0 rfl (λ_=>⟨[],[],V,rfl,wG,λ_ _ _=>rfl⟩) M (by rw[tV];exact h)
    ·split at D<;>try(cases D;done)
     rename_i V;cases D;rw[ed]at V;exact Jh _ V.1 M h
  ·rename_i ae
   cases D
   exact fin [] s π R0 rfl (λe=>absurd e ae) M (by rw[tV];exact h)
 |seq x y ad ak=>
  intro cc D L M n w0 QA s a w R h;obtain⟨cx,cy,ac,ag,ar⟩:=abw D
  have key:iF cx=true->iF cy=true->cx.fits nt=true->cy.fits nt=true->aw (Pure P) cx (jU (down (aw (Pure P) cy QA)) QA) s->(Code.seq x y).wpIn (FW none) n P (λe a' w'=>∃s',QA e s'/\eF P nt n0 w0 π0 s' a' w'/\a'.defers=a.defers) a w:=by
   intro p1 p2 f1 f2 h;refine wpIn_seq (xo (ad cx ac p1 f1 n w0 _ s a w R h) ?_)
   rintro e a' w' ⟨s',hq,R',hd⟩
   cases e with
   |normal=>
    obtain⟨s2,hF,R2⟩:=R'.down hq;refine xo (ak cy ag p2 f2 n w0 QA s2 a' w' R2 hF) ?_
    rintro e a2 w2 ⟨s3,h3,R3,a3⟩
    exact⟨s3,h3,R3,a3.trans hd⟩
   |_=>exact⟨s',hq,R',hd⟩
  rcases ar with rfl|rfl
  ·simp only[iF,ed]at L
   simp only[aS.fits,ed]at M
   exact key L.1 L.2 M.1 M.2 (lD (λe s ha=>jm (λs h=>gX h) (λ_ _ h=>h) ha) h)
  ·simp only[iF,ed]at L
   simp only[aS.fits,ed]at M;exact key L.1 L.2 M.1 M.2 h
 |cond cd x y ad ak=>
  intro cc D L M n w0 QA s a w R h;simp only[bW]at D
  split at D<;>try(cases D;done)
  rename_i c' cx cy ao ac ag;cases D;simp only[iF,ed]at L;simp only[aS.fits,ed]at M;simp only[aw]at h;obtain⟨v,hv,h⟩:=ah h;obtain⟨_,β,τ,π,U,hU,R0⟩:=id R
  have hd:=R0.aL ao hv
  cases v<;>try(exact h.elim)
  rename_i t
  exact wpIn_cond_split hd.wq (λe=>ad cx ac L.1 M.1 n w0 QA s a w R (h.1 e)) (λe=>ak cy ag L.2 M.2 n w0 QA s a w R (h.2 e))
 |block id c ih=>intro cc D L;simp only[bW,eg]at D;obtain⟨c',au,rfl⟩:=D;simp[iF]at L
 |loop c ih=>intro cc D L;simp only[bW,eg]at D;obtain⟨c',au,rfl⟩:=D;simp[iF]at L
 |exit id=>intro cc D L;cases D;simp[iF]at L
 |ret=>intro cc D L;cases D;simp[iF]at L
 |label l=>intro cc D L;cases D;simp[iF]at L
 |goto l=>intro cc D L;cases D;simp[iF]at L
 |scope c ih=>
  intro cc D L;simp only[bW]at D
  split at D<;>try(cases D;done)
  split at D<;>try(cases D;done)
  simp only[eg]at D;obtain⟨r,_,rfl⟩:=D;simp[iF]at L
 |rangeFunc g ps as bd a5 a4=>
  intro cc D L;simp only[bW]at D
  split at D<;>try(cases D;done)
  split at D<;>try(cases D;done)
  cases D;simp[iF]at L
 |_=>intro cc D;cases D
theorem Dv{F:Fence} {n id:Nat} {ops:Array Oper} {o:Oper} {d:Nat} {Q:Exit->Act->List Frame->World->Prop} {a:Act} {cs L:List Frame} {v:Value} (hF:∀f,F.fn f) (ae:F.round=none) (h0:ops[0]? =some o) (D:isRec o=some d) (R:recoverD cs=some (v,L)\/(recoverD cs=none/\v=.nilIface/\L=cs)) (h:wpOpsIn F n P ops (λe a' w'=>Q e a' L w') (List.range' 1 (ops.size-1)) (a.put (some d) v) w):(Code.region id ops false).wpSIn F n P Q a cs w:=by
 intro b k hb hr ab hroom;unfold isRec at D
 split at D<;>try(cases D;done)
 rename_i as am d' ak ad O
 split at D<;>try(cases D;done)
 rename_i has;cases D
 have has:as=#[]:=by simpa[Ts]using has
 subst has
 have hw:Region.wanted o (yielded ops a.tmps)=true:=by simp[Region.wanted,O]
 have Z:(execOp a.eval o).run P w=.ok .recover w:=by
  simp[execOp,ak,resolve,invoke,go_sem]
 have al:0<ops.size:=(kt.1 h0).1
 have M:List.range ops.size=0::List.range' 1 (ops.size-1):=by
  obtain⟨m,hm⟩:∃m,ops.size=m+1:=⟨ops.size-1,ado⟩
  rw[hm,List.range_eq_range',List.range'_succ,Nat.add_sub_cancel]
 have V:L.length=cs.length:=by
  rcases R with R|⟨_,_,rfl⟩
  ·exact recoverD_length R
  ·rfl
 obtain⟨e,a',w',hq,ac⟩:=wp_opsIn (P:=P) (F:=F) (n:=n) (ops:=ops) (List.range' 1 (ops.size-1)) _ w h b k L (hr.trans ae.symm) ab (V▸hroom)
 have h1:(lone (b.atR a (.inRegion ops (0::List.range' 1 (ops.size-1))::k)) cs w).fenced P F:=fenced_oper ab hroom h0 (λf _=>hF f)
 have hg:=stepGR_op (P:=P) (b:=b) (k:=k) (cs:=cs) (w:=w) (rest:=List.range' 1 (ops.size-1)) h0 hw
 rw[hr,Oper.semAt_none]at hg
 have ag:∀v,(b.atR a (.inRegion ops (0::List.range' 1 (ops.size-1))::k)).finish v=b.atR (a.put (some d) v) (.inRegion ops (List.range' 1 (ops.size-1))::k):=by
  intro v;rw[Frame.finish_atR,h0];simp only[Kp,ad]
 have hk:(b.atR a (.inRegion ops (0::List.range' 1 (ops.size-1))::k)).kind=.deferred:=hb
 have aa:=tryRecover_deferred hk cs
 have hstep:StepsIn (Machine.fenced P F) P (lone (b.atR a (.inRegion ops (0::List.range' 1 (ops.size-1))::k)) cs w) (lone (b.atR (a.put (some d) v) (.inRegion ops (List.range' 1 (ops.size-1))::k)) L w):=by
  refine .one h1 (step_lone_go ?_);rw[hg,<-ag];simp only[Frame.atR,hr]at aa⊢
  rcases R with R|⟨R,rfl,rfl⟩
  ·simp[stepG.apply,Z,aa,R]
  ·simp[stepG.apply,Z,aa,R]
 rw[<-M]at hstep;exact⟨e,a',L,w',V,hq,.of_steps (.head (fenced_calm ab hroom rfl) stepR_region hstep) ac⟩
theorem Ul(D:Xd P f=some cf):∃(fn:Func) (id:Nat) (ops:Array Oper) (rest:Code) (o:Oper) (os:List Oper),P.funcs[f]? =some fn/\fn.body=some (.seq (.region id ops false) rest)/\ops.toList=o::os/\isRec o=some cf.d/\wg P ops os=some cf.ops/\
  bW true P rest=some cf.code/\pE fn.ntmps cf.ops=true/\cf.d<fn.ntmps/\cf.code.fits fn.ntmps=true/\iF cf.code=true/\bZ P f=true/\fn.results=#[]/\cf.nt=fn.ntmps:=by
 unfold Xd at D
 split at D<;>try(cases D;done)
 rename_i fn O
 split at D<;>try(cases D;done)
 rename_i id ops rest hbody
 split at D<;>try(cases D;done)
 rename_i o os M
 split at D<;>try(cases D;done)
 rename_i d xs cc Z h2 V
 split at D<;>try(cases D;done)
 rename_i L;cases D;simp only[ed,ii]at L;obtain⟨⟨⟨⟨⟨k1,R⟩,k3⟩,k4⟩,k5⟩,k6⟩:=L
 exact⟨fn,id,ops,rest,o,os,O,hbody,M,Z,h2,V,k1,R,k3,k4,k5,by simpa[Ts]using k6,rfl⟩
theorem NM(hm:P.follows .mixedOrders=true) (be:Xd P f=some cf) {V:AV} {css D:List (List AV)} {args:List (Option AV)} (am:Xe V=true) (hn:args.length<=cf.nt) (hl:D.length=css.length) (h4:css.length<=4) (h:ji (Pure P) 4 1 cf.ops (I6 (aw (Pure P) cf.code (Uk D)) (5+cf.ops.length)) (λ_ _=>False) ((lZ css args).put (some cf.d) (.dat V none))):Mz P f V css args D:=by
 obtain⟨fn,ri,ops,rest,o,os,bi,hbody,O,ar,ab,a7,au,hd,ac,bj,ag,an,a5⟩:=Ul be;rw[a5]at hn
 refine⟨ag,hl,h4,λw π Bs vs ae a8 al a3=>?_⟩
 have bd:=al.get.1
 obtain⟨bl,ab⟩:=wJ ab
 have aa:ops.size=os.length+1:=by rw[<-acc,O];rfl
 have h0:ops[0]? =some o:=by rw[<-adm,O];rfl
 refine callsDIn_of_wpSIn bi hbody trivial λc₀ cs L=>?_
 -- what is recovered
 obtain⟨M,hv,a4⟩:∃M,(recoverD (c₀::cs)=some (rvV V,{c₀ with mode:=M}::cs)\/(recoverD (c₀::cs)=none/\rvV V=.nilIface/\{c₀ with mode:=M}::cs=c₀::cs))/\settle M=.returning:=by
  cases V<;>try(simp[Xe,jh]at am;done)
  ·rename_i t a
   refine⟨.panicking [{v:=adT (.iface t a),recovered:=true}],.inl ?_,rfl⟩
   simp only[F7,iB]at L;simp[recoverD,L,rvV]
  ·refine⟨.returning,.inr ⟨?_,rfl,?_⟩,rfl⟩
   ·simp only[F7]at L;simp[recoverD,L]
   ·simp only[F7]at L
    have:({c₀ with mode:=.returning}:Frame)=c₀:=by rw[<-L]
    rw[this]
 refine wpSIn_seq ?_
 refine Dv (λ_=>trivial) rfl h0 ar hv ?_
 obtain⟨_,β,τ,π',U,hU,R⟩:=Hs (P:=P) (nt:=fn.ntmps) hn h4 ae a8 al a3
 have R1:=R.put (some cf.d) (v:=.dat V none) (x:=rvV V) (λt ht=>by cases ht;exact hd) ⟨agB am,λt ht=>by cases ht⟩ trivial
 have ao:(os.length+1)-1=cf.ops.length:=ado
 have post:∀(s:S) (a':Act) (w':World),Uk D .ret s->eF P fn.ntmps (gV.i6 w Bs) w π s a' w'->a'.defers=[]->
   bodyPostS P fn c₀ cs (λe M w'=>∃v π',e=.returned v/\settle M=.returning/\yb (gV.i6 w Bs) w w'/\(∀b o,π b o->π' b o)/\(∀b o,π' b o->π b o\/w.heap.size<=b)/\(∀b o,π' b o->b<w'.heap.size)/\cY w' π' D Bs) .ret a' ({c₀ with mode:=M}::cs) w':=by
  rintro s a' w' a6 ⟨_,β,τ,π',U,hU,R'⟩ ba
  have hB:=R'.MY bd h4 hl a6
  refine⟨ba,M,rfl,.tuple #[],?_,.tuple #[],π',rfl,a4,R'.below,R'.eU,λb o h=>(R'.dz b o h).imp id (λk=>k.elim id (λk=>absurd h (kI hB b k o))),R'.eZ,hB⟩
  rw[ue,an];simp
 have ad:((⟨some cf.d,.o (.mv (.k .gJ)),none⟩:XO)::cf.ops).length=ops.size:=by simp[aa];omega
 rw[aa,ao]
 have:=wK (P:=P) (r:=none) (m:=0) (base:=4) (T:=λ_=>False) (a0:={tmps:=vs.toArray++Array.replicate (fn.ntmps-vs.toArray.size) undef,defers:=[]}) 1 ad
  (λi o' c hi h1 h2=>?_) (λi c d hi ak=>?_) (λ_ _ _ _ _ h=>h) (K:=I6 (aw (Pure P) cf.code (Uk D)) (5+cf.ops.length)) (X:=λ_ _=>False)
  (Q:=λe a' w'=>Exit.thenS (rest.wpSIn Fence.wide 0 P (bodyPostS P fn c₀ cs (λe M w'=>∃v π',e=.returned v/\settle M=.returning/\yb (gV.i6 w Bs) w w'/\(∀b o,π b o->π' b o)/\(∀b o,π' b o->π b o\/w.heap.size<=b)/\(∀b o,π' b o->b<w'.heap.size)/\cY w' π' D Bs)))
    (bodyPostS P fn c₀ cs (λe M w'=>∃v π',e=.returned v/\settle M=.returning/\yb (gV.i6 w Bs) w w'/\(∀b o,π b o->π' b o)/\(∀b o,π' b o->π b o\/w.heap.size<=b)/\(∀b o,π' b o->b<w'.heap.size)/\cY w' π' D Bs)) e a' ({c₀ with mode:=M}::cs) w')
  (λs' a' w' β' τ' π' U' a9 hK hp R'=>?_) (λ_ _ _ _ _ _ _ _ _ h=>h.elim) cf.ops 1 _ (({tmps:=vs.toArray++Array.replicate (fn.ntmps-vs.toArray.size) undef,defers:=[]}:Act).put (some cf.d) (rvV V)) w β τ π' U (ik _) rfl ado (λn hn=>by have:=hU n hn;simp only[lZ]at this;omega)
  (by exact(sF.refl _ _).put (λ_ _ h=>h) _) R1 h
 ·exact this
 ·cases i with
  |zero=>omega
  |succ i=>
   refine ab i o' c ?_ (by simpa using h2)
   rw[<-adm,O]at h1
   simpa using h1
 ·cases i with
  |zero=>simp at hi;subst hi;cases ak;exact hd
  |succ i=>exact rJ au i c d (by simpa using hi) ak
 ·refine wpSIn_of_wpIn rfl ?_
  have RN:eF P fn.ntmps (gV.i6 w Bs) w π {s' with nx:=5+cf.ops.length} a' w':=⟨by show 4<=5+_;omega,β',τ',π',U',λn hn=>by have:=a9 n hn;show n<5+_;omega,R'.nx _⟩
  refine xo (oM (EA hm rest cf.code a7 bj ac 0 w (Uk D) _ a' w' RN hK)) ?_
  rintro e a2 w2 ⟨s2,hq,R2,Z⟩
  have Z:a2.defers=[]:=Z.trans hp.1
  cases e with
  |normal=>exact post s2 a2 w2 hq R2 Z
  |ret=>exact post s2 a2 w2 hq R2 Z
  |_=>exact hq.elim
end
end
open Go.RowKit (Below)
section
variable (C:aT) (res:List gu) (r:AV) (fr:Option Nat) (css:List (List AV)) (t g:Nat) (as:List (Option AV)) (caps:List aR)
def Xf:List Oper->Option (Nat×Array Operand×Nat)
 |[m,d]=>match m.op,m.dst,m.guard,d.op,d.dst,d.guard with
  | .makeFunc (.func g) first caps,some t,none,.defer ⟨.value (.tmp D),as,_⟩,none,none=>if first.isEmpty&&as.isEmpty&&t==D then some (g,caps,t)else none
  |_,_,_,_,_,_=>none
 |_=>none
structure Ff where
 nt:Nat
 res:List gu
 pre:aS
 g:Nat
 caps:List aR
 t:Nat
 code:aS
def Xg(P:Program) (f:FuncId):Option Ff:=
 match P.funcs[f]? with
 |some fn=>match fn.body with
  |some (.seq a (.seq (.region _ ops false) rest))=>match Xf ops.toList with
   |some (g,caps,t)=>match bW true P a,gU caps,bW true P rest,fn.results.toList.mapM (I4 P)with
    |some D,some xs,some cc,some L=>if D.fits fn.ntmps&&iF D&&decide (t<fn.ntmps)&&cc.fits fn.ntmps&& !cc.writes.contains t&&bZ P f&&bZ P g then some ⟨fn.ntmps,L,D,g,xs,t,cc⟩else none
    |_,_,_,_=>none
   |none=>none
  |_=>none
 |none=>none
def PX(L:List Nat) (M:AV) (s:S):Prop:=
 lk t s.slots=some (.nX g as L)/\dS L=true/\aj (aW s.boxes L) λcs=>∃D,C.d g M cs as D/\Gy res r fr css .ret {s with boxes:=dR L D s.boxes}
def PY(D:List Nat):Exit->S->Prop
 | .normal,s| .ret,s=>PX C res r fr css t g as D .gJ s
 | .panic c,s=>∃p,c=iB p/\jh p=true/\PX C res r fr css t g as D p s
 |_,_=>False
theorem agC(D:List Nat) (s:S):PY C res r fr css t g as D .normal s=PX C res r fr css t g as D .gJ s:=rfl
theorem agD(D:List Nat) (s:S):PY C res r fr css t g as D .ret s=PX C res r fr css t g as D .gJ s:=rfl
def awD(cf:Ff) (r:AV) (fr:Option Nat) (css:List (List AV)) (s:S):Prop:=
 aw C cf.pre (F4 λs1=>aj (ej false s1 cf.caps) λp=>aw C cf.code (PY C cf.res r fr css cf.t cf.g p.1 p.2) {(s1.put (some cf.t) (.nX cf.g p.1 p.2))with nx:=s1.nx+2}) s
def dK(t:Nat) (code:aS):S->Prop:=λs1=>aj (ej false s1 caps) λp=>aw C code (PY C res r fr css t g p.1 p.2) {(s1.put (some t) (.nX g p.1 p.2))with nx:=s1.nx+2}
def dKp(t:Nat) (code:aS) (s:S) (p:List (Option AV)×List Nat):Prop:=aw C code (PY C res r fr css t g p.1 p.2) {(s.put (some t) (.nX g p.1 p.2))with nx:=s.nx+2}
theorem ak3{C:aT} (nt:Nat) (res:List gu) (pre:aS) (g:Nat) (caps:List aR) (t:Nat) (code:aS) (r:AV) (fr:Option Nat) (css:List (List AV)) (s:S):awD C ⟨nt,res,pre,g,caps,t,code⟩ r fr css s=aw C pre (F4 (dK C res r fr css g caps t code)) s:=rfl
end
section
variable (res:List gu) (r:AV) (fr:Option Nat) (css:List (List AV)) (g:Nat) (caps:List aR) (t:Nat) (code:aS) {C:aT} (s:S)
theorem anl(sl:List (Nat×SV)) (bx:List (Nat×bV)) (lv:List (Nat×Nat)) (nx:Nat):
  dK C res r fr css g caps t code ⟨sl,bx,lv,nx⟩=aj (ej false ⟨sl,bx,lv,nx⟩ caps) (dKp C res r fr css g t code ⟨sl,bx,lv,nx⟩):=rfl
theorem ak4(sl:List (Nat×SV)) (bx:List (Nat×bV)) (lv:List (Nat×Nat)) (nx:Nat) (as:List (Option AV)) (D:List Nat):
  dKp C res r fr css g t code ⟨sl,bx,lv,nx⟩ (as,D)=aw C code (PY C res r fr css t g as D) ⟨(t,.nX g as D)::sl,bx,lv,nx+2⟩:=rfl
@[congr] theorem aoP:dK C res r fr css g caps t code s=dK C res r fr css g caps t code s:=rfl
@[congr] theorem an0{p D:List (Option AV)×List Nat} (h:p=D):dKp C res r fr css g t code s p=dKp C res r fr css g t code s D:=by rw[h]
theorem Xh{cf:Ff} {keep:List Nat} {r:AV} {fr:Option Nat} {css:List (List AV)} {s:S} (h:awD C {cf with code:=(flat keep 0 cf.code).1} r fr css s):awD C cf r fr css s:=by
 refine lD ?_ h;intro e s D
 cases e<;>try exact D
 obtain⟨p,L,D⟩:=ah D
 show aj _ _
 rw[L]
 exact yu (keep:=keep) (i:=0) D
theorem abx(nt:Nat) (res:List gu) (pre:aS) (g:Nat) (caps:List aR) (t:Nat) (code:aS) (keep:List Nat):({(⟨nt,res,pre,g,caps,t,code⟩:Ff)with code:=(flat keep 0 (⟨nt,res,pre,g,caps,t,code⟩:Ff).code).1}:Ff)=⟨nt,res,pre,g,caps,t,(flat keep 0 code).1⟩:=rfl
theorem LA{res:List gu} {r:AV} {fr:Option Nat} {css:List (List AV)} {t g:Nat} {as:List (Option AV)} {L:List Nat} {M:AV} {sl:List (Nat×SV)} {bx:List (Nat×bV)} {lv:List (Nat×Nat)} {nx:Nat} {cs D:List (List AV)} (hd:C.d g M cs as D) (R:lk t sl=some (.nX g as L)) (Z:dS L=true) (O:aW bx L=some cs) (V:Gy res r fr css .ret ⟨sl,dR L D bx,lv,nx⟩):PX C res r fr css t g as L M ⟨sl,bx,lv,nx⟩:=
 ⟨R,Z,by show aj (aW bx L) _;rw[O];exact⟨D,hd,V⟩⟩
end
section
variable{P:Program}
section
variable {cf:Ff} {f:FuncId} {fr:Option Nat} {r:AV}
theorem Um(D:Xg P f=some cf):∃(fn:Func) (O:Nat) (ops:Array Oper) (a rest:Code) (caps:Array Operand),P.funcs[f]? =some fn/\fn.body=some (.seq a (.seq (.region O ops false) rest))/\Xf ops.toList=some (cf.g,caps,cf.t)/\
  bW true P a=some cf.pre/\gU caps=some cf.caps/\bW true P rest=some cf.code/\fn.results.toList.mapM (I4 P)=some cf.res/\cf.pre.fits fn.ntmps=true/\iF cf.pre=true/\cf.t<fn.ntmps/\cf.code.fits fn.ntmps=true/\¬cf.t∈cf.code.writes/\bZ P f=true/\bZ P cf.g=true/\cf.nt=fn.ntmps:=by
 unfold Xg at D
 split at D<;>try(cases D;done)
 rename_i fn R
 split at D<;>try(cases D;done)
 rename_i a O ops rest hbody
 split at D<;>try(cases D;done)
 rename_i g caps t M
 split at D<;>try(cases D;done)
 rename_i ca xs cc rs h1 h2 Z h4
 split at D<;>try(cases D;done)
 rename_i L;cases D;simp only[ed,ii,pA]at L;obtain⟨⟨⟨⟨⟨⟨k1,V⟩,k3⟩,k4⟩,k5⟩,k6⟩,k7⟩:=L
 exact⟨fn,O,ops,a,rest,caps,R,hbody,M,h1,h2,Z,h4,k1,V,k3,k4,by simpa using k5,k6,k7,rfl⟩
theorem NN(hm:P.follows .mixedOrders=true) (dk:Xg P f=some cf) {css L:List (List AV)} {args:List (Option AV)} (hn:args.length<=cf.nt) (hl:L.length=css.length) (h4:css.length<=4) (h:awD (Pure P) cf r fr L (lZ css args)):wj P f css args r fr L:=by
 obtain⟨fn,ri,ops,a,rest,caps,c6,hbody,D,cu,a8,b5,ck,a7,co,ht,bm,dq,ba,b6,ct⟩:=Um dk;rw[ct]at hn
 refine⟨ba,hl,h4,λw π Bs vs a6 b8 be hd=>?_⟩
 have bj:=be.get.1
 have R:=Hs (P:=P) (nt:=fn.ntmps) hn h4 a6 b8 be hd
 refine Ix.1 (EQ (n:=0) (F:=Fence.wide) c6 hbody trivial (wpIn_seq (xo (oM (EA hm a cf.pre cu co a7 0 w _ _ _ _ R h)) ?_)))
 rintro e a1 w1 ⟨s1,M,R1,ar⟩
 have ar:a1.defers=[]:=ar
 cases e<;>try exact M.elim
 obtain⟨p,hp,h⟩:=ah M;clear M;obtain⟨du,β,τ,π1,U,hU,R1⟩:=R1
 -- the closure is made and deferred
 obtain⟨as,bs⟩:=p
 have c0:=(R1.ej (by simpa[gU]using a8) hp).1
 obtain⟨O,V,ab,cb,ci,ce,dy,cp,c5,c2⟩:∃O V,ops=#[O,V]/\O.op=.makeFunc (.func cf.g) #[] caps/\O.dst=some cf.t/\O.guard=none/\∃a3,V.op=.defer ⟨.value (.tmp cf.t),#[],a3⟩/\V.dst=none/\V.guard=none:=by
  unfold Xf at D
  split at D<;>try(cases D;done)
  rename_i O V ab
  split at D<;>try(cases D;done)
  rename_i g' first dt t t' db a3 m1 m2 m3 m4 m5 m6
  split at D<;>try(cases D;done)
  rename_i ad;simp only[ed,l4]at ad;simp only[fx,Prod.mk.injEq]at D;obtain⟨e1,e2,e3⟩:=D
  have f1:first=#[]:=by simpa[Ts]using ad.1.1
  have f2:db=#[]:=by simpa[Ts]using ad.1.2
  subst e1 e2 f1 f2;rw[<-ad.2,e3]at m4;rw[e3]at m2
  exact⟨O,V,md.1 (by simpa using ab),m1,m2,m3,a3,m4,m5,m6⟩
 subst ab
 obtain⟨us,bl⟩:∃us,us=caps.map a1.eval:=⟨_,rfl⟩
 have df:(execOp a1.eval O).run P w1=.ok (.value (.func (.func cf.g) #[] us)) w1:=by simp[execOp,cb,Instr.makeFunc,bl]
 have R2:=R1.put (some cf.t) (v:=.nX cf.g as bs) (x:=.func (.func cf.g) #[] us) (λt' au=>by cases au;exact ht) ⟨us,rfl,by rw[bl];simpa using c0⟩ (λb hb=>by
  obtain⟨t',_,v',b7,ao⟩:=jl hp b hb
  exact SV.Gf ao (R1.slots t' _ b7).2)
 have ac:(a1.put (some cf.t) (.func (.func cf.g) #[] us)).tmps[cf.t]? =some (.func (.func cf.g) #[] us):=by
  simp only[Act.put]
  rw[Array.getElem?_setIfInBounds_self_of_lt (by rw[R1.size];exact ht)]
 obtain⟨d,am⟩:∃d:Deferred,d={target:=.fn (.func cf.g) us,args:=#[]}:=⟨_,rfl⟩
 have di:(execOp (a1.put (some cf.t) (.func (.func cf.g) #[] us)).eval V).run P w1=.ok (.defer d) w1:=by
  have:(a1.put (some cf.t) (.func (.func cf.g) #[] us)).eval (.tmp cf.t)=.func (.func cf.g) #[] us:=by simp[Act.eval,ac]
  simp only[execOp,cp,resolve,this,Deferred.ofValue,am];simp
 refine wpIn_seq (wpIn_region ?_)
 have w0:Region.wanted O (yielded #[O,V] a1.tmps)=true:=by simp[Region.wanted,ce]
 show wpOpsIn _ _ _ _ _ [0,1] _ _
 rw[wpOpsIn_cons];unfold wpOpIn;simp only[Hc,km,w0,kw]
 refine⟨λ_ _=>trivial,?_⟩
 rw[show Fence.wide.round=none from rfl,Oper.semAt_none,df,Oper.uponIn_value,ci,wpOpsIn_cons]
 unfold wpOpIn
 have dj:Region.wanted V (yielded #[O,V] (a1.put (some cf.t) (.func (.func cf.g) #[] us)).tmps)=true:=by simp[Region.wanted,c2]
 simp only[Hc,kp,km,dj,kw]
 refine⟨λ_ _=>trivial,?_⟩
 rw[show Fence.wide.round=none from rfl,Oper.semAt_none,di,Oper.uponIn_defer,c5]
 obtain⟨a2,Z⟩:∃a2:Act,a2={a1.put (some cf.t) (.func (.func cf.g) #[] us)with defers:=[d]}:=⟨_,rfl⟩
 have b3:({a1.put (some cf.t) (.func (.func cf.g) #[] us)with defers:=d::(a1.put (some cf.t) (.func (.func cf.g) #[] us)).defers}:Act).put none undef=a2:=by
  rw[Z];show({a1.put (some cf.t) _ with defers:=d::(a1.put (some cf.t) _).defers}:Act)=_
  have:(a1.put (some cf.t) (.func (.func cf.g) #[] us)).defers=[]:=ar
  rw[this]
 rw[b3]
 show rest.wpIn _ _ _ _ a2 w1
 have ag:a2.tmps[cf.t]? =some (.func (.func cf.g) #[] us):=by rw[Z];exact ac
 have c7:eF P fn.ntmps (gV.i6 w Bs) w π {(s1.put (some cf.t) (.nX cf.g as bs))with nx:=s1.nx+2} a2 w1:=by
  refine eF.ZT (a:=a1.put (some cf.t) (.func (.func cf.g) #[] us)) ⟨by show 4<=s1.nx+2;omega,β,τ,π1,U,λn hn=>by have:=hU n hn;show n<s1.nx+2;omega,R2.nx _⟩ (by rw[Z])
 refine xo (oM (pL hm rest cf.code b5 bm _ (λt=>t=cf.t) a2 (λt au=>by subst au;exact dq) none 0 w _ _ _ _ ⟨c7,λl h=>by(cases h),⟨[],by rw[Z];simp,.nil,adI⟩,λ_ _=>rfl⟩ h)) ?_
 rintro e a' w' ⟨s,M,R',_,⟨Ds,aa,an,a4⟩,hk⟩
 have hk:a'.tmps[cf.t]? =some (.func (.func cf.g) #[] us):=(hk cf.t rfl).trans ag
 have aa:a'.defers=Ds.map Tk++[d]:=by rw[aa,Z]
 -- the closure runs
 have last:∀(rv:AV) (u:FrameMode),u≠.run->F7 rv=u->PX (Pure P) cf.res r fr L cf.t cf.g as bs rv s->∀w',eF P fn.ntmps (gV.i6 w Bs) w π s a' w'->
   LeavesInM Fence.wide 0 P fn a'.tmps (λe w'=>∃v π',e=.returned v/\yb (gV.i6 w Bs) w w'/\(∀b o,π b o->π' b o)/\(∀b o,π' b o->π b o\/w.heap.size<=b)/\
    (∀b o,π' b o->b<w'.heap.size)/\cY w' π' L Bs/\DV w' π' r v/\∀t,fr=some t->Jk P w' π' (λB=>w.heap.size<=B) t v) [d] u w':=by
  rintro rv u hu a9 ⟨dl,c4,M⟩ w' ⟨hx,β',τ',π',U',ca,R'⟩
  obtain⟨cs,a5,c1,hD,bw⟩:=ah M
  have hD:Mz P cf.g rv cs as c1:=hD
  obtain⟨_,da,_,hD⟩:=hD;obtain⟨⟨x,bi,dx,b4,b2⟩,_⟩:=R'.slots cf.t _ dl;rw[hk]at bi;cases bi;cases b4
  have ak:=fc c4
  refine⟨hu,.inr ⟨λh=>by simp[Fence.wide]at h,.func cf.g,us,cf.g,us,by rw[am],?_,λ_ _=>trivial,?_⟩⟩
  ·rw[am];simp[invoke,gA b6]
  refine CallsDIn.mono (by have:=hD w' π' (bs.map β') us.toList R'.eZ (R'.nodup ak a5) (R'.qO a5) b2;rw[a9]at this;exact this) ?_
  rintro e u' w3 ⟨v,π3,rfl,bo,b1,cx,cv,c8,b0⟩
  obtain⟨τ3,_,R3⟩:=R'.yf (id:=s.nx) (fr:=none) (λhc=>by have:=ca _ hc;omega) ak a5 da b1 cx cv c8 b0 DV.gJ (λt ht=>by cases ht)
  show LeavesInM _ _ _ _ _ _ [] (settle u') w3
  rw[bo]
  show LeavesIn _ _ _ _ _ _ [] .returning w3
  obtain⟨⟨av,q⟩,cy,bd,ae,al⟩:=ah bw;simp only at bd ae al;subst bd;obtain⟨v',ao,cr,c3⟩:=uf R3 ck cy
  have hB:=R3.MY bj h4 hl al
  refine⟨v',ao,v',π3,rfl,R3.below,R3.eU,λb o h=>(R3.dz b o h).imp id (λk=>k.elim id (λk=>absurd h (kI hB b k o))),R3.eZ,hB,cr,λt ht=>?_⟩
  subst ht;simp only[MW]at ae
  cases q with
  |none=>exact ae.elim
  |some q=>
   rw[c3 q rfl];exact R3.GA bj h4 hl al ae
 cases e with
 |normal=>show LeavesInM _ _ _ _ _ _ a'.defers _ _;rw[aa];exact kj adI (last .gJ .returning adI rfl M) Ds w' an a4 R' (ik _)
 |ret=>show LeavesInM _ _ _ _ _ _ a'.defers _ _;rw[aa];exact kj adI (last .gJ .returning adI rfl M) Ds w' an a4 R' (ik _)
 |panic ch=>
  obtain⟨p,rfl,dp,M⟩:=M
  show LeavesInM _ _ _ _ _ _ a'.defers _ _;rw[aa]
  refine kj adI (last p (.panicking (iB p)) adI ?_ M) Ds w' an a4 R' (ik _)
  cases p<;>first|rfl|(simp[jh]at dp;done)
 |_=>exact M.elim
def XV2:=dC @ak3 (dC @anl (dC @ak4 (dC @abx (dC @agC (dC @agD (dC @agz (dC @abu @abv)))))))
theorem Ht{args:List AV} (h:wj P f [] (args.map some) r fr []):F6 P f args r fr:=by
 obtain⟨M,_,_,h⟩:=h
 refine⟨M,λw π vs D hd=>?_⟩
 refine(h w π [] vs D acN trivial (uc hd)).mono ?_
 rintro e w' ⟨v,π',rfl,V,Z,L,k3,_,O,R⟩
 exact⟨v,π',rfl,V.below (λ_ h=>by cases h),Z,L,k3,O,R⟩
end
end
section
open Z
def aD:List AV:=(⟨_,by conv=>lhs;cbv⟩:bS (O9 [(0,10),(1,2),(0,10),(1,2),(0,10),(1,2),(0,10),(1,2),(0,10),(1,2),(0,10),(1,2),(0,10),(1,2),(0,10),(1,2),(0,6),(1,1),(0,16),(2,1),(0,18)])).1
def tB(D:Nat):bJ:=(⟨_,by conv=>lhs;ext y0;cbv⟩:bS λ(y0:List AV)=>cE 6 [.cell 2 (some 138)] [D] [1] 0x16285e0ca0ea2f302204180103418bca5003a1a20 [y0]).1 aD
def br(M Z R O V L D:Nat):bJ:=(⟨_,by conv=>lhs;ext y0;cbv⟩:bS λ(y0:List AV)=>cE 145 [.cell 6 (some 138),.cell 7 (some 8),.tmp 8] [M,Z,R,O,V,L] [1,2,0,3] 0x1508c8c4c40209f96285e8dcb9c917d3142f4e96b25c01000100c02f0401a720283f0bf90008c28fc2fec087e17f600866c02f042b39e423021b00413601782059a72018003b801bc001217d126008000806a178200d390141b05fc80046146c17f604360bfb004336a1782159cf211810d80209b50bc102cd3900c001dc00de00090be88f004004e4002614004009e40010013901bc009a22c01009390141900321413020b04e403000090a0008013c80de006510e0240ae00100a22f49440072a0c80090a0981058272018000485000400841245ea68800d41a40bd151124c4344c2441c249c801220e114e40081070827201a812822000416abc80600004101794004078179f20008029c809a2120708a7200051004014e40845e968a02f9c3142f24e708d3c000f1185e8004117a02435432f182285e9c6083179f18842f53408001f8bd092017f504017a2a261220e114e40089070827201281010405e500101d85e7c800200a7201688481c229c800144010053900b45017ce1034cc5e8a8810003117a02140c85e8a881c08009c80f8bd1511c0f0bf81c2292d009220c5e7c604a212070c40bd390004035e40251090386245e9c800200500102245e9c805a2605e708210a0081102f4e403518242f4b44222fe18a17f87f81425e020665e98a17cf0fc180308052004811404500141a6a2 [y0,[.int .i64 0,.int .i64 0,.int .i64 0,.int .i64 0,.int .i64 0,.int .i64 0,.int .i64 0,.int .i64 0],[.aZ]] [.aZ] [] [.mkc D [.t 12,.t 4],.gy false (.t 81) [.t 83,.k (.int .i64 5),.k (.int .i64 0)],.gy false (.t 85) [.t 93,.k (.int .i64 2),.t 95],.gy false (.t 97) [.t 102,.k (.int .i64 1),.t 104],.gy false (.t 106) [.t 118,.k (.int .i64 3),.t 122],.gy false (.t 124) [.t 136,.k (.int .i64 4),.t 140]]).1 aD
def vt(D:Nat):bJ:=(⟨_,by conv=>lhs;cbv⟩:bS (cE 32 [.tmp 2] [] [16] 0xa081420e6ecfe134c7951f0b01a1072767f09a43ca8f8580d0838bb3f84d41e547c2c06841c1d9fc2688f2aa16020438614040421d17806c10981a20 [] [.fn (.func D) [] []] [.gy (.t 9) [.t 11,.k (.int .i64 255)],.gy (.t 15) [.t 17,.k (.int .i64 255)],.gy (.t 21) [.t 23,.k (.int .i64 15)],.gy (.t 27) [.t 29,.k (.int .i64 15)]])).1
def rj(D:Nat):bJ:=(⟨_,by conv=>lhs;cbv⟩:bS (cE 11 [.cell 4 (some 6)] [D] [] 0xac18ac5d240cac14a026218c13004090f80819924c0c11e05b20 [[.aZ,.int .i64 0,.int .i64 0,.int .i64 0,.int .i64 0,.bool false]])).1
def vu:bJ:=(⟨_,by conv=>lhs;cbv⟩:bS (cE 23 [.cell 2 (some 8)] [] [0,8,1,33,2,34] 0xb005cb14585f020100231c032161520a3007d14e262f0188201117810c090be8be4026414600fa29fc3e031041a0221d45f202718010be12800710a00b984b021890d18840380c8097917a69981874403a1a20 [[.int .i64 0,.int .i64 0,.int .i64 0,.int .i64 0,.int .i64 0,.int .i64 0,.int .i64 0,.int .i64 0]] [] [.FT (.t 7) (.t 8) 8 1 none])).1
def vv:bJ:=(⟨_,by conv=>lhs;cbv⟩:bS (cE 10 [.cell 0 (some 8)] [] [0,8,1] 0xb001cb0a60400c0460064224414602a21806208042402e612c086243462100e01a040c3a2000f10 [[.int .i64 0,.int .i64 0,.int .i64 0,.int .i64 0,.int .i64 0,.int .i64 0,.int .i64 0,.int .i64 0]])).1
def vw:bJ:=(⟨_,by conv=>lhs;cbv⟩:bS (cE 7 [.tmp 2] [] [0,1] 0xa080240062e0720a8004810 [] [] [.mm true [.t 3,.k (.int .i64 0)],.mm false [.t 4,.k (.int .i64 9999)]])).1
def vz(L M D O:Nat):bJ:=(⟨_,by conv=>lhs;ext y0 y1 y2;cbv⟩:bS λ(y0 y1 y2:List AV)=>cE 43 [.cell 6 (some 138),.cell 7 (some 8)] [L,M,D,O] [0,3] 0x1484601f96285e4dcb15d3142f4e94b2611160514e21017d02bc0bd389d45f40a69c402660414e21017cf4ba8be3a6ec99601f96285e8dca024683179f480c48bd06205f0ea2f3c121220a18048917a7102440bd388044d062f3e9be1c0040218302a2f01018a0bf8604c5fc0a202f1217f12ba8bc445fc8a3d3e943cf39e3e58f1f1a78f80088bdebe30004860665e98a17a74c18be6c0405e03d0ea693407b50 [y1,[.int .i64 0,.int .i64 0,.int .i64 0,.int .i64 0,.int .i64 0,.int .i64 0,.int .i64 0,.int .i64 0],y0,y2]).1 b9 aD gp
def dY(D:Nat):bJ:=(⟨_,by conv=>lhs;cbv⟩:bS (cE 17 [] [D] [] 0x1840f9c2160009844002442282061001700078000408917d202881340800421a2 [[.int .i64 0,.int .i64 0,.int .i64 0]] [] [.app D 3 24 (.t 9) (.t 15)])).1
def rm:bJ:=(⟨_,by conv=>lhs;cbv⟩:bS (cE 12 [.tmp 4] [] [0] 0x14202831c0b948795870b01020202f1c0c048810)).1
def vA(V D O M R L:Nat):Ff:=⟨59,[.cell 6 (some 117),.cell 7 (some 16),.cell 8 (some 8),.cell 9 none],.qy [⟨(some 3),.o (.box (.t 0)),none⟩,⟨(some 4),.o (.box (.t 1)),none⟩,⟨(some 5),.o (.box (.t 2)),none⟩,⟨(some 6),.o (.alloc b9),none⟩,⟨(some 7),.o (.alloc gp),none⟩,⟨(some 8),.o (.alloc [(.int .i64 0),(.int .i64 0),(.int .i64 0),(.int .i64 0),(.int .i64 0),(.int .i64 0),(.int .i64 0),(.int .i64 0)]),none⟩,⟨(some 9),.o (.alloc [(.int .i64 0)]),none⟩],V,[(.t 6),(.t 7),(.t 8),(.t 9)],12,.seq (.qy [⟨(some 13),.o (.ld (.t 3) (some 131)),none⟩,⟨(some 14),.o (.fa (.t 4) 3),none⟩,⟨(some 15),.o (.ld (.t 14) (some 117)),none⟩,⟨(some 16),.o (.fa (.t 5) 0),none⟩,⟨(some 17),.o (.ld (.t 16) none),none⟩,⟨(some 18),.o (.fa (.t 5) 1),none⟩,⟨(some 19),.o (.ld (.t 18) none),none⟩,⟨(some 20),.o (.fa (.t 5) 2),none⟩,⟨(some 21),.o (.ld (.t 20) none),none⟩,⟨(some 22),.o (.fa (.t 5) 3),none⟩,⟨(some 23),.o (.ld (.t 22) none),none⟩,⟨(some 24),.o (.build [.aZ,(.int .i64 0),(.int .i64 0),(.int .i64 0)] [(0,1,(.t 17)),(1,1,(.t 19)),(2,1,(.t 21)),(3,1,(.t 23))]),none⟩,⟨(some 25),.call D [(.t 13),(.t 15),(.t 24)],none⟩,⟨none,.o (.st (.t 6) (.t 25) 117),none⟩]) (.seq (.qy [⟨(some 26),.o (.fa (.t 6) 0),none⟩,⟨(some 27),.o (.ld (.t 26) (some 96)),none⟩,⟨(some 28),.call O [(.t 27)],none⟩,⟨none,.o (.st (.t 8) (.t 28) 8),none⟩]) (.seq (.qy [⟨(some 29),.o (.ld (.t 8) (some 8)),none⟩,⟨(some 10),.o (.alloc [(.int .i64 0),(.int .i64 0),(.int .i64 0),(.int .i64 0),(.int .i64 0),(.int .i64 0),(.int .i64 0),(.int .i64 0)]),none⟩,⟨none,.o (.st (.t 10) (.t 29) 8),none⟩]) (.join (.seq (.qy [⟨(some 30),.o (.fa (.t 5) 4),none⟩,⟨(some 31),.o (.ld (.t 30) none),none⟩,⟨(some 32),.call M [(.t 31)],none⟩]) (.block 0 (.vY (.t 32) [33] [33,11,34,35,36,37,38] (.qy [⟨(some 11),.o (.mv (.t 33)),none⟩]) (.block 1 (.qy [⟨(some 34),.o (.mv (.t 11)),none⟩,⟨(some 35),.o (.Pd (.t 10) (.t 34) 8 1),none⟩,⟨(some 36),.o (.ld (.t 35) none),none⟩,⟨(some 37),.o (.bin .or (.t 36) (.k (.int .i64 4))),none⟩,⟨(some 38),.o (.Pd (.t 10) (.t 34) 8 1),none⟩,⟨none,.o (.st (.t 38) (.t 37) 1),none⟩]))))) (.seq (.qy [⟨(some 40),.o (.ld (.t 3) (some 131)),none⟩,⟨(some 41),.o (.fa (.t 4) 120),none⟩,⟨(some 42),.o (.ld (.t 41) (some 16)),none⟩,⟨(some 43),.o (.ld (.t 10) (some 8)),none⟩,⟨(some 44),.call R [(.t 40),(.t 42),(.t 43)],none⟩,⟨(some 39),.o (.mv (.t 44)),none⟩,⟨(some 45),.o (.ext (.t 39) 0),none⟩,⟨(some 46),.o (.ext (.t 39) 1),none⟩,⟨none,.o (.st (.t 7) (.t 45) 16),none⟩,⟨none,.o (.st (.t 9) (.t 46) 1),none⟩]) (.join (.seq (.qy [⟨(some 47),.o (.ld (.t 9) none),none⟩,⟨(some 48),.o (.bin .eql (.t 47) (.k (.int .i64 0))),none⟩,⟨(some 49),.o (.mv (.t 48)),none⟩,⟨(some 50),.o (.ld (.t 3) (some 131)),(some (49,true))⟩,⟨(some 51),.o (.fa (.t 6) 106),(some (49,true))⟩,⟨(some 52),.o (.ld (.t 51) (some 8)),(some (49,true))⟩,⟨(some 53),.call L [(.t 50),(.t 52)],(some (49,true))⟩,⟨(some 54),.o (.pick (.t 49) (.t 53) (.k (.bool false))),none⟩]) (.cond (.t 54) (.qy [⟨none,.o (.st (.t 9) (.k (.int .i64 7)) 1),none⟩]) .skip)) (.seq (.sq [⟨(some 55),.ld (.t 6) (some 117),none⟩,⟨(some 56),.ld (.t 7) (some 16),none⟩,⟨(some 57),.ld (.t 8) (some 8),none⟩,⟨(some 58),.ld (.t 9) none,none⟩,⟨none,.st (.t 6) (.t 55) 117,none⟩,⟨none,.st (.t 7) (.t 56) 16,none⟩,⟨none,.st (.t 8) (.t 57) 8,none⟩,⟨none,.st (.t 9) (.t 58) 1,none⟩] [(1,4),(2,4),(2,5),(3,4),(3,5),(3,6)]) .ret))))))⟩
def rq:abt:=⟨11,5,[⟨(some 4),.o (.mv (.t 5)),none⟩],.seq (.qy [⟨(some 6),.o (.mv (.t 4)),none⟩,⟨(some 7),.isI true (.t 6),none⟩]) (.cond (.t 7) (.qy [⟨(some 8),.o (.build b9 []),none⟩,⟨(some 9),.o (.build gp []),none⟩,⟨(some 10),.o (.build [(.int .i64 0),(.int .i64 0),(.int .i64 0),(.int .i64 0),(.int .i64 0),(.int .i64 0),(.int .i64 0),(.int .i64 0)] []),none⟩,⟨none,.o (.st (.t 0) (.t 8) 117),none⟩,⟨none,.o (.st (.t 1) (.t 9) 16),none⟩,⟨none,.o (.st (.t 2) (.t 10) 8),none⟩,⟨none,.o (.st (.t 3) (.k (.int .i64 8)) 1),none⟩]) .skip)⟩
end
structure Fm where
 samples:Option (List (List AV))
 push:Int
 ask:Int
 lines:Int
 ko:Int
 reset:Bool
 deriving Inhabited
section
variable (C:aT) (f:Nat) (x:Fm)
def smR(r:List AV):List AV:=r
def Fm.cells:List AV:=[aI smR x.samples,I x.push,I x.ask,I x.lines,I x.ko,B x.reset]
def inE(s D:Int):Bool:=decide (s>=0)&&decide (s<=D)
def xx:Bool:=(((decide (((x.samples.getD []).length:Int)<=16)&&inE x.push 255)&&inE x.ko 255)&&inE x.ask 15)&&inE x.lines 15
def FA(lines:Int):Fm:=if xx x then x else⟨none,0,0,lines,0,false⟩
theorem Fm.len:x.cells.length=6:=rfl
theorem bf(b:Bool):b=false\/b=true:=by cases b<;>simp
def BQ.Spec:Prop:=∀s D:Int,C.c f [I s,I D] (B (inE s D)) none
def rY.Spec:Prop:=∀x:Fm,C.c f [.agg x.cells] (B (xx x)) none
def lK.Spec:Prop:=∀(x:Fm) (lines:Int),C.c f [.agg x.cells,I lines] (.agg (FA x lines).cells) none
end
section
variable{P:Program} (hm:P.follows .mixedOrders=true) {f:Nat}
include hm
theorem BQ.ok(D:bK P f=some rm):BQ.Spec (Pure P) f:=by
 intro s L;refine aq hm D [] rfl ?_;try simp only[I,B,RX,↓KW,seval,rm,Z.H]
 unfold inE
 refine aY (λh=>?_) (λh=>?_)<;>try simp only[RX,↓KW,seval,h]
 all_goals simp[]
theorem rY.ok{L:Nat} (M:bK P f=some (vt L)) (D:BQ.Spec (Pure P) L):rY.Spec (Pure P) f:=by
 intro x;refine aq hm M [] rfl ?_;try simp only[I,B,RX,↓KW,seval,vt,Z.H,Fm.cells]
 unfold xx;generalize decide (((x.samples.getD []).length:Int)<=16)=b0
 repeat' (first|((first|refine af (D x.push 255) ?_|refine af (D x.ko 255) ?_|refine af (D x.ask 15) ?_|refine af (D x.lines 15) ?_);try simp only[B,RX,seval])|(((first|refine aY ?_ ?_|refine aA ?_ ?_|refine bH ?_ ?_)<;>intro h)<;>try simp only[B,RX,↓KW,seval,py,px,h]))
 all_goals simp[*]
theorem lK.ok{L:Nat} (O:bK P f=some (rj L)) (V:rY.Spec (Pure P) L):lK.Spec (Pure P) f:=by
 intro x lines
 have M:aB x.cells 0 (some 6)=some (.agg x.cells):=rfl
 have D:=V x
 unfold FA;cases R:xx x
 all_goals
  rw[R]at D;refine aq hm O [] rfl ?_;try simp only[I,RX,↓KW,seval,rj,Z.H,M]
  refine af D ?_;try simp only[B,RX,↓KW,seval,M,Fm.len]
  try rfl
end
end Go.Eng
