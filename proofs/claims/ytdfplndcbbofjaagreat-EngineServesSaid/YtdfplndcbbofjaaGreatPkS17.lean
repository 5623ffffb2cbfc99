/- Part 17 of the engine and its library. -/
import Derived.Test.YtdfplndcbbofjaaGreatPkS16
set_option linter.all false
set_option maxRecDepth 10000
set_option maxHeartbeats 4000000
namespace Go.Eng
open Go
section
variable{P:Program} (hm:P.follows .mixedOrders=true) {f:Nat}
include hm
theorem Hr.ok{fL fS fR fE fB fT:Nat} (hc:bY P f=some (qB fL fS fR fE fB fT)) (hL:BP.Spec (Pure P) fL) (hS:xA.Spec (Pure P) fS) (hR:yq.Spec (Pure P) fR) (hE:yy.Spec (Pure P) fE) (hB:GZ.Spec (Pure P) fB) (hT:G0.Spec (Pure P) fT):Hr.Spec (Pure P) f:=by
 intro t s lines l h
 have e1:=Tb.len h.t
 have e2:=Pr.len h.s
 have e3:=c7 h.l
 have e4:=Tb.whole h.t
 have e5:=Pr.whole h.s
 have e6:=gl h.l
 have bd:=hL t s lines h.t h.s
 have O:i9 t s lines l=i7 t (CW (iR t s lines)) l:=rfl
 have a5:kK t (iR t s lines) l:=dG h (GO t s lines)
 generalize iR t s lines=u at*
 have f1:=Pr.len a5.s
 have f2:=Pr.whole a5.s
 have a9:=OV a5 (z:=pV) rfl
 have f0:List.take 0 pV=[]:=rfl
 have fz:pV.length=235:=rfl
 obtain⟨n,hn,_,be,a7,a6⟩:=hS
 have bi:setCells oI 0 n=n:=gB (by rw[hn];rfl)
 have ba:oI.length=12:=rfl
 have q0:=λ(v:Pr) (hv:v.held.length=4)=>OT (dG h hv)
 have q1:=λ(v:Pr) (hv:v.held.length=4)=>Kl (dG h hv)
 have q2:=λ(v:Pr) (hv:v.held.length=4)=>E1 (dG h hv)
 have q3:=λ(v:Pr) (hv:v.held.length=4)=>Wq (dG h hv)
 have q4:=λ(v:Pr) (hv:v.held.length=4)=>OU (dG h hv)
 have q5:=λ(v:Pr) (hv:v.held.length=4)=>Wr (dG h hv)
 have k8:∀v:Pr,v.held.length=4->setCells [I 0,I 0,I 0,I 0,I 0,I 0,I 0,I 0] 0 v.cells=v.cells:=λv hv=>gB (by rw[Pr.len hv];rfl)
 have kA:∀a:Ac,a.cells.length=5/\setCells [I 0,I 0,I 0,B false,B false] 0 a.cells=a.cells/\aH a.cells 0 (some 5)=some (.agg a.cells):=λa=>⟨rfl,rfl,rfl⟩
 have V:=cG e1 (cG e2 (cG e3 (cG e4 (cG e5 (cG e6 (cG f1 (cG f2 (cG a9 (cG f0 (cG fz (cG hn (cG bi (cG ba (cG kA ((@lr AV))))))))))))))))
 refine aq hm hc [] rfl ?_;try simp only[I,RY,↓KW,seval,qB,Z.H,V]
 refine ah bd ?_;try simp only[RY,↓KW,seval,V]
 refine ah be ?_;try simp only[RY,↓KW,seval,V]
 have u0:=q0 u a5.s
 have u1:=q1 u a5.s
 have u2:=q2 u a5.s
 obtain⟨v,hv⟩:∃v,CW u=v:=⟨_,rfl⟩
 have M:v.held.length=4:=by rw[<-hv,CW];split<;>exact a5.s
 have bj:0<=v.ax/\v.ax<6:=by rw[<-hv,CW];split<;>first|(show(0:Int)<=0/\(0:Int)<6;exact⟨Ts,Ts⟩)|omega
 rw[hv]at O
 obtain⟨k,hk⟩:∃k:Nat,v.ax=k:=⟨v.ax.toNat,ST⟩
 have bm:k<6:=ST
 have am:gb t v=(decide (aK t v>=0)&&((k:Int)==0||((k:Int)==5||decide (aK t v<v.which)))):=by rw[gb,hk]
 have v0:=q0 v M
 rw[hk]at v0
 have v1:=q1 v M
 have v2:=q2 v M
 have v3:=Pr.len M
 have v4:=Pr.whole M
 have ag:=cG v0 (cG v1 (cG v2 (cG v3 (v4))))
 have qs:(u.ax<0\/6<=u.ax->setCells (cn t u l) 131 [I 0]=cn t v l)/\(¬(u.ax<0\/6<=u.ax)->cn t u l=cn t v l):=
  ⟨λe=>by rw[q3 u a5.s 0,<-hv,CW,gc e],λe=>by rw[<-hv,CW,fx e]⟩
 cases hA:decide (u.ax<0);cases a8:decide (u.ax>=6)
 ·have e:v=u:=by rw[<-hv,CW,fx (by have:=dC hA;have:=dC a8;omega)]
  subst e
  have qs:True:=trivial
  rw[hk]at hA a8;try simp only[I,RY,↓KW,seval,hA,a8,ag,V]
  refine ah (hR t v h.t M) ?_;try simp only[I,RY,↓KW,seval]
  cases c1:decide (aK t v>=0)
  ·have ab:gb t v=false:=by rw[am,c1];rfl
   have c2:True:=trivial
   have c3:True:=trivial
   have c4:True:=trivial
   obtain⟨g,hg,a2⟩:=a7 k ST
   have ad:=a2 t v l (dG h M) hk
   have R:=mQ (t:=t) (l:=l) M
   have hr:=j5 t v l
   have al:i7 t v l=if v.ax=5/\(aC t v l).1=0 then({(aC t v l).2 with ax:=0,which:=0,time:=0},iH t (aC t v l).2 l)
    else(gi t (aC t v l).2 l (aC t v l).1 v.ax,mP t (gi t (aC t v l).2 l (aC t v l).1 v.ax) l (aC t v l).1):=fx (by rw[ab];decide)
   rw[al]at O;generalize(aC t v l).2=w at*
   obtain⟨j,hj⟩:∃j:Nat,(aC t v l).1=j:=⟨(aC t v l).1.toNat,ST⟩
   rw[hj]at ad O hr
   have ar:j<6:=ST
   have hy:0<=(k:Int)/\(k:Int)<6:=ST
   have au:0<=(j:Int)/\(j:Int)<6:=ST
   have w0:=q0 w R
   have w1:=q1 w R
   have w2:=q2 w R
   have ae:=cG w0 (cG w1 (w2))
   try simp only[RY,↓KW,seval,hy,hg]
   refine⟨rfl,aU ad ?_⟩;try simp only[I,B,D,RY,↓KW,seval,qs,V,ag,ae]
   cases d1:((k:Int)==5);rotate_left;cases d2:((j:Int)==0);rotate_left
   ·have s1:=q3 w R 0
    have s2:=q4 {w with ax:=0} R 0
    have s3:=q5 {w with ax:=0,which:=0} R 0
    obtain⟨y,aa⟩:∃y:Pr,y={w with ax:=0,which:=0,time:=0}:=⟨_,rfl⟩
    have A:y.held.length=4:=by rw[aa];exact R
    rw[<-aa]at s3 O
    have ak:v.ax=5/\(j:Int)=0:=⟨by rw[hk];simpa using d1,by simpa using d2⟩
    rw[gc ak]at O
    have y0:=q0 y A
    have y1:=q1 y A
    have y2:=q2 y A
    have y3:=Pr.len A
    have y4:=Pr.whole A
    have y5:=k8 y A
    have l1:=q2 {w with ax:=0} R
    have l2:=q2 {w with ax:=0,which:=0} R
    have L:=cG s1 (cG s2 (cG s3 (cG y0 (cG y1 (cG y2 (cG y3 (cG y4 (cG y5 (cG l1 (l2))))))))))
    try simp only[I,RY,↓KW,seval,d2]
    refine⟨rfl,aU (bC (hB t w l (dG h R)) rfl (ia rfl)) ?_⟩;try simp only[RY,↓KW,seval,V,ae,L]
    refine p9 rfl ?_;try simp only[RY,↓KW,seval,V,L]
    rw[O]
   all_goals
    have ak:¬(v.ax=5/\(j:Int)=0):=by
     rintro⟨a,b⟩
     rw[hk]at a;simp_all
    rw[fx ak]at O;obtain⟨g2,a4,an⟩:=a6 j ar
    have s1:=q3 w R j
    obtain⟨y,aa⟩:∃y:Pr,y=gi t w l j v.ax:=⟨_,rfl⟩
    have A:y.held.length=4:=by rw[aa];exact R
    have s2:∀x,x=mJ t {w with ax:=(j:Int)} l ((j:Int) !=(k:Int))->setCells (cn t {w with ax:=(j:Int)} l) 133 [I x]=cn t y l:=λx hx=>by
     rw[q5 {w with ax:=(j:Int)} R x,hx,aa,gi,hk]
    have ao:=s2 _ rfl
    rw[<-aa]at O
    have y0:=q0 y A
    have y1:=q1 y A
    have y2:=q2 y A
    have y3:=Pr.len A
    have y4:=Pr.whole A
    have y5:=k8 y A
    have l1:=q2 {w with ax:=(j:Int)} R
    have a3:=hT t {w with ax:=(j:Int)} l ((j:Int) !=(k:Int)) (dG h R)
    have L:=cG s1 (cG ao (cG y0 (cG y1 (cG y2 (cG y3 (cG y4 (cG y5 (cG l1 (cG au (a4))))))))))
    try try simp only[I,RY,↓KW,seval,ae,L]
    try try simp only[RY,↓KW,seval,d2,ae,L]
    refine⟨rfl,aU (bC a3 rfl (ia rfl)) ?_⟩;try simp only[I,RY,↓KW,seval,L]
    refine iY [9] rfl ?_;try simp only[RY,↓KW,seval,L]
    refine⟨rfl,bZ (bC (an t y l (dG h A)) rfl (ia rfl)) ?_⟩;try simp only[RY,seval,V,L]
    rw[O]
  ·cases c2:((k:Int)==0)
   rotate_left
   ·have ab:gb t v=true:=by rw[am,c1,c2];rfl
    have c3:True:=trivial
    have c4:True:=trivial
    have s1:=q3 v M 1
    have s2:=q4 {v with ax:=1} M (aK t v)
    have s3:=q5 {v with ax:=1,which:=aK t v} M 0
    have ac:i7 t v l=({v with ax:=1,which:=aK t v,time:=0},k6 t {v with ax:=1,which:=aK t v,time:=0} l):=gc ab
    obtain⟨y,hy⟩:∃y:Pr,y={v with ax:=1,which:=aK t v,time:=0}:=⟨_,rfl⟩
    have A:y.held.length=4:=by rw[hy];exact M
    rw[<-hy]at ac s3
    have y0:=q0 y A
    have y1:=q1 y A
    have y2:=q2 y A
    have y3:=Pr.len A
    have y4:=Pr.whole A
    have y5:=k8 y A
    have l1:=q2 {v with ax:=1} M
    have l2:=q2 {v with ax:=1,which:=aK t v} M
    have L:=cG s1 (cG s2 (cG s3 (cG y0 (cG y1 (cG y2 (cG y3 (cG y4 (cG y5 (cG l1 (l2))))))))))
    try simp only[RY,↓KW,seval,c2,ag,L]
    refine iY [5] rfl ?_;try simp only[RY,↓KW,seval,L]
    refine⟨rfl,bZ (bC (hE t y l (dG h A)) rfl (ia rfl)) ?_⟩;try simp only[RY,seval,V,L]
    rw[O,ac]
   ·cases c3:((k:Int)==5)
    rotate_left
    ·have ab:gb t v=true:=by rw[am,c1,c2,c3];rfl
     have c4:True:=trivial
     have s1:=q3 v M 1
     have s2:=q4 {v with ax:=1} M (aK t v)
     have s3:=q5 {v with ax:=1,which:=aK t v} M 0
     have ac:i7 t v l=({v with ax:=1,which:=aK t v,time:=0},k6 t {v with ax:=1,which:=aK t v,time:=0} l):=gc ab
     obtain⟨y,hy⟩:∃y:Pr,y={v with ax:=1,which:=aK t v,time:=0}:=⟨_,rfl⟩
     have A:y.held.length=4:=by rw[hy];exact M
     rw[<-hy]at ac s3
     have y0:=q0 y A
     have y1:=q1 y A
     have y2:=q2 y A
     have y3:=Pr.len A
     have y4:=Pr.whole A
     have y5:=k8 y A
     have l1:=q2 {v with ax:=1} M
     have l2:=q2 {v with ax:=1,which:=aK t v} M
     have L:=cG s1 (cG s2 (cG s3 (cG y0 (cG y1 (cG y2 (cG y3 (cG y4 (cG y5 (cG l1 (l2))))))))))
     try simp only[RY,↓KW,seval,c2,c3,ag,L]
     refine iY [5] rfl ?_;try simp only[RY,↓KW,seval,L]
     refine⟨rfl,bZ (bC (hE t y l (dG h A)) rfl (ia rfl)) ?_⟩;try simp only[RY,seval,V,L]
     rw[O,ac]
    ·cases c4:decide (aK t v<v.which)
     rotate_left
     ·have ab:gb t v=true:=by rw[am,c1,c2,c3,c4];rfl
      have s1:=q3 v M 1
      have s2:=q4 {v with ax:=1} M (aK t v)
      have s3:=q5 {v with ax:=1,which:=aK t v} M 0
      have ac:i7 t v l=({v with ax:=1,which:=aK t v,time:=0},k6 t {v with ax:=1,which:=aK t v,time:=0} l):=gc ab
      obtain⟨y,hy⟩:∃y:Pr,y={v with ax:=1,which:=aK t v,time:=0}:=⟨_,rfl⟩
      have A:y.held.length=4:=by rw[hy];exact M
      rw[<-hy]at ac s3
      have y0:=q0 y A
      have y1:=q1 y A
      have y2:=q2 y A
      have y3:=Pr.len A
      have y4:=Pr.whole A
      have y5:=k8 y A
      have l1:=q2 {v with ax:=1} M
      have l2:=q2 {v with ax:=1,which:=aK t v} M
      have L:=cG s1 (cG s2 (cG s3 (cG y0 (cG y1 (cG y2 (cG y3 (cG y4 (cG y5 (cG l1 (l2))))))))))
      try simp only[I,RY,↓KW,seval,c2,c3,c4,ag,L]
      refine iY [5] rfl ?_;try simp only[RY,↓KW,seval,L]
      refine⟨rfl,bZ (bC (hE t y l (dG h A)) rfl (ia rfl)) ?_⟩;try simp only[RY,seval,V,L]
      rw[O,ac]
     ·have ab:gb t v=false:=by rw[am,c1,c2,c3,c4];rfl
      obtain⟨g,hg,a2⟩:=a7 k ST
      have ad:=a2 t v l (dG h M) hk
      have R:=mQ (t:=t) (l:=l) M
      have hr:=j5 t v l
      have al:i7 t v l=if v.ax=5/\(aC t v l).1=0 then({(aC t v l).2 with ax:=0,which:=0,time:=0},iH t (aC t v l).2 l)
       else(gi t (aC t v l).2 l (aC t v l).1 v.ax,mP t (gi t (aC t v l).2 l (aC t v l).1 v.ax) l (aC t v l).1):=fx (by rw[ab];decide)
      rw[al]at O;generalize(aC t v l).2=w at*
      obtain⟨j,hj⟩:∃j:Nat,(aC t v l).1=j:=⟨(aC t v l).1.toNat,ST⟩
      rw[hj]at ad O hr
      have ar:j<6:=ST
      have hy:0<=(k:Int)/\(k:Int)<6:=ST
      have au:0<=(j:Int)/\(j:Int)<6:=ST
      have w0:=q0 w R
      have w1:=q1 w R
      have w2:=q2 w R
      have ae:=cG w0 (cG w1 (w2))
      try simp only[I,RY,↓KW,seval,c2,c3,c4,hy,hg,ag]
      refine⟨rfl,aU ad ?_⟩;try simp only[I,RY,↓KW,seval,ae]
      have d1:=c3
      have d2:True:=trivial
      all_goals
       have ak:¬(v.ax=5/\(j:Int)=0):=by
        rintro⟨a,b⟩
        rw[hk]at a;simp_all
       rw[fx ak]at O;obtain⟨g2,a4,an⟩:=a6 j ar
       have s1:=q3 w R j
       obtain⟨y,aa⟩:∃y:Pr,y=gi t w l j v.ax:=⟨_,rfl⟩
       have A:y.held.length=4:=by rw[aa];exact R
       have s2:∀x,x=mJ t {w with ax:=(j:Int)} l ((j:Int) !=(k:Int))->setCells (cn t {w with ax:=(j:Int)} l) 133 [I x]=cn t y l:=λx hx=>by
        rw[q5 {w with ax:=(j:Int)} R x,hx,aa,gi,hk]
       have ao:=s2 _ rfl
       rw[<-aa]at O
       have y0:=q0 y A
       have y1:=q1 y A
       have y2:=q2 y A
       have y3:=Pr.len A
       have y4:=Pr.whole A
       have y5:=k8 y A
       have l1:=q2 {w with ax:=(j:Int)} R
       have a3:=hT t {w with ax:=(j:Int)} l ((j:Int) !=(k:Int)) (dG h R)
       have L:=cG s1 (cG ao (cG y0 (cG y1 (cG y2 (cG y3 (cG y4 (cG y5 (cG l1 (cG au (a4))))))))))
       try try simp only[seval,L]
       try try simp only[I,B,D,RY,↓KW,seval,d2,V,ag,ae,L,qs]
       refine⟨rfl,aU (bC a3 rfl (ia rfl)) ?_⟩;try simp only[I,RY,↓KW,seval,L]
       refine iY [9] rfl ?_;try simp only[RY,↓KW,seval,L]
       refine⟨rfl,bZ (bC (an t y l (dG h A)) rfl (ia rfl)) ?_⟩;try simp only[RY,seval,V,L]
       rw[O]
 ·have qs:=qs.1 (.inr (by have:=dE a8;omega))
  try simp only[I,RY,↓KW,seval,hA,a8,u0,u2,qs,V,ag]
  refine ah (hR t v h.t M) ?_;try simp only[I,RY,↓KW,seval,qs]
  cases c1:decide (aK t v>=0)
  ·have ab:gb t v=false:=by rw[am,c1];rfl
   have c2:True:=trivial
   have c3:True:=trivial
   have c4:True:=trivial
   obtain⟨g,hg,a2⟩:=a7 k ST
   have ad:=a2 t v l (dG h M) hk
   have R:=mQ (t:=t) (l:=l) M
   have hr:=j5 t v l
   have al:i7 t v l=if v.ax=5/\(aC t v l).1=0 then({(aC t v l).2 with ax:=0,which:=0,time:=0},iH t (aC t v l).2 l)
    else(gi t (aC t v l).2 l (aC t v l).1 v.ax,mP t (gi t (aC t v l).2 l (aC t v l).1 v.ax) l (aC t v l).1):=fx (by rw[ab];decide)
   rw[al]at O;generalize(aC t v l).2=w at*
   obtain⟨j,hj⟩:∃j:Nat,(aC t v l).1=j:=⟨(aC t v l).1.toNat,ST⟩
   rw[hj]at ad O hr
   have ar:j<6:=ST
   have hy:0<=(k:Int)/\(k:Int)<6:=ST
   have au:0<=(j:Int)/\(j:Int)<6:=ST
   have w0:=q0 w R
   have w1:=q1 w R
   have w2:=q2 w R
   have ae:=cG w0 (cG w1 (w2))
   try simp only[RY,↓KW,seval,hy,hg]
   refine⟨rfl,aU ad ?_⟩;try simp only[I,B,D,RY,↓KW,seval,qs,V,ag,ae]
   cases d1:((k:Int)==5);rotate_left;cases d2:((j:Int)==0);rotate_left
   ·have s1:=q3 w R 0
    have s2:=q4 {w with ax:=0} R 0
    have s3:=q5 {w with ax:=0,which:=0} R 0
    obtain⟨y,aa⟩:∃y:Pr,y={w with ax:=0,which:=0,time:=0}:=⟨_,rfl⟩
    have A:y.held.length=4:=by rw[aa];exact R
    rw[<-aa]at s3 O
    have ak:v.ax=5/\(j:Int)=0:=⟨by rw[hk];simpa using d1,by simpa using d2⟩
    rw[gc ak]at O
    have y0:=q0 y A
    have y1:=q1 y A
    have y2:=q2 y A
    have y3:=Pr.len A
    have y4:=Pr.whole A
    have y5:=k8 y A
    have l1:=q2 {w with ax:=0} R
    have l2:=q2 {w with ax:=0,which:=0} R
    have L:=cG s1 (cG s2 (cG s3 (cG y0 (cG y1 (cG y2 (cG y3 (cG y4 (cG y5 (cG l1 (l2))))))))))
    try simp only[I,RY,↓KW,seval,d2]
    refine⟨rfl,aU (bC (hB t w l (dG h R)) rfl (ia rfl)) ?_⟩;try simp only[RY,↓KW,seval,V,ae,L]
    refine p9 rfl ?_;try simp only[RY,↓KW,seval,V,L]
    rw[O]
   all_goals
    have ak:¬(v.ax=5/\(j:Int)=0):=by
     rintro⟨a,b⟩
     rw[hk]at a;simp_all
    rw[fx ak]at O;obtain⟨g2,a4,an⟩:=a6 j ar
    have s1:=q3 w R j
    obtain⟨y,aa⟩:∃y:Pr,y=gi t w l j v.ax:=⟨_,rfl⟩
    have A:y.held.length=4:=by rw[aa];exact R
    have s2:∀x,x=mJ t {w with ax:=(j:Int)} l ((j:Int) !=(k:Int))->setCells (cn t {w with ax:=(j:Int)} l) 133 [I x]=cn t y l:=λx hx=>by
     rw[q5 {w with ax:=(j:Int)} R x,hx,aa,gi,hk]
    have ao:=s2 _ rfl
    rw[<-aa]at O
    have y0:=q0 y A
    have y1:=q1 y A
    have y2:=q2 y A
    have y3:=Pr.len A
    have y4:=Pr.whole A
    have y5:=k8 y A
    have l1:=q2 {w with ax:=(j:Int)} R
    have a3:=hT t {w with ax:=(j:Int)} l ((j:Int) !=(k:Int)) (dG h R)
    have L:=cG s1 (cG ao (cG y0 (cG y1 (cG y2 (cG y3 (cG y4 (cG y5 (cG l1 (cG au (a4))))))))))
    try try simp only[I,RY,↓KW,seval,ae,L]
    try try simp only[RY,↓KW,seval,d2,ae,L]
    refine⟨rfl,aU (bC a3 rfl (ia rfl)) ?_⟩;try simp only[I,RY,↓KW,seval,L]
    refine iY [9] rfl ?_;try simp only[RY,↓KW,seval,L]
    refine⟨rfl,bZ (bC (an t y l (dG h A)) rfl (ia rfl)) ?_⟩;try simp only[RY,seval,V,L]
    rw[O]
  ·cases c2:((k:Int)==0)
   rotate_left
   ·have ab:gb t v=true:=by rw[am,c1,c2];rfl
    have c3:True:=trivial
    have c4:True:=trivial
    have s1:=q3 v M 1
    have s2:=q4 {v with ax:=1} M (aK t v)
    have s3:=q5 {v with ax:=1,which:=aK t v} M 0
    have ac:i7 t v l=({v with ax:=1,which:=aK t v,time:=0},k6 t {v with ax:=1,which:=aK t v,time:=0} l):=gc ab
    obtain⟨y,hy⟩:∃y:Pr,y={v with ax:=1,which:=aK t v,time:=0}:=⟨_,rfl⟩
    have A:y.held.length=4:=by rw[hy];exact M
    rw[<-hy]at ac s3
    have y0:=q0 y A
    have y1:=q1 y A
    have y2:=q2 y A
    have y3:=Pr.len A
    have y4:=Pr.whole A
    have y5:=k8 y A
    have l1:=q2 {v with ax:=1} M
    have l2:=q2 {v with ax:=1,which:=aK t v} M
    have L:=cG s1 (cG s2 (cG s3 (cG y0 (cG y1 (cG y2 (cG y3 (cG y4 (cG y5 (cG l1 (l2))))))))))
    try simp only[RY,↓KW,seval,c2,ag,L]
    refine iY [5] rfl ?_;try simp only[RY,↓KW,seval,L]
    refine⟨rfl,bZ (bC (hE t y l (dG h A)) rfl (ia rfl)) ?_⟩;try simp only[RY,seval,V,L]
    rw[O,ac]
   ·cases c3:((k:Int)==5)
    rotate_left
    ·have ab:gb t v=true:=by rw[am,c1,c2,c3];rfl
     have c4:True:=trivial
     have s1:=q3 v M 1
     have s2:=q4 {v with ax:=1} M (aK t v)
     have s3:=q5 {v with ax:=1,which:=aK t v} M 0
     have ac:i7 t v l=({v with ax:=1,which:=aK t v,time:=0},k6 t {v with ax:=1,which:=aK t v,time:=0} l):=gc ab
     obtain⟨y,hy⟩:∃y:Pr,y={v with ax:=1,which:=aK t v,time:=0}:=⟨_,rfl⟩
     have A:y.held.length=4:=by rw[hy];exact M
     rw[<-hy]at ac s3
     have y0:=q0 y A
     have y1:=q1 y A
     have y2:=q2 y A
     have y3:=Pr.len A
     have y4:=Pr.whole A
     have y5:=k8 y A
     have l1:=q2 {v with ax:=1} M
     have l2:=q2 {v with ax:=1,which:=aK t v} M
     have L:=cG s1 (cG s2 (cG s3 (cG y0 (cG y1 (cG y2 (cG y3 (cG y4 (cG y5 (cG l1 (l2))))))))))
     try simp only[RY,↓KW,seval,c2,c3,ag,L]
     refine iY [5] rfl ?_;try simp only[RY,↓KW,seval,L]
     refine⟨rfl,bZ (bC (hE t y l (dG h A)) rfl (ia rfl)) ?_⟩;try simp only[RY,seval,V,L]
     rw[O,ac]
    ·cases c4:decide (aK t v<v.which)
     rotate_left
     ·have ab:gb t v=true:=by rw[am,c1,c2,c3,c4];rfl
      have s1:=q3 v M 1
      have s2:=q4 {v with ax:=1} M (aK t v)
      have s3:=q5 {v with ax:=1,which:=aK t v} M 0
      have ac:i7 t v l=({v with ax:=1,which:=aK t v,time:=0},k6 t {v with ax:=1,which:=aK t v,time:=0} l):=gc ab
      obtain⟨y,hy⟩:∃y:Pr,y={v with ax:=1,which:=aK t v,time:=0}:=⟨_,rfl⟩
      have A:y.held.length=4:=by rw[hy];exact M
      rw[<-hy]at ac s3
      have y0:=q0 y A
      have y1:=q1 y A
      have y2:=q2 y A
      have y3:=Pr.len A
      have y4:=Pr.whole A
      have y5:=k8 y A
      have l1:=q2 {v with ax:=1} M
      have l2:=q2 {v with ax:=1,which:=aK t v} M
      have L:=cG s1 (cG s2 (cG s3 (cG y0 (cG y1 (cG y2 (cG y3 (cG y4 (cG y5 (cG l1 (l2))))))))))
      try simp only[I,RY,↓KW,seval,c2,c3,c4,ag,L]
      refine iY [5] rfl ?_;try simp only[RY,↓KW,seval,L]
      refine⟨rfl,bZ (bC (hE t y l (dG h A)) rfl (ia rfl)) ?_⟩;try simp only[RY,seval,V,L]
      rw[O,ac]
     ·have ab:gb t v=false:=by rw[am,c1,c2,c3,c4];rfl
      obtain⟨g,hg,a2⟩:=a7 k ST
      have ad:=a2 t v l (dG h M) hk
      have R:=mQ (t:=t) (l:=l) M
      have hr:=j5 t v l
      have al:i7 t v l=if v.ax=5/\(aC t v l).1=0 then({(aC t v l).2 with ax:=0,which:=0,time:=0},iH t (aC t v l).2 l)
       else(gi t (aC t v l).2 l (aC t v l).1 v.ax,mP t (gi t (aC t v l).2 l (aC t v l).1 v.ax) l (aC t v l).1):=fx (by rw[ab];decide)
      rw[al]at O;generalize(aC t v l).2=w at*
      obtain⟨j,hj⟩:∃j:Nat,(aC t v l).1=j:=⟨(aC t v l).1.toNat,ST⟩
      rw[hj]at ad O hr
      have ar:j<6:=ST
      have hy:0<=(k:Int)/\(k:Int)<6:=ST
      have au:0<=(j:Int)/\(j:Int)<6:=ST
      have w0:=q0 w R
      have w1:=q1 w R
      have w2:=q2 w R
      have ae:=cG w0 (cG w1 (w2))
      try simp only[I,RY,↓KW,seval,c2,c3,c4,hy,hg,ag]
      refine⟨rfl,aU ad ?_⟩;try simp only[I,RY,↓KW,seval,ae]
      have d1:=c3
      have d2:True:=trivial
      all_goals
       have ak:¬(v.ax=5/\(j:Int)=0):=by
        rintro⟨a,b⟩
        rw[hk]at a;simp_all
       rw[fx ak]at O;obtain⟨g2,a4,an⟩:=a6 j ar
       have s1:=q3 w R j
       obtain⟨y,aa⟩:∃y:Pr,y=gi t w l j v.ax:=⟨_,rfl⟩
       have A:y.held.length=4:=by rw[aa];exact R
       have s2:∀x,x=mJ t {w with ax:=(j:Int)} l ((j:Int) !=(k:Int))->setCells (cn t {w with ax:=(j:Int)} l) 133 [I x]=cn t y l:=λx hx=>by
        rw[q5 {w with ax:=(j:Int)} R x,hx,aa,gi,hk]
       have ao:=s2 _ rfl
       rw[<-aa]at O
       have y0:=q0 y A
       have y1:=q1 y A
       have y2:=q2 y A
       have y3:=Pr.len A
       have y4:=Pr.whole A
       have y5:=k8 y A
       have l1:=q2 {w with ax:=(j:Int)} R
       have a3:=hT t {w with ax:=(j:Int)} l ((j:Int) !=(k:Int)) (dG h R)
       have L:=cG s1 (cG ao (cG y0 (cG y1 (cG y2 (cG y3 (cG y4 (cG y5 (cG l1 (cG au (a4))))))))))
       try try simp only[seval,L]
       try try simp only[I,B,D,RY,↓KW,seval,d2,V,ag,ae,L,qs]
       refine⟨rfl,aU (bC a3 rfl (ia rfl)) ?_⟩;try simp only[I,RY,↓KW,seval,L]
       refine iY [9] rfl ?_;try simp only[RY,↓KW,seval,L]
       refine⟨rfl,bZ (bC (an t y l (dG h A)) rfl (ia rfl)) ?_⟩;try simp only[RY,seval,V,L]
       rw[O]
 ·have qs:=qs.1 (.inl (dE hA))
  try simp only[I,RY,↓KW,seval,hA,u0,u2,qs,V,ag]
  refine ah (hR t v h.t M) ?_;try simp only[I,RY,↓KW,seval,qs]
  cases c1:decide (aK t v>=0)
  ·have ab:gb t v=false:=by rw[am,c1];rfl
   have c2:True:=trivial
   have c3:True:=trivial
   have c4:True:=trivial
   obtain⟨g,hg,a2⟩:=a7 k ST
   have ad:=a2 t v l (dG h M) hk
   have R:=mQ (t:=t) (l:=l) M
   have hr:=j5 t v l
   have al:i7 t v l=if v.ax=5/\(aC t v l).1=0 then({(aC t v l).2 with ax:=0,which:=0,time:=0},iH t (aC t v l).2 l)
    else(gi t (aC t v l).2 l (aC t v l).1 v.ax,mP t (gi t (aC t v l).2 l (aC t v l).1 v.ax) l (aC t v l).1):=fx (by rw[ab];decide)
   rw[al]at O;generalize(aC t v l).2=w at*
   obtain⟨j,hj⟩:∃j:Nat,(aC t v l).1=j:=⟨(aC t v l).1.toNat,ST⟩
   rw[hj]at ad O hr
   have ar:j<6:=ST
   have hy:0<=(k:Int)/\(k:Int)<6:=ST
   have au:0<=(j:Int)/\(j:Int)<6:=ST
   have w0:=q0 w R
   have w1:=q1 w R
   have w2:=q2 w R
   have ae:=cG w0 (cG w1 (w2))
   try simp only[RY,↓KW,seval,hy,hg]
   refine⟨rfl,aU ad ?_⟩;try simp only[I,B,D,RY,↓KW,seval,qs,V,ag,ae]
   cases d1:((k:Int)==5);rotate_left;cases d2:((j:Int)==0);rotate_left
   ·have s1:=q3 w R 0
    have s2:=q4 {w with ax:=0} R 0
    have s3:=q5 {w with ax:=0,which:=0} R 0
    obtain⟨y,aa⟩:∃y:Pr,y={w with ax:=0,which:=0,time:=0}:=⟨_,rfl⟩
    have A:y.held.length=4:=by rw[aa];exact R
    rw[<-aa]at s3 O
    have ak:v.ax=5/\(j:Int)=0:=⟨by rw[hk];simpa using d1,by simpa using d2⟩
    rw[gc ak]at O
    have y0:=q0 y A
    have y1:=q1 y A
    have y2:=q2 y A
    have y3:=Pr.len A
    have y4:=Pr.whole A
    have y5:=k8 y A
    have l1:=q2 {w with ax:=0} R
    have l2:=q2 {w with ax:=0,which:=0} R
    have L:=cG s1 (cG s2 (cG s3 (cG y0 (cG y1 (cG y2 (cG y3 (cG y4 (cG y5 (cG l1 (l2))))))))))
    try simp only[I,RY,↓KW,seval,d2]
    refine⟨rfl,aU (bC (hB t w l (dG h R)) rfl (ia rfl)) ?_⟩;try simp only[RY,↓KW,seval,V,ae,L]
    refine p9 rfl ?_;try simp only[RY,↓KW,seval,V,L]
    rw[O]
   all_goals
    have ak:¬(v.ax=5/\(j:Int)=0):=by
     rintro⟨a,b⟩
     rw[hk]at a;simp_all
    rw[fx ak]at O;obtain⟨g2,a4,an⟩:=a6 j ar
    have s1:=q3 w R j
    obtain⟨y,aa⟩:∃y:Pr,y=gi t w l j v.ax:=⟨_,rfl⟩
    have A:y.held.length=4:=by rw[aa];exact R
    have s2:∀x,x=mJ t {w with ax:=(j:Int)} l ((j:Int) !=(k:Int))->setCells (cn t {w with ax:=(j:Int)} l) 133 [I x]=cn t y l:=λx hx=>by
     rw[q5 {w with ax:=(j:Int)} R x,hx,aa,gi,hk]
    have ao:=s2 _ rfl
    rw[<-aa]at O
    have y0:=q0 y A
    have y1:=q1 y A
    have y2:=q2 y A
    have y3:=Pr.len A
    have y4:=Pr.whole A
    have y5:=k8 y A
    have l1:=q2 {w with ax:=(j:Int)} R
    have a3:=hT t {w with ax:=(j:Int)} l ((j:Int) !=(k:Int)) (dG h R)
    have L:=cG s1 (cG ao (cG y0 (cG y1 (cG y2 (cG y3 (cG y4 (cG y5 (cG l1 (cG au (a4))))))))))
    try try simp only[I,RY,↓KW,seval,ae,L]
    try try simp only[RY,↓KW,seval,d2,ae,L]
    refine⟨rfl,aU (bC a3 rfl (ia rfl)) ?_⟩;try simp only[I,RY,↓KW,seval,L]
    refine iY [9] rfl ?_;try simp only[RY,↓KW,seval,L]
    refine⟨rfl,bZ (bC (an t y l (dG h A)) rfl (ia rfl)) ?_⟩;try simp only[RY,seval,V,L]
    rw[O]
  ·cases c2:((k:Int)==0)
   rotate_left
   ·have ab:gb t v=true:=by rw[am,c1,c2];rfl
    have c3:True:=trivial
    have c4:True:=trivial
    have s1:=q3 v M 1
    have s2:=q4 {v with ax:=1} M (aK t v)
    have s3:=q5 {v with ax:=1,which:=aK t v} M 0
    have ac:i7 t v l=({v with ax:=1,which:=aK t v,time:=0},k6 t {v with ax:=1,which:=aK t v,time:=0} l):=gc ab
    obtain⟨y,hy⟩:∃y:Pr,y={v with ax:=1,which:=aK t v,time:=0}:=⟨_,rfl⟩
    have A:y.held.length=4:=by rw[hy];exact M
    rw[<-hy]at ac s3
    have y0:=q0 y A
    have y1:=q1 y A
    have y2:=q2 y A
    have y3:=Pr.len A
    have y4:=Pr.whole A
    have y5:=k8 y A
    have l1:=q2 {v with ax:=1} M
    have l2:=q2 {v with ax:=1,which:=aK t v} M
    have L:=cG s1 (cG s2 (cG s3 (cG y0 (cG y1 (cG y2 (cG y3 (cG y4 (cG y5 (cG l1 (l2))))))))))
    try simp only[RY,↓KW,seval,c2,ag,L]
    refine iY [5] rfl ?_;try simp only[RY,↓KW,seval,L]
    refine⟨rfl,bZ (bC (hE t y l (dG h A)) rfl (ia rfl)) ?_⟩;try simp only[RY,seval,V,L]
    rw[O,ac]
   ·cases c3:((k:Int)==5)
    rotate_left
    ·have ab:gb t v=true:=by rw[am,c1,c2,c3];rfl
     have c4:True:=trivial
     have s1:=q3 v M 1
     have s2:=q4 {v with ax:=1} M (aK t v)
     have s3:=q5 {v with ax:=1,which:=aK t v} M 0
     have ac:i7 t v l=({v with ax:=1,which:=aK t v,time:=0},k6 t {v with ax:=1,which:=aK t v,time:=0} l):=gc ab
     obtain⟨y,hy⟩:∃y:Pr,y={v with ax:=1,which:=aK t v,time:=0}:=⟨_,rfl⟩
     have A:y.held.length=4:=by rw[hy];exact M
     rw[<-hy]at ac s3
     have y0:=q0 y A
     have y1:=q1 y A
     have y2:=q2 y A
     have y3:=Pr.len A
     have y4:=Pr.whole A
     have y5:=k8 y A
     have l1:=q2 {v with ax:=1} M
     have l2:=q2 {v with ax:=1,which:=aK t v} M
     have L:=cG s1 (cG s2 (cG s3 (cG y0 (cG y1 (cG y2 (cG y3 (cG y4 (cG y5 (cG l1 (l2))))))))))
     try simp only[RY,↓KW,seval,c2,c3,ag,L]
     refine iY [5] rfl ?_;try simp only[RY,↓KW,seval,L]
     refine⟨rfl,bZ (bC (hE t y l (dG h A)) rfl (ia rfl)) ?_⟩;try simp only[RY,seval,V,L]
     rw[O,ac]
    ·cases c4:decide (aK t v<v.which)
     rotate_left
     ·have ab:gb t v=true:=by rw[am,c1,c2,c3,c4];rfl
      have s1:=q3 v M 1
      have s2:=q4 {v with ax:=1} M (aK t v)
      have s3:=q5 {v with ax:=1,which:=aK t v} M 0
      have ac:i7 t v l=({v with ax:=1,which:=aK t v,time:=0},k6 t {v with ax:=1,which:=aK t v,time:=0} l):=gc ab
      obtain⟨y,hy⟩:∃y:Pr,y={v with ax:=1,which:=aK t v,time:=0}:=⟨_,rfl⟩
      have A:y.held.length=4:=by rw[hy];exact M
      rw[<-hy]at ac s3
      have y0:=q0 y A
      have y1:=q1 y A
      have y2:=q2 y A
      have y3:=Pr.len A
      have y4:=Pr.whole A
      have y5:=k8 y A
      have l1:=q2 {v with ax:=1} M
      have l2:=q2 {v with ax:=1,which:=aK t v} M
      have L:=cG s1 (cG s2 (cG s3 (cG y0 (cG y1 (cG y2 (cG y3 (cG y4 (cG y5 (cG l1 (l2))))))))))
      try simp only[I,RY,↓KW,seval,c2,c3,c4,ag,L]
      refine iY [5] rfl ?_;try simp only[RY,↓KW,seval,L]
      refine⟨rfl,bZ (bC (hE t y l (dG h A)) rfl (ia rfl)) ?_⟩;try simp only[RY,seval,V,L]
      rw[O,ac]
     ·have ab:gb t v=false:=by rw[am,c1,c2,c3,c4];rfl
      obtain⟨g,hg,a2⟩:=a7 k ST
      have ad:=a2 t v l (dG h M) hk
      have R:=mQ (t:=t) (l:=l) M
      have hr:=j5 t v l
      have al:i7 t v l=if v.ax=5/\(aC t v l).1=0 then({(aC t v l).2 with ax:=0,which:=0,time:=0},iH t (aC t v l).2 l)
       else(gi t (aC t v l).2 l (aC t v l).1 v.ax,mP t (gi t (aC t v l).2 l (aC t v l).1 v.ax) l (aC t v l).1):=fx (by rw[ab];decide)
      rw[al]at O;generalize(aC t v l).2=w at*
      obtain⟨j,hj⟩:∃j:Nat,(aC t v l).1=j:=⟨(aC t v l).1.toNat,ST⟩
      rw[hj]at ad O hr
      have ar:j<6:=ST
      have hy:0<=(k:Int)/\(k:Int)<6:=ST
      have au:0<=(j:Int)/\(j:Int)<6:=ST
      have w0:=q0 w R
      have w1:=q1 w R
      have w2:=q2 w R
      have ae:=cG w0 (cG w1 (w2))
      try simp only[I,RY,↓KW,seval,c2,c3,c4,hy,hg,ag]
      refine⟨rfl,aU ad ?_⟩;try simp only[I,RY,↓KW,seval,ae]
      have d1:=c3
      have d2:True:=trivial
      all_goals
       have ak:¬(v.ax=5/\(j:Int)=0):=by
        rintro⟨a,b⟩
        rw[hk]at a;simp_all
       rw[fx ak]at O;obtain⟨g2,a4,an⟩:=a6 j ar
       have s1:=q3 w R j
       obtain⟨y,aa⟩:∃y:Pr,y=gi t w l j v.ax:=⟨_,rfl⟩
       have A:y.held.length=4:=by rw[aa];exact R
       have s2:∀x,x=mJ t {w with ax:=(j:Int)} l ((j:Int) !=(k:Int))->setCells (cn t {w with ax:=(j:Int)} l) 133 [I x]=cn t y l:=λx hx=>by
        rw[q5 {w with ax:=(j:Int)} R x,hx,aa,gi,hk]
       have ao:=s2 _ rfl
       rw[<-aa]at O
       have y0:=q0 y A
       have y1:=q1 y A
       have y2:=q2 y A
       have y3:=Pr.len A
       have y4:=Pr.whole A
       have y5:=k8 y A
       have l1:=q2 {w with ax:=(j:Int)} R
       have a3:=hT t {w with ax:=(j:Int)} l ((j:Int) !=(k:Int)) (dG h R)
       have L:=cG s1 (cG ao (cG y0 (cG y1 (cG y2 (cG y3 (cG y4 (cG y5 (cG l1 (cG au (a4))))))))))
       try try simp only[seval,L]
       try try simp only[I,B,D,RY,↓KW,seval,d2,V,ag,ae,L,qs]
       refine⟨rfl,aU (bC a3 rfl (ia rfl)) ?_⟩;try simp only[I,RY,↓KW,seval,L]
       refine iY [9] rfl ?_;try simp only[RY,↓KW,seval,L]
       refine⟨rfl,bZ (bC (an t y l (dG h A)) rfl (ia rfl)) ?_⟩;try simp only[RY,seval,V,L]
       rw[O]
end
section
variable (t:Tb) (r:d4) (x:Int) (s:Pr) {b:Int} {i:Nat} (l:List Rn) (y:Int)
theorem I2{to:Int} (h:0<=to/\to<6):(mP t s l to).free=(to==0)/\(mP t s l to).back=false:=by
 have e:to=0\/to=1\/to=2\/to=3\/to=4\/to=5:=ST
 rcases e with rfl|rfl|rfl|rfl|rfl|rfl<;>exact⟨rfl,rfl⟩
theorem I3{t:Tb} {s:Pr} (h:gb t s=true):0<=aK t s/\(s.ax=0\/s.ax=5\/aK t s<s.which):=by
 simp only[gb,dT,ml,gn,lc]at h;exact h
def abS:Prop:=∀i,i<8->tb x i=true->tb y i=true
def Z5:Prop:=∀i,i<8->tb x i=true->tb y i=false
theorem I4{s:Int} {f:Nat->Bool} (A:i<8):tb (vp s f) i=(tb s i&&f i):=by rw[vp,vn];simp[A]
theorem Wy(A:i<8):tb (bg .i64 255 b) i=!tb b i:=by rw[gX _ _ _ ST,nW];simp[A]
structure acr (t:Tb) (l:List Rn) (to:Int) (a:Ac):Prop where
 cs:Can a.start
 cf:Can a.fin
 cc:Can a.cut
 start:∀p,p<8->tb a.start p=true->gz t l p=true
 sub:abS a.start to
 cut:∀p,p<8->tb a.cut p=true->yw (aP l p)=true
 fin:∀p,p<8->tb a.fin p=true->ej (aP l p)=true
 acs:Z5 a.fin to
 acu:Z5 a.cut to
theorem DM:aK t s=-1\/(0<=aK t s/\aK t s<(nR t:Int)):=by
 unfold aK;split
 ·rename_i k hk
  have:=p5 hk
  rw[ib]at this
  right;omega
 ·left;rfl
structure abT (t:Tb) (s:Pr):Prop where
 held:s.held.length=4
 rng:0<=s.ax/\s.ax<6
 which:s.ax≠0->0<=s.which/\s.which<((t.bp.getD []).length:Int)
 Ah:(t.bp.getD []).length<=4
 can:Can (bq t s).clear
theorem DN(s p:Int):Can (dr s p):=ER (Kg ⟨Ts,Ts⟩) (Hi p)
theorem Wz{a:Int} (B:Can a) (M:Can b):(qV .i64 a b==0)=(a==0&&b==0):=by
 rw[xn,dT,lc,lc,lc];constructor
 ·intro h
  have A:∀i,tb a i=false/\tb b i=false:=λi=>by
   have:=uw a b i
   rw[h,bX]at this
   cases L:tb a i<;>cases D:tb b i<;>simp[L,D]at this⊢
  exact⟨lP B wQ λi _=>by rw[(A i).1,bX],lP M wQ λi _=>by rw[(A i).2,bX]⟩
 ·rintro⟨rfl,rfl⟩
  exact lP (ER wQ wQ) wQ λi _=>by rw[uw,bX];rfl
theorem O3(w g:Int):decide (qS (bg .i64 w g)>=0)=(bg .i64 (dh .i64 w 255) g !=0):=by
 have L:(qS (bg .i64 w g)>=0)↔d9 (bg .i64 w g)≠[]:=by
  unfold qS
  cases h:d9 (bg .i64 w g)with
  |nil=>simp
  |cons x l=>simp
 rw[xn,decide_eq_true_iff,L,bne_iff_ne];refine not_congr ?_;rw[kD];constructor
 ·intro h i M
  rw[kY,nW]
  by_cases A:i<8
  ·cases B:tb w i&& !tb g i
   ·revert B;cases tb w i<;>cases tb g i<;>simp
   ·have:=oG (s:=bg .i64 w g) A (by rw[gX _ _ _ M];exact B)
    rw[h]at this;cases this
  ·simp[A]
 ·intro h
  cases B:d9 (bg .i64 w g)with
  |nil=>rfl
  |cons x l=>
   have D:x∈d9 (bg .i64 w g):=by rw[B];exact ip
   have A:=jn D
   have ht:=nB D
   rw[gX _ _ _ ST]at ht
   have:=h x ST
   rw[kY,nW,pc A,nm]at this;rw[this]at ht;cases ht
theorem DO(want k:Int) (x:d4×Int×Int) (h:Can x.2.1/\Can x.2.2):Can (kP t r l want k x).2.1/\Can (kP t r l want k x).2.2:=by
 unfold kP;split
 ·split
  ·exact⟨h.1,DN _ _⟩
  ·exact h
 ·split
  ·split
   ·exact⟨DN _ _,h.2⟩
   ·exact h
  ·exact h
theorem Ml(want:Int):Can (dN t r l want).2.1/\Can (dN t r l want).2.2:=DO _ _ _ _ _ _ (DO _ _ _ _ _ _ ⟨wQ,wQ⟩)
structure St8 (t:Tb) (s:bA) (x:vA):Prop where
 ra:abT t (iR t s.pre x.lines)
 tm:∀p,p<8->0<=(aP s.runs p).time
 cl:∀v:Pr,Can (bq t v).clear
 ph:∀p:Nat,p<8->PhR (aD t p)
def Uq:Prop:=∀x∈aO t,aA t x.p=(x,true)
theorem O4(l:Option (List Int)):Uq (aR l):=by
 intro x O
 have hm:=Ae l
 generalize aR l=t at*
 have hu:∀y∈aO t,y.p=x.p->y=x:=by
  intro y Z R;obtain⟨i,hi,rfl⟩:=List.getElem_of_mem O;obtain⟨j,hj,rfl⟩:=List.getElem_of_mem Z
  have D:((aO t).map Sp.p)[i]? =some ((aO t)[i]).p:=by simp[hi]
  have A:((aO t).map Sp.p)[j]? =some ((aO t)[j]).p:=by simp[hj]
  rw[hm,cN]at D A
  have M:i<nT l:=by have:=pb List.length hm;simp[cN]at this;omega
  have L:j<nT l:=by have:=pb List.length hm;simp[cN]at this;omega
  rw[jp,kh M]at D;rw[jp,kh L]at A;simp only[mi,gg]at D A
  have:i=j:=by rw[R]at A;omega
  subst this;rfl
 unfold aA
 cases B:(aO t).find? (λy=>y.p==x.p)with
 |none=>
  have:=se.1 B x O
  simp at this
 |some y=>
  have h1:=p5 B
  have V:=List.find?_some B
  simp only
  rw[hu y h1 (by simpa using V)]
end
section
variable {g p pl r:Int} {t:Tb} (v:Nat) (x:Option Nat)
theorem tT{x:Sp}:x∈aO t↔∃(g k i:Nat) (gr:Gr),(t.groups.getD [])[g]? =some gr/\k<2/\((gr.row k).getD [])[i]? =some x.p/\(0<=x.p/\x.p<8)/\x=⟨g,k,i,x.p⟩:=by
 simp only[aO,bS,l0,ui,bH,ib,bl,yr,List.mem_zipIdx_iff_getElem?,Prod.exists];constructor
 ·rintro⟨gr,g,B,k,hk,p,i,D,A⟩
  split at A
  ·rename_i L
   cases A;exact⟨g,k,i,gr,B,hk,D,L,rfl⟩
  ·cases A
 ·rintro⟨g,k,i,gr,B,hk,D,L,A⟩
  exact⟨gr,g,B,k,hk,x.p,i,D,by rw[gc L];exact pb some A.symm⟩
theorem E6{g k:Nat} {gr:Gr} (A:(t.groups.getD [])[g]? =some gr) (hk:k<2):fq t g k=gr.row k:=by
 have B:=(e9.1 A).1
 rw[fq,fx ST]
 simp only[j9];rw[fi,A];rfl
theorem WB(h:0<=mM t g r pl):∃(O k i:Nat) (gr:Gr),g=O/\r=k/\pl=i/\(t.groups.getD [])[O]? =some gr/\k<2/\((gr.row k).getD [])[i]? =some (mM t g r pl)/\mM t g r pl<8:=by
 by_cases B:g<0\/((t.groups.getD []).length:Int)<=g\/r<0\/1<r
 ·rw[mM,gc B]at h;omega
 by_cases D:pl<0\/(((fq t g r).getD []).length:Int)<=pl
 ·rw[mM,fx B,gc D]at h;omega
 by_cases L:0<=((fq t g r).getD []).getD pl.toNat 0/\((fq t g r).getD []).getD pl.toNat 0<8
 ·have e:mM t g r pl=((fq t g r).getD []).getD pl.toNat 0:=by rw[mM,fx B,fx D,gc L]
  obtain⟨gr,M⟩:∃gr,(t.groups.getD [])[g.toNat]? =some gr:=⟨_,et ST⟩
  have A:=E6 M (k:=r.toNat) ST
  rw[show((g.toNat:Nat):Int)=g by omega,show((r.toNat:Nat):Int)=r by omega]at A
  refine⟨g.toNat,r.toNat,pl.toNat,gr,ST,ST,ST,M,ST,?_,by rw[e];exact L.2⟩
  rw[e,<-A,fi,et ST];rfl
 ·rw[mM,fx B,fx D,fx L]at h;omega
theorem kR(D:Uq t) (h:0<=mM t g r pl):aA t (mM t g r pl)=(⟨g,r,pl,mM t g r pl⟩,true):=by
 obtain⟨A,k,i,gr,rfl,rfl,rfl,L,hk,M,B⟩:=WB h
 have O:(⟨A,k,i,mM t A k i⟩:Sp)∈aO t:=tT.2 ⟨A,k,i,gr,L,hk,M,⟨h,B⟩,rfl⟩
 exact D _ O
theorem xB(h:(aA t p).2=true):(aA t p).1∈aO t/\(aA t p).1.p=p:=by
 unfold aA at h⊢
 cases A:(aO t).find? (λx=>x.p==p)with
 |none=>rw[A]at h;cases h
 |some x=>
  simp only
  exact⟨p5 A,by simpa using List.find?_some A⟩
theorem Hs(h:(aA t p).2=true):mM t (aA t p).1.group (aA t p).1.ring (aA t p).1.pos=p:=by
 obtain⟨O,L⟩:=xB h;obtain⟨g,k,i,gr,B,hk,D,M,R⟩:=tT.1 O;generalize(aA t p).1=x at*;rw[R];simp only
 have Z:=(e9.1 B).1
 have A:=E6 B hk
 have V:=(e9.1 D).1
 have e:((fq t g k).getD []).getD (i:Int).toNat 0=x.p:=by rw[A,fi,j9,D];rfl
 rw[mM,fx ST,fx (by rw[A];omega),gc (by rw[e];exact M),e,L]
theorem DP(D:Uq t) {A B:Int} (M:0<=mM t g 0 A) (L:0<=mM t g 1 B):cL t (mM t g 0 A) (mM t g 1 B)=true:=by
 rw[cL,kR D M,kR D L];simp
structure Fr where
 samples:Option (List (Option Nat))
 push:Int
 ask:Int
 lines:Int
 sX:Int
 reset:Bool
 deriving Inhabited
def Fr.cells(x:Fr):List AV:=[aI mO x.samples,I x.push,I x.ask,I x.lines,I x.sX,B x.reset]
def c20:Nat:=4626322717216342016
def f20:Option Nat->Option Nat
 |none=>none
 |some x=>DF.sub c20 x
theorem Z6:dO .sub (.float .f64 4626322717216342016) (fv x)=some (fv (f20 x)):=by
 cases x with
 |none=>rfl
 |some x=>
  show HM .f64 (DF.sub c20 x)=some (fv (DF.sub c20 x))
  cases DF.sub c20 x<;>rfl
theorem Z7(q:Option Nat):iL (fv x) q=true:=by cases x<;>rfl
theorem O5:(fv x).cells=[fv x]:=by cases x<;>rfl
def six:List (Option Nat):=[none,some 9218868437227405312,some 9223372036854775808,some 4613937818241073152,some 4711630319722168320,some 4604930618986332160]
structure Sc where
 xs:List (Option Nat)
 Ah:Nat
 ask:Int
 lines:Int
 deriving Inhabited
structure On where
 n:Nat
 push:Int
 lines:Int
 sX:Int
 reset:Bool
 deriving Inhabited
def gm:Nat:=v/16%64
def O6:Nat:=1+v/1024%30
end
section
variable (c:Sc) (wild:Bool) (l:List Int) {d k:Nat} {xs:List (Option Nat)} {α:Type} (f:α->List AV) (q:List α) (C:bk) (i:Nat) (o:On) (t v w:Nat)
def oV:On:=⟨O6 v,0,0,0,false⟩
def WC(k:Nat):Int:=IntKind.i64.wrap (256*2^min k IntKind.i64.bits)
def ic(wild:Bool) (v:Nat) (c:Sc):Sc×On:=
 if v%16<3 then({c with xs:=c.xs.set (gm v%16) (f20 (c.xs.getD (gm v%16) none))},oV v)
 else if v%16=3 then({c with xs:=c.xs.set (gm v%16) (six.getD (gm v%6) none)},oV v)
 else if v%16<6 then(c,{oV v with push:=(v/1024%256:Nat)})
 else if v%16=6 then({c with ask:=Lv .i64 c.ask (2^(gm v%4))},oV v)
 else if v%16=7 then(c,{oV v with lines:=2^(gm v%4)})
 else if v%16=8 then({c with lines:=Lv .i64 c.lines (2^(gm v%4))},oV v)
 else if v%16=9 then(c,{oV v with n:=O6 v*6})
 else if v%16=10 then({c with xs:=List.replicate 16 (some (FloatKind.f64.nearest (gm v%2*20:Nat)))},oV v)
 else if v%16=11 then({c with Ah:=gm v%17},oV v)
 else if v%16=12 then({c with Ah:=16,lines:=0},oV v)
 else if v%16=13 then(c,{oV v with push:=if wild&&gm v%4==0 then WC (gm v)else 0,sX:=if wild&&gm v%4==1 then(v/1024%256:Nat)else 0,reset:=wild&&gm v%2==0})
 else(c,oV v)
def mZ(j:Nat):Fr:=
 ⟨dB (c.xs.take c.Ah),if j=0 then o.push else 0,c.ask,if j=0 then qV .i64 c.lines o.lines else c.lines,if j=0 then o.sX else 0,if j=0 then o.reset else false⟩
def Co(out:List Fr):List Fr:=out++(List.range (min o.n (1500-out.length))).map (mZ c o)
def Ku(x:Sc×List Fr):Sc×List Fr:=((ic wild v x.1).1,Co (ic wild v x.1).1 (ic wild v x.1).2 x.2)
def WD:Nat:=(place (l.getD i 0) 1099511627776).toNat
def iS(wild:Bool) (l:List Int):Nat->Sc×List Fr
 |0=>(⟨List.replicate 16 (some 0),16,0,0⟩,[])
 |i+1=>if(iS wild l i).2.length<1500 then Ku wild (WD l i) (iS wild l i)else iS wild l i
def pX:List Fr:=(iS wild l (min l.length 120)).2
structure Sc.Ok (c:Sc):Prop where
 xs:c.xs.length=16
 Ah:c.Ah<=16
theorem Kv:v%16=0\/v%16=1\/v%16=2\/v%16=3\/v%16=4\/v%16=5\/v%16=6\/v%16=7\/v%16=8\/v%16=9\/v%16=10\/v%16=11\/v%16=12\/v%16=13\/v%16=14\/v%16=15:=by omega
theorem E7{wild:Bool} {v:Nat} {c:Sc} (h:c.Ok):(ic wild v c).1.Ok/\(ic wild v c).2.n<=180:=by
 have D:O6 v<=30:=by unfold O6;omega
 have A:=h.Ah
 have B:=h.xs
 rcases Kv v with e|e|e|e|e|e|e|e|e|e|e|e|e|e|e|e<;>
  exact⟨⟨by simp[ic,e,B],by simp[ic,e,A];try omega⟩,by simp[ic,e,oV];omega⟩
theorem I5{c:Sc} {o:On} {out:List Fr} (h:out.length<=1500):(Co c o out).length<=1500:=by simp[Co];omega
theorem Ai(wild:Bool) (l:List Int):∀i,(iS wild l i).1.Ok/\(iS wild l i).2.length<=1500
 |0=>⟨⟨by simp[iS],by simp[iS]⟩,by simp[iS]⟩
 |i+1=>by
  have A:=Ai wild l i
  rw[iS];split
  ·exact⟨(E7 A.1).1,I5 A.2⟩
  ·exact A
theorem DQ{wild:Bool} {l:List Int} {i:Nat} (h:¬(iS wild l i).2.length<1500):∀j,iS wild l (i+j)=iS wild l i
 |0=>rfl
 |j+1=>by rw[<-B0,iS,DQ h j,fx h]
theorem I6{wild:Bool} {l:List Int} {i:Nat} (A:i<=min l.length 120) (h:i=min l.length 120\/¬(iS wild l i).2.length<1500):(iS wild l i).2=pX wild l:=by
 rcases h with h|h
 ·rw[h];rfl
 ·have:=DQ h (min l.length 120-i)
  rw[show i+(min l.length 120-i)=min l.length 120 by omega]at this
  rw[pX,this]
theorem Sz:(WD l i:Int)=place (l.getD i 0) 1099511627776/\WD l i<1099511627776:=by
 have h:0<=place (l.getD i 0) 1099511627776/\place (l.getD i 0) 1099511627776<1099511627776:=by
  generalize l.getD i 0=v
  have A:=zr v (b:=1099511627776) ST
  have B:-1099511627776<v.tmod 1099511627776:=by
   have:=Int.lt_tmod_of_pos v (b:=1099511627776) ST
   omega
  unfold place;split
  ·have:bO (v.tmod 1099511627776+1099511627776)=v.tmod 1099511627776+1099511627776:=aT ST ST
   rw[this];omega
  ·omega
 unfold WD;omega
theorem Z8(h:k<xs.length):(xs.map fv)[k]? =some (fv (xs.getD k none)):=by
 simp[fi,h]
theorem O7{x:Option Nat} (h:k<xs.length):setCells (xs.map fv) k [fv x]=(xs.set k x).map fv:=by
 rw[setCells,List.map_set,H0,gc (by simpa using h)]
 simp
theorem DR:∀(n:Nat) (xs:List (Option Nat)),n<=xs.length->cq 1 n (xs.map fv)=(xs.take n).map mO
 |0,_,_=>rfl
 |n+1,x::xs,h=>by
  have:=DR n xs (by simpa using h)
  simp[cq,this,mO]
 |n+1,[],h=>by simp at h
theorem Kw:Ll (some (br f q t))=some (aI f (dB q)):=by unfold br dB;split<;>rfl
theorem Kx:vI (aI f (dB q))=some (I q.length):=by unfold dB;split<;>simp_all [aI,vI]
theorem Ht(k:SV->Prop):Lp k (br f q t)=k (.dat (I q.length) none):=by
 unfold br;split
 ·rename_i h;subst h;rfl
 ·rw[JR];simp[vI]
theorem SA:aj (Ry (some (br f q t))) λp=>p.1=aI f (dB q):=by unfold br dB;split<;>rfl
def HQ(xs:List (Option Nat)) (w d:Nat):List (Option Nat):=List.replicate d (some w)++xs.drop d
theorem SB(h:d<xs.length):(HQ xs w d).set d (some w)=HQ xs w (d+1):=by
 rw[HQ,List.set_append,fx TB]
 simp only[List.length_replicate,Nat.sub_self]
 have e:xs.drop d=xs[d]::xs.drop (d+1):=Os h
 rw[e,List.set_cons_zero,HQ];simp[List.replicate_succ',List.append_assoc]
theorem SC(h:d<=xs.length):(HQ xs w d).length=xs.length:=by simp[HQ];omega
theorem SD:HQ xs w xs.length=List.replicate xs.length (some w):=by simp[HQ]
theorem O8(xs:List (Option Nat)) (w:Nat):HQ xs w 0=xs:=by simp[HQ]
def xC:List AV:=[.bF,I 0,I c.ask,I c.lines,I 0,B false]
def uH:List AV:=[.bF,I o.push,I 0,I o.lines,I o.sX,B o.reset]
def Cp.Spec(f:Nat):Prop:=∀(l:Option (List Int)) (wild:Bool),C.c f [aI aE l,B wild] (aI Fr.cells (dB (pX wild (l.getD [])))) none
def O9.Spec(f:Nat):Prop:=C.c f [I 1] (Fl 9218868437227405312) none
def Pa.Spec(f:Nat):Prop:=C.c f [Fl 0,Fl 13830554455654793216] (Fl 9223372036854775808) none
end
section
variable{P:Program} (hm:P.follows .mixedOrders=true) {f:Nat}
include hm
theorem O9.ok(A:bY P f=some zL):O9.Spec (Pure P) f:=by
 show(Pure P).c f _ _ none
 refine aq hm A [] rfl ?_;try simp only[I,RX,↓KW,seval,zL,Z.H]
 try rfl
theorem Pa.ok(A:bY P f=some oU):Pa.Spec (Pure P) f:=by
 show(Pure P).c f _ _ none
 refine aq hm A [] rfl ?_;try simp only[RX,↓KW,seval,oU,Z.H]
 try rfl
theorem Cp.ok{fP fN fI fC e e2:Nat} (hc:bY P f=some (lg fP fN fI fC e e2)) (hP:Place.Spec (Pure P) fP) (hN:Mi.Spec (Pure P) fN) (hI:O9.Spec (Pure P) fI) (hC:Pa.Spec (Pure P) fC):Cp.Spec (Pure P) f:=by
 intro l wild;refine aq hm hc [3] rfl ?_;try simp only[B,RX,↓KW,seval,lg,Z.H]
 refine aN (λi:Nat=>(⟨[(9,.dat (I i) none),(0,.dat (aI aE l) none),(1,.dat (B wild) none),(5,br Fr.cells (iS wild (l.getD []) i).2 0),(6,.ptr 6 0),(7,.dat (I (iS wild (l.getD []) i).1.Ah) none),(8,.ptr 9 0)],[(6,⟨(iS wild (l.getD []) i).1.xs.map fv,[]⟩),(9,⟨xC (iS wild (l.getD []) i).1,[]⟩)],bG (iS wild (l.getD []) i).2 0 e2,400⟩:S)) (λi=>120-i) (λi=>i<=min (l.getD []).length 120) ?_ 0 ST ?_
 rotate_left
 ·refine ai Ts ?_ ?_ ?_ ?_<;>simp[LX,I,B,iS,xC,DI,fv,List.replicate]
 intro i hi A back
 have be:=aG (k:=i) ST
 have ar:=Ai wild (l.getD []) i
 have ab:=I6 (wild:=wild) (l:=l.getD []) (i:=i) ST
 have aa:iS wild (l.getD []) (i+1)=if(iS wild (l.getD []) i).2.length<1500 then Ku wild (WD (l.getD []) i) (iS wild (l.getD []) i)else iS wild (l.getD []) i:=rfl
 generalize hx:iS wild (l.getD []) i=x at*;obtain⟨c,out⟩:=x;simp only at ar ab aa
 have di:Ll (some (br Fr.cells out 0))=some (aI Fr.cells (dB out)):=Kw ..
 have ca:vI (aI Fr.cells (dB out))=some (I out.length):=Kx ..
 have dl:=λk=>Ht Fr.cells out 0 k
 have ag:∀r,out=r->aj (Ry (some (br Fr.cells out 0))) λp=>p.1=aI Fr.cells (dB r):=by
  intro r hr;subst hr;exact SA ..
 have an:=cG di (cG ca (dl))
 try simp only[I,B,RY,↓KW,seval]
 rcases bc (decide ((i:Int)<((l.getD []).length:Int)))with h1|h1
 ·try simp only[RY,↓KW,seval,h1]
  exact ag _ (ab (.inl (by have:=dC h1;omega)))
 rcases bc (decide ((i:Int)<120))with h2|h2
 ·try simp only[RY,↓KW,seval,h1,h2]
  exact ag _ (ab (.inl (by have:=dC h2;omega)))
 rcases bc (decide ((out.length:Int)<1500))with h3|h3
 ·try simp only[I,RY,↓KW,seval,h1,h2,h3,an]
  exact ag _ (ab (.inr (by have:=dC h3;omega)))
 have a1:=dE h1
 have a2:=dE h2
 have a3:=dE h3
 rw[gc ST]at aa
 obtain⟨y,hy⟩:∃y,(l.getD [])[i]? =some y:=⟨_,et ST⟩
 have cx:(l.getD []).getD i 0=y:=by rw[fi,hy];rfl
 have hv:=Sz (l.getD []) i
 rw[cx]at hv
 obtain⟨v,ch⟩:∃v,WD (l.getD []) i=v:=⟨_,rfl⟩
 rw[ch]at hv aa
 have hb:0<=(i:Int)/\(i:Int)<((l.getD []).length:Int):=ST
 have cP:=hP y 1099511627776 ST
 rw[<-hv.1]at cP
 have n1:IntKind.i64.wrap ((v:Int).tdiv 16)=((v/16:Nat):Int):=by rw[show(v:Int).tdiv 16=((v/16:Nat):Int)from rfl,aT ST ST]
 have n2:((v/16:Nat):Int).tmod 64=((gm v:Nat):Int):=rfl
 have n3:IntKind.i64.wrap ((v:Int).tdiv 1024)=((v/1024:Nat):Int):=by rw[show(v:Int).tdiv 1024=((v/1024:Nat):Int)from rfl,aT ST ST]
 have n4:IntKind.i64.wrap (1+((v/1024:Nat):Int).tmod 30)=((O6 v:Nat):Int):=by rw[show((v/1024:Nat):Int).tmod 30=((v/1024%30:Nat):Int)from rfl,aT ST ST];rfl
 have n5:(v:Int).tmod 16=((v%16:Nat):Int):=rfl
 try simp only[I,RY,↓KW,seval,h2,h3,hy,hb,aE,an]
 refine ah cP ?_;try simp only[I,RY,↓KW,seval,n1,n2,n3,n4,n5]
 apply Z4 (λy:Sc×On=>(⟨[(9,.dat (I i) none),(0,.dat (aI aE l) none),(1,.dat (B wild) none),(5,br Fr.cells out 0),(6,.ptr 6 0),(7,.dat (I y.1.Ah) none),(8,.ptr 9 0),(12,.dat (I y.2.n) none),(13,.ptr 429 0)],[(6,⟨y.1.xs.map fv,[]⟩),(9,⟨xC y.1,[]⟩),(429,⟨uH y.2,[]⟩)],bG out 0 e2,500⟩:S)) (λy=>y=ic wild v c)
 ·intro L
  have ae:=ar.1.xs
  have dx:(v:Int).tdiv 1024=((v/1024:Nat):Int):=rfl
  have b8:((gm v:Nat):Int).tmod 16=((gm v%16:Nat):Int):=rfl
  have m6:((gm v:Nat):Int).tmod 6=((gm v%6:Nat):Int):=rfl
  have m4:((gm v:Nat):Int).tmod 4=((gm v%4:Nat):Int):=rfl
  have m2:((gm v:Nat):Int).tmod 2=((gm v%2:Nat):Int):=rfl
  have c0:((gm v:Nat):Int).tmod 17=((gm v%17:Nat):Int):=rfl
  have b3:((v/1024:Nat):Int).tmod 256=((v/1024%256:Nat):Int):=rfl
  have cp:c.xs[gm v%16]? =some (c.xs.getD (gm v%16) none):=by rw[fi,et ST];rfl
  have x6:([.d8,.float .f64 9218868437227405312,.float .f64 9223372036854775808,.float .f64 4613937818241073152,.float .f64 4711630319722168320,.float .f64 4604930618986332160]:List AV)[gm v%6]? =some (fv (six.getD (gm v%6) none)):=Z8 (xs:=six) (by show gm v%6<6;omega)
  have sb:=Z6 (c.xs.getD (gm v%16) none)
  have st:=λx=>O7 (xs:=c.xs) (k:=gm v%16) (x:=x) ST
  have cv:0<=((gm v%16:Nat):Int)/\((gm v%16:Nat):Int)<16:=ST
  have b6:0<=((gm v%6:Nat):Int)/\((gm v%6:Nat):Int)<6:=ST
  have b5:gm v%16+1<=c.xs.length:=ST
  have ci:setCells [.bF,.int .i64 0,.int .i64 0,.int .i64 0,.int .i64 0,.bool false] 0 [.bF,.int .i64 0,.int .i64 0,.int .i64 0,.int .i64 0,.bool false]=uH (oV v):=rfl
  have sf:∀(c:Sc) (x:Int),(xC c).length=6/\(xC c)[2]? =some (I c.ask)/\(xC c)[3]? =some (I c.lines)/\setCells (xC c) 2 [I x]=xC {c with ask:=x}/\setCells (xC c) 3 [I x]=xC {c with lines:=x}:=λ_ _=>⟨rfl,rfl,rfl,rfl,rfl⟩
  have c5:=λc=>(sf c 0).1
  have cy:=λc=>(sf c 0).2.1
  have dd:=λc=>(sf c 0).2.2.1
  have so:∀(o:On) (x:Int),setCells (uH o) 1 [I x]=uH {o with push:=x}/\setCells (uH o) 3 [I x]=uH {o with lines:=x}/\setCells (uH o) 4 [I x]=uH {o with sX:=x}:=λ_ _=>⟨rfl,rfl,rfl⟩
  have ce:∀(o:On) (x:Bool),setCells (uH o) 5 [B x]=uH {o with reset:=x}:=λ_ _=>rfl
  have co:∀o:On,(uH o).length=6:=λ_=>rfl
  have s4:IntKind.i64.wrap (1*2^min (IntKind.u64.wrap ((gm v%4:Nat):Int)).toNat IntKind.i64.bits)=2^(gm v%4)/\0<=IntKind.u64.wrap ((gm v%4:Nat):Int):=by
   have:gm v%4=0\/gm v%4=1\/gm v%4=2\/gm v%4=3:=ST
   rcases this with h|h|h|h<;>rw[h]<;>decide
  have dq:gm v<64:=by unfold gm;omega
  have s5:IntKind.u64.wrap ((gm v:Nat):Int)=((gm v:Nat):Int):=by
   rw[IntKind.wrap];simp[IntKind.signed,IntKind.bits];omega
  have s6:IntKind.i64.wrap (256*2^min (gm v) IntKind.i64.bits)=WC (gm v):=rfl
  have s7:0<=((gm v:Nat):Int):=ST
  have n6:IntKind.i64.wrap (((O6 v:Nat):Int)*6)=((O6 v*6:Nat):Int):=by
   have:O6 v<=30:=by unfold O6;omega
   rw[aT ST ST];omega
  have tn:((gm v:Nat):Int).toNat=gm v:=rfl
  have pf:∀ps,t9 0 1 (some .d8) (some ps)=some ((0,[.d8])::ps):=λ_=>rfl
  have am:=cG pf (cG s4.1 (cG s5 (cG s6 (cG s7 (cG tn (cG n6 (cG n3 (cG b8 (cG m6 (cG m4 (cG m2 (cG c0 (cG b3 (cG cp (cG x6 (cG sb (cG st (cG cv (cG b6 (cG ae (cG b5 (cG Z7 (cG O5 (cG ci (cG sf (cG c5 (cG cy (cG dd (cG so (cG ce (cG co (an))))))))))))))))))))))))))))))))
  rcases Kv v with e|e|e|e|e|e|e|e|e|e|e|e|e|e|e|e
  all_goals
   rw[e];try simp only[I,RY,↓KW,seval,am]
  iterate 3
   ·refine⟨ST,?_⟩
    have R:ic wild v c=({c with xs:=c.xs.set (gm v%16) (f20 (c.xs.getD (gm v%16) none))},oV v):=by simp[ic,e]
    refine L _ _ R.symm ?_
    by_cases O:out=[]
    all_goals refine ai Ts ?_ ?_ ?_ ?_<;>simp[LX,I,B,oV,xC,uH,O,br,bG]
  ·refine ah hN ?_
   try simp only[RY,↓KW,seval]
   refine ah hI ?_;try simp only[RY,↓KW,seval]
   refine ah hC ?_;try simp only[RY,↓KW,seval,am]
   refine⟨ST,?_⟩
   have R:ic wild v c=({c with xs:=c.xs.set (gm v%16) (six.getD (gm v%6) none)},oV v):=by simp[ic,e]
   refine L _ _ R.symm ?_
   by_cases O:out=[]
   all_goals refine ai Ts ?_ ?_ ?_ ?_<;>simp[LX,I,B,oV,xC,uH,O,br,bG]
  iterate 2
   ·have R:ic wild v c=(c,{oV v with push:=(v/1024%256:Nat)}):=by simp[ic,e]
    refine L _ _ R.symm ?_
    by_cases O:out=[]
    all_goals refine ai Ts ?_ ?_ ?_ ?_<;>simp[LX,I,B,oV,xC,uH,O,br,bG]
  ·refine⟨s4.2,?_⟩
   have R:ic wild v c=({c with ask:=Lv .i64 c.ask (2^(gm v%4))},oV v):=by simp[ic,e]
   refine L _ _ R.symm ?_
   by_cases O:out=[]
   all_goals refine ai Ts ?_ ?_ ?_ ?_<;>simp[LX,I,B,oV,xC,uH,O,br,bG]
  ·refine⟨s4.2,?_⟩
   have R:ic wild v c=(c,{oV v with lines:=2^(gm v%4)}):=by simp[ic,e]
   refine L _ _ R.symm ?_
   by_cases O:out=[]
   all_goals refine ai Ts ?_ ?_ ?_ ?_<;>simp[LX,I,B,oV,xC,uH,O,br,bG]
  ·refine⟨s4.2,?_⟩
   have R:ic wild v c=({c with lines:=Lv .i64 c.lines (2^(gm v%4))},oV v):=by simp[ic,e]
   refine L _ _ R.symm ?_
   by_cases O:out=[]
   all_goals refine ai Ts ?_ ?_ ?_ ?_<;>simp[LX,I,B,oV,xC,uH,O,br,bG]
  ·have R:ic wild v c=(c,{oV v with n:=O6 v*6}):=by simp[ic,e]
   refine L _ _ R.symm ?_
   by_cases O:out=[]
   all_goals refine ai Ts ?_ ?_ ?_ ?_<;>simp[LX,I,B,oV,xC,uH,O,br,bG]
  ·have R:ic wild v c=({c with xs:=List.replicate 16 (some (FloatKind.f64.nearest (gm v%2*20:Nat)))},oV v):=by simp[ic,e]
   have n7:IntKind.i64.wrap (((gm v%2:Nat):Int)*20)=((gm v%2*20:Nat):Int):=by rw[aT ST ST];omega
   obtain⟨w,hw⟩:∃w,FloatKind.f64.nearest (gm v%2*20:Nat)=w:=⟨_,rfl⟩
   rw[hw]at R
   refine aN (λd:Nat=>(⟨[(14,.dat (I d) none),(9,.dat (I i) none),(0,.dat (aI aE l) none),(1,.dat (B wild) none),(5,br Fr.cells out 0),(6,.ptr 6 0),(7,.dat (I c.Ah) none),(8,.ptr 9 0),(11,.dat (I (gm v)) none),(12,.dat (I (O6 v)) none),(13,.ptr 429 0)],[(6,⟨(HQ c.xs w d).map fv,[]⟩),(9,⟨xC c,[]⟩),(429,⟨uH (oV v),[]⟩)],bG out 0 e2,460⟩:S)) (λd=>16-d) (λd=>d<=16) ?_ 0 ST ?_
   rotate_left
   ·by_cases O:out=[]
    all_goals refine ai Ts ?_ ?_ ?_ ?_<;>simp[LX,I,B,O8,oV,xC,uH,O,br,bG]
   intro d hd A3 V
   have cr:=aG (k:=d) ST
   rcases bc (decide ((d:Int)<16))with g|g
   ·have b4:d=16:=by have:=dC g;omega
    subst b4
    have db:HQ c.xs w 16=List.replicate 16 (some w):=by have:=SD (xs:=c.xs) w;rw[ae]at this;exact this
    rw[db];try simp only[I,B,RY,↓KW,seval]
    refine L _ _ R.symm ?_
    by_cases O:out=[]
    all_goals refine ai Ts ?_ ?_ ?_ ?_<;>simp[LX,I,B,oV,xC,uH,O,br,bG]
   ·have du:d<16:=by have:=dE g;omega
    have a6:0<=(d:Int)/\(d:Int)<16:=ST
    have c6:(HQ c.xs w d).length=16:=by rw[SC w ST];exact ae
    have al:=O7 (xs:=HQ c.xs w d) (k:=d) (x:=some w) ST
    rw[SB w ST]at al
    have al:setCells ((HQ c.xs w d).map fv) d [.float .f64 w]=(HQ c.xs w (d+1)).map fv:=al
    try simp only[I,B,RY,↓KW,seval,a6,al,c6,n7,hw,am]
    refine⟨ST,V (d+1) _ ST ST ?_⟩
    by_cases O:out=[]
    all_goals refine ai Ts ?_ ?_ ?_ ?_<;>simp[LX,I,B,cr,oV,xC,uH,O,br,bG]
  ·have R:ic wild v c=({c with Ah:=gm v%17},oV v):=by simp[ic,e]
   refine L _ _ R.symm ?_
   by_cases O:out=[]
   all_goals refine ai Ts ?_ ?_ ?_ ?_<;>simp[LX,I,B,oV,xC,uH,O,br,bG]
  ·have R:ic wild v c=({c with Ah:=16,lines:=0},oV v):=by simp[ic,e]
   refine L _ _ R.symm ?_
   by_cases O:out=[]
   all_goals refine ai Ts ?_ ?_ ?_ ?_<;>simp[LX,I,B,oV,xC,uH,O,br,bG]
  ·have R:ic wild v c=(c,{oV v with push:=if wild&&gm v%4==0 then WC (gm v)else 0,sX:=if wild&&gm v%4==1 then(v/1024%256:Nat)else 0,reset:=wild&&gm v%2==0}):=by simp[ic,e]
   have e0:(((gm v%4:Nat):Int)==0)=(gm v%4==0):=by rw[xn];simp;omega
   have e1:(((gm v%4:Nat):Int)==1)=(gm v%4==1):=by rw[xn];simp;omega
   have e2:(((gm v%2:Nat):Int)==0)=(gm v%2==0):=by rw[xn];simp;omega
   obtain⟨b0,ck⟩:∃b,(gm v%4==0)=b:=⟨_,rfl⟩
   obtain⟨b1,dj⟩:∃b,(gm v%4==1)=b:=⟨_,rfl⟩
   obtain⟨b2,a6⟩:∃b,(gm v%2==0)=b:=⟨_,rfl⟩
   rw[ck]at e0 R;rw[dj]at e1 R;rw[a6]at e2 R
   have bj:=cG e0 (cG e1 (cG e2 (cG s6 (am))))
   rcases bc wild with hw|hw<;>rcases bc b0 with g0|g0<;>rcases bc b1 with g1|g1<;>rcases bc b2 with g2|g2
   all_goals
    subst hw g0 g1 g2;try simp only[RY,↓KW,seval,bj]
    try refine⟨s7,?_⟩
    try try simp only[I,B,D,RY,↓KW,seval,bj]
    refine L _ _ R.symm ?_
    by_cases O:out=[]
    all_goals refine ai Ts ?_ ?_ ?_ ?_<;>simp[LX,I,B,oV,xC,uH,O,br,bG]
  iterate 2
   ·have R:ic wild v c=(c,oV v):=by simp[ic,e]
    refine L _ _ R.symm ?_
    by_cases O:out=[]
    all_goals refine ai Ts ?_ ?_ ?_ ?_<;>simp[LX,I,B,oV,xC,uH,O,br,bG]
 ·rintro _ rfl
  obtain⟨a5,cu⟩:=E7 (wild:=wild) (v:=v) ar.1
  rw[Ku]at aa;simp only at aa;generalize ic wild v c=y at*;obtain⟨M,o⟩:=y;simp only at a5 cu aa
  have ae:=a5.xs
  have dt:=a5.Ah
  have bm:=DR M.Ah M.xs ST
  rw[List.map_take]at bm
  have df:∀c:Sc,(xC c).length=6/\(xC c)[2]? =some (I c.ask)/\(xC c)[3]? =some (I c.lines):=λ_=>⟨rfl,rfl,rfl⟩
  have c4:∀o:On,(uH o).length=6/\(uH o)[1]? =some (I o.push)/\(uH o)[3]? =some (I o.lines)/\(uH o)[4]? =some (I o.sX)/\(uH o)[5]? =some (B o.reset):=λ_=>⟨rfl,rfl,rfl,rfl,rfl⟩
  have ac:aI mO (dB (M.xs.take M.Ah))=if M.Ah=0 then .bF else .sl ((M.xs.take M.Ah).map mO):=by
   unfold dB
   by_cases h0:M.Ah=0
   ·simp[h0,aI]
   ·have:¬(M.xs.take M.Ah=[]):=by intro h;have:=pb List.length h;rw[GE]at this;simp only[ge]at this;omega
    simp[h0,this,aI]
  obtain⟨ad,a9⟩:∃x,aI mO (dB (M.xs.take M.Ah))=x:=⟨_,rfl⟩
  rw[a9]at ac
  have da:∀j,(mZ M o j).cells=[ad,I (if j=0 then o.push else 0),I M.ask,I (if j=0 then qV .i64 M.lines o.lines else M.lines),I (if j=0 then o.sX else 0),B (if j=0 then o.reset else false)]:=λj=>by rw[<-a9];rfl
  have ct:out++(List.range 0).map (mZ M o)=out:=TB
  try simp only[I,B,RY,↓KW,seval,ae]
  refine⟨⟨ST,ST⟩,⟨ST,ST⟩,?_⟩
  rcases bc (M.Ah==0)with h0|h0
  all_goals
   first|rw[fx (by simpa using h0)]at ac|rw[gc (by simpa using h0)]at ac
   try simp only[RY,↓KW,seval,h0,<-ac]
   refine aN (λj:Nat=>(⟨[(16,.dat (I j) none),(12,.dat (I o.n) none),(15,.dat (ad) none),(9,.dat (I i) none),(0,.dat (aI aE l) none),(1,.dat (B wild) none),(5,br Fr.cells (out++(List.range j).map (mZ M o)) 0),(6,.ptr 6 0),(7,.dat (I M.Ah) none),(8,.ptr 9 0),(13,.ptr 429 0)],[(6,⟨M.xs.map fv,[]⟩),(9,⟨xC M,[]⟩),(429,⟨uH o,[]⟩)],bG (out++(List.range j).map (mZ M o)) 0 e2,600⟩:S)) (λj=>200-j) (λj=>j<=min o.n (1500-out.length)) ?_ 0 ST ?_
   rotate_left
   ·rw[ct]
    by_cases O:out=[]
    all_goals refine ai Ts ?_ ?_ ?_ ?_<;>simp[LX,I,B,ac,bm,O,br,bG]
   intro j hj A3 V
   have cb:=aG (k:=j) ST
   have ao:=da j
   have dk:(List.range (j+1)).map (mZ M o)=(List.range j).map (mZ M o)++[mZ M o j]:=by simp[lm]
   have a4:(out++(List.range j).map (mZ M o)).length=out.length+j:=TB
   have bo:out++(List.range (j+1)).map (mZ M o)=(out++(List.range j).map (mZ M o))++[mZ M o j]:=by rw[dk,List.append_assoc]
   have bs:Co M o out=out++(List.range (min o.n (1500-out.length))).map (mZ M o):=rfl
   have dp:Ll (some (br Fr.cells (out++(List.range j).map (mZ M o)) 0))=some (aI Fr.cells (dB (out++(List.range j).map (mZ M o)))):=Kw ..
   have a8:vI (aI Fr.cells (dB (out++(List.range j).map (mZ M o))))=some (I (out++(List.range j).map (mZ M o)).length):=Kx ..
   have ak:j=min o.n (1500-out.length)->iS wild (l.getD []) (i+1)=(M,out++(List.range j).map (mZ M o)):=by intro h;rw[aa,bs,<-h]
   have ba:=λk=>Ht Fr.cells (out++(List.range j).map (mZ M o)) 0 k
   rw[a4]at a8 ba;generalize hq:out++(List.range j).map (mZ M o)=q at*;generalize mZ M o j=fr at*
   have a7:=cG c4 (cG df (cG cb (cG dp (cG a8 (cG ba (an))))))
   try simp only[I,B,RY,↓KW,seval]
   rcases bc (decide ((j:Int)<((o.n:Nat):Int)))with g1|g1
   ·try simp only[RY,↓KW,seval,g1]
    refine back (i+1) _ ST ST ?_
    have he:=ak (by have:=dC g1;omega)
    by_cases O:q=[]
    all_goals refine ai Ts ?_ ?_ ?_ ?_<;>simp[LX,I,B,be,he,O,br,bG]
   rcases bc (decide (((out.length+j:Nat):Int)<1500))with g2|g2
   ·try simp only[I,RY,↓KW,seval,g1,g2,a7]
    refine back (i+1) _ ST ST ?_
    have he:=ak (by have:=dC g2;omega)
    by_cases O:q=[]
    all_goals refine ai Ts ?_ ?_ ?_ ?_<;>simp[LX,I,B,be,he,O,br,bG]
   have c1:=dE g1
   have c3:=dE g2
   have bi:∀a b c d e g a' b' c' d' e' g':AV,setCells [a,b,c,d,e,g] 0 [a',b',c',d',e',g']=[a',b',c',d',e',g']:=λ_ _ _ _ _ _ _ _ _ _ _ _=>rfl
   have b7:∀a b c d e g h:AV,setCells [a,b,c,d,e,g] 1 [h]=[a,h,c,d,e,g]/\setCells [a,b,c,d,e,g] 3 [h]=[a,b,c,h,e,g]/\setCells [a,b,c,d,e,g] 4 [h]=[a,b,c,d,h,g]/\setCells [a,b,c,d,e,g] 5 [h]=[a,b,c,d,e,h]:=λ_ _ _ _ _ _ _=>⟨rfl,rfl,rfl,rfl⟩
   have bd:ad.cells=[ad]/\iL ad none=true:=by rw[ac];first|exact⟨rfl,rfl⟩|(split<;>exact⟨rfl,rfl⟩)
   rcases bc ((j:Int)==0)with z|z
   ·have au:¬j=0:=by intro h;rw[h]at z;simp at z
    simp only[fx au]at ao
    by_cases O:q=[]
    all_goals
     try simp only[I,RY,↓KW,seval,g1,g2,z,br,bG,O,bd,bi,a4,a7]
     first
      |refine V (j+1) _ ST ST ?_
      |refine⟨ST,λ_ _=>rfl,V (j+1) _ ST ST ?_⟩
     refine ai Ts ?_ ?_ ?_ ?_<;>simp[LX,I,B,bo,ao,O,br,bG]
   ·have au:j=0:=by simpa using z
    simp only[gc au]at ao
    by_cases O:q=[]
    all_goals
     try simp only[I,B,RY,↓KW,seval,g1,g2,z,br,bG,O,bd,bi,b7,a4,a7]
     first
      |refine V (j+1) _ ST ST ?_
      |refine⟨ST,λ_ _=>rfl,V (j+1) _ ST ST ?_⟩
     refine ai Ts ?_ ?_ ?_ ?_<;>simp[LX,I,B,bo,ao,O,br,bG]
end
section
variable (t:Tb) (c:Cs) (h p g:Int) (C:bk) (s:bA) (w:Int) (wild:Bool) (A:List Fr) (f i:Nat) (l:List Int) (x:vA)
theorem vB:tb (gu t c h p g w).Dq i=(decide (i<8)&&((aD t i).on&&Be g c h i (aD t i))):=by
 simp only[gu];rw[wI _ _ 8 ST,ED]
theorem nJ:tb (gu t c h p g w).dz i=(decide (i<8)&&((aD t i).on&&pM w c p i (aD t i))):=by
 simp only[gu];rw[wI _ _ 8 ST,ED]
theorem E8:tb (Bf t c h) i=(decide (i<8)&&((aD t i).on&&rU c (zl t h) i (aD t i))):=by
 simp only[Bf];rw[wI _ _ 8 ST,ED]
theorem mR{x:Int} (h:x=0):(x !=0)=false:=by simp[h]
theorem I7{t:Tb} {c:Cs} {h p g w:Int} (D:∀i,(tb c.Dq i=true->(decide (i<8)&&(aD t i).on)=true)/\(tb c.dz i=true->(decide (i<8)&&((aD t i).on&&decide (0<(aD t i).walk)))=true)):
  (dh .i64 (bg .i64 (bg .i64 c.Dq g) (gu t c h p g w).Dq) 255 !=0)=false/\
  (dh .i64 (bg .i64 (bg .i64 c.dz w) (gu t c h p g w).dz) 255 !=0)=false/\
  (dh .i64 (gu t c h p g w).Dq g !=0)=false/\
  (dh .i64 (gu t c h p g w).dz w !=0)=false/\
  (bg .i64 (qV .i64 (gu t c h p g w).Dq (gu t c h p g w).dz) (qW t) !=0)=false/\
  (bg .i64 (Bf t (gu t c h p g w) h) (qW t) !=0)=false/\
  (bg .i64 (qV .i64 (gu t c h p g w).Dq (gu t c h p g w).dz) (Bf t (gu t c h p g w) h) !=0)=false/\
  ∀i,(tb (gu t c h p g w).Dq i=true->(decide (i<8)&&(aD t i).on)=true)/\(tb (gu t c h p g w).dz i=true->(decide (i<8)&&((aD t i).on&&decide (0<(aD t i).walk)))=true):=by
 refine⟨mR (and_zero.2 λi B=>?_),mR (and_zero.2 λi B=>?_),mR (and_zero.2 λi B=>?_),mR (and_zero.2 λi B=>?_),mR (kD.2 λi B=>?_),mR (kD.2 λi B=>?_),mR (kD.2 λi B=>?_),λi=>?_⟩
 ·rw[gX _ _ _ B,gX _ _ _ B,nW]
  by_cases A:i<8
  ·have:=(D i).1
   rw[vB];simp only[Be,eF A,A,Hk]at this⊢;revert this
   cases tb c.Dq i<;>cases tb g i<;>simp_all
  ·simp[A]
 ·rw[gX _ _ _ B,gX _ _ _ B,nW]
  by_cases A:i<8
  ·have:=(D i).2
   rw[nJ];simp only[pM,eF A,A,Hk]at this⊢;revert this
   cases tb c.dz i<;>cases tb w i<;>simp_all
  ·simp[A]
 ·by_cases A:i<8
  ·rw[vB];simp only[Be,eF A]
   cases tb g i<;>simp
  ·rw[vB];simp[A]
 ·by_cases A:i<8
  ·rw[nJ];simp only[pM,eF A]
   cases tb w i<;>simp
  ·rw[nJ];simp[A]
 ·rw[uw,vB,nJ,JZ]
  cases decide (i<8)<;>cases(aD t i).on<;>simp
 ·rw[E8,JZ]
  cases decide (i<8)<;>cases(aD t i).on<;>simp
 ·by_cases A:i<8
  ·rw[uw,E8];simp only[rU,eF A]
   have M:tb (gu t c h p g w).dz i=true->(decide (0<(aD t i).walk))=true:=by
    rw[nJ];simp[pM];intros;assumption
   have O:tb (gu t c h p g w).Dq i=true->(aD t i).on=true:=by rw[vB];simp;intros;assumption
   have L:tb (gu t c h p g w).dz i=true->(aD t i).on=true:=by rw[nJ];simp;intros;assumption
   cases V:tb (gu t c h p g w).Dq i<;>cases R:tb (gu t c h p g w).dz i<;>simp_all
  ·rw[uw,vB,nJ];simp[A]
 ·constructor
  ·rw[vB];simp;intros;simp_all
  ·rw[nJ];simp[pM];intros;simp_all
def Fr.Pb(x:Fr):vA:=⟨x.samples,x.push,x.ask,x.lines⟩
def runT(t:Tb) (A:List Fr):Nat->bA
 |0=>tY t
 |i+1=>iJ t (runT t A i) (A.getD i default).Pb
theorem I8:(iJ t s x).Ok:=⟨yD ..,by simp[iJ,rdE,su,sq],DL⟩
theorem Mm:((iJ t s x).iq.getD []).length=Wu t:=by
 rw[iJ,Cn,de];simp[nI]
theorem SE:∀i,(runT t A i).Ok
 |0=>lO t
 |i+1=>I8 ..
theorem I9(h:Wu t<=1000000):∀i,((runT t A i).iq.getD []).length<=1000000
 |0=>by simp[runT,tY,jC]
 |i+1=>by rw[runT,Mm];exact h
def xD.Spec:Prop:=∀x:Fr,C.c f [.agg x.cells] (.agg x.Pb.cells) none
def xE.Spec:Prop:=C.c f [] (B true) none
def Few:Prop:=∀x∈A,(x.samples.getD []).length<=1000000
theorem Pc{wild:Bool} {l:List Int}:∀i,Few (iS wild l i).2
 |0=>λx A=>by simp[iS]at A
 |i+1=>by
  have D:=Pc (wild:=wild) (l:=l) i
  have B:=(Ai wild l i).1
  rw[iS];split
  ·intro x A
   simp only[Ku,Co,ka,kp]at A
   rcases A with A|⟨j,_,rfl⟩
   ·exact D x A
   ·have:=(E7 (wild:=wild) (v:=WD l i) B).1.xs
    simp only[mZ,de,GE];omega
  ·exact D
theorem Ja:Few (pX wild l):=Pc _
theorem Jb:(pX wild l).length<=1500:=(Ai wild l _).2
def WE:Ph:=⟨true,1,0,1,1,0,10,0,0,0,1,false,false⟩
def sY:Tb:={lu with phases:=WE::List.replicate 7 default}
def sZ:Tb:={sY with dc:=1::List.replicate 7 0}
def gE:Tb:={sZ with groups:=some [⟨some [0],none⟩]}
theorem Cq:gE.Ok:=⟨rfl,rfl,rfl,by simp[gE],by simp[gE],by simp[gE,sZ,sY,lu],by simp[gE,sZ,sY,lu],by simp[gE,sZ,sY,lu]⟩
theorem Pd:gE.Fw:=λd hd=>by simp[gE,sZ,sY,lu]at hd
theorem WG:(HO λp=>ej ((tY gE).rn p))=0:=by decide+kernel
theorem WH:(HO λp=>ej ((iJ gE (tY gE) ⟨none,0,0,0⟩).rn p))=1:=by decide+kernel
end
section
variable{P:Program} (hm:P.follows .mixedOrders=true) {f:Nat}
include hm
theorem xD.ok(A:bY P f=some sV):xD.Spec (Pure P) f:=by
 intro x;refine aq hm A [] rfl ?_;try simp only[I,B,RX,↓KW,seval,sV,Z.H,Fr.cells]
 have D:∀q,iL (aI mO x.samples) q=true:=by intro q;cases x.samples<;>rfl
 have A:(aI mO x.samples).cells=[aI mO x.samples]:=by cases x.samples<;>rfl
 try simp only[RX,↓KW,seval,D,A]
 rfl
theorem xE.ok{e e2 D M V:Nat} (hc:bY P f=some (mN e e2 D M V)) (hB:z9.Spec (Pure P) D) (hG:tS.Spec (Pure P) M) (hS:yE.Spec (Pure P) V):xE.Spec (Pure P) f:=by
 show(Pure P).c f [] (B true) none
 have L:=Cq.ln.whole
 have h0:gK.length=131/\sY.cells.length=131/\sZ.cells.length=131:=⟨rfl,rfl,rfl⟩
 have A:setCells gK 0 WE.cells=sY.cells:=rfl
 simp only[WE,Ph.cells,B,I]at A
 have h2:setCells sY.cells 121 [I 1]=sZ.cells:=rfl
 have h3:setCells sZ.cells 104 [.sl [[.sl [[I 0]],.bF]]]=gE.cells:=rfl
 have R:=bA.len (lO gE)
 have b2:=bA.whole (lO gE)
 have b3:setCells cQ 0 (tY gE).cells=(tY gE).cells:=gB (by rw[R];rfl)
 have b4:cQ.length=117:=rfl
 have O:=hG (tY gE) (lO gE)
 rw[WG]at O
 have cS:=hS gE (tY gE) ⟨none,0,0,0⟩ Cq Pd Ts (lO gE) Ts Ts
 have cH:=hG _ (I8 gE (tY gE) ⟨none,0,0,0⟩)
 rw[WH]at cH;refine aq hm hc [] rfl ?_;try simp only[B,RY,↓KW,seval,mN,Z.H,L,h0,A,h2,h3,f8]
 refine ah (hB gE Cq.ln) ?_;try simp only[RY,↓KW,seval,A,h2,h3,R,b2,b3,b4]
 refine ah O ?_;try simp only[I,RY,↓KW,seval,L,b2,b3]
 refine ah cS ?_;try simp only[RY,↓KW,seval]
 refine ah cH ?_;try simp only[I,RY,↓KW,seval]
 try rfl
end
section
variable (p:Ph) (r:Rn) {l:List Rn} {t:Tb} {x y:Pr} (c:Cu)
structure SF (t:Tb) (x:Pr):Prop where
 rng:0<=x.ax/\x.ax<6
 which:x.ax≠0->0<=x.which/\x.which<(nR t:Int)
 zero:x.ax=0->x.which=0
theorem DS(h:x.which=y.which):bq t x=bq t y:=by rw[bq,bq,h]
theorem Jc(h:x.which=y.which):iH t x l=iH t y l:=by rw[iH,iH,DS h]
theorem E9(h:x.which=y.which):gD t x l=gD t y l:=by rw[gD,gD,DS h]
theorem Hu(lines:Int) (l:List Rn) (h:SF t x):SF t (i9 t x lines l).1/\
  (((i9 t x lines l).2=⟨0,0,0,true,false⟩/\x.ax=0/\(i9 t x lines l).1.ax=0)\/
   ((i9 t x lines l).2=iH t x l/\x.ax=5/\(i9 t x lines l).1.ax=0/\gD t x l=0)\/
   (1<=(i9 t x lines l).1.ax/\(i9 t x lines l).1.ax<6/\(i9 t x lines l).2=mP t (i9 t x lines l).1 l (i9 t x lines l).1.ax)):=by
 have hx:=h.rng
 have hw:=h.which
 have hz:=h.zero
 have hu:CW (iR t x lines)=iR t x lines:=fx (by show ¬(x.ax<0\/6<=x.ax);omega)
 have R:(iR t x lines).ax=x.ax:=rfl
 have O:(iR t x lines).which=x.which:=rfl
 have hr:i9 t x lines l=i7 t (iR t x lines) l:=by rw[i9,Sw,hu]
 rw[hr]
 have e3:=Jc (t:=t) (l:=l) O
 have e4:=E9 (t:=t) (l:=l) O
 generalize iR t x lines=u at*;rw[<-R,<-O]at hw;rw[<-R]at hx;rw[<-R,<-O]at hz;rw[<-e3,<-e4,<-R];clear R O e3 e4 hr hu;unfold i7;split
 ·rename_i hk
  obtain⟨h1,h2⟩:=I3 hk
  have Z:=DM t u
  exact⟨⟨by show(0:Int)<=1/\(1:Int)<6;omega,λ_=>(by show 0<=aK t u/\aK t u<_;omega),λe=>(by cases e)⟩,.inr (.inr ⟨by show(1:Int)<=1;omega,by show(1:Int)<6;omega,rfl⟩)⟩
 ·split
  ·rename_i _ M
   have e:aC t u l=(gD t u l,u):=by rw[aC,fx ST,fx ST,fx ST,fx ST,fx ST]
   rw[e]at M⊢
   exact⟨⟨by show(0:Int)<=0/\(0:Int)<6;omega,λe=>absurd rfl e,λ_=>rfl⟩,.inr (.inl ⟨rfl,M.1,rfl,M.2⟩)⟩
  ·rename_i _ M
   have B:=j5 t u l
   have A:(aC t u l).1≠0->0<=(aC t u l).2.which/\(aC t u l).2.which<(nR t:Int):=by
    intro L
    have V:u.ax≠0:=by
     intro e
     apply L
     simp[aC,e]
    have hk:=hw V
    unfold aC
    repeat' split
    all_goals first|exact hk|skip
    unfold gY
    have aa:(ga t u).which=u.which:=by unfold ga;split<;>rfl
    split
    ·exact hk
    ·split
     ·rename_i h0
      have Z:=DM t (ga t u)
      exact⟨h0,by show aK t (ga t u)<_;omega⟩
     ·rw[aa];exact hk
   have hzero:(aC t u l).1=0->u.ax=0/\(aC t u l).2=u:=by
    intro D
    by_cases e:u.ax=0
    ·exact⟨e,by simp[aC,e]⟩
    exfalso;revert D M;simp only[aC,pW,nF,lX,gY]
    repeat' split
    all_goals(simp only[];omega)
   refine⟨⟨B,λL=>A L,λD=>?_⟩,?_⟩
   ·obtain⟨a,b⟩:=hzero D
    show(aC t u l).2.which=0
    rw[b];exact hz a
   ·by_cases D:(aC t u l).1=0
    ·obtain⟨a,b⟩:=hzero D
     refine .inl ⟨?_,a,D⟩
     show mP t _ l (aC t u l).1=_
     rw[D];rfl
    ·exact .inr (.inr ⟨by show 1<=(aC t u l).1;omega,B.2,rfl⟩)
structure Pe (p:Ph) (r:Rn):Prop where
 col:0<=r.ay/\r.ay<=3
 dz:0<=r.fst/\r.fst<=2
 stop:r.fst=0->r.bu=0
 off:r.ay≠1->r.fst=0
 done:r.ay=1->r.done=true->p.min<=r.time/\r.fst=0
theorem DT(st time:Int) (b:Bool):(ob p st time b=(2,1)/\st=1/\p.walk<=time)\/(ob p st time b=(0,0)/\st=2/\p.bR<=time)\/(ob p st time b=(1,bh time)/\st=1/\time<p.walk)\/(ob p st time b=(2,bh time)/\st=2/\time<p.bR)\/((ob p st time b=(1,1)\/ob p st time b=(0,0))/\st≠1/\st≠2):=by
 unfold ob
 by_cases A:st=1
 ·subst A
  by_cases h:time>=p.walk
  ·left;simp[h]
  ·right;right;left;simp[h];omega
 ·by_cases B:st=2
  ·subst B
   by_cases h:time>=p.bR
   ·right;left;simp[h]
   ·right;right;right;left;simp[h];omega
  ·right;right;right;right
   refine⟨?_,A,B⟩
   simp only[show(st==1)=false by simpa using A,show(st==2)=false by simpa using B,md,eQ,ik,Hb]
   split
   ·exact .inl rfl
   ·exact .inr rfl
theorem yF:(vt p r c=(2,1)/\r.fst=1/\(p.walk<=r.bu\/c.cut=true))\/(vt p r c=(0,0)/\r.fst=2/\p.bR<=r.bu)\/(vt p r c=(1,bh r.bu)/\r.fst=1/\r.bu<p.walk)\/(vt p r c=(2,bh r.bu)/\r.fst=2/\r.bu<p.bR)\/((vt p r c=(1,1)\/vt p r c=(0,0))/\r.fst≠1/\r.fst≠2):=by
 unfold vt;split
 ·rename_i h
  simp only[dT,lc]at h
  left
  exact⟨by rw[IP,h.2];rfl,h.2,.inr h.1⟩
 ·rcases DT p r.fst r.bu (c.push&& !c.bI)with⟨a,b,d⟩|h
  ·exact .inl ⟨a,b,.inl d⟩
  ·exact .inr h
theorem SG{x m:Int} (h:m<=x) (A:m<=9999):m<=bh x:=by
 have:bh x=iO x 0 9999+1:=aT (by unfold iO;split<;>(try split)<;>omega) (by unfold iO;split<;>(try split)<;>omega)
 rw[this];unfold iO;split
 ·omega
 ·split<;>omega
structure Z9 (p:Ph) (r:Rn) (c:Cu) (r':Rn):Prop where
 green:r.ay=1->c.fin=false->r'.ay=1/\r'.time=bh r.time/\r'.fst=(vt p r c).1/\r'.bu=(vt p r c).2
 fin:r.ay=1->c.fin=true->r'.ay=2/\r'.time=1/\r'.fst=0/\r'.bu=0
 bQ:r.ay=2->(r'.fst=0/\r'.bu=0)/\((r.time<p.bQ/\r'.ay=2/\r'.time=bh r.time)\/(p.bQ<=r.time/\0<p.red/\r'.ay=3/\r'.time=1)\/(p.bQ<=r.time/\p.red<=0/\r'.ay=0/\r'.time=1))
 clear:r.ay=3->(r'.fst=0/\r'.bu=0)/\((r.time<p.red/\r'.ay=3/\r'.time=bh r.time)\/(p.red<=r.time/\r'.ay=0/\r'.time=1))
 red:bD r=true->c.start=false->r'.ay=0/\r'.time=bh r.time/\r'.fst=0/\r'.bu=0
 start:bD r=true->c.start=true->r'.ay=1/\r'.time=1/\((r'.fst=1/\r'.bu=1)\/(r'.fst=0/\r'.bu=0))/\r'.done=false
theorem Jd:Z9 p r c (aL p r c):=by
 have B:bD r=true↔(r.ay≠1/\r.ay≠2/\r.ay≠3):=by simp[bD]
 constructor
 ·intro A D
  have e:aL p r c=eV p r c:=by simp[aL,A]
  rw[e,eV,D];simp only[eQ,ik];split
  ·exact⟨rfl,rfl,rfl,rfl⟩
  ·split<;>exact⟨rfl,rfl,rfl,rfl⟩
 ·intro A D
  have e:aL p r c=eV p r c:=by simp[aL,A]
  rw[e,eV,D];simp only[kv]
  split<;>exact⟨rfl,rfl,rfl,rfl⟩
 ·intro A
  have e:aL p r c=gZ p r:=by simp[aL,A]
  rw[e,gZ];split
  ·exact⟨⟨rfl,rfl⟩,.inl ⟨by assumption,rfl,rfl⟩⟩
  ·split
   ·exact⟨⟨rfl,rfl⟩,.inr (.inl ⟨ST,ST,rfl,rfl⟩)⟩
   ·exact⟨⟨rfl,rfl⟩,.inr (.inr ⟨ST,ST,rfl,rfl⟩)⟩
 ·intro A
  have e:aL p r c=k9 p r:=by simp[aL,A]
  rw[e,k9];split
  ·exact⟨⟨rfl,rfl⟩,.inl ⟨by assumption,rfl,rfl⟩⟩
  ·exact⟨⟨rfl,rfl⟩,.inr ⟨ST,rfl,rfl⟩⟩
 ·intro A D
  obtain⟨a,b,d⟩:=B.1 A
  have e:aL p r c=vu p r c:=by simp[aL,a,b,d]
  rw[e,vu,D];exact⟨rfl,rfl,rfl,rfl⟩
 ·intro A D
  obtain⟨a,b,d⟩:=B.1 A
  have e:aL p r c=vu p r c:=by simp[aL,a,b,d]
  rw[e,vu,D];simp only[kv];refine⟨rfl,rfl,?_,rfl⟩
  show((ob p 0 0 c.push).1=1/\(ob p 0 0 c.push).2=1)\/((ob p 0 0 c.push).1=0/\(ob p 0 0 c.push).2=0)
  rcases DT p 0 0 c.push with⟨_,h,_⟩|⟨_,h,_⟩|⟨_,h,_⟩|⟨_,h,_⟩|⟨h,_⟩
  ·cases h
  ·cases h
  ·cases h
  ·cases h
  ·rcases h with h|h<;>rw[h]<;>simp
theorem DU{r:Rn} (h:0<=r.ay/\r.ay<=3):(r.ay=0/\bD r=true)\/(r.ay=1/\bD r=false)\/(r.ay=2/\bD r=false)\/(r.ay=3/\bD r=false):=by
 have:r.ay=0\/r.ay=1\/r.ay=2\/r.ay=3:=ST
 rcases this with e|e|e|e<;>simp[bD,e]
theorem SH{p:Ph} {r:Rn} (hm:p.min<=9999) (h:Pe p r):Pe p (aL p r c):=by
 have o:=Jd p r c
 have hd:(aL p r c).ay=1->r.ay=1->c.fin=false->(aL p r c).done=true->p.min<=(aL p r c).time/\(aL p r c).fst=0:=by
  intro _ Z h2 O;obtain⟨g1,g2,g3,g4⟩:=o.green Z h2
  have hf:=yF p r c
  have e:aL p r c=eV p r c:=by simp[aL,Z]
  have A:(cV p (d5 p r c) c=true)\/(d5 p r c).done=true:=by
   rw[e,eV,h2]at O;simp only[eQ,ik]at O;split at O
   ·exact .inr O
   ·split at O
    ·rename_i hh;exact .inl hh
    ·exact .inr O
  rcases A with A|A
  ·simp only[cV,dT,gn,pA,eo,FS,beq_eq_false_iff_ne]at A
   obtain⟨⟨⟨_,V⟩,k2⟩,_⟩:=A
   refine⟨by rw[g2];exact V,?_⟩
   have k3:(vt p r c).1≠1/\(vt p r c).1≠2:=k2
   rw[g3]
   rcases hf with⟨a,_⟩|⟨a,_⟩|⟨a,_⟩|⟨a,_⟩|⟨a|a,_⟩<;>rw[a]at k3⊢<;>simp at k3⊢
  ·have B:(if bw p r c then false else r.done)=true:=A
   have M:bw p r c=false:=by
    cases D:bw p r c
    ·rfl
    ·rw[D]at B;cases B
   rw[M]at B;obtain⟨m1,m2⟩:=h.done Z B
   refine⟨by rw[g2];exact SG m1 hm,?_⟩
   rw[g3]
   have L:(vt p r c).1≠1:=by
    simp only[bw,eo,m2]at M
    simpa using M
   rcases hf with⟨a,b,_⟩|⟨a,b,_⟩|⟨a,b,_⟩|⟨a,b,_⟩|⟨a|a,_⟩
   ·omega
   ·rw[a]
   ·omega
   ·omega
   ·rw[a]at L;exact absurd rfl L
   ·rw[a]
 rcases DU h.col with⟨e,R⟩|⟨e,R⟩|⟨e,R⟩|⟨e,R⟩
 ·cases D:c.start
  ·obtain⟨a,b,d,g⟩:=o.red R D
   exact⟨ST,ST,λ_=>g,λ_=>d,λk=>ST⟩
  ·obtain⟨a,b,d,g⟩:=o.start R D
   exact⟨ST,ST,λk=>ST,λk=>ST,λ_ k=>by rw[g]at k;cases k⟩
 ·cases D:c.fin
  ·obtain⟨a,b,d,g⟩:=o.green e D
   refine⟨ST,?_,λk=>?_,λk=>absurd a k,λV k2=>hd V e D k2⟩
   ·rw[d]
    rcases yF p r c with⟨x,_⟩|⟨x,_⟩|⟨x,_⟩|⟨x,_⟩|⟨x|x,_⟩<;>rw[x]<;>simp
   ·rw[d]at k
    rw[g]
    rcases yF p r c with⟨x,_⟩|⟨x,_⟩|⟨x,_⟩|⟨x,_⟩|⟨x|x,_⟩<;>rw[x]at k⊢<;>simp at k⊢
  ·obtain⟨a,b,d,g⟩:=o.fin e D
   exact⟨ST,ST,λ_=>g,λ_=>d,λk=>ST⟩
 ·obtain⟨⟨d,g⟩,a⟩:=o.bQ e
  exact⟨ST,ST,λ_=>g,λ_=>d,λk=>ST⟩
 ·obtain⟨⟨d,g⟩,a⟩:=o.clear e
  exact⟨ST,ST,λ_=>g,λ_=>d,λk=>ST⟩
end
end Go.Eng
