/- Part 18 of the engine and its library. -/
import Derived.Test.YtjnbemnncjbmgaaGreatPk17
set_option linter.all false
set_option maxRecDepth 10000
set_option maxHeartbeats 4000000
namespace Go.Eng
open Go
section
variable{P:Program} (hm:P.follows .mixedOrders=true) {f:Nat}
include hm
theorem Of.ok{fL fS fR fE fB fT:Nat} (hc:bK P f=some (vp fL fS fR fE fB fT)) (hL:Hp.Spec (Pure P) fL) (hS:Cv.Spec (Pure P) fS) (hR:Aw.Spec (Pure P) fR) (hE:DA.Spec (Pure P) fE) (hB:NU.Spec (Pure P) fB) (hT:NV.Spec (Pure P) fT):Of.Spec (Pure P) f:=by
 intro t s lines l h
 have e1:=Tb.len h.t
 have e2:=Pr.len h.s
 have e3:=dW h.l
 have e4:=Tb.whole h.t
 have e5:=Pr.whole h.s
 have e6:=ir h.l
 have be:=hL t s lines h.t h.s
 have R:iH t s lines l=jK t (HY (iE t s lines)) l:=rfl
 have a6:nO t (iE t s lines) l:=eN h (NG t s lines)
 generalize iE t s lines=u at*
 have f1:=Pr.len a6.s
 have f2:=Pr.whole a6.s
 have ba:=XI a6 (z:=uE) rfl
 have f0:List.take 0 uE=[]:=rfl
 have fz:uE.length=235:=rfl
 obtain⟨n,hn,_,bd,a7,a8⟩:=hS
 have bi:setCells tf 0 n=n:=aM (by rw[hn];rfl)
 have bj:tf.length=12:=rfl
 have q0:=λ(v:Pr) (hv:v.held.length=4)=>XG (eN h hv)
 have q1:=λ(v:Pr) (hv:v.held.length=4)=>RR (eN h hv)
 have q2:=λ(v:Pr) (hv:v.held.length=4)=>LC (eN h hv)
 have q3:=λ(v:Pr) (hv:v.held.length=4)=>agN (eN h hv)
 have q4:=λ(v:Pr) (hv:v.held.length=4)=>XH (eN h hv)
 have q5:=λ(v:Pr) (hv:v.held.length=4)=>agO (eN h hv)
 have k8:∀v:Pr,v.held.length=4->setCells [I 0,I 0,I 0,I 0,I 0,I 0,I 0,I 0] 0 v.cells=v.cells:=λv hv=>aM (by rw[Pr.len hv];rfl)
 have kA:∀a:Ac,a.cells.length=5/\setCells [I 0,I 0,I 0,B false,B false] 0 a.cells=a.cells/\aB a.cells 0 (some 5)=some (.agg a.cells):=λa=>⟨rfl,rfl,rfl⟩
 have aa:=dC e1 (dC e2 (dC e3 (dC e4 (dC e5 (dC e6 (dC f1 (dC f2 (dC ba (dC f0 (dC fz (dC hn (dC bi (dC bj (dC kA ((@my AV))))))))))))))))
 refine aq hm hc [] rfl ?_;try simp only[I,RY,↓KW,seval,vp,Z.H,aa]
 refine af be ?_;try simp only[RY,↓KW,seval,aa]
 refine af bd ?_;try simp only[RY,↓KW,seval,aa]
 have u0:=q0 u a6.s
 have u1:=q1 u a6.s
 have u2:=q2 u a6.s
 obtain⟨v,hv⟩:∃v,HY u=v:=⟨_,rfl⟩
 have O:v.held.length=4:=by rw[<-hv,HY];split<;>exact a6.s
 have bm:0<=v.ax/\v.ax<6:=by rw[<-hv,HY];split<;>first|(show(0:Int)<=0/\(0:Int)<6;exact⟨adp,adp⟩)|omega
 rw[hv]at R
 obtain⟨k,hk⟩:∃k:Nat,v.ax=k:=⟨v.ax.toNat,ado⟩
 have bl:k<6:=ado
 have an:iw t v=(decide (aQ t v>=0)&&((k:Int)==0||((k:Int)==5||decide (aQ t v<v.which)))):=by rw[iw,hk]
 have v0:=q0 v O
 rw[hk]at v0
 have v1:=q1 v O
 have v2:=q2 v O
 have v3:=Pr.len O
 have v4:=Pr.whole O
 have ak:=dC v0 (dC v1 (dC v2 (dC v3 (v4))))
 have qs:(u.ax<0\/6<=u.ax->setCells (dM t u l) 131 [I 0]=dM t v l)/\(¬(u.ax<0\/6<=u.ax)->dM t u l=dM t v l):=
  ⟨λe=>by rw[q3 u a6.s 0,<-hv,HY,fp e],λe=>by rw[<-hv,HY,fb e]⟩
 cases hA:decide (u.ax<0);cases a9:decide (u.ax>=6)
 ·have e:v=u:=by rw[<-hv,HY,fb (by have:=dT hA;have:=dT a9;omega)]
  subst e
  have qs:True:=trivial
  rw[hk]at hA a9;try simp only[I,RY,↓KW,seval,hA,a9,ak,aa]
  refine af (hR t v h.t O) ?_;try simp only[I,RY,↓KW,seval]
  cases c1:decide (aQ t v>=0)
  ·have ac:iw t v=false:=by rw[an,c1];rfl
   have c2:True:=trivial
   have c3:True:=trivial
   have c4:True:=trivial
   obtain⟨g,hg,ao⟩:=a7 k ado
   have ae:=ao t v l (eN h O) hk
   have V:=qd (t:=t) (l:=l) O
   have hr:=mX t v l
   have am:jK t v l=if v.ax=5/\(aF t v l).1=0 then({(aF t v l).2 with ax:=0,which:=0,time:=0},jv t (aF t v l).2 l)
    else(iL t (aF t v l).2 l (aF t v l).1 v.ax,mD t (iL t (aF t v l).2 l (aF t v l).1 v.ax) l (aF t v l).1):=fb (by rw[ac];decide)
   rw[am]at R;generalize(aF t v l).2=w at*
   obtain⟨j,hj⟩:∃j:Nat,(aF t v l).1=j:=⟨(aF t v l).1.toNat,ado⟩
   rw[hj]at ae R hr
   have a5:j<6:=ado
   have hy:0<=(k:Int)/\(k:Int)<6:=ado
   have a3:0<=(j:Int)/\(j:Int)<6:=ado
   have w0:=q0 w V
   have w1:=q1 w V
   have w2:=q2 w V
   have ag:=dC w0 (dC w1 (w2))
   try simp only[RY,↓KW,seval,hy,hg]
   refine⟨rfl,bp ae ?_⟩;try simp only[I,B,D,RY,↓KW,seval,qs,aa,ak,ag]
   cases d1:((k:Int)==5);rotate_left;cases d2:((j:Int)==0);rotate_left
   ·have s1:=q3 w V 0
    have s2:=q4 {w with ax:=0} V 0
    have s3:=q5 {w with ax:=0,which:=0} V 0
    obtain⟨y,ab⟩:∃y:Pr,y={w with ax:=0,which:=0,time:=0}:=⟨_,rfl⟩
    have L:y.held.length=4:=by rw[ab];exact V
    rw[<-ab]at s3 R
    have al:v.ax=5/\(j:Int)=0:=⟨by rw[hk];simpa using d1,by simpa using d2⟩
    rw[fp al]at R
    have y0:=q0 y L
    have y1:=q1 y L
    have y2:=q2 y L
    have y3:=Pr.len L
    have y4:=Pr.whole L
    have y5:=k8 y L
    have l1:=q2 {w with ax:=0} V
    have l2:=q2 {w with ax:=0,which:=0} V
    have M:=dC s1 (dC s2 (dC s3 (dC y0 (dC y1 (dC y2 (dC y3 (dC y4 (dC y5 (dC l1 (l2))))))))))
    try simp only[I,RY,↓KW,seval,d2]
    refine⟨rfl,bp (bY (hB t w l (eN h V)) rfl (gc rfl)) ?_⟩;try simp only[RY,↓KW,seval,aa,ag,M]
    refine ep rfl ?_;try simp only[RY,↓KW,seval,aa,M]
    rw[R]
   all_goals
    have al:¬(v.ax=5/\(j:Int)=0):=by
     rintro⟨a,b⟩
     rw[hk]at a;simp_all
    rw[fb al]at R;obtain⟨g2,a4,a2⟩:=a8 j a5
    have s1:=q3 w V j
    obtain⟨y,ab⟩:∃y:Pr,y=iL t w l j v.ax:=⟨_,rfl⟩
    have L:y.held.length=4:=by rw[ab];exact V
    have s2:∀x,x=p9 t {w with ax:=(j:Int)} l ((j:Int) !=(k:Int))->setCells (dM t {w with ax:=(j:Int)} l) 133 [I x]=dM t y l:=λx hx=>by
     rw[q5 {w with ax:=(j:Int)} V x,hx,ab,iL,hk]
    have ar:=s2 _ rfl
    rw[<-ab]at R
    have y0:=q0 y L
    have y1:=q1 y L
    have y2:=q2 y L
    have y3:=Pr.len L
    have y4:=Pr.whole L
    have y5:=k8 y L
    have l1:=q2 {w with ax:=(j:Int)} V
    have au:=hT t {w with ax:=(j:Int)} l ((j:Int) !=(k:Int)) (eN h V)
    have M:=dC s1 (dC ar (dC y0 (dC y1 (dC y2 (dC y3 (dC y4 (dC y5 (dC l1 (dC a3 (a4))))))))))
    try try simp only[I,RY,↓KW,seval,ag,M]
    try try simp only[RY,↓KW,seval,d2,ag,M]
    refine⟨rfl,bp (bY au rfl (gc rfl)) ?_⟩;try simp only[I,RY,↓KW,seval,M]
    refine kT [9] rfl ?_;try simp only[RY,↓KW,seval,M]
    refine⟨rfl,dH (bY (a2 t y l (eN h L)) rfl (gc rfl)) ?_⟩;try simp only[RY,seval,aa,M]
    rw[R]
  ·cases c2:((k:Int)==0)
   rotate_left
   ·have ac:iw t v=true:=by rw[an,c1,c2];rfl
    have c3:True:=trivial
    have c4:True:=trivial
    have s1:=q3 v O 1
    have s2:=q4 {v with ax:=1} O (aQ t v)
    have s3:=q5 {v with ax:=1,which:=aQ t v} O 0
    have ad:jK t v l=({v with ax:=1,which:=aQ t v,time:=0},om t {v with ax:=1,which:=aQ t v,time:=0} l):=fp ac
    obtain⟨y,hy⟩:∃y:Pr,y={v with ax:=1,which:=aQ t v,time:=0}:=⟨_,rfl⟩
    have L:y.held.length=4:=by rw[hy];exact O
    rw[<-hy]at ad s3
    have y0:=q0 y L
    have y1:=q1 y L
    have y2:=q2 y L
    have y3:=Pr.len L
    have y4:=Pr.whole L
    have y5:=k8 y L
    have l1:=q2 {v with ax:=1} O
    have l2:=q2 {v with ax:=1,which:=aQ t v} O
    have M:=dC s1 (dC s2 (dC s3 (dC y0 (dC y1 (dC y2 (dC y3 (dC y4 (dC y5 (dC l1 (l2))))))))))
    try simp only[RY,↓KW,seval,c2,ak,M]
    refine kT [5] rfl ?_;try simp only[RY,↓KW,seval,M]
    refine⟨rfl,dH (bY (hE t y l (eN h L)) rfl (gc rfl)) ?_⟩;try simp only[RY,seval,aa,M]
    rw[R,ad]
   ·cases c3:((k:Int)==5)
    rotate_left
    ·have ac:iw t v=true:=by rw[an,c1,c2,c3];rfl
     have c4:True:=trivial
     have s1:=q3 v O 1
     have s2:=q4 {v with ax:=1} O (aQ t v)
     have s3:=q5 {v with ax:=1,which:=aQ t v} O 0
     have ad:jK t v l=({v with ax:=1,which:=aQ t v,time:=0},om t {v with ax:=1,which:=aQ t v,time:=0} l):=fp ac
     obtain⟨y,hy⟩:∃y:Pr,y={v with ax:=1,which:=aQ t v,time:=0}:=⟨_,rfl⟩
     have L:y.held.length=4:=by rw[hy];exact O
     rw[<-hy]at ad s3
     have y0:=q0 y L
     have y1:=q1 y L
     have y2:=q2 y L
     have y3:=Pr.len L
     have y4:=Pr.whole L
     have y5:=k8 y L
     have l1:=q2 {v with ax:=1} O
     have l2:=q2 {v with ax:=1,which:=aQ t v} O
     have M:=dC s1 (dC s2 (dC s3 (dC y0 (dC y1 (dC y2 (dC y3 (dC y4 (dC y5 (dC l1 (l2))))))))))
     try simp only[RY,↓KW,seval,c2,c3,ak,M]
     refine kT [5] rfl ?_;try simp only[RY,↓KW,seval,M]
     refine⟨rfl,dH (bY (hE t y l (eN h L)) rfl (gc rfl)) ?_⟩;try simp only[RY,seval,aa,M]
     rw[R,ad]
    ·cases c4:decide (aQ t v<v.which)
     rotate_left
     ·have ac:iw t v=true:=by rw[an,c1,c2,c3,c4];rfl
      have s1:=q3 v O 1
      have s2:=q4 {v with ax:=1} O (aQ t v)
      have s3:=q5 {v with ax:=1,which:=aQ t v} O 0
      have ad:jK t v l=({v with ax:=1,which:=aQ t v,time:=0},om t {v with ax:=1,which:=aQ t v,time:=0} l):=fp ac
      obtain⟨y,hy⟩:∃y:Pr,y={v with ax:=1,which:=aQ t v,time:=0}:=⟨_,rfl⟩
      have L:y.held.length=4:=by rw[hy];exact O
      rw[<-hy]at ad s3
      have y0:=q0 y L
      have y1:=q1 y L
      have y2:=q2 y L
      have y3:=Pr.len L
      have y4:=Pr.whole L
      have y5:=k8 y L
      have l1:=q2 {v with ax:=1} O
      have l2:=q2 {v with ax:=1,which:=aQ t v} O
      have M:=dC s1 (dC s2 (dC s3 (dC y0 (dC y1 (dC y2 (dC y3 (dC y4 (dC y5 (dC l1 (l2))))))))))
      try simp only[I,RY,↓KW,seval,c2,c3,c4,ak,M]
      refine kT [5] rfl ?_;try simp only[RY,↓KW,seval,M]
      refine⟨rfl,dH (bY (hE t y l (eN h L)) rfl (gc rfl)) ?_⟩;try simp only[RY,seval,aa,M]
      rw[R,ad]
     ·have ac:iw t v=false:=by rw[an,c1,c2,c3,c4];rfl
      obtain⟨g,hg,ao⟩:=a7 k ado
      have ae:=ao t v l (eN h O) hk
      have V:=qd (t:=t) (l:=l) O
      have hr:=mX t v l
      have am:jK t v l=if v.ax=5/\(aF t v l).1=0 then({(aF t v l).2 with ax:=0,which:=0,time:=0},jv t (aF t v l).2 l)
       else(iL t (aF t v l).2 l (aF t v l).1 v.ax,mD t (iL t (aF t v l).2 l (aF t v l).1 v.ax) l (aF t v l).1):=fb (by rw[ac];decide)
      rw[am]at R;generalize(aF t v l).2=w at*
      obtain⟨j,hj⟩:∃j:Nat,(aF t v l).1=j:=⟨(aF t v l).1.toNat,ado⟩
      rw[hj]at ae R hr
      have a5:j<6:=ado
      have hy:0<=(k:Int)/\(k:Int)<6:=ado
      have a3:0<=(j:Int)/\(j:Int)<6:=ado
      have w0:=q0 w V
      have w1:=q1 w V
      have w2:=q2 w V
      have ag:=dC w0 (dC w1 (w2))
      try simp only[I,RY,↓KW,seval,c2,c3,c4,hy,hg,ak]
      refine⟨rfl,bp ae ?_⟩;try simp only[I,RY,↓KW,seval,ag]
      have d1:=c3
      have d2:True:=trivial
      all_goals
       have al:¬(v.ax=5/\(j:Int)=0):=by
        rintro⟨a,b⟩
        rw[hk]at a;simp_all
       rw[fb al]at R;obtain⟨g2,a4,a2⟩:=a8 j a5
       have s1:=q3 w V j
       obtain⟨y,ab⟩:∃y:Pr,y=iL t w l j v.ax:=⟨_,rfl⟩
       have L:y.held.length=4:=by rw[ab];exact V
       have s2:∀x,x=p9 t {w with ax:=(j:Int)} l ((j:Int) !=(k:Int))->setCells (dM t {w with ax:=(j:Int)} l) 133 [I x]=dM t y l:=λx hx=>by
        rw[q5 {w with ax:=(j:Int)} V x,hx,ab,iL,hk]
       have ar:=s2 _ rfl
       rw[<-ab]at R
       have y0:=q0 y L
       have y1:=q1 y L
       have y2:=q2 y L
       have y3:=Pr.len L
       have y4:=Pr.whole L
       have y5:=k8 y L
       have l1:=q2 {w with ax:=(j:Int)} V
       have au:=hT t {w with ax:=(j:Int)} l ((j:Int) !=(k:Int)) (eN h V)
       have M:=dC s1 (dC ar (dC y0 (dC y1 (dC y2 (dC y3 (dC y4 (dC y5 (dC l1 (dC a3 (a4))))))))))
       try try simp only[seval,M]
       try try simp only[I,B,D,RY,↓KW,seval,d2,aa,ak,ag,M,qs]
       refine⟨rfl,bp (bY au rfl (gc rfl)) ?_⟩;try simp only[I,RY,↓KW,seval,M]
       refine kT [9] rfl ?_;try simp only[RY,↓KW,seval,M]
       refine⟨rfl,dH (bY (a2 t y l (eN h L)) rfl (gc rfl)) ?_⟩;try simp only[RY,seval,aa,M]
       rw[R]
 ·have qs:=qs.1 (.inr (by have:=dE a9;omega))
  try simp only[I,RY,↓KW,seval,hA,a9,u0,u2,qs,aa,ak]
  refine af (hR t v h.t O) ?_;try simp only[I,RY,↓KW,seval,qs]
  cases c1:decide (aQ t v>=0)
  ·have ac:iw t v=false:=by rw[an,c1];rfl
   have c2:True:=trivial
   have c3:True:=trivial
   have c4:True:=trivial
   obtain⟨g,hg,ao⟩:=a7 k ado
   have ae:=ao t v l (eN h O) hk
   have V:=qd (t:=t) (l:=l) O
   have hr:=mX t v l
   have am:jK t v l=if v.ax=5/\(aF t v l).1=0 then({(aF t v l).2 with ax:=0,which:=0,time:=0},jv t (aF t v l).2 l)
    else(iL t (aF t v l).2 l (aF t v l).1 v.ax,mD t (iL t (aF t v l).2 l (aF t v l).1 v.ax) l (aF t v l).1):=fb (by rw[ac];decide)
   rw[am]at R;generalize(aF t v l).2=w at*
   obtain⟨j,hj⟩:∃j:Nat,(aF t v l).1=j:=⟨(aF t v l).1.toNat,ado⟩
   rw[hj]at ae R hr
   have a5:j<6:=ado
   have hy:0<=(k:Int)/\(k:Int)<6:=ado
   have a3:0<=(j:Int)/\(j:Int)<6:=ado
   have w0:=q0 w V
   have w1:=q1 w V
   have w2:=q2 w V
   have ag:=dC w0 (dC w1 (w2))
   try simp only[RY,↓KW,seval,hy,hg]
   refine⟨rfl,bp ae ?_⟩;try simp only[I,B,D,RY,↓KW,seval,qs,aa,ak,ag]
   cases d1:((k:Int)==5);rotate_left;cases d2:((j:Int)==0);rotate_left
   ·have s1:=q3 w V 0
    have s2:=q4 {w with ax:=0} V 0
    have s3:=q5 {w with ax:=0,which:=0} V 0
    obtain⟨y,ab⟩:∃y:Pr,y={w with ax:=0,which:=0,time:=0}:=⟨_,rfl⟩
    have L:y.held.length=4:=by rw[ab];exact V
    rw[<-ab]at s3 R
    have al:v.ax=5/\(j:Int)=0:=⟨by rw[hk];simpa using d1,by simpa using d2⟩
    rw[fp al]at R
    have y0:=q0 y L
    have y1:=q1 y L
    have y2:=q2 y L
    have y3:=Pr.len L
    have y4:=Pr.whole L
    have y5:=k8 y L
    have l1:=q2 {w with ax:=0} V
    have l2:=q2 {w with ax:=0,which:=0} V
    have M:=dC s1 (dC s2 (dC s3 (dC y0 (dC y1 (dC y2 (dC y3 (dC y4 (dC y5 (dC l1 (l2))))))))))
    try simp only[I,RY,↓KW,seval,d2]
    refine⟨rfl,bp (bY (hB t w l (eN h V)) rfl (gc rfl)) ?_⟩;try simp only[RY,↓KW,seval,aa,ag,M]
    refine ep rfl ?_;try simp only[RY,↓KW,seval,aa,M]
    rw[R]
   all_goals
    have al:¬(v.ax=5/\(j:Int)=0):=by
     rintro⟨a,b⟩
     rw[hk]at a;simp_all
    rw[fb al]at R;obtain⟨g2,a4,a2⟩:=a8 j a5
    have s1:=q3 w V j
    obtain⟨y,ab⟩:∃y:Pr,y=iL t w l j v.ax:=⟨_,rfl⟩
    have L:y.held.length=4:=by rw[ab];exact V
    have s2:∀x,x=p9 t {w with ax:=(j:Int)} l ((j:Int) !=(k:Int))->setCells (dM t {w with ax:=(j:Int)} l) 133 [I x]=dM t y l:=λx hx=>by
     rw[q5 {w with ax:=(j:Int)} V x,hx,ab,iL,hk]
    have ar:=s2 _ rfl
    rw[<-ab]at R
    have y0:=q0 y L
    have y1:=q1 y L
    have y2:=q2 y L
    have y3:=Pr.len L
    have y4:=Pr.whole L
    have y5:=k8 y L
    have l1:=q2 {w with ax:=(j:Int)} V
    have au:=hT t {w with ax:=(j:Int)} l ((j:Int) !=(k:Int)) (eN h V)
    have M:=dC s1 (dC ar (dC y0 (dC y1 (dC y2 (dC y3 (dC y4 (dC y5 (dC l1 (dC a3 (a4))))))))))
    try try simp only[I,RY,↓KW,seval,ag,M]
    try try simp only[RY,↓KW,seval,d2,ag,M]
    refine⟨rfl,bp (bY au rfl (gc rfl)) ?_⟩;try simp only[I,RY,↓KW,seval,M]
    refine kT [9] rfl ?_;try simp only[RY,↓KW,seval,M]
    refine⟨rfl,dH (bY (a2 t y l (eN h L)) rfl (gc rfl)) ?_⟩;try simp only[RY,seval,aa,M]
    rw[R]
  ·cases c2:((k:Int)==0)
   rotate_left
   ·have ac:iw t v=true:=by rw[an,c1,c2];rfl
    have c3:True:=trivial
    have c4:True:=trivial
    have s1:=q3 v O 1
    have s2:=q4 {v with ax:=1} O (aQ t v)
    have s3:=q5 {v with ax:=1,which:=aQ t v} O 0
    have ad:jK t v l=({v with ax:=1,which:=aQ t v,time:=0},om t {v with ax:=1,which:=aQ t v,time:=0} l):=fp ac
    obtain⟨y,hy⟩:∃y:Pr,y={v with ax:=1,which:=aQ t v,time:=0}:=⟨_,rfl⟩
    have L:y.held.length=4:=by rw[hy];exact O
    rw[<-hy]at ad s3
    have y0:=q0 y L
    have y1:=q1 y L
    have y2:=q2 y L
    have y3:=Pr.len L
    have y4:=Pr.whole L
    have y5:=k8 y L
    have l1:=q2 {v with ax:=1} O
    have l2:=q2 {v with ax:=1,which:=aQ t v} O
    have M:=dC s1 (dC s2 (dC s3 (dC y0 (dC y1 (dC y2 (dC y3 (dC y4 (dC y5 (dC l1 (l2))))))))))
    try simp only[RY,↓KW,seval,c2,ak,M]
    refine kT [5] rfl ?_;try simp only[RY,↓KW,seval,M]
    refine⟨rfl,dH (bY (hE t y l (eN h L)) rfl (gc rfl)) ?_⟩;try simp only[RY,seval,aa,M]
    rw[R,ad]
   ·cases c3:((k:Int)==5)
    rotate_left
    ·have ac:iw t v=true:=by rw[an,c1,c2,c3];rfl
     have c4:True:=trivial
     have s1:=q3 v O 1
     have s2:=q4 {v with ax:=1} O (aQ t v)
     have s3:=q5 {v with ax:=1,which:=aQ t v} O 0
     have ad:jK t v l=({v with ax:=1,which:=aQ t v,time:=0},om t {v with ax:=1,which:=aQ t v,time:=0} l):=fp ac
     obtain⟨y,hy⟩:∃y:Pr,y={v with ax:=1,which:=aQ t v,time:=0}:=⟨_,rfl⟩
     have L:y.held.length=4:=by rw[hy];exact O
     rw[<-hy]at ad s3
     have y0:=q0 y L
     have y1:=q1 y L
     have y2:=q2 y L
     have y3:=Pr.len L
     have y4:=Pr.whole L
     have y5:=k8 y L
     have l1:=q2 {v with ax:=1} O
     have l2:=q2 {v with ax:=1,which:=aQ t v} O
     have M:=dC s1 (dC s2 (dC s3 (dC y0 (dC y1 (dC y2 (dC y3 (dC y4 (dC y5 (dC l1 (l2))))))))))
     try simp only[RY,↓KW,seval,c2,c3,ak,M]
     refine kT [5] rfl ?_;try simp only[RY,↓KW,seval,M]
     refine⟨rfl,dH (bY (hE t y l (eN h L)) rfl (gc rfl)) ?_⟩;try simp only[RY,seval,aa,M]
     rw[R,ad]
    ·cases c4:decide (aQ t v<v.which)
     rotate_left
     ·have ac:iw t v=true:=by rw[an,c1,c2,c3,c4];rfl
      have s1:=q3 v O 1
      have s2:=q4 {v with ax:=1} O (aQ t v)
      have s3:=q5 {v with ax:=1,which:=aQ t v} O 0
      have ad:jK t v l=({v with ax:=1,which:=aQ t v,time:=0},om t {v with ax:=1,which:=aQ t v,time:=0} l):=fp ac
      obtain⟨y,hy⟩:∃y:Pr,y={v with ax:=1,which:=aQ t v,time:=0}:=⟨_,rfl⟩
      have L:y.held.length=4:=by rw[hy];exact O
      rw[<-hy]at ad s3
      have y0:=q0 y L
      have y1:=q1 y L
      have y2:=q2 y L
      have y3:=Pr.len L
      have y4:=Pr.whole L
      have y5:=k8 y L
      have l1:=q2 {v with ax:=1} O
      have l2:=q2 {v with ax:=1,which:=aQ t v} O
      have M:=dC s1 (dC s2 (dC s3 (dC y0 (dC y1 (dC y2 (dC y3 (dC y4 (dC y5 (dC l1 (l2))))))))))
      try simp only[I,RY,↓KW,seval,c2,c3,c4,ak,M]
      refine kT [5] rfl ?_;try simp only[RY,↓KW,seval,M]
      refine⟨rfl,dH (bY (hE t y l (eN h L)) rfl (gc rfl)) ?_⟩;try simp only[RY,seval,aa,M]
      rw[R,ad]
     ·have ac:iw t v=false:=by rw[an,c1,c2,c3,c4];rfl
      obtain⟨g,hg,ao⟩:=a7 k ado
      have ae:=ao t v l (eN h O) hk
      have V:=qd (t:=t) (l:=l) O
      have hr:=mX t v l
      have am:jK t v l=if v.ax=5/\(aF t v l).1=0 then({(aF t v l).2 with ax:=0,which:=0,time:=0},jv t (aF t v l).2 l)
       else(iL t (aF t v l).2 l (aF t v l).1 v.ax,mD t (iL t (aF t v l).2 l (aF t v l).1 v.ax) l (aF t v l).1):=fb (by rw[ac];decide)
      rw[am]at R;generalize(aF t v l).2=w at*
      obtain⟨j,hj⟩:∃j:Nat,(aF t v l).1=j:=⟨(aF t v l).1.toNat,ado⟩
      rw[hj]at ae R hr
      have a5:j<6:=ado
      have hy:0<=(k:Int)/\(k:Int)<6:=ado
      have a3:0<=(j:Int)/\(j:Int)<6:=ado
      have w0:=q0 w V
      have w1:=q1 w V
      have w2:=q2 w V
      have ag:=dC w0 (dC w1 (w2))
      try simp only[I,RY,↓KW,seval,c2,c3,c4,hy,hg,ak]
      refine⟨rfl,bp ae ?_⟩;try simp only[I,RY,↓KW,seval,ag]
      have d1:=c3
      have d2:True:=trivial
      all_goals
       have al:¬(v.ax=5/\(j:Int)=0):=by
        rintro⟨a,b⟩
        rw[hk]at a;simp_all
       rw[fb al]at R;obtain⟨g2,a4,a2⟩:=a8 j a5
       have s1:=q3 w V j
       obtain⟨y,ab⟩:∃y:Pr,y=iL t w l j v.ax:=⟨_,rfl⟩
       have L:y.held.length=4:=by rw[ab];exact V
       have s2:∀x,x=p9 t {w with ax:=(j:Int)} l ((j:Int) !=(k:Int))->setCells (dM t {w with ax:=(j:Int)} l) 133 [I x]=dM t y l:=λx hx=>by
        rw[q5 {w with ax:=(j:Int)} V x,hx,ab,iL,hk]
       have ar:=s2 _ rfl
       rw[<-ab]at R
       have y0:=q0 y L
       have y1:=q1 y L
       have y2:=q2 y L
       have y3:=Pr.len L
       have y4:=Pr.whole L
       have y5:=k8 y L
       have l1:=q2 {w with ax:=(j:Int)} V
       have au:=hT t {w with ax:=(j:Int)} l ((j:Int) !=(k:Int)) (eN h V)
       have M:=dC s1 (dC ar (dC y0 (dC y1 (dC y2 (dC y3 (dC y4 (dC y5 (dC l1 (dC a3 (a4))))))))))
       try try simp only[seval,M]
       try try simp only[I,B,D,RY,↓KW,seval,d2,aa,ak,ag,M,qs]
       refine⟨rfl,bp (bY au rfl (gc rfl)) ?_⟩;try simp only[I,RY,↓KW,seval,M]
       refine kT [9] rfl ?_;try simp only[RY,↓KW,seval,M]
       refine⟨rfl,dH (bY (a2 t y l (eN h L)) rfl (gc rfl)) ?_⟩;try simp only[RY,seval,aa,M]
       rw[R]
 ·have qs:=qs.1 (.inl (dE hA))
  try simp only[I,RY,↓KW,seval,hA,u0,u2,qs,aa,ak]
  refine af (hR t v h.t O) ?_;try simp only[I,RY,↓KW,seval,qs]
  cases c1:decide (aQ t v>=0)
  ·have ac:iw t v=false:=by rw[an,c1];rfl
   have c2:True:=trivial
   have c3:True:=trivial
   have c4:True:=trivial
   obtain⟨g,hg,ao⟩:=a7 k ado
   have ae:=ao t v l (eN h O) hk
   have V:=qd (t:=t) (l:=l) O
   have hr:=mX t v l
   have am:jK t v l=if v.ax=5/\(aF t v l).1=0 then({(aF t v l).2 with ax:=0,which:=0,time:=0},jv t (aF t v l).2 l)
    else(iL t (aF t v l).2 l (aF t v l).1 v.ax,mD t (iL t (aF t v l).2 l (aF t v l).1 v.ax) l (aF t v l).1):=fb (by rw[ac];decide)
   rw[am]at R;generalize(aF t v l).2=w at*
   obtain⟨j,hj⟩:∃j:Nat,(aF t v l).1=j:=⟨(aF t v l).1.toNat,ado⟩
   rw[hj]at ae R hr
   have a5:j<6:=ado
   have hy:0<=(k:Int)/\(k:Int)<6:=ado
   have a3:0<=(j:Int)/\(j:Int)<6:=ado
   have w0:=q0 w V
   have w1:=q1 w V
   have w2:=q2 w V
   have ag:=dC w0 (dC w1 (w2))
   try simp only[RY,↓KW,seval,hy,hg]
   refine⟨rfl,bp ae ?_⟩;try simp only[I,B,D,RY,↓KW,seval,qs,aa,ak,ag]
   cases d1:((k:Int)==5);rotate_left;cases d2:((j:Int)==0);rotate_left
   ·have s1:=q3 w V 0
    have s2:=q4 {w with ax:=0} V 0
    have s3:=q5 {w with ax:=0,which:=0} V 0
    obtain⟨y,ab⟩:∃y:Pr,y={w with ax:=0,which:=0,time:=0}:=⟨_,rfl⟩
    have L:y.held.length=4:=by rw[ab];exact V
    rw[<-ab]at s3 R
    have al:v.ax=5/\(j:Int)=0:=⟨by rw[hk];simpa using d1,by simpa using d2⟩
    rw[fp al]at R
    have y0:=q0 y L
    have y1:=q1 y L
    have y2:=q2 y L
    have y3:=Pr.len L
    have y4:=Pr.whole L
    have y5:=k8 y L
    have l1:=q2 {w with ax:=0} V
    have l2:=q2 {w with ax:=0,which:=0} V
    have M:=dC s1 (dC s2 (dC s3 (dC y0 (dC y1 (dC y2 (dC y3 (dC y4 (dC y5 (dC l1 (l2))))))))))
    try simp only[I,RY,↓KW,seval,d2]
    refine⟨rfl,bp (bY (hB t w l (eN h V)) rfl (gc rfl)) ?_⟩;try simp only[RY,↓KW,seval,aa,ag,M]
    refine ep rfl ?_;try simp only[RY,↓KW,seval,aa,M]
    rw[R]
   all_goals
    have al:¬(v.ax=5/\(j:Int)=0):=by
     rintro⟨a,b⟩
     rw[hk]at a;simp_all
    rw[fb al]at R;obtain⟨g2,a4,a2⟩:=a8 j a5
    have s1:=q3 w V j
    obtain⟨y,ab⟩:∃y:Pr,y=iL t w l j v.ax:=⟨_,rfl⟩
    have L:y.held.length=4:=by rw[ab];exact V
    have s2:∀x,x=p9 t {w with ax:=(j:Int)} l ((j:Int) !=(k:Int))->setCells (dM t {w with ax:=(j:Int)} l) 133 [I x]=dM t y l:=λx hx=>by
     rw[q5 {w with ax:=(j:Int)} V x,hx,ab,iL,hk]
    have ar:=s2 _ rfl
    rw[<-ab]at R
    have y0:=q0 y L
    have y1:=q1 y L
    have y2:=q2 y L
    have y3:=Pr.len L
    have y4:=Pr.whole L
    have y5:=k8 y L
    have l1:=q2 {w with ax:=(j:Int)} V
    have au:=hT t {w with ax:=(j:Int)} l ((j:Int) !=(k:Int)) (eN h V)
    have M:=dC s1 (dC ar (dC y0 (dC y1 (dC y2 (dC y3 (dC y4 (dC y5 (dC l1 (dC a3 (a4))))))))))
    try try simp only[I,RY,↓KW,seval,ag,M]
    try try simp only[RY,↓KW,seval,d2,ag,M]
    refine⟨rfl,bp (bY au rfl (gc rfl)) ?_⟩;try simp only[I,RY,↓KW,seval,M]
    refine kT [9] rfl ?_;try simp only[RY,↓KW,seval,M]
    refine⟨rfl,dH (bY (a2 t y l (eN h L)) rfl (gc rfl)) ?_⟩;try simp only[RY,seval,aa,M]
    rw[R]
  ·cases c2:((k:Int)==0)
   rotate_left
   ·have ac:iw t v=true:=by rw[an,c1,c2];rfl
    have c3:True:=trivial
    have c4:True:=trivial
    have s1:=q3 v O 1
    have s2:=q4 {v with ax:=1} O (aQ t v)
    have s3:=q5 {v with ax:=1,which:=aQ t v} O 0
    have ad:jK t v l=({v with ax:=1,which:=aQ t v,time:=0},om t {v with ax:=1,which:=aQ t v,time:=0} l):=fp ac
    obtain⟨y,hy⟩:∃y:Pr,y={v with ax:=1,which:=aQ t v,time:=0}:=⟨_,rfl⟩
    have L:y.held.length=4:=by rw[hy];exact O
    rw[<-hy]at ad s3
    have y0:=q0 y L
    have y1:=q1 y L
    have y2:=q2 y L
    have y3:=Pr.len L
    have y4:=Pr.whole L
    have y5:=k8 y L
    have l1:=q2 {v with ax:=1} O
    have l2:=q2 {v with ax:=1,which:=aQ t v} O
    have M:=dC s1 (dC s2 (dC s3 (dC y0 (dC y1 (dC y2 (dC y3 (dC y4 (dC y5 (dC l1 (l2))))))))))
    try simp only[RY,↓KW,seval,c2,ak,M]
    refine kT [5] rfl ?_;try simp only[RY,↓KW,seval,M]
    refine⟨rfl,dH (bY (hE t y l (eN h L)) rfl (gc rfl)) ?_⟩;try simp only[RY,seval,aa,M]
    rw[R,ad]
   ·cases c3:((k:Int)==5)
    rotate_left
    ·have ac:iw t v=true:=by rw[an,c1,c2,c3];rfl
     have c4:True:=trivial
     have s1:=q3 v O 1
     have s2:=q4 {v with ax:=1} O (aQ t v)
     have s3:=q5 {v with ax:=1,which:=aQ t v} O 0
     have ad:jK t v l=({v with ax:=1,which:=aQ t v,time:=0},om t {v with ax:=1,which:=aQ t v,time:=0} l):=fp ac
     obtain⟨y,hy⟩:∃y:Pr,y={v with ax:=1,which:=aQ t v,time:=0}:=⟨_,rfl⟩
     have L:y.held.length=4:=by rw[hy];exact O
     rw[<-hy]at ad s3
     have y0:=q0 y L
     have y1:=q1 y L
     have y2:=q2 y L
     have y3:=Pr.len L
     have y4:=Pr.whole L
     have y5:=k8 y L
     have l1:=q2 {v with ax:=1} O
     have l2:=q2 {v with ax:=1,which:=aQ t v} O
     have M:=dC s1 (dC s2 (dC s3 (dC y0 (dC y1 (dC y2 (dC y3 (dC y4 (dC y5 (dC l1 (l2))))))))))
     try simp only[RY,↓KW,seval,c2,c3,ak,M]
     refine kT [5] rfl ?_;try simp only[RY,↓KW,seval,M]
     refine⟨rfl,dH (bY (hE t y l (eN h L)) rfl (gc rfl)) ?_⟩;try simp only[RY,seval,aa,M]
     rw[R,ad]
    ·cases c4:decide (aQ t v<v.which)
     rotate_left
     ·have ac:iw t v=true:=by rw[an,c1,c2,c3,c4];rfl
      have s1:=q3 v O 1
      have s2:=q4 {v with ax:=1} O (aQ t v)
      have s3:=q5 {v with ax:=1,which:=aQ t v} O 0
      have ad:jK t v l=({v with ax:=1,which:=aQ t v,time:=0},om t {v with ax:=1,which:=aQ t v,time:=0} l):=fp ac
      obtain⟨y,hy⟩:∃y:Pr,y={v with ax:=1,which:=aQ t v,time:=0}:=⟨_,rfl⟩
      have L:y.held.length=4:=by rw[hy];exact O
      rw[<-hy]at ad s3
      have y0:=q0 y L
      have y1:=q1 y L
      have y2:=q2 y L
      have y3:=Pr.len L
      have y4:=Pr.whole L
      have y5:=k8 y L
      have l1:=q2 {v with ax:=1} O
      have l2:=q2 {v with ax:=1,which:=aQ t v} O
      have M:=dC s1 (dC s2 (dC s3 (dC y0 (dC y1 (dC y2 (dC y3 (dC y4 (dC y5 (dC l1 (l2))))))))))
      try simp only[I,RY,↓KW,seval,c2,c3,c4,ak,M]
      refine kT [5] rfl ?_;try simp only[RY,↓KW,seval,M]
      refine⟨rfl,dH (bY (hE t y l (eN h L)) rfl (gc rfl)) ?_⟩;try simp only[RY,seval,aa,M]
      rw[R,ad]
     ·have ac:iw t v=false:=by rw[an,c1,c2,c3,c4];rfl
      obtain⟨g,hg,ao⟩:=a7 k ado
      have ae:=ao t v l (eN h O) hk
      have V:=qd (t:=t) (l:=l) O
      have hr:=mX t v l
      have am:jK t v l=if v.ax=5/\(aF t v l).1=0 then({(aF t v l).2 with ax:=0,which:=0,time:=0},jv t (aF t v l).2 l)
       else(iL t (aF t v l).2 l (aF t v l).1 v.ax,mD t (iL t (aF t v l).2 l (aF t v l).1 v.ax) l (aF t v l).1):=fb (by rw[ac];decide)
      rw[am]at R;generalize(aF t v l).2=w at*
      obtain⟨j,hj⟩:∃j:Nat,(aF t v l).1=j:=⟨(aF t v l).1.toNat,ado⟩
      rw[hj]at ae R hr
      have a5:j<6:=ado
      have hy:0<=(k:Int)/\(k:Int)<6:=ado
      have a3:0<=(j:Int)/\(j:Int)<6:=ado
      have w0:=q0 w V
      have w1:=q1 w V
      have w2:=q2 w V
      have ag:=dC w0 (dC w1 (w2))
      try simp only[I,RY,↓KW,seval,c2,c3,c4,hy,hg,ak]
      refine⟨rfl,bp ae ?_⟩;try simp only[I,RY,↓KW,seval,ag]
      have d1:=c3
      have d2:True:=trivial
      all_goals
       have al:¬(v.ax=5/\(j:Int)=0):=by
        rintro⟨a,b⟩
        rw[hk]at a;simp_all
       rw[fb al]at R;obtain⟨g2,a4,a2⟩:=a8 j a5
       have s1:=q3 w V j
       obtain⟨y,ab⟩:∃y:Pr,y=iL t w l j v.ax:=⟨_,rfl⟩
       have L:y.held.length=4:=by rw[ab];exact V
       have s2:∀x,x=p9 t {w with ax:=(j:Int)} l ((j:Int) !=(k:Int))->setCells (dM t {w with ax:=(j:Int)} l) 133 [I x]=dM t y l:=λx hx=>by
        rw[q5 {w with ax:=(j:Int)} V x,hx,ab,iL,hk]
       have ar:=s2 _ rfl
       rw[<-ab]at R
       have y0:=q0 y L
       have y1:=q1 y L
       have y2:=q2 y L
       have y3:=Pr.len L
       have y4:=Pr.whole L
       have y5:=k8 y L
       have l1:=q2 {w with ax:=(j:Int)} V
       have au:=hT t {w with ax:=(j:Int)} l ((j:Int) !=(k:Int)) (eN h V)
       have M:=dC s1 (dC ar (dC y0 (dC y1 (dC y2 (dC y3 (dC y4 (dC y5 (dC l1 (dC a3 (a4))))))))))
       try try simp only[seval,M]
       try try simp only[I,B,D,RY,↓KW,seval,d2,aa,ak,ag,M,qs]
       refine⟨rfl,bp (bY au rfl (gc rfl)) ?_⟩;try simp only[I,RY,↓KW,seval,M]
       refine kT [9] rfl ?_;try simp only[RY,↓KW,seval,M]
       refine⟨rfl,dH (bY (a2 t y l (eN h L)) rfl (gc rfl)) ?_⟩;try simp only[RY,seval,aa,M]
       rw[R]
end
section
variable (x:Int) {b g:Int} {i:Nat} {p pl r:Int} {t:Tb} (l:Option (List Int)) (y:Int)
theorem AF(t:Tb) (s:Pr) (l:List Rn) {to:Int} (h:0<=to/\to<6):(mD t s l to).free=(to==0)/\(mD t s l to).back=false:=by
 have e:to=0\/to=1\/to=2\/to=3\/to=4\/to=5:=ado
 rcases e with rfl|rfl|rfl|rfl|rfl|rfl<;>exact⟨rfl,rfl⟩
theorem Qi{s:Pr} (h:iw t s=true):0<=aQ t s/\(s.ax=0\/s.ax=5\/aQ t s<s.which):=by
 simp only[iw,ed,na,ii,l4]at h;exact h
def anv:Prop:=∀i,i<8->tb x i=true->tb y i=true
def alg:Prop:=∀i,i<8->tb x i=true->tb y i=false
theorem H7{s:Int} {f:Nat->Bool} (D:i<8):tb (xz s f) i=(tb s i&&f i):=by rw[xz,xu];simp[D]
theorem Qj(D:i<8):tb (bC .i64 255 b) i=!tb b i:=by rw[i4 _ _ _ ado,ux];simp[D]
structure an5 (t:Tb) (l:List Rn) (to:Int) (a:Ac):Prop where
 cs:Can a.start
 cf:Can a.fin
 cc:Can a.cut
 start:∀p,p<8->tb a.start p=true->ju t l p=true
 sub:anv a.start to
 cut:∀p,p<8->tb a.cut p=true->BV (bh l p)=true
 fin:∀p,p<8->tb a.fin p=true->fJ (bh l p)=true
 an6:alg a.fin to
 an7:alg a.cut to
theorem J3(t:Tb) (s:Pr):aQ t s=-1\/(0<=aQ t s/\aQ t s<(nR t:Int)):=by
 unfold aQ;split
 ·rename_i k hk
  have:=Hk hk
  rw[ip]at this
  right;omega
 ·left;rfl
def Uq(t:Tb):Prop:=∀x∈bQ t,aE t x.p=(x,true)
theorem XP:Uq (bk l):=by
 intro x V
 have hm:=Lu l
 generalize bk l=t at*
 have hu:∀y∈bQ t,y.p=x.p->y=x:=by
  intro y hy he;obtain⟨i,hi,rfl⟩:=List.getElem_of_mem V;obtain⟨j,Z,rfl⟩:=List.getElem_of_mem hy
  have L:((bQ t).map Sp.p)[i]? =some ((bQ t)[i]).p:=by simp[hi]
  have D:((bQ t).map Sp.p)[j]? =some ((bQ t)[j]).p:=by simp[Z]
  rw[hm,d8]at L D
  have R:i<nT l:=by have:=sd List.length hm;simp[d8]at this;omega
  have O:j<nT l:=by have:=sd List.length hm;simp[d8]at this;omega
  rw[ka,kv R]at L;rw[ka,kv O]at D;simp only[mn,fx]at L D
  have:i=j:=by rw[he]at D;omega
  subst this;rfl
 unfold aE
 cases M:(bQ t).find? (λy=>y.p==x.p)with
 |none=>
  have:=Ha.1 M x V
  simp at this
 |some y=>
  have h1:=Hk M
  have h2:=List.find?_some M
  simp only
  rw[hu y h1 (by simpa using h2)]
theorem J4{x:Sp}:x∈bQ t↔∃(g k i:Nat) (D:Gr),(t.groups.getD [])[g]? =some D/\k<2/\((D.row k).getD [])[i]? =some x.p/\(0<=x.p/\x.p<8)/\x=⟨g,k,i,x.p⟩:=by
 simp only[bQ,dL,io,abJ,dU,ip,bP,List.mem_filterMap,List.mem_zipIdx_iff_getElem?,Prod.exists];constructor
 ·rintro⟨D,g,O,k,hk,p,i,R,L⟩
  split at L
  ·rename_i M
   cases L;exact⟨g,k,i,D,O,hk,R,M,rfl⟩
  ·cases L
 ·rintro⟨g,k,i,D,O,hk,R,M,L⟩
  exact⟨D,g,O,k,hk,x.p,i,R,by rw[fp M];exact sd some L.symm⟩
theorem R6{g k:Nat} {L:Gr} (D:(t.groups.getD [])[g]? =some L) (hk:k<2):ku t g k=L.row k:=by
 have M:=(eo.1 D).1
 rw[ku,fb ado]
 simp only[rc];rw[em,D];rfl
theorem agU(h:0<=vJ t g r pl):∃(V k i:Nat) (D:Gr),g=V/\r=k/\pl=i/\(t.groups.getD [])[V]? =some D/\k<2/\((D.row k).getD [])[i]? =some (vJ t g r pl)/\vJ t g r pl<8:=by
 by_cases M:g<0\/((t.groups.getD []).length:Int)<=g\/r<0\/1<r
 ·rw[vJ,fp M]at h;omega
 by_cases R:pl<0\/(((ku t g r).getD []).length:Int)<=pl
 ·rw[vJ,fb M,fp R]at h;omega
 by_cases O:0<=((ku t g r).getD []).getD pl.toNat 0/\((ku t g r).getD []).getD pl.toNat 0<8
 ·have e:vJ t g r pl=((ku t g r).getD []).getD pl.toNat 0:=by rw[vJ,fb M,fb R,fp O]
  obtain⟨D,Z⟩:∃D,(t.groups.getD [])[g.toNat]? =some D:=⟨_,eh ado⟩
  have L:=R6 Z (k:=r.toNat) ado
  rw[show((g.toNat:Nat):Int)=g by omega,show((r.toNat:Nat):Int)=r by omega]at L
  refine⟨g.toNat,r.toNat,pl.toNat,D,ado,ado,ado,Z,ado,?_,by rw[e];exact O.2⟩
  rw[e,<-L,em,eh ado];rfl
 ·rw[vJ,fb M,fb R,fb O]at h;omega
theorem H8(L:Uq t) (h:0<=vJ t g r pl):aE t (vJ t g r pl)=(⟨g,r,pl,vJ t g r pl⟩,true):=by
 obtain⟨D,k,i,M,rfl,rfl,rfl,V,hk,Z,O⟩:=agU h
 have R:(⟨D,k,i,vJ t D k i⟩:Sp)∈bQ t:=J4.2 ⟨D,k,i,M,V,hk,Z,⟨h,O⟩,rfl⟩
 exact L _ R
theorem Og(h:(aE t p).2=true):(aE t p).1∈bQ t/\(aE t p).1.p=p:=by
 unfold aE at h⊢
 cases D:(bQ t).find? (λx=>x.p==p)with
 |none=>rw[D]at h;cases h
 |some x=>
  simp only
  exact⟨Hk D,by simpa using List.find?_some D⟩
theorem XQ(h:(aE t p).2=true):vJ t (aE t p).1.group (aE t p).1.ring (aE t p).1.pos=p:=by
 obtain⟨R,Z⟩:=Og h;obtain⟨g,k,i,gr,L,hk,M,O,V⟩:=J4.1 R;generalize(aE t p).1=x at*;rw[V];simp only
 have hl:=(eo.1 L).1
 have D:=R6 L hk
 have aa:=(eo.1 M).1
 have e:((ku t g k).getD []).getD (i:Int).toNat 0=x.p:=by rw[D,em,rc,M];rfl
 rw[vJ,fb ado,fb (by rw[D];omega),fp (by rw[e];exact O),e,Z]
theorem J5(D:Uq t) {L M:Int} (O:0<=vJ t g 0 L) (R:0<=vJ t g 1 M):ee t (vJ t g 0 L) (vJ t g 1 M)=true:=by
 rw[ee,H8 D O,H8 D R];simp
theorem XS{p:Nat} (L:p<nT l):(aE (bk l) p).2=true:=by
 have hm:(p:Int)∈(bQ (bk l)).map Sp.p:=by
  rw[Lu,d8,mi];exact⟨p,ip.2 L,adI⟩
 obtain⟨x,D,M⟩:=mi.1 hm;rw[aE]
 cases h:(bQ (bk l)).find? (λx=>x.p==(p:Int))with
 |some y=>rfl
 |none=>
  rw[Ha]at h
  exact absurd (by simp[M]) (h x D)
structure LF (t u:Tb):Prop where
 groups:u.groups=t.groups
 bE:u.bE=t.bE
 on:yx u=yx t
 share:u.share=t.share
 revert:u.revert=t.revert
 extend:u.extend=t.extend
 same:∀p,(aK u p).min=(aK t p).min/\(aK u p).walk=(aK t p).walk/\(aK u p).cz=(aK t p).cz/\(aK u p).dD=(aK t p).dD
 more:∀p,(aK t p).top<=(aK u p).top/\(aK t p).red<=(aK u p).red
theorem oY{a:Int} (h:a<=b):jX a<=jX b:=by simp only[Fy];omega
theorem DE{α:Type} {f g:α->Int}:∀{l:List α},(∀x∈l,f x<=g x)->BM (l.map f)<=BM (l.map g)
 |[],_=>pu _
 |x::l,h=>by
  have M:=oY (h x nb)
  have L:=DE (l:=l) λy D=>h y (lw _ D)
  simp only[BM,kr,IN]at*;omega
theorem H9{α:Type} {f g:α->Int}:∀{l:List α},(∀x∈l,f x<=g x)->jc (l.map f)<=jc (l.map g)
 |[],_=>pu _
 |x::l,h=>by
  have M:=h x nb
  have L:=H9 (l:=l) λy D=>h y (lw _ D)
  simp only[kr,Hf];omega
end
section
variable{t u:Tb} (h:LF t u)
include h
section
variable (k p:Int)
theorem LF.clear:oa t<=oa u:=by
 rw[oa,oa,h.on]
 refine H9 λp _=>?_
 have D:=(h.same p).2.2.2
 have L:=(h.more p).2
 rw[Lq,Lq,yF,yF,D];simp only[Fy];omega
theorem LF.serve:mQ t p<=mQ u p:=by
 obtain⟨R,h2,M,h4⟩:=h.same p;obtain⟨Z,L⟩:=h.more p
 have V:=h.extend
 have O:=h.revert
 rw[mQ,mQ,h.on];split
 ·rw[R,h2,M,h4,V,O,Lq (aK t p).walk (aK t p).cz,oO,oO]
  have D:jc [jX (aK t p).min,K1 (aK t p).walk (aK t p).cz,jX (aK t p).top]<=jc [jX (aK t p).min,K1 (aK t p).walk (aK t p).cz,jX (aK u p).top]:=by
   have:=oY Z
   simp only[Hf,Uf];omega
  have a1:=oY D
  have a2:=oY L
  simp only[BM,kr,mr,IN,List.sum_nil];omega
 ·exact pu _
theorem LF.bQ:Eng.bQ u=Eng.bQ t:=by rw[Eng.bQ,Eng.bQ,h.groups]
theorem LF.anw:aE u p=aE t p:=by rw[aE,aE,h.bQ]
theorem LF.pass(g:Int):qS t g<=qS u g:=by
 rw[qS,qS,h.groups];split
 ·exact pu _
 ·rw[oO,oO,iP,iP,h.bQ]
  have:=DE (l:=((Eng.bQ t).take (Eng.bQ t).length).filter λx=>x.group==g) (f:=λx=>mQ t x.p) (g:=λx=>mQ u x.p) λx _=>h.serve x.p
  simp only[BM,kr,IN]at*;omega
theorem LF.free:sN t p<=sN u p:=by
 rw[sN,sN,h.anw,h.on,h.groups];split
 ·rw[oO,oO]
  have D:=oY (h.pass (aE t p).1.group)
  have:=DE (l:=List.range (t.groups.getD []).length) (f:=λ(g:Nat)=>qS t g) (g:=λ(g:Nat)=>qS u g) λg _=>h.pass g
  simp only[BM,kr,IN]at*;omega
 ·exact pu _
theorem LF.rl:Ai u k=Ai t k:=by rw[Ai,Ai,h.bE]
theorem LF.entry:uu t k<=uu u k:=by
 have L:=oY h.clear
 have D:=h.revert
 rw[uu,uu,h.bE];split
 ·exact pu _
 ·rw[h.rl,D,oO,oO]
  simp only[BM,kr,mr,IN,List.sum_nil];omega
end
end
section
variable (wild:Bool) (l:List Int) {d k:Nat} {xs:List (Option Nat)} {α:Type} (f:α->List AV) (q:List α) (C:aT) (i t v w:Nat) (x:Option Nat)
structure Fr where
 samples:Option (List (Option Nat))
 push:Int
 ask:Int
 lines:Int
 ko:Int
 reset:Bool
 deriving Inhabited
def Fr.cells(x:Fr):List AV:=[aI kC x.samples,I x.push,I x.ask,I x.lines,I x.ko,B x.reset]
def c20:Nat:=4626322717216342016
def f20:Option Nat->Option Nat
 |none=>none
 |some x=>DF.sub c20 x
theorem alh:eK .sub (.float .f64 4626322717216342016) (fv x)=some (fv (f20 x)):=by
 cases x with
 |none=>rfl
 |some x=>
  show O7 .f64 (DF.sub c20 x)=some (fv (DF.sub c20 x))
  cases DF.sub c20 x<;>rfl
theorem ali(q:Option Nat):iI (fv x) q=true:=by cases x<;>rfl
theorem XT:(fv x).cells=[fv x]:=by cases x<;>rfl
def six:List (Option Nat):=[none,some 9218868437227405312,some 9223372036854775808,some 4613937818241073152,some 4711630319722168320,some 4604930618986332160]
structure Sc where
 xs:List (Option Nat)
 Ja:Nat
 ask:Int
 lines:Int
 deriving Inhabited
structure On where
 n:Nat
 push:Int
 lines:Int
 ko:Int
 reset:Bool
 deriving Inhabited
def iU:Nat:=v/16%64
def XU:Nat:=1+v/1024%30
def tJ:On:=⟨XU v,0,0,0,false⟩
def agV(k:Nat):Int:=IntKind.i64.wrap (256*2^min k IntKind.i64.bits)
def jF(c:Sc):Sc×On:=
 if v%16<3 then({c with xs:=c.xs.set (iU v%16) (f20 (c.xs.getD (iU v%16) none))},tJ v)
 else if v%16=3 then({c with xs:=c.xs.set (iU v%16) (six.getD (iU v%6) none)},tJ v)
 else if v%16<6 then(c,{tJ v with push:=(v/1024%256:Nat)})
 else if v%16=6 then({c with ask:=TC .i64 c.ask (2^(iU v%4))},tJ v)
 else if v%16=7 then(c,{tJ v with lines:=2^(iU v%4)})
 else if v%16=8 then({c with lines:=TC .i64 c.lines (2^(iU v%4))},tJ v)
 else if v%16=9 then(c,{tJ v with n:=XU v*6})
 else if v%16=10 then({c with xs:=List.replicate 16 (some (FloatKind.f64.nearest (iU v%2*20:Nat)))},tJ v)
 else if v%16=11 then({c with Ja:=iU v%17},tJ v)
 else if v%16=12 then({c with Ja:=16,lines:=0},tJ v)
 else if v%16=13 then(c,{tJ v with push:=if wild&&iU v%4==0 then agV (iU v)else 0,ko:=if wild&&iU v%4==1 then(v/1024%256:Nat)else 0,reset:=wild&&iU v%2==0})
 else(c,tJ v)
def qH(c:Sc) (o:On) (j:Nat):Fr:=
 ⟨ez (c.xs.take c.Ja),if j=0 then o.push else 0,c.ask,if j=0 then AW .i64 c.lines o.lines else c.lines,if j=0 then o.ko else 0,if j=0 then o.reset else false⟩
def Ia(c:Sc) (o:On) (out:List Fr):List Fr:=out++(List.range (min o.n (1500-out.length))).map (qH c o)
def R7(x:Sc×List Fr):Sc×List Fr:=((jF wild v x.1).1,Ia (jF wild v x.1).1 (jF wild v x.1).2 x.2)
def scV:Nat:=(place (l.getD i 0) 1099511627776).toNat
def kL(wild:Bool) (l:List Int):Nat->Sc×List Fr
 |0=>(⟨List.replicate 16 (some 0),16,0,0⟩,[])
 |i+1=>if(kL wild l i).2.length<1500 then R7 wild (scV l i) (kL wild l i)else kL wild l i
def gD:List Fr:=(kL wild l (min l.length 120)).2
structure Sc.Ok (c:Sc):Prop where
 xs:c.xs.length=16
 Ja:c.Ja<=16
theorem R8:v%16=0\/v%16=1\/v%16=2\/v%16=3\/v%16=4\/v%16=5\/v%16=6\/v%16=7\/v%16=8\/v%16=9\/v%16=10\/v%16=11\/v%16=12\/v%16=13\/v%16=14\/v%16=15:=by omega
theorem LG{wild:Bool} {v:Nat} {c:Sc} (h:c.Ok):(jF wild v c).1.Ok/\(jF wild v c).2.n<=180:=by
 have M:XU v<=30:=by unfold XU;omega
 have D:=h.Ja
 have L:=h.xs
 rcases R8 v with e|e|e|e|e|e|e|e|e|e|e|e|e|e|e|e<;>
  exact⟨⟨by simp[jF,e,L],by simp[jF,e,D];try omega⟩,by simp[jF,e,tJ];omega⟩
theorem Qk{c:Sc} {o:On} {out:List Fr} (h:out.length<=1500):(Ia c o out).length<=1500:=by simp[Ia];omega
theorem FE(wild:Bool) (l:List Int):∀i,(kL wild l i).1.Ok/\(kL wild l i).2.length<=1500
 |0=>⟨⟨by simp[kL],by simp[kL]⟩,by simp[kL]⟩
 |i+1=>by
  have D:=FE wild l i
  rw[kL];split
  ·exact⟨(LG D.1).1,Qk D.2⟩
  ·exact D
theorem J6{wild:Bool} {l:List Int} {i:Nat} (h:¬(kL wild l i).2.length<1500):∀j,kL wild l (i+j)=kL wild l i
 |0=>rfl
 |j+1=>by rw[<-IH,kL,J6 h j,fb h]
theorem Ql{wild:Bool} {l:List Int} {i:Nat} (D:i<=min l.length 120) (h:i=min l.length 120\/¬(kL wild l i).2.length<1500):(kL wild l i).2=gD wild l:=by
 rcases h with h|h
 ·rw[h];rfl
 ·have:=J6 h (min l.length 120-i)
  rw[show i+(min l.length 120-i)=min l.length 120 by omega]at this
  rw[gD,this]
theorem abO:(scV l i:Int)=place (l.getD i 0) 1099511627776/\scV l i<1099511627776:=by
 have h:0<=place (l.getD i 0) 1099511627776/\place (l.getD i 0) 1099511627776<1099511627776:=by
  generalize l.getD i 0=v
  have L:=Ps v (b:=1099511627776) ado
  have D:-1099511627776<v.tmod 1099511627776:=by
   have:=Int.lt_tmod_of_pos v (b:=1099511627776) ado
   omega
  unfold place;split
  ·have:cU (v.tmod 1099511627776+1099511627776)=v.tmod 1099511627776+1099511627776:=aU ado ado
   rw[this];omega
  ·omega
 unfold scV;omega
theorem alj(h:k<xs.length):(xs.map fv)[k]? =some (fv (xs.getD k none)):=by
 simp[em,h]
theorem XV{x:Option Nat} (h:k<xs.length):setCells (xs.map fv) k [fv x]=(xs.set k x).map fv:=by
 rw[setCells,List.map_set,Hd,fp (by simpa using h)]
 simp
theorem J7:∀(n:Nat) (xs:List (Option Nat)),n<=xs.length->dI 1 n (xs.map fv)=(xs.take n).map kC
 |0,_,_=>rfl
 |n+1,x::xs,h=>by
  have:=J7 n xs (by simpa using h)
  simp[dI,this,kC]
 |n+1,[],h=>by simp at h
theorem R9:Tp (some (bN f q t))=some (aI f (ez q)):=by unfold bN ez;split<;>rfl
theorem Sa:zN (aI f (ez q))=some (I q.length):=by unfold ez;split<;>simp_all [aI,zN]
theorem Oh(k:SV->Prop):Tu k (bN f q t)=k (.dat (I q.length) none):=by
 unfold bN;split
 ·rename_i h;subst h;rfl
 ·rw[Rb];simp[zN]
theorem abP:aj (aaT (some (bN f q t))) λp=>p.1=aI f (ez q):=by unfold bN ez;split<;>rfl
def Pa(xs:List (Option Nat)) (w d:Nat):List (Option Nat):=List.replicate d (some w)++xs.drop d
theorem abQ(h:d<xs.length):(Pa xs w d).set d (some w)=Pa xs w (d+1):=by
 rw[Pa,List.set_append,fb adI]
 simp only[List.length_replicate,Nat.sub_self]
 have e:xs.drop d=xs[d]::xs.drop (d+1):=acX h
 rw[e,List.set_cons_zero,Pa];simp[List.replicate_succ',List.append_assoc]
theorem abR(h:d<=xs.length):(Pa xs w d).length=xs.length:=by simp[Pa];omega
theorem abS:Pa xs w xs.length=List.replicate xs.length (some w):=by simp[Pa]
theorem XW(xs:List (Option Nat)) (w:Nat):Pa xs w 0=xs:=by simp[Pa]
def Cw(c:Sc):List AV:=[.aZ,I 0,I c.ask,I c.lines,I 0,B false]
def zI(o:On):List AV:=[.aZ,I o.push,I 0,I o.lines,I o.ko,B o.reset]
def qg.Spec(f:Nat):Prop:=∀(l:Option (List Int)) (wild:Bool),C.c f [aI aH l,B wild] (aI Fr.cells (ez (gD wild (l.getD [])))) none
def XX.Spec(f:Nat):Prop:=C.c f [I 1] (Fl 9218868437227405312) none
def XY.Spec(f:Nat):Prop:=C.c f [Fl 0,Fl 13830554455654793216] (Fl 9223372036854775808) none
end
section
variable{P:Program} (hm:P.follows .mixedOrders=true) {f:Nat}
include hm
theorem XX.ok(D:bK P f=some EY):XX.Spec (Pure P) f:=by
 show(Pure P).c f _ _ none
 refine aq hm D [] rfl ?_;try simp only[I,RX,↓KW,seval,EY,Z.H]
 try rfl
theorem XY.ok(D:bK P f=some tI):XY.Spec (Pure P) f:=by
 show(Pure P).c f _ _ none
 refine aq hm D [] rfl ?_;try simp only[RX,↓KW,seval,tI,Z.H]
 try rfl
theorem qg.ok{fP fN fI fC e e2:Nat} (hc:bK P f=some (ot fP fN fI fC e e2)) (hP:Place.Spec (Pure P) fP) (hN:Uw.Spec (Pure P) fN) (hI:XX.Spec (Pure P) fI) (hC:XY.Spec (Pure P) fC):qg.Spec (Pure P) f:=by
 intro l wild;refine aq hm hc [3] rfl ?_;try simp only[B,RX,↓KW,seval,ot,Z.H]
 refine aG (λi:Nat=>(⟨[(9,.dat (I i) none),(0,.dat (aI aH l) none),(1,.dat (B wild) none),(5,bN Fr.cells (kL wild (l.getD []) i).2 0),(6,.ptr 6 0),(7,.dat (I (kL wild (l.getD []) i).1.Ja) none),(8,.ptr 9 0)],[(6,⟨(kL wild (l.getD []) i).1.xs.map fv,[]⟩),(9,⟨Cw (kL wild (l.getD []) i).1,[]⟩)],cm (kL wild (l.getD []) i).2 0 e2,400⟩:S)) (λi=>120-i) (λi=>i<=min (l.getD []).length 120) ?_ 0 ado ?_
 rotate_left
 ·refine ai adp ?_ ?_ ?_ ?_<;>simp[LX,I,B,kL,Cw,JY,fv,List.replicate]
 intro i hi A back
 have bl:=aC (k:=i) ado
 have ar:=FE wild (l.getD []) i
 have ab:=Ql (wild:=wild) (l:=l.getD []) (i:=i) ado
 have aa:kL wild (l.getD []) (i+1)=if(kL wild (l.getD []) i).2.length<1500 then R7 wild (scV (l.getD []) i) (kL wild (l.getD []) i)else kL wild (l.getD []) i:=rfl
 generalize hx:kL wild (l.getD []) i=x at*;obtain⟨c,out⟩:=x;simp only at ar ab aa
 have c6:Tp (some (bN Fr.cells out 0))=some (aI Fr.cells (ez out)):=R9 ..
 have b5:zN (aI Fr.cells (ez out))=some (I out.length):=Sa ..
 have b4:=λk=>Oh Fr.cells out 0 k
 have ae:∀r,out=r->aj (aaT (some (bN Fr.cells out 0))) λp=>p.1=aI Fr.cells (ez r):=by
  intro r hr;subst hr;exact abP ..
 have an:=dC c6 (dC b5 (b4))
 try simp only[I,B,RY,↓KW,seval]
 rcases bc (decide ((i:Int)<((l.getD []).length:Int)))with h1|h1
 ·try simp only[RY,↓KW,seval,h1]
  exact ae _ (ab (.inl (by have:=dT h1;omega)))
 rcases bc (decide ((i:Int)<120))with h2|h2
 ·try simp only[RY,↓KW,seval,h1,h2]
  exact ae _ (ab (.inl (by have:=dT h2;omega)))
 rcases bc (decide ((out.length:Int)<1500))with h3|h3
 ·try simp only[I,RY,↓KW,seval,h1,h2,h3,an]
  exact ae _ (ab (.inr (by have:=dT h3;omega)))
 have a1:=dE h1
 have a2:=dE h2
 have a3:=dE h3
 rw[fp ado]at aa
 obtain⟨y,hy⟩:∃y,(l.getD [])[i]? =some y:=⟨_,eh ado⟩
 have b3:(l.getD []).getD i 0=y:=by rw[em,hy];rfl
 have hv:=abO (l.getD []) i
 rw[b3]at hv
 obtain⟨v,ch⟩:∃v,scV (l.getD []) i=v:=⟨_,rfl⟩
 rw[ch]at hv aa
 have hb:0<=(i:Int)/\(i:Int)<((l.getD []).length:Int):=ado
 have cP:=hP y 1099511627776 ado
 rw[<-hv.1]at cP
 have n1:IntKind.i64.wrap ((v:Int).tdiv 16)=((v/16:Nat):Int):=by rw[show(v:Int).tdiv 16=((v/16:Nat):Int)from rfl,aU ado ado]
 have n2:((v/16:Nat):Int).tmod 64=((iU v:Nat):Int):=rfl
 have n3:IntKind.i64.wrap ((v:Int).tdiv 1024)=((v/1024:Nat):Int):=by rw[show(v:Int).tdiv 1024=((v/1024:Nat):Int)from rfl,aU ado ado]
 have n4:IntKind.i64.wrap (1+((v/1024:Nat):Int).tmod 30)=((XU v:Nat):Int):=by rw[show((v/1024:Nat):Int).tmod 30=((v/1024%30:Nat):Int)from rfl,aU ado ado];rfl
 have n5:(v:Int).tmod 16=((v%16:Nat):Int):=rfl
 try simp only[I,RY,↓KW,seval,h2,h3,hy,hb,aH,an]
 refine af cP ?_;try simp only[I,RY,↓KW,seval,n1,n2,n3,n4,n5]
 apply XN (λy:Sc×On=>(⟨[(9,.dat (I i) none),(0,.dat (aI aH l) none),(1,.dat (B wild) none),(5,bN Fr.cells out 0),(6,.ptr 6 0),(7,.dat (I y.1.Ja) none),(8,.ptr 9 0),(12,.dat (I y.2.n) none),(13,.ptr 429 0)],[(6,⟨y.1.xs.map fv,[]⟩),(9,⟨Cw y.1,[]⟩),(429,⟨zI y.2,[]⟩)],cm out 0 e2,500⟩:S)) (λy=>y=jF wild v c)
 ·intro L
  have ad:=ar.1.xs
  have dl:(v:Int).tdiv 1024=((v/1024:Nat):Int):=rfl
  have c5:((iU v:Nat):Int).tmod 16=((iU v%16:Nat):Int):=rfl
  have m6:((iU v:Nat):Int).tmod 6=((iU v%6:Nat):Int):=rfl
  have m4:((iU v:Nat):Int).tmod 4=((iU v%4:Nat):Int):=rfl
  have m2:((iU v:Nat):Int).tmod 2=((iU v%2:Nat):Int):=rfl
  have cy:((iU v:Nat):Int).tmod 17=((iU v%17:Nat):Int):=rfl
  have bs:((v/1024:Nat):Int).tmod 256=((v/1024%256:Nat):Int):=rfl
  have ct:c.xs[iU v%16]? =some (c.xs.getD (iU v%16) none):=by rw[em,eh ado];rfl
  have x6:([.gn,.float .f64 9218868437227405312,.float .f64 9223372036854775808,.float .f64 4613937818241073152,.float .f64 4711630319722168320,.float .f64 4604930618986332160]:List AV)[iU v%6]? =some (fv (six.getD (iU v%6) none)):=alj (xs:=six) (by show iU v%6<6;omega)
  have sb:=alh (c.xs.getD (iU v%16) none)
  have st:=λx=>XV (xs:=c.xs) (k:=iU v%16) (x:=x) ado
  have df:0<=((iU v%16:Nat):Int)/\((iU v%16:Nat):Int)<16:=ado
  have b6:0<=((iU v%6:Nat):Int)/\((iU v%6:Nat):Int)<6:=ado
  have bm:iU v%16+1<=c.xs.length:=ado
  have ck:setCells [.aZ,.int .i64 0,.int .i64 0,.int .i64 0,.int .i64 0,.bool false] 0 [.aZ,.int .i64 0,.int .i64 0,.int .i64 0,.int .i64 0,.bool false]=zI (tJ v):=rfl
  have sf:∀(c:Sc) (x:Int),(Cw c).length=6/\(Cw c)[2]? =some (I c.ask)/\(Cw c)[3]? =some (I c.lines)/\setCells (Cw c) 2 [I x]=Cw {c with ask:=x}/\setCells (Cw c) 3 [I x]=Cw {c with lines:=x}:=λ_ _=>⟨rfl,rfl,rfl,rfl,rfl⟩
  have cu:=λc=>(sf c 0).1
  have c7:=λc=>(sf c 0).2.1
  have co:=λc=>(sf c 0).2.2.1
  have so:∀(o:On) (x:Int),setCells (zI o) 1 [I x]=zI {o with push:=x}/\setCells (zI o) 3 [I x]=zI {o with lines:=x}/\setCells (zI o) 4 [I x]=zI {o with ko:=x}:=λ_ _=>⟨rfl,rfl,rfl⟩
  have cr:∀(o:On) (x:Bool),setCells (zI o) 5 [B x]=zI {o with reset:=x}:=λ_ _=>rfl
  have c0:∀o:On,(zI o).length=6:=λ_=>rfl
  have s4:IntKind.i64.wrap (1*2^min (IntKind.u64.wrap ((iU v%4:Nat):Int)).toNat IntKind.i64.bits)=2^(iU v%4)/\0<=IntKind.u64.wrap ((iU v%4:Nat):Int):=by
   have:iU v%4=0\/iU v%4=1\/iU v%4=2\/iU v%4=3:=ado
   rcases this with h|h|h|h<;>rw[h]<;>decide
  have dj:iU v<64:=by unfold iU;omega
  have s5:IntKind.u64.wrap ((iU v:Nat):Int)=((iU v:Nat):Int):=by
   rw[IntKind.wrap];simp[IntKind.signed,IntKind.bits];omega
  have s6:IntKind.i64.wrap (256*2^min (iU v) IntKind.i64.bits)=agV (iU v):=rfl
  have s7:0<=((iU v:Nat):Int):=ado
  have n6:IntKind.i64.wrap (((XU v:Nat):Int)*6)=((XU v*6:Nat):Int):=by
   have:XU v<=30:=by unfold XU;omega
   rw[aU ado ado];omega
  have tn:((iU v:Nat):Int).toNat=iU v:=rfl
  have pf:∀ps,zc 0 1 (some .gn) (some ps)=some ((0,[.gn])::ps):=λ_=>rfl
  have al:=dC pf (dC s4.1 (dC s5 (dC s6 (dC s7 (dC tn (dC n6 (dC n3 (dC c5 (dC m6 (dC m4 (dC m2 (dC cy (dC bs (dC ct (dC x6 (dC sb (dC st (dC df (dC b6 (dC ad (dC bm (dC ali (dC XT (dC ck (dC sf (dC cu (dC c7 (dC co (dC so (dC cr (dC c0 (an))))))))))))))))))))))))))))))))
  rcases R8 v with e|e|e|e|e|e|e|e|e|e|e|e|e|e|e|e
  all_goals
   rw[e];try simp only[I,RY,↓KW,seval,al]
  iterate 3
   ·refine⟨ado,?_⟩
    have R:jF wild v c=({c with xs:=c.xs.set (iU v%16) (f20 (c.xs.getD (iU v%16) none))},tJ v):=by simp[jF,e]
    refine L _ _ R.symm ?_
    by_cases O:out=[]
    all_goals refine ai adp ?_ ?_ ?_ ?_<;>simp[LX,I,B,tJ,Cw,zI,O,bN,cm]
  ·refine af hN ?_
   try simp only[RY,↓KW,seval]
   refine af hI ?_;try simp only[RY,↓KW,seval]
   refine af hC ?_;try simp only[RY,↓KW,seval,al]
   refine⟨ado,?_⟩
   have R:jF wild v c=({c with xs:=c.xs.set (iU v%16) (six.getD (iU v%6) none)},tJ v):=by simp[jF,e]
   refine L _ _ R.symm ?_
   by_cases O:out=[]
   all_goals refine ai adp ?_ ?_ ?_ ?_<;>simp[LX,I,B,tJ,Cw,zI,O,bN,cm]
  iterate 2
   ·have R:jF wild v c=(c,{tJ v with push:=(v/1024%256:Nat)}):=by simp[jF,e]
    refine L _ _ R.symm ?_
    by_cases O:out=[]
    all_goals refine ai adp ?_ ?_ ?_ ?_<;>simp[LX,I,B,tJ,Cw,zI,O,bN,cm]
  ·refine⟨s4.2,?_⟩
   have R:jF wild v c=({c with ask:=TC .i64 c.ask (2^(iU v%4))},tJ v):=by simp[jF,e]
   refine L _ _ R.symm ?_
   by_cases O:out=[]
   all_goals refine ai adp ?_ ?_ ?_ ?_<;>simp[LX,I,B,tJ,Cw,zI,O,bN,cm]
  ·refine⟨s4.2,?_⟩
   have R:jF wild v c=(c,{tJ v with lines:=2^(iU v%4)}):=by simp[jF,e]
   refine L _ _ R.symm ?_
   by_cases O:out=[]
   all_goals refine ai adp ?_ ?_ ?_ ?_<;>simp[LX,I,B,tJ,Cw,zI,O,bN,cm]
  ·refine⟨s4.2,?_⟩
   have R:jF wild v c=({c with lines:=TC .i64 c.lines (2^(iU v%4))},tJ v):=by simp[jF,e]
   refine L _ _ R.symm ?_
   by_cases O:out=[]
   all_goals refine ai adp ?_ ?_ ?_ ?_<;>simp[LX,I,B,tJ,Cw,zI,O,bN,cm]
  ·have R:jF wild v c=(c,{tJ v with n:=XU v*6}):=by simp[jF,e]
   refine L _ _ R.symm ?_
   by_cases O:out=[]
   all_goals refine ai adp ?_ ?_ ?_ ?_<;>simp[LX,I,B,tJ,Cw,zI,O,bN,cm]
  ·have R:jF wild v c=({c with xs:=List.replicate 16 (some (FloatKind.f64.nearest (iU v%2*20:Nat)))},tJ v):=by simp[jF,e]
   have n7:IntKind.i64.wrap (((iU v%2:Nat):Int)*20)=((iU v%2*20:Nat):Int):=by rw[aU ado ado];omega
   obtain⟨w,hw⟩:∃w,FloatKind.f64.nearest (iU v%2*20:Nat)=w:=⟨_,rfl⟩
   rw[hw]at R
   refine aG (λd:Nat=>(⟨[(14,.dat (I d) none),(9,.dat (I i) none),(0,.dat (aI aH l) none),(1,.dat (B wild) none),(5,bN Fr.cells out 0),(6,.ptr 6 0),(7,.dat (I c.Ja) none),(8,.ptr 9 0),(11,.dat (I (iU v)) none),(12,.dat (I (XU v)) none),(13,.ptr 429 0)],[(6,⟨(Pa c.xs w d).map fv,[]⟩),(9,⟨Cw c,[]⟩),(429,⟨zI (tJ v),[]⟩)],cm out 0 e2,460⟩:S)) (λd=>16-d) (λd=>d<=16) ?_ 0 ado ?_
   rotate_left
   ·by_cases O:out=[]
    all_goals refine ai adp ?_ ?_ ?_ ?_<;>simp[LX,I,B,XW,tJ,Cw,zI,O,bN,cm]
   intro d hd A3 V
   have di:=aC (k:=d) ado
   rcases bc (decide ((d:Int)<16))with g|g
   ·have bo:d=16:=by have:=dT g;omega
    subst bo
    have b8:Pa c.xs w 16=List.replicate 16 (some w):=by have:=abS (xs:=c.xs) w;rw[ad]at this;exact this
    rw[b8];try simp only[I,B,RY,↓KW,seval]
    refine L _ _ R.symm ?_
    by_cases O:out=[]
    all_goals refine ai adp ?_ ?_ ?_ ?_<;>simp[LX,I,B,tJ,Cw,zI,O,bN,cm]
   ·have dp:d<16:=by have:=dE g;omega
    have ao:0<=(d:Int)/\(d:Int)<16:=ado
    have da:(Pa c.xs w d).length=16:=by rw[abR w ado];exact ad
    have ak:=XV (xs:=Pa c.xs w d) (k:=d) (x:=some w) ado
    rw[abQ w ado]at ak
    have ak:setCells ((Pa c.xs w d).map fv) d [.float .f64 w]=(Pa c.xs w (d+1)).map fv:=ak
    try simp only[I,B,RY,↓KW,seval,ao,ak,da,n7,hw,al]
    refine⟨ado,V (d+1) _ ado ado ?_⟩
    by_cases O:out=[]
    all_goals refine ai adp ?_ ?_ ?_ ?_<;>simp[LX,I,B,di,tJ,Cw,zI,O,bN,cm]
  ·have R:jF wild v c=({c with Ja:=iU v%17},tJ v):=by simp[jF,e]
   refine L _ _ R.symm ?_
   by_cases O:out=[]
   all_goals refine ai adp ?_ ?_ ?_ ?_<;>simp[LX,I,B,tJ,Cw,zI,O,bN,cm]
  ·have R:jF wild v c=({c with Ja:=16,lines:=0},tJ v):=by simp[jF,e]
   refine L _ _ R.symm ?_
   by_cases O:out=[]
   all_goals refine ai adp ?_ ?_ ?_ ?_<;>simp[LX,I,B,tJ,Cw,zI,O,bN,cm]
  ·have R:jF wild v c=(c,{tJ v with push:=if wild&&iU v%4==0 then agV (iU v)else 0,ko:=if wild&&iU v%4==1 then(v/1024%256:Nat)else 0,reset:=wild&&iU v%2==0}):=by simp[jF,e]
   have e0:(((iU v%4:Nat):Int)==0)=(iU v%4==0):=by rw[Pi];simp;omega
   have e1:(((iU v%4:Nat):Int)==1)=(iU v%4==1):=by rw[Pi];simp;omega
   have e2:(((iU v%2:Nat):Int)==0)=(iU v%2==0):=by rw[Pi];simp;omega
   obtain⟨b0,ce⟩:∃b,(iU v%4==0)=b:=⟨_,rfl⟩
   obtain⟨b1,ci⟩:∃b,(iU v%4==1)=b:=⟨_,rfl⟩
   obtain⟨b2,ao⟩:∃b,(iU v%2==0)=b:=⟨_,rfl⟩
   rw[ce]at e0 R;rw[ci]at e1 R;rw[ao]at e2 R
   have bi:=dC e0 (dC e1 (dC e2 (dC s6 (al))))
   rcases bc wild with hw|hw<;>rcases bc b0 with g0|g0<;>rcases bc b1 with g1|g1<;>rcases bc b2 with g2|g2
   all_goals
    subst hw g0 g1 g2;try simp only[RY,↓KW,seval,bi]
    try refine⟨s7,?_⟩
    try try simp only[I,B,D,RY,↓KW,seval,bi]
    refine L _ _ R.symm ?_
    by_cases O:out=[]
    all_goals refine ai adp ?_ ?_ ?_ ?_<;>simp[LX,I,B,tJ,Cw,zI,O,bN,cm]
  iterate 2
   ·have R:jF wild v c=(c,tJ v):=by simp[jF,e]
    refine L _ _ R.symm ?_
    by_cases O:out=[]
    all_goals refine ai adp ?_ ?_ ?_ ?_<;>simp[LX,I,B,tJ,Cw,zI,O,bN,cm]
 ·rintro _ rfl
  obtain⟨a5,cb⟩:=LG (wild:=wild) (v:=v) ar.1
  rw[R7]at aa;simp only at aa;generalize jF wild v c=y at*;obtain⟨M,o⟩:=y;simp only at a5 cb aa
  have ad:=a5.xs
  have dk:=a5.Ja
  have a8:=J7 M.Ja M.xs ado
  rw[List.map_take]at a8
  have cx:∀c:Sc,(Cw c).length=6/\(Cw c)[2]? =some (I c.ask)/\(Cw c)[3]? =some (I c.lines):=λ_=>⟨rfl,rfl,rfl⟩
  have ca:∀o:On,(zI o).length=6/\(zI o)[1]? =some (I o.push)/\(zI o)[3]? =some (I o.lines)/\(zI o)[4]? =some (I o.ko)/\(zI o)[5]? =some (B o.reset):=λ_=>⟨rfl,rfl,rfl,rfl,rfl⟩
  have ac:aI kC (ez (M.xs.take M.Ja))=if M.Ja=0 then .aZ else .sl ((M.xs.take M.Ja).map kC):=by
   unfold ez
   by_cases h0:M.Ja=0
   ·simp[h0,aI]
   ·have:¬(M.xs.take M.Ja=[]):=by intro h;have:=sd List.length h;rw[Fd]at this;simp only[ib]at this;omega
    simp[h0,this,aI]
  obtain⟨smp,a7⟩:∃x,aI kC (ez (M.xs.take M.Ja))=x:=⟨_,rfl⟩
  rw[a7]at ac
  have c4:∀j,(qH M o j).cells=[smp,I (if j=0 then o.push else 0),I M.ask,I (if j=0 then AW .i64 M.lines o.lines else M.lines),I (if j=0 then o.ko else 0),B (if j=0 then o.reset else false)]:=λj=>by rw[<-a7];rfl
  have db:out++(List.range 0).map (qH M o)=out:=adI
  try simp only[I,B,RY,↓KW,seval,ad]
  refine⟨⟨ado,ado⟩,⟨ado,ado⟩,?_⟩
  rcases bc (M.Ja==0)with h0|h0
  all_goals
   first|rw[fb (by simpa using h0)]at ac|rw[fp (by simpa using h0)]at ac
   try simp only[RY,↓KW,seval,h0,<-ac]
   refine aG (λj:Nat=>(⟨[(16,.dat (I j) none),(12,.dat (I o.n) none),(15,.dat (smp) none),(9,.dat (I i) none),(0,.dat (aI aH l) none),(1,.dat (B wild) none),(5,bN Fr.cells (out++(List.range j).map (qH M o)) 0),(6,.ptr 6 0),(7,.dat (I M.Ja) none),(8,.ptr 9 0),(13,.ptr 429 0)],[(6,⟨M.xs.map fv,[]⟩),(9,⟨Cw M,[]⟩),(429,⟨zI o,[]⟩)],cm (out++(List.range j).map (qH M o)) 0 e2,600⟩:S)) (λj=>200-j) (λj=>j<=min o.n (1500-out.length)) ?_ 0 ado ?_
   rotate_left
   ·rw[db]
    by_cases O:out=[]
    all_goals refine ai adp ?_ ?_ ?_ ?_<;>simp[LX,I,B,ac,a8,O,bN,cm]
   intro j hj A3 V
   have c8:=aC (k:=j) ado
   have am:=c4 j
   have b7:(List.range (j+1)).map (qH M o)=(List.range j).map (qH M o)++[qH M o j]:=by simp[lj]
   have a4:(out++(List.range j).map (qH M o)).length=out.length+j:=adI
   have ba:out++(List.range (j+1)).map (qH M o)=(out++(List.range j).map (qH M o))++[qH M o j]:=by rw[b7,List.append_assoc]
   have bw:Ia M o out=out++(List.range (min o.n (1500-out.length))).map (qH M o):=rfl
   have cp:Tp (some (bN Fr.cells (out++(List.range j).map (qH M o)) 0))=some (aI Fr.cells (ez (out++(List.range j).map (qH M o)))):=R9 ..
   have be:zN (aI Fr.cells (ez (out++(List.range j).map (qH M o))))=some (I (out++(List.range j).map (qH M o)).length):=Sa ..
   have ag:j=min o.n (1500-out.length)->kL wild (l.getD []) (i+1)=(M,out++(List.range j).map (qH M o)):=by intro h;rw[aa,bw,<-h]
   have a9:=λk=>Oh Fr.cells (out++(List.range j).map (qH M o)) 0 k
   rw[a4]at be a9;generalize hq:out++(List.range j).map (qH M o)=q at*;generalize qH M o j=fr at*
   have au:=dC ca (dC cx (dC c8 (dC cp (dC be (dC a9 (an))))))
   try simp only[I,B,RY,↓KW,seval]
   rcases bc (decide ((j:Int)<((o.n:Nat):Int)))with g1|g1
   ·try simp only[RY,↓KW,seval,g1]
    refine back (i+1) _ ado ado ?_
    have he:=ag (by have:=dT g1;omega)
    by_cases O:q=[]
    all_goals refine ai adp ?_ ?_ ?_ ?_<;>simp[LX,I,B,bl,he,O,bN,cm]
   rcases bc (decide (((out.length+j:Nat):Int)<1500))with g2|g2
   ·try simp only[I,RY,↓KW,seval,g1,g2,au]
    refine back (i+1) _ ado ado ?_
    have he:=ag (by have:=dT g2;omega)
    by_cases O:q=[]
    all_goals refine ai adp ?_ ?_ ?_ ?_<;>simp[LX,I,B,bl,he,O,bN,cm]
   have c1:=dE g1
   have c3:=dE g2
   have bd:∀a b c d e g a' b' c' d' e' g':AV,setCells [a,b,c,d,e,g] 0 [a',b',c',d',e',g']=[a',b',c',d',e',g']:=λ_ _ _ _ _ _ _ _ _ _ _ _=>rfl
   have cv:∀a b c d e g h:AV,setCells [a,b,c,d,e,g] 1 [h]=[a,h,c,d,e,g]/\setCells [a,b,c,d,e,g] 3 [h]=[a,b,c,h,e,g]/\setCells [a,b,c,d,e,g] 4 [h]=[a,b,c,d,h,g]/\setCells [a,b,c,d,e,g] 5 [h]=[a,b,c,d,e,h]:=λ_ _ _ _ _ _ _=>⟨rfl,rfl,rfl,rfl⟩
   have bj:smp.cells=[smp]/\iI smp none=true:=by rw[ac];first|exact⟨rfl,rfl⟩|(split<;>exact⟨rfl,rfl⟩)
   rcases bc ((j:Int)==0)with z|z
   ·have a6:¬j=0:=by intro h;rw[h]at z;simp at z
    simp only[fb a6]at am
    by_cases O:q=[]
    all_goals
     try simp only[I,RY,↓KW,seval,g1,g2,z,bN,cm,O,bj,bd,a4,au]
     first
      |refine V (j+1) _ ado ado ?_
      |refine⟨ado,λ_ _=>rfl,V (j+1) _ ado ado ?_⟩
     refine ai adp ?_ ?_ ?_ ?_<;>simp[LX,I,B,ba,am,O,bN,cm]
   ·have a6:j=0:=by simpa using z
    simp only[fp a6]at am
    by_cases O:q=[]
    all_goals
     try simp only[I,B,RY,↓KW,seval,g1,g2,z,bN,cm,O,bj,bd,cv,a4,au]
     first
      |refine V (j+1) _ ado ado ?_
      |refine⟨ado,λ_ _=>rfl,V (j+1) _ ado ado ?_⟩
     refine ai adp ?_ ?_ ?_ ?_<;>simp[LX,I,B,ba,am,O,bN,cm]
end
section
variable (t:Tb) (c:Cs) (h p g w:Int) (wild:Bool) (i:Nat) (l:List Int) (s:bD)
theorem AG:tb (iJ t c h p g w).u9 i=(decide (i<8)&&((aK t i).on&&GJ g c h i (aK t i))):=by
 simp only[iJ];rw[BD _ _ 8 ado,Lb]
theorem rD:tb (iJ t c h p g w).dm i=(decide (i<8)&&((aK t i).on&&uk w c p i (aK t i))):=by
 simp only[iJ];rw[BD _ _ 8 ado,Lb]
theorem Sb:tb (GK t c h) i=(decide (i<8)&&((aK t i).on&&Di c (GI t h) i (aK t i))):=by
 simp only[GK];rw[BD _ _ 8 ado,Lb]
theorem qh{x:Int} (h:x=0):(x !=0)=false:=by simp[h]
theorem Ib{t:Tb} {c:Cs} {h p g w:Int} (M:∀i,(tb c.u9 i=true->(decide (i<8)&&(aK t i).on)=true)/\(tb c.dm i=true->(decide (i<8)&&((aK t i).on&&decide (0<(aK t i).walk)))=true)):
  (bT .i64 (bC .i64 (bC .i64 c.u9 g) (iJ t c h p g w).u9) 255 !=0)=false/\
  (bT .i64 (bC .i64 (bC .i64 c.dm w) (iJ t c h p g w).dm) 255 !=0)=false/\
  (bT .i64 (iJ t c h p g w).u9 g !=0)=false/\
  (bT .i64 (iJ t c h p g w).dm w !=0)=false/\
  (bC .i64 (AW .i64 (iJ t c h p g w).u9 (iJ t c h p g w).dm) (yx t) !=0)=false/\
  (bC .i64 (GK t (iJ t c h p g w) h) (yx t) !=0)=false/\
  (bC .i64 (AW .i64 (iJ t c h p g w).u9 (iJ t c h p g w).dm) (GK t (iJ t c h p g w) h) !=0)=false/\
  ∀i,(tb (iJ t c h p g w).u9 i=true->(decide (i<8)&&(aK t i).on)=true)/\(tb (iJ t c h p g w).dm i=true->(decide (i<8)&&((aK t i).on&&decide (0<(aK t i).walk)))=true):=by
 refine⟨qh (and_zero.2 λi L=>?_),qh (and_zero.2 λi L=>?_),qh (and_zero.2 λi L=>?_),qh (and_zero.2 λi L=>?_),qh (nD.2 λi L=>?_),qh (nD.2 λi L=>?_),qh (nD.2 λi L=>?_),λi=>?_⟩
 ·rw[i4 _ _ _ L,i4 _ _ _ L,ux]
  by_cases D:i<8
  ·have:=(M i).1
   rw[AG];simp only[GJ,jd D,D,Id]at this⊢;revert this
   cases tb c.u9 i<;>cases tb g i<;>simp_all
  ·simp[D]
 ·rw[i4 _ _ _ L,i4 _ _ _ L,ux]
  by_cases D:i<8
  ·have:=(M i).2
   rw[rD];simp only[uk,jd D,D,Id]at this⊢;revert this
   cases tb c.dm i<;>cases tb w i<;>simp_all
  ·simp[D]
 ·by_cases D:i<8
  ·rw[AG];simp only[GJ,jd D]
   cases tb g i<;>simp
  ·rw[AG];simp[D]
 ·by_cases D:i<8
  ·rw[rD];simp only[uk,jd D]
   cases tb w i<;>simp
  ·rw[rD];simp[D]
 ·rw[JG,AG,rD,Rp]
  cases decide (i<8)<;>cases(aK t i).on<;>simp
 ·rw[Sb,Rp]
  cases decide (i<8)<;>cases(aK t i).on<;>simp
 ·by_cases D:i<8
  ·rw[JG,Sb];simp only[Di,jd D]
   have V:tb (iJ t c h p g w).dm i=true->(decide (0<(aK t i).walk))=true:=by
    rw[rD];simp[uk];intros;assumption
   have Z:tb (iJ t c h p g w).u9 i=true->(aK t i).on=true:=by rw[AG];simp;intros;assumption
   have O:tb (iJ t c h p g w).dm i=true->(aK t i).on=true:=by rw[rD];simp;intros;assumption
   cases R:tb (iJ t c h p g w).u9 i<;>cases h2:tb (iJ t c h p g w).dm i<;>simp_all
  ·rw[JG,AG,rD];simp[D]
 ·constructor
  ·rw[AG];simp;intros;simp_all
  ·rw[rD];simp[uk];intros;simp_all
def Fr.LH(x:Fr):E0:=⟨x.samples,x.push,x.ask,x.lines⟩
def runT(t:Tb) (D:List Fr):Nat->bD
 |0=>pW t
 |i+1=>rC t (runT t D i) (D.getD i default).LH
theorem Ic(x:E0):(rC t s x).Ok:=⟨DD ..,by simp[rC,rdE,xm,xl],J2⟩
theorem Uy(x:E0):((rC t s x).iK.getD []).length=nDt t:=by
 rw[rC,HZ,dB];simp[rz]
def Qm(D:List Fr):Prop:=∀x∈D,(x.samples.getD []).length<=1000000
theorem XZ{wild:Bool} {l:List Int}:∀i,Qm (kL wild l i).2
 |0=>λx D=>by simp[kL]at D
 |i+1=>by
  have M:=XZ (wild:=wild) (l:=l) i
  have L:=(FE wild l i).1
  rw[kL];split
  ·intro x D
   simp only[R7,Ia,lr,mi]at D
   rcases D with D|⟨j,_,rfl⟩
   ·exact M x D
   ·have:=(LG (wild:=wild) (v:=scV l i) L).1.xs
    simp only[qH,dB,Fd];omega
  ·exact M
theorem kM:Qm (gD wild l):=XZ _
theorem kN:(gD wild l).length<=1500:=(FE wild l _).2
end
section
variable (p:Ph) (r:Rn) {l:List Rn} {t:Tb} {x y:Pr} (c:Cu)
structure X0 (t:Tb) (x:Pr):Prop where
 rng:0<=x.ax/\x.ax<6
 which:x.ax≠0->0<=x.which/\x.which<(nR t:Int)
 zero:x.ax=0->x.which=0
theorem DG(h:x.which=y.which):bn t x=bn t y:=by rw[bn,bn,h]
theorem Qn(h:x.which=y.which):jv t x l=jv t y l:=by rw[jv,jv,DG h]
theorem LI(h:x.which=y.which):gC t x l=gC t y l:=by rw[gC,gC,DG h]
theorem Cx(lines:Int) (l:List Rn) (h:X0 t x):X0 t (iH t x lines l).1/\
  (((iH t x lines l).2=⟨0,0,0,true,false⟩/\x.ax=0/\(iH t x lines l).1.ax=0)\/
   ((iH t x lines l).2=jv t x l/\x.ax=5/\(iH t x lines l).1.ax=0/\gC t x l=0)\/
   (1<=(iH t x lines l).1.ax/\(iH t x lines l).1.ax<6/\(iH t x lines l).2=mD t (iH t x lines l).1 l (iH t x lines l).1.ax)):=by
 have hx:=h.rng
 have hw:=h.which
 have hz:=h.zero
 have hu:HY (iE t x lines)=iE t x lines:=fb (by show ¬(x.ax<0\/6<=x.ax);omega)
 have Z:(iE t x lines).ax=x.ax:=rfl
 have V:(iE t x lines).which=x.which:=rfl
 have hr:iH t x lines l=jK t (iE t x lines) l:=by rw[iH,XF,hu]
 rw[hr]
 have e3:=Qn (t:=t) (l:=l) V
 have e4:=LI (t:=t) (l:=l) V
 generalize iE t x lines=u at*;rw[<-Z,<-V]at hw;rw[<-Z]at hx;rw[<-Z,<-V]at hz;rw[<-e3,<-e4,<-Z];clear Z V e3 e4 hr hu;unfold jK;split
 ·rename_i hk
  obtain⟨h1,h2⟩:=Qi hk
  have aa:=J3 t u
  exact⟨⟨by show(0:Int)<=1/\(1:Int)<6;omega,λ_=>(by show 0<=aQ t u/\aQ t u<_;omega),λe=>(by cases e)⟩,.inr (.inr ⟨by show(1:Int)<=1;omega,by show(1:Int)<6;omega,rfl⟩)⟩
 ·split
  ·rename_i _ R
   have e:aF t u l=(gC t u l,u):=by rw[aF,fb ado,fb ado,fb ado,fb ado,fb ado]
   rw[e]at R⊢
   exact⟨⟨by show(0:Int)<=0/\(0:Int)<6;omega,λe=>absurd rfl e,λ_=>rfl⟩,.inr (.inl ⟨rfl,R.1,rfl,R.2⟩)⟩
  ·rename_i _ R
   have L:=mX t u l
   have D:(aF t u l).1≠0->0<=(aF t u l).2.which/\(aF t u l).2.which<(nR t:Int):=by
    intro O
    have ac:u.ax≠0:=by
     intro e
     apply O
     simp[aF,e]
    have hk:=hw ac
    unfold aF
    repeat' split
    all_goals first|exact hk|skip
    unfold iT
    have ab:(iu t u).which=u.which:=by unfold iu;split<;>rfl
    split
    ·exact hk
    ·split
     ·rename_i h0
      have aa:=J3 t (iu t u)
      exact⟨h0,by show aQ t (iu t u)<_;omega⟩
     ·rw[ab];exact hk
   have hzero:(aF t u l).1=0->u.ax=0/\(aF t u l).2=u:=by
    intro M
    by_cases e:u.ax=0
    ·exact⟨e,by simp[aF,e]⟩
    exfalso;revert M R;simp only[aF,jf,iS,gH,iT]
    repeat' split
    all_goals(simp only[];omega)
   refine⟨⟨L,λO=>D O,λM=>?_⟩,?_⟩
   ·obtain⟨a,b⟩:=hzero M
    show(aF t u l).2.which=0
    rw[b];exact hz a
   ·by_cases M:(aF t u l).1=0
    ·obtain⟨a,b⟩:=hzero M
     refine .inl ⟨?_,a,M⟩
     show mD t _ l (aF t u l).1=_
     rw[M];rfl
    ·exact .inr (.inr ⟨by show 1<=(aF t u l).1;omega,L.2,rfl⟩)
structure X1 (p:Ph) (r:Rn):Prop where
 col:0<=r.az/\r.az<=3
 dm:0<=r.fst/\r.fst<=2
 stop:r.fst=0->r.bI=0
 off:r.az≠1->r.fst=0
 done:r.az=1->r.done=true->p.min<=r.time/\r.fst=0
theorem DH(st time:Int) (b:Bool):(JW p st time b=(2,1)/\st=1/\p.walk<=time)\/(JW p st time b=(0,0)/\st=2/\p.cz<=time)\/(JW p st time b=(1,bt time)/\st=1/\time<p.walk)\/(JW p st time b=(2,bt time)/\st=2/\time<p.cz)\/((JW p st time b=(1,1)\/JW p st time b=(0,0))/\st≠1/\st≠2):=by
 unfold JW
 by_cases L:st=1
 ·subst L
  by_cases h:time>=p.walk
  ·left;simp[h]
  ·right;right;left;simp[h];omega
 ·by_cases D:st=2
  ·subst D
   by_cases h:time>=p.cz
   ·right;left;simp[h]
   ·right;right;right;left;simp[h];omega
  ·right;right;right;right
   refine⟨?_,L,D⟩
   simp only[show(st==1)=false by simpa using L,show(st==2)=false by simpa using D,px,eQ,il,QR]
   split
   ·exact .inl rfl
   ·exact .inr rfl
theorem yM:(HF p r c=(2,1)/\r.fst=1/\(p.walk<=r.bI\/c.cut=true))\/(HF p r c=(0,0)/\r.fst=2/\p.cz<=r.bI)\/(HF p r c=(1,bt r.bI)/\r.fst=1/\r.bI<p.walk)\/(HF p r c=(2,bt r.bI)/\r.fst=2/\r.bI<p.cz)\/((HF p r c=(1,1)\/HF p r c=(0,0))/\r.fst≠1/\r.fst≠2):=by
 unfold HF;split
 ·rename_i h
  simp only[ed,l4]at h
  left
  exact⟨by rw[Us,h.2];rfl,h.2,.inr h.1⟩
 ·rcases DH p r.fst r.bI (c.push&& !c.bO)with⟨a,b,d⟩|h
  ·exact .inl ⟨a,b,.inl d⟩
  ·exact .inr h
theorem abT{x m:Int} (h:m<=x) (D:m<=9999):m<=bt x:=by
 have:bt x=gM x 0 9999+1:=aU (by unfold gM;split<;>(try split)<;>omega) (by unfold gM;split<;>(try split)<;>omega)
 rw[this];unfold gM;split
 ·omega
 ·split<;>omega
structure alk (p:Ph) (r:Rn) (c:Cu) (r':Rn):Prop where
 green:r.az=1->c.fin=false->r'.az=1/\r'.time=bt r.time/\r'.fst=(HF p r c).1/\r'.bI=(HF p r c).2
 fin:r.az=1->c.fin=true->r'.az=2/\r'.time=1/\r'.fst=0/\r'.bI=0
 dD:r.az=2->(r'.fst=0/\r'.bI=0)/\((r.time<p.dD/\r'.az=2/\r'.time=bt r.time)\/(p.dD<=r.time/\0<p.red/\r'.az=3/\r'.time=1)\/(p.dD<=r.time/\p.red<=0/\r'.az=0/\r'.time=1))
 clear:r.az=3->(r'.fst=0/\r'.bI=0)/\((r.time<p.red/\r'.az=3/\r'.time=bt r.time)\/(p.red<=r.time/\r'.az=0/\r'.time=1))
 red:dN r=true->c.start=false->r'.az=0/\r'.time=bt r.time/\r'.fst=0/\r'.bI=0
 start:dN r=true->c.start=true->r'.az=1/\r'.time=1/\((r'.fst=1/\r'.bI=1)\/(r'.fst=0/\r'.bI=0))/\r'.done=false
theorem AH:alk p r c (bG p r c):=by
 have L:dN r=true↔(r.az≠1/\r.az≠2/\r.az≠3):=by simp[dN]
 constructor
 ·intro D M
  have e:bG p r c=gx p r c:=by simp[bG,D]
  rw[e,gx,M];simp only[eQ,il];split
  ·exact⟨rfl,rfl,rfl,rfl⟩
  ·split<;>exact⟨rfl,rfl,rfl,rfl⟩
 ·intro D M
  have e:bG p r c=gx p r c:=by simp[bG,D]
  rw[e,gx,M];simp only[kw]
  split<;>exact⟨rfl,rfl,rfl,rfl⟩
 ·intro D
  have e:bG p r c=lP p r:=by simp[bG,D]
  rw[e,lP];split
  ·exact⟨⟨rfl,rfl⟩,.inl ⟨by assumption,rfl,rfl⟩⟩
  ·split
   ·exact⟨⟨rfl,rfl⟩,.inr (.inl ⟨ado,ado,rfl,rfl⟩)⟩
   ·exact⟨⟨rfl,rfl⟩,.inr (.inr ⟨ado,ado,rfl,rfl⟩)⟩
 ·intro D
  have e:bG p r c=sg p r:=by simp[bG,D]
  rw[e,sg];split
  ·exact⟨⟨rfl,rfl⟩,.inl ⟨by assumption,rfl,rfl⟩⟩
  ·exact⟨⟨rfl,rfl⟩,.inr ⟨ado,rfl,rfl⟩⟩
 ·intro D M
  obtain⟨a,b,d⟩:=L.1 D
  have e:bG p r c=Fg p r c:=by simp[bG,a,b,d]
  rw[e,Fg,M];exact⟨rfl,rfl,rfl,rfl⟩
 ·intro D M
  obtain⟨a,b,d⟩:=L.1 D
  have e:bG p r c=Fg p r c:=by simp[bG,a,b,d]
  rw[e,Fg,M];simp only[kw];refine⟨rfl,rfl,?_,rfl⟩
  show((JW p 0 0 c.push).1=1/\(JW p 0 0 c.push).2=1)\/((JW p 0 0 c.push).1=0/\(JW p 0 0 c.push).2=0)
  rcases DH p 0 0 c.push with⟨_,h,_⟩|⟨_,h,_⟩|⟨_,h,_⟩|⟨_,h,_⟩|⟨h,_⟩
  ·cases h
  ·cases h
  ·cases h
  ·cases h
  ·rcases h with h|h<;>rw[h]<;>simp
theorem mY{r:Rn} (h:0<=r.az/\r.az<=3):(r.az=0/\dN r=true)\/(r.az=1/\dN r=false)\/(r.az=2/\dN r=false)\/(r.az=3/\dN r=false):=by
 have:r.az=0\/r.az=1\/r.az=2\/r.az=3:=ado
 rcases this with e|e|e|e<;>simp[dN,e]
theorem abU{p:Ph} {r:Rn} (hm:p.min<=9999) (h:X1 p r):X1 p (bG p r c):=by
 have o:=AH p r c
 have hd:(bG p r c).az=1->r.az=1->c.fin=false->(bG p r c).done=true->p.min<=(bG p r c).time/\(bG p r c).fst=0:=by
  intro _ h1 h2 V;obtain⟨g1,g2,g3,g4⟩:=o.green h1 h2
  have hf:=yM p r c
  have e:bG p r c=gx p r c:=by simp[bG,h1]
  have D:(eH p (iG p r c) c=true)\/(iG p r c).done=true:=by
   rw[e,gx,h2]at V;simp only[eQ,il]at V;split at V
   ·exact .inr V
   ·split at V
    ·rename_i hh;exact .inl hh
    ·exact .inr V
  rcases D with D|D
  ·simp only[eH,ed,ii,pA,gT,Hn,wc]at D
   obtain⟨⟨⟨_,k1⟩,k2⟩,_⟩:=D
   refine⟨by rw[g2];exact k1,?_⟩
   have k3:(HF p r c).1≠1/\(HF p r c).1≠2:=k2
   rw[g3]
   rcases hf with⟨a,_⟩|⟨a,_⟩|⟨a,_⟩|⟨a,_⟩|⟨a|a,_⟩<;>rw[a]at k3⊢<;>simp at k3⊢
  ·have L:(if cg p r c then false else r.done)=true:=D
   have R:cg p r c=false:=by
    cases M:cg p r c
    ·rfl
    ·rw[M]at L;cases L
   rw[R]at L;obtain⟨m1,m2⟩:=h.done h1 L
   refine⟨by rw[g2];exact abT m1 hm,?_⟩
   rw[g3]
   have O:(HF p r c).1≠1:=by
    simp only[cg,gT,m2]at R
    simpa using R
   rcases hf with⟨a,b,_⟩|⟨a,b,_⟩|⟨a,b,_⟩|⟨a,b,_⟩|⟨a|a,_⟩
   ·omega
   ·rw[a]
   ·omega
   ·omega
   ·rw[a]at O;exact absurd rfl O
   ·rw[a]
 rcases mY h.col with⟨e,Z⟩|⟨e,Z⟩|⟨e,Z⟩|⟨e,Z⟩
 ·cases M:c.start
  ·obtain⟨a,b,d,g⟩:=o.red Z M
   exact⟨ado,ado,λ_=>g,λ_=>d,λk=>ado⟩
  ·obtain⟨a,b,d,g⟩:=o.start Z M
   exact⟨ado,ado,λk=>ado,λk=>ado,λ_ k=>by rw[g]at k;cases k⟩
 ·cases M:c.fin
  ·obtain⟨a,b,d,g⟩:=o.green e M
   refine⟨ado,?_,λk=>?_,λk=>absurd a k,λk1 k2=>hd k1 e M k2⟩
   ·rw[d]
    rcases yM p r c with⟨x,_⟩|⟨x,_⟩|⟨x,_⟩|⟨x,_⟩|⟨x|x,_⟩<;>rw[x]<;>simp
   ·rw[d]at k
    rw[g]
    rcases yM p r c with⟨x,_⟩|⟨x,_⟩|⟨x,_⟩|⟨x,_⟩|⟨x|x,_⟩<;>rw[x]at k⊢<;>simp at k⊢
  ·obtain⟨a,b,d,g⟩:=o.fin e M
   exact⟨ado,ado,λ_=>g,λ_=>d,λk=>ado⟩
 ·obtain⟨⟨d,g⟩,a⟩:=o.dD e
  exact⟨ado,ado,λ_=>g,λ_=>d,λk=>ado⟩
 ·obtain⟨⟨d,g⟩,a⟩:=o.clear e
  exact⟨ado,ado,λ_=>g,λ_=>d,λk=>ado⟩
end
end Go.Eng
