/- Part 11 of the engine and its library. -/
import Derived.Test.YtdfplndcbbofjaaGreatPkS10
set_option linter.all false
set_option maxRecDepth 10000
set_option maxHeartbeats 4000000
namespace Go.Eng
open Go
section
variable (t:Tb) (C:bk) {α:Type} (f:Nat) (g k p:Int)
def kV:Int:=gh ((iC (qW t)).map λp=>gF [(aD t p).bQ,(aD t p).red])
def clear.Spec:Prop:=∀(t:Tb),t.Ok->C.c f [.agg t.cells] (I (kV t)) none
def dW:Int:=if mA (qW t) p then gF [gh [gU (aD t p).min,gF [(aD t p).walk,(aD t p).bR],gU (aD t p).top],t.extend,(aD t p).bQ,(aD t p).red,t.revert,8]else 0
def serve.Spec:Prop:=∀(t:Tb) (p:Int),t.Ok->C.c f [.agg t.cells,I p] (I (dW t p)) none
def f9(n:Nat):List Int:=8::(((aO t).take n).filter (λx=>x.group==g)).map (λx=>dW t x.p)
def dX:Int:=if g<0\/((t.groups.getD []).length:Int)<=g then 0 else gF (f9 t g (aO t).length)
def pass.Spec:Prop:=∀(t:Tb) (g:Int),t.Ok->C.c f [.agg t.cells,I g] (I (dX t g)) none
def ig:Int:=if(aA t p).2&&mA (qW t) p then gF (dX t (aA t p).1.group::(List.range (t.groups.getD []).length).map λ(g:Nat)=>dX t g)else 0
def free.Spec:Prop:=∀(t:Tb) (p:Int),t.Ok->C.c f [.agg t.cells,I p] (I (ig t p)) none
def u9:Rl:=(t.bp.getD []).getD k.toNat default
def pQ:Int:=if k<0\/((t.bp.getD []).length:Int)<=k then 0 else
 gF [(u9 t k).delay,(u9 t k).hold,(u9 t k).green,(u9 t k).green,(u9 t k).dz,(u9 t k).dz,(u9 t k).dz,kV t,kV t,kV t,kV t,kV t,t.revert,t.revert,t.revert,60]
def entry.Spec:Prop:=∀(t:Tb) (k:Int),t.Ok->C.c f [.agg t.cells,I k] (I (pQ t k)) none
theorem Bh{s p:Int} (h:mA s p=true):0<=p/\p<8:=by
 simp only[mA,dT,gn]at h;exact h.1
theorem zn{s p:Int} (h:p∈iC s):0<=p/\p<8:=Bh (sa.1 h).2
theorem Dt(s:Int):(iC s).length<=8:=by
 have:=xc (mA s) ((List.range 8).map λ(k:Nat)=>(k:Int))
 simpa[iC]using this
theorem de(l:List α):(dB l).getD []=l:=by unfold dB;split<;>simp_all
theorem ur{β:Type} {f:α->β} {l:List α} {i:Nat} {x:α} (h:l[i]? =some x):(l.take (i+1)).map f=(l.take i).map f++[f x]:=by rw[gV h];simp
theorem Gg{t:Tb} {g:Int} {k:Nat} {x:Sp} (h:(aO t)[k]? =some x):f9 t g (k+1)=if x.group==g then f9 t g k++[dW t x.p]else f9 t g k:=by
 unfold f9;rw[gV h,yv,np]
 by_cases A:x.group==g<;>simp[A]
theorem Bi(k:Nat):(f9 t g k).length<=k+1:=by
 have:=xc (λx:Sp=>x.group==g) ((aO t).take k)
 have A:((aO t).take k).length<=k:=List.length_take_le _ _
 simp only[f9,fl,wa];omega
end
section
variable{P:Program} (hm:P.follows .mixedOrders=true) {f:Nat}
include hm
theorem clear.ok{fO fL e fS fM:Nat} (hc:bY P f=some (rT fO fL e fS fM)) (hO:on.Spec (Pure P) fO) (hL:pO.Spec (Pure P) fL e) (hS:wD.Spec (Pure P) fS) (hM:most.Spec (Pure P) fM):clear.Spec (Pure P) f:=by
 intro t ht
 have hp:=Tb.whole ht
 refine aq hm hc [] rfl ?_;try simp only[I,RX,↓KW,seval,rT,Z.H,hp]
 refine ah (hO t ht) ?_;try simp only[I,RX,↓KW,seval]
 refine ah (hL _ none (.inl rfl)) ?_;try simp only[RX,↓KW,seval]
 have ae:=Dt (qW t)
 have ac:=@zn (qW t)
 have R:∀G,G=(iC (qW t)).map (λp=>gF [(aD t p).bQ,(aD t p).red])->kV t=gh G:=λG h=>by rw[h];rfl
 generalize iC (qW t)=L at*
 generalize hF:(λp=>gF [(aD t p).bQ,(aD t p).red])=F at*
 have ab:∀p,F p=gF [(aD t p).bQ,(aD t p).red]:=λp=>by rw[<-hF]
 have ad:=de L
 refine aN (λk:Nat=>(⟨[(10,.dat (I k) none),(9,.dat (I L.length) none),(8,.dat (aI aE (dB L)) none),(1,.ptr 4 0),(3,br aE ((L.take k).map F) 0)],[(4,⟨t.cells,[]⟩)],bG ((L.take k).map F) 0 e,400⟩:S)) (λk=>L.length-k) (λk=>k<=L.length) ?_ 0 ST ?_
 ·intro k hk A back
  have hw:=aG (k:=k) ST
  by_cases hl:(L.take k).map F=[]
  all_goals
   try simp only[I,RX,↓KW,seval,br,bG,hl]
   refine az (λh=>?_) (λh=>?_)<;>try simp only[RX,↓KW,seval,ad,h]
  ·have aa:k<L.length:=by have:=dE h;omega
   obtain⟨x,V⟩:∃x,L[k]? =some x:=⟨_,et aa⟩
   have hn:=ur (f:=F) V
   have O:=ac (ev V)
   have M:=Tb.Ev ht O.1 O.2
   refine⟨ST,?_⟩
   try simp only[I,RX,↓KW,seval,V,aE]
   refine⟨ST,?_⟩
   try simp only[I,RX,↓KW,seval,M]
   refine⟨ST,?_⟩
   try simp only[I,B,D,RX,↓KW,seval,M]
   refine ah (hS (some [(aD t x).bQ,(aD t x).red]) TB) ?_
   try simp only[I,RX,↓KW,seval]
   refine back (k+1) _ ST ST (ai Ts ?_ ?_ ?_ ?_)<;>simp[LX,I,hn,hl,hw,ab]
  ·have:k=L.length:=by have:=dC h;omega
   subst this;try simp only[I,B,D,RX,↓KW,seval]
   rw[l0]at hl
   refine ah (hM none TB) ?_
   try simp only[I,RX,↓KW,seval]
   simp[R _ rfl,hl]
  ·have aa:k<L.length:=by have:=dE h;omega
   obtain⟨x,V⟩:∃x,L[k]? =some x:=⟨_,et aa⟩
   have hn:=ur (f:=F) V
   have O:=ac (ev V)
   have M:=Tb.Ev ht O.1 O.2
   refine⟨ST,?_⟩
   try simp only[I,RX,↓KW,seval,V,aE]
   refine⟨ST,?_⟩
   try simp only[I,RX,↓KW,seval,M]
   refine⟨ST,?_⟩
   try simp only[I,B,D,RX,↓KW,seval,M]
   refine ah (hS (some [(aD t x).bQ,(aD t x).red]) TB) ?_
   try simp only[I,RX,↓KW,seval]
   refine⟨by simp;omega,?_⟩
   refine back (k+1) _ ST ST (ai Ts ?_ ?_ ?_ ?_)<;>simp[LX,I,hn,hw,ab]
  ·have:k=L.length:=by have:=dC h;omega
   subst this;rw[l0]at*;try simp only[I,B,D,RX,↓KW,seval]
   refine ah (hM (some (L.map F)) (by simp;omega)) ?_
   try simp only[I,RX,↓KW,seval]
   simp[R _ rfl]
 ·refine ai Ts ?_ ?_ ?_ ?_<;>simp[LX,I,ad]
theorem serve.ok{fO fH fC e V R:Nat} (hc:bY P f=some (mz fO fH fC e V R)) (hO:on.Spec (Pure P) fO) (hH:pN.Spec (Pure P) fH) (hC:Cap.Spec (Pure P) fC) (hS:wD.Spec (Pure P) V) (hM:most.Spec (Pure P) R):serve.Spec (Pure P) f:=by
 intro t p ht
 have hp:=Tb.whole ht
 have A:=Tb.tail_at ht
 have D:=A 0 ST
 have L:=A 3 ST
 refine aq hm hc [] rfl ?_;try simp only[I,RX,↓KW,seval,mz,Z.H,hp]
 refine ah (hO t ht) ?_;try simp only[I,RX,↓KW,seval]
 refine ah (hH _ _) ?_;try simp only[B,RX,↓KW,seval]
 by_cases h:mA (qW t) p=true
 ·have hr:=Bh h
  have O:=Tb.NZ ht hr.1 hr.2
  have M:dW t p=gF [gh [gU (aD t p).min,gF [(aD t p).walk,(aD t p).bR],gU (aD t p).top],t.extend,(aD t p).bQ,(aD t p).red,t.revert,8]:=gc h
  generalize aD t p=x at*;try simp only[RX,↓KW,seval,h]
  refine⟨ST,?_⟩
  try simp only[I,B,RX,↓KW,seval,O,Ph.cells,f8]
  refine ah (hC _) ?_;try simp only[I,RX,↓KW,seval]
  refine ah (hS (some [x.walk,x.bR]) TB) ?_
  try simp only[I,RX,↓KW,seval]
  refine ah (hC _) ?_;try simp only[I,RX,↓KW,seval]
  refine ah (hM (some [_,_,_]) TB) ?_
  try simp only[I,RX,↓KW,seval,D,L]
  refine ah (hS (some [_,_,_,_,_,_]) TB) ?_
  try simp only[I,RX,↓KW,seval,M]
  rfl
 ·have M:dW t p=0:=fx h
  simp only[P0]at h;try simp only[RX,↓KW,seval,h,M]
theorem pass.ok{e fS fV fs e':Nat} (hc:bY P f=some (nU e fS fV fs)) (hS:aO.Spec (Pure P) fS e') (hV:serve.Spec (Pure P) fV) (hs:wD.Spec (Pure P) fs):pass.Spec (Pure P) f:=by
 intro t g ht
 have hl:=Tb.len ht
 have hp:=Tb.whole ht
 have hg:=Tb.lT ht
 refine aq hm hc [] rfl ?_;try simp only[I,RX,↓KW,seval,nU,Z.H]
 by_cases h0:g<0\/((t.groups.getD []).length:Int)<=g
 ·have O:dX t g=0:=gc h0
  repeat' (((first|refine bf ?_ ?_|refine az ?_ ?_|refine bz ?_ ?_)<;>intro h)<;>try simp only[RX,↓KW,seval,hg,O,h])
  simp_all;omega
 ·have O:dX t g=gF (f9 t g (aO t).length):=fx h0
  have h1:decide (g<0)=false:=by simp;omega
  have M:decide (((t.groups.getD []).length:Int)<=g)=false:=by simp;omega
  try simp only[RX,↓KW,seval,h1,hg,M,hp]
  refine ah (hS t none ht (.inl rfl)) ?_
  have ac:=Dr ht
  have R:=de (aO t)
  try simp only[RX,↓KW,seval,R]
  generalize ab:aO t=Z at*
  refine aN (λk:Nat=>(⟨[(21,.dat (I k) none),(20,.dat (I Z.length) none),(19,.dat (aI Sp.cells (dB Z)) none),(1,.dat (I g) none),(2,.ptr 4 0),(5,br aE (f9 t g k) 0)],[(4,⟨t.cells,[]⟩)],bG (f9 t g k) 0 e,400⟩:S)) (λk=>Z.length-k) (λk=>k<=Z.length) ?_ 0 ST ?_
  ·intro k hk A back
   have hw:=aG (k:=k) ST
   have L:f9 t g k≠[]:=by simp[f9]
   try simp only[I,RX,↓KW,seval,br,bG,L]
   refine az (λh=>?_) (λh=>?_)<;>try simp only[RX,↓KW,seval,R,h]
   ·have aa:k<Z.length:=by have:=dE h;omega
    obtain⟨x,O⟩:∃x,Z[k]? =some x:=⟨_,et aa⟩
    have hn:f9 t g (k+1)=if x.group==g then f9 t g k++[dW t x.p]else f9 t g k:=Gg (by rw[ab];exact O)
    have V:=Bi t g k
    refine⟨ST,?_⟩
    try simp only[I,RX,↓KW,seval,O,Sp.cells]
    refine az (λM=>?_) (λM=>?_)<;>try simp only[RX,↓KW,seval,hp,M]
    ·refine ah (hV t _ ht) ?_
     try simp only[I,RX,↓KW,seval]
     refine⟨ST,?_⟩
     refine back (k+1) _ ST ST (ai Ts ?_ ?_ ?_ ?_)<;>simp[LX,I,hn,hw,M,L]
    ·refine back (k+1) _ ST ST (ai Ts ?_ ?_ ?_ ?_)<;>simp[LX,I,hn,hw,M,L]
   ·have:k=Z.length:=by have:=dC h;omega
    subst this
    have V:=Bi t g Z.length
    try simp only[I,B,D,RX,↓KW,seval]
    refine ah (hs (some (f9 t g Z.length)) (by simp;omega)) ?_
    try simp only[I,RX,↓KW,seval,O]
    rfl
  ·refine ai Ts ?_ ?_ ?_ ?_<;>simp[LX,I,f9,dW]
end
section
variable (t:Tb) (C:bk) (p:Int) (f:Nat) (l:List Int) (n:Nat)
def kW:List Int:=dX t (aA t p).1.group::(List.range n).map λ(g:Nat)=>dX t g
theorem Gh:kW t p (n+1)=kW t p n++[dX t n]:=by simp[kW,lm]
def jW:List Int:=(List.range n).map λ(k:Nat)=>gF [pQ t k,(u9 t k).stay]
theorem Gi:jW t (n+1)=jW t n++[gF [pQ t n,(u9 t n).stay]]:=by simp[jW,lm]
def mB:List Int:=l.flatMap λp=>[gU (aD t p).min,gF [(aD t p).walk,(aD t p).bR]]
theorem zo{t:Tb} {l:List Int} {i:Nat} {x:Int} (h:l[i]? =some x):mB t (l.take (i+1))=mB t (l.take i)++[gU (aD t x).min,gF [(aD t x).walk,(aD t x).bR]]:=by rw[gV h];simp[mB]
theorem Iy:(mB t l).length=l.length*2:=by
 induction l with
 |nil=>rfl
 |cons x l A=>simp only[mB,xo,pB,fl,ge]at A⊢;omega
def JV:Int:=if(t.bp.getD []).length=0 then 0 else gF [gh (jW t (t.bp.getD []).length),gh (mB t (iC (qW t))),kV t,t.revert,30]
def Bj.Spec:Prop:=∀(t:Tb),t.Ok->C.c f [.agg t.cells] (I (JV t)) none
def lq:Int:=if ig t p=0\/(t.bp.getD []).length=0 then ig t p else gF [Zg (gF [t.share,1]) (gF [JV t,ig t p,2]),t.share]
def wait.Spec:Prop:=∀(t:Tb) (p:Int),t.Ok->C.c f [.agg t.cells,I p] (I (lq t p)) none
theorem Rl.len(r:Rl):r.cells.length=11:=rfl
theorem Bk{t:Tb} {k:Int} (B:0<=k) (A:k<((t.bp.getD []).length:Int)):(t.bp.getD [])[k.toNat]? =some (u9 t k):=by
 have:k.toNat<(t.bp.getD []).length:=ST
 simp[u9,this]
end
section
variable{P:Program} (hm:P.follows .mixedOrders=true) {f:Nat}
include hm
theorem free.ok{fW fO V fP e fs:Nat} (hc:bY P f=some (nS fW fO V fP e fs)) (hW:where.Spec (Pure P) fW) (hO:on.Spec (Pure P) fO) (hH:pN.Spec (Pure P) V) (hP:pass.Spec (Pure P) fP) (hs:wD.Spec (Pure P) fs):free.Spec (Pure P) f:=by
 intro t p ht
 have M:=Tb.whole ht
 have hg:=Tb.lT ht
 have hb:=ht.groups
 refine aq hm hc [] rfl ?_;try simp only[I,RX,↓KW,seval,nS,Z.H,M]
 refine ah (hW t _ ht) ?_;try simp only[I,B,RX,↓KW,seval,Sp.cells]
 by_cases L:((aA t p).2&&mA (qW t) p)=true
 ·have R:ig t p=gF (kW t p (t.groups.getD []).length):=gc L
  simp only[dT]at L;try simp only[RX,↓KW,seval,L,M]
  refine ah (hO t ht) ?_;try simp only[I,RX,↓KW,seval]
  refine ah (hH _ _) ?_;try simp only[B,RX,↓KW,seval,L,M]
  refine ah (hP t _ ht) ?_;try simp only[I,RX,↓KW,seval]
  refine aN (λk:Nat=>(⟨[(8,.dat (I k) none),(2,.ptr 4 0),(7,br aE (kW t p k) 0)],[(4,⟨t.cells,[]⟩)],bG (kW t p k) 0 e,400⟩:S)) (λk=>(t.groups.getD []).length-k) (λk=>k<=(t.groups.getD []).length) ?_ 0 ST ?_
  ·intro k hk A back
   have hw:=aG (k:=k) ST
   have O:kW t p k≠[]:=by simp[kW]
   have hn:=Gh t p k
   have aa:(kW t p k).length=k+1:=by simp[kW]
   try simp only[I,RX,↓KW,seval,br,bG,O,hg]
   refine az (λh=>?_) (λh=>?_)<;>try simp only[RX,↓KW,seval,M,h]
   ·have:k<(t.groups.getD []).length:=by have:=dE h;omega
    refine ah (hP t _ ht) ?_;try simp only[I,RX,↓KW,seval]
    refine⟨ST,?_⟩
    refine back (k+1) _ ST ST (ai Ts ?_ ?_ ?_ ?_)<;>simp[LX,I,hn,hw,O]
   ·have:k=(t.groups.getD []).length:=by have:=dC h;omega
    subst this;try simp only[I,B,D,RX,↓KW,seval]
    refine ah (hs (some (kW t p (t.groups.getD []).length)) (by simp;omega)) ?_
    try simp only[I,RX,↓KW,seval,R]
    rfl
  ·refine ai Ts ?_ ?_ ?_ ?_<;>simp[LX,I,kW]
 ·have R:ig t p=0:=fx L
  repeat' (first|((first|refine ah (hO t ht) ?_|refine ah (hH _ _) ?_);try simp only[I,B,RX,↓KW,seval])|(((first|refine bf ?_ ?_|refine az ?_ ?_|refine bz ?_ ?_)<;>intro h)<;>try simp only[RX,↓KW,seval,M,R,h]))
  all_goals simp_all
theorem entry.ok{D e M:Nat} (hc:bY P f=some (mw D e M)) (hC:clear.Spec (Pure P) D) (hs:wD.Spec (Pure P) M):entry.Spec (Pure P) f:=by
 intro t k ht
 have hl:=Tb.len ht
 have R:=Tb.whole ht
 have O:=Tb.wC ht
 have A:=Tb.tail_at ht 3 ST
 refine aq hm hc [] rfl ?_;try simp only[I,RX,↓KW,seval,mw,Z.H]
 by_cases L:k<0\/((t.bp.getD []).length:Int)<=k
 ·have B:pQ t k=0:=gc L
  repeat' (((first|refine bf ?_ ?_|refine az ?_ ?_|refine bz ?_ ?_)<;>intro h)<;>try simp only[RX,↓KW,seval,O,B,h])
  simp_all;omega
 ·have B:=show pQ t k=_ from fx L
  have h1:decide (k<0)=false:=by simp;omega
  have V:decide (((t.bp.getD []).length:Int)<=k)=false:=by simp;omega
  have hr:=Bk (t:=t) (k:=k) ST ST
  try simp only[RX,↓KW,seval,h1,V,O]
  refine⟨ST,?_⟩
  try simp only[I,RX,↓KW,seval,hr,Rl.cells,cm,R]
  refine ah (hC t ht) ?_;try simp only[I,RX,↓KW,seval,A]
  refine ah (hs (some [_,_,_,_,_,_,_,_,_,_,_,_,_,_,_,_]) TB) ?_
  try simp only[I,RX,↓KW,seval,B]
  rfl
theorem wait.ok{R e fs O L:Nat} (hc:bY P f=some (nP R e fs O L)) (hF:free.Spec (Pure P) R) (B:wD.Spec (Pure P) fs) (hO:Bj.Spec (Pure P) O) (hM:Mul.Spec (Pure P) L):wait.Spec (Pure P) f:=by
 intro t p ht
 have hl:=Tb.len ht
 have M:=Tb.whole ht
 have hg:=Tb.wC ht
 have A:=Tb.NY ht
 refine aq hm hc [] rfl ?_;try simp only[I,RX,↓KW,seval,nP,Z.H,M]
 refine ah (hF t _ ht) ?_;try simp only[I,RX,↓KW,seval]
 by_cases V:ig t p=0\/(t.bp.getD []).length=0
 ·have D:lq t p=ig t p:=gc V
  repeat' (((first|refine bf ?_ ?_|refine az ?_ ?_|refine bz ?_ ?_)<;>intro h)<;>try simp only[RX,↓KW,seval,hg,D,h])
  simp_all
 ·have D:=show lq t p=_ from fx V
  have h1:(ig t p==0)=false:=by simp;omega
  have h2:(((t.bp.getD []).length:Int)==0)=false:=beq_false_of_ne ST
  try simp only[I,RX,↓KW,seval,h1,h2,hg,A]
  refine ah (B (some [_,_]) TB) ?_
  try simp only[I,RX,↓KW,seval,M]
  refine ah (hO t ht) ?_;try simp only[I,RX,↓KW,seval]
  refine ah (B (some [_,_,_]) TB) ?_
  try simp only[I,RX,↓KW,seval]
  refine ah (hM _ _) ?_;try simp only[I,RX,↓KW,seval,A]
  refine ah (B (some [_,_]) TB) ?_
  try simp only[I,RX,↓KW,seval,D]
  rfl
theorem Bj.ok{fE e fs fO fL fC fM ae:Nat} (hc:bY P f=some (um fE e fs fO fL fC fM ae)) (hE:entry.Spec (Pure P) fE) (hs:wD.Spec (Pure P) fs) (hO:on.Spec (Pure P) fO) (hL:pO.Spec (Pure P) fL e) (hC:Cap.Spec (Pure P) fC) (hM:most.Spec (Pure P) fM) (ag:clear.Spec (Pure P) ae):Bj.Spec (Pure P) f:=by
 intro t ht
 have hp:=Tb.whole ht
 have hg:=Tb.wC ht
 have hb:=ht.bp
 have aa:=Tb.tail_at ht 3 ST
 refine aq hm hc [] rfl ?_;try simp only[I,RX,↓KW,seval,um,Z.H,hg]
 by_cases h0:(t.bp.getD []).length=0
 ·have hx:JV t=0:=gc h0
  repeat' (((first|refine bf ?_ ?_|refine az ?_ ?_|refine bz ?_ ?_)<;>intro h)<;>try simp only[RX,↓KW,seval,hx,h])
  simp_all
 ·have hx:=show JV t=_ from fx h0
  have h2:(((t.bp.getD []).length:Int)==0)=false:=beq_false_of_ne ST
  try simp only[RX,↓KW,seval,h2]
  refine aN (λk:Nat=>(⟨[(5,.dat (I k) none),(1,.ptr 4 0),(4,.dat (.bF) none),(3,br aE (jW t k) 0)],[(4,⟨t.cells,[]⟩)],bG (jW t k) 0 e,400⟩:S)) (λk=>(t.bp.getD []).length-k) (λk=>k<=(t.bp.getD []).length) ?_ 0 ST ?_
  ·intro k hk A back
   have hw:=aG (k:=k) ST
   have hn:=Gi t k
   have V:(jW t k).length=k:=by simp[jW]
   by_cases hl:jW t k=[]
   all_goals
    try simp only[I,RX,↓KW,seval,br,bG,hl,hg]
    refine az (λh=>?_) (λh=>?_)<;>try simp only[RX,↓KW,seval,hp,h]
   ·have:k<(t.bp.getD []).length:=by have:=dE h;omega
    have hr:=Bk (t:=t) (k:=k) ST ST
    rw[j9]at hr;refine ah (hE t _ ht) ?_;try simp only[I,RX,↓KW,seval,hg]
    refine⟨ST,?_⟩
    try simp only[I,RX,↓KW,seval,hr,Rl.cells]
    refine ah (hs (some [_,_]) TB) ?_
    try simp only[I,RX,↓KW,seval]
    refine back (k+1) _ ST ST (ai Ts ?_ ?_ ?_ ?_)<;>simp[LX,I,hn,hw,hl]
   ·exfalso
    have:=dC h
    rw[hl]at V;simp at V;omega
   ·have:k<(t.bp.getD []).length:=by have:=dE h;omega
    have hr:=Bk (t:=t) (k:=k) ST ST
    rw[j9]at hr;refine ah (hE t _ ht) ?_;try simp only[I,RX,↓KW,seval,hg]
    refine⟨ST,?_⟩
    try simp only[I,RX,↓KW,seval,hr,Rl.cells]
    refine ah (hs (some [_,_]) TB) ?_
    try simp only[I,RX,↓KW,seval]
    refine⟨ST,?_⟩
    refine back (k+1) _ ST ST (ai Ts ?_ ?_ ?_ ?_)<;>simp[LX,I,hn,hw,hl]
   ·have:k=(t.bp.getD []).length:=by have:=dC h;omega
    subst this;try simp only[I,B,D,RX,↓KW,seval,hp]
    refine ah (hO t ht) ?_;try simp only[I,RX,↓KW,seval]
    refine ah (hL _ none (.inl rfl)) ?_;try simp only[RX,↓KW,seval]
    have V:=Dt (qW t)
    have ac:=@zn (qW t)
    have ad:=de (iC (qW t))
    generalize iC (qW t)=L at*
    refine aN (λk:Nat=>(⟨[(37,.dat (I k) none),(36,.dat (I L.length) none),(35,.dat (aI aE (dB L)) none),(1,.ptr 4 0),(3,.dat (.sl ((jW t (t.bp.getD []).length).map aE)) none),(4,br aE (mB t (L.take k)) 0)],[(4,⟨t.cells,[]⟩)],bG (mB t (L.take k)) 0 e,400⟩:S)) (λk=>L.length-k) (λk=>k<=L.length) ?_ 0 ST ?_
    ·intro k hk A back
     have hw:=aG (k:=k) ST
     have ak:(mB t (L.take k)).length<=16:=by rw[Iy];have:=List.length_take_le k L;omega
     by_cases hl:mB t (L.take k)=[]
     all_goals
      try simp only[I,RX,↓KW,seval,br,bG,hl]
      refine az (λh=>?_) (λh=>?_)<;>try simp only[RX,↓KW,seval,ad,h]
     ·have ab:k<L.length:=by have:=dE h;omega
      obtain⟨x,O⟩:∃x,L[k]? =some x:=⟨_,et ab⟩
      have R:=ac (ev O)
      have M:=Tb.Ev ht R.1 R.2
      have hn:=zo (t:=t) O
      refine⟨ST,?_⟩
      try simp only[I,RX,↓KW,seval,O,aE]
      refine⟨ST,?_⟩
      try simp only[I,RX,↓KW,seval,M]
      refine ah (hC _) ?_;try simp only[I,RX,↓KW,seval,M]
      refine⟨ST,?_⟩
      try simp only[I,B,D,RX,↓KW,seval,M]
      refine⟨ST,?_⟩
      try simp only[I,B,D,RX,↓KW,seval,M]
      refine ah (hs (some [_,_]) TB) ?_
      try simp only[I,RX,↓KW,seval]
      refine back (k+1) _ ST ST (ai Ts ?_ ?_ ?_ ?_)<;>simp[LX,I,hn,hw,hl]
     ·have:k=L.length:=by have:=dC h;omega
      subst this;rw[l0]at hl ak;try simp only[I,B,D,RX,↓KW,seval]
      refine ah (hM (some _) (by simp[jW];omega)) ?_
      try simp only[I,RX,↓KW,seval]
      refine ah (hM none TB) ?_
      try simp only[I,RX,↓KW,seval,hp]
      refine ah (ag t ht) ?_;try simp only[I,RX,↓KW,seval,aa]
      refine ah (hs (some [_,_,_,_,_]) TB) ?_
      try simp only[I,RX,↓KW,seval,hx,hl]
      rfl
     ·have ab:k<L.length:=by have:=dE h;omega
      obtain⟨x,O⟩:∃x,L[k]? =some x:=⟨_,et ab⟩
      have R:=ac (ev O)
      have M:=Tb.Ev ht R.1 R.2
      have hn:=zo (t:=t) O
      refine⟨ST,?_⟩
      try simp only[I,RX,↓KW,seval,O,aE]
      refine⟨ST,?_⟩
      try simp only[I,RX,↓KW,seval,M]
      refine ah (hC _) ?_;try simp only[I,RX,↓KW,seval,M]
      refine⟨ST,?_⟩
      try simp only[I,B,D,RX,↓KW,seval,M]
      refine⟨ST,?_⟩
      try simp only[I,B,D,RX,↓KW,seval,M]
      refine ah (hs (some [_,_]) TB) ?_
      try simp only[I,RX,↓KW,seval]
      refine⟨ST,?_⟩
      refine back (k+1) _ ST ST (ai Ts ?_ ?_ ?_ ?_)<;>simp[LX,I,hn,hw,hl]
     ·have:k=L.length:=by have:=dC h;omega
      subst this;rw[l0]at*;try simp only[I,B,D,RX,↓KW,seval]
      refine ah (hM (some _) (by simp[jW];omega)) ?_
      try simp only[I,RX,↓KW,seval]
      refine ah (hM (some _) (by simp;omega)) ?_
      try simp only[I,RX,↓KW,seval,hp]
      refine ah (ag t ht) ?_;try simp only[I,RX,↓KW,seval,aa]
      refine ah (hs (some [_,_,_,_,_]) TB) ?_
      try simp only[I,RX,↓KW,seval,hx]
      rfl
    ·refine ai Ts ?_ ?_ ?_ ?_<;>simp[LX,I,ad,mB]
  ·refine ai Ts ?_ ?_ ?_ ?_<;>simp[LX,I,jW]
end
section
variable (k:FloatKind) (l:Option (List Int)) (C:bk) (x:Nat) (i:Int) (f:Nat) (n:Int) (y:Nat)
def mC(t:Tb) (p q:Int):Int:=if cL t p q then gw (RE [p]) q else RE [p]
def with.Spec:Prop:=∀(t:Tb) (p q:Int),t.Ok->C.c f [.agg t.cells,I p,I q] (I (mC t p q)) none
theorem VZ:dO .mul (.float k x) (.float k y)=HM k (k.format.mul x y):=by simp[dO,Ar]
theorem N0:dO .quo (.float k x) (.float k y)=HM k (k.format.div x y):=by simp[dO,Ar]
theorem V0(r:Nat):HM k (some r)=some (.float k r):=by cases k<;>rfl
theorem aJ{n:Int} (h:0<n) (D:n<=4294967296):0<=bU l i n/\bU l i n<n:=by
 simp only[bU,place]
 have A:=zr (VV l i) h
 have B:=Int.lt_tmod_of_pos (VV l i) h
 split
 ·rw[bO,aT ST ST];omega
 ·omega
def wE:Nat:=(FloatKind.f64.format.div (FloatKind.f64.nearest n) 4621819117588971520).getD 0
theorem Bl:∀n:Nat,n<6->FloatKind.f64.format.div (FloatKind.f64.nearest (n:Int)) 4621819117588971520=some (wE n):=by decide+kernel
def uu(k:Int):Nat:=[4617315517961601024,4621819117588971520,4607182418800017408,4602678819172646912].getD k.toNat 0
def Bm(k:Int):Nat:=[4602678819172646912,4607182418800017408,4598175219545276416].getD k.toNat 0
def rY(j k:Int):Nat:=(FloatKind.f64.format.mul (uu j) (Bm k)).getD 0
theorem Gj:∀j:Nat,j<4->∀k:Nat,k<3->FloatKind.f64.format.mul (uu j) (Bm k)=some (rY j k):=by decide+kernel
def gL:xP where
 phase:=bU l i n
 on:=uu (bU l (bO (i+1)) 4)
 off:=rY (bU l (bO (i+1)) 4) (bU l (bO (i+2)) 3)
 delay:=wE (bU l (bO (i+3)) 4)
 extend:=wE (bU l (bO (i+4)) 6)
 maxOn:=if bU l (bO (i+5)) 3==1 then bO (20+bU l (bO (i+6)) 60)else 0
 rM:=if bU l (bO (i+5)) 9==2 then bO (60+bU l (bO (i+7)) 300)else 0
def rZ.Spec:Prop:=∀(l:Option (List Int)) (i n:Int),0<n->C.c f [aI aE l,I i,I n] (.agg (gL l i n).cells) none
end
section
variable{P:Program} (hm:P.follows .mixedOrders=true) {f:Nat}
include hm
theorem with.ok{e L A D:Nat} (R:bY P f=some (nQ e L A D)) (O:Bg.Spec (Pure P) L) (hB:beside.Spec (Pure P) A) (hW:tE.Spec (Pure P) D):with.Spec (Pure P) f:=by
 intro t p q ht
 have M:=Tb.whole ht
 refine aq hm R [] rfl ?_;try simp only[I,RX,↓KW,seval,nQ,Z.H]
 refine ah (O (some [_]) TB) ?_
 try simp only[I,RX,↓KW,seval,M]
 refine ah (hB t _ _ ht) ?_;try simp only[B,RX,↓KW,seval]
 repeat' (first|(refine ah (hW _ _) ?_;try simp only[I,RX,↓KW,seval])|(((first|refine bf ?_ ?_|refine az ?_ ?_|refine bz ?_ ?_)<;>intro h)<;>try simp only[RX,↓KW,seval,h]))
 all_goals simp_all [mC]
theorem rZ.ok{V:Nat} (hc:bY P f=some (nk V)) (hF:from.Spec (Pure P) V):rZ.Spec (Pure P) f:=by
 intro l i n hn;refine aq hm hc [] rfl ?_;try simp only[I,RX,↓KW,seval,nk,Z.H]
 refine ah (hF _ _ _ hn) ?_;try simp only[I,RX,↓KW,seval]
 refine ah (hF _ _ _ Ts) ?_
 try simp only[I,RX,↓KW,seval]
 have R:=aJ l (bO (i+1)) (n:=4) Ts Ts
 have M:=aJ l (bO (i+2)) (n:=3) Ts Ts
 have h3:=aJ l (bO (i+3)) (n:=4) Ts Ts
 have O:=aJ l (bO (i+4)) (n:=6) Ts Ts
 have L:[AV.float FloatKind.f64 4617315517961601024,AV.float FloatKind.f64 4621819117588971520,AV.float FloatKind.f64 4607182418800017408,AV.float FloatKind.f64 4602678819172646912][(bU l (bO (i+1)) 4).toNat]? =some (.float .f64 (uu (bU l (bO (i+1)) 4))):=by
  generalize bU l (bO (i+1)) 4=j at*
  have:j=0\/j=1\/j=2\/j=3:=ST
  rcases this with rfl|rfl|rfl|rfl<;>rfl
 have e2:[AV.float FloatKind.f64 4602678819172646912,AV.float FloatKind.f64 4607182418800017408,AV.float FloatKind.f64 4598175219545276416][(bU l (bO (i+2)) 3).toNat]? =some (.float .f64 (Bm (bU l (bO (i+2)) 3))):=by
  generalize bU l (bO (i+2)) 3=j at*
  have:j=0\/j=1\/j=2:=ST
  rcases this with rfl|rfl|rfl<;>rfl
 have B:=Gj (bU l (bO (i+1)) 4).toNat ST (bU l (bO (i+2)) 3).toNat ST
 have D:=Bl (bU l (bO (i+3)) 4).toNat ST
 have A:=Bl (bU l (bO (i+4)) 6).toNat ST
 simp only[tl R.1,tl M.1]at B;simp only[tl h3.1]at D;simp only[tl O.1]at A;simp only[bO]at L e2 B D A R M h3 O
 refine⟨ST,?_⟩
 try simp only[RX,↓KW,seval,L]
 refine ah (hF l _ 3 Ts) ?_
 try simp only[I,RX,↓KW,seval]
 refine⟨ST,?_⟩
 try simp only[RX,↓KW,seval,e2,V0,VZ,B]
 refine ah (hF _ _ _ Ts) ?_
 try simp only[I,RX,↓KW,seval,V0,N0,D]
 refine ah (hF _ _ _ Ts) ?_
 try simp only[I,RX,↓KW,seval,V0,N0,A]
 repeat' (first|(refine ah (hF _ _ _ Ts) ?_;try simp only[I,RX,↓KW,seval])|(((first|refine bf ?_ ?_|refine az ?_ ?_|refine bz ?_ ?_)<;>intro h)<;>try simp only[RX,↓KW,seval,h]))
 all_goals simp_all [gL,xP.cells,bO]
def nV (t:Tb) (l:Option (List Int)) (i n:Int):Rl :=
  let p:=bU l (bO (i + 4)) (bO (n + 1))
  let gI:=mC t (bU l i n) (bU l (bO (i + 1)) n)
  let stay:=bO (1 + bU l (bO (i + 11)) 15)
  let delay:=bU l (bO (i + 8)) 4
  { bars:=bg .i64 (dh .i64 (bU l (bO (i + 7)) 256) (bO (bO (1 * 2 ^ min (IntKind.u64.wrap n).toNat 64) - 1))) gI
    clear:=if p < n then mC t p (bU l (bO (i + 5)) n) else 0
    gI:=gI
    exit:=mC t (bU l (bO (i + 2)) n) (bU l (bO (i + 3)) n)
    delay:=delay
    green:=bO (1 + bU l (bO (i + 9)) 6)
    dz:=bU l (bO (i + 10)) 6
    hold:=if p < n then bO (1 + bU l (bO (i + 6)) 10) else 0
    stay:=stay
    most:=if bU l (bO (i + 12)) 3 == 1 then bO (stay + bU l (bO (i + 13)) 30) else 0
    limit:=bO (bO (delay + 1) + [10000,400,20].getD (bU l (bO (i + 14)) 3).toNat 0) }
def N1.Spec(C:bk) (f:Nat):Prop:=∀(t:Tb) (l:Option (List Int)) (i n:Int),t.Ok->0<n->n<=8->C.c f [.agg t.cells,aI aE l,I i,I n] (.agg (nV t l i n).cells) none
theorem N1.ok{V R:Nat} (hc:bY P f=some (uj V R)) (hF:from.Spec (Pure P) V) (hW:with.Spec (Pure P) R):N1.Spec (Pure P) f:=by
 intro t l i n ht A ab
 have M:=Tb.whole ht
 have aa:IntKind.i64.wrap (n+1)=n+1:=aT ST ST
 refine aq hm hc [] rfl ?_;try simp only[I,RX,↓KW,seval,uj,Z.H,M,cm]
 refine ah (hF _ _ _ A) ?_;try simp only[I,RX,↓KW,seval]
 refine ah (hF _ _ _ A) ?_;try simp only[I,RX,↓KW,seval]
 refine ah (hW t _ _ ht) ?_;try simp only[I,RX,↓KW,seval,M]
 refine ah (hF _ _ _ A) ?_;try simp only[I,RX,↓KW,seval]
 refine ah (hF _ _ _ A) ?_;try simp only[I,RX,↓KW,seval]
 refine ah (hW t _ _ ht) ?_;try simp only[I,RX,↓KW,seval]
 refine ah (hF _ _ _ ST) ?_
 try simp only[I,RX,↓KW,seval]
 have O:=aJ l (bO (i+14)) (n:=3) Ts Ts
 have L:[AV.int .i64 10000,AV.int .i64 400,AV.int .i64 20][(bU l (bO (i+14)) 3).toNat]? =some (.int .i64 ([10000,400,20].getD (bU l (bO (i+14)) 3).toNat 0)):=by
  generalize bU l (bO (i+14)) 3=j at*
  have:j=0\/j=1\/j=2:=ST
  rcases this with rfl|rfl|rfl<;>rfl
 have hu:0<=IntKind.u64.wrap n:=by rw[IntKind.wrap];simp[IntKind.signed];omega
 simp only[bO]at L O
 refine az (λh=>?_) (λh=>?_)<;>try simp only[RX,↓KW,seval,M,h]
 ·repeat' (first|((first|refine ah (hF _ _ _ A) ?_|refine ah (hF _ _ _ Ts) ?_|refine ah (hW t _ _ ht) ?_);try simp only[I,RX,↓KW,seval])|(((first|refine bf ?_ ?_|refine az ?_ ?_|refine bz ?_ ?_)<;>intro h)<;>try simp only[I,B,D,RX,↓KW,seval,M,h]))
  refine⟨hu,?_⟩
  repeat' (first|((first|refine ah (hF _ _ _ A) ?_|refine ah (hF _ _ _ Ts) ?_|refine ah (hW t _ _ ht) ?_);try simp only[I,RX,↓KW,seval])|(((first|refine bf ?_ ?_|refine az ?_ ?_|refine bz ?_ ?_)<;>intro h)<;>try simp only[RX,↓KW,seval,h]))
  all_goals refine⟨ST,?_⟩
  all_goals try simp only[RX,↓KW,seval,L]
  all_goals simp_all [nV,Rl.cells,bO,IntKind.bits]
 ·repeat' (first|((first|refine ah (hF _ _ _ A) ?_|refine ah (hF _ _ _ Ts) ?_|refine ah (hW t _ _ ht) ?_);try simp only[I,RX,↓KW,seval])|(((first|refine bf ?_ ?_|refine az ?_ ?_|refine bz ?_ ?_)<;>intro h)<;>try simp only[I,B,D,RX,↓KW,seval,M,h]))
  refine⟨hu,?_⟩
  repeat' (first|((first|refine ah (hF _ _ _ A) ?_|refine ah (hF _ _ _ Ts) ?_|refine ah (hW t _ _ ht) ?_);try simp only[I,RX,↓KW,seval])|(((first|refine bf ?_ ?_|refine az ?_ ?_|refine bz ?_ ?_)<;>intro h)<;>try simp only[RX,↓KW,seval,h]))
  all_goals refine⟨ST,?_⟩
  all_goals try simp only[RX,↓KW,seval,L]
  all_goals simp_all [nV,Rl.cells,bO,IntKind.bits]
  all_goals exact⟨λ_=>ST,λ_=>ST⟩
end
section
variable (ex:Exit) {C:bk} {Q:Exit->S->Prop} {c:aZ} {k:S->Prop} {s:S} {t:Tb} {α:Type} (st:α->S) (J:α->Prop) (f:α->List AV) (l:Option (List Int))
def bN(groups g:Nat):Nat:=8-(groups-1-g)
def cN(p m:Nat):List Int:=(List.range m).map λ(j:Nat)=>((p+j:Nat):Int)
def cnt(g k A:Nat):Nat:=
 let n:=(bU l (1+2*g+k) 3).toNat
 if k=1/\n=0/\A=0 then 1 else n
def aX(n p A:Nat):Nat:=min n (A-p)
def aW(l:Option (List Int)) (groups:Nat):Nat->List Gr×Nat
 |0=>([],0)
 |g+1=>
  let q:=aW l groups g
  let A:=aX (cnt l g 0 0) q.2 (bN groups g)
  let B:=aX (cnt l g 1 A) (q.2+A) (bN groups g)
  (q.1++[⟨dB (cN q.2 A),dB (cN (q.2+A) B)⟩],q.2+A+B)
def eA:Nat:=(1+bU l 0 3).toNat
def rows.Spec(C:bk) (f:Nat):Prop:=∀(t:Tb) (l:Option (List Int)),t.Ok->t.groups=none->C.p f [t.cells] [none,some (aI aE l)] (I ((aW l (eA l) (eA l)).2:Nat)) none [({t with groups:=some (aW l (eA l) (eA l)).1}:Tb).cells]
theorem Tb.len'(A:t.phases.length=8) (B:t.conflict.length=8) (D:t.dc.length=8):t.cells.length=131:=by
 simp[Tb.cells,aM Ph.len,A,B,D]
theorem Tb.Iz(h:t.phases.length=8):t.cells[104]? =some (aI Gr.cells t.groups):=by
 simp[Tb.cells,aM Ph.len,h]
theorem Tb.IA(h:t.phases.length=8) (g:Option (List Gr)):t.cells.take 104++(aI Gr.cells g::t.cells.drop 105)=({t with groups:=g}:Tb).cells:=by
 have e:(t.phases.flatMap Ph.cells).length=104:=by rw[aM Ph.len,h]
 simp only[Tb.cells]
 rw[IH ST,my ST,PQ,zd ST,e]
 rfl
def Xb(C:bk) (c:aZ) (Q:Exit->S->Prop) (k:S->Prop) (s:S):Prop:=aw C c (jy k Q) s
theorem wF(h:aw C c (jy k Q) s):Xb C c Q k s:=h
theorem yf{A:S->Prop} (hk:∀s,k s->A s) (h:Xb C c Q k s):Xb C c Q A s:=lN (λe s h=>by cases e<;>first|exact hk _ h|exact h) h
theorem N2(h:Xb C c Q (Xb C c Q (Xb C c Q λ_=>False)) s):aw C (.loop c) Q s:=
 lQ ⟨3,yf (λ_ h=>lQ (yf (λ_ h=>lQ (yf (λ_ h=>h.elim) h)) h)) h⟩
theorem iZ(p i:Nat):cN p (i+1)=cN p i++[((p+i:Nat):Int)]:=by simp[cN,lm]
theorem tH(l:Option (List Int)) (G:Nat):∀g,(aW l G g).2<=8
 |0=>by simp[aW]
 |g+1=>by
  have:=tH l G g
  simp only[aW,aX,bN];omega
theorem jX(l:Option (List Int)) (G:Nat):∀g,(aW l G g).1.length=g
 |0=>by simp[aW]
 |g+1=>by
  have:=jX l G g
  simp only[aW,pB,fl,ge];omega
def Cut(e:Exit) (s:S):Prop:=e=ex/\∃y,J y/\Le s (st y)
theorem dA{ex:Exit} {st:α->S} {J:α->Prop} (y:α) (B:J y) (A:Le s (st y)):Cut ex st J ex s:=⟨rfl,y,B,A⟩
theorem kX{F:S->Prop} (hQ:∀A,Q ex A=down F A) (M:aw C c (Cut ex st J) s) (D:∀y,J y->F (st y)):aw C c Q s:=by
 refine lN ?_ M
 rintro e A ⟨rfl,y,L,B⟩
 rw[hQ];exact oZ B (D y L)
theorem RF:IntKind.i64.wrap (0+1)=1:=by decide
theorem Ew:IntKind.i64.wrap (1+1)=2:=by decide
theorem cK:aI f none=.bF:=rfl
theorem bt(l:List α):aI f (some l)=.sl (l.map f):=rfl
end
section
variable{P:Program} (hm:P.follows .mixedOrders=true) {f:Nat}
include hm
theorem rows.ok{fF e eR:Nat} (hc:bY P f=some (nO fF e eR)) (hF:from.Spec (Pure P) fF):rows.Spec (Pure P) f:=by
 intro t l ht bo
 have L:=Tb.len ht
 have hp:=Tb.whole ht
 refine F9 hm hc [3,5] rfl rfl rfl ?_;try simp only[I,RX,↓KW,Nat.reduceBEq,Nat.reduceAdd,nO,Z.H]
 have bm:=aJ l 0 (n:=3) Ts Ts
 refine ah (hF _ _ _ Ts) ?_
 try simp only[I,RX,↓KW,Nat.reduceBEq,Nat.reduceAdd]
 have ba:IntKind.i64.wrap (1+bU l 0 3)=(eA l:Nat):=by
  rw[aT ST ST,eA];omega
 have bj:1<=eA l/\eA l<=3:=by unfold eA;omega
 rw[ba];generalize eA l=G at*
 refine aN (λg:Nat=>(⟨[(7,.dat (I g) none),(5,.dat (I G) none),(1,.dat (aI aE l) none),(6,.dat (I (aW l G g).2) none),(0,.ptr 0 0)],[(0,⟨({t with groups:=dB (aW l G g).1}:Tb).cells,if(aW l G g).1=[]then[]else[(104,0)]⟩)],bG (aW l G g).1 0 eR,400⟩:S)) (λg=>G-g) (λg=>g<=G) ?_ 0 ST ?_
 ·intro g hg A back
  have hw:=aG (k:=g) ST
  have ao:aW l G (g+1)=((aW l G g).1++[⟨dB (cN (aW l G g).2 (aX (cnt l g 0 0) (aW l G g).2 (bN G g))),dB (cN ((aW l G g).2+aX (cnt l g 0 0) (aW l G g).2 (bN G g)) (aX (cnt l g 1 (aX (cnt l g 0 0) (aW l G g).2 (bN G g))) ((aW l G g).2+aX (cnt l g 0 0) (aW l G g).2 (bN G g)) (bN G g)))⟩],(aW l G g).2+aX (cnt l g 0 0) (aW l G g).2 (bN G g)+aX (cnt l g 1 (aX (cnt l g 0 0) (aW l G g).2 (bN G g))) ((aW l G g).2+aX (cnt l g 0 0) (aW l G g).2 (bN G g)) (bN G g)):=rfl
  have a3:(aW l G g).2<=8:=tH l G g
  have ag:(aW l G g).1.length=g:=jX l G g
  generalize hR:aW l G g=R at*;obtain⟨M,p⟩:=R;simp only at ao a3 ag
  have a4:bU l (1+2*(g:Int)+0) 3=(cnt l g 0 0:Nat):=by
   have:=aJ l (1+2*(g:Int)+0) (n:=3) Ts Ts
   have hc:cnt l g 0 0=(bU l (1+2*(g:Int)+0) 3).toNat:=by simp[cnt]
   rw[hc];omega
  have a9:IntKind.i64.wrap (IntKind.i64.wrap (1+IntKind.i64.wrap (2*(g:Int)))+0)=1+2*(g:Int)+0:=by
   rw[aT (n:=2*(g:Int)) ST ST,aT (n:=1+2*(g:Int)) ST ST,aT ST ST]
  have a6:IntKind.i64.wrap (IntKind.i64.wrap (1+IntKind.i64.wrap (2*(g:Int)))+1)=1+2*(g:Int)+1:=by
   rw[aT (n:=2*(g:Int)) ST ST,aT (n:=1+2*(g:Int)) ST ST,aT ST ST]
  have O:IntKind.i64.wrap (8-IntKind.i64.wrap (IntKind.i64.wrap ((G:Int)-1)-(g:Int)))=if g<G then((bN G g:Nat):Int)else(8-((G:Int)-1-g):Int):=by
   rw[aT (n:=(G:Int)-1) ST ST,aT (n:=(G:Int)-1-g) ST ST,aT ST ST]
   split<;>simp[bN]<;>omega
  by_cases B:M=[]
  all_goals
   try simp only[I,RX,↓KW,Nat.reduceBEq,Nat.reduceAdd,B,bG,dB]
   refine az (λh=>?_) (λh=>?_)<;>try simp only[RX,↓KW,Nat.reduceBEq,Nat.reduceAdd,h]
   ·have a2:g<G:=by have:=dE h;omega
    rw[gc a2]at O;generalize bd:cnt l g 0 0=n0 at*
    refine kX (.exit 2) (λ_:Unit=>(⟨[(6,.dat (I (p+aX n0 p (bN G g)+aX (cnt l g 1 (aX n0 p (bN G g))) (p+aX n0 p (bN G g)) (bN G g):Nat)) none),(5,.dat (I G) none),(7,.dat (I g) none),(8,.ptr 403 0),(1,.dat (aI aE l) none),(0,.ptr 0 0)],[(403,⟨[aI aE (dB (cN p (aX n0 p (bN G g)))),aI aE (dB (cN (p+aX n0 p (bN G g)) (aX (cnt l g 1 (aX n0 p (bN G g))) (p+aX n0 p (bN G g)) (bN G g))))],[]⟩),(0,⟨({t with groups:=dB M}:Tb).cells,if M=[]then[]else[(104,0)]⟩)],bG M 0 eR,1000⟩:S)) (λ_=>True) (λ_=>rfl) ?_ ?_
    ·refine N2 (wF ?_)
     try simp only[I,RX,↓KW,Nat.reduceBEq,Nat.reduceAdd,Int.reduceLT,B]
     refine ah (hF _ _ _ Ts) ?_
     try simp only[I,RX,↓KW,Nat.reduceBEq,Nat.reduceAdd,Int.reduceBEq,a9,a4]
     refine kX (.exit 4) (λ_:Unit=>(⟨[(9,.dat (I 0) none),(6,.dat (I (p+aX n0 (p) (bN G g):Nat)) none),(5,.dat (I G) none),(7,.dat (I g) none),(8,.ptr 403 0),(1,.dat (aI aE l) none),(0,.ptr 0 0)],[(403,⟨[aI aE (dB (cN (p) (aX n0 (p) (bN G g)))),.bF],[]⟩),(0,⟨({t with groups:=dB M}:Tb).cells,if M=[]then[]else[(104,0)]⟩)],bG M 0 eR,1000⟩:S)) (λ_=>True) (λ_=>rfl) ?_ ?_
     ·refine aN (λi:Nat=>(⟨[(11,.dat (I i) none),(10,.dat (I n0) none),(6,.dat (I (p+i:Nat)) none),(5,.dat (I G) none),(7,.dat (I g) none),(9,.dat (I 0) none),(8,.ptr 403 0),(1,.dat (aI aE l) none),(0,.ptr 0 0)],[(403,⟨[aI aE (dB (cN (p) i)),.bF],if cN (p) i=[]then[]else[(0,1)]⟩),(0,⟨({t with groups:=dB M}:Tb).cells,if M=[]then[]else[(104,0)]⟩)],bG (cN (p) i) 1 e++bG M 0 eR,1000⟩:S)) (λi=>aX n0 (p) (bN G g)-i) (λi=>i<=aX n0 (p) (bN G g)) ?_ 0 ST ?_
      ·intro i hi A1 D
       have ak:aX n0 (p) (bN G g)<=8:=by simp only[aX,bN];omega
       have ab:=aG (k:=i) ST
       have hf:aX n0 (p) (bN G g)=min n0 (bN G g-(p)):=rfl
       have aa:IntKind.i64.wrap (((p+i:Nat):Int)+1)=((p+(i+1):Nat):Int):=by rw[aT ST ST];omega
       have al:(cN (p) i).length=i:=by simp[cN]
       by_cases L:cN (p) i=[]
       ·try simp only[I,RX,↓KW,Nat.reduceBEq,Nat.reduceAdd,L,bG,dB,B]
        repeat' (((first|refine bf ?_ ?_|refine az ?_ ?_|refine bz ?_ ?_)<;>intro h)<;>try simp only[RX,↓KW,Nat.reduceBEq,Nat.reduceAdd,Nat.reduceLeDiff,reduceCtorEq,Nat.reduceMul,Int.reduceLE,Int.reduceToNat,cK,O,aa,h])
        ·have h1:=dE h
         refine⟨Ts,?_⟩
         refine⟨Ts,?_⟩
         have V:(i:Int)<n0:=by rename_i V;exact dE V
         refine D (i+1) _ ST ST (ai Ts ?_ ?_ ?_ ?_)<;>simp[LX,I,ab,iZ,L,dB,bt,B]
        ·have h1:=dC h
         have:i=aX n0 (p) (bN G g):=ST
         rw[<-this];refine dA () trivial ?_
         refine ai Ts ?_ ?_ ?_ ?_<;>simp[LX,L,cK]
        ·have h1:=dC h
         have:i=aX n0 (p) (bN G g):=ST
         rw[<-this];refine dA () trivial ?_
         refine ai Ts ?_ ?_ ?_ ?_<;>simp[LX,L,cK]
       ·try simp only[I,RX,↓KW,Nat.reduceBEq,Nat.reduceAdd,L,bG,dB,B]
        repeat' (((first|refine bf ?_ ?_|refine az ?_ ?_|refine bz ?_ ?_)<;>intro h)<;>try simp only[RX,↓KW,Nat.reduceBEq,Nat.reduceAdd,Nat.reduceLeDiff,Int.reduceLE,Int.reduceToNat,bt,O,aa,h])
        ·have h1:=dE h
         refine⟨Ts,ST,Ts,?_⟩
         have V:(i:Int)<n0:=by rename_i V;exact dE V
         refine D (i+1) _ ST ST (ai Ts ?_ ?_ ?_ ?_)<;>simp[LX,I,ab,iZ,L,dB,bt,B]
        ·have h1:=dC h
         have:i=aX n0 (p) (bN G g):=ST
         rw[<-this];refine dA () trivial ?_
         refine ai Ts ?_ ?_ ?_ ?_<;>simp[LX,L,bt]
        ·have h1:=dC h
         have:i=aX n0 (p) (bN G g):=ST
         rw[<-this];refine dA () trivial ?_
         refine ai Ts ?_ ?_ ?_ ?_<;>simp[LX,L,bt]
      ·refine ai Ts ?_ ?_ ?_ ?_<;>simp[LX,I,cN,dB,cK,B]
     ·intro _ _
      generalize a7:aX n0 p (bN G g)=m0 at*
      have am:(dB (cN p m0)).getD []=cN p m0:=de _
      have au:(cN p m0).length=m0:=by simp[cN]
      have bs:m0<=8:=by rw[<-a7];simp only[aX,bN];omega
      try simp only[I,RX,↓KW,Nat.reduceBEq,Nat.reduceAdd,B]
      refine wF ?_;try simp only[RX,↓KW,Nat.reduceBEq,Nat.reduceAdd,Int.reduceLT,RF]
      refine ah (hF _ _ _ Ts) ?_
      try simp only[I,RX,↓KW,Nat.reduceBEq,Nat.reduceAdd,Int.reduceBEq,a6]
      have be:=aJ l (1+2*(g:Int)+1) (n:=3) Ts Ts
      have ae:cnt l g 1 m0=if(bU l (1+2*(g:Int)+1) 3).toNat=0/\m0=0 then 1 else(bU l (1+2*(g:Int)+1) 3).toNat:=by simp[cnt]
      generalize bU l (1+2*(g:Int)+1) 3=fr1 at*;generalize bi:cnt l g 1 m0=n1 at*
      repeat' (((first|refine bf ?_ ?_|refine az ?_ ?_|refine bz ?_ ?_)<;>intro h)<;>try simp only[RX,↓KW,Nat.reduceBEq,Nat.reduceAdd,Int.reduceLE,Int.reduceToNat,am,au,h])
      ·have an:fr1=0:=by simpa using h
       refine⟨Ts,?_⟩
       refine az (λhz=>?_) (λhz=>?_)<;>try simp only[RX,↓KW,Nat.reduceAdd,hz]
       ·have hz:m0=0:=by simpa using hz
        have ac:(n1:Int)=1:=by rw[ae,gc ⟨ST,hz⟩];rfl
        refine kX (.exit 4) (λ_:Unit=>(⟨[(9,.dat (I 1) none),(6,.dat (I (p+m0+aX n1 (p+m0) (bN G g):Nat)) none),(5,.dat (I G) none),(7,.dat (I g) none),(8,.ptr 403 0),(1,.dat (aI aE l) none),(0,.ptr 0 0)],[(403,⟨[aI aE (dB (cN p m0)),aI aE (dB (cN (p+m0) (aX n1 (p+m0) (bN G g))))],[]⟩),(0,⟨({t with groups:=dB M}:Tb).cells,if M=[]then[]else[(104,0)]⟩)],bG M 0 eR,1000⟩:S)) (λ_=>True) (λ_=>rfl) ?_ ?_
        ·refine aN (λi:Nat=>(⟨[(11,.dat (I i) none),(10,.dat (I n1) none),(6,.dat (I (p+m0+i:Nat)) none),(5,.dat (I G) none),(7,.dat (I g) none),(9,.dat (I 1) none),(8,.ptr 403 0),(1,.dat (aI aE l) none),(0,.ptr 0 0)],[(403,⟨[aI aE (dB (cN p m0)),aI aE (dB (cN (p+m0) i))],if cN (p+m0) i=[]then[]else[(1,1)]⟩),(0,⟨({t with groups:=dB M}:Tb).cells,if M=[]then[]else[(104,0)]⟩)],bG (cN (p+m0) i) 1 e++bG M 0 eR,1000⟩:S)) (λi=>aX n1 (p+m0) (bN G g)-i) (λi=>i<=aX n1 (p+m0) (bN G g)) ?_ 0 ST ?_
         ·intro i hi A1 D
          have ak:aX n1 (p+m0) (bN G g)<=8:=by simp only[aX,bN];omega
          have ab:=aG (k:=i) ST
          have hf:aX n1 (p+m0) (bN G g)=min n1 (bN G g-(p+m0)):=rfl
          have aa:IntKind.i64.wrap (((p+m0+i:Nat):Int)+1)=((p+m0+(i+1):Nat):Int):=by rw[aT ST ST];omega
          have al:(cN (p+m0) i).length=i:=by simp[cN]
          by_cases L:cN (p+m0) i=[]
          ·try simp only[I,RX,↓KW,Nat.reduceBEq,Nat.reduceAdd,L,bG,dB,B]
           repeat' (((first|refine bf ?_ ?_|refine az ?_ ?_|refine bz ?_ ?_)<;>intro h)<;>try simp only[RX,↓KW,Nat.reduceBEq,Nat.reduceAdd,Nat.reduceLeDiff,reduceCtorEq,Nat.reduceMul,Int.reduceLE,Int.reduceToNat,cK,O,aa,h])
           ·have h1:=dE h
            refine⟨Ts,?_⟩
            refine⟨Ts,?_⟩
            have V:(i:Int)<n1:=by rename_i V;exact dE V
            refine D (i+1) _ ST ST (ai Ts ?_ ?_ ?_ ?_)<;>simp[LX,I,ab,iZ,L,dB,bt,B]
           ·have h1:=dC h
            have:i=aX n1 (p+m0) (bN G g):=ST
            rw[<-this];refine dA () trivial ?_
            refine ai Ts ?_ ?_ ?_ ?_<;>simp[LX,L,cK]
           ·have h1:=dC h
            have:i=aX n1 (p+m0) (bN G g):=ST
            rw[<-this];refine dA () trivial ?_
            refine ai Ts ?_ ?_ ?_ ?_<;>simp[LX,L,cK]
          ·try simp only[I,RX,↓KW,Nat.reduceBEq,Nat.reduceAdd,L,bG,dB,B]
           repeat' (((first|refine bf ?_ ?_|refine az ?_ ?_|refine bz ?_ ?_)<;>intro h)<;>try simp only[RX,↓KW,Nat.reduceBEq,Nat.reduceAdd,Int.reduceLE,Int.reduceToNat,bt,O,aa,h])
           ·have h1:=dE h
            refine⟨Ts,ST,Ts,?_⟩
            have V:(i:Int)<n1:=by rename_i V;exact dE V
            refine D (i+1) _ ST ST (ai Ts ?_ ?_ ?_ ?_)<;>simp[LX,I,ab,iZ,L,dB,bt,B]
           ·have h1:=dC h
            have:i=aX n1 (p+m0) (bN G g):=ST
            rw[<-this];refine dA () trivial ?_
            refine ai Ts ?_ ?_ ?_ ?_<;>simp[LX,L,bt]
           ·have h1:=dC h
            have:i=aX n1 (p+m0) (bN G g):=ST
            rw[<-this];refine dA () trivial ?_
            refine ai Ts ?_ ?_ ?_ ?_<;>simp[LX,L,bt]
         ·refine ai Ts ?_ ?_ ?_ ?_<;>simp[LX,I,cN,dB,cK,B,ac]
        ·intro _ _
         try simp only[I,RX,↓KW,Nat.reduceBEq,Nat.reduceAdd,B,dB]
         refine wF ?_;try simp only[RX,↓KW,Nat.reduceBEq,Nat.reduceAdd,Int.reduceLT,Ew]
         refine dA () trivial ?_
         refine ai Ts ?_ ?_ ?_ ?_<;>simp[LX,B]
       ·have hz:¬m0=0:=by simpa using hz
        have ac:fr1=(n1:Int):=by rw[ae,fx (λhh=>hz hh.2)];omega
        refine kX (.exit 4) (λ_:Unit=>(⟨[(9,.dat (I 1) none),(6,.dat (I (p+m0+aX n1 (p+m0) (bN G g):Nat)) none),(5,.dat (I G) none),(7,.dat (I g) none),(8,.ptr 403 0),(1,.dat (aI aE l) none),(0,.ptr 0 0)],[(403,⟨[aI aE (dB (cN p m0)),aI aE (dB (cN (p+m0) (aX n1 (p+m0) (bN G g))))],[]⟩),(0,⟨({t with groups:=dB M}:Tb).cells,if M=[]then[]else[(104,0)]⟩)],bG M 0 eR,1000⟩:S)) (λ_=>True) (λ_=>rfl) ?_ ?_
        ·refine aN (λi:Nat=>(⟨[(11,.dat (I i) none),(10,.dat (I n1) none),(6,.dat (I (p+m0+i:Nat)) none),(5,.dat (I G) none),(7,.dat (I g) none),(9,.dat (I 1) none),(8,.ptr 403 0),(1,.dat (aI aE l) none),(0,.ptr 0 0)],[(403,⟨[aI aE (dB (cN p m0)),aI aE (dB (cN (p+m0) i))],if cN (p+m0) i=[]then[]else[(1,1)]⟩),(0,⟨({t with groups:=dB M}:Tb).cells,if M=[]then[]else[(104,0)]⟩)],bG (cN (p+m0) i) 1 e++bG M 0 eR,1000⟩:S)) (λi=>aX n1 (p+m0) (bN G g)-i) (λi=>i<=aX n1 (p+m0) (bN G g)) ?_ 0 ST ?_
         ·intro i hi A1 D
          have ak:aX n1 (p+m0) (bN G g)<=8:=by simp only[aX,bN];omega
          have ab:=aG (k:=i) ST
          have hf:aX n1 (p+m0) (bN G g)=min n1 (bN G g-(p+m0)):=rfl
          have aa:IntKind.i64.wrap (((p+m0+i:Nat):Int)+1)=((p+m0+(i+1):Nat):Int):=by rw[aT ST ST];omega
          have al:(cN (p+m0) i).length=i:=by simp[cN]
          by_cases L:cN (p+m0) i=[]
          ·try simp only[I,RX,↓KW,Nat.reduceBEq,Nat.reduceAdd,L,bG,dB,B]
           repeat' (((first|refine bf ?_ ?_|refine az ?_ ?_|refine bz ?_ ?_)<;>intro h)<;>try simp only[RX,↓KW,Nat.reduceBEq,Nat.reduceAdd,Nat.reduceLeDiff,reduceCtorEq,Nat.reduceMul,Int.reduceLE,Int.reduceToNat,cK,O,aa,h])
           ·have h1:=dE h
            refine⟨Ts,?_⟩
            refine⟨Ts,?_⟩
            have V:(i:Int)<n1:=by rename_i V;exact dE V
            refine D (i+1) _ ST ST (ai Ts ?_ ?_ ?_ ?_)<;>simp[LX,I,ab,iZ,L,dB,bt,B]
           ·have h1:=dC h
            have:i=aX n1 (p+m0) (bN G g):=ST
            rw[<-this];refine dA () trivial ?_
            refine ai Ts ?_ ?_ ?_ ?_<;>simp[LX,L,cK]
           ·have h1:=dC h
            have:i=aX n1 (p+m0) (bN G g):=ST
            rw[<-this];refine dA () trivial ?_
            refine ai Ts ?_ ?_ ?_ ?_<;>simp[LX,L,cK]
          ·try simp only[I,RX,↓KW,Nat.reduceBEq,Nat.reduceAdd,L,bG,dB,B]
           repeat' (((first|refine bf ?_ ?_|refine az ?_ ?_|refine bz ?_ ?_)<;>intro h)<;>try simp only[RX,↓KW,Nat.reduceBEq,Nat.reduceAdd,Int.reduceLE,Int.reduceToNat,bt,O,aa,h])
           ·have h1:=dE h
            refine⟨Ts,ST,Ts,?_⟩
            have V:(i:Int)<n1:=by rename_i V;exact dE V
            refine D (i+1) _ ST ST (ai Ts ?_ ?_ ?_ ?_)<;>simp[LX,I,ab,iZ,L,dB,bt,B]
           ·have h1:=dC h
            have:i=aX n1 (p+m0) (bN G g):=ST
            rw[<-this];refine dA () trivial ?_
            refine ai Ts ?_ ?_ ?_ ?_<;>simp[LX,L,bt]
           ·have h1:=dC h
            have:i=aX n1 (p+m0) (bN G g):=ST
            rw[<-this];refine dA () trivial ?_
            refine ai Ts ?_ ?_ ?_ ?_<;>simp[LX,L,bt]
         ·refine ai Ts ?_ ?_ ?_ ?_<;>simp[LX,I,cN,dB,cK,B,ac]
        ·intro _ _
         try simp only[I,RX,↓KW,Nat.reduceBEq,Nat.reduceAdd,B,dB]
         refine wF ?_;try simp only[RX,↓KW,Nat.reduceBEq,Nat.reduceAdd,Int.reduceLT,Ew]
         refine dA () trivial ?_
         refine ai Ts ?_ ?_ ?_ ?_<;>simp[LX,B]
      ·have an:¬fr1=0:=by simpa using h
       have ac:fr1=(n1:Int):=by rw[ae,fx (λhh=>an ST)];omega
       refine kX (.exit 4) (λ_:Unit=>(⟨[(9,.dat (I 1) none),(6,.dat (I (p+m0+aX n1 (p+m0) (bN G g):Nat)) none),(5,.dat (I G) none),(7,.dat (I g) none),(8,.ptr 403 0),(1,.dat (aI aE l) none),(0,.ptr 0 0)],[(403,⟨[aI aE (dB (cN p m0)),aI aE (dB (cN (p+m0) (aX n1 (p+m0) (bN G g))))],[]⟩),(0,⟨({t with groups:=dB M}:Tb).cells,if M=[]then[]else[(104,0)]⟩)],bG M 0 eR,1000⟩:S)) (λ_=>True) (λ_=>rfl) ?_ ?_
       ·refine aN (λi:Nat=>(⟨[(11,.dat (I i) none),(10,.dat (I n1) none),(6,.dat (I (p+m0+i:Nat)) none),(5,.dat (I G) none),(7,.dat (I g) none),(9,.dat (I 1) none),(8,.ptr 403 0),(1,.dat (aI aE l) none),(0,.ptr 0 0)],[(403,⟨[aI aE (dB (cN p m0)),aI aE (dB (cN (p+m0) i))],if cN (p+m0) i=[]then[]else[(1,1)]⟩),(0,⟨({t with groups:=dB M}:Tb).cells,if M=[]then[]else[(104,0)]⟩)],bG (cN (p+m0) i) 1 e++bG M 0 eR,1000⟩:S)) (λi=>aX n1 (p+m0) (bN G g)-i) (λi=>i<=aX n1 (p+m0) (bN G g)) ?_ 0 ST ?_
        ·intro i hi A1 D
         have ak:aX n1 (p+m0) (bN G g)<=8:=by simp only[aX,bN];omega
         have ab:=aG (k:=i) ST
         have hf:aX n1 (p+m0) (bN G g)=min n1 (bN G g-(p+m0)):=rfl
         have aa:IntKind.i64.wrap (((p+m0+i:Nat):Int)+1)=((p+m0+(i+1):Nat):Int):=by rw[aT ST ST];omega
         have al:(cN (p+m0) i).length=i:=by simp[cN]
         by_cases L:cN (p+m0) i=[]
         ·try simp only[I,RX,↓KW,Nat.reduceBEq,Nat.reduceAdd,L,bG,dB,B]
          repeat' (((first|refine bf ?_ ?_|refine az ?_ ?_|refine bz ?_ ?_)<;>intro h)<;>try simp only[RX,↓KW,Nat.reduceBEq,Nat.reduceAdd,Nat.reduceLeDiff,reduceCtorEq,Nat.reduceMul,Int.reduceLE,Int.reduceToNat,cK,O,aa,h])
          ·have h1:=dE h
           refine⟨Ts,?_⟩
           refine⟨Ts,?_⟩
           have V:(i:Int)<n1:=by rename_i V;exact dE V
           refine D (i+1) _ ST ST (ai Ts ?_ ?_ ?_ ?_)<;>simp[LX,I,ab,iZ,L,dB,bt,B]
          ·have h1:=dC h
           have:i=aX n1 (p+m0) (bN G g):=ST
           rw[<-this];refine dA () trivial ?_
           refine ai Ts ?_ ?_ ?_ ?_<;>simp[LX,L,cK]
          ·have h1:=dC h
           have:i=aX n1 (p+m0) (bN G g):=ST
           rw[<-this];refine dA () trivial ?_
           refine ai Ts ?_ ?_ ?_ ?_<;>simp[LX,L,cK]
         ·try simp only[I,RX,↓KW,Nat.reduceBEq,Nat.reduceAdd,L,bG,dB,B]
          repeat' (((first|refine bf ?_ ?_|refine az ?_ ?_|refine bz ?_ ?_)<;>intro h)<;>try simp only[RX,↓KW,Nat.reduceBEq,Nat.reduceAdd,Int.reduceLE,Int.reduceToNat,bt,O,aa,h])
          ·have h1:=dE h
           refine⟨Ts,ST,Ts,?_⟩
           have V:(i:Int)<n1:=by rename_i V;exact dE V
           refine D (i+1) _ ST ST (ai Ts ?_ ?_ ?_ ?_)<;>simp[LX,I,ab,iZ,L,dB,bt,B]
          ·have h1:=dC h
           have:i=aX n1 (p+m0) (bN G g):=ST
           rw[<-this];refine dA () trivial ?_
           refine ai Ts ?_ ?_ ?_ ?_<;>simp[LX,L,bt]
          ·have h1:=dC h
           have:i=aX n1 (p+m0) (bN G g):=ST
           rw[<-this];refine dA () trivial ?_
           refine ai Ts ?_ ?_ ?_ ?_<;>simp[LX,L,bt]
        ·refine ai Ts ?_ ?_ ?_ ?_<;>simp[LX,I,cN,dB,cK,B,ac]
       ·intro _ _
        try simp only[I,RX,↓KW,Nat.reduceBEq,Nat.reduceAdd,B,dB]
        refine wF ?_;try simp only[RX,↓KW,Nat.reduceBEq,Nat.reduceAdd,Int.reduceLT,Ew]
        refine dA () trivial ?_
        refine ai Ts ?_ ?_ ?_ ?_<;>simp[LX,B]
    ·intro _ _
     have ar:=Tb.Iz (t:={t with groups:=dB M}) ht.phases
     have a8:=Tb.len' (t:={t with groups:=dB M}) ht.phases ht.conflict ht.dc
     have ad:=Tb.IA (t:={t with groups:=dB M}) ht.phases (some (M++[⟨dB (cN p (aX n0 p (bN G g))),dB (cN (p+aX n0 p (bN G g)) (aX (cnt l g 1 (aX n0 p (bN G g))) (p+aX n0 p (bN G g)) (bN G g)))⟩]))
     simp only[B,dB,kv,ik]at ar a8 ad;try simp only[I,RX,↓KW,Nat.reduceBEq,Nat.reduceAdd,Nat.reduceLeDiff,reduceCtorEq,Nat.reduceMul,ar,cK,bt,Gr.len,ag,B,dB]
     try refine⟨ST,?_⟩
     try refine⟨by simp[bG,B,dY],?_⟩
     try refine⟨ST,?_⟩
     simp[bt,Gr.cells]at ad
     refine back (g+1) _ ST ST (ai Ts ?_ ?_ ?_ ?_)<;>simp[LX,I,ao,hw,B,dB,ad]
     trace_state
   ·have a5:g=G:=by have:=dC h;omega
    subst a5
    first
     |(exfalso;rw[B]at ag;simp at ag;omega)
     |exact⟨by rw[hR],by rw[hR]⟩
 ·have:({t with groups:=none}:Tb)=t:=by cases t;simp_all
  refine ai Ts ?_ ?_ ?_ ?_<;>simp[LX,I,aW,dB,this]
end
structure Tb.Ln (t:Tb):Prop where
 phases:t.phases.length=8
 conflict:t.conflict.length=8
 dc:t.dc.length=8
theorem Tb.Ok.ln{t:Tb} (h:t.Ok):t.Ln:=⟨h.phases,h.conflict,h.dc⟩
section
variable{t:Tb} (h:t.Ln)
include h
section
variable {i off:Nat} {post ps:List AV} (v:Int)
theorem Tb.Ln.len:t.cells.length=131:=by
 simp[Tb.cells,aM Ph.len,h.phases,h.conflict,h.dc]
theorem Tb.Ln.whole:aH t.cells 0 (some 131)=some (.agg t.cells):=by
 have A:=h.len
 rw[uY _ _ _ ST,l3,<-A,l0]
theorem Tb.Ln.N3:t.cells[113]? =some (aI xP.cells t.aQ):=by
 simp[Tb.cells,aM Ph.len,h.phases,h.conflict,h.dc]
theorem Tb.Ln.N4:t.cells[114]? =some (aI Rl.cells t.bp):=by
 simp[Tb.cells,aM Ph.len,h.phases,h.conflict,h.dc]
theorem Tb.Ln.Zk:t.cells[115]? =some (aI Bs.cells t.jz):=by
 simp[Tb.cells,aM Ph.len,h.phases,h.conflict,h.dc]
theorem Tb.Ln.Zl:t.cells[129]? =some (I t.pK):=by
 simp[Tb.cells,aM Ph.len,h.phases,h.conflict,h.dc]
theorem Tb.Ln.nq{c:Int} (A:t.conflict[i]? =some c):t.cells[105+i]? =some (I c):=by
 have B:i<8:=by have:=(e9.1 A).1;rw[h.conflict]at this;exact this
 have e:(t.phases.flatMap Ph.cells).length=104:=by rw[aM Ph.len,h.phases]
 unfold Tb.cells
 rw[ll ST,e,show 105+i-104=i+1 by omega,kx,km (by simp[h.conflict,B]),jp,A];rfl
def Tb.rest(t:Tb):List AV:=aI Gr.cells t.groups::(t.conflict.map I++(aI xP.cells t.aQ::aI Rl.cells t.bp::aI Bs.cells t.jz::
  I t.extend::I t.gJ::I t.start::I t.revert::I t.least::(t.dc.map I++[I t.pK,I t.share])))
omit h in
theorem bJ{pre:List AV} (A:pre.length<=off):setCells (pre++post) off ps=pre++setCells post (off-pre.length) ps:=by
 simp only[setCells,List.take_append,PQ,List.append_assoc]
 rw[my A,zd ST,show off+ps.length-pre.length=off-pre.length+ps.length by omega]
 rfl
omit h in
theorem Bn{pre:List AV} (A:off+ps.length<=pre.length):setCells (pre++post) off ps=setCells pre off ps++post:=by
 simp only[setCells]
 rw[IH ST,List.drop_append_of_le_length A]
 simp
omit h in
theorem JW{l:List Int} {v:Int} (A:i<l.length):setCells (l.map I) i [I v]=(l.set i v).map I:=by
 simp only[setCells,fl,ge];rw[H0,gc A];simp[List.map_take,List.map_drop]
omit h in
theorem eN(c:AV) (cs ps:List AV) (k:Nat):setCells (c::cs) (k+1) ps=c::setCells cs k ps:=by
 simp only[setCells,yi,ws,show k+1+ps.length=(k+ps.length)+1 by omega,ne]
theorem Tb.Ln.LL(B:i<8) (q:Ph):setCells t.cells (i*13) q.cells=({t with phases:=t.phases.set i q}:Tb).cells:=by
 obtain⟨p,A⟩:∃p,t.phases[i]? =some p:=⟨_,et (by rw[h.phases];exact B)⟩
 exact Tb.LG A
theorem Tb.Ln.wG(A:i<8) (v:Int):setCells t.cells (105+i) [I v]=({t with conflict:=t.conflict.set i v}:Tb).cells:=by
 have e:(t.phases.flatMap Ph.cells).length=104:=by rw[aM Ph.len,h.phases]
 unfold Tb.cells
 rw[bJ ST,e,show 105+i-104=i+1 by omega,eN,Bn (by simp[h.conflict];omega),JW (by rw[h.conflict];exact A)]
theorem Tb.Ln.Du(A:i<8) (v:Int):setCells t.cells (121+i) [I v]=({t with dc:=t.dc.set i v}:Tb).cells:=by
 have e:(t.phases.flatMap Ph.cells).length=104:=by rw[aM Ph.len,h.phases]
 unfold Tb.cells
 rw[bJ ST,e,show 121+i-104=(i+16)+1 by omega,eN,bJ (by simp[h.conflict]),show i+16-(t.conflict.map I).length=i+8 by simp[h.conflict]]
 simp only[eN]
 rw[Bn (by simp[h.dc];omega),JW (by rw[h.dc];exact A)]
theorem Tb.Ln.N5(d:Option (List xP)):setCells t.cells 113 [aI xP.cells d]=({t with aQ:=d}:Tb).cells:=by
 have e:(t.phases.flatMap Ph.cells).length=104:=by rw[aM Ph.len,h.phases]
 have A:(t.conflict.map I).length=8:=by simp[h.conflict]
 unfold Tb.cells
 rw[bJ ST,e,show 113-104=8+1 by omega,eN,bJ ST,A]
 rfl
theorem Tb.Ln.Dv(d:Option (List Rl)):setCells t.cells 114 [aI Rl.cells d]=({t with bp:=d}:Tb).cells:=by
 have e:(t.phases.flatMap Ph.cells).length=104:=by rw[aM Ph.len,h.phases]
 have A:(t.conflict.map I).length=8:=by simp[h.conflict]
 unfold Tb.cells
 rw[bJ ST,e,show 114-104=9+1 by omega,eN,bJ ST,A]
 rfl
theorem Tb.Ln.LM(d:Option (List Bs)):setCells t.cells 115 [aI Bs.cells d]=({t with jz:=d}:Tb).cells:=by
 have e:(t.phases.flatMap Ph.cells).length=104:=by rw[aM Ph.len,h.phases]
 have A:(t.conflict.map I).length=8:=by simp[h.conflict]
 unfold Tb.cells
 rw[bJ ST,e,show 115-104=10+1 by omega,eN,bJ ST,A]
 rfl
theorem Tb.Ln.sg:setCells t.cells 116 [I v]=({t with extend:=v}:Tb).cells/\setCells t.cells 117 [I v]=({t with gJ:=v}:Tb).cells/\setCells t.cells 118 [I v]=({t with start:=v}:Tb).cells/\
  setCells t.cells 119 [I v]=({t with revert:=v}:Tb).cells/\setCells t.cells 120 [I v]=({t with least:=v}:Tb).cells:=by
 have e:(t.phases.flatMap Ph.cells).length=104:=by rw[aM Ph.len,h.phases]
 have A:(t.conflict.map I).length=8:=by simp[h.conflict]
 unfold Tb.cells;refine⟨?_,?_,?_,?_,?_⟩
 ·rw[bJ ST,e,show 116-104=11+1 by omega,eN,bJ ST,A];rfl
 ·rw[bJ ST,e,show 117-104=12+1 by omega,eN,bJ ST,A];rfl
 ·rw[bJ ST,e,show 118-104=13+1 by omega,eN,bJ ST,A];rfl
 ·rw[bJ ST,e,show 119-104=14+1 by omega,eN,bJ ST,A];rfl
 ·rw[bJ ST,e,show 120-104=15+1 by omega,eN,bJ ST,A];rfl
theorem Tb.Ln.Gk:setCells t.cells 129 [I v]=({t with pK:=v}:Tb).cells/\setCells t.cells 130 [I v]=({t with share:=v}:Tb).cells:=by
 have e:(t.phases.flatMap Ph.cells).length=104:=by rw[aM Ph.len,h.phases]
 have B:(t.conflict.map I).length=8:=by simp[h.conflict]
 have A:(t.dc.map I).length=8:=by simp[h.dc]
 unfold Tb.cells;refine⟨?_,?_⟩
 ·rw[bJ ST,e,show 129-104=24+1 by omega,eN,bJ ST,B]
  simp only[Nat.reduceSub,eN]
  rw[bJ ST,A];rfl
 ·rw[bJ ST,e,show 130-104=25+1 by omega,eN,bJ ST,B]
  simp only[Nat.reduceSub,eN]
  rw[bJ ST,A];rfl
end
end
end Go.Eng
