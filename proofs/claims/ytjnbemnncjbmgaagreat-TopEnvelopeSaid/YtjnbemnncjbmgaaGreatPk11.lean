/- Part 11 of the engine and its library. -/
import Derived.Test.YtjnbemnncjbmgaaGreatPk10
set_option linter.all false
set_option maxRecDepth 10000
set_option maxHeartbeats 4000000
namespace Go.Eng
open Go
section
variable (t:Tb) (C:aT) {α:Type} (f:Nat) (g k p:Int)
def oa:Int:=jc ((jY (yx t)).map λp=>lE [(aK t p).dD,(aK t p).red])
def clear.Spec:Prop:=∀(t:Tb),t.Ok->C.c f [.agg t.cells] (I (oa t)) none
def mQ:Int:=if rS (yx t) p then lE [jc [jX (aK t p).min,lE [(aK t p).walk,(aK t p).cz],jX (aK t p).top],t.extend,(aK t p).dD,(aK t p).red,t.revert,8]else 0
def serve.Spec:Prop:=∀(t:Tb) (p:Int),t.Ok->C.c f [.agg t.cells,I p] (I (mQ t p)) none
def iP(n:Nat):List Int:=8::(((bQ t).take n).filter (λx=>x.group==g)).map (λx=>mQ t x.p)
def qS:Int:=if g<0\/((t.groups.getD []).length:Int)<=g then 0 else lE (iP t g (bQ t).length)
def pass.Spec:Prop:=∀(t:Tb) (g:Int),t.Ok->C.c f [.agg t.cells,I g] (I (qS t g)) none
def sN:Int:=if(aE t p).2&&rS (yx t) p then lE (qS t (aE t p).1.group::(List.range (t.groups.getD []).length).map λ(g:Nat)=>qS t g)else 0
def free.Spec:Prop:=∀(t:Tb) (p:Int),t.Ok->C.c f [.agg t.cells,I p] (I (sN t p)) none
def Ai:Rl:=(t.bE.getD []).getD k.toNat default
def uu:Int:=if k<0\/((t.bE.getD []).length:Int)<=k then 0 else
 lE [(Ai t k).delay,(Ai t k).hold,(Ai t k).green,(Ai t k).green,(Ai t k).dm,(Ai t k).dm,(Ai t k).dm,oa t,oa t,oa t,oa t,oa t,t.revert,t.revert,t.revert,60]
def entry.Spec:Prop:=∀(t:Tb) (k:Int),t.Ok->C.c f [.agg t.cells,I k] (I (uu t k)) none
theorem GM{s p:Int} (h:rS s p=true):0<=p/\p<8:=by
 simp only[rS,ed,ii]at h;exact h.1
theorem Eu{s p:Int} (h:p∈jY s):0<=p/\p<8:=GM (yk.1 h).2
theorem JE(s:Int):(jY s).length<=8:=by
 have:=Hb (rS s) ((List.range 8).map λ(k:Nat)=>(k:Int))
 simpa[jY]using this
theorem dB(l:List α):(ez l).getD []=l:=by unfold ez;split<;>simp_all
theorem zq{β:Type} {f:α->β} {l:List α} {i:Nat} {x:α} (h:l[i]? =some x):(l.take (i+1)).map f=(l.take i).map f++[f x]:=by rw[jB h];simp
theorem Nb{t:Tb} {g:Int} {k:Nat} {x:Sp} (h:(bQ t)[k]? =some x):iP t g (k+1)=if x.group==g then iP t g k++[mQ t x.p]else iP t g k:=by
 unfold iP;rw[jB h,Pl,ta]
 by_cases D:x.group==g<;>simp[D]
theorem GN(k:Nat):(iP t g k).length<=k+1:=by
 have:=Hb (λx:Sp=>x.group==g) ((bQ t).take k)
 have D:((bQ t).take k).length<=k:=List.length_take_le _ _
 simp only[iP,fi,OF];omega
end
section
variable{P:Program} (hm:P.follows .mixedOrders=true) {f:Nat}
include hm
section
variable {e fM fO fS:Nat}
theorem clear.ok{fL:Nat} (hc:bK P f=some (wU fO fL e fS fM)) (hO:on.Spec (Pure P) fO) (hL:um.Spec (Pure P) fL e) (hS:By.Spec (Pure P) fS) (hM:most.Spec (Pure P) fM):clear.Spec (Pure P) f:=by
 intro t ht
 have hp:=Tb.whole ht
 refine aq hm hc [] rfl ?_;try simp only[I,RX,↓KW,seval,wU,Z.H,hp]
 refine af (hO t ht) ?_;try simp only[I,RX,↓KW,seval]
 refine af (hL _ none (.inl rfl)) ?_;try simp only[RX,↓KW,seval]
 have ae:=JE (yx t)
 have ab:=@Eu (yx t)
 have R:∀G,G=(jY (yx t)).map (λp=>lE [(aK t p).dD,(aK t p).red])->oa t=jc G:=λG h=>by rw[h];rfl
 generalize jY (yx t)=L at*
 generalize hF:(λp=>lE [(aK t p).dD,(aK t p).red])=F at*
 have ac:∀p,F p=lE [(aK t p).dD,(aK t p).red]:=λp=>by rw[<-hF]
 have ad:=dB L
 refine aG (λk:Nat=>(⟨[(10,.dat (I k) none),(9,.dat (I L.length) none),(8,.dat (aI aH (ez L)) none),(1,.ptr 4 0),(3,bN aH ((L.take k).map F) 0)],[(4,⟨t.cells,[]⟩)],cm ((L.take k).map F) 0 e,400⟩:S)) (λk=>L.length-k) (λk=>k<=L.length) ?_ 0 ado ?_
 ·intro k hk A back
  have hw:=aC (k:=k) ado
  by_cases hl:(L.take k).map F=[]
  all_goals
   try simp only[I,RX,↓KW,seval,bN,cm,hl]
   refine aA (λh=>?_) (λh=>?_)<;>try simp only[RX,↓KW,seval,ad,h]
  ·have aa:k<L.length:=by have:=dE h;omega
   obtain⟨x,V⟩:∃x,L[k]? =some x:=⟨_,eh aa⟩
   have hn:=zq (f:=F) V
   have O:=ab (er V)
   have M:=Tb.K2 ht O.1 O.2
   refine⟨ado,?_⟩
   try simp only[I,RX,↓KW,seval,V,aH]
   refine⟨ado,?_⟩
   try simp only[I,RX,↓KW,seval,M]
   refine⟨ado,?_⟩
   try simp only[I,B,D,RX,↓KW,seval,M]
   refine af (hS (some [(aK t x).dD,(aK t x).red]) adI) ?_
   try simp only[I,RX,↓KW,seval]
   refine back (k+1) _ ado ado (ai adp ?_ ?_ ?_ ?_)<;>simp[LX,I,hn,hl,hw,ac]
  ·have:k=L.length:=by have:=dT h;omega
   subst this;try simp only[I,B,D,RX,↓KW,seval]
   rw[io]at hl
   refine af (hM none adI) ?_
   try simp only[I,RX,↓KW,seval]
   simp[R _ rfl,hl]
  ·have aa:k<L.length:=by have:=dE h;omega
   obtain⟨x,V⟩:∃x,L[k]? =some x:=⟨_,eh aa⟩
   have hn:=zq (f:=F) V
   have O:=ab (er V)
   have M:=Tb.K2 ht O.1 O.2
   refine⟨ado,?_⟩
   try simp only[I,RX,↓KW,seval,V,aH]
   refine⟨ado,?_⟩
   try simp only[I,RX,↓KW,seval,M]
   refine⟨ado,?_⟩
   try simp only[I,B,D,RX,↓KW,seval,M]
   refine af (hS (some [(aK t x).dD,(aK t x).red]) adI) ?_
   try simp only[I,RX,↓KW,seval]
   refine⟨by simp;omega,?_⟩
   refine back (k+1) _ ado ado (ai adp ?_ ?_ ?_ ?_)<;>simp[LX,I,hn,hw,ac]
  ·have:k=L.length:=by have:=dT h;omega
   subst this;rw[io]at*;try simp only[I,B,D,RX,↓KW,seval]
   refine af (hM (some (L.map F)) (by simp;omega)) ?_
   try simp only[I,RX,↓KW,seval]
   simp[R _ rfl]
 ·refine ai adp ?_ ?_ ?_ ?_<;>simp[LX,I,ad]
theorem serve.ok{fH fC:Nat} (hc:bK P f=some (pO fO fH fC e fS fM)) (hO:on.Spec (Pure P) fO) (hH:rT.Spec (Pure P) fH) (hC:Cap.Spec (Pure P) fC) (hS:By.Spec (Pure P) fS) (hM:most.Spec (Pure P) fM):serve.Spec (Pure P) f:=by
 intro t p O
 have hp:=Tb.whole O
 have D:=Tb.tail_at O
 have M:=D 0 ado
 have L:=D 3 ado
 refine aq hm hc [] rfl ?_;try simp only[I,RX,↓KW,seval,pO,Z.H,hp]
 refine af (hO t O) ?_;try simp only[I,RX,↓KW,seval]
 refine af (hH _ _) ?_;try simp only[B,RX,↓KW,seval]
 by_cases h:rS (yx t) p=true
 ·have hr:=GM h
  have V:=Tb.Wq O hr.1 hr.2
  have R:mQ t p=lE [jc [jX (aK t p).min,lE [(aK t p).walk,(aK t p).cz],jX (aK t p).top],t.extend,(aK t p).dD,(aK t p).red,t.revert,8]:=fp h
  generalize aK t p=x at*;try simp only[RX,↓KW,seval,h]
  refine⟨ado,?_⟩
  try simp only[I,B,RX,↓KW,seval,V,Ph.cells,dV]
  refine af (hC _) ?_;try simp only[I,RX,↓KW,seval]
  refine af (hS (some [x.walk,x.cz]) adI) ?_
  try simp only[I,RX,↓KW,seval]
  refine af (hC _) ?_;try simp only[I,RX,↓KW,seval]
  refine af (hM (some [_,_,_]) adI) ?_
  try simp only[I,RX,↓KW,seval,M,L]
  refine af (hS (some [_,_,_,_,_,_]) adI) ?_
  try simp only[I,RX,↓KW,seval,R]
  rfl
 ·have R:mQ t p=0:=fb h
  simp only[abV]at h;try simp only[RX,↓KW,seval,h,R]
theorem pass.ok{fV fs e':Nat} (hc:bK P f=some (rR e fS fV fs)) (hS:bQ.Spec (Pure P) fS e') (hV:serve.Spec (Pure P) fV) (hs:By.Spec (Pure P) fs):pass.Spec (Pure P) f:=by
 intro t g O
 have hl:=Tb.len O
 have hp:=Tb.whole O
 have hg:=Tb.oU O
 refine aq hm hc [] rfl ?_;try simp only[I,RX,↓KW,seval,rR,Z.H]
 by_cases h0:g<0\/((t.groups.getD []).length:Int)<=g
 ·have M:qS t g=0:=fp h0
  repeat' (((first|refine aY ?_ ?_|refine aA ?_ ?_|refine bH ?_ ?_)<;>intro h)<;>try simp only[RX,↓KW,seval,hg,M,h])
  simp_all;omega
 ·have M:qS t g=lE (iP t g (bQ t).length):=fb h0
  have h1:decide (g<0)=false:=by simp;omega
  have R:decide (((t.groups.getD []).length:Int)<=g)=false:=by simp;omega
  try simp only[RX,↓KW,seval,h1,hg,R,hp]
  refine af (hS t none O (.inl rfl)) ?_
  have ad:=JD O
  have V:=dB (bQ t)
  try simp only[RX,↓KW,seval,V]
  generalize ac:bQ t=Z at*
  refine aG (λk:Nat=>(⟨[(21,.dat (I k) none),(20,.dat (I Z.length) none),(19,.dat (aI Sp.cells (ez Z)) none),(1,.dat (I g) none),(2,.ptr 4 0),(5,bN aH (iP t g k) 0)],[(4,⟨t.cells,[]⟩)],cm (iP t g k) 0 e,400⟩:S)) (λk=>Z.length-k) (λk=>k<=Z.length) ?_ 0 ado ?_
  ·intro k hk A back
   have hw:=aC (k:=k) ado
   have L:iP t g k≠[]:=by simp[iP]
   try simp only[I,RX,↓KW,seval,bN,cm,L]
   refine aA (λh=>?_) (λh=>?_)<;>try simp only[RX,↓KW,seval,V,h]
   ·have ab:k<Z.length:=by have:=dE h;omega
    obtain⟨x,M⟩:∃x,Z[k]? =some x:=⟨_,eh ab⟩
    have hn:iP t g (k+1)=if x.group==g then iP t g k++[mQ t x.p]else iP t g k:=Nb (by rw[ac];exact M)
    have aa:=GN t g k
    refine⟨ado,?_⟩
    try simp only[I,RX,↓KW,seval,M,Sp.cells]
    refine aA (λR=>?_) (λR=>?_)<;>try simp only[RX,↓KW,seval,hp,R]
    ·refine af (hV t _ O) ?_
     try simp only[I,RX,↓KW,seval]
     refine⟨ado,?_⟩
     refine back (k+1) _ ado ado (ai adp ?_ ?_ ?_ ?_)<;>simp[LX,I,hn,hw,R,L]
    ·refine back (k+1) _ ado ado (ai adp ?_ ?_ ?_ ?_)<;>simp[LX,I,hn,hw,R,L]
   ·have:k=Z.length:=by have:=dT h;omega
    subst this
    have aa:=GN t g Z.length
    try simp only[I,B,D,RX,↓KW,seval]
    refine af (hs (some (iP t g Z.length)) (by simp;omega)) ?_
    try simp only[I,RX,↓KW,seval,M]
    rfl
  ·refine ai adp ?_ ?_ ?_ ?_<;>simp[LX,I,iP,mQ]
end
end
section
variable (t:Tb) (C:aT) (p:Int) (f:Nat) (l:List Int) (n:Nat)
def ob:List Int:=qS t (aE t p).1.group::(List.range n).map λ(g:Nat)=>qS t g
theorem Nc:ob t p (n+1)=ob t p n++[qS t n]:=by simp[ob,lj]
def mR:List Int:=(List.range n).map λ(k:Nat)=>lE [uu t k,(Ai t k).stay]
theorem Nd:mR t (n+1)=mR t n++[lE [uu t n,(Ai t n).stay]]:=by simp[mR,lj]
def pP:List Int:=l.flatMap λp=>[jX (aK t p).min,lE [(aK t p).walk,(aK t p).cz]]
theorem Ev{t:Tb} {l:List Int} {i:Nat} {x:Int} (h:l[i]? =some x):pP t (l.take (i+1))=pP t (l.take i)++[jX (aK t x).min,lE [(aK t x).walk,(aK t x).cz]]:=by rw[jB h];simp[pP]
theorem PK:(pP t l).length=l.length*2:=by
 induction l with
 |nil=>rfl
 |cons x l D=>simp only[pP,Hm,rh,fi,ib]at D⊢;omega
def Rh:Int:=if(t.bE.getD []).length=0 then 0 else lE [jc (mR t (t.bE.getD []).length),jc (pP t (jY (yx t))),oa t,t.revert,30]
def pQ.Spec:Prop:=∀(t:Tb),t.Ok->C.c f [.agg t.cells] (I (Rh t)) none
def sO:Int:=if sN t p=0\/(t.bE.getD []).length=0 then sN t p else lE [aj8 (lE [t.share,1]) (lE [Rh t,sN t p,2]),t.share]
def wait.Spec:Prop:=∀(t:Tb) (p:Int),t.Ok->C.c f [.agg t.cells,I p] (I (sO t p)) none
theorem Rl.len(r:Rl):r.cells.length=11:=rfl
theorem GO{t:Tb} {k:Int} (D:0<=k) (L:k<((t.bE.getD []).length:Int)):(t.bE.getD [])[k.toNat]? =some (Ai t k):=by
 have:k.toNat<(t.bE.getD []).length:=ado
 simp[Ai,this]
end
section
variable{P:Program} (hm:P.follows .mixedOrders=true) {f:Nat}
include hm
section
variable {e fO fs:Nat}
theorem free.ok{fW fH fP:Nat} (hc:bK P f=some (rQ fW fO fH fP e fs)) (hW:where.Spec (Pure P) fW) (hO:on.Spec (Pure P) fO) (hH:rT.Spec (Pure P) fH) (hP:pass.Spec (Pure P) fP) (hs:By.Spec (Pure P) fs):free.Spec (Pure P) f:=by
 intro t p L
 have O:=Tb.whole L
 have hg:=Tb.oU L
 have hb:=L.groups
 refine aq hm hc [] rfl ?_;try simp only[I,RX,↓KW,seval,rQ,Z.H,O]
 refine af (hW t _ L) ?_;try simp only[I,B,RX,↓KW,seval,Sp.cells]
 by_cases M:((aE t p).2&&rS (yx t) p)=true
 ·have V:sN t p=lE (ob t p (t.groups.getD []).length):=fp M
  simp only[ed]at M;try simp only[RX,↓KW,seval,M,O]
  refine af (hO t L) ?_;try simp only[I,RX,↓KW,seval]
  refine af (hH _ _) ?_;try simp only[B,RX,↓KW,seval,M,O]
  refine af (hP t _ L) ?_;try simp only[I,RX,↓KW,seval]
  refine aG (λk:Nat=>(⟨[(8,.dat (I k) none),(2,.ptr 4 0),(7,bN aH (ob t p k) 0)],[(4,⟨t.cells,[]⟩)],cm (ob t p k) 0 e,400⟩:S)) (λk=>(t.groups.getD []).length-k) (λk=>k<=(t.groups.getD []).length) ?_ 0 ado ?_
  ·intro k hk A back
   have hw:=aC (k:=k) ado
   have R:ob t p k≠[]:=by simp[ob]
   have hn:=Nc t p k
   have aa:(ob t p k).length=k+1:=by simp[ob]
   try simp only[I,RX,↓KW,seval,bN,cm,R,hg]
   refine aA (λh=>?_) (λh=>?_)<;>try simp only[RX,↓KW,seval,O,h]
   ·have:k<(t.groups.getD []).length:=by have:=dE h;omega
    refine af (hP t _ L) ?_;try simp only[I,RX,↓KW,seval]
    refine⟨ado,?_⟩
    refine back (k+1) _ ado ado (ai adp ?_ ?_ ?_ ?_)<;>simp[LX,I,hn,hw,R]
   ·have:k=(t.groups.getD []).length:=by have:=dT h;omega
    subst this;try simp only[I,B,D,RX,↓KW,seval]
    refine af (hs (some (ob t p (t.groups.getD []).length)) (by simp;omega)) ?_
    try simp only[I,RX,↓KW,seval,V]
    rfl
  ·refine ai adp ?_ ?_ ?_ ?_<;>simp[LX,I,ob]
 ·have V:sN t p=0:=fb M
  repeat' (first|((first|refine af (hO t L) ?_|refine af (hH _ _) ?_);try simp only[I,B,RX,↓KW,seval])|(((first|refine aY ?_ ?_|refine aA ?_ ?_|refine bH ?_ ?_)<;>intro h)<;>try simp only[RX,↓KW,seval,O,V,h]))
  all_goals simp_all
theorem entry.ok{R O:Nat} (hc:bK P f=some (pN R e O)) (hC:clear.Spec (Pure P) R) (hs:By.Spec (Pure P) O):entry.Spec (Pure P) f:=by
 intro t k D
 have hl:=Tb.len D
 have hp:=Tb.whole D
 have hg:=Tb.sK D
 have L:=Tb.tail_at D 3 ado
 refine aq hm hc [] rfl ?_;try simp only[I,RX,↓KW,seval,pN,Z.H]
 by_cases V:k<0\/((t.bE.getD []).length:Int)<=k
 ·have M:uu t k=0:=fp V
  repeat' (((first|refine aY ?_ ?_|refine aA ?_ ?_|refine bH ?_ ?_)<;>intro h)<;>try simp only[RX,↓KW,seval,hg,M,h])
  simp_all;omega
 ·have M:=show uu t k=_ from fb V
  have h1:decide (k<0)=false:=by simp;omega
  have h2:decide (((t.bE.getD []).length:Int)<=k)=false:=by simp;omega
  have hr:=GO (t:=t) (k:=k) ado ado
  try simp only[RX,↓KW,seval,h1,h2,hg]
  refine⟨ado,?_⟩
  try simp only[I,RX,↓KW,seval,hr,Rl.cells,cI,hp]
  refine af (hC t D) ?_;try simp only[I,RX,↓KW,seval,L]
  refine af (hs (some [_,_,_,_,_,_,_,_,_,_,_,_,_,_,_,_]) adI) ?_
  try simp only[I,RX,↓KW,seval,M]
  rfl
theorem wait.ok{fF V:Nat} (hc:bK P f=some (rO fF e fs fO V)) (hF:free.Spec (Pure P) fF) (O:By.Spec (Pure P) fs) (hO:pQ.Spec (Pure P) fO) (hM:Mul.Spec (Pure P) V):wait.Spec (Pure P) f:=by
 intro t p L
 have hl:=Tb.len L
 have R:=Tb.whole L
 have hg:=Tb.sK L
 have D:=Tb.Wp L
 refine aq hm hc [] rfl ?_;try simp only[I,RX,↓KW,seval,rO,Z.H,R]
 refine af (hF t _ L) ?_;try simp only[I,RX,↓KW,seval]
 by_cases h0:sN t p=0\/(t.bE.getD []).length=0
 ·have M:sO t p=sN t p:=fp h0
  repeat' (((first|refine aY ?_ ?_|refine aA ?_ ?_|refine bH ?_ ?_)<;>intro h)<;>try simp only[RX,↓KW,seval,hg,M,h])
  simp_all
 ·have M:=show sO t p=_ from fb h0
  have h1:(sN t p==0)=false:=by simp;omega
  have h2:(((t.bE.getD []).length:Int)==0)=false:=beq_false_of_ne ado
  try simp only[I,RX,↓KW,seval,h1,h2,hg,D]
  refine af (O (some [_,_]) adI) ?_
  try simp only[I,RX,↓KW,seval,R]
  refine af (hO t L) ?_;try simp only[I,RX,↓KW,seval]
  refine af (O (some [_,_,_]) adI) ?_
  try simp only[I,RX,↓KW,seval]
  refine af (hM _ _) ?_;try simp only[I,RX,↓KW,seval,D]
  refine af (O (some [_,_]) adI) ?_
  try simp only[I,RX,↓KW,seval,M]
  rfl
theorem pQ.ok{fE fL fC fM ae:Nat} (hc:bK P f=some (zn fE e fs fO fL fC fM ae)) (hE:entry.Spec (Pure P) fE) (hs:By.Spec (Pure P) fs) (hO:on.Spec (Pure P) fO) (hL:um.Spec (Pure P) fL e) (hC:Cap.Spec (Pure P) fC) (hM:most.Spec (Pure P) fM) (ag:clear.Spec (Pure P) ae):pQ.Spec (Pure P) f:=by
 intro t R
 have hp:=Tb.whole R
 have hg:=Tb.sK R
 have hb:=R.bE
 have ab:=Tb.tail_at R 3 ado
 refine aq hm hc [] rfl ?_;try simp only[I,RX,↓KW,seval,zn,Z.H,hg]
 by_cases h0:(t.bE.getD []).length=0
 ·have hx:Rh t=0:=fp h0
  repeat' (((first|refine aY ?_ ?_|refine aA ?_ ?_|refine bH ?_ ?_)<;>intro h)<;>try simp only[RX,↓KW,seval,hx,h])
  simp_all
 ·have hx:=show Rh t=_ from fb h0
  have h2:(((t.bE.getD []).length:Int)==0)=false:=beq_false_of_ne ado
  try simp only[RX,↓KW,seval,h2]
  refine aG (λk:Nat=>(⟨[(5,.dat (I k) none),(1,.ptr 4 0),(4,.dat (.aZ) none),(3,bN aH (mR t k) 0)],[(4,⟨t.cells,[]⟩)],cm (mR t k) 0 e,400⟩:S)) (λk=>(t.bE.getD []).length-k) (λk=>k<=(t.bE.getD []).length) ?_ 0 ado ?_
  ·intro k hk A back
   have hw:=aC (k:=k) ado
   have hn:=Nd t k
   have aa:(mR t k).length=k:=by simp[mR]
   by_cases hl:mR t k=[]
   all_goals
    try simp only[I,RX,↓KW,seval,bN,cm,hl,hg]
    refine aA (λh=>?_) (λh=>?_)<;>try simp only[RX,↓KW,seval,hp,h]
   ·have:k<(t.bE.getD []).length:=by have:=dE h;omega
    have hr:=GO (t:=t) (k:=k) ado ado
    rw[rc]at hr;refine af (hE t _ R) ?_;try simp only[I,RX,↓KW,seval,hg]
    refine⟨ado,?_⟩
    try simp only[I,RX,↓KW,seval,hr,Rl.cells]
    refine af (hs (some [_,_]) adI) ?_
    try simp only[I,RX,↓KW,seval]
    refine back (k+1) _ ado ado (ai adp ?_ ?_ ?_ ?_)<;>simp[LX,I,hn,hw,hl]
   ·exfalso
    have:=dT h
    rw[hl]at aa;simp at aa;omega
   ·have:k<(t.bE.getD []).length:=by have:=dE h;omega
    have hr:=GO (t:=t) (k:=k) ado ado
    rw[rc]at hr;refine af (hE t _ R) ?_;try simp only[I,RX,↓KW,seval,hg]
    refine⟨ado,?_⟩
    try simp only[I,RX,↓KW,seval,hr,Rl.cells]
    refine af (hs (some [_,_]) adI) ?_
    try simp only[I,RX,↓KW,seval]
    refine⟨ado,?_⟩
    refine back (k+1) _ ado ado (ai adp ?_ ?_ ?_ ?_)<;>simp[LX,I,hn,hw,hl]
   ·have:k=(t.bE.getD []).length:=by have:=dT h;omega
    subst this;try simp only[I,B,D,RX,↓KW,seval,hp]
    refine af (hO t R) ?_;try simp only[I,RX,↓KW,seval]
    refine af (hL _ none (.inl rfl)) ?_;try simp only[RX,↓KW,seval]
    have aa:=JE (yx t)
    have ad:=@Eu (yx t)
    have ak:=dB (jY (yx t))
    generalize jY (yx t)=L at*
    refine aG (λk:Nat=>(⟨[(37,.dat (I k) none),(36,.dat (I L.length) none),(35,.dat (aI aH (ez L)) none),(1,.ptr 4 0),(3,.dat (.sl ((mR t (t.bE.getD []).length).map aH)) none),(4,bN aH (pP t (L.take k)) 0)],[(4,⟨t.cells,[]⟩)],cm (pP t (L.take k)) 0 e,400⟩:S)) (λk=>L.length-k) (λk=>k<=L.length) ?_ 0 ado ?_
    ·intro k hk A back
     have hw:=aC (k:=k) ado
     have al:(pP t (L.take k)).length<=16:=by rw[PK];have:=List.length_take_le k L;omega
     by_cases hl:pP t (L.take k)=[]
     all_goals
      try simp only[I,RX,↓KW,seval,bN,cm,hl]
      refine aA (λh=>?_) (λh=>?_)<;>try simp only[RX,↓KW,seval,ak,h]
     ·have ac:k<L.length:=by have:=dE h;omega
      obtain⟨x,O⟩:∃x,L[k]? =some x:=⟨_,eh ac⟩
      have V:=ad (er O)
      have M:=Tb.K2 R V.1 V.2
      have hn:=Ev (t:=t) O
      refine⟨ado,?_⟩
      try simp only[I,RX,↓KW,seval,O,aH]
      refine⟨ado,?_⟩
      try simp only[I,RX,↓KW,seval,M]
      refine af (hC _) ?_;try simp only[I,RX,↓KW,seval,M]
      refine⟨ado,?_⟩
      try simp only[I,B,D,RX,↓KW,seval,M]
      refine⟨ado,?_⟩
      try simp only[I,B,D,RX,↓KW,seval,M]
      refine af (hs (some [_,_]) adI) ?_
      try simp only[I,RX,↓KW,seval]
      refine back (k+1) _ ado ado (ai adp ?_ ?_ ?_ ?_)<;>simp[LX,I,hn,hw,hl]
     ·have:k=L.length:=by have:=dT h;omega
      subst this;rw[io]at hl al;try simp only[I,B,D,RX,↓KW,seval]
      refine af (hM (some _) (by simp[mR];omega)) ?_
      try simp only[I,RX,↓KW,seval]
      refine af (hM none adI) ?_
      try simp only[I,RX,↓KW,seval,hp]
      refine af (ag t R) ?_;try simp only[I,RX,↓KW,seval,ab]
      refine af (hs (some [_,_,_,_,_]) adI) ?_
      try simp only[I,RX,↓KW,seval,hx,hl]
      rfl
     ·have ac:k<L.length:=by have:=dE h;omega
      obtain⟨x,O⟩:∃x,L[k]? =some x:=⟨_,eh ac⟩
      have V:=ad (er O)
      have M:=Tb.K2 R V.1 V.2
      have hn:=Ev (t:=t) O
      refine⟨ado,?_⟩
      try simp only[I,RX,↓KW,seval,O,aH]
      refine⟨ado,?_⟩
      try simp only[I,RX,↓KW,seval,M]
      refine af (hC _) ?_;try simp only[I,RX,↓KW,seval,M]
      refine⟨ado,?_⟩
      try simp only[I,B,D,RX,↓KW,seval,M]
      refine⟨ado,?_⟩
      try simp only[I,B,D,RX,↓KW,seval,M]
      refine af (hs (some [_,_]) adI) ?_
      try simp only[I,RX,↓KW,seval]
      refine⟨ado,?_⟩
      refine back (k+1) _ ado ado (ai adp ?_ ?_ ?_ ?_)<;>simp[LX,I,hn,hw,hl]
     ·have:k=L.length:=by have:=dT h;omega
      subst this;rw[io]at*;try simp only[I,B,D,RX,↓KW,seval]
      refine af (hM (some _) (by simp[mR];omega)) ?_
      try simp only[I,RX,↓KW,seval]
      refine af (hM (some _) (by simp;omega)) ?_
      try simp only[I,RX,↓KW,seval,hp]
      refine af (ag t R) ?_;try simp only[I,RX,↓KW,seval,ab]
      refine af (hs (some [_,_,_,_,_]) adI) ?_
      try simp only[I,RX,↓KW,seval,hx]
      rfl
    ·refine ai adp ?_ ?_ ?_ ?_<;>simp[LX,I,ak,pP]
  ·refine ai adp ?_ ?_ ?_ ?_<;>simp[LX,I,mR]
end
end
section
variable (k:FloatKind) (l:Option (List Int)) (C:aT) (x:Nat) (i:Int) (f:Nat) (n:Int) (y:Nat)
def pR(t:Tb) (p q:Int):Int:=if ee t p q then iD (ofI [p]) q else ofI [p]
def with.Spec:Prop:=∀(t:Tb) (p q:Int),t.Ok->C.c f [.agg t.cells,I p,I q] (I (pR t p q)) none
theorem afO:eK .mul (.float k x) (.float k y)=O7 k (k.format.mul x y):=by simp[eK,FX]
theorem Wr:eK .quo (.float k x) (.float k y)=O7 k (k.format.div x y):=by simp[eK,FX]
theorem afP(r:Nat):O7 k (some r)=some (.float k r):=by cases k<;>rfl
theorem aP{n:Int} (h:0<n) (M:n<=4294967296):0<=cJ l i n/\cJ l i n<n:=by
 simp only[cJ,place]
 have L:=Ps (atL l i) h
 have D:=Int.lt_tmod_of_pos (atL l i) h
 split
 ·rw[cU,aU ado ado];omega
 ·omega
def Bz:Nat:=(FloatKind.f64.format.div (FloatKind.f64.nearest n) 4621819117588971520).getD 0
theorem GP:∀n:Nat,n<6->FloatKind.f64.format.div (FloatKind.f64.nearest (n:Int)) 4621819117588971520=some (Bz n):=by decide+kernel
def zu(k:Int):Nat:=[4617315517961601024,4621819117588971520,4607182418800017408,4602678819172646912].getD k.toNat 0
def GQ(k:Int):Nat:=[4602678819172646912,4607182418800017408,4598175219545276416].getD k.toNat 0
def wY(j k:Int):Nat:=(FloatKind.f64.format.mul (zu j) (GQ k)).getD 0
theorem Nf:∀j:Nat,j<4->∀k:Nat,k<3->FloatKind.f64.format.mul (zu j) (GQ k)=some (wY j k):=by decide+kernel
def jq:Bo where
 phase:=cJ l i n
 on:=zu (cJ l (cU (i+1)) 4)
 off:=wY (cJ l (cU (i+1)) 4) (cJ l (cU (i+2)) 3)
 delay:=Bz (cJ l (cU (i+3)) 4)
 extend:=Bz (cJ l (cU (i+4)) 6)
 maxOn:=if cJ l (cU (i+5)) 3==1 then cU (20+cJ l (cU (i+6)) 60)else 0
 wN:=if cJ l (cU (i+5)) 9==2 then cU (60+cJ l (cU (i+7)) 300)else 0
def wZ.Spec:Prop:=∀(l:Option (List Int)) (i n:Int),0<n->C.c f [aI aH l,I i,I n] (.agg (jq l i n).cells) none
end
section
variable{P:Program} (hm:P.follows .mixedOrders=true) {f:Nat}
include hm
theorem with.ok{e L O M:Nat} (R:bK P f=some (rP e L O M)) (V:GL.Spec (Pure P) L) (hB:beside.Spec (Pure P) O) (hW:uo.Spec (Pure P) M):with.Spec (Pure P) f:=by
 intro t p q D
 have hp:=Tb.whole D
 refine aq hm R [] rfl ?_;try simp only[I,RX,↓KW,seval,rP,Z.H]
 refine af (V (some [_]) adI) ?_
 try simp only[I,RX,↓KW,seval,hp]
 refine af (hB t _ _ D) ?_;try simp only[B,RX,↓KW,seval]
 repeat' (first|(refine af (hW _ _) ?_;try simp only[I,RX,↓KW,seval])|(((first|refine aY ?_ ?_|refine aA ?_ ?_|refine bH ?_ ?_)<;>intro h)<;>try simp only[RX,↓KW,seval,h]))
 all_goals simp_all [pR]
theorem wZ.ok{fF:Nat} (hc:bK P f=some (qP fF)) (hF:from.Spec (Pure P) fF):wZ.Spec (Pure P) f:=by
 intro l i n hn;refine aq hm hc [] rfl ?_;try simp only[I,RX,↓KW,seval,qP,Z.H]
 refine af (hF _ _ _ hn) ?_;try simp only[I,RX,↓KW,seval]
 refine af (hF _ _ _ adp) ?_
 try simp only[I,RX,↓KW,seval]
 have V:=aP l (cU (i+1)) (n:=4) adp adp
 have h2:=aP l (cU (i+2)) (n:=3) adp adp
 have R:=aP l (cU (i+3)) (n:=4) adp adp
 have h4:=aP l (cU (i+4)) (n:=6) adp adp
 have O:[AV.float FloatKind.f64 4617315517961601024,AV.float FloatKind.f64 4621819117588971520,AV.float FloatKind.f64 4607182418800017408,AV.float FloatKind.f64 4602678819172646912][(cJ l (cU (i+1)) 4).toNat]? =some (.float .f64 (zu (cJ l (cU (i+1)) 4))):=by
  generalize cJ l (cU (i+1)) 4=j at*
  have:j=0\/j=1\/j=2\/j=3:=ado
  rcases this with rfl|rfl|rfl|rfl<;>rfl
 have e2:[AV.float FloatKind.f64 4602678819172646912,AV.float FloatKind.f64 4607182418800017408,AV.float FloatKind.f64 4598175219545276416][(cJ l (cU (i+2)) 3).toNat]? =some (.float .f64 (GQ (cJ l (cU (i+2)) 3))):=by
  generalize cJ l (cU (i+2)) 3=j at*
  have:j=0\/j=1\/j=2:=ado
  rcases this with rfl|rfl|rfl<;>rfl
 have M:=Nf (cJ l (cU (i+1)) 4).toNat ado (cJ l (cU (i+2)) 3).toNat ado
 have D:=GP (cJ l (cU (i+3)) 4).toNat ado
 have L:=GP (cJ l (cU (i+4)) 6).toNat ado
 simp only[xr V.1,xr h2.1]at M;simp only[xr R.1]at D;simp only[xr h4.1]at L;simp only[cU]at O e2 M D L V h2 R h4
 refine⟨ado,?_⟩
 try simp only[RX,↓KW,seval,O]
 refine af (hF l _ 3 adp) ?_
 try simp only[I,RX,↓KW,seval]
 refine⟨ado,?_⟩
 try simp only[RX,↓KW,seval,e2,afP,afO,M]
 refine af (hF _ _ _ adp) ?_
 try simp only[I,RX,↓KW,seval,afP,Wr,D]
 refine af (hF _ _ _ adp) ?_
 try simp only[I,RX,↓KW,seval,afP,Wr,L]
 repeat' (first|(refine af (hF _ _ _ adp) ?_;try simp only[I,RX,↓KW,seval])|(((first|refine aY ?_ ?_|refine aA ?_ ?_|refine bH ?_ ?_)<;>intro h)<;>try simp only[RX,↓KW,seval,h]))
 all_goals simp_all [jq,Bo.cells,cU]
def rU (t:Tb) (l:Option (List Int)) (i n:Int):Rl :=
  let p:=cJ l (cU (i + 4)) (cU (n + 1))
  let fe:=pR t (cJ l i n) (cJ l (cU (i + 1)) n)
  let stay:=cU (1 + cJ l (cU (i + 11)) 15)
  let delay:=cJ l (cU (i + 8)) 4
  { bars:=bC .i64 (bT .i64 (cJ l (cU (i + 7)) 256) (cU (cU (1 * 2 ^ min (IntKind.u64.wrap n).toNat 64) - 1))) fe
    clear:=if p < n then pR t p (cJ l (cU (i + 5)) n) else 0
    fe:=fe
    exit:=pR t (cJ l (cU (i + 2)) n) (cJ l (cU (i + 3)) n)
    delay:=delay
    green:=cU (1 + cJ l (cU (i + 9)) 6)
    dm:=cJ l (cU (i + 10)) 6
    hold:=if p < n then cU (1 + cJ l (cU (i + 6)) 10) else 0
    stay:=stay
    most:=if cJ l (cU (i + 12)) 3 == 1 then cU (stay + cJ l (cU (i + 13)) 30) else 0
    limit:=cU (cU (delay + 1) + [10000,400,20].getD (cJ l (cU (i + 14)) 3).toNat 0) }
def Ws.Spec(C:aT) (f:Nat):Prop:=∀(t:Tb) (l:Option (List Int)) (i n:Int),t.Ok->0<n->n<=8->C.c f [.agg t.cells,aI aH l,I i,I n] (.agg (rU t l i n).cells) none
theorem Ws.ok{fF fW:Nat} (hc:bK P f=some (zl fF fW)) (hF:from.Spec (Pure P) fF) (hW:with.Spec (Pure P) fW):Ws.Spec (Pure P) f:=by
 intro t l i n M L ab
 have R:=Tb.whole M
 have aa:IntKind.i64.wrap (n+1)=n+1:=aU ado ado
 refine aq hm hc [] rfl ?_;try simp only[I,RX,↓KW,seval,zl,Z.H,R,cI]
 refine af (hF _ _ _ L) ?_;try simp only[I,RX,↓KW,seval]
 refine af (hF _ _ _ L) ?_;try simp only[I,RX,↓KW,seval]
 refine af (hW t _ _ M) ?_;try simp only[I,RX,↓KW,seval,R]
 refine af (hF _ _ _ L) ?_;try simp only[I,RX,↓KW,seval]
 refine af (hF _ _ _ L) ?_;try simp only[I,RX,↓KW,seval]
 refine af (hW t _ _ M) ?_;try simp only[I,RX,↓KW,seval]
 refine af (hF _ _ _ ado) ?_
 try simp only[I,RX,↓KW,seval]
 have V:=aP l (cU (i+14)) (n:=3) adp adp
 have O:[AV.int .i64 10000,AV.int .i64 400,AV.int .i64 20][(cJ l (cU (i+14)) 3).toNat]? =some (.int .i64 ([10000,400,20].getD (cJ l (cU (i+14)) 3).toNat 0)):=by
  generalize cJ l (cU (i+14)) 3=j at*
  have:j=0\/j=1\/j=2:=ado
  rcases this with rfl|rfl|rfl<;>rfl
 have hu:0<=IntKind.u64.wrap n:=by rw[IntKind.wrap];simp[IntKind.signed];omega
 simp only[cU]at O V
 refine aA (λh=>?_) (λh=>?_)<;>try simp only[RX,↓KW,seval,R,h]
 ·repeat' (first|((first|refine af (hF _ _ _ L) ?_|refine af (hF _ _ _ adp) ?_|refine af (hW t _ _ M) ?_);try simp only[I,RX,↓KW,seval])|(((first|refine aY ?_ ?_|refine aA ?_ ?_|refine bH ?_ ?_)<;>intro h)<;>try simp only[I,B,D,RX,↓KW,seval,R,h]))
  refine⟨hu,?_⟩
  repeat' (first|((first|refine af (hF _ _ _ L) ?_|refine af (hF _ _ _ adp) ?_|refine af (hW t _ _ M) ?_);try simp only[I,RX,↓KW,seval])|(((first|refine aY ?_ ?_|refine aA ?_ ?_|refine bH ?_ ?_)<;>intro h)<;>try simp only[RX,↓KW,seval,h]))
  all_goals refine⟨ado,?_⟩
  all_goals try simp only[RX,↓KW,seval,O]
  all_goals simp_all [rU,Rl.cells,cU,IntKind.bits]
 ·repeat' (first|((first|refine af (hF _ _ _ L) ?_|refine af (hF _ _ _ adp) ?_|refine af (hW t _ _ M) ?_);try simp only[I,RX,↓KW,seval])|(((first|refine aY ?_ ?_|refine aA ?_ ?_|refine bH ?_ ?_)<;>intro h)<;>try simp only[I,B,D,RX,↓KW,seval,R,h]))
  refine⟨hu,?_⟩
  repeat' (first|((first|refine af (hF _ _ _ L) ?_|refine af (hF _ _ _ adp) ?_|refine af (hW t _ _ M) ?_);try simp only[I,RX,↓KW,seval])|(((first|refine aY ?_ ?_|refine aA ?_ ?_|refine bH ?_ ?_)<;>intro h)<;>try simp only[RX,↓KW,seval,h]))
  all_goals refine⟨ado,?_⟩
  all_goals try simp only[RX,↓KW,seval,O]
  all_goals simp_all [rU,Rl.cells,cU,IntKind.bits]
  all_goals exact⟨λ_=>ado,λ_=>ado⟩
end
structure Tb.Ln (t:Tb):Prop where
 phases:t.phases.length=8
 conflict:t.conflict.length=8
 dO:t.dO.length=8
theorem Tb.Ok.ln{t:Tb} (h:t.Ok):t.Ln:=⟨h.phases,h.conflict,h.dO⟩
section
variable{t:Tb} (h:t.Ln)
include h
section
variable {i off:Nat} {post ps:List AV} (v:Int)
theorem Tb.Ln.len:t.cells.length=131:=by
 simp[Tb.cells,aO Ph.len,h.phases,h.conflict,h.dO]
theorem Tb.Ln.whole:aB t.cells 0 (some 131)=some (.agg t.cells):=by
 have D:=h.len
 rw[nZ _ _ _ ado,kb,<-D,io]
theorem Tb.Ln.Wt:t.cells[113]? =some (aI Bo.cells t.aV):=by
 simp[Tb.cells,aO Ph.len,h.phases,h.conflict,h.dO]
theorem Tb.Ln.Wu:t.cells[114]? =some (aI Rl.cells t.bE):=by
 simp[Tb.cells,aO Ph.len,h.phases,h.conflict,h.dO]
theorem Tb.Ln.akc:t.cells[115]? =some (aI Bs.cells t.l6):=by
 simp[Tb.cells,aO Ph.len,h.phases,h.conflict,h.dO]
theorem Tb.Ln.akd:t.cells[129]? =some (I t.rL):=by
 simp[Tb.cells,aO Ph.len,h.phases,h.conflict,h.dO]
theorem Tb.Ln.qQ{c:Int} (D:t.conflict[i]? =some c):t.cells[105+i]? =some (I c):=by
 have L:i<8:=by have:=(eo.1 D).1;rw[h.conflict]at this;exact this
 have e:(t.phases.flatMap Ph.cells).length=104:=by rw[aO Ph.len,h.phases]
 unfold Tb.cells
 rw[im ado,e,show 105+i-104=i+1 by omega,kp,iv (by simp[h.conflict,L]),ka,D];rfl
def Tb.rest(t:Tb):List AV:=aI Gr.cells t.groups::(t.conflict.map I++(aI Bo.cells t.aV::aI Rl.cells t.bE::aI Bs.cells t.l6::
  I t.extend::I t.i7::I t.start::I t.revert::I t.least::(t.dO.map I++[I t.rL,I t.share])))
omit h in
theorem cn{pre:List AV} (D:pre.length<=off):setCells (pre++post) off ps=pre++setCells post (off-pre.length) ps:=by
 simp only[setCells,abs,xi,List.append_assoc]
 rw[kf D,ml ado,show off+ps.length-pre.length=off-pre.length+ps.length by omega]
 rfl
omit h in
theorem GR{pre:List AV} (D:off+ps.length<=pre.length):setCells (pre++post) off ps=setCells pre off ps++post:=by
 simp only[setCells]
 rw[wn ado,If D]
 simp
omit h in
theorem Ri{l:List Int} {v:Int} (D:i<l.length):setCells (l.map I) i [I v]=(l.set i v).map I:=by
 simp only[setCells,fi,ib];rw[Hd,fp D];simp[List.map_take,List.map_drop]
omit h in
theorem gO(c:AV) (cs ps:List AV) (k:Nat):setCells (c::cs) (k+1) ps=c::setCells cs k ps:=by
 simp only[setCells,wi,ts,show k+1+ps.length=(k+ps.length)+1 by omega,mp]
theorem Tb.Ln.TR(L:i<8) (q:Ph):setCells t.cells (i*13) q.cells=({t with phases:=t.phases.set i q}:Tb).cells:=by
 obtain⟨p,D⟩:∃p,t.phases[i]? =some p:=⟨_,eh (by rw[h.phases];exact L)⟩
 exact Tb.TM D
theorem Tb.Ln.BA(D:i<8) (v:Int):setCells t.cells (105+i) [I v]=({t with conflict:=t.conflict.set i v}:Tb).cells:=by
 have e:(t.phases.flatMap Ph.cells).length=104:=by rw[aO Ph.len,h.phases]
 unfold Tb.cells
 rw[cn ado,e,show 105+i-104=i+1 by omega,gO,GR (by simp[h.conflict];omega),Ri (by rw[h.conflict];exact D)]
theorem Tb.Ln.JF(D:i<8) (v:Int):setCells t.cells (121+i) [I v]=({t with dO:=t.dO.set i v}:Tb).cells:=by
 have e:(t.phases.flatMap Ph.cells).length=104:=by rw[aO Ph.len,h.phases]
 unfold Tb.cells
 rw[cn ado,e,show 121+i-104=(i+16)+1 by omega,gO,cn (by simp[h.conflict]),show i+16-(t.conflict.map I).length=i+8 by simp[h.conflict]]
 simp only[gO]
 rw[GR (by simp[h.dO];omega),Ri (by rw[h.dO];exact D)]
theorem Tb.Ln.Wv(d:Option (List Bo)):setCells t.cells 113 [aI Bo.cells d]=({t with aV:=d}:Tb).cells:=by
 have e:(t.phases.flatMap Ph.cells).length=104:=by rw[aO Ph.len,h.phases]
 have D:(t.conflict.map I).length=8:=by simp[h.conflict]
 unfold Tb.cells
 rw[cn ado,e,show 113-104=8+1 by omega,gO,cn ado,D]
 rfl
theorem Tb.Ln.TS(d:Option (List Rl)):setCells t.cells 114 [aI Rl.cells d]=({t with bE:=d}:Tb).cells:=by
 have e:(t.phases.flatMap Ph.cells).length=104:=by rw[aO Ph.len,h.phases]
 have D:(t.conflict.map I).length=8:=by simp[h.conflict]
 unfold Tb.cells
 rw[cn ado,e,show 114-104=9+1 by omega,gO,cn ado,D]
 rfl
theorem Tb.Ln.TT(d:Option (List Bs)):setCells t.cells 115 [aI Bs.cells d]=({t with l6:=d}:Tb).cells:=by
 have e:(t.phases.flatMap Ph.cells).length=104:=by rw[aO Ph.len,h.phases]
 have D:(t.conflict.map I).length=8:=by simp[h.conflict]
 unfold Tb.cells
 rw[cn ado,e,show 115-104=10+1 by omega,gO,cn ado,D]
 rfl
theorem Tb.Ln.xb:setCells t.cells 116 [I v]=({t with extend:=v}:Tb).cells/\setCells t.cells 117 [I v]=({t with i7:=v}:Tb).cells/\setCells t.cells 118 [I v]=({t with start:=v}:Tb).cells/\
  setCells t.cells 119 [I v]=({t with revert:=v}:Tb).cells/\setCells t.cells 120 [I v]=({t with least:=v}:Tb).cells:=by
 have e:(t.phases.flatMap Ph.cells).length=104:=by rw[aO Ph.len,h.phases]
 have D:(t.conflict.map I).length=8:=by simp[h.conflict]
 unfold Tb.cells;refine⟨?_,?_,?_,?_,?_⟩
 ·rw[cn ado,e,show 116-104=11+1 by omega,gO,cn ado,D];rfl
 ·rw[cn ado,e,show 117-104=12+1 by omega,gO,cn ado,D];rfl
 ·rw[cn ado,e,show 118-104=13+1 by omega,gO,cn ado,D];rfl
 ·rw[cn ado,e,show 119-104=14+1 by omega,gO,cn ado,D];rfl
 ·rw[cn ado,e,show 120-104=15+1 by omega,gO,cn ado,D];rfl
theorem Tb.Ln.xd:setCells t.cells 129 [I v]=({t with rL:=v}:Tb).cells/\setCells t.cells 130 [I v]=({t with share:=v}:Tb).cells:=by
 have e:(t.phases.flatMap Ph.cells).length=104:=by rw[aO Ph.len,h.phases]
 have D:(t.conflict.map I).length=8:=by simp[h.conflict]
 have L:(t.dO.map I).length=8:=by simp[h.dO]
 unfold Tb.cells;refine⟨?_,?_⟩
 ·rw[cn ado,e,show 129-104=24+1 by omega,gO,cn ado,D]
  simp only[Nat.reduceSub,gO]
  rw[cn ado,L];rfl
 ·rw[cn ado,e,show 130-104=25+1 by omega,gO,cn ado,D]
  simp only[Nat.reduceSub,gO]
  rw[cn ado,L];rfl
end
end
section
variable (ex:Exit) {C:aT} {Q:Exit->S->Prop} {c:aS} {k:S->Prop} {s:S} {t:Tb} {α:Type} (st:α->S) (J:α->Prop) (f:α->List AV) (l:Option (List Int))
def cN(groups g:Nat):Nat:=8-(groups-1-g)
def d8(p m:Nat):List Int:=(List.range m).map λ(j:Nat)=>((p+j:Nat):Int)
def cnt(g k D:Nat):Nat:=
 let n:=(cJ l (1+2*g+k) 3).toNat
 if k=1/\n=0/\D=0 then 1 else n
def bz(n p lim:Nat):Nat:=min n (lim-p)
def bu(l:Option (List Int)) (groups:Nat):Nat->List Gr×Nat
 |0=>([],0)
 |g+1=>
  let q:=bu l groups g
  let D:=bz (cnt l g 0 0) q.2 (cN groups g)
  let L:=bz (cnt l g 1 D) (q.2+D) (cN groups g)
  (q.1++[⟨ez (d8 q.2 D),ez (d8 (q.2+D) L)⟩],q.2+D+L)
def ic:Nat:=(1+cJ l 0 3).toNat
def rows.Spec(C:aT) (f:Nat):Prop:=∀(t:Tb) (l:Option (List Int)),t.Ok->t.groups=none->C.p f [t.cells] [none,some (aI aH l)] (I ((bu l (ic l) (ic l)).2:Nat)) none [({t with groups:=some (bu l (ic l) (ic l)).1}:Tb).cells]
theorem Tb.len'(M:t.phases.length=8) (L:t.conflict.length=8) (D:t.dO.length=8):t.cells.length=131:=by
 simp[Tb.cells,aO Ph.len,M,L,D]
theorem Tb.PL(h:t.phases.length=8):t.cells[104]? =some (aI Gr.cells t.groups):=by
 simp[Tb.cells,aO Ph.len,h]
theorem Tb.PM(h:t.phases.length=8) (g:Option (List Gr)):t.cells.take 104++(aI Gr.cells g::t.cells.drop 105)=({t with groups:=g}:Tb).cells:=by
 have e:(t.phases.flatMap Ph.cells).length=104:=by rw[aO Ph.len,h]
 simp only[Tb.cells]
 rw[wn ado,kf ado,xi,ml ado,e]
 rfl
def Rnd(C:aT) (c:aS) (Q:Exit->S->Prop) (k:S->Prop) (s:S):Prop:=aw C c (jU k Q) s
theorem BB(h:aw C c (jU k Q) s):Rnd C c Q k s:=h
theorem Dk{D:S->Prop} (hk:∀s,k s->D s) (h:Rnd C c Q k s):Rnd C c Q D s:=lD (λe s h=>by cases e<;>first|exact hk _ h|exact h) h
theorem Ww(h:Rnd C c Q (Rnd C c Q (Rnd C c Q λ_=>False)) s):aw C (.loop c) Q s:=
 gX ⟨3,Dk (λ_ h=>gX (Dk (λ_ h=>gX (Dk (λ_ h=>h.elim) h)) h)) h⟩
theorem kU(p i:Nat):d8 p (i+1)=d8 p i++[((p+i:Nat):Int)]:=by simp[d8,lj]
theorem yz(l:Option (List Int)) (G:Nat):∀g,(bu l G g).2<=8
 |0=>by simp[bu]
 |g+1=>by
  have:=yz l G g
  simp only[bu,bz,cN];omega
theorem pS(l:Option (List Int)) (G:Nat):∀g,(bu l G g).1.length=g
 |0=>by simp[bu]
 |g+1=>by
  have:=pS l G g
  simp only[bu,rh,fi,ib];omega
def Cut(e:Exit) (s:S):Prop:=e=ex/\∃y,J y/\Le s (st y)
theorem eM{ex:Exit} {st:α->S} {J:α->Prop} (y:α) (L:J y) (D:Le s (st y)):Cut ex st J ex s:=⟨rfl,y,L,D⟩
theorem oc{F:S->Prop} (hQ:∀D,Q ex D=down F D) (M:aw C c (Cut ex st J) s) (R:∀y,J y->F (st y)):aw C c Q s:=by
 refine lD ?_ M
 rintro e D ⟨rfl,y,O,L⟩
 rw[hQ];exact oI L (R y O)
theorem aaZ:IntKind.i64.wrap (0+1)=1:=by decide
theorem K3:IntKind.i64.wrap (1+1)=2:=by decide
theorem dZ:aI f none=.aZ:=rfl
theorem bR(l:List α):aI f (some l)=.sl (l.map f):=rfl
end
section
variable{P:Program} (hm:P.follows .mixedOrders=true) {f:Nat}
include hm
theorem rows.ok{fF e eR:Nat} (hc:bK P f=some (rN fF e eR)) (hF:from.Spec (Pure P) fF):rows.Spec (Pure P) f:=by
 intro t l ht bm
 have M:=Tb.len ht
 have hp:=Tb.whole ht
 refine GF hm hc [3,5] rfl rfl rfl ?_;try simp only[I,RX,↓KW,Nat.reduceBEq,Nat.reduceAdd,rN,Z.H]
 have bi:=aP l 0 (n:=3) adp adp
 refine af (hF _ _ _ adp) ?_
 try simp only[I,RX,↓KW,Nat.reduceBEq,Nat.reduceAdd]
 have a5:IntKind.i64.wrap (1+cJ l 0 3)=(ic l:Nat):=by
  rw[aU ado ado,ic];omega
 have bj:1<=ic l/\ic l<=3:=by unfold ic;omega
 rw[a5];generalize ic l=G at*
 refine aG (λg:Nat=>(⟨[(7,.dat (I g) none),(5,.dat (I G) none),(1,.dat (aI aH l) none),(6,.dat (I (bu l G g).2) none),(0,.ptr 0 0)],[(0,⟨({t with groups:=ez (bu l G g).1}:Tb).cells,if(bu l G g).1=[]then[]else[(104,0)]⟩)],cm (bu l G g).1 0 eR,400⟩:S)) (λg=>G-g) (λg=>g<=G) ?_ 0 ado ?_
 ·intro g hg A back
  have hw:=aC (k:=g) ado
  have an:bu l G (g+1)=((bu l G g).1++[⟨ez (d8 (bu l G g).2 (bz (cnt l g 0 0) (bu l G g).2 (cN G g))),ez (d8 ((bu l G g).2+bz (cnt l g 0 0) (bu l G g).2 (cN G g)) (bz (cnt l g 1 (bz (cnt l g 0 0) (bu l G g).2 (cN G g))) ((bu l G g).2+bz (cnt l g 0 0) (bu l G g).2 (cN G g)) (cN G g)))⟩],(bu l G g).2+bz (cnt l g 0 0) (bu l G g).2 (cN G g)+bz (cnt l g 1 (bz (cnt l g 0 0) (bu l G g).2 (cN G g))) ((bu l G g).2+bz (cnt l g 0 0) (bu l G g).2 (cN G g)) (cN G g)):=rfl
  have a8:(bu l G g).2<=8:=yz l G g
  have ag:(bu l G g).1.length=g:=pS l G g
  generalize hR:bu l G g=R at*;obtain⟨O,p⟩:=R;simp only at an a8 ag
  have a6:cJ l (1+2*(g:Int)+0) 3=(cnt l g 0 0:Nat):=by
   have:=aP l (1+2*(g:Int)+0) (n:=3) adp adp
   have hc:cnt l g 0 0=(cJ l (1+2*(g:Int)+0) 3).toNat:=by simp[cnt]
   rw[hc];omega
  have a7:IntKind.i64.wrap (IntKind.i64.wrap (1+IntKind.i64.wrap (2*(g:Int)))+0)=1+2*(g:Int)+0:=by
   rw[aU (n:=2*(g:Int)) ado ado,aU (n:=1+2*(g:Int)) ado ado,aU ado ado]
  have a4:IntKind.i64.wrap (IntKind.i64.wrap (1+IntKind.i64.wrap (2*(g:Int)))+1)=1+2*(g:Int)+1:=by
   rw[aU (n:=2*(g:Int)) ado ado,aU (n:=1+2*(g:Int)) ado ado,aU ado ado]
  have V:IntKind.i64.wrap (8-IntKind.i64.wrap (IntKind.i64.wrap ((G:Int)-1)-(g:Int)))=if g<G then((cN G g:Nat):Int)else(8-((G:Int)-1-g):Int):=by
   rw[aU (n:=(G:Int)-1) ado ado,aU (n:=(G:Int)-1-g) ado ado,aU ado ado]
   split<;>simp[cN]<;>omega
  by_cases D:O=[]
  all_goals
   try simp only[I,RX,↓KW,Nat.reduceBEq,Nat.reduceAdd,D,cm,ez]
   refine aA (λh=>?_) (λh=>?_)<;>try simp only[RX,↓KW,Nat.reduceBEq,Nat.reduceAdd,h]
   ·have a2:g<G:=by have:=dE h;omega
    rw[fp a2]at V;generalize bd:cnt l g 0 0=n0 at*
    refine oc (.exit 2) (λ_:Unit=>(⟨[(6,.dat (I (p+bz n0 p (cN G g)+bz (cnt l g 1 (bz n0 p (cN G g))) (p+bz n0 p (cN G g)) (cN G g):Nat)) none),(5,.dat (I G) none),(7,.dat (I g) none),(8,.ptr 403 0),(1,.dat (aI aH l) none),(0,.ptr 0 0)],[(403,⟨[aI aH (ez (d8 p (bz n0 p (cN G g)))),aI aH (ez (d8 (p+bz n0 p (cN G g)) (bz (cnt l g 1 (bz n0 p (cN G g))) (p+bz n0 p (cN G g)) (cN G g))))],[]⟩),(0,⟨({t with groups:=ez O}:Tb).cells,if O=[]then[]else[(104,0)]⟩)],cm O 0 eR,1000⟩:S)) (λ_=>True) (λ_=>rfl) ?_ ?_
    ·refine Ww (BB ?_)
     try simp only[I,RX,↓KW,Nat.reduceBEq,Nat.reduceAdd,Int.reduceLT,D]
     refine af (hF _ _ _ adp) ?_
     try simp only[I,RX,↓KW,Nat.reduceBEq,Nat.reduceAdd,Int.reduceBEq,a7,a6]
     refine oc (.exit 4) (λ_:Unit=>(⟨[(9,.dat (I 0) none),(6,.dat (I (p+bz n0 (p) (cN G g):Nat)) none),(5,.dat (I G) none),(7,.dat (I g) none),(8,.ptr 403 0),(1,.dat (aI aH l) none),(0,.ptr 0 0)],[(403,⟨[aI aH (ez (d8 (p) (bz n0 (p) (cN G g)))),.aZ],[]⟩),(0,⟨({t with groups:=ez O}:Tb).cells,if O=[]then[]else[(104,0)]⟩)],cm O 0 eR,1000⟩:S)) (λ_=>True) (λ_=>rfl) ?_ ?_
     ·refine aG (λi:Nat=>(⟨[(11,.dat (I i) none),(10,.dat (I n0) none),(6,.dat (I (p+i:Nat)) none),(5,.dat (I G) none),(7,.dat (I g) none),(9,.dat (I 0) none),(8,.ptr 403 0),(1,.dat (aI aH l) none),(0,.ptr 0 0)],[(403,⟨[aI aH (ez (d8 (p) i)),.aZ],if d8 (p) i=[]then[]else[(0,1)]⟩),(0,⟨({t with groups:=ez O}:Tb).cells,if O=[]then[]else[(104,0)]⟩)],cm (d8 (p) i) 1 e++cm O 0 eR,1000⟩:S)) (λi=>bz n0 (p) (cN G g)-i) (λi=>i<=bz n0 (p) (cN G g)) ?_ 0 ado ?_
      ·intro i hi A1 L
       have ak:bz n0 (p) (cN G g)<=8:=by simp only[bz,cN];omega
       have ab:=aC (k:=i) ado
       have hf:bz n0 (p) (cN G g)=min n0 (cN G g-(p)):=rfl
       have aa:IntKind.i64.wrap (((p+i:Nat):Int)+1)=((p+(i+1):Nat):Int):=by rw[aU ado ado];omega
       have al:(d8 (p) i).length=i:=by simp[d8]
       by_cases M:d8 (p) i=[]
       ·try simp only[I,RX,↓KW,Nat.reduceBEq,Nat.reduceAdd,M,cm,ez,D]
        repeat' (((first|refine aY ?_ ?_|refine aA ?_ ?_|refine bH ?_ ?_)<;>intro h)<;>try simp only[RX,↓KW,Nat.reduceBEq,Nat.reduceAdd,Nat.reduceLeDiff,reduceCtorEq,Nat.reduceMul,Int.reduceLE,Int.reduceToNat,dZ,V,aa,h])
        ·have h1:=dE h
         refine⟨adp,?_⟩
         refine⟨adp,?_⟩
         have h2:(i:Int)<n0:=by rename_i h2;exact dE h2
         refine L (i+1) _ ado ado (ai adp ?_ ?_ ?_ ?_)<;>simp[LX,I,ab,kU,M,ez,bR,D]
        ·have h1:=dT h
         have:i=bz n0 (p) (cN G g):=ado
         rw[<-this];refine eM () trivial ?_
         refine ai adp ?_ ?_ ?_ ?_<;>simp[LX,M,dZ]
        ·have h1:=dT h
         have:i=bz n0 (p) (cN G g):=ado
         rw[<-this];refine eM () trivial ?_
         refine ai adp ?_ ?_ ?_ ?_<;>simp[LX,M,dZ]
       ·try simp only[I,RX,↓KW,Nat.reduceBEq,Nat.reduceAdd,M,cm,ez,D]
        repeat' (((first|refine aY ?_ ?_|refine aA ?_ ?_|refine bH ?_ ?_)<;>intro h)<;>try simp only[RX,↓KW,Nat.reduceBEq,Nat.reduceAdd,Nat.reduceLeDiff,Int.reduceLE,Int.reduceToNat,bR,V,aa,h])
        ·have h1:=dE h
         refine⟨adp,ado,adp,?_⟩
         have h2:(i:Int)<n0:=by rename_i h2;exact dE h2
         refine L (i+1) _ ado ado (ai adp ?_ ?_ ?_ ?_)<;>simp[LX,I,ab,kU,M,ez,bR,D]
        ·have h1:=dT h
         have:i=bz n0 (p) (cN G g):=ado
         rw[<-this];refine eM () trivial ?_
         refine ai adp ?_ ?_ ?_ ?_<;>simp[LX,M,bR]
        ·have h1:=dT h
         have:i=bz n0 (p) (cN G g):=ado
         rw[<-this];refine eM () trivial ?_
         refine ai adp ?_ ?_ ?_ ?_<;>simp[LX,M,bR]
      ·refine ai adp ?_ ?_ ?_ ?_<;>simp[LX,I,d8,ez,dZ,D]
     ·intro _ _
      generalize a9:bz n0 p (cN G g)=m0 at*
      have am:(ez (d8 p m0)).getD []=d8 p m0:=dB _
      have au:(d8 p m0).length=m0:=by simp[d8]
      have bl:m0<=8:=by rw[<-a9];simp only[bz,cN];omega
      try simp only[I,RX,↓KW,Nat.reduceBEq,Nat.reduceAdd,D]
      refine BB ?_;try simp only[RX,↓KW,Nat.reduceBEq,Nat.reduceAdd,Int.reduceLT,aaZ]
      refine af (hF _ _ _ adp) ?_
      try simp only[I,RX,↓KW,Nat.reduceBEq,Nat.reduceAdd,Int.reduceBEq,a4]
      have bo:=aP l (1+2*(g:Int)+1) (n:=3) adp adp
      have ad:cnt l g 1 m0=if(cJ l (1+2*(g:Int)+1) 3).toNat=0/\m0=0 then 1 else(cJ l (1+2*(g:Int)+1) 3).toNat:=by simp[cnt]
      generalize cJ l (1+2*(g:Int)+1) 3=fr1 at*;generalize be:cnt l g 1 m0=n1 at*
      repeat' (((first|refine aY ?_ ?_|refine aA ?_ ?_|refine bH ?_ ?_)<;>intro h)<;>try simp only[RX,↓KW,Nat.reduceBEq,Nat.reduceAdd,Int.reduceLE,Int.reduceToNat,am,au,h])
      ·have ar:fr1=0:=by simpa using h
       refine⟨adp,?_⟩
       refine aA (λhz=>?_) (λhz=>?_)<;>try simp only[RX,↓KW,Nat.reduceAdd,hz]
       ·have hz:m0=0:=by simpa using hz
        have ac:(n1:Int)=1:=by rw[ad,fp ⟨ado,hz⟩];rfl
        refine oc (.exit 4) (λ_:Unit=>(⟨[(9,.dat (I 1) none),(6,.dat (I (p+m0+bz n1 (p+m0) (cN G g):Nat)) none),(5,.dat (I G) none),(7,.dat (I g) none),(8,.ptr 403 0),(1,.dat (aI aH l) none),(0,.ptr 0 0)],[(403,⟨[aI aH (ez (d8 p m0)),aI aH (ez (d8 (p+m0) (bz n1 (p+m0) (cN G g))))],[]⟩),(0,⟨({t with groups:=ez O}:Tb).cells,if O=[]then[]else[(104,0)]⟩)],cm O 0 eR,1000⟩:S)) (λ_=>True) (λ_=>rfl) ?_ ?_
        ·refine aG (λi:Nat=>(⟨[(11,.dat (I i) none),(10,.dat (I n1) none),(6,.dat (I (p+m0+i:Nat)) none),(5,.dat (I G) none),(7,.dat (I g) none),(9,.dat (I 1) none),(8,.ptr 403 0),(1,.dat (aI aH l) none),(0,.ptr 0 0)],[(403,⟨[aI aH (ez (d8 p m0)),aI aH (ez (d8 (p+m0) i))],if d8 (p+m0) i=[]then[]else[(1,1)]⟩),(0,⟨({t with groups:=ez O}:Tb).cells,if O=[]then[]else[(104,0)]⟩)],cm (d8 (p+m0) i) 1 e++cm O 0 eR,1000⟩:S)) (λi=>bz n1 (p+m0) (cN G g)-i) (λi=>i<=bz n1 (p+m0) (cN G g)) ?_ 0 ado ?_
         ·intro i hi A1 L
          have ak:bz n1 (p+m0) (cN G g)<=8:=by simp only[bz,cN];omega
          have ab:=aC (k:=i) ado
          have hf:bz n1 (p+m0) (cN G g)=min n1 (cN G g-(p+m0)):=rfl
          have aa:IntKind.i64.wrap (((p+m0+i:Nat):Int)+1)=((p+m0+(i+1):Nat):Int):=by rw[aU ado ado];omega
          have al:(d8 (p+m0) i).length=i:=by simp[d8]
          by_cases M:d8 (p+m0) i=[]
          ·try simp only[I,RX,↓KW,Nat.reduceBEq,Nat.reduceAdd,M,cm,ez,D]
           repeat' (((first|refine aY ?_ ?_|refine aA ?_ ?_|refine bH ?_ ?_)<;>intro h)<;>try simp only[RX,↓KW,Nat.reduceBEq,Nat.reduceAdd,Nat.reduceLeDiff,reduceCtorEq,Nat.reduceMul,Int.reduceLE,Int.reduceToNat,dZ,V,aa,h])
           ·have h1:=dE h
            refine⟨adp,?_⟩
            refine⟨adp,?_⟩
            have h2:(i:Int)<n1:=by rename_i h2;exact dE h2
            refine L (i+1) _ ado ado (ai adp ?_ ?_ ?_ ?_)<;>simp[LX,I,ab,kU,M,ez,bR,D]
           ·have h1:=dT h
            have:i=bz n1 (p+m0) (cN G g):=ado
            rw[<-this];refine eM () trivial ?_
            refine ai adp ?_ ?_ ?_ ?_<;>simp[LX,M,dZ]
           ·have h1:=dT h
            have:i=bz n1 (p+m0) (cN G g):=ado
            rw[<-this];refine eM () trivial ?_
            refine ai adp ?_ ?_ ?_ ?_<;>simp[LX,M,dZ]
          ·try simp only[I,RX,↓KW,Nat.reduceBEq,Nat.reduceAdd,M,cm,ez,D]
           repeat' (((first|refine aY ?_ ?_|refine aA ?_ ?_|refine bH ?_ ?_)<;>intro h)<;>try simp only[RX,↓KW,Nat.reduceBEq,Nat.reduceAdd,Int.reduceLE,Int.reduceToNat,bR,V,aa,h])
           ·have h1:=dE h
            refine⟨adp,ado,adp,?_⟩
            have h2:(i:Int)<n1:=by rename_i h2;exact dE h2
            refine L (i+1) _ ado ado (ai adp ?_ ?_ ?_ ?_)<;>simp[LX,I,ab,kU,M,ez,bR,D]
           ·have h1:=dT h
            have:i=bz n1 (p+m0) (cN G g):=ado
            rw[<-this];refine eM () trivial ?_
            refine ai adp ?_ ?_ ?_ ?_<;>simp[LX,M,bR]
           ·have h1:=dT h
            have:i=bz n1 (p+m0) (cN G g):=ado
            rw[<-this];refine eM () trivial ?_
            refine ai adp ?_ ?_ ?_ ?_<;>simp[LX,M,bR]
         ·refine ai adp ?_ ?_ ?_ ?_<;>simp[LX,I,d8,ez,dZ,D,ac]
        ·intro _ _
         try simp only[I,RX,↓KW,Nat.reduceBEq,Nat.reduceAdd,D,ez]
         refine BB ?_;try simp only[RX,↓KW,Nat.reduceBEq,Nat.reduceAdd,Int.reduceLT,K3]
         refine eM () trivial ?_
         refine ai adp ?_ ?_ ?_ ?_<;>simp[LX,D]
       ·have hz:¬m0=0:=by simpa using hz
        have ac:fr1=(n1:Int):=by rw[ad,fb (λhh=>hz hh.2)];omega
        refine oc (.exit 4) (λ_:Unit=>(⟨[(9,.dat (I 1) none),(6,.dat (I (p+m0+bz n1 (p+m0) (cN G g):Nat)) none),(5,.dat (I G) none),(7,.dat (I g) none),(8,.ptr 403 0),(1,.dat (aI aH l) none),(0,.ptr 0 0)],[(403,⟨[aI aH (ez (d8 p m0)),aI aH (ez (d8 (p+m0) (bz n1 (p+m0) (cN G g))))],[]⟩),(0,⟨({t with groups:=ez O}:Tb).cells,if O=[]then[]else[(104,0)]⟩)],cm O 0 eR,1000⟩:S)) (λ_=>True) (λ_=>rfl) ?_ ?_
        ·refine aG (λi:Nat=>(⟨[(11,.dat (I i) none),(10,.dat (I n1) none),(6,.dat (I (p+m0+i:Nat)) none),(5,.dat (I G) none),(7,.dat (I g) none),(9,.dat (I 1) none),(8,.ptr 403 0),(1,.dat (aI aH l) none),(0,.ptr 0 0)],[(403,⟨[aI aH (ez (d8 p m0)),aI aH (ez (d8 (p+m0) i))],if d8 (p+m0) i=[]then[]else[(1,1)]⟩),(0,⟨({t with groups:=ez O}:Tb).cells,if O=[]then[]else[(104,0)]⟩)],cm (d8 (p+m0) i) 1 e++cm O 0 eR,1000⟩:S)) (λi=>bz n1 (p+m0) (cN G g)-i) (λi=>i<=bz n1 (p+m0) (cN G g)) ?_ 0 ado ?_
         ·intro i hi A1 L
          have ak:bz n1 (p+m0) (cN G g)<=8:=by simp only[bz,cN];omega
          have ab:=aC (k:=i) ado
          have hf:bz n1 (p+m0) (cN G g)=min n1 (cN G g-(p+m0)):=rfl
          have aa:IntKind.i64.wrap (((p+m0+i:Nat):Int)+1)=((p+m0+(i+1):Nat):Int):=by rw[aU ado ado];omega
          have al:(d8 (p+m0) i).length=i:=by simp[d8]
          by_cases M:d8 (p+m0) i=[]
          ·try simp only[I,RX,↓KW,Nat.reduceBEq,Nat.reduceAdd,M,cm,ez,D]
           repeat' (((first|refine aY ?_ ?_|refine aA ?_ ?_|refine bH ?_ ?_)<;>intro h)<;>try simp only[RX,↓KW,Nat.reduceBEq,Nat.reduceAdd,Nat.reduceLeDiff,reduceCtorEq,Nat.reduceMul,Int.reduceLE,Int.reduceToNat,dZ,V,aa,h])
           ·have h1:=dE h
            refine⟨adp,?_⟩
            refine⟨adp,?_⟩
            have h2:(i:Int)<n1:=by rename_i h2;exact dE h2
            refine L (i+1) _ ado ado (ai adp ?_ ?_ ?_ ?_)<;>simp[LX,I,ab,kU,M,ez,bR,D]
           ·have h1:=dT h
            have:i=bz n1 (p+m0) (cN G g):=ado
            rw[<-this];refine eM () trivial ?_
            refine ai adp ?_ ?_ ?_ ?_<;>simp[LX,M,dZ]
           ·have h1:=dT h
            have:i=bz n1 (p+m0) (cN G g):=ado
            rw[<-this];refine eM () trivial ?_
            refine ai adp ?_ ?_ ?_ ?_<;>simp[LX,M,dZ]
          ·try simp only[I,RX,↓KW,Nat.reduceBEq,Nat.reduceAdd,M,cm,ez,D]
           repeat' (((first|refine aY ?_ ?_|refine aA ?_ ?_|refine bH ?_ ?_)<;>intro h)<;>try simp only[RX,↓KW,Nat.reduceBEq,Nat.reduceAdd,Int.reduceLE,Int.reduceToNat,bR,V,aa,h])
           ·have h1:=dE h
            refine⟨adp,ado,adp,?_⟩
            have h2:(i:Int)<n1:=by rename_i h2;exact dE h2
            refine L (i+1) _ ado ado (ai adp ?_ ?_ ?_ ?_)<;>simp[LX,I,ab,kU,M,ez,bR,D]
           ·have h1:=dT h
            have:i=bz n1 (p+m0) (cN G g):=ado
            rw[<-this];refine eM () trivial ?_
            refine ai adp ?_ ?_ ?_ ?_<;>simp[LX,M,bR]
           ·have h1:=dT h
            have:i=bz n1 (p+m0) (cN G g):=ado
            rw[<-this];refine eM () trivial ?_
            refine ai adp ?_ ?_ ?_ ?_<;>simp[LX,M,bR]
         ·refine ai adp ?_ ?_ ?_ ?_<;>simp[LX,I,d8,ez,dZ,D,ac]
        ·intro _ _
         try simp only[I,RX,↓KW,Nat.reduceBEq,Nat.reduceAdd,D,ez]
         refine BB ?_;try simp only[RX,↓KW,Nat.reduceBEq,Nat.reduceAdd,Int.reduceLT,K3]
         refine eM () trivial ?_
         refine ai adp ?_ ?_ ?_ ?_<;>simp[LX,D]
      ·have ar:¬fr1=0:=by simpa using h
       have ac:fr1=(n1:Int):=by rw[ad,fb (λhh=>ar ado)];omega
       refine oc (.exit 4) (λ_:Unit=>(⟨[(9,.dat (I 1) none),(6,.dat (I (p+m0+bz n1 (p+m0) (cN G g):Nat)) none),(5,.dat (I G) none),(7,.dat (I g) none),(8,.ptr 403 0),(1,.dat (aI aH l) none),(0,.ptr 0 0)],[(403,⟨[aI aH (ez (d8 p m0)),aI aH (ez (d8 (p+m0) (bz n1 (p+m0) (cN G g))))],[]⟩),(0,⟨({t with groups:=ez O}:Tb).cells,if O=[]then[]else[(104,0)]⟩)],cm O 0 eR,1000⟩:S)) (λ_=>True) (λ_=>rfl) ?_ ?_
       ·refine aG (λi:Nat=>(⟨[(11,.dat (I i) none),(10,.dat (I n1) none),(6,.dat (I (p+m0+i:Nat)) none),(5,.dat (I G) none),(7,.dat (I g) none),(9,.dat (I 1) none),(8,.ptr 403 0),(1,.dat (aI aH l) none),(0,.ptr 0 0)],[(403,⟨[aI aH (ez (d8 p m0)),aI aH (ez (d8 (p+m0) i))],if d8 (p+m0) i=[]then[]else[(1,1)]⟩),(0,⟨({t with groups:=ez O}:Tb).cells,if O=[]then[]else[(104,0)]⟩)],cm (d8 (p+m0) i) 1 e++cm O 0 eR,1000⟩:S)) (λi=>bz n1 (p+m0) (cN G g)-i) (λi=>i<=bz n1 (p+m0) (cN G g)) ?_ 0 ado ?_
        ·intro i hi A1 L
         have ak:bz n1 (p+m0) (cN G g)<=8:=by simp only[bz,cN];omega
         have ab:=aC (k:=i) ado
         have hf:bz n1 (p+m0) (cN G g)=min n1 (cN G g-(p+m0)):=rfl
         have aa:IntKind.i64.wrap (((p+m0+i:Nat):Int)+1)=((p+m0+(i+1):Nat):Int):=by rw[aU ado ado];omega
         have al:(d8 (p+m0) i).length=i:=by simp[d8]
         by_cases M:d8 (p+m0) i=[]
         ·try simp only[I,RX,↓KW,Nat.reduceBEq,Nat.reduceAdd,M,cm,ez,D]
          repeat' (((first|refine aY ?_ ?_|refine aA ?_ ?_|refine bH ?_ ?_)<;>intro h)<;>try simp only[RX,↓KW,Nat.reduceBEq,Nat.reduceAdd,Nat.reduceLeDiff,reduceCtorEq,Nat.reduceMul,Int.reduceLE,Int.reduceToNat,dZ,V,aa,h])
          ·have h1:=dE h
           refine⟨adp,?_⟩
           refine⟨adp,?_⟩
           have h2:(i:Int)<n1:=by rename_i h2;exact dE h2
           refine L (i+1) _ ado ado (ai adp ?_ ?_ ?_ ?_)<;>simp[LX,I,ab,kU,M,ez,bR,D]
          ·have h1:=dT h
           have:i=bz n1 (p+m0) (cN G g):=ado
           rw[<-this];refine eM () trivial ?_
           refine ai adp ?_ ?_ ?_ ?_<;>simp[LX,M,dZ]
          ·have h1:=dT h
           have:i=bz n1 (p+m0) (cN G g):=ado
           rw[<-this];refine eM () trivial ?_
           refine ai adp ?_ ?_ ?_ ?_<;>simp[LX,M,dZ]
         ·try simp only[I,RX,↓KW,Nat.reduceBEq,Nat.reduceAdd,M,cm,ez,D]
          repeat' (((first|refine aY ?_ ?_|refine aA ?_ ?_|refine bH ?_ ?_)<;>intro h)<;>try simp only[RX,↓KW,Nat.reduceBEq,Nat.reduceAdd,Int.reduceLE,Int.reduceToNat,bR,V,aa,h])
          ·have h1:=dE h
           refine⟨adp,ado,adp,?_⟩
           have h2:(i:Int)<n1:=by rename_i h2;exact dE h2
           refine L (i+1) _ ado ado (ai adp ?_ ?_ ?_ ?_)<;>simp[LX,I,ab,kU,M,ez,bR,D]
          ·have h1:=dT h
           have:i=bz n1 (p+m0) (cN G g):=ado
           rw[<-this];refine eM () trivial ?_
           refine ai adp ?_ ?_ ?_ ?_<;>simp[LX,M,bR]
          ·have h1:=dT h
           have:i=bz n1 (p+m0) (cN G g):=ado
           rw[<-this];refine eM () trivial ?_
           refine ai adp ?_ ?_ ?_ ?_<;>simp[LX,M,bR]
        ·refine ai adp ?_ ?_ ?_ ?_<;>simp[LX,I,d8,ez,dZ,D,ac]
       ·intro _ _
        try simp only[I,RX,↓KW,Nat.reduceBEq,Nat.reduceAdd,D,ez]
        refine BB ?_;try simp only[RX,↓KW,Nat.reduceBEq,Nat.reduceAdd,Int.reduceLT,K3]
        refine eM () trivial ?_
        refine ai adp ?_ ?_ ?_ ?_<;>simp[LX,D]
    ·intro _ _
     have ao:=Tb.PL (t:={t with groups:=ez O}) ht.phases
     have a3:=Tb.len' (t:={t with groups:=ez O}) ht.phases ht.conflict ht.dO
     have ae:=Tb.PM (t:={t with groups:=ez O}) ht.phases (some (O++[⟨ez (d8 p (bz n0 p (cN G g))),ez (d8 (p+bz n0 p (cN G g)) (bz (cnt l g 1 (bz n0 p (cN G g))) (p+bz n0 p (cN G g)) (cN G g)))⟩]))
     simp only[D,ez,kw,il]at ao a3 ae;try simp only[I,RX,↓KW,Nat.reduceBEq,Nat.reduceAdd,Nat.reduceLeDiff,reduceCtorEq,Nat.reduceMul,ao,dZ,bR,Gr.len,ag,D,ez]
     try refine⟨ado,?_⟩
     try refine⟨by simp[cm,D,d9],?_⟩
     try refine⟨ado,?_⟩
     simp[bR,Gr.cells]at ae
     refine back (g+1) _ ado ado (ai adp ?_ ?_ ?_ ?_)<;>simp[LX,I,an,hw,D,ez,ae]
     trace_state
   ·have ba:g=G:=by have:=dT h;omega
    subst ba
    first
     |(exfalso;rw[D]at ag;simp at ag;omega)
     |exact⟨by rw[hR],by rw[hR]⟩
 ·have:({t with groups:=none}:Tb)=t:=by cases t;simp_all
  refine ai adp ?_ ?_ ?_ ?_<;>simp[LX,I,bu,ez,this]
end
end Go.Eng
