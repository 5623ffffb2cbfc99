/- Part 11 of the engine and its library. -/
import Derived.Test.YtjnbemnncjbmgaaGreatPkA10
set_option linter.all false
set_option maxRecDepth 10000
set_option maxHeartbeats 4000000
namespace Go.Eng
open Go
section
variable (t:Tb) (C:aQ) {α:Type} (f:Nat) (g k p:Int)
def mP:Int:=iF ((jo (yG t)).map λp=>ku [(aV t p).dQ,(aV t p).red])
def clear.Spec:Prop:=∀(t:Tb),t.Ok->C.c f [.agg t.cells] (I (mP t)) none
def lG:Int:=if uc (yG t) p then ku [iF [jn (aV t p).min,ku [(aV t p).walk,(aV t p).eP],jn (aV t p).top],t.extend,(aV t p).dQ,(aV t p).red,t.revert,8]else 0
def serve.Spec:Prop:=∀(t:Tb) (p:Int),t.Ok->C.c f [.agg t.cells,I p] (I (lG t p)) none
def gW(n:Nat):List Int:=8::(((cQ t).take n).filter (λx=>x.group==g)).map (λx=>lG t x.p)
def oX:Int:=if g<0\/((t.groups.getD []).length:Int)<=g then 0 else ku (gW t g (cQ t).length)
def pass.Spec:Prop:=∀(t:Tb) (g:Int),t.Ok->C.c f [.agg t.cells,I g] (I (oX t g)) none
def qH:Int:=if(aC t p).2&&uc (yG t) p then ku (oX t (aC t p).1.group::(List.range (t.groups.getD []).length).map λ(g:Nat)=>oX t g)else 0
def free.Spec:Prop:=∀(t:Tb) (p:Int),t.Ok->C.c f [.agg t.cells,I p] (I (qH t p)) none
def yd:Rl:=(t.bQ.getD []).getD k.toNat default
def sq:Int:=if k<0\/((t.bQ.getD []).length:Int)<=k then 0 else
 ku [(yd t k).delay,(yd t k).hold,(yd t k).green,(yd t k).green,(yd t k).iy,(yd t k).iy,(yd t k).iy,mP t,mP t,mP t,mP t,mP t,t.revert,t.revert,t.revert,60]
def entry.Spec:Prop:=∀(t:Tb) (k:Int),t.Ok->C.c f [.agg t.cells,I k] (I (sq t k)) none
theorem Eg{s p:Int} (h:uc s p=true):0<=p/\p<8:=by
 simp only[uc,ed,ii]at h;exact h.1
theorem B3{s p:Int} (h:p∈jo s):0<=p/\p<8:=Eg (GT.1 h).2
theorem G2(s:Int):(jo s).length<=8:=by
 have:=Hd (uc s) ((List.range 8).map λ(k:Nat)=>(k:Int))
 simpa[jo]using this
theorem ez(l:List α):(d9 l).getD []=l:=by unfold d9;split<;>simp_all
theorem xk{β:Type} {f:α->β} {l:List α} {i:Nat} {x:α} (h:l[i]? =some x):(l.take (i+1)).map f=(l.take i).map f++[f x]:=by rw[jV h];simp
theorem KA{t:Tb} {g:Int} {k:Nat} {x:Sp} (h:(cQ t)[k]? =some x):gW t g (k+1)=if x.group==g then gW t g k++[lG t x.p]else gW t g k:=by
 unfold gW;rw[jV h,In,yn]
 by_cases D:x.group==g<;>simp[D]
theorem Eh(k:Nat):(gW t g k).length<=k+1:=by
 have:=Hd (λx:Sp=>x.group==g) ((cQ t).take k)
 have D:((cQ t).take k).length<=k:=List.length_take_le _ _
 simp only[gW,fb,Pi];omega
end
section
variable{P:Program} (hm:P.follows .mixedOrders=true) {f:Nat}
include hm
section
variable {e fM fO fS:Nat}
theorem clear.ok{fL:Nat} (hc:bF P f=some (uV fO fL e fS fM)) (hO:on.Spec (Pure P) fO) (hL:sg.Spec (Pure P) fL e) (hS:zu.Spec (Pure P) fS) (hM:most.Spec (Pure P) fM):clear.Spec (Pure P) f:=by
 intro t ht
 have hp:=Tb.whole ht
 refine aq hm hc [] rfl ?_;try simp only[I,RX,↓KW,seval,uV,Z.H,hp]
 refine af (hO t ht) ?_;try simp only[I,RX,↓KW,seval]
 refine af (hL _ none (.inl rfl)) ?_;try simp only[RX,↓KW,seval]
 have ae:=G2 (yG t)
 have ac:=@B3 (yG t)
 have R:∀G,G=(jo (yG t)).map (λp=>ku [(aV t p).dQ,(aV t p).red])->mP t=iF G:=λG h=>by rw[h];rfl
 generalize jo (yG t)=L at*
 generalize hF:(λp=>ku [(aV t p).dQ,(aV t p).red])=F at*
 have ab:∀p,F p=ku [(aV t p).dQ,(aV t p).red]:=λp=>by rw[<-hF]
 have ad:=ez L
 refine aK (λk:Nat=>(⟨[(10,.dat (I k) none),(9,.dat (I L.length) none),(8,.dat (aJ aH (d9 L)) none),(1,.ptr 4 0),(3,bA aH ((L.take k).map F) 0)],[(4,⟨t.cells,[]⟩)],bP ((L.take k).map F) 0 e,400⟩:S)) (λk=>L.length-k) (λk=>k<=L.length) ?_ 0 aaN ?_
 ·intro k hk A back
  have hw:=aD (k:=k) aaN
  by_cases hl:(L.take k).map F=[]
  all_goals
   try simp only[I,RX,↓KW,seval,bA,bP,hl]
   refine az (λh=>?_) (λh=>?_)<;>try simp only[RX,↓KW,seval,ad,h]
  ·have aa:k<L.length:=by have:=dT h;omega
   obtain⟨x,V⟩:∃x,L[k]? =some x:=⟨_,eh aa⟩
   have hn:=xk (f:=F) V
   have O:=ac (et V)
   have M:=Tb.IE ht O.1 O.2
   refine⟨aaN,?_⟩
   try simp only[I,RX,↓KW,seval,V,aH]
   refine⟨aaN,?_⟩
   try simp only[I,RX,↓KW,seval,M]
   refine⟨aaN,?_⟩
   try simp only[I,B,D,RX,↓KW,seval,M]
   refine af (hS (some [(aV t x).dQ,(aV t x).red]) aaP) ?_
   try simp only[I,RX,↓KW,seval]
   refine back (k+1) _ aaN aaN (ai aaO ?_ ?_ ?_ ?_)<;>simp[LX,I,hn,hl,hw,ab]
  ·have:k=L.length:=by have:=dE h;omega
   subst this;try simp only[I,B,D,RX,↓KW,seval]
   rw[kf]at hl
   refine af (hM none aaP) ?_
   try simp only[I,RX,↓KW,seval]
   simp[R _ rfl,hl]
  ·have aa:k<L.length:=by have:=dT h;omega
   obtain⟨x,V⟩:∃x,L[k]? =some x:=⟨_,eh aa⟩
   have hn:=xk (f:=F) V
   have O:=ac (et V)
   have M:=Tb.IE ht O.1 O.2
   refine⟨aaN,?_⟩
   try simp only[I,RX,↓KW,seval,V,aH]
   refine⟨aaN,?_⟩
   try simp only[I,RX,↓KW,seval,M]
   refine⟨aaN,?_⟩
   try simp only[I,B,D,RX,↓KW,seval,M]
   refine af (hS (some [(aV t x).dQ,(aV t x).red]) aaP) ?_
   try simp only[I,RX,↓KW,seval]
   refine⟨by simp;omega,?_⟩
   refine back (k+1) _ aaN aaN (ai aaO ?_ ?_ ?_ ?_)<;>simp[LX,I,hn,hw,ab]
  ·have:k=L.length:=by have:=dE h;omega
   subst this;rw[kf]at*;try simp only[I,B,D,RX,↓KW,seval]
   refine af (hM (some (L.map F)) (by simp;omega)) ?_
   try simp only[I,RX,↓KW,seval]
   simp[R _ rfl]
 ·refine ai aaO ?_ ?_ ?_ ?_<;>simp[LX,I,ad]
theorem serve.ok{fH fC:Nat} (hc:bF P f=some (oh fO fH fC e fS fM)) (hO:on.Spec (Pure P) fO) (hH:xZ.Spec (Pure P) fH) (hC:Cap.Spec (Pure P) fC) (hS:zu.Spec (Pure P) fS) (hM:most.Spec (Pure P) fM):serve.Spec (Pure P) f:=by
 intro t p O
 have hp:=Tb.whole O
 have D:=Tb.tail_at O
 have L:=D 0 aaN
 have M:=D 3 aaN
 refine aq hm hc [] rfl ?_;try simp only[I,RX,↓KW,seval,oh,Z.H,hp]
 refine af (hO t O) ?_;try simp only[I,RX,↓KW,seval]
 refine af (hH _ _) ?_;try simp only[B,RX,↓KW,seval]
 by_cases h:uc (yG t) p=true
 ·have hr:=Eg h
  have V:=Tb.Tt O hr.1 hr.2
  have R:lG t p=ku [iF [jn (aV t p).min,ku [(aV t p).walk,(aV t p).eP],jn (aV t p).top],t.extend,(aV t p).dQ,(aV t p).red,t.revert,8]:=ib h
  generalize aV t p=x at*;try simp only[RX,↓KW,seval,h]
  refine⟨aaN,?_⟩
  try simp only[I,B,RX,↓KW,seval,V,Ph.cells,gz]
  refine af (hC _) ?_;try simp only[I,RX,↓KW,seval]
  refine af (hS (some [x.walk,x.eP]) aaP) ?_
  try simp only[I,RX,↓KW,seval]
  refine af (hC _) ?_;try simp only[I,RX,↓KW,seval]
  refine af (hM (some [_,_,_]) aaP) ?_
  try simp only[I,RX,↓KW,seval,L,M]
  refine af (hS (some [_,_,_,_,_,_]) aaP) ?_
  try simp only[I,RX,↓KW,seval,R]
  rfl
 ·have R:lG t p=0:=ge h
  simp only[Bool.not_eq_true]at h;try simp only[RX,↓KW,seval,h,R]
theorem pass.ok{fV fs e':Nat} (hc:bF P f=some (pX e fS fV fs)) (hS:cQ.Spec (Pure P) fS e') (hV:serve.Spec (Pure P) fV) (hs:zu.Spec (Pure P) fs):pass.Spec (Pure P) f:=by
 intro t g O
 have hl:=Tb.len O
 have hp:=Tb.whole O
 have hg:=Tb.nI O
 refine aq hm hc [] rfl ?_;try simp only[I,RX,↓KW,seval,pX,Z.H]
 by_cases h0:g<0\/((t.groups.getD []).length:Int)<=g
 ·have R:oX t g=0:=ib h0
  repeat' (((first|refine bg ?_ ?_|refine az ?_ ?_|refine bz ?_ ?_)<;>intro h)<;>try simp only[RX,↓KW,seval,hg,R,h])
  simp_all;omega
 ·have R:oX t g=ku (gW t g (cQ t).length):=ge h0
  have h1:decide (g<0)=false:=by simp;omega
  have M:decide (((t.groups.getD []).length:Int)<=g)=false:=by simp;omega
  try simp only[RX,↓KW,seval,h1,hg,M,hp]
  refine af (hS t none O (.inl rfl)) ?_
  have ad:=G1 O
  have V:=ez (cQ t)
  try simp only[RX,↓KW,seval,V]
  generalize ac:cQ t=Z at*
  refine aK (λk:Nat=>(⟨[(21,.dat (I k) none),(20,.dat (I Z.length) none),(19,.dat (aJ Sp.cells (d9 Z)) none),(1,.dat (I g) none),(2,.ptr 4 0),(5,bA aH (gW t g k) 0)],[(4,⟨t.cells,[]⟩)],bP (gW t g k) 0 e,400⟩:S)) (λk=>Z.length-k) (λk=>k<=Z.length) ?_ 0 aaN ?_
  ·intro k hk A back
   have hw:=aD (k:=k) aaN
   have L:gW t g k≠[]:=by simp[gW]
   try simp only[I,RX,↓KW,seval,bA,bP,L]
   refine az (λh=>?_) (λh=>?_)<;>try simp only[RX,↓KW,seval,V,h]
   ·have ab:k<Z.length:=by have:=dT h;omega
    obtain⟨x,R⟩:∃x,Z[k]? =some x:=⟨_,eh ab⟩
    have hn:gW t g (k+1)=if x.group==g then gW t g k++[lG t x.p]else gW t g k:=KA (by rw[ac];exact R)
    have aa:=Eh t g k
    refine⟨aaN,?_⟩
    try simp only[I,RX,↓KW,seval,R,Sp.cells]
    refine az (λM=>?_) (λM=>?_)<;>try simp only[RX,↓KW,seval,hp,M]
    ·refine af (hV t _ O) ?_
     try simp only[I,RX,↓KW,seval]
     refine⟨aaN,?_⟩
     refine back (k+1) _ aaN aaN (ai aaO ?_ ?_ ?_ ?_)<;>simp[LX,I,hn,hw,M,L]
    ·refine back (k+1) _ aaN aaN (ai aaO ?_ ?_ ?_ ?_)<;>simp[LX,I,hn,hw,M,L]
   ·have:k=Z.length:=by have:=dE h;omega
    subst this
    have aa:=Eh t g Z.length
    try simp only[I,B,D,RX,↓KW,seval]
    refine af (hs (some (gW t g Z.length)) (by simp;omega)) ?_
    try simp only[I,RX,↓KW,seval,R]
    rfl
  ·refine ai aaO ?_ ?_ ?_ ?_<;>simp[LX,I,gW,lG]
end
end
section
variable (t:Tb) (C:aQ) (p:Int) (f:Nat) (l:List Int) (n:Nat)
def mQ:List Int:=oX t (aC t p).1.group::(List.range n).map λ(g:Nat)=>oX t g
theorem KB:mQ t p (n+1)=mQ t p n++[oX t n]:=by simp[mQ,lL]
def lH:List Int:=(List.range n).map λ(k:Nat)=>ku [sq t k,(yd t k).stay]
theorem KC:lH t (n+1)=lH t n++[ku [sq t n,(yd t n).stay]]:=by simp[lH,lL]
def om:List Int:=l.flatMap λp=>[jn (aV t p).min,ku [(aV t p).walk,(aV t p).eP]]
theorem B4{t:Tb} {l:List Int} {i:Nat} {x:Int} (h:l[i]? =some x):om t (l.take (i+1))=om t (l.take i)++[jn (aV t x).min,ku [(aV t x).walk,(aV t x).eP]]:=by rw[jV h];simp[om]
theorem M3:(om t l).length=l.length*2:=by
 induction l with
 |nil=>rfl
 |cons x l D=>simp only[om,yr,s8,fb,gs]at D⊢;omega
def OB:Int:=if(t.bQ.getD []).length=0 then 0 else ku [iF (lH t (t.bQ.getD []).length),iF (om t (jo (yG t))),mP t,t.revert,30]
def Ei.Spec:Prop:=∀(t:Tb),t.Ok->C.c f [.agg t.cells] (I (OB t)) none
def qI:Int:=if qH t p=0\/(t.bQ.getD []).length=0 then qH t p else ku [ahi (ku [t.share,1]) (ku [OB t,qH t p,2]),t.share]
def wait.Spec:Prop:=∀(t:Tb) (p:Int),t.Ok->C.c f [.agg t.cells,I p] (I (qI t p)) none
theorem Rl.len(r:Rl):r.cells.length=11:=rfl
theorem Ej{t:Tb} {k:Int} (L:0<=k) (D:k<((t.bQ.getD []).length:Int)):(t.bQ.getD [])[k.toNat]? =some (yd t k):=by
 have:k.toNat<(t.bQ.getD []).length:=aaN
 simp[yd,this]
end
section
variable{P:Program} (hm:P.follows .mixedOrders=true) {f:Nat}
include hm
section
variable {e fO fs:Nat}
theorem free.ok{fW fH fP:Nat} (hc:bF P f=some (pW fW fO fH fP e fs)) (hW:where.Spec (Pure P) fW) (hO:on.Spec (Pure P) fO) (hH:xZ.Spec (Pure P) fH) (hP:pass.Spec (Pure P) fP) (hs:zu.Spec (Pure P) fs):free.Spec (Pure P) f:=by
 intro t p L
 have O:=Tb.whole L
 have hg:=Tb.nI L
 have hb:=L.groups
 refine aq hm hc [] rfl ?_;try simp only[I,RX,↓KW,seval,pW,Z.H,O]
 refine af (hW t _ L) ?_;try simp only[I,B,RX,↓KW,seval,Sp.cells]
 by_cases M:((aC t p).2&&uc (yG t) p)=true
 ·have V:qH t p=ku (mQ t p (t.groups.getD []).length):=ib M
  simp only[ed]at M;try simp only[RX,↓KW,seval,M,O]
  refine af (hO t L) ?_;try simp only[I,RX,↓KW,seval]
  refine af (hH _ _) ?_;try simp only[B,RX,↓KW,seval,M,O]
  refine af (hP t _ L) ?_;try simp only[I,RX,↓KW,seval]
  refine aK (λk:Nat=>(⟨[(8,.dat (I k) none),(2,.ptr 4 0),(7,bA aH (mQ t p k) 0)],[(4,⟨t.cells,[]⟩)],bP (mQ t p k) 0 e,400⟩:S)) (λk=>(t.groups.getD []).length-k) (λk=>k<=(t.groups.getD []).length) ?_ 0 aaN ?_
  ·intro k hk A back
   have hw:=aD (k:=k) aaN
   have R:mQ t p k≠[]:=by simp[mQ]
   have hn:=KB t p k
   have aa:(mQ t p k).length=k+1:=by simp[mQ]
   try simp only[I,RX,↓KW,seval,bA,bP,R,hg]
   refine az (λh=>?_) (λh=>?_)<;>try simp only[RX,↓KW,seval,O,h]
   ·have:k<(t.groups.getD []).length:=by have:=dT h;omega
    refine af (hP t _ L) ?_;try simp only[I,RX,↓KW,seval]
    refine⟨aaN,?_⟩
    refine back (k+1) _ aaN aaN (ai aaO ?_ ?_ ?_ ?_)<;>simp[LX,I,hn,hw,R]
   ·have:k=(t.groups.getD []).length:=by have:=dE h;omega
    subst this;try simp only[I,B,D,RX,↓KW,seval]
    refine af (hs (some (mQ t p (t.groups.getD []).length)) (by simp;omega)) ?_
    try simp only[I,RX,↓KW,seval,V]
    rfl
  ·refine ai aaO ?_ ?_ ?_ ?_<;>simp[LX,I,mQ]
 ·have V:qH t p=0:=ge M
  repeat' (first|((first|refine af (hO t L) ?_|refine af (hH _ _) ?_);try simp only[I,B,RX,↓KW,seval])|(((first|refine bg ?_ ?_|refine az ?_ ?_|refine bz ?_ ?_)<;>intro h)<;>try simp only[RX,↓KW,seval,O,V,h]))
  all_goals simp_all
theorem entry.ok{O V:Nat} (hc:bF P f=some (og O e V)) (hC:clear.Spec (Pure P) O) (hs:zu.Spec (Pure P) V):entry.Spec (Pure P) f:=by
 intro t k D
 have hl:=Tb.len D
 have hp:=Tb.whole D
 have hg:=Tb.zq D
 have L:=Tb.tail_at D 3 aaN
 refine aq hm hc [] rfl ?_;try simp only[I,RX,↓KW,seval,og,Z.H]
 by_cases R:k<0\/((t.bQ.getD []).length:Int)<=k
 ·have M:sq t k=0:=ib R
  repeat' (((first|refine bg ?_ ?_|refine az ?_ ?_|refine bz ?_ ?_)<;>intro h)<;>try simp only[RX,↓KW,seval,hg,M,h])
  simp_all;omega
 ·have M:=show sq t k=_ from ge R
  have h1:decide (k<0)=false:=by simp;omega
  have h2:decide (((t.bQ.getD []).length:Int)<=k)=false:=by simp;omega
  have hr:=Ej (t:=t) (k:=k) aaN aaN
  try simp only[RX,↓KW,seval,h1,h2,hg]
  refine⟨aaN,?_⟩
  try simp only[I,RX,↓KW,seval,hr,Rl.cells,bW,hp]
  refine af (hC t D) ?_;try simp only[I,RX,↓KW,seval,L]
  refine af (hs (some [_,_,_,_,_,_,_,_,_,_,_,_,_,_,_,_]) aaP) ?_
  try simp only[I,RX,↓KW,seval,M]
  rfl
theorem wait.ok{fF R:Nat} (hc:bF P f=some (pU fF e fs fO R)) (hF:free.Spec (Pure P) fF) (M:zu.Spec (Pure P) fs) (hO:Ei.Spec (Pure P) fO) (hM:Mul.Spec (Pure P) R):wait.Spec (Pure P) f:=by
 intro t p L
 have hl:=Tb.len L
 have V:=Tb.whole L
 have hg:=Tb.zq L
 have D:=Tb.Tq L
 refine aq hm hc [] rfl ?_;try simp only[I,RX,↓KW,seval,pU,Z.H,V]
 refine af (hF t _ L) ?_;try simp only[I,RX,↓KW,seval]
 by_cases h0:qH t p=0\/(t.bQ.getD []).length=0
 ·have O:qI t p=qH t p:=ib h0
  repeat' (((first|refine bg ?_ ?_|refine az ?_ ?_|refine bz ?_ ?_)<;>intro h)<;>try simp only[RX,↓KW,seval,hg,O,h])
  simp_all
 ·have O:=show qI t p=_ from ge h0
  have h1:(qH t p==0)=false:=by simp;omega
  have h2:(((t.bQ.getD []).length:Int)==0)=false:=beq_false_of_ne aaN
  try simp only[I,RX,↓KW,seval,h1,h2,hg,D]
  refine af (M (some [_,_]) aaP) ?_
  try simp only[I,RX,↓KW,seval,V]
  refine af (hO t L) ?_;try simp only[I,RX,↓KW,seval]
  refine af (M (some [_,_,_]) aaP) ?_
  try simp only[I,RX,↓KW,seval]
  refine af (hM _ _) ?_;try simp only[I,RX,↓KW,seval,D]
  refine af (M (some [_,_]) aaP) ?_
  try simp only[I,RX,↓KW,seval,O]
  rfl
theorem Ei.ok{fE fL fC fM ag:Nat} (hc:bF P f=some (xh fE e fs fO fL fC fM ag)) (hE:entry.Spec (Pure P) fE) (hs:zu.Spec (Pure P) fs) (hO:on.Spec (Pure P) fO) (hL:sg.Spec (Pure P) fL e) (hC:Cap.Spec (Pure P) fC) (hM:most.Spec (Pure P) fM) (ak:clear.Spec (Pure P) ag):Ei.Spec (Pure P) f:=by
 intro t R
 have hp:=Tb.whole R
 have hg:=Tb.zq R
 have hb:=R.bQ
 have ab:=Tb.tail_at R 3 aaN
 refine aq hm hc [] rfl ?_;try simp only[I,RX,↓KW,seval,xh,Z.H,hg]
 by_cases h0:(t.bQ.getD []).length=0
 ·have hx:OB t=0:=ib h0
  repeat' (((first|refine bg ?_ ?_|refine az ?_ ?_|refine bz ?_ ?_)<;>intro h)<;>try simp only[RX,↓KW,seval,hx,h])
  simp_all
 ·have hx:=show OB t=_ from ge h0
  have h2:(((t.bQ.getD []).length:Int)==0)=false:=beq_false_of_ne aaN
  try simp only[RX,↓KW,seval,h2]
  refine aK (λk:Nat=>(⟨[(5,.dat (I k) none),(1,.ptr 4 0),(4,.dat (.aU) none),(3,bA aH (lH t k) 0)],[(4,⟨t.cells,[]⟩)],bP (lH t k) 0 e,400⟩:S)) (λk=>(t.bQ.getD []).length-k) (λk=>k<=(t.bQ.getD []).length) ?_ 0 aaN ?_
  ·intro k hk A back
   have hw:=aD (k:=k) aaN
   have hn:=KC t k
   have aa:(lH t k).length=k:=by simp[lH]
   by_cases hl:lH t k=[]
   all_goals
    try simp only[I,RX,↓KW,seval,bA,bP,hl,hg]
    refine az (λh=>?_) (λh=>?_)<;>try simp only[RX,↓KW,seval,hp,h]
   ·have:k<(t.bQ.getD []).length:=by have:=dT h;omega
    have hr:=Ej (t:=t) (k:=k) aaN aaN
    rw[pu]at hr;refine af (hE t _ R) ?_;try simp only[I,RX,↓KW,seval,hg]
    refine⟨aaN,?_⟩
    try simp only[I,RX,↓KW,seval,hr,Rl.cells]
    refine af (hs (some [_,_]) aaP) ?_
    try simp only[I,RX,↓KW,seval]
    refine back (k+1) _ aaN aaN (ai aaO ?_ ?_ ?_ ?_)<;>simp[LX,I,hn,hw,hl]
   ·exfalso
    have:=dE h
    rw[hl]at aa;simp at aa;omega
   ·have:k<(t.bQ.getD []).length:=by have:=dT h;omega
    have hr:=Ej (t:=t) (k:=k) aaN aaN
    rw[pu]at hr;refine af (hE t _ R) ?_;try simp only[I,RX,↓KW,seval,hg]
    refine⟨aaN,?_⟩
    try simp only[I,RX,↓KW,seval,hr,Rl.cells]
    refine af (hs (some [_,_]) aaP) ?_
    try simp only[I,RX,↓KW,seval]
    refine⟨aaN,?_⟩
    refine back (k+1) _ aaN aaN (ai aaO ?_ ?_ ?_ ?_)<;>simp[LX,I,hn,hw,hl]
   ·have:k=(t.bQ.getD []).length:=by have:=dE h;omega
    subst this;try simp only[I,B,D,RX,↓KW,seval,hp]
    refine af (hO t R) ?_;try simp only[I,RX,↓KW,seval]
    refine af (hL _ none (.inl rfl)) ?_;try simp only[RX,↓KW,seval]
    have aa:=G2 (yG t)
    have ad:=@B3 (yG t)
    have ae:=ez (jo (yG t))
    generalize jo (yG t)=L at*
    refine aK (λk:Nat=>(⟨[(37,.dat (I k) none),(36,.dat (I L.length) none),(35,.dat (aJ aH (d9 L)) none),(1,.ptr 4 0),(3,.dat (.sl ((lH t (t.bQ.getD []).length).map aH)) none),(4,bA aH (om t (L.take k)) 0)],[(4,⟨t.cells,[]⟩)],bP (om t (L.take k)) 0 e,400⟩:S)) (λk=>L.length-k) (λk=>k<=L.length) ?_ 0 aaN ?_
    ·intro k hk A back
     have hw:=aD (k:=k) aaN
     have al:(om t (L.take k)).length<=16:=by rw[M3];have:=List.length_take_le k L;omega
     by_cases hl:om t (L.take k)=[]
     all_goals
      try simp only[I,RX,↓KW,seval,bA,bP,hl]
      refine az (λh=>?_) (λh=>?_)<;>try simp only[RX,↓KW,seval,ae,h]
     ·have ac:k<L.length:=by have:=dT h;omega
      obtain⟨x,O⟩:∃x,L[k]? =some x:=⟨_,eh ac⟩
      have V:=ad (et O)
      have M:=Tb.IE R V.1 V.2
      have hn:=B4 (t:=t) O
      refine⟨aaN,?_⟩
      try simp only[I,RX,↓KW,seval,O,aH]
      refine⟨aaN,?_⟩
      try simp only[I,RX,↓KW,seval,M]
      refine af (hC _) ?_;try simp only[I,RX,↓KW,seval,M]
      refine⟨aaN,?_⟩
      try simp only[I,B,D,RX,↓KW,seval,M]
      refine⟨aaN,?_⟩
      try simp only[I,B,D,RX,↓KW,seval,M]
      refine af (hs (some [_,_]) aaP) ?_
      try simp only[I,RX,↓KW,seval]
      refine back (k+1) _ aaN aaN (ai aaO ?_ ?_ ?_ ?_)<;>simp[LX,I,hn,hw,hl]
     ·have:k=L.length:=by have:=dE h;omega
      subst this;rw[kf]at hl al;try simp only[I,B,D,RX,↓KW,seval]
      refine af (hM (some _) (by simp[lH];omega)) ?_
      try simp only[I,RX,↓KW,seval]
      refine af (hM none aaP) ?_
      try simp only[I,RX,↓KW,seval,hp]
      refine af (ak t R) ?_;try simp only[I,RX,↓KW,seval,ab]
      refine af (hs (some [_,_,_,_,_]) aaP) ?_
      try simp only[I,RX,↓KW,seval,hx,hl]
      rfl
     ·have ac:k<L.length:=by have:=dT h;omega
      obtain⟨x,O⟩:∃x,L[k]? =some x:=⟨_,eh ac⟩
      have V:=ad (et O)
      have M:=Tb.IE R V.1 V.2
      have hn:=B4 (t:=t) O
      refine⟨aaN,?_⟩
      try simp only[I,RX,↓KW,seval,O,aH]
      refine⟨aaN,?_⟩
      try simp only[I,RX,↓KW,seval,M]
      refine af (hC _) ?_;try simp only[I,RX,↓KW,seval,M]
      refine⟨aaN,?_⟩
      try simp only[I,B,D,RX,↓KW,seval,M]
      refine⟨aaN,?_⟩
      try simp only[I,B,D,RX,↓KW,seval,M]
      refine af (hs (some [_,_]) aaP) ?_
      try simp only[I,RX,↓KW,seval]
      refine⟨aaN,?_⟩
      refine back (k+1) _ aaN aaN (ai aaO ?_ ?_ ?_ ?_)<;>simp[LX,I,hn,hw,hl]
     ·have:k=L.length:=by have:=dE h;omega
      subst this;rw[kf]at*;try simp only[I,B,D,RX,↓KW,seval]
      refine af (hM (some _) (by simp[lH];omega)) ?_
      try simp only[I,RX,↓KW,seval]
      refine af (hM (some _) (by simp;omega)) ?_
      try simp only[I,RX,↓KW,seval,hp]
      refine af (ak t R) ?_;try simp only[I,RX,↓KW,seval,ab]
      refine af (hs (some [_,_,_,_,_]) aaP) ?_
      try simp only[I,RX,↓KW,seval,hx]
      rfl
    ·refine ai aaO ?_ ?_ ?_ ?_<;>simp[LX,I,ae,om]
  ·refine ai aaO ?_ ?_ ?_ ?_<;>simp[LX,I,lH]
end
end
section
variable (k:FloatKind) (l:Option (List Int)) (C:aQ) (x:Nat) (i:Int) (f:Nat) (n:Int) (y:Nat)
def KD(t:Tb) (p q:Int):Int:=if gq t p q then ig (ofI [p]) q else ofI [p]
def with.Spec:Prop:=∀(t:Tb) (p q:Int),t.Ok->C.c f [.agg t.cells,I p,I q] (I (KD t p q)) none
theorem acS:d7 .mul (.float k x) (.float k y)=Mx k (k.format.mul x y):=by simp[d7,Dn]
theorem Tu:d7 .quo (.float k x) (.float k y)=Mx k (k.format.div x y):=by simp[d7,Dn]
theorem acT(r:Nat):Mx k (some r)=some (.float k r):=by cases k<;>rfl
theorem bt{n:Int} (h:0<n) (M:n<=4294967296):0<=dN l i n/\dN l i n<n:=by
 simp only[dN,place]
 have D:=Ix (atL l i) h
 have L:=Int.lt_tmod_of_pos (atL l i) h
 split
 ·rw[eo,aY aaN aaN];omega
 ·omega
def zx:Nat:=(FloatKind.f64.format.div (FloatKind.f64.nearest n) 4621819117588971520).getD 0
theorem Ek:∀n:Nat,n<6->FloatKind.f64.format.div (FloatKind.f64.nearest (n:Int)) 4621819117588971520=some (zx n):=by decide+kernel
def xl(k:Int):Nat:=[4617315517961601024,4621819117588971520,4607182418800017408,4602678819172646912].getD k.toNat 0
def El(k:Int):Nat:=[4602678819172646912,4607182418800017408,4598175219545276416].getD k.toNat 0
def uY(j k:Int):Nat:=(FloatKind.f64.format.mul (xl j) (El k)).getD 0
theorem KE:∀j:Nat,j<4->∀k:Nat,k<3->FloatKind.f64.format.mul (xl j) (El k)=some (uY j k):=by decide+kernel
def iS:zh where
 phase:=dN l i n
 on:=xl (dN l (eo (i+1)) 4)
 off:=uY (dN l (eo (i+1)) 4) (dN l (eo (i+2)) 3)
 delay:=zx (dN l (eo (i+3)) 4)
 extend:=zx (dN l (eo (i+4)) 6)
 maxOn:=if dN l (eo (i+5)) 3==1 then eo (20+dN l (eo (i+6)) 60)else 0
 uO:=if dN l (eo (i+5)) 9==2 then eo (60+dN l (eo (i+7)) 300)else 0
def uZ.Spec:Prop:=∀(l:Option (List Int)) (i n:Int),0<n->C.c f [aJ aH l,I i,I n] (.agg (iS l i n).cells) none
end
section
variable{P:Program} (hm:P.follows .mixedOrders=true) {f:Nat}
include hm
theorem with.ok{e M D L:Nat} (hc:bF P f=some (pV e M D L)) (V:Ef.Spec (Pure P) M) (hB:beside.Spec (Pure P) D) (hW:sj.Spec (Pure P) L):with.Spec (Pure P) f:=by
 intro t p q O
 have R:=Tb.whole O
 refine aq hm hc [] rfl ?_;try simp only[I,RX,↓KW,seval,pV,Z.H]
 refine af (V (some [_]) aaP) ?_
 try simp only[I,RX,↓KW,seval,R]
 refine af (hB t _ _ O) ?_;try simp only[B,RX,↓KW,seval]
 repeat' (first|(refine af (hW _ _) ?_;try simp only[I,RX,↓KW,seval])|(((first|refine bg ?_ ?_|refine az ?_ ?_|refine bz ?_ ?_)<;>intro h)<;>try simp only[RX,↓KW,seval,h]))
 all_goals simp_all [KD]
theorem uZ.ok{fF:Nat} (hc:bF P f=some (oU fF)) (hF:from.Spec (Pure P) fF):uZ.Spec (Pure P) f:=by
 intro l i n hn;refine aq hm hc [] rfl ?_;try simp only[I,RX,↓KW,seval,oU,Z.H]
 refine af (hF _ _ _ hn) ?_;try simp only[I,RX,↓KW,seval]
 refine af (hF _ _ _ aaO) ?_
 try simp only[I,RX,↓KW,seval]
 have V:=bt l (eo (i+1)) (n:=4) aaO aaO
 have R:=bt l (eo (i+2)) (n:=3) aaO aaO
 have h3:=bt l (eo (i+3)) (n:=4) aaO aaO
 have h4:=bt l (eo (i+4)) (n:=6) aaO aaO
 have O:[AV.float FloatKind.f64 4617315517961601024,AV.float FloatKind.f64 4621819117588971520,AV.float FloatKind.f64 4607182418800017408,AV.float FloatKind.f64 4602678819172646912][(dN l (eo (i+1)) 4).toNat]? =some (.float .f64 (xl (dN l (eo (i+1)) 4))):=by
  generalize dN l (eo (i+1)) 4=j at*
  have:j=0\/j=1\/j=2\/j=3:=aaN
  rcases this with rfl|rfl|rfl|rfl<;>rfl
 have e2:[AV.float FloatKind.f64 4602678819172646912,AV.float FloatKind.f64 4607182418800017408,AV.float FloatKind.f64 4598175219545276416][(dN l (eo (i+2)) 3).toNat]? =some (.float .f64 (El (dN l (eo (i+2)) 3))):=by
  generalize dN l (eo (i+2)) 3=j at*
  have:j=0\/j=1\/j=2:=aaN
  rcases this with rfl|rfl|rfl<;>rfl
 have L:=KE (dN l (eo (i+1)) 4).toNat aaN (dN l (eo (i+2)) 3).toNat aaN
 have M:=Ek (dN l (eo (i+3)) 4).toNat aaN
 have D:=Ek (dN l (eo (i+4)) 6).toNat aaN
 simp only[wc V.1,wc R.1]at L;simp only[wc h3.1]at M;simp only[wc h4.1]at D;simp only[eo]at O e2 L M D V R h3 h4
 refine⟨aaN,?_⟩
 try simp only[RX,↓KW,seval,O]
 refine af (hF l _ 3 aaO) ?_
 try simp only[I,RX,↓KW,seval]
 refine⟨aaN,?_⟩
 try simp only[RX,↓KW,seval,e2,acT,acS,L]
 refine af (hF _ _ _ aaO) ?_
 try simp only[I,RX,↓KW,seval,acT,Tu,M]
 refine af (hF _ _ _ aaO) ?_
 try simp only[I,RX,↓KW,seval,acT,Tu,D]
 repeat' (first|(refine af (hF _ _ _ aaO) ?_;try simp only[I,RX,↓KW,seval])|(((first|refine bg ?_ ?_|refine az ?_ ?_|refine bz ?_ ?_)<;>intro h)<;>try simp only[RX,↓KW,seval,h]))
 all_goals simp_all [iS,zh.cells,eo]
def u5 (t:Tb) (l:Option (List Int)) (i n:Int):Rl :=
  let p:=dN l (eo (i + 4)) (eo (n + 1))
  let iO:=KD t (dN l i n) (dN l (eo (i + 1)) n)
  let stay:=eo (1 + dN l (eo (i + 11)) 15)
  let delay:=dN l (eo (i + 8)) 4
  { bars:=dW .i64 (dL .i64 (dN l (eo (i + 7)) 256) (eo (eo (1 * 2 ^ min (IntKind.u64.wrap n).toNat 64) - 1))) iO
    clear:=if p < n then KD t p (dN l (eo (i + 5)) n) else 0
    iO:=iO
    exit:=KD t (dN l (eo (i + 2)) n) (dN l (eo (i + 3)) n)
    delay:=delay
    green:=eo (1 + dN l (eo (i + 9)) 6)
    iy:=dN l (eo (i + 10)) 6
    hold:=if p < n then eo (1 + dN l (eo (i + 6)) 10) else 0
    stay:=stay
    most:=if dN l (eo (i + 12)) 3 == 1 then eo (stay + dN l (eo (i + 13)) 30) else 0
    limit:=eo (eo (delay + 1) + [10000,400,20].getD (dN l (eo (i + 14)) 3).toNat 0) }
def Tv.Spec(C:aQ) (f:Nat):Prop:=∀(t:Tb) (l:Option (List Int)) (i n:Int),t.Ok->0<n->n<=8->C.c f [.agg t.cells,aJ aH l,I i,I n] (.agg (u5 t l i n).cells) none
theorem Tv.ok{fF fW:Nat} (hc:bF P f=some (xe fF fW)) (hF:from.Spec (Pure P) fF) (hW:with.Spec (Pure P) fW):Tv.Spec (Pure P) f:=by
 intro t l i n M L ab
 have R:=Tb.whole M
 have aa:IntKind.i64.wrap (n+1)=n+1:=aY aaN aaN
 refine aq hm hc [] rfl ?_;try simp only[I,RX,↓KW,seval,xe,Z.H,R,bW]
 refine af (hF _ _ _ L) ?_;try simp only[I,RX,↓KW,seval]
 refine af (hF _ _ _ L) ?_;try simp only[I,RX,↓KW,seval]
 refine af (hW t _ _ M) ?_;try simp only[I,RX,↓KW,seval,R]
 refine af (hF _ _ _ L) ?_;try simp only[I,RX,↓KW,seval]
 refine af (hF _ _ _ L) ?_;try simp only[I,RX,↓KW,seval]
 refine af (hW t _ _ M) ?_;try simp only[I,RX,↓KW,seval]
 refine af (hF _ _ _ aaN) ?_
 try simp only[I,RX,↓KW,seval]
 have V:=bt l (eo (i+14)) (n:=3) aaO aaO
 have O:[AV.int .i64 10000,AV.int .i64 400,AV.int .i64 20][(dN l (eo (i+14)) 3).toNat]? =some (.int .i64 ([10000,400,20].getD (dN l (eo (i+14)) 3).toNat 0)):=by
  generalize dN l (eo (i+14)) 3=j at*
  have:j=0\/j=1\/j=2:=aaN
  rcases this with rfl|rfl|rfl<;>rfl
 have hu:0<=IntKind.u64.wrap n:=by rw[IntKind.wrap];simp[IntKind.signed];omega
 simp only[eo]at O V
 refine az (λh=>?_) (λh=>?_)<;>try simp only[RX,↓KW,seval,R,h]
 ·repeat' (first|((first|refine af (hF _ _ _ L) ?_|refine af (hF _ _ _ aaO) ?_|refine af (hW t _ _ M) ?_);try simp only[I,RX,↓KW,seval])|(((first|refine bg ?_ ?_|refine az ?_ ?_|refine bz ?_ ?_)<;>intro h)<;>try simp only[I,B,D,RX,↓KW,seval,R,h]))
  refine⟨hu,?_⟩
  repeat' (first|((first|refine af (hF _ _ _ L) ?_|refine af (hF _ _ _ aaO) ?_|refine af (hW t _ _ M) ?_);try simp only[I,RX,↓KW,seval])|(((first|refine bg ?_ ?_|refine az ?_ ?_|refine bz ?_ ?_)<;>intro h)<;>try simp only[RX,↓KW,seval,h]))
  all_goals refine⟨aaN,?_⟩
  all_goals try simp only[RX,↓KW,seval,O]
  all_goals simp_all [u5,Rl.cells,eo,IntKind.bits]
 ·repeat' (first|((first|refine af (hF _ _ _ L) ?_|refine af (hF _ _ _ aaO) ?_|refine af (hW t _ _ M) ?_);try simp only[I,RX,↓KW,seval])|(((first|refine bg ?_ ?_|refine az ?_ ?_|refine bz ?_ ?_)<;>intro h)<;>try simp only[I,B,D,RX,↓KW,seval,R,h]))
  refine⟨hu,?_⟩
  repeat' (first|((first|refine af (hF _ _ _ L) ?_|refine af (hF _ _ _ aaO) ?_|refine af (hW t _ _ M) ?_);try simp only[I,RX,↓KW,seval])|(((first|refine bg ?_ ?_|refine az ?_ ?_|refine bz ?_ ?_)<;>intro h)<;>try simp only[RX,↓KW,seval,h]))
  all_goals refine⟨aaN,?_⟩
  all_goals try simp only[RX,↓KW,seval,O]
  all_goals simp_all [u5,Rl.cells,eo,IntKind.bits]
  all_goals exact⟨λ_=>aaN,λ_=>aaN⟩
end
structure Tb.Ln (t:Tb):Prop where
 phases:t.phases.length=8
 conflict:t.conflict.length=8
 dz:t.dz.length=8
theorem Tb.Ok.ln{t:Tb} (h:t.Ok):t.Ln:=⟨h.phases,h.conflict,h.dz⟩
section
variable{t:Tb} (h:t.Ln)
include h
section
variable {i off:Nat} {post ps:List AV} (v:Int)
theorem Tb.Ln.len:t.cells.length=131:=by
 simp[Tb.cells,aL Ph.len,h.phases,h.conflict,h.dz]
theorem Tb.Ln.whole:aB t.cells 0 (some 131)=some (.agg t.cells):=by
 have D:=h.len
 rw[mN _ _ _ aaN,kh,<-D,kf]
theorem Tb.Ln.Tw:t.cells[113]? =some (aJ zh.cells t.aR):=by
 simp[Tb.cells,aL Ph.len,h.phases,h.conflict,h.dz]
theorem Tb.Ln.Tx:t.cells[114]? =some (aJ Rl.cells t.bQ):=by
 simp[Tb.cells,aL Ph.len,h.phases,h.conflict,h.dz]
theorem Tb.Ln.ahm:t.cells[115]? =some (aJ Bs.cells t.kR):=by
 simp[Tb.cells,aL Ph.len,h.phases,h.conflict,h.dz]
theorem Tb.Ln.ahn:t.cells[129]? =some (I t.pR):=by
 simp[Tb.cells,aL Ph.len,h.phases,h.conflict,h.dz]
theorem Tb.Ln.oW{c:Int} (D:t.conflict[i]? =some c):t.cells[105+i]? =some (I c):=by
 have L:i<8:=by have:=(em.1 D).1;rw[h.conflict]at this;exact this
 have e:(t.phases.flatMap Ph.cells).length=104:=by rw[aL Ph.len,h.phases]
 unfold Tb.cells
 rw[kt aaN,e,show 105+i-104=i+1 by omega,ix,kp (by simp[h.conflict,L]),kx,D];rfl
def Tb.rest(t:Tb):List AV:=aJ Gr.cells t.groups::(t.conflict.map I++(aJ zh.cells t.aR::aJ Rl.cells t.bQ::aJ Bs.cells t.kR::
  I t.extend::I t.iz::I t.start::I t.revert::I t.least::(t.dz.map I++[I t.pR,I t.share])))
omit h in
theorem bR{pre:List AV} (D:pre.length<=off):setCells (pre++post) off ps=pre++setCells post (off-pre.length) ps:=by
 simp only[setCells,M2,ww,List.append_assoc]
 rw[jp D,mn aaN,show off+ps.length-pre.length=off-pre.length+ps.length by omega]
 rfl
omit h in
theorem Em{pre:List AV} (D:off+ps.length<=pre.length):setCells (pre++post) off ps=setCells pre off ps++post:=by
 simp only[setCells]
 rw[Fd aaN,List.drop_append_of_le_length D]
 simp
omit h in
theorem OC{l:List Int} {v:Int} (D:i<l.length):setCells (l.map I) i [I v]=(l.set i v).map I:=by
 simp only[setCells,fb,gs];rw[yi,ib D];simp[List.map_take,List.map_drop]
omit h in
theorem gl(c:AV) (cs ps:List AV) (k:Nat):setCells (c::cs) (k+1) ps=c::setCells cs k ps:=by
 simp only[setCells,tt,sa,show k+1+ps.length=(k+ps.length)+1 by omega,mf]
theorem Tb.Ln.QB(L:i<8) (q:Ph):setCells t.cells (i*13) q.cells=({t with phases:=t.phases.set i q}:Tb).cells:=by
 obtain⟨p,D⟩:∃p,t.phases[i]? =some p:=⟨_,eh (by rw[h.phases];exact L)⟩
 exact Tb.Qv D
theorem Tb.Ln.zy(D:i<8) (v:Int):setCells t.cells (105+i) [I v]=({t with conflict:=t.conflict.set i v}:Tb).cells:=by
 have e:(t.phases.flatMap Ph.cells).length=104:=by rw[aL Ph.len,h.phases]
 unfold Tb.cells
 rw[bR aaN,e,show 105+i-104=i+1 by omega,gl,Em (by simp[h.conflict];omega),OC (by rw[h.conflict];exact D)]
theorem Tb.Ln.G3(D:i<8) (v:Int):setCells t.cells (121+i) [I v]=({t with dz:=t.dz.set i v}:Tb).cells:=by
 have e:(t.phases.flatMap Ph.cells).length=104:=by rw[aL Ph.len,h.phases]
 unfold Tb.cells
 rw[bR aaN,e,show 121+i-104=(i+16)+1 by omega,gl,bR (by simp[h.conflict]),show i+16-(t.conflict.map I).length=i+8 by simp[h.conflict]]
 simp only[gl]
 rw[Em (by simp[h.dz];omega),OC (by rw[h.dz];exact D)]
theorem Tb.Ln.Tz(d:Option (List zh)):setCells t.cells 113 [aJ zh.cells d]=({t with aR:=d}:Tb).cells:=by
 have e:(t.phases.flatMap Ph.cells).length=104:=by rw[aL Ph.len,h.phases]
 have D:(t.conflict.map I).length=8:=by simp[h.conflict]
 unfold Tb.cells
 rw[bR aaN,e,show 113-104=8+1 by omega,gl,bR aaN,D]
 rfl
theorem Tb.Ln.QC(d:Option (List Rl)):setCells t.cells 114 [aJ Rl.cells d]=({t with bQ:=d}:Tb).cells:=by
 have e:(t.phases.flatMap Ph.cells).length=104:=by rw[aL Ph.len,h.phases]
 have D:(t.conflict.map I).length=8:=by simp[h.conflict]
 unfold Tb.cells
 rw[bR aaN,e,show 114-104=9+1 by omega,gl,bR aaN,D]
 rfl
theorem Tb.Ln.QD(d:Option (List Bs)):setCells t.cells 115 [aJ Bs.cells d]=({t with kR:=d}:Tb).cells:=by
 have e:(t.phases.flatMap Ph.cells).length=104:=by rw[aL Ph.len,h.phases]
 have D:(t.conflict.map I).length=8:=by simp[h.conflict]
 unfold Tb.cells
 rw[bR aaN,e,show 115-104=10+1 by omega,gl,bR aaN,D]
 rfl
theorem Tb.Ln.u6:setCells t.cells 116 [I v]=({t with extend:=v}:Tb).cells/\setCells t.cells 117 [I v]=({t with iz:=v}:Tb).cells/\setCells t.cells 118 [I v]=({t with start:=v}:Tb).cells/\
  setCells t.cells 119 [I v]=({t with revert:=v}:Tb).cells/\setCells t.cells 120 [I v]=({t with least:=v}:Tb).cells:=by
 have e:(t.phases.flatMap Ph.cells).length=104:=by rw[aL Ph.len,h.phases]
 have D:(t.conflict.map I).length=8:=by simp[h.conflict]
 unfold Tb.cells;refine⟨?_,?_,?_,?_,?_⟩
 ·rw[bR aaN,e,show 116-104=11+1 by omega,gl,bR aaN,D];rfl
 ·rw[bR aaN,e,show 117-104=12+1 by omega,gl,bR aaN,D];rfl
 ·rw[bR aaN,e,show 118-104=13+1 by omega,gl,bR aaN,D];rfl
 ·rw[bR aaN,e,show 119-104=14+1 by omega,gl,bR aaN,D];rfl
 ·rw[bR aaN,e,show 120-104=15+1 by omega,gl,bR aaN,D];rfl
theorem Tb.Ln.u7:setCells t.cells 129 [I v]=({t with pR:=v}:Tb).cells/\setCells t.cells 130 [I v]=({t with share:=v}:Tb).cells:=by
 have e:(t.phases.flatMap Ph.cells).length=104:=by rw[aL Ph.len,h.phases]
 have L:(t.conflict.map I).length=8:=by simp[h.conflict]
 have D:(t.dz.map I).length=8:=by simp[h.dz]
 unfold Tb.cells;refine⟨?_,?_⟩
 ·rw[bR aaN,e,show 129-104=24+1 by omega,gl,bR aaN,L]
  simp only[Nat.reduceSub,gl]
  rw[bR aaN,D];rfl
 ·rw[bR aaN,e,show 130-104=25+1 by omega,gl,bR aaN,L]
  simp only[Nat.reduceSub,gl]
  rw[bR aaN,D];rfl
end
end
section
variable {C:aQ} {Q:Exit->S->Prop} {c:aO} {k:S->Prop} {s:S} {t:Tb} {α:Type} (f:α->List AV) (l:Option (List Int))
def cV(groups g:Nat):Nat:=8-(groups-1-g)
def eM(p m:Nat):List Int:=(List.range m).map λ(j:Nat)=>((p+j:Nat):Int)
def cnt(g k D:Nat):Nat:=
 let n:=(dN l (1+2*g+k) 3).toNat
 if k=1/\n=0/\D=0 then 1 else n
def br(n p lim:Nat):Nat:=min n (lim-p)
def dr(l:Option (List Int)) (groups:Nat):Nat->List Gr×Nat
 |0=>([],0)
 |g+1=>
  let q:=dr l groups g
  let D:=br (cnt l g 0 0) q.2 (cV groups g)
  let L:=br (cnt l g 1 D) (q.2+D) (cV groups g)
  (q.1++[⟨d9 (eM q.2 D),d9 (eM (q.2+D) L)⟩],q.2+D+L)
def gX:Nat:=(1+dN l 0 3).toNat
def rows.Spec(C:aQ) (f:Nat):Prop:=∀(t:Tb) (l:Option (List Int)),t.Ok->t.groups=none->C.p f [t.cells] [none,some (aJ aH l)] (I ((dr l (gX l) (gX l)).2:Nat)) none [({t with groups:=some (dr l (gX l) (gX l)).1}:Tb).cells]
theorem Tb.len'(D:t.phases.length=8) (L:t.conflict.length=8) (M:t.dz.length=8):t.cells.length=131:=by
 simp[Tb.cells,aL Ph.len,D,L,M]
theorem Tb.M4(h:t.phases.length=8):t.cells[104]? =some (aJ Gr.cells t.groups):=by
 simp[Tb.cells,aL Ph.len,h]
theorem Tb.M5(h:t.phases.length=8) (g:Option (List Gr)):t.cells.take 104++(aJ Gr.cells g::t.cells.drop 105)=({t with groups:=g}:Tb).cells:=by
 have e:(t.phases.flatMap Ph.cells).length=104:=by rw[aL Ph.len,h]
 simp only[Tb.cells]
 rw[Fd aaN,jp aaN,ww,mn aaN,e]
 rfl
def Rnd(C:aQ) (c:aO) (Q:Exit->S->Prop) (k:S->Prop) (s:S):Prop:=aw C c (jk k Q) s
theorem zz(h:aw C c (jk k Q) s):Rnd C c Q k s:=h
theorem A9{D:S->Prop} (hk:∀s,k s->D s) (h:Rnd C c Q k s):Rnd C c Q D s:=ko (λe s h=>by cases e<;>first|exact hk _ h|exact h) h
theorem TA(h:Rnd C c Q (Rnd C c Q (Rnd C c Q λ_=>False)) s):aw C (.loop c) Q s:=
 gy ⟨3,A9 (λ_ h=>gy (A9 (λ_ h=>gy (A9 (λ_ h=>h.elim) h)) h)) h⟩
theorem jW(p i:Nat):eM p (i+1)=eM p i++[((p+i:Nat):Int)]:=by simp[eM,lL]
theorem Ba(l:Option (List Int)) (G:Nat):∀g,(dr l G g).2<=8
 |0=>by simp[dr]
 |g+1=>by
  have:=Ba l G g
  simp only[dr,br,cV];omega
theorem ye(l:Option (List Int)) (G:Nat):∀g,(dr l G g).1.length=g
 |0=>by simp[dr]
 |g+1=>by
  have:=ye l G g
  simp only[dr,s8,fb,gs];omega
def Cut(D:Exit) (st:α->S) (J:α->Prop) (e:Exit) (s:S):Prop:=e=D/\∃y,J y/\Le s (st y)
theorem d8{L:Exit} {st:α->S} {J:α->Prop} (y:α) (M:J y) (D:Le s (st y)):Cut L st J L s:=⟨rfl,y,M,D⟩
theorem mR{F:S->Prop} (M:Exit) (st:α->S) (J:α->Prop) (hQ:∀D,Q M D=down F D) (V:aw C c (Cut M st J) s) (O:∀y,J y->F (st y)):aw C c Q s:=by
 refine ko ?_ V
 rintro e D ⟨rfl,y,R,L⟩
 rw[hQ];exact nu L (O y R)
theorem Ya:IntKind.i64.wrap (0+1)=1:=by decide
theorem IF:IntKind.i64.wrap (1+1)=2:=by decide
theorem dF:aJ f none=.aU:=rfl
theorem bu(l:List α):aJ f (some l)=.sl (l.map f):=rfl
end
section
variable{P:Program} (hm:P.follows .mixedOrders=true) {f:Nat}
include hm
theorem rows.ok{fF e eR:Nat} (hc:bF P f=some (pT fF e eR)) (hF:from.Spec (Pure P) fF):rows.Spec (Pure P) f:=by
 intro t l ht bm
 have M:=Tb.len ht
 have hp:=Tb.whole ht
 refine Ec hm hc [3,5] rfl rfl rfl ?_;try simp only[I,RX,↓KW,Nat.reduceBEq,Nat.reduceAdd,pT,Z.H]
 have bl:=bt l 0 (n:=3) aaO aaO
 refine af (hF _ _ _ aaO) ?_
 try simp only[I,RX,↓KW,Nat.reduceBEq,Nat.reduceAdd]
 have ba:IntKind.i64.wrap (1+dN l 0 3)=(gX l:Nat):=by
  rw[aY aaN aaN,gX];omega
 have bj:1<=gX l/\gX l<=3:=by unfold gX;omega
 rw[ba];generalize gX l=G at*
 refine aK (λg:Nat=>(⟨[(7,.dat (I g) none),(5,.dat (I G) none),(1,.dat (aJ aH l) none),(6,.dat (I (dr l G g).2) none),(0,.ptr 0 0)],[(0,⟨({t with groups:=d9 (dr l G g).1}:Tb).cells,if(dr l G g).1=[]then[]else[(104,0)]⟩)],bP (dr l G g).1 0 eR,400⟩:S)) (λg=>G-g) (λg=>g<=G) ?_ 0 aaN ?_
 ·intro g hg A back
  have hw:=aD (k:=g) aaN
  have ao:dr l G (g+1)=((dr l G g).1++[⟨d9 (eM (dr l G g).2 (br (cnt l g 0 0) (dr l G g).2 (cV G g))),d9 (eM ((dr l G g).2+br (cnt l g 0 0) (dr l G g).2 (cV G g)) (br (cnt l g 1 (br (cnt l g 0 0) (dr l G g).2 (cV G g))) ((dr l G g).2+br (cnt l g 0 0) (dr l G g).2 (cV G g)) (cV G g)))⟩],(dr l G g).2+br (cnt l g 0 0) (dr l G g).2 (cV G g)+br (cnt l g 1 (br (cnt l g 0 0) (dr l G g).2 (cV G g))) ((dr l G g).2+br (cnt l g 0 0) (dr l G g).2 (cV G g)) (cV G g)):=rfl
  have a2:(dr l G g).2<=8:=Ba l G g
  have ag:(dr l G g).1.length=g:=ye l G g
  generalize hR:dr l G g=R at*;obtain⟨O,p⟩:=R;simp only at ao a2 ag
  have a4:dN l (1+2*(g:Int)+0) 3=(cnt l g 0 0:Nat):=by
   have:=bt l (1+2*(g:Int)+0) (n:=3) aaO aaO
   have hc:cnt l g 0 0=(dN l (1+2*(g:Int)+0) 3).toNat:=by simp[cnt]
   rw[hc];omega
  have a9:IntKind.i64.wrap (IntKind.i64.wrap (1+IntKind.i64.wrap (2*(g:Int)))+0)=1+2*(g:Int)+0:=by
   rw[aY (n:=2*(g:Int)) aaN aaN,aY (n:=1+2*(g:Int)) aaN aaN,aY aaN aaN]
  have a6:IntKind.i64.wrap (IntKind.i64.wrap (1+IntKind.i64.wrap (2*(g:Int)))+1)=1+2*(g:Int)+1:=by
   rw[aY (n:=2*(g:Int)) aaN aaN,aY (n:=1+2*(g:Int)) aaN aaN,aY aaN aaN]
  have V:IntKind.i64.wrap (8-IntKind.i64.wrap (IntKind.i64.wrap ((G:Int)-1)-(g:Int)))=if g<G then((cV G g:Nat):Int)else(8-((G:Int)-1-g):Int):=by
   rw[aY (n:=(G:Int)-1) aaN aaN,aY (n:=(G:Int)-1-g) aaN aaN,aY aaN aaN]
   split<;>simp[cV]<;>omega
  by_cases D:O=[]
  all_goals
   try simp only[I,RX,↓KW,Nat.reduceBEq,Nat.reduceAdd,D,bP,d9]
   refine az (λh=>?_) (λh=>?_)<;>try simp only[RX,↓KW,Nat.reduceBEq,Nat.reduceAdd,h]
   ·have a3:g<G:=by have:=dT h;omega
    rw[ib a3]at V;generalize bd:cnt l g 0 0=n0 at*
    refine mR (.exit 2) (λ_:Unit=>(⟨[(6,.dat (I (p+br n0 p (cV G g)+br (cnt l g 1 (br n0 p (cV G g))) (p+br n0 p (cV G g)) (cV G g):Nat)) none),(5,.dat (I G) none),(7,.dat (I g) none),(8,.ptr 403 0),(1,.dat (aJ aH l) none),(0,.ptr 0 0)],[(403,⟨[aJ aH (d9 (eM p (br n0 p (cV G g)))),aJ aH (d9 (eM (p+br n0 p (cV G g)) (br (cnt l g 1 (br n0 p (cV G g))) (p+br n0 p (cV G g)) (cV G g))))],[]⟩),(0,⟨({t with groups:=d9 O}:Tb).cells,if O=[]then[]else[(104,0)]⟩)],bP O 0 eR,1000⟩:S)) (λ_=>True) (λ_=>rfl) ?_ ?_
    ·refine TA (zz ?_)
     try simp only[I,RX,↓KW,Nat.reduceBEq,Nat.reduceAdd,Int.reduceLT,D]
     refine af (hF _ _ _ aaO) ?_
     try simp only[I,RX,↓KW,Nat.reduceBEq,Nat.reduceAdd,Int.reduceBEq,a9,a4]
     refine mR (.exit 4) (λ_:Unit=>(⟨[(9,.dat (I 0) none),(6,.dat (I (p+br n0 (p) (cV G g):Nat)) none),(5,.dat (I G) none),(7,.dat (I g) none),(8,.ptr 403 0),(1,.dat (aJ aH l) none),(0,.ptr 0 0)],[(403,⟨[aJ aH (d9 (eM (p) (br n0 (p) (cV G g)))),.aU],[]⟩),(0,⟨({t with groups:=d9 O}:Tb).cells,if O=[]then[]else[(104,0)]⟩)],bP O 0 eR,1000⟩:S)) (λ_=>True) (λ_=>rfl) ?_ ?_
     ·refine aK (λi:Nat=>(⟨[(11,.dat (I i) none),(10,.dat (I n0) none),(6,.dat (I (p+i:Nat)) none),(5,.dat (I G) none),(7,.dat (I g) none),(9,.dat (I 0) none),(8,.ptr 403 0),(1,.dat (aJ aH l) none),(0,.ptr 0 0)],[(403,⟨[aJ aH (d9 (eM (p) i)),.aU],if eM (p) i=[]then[]else[(0,1)]⟩),(0,⟨({t with groups:=d9 O}:Tb).cells,if O=[]then[]else[(104,0)]⟩)],bP (eM (p) i) 1 e++bP O 0 eR,1000⟩:S)) (λi=>br n0 (p) (cV G g)-i) (λi=>i<=br n0 (p) (cV G g)) ?_ 0 aaN ?_
      ·intro i hi A1 L
       have ak:br n0 (p) (cV G g)<=8:=by simp only[br,cV];omega
       have ab:=aD (k:=i) aaN
       have hf:br n0 (p) (cV G g)=min n0 (cV G g-(p)):=rfl
       have aa:IntKind.i64.wrap (((p+i:Nat):Int)+1)=((p+(i+1):Nat):Int):=by rw[aY aaN aaN];omega
       have al:(eM (p) i).length=i:=by simp[eM]
       by_cases M:eM (p) i=[]
       ·try simp only[I,RX,↓KW,Nat.reduceBEq,Nat.reduceAdd,M,bP,d9,D]
        repeat' (((first|refine bg ?_ ?_|refine az ?_ ?_|refine bz ?_ ?_)<;>intro h)<;>try simp only[RX,↓KW,Nat.reduceBEq,Nat.reduceAdd,Nat.reduceLeDiff,reduceCtorEq,Nat.reduceMul,Int.reduceLE,Int.reduceToNat,dF,V,aa,h])
        ·have h1:=dT h
         refine⟨aaO,?_⟩
         refine⟨aaO,?_⟩
         have h2:(i:Int)<n0:=by rename_i h2;exact dT h2
         refine L (i+1) _ aaN aaN (ai aaO ?_ ?_ ?_ ?_)<;>simp[LX,I,ab,jW,M,d9,bu,D]
        ·have h1:=dE h
         have:i=br n0 (p) (cV G g):=aaN
         rw[<-this];refine d8 () trivial ?_
         refine ai aaO ?_ ?_ ?_ ?_<;>simp[LX,M,dF]
        ·have h1:=dE h
         have:i=br n0 (p) (cV G g):=aaN
         rw[<-this];refine d8 () trivial ?_
         refine ai aaO ?_ ?_ ?_ ?_<;>simp[LX,M,dF]
       ·try simp only[I,RX,↓KW,Nat.reduceBEq,Nat.reduceAdd,M,bP,d9,D]
        repeat' (((first|refine bg ?_ ?_|refine az ?_ ?_|refine bz ?_ ?_)<;>intro h)<;>try simp only[RX,↓KW,Nat.reduceBEq,Nat.reduceAdd,Nat.reduceLeDiff,Int.reduceLE,Int.reduceToNat,bu,V,aa,h])
        ·have h1:=dT h
         refine⟨aaO,aaN,aaO,?_⟩
         have h2:(i:Int)<n0:=by rename_i h2;exact dT h2
         refine L (i+1) _ aaN aaN (ai aaO ?_ ?_ ?_ ?_)<;>simp[LX,I,ab,jW,M,d9,bu,D]
        ·have h1:=dE h
         have:i=br n0 (p) (cV G g):=aaN
         rw[<-this];refine d8 () trivial ?_
         refine ai aaO ?_ ?_ ?_ ?_<;>simp[LX,M,bu]
        ·have h1:=dE h
         have:i=br n0 (p) (cV G g):=aaN
         rw[<-this];refine d8 () trivial ?_
         refine ai aaO ?_ ?_ ?_ ?_<;>simp[LX,M,bu]
      ·refine ai aaO ?_ ?_ ?_ ?_<;>simp[LX,I,eM,d9,dF,D]
     ·intro _ _
      generalize a7:br n0 p (cV G g)=m0 at*
      have am:(d9 (eM p m0)).getD []=eM p m0:=ez _
      have au:(eM p m0).length=m0:=by simp[eM]
      have bo:m0<=8:=by rw[<-a7];simp only[br,cV];omega
      try simp only[I,RX,↓KW,Nat.reduceBEq,Nat.reduceAdd,D]
      refine zz ?_;try simp only[RX,↓KW,Nat.reduceBEq,Nat.reduceAdd,Int.reduceLT,Ya]
      refine af (hF _ _ _ aaO) ?_
      try simp only[I,RX,↓KW,Nat.reduceBEq,Nat.reduceAdd,Int.reduceBEq,a6]
      have be:=bt l (1+2*(g:Int)+1) (n:=3) aaO aaO
      have ae:cnt l g 1 m0=if(dN l (1+2*(g:Int)+1) 3).toNat=0/\m0=0 then 1 else(dN l (1+2*(g:Int)+1) 3).toNat:=by simp[cnt]
      generalize dN l (1+2*(g:Int)+1) 3=fr1 at*;generalize bi:cnt l g 1 m0=n1 at*
      repeat' (((first|refine bg ?_ ?_|refine az ?_ ?_|refine bz ?_ ?_)<;>intro h)<;>try simp only[RX,↓KW,Nat.reduceBEq,Nat.reduceAdd,Int.reduceLE,Int.reduceToNat,am,au,h])
      ·have an:fr1=0:=by simpa using h
       refine⟨aaO,?_⟩
       refine az (λhz=>?_) (λhz=>?_)<;>try simp only[RX,↓KW,Nat.reduceAdd,hz]
       ·have hz:m0=0:=by simpa using hz
        have ac:(n1:Int)=1:=by rw[ae,ib ⟨aaN,hz⟩];rfl
        refine mR (.exit 4) (λ_:Unit=>(⟨[(9,.dat (I 1) none),(6,.dat (I (p+m0+br n1 (p+m0) (cV G g):Nat)) none),(5,.dat (I G) none),(7,.dat (I g) none),(8,.ptr 403 0),(1,.dat (aJ aH l) none),(0,.ptr 0 0)],[(403,⟨[aJ aH (d9 (eM p m0)),aJ aH (d9 (eM (p+m0) (br n1 (p+m0) (cV G g))))],[]⟩),(0,⟨({t with groups:=d9 O}:Tb).cells,if O=[]then[]else[(104,0)]⟩)],bP O 0 eR,1000⟩:S)) (λ_=>True) (λ_=>rfl) ?_ ?_
        ·refine aK (λi:Nat=>(⟨[(11,.dat (I i) none),(10,.dat (I n1) none),(6,.dat (I (p+m0+i:Nat)) none),(5,.dat (I G) none),(7,.dat (I g) none),(9,.dat (I 1) none),(8,.ptr 403 0),(1,.dat (aJ aH l) none),(0,.ptr 0 0)],[(403,⟨[aJ aH (d9 (eM p m0)),aJ aH (d9 (eM (p+m0) i))],if eM (p+m0) i=[]then[]else[(1,1)]⟩),(0,⟨({t with groups:=d9 O}:Tb).cells,if O=[]then[]else[(104,0)]⟩)],bP (eM (p+m0) i) 1 e++bP O 0 eR,1000⟩:S)) (λi=>br n1 (p+m0) (cV G g)-i) (λi=>i<=br n1 (p+m0) (cV G g)) ?_ 0 aaN ?_
         ·intro i hi A1 L
          have ak:br n1 (p+m0) (cV G g)<=8:=by simp only[br,cV];omega
          have ab:=aD (k:=i) aaN
          have hf:br n1 (p+m0) (cV G g)=min n1 (cV G g-(p+m0)):=rfl
          have aa:IntKind.i64.wrap (((p+m0+i:Nat):Int)+1)=((p+m0+(i+1):Nat):Int):=by rw[aY aaN aaN];omega
          have al:(eM (p+m0) i).length=i:=by simp[eM]
          by_cases M:eM (p+m0) i=[]
          ·try simp only[I,RX,↓KW,Nat.reduceBEq,Nat.reduceAdd,M,bP,d9,D]
           repeat' (((first|refine bg ?_ ?_|refine az ?_ ?_|refine bz ?_ ?_)<;>intro h)<;>try simp only[RX,↓KW,Nat.reduceBEq,Nat.reduceAdd,Nat.reduceLeDiff,reduceCtorEq,Nat.reduceMul,Int.reduceLE,Int.reduceToNat,dF,V,aa,h])
           ·have h1:=dT h
            refine⟨aaO,?_⟩
            refine⟨aaO,?_⟩
            have h2:(i:Int)<n1:=by rename_i h2;exact dT h2
            refine L (i+1) _ aaN aaN (ai aaO ?_ ?_ ?_ ?_)<;>simp[LX,I,ab,jW,M,d9,bu,D]
           ·have h1:=dE h
            have:i=br n1 (p+m0) (cV G g):=aaN
            rw[<-this];refine d8 () trivial ?_
            refine ai aaO ?_ ?_ ?_ ?_<;>simp[LX,M,dF]
           ·have h1:=dE h
            have:i=br n1 (p+m0) (cV G g):=aaN
            rw[<-this];refine d8 () trivial ?_
            refine ai aaO ?_ ?_ ?_ ?_<;>simp[LX,M,dF]
          ·try simp only[I,RX,↓KW,Nat.reduceBEq,Nat.reduceAdd,M,bP,d9,D]
           repeat' (((first|refine bg ?_ ?_|refine az ?_ ?_|refine bz ?_ ?_)<;>intro h)<;>try simp only[RX,↓KW,Nat.reduceBEq,Nat.reduceAdd,Int.reduceLE,Int.reduceToNat,bu,V,aa,h])
           ·have h1:=dT h
            refine⟨aaO,aaN,aaO,?_⟩
            have h2:(i:Int)<n1:=by rename_i h2;exact dT h2
            refine L (i+1) _ aaN aaN (ai aaO ?_ ?_ ?_ ?_)<;>simp[LX,I,ab,jW,M,d9,bu,D]
           ·have h1:=dE h
            have:i=br n1 (p+m0) (cV G g):=aaN
            rw[<-this];refine d8 () trivial ?_
            refine ai aaO ?_ ?_ ?_ ?_<;>simp[LX,M,bu]
           ·have h1:=dE h
            have:i=br n1 (p+m0) (cV G g):=aaN
            rw[<-this];refine d8 () trivial ?_
            refine ai aaO ?_ ?_ ?_ ?_<;>simp[LX,M,bu]
         ·refine ai aaO ?_ ?_ ?_ ?_<;>simp[LX,I,eM,d9,dF,D,ac]
        ·intro _ _
         try simp only[I,RX,↓KW,Nat.reduceBEq,Nat.reduceAdd,D,d9]
         refine zz ?_;try simp only[RX,↓KW,Nat.reduceBEq,Nat.reduceAdd,Int.reduceLT,IF]
         refine d8 () trivial ?_
         refine ai aaO ?_ ?_ ?_ ?_<;>simp[LX,D]
       ·have hz:¬m0=0:=by simpa using hz
        have ac:fr1=(n1:Int):=by rw[ae,ge (λhh=>hz hh.2)];omega
        refine mR (.exit 4) (λ_:Unit=>(⟨[(9,.dat (I 1) none),(6,.dat (I (p+m0+br n1 (p+m0) (cV G g):Nat)) none),(5,.dat (I G) none),(7,.dat (I g) none),(8,.ptr 403 0),(1,.dat (aJ aH l) none),(0,.ptr 0 0)],[(403,⟨[aJ aH (d9 (eM p m0)),aJ aH (d9 (eM (p+m0) (br n1 (p+m0) (cV G g))))],[]⟩),(0,⟨({t with groups:=d9 O}:Tb).cells,if O=[]then[]else[(104,0)]⟩)],bP O 0 eR,1000⟩:S)) (λ_=>True) (λ_=>rfl) ?_ ?_
        ·refine aK (λi:Nat=>(⟨[(11,.dat (I i) none),(10,.dat (I n1) none),(6,.dat (I (p+m0+i:Nat)) none),(5,.dat (I G) none),(7,.dat (I g) none),(9,.dat (I 1) none),(8,.ptr 403 0),(1,.dat (aJ aH l) none),(0,.ptr 0 0)],[(403,⟨[aJ aH (d9 (eM p m0)),aJ aH (d9 (eM (p+m0) i))],if eM (p+m0) i=[]then[]else[(1,1)]⟩),(0,⟨({t with groups:=d9 O}:Tb).cells,if O=[]then[]else[(104,0)]⟩)],bP (eM (p+m0) i) 1 e++bP O 0 eR,1000⟩:S)) (λi=>br n1 (p+m0) (cV G g)-i) (λi=>i<=br n1 (p+m0) (cV G g)) ?_ 0 aaN ?_
         ·intro i hi A1 L
          have ak:br n1 (p+m0) (cV G g)<=8:=by simp only[br,cV];omega
          have ab:=aD (k:=i) aaN
          have hf:br n1 (p+m0) (cV G g)=min n1 (cV G g-(p+m0)):=rfl
          have aa:IntKind.i64.wrap (((p+m0+i:Nat):Int)+1)=((p+m0+(i+1):Nat):Int):=by rw[aY aaN aaN];omega
          have al:(eM (p+m0) i).length=i:=by simp[eM]
          by_cases M:eM (p+m0) i=[]
          ·try simp only[I,RX,↓KW,Nat.reduceBEq,Nat.reduceAdd,M,bP,d9,D]
           repeat' (((first|refine bg ?_ ?_|refine az ?_ ?_|refine bz ?_ ?_)<;>intro h)<;>try simp only[RX,↓KW,Nat.reduceBEq,Nat.reduceAdd,Nat.reduceLeDiff,reduceCtorEq,Nat.reduceMul,Int.reduceLE,Int.reduceToNat,dF,V,aa,h])
           ·have h1:=dT h
            refine⟨aaO,?_⟩
            refine⟨aaO,?_⟩
            have h2:(i:Int)<n1:=by rename_i h2;exact dT h2
            refine L (i+1) _ aaN aaN (ai aaO ?_ ?_ ?_ ?_)<;>simp[LX,I,ab,jW,M,d9,bu,D]
           ·have h1:=dE h
            have:i=br n1 (p+m0) (cV G g):=aaN
            rw[<-this];refine d8 () trivial ?_
            refine ai aaO ?_ ?_ ?_ ?_<;>simp[LX,M,dF]
           ·have h1:=dE h
            have:i=br n1 (p+m0) (cV G g):=aaN
            rw[<-this];refine d8 () trivial ?_
            refine ai aaO ?_ ?_ ?_ ?_<;>simp[LX,M,dF]
          ·try simp only[I,RX,↓KW,Nat.reduceBEq,Nat.reduceAdd,M,bP,d9,D]
           repeat' (((first|refine bg ?_ ?_|refine az ?_ ?_|refine bz ?_ ?_)<;>intro h)<;>try simp only[RX,↓KW,Nat.reduceBEq,Nat.reduceAdd,Int.reduceLE,Int.reduceToNat,bu,V,aa,h])
           ·have h1:=dT h
            refine⟨aaO,aaN,aaO,?_⟩
            have h2:(i:Int)<n1:=by rename_i h2;exact dT h2
            refine L (i+1) _ aaN aaN (ai aaO ?_ ?_ ?_ ?_)<;>simp[LX,I,ab,jW,M,d9,bu,D]
           ·have h1:=dE h
            have:i=br n1 (p+m0) (cV G g):=aaN
            rw[<-this];refine d8 () trivial ?_
            refine ai aaO ?_ ?_ ?_ ?_<;>simp[LX,M,bu]
           ·have h1:=dE h
            have:i=br n1 (p+m0) (cV G g):=aaN
            rw[<-this];refine d8 () trivial ?_
            refine ai aaO ?_ ?_ ?_ ?_<;>simp[LX,M,bu]
         ·refine ai aaO ?_ ?_ ?_ ?_<;>simp[LX,I,eM,d9,dF,D,ac]
        ·intro _ _
         try simp only[I,RX,↓KW,Nat.reduceBEq,Nat.reduceAdd,D,d9]
         refine zz ?_;try simp only[RX,↓KW,Nat.reduceBEq,Nat.reduceAdd,Int.reduceLT,IF]
         refine d8 () trivial ?_
         refine ai aaO ?_ ?_ ?_ ?_<;>simp[LX,D]
      ·have an:¬fr1=0:=by simpa using h
       have ac:fr1=(n1:Int):=by rw[ae,ge (λhh=>an aaN)];omega
       refine mR (.exit 4) (λ_:Unit=>(⟨[(9,.dat (I 1) none),(6,.dat (I (p+m0+br n1 (p+m0) (cV G g):Nat)) none),(5,.dat (I G) none),(7,.dat (I g) none),(8,.ptr 403 0),(1,.dat (aJ aH l) none),(0,.ptr 0 0)],[(403,⟨[aJ aH (d9 (eM p m0)),aJ aH (d9 (eM (p+m0) (br n1 (p+m0) (cV G g))))],[]⟩),(0,⟨({t with groups:=d9 O}:Tb).cells,if O=[]then[]else[(104,0)]⟩)],bP O 0 eR,1000⟩:S)) (λ_=>True) (λ_=>rfl) ?_ ?_
       ·refine aK (λi:Nat=>(⟨[(11,.dat (I i) none),(10,.dat (I n1) none),(6,.dat (I (p+m0+i:Nat)) none),(5,.dat (I G) none),(7,.dat (I g) none),(9,.dat (I 1) none),(8,.ptr 403 0),(1,.dat (aJ aH l) none),(0,.ptr 0 0)],[(403,⟨[aJ aH (d9 (eM p m0)),aJ aH (d9 (eM (p+m0) i))],if eM (p+m0) i=[]then[]else[(1,1)]⟩),(0,⟨({t with groups:=d9 O}:Tb).cells,if O=[]then[]else[(104,0)]⟩)],bP (eM (p+m0) i) 1 e++bP O 0 eR,1000⟩:S)) (λi=>br n1 (p+m0) (cV G g)-i) (λi=>i<=br n1 (p+m0) (cV G g)) ?_ 0 aaN ?_
        ·intro i hi A1 L
         have ak:br n1 (p+m0) (cV G g)<=8:=by simp only[br,cV];omega
         have ab:=aD (k:=i) aaN
         have hf:br n1 (p+m0) (cV G g)=min n1 (cV G g-(p+m0)):=rfl
         have aa:IntKind.i64.wrap (((p+m0+i:Nat):Int)+1)=((p+m0+(i+1):Nat):Int):=by rw[aY aaN aaN];omega
         have al:(eM (p+m0) i).length=i:=by simp[eM]
         by_cases M:eM (p+m0) i=[]
         ·try simp only[I,RX,↓KW,Nat.reduceBEq,Nat.reduceAdd,M,bP,d9,D]
          repeat' (((first|refine bg ?_ ?_|refine az ?_ ?_|refine bz ?_ ?_)<;>intro h)<;>try simp only[RX,↓KW,Nat.reduceBEq,Nat.reduceAdd,Nat.reduceLeDiff,reduceCtorEq,Nat.reduceMul,Int.reduceLE,Int.reduceToNat,dF,V,aa,h])
          ·have h1:=dT h
           refine⟨aaO,?_⟩
           refine⟨aaO,?_⟩
           have h2:(i:Int)<n1:=by rename_i h2;exact dT h2
           refine L (i+1) _ aaN aaN (ai aaO ?_ ?_ ?_ ?_)<;>simp[LX,I,ab,jW,M,d9,bu,D]
          ·have h1:=dE h
           have:i=br n1 (p+m0) (cV G g):=aaN
           rw[<-this];refine d8 () trivial ?_
           refine ai aaO ?_ ?_ ?_ ?_<;>simp[LX,M,dF]
          ·have h1:=dE h
           have:i=br n1 (p+m0) (cV G g):=aaN
           rw[<-this];refine d8 () trivial ?_
           refine ai aaO ?_ ?_ ?_ ?_<;>simp[LX,M,dF]
         ·try simp only[I,RX,↓KW,Nat.reduceBEq,Nat.reduceAdd,M,bP,d9,D]
          repeat' (((first|refine bg ?_ ?_|refine az ?_ ?_|refine bz ?_ ?_)<;>intro h)<;>try simp only[RX,↓KW,Nat.reduceBEq,Nat.reduceAdd,Int.reduceLE,Int.reduceToNat,bu,V,aa,h])
          ·have h1:=dT h
           refine⟨aaO,aaN,aaO,?_⟩
           have h2:(i:Int)<n1:=by rename_i h2;exact dT h2
           refine L (i+1) _ aaN aaN (ai aaO ?_ ?_ ?_ ?_)<;>simp[LX,I,ab,jW,M,d9,bu,D]
          ·have h1:=dE h
           have:i=br n1 (p+m0) (cV G g):=aaN
           rw[<-this];refine d8 () trivial ?_
           refine ai aaO ?_ ?_ ?_ ?_<;>simp[LX,M,bu]
          ·have h1:=dE h
           have:i=br n1 (p+m0) (cV G g):=aaN
           rw[<-this];refine d8 () trivial ?_
           refine ai aaO ?_ ?_ ?_ ?_<;>simp[LX,M,bu]
        ·refine ai aaO ?_ ?_ ?_ ?_<;>simp[LX,I,eM,d9,dF,D,ac]
       ·intro _ _
        try simp only[I,RX,↓KW,Nat.reduceBEq,Nat.reduceAdd,D,d9]
        refine zz ?_;try simp only[RX,↓KW,Nat.reduceBEq,Nat.reduceAdd,Int.reduceLT,IF]
        refine d8 () trivial ?_
        refine ai aaO ?_ ?_ ?_ ?_<;>simp[LX,D]
    ·intro _ _
     have ar:=Tb.M4 (t:={t with groups:=d9 O}) ht.phases
     have a8:=Tb.len' (t:={t with groups:=d9 O}) ht.phases ht.conflict ht.dz
     have ad:=Tb.M5 (t:={t with groups:=d9 O}) ht.phases (some (O++[⟨d9 (eM p (br n0 p (cV G g))),d9 (eM (p+br n0 p (cV G g)) (br (cnt l g 1 (br n0 p (cV G g))) (p+br n0 p (cV G g)) (cV G g)))⟩]))
     simp only[D,d9,kv,il]at ar a8 ad;try simp only[I,RX,↓KW,Nat.reduceBEq,Nat.reduceAdd,Nat.reduceLeDiff,reduceCtorEq,Nat.reduceMul,ar,dF,bu,Gr.len,ag,D,d9]
     try refine⟨aaN,?_⟩
     try refine⟨by simp[bP,D,dJ],?_⟩
     try refine⟨aaN,?_⟩
     simp[bu,Gr.cells]at ad
     refine back (g+1) _ aaN aaN (ai aaO ?_ ?_ ?_ ?_)<;>simp[LX,I,ao,hw,D,d9,ad]
     trace_state
   ·have a5:g=G:=by have:=dE h;omega
    subst a5
    first
     |(exfalso;rw[D]at ag;simp at ag;omega)
     |exact⟨by rw[hR],by rw[hR]⟩
 ·have:({t with groups:=none}:Tb)=t:=by cases t;simp_all
  refine ai aaO ?_ ?_ ?_ ?_<;>simp[LX,I,dr,d9,this]
end
end Go.Eng
