/- Part 11 of the engine and its library. -/
import Derived.Test.YtdfplndcbbofjaaGreatPk10
set_option linter.all false
set_option maxRecDepth 10000
set_option maxHeartbeats 4000000
namespace Go.Eng
open Go
section
variable (t:Tb) (C:aY) {α:Type} (f:Nat) (g k p:Int)
def mJ:Int:=iK ((dM (oS t)).map λp=>ku [(aO t p).eZ,(aO t p).red])
def clear.Spec:Prop:=∀(t:Tb),t.Ok->C.c f [.agg t.cells] (I (mJ t)) none
def lF:Int:=if pM (oS t) p then ku [iK [ju (aO t p).min,ku [(aO t p).walk,(aO t p).fc],ju (aO t p).top],t.extend,(aO t p).eZ,(aO t p).red,t.revert,8]else 0
def serve.Spec:Prop:=∀(t:Tb) (p:Int),t.Ok->C.c f [.agg t.cells,I p] (I (lF t p)) none
def iu(n:Nat):List Int:=8::(((aS t).take n).filter (λx=>x.group==g)).map (λx=>lF t x.p)
def oT:Int:=if g<0\/((t.groups.getD []).length:Int)<=g then 0 else ku (iu t g (aS t).length)
def pass.Spec:Prop:=∀(t:Tb) (g:Int),t.Ok->C.c f [.agg t.cells,I g] (I (oT t g)) none
def qn:Int:=if(az t p).2&&pM (oS t) p then ku (oT t (az t p).1.group::(List.range (t.groups.getD []).length).map λ(g:Nat)=>oT t g)else 0
def free.Spec:Prop:=∀(t:Tb) (p:Int),t.Ok->C.c f [.agg t.cells,I p] (I (qn t p)) none
def yp:Rl:=(t.aV.getD []).getD k.toNat default
def rW:Int:=if k<0\/((t.aV.getD []).length:Int)<=k then 0 else
 ku [(yp t k).delay,(yp t k).hold,(yp t k).green,(yp t k).green,(yp t k).dZ,(yp t k).dZ,(yp t k).dZ,mJ t,mJ t,mJ t,mJ t,mJ t,t.revert,t.revert,t.revert,60]
def entry.Spec:Prop:=∀(t:Tb) (k:Int),t.Ok->C.c f [.agg t.cells,I k] (I (rW t k)) none
theorem Ej{s p:Int} (h:pM s p=true):0<=p/\p<8:=by
 simp only[pM,ed,gc]at h;exact h.1
theorem Cr{s p:Int} (h:p∈dM s):0<=p/\p<8:=Ej (px.1 h).2
theorem jV(s:Int):(dM s).length<=8:=by
 have:=pc (pM s) ((List.range 8).map λ(k:Nat)=>(k:Int))
 simpa[dM]using this
theorem aT(l:List α):(dJ l).getD []=l:=by unfold dJ;split<;>simp_all
theorem wR{β:Type} {f:α->β} {l:List α} {i:Nat} {x:α} (h:l[i]? =some x):(l.take (i+1)).map f=(l.take i).map f++[f x]:=by rw[eO h];simp
theorem Jv{t:Tb} {g:Int} {k:Nat} {x:Sp} (h:(aS t)[k]? =some x):iu t g (k+1)=if x.group==g then iu t g k++[lF t x.p]else iu t g k:=by
 unfold iu;rw[eO h,rf,my]
 by_cases A:x.group==g<;>simp[A]
theorem Ek(k:Nat):(iu t g k).length<=k+1:=by
 have:=pc (λx:Sp=>x.group==g) ((aS t).take k)
 have A:((aS t).take k).length<=k:=List.length_take_le _ _
 simp only[iu,eW,mt];omega
end
section
variable{P:Program} (hm:P.follows .mixedOrders=true) {f:Nat}
include hm
theorem clear.ok{fO fL e fS fM:Nat} (hc:bu P f=some (ug fO fL e fS fM)) (hO:on.Spec (Pure P) fO) (hL:gE.Spec (Pure P) fL e) (hS:zB.Spec (Pure P) fS) (hM:most.Spec (Pure P) fM):clear.Spec (Pure P) f:=by
 intro t ht
 have hp:=Tb.whole ht
 refine aj hm hc [] rfl ?_;try simp only[I,RX,↓KW,seval,ug,Z.H,hp]
 refine af (hO t ht) ?_;try simp only[I,RX,↓KW,seval]
 refine af (hL _ none (.inl rfl)) ?_;try simp only[RX,↓KW,seval]
 have ad:=jV (oS t)
 have ab:=@Cr (oS t)
 have O:∀G,G=(dM (oS t)).map (λp=>ku [(aO t p).eZ,(aO t p).red])->mJ t=iK G:=λG h=>by rw[h];rfl
 generalize dM (oS t)=L at*
 generalize hF:(λp=>ku [(aO t p).eZ,(aO t p).red])=F at*
 have aa:∀p,F p=ku [(aO t p).eZ,(aO t p).red]:=λp=>by rw[<-hF]
 have ac:=aT L
 refine aD (λk:Nat=>(⟨[(10,.dat (I k) none),(9,.dat (I L.length) none),(8,.dat (aI aC (dJ L)) none),(1,.ptr 4 0),(3,aZ aC ((L.take k).map F) 0)],[(4,⟨t.cells,[]⟩)],bA ((L.take k).map F) 0 e,400⟩:S)) (λk=>L.length-k) (λk=>k<=L.length) ?_ 0 ST ?_
 ·intro k hk A back
  have hw:=aA (k:=k) ST
  by_cases hl:(L.take k).map F=[]
  all_goals
   try simp only[I,RX,↓KW,seval,aZ,bA,hl]
   refine aB (λh=>?_) (λh=>?_)<;>try simp only[RX,↓KW,seval,ac,h]
  ·have V:k<L.length:=by have:=dC h;omega
   obtain⟨x,R⟩:∃x,L[k]? =some x:=⟨_,dT V⟩
   have hn:=wR (f:=F) R
   have M:=ab (em R)
   have E:=Tb.HJ ht M.1 M.2
   refine⟨ST,?_⟩
   try simp only[I,RX,↓KW,seval,R,aC]
   refine⟨ST,?_⟩
   try simp only[I,RX,↓KW,seval,E]
   refine⟨ST,?_⟩
   try simp only[I,B,D,RX,↓KW,seval,E]
   refine af (hS (some [(aO t x).eZ,(aO t x).red]) TB) ?_
   try simp only[I,RX,↓KW,seval]
   refine back (k+1) _ ST ST (ai Ts ?_ ?_ ?_ ?_)<;>simp[LX,I,hn,hl,hw,aa]
  ·have:k=L.length:=by have:=dE h;omega
   subst this;try simp only[I,B,D,RX,↓KW,seval]
   rw[gn]at hl
   refine af (hM none TB) ?_
   try simp only[I,RX,↓KW,seval]
   simp[O _ rfl,hl]
  ·have V:k<L.length:=by have:=dC h;omega
   obtain⟨x,R⟩:∃x,L[k]? =some x:=⟨_,dT V⟩
   have hn:=wR (f:=F) R
   have M:=ab (em R)
   have E:=Tb.HJ ht M.1 M.2
   refine⟨ST,?_⟩
   try simp only[I,RX,↓KW,seval,R,aC]
   refine⟨ST,?_⟩
   try simp only[I,RX,↓KW,seval,E]
   refine⟨ST,?_⟩
   try simp only[I,B,D,RX,↓KW,seval,E]
   refine af (hS (some [(aO t x).eZ,(aO t x).red]) TB) ?_
   try simp only[I,RX,↓KW,seval]
   refine⟨by simp;omega,?_⟩
   refine back (k+1) _ ST ST (ai Ts ?_ ?_ ?_ ?_)<;>simp[LX,I,hn,hw,aa]
  ·have:k=L.length:=by have:=dE h;omega
   subst this;rw[gn]at*;try simp only[I,B,D,RX,↓KW,seval]
   refine af (hM (some (L.map F)) (by simp;omega)) ?_
   try simp only[I,RX,↓KW,seval]
   simp[O _ rfl]
 ·refine ai Ts ?_ ?_ ?_ ?_<;>simp[LX,I,ac]
theorem serve.ok{fO fH fC e V R:Nat} (hc:bu P f=some (nY fO fH fC e V R)) (hO:on.Spec (Pure P) fO) (hH:jm.Spec (Pure P) fH) (hC:Cap.Spec (Pure P) fC) (hS:zB.Spec (Pure P) V) (hM:most.Spec (Pure P) R):serve.Spec (Pure P) f:=by
 intro t p L
 have hp:=Tb.whole L
 have A:=Tb.tail_at L
 have D:=A 0 ST
 have E:=A 3 ST
 refine aj hm hc [] rfl ?_;try simp only[I,RX,↓KW,seval,nY,Z.H,hp]
 refine af (hO t L) ?_;try simp only[I,RX,↓KW,seval]
 refine af (hH _ _) ?_;try simp only[B,RX,↓KW,seval]
 by_cases h:pM (oS t) p=true
 ·have hr:=Ej h
  have O:=Tb.QV L hr.1 hr.2
  have M:lF t p=ku [iK [ju (aO t p).min,ku [(aO t p).walk,(aO t p).fc],ju (aO t p).top],t.extend,(aO t p).eZ,(aO t p).red,t.revert,8]:=et h
  generalize aO t p=x at*;try simp only[RX,↓KW,seval,h]
  refine⟨ST,?_⟩
  try simp only[I,B,RX,↓KW,seval,O,Ph.cells,eN]
  refine af (hC _) ?_;try simp only[I,RX,↓KW,seval]
  refine af (hS (some [x.walk,x.fc]) TB) ?_
  try simp only[I,RX,↓KW,seval]
  refine af (hC _) ?_;try simp only[I,RX,↓KW,seval]
  refine af (hM (some [_,_,_]) TB) ?_
  try simp only[I,RX,↓KW,seval,D,E]
  refine af (hS (some [_,_,_,_,_,_]) TB) ?_
  try simp only[I,RX,↓KW,seval,M]
  rfl
 ·have M:lF t p=0:=ek h
  simp only[xi]at h;try simp only[RX,↓KW,seval,h,M]
theorem pass.ok{e fS fV fs e':Nat} (hc:bu P f=some (pL e fS fV fs)) (hS:aS.Spec (Pure P) fS e') (hV:serve.Spec (Pure P) fV) (hs:zB.Spec (Pure P) fs):pass.Spec (Pure P) f:=by
 intro t g M
 have hl:=Tb.len M
 have hp:=Tb.whole M
 have hg:=Tb.jT M
 refine aj hm hc [] rfl ?_;try simp only[I,RX,↓KW,seval,pL,Z.H]
 by_cases h0:g<0\/((t.groups.getD []).length:Int)<=g
 ·have O:oT t g=0:=et h0
  repeat' (((first|refine bn ?_ ?_|refine aB ?_ ?_|refine bM ?_ ?_)<;>intro h)<;>try simp only[RX,↓KW,seval,hg,O,h])
  simp_all;omega
 ·have O:oT t g=ku (iu t g (aS t).length):=ek h0
  have h1:decide (g<0)=false:=by simp;omega
  have L:decide (((t.groups.getD []).length:Int)<=g)=false:=by simp;omega
  try simp only[RX,↓KW,seval,h1,hg,L,hp]
  refine af (hS t none M (.inl rfl)) ?_
  have ac:=qm M
  have R:=aT (aS t)
  try simp only[RX,↓KW,seval,R]
  generalize ab:aS t=Z at*
  refine aD (λk:Nat=>(⟨[(21,.dat (I k) none),(20,.dat (I Z.length) none),(19,.dat (aI Sp.cells (dJ Z)) none),(1,.dat (I g) none),(2,.ptr 4 0),(5,aZ aC (iu t g k) 0)],[(4,⟨t.cells,[]⟩)],bA (iu t g k) 0 e,400⟩:S)) (λk=>Z.length-k) (λk=>k<=Z.length) ?_ 0 ST ?_
  ·intro k hk A back
   have hw:=aA (k:=k) ST
   have E:iu t g k≠[]:=by simp[iu]
   try simp only[I,RX,↓KW,seval,aZ,bA,E]
   refine aB (λh=>?_) (λh=>?_)<;>try simp only[RX,↓KW,seval,R,h]
   ·have aa:k<Z.length:=by have:=dC h;omega
    obtain⟨x,O⟩:∃x,Z[k]? =some x:=⟨_,dT aa⟩
    have hn:iu t g (k+1)=if x.group==g then iu t g k++[lF t x.p]else iu t g k:=Jv (by rw[ab];exact O)
    have V:=Ek t g k
    refine⟨ST,?_⟩
    try simp only[I,RX,↓KW,seval,O,Sp.cells]
    refine aB (λL=>?_) (λL=>?_)<;>try simp only[RX,↓KW,seval,hp,L]
    ·refine af (hV t _ M) ?_
     try simp only[I,RX,↓KW,seval]
     refine⟨ST,?_⟩
     refine back (k+1) _ ST ST (ai Ts ?_ ?_ ?_ ?_)<;>simp[LX,I,hn,hw,L,E]
    ·refine back (k+1) _ ST ST (ai Ts ?_ ?_ ?_ ?_)<;>simp[LX,I,hn,hw,L,E]
   ·have:k=Z.length:=by have:=dE h;omega
    subst this
    have V:=Ek t g Z.length
    try simp only[I,B,D,RX,↓KW,seval]
    refine af (hs (some (iu t g Z.length)) (by simp;omega)) ?_
    try simp only[I,RX,↓KW,seval,O]
    rfl
  ·refine ai Ts ?_ ?_ ?_ ?_<;>simp[LX,I,iu,lF]
end
section
variable (t:Tb) (C:aY) (p:Int) (f:Nat) (l:List Int) (n:Nat)
def mK:List Int:=oT t (az t p).1.group::(List.range n).map λ(g:Nat)=>oT t g
theorem Jw:mK t p (n+1)=mK t p n++[oT t n]:=by simp[mK,io]
def lG:List Int:=(List.range n).map λ(k:Nat)=>ku [rW t k,(yp t k).stay]
theorem Jy:lG t (n+1)=lG t n++[ku [rW t n,(yp t n).stay]]:=by simp[lG,io]
def nZ:List Int:=l.flatMap λp=>[ju (aO t p).min,ku [(aO t p).walk,(aO t p).fc]]
theorem Ct{t:Tb} {l:List Int} {i:Nat} {x:Int} (h:l[i]? =some x):nZ t (l.take (i+1))=nZ t (l.take i)++[ju (aO t x).min,ku [(aO t x).walk,(aO t x).fc]]:=by rw[eO h];simp[nZ]
theorem Ly:(nZ t l).length=l.length*2:=by
 induction l with
 |nil=>rfl
 |cons x l A=>simp only[nZ,wc,pv,eW,fl]at A⊢;omega
def MV:Int:=if(t.aV.getD []).length=0 then 0 else ku [iK (lG t (t.aV.getD []).length),iK (nZ t (dM (oS t))),mJ t,t.revert,30]
def El.Spec:Prop:=∀(t:Tb),t.Ok->C.c f [.agg t.cells] (I (MV t)) none
def qq:Int:=if qn t p=0\/(t.aV.getD []).length=0 then qn t p else ku [ab6 (ku [t.share,1]) (ku [MV t,qn t p,2]),t.share]
def wait.Spec:Prop:=∀(t:Tb) (p:Int),t.Ok->C.c f [.agg t.cells,I p] (I (qq t p)) none
theorem Rl.len(r:Rl):r.cells.length=11:=rfl
theorem Em{t:Tb} {k:Int} (B:0<=k) (A:k<((t.aV.getD []).length:Int)):(t.aV.getD [])[k.toNat]? =some (yp t k):=by
 have:k.toNat<(t.aV.getD []).length:=ST
 simp[yp,this]
end
section
variable{P:Program} (hm:P.follows .mixedOrders=true) {f:Nat}
include hm
theorem free.ok{fW fO V fP e fs:Nat} (hc:bu P f=some (pK fW fO V fP e fs)) (hW:where.Spec (Pure P) fW) (hO:on.Spec (Pure P) fO) (hH:jm.Spec (Pure P) V) (hP:pass.Spec (Pure P) fP) (hs:zB.Spec (Pure P) fs):free.Spec (Pure P) f:=by
 intro t p E
 have M:=Tb.whole E
 have hg:=Tb.jT E
 have hb:=E.groups
 refine aj hm hc [] rfl ?_;try simp only[I,RX,↓KW,seval,pK,Z.H,M]
 refine af (hW t _ E) ?_;try simp only[I,B,RX,↓KW,seval,Sp.cells]
 by_cases L:((az t p).2&&pM (oS t) p)=true
 ·have R:qn t p=ku (mK t p (t.groups.getD []).length):=et L
  simp only[ed]at L;try simp only[RX,↓KW,seval,L,M]
  refine af (hO t E) ?_;try simp only[I,RX,↓KW,seval]
  refine af (hH _ _) ?_;try simp only[B,RX,↓KW,seval,L,M]
  refine af (hP t _ E) ?_;try simp only[I,RX,↓KW,seval]
  refine aD (λk:Nat=>(⟨[(8,.dat (I k) none),(2,.ptr 4 0),(7,aZ aC (mK t p k) 0)],[(4,⟨t.cells,[]⟩)],bA (mK t p k) 0 e,400⟩:S)) (λk=>(t.groups.getD []).length-k) (λk=>k<=(t.groups.getD []).length) ?_ 0 ST ?_
  ·intro k hk A back
   have hw:=aA (k:=k) ST
   have O:mK t p k≠[]:=by simp[mK]
   have hn:=Jw t p k
   have aa:(mK t p k).length=k+1:=by simp[mK]
   try simp only[I,RX,↓KW,seval,aZ,bA,O,hg]
   refine aB (λh=>?_) (λh=>?_)<;>try simp only[RX,↓KW,seval,M,h]
   ·have:k<(t.groups.getD []).length:=by have:=dC h;omega
    refine af (hP t _ E) ?_;try simp only[I,RX,↓KW,seval]
    refine⟨ST,?_⟩
    refine back (k+1) _ ST ST (ai Ts ?_ ?_ ?_ ?_)<;>simp[LX,I,hn,hw,O]
   ·have:k=(t.groups.getD []).length:=by have:=dE h;omega
    subst this;try simp only[I,B,D,RX,↓KW,seval]
    refine af (hs (some (mK t p (t.groups.getD []).length)) (by simp;omega)) ?_
    try simp only[I,RX,↓KW,seval,R]
    rfl
  ·refine ai Ts ?_ ?_ ?_ ?_<;>simp[LX,I,mK]
 ·have R:qn t p=0:=ek L
  repeat' (first|((first|refine af (hO t E) ?_|refine af (hH _ _) ?_);try simp only[I,B,RX,↓KW,seval])|(((first|refine bn ?_ ?_|refine aB ?_ ?_|refine bM ?_ ?_)<;>intro h)<;>try simp only[RX,↓KW,seval,M,R,h]))
  all_goals simp_all
theorem entry.ok{E e M:Nat} (hc:bu P f=some (nX E e M)) (hC:clear.Spec (Pure P) E) (hs:zB.Spec (Pure P) M):entry.Spec (Pure P) f:=by
 intro t k A
 have hl:=Tb.len A
 have R:=Tb.whole A
 have O:=Tb.uh A
 have B:=Tb.tail_at A 3 ST
 refine aj hm hc [] rfl ?_;try simp only[I,RX,↓KW,seval,nX,Z.H]
 by_cases L:k<0\/((t.aV.getD []).length:Int)<=k
 ·have D:rW t k=0:=et L
  repeat' (((first|refine bn ?_ ?_|refine aB ?_ ?_|refine bM ?_ ?_)<;>intro h)<;>try simp only[RX,↓KW,seval,O,D,h])
  simp_all;omega
 ·have D:=show rW t k=_ from ek L
  have h1:decide (k<0)=false:=by simp;omega
  have V:decide (((t.aV.getD []).length:Int)<=k)=false:=by simp;omega
  have hr:=Em (t:=t) (k:=k) ST ST
  try simp only[RX,↓KW,seval,h1,V,O]
  refine⟨ST,?_⟩
  try simp only[I,RX,↓KW,seval,hr,Rl.cells,bk,R]
  refine af (hC t A) ?_;try simp only[I,RX,↓KW,seval,B]
  refine af (hs (some [_,_,_,_,_,_,_,_,_,_,_,_,_,_,_,_]) TB) ?_
  try simp only[I,RX,↓KW,seval,D]
  rfl
theorem wait.ok{R e fs O L:Nat} (hc:bu P f=some (pI R e fs O L)) (hF:free.Spec (Pure P) R) (D:zB.Spec (Pure P) fs) (hO:El.Spec (Pure P) O) (hM:Mul.Spec (Pure P) L):wait.Spec (Pure P) f:=by
 intro t p B
 have hl:=Tb.len B
 have M:=Tb.whole B
 have hg:=Tb.uh B
 have A:=Tb.QU B
 refine aj hm hc [] rfl ?_;try simp only[I,RX,↓KW,seval,pI,Z.H,M]
 refine af (hF t _ B) ?_;try simp only[I,RX,↓KW,seval]
 by_cases V:qn t p=0\/(t.aV.getD []).length=0
 ·have E:qq t p=qn t p:=et V
  repeat' (((first|refine bn ?_ ?_|refine aB ?_ ?_|refine bM ?_ ?_)<;>intro h)<;>try simp only[RX,↓KW,seval,hg,E,h])
  simp_all
 ·have E:=show qq t p=_ from ek V
  have h1:(qn t p==0)=false:=by simp;omega
  have h2:(((t.aV.getD []).length:Int)==0)=false:=beq_false_of_ne ST
  try simp only[I,RX,↓KW,seval,h1,h2,hg,A]
  refine af (D (some [_,_]) TB) ?_
  try simp only[I,RX,↓KW,seval,M]
  refine af (hO t B) ?_;try simp only[I,RX,↓KW,seval]
  refine af (D (some [_,_,_]) TB) ?_
  try simp only[I,RX,↓KW,seval]
  refine af (hM _ _) ?_;try simp only[I,RX,↓KW,seval,A]
  refine af (D (some [_,_]) TB) ?_
  try simp only[I,RX,↓KW,seval,E]
  rfl
theorem El.ok{fE e fs fO fL fC fM ae:Nat} (hc:bu P f=some (wP fE e fs fO fL fC fM ae)) (hE:entry.Spec (Pure P) fE) (hs:zB.Spec (Pure P) fs) (hO:on.Spec (Pure P) fO) (hL:gE.Spec (Pure P) fL e) (hC:Cap.Spec (Pure P) fC) (hM:most.Spec (Pure P) fM) (ag:clear.Spec (Pure P) ae):El.Spec (Pure P) f:=by
 intro t O
 have hp:=Tb.whole O
 have hg:=Tb.uh O
 have hb:=O.aV
 have aa:=Tb.tail_at O 3 ST
 refine aj hm hc [] rfl ?_;try simp only[I,RX,↓KW,seval,wP,Z.H,hg]
 by_cases h0:(t.aV.getD []).length=0
 ·have hx:MV t=0:=et h0
  repeat' (((first|refine bn ?_ ?_|refine aB ?_ ?_|refine bM ?_ ?_)<;>intro h)<;>try simp only[RX,↓KW,seval,hx,h])
  simp_all
 ·have hx:=show MV t=_ from ek h0
  have h2:(((t.aV.getD []).length:Int)==0)=false:=beq_false_of_ne ST
  try simp only[RX,↓KW,seval,h2]
  refine aD (λk:Nat=>(⟨[(5,.dat (I k) none),(1,.ptr 4 0),(4,.dat (.bV) none),(3,aZ aC (lG t k) 0)],[(4,⟨t.cells,[]⟩)],bA (lG t k) 0 e,400⟩:S)) (λk=>(t.aV.getD []).length-k) (λk=>k<=(t.aV.getD []).length) ?_ 0 ST ?_
  ·intro k hk A back
   have hw:=aA (k:=k) ST
   have hn:=Jy t k
   have V:(lG t k).length=k:=by simp[lG]
   by_cases hl:lG t k=[]
   all_goals
    try simp only[I,RX,↓KW,seval,aZ,bA,hl,hg]
    refine aB (λh=>?_) (λh=>?_)<;>try simp only[RX,↓KW,seval,hp,h]
   ·have:k<(t.aV.getD []).length:=by have:=dC h;omega
    have hr:=Em (t:=t) (k:=k) ST ST
    rw[ix]at hr;refine af (hE t _ O) ?_;try simp only[I,RX,↓KW,seval,hg]
    refine⟨ST,?_⟩
    try simp only[I,RX,↓KW,seval,hr,Rl.cells]
    refine af (hs (some [_,_]) TB) ?_
    try simp only[I,RX,↓KW,seval]
    refine back (k+1) _ ST ST (ai Ts ?_ ?_ ?_ ?_)<;>simp[LX,I,hn,hw,hl]
   ·exfalso
    have:=dE h
    rw[hl]at V;simp at V;omega
   ·have:k<(t.aV.getD []).length:=by have:=dC h;omega
    have hr:=Em (t:=t) (k:=k) ST ST
    rw[ix]at hr;refine af (hE t _ O) ?_;try simp only[I,RX,↓KW,seval,hg]
    refine⟨ST,?_⟩
    try simp only[I,RX,↓KW,seval,hr,Rl.cells]
    refine af (hs (some [_,_]) TB) ?_
    try simp only[I,RX,↓KW,seval]
    refine⟨ST,?_⟩
    refine back (k+1) _ ST ST (ai Ts ?_ ?_ ?_ ?_)<;>simp[LX,I,hn,hw,hl]
   ·have:k=(t.aV.getD []).length:=by have:=dE h;omega
    subst this;try simp only[I,B,D,RX,↓KW,seval,hp]
    refine af (hO t O) ?_;try simp only[I,RX,↓KW,seval]
    refine af (hL _ none (.inl rfl)) ?_;try simp only[RX,↓KW,seval]
    have V:=jV (oS t)
    have ac:=@Cr (oS t)
    have ad:=aT (dM (oS t))
    generalize dM (oS t)=L at*
    refine aD (λk:Nat=>(⟨[(37,.dat (I k) none),(36,.dat (I L.length) none),(35,.dat (aI aC (dJ L)) none),(1,.ptr 4 0),(3,.dat (.sl ((lG t (t.aV.getD []).length).map aC)) none),(4,aZ aC (nZ t (L.take k)) 0)],[(4,⟨t.cells,[]⟩)],bA (nZ t (L.take k)) 0 e,400⟩:S)) (λk=>L.length-k) (λk=>k<=L.length) ?_ 0 ST ?_
    ·intro k hk A back
     have hw:=aA (k:=k) ST
     have ak:(nZ t (L.take k)).length<=16:=by rw[Ly];have:=List.length_take_le k L;omega
     by_cases hl:nZ t (L.take k)=[]
     all_goals
      try simp only[I,RX,↓KW,seval,aZ,bA,hl]
      refine aB (λh=>?_) (λh=>?_)<;>try simp only[RX,↓KW,seval,ad,h]
     ·have ab:k<L.length:=by have:=dC h;omega
      obtain⟨x,M⟩:∃x,L[k]? =some x:=⟨_,dT ab⟩
      have R:=ac (em M)
      have E:=Tb.HJ O R.1 R.2
      have hn:=Ct (t:=t) M
      refine⟨ST,?_⟩
      try simp only[I,RX,↓KW,seval,M,aC]
      refine⟨ST,?_⟩
      try simp only[I,RX,↓KW,seval,E]
      refine af (hC _) ?_;try simp only[I,RX,↓KW,seval,E]
      refine⟨ST,?_⟩
      try simp only[I,B,D,RX,↓KW,seval,E]
      refine⟨ST,?_⟩
      try simp only[I,B,D,RX,↓KW,seval,E]
      refine af (hs (some [_,_]) TB) ?_
      try simp only[I,RX,↓KW,seval]
      refine back (k+1) _ ST ST (ai Ts ?_ ?_ ?_ ?_)<;>simp[LX,I,hn,hw,hl]
     ·have:k=L.length:=by have:=dE h;omega
      subst this;rw[gn]at hl ak;try simp only[I,B,D,RX,↓KW,seval]
      refine af (hM (some _) (by simp[lG];omega)) ?_
      try simp only[I,RX,↓KW,seval]
      refine af (hM none TB) ?_
      try simp only[I,RX,↓KW,seval,hp]
      refine af (ag t O) ?_;try simp only[I,RX,↓KW,seval,aa]
      refine af (hs (some [_,_,_,_,_]) TB) ?_
      try simp only[I,RX,↓KW,seval,hx,hl]
      rfl
     ·have ab:k<L.length:=by have:=dC h;omega
      obtain⟨x,M⟩:∃x,L[k]? =some x:=⟨_,dT ab⟩
      have R:=ac (em M)
      have E:=Tb.HJ O R.1 R.2
      have hn:=Ct (t:=t) M
      refine⟨ST,?_⟩
      try simp only[I,RX,↓KW,seval,M,aC]
      refine⟨ST,?_⟩
      try simp only[I,RX,↓KW,seval,E]
      refine af (hC _) ?_;try simp only[I,RX,↓KW,seval,E]
      refine⟨ST,?_⟩
      try simp only[I,B,D,RX,↓KW,seval,E]
      refine⟨ST,?_⟩
      try simp only[I,B,D,RX,↓KW,seval,E]
      refine af (hs (some [_,_]) TB) ?_
      try simp only[I,RX,↓KW,seval]
      refine⟨ST,?_⟩
      refine back (k+1) _ ST ST (ai Ts ?_ ?_ ?_ ?_)<;>simp[LX,I,hn,hw,hl]
     ·have:k=L.length:=by have:=dE h;omega
      subst this;rw[gn]at*;try simp only[I,B,D,RX,↓KW,seval]
      refine af (hM (some _) (by simp[lG];omega)) ?_
      try simp only[I,RX,↓KW,seval]
      refine af (hM (some _) (by simp;omega)) ?_
      try simp only[I,RX,↓KW,seval,hp]
      refine af (ag t O) ?_;try simp only[I,RX,↓KW,seval,aa]
      refine af (hs (some [_,_,_,_,_]) TB) ?_
      try simp only[I,RX,↓KW,seval,hx]
      rfl
    ·refine ai Ts ?_ ?_ ?_ ?_<;>simp[LX,I,ad,nZ]
  ·refine ai Ts ?_ ?_ ?_ ?_<;>simp[LX,I,lG]
end
section
variable (k:FloatKind) (l:Option (List Int)) (C:aY) (x:Nat) (i:Int) (f:Nat) (n:Int) (y:Nat)
def n9(t:Tb) (p q:Int):Int:=if dP t p q then gz (SU [p]) q else SU [p]
def with.Spec:Prop:=∀(t:Tb) (p q:Int),t.Ok->C.c f [.agg t.cells,I p,I q] (I (n9 t p q)) none
theorem YU:eP .mul (.float k x) (.float k y)=KQ k (k.format.mul x y):=by simp[eP,Dz]
theorem QW:eP .quo (.float k x) (.float k y)=KQ k (k.format.div x y):=by simp[eP,Dz]
theorem YV(r:Nat):KQ k (some r)=some (.float k r):=by cases k<;>rfl
theorem aP{n:Int} (h:0<n) (D:n<=4294967296):0<=cz l i n/\cz l i n<n:=by
 simp only[cz,place]
 have A:=FS (YQ l i) h
 have B:=Int.lt_tmod_of_pos (YQ l i) h
 split
 ·rw[bZ,aU ST ST];omega
 ·omega
def zC:Nat:=(FloatKind.f64.format.div (FloatKind.f64.nearest n) 4621819117588971520).getD 0
theorem En:∀n:Nat,n<6->FloatKind.f64.format.div (FloatKind.f64.nearest (n:Int)) 4621819117588971520=some (zC n):=by decide+kernel
def wS(k:Int):Nat:=[4617315517961601024,4621819117588971520,4607182418800017408,4602678819172646912].getD k.toNat 0
def Eo(k:Int):Nat:=[4602678819172646912,4607182418800017408,4598175219545276416].getD k.toNat 0
def um(j k:Int):Nat:=(FloatKind.f64.format.mul (wS j) (Eo k)).getD 0
theorem Jz:∀j:Nat,j<4->∀k:Nat,k<3->FloatKind.f64.format.mul (wS j) (Eo k)=some (um j k):=by decide+kernel
def iV:A7 where
 phase:=cz l i n
 on:=wS (cz l (bZ (i+1)) 4)
 off:=um (cz l (bZ (i+1)) 4) (cz l (bZ (i+2)) 3)
 delay:=zC (cz l (bZ (i+3)) 4)
 extend:=zC (cz l (bZ (i+4)) 6)
 maxOn:=if cz l (bZ (i+5)) 3==1 then bZ (20+cz l (bZ (i+6)) 60)else 0
 nV:=if cz l (bZ (i+5)) 9==2 then bZ (60+cz l (bZ (i+7)) 300)else 0
def uo.Spec:Prop:=∀(l:Option (List Int)) (i n:Int),0<n->C.c f [aI aC l,I i,I n] (.agg (iV l i n).cells) none
end
section
variable{P:Program} (hm:P.follows .mixedOrders=true) {f:Nat}
include hm
theorem with.ok{e E A D:Nat} (R:bu P f=some (pJ e E A D)) (O:zA.Spec (Pure P) E) (hB:beside.Spec (Pure P) A) (hW:fJ.Spec (Pure P) D):with.Spec (Pure P) f:=by
 intro t p q L
 have M:=Tb.whole L
 refine aj hm R [] rfl ?_;try simp only[I,RX,↓KW,seval,pJ,Z.H]
 refine af (O (some [_]) TB) ?_
 try simp only[I,RX,↓KW,seval,M]
 refine af (hB t _ _ L) ?_;try simp only[B,RX,↓KW,seval]
 repeat' (first|(refine af (hW _ _) ?_;try simp only[I,RX,↓KW,seval])|(((first|refine bn ?_ ?_|refine aB ?_ ?_|refine bM ?_ ?_)<;>intro h)<;>try simp only[RX,↓KW,seval,h]))
 all_goals simp_all [n9]
theorem uo.ok{R:Nat} (hc:bu P f=some (oQ R)) (hF:from.Spec (Pure P) R):uo.Spec (Pure P) f:=by
 intro l i n hn;refine aj hm hc [] rfl ?_;try simp only[I,RX,↓KW,seval,oQ,Z.H]
 refine af (hF _ _ _ hn) ?_;try simp only[I,RX,↓KW,seval]
 refine af (hF _ _ _ Ts) ?_
 try simp only[I,RX,↓KW,seval]
 have O:=aP l (bZ (i+1)) (n:=4) Ts Ts
 have L:=aP l (bZ (i+2)) (n:=3) Ts Ts
 have V:=aP l (bZ (i+3)) (n:=4) Ts Ts
 have M:=aP l (bZ (i+4)) (n:=6) Ts Ts
 have E:[AV.float FloatKind.f64 4617315517961601024,AV.float FloatKind.f64 4621819117588971520,AV.float FloatKind.f64 4607182418800017408,AV.float FloatKind.f64 4602678819172646912][(cz l (bZ (i+1)) 4).toNat]? =some (.float .f64 (wS (cz l (bZ (i+1)) 4))):=by
  generalize cz l (bZ (i+1)) 4=j at*
  have:j=0\/j=1\/j=2\/j=3:=ST
  rcases this with rfl|rfl|rfl|rfl<;>rfl
 have e2:[AV.float FloatKind.f64 4602678819172646912,AV.float FloatKind.f64 4607182418800017408,AV.float FloatKind.f64 4598175219545276416][(cz l (bZ (i+2)) 3).toNat]? =some (.float .f64 (Eo (cz l (bZ (i+2)) 3))):=by
  generalize cz l (bZ (i+2)) 3=j at*
  have:j=0\/j=1\/j=2:=ST
  rcases this with rfl|rfl|rfl<;>rfl
 have B:=Jz (cz l (bZ (i+1)) 4).toNat ST (cz l (bZ (i+2)) 3).toNat ST
 have D:=En (cz l (bZ (i+3)) 4).toNat ST
 have A:=En (cz l (bZ (i+4)) 6).toNat ST
 simp only[sk O.1,sk L.1]at B;simp only[sk V.1]at D;simp only[sk M.1]at A;simp only[bZ]at E e2 B D A O L V M
 refine⟨ST,?_⟩
 try simp only[RX,↓KW,seval,E]
 refine af (hF l _ 3 Ts) ?_
 try simp only[I,RX,↓KW,seval]
 refine⟨ST,?_⟩
 try simp only[RX,↓KW,seval,e2,YV,YU,B]
 refine af (hF _ _ _ Ts) ?_
 try simp only[I,RX,↓KW,seval,YV,QW,D]
 refine af (hF _ _ _ Ts) ?_
 try simp only[I,RX,↓KW,seval,YV,QW,A]
 repeat' (first|(refine af (hF _ _ _ Ts) ?_;try simp only[I,RX,↓KW,seval])|(((first|refine bn ?_ ?_|refine aB ?_ ?_|refine bM ?_ ?_)<;>intro h)<;>try simp only[RX,↓KW,seval,h]))
 all_goals simp_all [iV,A7.cells,bZ]
def pO (t:Tb) (l:Option (List Int)) (i n:Int):Rl :=
  let p:=cz l (bZ (i + 4)) (bZ (n + 1))
  let ep:=n9 t (cz l i n) (cz l (bZ (i + 1)) n)
  let stay:=bZ (1 + cz l (bZ (i + 11)) 15)
  let delay:=cz l (bZ (i + 8)) 4
  { bars:=aJ .i64 (bK .i64 (cz l (bZ (i + 7)) 256) (bZ (bZ (1 * 2 ^ min (IntKind.u64.wrap n).toNat 64) - 1))) ep
    clear:=if p < n then n9 t p (cz l (bZ (i + 5)) n) else 0
    ep:=ep
    exit:=n9 t (cz l (bZ (i + 2)) n) (cz l (bZ (i + 3)) n)
    delay:=delay
    green:=bZ (1 + cz l (bZ (i + 9)) 6)
    dZ:=cz l (bZ (i + 10)) 6
    hold:=if p < n then bZ (1 + cz l (bZ (i + 6)) 10) else 0
    stay:=stay
    most:=if cz l (bZ (i + 12)) 3 == 1 then bZ (stay + cz l (bZ (i + 13)) 30) else 0
    limit:=bZ (bZ (delay + 1) + [10000,400,20].getD (cz l (bZ (i + 14)) 3).toNat 0) }
def QX.Spec(C:aY) (f:Nat):Prop:=∀(t:Tb) (l:Option (List Int)) (i n:Int),t.Ok->0<n->n<=8->C.c f [.agg t.cells,aI aC l,I i,I n] (.agg (pO t l i n).cells) none
theorem QX.ok{V R:Nat} (hc:bu P f=some (wN V R)) (hF:from.Spec (Pure P) V) (hW:with.Spec (Pure P) R):QX.Spec (Pure P) f:=by
 intro t l i n E A ab
 have M:=Tb.whole E
 have aa:IntKind.i64.wrap (n+1)=n+1:=aU ST ST
 refine aj hm hc [] rfl ?_;try simp only[I,RX,↓KW,seval,wN,Z.H,M,bk]
 refine af (hF _ _ _ A) ?_;try simp only[I,RX,↓KW,seval]
 refine af (hF _ _ _ A) ?_;try simp only[I,RX,↓KW,seval]
 refine af (hW t _ _ E) ?_;try simp only[I,RX,↓KW,seval,M]
 refine af (hF _ _ _ A) ?_;try simp only[I,RX,↓KW,seval]
 refine af (hF _ _ _ A) ?_;try simp only[I,RX,↓KW,seval]
 refine af (hW t _ _ E) ?_;try simp only[I,RX,↓KW,seval]
 refine af (hF _ _ _ ST) ?_
 try simp only[I,RX,↓KW,seval]
 have O:=aP l (bZ (i+14)) (n:=3) Ts Ts
 have L:[AV.int .i64 10000,AV.int .i64 400,AV.int .i64 20][(cz l (bZ (i+14)) 3).toNat]? =some (.int .i64 ([10000,400,20].getD (cz l (bZ (i+14)) 3).toNat 0)):=by
  generalize cz l (bZ (i+14)) 3=j at*
  have:j=0\/j=1\/j=2:=ST
  rcases this with rfl|rfl|rfl<;>rfl
 have hu:0<=IntKind.u64.wrap n:=by rw[IntKind.wrap];simp[IntKind.signed];omega
 simp only[bZ]at L O
 refine aB (λh=>?_) (λh=>?_)<;>try simp only[RX,↓KW,seval,M,h]
 ·repeat' (first|((first|refine af (hF _ _ _ A) ?_|refine af (hF _ _ _ Ts) ?_|refine af (hW t _ _ E) ?_);try simp only[I,RX,↓KW,seval])|(((first|refine bn ?_ ?_|refine aB ?_ ?_|refine bM ?_ ?_)<;>intro h)<;>try simp only[I,B,D,RX,↓KW,seval,M,h]))
  refine⟨hu,?_⟩
  repeat' (first|((first|refine af (hF _ _ _ A) ?_|refine af (hF _ _ _ Ts) ?_|refine af (hW t _ _ E) ?_);try simp only[I,RX,↓KW,seval])|(((first|refine bn ?_ ?_|refine aB ?_ ?_|refine bM ?_ ?_)<;>intro h)<;>try simp only[RX,↓KW,seval,h]))
  all_goals refine⟨ST,?_⟩
  all_goals try simp only[RX,↓KW,seval,L]
  all_goals simp_all [pO,Rl.cells,bZ,IntKind.bits]
 ·repeat' (first|((first|refine af (hF _ _ _ A) ?_|refine af (hF _ _ _ Ts) ?_|refine af (hW t _ _ E) ?_);try simp only[I,RX,↓KW,seval])|(((first|refine bn ?_ ?_|refine aB ?_ ?_|refine bM ?_ ?_)<;>intro h)<;>try simp only[I,B,D,RX,↓KW,seval,M,h]))
  refine⟨hu,?_⟩
  repeat' (first|((first|refine af (hF _ _ _ A) ?_|refine af (hF _ _ _ Ts) ?_|refine af (hW t _ _ E) ?_);try simp only[I,RX,↓KW,seval])|(((first|refine bn ?_ ?_|refine aB ?_ ?_|refine bM ?_ ?_)<;>intro h)<;>try simp only[RX,↓KW,seval,h]))
  all_goals refine⟨ST,?_⟩
  all_goals try simp only[RX,↓KW,seval,L]
  all_goals simp_all [pO,Rl.cells,bZ,IntKind.bits]
  all_goals exact⟨λ_=>ST,λ_=>ST⟩
end
section
variable {C:aY} {Q:Exit->S->Prop} {c:br} {k:S->Prop} {s:S} {t:Tb} {α:Type} (f:α->List AV) (l:Option (List Int))
def b9(groups g:Nat):Nat:=8-(groups-1-g)
def dO(p m:Nat):List Int:=(List.range m).map λ(j:Nat)=>((p+j:Nat):Int)
def cnt(g k A:Nat):Nat:=
 let n:=(cz l (1+2*g+k) 3).toNat
 if k=1/\n=0/\A=0 then 1 else n
def bp(n p A:Nat):Nat:=min n (A-p)
def bl(l:Option (List Int)) (groups:Nat):Nat->List Gr×Nat
 |0=>([],0)
 |g+1=>
  let q:=bl l groups g
  let A:=bp (cnt l g 0 0) q.2 (b9 groups g)
  let B:=bp (cnt l g 1 A) (q.2+A) (b9 groups g)
  (q.1++[⟨dJ (dO q.2 A),dJ (dO (q.2+A) B)⟩],q.2+A+B)
def gL:Nat:=(1+cz l 0 3).toNat
def rows.Spec(C:aY) (f:Nat):Prop:=∀(t:Tb) (l:Option (List Int)),t.Ok->t.groups=none->C.p f [t.cells] [none,some (aI aC l)] (I ((bl l (gL l) (gL l)).2:Nat)) none [({t with groups:=some (bl l (gL l) (gL l)).1}:Tb).cells]
theorem Tb.len'(A:t.phases.length=8) (B:t.conflict.length=8) (D:t.ee.length=8):t.cells.length=131:=by
 simp[Tb.cells,aN Ph.len,A,B,D]
theorem Tb.Lz(h:t.phases.length=8):t.cells[104]? =some (aI Gr.cells t.groups):=by
 simp[Tb.cells,aN Ph.len,h]
theorem Tb.LA(h:t.phases.length=8) (g:Option (List Gr)):t.cells.take 104++(aI Gr.cells g::t.cells.drop 105)=({t with groups:=g}:Tb).cells:=by
 have e:(t.phases.flatMap Ph.cells).length=104:=by rw[aN Ph.len,h]
 simp only[Tb.cells]
 rw[H3 ST,l4 ST,PQ,yi ST,e]
 rfl
def Z4(C:aY) (c:br) (Q:Exit->S->Prop) (k:S->Prop) (s:S):Prop:=aw C c (kO k Q) s
theorem zD(h:aw C c (kO k Q) s):Z4 C c Q k s:=h
theorem Bp{A:S->Prop} (hk:∀s,k s->A s) (h:Z4 C c Q k s):Z4 C c Q A s:=nq (λe s h=>by cases e<;>first|exact hk _ h|exact h) h
theorem QY(h:Z4 C c Q (Z4 C c Q (Z4 C c Q λ_=>False)) s):aw C (.loop c) Q s:=
 nA ⟨3,Bp (λ_ h=>nA (Bp (λ_ h=>nA (Bp (λ_ h=>h.elim) h)) h)) h⟩
theorem jW(p i:Nat):dO p (i+1)=dO p i++[((p+i:Nat):Int)]:=by simp[dO,io]
theorem vZ(l:Option (List Int)) (G:Nat):∀g,(bl l G g).2<=8
 |0=>by simp[bl]
 |g+1=>by
  have:=vZ l G g
  simp only[bl,bp,b9];omega
theorem oa(l:Option (List Int)) (G:Nat):∀g,(bl l G g).1.length=g
 |0=>by simp[bl]
 |g+1=>by
  have:=oa l G g
  simp only[bl,pv,eW,fl];omega
def Cut(A:Exit) (st:α->S) (J:α->Prop) (e:Exit) (s:S):Prop:=e=A/\∃y,J y/\Le s (st y)
theorem ej{B:Exit} {st:α->S} {J:α->Prop} (y:α) (D:J y) (A:Le s (st y)):Cut B st J B s:=⟨rfl,y,D,A⟩
theorem mL{F:S->Prop} (D:Exit) (st:α->S) (J:α->Prop) (hQ:∀A,Q D A=down F A) (M:aw C c (Cut D st J) s) (E:∀y,J y->F (st y)):aw C c Q s:=by
 refine nq ?_ M
 rintro e A ⟨rfl,y,L,B⟩
 rw[hQ];exact rA B (E y L)
theorem UQ:IntKind.i64.wrap (0+1)=1:=by decide
theorem HK:IntKind.i64.wrap (1+1)=2:=by decide
theorem dL:aI f none=.bV:=rfl
theorem bO(l:List α):aI f (some l)=.sl (l.map f):=rfl
end
section
variable{P:Program} (hm:P.follows .mixedOrders=true) {f:Nat}
include hm
theorem rows.ok{fF e eR:Nat} (hc:bu P f=some (pH fF e eR)) (hF:from.Spec (Pure P) fF):rows.Spec (Pure P) f:=by
 intro t l ht bo
 have E:=Tb.len ht
 have hp:=Tb.whole ht
 refine Jo hm hc [3,5] rfl rfl rfl ?_;try simp only[I,RX,↓KW,Nat.reduceBEq,Nat.reduceAdd,pH,Z.H]
 have bm:=aP l 0 (n:=3) Ts Ts
 refine af (hF _ _ _ Ts) ?_
 try simp only[I,RX,↓KW,Nat.reduceBEq,Nat.reduceAdd]
 have ba:IntKind.i64.wrap (1+cz l 0 3)=(gL l:Nat):=by
  rw[aU ST ST,gL];omega
 have bj:1<=gL l/\gL l<=3:=by unfold gL;omega
 rw[ba];generalize gL l=G at*
 refine aD (λg:Nat=>(⟨[(7,.dat (I g) none),(5,.dat (I G) none),(1,.dat (aI aC l) none),(6,.dat (I (bl l G g).2) none),(0,.ptr 0 0)],[(0,⟨({t with groups:=dJ (bl l G g).1}:Tb).cells,if(bl l G g).1=[]then[]else[(104,0)]⟩)],bA (bl l G g).1 0 eR,400⟩:S)) (λg=>G-g) (λg=>g<=G) ?_ 0 ST ?_
 ·intro g hg A back
  have hw:=aA (k:=g) ST
  have ao:bl l G (g+1)=((bl l G g).1++[⟨dJ (dO (bl l G g).2 (bp (cnt l g 0 0) (bl l G g).2 (b9 G g))),dJ (dO ((bl l G g).2+bp (cnt l g 0 0) (bl l G g).2 (b9 G g)) (bp (cnt l g 1 (bp (cnt l g 0 0) (bl l G g).2 (b9 G g))) ((bl l G g).2+bp (cnt l g 0 0) (bl l G g).2 (b9 G g)) (b9 G g)))⟩],(bl l G g).2+bp (cnt l g 0 0) (bl l G g).2 (b9 G g)+bp (cnt l g 1 (bp (cnt l g 0 0) (bl l G g).2 (b9 G g))) ((bl l G g).2+bp (cnt l g 0 0) (bl l G g).2 (b9 G g)) (b9 G g)):=rfl
  have a3:(bl l G g).2<=8:=vZ l G g
  have ag:(bl l G g).1.length=g:=oa l G g
  generalize hR:bl l G g=R at*;obtain⟨L,p⟩:=R;simp only at ao a3 ag
  have a4:cz l (1+2*(g:Int)+0) 3=(cnt l g 0 0:Nat):=by
   have:=aP l (1+2*(g:Int)+0) (n:=3) Ts Ts
   have hc:cnt l g 0 0=(cz l (1+2*(g:Int)+0) 3).toNat:=by simp[cnt]
   rw[hc];omega
  have a9:IntKind.i64.wrap (IntKind.i64.wrap (1+IntKind.i64.wrap (2*(g:Int)))+0)=1+2*(g:Int)+0:=by
   rw[aU (n:=2*(g:Int)) ST ST,aU (n:=1+2*(g:Int)) ST ST,aU ST ST]
  have a6:IntKind.i64.wrap (IntKind.i64.wrap (1+IntKind.i64.wrap (2*(g:Int)))+1)=1+2*(g:Int)+1:=by
   rw[aU (n:=2*(g:Int)) ST ST,aU (n:=1+2*(g:Int)) ST ST,aU ST ST]
  have M:IntKind.i64.wrap (8-IntKind.i64.wrap (IntKind.i64.wrap ((G:Int)-1)-(g:Int)))=if g<G then((b9 G g:Nat):Int)else(8-((G:Int)-1-g):Int):=by
   rw[aU (n:=(G:Int)-1) ST ST,aU (n:=(G:Int)-1-g) ST ST,aU ST ST]
   split<;>simp[b9]<;>omega
  by_cases B:L=[]
  all_goals
   try simp only[I,RX,↓KW,Nat.reduceBEq,Nat.reduceAdd,B,bA,dJ]
   refine aB (λh=>?_) (λh=>?_)<;>try simp only[RX,↓KW,Nat.reduceBEq,Nat.reduceAdd,h]
   ·have a2:g<G:=by have:=dC h;omega
    rw[et a2]at M;generalize bd:cnt l g 0 0=n0 at*
    refine mL (.exit 2) (λ_:Unit=>(⟨[(6,.dat (I (p+bp n0 p (b9 G g)+bp (cnt l g 1 (bp n0 p (b9 G g))) (p+bp n0 p (b9 G g)) (b9 G g):Nat)) none),(5,.dat (I G) none),(7,.dat (I g) none),(8,.ptr 403 0),(1,.dat (aI aC l) none),(0,.ptr 0 0)],[(403,⟨[aI aC (dJ (dO p (bp n0 p (b9 G g)))),aI aC (dJ (dO (p+bp n0 p (b9 G g)) (bp (cnt l g 1 (bp n0 p (b9 G g))) (p+bp n0 p (b9 G g)) (b9 G g))))],[]⟩),(0,⟨({t with groups:=dJ L}:Tb).cells,if L=[]then[]else[(104,0)]⟩)],bA L 0 eR,1000⟩:S)) (λ_=>True) (λ_=>rfl) ?_ ?_
    ·refine QY (zD ?_)
     try simp only[I,RX,↓KW,Nat.reduceBEq,Nat.reduceAdd,Int.reduceLT,B]
     refine af (hF _ _ _ Ts) ?_
     try simp only[I,RX,↓KW,Nat.reduceBEq,Nat.reduceAdd,Int.reduceBEq,a9,a4]
     refine mL (.exit 4) (λ_:Unit=>(⟨[(9,.dat (I 0) none),(6,.dat (I (p+bp n0 (p) (b9 G g):Nat)) none),(5,.dat (I G) none),(7,.dat (I g) none),(8,.ptr 403 0),(1,.dat (aI aC l) none),(0,.ptr 0 0)],[(403,⟨[aI aC (dJ (dO (p) (bp n0 (p) (b9 G g)))),.bV],[]⟩),(0,⟨({t with groups:=dJ L}:Tb).cells,if L=[]then[]else[(104,0)]⟩)],bA L 0 eR,1000⟩:S)) (λ_=>True) (λ_=>rfl) ?_ ?_
     ·refine aD (λi:Nat=>(⟨[(11,.dat (I i) none),(10,.dat (I n0) none),(6,.dat (I (p+i:Nat)) none),(5,.dat (I G) none),(7,.dat (I g) none),(9,.dat (I 0) none),(8,.ptr 403 0),(1,.dat (aI aC l) none),(0,.ptr 0 0)],[(403,⟨[aI aC (dJ (dO (p) i)),.bV],if dO (p) i=[]then[]else[(0,1)]⟩),(0,⟨({t with groups:=dJ L}:Tb).cells,if L=[]then[]else[(104,0)]⟩)],bA (dO (p) i) 1 e++bA L 0 eR,1000⟩:S)) (λi=>bp n0 (p) (b9 G g)-i) (λi=>i<=bp n0 (p) (b9 G g)) ?_ 0 ST ?_
      ·intro i hi A1 D
       have ak:bp n0 (p) (b9 G g)<=8:=by simp only[bp,b9];omega
       have ab:=aA (k:=i) ST
       have hf:bp n0 (p) (b9 G g)=min n0 (b9 G g-(p)):=rfl
       have aa:IntKind.i64.wrap (((p+i:Nat):Int)+1)=((p+(i+1):Nat):Int):=by rw[aU ST ST];omega
       have al:(dO (p) i).length=i:=by simp[dO]
       by_cases E:dO (p) i=[]
       ·try simp only[I,RX,↓KW,Nat.reduceBEq,Nat.reduceAdd,E,bA,dJ,B]
        repeat' (((first|refine bn ?_ ?_|refine aB ?_ ?_|refine bM ?_ ?_)<;>intro h)<;>try simp only[RX,↓KW,Nat.reduceBEq,Nat.reduceAdd,Nat.reduceLeDiff,reduceCtorEq,Nat.reduceMul,Int.reduceLE,Int.reduceToNat,dL,M,aa,h])
        ·have V:=dC h
         refine⟨Ts,?_⟩
         refine⟨Ts,?_⟩
         have O:(i:Int)<n0:=by rename_i O;exact dC O
         refine D (i+1) _ ST ST (ai Ts ?_ ?_ ?_ ?_)<;>simp[LX,I,ab,jW,E,dJ,bO,B]
        ·have V:=dE h
         have:i=bp n0 (p) (b9 G g):=ST
         rw[<-this];refine ej () trivial ?_
         refine ai Ts ?_ ?_ ?_ ?_<;>simp[LX,E,dL]
        ·have V:=dE h
         have:i=bp n0 (p) (b9 G g):=ST
         rw[<-this];refine ej () trivial ?_
         refine ai Ts ?_ ?_ ?_ ?_<;>simp[LX,E,dL]
       ·try simp only[I,RX,↓KW,Nat.reduceBEq,Nat.reduceAdd,E,bA,dJ,B]
        repeat' (((first|refine bn ?_ ?_|refine aB ?_ ?_|refine bM ?_ ?_)<;>intro h)<;>try simp only[RX,↓KW,Nat.reduceBEq,Nat.reduceAdd,Nat.reduceLeDiff,Int.reduceLE,Int.reduceToNat,bO,M,aa,h])
        ·have V:=dC h
         refine⟨Ts,ST,Ts,?_⟩
         have O:(i:Int)<n0:=by rename_i O;exact dC O
         refine D (i+1) _ ST ST (ai Ts ?_ ?_ ?_ ?_)<;>simp[LX,I,ab,jW,E,dJ,bO,B]
        ·have V:=dE h
         have:i=bp n0 (p) (b9 G g):=ST
         rw[<-this];refine ej () trivial ?_
         refine ai Ts ?_ ?_ ?_ ?_<;>simp[LX,E,bO]
        ·have V:=dE h
         have:i=bp n0 (p) (b9 G g):=ST
         rw[<-this];refine ej () trivial ?_
         refine ai Ts ?_ ?_ ?_ ?_<;>simp[LX,E,bO]
      ·refine ai Ts ?_ ?_ ?_ ?_<;>simp[LX,I,dO,dJ,dL,B]
     ·intro _ _
      generalize a7:bp n0 p (b9 G g)=m0 at*
      have am:(dJ (dO p m0)).getD []=dO p m0:=aT _
      have au:(dO p m0).length=m0:=by simp[dO]
      have bs:m0<=8:=by rw[<-a7];simp only[bp,b9];omega
      try simp only[I,RX,↓KW,Nat.reduceBEq,Nat.reduceAdd,B]
      refine zD ?_;try simp only[RX,↓KW,Nat.reduceBEq,Nat.reduceAdd,Int.reduceLT,UQ]
      refine af (hF _ _ _ Ts) ?_
      try simp only[I,RX,↓KW,Nat.reduceBEq,Nat.reduceAdd,Int.reduceBEq,a6]
      have be:=aP l (1+2*(g:Int)+1) (n:=3) Ts Ts
      have ae:cnt l g 1 m0=if(cz l (1+2*(g:Int)+1) 3).toNat=0/\m0=0 then 1 else(cz l (1+2*(g:Int)+1) 3).toNat:=by simp[cnt]
      generalize cz l (1+2*(g:Int)+1) 3=fr1 at*;generalize bi:cnt l g 1 m0=n1 at*
      repeat' (((first|refine bn ?_ ?_|refine aB ?_ ?_|refine bM ?_ ?_)<;>intro h)<;>try simp only[RX,↓KW,Nat.reduceBEq,Nat.reduceAdd,Int.reduceLE,Int.reduceToNat,am,au,h])
      ·have an:fr1=0:=by simpa using h
       refine⟨Ts,?_⟩
       refine aB (λhz=>?_) (λhz=>?_)<;>try simp only[RX,↓KW,Nat.reduceAdd,hz]
       ·have hz:m0=0:=by simpa using hz
        have ac:(n1:Int)=1:=by rw[ae,et ⟨ST,hz⟩];rfl
        refine mL (.exit 4) (λ_:Unit=>(⟨[(9,.dat (I 1) none),(6,.dat (I (p+m0+bp n1 (p+m0) (b9 G g):Nat)) none),(5,.dat (I G) none),(7,.dat (I g) none),(8,.ptr 403 0),(1,.dat (aI aC l) none),(0,.ptr 0 0)],[(403,⟨[aI aC (dJ (dO p m0)),aI aC (dJ (dO (p+m0) (bp n1 (p+m0) (b9 G g))))],[]⟩),(0,⟨({t with groups:=dJ L}:Tb).cells,if L=[]then[]else[(104,0)]⟩)],bA L 0 eR,1000⟩:S)) (λ_=>True) (λ_=>rfl) ?_ ?_
        ·refine aD (λi:Nat=>(⟨[(11,.dat (I i) none),(10,.dat (I n1) none),(6,.dat (I (p+m0+i:Nat)) none),(5,.dat (I G) none),(7,.dat (I g) none),(9,.dat (I 1) none),(8,.ptr 403 0),(1,.dat (aI aC l) none),(0,.ptr 0 0)],[(403,⟨[aI aC (dJ (dO p m0)),aI aC (dJ (dO (p+m0) i))],if dO (p+m0) i=[]then[]else[(1,1)]⟩),(0,⟨({t with groups:=dJ L}:Tb).cells,if L=[]then[]else[(104,0)]⟩)],bA (dO (p+m0) i) 1 e++bA L 0 eR,1000⟩:S)) (λi=>bp n1 (p+m0) (b9 G g)-i) (λi=>i<=bp n1 (p+m0) (b9 G g)) ?_ 0 ST ?_
         ·intro i hi A1 D
          have ak:bp n1 (p+m0) (b9 G g)<=8:=by simp only[bp,b9];omega
          have ab:=aA (k:=i) ST
          have hf:bp n1 (p+m0) (b9 G g)=min n1 (b9 G g-(p+m0)):=rfl
          have aa:IntKind.i64.wrap (((p+m0+i:Nat):Int)+1)=((p+m0+(i+1):Nat):Int):=by rw[aU ST ST];omega
          have al:(dO (p+m0) i).length=i:=by simp[dO]
          by_cases E:dO (p+m0) i=[]
          ·try simp only[I,RX,↓KW,Nat.reduceBEq,Nat.reduceAdd,E,bA,dJ,B]
           repeat' (((first|refine bn ?_ ?_|refine aB ?_ ?_|refine bM ?_ ?_)<;>intro h)<;>try simp only[RX,↓KW,Nat.reduceBEq,Nat.reduceAdd,Nat.reduceLeDiff,reduceCtorEq,Nat.reduceMul,Int.reduceLE,Int.reduceToNat,dL,M,aa,h])
           ·have V:=dC h
            refine⟨Ts,?_⟩
            refine⟨Ts,?_⟩
            have O:(i:Int)<n1:=by rename_i O;exact dC O
            refine D (i+1) _ ST ST (ai Ts ?_ ?_ ?_ ?_)<;>simp[LX,I,ab,jW,E,dJ,bO,B]
           ·have V:=dE h
            have:i=bp n1 (p+m0) (b9 G g):=ST
            rw[<-this];refine ej () trivial ?_
            refine ai Ts ?_ ?_ ?_ ?_<;>simp[LX,E,dL]
           ·have V:=dE h
            have:i=bp n1 (p+m0) (b9 G g):=ST
            rw[<-this];refine ej () trivial ?_
            refine ai Ts ?_ ?_ ?_ ?_<;>simp[LX,E,dL]
          ·try simp only[I,RX,↓KW,Nat.reduceBEq,Nat.reduceAdd,E,bA,dJ,B]
           repeat' (((first|refine bn ?_ ?_|refine aB ?_ ?_|refine bM ?_ ?_)<;>intro h)<;>try simp only[RX,↓KW,Nat.reduceBEq,Nat.reduceAdd,Int.reduceLE,Int.reduceToNat,bO,M,aa,h])
           ·have V:=dC h
            refine⟨Ts,ST,Ts,?_⟩
            have O:(i:Int)<n1:=by rename_i O;exact dC O
            refine D (i+1) _ ST ST (ai Ts ?_ ?_ ?_ ?_)<;>simp[LX,I,ab,jW,E,dJ,bO,B]
           ·have V:=dE h
            have:i=bp n1 (p+m0) (b9 G g):=ST
            rw[<-this];refine ej () trivial ?_
            refine ai Ts ?_ ?_ ?_ ?_<;>simp[LX,E,bO]
           ·have V:=dE h
            have:i=bp n1 (p+m0) (b9 G g):=ST
            rw[<-this];refine ej () trivial ?_
            refine ai Ts ?_ ?_ ?_ ?_<;>simp[LX,E,bO]
         ·refine ai Ts ?_ ?_ ?_ ?_<;>simp[LX,I,dO,dJ,dL,B,ac]
        ·intro _ _
         try simp only[I,RX,↓KW,Nat.reduceBEq,Nat.reduceAdd,B,dJ]
         refine zD ?_;try simp only[RX,↓KW,Nat.reduceBEq,Nat.reduceAdd,Int.reduceLT,HK]
         refine ej () trivial ?_
         refine ai Ts ?_ ?_ ?_ ?_<;>simp[LX,B]
       ·have hz:¬m0=0:=by simpa using hz
        have ac:fr1=(n1:Int):=by rw[ae,ek (λhh=>hz hh.2)];omega
        refine mL (.exit 4) (λ_:Unit=>(⟨[(9,.dat (I 1) none),(6,.dat (I (p+m0+bp n1 (p+m0) (b9 G g):Nat)) none),(5,.dat (I G) none),(7,.dat (I g) none),(8,.ptr 403 0),(1,.dat (aI aC l) none),(0,.ptr 0 0)],[(403,⟨[aI aC (dJ (dO p m0)),aI aC (dJ (dO (p+m0) (bp n1 (p+m0) (b9 G g))))],[]⟩),(0,⟨({t with groups:=dJ L}:Tb).cells,if L=[]then[]else[(104,0)]⟩)],bA L 0 eR,1000⟩:S)) (λ_=>True) (λ_=>rfl) ?_ ?_
        ·refine aD (λi:Nat=>(⟨[(11,.dat (I i) none),(10,.dat (I n1) none),(6,.dat (I (p+m0+i:Nat)) none),(5,.dat (I G) none),(7,.dat (I g) none),(9,.dat (I 1) none),(8,.ptr 403 0),(1,.dat (aI aC l) none),(0,.ptr 0 0)],[(403,⟨[aI aC (dJ (dO p m0)),aI aC (dJ (dO (p+m0) i))],if dO (p+m0) i=[]then[]else[(1,1)]⟩),(0,⟨({t with groups:=dJ L}:Tb).cells,if L=[]then[]else[(104,0)]⟩)],bA (dO (p+m0) i) 1 e++bA L 0 eR,1000⟩:S)) (λi=>bp n1 (p+m0) (b9 G g)-i) (λi=>i<=bp n1 (p+m0) (b9 G g)) ?_ 0 ST ?_
         ·intro i hi A1 D
          have ak:bp n1 (p+m0) (b9 G g)<=8:=by simp only[bp,b9];omega
          have ab:=aA (k:=i) ST
          have hf:bp n1 (p+m0) (b9 G g)=min n1 (b9 G g-(p+m0)):=rfl
          have aa:IntKind.i64.wrap (((p+m0+i:Nat):Int)+1)=((p+m0+(i+1):Nat):Int):=by rw[aU ST ST];omega
          have al:(dO (p+m0) i).length=i:=by simp[dO]
          by_cases E:dO (p+m0) i=[]
          ·try simp only[I,RX,↓KW,Nat.reduceBEq,Nat.reduceAdd,E,bA,dJ,B]
           repeat' (((first|refine bn ?_ ?_|refine aB ?_ ?_|refine bM ?_ ?_)<;>intro h)<;>try simp only[RX,↓KW,Nat.reduceBEq,Nat.reduceAdd,Nat.reduceLeDiff,reduceCtorEq,Nat.reduceMul,Int.reduceLE,Int.reduceToNat,dL,M,aa,h])
           ·have V:=dC h
            refine⟨Ts,?_⟩
            refine⟨Ts,?_⟩
            have O:(i:Int)<n1:=by rename_i O;exact dC O
            refine D (i+1) _ ST ST (ai Ts ?_ ?_ ?_ ?_)<;>simp[LX,I,ab,jW,E,dJ,bO,B]
           ·have V:=dE h
            have:i=bp n1 (p+m0) (b9 G g):=ST
            rw[<-this];refine ej () trivial ?_
            refine ai Ts ?_ ?_ ?_ ?_<;>simp[LX,E,dL]
           ·have V:=dE h
            have:i=bp n1 (p+m0) (b9 G g):=ST
            rw[<-this];refine ej () trivial ?_
            refine ai Ts ?_ ?_ ?_ ?_<;>simp[LX,E,dL]
          ·try simp only[I,RX,↓KW,Nat.reduceBEq,Nat.reduceAdd,E,bA,dJ,B]
           repeat' (((first|refine bn ?_ ?_|refine aB ?_ ?_|refine bM ?_ ?_)<;>intro h)<;>try simp only[RX,↓KW,Nat.reduceBEq,Nat.reduceAdd,Int.reduceLE,Int.reduceToNat,bO,M,aa,h])
           ·have V:=dC h
            refine⟨Ts,ST,Ts,?_⟩
            have O:(i:Int)<n1:=by rename_i O;exact dC O
            refine D (i+1) _ ST ST (ai Ts ?_ ?_ ?_ ?_)<;>simp[LX,I,ab,jW,E,dJ,bO,B]
           ·have V:=dE h
            have:i=bp n1 (p+m0) (b9 G g):=ST
            rw[<-this];refine ej () trivial ?_
            refine ai Ts ?_ ?_ ?_ ?_<;>simp[LX,E,bO]
           ·have V:=dE h
            have:i=bp n1 (p+m0) (b9 G g):=ST
            rw[<-this];refine ej () trivial ?_
            refine ai Ts ?_ ?_ ?_ ?_<;>simp[LX,E,bO]
         ·refine ai Ts ?_ ?_ ?_ ?_<;>simp[LX,I,dO,dJ,dL,B,ac]
        ·intro _ _
         try simp only[I,RX,↓KW,Nat.reduceBEq,Nat.reduceAdd,B,dJ]
         refine zD ?_;try simp only[RX,↓KW,Nat.reduceBEq,Nat.reduceAdd,Int.reduceLT,HK]
         refine ej () trivial ?_
         refine ai Ts ?_ ?_ ?_ ?_<;>simp[LX,B]
      ·have an:¬fr1=0:=by simpa using h
       have ac:fr1=(n1:Int):=by rw[ae,ek (λhh=>an ST)];omega
       refine mL (.exit 4) (λ_:Unit=>(⟨[(9,.dat (I 1) none),(6,.dat (I (p+m0+bp n1 (p+m0) (b9 G g):Nat)) none),(5,.dat (I G) none),(7,.dat (I g) none),(8,.ptr 403 0),(1,.dat (aI aC l) none),(0,.ptr 0 0)],[(403,⟨[aI aC (dJ (dO p m0)),aI aC (dJ (dO (p+m0) (bp n1 (p+m0) (b9 G g))))],[]⟩),(0,⟨({t with groups:=dJ L}:Tb).cells,if L=[]then[]else[(104,0)]⟩)],bA L 0 eR,1000⟩:S)) (λ_=>True) (λ_=>rfl) ?_ ?_
       ·refine aD (λi:Nat=>(⟨[(11,.dat (I i) none),(10,.dat (I n1) none),(6,.dat (I (p+m0+i:Nat)) none),(5,.dat (I G) none),(7,.dat (I g) none),(9,.dat (I 1) none),(8,.ptr 403 0),(1,.dat (aI aC l) none),(0,.ptr 0 0)],[(403,⟨[aI aC (dJ (dO p m0)),aI aC (dJ (dO (p+m0) i))],if dO (p+m0) i=[]then[]else[(1,1)]⟩),(0,⟨({t with groups:=dJ L}:Tb).cells,if L=[]then[]else[(104,0)]⟩)],bA (dO (p+m0) i) 1 e++bA L 0 eR,1000⟩:S)) (λi=>bp n1 (p+m0) (b9 G g)-i) (λi=>i<=bp n1 (p+m0) (b9 G g)) ?_ 0 ST ?_
        ·intro i hi A1 D
         have ak:bp n1 (p+m0) (b9 G g)<=8:=by simp only[bp,b9];omega
         have ab:=aA (k:=i) ST
         have hf:bp n1 (p+m0) (b9 G g)=min n1 (b9 G g-(p+m0)):=rfl
         have aa:IntKind.i64.wrap (((p+m0+i:Nat):Int)+1)=((p+m0+(i+1):Nat):Int):=by rw[aU ST ST];omega
         have al:(dO (p+m0) i).length=i:=by simp[dO]
         by_cases E:dO (p+m0) i=[]
         ·try simp only[I,RX,↓KW,Nat.reduceBEq,Nat.reduceAdd,E,bA,dJ,B]
          repeat' (((first|refine bn ?_ ?_|refine aB ?_ ?_|refine bM ?_ ?_)<;>intro h)<;>try simp only[RX,↓KW,Nat.reduceBEq,Nat.reduceAdd,Nat.reduceLeDiff,reduceCtorEq,Nat.reduceMul,Int.reduceLE,Int.reduceToNat,dL,M,aa,h])
          ·have V:=dC h
           refine⟨Ts,?_⟩
           refine⟨Ts,?_⟩
           have O:(i:Int)<n1:=by rename_i O;exact dC O
           refine D (i+1) _ ST ST (ai Ts ?_ ?_ ?_ ?_)<;>simp[LX,I,ab,jW,E,dJ,bO,B]
          ·have V:=dE h
           have:i=bp n1 (p+m0) (b9 G g):=ST
           rw[<-this];refine ej () trivial ?_
           refine ai Ts ?_ ?_ ?_ ?_<;>simp[LX,E,dL]
          ·have V:=dE h
           have:i=bp n1 (p+m0) (b9 G g):=ST
           rw[<-this];refine ej () trivial ?_
           refine ai Ts ?_ ?_ ?_ ?_<;>simp[LX,E,dL]
         ·try simp only[I,RX,↓KW,Nat.reduceBEq,Nat.reduceAdd,E,bA,dJ,B]
          repeat' (((first|refine bn ?_ ?_|refine aB ?_ ?_|refine bM ?_ ?_)<;>intro h)<;>try simp only[RX,↓KW,Nat.reduceBEq,Nat.reduceAdd,Int.reduceLE,Int.reduceToNat,bO,M,aa,h])
          ·have V:=dC h
           refine⟨Ts,ST,Ts,?_⟩
           have O:(i:Int)<n1:=by rename_i O;exact dC O
           refine D (i+1) _ ST ST (ai Ts ?_ ?_ ?_ ?_)<;>simp[LX,I,ab,jW,E,dJ,bO,B]
          ·have V:=dE h
           have:i=bp n1 (p+m0) (b9 G g):=ST
           rw[<-this];refine ej () trivial ?_
           refine ai Ts ?_ ?_ ?_ ?_<;>simp[LX,E,bO]
          ·have V:=dE h
           have:i=bp n1 (p+m0) (b9 G g):=ST
           rw[<-this];refine ej () trivial ?_
           refine ai Ts ?_ ?_ ?_ ?_<;>simp[LX,E,bO]
        ·refine ai Ts ?_ ?_ ?_ ?_<;>simp[LX,I,dO,dJ,dL,B,ac]
       ·intro _ _
        try simp only[I,RX,↓KW,Nat.reduceBEq,Nat.reduceAdd,B,dJ]
        refine zD ?_;try simp only[RX,↓KW,Nat.reduceBEq,Nat.reduceAdd,Int.reduceLT,HK]
        refine ej () trivial ?_
        refine ai Ts ?_ ?_ ?_ ?_<;>simp[LX,B]
    ·intro _ _
     have ar:=Tb.Lz (t:={t with groups:=dJ L}) ht.phases
     have a8:=Tb.len' (t:={t with groups:=dJ L}) ht.phases ht.conflict ht.ee
     have ad:=Tb.LA (t:={t with groups:=dJ L}) ht.phases (some (L++[⟨dJ (dO p (bp n0 p (b9 G g))),dJ (dO (p+bp n0 p (b9 G g)) (bp (cnt l g 1 (bp n0 p (b9 G g))) (p+bp n0 p (b9 G g)) (b9 G g)))⟩]))
     simp only[B,dJ,kh,ib]at ar a8 ad;try simp only[I,RX,↓KW,Nat.reduceBEq,Nat.reduceAdd,Nat.reduceLeDiff,reduceCtorEq,Nat.reduceMul,ar,dL,bO,Gr.len,ag,B,dJ]
     try refine⟨ST,?_⟩
     try refine⟨by simp[bA,B,fq],?_⟩
     try refine⟨ST,?_⟩
     simp[bO,Gr.cells]at ad
     refine back (g+1) _ ST ST (ai Ts ?_ ?_ ?_ ?_)<;>simp[LX,I,ao,hw,B,dJ,ad]
     trace_state
   ·have a5:g=G:=by have:=dE h;omega
    subst a5
    first
     |(exfalso;rw[B]at ag;simp at ag;omega)
     |exact⟨by rw[hR],by rw[hR]⟩
 ·have:({t with groups:=none}:Tb)=t:=by cases t;simp_all
  refine ai Ts ?_ ?_ ?_ ?_<;>simp[LX,I,bl,dJ,this]
end
structure Tb.Ln (t:Tb):Prop where
 phases:t.phases.length=8
 conflict:t.conflict.length=8
 ee:t.ee.length=8
theorem Tb.Ok.ln{t:Tb} (h:t.Ok):t.Ln:=⟨h.phases,h.conflict,h.ee⟩
section
variable{t:Tb} (h:t.Ln)
include h
section
variable {i off:Nat} {post ps:List AV} (v:Int)
theorem Tb.Ln.len:t.cells.length=131:=by
 simp[Tb.cells,aN Ph.len,h.phases,h.conflict,h.ee]
theorem Tb.Ln.whole:aF t.cells 0 (some 131)=some (.agg t.cells):=by
 have A:=h.len
 rw[yg _ _ _ ST,lL,<-A,gn]
theorem Tb.Ln.JA:t.cells[113]? =some (aI A7.cells t.aL):=by
 simp[Tb.cells,aN Ph.len,h.phases,h.conflict,h.ee]
theorem Tb.Ln.Cv:t.cells[114]? =some (aI Rl.cells t.aV):=by
 simp[Tb.cells,aN Ph.len,h.phases,h.conflict,h.ee]
theorem Tb.Ln.JB:t.cells[115]? =some (aI Bs.cells t.f9):=by
 simp[Tb.cells,aN Ph.len,h.phases,h.conflict,h.ee]
theorem Tb.Ln.acd:t.cells[129]? =some (I t.rR):=by
 simp[Tb.cells,aN Ph.len,h.phases,h.conflict,h.ee]
theorem Tb.Ln.oR{c:Int} (A:t.conflict[i]? =some c):t.cells[105+i]? =some (I c):=by
 have B:i<8:=by have:=(er.1 A).1;rw[h.conflict]at this;exact this
 have e:(t.phases.flatMap Ph.cells).length=104:=by rw[aN Ph.len,h.phases]
 unfold Tb.cells
 rw[kw ST,e,show 105+i-104=i+1 by omega,kv,lc (by simp[h.conflict,B]),im,A];rfl
def Tb.rest(t:Tb):List AV:=aI Gr.cells t.groups::(t.conflict.map I++(aI A7.cells t.aL::aI Rl.cells t.aV::aI Bs.cells t.f9::
  I t.extend::I t.gW::I t.start::I t.revert::I t.least::(t.ee.map I++[I t.rR,I t.share])))
omit h in
theorem bW{pre:List AV} (A:pre.length<=off):setCells (pre++post) off ps=pre++setCells post (off-pre.length) ps:=by
 simp only[setCells,List.take_append,PQ,List.append_assoc]
 rw[l4 A,yi ST,show off+ps.length-pre.length=off-pre.length+ps.length by omega]
 rfl
omit h in
theorem Ep{pre:List AV} (A:off+ps.length<=pre.length):setCells (pre++post) off ps=setCells pre off ps++post:=by
 simp only[setCells]
 rw[H3 ST,List.drop_append_of_le_length A]
 simp
omit h in
theorem MW{l:List Int} {v:Int} (A:i<l.length):setCells (l.map I) i [I v]=(l.set i v).map I:=by
 simp only[setCells,eW,fl];rw[Ha,et A];simp[List.map_take,List.map_drop]
omit h in
theorem gA(c:AV) (cs ps:List AV) (k:Nat):setCells (c::cs) (k+1) ps=c::setCells cs k ps:=by
 simp only[setCells,ww,s9,show k+1+ps.length=(k+ps.length)+1 by omega,mr]
theorem Tb.Ln.Ow(B:i<8) (q:Ph):setCells t.cells (i*13) q.cells=({t with phases:=t.phases.set i q}:Tb).cells:=by
 obtain⟨p,A⟩:∃p,t.phases[i]? =some p:=⟨_,dT (by rw[h.phases];exact B)⟩
 exact Tb.Ot A
theorem Tb.Ln.zE(A:i<8) (v:Int):setCells t.cells (105+i) [I v]=({t with conflict:=t.conflict.set i v}:Tb).cells:=by
 have e:(t.phases.flatMap Ph.cells).length=104:=by rw[aN Ph.len,h.phases]
 unfold Tb.cells
 rw[bW ST,e,show 105+i-104=i+1 by omega,gA,Ep (by simp[h.conflict];omega),MW (by rw[h.conflict];exact A)]
theorem Tb.Ln.Gy(A:i<8) (v:Int):setCells t.cells (121+i) [I v]=({t with ee:=t.ee.set i v}:Tb).cells:=by
 have e:(t.phases.flatMap Ph.cells).length=104:=by rw[aN Ph.len,h.phases]
 unfold Tb.cells
 rw[bW ST,e,show 121+i-104=(i+16)+1 by omega,gA,bW (by simp[h.conflict]),show i+16-(t.conflict.map I).length=i+8 by simp[h.conflict]]
 simp only[gA]
 rw[Ep (by simp[h.ee];omega),MW (by rw[h.ee];exact A)]
theorem Tb.Ln.QZ(d:Option (List A7)):setCells t.cells 113 [aI A7.cells d]=({t with aL:=d}:Tb).cells:=by
 have e:(t.phases.flatMap Ph.cells).length=104:=by rw[aN Ph.len,h.phases]
 have A:(t.conflict.map I).length=8:=by simp[h.conflict]
 unfold Tb.cells
 rw[bW ST,e,show 113-104=8+1 by omega,gA,bW ST,A]
 rfl
theorem Tb.Ln.Ox(d:Option (List Rl)):setCells t.cells 114 [aI Rl.cells d]=({t with aV:=d}:Tb).cells:=by
 have e:(t.phases.flatMap Ph.cells).length=104:=by rw[aN Ph.len,h.phases]
 have A:(t.conflict.map I).length=8:=by simp[h.conflict]
 unfold Tb.cells
 rw[bW ST,e,show 114-104=9+1 by omega,gA,bW ST,A]
 rfl
theorem Tb.Ln.Oy(d:Option (List Bs)):setCells t.cells 115 [aI Bs.cells d]=({t with f9:=d}:Tb).cells:=by
 have e:(t.phases.flatMap Ph.cells).length=104:=by rw[aN Ph.len,h.phases]
 have A:(t.conflict.map I).length=8:=by simp[h.conflict]
 unfold Tb.cells
 rw[bW ST,e,show 115-104=10+1 by omega,gA,bW ST,A]
 rfl
theorem Tb.Ln.ur:setCells t.cells 116 [I v]=({t with extend:=v}:Tb).cells/\setCells t.cells 117 [I v]=({t with gW:=v}:Tb).cells/\setCells t.cells 118 [I v]=({t with start:=v}:Tb).cells/\
  setCells t.cells 119 [I v]=({t with revert:=v}:Tb).cells/\setCells t.cells 120 [I v]=({t with least:=v}:Tb).cells:=by
 have e:(t.phases.flatMap Ph.cells).length=104:=by rw[aN Ph.len,h.phases]
 have A:(t.conflict.map I).length=8:=by simp[h.conflict]
 unfold Tb.cells;refine⟨?_,?_,?_,?_,?_⟩
 ·rw[bW ST,e,show 116-104=11+1 by omega,gA,bW ST,A];rfl
 ·rw[bW ST,e,show 117-104=12+1 by omega,gA,bW ST,A];rfl
 ·rw[bW ST,e,show 118-104=13+1 by omega,gA,bW ST,A];rfl
 ·rw[bW ST,e,show 119-104=14+1 by omega,gA,bW ST,A];rfl
 ·rw[bW ST,e,show 120-104=15+1 by omega,gA,bW ST,A];rfl
theorem Tb.Ln.JC:setCells t.cells 129 [I v]=({t with rR:=v}:Tb).cells/\setCells t.cells 130 [I v]=({t with share:=v}:Tb).cells:=by
 have e:(t.phases.flatMap Ph.cells).length=104:=by rw[aN Ph.len,h.phases]
 have B:(t.conflict.map I).length=8:=by simp[h.conflict]
 have A:(t.ee.map I).length=8:=by simp[h.ee]
 unfold Tb.cells;refine⟨?_,?_⟩
 ·rw[bW ST,e,show 129-104=24+1 by omega,gA,bW ST,B]
  simp only[Nat.reduceSub,gA]
  rw[bW ST,A];rfl
 ·rw[bW ST,e,show 130-104=25+1 by omega,gA,bW ST,B]
  simp only[Nat.reduceSub,gA]
  rw[bW ST,A];rfl
end
end
end Go.Eng
