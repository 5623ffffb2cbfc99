/- The engine and the library,part 8 of 18: what the proofs of this seat need of them. -/
import Derived.Test.YthoinfdfenkgnaaGreatPk7
set_option linter.unnecessarySimpa false
set_option linter.unusedSimpArgs false
set_option linter.unusedVariables false
set_option linter.defProp false
set_option maxRecDepth 10000
set_option maxHeartbeats 4000000
namespace Go.Eng
open Go
def jH(l:List Int):Int:=l.foldl Fu 0
def gQ(l:List Int):Int:=l.foldl (fun n x=>if x>n then x else n) 0
theorem kq{α β:Type} {f:β->α->β} {b:β} {l:List α} {i:Nat} {x:α} (h:l[i]? =some x):(l.take (i+1)).foldl f b=f ((l.take i).foldl f b) x:=by
 rw[jj h,List.foldl_append];rfl
def xu.Spec(C:aS) (f:Nat):Prop:=∀l:Option (List Int),(l.getD []).length<=140737488355328->C.c f [aH aD l] (I (jH (l.getD []))) none
def most.Spec(C:aS) (f:Nat):Prop:=∀l:Option (List Int),(l.getD []).length<=140737488355328->C.c f [aH aD l] (I (gQ (l.getD []))) none
def aR(t:Tb) (p:Int):Sp×Bool:=match(cU t).find? (fun x=>x.p==p)with
 |some x=>(x,true)
 |none=>(⟨0,0,0,0⟩,false)
def where.Spec(C:aS) (f:Nat):Prop:=∀(t:Tb) (p:Int),t.Ok->C.c f [.agg t.cells,I p] (.cN [.agg (aR t p).1.cells,B (aR t p).2]) none
def mu(t:Tb) (p q:Int):Bool:=(aR t p).2&&(aR t q).2&&(aR t p).1.group==(aR t q).1.group&&(aR t p).1.ring !=(aR t q).1.ring
def beside.Spec(C:aS) (f:Nat):Prop:=∀(t:Tb) (p q:Int),t.Ok->C.c f [.agg t.cells,I p,I q] (B (mu t p q)) none
def aX(t:Tb) (p:Int):Ph:=t.phases.getD p.toNat default
def xw(t:Tb) (k:Nat):List Int:=((List.range k).map fun(k:Nat)=>(k:Int)).filter fun p=>(aX t p).on
def wE(t:Tb):Int:=SF (xw t 8)
def on.Spec(C:aS) (f:Nat):Prop:=∀(t:Tb),t.Ok->C.c f [.agg t.cells] (I (wE t)) none
theorem LC(t:Tb) (k:Nat):xw t (k+1)=if(aX t k).on then xw t k++[(k:Int)]else xw t k:=by
 simp only[xw,List.range_succ,List.map_append,List.filter_append,List.map_cons,List.map_nil,List.filter_cons,List.filter_nil]
 split<;>simp
theorem sR{t:Tb} (h:t.Ok) {k:Nat} (hk:k<8):t.phases[k]? =some (aX t k):=by
 have:k<t.phases.length:=by rw[h.phases];exact hk
 simp[aX,this]
theorem Tb.Fv{t:Tb} (ht:t.Ok) {x:Int} (h0:0<=x) (h8:x<8):t.cells[x.toNat*13]? =some (B (aX t x).on)/\t.cells[x.toNat*13+1]? =some (I (aX t x).min)/\t.cells[x.toNat*13+2]? =some (I (aX t x).Pb)/\t.cells[x.toNat*13+3]? =some (I (aX t x).max)/\t.cells[x.toNat*13+4]? =some (I (aX t x).top)/\t.cells[x.toNat*13+5]? =some (I (aX t x).step)/\t.cells[x.toNat*13+6]? =some (I (aX t x).ei)/\t.cells[x.toNat*13+7]? =some (I (aX t x).red)/\t.cells[x.toNat*13+8]? =some (I (aX t x).walk)/\t.cells[x.toNat*13+9]? =some (I (aX t x).f7)/\t.cells[x.toNat*13+10]? =some (I (aX t x).kj)/\t.cells[x.toNat*13+11]? =some (B (aX t x).lock)/\t.cells[x.toNat*13+12]? =some (B (aX t x).rest):=by
 have:=Tb.yS (sR ht (k:=x.toNat) (by omega))
 rw[Int.toNat_of_nonneg h0]at this;exact this
theorem Tb.NF{t:Tb} (ht:t.Ok) {x:Int} (h0:0<=x) (h8:x<8):ay t.cells (x.toNat*13) (some 13)=some (.agg (aX t x).cells):=by
 have:=Tb.mT (sR ht (k:=x.toNat) (by omega))
 rw[Int.toNat_of_nonneg h0]at this;exact this
theorem uo{α:Type} {p:α->Bool} {l:List α} {i:Nat} {x:α} (h:l[i]? =some x) (hp:p x=true) (hn:∀y∈l.take i,p y=false):l.find? p=some x:=by
 rw[Fo h,List.find?_append]
 have:(l.take i).find? p=none:=by rw[List.find?_eq_none];intro y hy;simp[hn y hy]
 simp[this,hp]
section
variable{P:Program} (hm:P.follows .mixedOrders=true) {f:Nat}
include hm
theorem Sum.ok{fA:Nat} (hc:bF P f=some (xk fA)) (hA:Add.Spec (Pure P) fA):xu.Spec (Pure P) f:=by
 intro l hlen
 refine ak hm hc (by show 1<=18;decide) (aj (keep:=[]) (i:=0) ?_)
 try simp only[I,RX,↓KW,seval,xk,Z.H]
 refine aG (fun i:Nat=>(⟨[(4,.dat (I i) none),(0,.dat (aH aD l) none),(3,.dat (I (jH ((l.getD []).take i))) none)],[],[],400⟩:S)) (fun i=>(l.getD []).length-i) (fun i=>i<=(l.getD []).length) ?_ 0 (by omega) ?_
 ·intro i hi A back
  have hw:=aB (k:=i) (by omega)
  try simp only[I,RX,↓KW,seval]
  refine ax (fun h=>?_) (fun h=>?_)<;>try simp only[RX,↓KW,seval,h]
  ·have hlt:i<(l.getD []).length:=by have:=of_decide_eq_true h;omega
   obtain⟨x,hx⟩:∃x,(l.getD [])[i]? =some x:=⟨_,List.getElem?_eq_getElem hlt⟩
   have hn:jH ((l.getD []).take (i+1))=Fu (jH ((l.getD []).take i)) x:=kq hx
   refine⟨by omega,?_⟩
   try simp only[I,RX,↓KW,seval,hx,aD]
   refine af (hA _ _) ?_;try simp only[I,RX,↓KW,seval]
   refine back (i+1) _ (by omega) (by omega) (ai (by decide) ?_ ?_ ?_ ?_)<;>simp[LX,I,hw,hn]
  ·have:i=(l.getD []).length:=by have:=of_decide_eq_false h;omega
   subst this;simp
 ·refine ai (by decide) ?_ ?_ ?_ ?_<;>simp[LX,I,jH]
theorem xu.ok{fS:Nat} (hc:bF P f=some (xh fS)) (hS:xu.Spec (Pure P) fS):xu.Spec (Pure P) f:=by
 intro l hlen
 refine ak hm hc (by show 1<=5;decide) (aj (keep:=[]) (i:=0) ?_)
 try simp only[I,RX,↓KW,seval,xh,Z.H]
 refine af (hS l hlen) ?_;try simp only[I,RX,↓KW,seval]
theorem most.ok(hc:bF P f=some vk):most.Spec (Pure P) f:=by
 intro l hlen
 refine ak hm hc (by show 1<=18;decide) (aj (keep:=[]) (i:=0) ?_)
 try simp only[I,RX,↓KW,seval,vk,Z.H]
 refine aG (fun i:Nat=>(⟨[(4,.dat (I i) none),(0,.dat (aH aD l) none),(3,.dat (I (gQ ((l.getD []).take i))) none)],[],[],400⟩:S)) (fun i=>(l.getD []).length-i) (fun i=>i<=(l.getD []).length) ?_ 0 (by omega) ?_
 ·intro i hi A back
  have hw:=aB (k:=i) (by omega)
  try simp only[I,RX,↓KW,seval]
  refine ax (fun h=>?_) (fun h=>?_)<;>try simp only[RX,↓KW,seval,h]
  ·have hlt:i<(l.getD []).length:=by have:=of_decide_eq_true h;omega
   obtain⟨x,hx⟩:∃x,(l.getD [])[i]? =some x:=⟨_,List.getElem?_eq_getElem hlt⟩
   have hn:gQ ((l.getD []).take (i+1))=(if x>gQ ((l.getD []).take i)then x else gQ ((l.getD []).take i)):=kq hx
   refine⟨by omega,?_⟩
   try simp only[I,RX,↓KW,seval,hx,aD]
   refine back (i+1) _ (by omega) (by omega) (ai (by decide) ?_ ?_ ?_ ?_)<;>simp[LX,I,hw,hn]
  ·have:i=(l.getD []).length:=by have:=of_decide_eq_false h;omega
   subst this;simp
 ·refine ai (by decide) ?_ ?_ ?_ ?_<;>simp[LX,I,gQ]
theorem where.ok{fS e:Nat} (hc:bF P f=some (sN fS)) (hS:cU.Spec (Pure P) fS e):where.Spec (Pure P) f:=by
 intro t p ht
 have hp:=Tb.whole ht
 have hsz:=Em ht
 refine ak hm hc (by show 2<=28;decide) (aj (keep:=[]) (i:=0) ?_)
 try simp only[I,B,RX,↓KW,seval,sN,Z.H,hp]
 refine af (hS t none ht (.inl rfl)) ?_;try simp only[RX,↓KW,seval]
 refine aG (fun i:Nat=>(⟨[(7,.dat (I i) none),(6,.dat (aH Sp.cells (dH (cU t))) none),(1,.dat (I p) none),(4,.ptr 5 0)],[(5,⟨[I 0,I 0,I 0,I 0],[]⟩)],[],400⟩:S)) (fun i=>(cU t).length-i) (fun i=>i<=(cU t).length/\∀x∈(cU t).take i,x.p≠p) ?_ 0 (by simp) ?_
 ·intro i ⟨hi,hnot⟩ A back
  have hw:=aB (k:=i) (by omega)
  have hmk:(dH (cU t)).getD []=cU t:=by unfold dH;split<;>simp_all
  try simp only[I,RX,↓KW,seval,hmk]
  refine ax (fun h=>?_) (fun h=>?_)<;>try simp only[RX,↓KW,seval,hmk,h]
  ·have hlt:i<(cU t).length:=by have:=of_decide_eq_true h;omega
   obtain⟨x,hx⟩:∃x,(cU t)[i]? =some x:=⟨_,List.getElem?_eq_getElem hlt⟩
   have htk:=jj hx
   refine⟨by omega,?_⟩
   try simp only[I,RX,↓KW,seval,hx,Sp.cells]
   refine ax (fun h2=>?_) (fun h2=>?_)<;>try simp only[I,RX,↓KW,seval,hx,Sp.cells,hmk,h2]
   ·have hw2:aR t p=(x,true):=by
     have:(cU t).find? (fun x=>x.p==p)=some x:=uo hx (by simpa using h2) (fun y hy=>by simpa using hnot y hy)
     simp[aR,this]
    exact⟨by omega,by simp[hw2]⟩
   ·refine back (i+1) _ ⟨by omega,?_⟩ (by omega) ?_
    ·rw[htk];simp only[List.mem_append,List.mem_singleton];rintro y (hy|rfl);exact hnot y hy;simpa using h2
    ·refine ai (by decide) ?_ ?_ ?_ ?_<;>simp[LX,I,hw]
  ·have:i=(cU t).length:=by have:=of_decide_eq_false h;omega
   subst this
   have hw2:aR t p=(⟨0,0,0,0⟩,false):=by
    have:(cU t).find? (fun x=>x.p==p)=none:=by
     rw[List.find?_eq_none];intro x hx;simpa using hnot x (by simpa using hx)
    simp[aR,this]
   try simp only[I,seval,hw2,Sp.cells]
 ·refine ai (by decide) ?_ ?_ ?_ ?_<;>simp[LX,I]
theorem beside.ok{fW:Nat} (hc:bF P f=some (qP fW)) (hW:where.Spec (Pure P) fW):beside.Spec (Pure P) f:=by
 intro t p q ht
 have hp:=Tb.whole ht
 refine ak hm hc (by show 3<=41;decide) (aj (keep:=[]) (i:=0) ?_)
 try simp only[I,B,RX,↓KW,seval,qP,Z.H,hp]
 repeat' (first|(refine af (hW t _ ht) ?_;try simp only[I,B,RX,↓KW,seval,hp,Sp.cells])|(((first|refine aV ?_ ?_|refine ax ?_ ?_|refine bC ?_ ?_)<;>intro h)<;>try simp only[RX,↓KW,seval,h]))
 all_goals simp_all [mu]
theorem on.ok{e fO:Nat} (hc:bF P f=some (sJ e fO)) (hO:zP.Spec (Pure P) fO):on.Spec (Pure P) f:=by
 intro t ht
 refine ak hm hc (by show 1<=20;decide) (aj (keep:=[]) (i:=0) ?_)
 try simp only[I,RX,↓KW,seval,sJ,Z.H]
 refine aG (fun k:Nat=>(⟨[(4,.dat (I k) none),(1,.ptr 4 0),(3,bG aD (xw t k) 0)],[(4,⟨t.cells,[]⟩)],bK (xw t k) 0 e,400⟩:S)) (fun k=>8-k) (fun k=>k<=8) ?_ 0 (by omega) ?_
 ·intro k hk A back
  have hw:=aB (k:=k) (by omega)
  have hn:=LC t k
  have hlen:(xw t k).length<=k:=by
   have:=List.length_filter_le (fun p=>(aX t p).on) ((List.range k).map fun(k:Nat)=>(k:Int))
   simpa[xw]using this
  by_cases hl:xw t k=[]
  ·try simp only[I,RX,↓KW,seval,bG,bK,hl]
   refine ax (fun h=>?_) (fun h=>?_)<;>try simp only[RX,↓KW,seval,h]
   ·have h8:=of_decide_eq_true h
    have hph:=Tb.yS (sR ht (k:=k) (by omega))
    refine⟨by omega,?_⟩
    try simp only[B,RX,↓KW,seval,hph]
    refine ax (fun h2=>?_) (fun h2=>?_)<;>try simp only[RX,↓KW,seval,h2]
    ·refine back (k+1) _ (by omega) (by omega) (ai (by decide) ?_ ?_ ?_ ?_)<;>simp[LX,I,hn,hl,h2,hw]
    ·refine back (k+1) _ (by omega) (by omega) (ai (by decide) ?_ ?_ ?_ ?_)<;>simp[LX,I,hn,hl,h2,hw]
   ·have:k=8:=by have:=of_decide_eq_false h;omega
    subst this;try simp only[I,B,D,RX,↓KW,seval]
    refine af (hO none (by simp)) ?_
    try simp only[I,RX,↓KW,seval]
    simp[wE,hl]
  ·try simp only[I,RX,↓KW,seval,bG,bK,hl]
   refine ax (fun h=>?_) (fun h=>?_)<;>try simp only[RX,↓KW,seval,h]
   ·have h8:=of_decide_eq_true h
    have hph:=Tb.yS (sR ht (k:=k) (by omega))
    refine⟨by omega,?_⟩
    try simp only[B,RX,↓KW,seval,hph]
    refine ax (fun h2=>?_) (fun h2=>?_)<;>try simp only[RX,↓KW,seval,h2]
    ·refine⟨by omega,?_⟩
     refine back (k+1) _ (by omega) (by omega) (ai (by decide) ?_ ?_ ?_ ?_)<;>simp[LX,I,hn,hl,h2,hw]
    ·refine back (k+1) _ (by omega) (by omega) (ai (by decide) ?_ ?_ ?_ ?_)<;>simp[LX,I,hn,hl,h2,hw]
   ·have:k=8:=by have:=of_decide_eq_false h;omega
    subst this;try simp only[I,B,D,RX,↓KW,seval]
    refine af (hO (some (xw t 8)) (by simp;omega)) ?_
    try simp only[I,RX,↓KW,seval]
    simp[wE]
 ·refine ai (by decide) ?_ ?_ ?_ ?_<;>simp[LX,I,xw]
end
def lH(t:Tb):Int:=gQ ((jE (wE t)).map fun p=>jH [(aX t p).ei,(aX t p).red])
def clear.Spec(C:aS) (f:Nat):Prop:=∀(t:Tb),t.Ok->C.c f [.agg t.cells] (I (lH t)) none
def kr(t:Tb) (p:Int):Int:=if uP (wE t) p then jH [gQ [iJ (aX t p).min,jH [(aX t p).walk,(aX t p).f7],iJ (aX t p).top],t.extend,(aX t p).ei,(aX t p).red,t.revert,8]else 0
def serve.Spec(C:aS) (f:Nat):Prop:=∀(t:Tb) (p:Int),t.Ok->C.c f [.agg t.cells,I p] (I (kr t p)) none
def gy(t:Tb) (g:Int) (n:Nat):List Int:=8::(((cU t).take n).filter (fun x=>x.group==g)).map (fun x=>kr t x.p)
def nQ(t:Tb) (g:Int):Int:=if g<0\/((t.groups.getD []).length:Int)<=g then 0 else jH (gy t g (cU t).length)
def pass.Spec(C:aS) (f:Nat):Prop:=∀(t:Tb) (g:Int),t.Ok->C.c f [.agg t.cells,I g] (I (nQ t g)) none
def oU(t:Tb) (p:Int):Int:=if(aR t p).2&&uP (wE t) p then jH (nQ t (aR t p).1.group::(List.range (t.groups.getD []).length).map fun(g:Nat)=>nQ t g)else 0
def free.Spec(C:aS) (f:Nat):Prop:=∀(t:Tb) (p:Int),t.Ok->C.c f [.agg t.cells,I p] (I (oU t p)) none
def vS(t:Tb) (k:Int):Rl:=(t.bQ.getD []).getD k.toNat default
def qq(t:Tb) (k:Int):Int:=if k<0\/((t.bQ.getD []).length:Int)<=k then 0 else
 jH [(vS t k).delay,(vS t k).hold,(vS t k).green,(vS t k).green,(vS t k).gV,(vS t k).gV,(vS t k).gV,lH t,lH t,lH t,lH t,lH t,t.revert,t.revert,t.revert,60]
def entry.Spec(C:aS) (f:Nat):Prop:=∀(t:Tb) (k:Int),t.Ok->C.c f [.agg t.cells,I k] (I (qq t k)) none
theorem BR{s p:Int} (h:uP s p=true):0<=p/\p<8:=by
 simp only[uP,Bool.and_eq_true,decide_eq_true_eq]at h;exact h.1
theorem zR{s p:Int} (h:p∈jE s):0<=p/\p<8:=BR (List.mem_filter.1 h).2
theorem En(s:Int):(jE s).length<=8:=by
 have:=List.length_filter_le (uP s) ((List.range 8).map fun(k:Nat)=>(k:Int))
 simpa[jE]using this
theorem dV{α:Type} (l:List α):(dH l).getD []=l:=by unfold dH;split<;>simp_all
theorem vl{α β:Type} {f:α->β} {l:List α} {i:Nat} {x:α} (h:l[i]? =some x):(l.take (i+1)).map f=(l.take i).map f++[f x]:=by rw[jj h];simp
theorem G6{t:Tb} {g:Int} {k:Nat} {x:Sp} (h:(cU t)[k]? =some x):gy t g (k+1)=if x.group==g then gy t g k++[kr t x.p]else gy t g k:=by
 unfold gy;rw[jj h,List.filter_append,List.map_append]
 by_cases hx:x.group==g<;>simp[hx]
theorem BS(t:Tb) (g:Int) (k:Nat):(gy t g k).length<=k+1:=by
 have:=List.length_filter_le (fun x:Sp=>x.group==g) ((cU t).take k)
 have h2:((cU t).take k).length<=k:=List.length_take_le _ _
 simp only[gy,List.length_cons,List.length_map];omega
section
variable{P:Program} (hm:P.follows .mixedOrders=true) {f:Nat}
include hm
theorem clear.ok{fO fL e fS fM:Nat} (hc:bF P f=some (sP fO fL e fS fM)) (hO:on.Spec (Pure P) fO) (hL:qm.Spec (Pure P) fL e) (hS:xu.Spec (Pure P) fS) (hM:most.Spec (Pure P) fM):clear.Spec (Pure P) f:=by
 intro t ht
 have hp:=Tb.whole ht
 refine ak hm hc (by show 1<=32;decide) (aj (keep:=[]) (i:=0) ?_)
 try simp only[I,RX,↓KW,seval,sP,Z.H,hp]
 refine af (hO t ht) ?_;try simp only[I,RX,↓KW,seval]
 refine af (hL _ none (.inl rfl)) ?_;try simp only[RX,↓KW,seval]
 have hlen:=En (wE t)
 have hrg:=@zR (wE t)
 have hmost:∀G,G=(jE (wE t)).map (fun p=>jH [(aX t p).ei,(aX t p).red])->lH t=gQ G:=fun G h=>by rw[h];rfl
 generalize jE (wE t)=L at*
 generalize hF:(fun p=>jH [(aX t p).ei,(aX t p).red])=F at*
 have hF':∀p,F p=jH [(aX t p).ei,(aX t p).red]:=fun p=>by rw[<-hF]
 have hmk:=dV L
 refine aG (fun k:Nat=>(⟨[(10,.dat (I k) none),(9,.dat (I L.length) none),(8,.dat (aH aD (dH L)) none),(1,.ptr 4 0),(3,bG aD ((L.take k).map F) 0)],[(4,⟨t.cells,[]⟩)],bK ((L.take k).map F) 0 e,400⟩:S)) (fun k=>L.length-k) (fun k=>k<=L.length) ?_ 0 (by omega) ?_
 ·intro k hk A back
  have hw:=aB (k:=k) (by omega)
  by_cases hl:(L.take k).map F=[]
  all_goals
   try simp only[I,RX,↓KW,seval,bG,bK,hl]
   refine ax (fun h=>?_) (fun h=>?_)<;>try simp only[RX,↓KW,seval,hmk,h]
  ·have hlt:k<L.length:=by have:=of_decide_eq_true h;omega
   obtain⟨x,hx⟩:∃x,L[k]? =some x:=⟨_,List.getElem?_eq_getElem hlt⟩
   have hn:=vl (f:=F) hx
   have hx8:=hrg (List.mem_of_getElem? hx)
   have hph:=Tb.Fv ht hx8.1 hx8.2
   refine⟨by omega,?_⟩
   try simp only[I,RX,↓KW,seval,hx,aD]
   refine⟨by omega,?_⟩
   try simp only[I,RX,↓KW,seval,hph]
   refine⟨by omega,?_⟩
   try simp only[I,B,D,RX,↓KW,seval,hph]
   refine af (hS (some [(aX t x).ei,(aX t x).red]) (by simp)) ?_
   try simp only[I,RX,↓KW,seval]
   refine back (k+1) _ (by omega) (by omega) (ai (by decide) ?_ ?_ ?_ ?_)<;>simp[LX,I,hn,hl,hw,hF']
  ·have:k=L.length:=by have:=of_decide_eq_false h;omega
   subst this;try simp only[I,B,D,RX,↓KW,seval]
   rw[List.take_length]at hl
   refine af (hM none (by simp)) ?_
   try simp only[I,RX,↓KW,seval]
   simp[hmost _ rfl,hl]
  ·have hlt:k<L.length:=by have:=of_decide_eq_true h;omega
   obtain⟨x,hx⟩:∃x,L[k]? =some x:=⟨_,List.getElem?_eq_getElem hlt⟩
   have hn:=vl (f:=F) hx
   have hx8:=hrg (List.mem_of_getElem? hx)
   have hph:=Tb.Fv ht hx8.1 hx8.2
   refine⟨by omega,?_⟩
   try simp only[I,RX,↓KW,seval,hx,aD]
   refine⟨by omega,?_⟩
   try simp only[I,RX,↓KW,seval,hph]
   refine⟨by omega,?_⟩
   try simp only[I,B,D,RX,↓KW,seval,hph]
   refine af (hS (some [(aX t x).ei,(aX t x).red]) (by simp)) ?_
   try simp only[I,RX,↓KW,seval]
   refine⟨by simp;omega,?_⟩
   refine back (k+1) _ (by omega) (by omega) (ai (by decide) ?_ ?_ ?_ ?_)<;>simp[LX,I,hn,hw,hF']
  ·have:k=L.length:=by have:=of_decide_eq_false h;omega
   subst this;rw[List.take_length]at*;try simp only[I,B,D,RX,↓KW,seval]
   refine af (hM (some (L.map F)) (by simp;omega)) ?_
   try simp only[I,RX,↓KW,seval]
   simp[hmost _ rfl]
 ·refine ai (by decide) ?_ ?_ ?_ ?_<;>simp[LX,I,hmk]
theorem serve.ok{fO fH fC e fS fM:Nat} (hc:bF P f=some (mW fO fH fC e fS fM)) (hO:on.Spec (Pure P) fO) (hH:vO.Spec (Pure P) fH) (hC:Cap.Spec (Pure P) fC) (hS:xu.Spec (Pure P) fS) (hM:most.Spec (Pure P) fM):serve.Spec (Pure P) f:=by
 intro t p ht
 have hp:=Tb.whole ht
 have htl:=Tb.tail_at ht
 have h116:=htl 0 (by omega)
 have h119:=htl 3 (by omega)
 refine ak hm hc (by show 2<=39;decide) (aj (keep:=[]) (i:=0) ?_)
 try simp only[I,RX,↓KW,seval,mW,Z.H,hp]
 refine af (hO t ht) ?_;try simp only[I,RX,↓KW,seval]
 refine af (hH _ _) ?_;try simp only[B,RX,↓KW,seval]
 by_cases h:uP (wE t) p=true
 ·have hr:=BR h
  have hph:=Tb.NF ht hr.1 hr.2
  have hx:kr t p=jH [gQ [iJ (aX t p).min,jH [(aX t p).walk,(aX t p).f7],iJ (aX t p).top],t.extend,(aX t p).ei,(aX t p).red,t.revert,8]:=if_pos h
  generalize aX t p=x at*;try simp only[RX,↓KW,seval,h]
  refine⟨by omega,?_⟩
  try simp only[I,B,RX,↓KW,seval,hph,Ph.cells,cn]
  refine af (hC _) ?_;try simp only[I,RX,↓KW,seval]
  refine af (hS (some [x.walk,x.f7]) (by simp)) ?_
  try simp only[I,RX,↓KW,seval]
  refine af (hC _) ?_;try simp only[I,RX,↓KW,seval]
  refine af (hM (some [_,_,_]) (by simp)) ?_
  try simp only[I,RX,↓KW,seval,h116,h119]
  refine af (hS (some [_,_,_,_,_,_]) (by simp)) ?_
  try simp only[I,RX,↓KW,seval,hx]
  rfl
 ·have hx:kr t p=0:=if_neg h
  simp only[Bool.not_eq_true]at h;try simp only[RX,↓KW,seval,h,hx]
theorem pass.ok{e fS fV fs e':Nat} (hc:bF P f=some (oy e fS fV fs)) (hS:cU.Spec (Pure P) fS e') (hV:serve.Spec (Pure P) fV) (hs:xu.Spec (Pure P) fs):pass.Spec (Pure P) f:=by
 intro t g ht
 have hl:=Tb.len ht
 have hp:=Tb.whole ht
 have hg:=Tb.mD ht
 refine ak hm hc (by show 2<=39;decide) (aj (keep:=[]) (i:=0) ?_)
 try simp only[I,RX,↓KW,seval,oy,Z.H]
 by_cases h0:g<0\/((t.groups.getD []).length:Int)<=g
 ·have hx:nQ t g=0:=if_pos h0
  repeat' (((first|refine aV ?_ ?_|refine ax ?_ ?_|refine bC ?_ ?_)<;>intro h)<;>try simp only[RX,↓KW,seval,hg,hx,h])
  simp_all;omega
 ·have hx:nQ t g=jH (gy t g (cU t).length):=if_neg h0
  have h1:decide (g<0)=false:=by simp;omega
  have h2:decide (((t.groups.getD []).length:Int)<=g)=false:=by simp;omega
  try simp only[RX,↓KW,seval,h1,hg,h2,hp]
  refine af (hS t none ht (.inl rfl)) ?_
  have hsz:=Em ht
  have hmk:=dV (cU t)
  try simp only[RX,↓KW,seval,hmk]
  generalize hS':cU t=Z at*
  refine aG (fun k:Nat=>(⟨[(21,.dat (I k) none),(20,.dat (I Z.length) none),(19,.dat (aH Sp.cells (dH Z)) none),(1,.dat (I g) none),(2,.ptr 4 0),(5,bG aD (gy t g k) 0)],[(4,⟨t.cells,[]⟩)],bK (gy t g k) 0 e,400⟩:S)) (fun k=>Z.length-k) (fun k=>k<=Z.length) ?_ 0 (by omega) ?_
  ·intro k hk A back
   have hw:=aB (k:=k) (by omega)
   have hne:gy t g k≠[]:=by simp[gy]
   try simp only[I,RX,↓KW,seval,bG,bK,hne]
   refine ax (fun h=>?_) (fun h=>?_)<;>try simp only[RX,↓KW,seval,hmk,h]
   ·have hlt:k<Z.length:=by have:=of_decide_eq_true h;omega
    obtain⟨x,hx⟩:∃x,Z[k]? =some x:=⟨_,List.getElem?_eq_getElem hlt⟩
    have hn:gy t g (k+1)=if x.group==g then gy t g k++[kr t x.p]else gy t g k:=G6 (by rw[hS'];exact hx)
    have hlen:=BS t g k
    refine⟨by omega,?_⟩
    try simp only[I,RX,↓KW,seval,hx,Sp.cells]
    refine ax (fun h2=>?_) (fun h2=>?_)<;>try simp only[RX,↓KW,seval,hp,h2]
    ·refine af (hV t _ ht) ?_
     try simp only[I,RX,↓KW,seval]
     refine⟨by omega,?_⟩
     refine back (k+1) _ (by omega) (by omega) (ai (by decide) ?_ ?_ ?_ ?_)<;>simp[LX,I,hn,hw,h2,hne]
    ·refine back (k+1) _ (by omega) (by omega) (ai (by decide) ?_ ?_ ?_ ?_)<;>simp[LX,I,hn,hw,h2,hne]
   ·have:k=Z.length:=by have:=of_decide_eq_false h;omega
    subst this
    have hlen:=BS t g Z.length
    try simp only[I,B,D,RX,↓KW,seval]
    refine af (hs (some (gy t g Z.length)) (by simp;omega)) ?_
    try simp only[I,RX,↓KW,seval,hx]
    rfl
  ·refine ai (by decide) ?_ ?_ ?_ ?_<;>simp[LX,I,gy,kr]
end
def lI(t:Tb) (p:Int) (n:Nat):List Int:=nQ t (aR t p).1.group::(List.range n).map fun(g:Nat)=>nQ t g
theorem G7(t:Tb) (p:Int) (n:Nat):lI t p (n+1)=lI t p n++[nQ t n]:=by simp[lI,List.range_succ]
def ku(t:Tb) (n:Nat):List Int:=(List.range n).map fun(k:Nat)=>jH [qq t k,(vS t k).stay]
theorem G8(t:Tb) (n:Nat):ku t (n+1)=ku t n++[jH [qq t n,(vS t n).stay]]:=by simp[ku,List.range_succ]
def mX(t:Tb) (l:List Int):List Int:=l.flatMap fun p=>[iJ (aX t p).min,jH [(aX t p).walk,(aX t p).f7]]
theorem zS{t:Tb} {l:List Int} {i:Nat} {x:Int} (h:l[i]? =some x):mX t (l.take (i+1))=mX t (l.take i)++[iJ (aX t x).min,jH [(aX t x).walk,(aX t x).f7]]:=by rw[jj h];simp[mX]
theorem I8(t:Tb) (l:List Int):(mX t l).length=l.length*2:=by
 induction l with
 |nil=>rfl
 |cons x l ih=>simp only[mX,List.flatMap_cons,List.length_append,List.length_cons,List.length_nil]at ih⊢;omega
def Kc(t:Tb):Int:=if(t.bQ.getD []).length=0 then 0 else jH [gQ (ku t (t.bQ.getD []).length),gQ (mX t (jE (wE t))),lH t,t.revert,30]
def BT.Spec(C:aS) (f:Nat):Prop:=∀(t:Tb),t.Ok->C.c f [.agg t.cells] (I (Kc t)) none
def oV(t:Tb) (p:Int):Int:=if oU t p=0\/(t.bQ.getD []).length=0 then oU t p else jH [YM (jH [t.share,1]) (jH [Kc t,oU t p,2]),t.share]
def wait.Spec(C:aS) (f:Nat):Prop:=∀(t:Tb) (p:Int),t.Ok->C.c f [.agg t.cells,I p] (I (oV t p)) none
theorem Rl.len(r:Rl):r.cells.length=11:=rfl
theorem BU{t:Tb} {k:Int} (h0:0<=k) (h1:k<((t.bQ.getD []).length:Int)):(t.bQ.getD [])[k.toNat]? =some (vS t k):=by
 have:k.toNat<(t.bQ.getD []).length:=by omega
 simp[vS,this]
section
variable{P:Program} (hm:P.follows .mixedOrders=true) {f:Nat}
include hm
theorem free.ok{fW fO fH fP e fs:Nat} (hc:bF P f=some (ox fW fO fH fP e fs)) (hW:where.Spec (Pure P) fW) (hO:on.Spec (Pure P) fO) (hH:vO.Spec (Pure P) fH) (hP:pass.Spec (Pure P) fP) (hs:xu.Spec (Pure P) fs):free.Spec (Pure P) f:=by
 intro t p ht
 have hp:=Tb.whole ht
 have hg:=Tb.mD ht
 have hb:=ht.groups
 refine ak hm hc (by show 2<=44;decide) (aj (keep:=[]) (i:=0) ?_)
 try simp only[I,RX,↓KW,seval,ox,Z.H,hp]
 refine af (hW t _ ht) ?_;try simp only[I,B,RX,↓KW,seval,Sp.cells]
 by_cases h0:((aR t p).2&&uP (wE t) p)=true
 ·have hx:oU t p=jH (lI t p (t.groups.getD []).length):=if_pos h0
  simp only[Bool.and_eq_true]at h0;try simp only[RX,↓KW,seval,h0,hp]
  refine af (hO t ht) ?_;try simp only[I,RX,↓KW,seval]
  refine af (hH _ _) ?_;try simp only[B,RX,↓KW,seval,h0,hp]
  refine af (hP t _ ht) ?_;try simp only[I,RX,↓KW,seval]
  refine aG (fun k:Nat=>(⟨[(8,.dat (I k) none),(2,.ptr 4 0),(7,bG aD (lI t p k) 0)],[(4,⟨t.cells,[]⟩)],bK (lI t p k) 0 e,400⟩:S)) (fun k=>(t.groups.getD []).length-k) (fun k=>k<=(t.groups.getD []).length) ?_ 0 (by omega) ?_
  ·intro k hk A back
   have hw:=aB (k:=k) (by omega)
   have hne:lI t p k≠[]:=by simp[lI]
   have hn:=G7 t p k
   have hlen:(lI t p k).length=k+1:=by simp[lI]
   try simp only[I,RX,↓KW,seval,bG,bK,hne,hg]
   refine ax (fun h=>?_) (fun h=>?_)<;>try simp only[RX,↓KW,seval,hp,h]
   ·have:k<(t.groups.getD []).length:=by have:=of_decide_eq_true h;omega
    refine af (hP t _ ht) ?_;try simp only[I,RX,↓KW,seval]
    refine⟨by omega,?_⟩
    refine back (k+1) _ (by omega) (by omega) (ai (by decide) ?_ ?_ ?_ ?_)<;>simp[LX,I,hn,hw,hne]
   ·have:k=(t.groups.getD []).length:=by have:=of_decide_eq_false h;omega
    subst this;try simp only[I,B,D,RX,↓KW,seval]
    refine af (hs (some (lI t p (t.groups.getD []).length)) (by simp;omega)) ?_
    try simp only[I,RX,↓KW,seval,hx]
    rfl
  ·refine ai (by decide) ?_ ?_ ?_ ?_<;>simp[LX,I,lI]
 ·have hx:oU t p=0:=if_neg h0
  repeat' (first|((first|refine af (hO t ht) ?_|refine af (hH _ _) ?_);try simp only[I,B,RX,↓KW,seval])|(((first|refine aV ?_ ?_|refine ax ?_ ?_|refine bC ?_ ?_)<;>intro h)<;>try simp only[RX,↓KW,seval,hp,hx,h]))
  all_goals simp_all
theorem entry.ok{fC e fs:Nat} (hc:bF P f=some (mV fC e fs)) (hC:clear.Spec (Pure P) fC) (hs:xu.Spec (Pure P) fs):entry.Spec (Pure P) f:=by
 intro t k ht
 have hl:=Tb.len ht
 have hp:=Tb.whole ht
 have hg:=Tb.xq ht
 have h119:=Tb.tail_at ht 3 (by omega)
 refine ak hm hc (by show 2<=50;decide) (aj (keep:=[]) (i:=0) ?_)
 try simp only[I,RX,↓KW,seval,mV,Z.H]
 by_cases h0:k<0\/((t.bQ.getD []).length:Int)<=k
 ·have hx:qq t k=0:=if_pos h0
  repeat' (((first|refine aV ?_ ?_|refine ax ?_ ?_|refine bC ?_ ?_)<;>intro h)<;>try simp only[RX,↓KW,seval,hg,hx,h])
  simp_all;omega
 ·have hx:=show qq t k=_ from if_neg h0
  have h1:decide (k<0)=false:=by simp;omega
  have h2:decide (((t.bQ.getD []).length:Int)<=k)=false:=by simp;omega
  have hr:=BU (t:=t) (k:=k) (by omega) (by omega)
  try simp only[RX,↓KW,seval,h1,h2,hg]
  refine⟨by omega,?_⟩
  try simp only[I,RX,↓KW,seval,hr,Rl.cells,bz,hp]
  refine af (hC t ht) ?_;try simp only[I,RX,↓KW,seval,h119]
  refine af (hs (some [_,_,_,_,_,_,_,_,_,_,_,_,_,_,_,_]) (by simp)) ?_
  try simp only[I,RX,↓KW,seval,hx]
  rfl
theorem wait.ok{fF e fs fO fM:Nat} (hc:bF P f=some (ou fF e fs fO fM)) (hF:free.Spec (Pure P) fF) (hs:xu.Spec (Pure P) fs) (hO:BT.Spec (Pure P) fO) (hM:Mul.Spec (Pure P) fM):wait.Spec (Pure P) f:=by
 intro t p ht
 have hl:=Tb.len ht
 have hp:=Tb.whole ht
 have hg:=Tb.xq ht
 have h130:=Tb.ND ht
 refine ak hm hc (by show 2<=32;decide) (aj (keep:=[]) (i:=0) ?_)
 try simp only[I,RX,↓KW,seval,ou,Z.H,hp]
 refine af (hF t _ ht) ?_;try simp only[I,RX,↓KW,seval]
 by_cases h0:oU t p=0\/(t.bQ.getD []).length=0
 ·have hx:oV t p=oU t p:=if_pos h0
  repeat' (((first|refine aV ?_ ?_|refine ax ?_ ?_|refine bC ?_ ?_)<;>intro h)<;>try simp only[RX,↓KW,seval,hg,hx,h])
  simp_all
 ·have hx:=show oV t p=_ from if_neg h0
  have h1:(oU t p==0)=false:=by simp;omega
  have h2:(((t.bQ.getD []).length:Int)==0)=false:=beq_false_of_ne (by omega)
  try simp only[I,RX,↓KW,seval,h1,h2,hg,h130]
  refine af (hs (some [_,_]) (by simp)) ?_
  try simp only[I,RX,↓KW,seval,hp]
  refine af (hO t ht) ?_;try simp only[I,RX,↓KW,seval]
  refine af (hs (some [_,_,_]) (by simp)) ?_
  try simp only[I,RX,↓KW,seval]
  refine af (hM _ _) ?_;try simp only[I,RX,↓KW,seval,h130]
  refine af (hs (some [_,_]) (by simp)) ?_
  try simp only[I,RX,↓KW,seval,hx]
  rfl
theorem BT.ok{fE e fs fO fL fC fM fcl:Nat} (hc:bF P f=some (vh fE e fs fO fL fC fM fcl)) (hE:entry.Spec (Pure P) fE) (hs:xu.Spec (Pure P) fs) (hO:on.Spec (Pure P) fO) (hL:qm.Spec (Pure P) fL e) (hC:Cap.Spec (Pure P) fC) (hM:most.Spec (Pure P) fM) (hcl:clear.Spec (Pure P) fcl):BT.Spec (Pure P) f:=by
 intro t ht
 have hp:=Tb.whole ht
 have hg:=Tb.xq ht
 have hb:=ht.bQ
 have h119:=Tb.tail_at ht 3 (by omega)
 refine ak hm hc (by show 1<=73;decide) (aj (keep:=[]) (i:=0) ?_)
 try simp only[I,RX,↓KW,seval,vh,Z.H,hg]
 by_cases h0:(t.bQ.getD []).length=0
 ·have hx:Kc t=0:=if_pos h0
  repeat' (((first|refine aV ?_ ?_|refine ax ?_ ?_|refine bC ?_ ?_)<;>intro h)<;>try simp only[RX,↓KW,seval,hx,h])
  simp_all
 ·have hx:=show Kc t=_ from if_neg h0
  have h2:(((t.bQ.getD []).length:Int)==0)=false:=beq_false_of_ne (by omega)
  try simp only[RX,↓KW,seval,h2]
  refine aG (fun k:Nat=>(⟨[(5,.dat (I k) none),(1,.ptr 4 0),(4,.dat (.aL) none),(3,bG aD (ku t k) 0)],[(4,⟨t.cells,[]⟩)],bK (ku t k) 0 e,400⟩:S)) (fun k=>(t.bQ.getD []).length-k) (fun k=>k<=(t.bQ.getD []).length) ?_ 0 (by omega) ?_
  ·intro k hk A back
   have hw:=aB (k:=k) (by omega)
   have hn:=G8 t k
   have hlen:(ku t k).length=k:=by simp[ku]
   by_cases hl:ku t k=[]
   all_goals
    try simp only[I,RX,↓KW,seval,bG,bK,hl,hg]
    refine ax (fun h=>?_) (fun h=>?_)<;>try simp only[RX,↓KW,seval,hp,h]
   ·have:k<(t.bQ.getD []).length:=by have:=of_decide_eq_true h;omega
    have hr:=BU (t:=t) (k:=k) (by omega) (by omega)
    rw[Int.toNat_natCast]at hr;refine af (hE t _ ht) ?_;try simp only[I,RX,↓KW,seval,hg]
    refine⟨by omega,?_⟩
    try simp only[I,RX,↓KW,seval,hr,Rl.cells]
    refine af (hs (some [_,_]) (by simp)) ?_
    try simp only[I,RX,↓KW,seval]
    refine back (k+1) _ (by omega) (by omega) (ai (by decide) ?_ ?_ ?_ ?_)<;>simp[LX,I,hn,hw,hl]
   ·exfalso
    have:=of_decide_eq_false h
    rw[hl]at hlen;simp at hlen;omega
   ·have:k<(t.bQ.getD []).length:=by have:=of_decide_eq_true h;omega
    have hr:=BU (t:=t) (k:=k) (by omega) (by omega)
    rw[Int.toNat_natCast]at hr;refine af (hE t _ ht) ?_;try simp only[I,RX,↓KW,seval,hg]
    refine⟨by omega,?_⟩
    try simp only[I,RX,↓KW,seval,hr,Rl.cells]
    refine af (hs (some [_,_]) (by simp)) ?_
    try simp only[I,RX,↓KW,seval]
    refine⟨by omega,?_⟩
    refine back (k+1) _ (by omega) (by omega) (ai (by decide) ?_ ?_ ?_ ?_)<;>simp[LX,I,hn,hw,hl]
   ·have:k=(t.bQ.getD []).length:=by have:=of_decide_eq_false h;omega
    subst this;try simp only[I,B,D,RX,↓KW,seval,hp]
    refine af (hO t ht) ?_;try simp only[I,RX,↓KW,seval]
    refine af (hL _ none (.inl rfl)) ?_;try simp only[RX,↓KW,seval]
    have hlen:=En (wE t)
    have hrg:=@zR (wE t)
    have hmk:=dV (jE (wE t))
    generalize jE (wE t)=L at*
    refine aG (fun k:Nat=>(⟨[(37,.dat (I k) none),(36,.dat (I L.length) none),(35,.dat (aH aD (dH L)) none),(1,.ptr 4 0),(3,.dat (.sl ((ku t (t.bQ.getD []).length).map aD)) none),(4,bG aD (mX t (L.take k)) 0)],[(4,⟨t.cells,[]⟩)],bK (mX t (L.take k)) 0 e,400⟩:S)) (fun k=>L.length-k) (fun k=>k<=L.length) ?_ 0 (by omega) ?_
    ·intro k hk A back
     have hw:=aB (k:=k) (by omega)
     have hln:(mX t (L.take k)).length<=16:=by rw[I8];have:=List.length_take_le k L;omega
     by_cases hl:mX t (L.take k)=[]
     all_goals
      try simp only[I,RX,↓KW,seval,bG,bK,hl]
      refine ax (fun h=>?_) (fun h=>?_)<;>try simp only[RX,↓KW,seval,hmk,h]
     ·have hlt:k<L.length:=by have:=of_decide_eq_true h;omega
      obtain⟨x,hx2⟩:∃x,L[k]? =some x:=⟨_,List.getElem?_eq_getElem hlt⟩
      have hx8:=hrg (List.mem_of_getElem? hx2)
      have hph:=Tb.Fv ht hx8.1 hx8.2
      have hn:=zS (t:=t) hx2
      refine⟨by omega,?_⟩
      try simp only[I,RX,↓KW,seval,hx2,aD]
      refine⟨by omega,?_⟩
      try simp only[I,RX,↓KW,seval,hph]
      refine af (hC _) ?_;try simp only[I,RX,↓KW,seval,hph]
      refine⟨by omega,?_⟩
      try simp only[I,B,D,RX,↓KW,seval,hph]
      refine⟨by omega,?_⟩
      try simp only[I,B,D,RX,↓KW,seval,hph]
      refine af (hs (some [_,_]) (by simp)) ?_
      try simp only[I,RX,↓KW,seval]
      refine back (k+1) _ (by omega) (by omega) (ai (by decide) ?_ ?_ ?_ ?_)<;>simp[LX,I,hn,hw,hl]
     ·have:k=L.length:=by have:=of_decide_eq_false h;omega
      subst this;rw[List.take_length]at hl hln;try simp only[I,B,D,RX,↓KW,seval]
      refine af (hM (some _) (by simp[ku];omega)) ?_
      try simp only[I,RX,↓KW,seval]
      refine af (hM none (by simp)) ?_
      try simp only[I,RX,↓KW,seval,hp]
      refine af (hcl t ht) ?_;try simp only[I,RX,↓KW,seval,h119]
      refine af (hs (some [_,_,_,_,_]) (by simp)) ?_
      try simp only[I,RX,↓KW,seval,hx,hl]
      rfl
     ·have hlt:k<L.length:=by have:=of_decide_eq_true h;omega
      obtain⟨x,hx2⟩:∃x,L[k]? =some x:=⟨_,List.getElem?_eq_getElem hlt⟩
      have hx8:=hrg (List.mem_of_getElem? hx2)
      have hph:=Tb.Fv ht hx8.1 hx8.2
      have hn:=zS (t:=t) hx2
      refine⟨by omega,?_⟩
      try simp only[I,RX,↓KW,seval,hx2,aD]
      refine⟨by omega,?_⟩
      try simp only[I,RX,↓KW,seval,hph]
      refine af (hC _) ?_;try simp only[I,RX,↓KW,seval,hph]
      refine⟨by omega,?_⟩
      try simp only[I,B,D,RX,↓KW,seval,hph]
      refine⟨by omega,?_⟩
      try simp only[I,B,D,RX,↓KW,seval,hph]
      refine af (hs (some [_,_]) (by simp)) ?_
      try simp only[I,RX,↓KW,seval]
      refine⟨by omega,?_⟩
      refine back (k+1) _ (by omega) (by omega) (ai (by decide) ?_ ?_ ?_ ?_)<;>simp[LX,I,hn,hw,hl]
     ·have:k=L.length:=by have:=of_decide_eq_false h;omega
      subst this;rw[List.take_length]at*;try simp only[I,B,D,RX,↓KW,seval]
      refine af (hM (some _) (by simp[ku];omega)) ?_
      try simp only[I,RX,↓KW,seval]
      refine af (hM (some _) (by simp;omega)) ?_
      try simp only[I,RX,↓KW,seval,hp]
      refine af (hcl t ht) ?_;try simp only[I,RX,↓KW,seval,h119]
      refine af (hs (some [_,_,_,_,_]) (by simp)) ?_
      try simp only[I,RX,↓KW,seval,hx]
      rfl
    ·refine ai (by decide) ?_ ?_ ?_ ?_<;>simp[LX,I,hmk,mX]
  ·refine ai (by decide) ?_ ?_ ?_ ?_<;>simp[LX,I,ku]
end
def G9(t:Tb) (p q:Int):Int:=if mu t p q then jF (SF [p]) q else SF [p]
def with.Spec(C:aS) (f:Nat):Prop:=∀(t:Tb) (p q:Int),t.Ok->C.c f [.agg t.cells,I p,I q] (I (G9 t p q)) none
theorem UP(k:FloatKind) (x y:Nat):dZ .mul (.float k x) (.float k y)=IB k (k.format.mul x y):=by simp[dZ,Bb]
theorem NG(k:FloatKind) (x y:Nat):dZ .quo (.float k x) (.float k y)=IB k (k.format.div x y):=by simp[dZ,Bb]
theorem UQ(k:FloatKind) (r:Nat):IB k (some r)=some (.float k r):=by cases k<;>rfl
theorem bE(l:Option (List Int)) (i:Int) {n:Int} (h:0<n) (hn:n<=4294967296):0<=dA l i n/\dA l i n<n:=by
 simp only[dA,place]
 have h1:=Int.tmod_lt_of_pos (UM l i) h
 have h2:=Int.lt_tmod_of_pos (UM l i) h
 split
 ·rw[dS,aW (by omega) (by omega)];omega
 ·omega
def xx(n:Int):Nat:=(FloatKind.f64.format.div (FloatKind.f64.nearest n) 4621819117588971520).getD 0
theorem BV:∀n:Nat,n<6->FloatKind.f64.format.div (FloatKind.f64.nearest (n:Int)) 4621819117588971520=some (xx n):=by decide+kernel
def vm(k:Int):Nat:=[4617315517961601024,4621819117588971520,4607182418800017408,4602678819172646912].getD k.toNat 0
def BW(k:Int):Nat:=[4602678819172646912,4607182418800017408,4598175219545276416].getD k.toNat 0
def sS(j k:Int):Nat:=(FloatKind.f64.format.mul (vm j) (BW k)).getD 0
theorem He:∀j:Nat,j<4->∀k:Nat,k<3->FloatKind.f64.format.mul (vm j) (BW k)=some (sS j k):=by decide+kernel
def gW(l:Option (List Int)) (i n:Int):nL where
 phase:=dA l i n
 on:=vm (dA l (dS (i+1)) 4)
 off:=sS (dA l (dS (i+1)) 4) (dA l (dS (i+2)) 3)
 delay:=xx (dA l (dS (i+3)) 4)
 extend:=xx (dA l (dS (i+4)) 6)
 maxOn:=if dA l (dS (i+5)) 3==1 then dS (20+dA l (dS (i+6)) 60)else 0
 sI:=if dA l (dS (i+5)) 9==2 then dS (60+dA l (dS (i+7)) 300)else 0
def sU.Spec(C:aS) (f:Nat):Prop:=∀(l:Option (List Int)) (i n:Int),0<n->C.c f [aH aD l,I i,I n] (.agg (gW l i n).cells) none
section
variable{P:Program} (hm:P.follows .mixedOrders=true) {f:Nat}
include hm
theorem with.ok{e fO fB fW:Nat} (hc:bF P f=some (ov e fO fB fW)) (hO:zP.Spec (Pure P) fO) (hB:beside.Spec (Pure P) fB) (hW:uk.Spec (Pure P) fW):with.Spec (Pure P) f:=by
 intro t p q ht
 have hp:=Tb.whole ht
 refine ak hm hc (by show 3<=19;decide) (aj (keep:=[]) (i:=0) ?_)
 try simp only[I,RX,↓KW,seval,ov,Z.H]
 refine af (hO (some [_]) (by simp)) ?_
 try simp only[I,RX,↓KW,seval,hp]
 refine af (hB t _ _ ht) ?_;try simp only[B,RX,↓KW,seval]
 repeat' (first|(refine af (hW _ _) ?_;try simp only[I,RX,↓KW,seval])|(((first|refine aV ?_ ?_|refine ax ?_ ?_|refine bC ?_ ?_)<;>intro h)<;>try simp only[RX,↓KW,seval,h]))
 all_goals simp_all [G9]
theorem sU.ok{fF:Nat} (hc:bF P f=some (nN fF)) (hF:from.Spec (Pure P) fF):sU.Spec (Pure P) f:=by
 intro l i n hn
 refine ak hm hc (by show 3<=66;decide) (aj (keep:=[]) (i:=0) ?_)
 try simp only[I,RX,↓KW,seval,nN,Z.H]
 refine af (hF _ _ _ hn) ?_;try simp only[I,RX,↓KW,seval]
 refine af (hF _ _ _ (by decide)) ?_
 try simp only[I,RX,↓KW,seval]
 have h1:=bE l (dS (i+1)) (n:=4) (by decide) (by decide)
 have h2:=bE l (dS (i+2)) (n:=3) (by decide) (by decide)
 have h3:=bE l (dS (i+3)) (n:=4) (by decide) (by decide)
 have h4:=bE l (dS (i+4)) (n:=6) (by decide) (by decide)
 have e1:[AV.float FloatKind.f64 4617315517961601024,AV.float FloatKind.f64 4621819117588971520,AV.float FloatKind.f64 4607182418800017408,AV.float FloatKind.f64 4602678819172646912][(dA l (dS (i+1)) 4).toNat]? =some (.float .f64 (vm (dA l (dS (i+1)) 4))):=by
  generalize dA l (dS (i+1)) 4=j at*
  have:j=0\/j=1\/j=2\/j=3:=by omega
  rcases this with rfl|rfl|rfl|rfl<;>rfl
 have e2:[AV.float FloatKind.f64 4602678819172646912,AV.float FloatKind.f64 4607182418800017408,AV.float FloatKind.f64 4598175219545276416][(dA l (dS (i+2)) 3).toNat]? =some (.float .f64 (BW (dA l (dS (i+2)) 3))):=by
  generalize dA l (dS (i+2)) 3=j at*
  have:j=0\/j=1\/j=2:=by omega
  rcases this with rfl|rfl|rfl<;>rfl
 have e3:=He (dA l (dS (i+1)) 4).toNat (by omega) (dA l (dS (i+2)) 3).toNat (by omega)
 have e4:=BV (dA l (dS (i+3)) 4).toNat (by omega)
 have e5:=BV (dA l (dS (i+4)) 6).toNat (by omega)
 simp only[Int.toNat_of_nonneg h1.1,Int.toNat_of_nonneg h2.1]at e3;simp only[Int.toNat_of_nonneg h3.1]at e4;simp only[Int.toNat_of_nonneg h4.1]at e5;simp only[dS]at e1 e2 e3 e4 e5 h1 h2 h3 h4
 refine⟨by omega,?_⟩
 try simp only[RX,↓KW,seval,e1]
 refine af (hF l _ 3 (by decide)) ?_
 try simp only[I,RX,↓KW,seval]
 refine⟨by omega,?_⟩
 try simp only[RX,↓KW,seval,e2,UQ,UP,e3]
 refine af (hF _ _ _ (by decide)) ?_
 try simp only[I,RX,↓KW,seval,UQ,NG,e4]
 refine af (hF _ _ _ (by decide)) ?_
 try simp only[I,RX,↓KW,seval,UQ,NG,e5]
 repeat' (first|(refine af (hF _ _ _ (by decide)) ?_;try simp only[I,RX,↓KW,seval])|(((first|refine aV ?_ ?_|refine ax ?_ ?_|refine bC ?_ ?_)<;>intro h)<;>try simp only[RX,↓KW,seval,h]))
 all_goals simp_all [gW,nL.cells,dS]
def sV (t:Tb) (l:Option (List Int)) (i n:Int):Rl :=
  let p:=dA l (dS (i + 4)) (dS (n + 1))
  let iB:=G9 t (dA l i n) (dA l (dS (i + 1)) n)
  let stay:=dS (1 + dA l (dS (i + 11)) 15)
  let delay:=dA l (dS (i + 8)) 4
  { bars:=ep .i64 (dw .i64 (dA l (dS (i + 7)) 256) (dS (dS (1 * 2 ^ min (IntKind.u64.wrap n).toNat 64) - 1))) iB
    clear:=if p < n then G9 t p (dA l (dS (i + 5)) n) else 0
    iB:=iB
    exit:=G9 t (dA l (dS (i + 2)) n) (dA l (dS (i + 3)) n)
    delay:=delay
    green:=dS (1 + dA l (dS (i + 9)) 6)
    gV:=dA l (dS (i + 10)) 6
    hold:=if p < n then dS (1 + dA l (dS (i + 6)) 10) else 0
    stay:=stay
    most:=if dA l (dS (i + 12)) 3 == 1 then dS (stay + dA l (dS (i + 13)) 30) else 0
    limit:=dS (dS (delay + 1) + [10000,400,20].getD (dA l (dS (i + 14)) 3).toNat 0) }
def NH.Spec(C:aS) (f:Nat):Prop:=∀(t:Tb) (l:Option (List Int)) (i n:Int),t.Ok->0<n->n<=8->C.c f [.agg t.cells,aH aD l,I i,I n] (.agg (sV t l i n).cells) none
theorem NH.ok{fF fW:Nat} (hc:bF P f=some (vf fF fW)) (hF:from.Spec (Pure P) fF) (hW:with.Spec (Pure P) fW):NH.Spec (Pure P) f:=by
 intro t l i n ht hn hn8
 have hp:=Tb.whole ht
 have hn1:IntKind.i64.wrap (n+1)=n+1:=aW (by omega) (by omega)
 refine ak hm hc (by show 4<=119;decide) (aj (keep:=[]) (i:=0) ?_)
 try simp only[I,RX,↓KW,seval,vf,Z.H,hp,bz]
 refine af (hF _ _ _ hn) ?_;try simp only[I,RX,↓KW,seval]
 refine af (hF _ _ _ hn) ?_;try simp only[I,RX,↓KW,seval]
 refine af (hW t _ _ ht) ?_;try simp only[I,RX,↓KW,seval,hp]
 refine af (hF _ _ _ hn) ?_;try simp only[I,RX,↓KW,seval]
 refine af (hF _ _ _ hn) ?_;try simp only[I,RX,↓KW,seval]
 refine af (hW t _ _ ht) ?_;try simp only[I,RX,↓KW,seval]
 refine af (hF _ _ _ (by omega)) ?_
 try simp only[I,RX,↓KW,seval]
 have h14:=bE l (dS (i+14)) (n:=3) (by decide) (by decide)
 have e14:[AV.int .i64 10000,AV.int .i64 400,AV.int .i64 20][(dA l (dS (i+14)) 3).toNat]? =some (.int .i64 ([10000,400,20].getD (dA l (dS (i+14)) 3).toNat 0)):=by
  generalize dA l (dS (i+14)) 3=j at*
  have:j=0\/j=1\/j=2:=by omega
  rcases this with rfl|rfl|rfl<;>rfl
 have hu:0<=IntKind.u64.wrap n:=by rw[IntKind.wrap];simp[IntKind.signed];omega
 simp only[dS]at e14 h14
 refine ax (fun h=>?_) (fun h=>?_)<;>try simp only[RX,↓KW,seval,hp,h]
 ·repeat' (first|((first|refine af (hF _ _ _ hn) ?_|refine af (hF _ _ _ (by decide)) ?_|refine af (hW t _ _ ht) ?_);try simp only[I,RX,↓KW,seval])|(((first|refine aV ?_ ?_|refine ax ?_ ?_|refine bC ?_ ?_)<;>intro h)<;>try simp only[I,B,D,RX,↓KW,seval,hp,h]))
  refine⟨hu,?_⟩
  repeat' (first|((first|refine af (hF _ _ _ hn) ?_|refine af (hF _ _ _ (by decide)) ?_|refine af (hW t _ _ ht) ?_);try simp only[I,RX,↓KW,seval])|(((first|refine aV ?_ ?_|refine ax ?_ ?_|refine bC ?_ ?_)<;>intro h)<;>try simp only[RX,↓KW,seval,h]))
  all_goals refine⟨by omega,?_⟩
  all_goals try simp only[RX,↓KW,seval,e14]
  all_goals simp_all [sV,Rl.cells,dS,IntKind.bits]
 ·repeat' (first|((first|refine af (hF _ _ _ hn) ?_|refine af (hF _ _ _ (by decide)) ?_|refine af (hW t _ _ ht) ?_);try simp only[I,RX,↓KW,seval])|(((first|refine aV ?_ ?_|refine ax ?_ ?_|refine bC ?_ ?_)<;>intro h)<;>try simp only[I,B,D,RX,↓KW,seval,hp,h]))
  refine⟨hu,?_⟩
  repeat' (first|((first|refine af (hF _ _ _ hn) ?_|refine af (hF _ _ _ (by decide)) ?_|refine af (hW t _ _ ht) ?_);try simp only[I,RX,↓KW,seval])|(((first|refine aV ?_ ?_|refine ax ?_ ?_|refine bC ?_ ?_)<;>intro h)<;>try simp only[RX,↓KW,seval,h]))
  all_goals refine⟨by omega,?_⟩
  all_goals try simp only[RX,↓KW,seval,e14]
  all_goals simp_all [sV,Rl.cells,dS,IntKind.bits]
  all_goals exact⟨fun _=>by omega,fun _=>by omega⟩
end
structure Tb.Ln (t:Tb):Prop where
 phases:t.phases.length=8
 conflict:t.conflict.length=8
 cB:t.cB.length=8
theorem Tb.Ok.ln{t:Tb} (h:t.Ok):t.Ln:=⟨h.phases,h.conflict,h.cB⟩
section
variable{t:Tb} (h:t.Ln)
include h
theorem Tb.Ln.len:t.cells.length=131:=by
 simp[Tb.cells,aJ Ph.len,h.phases,h.conflict,h.cB]
theorem Tb.Ln.whole:ay t.cells 0 (some 131)=some (.agg t.cells):=by
 have hl:=h.len
 rw[lG _ _ _ (by omega),List.drop_zero,<-hl,List.take_length]
theorem Tb.Ln.NI:t.cells[113]? =some (aH nL.cells t.aM):=by
 simp[Tb.cells,aJ Ph.len,h.phases,h.conflict,h.cB]
theorem Tb.Ln.NJ:t.cells[114]? =some (aH Rl.cells t.bQ):=by
 simp[Tb.cells,aJ Ph.len,h.phases,h.conflict,h.cB]
theorem Tb.Ln.YP:t.cells[115]? =some (aH Bs.cells t.jC):=by
 simp[Tb.cells,aJ Ph.len,h.phases,h.conflict,h.cB]
theorem Tb.Ln.YQ:t.cells[129]? =some (I t.mS):=by
 simp[Tb.cells,aJ Ph.len,h.phases,h.conflict,h.cB]
theorem Tb.Ln.nP{i:Nat} {c:Int} (hc:t.conflict[i]? =some c):t.cells[105+i]? =some (I c):=by
 have hi:i<8:=by have:=(List.getElem?_eq_some_iff.1 hc).1;rw[h.conflict]at this;exact this
 have e:(t.phases.flatMap Ph.cells).length=104:=by rw[aJ Ph.len,h.phases]
 unfold Tb.cells
 rw[List.getElem?_append_right (by omega),e,show 105+i-104=i+1 by omega,List.getElem?_cons_succ,List.getElem?_append_left (by simp[h.conflict,hi]),List.getElem?_map,hc];rfl
def Tb.rest(t:Tb):List AV:=aH Gr.cells t.groups::(t.conflict.map I++(aH nL.cells t.aM::aH Rl.cells t.bQ::aH Bs.cells t.jC::
  I t.extend::I t.gx::I t.start::I t.revert::I t.least::(t.cB.map I++[I t.mS,I t.share])))
omit h in
theorem bO{pre post ps:List AV} {off:Nat} (hle:pre.length<=off):setCells (pre++post) off ps=pre++setCells post (off-pre.length) ps:=by
 simp only[setCells,List.take_append,List.drop_append,List.append_assoc]
 rw[List.take_of_length_le hle,List.drop_of_length_le (by omega),show off+ps.length-pre.length=off-pre.length+ps.length by omega]
 rfl
omit h in
theorem BZ{pre post ps:List AV} {off:Nat} (hle:off+ps.length<=pre.length):setCells (pre++post) off ps=setCells pre off ps++post:=by
 simp only[setCells]
 rw[List.take_append_of_le_length (by omega),List.drop_append_of_le_length hle]
 simp
omit h in
theorem Ke{l:List Int} {i:Nat} {v:Int} (hi:i<l.length):setCells (l.map I) i [I v]=(l.set i v).map I:=by
 simp only[setCells,List.length_cons,List.length_nil];rw[List.set_eq_take_append_cons_drop,if_pos hi];simp[List.map_take,List.map_drop]
omit h in
theorem eZ(c:AV) (cs ps:List AV) (k:Nat):setCells (c::cs) (k+1) ps=c::setCells cs k ps:=by
 simp only[setCells,List.take_succ_cons,List.cons_append,show k+1+ps.length=(k+ps.length)+1 by omega,List.drop_succ_cons]
theorem Tb.Ln.LD{i:Nat} (hi:i<8) (q:Ph):setCells t.cells (i*13) q.cells=({t with phases:=t.phases.set i q}:Tb).cells:=by
 obtain⟨p,hp⟩:∃p,t.phases[i]? =some p:=⟨_,List.getElem?_eq_getElem (by rw[h.phases];exact hi)⟩
 exact Tb.Ly hp
theorem Tb.Ln.xy{i:Nat} (hi:i<8) (v:Int):setCells t.cells (105+i) [I v]=({t with conflict:=t.conflict.set i v}:Tb).cells:=by
 have e:(t.phases.flatMap Ph.cells).length=104:=by rw[aJ Ph.len,h.phases]
 unfold Tb.cells
 rw[bO (by omega),e,show 105+i-104=i+1 by omega,eZ,BZ (by simp[h.conflict];omega),Ke (by rw[h.conflict];exact hi)]
theorem Tb.Ln.Eo{i:Nat} (hi:i<8) (v:Int):setCells t.cells (121+i) [I v]=({t with cB:=t.cB.set i v}:Tb).cells:=by
 have e:(t.phases.flatMap Ph.cells).length=104:=by rw[aJ Ph.len,h.phases]
 unfold Tb.cells
 rw[bO (by omega),e,show 121+i-104=(i+16)+1 by omega,eZ,bO (by simp[h.conflict]),show i+16-(t.conflict.map I).length=i+8 by simp[h.conflict]]
 simp only[eZ]
 rw[BZ (by simp[h.cB];omega),Ke (by rw[h.cB];exact hi)]
theorem Tb.Ln.NK(d:Option (List nL)):setCells t.cells 113 [aH nL.cells d]=({t with aM:=d}:Tb).cells:=by
 have e:(t.phases.flatMap Ph.cells).length=104:=by rw[aJ Ph.len,h.phases]
 have e2:(t.conflict.map I).length=8:=by simp[h.conflict]
 unfold Tb.cells
 rw[bO (by omega),e,show 113-104=8+1 by omega,eZ,bO (by omega),e2]
 rfl
theorem Tb.Ln.LF(d:Option (List Rl)):setCells t.cells 114 [aH Rl.cells d]=({t with bQ:=d}:Tb).cells:=by
 have e:(t.phases.flatMap Ph.cells).length=104:=by rw[aJ Ph.len,h.phases]
 have e2:(t.conflict.map I).length=8:=by simp[h.conflict]
 unfold Tb.cells
 rw[bO (by omega),e,show 114-104=9+1 by omega,eZ,bO (by omega),e2]
 rfl
theorem Tb.Ln.LG(d:Option (List Bs)):setCells t.cells 115 [aH Bs.cells d]=({t with jC:=d}:Tb).cells:=by
 have e:(t.phases.flatMap Ph.cells).length=104:=by rw[aJ Ph.len,h.phases]
 have e2:(t.conflict.map I).length=8:=by simp[h.conflict]
 unfold Tb.cells
 rw[bO (by omega),e,show 115-104=10+1 by omega,eZ,bO (by omega),e2]
 rfl
theorem Tb.Ln.sW(v:Int):setCells t.cells 116 [I v]=({t with extend:=v}:Tb).cells/\setCells t.cells 117 [I v]=({t with gx:=v}:Tb).cells/\setCells t.cells 118 [I v]=({t with start:=v}:Tb).cells/\
  setCells t.cells 119 [I v]=({t with revert:=v}:Tb).cells/\setCells t.cells 120 [I v]=({t with least:=v}:Tb).cells:=by
 have e:(t.phases.flatMap Ph.cells).length=104:=by rw[aJ Ph.len,h.phases]
 have e2:(t.conflict.map I).length=8:=by simp[h.conflict]
 unfold Tb.cells;refine⟨?_,?_,?_,?_,?_⟩
 ·rw[bO (by omega),e,show 116-104=11+1 by omega,eZ,bO (by omega),e2];rfl
 ·rw[bO (by omega),e,show 117-104=12+1 by omega,eZ,bO (by omega),e2];rfl
 ·rw[bO (by omega),e,show 118-104=13+1 by omega,eZ,bO (by omega),e2];rfl
 ·rw[bO (by omega),e,show 119-104=14+1 by omega,eZ,bO (by omega),e2];rfl
 ·rw[bO (by omega),e,show 120-104=15+1 by omega,eZ,bO (by omega),e2];rfl
theorem Tb.Ln.mY(v:Int):setCells t.cells 129 [I v]=({t with mS:=v}:Tb).cells/\setCells t.cells 130 [I v]=({t with share:=v}:Tb).cells:=by
 have e:(t.phases.flatMap Ph.cells).length=104:=by rw[aJ Ph.len,h.phases]
 have e2:(t.conflict.map I).length=8:=by simp[h.conflict]
 have e3:(t.cB.map I).length=8:=by simp[h.cB]
 unfold Tb.cells;refine⟨?_,?_⟩
 ·rw[bO (by omega),e,show 129-104=24+1 by omega,eZ,bO (by omega),e2]
  simp only[Nat.reduceSub,eZ]
  rw[bO (by omega),e3];rfl
 ·rw[bO (by omega),e,show 130-104=25+1 by omega,eZ,bO (by omega),e2]
  simp only[Nat.reduceSub,eZ]
  rw[bO (by omega),e3];rfl
end
def cE(groups g:Nat):Nat:=8-(groups-1-g)
def eo(p m:Nat):List Int:=(List.range m).map fun(j:Nat)=>((p+j:Nat):Int)
def cnt(l:Option (List Int)) (g k:Nat) (r0:Nat):Nat:=
 let n:=(dA l (1+2*g+k) 3).toNat
 if k=1/\n=0/\r0=0 then 1 else n
def br(n p lim:Nat):Nat:=min n (lim-p)
def cQ(l:Option (List Int)) (groups:Nat):Nat->List Gr×Nat
 |0=>([],0)
 |g+1=>
  let q:=cQ l groups g
  let m0:=br (cnt l g 0 0) q.2 (cE groups g)
  let m1:=br (cnt l g 1 m0) (q.2+m0) (cE groups g)
  (q.1++[⟨dH (eo q.2 m0),dH (eo (q.2+m0) m1)⟩],q.2+m0+m1)
def gz(l:Option (List Int)):Nat:=(1+dA l 0 3).toNat
def rows.Spec(C:aS) (f:Nat):Prop:=∀(t:Tb) (l:Option (List Int)),t.Ok->t.groups=none->C.p f [t.cells] [none,some (aH aD l)] (I ((cQ l (gz l) (gz l)).2:Nat)) none [({t with groups:=some (cQ l (gz l) (gz l)).1}:Tb).cells]
theorem Tb.len'{t:Tb} (h1:t.phases.length=8) (h2:t.conflict.length=8) (h3:t.cB.length=8):t.cells.length=131:=by
 simp[Tb.cells,aJ Ph.len,h1,h2,h3]
theorem Tb.I9{t:Tb} (h:t.phases.length=8):t.cells[104]? =some (aH Gr.cells t.groups):=by
 simp[Tb.cells,aJ Ph.len,h]
theorem Tb.Ja{t:Tb} (h:t.phases.length=8) (g:Option (List Gr)):t.cells.take 104++(aH Gr.cells g::t.cells.drop 105)=({t with groups:=g}:Tb).cells:=by
 have e:(t.phases.flatMap Ph.cells).length=104:=by rw[aJ Ph.len,h]
 simp only[Tb.cells]
 rw[List.take_append_of_le_length (by omega),List.take_of_length_le (by omega),List.drop_append,List.drop_of_length_le (by omega),e]
 rfl
theorem Fx{C:aS} {base:Nat}:∀{l:List CO} {i:Nat} {s:S} {K:S->Prop},jw C base i l K s->∃s',K s'/\∀K':S->Prop,K' s'->jw C base i l K' s
 |[],i,s,K,h=>⟨s,h,fun _ h=>h⟩
 |o::l,i,s,K,h=>by
  rw[mC]at h;obtain⟨v,d,hd,hk',_⟩:=eV h;obtain⟨s',h1,h2⟩:=Fx hk'
  refine⟨s',h1,fun K' hK=>?_⟩
  rw[mC];exact hd.2 s .refl _ (h2 K' hK)
theorem UR{C:aS} {id:Nat} {o:bW} {K:SV->S->Prop} {s:S} (h:bN C id o K s):∃v s',K v s'/\∀K':SV->S->Prop,K' v s'->bN C id o K' s:=by
 obtain⟨v,d,hK,hok,hU,hfp,hs⟩:=sC h
 exact⟨v,_,hK,fun K' hk=>hs s .refl _ hk⟩
theorem QN{C:aS} {id:Nat} {o:Mt} {K:SV->S->Prop} {X:AV->S->Prop} {s:S} (h:cZ C id o K X s):
  (∃v s',K v s'/\∀(K':SV->S->Prop) (X':AV->S->Prop),K' v s'->cZ C id o K' X' s)\/∃p s',X p s'/\∀(K':SV->S->Prop) (X':AV->S->Prop),X' p s'->cZ C id o K' X' s:=by
 have so:∀{c:bW},bN C id c K s->(∀(K':SV->S->Prop) (X':AV->S->Prop),bN C id c K' s->cZ C id o K' X' s)->(∃v s',K v s'/\∀(K':SV->S->Prop) (X':AV->S->Prop),K' v s'->cZ C id o K' X' s)\/∃p s',X p s'/\∀(K':SV->S->Prop) (X':AV->S->Prop),X' p s'->cZ C id o K' X' s:=by
  intro c h g;obtain⟨v,s',h1,h2⟩:=UR h
  exact .inl ⟨v,s',h1,fun K' X' hk=>g K' X' (h2 K' hk)⟩
 cases o with
 |o c=>exact so h fun _ _ h=>h
 |call f args=>
  simp only[cZ]at h
  rcases h with h|h
  ·exact so h fun _ _ h=>.inl h
  ·obtain⟨as,has,h⟩:=ah h
   rcases h with⟨cs,h1,h2⟩|⟨p,h1,h2⟩
   ·exact .inl ⟨_,_,h2,fun K' X' hk=>by simp only[cZ,has];exact .inr (.inl ⟨cs,h1,hk⟩)⟩
   ·exact .inr ⟨_,_,h2,fun K' X' hk=>by simp only[cZ,has];exact .inr (.inr ⟨p,h1,hk⟩)⟩
 |bI f args=>
  simp only[cZ]at h
  rcases h with h|h
  ·exact so h fun _ _ h=>.inl h
  ·obtain⟨p,hp,hn,h⟩:=ah h
   obtain⟨css,hcs,h⟩:=ah h
   rcases h with⟨v,css',h1,h2⟩|⟨tg,r,css',tg',h1,h2⟩
   ·exact .inr ⟨_,_,h2,fun K' X' hk=>by simp only[cZ,hp];exact .inr ⟨hn,by rw[hcs];exact .inl ⟨v,css',h1,hk⟩⟩⟩
   ·obtain⟨qo,hq,h2⟩:=ah h2
    exact .inl ⟨_,_,h2,fun K' X' hk=>by simp only[cZ,hp];exact .inr ⟨hn,by rw[hcs];exact .inr ⟨tg,r,css',tg',h1,by rw[hq];exact hk⟩⟩⟩
 |eP b g args=>
  simp only[cZ]at h;split at h
  ·rename_i f as bs hg
   obtain⟨p,hp,hn,h⟩:=ah h;obtain⟨css,hcs,h⟩:=ah h
   rcases h with⟨r,fr,css',h1,h2⟩|⟨v,css',h1,h2⟩|⟨tg,r,css',tg',h1,h2⟩
   ·exact .inl ⟨_,_,h2,fun K' X' hk=>by simp only[cZ,hg,hp];exact⟨hn,by rw[hcs];exact .inl ⟨r,fr,css',h1,hk⟩⟩⟩
   ·exact .inr ⟨_,_,h2,fun K' X' hk=>by simp only[cZ,hg,hp];exact⟨hn,by rw[hcs];exact .inr (.inl ⟨v,css',h1,hk⟩)⟩⟩
   ·obtain⟨qo,hq,h2⟩:=ah h2
    exact .inl ⟨_,_,h2,fun K' X' hk=>by simp only[cZ,hg,hp];exact⟨hn,by rw[hcs];exact .inr (.inr ⟨tg,r,css',tg',h1,by rw[hq];exact hk⟩)⟩⟩
  ·rename_i hg
   refine so h fun K' X' h=>?_
   simp only[cZ];revert h
   cases hv:dh s g with
   |none=>exact fun h=>h
   |some v=>cases v<;>first|exact fun h=>h|exact(hg _ _ _ hv).elim
 |Wo f caps=>obtain⟨p,hp,h⟩:=ah h;exact .inl ⟨_,_,h,fun K' X' hk=>by simp only[cZ,hp];exact hk⟩
 |WT x=>obtain⟨a,ha,h1,h2⟩:=ah h;exact .inr ⟨_,_,h2,fun K' X' hk=>by simp only[cZ,ha];exact⟨h1,hk⟩⟩
 |WU t x=>obtain⟨a,ha,h1,h2⟩:=ah h;exact .inl ⟨_,_,h2,fun K' X' hk=>by simp only[cZ,ha];exact⟨h1,hk⟩⟩
 |WV t z x=>
  obtain⟨a,ha,h⟩:=ah h;obtain⟨v,hv,h⟩:=ah h
  exact .inl ⟨_,_,h,fun K' X' hk=>by simp only[cZ,ha,aE,hv];exact hk⟩
 |SZ neg x=>
  obtain⟨a,ha,h⟩:=ah h;obtain⟨v,hv,h⟩:=ah h
  exact .inl ⟨_,_,h,fun K' X' hk=>by simp only[cZ,ha,aE,hv];exact hk⟩
 |Wp neg x=>
  obtain⟨a,ha,h⟩:=ah h;obtain⟨v,hv,h⟩:=ah h
  exact .inl ⟨_,_,h,fun K' X' hk=>by simp only[cZ,ha,aE,hv];exact hk⟩
 |WW e bytes l c=>
  obtain⟨a,ha,h⟩:=ah h;obtain⟨l',hl,h⟩:=ah h;obtain⟨b,hb,h⟩:=ah h;obtain⟨c',hc,h1,h⟩:=ah h
  exact .inl ⟨_,_,h,fun K' X' hk=>by simp only[cZ,ha,aE,hl,hb,hc];exact⟨h1,hk⟩⟩
 |WX e x y=>
  obtain⟨p,hp,h⟩:=ah h
  cases p<;>try(exact h.elim)
  obtain⟨b,hb,h⟩:=ah h;obtain⟨ys,hy,h1,h2,h⟩:=ah h
  exact .inl ⟨_,_,h,fun K' X' hk=>by simp only[cZ,hp,hb,aE,hy];exact⟨h1,h2,hk⟩⟩
theorem xz{C:aS} {base:Nat}:∀{l:List XO} {i:Nat} {s:S} {K:S->Prop} {X:AV->S->Prop},eE C base i l K X s->
  (∃s',K s'/\∀(K':S->Prop) (X':AV->S->Prop),K' s'->eE C base i l K' X' s)\/∃p s',X p s'/\∀(K':S->Prop) (X':AV->S->Prop),X' p s'->eE C base i l K' X' s
 |[],i,s,K,X,h=>.inl ⟨s,h,fun _ _ h=>h⟩
 |o::l,i,s,K,X,h=>by
  have go:∀{y:(S->Prop)->(AV->S->Prop)->Prop},((∃s',K s'/\∀(K':S->Prop) (X':AV->S->Prop),K' s'->y K' X')\/∃p s',X p s'/\∀(K':S->Prop) (X':AV->S->Prop),X' p s'->y K' X')->(∀K' X',y K' X'->eE C base i (o::l) K' X' s)->
    (∃s',K s'/\∀(K':S->Prop) (X':AV->S->Prop),K' s'->eE C base i (o::l) K' X' s)\/∃p s',X p s'/\∀(K':S->Prop) (X':AV->S->Prop),X' p s'->eE C base i (o::l) K' X' s:=by
   intro y h g
   rcases h with⟨s',h1,h2⟩|⟨p,s',h1,h2⟩
   ·exact .inl ⟨s',h1,fun K' X' hk=>g _ _ (h2 K' X' hk)⟩
   ·exact .inr ⟨p,s',h1,fun K' X' hk=>g _ _ (h2 K' X' hk)⟩
  have run:cZ C (base+i) o.op (fun v s'=>eE C base (i+1) l K X (s'.put o.dst v)) X s->(∃s',K s'/\∀(K':S->Prop) (X':AV->S->Prop),K' s'->cZ C (base+i) o.op (fun v s'=>eE C base (i+1) l K' X' (s'.put o.dst v)) X' s)\/
    ∃p s',X p s'/\∀(K':S->Prop) (X':AV->S->Prop),X' p s'->cZ C (base+i) o.op (fun v s'=>eE C base (i+1) l K' X' (s'.put o.dst v)) X' s:=by
   intro h
   rcases QN h with⟨v,s',h1,h2⟩|⟨p,s',h1,h2⟩
   ·rcases xz h1 with⟨s2,k1,k2⟩|⟨p,s2,k1,k2⟩
    ·exact .inl ⟨s2,k1,fun K' X' hk=>h2 _ _ (k2 K' X' hk)⟩
    ·exact .inr ⟨p,s2,k1,fun K' X' hk=>h2 _ _ (k2 K' X' hk)⟩
   ·exact .inr ⟨p,s',h1,fun K' X' hk=>h2 _ _ hk⟩
  unfold eE eN at h
  cases hg:o.g with
  |none=>
   simp only[hg]at h
   exact go (run h) fun K' X' h=>by unfold eE eN;simp only[hg];exact h
  |some q=>
   obtain⟨t,want⟩:=q;simp only[hg]at h;split at h
   ·rename_i b q2 hl
    by_cases hb:b=want
    ·exact go (run (h.1 hb)) fun K' X' h=>by
      unfold eE eN;simp only[hg,hl]
      exact⟨fun _=>h,fun e=>by subst hb;cases b<;>cases e⟩
    ·exact go (xz (h.2 (by cases b<;>cases want<;>simp_all))) fun K' X' h=>by
      unfold eE eN;simp only[hg,hl]
      exact⟨fun e=>absurd e hb,fun _=>h⟩
   ·rename_i hl
    exact go (xz h) fun K' X' h=>by unfold eE eN;simp only[hg,hl];exact h
   ·exact h.elim
theorem YR {C:aS}:∀ {c:aT} {Q:Exit→S→Prop} {s:S},aw C c Q s→∃ e s',Q e s'∧∀ Q':Exit→S→Prop,Q' e s'→aw C c Q' s:=by
  intro c
  induction c with
  | skip=>intro Q s h; exact ⟨_,_,h,fun _ h=>h⟩
  | KY ops =>
    intro Q s h
    obtain ⟨s',h1,h2⟩:=Fx h
    exact ⟨_,_,h1,fun Q' hq=>h2 _ hq⟩
  | seq a b iha ihb =>
    intro Q s h
    obtain ⟨e,s',h1,h2⟩:=iha h
    cases e with
    | normal =>
      obtain ⟨e,s'',h3,h4⟩:=ihb h1
      exact ⟨e,s'',h3,fun Q' hq=>h2 _ (h4 _ hq)⟩
    | exit i=>exact ⟨_,_,h1,fun Q' hq=>h2 _ hq⟩
    | ret=>exact ⟨_,_,h1,fun Q' hq=>h2 _ hq⟩
    | _=>exact ⟨_,_,h1,fun Q' hq=>h2 _ hq⟩
  | join a b iha ihb =>
    intro Q s h
    obtain ⟨e,s',h1,h2⟩:=iha h
    cases e with
    | normal =>
      obtain ⟨s1,⟨hl,hF⟩|hF⟩:=h1
      · obtain ⟨e,s'',h3,h4⟩:=ihb hF
        exact ⟨e,s'',h3,fun Q' hq=>h2 _ ⟨s1,.inl ⟨hl,h4 _ hq⟩⟩⟩
      · obtain ⟨e,s'',h3,h4⟩:=ihb hF
        exact ⟨e,s'',h3,fun Q' hq=>h2 _ ⟨s1,.inr (h4 _ hq)⟩⟩
    | exit i=>exact ⟨_,_,h1,fun Q' hq=>h2 _ hq⟩
    | ret=>exact ⟨_,_,h1,fun Q' hq=>h2 _ hq⟩
    | _=>exact ⟨_,_,h1,fun Q' hq=>h2 _ hq⟩
  | cond c a b iha ihb =>
    intro Q s h
    simp only [aw] at h ⊢
    obtain ⟨v,hv,hw⟩:=ah h
    cases v<;>try (exact hw.elim)
    rename_i t
    cases t with
    | true =>
      obtain ⟨e,s',h1,h2⟩:=iha (hw.1 rfl)
      exact ⟨e,s',h1,fun Q' hq=>by rw [hv]; exact ⟨fun _=>h2 _ hq,fun h=>by cases h⟩⟩
    | false =>
      obtain ⟨e,s',h1,h2⟩:=ihb (hw.2 rfl)
      exact ⟨e,s',h1,fun Q' hq=>by rw [hv]; exact ⟨fun h=>(by cases h),fun _=>h2 _ hq⟩⟩
  | label l=>intro Q s h; exact ⟨_,_,h,fun _ h=>h⟩
  | goto l=>intro Q s h; exact ⟨_,_,h,fun _ h=>h⟩
  | scope l c r ihc ihr =>
    intro Q s h
    obtain ⟨e,s',h1,h2⟩:=ihc h
    cases e with
    | goto l' =>
      obtain ⟨hl,h1⟩:=h1
      obtain ⟨e,s'',h3,h4⟩:=ihr h1
      cases e with
      | goto l2=>exact h3.elim
      | _=>exact ⟨_,s'',h3,fun Q' hq=>h2 (mJ l (aw C r (AB Q')) Q') ⟨hl,h4 (AB Q') hq⟩⟩
    | _=>exact ⟨_,_,h1,fun Q' hq=>h2 (mJ l (aw C r (AB Q')) Q') hq⟩
  | block id c ih =>
    intro Q s h
    obtain ⟨e,s',h1,h2⟩:=ih h
    cases e with
    | exit i =>
      simp only [gq] at h1
      by_cases hi:i=id
      · rw [if_pos hi] at h1
        exact ⟨_,_,h1,fun Q' hq=>h2 _ (by simp only [gq,if_pos hi]; exact hq)⟩
      · rw [if_neg hi] at h1
        exact ⟨_,_,h1,fun Q' hq=>h2 _ (by simp only [gq,if_neg hi]; exact hq)⟩
    | _=>exact ⟨_,_,h1,fun Q' hq=>h2 _ hq⟩
  | loop c ih =>
    have key:∀ (n:Nat) {Q:Exit→S→Prop} {s:S},nG (aw C c) Q n s→∃ e s',Q e s'∧∀ Q':Exit→S→Prop,Q' e s'→nG (aw C c) Q' n s:=by
      intro n
      induction n with
      | zero=>intro Q s h; exact h.elim
      | succ n ihn =>
        intro Q s h
        obtain ⟨e,s',h1,h2⟩:=ih h
        cases e with
        | normal =>
          obtain ⟨s1,⟨hl,hF⟩|hF⟩:=h1
          · obtain ⟨e,s'',h3,h4⟩:=ihn hF
            exact ⟨e,s'',h3,fun Q' hq=>h2 _ ⟨s1,.inl ⟨hl,h4 _ hq⟩⟩⟩
          · obtain ⟨e,s'',h3,h4⟩:=ihn hF
            exact ⟨e,s'',h3,fun Q' hq=>h2 _ ⟨s1,.inr (h4 _ hq)⟩⟩
        | exit i=>exact ⟨_,_,h1,fun Q' hq=>h2 _ hq⟩
        | ret=>exact ⟨_,_,h1,fun Q' hq=>h2 _ hq⟩
        | _=>exact ⟨_,_,h1,fun Q' hq=>h2 _ hq⟩
    intro Q s h
    obtain ⟨s1,⟨hl,n,hF⟩|⟨n,hF⟩⟩:=h
    · obtain ⟨e,s'',h3,h4⟩:=key n hF
      exact ⟨e,s'',h3,fun Q' hq=>⟨s1,.inl ⟨hl,n,h4 _ hq⟩⟩⟩
    · obtain ⟨e,s'',h3,h4⟩:=key n hF
      exact ⟨e,s'',h3,fun Q' hq=>⟨s1,.inr ⟨n,h4 _ hq⟩⟩⟩
  | exit id=>intro Q s h; exact ⟨_,_,h,fun _ h=>h⟩
  | ret=>intro Q s h; exact ⟨_,_,h,fun _ h=>h⟩
  | ff ops =>
    intro Q s h
    rcases xz h with ⟨s',h1,h2⟩|⟨p,s',h1,h2⟩
    · exact ⟨_,_,h1,fun Q' hq=>h2 _ _ hq⟩
    · exact ⟨_,_,h1,fun Q' hq=>h2 _ _ hq⟩
  | kL ops dU =>
    intro Q s h
    obtain ⟨ids,hids,h⟩:=h
    obtain ⟨css,hcss,ro,hd,h⟩:=ah h
    obtain ⟨s',h1,h2⟩:=Fx h
    exact ⟨_,_,h1,fun Q' hq=>⟨ids,hids,by rw [hcss]; exact ⟨ro,hd,h2 _ hq⟩⟩⟩
  | mI g ps wr as bd iha ihb =>
    intro Q s h
    simp only [aw] at h
    obtain ⟨gv,hgv,xs,h1,h2,F,h3,h4,h5,h6⟩:=ah h
    have mono:∀ {F F':S→Prop} {Q:Exit→S→Prop} {t:S},(∀ s,F s→F' s)→aw C as (r9 (aw C bd (IC wr F Q))) t→aw C as (r9 (aw C bd (IC wr F' Q))) t:=by
      intro F F' Q t hF h
      refine i5 (fun e s ha=>?_) h
      cases e<;>first | exact ha.elim | skip
      refine i5 (fun e s hb=>?_) ha
      cases e<;>first | exact ki hF hb | exact hb
    have key:∀ n i s',xs.length - i=n→i≤xs.length→F i s'→∃ e s'',Q e s''∧∀ Q':Exit→S→Prop,Q' e s''→∃ F':Nat→S→Prop,F' i s'∧(∀ j t,F' j t→i≤j∧aF t g=some gv) ∧
        (∀ j x t,xs[j]? = some x→F' j t→aw C as (r9 (aw C bd (IC wr (F' (j + 1)) Q'))) (oH ps x t))∧∀ t,F' xs.length t→Q' .normal t:=by
      intro n
      induction n with
      | zero =>
        intro i s' hn hi hF
        have hi:i=xs.length:=by omega
        subst hi
        exact ⟨.normal,s',h6 s' hF,fun Q' hq=>⟨fun j t=>j=xs.length∧t=s',⟨rfl,rfl⟩,fun j t ⟨e,e'⟩=>by subst e; subst e'; exact ⟨Nat.le_refl _,h4 _ _ hF⟩,
          fun j x t hx ⟨e,_⟩=>by subst e; simp at hx,fun t ⟨_,e⟩=>by subst e; exact hq⟩⟩
      | succ n ih =>
        intro i s' hn hi hF
        have hlt:i < xs.length:=by omega
        have hx:xs[i]? = some xs[i]:=by simp [hlt]
        obtain ⟨e1,s1,k1,k2⟩:=iha (h5 i _ s' hx hF)
        cases e1<;>try exact k1.elim
        obtain ⟨e2,s2,k3,k4⟩:=ihb k1
        have stop:∀ (e:Exit) (s'':S),Q e s''→(∀ (F':S→Prop) (Q':Exit→S→Prop),Q' e s''→IC wr F' Q' e2 s2)→∃ e s'',Q e s''∧∀ Q':Exit→S→Prop,Q' e s''→∃ F':Nat→S→Prop,F' i s'∧(∀ j t,F' j t→i≤j∧aF t g=some gv) ∧
            (∀ j x t,xs[j]? = some x→F' j t→aw C as (r9 (aw C bd (IC wr (F' (j + 1)) Q'))) (oH ps x t))∧∀ t,F' xs.length t→Q' .normal t:=by
          intro e s'' hq hr
          refine ⟨e,s'',hq,fun Q' hq'=>⟨fun j t=>j=i∧t=s',⟨rfl,rfl⟩,fun j t ⟨e,e'⟩=>by subst e; subst e'; exact ⟨Nat.le_refl _,h4 _ _ hF⟩,fun j x t hx' ⟨e,e'⟩=>?_,fun t ⟨e,_⟩=>by omega⟩⟩
          subst e; subst e'
          rw [hx] at hx'; cases hx'
          exact k2 _ (k4 _ (hr _ _ hq'))
        cases e2 with
        | normal =>
          obtain ⟨s3,hs3⟩:∃ s3,F (i + 1) s3∧(Le (Bg wr s2) s3∨s3=Bg wr s2):=by
            obtain ⟨s3,⟨hl,hf⟩|hf⟩:=(show Eng.down (F (i + 1)) (Bg wr s2) from k3)
            · exact ⟨s3,hf,.inl hl⟩
            · exact ⟨_,hf,.inr rfl⟩
          obtain ⟨e,s'',hq,hre⟩:=ih (i + 1) s3 (by omega) (by omega) hs3.1
          refine ⟨e,s'',hq,fun Q' hq'=>?_⟩
          obtain ⟨F'',g1,g2,g3,g4⟩:=hre Q' hq'
          refine ⟨fun j t=>(j=i∧t=s')∨F'' j t,.inl ⟨rfl,rfl⟩,fun j t ht=>?_,fun j x t hx' ht=>?_,fun t ht=>?_⟩
          · rcases ht with ⟨rfl,rfl⟩ | ht
            · exact ⟨Nat.le_refl _,h4 _ _ hF⟩
            · exact ⟨by have:=(g2 j t ht).1; omega,(g2 j t ht).2⟩
          · rcases ht with ⟨rfl,rfl⟩ | ht
            · rw [hx] at hx'; cases hx'
              refine k2 _ (k4 _ (show Eng.down _ _ from ?_))
              rcases hs3.2 with hl|hl
              · exact ⟨s3,.inl ⟨hl,.inr g1⟩⟩
              · rw [← hl]; exact gi (.inr g1)
            · exact mono (fun _ h=>.inr h) (g3 j x t hx' ht)
          · rcases ht with ⟨e,_⟩ | ht
            · omega
            · exact g4 t ht
        | ret=>exact stop .ret _ k3 fun _ _ h=>h
        | exit id=>exact stop (.exit id) _ k3 fun _ _ h=>h
        | _=>exact k3.elim
    obtain ⟨s0,h0⟩:∃ s0,F 0 s0∧(Le s s0∨s0=s):=by
      obtain ⟨s0,⟨hl,hf⟩|hf⟩:=h3
      · exact ⟨s0,hf,.inl hl⟩
      · exact ⟨_,hf,.inr rfl⟩
    obtain ⟨e,s'',hq,hre⟩:=key _ 0 s0 rfl (Nat.zero_le _) h0.1
    refine ⟨e,s'',hq,fun Q' hq'=>?_⟩
    obtain ⟨F',g1,g2,g3,g4⟩:=hre Q' hq'
    simp only [aw,hgv]
    refine ⟨xs,h1,h2,F',?_,fun j t ht=>(g2 j t ht).2,g3,g4⟩
    rcases h0.2 with hl|hl
    · exact ⟨s0,.inl ⟨hl,g1⟩⟩
    · rw [← hl]; exact gi g1
theorem oW{C:aS} {c:aT} {Q:Exit->S->Prop} {s:S} (h:aw C c (jx (aw C (.loop c) Q) Q) s):aw C (.loop c) Q s:=by
 obtain⟨e,s',h1,h2⟩:=YR h
 cases e with
 |normal=>
  obtain⟨s1,⟨hl,n,hF⟩|⟨n,hF⟩⟩:=h1
  ·exact gi ⟨n+1,h2 _ ⟨s1,.inl ⟨hl,hF⟩⟩⟩
  ·exact gi ⟨n+1,h2 _ ⟨s1,.inr hF⟩⟩
 |exit i=>exact gi ⟨1,h2 _ h1⟩
 |ret=>exact gi ⟨1,h2 _ h1⟩
 |_=>exact gi ⟨1,h2 _ h1⟩
theorem jk(p i:Nat):eo p (i+1)=eo p i++[((p+i:Nat):Int)]:=by simp[eo,List.range_succ]
theorem yT(l:Option (List Int)) (G:Nat):∀g,(cQ l G g).2<=8
 |0=>by simp[cQ]
 |g+1=>by
  have:=yT l G g
  simp only[cQ,br,cE];omega
theorem vT(l:Option (List Int)) (G:Nat):∀g,(cQ l G g).1.length=g
 |0=>by simp[cQ]
 |g+1=>by
  have:=vT l G g
  simp only[cQ,List.length_append,List.length_cons,List.length_nil];omega
def Cut{α:Type} (ex:Exit) (st:α->S) (J:α->Prop) (e:Exit) (s:S):Prop:=e=ex/\∃y,J y/\Le s (st y)
theorem dL{α:Type} {ex:Exit} {st:α->S} {J:α->Prop} {s:S} (y:α) (hy:J y) (hle:Le s (st y)):Cut ex st J ex s:=⟨rfl,y,hy,hle⟩
theorem lJ{C:aS} {c:aT} {Q:Exit->S->Prop} {s:S} {F:S->Prop} {α:Type} (ex:Exit) (st:α->S) (J:α->Prop) (hQ:∀s',Q ex s'=down F s') (h1:aw C c (Cut ex st J) s) (h2:∀y,J y->F (st y)):aw C c Q s:=by
 refine i5 ?_ h1
 rintro e s' ⟨rfl,y,hy,hle⟩
 rw[hQ];exact⟨st y,.inl ⟨hle,h2 y hy⟩⟩
theorem QO:IntKind.i64.wrap (0+1)=1:=by decide
theorem Fy:IntKind.i64.wrap (1+1)=2:=by decide
theorem de{α:Type} (f:α->List AV):aH f none=.aL:=rfl
theorem bA{α:Type} (f:α->List AV) (l:List α):aH f (some l)=.sl (l.map f):=rfl
section
variable{P:Program} (hm:P.follows .mixedOrders=true) {f:Nat}
include hm
theorem rows.ok {fF e eR:Nat} (hc:bF P f=some (ot fF e eR)) (hF:from.Spec (Pure P) fF):rows.Spec (Pure P) f:=by
  intro t l ht hg0
  have hl:=Tb.len ht
  have hp:=Tb.whole ht
  refine w9 hm hc (by show 2≤78; decide) rfl (by simp) (aj (keep:=[3,5]) (i:=0) ?_)
  try simp only [I,RX,↓ KW,Nat.reduceBEq,Nat.reduceAdd,ot,Z.H]
  have hgr:=bE l 0 (n:=3) (by decide) (by decide)
  refine af (hF _ _ _ (by decide)) ?_
  try simp only [I,RX,↓ KW,Nat.reduceBEq,Nat.reduceAdd]
  have hgn:IntKind.i64.wrap (1 + dA l 0 3)=(gz l:Nat):=by
    rw [aW (by omega) (by omega),gz]; omega
  have hg3:1≤gz l∧gz l≤3:=by unfold gz; omega
  rw [hgn]
  generalize gz l=G at *
  refine aG (fun g:Nat=>(⟨[(7,.dat (I g) none),(5,.dat (I G) none),(1,.dat (aH aD l) none),(6,.dat (I (cQ l G g).2) none),(0,.ptr 0 0)],[(0,⟨({ t with groups:=dH (cQ l G g).1 }:Tb).cells,if (cQ l G g).1=[] then [] else [(104,0)]⟩)],bK (cQ l G g).1 0 eR,400⟩:S)) (fun g=>G - g) (fun g=>g≤G) ?_ 0 (by omega) ?_
  · intro g hg A back
    have hw:=aB (k:=g) (by omega)
    have hn2:cQ l G (g + 1)=((cQ l G g).1++[⟨dH (eo (cQ l G g).2 (br (cnt l g 0 0) (cQ l G g).2 (cE G g))),dH (eo ((cQ l G g).2 + br (cnt l g 0 0) (cQ l G g).2 (cE G g)) (br (cnt l g 1 (br (cnt l g 0 0) (cQ l G g).2 (cE G g))) ((cQ l G g).2 + br (cnt l g 0 0) (cQ l G g).2 (cE G g)) (cE G g)))⟩],(cQ l G g).2 + br (cnt l g 0 0) (cQ l G g).2 (cE G g) + br (cnt l g 1 (br (cnt l g 0 0) (cQ l G g).2 (cE G g))) ((cQ l G g).2 + br (cnt l g 0 0) (cQ l G g).2 (cE G g)) (cE G g)):=rfl
    have hp8:(cQ l G g).2≤8:=yT l G g
    have hgl:(cQ l G g).1.length=g:=vT l G g
    generalize hR:cQ l G g=R at *
    obtain ⟨gs,p⟩:=R
    simp only at hn2 hp8 hgl
    have hc0:dA l (1 + 2 * (g:Int) + 0) 3=(cnt l g 0 0:Nat):=by
      have:=bE l (1 + 2 * (g:Int) + 0) (n:=3) (by decide) (by decide)
      have hc:cnt l g 0 0=(dA l (1 + 2 * (g:Int) + 0) 3).toNat:=by simp [cnt]
      rw [hc]; omega
    have hw1:IntKind.i64.wrap (IntKind.i64.wrap (1 + IntKind.i64.wrap (2 * (g:Int))) + 0)=1 + 2 * (g:Int) + 0:=by
      rw [aW (n:=2 * (g:Int)) (by omega) (by omega),aW (n:=1 + 2 * (g:Int)) (by omega) (by omega),aW (by omega) (by omega)]
    have hw2:IntKind.i64.wrap (IntKind.i64.wrap (1 + IntKind.i64.wrap (2 * (g:Int))) + 1)=1 + 2 * (g:Int) + 1:=by
      rw [aW (n:=2 * (g:Int)) (by omega) (by omega),aW (n:=1 + 2 * (g:Int)) (by omega) (by omega),aW (by omega) (by omega)]
    have hlim:IntKind.i64.wrap (8 - IntKind.i64.wrap (IntKind.i64.wrap ((G:Int) - 1) - (g:Int)))=if g < G then ((cE G g:Nat):Int) else (8 - ((G:Int) - 1 - g):Int):=by
      rw [aW (n:=(G:Int) - 1) (by omega) (by omega),aW (n:=(G:Int) - 1 - g) (by omega) (by omega),aW (by omega) (by omega)]
      split<;>simp [cE]<;>omega
    by_cases hgs:gs=[]
    all_goals
      try simp only [I,RX,↓ KW,Nat.reduceBEq,Nat.reduceAdd,hgs,bK,dH]
      refine ax (fun h=>?_) (fun h=>?_)<;>try simp only [RX,↓ KW,Nat.reduceBEq,Nat.reduceAdd,h]
      · have hlt:g < G:=by have:=of_decide_eq_true h; omega
        rw [if_pos hlt] at hlim
        generalize hc0':cnt l g 0 0=n0 at *
        refine lJ (.exit 2) (fun _:Unit=>(⟨[(6,.dat (I (p + br n0 p (cE G g) + br (cnt l g 1 (br n0 p (cE G g))) (p + br n0 p (cE G g)) (cE G g):Nat)) none),(5,.dat (I G) none),(7,.dat (I g) none),(8,.ptr 403 0),(1,.dat (aH aD l) none),(0,.ptr 0 0)],[(403,⟨[aH aD (dH (eo p (br n0 p (cE G g)))),aH aD (dH (eo (p + br n0 p (cE G g)) (br (cnt l g 1 (br n0 p (cE G g))) (p + br n0 p (cE G g)) (cE G g))))],[]⟩),(0,⟨({ t with groups:=dH gs }:Tb).cells,if gs=[] then [] else [(104,0)]⟩)],bK gs 0 eR,1000⟩:S)) (fun _=>True) (fun _=>rfl) ?_ ?_
        · refine oW ?_
          try simp only [I,RX,↓ KW,Nat.reduceBEq,Nat.reduceAdd,Int.reduceLT,hgs]
          refine af (hF _ _ _ (by decide)) ?_
          try simp only [I,RX,↓ KW,Nat.reduceBEq,Nat.reduceAdd,Int.reduceBEq,hw1,hc0]
          refine lJ (.exit 4) (fun _:Unit=>(⟨[(9,.dat (I 0) none),(6,.dat (I (p + br n0 (p) (cE G g):Nat)) none),(5,.dat (I G) none),(7,.dat (I g) none),(8,.ptr 403 0),(1,.dat (aH aD l) none),(0,.ptr 0 0)],[(403,⟨[aH aD (dH (eo (p) (br n0 (p) (cE G g)))),.aL],[]⟩),(0,⟨({ t with groups:=dH gs }:Tb).cells,if gs=[] then [] else [(104,0)]⟩)],bK gs 0 eR,1000⟩:S)) (fun _=>True) (fun _=>rfl) ?_ ?_
          · refine aG (fun i:Nat=>(⟨[(11,.dat (I i) none),(10,.dat (I n0) none),(6,.dat (I (p + i:Nat)) none),(5,.dat (I G) none),(7,.dat (I g) none),(9,.dat (I 0) none),(8,.ptr 403 0),(1,.dat (aH aD l) none),(0,.ptr 0 0)],[(403,⟨[aH aD (dH (eo (p) i)),.aL],if eo (p) i=[] then [] else [(0,1)]⟩),(0,⟨({ t with groups:=dH gs }:Tb).cells,if gs=[] then [] else [(104,0)]⟩)],bK (eo (p) i) 1 e++bK gs 0 eR,1000⟩:S)) (fun i=>br n0 (p) (cE G g) - i) (fun i=>i≤br n0 (p) (cE G g)) ?_ 0 (by omega) ?_
            · intro i hi A1 back1
              have hfl:br n0 (p) (cE G g)≤8:=by simp only [br,cE]; omega
              have hw3:=aB (k:=i) (by omega)
              have hf:br n0 (p) (cE G g)=min n0 (cE G g - (p)):=rfl
              have hp1:IntKind.i64.wrap (((p + i:Nat):Int) + 1)=((p + (i + 1):Nat):Int):=by rw [aW (by omega) (by omega)]; omega
              have hrl:(eo (p) i).length=i:=by simp [eo]
              by_cases hl:eo (p) i=[]
              · try simp only [I,RX,↓ KW,Nat.reduceBEq,Nat.reduceAdd,hl,bK,dH,hgs]
                repeat' (((first | refine aV ?_ ?_ | refine ax ?_ ?_ | refine bC ?_ ?_)<;>intro h)<;>try simp only [RX,↓ KW,Nat.reduceBEq,Nat.reduceAdd,Nat.reduceLeDiff,reduceCtorEq,Nat.reduceMul,Int.reduceLE,Int.reduceToNat,de,hlim,hp1,h])
                · have h1:=of_decide_eq_true h
                  refine ⟨by decide,?_⟩
                  refine ⟨by decide,?_⟩
                  have h2:(i:Int) < n0:=by rename_i h2; exact of_decide_eq_true h2
                  refine back1 (i + 1) _ (by omega) (by omega) (ai (by decide) ?_ ?_ ?_ ?_)<;>simp [LX,I,hw3,jk,hl,dH,bA,hgs]
                · have h1:=of_decide_eq_false h
                  have:i=br n0 (p) (cE G g):=by omega
                  rw [← this]
                  refine dL () trivial ?_
                  refine ai (by decide) ?_ ?_ ?_ ?_<;>simp [LX,hl,de]
                · have h1:=of_decide_eq_false h
                  have:i=br n0 (p) (cE G g):=by omega
                  rw [← this]
                  refine dL () trivial ?_
                  refine ai (by decide) ?_ ?_ ?_ ?_<;>simp [LX,hl,de]
              · try simp only [I,RX,↓ KW,Nat.reduceBEq,Nat.reduceAdd,hl,bK,dH,hgs]
                repeat' (((first | refine aV ?_ ?_ | refine ax ?_ ?_ | refine bC ?_ ?_)<;>intro h)<;>try simp only [RX,↓ KW,Nat.reduceBEq,Nat.reduceAdd,Nat.reduceLeDiff,Int.reduceLE,Int.reduceToNat,bA,hlim,hp1,h])
                · have h1:=of_decide_eq_true h
                  refine ⟨by decide,by omega,by decide,?_⟩
                  have h2:(i:Int) < n0:=by rename_i h2; exact of_decide_eq_true h2
                  refine back1 (i + 1) _ (by omega) (by omega) (ai (by decide) ?_ ?_ ?_ ?_)<;>simp [LX,I,hw3,jk,hl,dH,bA,hgs]
                · have h1:=of_decide_eq_false h
                  have:i=br n0 (p) (cE G g):=by omega
                  rw [← this]
                  refine dL () trivial ?_
                  refine ai (by decide) ?_ ?_ ?_ ?_<;>simp [LX,hl,bA]
                · have h1:=of_decide_eq_false h
                  have:i=br n0 (p) (cE G g):=by omega
                  rw [← this]
                  refine dL () trivial ?_
                  refine ai (by decide) ?_ ?_ ?_ ?_<;>simp [LX,hl,bA]
            · refine ai (by decide) ?_ ?_ ?_ ?_<;>simp [LX,I,eo,dH,de,hgs]
          · intro _ _
            generalize hm0:br n0 p (cE G g)=m0 at *
            have hrow0:(dH (eo p m0)).getD []=eo p m0:=dV _
            have hrl0:(eo p m0).length=m0:=by simp [eo]
            have hm8:m0≤8:=by rw [← hm0]; simp only [br,cE]; omega
            try simp only [I,RX,↓ KW,Nat.reduceBEq,Nat.reduceAdd,hgs]
            refine oW ?_
            try simp only [RX,↓ KW,Nat.reduceBEq,Nat.reduceAdd,Int.reduceLT,QO]
            refine af (hF _ _ _ (by decide)) ?_
            try simp only [I,RX,↓ KW,Nat.reduceBEq,Nat.reduceAdd,Int.reduceBEq,hw2]
            have hr2:=bE l (1 + 2 * (g:Int) + 1) (n:=3) (by decide) (by decide)
            have hcn0:cnt l g 1 m0=if (dA l (1 + 2 * (g:Int) + 1) 3).toNat=0∧m0=0 then 1 else (dA l (1 + 2 * (g:Int) + 1) 3).toNat:=by simp [cnt]
            generalize dA l (1 + 2 * (g:Int) + 1) 3=fr1 at *
            generalize hn1:cnt l g 1 m0=n1 at *
            repeat' (((first | refine aV ?_ ?_ | refine ax ?_ ?_ | refine bC ?_ ?_)<;>intro h)<;>try simp only [RX,↓ KW,Nat.reduceBEq,Nat.reduceAdd,Int.reduceLE,Int.reduceToNat,hrow0,hrl0,h])
            · have hfr:fr1=0:=by simpa using h
              refine ⟨by decide,?_⟩
              refine ax (fun hz=>?_) (fun hz=>?_)<;>try simp only [RX,↓ KW,Nat.reduceAdd,hz]
              · have hz:m0=0:=by simpa using hz
                have hcn:(n1:Int)=1:=by rw [hcn0,if_pos ⟨by omega,hz⟩]; rfl
                refine lJ (.exit 4) (fun _:Unit=>(⟨[(9,.dat (I 1) none),(6,.dat (I (p + m0 + br n1 (p + m0) (cE G g):Nat)) none),(5,.dat (I G) none),(7,.dat (I g) none),(8,.ptr 403 0),(1,.dat (aH aD l) none),(0,.ptr 0 0)],[(403,⟨[aH aD (dH (eo p m0)),aH aD (dH (eo (p + m0) (br n1 (p + m0) (cE G g))))],[]⟩),(0,⟨({ t with groups:=dH gs }:Tb).cells,if gs=[] then [] else [(104,0)]⟩)],bK gs 0 eR,1000⟩:S)) (fun _=>True) (fun _=>rfl) ?_ ?_
                · refine aG (fun i:Nat=>(⟨[(11,.dat (I i) none),(10,.dat (I n1) none),(6,.dat (I (p + m0 + i:Nat)) none),(5,.dat (I G) none),(7,.dat (I g) none),(9,.dat (I 1) none),(8,.ptr 403 0),(1,.dat (aH aD l) none),(0,.ptr 0 0)],[(403,⟨[aH aD (dH (eo p m0)),aH aD (dH (eo (p + m0) i))],if eo (p + m0) i=[] then [] else [(1,1)]⟩),(0,⟨({ t with groups:=dH gs }:Tb).cells,if gs=[] then [] else [(104,0)]⟩)],bK (eo (p + m0) i) 1 e++bK gs 0 eR,1000⟩:S)) (fun i=>br n1 (p + m0) (cE G g) - i) (fun i=>i≤br n1 (p + m0) (cE G g)) ?_ 0 (by omega) ?_
                  · intro i hi A1 back1
                    have hfl:br n1 (p + m0) (cE G g)≤8:=by simp only [br,cE]; omega
                    have hw3:=aB (k:=i) (by omega)
                    have hf:br n1 (p + m0) (cE G g)=min n1 (cE G g - (p + m0)):=rfl
                    have hp1:IntKind.i64.wrap (((p + m0 + i:Nat):Int) + 1)=((p + m0 + (i + 1):Nat):Int):=by rw [aW (by omega) (by omega)]; omega
                    have hrl:(eo (p + m0) i).length=i:=by simp [eo]
                    by_cases hl:eo (p + m0) i=[]
                    · try simp only [I,RX,↓ KW,Nat.reduceBEq,Nat.reduceAdd,hl,bK,dH,hgs]
                      repeat' (((first | refine aV ?_ ?_ | refine ax ?_ ?_ | refine bC ?_ ?_)<;>intro h)<;>try simp only [RX,↓ KW,Nat.reduceBEq,Nat.reduceAdd,Nat.reduceLeDiff,reduceCtorEq,Nat.reduceMul,Int.reduceLE,Int.reduceToNat,de,hlim,hp1,h])
                      · have h1:=of_decide_eq_true h
                        refine ⟨by decide,?_⟩
                        refine ⟨by decide,?_⟩
                        have h2:(i:Int) < n1:=by rename_i h2; exact of_decide_eq_true h2
                        refine back1 (i + 1) _ (by omega) (by omega) (ai (by decide) ?_ ?_ ?_ ?_)<;>simp [LX,I,hw3,jk,hl,dH,bA,hgs]
                      · have h1:=of_decide_eq_false h
                        have:i=br n1 (p + m0) (cE G g):=by omega
                        rw [← this]
                        refine dL () trivial ?_
                        refine ai (by decide) ?_ ?_ ?_ ?_<;>simp [LX,hl,de]
                      · have h1:=of_decide_eq_false h
                        have:i=br n1 (p + m0) (cE G g):=by omega
                        rw [← this]
                        refine dL () trivial ?_
                        refine ai (by decide) ?_ ?_ ?_ ?_<;>simp [LX,hl,de]
                    · try simp only [I,RX,↓ KW,Nat.reduceBEq,Nat.reduceAdd,hl,bK,dH,hgs]
                      repeat' (((first | refine aV ?_ ?_ | refine ax ?_ ?_ | refine bC ?_ ?_)<;>intro h)<;>try simp only [RX,↓ KW,Nat.reduceBEq,Nat.reduceAdd,Int.reduceLE,Int.reduceToNat,bA,hlim,hp1,h])
                      · have h1:=of_decide_eq_true h
                        refine ⟨by decide,by omega,by decide,?_⟩
                        have h2:(i:Int) < n1:=by rename_i h2; exact of_decide_eq_true h2
                        refine back1 (i + 1) _ (by omega) (by omega) (ai (by decide) ?_ ?_ ?_ ?_)<;>simp [LX,I,hw3,jk,hl,dH,bA,hgs]
                      · have h1:=of_decide_eq_false h
                        have:i=br n1 (p + m0) (cE G g):=by omega
                        rw [← this]
                        refine dL () trivial ?_
                        refine ai (by decide) ?_ ?_ ?_ ?_<;>simp [LX,hl,bA]
                      · have h1:=of_decide_eq_false h
                        have:i=br n1 (p + m0) (cE G g):=by omega
                        rw [← this]
                        refine dL () trivial ?_
                        refine ai (by decide) ?_ ?_ ?_ ?_<;>simp [LX,hl,bA]
                  · refine ai (by decide) ?_ ?_ ?_ ?_<;>simp [LX,I,eo,dH,de,hgs,hcn]
                · intro _ _
                  try simp only [I,RX,↓ KW,Nat.reduceBEq,Nat.reduceAdd,hgs,dH]
                  refine oW ?_
                  try simp only [RX,↓ KW,Nat.reduceBEq,Nat.reduceAdd,Int.reduceLT,Fy]
                  refine dL () trivial ?_
                  refine ai (by decide) ?_ ?_ ?_ ?_<;>simp [LX,hgs]
              · have hz:¬ m0=0:=by simpa using hz
                have hcn:fr1=(n1:Int):=by rw [hcn0,if_neg (fun hh=>hz hh.2)]; omega
                refine lJ (.exit 4) (fun _:Unit=>(⟨[(9,.dat (I 1) none),(6,.dat (I (p + m0 + br n1 (p + m0) (cE G g):Nat)) none),(5,.dat (I G) none),(7,.dat (I g) none),(8,.ptr 403 0),(1,.dat (aH aD l) none),(0,.ptr 0 0)],[(403,⟨[aH aD (dH (eo p m0)),aH aD (dH (eo (p + m0) (br n1 (p + m0) (cE G g))))],[]⟩),(0,⟨({ t with groups:=dH gs }:Tb).cells,if gs=[] then [] else [(104,0)]⟩)],bK gs 0 eR,1000⟩:S)) (fun _=>True) (fun _=>rfl) ?_ ?_
                · refine aG (fun i:Nat=>(⟨[(11,.dat (I i) none),(10,.dat (I n1) none),(6,.dat (I (p + m0 + i:Nat)) none),(5,.dat (I G) none),(7,.dat (I g) none),(9,.dat (I 1) none),(8,.ptr 403 0),(1,.dat (aH aD l) none),(0,.ptr 0 0)],[(403,⟨[aH aD (dH (eo p m0)),aH aD (dH (eo (p + m0) i))],if eo (p + m0) i=[] then [] else [(1,1)]⟩),(0,⟨({ t with groups:=dH gs }:Tb).cells,if gs=[] then [] else [(104,0)]⟩)],bK (eo (p + m0) i) 1 e++bK gs 0 eR,1000⟩:S)) (fun i=>br n1 (p + m0) (cE G g) - i) (fun i=>i≤br n1 (p + m0) (cE G g)) ?_ 0 (by omega) ?_
                  · intro i hi A1 back1
                    have hfl:br n1 (p + m0) (cE G g)≤8:=by simp only [br,cE]; omega
                    have hw3:=aB (k:=i) (by omega)
                    have hf:br n1 (p + m0) (cE G g)=min n1 (cE G g - (p + m0)):=rfl
                    have hp1:IntKind.i64.wrap (((p + m0 + i:Nat):Int) + 1)=((p + m0 + (i + 1):Nat):Int):=by rw [aW (by omega) (by omega)]; omega
                    have hrl:(eo (p + m0) i).length=i:=by simp [eo]
                    by_cases hl:eo (p + m0) i=[]
                    · try simp only [I,RX,↓ KW,Nat.reduceBEq,Nat.reduceAdd,hl,bK,dH,hgs]
                      repeat' (((first | refine aV ?_ ?_ | refine ax ?_ ?_ | refine bC ?_ ?_)<;>intro h)<;>try simp only [RX,↓ KW,Nat.reduceBEq,Nat.reduceAdd,Nat.reduceLeDiff,reduceCtorEq,Nat.reduceMul,Int.reduceLE,Int.reduceToNat,de,hlim,hp1,h])
                      · have h1:=of_decide_eq_true h
                        refine ⟨by decide,?_⟩
                        refine ⟨by decide,?_⟩
                        have h2:(i:Int) < n1:=by rename_i h2; exact of_decide_eq_true h2
                        refine back1 (i + 1) _ (by omega) (by omega) (ai (by decide) ?_ ?_ ?_ ?_)<;>simp [LX,I,hw3,jk,hl,dH,bA,hgs]
                      · have h1:=of_decide_eq_false h
                        have:i=br n1 (p + m0) (cE G g):=by omega
                        rw [← this]
                        refine dL () trivial ?_
                        refine ai (by decide) ?_ ?_ ?_ ?_<;>simp [LX,hl,de]
                      · have h1:=of_decide_eq_false h
                        have:i=br n1 (p + m0) (cE G g):=by omega
                        rw [← this]
                        refine dL () trivial ?_
                        refine ai (by decide) ?_ ?_ ?_ ?_<;>simp [LX,hl,de]
                    · try simp only [I,RX,↓ KW,Nat.reduceBEq,Nat.reduceAdd,hl,bK,dH,hgs]
                      repeat' (((first | refine aV ?_ ?_ | refine ax ?_ ?_ | refine bC ?_ ?_)<;>intro h)<;>try simp only [RX,↓ KW,Nat.reduceBEq,Nat.reduceAdd,Int.reduceLE,Int.reduceToNat,bA,hlim,hp1,h])
                      · have h1:=of_decide_eq_true h
                        refine ⟨by decide,by omega,by decide,?_⟩
                        have h2:(i:Int) < n1:=by rename_i h2; exact of_decide_eq_true h2
                        refine back1 (i + 1) _ (by omega) (by omega) (ai (by decide) ?_ ?_ ?_ ?_)<;>simp [LX,I,hw3,jk,hl,dH,bA,hgs]
                      · have h1:=of_decide_eq_false h
                        have:i=br n1 (p + m0) (cE G g):=by omega
                        rw [← this]
                        refine dL () trivial ?_
                        refine ai (by decide) ?_ ?_ ?_ ?_<;>simp [LX,hl,bA]
                      · have h1:=of_decide_eq_false h
                        have:i=br n1 (p + m0) (cE G g):=by omega
                        rw [← this]
                        refine dL () trivial ?_
                        refine ai (by decide) ?_ ?_ ?_ ?_<;>simp [LX,hl,bA]
                  · refine ai (by decide) ?_ ?_ ?_ ?_<;>simp [LX,I,eo,dH,de,hgs,hcn]
                · intro _ _
                  try simp only [I,RX,↓ KW,Nat.reduceBEq,Nat.reduceAdd,hgs,dH]
                  refine oW ?_
                  try simp only [RX,↓ KW,Nat.reduceBEq,Nat.reduceAdd,Int.reduceLT,Fy]
                  refine dL () trivial ?_
                  refine ai (by decide) ?_ ?_ ?_ ?_<;>simp [LX,hgs]
            · have hfr:¬ fr1=0:=by simpa using h
              have hcn:fr1=(n1:Int):=by rw [hcn0,if_neg (fun hh=>hfr (by omega))]; omega
              refine lJ (.exit 4) (fun _:Unit=>(⟨[(9,.dat (I 1) none),(6,.dat (I (p + m0 + br n1 (p + m0) (cE G g):Nat)) none),(5,.dat (I G) none),(7,.dat (I g) none),(8,.ptr 403 0),(1,.dat (aH aD l) none),(0,.ptr 0 0)],[(403,⟨[aH aD (dH (eo p m0)),aH aD (dH (eo (p + m0) (br n1 (p + m0) (cE G g))))],[]⟩),(0,⟨({ t with groups:=dH gs }:Tb).cells,if gs=[] then [] else [(104,0)]⟩)],bK gs 0 eR,1000⟩:S)) (fun _=>True) (fun _=>rfl) ?_ ?_
              · refine aG (fun i:Nat=>(⟨[(11,.dat (I i) none),(10,.dat (I n1) none),(6,.dat (I (p + m0 + i:Nat)) none),(5,.dat (I G) none),(7,.dat (I g) none),(9,.dat (I 1) none),(8,.ptr 403 0),(1,.dat (aH aD l) none),(0,.ptr 0 0)],[(403,⟨[aH aD (dH (eo p m0)),aH aD (dH (eo (p + m0) i))],if eo (p + m0) i=[] then [] else [(1,1)]⟩),(0,⟨({ t with groups:=dH gs }:Tb).cells,if gs=[] then [] else [(104,0)]⟩)],bK (eo (p + m0) i) 1 e++bK gs 0 eR,1000⟩:S)) (fun i=>br n1 (p + m0) (cE G g) - i) (fun i=>i≤br n1 (p + m0) (cE G g)) ?_ 0 (by omega) ?_
                · intro i hi A1 back1
                  have hfl:br n1 (p + m0) (cE G g)≤8:=by simp only [br,cE]; omega
                  have hw3:=aB (k:=i) (by omega)
                  have hf:br n1 (p + m0) (cE G g)=min n1 (cE G g - (p + m0)):=rfl
                  have hp1:IntKind.i64.wrap (((p + m0 + i:Nat):Int) + 1)=((p + m0 + (i + 1):Nat):Int):=by rw [aW (by omega) (by omega)]; omega
                  have hrl:(eo (p + m0) i).length=i:=by simp [eo]
                  by_cases hl:eo (p + m0) i=[]
                  · try simp only [I,RX,↓ KW,Nat.reduceBEq,Nat.reduceAdd,hl,bK,dH,hgs]
                    repeat' (((first | refine aV ?_ ?_ | refine ax ?_ ?_ | refine bC ?_ ?_)<;>intro h)<;>try simp only [RX,↓ KW,Nat.reduceBEq,Nat.reduceAdd,Nat.reduceLeDiff,reduceCtorEq,Nat.reduceMul,Int.reduceLE,Int.reduceToNat,de,hlim,hp1,h])
                    · have h1:=of_decide_eq_true h
                      refine ⟨by decide,?_⟩
                      refine ⟨by decide,?_⟩
                      have h2:(i:Int) < n1:=by rename_i h2; exact of_decide_eq_true h2
                      refine back1 (i + 1) _ (by omega) (by omega) (ai (by decide) ?_ ?_ ?_ ?_)<;>simp [LX,I,hw3,jk,hl,dH,bA,hgs]
                    · have h1:=of_decide_eq_false h
                      have:i=br n1 (p + m0) (cE G g):=by omega
                      rw [← this]
                      refine dL () trivial ?_
                      refine ai (by decide) ?_ ?_ ?_ ?_<;>simp [LX,hl,de]
                    · have h1:=of_decide_eq_false h
                      have:i=br n1 (p + m0) (cE G g):=by omega
                      rw [← this]
                      refine dL () trivial ?_
                      refine ai (by decide) ?_ ?_ ?_ ?_<;>simp [LX,hl,de]
                  · try simp only [I,RX,↓ KW,Nat.reduceBEq,Nat.reduceAdd,hl,bK,dH,hgs]
                    repeat' (((first | refine aV ?_ ?_ | refine ax ?_ ?_ | refine bC ?_ ?_)<;>intro h)<;>try simp only [RX,↓ KW,Nat.reduceBEq,Nat.reduceAdd,Int.reduceLE,Int.reduceToNat,bA,hlim,hp1,h])
                    · have h1:=of_decide_eq_true h
                      refine ⟨by decide,by omega,by decide,?_⟩
                      have h2:(i:Int) < n1:=by rename_i h2; exact of_decide_eq_true h2
                      refine back1 (i + 1) _ (by omega) (by omega) (ai (by decide) ?_ ?_ ?_ ?_)<;>simp [LX,I,hw3,jk,hl,dH,bA,hgs]
                    · have h1:=of_decide_eq_false h
                      have:i=br n1 (p + m0) (cE G g):=by omega
                      rw [← this]
                      refine dL () trivial ?_
                      refine ai (by decide) ?_ ?_ ?_ ?_<;>simp [LX,hl,bA]
                    · have h1:=of_decide_eq_false h
                      have:i=br n1 (p + m0) (cE G g):=by omega
                      rw [← this]
                      refine dL () trivial ?_
                      refine ai (by decide) ?_ ?_ ?_ ?_<;>simp [LX,hl,bA]
                · refine ai (by decide) ?_ ?_ ?_ ?_<;>simp [LX,I,eo,dH,de,hgs,hcn]
              · intro _ _
                try simp only [I,RX,↓ KW,Nat.reduceBEq,Nat.reduceAdd,hgs,dH]
                refine oW ?_
                try simp only [RX,↓ KW,Nat.reduceBEq,Nat.reduceAdd,Int.reduceLT,Fy]
                refine dL () trivial ?_
                refine ai (by decide) ?_ ?_ ?_ ?_<;>simp [LX,hgs]
        · intro _ _
          have hgc:=Tb.I9 (t:={ t with groups:=dH gs }) ht.phases
          have hln:=Tb.len' (t:={ t with groups:=dH gs }) ht.phases ht.conflict ht.cB
          have hset:=Tb.Ja (t:={ t with groups:=dH gs }) ht.phases (some (gs++[⟨dH (eo p (br n0 p (cE G g))),dH (eo (p + br n0 p (cE G g)) (br (cnt l g 1 (br n0 p (cE G g))) (p + br n0 p (cE G g)) (cE G g)))⟩]))
          simp only [hgs,dH,if_true,if_false] at hgc hln hset
          try simp only [I,RX,↓ KW,Nat.reduceBEq,Nat.reduceAdd,Nat.reduceLeDiff,reduceCtorEq,Nat.reduceMul,hgc,de,bA,Gr.len,hgl,hgs,dH]
          try refine ⟨by omega,?_⟩
          try refine ⟨by simp [bK,hgs,d7],?_⟩
          try refine ⟨by omega,?_⟩
          simp [bA,Gr.cells] at hset
          refine back (g + 1) _ (by omega) (by omega) (ai (by decide) ?_ ?_ ?_ ?_)<;>simp [LX,I,hn2,hw,hgs,dH,hset]
          trace_state
      · have hgG:g=G:=by have:=of_decide_eq_false h; omega
        subst hgG
        first
          | (exfalso; rw [hgs] at hgl; simp at hgl; omega)
          | exact ⟨by rw [hR],by rw [hR]⟩
  · have:({ t with groups:=none }:Tb)=t:=by cases t; simp_all
    refine ai (by decide) ?_ ?_ ?_ ?_<;>simp [LX,I,cQ,dH,this]
end
end Go.Eng
