/- Part 17 of the engine and its library. -/
import Derived.Test.YtjnbemnncjbmgaaGreatPkA16
set_option linter.all false
set_option maxRecDepth 10000
set_option maxHeartbeats 4000000
namespace Go.Eng
open Go
section
variable{P:Program} (hm:P.follows .mixedOrders=true) {f:Nat}
include hm
theorem Fp.ok{fC:Nat} (hc:bF P f=some (xw fC)) (hC:LK.Spec (Pure P) fC):Fp.Spec (Pure P) f:=by
 intro a b held tail out x
 have hE:Y0 a b held tail out x=if(!x&&(held==0&&(tail==0&&out==false)))=true then(held,tail,out)
  else if decide ((if x then bM held else 0)>c9 a)=true then((if x then bM held else 0),c9 b,true)
  else if(out&&decide (c9 tail>0))=true then((if x then bM held else 0),c9 tail-1,true)
  else((if x then bM held else 0),0,false):=by simp only[Y0,ii]
 have hw:IntKind.i64.wrap (c9 held+1)=bM held:=by
  have:0<=c9 held/\c9 held<=9999:=by unfold c9 gN;split<;>(try split)<;>omega
  rfl
 have V:IntKind.i64.wrap (c9 tail-1)=c9 tail-1:=by
  have:0<=c9 tail/\c9 tail<=9999:=by unfold c9 gN;split<;>(try split)<;>omega
  rw[aY aaN aaN]
 generalize Y0 a b held tail out x=res at*;refine aq hm hc [] rfl ?_;try simp only[I,B,D,RX,↓KW,seval,xw,Z.H]
 have qe:cq [.i,.i,.b] [.int .i64 held,.int .i64 tail,.bool out] [.int .i64 0,.int .i64 0,.bool false]=some (held==0&&(tail==0&&out==false)):=by
  simp[cq,rI]
 have qf:(false !=false)=false:=rfl
 have qt:(true !=false)=true:=rfl
 rcases bc x with O|O
 ·try simp only[I,B,D,RX,↓KW,seval,O,qe]
  rcases bc (held==0&&(tail==0&&out==false))with R|R
  ·try simp only[I,B,D,RX,↓KW,seval,R,qf]
   refine af (hC _) ?_;try simp only[I,B,D,RX,↓KW,seval]
   refine af (hC _) ?_;try simp only[I,B,D,RX,↓KW,seval]
   rcases bc (decide (0>c9 a))with L|L
   ·try simp only[I,B,D,RX,↓KW,seval,L]
    rcases bc out with M|M
    ·try simp only[I,B,D,RX,↓KW,seval,M]
     rw[hE,O,R];simp only[L,M,nm,nz,pA,pc,pB,pd,eQ,kv,il]
    ·try simp only[I,B,D,RX,↓KW,seval,M]
     rcases bc (decide (c9 tail>0))with h4|h4
     ·try simp only[I,B,D,RX,↓KW,seval,h4]
      rw[hE,O,R];simp only[L,M,h4,nm,nz,pA,pc,pB,pd,eQ,kv,il]
     ·try simp only[I,B,D,RX,↓KW,seval,h4,V]
      rw[hE,O,R];simp only[L,M,h4,nm,nz,pA,pc,pB,pd,eQ,kv,il]
   ·try simp only[I,B,D,RX,↓KW,seval,L]
    refine af (hC b) ?_;try simp only[I,B,D,RX,↓KW,seval]
    rw[hE,O,R];simp only[L,nm,nz,pA,pc,pB,pd,eQ,kv,il]
  ·try simp only[I,B,D,RX,↓KW,seval,R,qt]
   rw[hE,O,R];rfl
 ·try simp only[I,B,D,RX,↓KW,seval,O]
  refine af (hC _) ?_;try simp only[I,B,D,RX,↓KW,seval,hw]
  refine af (hC _) ?_;try simp only[I,B,D,RX,↓KW,seval,hw]
  refine af (hC _) ?_;try simp only[I,B,D,RX,↓KW,seval,hw]
  rcases bc (decide (bM held>c9 a))with L|L
  ·try simp only[I,B,D,RX,↓KW,seval,L]
   rcases bc out with M|M
   ·try simp only[I,B,D,RX,↓KW,seval,M]
    rw[hE,O];simp only[L,M,nm,nz,pA,pc,pB,pd,eQ,kv,il]
   ·try simp only[I,B,D,RX,↓KW,seval,M]
    rcases bc (decide (c9 tail>0))with h4|h4
    ·try simp only[I,B,D,RX,↓KW,seval,h4]
     rw[hE,O];simp only[L,M,h4,nm,nz,pA,pc,pB,pd,eQ,kv,il]
    ·try simp only[I,B,D,RX,↓KW,seval,h4,V]
     rw[hE,O];simp only[L,M,h4,nm,nz,pA,pc,pB,pd,eQ,kv,il]
  ·try simp only[I,B,D,RX,↓KW,seval,L]
   refine af (hC b) ?_;try simp only[I,B,D,RX,↓KW,seval]
   rw[hE,O];simp only[L,nm,nz,pA,pc,pB,pd,eQ,kv,il]
theorem LM.ok(hc:bF P f=some mE):LM.Spec (Pure P) f:=by
 intro l k hl
 have V:∀x,jF x=[fv x]:=λ_=>rfl
 refine aq hm hc [] rfl ?_;try simp only[I,B,D,RX,↓KW,seval,mE,Z.H,UG]
 rcases bc (decide ((k:Int)<((l.getD []).length:Int)))with h|h
 ·have M:(l.getD []).length<=k:=by have:=dE h;omega
  have L:LJ (l.getD []) k=none:=by simp[LJ,M]
  try simp only[I,B,D,RX,↓KW,seval,h]
  rw[L];rfl
 ·have M:k<(l.getD []).length:=by have:=dT h;omega
  obtain⟨x,O⟩:∃x,(l.getD [])[k]? =some x:=⟨_,eh M⟩
  have L:LJ (l.getD []) k=x:=by rw[LJ,ia,O];rfl
  have R:0<=(k:Int)/\(k:Int)<((l.getD []).length:Int):=aaN
  try simp only[I,B,D,RX,↓KW,seval,h,O,R,V]
  rw[L]
end
def Fq.Spec(C:aQ) (f:Nat):Prop:=∀(t:Tb) (l:Option (List Ch)) (x:Option (List (Option Nat))),t.Ok->t.Fw->(l.getD []).length<=1000000->(x.getD []).length<=1000000->C.c f [.agg t.cells,aJ Ch.cells l,aJ jF x] (aJ Ch.cells (d9 (pL t (l.getD []) (x.getD []) (t.aR.getD []).length))) none
section
variable{P:Program} (hm:P.follows .mixedOrders=true) {f:Nat}
include hm
theorem LL.ok(hc:bF P f=some jD):LL.Spec (Pure P) f:=by
 intro l k hl
 have V:(Ch.cells default).length=7:=rfl
 have L:aB (Ch.cells default) 0 (some 7)=some (.agg (Ch.cells default)):=rfl
 have hq:∀x:Ch,x.cells.length=7/\aB x.cells 0 (some 7)=some (.agg x.cells)/\x.cells.take 7=x.cells:=λ_=>⟨rfl,rfl,rfl⟩
 refine aq hm hc [] rfl ?_;try simp only[I,B,D,RX,↓KW,seval,jD,Z.H,V,L]
 rcases bc (decide ((k:Int)<((l.getD []).length:Int)))with h|h
 ·have O:(l.getD []).length<=k:=by have:=dE h;omega
  have M:Fh (l.getD []) k=default:=by simp[Fh,O]
  try simp only[I,B,D,RX,↓KW,seval,h,V,L]
  rw[M]
 ·have O:k<(l.getD []).length:=by have:=dT h;omega
  obtain⟨x,R⟩:∃x,(l.getD [])[k]? =some x:=⟨_,eh O⟩
  have M:Fh (l.getD []) k=x:=by rw[Fh,ia,R];rfl
  have hy:0<=(k:Int)/\(k:Int)<((l.getD []).length:Int):=aaN
  try simp only[I,B,D,RX,↓KW,seval,h,R,hy,hq]
  rw[M]
theorem Fq.ok{fA fN fF fL fS fG fT fY e:Nat} (hc:bF P f=some (oz fA fN fF fL fS fG fT fY e)) (hA:LL.Spec (Pure P) fA) (hN:Ra.Spec (Pure P) fN) (hF:LM.Spec (Pure P) fF) (hL:Fi.Spec (Pure P) fL) (hS:Fj.Spec (Pure P) fS) (hG:Fk.Spec (Pure P) fG) (hT:Ar.Spec (Pure P) fT) (hY:Fp.Spec (Pure P) fY):Fq.Spec (Pure P) f:=by
 intro t l x ht ae ac ab
 have hl:=Tb.len ht
 have hd:=ht.ln.Tw
 have al:=ht.ahg
 refine aq hm hc [] rfl ?_;try simp only[I,B,D,RX,↓KW,seval,oz,Z.H,hl,hd]
 refine aK (λk:Nat=>(⟨[(16,.dat (I k) none),(15,.dat (I (t.aR.getD []).length) none),(14,.dat (aJ zh.cells t.aR) none),(1,.dat (aJ Ch.cells l) none),(2,.dat (aJ jF x) none),(7,bA Ch.cells (pL t (l.getD []) (x.getD []) k) 0)],[],bP (pL t (l.getD []) (x.getD []) k) 0 e,400⟩:S)) (λk=>(t.aR.getD []).length-k) (λk=>k<=(t.aR.getD []).length) ?_ 0 aaN ?_
 ·intro k hk A back
  have ak:=aD (k:=k) aaN
  have R:pL t (l.getD []) (x.getD []) (k+1)=pL t (l.getD []) (x.getD []) k++[Nw (K3 t k) (Fh (l.getD []) k) (LJ (x.getD []) k)]:=by simp[pL,lL]
  try simp only[I,B,D,RX,↓KW,seval]
  rcases bc (decide ((k:Int)<((t.aR.getD []).length:Int)))with h|h
  ·have ad:k=(t.aR.getD []).length:=by have:=dE h;omega
   subst ad
   by_cases L:pL t (l.getD []) (x.getD []) (t.aR.getD []).length=[]
   ·try simp only[I,B,D,RX,↓KW,seval,h,bA,bP,L]
    rfl
   ·try simp only[I,B,D,RX,↓KW,seval,h,bA,bP,L]
    simp[aJ,d9,L]
  ·have h1:k<(t.aR.getD []).length:=by have:=dT h;omega
   obtain⟨d,hx⟩:∃d,(t.aR.getD [])[k]? =some d:=⟨_,eh h1⟩
   have aa:K3 t k=d:=by rw[K3,ia,hx];rfl
   have O:d.Fw:=ae d (et hx)
   have hy:0<=(k:Int)/\(k:Int)<((t.aR.getD []).length:Int):=aaN
   have M:d.cells.length=7/\aB d.cells 0 (some 7)=some (.agg d.cells)/\d.cells.take 7=d.cells/\d.cells[3]? =some (Fl d.delay)/\d.cells[4]? =some (Fl d.extend):=⟨rfl,rfl,rfl,rfl,rfl⟩
   have hz:∀y:List AV,y.length=7->setCells [.int .i64 0,.float .f64 0,.float .f64 0,.float .f64 0,.float .f64 0,.int .i64 0,.int .i64 0] 0 y=y:=by intro y hy;exact bp (by rw[hy];rfl)
   generalize ag:pL t (l.getD []) (x.getD []) k=cs at*
   obtain⟨c,V⟩:∃c,Fh (l.getD []) k=c:=⟨_,rfl⟩
   obtain⟨v,hv⟩:∃v,LJ (x.getD []) k=v:=⟨_,rfl⟩
   have cA:=hA l k ac
   have cF:=hF x k ab
   rw[V]at cA;rw[hv]at cF;rw[aa,V,hv]at R
   by_cases L:cs=[]
   all_goals
    try simp only[I,B,D,RX,↓KW,seval,bA,bP,L,h,hx,hy,M]
    refine af cA ?_;try simp only[I,B,D,RX,↓KW,seval,Ch.cells,M]
    refine af hN ?_;try simp only[I,B,D,RX,↓KW,seval,Ch.cells,M]
    refine af cF ?_;try simp only[I,B,D,RX,↓KW,seval,Ch.cells,M]
    refine af (hL d c.on c.cJ v) ?_;try simp only[I,B,D,RX,↓KW,seval,Ch.cells,M]
    refine af (hS _ _) ?_;try simp only[I,B,D,RX,↓KW,seval,Ch.cells,M]
    refine af (hG _ _ _) ?_;try simp only[I,B,D,RX,↓KW,seval,Ch.cells,M]
    refine af (hT d.delay (by obtain⟨_,_,h,_⟩:=O;exact h)) ?_
    try simp only[I,B,D,RX,↓KW,seval,Ch.cells,M]
    refine af (hT d.extend (by obtain⟨_,_,_,h⟩:=O;exact h)) ?_
    try simp only[I,B,D,RX,↓KW,seval,Ch.cells,M]
    refine af (hY _ _ _ _ _ _) ?_;try simp only[I,B,D,RX,↓KW,seval,Ch.cells,M]
    first
     |refine back (k+1) _ aaN aaN ?_
     |(have am:cs.length=k:=by{rw[<-ag];simp[pL]}
       refine⟨aaN,back (k+1) _ aaN aaN ?_⟩)
    refine ai aaO ?_ ?_ ?_ ?_<;>simp[LX,I,B,D,R,L,ak,bA,bP,Nw,Ch.cells]
 ·refine ai aaO ?_ ?_ ?_ ?_<;>simp[LX,I,B,D,bA,bP,pL]
end
def Fs(t:Tb) (l:List Ch):Nat:=min l.length (t.aR.getD []).length
def Ft.Spec(C:aQ) (f:Nat):Prop:=∀(t:Tb) (l:Option (List Ch)),t.Ok->(l.getD []).length<=1000000->C.c f [.agg t.cells,aJ Ch.cells l] (I (kK t (l.getD []) (Fs t (l.getD [])))) none
section
variable{P:Program} (hm:P.follows .mixedOrders=true) {f:Nat}
include hm
theorem Ft.ok{fF fS fW:Nat} (hc:bF P f=some (vB fF fS fW)) (hF:Bp.Spec (Pure P) fF) (hS:Aq.Spec (Pure P) fS) (hW:iD.Spec (Pure P) fW):Ft.Spec (Pure P) f:=by
 intro t l ht ae
 have hl:=Tb.len ht
 have hd:=ht.ln.Tw
 have ak:=ht.ahg
 refine aq hm hc [] rfl ?_;try simp only[I,B,D,RX,↓KW,seval,vB,Z.H,hl,hd]
 refine aK (λk:Nat=>(⟨[(11,.dat (I k) none),(10,.dat (I (l.getD []).length) none),(9,.dat (aJ Ch.cells l) none),(2,.ptr 4 0),(5,.dat (I (kK t (l.getD []) k)) none)],[(4,⟨t.cells,[]⟩)],[],400⟩:S)) (λk=>(l.getD []).length-k) (λk=>k<=(l.getD []).length/\k<=(t.aR.getD []).length) ?_ 0 aaN ?_
 ·rintro k ⟨hk,ag⟩ A back
  have O:=aD (k:=k) aaN
  try simp only[I,B,D,RX,↓KW,seval]
  rcases bc (decide ((k:Int)<((l.getD []).length:Int)))with h|h
  ·have R:Fs t (l.getD [])=k:=by have:=dE h;unfold Fs;omega
   try simp only[I,B,D,RX,↓KW,seval,h]
   rw[R]
  ·have h1:k<(l.getD []).length:=by have:=dT h;omega
   obtain⟨c,hx⟩:∃c,(l.getD [])[k]? =some c:=⟨_,eh h1⟩
   have ad:Fh (l.getD []) k=c:=by rw[Fh,ia,hx];rfl
   have hy:0<=(k:Int)/\(k:Int)<((l.getD []).length:Int):=aaN
   try simp only[I,B,D,RX,↓KW,seval,h,hx,hy,hd,Ch.cells]
   rcases bc (decide (((t.aR.getD []).length:Int)<=(k:Int)))with h2|h2
   ·have h3:k<(t.aR.getD []).length:=by have:=dE h2;omega
    obtain⟨d,aa⟩:∃d,(t.aR.getD [])[k]? =some d:=⟨_,eh h3⟩
    have ab:K3 t k=d:=by rw[K3,ia,aa];rfl
    have ac:0<=(k:Int)/\(k:Int)<((t.aR.getD []).length:Int):=aaN
    have M:d.cells.length=7/\aB d.cells 0 (some 7)=some (.agg d.cells)/\d.cells.take 7=d.cells/\d.cells[0]? =some (I d.phase)/\d.cells[5]? =some (I d.maxOn)/\d.cells[6]? =some (I d.uO):=⟨rfl,rfl,rfl,rfl,rfl,rfl⟩
    have hE:kK t (l.getD []) (k+1)=if Hv d c then dZ (kK t (l.getD []) k) d.phase else kK t (l.getD []) k:=by rw[kK,ab,ad]
    try simp only[I,B,D,RX,↓KW,seval,h2,aa,ac,hd,M]
    rcases bc c.out with a1|a1
    ·try simp only[I,B,D,RX,↓KW,seval,a1,Ch.cells,M]
     refine af (hF c.on c.cJ) ?_;try simp only[I,B,D,RX,↓KW,seval,Ch.cells,M]
     rcases bc (decide (c.cJ>=3))with V|V
     ·try simp only[I,B,D,RX,↓KW,seval,V,Ch.cells,M]
      refine af (hS d.maxOn d.uO c.Wa c.Gs) ?_;try simp only[I,B,D,RX,↓KW,seval,Ch.cells,M]
      rcases bc (YZ d.maxOn d.uO c.Wa c.Gs)with a3|a3
      ·try simp only[I,B,D,RX,↓KW,seval,a3,Ch.cells,M]
       have L:kK t (l.getD []) (k+1)=kK t (l.getD []) k:=by rw[hE];simp only[Hv,a1,V,a3,PQ,eQ,il]
       refine back (k+1) _ aaN aaN ?_
       refine ai aaO ?_ ?_ ?_ ?_<;>simp[LX,I,B,D,O,L]
      ·try simp only[I,B,D,RX,↓KW,seval,a3,Ch.cells,M]
       have L:kK t (l.getD []) (k+1)=dZ (kK t (l.getD []) k) d.phase:=by rw[hE];simp only[Hv,a1,V,a3,Bool.or_true,PP,PQ,w5,kv]
       refine af (hW _ _) ?_;try simp only[I,B,D,RX,↓KW,seval]
       refine back (k+1) _ aaN aaN ?_
       refine ai aaO ?_ ?_ ?_ ?_<;>simp[LX,I,B,D,O,L]
     ·try simp only[I,B,D,RX,↓KW,seval,V,Ch.cells,M]
      have L:kK t (l.getD []) (k+1)=dZ (kK t (l.getD []) k) d.phase:=by rw[hE];simp only[Hv,a1,V,Bool.or_true,PP,PQ,w5,kv]
      refine af (hW _ _) ?_;try simp only[I,B,D,RX,↓KW,seval]
      refine back (k+1) _ aaN aaN ?_
      refine ai aaO ?_ ?_ ?_ ?_<;>simp[LX,I,B,D,O,L]
    ·try simp only[I,B,D,RX,↓KW,seval,a1,Ch.cells,M]
     have L:kK t (l.getD []) (k+1)=dZ (kK t (l.getD []) k) d.phase:=by rw[hE];simp only[Hv,a1,Bool.or_true,PP,PQ,w5,kv]
     refine af (hW _ _) ?_;try simp only[I,B,D,RX,↓KW,seval]
     refine back (k+1) _ aaN aaN ?_
     refine ai aaO ?_ ?_ ?_ ?_<;>simp[LX,I,B,D,O,L]
   ·have R:Fs t (l.getD [])=k:=by have:=dT h2;unfold Fs;omega
    try simp only[I,B,D,RX,↓KW,seval,h2]
    rw[R]
 ·refine ai aaO ?_ ?_ ?_ ?_<;>simp[LX,I,B,D,kK]
end
section
variable (t:Tb) (s:Pr) (C:aQ) (lines:Int) (f:Nat) (l:List Rn)
def Gu:Pr:=if s.ay<0\/6<=s.ay then{s with ay:=0}else s
def Y1:Pr:=Gu (kG t s lines)
def gR:Bool:=decide (aN t s>=0)&&(s.ay==0||(s.ay==5||decide (aN t s<s.which)))
def aF:Int×Pr:=
 if s.ay=0 then(0,s)else if s.ay=1 then(sI t s l,s)else if s.ay=2 then(pI t s,s)
 else if s.ay=3 then(nL t s l,s)else if s.ay=4 then i7 t s else(iG t s l,s)
def oC(to:Int):Ac:=
 if to=0 then⟨0,0,0,true,false⟩else if to=1 then mT t s l else if to=2 then Uz t s l
 else if to=3 then Lk t s l else if to=4 then UA t s l else UB t s l
def gT(to was:Int):Pr:={s with ay:=to,time:=oy t {s with ay:=to} l (to !=was)}
def j4:Pr×Ac:=
 if gR t s then({s with ay:=1,which:=aN t s,time:=0},mT t {s with ay:=1,which:=aN t s,time:=0} l)
 else if s.ay=5/\(aF t s l).1=0 then({(aF t s l).2 with ay:=0,which:=0,time:=0},jC t (aF t s l).2 l)
 else(gT t (aF t s l).2 l (aF t s l).1 s.ay,oC t (gT t (aF t s l).2 l (aF t s l).1 s.ay) l (aF t s l).1)
def j5:Pr×Ac:=j4 t (Y1 t s lines) l
def LN.Spec:Prop:=∀(t:Tb) (s:Pr) (lines:Int) (l:List Rn),mD t s l->C.c f [.agg t.cells,.agg s.cells,I lines,.agg (bU l)] (.de [.agg (j5 t s lines l).1.cells,.agg (j5 t s lines l).2.cells]) none
def As.Spec:Prop:=∃n:List AV,n.length=12/\jQ (.agg n)=false/\C.c f [] (.agg n) none/\
 (∀k:Nat,k<6->∃g,n[k*2]? =some (.fn (.func g) [] [])/\∀t s l,mD t s l->s.ay=k->C.p g [dc t s l] [none] (I (aF t s l).1) none [dc t (aF t s l).2 l])/\
 (∀k:Nat,k<6->∃g,n[k*2+1]? =some (.fn (.func g) [] [])/\∀t s l,mD t s l->C.c g [.ref (dc t s l)] (.agg (oC t s l k).cells) none)
theorem Hw{t:Tb} {s:Pr} (h:s.held.length=4):(gQ t s).held.length=4:=by unfold gQ;split<;>exact h
theorem Nx{t:Tb} {s:Pr} (h:s.held.length=4):(i7 t s).2.held.length=4:=by
 unfold i7;split
 ·exact h
 ·split<;>exact Hw h
theorem oD{t:Tb} {s:Pr} {l:List Rn} (h:s.held.length=4):(aF t s l).2.held.length=4:=by
 unfold aF
 repeat' split
 all_goals first|exact h|exact Nx h
theorem lO:0<=(aF t s l).1/\(aF t s l).1<6:=by
 simp only[aF,sI,pI,nL,i7,iG]
 repeat' split
 all_goals(simp only[];omega)
end
section
variable{t:Tb} {s:Pr} {l:List Rn} (h:mD t s l)
include h
section
variable (x:Int)
theorem UH:(dc t s l)[131]? =some (I s.ay)/\(dc t s l)[132]? =some (I s.which)/\(dc t s l)[133]? =some (I s.time)/\(dc t s l)[138]? =some (I s.eH)/\aB (dc t s l) 131 (some 8)=some (.agg s.cells):=by
 have e:∀j,(dc t s l)[131+j]? =(Bk s l)[j]?:=λj=>by
  rw[<-rm h,lw]
 obtain⟨O,D,L,M⟩:=OY h;rw[lw]at D L M;refine⟨(e 0).trans O,(e 1).trans D,(e 2).trans L,(e 7).trans M,?_⟩;exact eS (Tb.len h.t) (Pr.len h.s)
theorem adQ{k:Nat} (hk:k<4):(dc t s l)[134+k]? =some (I (eV s k)):=by
 have:=aij h hk
 rw[<-rm h,te,te,lw,show 131+(3+k)+0=134+k by omega]at this
 exact this
theorem Dc{j:Nat} {ps:List AV} (L:j+ps.length<=8):setCells (dc t s l) (131+j) ps=t.cells++(setCells s.cells j ps++bU l):=by
 have D:=Tb.len h.t
 have M:=Pr.len h.s
 rw[dc,bR aaN,D,Nat.add_sub_cancel_left,Bk,Em aaN]
theorem adR:setCells (dc t s l) 131 [I x]=dc t {s with ay:=x} l:=Dc h (j:=0) (ps:=[I x]) aaP
theorem UI:setCells (dc t s l) 132 [I x]=dc t {s with which:=x} l:=Dc h (j:=1) (ps:=[I x]) aaP
theorem adS:setCells (dc t s l) 133 [I x]=dc t {s with time:=x} l:=Dc h (j:=2) (ps:=[I x]) aaP
theorem adT:setCells (dc t s l) 138 [I x]=dc t {s with eH:=x} l:=by
 rw[show(138:Nat)=131+7 from rfl,Dc h aaP]
 have e:setCells s.cells 7 [I x]=({s with eH:=x}:Pr).cells:=by rw[Pr.cells,Pr.cells,jM h.s];rfl
 rw[e];rfl
theorem ee{u:Pr} (D:u.held.length=4):mD t u l:=⟨h.t,D,h.l⟩
end
end
theorem UJ{t:Tb} {s:Pr} {l:List Rn} (h:mD t s l) {z:List AV} (O:z.length=235):
  List.take 139 (List.take 131 (t.cells++List.drop 131 z)++s.cells++List.drop 139 (t.cells++List.drop 131 z))++bU l++List.drop 235 (List.take 131 (t.cells++List.drop 131 z)++s.cells++List.drop 139 (t.cells++List.drop 131 z))=dc t s l:=by
 have L:=Tb.len h.t
 have M:=Pr.len h.s
 have a1:List.take 131 (t.cells++List.drop 131 z)=t.cells:=by rw[yk L]
 have D:List.take 139 (t.cells++s.cells++List.drop 139 (t.cells++List.drop 131 z))=t.cells++s.cells:=by rw[yk (by simp;omega)]
 rw[a1,D,mn (by simp;omega),tp,List.append_assoc];rfl
section
variable{P:Program} (hm:P.follows .mixedOrders=true) {f:Nat}
include hm
theorem As.ok{a0 V a1 M a2 b2 a3 R a4 b4 a5 O:Nat} (hc:bF P f=some (o9 a0 V a1 M a2 b2 a3 R a4 b4 a5 O))
  (h0:Ll.Spec (Pure P) a0) (k0:Lm.Spec (Pure P) V) (h1:zR.Spec (Pure P) a1) (k1:Bn.Spec (Pure P) M) (h2:zS.Spec (Pure P) a2) (k2:EZ.Spec (Pure P) b2)
  (h3:rq.Spec (Pure P) a3) (k3:vv.Spec (Pure P) R) (h4:zT.Spec (Pure P) a4) (k4:E0.Spec (Pure P) b4) (h5:zU.Spec (Pure P) a5) (k5:E1.Spec (Pure P) O):As.Spec (Pure P) f:=by
 refine⟨[a0,V,a1,M,a2,b2,a3,R,a4,b4,a5,O].map λk=>.fn (.func k) [] [],rfl,rfl,?_,?_,?_⟩
 ·refine aq hm hc [] rfl ?_
  try simp only[RX,↓KW,seval,o9,Z.H]
  exact⟨rfl,aaO,rfl⟩
 ·intro k hk
  have e:k=0\/k=1\/k=2\/k=3\/k=4\/k=5:=aaN
  have L:∀{g:Nat} {F:Tb->Pr->List Rn->Int} {t s l},WI F (Pure P) g->mD t s l->(aF t s l)=(F t s l,s)->(Pure P).p g [dc t s l] [none] (I (aF t s l).1) none [dc t (aF t s l).2 l]:=λ{g F t s l} hg h he=>by
   rw[he];exact bK (args:=[none]) (hg t s l h) rfl aaP
  rcases e with rfl|rfl|rfl|rfl|rfl|rfl
  ·exact⟨a0,rfl,λt s l h D=>L h0 h (by simp[aF,D])⟩
  ·exact⟨a1,rfl,λt s l h D=>L h1 h (by simp[aF,D])⟩
  ·exact⟨a2,rfl,λt s l h D=>L h2 h (by simp[aF,D])⟩
  ·exact⟨a3,rfl,λt s l h D=>L h3 h (by simp[aF,D])⟩
  ·refine⟨a4,rfl,λt s l h D=>?_⟩
   have:aF t s l=i7 t s:=by simp[aF,D]
   rw[this];exact h4 t s l h
  ·exact⟨a5,rfl,λt s l h D=>L h5 h (by simp[aF,D])⟩
 ·intro k hk
  have e:k=0\/k=1\/k=2\/k=3\/k=4\/k=5:=aaN
  rcases e with rfl|rfl|rfl|rfl|rfl|rfl
  ·exact⟨V,rfl,k0⟩
  ·exact⟨M,rfl,k1⟩
  ·exact⟨b2,rfl,k2⟩
  ·exact⟨R,rfl,k3⟩
  ·exact⟨b4,rfl,k4⟩
  ·exact⟨O,rfl,k5⟩
theorem zT.ok {fR fY:Nat} (hc:bF P f=some (kW fR fY)) (hR:lg.Spec (Pure P) fR) (hY:Bh.Spec (Pure P) fY):zT.Spec (Pure P) f:=by
  intro t s l h
  have hq:=UH h
  have hlen:=I9 h
  have ht:=OX h
  have hz:∀ r:Rl,setCells bW 0 r.cells=r.cells:=fun _=>rfl
  have hzl:bW.length=11:=rfl
  have hr9:∀ r:Rl,r.cells[9]? = some (I r.most)∧r.cells[8]? = some (I r.stay):=fun _=>⟨rfl,rfl⟩
  have faA:=dC hq (dC hlen (dC ht (dC hz (dC hzl (dC hr9 (Rl.len))))))
  refine Ec hm hc [] rfl rfl rfl ?_
  try simp only [I,RY,↓ KW,seval,kW,Z.H]
  refine jU [1] rfl ?_
  try simp only [I,RY,↓ KW,seval,faA]
  refine ⟨rfl,cN (bK (hR t s l h) rfl (fi rfl)) ?_⟩
  try simp only [I,B,D,RY,↓ KW,seval,faA]
  have hz8:∀ u:Pr,u.held.length=4→aB (dc t u l) 131 (some 8)=some (.agg u.cells)∧aB (dc t u l) 0 (some 131)=some (.agg t.cells)∧(dc t u l).length=235:=fun u hu=>⟨(UH (ee h hu)).2.2.2.2,OX (ee h hu),I9 (ee h hu)⟩
  have hsp:=Hw (t:=t) h.s
  have hY1:=hY t (gQ t s) h.t hsp
  obtain ⟨z1,z2,z3⟩:=hz8 _ hsp
  have z4:=UI (ee h hsp)
  have fin:∀ {v:Bool},Cc s=v→(!Hp t s && (v || decide (s.time < (bD t s).stay)))=true→i7 t s=(4,s):=fun {v} e1 e2=>by
    rw [i7,e1,ib e2]
  have fin2:∀ {v:Bool},Cc s=v→(!Hp t s && (v || decide (s.time < (bD t s).stay)))=false→i7 t s=if aN t (gQ t s) ≥ 0 then (1,{ gQ t s with which:=aN t (gQ t s) }) else (5,gQ t s):=fun {v} e1 e2=>by
    rw [i7,e1,ge (by rw [e2]; decide)]
  have hl:Hp t s=(decide ((bD t s).most > 0) && decide (s.time ≥ (bD t s).most)):=rfl
  have tail1:∀ {v:Bool},Cc s=v→Hp t s=false∨v=false→gQ t s=s:=fun {v} e1 e2=>by
    rw [gQ,e1]; rcases e2 with e | e<;>rw [e]<;>simp
  have pw:0≤s.which∧s.which < 4→min s.which.toNat IntKind.i64.bits=s.which.toNat∧(decide (s.which < 0)=false):=fun hx=>by
    have:IntKind.i64.bits=64:=rfl
    exact ⟨aaN,by simp; omega⟩
  have hx4:Cc s=true→0≤s.which∧s.which < 4:=fun e=>by
    simp only [Cc,ed,ii] at e; exact ⟨e.1.1,e.1.2⟩
  obtain ⟨v,hv⟩:∃ v,Cc s=v:=⟨_,rfl⟩
  have h4:v=(decide (s.which ≥ 0) && decide (s.which < 4) && decide (eV s s.which.toNat > 0)):=by rw [← hv]; rfl
  cases hA1:decide (s.which ≥ 0)
  rotate_left
  cases hA2:decide (s.which < 4)
  rotate_left
  have hx:0≤s.which∧s.which < 4:=⟨dT hA1,dT hA2⟩
  have hh:=adQ h (k:=s.which.toNat) aaN
  try simp only [I,RY,↓ KW,seval,hx,hh,faA]
  cases hA3:decide (eV s s.which.toNat > 0)
  all_goals
    first | rw [hA1,hA2,hA3] at h4 | rw [hA1,hA2] at h4 | rw [hA1] at h4
    simp only [zr,pd,pc] at h4
    subst h4
    try try simp only [I,B,D,RY,↓ KW,seval,hA3,faA]
    try try simp only [I,RY,↓ KW,seval,hA2,faA]
    try try simp only [I,RY,↓ KW,seval,faA]
    cases h5:decide ((bD t s).most > 0)<;>cases h6:decide (s.time ≥ (bD t s).most)<;>cases h7:decide (s.time < (bD t s).stay)
    all_goals
      rw [h5,h6] at hl
      simp only [zr,pd,pc] at hl
      try simp only [I,RY,↓ KW,seval,faA]
      try try simp only [I,RY,↓ KW,seval,h6,faA]
      try try simp only [RY,↓ KW,seval,h7,faA]
      first
        | (have e:=fin hv (by rw [hl,h7]; rfl); rw [e]; exact ⟨rfl,rfl⟩)
        | skip
  all_goals first
    | (have e:=fin2 hv (by rw [hl,h7]; rfl)
       have es:=tail1 hv (by rw [hl]; first | exact .inl rfl | exact .inr rfl)
       rw [es] at hY1 e z4
       refine af hY1 ?_
       try simp only [I,RY,↓ KW,seval]
       generalize aN t s=k at *
       cases h8:decide (k ≥ 0)
       · rw [ge (dE h8)] at e
         try simp only [RY,↓ KW,seval]
         rw [e]; exact ⟨rfl,rfl⟩
       · rw [ib (dT h8)] at e
         try simp only [RY,↓ KW,seval,z4,faA]
         first | (refine ⟨aaN,?_⟩; rw [e]; exact ⟨rfl,rfl⟩) | (rw [e]; exact ⟨rfl,rfl⟩))
    | (have e:=fin2 hv (by rw [hl,h7]; rfl)
       have es:gQ t s={ s with eH:=AQ .i64 s.eH (IntKind.i64.wrap (2 ^ s.which.toNat)) }:=by rw [gQ,hl,hv]; rfl
       obtain ⟨p1,p2⟩:=pw (hx4 hv)
       have p3:(1:Int) * 2 ^ s.which.toNat=2 ^ s.which.toNat:=Int.one_mul _
       have s7:=adT h (AQ .i64 s.eH (IntKind.i64.wrap (2 ^ s.which.toNat)))
       rw [← es] at s7
       refine ⟨(hx4 hv).1,?_⟩
       try simp only [RY,↓ KW,seval,p1,p3,s7,z1,z2]
       refine af hY1 ?_
       try simp only [I,RY,↓ KW,seval,p1,p3,s7]
       generalize aN t (gQ t s)=k at *
       cases h8:decide (k ≥ 0)
       · rw [ge (dE h8)] at e
         try simp only [RY,↓ KW,seval]
         rw [e]; exact ⟨rfl,rfl⟩
       · rw [ib (dT h8)] at e
         try simp only [RY,↓ KW,seval,z3,z4]
         first | (refine ⟨aaN,?_⟩; rw [e]; exact ⟨rfl,rfl⟩) | (rw [e]; exact ⟨rfl,rfl⟩))
end
structure Hx where
 samples:Option (List (Option Nat))
 push:Int
 ask:Int
 lines:Int
 deriving Inhabited
def Hx.cells(x:Hx):List AV:=[aJ jF x.samples,I x.push,I x.ask,I x.lines]
structure Td where
 start:Int
 fin:Int
 cut:Int
 dM:Int
 hold:Int
 early:Int
section
variable (t:Tb) (s:bB) (c:Nat->Cu) (x:Hx) (k p:Nat)
def Td.cells(x:Td):List AV:=[I x.start,I x.fin,I x.cut,I x.dM,I x.hold,I x.early]
def nDt:Nat:=(t.aR.getD []).length
def Fu:Option (List Ch):=d9 (pL t (s.gH.getD []) (x.samples.getD []) (nDt t))
def UK:Int:=G0 t (kK t ((Fu t s x).getD []) (Fs t ((Fu t s x).getD [])))
def Wd:Int:=OR λp=>gp (s.rn p)
def wkS:Int:=OR λp=>Bl (s.rn p)
def We:Cs:=Tk t s.calls (UK t s x) x.push (Wd s) (wkS s)
def RE:Int:=Tl t (We t s x) (UK t s x)
def uj:Pr×Ac:=j5 t s.pre x.lines s.runs
def Gv:gx:=
 if(uj t s x).2.free then(LD t s.rings s.runs (RE t s x)).1 else if(uj t s x).2.back then Q9 t (YX t s.pre.which)else s.rings
def LO:Td:=
 if(uj t s x).2.free then⟨(LD t s.rings s.runs (RE t s x)).2.1,(LD t s.rings s.runs (RE t s x)).2.2,0,YW t s.rings s.runs (RE t s x),G8 t s.mj s.runs x.ask,ED t s.mj s.runs x.ask⟩
 else⟨(uj t s x).2.start,(uj t s x).2.fin,(uj t s x).2.cut,0,0,0⟩
def cuE(d:Td) (here iy:Int) (free:Bool) (p:Nat):Cu:=⟨eK d.start p,eK d.fin p,eK here p,free&&eK iy p,eK d.dM p,eK d.hold p,eK d.early p,eK d.cut p⟩
def Gw:Cu:=cuE (LO t s x) (UK t s x) (We t s x).iy (uj t s x).2.free p
def nr:List Rn:=(List.range 8).map λp=>if p<k then cj (aV t p) (s.rn p) (c p)else s.rn p
def tY(t:Tb) (s:bB) (c:Nat->Cu):Nat->Bool
 |0=>false
 |k+1=>tY t s c k||yx (aV t k) (s.rn k) (c k)
def Ny(free:Bool) (r:gx):Bool:=free&&(s.rings.mX&&(!r.mX&&decide (r.group<=s.rings.group)))
def rdE:Rd:=vn t s.mj x.ask (tY t s (Gw t s x) 8) (Ny s (uj t s x).2.free (Gv t s x))
def Mz:bB:=⟨nr t s (Gw t s x) 8,Gv t s x,rdE t s x,(uj t s x).1,We t s x,Fu t s x⟩
theorem Nz{t:Tb} {s:bB} {c:Nat->Cu} (h:s.Ok):nr t s c 0=s.runs:=by
 refine List.ext_getElem (by simp[nr,h.runs]) λi L D=>?_
 simp[nr,bB.rn,ia,D]
theorem NA{t:Tb} {s:bB} {c:Nat->Cu} {k:Nat} (hk:k<8):(nr t s c k).set k (cj (aV t k) (s.rn k) (c k))=nr t s c (k+1):=by
 have:k=0\/k=1\/k=2\/k=3\/k=4\/k=5\/k=6\/k=7:=aaN
 rcases this with rfl|rfl|rfl|rfl|rfl|rfl|rfl|rfl<;>simp[nr,lL]
theorem Bq:(nr t s c k).length=8:=by simp[nr]
theorem Rb{a b:List AV} {off z:Nat} (h:off+z<=a.length):aB (a++b) off (some z)=aB a off (some z):=by
 simp only[aB,s8]
 rw[ib aaN,ib h,List.drop_append_of_le_length aaN,Fd (by simp;omega)]
theorem bB.UM{s:bB}:s.cells=(bU s.runs++s.rings.cells)++(s.mj.cells++(s.pre.cells++(s.calls.cells++[aJ Ch.cells s.gH]))):=by simp[bB.cells]
theorem bB.UN{s:bB}:s.cells=(bU s.runs++(s.rings.cells++s.mj.cells))++(s.pre.cells++(s.calls.cells++[aJ Ch.cells s.gH])):=by simp[bB.cells]
theorem bB.UO{s:bB}:s.cells=(bU s.runs++(s.rings.cells++(s.mj.cells++s.pre.cells)))++(s.calls.cells++[aJ Ch.cells s.gH]):=by simp[bB.cells]
theorem bB.UP{s:bB}:s.cells=(bU s.runs++(s.rings.cells++(s.mj.cells++(s.pre.cells++s.calls.cells))))++([aJ Ch.cells s.gH]++[]):=by simp[bB.cells]
end
section
variable{s:bB} (h:s.Ok)
include h
theorem bB.p96:aB s.cells 96 (some 4)=some (.agg s.rings.cells):=eS (dw h.runs) rfl
theorem bB.ain:(bU s.runs++s.rings.cells).length=100:=by simp[dw h.runs,gx.cells]
theorem bB.aio:(bU s.runs++(s.rings.cells++s.mj.cells)).length=106:=by simp[dw h.runs,gx.cells,Rd.cells,h.lock]
theorem bB.aip:(bU s.runs++(s.rings.cells++(s.mj.cells++s.pre.cells))).length=114:=by simp[dw h.runs,gx.cells,Rd.cells,Pr.cells,h.lock,h.held]
theorem bB.adV:(bU s.runs++(s.rings.cells++(s.mj.cells++(s.pre.cells++s.calls.cells)))).length=116:=by simp[dw h.runs,gx.cells,Rd.cells,Pr.cells,Cs.cells,h.lock,h.held]
theorem bB.aiq:aB s.cells 100 (some 6)=some (.agg s.mj.cells):=by rw[bB.UM (s:=s)];exact eS (bB.ain h) (by simp[Rd.cells,h.lock])
theorem bB.adW:aB s.cells 106 (some 8)=some (.agg s.pre.cells):=by rw[bB.UN (s:=s)];exact eS (bB.aio h) (Pr.len h.held)
theorem bB.Y2:aB s.cells 114 (some 2)=some (.agg s.calls.cells):=by rw[bB.UO (s:=s)];exact eS (bB.aip h) rfl
theorem bB.g96:s.cells[96]? =some (I s.rings.group):=nB (bB.p96 h) (j:=0) aaN
theorem bB.g99:s.cells[99]? =some (B s.rings.mX):=nB (bB.p96 h) (j:=3) aaN
theorem bB.akt:s.cells[107]? =some (I s.pre.which):=nB (bB.adW h) (j:=1) aaN
theorem bB.aku:s.cells[115]? =some (I s.calls.iy):=nB (bB.Y2 h) (j:=1) aaN
theorem bB.adX:s.cells[116]? =some (aJ Ch.cells s.gH):=by rw[bB.UP (s:=s),kt (by rw[bB.adV h];omega),bB.adV h];rfl
theorem bB.s96(x:gx):setCells s.cells 96 x.cells={s with rings:=x}.cells:=oT (dw h.runs) rfl
theorem bB.akv{x:Rd} (D:x.lock.length=4):setCells s.cells 100 x.cells={s with mj:=x}.cells:=by
 rw[bB.UM (s:=s),oT (bB.ain h) (by simp[Rd.cells,h.lock,D])];simp[bB.cells]
theorem bB.akw{x:Pr} (D:x.held.length=4):setCells s.cells 106 x.cells={s with pre:=x}.cells:=by
 rw[bB.UN (s:=s),oT (bB.aio h) (by rw[Pr.len h.held,Pr.len D])];simp[bB.cells]
theorem bB.akx(x:Cs):setCells s.cells 114 x.cells={s with calls:=x}.cells:=by
 rw[bB.UO (s:=s),oT (mid:=s.calls.cells) (ps:=x.cells) (bB.aip h) rfl];simp[bB.cells]
theorem bB.aky(x:Option (List Ch)):setCells s.cells 116 [aJ Ch.cells x]={s with gH:=x}.cells:=by
 rw[bB.UP (s:=s),oT (mid:=[aJ Ch.cells s.gH]) (ps:=[aJ Ch.cells x]) (bB.adV h) rfl];simp[bB.cells]
end
section
variable {n:Int} {s:Pr} {t:Tb}
theorem NB:(Y1 t s n).held.length=4:=by
 have:(kG t s n).held.length=4:=by simp[kG,gn]
 unfold Y1 Gu;split<;>exact this
theorem Hy{l:List Rn}:(j5 t s n l).1.held.length=4:=by
 have L:=NB (t:=t) (s:=s) (n:=n)
 have D:=oD (t:=t) (l:=l) L
 unfold j5 j4;split
 ·exact L
 ·split
  ·exact D
  ·exact D
theorem adY{G:Prop} {F:S->Prop} {α:Type} (st:α->S) (J:α->Prop) (h:(∀y s,J y->Le s (st y)->down F s)->G) (hF:∀y,J y->F (st y)):G:=
 h λy s L D=>nu D (hF y L)
def Fv.Spec(C:aQ) (f:Nat):Prop:=∀(t:Tb) (s:bB) (x:Hx),t.Ok->t.Fw->nDt t<=1000000->s.Ok->(s.gH.getD []).length<=1000000->(x.samples.getD []).length<=1000000->C.c f [.agg t.cells,.agg s.cells,.agg x.cells] (.agg (Mz t s x).cells) none
end
section
variable{P:Program} (hm:P.follows .mixedOrders=true) {f:Nat}
include hm
theorem Fv.ok{fD fE fH fG fK fC fW fP fR fS fO fA fX fU fB fY fZ fT:Nat} (hc:bF P f=some (vz fD fE fH fG fK fC fW fP fR fS fO fA fX fU fB fY fZ fT)) (hD:Fq.Spec (Pure P) fD) (hE:Ft.Spec (Pure P) fE) (hH:Qw.Spec (Pure P) fH)
  (hG:Ao.Spec (Pure P) fG) (hK:Ap.Spec (Pure P) fK) (hC:Step.Spec (Pure P) fC) (hW:Want.Spec (Pure P) fW) (hP:LN.Spec (Pure P) fP) (hR:Fe.Spec (Pure P) fR) (hS:LG.Spec (Pure P) fS) (hO:TP.Spec (Pure P) fO) (hA:Early.Spec (Pure P) fA)
  (hX:Fg.Spec (Pure P) fX) (hU:LH.Spec (Pure P) fU) (hB:lD.Spec (Pure P) fB) (hY:Fa.Spec (Pure P) fY) (hZ:E9.Spec (Pure P) fZ) (hT:EF.Spec (Pure P) fT):Fv.Spec (Pure P) f:=by
 intro t s x R au b4 M bl a5
 have bw:=Tb.len R
 have hp:=Tb.whole R
 have a2:dA.length=117:=rfl
 have an:∀u:bB,u.Ok->setCells dA 0 u.cells=u.cells:=λu hu=>bp (by rw[bB.len hu];rfl)
 have q1:=bB.len M
 have q2:=bB.whole M
 have q3:=bB.adX M
 have q4:=bB.Y2 M
 have q5:=bB.adW M
 have q6:=bB.wD M
 have q7:=bB.p96 M
 have q8:=bB.aiq M
 have q9:=an s M
 have qw:=bB.akt M
 have x1:x.cells[0]? =some (aJ jF x.samples)/\x.cells[1]? =some (I x.push)/\x.cells[2]? =some (I x.ask)/\x.cells[3]? =some (I x.lines):=⟨rfl,rfl,rfl,rfl⟩
 have hq:UK t s x=G0 t (kK t ((Fu t s x).getD []) (Fs t ((Fu t s x).getD []))):=rfl
 have ae:Mz t s x=⟨nr t s (cuE (LO t s x) (UK t s x) (We t s x).iy (uj t s x).2.free) 8,Gv t s x,vn t s.mj x.ask (tY t s (cuE (LO t s x) (UK t s x) (We t s x).iy (uj t s x).2.free) 8) (Ny s (uj t s x).2.free (Gv t s x)),(uj t s x).1,We t s x,Fu t s x⟩:=rfl
 have cD:=hD t s.gH x.samples R au bl a5
 rw[show d9 (pL t (s.gH.getD []) (x.samples.getD []) (t.aR.getD []).length)=Fu t s x from rfl]at cD
 have b6:((Fu t s x).getD []).length<=1000000:=by
  rw[Fu,ez];simp only[pL,Pi,List.length_range];exact b4
 have cC:=hC t s.calls (UK t s x) x.push (Wd s) (wkS s) R
 rw[show Tk t s.calls (UK t s x) x.push (Wd s) (wkS s)=We t s x from rfl]at cC
 have cW:=hW t (We t s x) (UK t s x) R
 rw[show Tl t (We t s x) (UK t s x)=RE t s x from rfl]at cW
 have cP:=hP t s.pre x.lines s.runs ⟨R,M.held,M.runs⟩
 rw[show j5 t s.pre x.lines s.runs=uj t s x from rfl]at cP
 have aa:(uj t s x).1.held.length=4:=Hy
 have cR:=hR t s.rings s.runs (RE t s x) R M.runs
 have cS:=hS t s.rings s.runs (RE t s x) R M.runs
 have cO:=hO t s.mj s.runs x.ask R M.lock M.runs
 have cA:=hA t s.mj s.runs x.ask R M.lock M.runs
 have V:Gv t s x=if(uj t s x).2.free then(LD t s.rings s.runs (RE t s x)).1 else if(uj t s x).2.back then Q9 t (YX t s.pre.which)else s.rings:=rfl
 have ac:LO t s x=if(uj t s x).2.free then⟨(LD t s.rings s.runs (RE t s x)).2.1,(LD t s.rings s.runs (RE t s x)).2.2,0,YW t s.rings s.runs (RE t s x),G8 t s.mj s.runs x.ask,ED t s.mj s.runs x.ask⟩
  else⟨(uj t s x).2.start,(uj t s x).2.fin,(uj t s x).2.cut,0,0,0⟩:=rfl
 generalize Gv t s x=rg at*;generalize LO t s x=td at*;generalize RE t s x=w0 at*;generalize We t s x=c1 at*;generalize UK t s x=h0 at*;generalize Fu t s x=c0 at*;generalize uj t s x=pa at*;generalize Mz t s x=res at*;generalize LD t s.rings s.runs w0=rr at*;generalize YW t s.rings s.runs w0=pr at*
 generalize G8 t s.mj s.runs x.ask=ho at*;generalize ED t s.mj s.runs x.ask=ea at*
 have be:c1.cells.length=2:=rfl
 have a8:gS (aJ Ch.cells c0) none=true:=by cases c0<;>rfl
 have b5:(aJ Ch.cells c0).cells=[aJ Ch.cells c0]:=by cases c0<;>rfl
 have u1:=bB.aky M c0
 have k1:({s with gH:=c0}:bB).Ok:=⟨M.1,M.2,M.3⟩
 have b3:=bB.len k1
 have a4:=bB.adX k1
 have u2:=bB.akx k1 c1
 have k2:({s with gH:=c0,calls:=c1}:bB).Ok:=⟨M.1,M.2,M.3⟩
 have a6:=bB.len k2
 have b1:=bB.Y2 k2
 have u3:=bB.akw k2 aa
 have k3:({s with gH:=c0,calls:=c1,pre:=pa.1}:bB).Ok:=⟨M.1,M.2,aa⟩
 have a7:=bB.len k3
 have pl:=Pr.len aa
 have pw:=Pr.whole aa
 have al:pa.2.cells.length=5/\pa.2.cells[0]? =some (I pa.2.start)/\pa.2.cells[1]? =some (I pa.2.fin)/\pa.2.cells[2]? =some (I pa.2.cut)/\pa.2.cells[3]? =some (B pa.2.free)/\pa.2.cells[4]? =some (B pa.2.back):=⟨rfl,rfl,rfl,rfl,rfl,rfl⟩
 have zp:setCells [.int .i64 0,.int .i64 0,.int .i64 0,.int .i64 0,.int .i64 0,.int .i64 0,.int .i64 0,.int .i64 0] 0 pa.1.cells=pa.1.cells:=bp (by rw[pl];rfl)
 have za:setCells [.int .i64 0,.int .i64 0,.int .i64 0,.bool false,.bool false] 0 pa.2.cells=pa.2.cells:=rfl
 have zt:setCells [.int .i64 0,.int .i64 0,.int .i64 0,.int .i64 0,.int .i64 0,.int .i64 0] 0 [I pa.2.start,I pa.2.fin,I pa.2.cut,I 0,I 0,I 0]=(⟨pa.2.start,pa.2.fin,pa.2.cut,0,0,0⟩:Td).cells:=rfl
 have bo:∀d:Td,d.cells.length=6:=λ_=>rfl
 have a3:∀(d:Td) (n:Int),setCells d.cells 0 [I n]=({d with start:=n}:Td).cells/\setCells d.cells 1 [I n]=({d with fin:=n}:Td).cells/\setCells d.cells 2 [I n]=({d with cut:=n}:Td).cells/\setCells d.cells 3 [I n]=({d with dM:=n}:Td).cells/\setCells d.cells 4 [I n]=({d with hold:=n}:Td).cells/\setCells d.cells 5 [I n]=({d with early:=n}:Td).cells:=λ_ _=>⟨rfl,rfl,rfl,rfl,rfl,rfl⟩
 have rl:∀r:gx,r.cells.length=4:=λ_=>rfl
 have u4:=λr=>bB.s96 k3 r
 have L:=dC bw (dC hp (dC a2 (dC q1 (dC q2 (dC q3 (dC q4 (dC q5 (dC q6 (dC q7 (dC q8 (dC q9 (dC qw (dC x1 (dC a8 (dC b5 (dC be (dC u1 (dC b3 (dC a4 (dC u2 (dC a6 (dC b1 (dC u3 (dC a7 (dC pl (dC pw (dC al (dC zp (dC za (dC zt (dC bo (dC a3 (dC rl (u4))))))))))))))))))))))))))))))))))
 refine aq hm hc [0] rfl ?_;try simp only[RY,↓KW,seval,vz,Z.H,L]
 refine af cD ?_;try simp only[RY,↓KW,seval,L]
 refine af (hE t c0 R b6) ?_;try simp only[I,RY,↓KW,seval,L]
 refine af (hH t _ R) ?_;rw[<-hq];try simp only[I,RY,↓KW,seval,L]
 refine af (hG s M) ?_;try simp only[I,RY,↓KW,seval,L]
 refine af (hK s M) ?_;try simp only[I,RY,↓KW,seval]
 refine af cC ?_;try simp only[RY,↓KW,seval,L]
 refine af cW ?_;try simp only[I,RY,↓KW,seval,L]
 refine af cP ?_;try simp only[I,B,RY,↓KW,seval,L]
 apply adY (λ_:Unit=>(⟨[(8,.dat (I h0) none),(3,.ptr 4 0),(4,.ptr 5 0),(5,.ptr 6 0),(6,.ptr 7 0),(7,.ptr 9 0),(11,.ptr 57 0),(12,.ptr 70 0)],[(4,⟨t.cells,[]⟩),(5,⟨s.cells,[]⟩),(6,⟨x.cells,[]⟩),(7,⟨dA,[]⟩),(9,⟨({s with gH:=c0,calls:=c1,pre:=pa.1,rings:=rg}:bB).cells,[]⟩),(57,⟨pa.2.cells,[]⟩),(70,⟨td.cells,[]⟩)],[],400⟩:S)) (λ_=>True)
 ·intro back
  rcases bc pa.2.free with h1|h1
  ·rw[h1]at V ac
   try simp only[B,RY,↓KW,seval,h1,L]
   rcases bc pa.2.back with h2|h2
   ·rw[h2]at V
    try simp only[RY,seval,h2]
    refine back () _ trivial ?_
    refine ai aaO ?_ ?_ ?_ ?_<;>simp[LX,I,V,ac]
   ·rw[h2]at V
    try simp only[I,RY,↓KW,seval,h2,L]
    refine af (hX t s.pre.which R) ?_;try simp only[I,RY,↓KW,seval]
    refine af (hU t _ R) ?_;try simp only[RY,↓KW,seval,L]
    refine back () _ trivial ?_
    refine ai aaO ?_ ?_ ?_ ?_<;>simp[LX,I,V,ac]
  ·rw[h1]at V ac
   try simp only[RY,↓KW,seval,h1,L]
   refine af cR ?_;try simp only[I,RY,↓KW,seval,L]
   refine af cS ?_;try simp only[I,RY,↓KW,seval,L]
   refine af cO ?_;try simp only[I,RY,↓KW,seval,L]
   refine af cA ?_;try simp only[I,RY,↓KW,seval,L]
   refine back () _ trivial ?_
   refine ai aaO ?_ ?_ ?_ ?_<;>simp[LX,I,V,ac]
 ·rintro _ _
  try simp only[I,RY,↓KW,seval]
  obtain⟨O,ao⟩:∃O,cuE td h0 c1.iy pa.2.free=O:=⟨_,rfl⟩
  have ar:∀p,O p=⟨eK td.start p,eK td.fin p,eK h0 p,pa.2.free&&eK c1.iy p,eK td.dM p,eK td.hold p,eK td.early p,eK td.cut p⟩:=λp=>by rw[<-ao];rfl
  rw[ao]at ae
  have w0:=Nz (t:=t) (c:=O) M
  refine aK (λk:Nat=>(⟨[(121,.dat (I k) none),(13,.dat (B (tY t s O k)) none),(8,.dat (I h0) none),(3,.ptr 4 0),(4,.ptr 5 0),(5,.ptr 6 0),(6,.ptr 7 0),(7,.ptr 9 0),(11,.ptr 57 0),(12,.ptr 70 0)],[(4,⟨t.cells,[]⟩),(5,⟨s.cells,[]⟩),(6,⟨x.cells,[]⟩),(7,⟨dA,[]⟩),(9,⟨({s with runs:=nr t s O k,gH:=c0,calls:=c1,pre:=pa.1,rings:=rg}:bB).cells,[]⟩),(57,⟨pa.2.cells,[]⟩),(70,⟨td.cells,[]⟩)],[],400⟩:S)) (λk=>8-k) (λk=>k<=8) ?_ 0 aaN ?_
  rotate_left
  ·refine ai aaO ?_ ?_ ?_ ?_<;>simp[LX,I,B,w0,tY]
  intro k hk A back
  have ba:=aD (k:=k) aaN
  have kk:({s with runs:=nr t s O k,gH:=c0,calls:=c1,pre:=pa.1,rings:=rg}:bB).Ok:=⟨Bq ..,M.2,aa⟩
  have v1:=bB.len kk
  have v2:=bB.aku kk
  have bi:td.cells[0]? =some (I td.start)/\td.cells[1]? =some (I td.fin)/\td.cells[2]? =some (I td.cut)/\td.cells[3]? =some (I td.dM)/\td.cells[4]? =some (I td.hold)/\td.cells[5]? =some (I td.early):=⟨rfl,rfl,rfl,rfl,rfl,rfl⟩
  try simp only[I,B,RY,↓KW,seval]
  rcases bc (decide ((k:Int)<8))with h|h
  rotate_left
  ·have h8:k<8:=by have:=dT h;omega
   have hy:0<=(k:Int)/\(k:Int)<8:=aaN
   have b2:=Tb.od (R.ln.vh h8)
   have bd:aB s.cells (k*12) (some 12)=some (.agg (s.rn k).cells):=by rw[bB.cells,Rb (by rw[dw M.runs];omega)];exact jH M.runs h8
   have vs:=bB.aae kk h8 (cj (aV t k) (s.rn k) (O k))
   rw[show({s with runs:=nr t s O k,gH:=c0,calls:=c1,pre:=pa.1,rings:=rg}:bB).runs.set k (cj (aV t k) (s.rn k) (O k))=nr t s O (k+1)from NA h8]at vs
   have hl:tY t s O (k+1)=(tY t s O k||yx (aV t k) (s.rn k) (O k)):=rfl
   generalize tY t s O k=hd at*
   obtain⟨cc,b0⟩:∃c,O k=c:=⟨_,rfl⟩
   have hP:=ar k
   rw[b0]at hP vs hl
   have bm:∀c:Cu,c.cells.length=8/\aB c.cells 0 (some 8)=some (.agg c.cells):=λ_=>⟨rfl,rfl⟩
   have ad:setCells [.bool false,.bool false,.bool false,.bool false,.bool false,.bool false,.bool false,.bool false] 0 [B (eK td.start k),B (eK td.fin k),B (eK h0 k),B (pa.2.free&&eK c1.iy k),B (eK td.dM k),B (eK td.hold k),B (eK td.early k),B (eK td.cut k)]=cc.cells:=by rw[hP];rfl
   have ab:=dC h (dC hy (dC v1 (dC v2 (dC bi (dC b2 (dC bd (dC bm (dC vs (dC Rn.len (L))))))))))
   try simp only[I,RY,↓KW,seval,ab]
   have bs:∀p:Nat,∀n:Int,(Pure P).c fB [I n,I p] (B (eK n p)) none:=λp n=>hB n p
   rcases bc pa.2.free with h5|h5<;>rcases bc hd with h6|h6
   all_goals
    rw[h5]at ad;rw[h6]at hl;simp only[pA,pc,PP,w5]at ad hl
    repeat' (refine af (hB _ _) ?_;try simp only[I,B,RY,↓KW,seval,h5,h6,ab])
    try simp only[RY,↓KW,seval,ad,ab]
    try(refine af (hY _ _ _) ?_;try simp only[B,RY,↓KW,seval,ad,ab])
    try(refine af (hZ _ _ _) ?_;try simp only[RY,↓KW,seval,ad,ab])
    refine⟨aaN,back (k+1) _ aaN aaN ?_⟩
    refine ai aaO ?_ ?_ ?_ ?_<;>simp[LX,I,B,ba,hl]
  ·have bj:k=8:=by have:=dE h;omega
   subst bj
   have am:(vn t s.mj x.ask (tY t s O 8) (Ny s pa.2.free rg)).lock.length=4:=by simp[vn,vm]
   have w1:=bB.akv kk am
   have rk:res.Ok:=by rw[ae];exact⟨Bq ..,am,aa⟩
   have w2:=bB.whole rk
   have w3:=an res rk
   have w4:=bB.len rk
   have v3:=bB.g96 kk
   have v4:=bB.g99 kk
   have v5:=bB.g96 M
   have v6:=bB.g99 M
   have ak:Ny s pa.2.free rg=(pa.2.free&&(s.rings.mX&&(!rg.mX&&decide (rg.group<=s.rings.group)))):=rfl
   have cT:=hT t s.mj x.ask (tY t s O 8) (Ny s pa.2.free rg) R M.lock
   rw[<-ae]at w1;generalize vn t s.mj x.ask (tY t s O 8) (Ny s pa.2.free rg)=rd at*;generalize tY t s O 8=hd at*;generalize Ny s pa.2.free rg=rn at*
   have a9:rd.cells.length=6:=by simp[Rd.cells,am]
   have ag:=dC v3 (dC v4 (dC v5 (dC v6 (dC w1 (dC w2 (dC w3 (dC w4 (dC v1 (dC v2 (dC a9 (L)))))))))))
   rcases bc pa.2.free with h5|h5<;>rcases bc s.rings.mX with h6|h6<;>rcases bc rg.mX with h7|h7<;>rcases bc (decide (rg.group<=s.rings.group))with h8|h8
   all_goals
    rw[h5,h6,h7,h8]at ak;simp only[pd,pB,nz,nm]at ak;subst ak;try simp only[I,B,RY,↓KW,seval,h5,h6,h7,h8,ag]
    try try simp only[I,B,D,RY,↓KW,seval,h5,h6,h7,h8,ag]
    refine af cT ?_;try simp only[RY,↓KW,seval,ag]
end
section
variable{P:Program} (hm:P.follows .mixedOrders=true) {f:Nat}
include hm
theorem LN.ok{fL fS fR fE fB fT:Nat} (hc:bF P f=some (tG fL fS fR fE fB fT)) (hL:EO.Spec (Pure P) fL) (hS:As.Spec (Pure P) fS) (hR:Bh.Spec (Pure P) fR) (hE:Bn.Spec (Pure P) fE) (hB:Lp.Spec (Pure P) fB) (hT:Lq.Spec (Pure P) fT):LN.Spec (Pure P) f:=by
 intro t s lines l h
 have e1:=Tb.len h.t
 have e2:=Pr.len h.s
 have e3:=dw h.l
 have e4:=Tb.whole h.t
 have e5:=Pr.whole h.s
 have e6:=gD h.l
 have be:=hL t s lines h.t h.s
 have R:j5 t s lines l=j4 t (Gu (kG t s lines)) l:=rfl
 have a6:mD t (kG t s lines) l:=ee h (K8 t s lines)
 generalize kG t s lines=u at*
 have f1:=Pr.len a6.s
 have f2:=Pr.whole a6.s
 have ba:=UJ a6 (z:=sG) rfl
 have f0:List.take 0 sG=[]:=rfl
 have fz:sG.length=235:=rfl
 obtain⟨n,hn,_,bi,a8,a7⟩:=hS
 have bj:setCells qQ 0 n=n:=bp (by rw[hn];rfl)
 have bd:qQ.length=12:=rfl
 have q0:=λ(v:Pr) (hv:v.held.length=4)=>UH (ee h hv)
 have q1:=λ(v:Pr) (hv:v.held.length=4)=>OX (ee h hv)
 have q2:=λ(v:Pr) (hv:v.held.length=4)=>I9 (ee h hv)
 have q3:=λ(v:Pr) (hv:v.held.length=4)=>adR (ee h hv)
 have q4:=λ(v:Pr) (hv:v.held.length=4)=>UI (ee h hv)
 have q5:=λ(v:Pr) (hv:v.held.length=4)=>adS (ee h hv)
 have k8:∀v:Pr,v.held.length=4->setCells [I 0,I 0,I 0,I 0,I 0,I 0,I 0,I 0] 0 v.cells=v.cells:=λv hv=>bp (by rw[Pr.len hv];rfl)
 have kA:∀a:Ac,a.cells.length=5/\setCells [I 0,I 0,I 0,B false,B false] 0 a.cells=a.cells/\aB a.cells 0 (some 5)=some (.agg a.cells):=λa=>⟨rfl,rfl,rfl⟩
 have aa:=dC e1 (dC e2 (dC e3 (dC e4 (dC e5 (dC e6 (dC f1 (dC f2 (dC ba (dC f0 (dC fz (dC hn (dC bj (dC bd (dC kA ((@ml AV))))))))))))))))
 refine aq hm hc [] rfl ?_;try simp only[I,RY,↓KW,seval,tG,Z.H,aa]
 refine af be ?_;try simp only[RY,↓KW,seval,aa]
 refine af bi ?_;try simp only[RY,↓KW,seval,aa]
 have u0:=q0 u a6.s
 have u1:=q1 u a6.s
 have u2:=q2 u a6.s
 obtain⟨v,hv⟩:∃v,Gu u=v:=⟨_,rfl⟩
 have O:v.held.length=4:=by rw[<-hv,Gu];split<;>exact a6.s
 have bl:0<=v.ay/\v.ay<6:=by rw[<-hv,Gu];split<;>first|(show(0:Int)<=0/\(0:Int)<6;exact⟨aaO,aaO⟩)|omega
 rw[hv]at R
 obtain⟨k,hk⟩:∃k:Nat,v.ay=k:=⟨v.ay.toNat,aaN⟩
 have bm:k<6:=aaN
 have an:gR t v=(decide (aN t v>=0)&&((k:Int)==0||((k:Int)==5||decide (aN t v<v.which)))):=by rw[gR,hk]
 have v0:=q0 v O
 rw[hk]at v0
 have v1:=q1 v O
 have v2:=q2 v O
 have v3:=Pr.len O
 have v4:=Pr.whole O
 have ak:=dC v0 (dC v1 (dC v2 (dC v3 (v4))))
 have qs:(u.ay<0\/6<=u.ay->setCells (dc t u l) 131 [I 0]=dc t v l)/\(¬(u.ay<0\/6<=u.ay)->dc t u l=dc t v l):=
  ⟨λe=>by rw[q3 u a6.s 0,<-hv,Gu,ib e],λe=>by rw[<-hv,Gu,ge e]⟩
 cases hA:decide (u.ay<0);cases a9:decide (u.ay>=6)
 ·have e:v=u:=by rw[<-hv,Gu,ge (by have:=dE hA;have:=dE a9;omega)]
  subst e
  have qs:True:=trivial
  rw[hk]at hA a9;try simp only[I,RY,↓KW,seval,hA,a9,ak,aa]
  refine af (hR t v h.t O) ?_;try simp only[I,RY,↓KW,seval]
  cases c1:decide (aN t v>=0)
  ·have ac:gR t v=false:=by rw[an,c1];rfl
   have c2:True:=trivial
   have c3:True:=trivial
   have c4:True:=trivial
   obtain⟨g,hg,a3⟩:=a8 k aaN
   have ae:=a3 t v l (ee h O) hk
   have V:=oD (t:=t) (l:=l) O
   have hr:=lO t v l
   have am:j4 t v l=if v.ay=5/\(aF t v l).1=0 then({(aF t v l).2 with ay:=0,which:=0,time:=0},jC t (aF t v l).2 l)
    else(gT t (aF t v l).2 l (aF t v l).1 v.ay,oC t (gT t (aF t v l).2 l (aF t v l).1 v.ay) l (aF t v l).1):=ge (by rw[ac];decide)
   rw[am]at R;generalize(aF t v l).2=w at*
   obtain⟨j,hj⟩:∃j:Nat,(aF t v l).1=j:=⟨(aF t v l).1.toNat,aaN⟩
   rw[hj]at ae R hr
   have au:j<6:=aaN
   have hy:0<=(k:Int)/\(k:Int)<6:=aaN
   have a2:0<=(j:Int)/\(j:Int)<6:=aaN
   have w0:=q0 w V
   have w1:=q1 w V
   have w2:=q2 w V
   have ag:=dC w0 (dC w1 (w2))
   try simp only[RY,↓KW,seval,hy,hg]
   refine⟨rfl,aZ ae ?_⟩;try simp only[I,B,D,RY,↓KW,seval,qs,aa,ak,ag]
   cases d1:((k:Int)==5);rotate_left;cases d2:((j:Int)==0);rotate_left
   ·have s1:=q3 w V 0
    have s2:=q4 {w with ay:=0} V 0
    have s3:=q5 {w with ay:=0,which:=0} V 0
    obtain⟨y,ab⟩:∃y:Pr,y={w with ay:=0,which:=0,time:=0}:=⟨_,rfl⟩
    have L:y.held.length=4:=by rw[ab];exact V
    rw[<-ab]at s3 R
    have al:v.ay=5/\(j:Int)=0:=⟨by rw[hk];simpa using d1,by simpa using d2⟩
    rw[ib al]at R
    have y0:=q0 y L
    have y1:=q1 y L
    have y2:=q2 y L
    have y3:=Pr.len L
    have y4:=Pr.whole L
    have y5:=k8 y L
    have l1:=q2 {w with ay:=0} V
    have l2:=q2 {w with ay:=0,which:=0} V
    have M:=dC s1 (dC s2 (dC s3 (dC y0 (dC y1 (dC y2 (dC y3 (dC y4 (dC y5 (dC l1 (l2))))))))))
    try simp only[I,RY,↓KW,seval,d2]
    refine⟨rfl,aZ (bK (hB t w l (ee h V)) rfl (fi rfl)) ?_⟩;try simp only[RY,↓KW,seval,aa,ag,M]
    refine ej rfl ?_;try simp only[RY,↓KW,seval,aa,M]
    rw[R]
   all_goals
    have al:¬(v.ay=5/\(j:Int)=0):=by
     rintro⟨a,b⟩
     rw[hk]at a;simp_all
    rw[ge al]at R;obtain⟨g2,a5,ao⟩:=a7 j au
    have s1:=q3 w V j
    obtain⟨y,ab⟩:∃y:Pr,y=gT t w l j v.ay:=⟨_,rfl⟩
    have L:y.held.length=4:=by rw[ab];exact V
    have s2:∀x,x=oy t {w with ay:=(j:Int)} l ((j:Int) !=(k:Int))->setCells (dc t {w with ay:=(j:Int)} l) 133 [I x]=dc t y l:=λx hx=>by
     rw[q5 {w with ay:=(j:Int)} V x,hx,ab,gT,hk]
    have ar:=s2 _ rfl
    rw[<-ab]at R
    have y0:=q0 y L
    have y1:=q1 y L
    have y2:=q2 y L
    have y3:=Pr.len L
    have y4:=Pr.whole L
    have y5:=k8 y L
    have l1:=q2 {w with ay:=(j:Int)} V
    have a4:=hT t {w with ay:=(j:Int)} l ((j:Int) !=(k:Int)) (ee h V)
    have M:=dC s1 (dC ar (dC y0 (dC y1 (dC y2 (dC y3 (dC y4 (dC y5 (dC l1 (dC a2 (a5))))))))))
    try try simp only[I,RY,↓KW,seval,ag,M]
    try try simp only[RY,↓KW,seval,d2,ag,M]
    refine⟨rfl,aZ (bK a4 rfl (fi rfl)) ?_⟩;try simp only[I,RY,↓KW,seval,M]
    refine jU [9] rfl ?_;try simp only[RY,↓KW,seval,M]
    refine⟨rfl,cN (bK (ao t y l (ee h L)) rfl (fi rfl)) ?_⟩;try simp only[RY,seval,aa,M]
    rw[R]
  ·cases c2:((k:Int)==0)
   rotate_left
   ·have ac:gR t v=true:=by rw[an,c1,c2];rfl
    have c3:True:=trivial
    have c4:True:=trivial
    have s1:=q3 v O 1
    have s2:=q4 {v with ay:=1} O (aN t v)
    have s3:=q5 {v with ay:=1,which:=aN t v} O 0
    have ad:j4 t v l=({v with ay:=1,which:=aN t v,time:=0},mT t {v with ay:=1,which:=aN t v,time:=0} l):=ib ac
    obtain⟨y,hy⟩:∃y:Pr,y={v with ay:=1,which:=aN t v,time:=0}:=⟨_,rfl⟩
    have L:y.held.length=4:=by rw[hy];exact O
    rw[<-hy]at ad s3
    have y0:=q0 y L
    have y1:=q1 y L
    have y2:=q2 y L
    have y3:=Pr.len L
    have y4:=Pr.whole L
    have y5:=k8 y L
    have l1:=q2 {v with ay:=1} O
    have l2:=q2 {v with ay:=1,which:=aN t v} O
    have M:=dC s1 (dC s2 (dC s3 (dC y0 (dC y1 (dC y2 (dC y3 (dC y4 (dC y5 (dC l1 (l2))))))))))
    try simp only[RY,↓KW,seval,c2,ak,M]
    refine jU [5] rfl ?_;try simp only[RY,↓KW,seval,M]
    refine⟨rfl,cN (bK (hE t y l (ee h L)) rfl (fi rfl)) ?_⟩;try simp only[RY,seval,aa,M]
    rw[R,ad]
   ·cases c3:((k:Int)==5)
    rotate_left
    ·have ac:gR t v=true:=by rw[an,c1,c2,c3];rfl
     have c4:True:=trivial
     have s1:=q3 v O 1
     have s2:=q4 {v with ay:=1} O (aN t v)
     have s3:=q5 {v with ay:=1,which:=aN t v} O 0
     have ad:j4 t v l=({v with ay:=1,which:=aN t v,time:=0},mT t {v with ay:=1,which:=aN t v,time:=0} l):=ib ac
     obtain⟨y,hy⟩:∃y:Pr,y={v with ay:=1,which:=aN t v,time:=0}:=⟨_,rfl⟩
     have L:y.held.length=4:=by rw[hy];exact O
     rw[<-hy]at ad s3
     have y0:=q0 y L
     have y1:=q1 y L
     have y2:=q2 y L
     have y3:=Pr.len L
     have y4:=Pr.whole L
     have y5:=k8 y L
     have l1:=q2 {v with ay:=1} O
     have l2:=q2 {v with ay:=1,which:=aN t v} O
     have M:=dC s1 (dC s2 (dC s3 (dC y0 (dC y1 (dC y2 (dC y3 (dC y4 (dC y5 (dC l1 (l2))))))))))
     try simp only[RY,↓KW,seval,c2,c3,ak,M]
     refine jU [5] rfl ?_;try simp only[RY,↓KW,seval,M]
     refine⟨rfl,cN (bK (hE t y l (ee h L)) rfl (fi rfl)) ?_⟩;try simp only[RY,seval,aa,M]
     rw[R,ad]
    ·cases c4:decide (aN t v<v.which)
     rotate_left
     ·have ac:gR t v=true:=by rw[an,c1,c2,c3,c4];rfl
      have s1:=q3 v O 1
      have s2:=q4 {v with ay:=1} O (aN t v)
      have s3:=q5 {v with ay:=1,which:=aN t v} O 0
      have ad:j4 t v l=({v with ay:=1,which:=aN t v,time:=0},mT t {v with ay:=1,which:=aN t v,time:=0} l):=ib ac
      obtain⟨y,hy⟩:∃y:Pr,y={v with ay:=1,which:=aN t v,time:=0}:=⟨_,rfl⟩
      have L:y.held.length=4:=by rw[hy];exact O
      rw[<-hy]at ad s3
      have y0:=q0 y L
      have y1:=q1 y L
      have y2:=q2 y L
      have y3:=Pr.len L
      have y4:=Pr.whole L
      have y5:=k8 y L
      have l1:=q2 {v with ay:=1} O
      have l2:=q2 {v with ay:=1,which:=aN t v} O
      have M:=dC s1 (dC s2 (dC s3 (dC y0 (dC y1 (dC y2 (dC y3 (dC y4 (dC y5 (dC l1 (l2))))))))))
      try simp only[I,RY,↓KW,seval,c2,c3,c4,ak,M]
      refine jU [5] rfl ?_;try simp only[RY,↓KW,seval,M]
      refine⟨rfl,cN (bK (hE t y l (ee h L)) rfl (fi rfl)) ?_⟩;try simp only[RY,seval,aa,M]
      rw[R,ad]
     ·have ac:gR t v=false:=by rw[an,c1,c2,c3,c4];rfl
      obtain⟨g,hg,a3⟩:=a8 k aaN
      have ae:=a3 t v l (ee h O) hk
      have V:=oD (t:=t) (l:=l) O
      have hr:=lO t v l
      have am:j4 t v l=if v.ay=5/\(aF t v l).1=0 then({(aF t v l).2 with ay:=0,which:=0,time:=0},jC t (aF t v l).2 l)
       else(gT t (aF t v l).2 l (aF t v l).1 v.ay,oC t (gT t (aF t v l).2 l (aF t v l).1 v.ay) l (aF t v l).1):=ge (by rw[ac];decide)
      rw[am]at R;generalize(aF t v l).2=w at*
      obtain⟨j,hj⟩:∃j:Nat,(aF t v l).1=j:=⟨(aF t v l).1.toNat,aaN⟩
      rw[hj]at ae R hr
      have au:j<6:=aaN
      have hy:0<=(k:Int)/\(k:Int)<6:=aaN
      have a2:0<=(j:Int)/\(j:Int)<6:=aaN
      have w0:=q0 w V
      have w1:=q1 w V
      have w2:=q2 w V
      have ag:=dC w0 (dC w1 (w2))
      try simp only[I,RY,↓KW,seval,c2,c3,c4,hy,hg,ak]
      refine⟨rfl,aZ ae ?_⟩;try simp only[I,RY,↓KW,seval,ag]
      have d1:=c3
      have d2:True:=trivial
      all_goals
       have al:¬(v.ay=5/\(j:Int)=0):=by
        rintro⟨a,b⟩
        rw[hk]at a;simp_all
       rw[ge al]at R;obtain⟨g2,a5,ao⟩:=a7 j au
       have s1:=q3 w V j
       obtain⟨y,ab⟩:∃y:Pr,y=gT t w l j v.ay:=⟨_,rfl⟩
       have L:y.held.length=4:=by rw[ab];exact V
       have s2:∀x,x=oy t {w with ay:=(j:Int)} l ((j:Int) !=(k:Int))->setCells (dc t {w with ay:=(j:Int)} l) 133 [I x]=dc t y l:=λx hx=>by
        rw[q5 {w with ay:=(j:Int)} V x,hx,ab,gT,hk]
       have ar:=s2 _ rfl
       rw[<-ab]at R
       have y0:=q0 y L
       have y1:=q1 y L
       have y2:=q2 y L
       have y3:=Pr.len L
       have y4:=Pr.whole L
       have y5:=k8 y L
       have l1:=q2 {w with ay:=(j:Int)} V
       have a4:=hT t {w with ay:=(j:Int)} l ((j:Int) !=(k:Int)) (ee h V)
       have M:=dC s1 (dC ar (dC y0 (dC y1 (dC y2 (dC y3 (dC y4 (dC y5 (dC l1 (dC a2 (a5))))))))))
       try try simp only[seval,M]
       try try simp only[I,B,D,RY,↓KW,seval,d2,aa,ak,ag,M,qs]
       refine⟨rfl,aZ (bK a4 rfl (fi rfl)) ?_⟩;try simp only[I,RY,↓KW,seval,M]
       refine jU [9] rfl ?_;try simp only[RY,↓KW,seval,M]
       refine⟨rfl,cN (bK (ao t y l (ee h L)) rfl (fi rfl)) ?_⟩;try simp only[RY,seval,aa,M]
       rw[R]
 ·have qs:=qs.1 (.inr (by have:=dT a9;omega))
  try simp only[I,RY,↓KW,seval,hA,a9,u0,u2,qs,aa,ak]
  refine af (hR t v h.t O) ?_;try simp only[I,RY,↓KW,seval,qs]
  cases c1:decide (aN t v>=0)
  ·have ac:gR t v=false:=by rw[an,c1];rfl
   have c2:True:=trivial
   have c3:True:=trivial
   have c4:True:=trivial
   obtain⟨g,hg,a3⟩:=a8 k aaN
   have ae:=a3 t v l (ee h O) hk
   have V:=oD (t:=t) (l:=l) O
   have hr:=lO t v l
   have am:j4 t v l=if v.ay=5/\(aF t v l).1=0 then({(aF t v l).2 with ay:=0,which:=0,time:=0},jC t (aF t v l).2 l)
    else(gT t (aF t v l).2 l (aF t v l).1 v.ay,oC t (gT t (aF t v l).2 l (aF t v l).1 v.ay) l (aF t v l).1):=ge (by rw[ac];decide)
   rw[am]at R;generalize(aF t v l).2=w at*
   obtain⟨j,hj⟩:∃j:Nat,(aF t v l).1=j:=⟨(aF t v l).1.toNat,aaN⟩
   rw[hj]at ae R hr
   have au:j<6:=aaN
   have hy:0<=(k:Int)/\(k:Int)<6:=aaN
   have a2:0<=(j:Int)/\(j:Int)<6:=aaN
   have w0:=q0 w V
   have w1:=q1 w V
   have w2:=q2 w V
   have ag:=dC w0 (dC w1 (w2))
   try simp only[RY,↓KW,seval,hy,hg]
   refine⟨rfl,aZ ae ?_⟩;try simp only[I,B,D,RY,↓KW,seval,qs,aa,ak,ag]
   cases d1:((k:Int)==5);rotate_left;cases d2:((j:Int)==0);rotate_left
   ·have s1:=q3 w V 0
    have s2:=q4 {w with ay:=0} V 0
    have s3:=q5 {w with ay:=0,which:=0} V 0
    obtain⟨y,ab⟩:∃y:Pr,y={w with ay:=0,which:=0,time:=0}:=⟨_,rfl⟩
    have L:y.held.length=4:=by rw[ab];exact V
    rw[<-ab]at s3 R
    have al:v.ay=5/\(j:Int)=0:=⟨by rw[hk];simpa using d1,by simpa using d2⟩
    rw[ib al]at R
    have y0:=q0 y L
    have y1:=q1 y L
    have y2:=q2 y L
    have y3:=Pr.len L
    have y4:=Pr.whole L
    have y5:=k8 y L
    have l1:=q2 {w with ay:=0} V
    have l2:=q2 {w with ay:=0,which:=0} V
    have M:=dC s1 (dC s2 (dC s3 (dC y0 (dC y1 (dC y2 (dC y3 (dC y4 (dC y5 (dC l1 (l2))))))))))
    try simp only[I,RY,↓KW,seval,d2]
    refine⟨rfl,aZ (bK (hB t w l (ee h V)) rfl (fi rfl)) ?_⟩;try simp only[RY,↓KW,seval,aa,ag,M]
    refine ej rfl ?_;try simp only[RY,↓KW,seval,aa,M]
    rw[R]
   all_goals
    have al:¬(v.ay=5/\(j:Int)=0):=by
     rintro⟨a,b⟩
     rw[hk]at a;simp_all
    rw[ge al]at R;obtain⟨g2,a5,ao⟩:=a7 j au
    have s1:=q3 w V j
    obtain⟨y,ab⟩:∃y:Pr,y=gT t w l j v.ay:=⟨_,rfl⟩
    have L:y.held.length=4:=by rw[ab];exact V
    have s2:∀x,x=oy t {w with ay:=(j:Int)} l ((j:Int) !=(k:Int))->setCells (dc t {w with ay:=(j:Int)} l) 133 [I x]=dc t y l:=λx hx=>by
     rw[q5 {w with ay:=(j:Int)} V x,hx,ab,gT,hk]
    have ar:=s2 _ rfl
    rw[<-ab]at R
    have y0:=q0 y L
    have y1:=q1 y L
    have y2:=q2 y L
    have y3:=Pr.len L
    have y4:=Pr.whole L
    have y5:=k8 y L
    have l1:=q2 {w with ay:=(j:Int)} V
    have a4:=hT t {w with ay:=(j:Int)} l ((j:Int) !=(k:Int)) (ee h V)
    have M:=dC s1 (dC ar (dC y0 (dC y1 (dC y2 (dC y3 (dC y4 (dC y5 (dC l1 (dC a2 (a5))))))))))
    try try simp only[I,RY,↓KW,seval,ag,M]
    try try simp only[RY,↓KW,seval,d2,ag,M]
    refine⟨rfl,aZ (bK a4 rfl (fi rfl)) ?_⟩;try simp only[I,RY,↓KW,seval,M]
    refine jU [9] rfl ?_;try simp only[RY,↓KW,seval,M]
    refine⟨rfl,cN (bK (ao t y l (ee h L)) rfl (fi rfl)) ?_⟩;try simp only[RY,seval,aa,M]
    rw[R]
  ·cases c2:((k:Int)==0)
   rotate_left
   ·have ac:gR t v=true:=by rw[an,c1,c2];rfl
    have c3:True:=trivial
    have c4:True:=trivial
    have s1:=q3 v O 1
    have s2:=q4 {v with ay:=1} O (aN t v)
    have s3:=q5 {v with ay:=1,which:=aN t v} O 0
    have ad:j4 t v l=({v with ay:=1,which:=aN t v,time:=0},mT t {v with ay:=1,which:=aN t v,time:=0} l):=ib ac
    obtain⟨y,hy⟩:∃y:Pr,y={v with ay:=1,which:=aN t v,time:=0}:=⟨_,rfl⟩
    have L:y.held.length=4:=by rw[hy];exact O
    rw[<-hy]at ad s3
    have y0:=q0 y L
    have y1:=q1 y L
    have y2:=q2 y L
    have y3:=Pr.len L
    have y4:=Pr.whole L
    have y5:=k8 y L
    have l1:=q2 {v with ay:=1} O
    have l2:=q2 {v with ay:=1,which:=aN t v} O
    have M:=dC s1 (dC s2 (dC s3 (dC y0 (dC y1 (dC y2 (dC y3 (dC y4 (dC y5 (dC l1 (l2))))))))))
    try simp only[RY,↓KW,seval,c2,ak,M]
    refine jU [5] rfl ?_;try simp only[RY,↓KW,seval,M]
    refine⟨rfl,cN (bK (hE t y l (ee h L)) rfl (fi rfl)) ?_⟩;try simp only[RY,seval,aa,M]
    rw[R,ad]
   ·cases c3:((k:Int)==5)
    rotate_left
    ·have ac:gR t v=true:=by rw[an,c1,c2,c3];rfl
     have c4:True:=trivial
     have s1:=q3 v O 1
     have s2:=q4 {v with ay:=1} O (aN t v)
     have s3:=q5 {v with ay:=1,which:=aN t v} O 0
     have ad:j4 t v l=({v with ay:=1,which:=aN t v,time:=0},mT t {v with ay:=1,which:=aN t v,time:=0} l):=ib ac
     obtain⟨y,hy⟩:∃y:Pr,y={v with ay:=1,which:=aN t v,time:=0}:=⟨_,rfl⟩
     have L:y.held.length=4:=by rw[hy];exact O
     rw[<-hy]at ad s3
     have y0:=q0 y L
     have y1:=q1 y L
     have y2:=q2 y L
     have y3:=Pr.len L
     have y4:=Pr.whole L
     have y5:=k8 y L
     have l1:=q2 {v with ay:=1} O
     have l2:=q2 {v with ay:=1,which:=aN t v} O
     have M:=dC s1 (dC s2 (dC s3 (dC y0 (dC y1 (dC y2 (dC y3 (dC y4 (dC y5 (dC l1 (l2))))))))))
     try simp only[RY,↓KW,seval,c2,c3,ak,M]
     refine jU [5] rfl ?_;try simp only[RY,↓KW,seval,M]
     refine⟨rfl,cN (bK (hE t y l (ee h L)) rfl (fi rfl)) ?_⟩;try simp only[RY,seval,aa,M]
     rw[R,ad]
    ·cases c4:decide (aN t v<v.which)
     rotate_left
     ·have ac:gR t v=true:=by rw[an,c1,c2,c3,c4];rfl
      have s1:=q3 v O 1
      have s2:=q4 {v with ay:=1} O (aN t v)
      have s3:=q5 {v with ay:=1,which:=aN t v} O 0
      have ad:j4 t v l=({v with ay:=1,which:=aN t v,time:=0},mT t {v with ay:=1,which:=aN t v,time:=0} l):=ib ac
      obtain⟨y,hy⟩:∃y:Pr,y={v with ay:=1,which:=aN t v,time:=0}:=⟨_,rfl⟩
      have L:y.held.length=4:=by rw[hy];exact O
      rw[<-hy]at ad s3
      have y0:=q0 y L
      have y1:=q1 y L
      have y2:=q2 y L
      have y3:=Pr.len L
      have y4:=Pr.whole L
      have y5:=k8 y L
      have l1:=q2 {v with ay:=1} O
      have l2:=q2 {v with ay:=1,which:=aN t v} O
      have M:=dC s1 (dC s2 (dC s3 (dC y0 (dC y1 (dC y2 (dC y3 (dC y4 (dC y5 (dC l1 (l2))))))))))
      try simp only[I,RY,↓KW,seval,c2,c3,c4,ak,M]
      refine jU [5] rfl ?_;try simp only[RY,↓KW,seval,M]
      refine⟨rfl,cN (bK (hE t y l (ee h L)) rfl (fi rfl)) ?_⟩;try simp only[RY,seval,aa,M]
      rw[R,ad]
     ·have ac:gR t v=false:=by rw[an,c1,c2,c3,c4];rfl
      obtain⟨g,hg,a3⟩:=a8 k aaN
      have ae:=a3 t v l (ee h O) hk
      have V:=oD (t:=t) (l:=l) O
      have hr:=lO t v l
      have am:j4 t v l=if v.ay=5/\(aF t v l).1=0 then({(aF t v l).2 with ay:=0,which:=0,time:=0},jC t (aF t v l).2 l)
       else(gT t (aF t v l).2 l (aF t v l).1 v.ay,oC t (gT t (aF t v l).2 l (aF t v l).1 v.ay) l (aF t v l).1):=ge (by rw[ac];decide)
      rw[am]at R;generalize(aF t v l).2=w at*
      obtain⟨j,hj⟩:∃j:Nat,(aF t v l).1=j:=⟨(aF t v l).1.toNat,aaN⟩
      rw[hj]at ae R hr
      have au:j<6:=aaN
      have hy:0<=(k:Int)/\(k:Int)<6:=aaN
      have a2:0<=(j:Int)/\(j:Int)<6:=aaN
      have w0:=q0 w V
      have w1:=q1 w V
      have w2:=q2 w V
      have ag:=dC w0 (dC w1 (w2))
      try simp only[I,RY,↓KW,seval,c2,c3,c4,hy,hg,ak]
      refine⟨rfl,aZ ae ?_⟩;try simp only[I,RY,↓KW,seval,ag]
      have d1:=c3
      have d2:True:=trivial
      all_goals
       have al:¬(v.ay=5/\(j:Int)=0):=by
        rintro⟨a,b⟩
        rw[hk]at a;simp_all
       rw[ge al]at R;obtain⟨g2,a5,ao⟩:=a7 j au
       have s1:=q3 w V j
       obtain⟨y,ab⟩:∃y:Pr,y=gT t w l j v.ay:=⟨_,rfl⟩
       have L:y.held.length=4:=by rw[ab];exact V
       have s2:∀x,x=oy t {w with ay:=(j:Int)} l ((j:Int) !=(k:Int))->setCells (dc t {w with ay:=(j:Int)} l) 133 [I x]=dc t y l:=λx hx=>by
        rw[q5 {w with ay:=(j:Int)} V x,hx,ab,gT,hk]
       have ar:=s2 _ rfl
       rw[<-ab]at R
       have y0:=q0 y L
       have y1:=q1 y L
       have y2:=q2 y L
       have y3:=Pr.len L
       have y4:=Pr.whole L
       have y5:=k8 y L
       have l1:=q2 {w with ay:=(j:Int)} V
       have a4:=hT t {w with ay:=(j:Int)} l ((j:Int) !=(k:Int)) (ee h V)
       have M:=dC s1 (dC ar (dC y0 (dC y1 (dC y2 (dC y3 (dC y4 (dC y5 (dC l1 (dC a2 (a5))))))))))
       try try simp only[seval,M]
       try try simp only[I,B,D,RY,↓KW,seval,d2,aa,ak,ag,M,qs]
       refine⟨rfl,aZ (bK a4 rfl (fi rfl)) ?_⟩;try simp only[I,RY,↓KW,seval,M]
       refine jU [9] rfl ?_;try simp only[RY,↓KW,seval,M]
       refine⟨rfl,cN (bK (ao t y l (ee h L)) rfl (fi rfl)) ?_⟩;try simp only[RY,seval,aa,M]
       rw[R]
 ·have qs:=qs.1 (.inl (dT hA))
  try simp only[I,RY,↓KW,seval,hA,u0,u2,qs,aa,ak]
  refine af (hR t v h.t O) ?_;try simp only[I,RY,↓KW,seval,qs]
  cases c1:decide (aN t v>=0)
  ·have ac:gR t v=false:=by rw[an,c1];rfl
   have c2:True:=trivial
   have c3:True:=trivial
   have c4:True:=trivial
   obtain⟨g,hg,a3⟩:=a8 k aaN
   have ae:=a3 t v l (ee h O) hk
   have V:=oD (t:=t) (l:=l) O
   have hr:=lO t v l
   have am:j4 t v l=if v.ay=5/\(aF t v l).1=0 then({(aF t v l).2 with ay:=0,which:=0,time:=0},jC t (aF t v l).2 l)
    else(gT t (aF t v l).2 l (aF t v l).1 v.ay,oC t (gT t (aF t v l).2 l (aF t v l).1 v.ay) l (aF t v l).1):=ge (by rw[ac];decide)
   rw[am]at R;generalize(aF t v l).2=w at*
   obtain⟨j,hj⟩:∃j:Nat,(aF t v l).1=j:=⟨(aF t v l).1.toNat,aaN⟩
   rw[hj]at ae R hr
   have au:j<6:=aaN
   have hy:0<=(k:Int)/\(k:Int)<6:=aaN
   have a2:0<=(j:Int)/\(j:Int)<6:=aaN
   have w0:=q0 w V
   have w1:=q1 w V
   have w2:=q2 w V
   have ag:=dC w0 (dC w1 (w2))
   try simp only[RY,↓KW,seval,hy,hg]
   refine⟨rfl,aZ ae ?_⟩;try simp only[I,B,D,RY,↓KW,seval,qs,aa,ak,ag]
   cases d1:((k:Int)==5);rotate_left;cases d2:((j:Int)==0);rotate_left
   ·have s1:=q3 w V 0
    have s2:=q4 {w with ay:=0} V 0
    have s3:=q5 {w with ay:=0,which:=0} V 0
    obtain⟨y,ab⟩:∃y:Pr,y={w with ay:=0,which:=0,time:=0}:=⟨_,rfl⟩
    have L:y.held.length=4:=by rw[ab];exact V
    rw[<-ab]at s3 R
    have al:v.ay=5/\(j:Int)=0:=⟨by rw[hk];simpa using d1,by simpa using d2⟩
    rw[ib al]at R
    have y0:=q0 y L
    have y1:=q1 y L
    have y2:=q2 y L
    have y3:=Pr.len L
    have y4:=Pr.whole L
    have y5:=k8 y L
    have l1:=q2 {w with ay:=0} V
    have l2:=q2 {w with ay:=0,which:=0} V
    have M:=dC s1 (dC s2 (dC s3 (dC y0 (dC y1 (dC y2 (dC y3 (dC y4 (dC y5 (dC l1 (l2))))))))))
    try simp only[I,RY,↓KW,seval,d2]
    refine⟨rfl,aZ (bK (hB t w l (ee h V)) rfl (fi rfl)) ?_⟩;try simp only[RY,↓KW,seval,aa,ag,M]
    refine ej rfl ?_;try simp only[RY,↓KW,seval,aa,M]
    rw[R]
   all_goals
    have al:¬(v.ay=5/\(j:Int)=0):=by
     rintro⟨a,b⟩
     rw[hk]at a;simp_all
    rw[ge al]at R;obtain⟨g2,a5,ao⟩:=a7 j au
    have s1:=q3 w V j
    obtain⟨y,ab⟩:∃y:Pr,y=gT t w l j v.ay:=⟨_,rfl⟩
    have L:y.held.length=4:=by rw[ab];exact V
    have s2:∀x,x=oy t {w with ay:=(j:Int)} l ((j:Int) !=(k:Int))->setCells (dc t {w with ay:=(j:Int)} l) 133 [I x]=dc t y l:=λx hx=>by
     rw[q5 {w with ay:=(j:Int)} V x,hx,ab,gT,hk]
    have ar:=s2 _ rfl
    rw[<-ab]at R
    have y0:=q0 y L
    have y1:=q1 y L
    have y2:=q2 y L
    have y3:=Pr.len L
    have y4:=Pr.whole L
    have y5:=k8 y L
    have l1:=q2 {w with ay:=(j:Int)} V
    have a4:=hT t {w with ay:=(j:Int)} l ((j:Int) !=(k:Int)) (ee h V)
    have M:=dC s1 (dC ar (dC y0 (dC y1 (dC y2 (dC y3 (dC y4 (dC y5 (dC l1 (dC a2 (a5))))))))))
    try try simp only[I,RY,↓KW,seval,ag,M]
    try try simp only[RY,↓KW,seval,d2,ag,M]
    refine⟨rfl,aZ (bK a4 rfl (fi rfl)) ?_⟩;try simp only[I,RY,↓KW,seval,M]
    refine jU [9] rfl ?_;try simp only[RY,↓KW,seval,M]
    refine⟨rfl,cN (bK (ao t y l (ee h L)) rfl (fi rfl)) ?_⟩;try simp only[RY,seval,aa,M]
    rw[R]
  ·cases c2:((k:Int)==0)
   rotate_left
   ·have ac:gR t v=true:=by rw[an,c1,c2];rfl
    have c3:True:=trivial
    have c4:True:=trivial
    have s1:=q3 v O 1
    have s2:=q4 {v with ay:=1} O (aN t v)
    have s3:=q5 {v with ay:=1,which:=aN t v} O 0
    have ad:j4 t v l=({v with ay:=1,which:=aN t v,time:=0},mT t {v with ay:=1,which:=aN t v,time:=0} l):=ib ac
    obtain⟨y,hy⟩:∃y:Pr,y={v with ay:=1,which:=aN t v,time:=0}:=⟨_,rfl⟩
    have L:y.held.length=4:=by rw[hy];exact O
    rw[<-hy]at ad s3
    have y0:=q0 y L
    have y1:=q1 y L
    have y2:=q2 y L
    have y3:=Pr.len L
    have y4:=Pr.whole L
    have y5:=k8 y L
    have l1:=q2 {v with ay:=1} O
    have l2:=q2 {v with ay:=1,which:=aN t v} O
    have M:=dC s1 (dC s2 (dC s3 (dC y0 (dC y1 (dC y2 (dC y3 (dC y4 (dC y5 (dC l1 (l2))))))))))
    try simp only[RY,↓KW,seval,c2,ak,M]
    refine jU [5] rfl ?_;try simp only[RY,↓KW,seval,M]
    refine⟨rfl,cN (bK (hE t y l (ee h L)) rfl (fi rfl)) ?_⟩;try simp only[RY,seval,aa,M]
    rw[R,ad]
   ·cases c3:((k:Int)==5)
    rotate_left
    ·have ac:gR t v=true:=by rw[an,c1,c2,c3];rfl
     have c4:True:=trivial
     have s1:=q3 v O 1
     have s2:=q4 {v with ay:=1} O (aN t v)
     have s3:=q5 {v with ay:=1,which:=aN t v} O 0
     have ad:j4 t v l=({v with ay:=1,which:=aN t v,time:=0},mT t {v with ay:=1,which:=aN t v,time:=0} l):=ib ac
     obtain⟨y,hy⟩:∃y:Pr,y={v with ay:=1,which:=aN t v,time:=0}:=⟨_,rfl⟩
     have L:y.held.length=4:=by rw[hy];exact O
     rw[<-hy]at ad s3
     have y0:=q0 y L
     have y1:=q1 y L
     have y2:=q2 y L
     have y3:=Pr.len L
     have y4:=Pr.whole L
     have y5:=k8 y L
     have l1:=q2 {v with ay:=1} O
     have l2:=q2 {v with ay:=1,which:=aN t v} O
     have M:=dC s1 (dC s2 (dC s3 (dC y0 (dC y1 (dC y2 (dC y3 (dC y4 (dC y5 (dC l1 (l2))))))))))
     try simp only[RY,↓KW,seval,c2,c3,ak,M]
     refine jU [5] rfl ?_;try simp only[RY,↓KW,seval,M]
     refine⟨rfl,cN (bK (hE t y l (ee h L)) rfl (fi rfl)) ?_⟩;try simp only[RY,seval,aa,M]
     rw[R,ad]
    ·cases c4:decide (aN t v<v.which)
     rotate_left
     ·have ac:gR t v=true:=by rw[an,c1,c2,c3,c4];rfl
      have s1:=q3 v O 1
      have s2:=q4 {v with ay:=1} O (aN t v)
      have s3:=q5 {v with ay:=1,which:=aN t v} O 0
      have ad:j4 t v l=({v with ay:=1,which:=aN t v,time:=0},mT t {v with ay:=1,which:=aN t v,time:=0} l):=ib ac
      obtain⟨y,hy⟩:∃y:Pr,y={v with ay:=1,which:=aN t v,time:=0}:=⟨_,rfl⟩
      have L:y.held.length=4:=by rw[hy];exact O
      rw[<-hy]at ad s3
      have y0:=q0 y L
      have y1:=q1 y L
      have y2:=q2 y L
      have y3:=Pr.len L
      have y4:=Pr.whole L
      have y5:=k8 y L
      have l1:=q2 {v with ay:=1} O
      have l2:=q2 {v with ay:=1,which:=aN t v} O
      have M:=dC s1 (dC s2 (dC s3 (dC y0 (dC y1 (dC y2 (dC y3 (dC y4 (dC y5 (dC l1 (l2))))))))))
      try simp only[I,RY,↓KW,seval,c2,c3,c4,ak,M]
      refine jU [5] rfl ?_;try simp only[RY,↓KW,seval,M]
      refine⟨rfl,cN (bK (hE t y l (ee h L)) rfl (fi rfl)) ?_⟩;try simp only[RY,seval,aa,M]
      rw[R,ad]
     ·have ac:gR t v=false:=by rw[an,c1,c2,c3,c4];rfl
      obtain⟨g,hg,a3⟩:=a8 k aaN
      have ae:=a3 t v l (ee h O) hk
      have V:=oD (t:=t) (l:=l) O
      have hr:=lO t v l
      have am:j4 t v l=if v.ay=5/\(aF t v l).1=0 then({(aF t v l).2 with ay:=0,which:=0,time:=0},jC t (aF t v l).2 l)
       else(gT t (aF t v l).2 l (aF t v l).1 v.ay,oC t (gT t (aF t v l).2 l (aF t v l).1 v.ay) l (aF t v l).1):=ge (by rw[ac];decide)
      rw[am]at R;generalize(aF t v l).2=w at*
      obtain⟨j,hj⟩:∃j:Nat,(aF t v l).1=j:=⟨(aF t v l).1.toNat,aaN⟩
      rw[hj]at ae R hr
      have au:j<6:=aaN
      have hy:0<=(k:Int)/\(k:Int)<6:=aaN
      have a2:0<=(j:Int)/\(j:Int)<6:=aaN
      have w0:=q0 w V
      have w1:=q1 w V
      have w2:=q2 w V
      have ag:=dC w0 (dC w1 (w2))
      try simp only[I,RY,↓KW,seval,c2,c3,c4,hy,hg,ak]
      refine⟨rfl,aZ ae ?_⟩;try simp only[I,RY,↓KW,seval,ag]
      have d1:=c3
      have d2:True:=trivial
      all_goals
       have al:¬(v.ay=5/\(j:Int)=0):=by
        rintro⟨a,b⟩
        rw[hk]at a;simp_all
       rw[ge al]at R;obtain⟨g2,a5,ao⟩:=a7 j au
       have s1:=q3 w V j
       obtain⟨y,ab⟩:∃y:Pr,y=gT t w l j v.ay:=⟨_,rfl⟩
       have L:y.held.length=4:=by rw[ab];exact V
       have s2:∀x,x=oy t {w with ay:=(j:Int)} l ((j:Int) !=(k:Int))->setCells (dc t {w with ay:=(j:Int)} l) 133 [I x]=dc t y l:=λx hx=>by
        rw[q5 {w with ay:=(j:Int)} V x,hx,ab,gT,hk]
       have ar:=s2 _ rfl
       rw[<-ab]at R
       have y0:=q0 y L
       have y1:=q1 y L
       have y2:=q2 y L
       have y3:=Pr.len L
       have y4:=Pr.whole L
       have y5:=k8 y L
       have l1:=q2 {w with ay:=(j:Int)} V
       have a4:=hT t {w with ay:=(j:Int)} l ((j:Int) !=(k:Int)) (ee h V)
       have M:=dC s1 (dC ar (dC y0 (dC y1 (dC y2 (dC y3 (dC y4 (dC y5 (dC l1 (dC a2 (a5))))))))))
       try try simp only[seval,M]
       try try simp only[I,B,D,RY,↓KW,seval,d2,aa,ak,ag,M,qs]
       refine⟨rfl,aZ (bK a4 rfl (fi rfl)) ?_⟩;try simp only[I,RY,↓KW,seval,M]
       refine jU [9] rfl ?_;try simp only[RY,↓KW,seval,M]
       refine⟨rfl,cN (bK (ao t y l (ee h L)) rfl (fi rfl)) ?_⟩;try simp only[RY,seval,aa,M]
       rw[R]
end
section
variable (x:Int) {b g:Int} {i:Nat} {p pl r:Int} {t:Tb} (y:Int)
theorem LP(l:List Rn):∀k,k<=8->lW l k=mC (λp=>gp (aX l p)) k
 |0,_=>rfl
 |k+1,h=>by
  have e:(gp (aX l k)=true)↔(l.getD k default).aA=1:=by simp[gp,aX]
  simp only[lW,mC,LP l k aaN,e]
  split
  ·rw[Yv aaN]
  ·rfl
theorem NC(t:Tb) (s:Pr) (l:List Rn) {to:Int} (h:0<=to/\to<6):(oC t s l to).free=(to==0)/\(oC t s l to).back=false:=by
 have e:to=0\/to=1\/to=2\/to=3\/to=4\/to=5:=aaN
 rcases e with rfl|rfl|rfl|rfl|rfl|rfl<;>exact⟨rfl,rfl⟩
theorem ND{s:Pr} (h:gR t s=true):0<=aN t s/\(s.ay=0\/s.ay=5\/aN t s<s.which):=by
 simp only[gR,ed,px,ii,md]at h;exact h
def akz:Prop:=∀i,i<8->tb x i=true->tb y i=true
def air:Prop:=∀i,i<8->tb x i=true->tb y i=false
theorem NF{s:Int} {f:Nat->Bool} (D:i<8):tb (yq s f) i=(tb s i&&f i):=by rw[yq,EL];simp[D]
theorem adZ(D:i<8):tb (dW .i64 255 b) i=!tb b i:=by rw[QG _ _ _ aaN,Et];simp[D]
structure ak7 (t:Tb) (l:List Rn) (to:Int) (a:Ac):Prop where
 cs:Can a.start
 cf:Can a.fin
 cc:Can a.cut
 start:∀p,p<8->tb a.start p=true->jh t l p=true
 sub:akz a.start to
 cut:∀p,p<8->tb a.cut p=true->Bl (aX l p)=true
 fin:∀p,p<8->tb a.fin p=true->gp (aX l p)=true
 ak8:air a.fin to
 ak9:air a.cut to
theorem Hz(t:Tb) (s:Pr):aN t s=-1\/(0<=aN t s/\aN t s<(nR t:Int)):=by
 unfold aN;split
 ·rename_i k hk
  have:=H3 hk
  rw[j9]at this
  right;omega
 ·left;rfl
def Uq(t:Tb):Prop:=∀x∈cQ t,aC t x.p=(x,true)
theorem HA{x:Sp}:x∈cQ t↔∃(g k i:Nat) (D:Gr),(t.groups.getD [])[g]? =some D/\k<2/\((D.row k).getD [])[i]? =some x.p/\(0<=x.p/\x.p<8)/\x=⟨g,k,i,x.p⟩:=by
 simp only[cQ,dB,kf,Os,dG,j9,bZ,List.mem_filterMap,List.mem_zipIdx_iff_getElem?,Prod.exists];constructor
 ·rintro⟨D,g,O,k,hk,p,i,R,L⟩
  split at L
  ·rename_i M
   cases L;exact⟨g,k,i,D,O,hk,R,M,rfl⟩
  ·cases L
 ·rintro⟨g,k,i,D,O,hk,R,M,L⟩
  exact⟨D,g,O,k,hk,x.p,i,R,by rw[ib M];exact rh some L.symm⟩
theorem O1{g k:Nat} {L:Gr} (D:(t.groups.getD [])[g]? =some L) (hk:k<2):jE t g k=L.row k:=by
 have M:=(em.1 D).1
 rw[jE,ge aaN]
 simp only[pu];rw[ia,D];rfl
theorem ad0(h:0<=tW t g r pl):∃(Z k i:Nat) (D:Gr),g=Z/\r=k/\pl=i/\(t.groups.getD [])[Z]? =some D/\k<2/\((D.row k).getD [])[i]? =some (tW t g r pl)/\tW t g r pl<8:=by
 by_cases M:g<0\/((t.groups.getD []).length:Int)<=g\/r<0\/1<r
 ·rw[tW,ib M]at h;omega
 by_cases O:pl<0\/(((jE t g r).getD []).length:Int)<=pl
 ·rw[tW,ge M,ib O]at h;omega
 by_cases R:0<=((jE t g r).getD []).getD pl.toNat 0/\((jE t g r).getD []).getD pl.toNat 0<8
 ·have e:tW t g r pl=((jE t g r).getD []).getD pl.toNat 0:=by rw[tW,ge M,ge O,ib R]
  obtain⟨D,V⟩:∃D,(t.groups.getD [])[g.toNat]? =some D:=⟨_,eh aaN⟩
  have L:=O1 V (k:=r.toNat) aaN
  rw[show((g.toNat:Nat):Int)=g by omega,show((r.toNat:Nat):Int)=r by omega]at L
  refine⟨g.toNat,r.toNat,pl.toNat,D,aaN,aaN,aaN,V,aaN,?_,by rw[e];exact R.2⟩
  rw[e,<-L,ia,eh aaN];rfl
 ·rw[tW,ge M,ge O,ge R]at h;omega
theorem Fx(O:Uq t) (h:0<=tW t g r pl):aC t (tW t g r pl)=(⟨g,r,pl,tW t g r pl⟩,true):=by
 obtain⟨D,k,i,L,rfl,rfl,rfl,R,hk,V,M⟩:=ad0 h
 have Z:(⟨D,k,i,tW t D k i⟩:Sp)∈cQ t:=HA.2 ⟨D,k,i,L,R,hk,V,⟨h,M⟩,rfl⟩
 exact O _ Z
theorem UQ(h:(aC t p).2=true):(aC t p).1∈cQ t/\(aC t p).1.p=p:=by
 unfold aC at h⊢
 cases D:(cQ t).find? (λx=>x.p==p)with
 |none=>rw[D]at h;cases h
 |some x=>
  simp only
  exact⟨H3 D,by simpa using List.find?_some D⟩
theorem UR(h:(aC t p).2=true):tW t (aC t p).1.group (aC t p).1.ring (aC t p).1.pos=p:=by
 obtain⟨V,O⟩:=UQ h;obtain⟨g,k,i,gr,L,hk,M,R,Z⟩:=HA.1 V;generalize(aC t p).1=x at*;rw[Z];simp only
 have hl:=(em.1 L).1
 have D:=O1 L hk
 have aa:=(em.1 M).1
 have e:((jE t g k).getD []).getD (i:Int).toNat 0=x.p:=by rw[D,ia,pu,M];rfl
 rw[tW,ge aaN,ge (by rw[D];omega),ib (by rw[e];exact R),e,O]
theorem HB(M:Uq t) {D L:Int} (R:0<=tW t g 0 D) (O:0<=tW t g 1 L):gq t (tW t g 0 D) (tW t g 1 L)=true:=by
 rw[gq,Fx M R,Fx M O];simp
structure Jb (t u:Tb):Prop where
 groups:u.groups=t.groups
 bQ:u.bQ=t.bQ
 on:yG u=yG t
 share:u.share=t.share
 revert:u.revert=t.revert
 extend:u.extend=t.extend
 same:∀p,(aV u p).min=(aV t p).min/\(aV u p).walk=(aV t p).walk/\(aV u p).eP=(aV t p).eP/\(aV u p).dQ=(aV t p).dQ
 more:∀p,(aV t p).top<=(aV u p).top/\(aV t p).red<=(aV u p).red
theorem nM{a:Int} (h:a<=b):jn a<=jn b:=by simp only[CX];omega
theorem Br{α:Type} {f g:α->Int}:∀{l:List α},(∀x∈l,f x<=g x)->zI (l.map f)<=zI (l.map g)
 |[],_=>yv _
 |x::l,h=>by
  have L:=nM (h x mp)
  have M:=Br (l:=l) λy D=>h y (lc _ D)
  simp only[zI,ka,Hc]at*;omega
theorem Fy{α:Type} {f g:α->Int}:∀{l:List α},(∀x∈l,f x<=g x)->iF (l.map f)<=iF (l.map g)
 |[],_=>yv _
 |x::l,h=>by
  have L:=h x mp
  have M:=Fy (l:=l) λy D=>h y (lc _ D)
  simp only[ka,EK];omega
end
section
variable{t u:Tb} (h:Jb t u)
include h
section
variable (k p:Int)
theorem Jb.clear:mP t<=mP u:=by
 rw[mP,mP,h.on]
 refine Fy λp _=>?_
 have D:=(h.same p).2.2.2
 have L:=(h.more p).2
 rw[I1,I1,wE,wE,D];simp only[CX];omega
theorem Jb.serve:lG t p<=lG u p:=by
 obtain⟨R,O,h3,h4⟩:=h.same p;obtain⟨Z,L⟩:=h.more p
 have V:=h.extend
 have M:=h.revert
 rw[lG,lG,h.on];split
 ·rw[R,O,h3,h4,V,M,I1 (aV t p).walk (aV t p).eP,nC,nC]
  have D:iF [jn (aV t p).min,ID (aV t p).walk (aV t p).eP,jn (aV t p).top]<=iF [jn (aV t p).min,ID (aV t p).walk (aV t p).eP,jn (aV u p).top]:=by
   have:=nM Z
   simp only[EK,QY];omega
  have a1:=nM D
  have a2:=nM L
  simp only[zI,ka,mi,Hc,List.sum_nil];omega
 ·exact yv _
theorem Jb.cQ:Eng.cQ u=Eng.cQ t:=by rw[Eng.cQ,Eng.cQ,h.groups]
theorem Jb.akA:aC u p=aC t p:=by rw[aC,aC,h.cQ]
theorem Jb.pass(g:Int):oX t g<=oX u g:=by
 rw[oX,oX,h.groups];split
 ·exact yv _
 ·rw[nC,nC,gW,gW,h.cQ]
  have:=Br (l:=((Eng.cQ t).take (Eng.cQ t).length).filter λx=>x.group==g) (f:=λx=>lG t x.p) (g:=λx=>lG u x.p) λx _=>h.serve x.p
  simp only[zI,ka,Hc]at*;omega
theorem Jb.free:qH t p<=qH u p:=by
 rw[qH,qH,h.akA,h.on,h.groups];split
 ·rw[nC,nC]
  have D:=nM (h.pass (aC t p).1.group)
  have:=Br (l:=List.range (t.groups.getD []).length) (f:=λ(g:Nat)=>oX t g) (g:=λ(g:Nat)=>oX u g) λg _=>h.pass g
  simp only[zI,ka,Hc]at*;omega
 ·exact yv _
theorem Jb.rl:yd u k=yd t k:=by rw[yd,yd,h.bQ]
theorem Jb.entry:sq t k<=sq u k:=by
 have L:=nM h.clear
 have D:=h.revert
 rw[sq,sq,h.bQ];split
 ·exact yv _
 ·rw[h.rl,D,nC,nC]
  simp only[zI,ka,mi,Hc,List.sum_nil];omega
end
end
end Go.Eng
