/- Part 12 of the engine and its library. -/
import Derived.Test.YtdfplndcbbofjaaGreatPk11
set_option linter.all false
set_option maxRecDepth 10000
set_option maxHeartbeats 4000000
namespace Go.Eng
open Go
section
variable (t:Tb) (l:Option (List Int)) (c:List Int)
def mV:Tb:=⟨List.replicate 8 default,none,List.replicate 8 0,none,none,none,0,0,0,0,0,List.replicate 8 0,0,0⟩
theorem UR:iU=mV.cells:=rfl
def HL(l:Option (List Int)):Nat->List Ph
 |0=>List.replicate 8 default
 |k+1=>(HL l k).set k (jC l (10+12*k))
def F0:Nat->List Int
 |0=>List.replicate 8 0
 |k+1=>(F0 k).set k 1
theorem fe(l:Option (List Int)):∀k,(HL l k).length=8
 |0=>by simp[HL]
 |k+1=>by simp[HL,fe l k]
theorem ob:∀k,(F0 k).length=8
 |0=>by simp[F0]
 |k+1=>by simp[F0,ob k]
def wT(i:Nat):Int:=c.getD i 0
def oU(p q:Nat):Bool:=!dP t p q&&cz l (110+8*p+q) 9 !=1
def gB(p q:Nat) (c:List Int):List Int:=
 if oU t l p q then
  let A:=c.set p (gz (wT c p) q)
  A.set q (gz (wT A q) p)
 else c
def jb(t:Tb) (l:Option (List Int)) (p:Nat):Nat->List Int->List Int
 |0,c=>c
 |q+1,c=>gB t l p q (jb t l p q c)
def gk(t:Tb) (l:Option (List Int)):Nat->List Int
 |0=>List.replicate 8 0
 |p+1=>jb t l p p (gk t l p)
theorem HM{t:Tb} {l:Option (List Int)} {p q:Nat} {c:List Int}:(gB t l p q c).length=c.length:=by
 unfold gB;split<;>simp
theorem l9{t:Tb} {l:Option (List Int)} {p:Nat} {c:List Int}:∀q,(jb t l p q c).length=c.length
 |0=>rfl
 |q+1=>by rw[jb,HM,l9 q]
theorem dU{t:Tb} {l:Option (List Int)}:∀p,(gk t l p).length=8
 |0=>by simp[gk]
 |p+1=>by rw[gk,l9,dU p]
def kP(n d:Int) (j:Nat):List A7:=(List.range j).map λ(k:Nat)=>iV l (180+8*(d-k)) n
def gC(n r:Int) (j:Nat):List Rl:=(List.range j).map λ(k:Nat)=>pO t l (260+16*(r-k)) n
def MX(n i:Int):Bs:=
 let x:=bK .i64 (cz l (330+2*i) 256) (bZ (bZ (1*2^min (IntKind.u64.wrap n).toNat 64)-1))
 ⟨if x>1 then x else 1,bZ (1+cz l (331+2*i) 30)⟩
def oV(n b:Int) (j:Nat):List Bs:=(List.range j).map λ(k:Nat)=>MX l n (b-k)
def sL(t:Tb):Nat->Int
 |0=>0
 |k+1=>if qq t k>sL t k then qq t k else sL t k
def d8:List Gr×Nat:=bl l (gL l) (gL l)
def bq:Tb :=
  let n:=(d8 l).2
  let t1:Tb:={ mV with groups:=some (d8 l).1 }
  let q:=cz l 174 (n + 1)
  { phases:=HL l n
    groups:=some (d8 l).1
    conflict:=gk t1 l n
    aL:=dJ (kP l n (cz l 175 9) (cz l 175 9).toNat)
    aV:=dJ (gC t1 l n ((cz l 176 4).tmod 3) ((cz l 176 4).tmod 3).toNat)
    f9:=dJ (oV l n (cz l 177 3) (cz l 177 3).toNat)
    extend:=cz l 178 12
    gW:=cz l 179 40
    start:=cz l 180 8
    revert:=cz l 181 8
    least:=cz l 182 12
    ee:=if q < n then (F0 n).set q.toNat 2 else F0 n
    rR:=0
    share:=cz l 183 4 }
def cJ:Tb:=
 {bq l with rR:=if(gC {mV with groups:=some (d8 l).1} l (d8 l).2 ((cz l 176 4).tmod 3) ((cz l 176 4).tmod 3).toNat)=[]then 0 else sL (bq l) (d8 l).2}
def Table.Spec(C:aY) (f:Nat):Prop:=∀l:Option (List Int),C.c f [aI aC l] (.agg (cJ l).cells) none
def jJ(k:Nat):Tb:={mV with groups:=some (d8 l).1,phases:=HL l k,ee:=F0 k}
def iW:Tb:={jJ l (d8 l).2 with conflict:=c}
def uu:Tb:={iW l (gk {mV with groups:=some (d8 l).1} l (d8 l).2)with ee:=(bq l).ee}
def C7(d:List A7):Tb:={uu l with aL:=dJ d}
def Bq(r:List Rl):Tb:={uu l with aL:=(bq l).aL,aV:=dJ r}
def C8(b:List Bs):Tb:={uu l with aL:=(bq l).aL,aV:=(bq l).aV,f9:=dJ b}
def Er(w:Int):Tb:={bq l with rR:=w}
theorem Q0(p m:Nat):(dO p m).length=m:=by simp[dO]
theorem zF(l:Option (List Int)) (G:Nat):∀g,∀x∈(bl l G g).1,(x.a.getD []).length<=8/\(x.b.getD []).length<=8
 |0,x,A=>by simp[bl]at A
 |g+1,x,A=>by
  simp only[bl,il,lm]at A
  rcases A with A|rfl
  ·exact zF l G g x A
  ·simp only[aT,Q0,bp,b9]
   omega
theorem v7:(d8 l).2<=8:=vZ _ _ _
theorem Cw(l:Option (List Int)) (G:Nat):∀g,1<=g->g<=G->G<=3->1<=(bl l G g).2
 |0,h,_,_=>by omega
 |1,_,B,A=>by
  simp only[bl,bp,b9,cnt]
  split<;>split<;>simp_all<;>omega
 |g+2,_,B,A=>by
  have:=Cw l G (g+1) ST ST A
  rw[bl];simp only;omega
theorem rX:1<=gL l/\gL l<=3:=by
 have:=aP l 0 (n:=3) Ts Ts
 unfold gL;omega
theorem Es:1<=(d8 l).2:=Cw l _ _ (rX l).1 (ia _) (rX l).2
theorem Et{l:Option (List Int)} {t:Tb} (B:t.groups=some (d8 l).1) (M:t.phases.length=8) (E:t.conflict.length=8) (R:t.ee.length=8) (L:(t.aL.getD []).length<=1048576) (O:(t.aV.getD []).length<=1048576) (D:(t.f9.getD []).length<=1048576):t.Ok:=by
 refine⟨M,E,R,?_,?_,L,O,D⟩
 ·rw[B];simp only[sm,d8,oa];have:=rX l;omega
 ·rw[B];simp only[sm]
  intro g A
  have:=zF _ _ _ g A
  omega
theorem LB(n d:Int) (j:Nat):kP l n d (j+1)=kP l n d j++[iV l (180+8*(d-j)) n]:=by simp[kP,io]
theorem Br(n d:Int) (j:Nat):(kP l n d j).length=j:=by simp[kP]
theorem JD(n d:Int) (j:Nat):gC t l n d (j+1)=gC t l n d j++[pO t l (260+16*(d-j)) n]:=by simp[gC,io]
theorem yq(n d:Int) (j:Nat):(gC t l n d j).length=j:=by simp[gC]
theorem LC(n d:Int) (j:Nat):oV l n d (j+1)=oV l n d j++[MX l n (d-j)]:=by simp[oV,io]
theorem Bt(n d:Int) (j:Nat):(oV l n d j).length=j:=by simp[oV]
theorem A7.len(d:A7):d.cells.length=7:=rfl
theorem Bs.len(d:Bs):d.cells.length=2:=rfl
theorem eJ:(bq l).ee.length=8:=by
 unfold bq;simp only;split<;>simp[ob]
theorem oW:((bq l).aL.getD []).length<=1048576:=by
 have:=aP l 175 (n:=9) Ts Ts
 simp only[bq,aT,Br];omega
theorem rY:((bq l).aV.getD []).length<=1048576:=by
 have h:=FS (cz l 176 4) (b:=3) Ts
 simp only[bq,aT,yq];omega
theorem HN:((bq l).f9.getD []).length<=1048576:=by
 have:=aP l 177 (n:=3) Ts Ts
 simp only[bq,aT,Bt];omega
theorem Eu:(cJ l).Ok:=Et rfl (fe l _) (dU _) (eJ l) (oW l) (rY l) (HN l)
end
section
variable{P:Program} (hm:P.follows .mixedOrders=true) {f:Nat}
include hm
theorem Table.ok{fR fP fB fF fW fD eD fr eR eB fw:Nat} (hc:bu P f=some (nW fR fP fB fF fW fD eD fr eR eB fw)) (hR:rows.Spec (Pure P) fR) (hP:phase.Spec (Pure P) fP) (hB:beside.Spec (Pure P) fB) (hF:from.Spec (Pure P) fF) (hW:fJ.Spec (Pure P) fW)
  (hD:uo.Spec (Pure P) fD) (hr:QX.Spec (Pure P) fr) (hw:wait.Spec (Pure P) fw):Table.Spec (Pure P) f:=by
 intro l;refine aj hm hc [0,3,8,9,12,15,18] rfl ?_;try simp only[RY,↓KW,seval,nW,Z.H,UR]
 have b2:mV.Ok:=⟨rfl,rfl,rfl,by simp[mV],by simp[mV],by simp[mV],by simp[mV],by simp[mV]⟩
 refine⟨rfl,bg (hR mV l b2 rfl) ?_⟩
 have hN:=v7 l
 have dt:=Es l
 try simp only[I,RY,seval]
 change aw _ _ _ (⟨[(5,_),(4,.dat (I ((d8 l).2:Nat)) none),(14,_),(13,_),(3,_),(2,_),(0,_)],[(5,⟨(jJ l 0).cells,[]⟩),_],_,_⟩:S)
 generalize hNe:(d8 l).2=N at*
 refine mL (.exit 0) (λ_:Unit=>(⟨[(4,.dat (I N) none),(3,.ptr 5 0),(0,.dat (aI aC l) none),(2,.ptr 4 0)],[(5,⟨(jJ l N).cells,[]⟩),(4,⟨mV.cells,[]⟩)],[],400⟩:S)) (λ_=>True) (λ_=>rfl) ?_ ?_
 ·refine aD (λk:Nat=>(⟨[(5,.dat (I k) none),(4,.dat (I N) none),(3,.ptr 5 0),(0,.dat (aI aC l) none),(2,.ptr 4 0)],[(5,⟨(jJ l k).cells,[]⟩),(4,⟨mV.cells,[]⟩)],[],400⟩:S)) (λk=>N-k) (λk=>k<=N) ?_ 0 ST ?_
  ·intro k hk A back
   have M:=aA (k:=k) ST
   have cg:IntKind.i64.wrap (10+IntKind.i64.wrap (12*(k:Int)))=10+12*k:=by rw[aU (n:=12*(k:Int)) ST ST,aU ST ST]
   have bs:(jJ l k).Ln:=⟨fe l k,rfl,ob k⟩
   have am:({jJ l k with phases:=(jJ l k).phases.set k (jC l (10+12*k))}:Tb).Ln:=⟨by simp[fe,jJ],rfl,ob k⟩
   try simp only[I,RY,↓KW,seval]
   refine aB (λh=>?_) (λh=>?_)<;>try simp only[RY,↓KW,seval,h]
   ·have bd:k<N:=by have:=dC h;omega
    have a3:k<8:=ST
    have V:=bs.Ow a3 (jC l (10+12*k))
    have ak:=am.Gy a3 1
    have b8:({({jJ l k with phases:=(jJ l k).phases.set k (jC l (10+12*k))}:Tb)with ee:=({jJ l k with phases:=(jJ l k).phases.set k (jC l (10+12*k))}:Tb).ee.set k 1}:Tb)=jJ l (k+1):=rfl
    rw[b8]at ak
    have di:=bs.len
    have dn:=am.len
    generalize({jJ l k with phases:=(jJ l k).phases.set k (jC l (10+12*k))}:Tb)=T at*
    refine af (hP _ _) ?_;try simp only[RY,↓KW,seval,cg,V]
    exact⟨ST,Ph.len _,ST,ST,ST,by refine back (k+1) _ ST ST (ai Ts ?_ ?_ ?_ ?_)<;>simp[LX,I,ak,M]⟩
   ·have:k=N:=by have:=dE h;omega
    subst this;refine ej () trivial ?_
    refine ai Ts ?_ ?_ ?_ ?_<;>simp[LX]
  ·refine ai Ts ?_ ?_ ?_ ?_<;>simp[LX,I]
 ·intro _ _
  try simp only[I,RY,↓KW,seval]
  generalize al:({mV with groups:=some (d8 l).1}:Tb)=t1 at*
  have hA:jJ l N=iW l (gk t1 l 0):=by subst hNe;rfl
  refine mL (.exit 2) (λ_:Unit=>(⟨[(4,.dat (I N) none),(3,.ptr 5 0),(0,.dat (aI aC l) none),(2,.ptr 4 0)],[(5,⟨(iW l (gk t1 l N)).cells,[]⟩),(4,⟨mV.cells,[]⟩)],[],400⟩:S)) (λ_=>True) (λ_=>rfl) ?_ ?_
  ·refine aD (λp:Nat=>(⟨[(6,.dat (I p) none),(4,.dat (I N) none),(3,.ptr 5 0),(0,.dat (aI aC l) none),(2,.ptr 4 0)],[(5,⟨(iW l (gk t1 l p)).cells,[]⟩),(4,⟨mV.cells,[]⟩)],[],400⟩:S)) (λp=>N-p) (λp=>p<=N) ?_ 0 ST ?_
   ·intro p hp A back
    have M:=aA (k:=p) ST
    try simp only[I,RY,↓KW,seval]
    refine aB (λh=>?_) (λh=>?_)<;>try simp only[RY,↓KW,seval,h]
    ·have dj:p<N:=by have:=dC h;omega
     have a3:p<8:=ST
     have db:gk t1 l (p+1)=jb t1 l p p (gk t1 l p):=rfl
     have b4:=dU (t:=t1) (l:=l) p
     generalize gk t1 l p=c0 at*
     refine aD (λq:Nat=>(⟨[(7,.dat (I q) none),(6,.dat (I p) none),(4,.dat (I N) none),(3,.ptr 5 0),(0,.dat (aI aC l) none),(2,.ptr 4 0)],[(5,⟨(iW l (jb t1 l p q c0)).cells,[]⟩),(4,⟨mV.cells,[]⟩)],[],400⟩:S)) (λq=>p-q) (λq=>q<=p) ?_ 0 ST ?_
     ·intro q hq A2 ae
      have a7:=aA (k:=q) ST
      have a8:jb t1 l p (q+1) c0=gB t1 l p q (jb t1 l p q c0):=rfl
      have b1:(jb t1 l p q c0).length=8:=by rw[l9,b4]
      generalize cy:jb t1 l p q c0=c at*
      have okB:(iW l c).Ok:=Et rfl (fe l _) b1 (ob _) (by simp[iW,jJ,mV]) (by simp[iW,jJ,mV]) (by simp[iW,jJ,mV])
      have aa:=okB.ln.whole
      have an:=okB.ln.len
      have b7:dP (iW l c) p q=dP t1 p q:=by subst al;rfl
      have ad:IntKind.i64.wrap (IntKind.i64.wrap (110+IntKind.i64.wrap (8*(p:Int)))+q)=110+8*p+q:=by
       rw[aU (n:=8*(p:Int)) ST ST,aU (n:=110+8*(p:Int)) ST ST,aU ST ST]
      try simp only[I,RY,↓KW,seval]
      refine aB (λh2=>?_) (λh2=>?_)<;>try simp only[RY,↓KW,seval,aa,h2]
      ·have df:q<p:=by have:=dC h2;omega
       refine af (hB _ _ _ okB) ?_;try simp only[B,RY,↓KW,seval,b7]
       repeat' (first|(refine af (hF _ _ _ Ts) ?_;try simp only[I,RY,↓KW,seval])|(((first|refine bn ?_ ?_|refine aB ?_ ?_|refine bM ?_ ?_)<;>intro h)<;>try simp only[RY,↓KW,seval,ad,h]))
       ·have hb:dP t1 p q=false:=by simp_all
        have au:oU t1 l p q=true:=by simp only[oU,hb];simpa using h
        have ao:gB t1 l p q c=(c.set p (gz (wT c p) q)).set q (gz (wT (c.set p (gz (wT c p) q)) q) p):=by simp only[gB,au,kh]
        have g1:c[p]? =some (wT c p):=by simp[wT,show p<c.length by omega]
        have g2:(c.set p (gz (wT c p) q))[q]? =some (wT (c.set p (gz (wT c p) q)) q):=by simp[wT,show q<c.length by omega]
        have am:(iW l (c.set p (gz (wT c p) q))).Ln:=⟨fe l _,by simp[iW,b1],ob _⟩
        have l1:=okB.ln.oR (t:=iW l c) g1
        have l2:=am.oR g2
        have V:setCells (iW l c).cells (105+p) [I (gz (wT c p) q)]=(iW l (c.set p (gz (wT c p) q))).cells:=okB.ln.zE a3 _
        have ak:setCells (iW l (c.set p (gz (wT c p) q))).cells (105+q) [I (gz (wT (c.set p (gz (wT c p) q)) q) p)]=(iW l (gB t1 l p q c)).cells:=by rw[ao];exact am.zE ST _
        have dd:=am.len
        rw[<-a8]at ak;simp only[I]at V ak;generalize wT (c.set p (gz (wT c p) q)) q=v2 at*;generalize wT c p=v1 at*;generalize c.set p (gz v1 q)=c2 at*
        refine⟨ST,?_⟩
        try simp only[I,RY,↓KW,seval,l1]
        refine af (hW _ _) ?_;try simp only[I,RY,↓KW,seval,V]
        refine⟨ST,ST,ST,?_⟩
        try simp only[I,RY,↓KW,seval,l2]
        refine af (hW _ _) ?_;try simp only[I,RY,↓KW,seval,V,ak]
        exact⟨ST,ST,by refine ae (q+1) _ ST ST (ai Ts ?_ ?_ ?_ ?_)<;>simp[LX,I,a7]⟩
       ·have ao:gB t1 l p q c=c:=by
         have au:oU t1 l p q=false:=by simp only[oU];simp_all
         simp[gB,au]
        refine ae (q+1) _ ST ST (ai Ts ?_ ?_ ?_ ?_)<;>simp[LX,I,a8,ao,a7]
       ·have ao:gB t1 l p q c=c:=by
         have au:oU t1 l p q=false:=by simp only[oU];simp_all
         simp[gB,au]
        refine ae (q+1) _ ST ST (ai Ts ?_ ?_ ?_ ?_)<;>simp[LX,I,a8,ao,a7]
      ·have:q=p:=by have:=dE h2;omega
       subst this
       refine back (q+1) _ ST ST (ai Ts ?_ ?_ ?_ ?_)<;>simp[LX,I,db,cy,M]
     ·refine ai Ts ?_ ?_ ?_ ?_<;>simp[LX,I,jb]
    ·have:p=N:=by have:=dE h;omega
     subst this;refine ej () trivial ?_
     refine ai Ts ?_ ?_ ?_ ?_<;>simp[LX]
   ·refine ai Ts ?_ ?_ ?_ ?_<;>simp[LX,I,hA]
  ·intro _ _
   have ce:IntKind.i64.wrap ((N:Int)+1)=N+1:=aA ST
   have hq:=aP l 174 (n:=(N:Int)+1) ST ST
   have okB:(iW l (gk t1 l N)).Ok:=Et rfl (fe l _) (dU _) (ob _) (by simp[iW,jJ,mV]) (by simp[iW,jJ,mV]) (by simp[iW,jJ,mV])
   have an:=okB.ln.len
   have ag:(bq l).ee=if cz l 174 (N+1)<N then(F0 N).set (cz l 174 (N+1)).toNat 2 else F0 N:=by subst hNe;rfl
   have hC:uu l={iW l (gk t1 l N)with ee:=(bq l).ee}:=by subst hNe;subst al;rfl
   have be:(iW l (gk t1 l N)).ee=F0 N:=by subst hNe;rfl
   rw[Qv]
   refine mL .normal (λ_:Unit=>(⟨[(4,.dat (I N) none),(3,.ptr 5 0),(0,.dat (aI aC l) none),(2,.ptr 4 0)],[(5,⟨(uu l).cells,[]⟩),(4,⟨mV.cells,[]⟩)],[],400⟩:S)) (λ_=>True) (λ_=>rfl) ?_ ?_
   ·try simp only[I,RY,↓KW,seval]
    refine af (hF _ _ _ ST) ?_
    rw[ce];generalize cz l 174 (N+1)=q at*;try simp only[I,RY,↓KW,seval]
    refine aB (λh=>?_) (λh=>?_)<;>try simp only[RY,↓KW,seval,h]
    ·have a9:q<N:=dC h
     rw[et a9]at ag
     have V:=okB.ln.Gy (i:=q.toNat) ST 2
     have e:({iW l (gk t1 l N)with ee:=(iW l (gk t1 l N)).ee.set q.toNat 2}:Tb)=uu l:=by rw[hC,be,ag]
     rw[e]at V;simp only[I]at V
     refine⟨ST,ST,?_⟩
     refine ej () trivial ?_
     refine ai Ts ?_ ?_ ?_ ?_<;>simp[LX,V]
    ·have a9:¬q<N:=dE h
     rw[ek a9]at ag
     have e:iW l (gk t1 l N)=uu l:=by rw[hC,ag,<-be]
     refine ej () trivial ?_
     refine ai Ts ?_ ?_ ?_ ?_<;>simp[LX,e]
   ·intro _ _
    have hd:=aP l 175 (n:=9) Ts Ts
    have cv:uu l=C7 l []:=rfl
    have cp:C7 l (kP l N (cz l 175 9) (cz l 175 9).toNat)=Bq l []:=by subst hNe;rfl
    try simp only[I,RY,↓KW,seval]
    refine af (hF _ _ _ Ts) ?_
    generalize cz l 175 9=d at*;try simp only[I,RY,↓KW,seval]
    refine mL (.exit 6) (λ_:Unit=>(⟨[(4,.dat (I N) none),(3,.ptr 5 0),(0,.dat (aI aC l) none),(2,.ptr 4 0)],[(5,⟨(C7 l (kP l N d d.toNat)).cells,[]⟩),(4,⟨mV.cells,[]⟩)],[],400⟩:S)) (λ_=>True) (λ_=>rfl) ?_ ?_
    ·refine aD (λj:Nat=>(⟨[(9,.dat (I (d-j)) none),(4,.dat (I N) none),(3,.ptr 5 0),(0,.dat (aI aC l) none),(2,.ptr 4 0)],[(5,⟨(C7 l (kP l N d j)).cells,if kP l N d j=[]then[]else[(113,0)]⟩),(4,⟨mV.cells,[]⟩)],bA (kP l N d j) 0 eD,400⟩:S)) (λj=>d.toNat-j) (λj=>j<=d.toNat) ?_ 0 ST ?_
     ·intro j hj A back
      have M:IntKind.i64.wrap (d-j-1)=d-((j+1:Nat):Int):=by rw[aU ST ST];omega
      have ad:IntKind.i64.wrap (180+IntKind.i64.wrap (8*(d-(j:Int))))=180+8*(d-j):=by rw[aU (n:=8*(d-(j:Int))) ST ST,aU ST ST]
      have hnext:=LB l N d j
      have ab:(kP l N d j).length=j:=Br ..
      generalize hL:kP l N d j=L at*;generalize hx:iV l (180+8*(d-j)) N=x at*
      have FO:(C7 l L).Ok:=Et rfl (fe l _) (dU _) (eJ l) (by simp[C7,uu,iW,jJ,mV,aT];try omega) (by simp[C7,uu,iW,jJ,mV];try omega) (by simp[C7,uu,iW,jJ,mV];try omega)
      have ln:=FO.ln
      have an:=ln.len
      have aa:=ln.whole
      have E:=ln.JA
      have D:setCells (C7 l L).cells 113 [aI A7.cells (some (L++[x]))]=(C7 l (L++[x])).cells:=by rw[ln.QZ (some (L++[x]))];simp[C7,dJ]
      have ac:(C7 l L).aL=dJ L:=rfl
      rw[ac]at E;simp only[bO,my,md,se]at D
      cases L with
      |nil=>
       simp only[se,kx,dJ,kh,dL]at D E hnext;try simp only[I,RY,↓KW,seval,bA]
       refine aB (λh=>?_) (λh=>?_)<;>try simp only[RY,↓KW,seval,E,h]
       ·have O:(0:Int)<d-j:=dC h
        refine af (hD _ _ _ ST) ?_
        try simp only[RY,↓KW,seval,ad,hx,A7.len]
        try simp only[seval,D]
        refine⟨ST,?_⟩
        refine back (j+1) _ ST ST (ai Ts ?_ ?_ ?_ ?_)<;>simp[LX,I,hnext,M]
       ·have O:¬(0:Int)<d-j:=dE h
        have:j=d.toNat:=ST
        rw[<-this,hL];refine ej () trivial ?_
        refine ai Ts ?_ ?_ ?_ ?_<;>simp[LX]
      |cons y ys=>
       simp only[dJ,reduceCtorEq,ib,bO]at D E hnext;try simp only[I,RY,↓KW,seval,bA]
       refine aB (λh=>?_) (λh=>?_)<;>try simp only[RY,↓KW,seval,E,h]
       ·have O:(0:Int)<d-j:=dC h
        refine af (hD _ _ _ ST) ?_
        try simp only[RY,↓KW,seval,ad,hx,A7.len]
        try simp only[RY,seval,D]
        refine⟨by simp at ab⊢;omega,ST,?_⟩
        refine back (j+1) _ ST ST (ai Ts ?_ ?_ ?_ ?_)<;>simp[LX,I,hnext,M]
       ·have O:¬(0:Int)<d-j:=dE h
        have:j=d.toNat:=ST
        rw[<-this,hL];refine ej () trivial ?_
        refine ai Ts ?_ ?_ ?_ ?_<;>simp[LX]
     ·refine ai Ts ?_ ?_ ?_ ?_<;>simp[LX,I,cv,kP]
    ·intro _ _
     have cx:=aP l 176 (n:=4) Ts Ts
     have dk:=FS (cz l 176 4) (b:=3) Ts
     have dp:=Int.tmod_nonneg 3 cx.1
     have cb:Bq l (gC t1 l N ((cz l 176 4).tmod 3) ((cz l 176 4).tmod 3).toNat)=C8 l []:=by subst hNe;subst al;rfl
     have cu:(bq l).aV=dJ (gC t1 l N ((cz l 176 4).tmod 3) ((cz l 176 4).tmod 3).toNat):=by subst hNe;subst al;rfl
     have b6:cJ l=Er l (if gC t1 l N ((cz l 176 4).tmod 3) ((cz l 176 4).tmod 3).toNat=[]then 0 else sL (bq l) N):=by subst hNe;subst al;rfl
     try simp only[I,RY,↓KW,seval]
     refine af (hF _ _ _ Ts) ?_
     try simp only[I,RY,↓KW,seval]
     generalize(cz l 176 4).tmod 3=r at*
     refine mL (.exit 8) (λ_:Unit=>(⟨[(4,.dat (I N) none),(3,.ptr 5 0),(0,.dat (aI aC l) none),(2,.ptr 4 0)],[(5,⟨(Bq l (gC t1 l N r r.toNat)).cells,[]⟩),(4,⟨mV.cells,[]⟩)],[],400⟩:S)) (λ_=>True) (λ_=>rfl) ?_ ?_
     ·refine aD (λj:Nat=>(⟨[(10,.dat (I (r-j)) none),(4,.dat (I N) none),(3,.ptr 5 0),(0,.dat (aI aC l) none),(2,.ptr 4 0)],[(5,⟨(Bq l (gC t1 l N r j)).cells,if gC t1 l N r j=[]then[]else[(114,0)]⟩),(4,⟨mV.cells,[]⟩)],bA (gC t1 l N r j) 0 eR,400⟩:S)) (λj=>r.toNat-j) (λj=>j<=r.toNat) ?_ 0 ST ?_
      ·intro j hj A back
       have M:IntKind.i64.wrap (r-j-1)=r-((j+1:Nat):Int):=by rw[aU ST ST];omega
       have ad:IntKind.i64.wrap (260+IntKind.i64.wrap (16*(r-(j:Int))))=260+16*(r-j):=by rw[aU (n:=16*(r-(j:Int))) ST ST,aU ST ST]
       have bo:∀L',pO (Bq l L') l (260+16*(r-j)) N=pO t1 l (260+16*(r-j)) N:=λ_=>by subst al;rfl
       have hnext:=JD t1 l N r j
       have ab:(gC t1 l N r j).length=j:=yq ..
       generalize hL:gC t1 l N r j=L at*;generalize hx:pO t1 l (260+16*(r-j)) N=x at*
       have FO:(Bq l L).Ok:=Et rfl (fe l _) (dU _) (eJ l) (by simp[Bq,uu,iW,jJ,mV,oW];try omega) (by simp[Bq,uu,iW,jJ,mV,aT];try omega) (by simp[Bq,uu,iW,jJ,mV];try omega)
       have ln:=FO.ln
       have an:=ln.len
       have aa:=ln.whole
       have E:=ln.Cv
       have D:setCells (Bq l L).cells 114 [aI Rl.cells (some (L++[x]))]=(Bq l (L++[x])).cells:=by rw[ln.Ox (some (L++[x]))];simp[Bq,dJ]
       have ac:(Bq l L).aV=dJ L:=rfl
       rw[ac]at E;simp only[bO,my,md,se]at D
       cases L with
       |nil=>
        simp only[se,kx,dJ,kh,dL]at D E hnext;try simp only[I,RY,↓KW,seval,bA]
        refine aB (λh=>?_) (λh=>?_)<;>try simp only[RY,↓KW,seval,E,aa,h]
        ·have O:(0:Int)<r-j:=dC h
         refine af (hr _ _ _ _ FO ST ST) ?_
         try simp only[RY,↓KW,seval,ad,bo,Rl.len]
         try simp only[seval,D]
         refine⟨ST,?_⟩
         refine back (j+1) _ ST ST (ai Ts ?_ ?_ ?_ ?_)<;>simp[LX,I,hnext,M]
        ·have O:¬(0:Int)<r-j:=dE h
         have:j=r.toNat:=ST
         rw[<-this,hL];refine ej () trivial ?_
         refine ai Ts ?_ ?_ ?_ ?_<;>simp[LX]
       |cons y ys=>
        simp only[dJ,reduceCtorEq,ib,bO]at D E hnext;try simp only[I,RY,↓KW,seval,bA]
        refine aB (λh=>?_) (λh=>?_)<;>try simp only[RY,↓KW,seval,E,aa,h]
        ·have O:(0:Int)<r-j:=dC h
         refine af (hr _ _ _ _ FO ST ST) ?_
         try simp only[RY,↓KW,seval,ad,bo,Rl.len]
         try simp only[RY,seval,D]
         refine⟨by simp at ab⊢;omega,ST,?_⟩
         refine back (j+1) _ ST ST (ai Ts ?_ ?_ ?_ ?_)<;>simp[LX,I,hnext,M]
        ·have O:¬(0:Int)<r-j:=dE h
         have:j=r.toNat:=ST
         rw[<-this,hL];refine ej () trivial ?_
         refine ai Ts ?_ ?_ ?_ ?_<;>simp[LX]
      ·refine ai Ts ?_ ?_ ?_ ?_<;>simp[LX,I,cp,gC]
     ·intro _ _
      have dl:=aP l 177 (n:=3) Ts Ts
      have ci:C8 l (oV l N (cz l 177 3) (cz l 177 3).toNat)={bq l with extend:=0,gW:=0,start:=0,revert:=0,least:=0,share:=0}:=by subst hNe;rfl
      have hu:0<=IntKind.u64.wrap (N:Int):=by rw[IntKind.wrap];simp[IntKind.signed];omega
      try simp only[I,RY,↓KW,seval]
      refine af (hF _ _ _ Ts) ?_
      generalize cz l 177 3=b at*;try simp only[I,RY,↓KW,seval]
      refine mL (.exit 10) (λ_:Unit=>(⟨[(4,.dat (I N) none),(3,.ptr 5 0),(0,.dat (aI aC l) none),(2,.ptr 4 0)],[(5,⟨(C8 l (oV l N b b.toNat)).cells,[]⟩),(4,⟨mV.cells,[]⟩)],[],400⟩:S)) (λ_=>True) (λ_=>rfl) ?_ ?_
      ·refine aD (λj:Nat=>(⟨[(11,.dat (I (b-j)) none),(4,.dat (I N) none),(3,.ptr 5 0),(0,.dat (aI aC l) none),(2,.ptr 4 0)],[(5,⟨(C8 l (oV l N b j)).cells,if oV l N b j=[]then[]else[(115,0)]⟩),(4,⟨mV.cells,[]⟩)],bA (oV l N b j) 0 eB,400⟩:S)) (λj=>b.toNat-j) (λj=>j<=b.toNat) ?_ 0 ST ?_
       ·intro j hj A back
        have M:IntKind.i64.wrap (b-j-1)=b-((j+1:Nat):Int):=by rw[aU ST ST];omega
        have bm:IntKind.i64.wrap (330+IntKind.i64.wrap (2*(b-(j:Int))))=330+2*(b-j):=by rw[aU (n:=2*(b-(j:Int))) ST ST,aU ST ST]
        have bi:IntKind.i64.wrap (331+IntKind.i64.wrap (2*(b-(j:Int))))=331+2*(b-j):=by rw[aU (n:=2*(b-(j:Int))) ST ST,aU ST ST]
        have a4:(MX l N (b-j)).cells=[AV.int .i64 (if bK .i64 (cz l (330+2*(b-j)) 256) (IntKind.i64.wrap (IntKind.i64.wrap (1*2^min (IntKind.u64.wrap (N:Int)).toNat IntKind.i64.bits)-1))>1 then bK .i64 (cz l (330+2*(b-j)) 256) (IntKind.i64.wrap (IntKind.i64.wrap (1*2^min (IntKind.u64.wrap (N:Int)).toNat IntKind.i64.bits)-1))else 1),AV.int .i64 (IntKind.i64.wrap (1+cz l (331+2*(b-j)) 30))]:=rfl
        have hnext:=LC l N b j
        have ab:(oV l N b j).length=j:=Bt ..
        generalize hL:oV l N b j=L at*;generalize hx:MX l N (b-j)=x at*
        have FO:(C8 l L).Ok:=Et rfl (fe l _) (dU _) (eJ l) (by simp[C8,uu,iW,jJ,mV,oW];try omega) (by simp[C8,uu,iW,jJ,mV,rY];try omega) (by simp[C8,uu,iW,jJ,mV,aT];try omega)
        have ln:=FO.ln
        have an:=ln.len
        have aa:=ln.whole
        have E:=ln.JB
        have D:setCells (C8 l L).cells 115 [aI Bs.cells (some (L++[x]))]=(C8 l (L++[x])).cells:=by rw[ln.Oy (some (L++[x]))];simp[C8,dJ]
        have ac:(C8 l L).f9=dJ L:=rfl
        rw[ac]at E;simp only[bO,my,md,se]at D
        cases L with
        |nil=>
         simp only[se,kx,dJ,kh,dL]at D E hnext;try simp only[I,RY,↓KW,seval,bA]
         refine aB (λh=>?_) (λh=>?_)<;>try simp only[RY,↓KW,seval,E,h]
         ·have O:(0:Int)<b-j:=dC h
          refine af (hF _ _ _ Ts) ?_
          try simp only[I,RY,↓KW,seval,bm]
          refine⟨hu,?_⟩
          refine af (hF _ _ _ Ts) ?_
          try simp only[I,RY,↓KW,seval,bi]
          simp only[gt_iff_lt]at a4⊢;rw[a4]at D;try simp only[seval,D]
          refine⟨ST,?_⟩
          refine back (j+1) _ ST ST (ai Ts ?_ ?_ ?_ ?_)<;>simp[LX,I,hnext,M]
         ·have O:¬(0:Int)<b-j:=dE h
          have:j=b.toNat:=ST
          rw[<-this,hL];refine ej () trivial ?_
          refine ai Ts ?_ ?_ ?_ ?_<;>simp[LX]
        |cons y ys=>
         simp only[dJ,reduceCtorEq,ib,bO]at D E hnext;try simp only[I,RY,↓KW,seval,bA]
         refine aB (λh=>?_) (λh=>?_)<;>try simp only[RY,↓KW,seval,E,h]
         ·have O:(0:Int)<b-j:=dC h
          refine af (hF _ _ _ Ts) ?_
          try simp only[I,RY,↓KW,seval,bm]
          refine⟨hu,?_⟩
          refine af (hF _ _ _ Ts) ?_
          try simp only[I,RY,↓KW,seval,bi]
          simp only[gt_iff_lt]at a4⊢;rw[a4]at D;try simp only[RY,seval,D,Bs.len]
          refine⟨by simp at ab⊢;omega,ST,?_⟩
          refine back (j+1) _ ST ST (ai Ts ?_ ?_ ?_ ?_)<;>simp[LX,I,hnext,M]
         ·have O:¬(0:Int)<b-j:=dE h
          have:j=b.toNat:=ST
          rw[<-this,hL];refine ej () trivial ?_
          refine ai Ts ?_ ?_ ?_ ?_<;>simp[LX]
       ·refine ai Ts ?_ ?_ ?_ ?_<;>simp[LX,I,cb,oV]
      ·intro _ _
       have n0:({bq l with extend:=0,gW:=0,start:=0,revert:=0,least:=0,share:=0}:Tb).Ln:=⟨fe l _,dU _,eJ l⟩
       have n1:({bq l with gW:=0,start:=0,revert:=0,least:=0,share:=0}:Tb).Ln:=⟨fe l _,dU _,eJ l⟩
       have n2:({bq l with start:=0,revert:=0,least:=0,share:=0}:Tb).Ln:=⟨fe l _,dU _,eJ l⟩
       have n3:({bq l with revert:=0,least:=0,share:=0}:Tb).Ln:=⟨fe l _,dU _,eJ l⟩
       have n4:({bq l with least:=0,share:=0}:Tb).Ln:=⟨fe l _,dU _,eJ l⟩
       have n5:({bq l with share:=0}:Tb).Ln:=⟨fe l _,dU _,eJ l⟩
       have s0:setCells ({bq l with extend:=0,gW:=0,start:=0,revert:=0,least:=0,share:=0}:Tb).cells 116 [AV.int .i64 (cz l 178 12)]=({bq l with gW:=0,start:=0,revert:=0,least:=0,share:=0}:Tb).cells:=(n0.ur (cz l 178 12)).1
       have s1:setCells ({bq l with gW:=0,start:=0,revert:=0,least:=0,share:=0}:Tb).cells 117 [AV.int .i64 (cz l 179 40)]=({bq l with start:=0,revert:=0,least:=0,share:=0}:Tb).cells:=(n1.ur (cz l 179 40)).2.1
       have s2:setCells ({bq l with start:=0,revert:=0,least:=0,share:=0}:Tb).cells 118 [AV.int .i64 (cz l 180 8)]=({bq l with revert:=0,least:=0,share:=0}:Tb).cells:=(n2.ur (cz l 180 8)).2.2.1
       have s3:setCells ({bq l with revert:=0,least:=0,share:=0}:Tb).cells 119 [AV.int .i64 (cz l 181 8)]=({bq l with least:=0,share:=0}:Tb).cells:=(n3.ur (cz l 181 8)).2.2.2.1
       have s4:setCells ({bq l with least:=0,share:=0}:Tb).cells 120 [AV.int .i64 (cz l 182 12)]=({bq l with share:=0}:Tb).cells:=(n4.ur (cz l 182 12)).2.2.2.2
       have s5:setCells ({bq l with share:=0}:Tb).cells 130 [AV.int .i64 (cz l 183 4)]=(bq l).cells:=(n5.JC (cz l 183 4)).2
       have k0:=n0.len
       have k1:=n1.len
       have k2:=n2.len
       have k3:=n3.len
       have k4:=n4.len
       have k5:=n5.len
       rw[ci]
       generalize({bq l with extend:=0,gW:=0,start:=0,revert:=0,least:=0,share:=0}:Tb)=T0 at*
       generalize({bq l with gW:=0,start:=0,revert:=0,least:=0,share:=0}:Tb)=T1 at*
       generalize({bq l with start:=0,revert:=0,least:=0,share:=0}:Tb)=T2 at*
       generalize({bq l with revert:=0,least:=0,share:=0}:Tb)=T3 at*
       generalize({bq l with least:=0,share:=0}:Tb)=T4 at*
       generalize({bq l with share:=0}:Tb)=T5 at*
       have c0:117<=T0.cells.length:=ST
       have c1:118<=T1.cells.length:=ST
       have c2:119<=T2.cells.length:=ST
       have c3:120<=T3.cells.length:=ST
       have c4:121<=T4.cells.length:=ST
       have c5:131<=T5.cells.length:=ST
       try simp only[I,RY,↓KW,seval]
       refine af (hF _ _ _ Ts) ?_
       try simp only[I,RY,↓KW,seval,c0]
       refine af (hF _ _ _ Ts) ?_
       try simp only[I,RY,↓KW,seval,s0,c1]
       refine af (hF _ _ _ Ts) ?_
       try simp only[I,RY,↓KW,seval,s1,c2]
       refine af (hF _ _ _ Ts) ?_
       try simp only[I,RY,↓KW,seval,s2,c3]
       refine af (hF _ _ _ Ts) ?_
       try simp only[I,RY,↓KW,seval,s3,c4]
       refine af (hF _ _ _ Ts) ?_
       try simp only[I,RY,↓KW,seval,s4,s5,c5]
       have hT:cJ l=Er l (if gC t1 l N r r.toNat=[]then 0 else sL (bq l) N):=b6
       have ba:bq l=Er l (if gC t1 l N r r.toNat=[]then 0 else sL (bq l) 0):=by
        have:(if gC t1 l N r r.toNat=[]then(0:Int)else sL (bq l) 0)=0:=by split<;>rfl
        rw[this];rfl
       replace ba:=ne Tb.cells ba
       generalize gC t1 l N r r.toNat=R at*
       refine mL (.exit 12) (λ_:Unit=>(⟨[(3,.ptr 5 0),(2,.ptr 4 0)],[(5,⟨(cJ l).cells,[]⟩),(4,⟨mV.cells,[]⟩)],[],400⟩:S)) (λ_=>True) (λ_=>rfl) ?_ ?_
       ·refine aD (λk:Nat=>(⟨[(12,.dat (I k) none),(4,.dat (I N) none),(3,.ptr 5 0),(2,.ptr 4 0)],[(5,⟨(Er l (if R=[]then 0 else sL (bq l) k)).cells,[]⟩),(4,⟨mV.cells,[]⟩)],[],400⟩:S)) (λk=>N-k) (λk=>k<=N/\(R=[]->k=0)) ?_ 0 TB ?_
        ·intro k ⟨hk,dq⟩ A back
         have M:=aA (k:=k) ST
         have c6:∀w,qq (Er l w) k=qq (bq l) k:=λ_=>rfl
         have b0:sL (bq l) (k+1)=if qq (bq l) k>sL (bq l) k then qq (bq l) k else sL (bq l) k:=rfl
         generalize ar:(if R=[]then(0:Int)else sL (bq l) k)=wv at*
         have b3:(Er l wv).Ok:=Et rfl (fe l _) (dU _) (eJ l) (oW l) (rY l) (by have:=aP l 177 (n:=3) Ts Ts;simp only[Er,bq,aT,Bt];omega)
         have ln:=b3.ln
         have an:=ln.len
         have aa:=ln.whole
         have E:=ln.Cv
         have a5:=ln.acd
         have da:(Er l wv).aV=dJ R:=cu
         have co:(Er l wv).rR=wv:=rfl
         rw[da]at E;rw[co]at a5
         have D:setCells (Er l wv).cells 129 [AV.int .i64 (if qq (bq l) k>wv then qq (bq l) k else wv)]=(Er l (if qq (bq l) k>wv then qq (bq l) k else wv)).cells:=(ln.JC _).1
         have ct:=aT R
         try simp only[I,RY,↓KW,seval]
         repeat' (((first|refine bn ?_ ?_|refine aB ?_ ?_|refine bM ?_ ?_)<;>intro h)<;>try simp only[RY,↓KW,seval,E,ct,h])
         ·have a2:=dC h
          have bd:(k:Int)<N:=by rename_i h1;exact dC h1
          have a6:R≠[]:=by intro e;rw[e]at a2;simp at a2
          rw[ek a6]at ar;subst ar;rw[<-b0]at D;try simp only[I,RY,↓KW,seval,a5,aa]
          refine af (hw _ _ b3) ?_;try simp only[I,RY,↓KW,seval,c6,<-b0,D,gt_iff_lt]
          refine⟨ST,?_⟩
          refine back (k+1) _ ⟨ST,λe=>absurd e a6⟩ ST ?_
          refine ai Ts ?_ ?_ ?_ ?_<;>simp[LX,I,a6,M]
         ·have a2:=dE h
          have b5:R=[]:=nl ST
          rw[et b5]at ar hT;subst ar;refine ej () trivial ?_
          refine ai Ts ?_ ?_ ?_ ?_<;>simp[LX,hT]
         ·have bd:k=N:=by have:=dE h;omega
          rw[<-bd,ar]at hT;refine ej () trivial ?_
          refine ai Ts ?_ ?_ ?_ ?_<;>simp[LX,hT]
        ·refine ai Ts ?_ ?_ ?_ ?_<;>simp[LX,I,ba]
       ·intro _ _
        have bj:(cJ l).Ok:=Eu l
        have ch:=bj.ln.len
        have cr:=bj.ln.whole
        have ca:=b2.ln.len
        have ck:setCells mV.cells 0 (cJ l).cells=(cJ l).cells:=eI ST
        try simp only[RY,↓KW,seval,cr,ch,ca,ck]
end
section
variable (x y:Int) (t:Tb) (s:Int) {p:Nat} {α:Type} {f:α->List AV} {l:List α} (i:Nat) (n:Int)
def bv:BitVec 64:=BitVec.ofInt 64 s
def tb:Bool:=(bv s).getLsbD i
theorem JE:IntKind.i64.wrap n%18446744073709551616=n%18446744073709551616:=by
 simp only[IntKind.wrap,IntKind.bits,IntKind.signed];simp
 split<;>omega
theorem HO:bv (IntKind.i64.wrap n)=bv n:=by
 unfold bv
 apply BitVec.eq_of_toNat_eq
 have:=JE n
 simp only[LE]
 have e:((2^64:Nat):Int)=18446744073709551616:=Ts
 rw[e,this]
theorem HP(b:BitVec 64):bv (b.toNat:Int)=b:=by
 unfold bv;rw[BitVec.ofInt_natCast];simp
theorem bv_and:bv (bK .i64 x y)=bv x&&&bv y:=by
 simp only[bK,HO];exact HP _
theorem Wt:bv (rP .i64 x y)=bv x|||bv y:=by
 simp only[rP,HO];exact HP _
theorem Oz:bv (aJ .i64 x y)=bv x&&& ~~~(bv y):=by
 simp only[aJ,HO];exact HP _
theorem wrap_zero{b:BitVec 64}:IntKind.i64.wrap (b.toNat:Int)=0↔b=0:=by
 constructor
 ·intro h
  have:=JE (b.toNat:Int)
  rw[h]at this
  apply BitVec.eq_of_toNat_eq
  simp only[BitVec.toNat_zero,BitVec.ofNat_eq_ofNat]at*;omega
 ·rintro rfl;decide
theorem and_zero{x y:Int}:bK .i64 x y=0↔∀i,i<64->(tb x i&&tb y i)=false:=by
 rw[show bK .i64 x y=IntKind.i64.wrap ((bv x&&&bv y).toNat:Int)from rfl,wrap_zero]
 constructor
 ·intro h i A;have:=ne (λb=>b.getLsbD i) h;simpa[tb]using this
 ·intro h;apply xn;intro i A;simpa[tb]using h i A
theorem Cx{x y:Int}:aJ .i64 x y=0↔∀i,i<64->(tb x i&& !tb y i)=false:=by
 rw[show aJ .i64 x y=IntKind.i64.wrap ((bv x&&& ~~~(bv y)).toNat:Int)from rfl,wrap_zero]
 constructor
 ·intro h i A;have:=ne (λb=>b.getLsbD i) h;simpa[tb,A]using this
 ·intro h;apply xn;intro i A;simpa[tb,A]using h i A
theorem jK:tb (bK .i64 x y) i=(tb x i&&tb y i):=by simp[tb,bv_and]
theorem Cy:tb (rP .i64 x y) i=(tb x i||tb y i):=by simp[tb,Wt]
theorem gX(h:i<64):tb (aJ .i64 x y) i=(tb x i&& !tb y i):=by simp[tb,Oz,h]
theorem dr:tb 0 i=false:=by simp[tb,bv]
theorem iX:tb 255 i=decide (i<8):=by
 have:bv 255=255#64:=rfl
 simp only[tb,this,BitVec.getLsbD_ofNat]
 by_cases h:i<8
 ·have:i=0\/i=1\/i=2\/i=3\/i=4\/i=5\/i=6\/i=7:=ST
  rcases this with rfl|rfl|rfl|rfl|rfl|rfl|rfl|rfl<;>decide
 ·simp only[h,decide_false,Bool.and_eq_false_imp]
  intro _
  apply P0
  exact nm (by decide:255<2^8) (ml Ts ST)
theorem LD(A:p<8) (i:Nat):tb (2^p) i=decide (i=p):=by
 have e:bv (2^p)=BitVec.twoPow 64 p:=by
  have:p=0\/p=1\/p=2\/p=3\/p=4\/p=5\/p=6\/p=7:=ST
  rcases this with rfl|rfl|rfl|rfl|rfl|rfl|rfl|rfl<;>rfl
 simp only[tb,e,BitVec.getLsbD_twoPow]
 by_cases h:i=p<;>simp[h]
 ·omega
 ·omega
theorem Ev(A:p<8) (i:Nat):tb (jt p) i=decide (i=p):=by
 have:jt p=2^p:=by simp[jt];omega
 rw[this,LD A]
theorem kz{s:Int} (A:p<8):bD s p=tb s p:=by
 have h:bD s p=!(bK .i64 s (jt p)==0):=rfl
 rw[h]
 cases D:tb s p with
 |true=>
  have:¬bK .i64 s (jt p)=0:=by
   rw[and_zero];intro h;have:=h p ST;rw[D,Ev A]at this;simp at this
  simp[this]
 |false=>
  have:bK .i64 s (jt p)=0:=by
   rw[and_zero];intro i _
   by_cases B:i=p
   ·subst B;rw[D];rfl
   ·rw[Ev A];simp[B]
  simp[this]
theorem jE{s:Int} (A:p<8) (i:Nat):tb (bJ s p) i=(tb s i&&decide (i<8)||decide (i=p)):=by
 simp only[bJ,Cy,jK,iX,Ev A]
theorem MY(l:List Int):∀k,k<=8->∀i,tb (yo l k) i=(decide (i<k)&&decide ((i:Int)∈l))
 |0,_,i=>by simp[yo,dr]
 |k+1,h,i=>by
  have A:=MY l k ST i
  simp only[yo];split
  ·rename_i hk
   rw[Cy,A,LD ST]
   by_cases e:i=k
   ·subst e;simp[hk]
   ·have:(i<k+1)↔i<k:=ST
    simp[e,this]
  ·rename_i hk
   rw[A]
   by_cases e:i=k
   ·subst e;simp[hk]
   ·have:(i<k+1)↔i<k:=ST
    simp[this]
theorem Gz(l:List Int) (i:Nat):tb (SU l) i=(decide (i<8)&&decide ((i:Int)∈l)):=MY l 8 ST i
theorem yu(O:p<64):tb s p=decide (s.fdiv (2^p)%2=1):=by
 have e:(bv s).toNat=(s%18446744073709551616).toNat:=by
  simp only[bv,LE];rfl
 have E:tb s p=(bv s).toNat.testBit p:=rfl
 rw[E,e,Nat.testBit_eq_decide_div_mod_eq]
 congr 1
 have B:s.fdiv (2^p)=s/2^p:=Kp _ (Int.le_of_lt (Int.pow_pos Ts))
 rw[B,eq_iff_iff]
 have L:0<=s%18446744073709551616:=Int.emod_nonneg _ Ts
 have M:(((s%18446744073709551616).toNat/2^p%2:Nat):Int)=(s%18446744073709551616)/2^p%2:=by
  push_cast [sk L];rfl
 have key:(s%18446744073709551616)/2^p%2=s/2^p%2:=by
  have A:(18446744073709551616:Int)=2^p*(2*2^(63-p)):=by
   rw[show(2:Int)^p*(2*2^(63-p))=2^(p+(1+(63-p)))by rw[Int.pow_add,Int.pow_add];rfl,show p+(1+(63-p))=64 by omega];rfl
  have D:s=s%18446744073709551616+2^p*(2*2^(63-p)*(s/18446744073709551616)):=by
   have:=Int.emod_add_mul_ediv s 18446744073709551616
   rw[<-Int.mul_assoc,<-Int.mul_assoc,Int.mul_assoc (2^p),<-A];omega
  conv=>rhs;rw[D]
  rw[Int.add_mul_ediv_left _ _ (Int.ne_of_gt (Int.pow_pos Ts)),Int.mul_assoc,Int.add_mul_emod_self_left]
 rw[<-key,<-M];omega
theorem Ew:bK .i64 x 1=if tb x 0 then 1 else 0:=by
 have e:bK .i64 x 1=IntKind.i64.wrap ((bv x&&&1#64).toNat:Int):=rfl
 have B:bv x&&&1#64=if tb x 0 then 1#64 else 0#64:=by
  apply xn
  intro i D;simp only[GE,BitVec.getLsbD_one]
  by_cases h:i=0
  ·subst h;cases A:tb x 0<;>simp[tb]at A⊢<;>simp[A]
  ·split<;>simp[h,BitVec.getLsbD_one]
 rw[e,B];split<;>decide
theorem nr{s:Int} (B:p<8):pM s p=tb s p:=by
 have A:tb (s.fdiv (2^p)) 0=tb s p:=by
  rw[yu _ ST,yu _ ST]
  simp
 simp only[pM,ix,Ew,A]
 have:(p:Int)<8:=ST
 cases tb s p<;>simp[this]
theorem Ex(A:Int->Ph->Bool) (ps:List Ph):∀k,k<=8->∀i,tb (fy A ps k) i=(decide (i<k)&&((ps.getD i default).on&&A i (ps.getD i default)))
 |0,_,i=>by simp[fy,dr]
 |k+1,h,i=>by
  have B:=Ex A ps k ST i
  simp only[fy];split
  ·rename_i hk
   rw[jE ST,B]
   by_cases e:i=k
   ·subst e;simpa using hk
   ·have:(i<k+1)↔i<k:=ST
    simp[e,this];omega
  ·rename_i hk
   rw[B]
   by_cases e:i=k
   ·subst e;simp at hk⊢;exact hk
   ·have:(i<k+1)↔i<k:=ST
    simp[this]
theorem US:tb (oS t) i=(decide (i<8)&&(aO t i).on):=by
 rw[oS,Gz]
 by_cases h:i<8
 ·have:((i:Int)∈ic t 8)↔(aO t i).on=true:=by
   simp only[ic,px,i8,fp]
   exact⟨λh=>h.2,λA=>⟨⟨i,h,rfl⟩,A⟩⟩
  simp[h,this]
 ·simp[h]
theorem HQ:t.phases.getD i default=aO t i:=by simp[aO]
theorem jv{n:Nat} (h:∀k,(f k).length=n):∀x∈l.map f,x.length=n:=by
 intro x A;obtain⟨k,_,rfl⟩:=i8.1 A;exact h k
theorem pP{i:Nat} {x:List AV} (h:(l.map f)[i]? =some x):∃k,l[i]? =some k/\x=f k:=by
 rw[im,eg]at h;obtain⟨k,A,B⟩:=h;exact⟨k,A,B.symm⟩
theorem jw{C:aY} {g:bC} {ps wr:List Nat} {as R:br} {Q:Exit->S->Prop} {s:S} {B:AV} {xs:List (List AV)} (hd:α->S) (I:Nat->α->Prop) (L:C.i B xs) (hg:aM s g=some B) (A:∀x∈xs,x.length=ps.length) (D:∀y,aM (hd y) g=some B) (round:∀i x y,xs[i]? =some x->I i y->∀F:S->Prop,(∀z s,I (i+1) z->Le s (hd z)->Eng.down F s)->aw C as (IQ (aw C R (Py wr F Q))) (tO ps x (hd y))) (fin:∀y,I xs.length y->Q .normal (hd y)) (O:α) (E:I 0 O) (Z:Le s (hd O)):aw C (.C5 g ps wr as R) Q s:=
 Ux hd I hg L A (.inl Z) E D (λi x y hx V=>round i x y hx V _ λz s hz M=>rA M ⟨z,rfl,hz⟩) fin
end
section
open Z
def bw:List AV:=(⟨_,by conv=>lhs;cbv⟩:bE (SS [(0,7),(1,2),(0,3)])).1
def sM(A:Nat):bB:=(⟨_,by conv=>lhs;cbv⟩:bE (bH 24 [.tmp 6] [A] [0,1] 0xa180fc840c20fca08c3013238e17e45104021c3041420882710e0280be780088b0bc545e282f1317890bc445e202ff0ff46e66e10603811018b860c5f260606204143a4003213407b30 [[.int .i64 0]])).1
def sN(B E A D:Nat):bB:=(⟨_,by conv=>lhs;cbv⟩:bE (bH 34 [.tmp 8] [B,E,D] [0] 0xa424042000ca302223039805edd33c8d64213ca08c3040be24322f12fa88b90c0bf8146de42382f1b178d0bc645f6302f1717b8c0bc5c5e4180e104260243031f0b2f4c18bd3a60c5f4445f06031020a1d20650210200808202f1823a8bd388115e4d40c084369b409b40 [[.int .i64 0],[.int .i64 0,.int .i64 0]] [] [.A5 (.func A) [] [.t 4]])).1
def qy(B E A D:Nat):bB:=(⟨_,by conv=>lhs;cbv⟩:bE (bH 34 [.tmp 8] [B,A,D] [0,255] 0x5100ae420610ae50661809818206715723082010a0f8128e7901000b8be6a02e42c2fe051c790900bc7c5e3c2f1d178e0bc6c5e342f19178c0bc5c5f82c2f1517e8b0bc545e4180e104460243131f0b2f4c18bd3a60c5fbc3f06031020a3dc4a1d097870203300bd6c180084369b409b40 [[.int .i64 0],[.int .i64 0,.int .i64 0]] [.fn (.func E) [] []])).1
def uv(A:Nat):bB:=(⟨_,by conv=>lhs;cbv⟩:bE (bH 18 [.tmp 2] [A] [0,8,1] 0xa0804445e020080220034ee0316060022032709f0a082110a0f820016400f45481405cc258104868c0480e01c0608180c100181a20)).1
def sO(B D A:Nat):bB:=(⟨_,by conv=>lhs;cbv⟩:bE (bH 66 [.cell 10 (some 6)] [B,D,A] [0,15,1] 0x560ae56be920614051460885f1020ef1673c17818410170bc1428e04251fc882b901529672b7e1a0244283e441460543ce10446e5e2f9f00a028a60442f888808c10508220dc59c39c985e091040402f0010f0f8c10508220dc44845e060271721f17f028f484785ff0020802f3f179f0bcf45e782f2e179d8bce85e722f38179b8bcd85e6a2f3417998bcc85e622f3017978bcb45e582f2b17950bca45e502f2717930bc805e4a2f2417918bc885e422fdc1f178f0bc945e3e2f1e1790603890223418bd7a480d848156f88044c08b7c4a2087c2206c204156f88841138a8bc0206c282fe050b780aa0a1060115b88090c0cfc8cdd3062fbd0900a7c6a340bb40 [[.int .i64 0,.int .i64 0,.int .i64 0,.int .i64 0,.int .i64 0,.int .i64 0],[.int .i64 0,.int .i64 0]])).1
def sP(A:Nat):bB:=(⟨_,by conv=>lhs;cbv⟩:bE (bH 6 [.tmp 4] [] [] 0x142001c401b0b405b30 [] [.jf] [.A5 (.func A) [] [.t 2,.t 3]])).1
def qA(A:Nat):bB:=⟨21,[.tmp 4],r [o 2 (w 0),V 4 (i 0)] (r [V 5 (i 0)] (j (r [o 8 (L 2 96),V 9 (i 0)] (u 0 (.loop (r [o 10 (bb .lss 9 (i 8))] (j (c 10 z (.exit 0)) (j (u 1 (r [M 11 9,o 12 (.KO (t 8) (t 9) 8 12 (some 12)),o 7 (.alloc bw),M 6 11,n (s 7 12 12)] (r [M 13 1,o 14 (L 7 12),o 15 (.kN (t 13) [t 14])] (c 15 (R [M 16 5,M 17 6,o 18 (.call A [t 16,t 17]),M 5 18]) z)))) (R [o 19 (bb .add 9 (i 1)),M 9 19]))))))) (r [M 20 5,M 4 20] y)))⟩
def oX:bB:=(⟨_,by conv=>lhs;cbv⟩:bE (bH 14 [.tmp 3] [] [1] 0xa0c1428e09b241b5d05e3d2816b50a0102141f04022b09805b20)).1
def oc:bB:=(⟨_,by conv=>lhs;cbv⟩:bE (bH 6 [.tmp 2] [] [1] 0x504002141f0402240981a20)).1
def sQ:bB:=(⟨_,by conv=>lhs;cbv⟩:bE (bH 7 [.tmp 2] [] [0,1] 0xa080240062e0720a8004810 [] [] [.mm true [.t 3,.k (.int .i64 0)],.mm false [.t 4,.k (.int .i64 9999)]])).1
end
section
open Z
def wU:bB:=(⟨_,by conv=>lhs;cbv⟩:bE (bH 15 [.tmp 2,.tmp 3] [] [0] 0xab01005c0e02e4376060659801208010243f410e3c38cb058087010178d85c0e6004820 [] [.float .f64 0,.float .f64 4652006429231887155,.float .f64 4621819117588971520] [.xt .rte (.t 12),.Hf .i64 (.t 13)])).1
def uw:bB:=(⟨_,by conv=>lhs;cbv⟩:bE (bH 36 [.tmp 2,.tmp 3] [] [0,2,1] 0xab0100118bc060c14044006bc262080c605fc7a0d913e44151fc482192f0b0ae7c0d27db8b809f0f0f8c0b0bc16061800823172f09121781402801c0405e0300802e0437c030659801208010243f410e3c38c83858087010178db81c0e6004820 [] [.float .f64 0,.float .f64 4652006429231887155,.float .f64 4621819117588971520,.float .f64 4602678819172646912] [.Hf .i64 (.t 16),.Dw .f64 (.t 19)])).1
end
open Ieee
set_option exponentiation.threshold 4000
section
variable (n N d q:Nat)
def tF:Nat:=n/2^d+(if 2^d<2*(n%2^d)\/(2^d=2*(n%2^d)/\n/2^d%2=1)then 1 else 0)
theorem bY:0<2^d:=Nat.two_pow_pos d
theorem Q1:tF n d<=n/2^d+1:=by unfold tF;split<;>omega
theorem LF:n/2^d<=tF n d:=by unfold tF;omega
theorem Q2:tF n 0=n:=by simp[tF,Nat.mod_one]
theorem nD(k:Nat):tF (n*2^k) (d+k)=tF n d:=by
 unfold tF;rw[kf,Nat.mul_div_mul_right _ _ (bY k),Nat.mul_mod_mul_right]
 have hk:=bY k
 have B:(2^d*2^k<2*(n%2^d*2^k))↔(2^d<2*(n%2^d)):=by
  rw[<-lw];exact Nat.mul_lt_mul_right hk
 have A:(2^d*2^k=2*(n%2^d*2^k))↔(2^d=2*(n%2^d)):=by
  rw[<-lw];exact Nat.mul_left_inj ST
 simp only[B,A]
theorem zG{n A:Nat} (h:n<=A) (d:Nat):tF n d<=tF A d:=by
 have L:=bY d
 have M:n/2^d<=A/2^d:=Nat.div_le_div_right h
 by_cases B:n/2^d=A/2^d
 ·unfold tF
  rw[B]
  have D:=yn n (2^d)
  have E:=yn A (2^d)
  rw[B]at D
  have O:n%2^d<=A%2^d:=ST
  split<;>split<;>omega
 ·have D:=Q1 n d
  have E:=LF A d
  omega
theorem OA{n d:Nat}:tF (q*2^d) d=q:=by
 have:=nD q 0 d
 rw[la,Q2]at this;exact this
theorem qB:n<2^(n.log2+1):=Nat.lt_log2_self
theorem JF(s:Bool) (n d:Nat):Toward.even.cut s n d=tF n d:=by
 unfold Toward.cut;simp only[Nat.one_shiftLeft]
 by_cases hd:d<=n.log2+2
 ·rw[Nat.min_eq_left hd]
  unfold tF
  congr 1
  by_cases B:2^d<2*(n%2^d)
  ·simp[B]
  ·by_cases A:2^d=2*(n%2^d)
   ·by_cases D:n/2^d%2=1
    ·simp[<-A,D]
    ·simp[<-A,D]
   ·simp[B,A]
 ·rw[Nat.min_eq_right ST]
  have hl:=qB n
  have A:2^(n.log2+2)=2*2^(n.log2+1):=by rw[Nat.pow_succ,pd]
  have aa:2^(n.log2+2)<=2^d:=ml ST ST
  have L:n/2^(n.log2+2)=0:=xc ST
  have Z:n%2^(n.log2+2)=n:=xa ST
  have M:n/2^d=0:=xc ST
  have O:n%2^d=n:=xa ST
  unfold tF;rw[L,Z,M,O]
  have c1:¬(2^(n.log2+2)<2*n):=ST
  have E:¬(2^(n.log2+2)=2*n):=ST
  have R:¬(2^d<2*n):=ST
  have V:¬(2^d=2*n):=ST
  simp[c1,E,R,V]
def rV(r:Nat):Nat:=if r<2^52 then r else(2^52+r%2^52)*2^(r/2^52-1)
theorem HR{r A:Nat} (h:r<=A):rV r<=rV A:=by
 unfold rV
 have hd:r/2^52<=A/2^52:=Nat.div_le_div_right h
 have hm:=IO r (bY 52)
 have E:=IO A (bY 52)
 split
 ·split
  ·exact h
  ·have:1<=2^(A/2^52-1):=bY _
   calc r<=2^52+A%2^52:=by omega
    _=(2^52+A%2^52)*1:=by omega
    _<=_:=wt _ this
 ·split
  ·omega
  ·by_cases B:r/2^52=A/2^52
   ·rw[B]
    have D:=yn r (2^52)
    have L:=yn A (2^52)
    rw[B]at D
    exact ik _ ST
   ·have M:1<=r/2^52:=by
     have:2^52<=r:=ST
     exact(QQ (bY 52)).2 ST
    calc (2^52+r%2^52)*2^(r/2^52-1)<=2^53*2^(r/2^52-1):=ik _ ST
     _=2^52*2^(r/2^52):=by rw[<-kf,<-kf];congr 1;omega
     _<=2^52*2^(A/2^52-1):=wt _ (ml ST ST)
     _<=_:=ik _ ST
def Lg:Nat:=max (N.log2-52) 1126
def Rg:Nat:=if N=0 then 0 else min ((Lg N-1126)*2^52+tF N (Lg N)) (2047*2^52)
theorem ace{N N':Nat} (A:N≠0) (h:N<=N'):Lg N<=Lg N':=by
 have:N.log2<=N'.log2:=(Nat.le_log2 ST).2 (ka (PH A) h)
 unfold Lg;omega
theorem acf:N<2^(Lg N+53):=nm (qB N) (ml ST (by unfold Lg;omega))
theorem acg:N/2^Lg N<2^53:=by
 rw[Nat.div_lt_iff_lt_mul (bY _),<-kf,Nat.add_comm];exact acf N
theorem Wu{N:Nat} (h:N≠0) (hL:1126<Lg N):2^52<=N/2^Lg N:=by
 rw[QQ (bY _),<-kf]
 refine ka (ml ST ?_) (PH h)
 unfold Lg at hL⊢;omega
theorem HS{N N':Nat} (h:N<=N'):Rg N<=Rg N':=by
 unfold Rg
 by_cases D:N=0
 ·simp[D]
 ·have A:N'≠0:=ST
  rw[ek D,ek A]
  have hL:=ace D h
  suffices(Lg N-1126)*2^52+tF N (Lg N)<=(Lg N'-1126)*2^52+tF N' (Lg N')by omega
  by_cases B:Lg N=Lg N'
  ·rw[B];have:=zG h (Lg N');omega
  ·have M:=acg N
   have E:=Q1 N (Lg N)
   have R:2^52<=N'/2^Lg N':=Wu A (by unfold Lg at B hL⊢;omega)
   have L:=LF N' (Lg N')
   have O:(Lg N-1126)+1<=Lg N'-1126:=by unfold Lg at B hL⊢;omega
   omega
theorem Q3{N:Nat} (h:N=q*2^Lg N) (hb:N<2^3150):Rg N<2047*2^52/\rV (Rg N)*2^1126=N:=by
 by_cases D:N=0
 ·subst D;simp[Rg,rV]
 ·have hp:=bY (Lg N)
  have Z:N/2^Lg N=q:=by
   have:q*2^Lg N/2^Lg N=q:=IN _ hp
   rw[<-h]at this;exact this
  have hr:tF N (Lg N)=q:=by
   have:tF (q*2^Lg N) (Lg N)=q:=OA (n:=0) q
   rw[<-h]at this;exact this
  have B:=acg N
  rw[Z]at B
  have hL:Lg N<=3098:=by
   have:N.log2<3150:=(Nat.log2_lt D).2 hb
   unfold Lg;omega
  have O:(Lg N-1126)*2^52+q<2047*2^52:=ST
  have M:Rg N=(Lg N-1126)*2^52+q:=by unfold Rg;rw[ek D,hr];omega
  rw[M];refine⟨O,?_⟩
  have key:rV ((Lg N-1126)*2^52+q)=q*2^(Lg N-1126):=by
   by_cases A:Lg N=1126
   ·rw[A]
    simp only[Nat.sub_self,Nat.zero_mul,la,Hk,pb];unfold rV;split
    ·rfl
    ·have E:q/2^52=1:=ST
     have L:q%2^52=q-2^52:=ST
     rw[E,L];omega
   ·have R:1126<Lg N:=by unfold Lg at A⊢;omega
    have V:=Wu D R
    rw[Z]at V;unfold rV
    have E:((Lg N-1126)*2^52+q)/2^52-1=Lg N-1126:=ST
    have L:2^52+((Lg N-1126)*2^52+q)%2^52=q:=ST
    rw[ek ST,E,L]
  rw[key,lw,<-kf]
  have:Lg N-1126+1126=Lg N:=by
   have:1126<=Lg N:=by unfold Lg;omega
   omega
  rw[this];exact h.symm
theorem Ey{m k:Nat} (hm:m<2^53) (hk:1126<=k) (E:k<=3090):Rg (m*2^k)<2047*2^52/\rV (Rg (m*2^k))*2^1126=m*2^k:=by
 by_cases A:m=0
 ·subst A;simp[Rg,rV]
 ·have M:(m*2^k).log2=m.log2+k:=by
   have B:m*2^k≠0:=Nat.mul_ne_zero A (by have:=bY k;omega)
   apply Nat.le_antisymm
   ·have:(m*2^k).log2<m.log2+k+1:=(Nat.log2_lt B).2 (by
     rw[show m.log2+k+1=(m.log2+1)+k by omega,kf]
     exact Ax (qB m) (bY k))
    omega
   ·exact(Nat.le_log2 B).2 (by rw[kf];exact ik _ (PH A))
  have D:m.log2<=52:=by have:=(Nat.log2_lt A).2 hm;omega
  have L:Lg (m*2^k)<=k:=by unfold Lg;omega
  refine Q3 (m*2^(k-Lg (m*2^k))) ?_ ?_
  ·rw[lw,<-kf];congr 2;omega
  ·have:=qB (m*2^k)
   refine nm this (ml ST ST)
end
open Ieee
set_option exponentiation.threshold 4000
section
variable (m n:Nat) {x y:Nat} (a r:Nat) (s:Bool)
abbrev DF:Format:=Ieee.double
theorem lH:DF.binade=2^52:=rfl
theorem lT:DF.signWeight=2^63:=rfl
theorem Bu:DF.infRung=2047*2^52:=rfl
theorem qC:DF.leastPlace=-1074:=by decide
theorem UT:DF.fractionBits=52:=rfl
def yP:Nat:=if r<2^52 then r else 2^52+r%2^52
def jx:Nat:=if r<2^52 then 0 else r/2^52-1
theorem lI:rV r=yP r*2^jx r:=by unfold rV yP jx;split<;>simp
theorem Q4:yP r<2^53:=by unfold yP;split<;>omega
theorem iC{r:Nat} (h:r<2047*2^52):DF.read r=.number false (yP r) (-1074+(jx r:Int)):=by
 have A:r/2^63%2=0:=ST
 have B:r%2^63=r:=ST
 unfold Format.read;simp only[lH,lT,Bu,qC,A,B];unfold yP jx;split
 ·simp
 ·simp[]
theorem Q5{r:Nat} (h:r<2047*2^52):DF.read (2^63+r)=.number true (yP r) (-1074+(jx r:Int)):=by
 have A:(2^63+r)/2^63%2=1:=ST
 have B:(2^63+r)%2^63=r:=ST
 unfold Format.read;simp only[lH,lT,Bu,qC,A,B];unfold yP jx;split
 ·simp
 ·simp[]
theorem LG(m:Nat) (p:Int) (hp:-2200<=p):DF.nearest s m p=DF.word s (Rg (m*2^(p+2200).toNat)):=by
 unfold Format.nearest
 by_cases B:m=0
 ·simp[B,Rg]
 ·rw[ek B]
  obtain⟨k,hk⟩:∃k:Nat,p=(k:Int)-2200:=⟨(p+2200).toNat,ST⟩
  subst hk
  have R:((k:Int)-2200+2200).toNat=k:=ST
  rw[R]
  have E:m*2^k≠0:=Nat.mul_ne_zero B (by have:=bY k;omega)
  have V:(m*2^k).log2=m.log2+k:=by
   apply Nat.le_antisymm
   ·have:(m*2^k).log2<m.log2+k+1:=(Nat.log2_lt E).2 (by
     rw[show m.log2+k+1=(m.log2+1)+k by omega,kf]
     exact Ax (qB m) (bY k))
    omega
   ·exact(Nat.le_log2 E).2 (by rw[kf];exact ik _ (PH B))
  have A:max ((k:Int)-2200+m.log2-(DF.fractionBits:Nat)) DF.leastPlace=(Lg (m*2^k):Int)-2200:=by
   rw[qC,UT];unfold Lg;rw[V];omega
  simp only[A];simp only[JF,qC,lH,Bu]
  have hg:1126<=Lg (m*2^k):=by unfold Lg;omega
  have O:((Lg (m*2^k):Int)-2200- -1074).toNat=Lg (m*2^k)-1126:=ST
  have Z:tF (m<<<((k:Int)-2200-((Lg (m*2^k):Int)-2200)).toNat) ((Lg (m*2^k):Int)-2200-((k:Int)-2200)).toNat=tF (m*2^k) (Lg (m*2^k)):=by
   rw[pB];generalize Lg (m*2^k)=L
   by_cases M:L<=k
   ·have a1:((k:Int)-2200-((L:Int)-2200)).toNat=k-L:=ST
    have D:((L:Int)-2200-((k:Int)-2200)).toNat=0:=ST
    rw[a1,D]
    have:=nD (m*2^(k-L)) 0 L
    rw[la,lw,<-kf,pu M]at this;exact this.symm
   ·have a1:((k:Int)-2200-((L:Int)-2200)).toNat=0:=ST
    have D:((L:Int)-2200-((k:Int)-2200)).toNat=L-k:=ST
    rw[a1,D,Hk,pb]
    have:=nD m (L-k) k
    rw[pu ST]at this
    exact this.symm
  rw[O,Z];unfold Rg;rw[ek E]
theorem Q6:DF.word false r=r:=by unfold Format.word;simp
theorem lJ(p:Int) (A:-2200<=p):DF.write (.number false m p)=Rg (m*2^(p+2200).toNat):=by
 show DF.nearest false m p=_
 rw[LG _ _ _ A,Q6]
def Fin:Prop:=r<2047*2^52
def Pg:Nat:=4621819117588971520
theorem HT:DF.read Pg=.number false (5*2^50) (-49):=by decide
theorem Q7{r:Nat} (h:Fin r):DF.mul Pg r=some (Rg (10*rV r*2^1126))/\DF.mul r Pg=some (Rg (10*rV r*2^1126)):=by
 have e:5*2^50*yP r*2^((-49+(-1074+(jx r:Int)))+2200).toNat=10*rV r*2^1126:=by
  have:((-49+(-1074+(jx r:Int)))+2200).toNat=jx r+1077:=ST
  rw[this,lI,show(2:Nat)^1126=2^49*2^1077 by rw[<-kf],kf,show 5*2^50=10*2^49 by decide]
  simp only[lw,Nat.mul_left_comm,pd]
 constructor
 ·unfold Format.mul
  rw[HT,iC h];simp only[Datum.product,ma,Bool.xor_false]
  rw[lJ _ _ ST,e]
 ·unfold Format.mul
  rw[HT,iC h];simp only[Datum.product,ma,Bool.xor_false]
  rw[lJ _ _ ST,pd (yP r),Int.add_comm (-1074+(jx r:Int)) (-49),e]
theorem UU(b:Nat):(Datum.number false m (-1074+(a:Int))).sum (.number false n (-1074+(b:Int)))=some (.number false (m*2^(a-min a b)+n*2^(b-min a b)) (-1074+(min a b:Nat))):=by
 have A:min (-1074+(a:Int)) (-1074+(b:Int))=-1074+((min a b:Nat):Int):=ST
 have B:((-1074+(a:Int))-(-1074+((min a b:Nat):Int))).toNat=a-min a b:=ST
 have L:((-1074+(b:Int))-(-1074+((min a b:Nat):Int))).toNat=b-min a b:=ST
 simp only[Datum.sum,A,B,L,signed,ev,ib,pB];generalize m*2^(a-min a b)=x;generalize n*2^(b-min a b)=y
 have E:¬((x:Int)+(y:Int)<0):=ST
 have D:((x:Int)+(y:Int)).natAbs=x+y:=ST
 rw[D];simp[E]
theorem UW(b:Nat) (h:n*2^b<=m*2^a):(Datum.number false m (-1074+(a:Int))).sum (.number true n (-1074+(b:Int)))=some (.number false (m*2^(a-min a b)-n*2^(b-min a b)) (-1074+(min a b:Nat))):=by
 have B:min (-1074+(a:Int)) (-1074+(b:Int))=-1074+((min a b:Nat):Int):=ST
 have D:((-1074+(a:Int))-(-1074+((min a b:Nat):Int))).toNat=a-min a b:=ST
 have M:((-1074+(b:Int))-(-1074+((min a b:Nat):Int))).toNat=b-min a b:=ST
 simp only[Datum.sum,B,D,M,signed,ev,ib,kh,pB]
 have O:n*2^(b-min a b)<=m*2^(a-min a b):=by
  have A:=bY (min a b)
  refine IR ?_ A
  rw[lw,lw,<-kf,<-kf,pu ST,pu ST]
  exact h
 generalize m*2^(a-min a b)=x at*;generalize n*2^(b-min a b)=y at*
 have L:¬((x:Int)+ -(y:Int)<0):=ST
 have E:((x:Int)+ -(y:Int)).natAbs=x-y:=ST
 rw[E];simp[L]
theorem scl(c:Nat) (h:c<=a):m*2^(a-c)*2^(c+1126)=m*2^a*2^1126:=by
 rw[lw,<-kf,lw,<-kf,show a-c+(c+1126)=a+1126 by omega]
theorem add_pos(B:Fin x) (A:Fin y):DF.add x y=some (Rg ((rV x+rV y)*2^1126)):=by
 unfold Format.add
 rw[iC B,iC A,UU,ma,lJ _ _ ST]
 have e:((-1074+((min (jx x) (jx y):Nat):Int))+2200).toNat=min (jx x) (jx y)+1126:=ST
 rw[e,Nat.add_mul,scl _ _ _ ST,scl _ _ _ ST,<-lI,<-lI,<-Nat.add_mul]
theorem sub_pos(B:Fin x) (A:Fin y) (h:rV y<=rV x):DF.sub x y=some (Rg ((rV x-rV y)*2^1126)):=by
 unfold Format.sub;rw[iC B,iC A];simp only[Datum.opposite,fx];rw[lI,lI]at h
 rw[UW _ _ _ _ h,ma,lJ _ _ ST]
 have e:((-1074+((min (jx x) (jx y):Nat):Int))+2200).toNat=min (jx x) (jx y)+1126:=ST
 rw[e,Nat.sub_mul,scl _ _ _ ST,scl _ _ _ ST,<-lI,<-lI,<-Nat.sub_mul]
def KS:Nat:=Rg (n*2^2200)
theorem Cz:Go.FloatKind.f64.nearest (n:Int)=KS n:=by
 show DF.write (.number (decide ((n:Int)<0)) (n:Int).natAbs 0)=_
 have A:decide ((n:Int)<0)=false:=TB
 rw[A,Int.natAbs_natCast,lJ _ _ ST,show((0:Int)+2200).toNat=2200 by omega]
 unfold KS;with_reducible rfl
theorem HU{n:Nat} (h:n<2^53):Fin (KS n)/\rV (KS n)=n*2^1074:=by
 have A:(1126:Nat)<=2200:=Ts
 obtain⟨B,E⟩:=Ey (m:=n) (k:=2200) h ST ST
 refine⟨B,?_⟩;unfold KS
 have D:=bY 1126
 refine Kd D ?_;rw[E,lw,<-kf]
theorem YW{a:Nat} (h:a<2^53):Fin (Rg (a*2^1064*2^1126))/\rV (Rg (a*2^1064*2^1126))=a*2^1064:=by
 have e:a*2^1064*2^1126=a*2^2190:=by rw[lw,<-kf]
 obtain⟨A,D⟩:=Ey (k:=2190) h ST ST
 rw[e];refine⟨A,?_⟩
 have B:=bY 1126
 refine Kd B ?_;rw[D,e]
theorem Dg{N a b:Nat} (B:a*2^1064*2^1126<=N) (D:N<=b*2^1064*2^1126) (h:b<2^53):Fin (Rg N)/\a*2^1064<=rV (Rg N)/\rV (Rg N)<=b*2^1064:=by
 have A:a<2^53:=by
  have:a*(2^1064*2^1126)<=b*(2^1064*2^1126):=by rw[<-lw,<-lw];exact ka B D
  have:=IR this (Nat.mul_pos (bY _) (bY _))
  omega
 obtain⟨V,E⟩:=YW A;obtain⟨O,L⟩:=YW h
 have R:=HS B
 have M:=HS D
 refine⟨?_,?_,?_⟩
 ·unfold Fin at O⊢;omega
 ·rw[<-E];exact HR R
 ·rw[<-L];exact HR M
theorem YX:tF (m<<<(-1074+(a:Int)).toNat) (-(-1074+(a:Int))).toNat=tF (m*2^a) 1074:=by
 rw[pB]
 by_cases h:1074<=a
 ·have B:(-1074+(a:Int)).toNat=a-1074:=ST
  have A:(-(-1074+(a:Int))).toNat=0:=ST
  rw[B,A]
  have:=nD (m*2^(a-1074)) 0 1074
  rw[la,lw,<-kf,pu h]at this;exact this.symm
 ·have B:(-1074+(a:Int)).toNat=0:=ST
  have A:(-(-1074+(a:Int))).toNat=1074-a:=ST
  rw[B,A,Hk,pb]
  have:=nD m (1074-a) a
  rw[pu ST]at this
  exact this.symm
theorem UX{r:Nat} (h:Fin r):DF.write ((DF.read r).integral .even)=KS (tF (rV r) 1074):=by
 rw[iC h];simp only[Datum.integral,JF,YX]
 rw[lJ _ _ ST,<-lI,show((0:Int)+2200).toNat=2200 by omega]
 unfold KS;with_reducible rfl
theorem Q8(n d:Nat):Toward.zero.cut s n d=n/2^d:=by
 unfold Toward.cut;simp only[Nat.one_shiftLeft,Bool.toNat_false,pm]
 by_cases hd:d<=n.log2+2
 ·rw[Nat.min_eq_left hd]
 ·rw[Nat.min_eq_right ST]
  have B:=qB n
  have D:2^(n.log2+2)=2*2^(n.log2+1):=by rw[Nat.pow_succ,pd]
  have A:2^(n.log2+2)<=2^d:=ml ST ST
  rw[xc ST,xc ST]
theorem GA{r:Nat} (h:Fin r):(DF.read r).toInt .zero=some ((rV r/2^1074:Nat):Int):=by
 rw[iC h,lI];unfold Datum.toInt;simp only[Datum.integral,Q8,pB,signed,ev,ib,Hk,pb]
 congr 2
 generalize jx r=a;generalize yP r=m
 by_cases h:1074<=a
 ·have B:(-1074+(a:Int)).toNat=a-1074:=ST
  have A:(-(-1074+(a:Int))).toNat=0:=ST
  rw[B,A,Hk,Nat.div_one]
  have:m*2^a=m*2^(a-1074)*2^1074:=by rw[lw,<-kf,pu h]
  rw[this,IN _ (bY _)]
 ·have B:(-1074+(a:Int)).toNat=0:=ST
  have A:(-(-1074+(a:Int))).toNat=1074-a:=ST
  rw[B,A,Hk,pb]
  have:m*2^a/2^1074=m*2^a/(2^(1074-a)*2^a):=by rw[<-kf,pu ST]
  rw[this,Nat.mul_div_mul_right _ _ (bY _)]
theorem OB{n:Nat} (h:n<2^53):(DF.read (KS n)).toInt .zero=some (n:Int):=by
 obtain⟨A,B⟩:=HU h;rw[GA A,B,IN _ (bY _)]
end
section
variable {a b:Int} {m r:Nat} {s:Bool} (x:Nat)
def key:Option Int:=
 match DF.read x with
 | .nan ..=>none
 | .infinity s=>some (if s then -(2^2200:Nat)else(2^2200:Nat))
 | .number s m i=>some (signed s m (i+1074).toNat)
theorem ux{i:Int} (h:DF.read x=.number s m i):-1074<=i/\i<=971/\m<2^53:=by
 unfold Format.read at h;dsimp only at h;split at h
 ·rename_i A
  cases h;rw[lT,lH]at A;rw[lT,qC];omega
 ·split at h
  ·rename_i A B
   cases h;rw[lT,Bu]at B;rw[lT,qC,lH];omega
  ·split at h<;>cases h
theorem zH(s:Bool) (m a b:Nat):signed s m (a+b)=signed s m a*((2^b:Nat):Int):=by
 have e:((m<<<(a+b):Nat):Int)=((m<<<a:Nat):Int)*((2^b:Nat):Int):=by
  rw[pB,pB,kf,<-lw,Int.natCast_mul]
 unfold signed;cases s
 ·simp only[ev,ib];exact e
 ·simp only[kh,e,Int.neg_mul]
theorem OC(a b:Int) (k:Nat):compare (a*((2^k:Nat):Int)) (b*((2^k:Nat):Int))=compare a b:=by
 have B:(0:Int)<((2^k:Nat):Int):=by have:=bY k;omega
 have A:(a*((2^k:Nat):Int)<b*((2^k:Nat):Int))↔a<b:=Int.mul_lt_mul_right B
 have D:(a*((2^k:Nat):Int)=b*((2^k:Nat):Int))↔a=b:=⟨λh=>Int.eq_of_mul_eq_mul_right ST h,λh=>by rw[h]⟩
 simp only[compare,compareOfLessAndEq,A,D]
theorem GB{a:Nat} (hm:m<2^53) (B:a<=2045):-((2^2200:Nat):Int)<signed s m a/\signed s m a<((2^2200:Nat):Int):=by
 have A:m*2^a<2^53*2^2045:=nm (Ax hm (bY a)) (wt _ (ml ST B))
 have D:2^53*2^2045<=2^2200:=by rw[<-kf];exact ml ST ST
 have E:m*2^a<2^2200:=nm A D
 unfold signed;rw[pB];generalize m*2^a=z at*;generalize 2^2200=w at*
 cases s<;>simp<;>omega
def yw:Option Int->Option Int->Option Ordering
 |some a,some b=>some (compare a b)
 |_,_=>none
theorem uy(h:a<b):compare a b=.lt:=by simp[compare,compareOfLessAndEq,h]
theorem uz(h:b<a):compare a b=.gt:=by
 have A:¬a<b:=ST
 have B:¬a=b:=ST
 simp[compare,compareOfLessAndEq,A,B]
theorem yx(h:a=b):compare a b=.eq:=by simp[compare,compareOfLessAndEq,h]
theorem qD(y:Nat):DF.order x y=yw (key x) (key y):=by
 have Z:(0:Int)<((2^2200:Nat):Int):=by have:=bY 2200;omega
 unfold Format.order key
 cases V:DF.read x with
 |nan s t=>cases DF.read y<;>rfl
 |infinity s=>
  cases B:DF.read y with
  |nan _ _=>rfl
  |infinity t=>
   simp only[Datum.order,yw];generalize((2^2200:Nat):Int)=w at*
   cases s<;>cases t<;>simp only[ev,ib,kh]
   ·rw[yx rfl];rfl
   ·rw[uz ST];rfl
   ·rw[uy ST];rfl
   ·rw[yx rfl];rfl
  |number t n j=>
   obtain⟨L,O,D⟩:=ux y B
   obtain⟨E,A⟩:=GB (s:=t) (a:=(j+1074).toNat) D ST
   simp only[Datum.order,yw];generalize((2^2200:Nat):Int)=w at*
   cases s<;>simp only[ev,ib,kh]
   ·rw[uz A]
   ·rw[uy E]
 |number s m i=>
  obtain⟨L,O,D⟩:=ux x V
  cases B:DF.read y with
  |nan _ _=>rfl
  |infinity t=>
   obtain⟨E,A⟩:=GB (s:=s) (a:=(i+1074).toNat) D ST
   simp only[Datum.order,yw];generalize((2^2200:Nat):Int)=w at*
   cases t<;>simp only[ev,ib,kh]
   ·rw[uy A]
   ·rw[uz E]
  |number t n j=>
   obtain⟨d1,d2,d3⟩:=ux y B;simp only[Datum.order,yw]
   have M:(i+1074).toNat=(i-min i j).toNat+(min i j+1074).toNat:=ST
   have R:(j+1074).toNat=(j-min i j).toNat+(min i j+1074).toNat:=ST
   rw[M,R,zH,zH,OC]
theorem lU(h:Fin r):key r=some (rV r:Int):=by
 unfold key;rw[iC h];simp only[signed,ev,ib,pB]
 rw[lI,show((-1074+(jx r:Int))+1074).toNat=jx r by omega]
theorem MZ(h:Fin r):key (2^63+r)=some (-(rV r:Int)):=by
 unfold key;rw[Q5 h];simp only[signed,kh,pB]
 rw[lI,show((-1074+(jx r:Int))+1074).toNat=jx r by omega]
end
open Ieee
set_option exponentiation.threshold 4000
section
variable (x y:Nat)
def uA:Nat:=4652006429231887155
def rZ:Nat:=4584304132692975288
def YY:Nat:=4602678819172646912
def JG:Bool:=DF.order x y==some .gt||DF.order x y==some .eq
def IG:Bool:=DF.order x y==some .lt||DF.order x y==some .eq
def ltF:Bool:=DF.order x y==some .lt
def UY:Bool:=DF.order x y==some .gt
def eqF:Bool:=DF.order x y==some .eq
def Z5:Option Int->Option Int->Bool
 |some a,some b=>decide (a<=b)
 |_,_=>false
def Z6:Option Int->Option Int->Bool
 |some a,some b=>decide (a<b)
 |_,_=>false
theorem UZ:IG x y=Z5 (key x) (key y):=by
 unfold IG;rw[qD]
 cases key x<;>cases key y<;>try rfl
 rename_i a b;simp only[yw,Z5]
 rcases OF a b with h|h|h
 ·rw[uy h];simp;omega
 ·rw[yx h];simp;omega
 ·rw[uz h];simp;omega
theorem U0:JG x y=Z5 (key y) (key x):=by
 unfold JG;rw[qD]
 cases key x<;>cases key y<;>try rfl
 rename_i a b;simp only[yw,Z5]
 rcases OF a b with h|h|h
 ·rw[uy h];simp;omega
 ·rw[yx h];simp;omega
 ·rw[uz h];simp;omega
theorem U1:ltF x y=Z6 (key x) (key y):=by
 unfold ltF;rw[qD]
 cases key x<;>cases key y<;>try rfl
 rename_i a b;simp only[yw,Z6]
 rcases OF a b with h|h|h
 ·rw[uy h];simp;omega
 ·rw[yx h];simp;omega
 ·rw[uz h];simp;omega
theorem U2:UY x y=Z6 (key y) (key x):=by
 unfold UY;rw[qD]
 cases key x<;>cases key y<;>try rfl
 rename_i a b;simp only[yw,Z6]
 rcases OF a b with h|h|h
 ·rw[uy h];simp;omega
 ·rw[yx h];simp;omega
 ·rw[uz h];simp;omega
theorem ach:Fin 0:=by unfold Fin;omega
theorem U3:Fin uA:=by unfold Fin uA;omega
end
section
variable {a b c k s v x:Nat}
theorem Dh:Fin rZ:=by unfold Fin rZ;omega
theorem YZ:Fin YY:=by unfold Fin YY;omega
theorem aes:rV 0=0:=by simp[rV]
theorem aci:rV YY=2^1073:=by decide+kernel
theorem M0:key 0=some 0:=by rw[lU ach,aes];rfl
theorem M1:key uA=some (rV uA:Int):=lU U3
theorem U4{r:Nat} (h:rV r=0):r=0:=by
 unfold rV at h;split at h
 ·exact h
 ·have:=Nat.mul_pos (show 0<2^52+r%2^52 by omega) (bY (r/2^52-1))
  omega
theorem JH(hs:s<2^64) {a:Int} (hk:key s=some a) (O:0<=a) (M:a<=(rV uA:Int)):(Fin s/\a=(rV s:Int))\/(s=2^63/\a=0):=by
 have Z:(rV uA:Int)<((2^2200:Nat):Int):=by
  have:rV uA<2^2200:=by decide+kernel
  omega
 by_cases V:s<2^63
 ·by_cases B:Fin s
  ·left
   rw[lU B]at hk;exact⟨B,(tz hk).symm⟩
  ·exfalso
   unfold Fin at B;unfold key Format.read at hk;dsimp only at hk
   have D:s%DF.signWeight=s:=by rw[lT];omega
   have E:s/DF.signWeight%2=0:=by rw[lT];omega
   rw[D,E,lH,Bu]at hk
   rw[ek ST,ek B]at hk
   split at hk
   ·cases hk
   ·rename_i L A
    split at A<;>try(cases A;done)
    cases A;cases hk;simp only[show((0:Nat)==1)=false from rfl,ev,ib]at M
    omega
   ·rename_i A
    split at A<;>cases A
 ·obtain⟨r,rfl⟩:∃r,s=2^63+r:=⟨s-2^63,ST⟩
  by_cases B:Fin r
  ·right
   rw[MZ B]at hk
   have:=tz hk
   have R:rV r=0:=ST
   have:=U4 R
   subst this
   exact⟨rfl,ST⟩
  ·exfalso
   unfold Fin at B;unfold key Format.read at hk;dsimp only at hk
   have D:(2^63+r)%DF.signWeight=r:=by rw[lT];omega
   have E:(2^63+r)/DF.signWeight%2=1:=by rw[lT];omega
   rw[D,E,lH,Bu]at hk
   rw[ek ST,ek B]at hk
   split at hk
   ·cases hk
   ·rename_i L A
    split at A<;>try(cases A;done)
    cases A;cases hk;simp only[show((1:Nat)==1)=true from rfl,kh]at O
    have:=bY 2200
    omega
   ·rename_i A
    split at A<;>cases A
def Wv(a:Nat):Nat:=Rg (10*a*2^1126)
def KT(a:Nat):Nat:=tF (rV (Wv a)) 1074
theorem JI(h:a<=b):Wv a<=Wv b:=HS (ik _ (wt _ h))
theorem Q9(h:a<=b):KT a<=KT b:=zG (HR (JI h)) _
theorem U5:KT (rV uA)=9999:=by decide+kernel
theorem U6:Wv (rV uA)<2047*2^52:=by decide+kernel
theorem M3(h:a<=rV uA):Fin (Wv a):=by
 have A:=JI h
 have B:=U6
 unfold Fin;omega
theorem Ra(h:a<=rV uA):KT a<=9999:=by rw[<-U5];exact Q9 h
theorem Rb:KT 0=0:=by decide+kernel
def Pj(s:Nat):Bool:=JG s 0&&IG s uA
def tk(s:Nat):Nat:=KT ((key s).getD 0).toNat
theorem zI:Pj s=true↔∃a:Nat,key s=some (a:Int)/\a<=rV uA:=by
 unfold Pj;rw[U0,UZ,M0,M1]
 cases hk:key s with
 |none=>simp[Z5]
 |some a=>
  simp only[Z5,ed,gc,fo];constructor
  ·rintro⟨A,B⟩;exact⟨a.toNat,ST,ST⟩
  ·rintro⟨b,rfl,h⟩;omega
theorem JJ(h:key s=some (a:Int)):tk s=KT a:=by simp[tk,h]
theorem Y0(h:Fin x):Hh x=some (.float .f64 (KS (tF (rV x) 1074))):=by
 have A:FloatKind.f64.decode x=.number false (yP x) (-1074+(jx x:Int)):=iC h
 unfold Hh;rw[A];dsimp only
 have:=UX h
 rw[iC h]at this
 exact ne (λn=>some (AV.float .f64 n)) this
theorem Di{n:Nat} (h:(DF.read x).toInt .zero=some (n:Int)) (B:n<2^53):yQ .i64 (.float .f64 x)=some (.int .i64 n):=by
 have A:(FloatKind.f64.decode x).toInt .zero=some (n:Int):=h
 simp only[yQ,A];rw[et];constructor
 ·have:IntKind.i64.min=-(2^63):=Ts
  omega
 ·have:IntKind.i64.max=2^63-1:=Ts
  omega
theorem z_1:DF.mul Pg (2^63)=some (2^63):=by decide+kernel
theorem z_2:DF.mul (2^63) Pg=some (2^63):=by decide+kernel
theorem z_4:(DF.read (2^63)).toInt .zero=some ((0:Nat):Int):=by decide+kernel
theorem z_5:DF.sub (2^63) (KS 0)=some (2^63):=by decide+kernel
theorem z_6:DF.order (2^63) YY=some .lt:=by decide+kernel
theorem aet:FloatKind.f64.decode (2^63)=.number true 0 (-1074):=by decide+kernel
theorem aeu:FloatKind.f64.encode ((Datum.number true 0 (-1074)).integral .even)=2^63:=by decide+kernel
theorem z_3:Hh (2^63)=some (.float .f64 (2^63)):=by
 unfold Hh;rw[aet]
 show some (AV.float .f64 (FloatKind.f64.encode ((Datum.number true 0 (-1074)).integral .even)))=_
 rw[aeu]
theorem OD(O:s<2^64) (h:Pj s=true):∃x y,DF.mul Pg s=some x/\Hh x=some (.float .f64 y)/\yQ .i64 (.float .f64 y)=some (.int .i64 (tk s)):=by
 obtain⟨a,E,D⟩:=zI.1 h
 have L:=JJ E
 rcases JH O E ST ST with⟨M,A⟩|⟨rfl,A⟩
 ·have A:a=rV s:=ST
  subst A
  have hX:=M3 D
  have B:=Ra D
  refine⟨Wv (rV s),KS (tF (rV (Wv (rV s))) 1074),(Q7 M).1,Y0 hX,?_⟩;rw[L]
  exact Di (OB (by unfold KT at B;omega)) ST
 ·have A:a=0:=ST
  subst A;refine⟨2^63,2^63,z_1,z_3,?_⟩;rw[L,Rb]
  exact Di z_4 ST
theorem LH(h:Fin x):Fin (Rg (rV x%2^1074*2^1126))/\rV (Rg (rV x%2^1074*2^1126))=rV x%2^1074:=by
 have hd:=Q4 x
 have key:∃m k,m<2^53/\1126<=k/\k<=3090/\rV x%2^1074*2^1126=m*2^k:=by
  rw[lI]
  by_cases D:1074<=jx x
  ·refine⟨0,1126,ST,ST,ST,?_⟩
   have:yP x*2^jx x=yP x*2^(jx x-1074)*2^1074:=by rw[lw,<-kf,pu D]
   rw[this,Nat.mul_mod_left,Nat.zero_mul]
  ·refine⟨yP x%2^(1074-jx x),jx x+1126,?_,ST,ST,?_⟩
   ·exact Nat.lt_of_le_of_lt (Nat.mod_le _ _) hd
   ·have:(2:Nat)^1074=2^(1074-jx x)*2^jx x:=by rw[<-kf,pu ST]
    rw[this,Nat.mul_mod_mul_right,lw,<-kf]
 obtain⟨m,k,M,E,O,L⟩:=key;obtain⟨B,A⟩:=Ey M E O;rw[<-L]at B A;exact⟨B,Kd (bY 1126) A⟩
theorem OE(X:Nat) {d w:Nat} (h:2^d=2*w):tF X d=(if yw (some ((X%2^d:Nat):Int)) (some (w:Int))==some .gt||(yw (some ((X%2^d:Nat):Int)) (some (w:Int))==some .eq&&X/2^d%2==1)then X/2^d+1 else X/2^d):=by
 unfold tF;generalize X/2^d=q;generalize X%2^d=r;rw[h]
 rcases Nat.lt_trichotomy w r with B|B|B
 ·have A:((w:Nat):Int)<(r:Int):=ST
  simp only[yw,uz A];rw[et (Or.inl ST)];simp
 ·have A:((r:Nat):Int)=(w:Int):=ST
  simp only[yw,yx A]
  by_cases hm:q%2=1
  ·rw[et (Or.inr ⟨ST,hm⟩)];simp[hm]
  ·rw[ek ST];simp[hm]
 ·have A:((r:Nat):Int)<(w:Int):=ST
  simp only[yw,uy A];rw[ek ST];simp
theorem U7:(2:Nat)^1074=2*2^1073:=Nat.pow_succ' ..
theorem U8(hs:s<2^64) (h:Pj s=true):∃(x n f:Nat),DF.mul s Pg=some x/\yQ .i64 (.float .f64 x)=some (.int .i64 n)/\DF.sub x (FloatKind.f64.nearest (n:Int))=some f/\n<=9999/\
  tk s=(if DF.order f YY==some .gt||(DF.order f YY==some .eq&&n%2==1)then n+1 else n):=by
 obtain⟨a,O,M⟩:=zI.1 h
 have R:=JJ O
 rcases JH hs O ST ST with⟨Z,A⟩|⟨rfl,A⟩
 ·have A:a=rV s:=ST
  subst A
  have hX:=M3 M
  have B:=Ra M
  generalize D:Wv (rV s)=x at*
  have hn:rV x/2^1074<=9999:=by
   have:=LF (rV x) 1074
   unfold KT at B;rw[D]at B;omega
  obtain⟨g1,L⟩:=HU (n:=rV x/2^1074) ST
  have E:=yn (rV x) (2^1074)
  rw[pd]at E;obtain⟨f1,V⟩:=LH hX;refine⟨x,rV x/2^1074,Rg (rV x%2^1074*2^1126),?_,?_,?_,hn,?_⟩
  ·rw[<-D];exact(Q7 Z).2
  ·exact Di (GA hX) ST
  ·rw[Cz,sub_pos hX g1 (by rw[L];omega),L]
   have e:rV x-rV x/2^1074*2^1074=rV x%2^1074:=ST
   rw[e]
  ·rw[R]
   have e:KT (rV s)=tF (rV x) 1074:=by unfold KT;rw[D]
   have hk:DF.order (Rg (rV x%2^1074*2^1126)) YY=yw (some ((rV x%2^1074:Nat):Int)) (some ((2^1073:Nat):Int)):=by
    rw[qD,lU f1,lU YZ,V,aci]
   rw[e,hk];exact OE (rV x) U7
 ·have A:a=0:=ST
  subst A
  refine⟨2^63,0,2^63,z_2,Di z_4 ST,?_,ST,?_⟩
  ·rw[Cz];exact z_5
  ·rw[R,Rb,z_6];rfl
theorem M4{d:Nat} (h:a<=b) (A:d<=c):a-c<=b-d:=by omega
theorem Ez{y:Nat} (h:x*2^c<=y*2^c):x<=y:=IR h (bY c)
theorem Y1(hk:1<=k) (al:k<=9999) (h1:10*a<=1024*k) (h2:1024*k<=10*(a+1)):∃s,DF.div (KS k) Pg=some s/\Fin s/\a*2^1064<=rV s/\rV s<=(a+1)*2^1064:=by
 obtain⟨f1,f2⟩:=HU (n:=k) ST
 generalize KS k=r at*
 have hd:=Q4 r
 rw[lI]at f2
 -- the number is a normal one
 have ak:2^52<=r:=by
  refine Nat.le_of_not_lt λh=>?_
  have e1:yP r=r:=by unfold yP;rw[et h]
  have e2:jx r=0:=by unfold jx;rw[et h]
  rw[e1,e2,Hk,pb]at f2
  have:1*2^1074<=k*2^1074:=ik _ hk
  have:(2:Nat)^52<=2^1074:=ml ST ST
  omega
 have E:2^52<=yP r:=by unfold yP;rw[ek ST];omega
 have V:(yP r).log2=52:=by
  have M:yP r≠0:=ST
  have a1:(yP r).log2<53:=(Nat.log2_lt M).2 hd
  have a2:52<=(yP r).log2:=(Nat.le_log2 M).2 E
  omega
 have hp:jx r<=1036:=by
  refine Nat.le_of_not_lt λh=>?_
  have b1:2^52*2^1037<=yP r*2^jx r:=Nat.mul_le_mul E (ml ST h)
  rw[f2,<-kf]at b1
  have b2:k*2^1074<2^15*2^1074:=Ax ST (bY _)
  rw[<-kf]at b2;omega
 have aa:(5*2^50:Nat).log2=52:=Ts
 have L:54+(5*2^50:Nat).log2-(yP r).log2=54:=by rw[V,aa]
 have A:DF.div r Pg=some (Rg ((2*(yP r*2^54/(5*2^50))+(yP r*2^54%(5*2^50) !=0).toNat)*2^(jx r+1120))):=by
  unfold Format.div;rw[HT,iC f1]
  have ab:DF.fractionBits+2=54:=rfl
  rw[ab];unfold Datum.quotient;dsimp only
  rw[ek ST,L,pB,ma]
  have:((-1074+(jx r:Int))- -49-(54:Nat)-1+2200).toNat=jx r+1120:=ST
  rw[show(false^^false)=false from rfl,lJ _ _ ST,this]
 obtain⟨n,hn⟩:∃n:Nat,n=5*2^50:=⟨_,rfl⟩
 rw[<-hn]at A
 obtain⟨D,O⟩:∃D:Nat,D=yP r*2^54:=⟨_,rfl⟩
 rw[<-O]at A;refine⟨_,A,?_⟩
 -- the floor against a YW number
 have B:∀z:Nat,(z*2^(1069-jx r))*n*2^jx r=5*z*2^1119:=by
  intro z;rw[hn]
  have:z*2^(1069-jx r)*(5*2^50)*2^jx r=5*z*(2^(1069-jx r)*2^50*2^jx r):=by
   simp only[lw,Nat.mul_left_comm,pd]
  rw[this,<-kf,<-kf]
  rw[show 1069-jx r+50+jx r=1119 by omega]
 have hD:D*2^jx r=512*k*2^1119:=by
  rw[O]
  have:yP r*2^54*2^jx r=yP r*2^jx r*2^54:=by exact Nat.mul_right_comm _ _ _
  rw[this,f2,lw,<-kf,show 1074+54=9+1119 by omega,kf,<-lw,pd k]
 have R:0<n:=ST
 have lo:∀z,5*z<=512*k->z*2^(1069-jx r)<=D/n:=by
  intro z hz;rw[QQ R]
  refine Ez (c:=jx r) ?_
  rw[B,hD];exact ik _ hz
 have hi:∀z,512*k<=5*z->2*(D/n)+(D%n !=0).toNat<=2*(z*2^(1069-jx r)):=by
  intro z hz
  have ag:D<=z*2^(1069-jx r)*n:=by
   refine Ez (c:=jx r) ?_
   rw[B,hD];exact ik _ hz
  generalize z*2^(1069-jx r)=Z at*
  have ac:=yn D n
  have h3:D/n<=Z:=by
   rw[<-IN Z R];exact Nat.div_le_div_right ag
  by_cases M:D%n=0
  ·simp[M];omega
  ·have h4:D/n<Z:=by
    refine Nat.lt_of_le_of_ne h3 λe=>?_
    rw[e,pd]at ac;omega
   have h5:(D%n !=0).toNat=1:=by simp[M]
   omega
 have sc:∀z:Nat,z*2^1064*2^1126=2*(z*2^(1069-jx r))*2^(jx r+1120):=by
  intro z
  have:2*(z*2^(1069-jx r))*2^(jx r+1120)=z*(2^1*2^(1069-jx r)*2^(jx r+1120)):=by
   simp only[Nat.mul_left_comm,pd,Nat.pow_one]
  rw[this,<-kf,<-kf,lw,<-kf]
  rw[show 1+(1069-jx r)+(jx r+1120)=1064+1126 by omega]
 have ae:a*2^1064*2^1126<=(2*(D/n)+(D%n !=0).toNat)*2^(jx r+1120):=by
  rw[sc]
  have:=lo a ST
  exact ik _ ST
 have ad:(2*(D/n)+(D%n !=0).toNat)*2^(jx r+1120)<=(a+1)*2^1064*2^1126:=by
  rw[sc]
  exact ik _ (hi (a+1) ST)
 have hb:a+1<2^53:=ST
 exact Dg ae ad hb
theorem JK(A:1024*k<c+512) (B:c<1024*k+512):tF c 10=k:=by
 unfold tF;split<;>omega
theorem Rc(c:Nat):tF (c*2^1064) 1074=tF c 10:=nD c 10 1064
theorem HV(B:a*2^1064<=v) (A:v<=b*2^1064) (hb:b<2^40) (h3:1024*k<10*a+512) (Z:10*b<1024*k+512):KT v=k:=by
 have e:∀z:Nat,10*(z*2^1064)=10*z*2^1064:=λz=>by rw[lw]
 have O:=Dg (N:=10*v*2^1126) (a:=10*a) (b:=10*b) (by rw[<-e];exact ik _ (wt _ B)) (by rw[<-e];exact ik _ (wt _ A)) ST
 obtain⟨_,E,D⟩:=O
 have M:=zG E 1074
 have L:=zG D 1074
 rw[Rc]at M L
 have R:a<=b:=Ez (ka B A)
 have r1:=JK (c:=10*a) (k:=k) ST ST
 have V:=JK (c:=10*b) (k:=k) ST ST
 have:KT v=tF (rV (Rg (10*v*2^1126))) 1074:=rfl
 omega
theorem M5:30*2^1064<=rV rZ:=by decide+kernel
theorem HW:rV rZ<=31*2^1064:=by decide+kernel
theorem aev:1023897*2^1064<=rV uA:=by decide+kernel
theorem Re:DF.div (KS 9999) Pg=some uA:=by decide+kernel
theorem acj:DF.div (KS 0) Pg=some 0:=by decide+kernel
theorem U9:KT (rV rZ)=0:=by decide+kernel
def near(off k:Nat):Prop:=ltF off 0=false->UY off uA=false->Pj off=true/\tk off=k
theorem HX(A:Fin v) (D:KT (rV v)=k):near v k:=by
 intro E B;rw[U2,lU A,M1]at B;simp only[Z6,po]at B
 exact⟨zI.2 ⟨rV v,lU A,ST⟩,by rw[JJ (lU A)];exact D⟩
theorem back(hk:k<=9999):∃s u d,DF.div (KS k) Pg=some s/\DF.add s rZ=some u/\DF.sub s rZ=some d/\s<2^64/\u<2^64/\Pj s=true/\tk s=k/\near u k/\near d k/\d<2^64:=by
 by_cases h0:k=0
 ·subst h0
  have hd:DF.sub 0 rZ=some (2^63+rZ):=by decide+kernel
  have Z:DF.add 0 rZ=some rZ:=by decide+kernel
  refine⟨0,rZ,2^63+rZ,acj,Z,hd,ST,by unfold rZ;omega,zI.2 ⟨0,M0,ST⟩,by rw[JJ (a:=0) M0];exact Rb,HX Dh U9,?_,by unfold rZ;omega⟩
  intro B;rw[U1,MZ Dh,M0]at B;simp only[Z6,po]at B
  have:0<rV rZ:=by decide+kernel
  omega
 ·obtain⟨s,B,D,M,L⟩:=Y1 (k:=k) (a:=1024*k/10) ST hk ST ST
  generalize ha:1024*k/10=a at*
  have aa:10*a<=1024*k:=ST
  have ab:1024*k<=10*a+9:=ST
  have A:rV s<=rV uA:=by
   by_cases V:k=9999
   ·subst V
    rw[Re]at B;cases B;exact ia _
   ·refine ka L (ka (ik _ ST) aev)
  have R:KT (rV s)=k:=HV M L ST ST ST
  have E:rV rZ<=rV s:=ka HW (ka (ik _ ST) M)
  have O:=Dg (N:=(rV s+rV rZ)*2^1126) (a:=a+30) (b:=a+1+31) (ik _ (by rw[Nat.add_mul];exact Nat.add_le_add M M5)) (ik _ (by rw[Nat.add_mul (a+1)];exact Nat.add_le_add L HW)) ST
  have hD:=Dg (N:=(rV s-rV rZ)*2^1126) (a:=a-31) (b:=a+1-30) (ik _ (by rw[Nat.sub_mul];exact M4 M HW)) (ik _ (by rw[Nat.sub_mul];exact M4 L M5)) ST
  refine⟨s,_,_,B,add_pos D Dh,sub_pos D Dh E,?_,?_,zI.2 ⟨rV s,lU D,A⟩,by rw[JJ (lU D)];exact R,?_,?_,?_⟩
  ·unfold Fin at D;omega
  ·have:=O.1;unfold Fin at this;omega
  ·exact HX O.1 (HV O.2.1 O.2.2 ST ST ST)
  ·exact HX hD.1 (HV hD.2.1 hD.2.2 ST ST ST)
  ·have:=hD.1;unfold Fin at this;omega
end
end Go.Eng
