/- Part 12 of the engine and its library. -/
import Derived.Test.YtdfplndcbbofjaaGreatPkS11
set_option linter.all false
set_option maxRecDepth 10000
set_option maxHeartbeats 4000000
namespace Go.Eng
open Go
section
variable (t:Tb) (l:Option (List Int)) (c:List Int)
def lu:Tb:=⟨List.replicate 8 default,none,List.replicate 8 0,none,none,none,0,0,0,0,0,List.replicate 8 0,0,0⟩
theorem RG:gK=lu.cells:=rfl
def Ex(l:Option (List Int)):Nat->List Ph
 |0=>List.replicate 8 default
 |k+1=>(Ex l k).set k (iK l (10+12*k))
def CS:Nat->List Int
 |0=>List.replicate 8 0
 |k+1=>(CS k).set k 1
theorem dV(l:Option (List Int)):∀k,(Ex l k).length=8
 |0=>by simp[Ex]
 |k+1=>by simp[Ex,dV l k]
theorem mD:∀k,(CS k).length=8
 |0=>by simp[CS]
 |k+1=>by simp[CS,mD k]
def uv(i:Nat):Int:=c.getD i 0
def nu(p q:Nat):Bool:=!cL t p q&&bU l (110+8*p+q) 9 !=1
def eO(p q:Nat) (c:List Int):List Int:=
 if nu t l p q then
  let A:=c.set p (gw (uv c p) q)
  A.set q (gw (uv A q) p)
 else c
def gW(t:Tb) (l:Option (List Int)) (p:Nat):Nat->List Int->List Int
 |0,c=>c
 |q+1,c=>eO t l p q (gW t l p q c)
def eE(t:Tb) (l:Option (List Int)):Nat->List Int
 |0=>List.replicate 8 0
 |p+1=>gW t l p p (eE t l p)
theorem Ey{t:Tb} {l:Option (List Int)} {p q:Nat} {c:List Int}:(eO t l p q c).length=c.length:=by
 unfold eO;split<;>simp
theorem kC{t:Tb} {l:Option (List Int)} {p:Nat} {c:List Int}:∀q,(gW t l p q c).length=c.length
 |0=>rfl
 |q+1=>by rw[gW,Ey,kC q]
theorem cX{t:Tb} {l:Option (List Int)}:∀p,(eE t l p).length=8
 |0=>by simp[eE]
 |p+1=>by rw[eE,kC,cX p]
def jA(n d:Int) (j:Nat):List xP:=(List.range j).map λ(k:Nat)=>gL l (180+8*(d-k)) n
def eP(n r:Int) (j:Nat):List Rl:=(List.range j).map λ(k:Nat)=>nV t l (260+16*(r-k)) n
def JX(n i:Int):Bs:=
 let x:=dh .i64 (bU l (330+2*i) 256) (bO (bO (1*2^min (IntKind.u64.wrap n).toNat 64)-1))
 ⟨if x>1 then x else 1,bO (1+bU l (331+2*i) 30)⟩
def nv(n b:Int) (j:Nat):List Bs:=(List.range j).map λ(k:Nat)=>JX l n (b-k)
def qj(t:Tb):Nat->Int
 |0=>0
 |k+1=>if lq t k>qj t k then lq t k else qj t k
def dn:List Gr×Nat:=aW l (eA l) (eA l)
def aY:Tb :=
  let n:=(dn l).2
  let t1:Tb:={ lu with groups:=some (dn l).1 }
  let q:=bU l 174 (n + 1)
  { phases:=Ex l n
    groups:=some (dn l).1
    conflict:=eE t1 l n
    aQ:=dB (jA l n (bU l 175 9) (bU l 175 9).toNat)
    bp:=dB (eP t1 l n ((bU l 176 4).tmod 3) ((bU l 176 4).tmod 3).toNat)
    jz:=dB (nv l n (bU l 177 3) (bU l 177 3).toNat)
    extend:=bU l 178 12
    gJ:=bU l 179 40
    start:=bU l 180 8
    revert:=bU l 181 8
    least:=bU l 182 12
    dc:=if q < n then (CS n).set q.toNat 2 else CS n
    pK:=0
    share:=bU l 183 4 }
def aR:Tb:=
 {aY l with pK:=if(eP {lu with groups:=some (dn l).1} l (dn l).2 ((bU l 176 4).tmod 3) ((bU l 176 4).tmod 3).toNat)=[]then 0 else qj (aY l) (dn l).2}
def Table.Spec(C:bk) (f:Nat):Prop:=∀l:Option (List Int),C.c f [aI aE l] (.agg (aR l).cells) none
def iP(k:Nat):Tb:={lu with groups:=some (dn l).1,phases:=Ex l k,dc:=CS k}
def gM:Tb:={iP l (dn l).2 with conflict:=c}
def sj:Tb:={gM l (eE {lu with groups:=some (dn l).1} l (dn l).2)with dc:=(aY l).dc}
def zS(d:List xP):Tb:={sj l with aQ:=dB d}
def yg(r:List Rl):Tb:={sj l with aQ:=(aY l).aQ,bp:=dB r}
def zT(b:List Bs):Tb:={sj l with aQ:=(aY l).aQ,bp:=(aY l).bp,jz:=dB b}
def Bo(w:Int):Tb:={aY l with pK:=w}
theorem N6(p m:Nat):(cN p m).length=m:=by simp[cN]
theorem wH(l:Option (List Int)) (G:Nat):∀g,∀x∈(aW l G g).1,(x.a.getD []).length<=8/\(x.b.getD []).length<=8
 |0,x,A=>by simp[aW]at A
 |g+1,x,A=>by
  simp only[aW,ka,nz]at A
  rcases A with A|rfl
  ·exact wH l G g x A
  ·simp only[de,N6,aX,bN]
   omega
theorem tI:(dn l).2<=8:=tH _ _ _
theorem zq(l:Option (List Int)) (G:Nat):∀g,1<=g->g<=G->G<=3->1<=(aW l G g).2
 |0,h,_,_=>by omega
 |1,_,B,A=>by
  simp only[aW,aX,bN,cnt]
  split<;>split<;>simp_all<;>omega
 |g+2,_,B,A=>by
  have:=zq l G (g+1) ST ST A
  rw[aW];simp only;omega
theorem mE:1<=eA l/\eA l<=3:=by
 have:=aJ l 0 (n:=3) Ts Ts
 unfold eA;omega
theorem Bp:1<=(dn l).2:=zq l _ _ (mE l).1 (im _) (mE l).2
theorem Bq{l:Option (List Int)} {t:Tb} (B:t.groups=some (dn l).1) (O:t.phases.length=8) (L:t.conflict.length=8) (V:t.dc.length=8) (M:(t.aQ.getD []).length<=1048576) (R:(t.bp.getD []).length<=1048576) (D:(t.jz.getD []).length<=1048576):t.Ok:=by
 refine⟨O,L,V,?_,?_,M,R,D⟩
 ·rw[B];simp only[tt,dn,jX];have:=mE l;omega
 ·rw[B];simp only[tt]
  intro g A
  have:=wH _ _ _ g A
  omega
theorem IB(n d:Int) (j:Nat):jA l n d (j+1)=jA l n d j++[gL l (180+8*(d-j)) n]:=by simp[jA,lm]
theorem yh(n d:Int) (j:Nat):(jA l n d j).length=j:=by simp[jA]
theorem Gl(n d:Int) (j:Nat):eP t l n d (j+1)=eP t l n d j++[nV t l (260+16*(d-j)) n]:=by simp[eP,lm]
theorem vc(n d:Int) (j:Nat):(eP t l n d j).length=j:=by simp[eP]
theorem IC(n d:Int) (j:Nat):nv l n d (j+1)=nv l n d j++[JX l n (d-j)]:=by simp[nv,lm]
theorem yj(n d:Int) (j:Nat):(nv l n d j).length=j:=by simp[nv]
theorem xP.len(d:xP):d.cells.length=7:=rfl
theorem Bs.len(d:Bs):d.cells.length=2:=rfl
theorem dM:(aY l).dc.length=8:=by
 unfold aY;simp only;split<;>simp[mD]
theorem nw:((aY l).aQ.getD []).length<=1048576:=by
 have:=aJ l 175 (n:=9) Ts Ts
 simp only[aY,de,yh];omega
theorem pR:((aY l).bp.getD []).length<=1048576:=by
 have h:=zr (bU l 176 4) (b:=3) Ts
 simp only[aY,de,vc];omega
theorem Ez:((aY l).jz.getD []).length<=1048576:=by
 have:=aJ l 177 (n:=3) Ts Ts
 simp only[aY,de,yj];omega
theorem Br:(aR l).Ok:=Bq rfl (dV l _) (cX _) (dM l) (nw l) (pR l) (Ez l)
end
section
variable{P:Program} (hm:P.follows .mixedOrders=true) {f:Nat}
include hm
theorem Table.ok{fR fP fB fF fW fD eD fr eR eB fw:Nat} (hc:bY P f=some (mu fR fP fB fF fW fD eD fr eR eB fw)) (hR:rows.Spec (Pure P) fR) (hP:phase.Spec (Pure P) fP) (hB:beside.Spec (Pure P) fB) (hF:from.Spec (Pure P) fF) (hW:tE.Spec (Pure P) fW)
  (hD:rZ.Spec (Pure P) fD) (hr:N1.Spec (Pure P) fr) (hw:wait.Spec (Pure P) fw):Table.Spec (Pure P) f:=by
 intro l;refine aq hm hc [0,3,8,9,12,15,18] rfl ?_;try simp only[RY,↓KW,seval,mu,Z.H,RG]
 have b3:lu.Ok:=⟨rfl,rfl,rfl,by simp[lu],by simp[lu],by simp[lu],by simp[lu],by simp[lu]⟩
 refine⟨rfl,aU (hR lu l b3 rfl) ?_⟩
 have hN:=tI l
 have dy:=Bp l
 try simp only[I,RY,seval]
 change aw _ _ _ (⟨[(5,_),(4,.dat (I ((dn l).2:Nat)) none),(14,_),(13,_),(3,_),(2,_),(0,_)],[(5,⟨(iP l 0).cells,[]⟩),_],_,_⟩:S)
 generalize hNe:(dn l).2=N at*
 refine kX (.exit 0) (λ_:Unit=>(⟨[(4,.dat (I N) none),(3,.ptr 5 0),(0,.dat (aI aE l) none),(2,.ptr 4 0)],[(5,⟨(iP l N).cells,[]⟩),(4,⟨lu.cells,[]⟩)],[],400⟩:S)) (λ_=>True) (λ_=>rfl) ?_ ?_
 ·refine aN (λk:Nat=>(⟨[(5,.dat (I k) none),(4,.dat (I N) none),(3,.ptr 5 0),(0,.dat (aI aE l) none),(2,.ptr 4 0)],[(5,⟨(iP l k).cells,[]⟩),(4,⟨lu.cells,[]⟩)],[],400⟩:S)) (λk=>N-k) (λk=>k<=N) ?_ 0 ST ?_
  ·intro k hk A back
   have O:=aG (k:=k) ST
   have ci:IntKind.i64.wrap (10+IntKind.i64.wrap (12*(k:Int)))=10+12*k:=by rw[aT (n:=12*(k:Int)) ST ST,aT ST ST]
   have b0:(iP l k).Ln:=⟨dV l k,rfl,mD k⟩
   have an:({iP l k with phases:=(iP l k).phases.set k (iK l (10+12*k))}:Tb).Ln:=⟨by simp[dV,iP],rfl,mD k⟩
   try simp only[I,RY,↓KW,seval]
   refine az (λh=>?_) (λh=>?_)<;>try simp only[RY,↓KW,seval,h]
   ·have be:k<N:=by have:=dE h;omega
    have a4:k<8:=ST
    have aa:=b0.LL a4 (iK l (10+12*k))
    have al:=an.Du a4 1
    have ca:({({iP l k with phases:=(iP l k).phases.set k (iK l (10+12*k))}:Tb)with dc:=({iP l k with phases:=(iP l k).phases.set k (iK l (10+12*k))}:Tb).dc.set k 1}:Tb)=iP l (k+1):=rfl
    rw[ca]at al
    have dk:=b0.len
    have dt:=an.len
    generalize({iP l k with phases:=(iP l k).phases.set k (iK l (10+12*k))}:Tb)=T at*
    refine ah (hP _ _) ?_;try simp only[RY,↓KW,seval,ci,aa]
    exact⟨ST,Ph.len _,ST,ST,ST,by refine back (k+1) _ ST ST (ai Ts ?_ ?_ ?_ ?_)<;>simp[LX,I,al,O]⟩
   ·have:k=N:=by have:=dC h;omega
    subst this;refine dA () trivial ?_
    refine ai Ts ?_ ?_ ?_ ?_<;>simp[LX]
  ·refine ai Ts ?_ ?_ ?_ ?_<;>simp[LX,I]
 ·intro _ _
  try simp only[I,RY,↓KW,seval]
  generalize am:({lu with groups:=some (dn l).1}:Tb)=t1 at*
  have hA:iP l N=gM l (eE t1 l 0):=by subst hNe;rfl
  refine kX (.exit 2) (λ_:Unit=>(⟨[(4,.dat (I N) none),(3,.ptr 5 0),(0,.dat (aI aE l) none),(2,.ptr 4 0)],[(5,⟨(gM l (eE t1 l N)).cells,[]⟩),(4,⟨lu.cells,[]⟩)],[],400⟩:S)) (λ_=>True) (λ_=>rfl) ?_ ?_
  ·refine aN (λp:Nat=>(⟨[(6,.dat (I p) none),(4,.dat (I N) none),(3,.ptr 5 0),(0,.dat (aI aE l) none),(2,.ptr 4 0)],[(5,⟨(gM l (eE t1 l p)).cells,[]⟩),(4,⟨lu.cells,[]⟩)],[],400⟩:S)) (λp=>N-p) (λp=>p<=N) ?_ 0 ST ?_
   ·intro p hp A back
    have O:=aG (k:=p) ST
    try simp only[I,RY,↓KW,seval]
    refine az (λh=>?_) (λh=>?_)<;>try simp only[RY,↓KW,seval,h]
    ·have dl:p<N:=by have:=dE h;omega
     have a4:p<8:=ST
     have df:eE t1 l (p+1)=gW t1 l p p (eE t1 l p):=rfl
     have b5:=cX (t:=t1) (l:=l) p
     generalize eE t1 l p=c0 at*
     refine aN (λq:Nat=>(⟨[(7,.dat (I q) none),(6,.dat (I p) none),(4,.dat (I N) none),(3,.ptr 5 0),(0,.dat (aI aE l) none),(2,.ptr 4 0)],[(5,⟨(gM l (gW t1 l p q c0)).cells,[]⟩),(4,⟨lu.cells,[]⟩)],[],400⟩:S)) (λq=>p-q) (λq=>q<=p) ?_ 0 ST ?_
     ·intro q hq A2 ag
      have a8:=aG (k:=q) ST
      have a9:gW t1 l p (q+1) c0=eO t1 l p q (gW t1 l p q c0):=rfl
      have b2:(gW t1 l p q c0).length=8:=by rw[kC,b5]
      generalize da:gW t1 l p q c0=c at*
      have okB:(gM l c).Ok:=Bq rfl (dV l _) b2 (mD _) (by simp[gM,iP,lu]) (by simp[gM,iP,lu]) (by simp[gM,iP,lu])
      have ab:=okB.ln.whole
      have ao:=okB.ln.len
      have b8:cL (gM l c) p q=cL t1 p q:=by subst am;rfl
      have ae:IntKind.i64.wrap (IntKind.i64.wrap (110+IntKind.i64.wrap (8*(p:Int)))+q)=110+8*p+q:=by
       rw[aT (n:=8*(p:Int)) ST ST,aT (n:=110+8*(p:Int)) ST ST,aT ST ST]
      try simp only[I,RY,↓KW,seval]
      refine az (λh2=>?_) (λh2=>?_)<;>try simp only[RY,↓KW,seval,ab,h2]
      ·have dj:q<p:=by have:=dE h2;omega
       refine ah (hB _ _ _ okB) ?_;try simp only[B,RY,↓KW,seval,b8]
       repeat' (first|(refine ah (hF _ _ _ Ts) ?_;try simp only[I,RY,↓KW,seval])|(((first|refine bf ?_ ?_|refine az ?_ ?_|refine bz ?_ ?_)<;>intro h)<;>try simp only[RY,↓KW,seval,ae,h]))
       ·have hb:cL t1 p q=false:=by simp_all
        have a2:nu t1 l p q=true:=by simp only[nu,hb];simpa using h
        have ar:eO t1 l p q c=(c.set p (gw (uv c p) q)).set q (gw (uv (c.set p (gw (uv c p) q)) q) p):=by simp only[eO,a2,kv]
        have g1:c[p]? =some (uv c p):=by simp[uv,show p<c.length by omega]
        have g2:(c.set p (gw (uv c p) q))[q]? =some (uv (c.set p (gw (uv c p) q)) q):=by simp[uv,show q<c.length by omega]
        have an:(gM l (c.set p (gw (uv c p) q))).Ln:=⟨dV l _,by simp[gM,b2],mD _⟩
        have l1:=okB.ln.nq (t:=gM l c) g1
        have l2:=an.nq g2
        have aa:setCells (gM l c).cells (105+p) [I (gw (uv c p) q)]=(gM l (c.set p (gw (uv c p) q))).cells:=okB.ln.wG a4 _
        have al:setCells (gM l (c.set p (gw (uv c p) q))).cells (105+q) [I (gw (uv (c.set p (gw (uv c p) q)) q) p)]=(gM l (eO t1 l p q c)).cells:=by rw[ar];exact an.wG ST _
        have di:=an.len
        rw[<-a9]at al;simp only[I]at aa al;generalize uv (c.set p (gw (uv c p) q)) q=v2 at*;generalize uv c p=v1 at*;generalize c.set p (gw v1 q)=c2 at*
        refine⟨ST,?_⟩
        try simp only[I,RY,↓KW,seval,l1]
        refine ah (hW _ _) ?_;try simp only[I,RY,↓KW,seval,aa]
        refine⟨ST,ST,ST,?_⟩
        try simp only[I,RY,↓KW,seval,l2]
        refine ah (hW _ _) ?_;try simp only[I,RY,↓KW,seval,aa,al]
        exact⟨ST,ST,by refine ag (q+1) _ ST ST (ai Ts ?_ ?_ ?_ ?_)<;>simp[LX,I,a8]⟩
       ·have ar:eO t1 l p q c=c:=by
         have a2:nu t1 l p q=false:=by simp only[nu];simp_all
         simp[eO,a2]
        refine ag (q+1) _ ST ST (ai Ts ?_ ?_ ?_ ?_)<;>simp[LX,I,a9,ar,a8]
       ·have ar:eO t1 l p q c=c:=by
         have a2:nu t1 l p q=false:=by simp only[nu];simp_all
         simp[eO,a2]
        refine ag (q+1) _ ST ST (ai Ts ?_ ?_ ?_ ?_)<;>simp[LX,I,a9,ar,a8]
      ·have:q=p:=by have:=dC h2;omega
       subst this
       refine back (q+1) _ ST ST (ai Ts ?_ ?_ ?_ ?_)<;>simp[LX,I,df,da,O]
     ·refine ai Ts ?_ ?_ ?_ ?_<;>simp[LX,I,gW]
    ·have:p=N:=by have:=dC h;omega
     subst this;refine dA () trivial ?_
     refine ai Ts ?_ ?_ ?_ ?_<;>simp[LX]
   ·refine ai Ts ?_ ?_ ?_ ?_<;>simp[LX,I,hA]
  ·intro _ _
   have ch:IntKind.i64.wrap ((N:Int)+1)=N+1:=aG ST
   have hq:=aJ l 174 (n:=(N:Int)+1) ST ST
   have okB:(gM l (eE t1 l N)).Ok:=Bq rfl (dV l _) (cX _) (mD _) (by simp[gM,iP,lu]) (by simp[gM,iP,lu]) (by simp[gM,iP,lu])
   have ao:=okB.ln.len
   have ak:(aY l).dc=if bU l 174 (N+1)<N then(CS N).set (bU l 174 (N+1)).toNat 2 else CS N:=by subst hNe;rfl
   have hC:sj l={gM l (eE t1 l N)with dc:=(aY l).dc}:=by subst hNe;subst am;rfl
   have bi:(gM l (eE t1 l N)).dc=CS N:=by subst hNe;rfl
   rw[NC]
   refine kX .normal (λ_:Unit=>(⟨[(4,.dat (I N) none),(3,.ptr 5 0),(0,.dat (aI aE l) none),(2,.ptr 4 0)],[(5,⟨(sj l).cells,[]⟩),(4,⟨lu.cells,[]⟩)],[],400⟩:S)) (λ_=>True) (λ_=>rfl) ?_ ?_
   ·try simp only[I,RY,↓KW,seval]
    refine ah (hF _ _ _ ST) ?_
    rw[ch];generalize bU l 174 (N+1)=q at*;try simp only[I,RY,↓KW,seval]
    refine az (λh=>?_) (λh=>?_)<;>try simp only[RY,↓KW,seval,h]
    ·have ba:q<N:=dE h
     rw[gc ba]at ak
     have aa:=okB.ln.Du (i:=q.toNat) ST 2
     have e:({gM l (eE t1 l N)with dc:=(gM l (eE t1 l N)).dc.set q.toNat 2}:Tb)=sj l:=by rw[hC,bi,ak]
     rw[e]at aa;simp only[I]at aa
     refine⟨ST,ST,?_⟩
     refine dA () trivial ?_
     refine ai Ts ?_ ?_ ?_ ?_<;>simp[LX,aa]
    ·have ba:¬q<N:=dC h
     rw[fx ba]at ak
     have e:gM l (eE t1 l N)=sj l:=by rw[hC,ak,<-bi]
     refine dA () trivial ?_
     refine ai Ts ?_ ?_ ?_ ?_<;>simp[LX,e]
   ·intro _ _
    have hd:=aJ l 175 (n:=9) Ts Ts
    have cy:sj l=zS l []:=rfl
    have ct:zS l (jA l N (bU l 175 9) (bU l 175 9).toNat)=yg l []:=by subst hNe;rfl
    try simp only[I,RY,↓KW,seval]
    refine ah (hF _ _ _ Ts) ?_
    generalize bU l 175 9=d at*;try simp only[I,RY,↓KW,seval]
    refine kX (.exit 6) (λ_:Unit=>(⟨[(4,.dat (I N) none),(3,.ptr 5 0),(0,.dat (aI aE l) none),(2,.ptr 4 0)],[(5,⟨(zS l (jA l N d d.toNat)).cells,[]⟩),(4,⟨lu.cells,[]⟩)],[],400⟩:S)) (λ_=>True) (λ_=>rfl) ?_ ?_
    ·refine aN (λj:Nat=>(⟨[(9,.dat (I (d-j)) none),(4,.dat (I N) none),(3,.ptr 5 0),(0,.dat (aI aE l) none),(2,.ptr 4 0)],[(5,⟨(zS l (jA l N d j)).cells,if jA l N d j=[]then[]else[(113,0)]⟩),(4,⟨lu.cells,[]⟩)],bG (jA l N d j) 0 eD,400⟩:S)) (λj=>d.toNat-j) (λj=>j<=d.toNat) ?_ 0 ST ?_
     ·intro j hj A back
      have O:IntKind.i64.wrap (d-j-1)=d-((j+1:Nat):Int):=by rw[aT ST ST];omega
      have ae:IntKind.i64.wrap (180+IntKind.i64.wrap (8*(d-(j:Int))))=180+8*(d-j):=by rw[aT (n:=8*(d-(j:Int))) ST ST,aT ST ST]
      have hnext:=IB l N d j
      have ac:(jA l N d j).length=j:=yh ..
      generalize hL:jA l N d j=L at*;generalize hx:gL l (180+8*(d-j)) N=x at*
      have CF:(zS l L).Ok:=Bq rfl (dV l _) (cX _) (dM l) (by simp[zS,sj,gM,iP,lu,de];try omega) (by simp[zS,sj,gM,iP,lu];try omega) (by simp[zS,sj,gM,iP,lu];try omega)
      have ln:=CF.ln
      have ao:=ln.len
      have ab:=ln.whole
      have M:=ln.N3
      have D:setCells (zS l L).cells 113 [aI xP.cells (some (L++[x]))]=(zS l (L++[x])).cells:=by rw[ln.N5 (some (L++[x]))];simp[zS,dB]
      have ad:(zS l L).aQ=dB L:=rfl
      rw[ad]at M;simp only[bt,np,l4,s9]at D
      cases L with
      |nil=>
       simp only[s9,lr,dB,kv,cK]at D M hnext;try simp only[I,RY,↓KW,seval,bG]
       refine az (λh=>?_) (λh=>?_)<;>try simp only[RY,↓KW,seval,M,h]
       ·have V:(0:Int)<d-j:=dE h
        refine ah (hD _ _ _ ST) ?_
        try simp only[RY,↓KW,seval,ae,hx,xP.len]
        try simp only[seval,D]
        refine⟨ST,?_⟩
        refine back (j+1) _ ST ST (ai Ts ?_ ?_ ?_ ?_)<;>simp[LX,I,hnext,O]
       ·have V:¬(0:Int)<d-j:=dC h
        have:j=d.toNat:=ST
        rw[<-this,hL];refine dA () trivial ?_
        refine ai Ts ?_ ?_ ?_ ?_<;>simp[LX]
      |cons y ys=>
       simp only[dB,reduceCtorEq,ik,bt]at D M hnext;try simp only[I,RY,↓KW,seval,bG]
       refine az (λh=>?_) (λh=>?_)<;>try simp only[RY,↓KW,seval,M,h]
       ·have V:(0:Int)<d-j:=dE h
        refine ah (hD _ _ _ ST) ?_
        try simp only[RY,↓KW,seval,ae,hx,xP.len]
        try simp only[RY,seval,D]
        refine⟨by simp at ac⊢;omega,ST,?_⟩
        refine back (j+1) _ ST ST (ai Ts ?_ ?_ ?_ ?_)<;>simp[LX,I,hnext,O]
       ·have V:¬(0:Int)<d-j:=dC h
        have:j=d.toNat:=ST
        rw[<-this,hL];refine dA () trivial ?_
        refine ai Ts ?_ ?_ ?_ ?_<;>simp[LX]
     ·refine ai Ts ?_ ?_ ?_ ?_<;>simp[LX,I,cy,jA]
    ·intro _ _
     have c6:=aJ l 176 (n:=4) Ts Ts
     have dp:=zr (bU l 176 4) (b:=3) Ts
     have du:=Int.tmod_nonneg 3 c6.1
     have ce:yg l (eP t1 l N ((bU l 176 4).tmod 3) ((bU l 176 4).tmod 3).toNat)=zT l []:=by subst hNe;subst am;rfl
     have cx:(aY l).bp=dB (eP t1 l N ((bU l 176 4).tmod 3) ((bU l 176 4).tmod 3).toNat):=by subst hNe;subst am;rfl
     have b7:aR l=Bo l (if eP t1 l N ((bU l 176 4).tmod 3) ((bU l 176 4).tmod 3).toNat=[]then 0 else qj (aY l) N):=by subst hNe;subst am;rfl
     try simp only[I,RY,↓KW,seval]
     refine ah (hF _ _ _ Ts) ?_
     try simp only[I,RY,↓KW,seval]
     generalize(bU l 176 4).tmod 3=r at*
     refine kX (.exit 8) (λ_:Unit=>(⟨[(4,.dat (I N) none),(3,.ptr 5 0),(0,.dat (aI aE l) none),(2,.ptr 4 0)],[(5,⟨(yg l (eP t1 l N r r.toNat)).cells,[]⟩),(4,⟨lu.cells,[]⟩)],[],400⟩:S)) (λ_=>True) (λ_=>rfl) ?_ ?_
     ·refine aN (λj:Nat=>(⟨[(10,.dat (I (r-j)) none),(4,.dat (I N) none),(3,.ptr 5 0),(0,.dat (aI aE l) none),(2,.ptr 4 0)],[(5,⟨(yg l (eP t1 l N r j)).cells,if eP t1 l N r j=[]then[]else[(114,0)]⟩),(4,⟨lu.cells,[]⟩)],bG (eP t1 l N r j) 0 eR,400⟩:S)) (λj=>r.toNat-j) (λj=>j<=r.toNat) ?_ 0 ST ?_
      ·intro j hj A back
       have O:IntKind.i64.wrap (r-j-1)=r-((j+1:Nat):Int):=by rw[aT ST ST];omega
       have ae:IntKind.i64.wrap (260+IntKind.i64.wrap (16*(r-(j:Int))))=260+16*(r-j):=by rw[aT (n:=16*(r-(j:Int))) ST ST,aT ST ST]
       have bs:∀L',nV (yg l L') l (260+16*(r-j)) N=nV t1 l (260+16*(r-j)) N:=λ_=>by subst am;rfl
       have hnext:=Gl t1 l N r j
       have ac:(eP t1 l N r j).length=j:=vc ..
       generalize hL:eP t1 l N r j=L at*;generalize hx:nV t1 l (260+16*(r-j)) N=x at*
       have CF:(yg l L).Ok:=Bq rfl (dV l _) (cX _) (dM l) (by simp[yg,sj,gM,iP,lu,nw];try omega) (by simp[yg,sj,gM,iP,lu,de];try omega) (by simp[yg,sj,gM,iP,lu];try omega)
       have ln:=CF.ln
       have ao:=ln.len
       have ab:=ln.whole
       have M:=ln.N4
       have D:setCells (yg l L).cells 114 [aI Rl.cells (some (L++[x]))]=(yg l (L++[x])).cells:=by rw[ln.Dv (some (L++[x]))];simp[yg,dB]
       have ad:(yg l L).bp=dB L:=rfl
       rw[ad]at M;simp only[bt,np,l4,s9]at D
       cases L with
       |nil=>
        simp only[s9,lr,dB,kv,cK]at D M hnext;try simp only[I,RY,↓KW,seval,bG]
        refine az (λh=>?_) (λh=>?_)<;>try simp only[RY,↓KW,seval,M,ab,h]
        ·have V:(0:Int)<r-j:=dE h
         refine ah (hr _ _ _ _ CF ST ST) ?_
         try simp only[RY,↓KW,seval,ae,bs,Rl.len]
         try simp only[seval,D]
         refine⟨ST,?_⟩
         refine back (j+1) _ ST ST (ai Ts ?_ ?_ ?_ ?_)<;>simp[LX,I,hnext,O]
        ·have V:¬(0:Int)<r-j:=dC h
         have:j=r.toNat:=ST
         rw[<-this,hL];refine dA () trivial ?_
         refine ai Ts ?_ ?_ ?_ ?_<;>simp[LX]
       |cons y ys=>
        simp only[dB,reduceCtorEq,ik,bt]at D M hnext;try simp only[I,RY,↓KW,seval,bG]
        refine az (λh=>?_) (λh=>?_)<;>try simp only[RY,↓KW,seval,M,ab,h]
        ·have V:(0:Int)<r-j:=dE h
         refine ah (hr _ _ _ _ CF ST ST) ?_
         try simp only[RY,↓KW,seval,ae,bs,Rl.len]
         try simp only[RY,seval,D]
         refine⟨by simp at ac⊢;omega,ST,?_⟩
         refine back (j+1) _ ST ST (ai Ts ?_ ?_ ?_ ?_)<;>simp[LX,I,hnext,O]
        ·have V:¬(0:Int)<r-j:=dC h
         have:j=r.toNat:=ST
         rw[<-this,hL];refine dA () trivial ?_
         refine ai Ts ?_ ?_ ?_ ?_<;>simp[LX]
      ·refine ai Ts ?_ ?_ ?_ ?_<;>simp[LX,I,ct,eP]
     ·intro _ _
      have dq:=aJ l 177 (n:=3) Ts Ts
      have co:zT l (nv l N (bU l 177 3) (bU l 177 3).toNat)={aY l with extend:=0,gJ:=0,start:=0,revert:=0,least:=0,share:=0}:=by subst hNe;rfl
      have hu:0<=IntKind.u64.wrap (N:Int):=by rw[IntKind.wrap];simp[IntKind.signed];omega
      try simp only[I,RY,↓KW,seval]
      refine ah (hF _ _ _ Ts) ?_
      generalize bU l 177 3=b at*;try simp only[I,RY,↓KW,seval]
      refine kX (.exit 10) (λ_:Unit=>(⟨[(4,.dat (I N) none),(3,.ptr 5 0),(0,.dat (aI aE l) none),(2,.ptr 4 0)],[(5,⟨(zT l (nv l N b b.toNat)).cells,[]⟩),(4,⟨lu.cells,[]⟩)],[],400⟩:S)) (λ_=>True) (λ_=>rfl) ?_ ?_
      ·refine aN (λj:Nat=>(⟨[(11,.dat (I (b-j)) none),(4,.dat (I N) none),(3,.ptr 5 0),(0,.dat (aI aE l) none),(2,.ptr 4 0)],[(5,⟨(zT l (nv l N b j)).cells,if nv l N b j=[]then[]else[(115,0)]⟩),(4,⟨lu.cells,[]⟩)],bG (nv l N b j) 0 eB,400⟩:S)) (λj=>b.toNat-j) (λj=>j<=b.toNat) ?_ 0 ST ?_
       ·intro j hj A back
        have O:IntKind.i64.wrap (b-j-1)=b-((j+1:Nat):Int):=by rw[aT ST ST];omega
        have bo:IntKind.i64.wrap (330+IntKind.i64.wrap (2*(b-(j:Int))))=330+2*(b-j):=by rw[aT (n:=2*(b-(j:Int))) ST ST,aT ST ST]
        have bj:IntKind.i64.wrap (331+IntKind.i64.wrap (2*(b-(j:Int))))=331+2*(b-j):=by rw[aT (n:=2*(b-(j:Int))) ST ST,aT ST ST]
        have a5:(JX l N (b-j)).cells=[AV.int .i64 (if dh .i64 (bU l (330+2*(b-j)) 256) (IntKind.i64.wrap (IntKind.i64.wrap (1*2^min (IntKind.u64.wrap (N:Int)).toNat IntKind.i64.bits)-1))>1 then dh .i64 (bU l (330+2*(b-j)) 256) (IntKind.i64.wrap (IntKind.i64.wrap (1*2^min (IntKind.u64.wrap (N:Int)).toNat IntKind.i64.bits)-1))else 1),AV.int .i64 (IntKind.i64.wrap (1+bU l (331+2*(b-j)) 30))]:=rfl
        have hnext:=IC l N b j
        have ac:(nv l N b j).length=j:=yj ..
        generalize hL:nv l N b j=L at*;generalize hx:JX l N (b-j)=x at*
        have CF:(zT l L).Ok:=Bq rfl (dV l _) (cX _) (dM l) (by simp[zT,sj,gM,iP,lu,nw];try omega) (by simp[zT,sj,gM,iP,lu,pR];try omega) (by simp[zT,sj,gM,iP,lu,de];try omega)
        have ln:=CF.ln
        have ao:=ln.len
        have ab:=ln.whole
        have M:=ln.Zk
        have D:setCells (zT l L).cells 115 [aI Bs.cells (some (L++[x]))]=(zT l (L++[x])).cells:=by rw[ln.LM (some (L++[x]))];simp[zT,dB]
        have ad:(zT l L).jz=dB L:=rfl
        rw[ad]at M;simp only[bt,np,l4,s9]at D
        cases L with
        |nil=>
         simp only[s9,lr,dB,kv,cK]at D M hnext;try simp only[I,RY,↓KW,seval,bG]
         refine az (λh=>?_) (λh=>?_)<;>try simp only[RY,↓KW,seval,M,h]
         ·have V:(0:Int)<b-j:=dE h
          refine ah (hF _ _ _ Ts) ?_
          try simp only[I,RY,↓KW,seval,bo]
          refine⟨hu,?_⟩
          refine ah (hF _ _ _ Ts) ?_
          try simp only[I,RY,↓KW,seval,bj]
          simp only[gt_iff_lt]at a5⊢;rw[a5]at D;try simp only[seval,D]
          refine⟨ST,?_⟩
          refine back (j+1) _ ST ST (ai Ts ?_ ?_ ?_ ?_)<;>simp[LX,I,hnext,O]
         ·have V:¬(0:Int)<b-j:=dC h
          have:j=b.toNat:=ST
          rw[<-this,hL];refine dA () trivial ?_
          refine ai Ts ?_ ?_ ?_ ?_<;>simp[LX]
        |cons y ys=>
         simp only[dB,reduceCtorEq,ik,bt]at D M hnext;try simp only[I,RY,↓KW,seval,bG]
         refine az (λh=>?_) (λh=>?_)<;>try simp only[RY,↓KW,seval,M,h]
         ·have V:(0:Int)<b-j:=dE h
          refine ah (hF _ _ _ Ts) ?_
          try simp only[I,RY,↓KW,seval,bo]
          refine⟨hu,?_⟩
          refine ah (hF _ _ _ Ts) ?_
          try simp only[I,RY,↓KW,seval,bj]
          simp only[gt_iff_lt]at a5⊢;rw[a5]at D;try simp only[RY,seval,D,Bs.len]
          refine⟨by simp at ac⊢;omega,ST,?_⟩
          refine back (j+1) _ ST ST (ai Ts ?_ ?_ ?_ ?_)<;>simp[LX,I,hnext,O]
         ·have V:¬(0:Int)<b-j:=dC h
          have:j=b.toNat:=ST
          rw[<-this,hL];refine dA () trivial ?_
          refine ai Ts ?_ ?_ ?_ ?_<;>simp[LX]
       ·refine ai Ts ?_ ?_ ?_ ?_<;>simp[LX,I,ce,nv]
      ·intro _ _
       have n0:({aY l with extend:=0,gJ:=0,start:=0,revert:=0,least:=0,share:=0}:Tb).Ln:=⟨dV l _,cX _,dM l⟩
       have n1:({aY l with gJ:=0,start:=0,revert:=0,least:=0,share:=0}:Tb).Ln:=⟨dV l _,cX _,dM l⟩
       have n2:({aY l with start:=0,revert:=0,least:=0,share:=0}:Tb).Ln:=⟨dV l _,cX _,dM l⟩
       have n3:({aY l with revert:=0,least:=0,share:=0}:Tb).Ln:=⟨dV l _,cX _,dM l⟩
       have n4:({aY l with least:=0,share:=0}:Tb).Ln:=⟨dV l _,cX _,dM l⟩
       have n5:({aY l with share:=0}:Tb).Ln:=⟨dV l _,cX _,dM l⟩
       have s0:setCells ({aY l with extend:=0,gJ:=0,start:=0,revert:=0,least:=0,share:=0}:Tb).cells 116 [AV.int .i64 (bU l 178 12)]=({aY l with gJ:=0,start:=0,revert:=0,least:=0,share:=0}:Tb).cells:=(n0.sg (bU l 178 12)).1
       have s1:setCells ({aY l with gJ:=0,start:=0,revert:=0,least:=0,share:=0}:Tb).cells 117 [AV.int .i64 (bU l 179 40)]=({aY l with start:=0,revert:=0,least:=0,share:=0}:Tb).cells:=(n1.sg (bU l 179 40)).2.1
       have s2:setCells ({aY l with start:=0,revert:=0,least:=0,share:=0}:Tb).cells 118 [AV.int .i64 (bU l 180 8)]=({aY l with revert:=0,least:=0,share:=0}:Tb).cells:=(n2.sg (bU l 180 8)).2.2.1
       have s3:setCells ({aY l with revert:=0,least:=0,share:=0}:Tb).cells 119 [AV.int .i64 (bU l 181 8)]=({aY l with least:=0,share:=0}:Tb).cells:=(n3.sg (bU l 181 8)).2.2.2.1
       have s4:setCells ({aY l with least:=0,share:=0}:Tb).cells 120 [AV.int .i64 (bU l 182 12)]=({aY l with share:=0}:Tb).cells:=(n4.sg (bU l 182 12)).2.2.2.2
       have s5:setCells ({aY l with share:=0}:Tb).cells 130 [AV.int .i64 (bU l 183 4)]=(aY l).cells:=(n5.Gk (bU l 183 4)).2
       have k0:=n0.len
       have k1:=n1.len
       have k2:=n2.len
       have k3:=n3.len
       have k4:=n4.len
       have k5:=n5.len
       rw[co]
       generalize({aY l with extend:=0,gJ:=0,start:=0,revert:=0,least:=0,share:=0}:Tb)=T0 at*
       generalize({aY l with gJ:=0,start:=0,revert:=0,least:=0,share:=0}:Tb)=T1 at*
       generalize({aY l with start:=0,revert:=0,least:=0,share:=0}:Tb)=T2 at*
       generalize({aY l with revert:=0,least:=0,share:=0}:Tb)=T3 at*
       generalize({aY l with least:=0,share:=0}:Tb)=T4 at*
       generalize({aY l with share:=0}:Tb)=T5 at*
       have c0:117<=T0.cells.length:=ST
       have c1:118<=T1.cells.length:=ST
       have c2:119<=T2.cells.length:=ST
       have c3:120<=T3.cells.length:=ST
       have c4:121<=T4.cells.length:=ST
       have c5:131<=T5.cells.length:=ST
       try simp only[I,RY,↓KW,seval]
       refine ah (hF _ _ _ Ts) ?_
       try simp only[I,RY,↓KW,seval,c0]
       refine ah (hF _ _ _ Ts) ?_
       try simp only[I,RY,↓KW,seval,s0,c1]
       refine ah (hF _ _ _ Ts) ?_
       try simp only[I,RY,↓KW,seval,s1,c2]
       refine ah (hF _ _ _ Ts) ?_
       try simp only[I,RY,↓KW,seval,s2,c3]
       refine ah (hF _ _ _ Ts) ?_
       try simp only[I,RY,↓KW,seval,s3,c4]
       refine ah (hF _ _ _ Ts) ?_
       try simp only[I,RY,↓KW,seval,s4,s5,c5]
       have hT:aR l=Bo l (if eP t1 l N r r.toNat=[]then 0 else qj (aY l) N):=b7
       have bd:aY l=Bo l (if eP t1 l N r r.toNat=[]then 0 else qj (aY l) 0):=by
        have:(if eP t1 l N r r.toNat=[]then(0:Int)else qj (aY l) 0)=0:=by split<;>rfl
        rw[this];rfl
       replace bd:=pb Tb.cells bd
       generalize eP t1 l N r r.toNat=R at*
       refine kX (.exit 12) (λ_:Unit=>(⟨[(3,.ptr 5 0),(2,.ptr 4 0)],[(5,⟨(aR l).cells,[]⟩),(4,⟨lu.cells,[]⟩)],[],400⟩:S)) (λ_=>True) (λ_=>rfl) ?_ ?_
       ·refine aN (λk:Nat=>(⟨[(12,.dat (I k) none),(4,.dat (I N) none),(3,.ptr 5 0),(2,.ptr 4 0)],[(5,⟨(Bo l (if R=[]then 0 else qj (aY l) k)).cells,[]⟩),(4,⟨lu.cells,[]⟩)],[],400⟩:S)) (λk=>N-k) (λk=>k<=N/\(R=[]->k=0)) ?_ 0 TB ?_
        ·intro k ⟨hk,dx⟩ A back
         have O:=aG (k:=k) ST
         have db:∀w,lq (Bo l w) k=lq (aY l) k:=λ_=>rfl
         have b1:qj (aY l) (k+1)=if lq (aY l) k>qj (aY l) k then lq (aY l) k else qj (aY l) k:=rfl
         generalize au:(if R=[]then(0:Int)else qj (aY l) k)=wv at*
         have b4:(Bo l wv).Ok:=Bq rfl (dV l _) (cX _) (dM l) (nw l) (pR l) (by have:=aJ l 177 (n:=3) Ts Ts;simp only[Bo,aY,de,yj];omega)
         have ln:=b4.ln
         have ao:=ln.len
         have ab:=ln.whole
         have M:=ln.N4
         have a6:=ln.Zl
         have dd:(Bo l wv).bp=dB R:=cx
         have cr:(Bo l wv).pK=wv:=rfl
         rw[dd]at M;rw[cr]at a6
         have D:setCells (Bo l wv).cells 129 [AV.int .i64 (if lq (aY l) k>wv then lq (aY l) k else wv)]=(Bo l (if lq (aY l) k>wv then lq (aY l) k else wv)).cells:=(ln.Gk _).1
         have cv:=de R
         try simp only[I,RY,↓KW,seval]
         repeat' (((first|refine bf ?_ ?_|refine az ?_ ?_|refine bz ?_ ?_)<;>intro h)<;>try simp only[RY,↓KW,seval,M,cv,h])
         ·have a3:=dE h
          have be:(k:Int)<N:=by rename_i h1;exact dE h1
          have a7:R≠[]:=by intro e;rw[e]at a3;simp at a3
          rw[fx a7]at au;subst au;rw[<-b1]at D;try simp only[I,RY,↓KW,seval,a6,ab]
          refine ah (hw _ _ b4) ?_;try simp only[I,RY,↓KW,seval,db,<-b1,D,gt_iff_lt]
          refine⟨ST,?_⟩
          refine back (k+1) _ ⟨ST,λe=>absurd e a7⟩ ST ?_
          refine ai Ts ?_ ?_ ?_ ?_<;>simp[LX,I,a7,O]
         ·have a3:=dC h
          have b6:R=[]:=rc ST
          rw[gc b6]at au hT;subst au;refine dA () trivial ?_
          refine ai Ts ?_ ?_ ?_ ?_<;>simp[LX,hT]
         ·have be:k=N:=by have:=dC h;omega
          rw[<-be,au]at hT;refine dA () trivial ?_
          refine ai Ts ?_ ?_ ?_ ?_<;>simp[LX,hT]
        ·refine ai Ts ?_ ?_ ?_ ?_<;>simp[LX,I,bd]
       ·intro _ _
        have bm:(aR l).Ok:=Br l
        have ck:=bm.ln.len
        have cu:=bm.ln.whole
        have cb:=b3.ln.len
        have cp:setCells lu.cells 0 (aR l).cells=(aR l).cells:=gB ST
        try simp only[RY,↓KW,seval,cu,ck,cb,cp]
end
section
variable (x y:Int) (t:Tb) {p:Nat} {s:Int} {α:Type} {f:α->List AV} {l:List α} (i:Nat) (n:Int)
def bv(s:Int):BitVec 64:=BitVec.ofInt 64 s
def tb(s:Int) (i:Nat):Bool:=(bv s).getLsbD i
theorem Gm:IntKind.i64.wrap n%18446744073709551616=n%18446744073709551616:=by
 simp only[IntKind.wrap,IntKind.bits,IntKind.signed];simp
 split<;>omega
theorem EA:bv (IntKind.i64.wrap n)=bv n:=by
 unfold bv
 apply BitVec.eq_of_toNat_eq
 have:=Gm n
 simp only[M2]
 have e:((2^64:Nat):Int)=18446744073709551616:=Ts
 rw[e,this]
theorem EC(b:BitVec 64):bv (b.toNat:Int)=b:=by
 unfold bv;rw[BitVec.ofInt_natCast];simp
theorem bv_and:bv (dh .i64 x y)=bv x&&&bv y:=by
 simp only[dh,EA];exact EC _
theorem Zm:bv (qV .i64 x y)=bv x|||bv y:=by
 simp only[qV,EA];exact EC _
theorem LN:bv (bg .i64 x y)=bv x&&& ~~~(bv y):=by
 simp only[bg,EA];exact EC _
theorem wrap_zero{b:BitVec 64}:IntKind.i64.wrap (b.toNat:Int)=0↔b=0:=by
 constructor
 ·intro h
  have:=Gm (b.toNat:Int)
  rw[h]at this
  apply BitVec.eq_of_toNat_eq
  simp only[BitVec.toNat_zero,BitVec.ofNat_eq_ofNat]at*;omega
 ·rintro rfl;decide
theorem and_zero{x y:Int}:dh .i64 x y=0↔∀i,i<64->(tb x i&&tb y i)=false:=by
 rw[show dh .i64 x y=IntKind.i64.wrap ((bv x&&&bv y).toNat:Int)from rfl,wrap_zero]
 constructor
 ·intro h i A;have:=pb (λb=>b.getLsbD i) h;simpa[tb]using this
 ·intro h;apply Hn;intro i A;simpa[tb]using h i A
theorem kD{x y:Int}:bg .i64 x y=0↔∀i,i<64->(tb x i&& !tb y i)=false:=by
 rw[show bg .i64 x y=IntKind.i64.wrap ((bv x&&& ~~~(bv y)).toNat:Int)from rfl,wrap_zero]
 constructor
 ·intro h i A;have:=pb (λb=>b.getLsbD i) h;simpa[tb,A]using this
 ·intro h;apply Hn;intro i A;simpa[tb,A]using h i A
theorem kY:tb (dh .i64 x y) i=(tb x i&&tb y i):=by simp[tb,bv_and]
theorem uw:tb (qV .i64 x y) i=(tb x i||tb y i):=by simp[tb,Zm]
theorem gX(h:i<64):tb (bg .i64 x y) i=(tb x i&& !tb y i):=by simp[tb,LN,h]
theorem bX:tb 0 i=false:=by simp[tb,bv]
theorem nW:tb 255 i=decide (i<8):=by
 have:bv 255=255#64:=rfl
 simp only[tb,this,BitVec.getLsbD_ofNat]
 by_cases h:i<8
 ·have:i=0\/i=1\/i=2\/i=3\/i=4\/i=5\/i=6\/i=7:=ST
  rcases this with rfl|rfl|rfl|rfl|rfl|rfl|rfl|rfl<;>decide
 ·simp only[h,decide_false,Bool.and_eq_false_imp]
  intro _
  apply QP
  exact po (by decide:255<2^8) (nb Ts ST)
theorem ID(A:p<8) (i:Nat):tb (2^p) i=decide (i=p):=by
 have e:bv (2^p)=BitVec.twoPow 64 p:=by
  have:p=0\/p=1\/p=2\/p=3\/p=4\/p=5\/p=6\/p=7:=ST
  rcases this with rfl|rfl|rfl|rfl|rfl|rfl|rfl|rfl<;>rfl
 simp only[tb,e,BitVec.getLsbD_twoPow]
 by_cases h:i=p<;>simp[h]
 ·omega
 ·omega
theorem Bt(A:p<8) (i:Nat):tb (jc p) i=decide (i=p):=by
 have:jc p=2^p:=by simp[jc];omega
 rw[this,ID A]
theorem eF(A:p<8):dP s p=tb s p:=by
 have h:dP s p=!(dh .i64 s (jc p)==0):=rfl
 rw[h]
 cases ht:tb s p with
 |true=>
  have:¬dh .i64 s (jc p)=0:=by
   rw[and_zero];intro h;have:=h p ST;rw[ht,Bt A]at this;simp at this
  simp[this]
 |false=>
  have:dh .i64 s (jc p)=0:=by
   rw[and_zero];intro i _
   by_cases B:i=p
   ·subst B;rw[ht];rfl
   ·rw[Bt A];simp[B]
  simp[this]
theorem jl(A:p<8) (i:Nat):tb (dr s p) i=(tb s i&&decide (i<8)||decide (i=p)):=by
 simp only[dr,uw,kY,nW,Bt A]
theorem JY(l:List Int):∀k,k<=8->∀i,tb (u7 l k) i=(decide (i<k)&&decide ((i:Int)∈l))
 |0,_,i=>by simp[u7,bX]
 |k+1,h,i=>by
  have A:=JY l k ST i
  simp only[u7];split
  ·rename_i hk
   rw[uw,A,ID ST]
   by_cases e:i=k
   ·subst e;simp[hk]
   ·have:(i<k+1)↔i<k:=ST
    simp[e,this]
  ·rename_i hk
   rw[A]
   by_cases e:i=k
   ·subst e;simp[hk]
   ·have:(i<k+1)↔i<k:=ST
    simp[this]
theorem Dw(l:List Int) (i:Nat):tb (RE l) i=(decide (i<8)&&decide ((i:Int)∈l)):=JY l 8 ST i
theorem ve(s:Int) {p:Nat} (R:p<64):tb s p=decide (s.fdiv (2^p)%2=1):=by
 have e:(bv s).toNat=(s%18446744073709551616).toNat:=by
  simp only[bv,M2];rfl
 have L:tb s p=(bv s).toNat.testBit p:=rfl
 rw[L,e,Nat.testBit_eq_decide_div_mod_eq]
 congr 1
 have B:s.fdiv (2^p)=s/2^p:=LT _ (Int.le_of_lt (Int.pow_pos Ts))
 rw[B,eq_iff_iff]
 have M:0<=s%18446744073709551616:=Int.emod_nonneg _ Ts
 have O:(((s%18446744073709551616).toNat/2^p%2:Nat):Int)=(s%18446744073709551616)/2^p%2:=by
  push_cast [tl M];rfl
 have key:(s%18446744073709551616)/2^p%2=s/2^p%2:=by
  have A:(18446744073709551616:Int)=2^p*(2*2^(63-p)):=by
   rw[show(2:Int)^p*(2*2^(63-p))=2^(p+(1+(63-p)))by rw[Int.pow_add,Int.pow_add];rfl,show p+(1+(63-p))=64 by omega];rfl
  have D:s=s%18446744073709551616+2^p*(2*2^(63-p)*(s/18446744073709551616)):=by
   have:=Int.emod_add_mul_ediv s 18446744073709551616
   rw[<-Int.mul_assoc,<-Int.mul_assoc,Int.mul_assoc (2^p),<-A];omega
  conv=>rhs;rw[D]
  rw[Int.add_mul_ediv_left _ _ (Int.ne_of_gt (Int.pow_pos Ts)),Int.mul_assoc,Int.add_mul_emod_self_left]
 rw[<-key,<-O];omega
theorem Bu:dh .i64 x 1=if tb x 0 then 1 else 0:=by
 have e:dh .i64 x 1=IntKind.i64.wrap ((bv x&&&1#64).toNat:Int):=rfl
 have B:bv x&&&1#64=if tb x 0 then 1#64 else 0#64:=by
  apply Hn
  intro i D;simp only[BitVec.getLsbD_and,BitVec.getLsbD_one]
  by_cases h:i=0
  ·subst h;cases A:tb x 0<;>simp[tb]at A⊢<;>simp[A]
  ·split<;>simp[h,BitVec.getLsbD_one]
 rw[e,B];split<;>decide
theorem z5(B:p<8):mA s p=tb s p:=by
 have A:tb (s.fdiv (2^p)) 0=tb s p:=by
  rw[ve _ ST,ve _ ST]
  simp
 simp only[mA,j9,Bu,A]
 have:(p:Int)<8:=ST
 cases tb s p<;>simp[this]
theorem wI(A:Int->Ph->Bool) (ps:List Ph):∀k,k<=8->∀i,tb (fh A ps k) i=(decide (i<k)&&((ps.getD i default).on&&A i (ps.getD i default)))
 |0,_,i=>by simp[fh,bX]
 |k+1,h,i=>by
  have B:=wI A ps k ST i
  simp only[fh];split
  ·rename_i hk
   rw[jl ST,B]
   by_cases e:i=k
   ·subst e;simpa using hk
   ·have:(i<k+1)↔i<k:=ST
    simp[e,this];omega
  ·rename_i hk
   rw[B]
   by_cases e:i=k
   ·subst e;simp at hk⊢;exact hk
   ·have:(i<k+1)↔i<k:=ST
    simp[this]
theorem JZ:tb (qW t) i=(decide (i<8)&&(aD t i).on):=by
 rw[qW,Dw]
 by_cases h:i<8
 ·have:((i:Int)∈tX t 8)↔(aD t i).on=true:=by
   simp only[tX,sa,kp,ib]
   exact⟨λh=>h.2,λA=>⟨⟨i,h,rfl⟩,A⟩⟩
  simp[h,this]
 ·simp[h]
theorem ED:t.phases.getD i default=aD t i:=by simp[aD]
theorem iE{n:Nat} (h:∀k,(f k).length=n):∀x∈l.map f,x.length=n:=by
 intro x A;obtain⟨k,_,rfl⟩:=kp.1 A;exact h k
theorem nX{i:Nat} {x:List AV} (h:(l.map f)[i]? =some x):∃k,l[i]? =some k/\x=f k:=by
 rw[jp,em]at h;obtain⟨k,A,B⟩:=h;exact⟨k,A,B.symm⟩
theorem iF{C:bk} {g:bn} {ps wr:List Nat} {as V:aZ} {Q:Exit->S->Prop} {s:S} {B:AV} {xs:List (List AV)} (hd:α->S) (I:Nat->α->Prop) (M:C.i B xs) (hg:aF s g=some B) (A:∀x∈xs,x.length=ps.length) (D:∀y,aF (hd y) g=some B) (round:∀i x y,xs[i]? =some x->I i y->∀F:S->Prop,(∀z s,I (i+1) z->Le s (hd z)->Eng.down F s)->aw C as (Fz (aw C V (MH wr F Q))) (rq ps x (hd y))) (fin:∀y,I xs.length y->Q .normal (hd y)) (R:α) (L:I 0 R) (h0:Le s (hd R)):aw C (.zQ g ps wr as V) Q s:=
 Rk hd I hg M A (.inl h0) L D (λi x y hx Z=>round i x y hx Z _ λz s hz O=>oZ O ⟨z,rfl,hz⟩) fin
end
section
open Z
def bL:List AV:=(⟨_,by conv=>lhs;cbv⟩:cB (PK [(0,7),(1,2),(0,3)])).1
def qk(A:Nat):cj:=(⟨_,by conv=>lhs;cbv⟩:cB (cM 24 [.tmp 6] [A] [0,1] 0xa180fc840c20fca08c3013238e17e45104021c3041420882710e0280be780088b0bc545e282f1317890bc445e202ff0ff46e66e10603811018b860c5f260606204143a4003213407b30 [[.int .i64 0]])).1
def qm(B L A D:Nat):cj:=(⟨_,by conv=>lhs;cbv⟩:cB (cM 34 [.tmp 8] [B,L,D] [0] 0xa424042000ca302223039805edd33c8d64213ca08c3040be24322f12fa88b90c0bf8146de42382f1b178d0bc645f6302f1717b8c0bc5c5e4180e104260243031f0b2f4c18bd3a60c5f4445f06031020a1d20650210200808202f1823a8bd388115e4d40c084369b409b40 [[.int .i64 0],[.int .i64 0,.int .i64 0]] [] [.xN (.func A) [] [.t 4]])).1
def oz(B L A D:Nat):cj:=(⟨_,by conv=>lhs;cbv⟩:cB (cM 34 [.tmp 8] [B,A,D] [0,255] 0x5100ae420610ae50661809818206715723082010a0f8128e7901000b8be6a02e42c2fe051c790900bc7c5e3c2f1d178e0bc6c5e342f19178c0bc5c5f82c2f1517e8b0bc545e4180e104460243131f0b2f4c18bd3a60c5fbc3f06031020a3dc4a1d097870203300bd6c180084369b409b40 [[.int .i64 0],[.int .i64 0,.int .i64 0]] [.fn (.func L) [] []])).1
def qn(B D A:Nat):cj:=(⟨_,by conv=>lhs;cbv⟩:cB (cM 66 [.cell 10 (some 6)] [B,D,A] [0,15,1] 0x560ae56be920614051460885f1020ef1673c17818410170bc1428e04251fc882b901529672b7e1a0244283e441460543ce10446e5e2f9f00a028a60442f888808c10508220dc59c39c985e091040402f0010f0f8c10508220dc44845e060271721f17f028f484785ff0020802f3f179f0bcf45e782f2e179d8bce85e722f38179b8bcd85e6a2f3417998bcc85e622f3017978bcb45e582f2b17950bca45e502f2717930bc805e4a2f2417918bc885e422fdc1f178f0bc945e3e2f1e1790603890223418bd7a480d848156f88044c08b7c4a2087c2206c204156f88841138a8bc0206c282fe050b780aa0a1060115b88090c0cfc8cdd3062fbd0900a7c6a340bb40 [[.int .i64 0,.int .i64 0,.int .i64 0,.int .i64 0,.int .i64 0,.int .i64 0],[.int .i64 0,.int .i64 0]])).1
def qq(A:Nat):cj:=(⟨_,by conv=>lhs;cbv⟩:cB (cM 6 [.tmp 4] [] [] 0x142001c401b0b405b30 [] [.ie] [.xN (.func A) [] [.t 2,.t 3]])).1
def oA(A:Nat):cj:=⟨21,[.tmp 4],r [o 2 (w 0),V 4 (i 0)] (r [V 5 (i 0)] (j (r [o 8 (L 2 96),V 9 (i 0)] (u 0 (.loop (r [o 10 (bb .lss 9 (i 8))] (j (c 10 z (.exit 0)) (j (u 1 (r [M 11 9,o 12 (.HL (t 8) (t 9) 8 12 (some 12)),o 7 (.alloc bL),M 6 11,n (s 7 12 12)] (r [M 13 1,o 14 (L 7 12),o 15 (.jx (t 13) [t 14])] (c 15 (R [M 16 5,M 17 6,o 18 (.call A [t 16,t 17]),M 5 18]) z)))) (R [o 19 (bb .add 9 (i 1)),M 9 19]))))))) (r [M 20 5,M 4 20] y)))⟩
def ny:cj:=(⟨_,by conv=>lhs;cbv⟩:cB (cM 14 [.tmp 3] [] [1] 0xa0c1428e09b241b5d05e3d2816b50a0102141f04022b09805b20)).1
def mF:cj:=(⟨_,by conv=>lhs;cbv⟩:cB (cM 6 [.tmp 2] [] [1] 0x504002141f0402240981a20)).1
def qy:cj:=(⟨_,by conv=>lhs;cbv⟩:cB (cM 7 [.tmp 2] [] [0,1] 0xa080240062e0720a8004810 [] [] [.mm true [.t 3,.k (.int .i64 0)],.mm false [.t 4,.k (.int .i64 9999)]])).1
end
structure Rd where
 lock:List Int
 was:Int
 dR:Int
 deriving Inhabited,DecidableEq
def Rd.cells(s:Rd):List AV:=s.lock.map I++[I s.was,I s.dR]
structure Rn where
 ay:Int
 time:Int
 fst:Int
 bu:Int
 left:Int
 d6:Int
 extra:Int
 done:Bool
 jB:Bool
 limit:Int
 up:Int
 down:Int
 deriving Inhabited,DecidableEq
def Rn.cells(r:Rn):List AV:=[I r.ay,I r.time,I r.fst,I r.bu,I r.left,I r.d6,I r.extra,B r.done,B r.jB,I r.limit,I r.up,I r.down]
theorem Rn.len(r:Rn):r.cells.length=12:=rfl
section
variable (t:Tb) (C:bk) (s:Rd) (l:List Rn) (n ask:Int) (f k:Nat) (r:Rn)
def cE:List AV:=l.flatMap Rn.cells
theorem c7{l:List Rn} (h:l.length=8):(cE l).length=96:=by rw[cE,aM Rn.len,h]
def pS:Int:=s.lock.getD k 0
def qA:Bs:=(t.jz.getD []).getD k default
def mG:Nat:=min (t.jz.getD []).length 4
def ij(s:Int):List Nat:=(List.range (mG t)).filter λk=>tb s k
def nY:List AV:=[I k,.agg (qA t k).cells]
theorem Rd.at{s:Rd} (h:s.lock.length=4) {k:Nat} (hk:k<4):s.cells[k]? =some (I (pS s k)):=by
 have A:k<s.lock.length:=ST
 simp[Rd.cells,sh,A,pS]
theorem Rd.V1{s:Rd} (h:s.lock.length=4):s.cells[4]? =some (I s.was):=by simp[Rd.cells,h]
theorem Rd.sn{s:Rd} (h:s.lock.length=4):s.cells[5]? =some (I s.dR):=by simp[Rd.cells,h]
theorem Rd.len{s:Rd} (h:s.lock.length=4):s.cells.length=6:=by simp[Rd.cells,h]
theorem Rd.whole{s:Rd} (h:s.lock.length=4):aH s.cells 0 (some 6)=some (.agg s.cells):=by
 have:=Rd.len h
 simp[aH,this];rw[<-this,l0]
theorem gl{l:List Rn} (h:l.length=8):aH (cE l) 0 (some 96)=some (.agg (cE l)):=by
 have:=c7 h
 simp[aH,this];rw[<-this,l0]
theorem jm{l:List Rn} {k:Nat} (h:l.length=8) (hk:k<8):aH (cE l) (k*12) (some 12)=some (.agg (l.getD k default).cells):=by
 have A:l[k]? =some (l.getD k default):=by
  have:k<l.length:=ST
  simp[this]
 rw[cE,jT A]
 exact gq (by rw[aM Rn.len,kB A]) rfl
theorem Gn{t:Tb} {s:Int} {i k:Nat} (h:(ij t s)[i]? =some k):k<4/\k<(t.jz.getD []).length/\tb s k=true:=by
 have:=ev h
 simp only[ij,sa,ib,mG]at this
 exact⟨ST,ST,this.2⟩
def Bv.Spec:Prop:=∀n:Int,C.c f [I n] (I (bO ((if 9999<(if 0>n then 0 else n)then 9999 else(if 0>n then 0 else n))+1))) none
def each.Spec:Prop:=∀(t:Tb) (s:Int),t.Ok->∃g,C.c f [.agg t.cells,I s] (.fn (.func g) [] [.ref t.cells,.ref [I s]]) none/\C.i (.fn (.func g) [] [.ref t.cells,.ref [I s]]) ((ij t s).map (nY t))
def Gp:Int:=if pS s k<=0 then qV .i64 n (2^k)else n
def oB:Int:=(ij t ask).foldl (Gp s) 0
def Live.Spec:Prop:=∀(t:Tb) (s:Rd) (ask:Int),t.Ok->s.lock.length=4->C.c f [.agg t.cells,.agg s.cells,I ask] (I (oB t s ask)) none
def iw(A:Rn->Bool) (l:List Rn):Nat->Int
 |0=>0
 |k+1=>if A (l.getD k default)then dr (iw A l k) k else iw A l k
def tJ.Spec:Prop:=∀(l:List Rn) (g:Nat) (caps:List AV) (A:Rn->Bool),l.length=8->(∀r:Rn,C.c g (.agg r.cells::caps) (B (A r)) none)->C.c f [.agg (cE l),.fn (.func g) [] caps] (I (iw A l 8)) none
def Gq:Int:=qV .i64 n (qA t k).set
def Bw:Bool:=r.ay==1&&decide (r.extra<t.extend)
def wJ:Int:=if s.dR>=t.gJ then 0 else dh .i64 ((ij t (oB t s ask)).foldl (Gq t) 0) (iw (Bw t) l 8)
def Gs.Spec:Prop:=∀(t:Tb) (r:Rn),t.Ok->C.c f [.agg r.cells,.ref t.cells] (B (Bw t r)) none
def N7.Spec:Prop:=∀(t:Tb) (s:Rd) (l:List Rn) (ask:Int),t.Ok->s.lock.length=4->l.length=8->C.c f [.agg t.cells,.agg s.cells,.agg (cE l),I ask] (I (wJ t s l ask)) none
def tK:Bool:=r.ay==1
def Bx.Spec:Prop:=∀(r:Rn),C.c f [.agg r.cells] (B (tK r)) none
def By(green n:Int) (k:Nat):Int:=if dh .i64 (qA t k).set green==0 then qV .i64 n (bg .i64 255 (qA t k).set)else n
def yl:Int:=(ij t (oB t s ask)).foldl (By t (iw tK l 8)) 0
def Early.Spec:Prop:=∀(t:Tb) (s:Rd) (l:List Rn) (ask:Int),t.Ok->s.lock.length=4->l.length=8->C.c f [.agg t.cells,.agg s.cells,.agg (cE l),I ask] (I (yl t s l ask)) none
theorem vf{α:Type} {f:Int->α->Int} {b:Int} {l:List α} {i:Nat} {x:α} (h:l[i]? =some x):(l.take (i+1)).foldl f b=f ((l.take i).foldl f b) x:=lU h
theorem N8{k:Nat} (hk:k<8):IntKind.i64.wrap (1*2^min k IntKind.i64.bits)=2^k:=by
 have:k=0\/k=1\/k=2\/k=3\/k=4\/k=5\/k=6\/k=7:=ST
 rcases this with rfl|rfl|rfl|rfl|rfl|rfl|rfl|rfl<;>decide
theorem Tb.LO{t:Tb} (ht:t.Ok):t.cells[116]? =some (I t.extend):=by
 simp[Tb.cells,sh,aM Ph.len,ht.phases,ht.conflict]
theorem Tb.LP{t:Tb} (ht:t.Ok):t.cells[117]? =some (I t.gJ):=by
 simp[Tb.cells,sh,aM Ph.len,ht.phases,ht.conflict]
end
section
variable{P:Program} (hm:P.follows .mixedOrders=true) {f:Nat}
include hm
theorem Bv.ok(A:bY P f=some qy):Bv.Spec (Pure P) f:=by
 intro n;refine aq hm A [] rfl ?_;try simp only[I,RX,↓KW,seval,qy,Z.H]
 rfl
theorem Bx.ok(A:bY P f=some mF):Bx.Spec (Pure P) f:=by
 intro r;refine aq hm A [] rfl ?_;try simp only[I,B,RX,↓KW,seval,mF,Z.H,Rn.cells]
 rfl
theorem Gs.ok(D:bY P f=some ny):Gs.Spec (Pure P) f:=by
 intro t r ht
 have A:(t.cells.drop 116)[0]? =some (AV.int .i64 t.extend):=by rw[lh];exact Tb.LO ht
 refine aq hm D [] rfl ?_;try simp only[I,B,RX,↓KW,seval,ny,Z.H,Rn.cells]
 repeat' (((first|refine bf ?_ ?_|refine az ?_ ?_|refine bz ?_ ?_)<;>intro h)<;>try simp only[RX,↓KW,seval,A,h])
 all_goals simp_all [Bw]
theorem tJ.ok{fW:Nat} (hc:bY P f=some (oA fW)) (hW:gC.Spec (Pure P) fW):tJ.Spec (Pure P) f:=by
 intro l g caps D hl hg
 have M:=gl hl
 refine aq hm hc [] rfl ?_;try simp only[I,RX,↓KW,seval,oA,Z.H,M]
 refine aN (λk:Nat=>(⟨[(9,.dat (I k) none),(5,.dat (I (iw D l k)) none),(8,.dat (.agg (cE l)) none),(1,.dat (.fn (.func g) [] caps) none)],[],[],400⟩:S)) (λk=>8-k) (λk=>k<=8) ?_ 0 ST ?_
 ·intro k hk A back
  have V:=aG (k:=k) ST
  try simp only[I,RX,↓KW,seval]
  refine az (λh=>?_) (λh=>?_)<;>try simp only[RX,↓KW,seval,h]
  ·have h8:k<8:=by have:=dE h;omega
   have R:=jm hl h8
   have hn:iw D l (k+1)=if D (l.getD k default)then dr (iw D l k) k else iw D l k:=rfl
   have O:=hg (l.getD k default)
   generalize l.getD k default=r at*
   have hp:aH r.cells 0 (some 12)=some (.agg r.cells):=rfl
   try simp only[RX,↓KW,seval,R,bL,Rn.len,hp]
   refine⟨ST,?_⟩
   refine ah O ?_;try simp only[B,RX,↓KW,seval]
   refine az (λL=>?_) (λL=>?_)<;>try simp only[B,RX,↓KW,seval,L]
   ·refine ah (hW _ _) ?_
    try simp only[I,RX,↓KW,seval]
    refine back (k+1) _ ST ST (ai Ts ?_ ?_ ?_ ?_)<;>simp[LX,I,V,hn,L]
   ·refine back (k+1) _ ST ST (ai Ts ?_ ?_ ?_ ?_)<;>simp[LX,I,V,hn,L]
  ·have:k=8:=by have:=dC h;omega
   subst this;try simp only[seval]
 ·refine ai Ts ?_ ?_ ?_ ?_<;>simp[LX,I,iw]
theorem Live.ok{L:Nat} (R:bY P f=some (qk L)) (hE:each.Spec (Pure P) L):Live.Spec (Pure P) f:=by
 intro t s ask ht V
 have M:=Tb.whole ht
 refine aq hm R [] rfl ?_;try simp only[I,RX,↓KW,seval,qk,Z.H,M]
 obtain⟨g,hg,hi⟩:=hE t ask ht;refine ah hg ?_;try simp only[I,RX,seval]
 refine iF (λn:Int=>(⟨[(11,.dat (.fn (.func g) [] [.ref t.cells,.ref [.int .i64 ask]]) none),(4,.ptr 5 0),(7,.ptr 7 0)],[(5,⟨s.cells,[]⟩),(7,⟨[I n],[]⟩)],[],400⟩:S)) (λi n=>n=((ij t ask).take i).foldl (Gp s) 0) hi rfl (iE λ_=>rfl) (λ_=>rfl) ?_ ?_ 0 TB ?_
 ·rintro i x n hx rfl F back
  obtain⟨k,hk,rfl⟩:=nX hx;obtain⟨O,aa,hb⟩:=Gn hk
  have D:=Rd.at V O
  have B:=vf (f:=Gp s) (b:=0) hk
  have A:=N8 (k:=k) ST
  try simp only[I,RX,↓KW,seval,nY,D]
  refine⟨ST,?_⟩
  refine az (λh=>?_) (λh=>?_)<;>try simp only[RX,↓KW,seval,h]
  ·try simp only[seval,A]
   refine⟨ST,back _ _ rfl ?_⟩
   refine ai Ts ?_ ?_ ?_ ?_<;>simp[LX,I,B,Gp,dE h]
  ·refine back _ _ rfl ?_
   refine ai Ts ?_ ?_ ?_ ?_<;>simp[LX,I,B,Gp,dC h]
 ·rintro n B
  try simp only[I,RX,↓KW,seval,B]
  simp[oB]
 ·refine ai Ts ?_ ?_ ?_ ?_<;>simp[LX,I]
theorem N7.ok{fL fE f1 fT:Nat} (hc:bY P f=some (qm fL fE f1 fT)) (hL:Live.Spec (Pure P) fL) (hE:each.Spec (Pure P) fE) (h1:Gs.Spec (Pure P) f1) (hT:tJ.Spec (Pure P) fT):N7.Spec (Pure P) f:=by
 intro t s l ask ht L B
 have hp:=Tb.whole ht
 have aa:=Rd.whole L
 have R:s.cells[5]? =some (AV.int .i64 s.dR):=Rd.sn L
 have V:t.cells[117]? =some (AV.int .i64 t.gJ):=Tb.LP ht
 have O:=gl B
 refine aq hm hc [] rfl ?_;try simp only[I,RX,↓KW,seval,qm,Z.H,R,V]
 refine az (λA=>?_) (λA=>?_)<;>try simp only[RX,↓KW,seval,hp,aa,A]
 ·have:=dE A
  simp[wJ,this]
 ·have D:=dC A
  refine ah (hL t s ask ht L) ?_;try simp only[I,RX,↓KW,seval]
  obtain⟨g,hg,hi⟩:=hE t (oB t s ask) ht
  refine ah hg ?_;try simp only[I,RX,seval]
  refine iF (λn:Int=>(⟨[(22,.dat (.fn (.func g) [] [.ref t.cells,.ref [.int .i64 (oB t s ask)]]) none),(4,.ptr 4 0),(6,.ptr 6 0),(9,.ptr 13 0)],[(4,⟨t.cells,[]⟩),(6,⟨cE l,[]⟩),(13,⟨[I n],[]⟩)],[],400⟩:S)) (λi n=>n=((ij t (oB t s ask)).take i).foldl (Gq t) 0) hi rfl (iE λ_=>rfl) (λ_=>rfl) ?_ ?_ 0 TB ?_
  ·rintro i x n hx rfl F back
   obtain⟨k,hk,rfl⟩:=nX hx
   have M:=vf (f:=Gq t) (b:=0) hk
   try simp only[I,RX,↓KW,seval,nY,Bs.cells]
   refine back _ _ rfl ?_
   refine ai Ts ?_ ?_ ?_ ?_<;>simp[LX,I,M,Gq]
  ·rintro n M
   try simp only[I,RX,↓KW,seval,M]
   refine p9 (by rfl) ?_
   try simp only[RX,↓KW,seval,O]
   refine⟨rfl,ah (hT l f1 [.ref t.cells] (Bw t) B (λr=>h1 t r ht)) ?_⟩
   try simp only[I,RX,↓KW,seval]
   simp[wJ,D]
  ·refine ai Ts ?_ ?_ ?_ ?_<;>simp[LX,I]
theorem Early.ok{O f1 V M:Nat} (hc:bY P f=some (oz O f1 V M)) (hT:tJ.Spec (Pure P) O) (h1:Bx.Spec (Pure P) f1) (hL:Live.Spec (Pure P) V) (hE:each.Spec (Pure P) M):Early.Spec (Pure P) f:=by
 intro t s l ask ht R A
 have hp:=Tb.whole ht
 have L:=Rd.whole R
 have D:=gl A
 refine aq hm hc [] rfl ?_;try simp only[I,RX,↓KW,seval,oz,Z.H,D]
 refine ah (hT l f1 [] tK A h1) ?_;try simp only[I,RX,↓KW,seval,hp,L]
 refine ah (hL t s ask ht R) ?_;try simp only[I,RX,↓KW,seval]
 obtain⟨g,hg,hi⟩:=hE t (oB t s ask) ht
 refine ah hg ?_;try simp only[I,RX,seval]
 refine iF (λn:Int=>(⟨[(20,.dat (.fn (.func g) [] [.ref t.cells,.ref [.int .i64 (oB t s ask)]]) none),(9,.ptr 10 0),(10,.ptr 11 0)],[(10,⟨[I (iw tK l 8)],[]⟩),(11,⟨[I n],[]⟩)],[],400⟩:S)) (λi n=>n=((ij t (oB t s ask)).take i).foldl (By t (iw tK l 8)) 0) hi rfl (iE λ_=>rfl) (λ_=>rfl) ?_ ?_ 0 TB ?_
 ·rintro i x n hx rfl F back
  obtain⟨k,hk,rfl⟩:=nX hx
  have B:=vf (f:=By t (iw tK l 8)) (b:=0) hk
  try simp only[I,RX,↓KW,seval,nY,Bs.cells]
  refine az (λh=>?_) (λh=>?_)<;>try simp only[RX,↓KW,seval,h]
  ·refine back _ _ rfl ?_
   refine ai Ts ?_ ?_ ?_ ?_<;>simp[LX,I,B,By,h]
  ·refine back _ _ rfl ?_
   refine ai Ts ?_ ?_ ?_ ?_<;>simp[LX,I,B,By,h]
 ·rintro n B
  try simp only[I,RX,↓KW,seval,B]
  simp[yl]
 ·refine ai Ts ?_ ?_ ?_ ?_<;>simp[LX,I]
def Gt.Spec(C:bk) (f:Nat):Prop:=∀(t:Tb) (s:Int),t.Ok->C.i (.fn (.func f) [] [.ref t.cells,.ref [I s]]) ((ij t s).map (nY t))
theorem each.ok{f1:Nat} (B:bY P f=some (qq f1)) (A:Gt.Spec (Pure P) f1):each.Spec (Pure P) f:=by
 intro t s ht;refine⟨f1,?_,A t s ht⟩;refine aq hm B [] rfl ?_;try simp only[I,RX,↓KW,seval,qq,Z.H]
 simp
end
section
variable (t:Tb) (s:Rd) (ask A:Int) (held:Bool) {k:Nat} (i:Nat) (round:Bool)
theorem EE(x:Int) (hk:k<8):dh .i64 (x.fdiv (2^min k IntKind.i64.bits)) 1=if tb x k then 1 else 0:=by
 have e:min k IntKind.i64.bits=k:=by have:IntKind.i64.bits=64:=rfl;omega
 have A:tb (x.fdiv (2^k)) 0=tb x k:=by
  rw[ve _ ST,ve _ ST]
  simp
 rw[e,Bu,A]
def Ti(n:Int):Int:=bO ((if 9999<(if 0>n then 0 else n)then 9999 else(if 0>n then 0 else n))+1)
def Bz(k:Nat):Int:=if pS s k>0 then bO (pS s k-1)else if tb s.was k&& !tb ask k then(qA t k).lock else 0
def sq:List Int:=(List.range 4).map λk=>if k<i then Bz t s ask k else 0
def IE:Int:=if held then Ti (if round then 0 else s.dR)else if round then 0 else s.dR
def su:Rd:=⟨sq t s ask (mG t),oB t s ask,IE s held round⟩
def BA.Spec(C:bk) (f:Nat):Prop:=∀(t:Tb) (s:Rd) (ask:Int) (held round:Bool),t.Ok->s.lock.length=4->C.c f [.agg t.cells,.agg s.cells,I ask,B held,B round] (.agg (su t s ask held round).cells) none
theorem Gu:ij t 15=List.range (mG t):=by
 rw[ij,List.filter_eq_self];intro k hk;simp only[ib,mG]at hk
 have:k=0\/k=1\/k=2\/k=3:=ST
 rcases this with rfl|rfl|rfl|rfl<;>decide
def sw:List AV:=(⟨sq t s ask i,oB t s ask,A⟩:Rd).cells
theorem N9(hk:k<4):setCells (sw t s ask A k) k [AV.int .i64 (Bz t s ask k)]=sw t s ask A (k+1):=by
 have:k=0\/k=1\/k=2\/k=3:=ST
 rcases this with rfl|rfl|rfl|rfl<;>simp[sw,Rd.cells,sq,setCells,lm]
theorem LQ(hk:k<4) (h:Bz t s ask k=0):sw t s ask A k=sw t s ask A (k+1):=by
 have:k=0\/k=1\/k=2\/k=3:=ST
 rcases this with rfl|rfl|rfl|rfl<;>simp[sw,Rd.cells,sq,lm,h]
theorem abx(a b c d:AV):setCells [a,b] 0 [c,d]=[c,d]:=rfl
theorem wK:(sw t s ask A i).length=6:=by simp[sw,Rd.cells,sq]
end
section
variable{P:Program} (hm:P.follows .mixedOrders=true) {f:Nat}
include hm
theorem BA.ok{fL fM fE:Nat} (hc:bY P f=some (qn fL fM fE)) (hL:Live.Spec (Pure P) fL) (hM:Bv.Spec (Pure P) fM) (hE:each.Spec (Pure P) fE):BA.Spec (Pure P) f:=by
 intro t s ask held round ht hs
 have hp:=Tb.whole ht
 have ac:=Rd.whole hs
 have au:s.cells[5]? =some (AV.int .i64 s.dR):=Rd.sn hs
 have ag:s.cells[4]? =some (AV.int .i64 s.was):=Rd.V1 hs
 obtain⟨A,R⟩:∃A,A=IE s held round:=⟨_,rfl⟩
 refine aq hm hc [] rfl ?_;try simp only[I,B,RX,↓KW,seval,qn,Z.H,hp,ac]
 refine ah (hL t s ask ht hs) ?_
 cases held<;>cases round
 all_goals
  try simp only[I,RX,↓KW,seval,hp,au]
  repeat' (first|(refine ah (hM _) ?_;try simp only[I,RX,↓KW,seval,hp])|(((first|refine bf ?_ ?_|refine az ?_ ?_|refine bz ?_ ?_)<;>intro h)<;>try simp only[I,B,D,RX,↓KW,seval,hp,ac,h]))
  obtain⟨g,hg,hi⟩:=hE t 15 ht;refine ah hg ?_;try simp only[I,RX,seval]
  refine iF (λy:Nat=>(⟨[(29,.dat (.fn (.func g) [] [.ref t.cells,.ref [.int .i64 15]]) none),(6,.ptr 5 0),(11,.ptr 15 0),(7,.ptr 6 0),(10,.ptr 7 0)],[(5,⟨s.cells,[]⟩),(15,⟨sw t s ask A y,[]⟩),(6,⟨[I ask],[]⟩),(7,⟨[I 0,I 0,I 0,I 0,I 0,I 0],[]⟩)],[],400⟩:S)) (λi y=>y=i/\i<=mG t) hi rfl (iE λ_=>rfl) (λ_=>rfl) ?_ ?_ 0 TB ?_
  ·rintro i x y hx ⟨rfl,a2⟩ F back
   obtain⟨k,hk,rfl⟩:=nX hx;obtain⟨h4,a3,hb⟩:=Gn hk
   have ak:y=k:=by
    rw[Gu]at hk
    have h1:=(e9.1 hk).1
    rw[kh (by simpa using h1)]at hk
    simpa using hk
   subst ak
   have ad:=Rd.at hs h4
   have an:=EE s.was (k:=y) ST
   have ao:=EE ask (k:=y) ST
   have M:=N9 t s ask A h4
   have O:=LQ t s ask A h4
   have V:y+1<=mG t:=by simp only[mG];omega
   try simp only[I,RY,↓KW,seval,nY,ad,Bs.cells]
   refine⟨ST,?_⟩
   refine az (λh=>?_) (λh=>?_)<;>try simp only[RY,↓KW,seval,h]
   ·have hN:Bz t s ask y=IntKind.i64.wrap (pS s y-1):=by simp[Bz,bO,dE h]
    rw[hN]at M;try simp only[I,RY,↓KW,seval,ad,wK,M]
    refine⟨ST,ST,ST,back (y+1) _ ⟨rfl,V⟩ ?_⟩
    refine ai Ts ?_ ?_ ?_ ?_<;>simp[LX,I]
   ·have h':=dC h
    try simp only[RY,↓KW,seval,ag,an]
    cases ae:tb s.was y<;>cases aa:tb ask y
    all_goals
     have hN:Bz t s ask y=if tb s.was y&& !tb ask y then(qA t y).lock else 0:=by simp[Bz,h']
     rw[hN,ae,aa]at M;rw[hN,ae,aa]at O;try simp only[RY,↓KW,seval,aa,ao,abx,wK]
     repeat' (refine cG ST ?_)
     refine back (y+1) _ ⟨rfl,V⟩ ?_
    ·have L:=O TB
     refine ai Ts ?_ ?_ ?_ ?_<;>simp[LX,I,L]
    ·have L:=O TB
     refine ai Ts ?_ ?_ ?_ ?_<;>simp[LX,I,L]
    ·simp only[ma,wn,kv]at M
     refine ai Ts ?_ ?_ ?_ ?_<;>simp[LX,I,M]
    ·have L:=O TB
     refine ai Ts ?_ ?_ ?_ ?_<;>simp[LX,I,L]
  ·rintro y ⟨rfl,a2⟩
   have e:(ij t 15).length=mG t:=by rw[Gu];simp
   have ab:=wK t s ask A (mG t)
   have al:(sw t s ask A (mG t)).take 6=sw t s ask A (mG t):=by rw[my];omega
   have ar:setCells [AV.int .i64 0,AV.int .i64 0,AV.int .i64 0,AV.int .i64 0,AV.int .i64 0,AV.int .i64 0] 0 (sw t s ask A (mG t))=sw t s ask A (mG t):=gB (by rw[ab];rfl)
   have am:aH (sw t s ask A (mG t)) 0 (some 6)=some (.agg (sw t s ask A (mG t))):=by simp[aH,ab,al]
   try simp only[I,RY,↓KW,seval,e,wK,ar,am]
   simp[sw,su,R]
  ·refine ai Ts ?_ ?_ ?_ ?_<;>simp[LX,I,R,IE,Ti,bO,sw,Rd.cells,sq,lm]
def tL(l:List Rn):Nat->Int
 |0=>0
 |k+1=>if(l.getD k default).ay=1 then gw (tL l k) k else tL l k
end
section
open Z
def ux:cj:=(⟨_,by conv=>lhs;cbv⟩:cB (cM 15 [.tmp 2,.tmp 3] [] [0] 0xab01005c0e02e4376060659801208010243f410e3c38cb058087010178d85c0e6004820 [] [.float .f64 0,.float .f64 4652006429231887155,.float .f64 4621819117588971520] [.xt .rte (.t 12),.Ft .i64 (.t 13)])).1
end
open Ieee
set_option exponentiation.threshold 4000
section
variable (n N d q:Nat)
def tM:Nat:=n/2^d+(if 2^d<2*(n%2^d)\/(2^d=2*(n%2^d)/\n/2^d%2=1)then 1 else 0)
theorem bT:0<2^d:=Nat.two_pow_pos d
theorem Oa:tM n d<=n/2^d+1:=by unfold tM;split<;>omega
theorem Ob:n/2^d<=tM n d:=by unfold tM;omega
theorem Oc:tM n 0=n:=by simp[tM,Nat.mod_one]
theorem lV(k:Nat):tM (n*2^k) (d+k)=tM n d:=by
 unfold tM;rw[kw,Nat.mul_div_mul_right _ _ (bT k),Nat.mul_mod_mul_right]
 have hk:=bT k
 have B:(2^d*2^k<2*(n%2^d*2^k))↔(2^d<2*(n%2^d)):=by
  rw[<-mn];exact Nat.mul_lt_mul_right hk
 have A:(2^d*2^k=2*(n%2^d*2^k))↔(2^d=2*(n%2^d)):=by
  rw[<-mn];exact Nat.mul_left_inj ST
 simp only[B,A]
theorem wL{n A:Nat} (h:n<=A) (d:Nat):tM n d<=tM A d:=by
 have M:=bT d
 have O:n/2^d<=A/2^d:=Nat.div_le_div_right h
 by_cases B:n/2^d=A/2^d
 ·unfold tM
  rw[B]
  have D:=Hd n (2^d)
  have L:=Hd A (2^d)
  rw[B]at D
  have R:n%2^d<=A%2^d:=ST
  split<;>split<;>omega
 ·have D:=Oa n d
  have L:=Ob A d
  omega
theorem LR{n d:Nat}:tM (q*2^d) d=q:=by
 have:=lV q 0 d
 rw[la,Oc]at this;exact this
theorem oC:n<2^(n.log2+1):=Nat.lt_log2_self
theorem Gv(s:Bool) (n d:Nat):Toward.even.cut s n d=tM n d:=by
 unfold Toward.cut;simp only[Nat.one_shiftLeft]
 by_cases hd:d<=n.log2+2
 ·rw[Nat.min_eq_left hd]
  unfold tM
  congr 1
  by_cases B:2^d<2*(n%2^d)
  ·simp[B]
  ·by_cases A:2^d=2*(n%2^d)
   ·by_cases D:n/2^d%2=1
    ·simp[<-A,D]
    ·simp[<-A,D]
   ·simp[B,A]
 ·rw[Nat.min_eq_right ST]
  have hl:=oC n
  have A:2^(n.log2+2)=2*2^(n.log2+1):=by rw[Nat.pow_succ,p4]
  have aa:2^(n.log2+2)<=2^d:=nb ST ST
  have M:n/2^(n.log2+2)=0:=yk ST
  have e2:n%2^(n.log2+2)=n:=pu ST
  have O:n/2^d=0:=yk ST
  have R:n%2^d=n:=pu ST
  unfold tM;rw[M,e2,O,R]
  have c1:¬(2^(n.log2+2)<2*n):=ST
  have L:¬(2^(n.log2+2)=2*n):=ST
  have V:¬(2^d<2*n):=ST
  have Z:¬(2^d=2*n):=ST
  simp[c1,L,V,Z]
def rV(r:Nat):Nat:=if r<2^52 then r else(2^52+r%2^52)*2^(r/2^52-1)
theorem EF{r A:Nat} (h:r<=A):rV r<=rV A:=by
 unfold rV
 have hd:r/2^52<=A/2^52:=Nat.div_le_div_right h
 have hm:=In r (bT 52)
 have L:=In A (bT 52)
 split
 ·split
  ·exact h
  ·have:1<=2^(A/2^52-1):=bT _
   calc r<=2^52+A%2^52:=by omega
    _=(2^52+A%2^52)*1:=by omega
    _<=_:=xv _ this
 ·split
  ·omega
  ·by_cases B:r/2^52=A/2^52
   ·rw[B]
    have D:=Hd r (2^52)
    have M:=Hd A (2^52)
    rw[B]at D
    exact io _ ST
   ·have O:1<=r/2^52:=by
     have:2^52<=r:=ST
     exact(QQ (bT 52)).2 ST
    calc (2^52+r%2^52)*2^(r/2^52-1)<=2^53*2^(r/2^52-1):=io _ ST
     _=2^52*2^(r/2^52):=by rw[<-kw,<-kw];congr 1;omega
     _<=2^52*2^(A/2^52-1):=xv _ (nb ST ST)
     _<=_:=io _ ST
def Lg:Nat:=max (N.log2-52) 1126
def Rg:Nat:=if N=0 then 0 else min ((Lg N-1126)*2^52+tM N (Lg N)) (2047*2^52)
theorem Zn{N N':Nat} (A:N≠0) (h:N<=N'):Lg N<=Lg N':=by
 have:N.log2<=N'.log2:=(Nat.le_log2 ST).2 (kf (PH A) h)
 unfold Lg;omega
theorem Zo:N<2^(Lg N+53):=po (oC N) (nb ST (by unfold Lg;omega))
theorem Zp:N/2^Lg N<2^53:=by
 rw[Nat.div_lt_iff_lt_mul (bT _),<-kw,Nat.add_comm];exact Zo N
theorem Tj{N:Nat} (h:N≠0) (hL:1126<Lg N):2^52<=N/2^Lg N:=by
 rw[QQ (bT _),<-kw]
 refine kf (nb ST ?_) (PH h)
 unfold Lg at hL⊢;omega
theorem EG{N N':Nat} (h:N<=N'):Rg N<=Rg N':=by
 unfold Rg
 by_cases D:N=0
 ·simp[D]
 ·have A:N'≠0:=ST
  rw[fx D,fx A]
  have hL:=Zn D h
  suffices(Lg N-1126)*2^52+tM N (Lg N)<=(Lg N'-1126)*2^52+tM N' (Lg N')by omega
  by_cases B:Lg N=Lg N'
  ·rw[B];have:=wL h (Lg N');omega
  ·have O:=Zp N
   have L:=Oa N (Lg N)
   have V:2^52<=N'/2^Lg N':=Tj A (by unfold Lg at B hL⊢;omega)
   have M:=Ob N' (Lg N')
   have R:(Lg N-1126)+1<=Lg N'-1126:=by unfold Lg at B hL⊢;omega
   omega
theorem Od{N:Nat} (h:N=q*2^Lg N) (hb:N<2^3150):Rg N<2047*2^52/\rV (Rg N)*2^1126=N:=by
 by_cases D:N=0
 ·subst D;simp[Rg,rV]
 ·have hp:=bT (Lg N)
  have hq:N/2^Lg N=q:=by
   have:q*2^Lg N/2^Lg N=q:=Kp _ hp
   rw[<-h]at this;exact this
  have hr:tM N (Lg N)=q:=by
   have:tM (q*2^Lg N) (Lg N)=q:=LR (n:=0) q
   rw[<-h]at this;exact this
  have B:=Zp N
  rw[hq]at B
  have hL:Lg N<=3098:=by
   have:N.log2<3150:=(Nat.log2_lt D).2 hb
   unfold Lg;omega
  have R:(Lg N-1126)*2^52+q<2047*2^52:=ST
  have O:Rg N=(Lg N-1126)*2^52+q:=by unfold Rg;rw[fx D,hr];omega
  rw[O];refine⟨R,?_⟩
  have key:rV ((Lg N-1126)*2^52+q)=q*2^(Lg N-1126):=by
   by_cases A:Lg N=1126
   ·rw[A]
    simp only[Nat.sub_self,Nat.zero_mul,la,H3,px];unfold rV;split
    ·rfl
    ·have L:q/2^52=1:=ST
     have M:q%2^52=q-2^52:=ST
     rw[L,M];omega
   ·have V:1126<Lg N:=by unfold Lg at A⊢;omega
    have Z:=Tj D V
    rw[hq]at Z;unfold rV
    have L:((Lg N-1126)*2^52+q)/2^52-1=Lg N-1126:=ST
    have M:2^52+((Lg N-1126)*2^52+q)%2^52=q:=ST
    rw[fx ST,L,M]
  rw[key,mn,<-kw]
  have:Lg N-1126+1126=Lg N:=by
   have:1126<=Lg N:=by unfold Lg;omega
   omega
  rw[this];exact h.symm
theorem Gw{m k:Nat} (hm:m<2^53) (hk:1126<=k) (L:k<=3090):Rg (m*2^k)<2047*2^52/\rV (Rg (m*2^k))*2^1126=m*2^k:=by
 by_cases A:m=0
 ·subst A;simp[Rg,rV]
 ·have O:(m*2^k).log2=m.log2+k:=by
   have B:m*2^k≠0:=Nat.mul_ne_zero A (by have:=bT k;omega)
   apply Nat.le_antisymm
   ·have:(m*2^k).log2<m.log2+k+1:=(Nat.log2_lt B).2 (by
     rw[show m.log2+k+1=(m.log2+1)+k by omega,kw]
     exact Do (oC m) (bT k))
    omega
   ·exact(Nat.le_log2 B).2 (by rw[kw];exact io _ (PH A))
  have D:m.log2<=52:=by have:=(Nat.log2_lt A).2 hm;omega
  have M:Lg (m*2^k)<=k:=by unfold Lg;omega
  refine Od (m*2^(k-Lg (m*2^k))) ?_ ?_
  ·rw[mn,<-kw];congr 2;omega
  ·have:=oC (m*2^k)
   refine po this (nb ST ST)
end
open Ieee
set_option exponentiation.threshold 4000
section
variable (m n:Nat) {x y:Nat} (a r:Nat) (s:Bool)
abbrev DF:Format:=Ieee.double
theorem jY:DF.binade=2^52:=rfl
theorem ke:DF.signWeight=2^63:=rfl
theorem ym:DF.infRung=2047*2^52:=rfl
theorem oD:DF.leastPlace=-1074:=by decide
theorem RH:DF.fractionBits=52:=rfl
def yo:Nat:=if r<2^52 then r else 2^52+r%2^52
def jv:Nat:=if r<2^52 then 0 else r/2^52-1
theorem kZ:rV r=yo r*2^jv r:=by unfold rV yo jv;split<;>simp
theorem V2:yo r<2^53:=by unfold yo;split<;>omega
theorem gx{r:Nat} (h:r<2047*2^52):DF.read r=.number false (yo r) (-1074+(jv r:Int)):=by
 have A:r/2^63%2=0:=ST
 have B:r%2^63=r:=ST
 unfold Format.read;simp only[jY,ke,ym,oD,A,B];unfold yo jv;split
 ·simp
 ·simp[]
theorem Oe{r:Nat} (h:r<2047*2^52):DF.read (2^63+r)=.number true (yo r) (-1074+(jv r:Int)):=by
 have A:(2^63+r)/2^63%2=1:=ST
 have B:(2^63+r)%2^63=r:=ST
 unfold Format.read;simp only[jY,ke,ym,oD,A,B];unfold yo jv;split
 ·simp
 ·simp[]
theorem IF(m:Nat) (p:Int) (hp:-2200<=p):DF.nearest s m p=DF.word s (Rg (m*2^(p+2200).toNat)):=by
 unfold Format.nearest
 by_cases B:m=0
 ·simp[B,Rg]
 ·rw[fx B]
  obtain⟨k,hk⟩:∃k:Nat,p=(k:Int)-2200:=⟨(p+2200).toNat,ST⟩
  subst hk
  have V:((k:Int)-2200+2200).toNat=k:=ST
  rw[V]
  have M:m*2^k≠0:=Nat.mul_ne_zero B (by have:=bT k;omega)
  have Z:(m*2^k).log2=m.log2+k:=by
   apply Nat.le_antisymm
   ·have:(m*2^k).log2<m.log2+k+1:=(Nat.log2_lt M).2 (by
     rw[show m.log2+k+1=(m.log2+1)+k by omega,kw]
     exact Do (oC m) (bT k))
    omega
   ·exact(Nat.le_log2 M).2 (by rw[kw];exact io _ (PH B))
  have A:max ((k:Int)-2200+m.log2-(DF.fractionBits:Nat)) DF.leastPlace=(Lg (m*2^k):Int)-2200:=by
   rw[oD,RH];unfold Lg;rw[Z];omega
  simp only[A];simp only[Gv,oD,jY,ym]
  have hg:1126<=Lg (m*2^k):=by unfold Lg;omega
  have R:((Lg (m*2^k):Int)-2200- -1074).toNat=Lg (m*2^k)-1126:=ST
  have e2:tM (m<<<((k:Int)-2200-((Lg (m*2^k):Int)-2200)).toNat) ((Lg (m*2^k):Int)-2200-((k:Int)-2200)).toNat=tM (m*2^k) (Lg (m*2^k)):=by
   rw[pC];generalize Lg (m*2^k)=L
   by_cases O:L<=k
   ·have a1:((k:Int)-2200-((L:Int)-2200)).toNat=k-L:=ST
    have D:((L:Int)-2200-((k:Int)-2200)).toNat=0:=ST
    rw[a1,D]
    have:=lV (m*2^(k-L)) 0 L
    rw[la,mn,<-kw,tz O]at this;exact this.symm
   ·have a1:((k:Int)-2200-((L:Int)-2200)).toNat=0:=ST
    have D:((L:Int)-2200-((k:Int)-2200)).toNat=L-k:=ST
    rw[a1,D,H3,px]
    have:=lV m (L-k) k
    rw[tz ST]at this
    exact this.symm
  rw[R,e2];unfold Rg;rw[fx M]
theorem Of:DF.word false r=r:=by unfold Format.word;simp
theorem lW(p:Int) (A:-2200<=p):DF.write (.number false m p)=Rg (m*2^(p+2200).toNat):=by
 show DF.nearest false m p=_
 rw[IF _ _ _ A,Of]
def Fin:Prop:=r<2047*2^52
def PL:Nat:=4621819117588971520
theorem EH:DF.read PL=.number false (5*2^50) (-49):=by decide
theorem V3{r:Nat} (h:Fin r):DF.mul PL r=some (Rg (10*rV r*2^1126))/\DF.mul r PL=some (Rg (10*rV r*2^1126)):=by
 have e:5*2^50*yo r*2^((-49+(-1074+(jv r:Int)))+2200).toNat=10*rV r*2^1126:=by
  have:((-49+(-1074+(jv r:Int)))+2200).toNat=jv r+1077:=ST
  rw[this,kZ,show(2:Nat)^1126=2^49*2^1077 by rw[<-kw],kw,show 5*2^50=10*2^49 by decide]
  simp only[mn,Nat.mul_left_comm,p4]
 constructor
 ·unfold Format.mul
  rw[EH,gx h];simp only[Datum.product,mi,Bool.xor_false]
  rw[lW _ _ ST,e]
 ·unfold Format.mul
  rw[EH,gx h];simp only[Datum.product,mi,Bool.xor_false]
  rw[lW _ _ ST,p4 (yo r),Int.add_comm (-1074+(jv r:Int)) (-49),e]
theorem RI(b:Nat):(Datum.number false m (-1074+(a:Int))).sum (.number false n (-1074+(b:Int)))=some (.number false (m*2^(a-min a b)+n*2^(b-min a b)) (-1074+(min a b:Nat))):=by
 have A:min (-1074+(a:Int)) (-1074+(b:Int))=-1074+((min a b:Nat):Int):=ST
 have B:((-1074+(a:Int))-(-1074+((min a b:Nat):Int))).toNat=a-min a b:=ST
 have M:((-1074+(b:Int))-(-1074+((min a b:Nat):Int))).toNat=b-min a b:=ST
 simp only[Datum.sum,A,B,M,signed,eQ,ik,pC];generalize m*2^(a-min a b)=x;generalize n*2^(b-min a b)=y
 have L:¬((x:Int)+(y:Int)<0):=ST
 have D:((x:Int)+(y:Int)).natAbs=x+y:=ST
 rw[D];simp[L]
theorem RJ(b:Nat) (h:n*2^b<=m*2^a):(Datum.number false m (-1074+(a:Int))).sum (.number true n (-1074+(b:Int)))=some (.number false (m*2^(a-min a b)-n*2^(b-min a b)) (-1074+(min a b:Nat))):=by
 have B:min (-1074+(a:Int)) (-1074+(b:Int))=-1074+((min a b:Nat):Int):=ST
 have D:((-1074+(a:Int))-(-1074+((min a b:Nat):Int))).toNat=a-min a b:=ST
 have O:((-1074+(b:Int))-(-1074+((min a b:Nat):Int))).toNat=b-min a b:=ST
 simp only[Datum.sum,B,D,O,signed,eQ,ik,kv,pC]
 have R:n*2^(b-min a b)<=m*2^(a-min a b):=by
  have A:=bT (min a b)
  refine LE ?_ A
  rw[mn,mn,<-kw,<-kw,tz ST,tz ST]
  exact h
 generalize m*2^(a-min a b)=x at*;generalize n*2^(b-min a b)=y at*
 have M:¬((x:Int)+ -(y:Int)<0):=ST
 have L:((x:Int)+ -(y:Int)).natAbs=x-y:=ST
 rw[L];simp[M]
theorem scl(c:Nat) (h:c<=a):m*2^(a-c)*2^(c+1126)=m*2^a*2^1126:=by
 rw[mn,<-kw,mn,<-kw,show a-c+(c+1126)=a+1126 by omega]
theorem add_pos(B:Fin x) (A:Fin y):DF.add x y=some (Rg ((rV x+rV y)*2^1126)):=by
 unfold Format.add
 rw[gx B,gx A,RI,mi,lW _ _ ST]
 have e:((-1074+((min (jv x) (jv y):Nat):Int))+2200).toNat=min (jv x) (jv y)+1126:=ST
 rw[e,Nat.add_mul,scl _ _ _ ST,scl _ _ _ ST,<-kZ,<-kZ,<-Nat.add_mul]
theorem sub_pos(B:Fin x) (A:Fin y) (h:rV y<=rV x):DF.sub x y=some (Rg ((rV x-rV y)*2^1126)):=by
 unfold Format.sub;rw[gx B,gx A];simp only[Datum.opposite,ma];rw[kZ,kZ]at h
 rw[RJ _ _ _ _ h,mi,lW _ _ ST]
 have e:((-1074+((min (jv x) (jv y):Nat):Int))+2200).toNat=min (jv x) (jv y)+1126:=ST
 rw[e,Nat.sub_mul,scl _ _ _ ST,scl _ _ _ ST,<-kZ,<-kZ,<-Nat.sub_mul]
def LS:Nat:=Rg (n*2^2200)
theorem J0{n:Nat} (h:n<2^53):Fin (LS n)/\rV (LS n)=n*2^1074:=by
 have A:(1126:Nat)<=2200:=Ts
 obtain⟨B,L⟩:=Gw (m:=n) (k:=2200) h ST ST
 refine⟨B,?_⟩;unfold LS
 have D:=bT 1126
 refine Nat.eq_of_mul_eq_mul_right D ?_;rw[L,mn,<-kw]
theorem V4{a:Nat} (h:a<2^53):Fin (Rg (a*2^1064*2^1126))/\rV (Rg (a*2^1064*2^1126))=a*2^1064:=by
 have e:a*2^1064*2^1126=a*2^2190:=by rw[mn,<-kw]
 obtain⟨A,D⟩:=Gw (k:=2190) h ST ST
 rw[e];refine⟨A,?_⟩
 have B:=bT 1126
 refine Nat.eq_of_mul_eq_mul_right B ?_;rw[D,e]
theorem z6{N a b:Nat} (B:a*2^1064*2^1126<=N) (D:N<=b*2^1064*2^1126) (h:b<2^53):Fin (Rg N)/\a*2^1064<=rV (Rg N)/\rV (Rg N)<=b*2^1064:=by
 have A:a<2^53:=by
  have:a*(2^1064*2^1126)<=b*(2^1064*2^1126):=by rw[<-mn,<-mn];exact kf B D
  have:=LE this (Nat.mul_pos (bT _) (bT _))
  omega
 obtain⟨f1,f2⟩:=V4 A;obtain⟨O,L⟩:=V4 h
 have R:=EG B
 have M:=EG D
 refine⟨?_,?_,?_⟩
 ·unfold Fin at O⊢;omega
 ·rw[<-f2];exact EF R
 ·rw[<-L];exact EF M
theorem V5:tM (m<<<(-1074+(a:Int)).toNat) (-(-1074+(a:Int))).toNat=tM (m*2^a) 1074:=by
 rw[pC]
 by_cases h:1074<=a
 ·have B:(-1074+(a:Int)).toNat=a-1074:=ST
  have A:(-(-1074+(a:Int))).toNat=0:=ST
  rw[B,A]
  have:=lV (m*2^(a-1074)) 0 1074
  rw[la,mn,<-kw,tz h]at this;exact this.symm
 ·have B:(-1074+(a:Int)).toNat=0:=ST
  have A:(-(-1074+(a:Int))).toNat=1074-a:=ST
  rw[B,A,H3,px]
  have:=lV m (1074-a) a
  rw[tz ST]at this
  exact this.symm
theorem RM{r:Nat} (h:Fin r):DF.write ((DF.read r).integral .even)=LS (tM (rV r) 1074):=by
 rw[gx h];simp only[Datum.integral,Gv,V5]
 rw[lW _ _ ST,<-kZ,show((0:Int)+2200).toNat=2200 by omega]
 unfold LS;with_reducible rfl
theorem Og(n d:Nat):Toward.zero.cut s n d=n/2^d:=by
 unfold Toward.cut;simp only[Nat.one_shiftLeft,Bool.toNat_false,py]
 by_cases hd:d<=n.log2+2
 ·rw[Nat.min_eq_left hd]
 ·rw[Nat.min_eq_right ST]
  have B:=oC n
  have D:2^(n.log2+2)=2*2^(n.log2+1):=by rw[Nat.pow_succ,p4]
  have A:2^(n.log2+2)<=2^d:=nb ST ST
  rw[yk ST,yk ST]
theorem LU{r:Nat} (h:Fin r):(DF.read r).toInt .zero=some ((rV r/2^1074:Nat):Int):=by
 rw[gx h,kZ];unfold Datum.toInt;simp only[Datum.integral,Og,pC,signed,eQ,ik,H3,px]
 congr 2
 generalize jv r=a;generalize yo r=m
 by_cases h:1074<=a
 ·have B:(-1074+(a:Int)).toNat=a-1074:=ST
  have A:(-(-1074+(a:Int))).toNat=0:=ST
  rw[B,A,H3,Nat.div_one]
  have:m*2^a=m*2^(a-1074)*2^1074:=by rw[mn,<-kw,tz h]
  rw[this,Kp _ (bT _)]
 ·have B:(-1074+(a:Int)).toNat=0:=ST
  have A:(-(-1074+(a:Int))).toNat=1074-a:=ST
  rw[B,A,H3,px]
  have:m*2^a/2^1074=m*2^a/(2^(1074-a)*2^a):=by rw[<-kw,tz ST]
  rw[this,Nat.mul_div_mul_right _ _ (bT _)]
theorem LV{n:Nat} (h:n<2^53):(DF.read (LS n)).toInt .zero=some (n:Int):=by
 obtain⟨A,B⟩:=J0 h;rw[LU A,B,Kp _ (bT _)]
end
section
variable {a b:Int} {m r:Nat} {s:Bool} (x:Nat)
def key:Option Int:=
 match DF.read x with
 | .nan ..=>none
 | .infinity s=>some (if s then -(2^2200:Nat)else(2^2200:Nat))
 | .number s m i=>some (signed s m (i+1074).toNat)
theorem sA{i:Int} (h:DF.read x=.number s m i):-1074<=i/\i<=971/\m<2^53:=by
 unfold Format.read at h;dsimp only at h;split at h
 ·rename_i A
  cases h;rw[ke,jY]at A;rw[ke,oD];omega
 ·split at h
  ·rename_i A B
   cases h;rw[ke,ym]at B;rw[ke,oD,jY];omega
  ·split at h<;>cases h
theorem wM(s:Bool) (m a b:Nat):signed s m (a+b)=signed s m a*((2^b:Nat):Int):=by
 have e:((m<<<(a+b):Nat):Int)=((m<<<a:Nat):Int)*((2^b:Nat):Int):=by
  rw[pC,pC,kw,<-mn,Int.natCast_mul]
 unfold signed;cases s
 ·simp only[eQ,ik];exact e
 ·simp only[kv,e,Int.neg_mul]
theorem LW(a b:Int) (k:Nat):compare (a*((2^k:Nat):Int)) (b*((2^k:Nat):Int))=compare a b:=by
 have B:(0:Int)<((2^k:Nat):Int):=by have:=bT k;omega
 have A:(a*((2^k:Nat):Int)<b*((2^k:Nat):Int))↔a<b:=Int.mul_lt_mul_right B
 have D:(a*((2^k:Nat):Int)=b*((2^k:Nat):Int))↔a=b:=⟨λh=>Int.eq_of_mul_eq_mul_right ST h,λh=>by rw[h]⟩
 simp only[compare,compareOfLessAndEq,A,D]
theorem Dx{a:Nat} (hm:m<2^53) (B:a<=2045):-((2^2200:Nat):Int)<signed s m a/\signed s m a<((2^2200:Nat):Int):=by
 have A:m*2^a<2^53*2^2045:=po (Do hm (bT a)) (xv _ (nb ST B))
 have D:2^53*2^2045<=2^2200:=by rw[<-kw];exact nb ST ST
 have L:m*2^a<2^2200:=po A D
 unfold signed;rw[pC];generalize m*2^a=z at*;generalize 2^2200=w at*
 cases s<;>simp<;>omega
def EJ:Option Int->Option Int->Option Ordering
 |some a,some b=>some (compare a b)
 |_,_=>none
theorem vg(h:a<b):compare a b=.lt:=by simp[compare,compareOfLessAndEq,h]
theorem vh(h:b<a):compare a b=.gt:=by
 have A:¬a<b:=ST
 have B:¬a=b:=ST
 simp[compare,compareOfLessAndEq,A,B]
theorem yp(h:a=b):compare a b=.eq:=by simp[compare,compareOfLessAndEq,h]
theorem tN(y:Nat):DF.order x y=EJ (key x) (key y):=by
 have aa:(0:Int)<((2^2200:Nat):Int):=by have:=bT 2200;omega
 unfold Format.order key
 cases Z:DF.read x with
 |nan s t=>cases DF.read y<;>rfl
 |infinity s=>
  cases B:DF.read y with
  |nan _ _=>rfl
  |infinity t=>
   simp only[Datum.order,EJ];generalize((2^2200:Nat):Int)=w at*
   cases s<;>cases t<;>simp only[eQ,ik,kv]
   ·rw[yp rfl];rfl
   ·rw[vh ST];rfl
   ·rw[vg ST];rfl
   ·rw[yp rfl];rfl
  |number t n j=>
   obtain⟨M,R,D⟩:=sA y B
   obtain⟨L,A⟩:=Dx (s:=t) (a:=(j+1074).toNat) D ST
   simp only[Datum.order,EJ];generalize((2^2200:Nat):Int)=w at*
   cases s<;>simp only[eQ,ik,kv]
   ·rw[vh A]
   ·rw[vg L]
 |number s m i=>
  obtain⟨M,R,D⟩:=sA x Z
  cases B:DF.read y with
  |nan _ _=>rfl
  |infinity t=>
   obtain⟨L,A⟩:=Dx (s:=s) (a:=(i+1074).toNat) D ST
   simp only[Datum.order,EJ];generalize((2^2200:Nat):Int)=w at*
   cases t<;>simp only[eQ,ik,kv]
   ·rw[vg A]
   ·rw[vh L]
  |number t n j=>
   obtain⟨d1,d2,d3⟩:=sA y B;simp only[Datum.order,EJ]
   have O:(i+1074).toNat=(i-min i j).toNat+(min i j+1074).toNat:=ST
   have V:(j+1074).toNat=(j-min i j).toNat+(min i j+1074).toNat:=ST
   rw[O,V,wM,wM,LW]
theorem nA(h:Fin r):key r=some (rV r:Int):=by
 unfold key;rw[gx h];simp only[signed,eQ,ik,pC]
 rw[kZ,show((-1074+(jv r:Int))+1074).toNat=jv r by omega]
theorem J1(h:Fin r):key (2^63+r)=some (-(rV r:Int)):=by
 unfold key;rw[Oe h];simp only[signed,kv,pC]
 rw[kZ,show((-1074+(jv r:Int))+1074).toNat=jv r by omega]
end
end Go.Eng
