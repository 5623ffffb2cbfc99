/- Part 12 of the engine and its library. -/
import Derived.Test.YtjnbemnncjbmgaaGreatPk11
set_option linter.all false
set_option maxRecDepth 10000
set_option maxHeartbeats 4000000
namespace Go.Eng
open Go
section
variable (t:Tb) (l:Option (List Int)) (c:List Int)
def qF:Tb:=⟨List.replicate 8 default,none,List.replicate 8 0,none,none,none,0,0,0,0,0,List.replicate 8 0,0,0⟩
theorem aa0:bL=qF.cells:=rfl
def K4(l:Option (List Int)):Nat->List Ph
 |0=>List.replicate 8 default
 |k+1=>(K4 l k).set k (kE l (10+12*k))
def Aj:Nat->List Int
 |0=>List.replicate 8 0
 |k+1=>(Aj k).set k 1
theorem fy(l:Option (List Int)):∀k,(K4 l k).length=8
 |0=>by simp[K4]
 |k+1=>by simp[K4,fy l k]
theorem lF:∀k,(Aj k).length=8
 |0=>by simp[Aj]
 |k+1=>by simp[Aj,lF k]
def zw(i:Nat):Int:=c.getD i 0
def qT(p q:Nat):Bool:=!ee t p q&&cJ l (110+8*p+q) 9 !=1
def gP(p q:Nat) (c:List Int):List Int:=
 if qT t l p q then
  let D:=c.set p (iD (zw c p) q)
  D.set q (iD (zw D q) p)
 else c
def jD(t:Tb) (l:Option (List Int)) (p:Nat):Nat->List Int->List Int
 |0,c=>c
 |q+1,c=>gP t l p q (jD t l p q c)
def gB(t:Tb) (l:Option (List Int)):Nat->List Int
 |0=>List.replicate 8 0
 |p+1=>jD t l p p (gB t l p)
theorem K5{t:Tb} {l:Option (List Int)} {p q:Nat} {c:List Int}:(gP t l p q c).length=c.length:=by
 unfold gP;split<;>simp
theorem nC{t:Tb} {l:Option (List Int)} {p:Nat} {c:List Int}:∀q,(jD t l p q c).length=c.length
 |0=>rfl
 |q+1=>by rw[jD,K5,nC q]
theorem eu{t:Tb} {l:Option (List Int)}:∀p,(gB t l p).length=8
 |0=>by simp[gB]
 |p+1=>by rw[gB,nC,eu p]
def l7(n d:Int) (j:Nat):List Bo:=(List.range j).map λ(k:Nat)=>jq l (180+8*(d-k)) n
def gQ(n r:Int) (j:Nat):List Rl:=(List.range j).map λ(k:Nat)=>rU t l (260+16*(r-k)) n
def Rj(n i:Int):Bs:=
 let x:=bT .i64 (cJ l (330+2*i) 256) (cU (cU (1*2^min (IntKind.u64.wrap n).toNat 64)-1))
 ⟨if x>1 then x else 1,cU (1+cJ l (331+2*i) 30)⟩
def qU(n b:Int) (j:Nat):List Bs:=(List.range j).map λ(k:Nat)=>Rj l n (b-k)
def vc(t:Tb):Nat->Int
 |0=>0
 |k+1=>if sO t k>vc t k then sO t k else vc t k
def dA:List Gr×Nat:=bu l (ic l) (ic l)
def bA:Tb :=
  let n:=(dA l).2
  let t1:Tb:={ qF with groups:=some (dA l).1 }
  let q:=cJ l 174 (n + 1)
  { phases:=K4 l n
    groups:=some (dA l).1
    conflict:=gB t1 l n
    aV:=ez (l7 l n (cJ l 175 9) (cJ l 175 9).toNat)
    bE:=ez (gQ t1 l n ((cJ l 176 4).tmod 3) ((cJ l 176 4).tmod 3).toNat)
    l6:=ez (qU l n (cJ l 177 3) (cJ l 177 3).toNat)
    extend:=cJ l 178 12
    i7:=cJ l 179 40
    start:=cJ l 180 8
    revert:=cJ l 181 8
    least:=cJ l 182 12
    dO:=if q < n then (Aj n).set q.toNat 2 else Aj n
    rL:=0
    share:=cJ l 183 4 }
def bk:Tb:=
 {bA l with rL:=if(gQ {qF with groups:=some (dA l).1} l (dA l).2 ((cJ l 176 4).tmod 3) ((cJ l 176 4).tmod 3).toNat)=[]then 0 else vc (bA l) (dA l).2}
def Table.Spec(C:aT) (f:Nat):Prop:=∀l:Option (List Int),C.c f [aI aH l] (.agg (bk l).cells) none
def kJ(k:Nat):Tb:={qF with groups:=some (dA l).1,phases:=K4 l k,dO:=Aj k}
def jr:Tb:={kJ l (dA l).2 with conflict:=c}
def xe:Tb:={jr l (gB {qF with groups:=some (dA l).1} l (dA l).2)with dO:=(bA l).dO}
def Fc(d:List Bo):Tb:={xe l with aV:=ez d}
def Dl(r:List Rl):Tb:={xe l with aV:=(bA l).aV,bE:=ez r}
def Fe(b:List Bs):Tb:={xe l with aV:=(bA l).aV,bE:=(bA l).bE,l6:=ez b}
def GS(w:Int):Tb:={bA l with rL:=w}
theorem Wx(p m:Nat):(d8 p m).length=m:=by simp[d8]
theorem BC(l:Option (List Int)) (G:Nat):∀g,∀x∈(bu l G g).1,(x.a.getD []).length<=8/\(x.b.getD []).length<=8
 |0,x,D=>by simp[bu]at D
 |g+1,x,D=>by
  simp only[bu,lr,rf]at D
  rcases D with D|rfl
  ·exact BC l G g x D
  ·simp only[dB,Wx,bz,cN]
   omega
theorem sP:(dA l).2<=8:=yz _ _ _
theorem Ew(l:Option (List Int)) (G:Nat):∀g,1<=g->g<=G->G<=3->1<=(bu l G g).2
 |0,h,_,_=>by omega
 |1,_,L,D=>by
  simp only[bu,bz,cN,cnt]
  split<;>split<;>simp_all<;>omega
 |g+2,_,L,D=>by
  have:=Ew l G (g+1) ado ado D
  rw[bu];simp only;omega
theorem uv:1<=ic l/\ic l<=3:=by
 have:=aP l 0 (n:=3) adp adp
 unfold ic;omega
theorem GU:1<=(dA l).2:=Ew l _ _ (uv l).1 (ik _) (uv l).2
theorem GV{l:Option (List Int)} {t:Tb} (L:t.groups=some (dA l).1) (R:t.phases.length=8) (Z:t.conflict.length=8) (O:t.dO.length=8) (h4:(t.aV.getD []).length<=1048576) (V:(t.bE.getD []).length<=1048576) (M:(t.l6.getD []).length<=1048576):t.Ok:=by
 refine⟨R,Z,O,?_,?_,h4,V,M⟩
 ·rw[L];simp only[yn,dA,pS];have:=uv l;omega
 ·rw[L];simp only[yn]
  intro g D
  have:=BC _ _ _ g D
  omega
theorem PN(n d:Int) (j:Nat):l7 l n d (j+1)=l7 l n d j++[jq l (180+8*(d-j)) n]:=by simp[l7,lj]
theorem Dm(n d:Int) (j:Nat):(l7 l n d j).length=j:=by simp[l7]
theorem Ng(n d:Int) (j:Nat):gQ t l n d (j+1)=gQ t l n d j++[rU t l (260+16*(d-j)) n]:=by simp[gQ,lj]
theorem Ak(n d:Int) (j:Nat):(gQ t l n d j).length=j:=by simp[gQ]
theorem PO(n d:Int) (j:Nat):qU l n d (j+1)=qU l n d j++[Rj l n (d-j)]:=by simp[qU,lj]
theorem Dn(n d:Int) (j:Nat):(qU l n d j).length=j:=by simp[qU]
theorem Bo.len(d:Bo):d.cells.length=7:=rfl
theorem Bs.len(d:Bs):d.cells.length=2:=rfl
theorem eY:(bA l).dO.length=8:=by
 unfold bA;simp only;split<;>simp[lF]
theorem qV:((bA l).aV.getD []).length<=1048576:=by
 have:=aP l 175 (n:=9) adp adp
 simp only[bA,dB,Dm];omega
theorem uw:((bA l).bE.getD []).length<=1048576:=by
 have h:=Ps (cJ l 176 4) (b:=3) adp
 simp only[bA,dB,Ak];omega
theorem K6:((bA l).l6.getD []).length<=1048576:=by
 have:=aP l 177 (n:=3) adp adp
 simp only[bA,dB,Dn];omega
theorem GW:(bk l).Ok:=GV rfl (fy l _) (eu _) (eY l) (qV l) (uw l) (K6 l)
end
section
variable{P:Program} (hm:P.follows .mixedOrders=true) {f:Nat}
include hm
theorem Table.ok{fR fP fB fF fW fD eD fr eR eB fw:Nat} (hc:bK P f=some (pM fR fP fB fF fW fD eD fr eR eB fw)) (hR:rows.Spec (Pure P) fR) (hP:phase.Spec (Pure P) fP) (hB:beside.Spec (Pure P) fB) (hF:from.Spec (Pure P) fF) (hW:uo.Spec (Pure P) fW)
  (hD:wZ.Spec (Pure P) fD) (hr:Ws.Spec (Pure P) fr) (hw:wait.Spec (Pure P) fw):Table.Spec (Pure P) f:=by
 intro l;refine aq hm hc [0,3,8,9,12,15,18] rfl ?_;try simp only[RY,↓KW,seval,pM,Z.H,aa0]
 have bj:qF.Ok:=⟨rfl,rfl,rfl,by simp[qF],by simp[qF],by simp[qF],by simp[qF],by simp[qF]⟩
 refine⟨rfl,bp (hR qF l bj rfl) ?_⟩
 have hN:=sP l
 have dk:=GU l
 try simp only[I,RY,seval]
 change aw _ _ _ (⟨[(5,_),(4,.dat (I ((dA l).2:Nat)) none),(14,_),(13,_),(3,_),(2,_),(0,_)],[(5,⟨(kJ l 0).cells,[]⟩),_],_,_⟩:S)
 generalize hNe:(dA l).2=N at*
 refine oc (.exit 0) (λ_:Unit=>(⟨[(4,.dat (I N) none),(3,.ptr 5 0),(0,.dat (aI aH l) none),(2,.ptr 4 0)],[(5,⟨(kJ l N).cells,[]⟩),(4,⟨qF.cells,[]⟩)],[],400⟩:S)) (λ_=>True) (λ_=>rfl) ?_ ?_
 ·refine aG (λk:Nat=>(⟨[(5,.dat (I k) none),(4,.dat (I N) none),(3,.ptr 5 0),(0,.dat (aI aH l) none),(2,.ptr 4 0)],[(5,⟨(kJ l k).cells,[]⟩),(4,⟨qF.cells,[]⟩)],[],400⟩:S)) (λk=>N-k) (λk=>k<=N) ?_ 0 ado ?_
  ·intro k hk A back
   have O:=aC (k:=k) ado
   have c6:IntKind.i64.wrap (10+IntKind.i64.wrap (12*(k:Int)))=10+12*k:=by rw[aU (n:=12*(k:Int)) ado ado,aU ado ado]
   have b1:(kJ l k).Ln:=⟨fy l k,rfl,lF k⟩
   have an:({kJ l k with phases:=(kJ l k).phases.set k (kE l (10+12*k))}:Tb).Ln:=⟨by simp[fy,kJ],rfl,lF k⟩
   try simp only[I,RY,↓KW,seval]
   refine aA (λh=>?_) (λh=>?_)<;>try simp only[RY,↓KW,seval,h]
   ·have bd:k<N:=by have:=dE h;omega
    have a5:k<8:=ado
    have aa:=b1.TR a5 (kE l (10+12*k))
    have am:=an.JF a5 1
    have ce:({({kJ l k with phases:=(kJ l k).phases.set k (kE l (10+12*k))}:Tb)with dO:=({kJ l k with phases:=(kJ l k).phases.set k (kE l (10+12*k))}:Tb).dO.set k 1}:Tb)=kJ l (k+1):=rfl
    rw[ce]at am
    have dp:=b1.len
    have dj:=an.len
    generalize({kJ l k with phases:=(kJ l k).phases.set k (kE l (10+12*k))}:Tb)=T at*
    refine af (hP _ _) ?_;try simp only[RY,↓KW,seval,c6,aa]
    exact⟨ado,Ph.len _,ado,ado,ado,by refine back (k+1) _ ado ado (ai adp ?_ ?_ ?_ ?_)<;>simp[LX,I,am,O]⟩
   ·have:k=N:=by have:=dT h;omega
    subst this;refine eM () trivial ?_
    refine ai adp ?_ ?_ ?_ ?_<;>simp[LX]
  ·refine ai adp ?_ ?_ ?_ ?_<;>simp[LX,I]
 ·intro _ _
  try simp only[I,RY,↓KW,seval]
  generalize al:({qF with groups:=some (dA l).1}:Tb)=t1 at*
  have hA:kJ l N=jr l (gB t1 l 0):=by subst hNe;rfl
  refine oc (.exit 2) (λ_:Unit=>(⟨[(4,.dat (I N) none),(3,.ptr 5 0),(0,.dat (aI aH l) none),(2,.ptr 4 0)],[(5,⟨(jr l (gB t1 l N)).cells,[]⟩),(4,⟨qF.cells,[]⟩)],[],400⟩:S)) (λ_=>True) (λ_=>rfl) ?_ ?_
  ·refine aG (λp:Nat=>(⟨[(6,.dat (I p) none),(4,.dat (I N) none),(3,.ptr 5 0),(0,.dat (aI aH l) none),(2,.ptr 4 0)],[(5,⟨(jr l (gB t1 l p)).cells,[]⟩),(4,⟨qF.cells,[]⟩)],[],400⟩:S)) (λp=>N-p) (λp=>p<=N) ?_ 0 ado ?_
   ·intro p hp A back
    have O:=aC (k:=p) ado
    try simp only[I,RY,↓KW,seval]
    refine aA (λh=>?_) (λh=>?_)<;>try simp only[RY,↓KW,seval,h]
    ·have db:p<N:=by have:=dE h;omega
     have a5:p<8:=ado
     have cp:gB t1 l (p+1)=jD t1 l p p (gB t1 l p):=rfl
     have b3:=eu (t:=t1) (l:=l) p
     generalize gB t1 l p=c0 at*
     refine aG (λq:Nat=>(⟨[(7,.dat (I q) none),(6,.dat (I p) none),(4,.dat (I N) none),(3,.ptr 5 0),(0,.dat (aI aH l) none),(2,.ptr 4 0)],[(5,⟨(jr l (jD t1 l p q c0)).cells,[]⟩),(4,⟨qF.cells,[]⟩)],[],400⟩:S)) (λq=>p-q) (λq=>q<=p) ?_ 0 ado ?_
     ·intro q hq A2 ag
      have a7:=aC (k:=q) ado
      have a8:jD t1 l p (q+1) c0=gP t1 l p q (jD t1 l p q c0):=rfl
      have bo:(jD t1 l p q c0).length=8:=by rw[nC,b3]
      generalize co:jD t1 l p q c0=c at*
      have okB:(jr l c).Ok:=GV rfl (fy l _) bo (lF _) (by simp[jr,kJ,qF]) (by simp[jr,kJ,qF]) (by simp[jr,kJ,qF])
      have ab:=okB.ln.whole
      have ar:=okB.ln.len
      have ck:ee (jr l c) p q=ee t1 p q:=by subst al;rfl
      have ae:IntKind.i64.wrap (IntKind.i64.wrap (110+IntKind.i64.wrap (8*(p:Int)))+q)=110+8*p+q:=by
       rw[aU (n:=8*(p:Int)) ado ado,aU (n:=110+8*(p:Int)) ado ado,aU ado ado]
      try simp only[I,RY,↓KW,seval]
      refine aA (λh2=>?_) (λh2=>?_)<;>try simp only[RY,↓KW,seval,ab,h2]
      ·have di:q<p:=by have:=dE h2;omega
       refine af (hB _ _ _ okB) ?_;try simp only[B,RY,↓KW,seval,ck]
       repeat' (first|(refine af (hF _ _ _ adp) ?_;try simp only[I,RY,↓KW,seval])|(((first|refine aY ?_ ?_|refine aA ?_ ?_|refine bH ?_ ?_)<;>intro h)<;>try simp only[RY,↓KW,seval,ae,h]))
       ·have hb:ee t1 p q=false:=by simp_all
        have ao:qT t1 l p q=true:=by simp only[qT,hb];simpa using h
        have a2:gP t1 l p q c=(c.set p (iD (zw c p) q)).set q (iD (zw (c.set p (iD (zw c p) q)) q) p):=by simp only[gP,ao,kw]
        have g1:c[p]? =some (zw c p):=by simp[zw,show p<c.length by omega]
        have g2:(c.set p (iD (zw c p) q))[q]? =some (zw (c.set p (iD (zw c p) q)) q):=by simp[zw,show q<c.length by omega]
        have an:(jr l (c.set p (iD (zw c p) q))).Ln:=⟨fy l _,by simp[jr,bo],lF _⟩
        have l1:=okB.ln.qQ (t:=jr l c) g1
        have l2:=an.qQ g2
        have aa:setCells (jr l c).cells (105+p) [I (iD (zw c p) q)]=(jr l (c.set p (iD (zw c p) q))).cells:=okB.ln.BA a5 _
        have am:setCells (jr l (c.set p (iD (zw c p) q))).cells (105+q) [I (iD (zw (c.set p (iD (zw c p) q)) q) p)]=(jr l (gP t1 l p q c)).cells:=by rw[a2];exact an.BA ado _
        have da:=an.len
        rw[<-a8]at am;simp only[I]at aa am;generalize zw (c.set p (iD (zw c p) q)) q=v2 at*;generalize zw c p=v1 at*;generalize c.set p (iD v1 q)=c2 at*
        refine⟨ado,?_⟩
        try simp only[I,RY,↓KW,seval,l1]
        refine af (hW _ _) ?_;try simp only[I,RY,↓KW,seval,aa]
        refine⟨ado,ado,ado,?_⟩
        try simp only[I,RY,↓KW,seval,l2]
        refine af (hW _ _) ?_;try simp only[I,RY,↓KW,seval,aa,am]
        exact⟨ado,ado,by refine ag (q+1) _ ado ado (ai adp ?_ ?_ ?_ ?_)<;>simp[LX,I,a7]⟩
       ·have a2:gP t1 l p q c=c:=by
         have ao:qT t1 l p q=false:=by simp only[qT];simp_all
         simp[gP,ao]
        refine ag (q+1) _ ado ado (ai adp ?_ ?_ ?_ ?_)<;>simp[LX,I,a8,a2,a7]
       ·have a2:gP t1 l p q c=c:=by
         have ao:qT t1 l p q=false:=by simp only[qT];simp_all
         simp[gP,ao]
        refine ag (q+1) _ ado ado (ai adp ?_ ?_ ?_ ?_)<;>simp[LX,I,a8,a2,a7]
      ·have:q=p:=by have:=dT h2;omega
       subst this
       refine back (q+1) _ ado ado (ai adp ?_ ?_ ?_ ?_)<;>simp[LX,I,cp,co,O]
     ·refine ai adp ?_ ?_ ?_ ?_<;>simp[LX,I,jD]
    ·have:p=N:=by have:=dT h;omega
     subst this;refine eM () trivial ?_
     refine ai adp ?_ ?_ ?_ ?_<;>simp[LX]
   ·refine ai adp ?_ ?_ ?_ ?_<;>simp[LX,I,hA]
  ·intro _ _
   have cu:IntKind.i64.wrap ((N:Int)+1)=N+1:=aC ado
   have hq:=aP l 174 (n:=(N:Int)+1) ado ado
   have okB:(jr l (gB t1 l N)).Ok:=GV rfl (fy l _) (eu _) (lF _) (by simp[jr,kJ,qF]) (by simp[jr,kJ,qF]) (by simp[jr,kJ,qF])
   have ar:=okB.ln.len
   have ak:(bA l).dO=if cJ l 174 (N+1)<N then(Aj N).set (cJ l 174 (N+1)).toNat 2 else Aj N:=by subst hNe;rfl
   have hC:xe l={jr l (gB t1 l N)with dO:=(bA l).dO}:=by subst hNe;subst al;rfl
   have b0:(jr l (gB t1 l N)).dO=Aj N:=by subst hNe;rfl
   rw[V4]
   refine oc .normal (λ_:Unit=>(⟨[(4,.dat (I N) none),(3,.ptr 5 0),(0,.dat (aI aH l) none),(2,.ptr 4 0)],[(5,⟨(xe l).cells,[]⟩),(4,⟨qF.cells,[]⟩)],[],400⟩:S)) (λ_=>True) (λ_=>rfl) ?_ ?_
   ·try simp only[I,RY,↓KW,seval]
    refine af (hF _ _ _ ado) ?_
    rw[cu];generalize cJ l 174 (N+1)=q at*;try simp only[I,RY,↓KW,seval]
    refine aA (λh=>?_) (λh=>?_)<;>try simp only[RY,↓KW,seval,h]
    ·have a9:q<N:=dE h
     rw[fp a9]at ak
     have aa:=okB.ln.JF (i:=q.toNat) ado 2
     have e:({jr l (gB t1 l N)with dO:=(jr l (gB t1 l N)).dO.set q.toNat 2}:Tb)=xe l:=by rw[hC,b0,ak]
     rw[e]at aa;simp only[I]at aa
     refine⟨ado,ado,?_⟩
     refine eM () trivial ?_
     refine ai adp ?_ ?_ ?_ ?_<;>simp[LX,aa]
    ·have a9:¬q<N:=dT h
     rw[fb a9]at ak
     have e:jr l (gB t1 l N)=xe l:=by rw[hC,ak,<-b0]
     refine eM () trivial ?_
     refine ai adp ?_ ?_ ?_ ?_<;>simp[LX,e]
   ·intro _ _
    have hd:=aP l 175 (n:=9) adp adp
    have c8:xe l=Fc l []:=rfl
    have ci:Fc l (l7 l N (cJ l 175 9) (cJ l 175 9).toNat)=Dl l []:=by subst hNe;rfl
    try simp only[I,RY,↓KW,seval]
    refine af (hF _ _ _ adp) ?_
    generalize cJ l 175 9=d at*;try simp only[I,RY,↓KW,seval]
    refine oc (.exit 6) (λ_:Unit=>(⟨[(4,.dat (I N) none),(3,.ptr 5 0),(0,.dat (aI aH l) none),(2,.ptr 4 0)],[(5,⟨(Fc l (l7 l N d d.toNat)).cells,[]⟩),(4,⟨qF.cells,[]⟩)],[],400⟩:S)) (λ_=>True) (λ_=>rfl) ?_ ?_
    ·refine aG (λj:Nat=>(⟨[(9,.dat (I (d-j)) none),(4,.dat (I N) none),(3,.ptr 5 0),(0,.dat (aI aH l) none),(2,.ptr 4 0)],[(5,⟨(Fc l (l7 l N d j)).cells,if l7 l N d j=[]then[]else[(113,0)]⟩),(4,⟨qF.cells,[]⟩)],cm (l7 l N d j) 0 eD,400⟩:S)) (λj=>d.toNat-j) (λj=>j<=d.toNat) ?_ 0 ado ?_
     ·intro j hj A back
      have O:IntKind.i64.wrap (d-j-1)=d-((j+1:Nat):Int):=by rw[aU ado ado];omega
      have ae:IntKind.i64.wrap (180+IntKind.i64.wrap (8*(d-(j:Int))))=180+8*(d-j):=by rw[aU (n:=8*(d-(j:Int))) ado ado,aU ado ado]
      have hnext:=PN l N d j
      have ac:(l7 l N d j).length=j:=Dm ..
      generalize hL:l7 l N d j=L at*;generalize hx:jq l (180+8*(d-j)) N=x at*
      have CX:(Fc l L).Ok:=GV rfl (fy l _) (eu _) (eY l) (by simp[Fc,xe,jr,kJ,qF,dB];try omega) (by simp[Fc,xe,jr,kJ,qF];try omega) (by simp[Fc,xe,jr,kJ,qF];try omega)
      have ln:=CX.ln
      have ar:=ln.len
      have ab:=ln.whole
      have M:=ln.Wt
      have D:setCells (Fc l L).cells 113 [aI Bo.cells (some (L++[x]))]=(Fc l (L++[x])).cells:=by rw[ln.Wv (some (L++[x]))];simp[Fc,ez]
      have ad:(Fc l L).aV=ez L:=rfl
      rw[ad]at M;simp only[bR,ta,kr,mr]at D
      cases L with
      |nil=>
       simp only[mr,my,ez,kw,dZ]at D M hnext;try simp only[I,RY,↓KW,seval,cm]
       refine aA (λh=>?_) (λh=>?_)<;>try simp only[RY,↓KW,seval,M,h]
       ·have V:(0:Int)<d-j:=dE h
        refine af (hD _ _ _ ado) ?_
        try simp only[RY,↓KW,seval,ae,hx,Bo.len]
        try simp only[seval,D]
        refine⟨ado,?_⟩
        refine back (j+1) _ ado ado (ai adp ?_ ?_ ?_ ?_)<;>simp[LX,I,hnext,O]
       ·have V:¬(0:Int)<d-j:=dT h
        have:j=d.toNat:=ado
        rw[<-this,hL];refine eM () trivial ?_
        refine ai adp ?_ ?_ ?_ ?_<;>simp[LX]
      |cons y ys=>
       simp only[ez,reduceCtorEq,il,bR]at D M hnext;try simp only[I,RY,↓KW,seval,cm]
       refine aA (λh=>?_) (λh=>?_)<;>try simp only[RY,↓KW,seval,M,h]
       ·have V:(0:Int)<d-j:=dE h
        refine af (hD _ _ _ ado) ?_
        try simp only[RY,↓KW,seval,ae,hx,Bo.len]
        try simp only[RY,seval,D]
        refine⟨by simp at ac⊢;omega,ado,?_⟩
        refine back (j+1) _ ado ado (ai adp ?_ ?_ ?_ ?_)<;>simp[LX,I,hnext,O]
       ·have V:¬(0:Int)<d-j:=dT h
        have:j=d.toNat:=ado
        rw[<-this,hL];refine eM () trivial ?_
        refine ai adp ?_ ?_ ?_ ?_<;>simp[LX]
     ·refine ai adp ?_ ?_ ?_ ?_<;>simp[LX,I,c8,l7]
    ·intro _ _
     have cr:=aP l 176 (n:=4) adp adp
     have dl:=Ps (cJ l 176 4) (b:=3) adp
     have dq:=Int.tmod_nonneg 3 cr.1
     have b8:Dl l (gQ t1 l N ((cJ l 176 4).tmod 3) ((cJ l 176 4).tmod 3).toNat)=Fe l []:=by subst hNe;subst al;rfl
     have c7:(bA l).bE=ez (gQ t1 l N ((cJ l 176 4).tmod 3) ((cJ l 176 4).tmod 3).toNat):=by subst hNe;subst al;rfl
     have b4:bk l=GS l (if gQ t1 l N ((cJ l 176 4).tmod 3) ((cJ l 176 4).tmod 3).toNat=[]then 0 else vc (bA l) N):=by subst hNe;subst al;rfl
     try simp only[I,RY,↓KW,seval]
     refine af (hF _ _ _ adp) ?_
     try simp only[I,RY,↓KW,seval]
     generalize(cJ l 176 4).tmod 3=r at*
     refine oc (.exit 8) (λ_:Unit=>(⟨[(4,.dat (I N) none),(3,.ptr 5 0),(0,.dat (aI aH l) none),(2,.ptr 4 0)],[(5,⟨(Dl l (gQ t1 l N r r.toNat)).cells,[]⟩),(4,⟨qF.cells,[]⟩)],[],400⟩:S)) (λ_=>True) (λ_=>rfl) ?_ ?_
     ·refine aG (λj:Nat=>(⟨[(10,.dat (I (r-j)) none),(4,.dat (I N) none),(3,.ptr 5 0),(0,.dat (aI aH l) none),(2,.ptr 4 0)],[(5,⟨(Dl l (gQ t1 l N r j)).cells,if gQ t1 l N r j=[]then[]else[(114,0)]⟩),(4,⟨qF.cells,[]⟩)],cm (gQ t1 l N r j) 0 eR,400⟩:S)) (λj=>r.toNat-j) (λj=>j<=r.toNat) ?_ 0 ado ?_
      ·intro j hj A back
       have O:IntKind.i64.wrap (r-j-1)=r-((j+1:Nat):Int):=by rw[aU ado ado];omega
       have ae:IntKind.i64.wrap (260+IntKind.i64.wrap (16*(r-(j:Int))))=260+16*(r-j):=by rw[aU (n:=16*(r-(j:Int))) ado ado,aU ado ado]
       have b2:∀L',rU (Dl l L') l (260+16*(r-j)) N=rU t1 l (260+16*(r-j)) N:=λ_=>by subst al;rfl
       have hnext:=Ng t1 l N r j
       have ac:(gQ t1 l N r j).length=j:=Ak ..
       generalize hL:gQ t1 l N r j=L at*;generalize hx:rU t1 l (260+16*(r-j)) N=x at*
       have CX:(Dl l L).Ok:=GV rfl (fy l _) (eu _) (eY l) (by simp[Dl,xe,jr,kJ,qF,qV];try omega) (by simp[Dl,xe,jr,kJ,qF,dB];try omega) (by simp[Dl,xe,jr,kJ,qF];try omega)
       have ln:=CX.ln
       have ar:=ln.len
       have ab:=ln.whole
       have M:=ln.Wu
       have D:setCells (Dl l L).cells 114 [aI Rl.cells (some (L++[x]))]=(Dl l (L++[x])).cells:=by rw[ln.TS (some (L++[x]))];simp[Dl,ez]
       have ad:(Dl l L).bE=ez L:=rfl
       rw[ad]at M;simp only[bR,ta,kr,mr]at D
       cases L with
       |nil=>
        simp only[mr,my,ez,kw,dZ]at D M hnext;try simp only[I,RY,↓KW,seval,cm]
        refine aA (λh=>?_) (λh=>?_)<;>try simp only[RY,↓KW,seval,M,ab,h]
        ·have V:(0:Int)<r-j:=dE h
         refine af (hr _ _ _ _ CX ado ado) ?_
         try simp only[RY,↓KW,seval,ae,b2,Rl.len]
         try simp only[seval,D]
         refine⟨ado,?_⟩
         refine back (j+1) _ ado ado (ai adp ?_ ?_ ?_ ?_)<;>simp[LX,I,hnext,O]
        ·have V:¬(0:Int)<r-j:=dT h
         have:j=r.toNat:=ado
         rw[<-this,hL];refine eM () trivial ?_
         refine ai adp ?_ ?_ ?_ ?_<;>simp[LX]
       |cons y ys=>
        simp only[ez,reduceCtorEq,il,bR]at D M hnext;try simp only[I,RY,↓KW,seval,cm]
        refine aA (λh=>?_) (λh=>?_)<;>try simp only[RY,↓KW,seval,M,ab,h]
        ·have V:(0:Int)<r-j:=dE h
         refine af (hr _ _ _ _ CX ado ado) ?_
         try simp only[RY,↓KW,seval,ae,b2,Rl.len]
         try simp only[RY,seval,D]
         refine⟨by simp at ac⊢;omega,ado,?_⟩
         refine back (j+1) _ ado ado (ai adp ?_ ?_ ?_ ?_)<;>simp[LX,I,hnext,O]
        ·have V:¬(0:Int)<r-j:=dT h
         have:j=r.toNat:=ado
         rw[<-this,hL];refine eM () trivial ?_
         refine ai adp ?_ ?_ ?_ ?_<;>simp[LX]
      ·refine ai adp ?_ ?_ ?_ ?_<;>simp[LX,I,ci,gQ]
     ·intro _ _
      have df:=aP l 177 (n:=3) adp adp
      have cx:Fe l (qU l N (cJ l 177 3) (cJ l 177 3).toNat)={bA l with extend:=0,i7:=0,start:=0,revert:=0,least:=0,share:=0}:=by subst hNe;rfl
      have hu:0<=IntKind.u64.wrap (N:Int):=by rw[IntKind.wrap];simp[IntKind.signed];omega
      try simp only[I,RY,↓KW,seval]
      refine af (hF _ _ _ adp) ?_
      generalize cJ l 177 3=b at*;try simp only[I,RY,↓KW,seval]
      refine oc (.exit 10) (λ_:Unit=>(⟨[(4,.dat (I N) none),(3,.ptr 5 0),(0,.dat (aI aH l) none),(2,.ptr 4 0)],[(5,⟨(Fe l (qU l N b b.toNat)).cells,[]⟩),(4,⟨qF.cells,[]⟩)],[],400⟩:S)) (λ_=>True) (λ_=>rfl) ?_ ?_
      ·refine aG (λj:Nat=>(⟨[(11,.dat (I (b-j)) none),(4,.dat (I N) none),(3,.ptr 5 0),(0,.dat (aI aH l) none),(2,.ptr 4 0)],[(5,⟨(Fe l (qU l N b j)).cells,if qU l N b j=[]then[]else[(115,0)]⟩),(4,⟨qF.cells,[]⟩)],cm (qU l N b j) 0 eB,400⟩:S)) (λj=>b.toNat-j) (λj=>j<=b.toNat) ?_ 0 ado ?_
       ·intro j hj A back
        have O:IntKind.i64.wrap (b-j-1)=b-((j+1:Nat):Int):=by rw[aU ado ado];omega
        have bl:IntKind.i64.wrap (330+IntKind.i64.wrap (2*(b-(j:Int))))=330+2*(b-j):=by rw[aU (n:=2*(b-(j:Int))) ado ado,aU ado ado]
        have bm:IntKind.i64.wrap (331+IntKind.i64.wrap (2*(b-(j:Int))))=331+2*(b-j):=by rw[aU (n:=2*(b-(j:Int))) ado ado,aU ado ado]
        have a4:(Rj l N (b-j)).cells=[AV.int .i64 (if bT .i64 (cJ l (330+2*(b-j)) 256) (IntKind.i64.wrap (IntKind.i64.wrap (1*2^min (IntKind.u64.wrap (N:Int)).toNat IntKind.i64.bits)-1))>1 then bT .i64 (cJ l (330+2*(b-j)) 256) (IntKind.i64.wrap (IntKind.i64.wrap (1*2^min (IntKind.u64.wrap (N:Int)).toNat IntKind.i64.bits)-1))else 1),AV.int .i64 (IntKind.i64.wrap (1+cJ l (331+2*(b-j)) 30))]:=rfl
        have hnext:=PO l N b j
        have ac:(qU l N b j).length=j:=Dn ..
        generalize hL:qU l N b j=L at*;generalize hx:Rj l N (b-j)=x at*
        have CX:(Fe l L).Ok:=GV rfl (fy l _) (eu _) (eY l) (by simp[Fe,xe,jr,kJ,qF,qV];try omega) (by simp[Fe,xe,jr,kJ,qF,uw];try omega) (by simp[Fe,xe,jr,kJ,qF,dB];try omega)
        have ln:=CX.ln
        have ar:=ln.len
        have ab:=ln.whole
        have M:=ln.akc
        have D:setCells (Fe l L).cells 115 [aI Bs.cells (some (L++[x]))]=(Fe l (L++[x])).cells:=by rw[ln.TT (some (L++[x]))];simp[Fe,ez]
        have ad:(Fe l L).l6=ez L:=rfl
        rw[ad]at M;simp only[bR,ta,kr,mr]at D
        cases L with
        |nil=>
         simp only[mr,my,ez,kw,dZ]at D M hnext;try simp only[I,RY,↓KW,seval,cm]
         refine aA (λh=>?_) (λh=>?_)<;>try simp only[RY,↓KW,seval,M,h]
         ·have V:(0:Int)<b-j:=dE h
          refine af (hF _ _ _ adp) ?_
          try simp only[I,RY,↓KW,seval,bl]
          refine⟨hu,?_⟩
          refine af (hF _ _ _ adp) ?_
          try simp only[I,RY,↓KW,seval,bm]
          simp only[gt_iff_lt]at a4⊢;rw[a4]at D;try simp only[seval,D]
          refine⟨ado,?_⟩
          refine back (j+1) _ ado ado (ai adp ?_ ?_ ?_ ?_)<;>simp[LX,I,hnext,O]
         ·have V:¬(0:Int)<b-j:=dT h
          have:j=b.toNat:=ado
          rw[<-this,hL];refine eM () trivial ?_
          refine ai adp ?_ ?_ ?_ ?_<;>simp[LX]
        |cons y ys=>
         simp only[ez,reduceCtorEq,il,bR]at D M hnext;try simp only[I,RY,↓KW,seval,cm]
         refine aA (λh=>?_) (λh=>?_)<;>try simp only[RY,↓KW,seval,M,h]
         ·have V:(0:Int)<b-j:=dE h
          refine af (hF _ _ _ adp) ?_
          try simp only[I,RY,↓KW,seval,bl]
          refine⟨hu,?_⟩
          refine af (hF _ _ _ adp) ?_
          try simp only[I,RY,↓KW,seval,bm]
          simp only[gt_iff_lt]at a4⊢;rw[a4]at D;try simp only[RY,seval,D,Bs.len]
          refine⟨by simp at ac⊢;omega,ado,?_⟩
          refine back (j+1) _ ado ado (ai adp ?_ ?_ ?_ ?_)<;>simp[LX,I,hnext,O]
         ·have V:¬(0:Int)<b-j:=dT h
          have:j=b.toNat:=ado
          rw[<-this,hL];refine eM () trivial ?_
          refine ai adp ?_ ?_ ?_ ?_<;>simp[LX]
       ·refine ai adp ?_ ?_ ?_ ?_<;>simp[LX,I,b8,qU]
      ·intro _ _
       have n0:({bA l with extend:=0,i7:=0,start:=0,revert:=0,least:=0,share:=0}:Tb).Ln:=⟨fy l _,eu _,eY l⟩
       have n1:({bA l with i7:=0,start:=0,revert:=0,least:=0,share:=0}:Tb).Ln:=⟨fy l _,eu _,eY l⟩
       have n2:({bA l with start:=0,revert:=0,least:=0,share:=0}:Tb).Ln:=⟨fy l _,eu _,eY l⟩
       have n3:({bA l with revert:=0,least:=0,share:=0}:Tb).Ln:=⟨fy l _,eu _,eY l⟩
       have n4:({bA l with least:=0,share:=0}:Tb).Ln:=⟨fy l _,eu _,eY l⟩
       have n5:({bA l with share:=0}:Tb).Ln:=⟨fy l _,eu _,eY l⟩
       have s0:setCells ({bA l with extend:=0,i7:=0,start:=0,revert:=0,least:=0,share:=0}:Tb).cells 116 [AV.int .i64 (cJ l 178 12)]=({bA l with i7:=0,start:=0,revert:=0,least:=0,share:=0}:Tb).cells:=(n0.xb (cJ l 178 12)).1
       have s1:setCells ({bA l with i7:=0,start:=0,revert:=0,least:=0,share:=0}:Tb).cells 117 [AV.int .i64 (cJ l 179 40)]=({bA l with start:=0,revert:=0,least:=0,share:=0}:Tb).cells:=(n1.xb (cJ l 179 40)).2.1
       have s2:setCells ({bA l with start:=0,revert:=0,least:=0,share:=0}:Tb).cells 118 [AV.int .i64 (cJ l 180 8)]=({bA l with revert:=0,least:=0,share:=0}:Tb).cells:=(n2.xb (cJ l 180 8)).2.2.1
       have s3:setCells ({bA l with revert:=0,least:=0,share:=0}:Tb).cells 119 [AV.int .i64 (cJ l 181 8)]=({bA l with least:=0,share:=0}:Tb).cells:=(n3.xb (cJ l 181 8)).2.2.2.1
       have s4:setCells ({bA l with least:=0,share:=0}:Tb).cells 120 [AV.int .i64 (cJ l 182 12)]=({bA l with share:=0}:Tb).cells:=(n4.xb (cJ l 182 12)).2.2.2.2
       have s5:setCells ({bA l with share:=0}:Tb).cells 130 [AV.int .i64 (cJ l 183 4)]=(bA l).cells:=(n5.xd (cJ l 183 4)).2
       have k0:=n0.len
       have k1:=n1.len
       have k2:=n2.len
       have k3:=n3.len
       have k4:=n4.len
       have k5:=n5.len
       rw[cx]
       generalize({bA l with extend:=0,i7:=0,start:=0,revert:=0,least:=0,share:=0}:Tb)=T0 at*
       generalize({bA l with i7:=0,start:=0,revert:=0,least:=0,share:=0}:Tb)=T1 at*
       generalize({bA l with start:=0,revert:=0,least:=0,share:=0}:Tb)=T2 at*
       generalize({bA l with revert:=0,least:=0,share:=0}:Tb)=T3 at*
       generalize({bA l with least:=0,share:=0}:Tb)=T4 at*
       generalize({bA l with share:=0}:Tb)=T5 at*
       have c0:117<=T0.cells.length:=ado
       have c1:118<=T1.cells.length:=ado
       have c2:119<=T2.cells.length:=ado
       have c3:120<=T3.cells.length:=ado
       have c4:121<=T4.cells.length:=ado
       have c5:131<=T5.cells.length:=ado
       try simp only[I,RY,↓KW,seval]
       refine af (hF _ _ _ adp) ?_
       try simp only[I,RY,↓KW,seval,c0]
       refine af (hF _ _ _ adp) ?_
       try simp only[I,RY,↓KW,seval,s0,c1]
       refine af (hF _ _ _ adp) ?_
       try simp only[I,RY,↓KW,seval,s1,c2]
       refine af (hF _ _ _ adp) ?_
       try simp only[I,RY,↓KW,seval,s2,c3]
       refine af (hF _ _ _ adp) ?_
       try simp only[I,RY,↓KW,seval,s3,c4]
       refine af (hF _ _ _ adp) ?_
       try simp only[I,RY,↓KW,seval,s4,s5,c5]
       have hT:bk l=GS l (if gQ t1 l N r r.toNat=[]then 0 else vc (bA l) N):=b4
       have be:bA l=GS l (if gQ t1 l N r r.toNat=[]then 0 else vc (bA l) 0):=by
        have:(if gQ t1 l N r r.toNat=[]then(0:Int)else vc (bA l) 0)=0:=by split<;>rfl
        rw[this];rfl
       replace be:=sd Tb.cells be
       generalize gQ t1 l N r r.toNat=R at*
       refine oc (.exit 12) (λ_:Unit=>(⟨[(3,.ptr 5 0),(2,.ptr 4 0)],[(5,⟨(bk l).cells,[]⟩),(4,⟨qF.cells,[]⟩)],[],400⟩:S)) (λ_=>True) (λ_=>rfl) ?_ ?_
       ·refine aG (λk:Nat=>(⟨[(12,.dat (I k) none),(4,.dat (I N) none),(3,.ptr 5 0),(2,.ptr 4 0)],[(5,⟨(GS l (if R=[]then 0 else vc (bA l) k)).cells,[]⟩),(4,⟨qF.cells,[]⟩)],[],400⟩:S)) (λk=>N-k) (λk=>k<=N/\(R=[]->k=0)) ?_ 0 adI ?_
        ·intro k ⟨hk,dt⟩ A back
         have O:=aC (k:=k) ado
         have ca:∀w,sO (GS l w) k=sO (bA l) k:=λ_=>rfl
         have bw:vc (bA l) (k+1)=if sO (bA l) k>vc (bA l) k then sO (bA l) k else vc (bA l) k:=rfl
         generalize au:(if R=[]then(0:Int)else vc (bA l) k)=wv at*
         have bi:(GS l wv).Ok:=GV rfl (fy l _) (eu _) (eY l) (qV l) (uw l) (by have:=aP l 177 (n:=3) adp adp;simp only[GS,bA,dB,Dn];omega)
         have ln:=bi.ln
         have ar:=ln.len
         have ab:=ln.whole
         have M:=ln.Wu
         have a6:=ln.akd
         have cb:(GS l wv).bE=ez R:=c7
         have b6:(GS l wv).rL=wv:=rfl
         rw[cb]at M;rw[b6]at a6
         have D:setCells (GS l wv).cells 129 [AV.int .i64 (if sO (bA l) k>wv then sO (bA l) k else wv)]=(GS l (if sO (bA l) k>wv then sO (bA l) k else wv)).cells:=(ln.xd _).1
         have ch:=dB R
         try simp only[I,RY,↓KW,seval]
         repeat' (((first|refine aY ?_ ?_|refine aA ?_ ?_|refine bH ?_ ?_)<;>intro h)<;>try simp only[RY,↓KW,seval,M,ch,h])
         ·have a3:=dE h
          have bd:(k:Int)<N:=by rename_i h1;exact dE h1
          have ba:R≠[]:=by intro e;rw[e]at a3;simp at a3
          rw[fb ba]at au;subst au;rw[<-bw]at D;try simp only[I,RY,↓KW,seval,a6,ab]
          refine af (hw _ _ bi) ?_;try simp only[I,RY,↓KW,seval,ca,<-bw,D,gt_iff_lt]
          refine⟨ado,?_⟩
          refine back (k+1) _ ⟨ado,λe=>absurd e ba⟩ ado ?_
          refine ai adp ?_ ?_ ?_ ?_<;>simp[LX,I,ba,O]
         ·have a3:=dT h
          have b5:R=[]:=sT ado
          rw[fp b5]at au hT;subst au;refine eM () trivial ?_
          refine ai adp ?_ ?_ ?_ ?_<;>simp[LX,hT]
         ·have bd:k=N:=by have:=dT h;omega
          rw[<-bd,au]at hT;refine eM () trivial ?_
          refine ai adp ?_ ?_ ?_ ?_<;>simp[LX,hT]
        ·refine ai adp ?_ ?_ ?_ ?_<;>simp[LX,I,be]
       ·intro _ _
        have bs:(bk l).Ok:=GW l
        have ct:=bs.ln.len
        have cv:=bs.ln.whole
        have cy:=bj.ln.len
        have b7:setCells qF.cells 0 (bk l).cells=(bk l).cells:=aM ado
        try simp only[RY,↓KW,seval,cv,ct,cy,b7]
end
section
variable (x y:Int) (t:Tb) (s:Int) {p:Nat} {α:Type} {f:α->List AV} {l:List α} (i:Nat) (n:Int)
def bv:BitVec 64:=BitVec.ofInt 64 s
def tb:Bool:=(bv s).getLsbD i
theorem Nh:IntKind.i64.wrap n%18446744073709551616=n%18446744073709551616:=by
 simp only[IntKind.wrap,IntKind.bits,IntKind.signed];simp
 split<;>omega
theorem K7:bv (IntKind.i64.wrap n)=bv n:=by
 unfold bv
 apply BitVec.eq_of_toNat_eq
 have:=Nh n
 simp only[acS]
 have e:((2^64:Nat):Int)=18446744073709551616:=adp
 rw[e,this]
theorem K8(b:BitVec 64):bv (b.toNat:Int)=b:=by
 unfold bv;rw[BitVec.ofInt_natCast];simp
theorem bv_and:bv (bT .i64 x y)=bv x&&&bv y:=by
 simp only[bT,K7];exact K8 _
theorem ake:bv (AW .i64 x y)=bv x|||bv y:=by
 simp only[AW,K7];exact K8 _
theorem TU:bv (bC .i64 x y)=bv x&&& ~~~(bv y):=by
 simp only[bC,K7];exact K8 _
theorem wrap_zero{b:BitVec 64}:IntKind.i64.wrap (b.toNat:Int)=0↔b=0:=by
 constructor
 ·intro h
  have:=Nh (b.toNat:Int)
  rw[h]at this
  apply BitVec.eq_of_toNat_eq
  simp only[BitVec.toNat_zero,BitVec.ofNat_eq_ofNat]at*;omega
 ·rintro rfl;decide
theorem and_zero{x y:Int}:bT .i64 x y=0↔∀i,i<64->(tb x i&&tb y i)=false:=by
 rw[show bT .i64 x y=IntKind.i64.wrap ((bv x&&&bv y).toNat:Int)from rfl,wrap_zero]
 constructor
 ·intro h i D;have:=sd (λb=>b.getLsbD i) h;simpa[tb]using this
 ·intro h;apply PQ;intro i D;simpa[tb]using h i D
theorem nD{x y:Int}:bC .i64 x y=0↔∀i,i<64->(tb x i&& !tb y i)=false:=by
 rw[show bC .i64 x y=IntKind.i64.wrap ((bv x&&& ~~~(bv y)).toNat:Int)from rfl,wrap_zero]
 constructor
 ·intro h i D;have:=sd (λb=>b.getLsbD i) h;simpa[tb,D]using this
 ·intro h;apply PQ;intro i D;simpa[tb,D]using h i D
theorem xg:tb (bT .i64 x y) i=(tb x i&&tb y i):=by simp[tb,bv_and]
theorem JG:tb (AW .i64 x y) i=(tb x i||tb y i):=by simp[tb,ake]
theorem i4(h:i<64):tb (bC .i64 x y) i=(tb x i&& !tb y i):=by simp[tb,TU,h]
theorem ef:tb 0 i=false:=by simp[tb,bv]
theorem ux:tb 255 i=decide (i<8):=by
 have:bv 255=255#64:=rfl
 simp only[tb,this,BitVec.getLsbD_ofNat]
 by_cases h:i<8
 ·have:i=0\/i=1\/i=2\/i=3\/i=4\/i=5\/i=6\/i=7:=ado
  rcases this with rfl|rfl|rfl|rfl|rfl|rfl|rfl|rfl<;>decide
 ·simp only[h,decide_false,Bool.and_eq_false_imp]
  intro _
  apply adj
  exact s9 (by decide:255<2^8) (pc adp ado)
theorem K9(D:p<8) (i:Nat):tb (2^p) i=decide (i=p):=by
 have e:bv (2^p)=BitVec.twoPow 64 p:=by
  have:p=0\/p=1\/p=2\/p=3\/p=4\/p=5\/p=6\/p=7:=ado
  rcases this with rfl|rfl|rfl|rfl|rfl|rfl|rfl|rfl<;>rfl
 simp only[tb,e,BitVec.getLsbD_twoPow]
 by_cases h:i=p<;>simp[h]
 ·omega
 ·omega
theorem La(D:p<8) (i:Nat):tb (sJ p) i=decide (i=p):=by
 have:sJ p=2^p:=by simp[sJ];omega
 rw[this,K9 D]
theorem jd{s:Int} (L:p<8):fu s p=tb s p:=by
 have h:fu s p=!(bT .i64 s (sJ p)==0):=rfl
 rw[h]
 cases D:tb s p with
 |true=>
  have:¬bT .i64 s (sJ p)=0:=by
   rw[and_zero];intro h;have:=h p ado;rw[D,La L]at this;simp at this
  simp[this]
 |false=>
  have:bT .i64 s (sJ p)=0:=by
   rw[and_zero];intro i _
   by_cases M:i=p
   ·subst M;rw[D];rfl
   ·rw[La L];simp[M]
  simp[this]
theorem ng{s:Int} (D:p<8) (i:Nat):tb (eJ s p) i=(tb s i&&decide (i<8)||decide (i=p)):=by
 simp only[eJ,JG,xg,ux,La D]
theorem Rk(l:List Int):∀k,k<=8->∀i,tb (Ah l k) i=(decide (i<k)&&decide ((i:Int)∈l))
 |0,_,i=>by simp[Ah,ef]
 |k+1,h,i=>by
  have D:=Rk l k ado i
  simp only[Ah];split
  ·rename_i hk
   rw[JG,D,K9 ado]
   by_cases e:i=k
   ·subst e;simp[hk]
   ·have:(i<k+1)↔i<k:=ado
    simp[e,this]
  ·rename_i hk
   rw[D]
   by_cases e:i=k
   ·subst e;simp[hk]
   ·have:(i<k+1)↔i<k:=ado
    simp[this]
theorem Rm(l:List Int) (i:Nat):tb (ofI l) i=(decide (i<8)&&decide ((i:Int)∈l)):=Rk l 8 ado i
theorem Am(Z:p<64):tb s p=decide (s.fdiv (2^p)%2=1):=by
 have e:(bv s).toNat=(s%18446744073709551616).toNat:=by
  simp only[bv,acS];rfl
 have M:tb s p=(bv s).toNat.testBit p:=rfl
 rw[M,e,Nat.testBit_eq_decide_div_mod_eq]
 congr 1
 have R:s.fdiv (2^p)=s/2^p:=acR _ (Int.le_of_lt (Int.pow_pos adp))
 rw[R,eq_iff_iff]
 have V:0<=s%18446744073709551616:=Int.emod_nonneg _ adp
 have L:(((s%18446744073709551616).toNat/2^p%2:Nat):Int)=(s%18446744073709551616)/2^p%2:=by
  push_cast [xr V];rfl
 have key:(s%18446744073709551616)/2^p%2=s/2^p%2:=by
  have D:(18446744073709551616:Int)=2^p*(2*2^(63-p)):=by
   rw[show(2:Int)^p*(2*2^(63-p))=2^(p+(1+(63-p)))by rw[Int.pow_add,Int.pow_add];rfl,show p+(1+(63-p))=64 by omega];rfl
  have O:s=s%18446744073709551616+2^p*(2*2^(63-p)*(s/18446744073709551616)):=by
   have:=Int.emod_add_mul_ediv s 18446744073709551616
   rw[<-Int.mul_assoc,<-Int.mul_assoc,Int.mul_assoc (2^p),<-D];omega
  conv=>rhs;rw[O]
  rw[Int.add_mul_ediv_left _ _ (Int.ne_of_gt (Int.pow_pos adp)),Int.mul_assoc,Int.add_mul_emod_self_left]
 rw[<-key,<-L];omega
theorem GX:bT .i64 x 1=if tb x 0 then 1 else 0:=by
 have e:bT .i64 x 1=IntKind.i64.wrap ((bv x&&&1#64).toNat:Int):=rfl
 have L:bv x&&&1#64=if tb x 0 then 1#64 else 0#64:=by
  apply PQ
  intro i M;simp only[BitVec.getLsbD_and,BitVec.getLsbD_one]
  by_cases h:i=0
  ·subst h;cases D:tb x 0<;>simp[tb]at D⊢<;>simp[D]
  ·split<;>simp[h,BitVec.getLsbD_one]
 rw[e,L];split<;>decide
theorem yA{s:Int} (L:p<8):rS s p=tb s p:=by
 have D:tb (s.fdiv (2^p)) 0=tb s p:=by
  rw[Am _ ado,Am _ ado]
  simp
 simp only[rS,rc,GX,D]
 have:(p:Int)<8:=ado
 cases tb s p<;>simp[this]
theorem BD(D:Int->Ph->Bool) (ps:List Ph):∀k,k<=8->∀i,tb (gZ D ps k) i=(decide (i<k)&&((ps.getD i default).on&&D i (ps.getD i default)))
 |0,_,i=>by simp[gZ,ef]
 |k+1,h,i=>by
  have L:=BD D ps k ado i
  simp only[gZ];split
  ·rename_i hk
   rw[ng ado,L]
   by_cases e:i=k
   ·subst e;simpa using hk
   ·have:(i<k+1)↔i<k:=ado
    simp[e,this];omega
  ·rename_i hk
   rw[L]
   by_cases e:i=k
   ·subst e;simp at hk⊢;exact hk
   ·have:(i<k+1)↔i<k:=ado
    simp[this]
theorem Rp:tb (yx t) i=(decide (i<8)&&(aK t i).on):=by
 rw[yx,Rm]
 by_cases h:i<8
 ·have:((i:Int)∈yW t 8)↔(aK t i).on=true:=by
   simp only[yW,yk,mi,ip]
   exact⟨λh=>h.2,λD=>⟨⟨i,h,rfl⟩,D⟩⟩
  simp[h,this]
 ·simp[h]
theorem Lb:t.phases.getD i default=aK t i:=by simp[aK]
theorem iV{n:Nat} (h:∀k,(f k).length=n):∀x∈l.map f,x.length=n:=by
 intro x D;obtain⟨k,_,rfl⟩:=mi.1 D;exact h k
theorem od{i:Nat} {x:List AV} (h:(l.map f)[i]? =some x):∃k,l[i]? =some k/\x=f k:=by
 rw[ka,eg]at h;obtain⟨k,L,D⟩:=h;exact⟨k,L,D.symm⟩
theorem iW{C:aT} {g:aR} {ps wr:List Nat} {as bd:aS} {Q:Exit->S->Prop} {s:S} {L:AV} {xs:List (List AV)} (hd:α->S) (I:Nat->α->Prop) (V:C.i L xs) (hg:aL s g=some L) (D:∀x∈xs,x.length=ps.length) (M:∀y,aL (hd y) g=some L) (round:∀i x y,xs[i]? =some x->I i y->∀F:S->Prop,(∀z s,I (i+1) z->Le s (hd z)->Eng.down F s)->aw C as (F4 (aw C bd (Vb wr F Q))) (uU ps x (hd y))) (fin:∀y,I xs.length y->Q .normal (hd y)) (Z:α) (O:I 0 Z) (h0:Le s (hd Z)):aw C (.vY g ps wr as bd) Q s:=
 aaI hd I hg V D (.inl h0) O M (λi x y hx hy=>round i x y hx hy _ λz s hz R=>oI R ⟨z,rfl,hz⟩) fin
end
section
open Z
def bB:List AV:=(⟨_,by conv=>lhs;cbv⟩:bS (O9 [(0,7),(1,2),(0,3)])).1
def ve(D:Nat):bJ:=(⟨_,by conv=>lhs;cbv⟩:bS (cE 24 [.tmp 6] [D] [0,1] 0xa180fc840c20fca08c3013238e17e45104021c3041420882710e0280be780088b0bc545e282f1317890bc445e202ff0ff46e66e10603811018b860c5f260606204143a4003213407b30 [[.int .i64 0]])).1
def vf(L M D O:Nat):bJ:=(⟨_,by conv=>lhs;cbv⟩:bS (cE 34 [.tmp 8] [L,M,O] [0] 0xa424042000ca302223039805edd33c8d64213ca08c3040be24322f12fa88b90c0bf8146de42382f1b178d0bc645f6302f1717b8c0bc5c5e4180e104260243031f0b2f4c18bd3a60c5f4445f06031020a1d20650210200808202f1823a8bd388115e4d40c084369b409b40 [[.int .i64 0],[.int .i64 0,.int .i64 0]] [] [.vV (.func D) [] [.t 4]])).1
def sQ(L M D O:Nat):bJ:=(⟨_,by conv=>lhs;cbv⟩:bS (cE 34 [.tmp 8] [L,D,O] [0,255] 0x5100ae420610ae50661809818206715723082010a0f8128e7901000b8be6a02e42c2fe051c790900bc7c5e3c2f1d178e0bc6c5e342f19178c0bc5c5f82c2f1517e8b0bc545e4180e104460243131f0b2f4c18bd3a60c5fbc3f06031020a3dc4a1d097870203300bd6c180084369b409b40 [[.int .i64 0],[.int .i64 0,.int .i64 0]] [.fn (.func M) [] []])).1
def vg(L M D:Nat):bJ:=(⟨_,by conv=>lhs;cbv⟩:bS (cE 66 [.cell 10 (some 6)] [L,M,D] [0,15,1] 0x560ae56be920614051460885f1020ef1673c17818410170bc1428e04251fc882b901529672b7e1a0244283e441460543ce10446e5e2f9f00a028a60442f888808c10508220dc59c39c985e091040402f0010f0f8c10508220dc44845e060271721f17f028f484785ff0020802f3f179f0bcf45e782f2e179d8bce85e722f38179b8bcd85e6a2f3417998bcc85e622f3017978bcb45e582f2b17950bca45e502f2717930bc805e4a2f2417918bc885e422fdc1f178f0bc945e3e2f1e1790603890223418bd7a480d848156f88044c08b7c4a2087c2206c204156f88841138a8bc0206c282fe050b780aa0a1060115b88090c0cfc8cdd3062fbd0900a7c6a340bb40 [[.int .i64 0,.int .i64 0,.int .i64 0,.int .i64 0,.int .i64 0,.int .i64 0],[.int .i64 0,.int .i64 0]])).1
def vh(D:Nat):bJ:=(⟨_,by conv=>lhs;cbv⟩:bS (cE 6 [.tmp 4] [] [] 0x142001c401b0b405b30 [] [.jG] [.vV (.func D) [] [.t 2,.t 3]])).1
def sR(D:Nat):bJ:=⟨21,[.tmp 4],r [o 2 (w 0),V 4 (i 0)] (r [V 5 (i 0)] (j (r [o 8 (L 2 96),V 9 (i 0)] (u 0 (.loop (r [o 10 (bb .lss 9 (i 8))] (j (c 10 z (.exit 0)) (j (u 1 (r [M 11 9,o 12 (.FT (t 8) (t 9) 8 12 (some 12)),o 7 (.alloc bB),M 6 11,n (s 7 12 12)] (r [M 13 1,o 14 (L 7 12),o 15 (.gy (t 13) [t 14])] (c 15 (R [M 16 5,M 17 6,o 18 (.call D [t 16,t 17]),M 5 18]) z)))) (R [o 19 (bb .add 9 (i 1)),M 9 19]))))))) (r [M 20 5,M 4 20] y)))⟩
def qW:bJ:=(⟨_,by conv=>lhs;cbv⟩:bS (cE 14 [.tmp 3] [] [1] 0xa0c1428e09b241b5d05e3d2816b50a0102141f04022b09805b20)).1
def pT:bJ:=(⟨_,by conv=>lhs;cbv⟩:bS (cE 6 [.tmp 2] [] [1] 0x504002141f0402240981a20)).1
def vk:bJ:=(⟨_,by conv=>lhs;cbv⟩:bS (cE 7 [.tmp 2] [] [0,1] 0xa080240062e0720a8004810 [] [] [.mm true [.t 3,.k (.int .i64 0)],.mm false [.t 4,.k (.int .i64 9999)]])).1
end
section
open Z
def zx:bJ:=(⟨_,by conv=>lhs;cbv⟩:bS (cE 15 [.tmp 2,.tmp 3] [] [0] 0xab01005c0e02e4376060659801208010243f410e3c38cb058087010178d85c0e6004820 [] [.float .f64 0,.float .f64 4652006429231887155,.float .f64 4621819117588971520] [.xt .rte (.t 12),.Mp .i64 (.t 13)])).1
end
open Ieee
set_option exponentiation.threshold 4000
section
variable (n N d q:Nat)
def yB:Nat:=n/2^d+(if 2^d<2*(n%2^d)\/(2^d=2*(n%2^d)/\n/2^d%2=1)then 1 else 0)
theorem dc:0<2^d:=Nat.two_pow_pos d
theorem Wy:yB n d<=n/2^d+1:=by unfold yB;split<;>omega
theorem Wz:n/2^d<=yB n d:=by unfold yB;omega
theorem WB:yB n 0=n:=by simp[yB,Nat.mod_one]
theorem oV(k:Nat):yB (n*2^k) (d+k)=yB n d:=by
 unfold yB;rw[mf,Nat.mul_div_mul_right _ _ (dc k),Nat.mul_mod_mul_right]
 have hk:=dc k
 have L:(2^d*2^k<2*(n%2^d*2^k))↔(2^d<2*(n%2^d)):=by
  rw[<-nl];exact Nat.mul_lt_mul_right hk
 have D:(2^d*2^k=2*(n%2^d*2^k))↔(2^d=2*(n%2^d)):=by
  rw[<-nl];exact Nat.mul_left_inj ado
 simp only[L,D]
theorem BE{n D:Nat} (h:n<=D) (d:Nat):yB n d<=yB D d:=by
 have Z:=dc d
 have V:n/2^d<=D/2^d:=Nat.div_le_div_right h
 by_cases M:n/2^d=D/2^d
 ·unfold yB
  rw[M]
  have L:=Os n (2^d)
  have O:=Os D (2^d)
  rw[M]at L
  have R:n%2^d<=D%2^d:=ado
  split<;>split<;>omega
 ·have L:=Wy n d
  have O:=Wz D d
  omega
theorem TV{n d:Nat}:yB (q*2^d) d=q:=by
 have:=oV q 0 d
 rw[lc,WB]at this;exact this
theorem sS:n<2^(n.log2+1):=Nat.lt_log2_self
theorem Ni(s:Bool) (n d:Nat):Toward.even.cut s n d=yB n d:=by
 unfold Toward.cut;simp only[Nat.one_shiftLeft]
 by_cases hd:d<=n.log2+2
 ·rw[ab7 hd]
  unfold yB
  congr 1
  by_cases M:2^d<2*(n%2^d)
  ·simp[M]
  ·by_cases D:2^d=2*(n%2^d)
   ·by_cases L:n/2^d%2=1
    ·simp[<-D,L]
    ·simp[<-D,L]
   ·simp[M,D]
 ·rw[Nat.min_eq_right ado]
  have hl:=sS n
  have D:2^(n.log2+2)=2*2^(n.log2+1):=by rw[Nat.pow_succ,t0]
  have aa:2^(n.log2+2)<=2^d:=pc ado ado
  have R:n/2^(n.log2+2)=0:=H4 ado
  have e2:n%2^(n.log2+2)=n:=H3 ado
  have e3:n/2^d=0:=H4 ado
  have Z:n%2^d=n:=H3 ado
  unfold yB;rw[R,e2,e3,Z]
  have c1:¬(2^(n.log2+2)<2*n):=ado
  have O:¬(2^(n.log2+2)=2*n):=ado
  have V:¬(2^d<2*n):=ado
  have c4:¬(2^d=2*n):=ado
  simp[c1,O,V,c4]
def rV(r:Nat):Nat:=if r<2^52 then r else(2^52+r%2^52)*2^(r/2^52-1)
theorem Lc{r D:Nat} (h:r<=D):rV r<=rV D:=by
 unfold rV
 have hd:r/2^52<=D/2^52:=Nat.div_le_div_right h
 have hm:=acx r (dc 52)
 have O:=acx D (dc 52)
 split
 ·split
  ·exact h
  ·have:1<=2^(D/2^52-1):=dc _
   calc r<=2^52+D%2^52:=by omega
    _=(2^52+D%2^52)*1:=by omega
    _<=_:=H2 _ this
 ·split
  ·omega
  ·by_cases L:r/2^52=D/2^52
   ·rw[L]
    have M:=Os r (2^52)
    have V:=Os D (2^52)
    rw[L]at M
    exact kd _ ado
   ·have R:1<=r/2^52:=by
     have:2^52<=r:=ado
     exact(adl (dc 52)).2 ado
    calc (2^52+r%2^52)*2^(r/2^52-1)<=2^53*2^(r/2^52-1):=kd _ ado
     _=2^52*2^(r/2^52):=by rw[<-mf,<-mf];congr 1;omega
     _<=2^52*2^(D/2^52-1):=H2 _ (pc ado ado)
     _<=_:=kd _ ado
def Lg:Nat:=max (N.log2-52) 1126
def Rg:Nat:=if N=0 then 0 else min ((Lg N-1126)*2^52+yB N (Lg N)) (2047*2^52)
theorem akf{N N':Nat} (D:N≠0) (h:N<=N'):Lg N<=Lg N':=by
 have:N.log2<=N'.log2:=(Nat.le_log2 ado).2 (lh (adg D) h)
 unfold Lg;omega
theorem akg:N<2^(Lg N+53):=s9 (sS N) (pc ado (by unfold Lg;omega))
theorem akh:N/2^Lg N<2^53:=by
 rw[Nat.div_lt_iff_lt_mul (dc _),<-mf,Nat.add_comm];exact akg N
theorem ac7{N:Nat} (h:N≠0) (hL:1126<Lg N):2^52<=N/2^Lg N:=by
 rw[adl (dc _),<-mf]
 refine lh (pc ado ?_) (adg h)
 unfold Lg at hL⊢;omega
theorem Ld{N N':Nat} (h:N<=N'):Rg N<=Rg N':=by
 unfold Rg
 by_cases L:N=0
 ·simp[L]
 ·have D:N'≠0:=ado
  rw[fb L,fb D]
  have hL:=akf L h
  suffices(Lg N-1126)*2^52+yB N (Lg N)<=(Lg N'-1126)*2^52+yB N' (Lg N')by omega
  by_cases M:Lg N=Lg N'
  ·rw[M];have:=BE h (Lg N');omega
  ·have R:=akh N
   have Z:=Wy N (Lg N)
   have O:2^52<=N'/2^Lg N':=ac7 D (by unfold Lg at M hL⊢;omega)
   have h4:=Wz N' (Lg N')
   have V:(Lg N-1126)+1<=Lg N'-1126:=by unfold Lg at M hL⊢;omega
   omega
theorem WC{N:Nat} (h:N=q*2^Lg N) (hb:N<2^3150):Rg N<2047*2^52/\rV (Rg N)*2^1126=N:=by
 by_cases M:N=0
 ·subst M;simp[Rg,rV]
 ·have hp:=dc (Lg N)
  have hq:N/2^Lg N=q:=by
   have:q*2^Lg N/2^Lg N=q:=acv _ hp
   rw[<-h]at this;exact this
  have hr:yB N (Lg N)=q:=by
   have:yB (q*2^Lg N) (Lg N)=q:=TV (n:=0) q
   rw[<-h]at this;exact this
  have L:=akh N
  rw[hq]at L
  have hL:Lg N<=3098:=by
   have:N.log2<3150:=(Nat.log2_lt M).2 hb
   unfold Lg;omega
  have aa:(Lg N-1126)*2^52+q<2047*2^52:=ado
  have ab:Rg N=(Lg N-1126)*2^52+q:=by unfold Rg;rw[fb M,hr];omega
  rw[ab];refine⟨aa,?_⟩
  have key:rV ((Lg N-1126)*2^52+q)=q*2^(Lg N-1126):=by
   by_cases D:Lg N=1126
   ·rw[D]
    simp only[Nat.sub_self,Nat.zero_mul,lc,QQ,tt];unfold rV;split
    ·rfl
    ·have O:q/2^52=1:=ado
     have R:q%2^52=q-2^52:=ado
     rw[O,R];omega
   ·have V:1126<Lg N:=by unfold Lg at D⊢;omega
    have Z:=ac7 M V
    rw[hq]at Z;unfold rV
    have O:((Lg N-1126)*2^52+q)/2^52-1=Lg N-1126:=ado
    have R:2^52+((Lg N-1126)*2^52+q)%2^52=q:=ado
    rw[fb ado,O,R]
  rw[key,nl,<-mf]
  have:Lg N-1126+1126=Lg N:=by
   have:1126<=Lg N:=by unfold Lg;omega
   omega
  rw[this];exact h.symm
theorem Nj{m k:Nat} (hm:m<2^53) (hk:1126<=k) (O:k<=3090):Rg (m*2^k)<2047*2^52/\rV (Rg (m*2^k))*2^1126=m*2^k:=by
 by_cases D:m=0
 ·subst D;simp[Rg,rV]
 ·have V:(m*2^k).log2=m.log2+k:=by
   have L:m*2^k≠0:=Nat.mul_ne_zero D (by have:=dc k;omega)
   apply Nat.le_antisymm
   ·have:(m*2^k).log2<m.log2+k+1:=(Nat.log2_lt L).2 (by
     rw[show m.log2+k+1=(m.log2+1)+k by omega,mf]
     exact IO (sS m) (dc k))
    omega
   ·exact(Nat.le_log2 L).2 (by rw[mf];exact kd _ (adg D))
  have M:m.log2<=52:=by have:=(Nat.log2_lt D).2 hm;omega
  have R:Lg (m*2^k)<=k:=by unfold Lg;omega
  refine WC (m*2^(k-Lg (m*2^k))) ?_ ?_
  ·rw[nl,<-mf];congr 2;omega
  ·have:=sS (m*2^k)
   refine s9 this (pc ado ado)
end
open Ieee
set_option exponentiation.threshold 4000
section
variable (m n:Nat) {x y:Nat} (a r:Nat) (s:Bool)
abbrev DF:Format:=Ieee.double
theorem mS:DF.binade=2^52:=rfl
theorem nh:DF.signWeight=2^63:=rfl
theorem Dp:DF.infRung=2047*2^52:=rfl
theorem sU:DF.leastPlace=-1074:=by decide
theorem aa1:DF.fractionBits=52:=rfl
def Dq:Nat:=if r<2^52 then r else 2^52+r%2^52
def lW:Nat:=if r<2^52 then 0 else r/2^52-1
theorem oe:rV r=Dq r*2^lW r:=by unfold rV Dq lW;split<;>simp
theorem afQ:Dq r<2^53:=by unfold Dq;split<;>omega
theorem iX{r:Nat} (h:r<2047*2^52):DF.read r=.number false (Dq r) (-1074+(lW r:Int)):=by
 have L:r/2^63%2=0:=ado
 have D:r%2^63=r:=ado
 unfold Format.read;simp only[mS,nh,Dp,sU,L,D];unfold Dq lW;split
 ·simp
 ·simp[]
theorem WD{r:Nat} (h:r<2047*2^52):DF.read (2^63+r)=.number true (Dq r) (-1074+(lW r:Int)):=by
 have L:(2^63+r)/2^63%2=1:=ado
 have D:(2^63+r)%2^63=r:=ado
 unfold Format.read;simp only[mS,nh,Dp,sU,L,D];unfold Dq lW;split
 ·simp
 ·simp[]
theorem PR(m:Nat) (p:Int) (hp:-2200<=p):DF.nearest s m p=DF.word s (Rg (m*2^(p+2200).toNat)):=by
 unfold Format.nearest
 by_cases M:m=0
 ·simp[M,Rg]
 ·rw[fb M]
  obtain⟨k,hk⟩:∃k:Nat,p=(k:Int)-2200:=⟨(p+2200).toNat,ado⟩
  subst hk
  have ek:((k:Int)-2200+2200).toNat=k:=ado
  rw[ek]
  have R:m*2^k≠0:=Nat.mul_ne_zero M (by have:=dc k;omega)
  have hl:(m*2^k).log2=m.log2+k:=by
   apply Nat.le_antisymm
   ·have:(m*2^k).log2<m.log2+k+1:=(Nat.log2_lt R).2 (by
     rw[show m.log2+k+1=(m.log2+1)+k by omega,mf]
     exact IO (sS m) (dc k))
    omega
   ·exact(Nat.le_log2 R).2 (by rw[mf];exact kd _ (adg M))
  have D:max ((k:Int)-2200+m.log2-(DF.fractionBits:Nat)) DF.leastPlace=(Lg (m*2^k):Int)-2200:=by
   rw[sU,aa1];unfold Lg;rw[hl];omega
  simp only[D];simp only[Ni,sU,mS,Dp]
  have hg:1126<=Lg (m*2^k):=by unfold Lg;omega
  have Z:((Lg (m*2^k):Int)-2200- -1074).toNat=Lg (m*2^k)-1126:=ado
  have e2:yB (m<<<((k:Int)-2200-((Lg (m*2^k):Int)-2200)).toNat) ((Lg (m*2^k):Int)-2200-((k:Int)-2200)).toNat=yB (m*2^k) (Lg (m*2^k)):=by
   rw[wa];generalize Lg (m*2^k)=L
   by_cases V:L<=k
   ·have a1:((k:Int)-2200-((L:Int)-2200)).toNat=k-L:=ado
    have O:((L:Int)-2200-((k:Int)-2200)).toNat=0:=ado
    rw[a1,O]
    have:=oV (m*2^(k-L)) 0 L
    rw[lc,nl,<-mf,yr V]at this;exact this.symm
   ·have a1:((k:Int)-2200-((L:Int)-2200)).toNat=0:=ado
    have O:((L:Int)-2200-((k:Int)-2200)).toNat=L-k:=ado
    rw[a1,O,QQ,tt]
    have:=oV m (L-k) k
    rw[yr ado]at this
    exact this.symm
  rw[Z,e2];unfold Rg;rw[fb R]
theorem WE:DF.word false r=r:=by unfold Format.word;simp
theorem oW(p:Int) (D:-2200<=p):DF.write (.number false m p)=Rg (m*2^(p+2200).toNat):=by
 show DF.nearest false m p=_
 rw[PR _ _ _ D,WE]
def Fin:Prop:=r<2047*2^52
def Ze:Nat:=4621819117588971520
theorem Lf:DF.read Ze=.number false (5*2^50) (-49):=by decide
theorem afR{r:Nat} (h:Fin r):DF.mul Ze r=some (Rg (10*rV r*2^1126))/\DF.mul r Ze=some (Rg (10*rV r*2^1126)):=by
 have e:5*2^50*Dq r*2^((-49+(-1074+(lW r:Int)))+2200).toNat=10*rV r*2^1126:=by
  have:((-49+(-1074+(lW r:Int)))+2200).toNat=lW r+1077:=ado
  rw[this,oe,show(2:Nat)^1126=2^49*2^1077 by rw[<-mf],mf,show 5*2^50=10*2^49 by decide]
  simp only[nl,Nat.mul_left_comm,t0]
 constructor
 ·unfold Format.mul
  rw[Lf,iX h];simp only[Datum.product,mn,Bool.xor_false]
  rw[oW _ _ ado,e]
 ·unfold Format.mul
  rw[Lf,iX h];simp only[Datum.product,mn,Bool.xor_false]
  rw[oW _ _ ado,t0 (Dq r),Int.add_comm (-1074+(lW r:Int)) (-49),e]
theorem aa2(b:Nat):(Datum.number false m (-1074+(a:Int))).sum (.number false n (-1074+(b:Int)))=some (.number false (m*2^(a-min a b)+n*2^(b-min a b)) (-1074+(min a b:Nat))):=by
 have L:min (-1074+(a:Int)) (-1074+(b:Int))=-1074+((min a b:Nat):Int):=ado
 have D:((-1074+(a:Int))-(-1074+((min a b:Nat):Int))).toNat=a-min a b:=ado
 have O:((-1074+(b:Int))-(-1074+((min a b:Nat):Int))).toNat=b-min a b:=ado
 simp only[Datum.sum,L,D,O,signed,eQ,il,wa];generalize m*2^(a-min a b)=x;generalize n*2^(b-min a b)=y
 have M:¬((x:Int)+(y:Int)<0):=ado
 have R:((x:Int)+(y:Int)).natAbs=x+y:=ado
 rw[R];simp[M]
theorem aa3(b:Nat) (h:n*2^b<=m*2^a):(Datum.number false m (-1074+(a:Int))).sum (.number true n (-1074+(b:Int)))=some (.number false (m*2^(a-min a b)-n*2^(b-min a b)) (-1074+(min a b:Nat))):=by
 have L:min (-1074+(a:Int)) (-1074+(b:Int))=-1074+((min a b:Nat):Int):=ado
 have D:((-1074+(a:Int))-(-1074+((min a b:Nat):Int))).toNat=a-min a b:=ado
 have R:((-1074+(b:Int))-(-1074+((min a b:Nat):Int))).toNat=b-min a b:=ado
 simp only[Datum.sum,L,D,R,signed,eQ,il,kw,wa]
 have Z:n*2^(b-min a b)<=m*2^(a-min a b):=by
  have V:=dc (min a b)
  refine acy ?_ V
  rw[nl,nl,<-mf,<-mf,yr ado,yr ado]
  exact h
 generalize m*2^(a-min a b)=x at*;generalize n*2^(b-min a b)=y at*
 have M:¬((x:Int)+ -(y:Int)<0):=ado
 have O:((x:Int)+ -(y:Int)).natAbs=x-y:=ado
 rw[O];simp[M]
theorem scl(c:Nat) (h:c<=a):m*2^(a-c)*2^(c+1126)=m*2^a*2^1126:=by
 rw[nl,<-mf,nl,<-mf,show a-c+(c+1126)=a+1126 by omega]
theorem add_pos(D:Fin x) (L:Fin y):DF.add x y=some (Rg ((rV x+rV y)*2^1126)):=by
 unfold Format.add
 rw[iX D,iX L,aa2,mn,oW _ _ ado]
 have e:((-1074+((min (lW x) (lW y):Nat):Int))+2200).toNat=min (lW x) (lW y)+1126:=ado
 rw[e,Nat.add_mul,scl _ _ _ ado,scl _ _ _ ado,<-oe,<-oe,<-Nat.add_mul]
theorem sub_pos(D:Fin x) (L:Fin y) (h:rV y<=rV x):DF.sub x y=some (Rg ((rV x-rV y)*2^1126)):=by
 unfold Format.sub;rw[iX D,iX L];simp only[Datum.opposite,pd];rw[oe,oe]at h
 rw[aa3 _ _ _ _ h,mn,oW _ _ ado]
 have e:((-1074+((min (lW x) (lW y):Nat):Int))+2200).toNat=min (lW x) (lW y)+1126:=ado
 rw[e,Nat.sub_mul,scl _ _ _ ado,scl _ _ _ ado,<-oe,<-oe,<-Nat.sub_mul]
def TW:Nat:=Rg (n*2^2200)
theorem Rq{n:Nat} (h:n<2^53):Fin (TW n)/\rV (TW n)=n*2^1074:=by
 have D:(1126:Nat)<=2200:=adp
 obtain⟨M,O⟩:=Nj (m:=n) (k:=2200) h ado ado
 refine⟨M,?_⟩;unfold TW
 have L:=dc 1126
 refine Nat.eq_of_mul_eq_mul_right L ?_;rw[O,nl,<-mf]
theorem afS{a:Nat} (h:a<2^53):Fin (Rg (a*2^1064*2^1126))/\rV (Rg (a*2^1064*2^1126))=a*2^1064:=by
 have e:a*2^1064*2^1126=a*2^2190:=by rw[nl,<-mf]
 obtain⟨L,M⟩:=Nj (k:=2190) h ado ado
 rw[e];refine⟨L,?_⟩
 have D:=dc 1126
 refine Nat.eq_of_mul_eq_mul_right D ?_;rw[M,e]
theorem Fs{N a b:Nat} (L:a*2^1064*2^1126<=N) (M:N<=b*2^1064*2^1126) (h:b<2^53):Fin (Rg N)/\a*2^1064<=rV (Rg N)/\rV (Rg N)<=b*2^1064:=by
 have D:a<2^53:=by
  have:a*(2^1064*2^1126)<=b*(2^1064*2^1126):=by rw[<-nl,<-nl];exact lh L M
  have:=acy this (Nat.mul_pos (dc _) (dc _))
  omega
 obtain⟨f1,Z⟩:=afS D;obtain⟨O,f4⟩:=afS h
 have R:=Ld L
 have V:=Ld M
 refine⟨?_,?_,?_⟩
 ·unfold Fin at O⊢;omega
 ·rw[<-Z];exact Lc R
 ·rw[<-f4];exact Lc V
theorem afT:yB (m<<<(-1074+(a:Int)).toNat) (-(-1074+(a:Int))).toNat=yB (m*2^a) 1074:=by
 rw[wa]
 by_cases h:1074<=a
 ·have L:(-1074+(a:Int)).toNat=a-1074:=ado
  have D:(-(-1074+(a:Int))).toNat=0:=ado
  rw[L,D]
  have:=oV (m*2^(a-1074)) 0 1074
  rw[lc,nl,<-mf,yr h]at this;exact this.symm
 ·have L:(-1074+(a:Int)).toNat=0:=ado
  have D:(-(-1074+(a:Int))).toNat=1074-a:=ado
  rw[L,D,QQ,tt]
  have:=oV m (1074-a) a
  rw[yr ado]at this
  exact this.symm
theorem aa4{r:Nat} (h:Fin r):DF.write ((DF.read r).integral .even)=TW (yB (rV r) 1074):=by
 rw[iX h];simp only[Datum.integral,Ni,afT]
 rw[oW _ _ ado,<-oe,show((0:Int)+2200).toNat=2200 by omega]
 unfold TW;with_reducible rfl
theorem WG(n d:Nat):Toward.zero.cut s n d=n/2^d:=by
 unfold Toward.cut;simp only[Nat.one_shiftLeft,Bool.toNat_false,se]
 by_cases hd:d<=n.log2+2
 ·rw[ab7 hd]
 ·rw[Nat.min_eq_right ado]
  have L:=sS n
  have M:2^(n.log2+2)=2*2^(n.log2+1):=by rw[Nat.pow_succ,t0]
  have D:2^(n.log2+2)<=2^d:=pc ado ado
  rw[H4 ado,H4 ado]
theorem TX{r:Nat} (h:Fin r):(DF.read r).toInt .zero=some ((rV r/2^1074:Nat):Int):=by
 rw[iX h,oe];unfold Datum.toInt;simp only[Datum.integral,WG,wa,signed,eQ,il,QQ,tt]
 congr 2
 generalize lW r=a;generalize Dq r=m
 by_cases h:1074<=a
 ·have L:(-1074+(a:Int)).toNat=a-1074:=ado
  have D:(-(-1074+(a:Int))).toNat=0:=ado
  rw[L,D,QQ,Nat.div_one]
  have:m*2^a=m*2^(a-1074)*2^1074:=by rw[nl,<-mf,yr h]
  rw[this,acv _ (dc _)]
 ·have L:(-1074+(a:Int)).toNat=0:=ado
  have D:(-(-1074+(a:Int))).toNat=1074-a:=ado
  rw[L,D,QQ,tt]
  have:m*2^a/2^1074=m*2^a/(2^(1074-a)*2^a):=by rw[<-mf,yr ado]
  rw[this,Nat.mul_div_mul_right _ _ (dc _)]
theorem TY{n:Nat} (h:n<2^53):(DF.read (TW n)).toInt .zero=some (n:Int):=by
 obtain⟨L,D⟩:=Rq h;rw[TX L,D,acv _ (dc _)]
end
section
variable {a b:Int} {m r:Nat} {s:Bool} (x:Nat)
def key:Option Int:=
 match DF.read x with
 | .nan ..=>none
 | .infinity s=>some (if s then -(2^2200:Nat)else(2^2200:Nat))
 | .number s m i=>some (signed s m (i+1074).toNat)
theorem xh{i:Int} (h:DF.read x=.number s m i):-1074<=i/\i<=971/\m<2^53:=by
 unfold Format.read at h;dsimp only at h;split at h
 ·rename_i D
  cases h;rw[nh,mS]at D;rw[nh,sU];omega
 ·split at h
  ·rename_i D L
   cases h;rw[nh,Dp]at L;rw[nh,sU,mS];omega
  ·split at h<;>cases h
theorem BF(s:Bool) (m a b:Nat):signed s m (a+b)=signed s m a*((2^b:Nat):Int):=by
 have e:((m<<<(a+b):Nat):Int)=((m<<<a:Nat):Int)*((2^b:Nat):Int):=by
  rw[wa,wa,mf,<-nl,Int.natCast_mul]
 unfold signed;cases s
 ·simp only[eQ,il];exact e
 ·simp only[kw,e,Int.neg_mul]
theorem TZ(a b:Int) (k:Nat):compare (a*((2^k:Nat):Int)) (b*((2^k:Nat):Int))=compare a b:=by
 have D:(0:Int)<((2^k:Nat):Int):=by have:=dc k;omega
 have L:(a*((2^k:Nat):Int)<b*((2^k:Nat):Int))↔a<b:=Int.mul_lt_mul_right D
 have M:(a*((2^k:Nat):Int)=b*((2^k:Nat):Int))↔a=b:=⟨λh=>Int.eq_of_mul_eq_mul_right ado h,λh=>by rw[h]⟩
 simp only[compare,compareOfLessAndEq,L,M]
theorem JH{a:Nat} (hm:m<2^53) (D:a<=2045):-((2^2200:Nat):Int)<signed s m a/\signed s m a<((2^2200:Nat):Int):=by
 have L:m*2^a<2^53*2^2045:=s9 (IO hm (dc a)) (H2 _ (pc ado D))
 have M:2^53*2^2045<=2^2200:=by rw[<-mf];exact pc ado ado
 have O:m*2^a<2^2200:=s9 L M
 unfold signed;rw[wa];generalize m*2^a=z at*;generalize 2^2200=w at*
 cases s<;>simp<;>omega
def Lh:Option Int->Option Int->Option Ordering
 |some a,some b=>some (compare a b)
 |_,_=>none
theorem An{a b:Int} (h:a<b):compare a b=.lt:=by simp[compare,compareOfLessAndEq,h]
theorem Ao(h:b<a):compare a b=.gt:=by
 have L:¬a<b:=ado
 have D:¬a=b:=ado
 simp[compare,compareOfLessAndEq,L,D]
theorem Dr(h:a=b):compare a b=.eq:=by simp[compare,compareOfLessAndEq,h]
theorem yC(y:Nat):DF.order x y=Lh (key x) (key y):=by
 have aa:(0:Int)<((2^2200:Nat):Int):=by have:=dc 2200;omega
 unfold Format.order key
 cases hx:DF.read x with
 |nan s t=>cases DF.read y<;>rfl
 |infinity s=>
  cases O:DF.read y with
  |nan _ _=>rfl
  |infinity t=>
   simp only[Datum.order,Lh];generalize((2^2200:Nat):Int)=w at*
   cases s<;>cases t<;>simp only[eQ,il,kw]
   ·rw[Dr rfl];rfl
   ·rw[Ao ado];rfl
   ·rw[An ado];rfl
   ·rw[Dr rfl];rfl
  |number t n j=>
   obtain⟨V,b2,M⟩:=xh y O
   obtain⟨L,D⟩:=JH (s:=t) (a:=(j+1074).toNat) M ado
   simp only[Datum.order,Lh];generalize((2^2200:Nat):Int)=w at*
   cases s<;>simp only[eQ,il,kw]
   ·rw[Ao D]
   ·rw[An L]
 |number s m i=>
  obtain⟨V,b2,M⟩:=xh x hx
  cases O:DF.read y with
  |nan _ _=>rfl
  |infinity t=>
   obtain⟨L,D⟩:=JH (s:=s) (a:=(i+1074).toNat) M ado
   simp only[Datum.order,Lh];generalize((2^2200:Nat):Int)=w at*
   cases t<;>simp only[eQ,il,kw]
   ·rw[An D]
   ·rw[Ao L]
  |number t n j=>
   obtain⟨d1,d2,d3⟩:=xh y O;simp only[Datum.order,Lh]
   have R:(i+1074).toNat=(i-min i j).toNat+(min i j+1074).toNat:=ado
   have Z:(j+1074).toNat=(j-min i j).toNat+(min i j+1074).toNat:=ado
   rw[R,Z,BF,BF,TZ]
theorem qX(h:Fin r):key r=some (rV r:Int):=by
 unfold key;rw[iX h];simp only[signed,eQ,il,wa]
 rw[oe,show((-1074+(lW r:Int))+1074).toNat=lW r by omega]
theorem Rr(h:Fin r):key (2^63+r)=some (-(rV r:Int)):=by
 unfold key;rw[WD h];simp only[signed,kw,wa]
 rw[oe,show((-1074+(lW r:Int))+1074).toNat=lW r by omega]
end
open Ieee
set_option exponentiation.threshold 4000
section
variable (x:Nat) (op:BinOp) {a b c k s v:Nat} (y:Nat)
def xj:Nat:=4652006429231887155
def uy:Nat:=4584304132692975288
def U0:Bool:=DF.order x y==some .gt||DF.order x y==some .eq
def T6:Bool:=DF.order x y==some .lt||DF.order x y==some .eq
def ltF:Bool:=DF.order x y==some .lt
def gtF:Bool:=DF.order x y==some .gt
def eqF:Bool:=DF.order x y==some .eq
def kle:Option Int->Option Int->Bool
 |some a,some b=>decide (a<=b)
 |_,_=>false
def klt:Option Int->Option Int->Bool
 |some a,some b=>decide (a<b)
 |_,_=>false
theorem aa5:T6 x y=kle (key x) (key y):=by
 unfold T6;rw[yC]
 cases key x<;>cases key y<;>try rfl
 rename_i a b;simp only[Lh,kle]
 rcases ada a b with h|h|h
 ·rw[An h];simp;omega
 ·rw[Dr h];simp;omega
 ·rw[Ao h];simp;omega
theorem aa6:U0 x y=kle (key y) (key x):=by
 unfold U0;rw[yC]
 cases key x<;>cases key y<;>try rfl
 rename_i a b;simp only[Lh,kle]
 rcases ada a b with h|h|h
 ·rw[An h];simp;omega
 ·rw[Dr h];simp;omega
 ·rw[Ao h];simp;omega
theorem aa7:ltF x y=klt (key x) (key y):=by
 unfold ltF;rw[yC]
 cases key x<;>cases key y<;>try rfl
 rename_i a b;simp only[Lh,klt]
 rcases ada a b with h|h|h
 ·rw[An h];simp;omega
 ·rw[Dr h];simp;omega
 ·rw[Ao h];simp;omega
theorem aa8:gtF x y=klt (key y) (key x):=by
 unfold gtF;rw[yC]
 cases key x<;>cases key y<;>try rfl
 rename_i a b;simp only[Lh,klt]
 rcases ada a b with h|h|h
 ·rw[An h];simp;omega
 ·rw[Dr h];simp;omega
 ·rw[Ao h];simp;omega
theorem aki:Fin 0:=by unfold Fin;omega
theorem aa9:Fin xj:=by unfold Fin xj;omega
theorem Ft:Fin uy:=by unfold Fin uy;omega
theorem am3:rV 0=0:=by simp[rV]
theorem Rt:key 0=some 0:=by rw[qX aki,am3];rfl
theorem Ru:key xj=some (rV xj:Int):=qX aa9
theorem aba{r:Nat} (h:rV r=0):r=0:=by
 unfold rV at h;split at h
 ·exact h
 ·have:=Nat.mul_pos (show 0<2^52+r%2^52 by omega) (dc (r/2^52-1))
  omega
theorem WH(hs:s<2^64) {a:Int} (hk:key s=some a) (Z:0<=a) (V:a<=(rV xj:Int)):(Fin s/\a=(rV s:Int))\/(s=2^63/\a=0):=by
 have aa:(rV xj:Int)<((2^2200:Nat):Int):=by
  have:rV xj<2^2200:=by decide+kernel
  omega
 by_cases ab:s<2^63
 ·by_cases L:Fin s
  ·left
   rw[qX L]at hk;exact⟨L,(Ax hk).symm⟩
  ·exfalso
   unfold Fin at L;unfold key Format.read at hk;dsimp only at hk
   have M:s%DF.signWeight=s:=by rw[nh];omega
   have O:s/DF.signWeight%2=0:=by rw[nh];omega
   rw[M,O,mS,Dp]at hk
   rw[fb ado,fb L]at hk
   split at hk
   ·cases hk
   ·rename_i s' D
    split at D<;>try(cases D;done)
    cases D;cases hk;simp only[show((0:Nat)==1)=false from rfl,eQ,il]at V
    omega
   ·rename_i D
    split at D<;>cases D
 ·obtain⟨r,rfl⟩:∃r,s=2^63+r:=⟨s-2^63,ado⟩
  by_cases L:Fin r
  ·right
   rw[Rr L]at hk
   have:=Ax hk
   have R:rV r=0:=ado
   have:=aba R
   subst this
   exact⟨rfl,ado⟩
  ·exfalso
   unfold Fin at L;unfold key Format.read at hk;dsimp only at hk
   have M:(2^63+r)%DF.signWeight=r:=by rw[nh];omega
   have O:(2^63+r)/DF.signWeight%2=1:=by rw[nh];omega
   rw[M,O,mS,Dp]at hk
   rw[fb ado,fb L]at hk
   split at hk
   ·cases hk
   ·rename_i s' D
    split at D<;>try(cases D;done)
    cases D;cases hk;simp only[show((1:Nat)==1)=true from rfl,kw]at Z
    have:=dc 2200
    omega
   ·rename_i D
    split at D<;>cases D
def X10(a:Nat):Nat:=Rg (10*a*2^1126)
def T7(a:Nat):Nat:=yB (rV (X10 a)) 1074
theorem Nk(h:a<=b):X10 a<=X10 b:=Ld (kd _ (H2 _ h))
theorem WJ(h:a<=b):T7 a<=T7 b:=BE (Lc (Nk h)) _
theorem abb:T7 (rV xj)=9999:=by decide+kernel
theorem abc:X10 (rV xj)<2047*2^52:=by decide+kernel
theorem abd(h:a<=rV xj):Fin (X10 a):=by
 have L:=Nk h
 have D:=abc
 unfold Fin;omega
theorem afV(h:a<=rV xj):T7 a<=9999:=by rw[<-abb];exact WJ h
theorem ac9:T7 0=0:=by decide+kernel
def Zf(s:Nat):Bool:=U0 s 0&&T6 s xj
def tk(s:Nat):Nat:=T7 ((key s).getD 0).toNat
theorem Fu:Zf s=true↔∃a:Nat,key s=some (a:Int)/\a<=rV xj:=by
 unfold Zf;rw[aa6,aa5,Rt,Ru]
 cases hk:key s with
 |none=>simp[kle]
 |some a=>
  simp only[kle,ed,ii,fx];constructor
  ·rintro⟨L,D⟩;exact⟨a.toNat,ado,ado⟩
  ·rintro⟨b,rfl,h⟩;omega
theorem Rv(h:key s=some (a:Int)):tk s=T7 a:=by simp[tk,h]
theorem afW{x:Nat} (h:Fin x):Ks x=some (.float .f64 (TW (yB (rV x) 1074))):=by
 have D:FloatKind.f64.decode x=.number false (Dq x) (-1074+(lW x:Int)):=iX h
 unfold Ks;rw[D];dsimp only
 have:=aa4 h
 rw[iX h]at this
 exact sd (λn=>some (AV.float .f64 n)) this
theorem Rw{x n:Nat} (h:(DF.read x).toInt .zero=some (n:Int)) (L:n<2^53):AY .i64 (.float .f64 x)=some (.int .i64 n):=by
 have D:(FloatKind.f64.decode x).toInt .zero=some (n:Int):=h
 simp only[AY,D];rw[fp];constructor
 ·have:IntKind.i64.min=-(2^63):=adp
  omega
 ·have:IntKind.i64.max=2^63-1:=adp
  omega
theorem z_1:DF.mul Ze (2^63)=some (2^63):=by decide+kernel
theorem z_4:(DF.read (2^63)).toInt .zero=some ((0:Nat):Int):=by decide+kernel
theorem am4:FloatKind.f64.decode (2^63)=.number true 0 (-1074):=by decide+kernel
theorem am5:FloatKind.f64.encode ((Datum.number true 0 (-1074)).integral .even)=2^63:=by decide+kernel
theorem z_3:Ks (2^63)=some (.float .f64 (2^63)):=by
 unfold Ks;rw[am4]
 show some (AV.float .f64 (FloatKind.f64.encode ((Datum.number true 0 (-1074)).integral .even)))=_
 rw[am5]
theorem T8(Z:s<2^64) (h:Zf s=true):∃x y,DF.mul Ze s=some x/\Ks x=some (.float .f64 y)/\AY .i64 (.float .f64 y)=some (.int .i64 (tk s)):=by
 obtain⟨a,O,R⟩:=Fu.1 h
 have M:=Rv O
 rcases WH Z O ado ado with⟨V,D⟩|⟨rfl,D⟩
 ·have D:a=rV s:=ado
  subst D
  have hX:=abd R
  have L:=afV R
  refine⟨X10 (rV s),TW (yB (rV (X10 (rV s))) 1074),(afR V).1,afW hX,?_⟩;rw[M]
  exact Rw (TY (by unfold T7 at L;omega)) ado
 ·have D:a=0:=ado
  subst D;refine⟨2^63,2^63,z_1,z_3,?_⟩;rw[M,ac9]
  exact Rw z_4 ado
theorem Ry{d:Nat} (h:a<=b) (D:d<=c):a-c<=b-d:=by omega
theorem GY{x y:Nat} (h:x*2^c<=y*2^c):x<=y:=acy h (dc c)
theorem afX(hk:1<=k) (ao:k<=9999) (h1:10*a<=1024*k) (h2:1024*k<=10*(a+1)):∃s,DF.div (TW k) Ze=some s/\Fin s/\a*2^1064<=rV s/\rV s<=(a+1)*2^1064:=by
 obtain⟨f1,f2⟩:=Rq (n:=k) ado
 generalize TW k=r at*
 have hd:=afQ r
 rw[oe]at f2
 -- the number is a normal one
 have an:2^52<=r:=by
  refine Nat.le_of_not_lt λh=>?_
  have e1:Dq r=r:=by unfold Dq;rw[fp h]
  have e2:lW r=0:=by unfold lW;rw[fp h]
  rw[e1,e2,QQ,tt]at f2
  have:1*2^1074<=k*2^1074:=kd _ hk
  have:(2:Nat)^52<=2^1074:=pc ado ado
  omega
 have O:2^52<=Dq r:=by unfold Dq;rw[fb ado];omega
 have ac:(Dq r).log2=52:=by
  have V:Dq r≠0:=ado
  have a1:(Dq r).log2<53:=(Nat.log2_lt V).2 hd
  have a2:52<=(Dq r).log2:=(Nat.le_log2 V).2 O
  omega
 have hp:lW r<=1036:=by
  refine Nat.le_of_not_lt λh=>?_
  have b1:2^52*2^1037<=Dq r*2^lW r:=Nat.mul_le_mul O (pc ado h)
  rw[f2,<-mf]at b1
  have b2:k*2^1074<2^15*2^1074:=IO ado (dc _)
  rw[<-mf]at b2;omega
 have ad:(5*2^50:Nat).log2=52:=adp
 have R:54+(5*2^50:Nat).log2-(Dq r).log2=54:=by rw[ac,ad]
 have L:DF.div r Ze=some (Rg ((2*(Dq r*2^54/(5*2^50))+(Dq r*2^54%(5*2^50) !=0).toNat)*2^(lW r+1120))):=by
  unfold Format.div;rw[Lf,iX f1]
  have ag:DF.fractionBits+2=54:=rfl
  rw[ag];unfold Datum.quotient;dsimp only
  rw[fb ado,R,wa,mn]
  have:((-1074+(lW r:Int))- -49-(54:Nat)-1+2200).toNat=lW r+1120:=ado
  rw[show(false^^false)=false from rfl,oW _ _ ado,this]
 obtain⟨n,hn⟩:∃n:Nat,n=5*2^50:=⟨_,rfl⟩
 rw[<-hn]at L
 obtain⟨D,aa⟩:∃D:Nat,D=Dq r*2^54:=⟨_,rfl⟩
 rw[<-aa]at L;refine⟨_,L,?_⟩
 -- the floor against a afS number
 have M:∀z:Nat,(z*2^(1069-lW r))*n*2^lW r=5*z*2^1119:=by
  intro z;rw[hn]
  have:z*2^(1069-lW r)*(5*2^50)*2^lW r=5*z*(2^(1069-lW r)*2^50*2^lW r):=by
   simp only[nl,Nat.mul_left_comm,t0]
  rw[this,<-mf,<-mf]
  rw[show 1069-lW r+50+lW r=1119 by omega]
 have hD:D*2^lW r=512*k*2^1119:=by
  rw[aa]
  have:Dq r*2^54*2^lW r=Dq r*2^lW r*2^54:=by simp only[nl,t0]
  rw[this,f2,nl,<-mf,show 1074+54=9+1119 by omega,mf,<-nl,t0 k]
 have ab:0<n:=ado
 have lo:∀z,5*z<=512*k->z*2^(1069-lW r)<=D/n:=by
  intro z hz;rw[adl ab]
  refine GY (c:=lW r) ?_
  rw[M,hD];exact kd _ hz
 have hi:∀z,512*k<=5*z->2*(D/n)+(D%n !=0).toNat<=2*(z*2^(1069-lW r)):=by
  intro z hz
  have am:D<=z*2^(1069-lW r)*n:=by
   refine GY (c:=lW r) ?_
   rw[M,hD];exact kd _ hz
  generalize z*2^(1069-lW r)=Z at*
  have al:=Os D n
  have h3:D/n<=Z:=by
   rw[<-acv Z ab];exact Nat.div_le_div_right am
  by_cases V:D%n=0
  ·simp[V];omega
  ·have h4:D/n<Z:=by
    refine Nat.lt_of_le_of_ne h3 λe=>?_
    rw[e,t0]at al;omega
   have h5:(D%n !=0).toNat=1:=by simp[V]
   omega
 have sc:∀z:Nat,z*2^1064*2^1126=2*(z*2^(1069-lW r))*2^(lW r+1120):=by
  intro z
  have:2*(z*2^(1069-lW r))*2^(lW r+1120)=z*(2^1*2^(1069-lW r)*2^(lW r+1120)):=by
   simp only[Nat.mul_left_comm,t0,Nat.pow_one]
  rw[this,<-mf,<-mf,nl,<-mf]
  rw[show 1+(1069-lW r)+(lW r+1120)=1064+1126 by omega]
 have ae:a*2^1064*2^1126<=(2*(D/n)+(D%n !=0).toNat)*2^(lW r+1120):=by
  rw[sc]
  have:=lo a ado
  exact kd _ ado
 have ak:(2*(D/n)+(D%n !=0).toNat)*2^(lW r+1120)<=(a+1)*2^1064*2^1126:=by
  rw[sc]
  exact kd _ (hi (a+1) ado)
 have hb:a+1<2^53:=ado
 exact Fs ae ak hb
theorem Nl(L:1024*k<c+512) (D:c<1024*k+512):yB c 10=k:=by
 unfold yB;split<;>omega
theorem WK(c:Nat):yB (c*2^1064) 1074=yB c 10:=oV c 10 1064
theorem Li(D:a*2^1064<=v) (L:v<=b*2^1064) (hb:b<2^40) (h3:1024*k<10*a+512) (h4:10*b<1024*k+512):T7 v=k:=by
 have e:∀z:Nat,10*(z*2^1064)=10*z*2^1064:=λz=>by rw[nl]
 have R:=Fs (N:=10*v*2^1126) (a:=10*a) (b:=10*b) (by rw[<-e];exact kd _ (H2 _ D)) (by rw[<-e];exact kd _ (H2 _ L)) ado
 obtain⟨_,Z,V⟩:=R
 have M:=BE Z 1074
 have O:=BE V 1074
 rw[WK]at M O
 have aa:a<=b:=GY (lh D L)
 have r1:=Nl (c:=10*a) (k:=k) ado ado
 have r2:=Nl (c:=10*b) (k:=k) ado ado
 have:T7 v=yB (rV (Rg (10*v*2^1126))) 1074:=rfl
 omega
theorem Rz:30*2^1064<=rV uy:=by decide+kernel
theorem Lj:rV uy<=31*2^1064:=by decide+kernel
theorem am6:1023897*2^1064<=rV xj:=by decide+kernel
theorem WL:DF.div (TW 9999) Ze=some xj:=by decide+kernel
theorem akj:DF.div (TW 0) Ze=some 0:=by decide+kernel
theorem abe:T7 (rV uy)=0:=by decide+kernel
def near(off k:Nat):Prop:=ltF off 0=false->gtF off xj=false->Zf off=true/\tk off=k
theorem Lk(D:Fin v) (M:T7 (rV v)=k):near v k:=by
 intro O L;rw[aa8,qX D,Ru]at L;simp only[klt,pC]at L
 exact⟨Fu.2 ⟨rV v,qX D,ado⟩,by rw[Rv (qX D)];exact M⟩
theorem back(hk:k<=9999):∃s u d,DF.div (TW k) Ze=some s/\DF.add s uy=some u/\DF.sub s uy=some d/\s<2^64/\u<2^64/\Zf s=true/\tk s=k/\near u k/\near d k/\d<2^64:=by
 by_cases h0:k=0
 ·subst h0
  have hd:DF.sub 0 uy=some (2^63+uy):=by decide+kernel
  have hu:DF.add 0 uy=some uy:=by decide+kernel
  refine⟨0,uy,2^63+uy,akj,hu,hd,ado,by unfold uy;omega,Fu.2 ⟨0,Rt,ado⟩,by rw[Rv (a:=0) Rt];exact ac9,Lk Ft abe,?_,by unfold uy;omega⟩
  intro L;rw[aa7,Rr Ft,Rt]at L;simp only[klt,pC]at L
  have:0<rV uy:=by decide+kernel
  omega
 ·obtain⟨s,L,M,V,h4⟩:=afX (k:=k) (a:=1024*k/10) ado hk ado ado
  generalize ha:1024*k/10=a at*
  have aa:10*a<=1024*k:=ado
  have ab:1024*k<=10*a+9:=ado
  have D:rV s<=rV xj:=by
   by_cases h9:k=9999
   ·subst h9
    rw[WL]at L;cases L;exact ik _
   ·refine lh h4 (lh (kd _ ado) am6)
  have Z:T7 (rV s)=k:=Li V h4 ado ado ado
  have O:rV uy<=rV s:=lh Lj (lh (kd _ ado) V)
  have R:=Fs (N:=(rV s+rV uy)*2^1126) (a:=a+30) (b:=a+1+31) (kd _ (by rw[Nat.add_mul];exact Nat.add_le_add V Rz)) (kd _ (by rw[Nat.add_mul (a+1)];exact Nat.add_le_add h4 Lj)) ado
  have hD:=Fs (N:=(rV s-rV uy)*2^1126) (a:=a-31) (b:=a+1-30) (kd _ (by rw[Nat.sub_mul];exact Ry V Lj)) (kd _ (by rw[Nat.sub_mul];exact Ry h4 Rz)) ado
  refine⟨s,_,_,L,add_pos M Ft,sub_pos M Ft O,?_,?_,Fu.2 ⟨rV s,qX M,D⟩,by rw[Rv (qX M)];exact Z,?_,?_,?_⟩
  ·unfold Fin at M;omega
  ·have:=R.1;unfold Fin at this;omega
  ·exact Lk R.1 (Li R.2.1 R.2.2 ado ado ado)
  ·exact Lk hD.1 (Li hD.2.1 hD.2.2 ado ado ado)
  ·have:=hD.1;unfold Fin at this;omega
abbrev Fl (x:Nat):AV:=.float .f64 x
theorem akk:eK .geq (.float .f64 x) (.float .f64 y)=some (.bool (U0 x y)):=rfl
theorem akl:eK .leq (.float .f64 x) (.float .f64 y)=some (.bool (T6 x y)):=rfl
theorem akm:eK .gtr (.float .f64 x) (.float .f64 y)=some (.bool (gtF x y)):=rfl
theorem akn:eK .lss (.float .f64 x) (.float .f64 y)=some (.bool (ltF x y)):=rfl
theorem ako:eK .eql (.float .f64 x) (.float .f64 y)=some (.bool (eqF x y)):=rfl
theorem akp:eK .neq (.float .f64 x) (.float .f64 y)=some (.bool (!eqF x y)):=rfl
theorem akq:eK .mul (.float .f64 x) (.float .f64 y)=O7 .f64 (DF.mul x y):=rfl
theorem akr:eK .sub (.float .f64 x) (.float .f64 y)=O7 .f64 (DF.sub x y):=rfl
theorem aks:eK .add (.float .f64 x) (.float .f64 y)=O7 .f64 (DF.add x y):=rfl
theorem akt:eK .quo (.float .f64 x) (.float .f64 y)=O7 .f64 (DF.div x y):=rfl
theorem aku:unA .neg (.float .f64 x)=some (.float .f64 (Op.negFloat .f64 x)):=rfl
theorem abf(r:Nat):O7 .f64 (some r)=some (.float .f64 r):=rfl
theorem n_l:eK op .gn (.float .f64 y)=zM op:=by cases op<;>rfl
theorem n_r:eK op (.float .f64 y) .gn=zM op:=by cases op<;>rfl
theorem n_b:eK op .gn .gn=zM op:=by cases op<;>rfl
theorem akv:zM .neq=some (.bool true):=rfl
theorem akw:zM .eql=some (.bool false):=rfl
theorem akx:zM .sub=some .gn:=rfl
theorem aky:zM .leq=some (.bool false):=rfl
theorem akz:zM .lss=some (.bool false):=rfl
theorem akA:zM .geq=some (.bool false):=rfl
theorem akB:zM .gtr=some (.bool false):=rfl
def NAN:=dC @n_l (dC @n_r (dC @n_b (dC akv (dC akw (dC akx (dC aky (dC akz (dC akA akB))))))))
def FLW:=dC @abf (dC @akk (dC @akl (dC @akm (dC @akn (dC @ako (dC @akp (dC @akq (dC @akr (dC @aks (dC @akt @aku))))))))))
def T9(s:Nat):AV:=.dP [I (if Zf s then(tk s:Int)else 0),B (Zf s)]
def GZ.Spec(C:aT) (f:Nat):Prop:=∀s:Nat,s<2^64->C.c f [Fl s] (T9 s) none
end
section
variable{P:Program} (hm:P.follows .mixedOrders=true) {f:Nat}
include hm
theorem GZ.ok(hc:bK P f=some zx):GZ.Spec (Pure P) f:=by
 intro s hs
 have O:Zf s=(U0 s 0&&T6 s 4652006429231887155):=rfl
 obtain⟨b1,M⟩:∃b,U0 s 0=b:=⟨_,rfl⟩
 obtain⟨b2,L⟩:∃b,T6 s 4652006429231887155=b:=⟨_,rfl⟩
 rw[M,L]at O
 have R:=λh=>T8 (s:=s) hs h
 clear hs;refine aq hm hc [] rfl ?_;try simp only[I,B,D,RX,↓KW,seval,zx,Z.H,FLW]
 cases b1<;>cases b2
 ·try simp only[I,B,D,RX,↓KW,seval,FLW,M,L]
  rw[T9,O];rfl
 ·try simp only[I,B,D,RX,↓KW,seval,FLW,M,L]
  rw[T9,O];rfl
 ·try simp only[I,B,D,RX,↓KW,seval,FLW,M,L]
  rw[T9,O];rfl
 ·obtain⟨x,y,e1,e2,e3⟩:=R O
  have V:DF.mul 4621819117588971520 s=some x:=e1
  try simp only[I,B,D,RX,↓KW,seval,FLW,M,L,V,e2,e3]
  rw[T9,O];rfl
end
section
open Z
def b9:List AV:=(⟨_,by conv=>lhs;cbv⟩:bS (O9 [(0,7),(1,2),(0,10),(1,2),(0,10),(1,2),(0,10),(1,2),(0,10),(1,2),(0,10),(1,2),(0,10),(1,2),(0,10),(1,2),(0,6),(1,1),(0,16),(2,1)])).1
def Ey(D:Nat):bJ:=(⟨_,by conv=>lhs;cbv⟩:bS (cE 4 [.tmp 2] [] [] 0xa0800e200d81a20 [] [.jG] [.vV (.func D) [] [.t 1]])).1
end
structure Sh where
 az:List Int
 time:List Int
 dm:List Int
 bI:List Int
 entry:Bool
 deriving Inhabited,DecidableEq
def Sh.cells(s:Sh):List AV:=s.az.map I++(s.time.map I++(s.dm.map I++(s.bI.map I++[B s.entry])))
section
variable (s:Sh) (p:Nat)
structure Sh.Ok (s:Sh):Prop where
 az:s.az.length=8
 time:s.time.length=8
 dm:s.dm.length=8
 bI:s.bI.length=8
def Sh.c:Int:=s.az.getD p 0
def Sh.t:Int:=s.time.getD p 0
def Sh.f:Int:=s.dm.getD p 0
def Sh.ft:Int:=s.bI.getD p 0
end
section
variable (C:aT) {p:Nat} {s:Sh} {t:Tb} (f:Nat)
theorem Sh.len(h:s.Ok):s.cells.length=33:=by simp[Sh.cells,h.az,h.time,h.dm,h.bI]
theorem Sh.at(h:s.Ok) (D:p<8):s.cells[p]? =some (I (s.c p))/\s.cells[8+p]? =some (I (s.t p))/\s.cells[16+p]? =some (I (s.f p))/\s.cells[24+p]? =some (I (s.ft p)):=by
 have L:=h.az;have M:=h.time;have O:=h.dm;have h4:=h.bI
 refine⟨?_,?_,?_,?_⟩
 ·simp[Sh.cells,Sh.c,L,D,xf]
 ·simp[Sh.cells,Sh.t,L,M,xf,D,show ¬(8+p<8)by omega]
 ·simp[Sh.cells,Sh.f,L,M,O,xf,D,show ¬(16+p<8)by omega,show ¬(16+p-8<8)by omega,show 16+p-8-8=p by omega]
 ·simp[Sh.cells,Sh.ft,L,M,O,h4,xf,D,show ¬(24+p<8)by omega,show ¬(24+p-8<8)by omega,show ¬(24+p-8-8<8)by omega,show 24+p-8-8-8=p by omega]
theorem Sh.whole(h:s.Ok):aB s.cells 0 (some 33)=some (.agg s.cells):=by
 have:=Sh.len h
 simp[aB,this];rw[<-this,io]
structure Ap (t:Tb) (a b:Sh):Prop where
 t:t.Ln
 a:a.Ok
 b:b.Ok
theorem Tb.Ln.mT(h:t.Ln) {k:Nat} (hk:k<8):t.phases[k]? =some (aK t k):=by
 have:k<t.phases.length:=by rw[h.phases];exact hk
 simp[aK,this]
def eA(t:Tb) (p:Nat):Int:=t.conflict.getD p 0
theorem Tb.Ln.Dt(h:t.Ln) (D:p<8):t.cells[105+p]? =some (I (eA t p)):=by
 refine h.qQ ?_
 have:p<t.conflict.length:=by rw[h.conflict];exact D
 simp[eA,this]
def bt(n:Int):Int:=IntKind.i64.wrap (gM n 0 9999+1)
def uz.Spec:Prop:=∀s:Int,∃g,C.c f [I s] (.fn (.func g) [] [.ref [I s]]) none/\C.i (.fn (.func g) [] [.ref [I s]]) (((List.range 8).filter λp=>tb s p).map λ(p:Nat)=>[I p])
def iY.Spec:Prop:=∀s:Int,C.i (.fn (.func f) [] [.ref [I s]]) (((List.range 8).filter λp=>tb s p).map λ(p:Nat)=>[I p])
end
section
variable{P:Program} (hm:P.follows .mixedOrders=true) {f:Nat}
include hm
theorem setEach.ok{D:Nat} (L:bK P f=some (Ey D)) (M:iY.Spec (Pure P) D):uz.Spec (Pure P) f:=by
 intro s;refine⟨D,?_,M s⟩;refine aq hm L [] rfl ?_;try simp only[I,RX,↓KW,Nat.reduceBEq,Nat.reduceAdd,Ey,Z.H]
 simp
end
end Go.Eng
