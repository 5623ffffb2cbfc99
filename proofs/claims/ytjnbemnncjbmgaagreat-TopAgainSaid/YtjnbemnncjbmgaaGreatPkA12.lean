/- Part 12 of the engine and its library. -/
import Derived.Test.YtjnbemnncjbmgaaGreatPkA11
set_option linter.all false
set_option maxRecDepth 10000
set_option maxHeartbeats 4000000
namespace Go.Eng
open Go
section
variable (t:Tb) (l:Option (List Int)) (c:List Int)
def pY:Tb:=⟨List.replicate 8 default,none,List.replicate 8 0,none,none,none,0,0,0,0,0,List.replicate 8 0,0,0⟩
theorem Yb:iR=pY.cells:=rfl
def QE(l:Option (List Int)):Nat->List Ph
 |0=>List.replicate 8 default
 |k+1=>(QE l k).set k (oV l (10+12*k))
def Gq:Nat->List Int
 |0=>List.replicate 8 0
 |k+1=>(Gq k).set k 1
theorem eU(l:Option (List Int)):∀k,(QE l k).length=8
 |0=>by simp[QE]
 |k+1=>by simp[QE,eU l k]
theorem oo:∀k,(Gq k).length=8
 |0=>by simp[Gq]
 |k+1=>by simp[Gq,oo k]
def G4(i:Nat):Int:=c.getD i 0
def su(p q:Nat):Bool:=!gq t p q&&dN l (110+8*p+q) 9 !=1
def iT(p q:Nat) (c:List Int):List Int:=
 if su t l p q then
  let D:=c.set p (ig (G4 c p) q)
  D.set q (ig (G4 D q) p)
 else c
def kz(t:Tb) (l:Option (List Int)) (p:Nat):Nat->List Int->List Int
 |0,c=>c
 |q+1,c=>iT t l p q (kz t l p q c)
def iA(t:Tb) (l:Option (List Int)):Nat->List Int
 |0=>List.replicate 8 0
 |p+1=>kz t l p p (iA t l p)
theorem IG{t:Tb} {l:Option (List Int)} {p q:Nat} {c:List Int}:(iT t l p q c).length=c.length:=by
 unfold iT;split<;>simp
theorem u9{t:Tb} {l:Option (List Int)} {p:Nat} {c:List Int}:∀q,(kz t l p q c).length=c.length
 |0=>rfl
 |q+1=>by rw[kz,IG,u9 q]
theorem eA{t:Tb} {l:Option (List Int)}:∀p,(iA t l p).length=8
 |0=>by simp[iA]
 |p+1=>by rw[iA,u9,eA p]
def kS(n d:Int) (j:Nat):List zh:=(List.range j).map λ(k:Nat)=>iS l (180+8*(d-k)) n
def gC(n r:Int) (j:Nat):List Rl:=(List.range j).map λ(k:Nat)=>u5 t l (260+16*(r-k)) n
def OD(n i:Int):Bs:=
 let x:=dL .i64 (dN l (330+2*i) 256) (eo (eo (1*2^min (IntKind.u64.wrap n).toNat 64)-1))
 ⟨if x>1 then x else 1,eo (1+dN l (331+2*i) 30)⟩
def oY(n b:Int) (j:Nat):List Bs:=(List.range j).map λ(k:Nat)=>OD l n (b-k)
def tq(t:Tb):Nat->Int
 |0=>0
 |k+1=>if qI t k>tq t k then qI t k else tq t k
def ff:List Gr×Nat:=dr l (gX l) (gX l)
def bk:Tb :=
  let n:=(ff l).2
  let t1:Tb:={ pY with groups:=some (ff l).1 }
  let q:=dN l 174 (n + 1)
  { phases:=QE l n
    groups:=some (ff l).1
    conflict:=iA t1 l n
    aR:=d9 (kS l n (dN l 175 9) (dN l 175 9).toNat)
    bQ:=d9 (gC t1 l n ((dN l 176 4).tmod 3) ((dN l 176 4).tmod 3).toNat)
    kR:=d9 (oY l n (dN l 177 3) (dN l 177 3).toNat)
    extend:=dN l 178 12
    iz:=dN l 179 40
    start:=dN l 180 8
    revert:=dN l 181 8
    least:=dN l 182 12
    dz:=if q < n then (Gq n).set q.toNat 2 else Gq n
    pR:=0
    share:=dN l 183 4 }
def eJ:Tb:=
 {bk l with pR:=if(gC {pY with groups:=some (ff l).1} l (ff l).2 ((dN l 176 4).tmod 3) ((dN l 176 4).tmod 3).toNat)=[]then 0 else tq (bk l) (ff l).2}
def Table.Spec(C:aQ) (f:Nat):Prop:=∀l:Option (List Int),C.c f [aJ aH l] (.agg (eJ l).cells) none
def jL(k:Nat):Tb:={pY with groups:=some (ff l).1,phases:=QE l k,dz:=Gq k}
def iU:Tb:={jL l (ff l).2 with conflict:=c}
def vc:Tb:={iU l (iA {pY with groups:=some (ff l).1} l (ff l).2)with dz:=(bk l).dz}
def CE(d:List zh):Tb:={vc l with aR:=d9 d}
def Bb(r:List Rl):Tb:={vc l with aR:=(bk l).aR,bQ:=d9 r}
def CF(b:List Bs):Tb:={vc l with aR:=(bk l).aR,bQ:=(bk l).bQ,kR:=d9 b}
def En(w:Int):Tb:={bk l with pR:=w}
theorem TC(p m:Nat):(eM p m).length=m:=by simp[eM]
theorem zA(l:Option (List Int)) (G:Nat):∀g,∀x∈(dr l G g).1,(x.a.getD []).length<=8/\(x.b.getD []).length<=8
 |0,x,D=>by simp[dr]at D
 |g+1,x,D=>by
  simp only[dr,lh,rf]at D
  rcases D with D|rfl
  ·exact zA l G g x D
  ·simp only[ez,TC,br,cV]
   omega
theorem G5:(ff l).2<=8:=Ba _ _ _
theorem B5(l:Option (List Int)) (G:Nat):∀g,1<=g->g<=G->G<=3->1<=(dr l G g).2
 |0,h,_,_=>by omega
 |1,_,L,D=>by
  simp only[dr,br,cV,cnt]
  split<;>split<;>simp_all<;>omega
 |g+2,_,L,D=>by
  have:=B5 l G (g+1) aaN aaN D
  rw[dr];simp only;omega
theorem yf:1<=gX l/\gX l<=3:=by
 have:=bt l 0 (n:=3) aaO aaO
 unfold gX;omega
theorem Eo:1<=(ff l).2:=B5 l _ _ (yf l).1 (ik _) (yf l).2
theorem Ep{l:Option (List Int)} {t:Tb} (L:t.groups=some (ff l).1) (R:t.phases.length=8) (O:t.conflict.length=8) (Z:t.dz.length=8) (h4:(t.aR.getD []).length<=1048576) (V:(t.bQ.getD []).length<=1048576) (M:(t.kR.getD []).length<=1048576):t.Ok:=by
 refine⟨R,O,Z,?_,?_,h4,V,M⟩
 ·rw[L];simp only[wi,ff,ye];have:=yf l;omega
 ·rw[L];simp only[wi]
  intro g D
  have:=zA _ _ _ g D
  omega
theorem M6(n d:Int) (j:Nat):kS l n d (j+1)=kS l n d j++[iS l (180+8*(d-j)) n]:=by simp[kS,lL]
theorem Bc(n d:Int) (j:Nat):(kS l n d j).length=j:=by simp[kS]
theorem KH(n d:Int) (j:Nat):gC t l n d (j+1)=gC t l n d j++[u5 t l (260+16*(d-j)) n]:=by simp[gC,lL]
theorem Er(n d:Int) (j:Nat):(gC t l n d j).length=j:=by simp[gC]
theorem M7(n d:Int) (j:Nat):oY l n d (j+1)=oY l n d j++[OD l n (d-j)]:=by simp[oY,lL]
theorem Bd(n d:Int) (j:Nat):(oY l n d j).length=j:=by simp[oY]
theorem zh.len(d:zh):d.cells.length=7:=rfl
theorem Bs.len(d:Bs):d.cells.length=2:=rfl
theorem eE:(bk l).dz.length=8:=by
 unfold bk;simp only;split<;>simp[oo]
theorem oZ:((bk l).aR.getD []).length<=1048576:=by
 have:=bt l 175 (n:=9) aaO aaO
 simp only[bk,ez,Bc];omega
theorem sA:((bk l).bQ.getD []).length<=1048576:=by
 have h:=Ix (dN l 176 4) (b:=3) aaO
 simp only[bk,ez,Er];omega
theorem II:((bk l).kR.getD []).length<=1048576:=by
 have:=bt l 177 (n:=3) aaO aaO
 simp only[bk,ez,Bd];omega
theorem Es:(eJ l).Ok:=Ep rfl (eU l _) (eA _) (eE l) (oZ l) (sA l) (II l)
end
section
variable{P:Program} (hm:P.follows .mixedOrders=true) {f:Nat}
include hm
theorem Table.ok{fR fP fB fF fW fD eD fr eR eB fw:Nat} (hc:bF P f=some (oe fR fP fB fF fW fD eD fr eR eB fw)) (hR:rows.Spec (Pure P) fR) (hP:phase.Spec (Pure P) fP) (hB:beside.Spec (Pure P) fB) (hF:from.Spec (Pure P) fF) (hW:sj.Spec (Pure P) fW)
  (hD:uZ.Spec (Pure P) fD) (hr:Tv.Spec (Pure P) fr) (hw:wait.Spec (Pure P) fw):Table.Spec (Pure P) f:=by
 intro l;refine aq hm hc [0,3,8,9,12,15,18] rfl ?_;try simp only[RY,↓KW,seval,oe,Z.H,Yb]
 have b1:pY.Ok:=⟨rfl,rfl,rfl,by simp[pY],by simp[pY],by simp[pY],by simp[pY],by simp[pY]⟩
 refine⟨rfl,aZ (hR pY l b1 rfl) ?_⟩
 have hN:=G5 l
 have dt:=Eo l
 try simp only[I,RY,seval]
 change aw _ _ _ (⟨[(5,_),(4,.dat (I ((ff l).2:Nat)) none),(14,_),(13,_),(3,_),(2,_),(0,_)],[(5,⟨(jL l 0).cells,[]⟩),_],_,_⟩:S)
 generalize hNe:(ff l).2=N at*
 refine mR (.exit 0) (λ_:Unit=>(⟨[(4,.dat (I N) none),(3,.ptr 5 0),(0,.dat (aJ aH l) none),(2,.ptr 4 0)],[(5,⟨(jL l N).cells,[]⟩),(4,⟨pY.cells,[]⟩)],[],400⟩:S)) (λ_=>True) (λ_=>rfl) ?_ ?_
 ·refine aK (λk:Nat=>(⟨[(5,.dat (I k) none),(4,.dat (I N) none),(3,.ptr 5 0),(0,.dat (aJ aH l) none),(2,.ptr 4 0)],[(5,⟨(jL l k).cells,[]⟩),(4,⟨pY.cells,[]⟩)],[],400⟩:S)) (λk=>N-k) (λk=>k<=N) ?_ 0 aaN ?_
  ·intro k hk A back
   have O:=aD (k:=k) aaN
   have ce:IntKind.i64.wrap (10+IntKind.i64.wrap (12*(k:Int)))=10+12*k:=by rw[aY (n:=12*(k:Int)) aaN aaN,aY aaN aaN]
   have bs:(jL l k).Ln:=⟨eU l k,rfl,oo k⟩
   have an:({jL l k with phases:=(jL l k).phases.set k (oV l (10+12*k))}:Tb).Ln:=⟨by simp[eU,jL],rfl,oo k⟩
   try simp only[I,RY,↓KW,seval]
   refine az (λh=>?_) (λh=>?_)<;>try simp only[RY,↓KW,seval,h]
   ·have be:k<N:=by have:=dT h;omega
    have a4:k<8:=aaN
    have aa:=bs.QB a4 (oV l (10+12*k))
    have al:=an.G3 a4 1
    have b7:({({jL l k with phases:=(jL l k).phases.set k (oV l (10+12*k))}:Tb)with dz:=({jL l k with phases:=(jL l k).phases.set k (oV l (10+12*k))}:Tb).dz.set k 1}:Tb)=jL l (k+1):=rfl
    rw[b7]at al
    have df:=bs.len
    have dl:=an.len
    generalize({jL l k with phases:=(jL l k).phases.set k (oV l (10+12*k))}:Tb)=T at*
    refine af (hP _ _) ?_;try simp only[RY,↓KW,seval,ce,aa]
    exact⟨aaN,Ph.len _,aaN,aaN,aaN,by refine back (k+1) _ aaN aaN (ai aaO ?_ ?_ ?_ ?_)<;>simp[LX,I,al,O]⟩
   ·have:k=N:=by have:=dE h;omega
    subst this;refine d8 () trivial ?_
    refine ai aaO ?_ ?_ ?_ ?_<;>simp[LX]
  ·refine ai aaO ?_ ?_ ?_ ?_<;>simp[LX,I]
 ·intro _ _
  try simp only[I,RY,↓KW,seval]
  generalize am:({pY with groups:=some (ff l).1}:Tb)=t1 at*
  have hA:jL l N=iU l (iA t1 l 0):=by subst hNe;rfl
  refine mR (.exit 2) (λ_:Unit=>(⟨[(4,.dat (I N) none),(3,.ptr 5 0),(0,.dat (aJ aH l) none),(2,.ptr 4 0)],[(5,⟨(iU l (iA t1 l N)).cells,[]⟩),(4,⟨pY.cells,[]⟩)],[],400⟩:S)) (λ_=>True) (λ_=>rfl) ?_ ?_
  ·refine aK (λp:Nat=>(⟨[(6,.dat (I p) none),(4,.dat (I N) none),(3,.ptr 5 0),(0,.dat (aJ aH l) none),(2,.ptr 4 0)],[(5,⟨(iU l (iA t1 l p)).cells,[]⟩),(4,⟨pY.cells,[]⟩)],[],400⟩:S)) (λp=>N-p) (λp=>p<=N) ?_ 0 aaN ?_
   ·intro p hp A back
    have O:=aD (k:=p) aaN
    try simp only[I,RY,↓KW,seval]
    refine az (λh=>?_) (λh=>?_)<;>try simp only[RY,↓KW,seval,h]
    ·have di:p<N:=by have:=dT h;omega
     have a4:p<8:=aaN
     have c8:iA t1 l (p+1)=kz t1 l p p (iA t1 l p):=rfl
     have b3:=eA (t:=t1) (l:=l) p
     generalize iA t1 l p=c0 at*
     refine aK (λq:Nat=>(⟨[(7,.dat (I q) none),(6,.dat (I p) none),(4,.dat (I N) none),(3,.ptr 5 0),(0,.dat (aJ aH l) none),(2,.ptr 4 0)],[(5,⟨(iU l (kz t1 l p q c0)).cells,[]⟩),(4,⟨pY.cells,[]⟩)],[],400⟩:S)) (λq=>p-q) (λq=>q<=p) ?_ 0 aaN ?_
     ·intro q hq A2 ag
      have a8:=aD (k:=q) aaN
      have a9:kz t1 l p (q+1) c0=iT t1 l p q (kz t1 l p q c0):=rfl
      have b0:(kz t1 l p q c0).length=8:=by rw[u9,b3]
      generalize cy:kz t1 l p q c0=c at*
      have okB:(iU l c).Ok:=Ep rfl (eU l _) b0 (oo _) (by simp[iU,jL,pY]) (by simp[iU,jL,pY]) (by simp[iU,jL,pY])
      have ab:=okB.ln.whole
      have ao:=okB.ln.len
      have b6:gq (iU l c) p q=gq t1 p q:=by subst am;rfl
      have ae:IntKind.i64.wrap (IntKind.i64.wrap (110+IntKind.i64.wrap (8*(p:Int)))+q)=110+8*p+q:=by
       rw[aY (n:=8*(p:Int)) aaN aaN,aY (n:=110+8*(p:Int)) aaN aaN,aY aaN aaN]
      try simp only[I,RY,↓KW,seval]
      refine az (λh2=>?_) (λh2=>?_)<;>try simp only[RY,↓KW,seval,ab,h2]
      ·have db:q<p:=by have:=dT h2;omega
       refine af (hB _ _ _ okB) ?_;try simp only[B,RY,↓KW,seval,b6]
       repeat' (first|(refine af (hF _ _ _ aaO) ?_;try simp only[I,RY,↓KW,seval])|(((first|refine bg ?_ ?_|refine az ?_ ?_|refine bz ?_ ?_)<;>intro h)<;>try simp only[RY,↓KW,seval,ae,h]))
       ·have hb:gq t1 p q=false:=by simp_all
        have a2:su t1 l p q=true:=by simp only[su,hb];simpa using h
        have ar:iT t1 l p q c=(c.set p (ig (G4 c p) q)).set q (ig (G4 (c.set p (ig (G4 c p) q)) q) p):=by simp only[iT,a2,kv]
        have g1:c[p]? =some (G4 c p):=by simp[G4,show p<c.length by omega]
        have g2:(c.set p (ig (G4 c p) q))[q]? =some (G4 (c.set p (ig (G4 c p) q)) q):=by simp[G4,show q<c.length by omega]
        have an:(iU l (c.set p (ig (G4 c p) q))).Ln:=⟨eU l _,by simp[iU,b0],oo _⟩
        have l1:=okB.ln.oW (t:=iU l c) g1
        have l2:=an.oW g2
        have aa:setCells (iU l c).cells (105+p) [I (ig (G4 c p) q)]=(iU l (c.set p (ig (G4 c p) q))).cells:=okB.ln.zy a4 _
        have al:setCells (iU l (c.set p (ig (G4 c p) q))).cells (105+q) [I (ig (G4 (c.set p (ig (G4 c p) q)) q) p)]=(iU l (iT t1 l p q c)).cells:=by rw[ar];exact an.zy aaN _
        have da:=an.len
        rw[<-a9]at al;simp only[I]at aa al;generalize G4 (c.set p (ig (G4 c p) q)) q=v2 at*;generalize G4 c p=v1 at*;generalize c.set p (ig v1 q)=c2 at*
        refine⟨aaN,?_⟩
        try simp only[I,RY,↓KW,seval,l1]
        refine af (hW _ _) ?_;try simp only[I,RY,↓KW,seval,aa]
        refine⟨aaN,aaN,aaN,?_⟩
        try simp only[I,RY,↓KW,seval,l2]
        refine af (hW _ _) ?_;try simp only[I,RY,↓KW,seval,aa,al]
        exact⟨aaN,aaN,by refine ag (q+1) _ aaN aaN (ai aaO ?_ ?_ ?_ ?_)<;>simp[LX,I,a8]⟩
       ·have ar:iT t1 l p q c=c:=by
         have a2:su t1 l p q=false:=by simp only[su];simp_all
         simp[iT,a2]
        refine ag (q+1) _ aaN aaN (ai aaO ?_ ?_ ?_ ?_)<;>simp[LX,I,a9,ar,a8]
       ·have ar:iT t1 l p q c=c:=by
         have a2:su t1 l p q=false:=by simp only[su];simp_all
         simp[iT,a2]
        refine ag (q+1) _ aaN aaN (ai aaO ?_ ?_ ?_ ?_)<;>simp[LX,I,a9,ar,a8]
      ·have:q=p:=by have:=dE h2;omega
       subst this
       refine back (q+1) _ aaN aaN (ai aaO ?_ ?_ ?_ ?_)<;>simp[LX,I,c8,cy,O]
     ·refine ai aaO ?_ ?_ ?_ ?_<;>simp[LX,I,kz]
    ·have:p=N:=by have:=dE h;omega
     subst this;refine d8 () trivial ?_
     refine ai aaO ?_ ?_ ?_ ?_<;>simp[LX]
   ·refine ai aaO ?_ ?_ ?_ ?_<;>simp[LX,I,hA]
  ·intro _ _
   have cb:IntKind.i64.wrap ((N:Int)+1)=N+1:=aD aaN
   have hq:=bt l 174 (n:=(N:Int)+1) aaN aaN
   have okB:(iU l (iA t1 l N)).Ok:=Ep rfl (eU l _) (eA _) (oo _) (by simp[iU,jL,pY]) (by simp[iU,jL,pY]) (by simp[iU,jL,pY])
   have ao:=okB.ln.len
   have ak:(bk l).dz=if dN l 174 (N+1)<N then(Gq N).set (dN l 174 (N+1)).toNat 2 else Gq N:=by subst hNe;rfl
   have hC:vc l={iU l (iA t1 l N)with dz:=(bk l).dz}:=by subst hNe;subst am;rfl
   have bi:(iU l (iA t1 l N)).dz=Gq N:=by subst hNe;rfl
   rw[S0]
   refine mR .normal (λ_:Unit=>(⟨[(4,.dat (I N) none),(3,.ptr 5 0),(0,.dat (aJ aH l) none),(2,.ptr 4 0)],[(5,⟨(vc l).cells,[]⟩),(4,⟨pY.cells,[]⟩)],[],400⟩:S)) (λ_=>True) (λ_=>rfl) ?_ ?_
   ·try simp only[I,RY,↓KW,seval]
    refine af (hF _ _ _ aaN) ?_
    rw[cb];generalize dN l 174 (N+1)=q at*;try simp only[I,RY,↓KW,seval]
    refine az (λh=>?_) (λh=>?_)<;>try simp only[RY,↓KW,seval,h]
    ·have ba:q<N:=dT h
     rw[ib ba]at ak
     have aa:=okB.ln.G3 (i:=q.toNat) aaN 2
     have e:({iU l (iA t1 l N)with dz:=(iU l (iA t1 l N)).dz.set q.toNat 2}:Tb)=vc l:=by rw[hC,bi,ak]
     rw[e]at aa;simp only[I]at aa
     refine⟨aaN,aaN,?_⟩
     refine d8 () trivial ?_
     refine ai aaO ?_ ?_ ?_ ?_<;>simp[LX,aa]
    ·have ba:¬q<N:=dE h
     rw[ge ba]at ak
     have e:iU l (iA t1 l N)=vc l:=by rw[hC,ak,<-bi]
     refine d8 () trivial ?_
     refine ai aaO ?_ ?_ ?_ ?_<;>simp[LX,e]
   ·intro _ _
    have hd:=bt l 175 (n:=9) aaO aaO
    have cv:vc l=CE l []:=rfl
    have cp:CE l (kS l N (dN l 175 9) (dN l 175 9).toNat)=Bb l []:=by subst hNe;rfl
    try simp only[I,RY,↓KW,seval]
    refine af (hF _ _ _ aaO) ?_
    generalize dN l 175 9=d at*;try simp only[I,RY,↓KW,seval]
    refine mR (.exit 6) (λ_:Unit=>(⟨[(4,.dat (I N) none),(3,.ptr 5 0),(0,.dat (aJ aH l) none),(2,.ptr 4 0)],[(5,⟨(CE l (kS l N d d.toNat)).cells,[]⟩),(4,⟨pY.cells,[]⟩)],[],400⟩:S)) (λ_=>True) (λ_=>rfl) ?_ ?_
    ·refine aK (λj:Nat=>(⟨[(9,.dat (I (d-j)) none),(4,.dat (I N) none),(3,.ptr 5 0),(0,.dat (aJ aH l) none),(2,.ptr 4 0)],[(5,⟨(CE l (kS l N d j)).cells,if kS l N d j=[]then[]else[(113,0)]⟩),(4,⟨pY.cells,[]⟩)],bP (kS l N d j) 0 eD,400⟩:S)) (λj=>d.toNat-j) (λj=>j<=d.toNat) ?_ 0 aaN ?_
     ·intro j hj A back
      have O:IntKind.i64.wrap (d-j-1)=d-((j+1:Nat):Int):=by rw[aY aaN aaN];omega
      have ae:IntKind.i64.wrap (180+IntKind.i64.wrap (8*(d-(j:Int))))=180+8*(d-j):=by rw[aY (n:=8*(d-(j:Int))) aaN aaN,aY aaN aaN]
      have hnext:=M6 l N d j
      have ac:(kS l N d j).length=j:=Bc ..
      generalize hL:kS l N d j=L at*;generalize hx:iS l (180+8*(d-j)) N=x at*
      have AT:(CE l L).Ok:=Ep rfl (eU l _) (eA _) (eE l) (by simp[CE,vc,iU,jL,pY,ez];try omega) (by simp[CE,vc,iU,jL,pY];try omega) (by simp[CE,vc,iU,jL,pY];try omega)
      have ln:=AT.ln
      have ao:=ln.len
      have ab:=ln.whole
      have M:=ln.Tw
      have D:setCells (CE l L).cells 113 [aJ zh.cells (some (L++[x]))]=(CE l (L++[x])).cells:=by rw[ln.Tz (some (L++[x]))];simp[CE,d9]
      have ad:(CE l L).aR=d9 L:=rfl
      rw[ad]at M;simp only[bu,yn,ka,mi]at D
      cases L with
      |nil=>
       simp only[mi,ml,d9,kv,dF]at D M hnext;try simp only[I,RY,↓KW,seval,bP]
       refine az (λh=>?_) (λh=>?_)<;>try simp only[RY,↓KW,seval,M,h]
       ·have V:(0:Int)<d-j:=dT h
        refine af (hD _ _ _ aaN) ?_
        try simp only[RY,↓KW,seval,ae,hx,zh.len]
        try simp only[seval,D]
        refine⟨aaN,?_⟩
        refine back (j+1) _ aaN aaN (ai aaO ?_ ?_ ?_ ?_)<;>simp[LX,I,hnext,O]
       ·have V:¬(0:Int)<d-j:=dE h
        have:j=d.toNat:=aaN
        rw[<-this,hL];refine d8 () trivial ?_
        refine ai aaO ?_ ?_ ?_ ?_<;>simp[LX]
      |cons y ys=>
       simp only[d9,reduceCtorEq,il,bu]at D M hnext;try simp only[I,RY,↓KW,seval,bP]
       refine az (λh=>?_) (λh=>?_)<;>try simp only[RY,↓KW,seval,M,h]
       ·have V:(0:Int)<d-j:=dT h
        refine af (hD _ _ _ aaN) ?_
        try simp only[RY,↓KW,seval,ae,hx,zh.len]
        try simp only[RY,seval,D]
        refine⟨by simp at ac⊢;omega,aaN,?_⟩
        refine back (j+1) _ aaN aaN (ai aaO ?_ ?_ ?_ ?_)<;>simp[LX,I,hnext,O]
       ·have V:¬(0:Int)<d-j:=dE h
        have:j=d.toNat:=aaN
        rw[<-this,hL];refine d8 () trivial ?_
        refine ai aaO ?_ ?_ ?_ ?_<;>simp[LX]
     ·refine ai aaO ?_ ?_ ?_ ?_<;>simp[LX,I,cv,kS]
    ·intro _ _
     have cx:=bt l 176 (n:=4) aaO aaO
     have dj:=Ix (dN l 176 4) (b:=3) aaO
     have dp:=Int.tmod_nonneg 3 cx.1
     have ca:Bb l (gC t1 l N ((dN l 176 4).tmod 3) ((dN l 176 4).tmod 3).toNat)=CF l []:=by subst hNe;subst am;rfl
     have cu:(bk l).bQ=d9 (gC t1 l N ((dN l 176 4).tmod 3) ((dN l 176 4).tmod 3).toNat):=by subst hNe;subst am;rfl
     have b5:eJ l=En l (if gC t1 l N ((dN l 176 4).tmod 3) ((dN l 176 4).tmod 3).toNat=[]then 0 else tq (bk l) N):=by subst hNe;subst am;rfl
     try simp only[I,RY,↓KW,seval]
     refine af (hF _ _ _ aaO) ?_
     try simp only[I,RY,↓KW,seval]
     generalize(dN l 176 4).tmod 3=r at*
     refine mR (.exit 8) (λ_:Unit=>(⟨[(4,.dat (I N) none),(3,.ptr 5 0),(0,.dat (aJ aH l) none),(2,.ptr 4 0)],[(5,⟨(Bb l (gC t1 l N r r.toNat)).cells,[]⟩),(4,⟨pY.cells,[]⟩)],[],400⟩:S)) (λ_=>True) (λ_=>rfl) ?_ ?_
     ·refine aK (λj:Nat=>(⟨[(10,.dat (I (r-j)) none),(4,.dat (I N) none),(3,.ptr 5 0),(0,.dat (aJ aH l) none),(2,.ptr 4 0)],[(5,⟨(Bb l (gC t1 l N r j)).cells,if gC t1 l N r j=[]then[]else[(114,0)]⟩),(4,⟨pY.cells,[]⟩)],bP (gC t1 l N r j) 0 eR,400⟩:S)) (λj=>r.toNat-j) (λj=>j<=r.toNat) ?_ 0 aaN ?_
      ·intro j hj A back
       have O:IntKind.i64.wrap (r-j-1)=r-((j+1:Nat):Int):=by rw[aY aaN aaN];omega
       have ae:IntKind.i64.wrap (260+IntKind.i64.wrap (16*(r-(j:Int))))=260+16*(r-j):=by rw[aY (n:=16*(r-(j:Int))) aaN aaN,aY aaN aaN]
       have bo:∀L',u5 (Bb l L') l (260+16*(r-j)) N=u5 t1 l (260+16*(r-j)) N:=λ_=>by subst am;rfl
       have hnext:=KH t1 l N r j
       have ac:(gC t1 l N r j).length=j:=Er ..
       generalize hL:gC t1 l N r j=L at*;generalize hx:u5 t1 l (260+16*(r-j)) N=x at*
       have AT:(Bb l L).Ok:=Ep rfl (eU l _) (eA _) (eE l) (by simp[Bb,vc,iU,jL,pY,oZ];try omega) (by simp[Bb,vc,iU,jL,pY,ez];try omega) (by simp[Bb,vc,iU,jL,pY];try omega)
       have ln:=AT.ln
       have ao:=ln.len
       have ab:=ln.whole
       have M:=ln.Tx
       have D:setCells (Bb l L).cells 114 [aJ Rl.cells (some (L++[x]))]=(Bb l (L++[x])).cells:=by rw[ln.QC (some (L++[x]))];simp[Bb,d9]
       have ad:(Bb l L).bQ=d9 L:=rfl
       rw[ad]at M;simp only[bu,yn,ka,mi]at D
       cases L with
       |nil=>
        simp only[mi,ml,d9,kv,dF]at D M hnext;try simp only[I,RY,↓KW,seval,bP]
        refine az (λh=>?_) (λh=>?_)<;>try simp only[RY,↓KW,seval,M,ab,h]
        ·have V:(0:Int)<r-j:=dT h
         refine af (hr _ _ _ _ AT aaN aaN) ?_
         try simp only[RY,↓KW,seval,ae,bo,Rl.len]
         try simp only[seval,D]
         refine⟨aaN,?_⟩
         refine back (j+1) _ aaN aaN (ai aaO ?_ ?_ ?_ ?_)<;>simp[LX,I,hnext,O]
        ·have V:¬(0:Int)<r-j:=dE h
         have:j=r.toNat:=aaN
         rw[<-this,hL];refine d8 () trivial ?_
         refine ai aaO ?_ ?_ ?_ ?_<;>simp[LX]
       |cons y ys=>
        simp only[d9,reduceCtorEq,il,bu]at D M hnext;try simp only[I,RY,↓KW,seval,bP]
        refine az (λh=>?_) (λh=>?_)<;>try simp only[RY,↓KW,seval,M,ab,h]
        ·have V:(0:Int)<r-j:=dT h
         refine af (hr _ _ _ _ AT aaN aaN) ?_
         try simp only[RY,↓KW,seval,ae,bo,Rl.len]
         try simp only[RY,seval,D]
         refine⟨by simp at ac⊢;omega,aaN,?_⟩
         refine back (j+1) _ aaN aaN (ai aaO ?_ ?_ ?_ ?_)<;>simp[LX,I,hnext,O]
        ·have V:¬(0:Int)<r-j:=dE h
         have:j=r.toNat:=aaN
         rw[<-this,hL];refine d8 () trivial ?_
         refine ai aaO ?_ ?_ ?_ ?_<;>simp[LX]
      ·refine ai aaO ?_ ?_ ?_ ?_<;>simp[LX,I,cp,gC]
     ·intro _ _
      have dk:=bt l 177 (n:=3) aaO aaO
      have ci:CF l (oY l N (dN l 177 3) (dN l 177 3).toNat)={bk l with extend:=0,iz:=0,start:=0,revert:=0,least:=0,share:=0}:=by subst hNe;rfl
      have hu:0<=IntKind.u64.wrap (N:Int):=by rw[IntKind.wrap];simp[IntKind.signed];omega
      try simp only[I,RY,↓KW,seval]
      refine af (hF _ _ _ aaO) ?_
      generalize dN l 177 3=b at*;try simp only[I,RY,↓KW,seval]
      refine mR (.exit 10) (λ_:Unit=>(⟨[(4,.dat (I N) none),(3,.ptr 5 0),(0,.dat (aJ aH l) none),(2,.ptr 4 0)],[(5,⟨(CF l (oY l N b b.toNat)).cells,[]⟩),(4,⟨pY.cells,[]⟩)],[],400⟩:S)) (λ_=>True) (λ_=>rfl) ?_ ?_
      ·refine aK (λj:Nat=>(⟨[(11,.dat (I (b-j)) none),(4,.dat (I N) none),(3,.ptr 5 0),(0,.dat (aJ aH l) none),(2,.ptr 4 0)],[(5,⟨(CF l (oY l N b j)).cells,if oY l N b j=[]then[]else[(115,0)]⟩),(4,⟨pY.cells,[]⟩)],bP (oY l N b j) 0 eB,400⟩:S)) (λj=>b.toNat-j) (λj=>j<=b.toNat) ?_ 0 aaN ?_
       ·intro j hj A back
        have O:IntKind.i64.wrap (b-j-1)=b-((j+1:Nat):Int):=by rw[aY aaN aaN];omega
        have bm:IntKind.i64.wrap (330+IntKind.i64.wrap (2*(b-(j:Int))))=330+2*(b-j):=by rw[aY (n:=2*(b-(j:Int))) aaN aaN,aY aaN aaN]
        have bj:IntKind.i64.wrap (331+IntKind.i64.wrap (2*(b-(j:Int))))=331+2*(b-j):=by rw[aY (n:=2*(b-(j:Int))) aaN aaN,aY aaN aaN]
        have a5:(OD l N (b-j)).cells=[AV.int .i64 (if dL .i64 (dN l (330+2*(b-j)) 256) (IntKind.i64.wrap (IntKind.i64.wrap (1*2^min (IntKind.u64.wrap (N:Int)).toNat IntKind.i64.bits)-1))>1 then dL .i64 (dN l (330+2*(b-j)) 256) (IntKind.i64.wrap (IntKind.i64.wrap (1*2^min (IntKind.u64.wrap (N:Int)).toNat IntKind.i64.bits)-1))else 1),AV.int .i64 (IntKind.i64.wrap (1+dN l (331+2*(b-j)) 30))]:=rfl
        have hnext:=M7 l N b j
        have ac:(oY l N b j).length=j:=Bd ..
        generalize hL:oY l N b j=L at*;generalize hx:OD l N (b-j)=x at*
        have AT:(CF l L).Ok:=Ep rfl (eU l _) (eA _) (eE l) (by simp[CF,vc,iU,jL,pY,oZ];try omega) (by simp[CF,vc,iU,jL,pY,sA];try omega) (by simp[CF,vc,iU,jL,pY,ez];try omega)
        have ln:=AT.ln
        have ao:=ln.len
        have ab:=ln.whole
        have M:=ln.ahm
        have D:setCells (CF l L).cells 115 [aJ Bs.cells (some (L++[x]))]=(CF l (L++[x])).cells:=by rw[ln.QD (some (L++[x]))];simp[CF,d9]
        have ad:(CF l L).kR=d9 L:=rfl
        rw[ad]at M;simp only[bu,yn,ka,mi]at D
        cases L with
        |nil=>
         simp only[mi,ml,d9,kv,dF]at D M hnext;try simp only[I,RY,↓KW,seval,bP]
         refine az (λh=>?_) (λh=>?_)<;>try simp only[RY,↓KW,seval,M,h]
         ·have V:(0:Int)<b-j:=dT h
          refine af (hF _ _ _ aaO) ?_
          try simp only[I,RY,↓KW,seval,bm]
          refine⟨hu,?_⟩
          refine af (hF _ _ _ aaO) ?_
          try simp only[I,RY,↓KW,seval,bj]
          simp only[gt_iff_lt]at a5⊢;rw[a5]at D;try simp only[seval,D]
          refine⟨aaN,?_⟩
          refine back (j+1) _ aaN aaN (ai aaO ?_ ?_ ?_ ?_)<;>simp[LX,I,hnext,O]
         ·have V:¬(0:Int)<b-j:=dE h
          have:j=b.toNat:=aaN
          rw[<-this,hL];refine d8 () trivial ?_
          refine ai aaO ?_ ?_ ?_ ?_<;>simp[LX]
        |cons y ys=>
         simp only[d9,reduceCtorEq,il,bu]at D M hnext;try simp only[I,RY,↓KW,seval,bP]
         refine az (λh=>?_) (λh=>?_)<;>try simp only[RY,↓KW,seval,M,h]
         ·have V:(0:Int)<b-j:=dT h
          refine af (hF _ _ _ aaO) ?_
          try simp only[I,RY,↓KW,seval,bm]
          refine⟨hu,?_⟩
          refine af (hF _ _ _ aaO) ?_
          try simp only[I,RY,↓KW,seval,bj]
          simp only[gt_iff_lt]at a5⊢;rw[a5]at D;try simp only[RY,seval,D,Bs.len]
          refine⟨by simp at ac⊢;omega,aaN,?_⟩
          refine back (j+1) _ aaN aaN (ai aaO ?_ ?_ ?_ ?_)<;>simp[LX,I,hnext,O]
         ·have V:¬(0:Int)<b-j:=dE h
          have:j=b.toNat:=aaN
          rw[<-this,hL];refine d8 () trivial ?_
          refine ai aaO ?_ ?_ ?_ ?_<;>simp[LX]
       ·refine ai aaO ?_ ?_ ?_ ?_<;>simp[LX,I,ca,oY]
      ·intro _ _
       have n0:({bk l with extend:=0,iz:=0,start:=0,revert:=0,least:=0,share:=0}:Tb).Ln:=⟨eU l _,eA _,eE l⟩
       have n1:({bk l with iz:=0,start:=0,revert:=0,least:=0,share:=0}:Tb).Ln:=⟨eU l _,eA _,eE l⟩
       have n2:({bk l with start:=0,revert:=0,least:=0,share:=0}:Tb).Ln:=⟨eU l _,eA _,eE l⟩
       have n3:({bk l with revert:=0,least:=0,share:=0}:Tb).Ln:=⟨eU l _,eA _,eE l⟩
       have n4:({bk l with least:=0,share:=0}:Tb).Ln:=⟨eU l _,eA _,eE l⟩
       have n5:({bk l with share:=0}:Tb).Ln:=⟨eU l _,eA _,eE l⟩
       have s0:setCells ({bk l with extend:=0,iz:=0,start:=0,revert:=0,least:=0,share:=0}:Tb).cells 116 [AV.int .i64 (dN l 178 12)]=({bk l with iz:=0,start:=0,revert:=0,least:=0,share:=0}:Tb).cells:=(n0.u6 (dN l 178 12)).1
       have s1:setCells ({bk l with iz:=0,start:=0,revert:=0,least:=0,share:=0}:Tb).cells 117 [AV.int .i64 (dN l 179 40)]=({bk l with start:=0,revert:=0,least:=0,share:=0}:Tb).cells:=(n1.u6 (dN l 179 40)).2.1
       have s2:setCells ({bk l with start:=0,revert:=0,least:=0,share:=0}:Tb).cells 118 [AV.int .i64 (dN l 180 8)]=({bk l with revert:=0,least:=0,share:=0}:Tb).cells:=(n2.u6 (dN l 180 8)).2.2.1
       have s3:setCells ({bk l with revert:=0,least:=0,share:=0}:Tb).cells 119 [AV.int .i64 (dN l 181 8)]=({bk l with least:=0,share:=0}:Tb).cells:=(n3.u6 (dN l 181 8)).2.2.2.1
       have s4:setCells ({bk l with least:=0,share:=0}:Tb).cells 120 [AV.int .i64 (dN l 182 12)]=({bk l with share:=0}:Tb).cells:=(n4.u6 (dN l 182 12)).2.2.2.2
       have s5:setCells ({bk l with share:=0}:Tb).cells 130 [AV.int .i64 (dN l 183 4)]=(bk l).cells:=(n5.u7 (dN l 183 4)).2
       have k0:=n0.len
       have k1:=n1.len
       have k2:=n2.len
       have k3:=n3.len
       have k4:=n4.len
       have k5:=n5.len
       rw[ci]
       generalize({bk l with extend:=0,iz:=0,start:=0,revert:=0,least:=0,share:=0}:Tb)=T0 at*
       generalize({bk l with iz:=0,start:=0,revert:=0,least:=0,share:=0}:Tb)=T1 at*
       generalize({bk l with start:=0,revert:=0,least:=0,share:=0}:Tb)=T2 at*
       generalize({bk l with revert:=0,least:=0,share:=0}:Tb)=T3 at*
       generalize({bk l with least:=0,share:=0}:Tb)=T4 at*
       generalize({bk l with share:=0}:Tb)=T5 at*
       have c0:117<=T0.cells.length:=aaN
       have c1:118<=T1.cells.length:=aaN
       have c2:119<=T2.cells.length:=aaN
       have c3:120<=T3.cells.length:=aaN
       have c4:121<=T4.cells.length:=aaN
       have c5:131<=T5.cells.length:=aaN
       try simp only[I,RY,↓KW,seval]
       refine af (hF _ _ _ aaO) ?_
       try simp only[I,RY,↓KW,seval,c0]
       refine af (hF _ _ _ aaO) ?_
       try simp only[I,RY,↓KW,seval,s0,c1]
       refine af (hF _ _ _ aaO) ?_
       try simp only[I,RY,↓KW,seval,s1,c2]
       refine af (hF _ _ _ aaO) ?_
       try simp only[I,RY,↓KW,seval,s2,c3]
       refine af (hF _ _ _ aaO) ?_
       try simp only[I,RY,↓KW,seval,s3,c4]
       refine af (hF _ _ _ aaO) ?_
       try simp only[I,RY,↓KW,seval,s4,s5,c5]
       have hT:eJ l=En l (if gC t1 l N r r.toNat=[]then 0 else tq (bk l) N):=b5
       have bd:bk l=En l (if gC t1 l N r r.toNat=[]then 0 else tq (bk l) 0):=by
        have:(if gC t1 l N r r.toNat=[]then(0:Int)else tq (bk l) 0)=0:=by split<;>rfl
        rw[this];rfl
       replace bd:=rh Tb.cells bd
       generalize gC t1 l N r r.toNat=R at*
       refine mR (.exit 12) (λ_:Unit=>(⟨[(3,.ptr 5 0),(2,.ptr 4 0)],[(5,⟨(eJ l).cells,[]⟩),(4,⟨pY.cells,[]⟩)],[],400⟩:S)) (λ_=>True) (λ_=>rfl) ?_ ?_
       ·refine aK (λk:Nat=>(⟨[(12,.dat (I k) none),(4,.dat (I N) none),(3,.ptr 5 0),(2,.ptr 4 0)],[(5,⟨(En l (if R=[]then 0 else tq (bk l) k)).cells,[]⟩),(4,⟨pY.cells,[]⟩)],[],400⟩:S)) (λk=>N-k) (λk=>k<=N/\(R=[]->k=0)) ?_ 0 aaP ?_
        ·intro k ⟨hk,dq⟩ A back
         have O:=aD (k:=k) aaN
         have c6:∀w,qI (En l w) k=qI (bk l) k:=λ_=>rfl
         have bw:tq (bk l) (k+1)=if qI (bk l) k>tq (bk l) k then qI (bk l) k else tq (bk l) k:=rfl
         generalize au:(if R=[]then(0:Int)else tq (bk l) k)=wv at*
         have b2:(En l wv).Ok:=Ep rfl (eU l _) (eA _) (eE l) (oZ l) (sA l) (by have:=bt l 177 (n:=3) aaO aaO;simp only[En,bk,ez,Bd];omega)
         have ln:=b2.ln
         have ao:=ln.len
         have ab:=ln.whole
         have M:=ln.Tx
         have a6:=ln.ahn
         have c7:(En l wv).bQ=d9 R:=cu
         have co:(En l wv).pR=wv:=rfl
         rw[c7]at M;rw[co]at a6
         have D:setCells (En l wv).cells 129 [AV.int .i64 (if qI (bk l) k>wv then qI (bk l) k else wv)]=(En l (if qI (bk l) k>wv then qI (bk l) k else wv)).cells:=(ln.u7 _).1
         have ct:=ez R
         try simp only[I,RY,↓KW,seval]
         repeat' (((first|refine bg ?_ ?_|refine az ?_ ?_|refine bz ?_ ?_)<;>intro h)<;>try simp only[RY,↓KW,seval,M,ct,h])
         ·have a3:=dT h
          have be:(k:Int)<N:=by rename_i h1;exact dT h1
          have a7:R≠[]:=by intro e;rw[e]at a3;simp at a3
          rw[ge a7]at au;subst au;rw[<-bw]at D;try simp only[I,RY,↓KW,seval,a6,ab]
          refine af (hw _ _ b2) ?_;try simp only[I,RY,↓KW,seval,c6,<-bw,D,gt_iff_lt]
          refine⟨aaN,?_⟩
          refine back (k+1) _ ⟨aaN,λe=>absurd e a7⟩ aaN ?_
          refine ai aaO ?_ ?_ ?_ ?_<;>simp[LX,I,a7,O]
         ·have a3:=dE h
          have b4:R=[]:=rc aaN
          rw[ib b4]at au hT;subst au;refine d8 () trivial ?_
          refine ai aaO ?_ ?_ ?_ ?_<;>simp[LX,hT]
         ·have be:k=N:=by have:=dE h;omega
          rw[<-be,au]at hT;refine d8 () trivial ?_
          refine ai aaO ?_ ?_ ?_ ?_<;>simp[LX,hT]
        ·refine ai aaO ?_ ?_ ?_ ?_<;>simp[LX,I,bd]
       ·intro _ _
        have bl:(eJ l).Ok:=Es l
        have ch:=bl.ln.len
        have cr:=bl.ln.whole
        have b8:=b1.ln.len
        have ck:setCells pY.cells 0 (eJ l).cells=(eJ l).cells:=bp aaN
        try simp only[RY,↓KW,seval,cr,ch,b8,ck]
end
section
variable (x y s:Int) {p:Nat} {α:Type} {f:α->List AV} {l:List α} (i:Nat) (n:Int)
def bv:BitVec 64:=BitVec.ofInt 64 s
def tb:Bool:=(bv s).getLsbD i
theorem KJ:IntKind.i64.wrap n%18446744073709551616=n%18446744073709551616:=by
 simp only[IntKind.wrap,IntKind.bits,IntKind.signed];simp
 split<;>omega
theorem IJ:bv (IntKind.i64.wrap n)=bv n:=by
 unfold bv
 apply BitVec.eq_of_toNat_eq
 have:=KJ n
 simp only[WF]
 have e:((2^64:Nat):Int)=18446744073709551616:=aaO
 rw[e,this]
theorem IK(b:BitVec 64):bv (b.toNat:Int)=b:=by
 unfold bv;rw[BitVec.ofInt_natCast];simp
theorem bv_and:bv (dL .i64 x y)=bv x&&&bv y:=by
 simp only[dL,IJ];exact IK _
theorem aho:bv (AQ .i64 x y)=bv x|||bv y:=by
 simp only[AQ,IJ];exact IK _
theorem QF:bv (dW .i64 x y)=bv x&&& ~~~(bv y):=by
 simp only[dW,IJ];exact IK _
theorem wrap_zero{b:BitVec 64}:IntKind.i64.wrap (b.toNat:Int)=0↔b=0:=by
 constructor
 ·intro h
  have:=KJ (b.toNat:Int)
  rw[h]at this
  apply BitVec.eq_of_toNat_eq
  simp only[BitVec.toNat_zero,BitVec.ofNat_eq_ofNat]at*;omega
 ·rintro rfl;decide
theorem and_zero{x y:Int}:dL .i64 x y=0↔∀i,i<64->(tb x i&&tb y i)=false:=by
 rw[show dL .i64 x y=IntKind.i64.wrap ((bv x&&&bv y).toNat:Int)from rfl,wrap_zero]
 constructor
 ·intro h i D;have:=rh (λb=>b.getLsbD i) h;simpa[tb]using this
 ·intro h;apply aao;intro i D;simpa[tb]using h i D
theorem IL:tb (dL .i64 x y) i=(tb x i&&tb y i):=by simp[tb,bv_and]
theorem Z7:tb (AQ .i64 x y) i=(tb x i||tb y i):=by simp[tb,aho]
theorem QG(h:i<64):tb (dW .i64 x y) i=(tb x i&& !tb y i):=by simp[tb,QF,h]
theorem lU:tb 0 i=false:=by simp[tb,bv]
theorem Et:tb 255 i=decide (i<8):=by
 have:bv 255=255#64:=rfl
 simp only[tb,this,BitVec.getLsbD_ofNat]
 by_cases h:i<8
 ·have:i=0\/i=1\/i=2\/i=3\/i=4\/i=5\/i=6\/i=7:=aaN
  rcases this with rfl|rfl|rfl|rfl|rfl|rfl|rfl|rfl<;>decide
 ·simp only[h,decide_false,Bool.and_eq_false_imp]
  intro _
  apply aaH
  exact re (by decide:255<2^8) (nl aaO aaN)
theorem M8(D:p<8) (i:Nat):tb (2^p) i=decide (i=p):=by
 have e:bv (2^p)=BitVec.twoPow 64 p:=by
  have:p=0\/p=1\/p=2\/p=3\/p=4\/p=5\/p=6\/p=7:=aaN
  rcases this with rfl|rfl|rfl|rfl|rfl|rfl|rfl|rfl<;>rfl
 simp only[tb,e,BitVec.getLsbD_twoPow]
 by_cases h:i=p<;>simp[h]
 ·omega
 ·omega
theorem IM(D:p<8) (i:Nat):tb (qE p) i=decide (i=p):=by
 have:qE p=2^p:=by simp[qE];omega
 rw[this,M8 D]
theorem wq{s:Int} (D:p<8):eK s p=tb s p:=by
 have h:eK s p=!(dL .i64 s (qE p)==0):=rfl
 rw[h]
 cases M:tb s p with
 |true=>
  have:¬dL .i64 s (qE p)=0:=by
   rw[and_zero];intro h;have:=h p aaN;rw[M,IM D]at this;simp at this
  simp[this]
 |false=>
  have:dL .i64 s (qE p)=0:=by
   rw[and_zero];intro i _
   by_cases L:i=p
   ·subst L;rw[M];rfl
   ·rw[IM D];simp[L]
  simp[this]
theorem o5{s:Int} (D:p<8) (i:Nat):tb (dZ s p) i=(tb s i&&decide (i<8)||decide (i=p)):=by
 simp only[dZ,Z7,IL,Et,IM D]
theorem OE(l:List Int):∀k,k<=8->∀i,tb (yc l k) i=(decide (i<k)&&decide ((i:Int)∈l))
 |0,_,i=>by simp[yc,lU]
 |k+1,h,i=>by
  have D:=OE l k aaN i
  simp only[yc];split
  ·rename_i hk
   rw[Z7,D,M8 aaN]
   by_cases e:i=k
   ·subst e;simp[hk]
   ·have:(i<k+1)↔i<k:=aaN
    simp[e,this]
  ·rename_i hk
   rw[D]
   by_cases e:i=k
   ·subst e;simp[hk]
   ·have:(i<k+1)↔i<k:=aaN
    simp[this]
theorem Z8(l:List Int) (i:Nat):tb (ofI l) i=(decide (i<8)&&decide ((i:Int)∈l)):=OE l 8 aaN i
theorem sB(Z:p<64):tb s p=decide (s.fdiv (2^p)%2=1):=by
 have e:(bv s).toNat=(s%18446744073709551616).toNat:=by
  simp only[bv,WF];rfl
 have O:tb s p=(bv s).toNat.testBit p:=rfl
 rw[O,e,Nat.testBit_eq_decide_div_mod_eq]
 congr 1
 have L:s.fdiv (2^p)=s/2^p:=UV _ (Int.le_of_lt (Int.pow_pos aaO))
 rw[L,eq_iff_iff]
 have R:0<=s%18446744073709551616:=Int.emod_nonneg _ aaO
 have V:(((s%18446744073709551616).toNat/2^p%2:Nat):Int)=(s%18446744073709551616)/2^p%2:=by
  push_cast [wc R];rfl
 have key:(s%18446744073709551616)/2^p%2=s/2^p%2:=by
  have D:(18446744073709551616:Int)=2^p*(2*2^(63-p)):=by
   rw[show(2:Int)^p*(2*2^(63-p))=2^(p+(1+(63-p)))by rw[Int.pow_add,Int.pow_add];rfl,show p+(1+(63-p))=64 by omega];rfl
  have M:s=s%18446744073709551616+2^p*(2*2^(63-p)*(s/18446744073709551616)):=by
   have:=Int.emod_add_mul_ediv s 18446744073709551616
   rw[<-Int.mul_assoc,<-Int.mul_assoc,Int.mul_assoc (2^p),<-D];omega
  conv=>rhs;rw[M]
  rw[Int.add_mul_ediv_left _ _ (Int.ne_of_gt (Int.pow_pos aaO)),Int.mul_assoc,Int.add_mul_emod_self_left]
 rw[<-key,<-V];omega
theorem zB:dL .i64 x 1=if tb x 0 then 1 else 0:=by
 have e:dL .i64 x 1=IntKind.i64.wrap ((bv x&&&1#64).toNat:Int):=rfl
 have L:bv x&&&1#64=if tb x 0 then 1#64 else 0#64:=by
  apply aao
  intro i M;simp only[BitVec.getLsbD_and,BitVec.getLsbD_one]
  by_cases h:i=0
  ·subst h;cases D:tb x 0<;>simp[tb]at D⊢<;>simp[D]
  ·split<;>simp[h,BitVec.getLsbD_one]
 rw[e,L];split<;>decide
theorem Yc{s:Int} (L:p<8):uc s p=tb s p:=by
 have D:tb (s.fdiv (2^p)) 0=tb s p:=by
  rw[sB _ aaN,sB _ aaN]
  simp
 simp only[uc,pu,zB,D]
 have:(p:Int)<8:=aaN
 cases tb s p<;>simp[this]
theorem iV{n:Nat} (h:∀k,(f k).length=n):∀x∈l.map f,x.length=n:=by
 intro x D;obtain⟨k,_,rfl⟩:=ne.1 D;exact h k
theorem oq{i:Nat} {x:List AV} (h:(l.map f)[i]? =some x):∃k,l[i]? =some k/\x=f k:=by
 rw[kx,eg]at h;obtain⟨k,D,L⟩:=h;exact⟨k,D,L.symm⟩
theorem iW{C:aQ} {g:aM} {ps wr:List Nat} {as bd:aO} {Q:Exit->S->Prop} {s:S} {L:AV} {xs:List (List AV)} (hd:α->S) (I:Nat->α->Prop) (R:C.i L xs) (hg:aG s g=some L) (D:∀x∈xs,x.length=ps.length) (M:∀y,aG (hd y) g=some L) (round:∀i x y,xs[i]? =some x->I i y->∀F:S->Prop,(∀z s,I (i+1) z->Le s (hd z)->Eng.down F s)->aw C as (Dw (aw C bd (RQ wr F Q))) (sW ps x (hd y))) (fin:∀y,I xs.length y->Q .normal (hd y)) (Z:α) (O:I 0 Z) (h0:Le s (hd Z)):aw C (.um g ps wr as bd) Q s:=
 XT hd I hg R D (.inl h0) O M (λi x y hx hy=>round i x y hx hy _ λz s hz V=>nu V ⟨z,rfl,hz⟩) fin
end
section
open Z
def bC:List AV:=(⟨_,by conv=>lhs;cbv⟩:bT (Oz [(0,7),(1,2),(0,3)])).1
def tr(D:Nat):bE:=(⟨_,by conv=>lhs;cbv⟩:bT (cH 24 [.tmp 6] [D] [0,1] 0xa180fc840c20fca08c3013238e17e45104021c3041420882710e0280be780088b0bc545e282f1317890bc445e202ff0ff46e66e10603811018b860c5f260606204143a4003213407b30 [[.int .i64 0]])).1
def tu(L O D M:Nat):bE:=(⟨_,by conv=>lhs;cbv⟩:bT (cH 34 [.tmp 8] [L,O,M] [0] 0xa424042000ca302223039805edd33c8d64213ca08c3040be24322f12fa88b90c0bf8146de42382f1b178d0bc645f6302f1717b8c0bc5c5e4180e104260243031f0b2f4c18bd3a60c5f4445f06031020a1d20650210200808202f1823a8bd388115e4d40c084369b409b40 [[.int .i64 0],[.int .i64 0,.int .i64 0]] [] [.uh (.func D) [] [.t 4]])).1
def qJ(L O D M:Nat):bE:=(⟨_,by conv=>lhs;cbv⟩:bT (cH 34 [.tmp 8] [L,D,M] [0,255] 0x5100ae420610ae50661809818206715723082010a0f8128e7901000b8be6a02e42c2fe051c790900bc7c5e3c2f1d178e0bc6c5e342f19178c0bc5c5f82c2f1517e8b0bc545e4180e104460243131f0b2f4c18bd3a60c5fbc3f06031020a3dc4a1d097870203300bd6c180084369b409b40 [[.int .i64 0],[.int .i64 0,.int .i64 0]] [.fn (.func O) [] []])).1
def ve(D:Nat):bE:=(⟨_,by conv=>lhs;cbv⟩:bT (cH 18 [.tmp 2] [D] [0,8,1] 0xa0804445e020080220034ee0316060022032709f0a082110a0f820016400f45481405cc258104868c0480e01c0608180c100181a20)).1
def tw(L M D:Nat):bE:=(⟨_,by conv=>lhs;cbv⟩:bT (cH 66 [.cell 10 (some 6)] [L,M,D] [0,15,1] 0x560ae56be920614051460885f1020ef1673c17818410170bc1428e04251fc882b901529672b7e1a0244283e441460543ce10446e5e2f9f00a028a60442f888808c10508220dc59c39c985e091040402f0010f0f8c10508220dc44845e060271721f17f028f484785ff0020802f3f179f0bcf45e782f2e179d8bce85e722f38179b8bcd85e6a2f3417998bcc85e622f3017978bcb45e582f2b17950bca45e502f2717930bc805e4a2f2417918bc885e422fdc1f178f0bc945e3e2f1e1790603890223418bd7a480d848156f88044c08b7c4a2087c2206c204156f88841138a8bc0206c282fe050b780aa0a1060115b88090c0cfc8cdd3062fbd0900a7c6a340bb40 [[.int .i64 0,.int .i64 0,.int .i64 0,.int .i64 0,.int .i64 0,.int .i64 0],[.int .i64 0,.int .i64 0]])).1
def tA(D:Nat):bE:=(⟨_,by conv=>lhs;cbv⟩:bT (cH 6 [.tmp 4] [] [] 0x142001c401b0b405b30 [] [.ja] [.uh (.func D) [] [.t 2,.t 3]])).1
def qK(D:Nat):bE:=⟨21,[.tmp 4],r [o 2 (w 0),V 4 (i 0)] (r [V 5 (i 0)] (j (r [o 8 (L 2 96),V 9 (i 0)] (u 0 (.loop (r [o 10 (bb .lss 9 (i 8))] (j (c 10 z (.exit 0)) (j (u 1 (r [M 11 9,o 12 (.GC (t 8) (t 9) 8 12 (some 12)),o 7 (.alloc bC),M 6 11,n (s 7 12 12)] (r [M 13 1,o 14 (L 7 12),o 15 (.fu (t 13) [t 14])] (c 15 (R [M 16 5,M 17 6,o 18 (.call D [t 16,t 17]),M 5 18]) z)))) (R [o 19 (bb .add 9 (i 1)),M 9 19]))))))) (r [M 20 5,M 4 20] y)))⟩
def o6:bE:=(⟨_,by conv=>lhs;cbv⟩:bT (cH 14 [.tmp 3] [] [1] 0xa0c1428e09b241b5d05e3d2816b50a0102141f04022b09805b20)).1
def ot:bE:=(⟨_,by conv=>lhs;cbv⟩:bT (cH 6 [.tmp 2] [] [1] 0x504002141f0402240981a20)).1
def tB:bE:=(⟨_,by conv=>lhs;cbv⟩:bT (cH 7 [.tmp 2] [] [0,1] 0xa080240062e0720a8004810 [] [] [.mm true [.t 3,.k (.int .i64 0)],.mm false [.t 4,.k (.int .i64 9999)]])).1
end
section
open Z
def xm:bE:=(⟨_,by conv=>lhs;cbv⟩:bT (cH 15 [.tmp 2,.tmp 3] [] [0] 0xab01005c0e02e4376060659801208010243f410e3c38cb058087010178d85c0e6004820 [] [.float .f64 0,.float .f64 4652006429231887155,.float .f64 4621819117588971520] [.xt .rte (.t 12),.JN .i64 (.t 13)])).1
end
open Ieee
set_option exponentiation.threshold 4000
section
variable (n N d q:Nat)
def wu:Nat:=n/2^d+(if 2^d<2*(n%2^d)\/(2^d=2*(n%2^d)/\n/2^d%2=1)then 1 else 0)
theorem b9:0<2^d:=Nat.two_pow_pos d
theorem TD:wu n d<=n/2^d+1:=by unfold wu;split<;>omega
theorem TE:n/2^d<=wu n d:=by unfold wu;omega
theorem TF:wu n 0=n:=by simp[wu,Nat.mod_one]
theorem nJ(k:Nat):wu (n*2^k) (d+k)=wu n d:=by
 unfold wu;rw[ma,Nat.mul_div_mul_right _ _ (b9 k),Nat.mul_mod_mul_right]
 have hk:=b9 k
 have L:(2^d*2^k<2*(n%2^d*2^k))↔(2^d<2*(n%2^d)):=by
  rw[<-na];exact Nat.mul_lt_mul_right hk
 have D:(2^d*2^k=2*(n%2^d*2^k))↔(2^d=2*(n%2^d)):=by
  rw[<-na];exact Nat.mul_left_inj aaN
 simp only[L,D]
theorem zC{n D:Nat} (h:n<=D) (d:Nat):wu n d<=wu D d:=by
 have R:=b9 d
 have V:n/2^d<=D/2^d:=Nat.div_le_div_right h
 by_cases L:n/2^d=D/2^d
 ·unfold wu
  rw[L]
  have M:=H5 n (2^d)
  have O:=H5 D (2^d)
  rw[L]at M
  have Z:n%2^d<=D%2^d:=aaN
  split<;>split<;>omega
 ·have M:=TD n d
  have O:=TE D d
  omega
theorem QH{n d:Nat}:wu (q*2^d) d=q:=by
 have:=nJ q 0 d
 rw[kr,TF]at this;exact this
theorem qL:n<2^(n.log2+1):=Nat.lt_log2_self
theorem KK(s:Bool) (n d:Nat):Toward.even.cut s n d=wu n d:=by
 unfold Toward.cut;simp only[Nat.one_shiftLeft]
 by_cases hd:d<=n.log2+2
 ·rw[Nat.min_eq_left hd]
  unfold wu
  congr 1
  by_cases L:2^d<2*(n%2^d)
  ·simp[L]
  ·by_cases D:2^d=2*(n%2^d)
   ·by_cases M:n/2^d%2=1
    ·simp[<-D,M]
    ·simp[<-D,M]
   ·simp[L,D]
 ·rw[Nat.min_eq_right aaN]
  have hl:=qL n
  have D:2^(n.log2+2)=2*2^(n.log2+1):=by rw[Nat.pow_succ,se]
  have aa:2^(n.log2+2)<=2^d:=nl aaN aaN
  have R:n/2^(n.log2+2)=0:=Do aaN
  have e2:n%2^(n.log2+2)=n:=B0 aaN
  have V:n/2^d=0:=Do aaN
  have Z:n%2^d=n:=B0 aaN
  unfold wu;rw[R,e2,V,Z]
  have c1:¬(2^(n.log2+2)<2*n):=aaN
  have O:¬(2^(n.log2+2)=2*n):=aaN
  have c3:¬(2^d<2*n):=aaN
  have c4:¬(2^d=2*n):=aaN
  simp[c1,O,c3,c4]
def rV(r:Nat):Nat:=if r<2^52 then r else(2^52+r%2^52)*2^(r/2^52-1)
theorem IP{r D:Nat} (h:r<=D):rV r<=rV D:=by
 unfold rV
 have hd:r/2^52<=D/2^52:=Nat.div_le_div_right h
 have hm:=QR r (b9 52)
 have O:=QR D (b9 52)
 split
 ·split
  ·exact h
  ·have:1<=2^(D/2^52-1):=b9 _
   calc r<=2^52+D%2^52:=by omega
    _=(2^52+D%2^52)*1:=by omega
    _<=_:=AC _ this
 ·split
  ·omega
  ·by_cases L:r/2^52=D/2^52
   ·rw[L]
    have M:=H5 r (2^52)
    have R:=H5 D (2^52)
    rw[L]at M
    exact ip _ aaN
   ·have V:1<=r/2^52:=by
     have:2^52<=r:=aaN
     exact(aaI (b9 52)).2 aaN
    calc (2^52+r%2^52)*2^(r/2^52-1)<=2^53*2^(r/2^52-1):=ip _ aaN
     _=2^52*2^(r/2^52):=by rw[<-ma,<-ma];congr 1;omega
     _<=2^52*2^(D/2^52-1):=AC _ (nl aaN aaN)
     _<=_:=ip _ aaN
def Lg:Nat:=max (N.log2-52) 1126
def Rg:Nat:=if N=0 then 0 else min ((Lg N-1126)*2^52+wu N (Lg N)) (2047*2^52)
theorem ahp{N N':Nat} (D:N≠0) (h:N<=N'):Lg N<=Lg N':=by
 have:N.log2<=N'.log2:=(Nat.le_log2 aaN).2 (kw (aan D) h)
 unfold Lg;omega
theorem ahq:N<2^(Lg N+53):=re (qL N) (nl aaN (by unfold Lg;omega))
theorem ahr:N/2^Lg N<2^53:=by
 rw[Nat.div_lt_iff_lt_mul (b9 _),<-ma,Nat.add_comm];exact ahq N
theorem Z9{N:Nat} (h:N≠0) (hL:1126<Lg N):2^52<=N/2^Lg N:=by
 rw[aaI (b9 _),<-ma]
 refine kw (nl aaN ?_) (aan h)
 unfold Lg at hL⊢;omega
theorem IQ{N N':Nat} (h:N<=N'):Rg N<=Rg N':=by
 unfold Rg
 by_cases M:N=0
 ·simp[M]
 ·have D:N'≠0:=aaN
  rw[ge M,ge D]
  have hL:=ahp M h
  suffices(Lg N-1126)*2^52+wu N (Lg N)<=(Lg N'-1126)*2^52+wu N' (Lg N')by omega
  by_cases L:Lg N=Lg N'
  ·rw[L];have:=zC h (Lg N');omega
  ·have R:=ahr N
   have O:=TD N (Lg N)
   have Z:2^52<=N'/2^Lg N':=Z9 D (by unfold Lg at L hL⊢;omega)
   have h4:=TE N' (Lg N')
   have V:(Lg N-1126)+1<=Lg N'-1126:=by unfold Lg at L hL⊢;omega
   omega
theorem TH{N:Nat} (h:N=q*2^Lg N) (hb:N<2^3150):Rg N<2047*2^52/\rV (Rg N)*2^1126=N:=by
 by_cases M:N=0
 ·subst M;simp[Rg,rV]
 ·have hp:=b9 (Lg N)
  have hq:N/2^Lg N=q:=by
   have:q*2^Lg N/2^Lg N=q:=QQ _ hp
   rw[<-h]at this;exact this
  have hr:wu N (Lg N)=q:=by
   have:wu (q*2^Lg N) (Lg N)=q:=QH (n:=0) q
   rw[<-h]at this;exact this
  have L:=ahr N
  rw[hq]at L
  have hL:Lg N<=3098:=by
   have:N.log2<3150:=(Nat.log2_lt M).2 hb
   unfold Lg;omega
  have Z:(Lg N-1126)*2^52+q<2047*2^52:=aaN
  have V:Rg N=(Lg N-1126)*2^52+q:=by unfold Rg;rw[ge M,hr];omega
  rw[V];refine⟨Z,?_⟩
  have key:rV ((Lg N-1126)*2^52+q)=q*2^(Lg N-1126):=by
   by_cases D:Lg N=1126
   ·rw[D]
    simp only[Nat.sub_self,Nat.zero_mul,kr,IR,sd];unfold rV;split
    ·rfl
    ·have O:q/2^52=1:=aaN
     have R:q%2^52=q-2^52:=aaN
     rw[O,R];omega
   ·have aa:1126<Lg N:=by unfold Lg at D⊢;omega
    have ab:=Z9 M aa
    rw[hq]at ab;unfold rV
    have O:((Lg N-1126)*2^52+q)/2^52-1=Lg N-1126:=aaN
    have R:2^52+((Lg N-1126)*2^52+q)%2^52=q:=aaN
    rw[ge aaN,O,R]
  rw[key,na,<-ma]
  have:Lg N-1126+1126=Lg N:=by
   have:1126<=Lg N:=by unfold Lg;omega
   omega
  rw[this];exact h.symm
theorem KL{m k:Nat} (hm:m<2^53) (hk:1126<=k) (O:k<=3090):Rg (m*2^k)<2047*2^52/\rV (Rg (m*2^k))*2^1126=m*2^k:=by
 by_cases D:m=0
 ·subst D;simp[Rg,rV]
 ·have V:(m*2^k).log2=m.log2+k:=by
   have L:m*2^k≠0:=Nat.mul_ne_zero D (by have:=b9 k;omega)
   apply Nat.le_antisymm
   ·have:(m*2^k).log2<m.log2+k+1:=(Nat.log2_lt L).2 (by
     rw[show m.log2+k+1=(m.log2+1)+k by omega,ma]
     exact Hk (qL m) (b9 k))
    omega
   ·exact(Nat.le_log2 L).2 (by rw[ma];exact ip _ (aan D))
  have M:m.log2<=52:=by have:=(Nat.log2_lt D).2 hm;omega
  have R:Lg (m*2^k)<=k:=by unfold Lg;omega
  refine TH (m*2^(k-Lg (m*2^k))) ?_ ?_
  ·rw[na,<-ma];congr 2;omega
  ·have:=qL (m*2^k)
   refine re this (nl aaN aaN)
end
open Ieee
set_option exponentiation.threshold 4000
section
variable (m n:Nat) {x y:Nat} (a r:Nat) (s:Bool)
abbrev DF:Format:=Ieee.double
theorem lI:DF.binade=2^52:=rfl
theorem lV:DF.signWeight=2^63:=rfl
theorem Be:DF.infRung=2047*2^52:=rfl
theorem qM:DF.leastPlace=-1074:=by decide
theorem Yd:DF.fractionBits=52:=rfl
def Bf:Nat:=if r<2^52 then r else 2^52+r%2^52
def kN:Nat:=if r<2^52 then 0 else r/2^52-1
theorem mS:rV r=Bf r*2^kN r:=by unfold rV Bf kN;split<;>simp
theorem acU:Bf r<2^53:=by unfold Bf;split<;>omega
theorem ij{r:Nat} (h:r<2047*2^52):DF.read r=.number false (Bf r) (-1074+(kN r:Int)):=by
 have D:r/2^63%2=0:=aaN
 have L:r%2^63=r:=aaN
 unfold Format.read;simp only[lI,lV,Be,qM,D,L];unfold Bf kN;split
 ·simp
 ·simp[]
theorem TI{r:Nat} (h:r<2047*2^52):DF.read (2^63+r)=.number true (Bf r) (-1074+(kN r:Int)):=by
 have D:(2^63+r)/2^63%2=1:=aaN
 have L:(2^63+r)%2^63=r:=aaN
 unfold Format.read;simp only[lI,lV,Be,qM,D,L];unfold Bf kN;split
 ·simp
 ·simp[]
theorem M9(m:Nat) (p:Int) (hp:-2200<=p):DF.nearest s m p=DF.word s (Rg (m*2^(p+2200).toNat)):=by
 unfold Format.nearest
 by_cases M:m=0
 ·simp[M,Rg]
 ·rw[ge M]
  obtain⟨k,hk⟩:∃k:Nat,p=(k:Int)-2200:=⟨(p+2200).toNat,aaN⟩
  subst hk
  have ek:((k:Int)-2200+2200).toNat=k:=aaN
  rw[ek]
  have R:m*2^k≠0:=Nat.mul_ne_zero M (by have:=b9 k;omega)
  have hl:(m*2^k).log2=m.log2+k:=by
   apply Nat.le_antisymm
   ·have:(m*2^k).log2<m.log2+k+1:=(Nat.log2_lt R).2 (by
     rw[show m.log2+k+1=(m.log2+1)+k by omega,ma]
     exact Hk (qL m) (b9 k))
    omega
   ·exact(Nat.le_log2 R).2 (by rw[ma];exact ip _ (aan M))
  have D:max ((k:Int)-2200+m.log2-(DF.fractionBits:Nat)) DF.leastPlace=(Lg (m*2^k):Int)-2200:=by
   rw[qM,Yd];unfold Lg;rw[hl];omega
  simp only[D];simp only[KK,qM,lI,Be]
  have hg:1126<=Lg (m*2^k):=by unfold Lg;omega
  have Z:((Lg (m*2^k):Int)-2200- -1074).toNat=Lg (m*2^k)-1126:=aaN
  have e2:wu (m<<<((k:Int)-2200-((Lg (m*2^k):Int)-2200)).toNat) ((Lg (m*2^k):Int)-2200-((k:Int)-2200)).toNat=wu (m*2^k) (Lg (m*2^k)):=by
   rw[ts];generalize Lg (m*2^k)=L
   by_cases V:L<=k
   ·have a1:((k:Int)-2200-((L:Int)-2200)).toNat=k-L:=aaN
    have O:((L:Int)-2200-((k:Int)-2200)).toNat=0:=aaN
    rw[a1,O]
    have:=nJ (m*2^(k-L)) 0 L
    rw[kr,na,<-ma,wn V]at this;exact this.symm
   ·have a1:((k:Int)-2200-((L:Int)-2200)).toNat=0:=aaN
    have O:((L:Int)-2200-((k:Int)-2200)).toNat=L-k:=aaN
    rw[a1,O,IR,sd]
    have:=nJ m (L-k) k
    rw[wn aaN]at this
    exact this.symm
  rw[Z,e2];unfold Rg;rw[ge R]
theorem TJ:DF.word false r=r:=by unfold Format.word;simp
theorem nK(p:Int) (D:-2200<=p):DF.write (.number false m p)=Rg (m*2^(p+2200).toNat):=by
 show DF.nearest false m p=_
 rw[M9 _ _ _ D,TJ]
def Fin:Prop:=r<2047*2^52
def V8:Nat:=4621819117588971520
theorem IS:DF.read V8=.number false (5*2^50) (-49):=by decide
theorem acV{r:Nat} (h:Fin r):DF.mul V8 r=some (Rg (10*rV r*2^1126))/\DF.mul r V8=some (Rg (10*rV r*2^1126)):=by
 have e:5*2^50*Bf r*2^((-49+(-1074+(kN r:Int)))+2200).toNat=10*rV r*2^1126:=by
  have:((-49+(-1074+(kN r:Int)))+2200).toNat=kN r+1077:=aaN
  rw[this,mS,show(2:Nat)^1126=2^49*2^1077 by rw[<-ma],ma,show 5*2^50=10*2^49 by decide]
  simp only[na,Nat.mul_left_comm,se]
 constructor
 ·unfold Format.mul
  rw[IS,ij h];simp only[Datum.product,mt,Bool.xor_false]
  rw[nK _ _ aaN,e]
 ·unfold Format.mul
  rw[IS,ij h];simp only[Datum.product,mt,Bool.xor_false]
  rw[nK _ _ aaN,se (Bf r),Int.add_comm (-1074+(kN r:Int)) (-49),e]
theorem Ye(b:Nat):(Datum.number false m (-1074+(a:Int))).sum (.number false n (-1074+(b:Int)))=some (.number false (m*2^(a-min a b)+n*2^(b-min a b)) (-1074+(min a b:Nat))):=by
 have D:min (-1074+(a:Int)) (-1074+(b:Int))=-1074+((min a b:Nat):Int):=aaN
 have L:((-1074+(a:Int))-(-1074+((min a b:Nat):Int))).toNat=a-min a b:=aaN
 have R:((-1074+(b:Int))-(-1074+((min a b:Nat):Int))).toNat=b-min a b:=aaN
 simp only[Datum.sum,D,L,R,signed,eQ,il,ts];generalize m*2^(a-min a b)=x;generalize n*2^(b-min a b)=y
 have O:¬((x:Int)+(y:Int)<0):=aaN
 have M:((x:Int)+(y:Int)).natAbs=x+y:=aaN
 rw[M];simp[O]
theorem Yf(b:Nat) (h:n*2^b<=m*2^a):(Datum.number false m (-1074+(a:Int))).sum (.number true n (-1074+(b:Int)))=some (.number false (m*2^(a-min a b)-n*2^(b-min a b)) (-1074+(min a b:Nat))):=by
 have L:min (-1074+(a:Int)) (-1074+(b:Int))=-1074+((min a b:Nat):Int):=aaN
 have M:((-1074+(a:Int))-(-1074+((min a b:Nat):Int))).toNat=a-min a b:=aaN
 have V:((-1074+(b:Int))-(-1074+((min a b:Nat):Int))).toNat=b-min a b:=aaN
 simp only[Datum.sum,L,M,V,signed,eQ,il,kv,ts]
 have Z:n*2^(b-min a b)<=m*2^(a-min a b):=by
  have D:=b9 (min a b)
  refine ST ?_ D
  rw[na,na,<-ma,<-ma,wn aaN,wn aaN]
  exact h
 generalize m*2^(a-min a b)=x at*;generalize n*2^(b-min a b)=y at*
 have R:¬((x:Int)+ -(y:Int)<0):=aaN
 have O:((x:Int)+ -(y:Int)).natAbs=x-y:=aaN
 rw[O];simp[R]
theorem scl(c:Nat) (h:c<=a):m*2^(a-c)*2^(c+1126)=m*2^a*2^1126:=by
 rw[na,<-ma,na,<-ma,show a-c+(c+1126)=a+1126 by omega]
theorem add_pos(L:Fin x) (D:Fin y):DF.add x y=some (Rg ((rV x+rV y)*2^1126)):=by
 unfold Format.add
 rw[ij L,ij D,Ye,mt,nK _ _ aaN]
 have e:((-1074+((min (kN x) (kN y):Nat):Int))+2200).toNat=min (kN x) (kN y)+1126:=aaN
 rw[e,Nat.add_mul,scl _ _ _ aaN,scl _ _ _ aaN,<-mS,<-mS,<-Nat.add_mul]
theorem sub_pos(L:Fin x) (D:Fin y) (h:rV y<=rV x):DF.sub x y=some (Rg ((rV x-rV y)*2^1126)):=by
 unfold Format.sub;rw[ij L,ij D];simp only[Datum.opposite,nm];rw[mS,mS]at h
 rw[Yf _ _ _ _ h,mt,nK _ _ aaN]
 have e:((-1074+((min (kN x) (kN y):Nat):Int))+2200).toNat=min (kN x) (kN y)+1126:=aaN
 rw[e,Nat.sub_mul,scl _ _ _ aaN,scl _ _ _ aaN,<-mS,<-mS,<-Nat.sub_mul]
def QI:Nat:=Rg (n*2^2200)
theorem OG{n:Nat} (h:n<2^53):Fin (QI n)/\rV (QI n)=n*2^1074:=by
 have D:(1126:Nat)<=2200:=aaO
 obtain⟨L,O⟩:=KL (m:=n) (k:=2200) h aaN aaN
 refine⟨L,?_⟩;unfold QI
 have M:=b9 1126
 refine Nat.eq_of_mul_eq_mul_right M ?_;rw[O,na,<-ma]
theorem acW{a:Nat} (h:a<2^53):Fin (Rg (a*2^1064*2^1126))/\rV (Rg (a*2^1064*2^1126))=a*2^1064:=by
 have e:a*2^1064*2^1126=a*2^2190:=by rw[na,<-ma]
 obtain⟨D,M⟩:=KL (k:=2190) h aaN aaN
 rw[e];refine⟨D,?_⟩
 have L:=b9 1126
 refine Nat.eq_of_mul_eq_mul_right L ?_;rw[M,e]
theorem CT{N a b:Nat} (L:a*2^1064*2^1126<=N) (M:N<=b*2^1064*2^1126) (h:b<2^53):Fin (Rg N)/\a*2^1064<=rV (Rg N)/\rV (Rg N)<=b*2^1064:=by
 have D:a<2^53:=by
  have:a*(2^1064*2^1126)<=b*(2^1064*2^1126):=by rw[<-na,<-na];exact kw L M
  have:=ST this (Nat.mul_pos (b9 _) (b9 _))
  omega
 obtain⟨f1,O⟩:=acW D;obtain⟨Z,R⟩:=acW h
 have m1:=IQ L
 have V:=IQ M
 refine⟨?_,?_,?_⟩
 ·unfold Fin at Z⊢;omega
 ·rw[<-O];exact IP m1
 ·rw[<-R];exact IP V
theorem acX:wu (m<<<(-1074+(a:Int)).toNat) (-(-1074+(a:Int))).toNat=wu (m*2^a) 1074:=by
 rw[ts]
 by_cases h:1074<=a
 ·have L:(-1074+(a:Int)).toNat=a-1074:=aaN
  have D:(-(-1074+(a:Int))).toNat=0:=aaN
  rw[L,D]
  have:=nJ (m*2^(a-1074)) 0 1074
  rw[kr,na,<-ma,wn h]at this;exact this.symm
 ·have L:(-1074+(a:Int)).toNat=0:=aaN
  have D:(-(-1074+(a:Int))).toNat=1074-a:=aaN
  rw[L,D,IR,sd]
  have:=nJ m (1074-a) a
  rw[wn aaN]at this
  exact this.symm
theorem Yg{r:Nat} (h:Fin r):DF.write ((DF.read r).integral .even)=QI (wu (rV r) 1074):=by
 rw[ij h];simp only[Datum.integral,KK,acX]
 rw[nK _ _ aaN,<-mS,show((0:Int)+2200).toNat=2200 by omega]
 unfold QI;with_reducible rfl
theorem TK(n d:Nat):Toward.zero.cut s n d=n/2^d:=by
 unfold Toward.cut;simp only[Nat.one_shiftLeft,Bool.toNat_false,sh]
 by_cases hd:d<=n.log2+2
 ·rw[Nat.min_eq_left hd]
 ·rw[Nat.min_eq_right aaN]
  have L:=qL n
  have M:2^(n.log2+2)=2*2^(n.log2+1):=by rw[Nat.pow_succ,se]
  have D:2^(n.log2+2)<=2^d:=nl aaN aaN
  rw[Do aaN,Do aaN]
theorem QJ{r:Nat} (h:Fin r):(DF.read r).toInt .zero=some ((rV r/2^1074:Nat):Int):=by
 rw[ij h,mS];unfold Datum.toInt;simp only[Datum.integral,TK,ts,signed,eQ,il,IR,sd]
 congr 2
 generalize kN r=a;generalize Bf r=m
 by_cases h:1074<=a
 ·have L:(-1074+(a:Int)).toNat=a-1074:=aaN
  have D:(-(-1074+(a:Int))).toNat=0:=aaN
  rw[L,D,IR,Nat.div_one]
  have:m*2^a=m*2^(a-1074)*2^1074:=by rw[na,<-ma,wn h]
  rw[this,QQ _ (b9 _)]
 ·have L:(-1074+(a:Int)).toNat=0:=aaN
  have D:(-(-1074+(a:Int))).toNat=1074-a:=aaN
  rw[L,D,IR,sd]
  have:m*2^a/2^1074=m*2^a/(2^(1074-a)*2^a):=by rw[<-ma,wn aaN]
  rw[this,Nat.mul_div_mul_right _ _ (b9 _)]
theorem QK{n:Nat} (h:n<2^53):(DF.read (QI n)).toInt .zero=some (n:Int):=by
 obtain⟨D,L⟩:=OG h;rw[QJ D,L,QQ _ (b9 _)]
end
section
variable {a b:Int} {m r:Nat} {s:Bool} (x:Nat)
def key:Option Int:=
 match DF.read x with
 | .nan ..=>none
 | .infinity s=>some (if s then -(2^2200:Nat)else(2^2200:Nat))
 | .number s m i=>some (signed s m (i+1074).toNat)
theorem vf{i:Int} (h:DF.read x=.number s m i):-1074<=i/\i<=971/\m<2^53:=by
 unfold Format.read at h;dsimp only at h;split at h
 ·rename_i D
  cases h;rw[lV,lI]at D;rw[lV,qM];omega
 ·split at h
  ·rename_i D L
   cases h;rw[lV,Be]at L;rw[lV,qM,lI];omega
  ·split at h<;>cases h
theorem zD(s:Bool) (m a b:Nat):signed s m (a+b)=signed s m a*((2^b:Nat):Int):=by
 have e:((m<<<(a+b):Nat):Int)=((m<<<a:Nat):Int)*((2^b:Nat):Int):=by
  rw[ts,ts,ma,<-na,Int.natCast_mul]
 unfold signed;cases s
 ·simp only[eQ,il];exact e
 ·simp only[kv,e,Int.neg_mul]
theorem QL(a b:Int) (k:Nat):compare (a*((2^k:Nat):Int)) (b*((2^k:Nat):Int))=compare a b:=by
 have L:(0:Int)<((2^k:Nat):Int):=by have:=b9 k;omega
 have D:(a*((2^k:Nat):Int)<b*((2^k:Nat):Int))↔a<b:=Int.mul_lt_mul_right L
 have M:(a*((2^k:Nat):Int)=b*((2^k:Nat):Int))↔a=b:=⟨λh=>Int.eq_of_mul_eq_mul_right aaN h,λh=>by rw[h]⟩
 simp only[compare,compareOfLessAndEq,D,M]
theorem G6{a:Nat} (hm:m<2^53) (L:a<=2045):-((2^2200:Nat):Int)<signed s m a/\signed s m a<((2^2200:Nat):Int):=by
 have D:m*2^a<2^53*2^2045:=re (Hk hm (b9 a)) (AC _ (nl aaN L))
 have M:2^53*2^2045<=2^2200:=by rw[<-ma];exact nl aaN aaN
 have O:m*2^a<2^2200:=re D M
 unfold signed;rw[ts];generalize m*2^a=z at*;generalize 2^2200=w at*
 cases s<;>simp<;>omega
def IT:Option Int->Option Int->Option Ordering
 |some a,some b=>some (compare a b)
 |_,_=>none
theorem yg(h:a<b):compare a b=.lt:=by simp[compare,compareOfLessAndEq,h]
theorem yh(h:b<a):compare a b=.gt:=by
 have D:¬a<b:=aaN
 have L:¬a=b:=aaN
 simp[compare,compareOfLessAndEq,D,L]
theorem Bg(h:a=b):compare a b=.eq:=by simp[compare,compareOfLessAndEq,h]
theorem wz(y:Nat):DF.order x y=IT (key x) (key y):=by
 have aa:(0:Int)<((2^2200:Nat):Int):=by have:=b9 2200;omega
 unfold Format.order key
 cases hx:DF.read x with
 |nan s t=>cases DF.read y<;>rfl
 |infinity s=>
  cases L:DF.read y with
  |nan _ _=>rfl
  |infinity t=>
   simp only[Datum.order,IT];generalize((2^2200:Nat):Int)=w at*
   cases s<;>cases t<;>simp only[eQ,il,kv]
   ·rw[Bg rfl];rfl
   ·rw[yh aaN];rfl
   ·rw[yg aaN];rfl
   ·rw[Bg rfl];rfl
  |number t n j=>
   obtain⟨R,Z,M⟩:=vf y L
   obtain⟨O,D⟩:=G6 (s:=t) (a:=(j+1074).toNat) M aaN
   simp only[Datum.order,IT];generalize((2^2200:Nat):Int)=w at*
   cases s<;>simp only[eQ,il,kv]
   ·rw[yh D]
   ·rw[yg O]
 |number s m i=>
  obtain⟨R,Z,M⟩:=vf x hx
  cases L:DF.read y with
  |nan _ _=>rfl
  |infinity t=>
   obtain⟨O,D⟩:=G6 (s:=s) (a:=(i+1074).toNat) M aaN
   simp only[Datum.order,IT];generalize((2^2200:Nat):Int)=w at*
   cases t<;>simp only[eQ,il,kv]
   ·rw[yg D]
   ·rw[yh O]
  |number t n j=>
   obtain⟨d1,d2,d3⟩:=vf y L;simp only[Datum.order,IT]
   have V:(i+1074).toNat=(i-min i j).toNat+(min i j+1074).toNat:=aaN
   have e2:(j+1074).toNat=(j-min i j).toNat+(min i j+1074).toNat:=aaN
   rw[V,e2,zD,zD,QL]
theorem o7(h:Fin r):key r=some (rV r:Int):=by
 unfold key;rw[ij h];simp only[signed,eQ,il,ts]
 rw[mS,show((-1074+(kN r:Int))+1074).toNat=kN r by omega]
theorem OH(h:Fin r):key (2^63+r)=some (-(rV r:Int)):=by
 unfold key;rw[TI h];simp only[signed,kv,ts]
 rw[mS,show((-1074+(kN r:Int))+1074).toNat=kN r by omega]
end
open Ieee
set_option exponentiation.threshold 4000
section
variable (x:Nat) (op:BinOp) {a b c k s v:Nat} (y:Nat)
def vg:Nat:=4652006429231887155
def sC:Nat:=4584304132692975288
def RC:Bool:=DF.order x y==some .gt||DF.order x y==some .eq
def QM:Bool:=DF.order x y==some .lt||DF.order x y==some .eq
def ltF:Bool:=DF.order x y==some .lt
def gtF:Bool:=DF.order x y==some .gt
def eqF:Bool:=DF.order x y==some .eq
def kle:Option Int->Option Int->Bool
 |some a,some b=>decide (a<=b)
 |_,_=>false
def klt:Option Int->Option Int->Bool
 |some a,some b=>decide (a<b)
 |_,_=>false
theorem Yh:QM x y=kle (key x) (key y):=by
 unfold QM;rw[wz]
 cases key x<;>cases key y<;>try rfl
 rename_i a b;simp only[IT,kle]
 rcases aai a b with h|h|h
 ·rw[yg h];simp;omega
 ·rw[Bg h];simp;omega
 ·rw[yh h];simp;omega
theorem Yi:RC x y=kle (key y) (key x):=by
 unfold RC;rw[wz]
 cases key x<;>cases key y<;>try rfl
 rename_i a b;simp only[IT,kle]
 rcases aai a b with h|h|h
 ·rw[yg h];simp;omega
 ·rw[Bg h];simp;omega
 ·rw[yh h];simp;omega
theorem Yj:ltF x y=klt (key x) (key y):=by
 unfold ltF;rw[wz]
 cases key x<;>cases key y<;>try rfl
 rename_i a b;simp only[IT,klt]
 rcases aai a b with h|h|h
 ·rw[yg h];simp;omega
 ·rw[Bg h];simp;omega
 ·rw[yh h];simp;omega
theorem Yk:gtF x y=klt (key y) (key x):=by
 unfold gtF;rw[wz]
 cases key x<;>cases key y<;>try rfl
 rename_i a b;simp only[IT,klt]
 rcases aai a b with h|h|h
 ·rw[yg h];simp;omega
 ·rw[Bg h];simp;omega
 ·rw[yh h];simp;omega
theorem ahs:Fin 0:=by unfold Fin;omega
theorem Yl:Fin vg:=by unfold Fin vg;omega
theorem CU:Fin sC:=by unfold Fin sC;omega
theorem aj8:rV 0=0:=by simp[rV]
theorem OI:key 0=some 0:=by rw[o7 ahs,aj8];rfl
theorem OJ:key vg=some (rV vg:Int):=o7 Yl
theorem Ym{r:Nat} (h:rV r=0):r=0:=by
 unfold rV at h;split at h
 ·exact h
 ·have:=Nat.mul_pos (show 0<2^52+r%2^52 by omega) (b9 (r/2^52-1))
  omega
theorem TL(hs:s<2^64) {a:Int} (hk:key s=some a) (Z:0<=a) (V:a<=(rV vg:Int)):(Fin s/\a=(rV s:Int))\/(s=2^63/\a=0):=by
 have ab:(rV vg:Int)<((2^2200:Nat):Int):=by
  have:rV vg<2^2200:=by decide+kernel
  omega
 by_cases aa:s<2^63
 ·by_cases L:Fin s
  ·left
   rw[o7 L]at hk;exact⟨L,(xa hk).symm⟩
  ·exfalso
   unfold Fin at L;unfold key Format.read at hk;dsimp only at hk
   have M:s%DF.signWeight=s:=by rw[lV];omega
   have O:s/DF.signWeight%2=0:=by rw[lV];omega
   rw[M,O,lI,Be]at hk
   rw[ge aaN,ge L]at hk
   split at hk
   ·cases hk
   ·rename_i R D
    split at D<;>try(cases D;done)
    cases D;cases hk;simp only[show((0:Nat)==1)=false from rfl,eQ,il]at V
    omega
   ·rename_i D
    split at D<;>cases D
 ·obtain⟨r,rfl⟩:∃r,s=2^63+r:=⟨s-2^63,aaN⟩
  by_cases L:Fin r
  ·right
   rw[OH L]at hk
   have:=xa hk
   have h3:rV r=0:=aaN
   have:=Ym h3
   subst this
   exact⟨rfl,aaN⟩
  ·exfalso
   unfold Fin at L;unfold key Format.read at hk;dsimp only at hk
   have M:(2^63+r)%DF.signWeight=r:=by rw[lV];omega
   have O:(2^63+r)/DF.signWeight%2=1:=by rw[lV];omega
   rw[M,O,lI,Be]at hk
   rw[ge aaN,ge L]at hk
   split at hk
   ·cases hk
   ·rename_i R D
    split at D<;>try(cases D;done)
    cases D;cases hk;simp only[show((1:Nat)==1)=true from rfl,kv]at Z
    have:=b9 2200
    omega
   ·rename_i D
    split at D<;>cases D
def X10(a:Nat):Nat:=Rg (10*a*2^1126)
def QN(a:Nat):Nat:=wu (rV (X10 a)) 1074
theorem KM(h:a<=b):X10 a<=X10 b:=IQ (ip _ (AC _ h))
theorem TM(h:a<=b):QN a<=QN b:=zC (IP (KM h)) _
theorem Yn:QN (rV vg)=9999:=by decide+kernel
theorem Yp:X10 (rV vg)<2047*2^52:=by decide+kernel
theorem Yq(h:a<=rV vg):Fin (X10 a):=by
 have D:=KM h
 have L:=Yp
 unfold Fin;omega
theorem acZ(h:a<=rV vg):QN a<=9999:=by rw[<-Yn];exact TM h
theorem aab:QN 0=0:=by decide+kernel
def V9(s:Nat):Bool:=RC s 0&&QM s vg
def tk(s:Nat):Nat:=QN ((key s).getD 0).toNat
theorem CV:V9 s=true↔∃a:Nat,key s=some (a:Int)/\a<=rV vg:=by
 unfold V9;rw[Yi,Yh,OI,OJ]
 cases hk:key s with
 |none=>simp[kle]
 |some a=>
  simp only[kle,ed,ii,gc];constructor
  ·rintro⟨D,L⟩;exact⟨a.toNat,aaN,aaN⟩
  ·rintro⟨b,rfl,h⟩;omega
theorem OK(h:key s=some (a:Int)):tk s=QN a:=by simp[tk,h]
theorem ac0{x:Nat} (h:Fin x):HY x=some (.float .f64 (QI (wu (rV x) 1074))):=by
 have D:FloatKind.f64.decode x=.number false (Bf x) (-1074+(kN x:Int)):=ij h
 unfold HY;rw[D];dsimp only
 have:=Yg h
 rw[ij h]at this
 exact rh (λn=>some (AV.float .f64 n)) this
theorem OL{x n:Nat} (h:(DF.read x).toInt .zero=some (n:Int)) (L:n<2^53):yI .i64 (.float .f64 x)=some (.int .i64 n):=by
 have D:(FloatKind.f64.decode x).toInt .zero=some (n:Int):=h
 simp only[yI,D];rw[ib];constructor
 ·have:IntKind.i64.min=-(2^63):=aaO
  omega
 ·have:IntKind.i64.max=2^63-1:=aaO
  omega
theorem z_1:DF.mul V8 (2^63)=some (2^63):=by decide+kernel
theorem z_4:(DF.read (2^63)).toInt .zero=some ((0:Nat):Int):=by decide+kernel
theorem aj9:FloatKind.f64.decode (2^63)=.number true 0 (-1074):=by decide+kernel
theorem aka:FloatKind.f64.encode ((Datum.number true 0 (-1074)).integral .even)=2^63:=by decide+kernel
theorem z_3:HY (2^63)=some (.float .f64 (2^63)):=by
 unfold HY;rw[aj9]
 show some (AV.float .f64 (FloatKind.f64.encode ((Datum.number true 0 (-1074)).integral .even)))=_
 rw[aka]
theorem QO(Z:s<2^64) (h:V9 s=true):∃x y,DF.mul V8 s=some x/\HY x=some (.float .f64 y)/\yI .i64 (.float .f64 y)=some (.int .i64 (tk s)):=by
 obtain⟨a,O,M⟩:=CV.1 h
 have R:=OK O
 rcases TL Z O aaN aaN with⟨V,D⟩|⟨rfl,D⟩
 ·have D:a=rV s:=aaN
  subst D
  have hX:=Yq M
  have L:=acZ M
  refine⟨X10 (rV s),QI (wu (rV (X10 (rV s))) 1074),(acV V).1,ac0 hX,?_⟩;rw[R]
  exact OL (QK (by unfold QN at L;omega)) aaN
 ·have D:a=0:=aaN
  subst D;refine⟨2^63,2^63,z_1,z_3,?_⟩;rw[R,aab]
  exact OL z_4 aaN
theorem OM{d:Nat} (h:a<=b) (D:d<=c):a-c<=b-d:=by omega
theorem Eu{x y:Nat} (h:x*2^c<=y*2^c):x<=y:=ST h (b9 c)
theorem ac1(hk:1<=k) (ao:k<=9999) (h1:10*a<=1024*k) (h2:1024*k<=10*(a+1)):∃s,DF.div (QI k) V8=some s/\Fin s/\a*2^1064<=rV s/\rV s<=(a+1)*2^1064:=by
 obtain⟨f1,f2⟩:=OG (n:=k) aaN
 generalize QI k=r at*
 have hd:=acU r
 rw[mS]at f2
 -- the number is a normal one
 have an:2^52<=r:=by
  refine Nat.le_of_not_lt λh=>?_
  have e1:Bf r=r:=by unfold Bf;rw[ib h]
  have e2:kN r=0:=by unfold kN;rw[ib h]
  rw[e1,e2,IR,sd]at f2
  have:1*2^1074<=k*2^1074:=ip _ hk
  have:(2:Nat)^52<=2^1074:=nl aaN aaN
  omega
 have O:2^52<=Bf r:=by unfold Bf;rw[ge aaN];omega
 have ac:(Bf r).log2=52:=by
  have V:Bf r≠0:=aaN
  have a1:(Bf r).log2<53:=(Nat.log2_lt V).2 hd
  have a2:52<=(Bf r).log2:=(Nat.le_log2 V).2 O
  omega
 have hp:kN r<=1036:=by
  refine Nat.le_of_not_lt λh=>?_
  have b1:2^52*2^1037<=Bf r*2^kN r:=Nat.mul_le_mul O (nl aaN h)
  rw[f2,<-ma]at b1
  have b2:k*2^1074<2^15*2^1074:=Hk aaN (b9 _)
  rw[<-ma]at b2;omega
 have ad:(5*2^50:Nat).log2=52:=aaO
 have R:54+(5*2^50:Nat).log2-(Bf r).log2=54:=by rw[ac,ad]
 have L:DF.div r V8=some (Rg ((2*(Bf r*2^54/(5*2^50))+(Bf r*2^54%(5*2^50) !=0).toNat)*2^(kN r+1120))):=by
  unfold Format.div;rw[IS,ij f1]
  have ae:DF.fractionBits+2=54:=rfl
  rw[ae];unfold Datum.quotient;dsimp only
  rw[ge aaN,R,ts,mt]
  have:((-1074+(kN r:Int))- -49-(54:Nat)-1+2200).toNat=kN r+1120:=aaN
  rw[show(false^^false)=false from rfl,nK _ _ aaN,this]
 obtain⟨n,hn⟩:∃n:Nat,n=5*2^50:=⟨_,rfl⟩
 rw[<-hn]at L
 obtain⟨D,aa⟩:∃D:Nat,D=Bf r*2^54:=⟨_,rfl⟩
 rw[<-aa]at L;refine⟨_,L,?_⟩
 -- the floor against a acW number
 have M:∀z:Nat,(z*2^(1069-kN r))*n*2^kN r=5*z*2^1119:=by
  intro z;rw[hn]
  have:z*2^(1069-kN r)*(5*2^50)*2^kN r=5*z*(2^(1069-kN r)*2^50*2^kN r):=by
   simp only[na,Nat.mul_left_comm,se]
  rw[this,<-ma,<-ma]
  rw[show 1069-kN r+50+kN r=1119 by omega]
 have hD:D*2^kN r=512*k*2^1119:=by
  rw[aa]
  have:Bf r*2^54*2^kN r=Bf r*2^kN r*2^54:=by simp only[na,se]
  rw[this,f2,na,<-ma,show 1074+54=9+1119 by omega,ma,<-na,se k]
 have ab:0<n:=aaN
 have lo:∀z,5*z<=512*k->z*2^(1069-kN r)<=D/n:=by
  intro z hz;rw[aaI ab]
  refine Eu (c:=kN r) ?_
  rw[M,hD];exact ip _ hz
 have hi:∀z,512*k<=5*z->2*(D/n)+(D%n !=0).toNat<=2*(z*2^(1069-kN r)):=by
  intro z hz
  have am:D<=z*2^(1069-kN r)*n:=by
   refine Eu (c:=kN r) ?_
   rw[M,hD];exact ip _ hz
  generalize z*2^(1069-kN r)=Z at*
  have ag:=H5 D n
  have h3:D/n<=Z:=by
   rw[<-QQ Z ab];exact Nat.div_le_div_right am
  by_cases V:D%n=0
  ·simp[V];omega
  ·have h4:D/n<Z:=by
    refine Nat.lt_of_le_of_ne h3 λe=>?_
    rw[e,se]at ag;omega
   have h5:(D%n !=0).toNat=1:=by simp[V]
   omega
 have sc:∀z:Nat,z*2^1064*2^1126=2*(z*2^(1069-kN r))*2^(kN r+1120):=by
  intro z
  have:2*(z*2^(1069-kN r))*2^(kN r+1120)=z*(2^1*2^(1069-kN r)*2^(kN r+1120)):=by
   simp only[Nat.mul_left_comm,se,Nat.pow_one]
  rw[this,<-ma,<-ma,na,<-ma]
  rw[show 1+(1069-kN r)+(kN r+1120)=1064+1126 by omega]
 have al:a*2^1064*2^1126<=(2*(D/n)+(D%n !=0).toNat)*2^(kN r+1120):=by
  rw[sc]
  have:=lo a aaN
  exact ip _ aaN
 have ak:(2*(D/n)+(D%n !=0).toNat)*2^(kN r+1120)<=(a+1)*2^1064*2^1126:=by
  rw[sc]
  exact ip _ (hi (a+1) aaN)
 have hb:a+1<2^53:=aaN
 exact CT al ak hb
theorem KN(D:1024*k<c+512) (L:c<1024*k+512):wu c 10=k:=by
 unfold wu;split<;>omega
theorem TN(c:Nat):wu (c*2^1064) 1074=wu c 10:=nJ c 10 1064
theorem IU(L:a*2^1064<=v) (D:v<=b*2^1064) (hb:b<2^40) (h3:1024*k<10*a+512) (h4:10*b<1024*k+512):QN v=k:=by
 have e:∀z:Nat,10*(z*2^1064)=10*z*2^1064:=λz=>by rw[na]
 have Z:=CT (N:=10*v*2^1126) (a:=10*a) (b:=10*b) (by rw[<-e];exact ip _ (AC _ L)) (by rw[<-e];exact ip _ (AC _ D)) aaN
 obtain⟨_,O,M⟩:=Z
 have V:=zC O 1074
 have R:=zC M 1074
 rw[TN]at V R
 have aa:a<=b:=Eu (kw L D)
 have r1:=KN (c:=10*a) (k:=k) aaN aaN
 have r2:=KN (c:=10*b) (k:=k) aaN aaN
 have:QN v=wu (rV (Rg (10*v*2^1126))) 1074:=rfl
 omega
theorem ON:30*2^1064<=rV sC:=by decide+kernel
theorem IV:rV sC<=31*2^1064:=by decide+kernel
theorem akb:1023897*2^1064<=rV vg:=by decide+kernel
theorem TO:DF.div (QI 9999) V8=some vg:=by decide+kernel
theorem aht:DF.div (QI 0) V8=some 0:=by decide+kernel
theorem Yr:QN (rV sC)=0:=by decide+kernel
def near(off k:Nat):Prop:=ltF off 0=false->gtF off vg=false->V9 off=true/\tk off=k
theorem IW(D:Fin v) (M:QN (rV v)=k):near v k:=by
 intro O L;rw[Yk,o7 D,OJ]at L;simp only[klt,po]at L
 exact⟨CV.2 ⟨rV v,o7 D,aaN⟩,by rw[OK (o7 D)];exact M⟩
theorem back(hk:k<=9999):∃s u d,DF.div (QI k) V8=some s/\DF.add s sC=some u/\DF.sub s sC=some d/\s<2^64/\u<2^64/\V9 s=true/\tk s=k/\near u k/\near d k/\d<2^64:=by
 by_cases h0:k=0
 ·subst h0
  have hd:DF.sub 0 sC=some (2^63+sC):=by decide+kernel
  have hu:DF.add 0 sC=some sC:=by decide+kernel
  refine⟨0,sC,2^63+sC,aht,hu,hd,aaN,by unfold sC;omega,CV.2 ⟨0,OI,aaN⟩,by rw[OK (a:=0) OI];exact aab,IW CU Yr,?_,by unfold sC;omega⟩
  intro L;rw[Yj,OH CU,OI]at L;simp only[klt,po]at L
  have:0<rV sC:=by decide+kernel
  omega
 ·obtain⟨s,L,M,R,h4⟩:=ac1 (k:=k) (a:=1024*k/10) aaN hk aaN aaN
  generalize ha:1024*k/10=a at*
  have aa:10*a<=1024*k:=aaN
  have ab:1024*k<=10*a+9:=aaN
  have D:rV s<=rV vg:=by
   by_cases h9:k=9999
   ·subst h9
    rw[TO]at L;cases L;exact ik _
   ·refine kw h4 (kw (ip _ aaN) akb)
  have Z:QN (rV s)=k:=IU R h4 aaN aaN aaN
  have O:rV sC<=rV s:=kw IV (kw (ip _ aaN) R)
  have V:=CT (N:=(rV s+rV sC)*2^1126) (a:=a+30) (b:=a+1+31) (ip _ (by rw[Nat.add_mul];exact Nat.add_le_add R ON)) (ip _ (by rw[Nat.add_mul (a+1)];exact Nat.add_le_add h4 IV)) aaN
  have hD:=CT (N:=(rV s-rV sC)*2^1126) (a:=a-31) (b:=a+1-30) (ip _ (by rw[Nat.sub_mul];exact OM R IV)) (ip _ (by rw[Nat.sub_mul];exact OM h4 ON)) aaN
  refine⟨s,_,_,L,add_pos M CU,sub_pos M CU O,?_,?_,CV.2 ⟨rV s,o7 M,D⟩,by rw[OK (o7 M)];exact Z,?_,?_,?_⟩
  ·unfold Fin at M;omega
  ·have:=V.1;unfold Fin at this;omega
  ·exact IW V.1 (IU V.2.1 V.2.2 aaN aaN aaN)
  ·exact IW hD.1 (IU hD.2.1 hD.2.2 aaN aaN aaN)
  ·have:=hD.1;unfold Fin at this;omega
abbrev Fl (x:Nat):AV:=.float .f64 x
theorem ahu:d7 .geq (.float .f64 x) (.float .f64 y)=some (.bool (RC x y)):=rfl
theorem ahv:d7 .leq (.float .f64 x) (.float .f64 y)=some (.bool (QM x y)):=rfl
theorem ahw:d7 .gtr (.float .f64 x) (.float .f64 y)=some (.bool (gtF x y)):=rfl
theorem ahx:d7 .lss (.float .f64 x) (.float .f64 y)=some (.bool (ltF x y)):=rfl
theorem ahy:d7 .eql (.float .f64 x) (.float .f64 y)=some (.bool (eqF x y)):=rfl
theorem ahz:d7 .neq (.float .f64 x) (.float .f64 y)=some (.bool (!eqF x y)):=rfl
theorem ahA:d7 .mul (.float .f64 x) (.float .f64 y)=Mx .f64 (DF.mul x y):=rfl
theorem ahB:d7 .sub (.float .f64 x) (.float .f64 y)=Mx .f64 (DF.sub x y):=rfl
theorem ahC:d7 .add (.float .f64 x) (.float .f64 y)=Mx .f64 (DF.add x y):=rfl
theorem ahD:d7 .quo (.float .f64 x) (.float .f64 y)=Mx .f64 (DF.div x y):=rfl
theorem ahF:ZU .neg (.float .f64 x)=some (.float .f64 (Op.negFloat .f64 x)):=rfl
theorem Ys(r:Nat):Mx .f64 (some r)=some (.float .f64 r):=rfl
theorem n_l:d7 op .fc (.float .f64 y)=xG op:=by cases op<;>rfl
theorem n_r:d7 op (.float .f64 y) .fc=xG op:=by cases op<;>rfl
theorem n_b:d7 op .fc .fc=xG op:=by cases op<;>rfl
theorem ahG:xG .neq=some (.bool true):=rfl
theorem ahH:xG .eql=some (.bool false):=rfl
theorem ahI:xG .sub=some .fc:=rfl
theorem ahJ:xG .leq=some (.bool false):=rfl
theorem ahK:xG .lss=some (.bool false):=rfl
theorem ahL:xG .geq=some (.bool false):=rfl
theorem ahM:xG .gtr=some (.bool false):=rfl
def NAN:=dC @n_l (dC @n_r (dC @n_b (dC ahG (dC ahH (dC ahI (dC ahJ (dC ahK (dC ahL ahM))))))))
def FLW:=dC @Ys (dC @ahu (dC @ahv (dC @ahw (dC @ahx (dC @ahy (dC @ahz (dC @ahA (dC @ahB (dC @ahC (dC @ahD @ahF))))))))))
def QS(s:Nat):AV:=.de [I (if V9 s then(tk s:Int)else 0),B (V9 s)]
def Ev.Spec(C:aQ) (f:Nat):Prop:=∀s:Nat,s<2^64->C.c f [Fl s] (QS s) none
end
section
variable{P:Program} (hm:P.follows .mixedOrders=true) {f:Nat}
include hm
theorem Ev.ok(hc:bF P f=some xm):Ev.Spec (Pure P) f:=by
 intro s hs
 have O:V9 s=(RC s 0&&QM s 4652006429231887155):=rfl
 obtain⟨b1,L⟩:∃b,RC s 0=b:=⟨_,rfl⟩
 obtain⟨b2,M⟩:∃b,QM s 4652006429231887155=b:=⟨_,rfl⟩
 rw[L,M]at O
 have R:=λh=>QO (s:=s) hs h
 clear hs;refine aq hm hc [] rfl ?_;try simp only[I,B,D,RX,↓KW,seval,xm,Z.H,FLW]
 cases b1<;>cases b2
 ·try simp only[I,B,D,RX,↓KW,seval,FLW,L,M]
  rw[QS,O];rfl
 ·try simp only[I,B,D,RX,↓KW,seval,FLW,L,M]
  rw[QS,O];rfl
 ·try simp only[I,B,D,RX,↓KW,seval,FLW,L,M]
  rw[QS,O];rfl
 ·obtain⟨x,y,e1,e2,e3⟩:=R O
  have V:DF.mul 4621819117588971520 s=some x:=e1
  try simp only[I,B,D,RX,↓KW,seval,FLW,L,M,V,e2,e3]
  rw[QS,O];rfl
end
section
open Z
def dA:List AV:=(⟨_,by conv=>lhs;cbv⟩:bT (Oz [(0,7),(1,2),(0,10),(1,2),(0,10),(1,2),(0,10),(1,2),(0,10),(1,2),(0,10),(1,2),(0,10),(1,2),(0,10),(1,2),(0,6),(1,1),(0,16),(2,1)])).1
def B6(D:Nat):bE:=(⟨_,by conv=>lhs;cbv⟩:bT (cH 4 [.tmp 2] [] [] 0xa0800e200d81a20 [] [.ja] [.uh (.func D) [] [.t 1]])).1
end
structure Sh where
 aA:List Int
 time:List Int
 iy:List Int
 dH:List Int
 entry:Bool
 deriving Inhabited,DecidableEq
def Sh.cells(s:Sh):List AV:=s.aA.map I++(s.time.map I++(s.iy.map I++(s.dH.map I++[B s.entry])))
section
variable (s:Sh) (p:Nat)
structure Sh.Ok (s:Sh):Prop where
 aA:s.aA.length=8
 time:s.time.length=8
 iy:s.iy.length=8
 dH:s.dH.length=8
def Sh.c:Int:=s.aA.getD p 0
def Sh.t:Int:=s.time.getD p 0
def Sh.f:Int:=s.iy.getD p 0
def Sh.ft:Int:=s.dH.getD p 0
end
section
variable (C:aQ) {p:Nat} {s:Sh} {t:Tb} (f:Nat)
theorem Sh.len(h:s.Ok):s.cells.length=33:=by simp[Sh.cells,h.aA,h.time,h.iy,h.dH]
theorem Sh.at(h:s.Ok) (L:p<8):s.cells[p]? =some (I (s.c p))/\s.cells[8+p]? =some (I (s.t p))/\s.cells[16+p]? =some (I (s.f p))/\s.cells[24+p]? =some (I (s.ft p)):=by
 have D:=h.aA;have M:=h.time;have O:=h.iy;have h4:=h.dH
 refine⟨?_,?_,?_,?_⟩
 ·simp[Sh.cells,Sh.c,D,L,ut]
 ·simp[Sh.cells,Sh.t,D,M,ut,L,show ¬(8+p<8)by omega]
 ·simp[Sh.cells,Sh.f,D,M,O,ut,L,show ¬(16+p<8)by omega,show ¬(16+p-8<8)by omega,show 16+p-8-8=p by omega]
 ·simp[Sh.cells,Sh.ft,D,M,O,h4,ut,L,show ¬(24+p<8)by omega,show ¬(24+p-8<8)by omega,show ¬(24+p-8-8<8)by omega,show 24+p-8-8-8=p by omega]
theorem Sh.whole(h:s.Ok):aB s.cells 0 (some 33)=some (.agg s.cells):=by
 have:=Sh.len h
 simp[aB,this];rw[<-this,kf]
structure alQ (t:Tb) (a b:Sh):Prop where
 t:t.Ln
 a:a.Ok
 b:b.Ok
theorem Tb.Ln.vh(h:t.Ln) {k:Nat} (hk:k<8):t.phases[k]? =some (aV t k):=by
 have:k<t.phases.length:=by rw[h.phases];exact hk
 simp[aV,this]
def gm(t:Tb) (p:Nat):Int:=t.conflict.getD p 0
theorem Tb.Ln.Na(h:t.Ln) (D:p<8):t.cells[105+p]? =some (I (gm t p)):=by
 refine h.oW ?_
 have:p<t.conflict.length:=by rw[h.conflict];exact D
 simp[gm,this]
def bM(n:Int):Int:=IntKind.i64.wrap (gN n 0 9999+1)
def vk.Spec:Prop:=∀s:Int,∃g,C.c f [I s] (.fn (.func g) [] [.ref [I s]]) none/\C.i (.fn (.func g) [] [.ref [I s]]) (((List.range 8).filter λp=>tb s p).map λ(p:Nat)=>[I p])
def iq.Spec:Prop:=∀s:Int,C.i (.fn (.func f) [] [.ref [I s]]) (((List.range 8).filter λp=>tb s p).map λ(p:Nat)=>[I p])
end
section
variable{P:Program} (hm:P.follows .mixedOrders=true) {f:Nat}
include hm
theorem setEach.ok{D:Nat} (L:bF P f=some (B6 D)) (M:iq.Spec (Pure P) D):vk.Spec (Pure P) f:=by
 intro s;refine⟨D,?_,M s⟩;refine aq hm L [] rfl ?_;try simp only[I,RX,↓KW,Nat.reduceBEq,Nat.reduceAdd,B6,Z.H]
 simp
end
end Go.Eng
