/- The engine and the library,part 14 of 18: what the proofs of this seat need of them. -/
import Derived.Test.YtkckiembbiiliaaGreatPk13
set_option linter.unnecessarySimpa false
set_option linter.unusedSimpArgs false
set_option linter.unusedVariables false
set_option linter.defProp false
set_option maxRecDepth 10000
set_option maxHeartbeats 4000000
namespace Go.Eng
open Go
def cR:Tb:=⟨List.replicate 8 default,none,List.replicate 8 0,none,none,none,0,0,0,0,0,List.replicate 8 0,0,0⟩
theorem EI:cq=cR.cells:=rfl
def A0(l:Option (List Int)):Nat->List Ph
 |0=>List.replicate 8 default
 |k+1=>(A0 l k).set k (jj l (10+12*k))
def tr:Nat->List Int
 |0=>List.replicate 8 0
 |k+1=>(tr k).set k 1
theorem dM(l:Option (List Int)):∀k,(A0 l k).length=8
 |0=>by simp[A0]
 |k+1=>by simp[A0,dM l k]
theorem jO:∀k,(tr k).length=8
 |0=>by simp[tr]
 |k+1=>by simp[tr,jO k]
def zP(c:List Int) (i:Nat):Int:=c.getD i 0
def oJ(t:Tb) (l:Option (List Int)) (p q:Nat):Bool:=!fy t p q&&bG l (110+8*p+q) 9 !=1
def ga(t:Tb) (l:Option (List Int)) (p q:Nat) (c:List Int):List Int:=
 if oJ t l p q then
  let c1:=c.set p (iO (zP c p) q)
  c1.set q (iO (zP c1 q) p)
 else c
def jk(t:Tb) (l:Option (List Int)) (p:Nat):Nat->List Int->List Int
 |0,c=>c
 |q+1,c=>ga t l p q (jk t l p q c)
def gb(t:Tb) (l:Option (List Int)):Nat->List Int
 |0=>List.replicate 8 0
 |p+1=>jk t l p p (gb t l p)
theorem A3{t:Tb} {l:Option (List Int)} {p q:Nat} {c:List Int}:(ga t l p q c).length=c.length:=by
 unfold ga;split<;>simp
theorem qE{t:Tb} {l:Option (List Int)} {p:Nat} {c:List Int}:∀q,(jk t l p q c).length=c.length
 |0=>rfl
 |q+1=>by rw[jk,A3,qE q]
theorem cY{t:Tb} {l:Option (List Int)}:∀p,(gb t l p).length=8
 |0=>by simp[gb]
 |p+1=>by rw[gb,qE,cY p]
def jX(l:Option (List Int)) (n d:Int) (j:Nat):List gQ:=(List.range j).map fun(k:Nat)=>ir l (180+8*(d-k)) n
def er(t:Tb) (l:Option (List Int)) (n r:Int) (j:Nat):List Rl:=(List.range j).map fun(k:Nat)=>nC t l (260+16*(r-k)) n
def zQ(l:Option (List Int)) (n i:Int):Bs:=
 let x:=oC .i64 (bG l (330+2*i) 256) (bL (bL (1*2^min (IntKind.u64.wrap n).toNat 64)-1))
 ⟨if x>1 then x else 1,bL (1+bG l (331+2*i) 30)⟩
def lC(l:Option (List Int)) (n b:Int) (j:Nat):List Bs:=(List.range j).map fun(k:Nat)=>zQ l n (b-k)
def jY(t:Tb):Nat->Int
 |0=>0
 |k+1=>if lp t k>jY t k then lp t k else jY t k
def bK(l:Option (List Int)):List Gr×Nat:=bn l (cX l) (cX l)
def bk (l:Option (List Int)):Tb :=
  let n:=(bK l).2
  let t1:Tb:={ cR with groups:=some (bK l).1 }
  let q:=bG l 174 (n + 1)
  { phases:=A0 l n
    groups:=some (bK l).1
    conflict:=gb t1 l n
    aI:=bw (jX l n (bG l 175 9) (bG l 175 9).toNat)
    aZ:=bw (er t1 l n ((bG l 176 4).tmod 3) ((bG l 176 4).tmod 3).toNat)
    bS:=bw (lC l n (bG l 177 3) (bG l 177 3).toNat)
    extend:=bG l 178 12
    dB:=bG l 179 40
    start:=bG l 180 8
    revert:=bG l 181 8
    least:=bG l 182 12
    bA:=if q < n then (tr n).set q.toNat 2 else tr n
    d9:=0
    share:=bG l 183 4 }
def aU(l:Option (List Int)):Tb:=
 {bk l with d9:=if(er {cR with groups:=some (bK l).1} l (bK l).2 ((bG l 176 4).tmod 3) ((bG l 176 4).tmod 3).toNat)=[]then 0 else jY (bk l) (bK l).2}
def Table.Spec(C:bt) (f:Nat):Prop:=∀l:Option (List Int),C.c f [aJ aG l] (.agg (aU l).cells) none
def jr(l:Option (List Int)) (k:Nat):Tb:={cR with groups:=some (bK l).1,phases:=A0 l k,bA:=tr k}
def iw(l:Option (List Int)) (c:List Int):Tb:={jr l (bK l).2 with conflict:=c}
def qF(l:Option (List Int)):Tb:={iw l (gb {cR with groups:=some (bK l).1} l (bK l).2)with bA:=(bk l).bA}
def we(l:Option (List Int)) (d:List gQ):Tb:={qF l with aI:=bw d}
def uY(l:Option (List Int)) (r:List Rl):Tb:={qF l with aI:=(bk l).aI,aZ:=bw r}
def wg(l:Option (List Int)) (b:List Bs):Tb:={qF l with aI:=(bk l).aI,aZ:=(bk l).aZ,bS:=bw b}
def yo(l:Option (List Int)) (w:Int):Tb:={bk l with d9:=w}
theorem It(p m:Nat):(dm p m).length=m:=by simp[dm]
theorem oK(l:Option (List Int)) (G:Nat):∀g,∀x∈(bn l G g).1,(x.a.getD []).length<=8/\(x.b.getD []).length<=8
 |0,x,hx=>by simp[bn]at hx
 |g+1,x,hx=>by
  simp only[bn,List.mem_append,List.mem_singleton]at hx
  rcases hx with hx|rfl
  ·exact oK l G g x hx
  ·simp only[cm,It,bh,bN]
   omega
theorem uZ(l:Option (List Int)):(bK l).2<=8:=rC _ _ _
theorem vQ(l:Option (List Int)) (G:Nat):∀g,1<=g->g<=G->G<=3->1<=(bn l G g).2
 |0,h,_,_=>by omega
 |1,_,h1,h3=>by
  simp only[bn,bh,bN,cnt]
  split<;>split<;>simp_all<;>omega
 |g+2,_,h1,h3=>by
  have:=vQ l G (g+1) (by omega) (by omega) h3
  rw[bn];simp only;omega
theorem oL(l:Option (List Int)):1<=cX l/\cX l<=3:=by
 have:=aL l 0 (n:=3) (by decide) (by decide)
 unfold cX;omega
theorem yp(l:Option (List Int)):1<=(bK l).2:=vQ l _ _ (oL l).1 (Nat.le_refl _) (oL l).2
theorem yq{l:Option (List Int)} {t:Tb} (hg:t.groups=some (bK l).1) (h1:t.phases.length=8) (h2:t.conflict.length=8) (h3:t.bA.length=8) (h4:(t.aI.getD []).length<=1048576) (h5:(t.aZ.getD []).length<=1048576) (h6:(t.bS.getD []).length<=1048576):t.Ok:=by
 refine⟨h1,h2,h3,?_,?_,h4,h5,h6⟩
 ·rw[hg];simp only[Option.getD_some,bK,oI];have:=oL l;omega
 ·rw[hg];simp only[Option.getD_some]
  intro g hg'
  have:=oK _ _ _ g hg'
  omega
theorem DH(l:Option (List Int)) (n d:Int) (j:Nat):jX l n d (j+1)=jX l n d j++[ir l (180+8*(d-j)) n]:=by simp[jX,List.range_succ]
theorem vc(l:Option (List Int)) (n d:Int) (j:Nat):(jX l n d j).length=j:=by simp[jX]
theorem Cv(t:Tb) (l:Option (List Int)) (n d:Int) (j:Nat):er t l n d (j+1)=er t l n d j++[nC t l (260+16*(d-j)) n]:=by simp[er,List.range_succ]
theorem tu(t:Tb) (l:Option (List Int)) (n d:Int) (j:Nat):(er t l n d j).length=j:=by simp[er]
theorem DI(l:Option (List Int)) (n d:Int) (j:Nat):lC l n d (j+1)=lC l n d j++[zQ l n (d-j)]:=by simp[lC,List.range_succ]
theorem rD(l:Option (List Int)) (n d:Int) (j:Nat):(lC l n d j).length=j:=by simp[lC]
theorem gQ.len(d:gQ):d.cells.length=7:=rfl
theorem Bs.len(d:Bs):d.cells.length=2:=rfl
theorem cZ(l:Option (List Int)):(bk l).bA.length=8:=by
 unfold bk;simp only;split<;>simp[jO]
theorem kI(l:Option (List Int)):((bk l).aI.getD []).length<=1048576:=by
 have:=aL l 175 (n:=9) (by decide) (by decide)
 simp only[bk,cm,vc];omega
theorem jP(l:Option (List Int)):((bk l).aZ.getD []).length<=1048576:=by
 have h:=Int.tmod_lt_of_pos (bG l 176 4) (b:=3) (by decide)
 simp only[bk,cm,tu];omega
theorem A4(l:Option (List Int)):((bk l).bS.getD []).length<=1048576:=by
 have:=aL l 177 (n:=3) (by decide) (by decide)
 simp only[bk,cm,rD];omega
theorem oM(l:Option (List Int)):(aU l).Ok:=yq rfl (dM l _) (cY _) (cZ l) (kI l) (jP l) (A4 l)
section
variable{P:Program} (hm:P.follows .mixedOrders=true) {f:Nat}
include hm
theorem Table.ok{fR fP fB fF fW fD eD fr eR eB fw:Nat} (hc:dY P f=some (mj fR fP fB fF fW fD eD fr eR eB fw)) (hR:rows.Spec (Pure P) fR) (hP:phase.Spec (Pure P) fP) (hB:beside.Spec (Pure P) fB) (hF:from.Spec (Pure P) fF) (hW:rm.Spec (Pure P) fW)
  (hD:qD.Spec (Pure P) fD) (hr:Is.Spec (Pure P) fr) (hw:wait.Spec (Pure P) fw):Table.Spec (Pure P) f:=by
 intro l
 refine aH hm hc (by show 1<=186;decide) (ay (keep:=[0,3,8,9,12,15,18]) (i:=0) ?_)
 try simp only[I,B,D,RY,↓KW,seval,mj,Z.H,EI]
 have ok0:cR.Ok:=⟨rfl,rfl,rfl,by simp[cR],by simp[cR],by simp[cR],by simp[cR],by simp[cR]⟩
 refine⟨rfl,bg (hR cR l ok0 rfl) ?_⟩
 have hN:=uZ l
 have hN1:=yp l
 try simp only[I,B,D,RY,↓KW,seval]
 change aw _ _ _ (⟨[(5,_),(4,.dat (I ((bK l).2:Nat)) none),(14,_),(13,_),(3,_),(2,_),(0,_)],[(5,⟨(jr l 0).cells,[]⟩),_],_,_⟩:S)
 generalize hNe:(bK l).2=N at*
 refine iu (.exit 0) (fun _:Unit=>(⟨[(4,.dat (I N) none),(3,.ptr 5 0),(0,.dat (aJ aG l) none),(2,.ptr 4 0)],[(5,⟨(jr l N).cells,[]⟩),(4,⟨cR.cells,[]⟩)],[],400⟩:S)) (fun _=>True) (fun _=>rfl) ?_ ?_
 ·refine aP (fun k:Nat=>(⟨[(5,.dat (I k) none),(4,.dat (I N) none),(3,.ptr 5 0),(0,.dat (aJ aG l) none),(2,.ptr 4 0)],[(5,⟨(jr l k).cells,[]⟩),(4,⟨cR.cells,[]⟩)],[],400⟩:S)) (fun k=>N-k) (fun k=>k<=N) ?_ 0 (by omega) ?_
  ·intro k hk A back
   have hw3:=aN (k:=k) (by omega)
   have hw2:IntKind.i64.wrap (10+IntKind.i64.wrap (12*(k:Int)))=10+12*k:=by rw[bq (n:=12*(k:Int)) (by omega) (by omega),bq (by omega) (by omega)]
   have ln1:(jr l k).Ln:=⟨dM l k,rfl,jO k⟩
   have ln2:({jr l k with phases:=(jr l k).phases.set k (jj l (10+12*k))}:Tb).Ln:=⟨by simp[dM,jr],rfl,jO k⟩
   try simp only[I,B,D,RY,↓KW,seval]
   refine ax (fun h=>?_) (fun h=>?_)<;>try simp only[I,B,D,RY,↓KW,seval,h]
   ·have hkN:k<N:=by have:=of_decide_eq_true h;omega
    have hlt:k<8:=by omega
    have hs1:=ln1.zM hlt (jj l (10+12*k))
    have hs2:=ln2.uX hlt 1
    have hs3:({({jr l k with phases:=(jr l k).phases.set k (jj l (10+12*k))}:Tb)with bA:=({jr l k with phases:=(jr l k).phases.set k (jj l (10+12*k))}:Tb).bA.set k 1}:Tb)=jr l (k+1):=rfl
    rw[hs3]at hs2
    have hl1:=ln1.len
    have hl2:=ln2.len
    generalize({jr l k with phases:=(jr l k).phases.set k (jj l (10+12*k))}:Tb)=T at*
    refine aj (hP _ _) ?_;try simp only[I,B,D,RY,↓KW,seval,hw2,hs1]
    exact⟨by omega,Ph.len _,by omega,by omega,by omega,by refine back (k+1) _ (by omega) (by omega) (ai (by decide) ?_ ?_ ?_ ?_)<;>simp[LX,I,B,D,hs2,hw3]⟩
   ·have:k=N:=by have:=of_decide_eq_false h;omega
    subst this;refine cu () trivial ?_
    refine ai (by decide) ?_ ?_ ?_ ?_<;>simp[LX,I,B,D]
  ·refine ai (by decide) ?_ ?_ ?_ ?_<;>simp[LX,I,B,D]
 ·intro _ _
  try simp only[I,B,D,RY,↓KW,seval]
  generalize ht1:({cR with groups:=some (bK l).1}:Tb)=t1 at*
  have hA:jr l N=iw l (gb t1 l 0):=by subst hNe;rfl
  refine iu (.exit 2) (fun _:Unit=>(⟨[(4,.dat (I N) none),(3,.ptr 5 0),(0,.dat (aJ aG l) none),(2,.ptr 4 0)],[(5,⟨(iw l (gb t1 l N)).cells,[]⟩),(4,⟨cR.cells,[]⟩)],[],400⟩:S)) (fun _=>True) (fun _=>rfl) ?_ ?_
  ·refine aP (fun p:Nat=>(⟨[(6,.dat (I p) none),(4,.dat (I N) none),(3,.ptr 5 0),(0,.dat (aJ aG l) none),(2,.ptr 4 0)],[(5,⟨(iw l (gb t1 l p)).cells,[]⟩),(4,⟨cR.cells,[]⟩)],[],400⟩:S)) (fun p=>N-p) (fun p=>p<=N) ?_ 0 (by omega) ?_
   ·intro p hp A back
    have hw3:=aN (k:=p) (by omega)
    try simp only[I,B,D,RY,↓KW,seval]
    refine ax (fun h=>?_) (fun h=>?_)<;>try simp only[I,B,D,RY,↓KW,seval,h]
    ·have hpN:p<N:=by have:=of_decide_eq_true h;omega
     have hlt:p<8:=by omega
     have hcl:gb t1 l (p+1)=jk t1 l p p (gb t1 l p):=rfl
     have hcl8:=cY (t:=t1) (l:=l) p
     generalize gb t1 l p=c0 at*
     refine aP (fun q:Nat=>(⟨[(7,.dat (I q) none),(6,.dat (I p) none),(4,.dat (I N) none),(3,.ptr 5 0),(0,.dat (aJ aG l) none),(2,.ptr 4 0)],[(5,⟨(iw l (jk t1 l p q c0)).cells,[]⟩),(4,⟨cR.cells,[]⟩)],[],400⟩:S)) (fun q=>p-q) (fun q=>q<=p) ?_ 0 (by omega) ?_
     ·intro q hq A2 back2
      have hw4:=aN (k:=q) (by omega)
      have hst:jk t1 l p (q+1) c0=ga t1 l p q (jk t1 l p q c0):=rfl
      have hc8:(jk t1 l p q c0).length=8:=by rw[qE,hcl8]
      generalize hce:jk t1 l p q c0=c at*
      have okB:(iw l c).Ok:=yq rfl (dM l _) hc8 (jO _) (by simp[iw,jr,cR]) (by simp[iw,jr,cR]) (by simp[iw,jr,cR])
      have hwh:=okB.ln.whole
      have hln:=okB.ln.len
      have hbs:fy (iw l c) p q=fy t1 p q:=by subst ht1;rfl
      have hix:IntKind.i64.wrap (IntKind.i64.wrap (110+IntKind.i64.wrap (8*(p:Int)))+q)=110+8*p+q:=by
       rw[bq (n:=8*(p:Int)) (by omega) (by omega),bq (n:=110+8*(p:Int)) (by omega) (by omega),bq (by omega) (by omega)]
      try simp only[I,B,D,RY,↓KW,seval]
      refine ax (fun h2=>?_) (fun h2=>?_)<;>try simp only[I,B,D,RY,↓KW,seval,hwh,h2]
      ·have hq8:q<p:=by have:=of_decide_eq_true h2;omega
       refine aj (hB _ _ _ okB) ?_;try simp only[I,B,D,RY,↓KW,seval,hbs]
       repeat' (first|(refine aj (hF _ _ _ (by decide)) ?_;try simp only[I,B,D,RY,↓KW,seval,hix])|(((first|refine bz ?_ ?_|refine ax ?_ ?_|refine cv ?_ ?_)<;>intro h)<;>try simp only[I,B,D,RY,↓KW,seval,hix,h]))
       ·have hb:fy t1 p q=false:=by simp_all
        have hcc:oJ t1 l p q=true:=by simp only[oJ,hb];simpa using h
        have hcs:ga t1 l p q c=(c.set p (iO (zP c p) q)).set q (iO (zP (c.set p (iO (zP c p) q)) q) p):=by simp only[ga,hcc,if_true]
        have g1:c[p]? =some (zP c p):=by simp[zP,show p<c.length by omega]
        have g2:(c.set p (iO (zP c p) q))[q]? =some (zP (c.set p (iO (zP c p) q)) q):=by simp[zP,show q<c.length by omega]
        have ln2:(iw l (c.set p (iO (zP c p) q))).Ln:=⟨dM l _,by simp[iw,hc8],jO _⟩
        have l1:=okB.ln.qq (t:=iw l c) g1
        have l2:=ln2.qq g2
        have hs1:setCells (iw l c).cells (105+p) [I (iO (zP c p) q)]=(iw l (c.set p (iO (zP c p) q))).cells:=okB.ln.oH hlt _
        have hs2:setCells (iw l (c.set p (iO (zP c p) q))).cells (105+q) [I (iO (zP (c.set p (iO (zP c p) q)) q) p)]=(iw l (ga t1 l p q c)).cells:=by rw[hcs];exact ln2.oH (by omega) _
        have hln2:=ln2.len
        rw[<-hst]at hs2;simp only[I]at hs1 hs2;generalize zP (c.set p (iO (zP c p) q)) q=v2 at*;generalize zP c p=v1 at*;generalize c.set p (iO v1 q)=c2 at*
        refine⟨by omega,?_⟩
        try simp only[I,B,D,RY,↓KW,seval,l1]
        refine aj (hW _ _) ?_;try simp only[I,B,D,RY,↓KW,seval,hs1]
        refine⟨by omega,by omega,by omega,?_⟩
        try simp only[I,B,D,RY,↓KW,seval,l2,hs1]
        refine aj (hW _ _) ?_;try simp only[I,B,D,RY,↓KW,seval,hs1,hs2]
        exact⟨by omega,by omega,by refine back2 (q+1) _ (by omega) (by omega) (ai (by decide) ?_ ?_ ?_ ?_)<;>simp[LX,I,B,D,hw4]⟩
       ·have hcs:ga t1 l p q c=c:=by
         have hcc:oJ t1 l p q=false:=by simp only[oJ];simp_all
         simp[ga,hcc]
        refine back2 (q+1) _ (by omega) (by omega) (ai (by decide) ?_ ?_ ?_ ?_)<;>simp[LX,I,B,D,hst,hcs,hw4]
       ·have hcs:ga t1 l p q c=c:=by
         have hcc:oJ t1 l p q=false:=by simp only[oJ];simp_all
         simp[ga,hcc]
        refine back2 (q+1) _ (by omega) (by omega) (ai (by decide) ?_ ?_ ?_ ?_)<;>simp[LX,I,B,D,hst,hcs,hw4]
      ·have:q=p:=by have:=of_decide_eq_false h2;omega
       subst this
       refine back (q+1) _ (by omega) (by omega) (ai (by decide) ?_ ?_ ?_ ?_)<;>simp[LX,I,B,D,hcl,hce,hw3]
     ·refine ai (by decide) ?_ ?_ ?_ ?_<;>simp[LX,I,B,D,jk]
    ·have:p=N:=by have:=of_decide_eq_false h;omega
     subst this;refine cu () trivial ?_
     refine ai (by decide) ?_ ?_ ?_ ?_<;>simp[LX,I,B,D]
   ·refine ai (by decide) ?_ ?_ ?_ ?_<;>simp[LX,I,B,D,hA]
  ·intro _ _
   have hn1:IntKind.i64.wrap ((N:Int)+1)=N+1:=aN (by omega)
   have hq:=aL l 174 (n:=(N:Int)+1) (by omega) (by omega)
   have okB:(iw l (gb t1 l N)).Ok:=yq rfl (dM l _) (cY _) (jO _) (by simp[iw,jr,cR]) (by simp[iw,jr,cR]) (by simp[iw,jr,cR])
   have hln:=okB.ln.len
   have hpre:(bk l).bA=if bG l 174 (N+1)<N then(tr N).set (bG l 174 (N+1)).toNat 2 else tr N:=by subst hNe;rfl
   have hC:qF l={iw l (gb t1 l N)with bA:=(bk l).bA}:=by subst hNe;subst ht1;rfl
   have hfB:(iw l (gb t1 l N)).bA=tr N:=by subst hNe;rfl
   rw[HF]
   refine iu .normal (fun _:Unit=>(⟨[(4,.dat (I N) none),(3,.ptr 5 0),(0,.dat (aJ aG l) none),(2,.ptr 4 0)],[(5,⟨(qF l).cells,[]⟩),(4,⟨cR.cells,[]⟩)],[],400⟩:S)) (fun _=>True) (fun _=>rfl) ?_ ?_
   ·try simp only[I,B,D,RY,↓KW,seval]
    refine aj (hF _ _ _ (by omega)) ?_
    rw[hn1];generalize bG l 174 (N+1)=q at*;try simp only[I,B,D,RY,↓KW,seval]
    refine ax (fun h=>?_) (fun h=>?_)<;>try simp only[I,B,D,RY,↓KW,seval,h]
    ·have hqN:q<N:=of_decide_eq_true h
     rw[if_pos hqN]at hpre
     have hs1:=okB.ln.uX (i:=q.toNat) (by omega) 2
     have e:({iw l (gb t1 l N)with bA:=(iw l (gb t1 l N)).bA.set q.toNat 2}:Tb)=qF l:=by rw[hC,hfB,hpre]
     rw[e]at hs1;simp only[I]at hs1
     refine⟨by omega,by omega,?_⟩
     refine cu () trivial ?_
     refine ai (by decide) ?_ ?_ ?_ ?_<;>simp[LX,I,B,D,hs1]
    ·have hqN:¬q<N:=of_decide_eq_false h
     rw[if_neg hqN]at hpre
     have e:iw l (gb t1 l N)=qF l:=by rw[hC,hpre,<-hfB]
     refine cu () trivial ?_
     refine ai (by decide) ?_ ?_ ?_ ?_<;>simp[LX,I,B,D,e]
   ·intro _ _
    have hd:=aL l 175 (n:=9) (by decide) (by decide)
    have hD0:qF l=we l []:=rfl
    have hDe:we l (jX l N (bG l 175 9) (bG l 175 9).toNat)=uY l []:=by subst hNe;rfl
    try simp only[I,B,D,RY,↓KW,seval]
    refine aj (hF _ _ _ (by decide)) ?_
    generalize bG l 175 9=d at*;try simp only[I,B,D,RY,↓KW,seval]
    refine iu (.exit 6) (fun _:Unit=>(⟨[(4,.dat (I N) none),(3,.ptr 5 0),(0,.dat (aJ aG l) none),(2,.ptr 4 0)],[(5,⟨(we l (jX l N d d.toNat)).cells,[]⟩),(4,⟨cR.cells,[]⟩)],[],400⟩:S)) (fun _=>True) (fun _=>rfl) ?_ ?_
    ·refine aP (fun j:Nat=>(⟨[(9,.dat (I (d-j)) none),(4,.dat (I N) none),(3,.ptr 5 0),(0,.dat (aJ aG l) none),(2,.ptr 4 0)],[(5,⟨(we l (jX l N d j)).cells,if jX l N d j=[]then[]else[(113,0)]⟩),(4,⟨cR.cells,[]⟩)],bW (jX l N d j) 0 eD,400⟩:S)) (fun j=>d.toNat-j) (fun j=>j<=d.toNat) ?_ 0 (by omega) ?_
     ·intro j hj A back
      have hw3:IntKind.i64.wrap (d-j-1)=d-((j+1:Nat):Int):=by rw[bq (by omega) (by omega)];omega
      have hix:IntKind.i64.wrap (180+IntKind.i64.wrap (8*(d-(j:Int))))=180+8*(d-j):=by rw[bq (n:=8*(d-(j:Int))) (by omega) (by omega),bq (by omega) (by omega)]
      have hnext:=DH l N d j
      have hlen:(jX l N d j).length=j:=vc ..
      generalize hL:jX l N d j=L at*;generalize hx:ir l (180+8*(d-j)) N=x at*
      have yU:(we l L).Ok:=yq rfl (dM l _) (cY _) (cZ l) (by simp[we,qF,iw,jr,cR,cm,kI];try omega) (by simp[we,qF,iw,jr,cR,cm,jP];try omega) (by simp[we,qF,iw,jr,cR,cm];try omega)
      have ln:=yU.ln
      have hln:=ln.len
      have hwh:=ln.whole
      have hat:=ln.EF
      have hset:setCells (we l L).cells 113 [aJ gQ.cells (some (L++[x]))]=(we l (L++[x])).cells:=by rw[ln.yj (some (L++[x]))];simp[we,bw]
      have hatr:(we l L).aI=bw L:=rfl
      rw[hatr]at hat;simp only[aO,List.map_append,List.map_cons,List.map_nil]at hset
      cases L with
      |nil=>
       simp only[List.map_nil,List.nil_append,bw,if_true,aR]at hset hat hnext;try simp only[I,B,D,RY,↓KW,seval,bw,bW]
       refine ax (fun h=>?_) (fun h=>?_)<;>try simp only[I,B,D,RY,↓KW,seval,hat,hwh,h]
       ·have hj1:(0:Int)<d-j:=of_decide_eq_true h
        refine aj (hD _ _ _ (by omega)) ?_
        try simp only[I,B,D,RY,↓KW,seval,hix,hx,gQ.len]
        try simp only[I,B,D,RY,↓KW,seval,hset]
        refine⟨by omega,?_⟩
        refine back (j+1) _ (by omega) (by omega) (ai (by decide) ?_ ?_ ?_ ?_)<;>simp[LX,I,B,D,hnext,hw3,bw]
       ·have hj1:¬(0:Int)<d-j:=of_decide_eq_false h
        have:j=d.toNat:=by omega
        rw[<-this,hL];refine cu () trivial ?_
        refine ai (by decide) ?_ ?_ ?_ ?_<;>simp[LX,I,B,D,bw]
      |cons y ys=>
       simp only[bw,reduceCtorEq,if_false,aO]at hset hat hnext;try simp only[I,B,D,RY,↓KW,seval,bw,bW]
       refine ax (fun h=>?_) (fun h=>?_)<;>try simp only[I,B,D,RY,↓KW,seval,hat,hwh,h]
       ·have hj1:(0:Int)<d-j:=of_decide_eq_true h
        refine aj (hD _ _ _ (by omega)) ?_
        try simp only[I,B,D,RY,↓KW,seval,hix,hx,gQ.len]
        try simp only[I,B,D,RY,↓KW,seval,hset,gQ.len]
        refine⟨by simp at hlen⊢;omega,by omega,?_⟩
        refine back (j+1) _ (by omega) (by omega) (ai (by decide) ?_ ?_ ?_ ?_)<;>simp[LX,I,B,D,hnext,hw3,bw]
       ·have hj1:¬(0:Int)<d-j:=of_decide_eq_false h
        have:j=d.toNat:=by omega
        rw[<-this,hL];refine cu () trivial ?_
        refine ai (by decide) ?_ ?_ ?_ ?_<;>simp[LX,I,B,D,bw]
     ·refine ai (by decide) ?_ ?_ ?_ ?_<;>simp[LX,I,B,D,hD0,jX,bw]
    ·intro _ _
     have hr4:=aL l 176 (n:=4) (by decide) (by decide)
     have hr3:=Int.tmod_lt_of_pos (bG l 176 4) (b:=3) (by decide)
     have hr0:=Int.tmod_nonneg 3 hr4.1
     have hEe:uY l (er t1 l N ((bG l 176 4).tmod 3) ((bG l 176 4).tmod 3).toNat)=wg l []:=by subst hNe;subst ht1;rfl
     have hRl:(bk l).aZ=bw (er t1 l N ((bG l 176 4).tmod 3) ((bG l 176 4).tmod 3).toNat):=by subst hNe;subst ht1;rfl
     have hTab:aU l=yo l (if er t1 l N ((bG l 176 4).tmod 3) ((bG l 176 4).tmod 3).toNat=[]then 0 else jY (bk l) N):=by subst hNe;subst ht1;rfl
     try simp only[I,B,D,RY,↓KW,seval]
     refine aj (hF _ _ _ (by decide)) ?_
     try simp only[I,B,D,RY,↓KW,seval]
     generalize(bG l 176 4).tmod 3=r at*
     refine iu (.exit 8) (fun _:Unit=>(⟨[(4,.dat (I N) none),(3,.ptr 5 0),(0,.dat (aJ aG l) none),(2,.ptr 4 0)],[(5,⟨(uY l (er t1 l N r r.toNat)).cells,[]⟩),(4,⟨cR.cells,[]⟩)],[],400⟩:S)) (fun _=>True) (fun _=>rfl) ?_ ?_
     ·refine aP (fun j:Nat=>(⟨[(10,.dat (I (r-j)) none),(4,.dat (I N) none),(3,.ptr 5 0),(0,.dat (aJ aG l) none),(2,.ptr 4 0)],[(5,⟨(uY l (er t1 l N r j)).cells,if er t1 l N r j=[]then[]else[(114,0)]⟩),(4,⟨cR.cells,[]⟩)],bW (er t1 l N r j) 0 eR,400⟩:S)) (fun j=>r.toNat-j) (fun j=>j<=r.toNat) ?_ 0 (by omega) ?_
      ·intro j hj A back
       have hw3:IntKind.i64.wrap (r-j-1)=r-((j+1:Nat):Int):=by rw[bq (by omega) (by omega)];omega
       have hix:IntKind.i64.wrap (260+IntKind.i64.wrap (16*(r-(j:Int))))=260+16*(r-j):=by rw[bq (n:=16*(r-(j:Int))) (by omega) (by omega),bq (by omega) (by omega)]
       have hro:∀L',nC (uY l L') l (260+16*(r-j)) N=nC t1 l (260+16*(r-j)) N:=fun _=>by subst ht1;rfl
       have hnext:=Cv t1 l N r j
       have hlen:(er t1 l N r j).length=j:=tu ..
       generalize hL:er t1 l N r j=L at*;generalize hx:nC t1 l (260+16*(r-j)) N=x at*
       have yU:(uY l L).Ok:=yq rfl (dM l _) (cY _) (cZ l) (by simp[uY,qF,iw,jr,cR,cm,kI];try omega) (by simp[uY,qF,iw,jr,cR,cm,jP];try omega) (by simp[uY,qF,iw,jr,cR,cm];try omega)
       have ln:=yU.ln
       have hln:=ln.len
       have hwh:=ln.whole
       have hat:=ln.Ct
       have hset:setCells (uY l L).cells 114 [aJ Rl.cells (some (L++[x]))]=(uY l (L++[x])).cells:=by rw[ln.zN (some (L++[x]))];simp[uY,bw]
       have hatr:(uY l L).aZ=bw L:=rfl
       rw[hatr]at hat;simp only[aO,List.map_append,List.map_cons,List.map_nil]at hset
       cases L with
       |nil=>
        simp only[List.map_nil,List.nil_append,bw,if_true,aR]at hset hat hnext;try simp only[I,B,D,RY,↓KW,seval,bw,bW]
        refine ax (fun h=>?_) (fun h=>?_)<;>try simp only[I,B,D,RY,↓KW,seval,hat,hwh,h]
        ·have hj1:(0:Int)<r-j:=of_decide_eq_true h
         refine aj (hr _ _ _ _ yU (by omega) (by omega)) ?_
         try simp only[I,B,D,RY,↓KW,seval,hix,hro,hx,Rl.len]
         try simp only[I,B,D,RY,↓KW,seval,hset]
         refine⟨by omega,?_⟩
         refine back (j+1) _ (by omega) (by omega) (ai (by decide) ?_ ?_ ?_ ?_)<;>simp[LX,I,B,D,hnext,hw3,bw]
        ·have hj1:¬(0:Int)<r-j:=of_decide_eq_false h
         have:j=r.toNat:=by omega
         rw[<-this,hL];refine cu () trivial ?_
         refine ai (by decide) ?_ ?_ ?_ ?_<;>simp[LX,I,B,D,bw]
       |cons y ys=>
        simp only[bw,reduceCtorEq,if_false,aO]at hset hat hnext;try simp only[I,B,D,RY,↓KW,seval,bw,bW]
        refine ax (fun h=>?_) (fun h=>?_)<;>try simp only[I,B,D,RY,↓KW,seval,hat,hwh,h]
        ·have hj1:(0:Int)<r-j:=of_decide_eq_true h
         refine aj (hr _ _ _ _ yU (by omega) (by omega)) ?_
         try simp only[I,B,D,RY,↓KW,seval,hix,hro,hx,Rl.len]
         try simp only[I,B,D,RY,↓KW,seval,hset,Rl.len]
         refine⟨by simp at hlen⊢;omega,by omega,?_⟩
         refine back (j+1) _ (by omega) (by omega) (ai (by decide) ?_ ?_ ?_ ?_)<;>simp[LX,I,B,D,hnext,hw3,bw]
        ·have hj1:¬(0:Int)<r-j:=of_decide_eq_false h
         have:j=r.toNat:=by omega
         rw[<-this,hL];refine cu () trivial ?_
         refine ai (by decide) ?_ ?_ ?_ ?_<;>simp[LX,I,B,D,bw]
      ·refine ai (by decide) ?_ ?_ ?_ ?_<;>simp[LX,I,B,D,hDe,er,bw]
     ·intro _ _
      have hb3:=aL l 177 (n:=3) (by decide) (by decide)
      have hFe:wg l (lC l N (bG l 177 3) (bG l 177 3).toNat)={bk l with extend:=0,dB:=0,start:=0,revert:=0,least:=0,share:=0}:=by subst hNe;rfl
      have hu:0<=IntKind.u64.wrap (N:Int):=by rw[IntKind.wrap];simp[IntKind.signed];omega
      try simp only[I,B,D,RY,↓KW,seval]
      refine aj (hF _ _ _ (by decide)) ?_
      generalize bG l 177 3=b at*;try simp only[I,B,D,RY,↓KW,seval]
      refine iu (.exit 10) (fun _:Unit=>(⟨[(4,.dat (I N) none),(3,.ptr 5 0),(0,.dat (aJ aG l) none),(2,.ptr 4 0)],[(5,⟨(wg l (lC l N b b.toNat)).cells,[]⟩),(4,⟨cR.cells,[]⟩)],[],400⟩:S)) (fun _=>True) (fun _=>rfl) ?_ ?_
      ·refine aP (fun j:Nat=>(⟨[(11,.dat (I (b-j)) none),(4,.dat (I N) none),(3,.ptr 5 0),(0,.dat (aJ aG l) none),(2,.ptr 4 0)],[(5,⟨(wg l (lC l N b j)).cells,if lC l N b j=[]then[]else[(115,0)]⟩),(4,⟨cR.cells,[]⟩)],bW (lC l N b j) 0 eB,400⟩:S)) (fun j=>b.toNat-j) (fun j=>j<=b.toNat) ?_ 0 (by omega) ?_
       ·intro j hj A back
        have hw3:IntKind.i64.wrap (b-j-1)=b-((j+1:Nat):Int):=by rw[bq (by omega) (by omega)];omega
        have hi1:IntKind.i64.wrap (330+IntKind.i64.wrap (2*(b-(j:Int))))=330+2*(b-j):=by rw[bq (n:=2*(b-(j:Int))) (by omega) (by omega),bq (by omega) (by omega)]
        have hi2:IntKind.i64.wrap (331+IntKind.i64.wrap (2*(b-(j:Int))))=331+2*(b-j):=by rw[bq (n:=2*(b-(j:Int))) (by omega) (by omega),bq (by omega) (by omega)]
        have hbx:(zQ l N (b-j)).cells=[AV.int .i64 (if oC .i64 (bG l (330+2*(b-j)) 256) (IntKind.i64.wrap (IntKind.i64.wrap (1*2^min (IntKind.u64.wrap (N:Int)).toNat IntKind.i64.bits)-1))>1 then oC .i64 (bG l (330+2*(b-j)) 256) (IntKind.i64.wrap (IntKind.i64.wrap (1*2^min (IntKind.u64.wrap (N:Int)).toNat IntKind.i64.bits)-1))else 1),AV.int .i64 (IntKind.i64.wrap (1+bG l (331+2*(b-j)) 30))]:=rfl
        have hnext:=DI l N b j
        have hlen:(lC l N b j).length=j:=rD ..
        generalize hL:lC l N b j=L at*;generalize hx:zQ l N (b-j)=x at*
        have yU:(wg l L).Ok:=yq rfl (dM l _) (cY _) (cZ l) (by simp[wg,qF,iw,jr,cR,cm,kI];try omega) (by simp[wg,qF,iw,jr,cR,cm,jP];try omega) (by simp[wg,qF,iw,jr,cR,cm];try omega)
        have ln:=yU.ln
        have hln:=ln.len
        have hwh:=ln.whole
        have hat:=ln.EG
        have hset:setCells (wg l L).cells 115 [aJ Bs.cells (some (L++[x]))]=(wg l (L++[x])).cells:=by rw[ln.zO (some (L++[x]))];simp[wg,bw]
        have hatr:(wg l L).bS=bw L:=rfl
        rw[hatr]at hat;simp only[aO,List.map_append,List.map_cons,List.map_nil]at hset
        cases L with
        |nil=>
         simp only[List.map_nil,List.nil_append,bw,if_true,aR]at hset hat hnext;try simp only[I,B,D,RY,↓KW,seval,bw,bW]
         refine ax (fun h=>?_) (fun h=>?_)<;>try simp only[I,B,D,RY,↓KW,seval,hat,hwh,h]
         ·have hj1:(0:Int)<b-j:=of_decide_eq_true h
          refine aj (hF _ _ _ (by decide)) ?_
          try simp only[I,B,D,RY,↓KW,seval,hi1]
          refine⟨hu,?_⟩
          refine aj (hF _ _ _ (by decide)) ?_
          try simp only[I,B,D,RY,↓KW,seval,hi2,hi1]
          simp only[gt_iff_lt]at hbx⊢;rw[hbx]at hset;try simp only[I,B,D,RY,↓KW,seval,hset]
          refine⟨by omega,?_⟩
          refine back (j+1) _ (by omega) (by omega) (ai (by decide) ?_ ?_ ?_ ?_)<;>simp[LX,I,B,D,hnext,hw3,bw]
         ·have hj1:¬(0:Int)<b-j:=of_decide_eq_false h
          have:j=b.toNat:=by omega
          rw[<-this,hL];refine cu () trivial ?_
          refine ai (by decide) ?_ ?_ ?_ ?_<;>simp[LX,I,B,D,bw]
        |cons y ys=>
         simp only[bw,reduceCtorEq,if_false,aO]at hset hat hnext;try simp only[I,B,D,RY,↓KW,seval,bw,bW]
         refine ax (fun h=>?_) (fun h=>?_)<;>try simp only[I,B,D,RY,↓KW,seval,hat,hwh,h]
         ·have hj1:(0:Int)<b-j:=of_decide_eq_true h
          refine aj (hF _ _ _ (by decide)) ?_
          try simp only[I,B,D,RY,↓KW,seval,hi1]
          refine⟨hu,?_⟩
          refine aj (hF _ _ _ (by decide)) ?_
          try simp only[I,B,D,RY,↓KW,seval,hi2,hi1]
          simp only[gt_iff_lt]at hbx⊢;rw[hbx]at hset;try simp only[I,B,D,RY,↓KW,seval,hset,Bs.len]
          refine⟨by simp at hlen⊢;omega,by omega,?_⟩
          refine back (j+1) _ (by omega) (by omega) (ai (by decide) ?_ ?_ ?_ ?_)<;>simp[LX,I,B,D,hnext,hw3,bw]
         ·have hj1:¬(0:Int)<b-j:=of_decide_eq_false h
          have:j=b.toNat:=by omega
          rw[<-this,hL];refine cu () trivial ?_
          refine ai (by decide) ?_ ?_ ?_ ?_<;>simp[LX,I,B,D,bw]
       ·refine ai (by decide) ?_ ?_ ?_ ?_<;>simp[LX,I,B,D,hEe,lC,bw]
      ·intro _ _
       have n0:({bk l with extend:=0,dB:=0,start:=0,revert:=0,least:=0,share:=0}:Tb).Ln:=⟨dM l _,cY _,cZ l⟩
       have n1:({bk l with dB:=0,start:=0,revert:=0,least:=0,share:=0}:Tb).Ln:=⟨dM l _,cY _,cZ l⟩
       have n2:({bk l with start:=0,revert:=0,least:=0,share:=0}:Tb).Ln:=⟨dM l _,cY _,cZ l⟩
       have n3:({bk l with revert:=0,least:=0,share:=0}:Tb).Ln:=⟨dM l _,cY _,cZ l⟩
       have n4:({bk l with least:=0,share:=0}:Tb).Ln:=⟨dM l _,cY _,cZ l⟩
       have n5:({bk l with share:=0}:Tb).Ln:=⟨dM l _,cY _,cZ l⟩
       have s0:setCells ({bk l with extend:=0,dB:=0,start:=0,revert:=0,least:=0,share:=0}:Tb).cells 116 [AV.int .i64 (bG l 178 12)]=({bk l with dB:=0,start:=0,revert:=0,least:=0,share:=0}:Tb).cells:=(n0.jf (bG l 178 12)).1
       have s1:setCells ({bk l with dB:=0,start:=0,revert:=0,least:=0,share:=0}:Tb).cells 117 [AV.int .i64 (bG l 179 40)]=({bk l with start:=0,revert:=0,least:=0,share:=0}:Tb).cells:=(n1.jf (bG l 179 40)).2.1
       have s2:setCells ({bk l with start:=0,revert:=0,least:=0,share:=0}:Tb).cells 118 [AV.int .i64 (bG l 180 8)]=({bk l with revert:=0,least:=0,share:=0}:Tb).cells:=(n2.jf (bG l 180 8)).2.2.1
       have s3:setCells ({bk l with revert:=0,least:=0,share:=0}:Tb).cells 119 [AV.int .i64 (bG l 181 8)]=({bk l with least:=0,share:=0}:Tb).cells:=(n3.jf (bG l 181 8)).2.2.2.1
       have s4:setCells ({bk l with least:=0,share:=0}:Tb).cells 120 [AV.int .i64 (bG l 182 12)]=({bk l with share:=0}:Tb).cells:=(n4.jf (bG l 182 12)).2.2.2.2
       have s5:setCells ({bk l with share:=0}:Tb).cells 130 [AV.int .i64 (bG l 183 4)]=(bk l).cells:=(n5.uq (bG l 183 4)).2
       have k0:=n0.len
       have k1:=n1.len
       have k2:=n2.len
       have k3:=n3.len
       have k4:=n4.len
       have k5:=n5.len
       rw[hFe]
       generalize({bk l with extend:=0,dB:=0,start:=0,revert:=0,least:=0,share:=0}:Tb)=T0 at*
       generalize({bk l with dB:=0,start:=0,revert:=0,least:=0,share:=0}:Tb)=T1 at*
       generalize({bk l with start:=0,revert:=0,least:=0,share:=0}:Tb)=T2 at*
       generalize({bk l with revert:=0,least:=0,share:=0}:Tb)=T3 at*
       generalize({bk l with least:=0,share:=0}:Tb)=T4 at*
       generalize({bk l with share:=0}:Tb)=T5 at*
       have c0:117<=T0.cells.length:=by omega
       have c1:118<=T1.cells.length:=by omega
       have c2:119<=T2.cells.length:=by omega
       have c3:120<=T3.cells.length:=by omega
       have c4:121<=T4.cells.length:=by omega
       have c5:131<=T5.cells.length:=by omega
       try simp only[I,B,D,RY,↓KW,seval]
       refine aj (hF _ _ _ (by decide)) ?_
       try simp only[I,B,D,RY,↓KW,seval,s0,s1,s2,s3,s4,s5,c0,c1,c2,c3,c4,c5]
       refine aj (hF _ _ _ (by decide)) ?_
       try simp only[I,B,D,RY,↓KW,seval,s0,s1,s2,s3,s4,s5,c0,c1,c2,c3,c4,c5]
       refine aj (hF _ _ _ (by decide)) ?_
       try simp only[I,B,D,RY,↓KW,seval,s0,s1,s2,s3,s4,s5,c0,c1,c2,c3,c4,c5]
       refine aj (hF _ _ _ (by decide)) ?_
       try simp only[I,B,D,RY,↓KW,seval,s0,s1,s2,s3,s4,s5,c0,c1,c2,c3,c4,c5]
       refine aj (hF _ _ _ (by decide)) ?_
       try simp only[I,B,D,RY,↓KW,seval,s0,s1,s2,s3,s4,s5,c0,c1,c2,c3,c4,c5]
       refine aj (hF _ _ _ (by decide)) ?_
       try simp only[I,B,D,RY,↓KW,seval,s0,s1,s2,s3,s4,s5,c0,c1,c2,c3,c4,c5]
       have hT:aU l=yo l (if er t1 l N r r.toNat=[]then 0 else jY (bk l) N):=hTab
       have hW0:bk l=yo l (if er t1 l N r r.toNat=[]then 0 else jY (bk l) 0):=by
        have:(if er t1 l N r r.toNat=[]then(0:Int)else jY (bk l) 0)=0:=by split<;>rfl
        rw[this];rfl
       replace hW0:=congrArg Tb.cells hW0
       generalize er t1 l N r r.toNat=R at*
       refine iu (.exit 12) (fun _:Unit=>(⟨[(3,.ptr 5 0),(2,.ptr 4 0)],[(5,⟨(aU l).cells,[]⟩),(4,⟨cR.cells,[]⟩)],[],400⟩:S)) (fun _=>True) (fun _=>rfl) ?_ ?_
       ·refine aP (fun k:Nat=>(⟨[(12,.dat (I k) none),(4,.dat (I N) none),(3,.ptr 5 0),(2,.ptr 4 0)],[(5,⟨(yo l (if R=[]then 0 else jY (bk l) k)).cells,[]⟩),(4,⟨cR.cells,[]⟩)],[],400⟩:S)) (fun k=>N-k) (fun k=>k<=N/\(R=[]->k=0)) ?_ 0 (by simp) ?_
        ·intro k ⟨hk,hR0⟩ A back
         have hw3:=aN (k:=k) (by omega)
         have hwt:∀w,lp (yo l w) k=lp (bk l) k:=fun _=>rfl
         have hnx:jY (bk l) (k+1)=if lp (bk l) k>jY (bk l) k then lp (bk l) k else jY (bk l) k:=rfl
         generalize hwv:(if R=[]then(0:Int)else jY (bk l) k)=wv at*
         have okW:(yo l wv).Ok:=yq rfl (dM l _) (cY _) (cZ l) (kI l) (jP l) (by have:=aL l 177 (n:=3) (by decide) (by decide);simp only[yo,bk,cm,rD];omega)
         have ln:=okW.ln
         have hln:=ln.len
         have hwh:=ln.whole
         have hat:=ln.Ct
         have hat2:=ln.Um
         have hrr:(yo l wv).aZ=bw R:=hRl
         have hww:(yo l wv).d9=wv:=rfl
         rw[hrr]at hat;rw[hww]at hat2
         have hset:setCells (yo l wv).cells 129 [AV.int .i64 (if lp (bk l) k>wv then lp (bk l) k else wv)]=(yo l (if lp (bk l) k>wv then lp (bk l) k else wv)).cells:=(ln.uq _).1
         have hmk:=cm R
         try simp only[I,B,D,RY,↓KW,seval]
         repeat' (((first|refine bz ?_ ?_|refine ax ?_ ?_|refine cv ?_ ?_)<;>intro h)<;>try simp only[I,B,D,RY,↓KW,seval,hat,hmk,h])
         ·have hRl0:=of_decide_eq_true h
          have hkN:(k:Int)<N:=by rename_i h1;exact of_decide_eq_true h1
          have hne:R≠[]:=by intro e;rw[e]at hRl0;simp at hRl0
          rw[if_neg hne]at hwv;subst hwv;rw[<-hnx]at hset;try simp only[I,B,D,RY,↓KW,seval,hat2,hwh]
          refine aj (hw _ _ okW) ?_;try simp only[I,B,D,RY,↓KW,seval,hwt,<-hnx,hset,gt_iff_lt]
          refine⟨by omega,?_⟩
          refine back (k+1) _ ⟨by omega,fun e=>absurd e hne⟩ (by omega) ?_
          refine ai (by decide) ?_ ?_ ?_ ?_<;>simp[LX,I,B,D,hne,hw3]
         ·have hRl0:=of_decide_eq_false h
          have hR0':R=[]:=List.eq_nil_of_length_eq_zero (by omega)
          rw[if_pos hR0']at hwv hT;subst hwv;refine cu () trivial ?_
          refine ai (by decide) ?_ ?_ ?_ ?_<;>simp[LX,I,B,D,hT]
         ·have hkN:k=N:=by have:=of_decide_eq_false h;omega
          rw[<-hkN,hwv]at hT;refine cu () trivial ?_
          refine ai (by decide) ?_ ?_ ?_ ?_<;>simp[LX,I,B,D,hT]
        ·refine ai (by decide) ?_ ?_ ?_ ?_<;>simp[LX,I,B,D,hW0]
       ·intro _ _
        have okZ:(aU l).Ok:=oM l
        have hlz:=okZ.ln.len
        have hwz:=okZ.ln.whole
        have hl0:=ok0.ln.len
        have hsz:setCells cR.cells 0 (aU l).cells=(aU l).cells:=gu (by omega)
        try simp only[I,B,D,RY,↓KW,seval,hwz,hlz,hl0,hsz]
end
def bv(s:Int):BitVec 64:=BitVec.ofInt 64 s
def tb(s:Int) (i:Nat):Bool:=(bv s).getLsbD i
theorem Iu(n:Int):IntKind.i64.wrap n%18446744073709551616=n%18446744073709551616:=by
 simp only[IntKind.wrap,IntKind.bits,IntKind.signed];simp
 split<;>omega
theorem A5(n:Int):bv (IntKind.i64.wrap n)=bv n:=by
 unfold bv
 apply BitVec.eq_of_toNat_eq
 have:=Iu n
 simp only[BitVec.toNat_ofInt]
 have e:((2^64:Nat):Int)=18446744073709551616:=by decide
 rw[e,this]
theorem A6(b:BitVec 64):bv (b.toNat:Int)=b:=by
 unfold bv;rw[BitVec.ofInt_natCast];simp
theorem bv_and(x y:Int):bv (oC .i64 x y)=bv x&&&bv y:=by
 simp only[oC,A5];exact A6 _
theorem Un(x y:Int):bv (Jy .i64 x y)=bv x|||bv y:=by
 simp only[Jy,A5];exact A6 _
theorem F6(x y:Int):bv (mV .i64 x y)=bv x&&& ~~~(bv y):=by
 simp only[mV,A5];exact A6 _
theorem DJ(x y:Int) (i:Nat):tb (oC .i64 x y) i=(tb x i&&tb y i):=by simp[tb,bv_and]
theorem Uo(x y:Int) (i:Nat):tb (Jy .i64 x y) i=(tb x i||tb y i):=by simp[tb,Un]
theorem zR(x y:Int) (i:Nat) (h:i<64):tb (mV .i64 x y) i=(tb x i&& !tb y i):=by simp[tb,F6,h]
theorem wJ(i:Nat):tb 0 i=false:=by simp[tb,bv]
theorem Iv{p:Nat} (hp:p<8) (i:Nat):tb (2^p) i=decide (i=p):=by
 have e:bv (2^p)=BitVec.twoPow 64 p:=by
  have:p=0\/p=1\/p=2\/p=3\/p=4\/p=5\/p=6\/p=7:=by omega
  rcases this with rfl|rfl|rfl|rfl|rfl|rfl|rfl|rfl<;>rfl
 simp only[tb,e,BitVec.getLsbD_twoPow]
 by_cases h:i=p<;>simp[h]
 ·omega
 ·omega
theorem EJ(l:List Int):∀k,k<=8->∀i,tb (s6 l k) i=(decide (i<k)&&decide ((i:Int)∈l))
 |0,_,i=>by simp[s6,wJ]
 |k+1,h,i=>by
  have ih:=EJ l k (by omega) i
  simp only[s6];split
  ·rename_i hk
   rw[Uo,ih,Iv (by omega)]
   by_cases e:i=k
   ·subst e;simp[hk]
   ·have:(i<k+1)↔i<k:=by omega
    simp[e,this]
  ·rename_i hk
   rw[ih]
   by_cases e:i=k
   ·subst e;simp[hk]
   ·have:(i<k+1)↔i<k:=by omega
    simp[this]
theorem MR(l:List Int) (i:Nat):tb (ML l) i=(decide (i<8)&&decide ((i:Int)∈l)):=EJ l 8 (by omega) i
theorem DK(s:Int) {p:Nat} (hp:p<64):tb s p=decide (s.fdiv (2^p)%2=1):=by
 have e:(bv s).toNat=(s%18446744073709551616).toNat:=by
  simp only[bv,BitVec.toNat_ofInt];rfl
 have h1:tb s p=(bv s).toNat.testBit p:=rfl
 rw[h1,e,Nat.testBit_eq_decide_div_mod_eq]
 congr 1
 have hf:s.fdiv (2^p)=s/2^p:=Int.fdiv_eq_ediv_of_nonneg _ (Int.le_of_lt (Int.pow_pos (by decide)))
 rw[hf,eq_iff_iff]
 have h0:0<=s%18446744073709551616:=Int.emod_nonneg _ (by decide)
 have hc:(((s%18446744073709551616).toNat/2^p%2:Nat):Int)=(s%18446744073709551616)/2^p%2:=by
  push_cast [Int.toNat_of_nonneg h0];rfl
 have key:(s%18446744073709551616)/2^p%2=s/2^p%2:=by
  have hpw:(18446744073709551616:Int)=2^p*(2*2^(63-p)):=by
   rw[show(2:Int)^p*(2*2^(63-p))=2^(p+(1+(63-p)))by rw[Int.pow_add,Int.pow_add];rfl,show p+(1+(63-p))=64 by omega];rfl
  have h2:s=s%18446744073709551616+2^p*(2*2^(63-p)*(s/18446744073709551616)):=by
   have:=Int.emod_add_mul_ediv s 18446744073709551616
   rw[<-Int.mul_assoc,<-Int.mul_assoc,Int.mul_assoc (2^p),<-hpw];omega
  conv=>rhs;rw[h2]
  rw[Int.add_mul_ediv_left _ _ (Int.ne_of_gt (Int.pow_pos (by decide))),Int.mul_assoc,Int.add_mul_emod_self_left]
 rw[<-key,<-hc];omega
theorem Iw(x:Int):oC .i64 x 1=if tb x 0 then 1 else 0:=by
 have e:oC .i64 x 1=IntKind.i64.wrap ((bv x&&&1#64).toNat:Int):=rfl
 have e2:bv x&&&1#64=if tb x 0 then 1#64 else 0#64:=by
  apply BitVec.eq_of_getLsbD_eq
  intro i hi;simp only[BitVec.getLsbD_and,BitVec.getLsbD_one]
  by_cases h:i=0
  ·subst h;cases hx:tb x 0<;>simp[tb]at hx⊢<;>simp[hx]
  ·split<;>simp[h,BitVec.getLsbD_one]
 rw[e,e2];split<;>decide
theorem Mb{s:Int} {p:Nat} (hp:p<8):o9 s p=tb s p:=by
 have h1:tb (s.fdiv (2^p)) 0=tb s p:=by
  rw[DK _ (by omega),DK _ (by omega)]
  simp
 simp only[o9,Int.toNat_natCast,Iw,h1]
 have:(p:Int)<8:=by omega
 cases tb s p<;>simp[this]
theorem P7(t:Tb) (i:Nat):t.phases.getD i default=dS t i:=by simp[dS]
structure Sh where
 qG:List Int
 time:List Int
 kT:List Int
 yu:List Int
 entry:Bool
 deriving Inhabited,DecidableEq
def Sh.cells(s:Sh):List AV:=s.qG.map I++(s.time.map I++(s.kT.map I++(s.yu.map I++[B s.entry])))
structure Sh.Ok (s:Sh):Prop where
 qG:s.qG.length=8
 time:s.time.length=8
 kT:s.kT.length=8
 yu:s.yu.length=8
def Sh.c(s:Sh) (p:Nat):Int:=s.qG.getD p 0
def Sh.t(s:Sh) (p:Nat):Int:=s.time.getD p 0
def Sh.f(s:Sh) (p:Nat):Int:=s.kT.getD p 0
theorem Sh.len{s:Sh} (h:s.Ok):s.cells.length=33:=by simp[Sh.cells,h.qG,h.time,h.kT,h.yu]
theorem Sh.whole{s:Sh} (h:s.Ok):bF s.cells 0 (some 33)=some (.agg s.cells):=by
 have:=Sh.len h
 simp[bF,this];rw[<-this,List.take_length]
structure Xh (t:Tb) (a b:Sh):Prop where
 t:t.Ln
 a:a.Ok
 b:b.Ok
theorem Tb.Ln.P8{t:Tb} (h:t.Ln) {k:Nat} (hk:k<8):t.phases[k]? =some (dS t k):=by
 have:k<t.phases.length:=by rw[h.phases];exact hk
 simp[dS,this]
section
open Z
def oN(g0 g1 g2 g3 g4 g5 g6 g7 g8 g9 g10 g11 g12:Nat):cU:=⟨58,[.tmp 2],r [o 1 (w 0),V 2 (F)] (r [o 3 (f 1 0),o 4 (.E3 (t 3) 8 13),o 5 (.call g0 [t 4,k (i 8),k (.fn (.func g1) [] [])]),M 6 5,p 7 (f 1 104) 6,p 8 (l 7) 6,p 9 (.call g2 [t 8,k (i 4),k (.fn (.func g3) [] [])]) 6,o 10 (P 6 9),M 11 10,p 12 (f 1 105) 11,p 13 (.E3 (t 12) 8 1) 11,p 14 (.call g4 [k (i 255),t 13]) 11,o 15 (P 11 14),M 16 15,p 17 (f 1 113) 16,p 18 (l 17) 16,p 19 (.call g5 [t 18,k (i 16),k (.fn (.func g6) [] [])]) 16,o 20 (P 16 19),M 21 20,p 22 (f 1 114) 21,p 23 (l 22) 21,p 24 (.call g7 [t 23,k (i 4),k (.fn (.func g8) [] [])]) 21,o 25 (P 21 24),M 26 25,p 27 (f 1 115) 26,p 28 (l 27) 26,p 29 (.call g9 [t 28,k (i 4),k (.fn (.func g10) [] [])]) 26,o 30 (P 26 29),M 31 30,p 32 (f 1 116) 31,p 33 (l 32) 31,p 34 (f 1 117) 31,p 35 (l 34) 31,p 36 (f 1 118) 31,p 37 (l 36) 31,p 38 (f 1 119) 31,p 39 (l 38) 31,p 40 (f 1 120) 31,p 41 (l 40) 31,p 42 (.gA g11 1 [t 33,t 35,t 37,t 39,t 41]) 31,p 43 (.call g12 [t 42]) 31,o 44 (P 31 43),M 45 44,p 46 (f 1 121) 45,p 47 (.E3 (t 46) 8 1) 45,p 48 (.call g4 [k (i 2),t 47]) 45,o 49 (P 45 48),M 50 49,p 51 (f 1 129) 50,p 52 (l 51) 50,p 53 (f 1 130) 50,p 54 (l 53) 50,p 55 (.gA g11 1 [t 52,t 54]) 50,p 56 (.call g4 [k (i 2147483647),t 55]) 50,o 57 (P 50 56),M 2 57] y)⟩
def jg(g0 g1:Nat):cU:=⟨17,[.tmp 6],r [o 5 (w 2),V 6 (F)] (r [M 7 0,o 8 (h 7),M 9 1,o 10 (b .leq 8 9),M 11 10,p 12 (m 0) 11,p 13 (.Ai (.func g0) [] [t 5]) 11,p 14 (.call g1 [t 12,t 13]) 11,p 15 (.un .not (t 14)) 11,o 16 (P 11 15),M 6 16] y)⟩
def mE(g0 g1 g2:Nat):cU:=⟨29,[.tmp 2],r [o 1 (w 0),V 2 (F)] (r [o 3 (f 1 1),o 4 (l 3),o 5 (f 1 2),o 6 (l 5),o 7 (f 1 3),o 8 (l 7),o 9 (f 1 4),o 10 (l 9),o 11 (f 1 5),o 12 (l 11),o 13 (f 1 6),o 14 (l 13),o 15 (f 1 7),o 16 (l 15),o 17 (f 1 8),o 18 (l 17),o 19 (f 1 9),o 20 (l 19),o 21 (.gA g0 1 [t 4,t 6,t 8,t 10,t 12,t 14,t 16,t 18,t 20]),o 22 (.call g1 [t 21]),M 23 22,p 24 (f 1 10) 23,p 25 (l 24) 23,p 26 (.gA g0 1 [t 25]) 23,p 27 (.call g2 [k (i 3),t 26]) 23,o 28 (P 23 27),M 2 28] y)⟩
def kJ(g0 g1:Nat):cU:=⟨17,[.tmp 6],r [o 5 (w 2),V 6 (F)] (r [M 7 0,o 8 (h 7),M 9 1,o 10 (b .leq 8 9),M 11 10,p 12 (m 0) 11,p 13 (.Ai (.func g0) [] [t 5]) 11,p 14 (.call g1 [t 12,t 13]) 11,p 15 (.un .not (t 14)) 11,o 16 (P 11 15),M 6 16] y)⟩
def qH(g0:Nat):cU:=⟨14,[.tmp 2],r [o 1 (w 0),V 2 (F)] (r [V 3 (.fn (.func g0) [] [])] (r [M 4 3,o 5 (.C1 (t 1) (k (i 0)) 2 1),o 6 (l 5),o 7 (.ee (t 4) [t 6]),M 8 7,p 9 (m 3) 8,p 10 (.C1 (t 1) (k (i 1)) 2 1) 8,p 11 (l 10) 8,p 12 (.ee (t 9) [t 11]) 8,o 13 (P 8 12),M 2 13] y))⟩
def o4(g0 g1:Nat):cU:=⟨10,[.tmp 4],r [o 2 (w 0),V 4 (F)] (r [M 5 1,M 6 1,o 7 (h 6),o 8 (.Ai (.func g0) [] [t 2]),o 9 (.call g1 [t 5,t 7,t 8]),M 4 9] y)⟩
def gN(g0 g1:Nat):cU:=⟨17,[.tmp 6],r [o 5 (w 2),V 6 (F)] (r [M 7 0,o 8 (h 7),M 9 1,o 10 (b .leq 8 9),M 11 10,p 12 (m 0) 11,p 13 (.Ai (.func g0) [] [t 5]) 11,p 14 (.call g1 [t 12,t 13]) 11,p 15 (.un .not (t 14)) 11,o 16 (P 11 15),M 6 16] y)⟩
def jQ(g0 g1 g2 g3 g4:Nat):cU:=⟨38,[.tmp 2],r [o 1 (w 0),V 2 (F)] (r [V 3 (.fn (.func g0) [] [])] (r [o 4 (f 1 0),o 5 (l 4),o 6 (.gA g1 1 [t 5]),o 7 (.call g2 [k (i 7),t 6]),M 8 7,p 9 (m 3) 8,p 10 (f 1 1) 8,p 11 (l 10) 8,p 12 (.ee (t 9) [t 11]) 8,o 13 (P 8 12),M 14 13,p 15 (m 3) 14,p 16 (f 1 2) 14,p 17 (l 16) 14,p 18 (.ee (t 15) [t 17]) 14,o 19 (P 14 18),M 20 19,p 21 (f 1 3) 20,p 22 (l 21) 20,p 23 (.call g3 [t 22]) 20,o 24 (P 20 23),M 25 24,p 26 (f 1 4) 25,p 27 (l 26) 25,p 28 (.call g3 [t 27]) 25,o 29 (P 25 28),M 30 29,p 31 (f 1 5) 30,p 32 (l 31) 30,p 33 (f 1 6) 30,p 34 (l 33) 30,p 35 (.gA g1 1 [t 32,t 34]) 30,p 36 (.call g4 [t 35]) 30,o 37 (P 30 36),M 2 37] y))⟩
def jA(g0 g1:Nat):cU:=⟨17,[.tmp 6],r [o 5 (w 2),V 6 (F)] (r [M 7 0,o 8 (h 7),M 9 1,o 10 (b .leq 8 9),M 11 10,p 12 (m 0) 11,p 13 (.Ai (.func g0) [] [t 5]) 11,p 14 (.call g1 [t 12,t 13]) 11,p 15 (.un .not (t 14)) 11,o 16 (P 11 15),M 6 16] y)⟩
def nD(g0 g1 g2:Nat):cU:=⟨35,[.tmp 2],r [o 1 (w 0),V 2 (F)] (r [o 3 (f 1 0),o 4 (l 3),o 5 (f 1 1),o 6 (l 5),o 7 (f 1 2),o 8 (l 7),o 9 (f 1 3),o 10 (l 9),o 11 (.gA g0 1 [t 4,t 6,t 8,t 10]),o 12 (.call g1 [k (i 255),t 11]),M 13 12,p 14 (f 1 4) 13,p 15 (l 14) 13,p 16 (f 1 5) 13,p 17 (l 16) 13,p 18 (f 1 6) 13,p 19 (l 18) 13,p 20 (f 1 7) 13,p 21 (l 20) 13,p 22 (f 1 8) 13,p 23 (l 22) 13,p 24 (f 1 9) 13,p 25 (l 24) 13,p 26 (.gA g0 1 [t 15,t 17,t 19,t 21,t 23,t 25]) 13,p 27 (.call g2 [t 26]) 13,o 28 (P 13 27),M 29 28,p 30 (f 1 10) 29,p 31 (l 30) 29,p 32 (.gA g0 1 [t 31]) 29,p 33 (.call g1 [k (i 2147483647),t 32]) 29,o 34 (P 29 33),M 2 34] y)⟩
def jR(g0 g1:Nat):cU:=⟨17,[.tmp 6],r [o 5 (w 2),V 6 (F)] (r [M 7 0,o 8 (h 7),M 9 1,o 10 (b .leq 8 9),M 11 10,p 12 (m 0) 11,p 13 (.Ai (.func g0) [] [t 5]) 11,p 14 (.call g1 [t 12,t 13]) 11,p 15 (.un .not (t 14)) 11,o 16 (P 11 15),M 6 16] y)⟩
def oO(g0 g1 g2:Nat):cU:=⟨13,[.tmp 2],r [o 1 (w 0),V 2 (F)] (r [o 3 (f 1 0),o 4 (l 3),o 5 (.gA g0 1 [t 4]),o 6 (.call g1 [k (i 255),t 5]),M 7 6,p 8 (f 1 1) 7,p 9 (l 8) 7,p 10 (.gA g0 1 [t 9]) 7,p 11 (.call g2 [t 10]) 7,o 12 (P 7 11),M 2 12] y)⟩
def qI(g0:Nat):cU:=⟨5,[.tmp 2],r [V 2 (F)] (r [M 3 0,o 4 (.call g0 [k (i 9999),t 3]),M 2 4] y)⟩
def dc(g0:Nat):cU:=⟨9,[.tmp 4],r [V 4 (F)] (r [M 5 0,M 6 1,o 7 (.call g0 [t 5,t 6]),o 8 (bb .geq 7 (i 0)),M 4 8] y)⟩
def iy:cU:=⟨8,[.tmp 3],r [o 2 (w 0),V 3 (F)] (r [o 4 (l 1),o 5 (L 2 13),o 6 (.ee (t 4) [t 5]),o 7 (.un .not (t 6)),M 3 7] y)⟩
def eK(g0:Nat):cU:=⟨9,[.tmp 4],r [V 4 (F)] (r [M 5 0,M 6 1,o 7 (.call g0 [t 5,t 6]),o 8 (bb .geq 7 (i 0)),M 4 8] y)⟩
def jS:cU:=⟨8,[.tmp 3],r [o 2 (w 0),V 3 (F)] (r [o 4 (l 1),o 5 (L 2 2),o 6 (.ee (t 4) [t 5]),o 7 (.un .not (t 6)),M 3 7] y)⟩
def n8(g0 g1:Nat):cU:=⟨5,[.tmp 2],r [V 2 (F)] (r [M 3 0,o 4 (.call g0 [t 3,k (i 8),k (.fn (.func g1) [] [])]),M 2 4] y)⟩
def mF(g0 g1:Nat):cU:=⟨17,[.tmp 6],r [o 5 (w 2),V 6 (F)] (r [M 7 0,o 8 (h 7),M 9 1,o 10 (b .leq 8 9),M 11 10,p 12 (m 0) 11,p 13 (.Ai (.func g0) [] [t 5]) 11,p 14 (.call g1 [t 12,t 13]) 11,p 15 (.un .not (t 14)) 11,o 16 (P 11 15),M 6 16] y)⟩
def js(g0 g1:Nat):cU:=⟨6,[.tmp 2],r [V 2 (F)] (r [M 3 0,o 4 (.gA g0 1 [t 3]),o 5 (.call g1 [k (i 7),t 4]),M 2 5] y)⟩
def nh:cU:=⟨11,[.tmp 3],r [V 3 (F)] (r [M 4 0,o 5 (bb .geq 4 (i 0)),M 6 5,p 7 (m 0) 6,p 8 (l 1) 6,p 9 (b .leq 7 8) 6,o 10 (P 6 9),M 3 10] y)⟩
def cG(g0:Nat):cU:=⟨9,[.tmp 4],r [V 4 (F)] (r [M 5 0,M 6 1,o 7 (.call g0 [t 5,t 6]),o 8 (bb .geq 7 (i 0)),M 4 8] y)⟩
def gl:cU:=⟨8,[.tmp 3],r [o 2 (w 0),V 3 (F)] (r [o 4 (l 1),o 5 (L 2 7),o 6 (.ee (t 4) [t 5]),o 7 (.un .not (t 6)),M 3 7] y)⟩
def lD:cU:=⟨9,[.tmp 2],r [V 2 (F)] (r [M 3 0,o 4 (bb .gtr 3 (.float .f64 0)),M 5 4,p 6 (m 0) 5,p 7 (bb .leq 6 (.float .f64 4696837146684686336)) 5,o 8 (P 5 7),M 2 8] y)⟩
def n9(g0 g1:Nat):cU:=⟨16,[.tmp 2],r [V 2 (F)] (r [M 6 0,o 7 (.call g0 [t 6]),M 5 7,o 8 (e 5 0),o 9 (e 5 1),M 3 8,M 4 9] (r [M 10 4,M 11 10,p 12 (m 0) 11,p 13 (.call g1 [t 12]) 11,p 14 (.un .not (t 13)) 11,o 15 (P 11 14),M 2 15] y))⟩
def dN(g0:Nat):cU:=⟨9,[.tmp 4],r [V 4 (F)] (r [M 5 0,M 6 1,o 7 (.call g0 [t 5,t 6]),o 8 (bb .geq 7 (i 0)),M 4 8] y)⟩
def iP:cU:=⟨8,[.tmp 3],r [o 2 (w 0),V 3 (F)] (r [o 4 (l 1),o 5 (L 2 11),o 6 (.ee (t 4) [t 5]),o 7 (.un .not (t 6)),M 3 7] y)⟩
def dX(g0:Nat):cU:=⟨9,[.tmp 4],r [V 4 (F)] (r [M 5 0,M 6 1,o 7 (.call g0 [t 5,t 6]),o 8 (bb .geq 7 (i 0)),M 4 8] y)⟩
def jh:cU:=⟨8,[.tmp 3],r [o 2 (w 0),V 3 (F)] (r [o 4 (l 1),o 5 (L 2 2),o 6 (.ee (t 4) [t 5]),o 7 (.un .not (t 6)),M 3 7] y)⟩
def cw:cU:=⟨19,[.tmp 4],r [V 4 (i 0)] (j (r [M 6 0,o 7 (h 6),V 8 (i 0)] (u 0 (.loop (r [o 9 (b .lss 8 7)] (j (c 9 z (.exit 0)) (j (u 1 (r [M 10 8,M 5 10] (r [M 11 1,M 12 0,M 13 5,o 14 (a 12 13 13),o 15 (L 14 13),o 16 (.ee (t 11) [t 15])] (c 16 (r [M 17 5,M 4 17] y) z)))) (R [o 18 (bb .add 8 (i 1)),M 8 18]))))))) (r [V 4 (i (-1))] y))⟩
def dD:cU:=⟨19,[.tmp 4],r [V 4 (i 0)] (j (r [M 6 0,o 7 (h 6),V 8 (i 0)] (u 0 (.loop (r [o 9 (b .lss 8 7)] (j (c 9 z (.exit 0)) (j (u 1 (r [M 10 8,M 5 10] (r [M 11 1,M 12 0,M 13 5,o 14 (a 12 13 2),o 15 (L 14 2),o 16 (.ee (t 11) [t 15])] (c 16 (r [M 17 5,M 4 17] y) z)))) (R [o 18 (bb .add 8 (i 1)),M 8 18]))))))) (r [V 4 (i (-1))] y))⟩
def gh(g0:Nat):cU:=⟨9,[.tmp 4],r [V 4 (F)] (r [M 5 0,M 6 1,o 7 (.call g0 [t 5,t 6]),o 8 (bb .geq 7 (i 0)),M 4 8] y)⟩
def kK:cU:=⟨8,[.tmp 3],r [V 3 (F)] (r [o 4 (l 1),M 5 0,o 6 (.ee (t 4) [t 5]),o 7 (.un .not (t 6)),M 3 7] y)⟩
def bZ:cU:=⟨19,[.tmp 4],r [V 4 (i 0)] (j (r [M 6 0,o 7 (h 6),V 8 (i 0)] (u 0 (.loop (r [o 9 (b .lss 8 7)] (j (c 9 z (.exit 0)) (j (u 1 (r [M 10 8,M 5 10] (r [M 11 1,M 12 0,M 13 5,o 14 (a 12 13 7),o 15 (L 14 7),o 16 (.ee (t 11) [t 15])] (c 16 (r [M 17 5,M 4 17] y) z)))) (R [o 18 (bb .add 8 (i 1)),M 8 18]))))))) (r [V 4 (i (-1))] y))⟩
def o5:cU:=⟨7,[.tmp 2],r [V 2 (F)] (r [M 3 0,o 4 (.xt .Bt (t 3)),o 5 (.nk .i64 (t 4)),o 6 (bb .lss 5 (i 0)),M 2 6] y)⟩
def cF:cU:=⟨19,[.tmp 4],r [V 4 (i 0)] (j (r [M 6 0,o 7 (h 6),V 8 (i 0)] (u 0 (.loop (r [o 9 (b .lss 8 7)] (j (c 9 z (.exit 0)) (j (u 1 (r [M 10 8,M 5 10] (r [M 11 1,M 12 0,M 13 5,o 14 (a 12 13 11),o 15 (L 14 11),o 16 (.ee (t 11) [t 15])] (c 16 (r [M 17 5,M 4 17] y) z)))) (R [o 18 (bb .add 8 (i 1)),M 8 18]))))))) (r [V 4 (i (-1))] y))⟩
def cJ:cU:=⟨19,[.tmp 4],r [V 4 (i 0)] (j (r [M 6 0,o 7 (h 6),V 8 (i 0)] (u 0 (.loop (r [o 9 (b .lss 8 7)] (j (c 9 z (.exit 0)) (j (u 1 (r [M 10 8,M 5 10] (r [M 11 1,M 12 0,M 13 5,o 14 (a 12 13 2),o 15 (L 14 2),o 16 (.ee (t 11) [t 15])] (c 16 (r [M 17 5,M 4 17] y) z)))) (R [o 18 (bb .add 8 (i 1)),M 8 18]))))))) (r [V 4 (i (-1))] y))⟩
def eu:cU:=⟨19,[.tmp 4],r [V 4 (i 0)] (j (r [M 6 0,o 7 (h 6),V 8 (i 0)] (u 0 (.loop (r [o 9 (b .lss 8 7)] (j (c 9 z (.exit 0)) (j (u 1 (r [M 10 8,M 5 10] (r [M 11 1,M 12 0,M 13 5,o 14 (a 12 13 1),o 15 (l 14),o 16 (.ee (t 11) [t 15])] (c 16 (r [M 17 5,M 4 17] y) z)))) (R [o 18 (bb .add 8 (i 1)),M 8 18]))))))) (r [V 4 (i (-1))] y))⟩
end
def wI(m n:Int):Bool:=decide (n>=0)&&decide (n<=m)
def F7{α:Type} (row:α->List AV) (v:α->AV) (C:bt) (f:Nat):Prop:=∀(l:Option (List α)) (g:Nat) (fs cs:List AV) (is:α->Bool),(l.getD []).length<=1000000->
 (∀x∈l.getD [],C.c g (fs++[v x]++cs) (B (is x)) none)->∃n:Int,decide (n>=0)=(l.getD []).any is/\C.c f [aJ row l,.fn (.func g) fs cs] (I n) none
def F8{α:Type} (row:α->List AV) (v:α->AV) (C:bt) (f:Nat):Prop:=∀(l:Option (List α)) (g:Nat) (fs cs:List AV) (is:α->Bool),(l.getD []).length<=1000000->
 (∀x∈l.getD [],C.c g (fs++[v x]++cs) (B (is x)) none)->C.c f [aJ row l,.fn (.func g) fs cs] (B ((l.getD []).any is)) none
def F9{α:Type} (v:α->AV) (C:bt) (f:Nat):Prop:=∀(x:α) (g:Nat) (fs cs:List AV) (r:Bool),C.c g (fs++[v x]++cs) (B r) none->C.c f [v x,.ref [.fn (.func g) fs cs]] (B (!r)) none
def QV{α:Type} (row:α->List AV) (v:α->AV) (C:bt) (f:Nat):Prop:=∀(l:Option (List α)) (most:Int) (g:Nat) (fs cs:List AV) (is:α->Bool),most<=1000000->
 (∀x∈l.getD [],C.c g (fs++[v x]++cs) (B (is x)) none)->C.c f [aJ row l,I most,.fn (.func g) fs cs] (B (decide (((l.getD []).length:Int)<=most)&&(l.getD []).all is)) none
theorem rE{α:Type} (l:List α) (is:α->Bool):(!l.any fun x=>!is x)=l.all is:=by
 induction l with
 |nil=>rfl
 |cons a l ih=>simp only[List.any_cons,List.all_cons,<-ih];cases is a<;>simp
def Iy.Spec(C:bt) (f:Nat):Prop:=F7 aG (fun n=>I n) C f
def Iz.Spec(C:bt) (f:Nat):Prop:=F8 aG (fun n=>I n) C f
def IA.Spec(C:bt) (f:Nat):Prop:=F9 (α:=Int) (fun n=>I n) C f
def QW.Spec(C:bt) (f:Nat):Prop:=QV aG (fun n=>I n) C f
def IB.Spec(C:bt) (f:Nat):Prop:=F7 Ph.cells (fun p=>.agg p.cells) C f
def IC.Spec(C:bt) (f:Nat):Prop:=F8 Ph.cells (fun p=>.agg p.cells) C f
def ID.Spec(C:bt) (f:Nat):Prop:=F9 (α:=Ph) (fun p=>.agg p.cells) C f
def Up.Spec(C:bt) (f:Nat):Prop:=QV Ph.cells (fun p=>.agg p.cells) C f
def IE.Spec(C:bt) (f:Nat):Prop:=F7 Gr.cells (fun g=>.agg g.cells) C f
def IF.Spec(C:bt) (f:Nat):Prop:=F8 Gr.cells (fun g=>.agg g.cells) C f
def IG.Spec(C:bt) (f:Nat):Prop:=F9 (α:=Gr) (fun g=>.agg g.cells) C f
def Uq.Spec(C:bt) (f:Nat):Prop:=QV Gr.cells (fun g=>.agg g.cells) C f
def II.Spec(C:bt) (f:Nat):Prop:=F7 gQ.cells (fun d=>.agg d.cells) C f
def IJ.Spec(C:bt) (f:Nat):Prop:=F8 gQ.cells (fun d=>.agg d.cells) C f
def IK.Spec(C:bt) (f:Nat):Prop:=F9 (α:=gQ) (fun d=>.agg d.cells) C f
def Ur.Spec(C:bt) (f:Nat):Prop:=QV gQ.cells (fun d=>.agg d.cells) C f
def IL.Spec(C:bt) (f:Nat):Prop:=F7 Rl.cells (fun r=>.agg r.cells) C f
def IM.Spec(C:bt) (f:Nat):Prop:=F8 Rl.cells (fun r=>.agg r.cells) C f
def IN.Spec(C:bt) (f:Nat):Prop:=F9 (α:=Rl) (fun r=>.agg r.cells) C f
def Us.Spec(C:bt) (f:Nat):Prop:=QV Rl.cells (fun r=>.agg r.cells) C f
def IP.Spec(C:bt) (f:Nat):Prop:=F7 Bs.cells (fun b=>.agg b.cells) C f
def IQ.Spec(C:bt) (f:Nat):Prop:=F8 Bs.cells (fun b=>.agg b.cells) C f
def IS.Spec(C:bt) (f:Nat):Prop:=F9 (α:=Bs) (fun b=>.agg b.cells) C f
def Ut.Spec(C:bt) (f:Nat):Prop:=QV Bs.cells (fun b=>.agg b.cells) C f
theorem oa{α:Type} {l:List α} {is:α->Bool} (h:l.any is=true):∃n,n<l.length/\(∃x,l[n]? =some x/\is x=true)/\(l.take n).any is=false:=by
 induction l with
 |nil=>cases h
 |cons a l ih=>
  cases ha:is a with
  |true=>exact⟨0,by simp,⟨a,rfl,ha⟩,rfl⟩
  |false=>
   rw[List.any_cons,ha,Bool.false_or]at h;obtain⟨n,h1,⟨x,h2,h3⟩,h4⟩:=ih h
   exact⟨n+1,by simpa using h1,⟨x,by simpa using h2,h3⟩,by simp[ha,h4]⟩
section
variable{P:Program} (hm:P.follows .mixedOrders=true) {f:Nat}
include hm
theorem Iy.ok(hc:dY P f=some eu):Iy.Spec (Pure P) f:=by
 intro l g fs cs is hl hg
 cases hany:(l.getD []).any is with
 |false=>
  refine⟨-1,rfl,?_⟩
  refine aH hm hc (by show 2<=19;decide) (ay (keep:=[]) (i:=0) ?_)
  try simp only[I,B,D,RX,↓KW,seval,eu,Z.H,gC]
  refine aP (fun k:Nat=>(⟨[(8,.dat (I k) none),(7,.dat (I ((l.getD []).length:Nat)) none),(1,.dat (.fn (.func g) fs cs) none),(0,.dat (aJ aG l) none)],[],[],400⟩:S)) (fun k=>(l.getD []).length-k) (fun k=>k<=(l.getD []).length) ?_ 0 (by omega) ?_
  ·intro k hk A back
   have hwr:=aN (k:=k) (by omega)
   try simp only[I,B,D,RX,↓KW,seval]
   refine ax (fun h2=>?_) (fun h2=>?_)<;>try simp only[I,B,D,RX,↓KW,seval,h2]
   ·have h8:k<(l.getD []).length:=by have:=of_decide_eq_true h2;omega
    obtain⟨x,hx⟩:∃x,(l.getD [])[k]? =some x:=⟨_,List.getElem?_eq_getElem h8⟩
    have hno:is x=false:=List.any_eq_false.1 hany x (List.mem_of_getElem? hx)|>Bool.eq_false_iff.2
    have hgx:=hg x (List.mem_of_getElem? hx)
    rw[hno]at hgx;try simp only[I,B,D,RX,↓KW,seval,gZ,hx,aG]
    refine⟨by omega,?_⟩
    refine aj hgx ?_;try simp only[I,B,D,RX,↓KW,seval]
    refine back (k+1) _ (by omega) (by omega) ?_
    refine ai (by decide) ?_ ?_ ?_ ?_<;>simp[LX,I,B,D,hwr]
  ·refine ai (by decide) ?_ ?_ ?_ ?_<;>simp[LX,I,B,D]
 |true=>
  obtain⟨n,hn,hxn⟩:∃n,n<(l.getD []).length/\(∃x,(l.getD [])[n]? =some x/\is x=true)/\((l.getD []).take n).any is=false:=oa hany
  obtain⟨⟨xn,hxn,hisn⟩,hpre⟩:=hxn
  refine⟨n,by simp,?_⟩
  refine aH hm hc (by show 2<=19;decide) (ay (keep:=[]) (i:=0) ?_)
  try simp only[I,B,D,RX,↓KW,seval,eu,Z.H,gC]
  refine aP (fun k:Nat=>(⟨[(8,.dat (I k) none),(7,.dat (I ((l.getD []).length:Nat)) none),(1,.dat (.fn (.func g) fs cs) none),(0,.dat (aJ aG l) none)],[],[],400⟩:S)) (fun k=>n-k) (fun k=>k<=n) ?_ 0 (by omega) ?_
  ·intro k hk A back
   have hwr:=aN (k:=k) (by omega)
   have h8:k<(l.getD []).length:=by omega
   have h2:decide ((k:Int)<((l.getD []).length:Nat))=true:=by simp;omega
   obtain⟨x,hx⟩:∃x,(l.getD [])[k]? =some x:=⟨_,List.getElem?_eq_getElem h8⟩
   have hgx:=hg x (List.mem_of_getElem? hx)
   try simp only[I,B,D,RX,↓KW,seval,h2,gZ,hx,aG]
   refine⟨by omega,?_⟩
   by_cases e:k=n
   ·subst e
    have:x=xn:=by rw[hx]at hxn;exact Option.some.inj hxn
    subst this;rw[hisn]at hgx;refine aj hgx ?_;try simp only[I,B,D,RX,↓KW,seval]
   ·have hno:is x=false:=by
     refine Bool.eq_false_iff.2 (List.any_eq_false.1 hpre x ?_)
     refine List.mem_of_getElem? (i:=k) ?_
     rw[List.getElem?_take,if_pos (by omega)];exact hx
    rw[hno]at hgx;refine aj hgx ?_;try simp only[I,B,D,RX,↓KW,seval]
    refine back (k+1) _ (by omega) (by omega) ?_
    refine ai (by decide) ?_ ?_ ?_ ?_<;>simp[LX,I,B,D,hwr]
  ·refine ai (by decide) ?_ ?_ ?_ ?_<;>simp[LX,I,B,D]
theorem Iz.ok{fI:Nat} (hc:dY P f=some (gh fI)) (hI:Iy.Spec (Pure P) fI):Iz.Spec (Pure P) f:=by
 intro l g fs cs is hl hg;obtain⟨n,hn,hcall⟩:=hI l g fs cs is hl hg
 refine aH hm hc (by show 2<=9;decide) (ay (keep:=[]) (i:=0) ?_)
 try simp only[I,B,D,RX,↓KW,seval,gh,Z.H]
 refine aj hcall ?_;try simp only[I,B,D,RX,↓KW,seval,hn]
theorem IA.ok(hc:dY P f=some kK):IA.Spec (Pure P) f:=by
 intro x g fs cs r hg
 refine aH hm hc (by show 2<=8;decide) (ay (keep:=[]) (i:=0) ?_)
 try simp only[I,B,D,RX,↓KW,seval,kK,Z.H]
 refine aj hg ?_;try simp only[I,B,D,RX,↓KW,seval]
theorem QW.ok{f1 fC:Nat} (hc:dY P f=some (mF f1 fC)) (h1:IA.Spec (Pure P) f1) (hC:Iz.Spec (Pure P) fC):QW.Spec (Pure P) f:=by
 intro l most g fs cs is hm' hg
 refine aH hm hc (by show 3<=17;decide) (ay (keep:=[]) (i:=0) ?_)
 try simp only[I,B,D,RX,↓KW,seval,mF,Z.H,gC]
 cases hl:decide (((l.getD []).length:Int)<=most)
 ·try simp only[I,B,D,RX,↓KW,seval,hl]
  rfl
 ·have:=of_decide_eq_true hl
  try simp only[I,B,D,RX,↓KW,seval,hl]
  refine⟨rfl,?_⟩
  refine aj (hC l f1 [] [.ref [.fn (.func g) fs cs]] (fun x=>!is x) (by omega) (fun x hx=>h1 x g fs cs (is x) (hg x hx))) ?_
  try simp only[I,B,D,RX,↓KW,seval]
  rw[rE];rfl
theorem IB.ok(hc:dY P f=some cw):IB.Spec (Pure P) f:=by
 intro l g fs cs is hl hg
 have hpart:∀x:Ph,bF (Ph.cells x) 0 (some 13)=some (.agg (Ph.cells x)):=fun x=>rfl
 have hlen:∀x:Ph,(Ph.cells x).length=13:=fun x=>rfl
 cases hany:(l.getD []).any is with
 |false=>
  refine⟨-1,rfl,?_⟩
  refine aH hm hc (by show 2<=19;decide) (ay (keep:=[]) (i:=0) ?_)
  try simp only[I,B,D,RX,↓KW,seval,cw,Z.H,gC]
  refine aP (fun k:Nat=>(⟨[(8,.dat (I k) none),(7,.dat (I ((l.getD []).length:Nat)) none),(1,.dat (.fn (.func g) fs cs) none),(0,.dat (aJ Ph.cells l) none)],[],[],400⟩:S)) (fun k=>(l.getD []).length-k) (fun k=>k<=(l.getD []).length) ?_ 0 (by omega) ?_
  ·intro k hk A back
   have hwr:=aN (k:=k) (by omega)
   try simp only[I,B,D,RX,↓KW,seval]
   refine ax (fun h2=>?_) (fun h2=>?_)<;>try simp only[I,B,D,RX,↓KW,seval,h2]
   ·have h8:k<(l.getD []).length:=by have:=of_decide_eq_true h2;omega
    obtain⟨x,hx⟩:∃x,(l.getD [])[k]? =some x:=⟨_,List.getElem?_eq_getElem h8⟩
    have hno:is x=false:=List.any_eq_false.1 hany x (List.mem_of_getElem? hx)|>Bool.eq_false_iff.2
    have hgx:=hg x (List.mem_of_getElem? hx)
    rw[hno]at hgx;try simp only[I,B,D,RX,↓KW,seval,gZ,hx,hpart,hlen]
    refine⟨by omega,?_⟩
    refine aj hgx ?_;try simp only[I,B,D,RX,↓KW,seval]
    refine back (k+1) _ (by omega) (by omega) ?_
    refine ai (by decide) ?_ ?_ ?_ ?_<;>simp[LX,I,B,D,hwr]
  ·refine ai (by decide) ?_ ?_ ?_ ?_<;>simp[LX,I,B,D]
 |true=>
  obtain⟨n,hn,hxn⟩:∃n,n<(l.getD []).length/\(∃x,(l.getD [])[n]? =some x/\is x=true)/\((l.getD []).take n).any is=false:=oa hany
  obtain⟨⟨xn,hxn,hisn⟩,hpre⟩:=hxn
  refine⟨n,by simp,?_⟩
  refine aH hm hc (by show 2<=19;decide) (ay (keep:=[]) (i:=0) ?_)
  try simp only[I,B,D,RX,↓KW,seval,cw,Z.H,gC]
  refine aP (fun k:Nat=>(⟨[(8,.dat (I k) none),(7,.dat (I ((l.getD []).length:Nat)) none),(1,.dat (.fn (.func g) fs cs) none),(0,.dat (aJ Ph.cells l) none)],[],[],400⟩:S)) (fun k=>n-k) (fun k=>k<=n) ?_ 0 (by omega) ?_
  ·intro k hk A back
   have hwr:=aN (k:=k) (by omega)
   have h8:k<(l.getD []).length:=by omega
   have h2:decide ((k:Int)<((l.getD []).length:Nat))=true:=by simp;omega
   obtain⟨x,hx⟩:∃x,(l.getD [])[k]? =some x:=⟨_,List.getElem?_eq_getElem h8⟩
   have hgx:=hg x (List.mem_of_getElem? hx)
   try simp only[I,B,D,RX,↓KW,seval,h2,gZ,hx,hpart,hlen]
   refine⟨by omega,?_⟩
   by_cases e:k=n
   ·subst e
    have:x=xn:=by rw[hx]at hxn;exact Option.some.inj hxn
    subst this;rw[hisn]at hgx;refine aj hgx ?_;try simp only[I,B,D,RX,↓KW,seval]
   ·have hno:is x=false:=by
     refine Bool.eq_false_iff.2 (List.any_eq_false.1 hpre x ?_)
     refine List.mem_of_getElem? (i:=k) ?_
     rw[List.getElem?_take,if_pos (by omega)];exact hx
    rw[hno]at hgx;refine aj hgx ?_;try simp only[I,B,D,RX,↓KW,seval]
    refine back (k+1) _ (by omega) (by omega) ?_
    refine ai (by decide) ?_ ?_ ?_ ?_<;>simp[LX,I,B,D,hwr]
  ·refine ai (by decide) ?_ ?_ ?_ ?_<;>simp[LX,I,B,D]
theorem IC.ok{fI:Nat} (hc:dY P f=some (dc fI)) (hI:IB.Spec (Pure P) fI):IC.Spec (Pure P) f:=by
 intro l g fs cs is hl hg;obtain⟨n,hn,hcall⟩:=hI l g fs cs is hl hg
 refine aH hm hc (by show 2<=9;decide) (ay (keep:=[]) (i:=0) ?_)
 try simp only[I,B,D,RX,↓KW,seval,dc,Z.H]
 refine aj hcall ?_;try simp only[I,B,D,RX,↓KW,seval,hn]
theorem ID.ok(hc:dY P f=some iy):ID.Spec (Pure P) f:=by
 intro x g fs cs r hg
 have hpart:∀x:Ph,bF (Ph.cells x) 0 (some 13)=some (.agg (Ph.cells x)):=fun x=>rfl
 have hlen:∀x:Ph,(Ph.cells x).length=13:=fun x=>rfl
 refine aH hm hc (by show 2<=8;decide) (ay (keep:=[]) (i:=0) ?_)
 try simp only[I,B,D,RX,↓KW,seval,iy,Z.H,hpart,hlen]
 refine aj hg ?_;try simp only[I,B,D,RX,↓KW,seval]
theorem Up.ok{f1 fC:Nat} (hc:dY P f=some (jg f1 fC)) (h1:ID.Spec (Pure P) f1) (hC:IC.Spec (Pure P) fC):Up.Spec (Pure P) f:=by
 intro l most g fs cs is hm' hg
 refine aH hm hc (by show 3<=17;decide) (ay (keep:=[]) (i:=0) ?_)
 try simp only[I,B,D,RX,↓KW,seval,jg,Z.H,gC]
 cases hl:decide (((l.getD []).length:Int)<=most)
 ·try simp only[I,B,D,RX,↓KW,seval,hl]
  rfl
 ·have:=of_decide_eq_true hl
  try simp only[I,B,D,RX,↓KW,seval,hl]
  refine⟨rfl,?_⟩
  refine aj (hC l f1 [] [.ref [.fn (.func g) fs cs]] (fun x=>!is x) (by omega) (fun x hx=>h1 x g fs cs (is x) (hg x hx))) ?_
  try simp only[I,B,D,RX,↓KW,seval]
  rw[rE];rfl
theorem IE.ok(hc:dY P f=some dD):IE.Spec (Pure P) f:=by
 intro l g fs cs is hl hg
 have hpart:∀x:Gr,bF (Gr.cells x) 0 (some 2)=some (.agg (Gr.cells x)):=fun x=>rfl
 have hlen:∀x:Gr,(Gr.cells x).length=2:=fun x=>rfl
 cases hany:(l.getD []).any is with
 |false=>
  refine⟨-1,rfl,?_⟩
  refine aH hm hc (by show 2<=19;decide) (ay (keep:=[]) (i:=0) ?_)
  try simp only[I,B,D,RX,↓KW,seval,dD,Z.H,gC]
  refine aP (fun k:Nat=>(⟨[(8,.dat (I k) none),(7,.dat (I ((l.getD []).length:Nat)) none),(1,.dat (.fn (.func g) fs cs) none),(0,.dat (aJ Gr.cells l) none)],[],[],400⟩:S)) (fun k=>(l.getD []).length-k) (fun k=>k<=(l.getD []).length) ?_ 0 (by omega) ?_
  ·intro k hk A back
   have hwr:=aN (k:=k) (by omega)
   try simp only[I,B,D,RX,↓KW,seval]
   refine ax (fun h2=>?_) (fun h2=>?_)<;>try simp only[I,B,D,RX,↓KW,seval,h2]
   ·have h8:k<(l.getD []).length:=by have:=of_decide_eq_true h2;omega
    obtain⟨x,hx⟩:∃x,(l.getD [])[k]? =some x:=⟨_,List.getElem?_eq_getElem h8⟩
    have hno:is x=false:=List.any_eq_false.1 hany x (List.mem_of_getElem? hx)|>Bool.eq_false_iff.2
    have hgx:=hg x (List.mem_of_getElem? hx)
    rw[hno]at hgx;try simp only[I,B,D,RX,↓KW,seval,gZ,hx,hpart,hlen]
    refine⟨by omega,?_⟩
    refine aj hgx ?_;try simp only[I,B,D,RX,↓KW,seval]
    refine back (k+1) _ (by omega) (by omega) ?_
    refine ai (by decide) ?_ ?_ ?_ ?_<;>simp[LX,I,B,D,hwr]
  ·refine ai (by decide) ?_ ?_ ?_ ?_<;>simp[LX,I,B,D]
 |true=>
  obtain⟨n,hn,hxn⟩:∃n,n<(l.getD []).length/\(∃x,(l.getD [])[n]? =some x/\is x=true)/\((l.getD []).take n).any is=false:=oa hany
  obtain⟨⟨xn,hxn,hisn⟩,hpre⟩:=hxn
  refine⟨n,by simp,?_⟩
  refine aH hm hc (by show 2<=19;decide) (ay (keep:=[]) (i:=0) ?_)
  try simp only[I,B,D,RX,↓KW,seval,dD,Z.H,gC]
  refine aP (fun k:Nat=>(⟨[(8,.dat (I k) none),(7,.dat (I ((l.getD []).length:Nat)) none),(1,.dat (.fn (.func g) fs cs) none),(0,.dat (aJ Gr.cells l) none)],[],[],400⟩:S)) (fun k=>n-k) (fun k=>k<=n) ?_ 0 (by omega) ?_
  ·intro k hk A back
   have hwr:=aN (k:=k) (by omega)
   have h8:k<(l.getD []).length:=by omega
   have h2:decide ((k:Int)<((l.getD []).length:Nat))=true:=by simp;omega
   obtain⟨x,hx⟩:∃x,(l.getD [])[k]? =some x:=⟨_,List.getElem?_eq_getElem h8⟩
   have hgx:=hg x (List.mem_of_getElem? hx)
   try simp only[I,B,D,RX,↓KW,seval,h2,gZ,hx,hpart,hlen]
   refine⟨by omega,?_⟩
   by_cases e:k=n
   ·subst e
    have:x=xn:=by rw[hx]at hxn;exact Option.some.inj hxn
    subst this;rw[hisn]at hgx;refine aj hgx ?_;try simp only[I,B,D,RX,↓KW,seval]
   ·have hno:is x=false:=by
     refine Bool.eq_false_iff.2 (List.any_eq_false.1 hpre x ?_)
     refine List.mem_of_getElem? (i:=k) ?_
     rw[List.getElem?_take,if_pos (by omega)];exact hx
    rw[hno]at hgx;refine aj hgx ?_;try simp only[I,B,D,RX,↓KW,seval]
    refine back (k+1) _ (by omega) (by omega) ?_
    refine ai (by decide) ?_ ?_ ?_ ?_<;>simp[LX,I,B,D,hwr]
  ·refine ai (by decide) ?_ ?_ ?_ ?_<;>simp[LX,I,B,D]
theorem IF.ok{fI:Nat} (hc:dY P f=some (eK fI)) (hI:IE.Spec (Pure P) fI):IF.Spec (Pure P) f:=by
 intro l g fs cs is hl hg;obtain⟨n,hn,hcall⟩:=hI l g fs cs is hl hg
 refine aH hm hc (by show 2<=9;decide) (ay (keep:=[]) (i:=0) ?_)
 try simp only[I,B,D,RX,↓KW,seval,eK,Z.H]
 refine aj hcall ?_;try simp only[I,B,D,RX,↓KW,seval,hn]
theorem IG.ok(hc:dY P f=some jS):IG.Spec (Pure P) f:=by
 intro x g fs cs r hg
 have hpart:∀x:Gr,bF (Gr.cells x) 0 (some 2)=some (.agg (Gr.cells x)):=fun x=>rfl
 have hlen:∀x:Gr,(Gr.cells x).length=2:=fun x=>rfl
 refine aH hm hc (by show 2<=8;decide) (ay (keep:=[]) (i:=0) ?_)
 try simp only[I,B,D,RX,↓KW,seval,jS,Z.H,hpart,hlen]
 refine aj hg ?_;try simp only[I,B,D,RX,↓KW,seval]
theorem Uq.ok{f1 fC:Nat} (hc:dY P f=some (kJ f1 fC)) (h1:IG.Spec (Pure P) f1) (hC:IF.Spec (Pure P) fC):Uq.Spec (Pure P) f:=by
 intro l most g fs cs is hm' hg
 refine aH hm hc (by show 3<=17;decide) (ay (keep:=[]) (i:=0) ?_)
 try simp only[I,B,D,RX,↓KW,seval,kJ,Z.H,gC]
 cases hl:decide (((l.getD []).length:Int)<=most)
 ·try simp only[I,B,D,RX,↓KW,seval,hl]
  rfl
 ·have:=of_decide_eq_true hl
  try simp only[I,B,D,RX,↓KW,seval,hl]
  refine⟨rfl,?_⟩
  refine aj (hC l f1 [] [.ref [.fn (.func g) fs cs]] (fun x=>!is x) (by omega) (fun x hx=>h1 x g fs cs (is x) (hg x hx))) ?_
  try simp only[I,B,D,RX,↓KW,seval]
  rw[rE];rfl
theorem II.ok(hc:dY P f=some bZ):II.Spec (Pure P) f:=by
 intro l g fs cs is hl hg
 have hpart:∀x:gQ,bF (gQ.cells x) 0 (some 7)=some (.agg (gQ.cells x)):=fun x=>rfl
 have hlen:∀x:gQ,(gQ.cells x).length=7:=fun x=>rfl
 cases hany:(l.getD []).any is with
 |false=>
  refine⟨-1,rfl,?_⟩
  refine aH hm hc (by show 2<=19;decide) (ay (keep:=[]) (i:=0) ?_)
  try simp only[I,B,D,RX,↓KW,seval,bZ,Z.H,gC]
  refine aP (fun k:Nat=>(⟨[(8,.dat (I k) none),(7,.dat (I ((l.getD []).length:Nat)) none),(1,.dat (.fn (.func g) fs cs) none),(0,.dat (aJ gQ.cells l) none)],[],[],400⟩:S)) (fun k=>(l.getD []).length-k) (fun k=>k<=(l.getD []).length) ?_ 0 (by omega) ?_
  ·intro k hk A back
   have hwr:=aN (k:=k) (by omega)
   try simp only[I,B,D,RX,↓KW,seval]
   refine ax (fun h2=>?_) (fun h2=>?_)<;>try simp only[I,B,D,RX,↓KW,seval,h2]
   ·have h8:k<(l.getD []).length:=by have:=of_decide_eq_true h2;omega
    obtain⟨x,hx⟩:∃x,(l.getD [])[k]? =some x:=⟨_,List.getElem?_eq_getElem h8⟩
    have hno:is x=false:=List.any_eq_false.1 hany x (List.mem_of_getElem? hx)|>Bool.eq_false_iff.2
    have hgx:=hg x (List.mem_of_getElem? hx)
    rw[hno]at hgx;try simp only[I,B,D,RX,↓KW,seval,gZ,hx,hpart,hlen]
    refine⟨by omega,?_⟩
    refine aj hgx ?_;try simp only[I,B,D,RX,↓KW,seval]
    refine back (k+1) _ (by omega) (by omega) ?_
    refine ai (by decide) ?_ ?_ ?_ ?_<;>simp[LX,I,B,D,hwr]
  ·refine ai (by decide) ?_ ?_ ?_ ?_<;>simp[LX,I,B,D]
 |true=>
  obtain⟨n,hn,hxn⟩:∃n,n<(l.getD []).length/\(∃x,(l.getD [])[n]? =some x/\is x=true)/\((l.getD []).take n).any is=false:=oa hany
  obtain⟨⟨xn,hxn,hisn⟩,hpre⟩:=hxn
  refine⟨n,by simp,?_⟩
  refine aH hm hc (by show 2<=19;decide) (ay (keep:=[]) (i:=0) ?_)
  try simp only[I,B,D,RX,↓KW,seval,bZ,Z.H,gC]
  refine aP (fun k:Nat=>(⟨[(8,.dat (I k) none),(7,.dat (I ((l.getD []).length:Nat)) none),(1,.dat (.fn (.func g) fs cs) none),(0,.dat (aJ gQ.cells l) none)],[],[],400⟩:S)) (fun k=>n-k) (fun k=>k<=n) ?_ 0 (by omega) ?_
  ·intro k hk A back
   have hwr:=aN (k:=k) (by omega)
   have h8:k<(l.getD []).length:=by omega
   have h2:decide ((k:Int)<((l.getD []).length:Nat))=true:=by simp;omega
   obtain⟨x,hx⟩:∃x,(l.getD [])[k]? =some x:=⟨_,List.getElem?_eq_getElem h8⟩
   have hgx:=hg x (List.mem_of_getElem? hx)
   try simp only[I,B,D,RX,↓KW,seval,h2,gZ,hx,hpart,hlen]
   refine⟨by omega,?_⟩
   by_cases e:k=n
   ·subst e
    have:x=xn:=by rw[hx]at hxn;exact Option.some.inj hxn
    subst this;rw[hisn]at hgx;refine aj hgx ?_;try simp only[I,B,D,RX,↓KW,seval]
   ·have hno:is x=false:=by
     refine Bool.eq_false_iff.2 (List.any_eq_false.1 hpre x ?_)
     refine List.mem_of_getElem? (i:=k) ?_
     rw[List.getElem?_take,if_pos (by omega)];exact hx
    rw[hno]at hgx;refine aj hgx ?_;try simp only[I,B,D,RX,↓KW,seval]
    refine back (k+1) _ (by omega) (by omega) ?_
    refine ai (by decide) ?_ ?_ ?_ ?_<;>simp[LX,I,B,D,hwr]
  ·refine ai (by decide) ?_ ?_ ?_ ?_<;>simp[LX,I,B,D]
theorem IJ.ok{fI:Nat} (hc:dY P f=some (cG fI)) (hI:II.Spec (Pure P) fI):IJ.Spec (Pure P) f:=by
 intro l g fs cs is hl hg;obtain⟨n,hn,hcall⟩:=hI l g fs cs is hl hg
 refine aH hm hc (by show 2<=9;decide) (ay (keep:=[]) (i:=0) ?_)
 try simp only[I,B,D,RX,↓KW,seval,cG,Z.H]
 refine aj hcall ?_;try simp only[I,B,D,RX,↓KW,seval,hn]
theorem IK.ok(hc:dY P f=some gl):IK.Spec (Pure P) f:=by
 intro x g fs cs r hg
 have hpart:∀x:gQ,bF (gQ.cells x) 0 (some 7)=some (.agg (gQ.cells x)):=fun x=>rfl
 have hlen:∀x:gQ,(gQ.cells x).length=7:=fun x=>rfl
 refine aH hm hc (by show 2<=8;decide) (ay (keep:=[]) (i:=0) ?_)
 try simp only[I,B,D,RX,↓KW,seval,gl,Z.H,hpart,hlen]
 refine aj hg ?_;try simp only[I,B,D,RX,↓KW,seval]
theorem Ur.ok{f1 fC:Nat} (hc:dY P f=some (gN f1 fC)) (h1:IK.Spec (Pure P) f1) (hC:IJ.Spec (Pure P) fC):Ur.Spec (Pure P) f:=by
 intro l most g fs cs is hm' hg
 refine aH hm hc (by show 3<=17;decide) (ay (keep:=[]) (i:=0) ?_)
 try simp only[I,B,D,RX,↓KW,seval,gN,Z.H,gC]
 cases hl:decide (((l.getD []).length:Int)<=most)
 ·try simp only[I,B,D,RX,↓KW,seval,hl]
  rfl
 ·have:=of_decide_eq_true hl
  try simp only[I,B,D,RX,↓KW,seval,hl]
  refine⟨rfl,?_⟩
  refine aj (hC l f1 [] [.ref [.fn (.func g) fs cs]] (fun x=>!is x) (by omega) (fun x hx=>h1 x g fs cs (is x) (hg x hx))) ?_
  try simp only[I,B,D,RX,↓KW,seval]
  rw[rE];rfl
theorem IL.ok(hc:dY P f=some cF):IL.Spec (Pure P) f:=by
 intro l g fs cs is hl hg
 have hpart:∀x:Rl,bF (Rl.cells x) 0 (some 11)=some (.agg (Rl.cells x)):=fun x=>rfl
 have hlen:∀x:Rl,(Rl.cells x).length=11:=fun x=>rfl
 cases hany:(l.getD []).any is with
 |false=>
  refine⟨-1,rfl,?_⟩
  refine aH hm hc (by show 2<=19;decide) (ay (keep:=[]) (i:=0) ?_)
  try simp only[I,B,D,RX,↓KW,seval,cF,Z.H,gC]
  refine aP (fun k:Nat=>(⟨[(8,.dat (I k) none),(7,.dat (I ((l.getD []).length:Nat)) none),(1,.dat (.fn (.func g) fs cs) none),(0,.dat (aJ Rl.cells l) none)],[],[],400⟩:S)) (fun k=>(l.getD []).length-k) (fun k=>k<=(l.getD []).length) ?_ 0 (by omega) ?_
  ·intro k hk A back
   have hwr:=aN (k:=k) (by omega)
   try simp only[I,B,D,RX,↓KW,seval]
   refine ax (fun h2=>?_) (fun h2=>?_)<;>try simp only[I,B,D,RX,↓KW,seval,h2]
   ·have h8:k<(l.getD []).length:=by have:=of_decide_eq_true h2;omega
    obtain⟨x,hx⟩:∃x,(l.getD [])[k]? =some x:=⟨_,List.getElem?_eq_getElem h8⟩
    have hno:is x=false:=List.any_eq_false.1 hany x (List.mem_of_getElem? hx)|>Bool.eq_false_iff.2
    have hgx:=hg x (List.mem_of_getElem? hx)
    rw[hno]at hgx;try simp only[I,B,D,RX,↓KW,seval,gZ,hx,hpart,hlen]
    refine⟨by omega,?_⟩
    refine aj hgx ?_;try simp only[I,B,D,RX,↓KW,seval]
    refine back (k+1) _ (by omega) (by omega) ?_
    refine ai (by decide) ?_ ?_ ?_ ?_<;>simp[LX,I,B,D,hwr]
  ·refine ai (by decide) ?_ ?_ ?_ ?_<;>simp[LX,I,B,D]
 |true=>
  obtain⟨n,hn,hxn⟩:∃n,n<(l.getD []).length/\(∃x,(l.getD [])[n]? =some x/\is x=true)/\((l.getD []).take n).any is=false:=oa hany
  obtain⟨⟨xn,hxn,hisn⟩,hpre⟩:=hxn
  refine⟨n,by simp,?_⟩
  refine aH hm hc (by show 2<=19;decide) (ay (keep:=[]) (i:=0) ?_)
  try simp only[I,B,D,RX,↓KW,seval,cF,Z.H,gC]
  refine aP (fun k:Nat=>(⟨[(8,.dat (I k) none),(7,.dat (I ((l.getD []).length:Nat)) none),(1,.dat (.fn (.func g) fs cs) none),(0,.dat (aJ Rl.cells l) none)],[],[],400⟩:S)) (fun k=>n-k) (fun k=>k<=n) ?_ 0 (by omega) ?_
  ·intro k hk A back
   have hwr:=aN (k:=k) (by omega)
   have h8:k<(l.getD []).length:=by omega
   have h2:decide ((k:Int)<((l.getD []).length:Nat))=true:=by simp;omega
   obtain⟨x,hx⟩:∃x,(l.getD [])[k]? =some x:=⟨_,List.getElem?_eq_getElem h8⟩
   have hgx:=hg x (List.mem_of_getElem? hx)
   try simp only[I,B,D,RX,↓KW,seval,h2,gZ,hx,hpart,hlen]
   refine⟨by omega,?_⟩
   by_cases e:k=n
   ·subst e
    have:x=xn:=by rw[hx]at hxn;exact Option.some.inj hxn
    subst this;rw[hisn]at hgx;refine aj hgx ?_;try simp only[I,B,D,RX,↓KW,seval]
   ·have hno:is x=false:=by
     refine Bool.eq_false_iff.2 (List.any_eq_false.1 hpre x ?_)
     refine List.mem_of_getElem? (i:=k) ?_
     rw[List.getElem?_take,if_pos (by omega)];exact hx
    rw[hno]at hgx;refine aj hgx ?_;try simp only[I,B,D,RX,↓KW,seval]
    refine back (k+1) _ (by omega) (by omega) ?_
    refine ai (by decide) ?_ ?_ ?_ ?_<;>simp[LX,I,B,D,hwr]
  ·refine ai (by decide) ?_ ?_ ?_ ?_<;>simp[LX,I,B,D]
theorem IM.ok{fI:Nat} (hc:dY P f=some (dN fI)) (hI:IL.Spec (Pure P) fI):IM.Spec (Pure P) f:=by
 intro l g fs cs is hl hg;obtain⟨n,hn,hcall⟩:=hI l g fs cs is hl hg
 refine aH hm hc (by show 2<=9;decide) (ay (keep:=[]) (i:=0) ?_)
 try simp only[I,B,D,RX,↓KW,seval,dN,Z.H]
 refine aj hcall ?_;try simp only[I,B,D,RX,↓KW,seval,hn]
theorem IN.ok(hc:dY P f=some iP):IN.Spec (Pure P) f:=by
 intro x g fs cs r hg
 have hpart:∀x:Rl,bF (Rl.cells x) 0 (some 11)=some (.agg (Rl.cells x)):=fun x=>rfl
 have hlen:∀x:Rl,(Rl.cells x).length=11:=fun x=>rfl
 refine aH hm hc (by show 2<=8;decide) (ay (keep:=[]) (i:=0) ?_)
 try simp only[I,B,D,RX,↓KW,seval,iP,Z.H,hpart,hlen]
 refine aj hg ?_;try simp only[I,B,D,RX,↓KW,seval]
theorem Us.ok{f1 fC:Nat} (hc:dY P f=some (jA f1 fC)) (h1:IN.Spec (Pure P) f1) (hC:IM.Spec (Pure P) fC):Us.Spec (Pure P) f:=by
 intro l most g fs cs is hm' hg
 refine aH hm hc (by show 3<=17;decide) (ay (keep:=[]) (i:=0) ?_)
 try simp only[I,B,D,RX,↓KW,seval,jA,Z.H,gC]
 cases hl:decide (((l.getD []).length:Int)<=most)
 ·try simp only[I,B,D,RX,↓KW,seval,hl]
  rfl
 ·have:=of_decide_eq_true hl
  try simp only[I,B,D,RX,↓KW,seval,hl]
  refine⟨rfl,?_⟩
  refine aj (hC l f1 [] [.ref [.fn (.func g) fs cs]] (fun x=>!is x) (by omega) (fun x hx=>h1 x g fs cs (is x) (hg x hx))) ?_
  try simp only[I,B,D,RX,↓KW,seval]
  rw[rE];rfl
theorem IP.ok(hc:dY P f=some cJ):IP.Spec (Pure P) f:=by
 intro l g fs cs is hl hg
 have hpart:∀x:Bs,bF (Bs.cells x) 0 (some 2)=some (.agg (Bs.cells x)):=fun x=>rfl
 have hlen:∀x:Bs,(Bs.cells x).length=2:=fun x=>rfl
 cases hany:(l.getD []).any is with
 |false=>
  refine⟨-1,rfl,?_⟩
  refine aH hm hc (by show 2<=19;decide) (ay (keep:=[]) (i:=0) ?_)
  try simp only[I,B,D,RX,↓KW,seval,cJ,Z.H,gC]
  refine aP (fun k:Nat=>(⟨[(8,.dat (I k) none),(7,.dat (I ((l.getD []).length:Nat)) none),(1,.dat (.fn (.func g) fs cs) none),(0,.dat (aJ Bs.cells l) none)],[],[],400⟩:S)) (fun k=>(l.getD []).length-k) (fun k=>k<=(l.getD []).length) ?_ 0 (by omega) ?_
  ·intro k hk A back
   have hwr:=aN (k:=k) (by omega)
   try simp only[I,B,D,RX,↓KW,seval]
   refine ax (fun h2=>?_) (fun h2=>?_)<;>try simp only[I,B,D,RX,↓KW,seval,h2]
   ·have h8:k<(l.getD []).length:=by have:=of_decide_eq_true h2;omega
    obtain⟨x,hx⟩:∃x,(l.getD [])[k]? =some x:=⟨_,List.getElem?_eq_getElem h8⟩
    have hno:is x=false:=List.any_eq_false.1 hany x (List.mem_of_getElem? hx)|>Bool.eq_false_iff.2
    have hgx:=hg x (List.mem_of_getElem? hx)
    rw[hno]at hgx;try simp only[I,B,D,RX,↓KW,seval,gZ,hx,hpart,hlen]
    refine⟨by omega,?_⟩
    refine aj hgx ?_;try simp only[I,B,D,RX,↓KW,seval]
    refine back (k+1) _ (by omega) (by omega) ?_
    refine ai (by decide) ?_ ?_ ?_ ?_<;>simp[LX,I,B,D,hwr]
  ·refine ai (by decide) ?_ ?_ ?_ ?_<;>simp[LX,I,B,D]
 |true=>
  obtain⟨n,hn,hxn⟩:∃n,n<(l.getD []).length/\(∃x,(l.getD [])[n]? =some x/\is x=true)/\((l.getD []).take n).any is=false:=oa hany
  obtain⟨⟨xn,hxn,hisn⟩,hpre⟩:=hxn
  refine⟨n,by simp,?_⟩
  refine aH hm hc (by show 2<=19;decide) (ay (keep:=[]) (i:=0) ?_)
  try simp only[I,B,D,RX,↓KW,seval,cJ,Z.H,gC]
  refine aP (fun k:Nat=>(⟨[(8,.dat (I k) none),(7,.dat (I ((l.getD []).length:Nat)) none),(1,.dat (.fn (.func g) fs cs) none),(0,.dat (aJ Bs.cells l) none)],[],[],400⟩:S)) (fun k=>n-k) (fun k=>k<=n) ?_ 0 (by omega) ?_
  ·intro k hk A back
   have hwr:=aN (k:=k) (by omega)
   have h8:k<(l.getD []).length:=by omega
   have h2:decide ((k:Int)<((l.getD []).length:Nat))=true:=by simp;omega
   obtain⟨x,hx⟩:∃x,(l.getD [])[k]? =some x:=⟨_,List.getElem?_eq_getElem h8⟩
   have hgx:=hg x (List.mem_of_getElem? hx)
   try simp only[I,B,D,RX,↓KW,seval,h2,gZ,hx,hpart,hlen]
   refine⟨by omega,?_⟩
   by_cases e:k=n
   ·subst e
    have:x=xn:=by rw[hx]at hxn;exact Option.some.inj hxn
    subst this;rw[hisn]at hgx;refine aj hgx ?_;try simp only[I,B,D,RX,↓KW,seval]
   ·have hno:is x=false:=by
     refine Bool.eq_false_iff.2 (List.any_eq_false.1 hpre x ?_)
     refine List.mem_of_getElem? (i:=k) ?_
     rw[List.getElem?_take,if_pos (by omega)];exact hx
    rw[hno]at hgx;refine aj hgx ?_;try simp only[I,B,D,RX,↓KW,seval]
    refine back (k+1) _ (by omega) (by omega) ?_
    refine ai (by decide) ?_ ?_ ?_ ?_<;>simp[LX,I,B,D,hwr]
  ·refine ai (by decide) ?_ ?_ ?_ ?_<;>simp[LX,I,B,D]
theorem IQ.ok{fI:Nat} (hc:dY P f=some (dX fI)) (hI:IP.Spec (Pure P) fI):IQ.Spec (Pure P) f:=by
 intro l g fs cs is hl hg;obtain⟨n,hn,hcall⟩:=hI l g fs cs is hl hg
 refine aH hm hc (by show 2<=9;decide) (ay (keep:=[]) (i:=0) ?_)
 try simp only[I,B,D,RX,↓KW,seval,dX,Z.H]
 refine aj hcall ?_;try simp only[I,B,D,RX,↓KW,seval,hn]
theorem IS.ok(hc:dY P f=some jh):IS.Spec (Pure P) f:=by
 intro x g fs cs r hg
 have hpart:∀x:Bs,bF (Bs.cells x) 0 (some 2)=some (.agg (Bs.cells x)):=fun x=>rfl
 have hlen:∀x:Bs,(Bs.cells x).length=2:=fun x=>rfl
 refine aH hm hc (by show 2<=8;decide) (ay (keep:=[]) (i:=0) ?_)
 try simp only[I,B,D,RX,↓KW,seval,jh,Z.H,hpart,hlen]
 refine aj hg ?_;try simp only[I,B,D,RX,↓KW,seval]
theorem Ut.ok{f1 fC:Nat} (hc:dY P f=some (jR f1 fC)) (h1:IS.Spec (Pure P) f1) (hC:IQ.Spec (Pure P) fC):Ut.Spec (Pure P) f:=by
 intro l most g fs cs is hm' hg
 refine aH hm hc (by show 3<=17;decide) (ay (keep:=[]) (i:=0) ?_)
 try simp only[I,B,D,RX,↓KW,seval,jR,Z.H,gC]
 cases hl:decide (((l.getD []).length:Int)<=most)
 ·try simp only[I,B,D,RX,↓KW,seval,hl]
  rfl
 ·have:=of_decide_eq_true hl
  try simp only[I,B,D,RX,↓KW,seval,hl]
  refine⟨rfl,?_⟩
  refine aj (hC l f1 [] [.ref [.fn (.func g) fs cs]] (fun x=>!is x) (by omega) (fun x hx=>h1 x g fs cs (is x) (hg x hx))) ?_
  try simp only[I,B,D,RX,↓KW,seval]
  rw[rE];rfl
end
end Go.Eng
