/- The engine and the library,part 9 of 18: what the proofs of this seat need of them. -/
import Derived.Test.YthoinfdfenkgnaaGreatPk8
set_option linter.unnecessarySimpa false
set_option linter.unusedSimpArgs false
set_option linter.unusedVariables false
set_option linter.defProp false
set_option maxRecDepth 10000
set_option maxHeartbeats 4000000
namespace Go.Eng
open Go
def nD:Tb:=⟨List.replicate 8 default,none,List.replicate 8 0,none,none,none,0,0,0,0,0,List.replicate 8 0,0,0⟩
theorem QS:dJ=nD.cells:=rfl
def LH(l:Option (List Int)):Nat->List Ph
 |0=>List.replicate 8 default
 |k+1=>(LH l k).set k (nO l (10+12*k))
def DQ:Nat->List Int
 |0=>List.replicate 8 0
 |k+1=>(DQ k).set k 1
theorem ew(l:Option (List Int)):∀k,(LH l k).length=8
 |0=>by simp[LH]
 |k+1=>by simp[LH,ew l k]
theorem mZ:∀k,(DQ k).length=8
 |0=>by simp[DQ]
 |k+1=>by simp[DQ,mZ k]
def Ep(c:List Int) (i:Nat):Int:=c.getD i 0
def qy(t:Tb) (l:Option (List Int)) (p q:Nat):Bool:=!mu t p q&&dA l (110+8*p+q) 9 !=1
def gX(t:Tb) (l:Option (List Int)) (p q:Nat) (c:List Int):List Int:=
 if qy t l p q then
  let c1:=c.set p (jF (Ep c p) q)
  c1.set q (jF (Ep c1 q) p)
 else c
def jI(t:Tb) (l:Option (List Int)) (p:Nat):Nat->List Int->List Int
 |0,c=>c
 |q+1,c=>gX t l p q (jI t l p q c)
def gK(t:Tb) (l:Option (List Int)):Nat->List Int
 |0=>List.replicate 8 0
 |p+1=>jI t l p p (gK t l p)
theorem Fz{t:Tb} {l:Option (List Int)} {p q:Nat} {c:List Int}:(gX t l p q c).length=c.length:=by
 unfold gX;split<;>simp
theorem sX{t:Tb} {l:Option (List Int)} {p:Nat} {c:List Int}:∀q,(jI t l p q c).length=c.length
 |0=>rfl
 |q+1=>by rw[jI,Fz,sX q]
theorem dW{t:Tb} {l:Option (List Int)}:∀p,(gK t l p).length=8
 |0=>by simp[gK]
 |p+1=>by rw[gK,sX,dW p]
def jV(l:Option (List Int)) (n d:Int) (j:Nat):List nL:=(List.range j).map fun(k:Nat)=>gW l (180+8*(d-k)) n
def f8(t:Tb) (l:Option (List Int)) (n r:Int) (j:Nat):List Rl:=(List.range j).map fun(k:Nat)=>sV t l (260+16*(r-k)) n
def Kf(l:Option (List Int)) (n i:Int):Bs:=
 let x:=dw .i64 (dA l (330+2*i) 256) (dS (dS (1*2^min (IntKind.u64.wrap n).toNat 64)-1))
 ⟨if x>1 then x else 1,dS (1+dA l (331+2*i) 30)⟩
def nS(l:Option (List Int)) (n b:Int) (j:Nat):List Bs:=(List.range j).map fun(k:Nat)=>Kf l n (b-k)
def qU(t:Tb):Nat->Int
 |0=>0
 |k+1=>if oV t k>qU t k then oV t k else qU t k
def eG(l:Option (List Int)):List Gr×Nat:=cQ l (gz l) (gz l)
def bn (l:Option (List Int)):Tb :=
  let n:=(eG l).2
  let t1:Tb:={ nD with groups:=some (eG l).1 }
  let q:=dA l 174 (n + 1)
  { phases:=LH l n
    groups:=some (eG l).1
    conflict:=gK t1 l n
    aM:=dH (jV l n (dA l 175 9) (dA l 175 9).toNat)
    bQ:=dH (f8 t1 l n ((dA l 176 4).tmod 3) ((dA l 176 4).tmod 3).toNat)
    jC:=dH (nS l n (dA l 177 3) (dA l 177 3).toNat)
    extend:=dA l 178 12
    gx:=dA l 179 40
    start:=dA l 180 8
    revert:=dA l 181 8
    least:=dA l 182 12
    cB:=if q < n then (DQ n).set q.toNat 2 else DQ n
    mS:=0
    share:=dA l 183 4 }
def gh(l:Option (List Int)):Tb:=
 {bn l with mS:=if(f8 {nD with groups:=some (eG l).1} l (eG l).2 ((dA l 176 4).tmod 3) ((dA l 176 4).tmod 3).toNat)=[]then 0 else qU (bn l) (eG l).2}
def Table.Spec(C:aS) (f:Nat):Prop:=∀l:Option (List Int),C.c f [aH aD l] (.agg (gh l).cells) none
def jb(l:Option (List Int)) (k:Nat):Tb:={nD with groups:=some (eG l).1,phases:=LH l k,cB:=DQ k}
def gY(l:Option (List Int)) (c:List Int):Tb:={jb l (eG l).2 with conflict:=c}
def sY(l:Option (List Int)):Tb:={gY l (gK {nD with groups:=some (eG l).1} l (eG l).2)with cB:=(bn l).cB}
def AF(l:Option (List Int)) (d:List nL):Tb:={sY l with aM:=dH d}
def yU(l:Option (List Int)) (r:List Rl):Tb:={sY l with aM:=(bn l).aM,bQ:=dH r}
def AG(l:Option (List Int)) (b:List Bs):Tb:={sY l with aM:=(bn l).aM,bQ:=(bn l).bQ,jC:=dH b}
def B3(l:Option (List Int)) (w:Int):Tb:={bn l with mS:=w}
theorem NL(p m:Nat):(eo p m).length=m:=by simp[eo]
theorem xA(l:Option (List Int)) (G:Nat):∀g,∀x∈(cQ l G g).1,(x.a.getD []).length<=8/\(x.b.getD []).length<=8
 |0,x,hx=>by simp[cQ]at hx
 |g+1,x,hx=>by
  simp only[cQ,List.mem_append,List.mem_singleton]at hx
  rcases hx with hx|rfl
  ·exact xA l G g x hx
  ·simp only[dV,NL,br,cE]
   omega
theorem Er(l:Option (List Int)):(eG l).2<=8:=yT _ _ _
theorem zT(l:Option (List Int)) (G:Nat):∀g,1<=g->g<=G->G<=3->1<=(cQ l G g).2
 |0,h,_,_=>by omega
 |1,_,h1,h3=>by
  simp only[cQ,br,cE,cnt]
  split<;>split<;>simp_all<;>omega
 |g+2,_,h1,h3=>by
  have:=zT l G (g+1) (by omega) (by omega) h3
  rw[cQ];simp only;omega
theorem vU(l:Option (List Int)):1<=gz l/\gz l<=3:=by
 have:=bE l 0 (n:=3) (by decide) (by decide)
 unfold gz;omega
theorem B4(l:Option (List Int)):1<=(eG l).2:=zT l _ _ (vU l).1 (Nat.le_refl _) (vU l).2
theorem B5{l:Option (List Int)} {t:Tb} (hg:t.groups=some (eG l).1) (h1:t.phases.length=8) (h2:t.conflict.length=8) (h3:t.cB.length=8) (h4:(t.aM.getD []).length<=1048576) (h5:(t.bQ.getD []).length<=1048576) (h6:(t.jC.getD []).length<=1048576):t.Ok:=by
 refine⟨h1,h2,h3,?_,?_,h4,h5,h6⟩
 ·rw[hg];simp only[Option.getD_some,eG,vT];have:=vU l;omega
 ·rw[hg];simp only[Option.getD_some]
  intro g hg'
  have:=xA _ _ _ g hg'
  omega
theorem Jb(l:Option (List Int)) (n d:Int) (j:Nat):jV l n d (j+1)=jV l n d j++[gW l (180+8*(d-j)) n]:=by simp[jV,List.range_succ]
theorem yV(l:Option (List Int)) (n d:Int) (j:Nat):(jV l n d j).length=j:=by simp[jV]
theorem Hf(t:Tb) (l:Option (List Int)) (n d:Int) (j:Nat):f8 t l n d (j+1)=f8 t l n d j++[sV t l (260+16*(d-j)) n]:=by simp[f8,List.range_succ]
theorem B6(t:Tb) (l:Option (List Int)) (n d:Int) (j:Nat):(f8 t l n d j).length=j:=by simp[f8]
theorem Jc(l:Option (List Int)) (n d:Int) (j:Nat):nS l n d (j+1)=nS l n d j++[Kf l n (d-j)]:=by simp[nS,List.range_succ]
theorem yW(l:Option (List Int)) (n d:Int) (j:Nat):(nS l n d j).length=j:=by simp[nS]
theorem nL.len(d:nL):d.cells.length=7:=rfl
theorem Bs.len(d:Bs):d.cells.length=2:=rfl
theorem dX(l:Option (List Int)):(bn l).cB.length=8:=by
 unfold bn;simp only;split<;>simp[mZ]
theorem nU(l:Option (List Int)):((bn l).aM.getD []).length<=1048576:=by
 have:=bE l 175 (n:=9) (by decide) (by decide)
 simp only[bn,dV,yV];omega
theorem qA(l:Option (List Int)):((bn l).bQ.getD []).length<=1048576:=by
 have h:=Int.tmod_lt_of_pos (dA l 176 4) (b:=3) (by decide)
 simp only[bn,dV,B6];omega
theorem FA(l:Option (List Int)):((bn l).jC.getD []).length<=1048576:=by
 have:=bE l 177 (n:=3) (by decide) (by decide)
 simp only[bn,dV,yW];omega
theorem B7(l:Option (List Int)):(gh l).Ok:=B5 rfl (ew l _) (dW _) (dX l) (nU l) (qA l) (FA l)
section
variable{P:Program} (hm:P.follows .mixedOrders=true) {f:Nat}
include hm
theorem Table.ok {fR fP fB fF fW fD eD fr eR eB fw:Nat} (hc:bF P f=some (mU fR fP fB fF fW fD eD fr eR eB fw)) (hR:rows.Spec (Pure P) fR) (hP:phase.Spec (Pure P) fP) (hB:beside.Spec (Pure P) fB) (hF:from.Spec (Pure P) fF) (hW:uk.Spec (Pure P) fW)
    (hD:sU.Spec (Pure P) fD) (hr:NH.Spec (Pure P) fr) (hw:wait.Spec (Pure P) fw):Table.Spec (Pure P) f:=by
  intro l
  refine ak hm hc (by show 1≤186; decide) (aj (keep:=[0,3,8,9,12,15,18]) (i:=0) ?_)
  try simp only [RY,↓ KW,seval,mU,Z.H,QS]
  have ok0:nD.Ok:=⟨rfl,rfl,rfl,by simp [nD],by simp [nD],by simp [nD],by simp [nD],by simp [nD]⟩
  refine ⟨rfl,aU (hR nD l ok0 rfl) ?_⟩
  have hN:=Er l
  have hN1:=B4 l
  try simp only [I,RY,seval]
  change aw _ _ _ (⟨[(5,_),(4,.dat (I ((eG l).2:Nat)) none),(14,_),(13,_),(3,_),(2,_),(0,_)],[(5,⟨(jb l 0).cells,[]⟩),_],_,_⟩:S)
  generalize hNe:(eG l).2=N at *
  refine lJ (.exit 0) (fun _:Unit=>(⟨[(4,.dat (I N) none),(3,.ptr 5 0),(0,.dat (aH aD l) none),(2,.ptr 4 0)],[(5,⟨(jb l N).cells,[]⟩),(4,⟨nD.cells,[]⟩)],[],400⟩:S)) (fun _=>True) (fun _=>rfl) ?_ ?_
  · refine aG (fun k:Nat=>(⟨[(5,.dat (I k) none),(4,.dat (I N) none),(3,.ptr 5 0),(0,.dat (aH aD l) none),(2,.ptr 4 0)],[(5,⟨(jb l k).cells,[]⟩),(4,⟨nD.cells,[]⟩)],[],400⟩:S)) (fun k=>N - k) (fun k=>k≤N) ?_ 0 (by omega) ?_
    · intro k hk A back
      have hw3:=aB (k:=k) (by omega)
      have hw2:IntKind.i64.wrap (10 + IntKind.i64.wrap (12 * (k:Int)))=10 + 12 * k:=by rw [aW (n:=12 * (k:Int)) (by omega) (by omega),aW (by omega) (by omega)]
      have ln1:(jb l k).Ln:=⟨ew l k,rfl,mZ k⟩
      have ln2:({ jb l k with phases:=(jb l k).phases.set k (nO l (10 + 12 * k)) }:Tb).Ln:=⟨by simp [ew,jb],rfl,mZ k⟩
      try simp only [I,RY,↓ KW,seval]
      refine ax (fun h=>?_) (fun h=>?_)<;>try simp only [RY,↓ KW,seval,h]
      · have hkN:k < N:=by have:=of_decide_eq_true h; omega
        have hlt:k < 8:=by omega
        have hs1:=ln1.LD hlt (nO l (10 + 12 * k))
        have hs2:=ln2.Eo hlt 1
        have hs3:({ ({ jb l k with phases:=(jb l k).phases.set k (nO l (10 + 12 * k)) }:Tb) with cB:=({ jb l k with phases:=(jb l k).phases.set k (nO l (10 + 12 * k)) }:Tb).cB.set k 1 }:Tb)=jb l (k + 1):=rfl
        rw [hs3] at hs2
        have hl1:=ln1.len
        have hl2:=ln2.len
        generalize ({ jb l k with phases:=(jb l k).phases.set k (nO l (10 + 12 * k)) }:Tb)=T at *
        refine af (hP _ _) ?_
        try simp only [RY,↓ KW,seval,hw2,hs1]
        exact ⟨by omega,Ph.len _,by omega,by omega,by omega,by refine back (k + 1) _ (by omega) (by omega) (ai (by decide) ?_ ?_ ?_ ?_)<;>simp [LX,I,hs2,hw3]⟩
      · have:k=N:=by have:=of_decide_eq_false h; omega
        subst this
        refine dL () trivial ?_
        refine ai (by decide) ?_ ?_ ?_ ?_<;>simp [LX]
    · refine ai (by decide) ?_ ?_ ?_ ?_<;>simp [LX,I]
  · intro _ _
    try simp only [I,RY,↓ KW,seval]
    generalize ht1:({ nD with groups:=some (eG l).1 }:Tb)=t1 at *
    have hA:jb l N=gY l (gK t1 l 0):=by subst hNe; rfl
    refine lJ (.exit 2) (fun _:Unit=>(⟨[(4,.dat (I N) none),(3,.ptr 5 0),(0,.dat (aH aD l) none),(2,.ptr 4 0)],[(5,⟨(gY l (gK t1 l N)).cells,[]⟩),(4,⟨nD.cells,[]⟩)],[],400⟩:S)) (fun _=>True) (fun _=>rfl) ?_ ?_
    · refine aG (fun p:Nat=>(⟨[(6,.dat (I p) none),(4,.dat (I N) none),(3,.ptr 5 0),(0,.dat (aH aD l) none),(2,.ptr 4 0)],[(5,⟨(gY l (gK t1 l p)).cells,[]⟩),(4,⟨nD.cells,[]⟩)],[],400⟩:S)) (fun p=>N - p) (fun p=>p≤N) ?_ 0 (by omega) ?_
      · intro p hp A back
        have hw3:=aB (k:=p) (by omega)
        try simp only [I,RY,↓ KW,seval]
        refine ax (fun h=>?_) (fun h=>?_)<;>try simp only [RY,↓ KW,seval,h]
        · have hpN:p < N:=by have:=of_decide_eq_true h; omega
          have hlt:p < 8:=by omega
          have hcl:gK t1 l (p + 1)=jI t1 l p p (gK t1 l p):=rfl
          have hcl8:=dW (t:=t1) (l:=l) p
          generalize gK t1 l p=c0 at *
          refine aG (fun q:Nat=>(⟨[(7,.dat (I q) none),(6,.dat (I p) none),(4,.dat (I N) none),(3,.ptr 5 0),(0,.dat (aH aD l) none),(2,.ptr 4 0)],[(5,⟨(gY l (jI t1 l p q c0)).cells,[]⟩),(4,⟨nD.cells,[]⟩)],[],400⟩:S)) (fun q=>p - q) (fun q=>q≤p) ?_ 0 (by omega) ?_
          · intro q hq A2 back2
            have hw4:=aB (k:=q) (by omega)
            have hst:jI t1 l p (q + 1) c0=gX t1 l p q (jI t1 l p q c0):=rfl
            have hc8:(jI t1 l p q c0).length=8:=by rw [sX,hcl8]
            generalize hce:jI t1 l p q c0=c at *
            have okB:(gY l c).Ok:=B5 rfl (ew l _) hc8 (mZ _) (by simp [gY,jb,nD]) (by simp [gY,jb,nD]) (by simp [gY,jb,nD])
            have hwh:=okB.ln.whole
            have hln:=okB.ln.len
            have hbs:mu (gY l c) p q=mu t1 p q:=by subst ht1; rfl
            have hix:IntKind.i64.wrap (IntKind.i64.wrap (110 + IntKind.i64.wrap (8 * (p:Int))) + q)=110 + 8 * p + q:=by
              rw [aW (n:=8 * (p:Int)) (by omega) (by omega),aW (n:=110 + 8 * (p:Int)) (by omega) (by omega),aW (by omega) (by omega)]
            try simp only [I,RY,↓ KW,seval]
            refine ax (fun h2=>?_) (fun h2=>?_)<;>try simp only [RY,↓ KW,seval,hwh,h2]
            · have hq8:q < p:=by have:=of_decide_eq_true h2; omega
              refine af (hB _ _ _ okB) ?_
              try simp only [B,RY,↓ KW,seval,hbs]
              repeat' (first | (refine af (hF _ _ _ (by decide)) ?_; try simp only [I,RY,↓ KW,seval]) | (((first | refine aV ?_ ?_ | refine ax ?_ ?_ | refine bC ?_ ?_)<;>intro h)<;>try simp only [RY,↓ KW,seval,hix,h]))
              · have hb:mu t1 p q=false:=by simp_all
                have hcc:qy t1 l p q=true:=by simp only [qy,hb]; simpa using h
                have hcs:gX t1 l p q c=(c.set p (jF (Ep c p) q)).set q (jF (Ep (c.set p (jF (Ep c p) q)) q) p):=by simp only [gX,hcc,if_true]
                have g1:c[p]? = some (Ep c p):=by simp [Ep,show p < c.length by omega]
                have g2:(c.set p (jF (Ep c p) q))[q]? = some (Ep (c.set p (jF (Ep c p) q)) q):=by simp [Ep,show q < c.length by omega]
                have ln2:(gY l (c.set p (jF (Ep c p) q))).Ln:=⟨ew l _,by simp [gY,hc8],mZ _⟩
                have l1:=okB.ln.nP (t:=gY l c) g1
                have l2:=ln2.nP g2
                have hs1:setCells (gY l c).cells (105 + p) [I (jF (Ep c p) q)]=(gY l (c.set p (jF (Ep c p) q))).cells:=okB.ln.xy hlt _
                have hs2:setCells (gY l (c.set p (jF (Ep c p) q))).cells (105 + q) [I (jF (Ep (c.set p (jF (Ep c p) q)) q) p)]=(gY l (gX t1 l p q c)).cells:=by rw [hcs]; exact ln2.xy (by omega) _
                have hln2:=ln2.len
                rw [← hst] at hs2
                simp only [I] at hs1 hs2
                generalize Ep (c.set p (jF (Ep c p) q)) q=v2 at *
                generalize Ep c p=v1 at *
                generalize c.set p (jF v1 q)=c2 at *
                refine ⟨by omega,?_⟩
                try simp only [I,RY,↓ KW,seval,l1]
                refine af (hW _ _) ?_
                try simp only [I,RY,↓ KW,seval,hs1]
                refine ⟨by omega,by omega,by omega,?_⟩
                try simp only [I,RY,↓ KW,seval,l2]
                refine af (hW _ _) ?_
                try simp only [I,RY,↓ KW,seval,hs1,hs2]
                exact ⟨by omega,by omega,by refine back2 (q + 1) _ (by omega) (by omega) (ai (by decide) ?_ ?_ ?_ ?_)<;>simp [LX,I,hw4]⟩
              · have hcs:gX t1 l p q c=c:=by
                  have hcc:qy t1 l p q=false:=by simp only [qy]; simp_all
                  simp [gX,hcc]
                refine back2 (q + 1) _ (by omega) (by omega) (ai (by decide) ?_ ?_ ?_ ?_)<;>simp [LX,I,hst,hcs,hw4]
              · have hcs:gX t1 l p q c=c:=by
                  have hcc:qy t1 l p q=false:=by simp only [qy]; simp_all
                  simp [gX,hcc]
                refine back2 (q + 1) _ (by omega) (by omega) (ai (by decide) ?_ ?_ ?_ ?_)<;>simp [LX,I,hst,hcs,hw4]
            · have:q=p:=by have:=of_decide_eq_false h2; omega
              subst this
              refine back (q + 1) _ (by omega) (by omega) (ai (by decide) ?_ ?_ ?_ ?_)<;>simp [LX,I,hcl,hce,hw3]
          · refine ai (by decide) ?_ ?_ ?_ ?_<;>simp [LX,I,jI]
        · have:p=N:=by have:=of_decide_eq_false h; omega
          subst this
          refine dL () trivial ?_
          refine ai (by decide) ?_ ?_ ?_ ?_<;>simp [LX]
      · refine ai (by decide) ?_ ?_ ?_ ?_<;>simp [LX,I,hA]
    · intro _ _
      have hn1:IntKind.i64.wrap ((N:Int) + 1)=N + 1:=aB (by omega)
      have hq:=bE l 174 (n:=(N:Int) + 1) (by omega) (by omega)
      have okB:(gY l (gK t1 l N)).Ok:=B5 rfl (ew l _) (dW _) (mZ _) (by simp [gY,jb,nD]) (by simp [gY,jb,nD]) (by simp [gY,jb,nD])
      have hln:=okB.ln.len
      have hpre:(bn l).cB=if dA l 174 (N + 1) < N then (DQ N).set (dA l 174 (N + 1)).toNat 2 else DQ N:=by subst hNe; rfl
      have hC:sY l={ gY l (gK t1 l N) with cB:=(bn l).cB }:=by subst hNe; subst ht1; rfl
      have hfB:(gY l (gK t1 l N)).cB=DQ N:=by subst hNe; rfl
      rw [Nk]
      refine lJ .normal (fun _:Unit=>(⟨[(4,.dat (I N) none),(3,.ptr 5 0),(0,.dat (aH aD l) none),(2,.ptr 4 0)],[(5,⟨(sY l).cells,[]⟩),(4,⟨nD.cells,[]⟩)],[],400⟩:S)) (fun _=>True) (fun _=>rfl) ?_ ?_
      · try simp only [I,RY,↓ KW,seval]
        refine af (hF _ _ _ (by omega)) ?_
        rw [hn1]
        generalize dA l 174 (N + 1)=q at *
        try simp only [I,RY,↓ KW,seval]
        refine ax (fun h=>?_) (fun h=>?_)<;>try simp only [RY,↓ KW,seval,h]
        · have hqN:q < N:=of_decide_eq_true h
          rw [if_pos hqN] at hpre
          have hs1:=okB.ln.Eo (i:=q.toNat) (by omega) 2
          have e:({ gY l (gK t1 l N) with cB:=(gY l (gK t1 l N)).cB.set q.toNat 2 }:Tb)=sY l:=by rw [hC,hfB,hpre]
          rw [e] at hs1
          simp only [I] at hs1
          refine ⟨by omega,by omega,?_⟩
          refine dL () trivial ?_
          refine ai (by decide) ?_ ?_ ?_ ?_<;>simp [LX,hs1]
        · have hqN:¬ q < N:=of_decide_eq_false h
          rw [if_neg hqN] at hpre
          have e:gY l (gK t1 l N)=sY l:=by rw [hC,hpre,← hfB]
          refine dL () trivial ?_
          refine ai (by decide) ?_ ?_ ?_ ?_<;>simp [LX,e]
      · intro _ _
        have hd:=bE l 175 (n:=9) (by decide) (by decide)
        have hD0:sY l=AF l []:=rfl
        have hDe:AF l (jV l N (dA l 175 9) (dA l 175 9).toNat)=yU l []:=by subst hNe; rfl
        try simp only [I,RY,↓ KW,seval]
        refine af (hF _ _ _ (by decide)) ?_
        generalize dA l 175 9=d at *
        try simp only [I,RY,↓ KW,seval]
        refine lJ (.exit 6) (fun _:Unit=>(⟨[(4,.dat (I N) none),(3,.ptr 5 0),(0,.dat (aH aD l) none),(2,.ptr 4 0)],[(5,⟨(AF l (jV l N d d.toNat)).cells,[]⟩),(4,⟨nD.cells,[]⟩)],[],400⟩:S)) (fun _=>True) (fun _=>rfl) ?_ ?_
        · refine aG (fun j:Nat=>(⟨[(9,.dat (I (d - j)) none),(4,.dat (I N) none),(3,.ptr 5 0),(0,.dat (aH aD l) none),(2,.ptr 4 0)],[(5,⟨(AF l (jV l N d j)).cells,if jV l N d j=[] then [] else [(113,0)]⟩),(4,⟨nD.cells,[]⟩)],bK (jV l N d j) 0 eD,400⟩:S)) (fun j=>d.toNat - j) (fun j=>j≤d.toNat) ?_ 0 (by omega) ?_
          · intro j hj A back
            have hw3:IntKind.i64.wrap (d - j - 1)=d - ((j + 1:Nat):Int):=by rw [aW (by omega) (by omega)]; omega
            have hix:IntKind.i64.wrap (180 + IntKind.i64.wrap (8 * (d - (j:Int))))=180 + 8 * (d - j):=by rw [aW (n:=8 * (d - (j:Int))) (by omega) (by omega),aW (by omega) (by omega)]
            have hnext:=Jb  l N d j
            have hlen:(jV l N d j).length=j:=yV ..
            generalize hL:jV l N d j=L at *
            generalize hx:gW l (180 + 8 * (d - j)) N=x at *
            have DD:(AF l L).Ok:=B5 rfl (ew l _) (dW _) (dX l) (by simp [AF,sY,gY,jb,nD,dV]; try omega) (by simp [AF,sY,gY,jb,nD]; try omega) (by simp [AF,sY,gY,jb,nD]; try omega)
            have ln:=DD.ln
            have hln:=ln.len
            have hwh:=ln.whole
            have hat:=ln.NI
            have hset:setCells (AF l L).cells 113 [aH nL.cells (some (L++[x]))]=(AF l (L++[x])).cells:=by rw [ln.NK (some (L++[x]))]; simp [AF,dH]
            have hatr:(AF l L).aM=dH L:=rfl
            rw [hatr] at hat
            simp only [bA,List.map_append,List.map_cons,List.map_nil] at hset
            cases L with
            | nil =>
              simp only [List.map_nil,List.nil_append,dH,if_true,de] at hset hat hnext
              try simp only [I,RY,↓ KW,seval,bK]
              refine ax (fun h=>?_) (fun h=>?_)<;>try simp only [RY,↓ KW,seval,hat,h]
              · have hj1:(0:Int) < d - j:=of_decide_eq_true h
                refine af (hD _ _ _ (by omega)) ?_
                try simp only [RY,↓ KW,seval,hix,hx,nL.len]
                try simp only [seval,hset]
                refine ⟨by omega,?_⟩
                refine back (j + 1) _ (by omega) (by omega) (ai (by decide) ?_ ?_ ?_ ?_)<;>simp [LX,I,hnext,hw3]
              · have hj1:¬ (0:Int) < d - j:=of_decide_eq_false h
                have:j=d.toNat:=by omega
                rw [← this,hL]
                refine dL () trivial ?_
                refine ai (by decide) ?_ ?_ ?_ ?_<;>simp [LX]
            | cons y ys =>
              simp only [dH,reduceCtorEq,if_false,bA] at hset hat hnext
              try simp only [I,RY,↓ KW,seval,bK]
              refine ax (fun h=>?_) (fun h=>?_)<;>try simp only [RY,↓ KW,seval,hat,h]
              · have hj1:(0:Int) < d - j:=of_decide_eq_true h
                refine af (hD _ _ _ (by omega)) ?_
                try simp only [RY,↓ KW,seval,hix,hx,nL.len]
                try simp only [RY,seval,hset]
                refine ⟨by simp at hlen ⊢; omega,by omega,?_⟩
                refine back (j + 1) _ (by omega) (by omega) (ai (by decide) ?_ ?_ ?_ ?_)<;>simp [LX,I,hnext,hw3]
              · have hj1:¬ (0:Int) < d - j:=of_decide_eq_false h
                have:j=d.toNat:=by omega
                rw [← this,hL]
                refine dL () trivial ?_
                refine ai (by decide) ?_ ?_ ?_ ?_<;>simp [LX]
          · refine ai (by decide) ?_ ?_ ?_ ?_<;>simp [LX,I,hD0,jV]
        · intro _ _
          have hr4:=bE l 176 (n:=4) (by decide) (by decide)
          have hr3:=Int.tmod_lt_of_pos (dA l 176 4) (b:=3) (by decide)
          have hr0:=Int.tmod_nonneg 3 hr4.1
          have hEe:yU l (f8 t1 l N ((dA l 176 4).tmod 3) ((dA l 176 4).tmod 3).toNat)=AG l []:=by subst hNe; subst ht1; rfl
          have hRl:(bn l).bQ=dH (f8 t1 l N ((dA l 176 4).tmod 3) ((dA l 176 4).tmod 3).toNat):=by subst hNe; subst ht1; rfl
          have hTab:gh l=B3 l (if f8 t1 l N ((dA l 176 4).tmod 3) ((dA l 176 4).tmod 3).toNat=[] then 0 else qU (bn l) N):=by subst hNe; subst ht1; rfl
          try simp only [I,RY,↓ KW,seval]
          refine af (hF _ _ _ (by decide)) ?_
          try simp only [I,RY,↓ KW,seval]
          generalize (dA l 176 4).tmod 3=r at *
          refine lJ (.exit 8) (fun _:Unit=>(⟨[(4,.dat (I N) none),(3,.ptr 5 0),(0,.dat (aH aD l) none),(2,.ptr 4 0)],[(5,⟨(yU l (f8 t1 l N r r.toNat)).cells,[]⟩),(4,⟨nD.cells,[]⟩)],[],400⟩:S)) (fun _=>True) (fun _=>rfl) ?_ ?_
          · refine aG (fun j:Nat=>(⟨[(10,.dat (I (r - j)) none),(4,.dat (I N) none),(3,.ptr 5 0),(0,.dat (aH aD l) none),(2,.ptr 4 0)],[(5,⟨(yU l (f8 t1 l N r j)).cells,if f8 t1 l N r j=[] then [] else [(114,0)]⟩),(4,⟨nD.cells,[]⟩)],bK (f8 t1 l N r j) 0 eR,400⟩:S)) (fun j=>r.toNat - j) (fun j=>j≤r.toNat) ?_ 0 (by omega) ?_
            · intro j hj A back
              have hw3:IntKind.i64.wrap (r - j - 1)=r - ((j + 1:Nat):Int):=by rw [aW (by omega) (by omega)]; omega
              have hix:IntKind.i64.wrap (260 + IntKind.i64.wrap (16 * (r - (j:Int))))=260 + 16 * (r - j):=by rw [aW (n:=16 * (r - (j:Int))) (by omega) (by omega),aW (by omega) (by omega)]
              have hro:∀ L',sV (yU l L') l (260 + 16 * (r - j)) N=sV t1 l (260 + 16 * (r - j)) N:=fun _=>by subst ht1; rfl
              have hnext:=Hf  t1 l N r j
              have hlen:(f8 t1 l N r j).length=j:=B6 ..
              generalize hL:f8 t1 l N r j=L at *
              generalize hx:sV t1 l (260 + 16 * (r - j)) N=x at *
              have DD:(yU l L).Ok:=B5 rfl (ew l _) (dW _) (dX l) (by simp [yU,sY,gY,jb,nD,nU]; try omega) (by simp [yU,sY,gY,jb,nD,dV]; try omega) (by simp [yU,sY,gY,jb,nD]; try omega)
              have ln:=DD.ln
              have hln:=ln.len
              have hwh:=ln.whole
              have hat:=ln.NJ
              have hset:setCells (yU l L).cells 114 [aH Rl.cells (some (L++[x]))]=(yU l (L++[x])).cells:=by rw [ln.LF (some (L++[x]))]; simp [yU,dH]
              have hatr:(yU l L).bQ=dH L:=rfl
              rw [hatr] at hat
              simp only [bA,List.map_append,List.map_cons,List.map_nil] at hset
              cases L with
              | nil =>
                simp only [List.map_nil,List.nil_append,dH,if_true,de] at hset hat hnext
                try simp only [I,RY,↓ KW,seval,bK]
                refine ax (fun h=>?_) (fun h=>?_)<;>try simp only [RY,↓ KW,seval,hat,hwh,h]
                · have hj1:(0:Int) < r - j:=of_decide_eq_true h
                  refine af (hr _ _ _ _ DD (by omega) (by omega)) ?_
                  try simp only [RY,↓ KW,seval,hix,hro,Rl.len]
                  try simp only [seval,hset]
                  refine ⟨by omega,?_⟩
                  refine back (j + 1) _ (by omega) (by omega) (ai (by decide) ?_ ?_ ?_ ?_)<;>simp [LX,I,hnext,hw3]
                · have hj1:¬ (0:Int) < r - j:=of_decide_eq_false h
                  have:j=r.toNat:=by omega
                  rw [← this,hL]
                  refine dL () trivial ?_
                  refine ai (by decide) ?_ ?_ ?_ ?_<;>simp [LX]
              | cons y ys =>
                simp only [dH,reduceCtorEq,if_false,bA] at hset hat hnext
                try simp only [I,RY,↓ KW,seval,bK]
                refine ax (fun h=>?_) (fun h=>?_)<;>try simp only [RY,↓ KW,seval,hat,hwh,h]
                · have hj1:(0:Int) < r - j:=of_decide_eq_true h
                  refine af (hr _ _ _ _ DD (by omega) (by omega)) ?_
                  try simp only [RY,↓ KW,seval,hix,hro,Rl.len]
                  try simp only [RY,seval,hset]
                  refine ⟨by simp at hlen ⊢; omega,by omega,?_⟩
                  refine back (j + 1) _ (by omega) (by omega) (ai (by decide) ?_ ?_ ?_ ?_)<;>simp [LX,I,hnext,hw3]
                · have hj1:¬ (0:Int) < r - j:=of_decide_eq_false h
                  have:j=r.toNat:=by omega
                  rw [← this,hL]
                  refine dL () trivial ?_
                  refine ai (by decide) ?_ ?_ ?_ ?_<;>simp [LX]
            · refine ai (by decide) ?_ ?_ ?_ ?_<;>simp [LX,I,hDe,f8]
          · intro _ _
            have hb3:=bE l 177 (n:=3) (by decide) (by decide)
            have hFe:AG l (nS l N (dA l 177 3) (dA l 177 3).toNat)={ bn l with extend:=0,gx:=0,start:=0,revert:=0,least:=0,share:=0 }:=by subst hNe; rfl
            have hu:0≤IntKind.u64.wrap (N:Int):=by rw [IntKind.wrap]; simp [IntKind.signed]; omega
            try simp only [I,RY,↓ KW,seval]
            refine af (hF _ _ _ (by decide)) ?_
            generalize dA l 177 3=b at *
            try simp only [I,RY,↓ KW,seval]
            refine lJ (.exit 10) (fun _:Unit=>(⟨[(4,.dat (I N) none),(3,.ptr 5 0),(0,.dat (aH aD l) none),(2,.ptr 4 0)],[(5,⟨(AG l (nS l N b b.toNat)).cells,[]⟩),(4,⟨nD.cells,[]⟩)],[],400⟩:S)) (fun _=>True) (fun _=>rfl) ?_ ?_
            · refine aG (fun j:Nat=>(⟨[(11,.dat (I (b - j)) none),(4,.dat (I N) none),(3,.ptr 5 0),(0,.dat (aH aD l) none),(2,.ptr 4 0)],[(5,⟨(AG l (nS l N b j)).cells,if nS l N b j=[] then [] else [(115,0)]⟩),(4,⟨nD.cells,[]⟩)],bK (nS l N b j) 0 eB,400⟩:S)) (fun j=>b.toNat - j) (fun j=>j≤b.toNat) ?_ 0 (by omega) ?_
              · intro j hj A back
                have hw3:IntKind.i64.wrap (b - j - 1)=b - ((j + 1:Nat):Int):=by rw [aW (by omega) (by omega)]; omega
                have hi1:IntKind.i64.wrap (330 + IntKind.i64.wrap (2 * (b - (j:Int))))=330 + 2 * (b - j):=by rw [aW (n:=2 * (b - (j:Int))) (by omega) (by omega),aW (by omega) (by omega)]
                have hi2:IntKind.i64.wrap (331 + IntKind.i64.wrap (2 * (b - (j:Int))))=331 + 2 * (b - j):=by rw [aW (n:=2 * (b - (j:Int))) (by omega) (by omega),aW (by omega) (by omega)]
                have hbx:(Kf l N (b - j)).cells=[AV.int .i64 (if dw .i64 (dA l (330 + 2 * (b - j)) 256) (IntKind.i64.wrap (IntKind.i64.wrap (1 * 2 ^ min (IntKind.u64.wrap (N:Int)).toNat IntKind.i64.bits) - 1)) > 1 then dw .i64 (dA l (330 + 2 * (b - j)) 256) (IntKind.i64.wrap (IntKind.i64.wrap (1 * 2 ^ min (IntKind.u64.wrap (N:Int)).toNat IntKind.i64.bits) - 1)) else 1),AV.int .i64 (IntKind.i64.wrap (1 + dA l (331 + 2 * (b - j)) 30))]:=rfl
                have hnext:=Jc  l N b j
                have hlen:(nS l N b j).length=j:=yW ..
                generalize hL:nS l N b j=L at *
                generalize hx:Kf l N (b - j)=x at *
                have DD:(AG l L).Ok:=B5 rfl (ew l _) (dW _) (dX l) (by simp [AG,sY,gY,jb,nD,nU]; try omega) (by simp [AG,sY,gY,jb,nD,qA]; try omega) (by simp [AG,sY,gY,jb,nD,dV]; try omega)
                have ln:=DD.ln
                have hln:=ln.len
                have hwh:=ln.whole
                have hat:=ln.YP
                have hset:setCells (AG l L).cells 115 [aH Bs.cells (some (L++[x]))]=(AG l (L++[x])).cells:=by rw [ln.LG (some (L++[x]))]; simp [AG,dH]
                have hatr:(AG l L).jC=dH L:=rfl
                rw [hatr] at hat
                simp only [bA,List.map_append,List.map_cons,List.map_nil] at hset
                cases L with
                | nil =>
                  simp only [List.map_nil,List.nil_append,dH,if_true,de] at hset hat hnext
                  try simp only [I,RY,↓ KW,seval,bK]
                  refine ax (fun h=>?_) (fun h=>?_)<;>try simp only [RY,↓ KW,seval,hat,h]
                  · have hj1:(0:Int) < b - j:=of_decide_eq_true h
                    refine af (hF _ _ _ (by decide)) ?_
                    try simp only [I,RY,↓ KW,seval,hi1]
                    refine ⟨hu,?_⟩
                    refine af (hF _ _ _ (by decide)) ?_
                    try simp only [I,RY,↓ KW,seval,hi2]
                    simp only [gt_iff_lt] at hbx ⊢
                    rw [hbx] at hset
                    try simp only [seval,hset]
                    refine ⟨by omega,?_⟩
                    refine back (j + 1) _ (by omega) (by omega) (ai (by decide) ?_ ?_ ?_ ?_)<;>simp [LX,I,hnext,hw3]
                  · have hj1:¬ (0:Int) < b - j:=of_decide_eq_false h
                    have:j=b.toNat:=by omega
                    rw [← this,hL]
                    refine dL () trivial ?_
                    refine ai (by decide) ?_ ?_ ?_ ?_<;>simp [LX]
                | cons y ys =>
                  simp only [dH,reduceCtorEq,if_false,bA] at hset hat hnext
                  try simp only [I,RY,↓ KW,seval,bK]
                  refine ax (fun h=>?_) (fun h=>?_)<;>try simp only [RY,↓ KW,seval,hat,h]
                  · have hj1:(0:Int) < b - j:=of_decide_eq_true h
                    refine af (hF _ _ _ (by decide)) ?_
                    try simp only [I,RY,↓ KW,seval,hi1]
                    refine ⟨hu,?_⟩
                    refine af (hF _ _ _ (by decide)) ?_
                    try simp only [I,RY,↓ KW,seval,hi2]
                    simp only [gt_iff_lt] at hbx ⊢
                    rw [hbx] at hset
                    try simp only [RY,seval,hset,Bs.len]
                    refine ⟨by simp at hlen ⊢; omega,by omega,?_⟩
                    refine back (j + 1) _ (by omega) (by omega) (ai (by decide) ?_ ?_ ?_ ?_)<;>simp [LX,I,hnext,hw3]
                  · have hj1:¬ (0:Int) < b - j:=of_decide_eq_false h
                    have:j=b.toNat:=by omega
                    rw [← this,hL]
                    refine dL () trivial ?_
                    refine ai (by decide) ?_ ?_ ?_ ?_<;>simp [LX]
              · refine ai (by decide) ?_ ?_ ?_ ?_<;>simp [LX,I,hEe,nS]
            · intro _ _
              have n0:({ bn l with extend:=0,gx:=0,start:=0,revert:=0,least:=0,share:=0 }:Tb).Ln:=⟨ew l _,dW _,dX l⟩
              have n1:({ bn l with gx:=0,start:=0,revert:=0,least:=0,share:=0 }:Tb).Ln:=⟨ew l _,dW _,dX l⟩
              have n2:({ bn l with start:=0,revert:=0,least:=0,share:=0 }:Tb).Ln:=⟨ew l _,dW _,dX l⟩
              have n3:({ bn l with revert:=0,least:=0,share:=0 }:Tb).Ln:=⟨ew l _,dW _,dX l⟩
              have n4:({ bn l with least:=0,share:=0 }:Tb).Ln:=⟨ew l _,dW _,dX l⟩
              have n5:({ bn l with share:=0 }:Tb).Ln:=⟨ew l _,dW _,dX l⟩
              have s0:setCells ({ bn l with extend:=0,gx:=0,start:=0,revert:=0,least:=0,share:=0 }:Tb).cells 116 [AV.int .i64 (dA l 178 12)]=({ bn l with gx:=0,start:=0,revert:=0,least:=0,share:=0 }:Tb).cells:=(n0.sW (dA l 178 12)).1
              have s1:setCells ({ bn l with gx:=0,start:=0,revert:=0,least:=0,share:=0 }:Tb).cells 117 [AV.int .i64 (dA l 179 40)]=({ bn l with start:=0,revert:=0,least:=0,share:=0 }:Tb).cells:=(n1.sW (dA l 179 40)).2.1
              have s2:setCells ({ bn l with start:=0,revert:=0,least:=0,share:=0 }:Tb).cells 118 [AV.int .i64 (dA l 180 8)]=({ bn l with revert:=0,least:=0,share:=0 }:Tb).cells:=(n2.sW (dA l 180 8)).2.2.1
              have s3:setCells ({ bn l with revert:=0,least:=0,share:=0 }:Tb).cells 119 [AV.int .i64 (dA l 181 8)]=({ bn l with least:=0,share:=0 }:Tb).cells:=(n3.sW (dA l 181 8)).2.2.2.1
              have s4:setCells ({ bn l with least:=0,share:=0 }:Tb).cells 120 [AV.int .i64 (dA l 182 12)]=({ bn l with share:=0 }:Tb).cells:=(n4.sW (dA l 182 12)).2.2.2.2
              have s5:setCells ({ bn l with share:=0 }:Tb).cells 130 [AV.int .i64 (dA l 183 4)]=(bn l).cells:=(n5.mY (dA l 183 4)).2
              have k0:=n0.len
              have k1:=n1.len
              have k2:=n2.len
              have k3:=n3.len
              have k4:=n4.len
              have k5:=n5.len
              rw [hFe]
              generalize ({ bn l with extend:=0,gx:=0,start:=0,revert:=0,least:=0,share:=0 }:Tb)=T0 at *
              generalize ({ bn l with gx:=0,start:=0,revert:=0,least:=0,share:=0 }:Tb)=T1 at *
              generalize ({ bn l with start:=0,revert:=0,least:=0,share:=0 }:Tb)=T2 at *
              generalize ({ bn l with revert:=0,least:=0,share:=0 }:Tb)=T3 at *
              generalize ({ bn l with least:=0,share:=0 }:Tb)=T4 at *
              generalize ({ bn l with share:=0 }:Tb)=T5 at *
              have c0:117≤T0.cells.length:=by omega
              have c1:118≤T1.cells.length:=by omega
              have c2:119≤T2.cells.length:=by omega
              have c3:120≤T3.cells.length:=by omega
              have c4:121≤T4.cells.length:=by omega
              have c5:131≤T5.cells.length:=by omega
              try simp only [I,RY,↓ KW,seval]
              refine af (hF _ _ _ (by decide)) ?_
              try simp only [I,RY,↓ KW,seval,c0]
              refine af (hF _ _ _ (by decide)) ?_
              try simp only [I,RY,↓ KW,seval,s0,c1]
              refine af (hF _ _ _ (by decide)) ?_
              try simp only [I,RY,↓ KW,seval,s1,c2]
              refine af (hF _ _ _ (by decide)) ?_
              try simp only [I,RY,↓ KW,seval,s2,c3]
              refine af (hF _ _ _ (by decide)) ?_
              try simp only [I,RY,↓ KW,seval,s3,c4]
              refine af (hF _ _ _ (by decide)) ?_
              try simp only [I,RY,↓ KW,seval,s4,s5,c5]
              have hT:gh l=B3 l (if f8 t1 l N r r.toNat=[] then 0 else qU (bn l) N):=hTab
              have hW0:bn l=B3 l (if f8 t1 l N r r.toNat=[] then 0 else qU (bn l) 0):=by
                have:(if f8 t1 l N r r.toNat=[] then (0:Int) else qU (bn l) 0)=0:=by split<;>rfl
                rw [this]; rfl
              replace hW0:=congrArg Tb.cells hW0
              generalize f8 t1 l N r r.toNat=R at *
              refine lJ (.exit 12) (fun _:Unit=>(⟨[(3,.ptr 5 0),(2,.ptr 4 0)],[(5,⟨(gh l).cells,[]⟩),(4,⟨nD.cells,[]⟩)],[],400⟩:S)) (fun _=>True) (fun _=>rfl) ?_ ?_
              · refine aG (fun k:Nat=>(⟨[(12,.dat (I k) none),(4,.dat (I N) none),(3,.ptr 5 0),(2,.ptr 4 0)],[(5,⟨(B3 l (if R=[] then 0 else qU (bn l) k)).cells,[]⟩),(4,⟨nD.cells,[]⟩)],[],400⟩:S)) (fun k=>N - k) (fun k=>k≤N∧(R=[]→k=0)) ?_ 0 (by simp) ?_
                · intro k ⟨hk,hR0⟩ A back
                  have hw3:=aB (k:=k) (by omega)
                  have hwt:∀ w,oV (B3 l w) k=oV (bn l) k:=fun _=>rfl
                  have hnx:qU (bn l) (k + 1)=if oV (bn l) k > qU (bn l) k then oV (bn l) k else qU (bn l) k:=rfl
                  generalize hwv:(if R=[] then (0:Int) else qU (bn l) k)=wv at *
                  have okW:(B3 l wv).Ok:=B5 rfl (ew l _) (dW _) (dX l) (nU l) (qA l) (by have:=bE l 177 (n:=3) (by decide) (by decide); simp only [B3,bn,dV,yW]; omega)
                  have ln:=okW.ln
                  have hln:=ln.len
                  have hwh:=ln.whole
                  have hat:=ln.NJ
                  have hat2:=ln.YQ
                  have hrr:(B3 l wv).bQ=dH R:=hRl
                  have hww:(B3 l wv).mS=wv:=rfl
                  rw [hrr] at hat
                  rw [hww] at hat2
                  have hset:setCells (B3 l wv).cells 129 [AV.int .i64 (if oV (bn l) k > wv then oV (bn l) k else wv)]=(B3 l (if oV (bn l) k > wv then oV (bn l) k else wv)).cells:=(ln.mY _).1
                  have hmk:=dV R
                  try simp only [I,RY,↓ KW,seval]
                  repeat' (((first | refine aV ?_ ?_ | refine ax ?_ ?_ | refine bC ?_ ?_)<;>intro h)<;>try simp only [RY,↓ KW,seval,hat,hmk,h])
                  · have hRl0:=of_decide_eq_true h
                    have hkN:(k:Int) < N:=by rename_i h1; exact of_decide_eq_true h1
                    have hne:R≠[]:=by intro e; rw [e] at hRl0; simp at hRl0
                    rw [if_neg hne] at hwv
                    subst hwv
                    rw [← hnx] at hset
                    try simp only [I,RY,↓ KW,seval,hat2,hwh]
                    refine af (hw _ _ okW) ?_
                    try simp only [I,RY,↓ KW,seval,hwt,← hnx,hset,gt_iff_lt]
                    refine ⟨by omega,?_⟩
                    refine back (k + 1) _ ⟨by omega,fun e=>absurd e hne⟩ (by omega) ?_
                    refine ai (by decide) ?_ ?_ ?_ ?_<;>simp [LX,I,hne,hw3]
                  · have hRl0:=of_decide_eq_false h
                    have hR0':R=[]:=List.eq_nil_of_length_eq_zero (by omega)
                    rw [if_pos hR0'] at hwv hT
                    subst hwv
                    refine dL () trivial ?_
                    refine ai (by decide) ?_ ?_ ?_ ?_<;>simp [LX,hT]
                  · have hkN:k=N:=by have:=of_decide_eq_false h; omega
                    rw [← hkN,hwv] at hT
                    refine dL () trivial ?_
                    refine ai (by decide) ?_ ?_ ?_ ?_<;>simp [LX,hT]
                · refine ai (by decide) ?_ ?_ ?_ ?_<;>simp [LX,I,hW0]
              · intro _ _
                have okZ:(gh l).Ok:=B7 l
                have hlz:=okZ.ln.len
                have hwz:=okZ.ln.whole
                have hl0:=ok0.ln.len
                have hsz:setCells nD.cells 0 (gh l).cells=(gh l).cells:=bk (by omega)
                try simp only [RY,↓ KW,seval,hwz,hlz,hl0,hsz]
end
def bv(s:Int):BitVec 64:=BitVec.ofInt 64 s
def tb(s:Int) (i:Nat):Bool:=(bv s).getLsbD i
theorem Hg(n:Int):IntKind.i64.wrap n%18446744073709551616=n%18446744073709551616:=by
 simp only[IntKind.wrap,IntKind.bits,IntKind.signed];simp
 split<;>omega
theorem Kg(n:Int):bv (IntKind.i64.wrap n)=bv n:=by
 unfold bv
 apply BitVec.eq_of_toNat_eq
 have:=Hg n
 simp only[BitVec.toNat_ofInt]
 have e:((2^64:Nat):Int)=18446744073709551616:=by decide
 rw[e,this]
theorem Jd(b:BitVec 64):bv (b.toNat:Int)=b:=by
 unfold bv;rw[BitVec.ofInt_natCast];simp
theorem bv_and(x y:Int):bv (dw .i64 x y)=bv x&&&bv y:=by
 simp only[dw,Kg];exact Jd _
theorem YS(x y:Int):bv (yE .i64 x y)=bv x|||bv y:=by
 simp only[yE,Kg];exact Jd _
theorem wrap_zero{b:BitVec 64}:IntKind.i64.wrap (b.toNat:Int)=0↔b=0:=by
 constructor
 ·intro h
  have:=Hg (b.toNat:Int)
  rw[h]at this
  apply BitVec.eq_of_toNat_eq
  simp only[BitVec.toNat_zero,BitVec.ofNat_eq_ofNat]at*;omega
 ·rintro rfl;decide
theorem and_zero{x y:Int}:dw .i64 x y=0↔∀i,i<64->(tb x i&&tb y i)=false:=by
 rw[show dw .i64 x y=IntKind.i64.wrap ((bv x&&&bv y).toNat:Int)from rfl,wrap_zero]
 constructor
 ·intro h i hi;have:=congrArg (fun b=>b.getLsbD i) h;simpa[tb]using this
 ·intro h;apply BitVec.eq_of_getLsbD_eq;intro i hi;simpa[tb]using h i hi
theorem FB(x y:Int) (i:Nat):tb (dw .i64 x y) i=(tb x i&&tb y i):=by simp[tb,bv_and]
theorem SG(x y:Int) (i:Nat):tb (yE .i64 x y) i=(tb x i||tb y i):=by simp[tb,YS]
theorem AQ(i:Nat):tb 0 i=false:=by simp[tb,bv]
theorem FC(i:Nat):tb 255 i=decide (i<8):=by
 have:bv 255=255#64:=rfl
 simp only[tb,this,BitVec.getLsbD_ofNat]
 by_cases h:i<8
 ·have:i=0\/i=1\/i=2\/i=3\/i=4\/i=5\/i=6\/i=7:=by omega
  rcases this with rfl|rfl|rfl|rfl|rfl|rfl|rfl|rfl<;>decide
 ·simp only[h,decide_false,Bool.and_eq_false_imp]
  intro _
  apply Nat.testBit_lt_two_pow
  exact Nat.lt_of_lt_of_le (by decide:255<2^8) (Nat.pow_le_pow_right (by decide) (by omega))
theorem Je{p:Nat} (hp:p<8) (i:Nat):tb (2^p) i=decide (i=p):=by
 have e:bv (2^p)=BitVec.twoPow 64 p:=by
  have:p=0\/p=1\/p=2\/p=3\/p=4\/p=5\/p=6\/p=7:=by omega
  rcases this with rfl|rfl|rfl|rfl|rfl|rfl|rfl|rfl<;>rfl
 simp only[tb,e,BitVec.getLsbD_twoPow]
 by_cases h:i=p<;>simp[h]
 ·omega
 ·omega
theorem FD{p:Nat} (hp:p<8) (i:Nat):tb (oR p) i=decide (i=p):=by
 have:oR p=2^p:=by simp[oR];omega
 rw[this,Je hp]
theorem FE{s:Int} {p:Nat} (hp:p<8):ej s p=tb s p:=by
 have h:ej s p=!(dw .i64 s (oR p)==0):=rfl
 rw[h]
 cases ht:tb s p with
 |true=>
  have:¬dw .i64 s (oR p)=0:=by
   rw[and_zero];intro h;have:=h p (by omega);rw[ht,FD hp]at this;simp at this
  simp[this]
 |false=>
  have:dw .i64 s (oR p)=0:=by
   rw[and_zero];intro i _
   by_cases hi:i=p
   ·subst hi;rw[ht];rfl
   ·rw[FD hp];simp[hi]
  simp[this]
theorem ur{s:Int} {p:Nat} (hp:p<8) (i:Nat):tb (d9 s p) i=(tb s i&&decide (i<8)||decide (i=p)):=by
 simp only[d9,SG,FB,FC,FD hp]
theorem Kh(l:List Int):∀k,k<=8->∀i,tb (vR l k) i=(decide (i<k)&&decide ((i:Int)∈l))
 |0,_,i=>by simp[vR,AQ]
 |k+1,h,i=>by
  have ih:=Kh l k (by omega) i
  simp only[vR];split
  ·rename_i hk
   rw[SG,ih,Je (by omega)]
   by_cases e:i=k
   ·subst e;simp[hk]
   ·have:(i<k+1)↔i<k:=by omega
    simp[e,this]
  ·rename_i hk
   rw[ih]
   by_cases e:i=k
   ·subst e;simp[hk]
   ·have:(i<k+1)↔i<k:=by omega
    simp[this]
theorem YT(l:List Int) (i:Nat):tb (SF l) i=(decide (i<8)&&decide ((i:Int)∈l)):=Kh l 8 (by omega) i
theorem B8(s:Int) {p:Nat} (hp:p<64):tb s p=decide (s.fdiv (2^p)%2=1):=by
 have e:(bv s).toNat=(s%18446744073709551616).toNat:=by
  simp only[bv,BitVec.toNat_ofInt];rfl
 have h1:tb s p=(bv s).toNat.testBit p:=rfl
 rw[h1,e,Nat.testBit_eq_decide_div_mod_eq]
 congr 1
 have hf:s.fdiv (2^p)=s/2^p:=Int.fdiv_eq_ediv_of_nonneg _ (Int.le_of_lt (Int.pow_pos (by decide)))
 rw[hf,eq_iff_iff]
 have h0:0<=s%18446744073709551616:=Int.emod_nonneg _ (by decide)
 have hc:(((s%18446744073709551616).toNat/2^p%2:Nat):Int)=(s%18446744073709551616)/2^p%2:=by
  push_cast [Int.toNat_of_nonneg h0];rfl
 have key:(s%18446744073709551616)/2^p%2=s/2^p%2:=by
  have hpw:(18446744073709551616:Int)=2^p*(2*2^(63-p)):=by
   rw[show(2:Int)^p*(2*2^(63-p))=2^(p+(1+(63-p)))by rw[Int.pow_add,Int.pow_add];rfl,show p+(1+(63-p))=64 by omega];rfl
  have h2:s=s%18446744073709551616+2^p*(2*2^(63-p)*(s/18446744073709551616)):=by
   have:=Int.emod_add_mul_ediv s 18446744073709551616
   rw[<-Int.mul_assoc,<-Int.mul_assoc,Int.mul_assoc (2^p),<-hpw];omega
  conv=>rhs;rw[h2]
  rw[Int.add_mul_ediv_left _ _ (Int.ne_of_gt (Int.pow_pos (by decide))),Int.mul_assoc,Int.add_mul_emod_self_left]
 rw[<-key,<-hc];omega
theorem Hh(x:Int):dw .i64 x 1=if tb x 0 then 1 else 0:=by
 have e:dw .i64 x 1=IntKind.i64.wrap ((bv x&&&1#64).toNat:Int):=rfl
 have e2:bv x&&&1#64=if tb x 0 then 1#64 else 0#64:=by
  apply BitVec.eq_of_getLsbD_eq
  intro i hi;simp only[BitVec.getLsbD_and,BitVec.getLsbD_one]
  by_cases h:i=0
  ·subst h;cases hx:tb x 0<;>simp[tb]at hx⊢<;>simp[hx]
  ·split<;>simp[h,BitVec.getLsbD_one]
 rw[e,e2];split<;>decide
theorem gZ{α:Type} {l:List α} {f:α->List AV} {n:Nat} (h:∀k,(f k).length=n):∀x∈l.map f,x.length=n:=by
 intro x hx;obtain⟨k,_,rfl⟩:=List.mem_map.1 hx;exact h k
theorem m7{α:Type} {l:List α} {f:α->List AV} {i:Nat} {x:List AV} (h:(l.map f)[i]? =some x):∃k,l[i]? =some k/\x=f k:=by
 rw[List.getElem?_map,Option.map_eq_some_iff]at h;obtain⟨k,h1,h2⟩:=h;exact⟨k,h1,h2.symm⟩
theorem ia{C:aS} {g:bB} {ps wr:List Nat} {as bd:aT} {Q:Exit->S->Prop} {s:S} {gv:AV} {xs:List (List AV)} {α:Type} (hd:α->S) (I:Nat->α->Prop)
  (hit:C.i gv xs) (hg:aF s g=some gv) (hlen:∀x∈xs,x.length=ps.length) (hgd:∀y,aF (hd y) g=some gv)
  (round:∀i x y,xs[i]? =some x->I i y->∀F:S->Prop,(∀z s,I (i+1) z->Le s (hd z)->Eng.down F s)->aw C as (r9 (aw C bd (IC wr F Q))) (oH ps x (hd y)))
  (fin:∀y,I xs.length y->Q .normal (hd y)) (y0:α) (hI0:I 0 y0) (h0:Le s (hd y0)):aw C (.mI g ps wr as bd) Q s:=
 Qz hd I hg hit hlen (.inl h0) hI0 hgd (fun i x y hx hy=>round i x y hx hy _ fun z s hz hle=>⟨hd z,.inl ⟨hle,z,rfl,hz⟩⟩) fin
section
open Z
def aP:List AV:=[.int .i64 0,.int .i64 0,.int .i64 0,.int .i64 0,.int .i64 0,.int .i64 0,.int .i64 0,.bool false,.bool false,.int .i64 0,.int .i64 0,.int .i64 0]
def qV(g0:Nat):bM:=⟨24,[.tmp 6],r [o 3 (w 0),o 4 (w 1),V 6 (i 0)] (r [o 7 (.alloc [i 0]),n (ss 7 (i 0) 1)] (j (r [o 9 (L 3 131),M 10 2,o 11 (.call g0 [t 9,t 10])] (u 0 (.mI (t 11) [12,13] [12,13,8,14,15,16,17,18,19,20,21,22] (R [M 8 12]) (u 1 (r [M 14 8,o 15 (f 4 0),o 16 (A 15 14 4 1),o 17 (l 16),o 18 (bb .leq 17 (i 0))] (c 18 (R [o 19 (l 7),M 20 8,o 21 (.bin .shl (k (i 1)) (t 20)),o 22 (b .or 19 21),n (s 7 22 1)]) z)))))) (r [o 23 (l 7),M 6 23] y)))⟩
def qW(g0 g1 g2 g3:Nat):bM:=⟨34,[.tmp 8],r [o 4 (w 0),o 5 (w 1),o 6 (w 2),V 8 (i 0)] (j (r [o 12 (f 5 5),o 13 (l 12),o 14 (f 4 117),o 15 (l 14),o 16 (b .geq 13 15)] (c 16 (r [V 8 (i 0)] y) z)) (r [o 9 (.alloc [i 0]),n (ss 9 (i 0) 1)] (j (r [o 17 (L 4 131),o 18 (L 4 131),o 19 (L 5 6),M 20 3,o 21 (.call g0 [t 18,t 19,t 20]),o 22 (.call g1 [t 17,t 21])] (u 0 (.mI (t 22) [23,24] [23,24,11,25,26,27,28] (R [o 11 (.alloc [i 0,i 0]),n (s 11 24 2)]) (u 1 (R [o 25 (l 9),o 26 (f 11 0),o 27 (l 26),o 28 (b .or 25 27),n (s 9 28 1)]))))) (.seq (.kL [o 29 (l 9),o 30 (L 6 96),o 31 (.rW (.func g2) [] [t 4]),o 32 (.call g3 [t 30,t 31]),o 33 (b .and 29 32),M 8 33] [(0,2),(1,2)]) y))))⟩
def oZ(g0 g1 g2 g3:Nat):bM:=⟨34,[.tmp 8],r [o 4 (w 0),o 5 (w 1),o 6 (w 2),V 8 (i 0)] (r [o 13 (L 6 96),o 14 (.call g0 [t 13,k (.fn (.func g1) [] [])]),o 9 (.alloc [i 0]),o 10 (.alloc [i 0]),n (s 9 14 1),n (ss 10 (i 0) 1)] (j (r [o 15 (L 4 131),o 16 (L 4 131),o 17 (L 5 6),M 18 3,o 19 (.call g2 [t 16,t 17,t 18]),o 20 (.call g3 [t 15,t 19])] (u 0 (.mI (t 20) [21,22] [21,22,12,23,24,25,26,27,28,29,30,31,32] (R [o 12 (.alloc [i 0,i 0]),n (s 12 22 2)]) (u 1 (r [o 23 (f 12 0),o 24 (l 23),o 25 (l 9),o 26 (b .and 24 25),o 27 (bb .eql 26 (i 0))] (c 27 (R [o 28 (l 10),o 29 (f 12 0),o 30 (l 29),o 31 (.bin .andNot (k (i 255)) (t 30)),o 32 (b .or 28 31),n (s 10 32 1)]) z)))))) (r [o 33 (l 10),M 8 33] y)))⟩
def qX(g0 g1 g2:Nat):bM:=⟨66,[.cell 10 (some 6)],r [o 5 (w 0),o 6 (w 1),o 7 (w 2),o 10 (.alloc [i 0,i 0,i 0,i 0,i 0,i 0])] (r [o 14 (L 5 131),o 15 (L 6 6),o 16 (l 7),o 17 (.call g0 [t 14,t 15,t 16]),o 18 (f 6 5),o 19 (l 18),o 20 (.build [i 0,i 0,i 0,i 0,i 0,i 0] [(4,1,t 17),(5,1,t 19)]),o 11 (.alloc [i 0,i 0,i 0,i 0,i 0,i 0]),n (s 11 20 6)] (j (r [M 21 4] (c 21 (R [o 22 (f 11 5),n (ss 22 (i 0) 1)]) z)) (j (r [M 23 3] (c 23 (R [o 24 (f 11 5),o 25 (l 24),o 26 (.call g1 [t 25]),o 27 (f 11 5),n (s 27 26 1)]) z)) (j (r [o 28 (L 5 131),o 29 (.call g2 [t 28,k (i 15)])] (u 0 (.mI (t 29) [30,31] [30,31,12,13,33,34,35,36,37,32,38,39,40,41,42,43,44,45,47,48,49,50,51,52,53,54,55,56,57,58,59,46,60,61,62,63,64] (r [M 12 30] (R [o 13 (.alloc [i 0,i 0]),n (s 13 31 2)])) (u 1 (u 2 (r [M 33 12,o 34 (f 6 0),o 35 (A 34 33 4 1),o 36 (l 35),o 37 (bb .gtr 36 (i 0)),M 32 37] (c 32 (R [M 38 12,M 39 12,o 40 (f 6 0),o 41 (A 40 39 4 1),o 42 (l 41),o 43 (bb .sub 42 (i 1)),o 44 (f 11 0),o 45 (A 44 38 4 1),n (s 45 43 1)]) (r [o 47 (f 6 4),o 48 (l 47),M 49 12,o 50 (b .shr 48 49),o 51 (bb .and 50 (i 1)),o 52 (bb .eql 51 (i 1)),M 53 52,p 54 (l 7) 53,p 55 (m 12) 53,p 56 (b .shr 54 55) 53,p 57 (bb .and 56 (i 1)) 53,p 58 (bb .eql 57 (i 0)) 53,o 59 (P 53 58),M 46 59] (c 46 (R [M 60 12,o 61 (f 13 1),o 62 (l 61),o 63 (f 11 0),o 64 (A 63 60 4 1),n (s 64 62 1)]) z))))))))) (r [o 65 (L 11 6),n (s 10 65 6)] y)))))⟩
def qY(g0:Nat):bM:=⟨6,[.tmp 4],r [o 2 (w 0),o 3 (w 1),V 4 .eK] (r [o 5 (.rW (.func g0) [] [t 2,t 3]),M 4 5] y)⟩
def o5(g0:Nat):bM:=⟨21,[.tmp 4],r [o 2 (w 0),V 4 (i 0)] (r [V 5 (i 0)] (j (r [o 8 (L 2 96),V 9 (i 0)] (u 0 (.loop (r [o 10 (bb .lss 9 (i 8))] (j (c 10 z (.exit 0)) (j (u 1 (r [M 11 9,o 12 (.DU (t 8) (t 9) 8 12 (some 12)),o 7 (.alloc aP),M 6 11,n (s 7 12 12)] (r [M 13 1,o 14 (L 7 12),o 15 (.eP (t 13) [t 14])] (c 15 (R [M 16 5,M 17 6,o 18 (.call g0 [t 16,t 17]),M 5 18]) z)))) (R [o 19 (bb .add 9 (i 1)),M 9 19]))))))) (r [M 20 5,M 4 20] y)))⟩
def nV:bM:=⟨14,[.tmp 3],r [o 2 (w 0),V 3 (F)] (r [o 4 (f 2 0),o 5 (l 4),o 6 (bb .eql 5 (i 1)),M 7 6,p 8 (f 2 6) 7,p 9 (l 8) 7,p 10 (f 1 116) 7,p 11 (l 10) 7,p 12 (b .lss 9 11) 7,o 13 (P 7 12),M 3 13] y)⟩
def m8:bM:=⟨6,[.tmp 2],r [o 1 (w 0),V 2 (F)] (r [o 3 (f 1 0),o 4 (l 3),o 5 (bb .eql 4 (i 1)),M 2 5] y)⟩
def qZ:bM:=⟨7,[.tmp 2],r [V 2 (i 0)] (r [M 3 0,o 4 (.mm true [t 3,k (i 0)]),o 5 (.mm false [t 4,k (i 9999)]),o 6 (bb .add 5 (i 1)),M 2 6] y)⟩
end
section
open Z
def vn:bM:=⟨15,[.tmp 2,.tmp 3],r [V 2 (i 0),V 3 (F)] (j (r [M 4 0,o 5 (bb .geq 4 (.float .f64 0)),M 6 5,p 7 (m 0) 6,p 8 (bb .leq 7 (.float .f64 4652006429231887155)) 6,o 9 (P 6 8),o 10 (.un .not (t 9))] (c 10 (r [V 2 (i 0),V 3 (F)] y) z)) (r [M 11 0,o 12 (.bin .mul (k (.float .f64 4621819117588971520)) (t 11)),o 13 (.xt .rte (t 12)),o 14 (.Gt .i64 (t 13)),M 2 14,V 3 (T)] y))⟩
end
open Ieee
set_option exponentiation.threshold 4000
def uu(n d:Nat):Nat:=n/2^d+(if 2^d<2*(n%2^d)\/(2^d=2*(n%2^d)/\n/2^d%2=1)then 1 else 0)
theorem bR(d:Nat):0<2^d:=Nat.two_pow_pos d
theorem NM(n d:Nat):uu n d<=n/2^d+1:=by unfold uu;split<;>omega
theorem NN(n d:Nat):n/2^d<=uu n d:=by unfold uu;omega
theorem NO(n:Nat):uu n 0=n:=by simp[uu,Nat.mod_one]
theorem mE(n d k:Nat):uu (n*2^k) (d+k)=uu n d:=by
 unfold uu;rw[Nat.pow_add,Nat.mul_div_mul_right _ _ (bR k),Nat.mul_mod_mul_right]
 have hk:=bR k
 have e1:(2^d*2^k<2*(n%2^d*2^k))↔(2^d<2*(n%2^d)):=by
  rw[<-Nat.mul_assoc];exact Nat.mul_lt_mul_right hk
 have e2:(2^d*2^k=2*(n%2^d*2^k))↔(2^d=2*(n%2^d)):=by
  rw[<-Nat.mul_assoc];exact Nat.mul_left_inj (by omega)
 simp only[e1,e2]
theorem xB{n n':Nat} (h:n<=n') (d:Nat):uu n d<=uu n' d:=by
 have hp:=bR d
 have hq:n/2^d<=n'/2^d:=Nat.div_le_div_right h
 by_cases he:n/2^d=n'/2^d
 ·unfold uu
  rw[he]
  have h1:=Nat.div_add_mod n (2^d)
  have h2:=Nat.div_add_mod n' (2^d)
  rw[he]at h1
  have hr:n%2^d<=n'%2^d:=by omega
  split<;>split<;>omega
 ·have h1:=NM n d
  have h2:=NN n' d
  omega
theorem LI{n d:Nat} (q:Nat):uu (q*2^d) d=q:=by
 have:=mE q 0 d
 rw[Nat.zero_add,NO]at this;exact this
theorem o6(n:Nat):n<2^(n.log2+1):=Nat.lt_log2_self
theorem Hi(s:Bool) (n d:Nat):Toward.even.cut s n d=uu n d:=by
 unfold Toward.cut;simp only[Nat.one_shiftLeft]
 by_cases hd:d<=n.log2+2
 ·rw[Nat.min_eq_left hd]
  unfold uu
  congr 1
  by_cases h1:2^d<2*(n%2^d)
  ·simp[h1]
  ·by_cases h2:2^d=2*(n%2^d)
   ·by_cases h3:n/2^d%2=1
    ·simp[<-h2,h3]
    ·simp[<-h2,h3]
   ·simp[h1,h2]
 ·rw[Nat.min_eq_right (by omega)]
  have hl:=o6 n
  have h2:2^(n.log2+2)=2*2^(n.log2+1):=by rw[Nat.pow_succ,Nat.mul_comm]
  have hd2:2^(n.log2+2)<=2^d:=Nat.pow_le_pow_right (by omega) (by omega)
  have e1:n/2^(n.log2+2)=0:=Nat.div_eq_of_lt (by omega)
  have e2:n%2^(n.log2+2)=n:=Nat.mod_eq_of_lt (by omega)
  have e3:n/2^d=0:=Nat.div_eq_of_lt (by omega)
  have e4:n%2^d=n:=Nat.mod_eq_of_lt (by omega)
  unfold uu;rw[e1,e2,e3,e4]
  have c1:¬(2^(n.log2+2)<2*n):=by omega
  have c2:¬(2^(n.log2+2)=2*n):=by omega
  have c3:¬(2^d<2*n):=by omega
  have c4:¬(2^d=2*n):=by omega
  simp[c1,c2,c3,c4]
def rV(r:Nat):Nat:=if r<2^52 then r else(2^52+r%2^52)*2^(r/2^52-1)
theorem FF{r r':Nat} (h:r<=r'):rV r<=rV r':=by
 unfold rV
 have hd:r/2^52<=r'/2^52:=Nat.div_le_div_right h
 have hm:=Nat.mod_lt r (bR 52)
 have hm':=Nat.mod_lt r' (bR 52)
 split
 ·split
  ·exact h
  ·have:1<=2^(r'/2^52-1):=bR _
   calc r<=2^52+r'%2^52:=by omega
    _=(2^52+r'%2^52)*1:=by omega
    _<=_:=Nat.mul_le_mul_left _ this
 ·split
  ·omega
  ·by_cases he:r/2^52=r'/2^52
   ·rw[he]
    have h1:=Nat.div_add_mod r (2^52)
    have h2:=Nat.div_add_mod r' (2^52)
    rw[he]at h1
    exact Nat.mul_le_mul_right _ (by omega)
   ·have h0:1<=r/2^52:=by
     have:2^52<=r:=by omega
     exact(Nat.le_div_iff_mul_le (bR 52)).2 (by omega)
    calc (2^52+r%2^52)*2^(r/2^52-1)<=2^53*2^(r/2^52-1):=Nat.mul_le_mul_right _ (by omega)
     _=2^52*2^(r/2^52):=by rw[<-Nat.pow_add,<-Nat.pow_add];congr 1;omega
     _<=2^52*2^(r'/2^52-1):=Nat.mul_le_mul_left _ (Nat.pow_le_pow_right (by omega) (by omega))
     _<=_:=Nat.mul_le_mul_right _ (by omega)
def Lg(N:Nat):Nat:=max (N.log2-52) 1126
def Rg(N:Nat):Nat:=if N=0 then 0 else min ((Lg N-1126)*2^52+uu N (Lg N)) (2047*2^52)
theorem YU{N N':Nat} (h0:N≠0) (h:N<=N'):Lg N<=Lg N':=by
 have:N.log2<=N'.log2:=(Nat.le_log2 (by omega)).2 (Nat.le_trans (Nat.log2_self_le h0) h)
 unfold Lg;omega
theorem YV(N:Nat):N<2^(Lg N+53):=Nat.lt_of_lt_of_le (o6 N) (Nat.pow_le_pow_right (by omega) (by unfold Lg;omega))
theorem YW(N:Nat):N/2^Lg N<2^53:=by
 rw[Nat.div_lt_iff_lt_mul (bR _),<-Nat.pow_add,Nat.add_comm];exact YV N
theorem SH{N:Nat} (h:N≠0) (hL:1126<Lg N):2^52<=N/2^Lg N:=by
 rw[Nat.le_div_iff_mul_le (bR _),<-Nat.pow_add]
 refine Nat.le_trans (Nat.pow_le_pow_right (by omega) ?_) (Nat.log2_self_le h)
 unfold Lg at hL⊢;omega
theorem FG{N N':Nat} (h:N<=N'):Rg N<=Rg N':=by
 unfold Rg
 by_cases h0:N=0
 ·simp[h0]
 ·have h0':N'≠0:=by omega
  rw[if_neg h0,if_neg h0']
  have hL:=YU h0 h
  suffices(Lg N-1126)*2^52+uu N (Lg N)<=(Lg N'-1126)*2^52+uu N' (Lg N')by omega
  by_cases he:Lg N=Lg N'
  ·rw[he];have:=xB h (Lg N');omega
  ·have h1:=YW N
   have h2:=NM N (Lg N)
   have h3:2^52<=N'/2^Lg N':=SH h0' (by unfold Lg at he hL⊢;omega)
   have h4:=NN N' (Lg N')
   have h5:(Lg N-1126)+1<=Lg N'-1126:=by unfold Lg at he hL⊢;omega
   omega
theorem NP{N:Nat} (q:Nat) (h:N=q*2^Lg N) (hb:N<2^3150):Rg N<2047*2^52/\rV (Rg N)*2^1126=N:=by
 by_cases h0:N=0
 ·subst h0;simp[Rg,rV]
 ·have hp:=bR (Lg N)
  have hq:N/2^Lg N=q:=by
   have:q*2^Lg N/2^Lg N=q:=Nat.mul_div_cancel _ hp
   rw[<-h]at this;exact this
  have hr:uu N (Lg N)=q:=by
   have:uu (q*2^Lg N) (Lg N)=q:=LI (n:=0) q
   rw[<-h]at this;exact this
  have hq53:=YW N
  rw[hq]at hq53
  have hL:Lg N<=3098:=by
   have:N.log2<3150:=(Nat.log2_lt h0).2 hb
   unfold Lg;omega
  have hlt:(Lg N-1126)*2^52+q<2047*2^52:=by omega
  have hRg:Rg N=(Lg N-1126)*2^52+q:=by unfold Rg;rw[if_neg h0,hr];omega
  rw[hRg];refine⟨hlt,?_⟩
  have key:rV ((Lg N-1126)*2^52+q)=q*2^(Lg N-1126):=by
   by_cases hLe:Lg N=1126
   ·rw[hLe]
    simp only[Nat.sub_self,Nat.zero_mul,Nat.zero_add,Nat.pow_zero,Nat.mul_one];unfold rV;split
    ·rfl
    ·have e1:q/2^52=1:=by omega
     have e2:q%2^52=q-2^52:=by omega
     rw[e1,e2];omega
   ·have hL1:1126<Lg N:=by unfold Lg at hLe⊢;omega
    have h52:=SH h0 hL1
    rw[hq]at h52;unfold rV
    have e1:((Lg N-1126)*2^52+q)/2^52-1=Lg N-1126:=by omega
    have e2:2^52+((Lg N-1126)*2^52+q)%2^52=q:=by omega
    rw[if_neg (by omega),e1,e2]
  rw[key,Nat.mul_assoc,<-Nat.pow_add]
  have:Lg N-1126+1126=Lg N:=by
   have:1126<=Lg N:=by unfold Lg;omega
   omega
  rw[this];exact h.symm
theorem Hj{m k:Nat} (hm:m<2^53) (hk:1126<=k) (hk2:k<=3090):Rg (m*2^k)<2047*2^52/\rV (Rg (m*2^k))*2^1126=m*2^k:=by
 by_cases h0:m=0
 ·subst h0;simp[Rg,rV]
 ·have hl:(m*2^k).log2=m.log2+k:=by
   have h1:m*2^k≠0:=Nat.mul_ne_zero h0 (by have:=bR k;omega)
   apply Nat.le_antisymm
   ·have:(m*2^k).log2<m.log2+k+1:=(Nat.log2_lt h1).2 (by
     rw[show m.log2+k+1=(m.log2+1)+k by omega,Nat.pow_add]
     exact Nat.mul_lt_mul_of_pos_right (o6 m) (bR k))
    omega
   ·exact(Nat.le_log2 h1).2 (by rw[Nat.pow_add];exact Nat.mul_le_mul_right _ (Nat.log2_self_le h0))
  have hm52:m.log2<=52:=by have:=(Nat.log2_lt h0).2 hm;omega
  have hLk:Lg (m*2^k)<=k:=by unfold Lg;omega
  refine NP (m*2^(k-Lg (m*2^k))) ?_ ?_
  ·rw[Nat.mul_assoc,<-Nat.pow_add];congr 2;omega
  ·have:=o6 (m*2^k)
   refine Nat.lt_of_lt_of_le this (Nat.pow_le_pow_right (by omega) (by omega))
open Ieee
set_option exponentiation.threshold 4000
abbrev DF:Format:=Ieee.double
theorem kz:DF.binade=2^52:=rfl
theorem kI:DF.signWeight=2^63:=rfl
theorem yX:DF.infRung=2047*2^52:=rfl
theorem o7:DF.leastPlace=-1074:=by decide
theorem QT:DF.fractionBits=52:=rfl
def yY(r:Nat):Nat:=if r<2^52 then r else 2^52+r%2^52
def jT(r:Nat):Nat:=if r<2^52 then 0 else r/2^52-1
theorem lK(r:Nat):rV r=yY r*2^jT r:=by unfold rV yY jT;split<;>simp
theorem US(r:Nat):yY r<2^53:=by unfold yY;split<;>omega
theorem gH{r:Nat} (h:r<2047*2^52):DF.read r=.number false (yY r) (-1074+(jT r:Int)):=by
 have h1:r/2^63%2=0:=by omega
 have h2:r%2^63=r:=by omega
 unfold Format.read;simp only[kz,kI,yX,o7,h1,h2];unfold yY jT;split
 ·simp
 ·simp[h]
theorem NQ{r:Nat} (h:r<2047*2^52):DF.read (2^63+r)=.number true (yY r) (-1074+(jT r:Int)):=by
 have h1:(2^63+r)/2^63%2=1:=by omega
 have h2:(2^63+r)%2^63=r:=by omega
 unfold Format.read;simp only[kz,kI,yX,o7,h1,h2];unfold yY jT;split
 ·simp
 ·simp[h]
theorem Jf(s:Bool) (m:Nat) (p:Int) (hp:-2200<=p):DF.nearest s m p=DF.word s (Rg (m*2^(p+2200).toNat)):=by
 unfold Format.nearest
 by_cases h0:m=0
 ·simp[h0,Rg]
 ·rw[if_neg h0]
  obtain⟨k,hk⟩:∃k:Nat,p=(k:Int)-2200:=⟨(p+2200).toNat,by omega⟩
  subst hk
  have ek:((k:Int)-2200+2200).toNat=k:=by omega
  rw[ek]
  have h1:m*2^k≠0:=Nat.mul_ne_zero h0 (by have:=bR k;omega)
  have hl:(m*2^k).log2=m.log2+k:=by
   apply Nat.le_antisymm
   ·have:(m*2^k).log2<m.log2+k+1:=(Nat.log2_lt h1).2 (by
     rw[show m.log2+k+1=(m.log2+1)+k by omega,Nat.pow_add]
     exact Nat.mul_lt_mul_of_pos_right (o6 m) (bR k))
    omega
   ·exact(Nat.le_log2 h1).2 (by rw[Nat.pow_add];exact Nat.mul_le_mul_right _ (Nat.log2_self_le h0))
  have hlast:max ((k:Int)-2200+m.log2-(DF.fractionBits:Nat)) DF.leastPlace=(Lg (m*2^k):Int)-2200:=by
   rw[o7,QT];unfold Lg;rw[hl];omega
  simp only[hlast];simp only[Hi,o7,kz,yX]
  have hg:1126<=Lg (m*2^k):=by unfold Lg;omega
  have e1:((Lg (m*2^k):Int)-2200- -1074).toNat=Lg (m*2^k)-1126:=by omega
  have e2:uu (m<<<((k:Int)-2200-((Lg (m*2^k):Int)-2200)).toNat) ((Lg (m*2^k):Int)-2200-((k:Int)-2200)).toNat=uu (m*2^k) (Lg (m*2^k)):=by
   rw[Nat.shiftLeft_eq];generalize Lg (m*2^k)=L
   by_cases hLk:L<=k
   ·have a1:((k:Int)-2200-((L:Int)-2200)).toNat=k-L:=by omega
    have a2:((L:Int)-2200-((k:Int)-2200)).toNat=0:=by omega
    rw[a1,a2]
    have:=mE (m*2^(k-L)) 0 L
    rw[Nat.zero_add,Nat.mul_assoc,<-Nat.pow_add,Nat.sub_add_cancel hLk]at this;exact this.symm
   ·have a1:((k:Int)-2200-((L:Int)-2200)).toNat=0:=by omega
    have a2:((L:Int)-2200-((k:Int)-2200)).toNat=L-k:=by omega
    rw[a1,a2,Nat.pow_zero,Nat.mul_one]
    have:=mE m (L-k) k
    rw[Nat.sub_add_cancel (by omega)]at this
    exact this.symm
  rw[e1,e2];unfold Rg;rw[if_neg h1]
theorem NR(r:Nat):DF.word false r=r:=by unfold Format.word;simp
theorem mF(m:Nat) (p:Int) (hp:-2200<=p):DF.write (.number false m p)=Rg (m*2^(p+2200).toNat):=by
 show DF.nearest false m p=_
 rw[Jf _ _ _ hp,NR]
def Fin(r:Nat):Prop:=r<2047*2^52
def Pc:Nat:=4621819117588971520
theorem FH:DF.read Pc=.number false (5*2^50) (-49):=by decide
theorem UT{r:Nat} (h:Fin r):DF.mul Pc r=some (Rg (10*rV r*2^1126))/\DF.mul r Pc=some (Rg (10*rV r*2^1126)):=by
 have e:5*2^50*yY r*2^((-49+(-1074+(jT r:Int)))+2200).toNat=10*rV r*2^1126:=by
  have:((-49+(-1074+(jT r:Int)))+2200).toNat=jT r+1077:=by omega
  rw[this,lK,show(2:Nat)^1126=2^49*2^1077 by rw[<-Nat.pow_add],Nat.pow_add,show 5*2^50=10*2^49 by decide]
  simp only[Nat.mul_assoc,Nat.mul_left_comm,Nat.mul_comm]
 constructor
 ·unfold Format.mul
  rw[FH,gH h];simp only[Datum.product,Option.map_some,Bool.false_bne,Bool.xor_false]
  rw[mF _ _ (by omega),e]
 ·unfold Format.mul
  rw[FH,gH h];simp only[Datum.product,Option.map_some,Bool.false_bne,Bool.xor_false]
  rw[mF _ _ (by omega),Nat.mul_comm (yY r),Int.add_comm (-1074+(jT r:Int)) (-49),e]
theorem QU(m n a b:Nat):(Datum.number false m (-1074+(a:Int))).sum (.number false n (-1074+(b:Int)))=some (.number false (m*2^(a-min a b)+n*2^(b-min a b)) (-1074+(min a b:Nat))):=by
 have e0:min (-1074+(a:Int)) (-1074+(b:Int))=-1074+((min a b:Nat):Int):=by omega
 have e1:((-1074+(a:Int))-(-1074+((min a b:Nat):Int))).toNat=a-min a b:=by omega
 have e2:((-1074+(b:Int))-(-1074+((min a b:Nat):Int))).toNat=b-min a b:=by omega
 simp only[Datum.sum,e0,e1,e2,signed,Bool.false_eq_true,if_false,Nat.shiftLeft_eq];generalize m*2^(a-min a b)=x;generalize n*2^(b-min a b)=y
 have h1:¬((x:Int)+(y:Int)<0):=by omega
 have h2:((x:Int)+(y:Int)).natAbs=x+y:=by omega
 rw[h2];simp[h1]
theorem QV(m n a b:Nat) (h:n*2^b<=m*2^a):(Datum.number false m (-1074+(a:Int))).sum (.number true n (-1074+(b:Int)))=some (.number false (m*2^(a-min a b)-n*2^(b-min a b)) (-1074+(min a b:Nat))):=by
 have e0:min (-1074+(a:Int)) (-1074+(b:Int))=-1074+((min a b:Nat):Int):=by omega
 have e1:((-1074+(a:Int))-(-1074+((min a b:Nat):Int))).toNat=a-min a b:=by omega
 have e2:((-1074+(b:Int))-(-1074+((min a b:Nat):Int))).toNat=b-min a b:=by omega
 simp only[Datum.sum,e0,e1,e2,signed,Bool.false_eq_true,if_false,if_true,Nat.shiftLeft_eq]
 have hxy:n*2^(b-min a b)<=m*2^(a-min a b):=by
  have hp:=bR (min a b)
  refine Nat.le_of_mul_le_mul_right ?_ hp
  rw[Nat.mul_assoc,Nat.mul_assoc,<-Nat.pow_add,<-Nat.pow_add,Nat.sub_add_cancel (by omega),Nat.sub_add_cancel (by omega)]
  exact h
 generalize m*2^(a-min a b)=x at*;generalize n*2^(b-min a b)=y at*
 have h1:¬((x:Int)+ -(y:Int)<0):=by omega
 have h2:((x:Int)+ -(y:Int)).natAbs=x-y:=by omega
 rw[h2];simp[h1]
theorem scl(m a c:Nat) (h:c<=a):m*2^(a-c)*2^(c+1126)=m*2^a*2^1126:=by
 rw[Nat.mul_assoc,<-Nat.pow_add,Nat.mul_assoc,<-Nat.pow_add,show a-c+(c+1126)=a+1126 by omega]
theorem add_pos{x y:Nat} (hx:Fin x) (hy:Fin y):DF.add x y=some (Rg ((rV x+rV y)*2^1126)):=by
 unfold Format.add
 rw[gH hx,gH hy,QU,Option.map_some,mF _ _ (by omega)]
 have e:((-1074+((min (jT x) (jT y):Nat):Int))+2200).toNat=min (jT x) (jT y)+1126:=by omega
 rw[e,Nat.add_mul,scl _ _ _ (by omega),scl _ _ _ (by omega),<-lK,<-lK,<-Nat.add_mul]
theorem sub_pos{x y:Nat} (hx:Fin x) (hy:Fin y) (h:rV y<=rV x):DF.sub x y=some (Rg ((rV x-rV y)*2^1126)):=by
 unfold Format.sub;rw[gH hx,gH hy];simp only[Datum.opposite,Bool.not_false];rw[lK,lK]at h
 rw[QV _ _ _ _ h,Option.map_some,mF _ _ (by omega)]
 have e:((-1074+((min (jT x) (jT y):Nat):Int))+2200).toNat=min (jT x) (jT y)+1126:=by omega
 rw[e,Nat.sub_mul,scl _ _ _ (by omega),scl _ _ _ (by omega),<-lK,<-lK,<-Nat.sub_mul]
def LJ(n:Nat):Nat:=Rg (n*2^2200)
theorem Ki{n:Nat} (h:n<2^53):Fin (LJ n)/\rV (LJ n)=n*2^1074:=by
 have h2200:(1126:Nat)<=2200:=by decide
 obtain⟨h1,h2⟩:=Hj (m:=n) (k:=2200) h (by omega) (by omega)
 refine⟨h1,?_⟩;unfold LJ
 have hp:=bR 1126
 refine Nat.eq_of_mul_eq_mul_right hp ?_;rw[h2,Nat.mul_assoc,<-Nat.pow_add]
theorem UU{a:Nat} (h:a<2^53):Fin (Rg (a*2^1064*2^1126))/\rV (Rg (a*2^1064*2^1126))=a*2^1064:=by
 have e:a*2^1064*2^1126=a*2^2190:=by rw[Nat.mul_assoc,<-Nat.pow_add]
 obtain⟨h1,h2⟩:=Hj (k:=2190) h (by omega) (by omega)
 rw[e];refine⟨h1,?_⟩
 have hp:=bR 1126
 refine Nat.eq_of_mul_eq_mul_right hp ?_;rw[h2,e]
theorem AR{N a b:Nat} (ha:a*2^1064*2^1126<=N) (hb:N<=b*2^1064*2^1126) (h:b<2^53):Fin (Rg N)/\a*2^1064<=rV (Rg N)/\rV (Rg N)<=b*2^1064:=by
 have hab:a<2^53:=by
  have:a*(2^1064*2^1126)<=b*(2^1064*2^1126):=by rw[<-Nat.mul_assoc,<-Nat.mul_assoc];exact Nat.le_trans ha hb
  have:=Nat.le_of_mul_le_mul_right this (Nat.mul_pos (bR _) (bR _))
  omega
 obtain⟨f1,f2⟩:=UU hab;obtain⟨f3,f4⟩:=UU h
 have m1:=FG ha
 have m2:=FG hb
 refine⟨?_,?_,?_⟩
 ·unfold Fin at f3⊢;omega
 ·rw[<-f2];exact FF m1
 ·rw[<-f4];exact FF m2
theorem UW(m a:Nat):uu (m<<<(-1074+(a:Int)).toNat) (-(-1074+(a:Int))).toNat=uu (m*2^a) 1074:=by
 rw[Nat.shiftLeft_eq]
 by_cases h:1074<=a
 ·have e1:(-1074+(a:Int)).toNat=a-1074:=by omega
  have e2:(-(-1074+(a:Int))).toNat=0:=by omega
  rw[e1,e2]
  have:=mE (m*2^(a-1074)) 0 1074
  rw[Nat.zero_add,Nat.mul_assoc,<-Nat.pow_add,Nat.sub_add_cancel h]at this;exact this.symm
 ·have e1:(-1074+(a:Int)).toNat=0:=by omega
  have e2:(-(-1074+(a:Int))).toNat=1074-a:=by omega
  rw[e1,e2,Nat.pow_zero,Nat.mul_one]
  have:=mE m (1074-a) a
  rw[Nat.sub_add_cancel (by omega)]at this
  exact this.symm
theorem QW{r:Nat} (h:Fin r):DF.write ((DF.read r).integral .even)=LJ (uu (rV r) 1074):=by
 rw[gH h];simp only[Datum.integral,Hi,UW]
 rw[mF _ _ (by omega),<-lK,show((0:Int)+2200).toNat=2200 by omega]
 unfold LJ;with_reducible rfl
theorem NS(s:Bool) (n d:Nat):Toward.zero.cut s n d=n/2^d:=by
 unfold Toward.cut;simp only[Nat.one_shiftLeft,Bool.toNat_false,Nat.add_zero]
 by_cases hd:d<=n.log2+2
 ·rw[Nat.min_eq_left hd]
 ·rw[Nat.min_eq_right (by omega)]
  have hl:=o6 n
  have h2:2^(n.log2+2)=2*2^(n.log2+1):=by rw[Nat.pow_succ,Nat.mul_comm]
  have hd2:2^(n.log2+2)<=2^d:=Nat.pow_le_pow_right (by omega) (by omega)
  rw[Nat.div_eq_of_lt (by omega),Nat.div_eq_of_lt (by omega)]
theorem LK{r:Nat} (h:Fin r):(DF.read r).toInt .zero=some ((rV r/2^1074:Nat):Int):=by
 rw[gH h,lK];unfold Datum.toInt;simp only[Datum.integral,NS,Nat.shiftLeft_eq,signed,Bool.false_eq_true,if_false,Nat.pow_zero,Nat.mul_one]
 congr 2
 generalize jT r=a;generalize yY r=m
 by_cases h:1074<=a
 ·have e1:(-1074+(a:Int)).toNat=a-1074:=by omega
  have e2:(-(-1074+(a:Int))).toNat=0:=by omega
  rw[e1,e2,Nat.pow_zero,Nat.div_one]
  have:m*2^a=m*2^(a-1074)*2^1074:=by rw[Nat.mul_assoc,<-Nat.pow_add,Nat.sub_add_cancel h]
  rw[this,Nat.mul_div_cancel _ (bR _)]
 ·have e1:(-1074+(a:Int)).toNat=0:=by omega
  have e2:(-(-1074+(a:Int))).toNat=1074-a:=by omega
  rw[e1,e2,Nat.pow_zero,Nat.mul_one]
  have:m*2^a/2^1074=m*2^a/(2^(1074-a)*2^a):=by rw[<-Nat.pow_add,Nat.sub_add_cancel (by omega)]
  rw[this,Nat.mul_div_mul_right _ _ (bR _)]
theorem LL{n:Nat} (h:n<2^53):(DF.read (LJ n)).toInt .zero=some (n:Int):=by
 obtain⟨h1,h2⟩:=Ki h;rw[LK h1,h2,Nat.mul_div_cancel _ (bR _)]
def key(x:Nat):Option Int:=
 match DF.read x with
 | .nan ..=>none
 | .infinity s=>some (if s then -(2^2200:Nat)else(2^2200:Nat))
 | .number s m i=>some (signed s m (i+1074).toNat)
theorem sZ(x:Nat) {s:Bool} {m:Nat} {i:Int} (h:DF.read x=.number s m i):-1074<=i/\i<=971/\m<2^53:=by
 unfold Format.read at h;dsimp only at h;split at h
 ·rename_i h1
  cases h;rw[kI,kz]at h1;rw[kI,o7];omega
 ·split at h
  ·rename_i h1 h2
   cases h;rw[kI,yX]at h2;rw[kI,o7,kz];omega
  ·split at h<;>cases h
theorem xC(s:Bool) (m a b:Nat):signed s m (a+b)=signed s m a*((2^b:Nat):Int):=by
 have e:((m<<<(a+b):Nat):Int)=((m<<<a:Nat):Int)*((2^b:Nat):Int):=by
  rw[Nat.shiftLeft_eq,Nat.shiftLeft_eq,Nat.pow_add,<-Nat.mul_assoc,Int.natCast_mul]
 unfold signed;cases s
 ·simp only[Bool.false_eq_true,if_false];exact e
 ·simp only[if_true,e,Int.neg_mul]
theorem LM(a b:Int) (k:Nat):compare (a*((2^k:Nat):Int)) (b*((2^k:Nat):Int))=compare a b:=by
 have hp:(0:Int)<((2^k:Nat):Int):=by have:=bR k;omega
 have h1:(a*((2^k:Nat):Int)<b*((2^k:Nat):Int))↔a<b:=Int.mul_lt_mul_right hp
 have h2:(a*((2^k:Nat):Int)=b*((2^k:Nat):Int))↔a=b:=⟨fun h=>Int.eq_of_mul_eq_mul_right (by omega) h,fun h=>by rw[h]⟩
 simp only[compare,compareOfLessAndEq,h1,h2]
theorem Es{s:Bool} {m a:Nat} (hm:m<2^53) (ha:a<=2045):-((2^2200:Nat):Int)<signed s m a/\signed s m a<((2^2200:Nat):Int):=by
 have h1:m*2^a<2^53*2^2045:=Nat.lt_of_lt_of_le (Nat.mul_lt_mul_of_pos_right hm (bR a)) (Nat.mul_le_mul_left _ (Nat.pow_le_pow_right (by omega) ha))
 have h2:2^53*2^2045<=2^2200:=by rw[<-Nat.pow_add];exact Nat.pow_le_pow_right (by omega) (by omega)
 have h3:m*2^a<2^2200:=Nat.lt_of_lt_of_le h1 h2
 unfold signed;rw[Nat.shiftLeft_eq];generalize m*2^a=z at*;generalize 2^2200=w at*
 cases s<;>simp<;>omega
def FI:Option Int->Option Int->Option Ordering
 |some a,some b=>some (compare a b)
 |_,_=>none
theorem vV{a b:Int} (h:a<b):compare a b=.lt:=by simp[compare,compareOfLessAndEq,h]
theorem vW{a b:Int} (h:b<a):compare a b=.gt:=by
 have h1:¬a<b:=by omega
 have h2:¬a=b:=by omega
 simp[compare,compareOfLessAndEq,h1,h2]
theorem yZ{a b:Int} (h:a=b):compare a b=.eq:=by simp[compare,compareOfLessAndEq,h]
theorem uv(x y:Nat):DF.order x y=FI (key x) (key y):=by
 have big:(0:Int)<((2^2200:Nat):Int):=by have:=bR 2200;omega
 unfold Format.order key
 cases hx:DF.read x with
 |nan s t=>cases DF.read y<;>rfl
 |infinity s=>
  cases hy:DF.read y with
  |nan _ _=>rfl
  |infinity t=>
   simp only[Datum.order,FI];generalize((2^2200:Nat):Int)=w at*
   cases s<;>cases t<;>simp only[Bool.false_eq_true,if_false,if_true]
   ·rw[yZ rfl];rfl
   ·rw[vW (by omega)];rfl
   ·rw[vV (by omega)];rfl
   ·rw[yZ rfl];rfl
  |number t n j=>
   obtain⟨b1,b2,b3⟩:=sZ y hy
   obtain⟨c1,c2⟩:=Es (s:=t) (a:=(j+1074).toNat) b3 (by omega)
   simp only[Datum.order,FI];generalize((2^2200:Nat):Int)=w at*
   cases s<;>simp only[Bool.false_eq_true,if_false,if_true]
   ·rw[vW c2]
   ·rw[vV c1]
 |number s m i=>
  obtain⟨b1,b2,b3⟩:=sZ x hx
  cases hy:DF.read y with
  |nan _ _=>rfl
  |infinity t=>
   obtain⟨c1,c2⟩:=Es (s:=s) (a:=(i+1074).toNat) b3 (by omega)
   simp only[Datum.order,FI];generalize((2^2200:Nat):Int)=w at*
   cases t<;>simp only[Bool.false_eq_true,if_false,if_true]
   ·rw[vV c2]
   ·rw[vW c1]
  |number t n j=>
   obtain⟨d1,d2,d3⟩:=sZ y hy;simp only[Datum.order,FI]
   have e1:(i+1074).toNat=(i-min i j).toNat+(min i j+1074).toNat:=by omega
   have e2:(j+1074).toNat=(j-min i j).toNat+(min i j+1074).toNat:=by omega
   rw[e1,e2,xC,xC,LM]
theorem nW{r:Nat} (h:Fin r):key r=some (rV r:Int):=by
 unfold key;rw[gH h];simp only[signed,Bool.false_eq_true,if_false,Nat.shiftLeft_eq]
 rw[lK,show((-1074+(jT r:Int))+1074).toNat=jT r by omega]
theorem Kj{r:Nat} (h:Fin r):key (2^63+r)=some (-(rV r:Int)):=by
 unfold key;rw[NQ h];simp only[signed,if_true,Nat.shiftLeft_eq]
 rw[lK,show((-1074+(jT r:Int))+1074).toNat=jT r by omega]
open Ieee
set_option exponentiation.threshold 4000
def ta:Nat:=4652006429231887155
def qB:Nat:=4584304132692975288
def Mp(x y:Nat):Bool:=DF.order x y==some .gt||DF.order x y==some .eq
def LN(x y:Nat):Bool:=DF.order x y==some .lt||DF.order x y==some .eq
def ltF(x y:Nat):Bool:=DF.order x y==some .lt
def SJ(x y:Nat):Bool:=DF.order x y==some .gt
def eqF(x y:Nat):Bool:=DF.order x y==some .eq
def Ww:Option Int->Option Int->Bool
 |some a,some b=>decide (a<=b)
 |_,_=>false
def Wx:Option Int->Option Int->Bool
 |some a,some b=>decide (a<b)
 |_,_=>false
theorem QX(x y:Nat):LN x y=Ww (key x) (key y):=by
 unfold LN;rw[uv]
 cases key x<;>cases key y<;>try rfl
 rename_i a b;simp only[FI,Ww]
 rcases Int.lt_trichotomy a b with h|h|h
 ·rw[vV h];simp;omega
 ·rw[yZ h];simp;omega
 ·rw[vW h];simp;omega
theorem QY(x y:Nat):Mp x y=Ww (key y) (key x):=by
 unfold Mp;rw[uv]
 cases key x<;>cases key y<;>try rfl
 rename_i a b;simp only[FI,Ww]
 rcases Int.lt_trichotomy a b with h|h|h
 ·rw[vV h];simp;omega
 ·rw[yZ h];simp;omega
 ·rw[vW h];simp;omega
theorem QZ(x y:Nat):ltF x y=Wx (key x) (key y):=by
 unfold ltF;rw[uv]
 cases key x<;>cases key y<;>try rfl
 rename_i a b;simp only[FI,Wx]
 rcases Int.lt_trichotomy a b with h|h|h
 ·rw[vV h];simp;omega
 ·rw[yZ h];simp;omega
 ·rw[vW h];simp;omega
theorem Q0(x y:Nat):SJ x y=Wx (key y) (key x):=by
 unfold SJ;rw[uv]
 cases key x<;>cases key y<;>try rfl
 rename_i a b;simp only[FI,Wx]
 rcases Int.lt_trichotomy a b with h|h|h
 ·rw[vV h];simp;omega
 ·rw[yZ h];simp;omega
 ·rw[vW h];simp;omega
theorem YX:Fin 0:=by unfold Fin;omega
theorem Q1:Fin ta:=by unfold Fin ta;omega
theorem AS:Fin qB:=by unfold Fin qB;omega
theorem aba:rV 0=0:=by simp[rV]
theorem Kk:key 0=some 0:=by rw[nW YX,aba];rfl
theorem Kl:key ta=some (rV ta:Int):=nW Q1
theorem Q2{r:Nat} (h:rV r=0):r=0:=by
 unfold rV at h;split at h
 ·exact h
 ·have:=Nat.mul_pos (show 0<2^52+r%2^52 by omega) (bR (r/2^52-1))
  omega
theorem NT{s:Nat} (hs:s<2^64) {a:Int} (hk:key s=some a) (h0:0<=a) (h1:a<=(rV ta:Int)):(Fin s/\a=(rV s:Int))\/(s=2^63/\a=0):=by
 have big:(rV ta:Int)<((2^2200:Nat):Int):=by
  have:rV ta<2^2200:=by decide+kernel
  omega
 by_cases hlt:s<2^63
 ·by_cases hf:Fin s
  ·left
   rw[nW hf]at hk;exact⟨hf,(Option.some.inj hk).symm⟩
  ·exfalso
   unfold Fin at hf;unfold key Format.read at hk;dsimp only at hk
   have e1:s%DF.signWeight=s:=by rw[kI];omega
   have e2:s/DF.signWeight%2=0:=by rw[kI];omega
   rw[e1,e2,kz,yX]at hk
   rw[if_neg (by omega),if_neg hf]at hk
   split at hk
   ·cases hk
   ·rename_i s' hh
    split at hh<;>try(cases hh;done)
    cases hh;cases hk;simp only[show((0:Nat)==1)=false from rfl,Bool.false_eq_true,if_false]at h1
    omega
   ·rename_i hh
    split at hh<;>cases hh
 ·obtain⟨r,rfl⟩:∃r,s=2^63+r:=⟨s-2^63,by omega⟩
  by_cases hf:Fin r
  ·right
   rw[Kj hf]at hk
   have:=Option.some.inj hk
   have h3:rV r=0:=by omega
   have:=Q2 h3
   subst this
   exact⟨rfl,by omega⟩
  ·exfalso
   unfold Fin at hf;unfold key Format.read at hk;dsimp only at hk
   have e1:(2^63+r)%DF.signWeight=r:=by rw[kI];omega
   have e2:(2^63+r)/DF.signWeight%2=1:=by rw[kI];omega
   rw[e1,e2,kz,yX]at hk
   rw[if_neg (by omega),if_neg hf]at hk
   split at hk
   ·cases hk
   ·rename_i s' hh
    split at hh<;>try(cases hh;done)
    cases hh;cases hk;simp only[show((1:Nat)==1)=true from rfl,if_true]at h0
    have:=bR 2200
    omega
   ·rename_i hh
    split at hh<;>cases hh
def UX(a:Nat):Nat:=Rg (10*a*2^1126)
def LO(a:Nat):Nat:=uu (rV (UX a)) 1074
theorem Hl{a b:Nat} (h:a<=b):UX a<=UX b:=FG (Nat.mul_le_mul_right _ (Nat.mul_le_mul_left _ h))
theorem NU{a b:Nat} (h:a<=b):LO a<=LO b:=xB (FF (Hl h)) _
theorem Q3:LO (rV ta)=9999:=by decide+kernel
theorem Q4:UX (rV ta)<2047*2^52:=by decide+kernel
theorem Q5{a:Nat} (h:a<=rV ta):Fin (UX a):=by
 have h1:=Hl h
 have h2:=Q4
 unfold Fin;omega
theorem UY{a:Nat} (h:a<=rV ta):LO a<=9999:=by rw[<-Q3];exact NU h
theorem SK:LO 0=0:=by decide+kernel
def Pd(s:Nat):Bool:=Mp s 0&&LN s ta
def tk(s:Nat):Nat:=LO ((key s).getD 0).toNat
theorem AT{s:Nat}:Pd s=true↔∃a:Nat,key s=some (a:Int)/\a<=rV ta:=by
 unfold Pd;rw[QY,QX,Kk,Kl]
 cases hk:key s with
 |none=>simp[Ww]
 |some a=>
  simp only[Ww,Bool.and_eq_true,decide_eq_true_eq,Option.some.injEq];constructor
  ·rintro⟨h1,h2⟩;exact⟨a.toNat,by omega,by omega⟩
  ·rintro⟨b,rfl,h⟩;omega
theorem Km{s a:Nat} (h:key s=some (a:Int)):tk s=LO a:=by simp[tk,h]
theorem UZ{x:Nat} (h:Fin x):E1 x=some (.float .f64 (LJ (uu (rV x) 1074))):=by
 have hr:FloatKind.f64.decode x=.number false (yY x) (-1074+(jT x:Int)):=gH h
 unfold E1;rw[hr];dsimp only
 have:=QW h
 rw[gH h]at this
 exact congrArg (fun n=>some (AV.float .f64 n)) this
theorem Ko{x n:Nat} (h:(DF.read x).toInt .zero=some (n:Int)) (hn:n<2^53):zo .i64 (.float .f64 x)=some (.int .i64 n):=by
 have h':(FloatKind.f64.decode x).toInt .zero=some (n:Int):=h
 simp only[zo,h'];rw[if_pos];constructor
 ·have:IntKind.i64.min=-(2^63):=by decide
  omega
 ·have:IntKind.i64.max=2^63-1:=by decide
  omega
theorem z_1:DF.mul Pc (2^63)=some (2^63):=by decide+kernel
theorem z_4:(DF.read (2^63)).toInt .zero=some ((0:Nat):Int):=by decide+kernel
theorem abb:FloatKind.f64.decode (2^63)=.number true 0 (-1074):=by decide+kernel
theorem abc:FloatKind.f64.encode ((Datum.number true 0 (-1074)).integral .even)=2^63:=by decide+kernel
theorem z_3:E1 (2^63)=some (.float .f64 (2^63)):=by
 unfold E1;rw[abb]
 show some (AV.float .f64 (FloatKind.f64.encode ((Datum.number true 0 (-1074)).integral .even)))=_
 rw[abc]
theorem LP{s:Nat} (hs:s<2^64) (h:Pd s=true):∃x y,DF.mul Pc s=some x/\E1 x=some (.float .f64 y)/\zo .i64 (.float .f64 y)=some (.int .i64 (tk s)):=by
 obtain⟨a,h1,h2⟩:=AT.1 h
 have ht:=Km h1
 rcases NT hs h1 (by omega) (by omega)with⟨hf,ha⟩|⟨rfl,ha⟩
 ·have ha:a=rV s:=by omega
  subst ha
  have hX:=Q5 h2
  have hle:=UY h2
  refine⟨UX (rV s),LJ (uu (rV (UX (rV s))) 1074),(UT hf).1,UZ hX,?_⟩;rw[ht]
  exact Ko (LL (by unfold LO at hle;omega)) (by omega)
 ·have ha:a=0:=by omega
  subst ha;refine⟨2^63,2^63,z_1,z_3,?_⟩;rw[ht,SK]
  exact Ko z_4 (by omega)
theorem Kq{a b c d:Nat} (h:a<=b) (h':d<=c):a-c<=b-d:=by omega
theorem B9{x y c:Nat} (h:x*2^c<=y*2^c):x<=y:=Nat.le_of_mul_le_mul_right h (bR c)
theorem U0{k a:Nat} (hk:1<=k) (hk2:k<=9999) (h1:10*a<=1024*k) (h2:1024*k<=10*(a+1)):∃s,DF.div (LJ k) Pc=some s/\Fin s/\a*2^1064<=rV s/\rV s<=(a+1)*2^1064:=by
 obtain⟨f1,f2⟩:=Ki (n:=k) (by omega)
 generalize LJ k=r at*
 have hd:=US r
 rw[lK]at f2
 -- the number is a normal one
 have hr52:2^52<=r:=by
  refine Nat.le_of_not_lt fun h=>?_
  have e1:yY r=r:=by unfold yY;rw[if_pos h]
  have e2:jT r=0:=by unfold jT;rw[if_pos h]
  rw[e1,e2,Nat.pow_zero,Nat.mul_one]at f2
  have:1*2^1074<=k*2^1074:=Nat.mul_le_mul_right _ hk
  have:(2:Nat)^52<=2^1074:=Nat.pow_le_pow_right (by omega) (by omega)
  omega
 have hd52:2^52<=yY r:=by unfold yY;rw[if_neg (by omega)];omega
 have hlog:(yY r).log2=52:=by
  have h0:yY r≠0:=by omega
  have a1:(yY r).log2<53:=(Nat.log2_lt h0).2 hd
  have a2:52<=(yY r).log2:=(Nat.le_log2 h0).2 hd52
  omega
 have hp:jT r<=1036:=by
  refine Nat.le_of_not_lt fun h=>?_
  have b1:2^52*2^1037<=yY r*2^jT r:=Nat.mul_le_mul hd52 (Nat.pow_le_pow_right (by omega) h)
  rw[f2,<-Nat.pow_add]at b1
  have b2:k*2^1074<2^15*2^1074:=Nat.mul_lt_mul_of_pos_right (by omega) (bR _)
  rw[<-Nat.pow_add]at b2;omega
 have hl10:(5*2^50:Nat).log2=52:=by decide
 have hmore:54+(5*2^50:Nat).log2-(yY r).log2=54:=by rw[hlog,hl10]
 have hdiv:DF.div r Pc=some (Rg ((2*(yY r*2^54/(5*2^50))+(yY r*2^54%(5*2^50) !=0).toNat)*2^(jT r+1120))):=by
  unfold Format.div;rw[FH,gH f1]
  have hfb:DF.fractionBits+2=54:=rfl
  rw[hfb];unfold Datum.quotient;dsimp only
  rw[if_neg (by omega),hmore,Nat.shiftLeft_eq,Option.map_some]
  have:((-1074+(jT r:Int))- -49-(54:Nat)-1+2200).toNat=jT r+1120:=by omega
  rw[show(false^^false)=false from rfl,mF _ _ (by omega),this]
 obtain⟨n,hn⟩:∃n:Nat,n=5*2^50:=⟨_,rfl⟩
 rw[<-hn]at hdiv
 obtain⟨D,hDD⟩:∃D:Nat,D=yY r*2^54:=⟨_,rfl⟩
 rw[<-hDD]at hdiv;refine⟨_,hdiv,?_⟩
 -- the floor against a UU number
 have grid5:∀z:Nat,(z*2^(1069-jT r))*n*2^jT r=5*z*2^1119:=by
  intro z;rw[hn]
  have:z*2^(1069-jT r)*(5*2^50)*2^jT r=5*z*(2^(1069-jT r)*2^50*2^jT r):=by
   simp only[Nat.mul_assoc,Nat.mul_left_comm,Nat.mul_comm]
  rw[this,<-Nat.pow_add,<-Nat.pow_add]
  rw[show 1069-jT r+50+jT r=1119 by omega]
 have hD:D*2^jT r=512*k*2^1119:=by
  rw[hDD]
  have:yY r*2^54*2^jT r=yY r*2^jT r*2^54:=by simp only[Nat.mul_assoc,Nat.mul_left_comm,Nat.mul_comm]
  rw[this,f2,Nat.mul_assoc,<-Nat.pow_add,show 1074+54=9+1119 by omega,Nat.pow_add,<-Nat.mul_assoc,Nat.mul_comm k]
 have hn0:0<n:=by omega
 have lo:∀z,5*z<=512*k->z*2^(1069-jT r)<=D/n:=by
  intro z hz;rw[Nat.le_div_iff_mul_le hn0]
  refine B9 (c:=jT r) ?_
  rw[grid5,hD];exact Nat.mul_le_mul_right _ hz
 have hi:∀z,512*k<=5*z->2*(D/n)+(D%n !=0).toNat<=2*(z*2^(1069-jT r)):=by
  intro z hz
  have hle:D<=z*2^(1069-jT r)*n:=by
   refine B9 (c:=jT r) ?_
   rw[grid5,hD];exact Nat.mul_le_mul_right _ hz
  generalize z*2^(1069-jT r)=Z at*
  have hdm:=Nat.div_add_mod D n
  have h3:D/n<=Z:=by
   rw[<-Nat.mul_div_cancel Z hn0];exact Nat.div_le_div_right hle
  by_cases h0:D%n=0
  ·simp[h0];omega
  ·have h4:D/n<Z:=by
    refine Nat.lt_of_le_of_ne h3 fun e=>?_
    rw[e,Nat.mul_comm]at hdm;omega
   have h5:(D%n !=0).toNat=1:=by simp[h0]
   omega
 have sc:∀z:Nat,z*2^1064*2^1126=2*(z*2^(1069-jT r))*2^(jT r+1120):=by
  intro z
  have:2*(z*2^(1069-jT r))*2^(jT r+1120)=z*(2^1*2^(1069-jT r)*2^(jT r+1120)):=by
   simp only[Nat.mul_assoc,Nat.mul_left_comm,Nat.mul_comm,Nat.pow_one]
  rw[this,<-Nat.pow_add,<-Nat.pow_add,Nat.mul_assoc,<-Nat.pow_add]
  rw[show 1+(1069-jT r)+(jT r+1120)=1064+1126 by omega]
 have hlo:a*2^1064*2^1126<=(2*(D/n)+(D%n !=0).toNat)*2^(jT r+1120):=by
  rw[sc]
  have:=lo a (by omega)
  exact Nat.mul_le_mul_right _ (by omega)
 have hhi:(2*(D/n)+(D%n !=0).toNat)*2^(jT r+1120)<=(a+1)*2^1064*2^1126:=by
  rw[sc]
  exact Nat.mul_le_mul_right _ (hi (a+1) (by omega))
 have hb:a+1<2^53:=by omega
 exact AR hlo hhi hb
theorem Ho{c k:Nat} (h1:1024*k<c+512) (h2:c<1024*k+512):uu c 10=k:=by
 unfold uu;split<;>omega
theorem NV(c:Nat):uu (c*2^1064) 1074=uu c 10:=mE c 10 1064
theorem FJ{v a b k:Nat} (h1:a*2^1064<=v) (h2:v<=b*2^1064) (hb:b<2^40) (h3:1024*k<10*a+512) (h4:10*b<1024*k+512):LO v=k:=by
 have e:∀z:Nat,10*(z*2^1064)=10*z*2^1064:=fun z=>by rw[Nat.mul_assoc]
 have hx:=AR (N:=10*v*2^1126) (a:=10*a) (b:=10*b) (by rw[<-e];exact Nat.mul_le_mul_right _ (Nat.mul_le_mul_left _ h1)) (by rw[<-e];exact Nat.mul_le_mul_right _ (Nat.mul_le_mul_left _ h2)) (by omega)
 obtain⟨_,g1,g2⟩:=hx
 have m1:=xB g1 1074
 have m2:=xB g2 1074
 rw[NV]at m1 m2
 have hab:a<=b:=B9 (Nat.le_trans h1 h2)
 have r1:=Ho (c:=10*a) (k:=k) (by omega) (by omega)
 have r2:=Ho (c:=10*b) (k:=k) (by omega) (by omega)
 have:LO v=uu (rV (Rg (10*v*2^1126))) 1074:=rfl
 omega
theorem Kr:30*2^1064<=rV qB:=by decide+kernel
theorem FK:rV qB<=31*2^1064:=by decide+kernel
theorem abd:1023897*2^1064<=rV ta:=by decide+kernel
theorem NW:DF.div (LJ 9999) Pc=some ta:=by decide+kernel
theorem YY:DF.div (LJ 0) Pc=some 0:=by decide+kernel
theorem Q6:LO (rV qB)=0:=by decide+kernel
def near(off k:Nat):Prop:=ltF off 0=false->SJ off ta=false->Pd off=true/\tk off=k
theorem FL{v:Nat} {k:Nat} (hf:Fin v) (ht:LO (rV v)=k):near v k:=by
 intro h1 h2;rw[Q0,nW hf,Kl]at h2;simp only[Wx,decide_eq_false_iff_not]at h2
 exact⟨AT.2 ⟨rV v,nW hf,by omega⟩,by rw[Km (nW hf)];exact ht⟩
theorem back{k:Nat} (hk:k<=9999):∃s u d,DF.div (LJ k) Pc=some s/\DF.add s qB=some u/\DF.sub s qB=some d/\s<2^64/\u<2^64/\Pd s=true/\tk s=k/\near u k/\near d k/\d<2^64:=by
 by_cases h0:k=0
 ·subst h0
  have hd:DF.sub 0 qB=some (2^63+qB):=by decide+kernel
  have hu:DF.add 0 qB=some qB:=by decide+kernel
  refine⟨0,qB,2^63+qB,YY,hu,hd,by omega,by unfold qB;omega,AT.2 ⟨0,Kk,by omega⟩,by rw[Km (a:=0) Kk];exact SK,FL AS Q6,?_,by unfold qB;omega⟩
  intro h1;rw[QZ,Kj AS,Kk]at h1;simp only[Wx,decide_eq_false_iff_not]at h1
  have:0<rV qB:=by decide+kernel
  omega
 ·obtain⟨s,h1,h2,h3,h4⟩:=U0 (k:=k) (a:=1024*k/10) (by omega) hk (by omega) (by omega)
  generalize ha:1024*k/10=a at*
  have ha1:10*a<=1024*k:=by omega
  have ha2:1024*k<=10*a+9:=by omega
  have hs999:rV s<=rV ta:=by
   by_cases h9:k=9999
   ·subst h9
    rw[NW]at h1;cases h1;exact Nat.le_refl _
   ·refine Nat.le_trans h4 (Nat.le_trans (Nat.mul_le_mul_right _ (by omega)) abd)
  have hts:LO (rV s)=k:=FJ h3 h4 (by omega) (by omega) (by omega)
  have hsub:rV qB<=rV s:=Nat.le_trans FK (Nat.le_trans (Nat.mul_le_mul_right _ (by omega)) h3)
  have hU:=AR (N:=(rV s+rV qB)*2^1126) (a:=a+30) (b:=a+1+31) (Nat.mul_le_mul_right _ (by rw[Nat.add_mul];exact Nat.add_le_add h3 Kr)) (Nat.mul_le_mul_right _ (by rw[Nat.add_mul (a+1)];exact Nat.add_le_add h4 FK)) (by omega)
  have hD:=AR (N:=(rV s-rV qB)*2^1126) (a:=a-31) (b:=a+1-30) (Nat.mul_le_mul_right _ (by rw[Nat.sub_mul];exact Kq h3 FK)) (Nat.mul_le_mul_right _ (by rw[Nat.sub_mul];exact Kq h4 Kr)) (by omega)
  refine⟨s,_,_,h1,add_pos h2 AS,sub_pos h2 AS hsub,?_,?_,AT.2 ⟨rV s,nW h2,hs999⟩,by rw[Km (nW h2)];exact hts,?_,?_,?_⟩
  ·unfold Fin at h2;omega
  ·have:=hU.1;unfold Fin at this;omega
  ·exact FL hU.1 (FJ hU.2.1 hU.2.2 (by omega) (by omega) (by omega))
  ·exact FL hD.1 (FJ hD.2.1 hD.2.2 (by omega) (by omega) (by omega))
  ·have:=hD.1;unfold Fin at this;omega
abbrev Fl (x:Nat):AV:=.float .f64 x
theorem YZ(x y:Nat):dZ .geq (.float .f64 x) (.float .f64 y)=some (.bool (Mp x y)):=rfl
theorem Y0(x y:Nat):dZ .leq (.float .f64 x) (.float .f64 y)=some (.bool (LN x y)):=rfl
theorem Y1(x y:Nat):dZ .gtr (.float .f64 x) (.float .f64 y)=some (.bool (SJ x y)):=rfl
theorem Y2(x y:Nat):dZ .lss (.float .f64 x) (.float .f64 y)=some (.bool (ltF x y)):=rfl
theorem Y3(x y:Nat):dZ .eql (.float .f64 x) (.float .f64 y)=some (.bool (eqF x y)):=rfl
theorem Y4(x y:Nat):dZ .neq (.float .f64 x) (.float .f64 y)=some (.bool (!eqF x y)):=rfl
theorem Y5(x y:Nat):dZ .mul (.float .f64 x) (.float .f64 y)=IB .f64 (DF.mul x y):=rfl
theorem Y6(x y:Nat):dZ .sub (.float .f64 x) (.float .f64 y)=IB .f64 (DF.sub x y):=rfl
theorem Y7(x y:Nat):dZ .add (.float .f64 x) (.float .f64 y)=IB .f64 (DF.add x y):=rfl
theorem Y8(x y:Nat):dZ .quo (.float .f64 x) (.float .f64 y)=IB .f64 (DF.div x y):=rfl
theorem Y9(x:Nat):S0 .neg (.float .f64 x)=some (.float .f64 (Op.negFloat .f64 x)):=rfl
theorem Q7(r:Nat):IB .f64 (some r)=some (.float .f64 r):=rfl
theorem n_l(op:BinOp) (y:Nat):dZ op .eM (.float .f64 y)=vB op:=by cases op<;>rfl
theorem n_r(op:BinOp) (y:Nat):dZ op (.float .f64 y) .eM=vB op:=by cases op<;>rfl
theorem n_b(op:BinOp):dZ op .eM .eM=vB op:=by cases op<;>rfl
theorem Za:vB .neq=some (.bool true):=rfl
theorem Zb:vB .eql=some (.bool false):=rfl
theorem Zc:vB .sub=some .eM:=rfl
theorem Zd:vB .leq=some (.bool false):=rfl
theorem Ze:vB .lss=some (.bool false):=rfl
theorem Zf:vB .geq=some (.bool false):=rfl
theorem Zg:vB .gtr=some (.bool false):=rfl
def NAN:=And.intro @n_l (And.intro @n_r (And.intro @n_b (And.intro Za (And.intro Zb (And.intro Zc (And.intro Zd (And.intro Ze (And.intro Zf Zg))))))))
def Wy:=And.intro @Q7 (And.intro @YZ (And.intro @Y0 (And.intro @Y1 (And.intro @Y2 (And.intro @Y3 (And.intro @Y4 (And.intro @Y5 (And.intro @Y6 (And.intro @Y7 (And.intro @Y8 @Y9))))))))))
def LQ(s:Nat):AV:=.cN [I (if Pd s then(tk s:Int)else 0),B (Pd s)]
def Ca.Spec(C:aS) (f:Nat):Prop:=∀s:Nat,s<2^64->C.c f [Fl s] (LQ s) none
section
variable{P:Program} (hm:P.follows .mixedOrders=true) {f:Nat}
include hm
theorem Ca.ok(hc:bF P f=some vn):Ca.Spec (Pure P) f:=by
 intro s hs
 have h1:Pd s=(Mp s 0&&LN s 4652006429231887155):=rfl
 obtain⟨b1,hb1⟩:∃b,Mp s 0=b:=⟨_,rfl⟩
 obtain⟨b2,hb2⟩:∃b,LN s 4652006429231887155=b:=⟨_,rfl⟩
 rw[hb1,hb2]at h1
 have hrun:=fun h=>LP (s:=s) hs h
 clear hs
 refine ak hm hc (by show 1<=15;decide) (aj (keep:=[]) (i:=0) ?_)
 try simp only[RX,↓KW,seval,vn,Z.H,Wy]
 cases b1<;>cases b2
 ·try simp only[RX,↓KW,seval,hb1]
  rw[LQ,h1];rfl
 ·try simp only[RX,↓KW,seval,hb1]
  rw[LQ,h1];rfl
 ·try simp only[RX,↓KW,seval,Wy,hb1,hb2]
  rw[LQ,h1];rfl
 ·obtain⟨x,y,e1,e2,e3⟩:=hrun h1
  have e1':DF.mul 4621819117588971520 s=some x:=e1
  try simp only[RX,↓KW,seval,Wy,hb1,hb2,e1',e2,e3]
  rw[LQ,h1];rfl
end
section
open Z
def bX:List AV:=[.int .i64 0,.int .i64 0,.int .i64 0,.int .i64 0,.int .i64 0,.int .i64 0,.int .i64 0,.bool false,.bool false,.int .i64 0,.int .i64 0,.int .i64 0,.int .i64 0,.int .i64 0,.int .i64 0,.int .i64 0,.int .i64 0,.int .i64 0,.int .i64 0,.bool false,.bool false,.int .i64 0,.int .i64 0,.int .i64 0,.int .i64 0,.int .i64 0,.int .i64 0,.int .i64 0,.int .i64 0,.int .i64 0,.int .i64 0,.bool false,.bool false,.int .i64 0,.int .i64 0,.int .i64 0,.int .i64 0,.int .i64 0,.int .i64 0,.int .i64 0,.int .i64 0,.int .i64 0,.int .i64 0,.bool false,.bool false,.int .i64 0,.int .i64 0,.int .i64 0,.int .i64 0,.int .i64 0,.int .i64 0,.int .i64 0,.int .i64 0,.int .i64 0,.int .i64 0,.bool false,.bool false,.int .i64 0,.int .i64 0,.int .i64 0,.int .i64 0,.int .i64 0,.int .i64 0,.int .i64 0,.int .i64 0,.int .i64 0,.int .i64 0,.bool false,.bool false,.int .i64 0,.int .i64 0,.int .i64 0,.int .i64 0,.int .i64 0,.int .i64 0,.int .i64 0,.int .i64 0,.int .i64 0,.int .i64 0,.bool false,.bool false,.int .i64 0,.int .i64 0,.int .i64 0,.int .i64 0,.int .i64 0,.int .i64 0,.int .i64 0,.int .i64 0,.int .i64 0,.int .i64 0,.bool false,.bool false,.int .i64 0,.int .i64 0,.int .i64 0,.int .i64 0,.int .i64 0,.int .i64 0,.bool false,.int .i64 0,.int .i64 0,.int .i64 0,.int .i64 0,.int .i64 0,.int .i64 0,.int .i64 0,.int .i64 0,.int .i64 0,.int .i64 0,.int .i64 0,.int .i64 0,.int .i64 0,.int .i64 0,.int .i64 0,.int .i64 0,.aL]
def zU(g0:Nat):bM:=⟨4,[.tmp 2],r [o 1 (w 0),V 2 .eK] (r [o 3 (.rW (.func g0) [] [t 1]),M 2 3] y)⟩
end
structure Sh where
 aQ:List Int
 time:List Int
 gV:List Int
 dR:List Int
 entry:Bool
 deriving Inhabited,DecidableEq
def Sh.cells(s:Sh):List AV:=s.aQ.map I++(s.time.map I++(s.gV.map I++(s.dR.map I++[B s.entry])))
structure Sh.Ok (s:Sh):Prop where
 aQ:s.aQ.length=8
 time:s.time.length=8
 gV:s.gV.length=8
 dR:s.dR.length=8
def Sh.c(s:Sh) (p:Nat):Int:=s.aQ.getD p 0
def Sh.t(s:Sh) (p:Nat):Int:=s.time.getD p 0
def Sh.f(s:Sh) (p:Nat):Int:=s.gV.getD p 0
def Sh.ft(s:Sh) (p:Nat):Int:=s.dR.getD p 0
theorem Sh.len{s:Sh} (h:s.Ok):s.cells.length=33:=by simp[Sh.cells,h.aQ,h.time,h.gV,h.dR]
theorem Sh.at{s:Sh} (h:s.Ok) {p:Nat} (hp:p<8):s.cells[p]? =some (I (s.c p))/\s.cells[8+p]? =some (I (s.t p))/\s.cells[16+p]? =some (I (s.f p))/\s.cells[24+p]? =some (I (s.ft p)):=by
 have h1:=h.aQ;have h2:=h.time;have h3:=h.gV;have h4:=h.dR
 refine⟨?_,?_,?_,?_⟩
 ·simp[Sh.cells,Sh.c,h1,hp,List.getElem?_append]
 ·simp[Sh.cells,Sh.t,h1,h2,List.getElem?_append,hp,show ¬(8+p<8)by omega]
 ·simp[Sh.cells,Sh.f,h1,h2,h3,List.getElem?_append,hp,show ¬(16+p<8)by omega,show ¬(16+p-8<8)by omega,show 16+p-8-8=p by omega]
 ·simp[Sh.cells,Sh.ft,h1,h2,h3,h4,List.getElem?_append,hp,show ¬(24+p<8)by omega,show ¬(24+p-8<8)by omega,show ¬(24+p-8-8<8)by omega,show 24+p-8-8-8=p by omega]
theorem Sh.whole{s:Sh} (h:s.Ok):ay s.cells 0 (some 33)=some (.agg s.cells):=by
 have:=Sh.len h
 simp[ay,this];rw[<-this,List.take_length]
structure acI (t:Tb) (a b:Sh):Prop where
 t:t.Ln
 a:a.Ok
 b:b.Ok
theorem Tb.Ln.tc{t:Tb} (h:t.Ln) {k:Nat} (hk:k<8):t.phases[k]? =some (aX t k):=by
 have:k<t.phases.length:=by rw[h.phases];exact hk
 simp[aX,this]
def gI(t:Tb) (p:Nat):Int:=t.conflict.getD p 0
theorem Tb.Ln.Jg{t:Tb} (h:t.Ln) {p:Nat} (hp:p<8):t.cells[105+p]? =some (I (gI t p)):=by
 refine h.nP ?_
 have:p<t.conflict.length:=by rw[h.conflict];exact hp
 simp[gI,this]
def cV(n:Int):Int:=IntKind.i64.wrap (fj n 0 9999+1)
def tf.Spec(C:aS) (f:Nat):Prop:=∀s:Int,∃g,C.c f [I s] (.fn (.func g) [] [.ref [I s]]) none/\C.i (.fn (.func g) [] [.ref [I s]]) (((List.range 8).filter fun p=>tb s p).map fun(p:Nat)=>[I p])
def th.Spec(C:aS) (f:Nat):Prop:=∀s:Int,C.i (.fn (.func f) [] [.ref [I s]]) (((List.range 8).filter fun p=>tb s p).map fun(p:Nat)=>[I p])
section
variable{P:Program} (hm:P.follows .mixedOrders=true) {f:Nat}
include hm
theorem setEach.ok{f1:Nat} (hc:bF P f=some (zU f1)) (h1:th.Spec (Pure P) f1):tf.Spec (Pure P) f:=by
 intro s;refine⟨f1,?_,h1 s⟩
 refine ak hm hc (by show 1<=4;decide) (aj (keep:=[]) (i:=0) ?_)
 try simp only[I,RX,↓KW,Nat.reduceBEq,Nat.reduceAdd,zU,Z.H]
 simp
end
end Go.Eng
