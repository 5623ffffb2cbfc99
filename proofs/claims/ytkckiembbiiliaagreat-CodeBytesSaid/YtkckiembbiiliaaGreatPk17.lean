/- The engine and the library,part 17 of 21: what the proofs of this seat need of them. -/
import Derived.Test.YtkckiembbiiliaaGreatPk16
set_option linter.unnecessarySimpa false
set_option linter.unusedSimpArgs false
set_option linter.unusedVariables false
set_option linter.defProp false
set_option maxRecDepth 10000
set_option maxHeartbeats 4000000
namespace Go.Eng
open Go
def aW(ph:List Ph) (gs:List Gr) (cf:List Int) (ds:List fy) (rs:List Rl) (bs:List Bs) (a b c d e:Int) (fl:List Int) (w s:Int):Tb:=⟨ph,bf gs,cf,bf ds,bf rs,bf bs,a,b,c,d,e,fl,w,s⟩
def pad{α:Type} (x:α) (L:List α):List α:=L++List.replicate (8-L.length) x
theorem sI{α:Type} {x:α} {L:List α} (h:L.length=8):pad x L=L:=by simp[pad,h]
theorem sJ{α:Type} {x:α} {L:List α} (h:L.length<=8):(pad x L).length=8:=by simp[pad];omega
theorem sK{α:Type} {x a:α} {L:List α} (h:L.length<8):(pad x L).set L.length a=pad x (L++[a]):=by
 unfold pad
 rw[show 8-L.length=(8-(L++[a]).length)+1 by simp;omega,List.replicate_succ,List.set_append]
 simp
theorem vG{α:Type} (c:Cd α):∀(n:Nat) (r:bk),((c.rep n).m r).1.length=n
 |0,_=>rfl
 |n+1,r=>by
  show(_::((c.rep n).m _).1).length=n+1
  rw[List.length_cons,vG c n]
theorem iW{α:Type} {c:Cd α} {n i:Nat} {q q' rF:bk} {tl:List α} {a:α} (h1:(c.rep (n-i)).m q=(tl,rF)) (e:c.m q=(a,q')) (h:i<n):∃tl',(c.rep (n-(i+1))).m q'=(tl',rF)/\tl=a::tl':=by
 rw[show n-i=(n-(i+1))+1 by omega]at h1
 simp only[Cd.rep,Cd.map,Cd.seq,e,Prod.mk.injEq]at h1;exact⟨_,Prod.ext rfl h1.2,h1.1.symm⟩
theorem kA{α:Type} {c:Cd α} {n i:Nat} {q rF:bk} {tl:List α} (h1:(c.rep (n-i)).m q=(tl,rF)) (h:i=n):tl=[]/\q=rF:=by
 subst h;rw[Nat.sub_self]at h1;simp only[Cd.rep,Cd.none,Prod.mk.injEq]at h1;exact⟨h1.1.symm,h1.2⟩
theorem cQ{ph:List Ph} {gs:List Gr} {cf:List Int} {ds:List fy} {rs:List Rl} {bs:List Bs} {a b c d e:Int} {fl:List Int} {w s:Int} (h1:ph.length=8) (h2:cf.length=8) (h3:fl.length=8):(aW ph gs cf ds rs bs a b c d e fl w s).Ln:=⟨h1,h2,h3⟩
theorem aO{α:Type} (f:α->List AV) (o:Option (List α)):(aD f o).cells=[aD f o]:=by cases o<;>rfl
theorem cm{α:Type} (f:α->List AV) (o:Option (List α)) (q:Option Nat):jq (aD f o) q=true:=by cases o<;>rfl
theorem Gr.len'(g:Gr):g.cells.length=2:=rfl
theorem Rl.len'(g:Rl):g.cells.length=11:=rfl
theorem Bs.len'(g:Bs):g.cells.length=2:=rfl
theorem fy.len'(g:fy):g.cells.length=7:=rfl
def zU.Spec(C:bw) (f:Nat):Prop:=nA ot (fun t=>.agg t.cells) C f
theorem EZ{α:Type} (c:Cd α) (n:Nat) {r:bk} (hr:r.Ok):∃l r',(c.rep n).m r=(l,r')/\r'.Ok/\l.length=n:=⟨_,_,rfl,(c.rep n).ok r hr,vG c n r⟩
theorem Tb.tJ{t:Tb} (h:t.phases.length=8) (g:Option (List Gr)):setCells t.cells 104 [aD Gr.cells g]=({t with groups:=g}:Tb).cells:=by
 rw[<-Tb.zF h g];simp[setCells]
section
variable{P:Program} (hm:P.follows .mixedOrders=true) {f:Nat}
include hm
theorem zU.ok{fP fN fW eG fD eD fR eR fT eB:Nat} (hc:de P f=some (gZ fP fN fW eG fD eD fR eR fT eB)) (hP:J4.Spec (Pure P) fP) (hN:wC.Spec (Pure P) fN) (hW:DJ.Spec (Pure P) fW) (hD:DK.Spec (Pure P) fD) (hR:J5.Spec (Pure P) fR) (hT:rL.Spec (Pure P) fT):zU.Spec (Pure P) f:=by
 intro r hr;obtain⟨phs,r1,e1,k1,l1⟩:=EZ sY 8 hr
 obtain⟨n1,r2,e2,k2,b1,c1⟩:=oh hN k1 1 4 (by decide) (by decide) (by decide)
 obtain⟨N1,hN1,hN1'⟩:∃N:Nat,n1=(N:Int)/\N<=4:=⟨n1.toNat,by omega,by omega⟩
 subst hN1;obtain⟨grs,r3,e3,k3,l3⟩:=EZ uu N1 k2;obtain⟨cf,r4,e4,k4,l4⟩:=EZ jO 8 k3
 obtain⟨n2,r5,e5,k5,b2,c2⟩:=oh hN k4 1 16 (by decide) (by decide) (by decide)
 obtain⟨N2,hN2,hN2'⟩:∃N:Nat,n2=(N:Int)/\N<=16:=⟨n2.toNat,by omega,by omega⟩
 subst hN2;obtain⟨ds,r6,e6,k6,l6⟩:=EZ j0 N2 k5
 obtain⟨n3,r7,e7,k7,b3,c3⟩:=oh hN k6 1 4 (by decide) (by decide) (by decide)
 obtain⟨N3,hN3,hN3'⟩:∃N:Nat,n3=(N:Int)/\N<=4:=⟨n3.toNat,by omega,by omega⟩
 subst hN3;obtain⟨rs,r8,e8,k8,l8⟩:=EZ uA N3 k7
 obtain⟨n4,r9,e9,k9,b4,c4⟩:=oh hN k8 1 4 (by decide) (by decide) (by decide)
 obtain⟨N4,hN4,hN4'⟩:∃N:Nat,n4=(N:Int)/\N<=4:=⟨n4.toNat,by omega,by omega⟩
 subst hN4;obtain⟨bs,r10,e10,k10,l10⟩:=EZ uv N4 k9;obtain⟨a0,r11,e11,k11,ca0⟩:=nA.step hT k10;obtain⟨a1,r12,e12,k12,ca1⟩:=nA.step hT k11;obtain⟨a2,r13,e13,k13,ca2⟩:=nA.step hT k12;obtain⟨a3,r14,e14,k14,ca3⟩:=nA.step hT k13;obtain⟨a4,r15,e15,k15,ca4⟩:=nA.step hT k14
 obtain⟨fl,r16,e16,k16,l16⟩:=EZ (cF 2 (by decide)) 8 k15
 obtain⟨w,r17,e17,k17,_,cw⟩:=oh hN k16 4 2147483647 (by decide) (by decide) (by decide)
 obtain⟨s,r18,e18,k18,_,cs⟩:=oh hN k17 4 2147483647 (by decide) (by decide) (by decide)
 have hm':ot.m r=(aW phs grs cf ds rs bs a0 a1 a2 a3 a4 fl w s,r18):=by
  have e2':(cF 4 (by decide)).m r1=((N1:Int),r2):=e2
  have e5':(cF 16 (by decide)).m r4=((N2:Int),r5):=e5
  have e7':(cF 4 (by decide)).m r6=((N3:Int),r7):=e7
  have e9':(cF 4 (by decide)).m r8=((N4:Int),r9):=e9
  have e17':dM.m r16=(w,r17):=e17
  have e18':dM.m r17=(s,r18):=e18
  simp only[ot,zR,nv,rI,pT,Cd.many,Cd.map,Cd.seq,Int.toNat_natCast,e1,e2',e3,e4,e5',e6,e7',e8,e9',e10,e11,e12,e13,e14,e15,e16,e17',e18',aW]
 rw[hm'];clear hm'
 have z0:cV=aW (pad default []) [] (pad 0 []) [] [] [] 0 0 0 0 0 (pad 0 []) 0 0:=rfl
 have p0:(pad (0:Int) []).length=8:=rfl
 refine bO hm hc (by show 1<=130;decide) rfl (by simp) (ax (keep:=[0,3,6,9,12,15,18]) (i:=0) ?_)
 try simp only[I,B,D,RY,↓KW,seval,gZ,Z.H,Cc]
 refine dR (.exit 0) (fun _:Unit=>(⟨[(3,.ptr 5 0),(2,.ptr 4 0),(0,.ptr 0 0)],[(5,⟨(aW phs [] (pad 0 []) [] [] [] 0 0 0 0 0 (pad 0 []) 0 0).cells,[]⟩),(4,⟨cV.cells,[]⟩),(0,⟨r1.cells,[]⟩)],[],400⟩:S)) (fun _=>True) (fun _=>rfl) ?_ ?_
 ·refine aH (fun x:List Ph×bk=>(⟨[(4,.dat (I x.1.length) none),(3,.ptr 5 0),(2,.ptr 4 0),(0,.ptr 0 0)],[(5,⟨(aW (pad default x.1) [] (pad 0 []) [] [] [] 0 0 0 0 0 (pad 0 []) 0 0).cells,[]⟩),(4,⟨cV.cells,[]⟩),(0,⟨x.2.cells,[]⟩)],[],400⟩:S)) (fun x=>8-x.1.length) (fun x=>x.1.length<=8/\x.2.Ok/\∃tl,(sY.rep (8-x.1.length)).m x.2=(tl,r1)/\x.1++tl=phs) ?_ ([],r) ⟨by simp,hr,_,e1,rfl⟩ ?_
  ·intro x hx A back
   obtain⟨L,q⟩:=x;obtain⟨hL,hq,tl,h1,h2⟩:=hx;simp only at hL hq h1 h2
   have ln:(aW (pad default L) [] (pad 0 []) [] [] [] 0 0 0 0 0 (pad 0 []) 0 0).Ln:=cQ (sJ hL) p0 p0
   have hln:=ln.len
   have hw:=aF (k:=L.length) (by omega)
   try simp only[I,B,D,RY,↓KW,seval]
   refine aq (fun h=>?_) (fun h=>?_)<;>try simp only[I,B,D,RY,↓KW,seval,h]
   ·have h3:L.length<8:=by have:=of_decide_eq_true h;omega
    obtain⟨a,q',ea,ka,ca⟩:=nA.step hP hq;obtain⟨tl',e',h1'⟩:=iW h1 ea h3
    have hs:setCells (aW (pad default L) [] (pad 0 []) [] [] [] 0 0 0 0 0 (pad 0 []) 0 0).cells (L.length*13) a.cells=(aW (pad default (L++[a])) [] (pad 0 []) [] [] [] 0 0 0 0 0 (pad 0 []) 0 0).cells:=by
     rw[ln.wE h3 a];simp only[aW,sK h3]
    refine⟨rfl,ay ca ?_⟩;try simp only[I,B,D,RY,↓KW,seval,hs,Ph.len]
    repeat(refine And.intro (by first|omega|(simp;omega)) ?_)
    try simp only[I,B,D,RY,↓KW,seval,hs,Ph.len]
    refine back (L++[a],q') _ ⟨by show(L++[a]).length<=8;simp;omega,ka,tl',by rw[List.length_append];exact e',by rw[<-h2,h1'];simp⟩ (by show 8-(L++[a]).length<8-L.length;simp;omega) ?_
    refine ah (by decide) ?_ ?_ ?_ ?_<;>simp[LX,I,B,D,hs,hw,List.length_append]
   ·have h3:L.length=8:=by have:=of_decide_eq_false h;omega
    obtain⟨h4,h5⟩:=kA h1 h3;rw[h4,List.append_nil]at h2;refine bI () trivial ?_
    refine ah (by decide) ?_ ?_ ?_ ?_<;>simp[LX,I,B,D,h5,<-h2,sI h3]
  ·refine ah (by decide) ?_ ?_ ?_ ?_<;>simp[LX,I,B,D,z0]
 ·intro _ _
  try simp only[I,B,D,RY,↓KW,seval]
  refine⟨rfl,ay c1 ?_⟩;try simp only[I,B,D,RY,↓KW,seval]
  refine dR (.exit 2) (fun _:Unit=>(⟨[(3,.ptr 5 0),(2,.ptr 4 0),(0,.ptr 0 0)],[(5,⟨(aW phs grs (pad 0 []) [] [] [] 0 0 0 0 0 (pad 0 []) 0 0).cells,[]⟩),(4,⟨cV.cells,[]⟩),(0,⟨r3.cells,[]⟩)],[],400⟩:S)) (fun _=>True) (fun _=>rfl) ?_ ?_
  ·refine aH (fun x:List Gr×bk=>(⟨[(6,.dat (I x.1.length) none),(5,.dat (I N1) none),(3,.ptr 5 0),(2,.ptr 4 0),(0,.ptr 0 0)],[(5,⟨(aW phs x.1 (pad 0 []) [] [] [] 0 0 0 0 0 (pad 0 []) 0 0).cells,if x.1=[]then[]else[(104,0)]⟩),(4,⟨cV.cells,[]⟩),(0,⟨x.2.cells,[]⟩)],bq x.1 0 eG,400⟩:S)) (fun x=>N1-x.1.length) (fun x=>x.1.length<=N1/\x.2.Ok/\∃tl,(uu.rep (N1-x.1.length)).m x.2=(tl,r3)/\x.1++tl=grs) ?_ ([],r2) ⟨by simp,k2,_,e3,rfl⟩ ?_
   ·intro x hx A back
    obtain⟨L,q⟩:=x;obtain⟨hL,hq,tl,h1,h2⟩:=hx;simp only at hL hq h1 h2
    have ln:(aW phs L (pad 0 []) [] [] [] 0 0 0 0 0 (pad 0 []) 0 0).Ln:=cQ l1 p0 p0
    have hln:=ln.len
    have hat:=Tb.uj ln.phases
    have hw:=aF (k:=L.length) (by omega)
    have hset:∀a:Gr,setCells (aW phs L (pad 0 []) [] [] [] 0 0 0 0 0 (pad 0 []) 0 0).cells 104 [aD Gr.cells (some (L++[a]))]=(aW phs (L++[a]) (pad 0 []) [] [] [] 0 0 0 0 0 (pad 0 []) 0 0).cells:=fun a=>by
     rw[Tb.tJ ln.phases (some (L++[a]))];simp[aW,bf]
    have hatr:(aW phs L (pad 0 []) [] [] [] 0 0 0 0 0 (pad 0 []) 0 0).groups=bf L:=rfl
    rw[hatr]at hat;simp only[aJ,List.map_append,List.map_cons,List.map_nil]at hset
    cases L with
    |nil=>
     simp only[List.map_nil,List.nil_append,bf,if_true,aU]at hset hat
     have hw1:IntKind.i64.wrap 1=1:=by decide
     try simp only[I,B,D,RY,↓KW,seval,bf,bq,List.length_nil]
     refine aq (fun h=>?_) (fun h=>?_)<;>try simp only[I,B,D,RY,↓KW,seval,hat,h]
     ·have h3:0<N1:=by have:=of_decide_eq_true h;simpa using this
      obtain⟨x1,q1,ea1,ka1,ca1⟩:=nA.step hW hq;obtain⟨x2,q',ea2,ka,ca2⟩:=nA.step hW ka1
      obtain⟨a,ha⟩:∃a:Gr,a=⟨bf x1,bf x2⟩:=⟨_,rfl⟩
      have ea:uu.m q=(a,q'):=by rw[ha];simp only[uu,Cd.map,Cd.seq,ea1,ea2]
      have hset:=hset a
      have hac:a.cells=[aD aA (bf x1),aD aA (bf x2)]:=by rw[ha];rfl
      rw[hac]at hset;refine⟨rfl,ay ca1 ?_⟩;try simp only[I,B,D,RY,↓KW,seval]
      refine⟨rfl,ay ca2 ?_⟩;skip;obtain⟨tl',e',h1'⟩:=iW h1 ea h3;try simp only[I,B,D,RY,↓KW,seval,hset,hat,hln,aO,cm,Gr.len']
      repeat(refine And.intro (by first|omega|(simp at h3⊢;omega)) ?_)
      try simp only[I,B,D,RY,↓KW,seval,hset,hat,hln,aO,cm,Gr.len']
      refine back ([a],q') _ ⟨by simp at h3⊢;omega,ka,tl',by simpa using e',by rw[<-h2,h1'];simp⟩ (by simp at h3⊢;omega) ?_
      refine ah (by decide) ?_ ?_ ?_ ?_<;>simp[LX,I,B,D,hset,hw1,bf,aO]
     ·have h3:0=N1:=by have:=of_decide_eq_false h;omega
      obtain⟨h4,h5⟩:=kA h1 h3;rw[h4,List.append_nil]at h2;refine bI () trivial ?_
      refine ah (by decide) ?_ ?_ ?_ ?_<;>simp[LX,I,B,D,h5,<-h2,bf]
    |cons y ys=>
     simp only[bf,reduceCtorEq,if_false,aJ]at hset hat
     have hw1:IntKind.i64.wrap ((ys.length:Int)+1+1)=(ys.length:Int)+1+1:=bC (by omega) (by simp only[List.length_cons]at hL;omega)
     try simp only[I,B,D,RY,↓KW,seval,bf,bq]
     refine aq (fun h=>?_) (fun h=>?_)<;>try simp only[I,B,D,RY,↓KW,seval,hat,h]
     ·have h3:(y::ys).length<N1:=by have:=of_decide_eq_true h;simp only[List.length_cons]at this⊢;omega
      obtain⟨x1,q1,ea1,ka1,ca1⟩:=nA.step hW hq;obtain⟨x2,q',ea2,ka,ca2⟩:=nA.step hW ka1
      obtain⟨a,ha⟩:∃a:Gr,a=⟨bf x1,bf x2⟩:=⟨_,rfl⟩
      have ea:uu.m q=(a,q'):=by rw[ha];simp only[uu,Cd.map,Cd.seq,ea1,ea2]
      have hset:=hset a
      have hac:a.cells=[aD aA (bf x1),aD aA (bf x2)]:=by rw[ha];rfl
      rw[hac]at hset;refine⟨rfl,ay ca1 ?_⟩;try simp only[I,B,D,RY,↓KW,seval]
      refine⟨rfl,ay ca2 ?_⟩;skip;obtain⟨tl',e',h1'⟩:=iW h1 ea h3;try simp only[I,B,D,RY,↓KW,seval,hset,hat,hln,aO,cm,Gr.len']
      repeat(refine And.intro (by first|omega|(simp at h3⊢;omega)) ?_)
      try simp only[I,B,D,RY,↓KW,seval,hset,hat,hln,aO,cm,Gr.len']
      refine back ((y::ys)++[a],q') _ ⟨by simp at h3⊢;omega,ka,tl',by simpa using e',by rw[<-h2,h1'];simp⟩ (by simp at h3⊢;omega) ?_
      refine ah (by decide) ?_ ?_ ?_ ?_<;>simp[LX,I,B,D,hset,hw1,bf,aO]
     ·have h3:(y::ys).length=N1:=by have:=of_decide_eq_false h;simp only[List.length_cons]at this hL⊢;omega
      obtain⟨h4,h5⟩:=kA h1 h3;rw[h4,List.append_nil]at h2;refine bI () trivial ?_
      refine ah (by decide) ?_ ?_ ?_ ?_<;>simp[LX,I,B,D,h5,<-h2,bf]
   ·refine ah (by decide) ?_ ?_ ?_ ?_<;>simp[LX,I,B,D,bf,bq,z0]
  ·intro _ _
   try simp only[I,B,D,RY,↓KW,seval]
   refine dR (.exit 4) (fun _:Unit=>(⟨[(3,.ptr 5 0),(2,.ptr 4 0),(0,.ptr 0 0)],[(5,⟨(aW phs grs cf [] [] [] 0 0 0 0 0 (pad 0 []) 0 0).cells,[]⟩),(4,⟨cV.cells,[]⟩),(0,⟨r4.cells,[]⟩)],[],400⟩:S)) (fun _=>True) (fun _=>rfl) ?_ ?_
   ·refine aH (fun x:List Int×bk=>(⟨[(9,.dat (I x.1.length) none),(3,.ptr 5 0),(2,.ptr 4 0),(0,.ptr 0 0)],[(5,⟨(aW phs grs (pad 0 x.1) [] [] [] 0 0 0 0 0 (pad 0 []) 0 0).cells,[]⟩),(4,⟨cV.cells,[]⟩),(0,⟨x.2.cells,[]⟩)],[],400⟩:S)) (fun x=>8-x.1.length) (fun x=>x.1.length<=8/\x.2.Ok/\∃tl,(jO.rep (8-x.1.length)).m x.2=(tl,r4)/\x.1++tl=cf) ?_ ([],r3) ⟨by simp,k3,_,e4,rfl⟩ ?_
    ·intro x hx A back
     obtain⟨L,q⟩:=x;obtain⟨hL,hq,tl,h1,h2⟩:=hx;simp only at hL hq h1 h2
     have ln:(aW phs grs (pad 0 L) [] [] [] 0 0 0 0 0 (pad 0 []) 0 0).Ln:=cQ l1 (sJ hL) p0
     have hln:=ln.len
     have hw:=aF (k:=L.length) (by omega)
     try simp only[I,B,D,RY,↓KW,seval]
     refine aq (fun h=>?_) (fun h=>?_)<;>try simp only[I,B,D,RY,↓KW,seval,h]
     ·have h3:L.length<8:=by have:=of_decide_eq_true h;omega
      obtain⟨a,q',ea,ka,_,ca⟩:=oh hN hq 1 255 (by decide) (by decide) (by decide)
      obtain⟨tl',e',h1'⟩:=iW h1 ea h3
      have hs:setCells (aW phs grs (pad 0 L) [] [] [] 0 0 0 0 0 (pad 0 []) 0 0).cells (105+L.length) [I a]=(aW phs grs (pad 0 (L++[a])) [] [] [] 0 0 0 0 0 (pad 0 []) 0 0).cells:=by
       rw[ln.mF h3 a];simp only[aW,sK h3]
      refine⟨rfl,ay ca ?_⟩;try simp only[I,B,D,RY,↓KW,seval,hs,Ph.len]
      repeat(refine And.intro (by first|omega|(simp;omega)) ?_)
      try simp only[I,B,D,RY,↓KW,seval,hs,Ph.len]
      refine back (L++[a],q') _ ⟨by show(L++[a]).length<=8;simp;omega,ka,tl',by rw[List.length_append];exact e',by rw[<-h2,h1'];simp⟩ (by show 8-(L++[a]).length<8-L.length;simp;omega) ?_
      refine ah (by decide) ?_ ?_ ?_ ?_<;>simp[LX,I,B,D,hs,hw,List.length_append]
     ·have h3:L.length=8:=by have:=of_decide_eq_false h;omega
      obtain⟨h4,h5⟩:=kA h1 h3;rw[h4,List.append_nil]at h2;refine bI () trivial ?_
      refine ah (by decide) ?_ ?_ ?_ ?_<;>simp[LX,I,B,D,h5,<-h2,sI h3]
    ·refine ah (by decide) ?_ ?_ ?_ ?_<;>simp[LX,I,B,D,z0]
   ·intro _ _
    try simp only[I,B,D,RY,↓KW,seval]
    refine⟨rfl,ay c2 ?_⟩;try simp only[I,B,D,RY,↓KW,seval]
    refine dR (.exit 6) (fun _:Unit=>(⟨[(3,.ptr 5 0),(2,.ptr 4 0),(0,.ptr 0 0)],[(5,⟨(aW phs grs cf ds [] [] 0 0 0 0 0 (pad 0 []) 0 0).cells,[]⟩),(4,⟨cV.cells,[]⟩),(0,⟨r6.cells,[]⟩)],[],400⟩:S)) (fun _=>True) (fun _=>rfl) ?_ ?_
    ·refine aH (fun x:List fy×bk=>(⟨[(10,.dat (I x.1.length) none),(5,.dat (I N2) none),(3,.ptr 5 0),(2,.ptr 4 0),(0,.ptr 0 0)],[(5,⟨(aW phs grs cf x.1 [] [] 0 0 0 0 0 (pad 0 []) 0 0).cells,if x.1=[]then[]else[(113,0)]⟩),(4,⟨cV.cells,[]⟩),(0,⟨x.2.cells,[]⟩)],bq x.1 0 eD,400⟩:S)) (fun x=>N2-x.1.length) (fun x=>x.1.length<=N2/\x.2.Ok/\∃tl,(j0.rep (N2-x.1.length)).m x.2=(tl,r6)/\x.1++tl=ds) ?_ ([],r5) ⟨by simp,k5,_,e6,rfl⟩ ?_
     ·intro x hx A back
      obtain⟨L,q⟩:=x;obtain⟨hL,hq,tl,h1,h2⟩:=hx;simp only at hL hq h1 h2
      have ln:(aW phs grs cf L [] [] 0 0 0 0 0 (pad 0 []) 0 0).Ln:=cQ l1 l4 p0
      have hln:=ln.len
      have hat:=ln.xC
      have hw:=aF (k:=L.length) (by omega)
      have hset:∀a:fy,setCells (aW phs grs cf L [] [] 0 0 0 0 0 (pad 0 []) 0 0).cells 113 [aD fy.cells (some (L++[a]))]=(aW phs grs cf (L++[a]) [] [] 0 0 0 0 0 (pad 0 []) 0 0).cells:=fun a=>by
       rw[ln.vA (some (L++[a]))];simp[aW,bf]
      have hatr:(aW phs grs cf L [] [] 0 0 0 0 0 (pad 0 []) 0 0).az=bf L:=rfl
      rw[hatr]at hat;simp only[aJ,List.map_append,List.map_cons,List.map_nil]at hset
      cases L with
      |nil=>
       simp only[List.map_nil,List.nil_append,bf,if_true,aU]at hset hat
       have hw1:IntKind.i64.wrap 1=1:=by decide
       try simp only[I,B,D,RY,↓KW,seval,bf,bq,List.length_nil]
       refine aq (fun h=>?_) (fun h=>?_)<;>try simp only[I,B,D,RY,↓KW,seval,hat,h]
       ·have h3:0<N2:=by have:=of_decide_eq_true h;simpa using this
        obtain⟨a,q',ea,ka,ca⟩:=nA.step hD hq
        have hset:=hset a
        refine uW rfl ?_;try simp only[I,B,D,RY,↓KW,seval,hset,hat,hln]
        refine⟨rfl,ay ca ?_⟩;obtain⟨tl',e',h1'⟩:=iW h1 ea h3;try simp only[I,B,D,RY,↓KW,seval,hset,hat,hln,aO,cm,fy.len']
        repeat(refine And.intro (by first|omega|(simp at h3⊢;omega)) ?_)
        try simp only[I,B,D,RY,↓KW,seval,hset,hat,hln,aO,cm,fy.len']
        refine back ([a],q') _ ⟨by simp at h3⊢;omega,ka,tl',by simpa using e',by rw[<-h2,h1'];simp⟩ (by simp at h3⊢;omega) ?_
        refine ah (by decide) ?_ ?_ ?_ ?_<;>simp[LX,I,B,D,hset,hw1,bf,aO]
       ·have h3:0=N2:=by have:=of_decide_eq_false h;omega
        obtain⟨h4,h5⟩:=kA h1 h3;rw[h4,List.append_nil]at h2;refine bI () trivial ?_
        refine ah (by decide) ?_ ?_ ?_ ?_<;>simp[LX,I,B,D,h5,<-h2,bf]
      |cons y ys=>
       simp only[bf,reduceCtorEq,if_false,aJ]at hset hat
       have hw1:IntKind.i64.wrap ((ys.length:Int)+1+1)=(ys.length:Int)+1+1:=bC (by omega) (by simp only[List.length_cons]at hL;omega)
       try simp only[I,B,D,RY,↓KW,seval,bf,bq]
       refine aq (fun h=>?_) (fun h=>?_)<;>try simp only[I,B,D,RY,↓KW,seval,hat,h]
       ·have h3:(y::ys).length<N2:=by have:=of_decide_eq_true h;simp only[List.length_cons]at this⊢;omega
        obtain⟨a,q',ea,ka,ca⟩:=nA.step hD hq
        have hset:=hset a
        refine uW rfl ?_;try simp only[I,B,D,RY,↓KW,seval,hset,hat,hln]
        refine⟨rfl,ay ca ?_⟩;obtain⟨tl',e',h1'⟩:=iW h1 ea h3;try simp only[I,B,D,RY,↓KW,seval,hset,hat,hln,aO,cm,fy.len']
        repeat(refine And.intro (by first|omega|(simp at h3⊢;omega)) ?_)
        try simp only[I,B,D,RY,↓KW,seval,hset,hat,hln,aO,cm,fy.len']
        refine back ((y::ys)++[a],q') _ ⟨by simp at h3⊢;omega,ka,tl',by simpa using e',by rw[<-h2,h1'];simp⟩ (by simp at h3⊢;omega) ?_
        refine ah (by decide) ?_ ?_ ?_ ?_<;>simp[LX,I,B,D,hset,hw1,bf,aO]
       ·have h3:(y::ys).length=N2:=by have:=of_decide_eq_false h;simp only[List.length_cons]at this hL⊢;omega
        obtain⟨h4,h5⟩:=kA h1 h3;rw[h4,List.append_nil]at h2;refine bI () trivial ?_
        refine ah (by decide) ?_ ?_ ?_ ?_<;>simp[LX,I,B,D,h5,<-h2,bf]
     ·refine ah (by decide) ?_ ?_ ?_ ?_<;>simp[LX,I,B,D,bf,bq,z0]
    ·intro _ _
     try simp only[I,B,D,RY,↓KW,seval]
     refine⟨rfl,ay c3 ?_⟩;try simp only[I,B,D,RY,↓KW,seval]
     refine dR (.exit 8) (fun _:Unit=>(⟨[(3,.ptr 5 0),(2,.ptr 4 0),(0,.ptr 0 0)],[(5,⟨(aW phs grs cf ds rs [] 0 0 0 0 0 (pad 0 []) 0 0).cells,[]⟩),(4,⟨cV.cells,[]⟩),(0,⟨r8.cells,[]⟩)],[],400⟩:S)) (fun _=>True) (fun _=>rfl) ?_ ?_
     ·refine aH (fun x:List Rl×bk=>(⟨[(11,.dat (I x.1.length) none),(5,.dat (I N3) none),(3,.ptr 5 0),(2,.ptr 4 0),(0,.ptr 0 0)],[(5,⟨(aW phs grs cf ds x.1 [] 0 0 0 0 0 (pad 0 []) 0 0).cells,if x.1=[]then[]else[(114,0)]⟩),(4,⟨cV.cells,[]⟩),(0,⟨x.2.cells,[]⟩)],bq x.1 0 eR,400⟩:S)) (fun x=>N3-x.1.length) (fun x=>x.1.length<=N3/\x.2.Ok/\∃tl,(uA.rep (N3-x.1.length)).m x.2=(tl,r8)/\x.1++tl=rs) ?_ ([],r7) ⟨by simp,k7,_,e8,rfl⟩ ?_
      ·intro x hx A back
       obtain⟨L,q⟩:=x;obtain⟨hL,hq,tl,h1,h2⟩:=hx;simp only at hL hq h1 h2
       have ln:(aW phs grs cf ds L [] 0 0 0 0 0 (pad 0 []) 0 0).Ln:=cQ l1 l4 p0
       have hln:=ln.len
       have hat:=ln.vz
       have hw:=aF (k:=L.length) (by omega)
       have hset:∀a:Rl,setCells (aW phs grs cf ds L [] 0 0 0 0 0 (pad 0 []) 0 0).cells 114 [aD Rl.cells (some (L++[a]))]=(aW phs grs cf ds (L++[a]) [] 0 0 0 0 0 (pad 0 []) 0 0).cells:=fun a=>by
        rw[ln.wF (some (L++[a]))];simp[aW,bf]
       have hatr:(aW phs grs cf ds L [] 0 0 0 0 0 (pad 0 []) 0 0).aR=bf L:=rfl
       rw[hatr]at hat;simp only[aJ,List.map_append,List.map_cons,List.map_nil]at hset
       cases L with
       |nil=>
        simp only[List.map_nil,List.nil_append,bf,if_true,aU]at hset hat
        have hw1:IntKind.i64.wrap 1=1:=by decide
        try simp only[I,B,D,RY,↓KW,seval,bf,bq,List.length_nil]
        refine aq (fun h=>?_) (fun h=>?_)<;>try simp only[I,B,D,RY,↓KW,seval,hat,h]
        ·have h3:0<N3:=by have:=of_decide_eq_true h;simpa using this
         obtain⟨a,q',ea,ka,ca⟩:=nA.step hR hq
         have hset:=hset a
         refine uW rfl ?_;try simp only[I,B,D,RY,↓KW,seval,hset,hat,hln]
         refine⟨rfl,ay ca ?_⟩;obtain⟨tl',e',h1'⟩:=iW h1 ea h3;try simp only[I,B,D,RY,↓KW,seval,hset,hat,hln,aO,cm,Rl.len']
         repeat(refine And.intro (by first|omega|(simp at h3⊢;omega)) ?_)
         try simp only[I,B,D,RY,↓KW,seval,hset,hat,hln,aO,cm,Rl.len']
         refine back ([a],q') _ ⟨by simp at h3⊢;omega,ka,tl',by simpa using e',by rw[<-h2,h1'];simp⟩ (by simp at h3⊢;omega) ?_
         refine ah (by decide) ?_ ?_ ?_ ?_<;>simp[LX,I,B,D,hset,hw1,bf,aO]
        ·have h3:0=N3:=by have:=of_decide_eq_false h;omega
         obtain⟨h4,h5⟩:=kA h1 h3;rw[h4,List.append_nil]at h2;refine bI () trivial ?_
         refine ah (by decide) ?_ ?_ ?_ ?_<;>simp[LX,I,B,D,h5,<-h2,bf]
       |cons y ys=>
        simp only[bf,reduceCtorEq,if_false,aJ]at hset hat
        have hw1:IntKind.i64.wrap ((ys.length:Int)+1+1)=(ys.length:Int)+1+1:=bC (by omega) (by simp only[List.length_cons]at hL;omega)
        try simp only[I,B,D,RY,↓KW,seval,bf,bq]
        refine aq (fun h=>?_) (fun h=>?_)<;>try simp only[I,B,D,RY,↓KW,seval,hat,h]
        ·have h3:(y::ys).length<N3:=by have:=of_decide_eq_true h;simp only[List.length_cons]at this⊢;omega
         obtain⟨a,q',ea,ka,ca⟩:=nA.step hR hq
         have hset:=hset a
         refine uW rfl ?_;try simp only[I,B,D,RY,↓KW,seval,hset,hat,hln]
         refine⟨rfl,ay ca ?_⟩;obtain⟨tl',e',h1'⟩:=iW h1 ea h3;try simp only[I,B,D,RY,↓KW,seval,hset,hat,hln,aO,cm,Rl.len']
         repeat(refine And.intro (by first|omega|(simp at h3⊢;omega)) ?_)
         try simp only[I,B,D,RY,↓KW,seval,hset,hat,hln,aO,cm,Rl.len']
         refine back ((y::ys)++[a],q') _ ⟨by simp at h3⊢;omega,ka,tl',by simpa using e',by rw[<-h2,h1'];simp⟩ (by simp at h3⊢;omega) ?_
         refine ah (by decide) ?_ ?_ ?_ ?_<;>simp[LX,I,B,D,hset,hw1,bf,aO]
        ·have h3:(y::ys).length=N3:=by have:=of_decide_eq_false h;simp only[List.length_cons]at this hL⊢;omega
         obtain⟨h4,h5⟩:=kA h1 h3;rw[h4,List.append_nil]at h2;refine bI () trivial ?_
         refine ah (by decide) ?_ ?_ ?_ ?_<;>simp[LX,I,B,D,h5,<-h2,bf]
      ·refine ah (by decide) ?_ ?_ ?_ ?_<;>simp[LX,I,B,D,bf,bq,z0]
     ·intro _ _
      try simp only[I,B,D,RY,↓KW,seval]
      refine⟨rfl,ay c4 ?_⟩;try simp only[I,B,D,RY,↓KW,seval]
      refine dR (.exit 10) (fun _:Unit=>(⟨[(3,.ptr 5 0),(2,.ptr 4 0),(0,.ptr 0 0)],[(5,⟨(aW phs grs cf ds rs bs 0 0 0 0 0 (pad 0 []) 0 0).cells,[]⟩),(4,⟨cV.cells,[]⟩),(0,⟨r10.cells,[]⟩)],[],400⟩:S)) (fun _=>True) (fun _=>rfl) ?_ ?_
      ·refine aH (fun x:List Bs×bk=>(⟨[(12,.dat (I x.1.length) none),(5,.dat (I N4) none),(3,.ptr 5 0),(2,.ptr 4 0),(0,.ptr 0 0)],[(5,⟨(aW phs grs cf ds rs x.1 0 0 0 0 0 (pad 0 []) 0 0).cells,if x.1=[]then[]else[(115,0)]⟩),(4,⟨cV.cells,[]⟩),(0,⟨x.2.cells,[]⟩)],bq x.1 0 eB,400⟩:S)) (fun x=>N4-x.1.length) (fun x=>x.1.length<=N4/\x.2.Ok/\∃tl,(uv.rep (N4-x.1.length)).m x.2=(tl,r10)/\x.1++tl=bs) ?_ ([],r9) ⟨by simp,k9,_,e10,rfl⟩ ?_
       ·intro x hx A back
        obtain⟨L,q⟩:=x;obtain⟨hL,hq,tl,h1,h2⟩:=hx;simp only at hL hq h1 h2
        have ln:(aW phs grs cf ds rs L 0 0 0 0 0 (pad 0 []) 0 0).Ln:=cQ l1 l4 p0
        have hln:=ln.len
        have hat:=ln.xD
        have hw:=aF (k:=L.length) (by omega)
        have hset:∀a:Bs,setCells (aW phs grs cf ds rs L 0 0 0 0 0 (pad 0 []) 0 0).cells 115 [aD Bs.cells (some (L++[a]))]=(aW phs grs cf ds rs (L++[a]) 0 0 0 0 0 (pad 0 []) 0 0).cells:=fun a=>by
         rw[ln.wG (some (L++[a]))];simp[aW,bf]
        have hatr:(aW phs grs cf ds rs L 0 0 0 0 0 (pad 0 []) 0 0).aX=bf L:=rfl
        rw[hatr]at hat;simp only[aJ,List.map_append,List.map_cons,List.map_nil]at hset
        cases L with
        |nil=>
         simp only[List.map_nil,List.nil_append,bf,if_true,aU]at hset hat
         have hw1:IntKind.i64.wrap 1=1:=by decide
         try simp only[I,B,D,RY,↓KW,seval,bf,bq,List.length_nil]
         refine aq (fun h=>?_) (fun h=>?_)<;>try simp only[I,B,D,RY,↓KW,seval,hat,h]
         ·have h3:0<N4:=by have:=of_decide_eq_true h;simpa using this
          obtain⟨x1,q1,ea1,ka1,_,ca1⟩:=oh hN hq 1 255 (by decide) (by decide) (by decide)
          obtain⟨x2,q',ea2,ka,ca2⟩:=nA.step hT ka1
          obtain⟨a,ha⟩:∃a:Bs,a=⟨x1,x2⟩:=⟨_,rfl⟩
          have ea:uv.m q=(a,q'):=by rw[ha];simp only[uv,Cd.map,Cd.seq,jO,ea1,ea2]
          have hset:=hset a
          have hac:a.cells=[I x1,I x2]:=by rw[ha];rfl
          rw[hac]at hset
          have hb1:setCells [.int .i64 0,.int .i64 0] 0 [AV.int .i64 x1]=[AV.int .i64 x1,.int .i64 0]:=rfl
          have hb2:setCells [AV.int .i64 x1,.int .i64 0] 1 [AV.int .i64 x2]=[AV.int .i64 x1,AV.int .i64 x2]:=rfl
          refine⟨rfl,ay ca1 ?_⟩;try simp only[I,B,D,RY,↓KW,seval,hb1]
          refine⟨rfl,ay ca2 ?_⟩;obtain⟨tl',e',h1'⟩:=iW h1 ea h3;try simp only[I,B,D,RY,↓KW,seval,hset,hat,hln,aO,cm,Bs.len',hb1,hb2]
          repeat(refine And.intro (by first|omega|(simp at h3⊢;omega)) ?_)
          try simp only[I,B,D,RY,↓KW,seval,hset,hat,hln,aO,cm,Bs.len',hb1,hb2]
          refine back ([a],q') _ ⟨by simp at h3⊢;omega,ka,tl',by simpa using e',by rw[<-h2,h1'];simp⟩ (by simp at h3⊢;omega) ?_
          refine ah (by decide) ?_ ?_ ?_ ?_<;>simp[LX,I,B,D,hset,hw1,bf,aO]
         ·have h3:0=N4:=by have:=of_decide_eq_false h;omega
          obtain⟨h4,h5⟩:=kA h1 h3;rw[h4,List.append_nil]at h2;refine bI () trivial ?_
          refine ah (by decide) ?_ ?_ ?_ ?_<;>simp[LX,I,B,D,h5,<-h2,bf]
        |cons y ys=>
         simp only[bf,reduceCtorEq,if_false,aJ]at hset hat
         have hw1:IntKind.i64.wrap ((ys.length:Int)+1+1)=(ys.length:Int)+1+1:=bC (by omega) (by simp only[List.length_cons]at hL;omega)
         try simp only[I,B,D,RY,↓KW,seval,bf,bq]
         refine aq (fun h=>?_) (fun h=>?_)<;>try simp only[I,B,D,RY,↓KW,seval,hat,h]
         ·have h3:(y::ys).length<N4:=by have:=of_decide_eq_true h;simp only[List.length_cons]at this⊢;omega
          obtain⟨x1,q1,ea1,ka1,_,ca1⟩:=oh hN hq 1 255 (by decide) (by decide) (by decide)
          obtain⟨x2,q',ea2,ka,ca2⟩:=nA.step hT ka1
          obtain⟨a,ha⟩:∃a:Bs,a=⟨x1,x2⟩:=⟨_,rfl⟩
          have ea:uv.m q=(a,q'):=by rw[ha];simp only[uv,Cd.map,Cd.seq,jO,ea1,ea2]
          have hset:=hset a
          have hac:a.cells=[I x1,I x2]:=by rw[ha];rfl
          rw[hac]at hset
          have hb1:setCells [.int .i64 0,.int .i64 0] 0 [AV.int .i64 x1]=[AV.int .i64 x1,.int .i64 0]:=rfl
          have hb2:setCells [AV.int .i64 x1,.int .i64 0] 1 [AV.int .i64 x2]=[AV.int .i64 x1,AV.int .i64 x2]:=rfl
          refine⟨rfl,ay ca1 ?_⟩;try simp only[I,B,D,RY,↓KW,seval,hb1]
          refine⟨rfl,ay ca2 ?_⟩;obtain⟨tl',e',h1'⟩:=iW h1 ea h3;try simp only[I,B,D,RY,↓KW,seval,hset,hat,hln,aO,cm,Bs.len',hb1,hb2]
          repeat(refine And.intro (by first|omega|(simp at h3⊢;omega)) ?_)
          try simp only[I,B,D,RY,↓KW,seval,hset,hat,hln,aO,cm,Bs.len',hb1,hb2]
          refine back ((y::ys)++[a],q') _ ⟨by simp at h3⊢;omega,ka,tl',by simpa using e',by rw[<-h2,h1'];simp⟩ (by simp at h3⊢;omega) ?_
          refine ah (by decide) ?_ ?_ ?_ ?_<;>simp[LX,I,B,D,hset,hw1,bf,aO]
         ·have h3:(y::ys).length=N4:=by have:=of_decide_eq_false h;simp only[List.length_cons]at this hL⊢;omega
          obtain⟨h4,h5⟩:=kA h1 h3;rw[h4,List.append_nil]at h2;refine bI () trivial ?_
          refine ah (by decide) ?_ ?_ ?_ ?_<;>simp[LX,I,B,D,h5,<-h2,bf]
       ·refine ah (by decide) ?_ ?_ ?_ ?_<;>simp[LX,I,B,D,bf,bq,z0]
      ·intro _ _
       try simp only[I,B,D,RY,↓KW,seval]
       have ln0:(aW phs grs cf ds rs bs 0 0 0 0 0 (pad 0 []) 0 0).Ln:=cQ l1 l4 p0
       have hs0:setCells (aW phs grs cf ds rs bs 0 0 0 0 0 (pad 0 []) 0 0).cells 116 [I a0]=(aW phs grs cf ds rs bs a0 0 0 0 0 (pad 0 []) 0 0).cells:=(ln0.fQ a0).1
       have hl0:=ln0.len
       refine⟨rfl,ay ca0 ?_⟩;try simp only[I,B,D,RY,↓KW,seval,hs0,hl0]
       have ln1:(aW phs grs cf ds rs bs a0 0 0 0 0 (pad 0 []) 0 0).Ln:=cQ l1 l4 p0
       have hs1:setCells (aW phs grs cf ds rs bs a0 0 0 0 0 (pad 0 []) 0 0).cells 117 [I a1]=(aW phs grs cf ds rs bs a0 a1 0 0 0 (pad 0 []) 0 0).cells:=(ln1.fQ a1).2.1
       have hl1:=ln1.len
       refine⟨rfl,ay ca1 ?_⟩;try simp only[I,B,D,RY,↓KW,seval,hs1,hl1]
       have ln2:(aW phs grs cf ds rs bs a0 a1 0 0 0 (pad 0 []) 0 0).Ln:=cQ l1 l4 p0
       have hs2:setCells (aW phs grs cf ds rs bs a0 a1 0 0 0 (pad 0 []) 0 0).cells 118 [I a2]=(aW phs grs cf ds rs bs a0 a1 a2 0 0 (pad 0 []) 0 0).cells:=(ln2.fQ a2).2.2.1
       have hl2:=ln2.len
       refine⟨rfl,ay ca2 ?_⟩;try simp only[I,B,D,RY,↓KW,seval,hs2,hl2]
       have ln3:(aW phs grs cf ds rs bs a0 a1 a2 0 0 (pad 0 []) 0 0).Ln:=cQ l1 l4 p0
       have hs3:setCells (aW phs grs cf ds rs bs a0 a1 a2 0 0 (pad 0 []) 0 0).cells 119 [I a3]=(aW phs grs cf ds rs bs a0 a1 a2 a3 0 (pad 0 []) 0 0).cells:=(ln3.fQ a3).2.2.2.1
       have hl3:=ln3.len
       refine⟨rfl,ay ca3 ?_⟩;try simp only[I,B,D,RY,↓KW,seval,hs3,hl3]
       have ln4:(aW phs grs cf ds rs bs a0 a1 a2 a3 0 (pad 0 []) 0 0).Ln:=cQ l1 l4 p0
       have hs4:setCells (aW phs grs cf ds rs bs a0 a1 a2 a3 0 (pad 0 []) 0 0).cells 120 [I a4]=(aW phs grs cf ds rs bs a0 a1 a2 a3 a4 (pad 0 []) 0 0).cells:=(ln4.fQ a4).2.2.2.2
       have hl4:=ln4.len
       refine⟨rfl,ay ca4 ?_⟩;try simp only[I,B,D,RY,↓KW,seval,hs4,hl4]
       clear ln0 hs0 hl0 ln1 hs1 hl1 ln2 hs2 hl2 ln3 hs3 hl3 ln4 hs4 hl4
       refine dR (.exit 12) (fun _:Unit=>(⟨[(3,.ptr 5 0),(2,.ptr 4 0),(0,.ptr 0 0)],[(5,⟨(aW phs grs cf ds rs bs a0 a1 a2 a3 a4 fl 0 0).cells,[]⟩),(4,⟨cV.cells,[]⟩),(0,⟨r16.cells,[]⟩)],[],400⟩:S)) (fun _=>True) (fun _=>rfl) ?_ ?_
       ·refine aH (fun x:List Int×bk=>(⟨[(14,.dat (I x.1.length) none),(3,.ptr 5 0),(2,.ptr 4 0),(0,.ptr 0 0)],[(5,⟨(aW phs grs cf ds rs bs a0 a1 a2 a3 a4 (pad 0 x.1) 0 0).cells,[]⟩),(4,⟨cV.cells,[]⟩),(0,⟨x.2.cells,[]⟩)],[],400⟩:S)) (fun x=>8-x.1.length) (fun x=>x.1.length<=8/\x.2.Ok/\∃tl,((cF 2 (by decide)).rep (8-x.1.length)).m x.2=(tl,r16)/\x.1++tl=fl) ?_ ([],r15) ⟨by simp,k15,_,e16,rfl⟩ ?_
        ·intro x hx A back
         obtain⟨L,q⟩:=x;obtain⟨hL,hq,tl,h1,h2⟩:=hx;simp only at hL hq h1 h2
         have ln:(aW phs grs cf ds rs bs a0 a1 a2 a3 a4 (pad 0 L) 0 0).Ln:=cQ l1 l4 (sJ hL)
         have hln:=ln.len
         have hw:=aF (k:=L.length) (by omega)
         try simp only[I,B,D,RY,↓KW,seval]
         refine aq (fun h=>?_) (fun h=>?_)<;>try simp only[I,B,D,RY,↓KW,seval,h]
         ·have h3:L.length<8:=by have:=of_decide_eq_true h;omega
          obtain⟨a,q',ea,ka,_,ca⟩:=oh hN hq 1 2 (by decide) (by decide) (by decide)
          obtain⟨tl',e',h1'⟩:=iW h1 ea h3
          have hs:setCells (aW phs grs cf ds rs bs a0 a1 a2 a3 a4 (pad 0 L) 0 0).cells (121+L.length) [I a]=(aW phs grs cf ds rs bs a0 a1 a2 a3 a4 (pad 0 (L++[a])) 0 0).cells:=by
           rw[ln.sD h3 a];simp only[aW,sK h3]
          refine⟨rfl,ay ca ?_⟩;try simp only[I,B,D,RY,↓KW,seval,hs,Ph.len]
          repeat(refine And.intro (by first|omega|(simp;omega)) ?_)
          try simp only[I,B,D,RY,↓KW,seval,hs,Ph.len]
          refine back (L++[a],q') _ ⟨by show(L++[a]).length<=8;simp;omega,ka,tl',by rw[List.length_append];exact e',by rw[<-h2,h1'];simp⟩ (by show 8-(L++[a]).length<8-L.length;simp;omega) ?_
          refine ah (by decide) ?_ ?_ ?_ ?_<;>simp[LX,I,B,D,hs,hw,List.length_append]
         ·have h3:L.length=8:=by have:=of_decide_eq_false h;omega
          obtain⟨h4,h5⟩:=kA h1 h3;rw[h4,List.append_nil]at h2;refine bI () trivial ?_
          refine ah (by decide) ?_ ?_ ?_ ?_<;>simp[LX,I,B,D,h5,<-h2,sI h3]
        ·refine ah (by decide) ?_ ?_ ?_ ?_<;>simp[LX,I,B,D,z0]
       ·intro _ _
        have ln:(aW phs grs cf ds rs bs a0 a1 a2 a3 a4 fl 0 0).Ln:=cQ l1 l4 l16
        have hs:setCells (aW phs grs cf ds rs bs a0 a1 a2 a3 a4 fl 0 0).cells 129 [I w]=(aW phs grs cf ds rs bs a0 a1 a2 a3 a4 fl w 0).cells:=(ln.oP w).1
        have hl:=ln.len
        have ln':(aW phs grs cf ds rs bs a0 a1 a2 a3 a4 fl w 0).Ln:=cQ l1 l4 l16
        have hs':setCells (aW phs grs cf ds rs bs a0 a1 a2 a3 a4 fl w 0).cells 130 [I s]=(aW phs grs cf ds rs bs a0 a1 a2 a3 a4 fl w s).cells:=(ln'.oP s).2
        have hl':=ln'.len
        have ln2:(aW phs grs cf ds rs bs a0 a1 a2 a3 a4 fl w s).Ln:=cQ l1 l4 l16
        have hl2:=ln2.len
        have hw2:=ln2.whole
        have hz:setCells cV.cells 0 (aW phs grs cf ds rs bs a0 a1 a2 a3 a4 fl w s).cells=(aW phs grs cf ds rs bs a0 a1 a2 a3 a4 fl w s).cells:=dP (by rw[hl2];rfl)
        have hz0:cV.cells.length=131:=rfl
        try simp only[I,B,D,RY,↓KW,seval]
        refine⟨rfl,ay cw ?_⟩;try simp only[I,B,D,RY,↓KW,seval,hs,hl]
        refine⟨rfl,ay cs ?_⟩;try simp only[I,B,D,RY,↓KW,seval,hs',hl',hw2,hl2,hz,hz0]
end
abbrev W:=BitVec 16
def qe:W:=0x1021#16
def DL(c:W):W:=if c.msb then c<<<1^^^qe else c<<<1
def x8:Nat->W->W
 |0,c=>c
 |n+1,c=>x8 n (DL c)
theorem F0(a b:W):DL (a^^^b)=DL a^^^DL b:=by
 unfold DL;rw[BitVec.msb_xor,BitVec.shiftLeft_xor_distrib]
 cases a.msb<;>cases b.msb<;>simp
 ·rw[BitVec.xor_assoc]
 ·rw[BitVec.xor_assoc,BitVec.xor_assoc,BitVec.xor_comm qe (b<<<1)]
 ·rw[BitVec.xor_assoc (a<<<1),BitVec.xor_comm qe (b<<<1^^^qe),BitVec.xor_assoc (b<<<1),BitVec.xor_self,BitVec.xor_zero]
theorem F1:∀(n:Nat) (a b:W),x8 n (a^^^b)=x8 n a^^^x8 n b
 |0,_,_=>rfl
 |n+1,a,b=>by rw[x8,F0,F1 n];rfl
theorem Cm:∀(n m:Nat) (c:W),x8 (n+m) c=x8 m (x8 n c)
 |0,m,c=>by rw[Nat.zero_add];rfl
 |n+1,m,c=>by rw[show n+1+m=(n+m)+1 by omega];exact Cm n m (DL c)
theorem F2:∀(n:Nat) (c:W),c.toNat<2^(16-n)->n<=16->x8 n c=c<<<n
 |0,c,_,_=>by simp[x8]
 |n+1,c,h,hn=>by
  have h2:2^(16-n)=2*2^(16-(n+1)):=by rw[<-Nat.pow_succ'];congr 1;omega
  have h3:(2:Nat)^(16-n)<=2^16:=Nat.pow_le_pow_right (by omega) (by omega)
  have hm:c.msb=false:=by
   rw[BitVec.msb_eq_decide];simp only[decide_eq_false_iff_not];omega
  have e:DL c=c<<<1:=by unfold DL;rw[hm];rfl
  have ht:(c<<<1).toNat=2*c.toNat:=by rw[BitVec.toNat_shiftLeft,Nat.shiftLeft_eq,Nat.mod_eq_of_lt (by omega)];omega
  rw[x8,e,F2 n (c<<<1) (by rw[ht];omega) (by omega),<-BitVec.shiftLeft_add,Nat.add_comm]
def DM(i:Nat):W:=x8 4 (BitVec.ofNat 16 (i*4096))
theorem four(c:W):x8 4 c=c<<<4^^^DM (c>>>12).toNat:=by
 have e:c=(c&&&0x0fff#16)^^^BitVec.ofNat 16 ((c>>>12).toNat*4096):=by
  have h:BitVec.ofNat 16 ((c>>>12).toNat*4096)=(c>>>12)<<<12:=by
   apply BitVec.eq_of_toNat_eq
   rw[BitVec.toNat_ofNat,BitVec.toNat_shiftLeft,Nat.shiftLeft_eq]
  rw[h]
  ext i hi
  have hi16:i=0\/i=1\/i=2\/i=3\/i=4\/i=5\/i=6\/i=7\/i=8\/i=9\/i=10\/i=11\/i=12\/i=13\/i=14\/i=15:=by omega
  rcases hi16 with rfl|rfl|rfl|rfl|rfl|rfl|rfl|rfl|rfl|rfl|rfl|rfl|rfl|rfl|rfl|rfl<;>simp
 have h1:x8 4 (c&&&0x0fff#16)=(c&&&0x0fff#16)<<<4:=by
  refine F2 4 _ ?_ (by omega)
  have:(c&&&0x0fff#16).toNat<=4095:=by rw[BitVec.toNat_and];exact Nat.and_le_right
  omega
 have h2:(c&&&0x0fff#16)<<<4=c<<<4:=by
  ext i hi
  have hi16:i=0\/i=1\/i=2\/i=3\/i=4\/i=5\/i=6\/i=7\/i=8\/i=9\/i=10\/i=11\/i=12\/i=13\/i=14\/i=15:=by omega
  rcases hi16 with rfl|rfl|rfl|rfl|rfl|rfl|rfl|rfl|rfl|rfl|rfl|rfl|rfl|rfl|rfl|rfl<;>simp
 conv=>lhs;rw[e]
 rw[F1,h1,h2];rfl
def Hl(c:W) (x:Nat):W:=x8 8 (c^^^BitVec.ofNat 16 x<<<8)
theorem Ho(c:W) (x:Nat):Hl c x=(let d:=c^^^BitVec.ofNat 16 x<<<8;let e:=d<<<4^^^DM (d>>>12).toNat;e<<<4^^^DM (e>>>12).toNat):=by
 simp only[Hl]
 rw[show 8=4+4 from rfl,Cm,four,four]
def rM(c:W) (b:Bool):W:=if c.msb !=b then c<<<1^^^qe else c<<<1
def DN:Nat->W->Nat->W
 |0,c,_=>c
 |n+1,c,x=>DN n (rM c (x.testBit n)) x
theorem Hp(c:W) (b:Bool):rM c b=DL (c^^^(if b then 0x8000#16 else 0)):=by
 unfold rM DL
 cases b with
 |false=>simp
 |true=>
  have:((c^^^0x8000#16)<<<1:W)=c<<<1:=by
   rw[BitVec.shiftLeft_xor_distrib];simp
  simp only[if_true,BitVec.msb_xor,this]
  have:(0x8000#16:W).msb=true:=by decide
  rw[this]
def me(n x:Nat):W:=BitVec.ofNat 16 (x%2^n)<<<(16-n)
theorem Nx(x:Nat):me 0 x=0:=by simp[me,Nat.mod_one]
theorem wN(n x i:Nat) (hn:n<=8) (hi:i<16):(me n x)[i]=(decide (16-n<=i)&&x.testBit (i-(16-n))):=by
 unfold me
 have h8:2^n<=2^8:=Nat.pow_le_pow_right (by omega) hn
 have hx:x%2^n<2^n:=Nat.mod_lt _ (Nat.two_pow_pos n)
 rw[BitVec.getElem_shiftLeft,BitVec.getElem_eq_testBit_toNat,BitVec.toNat_ofNat,Nat.mod_eq_of_lt (show x%2^n<2^16 by omega),Nat.testBit_mod_two_pow]
 by_cases h:i<16-n
 ·simp[h];omega
 ·have h2:i-(16-n)<n:=by omega
  simp[h,h2];omega
theorem E0(n x:Nat) (hn:n<8):me (n+1) x=(if x.testBit n then 0x8000#16 else 0)^^^me n x>>>1:=by
 ext i hi
 rw[wN (n+1) x i (by omega) hi,BitVec.getElem_xor,BitVec.getElem_ushiftRight]
 by_cases h15:i=15
 ·subst h15
  have e1:(me n x).getLsbD (1+15)=false:=BitVec.getLsbD_of_ge _ _ (by omega)
  rw[e1,show 15-(16-(n+1))=n by omega]
  cases x.testBit n<;>simp<;>omega
 ·have e1:(me n x).getLsbD (1+i)=(me n x)[1+i]'(by omega):=BitVec.getLsbD_eq_getElem (by omega)
  have e2:((if x.testBit n then 0x8000#16 else 0):W)[i]=false:=by
   cases x.testBit n
   ·simp
   ·show(0x8000#16:W)[i]=false
    have hi16:i=0\/i=1\/i=2\/i=3\/i=4\/i=5\/i=6\/i=7\/i=8\/i=9\/i=10\/i=11\/i=12\/i=13\/i=14:=by omega
    rcases hi16 with rfl|rfl|rfl|rfl|rfl|rfl|rfl|rfl|rfl|rfl|rfl|rfl|rfl|rfl|rfl<;>simp
  rw[e1,e2,wN n x (1+i) (by omega) (by omega),Bool.false_xor]
  rw[show i-(16-(n+1))=1+i-(16-n)by omega]
  congr 1
  simp;omega
theorem E1(n x:Nat) (hn:n<8):DL (me n x>>>1)=me n x:=by
 have hm:(me n x>>>1).msb=false:=by
  rw[BitVec.msb_eq_getLsbD_last];simp
 unfold DL;rw[hm]
 show(me n x>>>1)<<<1=_
 ext i hi
 rw[BitVec.getElem_shiftLeft]
 by_cases h0:i<1
 ·have:i=0:=by omega
  subst this
  rw[wN n x 0 (by omega) (by omega)]
  simp;omega
 ·simp only[h0,decide_false,Bool.not_false,Bool.true_and]
  rw[BitVec.getElem_ushiftRight,show 1+(i-1)=i by omega,BitVec.getLsbD_eq_getElem (by omega)]
theorem J6:∀(n:Nat) (c:W) (x:Nat),n<=8->DN n c x=x8 n (c^^^me n x)
 |0,c,x,_=>by rw[Nx];simp[DN,x8]
 |n+1,c,x,h=>by
  rw[DN,J6 n _ x (by omega),E0 n x (by omega),x8,Hp,<-BitVec.xor_assoc,F0 _ (me n x>>>1),E1 n x (by omega)]
theorem Ny(c:W) (x:Nat) (hx:x<256):DN 8 c x=Hl c x:=by
 rw[J6 8 c x (by omega)]
 unfold Hl me
 rw[Nat.mod_eq_of_lt (show x<2^8 by omega)]
def jR(c:W) (l:List Int):W:=l.foldl (fun c x=>Hl c x.toNat) c
def U(w:W):AV:=.int .u16 (w.toNat:Int)
theorem rN(n:Int):IntKind.u16.wrap n=n%65536:=rfl
theorem x9(w:W):BitVec.ofInt 16 (w.toNat:Int)=w:=by
 apply BitVec.eq_of_toNat_eq
 rw[BitVec.toNat_ofInt]
 have:=w.isLt
 omega
theorem J7(w:W):IntKind.u16.wrap (w.toNat:Int)=w.toNat:=by rw[rN];have:=w.isLt;omega
theorem F3(a b:W):BU .u16 (a.toNat:Int) (b.toNat:Int)=((a^^^b).toNat:Int):=by
 show IntKind.u16.wrap ((BitVec.ofInt 16 (a.toNat:Int)^^^BitVec.ofInt 16 (b.toNat:Int)).toNat:Int)=_
 rw[x9,x9,J7]
theorem VC(a b:W):nZ .u16 (a.toNat:Int) (b.toNat:Int)=((a&&&b).toNat:Int):=by
 show IntKind.u16.wrap ((BitVec.ofInt 16 (a.toNat:Int)&&&BitVec.ofInt 16 (b.toNat:Int)).toNat:Int)=_
 rw[x9,x9,J7]
theorem F4(w:W) (k:Nat):IntKind.u16.wrap ((w.toNat:Int)*2^k)=((w<<<k).toNat:Int):=by
 rw[rN,BitVec.toNat_shiftLeft,Nat.shiftLeft_eq];simp
theorem VD(n:Nat) (h:n<65536):((BitVec.ofNat 16 n:W).toNat:Int)=n:=by rw[BitVec.toNat_ofNat];omega
def jc:List AV:=(List.range 16).map fun i=>U (DM i)
def jc.Spec(C:bw) (f:Nat):Prop:=C.c f [] (.agg Go.Eng.jc) none
def wO.Spec(C:bw) (f:Nat):Prop:=∀(c:W) (b:Option (List Int)),(b.getD []).length<=1000000->qd (b.getD [])->C.c f [U c,aD dD b] (U (jR c (b.getD []))) none
def Be.Spec(C:bw) (f:Nat):Prop:=∀b:Option (List Int),(b.getD []).length<=1000000->qd (b.getD [])->C.c f [aD dD b] (U (jR 0xffff#16 (b.getD []))) none
def Hq.Spec(C:bw) (f:Nat):Prop:=wO.Spec C f
theorem Rs(w:W):(((w&&&0x8000#16).toNat:Int) !=0)=w.msb:=by
 have e:w&&&0x8000#16=if w.msb then 0x8000#16 else 0#16:=by
  rw[BitVec.msb_eq_getLsbD_last]
  ext i hi
  rw[BitVec.getElem_and]
  by_cases h:i=15
  ·subst h
   have:w[15]=w.getLsbD (16-1):=(BitVec.getLsbD_eq_getElem (by omega)).symm
   rw[this]
   cases w.getLsbD (16-1)<;>simp
  ·have e2:(0x8000#16:W)[i]=false:=by
    have hi16:i=0\/i=1\/i=2\/i=3\/i=4\/i=5\/i=6\/i=7\/i=8\/i=9\/i=10\/i=11\/i=12\/i=13\/i=14:=by omega
    rcases hi16 with rfl|rfl|rfl|rfl|rfl|rfl|rfl|rfl|rfl|rfl|rfl|rfl|rfl|rfl|rfl<;>simp
   rw[e2]
   cases w.getLsbD (16-1)<;>simp[e2]
 rw[e]
 cases w.msb<;>rfl
theorem J8(n:Nat) (c:W):x8 (n+1) c=DL (x8 n c):=Cm n 1 c
def dW(k:Nat):List AV:=(List.range k).map (fun i=>U (DM i))++List.replicate (16-k) (.int .u16 0)
theorem Cn{k:Nat} (h:k<=16):(dW k).length=16:=by simp[dW];omega
theorem Co{k:Nat} (h:k<16):setCells (dW k) k [U (DM k)]=dW (k+1):=by
 have e:List.replicate (16-k) (AV.int .u16 0)=.int .u16 0::List.replicate (16-(k+1)) (.int .u16 0):=by rw[show 16-k=(16-(k+1))+1 by omega];rfl
 unfold dW setCells;rw[e]
 have hl:((List.range k).map fun i=>U (DM i)).length=k:=by simp
 rw[List.take_left' hl];rw[List.range_succ,List.map_append];simp[List.drop_append,hl]
theorem J9(c:W):(c.toNat:Int).fdiv 32768=if c.msb then 1 else 0:=by
 have h:=c.isLt
 rw[Int.fdiv_eq_ediv_of_nonneg _ (by decide),BitVec.msb_eq_decide]
 by_cases h2:2^(16-1)<=c.toNat
 ·simp only[h2,decide_true,if_true];simp at h2;omega
 ·simp only[h2,decide_false,Bool.false_eq_true,if_false];simp at h2;omega
theorem Xi{y:Int} (h0:0<=y) (h:y<256):nZ .u8 y 1=y%2:=by
 obtain⟨n,rfl⟩:∃n:Nat,y=n:=⟨y.toNat,by omega⟩
 show IntKind.u8.wrap ((BitVec.ofInt 8 (n:Int)&&&BitVec.ofInt 8 1).toNat:Int)=_
 have e:(BitVec.ofInt 8 (n:Int)&&&BitVec.ofInt 8 1).toNat=n%2:=by
  rw[BitVec.toNat_and,BitVec.toNat_ofInt]
  have e1:(BitVec.ofInt 8 1).toNat=1:=rfl
  rw[e1,Nat.and_one_is_mod];omega
 rw[e,Ca];omega
theorem Rt(c:W) {x:Int} (h0:0<=x) (h:x<256) (k:Nat) (hk:k<8):((c.toNat:Int).fdiv (2^min 15 IntKind.u16.bits) !=IntKind.u16.wrap (nZ .u8 (x.fdiv (2^min k IntKind.u8.bits)) 1))=(c.msb !=x.toNat.testBit k):=by
 obtain⟨n,rfl⟩:∃n:Nat,x=n:=⟨x.toNat,by omega⟩
 have e0:min k IntKind.u8.bits=k:=by show min k 8=k;omega
 have e1:(2:Int)^min 15 IntKind.u16.bits=32768:=rfl
 have e2:(n:Int).fdiv (2^k)=((n/2^k:Nat):Int):=by
  rw[Int.fdiv_eq_ediv_of_nonneg _ (Int.le_of_lt (Int.pow_pos (by decide)))];simp
 have e3:n/2^k<=n:=Nat.div_le_self _ _
 rw[e0,e1,J9,e2,Int.toNat_natCast,Nat.testBit_eq_decide_div_mod_eq];generalize n/2^k=q at*
 rw[Xi (by omega) (by omega)]
 have e4:q%2=0\/q%2=1:=by omega
 have e5:((q:Int)%2)=((q%2:Nat):Int):=by omega
 rw[e5]
 rcases e4 with e|e<;>rw[e]<;>cases c.msb<;>rfl
theorem Bf{c:W} {l:List Int} {i:Nat} {x:Int} (h:l[i]? =some x):jR c (l.take (i+1))=Hl (jR c (l.take i)) x.toNat:=by
 rw[List.take_add_one,h];simp[jR]
section
variable{P:Program} (hm:P.follows .mixedOrders=true) {f:Nat}
include hm
theorem jc.ok(hc:de P f=some xF):jc.Spec (Pure P) f:=by
 show(Pure P).c f _ _ none
 have z0:mI=dW 0:=rfl
 refine aB hm hc (by show 0<=26;decide) (ax (keep:=[]) (i:=0) ?_)
 try simp only[I,B,D,RY,↓KW,seval,xF,Z.H,z0]
 refine aH (fun k:Nat=>(⟨[(4,.dat (I k) none),(1,.ptr 5 0),(0,.ptr 4 0)],[(5,⟨dW k,[]⟩),(4,⟨dW 0,[]⟩)],[],400⟩:S)) (fun k=>16-k) (fun k=>k<=16) ?_ 0 (by omega) ?_
 ·intro k hk A back
  have hw:=aF (k:=k) (by omega)
  try simp only[I,B,D,RY,↓KW,seval]
  refine aq (fun h=>?_) (fun h=>?_)<;>try simp only[I,B,D,RY,↓KW,seval,h]
  ·have h3:k<16:=by have:=of_decide_eq_true h;omega
   have hl:=Cn hk
   have e1:IntKind.u16.wrap (k:Int)=k:=by rw[rN];omega
   have e2:IntKind.u16.wrap ((k:Int)*2^min 12 IntKind.u16.bits)=((x8 0 (BitVec.ofNat 16 (k*4096))).toNat:Int):=by
    show IntKind.u16.wrap ((k:Int)*4096)=((BitVec.ofNat 16 (k*4096):W).toNat:Int)
    rw[rN,VD _ (by omega)];omega
   try simp only[I,B,D,RY,↓KW,seval,e1,e2]
   refine aH (fun j:Nat=>(⟨[(10,.dat (I j) none),(3,.dat (U (x8 j (BitVec.ofNat 16 (k*4096)))) none),(2,.dat (I k) none),(4,.dat (I k) none),(1,.ptr 5 0),(0,.ptr 4 0)],[(5,⟨dW k,[]⟩),(4,⟨dW 0,[]⟩)],[],400⟩:S)) (fun j=>4-j) (fun j=>j<=4) ?_ 0 (by omega) ?_
   ·intro j hj A2 back2
    have hw2:=aF (k:=j) (by omega)
    try simp only[I,B,D,RY,↓KW,seval,U]
    refine aq (fun h2=>?_) (fun h2=>?_)<;>try simp only[I,B,D,RY,↓KW,seval,h2]
    ·have h4:j<4:=by have:=of_decide_eq_true h2;omega
     have hn:=J8 j (BitVec.ofNat 16 (k*4096))
     generalize x8 j (BitVec.ofNat 16 (k*4096))=w at*
     have f1:nZ .u16 (w.toNat:Int) 32768=((w&&&0x8000#16).toNat:Int):=VC w 0x8000#16
     have f2:=Rs w
     have f3:IntKind.u16.wrap ((w.toNat:Int)*2^min 1 IntKind.u16.bits)=((w<<<1).toNat:Int):=F4 w 1
     have f4:BU .u16 ((w<<<1).toNat:Int) 4129=((w<<<1^^^qe).toNat:Int):=F3 (w<<<1) qe
     try simp only[I,B,D,RY,↓KW,seval,f1,f2,U]
     refine aq (fun h5=>?_) (fun h5=>?_)<;>try simp only[I,B,D,RY,↓KW,seval,h5]
     ·have f5:DL w=w<<<1^^^qe:=by unfold DL;rw[h5];rfl
      try simp only[I,B,D,RY,↓KW,seval,f3,f4]
      refine back2 (j+1) _ (by omega) (by omega) (ah (by decide) ?_ ?_ ?_ ?_)<;>simp[LX,I,B,D,hw2,hn,f5,U]
     ·have f5:DL w=w<<<1:=by unfold DL;rw[h5];rfl
      try simp only[I,B,D,RY,↓KW,seval,f3,f4]
      refine back2 (j+1) _ (by omega) (by omega) (ah (by decide) ?_ ?_ ?_ ?_)<;>simp[LX,I,B,D,hw2,hn,f5,U]
    ·have h4:j=4:=by have:=of_decide_eq_false h2;omega
     subst h4
     have hs:setCells (dW k) k [AV.int .u16 ((x8 4 (BitVec.ofNat 16 (k*4096))).toNat:Int)]=dW (k+1):=Co h3
     try simp only[I,B,D,RY,↓KW,seval,hl]
     repeat(refine And.intro (by omega) ?_)
     try simp only[I,B,D,RY,↓KW,seval,hl,hs]
     refine back (k+1) _ (by omega) (by omega) (ah (by decide) ?_ ?_ ?_ ?_)<;>simp[LX,I,B,D,hw,hs]
   ·refine ah (by decide) ?_ ?_ ?_ ?_<;>simp[LX,I,B,D,U]
  ·have h3:k=16:=by have:=of_decide_eq_false h;omega
   subst h3
   have w1:bF (dW 16) 0 (some 16)=some (.agg (dW 16)):=rfl
   have w2:(dW 16).length=16:=rfl
   have w3:setCells (dW 0) 0 (dW 16)=dW 16:=dP rfl
   have w4:(dW 0).length=16:=rfl
   show _
   try simp only[I,B,D,RY,↓KW,seval,w1,w2,w3,w4]
   rfl
 ·refine ah (by decide) ?_ ?_ ?_ ?_<;>simp[LX,I,B,D]
theorem Hq.ok(hc:de P f=some vF):Hq.Spec (Pure P) f:=by
 intro c b hb hB
 obtain⟨l,hl⟩:∃l,l=b.getD []:=⟨_,rfl⟩
 rw[<-hl]at hb hB⊢
 refine aB hm hc (by show 2<=36;decide) (ax (keep:=[]) (i:=0) ?_)
 try simp only[I,B,D,RX,↓KW,seval,vF,Z.H,U]
 refine aH (fun i:Nat=>(⟨[(5,.dat (I i) none),(0,.dat (U (jR c (l.take i))) none),(1,.dat (aD dD b) none)],[],[],400⟩:S)) (fun i=>l.length-i) (fun i=>i<=l.length) ?_ 0 (by omega) ?_
 ·intro i hi A back
  have hw:=aF (k:=i) (by omega)
  try simp only[I,B,D,RX,↓KW,seval,<-hl,U]
  refine aq (fun h=>?_) (fun h=>?_)<;>try simp only[I,B,D,RX,↓KW,seval,h]
  ·have h3:i<l.length:=by have:=of_decide_eq_true h;omega
   obtain⟨x,hx⟩:∃x,l[i]? =some x:=⟨l[i],by simp[h3]⟩
   have hxb:=hB x (List.mem_of_getElem? hx)
   have hn:=Bf (c:=c) hx
   have hi1:(0:Int)<=(i:Int):=by omega
   have hi2:(i:Int)<(l.length:Int):=by omega
   try simp only[I,B,D,RX,↓KW,seval]
   refine aH (fun y:Nat×W=>(⟨[(6,.dat (I ((y.1:Int)-1)) none),(0,.dat (U y.2) none),(5,.dat (I i) none),(1,.dat (aD dD b) none)],[],[],400⟩:S)) (fun y=>y.1) (fun y=>y.1<=8/\DN y.1 y.2 x.toNat=jR c (l.take (i+1))) ?_ (8,jR c (l.take i)) ⟨by omega,by rw[Ny _ _ (by omega),hn]⟩ ?_
   ·intro y hy A2 back2
    obtain⟨n,w⟩:=y;obtain⟨hn8,hv⟩:=hy;simp only at hn8 hv;try simp only[I,B,D,RX,↓KW,seval,U]
    refine aq (fun h2=>?_) (fun h2=>?_)<;>try simp only[I,B,D,RX,↓KW,seval,h2]
    ·obtain⟨m,rfl⟩:∃m,n=m+1:=⟨n-1,by have:=of_decide_eq_true h2;omega⟩
     have e1:((m+1:Nat):Int)-1=(m:Int):=by omega
     have e2:IntKind.u64.wrap (m:Int)=(m:Int):=vv (by omega) (by omega)
     have e3:IntKind.i64.wrap ((m:Int)-1)=(m:Int)-1:=eO (by omega) (by omega)
     have hbit:=Rt w hxb.1 hxb.2 m (by omega)
     have f3:IntKind.u16.wrap ((w.toNat:Int)*2^min 1 IntKind.u16.bits)=((w<<<1).toNat:Int):=F4 w 1
     have f4:BU .u16 ((w<<<1).toNat:Int) 4129=((w<<<1^^^qe).toNat:Int):=F3 (w<<<1) qe
     have hrn:DN (m+1) w x.toNat=DN m (rM w (x.toNat.testBit m)) x.toNat:=rfl
     rw[hrn]at hv;try simp only[I,B,D,RX,↓KW,seval,e1,e2,<-hl,hi1,hi2,hx,dD]
     repeat(refine And.intro (by omega) ?_)
     try simp only[I,B,D,RX,↓KW,seval,e1,e2,<-hl,hx,dD,hbit,f3,Int.toNat_natCast]
     repeat(refine And.intro (by omega) ?_)
     try simp only[I,B,D,RX,↓KW,seval,hbit,f3]
     refine aq (fun h5=>?_) (fun h5=>?_)<;>try simp only[I,B,D,RX,↓KW,seval,h5]
     ·have f5:rM w (x.toNat.testBit m)=w<<<1^^^qe:=by unfold rM;rw[h5];rfl
      rw[f5]at hv;try simp only[I,B,D,RX,↓KW,seval,f3,f4]
      generalize w<<<1^^^qe=w2 at*
      refine back2 (m,w2) _ ⟨by show m<=8;omega,hv⟩ (by show m<m+1;omega) ?_
      refine ah (by decide) ?_ ?_ ?_ ?_<;>simp[LX,I,B,D,e3,U]
     ·have f5:rM w (x.toNat.testBit m)=w<<<1:=by unfold rM;rw[h5];rfl
      rw[f5]at hv;try simp only[I,B,D,RX,↓KW,seval,f3]
      generalize w<<<1=w2 at*
      refine back2 (m,w2) _ ⟨by show m<=8;omega,hv⟩ (by show m<m+1;omega) ?_
      refine ah (by decide) ?_ ?_ ?_ ?_<;>simp[LX,I,B,D,e3,U]
    ·have:n=0:=by have:=of_decide_eq_false h2;omega
     subst this
     have hv:w=jR c (l.take (i+1)):=hv
     try simp only[I,B,D,RX,↓KW,seval]
     refine back (i+1) _ (by omega) (by omega) (ah (by decide) ?_ ?_ ?_ ?_)<;>simp[LX,I,B,D,hw,<-hv,U]
   ·refine ah (by decide) ?_ ?_ ?_ ?_<;>simp[LX,I,B,D,U]
  ·have h3:i=l.length:=by have:=of_decide_eq_false h;omega
   subst h3;try simp only[I,B,D,RX,↓KW,seval,List.take_length]
 ·refine ah (by decide) ?_ ?_ ?_ ?_<;>simp[LX,I,B,D,U,jR]
theorem wO.ok{fR:Nat} (hc:de P f=some (zT fR)) (hR:jc.Spec (Pure P) fR):wO.Spec (Pure P) f:=by
 intro c b hb hB
 obtain⟨l,hl⟩:∃l,l=b.getD []:=⟨_,rfl⟩
 rw[<-hl]at hb hB⊢
 have z0:mI.length=16:=rfl
 have z1:Go.Eng.jc.length=16:=rfl
 have z2:setCells mI 0 Go.Eng.jc=Go.Eng.jc:=dP rfl
 have eM:∀w:W,Go.Eng.jc[(w>>>12).toNat]? =some (U (DM (w>>>12).toNat)):=by
  intro w
  have:(w>>>12).toNat<16:=by rw[BitVec.toNat_ushiftRight,Nat.shiftRight_eq_div_pow];have:=w.isLt;omega
  rw[Go.Eng.jc,List.getElem?_map,List.getElem?_range this];rfl
 have shr:∀w:W,(w.toNat:Int).fdiv (2^min 12 IntKind.u16.bits)=((w>>>12).toNat:Int):=by
  intro w
  show(w.toNat:Int).fdiv 4096=_
  rw[Int.fdiv_eq_ediv_of_nonneg _ (by decide),BitVec.toNat_ushiftRight,Nat.shiftRight_eq_div_pow];rfl
 have lt16:∀w:W,((w>>>12).toNat:Int)<16:=by
  intro w
  rw[BitVec.toNat_ushiftRight,Nat.shiftRight_eq_div_pow];have:=w.isLt;omega
 have ge0:∀w:W,(0:Int)<=((w>>>12).toNat:Int):=fun w=>by omega
 have s4:∀w:W,IntKind.u16.wrap ((w.toNat:Int)*2^min 4 IntKind.u16.bits)=((w<<<4).toNat:Int):=fun w=>F4 w 4
 refine aB hm hc (by show 2<=36;decide) (ax (keep:=[]) (i:=0) ?_)
 try simp only[I,B,D,RY,↓KW,seval,zT,Z.H,U,z0]
 refine ai hR ?_;try simp only[I,B,D,RY,↓KW,seval,z0,z1,z2,<-hl,U]
 refine aH (fun i:Nat=>(⟨[(11,.dat (I i) none),(10,.dat (I l.length) none),(9,.dat (aD dD b) none),(5,.ptr 6 0),(0,.dat (U (jR c (l.take i))) none)],[(6,⟨Go.Eng.jc,[]⟩)],[],400⟩:S)) (fun i=>l.length-i) (fun i=>i<=l.length) ?_ 0 (by omega) ?_
 ·intro i hi A back
  have hw:=aF (k:=i) (by omega)
  try simp only[I,B,D,RY,↓KW,seval,<-hl,U]
  refine aq (fun h=>?_) (fun h=>?_)<;>try simp only[I,B,D,RY,↓KW,seval,h]
  ·have h3:i<l.length:=by have:=of_decide_eq_true h;omega
   obtain⟨x,hx⟩:∃x,l[i]? =some x:=⟨l[i],by simp[h3]⟩
   have hxb:=hB x (List.mem_of_getElem? hx)
   have hn:=Bf (c:=c) hx
   rw[Ho]at hn;generalize jR c (l.take i)=w at*
   have e1:IntKind.u16.wrap x=x:=by rw[rN];omega
   have e2:IntKind.u16.wrap (x*2^min 8 IntKind.u16.bits)=((BitVec.ofNat 16 x.toNat<<<8:W).toNat:Int):=by
    have:=F4 (BitVec.ofNat 16 x.toNat) 8
    rw[VD _ (by omega),show((x.toNat:Nat):Int)=x by omega]at this
    exact this
   refine⟨⟨by omega,by first|omega|(rw[<-hl];omega)⟩,?_⟩
   try simp only[I,B,D,RY,↓KW,seval,<-hl,hx,dD,e1,e2,F3]
   generalize w^^^BitVec.ofNat 16 x.toNat<<<8=d at*;try simp only[I,B,D,RY,↓KW,seval,s4,shr,lt16,ge0,z1,Int.toNat_natCast,eM,U,F3]
   simp only at hn
   refine back (i+1) _ (by omega) (by omega) (ah (by decide) ?_ ?_ ?_ ?_)<;>simp[LX,I,B,D,hw,hn,U]
  ·have h3:i=l.length:=by have:=of_decide_eq_false h;omega
   subst h3;try simp only[I,B,D,RY,↓KW,seval,List.take_length]
 ·refine ah (by decide) ?_ ?_ ?_ ?_<;>simp[LX,I,B,D,U,jR]
theorem Be.ok{fA:Nat} (hc:de P f=some (Bd fA)) (hA:wO.Spec (Pure P) fA):Be.Spec (Pure P) f:=by
 intro b hb hB
 refine aB hm hc (by show 1<=5;decide) (ax (keep:=[]) (i:=0) ?_)
 try simp only[I,B,D,RX,↓KW,seval,Bd,Z.H]
 refine ai (hA 0xffff#16 b hb hB) ?_;try simp only[I,B,D,RX,↓KW,seval]
end
def oY:Cd Int:=oX 2 65535 (by decide) (by decide)
def kC(l:List Int):Tb×Int×Int:=
 if l.length>2048 then(cV,1,0)else
 if l.length<3 then(cV,2,l.length)else
 if l.take 3≠[88,66,1]then(cV,3,0)else
 let p:=ot.m ⟨some l,3,0,0⟩
 let q:=oY.m p.2
 if q.2.code≠0 then(cV,q.2.code,q.2.EN)else
 if q.1≠((jR 0xffff#16 (l.take p.2.eM.toNat)).toNat:Int)then(cV,5,p.2.eM)else
 if q.2.eM<l.length then(cV,6,q.2.eM)else(p.1,0,0)
def lM(x:Tb×Int×Int):AV:=.qf [.agg x.1.cells,.agg [I x.2.1,I x.2.2]]
def sL.Spec(C:bw) (f:Nat):Prop:=∀b:Option (List Int),(b.getD []).length<=1000000->qd (b.getD [])->C.c f [aD dD b] (lM (kC (b.getD []))) none
theorem Ka(r:bk):(ot.m r).1.Ln:=⟨vG sY 8 _,vG jO 8 _,vG (cF 2 (by decide)) 8 _⟩
section
variable{P:Program} (hm:P.follows .mixedOrders=true) {f:Nat}
include hm
theorem sL.ok{fP fN fO fC:Nat} (hc:de P f=some (gW fP fN fO fC)) (hP:zU.Spec (Pure P) fP) (hN:wC.Spec (Pure P) fN) (hO:Oa.Spec (Pure P) fO) (hC:Hq.Spec (Pure P) fC):sL.Spec (Pure P) f:=by
 intro b hb hB
 obtain⟨l,hl⟩:∃l,l=b.getD []:=⟨_,rfl⟩
 rw[<-hl]at hb hB⊢
 have z3:bG=cV.cells:=rfl
 have z0:cV.cells.length=131:=rfl
 have z1:bF cV.cells 0 (some 131)=some (.agg cV.cells):=rfl
 have z2:setCells cV.cells 0 cV.cells=cV.cells:=dP rfl
 have z4:∀x y:AV,setCells [.int .i64 0,.int .i64 0] 0 [x,y]=[x,y]:=fun _ _=>rfl
 by_cases h1:l.length>2048
 ·have e:kC l=(cV,1,0):=by unfold kC;rw[if_pos h1]
  rw[e]
  refine aB hm hc (by show 1<=82;decide) (ax (keep:=[]) (i:=0) ?_)
  try simp only[I,B,D,RY,↓KW,seval,gW,Z.H,<-hl,z3,z0,z1,z2]
  refine aq (fun h=>?_) (fun h=>?_)<;>try simp only[I,B,D,RY,↓KW,seval,h]
  ·try simp only[I,B,D,RY,↓KW,seval,z0,z1,z2,z4,lM]
  ·exfalso;have:=of_decide_eq_false h;omega
 have s1:decide (2048<(l.length:Int))=false:=by simp;omega
 by_cases h2:l.length<3
 ·have e:kC l=(cV,2,(l.length:Int)):=by unfold kC;rw[if_neg h1,if_pos h2]
  rw[e]
  refine aB hm hc (by show 1<=82;decide) (ax (keep:=[]) (i:=0) ?_)
  try simp only[I,B,D,RY,↓KW,seval,gW,Z.H,<-hl,z3,z0,z1,z2,s1]
  refine aq (fun h=>?_) (fun h=>?_)<;>try simp only[I,B,D,RY,↓KW,seval,h]
  ·try simp only[I,B,D,RY,↓KW,seval,z0,z1,z2,z4,lM,<-hl]
  ·exfalso;have:=of_decide_eq_false h;omega
 have s2:decide ((l.length:Int)<3)=false:=by simp;omega
 obtain⟨x0,x1,x2,L,hL⟩:∃x0 x1 x2 L,l=x0::x1::x2::L:=by
  match l,h2 with
  |[],h=>exact absurd (by simp) h
  |[_],h=>exact absurd (by simp) h
  |[_,_],h=>exact absurd (by simp) h
  |x0::x1::x2::L,_=>exact⟨x0,x1,x2,L,rfl⟩
 have g0:l[0]? =some x0:=by rw[hL];rfl
 have g1:l[1]? =some x1:=by rw[hL];rfl
 have g2:l[2]? =some x2:=by rw[hL];rfl
 have hl3:3<=l.length:=by omega
 have b0:(0:Int)<(l.length:Int):=by omega
 have b1:(1:Int)<(l.length:Int):=by omega
 have b2:(2:Int)<(l.length:Int):=by omega
 by_cases h3:l.take 3≠[88,66,1]
 ·have e:kC l=(cV,3,0):=by unfold kC;rw[if_neg h1,if_neg h2,if_pos h3]
  rw[e]
  refine aB hm hc (by show 1<=82;decide) (ax (keep:=[]) (i:=0) ?_)
  try simp only[I,B,D,RY,↓KW,seval,gW,Z.H,<-hl,z3,z0,z1,z2,s1,s2,g0,dD,b0]
  refine bJ (fun a0=>?_) (fun a0=>?_)<;>try simp only[I,B,D,RY,↓KW,seval,a0]
  ·try simp only[I,B,D,RY,↓KW,seval,<-hl,a0,g1,b1,dD]
   try simp only[I,B,D,RY,↓KW,seval,z0,z1,z2,z4,lM]
  ·try simp only[I,B,D,RY,↓KW,seval,<-hl,a0,g1,b1,dD]
   refine bJ (fun a1=>?_) (fun a1=>?_)<;>try simp only[I,B,D,RY,↓KW,seval,a1]
   ·try simp only[I,B,D,RY,↓KW,seval,<-hl,a1,g2,b2,dD]
    try simp only[I,B,D,RY,↓KW,seval,z0,z1,z2,z4,lM]
   ·try simp only[I,B,D,RY,↓KW,seval,<-hl,a1,g2,b2,dD]
    refine aq (fun a2=>?_) (fun a2=>?_)<;>try simp only[I,B,D,RY,↓KW,seval,a2]
    ·try simp only[I,B,D,RY,↓KW,seval,z0,z1,z2,z4,lM]
    ·exfalso
     simp only[bne_eq_false_iff_eq]at a0 a1 a2
     exact h3 (by rw[hL,a0,a1,a2];rfl)
 ·have h3':l.take 3=[88,66,1]:=Classical.not_not.1 h3
  have e0:x0=88/\x1=66/\x2=1:=by rw[hL]at h3';simpa using h3'
  obtain⟨rfl,rfl,rfl⟩:=e0
  have hbl:b=some l:=by
   cases b with
   |none=>exfalso;rw[hl]at hl3;simp at hl3
   |some y=>rw[show l=y from hl]
  have hok:(bk.mk (some l) 3 0 0).Ok:=⟨by show(0:Int)<=3;omega,by show(3:Int)<=(l.length:Int);omega,by show(l.length:Int)<=1000000;omega⟩
  obtain⟨t,r1,e1,k1,c1⟩:=nA.step hP hok
  have hln:t.Ln:=by have:=Ka ⟨some l,3,0,0⟩;rw[e1]at this;exact this
  have hr1:r1.b=some l:=by have:=ot.keep ⟨some l,3,0,0⟩;rw[e1]at this;exact this
  obtain⟨s,r2,e2,k2,_,c2⟩:=oh hN k1 2 65535 (by decide) (by decide) (by decide)
  have hr2:r2.b=some l:=by have:=oY.keep r1;rw[show oY.m r1=(s,r2)from e2]at this;rw[<-hr1];exact this
  have e2':oY.m r1=(s,r2):=e2
  have hlen:=hln.len
  have hwh:=hln.whole
  have o2:=hO r2
  have y1:setCells cV.cells 0 t.cells=t.cells:=dP (by rw[hlen];rfl)
  have y2:setCells t.cells 0 t.cells=t.cells:=dP rfl
  have y3:∀x y:AV,bF [x,y] 0 (some 2)=some (.agg [x,y]):=fun _ _=>rfl
  have hat:0<=r1.eM/\r1.eM<=(l.length:Int):=⟨k1.1,by have:=k1.2.1;rw[bk.len,hr1]at this;exact this⟩
  have hd:kC l=if r2.code≠0 then(cV,r2.code,r2.EN)else if s≠((jR 0xffff#16 (l.take r1.eM.toNat)).toNat:Int)then(cV,5,r1.eM)else if r2.eM<l.length then(cV,6,r2.eM)else(t,0,0):=by
   unfold kC;rw[if_neg h1,if_neg h2,if_neg h3];simp only[e1,e2']
  refine aB hm hc (by show 1<=82;decide) (ax (keep:=[]) (i:=0) ?_)
  try simp only[I,B,D,RY,↓KW,seval,gW,Z.H,<-hl,z3,z0,z1,z2,s1,s2,g0,dD,b0,bne_self_eq_false]
  try simp only[I,B,D,RY,↓KW,seval,<-hl,g1,dD,b1,bne_self_eq_false]
  try simp only[I,B,D,RY,↓KW,seval,<-hl,g2,dD,b2,bne_self_eq_false]
  try simp only[I,B,D,RY,↓KW,seval,aO,cm]
  rw[hbl];refine⟨rfl,ay c1 ?_⟩;try simp only[I,B,D,RY,↓KW,seval,bk.cells,hlen,y1,z0]
  refine⟨rfl,ay c2 ?_⟩;try simp only[I,B,D,RY,↓KW,seval,bk.cells,hlen,y1,z0]
  refine⟨rfl,ay o2 ?_⟩
  by_cases q1:r2.code=0
  ·have q1':(r2.code==0)=true:=by simp[q1]
   rw[hd,if_neg (by simp[q1])]
   try simp only[I,B,D,RY,↓KW,seval,q1']
   have cC:=hC 0xffff#16 (some (l.take r1.eM.toNat)) (by simp;omega) (fun x hx=>hB x (List.mem_of_mem_take hx))
   rw[Option.getD_some]at cC
   have hcut:Bz (aD dD (some l)) (List.map dD l) 0 r1.eM=aD dD (some (l.take r1.eM.toNat)):=by simp[Bz,aD,List.map_take]
   obtain⟨w,hw⟩:∃w,w=jR 0xffff#16 (l.take r1.eM.toNat):=⟨_,rfl⟩
   rw[<-hw]at cC⊢
   have hwr:IntKind.i64.wrap (w.toNat:Int)=w.toNat:=eO (by omega) (by have:=w.isLt;omega)
   rw[Option.getD_some]
   refine⟨hat,fun _ _=>rfl,?_⟩
   rw[hcut];refine ai cC ?_;try simp only[I,B,D,RY,↓KW,seval,U,hwr]
   by_cases q2:s=(w.toNat:Int)
   ·have q2':(s !=(w.toNat:Int))=false:=by simp[q2]
    rw[if_neg (by simp[q2])]
    try simp only[I,B,D,RY,↓KW,seval,q2',bk.cells]
    by_cases q3:r2.eM<l.length
    ·have q3':decide (r2.eM<(l.length:Int))=true:=by simpa using q3
     rw[if_pos q3];try simp only[I,B,D,RY,↓KW,seval,bk.cells,q3',Option.getD_some]
     refine uW rfl ?_;try simp only[I,B,D,RY,↓KW,seval,bk.cells,z0,z1,z2,z4,y3,lM]
    ·have q3':decide (r2.eM<(l.length:Int))=false:=by simpa using q3
     rw[if_neg q3];try simp only[I,B,D,RY,↓KW,seval,bk.cells,q3',Option.getD_some]
     try simp only[I,B,D,RY,↓KW,seval,hwh,hlen,y1,y2,z0,z1,z2,z4,y3,lM]
   ·have q2':(s !=(w.toNat:Int))=true:=by simp[q2]
    rw[if_pos q2];try simp only[I,B,D,RY,↓KW,seval,q2']
    try simp only[I,B,D,RY,↓KW,seval,bk.cells,z0,z1,z2,z4,y3,lM]
  ·have q1':(r2.code==0)=false:=by simp[q1]
   rw[hd,if_pos q1];try simp only[I,B,D,RY,↓KW,seval,q1']
   refine uW rfl ?_;try simp only[I,B,D,RY,↓KW,seval,bk.cells,z0,z1,z2,z4,y3,lM]
end
def ie{α:Type} (e:Nat) (res:List gb) (enc:α->AV) (x:α×bk):Exit->S->Prop
 | .panic c,s=>x.2.code≠0/\c=d8 (up e x.2)/\∃cs,gi s.boxes 0 [cs]
 |ex,s=>x.2.code=0/\BO res (enc x.1) none [x.2.cells] ex s
def qk{α:Type} (c:Cd α) (enc:α->AV) (args:List (Option AV)) (C:bw) (e f:Nat):Prop:=∀r:bk,r.Ok->r.code=0->
 ((c.m r).2.code=0->C.p f [r.cells] (some .hole::args) (enc (c.m r).1) none [(c.m r).2.cells])/\((c.m r).2.code≠0->∃cs,C.q f [r.cells] (some .hole::args) (up e (c.m r).2) [cs])
theorem qk.step{α:Type} {c:Cd α} {enc:α->AV} {args:List (Option AV)} {C:bw} {e f:Nat} (h:qk c enc args C e f) {r r':bk} {v:α} (hr:r.Ok) (z:r.code=0) (e1:c.m r=(v,r')):
  (r'.code=0->C.p f [r.cells] (some .hole::args) (enc v) none [r'.cells])/\(r'.code≠0->∃cs,C.q f [r.cells] (some .hole::args) (up e r') [cs]):=by
 have:=h r hr z
 rw[e1]at this;exact this
section
variable{α β:Type} {e:Nat} {res:List gb} {Q:Exit->S->Prop}
theorem aZ{a:Cd α} {b:α->Cd β} {enc:α×β->AV} {r:bk} (hQ:Q=ie e res enc ((a.seq b).m r)) (hr:r.Ok):
  ∃v r',a.m r=(v,r')/\r'.Ok/\(r'.code≠0->∀s cs,gi s.boxes 0 [cs]->Q (.panic (d8 (up e r'))) s)/\Q=ie e res (fun y=>enc (v,y)) ((b v).m r'):=by
 refine⟨(a.m r).1,(a.m r).2,rfl,a.ok r hr,fun h s cs hh=>?_,?_⟩
 ·have hs:((b (a.m r).1).m (a.m r).2).2=(a.m r).2:=(b (a.m r).1).stay _ h
  rw[hQ];refine⟨?_,?_,cs,hh⟩
  ·show((b (a.m r).1).m (a.m r).2).2.code≠0;rw[hs];exact h
  ·show _=d8 (up e ((b (a.m r).1).m (a.m r).2).2);rw[hs]
 ·rw[hQ];funext ex s;cases ex<;>rfl
theorem jX{a:Cd α} {enc:α->AV} {r:bk} (hQ:Q=ie e res enc (a.m r)) (hr:r.Ok):
  ∃v r',a.m r=(v,r')/\r'.Ok/\(r'.code≠0->∀s cs,gi s.boxes 0 [cs]->Q (.panic (d8 (up e r'))) s)/\Q=ie e res enc (v,r'):=by
 refine⟨(a.m r).1,(a.m r).2,rfl,a.ok r hr,fun h s cs hh=>?_,hQ⟩
 rw[hQ];exact⟨h,rfl,cs,hh⟩
theorem iX{enc:α->AV} {x:α×bk} (hQ:Q=ie e res enc x) (h:x.2.code=0) {s:S} (hs:BO res (enc x.1) none [x.2.cells] .ret s):Q .ret s:=by rw[hQ];exact⟨h,hs⟩
end
theorem om{P:Program} (hm:P.follows .mixedOrders=true) {f:FuncId} {cf:dc} {mo:Bool} (hcf:ji mo P f=some cf) {α:Type} {c:Cd α} {enc:α->AV} {args:List (Option AV)} {e:Nat} (hn:args.length+1<=cf.nt)
  (h:∀r:bk,r.Ok->r.code=0->∀Q,Q=ie e cf.res enc (c.m r)->aw (Pure P) cf.code Q (oC [r.cells] (some .hole::args))):qk c enc args (Pure P) e f:=by
 intro r hr hz
 obtain⟨ex,s',h1,h2⟩:=Oc (h r hr hz _ rfl)
 refine⟨fun h0=>?_,fun h0=>?_⟩
 ·refine bO hm hcf (by simpa using hn) rfl (by simp) (h2 _ ?_)
  cases ex<;>first|exact h1.2|exact absurd h0 h1.1
 ·cases ex
  case panic p=>
   obtain⟨_,rfl,cs,hh⟩:=h1
   exact⟨cs,rq hm hcf (by simpa using hn) rfl (by simp) (h2 _ ⟨rfl,hh⟩)⟩
  all_goals exact absurd h1.1 h0
def ux.Spec(C:bw) (e f:Nat):Prop:=∀r:bk,(r.code=0->C.p f [r.cells] [some .hole] (.qf []) none [r.cells])/\(r.code≠0->C.q f [r.cells] [some .hole] (up e r) [r.cells])
def xQ.Spec(C:bw) (e f:Nat):Prop:=∀(k:Nat) (hi:Int) (hk:k<=7) (hh:hi<256^k),qk (oX k hi hk hh) I [some (I k),some (I 0),some (I hi)] C e f
def xG.Spec(C:bw) (e f:Nat):Prop:=qk aV I [] C e f
def Hr.Spec(C:bw) (e f:Nat):Prop:=qk jO I [] C e f
def Kb.Spec(C:bw) (e f:Nat):Prop:=qk Cl B [] C e f
section
variable{P:Program} (hm:P.follows .mixedOrders=true) {f:Nat}
include hm
theorem ux.ok{fF e:Nat} (hc:ji true P f=some (hJ fF e)) (hF:zy.Spec (Pure P) fF):ux.Spec (Pure P) e f:=by
 intro r
 refine⟨fun h=>?_,fun h=>?_⟩
 ·have h2:(r.code !=0)=false:=by simp[h]
  refine bO hm hc (by show 1<=11;decide) rfl (by simp) (ax (keep:=[]) (i:=0) ?_)
  try simp only[I,B,D,RX,aK,aL,aN,↓KW,↓aM,seval,hJ,Z.H,bz,bk.cells]
  refine⟨rfl,aC (hF r) ?_⟩;try simp only[I,B,D,RX,aK,aL,aN,↓KW,↓aM,seval,bz,bk.fault,h2]
  rfl
 ·have h2:(r.code !=0)=true:=by simp[h]
  refine rq hm hc (by show 1<=11;decide) rfl (by simp) (ax (keep:=[]) (i:=0) ?_)
  try simp only[I,B,D,RX,aK,aL,aN,↓KW,↓aM,seval,hJ,Z.H,bz,bk.cells]
  refine⟨rfl,aC (hF r) ?_⟩;try simp only[I,B,D,RX,aK,aL,aN,↓KW,↓aM,seval,bz,bk.fault,h2]
  exact⟨rfl,rfl,trivial⟩
theorem xQ.ok{fN fR e:Nat} (hc:ji true P f=some (jk fN fR)) (hN:G8.Spec (Pure P) fN) (hR:ux.Spec (Pure P) e fR):xQ.Spec (Pure P) e f:=by
 intro k hi hk hh
 refine om hm hc (by show 4<=19;decide) fun r hr hz Q hQ=>ax (keep:=[]) (i:=0) ?_
 obtain⟨v,r',e1,k1,u1,hQ⟩:=jX hQ hr
 have c1:(Pure P).p fN [r.cells] [none,some (I k),some (I 0),some (I hi)] (I v) none [r'.cells]:=by have:=hN r k 0 hi hr;rw[show gI r k 0 hi=(v,r')from e1]at this;exact this
 try simp only[I,B,D,RX,aK,aL,aN,↓KW,↓aM,seval,jk,Z.H,bz]
 refine⟨rfl,aC c1 ?_⟩;try simp only[I,B,D,RX,aK,aL,aN,↓KW,↓aM,seval,bz]
 by_cases z:r'.code=0
 ·refine⟨rfl,aC ((hR r').1 z) ?_⟩
  try simp only[I,B,D,RX,aK,aL,aN,↓KW,↓aM,seval,bz]
  refine iX hQ z ?_;try simp only[I,B,D,RX,aK,aL,aN,↓KW,↓aM,seval,jk]
 ·refine⟨rfl,aI ((hR r').2 z) ?_⟩
  try simp only[I,B,D,RX,aK,aL,aN,↓KW,↓aM,seval,bz]
  exact u1 z _ _ ⟨rfl,trivial⟩
theorem xG.ok{fN e:Nat} (hc:ji true P f=some (iR fN)) (hN:xQ.Spec (Pure P) e fN):xG.Spec (Pure P) e f:=by
 refine om hm hc (by show 1<=5;decide) fun r hr hz Q hQ=>ax (keep:=[]) (i:=0) ?_
 obtain⟨v,r',e1,k1,u1,hQ⟩:=jX hQ hr
 have hp:=(hN 2 9999 (by decide) (by decide)).step hr hz e1
 try simp only[I,B,D,RX,aK,aL,aN,↓KW,↓aM,seval,iR,Z.H,bz]
 by_cases z:r'.code=0
 ·refine⟨rfl,aC (hp.1 z) ?_⟩
  try simp only[I,B,D,RX,aK,aL,aN,↓KW,↓aM,seval,bz]
  refine iX hQ z ?_;try simp only[I,B,D,RX,aK,aL,aN,↓KW,↓aM,seval,iR]
 ·obtain⟨cs,hq⟩:=hp.2 z
  refine⟨rfl,aI hq ?_⟩;try simp only[I,B,D,RX,aK,aL,aN,↓KW,↓aM,seval,bz]
  exact u1 z _ _ ⟨rfl,trivial⟩
theorem Hr.ok{fN e:Nat} (hc:ji true P f=some (jl fN)) (hN:xQ.Spec (Pure P) e fN):Hr.Spec (Pure P) e f:=by
 refine om hm hc (by show 1<=5;decide) fun r hr hz Q hQ=>ax (keep:=[]) (i:=0) ?_
 obtain⟨v,r',e1,k1,u1,hQ⟩:=jX hQ hr
 have hp:=(hN 1 255 (by decide) (by decide)).step hr hz e1
 try simp only[I,B,D,RX,aK,aL,aN,↓KW,↓aM,seval,jl,Z.H,bz]
 by_cases z:r'.code=0
 ·refine⟨rfl,aC (hp.1 z) ?_⟩
  try simp only[I,B,D,RX,aK,aL,aN,↓KW,↓aM,seval,bz]
  refine iX hQ z ?_;try simp only[I,B,D,RX,aK,aL,aN,↓KW,↓aM,seval,jl]
 ·obtain⟨cs,hq⟩:=hp.2 z
  refine⟨rfl,aI hq ?_⟩;try simp only[I,B,D,RX,aK,aL,aN,↓KW,↓aM,seval,bz]
  exact u1 z _ _ ⟨rfl,trivial⟩
theorem Kb.ok{fB fR e:Nat} (hc:ji true P f=some (jn fB fR)) (hB:Dr.Spec (Pure P) fB) (hR:ux.Spec (Pure P) e fR):Kb.Spec (Pure P) e f:=by
 refine om hm hc (by show 1<=10;decide) fun r hr hz Q hQ=>ax (keep:=[]) (i:=0) ?_
 obtain⟨v,r',e1,k1,u1,hQ⟩:=jX hQ hr
 have c1:(Pure P).p fB [r.cells] [none] (B v) none [r'.cells]:=by have:=hB r hr;rw[show Jz r=(v,r')from e1]at this;exact this
 try simp only[I,B,D,RX,aK,aL,aN,↓KW,↓aM,seval,jn,Z.H,bz]
 refine⟨rfl,aC c1 ?_⟩;try simp only[I,B,D,RX,aK,aL,aN,↓KW,↓aM,seval,bz]
 by_cases z:r'.code=0
 ·refine⟨rfl,aC ((hR r').1 z) ?_⟩
  try simp only[I,B,D,RX,aK,aL,aN,↓KW,↓aM,seval,bz]
  refine iX hQ z ?_;try simp only[I,B,D,RX,aK,aL,aN,↓KW,↓aM,seval,jn]
 ·refine⟨rfl,aI ((hR r').2 z) ?_⟩
  try simp only[I,B,D,RX,aK,aL,aN,↓KW,↓aM,seval,bz]
  exact u1 z _ _ ⟨rfl,trivial⟩
end
theorem rO{α β:Type} {e:Nat} {res:List gb} {enc:β->AV} {a:Cd α} {f:α->β} {g:β->α} {h:∀x,a.v x->g (f x)=x} {r:bk}:ie e res enc ((a.map f g h).m r)=ie e res (fun x=>enc (f x)) (a.m r):=by
 funext ex s;cases ex<;>rfl
def vH:Nat:=4607182418800017408
def dF(i v:Nat):fy:=match i with
 |1=>⟨0,v,vH,0,0,0,0⟩
 |2=>⟨0,vH,v,0,0,0,0⟩
 |3=>⟨0,vH,vH,v,0,0,0⟩
 |_=>⟨0,vH,vH,0,v,0,0⟩
theorem Nz:lvl vH=true:=by decide+kernel
theorem F5:eJ 0=true:=by decide+kernel
def tF(d:fy):Tb:={cV with az:=some [d]}
theorem Kc(d:fy):oU (tF d)=gF d:=by
 have h:oU (tF d)=((((((((true&&(true&&true))&&true)&&(true&&(gF d&&true)))&&(true&&true))&&(true&&true))&&true)&&true)&&true):=rfl
 rw[h];simp
theorem Xj(v:Nat):gF (dF 1 v)=lvl v:=by
 have h:gF (dF 1 v)=(((((true&&lvl v)&&lvl vH)&&eJ 0)&&eJ 0)&&true):=rfl
 rw[h,Nz,F5];simp
theorem Xk(v:Nat):gF (dF 2 v)=lvl v:=by
 have h:gF (dF 2 v)=(((((true&&lvl vH)&&lvl v)&&eJ 0)&&eJ 0)&&true):=rfl
 rw[h,Nz,F5];simp
theorem Xl(v:Nat):gF (dF 3 v)=eJ v:=by
 have h:gF (dF 3 v)=(((((true&&lvl vH)&&lvl vH)&&eJ v)&&eJ 0)&&true):=rfl
 rw[h,Nz,F5];simp
theorem Xm(v:Nat):gF (dF 4 v)=eJ v:=by
 have h:gF (dF 4 v)=(((((true&&lvl vH)&&lvl vH)&&eJ 0)&&eJ v)&&true):=rfl
 rw[h,Nz,F5];simp
def VE(i:Nat) (lv:Bool):Prop:=(i=1/\lv=true)\/(i=2/\lv=true)\/(i=3/\lv=false)\/(i=4/\lv=false)
theorem Ru{i:Nat} {lv:Bool} (h:VE i lv) (v:Nat):oU (tF (dF i v))=Nv lv v:=by
 rw[Kc]
 rcases h with⟨rfl,rfl⟩|⟨rfl,rfl⟩|⟨rfl,rfl⟩|⟨rfl,rfl⟩
 ·exact Xj v
 ·exact Xk v
 ·exact Xl v
 ·exact Xm v
def VF.Spec(i:Nat) (C:bw) (f:Nat):Prop:=∀cs:List AV,cs.length=7->C.r f [cs] [none] 0 i
def Rv.Spec(C:bw) (f:Nat):Prop:=VF.Spec 1 C f
def Rw.Spec(C:bw) (f:Nat):Prop:=VF.Spec 2 C f
def Rx.Spec(C:bw) (f:Nat):Prop:=VF.Spec 3 C f
def Ry.Spec(C:bw) (f:Nat):Prop:=VF.Spec 4 C f
def Ke.Spec(C:bw) (e f:Nat):Prop:=∀(g i:Nat) (lv:Bool),VE i lv->VF.Spec i C g->qk (vE lv) Fl [some (.fn (.func g) [] [])] C e f
def Kf.Spec(C:bw) (e f:Nat):Prop:=qk lI (fun l=>aD aA (bf l)) [] C e f
def VG.Spec(C:bw) (e f:Nat):Prop:=qk sY (fun p=>.agg p.cells) [] C e f
def Kg.Spec(C:bw) (e f:Nat):Prop:=qk j0 (fun p=>.agg p.cells) [] C e f
def VH.Spec(C:bw) (e f:Nat):Prop:=qk uA (fun p=>.agg p.cells) [] C e f
section
variable{P:Program} (hm:P.follows .mixedOrders=true) {f:Nat}
include hm
theorem Xn.ok(hc:ji true P f=some iS):Rv.Spec (Pure P) f:=by
 intro cs hl
 refine vt hm hc (by show 1<=6;decide) (by simp) (by simp) (ax (keep:=[]) (i:=0) ?_)
 try simp only[I,B,D,RX,aK,aL,aN,↓KW,↓aM,seval,iS,Z.H,bz]
 exact⟨rfl,rfl,trivial⟩
theorem Xp.ok(hc:ji true P f=some iT):Rw.Spec (Pure P) f:=by
 intro cs hl
 refine vt hm hc (by show 1<=6;decide) (by simp) (by simp) (ax (keep:=[]) (i:=0) ?_)
 try simp only[I,B,D,RX,aK,aL,aN,↓KW,↓aM,seval,iT,Z.H,bz]
 exact⟨rfl,rfl,trivial⟩
theorem Xq.ok(hc:ji true P f=some iU):Rx.Spec (Pure P) f:=by
 intro cs hl
 refine vt hm hc (by show 1<=6;decide) (by simp) (by simp) (ax (keep:=[]) (i:=0) ?_)
 try simp only[I,B,D,RX,aK,aL,aN,↓KW,↓aM,seval,iU,Z.H,bz]
 exact⟨rfl,rfl,trivial⟩
theorem Xr.ok(hc:ji true P f=some iV):Ry.Spec (Pure P) f:=by
 intro cs hl
 refine vt hm hc (by show 1<=6;decide) (by simp) (by simp) (ax (keep:=[]) (i:=0) ?_)
 try simp only[I,B,D,RX,aK,aL,aN,↓KW,↓aM,seval,iV,Z.H,bz]
 exact⟨rfl,rfl,trivial⟩
theorem Ke.ok{fA fF fR eD fM e:Nat} (hc:ji true P f=some (f8 fA fF fR eD fM e)) (hA:Sf.Spec (Pure P) fA) (hF:zz.Spec (Pure P) fF) (hR:ux.Spec (Pure P) e fR) (hM:Hi.Spec (Pure P) fM):Ke.Spec (Pure P) e f:=by
 intro g i lv hi hg
 refine om hm hc (by show 2<=30;decide) fun r hr hz Q hQ=>ax (keep:=[]) (i:=0) ?_
 have c1:=hF r hr
 have k1:=(xZ hr).1
 have hx:=FY r
 obtain⟨x,q,e1⟩:∃x q,gB r=(x,q):=⟨_,_,rfl⟩
 rw[e1]at c1 k1 hx;simp only at c1 k1 hx;try simp only[I,B,D,RY,aK,aL,aN,↓KW,↓aM,seval,f8,Z.H,bz]
 refine⟨rfl,aC (hA r) ?_⟩;try simp only[I,B,D,RY,aK,aL,aN,↓KW,↓aM,seval,bz]
 refine⟨rfl,aC c1 ?_⟩;try simp only[I,B,D,RY,aK,aL,aN,↓KW,↓aM,seval,bz]
 by_cases z:q.code=0
 ·refine⟨rfl,aC ((hR q).1 z) ?_⟩
  try simp only[I,B,D,RY,aK,aL,aN,↓KW,↓aM,seval,bz]
  refine⟨rfl,Ju (hg _ rfl) rfl ?_⟩
  have i6:i<=6:=by rcases hi with⟨rfl,_⟩|⟨rfl,_⟩|⟨rfl,_⟩|⟨rfl,_⟩<;>decide
  have hset:setCells [.int .i64 0,.float .f64 4607182418800017408,.float .f64 4607182418800017408,.float .f64 0,.float .f64 0,.int .i64 0,.int .i64 0] i [.float .f64 x]=(dF i x).cells:=by
   rcases hi with⟨rfl,_⟩|⟨rfl,_⟩|⟨rfl,_⟩|⟨rfl,_⟩<;>rfl
  have hpa:bF (dF i x).cells 0 (some 7)=some (.agg (dF i x).cells):=rfl
  have hl7:(dF i x).cells.length=7:=rfl
  have hln0:cV.Ln:=⟨rfl,rfl,rfl⟩
  have hln:(tF (dF i x)).Ln:=⟨rfl,rfl,rfl⟩
  have hfw:(tF (dF i x)).Fw:=by
   intro d hd
   have:d=dF i x:=by simpa[tF]using hd
   subst this
   have h1:vH<2^64:=by decide
   have h0:(0:Nat)<2^64:=by decide
   rcases hi with⟨rfl,_⟩|⟨rfl,_⟩|⟨rfl,_⟩|⟨rfl,_⟩
   ·exact⟨hx,h1,h0,h0⟩
   ·exact⟨h1,hx,h0,h0⟩
   ·exact⟨h1,h1,hx,h0⟩
   ·exact⟨h1,h1,h0,hx⟩
  have hset2:List.take 113 cV.cells++[AV.sl [(dF i x).cells]]++List.drop 114 cV.cells=(tF (dF i x)).cells:=hln0.vA (some [dF i x])
  have hz:bG=cV.cells:=rfl
  have hzl:cV.cells.length=131:=rfl
  have cM:=hM (tF (dF i x)) hln hfw
  rw[Ru hi]at cM
  have hset0:setCells [.int .i64 0,.float .f64 0,.float .f64 0,.float .f64 0,.float .f64 0,.int .i64 0,.int .i64 0] 0 [.int .i64 0,.float .f64 4607182418800017408,.float .f64 4607182418800017408,.float .f64 0,.float .f64 0,.int .i64 0,.int .i64 0]=[.int .i64 0,.float .f64 4607182418800017408,.float .f64 4607182418800017408,.float .f64 0,.float .f64 0,.int .i64 0,.int .i64 0]:=rfl
  try simp only[I,B,D,RY,aK,aL,aN,↓KW,↓aM,seval,bz,hset0,hset,hpa,hl7,i6,hz,hzl,hset2]
  refine iI cM ?_
  by_cases h2:Nv lv x=true
  ·have hs:(vE lv).m r=(x,q):=by show gK lv r=_;unfold gK;rw[e1,if_pos z,if_pos h2]
   rw[hs]at hQ;try simp only[I,B,D,RY,aK,aL,aN,↓KW,↓aM,seval,bz,h2]
   refine iX hQ z ?_;try simp only[I,B,D,RY,aK,aL,aN,↓KW,↓aM,seval,f8]
  ·have h2:Nv lv x=false:=by simpa using h2
   have hs:(vE lv).m r=(0,{q with code:=4,EN:=r.eM,eM:=r.eM}):=by show gK lv r=_;unfold gK;rw[e1,if_pos z,if_neg (by rw[h2];decide)]
   rw[hs]at hQ;try simp only[I,B,D,RY,aK,aL,aN,↓KW,↓aM,seval,bz,h2]
   rw[hQ]
   exact⟨by show(4:Int)≠0;decide,rfl,_,rfl,trivial⟩
 ·have hs:gK lv r=(0,q):=by unfold gK;rw[e1,if_neg z]
  refine⟨rfl,aI ((hR q).2 z) ?_⟩;try simp only[I,B,D,RY,aK,aL,aN,↓KW,↓aM,seval,bz]
  rw[hQ]
  exact⟨by show(gK lv r).2.code≠0;rw[hs];exact z,by show _=d8 (up e (gK lv r).2);rw[hs],_,rfl,trivial⟩
end
end Go.Eng
