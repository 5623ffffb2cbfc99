/- The library of TopFlash. -/
import Derived.Test.YtjnbemnncjbmgaaGreatPk22
set_option linter.all false
set_option maxRecDepth 10000
set_option maxHeartbeats 4000000
namespace Go.Eng
open Go
theorem O1:∀(l M:List Int) (n:Nat) (L:List CK) (as D:List AV),l.length=n->M.length=n->cV (List.replicate n .i++L) (l.map I++as) (M.map I++D)=(cV L as D).map λr=>decide (l=M)&&r
 |[],[],n,L,as,D,h,O=>by subst h;cases h:cV L as D<;>simp[h]
 |[],y::M,n,L,as,D,h,O=>by simp at h O;omega
 |x::l,[],n,L,as,D,h,O=>by simp at h O;omega
 |x::l,y::M,0,L,as,D,h,O=>by simp at h
 |x::l,y::M,n+1,L,as,D,h,O=>by
  have R:=O1 l M n L as D (by simpa using h) (by simpa using O)
  simp only[List.replicate_succ,ts,kr,cV,tS,kw,R]
  cases cV L as D with
  |none=>rfl
  |some r=>
   simp only[mn,fx,List.cons.injEq]
   by_cases V:x=y<;>by_cases Z:l=M<;>simp[V,Z]
section
open Z
def vO(V D O M R L:Nat):bJ:=(⟨_,by conv=>lhs;ext y0 y1;cbv⟩:bS λ(y0 y1:List AV)=>cE 117 [.tmp 4] [V,D,O,M,R,L] [0,3,2,1] 0x284002ba0bccbe40240640073c645e0318a1783f2c50bebb98be042c04204410c860c102bb80be6606cb2204012851c1b2489d9fc26bb0bd795470b01a0c7220a8fe0b42b8500910c182016117cfc3e06c200640071c2620864283e080fd705f33036591020080d485fc7a0ca42fe89f020a8fe0b4ab85077120a93e0f02b8b008b8c8507f786831c4862902d07e140224283e08111c5f31517818e019001f7331780c58680c800f784c41281d8bf8e08762ff47f19a55ea846906a3024d7fee579c2c0488507c10408c0abdc39cd45e0101781b994b020268c299c20bc5e040382701820606a04196440802508383b3f80a2cc18bd791bfc5f037f0112141f04044c2f9c81928bf860905fc0b142f2317f1297469e4362fe78f88d8bf9e3e00462f7af81b1780228cccc12c0559e16e18a17bf4c18bd78e0be0202f01730960404d1851b840a8bc080700e03040c0608450bc505fc0a2ef0123418bc898be080180c084d0445e0308317880bf81415e02069e1f02048810 [y0,y1,[.int .i64 0,.int .i64 0,.int .i64 0,.int .i64 0,.int .i64 0,.int .i64 0,.int .i64 0,.int .i64 0]] [] [.eqc [.i,.i,.i,.i,.i,.i,.i,.i] true (.t 42) (.t 44),.bb true (.t 78) (.t 80),.mm true [.k (.int .i64 1),.t 108]]).1 bL aD
end
section
variable (t:Tb) {i:Nat} {x:Fr} (b:Bx) (w:Int)
structure FI (t:Tb) (b:Bx) (i:Nat):Prop where
 fault:b.mode=3->b.fault≠0
 time:b.mode=1->0<=b.time/\b.time<=(i:Int)/\(b.time=0\/b.time<t.start)
theorem Y3{n:Int} (h:0<=n) (D:n<=9999):jL n=n+1:=by
 unfold jL gM
 split<;>(try split)<;>omega
theorem FI.Qq:FI t (jQ t) 0:=⟨λh=>absurd (show(1:Int)=3 from h) adp,λ_=>⟨pu _,pu _,.inl rfl⟩⟩
theorem O2{t:Tb} {b:Bx} (R:FI t b i) (hi:i<1500) (hm:b.mode=1\/b.mode=2\/b.mode=3):
  (b.mode=1/\(gz t b x).mode=1/\(gz t b x).time=b.time+1/\b.time+1<t.start)\/
  (b.mode=1/\(gz t b x).mode=2/\b.time+1=max 1 t.start)\/
  (b.mode=2/\(gz t b x).mode=2)\/
  (b.mode=2/\(gz t b x).mode=3/\vM t b x=gS t/\(gz t b x).fault≠0)\/
  (b.mode=3/\(gz t b x).mode=3/\vM t b x=gS t/\(gz t b x).fault≠0)\/
  (b.mode=3/\(gz t b x).mode=1/\(gz t b x).time=0):=by
 rcases hm with h|h|h
 ·obtain⟨V,h2,Z⟩:=R.time h
  have D:gz t b x=yY t b (gE x b.lines).lines:=by unfold gz;rw[fp h]
  have M:=Y3 V (show b.time<=9999 by omega)
  rw[D];unfold yY;rw[M]
  by_cases h4:t.start<=b.time+1
  ·right;left
   rw[fp (by simpa using h4)]
   exact⟨h,rfl,ado⟩
  ·left
   rw[fb (by simpa using h4)]
   exact⟨h,h,rfl,ado⟩
 ·have L:¬b.mode=1:=by rw[h];decide
  have D:gz t b x=LS t (Mm b (gE x b.lines).lines) (gE x b.lines):=by unfold gz;rw[fb L,fp h]
  have M:vM t b x=U4 t (Mm b (gE x b.lines).lines) (gE x b.lines):=by unfold vM;rw[fb L,fp h]
  rw[D,M];unfold LS U4
  by_cases h4:(Uz t (Mm b (gE x b.lines).lines) (gE x b.lines) !=0)=true
  ·right;right;right;left
   rw[fp h4,fp h4]
   exact⟨h,rfl,rfl,by simpa using h4⟩
  ·right;right;left
   rw[fb h4];exact⟨h,h⟩
 ·have L:¬b.mode=1:=by rw[h];decide
  have O:¬b.mode=2:=by rw[h];decide
  have D:gz t b x=yZ t b (gE x b.lines).lines (gE x b.lines).reset:=by unfold gz;rw[fb L,fb O]
  have M:vM t b x=gS t:=by unfold vM;rw[fb L,fb O]
  rw[D,M];unfold yZ;split
  ·right;right;right;right;right
   exact⟨h,rfl,rfl⟩
  ·right;right;right;right;left
   exact⟨h,h,rfl,R.fault h⟩
theorem FI.next{t:Tb} {b:Bx} (D:FI t b i) (L:i<1500) (hm:b.mode=1\/b.mode=2\/b.mode=3):FI t (gz t b x) (i+1):=by
 rcases O2 (x:=x) D L hm with⟨a,c,d,e⟩|⟨a,c,d⟩|⟨a,c⟩|⟨a,c,d,e⟩|⟨a,c,d,e⟩|⟨a,c,d⟩
 ·have:=D.time a
  exact⟨λh=>absurd (c.symm.trans h) adp,λ_=>by rw[d];omega⟩
 ·exact⟨λh=>absurd (c.symm.trans h) adp,λh=>absurd (c.symm.trans h) adp⟩
 ·exact⟨λh=>absurd (c.symm.trans h) adp,λh=>absurd (c.symm.trans h) adp⟩
 ·exact⟨λ_=>e,λh=>absurd (c.symm.trans h) adp⟩
 ·exact⟨λ_=>e,λh=>absurd (c.symm.trans h) adp⟩
 ·exact⟨λh=>absurd (c.symm.trans h) adp,λ_=>by rw[d];omega⟩
theorem FI.run{t:Tb} (L:vT t) {D:List Fr} (M:Qm D) (O:D.length<=1500):∀i,i<=D.length->FI t (eO t D i) i
 |0,_=>FI.Qq t
 |i+1,h=>(FI.run L M O i ado).next ado (Inv.run L M i ado).mode
def DR(e:Int×Int×Int):Bool:=e.2.1==2&&e.2.2==w
def fq(ev:List (Int×Int×Int)) (w:Int):Nat->Nat
 |0=>0
 |k+1=>fq ev w k+if DR w (ev.getD k default)then 1 else 0
theorem US(R L M O V:Bool) (D w a1 Z a3 a4:Int):
  fq (uL [(R,D,5,a1),(L,D,2,w),(M,D,1,Z),(O,D,3,a3),(V,D,4,a4)]) w (uL [(R,D,5,a1),(L,D,2,w),(M,D,1,Z),(O,D,3,a3),(V,D,4,a4)]).length=if L then 1 else 0:=by
 cases R<;>cases L<;>cases M<;>cases O<;>cases V<;>simp[uL,fq,DR]
theorem Y4(D:Bool) (b L:Bx):(gk D b L).length<=5:=by
 unfold gk uL;rw[OF]
 exact lh (Hb _ _) adI
theorem acK(x:Fr):fq (Sm t b x) (gz t b x).fault (Sm t b x).length=if b.mode==2&&(gz t b x).mode==3 then 1 else 0:=US ..
theorem DS(ev:List (Int×Int×Int)) (w:Int):∀k,fq ev w k<=k
 |0=>ik _
 |k+1=>by
  have:=DS ev w k
  unfold fq
  split<;>omega
def eE:Int:=if b.mode=1 then b.time else 0
theorem ahD(ev:List (Int×Int×Int)):Pb ev=aI Dw (ez ev):=by
 cases ev<;>rfl
theorem QE{l:List Int} (h:l.length=8):cV [.i,.i,.i,.i,.i,.i,.i,.i] (l.map I) (l.map I)=some true:=by
 have:=O1 l l 8 [] [] [] h h
 simp only[tp]at this
 rw[show([.i,.i,.i,.i,.i,.i,.i,.i]:List CK)=List.replicate 8 .i from rfl,this]
 simp[cV]
theorem Y5:(gS t).length=8:=by simp[gS,je]
def CV.Spec(C:aT) (f:Nat):Prop:=∀l sc:Option (List Int),C.c f [aI aH l,aI aH sc] (B true) none
end
section
variable{P:Program} (hm:P.follows .mixedOrders=true) {f:Nat}
include hm
theorem CV.ok{fT fC fB fS fL fA:Nat} (hc:bK P f=some (vO fT fC fB fS fL fA)) (hT:Table.Spec (Pure P) fT) (hC:qg.Spec (Pure P) fC) (hB:lO.Spec (Pure P) fB) (hS:qi.Spec (Pure P) fS) (hL:pZ.Spec (Pure P) fL) (hA:jw.Spec (Pure P) fA):CV.Spec (Pure P) f:=by
 intro l sc
 have ag:=vT.table l
 have hg:=Ie l
 have ca:=IK l
 obtain⟨t,be⟩:∃t,bk l=t:=⟨_,rfl⟩
 obtain⟨V,ar⟩:∃x,ez (gD true (sc.getD []))=x:=⟨_,rfl⟩
 have a8:V.getD []=gD true (sc.getD []):=by rw[<-ar,dB]
 have ak:Qm (V.getD []):=by rw[a8];exact kM _ _
 have bw:(V.getD []).length<=1500:=by rw[a8];exact kN _ _
 have cT:=hT l
 rw[be]at cT ag hg ca
 have cC:=hC sc true
 rw[ar]at cC
 have ht:=ag.tok
 have bi:=Tb.len ht
 have b5:=Tb.whole ht
 have z1:bL.length=131:=rfl
 have z2:setCells bL 0 t.cells=t.cells:=aM (by rw[bi];rfl)
 have z3:aD.length=138:=rfl
 have an:=λi (h:i<=(V.getD []).length)=>CI.run hg ag ak i h
 clear be ar a8;generalize nT l=n at*
 have b8:=λi (h:i<=(V.getD []).length)=>FI.run ag ak bw i h
 have rb:eE (jQ t)=0:=rfl
 have al:=dC bi (dC b5 (dC z1 (dC z2 (z3))))
 refine aq hm hc [] rfl ?_;try simp only[B,RY,↓KW,seval,vO,Z.H]
 refine af cT ?_;try simp only[RY,↓KW,seval,al]
 refine af cC ?_;try simp only[RY,↓KW,seval,al]
 have bl:(jQ t).Ok:=nk t
 have b0:=Bx.len bl
 have b2:setCells aD 0 (jQ t).cells=(jQ t).cells:=aM (by rw[b0];rfl)
 refine af (hB t ht) ?_;try simp only[RY,↓KW,seval,b0,b2,al]
 refine aG (λi:Nat=>(⟨[(9,.dat (I i) none),(8,.dat (I (eE (eO t (V.getD []) i))) none),(6,.dat (aI Fr.cells V) none),(5,.ptr 7 0),(7,.ptr 14 0)],[(7,⟨t.cells,[]⟩),(14,⟨(eO t (V.getD []) i).cells,[]⟩)],[],400⟩:S)) (λi=>1500-i) (λi=>i<=(V.getD []).length) ?_ 0 ado ?_
 rotate_left
 ·refine ai adp ?_ ?_ ?_ ?_<;>simp[LX,I,eO,rb]
 intro i hi A back
 have ac:=aC (k:=i) ado
 rcases bf (decide ((i:Int)<((V.getD []).length:Int)))with h|h
 ·try simp only[I,RY,↓KW,seval,h]
  refine af hA ?_;try simp only[B,RY,↓KW,seval]
 ·have h1:i<(V.getD []).length:=by have:=dE h;omega
  obtain⟨x,hx⟩:∃x,(V.getD [])[i]? =some x:=⟨_,eh h1⟩
  have b7:(V.getD []).getD i default=x:=by rw[em,hx];rfl
  have bo:(x.samples.getD []).length<=1000000:=ak x (er hx)
  have a9:eO t (V.getD []) (i+1)=gz t (eO t (V.getD []) i) x:=by rw[<-b7];rfl
  have hI:=an i hi
  have hJ:=an (i+1) ado
  have cS:=hS t (eO t (V.getD []) i) x (hI.inv.ins ag bo)
  rw[lX]at cS;rw[a9]at hJ
  have hy:0<=(i:Int)/\(i:Int)<((V.getD []).length:Int):=ado
  obtain⟨g1,g2,g3,g4,g5⟩:=Pc x
  have hF:=b8 i hi
  have am:=O2 (x:=x) hF ado hI.inv.mode
  have O:=acK t (eO t (V.getD []) i) x
  have b6:(Sm t (eO t (V.getD []) i) x).length<=5:=Y4 _ _ _
  have b1:t.cells[118]? =some (I t.start):=Tb.tail_at ht 2 ado
  rw[<-a9]at am O
  have bj:=AN t (eO t (V.getD []) i) x
  have b3:=Bx.len hI.inv.mZ
  have b4:=Bx.whole hI.inv.mZ
  have c1:=Bx.len hJ.inv.mZ
  have c4:=Bx.whole hJ.inv.mZ
  rw[<-a9]at cS c1 c4 hJ;generalize vM t (eO t (V.getD []) i) x=L at*;generalize Sm t (eO t (V.getD []) i) x=ev at*
  have c2:setCells aD 0 (eO t (V.getD []) (i+1)).cells=(eO t (V.getD []) (i+1)).cells:=aM (by rw[c1];rfl)
  have c3:setCells (eO t (V.getD []) i).cells 0 (eO t (V.getD []) (i+1)).cells=(eO t (V.getD []) (i+1)).cells:=aM (by rw[b3,c1])
  generalize cb:eO t (V.getD []) i=b at*;generalize ab:eO t (V.getD []) (i+1)=b' at*
  have d1:(L.map I).length=8:=by simp[bj]
  have d2:setCells [.int .i64 0,.int .i64 0,.int .i64 0,.int .i64 0,.int .i64 0,.int .i64 0,.int .i64 0,.int .i64 0] 0 (L.map I)=L.map I:=aM (by rw[d1];rfl)
  have d3:aB (L.map I) 0 (some 8)=some (.agg (L.map I)):=by
   simp only[aB,d1,kb]
   rw[fp ado,<-d1,io]
  have m1:b.cells[0]? =some (I b.mode):=rfl
  have m2:b'.cells[0]? =some (I b'.mode):=rfl
  have ao:=dC hy (dC hx (dC b3 (dC b4 (dC c1 (dC c2 (dC c3 (dC c4 (dC d1 (dC d2 (dC d3 (dC g1 (dC g2 (dC m1 (dC m2 (al)))))))))))))))
  obtain⟨M,ba⟩:∃M,ez ev=M:=⟨_,rfl⟩
  have bd:M.getD []=ev:=by rw[<-ba,dB]
  rw[ahD,ba]at cS;rw[<-bd]at O b6;clear ba bd
  have m3:b'.cells[2]? =some (I b'.fault):=rfl
  have w7:(true !=true)=false:=rfl
  have w8:(false !=false)=false:=rfl
  have D:=dC m3 (dC b1 (dC w7 (dC w8 (ao))))
  try simp only[I,RY,↓KW,seval,ao]
  refine af cS ?_
  rcases bf (b'.mode==3)with y2|y2
  ·try simp only[I,RY,↓KW,seval,y2,D]
   refine aG (λk:Nat=>(⟨[(14,.dat (I k) none),(12,.dat (aI Dw M) none),(13,.dat (I (fq (M.getD []) b'.fault k)) none),(9,.dat (I i) none),(8,.dat (I (eE b)) none),(6,.dat (aI Fr.cells V) none),(5,.ptr 7 0),(7,.ptr 14 0),(10,.ptr 415 0)],[(7,⟨t.cells,[]⟩),(14,⟨b.cells,[]⟩),(415,⟨b'.cells,[]⟩),(416,⟨L.map I,[]⟩)],[],500⟩:S)) (λk=>8-k) (λk=>k<=(M.getD []).length) ?_ 0 ado ?_
   rotate_left
   ·refine ai adp ?_ ?_ ?_ ?_<;>simp[LX,I,fq]
   intro k hk A3 aa
   have ad:=aC (k:=k) ado
   have bm:=DS (M.getD []) b'.fault k
   have au:=aC (k:=fq (M.getD []) b'.fault k) ado
   rcases bf (decide ((k:Int)<((M.getD []).length:Int)))with g|g
   ·have a7:k=(M.getD []).length:=by have:=dT g;omega
    rw[<-a7]at O
    rcases am with⟨a1,R,a3,a4⟩|⟨a1,R,a3⟩|⟨a1,R⟩|⟨a1,R,a3,a4⟩|⟨a1,R,a3,a4⟩|⟨a1,R,a3⟩
    all_goals
     rw[a1,R]at O
     have r1:eE b'=eE b':=rfl
     conv at r1=>rhs;unfold eE
     have r2:eE b=eE b:=rfl
     conv at r2=>rhs;unfold eE
     rw[R]at r1;rw[a1]at r2
    ·have wt:IntKind.i64.wrap (b.time+1)=b.time+1:=aU (by have:=hF.time a1;omega) (by have:=hF.time a1;omega)
     have td:fq (M.getD []) b'.fault k=0:=O
     have r3:eE b=b.time:=r2
     try simp only[I,RY,↓KW,seval,g,a1,R,td,r3,wt,D]
     refine back (i+1) _ ado ado ?_
     have r4:eE b'=b.time+1:=(show eE b'=b'.time from r1).trans a3
     refine ai adp ?_ ?_ ?_ ?_<;>simp[LX,I,ac,ab,r4]
    ·have wt:IntKind.i64.wrap (b.time+1)=b.time+1:=aU (by have:=hF.time a1;omega) (by have:=hF.time a1;omega)
     have td:fq (M.getD []) b'.fault k=0:=O
     have r3:eE b=b.time:=r2
     have wm:(b.time+1 !=if t.start>1 then t.start else 1)=false:=by
      rw[bne_eq_false_iff_eq]
      split<;>omega
     try simp only[I,RY,↓KW,seval,g,a1,R,td,r3,wt,wm,D]
     refine back (i+1) _ ado ado ?_
     have r4:eE b'=0:=r1
     refine ai adp ?_ ?_ ?_ ?_<;>simp[LX,I,ac,ab,r4]
    ·have td:fq (M.getD []) b'.fault k=0:=O
     have r3:eE b=0:=r2
     try simp only[I,RY,↓KW,seval,g,a1,R,td,r3,D]
     refine back (i+1) _ ado ado ?_
     have r4:eE b'=0:=r1
     refine ai adp ?_ ?_ ?_ ?_<;>simp[LX,I,ac,ab,r4]
    ·have td:fq (M.getD []) b'.fault k=1:=O
     have a5:(b'.fault==0)=false:=by simpa using a4
     have r3:eE b=0:=r2
     try simp only[I,RY,↓KW,seval,g,a1,R,td,a5,r3,D]
     refine back (i+1) _ ado ado ?_
     have r4:eE b'=0:=r1
     refine ai adp ?_ ?_ ?_ ?_<;>simp[LX,I,ac,ab,r4]
    ·have td:fq (M.getD []) b'.fault k=0:=O
     have a5:(b'.fault==0)=false:=by simpa using a4
     have r3:eE b=0:=r2
     try simp only[I,RY,↓KW,seval,g,a1,R,td,a5,r3,D]
     refine back (i+1) _ ado ado ?_
     have r4:eE b'=0:=r1
     refine ai adp ?_ ?_ ?_ ?_<;>simp[LX,I,ac,ab,r4]
    ·have td:fq (M.getD []) b'.fault k=0:=O
     have r3:eE b=0:=r2
     try simp only[I,RY,↓KW,seval,g,a1,R,td,r3,D]
     refine back (i+1) _ ado ado ?_
     have r4:eE b'=0:=(show eE b'=b'.time from r1).trans a3
     refine ai adp ?_ ?_ ?_ ?_<;>simp[LX,I,ac,ab,r4]
   ·have k1:k<(M.getD []).length:=by have:=dE g;omega
    obtain⟨e,he⟩:∃e,(M.getD [])[k]? =some e:=⟨_,eh k1⟩
    have a6:(M.getD []).getD k default=e:=by rw[em,he];rfl
    have ae:0<=(k:Int)/\(k:Int)<((M.getD []).length:Int):=ado
    have tn:fq (M.getD []) b'.fault (k+1)=fq (M.getD []) b'.fault k+if DR b'.fault e then 1 else 0:=by rw[<-a6];rfl
    unfold DR at tn
    rcases bf (e.2.1==2)with j1|j1
    ·rw[j1]at tn
     try simp only[I,RY,↓KW,seval,ae,he,j1,Dw]
     refine aa (k+1) _ ado ado ?_
     refine ai adp ?_ ?_ ?_ ?_<;>simp[LX,I,ad,tn]
    rcases bf (e.2.2==b'.fault)with j2|j2
    ·rw[j1,j2]at tn
     try simp only[I,RY,↓KW,seval,ae,he,j1,j2,Dw,D]
     refine aa (k+1) _ ado ado ?_
     refine ai adp ?_ ?_ ?_ ?_<;>simp[LX,I,ad,tn]
    ·rw[j1,j2]at tn
     try simp only[I,RY,↓KW,seval,ae,he,j1,j2,Dw,D]
     refine aa (k+1) _ ado ado ?_
     refine ai adp ?_ ?_ ?_ ?_<;>simp[LX,I,ad,tn,au]
  ·have bs:L=gS t:=by
    rcases am with⟨a1,R,_⟩|⟨a1,R,_⟩|⟨a1,R⟩|⟨a1,R,a3,a4⟩|⟨a1,R,a3,a4⟩|⟨a1,R,_⟩
    all_goals first|exact a3|(rw[R]at y2;exact absurd y2 adp)
   have w2:cV [.i,.i,.i,.i,.i,.i,.i,.i] (L.map I) ((gS t).map I)=some true:=by rw[bs];exact QE (Y5 t)
   try simp only[I,RY,↓KW,seval,y2,D]
   refine af (hL t ht) ?_;try simp only[RY,↓KW,seval,w2,D]
   refine aG (λk:Nat=>(⟨[(14,.dat (I k) none),(12,.dat (aI Dw M) none),(13,.dat (I (fq (M.getD []) b'.fault k)) none),(9,.dat (I i) none),(8,.dat (I (eE b)) none),(6,.dat (aI Fr.cells V) none),(5,.ptr 7 0),(7,.ptr 14 0),(10,.ptr 415 0)],[(7,⟨t.cells,[]⟩),(14,⟨b.cells,[]⟩),(415,⟨b'.cells,[]⟩),(416,⟨L.map I,[]⟩)],[],500⟩:S)) (λk=>8-k) (λk=>k<=(M.getD []).length) ?_ 0 ado ?_
   rotate_left
   ·refine ai adp ?_ ?_ ?_ ?_<;>simp[LX,I,fq]
   intro k hk A3 aa
   have ad:=aC (k:=k) ado
   have bm:=DS (M.getD []) b'.fault k
   have au:=aC (k:=fq (M.getD []) b'.fault k) ado
   rcases bf (decide ((k:Int)<((M.getD []).length:Int)))with g|g
   ·have a7:k=(M.getD []).length:=by have:=dT g;omega
    rw[<-a7]at O
    rcases am with⟨a1,R,a3,a4⟩|⟨a1,R,a3⟩|⟨a1,R⟩|⟨a1,R,a3,a4⟩|⟨a1,R,a3,a4⟩|⟨a1,R,a3⟩
    all_goals
     rw[a1,R]at O
     have r1:eE b'=eE b':=rfl
     conv at r1=>rhs;unfold eE
     have r2:eE b=eE b:=rfl
     conv at r2=>rhs;unfold eE
     rw[R]at r1;rw[a1]at r2
    ·have wt:IntKind.i64.wrap (b.time+1)=b.time+1:=aU (by have:=hF.time a1;omega) (by have:=hF.time a1;omega)
     have td:fq (M.getD []) b'.fault k=0:=O
     have r3:eE b=b.time:=r2
     try simp only[I,RY,↓KW,seval,g,a1,R,td,r3,wt,D]
     refine back (i+1) _ ado ado ?_
     have r4:eE b'=b.time+1:=(show eE b'=b'.time from r1).trans a3
     refine ai adp ?_ ?_ ?_ ?_<;>simp[LX,I,ac,ab,r4]
    ·have wt:IntKind.i64.wrap (b.time+1)=b.time+1:=aU (by have:=hF.time a1;omega) (by have:=hF.time a1;omega)
     have td:fq (M.getD []) b'.fault k=0:=O
     have r3:eE b=b.time:=r2
     have wm:(b.time+1 !=if t.start>1 then t.start else 1)=false:=by
      rw[bne_eq_false_iff_eq]
      split<;>omega
     try simp only[I,RY,↓KW,seval,g,a1,R,td,r3,wt,wm,D]
     refine back (i+1) _ ado ado ?_
     have r4:eE b'=0:=r1
     refine ai adp ?_ ?_ ?_ ?_<;>simp[LX,I,ac,ab,r4]
    ·have td:fq (M.getD []) b'.fault k=0:=O
     have r3:eE b=0:=r2
     try simp only[I,RY,↓KW,seval,g,a1,R,td,r3,D]
     refine back (i+1) _ ado ado ?_
     have r4:eE b'=0:=r1
     refine ai adp ?_ ?_ ?_ ?_<;>simp[LX,I,ac,ab,r4]
    ·have td:fq (M.getD []) b'.fault k=1:=O
     have a5:(b'.fault==0)=false:=by simpa using a4
     have r3:eE b=0:=r2
     try simp only[I,RY,↓KW,seval,g,a1,R,td,a5,r3,D]
     refine back (i+1) _ ado ado ?_
     have r4:eE b'=0:=r1
     refine ai adp ?_ ?_ ?_ ?_<;>simp[LX,I,ac,ab,r4]
    ·have td:fq (M.getD []) b'.fault k=0:=O
     have a5:(b'.fault==0)=false:=by simpa using a4
     have r3:eE b=0:=r2
     try simp only[I,RY,↓KW,seval,g,a1,R,td,a5,r3,D]
     refine back (i+1) _ ado ado ?_
     have r4:eE b'=0:=r1
     refine ai adp ?_ ?_ ?_ ?_<;>simp[LX,I,ac,ab,r4]
    ·have td:fq (M.getD []) b'.fault k=0:=O
     have r3:eE b=0:=r2
     try simp only[I,RY,↓KW,seval,g,a1,R,td,r3,D]
     refine back (i+1) _ ado ado ?_
     have r4:eE b'=0:=(show eE b'=b'.time from r1).trans a3
     refine ai adp ?_ ?_ ?_ ?_<;>simp[LX,I,ac,ab,r4]
   ·have k1:k<(M.getD []).length:=by have:=dE g;omega
    obtain⟨e,he⟩:∃e,(M.getD [])[k]? =some e:=⟨_,eh k1⟩
    have a6:(M.getD []).getD k default=e:=by rw[em,he];rfl
    have ae:0<=(k:Int)/\(k:Int)<((M.getD []).length:Int):=ado
    have tn:fq (M.getD []) b'.fault (k+1)=fq (M.getD []) b'.fault k+if DR b'.fault e then 1 else 0:=by rw[<-a6];rfl
    unfold DR at tn
    rcases bf (e.2.1==2)with j1|j1
    ·rw[j1]at tn
     try simp only[I,RY,↓KW,seval,ae,he,j1,Dw]
     refine aa (k+1) _ ado ado ?_
     refine ai adp ?_ ?_ ?_ ?_<;>simp[LX,I,ad,tn]
    rcases bf (e.2.2==b'.fault)with j2|j2
    ·rw[j1,j2]at tn
     try simp only[I,RY,↓KW,seval,ae,he,j1,j2,Dw,D]
     refine aa (k+1) _ ado ado ?_
     refine ai adp ?_ ?_ ?_ ?_<;>simp[LX,I,ad,tn]
    ·rw[j1,j2]at tn
     try simp only[I,RY,↓KW,seval,ae,he,j1,j2,Dw,D]
     refine aa (k+1) _ ado ado ?_
     refine ai adp ?_ ?_ ?_ ?_<;>simp[LX,I,ad,tn,au]
end
end Go.Eng
