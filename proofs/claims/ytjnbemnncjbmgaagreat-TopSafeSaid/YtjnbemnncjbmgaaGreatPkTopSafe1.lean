/- The library of TopSafe. -/
import Derived.Test.YtjnbemnncjbmgaaGreatPk22
set_option linter.all false
set_option maxRecDepth 10000
set_option maxHeartbeats 4000000
namespace Go.Eng
open Go
section
open Z
def xU(D:Nat):bJ:=(⟨_,by conv=>lhs;cbv⟩:bS (cE 21 [.tmp 6] [D] [] 0xa1800f0e04414d3e3e5c3e0c1025cfb48bcf9b17170102203170820c1045a45f0543e1f099007b20)).1
end
def AQ(t:Tb) (p q:Nat):Bool:=rS (eA t p) q||rS (eA t q) p
def CS.Spec(C:aT) (f:Nat):Prop:=∀(t:Tb) (p q:Nat),t.Ln->p<8->q<8->C.c f [.agg t.cells,I p,I q] (B (AQ t p q)) none
section
variable{P:Program} (hm:P.follows .mixedOrders=true) {f:Nat}
include hm
theorem CS.ok{O:Nat} (R:bK P f=some (xU O)) (L:rT.Spec (Pure P) O):CS.Spec (Pure P) f:=by
 intro t p q D hp hq
 have c1:=D.Dt hp
 have V:=D.Dt hq
 have hx:0<=(p:Int)/\(p:Int)<(8:Nat):=ado
 have hy:0<=(q:Int)/\(q:Int)<(8:Nat):=ado
 refine aq hm R [] rfl ?_;try simp only[I,B,RX,↓KW,Nat.reduceBEq,Nat.reduceAdd,xU,Z.H,hx,c1]
 refine af (L _ _) ?_;try simp only[B,RX,↓KW,Nat.reduceBEq,Nat.reduceAdd]
 cases M:rS (eA t p) q
 ·try simp only[I,RX,↓KW,Nat.reduceBEq,Nat.reduceAdd,hy,V]
  refine af (L _ _) ?_;try simp only[B,RX,↓KW,Nat.reduceBEq,Nat.reduceAdd]
  simp[AQ,M]
 ·try simp only[RX,↓KW,Nat.reduceBEq,Nat.reduceAdd]
  simp[AQ,M]
end
section
open Z
def xV(O g1 V R Z L D M:Nat):bJ:=(⟨_,by conv=>lhs;ext y0 y1;cbv⟩:bS λ(y0 y1:List AV)=>cE 83 [.tmp 4] [O,g1,V,R,Z,L,D,M] [0,8,7,1] 0x142001d485e65f20100320038e322f018c50bc1f96285f1445f0211a0320032542f0188e019001f73a1780c596440802504517f1c1d228bfa1fc0864f09057e0b83015c573fbc5c3581132cef2bce1603418e044cb3dcaf385808121a9bb877860c5ebcf05f0151782b9a4b02090d1838178080e11c0e40832c881004a14702128fe4415c8268c05715bfef0b0104002d820882f16f2c178300cdcca58104868c140bc040704e03040c600050d04985f0302517f0c120bf816285e462fe252e8cbc86c5fcf1f11b17f3c7c008c5ef5f0362f0045199982580ab1c2dc3142f7e98317af1c17c0405e02e612c0809a30a370815178100e01c06081c50bc505fc0a2ef0123418bc898be080180c084d0445e0308317880bf81415e02069e1f02048810 [y0,y1,[.int .i64 0,.int .i64 0,.int .i64 0,.int .i64 0,.int .i64 0,.int .i64 0,.int .i64 0,.int .i64 0]]).1 bL aD
end
section
variable {b:Bx} {n p q:Nat} {t:Tb} {x:Fr}
theorem YU(l:List Int) (D:p<8):tb (UJ l) p=U5 l p:=by rw[UJ,L9 l p 8 ado];simp[D]
theorem QD(t:Tb) (D:p<8):mz (gS t) p=BU t p:=by
 rw[mz,gS,je,em,ka,kv D];simp[D]
theorem adO(D:p<8):mz rdL p=1:=by
 have e:p=0\/p=1\/p=2\/p=3\/p=4\/p=5\/p=6\/p=7:=ado
 rcases e with rfl|rfl|rfl|rfl|rfl|rfl|rfl|rfl<;>rfl
theorem UN(g:TG t n) (D:p<8) (L:q<8) (h:AQ t p q=true):tb (eA t p) q=true:=by
 simp only[AQ,na]at h;rw[yA L,yA D]at h
 rcases h with h|h
 ·exact h
 ·rw[g.sym p q D L];exact h
theorem acB(g:TG t n) (R:FG t n) (h:CI t n (gz t b x)) (D:p<8) (L:(aK t p).on=true):(bT .i64 (mz (vM t b x) p) 7==0)=false:=by
 rcases II t b x with e|e|⟨_,_,e⟩<;>rw[e]
 ·rw[adO D];decide+kernel
 ·rw[QD t D,BU]
  rw[g.on p D]at L;obtain⟨q,O⟩:=R.one;rw[O p D]
  have V:p<n:=by simpa using L
  by_cases M:q<n/\p=q
  ·rw[fp M];decide+kernel
  ·rw[fb M,fp V];decide+kernel
 ·rw[xO _ D]
  exact(FN (h.si.run p D).col).2.2
theorem YV(g:TG t n) (fl:FG t n) (h:CI t n (gz t b x)) (M:p<8) (D:q<8) (hc:AQ t p q=true) (hm:U5 (vM t b x) q=true):U5 (vM t b x) p=false/\(bT .i64 (mz (vM t b x) p) 8 !=0)=false:=by
 have L:=UN g M D hc
 rcases II t b x with e|e|⟨_,_,e⟩<;>rw[e]at hm⊢<;>unfold U5 at*
 ·rw[adO D]at hm;exact absurd hm (by decide+kernel)
 ·rw[QD t D,BU]at hm
  rw[QD t M,BU];obtain⟨k,hk⟩:=fl.one;rw[hk q D]at hm;rw[hk p M]
  have aa:=(g.con p q M D L).1
  have V:k<n/\q=k:=by
   by_cases O:k<n/\q=k
   ·exact O
   ·rw[fb O]at hm
    by_cases R:q<n
    ·rw[fp R]at hm;exact absurd hm (by decide+kernel)
    ·rw[fb R]at hm;exact absurd hm (by decide+kernel)
  have Z:¬(k<n/\p=k):=λh=>aa (h.2.trans V.2.symm)
  rw[fb Z]
  by_cases R:p<n
  ·rw[fp R];exact⟨by decide+kernel,by decide+kernel⟩
  ·rw[fb R];exact⟨by decide+kernel,by decide+kernel⟩
 ·rw[xO _ D]at hm
  rw[xO _ M]
  have s1:=FN (h.si.run p M).col
  have s2:=(FN (h.si.run q D).col).1 hm
  have hr:dN ((gz t b x).st.rn p)=true:=by
   rcases h.si.safe p q M D L with k|k
   ·exact k
   ·rw[s2]at k;cases k
  constructor
  ·cases O:(bT .i64 (iM (bh (gz t b x).st.runs p)) 6 !=0)with
   |false=>rfl
   |true=>have:=s1.1 O;rw[hr]at this;cases this
  ·cases O:(bT .i64 (iM (bh (gz t b x).st.runs p)) 8 !=0)with
   |false=>rfl
   |true=>have:=s1.2.1 O;rw[hr]at this;cases this
def FP.Spec(C:aT) (f:Nat):Prop:=∀l sc:Option (List Int),C.c f [aI aH l,aI aH sc] (B true) none
end
section
variable{P:Program} (hm:P.follows .mixedOrders=true) {f:Nat}
include hm
theorem FP.ok{fT fC fB fS fM fX fh fA:Nat} (hc:bK P f=some (xV fT fC fB fS fM fX fh fA)) (hT:Table.Spec (Pure P) fT) (hC:qg.Spec (Pure P) fC) (hB:lO.Spec (Pure P) fB) (hS:qi.Spec (Pure P) fS) (hM:DM.Spec (Pure P) fM) (hX:CS.Spec (Pure P) fX) (hh:rT.Spec (Pure P) fh) (hA:jw.Spec (Pure P) fA):FP.Spec (Pure P) f:=by
 intro l sc
 have aa:=vT.table l
 have hg:=Ie l
 have am:=IK l
 obtain⟨t,ao⟩:∃t,bk l=t:=⟨_,rfl⟩
 obtain⟨D,ag⟩:∃x,ez (gD true (sc.getD []))=x:=⟨_,rfl⟩
 have al:D.getD []=gD true (sc.getD []):=by rw[<-ag,dB]
 have ac:Qm (D.getD []):=by rw[al];exact kM _ _
 have bj:(D.getD []).length<=1500:=by rw[al];exact kN _ _
 have cT:=hT l
 rw[ao]at cT aa hg am
 have cC:=hC sc true
 rw[ag]at cC
 have ht:=aa.tok
 have au:=Tb.len ht
 have a9:=Tb.whole ht
 have z1:bL.length=131:=rfl
 have z2:setCells bL 0 t.cells=t.cells:=aM (by rw[au];rfl)
 have z3:aD.length=138:=rfl
 have ad:=λi (h:i<=(D.getD []).length)=>CI.run hg aa ac i h
 clear ao ag al;generalize nT l=n at*
 have ab:=dC au (dC a9 (dC z1 (dC z2 (z3))))
 refine aq hm hc [] rfl ?_;try simp only[B,RY,↓KW,seval,xV,Z.H]
 refine af cT ?_;try simp only[RY,↓KW,seval,ab]
 refine af cC ?_;try simp only[RY,↓KW,seval,ab]
 have a2:(jQ t).Ok:=nk t
 have b0:=Bx.len a2
 have b2:setCells aD 0 (jQ t).cells=(jQ t).cells:=aM (by rw[b0];rfl)
 refine af (hB t ht) ?_;try simp only[RY,↓KW,seval,b0,b2,ab]
 refine aG (λi:Nat=>(⟨[(8,.dat (I i) none),(6,.dat (aI Fr.cells D) none),(5,.ptr 7 0),(7,.ptr 14 0)],[(7,⟨t.cells,[]⟩),(14,⟨(eO t (D.getD []) i).cells,[]⟩)],[],400⟩:S)) (λi=>1500-i) (λi=>i<=(D.getD []).length) ?_ 0 ado ?_
 rotate_left
 ·refine ai adp ?_ ?_ ?_ ?_<;>simp[LX,I,eO]
 intro i hi A back
 have be:=aC (k:=i) ado
 rcases bf (decide ((i:Int)<((D.getD []).length:Int)))with h|h
 ·try simp only[I,RY,↓KW,seval,h]
  refine af hA ?_;try simp only[B,RY,↓KW,seval]
 ·have h1:i<(D.getD []).length:=by have:=dE h;omega
  obtain⟨x,hx⟩:∃x,(D.getD [])[i]? =some x:=⟨_,eh h1⟩
  have bd:(D.getD []).getD i default=x:=by rw[em,hx];rfl
  have a5:(x.samples.getD []).length<=1000000:=ac x (er hx)
  have ar:eO t (D.getD []) (i+1)=gz t (eO t (D.getD []) i) x:=by rw[<-bd];rfl
  have hI:=ad i hi
  have hJ:=ad (i+1) ado
  have cS:=hS t (eO t (D.getD []) i) x (hI.inv.ins aa a5)
  rw[lX]at cS;rw[ar]at hJ
  have hy:0<=(i:Int)/\(i:Int)<((D.getD []).length:Int):=ado
  obtain⟨g1,g2,g3,g4,g5⟩:=Pc x
  have ae:=λp hp=>acB hg am hJ (p:=p) hp
  have a3:=λp q hp hq=>YV hg am hJ (p:=p) (q:=q) hp hq
  have R:=AN t (eO t (D.getD []) i) x
  have b3:=Bx.len hI.inv.mZ
  have b4:=Bx.whole hI.inv.mZ
  have c1:=Bx.len hJ.inv.mZ
  have c4:=Bx.whole hJ.inv.mZ
  rw[<-ar]at cS c1 c4 hJ;generalize vM t (eO t (D.getD []) i) x=L at*;generalize Sm t (eO t (D.getD []) i) x=ev at*
  have c2:setCells aD 0 (eO t (D.getD []) (i+1)).cells=(eO t (D.getD []) (i+1)).cells:=aM (by rw[c1];rfl)
  have c3:setCells (eO t (D.getD []) i).cells 0 (eO t (D.getD []) (i+1)).cells=(eO t (D.getD []) (i+1)).cells:=aM (by rw[b3,c1])
  generalize bi:eO t (D.getD []) i=b at*;generalize ba:eO t (D.getD []) (i+1)=b' at*
  have d1:(L.map I).length=8:=by simp[R]
  have d2:setCells [.int .i64 0,.int .i64 0,.int .i64 0,.int .i64 0,.int .i64 0,.int .i64 0,.int .i64 0,.int .i64 0] 0 (L.map I)=L.map I:=aM (by rw[d1];rfl)
  have d3:aB (L.map I) 0 (some 8)=some (.agg (L.map I)):=by
   simp only[aB,d1,kb]
   rw[fp ado,<-d1,io]
  have M:=dC hy (dC hx (dC b3 (dC b4 (dC c1 (dC c2 (dC c3 (dC c4 (dC d1 (dC d2 (dC d3 (dC g1 (dC g2 (ab)))))))))))))
  try simp only[I,RY,↓KW,seval,M]
  refine af cS ?_;try simp only[RY,↓KW,seval,M]
  refine af (hM L R) ?_;try simp only[I,RY,↓KW,seval,M]
  refine aG (λp:Nat=>(⟨[(13,.dat (I p) none),(12,.dat (I (UJ L)) none),(8,.dat (I i) none),(6,.dat (aI Fr.cells D) none),(5,.ptr 7 0),(7,.ptr 14 0),(9,.ptr 415 0),(10,.ptr 416 0)],[(7,⟨t.cells,[]⟩),(14,⟨b.cells,[]⟩),(415,⟨b'.cells,[]⟩),(416,⟨L.map I,[]⟩)],[],500⟩:S)) (λp=>8-p) (λp=>p<=8) ?_ 0 ado ?_
  rotate_left
  ·refine ai adp ?_ ?_ ?_ ?_<;>simp[LX,I]
  intro p bm A2 an
  have a6:=aC (k:=p) ado
  rcases bf (decide ((p:Int)<8))with g|g
  ·try simp only[I,RY,↓KW,seval,g,M]
   refine back (i+1) _ ado ado ?_
   refine ai adp ?_ ?_ ?_ ?_<;>simp[LX,I,be,ba]
  ·have k1:p<8:=by have:=dE g;omega
   have a8:0<=(p:Int)/\(p:Int)<8:=ado
   have a7:t.cells[p*13]? =some (B (aK t p).on):=by
    have:=kF (Tb.iO (ht.ln.mT k1)) (j:=0) ado
    rw[se]at this;rw[this];rfl
   have a4:(L.map I)[p]? =some (I (mz L p)):=PZ R k1
   have ae:=ae p k1
   have cP:=hh (UJ L) p
   rw[yA k1,YU L k1]at cP
   have V:=dC g (dC a8 (dC a7 (dC a4 (M))))
   rcases bf (aK t p).on with b5|b5
   all_goals
    (try have b6:=ae b5)
    (try try simp only[I,B,RY,↓KW,seval,b5,b6,V])
    (try try simp only[I,B,RY,↓KW,seval,b5,V])
    refine aG (λq:Nat=>(⟨[(14,.dat (I q) none),(13,.dat (I p) none),(12,.dat (I (UJ L)) none),(8,.dat (I i) none),(6,.dat (aI Fr.cells D) none),(5,.ptr 7 0),(7,.ptr 14 0),(9,.ptr 415 0),(10,.ptr 416 0)],[(7,⟨t.cells,[]⟩),(14,⟨b.cells,[]⟩),(415,⟨b'.cells,[]⟩),(416,⟨L.map I,[]⟩)],[],700⟩:S)) (λq=>8-q) (λq=>q<=8) ?_ 0 ado ?_
    rotate_left
    ·refine ai adp ?_ ?_ ?_ ?_<;>simp[LX,I]
    intro q bl A3 O
    have ak:=aC (k:=q) ado
    rcases bf (decide ((q:Int)<8))with g2|g2
    ·try simp only[I,RY,↓KW,seval,g2]
     refine an (p+1) _ ado ado ?_
     refine ai adp ?_ ?_ ?_ ?_<;>simp[LX,I,a6]
    ·have k2:q<8:=by have:=dE g2;omega
     have cX:=hX t p q ht.ln k1 k2
     have cQ:=hh (UJ L) q
     rw[yA k2,YU L k2]at cQ
     have f5:=a3 p q k1 k2
     try simp only[I,RY,↓KW,seval,g2,M]
     refine af cX ?_;generalize AQ t p q=cl at*;generalize U5 L q=hq' at*;generalize U5 L p=hp' at*
     rcases bf cl with k3|k3
     ·subst k3
      try simp only[B,RY,↓KW,seval]
      refine O (q+1) _ ado ado ?_
      refine ai adp ?_ ?_ ?_ ?_<;>simp[LX,I,ak]
     subst k3;try simp only[B,RY,↓KW,seval]
     refine af cQ ?_
     rcases bf hq' with k4|k4
     ·subst k4
      try simp only[B,RY,↓KW,seval]
      refine O (q+1) _ ado ado ?_
      refine ai adp ?_ ?_ ?_ ?_<;>simp[LX,I,ak]
     subst k4;obtain⟨e1,e2⟩:=f5 rfl rfl;subst e1;try simp only[B,RY,↓KW,seval]
     refine af cP ?_;try simp only[I,B,RY,↓KW,seval,e2,V]
     refine O (q+1) _ ado ado ?_
     refine ai adp ?_ ?_ ?_ ?_<;>simp[LX,I,ak]
end
end Go.Eng
