/- Part 20 of the engine and its library. -/
import Derived.Test.YtdfplndcbbofjaaGreatPk19
set_option linter.all false
set_option maxRecDepth 10000
set_option maxHeartbeats 4000000
namespace Go.Eng
open Go
theorem FD(s:Int):dM s=(d6 s).map λ(k:Nat)=>(k:Int):=by
 rw[dM,d6,List.filter_map]
 congr 1
 exact List.filter_congr λk hk=>nr (fp.1 hk)
theorem Dr(l:List Rn):ez l 8=ef l:=BO l 8
section
variable{P:Program} (hm:P.follows .mixedOrders=true) {f:Nat}
include hm
theorem ZG.ok{fG fO fI e fA fW:Nat} (hc:bu P f=some (qX fG fO fI fA fW)) (hG:jF.Spec (Pure P) fG) (hO:on.Spec (Pure P) fO) (hI:gE.Spec (Pure P) fI e) (hA:vJ.Spec (Pure P) fA) (hW:fJ.Spec (Pure P) fW):CW.Spec (Pure P) f:=by
 intro t r l want ht hl
 have hW:=gH hW
 have hw:=bQ hl
 have au:=c8 hl
 have al:=Tb.len ht
 have hp:=Tb.whole ht
 have hr:r.cells.length=4/\aF r.cells 0 (some 4)=some (.agg r.cells):=⟨rfl,rfl⟩
 have cG:=hG l hl
 rw[Dr]at cG
 have ae:=hI (bK .i64 (ef l) (oS t)) none (.inl rfl)
 have ab:=hI (aJ .i64 want (ef l)) none (.inl rfl)
 rw[FD]at ae ab
 have hE:Ki t r l want=(d6 (bK .i64 (ef l) (oS t))).foldl (Wy t r l want) 0:=rfl
 have h8:∀p∈d6 (bK .i64 (ef l) (oS t)),p<8:=λp h=>jd h
 have h9:∀p∈d6 (aJ .i64 want (ef l)),p<8:=λp h=>jd h
 have n1:=EK (bK .i64 (ef l) (oS t))
 have n2:=EK (aJ .i64 want (ef l))
 have hF:∀n p,Wy t r l want n p=if(d6 (aJ .i64 want (ef l))).any (II t r l want p)then bJ n p else n:=λ_ _=>rfl
 generalize Ki t r l want=res at*;generalize Wy t r l want=pF at*;generalize d6 (bK .i64 (ef l) (oS t))=q1 at*;generalize d6 (aJ .i64 want (ef l))=q2 at*
 have E:=cB hw (cB au (cB al (cB hp (hr))))
 refine aj hm hc [] rfl ?_;try simp only[I,B,D,RX,↓KW,seval,qX,Z.H,E]
 refine af cG ?_;try simp only[I,B,D,RX,↓KW,seval,E]
 refine af (hO t ht) ?_;try simp only[I,B,D,RX,↓KW,seval,E]
 refine af ae ?_;try simp only[I,B,D,RX,↓KW,seval,dS,aT,mt]
 refine aD (λj:Nat=>(⟨[(21,.dat (I j) none),(20,.dat (I q1.length) none),(19,.dat (aI aC (dJ (q1.map λ(k:Nat)=>(k:Int)))) none),(3,.dat (I want) none),(6,.ptr 6 0),(4,.ptr 4 0),(5,.ptr 5 0),(9,.dat (I ((q1.take j).foldl pF 0)) none)],[(4,⟨t.cells,[]⟩),(5,⟨r.cells,[]⟩),(6,⟨aQ l,[]⟩)],[],400⟩:S)) (λj=>q1.length-j) (λj=>j<=q1.length) ?_ 0 ST ?_
 rotate_left
 ·refine ai Ts ?_ ?_ ?_ ?_<;>simp[LX,I,B,D]
 intro j hj A back
 have a2:=aA (k:=j) ST
 try simp only[I,B,D,RX,↓KW,seval]
 rcases bc (decide ((j:Int)<(q1.length:Int)))with g1|g1
 ·have:j=q1.length:=by have:=dE g1;omega
  subst this;try simp only[I,B,D,RX,↓KW,seval,g1]
  rw[gn,hE]
 have g2:j<q1.length:=by have:=dC g1;omega
 obtain⟨p,V⟩:∃p,q1[j]? =some p:=⟨_,dT g2⟩
 have hx:(q1.map λ(k:Nat)=>(k:Int))[j]? =some (p:Int):=by rw[im,V];rfl
 have ag:=h8 p (em V)
 have hn:=jU (f:=pF) (b:=0) V
 generalize(q1.take j).foldl pF 0=s at*;rw[hF]at hn
 have hy:(0<=(j:Int)/\(j:Int)<(q1.length:Int))/\(0<=(p:Int)/\(p:Int)<8):=ST
 obtain⟨M,O⟩:∃M:Nat->Bool,∀i,(q2.take i).any (II t r l want p)=M i:=⟨λi=>(q2.take i).any (II t r l want p),λ_=>rfl⟩
 have ar:M 0=false:=by rw[<-O];rfl
 have am:M q2.length=q2.any (II t r l want p):=by rw[<-O,gn]
 rw[<-am]at hn;try simp only[I,B,D,RX,↓KW,seval,g1,hx,hy,c7,aC,aT,mt,E]
 refine af cG ?_;try simp only[I,B,D,RX,↓KW,seval,E]
 refine af ab ?_;try simp only[I,B,D,RX,↓KW,seval,dS,aT,mt]
 refine aD (λi:Nat=>(⟨[(31,.dat (I i) none),(30,.dat (I q2.length) none),(29,.dat (aI aC (dJ (q2.map λ(k:Nat)=>(k:Int)))) none),(11,.dat (I p) none),(21,.dat (I j) none),(20,.dat (I q1.length) none),(19,.dat (aI aC (dJ (q1.map λ(k:Nat)=>(k:Int)))) none),(3,.dat (I want) none),(6,.ptr 6 0),(4,.ptr 4 0),(5,.ptr 5 0),(9,.dat (I (if M i then bJ s p else s)) none)],[(4,⟨t.cells,[]⟩),(5,⟨r.cells,[]⟩),(6,⟨aQ l,[]⟩)],[],400⟩:S)) (λi=>q2.length-i) (λi=>i<=q2.length) ?_ 0 ST ?_
 rotate_left
 ·refine ai Ts ?_ ?_ ?_ ?_<;>simp[LX,I,B,D,ar]
 intro i hi A2 L
 have ac:=aA (k:=i) ST
 try simp only[I,B,D,RX,↓KW,seval]
 rcases bc (decide ((i:Int)<(q2.length:Int)))with g3|g3
 ·have:i=q2.length:=by have:=dE g3;omega
  subst this;rw[<-hn];try simp only[I,B,D,RX,↓KW,seval,g3]
  refine back (j+1) _ ST ST ?_
  refine ai Ts ?_ ?_ ?_ ?_<;>simp[LX,I,B,D,a2]
 have g4:i<q2.length:=by have:=dC g3;omega
 obtain⟨y,aa⟩:∃y,q2[i]? =some y:=⟨_,dT g4⟩
 have ao:(q2.map λ(k:Nat)=>(k:Int))[i]? =some (y:Int):=by rw[im,aa];rfl
 have a3:=h9 y (em aa)
 have ad:=Kh (f:=II t r l want p) aa
 rw[O,O]at ad
 have R:(if M (i+1)then bJ s p else s)=if II t r l want p y then bJ (if M i then bJ s p else s) p else(if M i then bJ s p else s):=by
  rw[ad]
  cases M i<;>cases II t r l want p y<;>simp[Fb s ag]
 have hP:II t r l want p y=!BR t r p y:=by
  unfold II BR
  cases(az t p).2<;>rfl
 generalize(if M i then bJ s p else s)=z at*
 have ak:(0<=(i:Int)/\(i:Int)<(q2.length:Int))/\(0<=(y:Int)/\(y:Int)<8):=ST
 try simp only[I,B,D,RX,↓KW,seval,g3,ao,ak,c7,aC,aT,mt,E]
 refine af (hA t r p y ht) ?_
 rcases bc (BR t r p y)with c1|c1
 ·rw[c1]at hP
  rw[hP]at R;try simp only[I,B,D,RX,↓KW,seval,c1,fx]
  refine af (hW _ _) ?_;try simp only[I,B,D,RX,↓KW,seval]
  refine L (i+1) _ ST ST ?_
  refine ai Ts ?_ ?_ ?_ ?_<;>simp[LX,I,B,D,ac,R]
 ·rw[c1]at hP
  rw[hP]at R;try simp only[I,B,D,RX,↓KW,seval,c1,gs]
  refine L (i+1) _ ST ST ?_
  refine ai Ts ?_ ?_ ?_ ?_<;>simp[LX,I,B,D,ac,R]
theorem ZH.ok{fI e fW:Nat} (hc:bu P f=some (AA fI fW)) (hI:gE.Spec (Pure P) fI e) (hW:where.Spec (Pure P) fW):CX.Spec (Pure P) f:=by
 intro t s ht
 have an:=Tb.len ht
 have hp:=Tb.whole ht
 have ar:∀x:ff,setCells [.int .i64 0,.int .i64 0,.int .i64 0,.bool false] 0 x.cells=x.cells:=λ_=>rfl
 have ao:∀(x:ff) (n:Int),setCells x.cells 0 [I n]=({x with group:=n}:ff).cells:=λ_ _=>rfl
 have a3:[I 0,I (-1),I (-1),B false]=(⟨0,-1,-1,false⟩:ff).cells:=rfl
 have au:∀x:ff,x.cells.length=4/\aF x.cells 0 (some 4)=some (.agg x.cells)/\x.cells[0]? =some (I x.group):=λ_=>⟨rfl,rfl,rfl⟩
 have hq:∀x:Sp,x.cells=[I x.group,I x.ring,I x.pos,I x.p]:=λ_=>rfl
 have a2:∀a b c d x y z w:AV,setCells [a,b,c,d] 0 [x,y,z,w]=[x,y,z,w]:=λ_ _ _ _ _ _ _ _=>rfl
 have am:∀a b c d x:AV,setCells [a,b,c,d] 0 [x]=[x,b,c,d]:=λ_ _ _ _ _=>rfl
 have cI:=hI s none (.inl rfl)
 rw[FD]at cI
 have hE:Ij t s=(d6 s).foldl (LV t) ⟨(az t (match(d6 s).head? with|some p=>(p:Int)|none=>-1)).1.group,-1,-1,false⟩:=rfl
 have h8:∀p∈d6 s,p<8:=λp h=>jd h
 have n1:=EK s
 generalize Ij t s=res at*;generalize d6 s=q at*
 have E:=cB an (cB hp (cB au (cB ar (cB ao (cB a3 (cB hq (cB a2 (am))))))))
 refine aj hm hc [] rfl ?_;try simp only[I,B,D,RY,↓KW,seval,AA,Z.H,E]
 refine af cI ?_;try simp only[I,B,D,RY,↓KW,seval,dS,aT,mt,E]
 rcases bc ((q.length:Int)==0)with e0|e0
 rotate_left
 ·have O:q=[]:=nl (by have:=eq_of_beq e0;omega)
  have M:(az t (-1)).1.group=0:=by
   have:(aS t).find? (λx=>x.p== -1)=none:=by
    rw[mf];intro x hx
    have:=CC hx
    simp;omega
   simp[az,this]
  rw[O]at hE;simp only[List.head?_nil,List.foldl_nil,M]at hE;try simp only[I,B,D,RY,↓KW,seval,e0,E]
  rw[hE]
  try rfl
 have al:0<q.length:=by have:=ne_of_beq_false e0;omega
 obtain⟨p0,ac⟩:∃p,q[0]? =some p:=⟨_,dT al⟩
 have a5:q.head? =some p0:=by rw[List.head?_eq_getElem?];exact ac
 rw[a5]at hE
 have ae:(q.map λ(k:Nat)=>(k:Int))[0]? =some (p0:Int):=by rw[im,ac];rfl
 have ag:(0:Int)<(q.length:Int):=ST
 try simp only[I,B,D,RY,↓KW,seval,e0,ae,ag,c7,aC,aT,mt,E]
 try(refine⟨ST,?_⟩;try simp only[I,B,D,RY,↓KW,seval,e0,ae,ag,c7,aC,aT,mt,E])
 refine af (hW t p0 ht) ?_;try simp only[I,B,D,RY,↓KW,seval,dS,aT,mt,E]
 obtain⟨b0,ab⟩:∃b,(⟨(az t p0).1.group,-1,-1,false⟩:ff)=b:=⟨_,rfl⟩
 have a6:[I (az t p0).1.group,I (-1),I (-1),B false]=b0.cells:=by rw[<-ab];rfl
 have a4:=a6.symm
 simp only[I,B]at a4
 rw[show(az t (match some p0 with|some p=>(p:Int)|none=>-1)).1.group=(az t p0).1.group from rfl,ab]at hE
 refine aD (λj:Nat=>(⟨[(34,.dat (I j) none),(33,.dat (I q.length) none),(32,.dat (aI aC (dJ (q.map λ(k:Nat)=>(k:Int)))) none),(2,.ptr 4 0),(5,.ptr 8 0),(4,.ptr 5 0)],[(4,⟨t.cells,[]⟩),(5,⟨[.int .i64 0,.int .i64 0,.int .i64 0,.bool false],[]⟩),(8,⟨((q.take j).foldl (LV t) b0).cells,[]⟩)],[],400⟩:S)) (λj=>q.length-j) (λj=>j<=q.length) ?_ 0 ST ?_
 rotate_left
 ·refine ai Ts ?_ ?_ ?_ ?_<;>simp[LX,I,B,D,ab]
 intro j hj A back
 have V:=aA (k:=j) ST
 try simp only[I,B,D,RY,↓KW,seval]
 rcases bc (decide ((j:Int)<(q.length:Int)))with g1|g1
 ·have:j=q.length:=by have:=dE g1;omega
  subst this;rw[gn,<-hE];try simp only[I,B,D,RY,↓KW,seval,g1,E]
 have g2:j<q.length:=by have:=dC g1;omega
 obtain⟨p,aa⟩:∃p,q[j]? =some p:=⟨_,dT g2⟩
 have hx:(q.map λ(k:Nat)=>(k:Int))[j]? =some (p:Int):=by rw[im,aa];rfl
 have a7:=h8 p (em aa)
 have O:=jU (f:=LV t) (b:=b0) aa
 clear hE;generalize(q.take j).foldl (LV t) b0=x at*
 have hP:LV t x p=if(az t p).2&&((az t p).1.group==x.group&&decide (x.at (az t p).1.ring<0))then x.put (az t p).1.ring (az t p).1.pos else x:=rfl
 rw[hP]at O;clear hP
 have ak:=i4 (t:=t) (q:=p)
 have hy:(0<=(j:Int)/\(j:Int)<(q.length:Int))/\(0<=(p:Int)/\(p:Int)<8):=ST
 try simp only[I,B,D,RY,↓KW,seval,g1,hx,hy,c7,aC,aT,mt,E]
 refine af (hW t p ht) ?_;generalize(az t p).2=ok at*;generalize(az t p).1=w at*;try simp only[I,B,D,RY,↓KW,seval,E]
 rcases bc ok with M|M
 ·rw[M]at O
  try simp only[I,B,D,RY,↓KW,seval,M,E]
  refine back (j+1) _ ST ST ?_
  refine ai Ts ?_ ?_ ?_ ?_<;>simp[LX,I,B,D,V,O]
 have a8:=ak M
 have L:x.cells[1+w.ring.toNat]? =some (I (x.at w.ring)):=by
  have:w.ring=0\/w.ring=1:=ST
  rcases this with e|e<;>rw[e]<;>rfl
 obtain⟨k,hk⟩:∃k:Nat,w.ring=k:=⟨w.ring.toNat,ST⟩
 have ad:=x.Fa (k:=k) ST w.pos
 rw[hk]at L O
 have L:x.cells[1+k]? =some (I (x.at k)):=L
 have R:0<=(k:Int)/\(k:Int)<2:=ST
 rcases bc (w.group==x.group)with h2|h2
 ·rw[M,h2]at O
  try simp only[I,B,D,RY,↓KW,seval,M,h2,R,L,hk,E]
  refine back (j+1) _ ST ST ?_
  refine ai Ts ?_ ?_ ?_ ?_<;>simp[LX,I,B,D,V,O]
 rcases bc (decide (x.at k<0))with h3|h3
 ·rw[M,h2,h3]at O
  try simp only[I,B,D,RY,↓KW,seval,M,h2,h3,R,L,hk,E]
  try try simp only[I,B,D,RY,↓KW,seval,h3]
  refine back (j+1) _ ST ST ?_
  refine ai Ts ?_ ?_ ?_ ?_<;>simp[LX,I,B,D,V,O]
 ·rw[M,h2,h3]at O
  try simp only[I,B,D,RY,↓KW,seval,M,h2,h3,R,L,hk,ad,E]
  try try simp only[I,B,D,RY,↓KW,seval,h3,R,L,hk,ad,E]
  try refine⟨ST,?_⟩
  refine back (j+1) _ ST ST ?_
  refine ai Ts ?_ ?_ ?_ ?_<;>simp[LX,I,B,D,V,O]
end
section
variable (t:Tb) (r:ff) (l:List Rn) (want:Int)
theorem G1(s p:Int):Can (bJ s p):=EL (sq ⟨Ts,Ts⟩) (Kz p)
theorem ZI{a b:Int} (B:Can a) (L:Can b):(rP .i64 a b==0)=(a==0&&b==0):=by
 rw[np,ed,kb,kb,kb];constructor
 ·intro h
  have A:∀i,tb a i=false/\tb b i=false:=λi=>by
   have:=Cy a b i
   rw[h,dr]at this
   cases E:tb a i<;>cases D:tb b i<;>simp[E,D]at this⊢
  exact⟨iM B qM λi _=>by rw[(A i).1,dr],iM L qM λi _=>by rw[(A i).2,dr]⟩
 ·rintro⟨rfl,rfl⟩
  exact iM (EL qM qM) qM λi _=>by rw[Cy,dr];rfl
theorem Su(w g:Int):decide (uT (aJ .i64 w g)>=0)=(aJ .i64 (bK .i64 w 255) g !=0):=by
 have L:(uT (aJ .i64 w g)>=0)↔d6 (aJ .i64 w g)≠[]:=by
  unfold uT
  cases h:d6 (aJ .i64 w g)with
  |nil=>simp
  |cons x l=>simp
 rw[np,decide_eq_true_iff,L,bne_iff_ne];refine not_congr ?_;rw[Cx];constructor
 ·intro h i M
  rw[jK,iX]
  by_cases A:i<8
  ·cases B:tb w i&& !tb g i
   ·revert B;cases tb w i<;>cases tb g i<;>simp
   ·have:=zL (s:=aJ .i64 w g) A (by rw[gX _ _ _ M];exact B)
    rw[h]at this;cases this
  ·simp[A]
 ·intro h
  cases B:d6 (aJ .i64 w g)with
  |nil=>rfl
  |cons x l=>
   have E:x∈d6 (aJ .i64 w g):=by rw[B];exact lr
   have A:=jd E
   have D:=oY E
   rw[gX _ _ _ ST]at D
   have:=h x ST
   rw[jK,iX,na A,pA]at this;rw[this]at D;cases D
theorem Sv:(yL l !=255)=!((List.range 8).all λp=>de (aE l p)):=by
 rw[np,bne_iff_ne,nb,<-xi];refine not_congr ?_;rw[lj];constructor
 ·intro h p A
  have A:=fp.1 A
  have D:tb (yL l) p=de (aE l p):=by unfold yL;rw[mN];simp[A]
  rw[<-D,h,iX];simp[A]
 ·intro h
  refine iM (zQ _) ⟨Ts,Ts⟩ λi B=>?_
  unfold yL;rw[mN,iX,h i (fp.2 B)];simp[B]
def C2(t:Tb) (r:ff) (l:List Rn) (want:Int):Nat->Bool
 |0=>true
 |k+1=>C2 t r l want k&&mB t r l want k
theorem G2(k:Int) (x:ff×Int×Int) (h:Can x.2.1/\Can x.2.2):Can (mA t r l want k x).2.1/\Can (mA t r l want k x).2.2:=by
 unfold mA;split
 ·split
  ·exact⟨h.1,G1 _ _⟩
  ·exact h
 ·split
  ·split
   ·exact⟨G1 _ _,h.2⟩
   ·exact h
  ·exact h
theorem O9:Can (f7 t r l want).2.1/\Can (f7 t r l want).2.2:=G2 _ _ _ _ _ _ (G2 _ _ _ _ _ _ ⟨qM,qM⟩)
theorem ZJ:LS t r l want (f7 t r l want)=((f7 t r l want).2.1==0&&(f7 t r l want).2.2==0&&C2 t r l want 2&&aJ .i64 (bK .i64 want 255) (ef l) !=0):=by
 have h:=O9 t r l want
 unfold LS;rw[ZI h.1 h.2,Su]
 show _=((f7 t r l want).2.1==0&&(f7 t r l want).2.2==0&&((true&&mB t r l want ((0:Nat):Int))&&mB t r l want ((1:Nat):Int))&&aJ .i64 (bK .i64 want 255) (ef l) !=0)
 rw[kt]
 show _=((f7 t r l want).2.1==0&&(f7 t r l want).2.2==0&&(mB t r l want 0&&mB t r l want 1)&&aJ .i64 (bK .i64 want 255) (ef l) !=0)
 cases((f7 t r l want).2.1==0&&(f7 t r l want).2.2==0)<;>cases mB t r l want 0<;>cases mB t r l want 1<;>rfl
theorem VX{k:Nat} {n:Int} (hk:k<2) (V:sw t r want k=n) (h0:0<=n):
  ∃(g i:Nat) (D:Gr),r.group=g/\n=i/\(t.groups.getD [])[g]? =some D/\((D.row k).getD [])[i]? =some (nh t r.group k n)/\0<=nh t r.group k n/\nh t r.group k n<8:=by
 have L:=GP (t:=t) (r:=r) (k:=k) (want:=want) (by rw[V];exact h0) ST
 rw[V]at L
 have A:=L
 unfold nh at A;split at A
 ·omega
 rename_i O;split at A
 ·omega
 rename_i Z
 have B:eM t r.group k=((t.groups.getD []).getD r.group.toNat default).row k:=ek O
 obtain⟨D,E⟩:∃x,(t.groups.getD [])[r.group.toNat]? =some x:=⟨_,dT ST⟩
 have M:(t.groups.getD []).getD r.group.toNat default=D:=by rw[eh,E];rfl
 rw[M]at B
 refine⟨r.group.toNat,n.toNat,D,ST,ST,E,?_,L.1,L.2⟩
 rw[<-B];unfold nh;rw[ek O,ek Z]
 obtain⟨x,R⟩:∃x,((eM t r.group k).getD [])[n.toNat]? =some x:=⟨_,dT ST⟩
 have hd:((eM t r.group k).getD []).getD n.toNat 0=x:=by rw[eh,R];rfl
 rw[hd]at A⊢;split at A
 ·rename_i hv
  rw[et hv];exact R
 ·omega
end
section
variable{P:Program} (hm:P.follows .mixedOrders=true) {f:Nat}
include hm
theorem Sw.ok{fG fR fF fN fX fD fH fE fW fM:Nat} (hc:bu P f=some (vq fG fR fF fN fX fD fH fE fW fM)) (hG:jF.Spec (Pure P) fG) (hR:vl.Spec (Pure P) fR) (hF:CS.Spec (Pure P) fF) (hN:CT.Spec (Pure P) fN) (hX:uU.Spec (Pure P) fX)
  (hD:C0.Spec (Pure P) fD) (hH:jm.Spec (Pure P) fH) (hE:vK.Spec (Pure P) fE) (hW:fJ.Spec (Pure P) fW) (hM:Ai.Spec (Pure P) fM):uZ.Spec (Pure P) f:=by
 intro t r l want ht hl
 have hW:=gH hW
 have hH:=mF hH
 have hw:=bQ hl
 have bj:=c8 hl
 have bm:=Tb.len ht
 have hp:=Tb.whole ht
 have a9:=Tb.jT ht
 have hr:r.cells.length=4/\aF r.cells 0 (some 4)=some (.agg r.cells)/\r.cells[0]? =some (I r.group)/\r.cells[3]? =some (B r.iD):=⟨rfl,rfl,rfl,rfl⟩
 have bo:∀x:ff,setCells [.int .i64 0,.int .i64 0,.int .i64 0,.bool false] 0 x.cells=x.cells:=λ_=>rfl
 have bd:∀x:ff,x.cells.length=4/\aF x.cells 0 (some 4)=some (.agg x.cells):=λ_=>⟨rfl,rfl⟩
 have ba:∀n:Int,nG [.int .i64 0,.int .i64 0,.int .i64 0,.bool false] [(0,[I n]),(1,[I (-1),I (-1)])]=(⟨n,-1,-1,false⟩:ff).cells:=λ_=>rfl
 have cG:=hG l hl
 rw[Dr]at cG
 have cR:=hR l hl
 have ae:=Sv l
 have b0:∀q:Nat,q<8->bD (ef l) q=dX (aE l q):=λq h=>by
  rw[kz h];unfold ef;rw[mN];simp[h]
 have M:=cB hw (cB bj (cB bm (cB hp (cB hr (cB bo (cB bd (ba)))))))
 refine aj hm hc [] rfl ?_;try simp only[I,B,D,RY,↓KW,seval,vq,Z.H,M]
 refine af cG ?_;try simp only[I,B,D,RY,↓KW,seval,M]
 rcases bc r.iD with ak|ak
 rotate_left
 ·have E:CV t r l want=(OS t r l want,0,0):=by rw[CV,ak];rfl
  rw[E];try simp only[I,B,D,RY,↓KW,seval,ak,M]
  refine af cR ?_
  rcases bc (yL l !=255)with h1|h1
  rotate_left
  ·have ha:((List.range 8).all λp=>de (aE l p))=false:=by rw[h1]at ae;revert ae;cases((List.range 8).all λp=>de (aE l p))<;>simp
   have ao:OS t r l want=r:=by unfold OS;rw[ha];rfl
   rw[ao];try simp only[I,B,D,RY,↓KW,seval,h1,M]
  have ha:((List.range 8).all λp=>de (aE l p))=true:=by rw[h1]at ae;revert ae;cases((List.range 8).all λp=>de (aE l p))<;>simp
  have ao:OS t r l want=⟨if Rx t r.group want>=0 then Rx t r.group want else r.group,-1,-1,false⟩:=by unfold OS;rw[ha];rfl
  rw[ao];clear ao;try simp only[I,B,D,RY,↓KW,seval,h1,M]
  refine af (hF t r.group want ht) ?_;generalize Rx t r.group want=fw at*
  rcases bc (decide (fw<0))with V|V
  ·have h3:=dE V
   rw[et ST]
   try simp only[I,B,D,RY,↓KW,seval,V,M]
  ·have h3:=dC V
   rw[ek ST]
   try simp only[I,B,D,RY,↓KW,seval,V,M]
 have E:CV t r l want=if LS t r l want (f7 t r l want)then({(f7 t r l want).1 with iD:=true},(f7 t r l want).2.1,ef l)else f7 t r l want:=by rw[CV,ak];rfl
 rw[ZJ]at E;generalize CV t r l want=res at*;try simp only[I,B,D,RY,↓KW,seval,ak,M]
 clear cR ae ba
 refine aD (λk:Nat=>(⟨[(17,.dat (I k) none),(4,.ptr 4 0),(5,.ptr 5 0),(3,.dat (I want) none),(6,.ptr 6 0),(11,.dat (I (ef l)) none),(15,.dat (I (yI t r l want k).2.2) none),(16,.dat (B (C2 t r l want k)) none),(13,.ptr 16 0),(14,.dat (I (yI t r l want k).2.1) none),(8,.ptr 7 0)],[(4,⟨t.cells,[]⟩),(5,⟨r.cells,[]⟩),(6,⟨aQ l,[]⟩),(7,⟨[.int .i64 0,.int .i64 0,.int .i64 0,.bool false],[]⟩),(16,⟨(yI t r l want k).1.cells,[]⟩)],[],400⟩:S)) (λk=>2-k) (λk=>k<=2) ?_ 0 ST ?_
 rotate_left
 ·refine ai Ts ?_ ?_ ?_ ?_<;>simp[LX,I,B,D,yI,C2]
 intro k hk A back
 have aa:=aA (k:=k) ST
 obtain⟨x,hx⟩:∃x,yI t r l want k=x:=⟨_,rfl⟩
 obtain⟨st,an⟩:∃x,C2 t r l want k=x:=⟨_,rfl⟩
 have O:yI t r l want (k+1)=mA t r l want k x:=by rw[yI,hx]
 have R:C2 t r l want (k+1)=(st&&mB t r l want k):=by rw[C2,an]
 rw[hx,an];try simp only[I,B,D,RY,↓KW,seval]
 rcases bc (decide ((k:Int)<2))with h|h
 ·have bi:k=2:=by have:=dE h;omega
  subst bi
  have a6:f7 t r l want=x:=hx
  have a8:setCells x.1.cells 3 [B true]=({x.1 with iD:=true}:ff).cells:=rfl
  rw[a6,an]at E;clear hx O R an a6 back
  rcases bc (x.2.1==0)with h1|h1
  ·rw[h1]at E
   try simp only[I,B,D,RY,↓KW,seval,h,h1,M]
   try try simp only[I,B,D,RY,↓KW,seval,h1,M]
   rw[E]
   try rfl
  rcases bc (x.2.2==0)with V|V
  ·rw[h1,V]at E
   try simp only[I,B,D,RY,↓KW,seval,h,h1,V,M]
   try try simp only[I,B,D,RY,↓KW,seval,h1,V,M]
   rw[E]
   try rfl
  rcases bc st with h3|h3
  ·rw[h1,V,h3]at E
   try simp only[I,B,D,RY,↓KW,seval,h,h1,V,h3,M]
   try try simp only[I,B,D,RY,↓KW,seval,h1,V,h3,M]
   rw[E]
   try rfl
  rcases bc (aJ .i64 (bK .i64 want 255) (ef l) !=0)with h4|h4
  ·rw[h1,V,h3,h4]at E
   try simp only[I,B,D,RY,↓KW,seval,h,h1,V,h3,h4,M]
   try try simp only[I,B,D,RY,↓KW,seval,h4,M]
   rw[E]
   try rfl
  ·rw[h1,V,h3,h4]at E
   try simp only[I,B,D,RY,↓KW,seval,h,h1,V,h3,h4,a8,M]
   try try simp only[I,B,D,RY,↓KW,seval,h4,a8,M]
   rw[E]
   try rfl
 have V:k<2:=by have:=dC h;omega
 have hy:0<=(k:Int)/\(k:Int)<2:=ST
 have be:r.cells[1+k]? =some (I (r.at k)):=by
  have:k=0\/k=1:=ST
  rcases this with rfl|rfl<;>rfl
 have b2:=Ii (t:=t) (r:=r) (k:=k)
 have hcell:=λn O h0=>VX t r want (k:=k) (n:=n) V O h0
 have cN:=hN t r k ht
 have cX:=hX t r.group k (r.at k) want ht
 rw[show SY t r.group k (r.at k) want=sw t r want k from rfl]at cX
 have hb:A9 t r l k=(decide (kK t r k>=0)&& !de (aE l (kK t r k).toNat)):=rfl
 have ar:mA t r l want k x=if A9 t r l k then(if Ap t r l want k then(x.1,x.2.1,bJ x.2.2 (kK t r k))else x)
   else if sw t r want k>=0 then(if gm t l (nh t r.group k (sw t r want k)).toNat then(x.1.put k (sw t r want k),bJ x.2.1 (nh t r.group k (sw t r want k)),x.2.2)else x)else x:=rfl
 have a7:mB t r l want k=(decide (sw t r want k<0)&&(!A9 t r l k||(dX (aE l (kK t r k).toNat)&&(aE l (kK t r k).toNat).done))):=rfl
 have ab:Ap t r l want k=((aE l (kK t r k).toNat).aH==1&&(((aE l (kK t r k).toNat).done&&decide (sw t r want k>=0))||(BD (aO t (kK t r k)) (aE l (kK t r k).toNat)&& !bD want (kK t r k)))):=rfl
 rw[ar]at O;rw[a7]at R;clear ar a7 E;generalize Ap t r l want k=en at*;generalize A9 t r l k=bs at*;generalize sw t r want k=n at*;generalize kK t r k=w at*
 have hcell:=hcell n rfl
 have L:=cB hy (cB be (M))
 try simp only[I,B,D,RY,↓KW,seval,h,L]
 refine af cN ?_;try simp only[I,B,D,RY,↓KW,seval,L]
 refine af cX ?_;try simp only[I,B,D,RY,↓KW,seval,L]
 rcases bc (decide (w>=0))with h3|h3
 ·have ad:bs=false:=by rw[hb,h3];rfl
  rw[ad]at O R
  rcases bc (decide (n>=0))with h5|h5
  ·have h6:=dE h5
   rw[ek Ts,ek h6]at O
   rw[na (show n<0 by omega)]at R
   try simp only[I,B,D,RY,↓KW,seval,h3,h5,L]
   refine back (k+1) _ ST ST ?_
   refine ai Ts ?_ ?_ ?_ ?_<;>simp[LX,I,B,D,aa,O,R]
  ·have h6:=dC h5
   rw[ek Ts,et h6]at O
   rw[kd (show ¬n<0 by omega)]at R
   obtain⟨g,i,gr,e1,rfl,e3,e4,e5,e6⟩:=hcell h6
   obtain⟨c,a4⟩:∃c:Nat,nh t r.group k i=c:=⟨(nh t r.group k i).toNat,ST⟩
   rw[a4]at e4 O e5 e6
   have al:(gr.cells.drop k)[0]? =some (aI aC (gr.row k)):=by
    have:k=0\/k=1:=ST
    rcases this with rfl|rfl<;>rfl
   have a2:gr.cells.length=2/\gr.cells.take 2=gr.cells:=⟨rfl,rfl⟩
   have a5:0<=(g:Int)/\(g:Int)<((t.groups.getD []).length:Int):=by have:=(er.1 e3).1;omega
   have au:0<=(i:Int)/\(i:Int)<(((gr.row k).getD []).length:Int):=by have:=(er.1 e4).1;omega
   have ag:=x.1.Fa V i
   try simp only[I,B,D,RY,↓KW,seval,h3,h5,a9,e1,e3,a2,a5,au,al,e4,aC,L]
   refine af (hM t l c ht hl ST) ?_
   rcases bc (gm t l c)with h8|h8
   ·rw[ix,h8,ek Ts]at O
    try simp only[I,B,D,RY,↓KW,seval,h8,L]
    refine back (k+1) _ ST ST ?_
    refine ai Ts ?_ ?_ ?_ ?_<;>simp[LX,I,B,D,aa,O,R]
   ·rw[ix,h8,et rfl]at O
    try simp only[I,B,D,RY,↓KW,seval,h8,ag,L]
    refine⟨ST,af (hW _ _) ?_⟩
    try simp only[I,B,D,RY,↓KW,seval,ag,L]
    refine back (k+1) _ ST ST ?_
    refine ai Ts ?_ ?_ ?_ ?_<;>simp[LX,I,B,D,aa,O,R]
 have b1:=dC h3
 obtain⟨q,rfl⟩:∃q:Nat,w=q:=⟨w.toNat,ST⟩
 have am:0<=(q:Int)/\(q:Int)<8:=ST
 have a3:aF (aQ l) (q*12) (some 12)=some (.agg (aE l q).cells):=gl hl ST
 have ac:(aQ l)[q*12+7]? =some (B (aE l q).done):=by rw[jD a3 ST];rfl
 replace hb:bs=(decide ((q:Int)>=0)&& !de (aE l q)):=hb
 replace ab:en=(dX (aE l q)&&(((aE l q).done&&decide (n>=0))||(BD (aO t q) (aE l q)&& !bD want q))):=ab
 replace R:C2 t r l want (k+1)=(st&&(decide (n<0)&&(!bs||(dX (aE l q)&&(aE l q).done)))):=R
 have cH:=hH (ef l) q
 rw[b0 q ST]at cH
 have cE:=hE t (aE l q) q want ht ST
 have d5:decide (n<0)=!decide (n>=0):=by
  by_cases h0:n<0
  ·rw[na h0,kd ST];rfl
  ·rw[kd h0,na ST];rfl
 try simp only[I,B,D,RY,↓KW,seval,h3,am,a3,L]
 refine af (hD (aE l q)) ?_
 rcases bc (de (aE l q))with h4|h4
 rotate_left
 ·have ad:bs=false:=by rw[hb,h3,h4];rfl
  rw[ad]at O R
  rcases bc (decide (n>=0))with h5|h5
  ·have h6:=dE h5
   rw[ek Ts,ek h6]at O
   rw[na (show n<0 by omega)]at R
   try simp only[I,B,D,RY,↓KW,seval,h4,gs,h5,L]
   refine back (k+1) _ ST ST ?_
   refine ai Ts ?_ ?_ ?_ ?_<;>simp[LX,I,B,D,aa,O,R]
  ·have h6:=dC h5
   rw[ek Ts,et h6]at O
   rw[kd (show ¬n<0 by omega)]at R
   obtain⟨g,i,gr,e1,rfl,e3,e4,e5,e6⟩:=hcell h6
   obtain⟨c,a4⟩:∃c:Nat,nh t r.group k i=c:=⟨(nh t r.group k i).toNat,ST⟩
   rw[a4]at e4 O e5 e6
   have al:(gr.cells.drop k)[0]? =some (aI aC (gr.row k)):=by
    have:k=0\/k=1:=ST
    rcases this with rfl|rfl<;>rfl
   have a2:gr.cells.length=2/\gr.cells.take 2=gr.cells:=⟨rfl,rfl⟩
   have a5:0<=(g:Int)/\(g:Int)<((t.groups.getD []).length:Int):=by have:=(er.1 e3).1;omega
   have au:0<=(i:Int)/\(i:Int)<(((gr.row k).getD []).length:Int):=by have:=(er.1 e4).1;omega
   have ag:=x.1.Fa V i
   try simp only[I,B,D,RY,↓KW,seval,h4,gs,h5,a9,e1,e3,a2,a5,au,al,e4,aC,L]
   refine af (hM t l c ht hl ST) ?_
   rcases bc (gm t l c)with h8|h8
   ·rw[ix,h8,ek Ts]at O
    try simp only[I,B,D,RY,↓KW,seval,h8,L]
    refine back (k+1) _ ST ST ?_
    refine ai Ts ?_ ?_ ?_ ?_<;>simp[LX,I,B,D,aa,O,R]
   ·rw[ix,h8,et rfl]at O
    try simp only[I,B,D,RY,↓KW,seval,h8,ag,L]
    refine⟨ST,af (hW _ _) ?_⟩
    try simp only[I,B,D,RY,↓KW,seval,ag,L]
    refine back (k+1) _ ST ST ?_
    refine ai Ts ?_ ?_ ?_ ?_<;>simp[LX,I,B,D,aa,O,R]
 have ad:bs=true:=by rw[hb,h3,h4];rfl
 rw[ad]at O R;rw[et rfl]at O;try simp only[I,B,D,RY,↓KW,seval,h4,fx,L]
 refine af cH ?_
 rcases bc (dX (aE l q))with h6|h6
 ·rw[h6]at ab R
  rw[ab]at O;try simp only[I,B,D,RY,↓KW,seval,h6,L]
  refine back (k+1) _ ST ST ?_
  refine ai Ts ?_ ?_ ?_ ?_<;>simp[LX,I,B,D,aa,O,R]
 rw[h6]at ab R;rw[d5]at R
 rcases bc (aE l q).done with d1|d1<;>rcases bc (decide (n>=0))with d2|d2<;>rcases bc (BD (aO t q) (aE l q)&& !bD want q)with d3|d3<;>rcases bc st with d4|d4
 all_goals
  rw[d1,d2,d3]at ab;rw[d1,d2,d4]at R;rw[d2]at d5;rw[ab]at O;rw[d1]at ac;rw[d3]at cE;try simp only[I,B,D,RY,↓KW,seval,h6,d2,d4,d5,gs,fx,am,a3,ac,L]
  try(refine af cE ?_;try simp only[I,B,D,RY,↓KW,seval,d2,d4,d5,gs,fx,am,ac,L])
  try(refine af (hW _ _) ?_;try simp only[I,B,D,RY,↓KW,seval,d2,d4,d5,gs,fx,am,ac,L])
  refine back (k+1) _ ST ST ?_
  refine ai Ts ?_ ?_ ?_ ?_<;>simp[LX,I,B,D,aa,O,R]
end
section
variable (t:Tb) (s:Pr) (l:List Rn) (x:Int)
theorem FE(p:Nat):tb (ez l 8) p=(decide (p<8)&&dX (aE l p)):=by rw[BO];exact mN _ p
theorem KA(least:Int):kH (aJ .i64 (ez l 8) x) (AN l least (aR t s).dZ)=kH (aJ .i64 255 x) λp=>OO t s least (aE l p):=by
 refine wg λi A=>?_
 rw[gX _ _ _ ST,gX _ _ _ ST,FE,iX]
 unfold AN OO;simp only[A,xr,kt]
 cases dX (aE l i)<;>cases tb x i<;>simp
theorem FF:(A8 λp=>nw (aE l p)&& !bD x p)=kH (aJ .i64 255 x) λp=>nw (aE l p):=by
 refine wg λi A=>?_
 rw[gX _ _ _ ST,iX,kz A]
 simp only[A,xr,kt];exact Bool.and_comm _ _
theorem VY(h:∀p,p<8->0<=(aE l p).time):kH (aJ .i64 (ez l 8) x) (AN l 0 (aR t s).dZ)=kH (aJ .i64 255 x) λp=>OP t s (aE l p):=by
 refine wg λi A=>?_
 rw[gX _ _ _ ST,gX _ _ _ ST,FE,iX]
 unfold AN OP;simp only[A,xr,kt,na (show(aE l i).time>=0 from h i A)]
 cases dX (aE l i)<;>cases tb x i<;>simp
theorem Sx:kH (aJ .i64 (ez l 8) x) (GX t l)=kH (aJ .i64 255 x) λp=>Wx t p (aE l p):=by
 refine wg λi A=>?_
 rw[gX _ _ _ ST,gX _ _ _ ST,FE,iX]
 unfold GX Wx dQ;simp only[A,xr,kt]
 cases dX (aE l i)<;>cases tb x i<;>simp
theorem Sy:bK .i64 (bK .i64 x 255) (yL l)=kH x λp=>de (aE l p):=by
 unfold yL
 refine Ia (sq (zQ _)) λi A=>?_
 rw[jK,jK,iX,mN];simp[A]
theorem VZ{t:Tb} {s:Pr} {lines:Int} {l:List Rn} (h:O6 t (bG t s lines)) (hl:∀p,p<8->0<=(aE l p).time) (A:∀v:Pr,Can (aR t v).clear):i5 t s lines l=(ni t s lines l,xR t s lines l):=by
 have e1:i5 t s lines l=ji t (BG (bG t s lines)) l:=rfl
 have e2:BG (bG t s lines)=bG t s lines:=by unfold BG;rw[ek (by have:=h.Zz;omega)]
 have e3:(bG t s lines).time=s.time:=rfl
 rw[e1,e2];unfold ni xR
 have aa:(ni t s lines l).aq=(gP t (bG t s lines) l).1.aq:=rfl
 rw[aa];unfold ni;rw[<-e3];generalize bG t s lines=w at*;unfold ji gP
 by_cases ht:cQ t w=true
 ·simp only[ht,kh,ti]
  refine Hd rfl ?_;simp only[ev,ib]
  rw[ek Ts]
  unfold FC;rw[et rfl];unfold kI ET;rw[It (A _),FF];simp only[KA]
 simp only[ht,ev,ib]
 by_cases B:w.aq=0
 ·have hT:ay t w l=(0,w):=by unfold ay;rw[et B]
  rw[et B,ek (λhh=>absurd (B.symm.trans hh.1) Ts),hT]
  simp only[B,ev,ib,kh];unfold gR lq kZ;simp[B]
 rw[ek B]
 by_cases D:w.aq=5/\(ay t w l).1=0
 ·have hT:(ay t w l).2=w:=by unfold ay;simp[D.1]
  rw[et D,et D,hT];refine Hd rfl ?_;simp only[kh];unfold jh;rw[Sy]
 rw[ek D,ek D]
 have E:(ay t w l).1≠0:=by
  intro L
  have hr:=h.Zz
  have:w.aq=1\/w.aq=2\/w.aq=3\/w.aq=4:=by
   by_cases e5:w.aq=5
   ·exact absurd ⟨e5,L⟩ D
   ·omega
  unfold ay jG kJ gZ d9 at L
  rcases this with e|e|e|e<;>simp only[e]at L<;>revert L<;>(repeat' split)<;>simp_all
 have Z:(ay t w l).2.time=w.time:=by
  unfold ay d9 dD
  repeat' split
  all_goals rfl
 generalize hv:(ay t w l).2=v at*;generalize hn:(ay t w l).1=n at*
 have hT:kZ t {v with aq:=n} l (n !=w.aq)=(if(n !=w.aq)||n==0 then 0 else if Is t {v with aq:=n} l then bz w.time else v.time):=by
  unfold kZ Is
  show(if(n !=w.aq||n==0)=true then(0:Int)else if(n==2&& !qP l (aR t {v with aq:=n}).clear||n==4&& !qP l (aR t {v with aq:=n}).ep)=true then v.time else bz v.time)=_
  rw[<-Z];split
  ·rfl
  rcases bc (n==2)with a|a<;>rcases bc (n==4)with b|b<;>rcases bc (qP l (aR t {v with aq:=n}).clear)with c|c<;>rcases bc (qP l (aR t {v with aq:=n}).ep)with d|d
  all_goals first|(simp[a,b,c,d];done)|(exfalso;have h1:=kb.1 a;have h2:=kb.1 b;omega)
 simp only[ev,ib];rw[ek E];unfold gR;rw[hT];refine Hd rfl ?_
 generalize(if(n !=w.aq||n==0)=true then(0:Int)else if Is t {v with aq:=n} l=true then bz w.time else v.time)=tm
 show lq t {v with aq:=n,time:=tm} l n=FC t {v with aq:=n,time:=tm} l
 unfold lq FC;rw[ek E]
 by_cases R:n=1
 ·subst R
  simp only[kh];unfold kI ET;rw[It (A _),FF];simp only[KA]
 rw[ek R,ek R]
 by_cases V:n=2
 ·subst V
  rfl
 by_cases M:n=3
 ·subst M
  rw[ek Ts,et rfl,et rfl]
  unfold EU ET;rw[FF];simp only[VY _ _ _ _ hl]
 by_cases O:n=4
 ·subst O
  rfl
 rw[ek V,ek M,ek O,ek M,ek V,ek O];unfold LO;rw[Sx]
structure St8 (t:Tb) (s:bt) (x:Fg):Prop where
 ra:O6 t (bG t s.pre x.lines)
 tm:∀p,p<8->0<=(aE s.runs p).time
 cl:∀v:Pr,Can (aR t v).clear
 ph:∀p:Nat,p<8->VF (aO t p)
theorem KB:(FC t s l).free=false/\(FC t s l).back=false:=by
 unfold FC;dsimp only
 repeat' split
 all_goals exact⟨rfl,rfl⟩
theorem KC(n:Int) (l:List Rn):xR t s n l=if(gP t (bG t s n) l).2.2 then⟨bK .i64 (bK .i64 (aR t (bG t s n)).exit 255) (yL l),0,0,false,true⟩else if(ni t s n l).aq=0 then⟨0,0,0,true,false⟩else FC t (ni t s n l) l:=rfl
end
section
variable {l:List Rn} {n:Int} {s:Pr} {t:Tb}
theorem Mh(h:(xR t s n l).free=true):(xR t s n l).cut=0:=by
 rw[KC]at h⊢
 by_cases A:(gP t (bG t s n) l).2.2=true
 ·rw[et A]
 ·rw[ek A]at h⊢
  by_cases B:(ni t s n l).aq=0
  ·rw[et B]
  ·rw[ek B]at h
   rw[(KB ..).1]at h;cases h
theorem Mi(O:O6 t (bG t s n)) (h:(xR t s n l).back=true):∃(k:Nat) (r:Rl),s.which=k/\(t.aV.getD [])[k]? =some r/\r.exit=OV t s.which:=by
 have R:(gP t (bG t s n) l).2.2=true:=by
  by_cases D:(gP t (bG t s n) l).2.2=true
  ·exact D
  ·exfalso
   rw[KC,ek D]at h
   by_cases B:(ni t s n l).aq=0
   ·rw[et B]at h;cases h
   ·rw[ek B,(KB ..).2]at h;cases h
 have V:(bG t s n).aq=5:=by
  revert R;unfold gP
  by_cases a1:cQ t (bG t s n)=true
  ·rw[et a1];intro h;cases h
  by_cases A:(bG t s n).aq=0
  ·rw[ek a1,et A];intro h;cases h
  by_cases E:(bG t s n).aq=5/\(ay t (bG t s n) l).1=0
  ·intro _;exact E.1
  ·rw[ek a1,ek A,ek E];intro h;cases h
 have M:=O.which ST
 have e:(bG t s n).which=s.which:=rfl
 rw[e]at M
 obtain⟨r,L⟩:∃r,(t.aV.getD [])[s.which.toNat]? =some r:=⟨_,dT ST⟩
 refine⟨s.which.toNat,r,ST,L,?_⟩
 unfold OV LK
 rw[ek ST,eh,L];rfl
end
section
variable (t:Tb) (s:bt) (c:Nat->Cu) (k:Nat)
def AY:bt:=⟨List.replicate 8 default,⟨0,0,0,false⟩,⟨[0,0,0,0],0,0⟩,⟨0,0,0,[0,0,0,0],0⟩,⟨0,0⟩,none⟩
theorem NA:AY.Ok:=⟨rfl,rfl,rfl⟩
def Sz:List Rn:=(List.range 8).map λp=>if p<k then dz (aO t p) (s.rn p) (c p)else default
theorem SA{t:Tb} {s:bt} {c:Nat->Cu} {k:Nat} (hk:k<8):(Sz t s c k).set k (dz (aO t k) (s.rn k) (c k))=Sz t s c (k+1):=by
 have:k=0\/k=1\/k=2\/k=3\/k=4\/k=5\/k=6\/k=7:=ST
 rcases this with rfl|rfl|rfl|rfl|rfl|rfl|rfl|rfl<;>simp[Sz,io]
theorem V0:(Sz t s c k).length=8:=by simp[Sz]
theorem V1:Sz t s c 8=lu t s c 8:=by
 refine sh λp A=>?_
 have:=fp.1 A
 rw[et this,et this]
theorem SB{p:Ph} {r:Rn} {c:Cu} (h:c.hold=false):lM p r c=false:=by unfold lM;rw[h];simp
def AZ.Spec(C:aY) (f:Nat):Prop:=∀(t:Tb) (s:bt) (x:Fg),t.Ok->t.Fw->Zj t<=1000000->s.Ok->(s.fj.getD []).length<=1000000->(x.samples.getD []).length<=1000000->St8 t s x->C.c f [.agg t.cells,.agg s.cells,.agg x.cells] (.agg (Im t s x).cells) none
end
section
variable{P:Program} (hm:P.follows .mixedOrders=true) {f:Nat}
include hm
theorem AZ.ok{fD fE fH fG fK fC fW fP fR fS fO fA fU fB fY fZ fT:Nat} (hc:bu P f=some (xp fD fE fH fG fK fC fW fP fR fS fO fA fU fB fY fZ fT)) (hD:vg.Spec (Pure P) fD) (hE:vh.Spec (Pure P) fE) (hH:FY.Spec (Pure P) fH)
  (hG:jF.Spec (Pure P) fG) (hK:vH.Spec (Pure P) fK) (hC:Step.Spec (Pure P) fC) (hW:Want.Spec (Pure P) fW) (hP:AW.Spec (Pure P) fP) (hR:uZ.Spec (Pure P) fR) (hS:CW.Spec (Pure P) fS) (hO:JN.Spec (Pure P) fO) (hA:Early.Spec (Pure P) fA)
  (hU:CX.Spec (Pure P) fU) (hB:jm.Spec (Pure P) fB) (hY:AM.Spec (Pure P) fY) (hZ:AL.Spec (Pure P) fZ) (hT:uE.Spec (Pure P) fT):AZ.Spec (Pure P) f:=by
 intro t s x ht a9 ck M ca bi O
 have hB:=mF hB
 have ce:=Tb.len ht
 have hp:=Tb.whole ht
 have ba:bI.length=117/\bI=AY.cells:=⟨rfl,rfl⟩
 have q1:=bt.len M
 have q3:=bt.RI M
 have q4:=bt.OY M
 have q5:=bt.Vl M
 have q6:=bt.v9 M
 have q7:=bt.p96 M
 have q8:=bt.Zm M
 have qw:=bt.acN M
 have x1:x.cells[0]? =some (aI j4 x.samples)/\x.cells[1]? =some (I x.push)/\x.cells[2]? =some (I x.ask)/\x.cells[3]? =some (I x.lines):=⟨rfl,rfl,rfl,rfl⟩
 have hq:Il t s x=mU t (ga t ((tH t s x).getD []) (tj t ((tH t s x).getD []))):=rfl
 have an:Im t s x=⟨lu t s (Zk (F4 t s x) (Il t s x) (Kq t s x).dZ (ox t s x).2.free) 8,Au t s x,kC t s.iO x.ask (jj t s (Zk (F4 t s x) (Il t s x) (Kq t s x).dZ (ox t s x).2.free) 8) (BI s (ox t s x).2.free (Au t s x)),(ox t s x).1,Kq t s x,tH t s x⟩:=rfl
 have cD:=hD t s.fj x.samples ht a9 ca bi
 rw[show dJ (iE t (s.fj.getD []) (x.samples.getD []) (t.aL.getD []).length)=tH t s x from rfl]at cD
 have cp:((tH t s x).getD []).length<=1000000:=by
  rw[tH,aT];simp only[iE,mt,List.length_range];exact ck
 have cG:=hG s.runs M.runs
 rw[Dr]at cG
 have cK:=hK s.runs M.runs
 have cC:=hC t s.calls (Il t s x) x.push (grS s) (wkS s) ht
 rw[show Jr t s.calls (Il t s x) x.push (grS s) (wkS s)=Kq t s x from rfl,show grS s=ef s.runs from rfl,show wkS s=(A8 λp=>nw (aE s.runs p))from rfl]at cC
 have cW:=hW t (Kq t s x) (Il t s x) ht
 rw[show Ei t (Kq t s x) (Il t s x)=GS t s x from rfl]at cW
 have cP:=hP t s.pre x.lines s.runs ht M.runs M.held O.ra
 have ae:=VZ O.ra O.tm O.cl
 have a5:=Mh (t:=t) (s:=s.pre) (n:=x.lines) (l:=s.runs)
 have a6:=Mi (t:=t) (s:=s.pre) (n:=x.lines) (l:=s.runs) O.ra
 rw[show i5 t s.pre x.lines s.runs=ox t s x from rfl]at ae
 have a2:ni t s.pre x.lines s.runs=(ox t s x).1:=by rw[ae]
 have ak:xR t s.pre x.lines s.runs=(ox t s x).2:=by rw[ae]
 rw[a2,ak]at cP;rw[ak]at a5 a6;clear ae a2 ak
 have aa:(ox t s x).1.held.length=4:=BJ
 have cR:=hR t s.rings s.runs (GS t s x) ht M.runs
 have cS:=hS t s.rings s.runs (GS t s x) ht M.runs
 have cO:=hO t s.iO s.runs x.ask ht M.lock M.runs
 have cA:=hA t s.iO s.runs x.ask ht M.lock M.runs
 have ab:Au t s x=if(ox t s x).2.free then(CV t s.rings s.runs (GS t s x)).1 else if(ox t s x).2.back then Ij t (OV t s.pre.which)else s.rings:=rfl
 have R:F4 t s x=if(ox t s x).2.free then⟨(CV t s.rings s.runs (GS t s x)).2.1,(CV t s.rings s.runs (GS t s x)).2.2,0,Ki t s.rings s.runs (GS t s x),wV t s.iO s.runs x.ask,yz t s.iO s.runs x.ask⟩
  else⟨(ox t s x).2.start,(ox t s x).2.fin,(ox t s x).2.cut,0,0,0⟩:=rfl
 have a8:=O.ph
 clear O;generalize Au t s x=rg at*;generalize F4 t s x=td at*;generalize GS t s x=w0 at*;generalize Kq t s x=c1 at*;generalize Il t s x=h0 at*;generalize tH t s x=c0 at*;generalize ox t s x=pa at*;generalize Im t s x=res at*;generalize CV t s.rings s.runs w0=rr at*
 generalize Ki t s.rings s.runs w0=pr at*;generalize wV t s.iO s.runs x.ask=ho at*;generalize yz t s.iO s.runs x.ask=ea at*;generalize OV t s.pre.which=ex at*
 have b5:c1.cells.length=2:=rfl
 have b0:jo (aI Ch.cells c0) none=true:=by cases c0<;>rfl
 have co:(aI Ch.cells c0).cells=[aI Ch.cells c0]:=by cases c0<;>rfl
 have u1:=bt.Vn NA c0
 have k1:({AY with fj:=c0}:bt).Ok:=⟨rfl,rfl,rfl⟩
 have cr:=bt.len NA
 have ci:=bt.len k1
 have be:=bt.RI k1
 have u2:=bt.Vm k1 c1
 have k2:({AY with fj:=c0,calls:=c1}:bt).Ok:=⟨rfl,rfl,rfl⟩
 have bj:=bt.len k2
 have cg:=bt.OY k2
 have u3:=bt.OZ k2 aa
 have k3:({AY with fj:=c0,calls:=c1,pre:=pa.1}:bt).Ok:=⟨rfl,rfl,aa⟩
 have bm:=bt.len k3
 have u4:=λr=>bt.s96 k3 r
 have k4:({AY with fj:=c0,calls:=c1,pre:=pa.1,rings:=s.rings}:bt).Ok:=⟨rfl,rfl,aa⟩
 have bd:=bt.len k4
 have u5:=λr=>bt.s96 k4 r
 have pl:=Pr.len aa
 have pw:=Pr.whole aa
 have al:pa.2.cells.length=5/\pa.2.cells[0]? =some (I pa.2.start)/\pa.2.cells[1]? =some (I pa.2.fin)/\pa.2.cells[2]? =some (I pa.2.cut)/\pa.2.cells[3]? =some (B pa.2.free)/\pa.2.cells[4]? =some (B pa.2.back):=⟨rfl,rfl,rfl,rfl,rfl,rfl⟩
 have b6:∀a:Ac,a.cells.length=5:=λ_=>rfl
 have as:∀(a:Ac) (n:Int),setCells a.cells 0 [I n]=({a with start:=n}:Ac).cells/\setCells a.cells 1 [I n]=({a with fin:=n}:Ac).cells:=λ_ _=>⟨rfl,rfl⟩
 have zp:setCells [.int .i64 0,.int .i64 0,.int .i64 0,.int .i64 0,.int .i64 0,.int .i64 0,.int .i64 0,.int .i64 0] 0 pa.1.cells=pa.1.cells:=eI (by rw[pl];rfl)
 have za:setCells [.int .i64 0,.int .i64 0,.int .i64 0,.bool false,.bool false] 0 pa.2.cells=pa.2.cells:=rfl
 have rl:∀r:ff,r.cells.length=4:=λ_=>rfl
 have bo:=Tb.uh ht
 have E:=cB ce (cB hp (cB ba (cB q1 (cB q3 (cB q4 (cB q5 (cB q6 (cB q7 (cB q8 (cB qw (cB x1 (cB b0 (cB co (cB b5 (cB u1 (cB cr (cB ci (cB be (cB u2 (cB bj (cB cg (cB u3 (cB bm (cB u4 (cB bd (cB u5 (cB pl (cB pw (cB al (cB b6 (cB as (cB zp (cB za (rl))))))))))))))))))))))))))))))))))
 refine aj hm hc [0] rfl ?_;try simp only[I,B,D,RY,↓KW,seval,xp,Z.H,E]
 refine af cD ?_;try simp only[I,B,D,RY,↓KW,seval,E]
 refine af (hE t c0 ht cp) ?_;try simp only[I,B,D,RY,↓KW,seval,E]
 refine af (hH t _ ht) ?_;rw[<-hq];try simp only[I,B,D,RY,↓KW,seval,E]
 refine af cG ?_;try simp only[I,B,D,RY,↓KW,seval,E]
 refine af cK ?_;try simp only[I,B,D,RY,↓KW,seval,E]
 refine af cC ?_;try simp only[I,B,D,RY,↓KW,seval,E]
 refine af cW ?_;try simp only[I,B,D,RY,↓KW,seval,E]
 refine af cP ?_;try simp only[I,B,D,RY,↓KW,seval,E]
 apply yK (λ_:Unit=>(⟨[(11,.ptr 57 0),(8,.dat (I h0) none),(7,.ptr 8 0),(12,.dat (I td.bL) none),(13,.dat (I td.hold) none),(14,.dat (I td.early) none),(3,.ptr 4 0),(4,.ptr 5 0),(5,.ptr 6 0),(6,.ptr 7 0)],[(4,⟨t.cells,[]⟩),(5,⟨s.cells,[]⟩),(6,⟨x.cells,[]⟩),(7,⟨AY.cells,[]⟩),(8,⟨({AY with fj:=c0,calls:=c1,pre:=pa.1,rings:=rg}:bt).cells,[]⟩),(57,⟨(⟨td.start,td.fin,td.cut,pa.2.free,pa.2.back⟩:Ac).cells,[]⟩)],[],400⟩:S)) (λ_=>True)
 ·intro back
  rcases bc pa.2.free with h1|h1
  ·rw[h1]at ab R
   try simp only[I,B,D,RY,↓KW,seval,h1,E]
   rcases bc pa.2.back with h2|h2
   ·rw[h2]at ab
    have V:pa.2=⟨td.start,td.fin,td.cut,pa.2.free,pa.2.back⟩:=by rw[R];rfl
    try simp only[I,B,D,RY,↓KW,seval,h2,E]
    refine back () _ trivial ?_
    refine ai Ts ?_ ?_ ?_ ?_<;>simp[LX,I,B,D,ab,R,<-V]
   ·rw[h2]at ab
    obtain⟨k,r,e1,e2,e3⟩:=a6 h2
    have hy:0<=(k:Int)/\(k:Int)<((t.aV.getD []).length:Int):=by have:=(er.1 e2).1;omega
    have b3:r.cells.length=11/\r.cells.drop 3=I r.exit::r.cells.drop 4:=⟨rfl,rfl⟩
    try simp only[I,B,D,RY,↓KW,seval,h2,e1,e2,hy,b3,bo,E]
    refine af (hU t _ ht) ?_;rw[e3];try simp only[I,B,D,RY,↓KW,seval,E]
    have V:pa.2=⟨td.start,td.fin,td.cut,pa.2.free,pa.2.back⟩:=by rw[R];rfl
    refine back () _ trivial ?_
    refine ai Ts ?_ ?_ ?_ ?_<;>simp[LX,I,B,D,ab,R,<-V]
  ·rw[h1]at ab R
   have a4:=a5 h1
   try simp only[I,B,D,RY,↓KW,seval,h1,E]
   refine af cR ?_;try simp only[I,B,D,RY,↓KW,seval,E]
   refine af cS ?_;try simp only[I,B,D,RY,↓KW,seval,E]
   refine af cO ?_;try simp only[I,B,D,RY,↓KW,seval,E]
   refine af cA ?_;try simp only[I,B,D,RY,↓KW,seval,E]
   have V:(⟨rr.2.1,rr.2.2,pa.2.cut,pa.2.free,pa.2.back⟩:Ac)=⟨td.start,td.fin,td.cut,pa.2.free,pa.2.back⟩:=by rw[R,a4];rfl
   refine back () _ trivial ?_
   refine ai Ts ?_ ?_ ?_ ?_<;>simp[LX,I,B,D,ab,R,V,a4]
 ·rintro _ _
  try simp only[I,B,D,RY,↓KW,seval,E]
  obtain⟨L,a3⟩:∃L,Zk td h0 c1.dZ pa.2.free=L:=⟨_,rfl⟩
  have ag:∀p,L p=⟨bD td.start p,bD td.fin p,bD h0 p,pa.2.free&&bD c1.dZ p,bD td.bL p,bD td.hold p,bD td.early p,bD td.cut p⟩:=λp=>by rw[<-a3];rfl
  rw[a3]at an
  have a7:pa.2.free=false->∀p:Nat,p<8->(L p).hold=false:=λh1 p hp=>by
   rw[ag p,R,h1]
   show bD 0 p=false
   rw[kz hp,dr]
  have w0:Sz t s L 0=AY.runs:=rfl
  have am:∀a:Ac,a.cells[0]? =some (I a.start)/\a.cells[1]? =some (I a.fin)/\a.cells[2]? =some (I a.cut)/\a.cells[3]? =some (B a.free):=λ_=>⟨rfl,rfl,rfl,rfl⟩
  refine aD (λk:Nat=>(⟨[(16,.dat (I k) none),(11,.ptr 57 0),(8,.dat (I h0) none),(7,.ptr 8 0),(12,.dat (I td.bL) none),(13,.dat (I td.hold) none),(14,.dat (I td.early) none),(15,.dat (B (jj t s L k)) none),(3,.ptr 4 0),(4,.ptr 5 0),(5,.ptr 6 0),(6,.ptr 7 0)],[(4,⟨t.cells,[]⟩),(5,⟨s.cells,[]⟩),(6,⟨x.cells,[]⟩),(7,⟨AY.cells,[]⟩),(8,⟨({AY with runs:=Sz t s L k,fj:=c0,calls:=c1,pre:=pa.1,rings:=rg}:bt).cells,[]⟩),(57,⟨(⟨td.start,td.fin,td.cut,pa.2.free,pa.2.back⟩:Ac).cells,[]⟩)],[],400⟩:S)) (λk=>8-k) (λk=>k<=8) ?_ 0 ST ?_
  rotate_left
  ·refine ai Ts ?_ ?_ ?_ ?_<;>simp[LX,I,B,D,w0,jj]
  intro k hk A back
  have b2:=aA (k:=k) ST
  have kk:({AY with runs:=Sz t s L k,fj:=c0,calls:=c1,pre:=pa.1,rings:=rg}:bt).Ok:=⟨V0 ..,rfl,aa⟩
  have v1:=bt.len kk
  have v2:=bt.acO kk
  try simp only[I,B,D,RY,↓KW,seval,am]
  rcases bc (decide ((k:Int)<8))with h|h
  rotate_left
  ·have O:k<8:=by have:=dC h;omega
   have hy:0<=(k:Int)/\(k:Int)<8:=ST
   have ch:=Tb.ij (ht.ln.jL O)
   have b4:aF s.cells (k*12) (some 12)=some (.agg (s.rn k).cells):=by rw[bt.cells,GU (by rw[c8 M.runs];omega)];exact gl M.runs O
   have vs:=bt.M6 kk O (dz (aO t k) (s.rn k) (L k))
   rw[show({AY with runs:=Sz t s L k,fj:=c0,calls:=c1,pre:=pa.1,rings:=rg}:bt).runs.set k (dz (aO t k) (s.rn k) (L k))=Sz t s L (k+1)from SA O]at vs
   have hl:jj t s L (k+1)=(jj t s L k||lM (aO t k) (s.rn k) (L k)):=rfl
   have cY:=hY (aO t k) (s.rn k) (L k)
   have cZ:=hZ (aO t k) (s.rn k) (L k) (a8 k O)
   have b8:=λh1=>SB (p:=aO t k) (r:=s.rn k) (a7 h1 k O)
   generalize jj t s L k=hd at*
   have hP:=ag k
   generalize L k=cc at*
   have cb:∀c:Cu,c.cells.length=8/\aF c.cells 0 (some 8)=some (.agg c.cells):=λ_=>⟨rfl,rfl⟩
   have ad:setCells [.bool false,.bool false,.bool false,.bool false,.bool false,.bool false,.bool false,.bool false] 0 [B (bD td.start k),B (bD td.fin k),B (bD h0 k),B (pa.2.free&&bD c1.dZ k),B (bD td.bL k),B (bD td.hold k),B (bD td.early k),B (bD td.cut k)]=cc.cells:=by rw[hP];rfl
   generalize lM (aO t k) (s.rn k) cc=hk2 at*
   have ac:=cB h (cB hy (cB v1 (cB v2 (cB am (cB ch (cB b4 (cB cb (cB vs (cB Rn.len (E))))))))))
   try simp only[I,B,D,RY,↓KW,seval,ac]
   have bs:∀p:Nat,∀n:Int,(Pure P).c fB [I n,I p] (B (bD n p)) none:=λp n=>hB n p
   rcases bc pa.2.free with h5|h5<;>rcases bc hd with h6|h6
   all_goals
    rw[h5]at ad;simp only[mn,kt]at ad;simp only[I,B]at ad;try simp only[I,B,D,RY,↓KW,seval,h5,h6,ac]
    repeat' (refine af (bs _ _) ?_;try simp only[I,B,D,RY,↓KW,seval,h5,h6,ac])
    try simp only[I,B,D,RY,↓KW,seval,ad,h5,h6,ac]
    try(refine af cY ?_;try simp only[I,B,D,RY,↓KW,seval,ad,ac])
    try(refine af cZ ?_;try simp only[I,B,D,RY,↓KW,seval,ad,ac])
    try refine⟨ST,?_⟩
    refine back (k+1) _ ST ST ?_
    try rw[b8 h5]at hl
    refine ai Ts ?_ ?_ ?_ ?_<;>simp[LX,I,B,D,b2,hl,h5,h6]
  ·have b7:k=8:=by have:=dE h;omega
   subst b7
   have au:(kC t s.iO x.ask (jj t s L 8) (BI s pa.2.free rg)).lock.length=4:=by simp[kC,pT]
   rw[V1]at kk v1 v2⊢
   have w1:=bt.RJ kk au
   have rk:res.Ok:=by rw[an];exact⟨wm ..,au,aa⟩
   have w2:=bt.whole rk
   have w3:setCells AY.cells 0 res.cells=res.cells:=eI (by rw[bt.len rk];rfl)
   have w4:=bt.len rk
   have v3:=bt.g96 kk
   have v4:=bt.g99 kk
   have v5:=bt.g96 M
   have v6:=bt.g99 M
   have ar:BI s pa.2.free rg=(pa.2.free&&(s.rings.iD&&(!rg.iD&&decide (rg.group<=s.rings.group)))):=rfl
   have cT:=hT t s.iO x.ask (jj t s L 8) (BI s pa.2.free rg) ht M.lock
   rw[<-an]at w1;generalize kC t s.iO x.ask (jj t s L 8) (BI s pa.2.free rg)=rd at*;generalize jj t s L 8=hd at*;generalize BI s pa.2.free rg=rn at*
   have b1:rd.cells.length=6:=by simp[Rd.cells,au]
   have ao:=cB v3 (cB v4 (cB v5 (cB v6 (cB w1 (cB w2 (cB w3 (cB w4 (cB v1 (cB v2 (cB b1 (cB am (E))))))))))))
   rcases bc pa.2.free with h5|h5<;>rcases bc s.rings.iD with h6|h6<;>rcases bc rg.iD with h7|h7<;>rcases bc (decide (rg.group<=s.rings.group))with O|O
   all_goals
    rw[h5,h6,h7,O]at ar;simp only[kt,mn,nd,pA,gs,fx]at ar;subst ar;try simp only[I,B,D,RY,↓KW,seval,h,h5,h6,h7,O,ao]
    try try simp only[I,B,D,RY,↓KW,seval,h5,h6,h7,O,ao]
    refine af cT ?_;try simp only[I,B,D,RY,↓KW,seval,ao]
end
section
variable {g pl r:Int} {t:Tb} {x y:Pr} (c:Cu) (l:Option (List Int)) (p:Ph)
def Uq(t:Tb):Prop:=∀x∈aS t,az t x.p=(x,true)
theorem SC:Uq (cJ l):=by
 intro x M
 have hm:=H9 l
 generalize cJ l=t at*
 have hu:∀y∈aS t,y.p=x.p->y=x:=by
  intro y V O;obtain⟨i,hi,rfl⟩:=List.getElem_of_mem M;obtain⟨j,Z,rfl⟩:=List.getElem_of_mem V
  have D:((aS t).map Sp.p)[i]? =some ((aS t)[i]).p:=by simp[hi]
  have A:((aS t).map Sp.p)[j]? =some ((aS t)[j]).p:=by simp[Z]
  rw[hm,dO]at D A
  have L:i<nT l:=by have:=ne List.length hm;simp[dO]at this;omega
  have E:j<nT l:=by have:=ne List.length hm;simp[dO]at this;omega
  rw[im,kr L]at D;rw[im,kr E]at A;simp only[ma,fo]at D A
  have:i=j:=by rw[O]at A;omega
  subst this;rfl
 unfold az
 cases B:(aS t).find? (λy=>y.p==x.p)with
 |none=>
  have:=mf.1 B x M
  simp at this
 |some y=>
  have h1:=vd B
  have R:=List.find?_some B
  simp only
  rw[hu y h1 (by simpa using R)]
theorem G3{x:Sp}:x∈aS t↔∃(g k i:Nat) (A:Gr),(t.groups.getD [])[g]? =some A/\k<2/\((A.row k).getD [])[i]? =some x.p/\(0<=x.p/\x.p<8)/\x=⟨g,k,i,x.p⟩:=by
 simp only[aS,cm,gn,sT,bP,fp,aW,xv,List.mem_zipIdx_iff_getElem?,Prod.exists];constructor
 ·rintro⟨A,g,E,k,hk,p,i,L,B⟩
  split at B
  ·rename_i D
   cases B;exact⟨g,k,i,A,E,hk,L,D,rfl⟩
  ·cases B
 ·rintro⟨g,k,i,A,E,hk,L,D,B⟩
  exact⟨A,g,E,k,hk,x.p,i,L,by rw[et D];exact ne some B.symm⟩
theorem NB{g k:Nat} {B:Gr} (A:(t.groups.getD [])[g]? =some B) (hk:k<2):eM t g k=B.row k:=by
 have D:=(er.1 A).1
 rw[eM,ek ST]
 simp only[ix];rw[eh,A];rfl
theorem ZK(h:0<=nh t g r pl):∃(O k i:Nat) (A:Gr),g=O/\r=k/\pl=i/\(t.groups.getD [])[O]? =some A/\k<2/\((A.row k).getD [])[i]? =some (nh t g r pl)/\nh t g r pl<8:=by
 by_cases D:g<0\/((t.groups.getD []).length:Int)<=g\/r<0\/1<r
 ·rw[nh,et D]at h;omega
 by_cases E:pl<0\/(((eM t g r).getD []).length:Int)<=pl
 ·rw[nh,ek D,et E]at h;omega
 by_cases L:0<=((eM t g r).getD []).getD pl.toNat 0/\((eM t g r).getD []).getD pl.toNat 0<8
 ·have e:nh t g r pl=((eM t g r).getD []).getD pl.toNat 0:=by rw[nh,ek D,ek E,et L]
  obtain⟨A,M⟩:∃A,(t.groups.getD [])[g.toNat]? =some A:=⟨_,dT ST⟩
  have B:=NB M (k:=r.toNat) ST
  rw[show((g.toNat:Nat):Int)=g by omega,show((r.toNat:Nat):Int)=r by omega]at B
  refine⟨g.toNat,r.toNat,pl.toNat,A,ST,ST,ST,M,ST,?_,by rw[e];exact L.2⟩
  rw[e,<-B,eh,dT ST];rfl
 ·rw[nh,ek D,ek E,ek L]at h;omega
theorem FG(E:Uq t) (h:0<=nh t g r pl):az t (nh t g r pl)=(⟨g,r,pl,nh t g r pl⟩,true):=by
 obtain⟨A,k,i,B,rfl,rfl,rfl,L,hk,M,D⟩:=ZK h
 have O:(⟨A,k,i,nh t A k i⟩:Sp)∈aS t:=G3.2 ⟨A,k,i,B,L,hk,M,⟨h,D⟩,rfl⟩
 exact E _ O
theorem KD{p:Int} (h:(az t p).2=true):(az t p).1∈aS t/\(az t p).1.p=p:=by
 unfold az at h⊢
 cases A:(aS t).find? (λx=>x.p==p)with
 |none=>rw[A]at h;cases h
 |some x=>
  simp only
  exact⟨vd A,by simpa using List.find?_some A⟩
theorem SD{p:Int} (h:(az t p).2=true):nh t (az t p).1.group (az t p).1.ring (az t p).1.pos=p:=by
 obtain⟨M,E⟩:=KD h;obtain⟨g,k,i,V,B,hk,D,L,O⟩:=G3.1 M;generalize(az t p).1=x at*;rw[O];simp only
 have Z:=(er.1 B).1
 have A:=NB B hk
 have R:=(er.1 D).1
 have e:((eM t g k).getD []).getD (i:Int).toNat 0=x.p:=by rw[A,eh,ix,D];rfl
 rw[nh,ek ST,ek (by rw[A];omega),et (by rw[e];exact L),e,E]
theorem G4(D:Uq t) {A B:Int} (L:0<=nh t g 0 A) (E:0<=nh t g 1 B):dP t (nh t g 0 A) (nh t g 1 B)=true:=by
 rw[dP,FG D L,FG D E];simp
structure V2 (t:Tb) (x:Pr):Prop where
 Zz:0<=x.aq/\x.aq<6
 which:x.aq≠0->0<=x.which/\x.which<(nR t:Int)
 zero:x.aq=0->x.which=0
theorem G5(h:x.which=y.which):aR t x=aR t y:=by rw[aR,aR,h]
theorem Mj{l:List Rn} (h:x.which=y.which):jh t x l=jh t y l:=by rw[jh,jh,G5 h]
theorem Iw{l:List Rn} (h:x.which=y.which):gF t x l=gF t y l:=by rw[gF,gF,G5 h]
theorem SE(lines:Int) (l:List Rn) (h:V2 t x):V2 t (i5 t x lines l).1/\
  (((i5 t x lines l).2=⟨0,0,0,true,false⟩/\x.aq=0/\(i5 t x lines l).1.aq=0)\/
   ((i5 t x lines l).2=jh t x l/\x.aq=5/\(i5 t x lines l).1.aq=0/\gF t x l=0)\/
   (1<=(i5 t x lines l).1.aq/\(i5 t x lines l).1.aq<6/\(i5 t x lines l).2=lq t (i5 t x lines l).1 l (i5 t x lines l).1.aq)):=by
 have hx:=h.Zz
 have hw:=h.which
 have hz:=h.zero
 have hu:BG (bG t x lines)=bG t x lines:=ek (by show ¬(x.aq<0\/6<=x.aq);omega)
 have O:(bG t x lines).aq=x.aq:=rfl
 have M:(bG t x lines).which=x.which:=rfl
 have hr:i5 t x lines l=ji t (bG t x lines) l:=by rw[i5,Vk,hu]
 rw[hr]
 have e3:=Mj (t:=t) (l:=l) M
 have e4:=Iw (t:=t) (l:=l) M
 generalize bG t x lines=u at*;rw[<-O,<-M]at hw;rw[<-O]at hx;rw[<-O,<-M]at hz;rw[<-e3,<-e4,<-O];clear O M e3 e4 hr hu;unfold ji;split
 ·rename_i hk
  obtain⟨h1,h2⟩:=Mb hk
  have V:=BQ t u
  exact⟨⟨by show(0:Int)<=1/\(1:Int)<6;omega,λ_=>(by show 0<=aK t u/\aK t u<_;omega),λe=>(by cases e)⟩,.inr (.inr ⟨by show(1:Int)<=1;omega,by show(1:Int)<6;omega,rfl⟩)⟩
 ·split
  ·rename_i _ L
   have e:ay t u l=(gF t u l,u):=by rw[ay,ek ST,ek ST,ek ST,ek ST,ek ST]
   rw[e]at L⊢
   exact⟨⟨by show(0:Int)<=0/\(0:Int)<6;omega,λe=>absurd rfl e,λ_=>rfl⟩,.inr (.inl ⟨rfl,L.1,rfl,L.2⟩)⟩
  ·rename_i _ L
   have B:=j5 t u l
   have A:(ay t u l).1≠0->0<=(ay t u l).2.which/\(ay t u l).2.which<(nR t:Int):=by
    intro E
    have R:u.aq≠0:=by
     intro e
     apply E
     simp[ay,e]
    have hk:=hw R
    unfold ay
    repeat' split
    all_goals first|exact hk|skip
    unfold d9
    have Z:(dD t u).which=u.which:=by unfold dD;split<;>rfl
    split
    ·exact hk
    ·split
     ·rename_i h0
      have V:=BQ t (dD t u)
      exact⟨h0,by show aK t (dD t u)<_;omega⟩
     ·rw[Z];exact hk
   have hzero:(ay t u l).1=0->u.aq=0/\(ay t u l).2=u:=by
    intro D
    by_cases e:u.aq=0
    ·exact⟨e,by simp[ay,e]⟩
    exfalso;revert D L;simp only[ay,jG,kJ,gZ,d9]
    repeat' split
    all_goals(simp only[];omega)
   refine⟨⟨B,λE=>A E,λD=>?_⟩,?_⟩
   ·obtain⟨a,b⟩:=hzero D
    show(ay t u l).2.which=0
    rw[b];exact hz a
   ·by_cases D:(ay t u l).1=0
    ·obtain⟨a,b⟩:=hzero D
     refine .inl ⟨?_,a,D⟩
     show lq t _ l (ay t u l).1=_
     rw[D];rfl
    ·exact .inr (.inr ⟨by show 1<=(ay t u l).1;omega,B.2,rfl⟩)
structure SF (p:Ph) (r:Rn):Prop where
 col:0<=r.aH/\r.aH<=3
 dZ:0<=r.fst/\r.fst<=2
 stop:r.fst=0->r.cn=0
 off:r.aH≠1->r.fst=0
 done:r.aH=1->r.done=true->p.min<=r.time/\r.fst=0
theorem G6(st time:Int) (b:Bool):(Ig p st time b=(2,1)/\st=1/\p.walk<=time)\/(Ig p st time b=(0,0)/\st=2/\p.fc<=time)\/(Ig p st time b=(1,bz time)/\st=1/\time<p.walk)\/(Ig p st time b=(2,bz time)/\st=2/\time<p.fc)\/((Ig p st time b=(1,1)\/Ig p st time b=(0,0))/\st≠1/\st≠2):=by
 unfold Ig
 by_cases A:st=1
 ·subst A
  by_cases h:time>=p.walk
  ·left;simp[h]
  ·right;right;left;simp[h];omega
 ·by_cases B:st=2
  ·subst B
   by_cases h:time>=p.fc
   ·right;left;simp[h]
   ·right;right;right;left;simp[h];omega
  ·right;right;right;right
   refine⟨?_,A,B⟩
   simp only[show(st==1)=false by simpa using A,show(st==2)=false by simpa using B,mn,ev,ib,wn]
   split
   ·exact .inl rfl
   ·exact .inr rfl
theorem BS(r:Rn) (c:Cu):(F2 p r c=(2,1)/\r.fst=1/\(p.walk<=r.cn\/c.cut=true))\/(F2 p r c=(0,0)/\r.fst=2/\p.fc<=r.cn)\/(F2 p r c=(1,bz r.cn)/\r.fst=1/\r.cn<p.walk)\/(F2 p r c=(2,bz r.cn)/\r.fst=2/\r.cn<p.fc)\/((F2 p r c=(1,1)\/F2 p r c=(0,0))/\r.fst≠1/\r.fst≠2):=by
 unfold F2;split
 ·rename_i h
  simp only[ed,kb]at h
  left
  exact⟨by rw[Kb,h.2];rfl,h.2,.inr h.1⟩
 ·rcases G6 p r.fst r.cn (c.push&& !c.bL)with⟨a,b,d⟩|h
  ·exact .inl ⟨a,b,.inl d⟩
  ·exact .inr h
theorem V3{x m:Int} (h:m<=x) (A:m<=9999):m<=bz x:=by
 have:bz x=d7 x 0 9999+1:=aU (by unfold d7;split<;>(try split)<;>omega) (by unfold d7;split<;>(try split)<;>omega)
 rw[this];unfold d7;split
 ·omega
 ·split<;>omega
structure ade (p:Ph) (r:Rn) (c:Cu) (r':Rn):Prop where
 green:r.aH=1->c.fin=false->r'.aH=1/\r'.time=bz r.time/\r'.fst=(F2 p r c).1/\r'.cn=(F2 p r c).2
 fin:r.aH=1->c.fin=true->r'.aH=2/\r'.time=1/\r'.fst=0/\r'.cn=0
 eZ:r.aH=2->(r'.fst=0/\r'.cn=0)/\((r.time<p.eZ/\r'.aH=2/\r'.time=bz r.time)\/(p.eZ<=r.time/\0<p.red/\r'.aH=3/\r'.time=1)\/(p.eZ<=r.time/\p.red<=0/\r'.aH=0/\r'.time=1))
 clear:r.aH=3->(r'.fst=0/\r'.cn=0)/\((r.time<p.red/\r'.aH=3/\r'.time=bz r.time)\/(p.red<=r.time/\r'.aH=0/\r'.time=1))
 red:de r=true->c.start=false->r'.aH=0/\r'.time=bz r.time/\r'.fst=0/\r'.cn=0
 start:de r=true->c.start=true->r'.aH=1/\r'.time=1/\((r'.fst=1/\r'.cn=1)\/(r'.fst=0/\r'.cn=0))/\r'.done=false
theorem Mk(r:Rn) (c:Cu):ade p r c (dz p r c):=by
 have B:de r=true↔(r.aH≠1/\r.aH≠2/\r.aH≠3):=by simp[de]
 constructor
 ·intro A D
  have e:dz p r c=iw p r c:=by simp[dz,A]
  rw[e,iw,D];simp only[ev,ib];split
  ·exact⟨rfl,rfl,rfl,rfl⟩
  ·split<;>exact⟨rfl,rfl,rfl,rfl⟩
 ·intro A D
  have e:dz p r c=iw p r c:=by simp[dz,A]
  rw[e,iw,D];simp only[kh]
  split<;>exact⟨rfl,rfl,rfl,rfl⟩
 ·intro A
  have e:dz p r c=ny p r:=by simp[dz,A]
  rw[e,ny];split
  ·exact⟨⟨rfl,rfl⟩,.inl ⟨by assumption,rfl,rfl⟩⟩
  ·split
   ·exact⟨⟨rfl,rfl⟩,.inr (.inl ⟨ST,ST,rfl,rfl⟩)⟩
   ·exact⟨⟨rfl,rfl⟩,.inr (.inr ⟨ST,ST,rfl,rfl⟩)⟩
 ·intro A
  have e:dz p r c=uV p r:=by simp[dz,A]
  rw[e,uV];split
  ·exact⟨⟨rfl,rfl⟩,.inl ⟨by assumption,rfl,rfl⟩⟩
  ·exact⟨⟨rfl,rfl⟩,.inr ⟨ST,rfl,rfl⟩⟩
 ·intro A D
  obtain⟨a,b,d⟩:=B.1 A
  have e:dz p r c=F3 p r c:=by simp[dz,a,b,d]
  rw[e,F3,D];exact⟨rfl,rfl,rfl,rfl⟩
 ·intro A D
  obtain⟨a,b,d⟩:=B.1 A
  have e:dz p r c=F3 p r c:=by simp[dz,a,b,d]
  rw[e,F3,D];simp only[kh];refine⟨rfl,rfl,?_,rfl⟩
  show((Ig p 0 0 c.push).1=1/\(Ig p 0 0 c.push).2=1)\/((Ig p 0 0 c.push).1=0/\(Ig p 0 0 c.push).2=0)
  rcases G6 p 0 0 c.push with⟨_,h,_⟩|⟨_,h,_⟩|⟨_,h,_⟩|⟨_,h,_⟩|⟨h,_⟩
  ·cases h
  ·cases h
  ·cases h
  ·cases h
  ·rcases h with h|h<;>rw[h]<;>simp
theorem G7{r:Rn} (h:0<=r.aH/\r.aH<=3):(r.aH=0/\de r=true)\/(r.aH=1/\de r=false)\/(r.aH=2/\de r=false)\/(r.aH=3/\de r=false):=by
 have:r.aH=0\/r.aH=1\/r.aH=2\/r.aH=3:=ST
 rcases this with e|e|e|e<;>simp[de,e]
theorem V4{p:Ph} {r:Rn} (hm:p.min<=9999) (h:SF p r):SF p (dz p r c):=by
 have o:=Mk p r c
 have hd:(dz p r c).aH=1->r.aH=1->c.fin=false->(dz p r c).done=true->p.min<=(dz p r c).time/\(dz p r c).fst=0:=by
  intro _ V h2 M;obtain⟨g1,g2,g3,g4⟩:=o.green V h2
  have hf:=BS p r c
  have e:dz p r c=iw p r c:=by simp[dz,V]
  have A:(dR p (gT p r c) c=true)\/(gT p r c).done=true:=by
   rw[e,iw,h2]at M;simp only[ev,ib]at M;split at M
   ·exact .inr M
   ·split at M
    ·rename_i hh;exact .inl hh
    ·exact .inr M
  rcases A with A|A
  ·simp only[dR,ed,gc,nb,dQ,H5,beq_eq_false_iff_ne]at A
   obtain⟨⟨⟨_,R⟩,Z⟩,_⟩:=A
   refine⟨by rw[g2];exact R,?_⟩
   have k3:(F2 p r c).1≠1/\(F2 p r c).1≠2:=Z
   rw[g3]
   rcases hf with⟨a,_⟩|⟨a,_⟩|⟨a,_⟩|⟨a,_⟩|⟨a|a,_⟩<;>rw[a]at k3⊢<;>simp at k3⊢
  ·have B:(if bN p r c then false else r.done)=true:=A
   have L:bN p r c=false:=by
    cases D:bN p r c
    ·rfl
    ·rw[D]at B;cases B
   rw[L]at B;obtain⟨m1,m2⟩:=h.done V B
   refine⟨by rw[g2];exact V3 m1 hm,?_⟩
   rw[g3]
   have E:(F2 p r c).1≠1:=by
    simp only[bN,dQ,m2]at L
    simpa using L
   rcases hf with⟨a,b,_⟩|⟨a,b,_⟩|⟨a,b,_⟩|⟨a,b,_⟩|⟨a|a,_⟩
   ·omega
   ·rw[a]
   ·omega
   ·omega
   ·rw[a]at E;exact absurd rfl E
   ·rw[a]
 rcases G7 h.col with⟨e,O⟩|⟨e,O⟩|⟨e,O⟩|⟨e,O⟩
 ·cases D:c.start
  ·obtain⟨a,b,d,g⟩:=o.red O D
   exact⟨ST,ST,λ_=>g,λ_=>d,λk=>ST⟩
  ·obtain⟨a,b,d,g⟩:=o.start O D
   exact⟨ST,ST,λk=>ST,λk=>ST,λ_ k=>by rw[g]at k;cases k⟩
 ·cases D:c.fin
  ·obtain⟨a,b,d,g⟩:=o.green e D
   refine⟨ST,?_,λk=>?_,λk=>absurd a k,λR Z=>hd R e D Z⟩
   ·rw[d]
    rcases BS p r c with⟨x,_⟩|⟨x,_⟩|⟨x,_⟩|⟨x,_⟩|⟨x|x,_⟩<;>rw[x]<;>simp
   ·rw[d]at k
    rw[g]
    rcases BS p r c with⟨x,_⟩|⟨x,_⟩|⟨x,_⟩|⟨x,_⟩|⟨x|x,_⟩<;>rw[x]at k⊢<;>simp at k⊢
  ·obtain⟨a,b,d,g⟩:=o.fin e D
   exact⟨ST,ST,λ_=>g,λ_=>d,λk=>ST⟩
 ·obtain⟨⟨d,g⟩,a⟩:=o.eZ e
  exact⟨ST,ST,λ_=>g,λ_=>d,λk=>ST⟩
 ·obtain⟨⟨d,g⟩,a⟩:=o.clear e
  exact⟨ST,ST,λ_=>g,λ_=>d,λk=>ST⟩
structure TG (t:Tb) (n:Nat):Prop where
 n8:n<=8
 on:∀p:Nat,p<8->(aO t p).on=decide (p<n)
 ph:∀p:Nat,p<n->Rk (aO t p)
 off:∀p:Nat,p<8->n<=p->aO t p=default
 sym:∀p q,p<8->q<8->tb (gG t p) q=tb (gG t q) p
 con:∀p q:Nat,p<8->q<8->tb (gG t p) q=true->p≠q/\dP t p q=false
 uq:Uq t
 wh:∀p:Nat,p<n->(az t p).2=true
 whn:∀p:Nat,(az t p).2=true->p<n
 rl:(t.aV.getD []).length<=2/\∀r∈t.aV.getD [],H8 t n r
theorem adf:TG (cJ l) (nT l) where
 n8:=(oe l).2
 on:=λp A=>by rw[tph l A];split<;>rename_i h<;>simp[h];exact(Na _ _).on;rfl
 ph:=λp A=>by rw[tph l (by have:=(oe l).2;omega),et A];exact Na _ _
 off:=λp E A=>by rw[tph l E,ek ST]
 sym:=λp q A B=>OI l A B
 con:=λp q A B h=>OL l A B h
 uq:=SC l
 wh:=λp A=>RM l A
 whn:=λp h=>by
  obtain⟨M,L⟩:=KD h
  have D:(az (cJ l) p).1.p∈(aS (cJ l)).map Sp.p:=EQ M
  rw[H9,L,dO]at D;simp only[i8,fp]at D;obtain⟨i,R,O⟩:=D;omega
 rl:=Y9 l
theorem TG.min{t:Tb} {n:Nat} (h:TG t n) {p:Nat} (A:p<8):(aO t p).min<=9999:=by
 by_cases e:p<n
 ·have:=(h.ph p e).min;omega
 ·rw[h.off p A ST];decide
structure SI (t:Tb) (n:Nat) (s:bt):Prop where
 ok:s.Ok
 safe:∀p q,p<8->q<8->tb (gG t p) q=true->de (s.rn p)=true\/de (s.rn q)=true
 run:∀p:Nat,p<8->SF (aO t p) (s.rn p)
 off:∀p,p<8->n<=p->de (s.rn p)=true
 pre:V2 t s.pre
 ring:s.pre.aq=0->∀p:Nat,p<8->(s.rn p).aH=1->∃k:Int,(k=0\/k=1)/\kK t s.rings k=p
end
section
variable (t:Tb) (r:ff) (l:List Rn) (want k:Int)
structure KE (t:Tb) (n:Nat) (s:bt) (st fn ct:Int) (aq:Int) (rg:ff):Prop where
 start:∀p,p<8->tb st p=true->de (s.rn p)=true/\p<n/\∀q,q<8->tb (gG t p) q=true->de (s.rn q)=true
 two:∀p q,p<8->q<8->tb st p=true->tb st q=true->tb (gG t p) q=false
 fin:∀p:Nat,p<8->tb fn p=true->(s.rn p).aH=1->((aO t p).min<=(s.rn p).time/\(s.rn p).fst=0)\/aq=1\/aq=3
 cut:∀p,p<8->tb ct p=true->aq=1\/aq=3
 ring:aq=0->∀p:Nat,p<8->((s.rn p).aH=1/\tb fn p=false)\/tb st p=true->∃k:Int,(k=0\/k=1)/\kK t rg k=p
theorem FH{t:Tb} {l:List Rn} {p:Nat} (h:gm t l p=true):de (aE l p)=true/\(aE l p).time>=t.revert/\∀q,q<8->tb (gG t p) q=true->de (aE l q)=true:=by
 simp only[gm,ed,gc]at h;exact⟨h.1.1,h.1.2,kG.1 h.2⟩
def V5:Prop:=A9 t r l k=false/\sw t r want k>=0/\gm t l (nh t r.group k (sw t r want k)).toNat=true
def enR:Prop:=A9 t r l k=true/\Ap t r l want k=true
end
section
variable (t:Tb) (r:ff) (l:List Rn) (want:Int) {i:Nat} (k:Int)
def qR:Int:=nh t r.group k (sw t r want k)
theorem wo(x:ff×Int×Int):
  (enR t r l want k/\¬V5 t r l want k/\mA t r l want k x=(x.1,x.2.1,bJ x.2.2 (kK t r k)))\/(V5 t r l want k/\¬enR t r l want k/\mA t r l want k x=(x.1.put k (sw t r want k),bJ x.2.1 (qR t r want k),x.2.2))\/(¬enR t r l want k/\¬V5 t r l want k/\mA t r l want k x=x):=by
 unfold mA;split
 ·rename_i h
  split
  ·rename_i B
   exact .inl ⟨⟨h,B⟩,λA=>(by rw[A.1]at h;cases h),rfl⟩
  ·rename_i B
   exact .inr (.inr ⟨λA=>B A.2,λA=>(by rw[A.1]at h;cases h),rfl⟩)
 ·rename_i h
  split
  ·rename_i D
   split
   ·rename_i B
    exact .inr (.inl ⟨⟨by simpa using h,D,B⟩,λA=>h A.1,rfl⟩)
   ·rename_i B
    exact .inr (.inr ⟨λA=>h A.1,λA=>B A.2.2,rfl⟩)
  ·rename_i D
   exact .inr (.inr ⟨λA=>h A.1,λA=>D A.2.1,rfl⟩)
theorem mG{s:Int} {p:Int} (A:0<=p/\p<8) (i:Nat):tb (bJ s p) i=(tb s i&&decide (i<8)||decide ((i:Int)=p)):=by
 obtain⟨k,rfl⟩:∃k:Nat,p=k:=⟨p.toNat,ST⟩
 rw[jE ST]
 congr 1
 exact decide_eq_decide.2 ST
theorem vL(E:i<8):
  (tb (f7 t r l want).2.1 i=true->∃k:Int,(k=0\/k=1)/\V5 t r l want k/\(i:Int)=qR t r want k)/\
  (tb (f7 t r l want).2.2 i=true->∃k:Int,(k=0\/k=1)/\enR t r l want k/\(i:Int)=kK t r k):=by
 have A:∀k:Int,(k=0\/k=1)->V5 t r l want k->0<=qR t r want k/\qR t r want k<8:=λk hk h=>GP h.2.1 ST
 have n8:∀k:Int,enR t r l want k->0<=kK t r k/\kK t r k<8:=λk h=>LU h.1
 unfold f7
 have B:=wo t r l want 1 (mA t r l want 0 (r,0,0))
 have D:=wo t r l want 0 (r,0,0)
 rcases D with⟨a,b,e⟩|⟨a,b,e⟩|⟨a,b,e⟩<;>rw[e]at B⊢<;>rcases B with⟨a1,b1,e1⟩|⟨a1,b1,e1⟩|⟨a1,b1,e1⟩<;>rw[e1]<;>
  constructor<;>intro h<;>simp only[dr]at h<;>(try(cases h;done))
 all_goals
  first
   |rw[mG (n8 1 a1),mG (n8 0 a)]at h
   |rw[mG (A 1 (.inr rfl) a1),mG (A 0 (.inl rfl) a)]at h
   |rw[mG (n8 1 a1)]at h
   |rw[mG (A 1 (.inr rfl) a1)]at h
   |rw[mG (n8 0 a)]at h
   |rw[mG (A 0 (.inl rfl) a)]at h
  simp only[dr,E,xr,pA,nz,mi,gc]at h
  first
   |(rcases h with h|h
     ·exact⟨0,.inl rfl,a,h⟩
     ·exact⟨1,.inr rfl,a1,h⟩)
   |exact⟨0,.inl rfl,a,h⟩
   |exact⟨1,.inr rfl,a1,h⟩
theorem SG:(f7 t r l want).1.group=r.group/\∀k:Int,(k=0\/k=1)->(V5 t r l want k->(f7 t r l want).1.at k=sw t r want k)/\(¬V5 t r l want k->(f7 t r l want).1.at k=r.at k):=by
 unfold f7
 have A:=wo t r l want 1 (mA t r l want 0 (r,0,0))
 have B:=wo t r l want 0 (r,0,0)
 rcases B with⟨a,b,e⟩|⟨a,b,e⟩|⟨a,b,e⟩<;>rw[e]at A⊢<;>rcases A with⟨a1,b1,e1⟩|⟨a1,b1,e1⟩|⟨a1,b1,e1⟩<;>rw[e1]<;>
  refine⟨rfl,λk hk=>?_⟩<;>rcases hk with rfl|rfl<;>refine⟨λh=>?_,λh=>?_⟩<;>first|rfl|exact absurd h (by assumption)|exact absurd (by assumption) h
theorem NC{t:Tb} {r:ff} {k:Int} (hk:k=0\/k=1):kK t r k=nh t r.group k (r.at k):=by rw[kK,ek ST]
theorem ZL{t:Tb} {r:ff} {l:List Rn} {want k:Int} (hk:k=0\/k=1) (h:V5 t r l want k) (B:(i:Int)=qR t r want k):gm t l i=true:=by
 have A:=h.2.2
 rw[show nh t r.group k (sw t r want k)=qR t r want k from rfl,<-B,ix]at A
 exact A
end
section
variable {e k:Int} {n p q:Nat} {r:ff} {s:bt} {t:Tb} {want:Int}
theorem G8(g:TG t n) (E:p<8) (h:tb (f7 t r s.runs want).2.1 p=true):de (s.rn p)=true/\p<n/\∀q,q<8->tb (gG t p) q=true->de (s.rn q)=true:=by
 obtain⟨k,hk,D,B⟩:=(vL t r s.runs want E).1 h
 obtain⟨a,_,b⟩:=FH (ZL hk D B)
 refine⟨a,?_,b⟩
 have A:=FG g.uq (t:=t) (g:=r.group) (r:=k) (pl:=sw t r want k) (GP D.2.1 ST).1
 rw[show nh t r.group k (sw t r want k)=qR t r want k from rfl,<-B]at A
 exact g.whn p (by rw[A])
theorem ND(g:TG t n) (E:p<8) (L:q<8) (h:tb (f7 t r s.runs want).2.1 p=true) (R:tb (f7 t r s.runs want).2.1 q=true):tb (gG t p) q=false:=by
 obtain⟨k,hk,Z,B⟩:=(vL t r s.runs want E).1 h
 obtain⟨j,V,h3,D⟩:=(vL t r s.runs want L).1 R
 cases hc:tb (gG t p) q with
 |false=>rfl
 |true=>
  exfalso;obtain⟨O,A⟩:=g.con p q E L hc
  have a1:=(GP Z.2.1 ST).1
  have M:=(GP h3.2.1 ST).1
  rw[B,D]at A
  rcases hk with rfl|rfl<;>rcases V with rfl|rfl
  ·exact O (by have:=B.trans D.symm;omega)
  ·have:=G4 g.uq a1 M
   rw[show dP t (qR t r want 0) (qR t r want 1)=true from this]at A;cases A
  ·have:=G4 g.uq M a1
   rw[yE,show dP t (qR t r want 0) (qR t r want 1)=true from this]at A;cases A
  ·exact O (by have:=B.trans D.symm;omega)
theorem NF(I:SI t n s) (A:p<8) (B:(s.rn p).aH=1) (h:(s.rn p).done=true\/BD (aO t p) (s.rn p)=true):(aO t p).min<=(s.rn p).time/\(s.rn p).fst=0:=by
 have R:=I.run p A
 rcases h with h|h
 ·exact R.done B h
 ·simp only[BD,ed,gc,nb,H5,beq_eq_false_iff_ne]at h
  have:=R.dZ
  exact⟨h.1.1.2,ST⟩
theorem V6(I:SI t n s) (B:p<8) (h:tb (f7 t r s.runs want).2.2 p=true):(aO t p).min<=(s.rn p).time/\(s.rn p).fst=0:=by
 obtain⟨k,hk,D,E⟩:=(vL t r s.runs want B).2 h
 have A:=D.2
 rw[Ap,<-E,ix]at A
 have A:((s.rn p).aH==1&&(((s.rn p).done&&decide (sw t r want k>=0))||(BD (aO t p) (s.rn p)&& !bD want p)))=true:=A
 simp only[ed,mi,kb]at A;refine NF I B A.1 ?_
 rcases A.2 with h|h
 ·exact .inl h.1
 ·exact .inr h.1
theorem FI(A:(s.rn p).aH=1) (h:kK t r k=p):A9 t r s.runs k=true:=by
 rw[A9,h,ix]
 have:de (aE s.runs p)=false:=by show de (s.rn p)=false;simp[de,A]
 rw[this];simp
theorem ZM(g:TG t n) (I:SI t n s) (want:Int) (Z:s.pre.aq=0):KE t n s (CV t s.rings s.runs want).2.1 (CV t s.rings s.runs want).2.2 0 0 (CV t s.rings s.runs want).1:=by
 have z:∀p,tb (0:Int) p=true->False:=λp h=>by rw[dr]at h;cases h
 unfold CV;split
 ·refine⟨λp _ h=>(z p h).elim,λp q _ _ h=>(z p h).elim,λp _ h=>(z p h).elim,λp _ h=>(z p h).elim,λ_ p A h=>?_⟩
  rcases h with h|h
  ·have hr:((List.range 8).all λp=>de (aE s.runs p))=false:=List.all_eq_false.2 ⟨p,fp.2 A,by show ¬de (s.rn p)=true;simp[de,h.1]⟩
   have e:OS t s.rings s.runs want=s.rings:=by rw[OS,hr];rfl
   show∃k:Int,(k=0\/k=1)/\kK t (OS t s.rings s.runs want) k=p
   rw[e];exact I.ring Z p A h.1
  ·exact(z p h).elim
 ·have keep:∀p:Nat,p<8->(s.rn p).aH=1->∃k:Int,(k=0\/k=1)/\kK t (f7 t s.rings s.runs want).1 k=p:=by
   intro p A E;obtain⟨k,hk,L⟩:=I.ring Z p A E;refine⟨k,hk,?_⟩
   have M:=FI E L
   have aa:¬V5 t s.rings s.runs want k:=λhs=>by rw[hs.1]at M;cases M
   obtain⟨V,e2⟩:=SG t s.rings s.runs want;rw[NC hk,V,(e2 k hk).2 aa,<-NC hk,L]
  have begun:∀p:Nat,p<8->tb (f7 t s.rings s.runs want).2.1 p=true->∃k:Int,(k=0\/k=1)/\kK t (f7 t s.rings s.runs want).1 k=p:=by
   intro p A h
   obtain⟨k,hk,h1,h2⟩:=(vL t s.rings s.runs want A).1 h
   refine⟨k,hk,?_⟩;obtain⟨V,e2⟩:=SG t s.rings s.runs want;rw[NC hk,V,(e2 k hk).1 h1,h2];rfl
  split
  ·rename_i D
   simp only[LS,ed,kb]at D
   refine⟨λp A h=>G8 g A h,λp q A R h O=>ND g A R h O,λp A h E=>.inl ?_,λp _ h=>(z p h).elim,λ_ p A h=>?_⟩
   ·obtain⟨k,hk,L⟩:=I.ring Z p A E
    have M:=FI E L
    have B:mB t s.rings s.runs want k=true:=by rcases hk with rfl|rfl;exact D.2.1;exact D.2.2.1
    simp only[mB,Ao,M,L,ix,gs,nz,ed]at B;exact NF I A E (.inl B.2.2)
   ·rcases h with h|h
    ·exact keep p A h.1
    ·exact begun p A h
  ·refine⟨λp A h=>G8 g A h,λp q A R h O=>ND g A R h O,λp A h _=>.inl (V6 I A h),λp _ h=>(z p h).elim,λ_ p A h=>?_⟩
   rcases h with h|h
   ·exact keep p A h.1
   ·exact begun p A h
theorem V7(r:ff) (hk:k=0\/k=1) (x:Int):(r.put k x).at k=x/\(r.put k x).group=r.group/\∀j:Int,(j=0\/j=1)->j≠k->(r.put k x).at j=r.at j:=by
 rcases hk with rfl|rfl
 ·exact⟨rfl,rfl,λj A B=>by rcases A with rfl|rfl;exact absurd rfl B;rfl⟩
 ·exact⟨rfl,rfl,λj A B=>by rcases A with rfl|rfl;rfl;exact absurd rfl B⟩
theorem KH{t:Tb} {G:Int}:∀(L:List Nat) (r:ff),(∀p∈L,(az t p).2=true/\(az t p).1.group=G)->L.Pairwise (λp q:Nat=>(az t p).1.ring≠(az t q).1.ring)->r.group=G->(∀p∈L,r.at (az t p).1.ring<0)->
  (L.foldl (LV t) r).group=G/\(∀p∈L,(L.foldl (LV t) r).at (az t p).1.ring=(az t p).1.pos)/\∀k:Int,(k=0\/k=1)->(∀p∈L,(az t p).1.ring≠k)->(L.foldl (LV t) r).at k=r.at k
 |[],r,_,_,M,_=>⟨M,λp h=>(by cases h),λ_ _ _=>rfl⟩
 |p::L,r,O,hp,M,hn=>by
  obtain⟨Z,w2⟩:=O p TB
  have hr:=i4 Z
  have hk:(az t p).1.ring=0\/(az t p).1.ring=1:=ST
  obtain⟨g1,g2,g3⟩:=V7 r hk (az t p).1.pos
  have e:LV t r p=r.put (az t p).1.ring (az t p).1.pos:=by
   rw[LV,Z,w2,M,na (hn p TB)];simp
  obtain⟨D,R⟩:=List.pairwise_cons.1 hp
  obtain⟨i1,i2,i3⟩:=KH L (LV t r p) (λq A=>O q (by simp[A])) R (by rw[e,g2,M]) (λq A=>by
   have aa:=i4 (O q (by simp[A])).1
   rw[e,g3 _ ST (λh=>D q A h.symm)]
   exact hn q (by simp[A]))
  rw[p7]
  refine⟨i1,λq A=>?_,λk E B=>?_⟩
  ·rcases mp.1 A with rfl|A
   ·rw[i3 _ hk (λq' V h=>D q' V h.symm),e,g1]
   ·exact i2 q A
  ·rw[i3 k E (λq A=>B q (by simp[A])),e,g3 k E (λh=>B p TB h.symm)]
theorem C3{p q:Int} (h:dP t p q=true):(az t p).2=true/\(az t q).2=true/\(az t p).1.group=(az t q).1.group/\(az t p).1.ring≠(az t q).1.ring:=by
 simp only[dP,ed,kb,bne_iff_ne]at h;exact⟨h.1.1.1,h.1.1.2,h.1.2,h.2⟩
theorem V8(g:TG t n) (R:Ww t n e) (hp:p<8) (h:tb e p=true):∃k:Int,(k=0\/k=1)/\kK t (Ij t e) k=p:=by
 have hm:=zL hp h
 have A:∀q∈d6 e,(az t q).2=true:=λq B=>g.wh q (R.2.1 q (jd B) (oY B))
 obtain⟨E,Z⟩:∃E,(d6 e).head? =some E:=by
  cases hs:d6 e with
  |nil=>rw[hs]at hm;cases hm
  |cons a b=>exact⟨a,rfl⟩
 have M:E∈d6 e:=List.mem_of_mem_head? Z
 have O:uT e=E:=by rw[uT,Z]
 have L:∀q∈d6 e,(az t q).1.group=(az t E).1.group:=λq B=>by
  by_cases D:q=E
  ·rw[D]
  ·exact(C3 (R.2.2 q E (jd B) (jd M) (oY B) (oY M) D)).2.2.1
 have V:(d6 e).Pairwise (λp q:Nat=>(az t p).1.ring≠(az t q).1.ring):=by
  refine List.Pairwise.imp_of_mem ?_ (LL e);intro a b ha hb D;exact(C3 (R.2.2 a b (jd ha) (jd hb) (oY ha) (oY hb) D)).2.2.2
 have ab:=i4 (A p hm)
 have hk:(az t p).1.ring=0\/(az t p).1.ring=1:=ST
 obtain⟨a,b,_⟩:=KH (d6 e) ⟨(az t E).1.group,-1,-1,false⟩ (λq B=>⟨A q B,L q B⟩) V rfl (λq B=>by
  have aa:=i4 (A q B)
  have:(az t q).1.ring=0\/(az t q).1.ring=1:=ST
  rcases this with h|h<;>rw[h]<;>exact(by decide:(-1:Int)<0))
 refine⟨(az t p).1.ring,hk,?_⟩;rw[NC hk,Ij,O,a,b p hm,<-L p hm];exact SD (A p hm)
theorem SH(g:TG t n) {x:Pr} (h:0<=x.which/\x.which<(nR t:Int)):H8 t n (aR t x):=by
 rw[aR,et h]
 have A:x.which.toNat<(t.aV.getD []).length:=by have:nR t<=(t.aV.getD []).length:=Nat.min_le_left _ _;omega
 refine g.rl.2 _ ?_;rw[LK,eh,dT A];exact Do A
theorem ZN{x:Pr} (h:0<=x.which/\x.which<(nR t:Int)):OV t x.which=(aR t x).exit:=by
 have:nR t<=(t.aV.getD []).length:=Nat.min_le_left _ _
 rw[OV,ek ST,aR,et h]
theorem Iy(g:TG t n) (E:Ww t n e) (B:p<8) (D:q<8) (M:tb e p=true) (L:tb e q=true):tb (gG t p) q=false:=by
 cases O:tb (gG t p) q with
 |false=>rfl
 |true=>
  obtain⟨R,A⟩:=g.con p q B D O;rw[E.2.2 p q B D M L R]at A;cases A
theorem SJ(g:TG t n) (I:SI t n s) (h5:s.pre.aq=5) (R:gF t s.pre s.runs=0):
  KE t n s (jh t s.pre s.runs).start (jh t s.pre s.runs).fin (jh t s.pre s.runs).cut 0 (Ij t (OV t s.pre.which)):=by
 have hw:=I.pre.which (by rw[h5];decide)
 have M:=SH g hw
 have aa:=ZN (t:=t) hw
 have L:gQ s.runs (aJ .i64 255 (aR t s.pre).exit)=true:=by
  unfold gF at R;split at R
  ·rename_i h;simp only[ed]at h;exact h.1
  ·exact absurd R Ts
 have E:∀q,q<8->tb (aR t s.pre).exit q=false->de (s.rn q)=true:=λq D h=>kG.1 L q D (by rw[Zu D,h];rfl)
 have B:∀p,p<8->tb (jh t s.pre s.runs).start p=(tb (aR t s.pre).exit p&&de (s.rn p)):=λp A=>by
  show tb (kH (aR t s.pre).exit λp=>de (aE s.runs p)) p=_
  rw[Mc A];rfl
 have Z:(jh t s.pre s.runs).fin=0:=by rw[jh]
 have V:(jh t s.pre s.runs).cut=0:=by rw[jh]
 rw[aa]
 refine⟨λp A h=>?_,λp q A D h h'=>?_,λp _ h=>?_,λp _ h=>?_,λ_ p A h=>?_⟩
 ·rw[B p A,ed]at h
  refine⟨h.2,M.exit.1.2.1 p A h.1,λq D hc=>?_⟩
  refine E q D ?_
  cases O:tb (aR t s.pre).exit q with
  |false=>rfl
  |true=>rw[Iy g M.exit.1 A D h.1 O]at hc;cases hc
 ·rw[B p A,ed]at h
  rw[B q D,ed]at h';exact Iy g M.exit.1 A D h.1 h'.1
 ·rw[Z,dr]at h;cases h
 ·rw[V,dr]at h;cases h
 ·refine V8 g M.exit.1 A ?_
  rcases h with h|h
  ·cases O:tb (aR t s.pre).exit p with
   |true=>rfl
   |false=>have:=E p A O;simp[de,h.1]at this
  ·rw[B p A,ed]at h;exact h.1
theorem SK(g:TG t n) {x:Pr} (hw:0<=x.which/\x.which<(nR t:Int)) (h1:1<=x.aq) (h6:x.aq<6) (I:SI t n s) (L:ff):
  KE t n s (lq t x s.runs x.aq).start (lq t x s.runs x.aq).fin (lq t x s.runs x.aq).cut x.aq L:=by
 have Z:=SH g hw
 have z:∀p,tb (0:Int) p=true->False:=λp h=>by rw[dr]at h;cases h
 have B:∀e:Int,Ww t n e->KE t n s (su t s.runs e) 0 0 x.aq L:=λe R=>by
  have E:∀p,p<8->tb (su t s.runs e) p=(tb e p&&gm t s.runs p):=λp A=>Mc A
  refine⟨λp A h=>?_,λp q A O h M=>?_,λp _ h=>(z p h).elim,λp _ h=>(z p h).elim,λh=>absurd h ST⟩
  ·rw[E p A,ed]at h
   obtain⟨a,_,b⟩:=FH h.2;exact⟨a,R.2.1 p A h.1,b⟩
  ·rw[E p A,ed]at h
   rw[E q O,ed]at M;exact Iy g R A O h.1 M.1
 have e:x.aq=1\/x.aq=2\/x.aq=3\/x.aq=4\/x.aq=5:=ST
 rcases e with e|e|e|e|e
 ·rw[e]
  exact⟨λp _ h=>(z p h).elim,λp q _ _ h=>(z p h).elim,λp _ _ _=>.inr (.inl rfl),λp _ _=>.inl rfl,λh=>absurd h Ts⟩
 ·have:=B _ Z.clear
  rw[e]at this⊢;exact this
 ·rw[e]
  exact⟨λp _ h=>(z p h).elim,λp q _ _ h=>(z p h).elim,λp _ _ _=>.inr (.inr rfl),λp _ _=>.inr rfl,λh=>absurd h Ts⟩
 ·have:=B _ Z.ep.1
  rw[e]at this⊢;exact this
 ·rw[e]
  refine⟨λp _ h=>(z p h).elim,λp q _ _ h=>(z p h).elim,λp A h hc=>.inl ?_,λp _ h=>(z p h).elim,λh=>absurd h Ts⟩
  have V:tb (kH (aJ .i64 255 (aR t x).exit) λp=>Wx t p (aE s.runs p)) p=true:=h
  rw[Mc A,ed]at V
  have D:=V.2
  simp only[Wx,ed,gc,nb,H5,beq_eq_false_iff_ne]at D
  have hf:=(I.run p A).dZ
  exact⟨D.1.2,by have:(s.rn p).fst≠1/\(s.rn p).fst≠2:=D.2;omega⟩
theorem ZO(g:TG t n) (I:SI t n s) (x:Fg):V2 t (ox t s x).1/\KE t n s (F4 t s x).start (F4 t s x).fin (F4 t s x).cut (ox t s x).1.aq (Au t s x):=by
 obtain⟨M,h⟩:=SE x.lines s.runs I.pre;refine⟨M,?_⟩
 rw[show i5 t s.pre x.lines s.runs=ox t s x from rfl]at*
 rcases h with⟨A,E,B⟩|⟨A,E,B,R⟩|⟨A,E,B⟩
 ·have D:(ox t s x).2.free=true:=by rw[A]
  rw[F4,Au,D,B];exact ZM g I _ E
 ·have D:(ox t s x).2.free=false:=by rw[A];rfl
  have L:(ox t s x).2.back=true:=by rw[A];rfl
  rw[F4,Au,D,L,A,B];exact SJ g I E R
 ·have O:=Ma t (ox t s x).1 s.runs (to:=(ox t s x).1.aq) ST
  have D:(ox t s x).2.free=false:=by rw[B,O.1];simp;omega
  have L:(ox t s x).2.back=false:=by rw[B,O.2]
  rw[F4,Au,D,L]
  have:=SK g (M.which ST) A E I s.rings
  rw[<-B]at this;exact this
theorem A0(t:Tb) (s:bt) (x:Fg) (A:p<8):(Im t s x).rn p=dz (aO t p) (s.rn p) (F5 t s x p):=by
 show(lu t s (F5 t s x) 8).getD p default=_
 rw[lu,eh,im,kr A];simp[A]
theorem FJ(t:Tb) (s:bt) (x:Fg) (A:p<8):(F5 t s x p).start=tb (F4 t s x).start p/\(F5 t s x p).fin=tb (F4 t s x).fin p/\(F5 t s x p).cut=tb (F4 t s x).cut p:=⟨kz A,kz A,kz A⟩
theorem KI{p:Ph} {r:Rn} {c:Cu} (h:de r=true) (A:c.start=false):de (dz p r c)=true:=by
 have:=((Mk p r c).red h A).1
 simp[de,this]
theorem FK(t:Tb) (A:p<8):(qE t).rn p=wW (aO t p):=by
 show((List.range 8).map λ(p:Nat)=>if p<8 then wW (aO t p)else default).getD p default=_
 rw[eh,im,kr A];simp[A]
theorem SL:SI t n (qE t) where
 ok:=jc t
 safe:=λp q A _ _=>.inl (by rw[FK t A];rfl)
 run:=λp A=>by
  rw[FK t A]
  exact⟨by show(0:Int)<=0/\(0:Int)<=3;decide,by show(0:Int)<=0/\(0:Int)<=2;decide,λ_=>rfl,λ_=>rfl,λh=>absurd (show(0:Int)=1 from h) Ts⟩
 off:=λp A _=>by rw[FK t A];rfl
 pre:=⟨by show(0:Int)<=0/\(0:Int)<6;decide,λh=>absurd rfl h,λ_=>rfl⟩
 ring:=λ_ p A h=>by rw[FK t A]at h;exact absurd (show(0:Int)=1 from h) Ts
theorem V9(g:TG t n) (I:SI t n s) (x:Fg):SI t n (Im t s x):=by
 obtain⟨A,o⟩:=ZO g I x
 have B:∀p,p<8->de ((Im t s x).rn p)=false->de (s.rn p)=false\/tb (F4 t s x).start p=true:=λp A h=>by
  cases R:de (s.rn p)with
  |false=>exact .inl rfl
  |true=>
   cases L:tb (F4 t s x).start p with
   |true=>exact .inr rfl
   |false=>
    rw[A0 t s x A,KI R (by rw[(FJ t s x A).1,L])]at h;cases h
 refine⟨L3 t s x,λp q A E D=>?_,λp A=>?_,λp A hn=>?_,A,λh0 p A D=>?_⟩
 ·cases R:de ((Im t s x).rn p)with
  |true=>exact .inl rfl
  |false=>
   cases L:de ((Im t s x).rn q)with
   |true=>exact .inr rfl
   |false=>
    exfalso
    rcases B p A R with a|a<;>rcases B q E L with b|b
    ·rcases I.safe p q A E D with h|h
     ·rw[a]at h;cases h
     ·rw[b]at h;cases h
    ·have:=(o.start q E b).2.2 p A (by rw[g.sym q p E A];exact D)
     rw[a]at this;cases this
    ·have:=(o.start p A a).2.2 q E D
     rw[b]at this;cases this
    ·rw[o.two p q A E a b]at D;cases D
 ·rw[A0 t s x A]
  exact V4 _ (g.min A) (I.run p A)
 ·rw[A0 t s x A]
  refine KI (I.off p A hn) ?_;rw[(FJ t s x A).1]
  cases L:tb (F4 t s x).start p with
  |false=>rfl
  |true=>exact absurd (o.start p A L).2.1 ST
 ·refine o.ring h0 p A ?_
  rw[A0 t s x A]at D
  have M:=Mk (aO t p) (s.rn p) (F5 t s x p)
  obtain⟨Z,b2,_⟩:=FJ t s x A
  rcases G7 (I.run p A).col with⟨e,O⟩|⟨e,O⟩|⟨e,O⟩|⟨e,O⟩
  ·right
   rw[<-Z]
   cases V:(F5 t s x p).start with
   |true=>rfl
   |false=>have:=(M.red O V).1;omega
  ·left
   refine⟨e,?_⟩;rw[<-b2]
   cases V:(F5 t s x p).fin with
   |false=>rfl
   |true=>have:=(M.fin e V).1;omega
  ·have:=(M.eZ e).2;omega
  ·have:=(M.clear e).2;omega
theorem SM{t:Tb} {n:Nat} (g:TG t n) (A:List Fr):∀i,SI t n (runT t A i)
 |0=>SL
 |i+1=>V9 g (SM g A i) _
theorem tnd(l:Option (List Int)):Zj (cJ l)<=1000000:=ka (acH l).1 ST
end
end Go.Eng
