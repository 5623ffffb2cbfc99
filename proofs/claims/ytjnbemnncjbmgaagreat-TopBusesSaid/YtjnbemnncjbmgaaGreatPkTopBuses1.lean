/- The library of TopBuses. -/
import Derived.Test.YtjnbemnncjbmgaaGreatPk22
set_option linter.all false
set_option maxRecDepth 10000
set_option maxHeartbeats 4000000
namespace Go.Eng
open Go
theorem IV(D:Rn->Bool) (l:List Rn):∀k,k<=8->∀i,tb (jP D l k) i=(decide (i<k)&&D (l.getD i default))
 |0,_,i=>by simp[jP,ef]
 |k+1,h,i=>by
  have L:=IV D l k ado i
  simp only[jP];split
  ·rename_i hk
   rw[ng ado,L]
   by_cases e:i=k
   ·subst e;simp only[Id,M2,show i<i+1 from Nat.lt_succ_self i,py];exact hk.symm
   ·have:(i<k+1)↔i<k:=ado
    simp[e,this];omega
  ·rename_i hk
   rw[L]
   by_cases e:i=k
   ·subst e
    simp only[abV]at hk;rw[hk];simp
   ·have:(i<k+1)↔i<k:=ado
    simp[this]
theorem O4(l:List Rn):∀k,k<=8->∀i,tb (iR l k) i=(decide (i<k)&&(l.getD i default).az==1)
 |0,_,i=>by simp[iR,ef]
 |k+1,h,i=>by
  have D:=O4 l k ado i
  simp only[iR];split
  ·rename_i hk
   rw[sY ado,D]
   by_cases e:i=k
   ·subst e;simp only[Id,M2,show i<i+1 from Nat.lt_succ_self i,py,hk];simp;omega
   ·have:(i<k+1)↔i<k:=ado
    simp[e,this];omega
  ·rename_i hk
   rw[D]
   by_cases e:i=k
   ·subst e
    simpa using hk
   ·have:(i<k+1)↔i<k:=ado
    simp[this]
theorem UX{t:Tb} {s:Rd} {D:List Rn} {ask:Int} {p:Nat} (M:p<8) (h:tb (Ez t s D ask) p=true):
  tb (bT .i64 ((jJ t (sV t s ask)).foldl (No t) 0) (iR D 8)) p=true/\(D.getD p default).extra<t.extend:=by
 unfold Ez at h;split at h
 ·rw[ef]at h;cases h
 ·rw[xg,IV _ _ 8 ado,ed]at h
  rw[xg,O4 _ 8 ado,ed]
  obtain⟨O,L⟩:=h;simp only[M,Id,py,G3,ed,ii]at L⊢;exact⟨⟨O,L.1⟩,L.2⟩
theorem ahG(l:Option (List Int)):(0<=(bk l).extend/\(bk l).extend<=11)/\(0<=(bk l).revert/\(bk l).revert<=7)/\(0<=(bk l).share/\(bk l).share<=3):=by
 have V:=aP l 178 (n:=12) adp adp
 have M:=aP l 181 (n:=8) adp adp
 have L:=aP l 183 (n:=4) adp adp
 have D:(bk l).extend=cJ l 178 12:=rfl
 have O:(bk l).revert=cJ l 181 8:=rfl
 have R:(bk l).share=cJ l 183 4:=rfl
 omega
section
open Z
def vP(R D M L O:Nat):bJ:=(⟨_,by conv=>lhs;ext y0 y1 y2 y3;cbv⟩:bS λ(y0 y1 y2 y3:List AV)=>cE 169 [.tmp 4] [R,D,M,L,O] [0,1,3,8,2] 0x1420012a05e65f20120120039e3c2f018c50bc1f96285f29c5f0211c012003ee722f018b2c881004a1342fe38389a17f43f810c7e0b800d8bc3fc5855826c906d11117f4a05a3e1fe1403410e064ffbc2c044a8bc0242f00262f05063a10547f05a15c2806831d082a3f82d07e1403418e84151fc168080bf8500890a0f820787fc18be6262f06591020080e8e09e1f9e0f8e82f5eac0f18405fc58041b85fde1f18200c11d05ebc44e1217f08200c124445fc4090222fe20411117f1020c04746360bc02e2f030242f00b81c088222fe20400291017f1021888bf8a81840828c04747b84c4101b1c4862f03c0f0ff1601074704949f0f8be1feac0f14405fc58041a1c1e3880bf8b00890c1820080bf884c5e06240a30d1d112003041808e8b49178180485fa222fd1117c9ea40bf8171105fc4b87e2fe454e9f4fc3efd09d820882f1770e04e42044008eb8bb87027210220046fc5dcec5e01417d91b994b02190d1837178080e09c060818d003a3910949f0f80159a85e0d8eb8b00890a0f82001350bc08d158be7a0542fe182917f02c50bca05fc4a5d1a79100bf9e3e2402fe78f80140bdebe0805e008a333304b0156785b86285efd3062f5e422f8080bc05cc258101346146e10342f0201c0380c1032e88450bc645fc0a2ef0123418bc8c0be080180c084d0585e03083178a8bf81415e02068282f02048810 [y1,y2,[.int .i64 0,.int .i64 0,.int .i64 0,.int .i64 0,.int .i64 0,.int .i64 0,.int .i64 0,.int .i64 0],y0,y3] [] [.mm false [.t 103,.t 105],.mm true [.t 100,.t 106],.mm true [.t 112,.t 117,.t 118]]).1 bB bL aD dV
end
section
variable (p:Ph) (r:Rn)
def Jf:Int:=max (max p.min (p.walk+p.cz)) (ET p r.limit)
def Mi(D:Rn) (n:Int):Int:=if D.az≠1\/D.done=true\/D.dX=r.dX\/r.az≠1 then 0 else n+1
def Fw9(n st time:Int):Prop:=(st=1->1<=time/\n<=time/\time<=p.walk)/\(st=2->n<=p.walk+time/\0<=time/\time<=p.cz)
structure BI (p:Ph) (e i:Int) (r:Rn) (n:Int):Prop where
 n0:0<=n
 ex:0<=r.extra/\r.extra<=e/\r.extra<=i
 pr:0<=r.dX/\r.dX<=i
 tm:r.az=1->n<r.time
 np:n<=r.dX
 fw:Fw9 p n r.fst r.bI
 m:n<=Jf p r+r.extra
def PhW:Prop:=0<=p.min/\((p.walk=0/\p.cz=0)\/(1<=p.walk/\p.walk<=10/\1<=p.cz/\p.cz<=10))
theorem DU:p.min<=Jf p r/\p.walk+p.cz<=Jf p r/\ET p r.limit<=Jf p r:=by
 unfold Jf;omega
end
section
variable (t:Tb) {c:Cu} {e i m n:Int} {p:Ph} {r:Rn} (s:bD)
theorem SX{st time:Int} {b:Bool} (R:PhW p) (h:Fw9 p n st time) (O:b=true->m=0) (hm:m<=n+1):Fw9 p m (JW p st time b).1 (JW p st time b).2:=by
 have V:=R.2
 rcases DH p st time b with⟨e,a,d⟩|⟨e,a,d⟩|⟨e,a,d⟩|⟨e,a,d⟩|⟨e,a,d⟩
 ·rw[e]
  have:=h.1 a
  exact⟨λk=>absurd (show(2:Int)=1 from k) adp,λ_=>(by show m<=p.walk+1/\(0:Int)<=1/\1<=p.cz;omega)⟩
 ·rw[e]
  exact⟨λk=>absurd (show(0:Int)=1 from k) adp,λk=>absurd (show(0:Int)=2 from k) adp⟩
 ·rw[e]
  have:=h.1 a
  have hm:=uR (n:=time) ado ado
  exact⟨λ_=>(by show 1<=bt time/\m<=bt time/\bt time<=p.walk;omega),λk=>absurd (show(1:Int)=2 from k) adp⟩
 ·rw[e]
  have:=h.2 a
  have hm:=uR (n:=time) ado ado
  exact⟨λk=>absurd (show(2:Int)=1 from k) adp,λ_=>(by show m<=p.walk+bt time/\0<=bt time/\bt time<=p.cz;omega)⟩
 ·have L:(st==1)=false:=by simpa using a
  have M:(st==2)=false:=by simpa using d
  unfold JW;rw[L,M];simp only[px,eQ,il,QR]
  cases D:(b&&decide (p.walk>0))with
  |true=>
   simp only[ed,ii]at D
   have:=O D.1
   exact⟨λ_=>(by show(1:Int)<=1/\m<=1/\1<=p.walk;omega),λk=>absurd (show(1:Int)=2 from k) adp⟩
  |false=>exact⟨λk=>absurd (show(0:Int)=1 from k) adp,λk=>absurd (show(0:Int)=2 from k) adp⟩
theorem Y8(O:PhW p) (h:Fw9 p n r.fst r.bI) (R:c.bO=true->c.cut=false) (hm:m<=n+1) (L:c.bO=false->m=0):Fw9 p m (HF p r c).1 (HF p r c).2:=by
 have V:=O.2
 unfold HF;split
 ·rename_i k
  simp only[ed,l4]at k
  have D:c.bO=false:=by
   cases D:c.bO with
   |false=>rfl
   |true=>rw[R D]at k;exact absurd k.1 adp
  have:=L D
  have:=h.1 k.2
  rw[k.2]
  exact⟨λk=>absurd (show(2:Int)=1 from k) adp,λ_=>(by show m<=p.walk+1/\(0:Int)<=1/\1<=p.cz;omega)⟩
 ·refine SX O h (λM=>L ?_) hm
  simp only[ed,pA]at M;exact M.2
theorem Mj(p:Ph) (n:Int):Fw9 p n 0 0:=⟨λk=>absurd k adp,λk=>absurd k adp⟩
theorem IW{col time:Int} (L:PhW p) (O:0<=e) (M:0<=i) (D:col=1->0<time):BI p e i (qG r col time) 0:=
 ⟨pu _,by show(0:Int)<=0/\(0:Int)<=e/\(0:Int)<=i;omega,by show(0:Int)<=0/\(0:Int)<=i;omega,D,pu _,Mj p 0,by have:=(DU p (qG r col time)).1;have:=L.1;show 0<=Jf p (qG r col time)+0;omega⟩
theorem BI.lim{D:Rn} (B:BI p e i r 0) (Z:PhW p) (R:D.extra=r.extra) (L:D.dX=r.dX) (O:D.az=r.az) (h4:D.time=r.time) (V:D.fst=r.fst) (M:D.bI=r.bI):BI p e i D 0:=by
 obtain⟨n0,ex,pr,tm,np,fw,m⟩:=B
 have:=(DU p D).1
 have:=Z.1
 exact⟨n0,by rw[R];exact ex,by rw[L];exact pr,by rw[O,h4];exact tm,by rw[L];exact np,by rw[V,M];exact fw,ado⟩
theorem acO(M:PhW p) (B:BI p e i r n) (col:0<=r.az/\r.az<=3) (hi:0<=i/\i<=1500) (he:0<=e) (hc:c.bO=true->c.cut=false) (hh:c.hold=true->r.extra<e):BI p e (i+1) (bG p r c) (Mi r (bG p r c) n):=by
 obtain⟨n0,ex,pr,tm,np,fw,m⟩:=B
 have ae:r.az=0\/r.az=1\/r.az=2\/r.az=3:=ado
 have ak:=M.1
 rcases ae with h|h|h|h
 ·have e0:Mi r (bG p r c) n=0:=by unfold Mi;rw[fp ado]
  rw[e0]
  have e1:bG p r c=Fg p r c:=by simp[bG,h]
  rw[e1];unfold Fg;split
  ·have b:=IW (p:=p) (e:=e) (i:=i+1) (r:=r) (col:=1) (time:=1) M he ado (λ_=>adp)
   exact⟨b.n0,b.ex,b.pr,b.tm,b.np,SX M (Mj p 0) (λ_=>rfl) adp,b.m⟩
  ·exact IW M he ado (λk=>absurd k adp)
 ·have e1:bG p r c=gx p r c:=by simp[bG,h]
  rw[e1]
  cases O:c.fin with
  |true=>
   obtain⟨g1,_⟩:=Kq (p:=p) (r:=r) O
   have e0:Mi r (gx p r c) n=0:=by unfold Mi;rw[fp ado]
   rw[e0];unfold gx;rw[O];simp only[kw];split
   ·have b:=IW (p:=p) (e:=e) (i:=i+1) (r:=r) (col:=2) (time:=1) M he ado (λk=>absurd k adp)
    exact b.lim M rfl rfl rfl rfl rfl rfl
   ·exact IW M he ado (λk=>absurd k adp)
  |false=>
   have t1:=tm h
   have ht:n+1<bt r.time:=by
    have:bt r.time=gM r.time 0 9999+1:=aU (by unfold gM;split<;>(try split)<;>omega) (by unfold gM;split<;>(try split)<;>omega)
    rw[this];unfold gM;split
    ·omega
    ·split<;>omega
   have ag:=uR (n:=r.dX) ado ado
   have am:=uR (n:=r.extra) ado ado
   have ad:=Y8 (m:=0) M fw hc ado (λ_=>rfl)
   have V:(iG p r c).dX=if c.bO then r.dX+1 else r.dX:=by
    show(if c.bO then bt r.dX else r.dX)=_
    rw[ag]
   have al:=DU p r
   have aa:0<=(iG p r c).dX/\(iG p r c).dX<=i+1:=by rw[V];split<;>omega
   have R:∀D:Rn,D.az=1->D.time=bt r.time->D.fst=(HF p r c).1->D.bI=(HF p r c).2->D.dX=(iG p r c).dX->D.limit=r.limit->(0<=D.extra/\D.extra<=e/\D.extra<=i+1)->(c.bO=true->D.done=false->n+1<=Jf p r+D.extra)->BI p e (i+1) D (Mi r D n):=by
    intro D h1 h2 h3 h4 h5 h6 h7 h8
    have hM:Jf p D=Jf p r:=by unfold Jf;rw[h6]
    by_cases hz:D.az≠1\/D.done=true\/D.dX=r.dX\/r.az≠1
    ·rw[Mi,fp hz]
     exact⟨pu _,h7,by rw[h5];exact aa,λ_=>by rw[h2];omega,by rw[h5];exact aa.1,by rw[h3,h4];exact ad,by rw[hM];omega⟩
    ·rw[Mi,fb hz]
     simp only[not_or,Classical.not_not]at hz;obtain⟨_,z2,z3,_⟩:=hz
     have L:c.bO=true:=by
      cases L:c.bO with
      |true=>rfl
      |false=>exfalso;apply z3;rw[h5,V,L];rfl
     have ab:D.dX=r.dX+1:=by rw[h5,V,L];rfl
     have Z:=Y8 (m:=n+1) M fw hc (pu _) (λk=>by rw[L]at k;cases k)
     exact⟨ado,h7,ado,λ_=>by rw[h2];omega,ado,by rw[h3,h4];exact Z,by rw[hM];exact h8 L (by simpa using z2)⟩
   unfold gx;rw[O];simp only[eQ,il];split
   ·rename_i hd
    simp only[ed]at hd
    have:=hh hd.2
    refine R _ rfl rfl rfl rfl rfl rfl ?_ (λ_ _=>?_)
    ·show 0<=bt r.extra/\bt r.extra<=e/\bt r.extra<=i+1
     omega
    ·show n+1<=Jf p r+bt r.extra
     omega
   ·split
    ·refine R _ rfl rfl rfl rfl rfl rfl ⟨ex.1,ex.2.1,by show r.extra<=i+1;omega⟩ (λ_ k=>absurd (show true=false from k) adp)
    ·rename_i hd
     refine R _ rfl rfl rfl rfl rfl rfl ⟨ex.1,ex.2.1,by show r.extra<=i+1;omega⟩ (λL ac=>?_)
     show n+1<=Jf p r+r.extra
     have Z:=Y8 (m:=n+1) M fw hc (pu _) (λk=>by rw[L]at k;cases k)
     have ab:(iG p r c).dX=r.dX+1:=by rw[V,L];rfl
     by_cases d1:(iG p r c).time>=p.min
     ·by_cases d2:gT (iG p r c).fst=true
      ·simp only[gT,na,l4]at d2
       have w2:=M.2
       rcases d2 with d2|d2
       ·have:=Z.1 d2;omega
       ·have:=Z.2 d2;omega
      ·have hl:cq p (iG p r c)=false:=by
        cases hl:cq p (iG p r c)with
        |false=>rfl
        |true=>
         exfalso;apply hd
         unfold eH;rw[L,ac,IR d1,hl];simp only[abV]at d2;rw[d2];simp
       have hl:¬(iG p r c).dX>=ET p (iG p r c).limit:=by simpa[cq]using hl
       have hl:¬(iG p r c).dX>=ET p r.limit:=hl
       omega
     ·have d1:¬bt r.time>=p.min:=d1
      omega
 ·have e1:bG p r c=lP p r:=by simp[bG,h]
  have e0:Mi r (bG p r c) n=0:=by unfold Mi;rw[fp ado]
  rw[e0,e1];unfold lP;split
  ·exact IW M he ado (λk=>absurd k adp)
  ·split<;>exact IW M he ado (λk=>absurd k adp)
 ·have e1:bG p r c=sg p r:=by simp[bG,h]
  have e0:Mi r (bG p r c) n=0:=by unfold Mi;rw[fp ado]
  rw[e0,e1];unfold sg
  split<;>exact IW M he ado (λk=>absurd k adp)
theorem IX{t:Tb} {n:Nat} (g:TG t n) {p:Nat} (D:p<8):PhW (aK t p):=by
 by_cases h:p<n
 ·have:=g.ph p h
  have M:=this.min
  have L:=this.walk
  exact⟨ado,L⟩
 ·rw[g.off p D ado]
  exact⟨adp,.inl ⟨rfl,rfl⟩⟩
theorem SY(x:E0) {p:Nat} (D:p<8):((lp t s x p).bO=true->(lp t s x p).cut=false)/\((lp t s x p).hold=true->(s.rn p).extra<t.extend):=by
 have L:(lp t s x p).bO=tb (E1 t s x).bO p:=jd D
 have M:(lp t s x p).cut=tb (E1 t s x).cut p:=jd D
 have O:(lp t s x p).hold=tb (E1 t s x).hold p:=jd D
 rw[L,M,O];unfold E1;split
 ·exact⟨λ_=>ef _,λh=>(UX D h).2⟩
 ·refine⟨λh=>?_,λh=>?_⟩
  ·have h:tb (0:Int) p=true:=h
   rw[ef]at h;cases h
  ·have h:tb (0:Int) p=true:=h
   rw[ef]at h;cases h
theorem BI.weak(D:PhW p) (B:BI p e i r n):BI p e (i+1) r 0:=by
 obtain⟨n0,ex,pr,tm,np,fw,m⟩:=B
 have:=(DU p r).1
 have:=D.1
 exact⟨pu _,ado,ado,λh=>by have:=tm h;omega,pr.1,⟨λh=>by have:=fw.1 h;omega,λh=>by have:=fw.2 h;have:=D.2;omega⟩,ado⟩
theorem BI.Qq(D:PhW p) (M:0<=e) (L:0<=i):BI p e i (zy p) 0:=by
 have:=(DU p (zy p)).1
 have:=D.1
 exact⟨pu _,by show(0:Int)<=0/\(0:Int)<=e/\(0:Int)<=i;omega,by show(0:Int)<=0/\(0:Int)<=i;omega,λh=>absurd (show(0:Int)=1 from h) adp,pu _,Mj p 0,by show 0<=Jf p (zy p)+0;omega⟩
def BIs(i:Int) (s:bD) (k:Nat->Int):Prop:=∀p:Nat,p<8->BI (aK t p) t.extend i (s.rn p) (k p)
def buX(b D:Bx) (k:Nat->Int) (p:Nat):Int:=Mi (b.st.rn p) (D.st.rn p) (k p)
end
section
variable {b:Bx} {n p:Nat} {t:Tb} {x:Fr}
theorem Y9(g:TG t n) (L:0<=t.extend) (I:CI t n b) {k:Nat->Int} {i:Int} (M:0<=i/\i<=1500) (N:BIs t i b.st k):BIs t (i+1) (gz t b x).st (buX b (gz t b x) k):=λp D=>by
 unfold buX
 rcases L8 t b x with e|e|⟨y,e⟩<;>rw[e]
 ·rw[Mi,fp (.inr (.inr (.inl rfl)))]
  exact(N p D).weak (IX g D)
 ·rw[AI t D,Mi,fp (.inl (show ¬(0:Int)=1 by decide))]
  exact BI.Qq (IX g D) L ado
 ·rw[lS t b.st y D]
  exact acO (IX g D) (N p D) (I.si.run p D).col M L (SY t b.st y D).1 (SY t b.st y D).2
def DW(t:Tb) (D:List Fr):Nat->Nat->Int
 |0,_=>0
 |i+1,p=>buX (eO t D i) (eO t D (i+1)) (DW t D i) p
theorem AU(t:Tb) (D:List Fr):∀i p,0<=DW t D i p/\DW t D i p<=i
 |0,_=>⟨pu _,pu _⟩
 |i+1,p=>by
  have:=AU t D i p
  unfold DW buX Mi
  split<;>omega
theorem SZ{t:Tb} {n:Nat} (g:TG t n) (M:vT t) (L:0<=t.extend) {D:List Fr} (O:Qm D) (V:D.length<=1500):∀i,i<=D.length->BIs t i (eO t D i).st (DW t D i)
 |0,_=>λp R=>by
  show BI _ _ _ ((pW t).rn p) 0
  rw[AI t R];exact BI.Qq (IX g R) L (pu _)
 |i+1,h=>Y9 g L (CI.run g M O i ado) ado (SZ g M L O V i ado)
theorem ahH(g:TG t n) (I:CI t n b) (h2:b.mode=2) (V:(gz t b x).mode=2) (M:p<8) (O:(b.st.rn p).az=1) (R:((gz t b x).st.rn p).az=2) (D:AO (gz t b x)=false):decide ((b.st.rn p).time<(aK t p).min)=false/\((b.st.rn p).fst !=0)=false:=by
 obtain⟨e,_⟩:=qj (x:=x) h2 V
 obtain⟨_,o⟩:=LK g I.si (gE x b.lines).LH
 unfold AO at D;rw[e]at R D;rw[lS t b.st _ M]at R
 have Z:=AH (aK t p) (b.st.rn p) (lp t b.st (gE x b.lines).LH p)
 have L:(lp t b.st (gE x b.lines).LH p).fin=true:=by
  cases L:(lp t b.st (gE x b.lines).LH p).fin with
  |true=>rfl
  |false=>have:=(Z.green O L).1;omega
 rw[(lT t b.st _ M).2.1]at L
 have D:((jS t b.st (gE x b.lines).LH).1.ax==1||(jS t b.st (gE x b.lines).LH).1.ax==3)=false:=D
 rcases o.fin p M L O with h|h|h
 ·exact⟨ut ado,by simpa using h.2⟩
 ·rw[h]at D;cases D
 ·rw[h]at D;cases D
def buL(p:Ph) (x:Int):Int:=if(if p.top<x then p.top else x)>p.max then(if p.top<x then p.top else x)else p.max
theorem ahI(p:Ph) (r:Rn):(if buL p r.limit>(if p.walk+p.cz>p.min then p.walk+p.cz else p.min)then buL p r.limit else(if p.walk+p.cz>p.min then p.walk+p.cz else p.min))=Jf p r:=by
 unfold Jf buL ET
 repeat' split
 all_goals omega
theorem acP{cs mid:List AV} {off z:Nat} (M:mid.length=z) (L:off+z<=cs.length) (h:∀j,j<z->cs[off+j]? =mid[j]?):aB cs off (some z)=some (.agg mid):=by
 simp only[aB];rw[fp L]
 congr 2
 refine List.ext_getElem? λj=>?_
 by_cases D:j<z
 ·rw[sa D,lL,h j D]
 ·rw[kh (by simp;omega),kh ado]
theorem Bx.O5(h:b.Ok) (L:p<8):aB b.cells (3+p*12) (some 12)=some (.agg (b.st.rn p).cells):=by
 refine acP rfl (by rw[Bx.len h];omega) λj D=>?_
 rw[show 3+p*12+j=3+(p*12+j)by omega,Bx.YS h ado,bD.Du h.st L D]
theorem acQ(k D:Nat->Int) (L:p<8):(vW k D (p+1))[p]? =some (I (D p)):=by
 rw[vW,ka,kv L];simp
theorem ahJ(m:Bool) (k:AV->Prop) (a b c:AV):mmP m k [a,b,c]=aj (UY m a b) λd=>aj (UY m d c) k:=by
 simp only[mmP,List.foldlM_cons,List.foldlM_nil,pb]
 cases UY m a b<;>simp[aj]
def Mk.Spec(C:aT) (f:Nat):Prop:=∀l sc:Option (List Int),C.c f [aI aH l,aI aH sc] (B true) none
end
section
variable{P:Program} (hm:P.follows .mixedOrders=true) {f:Nat}
include hm
theorem Mk.ok{fT fC fB fS fA:Nat} (hc:bK P f=some (vP fT fC fB fS fA)) (hT:Table.Spec (Pure P) fT) (hC:qg.Spec (Pure P) fC) (hB:lO.Spec (Pure P) fB) (hS:qi.Spec (Pure P) fS) (hA:jw.Spec (Pure P) fA):Mk.Spec (Pure P) f:=by
 intro l sc
 have ab:=vT.table l
 have hg:=Ie l
 have b6:=IK l
 have ao:=(ahG l).1
 obtain⟨t,a4⟩:∃t,bk l=t:=⟨_,rfl⟩
 obtain⟨M,au⟩:∃x,ez (gD true (sc.getD []))=x:=⟨_,rfl⟩
 have a2:M.getD []=gD true (sc.getD []):=by rw[<-au,dB]
 have ac:Qm (M.getD []):=by rw[a2];exact kM _ _
 have bi:(M.getD []).length<=1500:=by rw[a2];exact kN _ _
 have cT:=hT l
 rw[a4]at cT ab hg b6 ao
 have cC:=hC sc true
 rw[au]at cC
 have ht:=ab.tok
 have a5:=Tb.len ht
 have bo:=Tb.whole ht
 have z1:bL.length=131:=rfl
 have z2:setCells bL 0 t.cells=t.cells:=aM (by rw[a5];rfl)
 have z3:aD.length=138:=rfl
 have ag:=λi (h:i<=(M.getD []).length)=>CI.run hg ab ac i h
 clear a4 au a2;generalize nT l=n at*
 have a8:0<=t.extend/\t.extend<=11:=ao
 have bd:=λi (h:i<=(M.getD []).length)=>SZ hg ab a8.1 ac bi i h
 have n0:[.int .i64 0,.int .i64 0,.int .i64 0,.int .i64 0,.int .i64 0,.int .i64 0,.int .i64 0,.int .i64 0]=vW (DW t (M.getD []) 0) (DW t (M.getD []) 0) 0:=rfl
 have ae:=dC a5 (dC bo (dC z1 (dC z2 (z3))))
 refine aq hm hc [6] rfl ?_;try simp only[B,RY,↓KW,seval,vP,Z.H]
 refine af cT ?_;try simp only[RY,↓KW,seval,ae]
 refine af cC ?_;try simp only[RY,↓KW,seval,ae]
 have a9:(jQ t).Ok:=nk t
 have b0:=Bx.len a9
 have b2:setCells aD 0 (jQ t).cells=(jQ t).cells:=aM (by rw[b0];rfl)
 refine af (hB t ht) ?_;try simp only[RY,↓KW,seval,b0,b2,ae]
 refine aG (λi:Nat=>(⟨[(9,.dat (I i) none),(6,.dat (aI Fr.cells M) none),(5,.ptr 7 0),(7,.ptr 14 0),(8,.ptr 16 0)],[(7,⟨t.cells,[]⟩),(14,⟨(eO t (M.getD []) i).cells,[]⟩),(16,⟨vW (DW t (M.getD []) i) (DW t (M.getD []) i) 0,[]⟩)],[],400⟩:S)) (λi=>1500-i) (λi=>i<=(M.getD []).length) ?_ 0 ado ?_
 rotate_left
 ·refine ai adp ?_ ?_ ?_ ?_<;>simp[LX,I,eO,n0]
 intro i hi A back
 have b8:=aC (k:=i) ado
 rcases bf (decide ((i:Int)<((M.getD []).length:Int)))with h|h
 ·try simp only[I,RY,↓KW,seval,h]
  refine af hA ?_;try simp only[B,RY,↓KW,seval]
 ·have h1:i<(M.getD []).length:=by have:=dE h;omega
  obtain⟨x,hx⟩:∃x,(M.getD [])[i]? =some x:=⟨_,eh h1⟩
  have bw:(M.getD []).getD i default=x:=by rw[em,hx];rfl
  have be:(x.samples.getD []).length<=1000000:=ac x (er hx)
  have a3:eO t (M.getD []) (i+1)=gz t (eO t (M.getD []) i) x:=by rw[<-bw];rfl
  have hI:=ag i hi
  have hJ:=ag (i+1) ado
  have cS:=hS t (eO t (M.getD []) i) x (hI.inv.ins ab be)
  rw[lX]at cS;rw[a3]at hJ
  have hy:0<=(i:Int)/\(i:Int)<((M.getD []).length:Int):=ado
  obtain⟨g1,g2,g3,g4,g5⟩:=Pc x
  have K':=bd (i+1) ado
  have ar:=λh2 h3 p hp=>ahH hg hI (x:=x) h2 h3 (p:=p) hp
  have b7:=AU t (M.getD []) i
  have ca:=AU t (M.getD []) (i+1)
  have b5:∀p,DW t (M.getD []) (i+1) p=buX (eO t (M.getD []) i) (eO t (M.getD []) (i+1)) (DW t (M.getD []) i) p:=λ_=>rfl
  rw[<-a3]at ar
  have a7:=AN t (eO t (M.getD []) i) x
  have b3:=Bx.len hI.inv.mZ
  have b4:=Bx.whole hI.inv.mZ
  have c1:=Bx.len hJ.inv.mZ
  have c4:=Bx.whole hJ.inv.mZ
  rw[<-a3]at cS c1 c4 hJ;generalize vM t (eO t (M.getD []) i) x=L at*;generalize Sm t (eO t (M.getD []) i) x=ev at*
  have c2:setCells aD 0 (eO t (M.getD []) (i+1)).cells=(eO t (M.getD []) (i+1)).cells:=aM (by rw[c1];rfl)
  have c3:setCells (eO t (M.getD []) i).cells 0 (eO t (M.getD []) (i+1)).cells=(eO t (M.getD []) (i+1)).cells:=aM (by rw[b3,c1])
  generalize ce:eO t (M.getD []) i=b at*;generalize bs:eO t (M.getD []) (i+1)=b' at*
  have d1:(L.map I).length=8:=by simp[a7]
  have d2:setCells [.int .i64 0,.int .i64 0,.int .i64 0,.int .i64 0,.int .i64 0,.int .i64 0,.int .i64 0,.int .i64 0] 0 (L.map I)=L.map I:=aM (by rw[d1];rfl)
  have d3:aB (L.map I) 0 (some 8)=some (.agg (L.map I)):=by
   simp only[aB,d1,kb]
   rw[fp ado,<-d1,io]
  have m1:b.cells[0]? =some (I b.mode):=rfl
  have m2:b'.cells[0]? =some (I b'.mode):=rfl
  have an:=dC hy (dC hx (dC b3 (dC b4 (dC c1 (dC c2 (dC c3 (dC c4 (dC d1 (dC d2 (dC d3 (dC g1 (dC g2 (dC m1 (dC m2 (ae)))))))))))))))
  have s1:b'.cells[109]? =some (I b'.st.pre.ax):=Bx.pV hJ.inv.mZ
  generalize ch:DW t (M.getD []) i=k at*;generalize b1:DW t (M.getD []) (i+1)=k' at*
  have n8:=CQ k k'
  have ba:t.cells[116]? =some (I t.extend):=Tb.tail_at ht 0 ado
  have ad:=dC s1 (dC n8 (dC ba (an)))
  try simp only[I,RY,↓KW,seval,an]
  refine af cS ?_
  rcases bf (b'.st.pre.ax==1)with j1|j1
  all_goals try simp only[I,RY,↓KW,seval,j1,ad]
  all_goals
   have he:AO b'=AO b':=rfl
   conv at he=>rhs;unfold AO;rw[j1]
   refine aG (λp:Nat=>(⟨[(14,.dat (I p) none),(13,.dat (B (AO b')) none),(9,.dat (I i) none),(6,.dat (aI Fr.cells M) none),(5,.ptr 7 0),(7,.ptr 14 0),(8,.ptr 16 0),(10,.ptr 415 0)],[(7,⟨t.cells,[]⟩),(14,⟨b.cells,[]⟩),(16,⟨vW k k' p,[]⟩),(415,⟨b'.cells,[]⟩)],[],440⟩:S)) (λp=>8-p) (λp=>p<=8) ?_ 0 ado ?_
   rotate_left
   ·have nz:vW k k 0=vW k k' 0:=by simp[vW]
    refine ai adp ?_ ?_ ?_ ?_<;>simp[LX,I,B,he,nz,LT,w5]
   intro p ci A3 O
   have aa:=aC (k:=p) ado
   rcases bf (decide ((p:Int)<8))with g|g
   ·have e8:p=8:=by have:=dT g;omega
    have nd:vW k k' p=vW k' k' 0:=by rw[e8];exact OU k k'
    try simp only[I,B,RY,↓KW,seval,g,nd,ad]
    refine back (i+1) _ ado ado ?_
    refine ai adp ?_ ?_ ?_ ?_<;>simp[LX,I,b8,bs,b1]
   have k1:p<8:=by have:=dE g;omega
   have bj:0<=(p:Int)/\(p:Int)<8:=ado
   have rA:=Bx.O5 hI.inv.mZ k1
   have rB:=Bx.O5 hJ.inv.mZ k1
   have kA:=YT k k' k1
   have ck:=b7 p
   have wk:IntKind.i64.wrap (k p+1)=k p+1:=aU ado ado
   have kl:=λv=>SS (vW k k' p) (I (k p+1)) v (by rw[CQ];exact k1)
   have kn:k' p=Mi (b.st.rn p) (b'.st.rn p) (k p):=b5 p
   have p7:p<=7:=ado
   have p8:p+1<=8:=ado
   have a6:∀v,(setCells (vW k k' p) p [v]).length=8:=λv=>by
    have:=n8 p
    simp only[setCells,rh,Fd,abM,WF,this];omega
   have tph:=Tb.iO (ht.ln.mT k1)
   have KB:=K' p k1
   have am:=IX hg k1
   have bm:=λh2 h3=>ar h2 h3 p k1
   generalize b.st.rn p=r at*;generalize b'.st.rn p=r' at*
   have cb:(aK t p).min<=12/\(aK t p).walk<=10/\(aK t p).cz<=10/\(ET (aK t p) r'.limit<=50):=by
    by_cases bl:p<n
    ·have:=hg.ph p bl
     have h1:=this.min
     have h2:=this.max
     have h3:=this.top
     have h4:=this.walk
     unfold ET
     refine⟨ado,ado,ado,?_⟩
     repeat' split
     all_goals omega
    ·rw[hg.off p k1 ado]
     refine⟨adp,adp,adp,?_⟩
     have e1:(default:Ph).max=0:=rfl
     have e2:(default:Ph).top=0:=rfl
     unfold ET;rw[e1,e2]
     repeat' split
     all_goals omega
   have al:=ahI (aK t p) r'
   generalize aK t p=ph at*
   have bM:Jf ph r'<=60/\0<=Jf ph r':=by
    have:=(DU ph r').1
    have:=am.1
    unfold Jf at*;omega
   have wW:IntKind.i64.wrap (ph.walk+ph.cz)=ph.walk+ph.cz:=aU (by have:=am.2;omega) ado
   have wE:IntKind.i64.wrap (Jf ph r'+t.extend)=Jf ph r'+t.extend:=aU ado ado
   have v1:decide (k' p>Jf ph r'+t.extend)=false:=ut (by have:=KB.m;have:=KB.ex;omega)
   have v2:decide (r'.extra>t.extend)=false:=ut (by have:=KB.ex;omega)
   unfold buL at al
   have f0:dV.length=13/\bB.length=12/\setCells dV 0 ph.cells=ph.cells/\setCells bB 0 r.cells=r.cells/\setCells bB 0 r'.cells=r'.cells/\ph.cells.length=13/\r.cells.length=12/\r'.cells.length=12:=⟨rfl,rfl,rfl,rfl,rfl,rfl,rfl,rfl⟩
   have f1:ph.cells[1]? =some (I ph.min)/\ph.cells[3]? =some (I ph.max)/\ph.cells[4]? =some (I ph.top)/\ph.cells[8]? =some (I ph.walk)/\ph.cells[9]? =some (I ph.cz):=⟨rfl,rfl,rfl,rfl,rfl⟩
   have f2:r.cells[0]? =some (I r.az)/\r.cells[1]? =some (I r.time)/\r.cells[2]? =some (I r.fst)/\r.cells[5]? =some (I r.dX):=⟨rfl,rfl,rfl,rfl⟩
   have f3:r'.cells[0]? =some (I r'.az)/\r'.cells[5]? =some (I r'.dX)/\r'.cells[6]? =some (I r'.extra)/\r'.cells[7]? =some (B r'.done)/\r'.cells[9]? =some (I r'.limit):=⟨rfl,rfl,rfl,rfl,rfl⟩
   have kB:=acQ k k' k1
   have ak:=λv hv=>CR k k' k1 v hv
   have D:=dC p7 (dC p8 (dC a6 (dC bj (dC rA (dC rB (dC kA (dC wk (dC kl (dC kB (dC tph (dC f0 (dC f1 (dC f2 (dC f3 (ad)))))))))))))))
   try simp only[I,B,RY,↓KW,seval,D]
   refine ep rfl ?_;try simp only[I,RY,↓KW,seval,D]
   apply XN (λ_:Unit=>(⟨[(17,.ptr 458 0),(16,.ptr 457 0),(15,.ptr 456 0),(14,.dat (I p) none),(13,.dat (B (AO b')) none),(9,.dat (I i) none),(6,.dat (aI Fr.cells M) none),(5,.ptr 7 0),(7,.ptr 14 0),(8,.ptr 16 0),(10,.ptr 415 0)],[(7,⟨t.cells,[]⟩),(14,⟨b.cells,[]⟩),(16,⟨vW k k' (p+1),[]⟩),(415,⟨b'.cells,[]⟩),(456,⟨r.cells,[]⟩),(457,⟨r'.cells,[]⟩),(458,⟨ph.cells,[]⟩)],[],500⟩:S)) (λ_=>True)
   ·intro R
    have zero:(r'.az≠1\/r'.done=true\/r'.dX=r.dX\/r.az≠1)->setCells (vW k k' p) p [I 0]=vW k k' (p+1):=λhz=>ak 0 (by rw[kn,Mi,fp hz])
    rcases bf (r'.az !=1)with V|V
    rotate_left
    ·have kz:=zero (.inl (by simpa using V))
     try simp only[RY,↓KW,seval,V,kz,D]
     refine R () _ trivial ?_
     refine ai adp ?_ ?_ ?_ ?_<;>simp[LX,I,B]
    rcases bf r'.done with u2|u2
    rotate_left
    ·have kz:=zero (.inr (.inl u2))
     try simp only[B,RY,↓KW,seval,V,u2,kz,D]
     refine R () _ trivial ?_
     refine ai adp ?_ ?_ ?_ ?_<;>simp[LX,I,B]
    rcases bf (r'.dX==r.dX)with u3|u3
    rotate_left
    ·have kz:=zero (.inr (.inr (.inl (by simpa using u3))))
     try simp only[I,B,RY,↓KW,seval,V,u2,u3,kz,D]
     refine R () _ trivial ?_
     refine ai adp ?_ ?_ ?_ ?_<;>simp[LX,I,B]
    rcases bf (r.az !=1)with u4|u4
    rotate_left
    ·have kz:=zero (.inr (.inr (.inr (by simpa using u4))))
     try simp only[I,B,RY,↓KW,seval,V,u2,u3,u4,kz,D]
     refine R () _ trivial ?_
     refine ai adp ?_ ?_ ?_ ?_<;>simp[LX,I,B]
    have kz:=ak (k p+1) (by
     rw[kn,Mi,fb (λhz=>?_)]
     rcases hz with hz|hz|hz|hz
     ·exact hz (by simpa using V)
     ·rw[u2]at hz;cases hz
     ·rw[hz,ne]at u3;cases u3
     ·exact hz (by simpa using u4))
    try simp only[I,B,RY,↓KW,seval,V,u2,u3,u4,kz,D]
    refine R () _ trivial ?_
    refine ai adp ?_ ?_ ?_ ?_<;>simp[LX,I,B]
   rintro _ _
   try simp only[I,B,RY,↓KW,seval,wW,al,wE,v1,v2,ahJ,D]
   rcases bf (r.az==1)with V|V
   ·try simp only[RY,↓KW,seval,V]
    refine O (p+1) _ ado ado ?_
    refine ai adp ?_ ?_ ?_ ?_<;>simp[LX,I,B,aa]
   rcases bf (r'.az==2)with u2|u2
   ·try simp only[I,RY,↓KW,seval,V,u2,D]
    refine O (p+1) _ ado ado ?_
    refine ai adp ?_ ?_ ?_ ?_<;>simp[LX,I,B,aa]
   rcases bf (b.mode==2)with u3|u3
   ·try simp only[I,RY,↓KW,seval,V,u2,u3,D]
    refine O (p+1) _ ado ado ?_
    refine ai adp ?_ ?_ ?_ ?_<;>simp[LX,I,B,aa]
   rcases bf (b'.mode==2)with u4|u4
   ·try simp only[I,RY,↓KW,seval,V,u2,u3,u4,D]
    refine O (p+1) _ ado ado ?_
    refine ai adp ?_ ?_ ?_ ?_<;>simp[LX,I,B,aa]
   rcases bf (AO b')with u5|u5
   rotate_left
   ·try simp only[I,RY,↓KW,seval,V,u2,u3,u4,u5,D]
    refine O (p+1) _ ado ado ?_
    refine ai adp ?_ ?_ ?_ ?_<;>simp[LX,I,B,aa,u5]
   obtain⟨q1,q2⟩:=bm (by simpa using u3) (by simpa using u4) (by simpa using V) (by simpa using u2) u5
   try simp only[I,RY,↓KW,seval,V,u2,u3,u4,u5,q1,q2,D]
   refine O (p+1) _ ado ado ?_
   refine ai adp ?_ ?_ ?_ ?_<;>simp[LX,I,B,aa,u5]
end
end Go.Eng
