/- Part 19 of the engine and its library. -/
import Derived.Test.YtdfplndcbbofjaaGreatPkS18
set_option linter.all false
set_option maxRecDepth 10000
set_option maxHeartbeats 4000000
namespace Go.Eng
open Go
def TI(t:Tb) (s:bA) (y:Sp) (K:Int):Prop:=Wt t s y s.rings.group.toNat y.group.toNat K
section
variable{t:Tb} {n:Nat} (F:TF t n) (ht:t.Ok) {s:bA} (E:EI t n s)
include F ht E
theorem Pz{a b:Nat} (A:a<m3 t) (B:b<m3 t):0<=Ff t a b:=by
 have D:=HE A B
 have L:=(sH t b).1
 omega
theorem CA{y:Sp} {g:Nat} (O:y.group=g):mT (eW t s.rings s.runs) (Fe t y.group y.ring)<=mT (eW t s.rings s.runs) (oW t g):=by
 have R:=(vE F ht E).1
 -- what is negative does not occur: cut the sum to the places
 have key:∀l:List Sp,(∀z∈l,z∈aO t)->mT (eW t s.rings s.runs) (l.filter λx=>x.group==y.group&&x.ring==y.ring)<=mT (eW t s.rings s.runs) (l.filter λx=>x.group==(g:Int)):=by
  intro l
  induction l with
  |nil=>intro _;exact kt _
  |cons z l A=>
   intro B
   have A:=A λw L=>B w (ii _ L)
   have V:=R z (B z ip)
   rw[Ha,Ha]
   cases M:z.group==(g:Int)with
   |true=>
    cases D:(z.group==y.group&&z.ring==y.ring)with
    |true=>simp only[kv,mT];omega
    |false=>simp only[eQ,ik,kv,mT];omega
   |false=>
    have D:(z.group==y.group&&z.ring==y.ring)=false:=by rw[O,M];rfl
    rw[D];simp only[eQ,ik];exact A
 exact key (aO t) λ_ h=>h
theorem Mn{y:Sp} (O:y∈aO t) {q:Nat} (Z:y.p=q):TI t s y (ig t q-1):=by
 have ac:=oT O
 have hg:=E.Pu
 obtain⟨A,L⟩:∃A:Nat,y.group=A:=⟨y.group.toNat,ST⟩
 obtain⟨B,ab⟩:∃B:Nat,s.rings.group=B:=⟨s.rings.group.toNat,ST⟩
 have e1:y.group.toNat=A:=ST
 have e2:s.rings.group.toNat=B:=ST
 have M:A<m3 t:=by unfold m3;omega
 have D:B<m3 t:=by unfold m3;omega
 have hf:=SQ F O Z L
 have R:=(vE F ht E).2
 have h0:=eZ t (a:=0) (b:=m3 t) ST
 have aa:pZ t 0=0:=rfl
 unfold TI Wt;rw[e1,e2]
 by_cases hA:Ahd s.rings y
 ·left
  refine⟨hA,?_⟩
  have h1:=CA F ht E L
  have V:=R A M
  omega
 ·right
  refine⟨hA,?_⟩
  have V:=R B D
  have h3:=Px D M
  split<;>omega
variable(x:vA)
theorem PA{y:Sp} (hy:y∈aO t) {q:Nat} (hq:y.p=q) (hw:tb (eY t s x) q=true) (ao:(s.rn q).ay≠1) (bd:((iJ t s x).rn q).ay≠1) {K:Int} (h:TI t s y K):1<=K/\TI t (iJ t s x) y (K-1):=by
 have cb:=oT hy
 have hg:=E.Pu
 have ch:=yB hy
 have R:q<8:=by have:=gO hy;omega
 have b4:q<n:=F.e.g.Tz q (by rw[<-hq,F.e.g.uq y hy])
 have E':=KN F ht E x
 have ca:=E'.Pu
 have hR:=Pv F.e E.si E.fr x
 have hW:CY t s x=vH t s.rings s.runs (eY t s x):=rfl
 obtain⟨yN,ak⟩:∃yN:Nat,y.group=yN:=⟨y.group.toNat,ST⟩
 obtain⟨gN,ac⟩:∃gN:Nat,s.rings.group=gN:=⟨s.rings.group.toNat,ST⟩
 have e1:y.group.toNat=yN:=ST
 have e2:s.rings.group.toNat=gN:=ST
 have ae:yN<m3 t:=by unfold m3;omega
 have ag:gN<m3 t:=by unfold m3;omega
 have nn:=(vE F ht E).1
 have b3:=(vE F ht E').1
 have hc:=(vE F ht E).2
 have a7:=(vE F ht E').2
 have b8:=Pz F ht E ag ae
 unfold TI Wt at h⊢;rw[e1,e2]at h;rw[e1]
 rcases h with⟨hA,hK⟩|⟨hA,hK⟩
 ·--ahead
  obtain⟨a1,a2,a3⟩:=hA
  have hk:y.ring=0\/y.ring=1:=ST
  have G:=Jh (t:=t) (r:=s.rings) (l:=s.runs) (w:=eY t s x) a1
  have bs:dP (eY t s x) y.p=true:=by rw[hq,eF R];exact hw
  obtain⟨n1,n2⟩:=aaf F.e.g.uq hy a2 a3 bs
  have L:fy t s.rings s.runs (eY t s x) y.ring=false:=by
   unfold fy kO
   rw[tp (show ¬jN t s.rings (eY t s x) y.ring<0 by omega)];rfl
  have hp:=KQ F ht E x hy hq hw ao hk (λO=>O.2.1 rfl)
  have V:=zO F ht E x a1 hk hp (.inl L)
  rw[a2]at V
  have a6:=Ak (f:=eW t (iJ t s x).rings (iJ t s x).runs) (g:=eW t s.rings s.runs) (l:=Fe t y.group y.ring) (λz B=>by
   obtain⟨z1,z2,z3⟩:=xJ.1 B
   exact(yH F.e E x a1 hk hp z1 (by rw[z2,a2]) z3).1) V
  have ce:=pY (f:=eW t (iJ t s x).rings (iJ t s x).runs) (l:=Fe t y.group y.ring) λz B=>b3 z (xJ.1 B).1
  refine⟨ST,.inl ⟨⟨?_,?_,?_⟩,ST⟩⟩
  ·rw[hR,hW]
   cases A:(vH t s.rings s.runs (eY t s x)).1.dF with
   |false=>rfl
   |true=>
    have:=G.xH.1 A
    simp only[CU,dT]at this
    have a5:fy t s.rings s.runs (eY t s x) y.ring=true:=by rcases hk with e|e<;>rw[e];exact this.2.1;exact this.2.2.1
    rw[L]at a5;cases a5
  ·rw[hR,hW,G.Pu,a2]
  ·rw[hR,hW]
   by_cases hs:CX t s.rings s.runs (eY t s x) y.ring
   ·rw[G.atS y.ring hk hs]
    have bj:y.pos≠jN t s.rings (eY t s x) y.ring:=λe=>by
     have hb:=(DZ F.e E x a1 hk hy a2.symm rfl hq R).2 ⟨hs,e⟩
     have ad:=KJ F.e E hy a2.symm rfl hq R ST
     have:=(Cx (F.e.sm q b4) (r:=s.rn q) (c:=eG t s x q) (HC F.e E R ad) (by rw[(DY F.e E.si E.fr x R).start];exact hb)).1
     rw[<-jt t s x R]at this;exact bd this
    omega
   ·rw[G.atN y.ring hk hs];exact a3
 cases A:s.rings.dF with
 |false=>
  rw[A]at hK;simp only[eQ,ik]at hK
  have G:=Jh (t:=t) (r:=s.rings) (l:=s.runs) (w:=eY t s x) A
  have hp:=λ(k:Int) (hk:k=0\/k=1)=>KQ F ht E x hy hq hw ao hk (λO=>hA ⟨A,O.1.symm,O.2.2⟩)
  have mono:∀z∈oW t gN,eW t (iJ t s x).rings (iJ t s x).runs z<=eW t s.rings s.runs z:=λz B=>by
   obtain⟨z1,z2⟩:=ki.1 B
   have z3:=yB z1
   exact(yH F.e E x A (k:=z.ring) ST (hp _ ST) z1 (by rw[z2,ac]) rfl).1
  have M:(iJ t s x).rings.group=gN:=by rw[hR,hW,G.Pu,ac]
  have e3:(iJ t s x).rings.group.toNat=gN:=ST
  have b0:=pY (f:=eW t s.rings s.runs) (l:=oW t gN) λz B=>nn z (ki.1 B).1
  rw[e3]
  by_cases hx:CU t s.rings s.runs (eY t s x) (dN t s.rings s.runs (eY t s x))=true
  ·have D:(iJ t s x).rings.dF=true:=by rw[hR,hW];exact G.xH.2 hx
   refine⟨ST,.inr ⟨λO=>?_,?_⟩⟩
   ·have:=O.1;rw[D]at this;cases this
   ·have:=Aj mono
    rw[gc D];omega
  ·have D:(iJ t s x).rings.dF=false:=by
    cases h2:(iJ t s x).rings.dF with
    |false=>rfl
    |true=>rw[hR,hW]at h2;exact absurd (G.xH.1 h2) hx
   have V:∃z∈oW t gN,eW t (iJ t s x).rings (iJ t s x).runs z<=eW t s.rings s.runs z-1:=by
    have up:∀k:Int,(k=0\/k=1)->(fy t s.rings s.runs (eY t s x) k=false\/Ky t s.rings s.runs (eY t s x) k)->∃z∈oW t gN,eW t (iJ t s x).rings (iJ t s x).runs z<=eW t s.rings s.runs z-1:=λk hk O=>by
     obtain⟨z,B,hl⟩:=zO F ht E x A hk (hp k hk) O
     obtain⟨z1,z2,_⟩:=xJ.1 B
     exact⟨z,ki.2 ⟨z1,by rw[z2,ac]⟩,hl⟩
    cases s0:fy t s.rings s.runs (eY t s x) 0 with
    |false=>exact up 0 (.inl rfl) (.inl s0)
    |true=>
     cases s1:fy t s.rings s.runs (eY t s x) 1 with
     |false=>exact up 1 (.inr rfl) (.inl s1)
     |true=>
      have sk:∀k:Int,(k=0\/k=1)->¬CX t s.rings s.runs (eY t s x) k:=λk hk hs=>by
       have L:fy t s.rings s.runs (eY t s x) k=true:=by rcases hk with rfl|rfl;exact s0;exact s1
       unfold fy kO at L
       have:=hs.2.1
       rw[tp (show ¬jN t s.rings (eY t s x) k<0 by omega)]at L
       cases L
      have be:decide (qS (bg .i64 (eY t s x) (fu s.runs))>=0)=true:=by
       rw[O3]
       cases B:(bg .i64 (dh .i64 (eY t s x) 255) (fu s.runs) !=0)with
       |true=>rfl
       |false=>
        have h0:bg .i64 (dh .i64 (eY t s x) 255) (fu s.runs)=0:=by simpa using B
        have:=kD.1 h0 q ST
        have bo:tb (fu s.runs) q=false:=by
         unfold fu;rw[vn]
         have:ej (aP s.runs q)=false:=by show((s.rn q).ay==1)=false;simpa using ao
         rw[this,nf]
        rw[kY,nW,hw,bo]at this;simp[R]at this
      have ar:(qV .i64 (dN t s.rings s.runs (eY t s x)).2.1 (dN t s.rings s.runs (eY t s x)).2.2==0)=false:=by
       cases ho:(qV .i64 (dN t s.rings s.runs (eY t s x)).2.1 (dN t s.rings s.runs (eY t s x)).2.2==0)with
       |false=>rfl
       |true=>
        exfalso
        apply hx
        unfold CU;rw[ho,s0,s1,be];rfl
      have ab:=Ml t s.rings s.runs (eY t s x)
      rw[Wz ab.1 ab.2]at ar
      by_cases z1:(dN t s.rings s.runs (eY t s x)).2.1=0
      ·have z2:(dN t s.rings s.runs (eY t s x)).2.2≠0:=λe=>by rw[z1,e]at ar;exact absurd ar Ts
       obtain⟨i,hi,hb⟩:=KO ab.2 z2
       obtain⟨k,hk,h1,_⟩:=(js t s.rings s.runs (eY t s x) hi).2 hb
       exact up k hk (.inr h1)
      ·obtain⟨i,hi,hb⟩:=KO ab.1 z1
       obtain⟨k,hk,h1,_⟩:=(js t s.rings s.runs (eY t s x) hi).1 hb
       exact absurd h1 (sk k hk)
   have a6:=Ak mono V
   refine⟨ST,.inr ⟨λO=>hA ⟨A,?_,?_⟩,?_⟩⟩
   ·have:=O.2.1
    rw[M]at this;rw[ac];exact this
   ·have h3:=O.2.2
    rw[hR,hW]at h3
    have hk:y.ring=0\/y.ring=1:=ST
    by_cases hs:CX t s.rings s.runs (eY t s x) y.ring
    ·rw[G.atS y.ring hk hs]at h3
     have:=KH hs.2.1
     omega
    ·rw[G.atN y.ring hk hs]at h3;exact h3
   ·rw[D]
    simp only[eQ,ik];omega
 |true=>
  rw[A]at hK;simp only[kv]at hK
  have b0:=pY (f:=eW t s.rings s.runs) (l:=oW t gN) λz B=>nn z (ki.1 B).1
  refine⟨ST,?_⟩
  have a4:(iJ t s x).rings=HP t s.rings s.runs (eY t s x):=by rw[hR,hW,oX A]
  by_cases am:∀p:Nat,p<8->bD (aP s.runs p)=true
  ·--the next group
   have b5:(dh .i64 (Mv t yN) (eY t s x) !=0)=true:=by
    cases B:(dh .i64 (Mv t yN) (eY t s x) !=0)with
    |true=>rfl
    |false=>
     have h0:dh .i64 (Mv t yN) (eY t s x)=0:=by simpa using B
     have:=and_zero.1 h0 q ST
     rw[<-Wm,Wl,Dw,hw]at this
     have hm:(q:Int)∈((aO t).filter λz=>z.group==(yN:Int)).map Sp.p:=kp.2 ⟨y,sa.2 ⟨hy,by rw[ak];simp⟩,hq⟩
     rw[pc hm,pc R]at this;cases this
   obtain⟨g',f1,f2,f3,f4⟩:=aae F ht ag ae b5
   have aa:(iJ t s x).rings=⟨(g':Int),-1,-1,false⟩:=by
    rw[a4,SR am,ac,f1,gc ST]
   have M:(iJ t s x).rings.group=g':=by rw[aa]
   have e3:(iJ t s x).rings.group.toNat=g':=ST
   have D:(iJ t s x).rings.dF=false:=by rw[aa]
   rw[e3]
   by_cases au:g'=yN
   ·left
    refine⟨⟨D,by rw[M,au,ak],?_⟩,?_⟩
    ·rw[aa]
     obtain⟨g0,k0,i0,Wk,_,_,_,_,e5⟩:=tT.1 hy
     have:y.pos=i0:=by rw[e5]
     show y.pos>(if y.ring=0 then(-1:Int)else -1)
     split<;>omega
    ·have h1:=CA F ht E' ak
     have h2:=a7 yN ae
     have h3:=HE ag ae
     omega
   ·right
    refine⟨λO=>au ?_,?_⟩
    ·have:=O.2.1
     rw[M,ak]at this;omega
    ·have h2:=a7 g' f2
     have h3:=Pw ag f2 ae f3 f4 au
     rw[D];simp only[eQ,ik];omega
  ·obtain⟨p0,a9,ad⟩:∃p:Nat,p<8/\bD (aP s.runs p)=false:=by
    refine Classical.byContradiction λhn=>am λp hp=>?_
    cases O:bD (aP s.runs p)with
    |true=>rfl
    |false=>exact absurd ⟨p,hp,O⟩ hn
   have aa:(iJ t s x).rings=s.rings:=by rw[a4,KM a9 ad]
   have a8:∀z∈aO t,eW t (iJ t s x).rings (iJ t s x).runs z<=eW t s.rings s.runs z/\∀a:Nat,z.p=a->z.pos=s.rings.at z.ring->bD (s.rn a)=false->eW t (iJ t s x).rings (iJ t s x).runs z<=eW t s.rings s.runs z-1:=λz B=>by
    obtain⟨a,ha,Z,bm⟩:=TH F.e E B
    have S:=F.e.sm a bm
    have C:=DY F.e E.si E.fr x Z
    have V:(eG t s x a).start=false:=by
     rw[C.start,hW,oX A];exact bX _
    have bi:aP (iJ t s x).runs a=aL (aD t a) (s.rn a) (eG t s x a):=jt t s x Z
    have an:ee t (aD t a) (aL (aD t a) (s.rn a) (eG t s x a))<=ee t (aD t a) (s.rn a)/\(bD (s.rn a)=false->ee t (aD t a) (aL (aD t a) (s.rn a) (eG t s x a))<=ee t (aD t a) (s.rn a)-1):=by
     have b7:=(E.si.run a Z).col
     have bj:=E.xH A a Z
     cases hr:bD (s.rn a)with
     |true=>
      have h0:=HC F.e E Z hr
      have h1:=(Hz S (c:=eG t s x a) (E.rt a Z) h0 V).1
      have h2:ee t (aD t a) (aL (aD t a) (s.rn a) (eG t s x a))=0:=by simp[ee,h1]
      have h3:=Jg S (s.rn a)
      exact⟨ST,λh=>by cases h⟩
     |false=>
      have b6:(s.rn a).ay=2\/(s.rn a).ay=3:=by
       have:(s.rn a).ay≠0:=λe=>by rw[bD,e]at hr;exact absurd hr Ts
       omega
      have:=HA S (c:=eG t s x a) (E.rt a Z) b6
      exact⟨ST,λ_=>this⟩
    unfold eW;rw[aa,A,ha,j9,bi];simp only[kv]
    have ba:aP s.runs a=s.rn a:=rfl
    rw[ba]
    by_cases b1:z.pos>s.rings.at z.ring
    ·rw[gc b1,gc b1]
     exact⟨kt _,λa' _ al _=>ST⟩
    ·rw[fx b1,fx b1]
     by_cases b2:z.pos=s.rings.at z.ring
     ·rw[gc b2,gc b2]
      refine⟨an.1,λa' ci _ hr=>an.2 ?_⟩
      have:a'=a:=ST
      rw[<-this];exact hr
     ·rw[fx b2,fx b2]
      exact⟨kt _,λa' _ al _=>absurd al b2⟩
   have V:∃z∈oW t gN,eW t (iJ t s x).rings (iJ t s x).runs z<=eW t s.rings s.runs z-1:=by
    obtain⟨k,hk,hn⟩:=E.now p0 a9 ad;rw[mS hk]at hn
    have B:=Fc F.e.g.uq (t:=t) (g:=s.rings.group) (k:=k) (pl:=s.rings.at k) ST
    exact⟨_,ki.2 ⟨B,ac⟩,(a8 _ B).2 p0 hn rfl ad⟩
   have a6:=Ak (λz B=>(a8 z (ki.1 B).1).1) V
   have e3:(iJ t s x).rings.group.toNat=gN:=by rw[aa];exact e2
   have D:(iJ t s x).rings.dF=true:=by rw[aa];exact A
   rw[e3]
   right
   refine⟨λO=>?_,?_⟩
   ·have:=O.1;rw[D]at this;cases this
   ·rw[gc D];omega
end
section
variable (t:Tb) (A:List Fr) (i:Nat) {cs:List AV} {n p:Nat} (k:Nat)
def Mo:Tb:={t with bp:=none}
theorem PB(l:Option (List Int)):TF (Mo (aR l)) (nT l):=by
 have g:=aab l
 have hn:=Wg l
 have M:=GL l
 have hg:=EY l
 refine⟨⟨⟨g.n8,g.on,g.ph,g.off,g.sym,g.con,g.uq,g.wh,g.Tz,by show(0:Nat)<=2;decide,λr L=>?_⟩,rfl,λp A=>?_,?_⟩,M,?_⟩
 ·cases L
 ·have P:=g.ph p A
  have p1:=P.min
  have p2:=P.max
  have R:=P.top
  have Z:=P.walk
  have V:=P.bQ
  have p6:=P.red
  have B:(Mo (aR l)).extend=(aR l).extend:=rfl
  have O:(Mo (aR l)).revert=(aR l).revert:=rfl
  have D:aD (Mo (aR l)) p=aD (aR l) p:=rfl
  rw[D]
  exact⟨ST,ST,ST,ST,ST,by rw[B];omega,by rw[O];omega⟩
 ·show 0<((aR l).groups.getD []).length;omega
 ·show((aR l).groups.getD []).length<=8;omega
def CB(s:bA) (p:Nat):Bool:=dP (qV .i64 s.calls.Dq s.calls.dz) p
def od(t:Tb) (A:List Fr):Nat->Nat->Int
 |0,_=>0
 |i+1,p=>if(((runT t A (i+1)).rn p).ay==1)=true\/CB (runT t A (i+1)) p=false then 0 else od t A i p+1
theorem aag{t:Tb} (F:TF t n) (ht:t.Ok) {s:bA} (E:EI t n s) {y:Sp} (D:y∈aO t) {K:Int} (h:TI t s y K):0<=K:=by
 have L:=oT D
 have M:=E.Pu
 have B:=(vE F ht E).1
 have hd:=Pz F ht E (a:=s.rings.group.toNat) (b:=y.group.toNat) (by unfold m3;omega) (by unfold m3;omega)
 unfold TI Wt at h
 rcases h with⟨_,h⟩|⟨_,h⟩
 ·have:=pY (f:=eW t s.rings s.runs) (l:=Fe t y.group y.ring) λz A=>B z (xJ.1 A).1
  omega
 ·have:=pY (f:=eW t s.rings s.runs) (l:=oW t s.rings.group.toNat) λz A=>B z (ki.1 A).1
  revert h;split<;>intro h<;>omega
theorem Fg{t:Tb} {n:Nat} (F:TF t n) (ht:t.Ok) (A:List Fr):∀i,EI t n (runT t A i)
 |0=>WU F
 |i+1=>KN F ht (Fg F ht A i) _
theorem called{t:Tb} (F:TF t n) (A:List Fr) {i:Nat} (B:p<8) (h:CB (runT t A i) p=true):p<n/\(tb (runT t A i).calls.Dq p=true\/(tb (runT t A i).calls.dz p=true/\0<(aD t p).walk)):=by
 have hk:=DX t A i p
 unfold CB at h;rw[eF B,uw,ml]at h
 have on:(aD t p).on=true->p<n:=λD=>by
  rw[F.e.g.on p B]at D
  simpa using D
 rcases h with h|h
 ·have:=hk.1 h
  simp only[dT]at this;exact⟨on this.2,.inl h⟩
 ·have:=hk.2 h
  simp only[dT,gn]at this;exact⟨on this.2.1,.inr ⟨h,this.2.2⟩⟩
theorem wanted{t:Tb} (F:TF t n) (A:List Fr) {i:Nat} (B:p<8) (h:CB (runT t A (i+1)) p=true):tb (eY t (runT t A i) (A.getD i default).Pb) p=true:=by
 obtain⟨M,D⟩:=called F A B h
 have R:(runT t A (i+1)).calls=Mx t (runT t A i) (A.getD i default).Pb:=rfl
 rw[R]at D;unfold eY;rw[E8,F.e.g.on p B]
 have L:rU (Mx t (runT t A i) (A.getD i default).Pb) (zl t (Mj t (runT t A i) (A.getD i default).Pb)) p (aD t p)=true:=by
  unfold rU;rw[eF B,eF B,eF B]
  rcases D with D|⟨D,O⟩
  ·rw[D];rfl
  ·rw[D,pc O];simp
 rw[L];simp[B,M]
theorem SS(p:Int):0<=ig t p:=by
 unfold ig;split
 ·have:∀(l:List Int) (a:Int),0<=a->0<=l.foldl ye a:=by
   intro l
   induction l with
   |nil=>intro a h;exact h
   |cons x l A=>intro a _;exact A _ (ei _).1
  exact this _ 0 (kt _)
 ·exact kt _
theorem Jj{t:Tb} {n:Nat} (F:TF t n) (ht:t.Ok) (A:List Fr):∀i,∀p:Nat,p<8->(0<=od t A i p/\od t A i p<=i)/\(od t A i p=0\/(((runT t A i).rn p).ay≠1/\∃y∈aO t,y.p=p/\TI t (runT t A i) y (ig t p-od t A i p)))
 |0,p,_=>⟨⟨kt _,kt _⟩,.inl rfl⟩
 |i+1,p,L=>by
  obtain⟨⟨h1,h2⟩,M⟩:=Jj F ht A i p L
  have hs:od t A (i+1) p=if(((runT t A (i+1)).rn p).ay==1)=true\/CB (runT t A (i+1)) p=false then 0 else od t A i p+1:=rfl
  by_cases D:(((runT t A (i+1)).rn p).ay==1)=true\/CB (runT t A (i+1)) p=false
  ·rw[hs,gc D]
   exact⟨⟨kt _,ST⟩,.inl rfl⟩
  ·rw[hs,fx D]
   have hc:((runT t A (i+1)).rn p).ay≠1:=λe=>D (.inl (by rw[e];rfl))
   have V:CB (runT t A (i+1)) p=true:=by
    cases h:CB (runT t A (i+1)) p with
    |true=>rfl
    |false=>exact absurd (.inr h) D
   refine⟨⟨ST,ST⟩,.inr ⟨hc,?_⟩⟩
   have E:=Fg F ht A i
   have hn:=(called F A L V).1
   rcases M with M|⟨O,y,Z,B,hw⟩
   ·obtain⟨R,w2⟩:=xB (F.e.g.wh p hn)
    refine⟨_,R,w2,?_⟩
    have:=Mn F ht (Fg F ht A (i+1)) R w2
    rw[M];exact this
   ·refine⟨y,Z,B,?_⟩
    have:=(PA F ht E (A.getD i default).Pb Z B (wanted F A L V) O hc hw).2
    rw[show ig t p-(od t A i p+1)=ig t p-od t A i p-1 by omega]
    exact this
theorem PC{t:Tb} (F:TF t n) (ht:t.Ok) (M:t.bp=none) (A:List Fr) (i:Nat) (D:p<8):od t A i p<=lq t p:=by
 have B:lq t p=ig t p:=gc (.inr (by rw[M];rfl))
 rw[B]
 rcases(Jj F ht A i p D).2 with h|⟨_,y,L,_,h⟩
 ·rw[h];exact SS t p
 ·have:=aag F ht (Fg F ht A i) L h
  omega
def tc:List AV:=(List.range 8).map λp=>I (if p<k then od t A (i+1) p else od t A i p)
theorem KR(B:p<8):(tc t A i k)[p]? =some (I (if p<k then od t A (i+1) p else od t A i p)):=by
 unfold tc;rw[jp,kh B];rfl
theorem PD{k:Nat} (hk:k<8):setCells (tc t A i k) k [I (od t A (i+1) k)]=tc t A i (k+1):=by
 have:k=0\/k=1\/k=2\/k=3\/k=4\/k=5\/k=6\/k=7:=ST
 rcases this with rfl|rfl|rfl|rfl|rfl|rfl|rfl|rfl<;>simp[tc,setCells,lm]
theorem SU{k:Nat} (hk:k<cs.length) (a b:AV):setCells (setCells cs k [a]) k [b]=setCells cs k [b]:=by
 obtain⟨A,x,B,L,D⟩:∃(A:List AV) (x:AV) (B:List AV),cs=A++x::B/\k=A.length:=⟨cs.take k,cs[k],cs.drop (k+1),by rw[<-Os hk,List.take_append_drop],by simp;omega⟩
 subst L D;simp[setCells]
theorem SW{k:Nat} (hk:k<cs.length) (a:AV):(setCells cs k [a])[k]? =some a:=by
 have A:(cs.take k).length=k:=by simp;omega
 unfold setCells
 rw[List.append_assoc,ll ST,A,Nat.sub_self];rfl
theorem PE:(tc t A i k).length=8:=by simp[tc]
theorem Mp:tc t A i 8=tc t A (i+1) 0:=by
 unfold tc
 refine ti λp B=>?_
 have:=ib.1 B
 rw[gc this,fx ST]
def xL.Spec(C:bk) (f:Nat):Prop:=∀l sc:Option (List Int),C.c f [aI aE l,aI aE sc] (B true) none
end
section
variable{P:Program} (hm:P.follows .mixedOrders=true) {f:Nat}
include hm
theorem xL.ok{fT fC fB fI fS fH fW fA:Nat} (hc:bY P f=some (jO fT fC fB fI fS fH fW fA)) (hT:Table.Spec (Pure P) fT) (hC:Cp.Spec (Pure P) fC) (hB:z9.Spec (Pure P) fB) (hI:xD.Spec (Pure P) fI) (hS:yE.Spec (Pure P) fS) (hH:pN.Spec (Pure P) fH) (hW:wait.Spec (Pure P) fW) (hA:xE.Spec (Pure P) fA):xL.Spec (Pure P) f:=by
 intro l sc
 have hH:=O2 hH
 obtain⟨t0,al⟩:∃t,aR l=t:=⟨_,rfl⟩
 obtain⟨V,a4⟩:∃x,dB (pX false (sc.getD []))=x:=⟨_,rfl⟩
 have a5:V.getD []=pX false (sc.getD []):=by rw[<-a4,de]
 have F0:=PB l
 rw[al]at F0
 have ag:t0.Ok:=by rw[<-al];exact Br l
 have bd:t0.Fw:=by rw[<-al];exact Ov l
 have be:Wu t0<=1000000:=by rw[<-al];exact tnd l
 have bi:Few (V.getD []):=by rw[a5];exact Ja _ _
 have ch:(V.getD []).length<=1500:=by rw[a5];exact Jb _ _
 have cT:=hT l
 rw[al]at cT
 have cC:=hC sc false
 rw[a4]at cC
 have M:setCells t0.cells 114 [AV.bF]=(Mo t0).cells:=ag.ln.Dv none
 have L:=Tb.len ag
 have ab:setCells gK 0 t0.cells=t0.cells:=gB (by rw[L];rfl)
 obtain⟨t,am⟩:∃t,Mo t0=t:=⟨_,rfl⟩
 have ht:t.Ok:=by
  rw[<-am]
  exact⟨ag.phases,ag.conflict,ag.dc,ag.groups,ag.rows,ag.VU,(by show(0:Nat)<=_;exact Nat.zero_le _),ag.jz⟩
 have bo:t.Fw:=by rw[<-am];exact bd
 have ba:Wu t<=1000000:=by rw[<-am];exact be
 have bm:t.bp=none:=by rw[<-am];rfl
 rw[am]at F0 M;generalize nT l=n at*
 have aa:=Tb.len ht
 have hp:=Tb.whole ht
 have R:gK.length=131:=rfl
 have O:cQ.length=117:=rfl
 have a8:∀u v:bA,u.Ok->v.Ok->setCells cQ 0 u.cells=u.cells/\setCells v.cells 0 u.cells=u.cells:=λu v hu hv=>⟨gB (by rw[bA.len hu];rfl),gB (by rw[bA.len hu,bA.len hv])⟩
 have a7:=SE t (V.getD [])
 have b0:=(a8 _ _ (lO t) (lO t)).1
 have b4:=bA.len (lO t)
 have b2:[AV.int .i64 0,AV.int .i64 0,AV.int .i64 0,AV.int .i64 0,AV.int .i64 0,AV.int .i64 0,AV.int .i64 0,AV.int .i64 0]=tc t (V.getD []) 0 0:=rfl
 have b8:=λi (p:Nat) (h:p<8)=>PC F0 ht bm (V.getD []) i h
 have ca:=λi (p:Nat) (h:p<8)=>(Jj F0 ht (V.getD []) i p h).1
 clear al a4 a5;refine aq hm hc [] rfl ?_;try simp only[I,B,D,RY,↓KW,seval,jO,Z.H,aa,hp,ab,R,O,L,M]
 refine ah cT ?_;try simp only[I,B,D,RY,↓KW,seval,aa,hp,ab,R,O,L,M]
 refine ah cC ?_;try simp only[I,B,D,RY,↓KW,seval,aa,hp,ab,R,O,L,M]
 refine ah (hB t ht.ln) ?_;try simp only[I,B,D,RY,↓KW,seval,b0,b4,aa,hp,ab,R,O,L,M]
 refine aN (λi:Nat=>(⟨[(9,.dat (I i) none),(6,.dat (aI Fr.cells V) none),(5,.ptr 7 0),(7,.ptr 16 0),(8,.ptr 18 0)],[(7,⟨t.cells,[]⟩),(16,⟨(runT t (V.getD []) i).cells,[]⟩),(18,⟨tc t (V.getD []) i 0,[]⟩)],[],400⟩:S)) (λi=>1500-i) (λi=>i<=(V.getD []).length) ?_ 0 ST ?_
 rotate_left
 ·refine ai Ts ?_ ?_ ?_ ?_<;>simp[LX,I,B,D,runT,b2]
 intro i hi A back
 have b3:=aG (k:=i) ST
 have au:runT t (V.getD []) (i+1)=iJ t (runT t (V.getD []) i) ((V.getD []).getD i default).Pb:=rfl
 have c1:=I9 t (V.getD []) ba i
 have o1:=a7 i
 have o2:=a7 (i+1)
 try simp only[I,B,D,RY,↓KW,seval]
 rcases bc (decide ((i:Int)<((V.getD []).length:Int)))with h|h
 ·try simp only[I,B,D,RY,↓KW,seval,h,aa,hp,ab,R,O,L,M]
  refine ah hA ?_;try simp only[I,B,D,RY,↓KW,seval,aa,hp,ab,R,O,L,M]
 ·have h1:i<(V.getD []).length:=by have:=dE h;omega
  obtain⟨x,hx⟩:∃x,(V.getD [])[i]? =some x:=⟨_,et h1⟩
  have bj:(V.getD []).getD i default=x:=by rw[fi,hx];rfl
  have b5:=bi x (ev hx)
  have hy:0<=(i:Int)/\(i:Int)<((V.getD []).length:Int):=ST
  have hq:x.cells.length=6/\aH x.cells 0 (some 6)=some (.agg x.cells):=⟨rfl,rfl⟩
  rw[bj]at au
  have cS:=hS t (runT t (V.getD []) i) x.Pb ht bo ba o1 c1 b5
  rw[<-au]at cS
  have b1:∀p:Nat,od t (V.getD []) (i+1) p=if(((runT t (V.getD []) (i+1)).rn p).ay==1)=true\/CB (runT t (V.getD []) (i+1)) p=false then 0 else od t (V.getD []) i p+1:=λ_=>rfl
  have ce:∀p:Nat,CB (runT t (V.getD []) (i+1)) p=dP (qV .i64 (runT t (V.getD []) (i+1)).calls.Dq (runT t (V.getD []) (i+1)).calls.dz) p:=λ_=>rfl
  generalize ci:runT t (V.getD []) i=s1 at*;generalize bs:runT t (V.getD []) (i+1)=s2 at*
  have q1:=bA.len o1
  have q2:=bA.len o2
  have q3:=bA.whole o1
  have q5:=(a8 s2 s1 o2 o1).2
  have q7:s2.cells[114]? =some (I s2.calls.Dq)/\s2.cells[115]? =some (I s2.calls.dz):=⟨j8 (bA.Sx o2) (j:=0) ST,bA.Z2 o2⟩
  try simp only[I,B,D,RY,↓KW,seval,h,hx,hy,hq,q1,q2,q3,q5,q7,aa,hp,ab,R,O,L,M]
  refine ah (hI x) ?_;try simp only[I,B,D,RY,↓KW,seval,hx,hy,hq,q1,q2,q3,q5,q7,aa,hp,ab,R,O,L,M]
  refine ah cS ?_;try simp only[I,B,D,RY,↓KW,seval,hx,hy,hq,q1,q2,q3,q5,q7,aa,hp,ab,R,O,L,M]
  refine aN (λk:Nat=>(⟨[(10,.dat (I k) none),(8,.ptr 18 0),(7,.ptr 16 0),(5,.ptr 7 0),(9,.dat (I i) none),(6,.dat (aI Fr.cells V) none)],[(7,⟨t.cells,[]⟩),(16,⟨s2.cells,[]⟩),(18,⟨tc t (V.getD []) i k,[]⟩)],[],400⟩:S)) (λk=>8-k) (λk=>k<=8) ?_ 0 ST ?_
  rotate_left
  ·refine ai Ts ?_ ?_ ?_ ?_<;>simp[LX,I,B,D]
  intro k hk A2 ak
  have a2:=aG (k:=k) ST
  have sl:=PE t (V.getD []) i k
  try simp only[I,B,D,RY,↓KW,seval]
  rcases bc (decide ((k:Int)<8))with g|g
  ·have b7:k=8:=by have:=dC g;omega
   subst b7
   have a6:=Mp t (V.getD []) i
   try simp only[I,B,D,RY,↓KW,seval,g,hx,hy,hq,q1,q2,q3,q5,q7,aa,hp,ab,R,O,L,M]
   refine back (i+1) _ ST ST ?_
   refine ai Ts ?_ ?_ ?_ ?_<;>simp[LX,I,B,D,b3,bs,a6]
  ·have g1:k<8:=by have:=dE g;omega
   have an:0<=(k:Int)/\(k:Int)<8:=ST
   have a9:=KR t (V.getD []) i k g1
   rw[fx (Nat.lt_irrefl k)]at a9
   have ac:=PD t (V.getD []) i g1
   have ar:s2.cells[k*12]? =some (I (s2.rn k).ay):=bA.IG o2 g1 (j:=0) ST
   have hv:=ca i k g1
   have b6:IntKind.i64.wrap (od t (V.getD []) i k+1)=od t (V.getD []) i k+1:=aT ST ST
   have ck:=b8 (i+1) k g1
   have ad:=b1 k
   have cb:=ce k
   have cH:=hH (qV .i64 s2.calls.Dq s2.calls.dz) k
   rw[<-cb]at cH
   have two:=λa b=>SU (cs:=tc t (V.getD []) i k) (k:=k) (by rw[sl];exact g1) a b
   have get:=λa=>SW (cs:=tc t (V.getD []) i k) (k:=k) (by rw[sl];exact g1) a
   have cW:=hW t k ht
   have ae:=KR t (V.getD []) i (k+1) g1
   rw[gc (Nat.lt_succ_self k)]at ae;generalize od t (V.getD []) (i+1) k=v2 at*;generalize od t (V.getD []) i k=v1 at*
   have a3:decide (v2>lq t k)=false:=tp ST
   have ao:∀a:AV,(setCells (tc t (V.getD []) i k) k [a]).length=8:=λa=>by
    unfold setCells;simp[sl];omega
   generalize tc t (V.getD []) i k=cs at*;try simp only[I,B,D,RY,↓KW,seval,g,an,a9,sl,ao,b6,get,two,ar,q7,aa,hp,ab,R,O,L,M]
   rcases bc ((s2.rn k).ay==1)with d1|d1
   ·try simp only[I,B,D,RY,↓KW,seval,d1,an,ar,q7,q2,aa,hp,ab,R,O,L,M]
    refine⟨ST,ah cH ?_⟩
    rcases bc (CB s2 k)with d2|d2
    ·rw[gc (.inr d2)]at ad
     subst ad;try simp only[I,B,D,RY,↓KW,seval,d2,an,ao,two,get,ac,ae,aa,hp,ab,R,O,L,M]
     refine⟨ST,?_⟩
     try simp only[I,B,D,RY,↓KW,seval,two,get,ac,ae,aa,hp,ab,R,O,L,M]
     refine ah cW ?_;try simp only[I,B,D,RY,↓KW,seval,a3,two,ac,aa,hp,ab,R,O,L,M]
     refine ak (k+1) _ ST ST ?_
     refine ai Ts ?_ ?_ ?_ ?_<;>simp[LX,I,B,D,a2,two,ac]
    ·rw[fx (by rw[d1,d2];decide)]at ad
     subst ad;try simp only[I,B,D,RY,↓KW,seval,d2,an,ao,two,get,ac,ae,aa,hp,ab,R,O,L,M]
     refine ah cW ?_;try simp only[I,B,D,RY,↓KW,seval,a3,aa,hp,ab,R,O,L,M]
     refine ak (k+1) _ ST ST ?_
     refine ai Ts ?_ ?_ ?_ ?_<;>simp[LX,I,B,D,a2,two,ac]
   ·rw[gc (.inl d1)]at ad
    subst ad;try simp only[I,B,D,RY,↓KW,seval,d1,an,ao,two,get,ac,ae,aa,hp,ab,R,O,L,M]
    refine⟨ST,?_⟩
    try simp only[I,B,D,RY,↓KW,seval,two,get,ac,ae,aa,hp,ab,R,O,L,M]
    refine⟨ST,ah cW ?_⟩
    try simp only[I,B,D,RY,↓KW,seval,a3,two,ac,aa,hp,ab,R,O,L,M]
    refine ak (k+1) _ ST ST ?_
    refine ai Ts ?_ ?_ ?_ ?_<;>simp[LX,I,B,D,a2,two,ac]
end
open Go.RowKit
section
variable (P:Program) (p:Nat->Bool) (fn k:Nat)
def vF:Nat:=((List.range k).filter p).length
theorem tU:vF p (k+1)=if p k then vF p k+1 else vF p k:=by
 simp only[vF,lm,yv,Ha,AC]
 split<;>simp
theorem Fh(p:Nat->Bool) {k:Nat} (A:p k=true):∀n,k<n->((List.range n).filter p)[vF p k]? =some k
 |n+1,h=>by
  simp only[lm,yv]
  by_cases hk:k<n
  ·have B:=Fh p A n hk
   rw[km (e9.1 B).1,B]
  ·obtain rfl:k=n:=by omega
   rw[ll (by simp[vF])]
   simp[vF,A]
theorem CC(s:Int) {k:Nat} (hk:k<8):(bits .and .i64 (s/2^k) 1=1)↔tb s k=true:=by
 have h:=EE s hk
 have e:min k IntKind.i64.bits=k:=by have:IntKind.i64.bits=64:=rfl;omega
 rw[e,LT _ (by exact Int.pow_nonneg Ts)]at h
 have A:bits .and .i64 (s/2^k) 1=if tb s k then 1 else 0:=h
 rw[A]
 cases tb s k<;>simp
def HG:Prop:=∀(l B M D L b off len cap:Nat) (s:Int) (f:Nat->Nat->Int) (J:Nat->World->Prop) (A:World->Prop) (W:World) (cnt:Nat->Nat),cnt 0=0->
  (∀k,k<4->bits .and .i64 (s/2^k) 1=1->cnt (k+1)=cnt k+1)->(∀k,k<4->¬bits .and .i64 (s/2^k) 1=1->cnt (k+1)=cnt k)->len<=cap->
  W.cell? ⟨B,M+115,none⟩=some (.slice (some ⟨b,off,none⟩) len cap)->
  (∀i wr,J i wr->(∀k,k<min len 4->wr.cell? ⟨b,off+k*2,none⟩=some (.int .i64 (f k 0))/\wr.cell? ⟨b,off+k*2+1,none⟩=some (.int .i64 (f k 1)))/\wr.cell? ⟨D,L,none⟩=some (.int .i64 s))->
  (∀i wr o,J i wr->J i (wr.alloc o))->(∀wr o,A wr->A (wr.alloc o))->
  (∀n k wr,k<min len 4->bits .and .i64 (s/2^k) 1=1->J (cnt k) wr->YieldAt Fence.wide n P l #[.int .i64 k,.agg #[.int .i64 (f k 0),.int .i64 (f k 1)]] wr λe W'=>(e=.returned (.bool true)/\J (cnt k+1) W')\/(e=.returned (.bool false)/\A W'))->
  J 0 W->
  Calls P fn #[.func (.yield l) #[] #[],.pointer (some ⟨B,M,none⟩),.pointer (some ⟨D,L,none⟩)] W λe W'=>(∃v,e=.returned v)/\(J (cnt (min len 4)) W'\/A W')
def HH:Prop:=∀(x:Option Addr) (l A B D L:Nat) (J:World->Prop) (W:World),W.cell? ⟨A,B+115,none⟩=some (.slice x 0 0)->(∀wr o,J wr->J (wr.alloc o))->J W->
  Calls P fn #[.func (.yield l) #[] #[],.pointer (some ⟨A,B,none⟩),.pointer (some ⟨D,L,none⟩)] W λe W'=>(∃v,e=.returned v)/\J W'
theorem zP(w:World) (o:Obj):Below w.heap.size w (w.alloc o):=(Below.refl _ w).alloc (im _) o
theorem Fi{w:World} {π:Nat->Nat->Prop} {k:IntKind} {n:Int} {v:Value} (h:DV w π (.int k n) v):v=.int k n:=by cases h;rfl
theorem Gt.of{P:Program} {fn:Nat} (al:cw P fn=true) (hS:HG P fn) (hN:HH P fn):Gt.Spec (Pure P) fn:=by
 intro t s ht;refine⟨fn,_,rfl,al,?_,?_⟩
 ·intro x hx a ha
  obtain⟨k,_,rfl⟩:=kp.1 hx;simp only[nY,lw,List.not_mem_nil,or_false]at ha
  rcases ha with rfl|rfl<;>simp[iU,iT,Bs.cells,I]
 intro l J Jx W π vs hπ dv Z ao ac hY h0;obtain⟨ae,ab⟩:=dv
 match vs,ae with
 |[v0,v1],_=>
 have d0:=ab 0 _ _ rfl rfl
 have d1:=ab 1 _ _ rfl rfl
 cases d0 with
 |ref _ B1 o1 g1 a1 a2 a3 a4=>
 cases d1 with
 |ref _ B2 o2 g2 b1 b2 b3 b4=>
 have R:=a3 115 _ (Tb.Gf ht)
 have D:=a4 115 _ (Tb.Gf ht)
 have aa:=b3 0 (I s) rfl
 rw[Fi (b4 0 (I s) rfl),py]at aa
 have ar:π B2 o2:=by have:=b2 0 (I s) rfl;rwa[py]at this
 have V:∀i wr o,J i wr->J i (World.alloc wr o):=λi wr o h=>ao i _ _ h (zP _ _)
 have ad:∀wr o,Jx wr->Jx (World.alloc wr o):=λwr o h=>ac _ _ h (zP _ _)
 generalize a7:g1 115=gv at R D
 cases M:t.jz with
 |none=>
  rw[M]at D;cases D
  have he:ij t s=[]:=by simp[ij,mG,M]
  refine(hN none l B1 o1 B2 o2 (J 0) W R (λwr o=>V 0 wr o) h0).mono ?_
  rintro e W' ⟨h1,h2⟩
  exact⟨h1,.inl (by rw[he];exact h2)⟩
 |some L=>
  rw[M]at D;generalize O:L.map Bs.cells=xs at D
  have ag:DV W π (.sl xs) gv:=by rw[<-O];exact D
  cases ag with
  |K1 a=>
   have hL:L=[]:=by simpa using O
   have he:ij t s=[]:=by simp[ij,mG,M,hL]
   refine(hN (some a) l B1 o1 B2 o2 (J 0) W R (λwr o=>V 0 wr o) h0).mono ?_
   rintro e W' ⟨h1,h2⟩
   exact⟨h1,.inl (by rw[he];exact h2)⟩
  |sl _ B off cap z f c1 c2 c3 c4 c5 c6=>
  have ak:xs.length=L.length:=by rw[<-O];simp
  have A:∀k,k<L.length->xs[k]? =some (qA t k).cells:=λk hk=>by
   rw[<-O];simp[qA,M,hk]
  have hz:∀k,k<L.length->z=2:=λk hk=>(c2 k _ (A k hk)).symm
  have hcell:∀k,k<L.length->(W.cell? ⟨B,off+k*2,none⟩=some (.int .i64 (qA t k).set)/\W.cell? ⟨B,off+k*2+1,none⟩=some (.int .i64 (qA t k).lock))/\π B (off+k*2)/\π B (off+k*2+1):=λk hk=>by
   have a6:=hz k hk
   subst a6
   have e0:=c5 k 0 _ _ (A k hk) rfl
   have e1:=c5 k 1 _ _ (A k hk) rfl
   rw[Fi (c6 k 0 _ _ (A k hk) rfl)]at e0;rw[Fi (c6 k 1 _ _ (A k hk) rfl)]at e1;exact⟨⟨e0,e1⟩,c4 k 0 _ _ (A k hk) rfl,c4 k 1 _ _ (A k hk) rfl⟩
  have a5:mG t=min xs.length 4:=by simp[mG,M,ak]
  have an:((ij t s).map (nY t)).length=vF (λk=>tb s k) (min xs.length 4):=by simp[ij,vF,a5]
  rw[an]
  refine hS l B1 o1 B2 o2 B off xs.length cap s (λk c=>if c=0 then(qA t k).set else(qA t k).lock) J Jx W (vF λk=>tb s k) rfl ?_ ?_ c1 R ?_ V ad ?_ h0
  ·intro k hk hb;rw[tU,gc ((CC s ST).1 hb)]
  ·intro k hk hb;rw[tU,fx (λh=>hb ((CC s ST).2 h))]
  ·intro i wr hJ
   refine⟨λk hk=>?_,?_⟩
   ·obtain⟨⟨e0,e1⟩,p0,p1⟩:=hcell k ST
    simp only[kv,fx (show ¬(1:Nat)=0 by decide)]
    exact⟨(Z i wr hJ _ _ p0).trans e0,(Z i wr hJ _ _ p1).trans e1⟩
   ·exact(Z i wr hJ _ _ ar).trans aa
  ·intro n k wr hk hb hJ
   have au:=(CC s ST).1 hb
   have am:=Fh (λk=>tb s k) au (mG t) ST
   have hx:((ij t s).map (nY t))[vF (λk=>tb s k) k]? =some (nY t k):=by rw[jp,ij,am];rfl
   exact hY n _ _ wr hx hJ
end
open Go.RowKit
section
variable {α:Type} {a:α} {l:List α} {β:Type} {R:α->β->Prop} {m:List β} (P:Program)
def An(A:Nat):Prop:=∀(s p:Int) (w:World),Calls P A #[.int .i64 s,.int .i64 p] w λe w'=>e=.returned (.bool (dP s p))/\Below w.heap.size w w'
theorem An.of{P:Program} {L:Nat} (h:jU.Spec (Pure P) L):An P L:=by
 intro s p w
 refine((h s p).2 w (λ_ _=>False) [.int .i64 s,.int .i64 p] (λ_ _ h=>h.elim) ⟨rfl,?_⟩).mono λe w' ⟨v,π',M,O,_,_,_,D,_⟩=>?_
 ·intro i a v A B
  match i with
  |0=>simp at A B;subst A;subst B;exact .int _ _
  |1=>simp at A B;subst A;subst B;exact .int _ _
  |i+2=>simp at A
 cases D;exact⟨M,O⟩
def KS(fn:Nat):Prop:=∀(l D L:Nat) (s:Int) (J:Nat->World->Prop) (B:World->Prop) (W:World) (cnt:Nat->Nat),cnt 0=0->
  (∀k:Nat,k<8->dP s k=true->cnt (k+1)=cnt k+1)->(∀k:Nat,k<8->dP s k=false->cnt (k+1)=cnt k)->
  (∀i wr,J i wr->wr.cell? ⟨D,L,none⟩=some (.int .i64 s))->
  (∀i wr A,J i wr->Below wr.heap.size wr A->J i A)->(∀wr A,B wr->Below wr.heap.size wr A->B A)->
  (∀(n k:Nat) wr,k<8->dP s k=true->J (cnt k) wr->YieldAt Fence.wide n P l #[.int .i64 k] wr λe W'=>(e=.returned (.bool true)/\J (cnt k+1) W')\/(e=.returned (.bool false)/\B W'))->
  J 0 W->
  Calls P fn #[.func (.yield l) #[] #[],.pointer (some ⟨D,L,none⟩)] W λe W'=>(∃v,e=.returned v)/\(J (cnt 8) W'\/B W')
theorem sC.of{P:Program} {fn:Nat} (R:cw P fn=true) (hS:KS P fn):sC.Spec (Pure P) fn:=by
 intro s;refine⟨fn,_,rfl,R,?_,?_⟩
 ·intro x O a ha
  obtain⟨k,_,rfl⟩:=kp.1 O;simp only[lw,List.not_mem_nil,or_false]at ha;subst ha;simp[iU,iT,I]
 intro l J Jx W π vs hπ dv ad ab D hY h0;obtain⟨L,ae⟩:=dv
 match vs,L with
 |[v1],_=>
 have d1:=ae 0 _ _ rfl rfl
 cases d1 with
 |ref _ B2 o2 g2 b1 b2 b3 b4=>
 have B:=b3 0 (I s) rfl
 rw[Fi (b4 0 (I s) rfl),py]at B
 have ac:π B2 o2:=by have:=b2 0 (I s) rfl;rwa[py]at this
 have Z:(((List.range 8).filter λp=>tb s p).map λ(p:Nat)=>[I p]).length=vF (λk=>tb s k) 8:=by simp[vF]
 rw[Z]
 refine hS l B2 o2 s J Jx W (vF λk=>tb s k) rfl ?_ ?_ ?_ (λi wr aa h A=>ab i _ _ h A) (λwr aa h A=>D _ _ h A) ?_ h0
 ·intro k hk A;rw[eF ST]at A;rw[tU,gc A]
 ·intro k hk A;rw[eF ST]at A;rw[tU,fx (by rw[A];simp)]
 ·intro i wr M
  exact(ad i wr M _ _ ac).trans B
 ·intro n k wr hk A M
  rw[eF ST]at A
  have V:=Fh (λk=>tb s k) A 8 ST
  have O:(((List.range 8).filter λp=>tb s p).map λ(p:Nat)=>[I p])[vF (λk=>tb s k) k]? =some [I k]:=by rw[jp,V];rfl
  exact hY n _ _ wr O M
def Al{α β:Type} (R:α->β->Prop):List α->List β->Prop
 |[],[]=>True
 |a::l,b::m=>R a b/\Al R l m
 |_,_=>False
theorem Al.len{α β:Type} {R:α->β->Prop}:∀{l:List α} {m:List β},Al R l m->l.length=m.length
 |[],[],_=>rfl
 |a::l,b::m,h=>by simp[Al.len h.2]
 |[],b::m,h=>h.elim
 |a::l,[],h=>h.elim
theorem Al.get{α β:Type} {R:α->β->Prop}:∀{l:List α} {m:List β},Al R l m->∀(i:Nat) (a:α) (b:β),l[i]? =some a->m[i]? =some b->R a b
 |a::l,b::m,h,0,x,y,A,B=>by simp at A B;subst A;subst B;exact h.1
 |a::l,b::m,h,i+1,x,y,A,B=>Al.get h.2 i x y (by simpa using A) (by simpa using B)
 |[],_,_,i,_,_,A,_=>by simp at A
theorem Al.mk{α β:Type} {R:α->β->Prop}:∀{l:List α} {m:List β},l.length=m.length->(∀(i:Nat) (a:α) (b:β),l[i]? =some a->m[i]? =some b->R a b)->Al R l m
 |[],[],_,_=>trivial
 |a::l,b::m,h,f=>⟨f 0 a b rfl rfl,Al.mk (by simpa using h) λi x y B A=>f (i+1) x y (by simpa using B) (by simpa using A)⟩
theorem Al.append{α β:Type} {R:α->β->Prop}:∀{l:List α} {m:List β} {A:List α} {B:List β},Al R l m->Al R A B->Al R (l++A) (m++B)
 |[],[],_,_,_,h=>h
 |a::l,b::m,_,_,h,D=>⟨h.1,Al.append h.2 D⟩
theorem Al.n:Al R ([]:List α) ([]:List β):=trivial
theorem Al.c{b:β} (h:R a b) (t:Al R l m):Al R (a::l) (b::m):=⟨h,t⟩
theorem Al.Fj(h:Al R [] m):m=[]:=by
 cases m with
 |nil=>rfl
 |cons b m=>exact h.elim
theorem Al.cons_inv(h:Al R (a::l) m):∃b A,m=b::A/\R a b/\Al R l A:=by
 cases m with
 |nil=>exact h.elim
 |cons b m=>exact⟨b,m,rfl,h.1,h.2⟩
inductive Z' where
 |bool
 |int (k:IntKind)
 |flt (k:FloatKind)
 |str
inductive Ty where
 |sc (s:Z')
 |sl (l:List Ty)
def tV(A:TypeId->Nat) (F:TypeId->Option (List Ty)):Nat->List (Nat×TypeId)->Option (List Ty)
 |_,[]=>some []
 |o,f::r=>if f.1=o then match F f.2 with
   |some l=>if A f.2=l.length then match tV A F (o+l.length) r with
    |some m=>some (l++m)
    |none=>none
    else none
   |none=>none
  else none
def Jk(P:Program):Nat->TypeId->Option (List Ty)
 |0,_=>none
 |n+1,t=>match P.underlying t with
  |some .bool=>some [.sc .bool]
  |some (.int k)=>some [.sc (.int k)]
  |some (.float k)=>some [.sc (.flt k)]
  |some .string=>some [.sc .str]
  |some (.slice e)=>match Jk P n e with
   |some l=>if P.cellsOf e=l.length/\0<l.length then some [.sl l]else none
   |none=>none
  |some (.struct A)=>match tV P.cellsOf (Jk P n) 0 (A.toList.map λf=>(f.offset,f.type))with
   |some l=>if P.cellsOf t=l.length then some l else none
   |none=>none
  |some (.array k e)=>match tV P.cellsOf (Jk P n) 0 ((List.range k).map λi=>(i*P.cellsOf e,e))with
   |some l=>if P.cellsOf t=l.length then some l else none
   |none=>none
  |_=>none
def ScV:Z'->AV->Prop
 | .bool,.bool _=>True
 | .int k,.int A n=>A=k/\(Lit.int k n).wf=true
 | .flt k,.float A b=>A=k/\(Lit.float k b).wf=true
 | .str,.str s=>s.size<=maxLen
 |_,_=>False
mutual
def yI:Ty->AV->Prop
 | .sc s,a=>ScV s a
 | .sl _,.bF=>True
 | .sl l,.sl xs=>xs.length<=maxLen/\∀r∈xs,HI l r
 |_,_=>False
def HI:List Ty->List AV->Prop
 |[],[]=>True
 |t::l,a::r=>yI t a/\HI l r
 |_,_=>False
end
theorem Fk:∀{l:List Ty} {as:List AV},HI l as↔Al yI l as
 |[],[]=>by simp[HI,Al]
 |t::l,a::r=>by simp only[HI,Al];rw[Fk (l:=l) (as:=r)]
 |[],a::r=>by simp[HI,Al]
 |t::l,[]=>by simp[HI,Al]
def CD(W:World):Nat->Nat->Prop:=λb _=>b<W.heap.size
theorem SX{W:World} {a:Addr} {v:Value} (h:W.cell? a=some v):a.block<W.heap.size:=by
 unfold World.cell? at h;split at h
 ·rename_i A;exact ng A
 ·cases h
theorem ScV.scalar{s:Z'} {a:AV} (h:ScV s a):a.scalar=true:=by cases s<;>cases a<;>first|exact h.elim|rfl
theorem yI.scalar{s:Ty} {a:AV} (h:yI s a):a.scalar=true:=by
 cases s with
 |sc s=>exact ScV.scalar (by simpa[yI]using h)
 |sl l=>cases a<;>first|rfl|(simp[yI]at h)
end
section
variable{H:Type} {enc:TypeId×Value->H} {P:Program} {W:World} {base:Nat}
open Go.ChangeShapes Go.WideShapes Go.ChangeAt Go.RowKit
section
variable {a:AV} {k:IntKind} {n:Nat} {t:TypeId} {v:Value}
theorem Jl{D:Nat->Bool} {held:Bool} {B A:Nat} {cs:List Value} {x:DataW H×List MemPlace} {k:FloatKind} (ht:P.underlying t=some (.float k)) (h:DataW.trod enc P W B D held A t cs=some x):∃n,cs=[.float k n]/\(Lit.float k n).wf=true:=by
 cases A with
 |zero=>simp[DataW.trod]at h
 |succ n=>
  unfold DataW.trod at h;rw[ht]at h
  split at h<;>simp_all
theorem vG{sp:TypeId->Nat} {G:TypeId->Option (List Ty)} {Tr:TypeId->List Value->Prop}
  (each:∀t l cs,G t=some l->Tr t cs->∃as,Al yI l as/\Al (DV W (CD W)) as cs):∀(ps:List (Nat×TypeId)) (o:Nat) (l:List Ty) (cs:List Value),tV sp G o ps=some l->cs.length=o+l.length->
   (∀(i:Nat) (f:Nat×TypeId),ps[i]? =some f->Tr f.2 ((cs.drop f.1).take (sp f.2)))->∃as,Al yI l as/\Al (DV W (CD W)) as (cs.drop o)
 |[],o,l,cs,h,B,_=>by
  simp only[tV,gg]at h;subst h;refine⟨[],trivial,?_⟩
  rw[zd (by simp at B;omega)];trivial
 |f::ps,o,l,cs,h,B,A=>by
  simp only[tV]at h
  split at h<;>try(cases h;done)
  rename_i ho
  split at h<;>try(cases h;done)
  rename_i l1 O
  split at h<;>try(cases h;done)
  rename_i aa
  split at h<;>try(cases h;done)
  rename_i m hm;cases h
  have h0:=A 0 f rfl
  rw[ho,aa]at h0;obtain⟨R,M,L⟩:=each f.2 l1 _ O h0
  obtain⟨Z,V,D⟩:=vG each ps (o+l1.length) m cs hm (by rw[B];simp;omega) (λi g hg=>A (i+1) g (by simpa using hg))
  refine⟨R++Z,M.append V,?_⟩
  have:=L.append D
  rw[<-Fd,List.take_append_drop]at this;exact this
omit H enc P W base in
theorem Jm{w:World} {b o:Nat} {A:Option Nat} (h:w.cell? ⟨b,o,A⟩=some v):A=none:=by
 cases A with
 |none=>rfl
 |some x=>unfold World.cell? at h;split at h<;>simp at h
theorem Fo{a:Addr} (h:a.spot=none):a.add n=⟨a.block,a.off+n,none⟩:=by
 obtain⟨b,o,s⟩:=a;simp only at h;subst h;unfold Addr.add;split
 ·rename_i A;subst A;rfl
 ·rfl
theorem Ao:∀(n:Nat) (t:TypeId) (l:List Ty),Jk P n t=some l->∀(cs:List Value) (x:DataW H×List MemPlace) (A:Nat),
  DataW.trod enc P W 0 (λ_=>true) true A t cs=some x->∃as,Al yI l as/\Al (DV W (CD W)) as cs
 |0,t,l,h,cs,x,A,hx=>by cases h
 |n+1,t,l,h,cs,x,A,hx=>by
  simp only[Jk]at h;split at h
  ·rename_i ht;cases h
   obtain⟨b,rfl,_⟩:=DataW.trod_bool ht hx
   exact⟨[.bool b],⟨by simp[yI,ScV],trivial⟩,⟨.bool b,trivial⟩⟩
  ·rename_i k ht;cases h
   obtain⟨m,rfl,_,hw⟩:=DataW.trod_int ht hx
   exact⟨[.int k m],⟨by simp only[yI];exact⟨rfl,hw⟩,trivial⟩,⟨.int k m,trivial⟩⟩
  ·rename_i k ht;cases h
   obtain⟨m,rfl,hw⟩:=Jl ht hx
   exact⟨[.float k m],⟨by simp only[yI];exact⟨rfl,hw⟩,trivial⟩,⟨.float k m,trivial⟩⟩
  ·rename_i ht;cases h
   obtain⟨s,rfl,_,hw⟩:=DataW.trod_string ht hx
   exact⟨[.str s],⟨by simp only[yI];exact hw,trivial⟩,⟨.str s,trivial⟩⟩
  ·rename_i e ht
   split at h<;>try(cases h;done)
   rename_i le au
   split at h<;>try(cases h;done)
   rename_i Z;cases h;obtain⟨Z,a3⟩:=Z
   rcases DataW.trod_slice ht hx with⟨rfl,_⟩|⟨a,len,cap,elems,rest,k,_,rfl,_,_,a7,a5,a4,ag,ae,_⟩
   ·exact⟨[.bF],⟨by simp[yI],trivial⟩,⟨.bF,trivial⟩⟩
   have O:∀(y:DataW H×List MemPlace),(W.cells? 0 (a.add (0*P.cellsOf e)) (P.cellsOf e)).bind (DataW.trod enc P W 0 (λ_=>true) true k e)=some y->a.spot=none:=by
    intro y R;rw[kb]at R;obtain⟨cs,ab,_⟩:=R
    obtain⟨_,ad,hcell⟩:=World.cells?_some ab
    have h0:=hcell 0 ST
    obtain⟨v,hv⟩:∃v,cs[0]? =some v:=⟨_,et ST⟩
    rw[hv]at h0;obtain⟨b,o,sp⟩:=a;simp only[Nat.zero_mul,Addr.add,kv]at h0;exact Jm h0
   have B:cap=0\/a.spot=none:=by
    rcases sd cap with h|h
    ·exact .inl h
    right
    rcases sd len with h'|h'
    ·obtain⟨a6,al⟩:=ae rfl
     have:=al 0 ST
     obtain⟨y,R⟩:∃y,rest[0]? =some y:=⟨_,et ST⟩
     rw[R,h',la]at this;exact O y this
    ·have:=ag 0 h'
     obtain⟨y,R⟩:∃y,elems[0]? =some y:=⟨_,et ST⟩
     rw[R]at this;exact O y this
   rcases B with rfl|B
   ·have:len=0:=ST
    subst this
    exact⟨[.sl []],⟨by simp[yI],trivial⟩,⟨.K1 a,trivial⟩⟩
   have each:∀i,i<len->∃as cs,Al yI le as/\Al (DV W (CD W)) as cs/\∀j,j<le.length->W.cell? ⟨a.block,a.off+i*le.length+j,none⟩=cs[j]?:=by
    intro i M
    have he:=ag i M
    have:elems[i]?≠none:=by simp;omega
    obtain⟨y,R⟩:=Kd.1 this;rw[R,kb]at he;obtain⟨cs,ab,am⟩:=he
    obtain⟨_,ad,hcell⟩:=World.cells?_some ab
    obtain⟨as,ar,ao⟩:=Ao n e le au cs y k am
    refine⟨as,cs,ar,ao,λj hj=>?_⟩
    have:=hcell j ST
    rw[<-this,Fo (a:=a.add _) (by rw[Fo B]),Fo B,Z]
   obtain⟨rows,an,ac,hr⟩:∃rows:List (List AV),rows.length=len/\(∀r∈rows,Al yI le r)/\∀i r,rows[i]? =some r->∃cs,Al (DV W (CD W)) r cs/\∀j,j<le.length->W.cell? ⟨a.block,a.off+i*le.length+j,none⟩=cs[j]?:=by
    refine⟨(List.range len).map λi=>if h:i<len then(each i h).choose else[],TB,?_,?_⟩
    ·intro r hr
     obtain⟨i,M,rfl⟩:=kp.1 hr;rw[ib]at M;rw[dif_pos M];exact(each i M).choose_spec.choose_spec.1
    ·intro i r hr
     rw[jp,em]at hr;obtain⟨k,hk,rfl⟩:=hr
     have M:=(e9.1 hk).1
     simp at M;rw[kh M]at hk;cases hk;rw[dif_pos M];exact⟨_,(each i M).choose_spec.choose_spec.2⟩
   obtain⟨b,off,a2⟩:=a;simp only at B hr;subst B
   refine⟨[.sl rows],⟨by simp only[yI];exact⟨ST,λr hr=>Fk.2 (ac r hr)⟩,trivial⟩,?_,trivial⟩
   have hz:∀(i:Nat) (r:List AV),rows[i]? =some r->r.length=le.length:=λi r h=>(ac r (ev h)).len.symm
   have at_:∀(i j:Nat) (r:List AV) (x:AV),rows[i]? =some r->r[j]? =some x->∃v,W.cell? ⟨b,off+i*le.length+j,none⟩=some v/\DV W (CD W) x v:=by
    intro i j r x L V;obtain⟨cs,hd,hc⟩:=hr i r L
    have hj:j<le.length:=by have:=(e9.1 V).1;have:=hz i r L;omega
    obtain⟨v,hv⟩:∃v,cs[j]? =some v:=⟨_,et (by have:=hd.len;have:=hz i r L;omega)⟩
    exact⟨v,(hc j hj).trans hv,hd.get j x v V hv⟩
   have key:=DV.sl (w:=W) (π:=CD W) rows b off cap le.length (λi j=>(W.cell? ⟨b,off+i*le.length+j,none⟩).getD default) ST hz
    (λi j r x L V=>by
     obtain⟨t,ht⟩:∃t,le[j]? =some t:=⟨_,et (by have:=(e9.1 V).1;have:=hz i r L;omega)⟩
     exact yI.scalar ((ac r (ev L)).get j t x ht V))
    (λi j r x L V=>by obtain⟨v,hv,_⟩:=at_ i j r x L V;exact SX hv)
    (λi j r x L V=>by obtain⟨v,hv,_⟩:=at_ i j r x L V;rw[hv];rfl)
    (λi j r x L V=>by obtain⟨v,hv,hd⟩:=at_ i j r x L V;rw[hv];exact hd)
   rw[an]at key;exact key
  ·rename_i fs ht
   split at h<;>try(cases h;done)
   rename_i l' aa
   split at h<;>try(cases h;done)
   rename_i Z;cases h;obtain⟨xs,k,_,_,ad,ak,hf⟩:=DataW.trod_struct ht hx
   have:=vG (W:=W) (Tr:=λt cs=>∃x A,DataW.trod enc P W 0 (λ_=>true) true A t cs=some x) (λt l cs L ⟨x,A,h3⟩=>Ao n t l L cs x A h3) _ 0 l cs aa ST (λi f D=>by
    rw[jp,em]at D;obtain⟨f,D,rfl⟩:=D
    have L:=hf i f (by simpa using D)
    have:xs[i]?≠none:=by
     have:=(e9.1 D).1
     simp at this⊢;omega
    obtain⟨y,R⟩:=Kd.1 this
    exact⟨y,k,L.trans R⟩)
   simpa using this
  ·rename_i q e ht
   split at h<;>try(cases h;done)
   rename_i l' aa
   split at h<;>try(cases h;done)
   rename_i Z;cases h;obtain⟨xs,k,_,_,ad,ak,hf⟩:=DataW.trod_array ht hx
   have:=vG (W:=W) (Tr:=λt cs=>∃x A,DataW.trod enc P W 0 (λ_=>true) true A t cs=some x) (λt l cs L ⟨x,A,h3⟩=>Ao n t l L cs x A h3) _ 0 l cs aa ST (λi f D=>by
    rw[jp,em]at D;obtain⟨f,D,rfl⟩:=D
    have M:=(e9.1 D).1
    simp at M;rw[kh M]at D;cases D
    have L:=hf i M
    have:xs[i]?≠none:=by simp;omega
    obtain⟨y,R⟩:=Kd.1 this
    exact⟨y,k,L.trans R⟩)
   simpa using this
  ·cases h
def isAgg(P:Program) (t:TypeId):Bool:=match P.underlying t with
 |some (.struct _)|some (.array _ _)=>true
 |_=>false
theorem Mq{k:Ty} {d:DataW H} {p:List MemPlace} (V:Jk P n t=some [k]) (B:isAgg P t=false) (A:Value.okWide P W .any base t v) (h:DataW.Trod enc P W 0 (λ_=>true) true t v d p):∃a,yI k a/\DV W (CD W) a v:=by
 obtain⟨O,R⟩:=h
 obtain⟨as,ht,hd⟩:=Ao n t [k] V _ _ _ R
 obtain⟨a,Z,rfl,hk,D⟩:=ht.cons_inv;cases D.Fj;obtain⟨u,us,e,M,_⟩:=hd.cons_inv
 have L:∀cs,v≠.agg cs:=by
  rintro cs rfl
  unfold isAgg at B;unfold Value.okWide at A;split at A
  ·rename_i e;rw[e]at B;cases B
  ·rename_i e;rw[e]at B;cases B
  ·unfold Cell.okWide at A
   split at A<;>simp_all [Cell.ok]
 refine⟨a,hk,?_⟩
 cases v<;>simp[Value.cells]at e
 case agg cs=>exact absurd rfl (L cs)
 all_goals(obtain⟨rfl,rfl⟩:=e;exact M)
theorem SY(h:yI (.sc (.int k)) a):∃n,a=.int k n/\(Lit.int k n).wf=true:=by
 simp only[yI]at h
 cases a<;>first|exact h.elim|(obtain⟨rfl,A⟩:=h;exact⟨_,rfl,A⟩)
theorem WV{α:Type} {f:α->List AV} {Q:α->Prop} {l:List Ty} (row:∀r,Al yI l r->∃x,r=f x/\Q x) (h:yI (.sl l) a):∃xs:Option (List α),a=aI f xs/\(xs.getD []).length<=maxLen/\∀x∈xs.getD [],Q x:=by
 cases a<;>simp only[yI]at h
 ·exact⟨none,rfl,TB,TB⟩
 rename_i xs
 have:∀(xs:List (List AV)),(∀r∈xs,HI l r)->∃m:List α,xs=m.map f/\∀x∈m,Q x:=by
  intro xs
  induction xs with
  |nil=>intro _;exact⟨[],rfl,TB⟩
  |cons r xs A=>
   intro h
   obtain⟨m,rfl,hm⟩:=A (λr D=>h r (ii _ D))
   obtain⟨x,rfl,B⟩:=row _ (Fk.1 (h _ ip))
   exact⟨x::m,rfl,by simpa using⟨B,hm⟩⟩
 obtain⟨m,rfl,hm⟩:=this xs h.2
 exact⟨some m,rfl,by simpa using h.1,hm⟩
theorem HJ(h:yI (.sl [.sc (.int k)]) a):∃l:Option (List Int),a=aI (λn=>[.int k n]) l/\(l.getD []).length<=maxLen/\∀n∈l.getD [],(Lit.int k n).wf=true:=
 WV (λr L=>by
  obtain⟨a,as,rfl,A,B⟩:=L.cons_inv;cases B.Fj;obtain⟨n,rfl,D⟩:=SY A
  exact⟨n,rfl,D⟩) h
theorem PF{P:Program} {f:Nat} {args:List AV} {W:World} {vs:List Value} (h:(Pure P).c f args (.bool true) none) (hd:Al (DV W (CD W)) args vs):
  Calls P f vs.toArray W λe w'=>e=.returned (.bool true)/\Go.RowKit.Below W.heap.size W w':=by
 refine(h.2 W (CD W) vs (λ_ _ h=>h) ⟨hd.len,hd.get⟩).mono λe w' ⟨v,π',B,D,_,_,_,A,_⟩=>?_
 cases A;exact⟨B,D⟩
end
end
section
variable{H:Type} {enc:TypeId×Value->H} {P:Program} {W:World} {base:Nat}
open Go.ChangeShapes Go.WideShapes Go.ChangeAt Go.RowKit
def aai(enc:TypeId×Value->H) (P:Program) (W:World) (base:Nat) (t:TypeId) (v:Value):Prop:=
 Value.okWide P W .any base t v/\∃d p,DataW.Trod enc P W 0 (λ_=>true) true t v d p
theorem D1:∀{A:List TypeId} {vs:List Value} {ds:List (DataW H)} {ps:List MemPlace},DataW.TrodAll enc P W 0 (λ_=>true) true A vs ds ps->
  (∀(j:Nat) t v,A[j]? =some t->vs[j]? =some v->Value.okWide P W .any base t v)->Al (aai enc P W base) A vs
 |[],vs,ds,ps,h,_=>by obtain⟨rfl,_,_⟩:=trodAll_nil h;trivial
 |t::A,vs,ds,ps,h,D=>by
  obtain⟨v,R,d,O,p,q,rfl,rfl,rfl,M,B⟩:=trodAll_cons h
  exact⟨⟨D 0 t v rfl rfl,d,p,M⟩,D1 B λj t v B L=>D (j+1) t v (by simpa using B) (by simpa using L)⟩
theorem CE{W':World} (L:laidOutB P=true):∀{A:List TypeId} {vs:List Value} {ds:List (DataW H)} {ps:List MemPlace},(A.all λt=>P.readableRec t&&decide (t<P.types.size))=true->
  DataW.TrodAll enc P W 0 (λ_=>true) true A vs ds ps->Below W.heap.size W W'->DataW.TrodAll enc P W' 0 (λb=>decide (b<W.heap.size)) true A vs ds ps
 |[],vs,ds,ps,_,h,_=>by obtain⟨rfl,rfl,rfl⟩:=trodAll_nil h;exact trodAll_mk0
 |t::A,vs,ds,ps,B,h,M=>by
  have D:=DataW.TrodAll.lt h
  obtain⟨v,aa,d,Z,p,q,rfl,rfl,rfl,R,O⟩:=trodAll_cons h;simp only[List.all_cons,dT,gn]at B
  exact trodAll_cons_mk (Below.trod L B.1.1 B.1.2 R M λx V=>D x (by simp[V])) (CE L B.2 O M)
theorem HK{n:Nat} {t:TypeId} {k:Ty} {v:Value} (B:Jk P n t=some [k]) (L:isAgg P t=false) (h:aai enc P W base t v):∃a,yI k a/\DV W (CD W) a v:=by
 obtain⟨A,d,p,D⟩:=h;exact Mq B L A D
theorem xM{B:Nat->Bool} {held:Bool} {D:Nat}:∀{A:List TypeId} {vs:List Value} {ds:List (DataW H)} {ps:List MemPlace},DataW.TrodAll enc P W D B held A vs ds ps->ds.length=A.length
 |[],vs,ds,ps,h=>by obtain⟨_,rfl,_⟩:=trodAll_nil h;rfl
 |t::A,vs,ds,ps,h=>by
  obtain⟨v,O,d,M,p,q,rfl,rfl,rfl,R,L⟩:=trodAll_cons h;simp[xM L]
end
section
variable {α:Type} {l:List α}
theorem TJ{n:Nat} (h:l.length=n+1):∃a m,l=a::m/\m.length=n:=by
 cases l with
 |nil=>cases h
 |cons a m=>exact⟨a,m,rfl,by simpa using h⟩
theorem aaj(h:l.length=1):∃a,l=[a]:=by obtain⟨a,m,rfl,A⟩:=TJ h;exact⟨a,by rw[List.length_eq_zero_iff.1 A]⟩
theorem aak(h:l.length=2):∃a b,l=[a,b]:=by obtain⟨a,m,rfl,A⟩:=TJ h;obtain⟨b,rfl⟩:=aaj A;exact⟨a,b,rfl⟩
end
end Go.Eng
