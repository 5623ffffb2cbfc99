/- Part 18 of the engine and its library. -/
import Derived.Test.YtdfplndcbbofjaaGreatPkS17
set_option linter.all false
set_option maxRecDepth 10000
set_option maxHeartbeats 4000000
namespace Go.Eng
open Go
section
variable (t:Tb) (r:d4) (l:List Rn) (want k:Int)
structure TG (t:Tb) (n:Nat):Prop where
 n8:n<=8
 on:∀p:Nat,p<8->(aD t p).on=decide (p<n)
 ph:∀p:Nat,p<n->Ow (aD t p)
 off:∀p:Nat,p<8->n<=p->aD t p=default
 sym:∀p q,p<8->q<8->tb (fj t p) q=tb (fj t q) p
 con:∀p q:Nat,p<8->q<8->tb (fj t p) q=true->p≠q/\cL t p q=false
 uq:Uq t
 wh:∀p:Nat,p<n->(aA t p).2=true
 Tz:∀p:Nat,(aA t p).2=true->p<n
 rl:(t.bp.getD []).length<=2/\∀r∈t.bp.getD [],EX t n r
theorem aab(l:Option (List Int)):TG (aR l) (nT l) where
 n8:=(kE l).2
 on:=λp A=>by rw[tph l A];split<;>rename_i h<;>simp[h];exact(J9 _ _).on;rfl
 ph:=λp A=>by rw[tph l (by have:=(kE l).2;omega),gc A];exact J9 _ _
 off:=λp L A=>by rw[tph l L,fx ST]
 sym:=λp q A B=>L5 l A B
 con:=λp q A B h=>L9 l A B h
 uq:=O4 l
 wh:=λp A=>ON l A
 Tz:=λp h=>by
  obtain⟨O,M⟩:=xB h
  have D:(aA (aR l) p).1.p∈(aO (aR l)).map Sp.p:=Hc O
  rw[Ae,M,cN]at D;simp only[kp,ib]at D;obtain⟨i,V,R⟩:=D;omega
 rl:=Wf l
theorem TG.min{t:Tb} {n:Nat} (h:TG t n) {p:Nat} (A:p<8):(aD t p).min<=9999:=by
 by_cases e:p<n
 ·have:=(h.ph p e).min;omega
 ·rw[h.off p A ST];decide
structure SI (t:Tb) (n:Nat) (s:bA):Prop where
 ok:s.Ok
 safe:∀p q,p<8->q<8->tb (fj t p) q=true->bD (s.rn p)=true\/bD (s.rn q)=true
 run:∀p:Nat,p<8->Pe (aD t p) (s.rn p)
 off:∀p,p<8->n<=p->bD (s.rn p)=true
 pre:SF t s.pre
 ring:s.pre.ax=0->∀p:Nat,p<8->(s.rn p).ay=1->∃k:Int,(k=0\/k=1)/\jM t s.rings k=p
structure Hv (t:Tb) (n:Nat) (s:bA) (st fn ct:Int) (ax:Int) (rg:d4):Prop where
 start:∀p,p<8->tb st p=true->bD (s.rn p)=true/\p<n/\∀q,q<8->tb (fj t p) q=true->bD (s.rn q)=true
 two:∀p q,p<8->q<8->tb st p=true->tb st q=true->tb (fj t p) q=false
 fin:∀p:Nat,p<8->tb fn p=true->(s.rn p).ay=1->((aD t p).min<=(s.rn p).time/\(s.rn p).fst=0)\/ax=1\/ax=3
 cut:∀p,p<8->tb ct p=true->ax=1\/ax=3
 ring:ax=0->∀p:Nat,p<8->((s.rn p).ay=1/\tb fn p=false)\/tb st p=true->∃k:Int,(k=0\/k=1)/\jM t rg k=p
theorem Cr{t:Tb} {l:List Rn} {p:Nat} (h:gz t l p=true):bD (aP l p)=true/\(aP l p).time>=t.revert/\∀q,q<8->tb (fj t p) q=true->bD (aP l q)=true:=by
 simp only[gz,dT,gn]at h;exact⟨h.1.1,h.1.2,oN.1 h.2⟩
def CX:Prop:=qT t r l k=false/\jN t r want k>=0/\gz t l (mM t r.group k (jN t r want k)).toNat=true
def Ky:Prop:=qT t r l k=true/\B9 t r l want k=true
def qR:Int:=mM t r.group k (jN t r want k)
theorem ja(x:d4×Int×Int):
  (Ky t r l want k/\¬CX t r l want k/\kP t r l want k x=(x.1,x.2.1,dr x.2.2 (jM t r k)))\/(CX t r l want k/\¬Ky t r l want k/\kP t r l want k x=(x.1.put k (jN t r want k),dr x.2.1 (qR t r want k),x.2.2))\/(¬Ky t r l want k/\¬CX t r l want k/\kP t r l want k x=x):=by
 unfold kP;split
 ·rename_i h
  split
  ·rename_i B
   exact .inl ⟨⟨h,B⟩,λA=>(by rw[A.1]at h;cases h),rfl⟩
  ·rename_i B
   exact .inr (.inr ⟨λA=>B A.2,λA=>(by rw[A.1]at h;cases h),rfl⟩)
 ·rename_i h
  split
  ·rename_i D
   split
   ·rename_i B
    exact .inr (.inl ⟨⟨by simpa using h,D,B⟩,λA=>h A.1,rfl⟩)
   ·rename_i B
    exact .inr (.inr ⟨λA=>h A.1,λA=>B A.2.2,rfl⟩)
  ·rename_i D
   exact .inr (.inr ⟨λA=>h A.1,λA=>D A.2.1,rfl⟩)
theorem eu{s:Int} {p:Int} (A:0<=p/\p<8) (i:Nat):tb (dr s p) i=(tb s i&&decide (i<8)||decide ((i:Int)=p)):=by
 obtain⟨k,rfl⟩:∃k:Nat,p=k:=⟨p.toNat,ST⟩
 rw[jl ST]
 congr 1
 exact decide_eq_decide.2 ST
end
section
variable {e:Int} {i:Nat} {k:Int} {n p q:Nat} {r:d4} {s:bA} {t:Tb} {want:Int}
theorem js(t:Tb) (r:d4) (l:List Rn) (want:Int) (L:i<8):
  (tb (dN t r l want).2.1 i=true->∃k:Int,(k=0\/k=1)/\CX t r l want k/\(i:Int)=qR t r want k)/\
  (tb (dN t r l want).2.2 i=true->∃k:Int,(k=0\/k=1)/\Ky t r l want k/\(i:Int)=jM t r k):=by
 have A:∀k:Int,(k=0\/k=1)->CX t r l want k->0<=qR t r want k/\qR t r want k<8:=λk hk h=>zJ h.2.1 ST
 have n8:∀k:Int,Ky t r l want k->0<=jM t r k/\jM t r k<8:=λk h=>Ca h.1
 unfold dN
 have B:=ja t r l want 1 (kP t r l want 0 (r,0,0))
 have D:=ja t r l want 0 (r,0,0)
 rcases D with⟨a,b,e⟩|⟨a,b,e⟩|⟨a,b,e⟩<;>rw[e]at B⊢<;>rcases B with⟨a1,b1,e1⟩|⟨a1,b1,e1⟩|⟨a1,b1,e1⟩<;>rw[e1]<;>
  constructor<;>intro h<;>simp only[bX]at h<;>(try(cases h;done))
 all_goals
  first
   |rw[eu (n8 1 a1),eu (n8 0 a)]at h
   |rw[eu (A 1 (.inr rfl) a1),eu (A 0 (.inl rfl) a)]at h
   |rw[eu (n8 1 a1)]at h
   |rw[eu (A 1 (.inr rfl) a1)]at h
   |rw[eu (n8 0 a)]at h
   |rw[eu (A 0 (.inl rfl) a)]at h
  simp only[bX,L,Hk,nm,pv,ml,gn]at h
  first
   |(rcases h with h|h
     ·exact⟨0,.inl rfl,a,h⟩
     ·exact⟨1,.inr rfl,a1,h⟩)
   |exact⟨0,.inl rfl,a,h⟩
   |exact⟨1,.inr rfl,a1,h⟩
theorem Je(t:Tb) (r:d4) (l:List Rn) (want:Int):(dN t r l want).1.group=r.group/\∀k:Int,(k=0\/k=1)->(CX t r l want k->(dN t r l want).1.at k=jN t r want k)/\(¬CX t r l want k->(dN t r l want).1.at k=r.at k):=by
 unfold dN
 have A:=ja t r l want 1 (kP t r l want 0 (r,0,0))
 have B:=ja t r l want 0 (r,0,0)
 rcases B with⟨a,b,e⟩|⟨a,b,e⟩|⟨a,b,e⟩<;>rw[e]at A⊢<;>rcases A with⟨a1,b1,e1⟩|⟨a1,b1,e1⟩|⟨a1,b1,e1⟩<;>rw[e1]<;>
  refine⟨rfl,λk hk=>?_⟩<;>rcases hk with rfl|rfl<;>refine⟨λh=>?_,λh=>?_⟩<;>first|rfl|exact absurd h (by assumption)|exact absurd (by assumption) h
theorem mS(hk:k=0\/k=1):jM t r k=mM t r.group k (r.at k):=by rw[jM,fx ST]
theorem WJ{l:List Rn} (hk:k=0\/k=1) (h:CX t r l want k) (B:(i:Int)=qR t r want k):gz t l i=true:=by
 have A:=h.2.2
 rw[show mM t r.group k (jN t r want k)=qR t r want k from rfl,<-B,j9]at A
 exact A
theorem DW(g:TG t n) (L:p<8) (h:tb (dN t r s.runs want).2.1 p=true):bD (s.rn p)=true/\p<n/\∀q,q<8->tb (fj t p) q=true->bD (s.rn q)=true:=by
 obtain⟨k,hk,D,B⟩:=(js t r s.runs want L).1 h
 obtain⟨a,_,b⟩:=Cr (WJ hk D B)
 refine⟨a,?_,b⟩
 have A:=kR g.uq (t:=t) (g:=r.group) (r:=k) (pl:=jN t r want k) (zJ D.2.1 ST).1
 rw[show mM t r.group k (jN t r want k)=qR t r want k from rfl,<-B]at A
 exact g.Tz p (by rw[A])
theorem Kz(g:TG t n) (L:p<8) (M:q<8) (h:tb (dN t r s.runs want).2.1 p=true) (V:tb (dN t r s.runs want).2.1 q=true):tb (fj t p) q=false:=by
 obtain⟨k,hk,h1,B⟩:=(js t r s.runs want L).1 h
 obtain⟨j,Z,h3,D⟩:=(js t r s.runs want M).1 V
 cases hc:tb (fj t p) q with
 |false=>rfl
 |true=>
  exfalso;obtain⟨R,A⟩:=g.con p q L M hc
  have a1:=(zJ h1.2.1 ST).1
  have O:=(zJ h3.2.1 ST).1
  rw[B,D]at A
  rcases hk with rfl|rfl<;>rcases Z with rfl|rfl
  ·exact R (by have:=B.trans D.symm;omega)
  ·have:=DP g.uq a1 O
   rw[show cL t (qR t r want 0) (qR t r want 1)=true from this]at A;cases A
  ·have:=DP g.uq O a1
   rw[vm,show cL t (qR t r want 0) (qR t r want 1)=true from this]at A;cases A
  ·exact R (by have:=B.trans D.symm;omega)
theorem KA(I:SI t n s) (A:p<8) (B:(s.rn p).ay=1) (h:(s.rn p).done=true\/IM (aD t p) (s.rn p)=true):(aD t p).min<=(s.rn p).time/\(s.rn p).fst=0:=by
 have R:=I.run p A
 rcases h with h|h
 ·exact R.done B h
 ·simp only[IM,dT,gn,pA,FS,beq_eq_false_iff_ne]at h
  have:=R.dz
  exact⟨h.1.1.2,ST⟩
theorem SJ(I:SI t n s) (B:p<8) (h:tb (dN t r s.runs want).2.2 p=true):(aD t p).min<=(s.rn p).time/\(s.rn p).fst=0:=by
 obtain⟨k,hk,D,L⟩:=(js t r s.runs want B).2 h
 have A:=D.2
 rw[B9,<-L,j9]at A
 have A:((s.rn p).ay==1&&(((s.rn p).done&&decide (jN t r want k>=0))||(IM (aD t p) (s.rn p)&& !dP want p)))=true:=A
 simp only[dT,ml,lc]at A;refine KA I B A.1 ?_
 rcases A.2 with h|h
 ·exact .inl h.1
 ·exact .inr h.1
theorem Ct(A:(s.rn p).ay=1) (h:jM t r k=p):qT t r s.runs k=true:=by
 rw[qT,h,j9]
 have:bD (aP s.runs p)=false:=by show bD (s.rn p)=false;simp[bD,A]
 rw[this];simp
theorem WK(g:TG t n) (I:SI t n s) (want:Int) (h0:s.pre.ax=0):Hv t n s (vH t s.rings s.runs want).2.1 (vH t s.rings s.runs want).2.2 0 0 (vH t s.rings s.runs want).1:=by
 have z:∀p,tb (0:Int) p=true->False:=λp h=>by rw[bX]at h;cases h
 unfold vH;split
 ·refine⟨λp _ h=>(z p h).elim,λp q _ _ h=>(z p h).elim,λp _ h=>(z p h).elim,λp _ h=>(z p h).elim,λ_ p A h=>?_⟩
  rcases h with h|h
  ·have hr:((List.range 8).all λp=>bD (aP s.runs p))=false:=List.all_eq_false.2 ⟨p,ib.2 A,by show ¬bD (s.rn p)=true;simp[bD,h.1]⟩
   have e:HP t s.rings s.runs want=s.rings:=by rw[HP,hr];rfl
   show∃k:Int,(k=0\/k=1)/\jM t (HP t s.rings s.runs want) k=p
   rw[e];exact I.ring h0 p A h.1
  ·exact(z p h).elim
 ·have keep:∀p:Nat,p<8->(s.rn p).ay=1->∃k:Int,(k=0\/k=1)/\jM t (dN t s.rings s.runs want).1 k=p:=by
   intro p A L;obtain⟨k,hk,M⟩:=I.ring h0 p A L;refine⟨k,hk,?_⟩
   have O:=Ct L M
   have aa:¬CX t s.rings s.runs want k:=λhs=>by rw[hs.1]at O;cases O
   obtain⟨Z,e2⟩:=Je t s.rings s.runs want;rw[mS hk,Z,(e2 k hk).2 aa,<-mS hk,M]
  have begun:∀p:Nat,p<8->tb (dN t s.rings s.runs want).2.1 p=true->∃k:Int,(k=0\/k=1)/\jM t (dN t s.rings s.runs want).1 k=p:=by
   intro p A h
   obtain⟨k,hk,h1,h2⟩:=(js t s.rings s.runs want A).1 h
   refine⟨k,hk,?_⟩;obtain⟨Z,e2⟩:=Je t s.rings s.runs want;rw[mS hk,Z,(e2 k hk).1 h1,h2];rfl
  split
  ·rename_i D
   simp only[CU,dT,lc]at D
   refine⟨λp A h=>DW g A h,λp q A V h R=>Kz g A V h R,λp A h L=>.inl ?_,λp _ h=>(z p h).elim,λ_ p A h=>?_⟩
   ·obtain⟨k,hk,M⟩:=I.ring h0 p A L
    have O:=Ct L M
    have B:fy t s.rings s.runs want k=true:=by rcases hk with rfl|rfl;exact D.2.1;exact D.2.2.1
    simp only[fy,kO,O,M,j9,nd,pv,dT]at B;exact KA I A L (.inl B.2.2)
   ·rcases h with h|h
    ·exact keep p A h.1
    ·exact begun p A h
  ·refine⟨λp A h=>DW g A h,λp q A V h R=>Kz g A V h R,λp A h _=>.inl (SJ I A h),λp _ h=>(z p h).elim,λ_ p A h=>?_⟩
   rcases h with h|h
   ·exact keep p A h.1
   ·exact begun p A h
theorem SK(r:d4) (hk:k=0\/k=1) (x:Int):(r.put k x).at k=x/\(r.put k x).group=r.group/\∀j:Int,(j=0\/j=1)->j≠k->(r.put k x).at j=r.at j:=by
 rcases hk with rfl|rfl
 ·exact⟨rfl,rfl,λj A B=>by rcases A with rfl|rfl;exact absurd rfl B;rfl⟩
 ·exact⟨rfl,rfl,λj A B=>by rcases A with rfl|rfl;rfl;exact absurd rfl B⟩
theorem Hw{t:Tb} {G:Int}:∀(L:List Nat) (r:d4),(∀p∈L,(aA t p).2=true/\(aA t p).1.group=G)->L.Pairwise (λp q:Nat=>(aA t p).1.ring≠(aA t q).1.ring)->r.group=G->(∀p∈L,r.at (aA t p).1.ring<0)->
  (L.foldl (PS t) r).group=G/\(∀p∈L,(L.foldl (PS t) r).at (aA t p).1.ring=(aA t p).1.pos)/\∀k:Int,(k=0\/k=1)->(∀p∈L,(aA t p).1.ring≠k)->(L.foldl (PS t) r).at k=r.at k
 |[],r,_,_,O,_=>⟨O,λp h=>(by cases h),λ_ _ _=>rfl⟩
 |p::L,r,R,hp,O,hn=>by
  obtain⟨w1,w2⟩:=R p TB
  have hr:=j4 w1
  have hk:(aA t p).1.ring=0\/(aA t p).1.ring=1:=ST
  obtain⟨g1,g2,g3⟩:=SK r hk (aA t p).1.pos
  have e:PS t r p=r.put (aA t p).1.ring (aA t p).1.pos:=by
   rw[PS,w1,w2,O,pc (hn p TB)];simp
  obtain⟨D,V⟩:=List.pairwise_cons.1 hp
  obtain⟨i1,i2,i3⟩:=Hw L (PS t r p) (λq A=>R q (by simp[A])) V (by rw[e,g2,O]) (λq A=>by
   have aa:=j4 (R q (by simp[A])).1
   rw[e,g3 _ ST (λh=>D q A h.symm)]
   exact hn q (by simp[A]))
  rw[ns]
  refine⟨i1,λq A=>?_,λk M B=>?_⟩
  ·rcases lw.1 A with rfl|A
   ·rw[i3 _ hk (λq' Z h=>D q' Z h.symm),e,g1]
   ·exact i2 q A
  ·rw[i3 k M (λq A=>B q (by simp[A])),e,g3 k M (λh=>B p TB h.symm)]
theorem zN{p q:Int} (h:cL t p q=true):(aA t p).2=true/\(aA t q).2=true/\(aA t p).1.group=(aA t q).1.group/\(aA t p).1.ring≠(aA t q).1.ring:=by
 simp only[cL,dT,lc,bne_iff_ne]at h;exact⟨h.1.1.1,h.1.1.2,h.1.2,h.2⟩
theorem SL(g:TG t n) (V:To t n e) (hp:p<8) (h:tb e p=true):∃k:Int,(k=0\/k=1)/\jM t (Mh t e) k=p:=by
 have hm:=oG hp h
 have A:∀q∈d9 e,(aA t q).2=true:=λq B=>g.wh q (V.2.1 q (jn B) (nB B))
 obtain⟨L,hf⟩:∃L,(d9 e).head? =some L:=by
  cases hs:d9 e with
  |nil=>rw[hs]at hm;cases hm
  |cons a b=>exact⟨a,rfl⟩
 have O:L∈d9 e:=List.mem_of_mem_head? hf
 have R:qS e=L:=by rw[qS,hf]
 have M:∀q∈d9 e,(aA t q).1.group=(aA t L).1.group:=λq B=>by
  by_cases D:q=L
  ·rw[D]
  ·exact(zN (V.2.2 q L (jn B) (jn O) (nB B) (nB O) D)).2.2.1
 have Z:(d9 e).Pairwise (λp q:Nat=>(aA t p).1.ring≠(aA t q).1.ring):=by
  refine List.Pairwise.imp_of_mem ?_ (IJ e);intro a b ha hb D;exact(zN (V.2.2 a b (jn ha) (jn hb) (nB ha) (nB hb) D)).2.2.2
 have ab:=j4 (A p hm)
 have hk:(aA t p).1.ring=0\/(aA t p).1.ring=1:=ST
 obtain⟨a,b,_⟩:=Hw (d9 e) ⟨(aA t L).1.group,-1,-1,false⟩ (λq B=>⟨A q B,M q B⟩) Z rfl (λq B=>by
  have aa:=j4 (A q B)
  have:(aA t q).1.ring=0\/(aA t q).1.ring=1:=ST
  rcases this with h|h<;>rw[h]<;>exact(by decide:(-1:Int)<0))
 refine⟨(aA t p).1.ring,hk,?_⟩;rw[mS hk,Mh,R,a,b p hm,<-M p hm];exact Hs (A p hm)
theorem TA(g:TG t n) {x:Pr} (h:0<=x.which/\x.which<(nR t:Int)):EX t n (bq t x):=by
 rw[bq,gc h]
 have A:x.which.toNat<(t.bp.getD []).length:=by have:nR t<=(t.bp.getD []).length:=Nat.min_le_left _ _;omega
 refine g.rl.2 _ ?_;rw[Ot,fi,et A];exact GT A
theorem WL{x:Pr} (h:0<=x.which/\x.which<(nR t:Int)):So t x.which=(bq t x).exit:=by
 have:nR t<=(t.bp.getD []).length:=Nat.min_le_left _ _
 rw[So,fx ST,bq,gc h]
theorem Fa(g:TG t n) (L:To t n e) (B:p<8) (D:q<8) (O:tb e p=true) (M:tb e q=true):tb (fj t p) q=false:=by
 cases R:tb (fj t p) q with
 |false=>rfl
 |true=>
  obtain⟨V,A⟩:=g.con p q B D R;rw[L.2.2 p q B D O M V]at A;cases A
theorem Pf(g:TG t n) (I:SI t n s) (h5:s.pre.ax=5) (V:gD t s.pre s.runs=0):
  Hv t n s (iH t s.pre s.runs).start (iH t s.pre s.runs).fin (iH t s.pre s.runs).cut 0 (Mh t (So t s.pre.which)):=by
 have hw:=I.pre.which (by rw[h5];decide)
 have O:=TA g hw
 have ab:=WL (t:=t) hw
 have M:nE s.runs (bg .i64 255 (bq t s.pre).exit)=true:=by
  unfold gD at V;split at V
  ·rename_i h;simp only[dT]at h;exact h.1
  ·exact absurd V Ts
 have L:∀q,q<8->tb (bq t s.pre).exit q=false->bD (s.rn q)=true:=λq D h=>oN.1 M q D (by rw[Wy D,h];rfl)
 have B:∀p,p<8->tb (iH t s.pre s.runs).start p=(tb (bq t s.pre).exit p&&bD (s.rn p)):=λp A=>by
  show tb (vp (bq t s.pre).exit λp=>bD (aP s.runs p)) p=_
  rw[I4 A];rfl
 have aa:(iH t s.pre s.runs).fin=0:=by rw[iH]
 have Z:(iH t s.pre s.runs).cut=0:=by rw[iH]
 rw[ab]
 refine⟨λp A h=>?_,λp q A D h h'=>?_,λp _ h=>?_,λp _ h=>?_,λ_ p A h=>?_⟩
 ·rw[B p A,dT]at h
  refine⟨h.2,O.exit.1.2.1 p A h.1,λq D hc=>?_⟩
  refine L q D ?_
  cases R:tb (bq t s.pre).exit q with
  |false=>rfl
  |true=>rw[Fa g O.exit.1 A D h.1 R]at hc;cases hc
 ·rw[B p A,dT]at h
  rw[B q D,dT]at h';exact Fa g O.exit.1 A D h.1 h'.1
 ·rw[aa,bX]at h;cases h
 ·rw[Z,bX]at h;cases h
 ·refine SL g O.exit.1 A ?_
  rcases h with h|h
  ·cases R:tb (bq t s.pre).exit p with
   |true=>rfl
   |false=>have:=L p A R;simp[bD,h.1]at this
  ·rw[B p A,dT]at h;exact h.1
theorem Pg(g:TG t n) {x:Pr} (hw:0<=x.which/\x.which<(nR t:Int)) (h1:1<=x.ax) (h6:x.ax<6) (I:SI t n s) (M:d4):
  Hv t n s (mP t x s.runs x.ax).start (mP t x s.runs x.ax).fin (mP t x s.runs x.ax).cut x.ax M:=by
 have hg:=TA g hw
 have z:∀p,tb (0:Int) p=true->False:=λp h=>by rw[bX]at h;cases h
 have B:∀e:Int,To t n e->Hv t n s (BQ t s.runs e) 0 0 x.ax M:=λe V=>by
  have L:∀p,p<8->tb (BQ t s.runs e) p=(tb e p&&gz t s.runs p):=λp A=>I4 A
  refine⟨λp A h=>?_,λp q A R h O=>?_,λp _ h=>(z p h).elim,λp _ h=>(z p h).elim,λh=>absurd h ST⟩
  ·rw[L p A,dT]at h
   obtain⟨a,_,b⟩:=Cr h.2;exact⟨a,V.2.1 p A h.1,b⟩
  ·rw[L p A,dT]at h
   rw[L q R,dT]at O;exact Fa g V A R h.1 O.1
 have e:x.ax=1\/x.ax=2\/x.ax=3\/x.ax=4\/x.ax=5:=ST
 rcases e with e|e|e|e|e
 ·rw[e]
  exact⟨λp _ h=>(z p h).elim,λp q _ _ h=>(z p h).elim,λp _ _ _=>.inr (.inl rfl),λp _ _=>.inl rfl,λh=>absurd h Ts⟩
 ·have:=B _ hg.clear
  rw[e]at this⊢;exact this
 ·rw[e]
  exact⟨λp _ h=>(z p h).elim,λp q _ _ h=>(z p h).elim,λp _ _ _=>.inr (.inr rfl),λp _ _=>.inr rfl,λh=>absurd h Ts⟩
 ·have:=B _ hg.gI.1
  rw[e]at this⊢;exact this
 ·rw[e]
  refine⟨λp _ h=>(z p h).elim,λp q _ _ h=>(z p h).elim,λp A h hc=>.inl ?_,λp _ h=>(z p h).elim,λh=>absurd h Ts⟩
  have Z:tb (vp (bg .i64 255 (bq t x).exit) λp=>Xe t p (aP s.runs p)) p=true:=h
  rw[I4 A,dT]at Z
  have D:=Z.2
  simp only[Xe,dT,gn,pA,FS,beq_eq_false_iff_ne]at D
  have hf:=(I.run p A).dz
  exact⟨D.1.2,by have:(s.rn p).fst≠1/\(s.rn p).fst≠2:=D.2;omega⟩
theorem WM(g:TG t n) (I:SI t n s) (x:vA):SF t (qX t s x).1/\Hv t n s (CH t s x).start (CH t s x).fin (CH t s x).cut (qX t s x).1.ax (zU t s x):=by
 obtain⟨O,h⟩:=Hu x.lines s.runs I.pre;refine⟨O,?_⟩
 rw[show i9 t s.pre x.lines s.runs=qX t s x from rfl]at*
 rcases h with⟨A,L,B⟩|⟨A,L,B,V⟩|⟨A,L,B⟩
 ·have D:(qX t s x).2.free=true:=by rw[A]
  rw[CH,zU,D,B];exact WK g I _ L
 ·have D:(qX t s x).2.free=false:=by rw[A];rfl
  have M:(qX t s x).2.back=true:=by rw[A];rfl
  rw[CH,zU,D,M,A,B];exact Pf g I L V
 ·have R:=I2 t (qX t s x).1 s.runs (to:=(qX t s x).1.ax) ST
  have D:(qX t s x).2.free=false:=by rw[B,R.1];simp;omega
  have M:(qX t s x).2.back=false:=by rw[B,R.2]
  rw[CH,zU,D,M]
  have:=Pg g (O.which ST) A L I s.rings
  rw[<-B]at this;exact this
theorem jt(t:Tb) (s:bA) (x:vA) (A:p<8):(iJ t s x).rn p=aL (aD t p) (s.rn p) (eG t s x p):=by
 show(lJ t s (eG t s x) 8).getD p default=_
 rw[lJ,fi,jp,kh A];simp[A]
theorem xF(t:Tb) (s:bA) (x:vA) (A:p<8):(eG t s x p).start=tb (CH t s x).start p/\(eG t s x p).fin=tb (CH t s x).fin p/\(eG t s x p).cut=tb (CH t s x).cut p:=⟨eF A,eF A,eF A⟩
theorem Hx{p:Ph} {r:Rn} {c:Cu} (h:bD r=true) (A:c.start=false):bD (aL p r c)=true:=by
 have:=((Jd p r c).red h A).1
 simp[bD,this]
theorem vC(t:Tb) (A:p<8):(tY t).rn p=BG (aD t p):=by
 show((List.range 8).map λ(p:Nat)=>if p<8 then BG (aD t p)else default).getD p default=_
 rw[fi,jp,kh A];simp[A]
theorem Pj:SI t n (tY t) where
 ok:=lO t
 safe:=λp q A _ _=>.inl (by rw[vC t A];rfl)
 run:=λp A=>by
  rw[vC t A]
  exact⟨by show(0:Int)<=0/\(0:Int)<=3;decide,by show(0:Int)<=0/\(0:Int)<=2;decide,λ_=>rfl,λ_=>rfl,λh=>absurd (show(0:Int)=1 from h) Ts⟩
 off:=λp A _=>by rw[vC t A];rfl
 pre:=⟨by show(0:Int)<=0/\(0:Int)<6;decide,λh=>absurd rfl h,λ_=>rfl⟩
 ring:=λ_ p A h=>by rw[vC t A]at h;exact absurd (show(0:Int)=1 from h) Ts
theorem SM(g:TG t n) (I:SI t n s) (x:vA):SI t n (iJ t s x):=by
 obtain⟨A,o⟩:=WM g I x
 have B:∀p,p<8->bD ((iJ t s x).rn p)=false->bD (s.rn p)=false\/tb (CH t s x).start p=true:=λp A h=>by
  cases V:bD (s.rn p)with
  |false=>exact .inl rfl
  |true=>
   cases M:tb (CH t s x).start p with
   |true=>exact .inr rfl
   |false=>
    rw[jt t s x A,Hx V (by rw[(xF t s x A).1,M])]at h;cases h
 refine⟨I8 t s x,λp q A L D=>?_,λp A=>?_,λp A hn=>?_,A,λh0 p A D=>?_⟩
 ·cases V:bD ((iJ t s x).rn p)with
  |true=>exact .inl rfl
  |false=>
   cases M:bD ((iJ t s x).rn q)with
   |true=>exact .inr rfl
   |false=>
    exfalso
    rcases B p A V with a|a<;>rcases B q L M with b|b
    ·rcases I.safe p q A L D with h|h
     ·rw[a]at h;cases h
     ·rw[b]at h;cases h
    ·have:=(o.start q L b).2.2 p A (by rw[g.sym q p L A];exact D)
     rw[a]at this;cases this
    ·have:=(o.start p A a).2.2 q L D
     rw[b]at this;cases this
    ·rw[o.two p q A L a b]at D;cases D
 ·rw[jt t s x A]
  exact SH _ (g.min A) (I.run p A)
 ·rw[jt t s x A]
  refine Hx (I.off p A hn) ?_;rw[(xF t s x A).1]
  cases M:tb (CH t s x).start p with
  |false=>rfl
  |true=>exact absurd (o.start p A M).2.1 ST
 ·refine o.ring h0 p A ?_
  rw[jt t s x A]at D
  have O:=Jd (aD t p) (s.rn p) (eG t s x p)
  obtain⟨b1,b2,_⟩:=xF t s x A
  rcases DU (I.run p A).col with⟨e,R⟩|⟨e,R⟩|⟨e,R⟩|⟨e,R⟩
  ·right
   rw[<-b1]
   cases Z:(eG t s x p).start with
   |true=>rfl
   |false=>have:=(O.red R Z).1;omega
  ·left
   refine⟨e,?_⟩;rw[<-b2]
   cases Z:(eG t s x p).fin with
   |false=>rfl
   |true=>have:=(O.fin e Z).1;omega
  ·have:=(O.bQ e).2;omega
  ·have:=(O.clear e).2;omega
def abW(t:Tb) (c:Cs):Prop:=∀i,(tb c.Dq i=true->(decide (i<8)&&(aD t i).on)=true)/\(tb c.dz i=true->(decide (i<8)&&((aD t i).on&&decide (0<(aD t i).walk)))=true)
theorem Jf(t:Tb) (A:List Fr) (i:Nat):(runT t A (i+1)).calls=gu t (runT t A i).calls (Mj t (runT t A i) (A.getD i default).Pb) (A.getD i default).Pb.push (grS (runT t A i)) (wkS (runT t A i)):=rfl
theorem DX(t:Tb) (A:List Fr):∀i,abW t (runT t A i).calls
 |0=>λi=>by simp[runT,tY,jC,bX]
 |i+1=>by
  rw[Jf];exact(I7 (DX t A i)).2.2.2.2.2.2.2
theorem tnd(l:Option (List Int)):Wu (aR l)<=1000000:=kf (ZM l).1 ST
def zV(p:Ph) (st time:Int):Int:=if st=1 then max 0 (p.walk-time)+1+p.bR else if st=2 then max 0 (p.bR-time)+1 else 0
end
section
variable (t:Tb) (p:Ph) (r:Rn)
def oc:Int:=max (max 0 (p.min-r.time)) (max (zV p r.fst r.bu) (max 0 (Af p r.limit-r.d6)))
def ee:Int:=
 if r.ay=1 then(if r.done=true then 0 else oc p r+max 0 (t.extend-r.extra)+1)+p.bQ+p.red+1
 else if r.ay=2 then max 0 (p.bQ-r.time)+1+p.red
 else if r.ay=3 then max 0 (p.red-r.time)+1 else 0
def Xj:Int:=max p.min (max (p.walk+p.bR) p.top)+t.extend+p.bQ+p.red+3
def qU:Int:=Xj t p+max 0 (t.revert-r.time)
structure KB (r:Rn):Prop where
 tm:0<=r.time
 pr:0<=r.d6
 ex:0<=r.extra
 f1:r.fst=1->1<=r.bu
 f2:r.fst=2->0<=r.bu
structure KC (t:Tb) (p:Ph):Prop where
 min:0<=p.min/\p.min<=100
 dz:(p.walk=0/\p.bR=0)\/(1<=p.walk/\p.walk<=100/\1<=p.bR/\p.bR<=100)
 top:0<=p.max/\p.max<=p.top/\p.top<=100
 WN:1<=p.bQ/\p.bQ<=100
 red:0<=p.red/\p.red<=100
 ext:0<=t.extend/\t.extend<=100
 rev:0<=t.revert/\t.revert<=100
end
section
variable {a:Nat} {c:Cu} {g k:Int} {l:List Rn} {n:Nat} {p:Ph} {pl:Int} {q:Nat} {r:Rn} {s:bA} {t:Tb} {w:Int}
theorem Cv(n:Int):bh n=iO n 0 9999+1:=aT (by unfold iO;split<;>(try split)<;>omega) (by unfold iO;split<;>(try split)<;>omega)
theorem xG(n:Int):1<=bh n:=by rw[Cv];unfold iO;split<;>(try split)<;>omega
theorem yG{a n:Int} (h:0<=n) (A:a<=9999):max 0 (a-bh n)<=max 0 (max 0 (a-n)-1):=by
 rw[Cv];unfold iO;split<;>(try split)<;>omega
theorem ta{n:Int} (h:0<=n) (A:n<=9998):bh n=n+1:=by rw[Cv];unfold iO;split<;>(try split)<;>omega
theorem Pk(h:KC t p) (x:Int):0<=Af p x/\Af p x<=p.top:=by
 have:=h.top
 unfold Af;split<;>(try split)<;>omega
theorem TC(h:KC t p) (st time:Int):0<=zV p st time:=by
 have:=h.dz
 unfold zV;split
 ·omega
 ·split<;>omega
theorem Cw(r:Rn):0<=oc p r:=by unfold oc;omega
theorem Jg(h:KC t p) (r:Rn):0<=ee t p r:=by
 have:=Cw (p:=p) r
 have:=h.WN
 have:=h.red
 unfold ee;split
 ·split<;>omega
 ·split
  ·omega
  ·split<;>omega
theorem Pm(h:KC t p):0<=Xj t p:=by
 have:=h.WN
 have:=h.red
 have:=h.min
 have:=h.ext
 unfold Xj;omega
theorem aac(h:KC t p) (B:KB r):zV p r.fst r.bu<=max 0 (p.walk+p.bR)\/p.walk=0:=by
 have A:=h.dz
 rcases A with A|A
 ·exact .inr A.1
 ·left
  unfold zV;split
  ·rename_i e;have:=B.f1 e;omega
  ·split
   ·rename_i e;have:=B.f2 e;omega
   ·omega
theorem WO(h:KC t p) (B:KB r) (D:p.walk=0->r.fst=0):oc p r<=max p.min (max (p.walk+p.bR) p.top):=by
 have A:=aac h B
 have M:=Pk h r.limit
 have Z:=h.min
 have O:=h.dz
 have V:=B.tm
 have L:=B.pr
 have R:zV p r.fst r.bu<=p.walk+p.bR:=by
  rcases A with A|A
  ·omega
  ·unfold zV
   rw[D A,fx Ts,fx Ts]
   omega
 unfold oc;omega
theorem Pn(h:KC t p) (A:KB r) (B:p.walk=0->r.fst=0):ee t p r<=Xj t p-1:=by
 have R:=WO h A B
 have M:=h.WN
 have h3:=h.red
 have O:=h.ext
 have Z:=A.tm
 have D:=A.ex
 have V:=h.min
 have L:=Cw (p:=p) r
 unfold ee Xj;split
 ·split<;>omega
 ·split
  ·omega
  ·split<;>omega
theorem TD(p:Ph) (st time:Int) (b:Bool):((ob p st time b).1=1->1<=(ob p st time b).2)/\((ob p st time b).1=2->0<=(ob p st time b).2):=by
 have m:=xG time
 unfold ob
 repeat' split
 all_goals first|exact⟨λ_=>m,λ_=>Int.le_trans Ts m⟩|(refine⟨λh=>?_,λh=>?_⟩<;>first|(simp at h⊢;done)|(simp at h))
theorem Hy(h:KB r):KB (aL p r c):=by
 have mt:=xG r.time
 have mp:=xG r.d6
 have mx:=xG r.extra
 have Z:=TD p r.fst r.bu (c.push&& !c.bI)
 have O:=TD p 0 0 c.push
 have hF:((vt p r c).1=1->1<=(vt p r c).2)/\((vt p r c).1=2->0<=(vt p r c).2):=by
  unfold vt;split
  ·unfold IP
   split
   ·exact⟨λh=>absurd (show(2:Int)=1 from h) Ts,λ_=>(by show(0:Int)<=1;decide)⟩
   ·exact⟨h.f1,h.f2⟩
  ·exact Z
 have D:∀A:Rn,A.time=bh r.time->A.fst=(vt p r c).1->A.bu=(vt p r c).2->A.d6=(d5 p r c).d6->(A.extra=r.extra\/A.extra=bh r.extra)->KB A:=by
  intro A a1 L M R a5
  have V:(d5 p r c).d6=if c.bI then bh r.d6 else r.d6:=rfl
  refine⟨ST,?_,?_,by rw[L,M];exact hF.1,by rw[L,M];exact hF.2⟩
  ·rw[R,V];have:=h.pr;split<;>omega
  ·have:=h.ex;omega
 have has:∀col tm:Int,0<=tm->KB (mU r col tm):=λcol tm h=>⟨h,kt _,kt _,λh=>absurd (show(0:Int)=1 from h) Ts,λh=>absurd (show(0:Int)=2 from h) Ts⟩
 have B:∀(x:Rn) (col tm:Int),0<=tm->x.time=tm->x.d6=0->x.extra=0->x.fst=0->KB x:=λx col tm h a b c d=>⟨ST,ST,ST,λh=>ST,λh=>ST⟩
 unfold aL eV vu gZ k9;split
 ·split
  ·split
   ·exact B _ 2 1 Ts rfl rfl rfl rfl
   ·exact has 2 1 Ts
  ·split
   ·exact D _ rfl rfl rfl rfl (.inr rfl)
   ·split
    ·exact D _ rfl rfl rfl rfl (.inl rfl)
    ·exact D _ rfl rfl rfl rfl (.inl rfl)
 ·split
  ·split
   ·exact has 2 _ ST
   ·split
    ·exact has 3 1 Ts
    ·exact has 0 1 Ts
  ·split
   ·split
    ·exact has 3 _ ST
    ·exact has 0 1 Ts
   ·split
    ·exact⟨(by show(0:Int)<=1;decide),kt _,kt _,O.1,O.2⟩
    ·exact has 0 _ ST
theorem Po(D:0<=p.walk) (h:p.walk=0->r.fst=0):p.walk=0->(aL p r c).fst=0:=by
 intro A
 have B:=h A
 have hE:∀b,(ob p 0 0 b).1=0/\∀tm,(ob p 0 tm b).1=0:=λb=>by
  have:∀tm,(ob p 0 tm b).1=0:=λtm=>by
   unfold ob;rw[A];simp
  exact⟨this 0,this⟩
 have hF:(vt p r c).1=0:=by
  unfold vt;rw[B];simp only[show((0:Int)==1)=false from rfl,nf,eQ,ik]
  exact(hE _).2 _
 unfold aL eV vu gZ k9
 repeat' split
 all_goals first|exact hF|rfl|exact(hE _).1
theorem Hz(h:KC t p) (D:KB r) (B:r.ay=0) (A:c.start=false):
  (aL p r c).ay=0/\qU t p (aL p r c)<=qU t p r/\(r.time<t.revert->qU t p (aL p r c)<=qU t p r-1):=by
 have e:aL p r c=mU r 0 (bh r.time):=by simp[aL,B,vu,A]
 have hd:=yG (a:=t.revert) D.tm (by have:=h.rev;omega)
 rw[e]
 have ht:(mU r 0 (bh r.time)).time=bh r.time:=rfl
 refine⟨rfl,?_,λL=>?_⟩<;>unfold qU<;>rw[ht]<;>omega
theorem Cx(h:KC t p) (A:r.ay=0) (D:c.start=true):
  (aL p r c).ay=1/\ee t p (aL p r c)<=qU t p r-1:=by
 have e:aL p r c={mU r 1 1 with fst:=(ob p 0 0 c.push).1,bu:=(ob p 0 0 c.push).2,left:=p.LF}:=by simp[aL,A,vu,D]
 have hf:ob p 0 0 c.push=(1,1)/\0<p.walk\/ob p 0 0 c.push=(0,0):=by
  unfold ob;simp only[show((0:Int)==1)=false from rfl,show((0:Int)==2)=false from rfl,md,Hb,eQ,ik]
  cases B:(c.push&&decide (p.walk>0))with
  |true=>simp only[dT,gn]at B;exact .inl ⟨rfl,B.2⟩
  |false=>exact .inr rfl
 rw[e];refine⟨rfl,?_⟩
 have hR:KB {mU r 1 1 with fst:=(ob p 0 0 c.push).1,bu:=(ob p 0 0 c.push).2,left:=p.LF}:=by
  have:=Hy (p:=p) (r:={r with time:=0,d6:=0,extra:=0,fst:=0,bu:=0}) (c:=c) ⟨kt _,kt _,kt _,λh=>absurd (show(0:Int)=1 from h) Ts,λh=>absurd (show(0:Int)=2 from h) Ts⟩
  have L:aL p {r with time:=0,d6:=0,extra:=0,fst:=0,bu:=0} c={mU r 1 1 with fst:=(ob p 0 0 c.push).1,bu:=(ob p 0 0 c.push).2,left:=p.LF}:=by simp[aL,A,vu,D,mU]
  rw[L]at this;exact this
 have O:=Pn h hR (λM=>by
  rcases hf with hf|hf
  ·omega
  ·show(ob p 0 0 c.push).1=0;rw[hf])
 unfold qU;omega
theorem HA(h:KC t p) (L:KB r) (B:r.ay=2\/r.ay=3):ee t p (aL p r c)<=ee t p r-1:=by
 have M:=h.WN
 have hd:=h.red
 have ht:=L.tm
 rcases B with B|B
 ·have e:aL p r c=gZ p r:=by simp[aL,B]
  rw[e]
  have D:ee t p r=max 0 (p.bQ-r.time)+1+p.red:=by simp[ee,B]
  rw[D];unfold gZ;split
  ·have A:ee t p (mU r 2 (bh r.time))=max 0 (p.bQ-bh r.time)+1+p.red:=by simp[ee,mU]
   rw[A,ta ht ST];omega
  ·split
   ·have A:ee t p (mU r 3 1)=max 0 (p.red-1)+1:=by simp[ee,mU]
    rw[A];omega
   ·have A:ee t p (mU r 0 1)=0:=by simp[ee,mU]
    rw[A];omega
 ·have e:aL p r c=k9 p r:=by simp[aL,B]
  rw[e]
  have D:ee t p r=max 0 (p.red-r.time)+1:=by simp[ee,B]
  rw[D];unfold k9;split
  ·have A:ee t p (mU r 3 (bh r.time))=max 0 (p.red-bh r.time)+1:=by simp[ee,mU]
   rw[A,ta ht ST];omega
  ·have A:ee t p (mU r 0 1)=0:=by simp[ee,mU]
   rw[A];omega
theorem Pp(h:KC t p) (A:r.ay=1) (B:c.fin=true):(aL p r c).ay=2/\ee t p (aL p r c)<=ee t p r-1:=by
 have L:=h.WN
 have hd:=Cw (p:=p) r
 have e:aL p r c=eV p r c:=by simp[aL,A]
 have D:p.bQ+p.red+1<=ee t p r:=by
  have:ee t p r=(if r.done=true then 0 else oc p r+max 0 (t.extend-r.extra)+1)+p.bQ+p.red+1:=by simp[ee,A]
  rw[this];split<;>omega
 rw[e];unfold eV;rw[B];simp only[kv]
 have key:∀x:Rn,x.ay=2->x.time=1->x.ay=2/\ee t p x<=ee t p r-1:=λx a b=>by
  have:ee t p x=max 0 (p.bQ-x.time)+1+p.red:=by simp[ee,a]
  refine⟨a,?_⟩;rw[this,b];omega
 split
 ·exact key _ rfl rfl
 ·exact key _ rfl rfl
theorem WQ(h:KC t p) {st time:Int} (R:p.walk=0->st=0) (O:st=1->1<=time) (M:st=2->0<=time):zV p (ob p st time false).1 (ob p st time false).2<=max 0 (zV p st time-1):=by
 have hf:=h.dz
 unfold ob
 by_cases a:st=1
 ·subst a
  have Z:p.walk≠0:=λe=>absurd (R e) Ts
  have:=O rfl
  have B:zV p 1 time=max 0 (p.walk-time)+1+p.bR:=by simp[zV]
  by_cases b:time>=p.walk
  ·simp only[nl,na,pc b,kv]
   have A:zV p 2 1=max 0 (p.bR-1)+1:=by simp[zV]
   rw[B,A];omega
  ·simp only[nl,na,tp b,eQ,ik,show((1:Int)==2)=false from rfl,md,wi,kv]
   have A:zV p 1 (bh time)=max 0 (p.walk-bh time)+1+p.bR:=by simp[zV]
   have hm:=ta (n:=time) ST ST
   rw[B,A,hm];omega
 by_cases D:st=2
 ·subst D
  have:=M rfl
  have B:zV p 2 time=max 0 (p.bR-time)+1:=by simp[zV]
  by_cases b:time>=p.bR
  ·simp only[show((2:Int)==1)=false from rfl,md,eQ,ik,nl,na,pc b,kv]
   have A:zV p 0 0=0:=by simp[zV]
   rw[B,A];omega
  ·simp only[show((2:Int)==1)=false from rfl,md,eQ,ik,nl,na,tp b,pv,kv]
   have A:zV p 2 (bh time)=max 0 (p.bR-bh time)+1:=by simp[zV]
   have hm:=ta (n:=time) ST ST
   rw[B,A,hm];omega
 ·have L:(st==1)=false:=by simpa using a
  have V:(st==2)=false:=by simpa using D
  simp only[L,V,md,eQ,ik,Hb]
  have A:zV p 0 0=0:=by simp[zV]
  rw[A];omega
theorem Pq(h:KC t p) (L:KB r) (hw:p.walk=0->r.fst=0) (R:r.ay=1) (hf:c.fin=false) (hp:c.bI=true) (O:c.cut=false) (hh:c.hold=true->r.extra<t.extend):
  (aL p r c).ay=1/\(if r.done=true then ee t p (aL p r c)<=ee t p r/\(aL p r c).done=true else ee t p (aL p r c)<=ee t p r-1):=by
 have e:aL p r c=eV p r c:=by simp[aL,R]
 have hF:vt p r c=ob p r.fst r.bu false:=by unfold vt;rw[O,hp];simp
 have M:bw p r c=false:=by
  unfold bw;rw[hF]
  cases V:eo r.fst with
  |true=>rfl
  |false=>
   unfold eo at V;simp only[FS]at V;unfold ob;rw[V.1,V.2];rfl
 have D:(d5 p r c).done=r.done:=by show(if bw p r c then false else r.done)=_;rw[M];rfl
 have q2:(d5 p r c).d6=bh r.d6:=by show(if c.bI then bh r.d6 else r.d6)=_;rw[hp];rfl
 have q3:(d5 p r c).time=bh r.time:=rfl
 have q4:(d5 p r c).fst=(ob p r.fst r.bu false).1/\(d5 p r c).bu=(ob p r.fst r.bu false).2:=⟨by show(vt p r c).1=_;rw[hF],by show(vt p r c).2=_;rw[hF]⟩
 have q5:(d5 p r c).limit=r.limit/\(d5 p r c).extra=r.extra/\(d5 p r c).ay=1:=⟨rfl,rfl,rfl⟩
 have hy:=h.WN
 have hl:=Pk h r.limit
 have A:∀x:Rn,x.ay=1->ee t p x=(if x.done=true then 0 else oc p x+max 0 (t.extend-x.extra)+1)+p.bQ+p.red+1:=λx hx=>by simp[ee,hx]
 rw[e];unfold eV;rw[hf];simp only[eQ,ik]
 cases hd:r.done with
 |true=>
  have B:cV p (d5 p r c) c=false:=by unfold cV;rw[D,hd];simp
  rw[B];simp only[md,eQ,ik,kv]
  refine⟨rfl,?_,by rw[D,hd]⟩
  rw[A _ rfl,A _ R,D,hd];simp
 |false=>
  have d1:=yG (a:=p.min) L.tm (by have:=h.min;omega)
  have d2:=WQ h hw L.f1 L.f2
  have d3:=yG (a:=Af p r.limit) L.pr (by have:=h.top;omega)
  have n2:=TC h r.fst r.bu
  have dq:oc p (d5 p r c)<=max 0 (oc p r-1):=by
   unfold oc;rw[q2,q3,q4.1,q4.2,q5.1];omega
  have er:ee t p r=(oc p r+max 0 (t.extend-r.extra)+1)+p.bQ+p.red+1:=by rw[A _ R,hd];simp
  have nn:=Cw (p:=p) r
  simp only[eQ,ik]
  cases B:cV p (d5 p r c) c with
  |true=>
   cases aa:c.hold with
   |true=>
    have hx:=hh aa
    simp only[wn,kv];refine⟨rfl,?_⟩;rw[A _ rfl,er]
    have e1:({d5 p r c with extra:=bh (d5 p r c).extra}:Rn).done=false:=by show(d5 p r c).done=false;rw[D,hd]
    have e2:oc p {d5 p r c with extra:=bh (d5 p r c).extra}=oc p (d5 p r c):=rfl
    have e3:({d5 p r c with extra:=bh (d5 p r c).extra}:Rn).extra=r.extra+1:=by
     show bh (d5 p r c).extra=_
     rw[q5.2.1,ta L.ex (by have:=h.ext;omega)]
    have key:∀x:Rn,x.done=false->oc p x=oc p (d5 p r c)->x.extra=r.extra+1->(if x.done=true then 0 else oc p x+max 0 (t.extend-x.extra)+1)+p.bQ+p.red+1<=(oc p r+max 0 (t.extend-r.extra)+1)+p.bQ+p.red+1-1:=λx a b d=>by
     rw[a,b,d];simp only[eQ,ik];omega
    exact key _ e1 e2 e3
   |false=>
    simp only[nf,eQ,ik,kv];refine⟨rfl,?_⟩;rw[A _ rfl,er];simp only[kv];omega
  |false=>
   simp only[md,eQ,ik];refine⟨rfl,?_⟩;rw[A _ rfl,er,D,hd,q5.2.1];simp only[eQ,ik]
   have R:1<=oc p (d5 p r c):=by
    rcases Int.lt_or_le (oc p (d5 p r c)) 1 with ab|hge
    ·exfalso
     have z:=Cw (p:=p) (d5 p r c)
     have hz:oc p (d5 p r c)=0:=ST
     unfold oc at hz
     have a1:(d5 p r c).time>=p.min:=ST
     have a2:zV p (d5 p r c).fst (d5 p r c).bu=0:=by
      have:=TC h (d5 p r c).fst (d5 p r c).bu
      omega
     have a3:(d5 p r c).d6>=Af p (d5 p r c).limit:=ST
     have a4:eo (d5 p r c).fst=false:=by
      unfold eo;unfold zV at a2
      have ac:=h.dz
      by_cases Z:(d5 p r c).fst=1
      ·rw[gc Z]at a2;omega
      ·by_cases b2:(d5 p r c).fst=2
       ·rw[fx Z,gc b2]at a2;omega
       ·simp[Z,b2]
     have:cV p (d5 p r c) c=true:=by
      unfold cV bM;rw[hp,D,hd,pc a1,a4,pc a3];simp
     rw[this]at B;cases B
    ·exact hge
   omega
theorem Pt(t:Tb) (s:bA) (x:vA) {p:Nat} (A:p<8):(eG t s x p).hold=true->(s.rn p).extra<t.extend:=by
 have B:(eG t s x p).hold=tb (CH t s x).hold p:=eF A
 rw[B];unfold CH;split
 ·exact λh=>(L3 A h).2
 ·intro h
  have h:tb (0:Int) p=true:=h
  rw[bX]at h;cases h
def eW(t:Tb) (r:d4) (l:List Rn) (x:Sp):Int:=
 if x.pos>r.at x.ring then(if r.dF=true then 0 else qU t (aD t x.p) (aP l x.p.toNat))else if x.pos=r.at x.ring then ee t (aD t x.p) (aP l x.p.toNat)else 0
def mT(f:Sp->Int):List Sp->Int
 |[]=>0
 |x::l=>f x+mT f l
theorem Aj{f g:Sp->Int}:∀{l:List Sp},(∀x∈l,f x<=g x)->mT f l<=mT g l
 |[],_=>kt _
 |x::l,h=>by
  have B:=h x ip
  have D:=Aj (l:=l) λy A=>h y (ii _ A)
  simp only[mT];omega
theorem Ak{f g:Sp->Int}:∀{l:List Sp},(∀x∈l,f x<=g x)->(∃x∈l,f x<=g x-1)->mT f l<=mT g l-1
 |[],_,h=>by obtain⟨x,D,_⟩:=h;cases D
 |x::l,h,⟨y,A,B⟩=>by
  have M:=h x ip
  have ht:∀z∈l,f z<=g z:=λz L=>h z (ii _ L)
  simp only[mT]
  rcases lw.1 A with rfl|A
  ·have:=Aj ht;omega
  ·have:=Ak ht ⟨y,A,B⟩;omega
theorem pY{f:Sp->Int}:∀{l:List Sp},(∀x∈l,0<=f x)->0<=mT f l
 |[],_=>kt _
 |x::l,h=>by
  have B:=h x ip
  have D:=pY (l:=l) λy A=>h y (ii _ A)
  simp only[mT];omega
structure EI (t:Tb) (n:Nat) (s:bA):Prop where
 si:SI t n s
 fr:s.pre.ax=0
 rt:∀p:Nat,p<8->KB (s.rn p)
 rw:∀p:Nat,p<8->(aD t p).walk=0->(s.rn p).fst=0
 now:∀p:Nat,p<8->bD (s.rn p)=false->∃k:Int,(k=0\/k=1)/\jM t s.rings k=p
 xH:s.rings.dF=true->∀p:Nat,p<8->(s.rn p).ay≠1
 Pu:0<=s.rings.group/\s.rings.group<((t.groups.getD []).length:Int)
structure TE (t:Tb) (n:Nat):Prop where
 g:TG t n
 nr:nR t=0
 sm:∀p:Nat,p<n->KC t (aD t p)
 gr:0<(t.groups.getD []).length
theorem Fb(T:TE t n) (I:SI t n s) (M:s.pre.ax=0) (x:vA):(qX t s x).2=⟨0,0,0,true,false⟩/\(qX t s x).1.ax=0:=by
 obtain⟨L,h⟩:=Hu x.lines s.runs I.pre
 rcases h with⟨B,A,D⟩|⟨B,A,D,O⟩|⟨B,A,D⟩
 ·exact⟨B,D⟩
 ·exact absurd (M.symm.trans A) Ts
 ·have:=L.which ST
  rw[T.nr]at this;omega
def CY(t:Tb) (s:bA) (x:vA):d4×Int×Int:=vH t s.rings s.runs (eY t s x)
structure abX (t:Tb) (s:bA) (x:vA) (p:Nat) (c:Cu):Prop where
 start:c.start=tb (CY t s x).2.1 p
 fin:c.fin=tb (CY t s x).2.2 p
 cut:c.cut=false
 hold:c.hold=true->(s.rn p).extra<t.extend
 prs:c.bI=tb (Hf t s.rings s.runs (eY t s x)) p
theorem DY(T:TE t n) (I:SI t n s) (M:s.pre.ax=0) (x:vA) {p:Nat} (A:p<8):abX t s x p (eG t s x p):=by
 have D:(qX t s x).2.free=true:=by rw[(Fb T I M x).1]
 have B:=xF t s x A
 have ht:CH t s x=⟨(CY t s x).2.1,(CY t s x).2.2,0,Hf t s.rings s.runs (eY t s x),wJ t s.jZ s.runs x.ask,yl t s.jZ s.runs x.ask⟩:=by rw[CH,gc D];rfl
 refine⟨by rw[B.1,ht],by rw[B.2.1,ht],by rw[B.2.2,ht];exact bX _,Pt t s x A,?_⟩
 have L:(eG t s x p).bI=tb (CH t s x).bI p:=eF A
 rw[L,ht]
theorem Pv(T:TE t n) (I:SI t n s) (B:s.pre.ax=0) (x:vA):(iJ t s x).rings=(CY t s x).1:=by
 have A:(qX t s x).2.free=true:=by rw[(Fb T I B x).1]
 show zU t s x=_
 rw[zU,gc A];rfl
theorem KD(t:Tb) (r:d4) (l:List Rn) (want:Int) (hk:k=0\/k=1) {i:Nat} (M:i<8):
  (CX t r l want k->(i:Int)=qR t r want k->tb (dN t r l want).2.1 i=true)/\(Ky t r l want k->(i:Int)=jM t r k->tb (dN t r l want).2.2 i=true):=by
 have A:∀k:Int,(k=0\/k=1)->CX t r l want k->0<=qR t r want k/\qR t r want k<8:=λk hk h=>zJ h.2.1 ST
 have n8:∀k:Int,Ky t r l want k->0<=jM t r k/\jM t r k<8:=λk h=>Ca h.1
 unfold dN
 have D:=ja t r l want 1 (kP t r l want 0 (r,0,0))
 have L:=ja t r l want 0 (r,0,0)
 rcases L with⟨a,b,e⟩|⟨a,b,e⟩|⟨a,b,e⟩<;>rw[e]at D⊢<;>rcases D with⟨a1,b1,e1⟩|⟨a1,b1,e1⟩|⟨a1,b1,e1⟩<;>rw[e1]<;>
  rcases hk with rfl|rfl<;>refine⟨λh B=>?_,λh B=>?_⟩<;>(try(first|exact absurd h (by assumption)))
 all_goals
  simp only[]
  first
   |rw[eu (n8 1 a1),eu (n8 0 a)]
   |rw[eu (A 1 (.inr rfl) a1),eu (A 0 (.inl rfl) a)]
   |rw[eu (n8 1 a1)]
   |rw[eu (A 1 (.inr rfl) a1)]
   |rw[eu (n8 0 a)]
   |rw[eu (A 0 (.inl rfl) a)]
  simp[B,M]
structure RgF (t:Tb) (r:d4) (l:List Rn) (w:Int) (o:d4×Int×Int):Prop where
 Pu:o.1.group=r.group
 atS:∀k:Int,(k=0\/k=1)->CX t r l w k->o.1.at k=jN t r w k
 atN:∀k:Int,(k=0\/k=1)->¬CX t r l w k->o.1.at k=r.at k
 start:∀i:Nat,i<8->(tb o.2.1 i=true↔∃k:Int,(k=0\/k=1)/\CX t r l w k/\(i:Int)=qR t r w k)
 fin:∀i:Nat,i<8->(tb o.2.2 i=true↔if o.1.dF=true then ej (aP l i)=true else∃k:Int,(k=0\/k=1)/\Ky t r l w k/\(i:Int)=jM t r k)
 xH:o.1.dF=true↔CU t r l w (dN t r l w)=true
theorem Jh{r:d4} (R:r.dF=false):RgF t r l w (vH t r l w):=by
 obtain⟨B,O⟩:=Je t r l w
 have L:(dN t r l w).1.dF=r.dF:=by
  unfold dN
  have c1:=ja t r l w 1 (kP t r l w 0 (r,0,0))
  have c0:=ja t r l w 0 (r,0,0)
  rcases c0 with⟨a,b,e⟩|⟨a,b,e⟩|⟨a,b,e⟩<;>rw[e]at c1⊢<;>rcases c1 with⟨a1,b1,B⟩|⟨a1,b1,B⟩|⟨a1,b1,B⟩<;>rw[B]<;>rfl
 have D:∀i:Nat,i<8->(tb (dN t r l w).2.1 i=true↔∃k:Int,(k=0\/k=1)/\CX t r l w k/\(i:Int)=qR t r w k):=λi A=>
  ⟨(js t r l w A).1,λ⟨k,hk,Z,V⟩=>(KD t r l w hk A).1 Z V⟩
 by_cases h:CU t r l w (dN t r l w)=true
 ·have e:vH t r l w=({(dN t r l w).1 with dF:=true},(dN t r l w).2.1,fu l):=by rw[vH,R,h];rfl
  rw[e]
  refine⟨B,λk hk=>(O k hk).1,λk hk=>(O k hk).2,D,λi A=>?_,⟨λ_=>h,λ_=>rfl⟩⟩
  show tb (fu l) i=true↔if true=true then _ else _
  rw[gc rfl];unfold fu;rw[vn];simp[A]
 ·have e:vH t r l w=dN t r l w:=by rw[vH,R];simp[h]
  rw[e]
  refine⟨B,λk hk=>(O k hk).1,λk hk=>(O k hk).2,D,λi A=>?_,⟨λM=>(by rw[L,R]at M;cases M),λM=>absurd M h⟩⟩
  rw[L,R,fx Ts]
  exact⟨(js t r l w A).2,λ⟨k,hk,Z,V⟩=>(KD t r l w hk A).2 Z V⟩
theorem Fc(B:Uq t) (h:0<=mM t g k pl):(⟨g,k,pl,mM t g k pl⟩:Sp)∈aO t:=by
 have:=kR B h
 have A:=xB (t:=t) (p:=mM t g k pl) (by rw[this])
 rw[this]at A;exact A.1
theorem KE(B:Uq t) {x:Sp} (L:x∈aO t) (h:0<=mM t g k pl) (D:x.p=mM t g k pl):x=⟨g,k,pl,mM t g k pl⟩:=by
 have A:=B x L
 rw[D,kR B h]at A;exact(Prod.ext_iff.1 A).1.symm
theorem Ji(B:Uq t) {x:Sp} (A:x∈aO t):mM t x.group x.ring x.pos=x.p:=by
 have h:=B x A
 have:=Hs (t:=t) (p:=x.p) (by rw[h])
 rw[h]at this;exact this
theorem KH{r:d4} (h:jN t r w k>=0):r.at k<jN t r w k:=by
 unfold jN Tp at h⊢
 cases A:(List.range ((fq t r.group k).getD []).length).find? (Mu t r.group k (r.at k) w)with
 |none=>rw[A]at h;exact absurd h Ts
 |some i=>
  have:=List.find?_some A
  simp only[Mu,dT,gn]at this;exact this.1
theorem HB{t:Tb} {r:d4} {l:List Rn} {w:Int} {a:Nat} (A:a<8):∀(L:List Nat) (s:Int),(∀p∈L,p<8)->tb s a=true->tb (L.foldl (Sn t r l w) s) a=true
 |[],_,_,h=>h
 |p::L,s,hL,h=>by
  rw[ns]
  refine HB A L _ (λq B=>hL q (ii _ B)) ?_
  unfold Sn;split
  ·rw[jl (hL p ip),h];simp[A]
  ·exact h
theorem KI{t:Tb} {r:d4} {l:List Rn} {w:Int} {a:Nat} (A:a<8) (B:(d9 (xw l w)).any (Mg t r l w a)=true):∀(L:List Nat) (s:Int),(∀p∈L,p<8)->a∈L->tb (L.foldl (Sn t r l w) s) a=true
 |[],_,_,h=>by cases h
 |p::L,s,hL,h=>by
  rw[ns]
  have hL':∀p∈L,p<8:=λq D=>hL q (ii _ D)
  rcases lw.1 h with rfl|h
  ·refine HB A L _ hL' ?_
   unfold Sn;rw[B,gc rfl,jl A];simp
  ·exact KI A B L _ hL' h
theorem SN{r:d4} (A:a<8) (R:ej (aP l a)=true) (D:(aD t a).on=true) (M:q<8) (O:tb w q=true) (L:ej (aP l q)=false) (B:Mg t r l w a q=true):tb (Hf t r l w) a=true:=by
 have hE:∀i,i<8->tb (fu l) i=ej (aP l i):=λi V=>by unfold fu;rw[vn];simp[V]
 unfold Hf
 refine KI A ?_ _ _ (λp B=>jn B) ?_
 ·refine List.any_eq_true.2 ⟨q,oG M ?_,B⟩
  unfold xw
  rw[gX _ _ _ ST,O,hE q M,L];rfl
 ·refine oG A ?_
  rw[kY,hE a A,R,EN,D];simp[A]
def WR(r:d4) (y:Sp) (k:Int):Prop:=¬(y.group=r.group/\y.ring≠k/\y.pos>r.at y.ring)
theorem SO(R:Uq t) {r:d4} {y:Sp} (hy:y∈aO t) (hk:k=0\/k=1) (h:WR r y k) (D:jM t r k=a) (Z:y.p=q):Mg t r l w a q=true:=by
 have A:0<=mM t r.group k (r.at k):=by rw[<-mS hk,D];omega
 have M:=kR R A
 rw[<-mS hk,D]at M
 have L:=R y hy
 rw[Z]at L;unfold Mg Xf;rw[M,L];simp only[nd,pv,na];unfold WR at h
 by_cases B:y.group=r.group
 ·by_cases O:y.ring=k
  ·simp[O]
  ·have V:¬y.pos>r.at y.ring:=λV=>h ⟨B,O,V⟩
   have b4:y.pos<=r.at y.ring:=ST
   simp[b4]
 ·simp[B]
end
section
variable{t:Tb} {n:Nat} (T:TE t n) {s:bA} (E:EI t n s) (x:vA)
include T E
section
variable {k:Int} {q:Nat} {z:Sp}
theorem TH(A:z∈aO t):∃q:Nat,z.p=q/\q<8/\q<n:=by
 have h:=gO A
 obtain⟨q,B⟩:∃q:Nat,z.p=q:=⟨z.p.toNat,ST⟩
 refine⟨q,B,ST,T.g.Tz q ?_⟩
 rw[<-B,T.g.uq z A]
theorem HC(A:q<8) (h:bD (s.rn q)=true):(s.rn q).ay=0:=by
 have B:=(E.si.run q A).col
 simp only[bD,dT,bne_iff_ne,ne_eq]at h;omega
theorem KJ(Z:z∈aO t) (hg:z.group=s.rings.group) (V:z.ring=k) (L:z.p=q) (M:q<8) (A:z.pos≠s.rings.at k):bD (s.rn q)=true:=by
 cases h:bD (s.rn q)with
 |true=>rfl
 |false=>
  exfalso;obtain⟨j,O,D⟩:=E.now q M h;rw[mS O]at D
  have:=KE T.g.uq Z (g:=s.rings.group) (k:=j) (pl:=s.rings.at j) ST (by rw[L,D])
  have B:z.ring=j:=by rw[this]
  have R:z.pos=s.rings.at j:=by rw[this]
  rw[V]at B;rw[B]at A;exact A R
theorem WS(hk:k=0\/k=1) (M:z∈aO t) (L:z.group=s.rings.group) (D:z.ring=k) (B:z.p=q) (A:z.pos=s.rings.at k):jM t s.rings k=q:=by
 have:=Ji T.g.uq M
 rw[mS hk,<-B,<-this,L,D,A]
theorem DZ(hc:s.rings.dF=false) (hk:k=0\/k=1) (R:z∈aO t) (Z:z.group=s.rings.group) (O:z.ring=k) (D:z.p=q) (L:q<8):tb (CY t s x).2.1 q=true↔CX t s.rings s.runs (eY t s x) k/\z.pos=jN t s.rings (eY t s x) k:=by
 have F:=Jh (t:=t) (r:=s.rings) (l:=s.runs) (w:=eY t s x) hc
 constructor
 ·intro h
  obtain⟨j,hj,A,B⟩:=(F.start q L).1 h
  have V:=(zJ A.2.1 ST).1
  have:=KE T.g.uq R (g:=s.rings.group) (k:=j) (pl:=jN t s.rings (eY t s x) j) V (by rw[D,B];rfl)
  have M:z.ring=j:=by rw[this]
  have e2:z.pos=jN t s.rings (eY t s x) j:=by rw[this]
  rw[O]at M;rw[M];exact⟨A,e2⟩
 ·rintro⟨A,B⟩
  refine(F.start q L).2 ⟨k,hk,A,?_⟩
  have:=Ji T.g.uq R
  rw[qR,<-D,<-this,Z,O,B]
theorem yH(hc:s.rings.dF=false) (hk:k=0\/k=1) (hp:∀a:Nat,a<8->jM t s.rings k=a->(s.rn a).ay=1->(eG t s x a).bI=true) (hz:z∈aO t) (hg:z.group=s.rings.group) (hr:z.ring=k):
  eW t (iJ t s x).rings (iJ t s x).runs z<=eW t s.rings s.runs z/\
  ((Ky t s.rings s.runs (eY t s x) k/\z.pos=s.rings.at k)\/(fy t s.rings s.runs (eY t s x) k=false/\((qT t s.rings s.runs k=true/\z.pos=s.rings.at k)\/(qT t s.rings s.runs k=false/\z.pos=jN t s.rings (eY t s x) k)))->eW t (iJ t s x).rings (iJ t s x).runs z<=eW t s.rings s.runs z-1):=by
 have F:=Jh (t:=t) (r:=s.rings) (l:=s.runs) (w:=eY t s x) hc
 have hR:=Pv T E.si E.fr x
 obtain⟨q,hq,M,ba⟩:=TH T E hz
 have C:=DY T E.si E.fr x M
 have S:=T.sm q ba
 have R:=E.rt q M
 have a9:aP (iJ t s x).runs q=aL (aD t q) (s.rn q) (eG t s x q):=jt t s x M
 have ao:=DZ T E x hc hk hz hg hr hq M
 have ab:=KJ T E hz hg hr hq M
 have an:=WS T E hk hz hg hr hq
 have a2:(iJ t s x).rings=(vH t s.rings s.runs (eY t s x)).1:=hR
 have am:z.p.toNat=q:=by rw[hq];rfl
 have b3:s.rings.at k=s.rings.at z.ring:=by rw[hr]
 have key:∀a:Int,(iJ t s x).rings.at k=a->(z.pos>a->z.pos>s.rings.at k)->eW t (iJ t s x).rings (iJ t s x).runs z=if z.pos>a then(if(iJ t s x).rings.dF=true then 0 else qU t (aD t q) (aL (aD t q) (s.rn q) (eG t s x q)))else if z.pos=a then ee t (aD t q) (aL (aD t q) (s.rn q) (eG t s x q))else 0:=λa ha _=>by
  unfold eW;rw[hr,ha,am,a9,hq]
 have old:eW t s.rings s.runs z=if z.pos>s.rings.at k then qU t (aD t q) (s.rn q)else if z.pos=s.rings.at k then ee t (aD t q) (s.rn q)else 0:=by
  unfold eW;rw[hr,hc,am,hq];rfl
 have ak:∀r:Rn,0<=qU t (aD t q) r:=λr=>by have:=Pm S;unfold qU;omega
 have a5:=λr=>Jg S r
 have ad:0<=eW t s.rings s.runs z:=by
  rw[old];split
  ·exact ak _
  ·split
   ·exact a5 _
   ·exact kt _
 -- who is red and does not begin
 have ac:bD (s.rn q)=true->tb (CY t s x).2.1 q=false->(qU t (aD t q) (aL (aD t q) (s.rn q) (eG t s x q))<=qU t (aD t q) (s.rn q)/\((s.rn q).time<t.revert->qU t (aD t q) (aL (aD t q) (s.rn q) (eG t s x q))<=qU t (aD t q) (s.rn q)-1))/\ee t (aD t q) (aL (aD t q) (s.rn q) (eG t s x q))=0:=λO h2=>by
  have:=Hz S (c:=eG t s x q) R (HC T E M O) (by rw[C.start];exact h2)
  refine⟨this.2,?_⟩;simp[ee,this.1]
 -- who is not red
 have al:bD (s.rn q)=false->z.pos=s.rings.at k->ee t (aD t q) (aL (aD t q) (s.rn q) (eG t s x q))<=ee t (aD t q) (s.rn q)/\((Ky t s.rings s.runs (eY t s x) k\/fy t s.rings s.runs (eY t s x) k=false)->ee t (aD t q) (aL (aD t q) (s.rn q) (eG t s x q))<=ee t (aD t q) (s.rn q)-1):=λO h2=>by
  have V:=an h2
  have b0:=(E.si.run q M).col
  have hb:qT t s.rings s.runs k=true:=by
   unfold qT;rw[V,j9]
   have:bD (aP s.runs q)=false:=O
   rw[this];simp
  by_cases c1:(s.rn q).ay=1
  ·cases hf:(eG t s x q).fin with
   |true=>
    have:=(Pp S (c:=eG t s x q) c1 hf).2
    exact⟨ST,λ_=>this⟩
   |false=>
    have bj:=hp q M V c1
    have:=Pq S (c:=eG t s x q) R (E.rw q M) c1 hf bj C.cut C.hold
    have be:¬tb (CY t s x).2.2 q=true:=by rw[<-C.fin,hf];decide
    cases hd:(s.rn q).done with
    |false=>
     rw[hd]at this
     have h3:=this.2
     simp only[eQ,ik]at h3
     exact⟨ST,λ_=>h3⟩
    |true=>
     rw[hd]at this
     have h3:=this.2
     simp only[kv]at h3
     refine⟨h3.1,λhh=>?_⟩
     exfalso
     apply be
     refine(F.fin q M).2 ?_
     have a3:ej (aP s.runs q)=true:=by show((s.rn q).ay==1)=true;rw[c1];rfl
     split
     ·exact a3
     ·refine⟨k,hk,?_,V.symm⟩
      rcases hh with hh|hh
      ·exact hh
      ·refine⟨hb,?_⟩
       unfold fy kO at hh;unfold B9;rw[hb,V,j9]at hh;rw[V,j9]
       have a4:(aP s.runs q).done=true:=hd
       have bs:(aP s.runs q).ay=1:=c1
       rw[a3,a4]at hh;simp only[nd,pv,wn,nm,lL]at hh
       rw[bs,a4,pc (show jN t s.rings (eY t s x) k>=0 by omega)]
       simp
  ·have bm:(s.rn q).ay=2\/(s.rn q).ay=3:=by
    have:(s.rn q).ay≠0:=λe=>by rw[bD,e]at O;exact absurd O Ts
    omega
   have:=HA S (c:=eG t s x q) R bm
   exact⟨ST,λ_=>this⟩
 by_cases hs:CX t s.rings s.runs (eY t s x) k
 ·have b4:=KH hs.2.1
  have ha:=F.atS k hk hs
  rw[<-a2]at ha
  rw[key _ ha (λh=>ST),old]
  have B:tb (CY t s x).2.1 q=true↔z.pos=jN t s.rings (eY t s x) k:=by rw[ao];exact⟨λh=>h.2,λh=>⟨hs,h⟩⟩
  have ar:¬Ky t s.rings s.runs (eY t s x) k:=λh=>by have:=h.1;rw[hs.1]at this;cases this
  by_cases b1:z.pos>jN t s.rings (eY t s x) k
  ·rw[gc b1,gc (show z.pos>s.rings.at k by omega)]
   have:=(ac (ab ST) (by cases h:tb (CY t s x).2.1 q with|false=>rfl|true=>have:=B.1 h;omega)).1.1
   refine⟨?_,λhh=>?_⟩
   ·split
    ·exact ak _
    ·exact this
   ·exfalso
    rcases hh with⟨hh,_⟩|⟨_,⟨hh,_⟩|⟨_,hh⟩⟩
    ·exact ar hh
    ·rw[hs.1]at hh;cases hh
    ·omega
  ·by_cases L:z.pos=jN t s.rings (eY t s x) k
   ·rw[fx b1,gc L,gc (show z.pos>s.rings.at k by omega)]
    have O:tb (CY t s x).2.1 q=true:=B.2 L
    have:=(Cx S (c:=eG t s x q) (HC T E M (ab ST)) (by rw[C.start];exact O)).2
    exact⟨ST,λ_=>this⟩
   ·rw[fx b1,fx L]
    rw[old]at ad
    refine⟨ad,λhh=>?_⟩
    exfalso
    rcases hh with⟨hh,_⟩|⟨_,⟨hh,_⟩|⟨_,hh⟩⟩
    ·exact ar hh
    ·rw[hs.1]at hh;cases hh
    ·exact L hh
 ·have ha:=F.atN k hk hs
  rw[<-a2]at ha
  rw[key _ ha (λh=>h),old]
  have B:tb (CY t s x).2.1 q=false:=by
   cases h:tb (CY t s x).2.1 q with
   |false=>rfl
   |true=>exact absurd (ao.1 h).1 hs
  by_cases b1:z.pos>s.rings.at k
  ·rw[gc b1,gc b1]
   have h0:=ab ST
   have:=(ac h0 B).1
   refine⟨?_,λhh=>?_⟩
   ·split
    ·exact ak _
    ·exact this.1
   ·rcases hh with⟨_,hh⟩|⟨hh,⟨_,au⟩|⟨ag,au⟩⟩
    ·omega
    ·omega
    ·--it waits:it is not red long enough
     have bo:jN t s.rings (eY t s x) k>=0:=by
      unfold fy kO at hh;rw[ag]at hh;simp only[ma,wi,nm,lL]at hh;omega
     have aa:mM t s.rings.group k (jN t s.rings (eY t s x) k)=q:=by
      have:=Ji T.g.uq hz
      rw[<-hq,<-this,hg,hr,au]
     have D:¬gz t s.runs q=true:=λhb=>hs ⟨ag,bo,by rw[aa,j9];exact hb⟩
     have bd:(s.rn q).time<t.revert:=by
      rcases Int.lt_or_le (s.rn q).time t.revert with h|h
      ·exact h
      ·exfalso
       apply D
       have e1:bD (aP s.runs q)=true:=h0
       have e2:decide ((aP s.runs q).time>=t.revert)=true:=pc h
       unfold gz;rw[e1,e2];simp only[na]
       refine oN.2 λq' a6 a8=>?_
       cases ae:bD (s.rn q')with
       |true=>exact ae
       |false=>
        exfalso;obtain⟨j,hj,hn⟩:=E.now q' a6 ae;obtain⟨c1,c2⟩:=T.g.con q q' M a6 a8
        by_cases a7:j=k
        ·rw[a7]at hn
         have:qT t s.rings s.runs k=true:=by
          unfold qT;rw[hn,j9]
          have e3:bD (aP s.runs q')=false:=ae
          rw[e3];simp
         rw[ag]at this;cases this
        ·have w1:=kR T.g.uq (t:=t) (g:=s.rings.group) (r:=j) (pl:=s.rings.at j) (by rw[<-mS hj,hn];omega)
         rw[<-mS hj,hn]at w1
         have w2:=kR T.g.uq (t:=t) (g:=s.rings.group) (r:=k) (pl:=jN t s.rings (eY t s x) k) (by rw[aa];omega)
         rw[aa]at w2;unfold cL at c2;rw[w1,w2]at c2
         have bi:(k !=j)=true:=by simpa using λh=>a7 h.symm
         simp[bi]at c2
     have h3:=this.2 bd
     split
     ·have:=Pm S;unfold qU;omega
     ·exact h3
  ·by_cases L:z.pos=s.rings.at k
   ·rw[fx b1,gc L,fx b1,gc L]
    cases Z:bD (s.rn q)with
    |true=>
     have O:=(ac Z B).2
     have h2:=a5 (s.rn q)
     refine⟨ST,λhh=>?_⟩
     exfalso
     have D:qT t s.rings s.runs k=false:=by
      unfold qT;rw[an L,j9]
      have:bD (aP s.runs q)=true:=Z
      rw[this];simp
     rcases hh with⟨hh,_⟩|⟨A,⟨hh,_⟩|⟨_,hh⟩⟩
     ·have:=hh.1;rw[D]at this;cases this
     ·rw[D]at hh;cases hh
     ·have:jN t s.rings (eY t s x) k>=0:=by
       unfold fy kO at A;rw[D]at A;simp only[ma,wi,nm,lL]at A;omega
      have:=KH this
      omega
    |false=>
     have O:=al Z L
     refine⟨O.1,λhh=>O.2 ?_⟩
     rcases hh with⟨hh,_⟩|⟨A,_⟩
     ·exact .inl hh
     ·exact .inr A
   ·rw[fx b1,fx L,fx b1,fx L]
    refine⟨kt _,λhh=>?_⟩
    exfalso
    rcases hh with⟨_,hh⟩|⟨A,⟨_,hh⟩|⟨D,hh⟩⟩
    ·exact L hh
    ·exact L hh
    ·have:jN t s.rings (eY t s x) k>=0:=by
      unfold fy kO at A;rw[D]at A;simp only[ma,wi,nm,lL]at A;omega
     have:=KH this
     omega
end
end
section
variable {a b:Int} {g:Nat} {l:List Rn} {n q:Nat} {r:d4} {t:Tb} {w:Int} {x:Sp} {y:Nat}
theorem xI{n:Int} (h:0<=n) (A:n<=2147483647):gU n=n:=by
 unfold gU iO
 rw[fx ST,fx ST]
theorem SP(A:0<=a) (B:0<=b) (h:a+b<=2147483647):ye a b=a+b:=by
 rw[ye,xI A ST,xI B ST,xI ST h]
theorem HD:∀(l:List Int) (a:Int),0<=a->(∀x∈l,0<=x)->a+l.sum<=2147483647->l.foldl ye a=a+l.sum
 |[],a,_,_,_=>by simp
 |x::l,a,L,B,h=>by
  have O:=B x ip
  have A:∀y∈l,0<=y:=λy M=>B y (ii _ M)
  have V:0<=l.sum:=by
   clear h B
   induction l with
   |nil=>simp
   |cons y l D=>
    have:=A y ip
    have:=D (λz R=>A z (ii _ R))
    rw[pd];omega
  rw[pd]at h⊢
  rw[ns,SP L O ST,HD l (a+x) ST A ST]
  omega
theorem Am{l:List Int} (A:∀x∈l,0<=x) (h:l.sum<=2147483647):gF l=l.sum:=by
 unfold gF
 rw[HD l 0 (kt _) A ST];omega
theorem vD{c:Int}:∀{l:List Int},(∀x∈l,x<=c)->0<=c->l.sum<=c*l.length
 |[],_,_=>by simp
 |x::l,h,A=>by
  have:=h x ip
  have:=vD (l:=l) (λy B=>h y (ii _ B)) A
  rw[pd,fl,Int.natCast_add,Int.mul_add];omega
structure TF (t:Tb) (n:Nat):Prop where
 e:TE t n
 Ah:(aO t).length<=8
 grs:(t.groups.getD []).length<=8
def PT(p:Ph):Int:=max p.min (max (p.walk+p.bR) p.top)
theorem aad{c:Int} (A:0<=a) (D:0<=b) (B:0<=c):gh [a,b,c]=max a (max b c):=by
 simp only[gh,ns,List.foldl_nil]
 split<;>split<;>split<;>omega
theorem Cy(T:TE t n) (D:q<n):dW t q=PT (aD t q)+t.extend+(aD t q).bQ+(aD t q).red+t.revert+8/\0<=dW t q/\dW t q<=1000:=by
 have S:=T.sm q D
 have A:q<8:=by have:=T.g.n8;omega
 have B:mA (qW t) q=true:=by rw[z5 A,EN,T.g.on q A];simp[D,A]
 have a1:=S.min
 have M:=S.dz
 have R:=S.top
 have L:=S.WN
 have V:=S.red
 have Z:=S.ext
 have O:=S.rev
 have e:dW t q=PT (aD t q)+t.extend+(aD t q).bQ+(aD t q).red+t.revert+8:=by
  rw[dW,gc B,xI a1.1 ST,xI ST ST]
  have w:gF [(aD t q).walk,(aD t q).bR]=(aD t q).walk+(aD t q).bR:=by
   rw[Am (by simp;omega) (by simp;omega)];simp
  rw[w,aad a1.1 ST ST]
  show gF [PT (aD t q),_,_,_,_,_]=_
  have hm:0<=PT (aD t q)/\PT (aD t q)<=200:=by unfold PT;omega
  rw[Am (by simp;omega) (by simp;omega)]
  simp;omega
 have hm:0<=PT (aD t q)/\PT (aD t q)<=200:=by unfold PT;omega
 exact⟨e,ST,ST⟩
def oW(t:Tb) (g:Int):List Sp:=(aO t).filter λx=>x.group==g
def Fe(t:Tb) (g k:Int):List Sp:=(aO t).filter λx=>x.group==g&&x.ring==k
theorem ki{g:Int}:x∈oW t g↔x∈aO t/\x.group=g:=by unfold oW;rw[sa,lc]
theorem xJ{g k:Int}:x∈Fe t g k↔x∈aO t/\x.group=g/\x.ring=k:=by unfold Fe;rw[sa,dT,lc,lc]
theorem Cz(f:Sp->Int):∀l:List Sp,(l.map f).sum=mT f l
 |[]=>rfl
 |x::l=>by rw[l4,pd,Cz f l];rfl
theorem KK(F:TF t n) (Z:g<(t.groups.getD []).length):dX t g=8+mT (λx=>dW t x.p) (oW t g)/\0<=dX t g/\dX t g<=8008:=by
 have L:∀x∈aO t,0<=dW t x.p/\dW t x.p<=1000:=λx B=>by
  have h:=gO B
  obtain⟨q,D⟩:∃q:Nat,x.p=q:=⟨x.p.toNat,ST⟩
  rw[D]
  exact(Cy F.e (F.e.g.Tz q (by rw[<-D,F.e.g.uq x B]))).2
 have O:∀y∈(oW t g).map (λx=>dW t x.p),0<=y/\y<=1000:=λy A=>by
  obtain⟨x,B,rfl⟩:=kp.1 A;exact L x (ki.1 B).1
 have M:=vD (c:=1000) (λy A=>(O y A).2) Ts
 have V:(oW t g).length<=8:=kf (xc _ _) F.Ah
 rw[wa]at M
 have R:0<=mT (λx=>dW t x.p) (oW t g):=pY λx B=>(L x (ki.1 B).1).1
 have e:dX t g=8+mT (λx=>dW t x.p) (oW t g):=by
  rw[dX,fx ST,f9,l0]
  show gF (8::(oW t g).map λx=>dW t x.p)=_
  rw[Am (λy A=>by
   rcases lw.1 A with rfl|A
   ·decide
   ·exact(O y A).1) (by rw[pd];omega),pd,Cz]
 rw[Cz]at M
 exact⟨e,ST,ST⟩
def pZ(t:Tb):Nat->Int
 |0=>0
 |k+1=>pZ t k+dX t k
theorem eZ(t:Tb) {a:Nat}:∀{b:Nat},a<=b->pZ t a<=pZ t b
 |0,h=>by rw[Nat.le_zero.1 h];exact kt _
 |b+1,h=>by
  by_cases e:a=b+1
  ·rw[e];exact kt _
  ·have:=eZ t (a:=a) (b:=b) ST
   have:=(sH t b).1
   show _<=pZ t b+dX t b
   omega
theorem KL{t:Tb}:∀k,((List.range k).map λ(g:Nat)=>dX t g).sum=pZ t k
 |0=>rfl
 |k+1=>by
  rw[lm,np,List.sum_append,KL k];simp[pZ]
def m3(t:Tb):Nat:=(t.groups.getD []).length
def Ff(t:Tb) (g y:Nat):Int:=if g<y then pZ t (y+1)-pZ t (g+1)else pZ t (m3 t)-pZ t (g+1)+pZ t (y+1)
theorem xK(t:Tb) (k:Nat):pZ t (k+1)=pZ t k+dX t k:=rfl
theorem HE(O:g<m3 t) (B:y<m3 t):dX t y<=Ff t g y:=by
 have D:=xK t y
 have A:=eZ t (a:=0) (b:=y) ST
 have M:=eZ t (a:=g+1) (b:=m3 t) ST
 have L:pZ t 0=0:=rfl
 unfold Ff;split
 ·have:=eZ t (a:=g+1) (b:=y) ST;omega
 ·omega
theorem Pw{A:Nat} (hg:g<m3 t) (M:A<m3 t) (V:y<m3 t) (D:g<y->g<A/\A<=y) (B:y<=g->g<A\/A<=y) (L:A≠y):dX t A+Ff t A y<=Ff t g y:=by
 have O:=xK t A
 have h3:=eZ t (a:=0) (b:=A) ST
 have R:=eZ t (a:=g+1) (b:=m3 t) ST
 have Z:pZ t 0=0:=rfl
 unfold Ff
 by_cases a:g<y
 ·have:=D a
  have:=eZ t (a:=g+1) (b:=A) ST
  rw[gc a,gc ST];omega
 ·rw[fx a]
  by_cases b:A<y
  ·rw[gc b];omega
  ·have:g<A:=by rcases B ST with h|h<;>omega
   have:=eZ t (a:=g+1) (b:=A) ST
   rw[fx b];omega
theorem SQ(F:TF t n) {y:Sp} (B:y∈aO t) {D:Nat} (M:y.p=q) (Z:y.group=D):ig t q=dX t D+pZ t (m3 t):=by
 obtain⟨O,ae,L,aa⟩:∃q:Nat,y.p=q/\q<8/\q<n:=by
  have h:=gO B
  exact⟨q,M,ST,F.e.g.Tz q (by rw[<-M,F.e.g.uq y B])⟩
 have ab:O=q:=ST
 subst ab
 have hw:=F.e.g.uq y B
 rw[M]at hw
 have V:mA (qW t) O=true:=by rw[z5 L,EN,F.e.g.on O L];simp[aa,L]
 have hb:∀g:Nat,g<m3 t->0<=dX t g/\dX t g<=8008:=λg R=>(KK F R).2
 have ad:=oT B
 have hl:∀x∈(List.range (t.groups.getD []).length).map λ(g:Nat)=>dX t g,0<=x/\x<=8008:=λx A=>by
  obtain⟨g,R,rfl⟩:=kp.1 A;exact hb g (ib.1 R)
 have hs:=vD (c:=8008) (λx A=>(hl x A).2) Ts
 rw[wa,List.length_range]at hs
 have hG:=F.grs
 have ac:=hb D (by unfold m3;omega)
 rw[ig,hw,V];simp only[wn,kv]
 rw[Z,Am (λx A=>by
  rcases lw.1 A with rfl|A
  ·exact ac.1
  ·exact(hl x A).1) (by rw[pd];omega),pd,KL]
 rfl
theorem Px(M:g<m3 t) (B:y<m3 t):dX t g+Ff t g y<=dX t y+pZ t (m3 t):=by
 have A:=xK t g
 have O:=xK t y
 have L:pZ t 0=0:=rfl
 have D:=(sH t y).1
 unfold Ff;split
 ·have:=eZ t (a:=0) (b:=g) ST
  have:=eZ t (a:=y+1) (b:=m3 t) ST
  omega
 ·have:=eZ t (a:=y) (b:=g) ST
  omega
theorem HF(F:TF t n) (V:∀p:Nat,p<8->KB (aP l p)) (O:∀p:Nat,p<8->(aD t p).walk=0->(aP l p).fst=0) (Z:g<m3 t):mT (eW t r l) (oW t g)+8<=dX t g/\∀x∈aO t,0<=eW t r l x:=by
 have D:∀x∈aO t,0<=eW t r l x/\eW t r l x<=dW t x.p:=λx B=>by
  have h:=gO B
  obtain⟨q,L⟩:∃q:Nat,x.p=q:=⟨x.p.toNat,ST⟩
  have A:=F.e.g.Tz q (by rw[<-L,F.e.g.uq x B])
  have S:=F.e.sm q A
  have e:=(Cy F.e A).1
  have R:=V q ST
  have h1:=Pn S R (O q ST)
  have h2:=Jg S (aP l q)
  have h3:Xj t (aD t q)=PT (aD t q)+t.extend+(aD t q).bQ+(aD t q).red+3:=rfl
  have h4:=S.rev
  have h5:=R.tm
  have h6:=Pm S
  have M:=(Cy F.e A).2
  unfold eW;rw[L,j9];split
  ·split
   ·exact⟨kt _,M.1⟩
   ·unfold qU;omega
  ·split
   ·omega
   ·exact⟨kt _,M.1⟩
 refine⟨?_,λx B=>(D x B).1⟩
 rw[(KK F Z).1]
 have:=Aj (f:=eW t r l) (g:=λx=>dW t x.p) (l:=oW t g) λx B=>(D x (ki.1 B).1).2
 omega
theorem aae(F:TF t n) (ht:t.Ok) (hg:g<m3 t) (hy:y<m3 t) (hw:(dh .i64 (Mv t y) w !=0)=true):
  ∃L:Nat,Kr t g w=L/\L<m3 t/\(g<y->g<L/\L<=y)/\(y<=g->g<L\/L<=y):=by
 have O:∀k,k<m3 t->PR t g k=(((g+1+k)%m3 t:Nat):Int):=λk hk=>by
  rw[<-Tx ht g k hk]
  have hb:=ht.groups
  have e0:OI t g=g:=fx (by unfold m3 at hg;omega)
  unfold m3 at*
  rw[e0,aT ST ST]
  have:((g:Int)+((k+1:Nat):Int))=((g+1+k:Nat):Int):=ST
  rw[this,Int.tmod_eq_emod_of_nonneg ST,<-Int.natCast_emod]
 obtain⟨A,B,D⟩:∃A,A<m3 t/\((g<y/\A=y-g-1)\/(y<=g/\A=y+m3 t-g-1)):=by
  by_cases a:g<y
  ·exact⟨y-g-1,ST,.inl ⟨a,rfl⟩⟩
  ·exact⟨y+m3 t-g-1,ST,.inr ⟨ST,rfl⟩⟩
 have R:(g+1+A)%m3 t=y:=by
  rcases D with⟨a,e⟩|⟨a,e⟩
  ·rw[e,show g+1+(y-g-1)=y by omega,pu hy]
  ·rw[e,show g+1+(y+m3 t-g-1)=y+m3 t by omega,Nat.add_mod_right,pu hy]
 have M:Tq t g w A=true:=by
  unfold Tq;rw[O A B,R];exact hw
 cases Z:(List.range (t.groups.getD []).length).find? (Tq t g w)with
 |none=>
  have:=se.1 Z A (ib.2 B)
  rw[M]at this;exact absurd rfl this
 |some k=>
  have hk:=ib.1 (p5 Z)
  have ac:k<=A:=by
   rcases ix A k with h|h
   ·exfalso
    obtain⟨_,as,bs,e,ha⟩:=List.find?_eq_some_iff_append.1 Z
    have ab:as.length=k:=by
     have V:(List.range (t.groups.getD []).length)[as.length]? =some k:=by rw[e];simp
     have h2:=e9.1 V
     obtain⟨h3,h4⟩:=h2;rw[List.getElem_range]at h4;exact h4
    have hm:A∈as:=by
     have V:(List.range (t.groups.getD []).length)[A]? =some A:=kh B
     rw[e,km ST]at V
     exact ev V
    have:=ha A hm
    rw[M]at this;cases this
   ·exact h
  have aa:Kr t g w=PR t g k:=by unfold Kr;rw[Z]
  refine⟨(g+1+k)%m3 t,by rw[aa,O k hk],In _ ST,λa=>?_,λa=>?_⟩
  ·rcases D with⟨_,e⟩|⟨b,_⟩
   ·rw[pu ST];omega
   ·omega
  ·rcases D with⟨b,_⟩|⟨_,e⟩
   ·omega
   ·rcases ix (g+1+k) (m3 t)with h|h
    ·left;rw[pu h];omega
    ·right
     rw[Nat.mod_eq_sub_mod h,pu ST];omega
theorem oX(A:r.dF=true):vH t r l w=(HP t r l w,0,0):=by rw[vH,A];rfl
theorem SR(h:∀p:Nat,p<8->bD (aP l p)=true):HP t r l w=⟨if Kr t r.group w>=0 then Kr t r.group w else r.group,-1,-1,false⟩:=by
 rw[HP,gc]
 exact mf.2 λp A=>h p (ib.1 A)
theorem KM{p:Nat} (A:p<8) (h:bD (aP l p)=false):HP t r l w=r:=by
 rw[HP,fx];intro B
 have:=mf.1 B p (ib.2 A)
 rw[h]at this;cases this
theorem WT(ht:t.Ok) {g:Int} (h:Kr t g w>=0):Kr t g w<((t.groups.getD []).length:Int):=by
 unfold Kr at h⊢
 cases A:(List.range (t.groups.getD []).length).find? (Tq t g w)with
 |none=>
  rw[A]at h
  have h:(-1:Int)>=0:=h
  omega
 |some k=>
  have hk:=ib.1 (p5 A)
  have:=Tx ht g k hk
  simp only;rw[<-this]
  exact zr _ ST
end
section
variable{t:Tb} {n:Nat} (F:TF t n) (ht:t.Ok) {s:bA} (E:EI t n s) (x:vA)
include F ht E
theorem Py{p:Nat} (D:p<8) (h:((iJ t s x).rn p).ay=1):((s.rn p).ay=1/\tb (CY t s x).2.2 p=false)\/((s.rn p).ay=0/\tb (CY t s x).2.1 p=true):=by
 have C:=DY F.e E.si E.fr x D
 have R:=(E.si.run p D).col
 rw[jt t s x D]at h
 have e:(s.rn p).ay=0\/(s.rn p).ay=1\/(s.rn p).ay=2\/(s.rn p).ay=3:=ST
 rcases e with e|e|e|e
 ·refine .inr ⟨e,?_⟩
  cases O:tb (CY t s x).2.1 p with
  |true=>rfl
  |false=>
   exfalso
   have L:(eG t s x p).start=false:=by rw[C.start,O]
   have:aL (aD t p) (s.rn p) (eG t s x p)=mU (s.rn p) 0 (bh (s.rn p).time):=by simp[aL,e,vu,L]
   rw[this]at h
   exact absurd (show(0:Int)=1 from h) Ts
 ·refine .inl ⟨e,?_⟩
  cases M:tb (CY t s x).2.2 p with
  |false=>rfl
  |true=>
   exfalso
   have B:(eG t s x p).fin=true:=by rw[C.fin,M]
   have A:aL (aD t p) (s.rn p) (eG t s x p)=eV (aD t p) (s.rn p) (eG t s x p):=by simp[aL,e]
   have:(eV (aD t p) (s.rn p) (eG t s x p)).ay=2:=by
    unfold eV;rw[B];simp only[kv]
    split<;>rfl
   rw[A,this]at h
   exact absurd h Ts
 ·exfalso
  have A:aL (aD t p) (s.rn p) (eG t s x p)=gZ (aD t p) (s.rn p):=by simp[aL,e]
  rw[A]at h;unfold gZ at h;split at h
  ·exact absurd (show(2:Int)=1 from h) Ts
  ·split at h
   ·exact absurd (show(3:Int)=1 from h) Ts
   ·exact absurd (show(0:Int)=1 from h) Ts
 ·exfalso
  have A:aL (aD t p) (s.rn p) (eG t s x p)=k9 (aD t p) (s.rn p):=by simp[aL,e]
  rw[A]at h;unfold k9 at h;split at h
  ·exact absurd (show(3:Int)=1 from h) Ts
  ·exact absurd (show(0:Int)=1 from h) Ts
theorem D0{p:Nat} (A:p<8) (D:bD (s.rn p)=true) (h:bD ((iJ t s x).rn p)=false):tb (CY t s x).2.1 p=true:=by
 have C:=DY F.e E.si E.fr x A
 have L:=HC F.e E A D
 cases M:tb (CY t s x).2.1 p with
 |true=>rfl
 |false=>
  exfalso
  have B:(eG t s x p).start=false:=by rw[C.start,M]
  have:aL (aD t p) (s.rn p) (eG t s x p)=mU (s.rn p) 0 (bh (s.rn p).time):=by simp[aL,L,vu,B]
  rw[jt t s x A,this]at h
  exact absurd (show(true:Bool)=false from h) Ts
theorem KN:EI t n (iJ t s x):=by
 have T:=F.e
 have hR:=Pv T E.si E.fr x
 have hW:CY t s x=vH t s.rings s.runs (eY t s x):=rfl
 refine⟨SM T.g E.si x,?_,λp A=>?_,λp A=>?_,λp A h=>?_,λL p A h=>?_,?_⟩
 ·exact(Fb T E.si E.fr x).2
 ·rw[jt t s x A];exact Hy (E.rt p A)
 ·rw[jt t s x A]
  refine Po ?_ (E.rw p A)
  by_cases h:p<n
  ·have:=(T.sm p h).dz;omega
  ·rw[T.g.off p A ST];exact kt _
 ·rw[hR,hW]
  cases L:s.rings.dF with
  |false=>
   have G:=Jh (t:=t) (r:=s.rings) (l:=s.runs) (w:=eY t s x) L
   cases R:bD (s.rn p)with
   |false=>
    obtain⟨k,hk,hn⟩:=E.now p A R;refine⟨k,hk,?_⟩
    have hb:qT t s.rings s.runs k=true:=by
     unfold qT;rw[hn,j9]
     have:bD (aP s.runs p)=false:=R
     rw[this];simp
    have aa:¬CX t s.rings s.runs (eY t s x) k:=λM=>by rw[M.1]at hb;cases hb
    rw[mS hk,G.Pu,G.atN k hk aa,<-mS hk,hn]
   |true=>
    have M:=D0 F ht E x A R h
    obtain⟨k,hk,h1,D⟩:=(G.start p A).1 M
    refine⟨k,hk,?_⟩;rw[mS hk,G.Pu,G.atS k hk h1,D];rfl
  |true=>
   have R:bD (s.rn p)=false:=by
    cases R:bD (s.rn p)with
    |false=>rfl
    |true=>
     have M:=D0 F ht E x A R h
     rw[hW,oX L]at M
     have M:tb (0:Int) p=true:=M
     rw[bX]at M;cases M
   rw[oX L,KM A (show bD (aP s.runs p)=false from R)]
   exact E.now p A R
 ·have O:=Py F ht E x A h
  rw[hR,hW]at L;rw[hW]at O
  cases Z:s.rings.dF with
  |false=>
   have G:=Jh (t:=t) (r:=s.rings) (l:=s.runs) (w:=eY t s x) Z
   rcases O with⟨h1,D⟩|⟨h1,D⟩
   ·have:tb (vH t s.rings s.runs (eY t s x)).2.2 p=true:=by
     refine(G.fin p A).2 ?_;rw[gc L]
     show((s.rn p).ay==1)=true
     rw[h1];rfl
    rw[D]at this;cases this
   ·obtain⟨k,hk,h3,_⟩:=(G.start p A).1 D
    have V:=G.xH.1 L
    simp only[CU,dT]at V
    have B:fy t s.rings s.runs (eY t s x) k=true:=by rcases hk with rfl|rfl;exact V.2.1;exact V.2.2.1
    unfold fy kO at B
    have:=h3.2.1
    rw[tp (show ¬jN t s.rings (eY t s x) k<0 by omega)]at B
    cases B
  |true=>
   rw[oX Z]at O
   rcases O with⟨h1,_⟩|⟨_,D⟩
   ·exact E.xH Z p A h1
   ·have D:tb (0:Int) p=true:=D
    rw[bX]at D;cases D
 ·rw[hR,hW]
  have hg:=E.Pu
  cases L:s.rings.dF with
  |false=>
   have G:=Jh (t:=t) (r:=s.rings) (l:=s.runs) (w:=eY t s x) L
   rw[G.Pu];exact hg
  |true=>
   rw[oX L]
   show 0<=(HP t s.rings s.runs (eY t s x)).group/\_
   unfold HP;split
   ·simp only
    split
    ·rename_i h
     exact⟨h,WT ht h⟩
    ·exact hg
   ·exact hg
end
theorem WU{t:Tb} {n:Nat} (F:TF t n):EI t n (tY t):=by
 refine⟨Pj,rfl,λp A=>?_,λp A _=>?_,λp A h=>?_,λh=>?_,?_⟩
 ·rw[vC t A]
  exact⟨by show(0:Int)<=9999;decide,kt _,kt _,λh=>absurd (show(0:Int)=1 from h) Ts,λh=>absurd (show(0:Int)=2 from h) Ts⟩
 ·rw[vC t A];rfl
 ·rw[vC t A]at h;exact absurd (show true=false from h) Ts
 ·exact absurd (show false=true from h) Ts
 ·have:=F.e.gr
  exact⟨kt _,by show(0:Int)<_;omega⟩
def Ahd(r:d4) (y:Sp):Prop:=r.dF=false/\r.group=y.group/\y.pos>r.at y.ring
def Wt(t:Tb) (s:bA) (y:Sp) (A B:Nat) (K:Int):Prop:=
 (Ahd s.rings y/\mT (eW t s.rings s.runs) (Fe t y.group y.ring)<=K)\/
 (¬Ahd s.rings y/\mT (eW t s.rings s.runs) (oW t A)+(if s.rings.dF=true then 2 else 3)+Ff t A B<=K)
theorem KO{x:Int} (h:Can x) (B:x≠0):∃i,i<8/\tb x i=true:=by
 refine Classical.byContradiction λD=>B (lP h wQ λi A=>?_)
 rw[bX]
 cases L:tb x i with
 |false=>rfl
 |true=>exact absurd ⟨i,A,L⟩ D
theorem aaf{t:Tb} (hU:Uq t) {r:d4} {w:Int} {y:Sp} (hy:y∈aO t) (Z:r.group=y.group) (hp:y.pos>r.at y.ring) (hw:dP w y.p=true):0<=jN t r w y.ring/\jN t r w y.ring<=y.pos:=by
 have ab:=yB hy
 obtain⟨g,k,i,gr,e1,e2,e3,e4,R⟩:=tT.1 hy
 have D:y.ring=k:=by rw[R]
 have B:y.group=g:=by rw[R]
 have A:y.pos=i:=by rw[R]
 have M:=E6 e1 e2
 have hi:i<((fq t r.group y.ring).getD []).length:=by rw[Z,B,D,M];exact(e9.1 e3).1
 have L:Mu t r.group y.ring (r.at y.ring) w i=true:=by
  unfold Mu
  have:((fq t r.group y.ring).getD []).getD i 0=y.p:=by rw[Z,B,D,M,fi,e3];rfl
  rw[this,hw,pc (show(i:Int)>r.at y.ring by rw[<-A];exact hp)];rfl
 unfold jN Tp
 cases hf:(List.range ((fq t r.group y.ring).getD []).length).find? (Mu t r.group y.ring (r.at y.ring) w)with
 |none=>
  have:=se.1 hf i (ib.2 hi)
  rw[L]at this;exact absurd rfl this
 |some V=>
  simp only
  refine⟨ST,?_⟩
  rw[A]
  rcases ix i V with h|h
  ·exfalso
   obtain⟨_,as,bs,e,ha⟩:=List.find?_eq_some_iff_append.1 hf
   have aa:as.length=V:=by
    have O:(List.range ((fq t r.group y.ring).getD []).length)[as.length]? =some V:=by rw[e];simp
    obtain⟨h3,h4⟩:=e9.1 O
    rw[List.getElem_range]at h4;exact h4
   have hm:i∈as:=by
    have O:(List.range ((fq t r.group y.ring).getD []).length)[i]? =some i:=kh hi
    rw[e,km ST]at O
    exact ev O
   have:=ha i hm
   rw[L]at this;cases this
  ·omega
section
variable{t:Tb} {n:Nat} (F:TF t n) (ht:t.Ok) {s:bA} (E:EI t n s) (x:vA)
include F ht E
theorem KQ{y:Sp} (M:y∈aO t) {q:Nat} (Z:y.p=q) (V:tb (eY t s x) q=true) (D:(s.rn q).ay≠1) {k:Int} (hk:k=0\/k=1) (h:WR s.rings y k):∀a:Nat,a<8->jM t s.rings k=a->(s.rn a).ay=1->(eG t s x a).bI=true:=by
 intro a A hn R
 have L:q<8:=by have:=gO M;omega
 rw[(DY F.e E.si E.fr x A).prs]
 refine SN A (by show((s.rn a).ay==1)=true;rw[R];rfl) ?_ L V (by show((s.rn q).ay==1)=false;simpa using D) (SO F.e.g.uq M hk h hn Z)
 rw[F.e.g.on a A]
 have:bD (s.rn a)=false:=by simp[bD,R]
 have B:a<n:=by
  rcases ix a n with h|h
  ·exact h
  ·have O:bD (s.rn a)=true:=E.si.off a A h
   rw[this]at O;cases O
 simp[B]
theorem zO(hc:s.rings.dF=false) {k:Int} (hk:k=0\/k=1) (Z:∀a:Nat,a<8->jM t s.rings k=a->(s.rn a).ay=1->(eG t s x a).bI=true) (h:fy t s.rings s.runs (eY t s x) k=false\/Ky t s.rings s.runs (eY t s x) k):
  ∃z∈Fe t s.rings.group k,eW t (iJ t s x).rings (iJ t s x).runs z<=eW t s.rings s.runs z-1:=by
 have use:∀z:Sp,z∈aO t->z.group=s.rings.group->z.ring=k->((Ky t s.rings s.runs (eY t s x) k/\z.pos=s.rings.at k)\/(fy t s.rings s.runs (eY t s x) k=false/\((qT t s.rings s.runs k=true/\z.pos=s.rings.at k)\/(qT t s.rings s.runs k=false/\z.pos=jN t s.rings (eY t s x) k))))->∃z∈Fe t s.rings.group k,eW t (iJ t s x).rings (iJ t s x).runs z<=eW t s.rings s.runs z-1:=λz B V M hh=>
  ⟨z,xJ.2 ⟨B,V,M⟩,(yH F.e E x hc hk Z B V M).2 hh⟩
 cases D:qT t s.rings s.runs k with
 |true=>
  have O:=(Ca D).1
  rw[mS hk]at O
  have B:=Fc F.e.g.uq O
  refine use _ B rfl rfl ?_
  rcases h with h|h
  ·exact .inr ⟨h,.inl ⟨D,rfl⟩⟩
  ·exact .inl ⟨h,rfl⟩
 |false=>
  have R:fy t s.rings s.runs (eY t s x) k=false:=by
   rcases h with h|h
   ·exact h
   ·have:=h.1
    rw[D]at this;cases this
  have L:jN t s.rings (eY t s x) k>=0:=by
   have A:=R
   unfold fy kO at A;rw[D]at A;simp only[ma,wi,nm,lL]at A;omega
  have B:=Fc F.e.g.uq (zJ L ST).1
  exact use _ B rfl rfl (.inr ⟨R,.inr ⟨D,rfl⟩⟩)
theorem vE:(∀z∈aO t,0<=eW t s.rings s.runs z)/\∀g:Nat,g<m3 t->mT (eW t s.rings s.runs) (oW t g)+8<=dX t g:=
 ⟨(HF F (r:=s.rings) E.rt E.rw (g:=0) F.e.gr).2,λg A=>(HF F (r:=s.rings) E.rt E.rw A).1⟩
end
end Go.Eng
