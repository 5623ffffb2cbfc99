/- Part 19 of the engine and its library. -/
import Derived.Test.YtjnbemnncjbmgaaGreatPk18
set_option linter.all false
set_option maxRecDepth 10000
set_option maxHeartbeats 4000000
namespace Go.Eng
open Go
section
variable (t:Tb) (r:gW) (l:List Rn) (want k:Int)
structure TG (t:Tb) (n:Nat):Prop where
 n8:n<=8
 on:∀p:Nat,p<8->(aK t p).on=decide (p<n)
 ph:∀p:Nat,p<n->WT (aK t p)
 off:∀p:Nat,p<8->n<=p->aK t p=default
 sym:∀p q,p<8->q<8->tb (eA t p) q=tb (eA t q) p
 con:∀p q:Nat,p<8->q<8->tb (eA t p) q=true->p≠q/\ee t p q=false
 uq:Uq t
 wh:∀p:Nat,p<n->(aE t p).2=true
 whn:∀p:Nat,(aE t p).2=true->p<n
 rl:(t.bE.getD []).length<=2/\∀r∈t.bE.getD [],Lt t n r
theorem Ie(l:Option (List Int)):TG (bk l) (nT l) where
 n8:=(nH l).2
 on:=λp D=>by rw[tph l D];split<;>rename_i h<;>simp[h];exact(RC _ _).on;rfl
 ph:=λp D=>by rw[tph l (by have:=(nH l).2;omega),fp D];exact RC _ _
 off:=λp O D=>by rw[tph l O,fb ado]
 sym:=λp q D L=>Ue l D L
 con:=λp q D L h=>Uh l D L h
 uq:=XP l
 wh:=λp D=>XS l D
 whn:=λp h=>by
  obtain⟨R,V⟩:=Og h
  have M:(aE (bk l) p).1.p∈(bQ (bk l)).map Sp.p:=NE R
  rw[Lu,V,d8]at M;simp only[mi,ip]at M;obtain⟨i,Z,he⟩:=M;omega
 rl:=af7 l
theorem TG.min{t:Tb} {n:Nat} (h:TG t n) {p:Nat} (D:p<8):(aK t p).min<=9999:=by
 by_cases e:p<n
 ·have:=(h.ph p e).min;omega
 ·rw[h.off p D ado];decide
structure SI (t:Tb) (n:Nat) (s:bD):Prop where
 ok:s.Ok
 safe:∀p q,p<8->q<8->tb (eA t p) q=true->dN (s.rn p)=true\/dN (s.rn q)=true
 run:∀p:Nat,p<8->X1 (aK t p) (s.rn p)
 off:∀p,p<8->n<=p->dN (s.rn p)=true
 pre:X0 t s.pre
 ring:s.pre.ax=0->∀p:Nat,p<8->(s.rn p).az=1->∃k:Int,(k=0\/k=1)/\qq t s.rings k=p
structure Oi (t:Tb) (n:Nat) (s:bD) (st fn ct:Int) (ax:Int) (rg:gW):Prop where
 start:∀p,p<8->tb st p=true->dN (s.rn p)=true/\p<n/\∀q,q<8->tb (eA t p) q=true->dN (s.rn q)=true
 two:∀p q,p<8->q<8->tb st p=true->tb st q=true->tb (eA t p) q=false
 fin:∀p:Nat,p<8->tb fn p=true->(s.rn p).az=1->((aK t p).min<=(s.rn p).time/\(s.rn p).fst=0)\/ax=1\/ax=3
 cut:∀p,p<8->tb ct p=true->ax=1\/ax=3
 ring:ax=0->∀p:Nat,p<8->((s.rn p).az=1/\tb fn p=false)\/tb st p=true->∃k:Int,(k=0\/k=1)/\qq t rg k=p
theorem Ig{t:Tb} {l:List Rn} {p:Nat} (h:ju t l p=true):dN (bh l p)=true/\(bh l p).time>=t.revert/\∀q,q<8->tb (eA t p) q=true->dN (bh l q)=true:=by
 simp only[ju,ed,ii]at h;exact⟨h.1.1,h.1.2,nN.1 h.2⟩
def stR:Prop:=FC t r l k=false/\AX t r want k>=0/\ju t l (vJ t r.group k (AX t r want k)).toNat=true
def enR:Prop:=FC t r l k=true/\JX t r l want k=true
def qR:Int:=vJ t r.group k (AX t r want k)
theorem yN(x:gW×Int×Int):
  (enR t r l want k/\¬stR t r l want k/\vK t r l want k x=(x.1,x.2.1,eJ x.2.2 (qq t r k)))\/(stR t r l want k/\¬enR t r l want k/\vK t r l want k x=(x.1.put k (AX t r want k),eJ x.2.1 (qR t r want k),x.2.2))\/(¬enR t r l want k/\¬stR t r l want k/\vK t r l want k x=x):=by
 unfold vK;split
 ·rename_i h
  split
  ·rename_i L
   exact .inl ⟨⟨h,L⟩,λD=>(by rw[D.1]at h;cases h),rfl⟩
  ·rename_i L
   exact .inr (.inr ⟨λD=>L D.2,λD=>(by rw[D.1]at h;cases h),rfl⟩)
 ·rename_i h
  split
  ·rename_i M
   split
   ·rename_i L
    exact .inr (.inl ⟨⟨by simpa using h,M,L⟩,λD=>h D.1,rfl⟩)
   ·rename_i L
    exact .inr (.inr ⟨λD=>h D.1,λD=>L D.2.2,rfl⟩)
  ·rename_i M
   exact .inr (.inr ⟨λD=>h D.1,λD=>M D.2.1,rfl⟩)
theorem nV{s:Int} {p:Int} (D:0<=p/\p<8) (i:Nat):tb (eJ s p) i=(tb s i&&decide (i<8)||decide ((i:Int)=p)):=by
 obtain⟨k,rfl⟩:∃k:Nat,p=k:=⟨p.toNat,ado⟩
 rw[ng ado]
 congr 1
 exact decide_eq_decide.2 ado
theorem xN{i:Nat} (O:i<8):
  (tb (lQ t r l want).2.1 i=true->∃k:Int,(k=0\/k=1)/\stR t r l want k/\(i:Int)=qR t r want k)/\
  (tb (lQ t r l want).2.2 i=true->∃k:Int,(k=0\/k=1)/\enR t r l want k/\(i:Int)=qq t r k):=by
 have D:∀k:Int,(k=0\/k=1)->stR t r l want k->0<=qR t r want k/\qR t r want k<8:=λk hk h=>N7 h.2.1 ado
 have n8:∀k:Int,enR t r l want k->0<=qq t r k/\qq t r k<8:=λk h=>P8 h.1
 unfold lQ
 have L:=yN t r l want 1 (vK t r l want 0 (r,0,0))
 have M:=yN t r l want 0 (r,0,0)
 rcases M with⟨a,b,e⟩|⟨a,b,e⟩|⟨a,b,e⟩<;>rw[e]at L⊢<;>rcases L with⟨a1,b1,e1⟩|⟨a1,b1,e1⟩|⟨a1,b1,e1⟩<;>rw[e1]<;>
  constructor<;>intro h<;>simp only[ef]at h<;>(try(cases h;done))
 all_goals
  first
   |rw[nV (n8 1 a1),nV (n8 0 a)]at h
   |rw[nV (D 1 (.inr rfl) a1),nV (D 0 (.inl rfl) a)]at h
   |rw[nV (n8 1 a1)]at h
   |rw[nV (D 1 (.inr rfl) a1)]at h
   |rw[nV (n8 0 a)]at h
   |rw[nV (D 0 (.inl rfl) a)]at h
  simp only[ef,O,Id,sh,w5,na,ii]at h
  first
   |(rcases h with h|h
     ·exact⟨0,.inl rfl,a,h⟩
     ·exact⟨1,.inr rfl,a1,h⟩)
   |exact⟨0,.inl rfl,a,h⟩
   |exact⟨1,.inr rfl,a1,h⟩
theorem X2:(lQ t r l want).1.group=r.group/\∀k:Int,(k=0\/k=1)->(stR t r l want k->(lQ t r l want).1.at k=AX t r want k)/\(¬stR t r l want k->(lQ t r l want).1.at k=r.at k):=by
 unfold lQ
 have D:=yN t r l want 1 (vK t r l want 0 (r,0,0))
 have L:=yN t r l want 0 (r,0,0)
 rcases L with⟨a,b,e⟩|⟨a,b,e⟩|⟨a,b,e⟩<;>rw[e]at D⊢<;>rcases D with⟨a1,b1,e1⟩|⟨a1,b1,e1⟩|⟨a1,b1,e1⟩<;>rw[e1]<;>
  refine⟨rfl,λk hk=>?_⟩<;>rcases hk with rfl|rfl<;>refine⟨λh=>?_,λh=>?_⟩<;>first|rfl|exact absurd h (by assumption)|exact absurd (by assumption) h
end
section
variable {e k:Int} {n p q:Nat} {r:gW} {s:bD} {t:Tb} {want:Int}
theorem Sd(hk:k=0\/k=1):qq t r k=vJ t r.group k (r.at k):=by rw[qq,fb ado]
theorem agX{l:List Rn} (hk:k=0\/k=1) (h:stR t r l want k) {i:Nat} (L:(i:Int)=qR t r want k):ju t l i=true:=by
 have D:=h.2.2
 rw[show vJ t r.group k (AX t r want k)=qR t r want k from rfl,<-L,rc]at D
 exact D
theorem J8(g:TG t n) (O:p<8) (h:tb (lQ t r s.runs want).2.1 p=true):dN (s.rn p)=true/\p<n/\∀q,q<8->tb (eA t p) q=true->dN (s.rn q)=true:=by
 obtain⟨k,hk,D,L⟩:=(xN t r s.runs want O).1 h
 obtain⟨a,_,b⟩:=Ig (agX hk D L)
 refine⟨a,?_,b⟩
 have M:=H8 g.uq (t:=t) (g:=r.group) (r:=k) (pl:=AX t r want k) (N7 D.2.1 ado).1
 rw[show vJ t r.group k (AX t r want k)=qR t r want k from rfl,<-L]at M
 exact g.whn p (by rw[M])
theorem Se(g:TG t n) (M:p<8) (O:q<8) (h:tb (lQ t r s.runs want).2.1 p=true) (h':tb (lQ t r s.runs want).2.1 q=true):tb (eA t p) q=false:=by
 obtain⟨k,hk,h1,L⟩:=(xN t r s.runs want M).1 h
 obtain⟨j,hj,h3,h4⟩:=(xN t r s.runs want O).1 h'
 cases Z:tb (eA t p) q with
 |false=>rfl
 |true=>
  exfalso;obtain⟨R,D⟩:=g.con p q M O Z
  have a1:=(N7 h1.2.1 ado).1
  have V:=(N7 h3.2.1 ado).1
  rw[L,h4]at D
  rcases hk with rfl|rfl<;>rcases hj with rfl|rfl
  ·exact R (by have:=L.trans h4.symm;omega)
  ·have:=J5 g.uq a1 V
   rw[show ee t (qR t r want 0) (qR t r want 1)=true from this]at D;cases D
  ·have:=J5 g.uq V a1
   rw[Au,show ee t (qR t r want 0) (qR t r want 1)=true from this]at D;cases D
  ·exact R (by have:=L.trans h4.symm;omega)
theorem Sf(I:SI t n s) (L:p<8) (D:(s.rn p).az=1) (h:(s.rn p).done=true\/P5 (aK t p) (s.rn p)=true):(aK t p).min<=(s.rn p).time/\(s.rn p).fst=0:=by
 have R:=I.run p L
 rcases h with h|h
 ·exact R.done D h
 ·simp only[P5,ed,ii,pA,Hn,wc]at h
  have:=R.dm
  exact⟨h.1.1.2,ado⟩
theorem abW(I:SI t n s) (L:p<8) (h:tb (lQ t r s.runs want).2.2 p=true):(aK t p).min<=(s.rn p).time/\(s.rn p).fst=0:=by
 obtain⟨k,hk,O,M⟩:=(xN t r s.runs want L).2 h
 have D:=O.2
 rw[JX,<-M,rc]at D
 have D:((s.rn p).az==1&&(((s.rn p).done&&decide (AX t r want k>=0))||(P5 (aK t p) (s.rn p)&& !fu want p)))=true:=D
 simp only[ed,na,l4]at D;refine Sf I L D.1 ?_
 rcases D.2 with h|h
 ·exact .inl h.1
 ·exact .inr h.1
theorem Ih(D:(s.rn p).az=1) (h:qq t r k=p):FC t r s.runs k=true:=by
 rw[FC,h,rc]
 have:dN (bh s.runs p)=false:=by show dN (s.rn p)=false;simp[dN,D]
 rw[this];simp
theorem agY(g:TG t n) (I:SI t n s) (want:Int) (h0:s.pre.ax=0):Oi t n s (N6 t s.rings s.runs want).2.1 (N6 t s.rings s.runs want).2.2 0 0 (N6 t s.rings s.runs want).1:=by
 have z:∀p,tb (0:Int) p=true->False:=λp h=>by rw[ef]at h;cases h
 unfold N6;split
 ·refine⟨λp _ h=>(z p h).elim,λp q _ _ h=>(z p h).elim,λp _ h=>(z p h).elim,λp _ h=>(z p h).elim,λ_ p D h=>?_⟩
  rcases h with h|h
  ·have hr:((List.range 8).all λp=>dN (bh s.runs p))=false:=List.all_eq_false.2 ⟨p,ip.2 D,by show ¬dN (s.rn p)=true;simp[dN,h.1]⟩
   have e:crE t s.rings s.runs want=s.rings:=by rw[crE,hr];rfl
   show∃k:Int,(k=0\/k=1)/\qq t (crE t s.rings s.runs want) k=p
   rw[e];exact I.ring h0 p D h.1
  ·exact(z p h).elim
 ·have keep:∀p:Nat,p<8->(s.rn p).az=1->∃k:Int,(k=0\/k=1)/\qq t (lQ t s.rings s.runs want).1 k=p:=by
   intro p D O;obtain⟨k,hk,R⟩:=I.ring h0 p D O;refine⟨k,hk,?_⟩
   have V:=Ih O R
   have aa:¬stR t s.rings s.runs want k:=λhs=>by rw[hs.1]at V;cases V
   obtain⟨Z,e2⟩:=X2 t s.rings s.runs want;rw[Sd hk,Z,(e2 k hk).2 aa,<-Sd hk,R]
  have begun:∀p:Nat,p<8->tb (lQ t s.rings s.runs want).2.1 p=true->∃k:Int,(k=0\/k=1)/\qq t (lQ t s.rings s.runs want).1 k=p:=by
   intro p D h
   obtain⟨k,hk,h1,h2⟩:=(xN t s.rings s.runs want D).1 h
   refine⟨k,hk,?_⟩;obtain⟨Z,e2⟩:=X2 t s.rings s.runs want;rw[Sd hk,Z,(e2 k hk).1 h1,h2];rfl
  split
  ·rename_i M
   simp only[abF,ed,l4]at M
   refine⟨λp D h=>J8 g D h,λp q D hq h h'=>Se g D hq h h',λp D h O=>.inl ?_,λp _ h=>(z p h).elim,λ_ p D h=>?_⟩
   ·obtain⟨k,hk,R⟩:=I.ring h0 p D O
    have V:=Ih O R
    have L:EU t s.rings s.runs want k=true:=by rcases hk with rfl|rfl;exact M.2.1;exact M.2.2.1
    simp only[EU,Co,V,R,rc,po,w5,ed]at L;exact Sf I D O (.inl L.2.2)
   ·rcases h with h|h
    ·exact keep p D h.1
    ·exact begun p D h
  ·refine⟨λp D h=>J8 g D h,λp q D hq h h'=>Se g D hq h h',λp D h _=>.inl (abW I D h),λp _ h=>(z p h).elim,λ_ p D h=>?_⟩
   rcases h with h|h
   ·exact keep p D h.1
   ·exact begun p D h
theorem abX(r:gW) (hk:k=0\/k=1) (x:Int):(r.put k x).at k=x/\(r.put k x).group=r.group/\∀j:Int,(j=0\/j=1)->j≠k->(r.put k x).at j=r.at j:=by
 rcases hk with rfl|rfl
 ·exact⟨rfl,rfl,λj D L=>by rcases D with rfl|rfl;exact absurd rfl L;rfl⟩
 ·exact⟨rfl,rfl,λj D L=>by rcases D with rfl|rfl;rfl;exact absurd rfl L⟩
theorem Oj{t:Tb} {G:Int}:∀(L:List Nat) (r:gW),(∀p∈L,(aE t p).2=true/\(aE t p).1.group=G)->L.Pairwise (λp q:Nat=>(aE t p).1.ring≠(aE t q).1.ring)->r.group=G->(∀p∈L,r.at (aE t p).1.ring<0)->
  (L.foldl (Zh t) r).group=G/\(∀p∈L,(L.foldl (Zh t) r).at (aE t p).1.ring=(aE t p).1.pos)/\∀k:Int,(k=0\/k=1)->(∀p∈L,(aE t p).1.ring≠k)->(L.foldl (Zh t) r).at k=r.at k
 |[],r,_,_,V,_=>⟨V,λp h=>(by cases h),λ_ _ _=>rfl⟩
 |p::L,r,Z,hp,V,hn=>by
  obtain⟨w1,w2⟩:=Z p adI
  have hr:=mW w1
  have hk:(aE t p).1.ring=0\/(aE t p).1.ring=1:=ado
  obtain⟨g1,g2,g3⟩:=abX r hk (aE t p).1.pos
  have e:Zh t r p=r.put (aE t p).1.ring (aE t p).1.pos:=by
   rw[Zh,w1,w2,V,IR (hn p adI)];simp
  obtain⟨R,aa⟩:=List.pairwise_cons.1 hp
  obtain⟨i1,i2,i3⟩:=Oj L (Zh t r p) (λq D=>Z q (by simp[D])) aa (by rw[e,g2,V]) (λq D=>by
   have ac:=mW (Z q (by simp[D])).1
   rw[e,g3 _ ado (λh=>R q D h.symm)]
   exact hn q (by simp[D]))
  rw[xa]
  refine⟨i1,λq D=>?_,λk O M=>?_⟩
  ·rcases nm.1 D with rfl|D
   ·rw[i3 _ hk (λq' ab h=>R q' ab h.symm),e,g1]
   ·exact i2 q D
  ·rw[i3 k O (λq D=>M q (by simp[D])),e,g3 k O (λh=>M p adI h.symm)]
theorem E2{p q:Int} (h:ee t p q=true):(aE t p).2=true/\(aE t q).2=true/\(aE t p).1.group=(aE t q).1.group/\(aE t p).1.ring≠(aE t q).1.ring:=by
 simp only[ee,ed,l4,bne_iff_ne]at h;exact⟨h.1.1.1,h.1.1.2,h.1.2,h.2⟩
theorem abY(g:TG t n) (he:Tog t n e) (hp:p<8) (h:tb e p=true):∃k:Int,(k=0\/k=1)/\qq t (Uv t e) k=p:=by
 have hm:=He hp h
 have D:∀q∈gw e,(aE t q).2=true:=λq L=>g.wh q (he.2.1 q (ni L) (uC L))
 obtain⟨O,hf⟩:∃O,(gw e).head? =some O:=by
  cases hs:gw e with
  |nil=>rw[hs]at hm;cases hm
  |cons a b=>exact⟨a,rfl⟩
 have V:O∈gw e:=List.mem_of_mem_head? hf
 have Z:Cg e=O:=by rw[Cg,hf]
 have R:∀q∈gw e,(aE t q).1.group=(aE t O).1.group:=λq L=>by
  by_cases M:q=O
  ·rw[M]
  ·exact(E2 (he.2.2 q O (ni L) (ni V) (uC L) (uC V) M)).2.2.1
 have aa:(gw e).Pairwise (λp q:Nat=>(aE t p).1.ring≠(aE t q).1.ring):=by
  refine List.Pairwise.imp_of_mem ?_ (PV e);intro a b ha hb M;exact(E2 (he.2.2 a b (ni ha) (ni hb) (uC ha) (uC hb) M)).2.2.2
 have ac:=mW (D p hm)
 have hk:(aE t p).1.ring=0\/(aE t p).1.ring=1:=ado
 obtain⟨a,b,_⟩:=Oj (gw e) ⟨(aE t O).1.group,-1,-1,false⟩ (λq L=>⟨D q L,R q L⟩) aa rfl (λq L=>by
  have ab:=mW (D q L)
  have:(aE t q).1.ring=0\/(aE t q).1.ring=1:=ado
  rcases this with h|h<;>rw[h]<;>exact(by decide:(-1:Int)<0))
 refine⟨(aE t p).1.ring,hk,?_⟩;rw[Sd hk,Uv,Z,a,b p hm,<-R p hm];exact XQ (D p hm)
theorem Sg(g:TG t n) {x:Pr} (h:0<=x.which/\x.which<(nR t:Int)):Lt t n (bn t x):=by
 rw[bn,fp h]
 have D:x.which.toNat<(t.bE.getD []).length:=by have:nR t<=(t.bE.getD []).length:=Nat.min_le_left _ _;omega
 refine g.rl.2 _ ?_;rw[NA,em,eh D];exact FS D
theorem agZ{x:Pr} (h:0<=x.which/\x.which<(nR t:Int)):exE t x.which=(bn t x).exit:=by
 have:nR t<=(t.bE.getD []).length:=Nat.min_le_left _ _
 rw[exE,fb ado,bn,fp h]
theorem LJ(g:TG t n) (he:Tog t n e) (M:p<8) (L:q<8) (V:tb e p=true) (Z:tb e q=true):tb (eA t p) q=false:=by
 cases O:tb (eA t p) q with
 |false=>rfl
 |true=>
  obtain⟨R,D⟩:=g.con p q M L O;rw[he.2.2 p q M L V Z R]at D;cases D
theorem X3(g:TG t n) (I:SI t n s) (h5:s.pre.ax=5) (Z:gC t s.pre s.runs=0):
  Oi t n s (jv t s.pre s.runs).start (jv t s.pre s.runs).fin (jv t s.pre s.runs).cut 0 (Uv t (exE t s.pre.which)):=by
 have hw:=I.pre.which (by rw[h5];decide)
 have V:=Sg g hw
 have ac:=agZ (t:=t) hw
 have R:mA s.runs (bC .i64 255 (bn t s.pre).exit)=true:=by
  unfold gC at Z;split at Z
  ·rename_i h;simp only[ed]at h;exact h.1
  ·exact absurd Z adp
 have O:∀q,q<8->tb (bn t s.pre).exit q=false->dN (s.rn q)=true:=λq M h=>nN.1 R q M (by rw[Qj M,h];rfl)
 have L:∀p,p<8->tb (jv t s.pre s.runs).start p=(tb (bn t s.pre).exit p&&dN (s.rn p)):=λp D=>by
  show tb (xz (bn t s.pre).exit λp=>dN (bh s.runs p)) p=_
  rw[H7 D];rfl
 have ab:(jv t s.pre s.runs).fin=0:=by rw[jv]
 have aa:(jv t s.pre s.runs).cut=0:=by rw[jv]
 rw[ac]
 refine⟨λp D h=>?_,λp q D M h h'=>?_,λp _ h=>?_,λp _ h=>?_,λ_ p D h=>?_⟩
 ·rw[L p D,ed]at h
  refine⟨h.2,V.exit.1.2.1 p D h.1,λq M hc=>?_⟩
  refine O q M ?_
  cases he:tb (bn t s.pre).exit q with
  |false=>rfl
  |true=>rw[LJ g V.exit.1 D M h.1 he]at hc;cases hc
 ·rw[L p D,ed]at h
  rw[L q M,ed]at h';exact LJ g V.exit.1 D M h.1 h'.1
 ·rw[ab,ef]at h;cases h
 ·rw[aa,ef]at h;cases h
 ·refine abY g V.exit.1 D ?_
  rcases h with h|h
  ·cases he:tb (bn t s.pre).exit p with
   |true=>rfl
   |false=>have:=O p D he;simp[dN,h.1]at this
  ·rw[L p D,ed]at h;exact h.1
theorem X4(g:TG t n) {x:Pr} (hw:0<=x.which/\x.which<(nR t:Int)) (h1:1<=x.ax) (h6:x.ax<6) (I:SI t n s) (V:gW):
  Oi t n s (mD t x s.runs x.ax).start (mD t x s.runs x.ax).fin (mD t x s.runs x.ax).cut x.ax V:=by
 have Z:=Sg g hw
 have z:∀p,tb (0:Int) p=true->False:=λp h=>by rw[ef]at h;cases h
 have Qq:∀e:Int,Tog t n e->Oi t n s (Hw t s.runs e) 0 0 x.ax V:=λe he=>by
  have M:∀p,p<8->tb (Hw t s.runs e) p=(tb e p&&ju t s.runs p):=λp D=>H7 D
  refine⟨λp D h=>?_,λp q D O h R=>?_,λp _ h=>(z p h).elim,λp _ h=>(z p h).elim,λh=>absurd h ado⟩
  ·rw[M p D,ed]at h
   obtain⟨a,_,b⟩:=Ig h.2;exact⟨a,he.2.1 p D h.1,b⟩
  ·rw[M p D,ed]at h
   rw[M q O,ed]at R;exact LJ g he D O h.1 R.1
 have e:x.ax=1\/x.ax=2\/x.ax=3\/x.ax=4\/x.ax=5:=ado
 rcases e with e|e|e|e|e
 ·rw[e]
  exact⟨λp _ h=>(z p h).elim,λp q _ _ h=>(z p h).elim,λp _ _ _=>.inr (.inl rfl),λp _ _=>.inl rfl,λh=>absurd h adp⟩
 ·have:=Qq _ Z.clear
  rw[e]at this⊢;exact this
 ·rw[e]
  exact⟨λp _ h=>(z p h).elim,λp q _ _ h=>(z p h).elim,λp _ _ _=>.inr (.inr rfl),λp _ _=>.inr rfl,λh=>absurd h adp⟩
 ·have:=Qq _ Z.fe.1
  rw[e]at this⊢;exact this
 ·rw[e]
  refine⟨λp _ h=>(z p h).elim,λp q _ _ h=>(z p h).elim,λp D h hc=>.inl ?_,λp _ h=>(z p h).elim,λh=>absurd h adp⟩
  have hh:tb (xz (bC .i64 255 (bn t x).exit) λp=>lvP t p (bh s.runs p)) p=true:=h
  rw[H7 D,ed]at hh
  have L:=hh.2
  simp only[lvP,ed,ii,pA,Hn,wc]at L
  have hf:=(I.run p D).dm
  exact⟨L.1.2,by have:(s.rn p).fst≠1/\(s.rn p).fst≠2:=L.2;omega⟩
theorem LK(g:TG t n) (I:SI t n s) (x:E0):X0 t (jS t s x).1/\Oi t n s (E1 t s x).start (E1 t s x).fin (E1 t s x).cut (jS t s x).1.ax (I9 t s x):=by
 obtain⟨Z,h⟩:=Cx x.lines s.runs I.pre;refine⟨Z,?_⟩
 rw[show iH t s.pre x.lines s.runs=jS t s x from rfl]at*
 rcases h with⟨L,M,D⟩|⟨L,M,D,h4⟩|⟨L,M,D⟩
 ·have O:(jS t s x).2.free=true:=by rw[L]
  rw[E1,I9,O,D];exact agY g I _ M
 ·have O:(jS t s x).2.free=false:=by rw[L];rfl
  have R:(jS t s x).2.back=true:=by rw[L];rfl
  rw[E1,I9,O,R,L,D];exact X3 g I M h4
 ·have V:=AF t (jS t s x).1 s.runs (to:=(jS t s x).1.ax) ado
  have O:(jS t s x).2.free=false:=by rw[D,V.1];simp;omega
  have R:(jS t s x).2.back=false:=by rw[D,V.2]
  rw[E1,I9,O,R]
  have:=X4 g (Z.which ado) L M I s.rings
  rw[<-D]at this;exact this
theorem lS(t:Tb) (s:bD) (x:E0) (D:p<8):(rC t s x).rn p=bG (aK t p) (s.rn p) (lp t s x p):=by
 show(oG t s (lp t s x) 8).getD p default=_
 rw[oG,em,ka,kv D];simp[D]
theorem lT(t:Tb) (s:bD) (x:E0) (D:p<8):(lp t s x p).start=tb (E1 t s x).start p/\(lp t s x p).fin=tb (E1 t s x).fin p/\(lp t s x p).cut=tb (E1 t s x).cut p:=⟨jd D,jd D,jd D⟩
theorem Ii{p:Ph} {r:Rn} {c:Cu} (h:dN r=true) (D:c.start=false):dN (bG p r c)=true:=by
 have:=((AH p r c).red h D).1
 simp[dN,this]
theorem AI(t:Tb) (D:p<8):(pW t).rn p=zy (aK t p):=by
 show((List.range 8).map λ(p:Nat)=>if p<8 then zy (aK t p)else default).getD p default=_
 rw[em,ka,kv D];simp[D]
theorem Ol:SI t n (pW t) where
 ok:=uB t
 safe:=λp q D _ _=>.inl (by rw[AI t D];rfl)
 run:=λp D=>by
  rw[AI t D]
  exact⟨by show(0:Int)<=0/\(0:Int)<=3;decide,by show(0:Int)<=0/\(0:Int)<=2;decide,λ_=>rfl,λ_=>rfl,λh=>absurd (show(0:Int)=1 from h) adp⟩
 off:=λp D _=>by rw[AI t D];rfl
 pre:=⟨by show(0:Int)<=0/\(0:Int)<6;decide,λh=>absurd rfl h,λ_=>rfl⟩
 ring:=λ_ p D h=>by rw[AI t D]at h;exact absurd (show(0:Int)=1 from h) adp
theorem Si(g:TG t n) (I:SI t n s) (x:E0):SI t n (rC t s x):=by
 obtain⟨D,o⟩:=LK g I x
 have L:∀p,p<8->dN ((rC t s x).rn p)=false->dN (s.rn p)=false\/tb (E1 t s x).start p=true:=λp D h=>by
  cases h1:dN (s.rn p)with
  |false=>exact .inl rfl
  |true=>
   cases R:tb (E1 t s x).start p with
   |true=>exact .inr rfl
   |false=>
    rw[lS t s x D,Ii h1 (by rw[(lT t s x D).1,R])]at h;cases h
 refine⟨Ic t s x,λp q D O M=>?_,λp D=>?_,λp D hn=>?_,D,λh0 p D M=>?_⟩
 ·cases h1:dN ((rC t s x).rn p)with
  |true=>exact .inl rfl
  |false=>
   cases R:dN ((rC t s x).rn q)with
   |true=>exact .inr rfl
   |false=>
    exfalso
    rcases L p D h1 with a|a<;>rcases L q O R with b|b
    ·rcases I.safe p q D O M with h|h
     ·rw[a]at h;cases h
     ·rw[b]at h;cases h
    ·have:=(o.start q O b).2.2 p D (by rw[g.sym q p O D];exact M)
     rw[a]at this;cases this
    ·have:=(o.start p D a).2.2 q O M
     rw[b]at this;cases this
    ·rw[o.two p q D O a b]at M;cases M
 ·rw[lS t s x D]
  exact abU _ (g.min D) (I.run p D)
 ·rw[lS t s x D]
  refine Ii (I.off p D hn) ?_;rw[(lT t s x D).1]
  cases R:tb (E1 t s x).start p with
  |false=>rfl
  |true=>exact absurd (o.start p D R).2.1 ado
 ·refine o.ring h0 p D ?_
  rw[lS t s x D]at M
  have Z:=AH (aK t p) (s.rn p) (lp t s x p)
  obtain⟨b1,b2,_⟩:=lT t s x D
  rcases mY (I.run p D).col with⟨e,V⟩|⟨e,V⟩|⟨e,V⟩|⟨e,V⟩
  ·right
   rw[<-b1]
   cases hs:(lp t s x p).start with
   |true=>rfl
   |false=>have:=(Z.red V hs).1;omega
  ·left
   refine⟨e,?_⟩;rw[<-b2]
   cases hs:(lp t s x p).fin with
   |false=>rfl
   |true=>have:=(Z.fin e hs).1;omega
  ·have:=(Z.dD e).2;omega
  ·have:=(Z.clear e).2;omega
end
section
open Z
def E3(D:Nat):bJ:=⟨17,[.cell 2 (some 8)],r [o 1 (w 0),o 2 (.alloc [i 0,i 0,i 0,i 0,i 0,i 0,i 0,i 0])] (r [o 3 (.alloc [i 0,i 0,i 0,i 0,i 0,i 0,i 0,i 0])] (j (r [o 6 (L 1 96),V 7 (i 0)] (u 0 (.loop (r [o 8 (bb .lss 7 (i 8))] (j (c 8 z (.exit 0)) (j (u 1 (r [M 9 7,o 10 (.FT (t 6) (t 7) 8 12 (some 12)),o 5 (.alloc bB),M 4 9,n (s 5 10 12)] (R [M 11 4,o 12 (L 5 12),o 13 (.call D [t 12]),o 14 (A 3 11 8 1),n (s 14 13 1)]))) (R [o 15 (bb .add 7 (i 1)),M 7 15]))))))) (r [o 16 (L 3 8),n (s 2 16 8)] y)))⟩
def Cy:bJ:=(⟨_,by conv=>lhs;cbv⟩:bS (cE 16 [.tmp 2] [] [0,1,12,2,20,4] 0x5109020ca61204010700ca7787e8be40aa120419502408020c0199eda2f90290481004140121745f20170400228f3303040a0120d45f2007040222030181a20)).1
end
section
variable (m:Mn) (l:List Int) (k:Nat) (t:Tb)
def X5(c:Cs):Prop:=∀i,(tb c.u9 i=true->(decide (i<8)&&(aK t i).on)=true)/\(tb c.dm i=true->(decide (i<8)&&((aK t i).on&&decide (0<(aK t i).walk)))=true)
theorem Qo(D:List Fr) (i:Nat):(runT t D (i+1)).calls=iJ t (runT t D i).calls (R5 t (runT t D i) (D.getD i default).LH) (D.getD i default).LH.push (J1 (runT t D i)) (wkS (runT t D i)):=rfl
theorem J9(t:Tb) (D:List Fr):∀i,X5 t (runT t D i).calls
 |0=>λi=>by simp[runT,pW,mb,ef]
 |i+1=>by
  rw[Qo];exact(Ib (J9 t D i)).2.2.2.2.2.2.2
theorem tnd(l:Option (List Int)):nDt (bk l)<=1000000:=lh (akF l).1 ado
theorem aln{l:List Int} (h:l.length=8) {p:Nat} (D:p<8):l[p]? =some (mz l p):=by
 have:p<l.length:=ado
 simp[mz,this]
def Mn.Ar(x:Int):Mn:={m with ticks:=m.ticks.set k x}
theorem Mn.CX{m:Mn} (h:m.Ok) (k:Nat) (x:Int):(m.Ar k x).Ok:=⟨h.last,by simp[Mn.Ar,h.ticks]⟩
theorem Mn.FF{m:Mn} (h:m.Ok) {k:Nat} (hk:k<8) (x:Int):setCells m.cells (8+k) [I x]=(m.Ar k x).cells:=by
 have:=BH (A:=m.last.map I) (B:=[]) (l:=m.ticks) (x:=x) (o:=8) (by simp[h.last]) (by rw[h.ticks];exact hk)
 simpa[Mn.cells,Mn.Ar]using this
def Ij(p:Nat):Int:=if bT .i64 (mz l p) 7==bT .i64 (mz m.last p) 7 then bt (mz m.ticks p)else 1
def Cz:Mn:=⟨l,vo (Ij m l) (λ_=>0) k⟩
def Qp:Mn:=Cz m l 8
end
section
variable (C:aT) {k:Nat} {l:List Int} {m:Mn} (f:Nat)
theorem uG(h:l.length=8) (k:Nat):(Cz m l k).Ok:=⟨h,sW _ _ _⟩
theorem X6(hk:k<8) (h:(bT .i64 (mz l k) 7==bT .i64 (mz m.last k) 7)=true):((Cz m l k).Ar k 1).Ar k (bt (mz m.ticks k))=Cz m l (k+1):=by
 simp only[Cz,Mn.Ar,List.set_set]
 have:bt (mz m.ticks k)=Ij m l k:=by simp only[Ij,h,kw]
 rw[this,oX (Ij m l) _ hk]
theorem abZ(hk:k<8) (h:(bT .i64 (mz l k) 7==bT .i64 (mz m.last k) 7)=false):(Cz m l k).Ar k 1=Cz m l (k+1):=by
 simp only[Cz,Mn.Ar]
 have:Ij m l k=1:=by simp[Ij,h]
 conv=>lhs;rw[<-this]
 rw[oX (Ij m l) _ hk]
theorem Ka(m:Mn) (l:List Int):(Cz m l 0).cells=l.map I++List.replicate 8 (I 0):=rfl
def Ik.Spec:Prop:=∀n:Int,C.c f [I n] (I (bt n)) none
def Il.Spec:Prop:=∀(t:Tb) (m:Mn) (l:List Int),Ay t m l->C.c f [.agg t.cells,.agg m.cells,.agg (l.map I)] (.dP [.agg (Qp m l).cells,I (lN t m l)]) none
theorem ag0{z A B C:List AV} (M:z.length=155) (hA:A.length=131) (hB:B.length=16) (hC:C.length=8):
  List.take 147 (List.take 131 (A++List.drop 131 z)++B++List.drop 147 (A++List.drop 131 z))++C++List.drop 155 (List.take 131 (A++List.drop 131 z)++B++List.drop 147 (A++List.drop 131 z))=A++(B++C):=by
 rw[xv hA];generalize D:List.drop 147 (A++List.drop 131 z)=Y
 have L:Y.length=8:=by rw[<-D];simp;omega
 rw[xv (by simp;omega),ml (by simp;omega),tp,List.append_assoc]
end
section
variable{P:Program} (hm:P.follows .mixedOrders=true) {f:Nat}
include hm
theorem Ik.ok(D:bK P f=some vm):Ik.Spec (Pure P) f:=by
 intro n
 have L:(if 9999<(if 0>n then 0 else n)then 9999 else(if 0>n then 0 else n))=gM n 0 9999:=by
  unfold gM;split<;>split<;>(try split)<;>omega
 refine aq hm D [] rfl ?_;try simp only[I,RX,↓KW,Nat.reduceBEq,Nat.reduceAdd,vm,Z.H]
 rw[L];rfl
theorem Il.ok{fM fF:Nat} (hc:bK P f=some (vl fM fF)) (hM:Ik.Spec (Pure P) fM) (hF:BS.Spec (Pure P) fF):Il.Spec (Pure P) f:=by
 intro t m l h
 have wt:=h.t.whole
 have wm:=Mn.whole h.m
 have wl:=EC h.l
 have lt:=h.t.len
 have lm:=Mn.len h.m
 have ll:(l.map I).length=8:=by simp[h.l]
 have ab:(l.map (AV.int .i64)).length=8:=ll
 have L:gp.length=16:=rfl
 have O:gp.drop 8=List.replicate 8 (I 0):=rfl
 have R:setCells gp 0 (Cz m l 0).cells=(Cz m l 0).cells:=aM (by rw[Mn.len (uG h.l 0)];rfl)
 rw[Ka]at R;refine aq hm hc [] rfl ?_;try simp only[I,RY,↓KW,Nat.reduceBEq,Nat.reduceAdd,vl,Z.H,wl,ll,L,O,R]
 refine⟨by simp[h.l],?_⟩
 refine aG (λk:Nat=>(⟨[(12,.dat (I k) none),(8,.ptr 11 0),(5,.ptr 6 0),(4,.ptr 5 0),(3,.ptr 4 0),(6,.ptr 7 0)],[(11,⟨(Cz m l k).cells,[]⟩),(6,⟨l.map I,[]⟩),(5,⟨m.cells,[]⟩),(4,⟨t.cells,[]⟩),(7,⟨gp,[]⟩)],[],400⟩:S)) (λk=>8-k) (λk=>k<=8) ?_ 0 ado ?_
 ·intro k hk A back
  have aa:=aC (k:=k) ado
  try simp only[I,RY,↓KW,Nat.reduceBEq,Nat.reduceAdd]
  refine aA (λh2=>?_) (λh2=>?_)<;>try simp only[RY,↓KW,Nat.reduceBEq,Nat.reduceAdd,h2]
  ·have V:k<8:=by have:=dE h2;omega
   have hx:0<=(k:Int)/\(k:Int)<(8:Nat):=ado
   have o0:=uG (m:=m) h.l k
   have s1:=Mn.FF o0 V 1
   have o1:=Mn.CX o0 k 1
   have s2:=Mn.FF o1 V (bt (mz m.ticks k))
   have e0:=Mn.len o0
   have e1:=Mn.len o1
   obtain⟨m1,m2⟩:=Mn.at h.m V
   have l1:l[k]? =some (mz l k):=aln h.l V
   try simp only[I,RY,↓KW,Nat.reduceBEq,Nat.reduceAdd,Nat.reduceLeDiff,hx,s1,e0,m1,l1]
   refine⟨ado,?_⟩
   try simp only[I,B,D,RY,↓KW,Nat.reduceBEq,Nat.reduceAdd,Nat.reduceLeDiff,Int.reduceNe,Int.reduceBEq,Int.reduceEq,reduceCtorEq,Nat.reduceMul,Int.reduceLT,Int.reduceLE,Int.reduceToNat,hx,s1,e0,e1,m1,m2,l1,mn]
   cases hq:bT .i64 (mz l k) 7==bT .i64 (mz m.last k) 7
   ·try simp only[RY,↓KW,Nat.reduceBEq,Nat.reduceAdd]
    have hn:=abZ V hq
    refine back (k+1) _ ado ado ?_
    refine ai adp ?_ ?_ ?_ ?_<;>simp[LX,I,aa,hn]
   ·try simp only[I,RY,↓KW,Nat.reduceBEq,Nat.reduceAdd,hx,m2]
    refine af (hM _) ?_
    have hn:=X6 V hq
    try simp only[I,RY,↓KW,Nat.reduceBEq,Nat.reduceAdd,Nat.reduceLeDiff,hx,e1,s2]
    refine⟨ado,back (k+1) _ ado ado ?_⟩
    refine ai adp ?_ ?_ ?_ ?_<;>simp[LX,I,aa,hn]
  ·have:k=8:=by have:=dT h2;omega
   subst this
   have o8:=uG (m:=m) h.l 8
   have wo:=Mn.whole o8
   have lo:=Mn.len o8
   have hz:setCells gp 0 (Cz m l 8).cells=(Cz m l 8).cells:=aM (by rw[lo];rfl)
   have M:List.take 147 (List.take 131 (t.cells++List.drop 131 mU)++m.cells++List.drop 147 (t.cells++List.drop 131 mU))++List.map I l++List.drop 155 (List.take 131 (t.cells++List.drop 131 mU)++m.cells++List.drop 147 (t.cells++List.drop 131 mU))=vS t m l:=ag0 (z:=mU) rfl lt lm ll
   try simp only[I,B,D,RY,↓KW,Nat.reduceBEq,Nat.reduceAdd,Nat.reduceLeDiff,Int.reduceNe,Int.reduceBEq,Int.reduceEq,reduceCtorEq,Nat.reduceMul,Int.reduceLT,Int.reduceLE,Int.reduceToNat,wt,wm,wl,lt,lm,ll,ab,L,O,R,wo,lo,hz,M,my]
   refine ep (by rfl) ?_
   try simp only[RY,↓KW,Nat.reduceBEq,Nat.reduceAdd,wt,wm,wl,lt,lm,ll,wo,M]
   refine af (hF t m l h) ?_;try simp only[I,RY,↓KW,Nat.reduceBEq,Nat.reduceAdd,L,wo,lo,hz]
   rfl
 ·refine ai adp ?_ ?_ ?_ ?_<;>simp[LX,I,Ka]
end
section
variable (C:aT) (f:Nat) (l:List Rn)
def iM(r:Rn):Int:=if r.az==1 then(if r.fst==1 then 12 else if r.fst==2 then 20 else 4)else if r.az==2 then 2 else 1
def uH:List Int:=(List.range 8).map λp=>iM (bh l p)
theorem oZ:(uH l).length=8:=by simp[uH]
theorem xO{p:Nat} (D:p<8):mz (uH l) p=iM (bh l p):=by
 rw[mz,uH,em,ka,kv D];rfl
def anz:Mn:=⟨List.replicate 8 0,List.replicate 8 0⟩
structure MI (m:Mn) (s:bD):Prop where
 ok:m.Ok
 seen:(m=anz/\∀p,p<8->(s.rn p).az=0)\/∀p,p<8->mz m.last p=iM (s.rn p)/\((s.rn p).az=2->mz m.ticks p=(s.rn p).time)
def Im.Spec:Prop:=∀r:Rn,C.c f [.agg r.cells] (I (iM r)) none
def Om.Spec:Prop:=∀l:List Rn,l.length=8->C.c f [.agg (de l)] (.agg ((uH l).map I)) none
def lU(k:Nat):List Int:=(List.range 8).map λp=>if p<k then iM (bh l p)else 0
theorem LL{k:Nat} (hk:k<8):setCells ((lU l k).map I) k [I (iM (bh l k))]=(lU l (k+1)).map I:=by
 have:k=0\/k=1\/k=2\/k=3\/k=4\/k=5\/k=6\/k=7:=ado
 rcases this with rfl|rfl|rfl|rfl|rfl|rfl|rfl|rfl<;>rfl
end
section
variable{P:Program} (hm:P.follows .mixedOrders=true) {f:Nat}
include hm
theorem Im.ok(L:bK P f=some Cy):Im.Spec (Pure P) f:=by
 intro r;refine aq hm L [] rfl ?_;try simp only[I,B,D,RX,↓KW,seval,Cy,Z.H,Rn.cells]
 repeat' (((first|refine aY ?_ ?_|refine aA ?_ ?_|refine bH ?_ ?_)<;>intro h)<;>try simp only[I,B,D,RX,↓KW,seval,Rn.cells,h])
 all_goals simp[iM, *]
theorem Om.ok{fS:Nat} (hc:bK P f=some (E3 fS)) (hS:Im.Spec (Pure P) fS):Om.Spec (Pure P) f:=by
 intro l hl
 have V:=ir hl
 have O:∀k,((lU l k).map I).length=8/\aB ((lU l k).map I) 0 (some 8)=some (.agg ((lU l k).map I)):=λk=>by
  have:(lU l k).length=8:=by simp[lU]
  exact⟨by simp[this],EC this⟩
 have R:∀k,setCells [.int .i64 0,.int .i64 0,.int .i64 0,.int .i64 0,.int .i64 0,.int .i64 0,.int .i64 0,.int .i64 0] 0 ((lU l k).map I)=(lU l k).map I:=λk=>aM (by rw[(O k).1];rfl)
 have L:=λk=>(O k).1
 have M:=λk=>(O k).2
 refine aq hm hc [] rfl ?_;try simp only[I,B,D,RY,↓KW,seval,E3,Z.H,V,L,M,R]
 refine aG (λk:Nat=>(⟨[(7,.dat (I k) none),(6,.dat (.agg (de l)) none),(2,.ptr 5 0),(3,.ptr 6 0)],[(5,⟨[.int .i64 0,.int .i64 0,.int .i64 0,.int .i64 0,.int .i64 0,.int .i64 0,.int .i64 0,.int .i64 0],[]⟩),(6,⟨(lU l k).map I,[]⟩)],[],400⟩:S)) (λk=>8-k) (λk=>k<=8) ?_ 0 ado ?_
 rotate_left
 ·refine ai adp ?_ ?_ ?_ ?_<;>simp[LX,I,B,D,lU,lj]
 intro k hk A back
 have ab:=aC (k:=k) ado
 try simp only[I,B,D,RY,↓KW,seval]
 rcases bc (decide ((k:Int)<8))with h|h
 ·have:k=8:=by have:=dT h;omega
  subst this;try simp only[I,B,D,RY,↓KW,seval,h,V,L,M,R]
  rfl
 ·have O:k<8:=by have:=dE h;omega
  have aa:aB (de l) (k*12) (some 12)=some (.agg (bh l k).cells):=jE hl O
  have hy:0<=(k:Int)/\(k:Int)<8:=ado
  have qz:setCells bB 0 (bh l k).cells=(bh l k).cells:=rfl
  have ql:bB.length=12:=rfl
  have qw:aB (bh l k).cells 0 (some 12)=some (.agg (bh l k).cells):=rfl
  have hn:=LL l O
  try simp only[I,B,D,RY,↓KW,seval,h,hy,aa,qz,ql,qw,Rn.len,V,L,M,R]
  refine af (hS _) ?_;try simp only[I,B,D,RY,↓KW,seval,hy,hn,V,L,M,R]
  refine⟨ado,back (k+1) _ ado ado ?_⟩
  refine ai adp ?_ ?_ ?_ ?_<;>simp[LX,I,B,D,ab]
end
open Go.RowKit
section
variable (P:Program) (p:Nat->Bool) (fn k:Nat)
def AJ:Nat:=((List.range k).filter p).length
theorem yO:AJ p (k+1)=if p k then AJ p k+1 else AJ p k:=by
 simp only[AJ,lj,Pl,LE,AC]
 split<;>simp
theorem LM(p:Nat->Bool) {k:Nat} (L:p k=true):∀n,k<n->((List.range n).filter p)[AJ p k]? =some k
 |n+1,h=>by
  simp only[lj,Pl]
  by_cases hk:k<n
  ·have D:=LM p L n hk
   rw[iv (eo.1 D).1,D]
  ·obtain rfl:k=n:=by omega
   rw[im (by simp[AJ])]
   simp[AJ,L]
theorem Io(s:Int) {k:Nat} (hk:k<8):(bits .and .i64 (s/2^k) 1=1)↔tb s k=true:=by
 have h:=Ll s hk
 have e:min k IntKind.i64.bits=k:=by have:IntKind.i64.bits=64:=rfl;omega
 rw[e,acR _ (by exact Int.pow_nonneg adp)]at h
 have D:bits .and .i64 (s/2^k) 1=if tb s k then 1 else 0:=h
 rw[D]
 cases tb s k<;>simp
def Oo:Prop:=∀(l L M R O b off len cap:Nat) (s:Int) (f:Nat->Nat->Int) (J:Nat->World->Prop) (D:World->Prop) (W:World) (cnt:Nat->Nat),cnt 0=0->
  (∀k,k<4->bits .and .i64 (s/2^k) 1=1->cnt (k+1)=cnt k+1)->(∀k,k<4->¬bits .and .i64 (s/2^k) 1=1->cnt (k+1)=cnt k)->len<=cap->
  W.cell? ⟨L,M+115,none⟩=some (.slice (some ⟨b,off,none⟩) len cap)->
  (∀i wr,J i wr->(∀k,k<min len 4->wr.cell? ⟨b,off+k*2,none⟩=some (.int .i64 (f k 0))/\wr.cell? ⟨b,off+k*2+1,none⟩=some (.int .i64 (f k 1)))/\wr.cell? ⟨R,O,none⟩=some (.int .i64 s))->
  (∀i wr o,J i wr->J i (wr.alloc o))->(∀wr o,D wr->D (wr.alloc o))->
  (∀n k wr,k<min len 4->bits .and .i64 (s/2^k) 1=1->J (cnt k) wr->YieldAt Fence.wide n P l #[.int .i64 k,.agg #[.int .i64 (f k 0),.int .i64 (f k 1)]] wr λe W'=>(e=.returned (.bool true)/\J (cnt k+1) W')\/(e=.returned (.bool false)/\D W'))->
  J 0 W->
  Calls P fn #[.func (.yield l) #[] #[],.pointer (some ⟨L,M,none⟩),.pointer (some ⟨R,O,none⟩)] W λe W'=>(∃v,e=.returned v)/\(J (cnt (min len 4)) W'\/D W')
def Oq:Prop:=∀(x:Option Addr) (l L D O M:Nat) (J:World->Prop) (W:World),W.cell? ⟨L,D+115,none⟩=some (.slice x 0 0)->(∀wr o,J wr->J (wr.alloc o))->J W->
  Calls P fn #[.func (.yield l) #[] #[],.pointer (some ⟨L,D,none⟩),.pointer (some ⟨O,M,none⟩)] W λe W'=>(∃v,e=.returned v)/\J W'
theorem E4(w:World) (o:Obj):Below w.heap.size w (w.alloc o):=(Below.refl _ w).alloc (ik _) o
theorem LN{w:World} {π:Nat->Nat->Prop} {k:IntKind} {n:Int} {v:Value} (h:DV w π (.int k n) v):v=.int k n:=by cases h;rfl
theorem Nq.of{P:Program} {fn:Nat} (am:bZ P fn=true) (hS:Oo P fn) (hN:Oq P fn):Nq.Spec (Pure P) fn:=by
 intro t s ht;refine⟨fn,_,rfl,am,?_,?_⟩
 ·intro x hx a ha
  obtain⟨k,_,rfl⟩:=mi.1 hx;simp only[rX,nm,List.not_mem_nil,or_false]at ha
  rcases ha with rfl|rfl<;>simp[kP,kO,Bs.cells,I]
 intro l J Jx W π vs hπ dv Z ao ag hY h0;obtain⟨ak,ac⟩:=dv
 match vs,ak with
 |[v0,v1],_=>
 have d0:=ac 0 _ _ rfl rfl
 have d1:=ac 1 _ _ rfl rfl
 cases d0 with
 |ref _ B1 o1 g1 a1 a2 a3 a4=>
 cases d1 with
 |ref _ B2 o2 g2 b1 b2 b3 b4=>
 have V:=a3 115 _ (Tb.Na ht)
 have O:=a4 115 _ (Tb.Na ht)
 have ab:=b3 0 (I s) rfl
 rw[LN (b4 0 (I s) rfl),se]at ab
 have an:π B2 o2:=by have:=b2 0 (I s) rfl;rwa[se]at this
 have aa:∀i wr o,J i wr->J i (World.alloc wr o):=λi wr o h=>ao i _ _ h (E4 _ _)
 have ad:∀wr o,Jx wr->Jx (World.alloc wr o):=λwr o h=>ag _ _ h (E4 _ _)
 generalize a8:g1 115=gv at V O
 cases M:t.l6 with
 |none=>
  rw[M]at O;cases O
  have he:jJ t s=[]:=by simp[jJ,pU,M]
  refine(hN none l B1 o1 B2 o2 (J 0) W V (λwr o=>aa 0 wr o) h0).mono ?_
  rintro e W' ⟨h1,h2⟩
  exact⟨h1,.inl (by rw[he];exact h2)⟩
 |some L=>
  rw[M]at O;generalize R:L.map Bs.cells=xs at O
  have ae:DV W π (.sl xs) gv:=by rw[<-R];exact O
  cases ae with
  |S5 a=>
   have hL:L=[]:=by simpa using R
   have he:jJ t s=[]:=by simp[jJ,pU,M,hL]
   refine(hN (some a) l B1 o1 B2 o2 (J 0) W V (λwr o=>aa 0 wr o) h0).mono ?_
   rintro e W' ⟨h1,h2⟩
   exact⟨h1,.inl (by rw[he];exact h2)⟩
  |sl _ B off cap z f c1 c2 c3 c4 c5 c6=>
  have a6:xs.length=L.length:=by rw[<-R];simp
  have D:∀k,k<L.length->xs[k]? =some (vn t k).cells:=λk hk=>by
   rw[<-R];simp[vn,M,hk]
  have hz:∀k,k<L.length->z=2:=λk hk=>(c2 k _ (D k hk)).symm
  have hcell:∀k,k<L.length->(W.cell? ⟨B,off+k*2,none⟩=some (.int .i64 (vn t k).set)/\W.cell? ⟨B,off+k*2+1,none⟩=some (.int .i64 (vn t k).lock))/\π B (off+k*2)/\π B (off+k*2+1):=λk hk=>by
   have a7:=hz k hk
   subst a7
   have e0:=c5 k 0 _ _ (D k hk) rfl
   have e1:=c5 k 1 _ _ (D k hk) rfl
   rw[LN (c6 k 0 _ _ (D k hk) rfl)]at e0;rw[LN (c6 k 1 _ _ (D k hk) rfl)]at e1;exact⟨⟨e0,e1⟩,c4 k 0 _ _ (D k hk) rfl,c4 k 1 _ _ (D k hk) rfl⟩
  have a5:pU t=min xs.length 4:=by simp[pU,M,a6]
  have au:((jJ t s).map (rX t)).length=AJ (λk=>tb s k) (min xs.length 4):=by simp[jJ,AJ,a5]
  rw[au]
  refine hS l B1 o1 B2 o2 B off xs.length cap s (λk c=>if c=0 then(vn t k).set else(vn t k).lock) J Jx W (AJ λk=>tb s k) rfl ?_ ?_ c1 V ?_ aa ad ?_ h0
  ·intro k hk hb;rw[yO,fp ((Io s ado).1 hb)]
  ·intro k hk hb;rw[yO,fb (λh=>hb ((Io s ado).2 h))]
  ·intro i wr hJ
   refine⟨λk hk=>?_,?_⟩
   ·obtain⟨⟨e0,e1⟩,p0,p1⟩:=hcell k ado
    simp only[kw,fb (show ¬(1:Nat)=0 by decide)]
    exact⟨(Z i wr hJ _ _ p0).trans e0,(Z i wr hJ _ _ p1).trans e1⟩
   ·exact(Z i wr hJ _ _ an).trans ab
  ·intro n k wr hk hb hJ
   have ar:=(Io s ado).1 hb
   have al:=LM (λk=>tb s k) ar (pU t) ado
   have hx:((jJ t s).map (rX t))[AJ (λk=>tb s k) k]? =some (rX t k):=by rw[ka,jJ,al];rfl
   exact hY n _ _ wr hx hJ
end
open Go.RowKit
section
variable (t:Tb) (b:Bx) (C:aT) (l:List Int) (P:Program) (f p:Nat) (x:Fr)
def FH(D:Nat):Prop:=∀(s p:Int) (w:World),Calls P D #[.int .i64 s,.int .i64 p] w λe w'=>e=.returned (.bool (fu s p))/\Below w.heap.size w w'
theorem FH.of{P:Program} {O:Nat} (h:mN.Spec (Pure P) O):FH P O:=by
 intro s p w
 refine((h s p).2 w (λ_ _=>False) [.int .i64 s,.int .i64 p] (λ_ _ h=>h.elim) ⟨rfl,?_⟩).mono λe w' ⟨v,π',V,R,_,_,_,M,_⟩=>?_
 ·intro i a v D L
  match i with
  |0=>simp at D L;subst D;subst L;exact .int _ _
  |1=>simp at D L;subst D;subst L;exact .int _ _
  |i+2=>simp at D
 cases M;exact⟨V,R⟩
def Sj(fn:Nat):Prop:=∀(l O M:Nat) (s:Int) (J:Nat->World->Prop) (L:World->Prop) (W:World) (cnt:Nat->Nat),cnt 0=0->
  (∀k:Nat,k<8->fu s k=true->cnt (k+1)=cnt k+1)->(∀k:Nat,k<8->fu s k=false->cnt (k+1)=cnt k)->
  (∀i wr,J i wr->wr.cell? ⟨O,M,none⟩=some (.int .i64 s))->
  (∀i wr D,J i wr->Below wr.heap.size wr D->J i D)->(∀wr D,L wr->Below wr.heap.size wr D->L D)->
  (∀(n k:Nat) wr,k<8->fu s k=true->J (cnt k) wr->YieldAt Fence.wide n P l #[.int .i64 k] wr λe W'=>(e=.returned (.bool true)/\J (cnt k+1) W')\/(e=.returned (.bool false)/\L W'))->
  J 0 W->
  Calls P fn #[.func (.yield l) #[] #[],.pointer (some ⟨O,M,none⟩)] W λe W'=>(∃v,e=.returned v)/\(J (cnt 8) W'\/L W')
theorem iY.of{P:Program} {fn:Nat} (aa:bZ P fn=true) (hS:Sj P fn):iY.Spec (Pure P) fn:=by
 intro s;refine⟨fn,_,rfl,aa,?_,?_⟩
 ·intro x R a ha
  obtain⟨k,_,rfl⟩:=mi.1 R;simp only[nm,List.not_mem_nil,or_false]at ha;subst ha;simp[kP,kO,I]
 intro l J Jx W π vs hπ dv ak ab M hY h0;obtain⟨O,ag⟩:=dv
 match vs,O with
 |[v1],_=>
 have d1:=ag 0 _ _ rfl rfl
 cases d1 with
 |ref _ B2 o2 g2 b1 b2 b3 b4=>
 have L:=b3 0 (I s) rfl
 rw[LN (b4 0 (I s) rfl),se]at L
 have ac:π B2 o2:=by have:=b2 0 (I s) rfl;rwa[se]at this
 have ad:(((List.range 8).filter λp=>tb s p).map λ(p:Nat)=>[I p]).length=AJ (λk=>tb s k) 8:=by simp[AJ]
 rw[ad]
 refine hS l B2 o2 s J Jx W (AJ λk=>tb s k) rfl ?_ ?_ ?_ (λi wr ae h D=>ab i _ _ h D) (λwr ae h D=>M _ _ h D) ?_ h0
 ·intro k hk D;rw[jd ado]at D;rw[yO,fp D]
 ·intro k hk D;rw[jd ado]at D;rw[yO,fb (by rw[D];simp)]
 ·intro i wr V
  exact(ak i wr V _ _ ac).trans L
 ·intro n k wr hk D V
  rw[jd ado]at D
  have Z:=LM (λk=>tb s k) D 8 ado
  have R:(((List.range 8).filter λp=>tb s p).map λ(p:Nat)=>[I p])[AJ (λk=>tb s k) k]? =some [I k]:=by rw[ka,Z];rfl
  exact hY n _ _ wr R V
def orF:List Int:=l.set p (AW .i64 (mz l p) 4)
def X7(s:Int):List Int:=(gw s).foldl orF l
theorem ab0:(orF l p).length=l.length:=by simp[orF]
theorem Ip:∀(L:List Nat) (l:List Int),(L.foldl orF l).length=l.length
 |[],l=>rfl
 |p::L,l=>by rw[xa,Ip L,ab0]
theorem CA{l:List Int} (h:l.length=8) (s:Int):(X7 l s).length=8:=by rw[X7,Ip,h]
theorem alo{l:List Int} (h:l.length=8) {p:Nat} (D:p<8) (v:Int):setCells (l.map I) p [I v]=(l.set p v).map I:=by
 rw[List.map_set];simp[setCells,Hd,h,D]
def LO:bD:=rC t b.st x.LH
def U3:List Int:=uH (LO t b x).runs
def zJ:List Int:=X7 (U3 t b x) x.ko
def Zj:Mn:=Qp b.cH (zJ t b x)
def Uz:Int:=if lN t b.cH (zJ t b x)==0&&Av t (LO t b x).pre then 7 else lN t b.cH (zJ t b x)
def ag1:Prop:=t.Ok/\t.Fw/\nDt t<=1000000/\b.Ok/\(b.st.iK.getD []).length<=1000000/\(x.samples.getD []).length<=1000000
def ruR:AV:=.dP [.agg (LO t b x).cells,.agg (Zj t b x).cells,.agg ((U3 t b x).map I),I (Uz t b x)]
def Ot.Spec:Prop:=∀O L D M:List AV,C.d f .gJ [O,L,D,M] [none,none,none,none] [O,L,D,M]
def Iq.Spec:Prop:=∀(t:Tb) (b:Bx) (x:Fr),ag1 t b x->C.c f [.agg t.cells,.agg b.cells,.agg x.cells] (ruR t b x) none
theorem Bx.CB{b:Bx} (h:b.Ok):aB b.cells 3 (some 117)=some (.agg b.st.cells):=gh (pre:=[I b.mode,I b.time,I b.fault]) (mid:=b.st.cells) (post:=b.cH.cells++[I b.lines,I b.tick]) (off:=3) (z:=117) rfl (bD.len h.st)
theorem Bx.X8{b:Bx} (h:b.Ok):aB b.cells 120 (some 16)=some (.agg b.cH.cells):=by
 have e:b.cells=(I b.mode::I b.time::I b.fault::b.st.cells)++(b.cH.cells++[I b.lines,I b.tick]):=rfl
 rw[e]
 exact gh (off:=120) (z:=16) (by simp[bD.len h.st]) (Bx.Xr h)
theorem bD.Ir{s:bD} (h:s.Ok):aB s.cells 106 (some 8)=some (.agg s.pre.cells):=by
 have e:s.cells=(de s.runs++(s.rings.cells++s.nG.cells))++(s.pre.cells++(s.calls.cells++[aI Ch.cells s.iK])):=by simp[bD.cells,List.append_assoc]
 rw[e]
 exact gh (off:=106) (z:=8) (by simp[dW h.runs,gW.cells,Rd.cells,h.lock]) (by simp[Pr.cells,h.held])
end
section
variable{P:Program} (hm:P.follows .mixedOrders=true) {f:Nat}
include hm
theorem Ot.ok(D:Xd P f=some rq):Ot.Spec (Pure P) f:=by
 intro R O L M
 refine NM hm D rfl (by show 4<=11;decide) rfl adI ?_
 try simp only[RX,dh,gm,XV2,↓KW,seval,rq,Z.H]
theorem Iq.ok{fR fS fL fE fM fK:Nat} (hc:Xg P f=some (vA fR fS fL fE fM fK)) (hR:Ot.Spec (Pure P) fR) (hS:H6.Spec (Pure P) fS) (hL:Om.Spec (Pure P) fL) (hE:uz.Spec (Pure P) fE) (hM:Il.Spec (Pure P) fM) (hK:Hq.Spec (Pure P) fK):Iq.Spec (Pure P) f:=by
 intro t b x ⟨ht,ag,ae,hb,ao,an⟩;refine Ht ?_
 have hl:=Tb.len ht
 have hp:=Tb.whole ht
 have bl:=Bx.len hb
 have bw:=Bx.whole hb
 have bs:aB b.cells 3 (some 117)=some (.agg b.st.cells):=Bx.CB hb
 have bm:aB b.cells 120 (some 16)=some (.agg b.cH.cells):=Bx.X8 hb
 have cS:=hS t b.st x.LH ht ag ae hb.st ao an
 have s0:(rC t b.st x.LH)=LO t b x:=rfl
 rw[s0]at cS
 have M:(LO t b x).Ok:=Ic ..
 have sl:=bD.len M
 have sw:=bD.whole M
 have sr:=bD.sX M
 have sp:aB (LO t b x).cells 106 (some 8)=some (.agg (LO t b x).pre.cells):=bD.Ir M
 have cL:=hL (LO t b x).runs M.runs
 have cK:=hK t (LO t b x).pre ht M.held
 have l8:(U3 t b x).length=8:=oZ _
 have i8:(zJ t b x).length=8:=CA l8 _
 have cM:=hM t b.cH (zJ t b x) ⟨ht.ln,hb.cH,i8⟩
 have ab:(Zj t b x).Ok:=uG i8 8
 obtain⟨ke,ck,ie⟩:=hE x.ko
 have x0:x.cells[0]? =some (aI kC x.samples):=rfl
 have x1:x.cells[1]? =some (I x.push):=rfl
 have x2:x.cells[2]? =some (I x.ask):=rfl
 have x3:x.cells[3]? =some (I x.lines):=rfl
 have x4:x.cells[4]? =some (I x.ko):=rfl
 have x5:x.LH.cells=[aI kC x.samples,.int .i64 x.push,.int .i64 x.ask,.int .i64 x.lines]:=rfl
 have x6:∀q,iI (aI kC x.samples) q=true:=by intro q;cases x.samples<;>rfl
 have x7:(aI kC x.samples).cells=[aI kC x.samples]:=by cases x.samples<;>rfl
 have x8:x.cells.length=6/\aB x.cells 0 (some 6)=some (.agg x.cells):=⟨rfl,rfl⟩
 rw[x5]at cS;generalize aI kC x.samples=smp at*
 have L:Uz t b x=if lN t b.cH (zJ t b x)==0&&Av t (LO t b x).pre then 7 else lN t b.cH (zJ t b x):=rfl
 show wj P f [] _ (.dP [.agg (LO t b x).cells,.agg (Zj t b x).cells,.agg ((U3 t b x).map I),I (Uz t b x)]) none []
 have m0:Qp b.cH (zJ t b x)=Zj t b x:=rfl
 rw[m0]at cM
 have ac:X7 (U3 t b x) x.ko=zJ t b x:=rfl
 have au:uH (LO t b x).runs=U3 t b x:=rfl
 rw[au]at cL;generalize Uz t b x=fo at*;generalize Zj t b x=m at*;generalize zJ t b x=lit at*;generalize U3 t b x=la at*;generalize LO t b x=s at*
 have z1:b9.length=117:=rfl
 have z2:setCells b9 0 s.cells=s.cells:=aM (by rw[sl];rfl)
 have z3:setCells s.cells 0 s.cells=s.cells:=aM rfl
 have z4:gp.length=16:=rfl
 have z5:(la.map I).length=8:=by simp[l8]
 have z6:setCells [.int .i64 0,.int .i64 0,.int .i64 0,.int .i64 0,.int .i64 0,.int .i64 0,.int .i64 0,.int .i64 0] 0 (la.map I)=la.map I:=aM (by rw[z5];rfl)
 have z7:aB (la.map I) 0 (some 8)=some (.agg (la.map I)):=by have:=nZ (la.map I) 0 8 (by rw[z5];decide);rw[this,kb,<-z5,io]
 have z8:setCells (la.map I) 0 (la.map I)=la.map I:=aM rfl
 have R:=dC hl (dC hp (dC bl (dC bw (dC bs (dC bm (dC sl (dC sw (dC sr (dC sp (dC x0 (dC x1 (dC x2 (dC x3 (dC x4 (dC x6 (dC x7 (dC x8 (dC z1 (dC z2 (dC z3 (dC z4 (dC z5 (dC z6 (dC z7 (z8)))))))))))))))))))))))))
 refine NN hm hc (by show 3<=59;decide) rfl adI (Xh (keep:=[]) ?_)
 try simp only[I,RY,dh,XV2,↓KW,↓dQ,seval,vA,Z.H,kr,mr,R]
 refine aN cS ?_;try simp only[RY,dh,↓KW,↓dQ,seval,R]
 refine aN cL ?_;try simp only[I,RY,dh,↓KW,↓dQ,seval,R]
 refine aN ck ?_;try simp only[I,RY,dh,seval]
 refine iW (λz:List Int=>(⟨[(32,.dat (.fn (.func ke) [] [.ref [I x.ko]]) none),(3,.ptr 4 0),(4,.ptr 5 0),(6,.ptr 7 0),(7,.ptr 8 0),(8,.ptr 9 0),(9,.ptr 10 0),(10,.ptr 32 0),(12,.nX fR [none,none,none,none] [7,8,9,10])],[(4,⟨t.cells,[]⟩),(5,⟨b.cells,[]⟩),(7,⟨s.cells,[]⟩),(8,⟨gp,[]⟩),(9,⟨la.map I,[]⟩),(10,⟨[.int .i64 0],[]⟩),(32,⟨z.map I,[]⟩)],[],400⟩:S)) (λi z=>z=((gw x.ko).take i).foldl orF la) ie rfl (iV λ_=>rfl) (λ_=>rfl) ?_ ?_ la rfl ?_
 ·rintro i y z ar he A back
  obtain⟨p,O,rfl⟩:=od ar
  have O:(gw x.ko)[i]? =some p:=O
  have hn:=mP (f:=orF) (b:=la) O
  rw[<-he]at hn
  have h8:=ni (er O)
  have aa:z.length=8:=by rw[he,Ip,l8]
  have am:0<=(p:Int)/\(p:Int)<8:=ado
  have ad:(z.map I)[p]? =some (I (mz z p)):=PZ aa h8
  have V:(z.map I).length=8:=by simp[aa]
  have ak:setCells (z.map I) p [I (AW .i64 (mz z p) 4)]=(orF z p).map I:=alo aa h8 _
  have al:p<=7:=ado
  try simp only[I,RY,dh,↓KW,seval,am,ad,V,ak,al]
  refine back (orF z p) _ hn.symm ?_
  refine ai adp ?_ ?_ ?_ ?_<;>simp[LX,I,A4]
 ·rintro z hz
  have V:z=lit:=by
   rw[hz,<-ac,X7]
   congr 1
   exact kf (by simp[gw])
  subst V
  have m1:=Mn.len ab
  have m2:=Mn.whole ab
  have m3:setCells gp 0 m.cells=m.cells:=aM (by rw[m1];rfl)
  have m4:setCells m.cells 0 m.cells=m.cells:=aM rfl
  have i1:(z.map I).length=8:=by simp[i8]
  have i2:aB (z.map I) 0 (some 8)=some (.agg (z.map I)):=by have:=nZ (z.map I) 0 8 (by rw[i1];decide);rw[this,kb,<-i1,io]
  have u1:∀v w:AV,setCells [v] 0 [w]=[w]:=λ_ _=>rfl
  have D:=dC m1 (dC m2 (dC m3 (dC m4 (dC i1 (dC i2 (dC u1 (R)))))))
  try simp only[I,RY,dh,↓KW,↓dQ,seval,D]
  refine aN cM ?_;try simp only[I,RY,dh,↓KW,seval,D]
  rcases bf (lN t b.cH z==0)with h|h
  ·simp only[h,px,il,eQ]at L
   try simp only[RY,dh,↓KW,seval,h,D]
   refine ep rfl ?_;try simp only[RY,XV2,↓KW,seval,D]
   refine LA (hR _ _ _ _) rfl rfl rfl ?_;rw[L];try simp only[RY,↓KW,seval,D]
  ·try simp only[RY,dh,↓KW,↓dQ,seval,h,D]
   refine aN cK ?_;try simp only[B,RY,dh,↓KW,seval]
   simp only[h,py]at L
   rcases bf (Av t s.pre)with h2|h2
   ·simp only[h2,il,eQ]at L
    try simp only[RY,↓KW,seval,h2]
    refine ep rfl ?_;try simp only[RY,XV2,↓KW,seval,D]
    refine LA (hR _ _ _ _) rfl rfl rfl ?_;rw[L];try simp only[RY,↓KW,seval,D]
   ·simp only[h2,kw]at L
    try simp only[RY,dh,↓KW,seval,h2,D]
    refine ep rfl ?_;try simp only[RY,XV2,↓KW,seval,D]
    refine LA (hR _ _ _ _) rfl rfl rfl ?_;rw[L];try simp only[RY,↓KW,seval,D]
 ·refine ai adp ?_ ?_ ?_ ?_<;>simp[LX,I,A4]
end
open Go.RowKit (Below)
section
variable (bx:List (Nat×bV)) (lv:List (Nat×Nat)) (b o:Nat) (res:List gu) (id e q:Nat) (r:AV) (k:Nat) (css:List (List AV)) (ids:List Nat) (l:List (Nat×Nat)) (x:bV)
def Sk(D:Option (Nat×Nat×Nat)) (args:List (Option AV)):S:=⟨cw 0 0 args,uT 0 [0,1,2,3] D (jO 0 css),CY 0 D [],4⟩
def ag2(D:Option (Nat×Nat×Nat)):Exit->S->Prop
 | .normal,s| .ret,s=>aj (eI s res) λp=>p.1=r/\ja s.boxes 0 css/\aj (Pg s.boxes s.live ([0,1,2,3].take css.length) D) λ_=>True
 |_,_=>False
theorem ab1(D:Option (Nat×Nat×Nat)) (s:S):ag2 res r css D .normal s=aj (eI s res) λp=>p.1=r/\ja s.boxes 0 css/\aj (Pg s.boxes s.live ([0,1,2,3].take css.length) D) λ_=>True:=rfl
theorem ab2(D:Option (Nat×Nat×Nat)) (s:S):ag2 res r css D .ret s=aj (eI s res) λp=>p.1=r/\ja s.boxes 0 css/\aj (Pg s.boxes s.live ([0,1,2,3].take css.length) D) λ_=>True:=rfl
theorem ab3(D:Option (Nat×Nat×Nat)) (args:List (Option AV)):Sk css D args=⟨cw 0 0 args,uT 0 [0,1,2,3] D (jO 0 css),CY 0 D [],4⟩:=rfl
theorem UA:jO k []=[]:=rfl
theorem X9(cs:List AV) (css:List (List AV)):jO k (cs::css)=(k,⟨cs,[]⟩)::jO (k+1) css:=rfl
theorem ag3(l:List (Nat×bV)):uT id ids none l=l:=rfl
theorem ag4(b o e:Nat) (ids:List Nat) (l:List (Nat×bV)):uT id (b::ids) (some (0,o,e)) l=E9 b o id l:=rfl
theorem ag5(b D o e:Nat) (ids:List Nat) (l:List (Nat×bV)):uT id (b::D::ids) (some (1,o,e)) l=E9 D o id l:=rfl
theorem ag6:E9 b o q []=[]:=rfl
theorem alp(r:List (Nat×bV)):E9 b o q ((k,x)::r)=bif b==k then(k,⟨x.cells,[(o,q)]⟩)::r else(k,x)::E9 b o q r:=rfl
theorem ag7:CY id none l=l:=rfl
theorem ag8(j o e:Nat) (l:List (Nat×Nat)):CY id (some (j,o,e)) l=(id,e)::l:=rfl
theorem ag9:Pg bx lv ids none=some none:=rfl
def tgK:Option bV->Option (Option Nat)
 |some x=>(d9 o x.tags).bind λq=>if d9 q lv=some e then some (some q)else none
 |none=>none
theorem aha:Pg bx lv (b::ids) (some (0,o,e))=tgK lv o e (cj b bx):=by
 simp only[Pg,km,Kp]
 cases cj b bx<;>rfl
theorem ahb(D o e:Nat) (ids:List Nat):Pg bx lv (b::D::ids) (some (1,o,e))=tgK lv o e (cj D bx):=by
 simp only[Pg,kp,km,Kp]
 cases cj D bx<;>rfl
theorem alq:tgK lv o e (some x)=(d9 o x.tags).bind λq=>if d9 q lv=some e then some (some q)else none:=rfl
theorem ab4:Mv none l=l:=rfl
theorem ab5:Mv (some q) l=jT q l:=rfl
theorem ab6:jT q []=[]:=rfl
end
section
variable {C:aT} {L:Option (Nat×Nat×Nat)} {as:List (Option AV)} {bx:List (Nat×bV)} {css:List (List AV)} {f id:Nat} {ids:List Nat} {k:SV->List (Nat×bV)->List (Nat×Nat)->Prop} {lv:List (Nat×Nat)} {r:AV} {x:AV->List (Nat×bV)->Prop}
theorem ahc(q m e:Nat) (r:List (Nat×Nat)):jT q ((m,e)::r)=bif q==m then jT q r else(m,e)::jT q r:=rfl
def jg:=
 dC @ab1 (dC @ab2 (dC @ab3 (dC @UA (dC @X9 (dC @ag3 (dC @ag4 (dC @ag5 (dC @ag6 (dC @alp (dC @ag7 (dC @ag8 (dC @ag9 (dC @aha (dC @ahb (dC @alq (dC @ab4 (dC @ab5 (dC @ab6 (@ahc)))))))))))))))))))
theorem d7{D:List (List AV)} (h:C.t f css none as r D L) (hk:k (.dat r none) (uT id ids L (dR ids D bx)) (CY id L lv)):@W4 C f css as ids id bx lv ⟨k,x⟩:=JP h rfl hk
theorem aJ{D:List (List AV)} {j o e b q:Nat} {y:bV} (h:C.t f css (some (j,o,e)) as r D L) (O:ids[j]? =some b) (R:cj b bx=some y) (M:d9 o y.tags=some q) (h4:d9 q lv=some e) (hk:k (.dat r none) (uT id ids L (dR ids D bx)) (CY id L (jT q lv))):@W4 C f css as ids id bx lv ⟨k,x⟩:=
 JP (qo:=some q) h (by simp[Pg,O,R,M,h4]) hk
end
section
variable{P:Program}
section
variable {L:Option (Nat×Nat×Nat)} {args:List (Option AV)} {css:List (List AV)}
theorem ahd{w:World} {π:Nat->Nat->Prop} {Bs:List Nat} {vs:List Value} {O:Value} {nt:Nat} (hn:args.length<=nt) (h4:css.length<=4) (ad:∀b o,π b o->b<w.heap.size) (am:Bs.Nodup) (a3:cY w π css Bs) (hd:gb w π args Bs vs) (aa:Ky P w π Bs (λ_=>True) O L):
  eF P nt (gV.zT w Bs (Fi L O)) w π (Sk css L args) {tmps:=vs.toArray++Array.replicate (nt-vs.toArray.size) undef,defers:=[]} w:=by
 have a7:=sH hd
 obtain⟨bd,ae⟩:=a3.get
 have hβ:∀(j B:Nat),Bs[j]? =some B->(gV.zT w Bs (Fi L O)).β j=B:=λj B hj=>by simp[gV.zT,hj]
 have M:∀b x,cj b (jO 0 css)=some x->∃B cs,b<4/\Bs[b]? =some B/\(gV.zT w Bs (Fi L O)).β b=B/\x=⟨cs,[]⟩/\rH (λ_=>O) w π B ⟨cs,[]⟩:=by
  intro b x hb;obtain⟨cs,_,V,Z⟩:=ug hb;simp only[QP]at V
  have ba:b<css.length:=(eo.1 V).1
  have hB:Bs[b]? =some Bs[b]:=eh ado
  exact⟨_,cs,ado,hB,hβ _ _ hB,Z,(ae b cs _ V hB).t5⟩
 have D:∀q e,d9 q (CY 0 L [])=some e->q=0/\∃j o,L=some (j,o,e):=by
  intro q e h
  cases L with
  |none=>cases h
  |some p=>
   obtain⟨j,o,e'⟩:=p;simp only[CY,d9]at h
   by_cases hq:q=0
   ·subst hq;simp at h;subst h;exact⟨rfl,j,o,rfl⟩
   ·have:(q==0)=false:=by simpa using hq
    simp[this]at h
 have ac:∀b x,cj b (jO 0 css)=some x->(gV.zT w Bs (Fi L O)).β b∈Bs:=λb x h=>by
  obtain⟨B,cs,h1,V,Z,_⟩:=M b x h;rw[Z];exact er V
 have R0:Rel P nt (gV.zT w Bs (Fi L O)) w π (λn=>n<4) ⟨cw 0 0 args,jO 0 css,CY 0 L [],4⟩ {tmps:=vs.toArray++Array.replicate (nt-vs.toArray.size) undef,defers:=[]} w (gV.zT w Bs (Fi L O)).β (λ_=>O) π:=by
  refine{size:=?_,slots:=?_,boxes:=?_,inj:=?_,live:=λq e h=>?_,dr:=λq q' e e' B h h' _ _=>?_,dw:=λq e b x h hb=>?_,below:=.refl _ _,gG:=ik _,eZ:=ad,eU:=λ_ _ h=>h,dz:=λ_ _ h=>.inl h,mJ:=λ_ _=>rfl,jH:=λ_ h=>h,kept:=λ_ _ _=>rfl}
  ·simp;omega
  ·intro t v hv
   obtain⟨x,_,hx,an⟩:=oS hd hv;simp only[QP]at hx
   have au:t<vs.length:=(eo.1 hx).1
   have R:(vs.toArray++Array.replicate (nt-vs.toArray.size) undef)[t]? =some x:=by
    simp[WP,au]
    simpa using(eo.1 hx).2
   rcases an with⟨a,rfl,ag⟩|⟨j,B,hB,⟨rfl,rfl⟩|⟨rfl,rfl⟩⟩
   ·exact⟨⟨x,R,(nA (U:=λn=>n<4) ag).1⟩,(nA (β:=id) (τ:=λ_=>undef) ag).2⟩
   ·refine⟨⟨_,R,?_⟩,?_⟩
    ·show Value.pointer (some ⟨B,0,none⟩)=.pointer (some ⟨(gV.zT w Bs (Fi L O)).β (0+j),0,none⟩)
     rw[lc,hβ j B hB]
    ·have:j<Bs.length:=(eo.1 hB).1
     show 0+j<4
     omega
   ·have hj:j<Bs.length:=(eo.1 hB).1
    refine⟨⟨_,R,?_⟩,λp hp=>?_⟩
    ·show Value.agg #[.pointer (some ⟨B,0,none⟩)]=.agg #[.pointer (some ⟨(gV.zT w Bs (Fi L O)).β (0+j),0,none⟩)]
     rw[lc,hβ j B hB]
    ·simp at hp;subst hp
     show j<4
     omega
  ·intro b x hb
   obtain⟨B,cs,h1,V,Z,rfl,h5⟩:=M b x hb
   exact⟨h1,.inr ⟨h1,by rw[Z];exact .inl (er V)⟩,by rw[Z];exact h5,λo q hq=>by cases hq⟩
  ·intro b b' x x' hb ao e
   obtain⟨B,_,_,V,Z,_,_⟩:=M b x hb;obtain⟨B',_,_,a6,a4,_,_⟩:=M b' x' ao;rw[Z,a4]at e;subst e;exact yq am b b' B V a6
  ·obtain⟨rfl,j,o,rfl⟩:=D q e h
   refine⟨adp,?_⟩
   obtain⟨B,ak,el,_,_,_,ar,_⟩:=aa
   rcases ar with h|⟨TB,len,cap,cu,i,hv,_,ab⟩
   ·exact .inl h
   ·exact .inr ⟨TB,len,cap,cu,i,hv,.inr (.inr ⟨rfl,by rw[hv];rfl⟩),ab⟩
  ·rw[(D q e h).1,(D q' e' h').1]
  ·intro hT
   obtain⟨rfl,j,o,rfl⟩:=D q e h;obtain⟨B,ak,el,_,_,_,_,a2⟩:=aa;exact a2 _ hT (ac b x hb)
 refine⟨ik 4,(gV.zT w Bs (Fi L O)).β,λ_=>O,π,λn=>n<4,λ_ h=>h,?_⟩
 cases L with
 |none=>exact R0
 |some p=>
  obtain⟨j,o,e⟩:=p;obtain⟨B,ak,el,hj,hB,al,_,_⟩:=aa
  have a9:j<Bs.length:=(eo.1 hj).1
  have a5:([0,1,2,3]:List Nat)[j]? =some j:=by
   have:j=0\/j=1\/j=2\/j=3:=ado
   rcases this with rfl|rfl|rfl|rfl<;>rfl
  have R1:=R0.tag (b:=j) (o:=o) (q:=0) adp (λcur' a8 h=>by
   rw[hβ j B hj,hB]at h;cases h
   exact al)
  simp only[Sk,uT,a5];exact R1
theorem Is(hm:P.follows .mixedOrders=true) {f:FuncId} {cf:bJ} {mo:Bool} (bj:qE mo P f=some cf) {D:List (List AV)} {tg:Option (Nat×Nat×Nat)} {r:AV} (hn:args.length<=cf.nt) (hl:D.length=css.length) (h4:css.length<=4) (h:aw (Pure P) cf.code (ag2 cf.res r D L) (Sk css tg args)):Vk P f css tg args r D L:=by
 obtain⟨fn,c,cc,bl,hbody,bi,a3,ec,en,a2,al⟩:=sG bj;rw[ec]at h;rw[en]at hn
 refine⟨al,hl,h4,λw π Bs vs tv ak a4 au hd be=>?_⟩
 have b0:=au.get.1
 have R:=ahd (P:=P) hn h4 ak a4 au hd be
 refine Ix.1 (EQ (n:=0) (F:=Fence.wide) bl hbody trivial (xo (oM (pL hm c cc a3 a2 _ (λ_=>False) ⟨#[],[]⟩ (λ_ h=>h.elim) none 0 w _ _ _ _ ⟨R,λl h=>by(cases h),⟨[],rfl,.nil,adI⟩,λ_ h=>h.elim⟩ h)) ?_))
 have ab:∀(s:S) (a':Act) (w':World),(aj (eI s cf.res) λp=>p.1=r/\ja s.boxes 0 D/\aj (Pg s.boxes s.live ([0,1,2,3].take D.length) L) λ_=>True)->eF P fn.ntmps (gV.zT w Bs (Fi tg tv)) w π s a' w'->
   ∃v,(results fn a'.tmps).run P w'=.ok v w'/\∃u π' M,Ending.returned v=.returned u/\yb (gV.zT w Bs (Fi tg tv)) w w'/\(∀b o,π b o->π' b o)/\(∀b o,π' b o->π b o\/w.heap.size<=b\/Fi tg tv b)/\
    (∀b o,π' b o->b<w'.heap.size)/\(∀b o,π b o->w'.cell? ⟨b,o,none⟩=w.cell? ⟨b,o,none⟩)/\cY w' π' D Bs/\DV w' π' r u/\Ky P w' π' Bs (λB=>w.heap.size<=B\/Fi tg tv B) M L:=by
  rintro s a' w' hq ⟨_,β,τ,π',U,hU,R'⟩
  obtain⟨⟨av,q⟩,hp,am,ac,ba⟩:=ah hq;obtain⟨qo,bm,_⟩:=ah ba;simp only at am ac;subst am;obtain⟨v,hv,bd,bw⟩:=uf R' bi hp
  have hβ:∀(j B:Nat),Bs[j]? =some B->β j=B:=λj B V=>by
   have:j<Bs.length:=(eo.1 V).1
   rw[R'.mJ j ado]
   simp[gV.zT,V]
  have hB:cY w' π' D Bs:=Bk (β:=β) (λb x hb=>(R'.boxes b x hb).2.2.1.t5) ado (λj B V=>by rw[lc];exact hβ j B V) ac
  have O:∀B∈Bs,∃j x,cj j s.boxes=some x/\β j=B:=λB aa=>by
   obtain⟨j,V⟩:=nf.1 aa
   have bs:j<Bs.length:=(eo.1 V).1
   obtain⟨x,hx⟩:=Dh ac (j:=j) ado
   rw[lc]at hx;exact⟨j,x,hx,hβ j B V⟩
  suffices hx:∃M,Ky P w' π' Bs (λB=>w.heap.size<=B\/Fi tg tv B) M L by
   obtain⟨M,a7⟩:=hx
   exact⟨v,hv,v,π',M,rfl,R'.below,R'.eU,λb o h=>(R'.dz b o h).imp id (λk=>k.elim .inl (λk=>k.elim (λk=>absurd h (kI hB b k o)) .inr)),R'.eZ,R'.kept,hB,bd,a7⟩
  cases L with
  |none=>exact⟨undef,trivial⟩
  |some p=>
   obtain⟨j,o,e⟩:=p;obtain⟨b,x,q',h1,h2,h3,h5,_⟩:=MH bm
   have a5:b=j/\j<D.length:=by
    have V:j<4/\j<D.length:=by
     have:=(eo.1 h1).1
     simp only[Fd,fi,ib]at this;omega
    rw[sa V.2]at h1
    have:j=0\/j=1\/j=2\/j=3:=ado
    rcases this with rfl|rfl|rfl|rfl<;>(simp at h1;exact⟨h1.symm,V.2⟩)
   obtain⟨rfl,b1⟩:=a5;obtain⟨_,bo,⟨a9,el,k1,_,_,k4,_⟩,_⟩:=R'.boxes b x h2
   refine⟨τ q',β b,a9,el,?_,k1,k4 o q' h3,?_,λTB a6 hm=>?_⟩
   ·have aa:Bs[b]? =some Bs[b]:=eh ado
    rw[hβ b _ aa,aa]
   ·have ht:=(R'.live q' e h5).2
    rcases ht with h|⟨B,len,cap,cu,i,ao,a8,ag⟩
    ·exact .inl h
    ·refine .inr ⟨B,len,cap,cu,i,ao,?_,ag⟩
     rcases a8 with h|h|h
     ·exact .inl h
     ·exfalso
      obtain⟨j',x',ae,ad⟩:=O B h
      exact R'.dw q' e j' x' h5 ae (by rw[ao,ad];rfl)
     ·exact .inr h
   ·obtain⟨j',x',ae,ad⟩:=O TB hm
    exact R'.dw q' e j' x' h5 ae (by rw[a6,ad])
 rintro e a' w' ⟨s,hq,R',_,⟨Ds,Z,an,ar⟩,_⟩
 have Z:a'.defers=Ds.map Tk:=by simpa using Z
 cases e with
 |normal=>show LeavesInM _ _ _ _ _ _ a'.defers _ _;rw[Z];exact eW (ab s a' · hq) Ds w' an ar R' (ik _)
 |ret=>show LeavesInM _ _ _ _ _ _ a'.defers _ _;rw[Z];exact eW (ab s a' · hq) Ds w' an ar R' (ik _)
 |_=>exact hq.elim
end
end
section
variable (C:aT) (e f:Nat)
def gI(L D which:Int):List AV:=[I L,I D,I which]
def uI.Spec:Prop:=∀(o:AV) (bc:List AV) (D which:Int),C.t f [[o],bc] (some (0,0,e)) [some (B false),some (I D),some (I which),none,none] (.dP []) [[o],bc] (some (0,0,e))
def uJ.Spec:Prop:=∀(bc:List AV) (tick D which:Int),bc[137]? =some (I tick)->C.t f [[.aZ],bc] none [some (B true),some (I D),some (I which),none,none] (.dP []) [[.sl [gI tick D which]],bc] (some (0,0,e))
def uK.Spec:Prop:=∀(l:List (List AV)) (bc:List AV) (tick D which:Int),bc[137]? =some (I tick)->l.length<=1000->(∀r∈l,r.length=3)->C.t f [[.sl l],bc] (some (0,0,e)) [some (B true),some (I D),some (I which),none,none] (.dP []) [[.sl (l++[gI tick D which])],bc] (some (0,0,e))
end
section
variable{P:Program} (hm:P.follows .mixedOrders=true) {f:Nat}
include hm
section
variable {e:Nat}
theorem uI.ok(M:qE true P f=some (dY e)):uI.Spec (Pure P) e f:=by
 intro o bc L which
 refine Is hm M (by show 5<=17;decide) rfl adI (yu (keep:=[]) (i:=0) ?_)
 try simp only[I,B,D,RX,jg,Kp,gs,et,kw,dh,gm,XV2,↓KW,↓dQ,seval,dY,Z.H,fi,ib,wi,ww]
theorem uJ.ok(M:qE true P f=some (dY e)):uJ.Spec (Pure P) e f:=by
 intro bc tick L which O
 have R:∀x,setCells [.aZ] 0 [x]=[x]:=λ_=>rfl
 refine Is hm M (by show 5<=17;decide) rfl adI (yu (keep:=[]) (i:=0) ?_)
 try simp only[I,B,D,RX,jg,Kp,gs,et,kw,dh,gm,XV2,↓KW,↓dQ,seval,dY,Z.H,O,R,gI,fi,ib,wi,ww]
theorem uK.ok(M:qE true P f=some (dY e)):uK.Spec (Pure P) e f:=by
 intro l bc tick L which R hl O
 have V:∀x y:AV,setCells [x] 0 [y]=[y]:=λ_ _=>rfl
 refine Is hm M (by show 5<=17;decide) rfl adI (yu (keep:=[]) (i:=0) ?_)
 try simp only[I,B,D,RX,jg,Kp,gs,et,kw,dh,gm,XV2,↓KW,↓dQ,seval,dY,Z.H,R,V,gI,fi,ib,wi,ww]
 exact⟨ado,O⟩
end
end
structure aob (t:Tb):Prop where
 lim:∀k,k<nR t->0<=(NA t k).limit
 share:0<=t.share
structure Tm where
 out:List Fm
 left:Int
 held:Nat->Int
def h4(h:Nat->Int):List AV:=[I (h 0),I (h 1),I (h 2),I (h 3)]
structure aoT (t:Tb) (i:Nat) (s:Tm):Prop where
 len:s.out.length=i
 left:0<=s.left/\s.left<=t.share
 held:∀k,0<=s.held k/\s.held k<=i
def Fr.fm(x:Fr):Fm:=⟨x.samples.map (List.map kC),x.push,x.ask,x.lines,x.ko,x.reset⟩
theorem Fr.xP(x:Fr):x.fm.cells=x.cells:=by
 obtain⟨s,p,a,l,st,r⟩:=x
 cases s with
 |none=>rfl
 |some s=>
  have:aI smR (some (s.map kC))=aI kC (some s):=by
   simp only[aI,AV.sl.injEq,acl];rfl
  simp only[Fr.fm,Fm.cells,Fr.cells,mn,this]
structure aoU (x:Fm):Prop where
 smp:(x.samples.getD []).length<=16
 ask:0<=x.ask/\x.ask<=15
 lines:0<=x.lines/\x.lines<=15
structure ScM (c:Sc):Prop where
 ask:0<=c.ask/\c.ask<=15
 lines:0<=c.lines/\c.lines<=15
end Go.Eng
