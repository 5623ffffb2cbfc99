/- Part 6 of the engine and its library. -/
import Derived.Test.YtdfplndcbbofjaaGreatPkS5
set_option linter.all false
set_option maxRecDepth 10000
set_option maxHeartbeats 4000000
namespace Go.Eng
open Go
section
variable {i:Nat} {listed:Array Bool}
theorem tB(h:listed.getD i true=false):listed.getD i false=false:=by
 rcases ix i listed.size with A|A
 ·simp[A]at h⊢;exact h
 ·simp[Ax A]at h
theorem JF(A:i<listed.size) (h:listed.getD i false=false):listed.getD i true=false:=by
 simp[A]at h⊢;exact h
def Ee(C:bk) (base:Nat) (ops:Array Oper) (cos:List CO) (K:S->Prop):Nat->Array Bool->S->Prop
 |0,l,s=>Region.ready .any ops l=[]/\K s
 |f+1,l,s=>(Region.ready .any ops l=[]->K s)/\∀i∈Region.ready .any ops l,∃o,cos[i]? =some o/\iW C (base+i) o (Ee C base ops cos K f (l.setIfInBounds i true)) s
def UL(base:Nat) (l:Array Bool):Nat->Prop:=λn=>n<base\/∃i,n=base+i/\l.getD i false=true
end
section
variable{C:bk} {base:Nat} {ops:Array Oper} {cos:List CO} {K:S->Prop}
section
variable {i:Nat} {l:Array Bool}
theorem AJ(hK:∀s s2,qQ s s2->K s->K s2):∀(f:Nat) (l:Array Bool) (s s2:S),qQ s s2->Ee C base ops cos K f l s->Ee C base ops cos K f l s2
 |0,l,s,s2,A,h=>⟨h.1,hK _ _ A h.2⟩
 |f+1,l,s,s2,A,h=>⟨λD=>hK _ _ A (h.1 D),λi M=>by
   obtain⟨o,B,L⟩:=h.2 i M;refine⟨o,B,?_⟩;obtain⟨v,d,hd,hk,_⟩:=eK L
   exact hd.2 s2 A.agr _ (AJ hK f _ _ _ ((A.app d _).put _ _) hk)⟩
theorem AK(h:l.getD i true=false):¬UL base l (base+i):=by
 rintro(B|⟨k,hk,A⟩)
 ·omega
 ·have:k=i:=ST
  subst this;rw[tB h]at A;cases A
theorem Ef(B:i<l.size) {n:Nat} (h:dZ (UL base l) (base+i) n):UL base (l.setIfInBounds i true) n:=by
 rcases h with(h|⟨k,hk,A⟩)|h
 ·exact .inl h
 ·exact .inr ⟨k,hk,getD_set_true A⟩
 ·exact .inr ⟨i,h,by simp[B]⟩
theorem ko{D:Region.Mode} (h:i∈Region.ready D ops l):i<l.size:=by
 have B:=(yn.1 h).1
 rcases ix i l.size with A|A
 ·exact A
 ·simp[Ax A]at B
def rG(ops:Array Oper) (l:Array Bool):Prop:=∀k ok,ops[k]? =some ok->l.getD k false=true->∀e∈ok.after,Region.binds .any e=true->l.getD e.on false=true
theorem rG.set(h:rG ops l) (V:i∈Region.ready .any ops l):rG ops (l.setIfInBounds i true):=by
 obtain⟨_,R,D,B⟩:=yn.1 V;intro k ok hk M e L O
 by_cases A:i=k
 ·subst A
  have:ok=R:=vx (hk.symm.trans D)
  subst this;exact getD_set_true (B e L O)
 ·rw[getD_set_ne false A]at M
  exact getD_set_true (h k ok hk M e L O)
theorem K5(hc:rG ops l) {j:Nat} (hi:l.getD i true=false) (hj:j∈Region.ready .any ops l) {R:Oper} (aa:ops[j]? =some R):
  R.after.any (λe=>Region.binds .any e&&e.on==i)=false/\waits ops.toList i R=false:=by
 obtain⟨_,ac,O,A⟩:=yn.1 hj
 have:ac=R:=vx (O.symm.trans aa)
 subst this
 have L:=tB hi
 constructor
 ·rw[EQ]
  intro h;obtain⟨e,Z,B⟩:=NE.1 h;simp only[dT,lc]at B
  have:=A e Z B.1
  rw[B.2,L]at this;cases this
 ·rw[EQ]
  intro h;obtain⟨e,Z,B⟩:=NE.1 h;simp only[dT,ml,lc]at B
  have V:=A e Z B.1
  rcases B.2 with M|M
  ·rw[M,L]at V;cases V
  ·split at M
   ·rename_i ok ad
    obtain⟨e',ab,D⟩:=NE.1 M;simp only[dT,lc]at D
    have h3:=hc e.on ok (by simpa using ad) V e' ab D.1
    rw[D.2,L]at h3;cases h3
   ·cases M
end
end
section
variable {T:List (Nat×Tag)} {s:S} {x y:CO}
def o9(T:List (Nat×Tag)) (s:S):Prop:=∀t b,Fq b s t->(look T t).CF b=true
theorem yU{C:bk} {id:Nat} {o:CO} {v:SV} {d:Delta} (hd:H9 C id o s v d) (B:o3 T id o=true) (hR:o9 T s):o9 T ((d.app' id s).put o.dst v):=by
 rintro t b ⟨u0,A,D⟩
 rw[o7]at A;split at A
 ·rename_i e
  cases A;unfold o3 at B;rw[e]at B;simp only at B
  cases hz:look T t with
  |none=>rfl
  |some z=>
   rw[hz]at B;simp only at B
   rcases hd.1.2 b D with⟨rfl,R⟩|⟨u,hu,Z⟩
   ·rw[gc R]at B
    simpa[Tag.CF]using B
   ·have V:¬o.op.MF=true:=λR=>by
     revert hu R;cases o.op<;>simp[bE.rj,bE.MF]
    rw[fx V]at B
    have h1:=mf.1 B u hu
    have L:=hR u b Z
    cases M:look T u with
    |none=>rw[M]at h1;cases h1
    |some z'=>
     rw[M]at h1 L;simp only[ml,lc]at h1;simp only[Tag.CF,lc]at L⊢
     rcases h1 with h1|h1
     ·rw[h1]at L;cases L
     ·rw[<-h1];exact L
 ·rw[o8]at A
  cases O:lk t s.slots with
  |none=>rw[O]at A;cases A
  |some w=>
   rw[O]at A;simp only[mi,gg]at A
   rcases kn d w with h|⟨b',v',_,_,_,h,hf,_⟩
   ·rw[h]at A;subst A;exact hR t b ⟨_,O,D⟩
   ·rw[h]at A;subst A;exact absurd D (hf.2 _)
theorem M4{z A:Tag} {b:Nat} (h:z.dis A=true) (D:z.CF b=true) (B:A.CF b=true):False:=by
 cases z with
 |none=>cases A with
  |none=>cases h
  |some A=>cases A with
   |none=>simp[Tag.CF]at B
   |some L=>cases h
 |some z=>cases z with
  |none=>simp[Tag.CF]at D
  |some a=>cases A with
   |none=>cases h
   |some A=>cases A with
    |none=>simp[Tag.CF]at B
    |some L=>
     simp[Tag.CF]at D B;subst D;subst B;simp[Tag.dis]at h
theorem FM(h:x.half T y=true) (hR:o9 T s):Clear x y s:=by
 rintro b ⟨t,ht,L⟩
 have h:=mf.1 h t ht
 simp only[dT,ml,pA]at h
 refine⟨λu D A=>?_,λM u D A=>?_⟩
 ·exact M4 (mf.1 h.1 u D) (hR t b L) (hR u b A)
 ·rcases h.2 with B|B
  ·rw[M]at B;cases B
  ·exact M4 (mf.1 B u D) (hR t b L) (hR u b A)
theorem Dc(h:x.half [] y=true):x.half T y=true:=by
 unfold CO.half at h⊢;rw[mf]at h⊢;intro t ht
 have h:=h t ht
 simp only[dT,ml,mf]at h⊢
 refine⟨λu A=>?_,h.2.imp id λB u A=>?_⟩
 ·have:=h.1 u A;cases this
 ·have:=B u A;cases this
theorem Ib(h:x.apart y=true):x.rm T y=true:=by
 unfold CO.apart CO.rm at*;simp only[dT]at h⊢;exact⟨⟨h.1.1,Dc h.1.2⟩,Dc h.2⟩
theorem AL{T:List (Nat×Tag)} {ops:List CO} {i j:Nat} {x y:CO} (B:ops[i]? =some x) (A:ops[j]? =some y):∀{cJ:List (Nat×Nat)},yM T ops cJ=true->cJ.contains (i,j)=true->x.rm T y=true
 |[],_,h=>by cases h
 |(k,l)::r,h,hm=>by
  simp only[yM,dT]at h;rw[List.contains_cons,ml]at hm
  rcases hm with hm|hm
  ·have e:(i,j)=(k,l):=by simpa using hm
   cases e
   have:=h.1
   rw[B,A]at this;exact this
  ·exact AL B A h.2 hm
theorem pn{T:List (Nat×Tag)} {base:Nat}:∀{l:List CO} {i:Nat},lK T base i l=true->∀(k:Nat) (o:CO),l[k]? =some o->o3 T (base+(i+k)) o=true
 |[],i,h,k,o,hk=>by simp at hk
 |a::l,i,h,k,o,hk=>by
  simp only[lK,dT]at h
  cases k with
  |zero=>simp at hk;subst hk;exact h.1
  |succ k=>
   have:=pn h.2 k o (by simpa using hk)
   rw[show i+(k+1)=i+1+k by omega];exact this
theorem yV{base:Nat}:∀{l:List CO} {i:Nat},lK [] base i l=true
 |[],i=>rfl
 |a::l,i=>by
  simp only[lK,dT];refine⟨?_,yV⟩;unfold o3
  split<;>rfl
theorem pz{T:List (Nat×Tag)}:∀{sl:List (Nat×SV)},j6 T sl=true->∀t b v,lk t sl=some v->v.has b->(look T t).CF b=true
 |[],_,t,b,v,B,_=>by cases B
 |(m,u)::r,h,t,b,v,B,A=>by
  simp only[lk,jh]at B;split at B
  ·rename_i e
   cases B;subst e
   cases u<;>try(exact A.elim)
   ·have A:_=b:=A
    subst A;simp only[j6,dT]at h;exact h.1
   ·have A:_=b:=A
    subst A;simp only[j6,dT]at h;exact h.1
   ·simp only[j6,dT]at h
    obtain⟨p,D,rfl⟩:=A;exact mf.1 h.1 p D
  ·refine pz (sl:=r) ?_ t b v B A
   cases u<;>first|exact h|(simp only[j6,dT]at h;exact h.2)
end
section
variable{C:bk} {base:Nat} {ops:Array Oper} {cos:List CO} {K:S->Prop} {T:List (Nat×Tag)}
theorem Ic(hT:∀k ok,cos[k]? =some ok->o3 T (base+k) ok=true) (hK:∀s s2,qQ s s2->K s->K s2) (ba:cos.length=ops.size) {i:Nat} {oi:CO} (hi:cos[i]? =some oi):
  ∀(f:Nat) (l:Array Bool) (s:S),
   (∀j pj L,ops[j]? =some pj->cos[j]? =some L->j≠i->l.getD j true=false->pj.after.any (λe=>Region.binds .any e&&e.on==i)=false->waits ops.toList i pj=false->oi.rm T L=true)->
   rG ops l->i∈Region.ready .any ops l->s.fJ (UL base l)->o9 T s->iW C (base+i) oi (Ee C base ops cos K f (l.setIfInBounds i true)) s->Ee C base ops cos K (f+1) l s:=by
 intro f
 induction f with
 |zero=>
  intro l s _ _ V hU hR H
  refine⟨λh=>(by rw[h]at V;cases V),λj M=>?_⟩
  by_cases A:j=i
  ·subst A;exact⟨oi,hi,H⟩
  ·obtain⟨v,d,hd,hk,_⟩:=eK H
   have:=ready_mono M A
   rw[hk.1]at this;cases this
 |succ f ih=>
  intro l s hfree ak V hU hR H
  refine⟨λh=>(by rw[h]at V;cases V),λj M=>?_⟩
  by_cases A:j=i
  ·subst A;exact⟨oi,hi,H⟩
  ·obtain⟨vi,di,ag,au,bd⟩:=eK H
   obtain⟨L,Z,a9⟩:=au.2 j (ready_mono M A)
   obtain⟨vj,dj,ab,a5,be⟩:=eK a9
   have D:=(yn.1 M).1
   have R:=(yn.1 V).1
   obtain⟨pj,ad,_⟩:=(yn.1 M).2
   obtain⟨w1,w2⟩:=K5 ak R M ad
   have B:=hfree j pj L ad Z A D w1 w2
   unfold CO.rm at B;simp only[dT]at B
   obtain⟨a1,a2,a3⟩:=Qi B.1.1 hU (AK R) (AK D) ST (FM B.1.2 hR) (FM B.2 hR) ag ab
   -- the state behind j
   have O:iW C (base+j) L (λs3=>s3=(dj.app' (base+j) s).put L.dst vj) s:=ab.2 s a1 _ rfl
   have al:((dj.app' (base+j) s).put L.dst vj).fJ (UL base (l.setIfInBounds j true)):=by
    obtain⟨v',d',_,aa,a7⟩:=eK O
    have:=a7 _ hU
    rw[aa]at this
    exact zX (λn hn=>Ef (ko M) hn) this
   have am:o9 T ((dj.app' (base+j) s).put L.dst vj):=by
    obtain⟨v',d',a8,aa,_⟩:=eK O
    have:=yU a8 (hT j L Z) hR
    rw[aa]at this;exact this
   refine⟨L,Z,ab.2 s a1 _ ?_⟩;refine ih (l.setIfInBounds j true) _ ?_ (ak.set M) (ready_mono V (Ne.symm A)) al am ?_
   ·intro k pk ok a4 a6 ao ae ar an
    refine hfree k pk ok a4 a6 ao ?_ ar an
    by_cases ac:j=k
    ·subst ac;exact D
    ·rw[getD_set_ne true ac]at ae;exact ae
   ·refine ag.2 _ a2 _ ?_
    rw[Array.setIfInBounds_comm _ _ A];exact AJ hK f _ _ _ a3 a5
end
section
variable {A:CO} {C:bk} {id:Nat} {s:S} {x:CO}
theorem vY{cJ:List (Nat×Nat)} {ops:List Oper} {i:Nat} {x:CO}:∀{os:List Oper} {M:List CO} {k:Nat},m9 cJ ops i x k os M=true->∀(j:Nat) (A:Oper) (L:CO),os[j]? =some A->M[j]? =some L->i<k+j->
  A.after.any (λe=>Region.binds .any e&&e.on==i)=true\/x.apart L=true\/waits ops i A=true\/cJ.contains (i,k+j)=true
 |[],M,k,h,j,A,L,D,B,O=>by simp at D
 |o::os,[],k,h,j,A,L,D,B,O=>by simp at B
 |o::os,y::M,k,h,j,A,L,D,B,O=>by
  simp only[m9,dT,ml,gn]at h
  cases j with
  |zero=>
   simp at D B;subst D;subst B
   rcases h.1 with(((h|h)|h)|h)|h
   ·omega
   ·exact .inl h
   ·exact .inr (.inl h)
   ·exact .inr (.inr (.inl h))
   ·exact .inr (.inr (.inr h))
  |succ j=>
   have:=vY h.2 j A L (by simpa using D) (by simpa using B) ST
   rw[show k+1+j=k+(j+1)by omega]at this
   exact this
theorem j7{cJ:List (Nat×Nat)} {ops:List Oper} {cos:List CO}:∀{os:List Oper} {D:List CO} {k:Nat},l7 cJ ops cos k os D=true->∀(i:Nat) (R:Oper) (O:CO),os[i]? =some R->D[i]? =some O->
  (∀e∈R.after,Region.binds .any e=true->e.on<k+i)/\m9 cJ ops (k+i) O 0 ops cos=true
 |[],D,k,h,j,L,M,B,A=>by simp at B
 |o::os,[],k,h,j,L,M,B,A=>by simp at A
 |o::os,y::D,k,h,j,L,M,B,A=>by
  simp only[l7,dT]at h
  cases j with
  |zero=>
   simp at B A;subst B;subst A
   refine⟨λe V Z=>?_,h.1.2⟩
   have:=Array.all_eq_true_iff_forall_mem.1 h.1.1 e V
   simpa[Z]using this
  |succ j=>
   have:=j7 h.2 j L M (by simpa using B) (by simpa using A)
   rw[show k+1+j=k+(j+1)by omega]at this
   exact this
def Ro(x A:CO):Prop:=A=x\/A=x.ro
theorem Ro.dst{x A:CO} (h:Ro x A):A.dst=x.dst:=by rcases h with rfl|rfl<;>rfl
theorem Ro.rd{x A:CO} (h:Ro x A):A.rd=x.rd:=by
 rcases h with rfl|rfl
 ·rfl
 ·cases x with|mk d o g=>cases o<;>rfl
theorem Ro.t5{x A:CO} (h:Ro x A):A.op.t5=x.op.t5:=by
 rcases h with rfl|rfl
 ·rfl
 ·cases x with|mk d o g=>cases o<;>rfl
theorem Ro.app(h:Ro x A):A.op.isApp=x.op.isApp:=by
 rcases h with rfl|rfl
 ·rfl
 ·cases x with|mk d o g=>cases o<;>rfl
theorem Ro.Ec(h:Ro x A):A.op.yL=x.op.yL:=by
 rcases h with rfl|rfl
 ·rfl
 ·cases x with|mk d o g=>cases o<;>rfl
theorem Ro.Jr{x A:CO} (h:Ro x A):A.op.Jr=x.op.Jr\/A.op.Jr=[]:=by
 rcases h with rfl|rfl
 ·exact .inl rfl
 ·cases x with|mk d o g=>cases o<;>first|exact .inl rfl|exact .inr rfl
theorem Ro.indep{x D y L:CO} (B:Ro x D) (A:Ro y L):D.indep L=x.indep y:=by
 simp only[CO.indep,B.dst,A.dst,B.rd,A.rd,B.app,A.app]
theorem Ro.half{T:List (Nat×Tag)} {x A y L:CO} (D:Ro x A) (B:Ro y L) (h:x.half T y=true):A.half T L=true:=by
 simp only[CO.half,B.t5,B.rd,D.Ec]at h⊢
 rcases D.Jr with e|e
 ·rw[e];exact h
 ·rw[e];rfl
theorem Ro.apart{x D y L:CO} (B:Ro x D) (A:Ro y L) (h:x.apart y=true):D.apart L=true:=by
 simp only[CO.apart,CO.rm,dT]at h⊢
 exact⟨⟨by rw[B.indep A];exact h.1.1,B.half A h.1.2⟩,A.half B h.2⟩
theorem JG{ro:List Nat}:∀{l:List CO} {k i:Nat} {A:CO},(mV ro k l)[i]? =some A->∃c,l[i]? =some c/\Ro c A
 |[],k,i,A,h=>by simp[mV]at h
 |o::l,k,0,A,h=>by
  simp only[mV,kr,gg]at h;refine⟨o,rfl,?_⟩
  cases hk:ro.contains k with
  |true=>rw[hk]at h;exact .inr h.symm
  |false=>rw[hk]at h;exact .inl h.symm
 |o::l,k,i+1,A,h=>by
  simp only[mV,kx]at h⊢;exact JG h
theorem Eg{ro:List Nat}:∀{l:List CO} {k:Nat},(mV ro k l).length=l.length
 |[],k=>rfl
 |o::l,k=>by simp only[mV,fl,Eg]
theorem FN{ro:List Nat}:∀{l:List CO} {k:Nat},dstsOf (mV ro k l)=dstsOf l
 |[],k=>rfl
 |o::l,k=>by
  simp only[mV,dstsOf,FN]
  cases ro.contains k<;>rfl
theorem JH{n:Nat} {ro:List Nat}:∀{l:List CO} {k:Nat},gA n (mV ro k l)=gA n l
 |[],k=>rfl
 |o::l,k=>by
  simp only[mV,gA,JH]
  cases ro.contains k<;>rfl
theorem Ro.of(ro:List Nat) (k:Nat) (o:CO):Ro o (bif ro.contains k then o.ro else o):=by
 cases ro.contains k
 ·exact .inl rfl
 ·exact .inr rfl
theorem AM{cJ:List (Nat×Nat)} {ops:List Oper} {i:Nat} {x B:CO} (D:Ro x B) {ro:List Nat}:∀{os:List Oper} {A:List CO} {k m:Nat},m9 cJ ops i x k os A=true->m9 cJ ops i B k os (mV ro m A)=true
 |[],A,k,m,h=>rfl
 |o::os,[],k,m,h=>rfl
 |o::os,y::A,k,m,h=>by
  simp only[mV,m9,dT,ml,gn]at h⊢;refine⟨?_,AM D h.2⟩
  rcases h.1 with(((h|h)|h)|h)|h
  ·exact .inl (.inl (.inl (.inl h)))
  ·exact .inl (.inl (.inl (.inr h)))
  ·exact .inl (.inl (.inr (D.apart (.of ro m y) h)))
  ·exact .inl (.inr h)
  ·exact .inr h
theorem yW{cJ:List (Nat×Nat)} {ops:List Oper} {cos:List CO} {ro:List Nat} {m:Nat}:∀{os:List Oper} {A:List CO} {k:Nat},l7 cJ ops cos k os A=true->l7 cJ ops (mV ro m cos) k os (mV ro k A)=true
 |[],A,k,h=>rfl
 |o::os,[],k,h=>rfl
 |o::os,y::A,k,h=>by
  simp only[mV,l7,dT]at h⊢;exact⟨⟨h.1.1,AM (.of ro k y) h.1.2⟩,yW h.2⟩
theorem K6{cJ:List (Nat×Nat)} {ops:List Oper} {cos:List CO} {ro:List Nat} (h:jP cJ ops cos=true):jP cJ ops (mV ro 0 cos)=true:=yW h
theorem vZ{l A:List (Nat×cI)} (h:∀b,b9 b A=b9 b l):∀{ids:List Nat},dU A ids=dU l ids
 |[]=>rfl
 |b::B=>by simp only[dU,h b,vZ h (ids:=B)]
theorem AN{l:List (Nat×cI)}:∀{ids:List Nat} {css:List (List AV)},dU l ids=some css->aV l ids=some css
 |[],css,h=>h
 |b::L,css,h=>by
  simp only[dU]at h
  split at h<;>try(cases h;done)
  rename_i cs A B D;cases h;simp only[aV,B,AN D]
theorem uT:∀{ids:List Nat} {css:List (List AV)} {l:List (Nat×cI)},dU l ids=some css->∀b,b9 b (dJ ids css l)=b9 b l
 |[],css,l,h,b=>rfl
 |i::L,css,l,h,b=>by
  simp only[dU]at h
  split at h<;>try(cases h;done)
  rename_i cs A B D;cases h
  have e:∀n,b9 n (nK i ⟨cs,[]⟩ l)=b9 n l:=λn=>by
   rw[gS];split
   ·rename_i e;subst e;rw[B];rfl
   ·rfl
  rw[dJ,uT (by rw[vZ e];exact D),e]
theorem Ue{o:bE} {K:SV->S->Prop} (h:bB C id o.ro K s):bB C id o (λv M=>∃D,qQ M D/\K v D) s:=by
 have same:bB C id o K s->bB C id o (λv M=>∃D,qQ M D/\K v D) s:=λh=>by
  obtain⟨v,d,hK,_,_,_,V⟩:=vX h;exact V s .refl _ ⟨_,.refl,hK⟩
 cases o<;>try(exact same h)
 case dD f args=>
  obtain⟨p,L,B,h⟩:=af (h:aj _ _)
  obtain⟨css,A,r,O,hK⟩:=af h;simp only[bB,L,AN A,aB]
  exact⟨B,r,none,css,O,s,⟨λ_=>rfl,λb=>(uT A b).symm,λ_=>rfl⟩,hK⟩
 case fQ g args=>
  obtain⟨a,R,h⟩:=af (h:aj _ _)
  cases a<;>try(exact h.elim)
  rename_i fn first caps
  cases fn<;>try(exact h.elim)
  rename_i f
  cases first<;>try(exact h.elim)
  cases caps<;>try(exact h.elim)
  obtain⟨p,L,B,h⟩:=af h;obtain⟨css,A,r,O,hK⟩:=af h;simp only[bB,R,L,AN A,aB]
  exact⟨B,r,none,css,O,s,⟨λ_=>rfl,λb=>(uT A b).symm,λ_=>rfl⟩,hK⟩
theorem M5{c L:CO} (O:Ro c L) {K:S->Prop} (h:iW C id L K s):iW C id c (λB=>∃A,qQ B A/\K A) s:=by
 rcases O with rfl|rfl
 ·obtain⟨v,d,hd,hK,_⟩:=eK h
  exact hd.2 s .refl _ ⟨_,.refl,hK⟩
 ·have run:bB C id c.op.ro (λv B=>K (B.put c.dst v)) s->bB C id c.op (λv B=>∃A,qQ (B.put c.dst v) A/\K A) s:=λh=>by
   have:=Ue h
   obtain⟨v,d,⟨A,M,hK⟩,_,_,_,R⟩:=vX this;exact R s .refl _ ⟨_,M.put _ _,hK⟩
  cases c with
  |mk dst op g=>
   have h:fm s g (bB C id op.ro (λv B=>K (B.put dst v)) s) (K (s.put dst .undef)):=h
   show fm s g (bB C id op (λv B=>∃A,qQ (B.put dst v) A/\K A) s) (∃A,qQ (s.put dst .undef) A/\K A)
   unfold fm at h⊢
   cases g with
   |none=>exact run h
   |some p=>
    obtain⟨t,want⟩:=p;simp only at h⊢
    cases D:lk t s.slots with
    |none=>simp[D]at h
    |some v=>
     simp only[D]at h
     cases v with
     |ptr b o=>exact h.elim
     |rp cs=>exact h.elim
     |vs _ _ _ _=>exact h.elim
     |tW _ _ _=>exact h.elim
     |raw _ _=>exact h.elim
     |pt _ _=>exact h.elim
     |undef=>exact⟨_,.refl,h⟩
     |dat a q=>
      cases a<;>try(exact h.elim)
      exact⟨λe=>run (h.1 e),λe=>⟨_,.refl,h.2 e⟩⟩
end
section
variable{C:bk} {base:Nat} {ops:Array Oper} {cos:List CO} {K:S->Prop}
theorem rH{T:List (Nat×Tag)} {cJ:List (Nat×Nat)} (hT:∀k ok,cos[k]? =some ok->o3 T (base+k) ok=true) (V:yM T cos cJ=true) (hK:∀s s2,qQ s s2->K s->K s2) (B:cos.length=ops.size) (aa:jP cJ ops.toList cos=true):
  ∀(rest:List CO) (i:Nat) (l:Array Bool) (s:S),cos.drop i=rest->i+rest.length=ops.size->l.size=ops.size->(∀j,j<ops.size->l.getD j false=decide (j<i))->
   s.fJ (UL base l)->o9 T s->jb C base i rest K s->Ee C base ops cos K rest.length l s
 |[],i,l,s,hd,hn,hl,A,hU,hR,h=>by
  refine⟨?_,h⟩;rw[List.eq_nil_iff_forall_not_mem];intro j hj
  have h1:=(yn.1 hj).1
  have h2:=ko hj
  have h3:=A j ST
  rw[tB h1]at h3;simp at hn h3;omega
 |o::rest,i,l,s,hd,hn,hl,A,hU,hR,h=>by
  have R:cos[i]? =some o:=by
   have:(cos.drop i)[0]? =some o:=by rw[hd];rfl
   simpa using this
  have D:i<ops.size:=by simp at hn;omega
  have ae:ops[i]? =some ops[i]:=by simp[D]
  obtain⟨L,Z⟩:=j7 aa i ops[i] o (by simpa using ae) R
  simp only[la]at L Z
  have a4:l.getD i true=false:=by
   have:=A i D
   simp at this
   exact JF ST (by simpa using this)
  have a9:rG ops l:=by
   intro k ok hk am e he hb
   have ab:k<ops.size:=(kd.1 hk).1
   rw[A k ab]at am;simp at am
   obtain⟨a8,au⟩:∃x,cos[k]? =some x:=⟨cos[k]' ST,by simp[B,ab]⟩
   have:=(j7 aa k ok a8 (by simpa using hk) au).1 e he hb
   rw[A e.on ST]
   simp;omega
  have hr:i∈Region.ready .any ops l:=by
   rw[yn]
   refine⟨a4,ops[i],ae,λe he hb=>?_⟩
   have:=L e he hb
   rw[A e.on ST]
   simpa using this
  refine Ic hT hK B R rest.length l s ?_ a9 hr hU hR ?_
  ·intro j pj oj al ag ba ar a5 a3
   have a7:j<ops.size:=(kd.1 al).1
   have ao:=A j a7
   rw[tB ar]at ao;simp at ao
   have O:i<0+j:=ST
   rcases vY Z j pj oj (by simpa using al) ag O with h|h|h|h
   ·rw[a5]at h;cases h
   ·exact Ib h
   ·rw[a3]at h;cases h
   ·rw[la]at h;exact AL R ag V h
  ·rw[oo]at h
   obtain⟨v,d,M,ad,a6⟩:=eK h
   have an:=a6 _ hU
   have ak:=yU M (hT i o R) hR
   refine M.2 s .refl _ ?_;generalize(d.app' (base+i) s).put o.dst v=s' at ad an ak
   have a2:(l.setIfInBounds i true).size=ops.size:=by simp[hl]
   refine rH hT V hK B aa rest (i+1) _ s' ?_ (by simp at hn⊢;omega) a2 (λj hj=>?_) (zX (λn hn=>Ef ST hn) an) ak ad
   ·rw[<-List.tail_drop,hd];rfl
   ·by_cases O:i=j
    ·subst O;simp[hl,D]
    ·rw[getD_set_ne false O,A j hj]
     by_cases ac:j<i
     ·simp[ac];omega
     ·simp[ac];omega
end
section
variable{P:Program} {nt:Nat} {n0:ju} {w0:World} {π0:Nat->Nat->Prop} {U:Nat->Prop} {s:S} {a:Act} {w:World} {β:Nat->Nat} {τ:Nat->Value} {π:Nat->Nat->Prop}
section
variable {K:S->Prop} {Q:Exit->Act->World->Prop} {args:Array Value} {c:CO} {id m n:Nat} {next:Act->World->Prop} {o:Oper} {ops:Array Oper} {r:Option Nat} (T:Nat->Prop)
theorem Rel.fJ(R:Rel P nt n0 w0 π0 U s a w β τ π):s.fJ U:=
 ⟨λt v D=>(R.slots t v D).2,λb x B=>⟨(R.boxes b x B).1,λo q A=>(R.boxes b x B).2.2.2 o q A⟩,λq e A=>(R.live q e A).1⟩
theorem Rel.seq(R:Rel P nt n0 w0 π0 U s a w β τ π) {s2:S} (h:qQ s s2):Rel P nt n0 w0 π0 U s2 a w β τ π where
 size:=R.size
 slots:=λt v O=>R.slots t v (by rw[<-h.slots];exact O)
 boxes:=λb x D=>R.boxes b x (by rw[<-h.boxes];exact D)
 inj:=λb V x x' D L=>R.inj b V x x' (by rw[<-h.boxes];exact D) (by rw[<-h.boxes];exact L)
 live:=λq e A=>R.live q e (by rw[<-h.live];exact A)
 cg:=λq q' e Z B A M=>R.cg q q' e Z B (by rw[<-h.live];exact A) (by rw[<-h.live];exact M)
 cz:=λq e b x A D=>R.cz q e b x (by rw[<-h.live];exact A) (by rw[<-h.boxes];exact D)
 below:=R.below
 fc:=R.fc
 ez:=R.ez
 eJ:=R.eJ
 cZ:=R.cZ
 l8:=R.l8
 iV:=R.iV
 kept:=R.kept
theorem Rel.nx(R:Rel P nt n0 w0 π0 U s a w β τ π) (n:Nat):Rel P nt n0 w0 π0 U {s with nx:=n} a w β τ π:=
 R.seq ⟨λ_=>rfl,λ_=>rfl,λ_=>rfl⟩
theorem yX{g A:Option (Nat×Bool)} (h:D6 ops g=some A):(g=none/\A=none)\/∃j w t,g=some (j,w)/\(ops[j]?).bind (·.dst)=some t/\A=some (t,w):=by
 unfold D6 at h;split at h
 ·cases h;exact .inl ⟨rfl,rfl⟩
 ·rename_i j w
  split at h
  ·rename_i t ht
   cases h;exact .inr ⟨j,w,t,rfl,ht,rfl⟩
  ·cases h
theorem AO(R:Rel P nt n0 w0 π0 U s a w β τ π) (aa:¬U id) (hc:m8 P ops o=some c) (A:∀d,c.dst=some d->d<nt) (h:iW (Pure P) id c K s) (hn:∀D x w' β' τ' π',K D->Rel P nt n0 w0 π0 (dZ U id) D (a.put o.dst x) w' β' τ' π'->next (a.put o.dst x) w'):
  if Region.wanted o (yielded ops a.tmps)then o.wp P a w next Q else next (a.put o.dst undef) w:=by
 unfold m8 at hc
 split at hc<;>try(cases hc;done)
 rename_i ad g B hg;cases hc;simp only at A
 have run:bB (Pure P) id ad (λv D=>K (D.put o.dst v)) s->o.wp P a w next Q:=λh=>by
  unfold MK at B;split at B
  ·rename_i c' L
   cases B
   exact H8 R aa L h λv D x w' β' τ' π' hK O M R'=>hn _ _ _ _ _ _ hK (R'.put o.dst A O M)
  ·split at B
   ·rename_i c' L
    cases B
    exact H7 R L h λv D x w' β' τ' π' hK O M R'=>hn _ _ _ _ _ _ hK (R'.put o.dst A O M)
   ·exact tu R aa B h λv D x w' β' τ' π' hK O M R'=>hn _ _ _ _ _ _ hK (R'.put o.dst A O M)
 have skip:K (s.put o.dst .undef)->next (a.put o.dst undef) w:=λh=>
  hn _ _ _ _ _ _ h ((R.sub λn h=>.inl h).put o.dst A rfl trivial)
 unfold iW fm at h
 rcases yX hg with⟨h1,h2⟩|⟨j,want,t,h1,h2,h3⟩
 ·subst h2
  simp only at h;simp only[Region.wanted,h1,kv];exact run h
 ·subst h3
  simp only at h
  cases hl:lk t s.slots with
  |none=>simp[hl]at h
  |some v=>
   obtain⟨⟨x,hx,V⟩,ag⟩:=R.slots t v hl;simp only[hl]at h
   have hy:∀b,x=.bool b->yielded ops a.tmps j=some b:=λb hb=>by
    unfold yielded;rw[h2];simp[hx,hb]
   cases v with
   |ptr b o=>exact h.elim
   |rp cs=>exact h.elim
   |vs _ _ _ _=>exact h.elim
   |tW _ _ _=>exact h.elim
   |raw _ _=>exact h.elim
   |pt _ _=>exact h.elim
   |undef=>
    have ab:x=undef:=V
    have ae:yielded ops a.tmps j=none:=by
     unfold yielded;rw[h2];simp[hx,ab,undef]
    simp only[Region.wanted,h1,ae];exact skip h
   |dat av q=>
    cases av<;>try(exact h.elim)
    rename_i b
    have ac:x=.bool b:=V.1.vR
    simp only[Region.wanted,h1,hy b ac]
    by_cases hb:b=want
    ·subst hb;simp;exact run (h.1 rfl)
    ·have Z:b=!want:=by cases b<;>cases want<;>first|rfl|exact absurd rfl hb
     have:(some b==some want)=false:=by subst Z;cases want<;>rfl
     rw[this];exact skip (h.2 Z)
def ya(P:Program) (ops:Array Oper) (o:Oper) (A:CO):Prop:=∃c,m8 P ops o=some c/\Ro c A
theorem FO(R:Rel P nt n0 w0 π0 U s a w β τ π) (L:¬U id) (Z:ya P ops o c) (A:∀d,c.dst=some d->d<nt) (h:iW (Pure P) id c K s) (hn:∀B x w' β' τ' π',K B->Rel P nt n0 w0 π0 (dZ U id) B (a.put o.dst x) w' β' τ' π'->next (a.put o.dst x) w'):
  if Region.wanted o (yielded ops a.tmps)then o.wp P a w next Q else next (a.put o.dst undef) w:=by
 obtain⟨c0,D,M⟩:=Z
 refine AO R L D (λd hd=>A d (by rw[M.dst];exact hd)) (M5 M h) ?_
 rintro B x w' β' τ' π' ⟨V,O,hk⟩ R'
 exact hn V x w' β' τ' π' hk (R'.seq O)
def FW(r:Option Nat):Fence:={Fence.wide with round:=r}
theorem AP{f:FuncId} {w:World} {R:Ending->World->Prop}:CallsIn (FW r) n P f args w R↔Calls P f args w R:=
 ⟨λh=>callsIn_wide.1 (show CallsIn Fence.wide n P f args w R from h),λh=>(show CallsIn Fence.wide n P f args w R from callsIn_wide.2 h)⟩
theorem K7{row:String} {w:World} {R:Value->World->Prop} (h:Rows P row args w R):RowsIn (FW r) n P row args w R:=
 λc cs _=>let ⟨v,w',hr,s⟩:=h c cs;⟨v,w',hr,(show StepsIn (Machine.fenced P Fence.wide) P _ _ from stepsIn_wide.2 s)⟩
theorem S9{a:Act} {w:World} {K:Act->World->Prop} (h:o.wp P a w K Q) (hd:∀c,o.op≠.defer c):o.wpIn (FW r) n P a w K Q:=by
 refine⟨λ_ _=>trivial,?_⟩
 rw[Oper.semAt_eq _ _ _ hd];unfold Oper.wp at h;generalize(execOp a.eval o).run P w=res at h⊢
 cases res with
 |ok x w'=>
  cases x<;>simp only[Oper.upon,Oper.uponIn]at h⊢<;>first
   |exact h
   |exact h.elim
   |exact⟨λhd=>by simp[FW,Fence.wide]at hd,AP.2 h⟩
   |exact⟨λhd=>by simp[FW,Fence.wide]at hd,K7 h⟩
 |halt x w'=>cases x<;>simp only[Oper.upon,Oper.uponIn]at h⊢<;>first|exact h|exact h.elim
def pE(a0 a:Act):Prop:=a.defers=a0.defers/\∀t,T t->a.tmps[t]? =a0.tmps[t]?
theorem pE.refl(a:Act):pE T a a:=⟨rfl,λ_ _=>rfl⟩
theorem pE.put{T:Nat->Prop} {a0 a:Act} (h:pE T a0 a) {d:Option Nat} (hd:∀t,d=some t->¬T t) (x:Value):pE T a0 (a.put d x):=by
 cases d with
 |none=>exact h
 |some d=>
  refine⟨h.1,λt ht=>?_⟩
  have A:t≠d:=λe=>hd d rfl (e▸ht)
  simp only[Act.put];rw[xr (Ne.symm A)];exact h.2 t ht
theorem uU(R:Rel P nt n0 w0 π0 U s a w β τ π) {i:Nat} (V:ops[i]? =some o) (L:¬U id) (A:ya P ops o c) (B:∀d,c.dst=some d->d<nt) (h:iW (Pure P) id c K s) (Z:∀O x w' β' τ' π',K O->Rel P nt n0 w0 π0 (dZ U id) O (a.put o.dst x) w' β' τ' π'->next (a.put o.dst x) w'):wpOpIn (FW r) n P ops Q i next a w:=by
 have:=FO R L A B h (Q:=Q) Z
 have M:∀c,o.op≠.defer c:=by
  intro c' e;obtain⟨c0,A,_⟩:=A;unfold m8 at A;rw[e]at A;simp[MK,uM,KZ,PI]at A
 unfold wpOpIn;simp only[V];split
 ·rename_i D;rw[gc D]at this;exact S9 this M
 ·rename_i D;rw[fx D]at this;exact⟨λ_ _=>trivial,this⟩
theorem yb(A:m8 P ops o=some c):c.dst=o.dst:=by
 unfold m8 at A
 split at A<;>try(cases A;done)
 cases A;rfl
theorem AQ(A:ya P ops o c):c.dst=o.dst:=by
 obtain⟨L,B,D⟩:=A;rw[D.dst,yb B]
theorem rI{ops:Array Oper}:∀{l:List Oper} {cs:List CO},uN P ops l=some cs->cs.length=l.length/\∀(i:Nat) (o:Oper) (c:CO),l[i]? =some o->cs[i]? =some c->m8 P ops o=some c
 |[],cs,h=>by simp[uN]at h;subst h;exact⟨rfl,λi o c h=>by simp at h⟩
 |o::l,cs,h=>by
  unfold uN at h
  split at h<;>try(cases h;done)
  rename_i c R M D;cases h;obtain⟨e,O⟩:=rI D
  refine⟨by simp[e],λi o' L A B=>?_⟩
  cases i with
  |zero=>simp at A B;subst A;subst B;exact M
  |succ i=>exact O i o' L (by simpa using A) (by simpa using B)
theorem pF{n:Nat}:∀{l:List CO},gA n l=true->∀(i:Nat) (c:CO) (d:Nat),l[i]? =some c->c.dst=some d->d<n
 |[],h,i,c,d,A,hd=>by simp at A
 |o::l,h,i,c,d,A,hd=>by
  simp only[gA,dT]at h
  cases i with
  |zero=>
   simp at A;subst A
   have:=h.1
   rw[hd]at this
   simpa using this
  |succ i=>exact pF h.2 i c d (by simpa using A) hd
theorem AR{ops:Array Oper} {cos:List CO} {base:Nat} (O:cos.length=ops.size) (A:∀(i:Nat) (o:Oper) (c:CO),ops[i]? =some o->cos[i]? =some c->ya P ops o c) (D:∀(i:Nat) (c:CO) (d:Nat),cos[i]? =some c->c.dst=some d->d<nt)
  {T:Nat->Prop} {a0:Act} (hT:∀(i:Nat) (c:CO) (d:Nat),cos[i]? =some c->c.dst=some d->¬T d) {r:Option Nat} {m:Nat}
  {K:S->Prop} {Q:Exit->Act->World->Prop} (hQ:∀s a w β τ π U,(∀n,U n->n<base+ops.size)->K s->pE T a0 a->Rel P nt n0 w0 π0 U s a w β τ π->Q .normal a w):
  ∀(rest:List CO) (i:Nat) (s:S) (a:Act) (w:World) (β:Nat->Nat) (τ:Nat->Value) (π:Nat->Nat->Prop) (U:Nat->Prop),cos.drop i=rest->i+rest.length=ops.size->(∀n,U n->n<base+i)->pE T a0 a->Rel P nt n0 w0 π0 U s a w β τ π->
   jb (Pure P) base i rest K s->wpOpsIn (FW r) m P ops Q (List.range' i rest.length) a w
 |[],i,s,a,w,β,τ,π,U,hd,Z,V,hp,R,h=>hQ s a w β τ π U (λn h=>by have:=V n h;simp at Z;omega) h hp R
 |o::rest,i,s,a,w,β,τ,π,U,hd,Z,V,hp,R,h=>by
  have B:cos[i]? =some o:=by
   have:(cos.drop i)[0]? =some o:=by rw[hd];rfl
   simpa using this
  have M:i<ops.size:=by simp at Z;omega
  have L:ops[i]? =some ops[i]:=by simp[M]
  rw[oo]at h;simp only[fl,List.range'_succ];rw[wpOpsIn_cons]
  refine uU R L (λh=>by have:=V _ h;omega) (A i _ o L B) (D i o · B) h λs' x w' β' τ' π' hK R'=>?_
  refine AR O A D hT hQ rest (i+1) s' _ w' β' τ' π' _ ?_ (by simp at Z;omega) (λn h=>?_) (hp.put (λd hd=>hT i o d B (by rw[AQ (A i _ o L B)];exact hd)) x) R' hK
  ·rw[<-List.tail_drop,hd];rfl
  ·rcases h with h|h
   ·have:=V n h;omega
   ·omega
theorem K8{cos:List CO} {base:Nat} (A:∀(i:Nat) (o:Oper) (c:CO),ops[i]? =some o->cos[i]? =some c->ya P ops o c) (L:∀(i:Nat) (c:CO) (d:Nat),cos[i]? =some c->c.dst=some d->d<nt) {T:Nat->Prop} {a0:Act} (hT:∀(i:Nat) (c:CO) (d:Nat),cos[i]? =some c->c.dst=some d->¬T d) (hQ:∀s a w β τ π U,(∀n,U n->n<base+ops.size)->K s->pE T a0 a->Rel P nt n0 w0 π0 U s a w β τ π->Q .normal a w):
  ∀(f:Nat) (l:Array Bool) (s:S) (a:Act) (w:World) (β:Nat->Nat) (τ:Nat->Value) (π:Nat->Nat->Prop),l.size=ops.size->pE T a0 a->Rel P nt n0 w0 π0 (UL base l) s a w β τ π->
   Ee (Pure P) base ops cos K f l s->wpAnyIn (FW r) m P .any ops Q f l a w:=by
 have small:∀l:Array Bool,l.size=ops.size->∀n,UL base l n->n<base+ops.size:=by
  rintro l D n (h|⟨i,V,h⟩)
  ·omega
  ·have:i<l.size:=by
    rcases ix i l.size with h'|h'
    ·exact h'
    ·simp[Ax h']at h
   omega
 intro f
 induction f with
 |zero=>intro l s a w β τ π D M R h;exact⟨h.1,hQ s a w β τ π _ (small l D) h.2 M R⟩
 |succ f ih=>
  intro l s a w β τ π D M R h
  refine⟨λh0=>hQ s a w β τ π _ (small l D) (h.1 h0) M R,λi V=>?_⟩
  obtain⟨o,O,hs⟩:=h.2 i V;obtain⟨Z,pi,B,_⟩:=yn.1 V
  refine uU R B (AK Z) (A i pi o B O) (L i o · O) hs λs' x w' β' τ' π' hK R'=>?_
  exact ih _ s' _ w' β' τ' π' (by simp[D]) (M.put (λd hd=>hT i o d O (by rw[AQ (A i pi o B O)];exact hd)) x) (R'.sub λn hn=>Ef (ko V) hn) hK
theorem uV{c:CO} {d:Nat}:∀{l:List CO},c∈l->c.dst=some d->d∈dstsOf l
 |o::l,h,hd=>by
  simp only[dstsOf,ka]
  rcases lw.1 h with rfl|h
  ·exact .inl (by rw[hd];simp)
  ·exact .inr (uV h hd)
theorem Eh(hm:P.follows .mixedOrders=true) {nh:Bool} {A:List CO} (hc:uN P ops ops.toList=some A) (ro:List Nat) (hd:nh=true->∃cJ T,jP cJ ops.toList A=true/\yM T (mV ro 0 A) cJ=true/\lK T s.nx 0 (mV ro 0 A)=true/\o9 T s) (D:gA nt A=true) (R:Rel P nt n0 w0 π0 U s a w β τ π) (hU:∀n,U n->n<s.nx) (h:jb (Pure P) s.nx 0 (mV ro 0 A) K s) {T:Nat->Prop} (hT:∀d,d∈dstsOf A->¬T d) (hQ:∀V a' w β τ π U,(∀n,U n->n<s.nx+A.length)->K V->pE T a a'->Rel P nt n0 w0 π0 U V a' w β τ π->Q .normal a' w):(Code.region id ops nh).wpIn (FW r) m P Q a w:=by
 obtain⟨M,L⟩:=rI hc
 have hd:nh=true->∃cJ T,jP cJ ops.toList (mV ro 0 A)=true/\yM T (mV ro 0 A) cJ=true/\lK T s.nx 0 (mV ro 0 A)=true/\o9 T s:=λe=>by
  obtain⟨cJ,T,h1,Z⟩:=hd e;exact⟨cJ,T,K6 h1,Z⟩
 have D:gA nt (mV ro 0 A)=true:=by rw[JH];exact D
 have hT:∀d,d∈dstsOf (mV ro 0 A)->¬T d:=by rw[FN];exact hT
 have B:(mV ro 0 A).length=ops.size:=by rw[Eg];simpa using M
 have hQ:∀V a' w β τ π U,(∀n,U n->n<s.nx+(mV ro 0 A).length)->K V->pE T a a'->Rel P nt n0 w0 π0 U V a' w β τ π->Q .normal a' w:=by rw[Eg];exact hQ
 have O:∀(i:Nat) (o:Oper) (c:CO),ops[i]? =some o->(mV ro 0 A)[i]? =some c->ya P ops o c:=λi o c h1 Z=>by
  obtain⟨c0,h3,h4⟩:=JG Z
  exact⟨c0,L i o c0 (by simpa using h1) h3,h4⟩
 clear M L hc;generalize mV ro 0 A=cos at*
 have hT:∀(i:Nat) (c:CO) (d:Nat),cos[i]? =some c->c.dst=some d->¬T d:=λi c d hi hd=>hT d (uV (ev hi) hd)
 have D:=pF D
 rw[B]at hQ
 cases nh with
 |false=>
  refine wpIn_region ?_
  have:=AR (r:=r) (m:=m) B O D hT hQ cos 0 s a w β τ π U rfl (by simpa using B) (by simpa using hU) (.refl _ _) R h
  rw[B]at this;rw[List.range_eq_range'];exact this
 |true=>
  obtain⟨cJ,Tb,ak,aa,ac,ae⟩:=hd rfl
  have ab:∀k ok,cos[k]? =some ok->o3 Tb (s.nx+k) ok=true:=λk ok hk=>by have:=pn ac k ok hk;rwa[la]at this
  refine wpIn_region_any hm ?_
  have R':Rel P nt n0 w0 π0 (UL s.nx (Array.replicate ops.size false)) s a w.drew β τ π:=R.draw.sub λn hn=>.inl (hU n hn)
  have Z:jb (Pure P) s.nx 0 cos (λs2=>∃s1,qQ s1 s2/\K s1) s:=by
   clear hQ
   have ag:∀(base':Nat) (r:List CO) (i:Nat) (s:S) {K':S->Prop},(∀s,K s->K' s)->jb (Pure P) base' i r K s->jb (Pure P) base' i r K' s:=by
    intro base' r
    induction r with
    |nil=>intro i s K' hk h;exact hk s h
    |cons o r ih=>
     intro i s K' hk h;rw[oo]at h⊢;obtain⟨v,d,hd,ad,_⟩:=eK h;exact hd.2 s .refl _ (ih _ _ hk ad)
   exact ag s.nx cos 0 s (λs h=>⟨s,.refl,h⟩) h
  have h3:=rH ab aa (λs s2 he ⟨s1,h1,hk⟩=>⟨s1,h1.trans he,hk⟩) B ak cos 0 (Array.replicate ops.size false) s rfl (by simpa using B) TB (λj hj=>by simp[hj]) R'.fJ ae Z
  rw[B]at h3
  refine K8 O D hT ?_ ops.size _ s a w.drew β τ π TB (.refl _ _) R' h3
  rintro s2 a w β τ π U hU ⟨s1,he,hk⟩ hp R2
  exact hQ s1 a w β τ π U hU hk hp (R2.seq he.symm)
end
end
end Go.Eng
