/- Part 6 of the engine and its library. -/
import Derived.Test.YtjnbemnncjbmgaaGreatPkA5
set_option linter.all false
set_option maxRecDepth 10000
set_option maxHeartbeats 4000000
namespace Go.Eng
open Go
section
variable {i:Nat} {listed:Array Bool}
theorem v8(h:listed.getD i true=false):listed.getD i false=false:=by
 rcases lj i listed.size with D|D
 ·simp[D]at h⊢;exact h
 ·simp[GE D]at h
theorem Og(D:i<listed.size) (h:listed.getD i false=false):listed.getD i true=false:=by
 simp[D]at h⊢;exact h
def Ik(C:aQ) (base:Nat) (ops:Array Oper) (cos:List CO) (K:S->Prop):Nat->Array Bool->S->Prop
 |0,l,s=>Region.ready .any ops l=[]/\K s
 |f+1,l,s=>(Region.ready .any ops l=[]->K s)/\∀i∈Region.ready .any ops l,∃o,cos[i]? =some o/\jS C (base+i) o (Ik C base ops cos K f (l.setIfInBounds i true)) s
def UL(base:Nat) (l:Array Bool):Nat->Prop:=λn=>n<base\/∃i,n=base+i/\l.getD i false=true
end
section
variable{C:aQ} {base:Nat} {ops:Array Oper} {cos:List CO} {K:S->Prop}
section
variable {i:Nat} {l:Array Bool}
theorem DJ(hK:∀s s2,t9 s s2->K s->K s2):∀(f:Nat) (l:Array Bool) (s s2:S),t9 s s2->Ik C base ops cos K f l s->Ik C base ops cos K f l s2
 |0,l,s,s2,D,h=>⟨h.1,hK _ _ D h.2⟩
 |f+1,l,s,s2,D,h=>⟨λM=>hK _ _ D (h.1 M),λi R=>by
   obtain⟨o,L,O⟩:=h.2 i R;refine⟨o,L,?_⟩;obtain⟨v,d,hd,hk,_⟩:=gj O
   exact hd.2 s2 D.agr _ (DJ hK f _ _ _ ((D.app d _).put _ _) hk)⟩
theorem DK(h:l.getD i true=false):¬UL base l (base+i):=by
 rintro(L|⟨k,hk,D⟩)
 ·omega
 ·have:k=i:=aaN
  subst this;rw[v8 h]at D;cases D
theorem Il(L:i<l.size) {n:Nat} (h:eN (UL base l) (base+i) n):UL base (l.setIfInBounds i true) n:=by
 rcases h with(h|⟨k,hk,D⟩)|h
 ·exact .inl h
 ·exact .inr ⟨k,hk,getD_set_true D⟩
 ·exact .inr ⟨i,h,by simp[L]⟩
theorem l9{M:Region.Mode} (h:i∈Region.ready M ops l):i<l.size:=by
 have L:=(EQ.1 h).1
 rcases lj i l.size with D|D
 ·exact D
 ·simp[GE D]at L
def uG(ops:Array Oper) (l:Array Bool):Prop:=∀k ok,ops[k]? =some ok->l.getD k false=true->∀e∈ok.after,Region.binds .any e=true->l.getD e.on false=true
theorem uG.set(h:uG ops l) (hi:i∈Region.ready .any ops l):uG ops (l.setIfInBounds i true):=by
 obtain⟨_,Z,M,L⟩:=EQ.1 hi;intro k ok hk R e O V
 by_cases D:i=k
 ·subst D
  have:ok=Z:=xa (hk.symm.trans M)
  subst this;exact getD_set_true (L e O V)
 ·rw[getD_set_ne false D]at R
  exact getD_set_true (h k ok hk R e O V)
theorem PY(hc:uG ops l) {j:Nat} (hi:l.getD i true=false) (hj:j∈Region.ready .any ops l) {Z:Oper} (aa:ops[j]? =some Z):
  Z.after.any (λe=>Region.binds .any e&&e.on==i)=false/\waits ops.toList i Z=false:=by
 obtain⟨_,ac,V,D⟩:=EQ.1 hj
 have:ac=Z:=xa (V.symm.trans aa)
 subst this
 have O:=v8 hi
 constructor
 ·rw[Hm]
  intro h;obtain⟨e,he,L⟩:=WP.1 h;simp only[ed,md]at L
  have:=D e he L.1
  rw[L.2,O]at this;cases this
 ·rw[Hm]
  intro h;obtain⟨e,he,L⟩:=WP.1 h;simp only[ed,px,md]at L
  have h1:=D e he L.1
  rcases L.2 with R|R
  ·rw[R,O]at h1;cases h1
  ·split at R
   ·rename_i ok ad
    obtain⟨e',ab,M⟩:=WP.1 R;simp only[ed,md]at M
    have h3:=hc e.on ok (by simpa using ad) h1 e' ab M.1
    rw[M.2,O]at h3;cases h3
   ·cases R
end
end
section
variable {T:List (Nat×Tag)} {s:S} {x y:CO}
def pO(T:List (Nat×Tag)) (s:S):Prop:=∀t b,JI b s t->(look T t).AT b=true
theorem BK{C:aQ} {id:Nat} {o:CO} {v:SV} {d:Delta} (hd:ML C id o s v d) (L:rM T id o=true) (hR:pO T s):pO T ((d.app' id s).put o.dst v):=by
 rintro t b ⟨u0,D,M⟩
 rw[rR]at D;split at D
 ·rename_i e
  cases D;unfold rM at L;rw[e]at L;simp only at L
  cases hz:look T t with
  |none=>rfl
  |some z=>
   rw[hz]at L;simp only at L
   rcases hd.1.2 b M with⟨rfl,Z⟩|⟨u,hu,ab⟩
   ·rw[ib Z]at L
    simpa[Tag.AT]using L
   ·have aa:¬o.op.RM=true:=λZ=>by
     revert hu Z;cases o.op<;>simp[bG.uu,bG.RM]
    rw[ge aa]at L
    have h1:=np.1 L u hu
    have O:=hR u b ab
    cases R:look T u with
    |none=>rw[R]at h1;cases h1
    |some z'=>
     rw[R]at h1 O;simp only[px,md]at h1;simp only[Tag.AT,md]at O⊢
     rcases h1 with h1|h1
     ·rw[h1]at O;cases O
     ·rw[<-h1];exact O
 ·rw[rS]at D
  cases V:lk t s.slots with
  |none=>rw[V]at D;cases D
  |some w=>
   rw[V]at D;simp only[mt,gc]at D
   rcases l7 d w with h|⟨b',v',_,_,_,h,hf,_⟩
   ·rw[h]at D;subst D;exact hR t b ⟨_,V,M⟩
   ·rw[h]at D;subst D;exact absurd M (hf.2 _)
theorem Sr{z D:Tag} {b:Nat} (h:z.dis D=true) (M:z.AT b=true) (L:D.AT b=true):False:=by
 cases z with
 |none=>cases D with
  |none=>cases h
  |some D=>cases D with
   |none=>simp[Tag.AT]at L
   |some O=>cases h
 |some z=>cases z with
  |none=>simp[Tag.AT]at M
  |some a=>cases D with
   |none=>cases h
   |some D=>cases D with
    |none=>simp[Tag.AT]at L
    |some O=>
     simp[Tag.AT]at M L;subst M;subst L;simp[Tag.dis]at h
theorem J7(h:x.half T y=true) (hR:pO T s):Clear x y s:=by
 rintro b ⟨t,V,O⟩
 have h:=np.1 h t V
 simp only[ed,px,sm]at h
 refine⟨λu M D=>?_,λR u M D=>?_⟩
 ·exact Sr (np.1 h.1 u M) (hR t b O) (hR u b D)
 ·rcases h.2 with L|L
  ·rw[R]at L;cases L
  ·exact Sr (np.1 L u M) (hR t b O) (hR u b D)
theorem GO(h:x.half [] y=true):x.half T y=true:=by
 unfold CO.half at h⊢;rw[np]at h⊢;intro t M
 have h:=h t M
 simp only[ed,px,np]at h⊢
 refine⟨λu D=>?_,h.2.imp id λL u D=>?_⟩
 ·have:=h.1 u D;cases this
 ·have:=L u D;cases this
theorem MN(h:x.apart y=true):x.uv T y=true:=by
 unfold CO.apart CO.uv at*;simp only[ed]at h⊢;exact⟨⟨h.1.1,GO h.1.2⟩,GO h.2⟩
theorem DL{T:List (Nat×Tag)} {ops:List CO} {i j:Nat} {x y:CO} (L:ops[i]? =some x) (D:ops[j]? =some y):∀{cJ:List (Nat×Nat)},yN T ops cJ=true->cJ.contains (i,j)=true->x.uv T y=true
 |[],_,h=>by cases h
 |(k,l)::r,h,hm=>by
  simp only[yN,ed]at h;rw[List.contains_cons,px]at hm
  rcases hm with hm|hm
  ·have e:(i,j)=(k,l):=by simpa using hm
   cases e
   have:=h.1
   rw[L,D]at this;exact this
  ·exact DL L D h.2 hm
theorem rT{T:List (Nat×Tag)} {base:Nat}:∀{l:List CO} {i:Nat},lR T base i l=true->∀(k:Nat) (o:CO),l[k]? =some o->rM T (base+(i+k)) o=true
 |[],i,h,k,o,hk=>by simp at hk
 |a::l,i,h,k,o,hk=>by
  simp only[lR,ed]at h
  cases k with
  |zero=>simp at hk;subst hk;exact h.1
  |succ k=>
   have:=rT h.2 k o (by simpa using hk)
   rw[show i+(k+1)=i+1+k by omega];exact this
theorem uH{base:Nat}:∀{l:List CO} {i:Nat},lR [] base i l=true
 |[],i=>rfl
 |a::l,i=>by
  simp only[lR,ed];refine⟨?_,uH⟩;unfold rM
  split<;>rfl
theorem nw{T:List (Nat×Tag)}:∀{sl:List (Nat×SV)},lQ T sl=true->∀t b v,lk t sl=some v->v.has b->(look T t).AT b=true
 |[],_,t,b,v,L,_=>by cases L
 |(m,u)::r,h,t,b,v,L,D=>by
  simp only[lk,ki]at L;split at L
  ·rename_i e
   cases L;subst e
   cases u<;>try(exact D.elim)
   ·have D:_=b:=D
    subst D;simp only[lQ,ed]at h;exact h.1
   ·have D:_=b:=D
    subst D;simp only[lQ,ed]at h;exact h.1
   ·simp only[lQ,ed]at h
    obtain⟨p,M,rfl⟩:=D;exact np.1 h.1 p M
  ·refine nw (sl:=r) ?_ t b v L D
   cases u<;>first|exact h|(simp only[lQ,ed]at h;exact h.2)
end
section
variable{C:aQ} {base:Nat} {ops:Array Oper} {cos:List CO} {K:S->Prop} {T:List (Nat×Tag)}
theorem MO(hT:∀k ok,cos[k]? =some ok->rM T (base+k) ok=true) (hK:∀s s2,t9 s s2->K s->K s2) (bd:cos.length=ops.size) {i:Nat} {oi:CO} (hi:cos[i]? =some oi):
  ∀(f:Nat) (l:Array Bool) (s:S),
   (∀j pj O,ops[j]? =some pj->cos[j]? =some O->j≠i->l.getD j true=false->pj.after.any (λe=>Region.binds .any e&&e.on==i)=false->waits ops.toList i pj=false->oi.uv T O=true)->
   uG ops l->i∈Region.ready .any ops l->s.gK (UL base l)->pO T s->jS C (base+i) oi (Ik C base ops cos K f (l.setIfInBounds i true)) s->Ik C base ops cos K (f+1) l s:=by
 intro f
 induction f with
 |zero=>
  intro l s _ _ hr hU hR H
  refine⟨λh=>(by rw[h]at hr;cases hr),λj R=>?_⟩
  by_cases D:j=i
  ·subst D;exact⟨oi,hi,H⟩
  ·obtain⟨v,d,hd,hk,_⟩:=gj H
   have:=ready_mono R D
   rw[hk.1]at this;cases this
 |succ f ih=>
  intro l s hfree al hr hU hR H
  refine⟨λh=>(by rw[h]at hr;cases hr),λj R=>?_⟩
  by_cases D:j=i
  ·subst D;exact⟨oi,hi,H⟩
  ·obtain⟨vi,di,ak,a4,be⟩:=gj H
   obtain⟨O,aa,ba⟩:=a4.2 j (ready_mono R D)
   obtain⟨vj,dj,ac,a6,bi⟩:=gj ba
   have M:=(EQ.1 R).1
   have Z:=(EQ.1 hr).1
   obtain⟨pj,ae,_⟩:=(EQ.1 R).2
   obtain⟨w1,w2⟩:=PY al Z R ae
   have L:=hfree j pj O ae aa D M w1 w2
   unfold CO.uv at L;simp only[ed]at L
   obtain⟨a1,a2,a3⟩:=WM L.1.1 hU (DK Z) (DK M) aaN (J7 L.1.2 hR) (J7 L.2 hR) ak ac
   -- the state behind j
   have V:jS C (base+j) O (λs3=>s3=(dj.app' (base+j) s).put O.dst vj) s:=ac.2 s a1 _ rfl
   have am:((dj.app' (base+j) s).put O.dst vj).gK (UL base (l.setIfInBounds j true)):=by
    obtain⟨v',d',_,ab,a8⟩:=gj V
    have:=a8 _ hU
    rw[ab]at this
    exact CP (λn hn=>Il (l9 R) hn) this
   have an:pO T ((dj.app' (base+j) s).put O.dst vj):=by
    obtain⟨v',d',a9,ab,_⟩:=gj V
    have:=BK a9 (hT j O aa) hR
    rw[ab]at this;exact this
   refine⟨O,aa,ac.2 s a1 _ ?_⟩;refine ih (l.setIfInBounds j true) _ ?_ (al.set R) (ready_mono hr (Ne.symm D)) am an ?_
   ·intro k pk ok a5 a7 ar ag au ao
    refine hfree k pk ok a5 a7 ar ?_ au ao
    by_cases ad:j=k
    ·subst ad;exact M
    ·rw[getD_set_ne true ad]at ag;exact ag
   ·refine ak.2 _ a2 _ ?_
    rw[Array.setIfInBounds_comm _ _ D];exact DJ hK f _ _ _ a3 a6
end
section
variable {C:aQ} {id:Nat} {s:S}
theorem yW{cJ:List (Nat×Nat)} {ops:List Oper} {i:Nat} {x:CO}:∀{os:List Oper} {R:List CO} {k:Nat},oO cJ ops i x k os R=true->∀(j:Nat) (D:Oper) (O:CO),os[j]? =some D->R[j]? =some O->i<k+j->
  D.after.any (λe=>Region.binds .any e&&e.on==i)=true\/x.apart O=true\/waits ops i D=true\/cJ.contains (i,k+j)=true
 |[],R,k,h,j,D,O,M,L,V=>by simp at M
 |o::os,[],k,h,j,D,O,M,L,V=>by simp at L
 |o::os,y::R,k,h,j,D,O,M,L,V=>by
  simp only[oO,ed,px,ii]at h
  cases j with
  |zero=>
   simp at M L;subst M;subst L
   rcases h.1 with(((h|h)|h)|h)|h
   ·omega
   ·exact .inl h
   ·exact .inr (.inl h)
   ·exact .inr (.inr (.inl h))
   ·exact .inr (.inr (.inr h))
  |succ j=>
   have:=yW h.2 j D O (by simpa using M) (by simpa using L) aaN
   rw[show k+1+j=k+(j+1)by omega]at this
   exact this
theorem lS{cJ:List (Nat×Nat)} {ops:List Oper} {cos:List CO}:∀{os:List Oper} {M:List CO} {k:Nat},nS cJ ops cos k os M=true->∀(i:Nat) (Z:Oper) (V:CO),os[i]? =some Z->M[i]? =some V->
  (∀e∈Z.after,Region.binds .any e=true->e.on<k+i)/\oO cJ ops (k+i) V 0 ops cos=true
 |[],M,k,h,j,O,R,L,D=>by simp at L
 |o::os,[],k,h,j,O,R,L,D=>by simp at D
 |o::os,y::M,k,h,j,O,R,L,D=>by
  simp only[nS,ed]at h
  cases j with
  |zero=>
   simp at L D;subst L;subst D
   refine⟨λe he hb=>?_,h.1.2⟩
   have:=Array.all_eq_true_iff_forall_mem.1 h.1.1 e he
   simpa[hb]using this
  |succ j=>
   have:=lS h.2 j O R (by simpa using L) (by simpa using D)
   rw[show k+1+j=k+(j+1)by omega]at this
   exact this
def Ro(x D:CO):Prop:=D=x\/D=x.ro
theorem Ro.dst{x D:CO} (h:Ro x D):D.dst=x.dst:=by rcases h with rfl|rfl<;>rfl
theorem Ro.rd{x D:CO} (h:Ro x D):D.rd=x.rd:=by
 rcases h with rfl|rfl
 ·rfl
 ·cases x with|mk d o g=>cases o<;>rfl
theorem Ro.wU{x D:CO} (h:Ro x D):D.op.wU=x.op.wU:=by
 rcases h with rfl|rfl
 ·rfl
 ·cases x with|mk d o g=>cases o<;>rfl
theorem Ro.app{x D:CO} (h:Ro x D):D.op.isApp=x.op.isApp:=by
 rcases h with rfl|rfl
 ·rfl
 ·cases x with|mk d o g=>cases o<;>rfl
theorem Ro.Ii{x D:CO} (h:Ro x D):D.op.BD=x.op.BD:=by
 rcases h with rfl|rfl
 ·rfl
 ·cases x with|mk d o g=>cases o<;>rfl
theorem Ro.N3{x D:CO} (h:Ro x D):D.op.N3=x.op.N3\/D.op.N3=[]:=by
 rcases h with rfl|rfl
 ·exact .inl rfl
 ·cases x with|mk d o g=>cases o<;>first|exact .inl rfl|exact .inr rfl
theorem Ro.indep{x M y O:CO} (L:Ro x M) (D:Ro y O):M.indep O=x.indep y:=by
 simp only[CO.indep,L.dst,D.dst,L.rd,D.rd,L.app,D.app]
theorem Ro.half{T:List (Nat×Tag)} {x D y O:CO} (M:Ro x D) (L:Ro y O) (h:x.half T y=true):D.half T O=true:=by
 simp only[CO.half,L.wU,L.rd,M.Ii]at h⊢
 rcases M.N3 with e|e
 ·rw[e];exact h
 ·rw[e];rfl
theorem Ro.apart{x M y O:CO} (L:Ro x M) (D:Ro y O) (h:x.apart y=true):M.apart O=true:=by
 simp only[CO.apart,CO.uv,ed]at h⊢
 exact⟨⟨by rw[L.indep D];exact h.1.1,L.half D h.1.2⟩,D.half L h.2⟩
theorem Oh{ro:List Nat}:∀{l:List CO} {k i:Nat} {D:CO},(kO ro k l)[i]? =some D->∃c,l[i]? =some c/\Ro c D
 |[],k,i,D,h=>by simp[kO]at h
 |o::l,k,0,D,h=>by
  simp only[kO,iv,gc]at h;refine⟨o,rfl,?_⟩
  cases hk:ro.contains k with
  |true=>rw[hk]at h;exact .inr h.symm
  |false=>rw[hk]at h;exact .inl h.symm
 |o::l,k,i+1,D,h=>by
  simp only[kO,ix]at h⊢;exact Oh h
theorem Im{ro:List Nat}:∀{l:List CO} {k:Nat},(kO ro k l).length=l.length
 |[],k=>rfl
 |o::l,k=>by simp only[kO,fb,Im]
theorem J8{ro:List Nat}:∀{l:List CO} {k:Nat},dstsOf (kO ro k l)=dstsOf l
 |[],k=>rfl
 |o::l,k=>by
  simp only[kO,dstsOf,J8]
  cases ro.contains k<;>rfl
theorem Oi{n:Nat} {ro:List Nat}:∀{l:List CO} {k:Nat},gJ n (kO ro k l)=gJ n l
 |[],k=>rfl
 |o::l,k=>by
  simp only[kO,gJ,Oi]
  cases ro.contains k<;>rfl
theorem Ro.of(ro:List Nat) (k:Nat) (o:CO):Ro o (bif ro.contains k then o.ro else o):=by
 cases ro.contains k
 ·exact .inl rfl
 ·exact .inr rfl
theorem DM{cJ:List (Nat×Nat)} {ops:List Oper} {i:Nat} {x L:CO} (M:Ro x L) {ro:List Nat}:∀{os:List Oper} {D:List CO} {k m:Nat},oO cJ ops i x k os D=true->oO cJ ops i L k os (kO ro m D)=true
 |[],D,k,m,h=>rfl
 |o::os,[],k,m,h=>rfl
 |o::os,y::D,k,m,h=>by
  simp only[kO,oO,ed,px,ii]at h⊢;refine⟨?_,DM M h.2⟩
  rcases h.1 with(((h|h)|h)|h)|h
  ·exact .inl (.inl (.inl (.inl h)))
  ·exact .inl (.inl (.inl (.inr h)))
  ·exact .inl (.inl (.inr (M.apart (.of ro m y) h)))
  ·exact .inl (.inr h)
  ·exact .inr h
theorem BL{cJ:List (Nat×Nat)} {ops:List Oper} {cos:List CO} {ro:List Nat} {m:Nat}:∀{os:List Oper} {D:List CO} {k:Nat},nS cJ ops cos k os D=true->nS cJ ops (kO ro m cos) k os (kO ro k D)=true
 |[],D,k,h=>rfl
 |o::os,[],k,h=>rfl
 |o::os,y::D,k,h=>by
  simp only[kO,nS,ed]at h⊢;exact⟨⟨h.1.1,DM (.of ro k y) h.1.2⟩,BL h.2⟩
theorem PZ{cJ:List (Nat×Nat)} {ops:List Oper} {cos:List CO} {ro:List Nat} (h:jJ cJ ops cos=true):jJ cJ ops (kO ro 0 cos)=true:=BL h
theorem yX{l D:List (Nat×bH)} (h:∀b,bO b D=bO b l):∀{ids:List Nat},eI D ids=eI l ids
 |[]=>rfl
 |b::L=>by simp only[eI,h b,yX h (ids:=L)]
theorem DN{l:List (Nat×bH)}:∀{ids:List Nat} {css:List (List AV)},eI l ids=some css->aS l ids=some css
 |[],css,h=>h
 |b::O,css,h=>by
  simp only[eI]at h
  split at h<;>try(cases h;done)
  rename_i cs D L M;cases h;simp only[aS,L,DN M]
theorem xT:∀{ids:List Nat} {css:List (List AV)} {l:List (Nat×bH)},eI l ids=some css->∀b,bO b (dm ids css l)=bO b l
 |[],css,l,h,b=>rfl
 |i::O,css,l,h,b=>by
  simp only[eI]at h
  split at h<;>try(cases h;done)
  rename_i cs D L M;cases h
  have e:∀n,bO n (nO i ⟨cs,[]⟩ l)=bO n l:=λn=>by
   rw[i5];split
   ·rename_i e;subst e;rw[L];rfl
   ·rfl
  rw[dm,xT (by rw[yX e];exact M),e]
theorem aa4{o:bG} {K:SV->S->Prop} (h:bn C id o.ro K s):bn C id o (λv R=>∃M,t9 R M/\K v M) s:=by
 have same:bn C id o K s->bn C id o (λv R=>∃M,t9 R M/\K v M) s:=λh=>by
  obtain⟨v,d,hK,_,_,_,hs⟩:=yV h;exact hs s .refl _ ⟨_,.refl,hK⟩
 cases o<;>try(exact same h)
 case dR f args=>
  obtain⟨p,O,L,h⟩:=ah (h:aj _ _)
  obtain⟨css,D,r,V,hK⟩:=ah h;simp only[bn,O,DN D,ax]
  exact⟨L,r,none,css,V,s,⟨λ_=>rfl,λb=>(xT D b).symm,λ_=>rfl⟩,hK⟩
 case gi g args=>
  obtain⟨a,Z,h⟩:=ah (h:aj _ _)
  cases a<;>try(exact h.elim)
  rename_i fn first caps
  cases fn<;>try(exact h.elim)
  rename_i f
  cases first<;>try(exact h.elim)
  cases caps<;>try(exact h.elim)
  obtain⟨p,O,L,h⟩:=ah h;obtain⟨css,D,r,V,hK⟩:=ah h;simp only[bn,Z,O,DN D,ax]
  exact⟨L,r,none,css,V,s,⟨λ_=>rfl,λb=>(xT D b).symm,λ_=>rfl⟩,hK⟩
theorem Ss{c O:CO} (V:Ro c O) {K:S->Prop} (h:jS C id O K s):jS C id c (λL=>∃D,t9 L D/\K D) s:=by
 rcases V with rfl|rfl
 ·obtain⟨v,d,hd,hK,_⟩:=gj h
  exact hd.2 s .refl _ ⟨_,.refl,hK⟩
 ·have run:bn C id c.op.ro (λv L=>K (L.put c.dst v)) s->bn C id c.op (λv L=>∃D,t9 (L.put c.dst v) D/\K D) s:=λh=>by
   have:=aa4 h
   obtain⟨v,d,⟨D,R,hK⟩,_,_,_,Z⟩:=yV this;exact Z s .refl _ ⟨_,R.put _ _,hK⟩
  cases c with
  |mk dst op g=>
   have h:fj s g (bn C id op.ro (λv L=>K (L.put dst v)) s) (K (s.put dst .undef)):=h
   show fj s g (bn C id op (λv L=>∃D,t9 (L.put dst v) D/\K D) s) (∃D,t9 (s.put dst .undef) D/\K D)
   unfold fj at h⊢
   cases g with
   |none=>exact run h
   |some p=>
    obtain⟨t,want⟩:=p;simp only at h⊢
    cases M:lk t s.slots with
    |none=>simp[M]at h
    |some v=>
     simp only[M]at h
     cases v with
     |ptr b o=>exact h.elim
     |rp cs=>exact h.elim
     |vs _ _ _ _=>exact h.elim
     |mL _ _ _=>exact h.elim
     |raw _ _=>exact h.elim
     |pt _ _=>exact h.elim
     |undef=>exact⟨_,.refl,h⟩
     |dat a q=>
      cases a<;>try(exact h.elim)
      exact⟨λe=>run (h.1 e),λe=>⟨_,.refl,h.2 e⟩⟩
end
section
variable{C:aQ} {base:Nat} {ops:Array Oper} {cos:List CO} {K:S->Prop}
theorem uI{T:List (Nat×Tag)} {cJ:List (Nat×Nat)} (hT:∀k ok,cos[k]? =some ok->rM T (base+k) ok=true) (aa:yN T cos cJ=true) (hK:∀s s2,t9 s s2->K s->K s2) (L:cos.length=ops.size) (ac:jJ cJ ops.toList cos=true):
  ∀(rest:List CO) (i:Nat) (l:Array Bool) (s:S),cos.drop i=rest->i+rest.length=ops.size->l.size=ops.size->(∀j,j<ops.size->l.getD j false=decide (j<i))->
   s.gK (UL base l)->pO T s->je C base i rest K s->Ik C base ops cos K rest.length l s
 |[],i,l,s,hd,hn,hl,D,hU,hR,h=>by
  refine⟨?_,h⟩;rw[List.eq_nil_iff_forall_not_mem];intro j hj
  have h1:=(EQ.1 hj).1
  have h2:=l9 hj
  have h3:=D j aaN
  rw[v8 h1]at h3;simp at hn h3;omega
 |o::rest,i,l,s,hd,hn,hl,D,hU,hR,h=>by
  have Z:cos[i]? =some o:=by
   have:(cos.drop i)[0]? =some o:=by rw[hd];rfl
   simpa using this
  have M:i<ops.size:=by simp at hn;omega
  have ak:ops[i]? =some ops[i]:=by simp[M]
  obtain⟨O,ab⟩:=lS ac i ops[i] o (by simpa using ak) Z
  simp only[kr]at O ab
  have a6:l.getD i true=false:=by
   have:=D i M
   simp at this
   exact Og aaN (by simpa using this)
  have bd:uG ops l:=by
   intro k ok hk ao e he hb
   have ad:k<ops.size:=(kd.1 hk).1
   rw[D k ad]at ao;simp at ao
   obtain⟨ba,a3⟩:∃x,cos[k]? =some x:=⟨cos[k]' aaN,by simp[L,ad]⟩
   have:=(lS ac k ok ba (by simpa using hk) a3).1 e he hb
   rw[D e.on aaN]
   simp;omega
  have hr:i∈Region.ready .any ops l:=by
   rw[EQ]
   refine⟨a6,ops[i],ak,λe he hb=>?_⟩
   have:=O e he hb
   rw[D e.on aaN]
   simpa using this
  refine MO hT hK L Z rest.length l s ?_ bd hr hU hR ?_
  ·intro j pj oj an al be a2 a7 a5
   have a9:j<ops.size:=(kd.1 an).1
   have au:=D j a9
   rw[v8 a2]at au;simp at au
   have V:i<0+j:=aaN
   rcases yW ab j pj oj (by simpa using an) al V with h|h|h|h
   ·rw[a7]at h;cases h
   ·exact MN h
   ·rw[a5]at h;cases h
   ·rw[kr]at h;exact DL Z al aa h
  ·rw[qn]at h
   obtain⟨v,d,R,ag,a8⟩:=gj h
   have ar:=a8 _ hU
   have am:=BK R (hT i o Z) hR
   refine R.2 s .refl _ ?_;generalize(d.app' (base+i) s).put o.dst v=s' at ag ar am
   have a4:(l.setIfInBounds i true).size=ops.size:=by simp[hl]
   refine uI hT aa hK L ac rest (i+1) _ s' ?_ (by simp at hn⊢;omega) a4 (λj hj=>?_) (CP (λn hn=>Il aaN hn) ar) am ag
   ·rw[<-List.tail_drop,hd];rfl
   ·by_cases V:i=j
    ·subst V;simp[hl,M]
    ·rw[getD_set_ne false V,D j hj]
     by_cases ae:j<i
     ·simp[ae];omega
     ·simp[ae];omega
end
section
variable{P:Program} {nt:Nat} {n0:gw} {w0:World} {π0:Nat->Nat->Prop} {U:Nat->Prop} {s:S} {a:Act} {w:World} {β:Nat->Nat} {τ:Nat->Value} {π:Nat->Nat->Prop}
section
variable {K:S->Prop} {Q:Exit->Act->World->Prop} {args:Array Value} {c:CO} {id m n:Nat} {next:Act->World->Prop} {o:Oper} {ops:Array Oper} {r:Option Nat} (T:Nat->Prop)
theorem Rel.gK(R:Rel P nt n0 w0 π0 U s a w β τ π):s.gK U:=
 ⟨λt v M=>(R.slots t v M).2,λb x L=>⟨(R.boxes b x L).1,λo q D=>(R.boxes b x L).2.2.2 o q D⟩,λq e D=>(R.live q e D).1⟩
theorem Rel.seq(R:Rel P nt n0 w0 π0 U s a w β τ π) {s2:S} (h:t9 s s2):Rel P nt n0 w0 π0 U s2 a w β τ π where
 size:=R.size
 slots:=λt v V=>R.slots t v (by rw[<-h.slots];exact V)
 boxes:=λb x L=>R.boxes b x (by rw[<-h.boxes];exact L)
 inj:=λb Z x x' L M=>R.inj b Z x x' (by rw[<-h.boxes];exact L) (by rw[<-h.boxes];exact M)
 live:=λq e D=>R.live q e (by rw[<-h.live];exact D)
 cw:=λq q' e e' B D O=>R.cw q q' e e' B (by rw[<-h.live];exact D) (by rw[<-h.live];exact O)
 cz:=λq e b x D L=>R.cz q e b x (by rw[<-h.live];exact D) (by rw[<-h.boxes];exact L)
 below:=R.below
 f9:=R.f9
 eF:=R.eF
 ep:=R.ep
 cB:=R.cB
 lz:=R.lz
 jb:=R.jb
 kept:=R.kept
theorem Rel.nx(R:Rel P nt n0 w0 π0 U s a w β τ π) (n:Nat):Rel P nt n0 w0 π0 U {s with nx:=n} a w β τ π:=
 R.seq ⟨λ_=>rfl,λ_=>rfl,λ_=>rfl⟩
theorem BM{g D:Option (Nat×Bool)} (h:H9 ops g=some D):(g=none/\D=none)\/∃j w t,g=some (j,w)/\(ops[j]?).bind (·.dst)=some t/\D=some (t,w):=by
 unfold H9 at h;split at h
 ·cases h;exact .inl ⟨rfl,rfl⟩
 ·rename_i j w
  split at h
  ·rename_i t L
   cases h;exact .inr ⟨j,w,t,rfl,L,rfl⟩
  ·cases h
theorem DO(R:Rel P nt n0 w0 π0 U s a w β τ π) (ac:¬U id) (hc:oN P ops o=some c) (D:∀d,c.dst=some d->d<nt) (h:jS (Pure P) id c K s) (hn:∀M x w' β' τ' π',K M->Rel P nt n0 w0 π0 (eN U id) M (a.put o.dst x) w' β' τ' π'->next (a.put o.dst x) w'):
  if Region.wanted o (yielded ops a.tmps)then o.wp P a w next Q else next (a.put o.dst undef) w:=by
 unfold oN at hc
 split at hc<;>try(cases hc;done)
 rename_i ag g L hg;cases hc;simp only at D
 have run:bn (Pure P) id ag (λv M=>K (M.put o.dst v)) s->o.wp P a w next Q:=λh=>by
  unfold RS at L;split at L
  ·rename_i c' O
   cases L
   exact MK R ac O h λv M x w' β' τ' π' hK Z V R'=>hn _ _ _ _ _ _ hK (R'.put o.dst D Z V)
  ·split at L
   ·rename_i c' O
    cases L
    exact MJ R O h λv M x w' β' τ' π' hK Z V R'=>hn _ _ _ _ _ _ hK (R'.put o.dst D Z V)
   ·exact vY R ac L h λv M x w' β' τ' π' hK Z V R'=>hn _ _ _ _ _ _ hK (R'.put o.dst D Z V)
 have skip:K (s.put o.dst .undef)->next (a.put o.dst undef) w:=λh=>
  hn _ _ _ _ _ _ h ((R.sub λn h=>.inl h).put o.dst D rfl trivial)
 unfold jS fj at h
 rcases BM hg with⟨h1,h2⟩|⟨j,want,t,h1,h2,h3⟩
 ·subst h2
  simp only at h;simp only[Region.wanted,h1,kv];exact run h
 ·subst h3
  simp only at h
  cases hl:lk t s.slots with
  |none=>simp[hl]at h
  |some v=>
   obtain⟨⟨x,hx,aa⟩,al⟩:=R.slots t v hl;simp only[hl]at h
   have hy:∀b,x=.bool b->yielded ops a.tmps j=some b:=λb hb=>by
    unfold yielded;rw[h2];simp[hx,hb]
   cases v with
   |ptr b o=>exact h.elim
   |rp cs=>exact h.elim
   |vs _ _ _ _=>exact h.elim
   |mL _ _ _=>exact h.elim
   |raw _ _=>exact h.elim
   |pt _ _=>exact h.elim
   |undef=>
    have ad:x=undef:=aa
    have ak:yielded ops a.tmps j=none:=by
     unfold yielded;rw[h2];simp[hx,ad,undef]
    simp only[Region.wanted,h1,ak];exact skip h
   |dat av q=>
    cases av<;>try(exact h.elim)
    rename_i b
    have ae:x=.bool b:=aa.1.uA
    simp only[Region.wanted,h1,hy b ae]
    by_cases hb:b=want
    ·subst hb;simp;exact run (h.1 rfl)
    ·have ab:b=!want:=by cases b<;>cases want<;>first|rfl|exact absurd rfl hb
     have:(some b==some want)=false:=by subst ab;cases want<;>rfl
     rw[this];exact skip (h.2 ab)
def A0(P:Program) (ops:Array Oper) (o:Oper) (D:CO):Prop:=∃c,oN P ops o=some c/\Ro c D
theorem J9(R:Rel P nt n0 w0 π0 U s a w β τ π) (O:¬U id) (hc:A0 P ops o c) (D:∀d,c.dst=some d->d<nt) (h:jS (Pure P) id c K s) (hn:∀L x w' β' τ' π',K L->Rel P nt n0 w0 π0 (eN U id) L (a.put o.dst x) w' β' τ' π'->next (a.put o.dst x) w'):
  if Region.wanted o (yielded ops a.tmps)then o.wp P a w next Q else next (a.put o.dst undef) w:=by
 obtain⟨c0,M,V⟩:=hc
 refine DO R O M (λd hd=>D d (by rw[V.dst];exact hd)) (Ss V h) ?_
 rintro L x w' β' τ' π' ⟨s0,Z,hk⟩ R'
 exact hn s0 x w' β' τ' π' hk (R'.seq Z)
def FW(r:Option Nat):Fence:={Fence.wide with round:=r}
theorem DP{f:FuncId} {w:World} {R:Ending->World->Prop}:CallsIn (FW r) n P f args w R↔Calls P f args w R:=
 ⟨λh=>Ha.1 (show CallsIn Fence.wide n P f args w R from h),λh=>(show CallsIn Fence.wide n P f args w R from Ha.2 h)⟩
theorem P1{row:String} {w:World} {R:Value->World->Prop} (h:Rows P row args w R):RowsIn (FW r) n P row args w R:=
 λc cs _=>let ⟨v,w',hr,s⟩:=h c cs;⟨v,w',hr,(show StepsIn (Machine.fenced P Fence.wide) P _ _ from stepsIn_wide.2 s)⟩
theorem Z0{a:Act} {w:World} {K:Act->World->Prop} (h:o.wp P a w K Q) (hd:∀c,o.op≠.defer c):o.wpIn (FW r) n P a w K Q:=by
 refine⟨λ_ _=>trivial,?_⟩
 rw[Oper.semAt_eq _ _ _ hd];unfold Oper.wp at h;generalize(execOp a.eval o).run P w=res at h⊢
 cases res with
 |ok x w'=>
  cases x<;>simp only[Oper.upon,Oper.uponIn]at h⊢<;>first
   |exact h
   |exact h.elim
   |exact⟨λhd=>by simp[FW,Fence.wide]at hd,DP.2 h⟩
   |exact⟨λhd=>by simp[FW,Fence.wide]at hd,P1 h⟩
 |halt x w'=>cases x<;>simp only[Oper.upon,Oper.uponIn]at h⊢<;>first|exact h|exact h.elim
def qA(a0 a:Act):Prop:=a.defers=a0.defers/\∀t,T t->a.tmps[t]? =a0.tmps[t]?
theorem qA.refl(a:Act):qA T a a:=⟨rfl,λ_ _=>rfl⟩
theorem qA.put{T:Nat->Prop} {a0 a:Act} (h:qA T a0 a) {d:Option Nat} (hd:∀t,d=some t->¬T t) (x:Value):qA T a0 (a.put d x):=by
 cases d with
 |none=>exact h
 |some d=>
  refine⟨h.1,λt L=>?_⟩
  have D:t≠d:=λe=>hd d rfl (e▸L)
  simp only[Act.put];rw[Ax (Ne.symm D)];exact h.2 t L
theorem xU(R:Rel P nt n0 w0 π0 U s a w β τ π) {i:Nat} (ho:ops[i]? =some o) (O:¬U id) (D:A0 P ops o c) (L:∀d,c.dst=some d->d<nt) (h:jS (Pure P) id c K s) (hn:∀Z x w' β' τ' π',K Z->Rel P nt n0 w0 π0 (eN U id) Z (a.put o.dst x) w' β' τ' π'->next (a.put o.dst x) w'):wpOpIn (FW r) n P ops Q i next a w:=by
 have:=J9 R O D L h (Q:=Q) hn
 have V:∀c,o.op≠.defer c:=by
  intro c' e;obtain⟨c0,D,_⟩:=D;unfold oN at D;rw[e]at D;simp[RS,xL,PU,V6]at D
 unfold wpOpIn;simp only[ho];split
 ·rename_i M;rw[ib M]at this;exact Z0 this V
 ·rename_i M;rw[ge M]at this;exact⟨λ_ _=>trivial,this⟩
theorem A5(D:oN P ops o=some c):c.dst=o.dst:=by
 unfold oN at D
 split at D<;>try(cases D;done)
 cases D;rfl
theorem DQ(D:A0 P ops o c):c.dst=o.dst:=by
 obtain⟨O,L,M⟩:=D;rw[M.dst,A5 L]
theorem uJ{ops:Array Oper}:∀{l:List Oper} {cs:List CO},xM P ops l=some cs->cs.length=l.length/\∀(i:Nat) (o:Oper) (c:CO),l[i]? =some o->cs[i]? =some c->oN P ops o=some c
 |[],cs,h=>by simp[xM]at h;subst h;exact⟨rfl,λi o c h=>by simp at h⟩
 |o::l,cs,h=>by
  unfold xM at h
  split at h<;>try(cases h;done)
  rename_i c Z R M;cases h;obtain⟨e,V⟩:=uJ M
  refine⟨by simp[e],λi o' O D L=>?_⟩
  cases i with
  |zero=>simp at D L;subst D;subst L;exact R
  |succ i=>exact V i o' O (by simpa using D) (by simpa using L)
theorem rU{n:Nat}:∀{l:List CO},gJ n l=true->∀(i:Nat) (c:CO) (d:Nat),l[i]? =some c->c.dst=some d->d<n
 |[],h,i,c,d,D,hd=>by simp at D
 |o::l,h,i,c,d,D,hd=>by
  simp only[gJ,ed]at h
  cases i with
  |zero=>
   simp at D;subst D
   have:=h.1
   rw[hd]at this
   simpa using this
  |succ i=>exact rU h.2 i c d (by simpa using D) hd
theorem DR{ops:Array Oper} {cos:List CO} {base:Nat} (Z:cos.length=ops.size) (D:∀(i:Nat) (o:Oper) (c:CO),ops[i]? =some o->cos[i]? =some c->A0 P ops o c) (M:∀(i:Nat) (c:CO) (d:Nat),cos[i]? =some c->c.dst=some d->d<nt)
  {T:Nat->Prop} {a0:Act} (hT:∀(i:Nat) (c:CO) (d:Nat),cos[i]? =some c->c.dst=some d->¬T d) {r:Option Nat} {m:Nat}
  {K:S->Prop} {Q:Exit->Act->World->Prop} (hQ:∀s a w β τ π U,(∀n,U n->n<base+ops.size)->K s->qA T a0 a->Rel P nt n0 w0 π0 U s a w β τ π->Q .normal a w):
  ∀(rest:List CO) (i:Nat) (s:S) (a:Act) (w:World) (β:Nat->Nat) (τ:Nat->Value) (π:Nat->Nat->Prop) (U:Nat->Prop),cos.drop i=rest->i+rest.length=ops.size->(∀n,U n->n<base+i)->qA T a0 a->Rel P nt n0 w0 π0 U s a w β τ π->
   je (Pure P) base i rest K s->wpOpsIn (FW r) m P ops Q (List.range' i rest.length) a w
 |[],i,s,a,w,β,τ,π,U,hd,hn,hU,hp,R,h=>hQ s a w β τ π U (λn h=>by have:=hU n h;simp at hn;omega) h hp R
 |o::rest,i,s,a,w,β,τ,π,U,hd,hn,hU,hp,R,h=>by
  have L:cos[i]? =some o:=by
   have:(cos.drop i)[0]? =some o:=by rw[hd];rfl
   simpa using this
  have V:i<ops.size:=by simp at hn;omega
  have O:ops[i]? =some ops[i]:=by simp[V]
  rw[qn]at h;simp only[fb,List.range'_succ];rw[wpOpsIn_cons]
  refine xU R O (λh=>by have:=hU _ h;omega) (D i _ o O L) (M i o · L) h λs' x w' β' τ' π' hK R'=>?_
  refine DR Z D M hT hQ rest (i+1) s' _ w' β' τ' π' _ ?_ (by simp at hn;omega) (λn h=>?_) (hp.put (λd hd=>hT i o d L (by rw[DQ (D i _ o O L)];exact hd)) x) R' hK
  ·rw[<-List.tail_drop,hd];rfl
  ·rcases h with h|h
   ·have:=hU n h;omega
   ·omega
theorem P2{cos:List CO} {base:Nat} (D:∀(i:Nat) (o:Oper) (c:CO),ops[i]? =some o->cos[i]? =some c->A0 P ops o c) (O:∀(i:Nat) (c:CO) (d:Nat),cos[i]? =some c->c.dst=some d->d<nt) {T:Nat->Prop} {a0:Act} (hT:∀(i:Nat) (c:CO) (d:Nat),cos[i]? =some c->c.dst=some d->¬T d) (hQ:∀s a w β τ π U,(∀n,U n->n<base+ops.size)->K s->qA T a0 a->Rel P nt n0 w0 π0 U s a w β τ π->Q .normal a w):
  ∀(f:Nat) (l:Array Bool) (s:S) (a:Act) (w:World) (β:Nat->Nat) (τ:Nat->Value) (π:Nat->Nat->Prop),l.size=ops.size->qA T a0 a->Rel P nt n0 w0 π0 (UL base l) s a w β τ π->
   Ik (Pure P) base ops cos K f l s->wpAnyIn (FW r) m P .any ops Q f l a w:=by
 have small:∀l:Array Bool,l.size=ops.size->∀n,UL base l n->n<base+ops.size:=by
  rintro l M n (h|⟨i,hi,h⟩)
  ·omega
  ·have:i<l.size:=by
    rcases lj i l.size with h'|h'
    ·exact h'
    ·simp[GE h']at h
   omega
 intro f
 induction f with
 |zero=>intro l s a w β τ π M V R h;exact⟨h.1,hQ s a w β τ π _ (small l M) h.2 V R⟩
 |succ f ih=>
  intro l s a w β τ π M V R h
  refine⟨λh0=>hQ s a w β τ π _ (small l M) (h.1 h0) V R,λi hi=>?_⟩
  obtain⟨o,Z,hs⟩:=h.2 i hi;obtain⟨aa,pi,L,_⟩:=EQ.1 hi
  refine xU R L (DK aa) (D i pi o L Z) (O i o · Z) hs λs' x w' β' τ' π' hK R'=>?_
  exact ih _ s' _ w' β' τ' π' (by simp[M]) (V.put (λd hd=>hT i o d Z (by rw[DQ (D i pi o L Z)];exact hd)) x) (R'.sub λn hn=>Il (l9 hi) hn) hK
theorem xV{c:CO} {d:Nat}:∀{l:List CO},c∈l->c.dst=some d->d∈dstsOf l
 |o::l,h,hd=>by
  simp only[dstsOf,lh]
  rcases nb.1 h with rfl|h
  ·exact .inl (by rw[hd];simp)
  ·exact .inr (xV h hd)
theorem yY(hm:P.follows .mixedOrders=true) {l6:Bool} {D:List CO} (hc:xM P ops ops.toList=some D) (ro:List Nat) (hd:l6=true->∃cJ T,jJ cJ ops.toList D=true/\yN T (kO ro 0 D) cJ=true/\lR T s.nx 0 (kO ro 0 D)=true/\pO T s) (M:gJ nt D=true) (R:Rel P nt n0 w0 π0 U s a w β τ π) (hU:∀n,U n->n<s.nx) (h:je (Pure P) s.nx 0 (kO ro 0 D) K s) {T:Nat->Prop} (hT:∀d,d∈dstsOf D->¬T d) (hQ:∀s' a' w β τ π U,(∀n,U n->n<s.nx+D.length)->K s'->qA T a a'->Rel P nt n0 w0 π0 U s' a' w β τ π->Q .normal a' w):(Code.region id ops l6).wpIn (FW r) m P Q a w:=by
 obtain⟨V,O⟩:=uJ hc
 have hd:l6=true->∃cJ T,jJ cJ ops.toList (kO ro 0 D)=true/\yN T (kO ro 0 D) cJ=true/\lR T s.nx 0 (kO ro 0 D)=true/\pO T s:=λe=>by
  obtain⟨cJ,T,h1,h2⟩:=hd e;exact⟨cJ,T,PZ h1,h2⟩
 have M:gJ nt (kO ro 0 D)=true:=by rw[Oi];exact M
 have hT:∀d,d∈dstsOf (kO ro 0 D)->¬T d:=by rw[J8];exact hT
 have L:(kO ro 0 D).length=ops.size:=by rw[Im];simpa using V
 have hQ:∀s' a' w β τ π U,(∀n,U n->n<s.nx+(kO ro 0 D).length)->K s'->qA T a a'->Rel P nt n0 w0 π0 U s' a' w β τ π->Q .normal a' w:=by rw[Im];exact hQ
 have Z:∀(i:Nat) (o:Oper) (c:CO),ops[i]? =some o->(kO ro 0 D)[i]? =some c->A0 P ops o c:=λi o c h1 h2=>by
  obtain⟨c0,h3,h4⟩:=Oh h2
  exact⟨c0,O i o c0 (by simpa using h1) h3,h4⟩
 clear V O hc;generalize kO ro 0 D=cos at*
 have hT:∀(i:Nat) (c:CO) (d:Nat),cos[i]? =some c->c.dst=some d->¬T d:=λi c d hi hd=>hT d (xV (et hi) hd)
 have M:=rU M
 rw[L]at hQ
 cases l6 with
 |false=>
  refine wpIn_region ?_
  have:=DR (r:=r) (m:=m) L Z M hT hQ cos 0 s a w β τ π U rfl (by simpa using L) (by simpa using hU) (.refl _ _) R h
  rw[L]at this;rw[List.range_eq_range'];exact this
 |true=>
  obtain⟨cJ,Tb,ak,aa,ac,ae⟩:=hd rfl
  have ab:∀k ok,cos[k]? =some ok->rM Tb (s.nx+k) ok=true:=λk ok hk=>by have:=rT ac k ok hk;rwa[kr]at this
  refine wpIn_region_any hm ?_
  have R':Rel P nt n0 w0 π0 (UL s.nx (Array.replicate ops.size false)) s a w.drew β τ π:=R.draw.sub λn hn=>.inl (hU n hn)
  have h2:je (Pure P) s.nx 0 cos (λs2=>∃s1,t9 s1 s2/\K s1) s:=by
   clear hQ
   have ag:∀(base':Nat) (r:List CO) (i:Nat) (s:S) {K':S->Prop},(∀s,K s->K' s)->je (Pure P) base' i r K s->je (Pure P) base' i r K' s:=by
    intro base' r
    induction r with
    |nil=>intro i s K' hk h;exact hk s h
    |cons o r ih=>
     intro i s K' hk h;rw[qn]at h⊢;obtain⟨v,d,hd,ad,_⟩:=gj h;exact hd.2 s .refl _ (ih _ _ hk ad)
   exact ag s.nx cos 0 s (λs h=>⟨s,.refl,h⟩) h
  have h3:=uI ab aa (λs s2 he ⟨s1,h1,hk⟩=>⟨s1,h1.trans he,hk⟩) L ak cos 0 (Array.replicate ops.size false) s rfl (by simpa using L) aaP (λj hj=>by simp[hj]) R'.gK ae h2
  rw[L]at h3
  refine P2 Z M hT ?_ ops.size _ s a w.drew β τ π aaP (.refl _ _) R' h3
  rintro s2 a w β τ π U hU ⟨s1,he,hk⟩ hp R2
  exact hQ s1 a w β τ π U hU hk hp (R2.seq he.symm)
end
end
end Go.Eng
