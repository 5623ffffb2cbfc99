/- Part 6 of the engine and its library. -/
import Derived.Test.YtjnbemnncjbmgaaGreatPk5
set_option linter.all false
set_option maxRecDepth 10000
set_option maxHeartbeats 4000000
namespace Go.Eng
open Go
section
variable {i:Nat} {listed:Array Bool}
theorem yo(h:listed.getD i true=false):listed.getD i false=false:=by
 rcases ma i listed.size with D|D
 ·simp[D]at h⊢;exact h
 ·simp[In D]at h
theorem Q0(D:i<listed.size) (h:listed.getD i false=false):listed.getD i true=false:=by
 simp[D]at h⊢;exact h
def KJ(C:aT) (base:Nat) (ops:Array Oper) (cos:List CO) (K:S->Prop):Nat->Array Bool->S->Prop
 |0,l,s=>Region.ready .any ops l=[]/\K s
 |f+1,l,s=>(Region.ready .any ops l=[]->K s)/\∀i∈Region.ready .any ops l,∃o,cos[i]? =some o/\kR C (base+i) o (KJ C base ops cos K f (l.setIfInBounds i true)) s
def UL(base:Nat) (l:Array Bool):Nat->Prop:=λn=>n<base\/∃i,n=base+i/\l.getD i false=true
end
section
variable{C:aT} {base:Nat} {ops:Array Oper} {cos:List CO} {K:S->Prop}
section
variable {i:Nat} {l:Array Bool}
theorem Gg(hK:∀s s2,vR s s2->K s->K s2):∀(f:Nat) (l:Array Bool) (s s2:S),vR s s2->KJ C base ops cos K f l s->KJ C base ops cos K f l s2
 |0,l,s,s2,D,h=>⟨h.1,hK _ _ D h.2⟩
 |f+1,l,s,s2,D,h=>⟨λL=>hK _ _ D (h.1 L),λi O=>by
   obtain⟨o,M,R⟩:=h.2 i O;refine⟨o,M,?_⟩;obtain⟨v,d,hd,hk,_⟩:=gL R
   exact hd.2 s2 D.agr _ (Gg hK f _ _ _ ((D.app d _).put _ _) hk)⟩
theorem Gh(h:l.getD i true=false):¬UL base l (base+i):=by
 rintro(L|⟨k,hk,D⟩)
 ·omega
 ·have:k=i:=ado
  subst this;rw[yo h]at D;cases D
theorem KK(L:i<l.size) {n:Nat} (h:fQ (UL base l) (base+i) n):UL base (l.setIfInBounds i true) n:=by
 rcases h with(h|⟨k,hk,D⟩)|h
 ·exact .inl h
 ·exact .inr ⟨k,hk,getD_set_true D⟩
 ·exact .inr ⟨i,h,by simp[L]⟩
theorem nw{M:Region.Mode} (h:i∈Region.ready M ops l):i<l.size:=by
 have L:=(H5.1 h).1
 rcases ma i l.size with D|D
 ·exact D
 ·simp[In D]at L
def wF(ops:Array Oper) (l:Array Bool):Prop:=∀k ok,ops[k]? =some ok->l.getD k false=true->∀e∈ok.after,Region.binds .any e=true->l.getD e.on false=true
theorem wF.set(h:wF ops l) (hi:i∈Region.ready .any ops l):wF ops (l.setIfInBounds i true):=by
 obtain⟨_,Z,M,L⟩:=H5.1 hi;intro k ok hk O e V R
 by_cases D:i=k
 ·subst D
  have:ok=Z:=Ax (hk.symm.trans M)
  subst this;exact getD_set_true (L e V R)
 ·rw[getD_set_ne false D]at O
  exact getD_set_true (h k ok hk O e V R)
theorem S8(hc:wF ops l) {j:Nat} (hi:l.getD i true=false) (hj:j∈Region.ready .any ops l) {Z:Oper} (ad:ops[j]? =some Z):
  Z.after.any (λe=>Region.binds .any e&&e.on==i)=false/\waits ops.toList i Z=false:=by
 obtain⟨_,ab,V,D⟩:=H5.1 hj
 have:ab=Z:=Ax (V.symm.trans ad)
 subst this
 have O:=yo hi
 constructor
 ·rw[zr]
  intro h;obtain⟨e,he,L⟩:=acT.1 h;simp only[ed,l4]at L
  have:=D e he L.1
  rw[L.2,O]at this;cases this
 ·rw[zr]
  intro h;obtain⟨e,he,L⟩:=acT.1 h;simp only[ed,na,l4]at L
  have h1:=D e he L.1
  rcases L.2 with R|R
  ·rw[R,O]at h1;cases h1
  ·split at R
   ·rename_i ok ac
    obtain⟨e',aa,M⟩:=acT.1 R;simp only[ed,l4]at M
    have h3:=hc e.on ok (by simpa using ac) h1 e' aa M.1
    rw[M.2,O]at h3;cases h3
   ·cases R
end
end
section
variable {T:List (Nat×Tag)} {s:S} {x y:CO}
def rI(T:List (Nat×Tag)) (s:S):Prop:=∀t b,Ml b s t->(look T t).CX b=true
theorem Ed{C:aT} {id:Nat} {o:CO} {v:SV} {d:Delta} (hd:Pq C id o s v d) (L:tW T id o=true) (hR:rI T s):rI T ((d.app' id s).put o.dst v):=by
 rintro t b ⟨u0,D,M⟩
 rw[t6]at D;split at D
 ·rename_i e
  cases D;unfold tW at L;rw[e]at L;simp only at L
  cases hz:look T t with
  |none=>rfl
  |some z=>
   rw[hz]at L;simp only at L
   rcases hd.1.2 b M with⟨rfl,V⟩|⟨u,hu,ab⟩
   ·rw[fp V]at L
    simpa[Tag.CX]using L
   ·have aa:¬o.op.U9=true:=λV=>by
     revert hu V;cases o.op<;>simp[bU.v7,bU.U9]
    rw[fb aa]at L
    have h1:=mt.1 L u hu
    have O:=hR u b ab
    cases R:look T u with
    |none=>rw[R]at h1;cases h1
    |some z'=>
     rw[R]at h1 O;simp only[na,l4]at h1;simp only[Tag.CX,l4]at O⊢
     rcases h1 with h1|h1
     ·rw[h1]at O;cases O
     ·rw[<-h1];exact O
 ·rw[t7]at D
  cases Z:lk t s.slots with
  |none=>rw[Z]at D;cases D
  |some w=>
   rw[Z]at D;simp only[mn,fx]at D
   rcases nv d w with h|⟨b',v',_,_,_,h,hf,_⟩
   ·rw[h]at D;subst D;exact hR t b ⟨_,Z,M⟩
   ·rw[h]at D;subst D;exact absurd M (hf.2 _)
theorem Vy{z D:Tag} {b:Nat} (h:z.dis D=true) (M:z.CX b=true) (L:D.CX b=true):False:=by
 cases z with
 |none=>cases D with
  |none=>cases h
  |some D=>cases D with
   |none=>simp[Tag.CX]at L
   |some O=>cases h
 |some z=>cases z with
  |none=>simp[Tag.CX]at M
  |some a=>cases D with
   |none=>cases h
   |some D=>cases D with
    |none=>simp[Tag.CX]at L
    |some O=>
     simp[Tag.CX]at M L;subst M;subst L;simp[Tag.dis]at h
theorem MK(h:x.half T y=true) (hR:rI T s):Clear x y s:=by
 rintro b ⟨t,R,O⟩
 have h:=mt.1 h t R
 simp only[ed,na,pA]at h
 refine⟨λu M D=>?_,λV u M D=>?_⟩
 ·exact Vy (mt.1 h.1 u M) (hR t b O) (hR u b D)
 ·rcases h.2 with L|L
  ·rw[V]at L;cases L
  ·exact Vy (mt.1 L u M) (hR t b O) (hR u b D)
theorem Jr(h:x.half [] y=true):x.half T y=true:=by
 unfold CO.half at h⊢;rw[mt]at h⊢;intro t L
 have h:=h t L
 simp only[ed,na,mt]at h⊢
 refine⟨λu D=>?_,h.2.imp id λM u D=>?_⟩
 ·have:=h.1 u D;cases this
 ·have:=M u D;cases this
theorem Pu(h:x.apart y=true):x.v8 T y=true:=by
 unfold CO.apart CO.v8 at*;simp only[ed]at h⊢;exact⟨⟨h.1.1,Jr h.1.2⟩,Jr h.2⟩
theorem Gi{T:List (Nat×Tag)} {ops:List CO} {i j:Nat} {x y:CO} (L:ops[i]? =some x) (D:ops[j]? =some y):∀{dG:List (Nat×Nat)},A6 T ops dG=true->dG.contains (i,j)=true->x.v8 T y=true
 |[],_,h=>by cases h
 |(k,l)::r,h,hm=>by
  simp only[A6,ed]at h;rw[List.contains_cons,na]at hm
  rcases hm with hm|hm
  ·have e:(i,j)=(k,l):=by simpa using hm
   cases e
   have:=h.1
   rw[L,D]at this;exact this
  ·exact Gi L D h.2 hm
theorem t8{T:List (Nat×Tag)} {base:Nat}:∀{l:List CO} {i:Nat},m8 T base i l=true->∀(k:Nat) (o:CO),l[k]? =some o->tW T (base+(i+k)) o=true
 |[],i,h,k,o,hk=>by simp at hk
 |a::l,i,h,k,o,hk=>by
  simp only[m8,ed]at h
  cases k with
  |zero=>simp at hk;subst hk;exact h.1
  |succ k=>
   have:=t8 h.2 k o (by simpa using hk)
   rw[show i+(k+1)=i+1+k by omega];exact this
theorem wG{base:Nat}:∀{l:List CO} {i:Nat},m8 [] base i l=true
 |[],i=>rfl
 |a::l,i=>by
  simp only[m8,ed];refine⟨?_,wG⟩;unfold tW
  split<;>rfl
theorem oK{T:List (Nat×Tag)}:∀{sl:List (Nat×SV)},m7 T sl=true->∀t b v,lk t sl=some v->v.has b->(look T t).CX b=true
 |[],_,t,b,v,L,_=>by cases L
 |(m,u)::r,h,t,b,v,L,D=>by
  simp only[lk,lA]at L;split at L
  ·rename_i e
   cases L;subst e
   cases u<;>try(exact D.elim)
   ·have D:_=b:=D
    subst D;simp only[m7,ed]at h;exact h.1
   ·have D:_=b:=D
    subst D;simp only[m7,ed]at h;exact h.1
   ·simp only[m7,ed]at h
    obtain⟨p,M,rfl⟩:=D;exact mt.1 h.1 p M
  ·refine oK (sl:=r) ?_ t b v L D
   cases u<;>first|exact h|(simp only[m7,ed]at h;exact h.2)
end
section
variable{C:aT} {base:Nat} {ops:Array Oper} {cos:List CO} {K:S->Prop} {T:List (Nat×Tag)}
theorem Pv(hT:∀k ok,cos[k]? =some ok->tW T (base+k) ok=true) (hK:∀s s2,vR s s2->K s->K s2) (bd:cos.length=ops.size) {i:Nat} {oi:CO} (hi:cos[i]? =some oi):
  ∀(f:Nat) (l:Array Bool) (s:S),
   (∀j pj O,ops[j]? =some pj->cos[j]? =some O->j≠i->l.getD j true=false->pj.after.any (λe=>Region.binds .any e&&e.on==i)=false->waits ops.toList i pj=false->oi.v8 T O=true)->
   wF ops l->i∈Region.ready .any ops l->s.iA (UL base l)->rI T s->kR C (base+i) oi (KJ C base ops cos K f (l.setIfInBounds i true)) s->KJ C base ops cos K (f+1) l s:=by
 intro f
 induction f with
 |zero=>
  intro l s _ _ hr hU hR H
  refine⟨λh=>(by rw[h]at hr;cases hr),λj R=>?_⟩
  by_cases D:j=i
  ·subst D;exact⟨oi,hi,H⟩
  ·obtain⟨v,d,hd,hk,_⟩:=gL H
   have:=ready_mono R D
   rw[hk.1]at this;cases this
 |succ f ih=>
  intro l s hfree ak hr hU hR H
  refine⟨λh=>(by rw[h]at hr;cases hr),λj R=>?_⟩
  by_cases D:j=i
  ·subst D;exact⟨oi,hi,H⟩
  ·obtain⟨vi,di,ae,a4,be⟩:=gL H
   obtain⟨O,ab,au⟩:=a4.2 j (ready_mono R D)
   obtain⟨vj,dj,aa,a7,bi⟩:=gL au
   have M:=(H5.1 R).1
   have Z:=(H5.1 hr).1
   obtain⟨pj,ag,_⟩:=(H5.1 R).2
   obtain⟨w1,w2⟩:=S8 ak Z R ag
   have L:=hfree j pj O ag ab D M w1 w2
   unfold CO.v8 at L;simp only[ed]at L
   obtain⟨a1,a2,a3⟩:=ZK L.1.1 hU (Gh Z) (Gh M) ado (MK L.1.2 hR) (MK L.2 hR) ae aa
   -- the state behind j
   have V:kR C (base+j) O (λs3=>s3=(dj.app' (base+j) s).put O.dst vj) s:=aa.2 s a1 _ rfl
   have an:((dj.app' (base+j) s).put O.dst vj).iA (UL base (l.setIfInBounds j true)):=by
    obtain⟨v',d',_,ac,a6⟩:=gL V
    have:=a6 _ hU
    rw[ac]at this
    exact Fj (λn hn=>KK (nw R) hn) this
   have am:rI T ((dj.app' (base+j) s).put O.dst vj):=by
    obtain⟨v',d',a9,ac,_⟩:=gL V
    have:=Ed a9 (hT j O ab) hR
    rw[ac]at this;exact this
   refine⟨O,ab,aa.2 s a1 _ ?_⟩;refine ih (l.setIfInBounds j true) _ ?_ (ak.set R) (ready_mono hr (Ne.symm D)) an am ?_
   ·intro k pk ok ba a8 ar ad a5 ao
    refine hfree k pk ok ba a8 ar ?_ a5 ao
    by_cases al:j=k
    ·subst al;exact M
    ·rw[getD_set_ne true al]at ad;exact ad
   ·refine ae.2 _ a2 _ ?_
    rw[Array.setIfInBounds_comm _ _ D];exact Gg hK f _ _ _ a3 a7
end
section
variable {C:aT} {id:Nat} {s:S}
theorem Bf{dG:List (Nat×Nat)} {ops:List Oper} {i:Nat} {x:CO}:∀{os:List Oper} {R:List CO} {k:Nat},qK dG ops i x k os R=true->∀(j:Nat) (D:Oper) (L:CO),os[j]? =some D->R[j]? =some L->i<k+j->
  D.after.any (λe=>Region.binds .any e&&e.on==i)=true\/x.apart L=true\/waits ops i D=true\/dG.contains (i,k+j)=true
 |[],R,k,h,j,D,L,M,O,V=>by simp at M
 |o::os,[],k,h,j,D,L,M,O,V=>by simp at O
 |o::os,y::R,k,h,j,D,L,M,O,V=>by
  simp only[qK,ed,na,ii]at h
  cases j with
  |zero=>
   simp at M O;subst M;subst O
   rcases h.1 with(((h|h)|h)|h)|h
   ·omega
   ·exact .inl h
   ·exact .inr (.inl h)
   ·exact .inr (.inr (.inl h))
   ·exact .inr (.inr (.inr h))
  |succ j=>
   have:=Bf h.2 j D L (by simpa using M) (by simpa using O) ado
   rw[show k+1+j=k+(j+1)by omega]at this
   exact this
theorem m9{dG:List (Nat×Nat)} {ops:List Oper} {cos:List CO}:∀{os:List Oper} {M:List CO} {k:Nat},pz dG ops cos k os M=true->∀(i:Nat) (Z:Oper) (V:CO),os[i]? =some Z->M[i]? =some V->
  (∀e∈Z.after,Region.binds .any e=true->e.on<k+i)/\qK dG ops (k+i) V 0 ops cos=true
 |[],M,k,h,j,R,O,D,L=>by simp at D
 |o::os,[],k,h,j,R,O,D,L=>by simp at L
 |o::os,y::M,k,h,j,R,O,D,L=>by
  simp only[pz,ed]at h
  cases j with
  |zero=>
   simp at D L;subst D;subst L
   refine⟨λe he hb=>?_,h.1.2⟩
   have:=Array.all_eq_true_iff_forall_mem.1 h.1.1 e he
   simpa[hb]using this
  |succ j=>
   have:=m9 h.2 j R O (by simpa using D) (by simpa using L)
   rw[show k+1+j=k+(j+1)by omega]at this
   exact this
def Ro(x D:CO):Prop:=D=x\/D=x.ro
theorem Ro.dst{x D:CO} (h:Ro x D):D.dst=x.dst:=by rcases h with rfl|rfl<;>rfl
theorem Ro.rd{x D:CO} (h:Ro x D):D.rd=x.rd:=by
 rcases h with rfl|rfl
 ·rfl
 ·cases x with|mk d o g=>cases o<;>rfl
theorem Ro.y6{x D:CO} (h:Ro x D):D.op.y6=x.op.y6:=by
 rcases h with rfl|rfl
 ·rfl
 ·cases x with|mk d o g=>cases o<;>rfl
theorem Ro.app{x D:CO} (h:Ro x D):D.op.isApp=x.op.isApp:=by
 rcases h with rfl|rfl
 ·rfl
 ·cases x with|mk d o g=>cases o<;>rfl
theorem Ro.KE{x D:CO} (h:Ro x D):D.op.D6=x.op.D6:=by
 rcases h with rfl|rfl
 ·rfl
 ·cases x with|mk d o g=>cases o<;>rfl
theorem Ro.QK{x D:CO} (h:Ro x D):D.op.QK=x.op.QK\/D.op.QK=[]:=by
 rcases h with rfl|rfl
 ·exact .inl rfl
 ·cases x with|mk d o g=>cases o<;>first|exact .inl rfl|exact .inr rfl
theorem Ro.indep{x O y M:CO} (D:Ro x O) (L:Ro y M):O.indep M=x.indep y:=by
 simp only[CO.indep,D.dst,L.dst,D.rd,L.rd,D.app,L.app]
theorem Ro.half{T:List (Nat×Tag)} {x M y D:CO} (L:Ro x M) (O:Ro y D) (h:x.half T y=true):M.half T D=true:=by
 simp only[CO.half,O.y6,O.rd,L.KE]at h⊢
 rcases L.QK with e|e
 ·rw[e];exact h
 ·rw[e];rfl
theorem Ro.apart{x O y M:CO} (D:Ro x O) (L:Ro y M) (h:x.apart y=true):O.apart M=true:=by
 simp only[CO.apart,CO.v8,ed]at h⊢
 exact⟨⟨by rw[D.indep L];exact h.1.1,D.half L h.1.2⟩,L.half D h.2⟩
theorem Q1{ro:List Nat}:∀{l:List CO} {k i:Nat} {D:CO},(lY ro k l)[i]? =some D->∃c,l[i]? =some c/\Ro c D
 |[],k,i,D,h=>by simp[lY]at h
 |o::l,k,0,D,h=>by
  simp only[lY,km,fx]at h;refine⟨o,rfl,?_⟩
  cases hk:ro.contains k with
  |true=>rw[hk]at h;exact .inr h.symm
  |false=>rw[hk]at h;exact .inl h.symm
 |o::l,k,i+1,D,h=>by
  simp only[lY,kp]at h⊢;exact Q1 h
theorem KL{ro:List Nat}:∀{l:List CO} {k:Nat},(lY ro k l).length=l.length
 |[],k=>rfl
 |o::l,k=>by simp only[lY,fi,KL]
theorem ML{ro:List Nat}:∀{l:List CO} {k:Nat},dstsOf (lY ro k l)=dstsOf l
 |[],k=>rfl
 |o::l,k=>by
  simp only[lY,dstsOf,ML]
  cases ro.contains k<;>rfl
theorem Q2{n:Nat} {ro:List Nat}:∀{l:List CO} {k:Nat},iz n (lY ro k l)=iz n l
 |[],k=>rfl
 |o::l,k=>by
  simp only[lY,iz,Q2]
  cases ro.contains k<;>rfl
theorem Ro.of(ro:List Nat) (k:Nat) (o:CO):Ro o (bif ro.contains k then o.ro else o):=by
 cases ro.contains k
 ·exact .inl rfl
 ·exact .inr rfl
theorem Gj{dG:List (Nat×Nat)} {ops:List Oper} {i:Nat} {x M:CO} (L:Ro x M) {ro:List Nat}:∀{os:List Oper} {D:List CO} {k m:Nat},qK dG ops i x k os D=true->qK dG ops i M k os (lY ro m D)=true
 |[],D,k,m,h=>rfl
 |o::os,[],k,m,h=>rfl
 |o::os,y::D,k,m,h=>by
  simp only[lY,qK,ed,na,ii]at h⊢;refine⟨?_,Gj L h.2⟩
  rcases h.1 with(((h|h)|h)|h)|h
  ·exact .inl (.inl (.inl (.inl h)))
  ·exact .inl (.inl (.inl (.inr h)))
  ·exact .inl (.inl (.inr (L.apart (.of ro m y) h)))
  ·exact .inl (.inr h)
  ·exact .inr h
theorem Ee{dG:List (Nat×Nat)} {ops:List Oper} {cos:List CO} {ro:List Nat} {m:Nat}:∀{os:List Oper} {D:List CO} {k:Nat},pz dG ops cos k os D=true->pz dG ops (lY ro m cos) k os (lY ro k D)=true
 |[],D,k,h=>rfl
 |o::os,[],k,h=>rfl
 |o::os,y::D,k,h=>by
  simp only[lY,pz,ed]at h⊢;exact⟨⟨h.1.1,Gj (.of ro k y) h.1.2⟩,Ee h.2⟩
theorem S9{dG:List (Nat×Nat)} {ops:List Oper} {cos:List CO} {ro:List Nat} (h:kH dG ops cos=true):kH dG ops (lY ro 0 cos)=true:=Ee h
theorem Bg{l D:List (Nat×bV)} (h:∀b,cj b D=cj b l):∀{ids:List Nat},fj D ids=fj l ids
 |[]=>rfl
 |b::L=>by simp only[fj,h b,Bg h (ids:=L)]
theorem Gk{l:List (Nat×bV)}:∀{ids:List Nat} {css:List (List AV)},fj l ids=some css->aW l ids=some css
 |[],css,h=>h
 |b::O,css,h=>by
  simp only[fj]at h
  split at h<;>try(cases h;done)
  rename_i cs D M L;cases h;simp only[aW,M,Gk L]
theorem zZ:∀{ids:List Nat} {css:List (List AV)} {l:List (Nat×bV)},fj l ids=some css->∀b,cj b (dR ids css l)=cj b l
 |[],css,l,h,b=>rfl
 |i::O,css,l,h,b=>by
  simp only[fj]at h
  split at h<;>try(cases h;done)
  rename_i cs D M L;cases h
  have e:∀n,cj n (o7 i ⟨cs,[]⟩ l)=cj n l:=λn=>by
   rw[jz];split
   ·rename_i e;subst e;rw[M];rfl
   ·rfl
  rw[dR,zZ (by rw[Bg e];exact L),e]
theorem ad7{o:bU} {K:SV->S->Prop} (h:bF C id o.ro K s):bF C id o (λv R=>∃M,vR R M/\K v M) s:=by
 have same:bF C id o K s->bF C id o (λv R=>∃M,vR R M/\K v M) s:=λh=>by
  obtain⟨v,d,hK,_,_,_,hs⟩:=Be h;exact hs s .refl _ ⟨_,.refl,hK⟩
 cases o<;>try(exact same h)
 case ew f args=>
  obtain⟨p,V,L,h⟩:=ah (h:aj _ _)
  obtain⟨css,D,r,O,hK⟩:=ah h;simp only[bF,V,Gk D,ay]
  exact⟨L,r,none,css,O,s,⟨λ_=>rfl,λb=>(zZ D b).symm,λ_=>rfl⟩,hK⟩
 case gK g args=>
  obtain⟨a,Z,h⟩:=ah (h:aj _ _)
  cases a<;>try(exact h.elim)
  rename_i fn first caps
  cases fn<;>try(exact h.elim)
  rename_i f
  cases first<;>try(exact h.elim)
  cases caps<;>try(exact h.elim)
  obtain⟨p,V,L,h⟩:=ah h;obtain⟨css,D,r,O,hK⟩:=ah h;simp only[bF,Z,V,Gk D,ay]
  exact⟨L,r,none,css,O,s,⟨λ_=>rfl,λb=>(zZ D b).symm,λ_=>rfl⟩,hK⟩
theorem Vz{c O:CO} (R:Ro c O) {K:S->Prop} (h:kR C id O K s):kR C id c (λL=>∃D,vR L D/\K D) s:=by
 rcases R with rfl|rfl
 ·obtain⟨v,d,hd,hK,_⟩:=gL h
  exact hd.2 s .refl _ ⟨_,.refl,hK⟩
 ·have run:bF C id c.op.ro (λv L=>K (L.put c.dst v)) s->bF C id c.op (λv L=>∃D,vR (L.put c.dst v) D/\K D) s:=λh=>by
   have:=ad7 h
   obtain⟨v,d,⟨D,Z,hK⟩,_,_,_,V⟩:=Be this;exact V s .refl _ ⟨_,Z.put _ _,hK⟩
  cases c with
  |mk dst op g=>
   have h:gq s g (bF C id op.ro (λv L=>K (L.put dst v)) s) (K (s.put dst .undef)):=h
   show gq s g (bF C id op (λv L=>∃D,vR (L.put dst v) D/\K D) s) (∃D,vR (s.put dst .undef) D/\K D)
   unfold gq at h⊢
   cases g with
   |none=>exact run h
   |some p=>
    obtain⟨t,want⟩:=p;simp only at h⊢
    cases M:lk t s.slots with
    |none=>simp[M]at h
    |some v=>
     simp only[M]at h
     cases v with
     |ptr b o=>exact h.elim
     |rp cs=>exact h.elim
     |vs _ _ _ _=>exact h.elim
     |nX _ _ _=>exact h.elim
     |raw _ _=>exact h.elim
     |pt _ _=>exact h.elim
     |undef=>exact⟨_,.refl,h⟩
     |dat a q=>
      cases a<;>try(exact h.elim)
      exact⟨λe=>run (h.1 e),λe=>⟨_,.refl,h.2 e⟩⟩
end
section
variable{C:aT} {base:Nat} {ops:Array Oper} {cos:List CO} {K:S->Prop}
theorem wH{T:List (Nat×Tag)} {dG:List (Nat×Nat)} (hT:∀k ok,cos[k]? =some ok->tW T (base+k) ok=true) (aa:A6 T cos dG=true) (hK:∀s s2,vR s s2->K s->K s2) (M:cos.length=ops.size) (ac:kH dG ops.toList cos=true):
  ∀(rest:List CO) (i:Nat) (l:Array Bool) (s:S),cos.drop i=rest->i+rest.length=ops.size->l.size=ops.size->(∀j,j<ops.size->l.getD j false=decide (j<i))->
   s.iA (UL base l)->rI T s->jM C base i rest K s->KJ C base ops cos K rest.length l s
 |[],i,l,s,hd,hn,hl,D,hU,hR,h=>by
  refine⟨?_,h⟩;rw[List.eq_nil_iff_forall_not_mem];intro j hj
  have h1:=(H5.1 hj).1
  have h2:=nw hj
  have h3:=D j ado
  rw[yo h1]at h3;simp at hn h3;omega
 |o::rest,i,l,s,hd,hn,hl,D,hU,hR,h=>by
  have Z:cos[i]? =some o:=by
   have:(cos.drop i)[0]? =some o:=by rw[hd];rfl
   simpa using this
  have L:i<ops.size:=by simp at hn;omega
  have ad:ops[i]? =some ops[i]:=by simp[L]
  obtain⟨O,ab⟩:=m9 ac i ops[i] o (by simpa using ad) Z
  simp only[lc]at O ab
  have a6:l.getD i true=false:=by
   have:=D i L
   simp at this
   exact Q0 ado (by simpa using this)
  have ba:wF ops l:=by
   intro k ok hk ar e he hb
   have ae:k<ops.size:=(kt.1 hk).1
   rw[D k ae]at ar;simp at ar
   obtain⟨bd,a5⟩:∃x,cos[k]? =some x:=⟨cos[k]' ado,by simp[M,ae]⟩
   have:=(m9 ac k ok bd (by simpa using hk) a5).1 e he hb
   rw[D e.on ado]
   simp;omega
  have hr:i∈Region.ready .any ops l:=by
   rw[H5]
   refine⟨a6,ops[i],ad,λe he hb=>?_⟩
   have:=O e he hb
   rw[D e.on ado]
   simpa using this
  refine Pv hT hK M Z rest.length l s ?_ ba hr hU hR ?_
  ·intro j pj oj am ao be a3 a7 a4
   have a9:j<ops.size:=(kt.1 am).1
   have an:=D j a9
   rw[yo a3]at an;simp at an
   have V:i<0+j:=ado
   rcases Bf ab j pj oj (by simpa using am) ao V with h|h|h|h
   ·rw[a7]at h;cases h
   ·exact Pu h
   ·rw[a4]at h;cases h
   ·rw[lc]at h;exact Gi Z ao aa h
  ·rw[sC]at h
   obtain⟨v,d,R,au,a8⟩:=gL h
   have ak:=a8 _ hU
   have al:=Ed R (hT i o Z) hR
   refine R.2 s .refl _ ?_;generalize(d.app' (base+i) s).put o.dst v=s' at au ak al
   have a2:(l.setIfInBounds i true).size=ops.size:=by simp[hl]
   refine wH hT aa hK M ac rest (i+1) _ s' ?_ (by simp at hn⊢;omega) a2 (λj hj=>?_) (Fj (λn hn=>KK ado hn) ak) al au
   ·rw[<-List.tail_drop,hd];rfl
   ·by_cases V:i=j
    ·subst V;simp[hl,L]
    ·rw[getD_set_ne false V,D j hj]
     by_cases ag:j<i
     ·simp[ag];omega
     ·simp[ag];omega
end
section
variable{P:Program} {nt:Nat} {n0:gV} {w0:World} {π0:Nat->Nat->Prop} {U:Nat->Prop} {s:S} {a:Act} {w:World} {β:Nat->Nat} {τ:Nat->Value} {π:Nat->Nat->Prop}
section
variable {K:S->Prop} {Q:Exit->Act->World->Prop} {args:Array Value} {c:CO} {id m n:Nat} {next:Act->World->Prop} {o:Oper} {ops:Array Oper} {r:Option Nat} (T:Nat->Prop)
theorem Rel.iA(R:Rel P nt n0 w0 π0 U s a w β τ π):s.iA U:=
 ⟨λt v M=>(R.slots t v M).2,λb x L=>⟨(R.boxes b x L).1,λo q D=>(R.boxes b x L).2.2.2 o q D⟩,λq e D=>(R.live q e D).1⟩
theorem Rel.seq(R:Rel P nt n0 w0 π0 U s a w β τ π) {s2:S} (h:vR s s2):Rel P nt n0 w0 π0 U s2 a w β τ π where
 size:=R.size
 slots:=λt v hv=>R.slots t v (by rw[<-h.slots];exact hv)
 boxes:=λb x L=>R.boxes b x (by rw[<-h.boxes];exact L)
 inj:=λb V x x' L O=>R.inj b V x x' (by rw[<-h.boxes];exact L) (by rw[<-h.boxes];exact O)
 live:=λq e D=>R.live q e (by rw[<-h.live];exact D)
 dr:=λq q' e Z B D M=>R.dr q q' e Z B (by rw[<-h.live];exact D) (by rw[<-h.live];exact M)
 dw:=λq e b x D L=>R.dw q e b x (by rw[<-h.live];exact D) (by rw[<-h.boxes];exact L)
 below:=R.below
 gG:=R.gG
 eZ:=R.eZ
 eU:=R.eU
 dz:=R.dz
 mJ:=R.mJ
 jH:=R.jH
 kept:=R.kept
theorem Rel.nx(R:Rel P nt n0 w0 π0 U s a w β τ π) (n:Nat):Rel P nt n0 w0 π0 U {s with nx:=n} a w β τ π:=
 R.seq ⟨λ_=>rfl,λ_=>rfl,λ_=>rfl⟩
theorem Ef{g D:Option (Nat×Bool)} (h:Kw ops g=some D):(g=none/\D=none)\/∃j w t,g=some (j,w)/\(ops[j]?).bind (·.dst)=some t/\D=some (t,w):=by
 unfold Kw at h;split at h
 ·cases h;exact .inl ⟨rfl,rfl⟩
 ·rename_i j w
  split at h
  ·rename_i t L
   cases h;exact .inr ⟨j,w,t,rfl,L,rfl⟩
  ·cases h
theorem Gl(R:Rel P nt n0 w0 π0 U s a w β τ π) (ab:¬U id) (hc:qJ P ops o=some c) (D:∀d,c.dst=some d->d<nt) (h:kR (Pure P) id c K s) (hn:∀M x w' β' τ' π',K M->Rel P nt n0 w0 π0 (fQ U id) M (a.put o.dst x) w' β' τ' π'->next (a.put o.dst x) w'):
  if Region.wanted o (yielded ops a.tmps)then o.wp P a w next Q else next (a.put o.dst undef) w:=by
 unfold qJ at hc
 split at hc<;>try(cases hc;done)
 rename_i ad g L hg;cases hc;simp only at D
 have run:bF (Pure P) id ad (λv M=>K (M.put o.dst v)) s->o.wp P a w next Q:=λh=>by
  unfold Vd at L;split at L
  ·rename_i c' O
   cases L
   exact Pp R ab O h λv M x w' β' τ' π' hK Z V R'=>hn _ _ _ _ _ _ hK (R'.put o.dst D Z V)
  ·split at L
   ·rename_i c' O
    cases L
    exact Po R O h λv M x w' β' τ' π' hK Z V R'=>hn _ _ _ _ _ _ hK (R'.put o.dst D Z V)
   ·exact yj R ab L h λv M x w' β' τ' π' hK Z V R'=>hn _ _ _ _ _ _ hK (R'.put o.dst D Z V)
 have skip:K (s.put o.dst .undef)->next (a.put o.dst undef) w:=λh=>
  hn _ _ _ _ _ _ h ((R.sub λn h=>.inl h).put o.dst D rfl trivial)
 unfold kR gq at h
 rcases Ef hg with⟨h1,h2⟩|⟨j,want,t,h1,h2,h3⟩
 ·subst h2
  simp only at h;simp only[Region.wanted,h1,kw];exact run h
 ·subst h3
  simp only at h
  cases hl:lk t s.slots with
  |none=>simp[hl]at h
  |some v=>
   obtain⟨⟨x,hx,ac⟩,al⟩:=R.slots t v hl;simp only[hl]at h
   have hy:∀b,x=.bool b->yielded ops a.tmps j=some b:=λb hb=>by
    unfold yielded;rw[h2];simp[hx,hb]
   cases v with
   |ptr b o=>exact h.elim
   |rp cs=>exact h.elim
   |vs _ _ _ _=>exact h.elim
   |nX _ _ _=>exact h.elim
   |raw _ _=>exact h.elim
   |pt _ _=>exact h.elim
   |undef=>
    have ae:x=undef:=ac
    have ag:yielded ops a.tmps j=none:=by
     unfold yielded;rw[h2];simp[hx,ae,undef]
    simp only[Region.wanted,h1,ag];exact skip h
   |dat av q=>
    cases av<;>try(exact h.elim)
    rename_i b
    have ak:x=.bool b:=ac.1.wq
    simp only[Region.wanted,h1,hy b ak]
    by_cases hb:b=want
    ·subst hb;simp;exact run (h.1 rfl)
    ·have aa:b=!want:=by cases b<;>cases want<;>first|rfl|exact absurd rfl hb
     have:(some b==some want)=false:=by subst aa;cases want<;>rfl
     rw[this];exact skip (h.2 aa)
def De(P:Program) (ops:Array Oper) (o:Oper) (D:CO):Prop:=∃c,qJ P ops o=some c/\Ro c D
theorem MM(R:Rel P nt n0 w0 π0 U s a w β τ π) (O:¬U id) (Z:De P ops o c) (D:∀d,c.dst=some d->d<nt) (h:kR (Pure P) id c K s) (hn:∀L x w' β' τ' π',K L->Rel P nt n0 w0 π0 (fQ U id) L (a.put o.dst x) w' β' τ' π'->next (a.put o.dst x) w'):
  if Region.wanted o (yielded ops a.tmps)then o.wp P a w next Q else next (a.put o.dst undef) w:=by
 obtain⟨c0,M,V⟩:=Z
 refine Gl R O M (λd hd=>D d (by rw[V.dst];exact hd)) (Vz V h) ?_
 rintro L x w' β' τ' π' ⟨s0,he,hk⟩ R'
 exact hn s0 x w' β' τ' π' hk (R'.seq he)
def FW(r:Option Nat):Fence:={Fence.wide with round:=r}
theorem Gm{f:FuncId} {w:World} {R:Ending->World->Prop}:CallsIn (FW r) n P f args w R↔Calls P f args w R:=
 ⟨λh=>Ix.1 (show CallsIn Fence.wide n P f args w R from h),λh=>(show CallsIn Fence.wide n P f args w R from Ix.2 h)⟩
theorem Ta{row:String} {w:World} {R:Value->World->Prop} (h:Rows P row args w R):RowsIn (FW r) n P row args w R:=
 λc cs _=>let ⟨v,w',hr,s⟩:=h c cs;⟨v,w',hr,(show StepsIn (Machine.fenced P Fence.wide) P _ _ from stepsIn_wide.2 s)⟩
theorem acZ{a:Act} {w:World} {K:Act->World->Prop} (h:o.wp P a w K Q) (hd:∀c,o.op≠.defer c):o.wpIn (FW r) n P a w K Q:=by
 refine⟨λ_ _=>trivial,?_⟩
 rw[Oper.semAt_eq _ _ _ hd];unfold Oper.wp at h;generalize(execOp a.eval o).run P w=res at h⊢
 cases res with
 |ok x w'=>
  cases x<;>simp only[Oper.upon,Oper.uponIn]at h⊢<;>first
   |exact h
   |exact h.elim
   |exact⟨λhd=>by simp[FW,Fence.wide]at hd,Gm.2 h⟩
   |exact⟨λhd=>by simp[FW,Fence.wide]at hd,Ta h⟩
 |halt x w'=>cases x<;>simp only[Oper.upon,Oper.uponIn]at h⊢<;>first|exact h|exact h.elim
def sF(a0 a:Act):Prop:=a.defers=a0.defers/\∀t,T t->a.tmps[t]? =a0.tmps[t]?
theorem sF.refl(a:Act):sF T a a:=⟨rfl,λ_ _=>rfl⟩
theorem sF.put{T:Nat->Prop} {a0 a:Act} (h:sF T a0 a) {d:Option Nat} (hd:∀t,d=some t->¬T t) (x:Value):sF T a0 (a.put d x):=by
 cases d with
 |none=>exact h
 |some d=>
  refine⟨h.1,λt L=>?_⟩
  have D:t≠d:=λe=>hd d rfl (e▸L)
  simp only[Act.put];rw[H1 (Ne.symm D)];exact h.2 t L
theorem z0(R:Rel P nt n0 w0 π0 U s a w β τ π) {i:Nat} (ho:ops[i]? =some o) (O:¬U id) (D:De P ops o c) (L:∀d,c.dst=some d->d<nt) (h:kR (Pure P) id c K s) (hn:∀Z x w' β' τ' π',K Z->Rel P nt n0 w0 π0 (fQ U id) Z (a.put o.dst x) w' β' τ' π'->next (a.put o.dst x) w'):wpOpIn (FW r) n P ops Q i next a w:=by
 have:=MM R O D L h (Q:=Q) hn
 have V:∀c,o.op≠.defer c:=by
  intro c' e;obtain⟨c0,D,_⟩:=D;unfold qJ at D;rw[e]at D;simp[Vd,zR,S4,Zc]at D
 unfold wpOpIn;simp only[ho];split
 ·rename_i M;rw[fp M]at this;exact acZ this V
 ·rename_i M;rw[fb M]at this;exact⟨λ_ _=>trivial,this⟩
theorem Df(D:qJ P ops o=some c):c.dst=o.dst:=by
 unfold qJ at D
 split at D<;>try(cases D;done)
 cases D;rfl
theorem Gn(D:De P ops o c):c.dst=o.dst:=by
 obtain⟨O,M,L⟩:=D;rw[L.dst,Df M]
theorem wI{ops:Array Oper}:∀{l:List Oper} {cs:List CO},zS P ops l=some cs->cs.length=l.length/\∀(i:Nat) (o:Oper) (c:CO),l[i]? =some o->cs[i]? =some c->qJ P ops o=some c
 |[],cs,h=>by simp[zS]at h;subst h;exact⟨rfl,λi o c h=>by simp at h⟩
 |o::l,cs,h=>by
  unfold zS at h
  split at h<;>try(cases h;done)
  rename_i c Z O V;cases h;obtain⟨e,R⟩:=wI V
  refine⟨by simp[e],λi o' M L D=>?_⟩
  cases i with
  |zero=>simp at L D;subst L;subst D;exact O
  |succ i=>exact R i o' M (by simpa using L) (by simpa using D)
theorem t9{n:Nat}:∀{l:List CO},iz n l=true->∀(i:Nat) (c:CO) (d:Nat),l[i]? =some c->c.dst=some d->d<n
 |[],h,i,c,d,D,hd=>by simp at D
 |o::l,h,i,c,d,D,hd=>by
  simp only[iz,ed]at h
  cases i with
  |zero=>
   simp at D;subst D
   have:=h.1
   rw[hd]at this
   simpa using this
  |succ i=>exact t9 h.2 i c d (by simpa using D) hd
theorem Gp{ops:Array Oper} {cos:List CO} {base:Nat} (Z:cos.length=ops.size) (D:∀(i:Nat) (o:Oper) (c:CO),ops[i]? =some o->cos[i]? =some c->De P ops o c) (M:∀(i:Nat) (c:CO) (d:Nat),cos[i]? =some c->c.dst=some d->d<nt)
  {T:Nat->Prop} {a0:Act} (hT:∀(i:Nat) (c:CO) (d:Nat),cos[i]? =some c->c.dst=some d->¬T d) {r:Option Nat} {m:Nat}
  {K:S->Prop} {Q:Exit->Act->World->Prop} (hQ:∀s a w β τ π U,(∀n,U n->n<base+ops.size)->K s->sF T a0 a->Rel P nt n0 w0 π0 U s a w β τ π->Q .normal a w):
  ∀(rest:List CO) (i:Nat) (s:S) (a:Act) (w:World) (β:Nat->Nat) (τ:Nat->Value) (π:Nat->Nat->Prop) (U:Nat->Prop),cos.drop i=rest->i+rest.length=ops.size->(∀n,U n->n<base+i)->sF T a0 a->Rel P nt n0 w0 π0 U s a w β τ π->
   jM (Pure P) base i rest K s->wpOpsIn (FW r) m P ops Q (List.range' i rest.length) a w
 |[],i,s,a,w,β,τ,π,U,hd,hn,hU,hp,R,h=>hQ s a w β τ π U (λn h=>by have:=hU n h;simp at hn;omega) h hp R
 |o::rest,i,s,a,w,β,τ,π,U,hd,hn,hU,hp,R,h=>by
  have L:cos[i]? =some o:=by
   have:(cos.drop i)[0]? =some o:=by rw[hd];rfl
   simpa using this
  have V:i<ops.size:=by simp at hn;omega
  have O:ops[i]? =some ops[i]:=by simp[V]
  rw[sC]at h;simp only[fi,List.range'_succ];rw[wpOpsIn_cons]
  refine z0 R O (λh=>by have:=hU _ h;omega) (D i _ o O L) (M i o · L) h λs' x w' β' τ' π' hK R'=>?_
  refine Gp Z D M hT hQ rest (i+1) s' _ w' β' τ' π' _ ?_ (by simp at hn;omega) (λn h=>?_) (hp.put (λd hd=>hT i o d L (by rw[Gn (D i _ o O L)];exact hd)) x) R' hK
  ·rw[<-List.tail_drop,hd];rfl
  ·rcases h with h|h
   ·have:=hU n h;omega
   ·omega
theorem Tc{cos:List CO} {base:Nat} (D:∀(i:Nat) (o:Oper) (c:CO),ops[i]? =some o->cos[i]? =some c->De P ops o c) (O:∀(i:Nat) (c:CO) (d:Nat),cos[i]? =some c->c.dst=some d->d<nt) {T:Nat->Prop} {a0:Act} (hT:∀(i:Nat) (c:CO) (d:Nat),cos[i]? =some c->c.dst=some d->¬T d) (hQ:∀s a w β τ π U,(∀n,U n->n<base+ops.size)->K s->sF T a0 a->Rel P nt n0 w0 π0 U s a w β τ π->Q .normal a w):
  ∀(f:Nat) (l:Array Bool) (s:S) (a:Act) (w:World) (β:Nat->Nat) (τ:Nat->Value) (π:Nat->Nat->Prop),l.size=ops.size->sF T a0 a->Rel P nt n0 w0 π0 (UL base l) s a w β τ π->
   KJ (Pure P) base ops cos K f l s->wpAnyIn (FW r) m P .any ops Q f l a w:=by
 have small:∀l:Array Bool,l.size=ops.size->∀n,UL base l n->n<base+ops.size:=by
  rintro l M n (h|⟨i,Z,h⟩)
  ·omega
  ·have:i<l.size:=by
    rcases ma i l.size with h'|h'
    ·exact h'
    ·simp[In h']at h
   omega
 intro f
 induction f with
 |zero=>intro l s a w β τ π M hp R h;exact⟨h.1,hQ s a w β τ π _ (small l M) h.2 hp R⟩
 |succ f ih=>
  intro l s a w β τ π M hp R h
  refine⟨λh0=>hQ s a w β τ π _ (small l M) (h.1 h0) hp R,λi Z=>?_⟩
  obtain⟨o,V,hs⟩:=h.2 i Z;obtain⟨aa,pi,L,_⟩:=H5.1 Z
  refine z0 R L (Gh aa) (D i pi o L V) (O i o · V) hs λs' x w' β' τ' π' hK R'=>?_
  exact ih _ s' _ w' β' τ' π' (by simp[M]) (hp.put (λd hd=>hT i o d V (by rw[Gn (D i pi o L V)];exact hd)) x) (R'.sub λn hn=>KK (nw Z) hn) hK
theorem Aa{c:CO} {d:Nat}:∀{l:List CO},c∈l->c.dst=some d->d∈dstsOf l
 |o::l,h,hd=>by
  simp only[dstsOf,lr]
  rcases nm.1 h with rfl|h
  ·exact .inl (by rw[hd];simp)
  ·exact .inr (Aa h hd)
theorem Bh(hm:P.follows .mixedOrders=true) {nu:Bool} {D:List CO} (hc:zS P ops ops.toList=some D) (ro:List Nat) (hd:nu=true->∃dG T,kH dG ops.toList D=true/\A6 T (lY ro 0 D) dG=true/\m8 T s.nx 0 (lY ro 0 D)=true/\rI T s) (M:iz nt D=true) (R:Rel P nt n0 w0 π0 U s a w β τ π) (hU:∀n,U n->n<s.nx) (h:jM (Pure P) s.nx 0 (lY ro 0 D) K s) {T:Nat->Prop} (hT:∀d,d∈dstsOf D->¬T d) (hQ:∀s' a' w β τ π U,(∀n,U n->n<s.nx+D.length)->K s'->sF T a a'->Rel P nt n0 w0 π0 U s' a' w β τ π->Q .normal a' w):(Code.region id ops nu).wpIn (FW r) m P Q a w:=by
 obtain⟨V,O⟩:=wI hc
 have hd:nu=true->∃dG T,kH dG ops.toList (lY ro 0 D)=true/\A6 T (lY ro 0 D) dG=true/\m8 T s.nx 0 (lY ro 0 D)=true/\rI T s:=λe=>by
  obtain⟨dG,T,h1,h2⟩:=hd e;exact⟨dG,T,S9 h1,h2⟩
 have M:iz nt (lY ro 0 D)=true:=by rw[Q2];exact M
 have hT:∀d,d∈dstsOf (lY ro 0 D)->¬T d:=by rw[ML];exact hT
 have L:(lY ro 0 D).length=ops.size:=by rw[KL];simpa using V
 have hQ:∀s' a' w β τ π U,(∀n,U n->n<s.nx+(lY ro 0 D).length)->K s'->sF T a a'->Rel P nt n0 w0 π0 U s' a' w β τ π->Q .normal a' w:=by rw[KL];exact hQ
 have Z:∀(i:Nat) (o:Oper) (c:CO),ops[i]? =some o->(lY ro 0 D)[i]? =some c->De P ops o c:=λi o c h1 h2=>by
  obtain⟨c0,h3,h4⟩:=Q1 h2
  exact⟨c0,O i o c0 (by simpa using h1) h3,h4⟩
 clear V O hc;generalize lY ro 0 D=cos at*
 have hT:∀(i:Nat) (c:CO) (d:Nat),cos[i]? =some c->c.dst=some d->¬T d:=λi c d hi hd=>hT d (Aa (er hi) hd)
 have M:=t9 M
 rw[L]at hQ
 cases nu with
 |false=>
  refine wpIn_region ?_
  have:=Gp (r:=r) (m:=m) L Z M hT hQ cos 0 s a w β τ π U rfl (by simpa using L) (by simpa using hU) (.refl _ _) R h
  rw[L]at this;rw[List.range_eq_range'];exact this
 |true=>
  obtain⟨dG,Tb,ae,aa,ag,ac⟩:=hd rfl
  have ab:∀k ok,cos[k]? =some ok->tW Tb (s.nx+k) ok=true:=λk ok hk=>by have:=t8 ag k ok hk;rwa[lc]at this
  refine wpIn_region_any hm ?_
  have R':Rel P nt n0 w0 π0 (UL s.nx (Array.replicate ops.size false)) s a w.drew β τ π:=R.draw.sub λn hn=>.inl (hU n hn)
  have h2:jM (Pure P) s.nx 0 cos (λs2=>∃s1,vR s1 s2/\K s1) s:=by
   clear hQ
   have ad:∀(base':Nat) (r:List CO) (i:Nat) (s:S) {K':S->Prop},(∀s,K s->K' s)->jM (Pure P) base' i r K s->jM (Pure P) base' i r K' s:=by
    intro base' r
    induction r with
    |nil=>intro i s K' hk h;exact hk s h
    |cons o r ih=>
     intro i s K' hk h;rw[sC]at h⊢;obtain⟨v,d,hd,ak,_⟩:=gL h;exact hd.2 s .refl _ (ih _ _ hk ak)
   exact ad s.nx cos 0 s (λs h=>⟨s,.refl,h⟩) h
  have h3:=wH ab aa (λs s2 he ⟨s1,h1,hk⟩=>⟨s1,h1.trans he,hk⟩) L ae cos 0 (Array.replicate ops.size false) s rfl (by simpa using L) adI (λj hj=>by simp[hj]) R'.iA ac h2
  rw[L]at h3
  refine Tc Z M hT ?_ ops.size _ s a w.drew β τ π adI (.refl _ _) R' h3
  rintro s2 a w β τ π U hU ⟨s1,he,hk⟩ hp R2
  exact hQ s1 a w β τ π U hU hk hp (R2.seq he.symm)
end
end
end Go.Eng
