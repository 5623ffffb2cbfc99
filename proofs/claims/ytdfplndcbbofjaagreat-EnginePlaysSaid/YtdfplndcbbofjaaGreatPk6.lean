/- Part 6 of the engine and its library. -/
import Derived.Test.YtdfplndcbbofjaaGreatPk5
set_option linter.all false
set_option maxRecDepth 10000
set_option maxHeartbeats 4000000
namespace Go.Eng
open Go
section
variable {i:Nat} {listed:Array Bool}
theorem vU(h:listed.getD i true=false):listed.getD i false=false:=by
 rcases kn i listed.size with A|A
 ·simp[A]at h⊢;exact h
 ·simp[yk A]at h
theorem MF(A:i<listed.size) (h:listed.getD i false=false):listed.getD i true=false:=by
 simp[A]at h⊢;exact h
def Hu(C:aY) (base:Nat) (ops:Array Oper) (cos:List CO) (K:S->Prop):Nat->Array Bool->S->Prop
 |0,l,s=>Region.ready .any ops l=[]/\K s
 |f+1,l,s=>(Region.ready .any ops l=[]->K s)/\∀i∈Region.ready .any ops l,∃o,cos[i]? =some o/\jQ C (base+i) o (Hu C base ops cos K f (l.setIfInBounds i true)) s
def UL(base:Nat) (l:Array Bool):Nat->Prop:=λn=>n<base\/∃i,n=base+i/\l.getD i false=true
end
section
variable{C:aY} {base:Nat} {ops:Array Oper} {cos:List CO} {K:S->Prop}
section
variable {i:Nat} {l:Array Bool}
theorem DP(hK:∀s s2,tE s s2->K s->K s2):∀(f:Nat) (l:Array Bool) (s s2:S),tE s s2->Hu C base ops cos K f l s->Hu C base ops cos K f l s2
 |0,l,s,s2,A,h=>⟨h.1,hK _ _ A h.2⟩
 |f+1,l,s,s2,A,h=>⟨λD=>hK _ _ A (h.1 D),λi L=>by
   obtain⟨o,B,E⟩:=h.2 i L;refine⟨o,B,?_⟩;obtain⟨v,d,hd,hk,_⟩:=gw E
   exact hd.2 s2 A.agr _ (DP hK f _ _ _ ((A.app d _).put _ _) hk)⟩
theorem DQ(h:l.getD i true=false):¬UL base l (base+i):=by
 rintro(B|⟨k,hk,A⟩)
 ·omega
 ·have:k=i:=ST
  subst this;rw[vU h]at A;cases A
theorem Hv(B:i<l.size) {n:Nat} (h:fu (UL base l) (base+i) n):UL base (l.setIfInBounds i true) n:=by
 rcases h with(h|⟨k,hk,A⟩)|h
 ·exact .inl h
 ·exact .inr ⟨k,hk,getD_set_true A⟩
 ·exact .inr ⟨i,h,by simp[B]⟩
theorem lY{D:Region.Mode} (h:i∈Region.ready D ops l):i<l.size:=by
 have B:=(xo.1 h).1
 rcases kn i l.size with A|A
 ·exact A
 ·simp[yk A]at B
def tY(ops:Array Oper) (l:Array Bool):Prop:=∀k ok,ops[k]? =some ok->l.getD k false=true->∀e∈ok.after,Region.binds .any e=true->l.getD e.on false=true
theorem tY.set(h:tY ops l) (R:i∈Region.ready .any ops l):tY ops (l.setIfInBounds i true):=by
 obtain⟨_,O,D,B⟩:=xo.1 R;intro k ok hk L e E M
 by_cases A:i=k
 ·subst A
  have:ok=O:=tz (hk.symm.trans D)
  subst this;exact getD_set_true (B e E M)
 ·rw[getD_set_ne false A]at L
  exact getD_set_true (h k ok hk L e E M)
theorem NS(hc:tY ops l) {j:Nat} (hi:l.getD i true=false) (hj:j∈Region.ready .any ops l) {O:Oper} (Z:ops[j]? =some O):
  O.after.any (λe=>Region.binds .any e&&e.on==i)=false/\waits ops.toList i O=false:=by
 obtain⟨_,ab,M,A⟩:=xo.1 hj
 have:ab=O:=tz (M.symm.trans Z)
 subst this
 have E:=vU hi
 constructor
 ·rw[AC]
  intro h;obtain⟨e,V,B⟩:=LT.1 h;simp only[ed,kb]at B
  have:=A e V B.1
  rw[B.2,E]at this;cases this
 ·rw[AC]
  intro h;obtain⟨e,V,B⟩:=LT.1 h;simp only[ed,mi,kb]at B
  have R:=A e V B.1
  rcases B.2 with L|L
  ·rw[L,E]at R;cases R
  ·split at L
   ·rename_i ok ac
    obtain⟨e',aa,D⟩:=LT.1 L;simp only[ed,kb]at D
    have h3:=hc e.on ok (by simpa using ac) R e' aa D.1
    rw[D.2,E]at h3;cases h3
   ·cases L
end
end
section
variable {T:List (Nat×Tag)} {s:S} {x y:CO}
def rH(T:List (Nat×Tag)) (s:S):Prop:=∀t b,IF b s t->(look T t).FO b=true
theorem B6{C:aY} {id:Nat} {o:CO} {v:SV} {d:Delta} (hd:La C id o s v d) (B:rB T id o=true) (hR:rH T s):rH T ((d.app' id s).put o.dst v):=by
 rintro t b ⟨u0,A,D⟩
 rw[rF]at A;split at A
 ·rename_i e
  cases A;unfold rB at B;rw[e]at B;simp only at B
  cases hz:look T t with
  |none=>rfl
  |some z=>
   rw[hz]at B;simp only at B
   rcases hd.1.2 b D with⟨rfl,O⟩|⟨u,Z,V⟩
   ·rw[et O]at B
    simpa[Tag.FO]using B
   ·have R:¬o.op.Pw=true:=λO=>by
     revert Z O;cases o.op<;>simp[bU.tM,bU.Pw]
    rw[ek R]at B
    have h1:=lj.1 B u Z
    have E:=hR u b V
    cases L:look T u with
    |none=>rw[L]at h1;cases h1
    |some z'=>
     rw[L]at h1 E;simp only[mi,kb]at h1;simp only[Tag.FO,kb]at E⊢
     rcases h1 with h1|h1
     ·rw[h1]at E;cases E
     ·rw[<-h1];exact E
 ·rw[rG]at A
  cases M:lk t s.slots with
  |none=>rw[M]at A;cases A
  |some w=>
   rw[M]at A;simp only[ma,fo]at A
   rcases lX d w with h|⟨b',v',_,_,_,h,hf,_⟩
   ·rw[h]at A;subst A;exact hR t b ⟨_,M,D⟩
   ·rw[h]at A;subst A;exact absurd D (hf.2 _)
theorem PX{z A:Tag} {b:Nat} (h:z.dis A=true) (D:z.FO b=true) (B:A.FO b=true):False:=by
 cases z with
 |none=>cases A with
  |none=>cases h
  |some A=>cases A with
   |none=>simp[Tag.FO]at B
   |some E=>cases h
 |some z=>cases z with
  |none=>simp[Tag.FO]at D
  |some a=>cases A with
   |none=>cases h
   |some A=>cases A with
    |none=>simp[Tag.FO]at B
    |some E=>
     simp[Tag.FO]at D B;subst D;subst B;simp[Tag.dis]at h
theorem I4(h:x.half T y=true) (hR:rH T s):Clear x y s:=by
 rintro b ⟨t,M,E⟩
 have h:=lj.1 h t M
 simp only[ed,mi,nb]at h
 refine⟨λu D A=>?_,λL u D A=>?_⟩
 ·exact PX (lj.1 h.1 u D) (hR t b E) (hR u b A)
 ·rcases h.2 with B|B
  ·rw[L]at B;cases B
  ·exact PX (lj.1 B u D) (hR t b E) (hR u b A)
theorem Gj(h:x.half [] y=true):x.half T y=true:=by
 unfold CO.half at h⊢;rw[lj]at h⊢;intro t D
 have h:=h t D
 simp only[ed,mi,lj]at h⊢
 refine⟨λu A=>?_,h.2.imp id λB u A=>?_⟩
 ·have:=h.1 u A;cases this
 ·have:=B u A;cases this
theorem Lc(h:x.apart y=true):x.tN T y=true:=by
 unfold CO.apart CO.tN at*;simp only[ed]at h⊢;exact⟨⟨h.1.1,Gj h.1.2⟩,Gj h.2⟩
theorem DR{T:List (Nat×Tag)} {ops:List CO} {i j:Nat} {x y:CO} (B:ops[i]? =some x) (A:ops[j]? =some y):∀{dc:List (Nat×Nat)},BW T ops dc=true->dc.contains (i,j)=true->x.tN T y=true
 |[],_,h=>by cases h
 |(k,l)::r,h,hm=>by
  simp only[BW,ed]at h;rw[List.contains_cons,mi]at hm
  rcases hm with hm|hm
  ·have e:(i,j)=(k,l):=by simpa using hm
   cases e
   have:=h.1
   rw[B,A]at this;exact this
  ·exact DR B A h.2 hm
theorem rI{T:List (Nat×Tag)} {base:Nat}:∀{l:List CO} {i:Nat},nj T base i l=true->∀(k:Nat) (o:CO),l[k]? =some o->rB T (base+(i+k)) o=true
 |[],i,h,k,o,hk=>by simp at hk
 |a::l,i,h,k,o,hk=>by
  simp only[nj,ed]at h
  cases k with
  |zero=>simp at hk;subst hk;exact h.1
  |succ k=>
   have:=rI h.2 k o (by simpa using hk)
   rw[show i+(k+1)=i+1+k by omega];exact this
theorem B7{base:Nat}:∀{l:List CO} {i:Nat},nj [] base i l=true
 |[],i=>rfl
 |a::l,i=>by
  simp only[nj,ed];refine⟨?_,B7⟩;unfold rB
  split<;>rfl
theorem rJ{T:List (Nat×Tag)}:∀{sl:List (Nat×SV)},lQ T sl=true->∀t b v,lk t sl=some v->v.has b->(look T t).FO b=true
 |[],_,t,b,v,B,_=>by cases B
 |(m,u)::r,h,t,b,v,B,A=>by
  simp only[lk,ki]at B;split at B
  ·rename_i e
   cases B;subst e
   cases u<;>try(exact A.elim)
   ·have A:_=b:=A
    subst A;simp only[lQ,ed]at h;exact h.1
   ·have A:_=b:=A
    subst A;simp only[lQ,ed]at h;exact h.1
   ·simp only[lQ,ed]at h
    obtain⟨p,D,rfl⟩:=A;exact lj.1 h.1 p D
  ·refine rJ (sl:=r) ?_ t b v B A
   cases u<;>first|exact h|(simp only[lQ,ed]at h;exact h.2)
end
section
variable{C:aY} {base:Nat} {ops:Array Oper} {cos:List CO} {K:S->Prop} {T:List (Nat×Tag)}
theorem Ld(hT:∀k ok,cos[k]? =some ok->rB T (base+k) ok=true) (hK:∀s s2,tE s s2->K s->K s2) (a9:cos.length=ops.size) {i:Nat} {oi:CO} (hi:cos[i]? =some oi):
  ∀(f:Nat) (l:Array Bool) (s:S),
   (∀j pj E,ops[j]? =some pj->cos[j]? =some E->j≠i->l.getD j true=false->pj.after.any (λe=>Region.binds .any e&&e.on==i)=false->waits ops.toList i pj=false->oi.tN T E=true)->
   tY ops l->i∈Region.ready .any ops l->s.gS (UL base l)->rH T s->jQ C (base+i) oi (Hu C base ops cos K f (l.setIfInBounds i true)) s->Hu C base ops cos K (f+1) l s:=by
 intro f
 induction f with
 |zero=>
  intro l s _ _ R hU hR H
  refine⟨λh=>(by rw[h]at R;cases R),λj L=>?_⟩
  by_cases A:j=i
  ·subst A;exact⟨oi,hi,H⟩
  ·obtain⟨v,d,hd,hk,_⟩:=gw H
   have:=ready_mono L A
   rw[hk.1]at this;cases this
 |succ f ih=>
  intro l s hfree ag R hU hR H
  refine⟨λh=>(by rw[h]at R;cases R),λj L=>?_⟩
  by_cases A:j=i
  ·subst A;exact⟨oi,hi,H⟩
  ·obtain⟨vi,di,ae,ar,ba⟩:=gw H
   obtain⟨E,V,a8⟩:=ar.2 j (ready_mono L A)
   obtain⟨vj,dj,aa,a4,bd⟩:=gw a8
   have D:=(xo.1 L).1
   have O:=(xo.1 R).1
   obtain⟨pj,ac,_⟩:=(xo.1 L).2
   obtain⟨w1,w2⟩:=NS ag O L ac
   have B:=hfree j pj E ac V A D w1 w2
   unfold CO.tN at B;simp only[ed]at B
   obtain⟨a1,a2,a3⟩:=Tp B.1.1 hU (DQ O) (DQ D) ST (I4 B.1.2 hR) (I4 B.2 hR) ae aa
   -- the state behind j
   have M:jQ C (base+j) E (λs3=>s3=(dj.app' (base+j) s).put E.dst vj) s:=aa.2 s a1 _ rfl
   have ak:((dj.app' (base+j) s).put E.dst vj).gS (UL base (l.setIfInBounds j true)):=by
    obtain⟨v',d',_,Z,a6⟩:=gw M
    have:=a6 _ hU
    rw[Z]at this
    exact Dc (λn hn=>Hv (lY L) hn) this
   have al:rH T ((dj.app' (base+j) s).put E.dst vj):=by
    obtain⟨v',d',a7,Z,_⟩:=gw M
    have:=B6 a7 (hT j E V) hR
    rw[Z]at this;exact this
   refine⟨E,V,aa.2 s a1 _ ?_⟩;refine ih (l.setIfInBounds j true) _ ?_ (ag.set L) (ready_mono R (Ne.symm A)) ak al ?_
   ·intro k pk ok au a5 an ad ao am
    refine hfree k pk ok au a5 an ?_ ao am
    by_cases ab:j=k
    ·subst ab;exact D
    ·rw[getD_set_ne true ab]at ad;exact ad
   ·refine ae.2 _ a2 _ ?_
    rw[Array.setIfInBounds_comm _ _ A];exact DP hK f _ _ _ a3 a4
end
section
variable {A:CO} {C:aY} {id:Nat} {s:S} {x:CO}
theorem zg{dc:List (Nat×Nat)} {ops:List Oper} {i:Nat} {x:CO}:∀{os:List Oper} {L:List CO} {k:Nat},oK dc ops i x k os L=true->∀(j:Nat) (A:Oper) (E:CO),os[j]? =some A->L[j]? =some E->i<k+j->
  A.after.any (λe=>Region.binds .any e&&e.on==i)=true\/x.apart E=true\/waits ops i A=true\/dc.contains (i,k+j)=true
 |[],L,k,h,j,A,E,D,B,M=>by simp at D
 |o::os,[],k,h,j,A,E,D,B,M=>by simp at B
 |o::os,y::L,k,h,j,A,E,D,B,M=>by
  simp only[oK,ed,mi,gc]at h
  cases j with
  |zero=>
   simp at D B;subst D;subst B
   rcases h.1 with(((h|h)|h)|h)|h
   ·omega
   ·exact .inl h
   ·exact .inr (.inl h)
   ·exact .inr (.inr (.inl h))
   ·exact .inr (.inr (.inr h))
  |succ j=>
   have:=zg h.2 j A E (by simpa using D) (by simpa using B) ST
   rw[show k+1+j=k+(j+1)by omega]at this
   exact this
theorem lR{dc:List (Nat×Nat)} {ops:List Oper} {cos:List CO}:∀{os:List Oper} {D:List CO} {k:Nat},nK dc ops cos k os D=true->∀(i:Nat) (O:Oper) (M:CO),os[i]? =some O->D[i]? =some M->
  (∀e∈O.after,Region.binds .any e=true->e.on<k+i)/\oK dc ops (k+i) M 0 ops cos=true
 |[],D,k,h,j,E,L,B,A=>by simp at B
 |o::os,[],k,h,j,E,L,B,A=>by simp at A
 |o::os,y::D,k,h,j,E,L,B,A=>by
  simp only[nK,ed]at h
  cases j with
  |zero=>
   simp at B A;subst B;subst A
   refine⟨λe R V=>?_,h.1.2⟩
   have:=Array.all_eq_true_iff_forall_mem.1 h.1.1 e R
   simpa[V]using this
  |succ j=>
   have:=lR h.2 j E L (by simpa using B) (by simpa using A)
   rw[show k+1+j=k+(j+1)by omega]at this
   exact this
def Ro(x A:CO):Prop:=A=x\/A=x.ro
theorem Ro.dst{x A:CO} (h:Ro x A):A.dst=x.dst:=by rcases h with rfl|rfl<;>rfl
theorem Ro.rd{x A:CO} (h:Ro x A):A.rd=x.rd:=by
 rcases h with rfl|rfl
 ·rfl
 ·cases x with|mk d o g=>cases o<;>rfl
theorem Ro.wC{x A:CO} (h:Ro x A):A.op.wC=x.op.wC:=by
 rcases h with rfl|rfl
 ·rfl
 ·cases x with|mk d o g=>cases o<;>rfl
theorem Ro.app(h:Ro x A):A.op.isApp=x.op.isApp:=by
 rcases h with rfl|rfl
 ·rfl
 ·cases x with|mk d o g=>cases o<;>rfl
theorem Ro.Hs(h:Ro x A):A.op.BV=x.op.BV:=by
 rcases h with rfl|rfl
 ·rfl
 ·cases x with|mk d o g=>cases o<;>rfl
theorem Ro.Ms{x A:CO} (h:Ro x A):A.op.Ms=x.op.Ms\/A.op.Ms=[]:=by
 rcases h with rfl|rfl
 ·exact .inl rfl
 ·cases x with|mk d o g=>cases o<;>first|exact .inl rfl|exact .inr rfl
theorem Ro.indep{x D y E:CO} (B:Ro x D) (A:Ro y E):D.indep E=x.indep y:=by
 simp only[CO.indep,B.dst,A.dst,B.rd,A.rd,B.app,A.app]
theorem Ro.half{T:List (Nat×Tag)} {x A y E:CO} (D:Ro x A) (B:Ro y E) (h:x.half T y=true):A.half T E=true:=by
 simp only[CO.half,B.wC,B.rd,D.Hs]at h⊢
 rcases D.Ms with e|e
 ·rw[e];exact h
 ·rw[e];rfl
theorem Ro.apart{x D y E:CO} (B:Ro x D) (A:Ro y E) (h:x.apart y=true):D.apart E=true:=by
 simp only[CO.apart,CO.tN,ed]at h⊢
 exact⟨⟨by rw[B.indep A];exact h.1.1,B.half A h.1.2⟩,A.half B h.2⟩
theorem MG{ro:List Nat}:∀{l:List CO} {k i:Nat} {A:CO},(oD ro k l)[i]? =some A->∃c,l[i]? =some c/\Ro c A
 |[],k,i,A,h=>by simp[oD]at h
 |o::l,k,0,A,h=>by
  simp only[oD,km,fo]at h;refine⟨o,rfl,?_⟩
  cases hk:ro.contains k with
  |true=>rw[hk]at h;exact .inr h.symm
  |false=>rw[hk]at h;exact .inl h.symm
 |o::l,k,i+1,A,h=>by
  simp only[oD,kv]at h⊢;exact MG h
theorem Hw{ro:List Nat}:∀{l:List CO} {k:Nat},(oD ro k l).length=l.length
 |[],k=>rfl
 |o::l,k=>by simp only[oD,eW,Hw]
theorem I5{ro:List Nat}:∀{l:List CO} {k:Nat},dstsOf (oD ro k l)=dstsOf l
 |[],k=>rfl
 |o::l,k=>by
  simp only[oD,dstsOf,I5]
  cases ro.contains k<;>rfl
theorem MH{n:Nat} {ro:List Nat}:∀{l:List CO} {k:Nat},iJ n (oD ro k l)=iJ n l
 |[],k=>rfl
 |o::l,k=>by
  simp only[oD,iJ,MH]
  cases ro.contains k<;>rfl
theorem Ro.of(ro:List Nat) (k:Nat) (o:CO):Ro o (bif ro.contains k then o.ro else o):=by
 cases ro.contains k
 ·exact .inl rfl
 ·exact .inr rfl
theorem DS{dc:List (Nat×Nat)} {ops:List Oper} {i:Nat} {x B:CO} (D:Ro x B) {ro:List Nat}:∀{os:List Oper} {A:List CO} {k m:Nat},oK dc ops i x k os A=true->oK dc ops i B k os (oD ro m A)=true
 |[],A,k,m,h=>rfl
 |o::os,[],k,m,h=>rfl
 |o::os,y::A,k,m,h=>by
  simp only[oD,oK,ed,mi,gc]at h⊢;refine⟨?_,DS D h.2⟩
  rcases h.1 with(((h|h)|h)|h)|h
  ·exact .inl (.inl (.inl (.inl h)))
  ·exact .inl (.inl (.inl (.inr h)))
  ·exact .inl (.inl (.inr (D.apart (.of ro m y) h)))
  ·exact .inl (.inr h)
  ·exact .inr h
theorem B8{dc:List (Nat×Nat)} {ops:List Oper} {cos:List CO} {ro:List Nat} {m:Nat}:∀{os:List Oper} {A:List CO} {k:Nat},nK dc ops cos k os A=true->nK dc ops (oD ro m cos) k os (oD ro k A)=true
 |[],A,k,h=>rfl
 |o::os,[],k,h=>rfl
 |o::os,y::A,k,h=>by
  simp only[oD,nK,ed]at h⊢;exact⟨⟨h.1.1,DS (.of ro k y) h.1.2⟩,B8 h.2⟩
theorem NT{dc:List (Nat×Nat)} {ops:List Oper} {cos:List CO} {ro:List Nat} (h:lA dc ops cos=true):lA dc ops (oD ro 0 cos)=true:=B8 h
theorem zh{l A:List (Nat×dH)} (h:∀b,dh b A=dh b l):∀{ids:List Nat},eY A ids=eY l ids
 |[]=>rfl
 |b::B=>by simp only[eY,h b,zh h (ids:=B)]
theorem DT{l:List (Nat×dH)}:∀{ids:List Nat} {css:List (List AV)},eY l ids=some css->bh l ids=some css
 |[],css,h=>h
 |b::E,css,h=>by
  simp only[eY]at h
  split at h<;>try(cases h;done)
  rename_i cs A B D;cases h;simp only[bh,B,DT D]
theorem yb:∀{ids:List Nat} {css:List (List AV)} {l:List (Nat×dH)},eY l ids=some css->∀b,dh b (eG ids css l)=dh b l
 |[],css,l,h,b=>rfl
 |i::E,css,l,h,b=>by
  simp only[eY]at h
  split at h<;>try(cases h;done)
  rename_i cs A B D;cases h
  have e:∀n,dh n (pn i ⟨cs,[]⟩ l)=dh n l:=λn=>by
   rw[i9];split
   ·rename_i e;subst e;rw[B];rfl
   ·rfl
  rw[eG,yb (by rw[zh e];exact D),e]
theorem W8{o:bU} {K:SV->S->Prop} (h:bS C id o.ro K s):bS C id o (λv L=>∃D,tE L D/\K v D) s:=by
 have same:bS C id o K s->bS C id o (λv L=>∃D,tE L D/\K v D) s:=λh=>by
  obtain⟨v,d,hK,_,_,_,R⟩:=zf h;exact R s .refl _ ⟨_,.refl,hK⟩
 cases o<;>try(exact same h)
 case eo f args=>
  obtain⟨p,E,B,h⟩:=ah (h:ax _ _)
  obtain⟨css,A,r,M,hK⟩:=ah h;simp only[bS,E,DT A,aG]
  exact⟨B,r,none,css,M,s,⟨λ_=>rfl,λb=>(yb A b).symm,λ_=>rfl⟩,hK⟩
 case gU g args=>
  obtain⟨a,O,h⟩:=ah (h:ax _ _)
  cases a<;>try(exact h.elim)
  rename_i fn first caps
  cases fn<;>try(exact h.elim)
  rename_i f
  cases first<;>try(exact h.elim)
  cases caps<;>try(exact h.elim)
  obtain⟨p,E,B,h⟩:=ah h;obtain⟨css,A,r,M,hK⟩:=ah h;simp only[bS,O,E,DT A,aG]
  exact⟨B,r,none,css,M,s,⟨λ_=>rfl,λb=>(yb A b).symm,λ_=>rfl⟩,hK⟩
theorem PY{c E:CO} (M:Ro c E) {K:S->Prop} (h:jQ C id E K s):jQ C id c (λB=>∃A,tE B A/\K A) s:=by
 rcases M with rfl|rfl
 ·obtain⟨v,d,hd,hK,_⟩:=gw h
  exact hd.2 s .refl _ ⟨_,.refl,hK⟩
 ·have run:bS C id c.op.ro (λv B=>K (B.put c.dst v)) s->bS C id c.op (λv B=>∃A,tE (B.put c.dst v) A/\K A) s:=λh=>by
   have:=W8 h
   obtain⟨v,d,⟨A,L,hK⟩,_,_,_,O⟩:=zf this;exact O s .refl _ ⟨_,L.put _ _,hK⟩
  cases c with
  |mk dst op g=>
   have h:gM s g (bS C id op.ro (λv B=>K (B.put dst v)) s) (K (s.put dst .undef)):=h
   show gM s g (bS C id op (λv B=>∃A,tE (B.put dst v) A/\K A) s) (∃A,tE (s.put dst .undef) A/\K A)
   unfold gM at h⊢
   cases g with
   |none=>exact run h
   |some p=>
    obtain⟨t,want⟩:=p;simp only at h⊢
    cases D:lk t s.slots with
    |none=>simp[D]at h
    |some v=>
     simp only[D]at h
     cases v with
     |ptr b o=>exact h.elim
     |rp cs=>exact h.elim
     |vs _ _ _ _=>exact h.elim
     |wz _ _ _=>exact h.elim
     |raw _ _=>exact h.elim
     |pt _ _=>exact h.elim
     |undef=>exact⟨_,.refl,h⟩
     |dat a q=>
      cases a<;>try(exact h.elim)
      exact⟨λe=>run (h.1 e),λe=>⟨_,.refl,h.2 e⟩⟩
end
section
variable{C:aY} {base:Nat} {ops:Array Oper} {cos:List CO} {K:S->Prop}
theorem tZ{T:List (Nat×Tag)} {dc:List (Nat×Nat)} (hT:∀k ok,cos[k]? =some ok->rB T (base+k) ok=true) (R:BW T cos dc=true) (hK:∀s s2,tE s s2->K s->K s2) (B:cos.length=ops.size) (Z:lA dc ops.toList cos=true):
  ∀(rest:List CO) (i:Nat) (l:Array Bool) (s:S),cos.drop i=rest->i+rest.length=ops.size->l.size=ops.size->(∀j,j<ops.size->l.getD j false=decide (j<i))->
   s.gS (UL base l)->rH T s->j6 C base i rest K s->Hu C base ops cos K rest.length l s
 |[],i,l,s,hd,hn,hl,A,hU,hR,h=>by
  refine⟨?_,h⟩;rw[List.eq_nil_iff_forall_not_mem];intro j hj
  have h1:=(xo.1 hj).1
  have h2:=lY hj
  have h3:=A j ST
  rw[vU h1]at h3;simp at hn h3;omega
 |o::rest,i,l,s,hd,hn,hl,A,hU,hR,h=>by
  have O:cos[i]? =some o:=by
   have:(cos.drop i)[0]? =some o:=by rw[hd];rfl
   simpa using this
  have D:i<ops.size:=by simp at hn;omega
  have ad:ops[i]? =some ops[i]:=by simp[D]
  obtain⟨E,V⟩:=lR Z i ops[i] o (by simpa using ad) O
  simp only[la]at E V
  have a3:l.getD i true=false:=by
   have:=A i D
   simp at this
   exact MF ST (by simpa using this)
  have a8:tY ops l:=by
   intro k ok hk al e he hb
   have aa:k<ops.size:=(j9.1 hk).1
   rw[A k aa]at al;simp at al
   obtain⟨a7,ar⟩:∃x,cos[k]? =some x:=⟨cos[k]' ST,by simp[B,aa]⟩
   have:=(lR Z k ok a7 (by simpa using hk) ar).1 e he hb
   rw[A e.on ST]
   simp;omega
  have hr:i∈Region.ready .any ops l:=by
   rw[xo]
   refine⟨a3,ops[i],ad,λe he hb=>?_⟩
   have:=E e he hb
   rw[A e.on ST]
   simpa using this
  refine Ld hT hK B O rest.length l s ?_ a8 hr hU hR ?_
  ·intro j pj oj ak ae a9 ao a4 a2
   have a6:j<ops.size:=(j9.1 ak).1
   have an:=A j a6
   rw[vU ao]at an;simp at an
   have M:i<0+j:=ST
   rcases zg V j pj oj (by simpa using ak) ae M with h|h|h|h
   ·rw[a4]at h;cases h
   ·exact Lc h
   ·rw[a2]at h;cases h
   ·rw[la]at h;exact DR O ae R h
  ·rw[qb]at h
   obtain⟨v,d,L,ac,a5⟩:=gw h
   have am:=a5 _ hU
   have ag:=B6 L (hT i o O) hR
   refine L.2 s .refl _ ?_;generalize(d.app' (base+i) s).put o.dst v=s' at ac am ag
   have au:(l.setIfInBounds i true).size=ops.size:=by simp[hl]
   refine tZ hT R hK B Z rest (i+1) _ s' ?_ (by simp at hn⊢;omega) au (λj hj=>?_) (Dc (λn hn=>Hv ST hn) am) ag ac
   ·rw[<-List.tail_drop,hd];rfl
   ·by_cases M:i=j
    ·subst M;simp[hl,D]
    ·rw[getD_set_ne false M,A j hj]
     by_cases ab:j<i
     ·simp[ab];omega
     ·simp[ab];omega
end
section
variable{P:Program} {nt:Nat} {n0:kL} {w0:World} {π0:Nat->Nat->Prop} {U:Nat->Prop} {s:S} {a:Act} {w:World} {β:Nat->Nat} {τ:Nat->Value} {π:Nat->Nat->Prop}
section
variable {K:S->Prop} {Q:Exit->Act->World->Prop} {args:Array Value} {c:CO} {id m n:Nat} {next:Act->World->Prop} {o:Oper} {ops:Array Oper} {r:Option Nat} (T:Nat->Prop)
theorem Rel.gS(R:Rel P nt n0 w0 π0 U s a w β τ π):s.gS U:=
 ⟨λt v D=>(R.slots t v D).2,λb x B=>⟨(R.boxes b x B).1,λo q A=>(R.boxes b x B).2.2.2 o q A⟩,λq e A=>(R.live q e A).1⟩
theorem Rel.seq(R:Rel P nt n0 w0 π0 U s a w β τ π) {s2:S} (h:tE s s2):Rel P nt n0 w0 π0 U s2 a w β τ π where
 size:=R.size
 slots:=λt v M=>R.slots t v (by rw[<-h.slots];exact M)
 boxes:=λb x D=>R.boxes b x (by rw[<-h.boxes];exact D)
 inj:=λb O x Z D E=>R.inj b O x Z (by rw[<-h.boxes];exact D) (by rw[<-h.boxes];exact E)
 live:=λq e A=>R.live q e (by rw[<-h.live];exact A)
 dm:=λq q' e V B A L=>R.dm q q' e V B (by rw[<-h.live];exact A) (by rw[<-h.live];exact L)
 dG:=λq e b x A D=>R.dG q e b x (by rw[<-h.live];exact A) (by rw[<-h.boxes];exact D)
 below:=R.below
 gI:=R.gI
 gj:=R.gj
 gu:=R.gu
 dW:=R.dW
 nL:=R.nL
 jP:=R.jP
 kept:=R.kept
theorem Rel.nx(R:Rel P nt n0 w0 π0 U s a w β τ π) (n:Nat):Rel P nt n0 w0 π0 U {s with nx:=n} a w β τ π:=
 R.seq ⟨λ_=>rfl,λ_=>rfl,λ_=>rfl⟩
theorem B9{g A:Option (Nat×Bool)} (h:Hj ops g=some A):(g=none/\A=none)\/∃j w t,g=some (j,w)/\(ops[j]?).bind (·.dst)=some t/\A=some (t,w):=by
 unfold Hj at h;split at h
 ·cases h;exact .inl ⟨rfl,rfl⟩
 ·rename_i j w
  split at h
  ·rename_i t B
   cases h;exact .inr ⟨j,w,t,rfl,B,rfl⟩
  ·cases h
theorem DU(R:Rel P nt n0 w0 π0 U s a w β τ π) (Z:¬U id) (hc:oJ P ops o=some c) (A:∀d,c.dst=some d->d<nt) (h:jQ (Pure P) id c K s) (hn:∀D x w' β' τ' π',K D->Rel P nt n0 w0 π0 (fu U id) D (a.put o.dst x) w' β' τ' π'->next (a.put o.dst x) w'):
  if Region.wanted o (yielded ops a.tmps)then o.wp P a w next Q else next (a.put o.dst undef) w:=by
 unfold oJ at hc
 split at hc<;>try(cases hc;done)
 rename_i ac g B hg;cases hc;simp only at A
 have run:bS (Pure P) id ac (λv D=>K (D.put o.dst v)) s->o.wp P a w next Q:=λh=>by
  unfold PB at B;split at B
  ·rename_i c' E
   cases B
   exact K9 R Z E h λv D x w' β' τ' π' hK M L R'=>hn _ _ _ _ _ _ hK (R'.put o.dst A M L)
  ·split at B
   ·rename_i c' E
    cases B
    exact K8 R E h λv D x w' β' τ' π' hK M L R'=>hn _ _ _ _ _ _ hK (R'.put o.dst A M L)
   ·exact vR R Z B h λv D x w' β' τ' π' hK M L R'=>hn _ _ _ _ _ _ hK (R'.put o.dst A M L)
 have skip:K (s.put o.dst .undef)->next (a.put o.dst undef) w:=λh=>
  hn _ _ _ _ _ _ h ((R.sub λn h=>.inl h).put o.dst A rfl trivial)
 unfold jQ gM at h
 rcases B9 hg with⟨h1,h2⟩|⟨j,want,t,h1,h2,h3⟩
 ·subst h2
  simp only at h;simp only[Region.wanted,h1,kh];exact run h
 ·subst h3
  simp only at h
  cases hl:lk t s.slots with
  |none=>simp[hl]at h
  |some v=>
   obtain⟨⟨x,hx,O⟩,ae⟩:=R.slots t v hl;simp only[hl]at h
   have hy:∀b,x=.bool b->yielded ops a.tmps j=some b:=λb hb=>by
    unfold yielded;rw[h2];simp[hx,hb]
   cases v with
   |ptr b o=>exact h.elim
   |rp cs=>exact h.elim
   |vs _ _ _ _=>exact h.elim
   |wz _ _ _=>exact h.elim
   |raw _ _=>exact h.elim
   |pt _ _=>exact h.elim
   |undef=>
    have aa:x=undef:=O
    have ad:yielded ops a.tmps j=none:=by
     unfold yielded;rw[h2];simp[hx,aa,undef]
    simp only[Region.wanted,h1,ad];exact skip h
   |dat av q=>
    cases av<;>try(exact h.elim)
    rename_i b
    have ab:x=.bool b:=O.1.y6
    simp only[Region.wanted,h1,hy b ab]
    by_cases hb:b=want
    ·subst hb;simp;exact run (h.1 rfl)
    ·have V:b=!want:=by cases b<;>cases want<;>first|rfl|exact absurd rfl hb
     have:(some b==some want)=false:=by subst V;cases want<;>rfl
     rw[this];exact skip (h.2 V)
def Bk(P:Program) (ops:Array Oper) (o:Oper) (A:CO):Prop:=∃c,oJ P ops o=some c/\Ro c A
theorem I6(R:Rel P nt n0 w0 π0 U s a w β τ π) (E:¬U id) (V:Bk P ops o c) (A:∀d,c.dst=some d->d<nt) (h:jQ (Pure P) id c K s) (Z:∀B x w' β' τ' π',K B->Rel P nt n0 w0 π0 (fu U id) B (a.put o.dst x) w' β' τ' π'->next (a.put o.dst x) w'):
  if Region.wanted o (yielded ops a.tmps)then o.wp P a w next Q else next (a.put o.dst undef) w:=by
 obtain⟨c0,D,L⟩:=V
 refine DU R E D (λd hd=>A d (by rw[L.dst];exact hd)) (PY L h) ?_
 rintro B x w' β' τ' π' ⟨O,M,hk⟩ R'
 exact Z O x w' β' τ' π' hk (R'.seq M)
def FW(r:Option Nat):Fence:={Fence.wide with round:=r}
theorem DW{f:FuncId} {w:World} {R:Ending->World->Prop}:CallsIn (FW r) n P f args w R↔Calls P f args w R:=
 ⟨λh=>callsIn_wide.1 (show CallsIn Fence.wide n P f args w R from h),λh=>(show CallsIn Fence.wide n P f args w R from callsIn_wide.2 h)⟩
theorem NU{row:String} {w:World} {R:Value->World->Prop} (h:Rows P row args w R):RowsIn (FW r) n P row args w R:=
 λc cs _=>let ⟨v,w',hr,s⟩:=h c cs;⟨v,w',hr,(show StepsIn (Machine.fenced P Fence.wide) P _ _ from stepsIn_wide.2 s)⟩
theorem Wm{a:Act} {w:World} {K:Act->World->Prop} (h:o.wp P a w K Q) (hd:∀c,o.op≠.defer c):o.wpIn (FW r) n P a w K Q:=by
 refine⟨λ_ _=>trivial,?_⟩
 rw[Oper.semAt_eq _ _ _ hd];unfold Oper.wp at h;generalize(execOp a.eval o).run P w=res at h⊢
 cases res with
 |ok x w'=>
  cases x<;>simp only[Oper.upon,Oper.uponIn]at h⊢<;>first
   |exact h
   |exact h.elim
   |exact⟨λhd=>by simp[FW,Fence.wide]at hd,DW.2 h⟩
   |exact⟨λhd=>by simp[FW,Fence.wide]at hd,NU h⟩
 |halt x w'=>cases x<;>simp only[Oper.upon,Oper.uponIn]at h⊢<;>first|exact h|exact h.elim
def rK(a0 a:Act):Prop:=a.defers=a0.defers/\∀t,T t->a.tmps[t]? =a0.tmps[t]?
theorem rK.refl(a:Act):rK T a a:=⟨rfl,λ_ _=>rfl⟩
theorem rK.put{T:Nat->Prop} {a0 a:Act} (h:rK T a0 a) {d:Option Nat} (hd:∀t,d=some t->¬T t) (x:Value):rK T a0 (a.put d x):=by
 cases d with
 |none=>exact h
 |some d=>
  refine⟨h.1,λt B=>?_⟩
  have A:t≠d:=λe=>hd d rfl (e▸B)
  simp only[Act.put];rw[ws (Ne.symm A)];exact h.2 t B
theorem yc(R:Rel P nt n0 w0 π0 U s a w β τ π) {i:Nat} (O:ops[i]? =some o) (E:¬U id) (A:Bk P ops o c) (B:∀d,c.dst=some d->d<nt) (h:jQ (Pure P) id c K s) (V:∀M x w' β' τ' π',K M->Rel P nt n0 w0 π0 (fu U id) M (a.put o.dst x) w' β' τ' π'->next (a.put o.dst x) w'):wpOpIn (FW r) n P ops Q i next a w:=by
 have:=I6 R E A B h (Q:=Q) V
 have L:∀c,o.op≠.defer c:=by
  intro Z e;obtain⟨c0,A,_⟩:=A;unfold oJ at A;rw[e]at A;simp[PB,xU,NM,SQ]at A
 unfold wpOpIn;simp only[O];split
 ·rename_i D;rw[et D]at this;exact Wm this L
 ·rename_i D;rw[ek D]at this;exact⟨λ_ _=>trivial,this⟩
theorem Bl(A:oJ P ops o=some c):c.dst=o.dst:=by
 unfold oJ at A
 split at A<;>try(cases A;done)
 cases A;rfl
theorem DX(A:Bk P ops o c):c.dst=o.dst:=by
 obtain⟨E,B,D⟩:=A;rw[D.dst,Bl B]
theorem t5{ops:Array Oper}:∀{l:List Oper} {cs:List CO},xV P ops l=some cs->cs.length=l.length/\∀(i:Nat) (o:Oper) (c:CO),l[i]? =some o->cs[i]? =some c->oJ P ops o=some c
 |[],cs,h=>by simp[xV]at h;subst h;exact⟨rfl,λi o c h=>by simp at h⟩
 |o::l,cs,h=>by
  unfold xV at h
  split at h<;>try(cases h;done)
  rename_i c O L D;cases h;obtain⟨e,M⟩:=t5 D
  refine⟨by simp[e],λi o' E A B=>?_⟩
  cases i with
  |zero=>simp at A B;subst A;subst B;exact L
  |succ i=>exact M i o' E (by simpa using A) (by simpa using B)
theorem rL{n:Nat}:∀{l:List CO},iJ n l=true->∀(i:Nat) (c:CO) (d:Nat),l[i]? =some c->c.dst=some d->d<n
 |[],h,i,c,d,A,hd=>by simp at A
 |o::l,h,i,c,d,A,hd=>by
  simp only[iJ,ed]at h
  cases i with
  |zero=>
   simp at A;subst A
   have:=h.1
   rw[hd]at this
   simpa using this
  |succ i=>exact rL h.2 i c d (by simpa using A) hd
theorem DY{ops:Array Oper} {cos:List CO} {base:Nat} (M:cos.length=ops.size) (A:∀(i:Nat) (o:Oper) (c:CO),ops[i]? =some o->cos[i]? =some c->Bk P ops o c) (D:∀(i:Nat) (c:CO) (d:Nat),cos[i]? =some c->c.dst=some d->d<nt)
  {T:Nat->Prop} {a0:Act} (hT:∀(i:Nat) (c:CO) (d:Nat),cos[i]? =some c->c.dst=some d->¬T d) {r:Option Nat} {m:Nat}
  {K:S->Prop} {Q:Exit->Act->World->Prop} (hQ:∀s a w β τ π U,(∀n,U n->n<base+ops.size)->K s->rK T a0 a->Rel P nt n0 w0 π0 U s a w β τ π->Q .normal a w):
  ∀(rest:List CO) (i:Nat) (s:S) (a:Act) (w:World) (β:Nat->Nat) (τ:Nat->Value) (π:Nat->Nat->Prop) (U:Nat->Prop),cos.drop i=rest->i+rest.length=ops.size->(∀n,U n->n<base+i)->rK T a0 a->Rel P nt n0 w0 π0 U s a w β τ π->
   j6 (Pure P) base i rest K s->wpOpsIn (FW r) m P ops Q (List.range' i rest.length) a w
 |[],i,s,a,w,β,τ,π,U,hd,V,O,Z,R,h=>hQ s a w β τ π U (λn h=>by have:=O n h;simp at V;omega) h Z R
 |o::rest,i,s,a,w,β,τ,π,U,hd,V,O,Z,R,h=>by
  have B:cos[i]? =some o:=by
   have:(cos.drop i)[0]? =some o:=by rw[hd];rfl
   simpa using this
  have L:i<ops.size:=by simp at V;omega
  have E:ops[i]? =some ops[i]:=by simp[L]
  rw[qb]at h;simp only[eW,List.range'_succ];rw[wpOpsIn_cons]
  refine yc R E (λh=>by have:=O _ h;omega) (A i _ o E B) (D i o · B) h λs' x w' β' τ' π' hK R'=>?_
  refine DY M A D hT hQ rest (i+1) s' _ w' β' τ' π' _ ?_ (by simp at V;omega) (λn h=>?_) (Z.put (λd hd=>hT i o d B (by rw[DX (A i _ o E B)];exact hd)) x) R' hK
  ·rw[<-List.tail_drop,hd];rfl
  ·rcases h with h|h
   ·have:=O n h;omega
   ·omega
theorem NV{cos:List CO} {base:Nat} (A:∀(i:Nat) (o:Oper) (c:CO),ops[i]? =some o->cos[i]? =some c->Bk P ops o c) (E:∀(i:Nat) (c:CO) (d:Nat),cos[i]? =some c->c.dst=some d->d<nt) {T:Nat->Prop} {a0:Act} (hT:∀(i:Nat) (c:CO) (d:Nat),cos[i]? =some c->c.dst=some d->¬T d) (hQ:∀s a w β τ π U,(∀n,U n->n<base+ops.size)->K s->rK T a0 a->Rel P nt n0 w0 π0 U s a w β τ π->Q .normal a w):
  ∀(f:Nat) (l:Array Bool) (s:S) (a:Act) (w:World) (β:Nat->Nat) (τ:Nat->Value) (π:Nat->Nat->Prop),l.size=ops.size->rK T a0 a->Rel P nt n0 w0 π0 (UL base l) s a w β τ π->
   Hu (Pure P) base ops cos K f l s->wpAnyIn (FW r) m P .any ops Q f l a w:=by
 have small:∀l:Array Bool,l.size=ops.size->∀n,UL base l n->n<base+ops.size:=by
  rintro l D n (h|⟨i,O,h⟩)
  ·omega
  ·have:i<l.size:=by
    rcases kn i l.size with h'|h'
    ·exact h'
    ·simp[yk h']at h
   omega
 intro f
 induction f with
 |zero=>intro l s a w β τ π D L R h;exact⟨h.1,hQ s a w β τ π _ (small l D) h.2 L R⟩
 |succ f ih=>
  intro l s a w β τ π D L R h
  refine⟨λh0=>hQ s a w β τ π _ (small l D) (h.1 h0) L R,λi O=>?_⟩
  obtain⟨o,M,hs⟩:=h.2 i O;obtain⟨V,Z,B,_⟩:=xo.1 O
  refine yc R B (DQ V) (A i Z o B M) (E i o · M) hs λs' x w' β' τ' π' hK R'=>?_
  exact ih _ s' _ w' β' τ' π' (by simp[D]) (L.put (λd hd=>hT i o d M (by rw[DX (A i Z o B M)];exact hd)) x) (R'.sub λn hn=>Hv (lY O) hn) hK
theorem yd{c:CO} {d:Nat}:∀{l:List CO},c∈l->c.dst=some d->d∈dstsOf l
 |o::l,h,hd=>by
  simp only[dstsOf,il]
  rcases mp.1 h with rfl|h
  ·exact .inl (by rw[hd];simp)
  ·exact .inr (yd h hd)
theorem Hx(hm:P.follows .mixedOrders=true) {oM:Bool} {A:List CO} (hc:xV P ops ops.toList=some A) (ro:List Nat) (hd:oM=true->∃dc T,lA dc ops.toList A=true/\BW T (oD ro 0 A) dc=true/\nj T s.nx 0 (oD ro 0 A)=true/\rH T s) (D:iJ nt A=true) (R:Rel P nt n0 w0 π0 U s a w β τ π) (hU:∀n,U n->n<s.nx) (h:j6 (Pure P) s.nx 0 (oD ro 0 A) K s) {T:Nat->Prop} (hT:∀d,d∈dstsOf A->¬T d) (hQ:∀O a' w β τ π U,(∀n,U n->n<s.nx+A.length)->K O->rK T a a'->Rel P nt n0 w0 π0 U O a' w β τ π->Q .normal a' w):(Code.region id ops oM).wpIn (FW r) m P Q a w:=by
 obtain⟨L,E⟩:=t5 hc
 have hd:oM=true->∃dc T,lA dc ops.toList (oD ro 0 A)=true/\BW T (oD ro 0 A) dc=true/\nj T s.nx 0 (oD ro 0 A)=true/\rH T s:=λe=>by
  obtain⟨dc,T,Z,V⟩:=hd e;exact⟨dc,T,NT Z,V⟩
 have D:iJ nt (oD ro 0 A)=true:=by rw[MH];exact D
 have hT:∀d,d∈dstsOf (oD ro 0 A)->¬T d:=by rw[I5];exact hT
 have B:(oD ro 0 A).length=ops.size:=by rw[Hw];simpa using L
 have hQ:∀O a' w β τ π U,(∀n,U n->n<s.nx+(oD ro 0 A).length)->K O->rK T a a'->Rel P nt n0 w0 π0 U O a' w β τ π->Q .normal a' w:=by rw[Hw];exact hQ
 have M:∀(i:Nat) (o:Oper) (c:CO),ops[i]? =some o->(oD ro 0 A)[i]? =some c->Bk P ops o c:=λi o c Z V=>by
  obtain⟨c0,h3,h4⟩:=MG V
  exact⟨c0,E i o c0 (by simpa using Z) h3,h4⟩
 clear L E hc;generalize oD ro 0 A=cos at*
 have hT:∀(i:Nat) (c:CO) (d:Nat),cos[i]? =some c->c.dst=some d->¬T d:=λi c d hi hd=>hT d (yd (em hi) hd)
 have D:=rL D
 rw[B]at hQ
 cases oM with
 |false=>
  refine wpIn_region ?_
  have:=DY (r:=r) (m:=m) B M D hT hQ cos 0 s a w β τ π U rfl (by simpa using B) (by simpa using hU) (.refl _ _) R h
  rw[B]at this;rw[List.range_eq_range'];exact this
 |true=>
  obtain⟨dc,Tb,ak,aa,ac,ae⟩:=hd rfl
  have ab:∀k ok,cos[k]? =some ok->rB Tb (s.nx+k) ok=true:=λk ok hk=>by have:=rI ac k ok hk;rwa[la]at this
  refine wpIn_region_any hm ?_
  have R':Rel P nt n0 w0 π0 (UL s.nx (Array.replicate ops.size false)) s a w.drew β τ π:=R.draw.sub λn hn=>.inl (hU n hn)
  have V:j6 (Pure P) s.nx 0 cos (λs2=>∃s1,tE s1 s2/\K s1) s:=by
   clear hQ
   have ag:∀(base':Nat) (r:List CO) (i:Nat) (s:S) {K':S->Prop},(∀s,K s->K' s)->j6 (Pure P) base' i r K s->j6 (Pure P) base' i r K' s:=by
    intro base' r
    induction r with
    |nil=>intro i s K' hk h;exact hk s h
    |cons o r ih=>
     intro i s K' hk h;rw[qb]at h⊢;obtain⟨v,d,hd,ad,_⟩:=gw h;exact hd.2 s .refl _ (ih _ _ hk ad)
   exact ag s.nx cos 0 s (λs h=>⟨s,.refl,h⟩) h
  have h3:=tZ ab aa (λs s2 he ⟨s1,Z,hk⟩=>⟨s1,Z.trans he,hk⟩) B ak cos 0 (Array.replicate ops.size false) s rfl (by simpa using B) TB (λj hj=>by simp[hj]) R'.gS ae V
  rw[B]at h3
  refine NV M D hT ?_ ops.size _ s a w.drew β τ π TB (.refl _ _) R' h3
  rintro s2 a w β τ π U hU ⟨s1,he,hk⟩ hp R2
  exact hQ s1 a w β τ π U hU hk hp (R2.seq he.symm)
end
end
end Go.Eng
