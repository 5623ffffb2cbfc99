/- The engine and the library,part 6 of 21: what the proofs of this seat need of them. -/
import Derived.Test.YtkckiembbiiliaaGreatPk5
set_option linter.unnecessarySimpa false
set_option linter.unusedSimpArgs false
set_option linter.unusedVariables false
set_option linter.defProp false
set_option maxRecDepth 10000
set_option maxHeartbeats 4000000
namespace Go.Eng
open Go
theorem sj{listed:Array Bool} {i:Nat} (h:listed.getD i true=false):listed.getD i false=false:=by
 rcases Nat.lt_or_ge i listed.size with h'|h'
 ·simp[h']at h⊢;exact h
 ·simp[Array.getElem?_eq_none h']at h
theorem Fv{listed:Array Bool} {i:Nat} (hi:i<listed.size) (h:listed.getD i false=false):listed.getD i true=false:=by
 simp[hi]at h⊢;exact h
def BJ(C:bw) (base:Nat) (ops:Array Oper) (cos:List CO) (K:S->Prop):Nat->Array Bool->S->Prop
 |0,l,s=>Region.ready .any ops l=[]/\K s
 |f+1,l,s=>(Region.ready .any ops l=[]->K s)/\∀i∈Region.ready .any ops l,∃o,cos[i]? =some o/\jS C (base+i) o (BJ C base ops cos K f (l.setIfInBounds i true)) s
def UL(base:Nat) (l:Array Bool):Nat->Prop:=fun n=>n<base\/∃i,n=base+i/\l.getD i false=true
section
variable{C:bw} {base:Nat} {ops:Array Oper} {cos:List CO} {K:S->Prop}
theorem yG(hK:∀s s2,pW s s2->K s->K s2):∀(f:Nat) (l:Array Bool) (s s2:S),pW s s2->BJ C base ops cos K f l s->BJ C base ops cos K f l s2
 |0,l,s,s2,he,h=>⟨h.1,hK _ _ he h.2⟩
 |f+1,l,s,s2,he,h=>⟨fun h0=>hK _ _ he (h.1 h0),fun i hi=>by
   obtain⟨o,ho,hs⟩:=h.2 i hi;refine⟨o,ho,?_⟩;obtain⟨v,d,hd,hk,_⟩:=eY hs
   exact hd.2 s2 he.XQ _ (yG hK f _ _ _ ((he.app d _).put _ _) hk)⟩
theorem yH{l:Array Bool} {i:Nat} (h:l.getD i true=false):¬UL base l (base+i):=by
 rintro(h'|⟨k,hk,hl⟩)
 ·omega
 ·have:k=i:=by omega
  subst this;rw[sj h]at hl;cases hl
theorem BK{l:Array Bool} {i:Nat} (hi:i<l.size) {n:Nat} (h:eE (UL base l) (base+i) n):UL base (l.setIfInBounds i true) n:=by
 rcases h with(h|⟨k,hk,hl⟩)|h
 ·exact .inl h
 ·exact .inr ⟨k,hk,getD_set_true hl⟩
 ·exact .inr ⟨i,h,by simp[hi]⟩
theorem lq{md:Region.Mode} {l:Array Bool} {i:Nat} (h:i∈Region.ready md ops l):i<l.size:=by
 have h0:=(mem_ready.1 h).1
 rcases Nat.lt_or_ge i l.size with h'|h'
 ·exact h'
 ·simp[Array.getElem?_eq_none h']at h0
def qI(ops:Array Oper) (l:Array Bool):Prop:=∀k ok,ops[k]? =some ok->l.getD k false=true->∀e∈ok.after,Region.binds .any e=true->l.getD e.on false=true
theorem qI.set{l:Array Bool} (h:qI ops l) {i:Nat} (hi:i∈Region.ready .any ops l):qI ops (l.setIfInBounds i true):=by
 obtain⟨_,oi,hoi,hall⟩:=mem_ready.1 hi;intro k ok hk hl e he hb
 by_cases hik:i=k
 ·subst hik
  have:ok=oi:=Option.some.inj (hk.symm.trans hoi)
  subst this;exact getD_set_true (hall e he hb)
 ·rw[getD_set_ne false hik]at hl
  exact getD_set_true (h k ok hk hl e he hb)
theorem Gk{l:Array Bool} (hc:qI ops l) {i j:Nat} (hi:l.getD i true=false) (hj:j∈Region.ready .any ops l) {oj:Oper} (hoj:ops[j]? =some oj):
  oj.after.any (fun e=>Region.binds .any e&&e.on==i)=false/\waits ops.toList i oj=false:=by
 obtain⟨_,oj',hoj',hall⟩:=mem_ready.1 hj
 have:oj'=oj:=Option.some.inj (hoj'.symm.trans hoj)
 subst this
 have hif:=sj hi
 constructor
 ·rw[Bool.eq_false_iff]
  intro h;obtain⟨e,he,hb⟩:=Array.any_eq_true'.1 h;simp only[Bool.and_eq_true,beq_iff_eq]at hb
  have:=hall e he hb.1
  rw[hb.2,hif]at this;cases this
 ·rw[Bool.eq_false_iff]
  intro h;obtain⟨e,he,hb⟩:=Array.any_eq_true'.1 h;simp only[Bool.and_eq_true,Bool.or_eq_true,beq_iff_eq]at hb
  have h1:=hall e he hb.1
  rcases hb.2 with h2|h2
  ·rw[h2,hif]at h1;cases h1
  ·split at h2
   ·rename_i ok hok
    obtain⟨e',he',hb'⟩:=Array.any_eq_true'.1 h2;simp only[Bool.and_eq_true,beq_iff_eq]at hb'
    have h3:=hc e.on ok (by simpa using hok) h1 e' he' hb'.1
    rw[hb'.2,hif]at h3;cases h3
   ·cases h2
end
def nX(T:List (Nat×Tag)) (s:S):Prop:=∀t b,CB b s t->(look T t).Ah b=true
theorem w7{C:bw} {T:List (Nat×Tag)} {id:Nat} {o:CO} {s:S} {v:SV} {d:Delta} (hd:En C id o s v d) (hs:o4 T id o=true) (hR:nX T s):nX T ((d.app' id s).put o.dst v):=by
 rintro t b ⟨u0,hl,hb0⟩
 rw[o7]at hl;split at hl
 ·rename_i e
  cases hl;unfold o4 at hs;rw[e]at hs;simp only at hs
  cases hz:look T t with
  |none=>rfl
  |some z=>
   rw[hz]at hs;simp only at hs
   rcases hd.1.2 b hb0 with⟨rfl,ha⟩|⟨u,hu,hlu⟩
   ·rw[if_pos ha]at hs
    simpa[Tag.Ah]using hs
   ·have hna:¬o.op.HJ=true:=fun ha=>by
     revert hu ha;cases o.op<;>simp[bR.qq,bR.HJ]
    rw[if_neg hna]at hs
    have h1:=List.all_eq_true.1 hs u hu
    have h2:=hR u b hlu
    cases hzu:look T u with
    |none=>rw[hzu]at h1;cases h1
    |some z'=>
     rw[hzu]at h1 h2;simp only[Bool.or_eq_true,beq_iff_eq]at h1;simp only[Tag.Ah,beq_iff_eq]at h2⊢
     rcases h1 with h1|h1
     ·rw[h1]at h2;cases h2
     ·rw[<-h1];exact h2
 ·rw[o8]at hl
  cases hv:lk t s.slots with
  |none=>rw[hv]at hl;cases hl
  |some w=>
   rw[hv]at hl;simp only[Option.map_some,Option.some.injEq]at hl
   rcases lp d w with h|⟨b',v',_,_,_,h,hf,_⟩
   ·rw[h]at hl;subst hl;exact hR t b ⟨_,hv,hb0⟩
   ·rw[h]at hl;subst hl;exact absurd hb0 (hf.2 _)
theorem Ig{z z':Tag} {b:Nat} (h:z.V4 z'=true) (h1:z.Ah b=true) (h2:z'.Ah b=true):False:=by
 cases z with
 |none=>cases z' with
  |none=>cases h
  |some z'=>cases z' with
   |none=>simp[Tag.Ah]at h2
   |some b'=>cases h
 |some z=>cases z with
  |none=>simp[Tag.Ah]at h1
  |some a=>cases z' with
   |none=>cases h
   |some z'=>cases z' with
    |none=>simp[Tag.Ah]at h2
    |some b'=>
     simp[Tag.Ah]at h1 h2;subst h1;subst h2;simp[Tag.V4]at h
theorem CU{T:List (Nat×Tag)} {x y:CO} {s:S} (h:x.half T y=true) (hR:nX T s):Clear x y s:=by
 rintro b ⟨t,ht,hl⟩
 have h:=List.all_eq_true.1 h t ht
 simp only[Bool.and_eq_true,Bool.or_eq_true,Bool.not_eq_true']at h
 refine⟨fun u hu hlu=>?_,fun hf u hu hlu=>?_⟩
 ·exact Ig (List.all_eq_true.1 h.1 u hu) (hR t b hl) (hR u b hlu)
 ·rcases h.2 with h2|h2
  ·rw[hf]at h2;cases h2
  ·exact Ig (List.all_eq_true.1 h2 u hu) (hR t b hl) (hR u b hlu)
theorem AJ{T:List (Nat×Tag)} {x y:CO} (h:x.half [] y=true):x.half T y=true:=by
 unfold CO.half at h⊢;rw[List.all_eq_true]at h⊢;intro t ht
 have h:=h t ht
 simp only[Bool.and_eq_true,Bool.or_eq_true,List.all_eq_true]at h⊢
 refine⟨fun u hu=>?_,h.2.imp id fun h2 u hu=>?_⟩
 ·have:=h.1 u hu;cases this
 ·have:=h2 u hu;cases this
theorem Ep{T:List (Nat×Tag)} {x y:CO} (h:x.apart y=true):x.qt T y=true:=by
 unfold CO.apart CO.qt at*;simp only[Bool.and_eq_true]at h⊢;exact⟨⟨h.1.1,AJ h.1.2⟩,AJ h.2⟩
theorem yI{T:List (Nat×Tag)} {ops:List CO} {i j:Nat} {x y:CO} (hi:ops[i]? =some x) (hj:ops[j]? =some y):∀{dZ:List (Nat×Nat)},uH T ops dZ=true->dZ.contains (i,j)=true->x.qt T y=true
 |[],_,h=>by cases h
 |(k,l)::r,h,hm=>by
  simp only[uH,Bool.and_eq_true]at h;rw[List.contains_cons,Bool.or_eq_true]at hm
  rcases hm with hm|hm
  ·have e:(i,j)=(k,l):=by simpa using hm
   cases e
   have:=h.1
   rw[hi,hj]at this;exact this
  ·exact yI hi hj h.2 hm
theorem o9{T:List (Nat×Tag)} {base:Nat}:∀{l:List CO} {i:Nat},kS T base i l=true->∀(k:Nat) (o:CO),l[k]? =some o->o4 T (base+(i+k)) o=true
 |[],i,h,k,o,hk=>by simp at hk
 |a::l,i,h,k,o,hk=>by
  simp only[kS,Bool.and_eq_true]at h
  cases k with
  |zero=>simp at hk;subst hk;exact h.1
  |succ k=>
   have:=o9 h.2 k o (by simpa using hk)
   rw[show i+(k+1)=i+1+k by omega];exact this
theorem qJ{base:Nat}:∀{l:List CO} {i:Nat},kS [] base i l=true
 |[],i=>rfl
 |a::l,i=>by
  simp only[kS,Bool.and_eq_true];refine⟨?_,qJ⟩;unfold o4
  split<;>rfl
theorem mw{T:List (Nat×Tag)}:∀{sl:List (Nat×SV)},kR T sl=true->∀t b v,lk t sl=some v->v.has b->(look T t).Ah b=true
 |[],_,t,b,v,hl,_=>by cases hl
 |(m,u)::r,h,t,b,v,hl,hb=>by
  simp only[lk,j7]at hl;split at hl
  ·rename_i e
   cases hl;subst e
   cases u<;>try(exact hb.elim)
   ·have hb:_=b:=hb
    subst hb;simp only[kR,Bool.and_eq_true]at h;exact h.1
   ·have hb:_=b:=hb
    subst hb;simp only[kR,Bool.and_eq_true]at h;exact h.1
   ·simp only[kR,Bool.and_eq_true]at h
    obtain⟨p,hp,rfl⟩:=hb;exact List.all_eq_true.1 h.1 p hp
  ·refine mw (sl:=r) ?_ t b v hl hb
   cases u<;>first|exact h|(simp only[kR,Bool.and_eq_true]at h;exact h.2)
section
variable{C:bw} {base:Nat} {ops:Array Oper} {cos:List CO} {K:S->Prop} {T:List (Nat×Tag)}
theorem Er(hT:∀k ok,cos[k]? =some ok->o4 T (base+k) ok=true) (hK:∀s s2,pW s s2->K s->K s2) (hlen:cos.length=ops.size) {i:Nat} {oi:CO} (hi:cos[i]? =some oi):
  ∀(f:Nat) (l:Array Bool) (s:S),
   (∀j pj oj,ops[j]? =some pj->cos[j]? =some oj->j≠i->l.getD j true=false->pj.after.any (fun e=>Region.binds .any e&&e.on==i)=false->waits ops.toList i pj=false->oi.qt T oj=true)->
   qI ops l->i∈Region.ready .any ops l->s.gp (UL base l)->nX T s->jS C (base+i) oi (BJ C base ops cos K f (l.setIfInBounds i true)) s->BJ C base ops cos K (f+1) l s:=by
 intro f
 induction f with
 |zero=>
  intro l s _ _ hr hU hR H
  refine⟨fun h=>(by rw[h]at hr;cases hr),fun j hj=>?_⟩
  by_cases hji:j=i
  ·subst hji;exact⟨oi,hi,H⟩
  ·obtain⟨v,d,hd,hk,_⟩:=eY H
   have:=ready_mono hj hji
   rw[hk.1]at this;cases this
 |succ f ih=>
  intro l s hfree hcl hr hU hR H
  refine⟨fun h=>(by rw[h]at hr;cases hr),fun j hj=>?_⟩
  by_cases hji:j=i
  ·subst hji;exact⟨oi,hi,H⟩
  ·obtain⟨vi,di,hdi,hki,hUi⟩:=eY H
   obtain⟨oj,hoj,hsj⟩:=hki.2 j (ready_mono hj hji)
   obtain⟨vj,dj,hdj,hkj,hUj⟩:=eY hsj
   have hjun:=(mem_ready.1 hj).1
   have hiun:=(mem_ready.1 hr).1
   obtain⟨pj,hpj,_⟩:=(mem_ready.1 hj).2
   obtain⟨w1,w2⟩:=Gk hcl hiun hj hpj
   have hap:=hfree j pj oj hpj hoj hji hjun w1 w2
   unfold CO.qt at hap;simp only[Bool.and_eq_true]at hap
   obtain⟨a1,a2,a3⟩:=Lp hap.1.1 hU (yH hiun) (yH hjun) (by omega) (CU hap.1.2 hR) (CU hap.2 hR) hdi hdj
   -- the state behind j
   have hsj0:jS C (base+j) oj (fun s3=>s3=(dj.app' (base+j) s).put oj.dst vj) s:=hdj.2 s a1 _ rfl
   have hUj0:((dj.app' (base+j) s).put oj.dst vj).gp (UL base (l.setIfInBounds j true)):=by
    obtain⟨v',d',_,hk',hU'⟩:=eY hsj0
    have:=hU' _ hU
    rw[hk']at this
    exact xS (fun n hn=>BK (lq hj) hn) this
   have hRj0:nX T ((dj.app' (base+j) s).put oj.dst vj):=by
    obtain⟨v',d',hd',hk',_⟩:=eY hsj0
    have:=w7 hd' (hT j oj hoj) hR
    rw[hk']at this;exact this
   refine⟨oj,hoj,hdj.2 s a1 _ ?_⟩;refine ih (l.setIfInBounds j true) _ ?_ (hcl.set hj) (ready_mono hr (Ne.symm hji)) hUj0 hRj0 ?_
   ·intro k pk ok hpk hok hki' hun hno hno2
    refine hfree k pk ok hpk hok hki' ?_ hno hno2
    by_cases hjk:j=k
    ·subst hjk;exact hjun
    ·rw[getD_set_ne true hjk]at hun;exact hun
   ·refine hdi.2 _ a2 _ ?_
    rw[Array.setIfInBounds_comm _ _ hji];exact yG hK f _ _ _ a3 hkj
end
theorem uP{dZ:List (Nat×Nat)} {ops:List Oper} {i:Nat} {x:CO}:∀{os:List Oper} {ys:List CO} {k:Nat},nG dZ ops i x k os ys=true->∀(j:Nat) (pj:Oper) (oj:CO),os[j]? =some pj->ys[j]? =some oj->i<k+j->
  pj.after.any (fun e=>Region.binds .any e&&e.on==i)=true\/x.apart oj=true\/waits ops i pj=true\/dZ.contains (i,k+j)=true
 |[],ys,k,h,j,pj,oj,h1,h2,h3=>by simp at h1
 |o::os,[],k,h,j,pj,oj,h1,h2,h3=>by simp at h2
 |o::os,y::ys,k,h,j,pj,oj,h1,h2,h3=>by
  simp only[nG,Bool.and_eq_true,Bool.or_eq_true,decide_eq_true_eq]at h
  cases j with
  |zero=>
   simp at h1 h2;subst h1;subst h2
   rcases h.1 with(((h|h)|h)|h)|h
   ·omega
   ·exact .inl h
   ·exact .inr (.inl h)
   ·exact .inr (.inr (.inl h))
   ·exact .inr (.inr (.inr h))
  |succ j=>
   have:=uP h.2 j pj oj (by simpa using h1) (by simpa using h2) (by omega)
   rw[show k+1+j=k+(j+1)by omega]at this
   exact this
theorem kT{dZ:List (Nat×Nat)} {ops:List Oper} {cos:List CO}:∀{os:List Oper} {ys:List CO} {k:Nat},mN dZ ops cos k os ys=true->∀(i:Nat) (pi:Oper) (oi:CO),os[i]? =some pi->ys[i]? =some oi->
  (∀e∈pi.after,Region.binds .any e=true->e.on<k+i)/\nG dZ ops (k+i) oi 0 ops cos=true
 |[],ys,k,h,j,pj,oj,h1,h2=>by simp at h1
 |o::os,[],k,h,j,pj,oj,h1,h2=>by simp at h2
 |o::os,y::ys,k,h,j,pj,oj,h1,h2=>by
  simp only[mN,Bool.and_eq_true]at h
  cases j with
  |zero=>
   simp at h1 h2;subst h1;subst h2
   refine⟨fun e he hb=>?_,h.1.2⟩
   have:=Array.all_eq_true_iff_forall_mem.1 h.1.1 e he
   simpa[hb]using this
  |succ j=>
   have:=kT h.2 j pj oj (by simpa using h1) (by simpa using h2)
   rw[show k+1+j=k+(j+1)by omega]at this
   exact this
def Ro(x x':CO):Prop:=x'=x\/x'=x.ro
theorem Ro.dst{x x':CO} (h:Ro x x'):x'.dst=x.dst:=by rcases h with rfl|rfl<;>rfl
theorem Ro.rd{x x':CO} (h:Ro x x'):x'.rd=x.rd:=by
 rcases h with rfl|rfl
 ·rfl
 ·cases x with|mk d o g=>cases o<;>rfl
theorem Ro.ta{x x':CO} (h:Ro x x'):x'.op.ta=x.op.ta:=by
 rcases h with rfl|rfl
 ·rfl
 ·cases x with|mk d o g=>cases o<;>rfl
theorem Ro.app{x x':CO} (h:Ro x x'):x'.op.isApp=x.op.isApp:=by
 rcases h with rfl|rfl
 ·rfl
 ·cases x with|mk d o g=>cases o<;>rfl
theorem Ro.BH{x x':CO} (h:Ro x x'):x'.op.wU=x.op.wU:=by
 rcases h with rfl|rfl
 ·rfl
 ·cases x with|mk d o g=>cases o<;>rfl
theorem Ro.Fe{x x':CO} (h:Ro x x'):x'.op.Fe=x.op.Fe\/x'.op.Fe=[]:=by
 rcases h with rfl|rfl
 ·exact .inl rfl
 ·cases x with|mk d o g=>cases o<;>first|exact .inl rfl|exact .inr rfl
theorem Ro.indep{x x' y y':CO} (hx:Ro x x') (hy:Ro y y'):x'.indep y'=x.indep y:=by
 simp only[CO.indep,hx.dst,hy.dst,hx.rd,hy.rd,hx.app,hy.app]
theorem Ro.half{T:List (Nat×Tag)} {x x' y y':CO} (hx:Ro x x') (hy:Ro y y') (h:x.half T y=true):x'.half T y'=true:=by
 simp only[CO.half,hy.ta,hy.rd,hx.BH]at h⊢
 rcases hx.Fe with e|e
 ·rw[e];exact h
 ·rw[e];rfl
theorem Ro.apart{x x' y y':CO} (hx:Ro x x') (hy:Ro y y') (h:x.apart y=true):x'.apart y'=true:=by
 simp only[CO.apart,CO.qt,Bool.and_eq_true]at h⊢
 exact⟨⟨by rw[hx.indep hy];exact h.1.1,hx.half hy h.1.2⟩,hy.half hx h.2⟩
theorem Fx{ro:List Nat}:∀{l:List CO} {k i:Nat} {c':CO},(ny ro k l)[i]? =some c'->∃c,l[i]? =some c/\Ro c c'
 |[],k,i,c',h=>by simp[ny]at h
 |o::l,k,0,c',h=>by
  simp only[ny,List.getElem?_cons_zero,Option.some.injEq]at h;refine⟨o,rfl,?_⟩
  cases hk:ro.contains k with
  |true=>rw[hk]at h;exact .inr h.symm
  |false=>rw[hk]at h;exact .inl h.symm
 |o::l,k,i+1,c',h=>by
  simp only[ny,List.getElem?_cons_succ]at h⊢;exact Fx h
theorem BL{ro:List Nat}:∀{l:List CO} {k:Nat},(ny ro k l).length=l.length
 |[],k=>rfl
 |o::l,k=>by simp only[ny,List.length_cons,BL]
theorem CV{ro:List Nat}:∀{l:List CO} {k:Nat},dstsOf (ny ro k l)=dstsOf l
 |[],k=>rfl
 |o::l,k=>by
  simp only[ny,dstsOf,CV]
  cases ro.contains k<;>rfl
theorem Fy{n:Nat} {ro:List Nat}:∀{l:List CO} {k:Nat},gq n (ny ro k l)=gq n l
 |[],k=>rfl
 |o::l,k=>by
  simp only[ny,gq,Fy]
  cases ro.contains k<;>rfl
theorem Ro.of(ro:List Nat) (k:Nat) (o:CO):Ro o (bif ro.contains k then o.ro else o):=by
 cases ro.contains k
 ·exact .inl rfl
 ·exact .inr rfl
theorem yJ{dZ:List (Nat×Nat)} {ops:List Oper} {i:Nat} {x x':CO} (hx:Ro x x') {ro:List Nat}:∀{os:List Oper} {ys:List CO} {k m:Nat},nG dZ ops i x k os ys=true->nG dZ ops i x' k os (ny ro m ys)=true
 |[],ys,k,m,h=>rfl
 |o::os,[],k,m,h=>rfl
 |o::os,y::ys,k,m,h=>by
  simp only[ny,nG,Bool.and_eq_true,Bool.or_eq_true,decide_eq_true_eq]at h⊢;refine⟨?_,yJ hx h.2⟩
  rcases h.1 with(((h|h)|h)|h)|h
  ·exact .inl (.inl (.inl (.inl h)))
  ·exact .inl (.inl (.inl (.inr h)))
  ·exact .inl (.inl (.inr (hx.apart (.of ro m y) h)))
  ·exact .inl (.inr h)
  ·exact .inr h
theorem xb{dZ:List (Nat×Nat)} {ops:List Oper} {cos:List CO} {ro:List Nat} {m:Nat}:∀{os:List Oper} {ys:List CO} {k:Nat},mN dZ ops cos k os ys=true->mN dZ ops (ny ro m cos) k os (ny ro k ys)=true
 |[],ys,k,h=>rfl
 |o::os,[],k,h=>rfl
 |o::os,y::ys,k,h=>by
  simp only[ny,mN,Bool.and_eq_true]at h⊢;exact⟨⟨h.1.1,yJ (.of ro k y) h.1.2⟩,xb h.2⟩
theorem Gl{dZ:List (Nat×Nat)} {ops:List Oper} {cos:List CO} {ro:List Nat} (h:jH dZ ops cos=true):jH dZ ops (ny ro 0 cos)=true:=xb h
theorem uQ{l l2:List (Nat×bY)} (h:∀b,ct b l2=ct b l):∀{ids:List Nat},d9 l2 ids=d9 l ids
 |[]=>rfl
 |b::bs=>by simp only[d9,h b,uQ h (ids:=bs)]
theorem yK{l:List (Nat×bY)}:∀{ids:List Nat} {css:List (List AV)},d9 l ids=some css->bh l ids=some css
 |[],css,h=>h
 |b::bs,css,h=>by
  simp only[d9]at h
  split at h<;>try(cases h;done)
  rename_i cs css' h1 h2;cases h;simp only[bh,h1,yK h2]
theorem tU:∀{ids:List Nat} {css:List (List AV)} {l:List (Nat×bY)},d9 l ids=some css->∀b,ct b (dz ids css l)=ct b l
 |[],css,l,h,b=>rfl
 |i::is,css,l,h,b=>by
  simp only[d9]at h
  split at h<;>try(cases h;done)
  rename_i cs css' h1 h2;cases h
  have e:∀n,ct n (nW i ⟨cs,[]⟩ l)=ct n l:=fun n=>by
   rw[i9];split
   ·rename_i e;subst e;rw[h1];rfl
   ·rfl
  rw[dz,tU (by rw[uQ e];exact h2),e]
theorem OA{C:bw} {id:Nat} {o:bR} {K:SV->S->Prop} {s:S} (h:bN C id o.ro K s):bN C id o (fun v s'=>∃s0,pW s' s0/\K v s0) s:=by
 have same:bN C id o K s->bN C id o (fun v s'=>∃s0,pW s' s0/\K v s0) s:=fun h=>by
  obtain⟨v,d,hK,_,_,_,hs⟩:=qH h;exact hs s .refl _ ⟨_,.refl,hK⟩
 cases o<;>try(exact same h)
 case aE f args=>
  obtain⟨p,hp,hnd,h⟩:=af (h:aj _ _)
  obtain⟨css,hcs,r,hc,hK⟩:=af h;simp only[bN,hp,yK hcs,aG]
  exact⟨hnd,r,none,css,hc,s,⟨fun _=>rfl,fun b=>(tU hcs b).symm,fun _=>rfl⟩,hK⟩
 case gL g args=>
  obtain⟨a,ha,h⟩:=af (h:aj _ _)
  cases a<;>try(exact h.elim)
  rename_i fn first caps
  cases fn<;>try(exact h.elim)
  rename_i f
  cases first<;>try(exact h.elim)
  cases caps<;>try(exact h.elim)
  obtain⟨p,hp,hnd,h⟩:=af h;obtain⟨css,hcs,r,hc,hK⟩:=af h;simp only[bN,ha,hp,yK hcs,aG]
  exact⟨hnd,r,none,css,hc,s,⟨fun _=>rfl,fun b=>(tU hcs b).symm,fun _=>rfl⟩,hK⟩
theorem Ih{C:bw} {id:Nat} {c c':CO} (hr:Ro c c') {K:S->Prop} {s:S} (h:jS C id c' K s):jS C id c (fun s'=>∃s0,pW s' s0/\K s0) s:=by
 rcases hr with rfl|rfl
 ·obtain⟨v,d,hd,hK,_⟩:=eY h
  exact hd.2 s .refl _ ⟨_,.refl,hK⟩
 ·have run:bN C id c.op.ro (fun v s'=>K (s'.put c.dst v)) s->bN C id c.op (fun v s'=>∃s0,pW (s'.put c.dst v) s0/\K s0) s:=fun h=>by
   have:=OA h
   obtain⟨v,d,⟨s0,he,hK⟩,_,_,_,hs⟩:=qH this;exact hs s .refl _ ⟨_,he.put _ _,hK⟩
  cases c with
  |mk dst op g=>
   have h:eA s g (bN C id op.ro (fun v s'=>K (s'.put dst v)) s) (K (s.put dst .undef)):=h
   have run:bN C id op.ro (fun v s'=>K (s'.put dst v)) s->bN C id op (fun v s'=>∃s0,pW (s'.put dst v) s0/\K s0) s:=run
   show eA s g (bN C id op (fun v s'=>∃s0,pW (s'.put dst v) s0/\K s0) s) (∃s0,pW (s.put dst .undef) s0/\K s0)
   unfold eA at h⊢
   cases g with
   |none=>exact run h
   |some p=>
    obtain⟨t,want⟩:=p;simp only at h⊢
    cases hl:lk t s.slots with
    |none=>simp[hl]at h
    |some v=>
     simp only[hl]at h
     cases v with
     |ptr b o=>exact h.elim
     |rp cs=>exact h.elim
     |vs _ _ _ _=>exact h.elim
     |nD _ _ _=>exact h.elim
     |raw _ _=>exact h.elim
     |pt _ _=>exact h.elim
     |undef=>exact⟨_,.refl,h⟩
     |dat a q=>
      cases a<;>try(exact h.elim)
      exact⟨fun e=>run (h.1 e),fun e=>⟨_,.refl,h.2 e⟩⟩
section
variable{C:bw} {base:Nat} {ops:Array Oper} {cos:List CO} {K:S->Prop}
theorem qK{T:List (Nat×Tag)} {dZ:List (Nat×Nat)} (hT:∀k ok,cos[k]? =some ok->o4 T (base+k) ok=true) (hbad:uH T cos dZ=true) (hK:∀s s2,pW s s2->K s->K s2) (hlen:cos.length=ops.size) (hok:jH dZ ops.toList cos=true):
  ∀(rest:List CO) (i:Nat) (l:Array Bool) (s:S),cos.drop i=rest->i+rest.length=ops.size->l.size=ops.size->(∀j,j<ops.size->l.getD j false=decide (j<i))->
   s.gp (UL base l)->nX T s->jh C base i rest K s->BJ C base ops cos K rest.length l s
 |[],i,l,s,hd,hn,hl,hl',hU,hR,h=>by
  refine⟨?_,h⟩;rw[List.eq_nil_iff_forall_not_mem];intro j hj
  have h1:=(mem_ready.1 hj).1
  have h2:=lq hj
  have h3:=hl' j (by omega)
  rw[sj h1]at h3;simp at hn h3;omega
 |o::rest,i,l,s,hd,hn,hl,hl',hU,hR,h=>by
  have hio:cos[i]? =some o:=by
   have:(cos.drop i)[0]? =some o:=by rw[hd];rfl
   simpa using this
  have hilt:i<ops.size:=by simp at hn;omega
  have hpi:ops[i]? =some ops[i]:=by simp[hilt]
  obtain⟨hedge,hrow⟩:=kT hok i ops[i] o (by simpa using hpi) hio
  simp only[Nat.zero_add]at hedge hrow
  have hiun:l.getD i true=false:=by
   have:=hl' i hilt
   simp at this
   exact Fv (by omega) (by simpa using this)
  have hcl:qI ops l:=by
   intro k ok hk hlk e he hb
   have hkn:k<ops.size:=(Array.getElem?_eq_some_iff.1 hk).1
   rw[hl' k hkn]at hlk;simp at hlk
   obtain⟨ok',hok'⟩:∃x,cos[k]? =some x:=⟨cos[k]'(by omega),by simp[hlen,hkn]⟩
   have:=(kT hok k ok ok' (by simpa using hk) hok').1 e he hb
   rw[hl' e.on (by omega)]
   simp;omega
  have hr:i∈Region.ready .any ops l:=by
   rw[mem_ready]
   refine⟨hiun,ops[i],hpi,fun e he hb=>?_⟩
   have:=hedge e he hb
   rw[hl' e.on (by omega)]
   simpa using this
  refine Er hT hK hlen hio rest.length l s ?_ hcl hr hU hR ?_
  ·intro j pj oj hpj hoj hji hjun hno hno2
   have hjn:j<ops.size:=(Array.getElem?_eq_some_iff.1 hpj).1
   have hlj:=hl' j hjn
   rw[sj hjun]at hlj;simp at hlj
   have hij:i<0+j:=by omega
   rcases uP hrow j pj oj (by simpa using hpj) hoj hij with h|h|h|h
   ·rw[hno]at h;cases h
   ·exact Ep h
   ·rw[hno2]at h;cases h
   ·rw[Nat.zero_add]at h;exact yI hio hoj hbad h
  ·rw[kK]at h
   obtain⟨v,d,hdoes,hs',hi'⟩:=eY h
   have hU':=hi' _ hU
   have hR':=w7 hdoes (hT i o hio) hR
   refine hdoes.2 s .refl _ ?_;generalize(d.app' (base+i) s).put o.dst v=s' at hs' hU' hR'
   have hlsz:(l.setIfInBounds i true).size=ops.size:=by simp[hl]
   refine qK hT hbad hK hlen hok rest (i+1) _ s' ?_ (by simp at hn⊢;omega) hlsz (fun j hj=>?_) (xS (fun n hn=>BK (by omega) hn) hU') hR' hs'
   ·rw[<-List.tail_drop,hd];rfl
   ·by_cases hij:i=j
    ·subst hij;simp[hl,hilt]
    ·rw[getD_set_ne false hij,hl' j hj]
     by_cases hlt:j<i
     ·simp[hlt];omega
     ·simp[hlt];omega
end
section
variable{P:Program} {nt:Nat} {n0:gO} {w0:World} {π0:Nat->Nat->Prop} {U:Nat->Prop} {s:S} {a:Act} {w:World} {β:Nat->Nat} {τ:Nat->Value} {π:Nat->Nat->Prop}
theorem Rel.gp(R:Rel P nt n0 w0 π0 U s a w β τ π):s.gp U:=
 ⟨fun t v hv=>(R.slots t v hv).2,fun b x hb=>⟨(R.boxes b x hb).1,fun o q hq=>(R.boxes b x hb).2.2.2 o q hq⟩,fun q e hq=>(R.live q e hq).1⟩
theorem Rel.seq(R:Rel P nt n0 w0 π0 U s a w β τ π) {s2:S} (h:pW s s2):Rel P nt n0 w0 π0 U s2 a w β τ π where
 size:=R.size
 slots:=fun t v hv=>R.slots t v (by rw[<-h.slots];exact hv)
 boxes:=fun b x hb=>R.boxes b x (by rw[<-h.boxes];exact hb)
 inj:=fun b b' x x' hb hb'=>R.inj b b' x x' (by rw[<-h.boxes];exact hb) (by rw[<-h.boxes];exact hb')
 live:=fun q e hq=>R.live q e (by rw[<-h.live];exact hq)
 bS:=fun q q' e e' B hq hq'=>R.bS q q' e e' B (by rw[<-h.live];exact hq) (by rw[<-h.live];exact hq')
 cK:=fun q e b x hq hb=>R.cK q e b x (by rw[<-h.live];exact hq) (by rw[<-h.boxes];exact hb)
 below:=R.below
 fu:=R.fu
 ej:=R.ej
 eo:=R.eo
 cH:=R.cH
 lQ:=R.lQ
 jt:=R.jt
 kept:=R.kept
theorem Rel.nx(R:Rel P nt n0 w0 π0 U s a w β τ π) (n:Nat):Rel P nt n0 w0 π0 U {s with nx:=n} a w β τ π:=
 R.seq ⟨fun _=>rfl,fun _=>rfl,fun _=>rfl⟩
theorem xd{ops:Array Oper} {g:Option (Nat×Bool)} {g':Option (Nat×Bool)} (h:BB ops g=some g'):(g=none/\g'=none)\/∃j w t,g=some (j,w)/\(ops[j]?).bind (·.dst)=some t/\g'=some (t,w):=by
 unfold BB at h;split at h
 ·cases h;exact .inl ⟨rfl,rfl⟩
 ·rename_i j w
  split at h
  ·rename_i t ht
   cases h;exact .inr ⟨j,w,t,rfl,ht,rfl⟩
  ·cases h
theorem yL(R:Rel P nt n0 w0 π0 U s a w β τ π) {ops:Array Oper} {o:Oper} {c:CO} {id:Nat} (hid:¬U id) (hc:nF P ops o=some c) (hfit:∀d,c.dst=some d->d<nt) {K:S->Prop} (h:jS (Pure P) id c K s)
  {next:Act->World->Prop} {Q:Exit->Act->World->Prop}
  (hn:∀s' x w' β' τ' π',K s'->Rel P nt n0 w0 π0 (eE U id) s' (a.put o.dst x) w' β' τ' π'->next (a.put o.dst x) w'):
  if Region.wanted o (yielded ops a.tmps)then o.wp P a w next Q else next (a.put o.dst undef) w:=by
 unfold nF at hc
 split at hc<;>try(cases hc;done)
 rename_i cop g hop hg;cases hc;simp only at hfit
 have run:bN (Pure P) id cop (fun v s'=>K (s'.put o.dst v)) s->o.wp P a w next Q:=fun h=>by
  unfold HM at hop;split at hop
  ·rename_i c' hv'
   cases hop
   exact Em R hid hv' h fun v s' x w' β' τ' π' hK hv hu R'=>hn _ _ _ _ _ _ hK (R'.put o.dst hfit hv hu)
  ·split at hop
   ·rename_i c' hv'
    cases hop
    exact El R hv' h fun v s' x w' β' τ' π' hK hv hu R'=>hn _ _ _ _ _ _ hK (R'.put o.dst hfit hv hu)
   ·exact rZ R hid hop h fun v s' x w' β' τ' π' hK hv hu R'=>hn _ _ _ _ _ _ hK (R'.put o.dst hfit hv hu)
 have skip:K (s.put o.dst .undef)->next (a.put o.dst undef) w:=fun h=>
  hn _ _ _ _ _ _ h ((R.sub fun n h=>.inl h).put o.dst hfit rfl trivial)
 unfold jS eA at h
 rcases xd hg with⟨h1,h2⟩|⟨j,want,t,h1,h2,h3⟩
 ·subst h2
  simp only at h;simp only[Region.wanted,h1,if_true];exact run h
 ·subst h3
  simp only at h
  cases hl:lk t s.slots with
  |none=>simp[hl]at h
  |some v=>
   obtain⟨⟨x,hx,hrv⟩,hui⟩:=R.slots t v hl;simp only[hl]at h
   have hy:∀b,x=.bool b->yielded ops a.tmps j=some b:=fun b hb=>by
    unfold yielded;rw[h2];simp[hx,hb]
   cases v with
   |ptr b o=>exact h.elim
   |rp cs=>exact h.elim
   |vs _ _ _ _=>exact h.elim
   |nD _ _ _=>exact h.elim
   |raw _ _=>exact h.elim
   |pt _ _=>exact h.elim
   |undef=>
    have hxu:x=undef:=hrv
    have hy':yielded ops a.tmps j=none:=by
     unfold yielded;rw[h2];simp[hx,hxu,undef]
    simp only[Region.wanted,h1,hy'];exact skip h
   |dat av q=>
    cases av<;>try(exact h.elim)
    rename_i b
    have hxb:x=.bool b:=hrv.1.qB
    simp only[Region.wanted,h1,hy b hxb]
    by_cases hb:b=want
    ·subst hb;simp;exact run (h.1 rfl)
    ·have hb':b=!want:=by cases b<;>cases want<;>first|rfl|exact absurd rfl hb
     have:(some b==some want)=false:=by subst hb';cases want<;>rfl
     rw[this];exact skip (h.2 hb')
def we(P:Program) (ops:Array Oper) (o:Oper) (c':CO):Prop:=∃c,nF P ops o=some c/\Ro c c'
theorem CW(R:Rel P nt n0 w0 π0 U s a w β τ π) {ops:Array Oper} {o:Oper} {c:CO} {id:Nat} (hid:¬U id) (hc:we P ops o c) (hfit:∀d,c.dst=some d->d<nt) {K:S->Prop} (h:jS (Pure P) id c K s)
  {next:Act->World->Prop} {Q:Exit->Act->World->Prop}
  (hn:∀s' x w' β' τ' π',K s'->Rel P nt n0 w0 π0 (eE U id) s' (a.put o.dst x) w' β' τ' π'->next (a.put o.dst x) w'):
  if Region.wanted o (yielded ops a.tmps)then o.wp P a w next Q else next (a.put o.dst undef) w:=by
 obtain⟨c0,hc0,hr⟩:=hc
 refine yL R hid hc0 (fun d hd=>hfit d (by rw[hr.dst];exact hd)) (Ih hr h) ?_
 rintro s' x w' β' τ' π' ⟨s0,he,hk⟩ R'
 exact hn s0 x w' β' τ' π' hk (R'.seq he)
def FW(r:Option Nat):Fence:={Fence.wide with round:=r}
theorem yM{r:Option Nat} {n:Nat} {f:FuncId} {args:Array Value} {w:World} {R:Ending->World->Prop}:CallsIn (FW r) n P f args w R↔Calls P f args w R:=
 ⟨fun h=>callsIn_wide.1 (show CallsIn Fence.wide n P f args w R from h),fun h=>(show CallsIn Fence.wide n P f args w R from callsIn_wide.2 h)⟩
theorem Gm{r:Option Nat} {n:Nat} {row:String} {args:Array Value} {w:World} {R:Value->World->Prop} (h:Rows P row args w R):RowsIn (FW r) n P row args w R:=
 fun c cs _=>let ⟨v,w',hr,s⟩:=h c cs;⟨v,w',hr,(show StepsIn (Machine.fenced P Fence.wide) P _ _ from stepsIn_wide.2 s)⟩
theorem NW{r:Option Nat} {n:Nat} {o:Oper} {a:Act} {w:World} {K:Act->World->Prop} {Q:Exit->Act->World->Prop} (h:o.wp P a w K Q) (hd:∀c,o.op≠.defer c):o.wpIn (FW r) n P a w K Q:=by
 refine⟨fun _ _=>trivial,?_⟩
 rw[Oper.semAt_eq _ _ _ hd];unfold Oper.wp at h;generalize(execOp a.eval o).run P w=res at h⊢
 cases res with
 |ok x w'=>
  cases x<;>simp only[Oper.upon,Oper.uponIn]at h⊢<;>first
   |exact h
   |exact h.elim
   |exact⟨fun hd=>by simp[FW,Fence.wide]at hd,yM.2 h⟩
   |exact⟨fun hd=>by simp[FW,Fence.wide]at hd,Gm h⟩
 |halt x w'=>cases x<;>simp only[Oper.upon,Oper.uponIn]at h⊢<;>first|exact h|exact h.elim
def oA(T:Nat->Prop) (a0 a:Act):Prop:=a.defers=a0.defers/\∀t,T t->a.tmps[t]? =a0.tmps[t]?
theorem oA.refl(T:Nat->Prop) (a:Act):oA T a a:=⟨rfl,fun _ _=>rfl⟩
theorem oA.put{T:Nat->Prop} {a0 a:Act} (h:oA T a0 a) {d:Option Nat} (hd:∀t,d=some t->¬T t) (x:Value):oA T a0 (a.put d x):=by
 cases d with
 |none=>exact h
 |some d=>
  refine⟨h.1,fun t ht=>?_⟩
  have hne:t≠d:=fun e=>hd d rfl (e▸ht)
  simp only[Act.put];rw[Array.getElem?_setIfInBounds_ne (Ne.symm hne)];exact h.2 t ht
theorem tV(R:Rel P nt n0 w0 π0 U s a w β τ π) {ops:Array Oper} {o:Oper} {c:CO} {i id:Nat} (ho:ops[i]? =some o) (hid:¬U id) (hc:we P ops o c) (hfit:∀d,c.dst=some d->d<nt) {K:S->Prop} (h:jS (Pure P) id c K s)
  {next:Act->World->Prop} {Q:Exit->Act->World->Prop}
  (hn:∀s' x w' β' τ' π',K s'->Rel P nt n0 w0 π0 (eE U id) s' (a.put o.dst x) w' β' τ' π'->next (a.put o.dst x) w') {r:Option Nat} {n:Nat}:wpOpIn (FW r) n P ops Q i next a w:=by
 have:=CW R hid hc hfit h (Q:=Q) hn
 have hnd:∀c,o.op≠.defer c:=by
  intro c' e;obtain⟨c0,hc,_⟩:=hc;unfold nF at hc;rw[e]at hc;simp[HM,tM,Gg,KT]at hc
 unfold wpOpIn;simp only[ho];split
 ·rename_i hw;rw[if_pos hw]at this;exact NW this hnd
 ·rename_i hw;rw[if_neg hw]at this;exact⟨fun _ _=>trivial,this⟩
theorem wg{ops:Array Oper} {o:Oper} {c:CO} (hc:nF P ops o=some c):c.dst=o.dst:=by
 unfold nF at hc
 split at hc<;>try(cases hc;done)
 cases hc;rfl
theorem yN{ops:Array Oper} {o:Oper} {c:CO} (hc:we P ops o c):c.dst=o.dst:=by
 obtain⟨c0,h0,hr⟩:=hc;rw[hr.dst,wg h0]
theorem qL{ops:Array Oper}:∀{l:List Oper} {cs:List CO},tN P ops l=some cs->cs.length=l.length/\∀(i:Nat) (o:Oper) (c:CO),l[i]? =some o->cs[i]? =some c->nF P ops o=some c
 |[],cs,h=>by simp[tN]at h;subst h;exact⟨rfl,fun i o c h=>by simp at h⟩
 |o::l,cs,h=>by
  unfold tN at h
  split at h<;>try(cases h;done)
  rename_i c cs' h1 h2;cases h;obtain⟨e,hs⟩:=qL h2
  refine⟨by simp[e],fun i o' c' ho hc=>?_⟩
  cases i with
  |zero=>simp at ho hc;subst ho;subst hc;exact h1
  |succ i=>exact hs i o' c' (by simpa using ho) (by simpa using hc)
theorem pz{n:Nat}:∀{l:List CO},gq n l=true->∀(i:Nat) (c:CO) (d:Nat),l[i]? =some c->c.dst=some d->d<n
 |[],h,i,c,d,hi,hd=>by simp at hi
 |o::l,h,i,c,d,hi,hd=>by
  simp only[gq,Bool.and_eq_true]at h
  cases i with
  |zero=>
   simp at hi;subst hi
   have:=h.1
   rw[hd]at this
   simpa using this
  |succ i=>exact pz h.2 i c d (by simpa using hi) hd
theorem yO{ops:Array Oper} {cos:List CO} {base:Nat} (hlen:cos.length=ops.size) (hcos:∀(i:Nat) (o:Oper) (c:CO),ops[i]? =some o->cos[i]? =some c->we P ops o c) (hfit:∀(i:Nat) (c:CO) (d:Nat),cos[i]? =some c->c.dst=some d->d<nt)
  {T:Nat->Prop} {a0:Act} (hT:∀(i:Nat) (c:CO) (d:Nat),cos[i]? =some c->c.dst=some d->¬T d) {r:Option Nat} {m:Nat}
  {K:S->Prop} {Q:Exit->Act->World->Prop} (hQ:∀s a w β τ π U,(∀n,U n->n<base+ops.size)->K s->oA T a0 a->Rel P nt n0 w0 π0 U s a w β τ π->Q .normal a w):
  ∀(rest:List CO) (i:Nat) (s:S) (a:Act) (w:World) (β:Nat->Nat) (τ:Nat->Value) (π:Nat->Nat->Prop) (U:Nat->Prop),cos.drop i=rest->i+rest.length=ops.size->(∀n,U n->n<base+i)->oA T a0 a->Rel P nt n0 w0 π0 U s a w β τ π->
   jh (Pure P) base i rest K s->wpOpsIn (FW r) m P ops Q (List.range' i rest.length) a w
 |[],i,s,a,w,β,τ,π,U,hd,hn,hU,hp,R,h=>hQ s a w β τ π U (fun n h=>by have:=hU n h;simp at hn;omega) h hp R
 |o::rest,i,s,a,w,β,τ,π,U,hd,hn,hU,hp,R,h=>by
  have hio:cos[i]? =some o:=by
   have:(cos.drop i)[0]? =some o:=by rw[hd];rfl
   simpa using this
  have hilt:i<ops.size:=by simp at hn;omega
  have hpi:ops[i]? =some ops[i]:=by simp[hilt]
  rw[kK]at h;simp only[List.length_cons,List.range'_succ];rw[wpOpsIn_cons]
  refine tV R hpi (fun h=>by have:=hU _ h;omega) (hcos i _ o hpi hio) (hfit i o · hio) h fun s' x w' β' τ' π' hK R'=>?_
  refine yO hlen hcos hfit hT hQ rest (i+1) s' _ w' β' τ' π' _ ?_ (by simp at hn;omega) (fun n h=>?_) (hp.put (fun d hd=>hT i o d hio (by rw[yN (hcos i _ o hpi hio)];exact hd)) x) R' hK
  ·rw[<-List.tail_drop,hd];rfl
  ·rcases h with h|h
   ·have:=hU n h;omega
   ·omega
theorem Gn{ops:Array Oper} {cos:List CO} {base:Nat} (hcos:∀(i:Nat) (o:Oper) (c:CO),ops[i]? =some o->cos[i]? =some c->we P ops o c) (hfit:∀(i:Nat) (c:CO) (d:Nat),cos[i]? =some c->c.dst=some d->d<nt)
  {T:Nat->Prop} {a0:Act} (hT:∀(i:Nat) (c:CO) (d:Nat),cos[i]? =some c->c.dst=some d->¬T d) {r:Option Nat} {m:Nat}
  {K:S->Prop} {Q:Exit->Act->World->Prop} (hQ:∀s a w β τ π U,(∀n,U n->n<base+ops.size)->K s->oA T a0 a->Rel P nt n0 w0 π0 U s a w β τ π->Q .normal a w):
  ∀(f:Nat) (l:Array Bool) (s:S) (a:Act) (w:World) (β:Nat->Nat) (τ:Nat->Value) (π:Nat->Nat->Prop),l.size=ops.size->oA T a0 a->Rel P nt n0 w0 π0 (UL base l) s a w β τ π->
   BJ (Pure P) base ops cos K f l s->wpAnyIn (FW r) m P .any ops Q f l a w:=by
 have small:∀l:Array Bool,l.size=ops.size->∀n,UL base l n->n<base+ops.size:=by
  rintro l hl n (h|⟨i,hi,h⟩)
  ·omega
  ·have:i<l.size:=by
    rcases Nat.lt_or_ge i l.size with h'|h'
    ·exact h'
    ·simp[Array.getElem?_eq_none h']at h
   omega
 intro f
 induction f with
 |zero=>intro l s a w β τ π hl hp R h;exact⟨h.1,hQ s a w β τ π _ (small l hl) h.2 hp R⟩
 |succ f ih=>
  intro l s a w β τ π hl hp R h
  refine⟨fun h0=>hQ s a w β τ π _ (small l hl) (h.1 h0) hp R,fun i hi=>?_⟩
  obtain⟨o,ho,hs⟩:=h.2 i hi;obtain⟨hun,pi,hpi,_⟩:=mem_ready.1 hi
  refine tV R hpi (yH hun) (hcos i pi o hpi ho) (hfit i o · ho) hs fun s' x w' β' τ' π' hK R'=>?_
  exact ih _ s' _ w' β' τ' π' (by simp[hl]) (hp.put (fun d hd=>hT i o d ho (by rw[yN (hcos i pi o hpi ho)];exact hd)) x) (R'.sub fun n hn=>BK (lq hi) hn) hK
theorem tW{c:CO} {d:Nat}:∀{l:List CO},c∈l->c.dst=some d->d∈dstsOf l
 |o::l,h,hd=>by
  simp only[dstsOf,List.mem_append]
  rcases List.mem_cons.1 h with rfl|h
  ·exact .inl (by rw[hd];simp)
  ·exact .inr (tW h hd)
theorem uR(hm:P.follows .mixedOrders=true) {id:Nat} {ops:Array Oper} {lg:Bool} {cos0:List CO} (hc:tN P ops ops.toList=some cos0) (ro:List Nat) (hd:lg=true->∃dZ T,jH dZ ops.toList cos0=true/\uH T (ny ro 0 cos0) dZ=true/\kS T s.nx 0 (ny ro 0 cos0)=true/\nX T s) (hfit:gq nt cos0=true)
  (R:Rel P nt n0 w0 π0 U s a w β τ π) (hU:∀n,U n->n<s.nx) {K:S->Prop} {Q:Exit->Act->World->Prop} (h:jh (Pure P) s.nx 0 (ny ro 0 cos0) K s)
  {T:Nat->Prop} (hT:∀d,d∈dstsOf cos0->¬T d) {r:Option Nat} {m:Nat}
  (hQ:∀s' a' w β τ π U,(∀n,U n->n<s.nx+cos0.length)->K s'->oA T a a'->Rel P nt n0 w0 π0 U s' a' w β τ π->Q .normal a' w):(Code.region id ops lg).wpIn (FW r) m P Q a w:=by
 obtain⟨hlen0,hcos0⟩:=qL hc
 have hd:lg=true->∃dZ T,jH dZ ops.toList (ny ro 0 cos0)=true/\uH T (ny ro 0 cos0) dZ=true/\kS T s.nx 0 (ny ro 0 cos0)=true/\nX T s:=fun e=>by
  obtain⟨dZ,T,h1,h2⟩:=hd e;exact⟨dZ,T,Gl h1,h2⟩
 have hfit:gq nt (ny ro 0 cos0)=true:=by rw[Fy];exact hfit
 have hT:∀d,d∈dstsOf (ny ro 0 cos0)->¬T d:=by rw[CV];exact hT
 have hlen:(ny ro 0 cos0).length=ops.size:=by rw[BL];simpa using hlen0
 have hQ:∀s' a' w β τ π U,(∀n,U n->n<s.nx+(ny ro 0 cos0).length)->K s'->oA T a a'->Rel P nt n0 w0 π0 U s' a' w β τ π->Q .normal a' w:=by rw[BL];exact hQ
 have hcos:∀(i:Nat) (o:Oper) (c:CO),ops[i]? =some o->(ny ro 0 cos0)[i]? =some c->we P ops o c:=fun i o c h1 h2=>by
  obtain⟨c0,h3,h4⟩:=Fx h2
  exact⟨c0,hcos0 i o c0 (by simpa using h1) h3,h4⟩
 clear hlen0 hcos0 hc;generalize ny ro 0 cos0=cos at*
 have hT:∀(i:Nat) (c:CO) (d:Nat),cos[i]? =some c->c.dst=some d->¬T d:=fun i c d hi hd=>hT d (tW (List.mem_of_getElem? hi) hd)
 have hfit:=pz hfit
 rw[hlen]at hQ
 cases lg with
 |false=>
  refine wpIn_region ?_
  have:=yO (r:=r) (m:=m) hlen hcos hfit hT hQ cos 0 s a w β τ π U rfl (by simpa using hlen) (by simpa using hU) (.refl _ _) R h
  rw[hlen]at this;rw[List.range_eq_range'];exact this
 |true=>
  obtain⟨dZ,Tb,hok,hbad,hst,hRt⟩:=hd rfl
  have hst':∀k ok,cos[k]? =some ok->o4 Tb (s.nx+k) ok=true:=fun k ok hk=>by have:=o9 hst k ok hk;rwa[Nat.zero_add]at this
  refine wpIn_region_any hm ?_
  have R':Rel P nt n0 w0 π0 (UL s.nx (Array.replicate ops.size false)) s a w.drew β τ π:=R.draw.sub fun n hn=>.inl (hU n hn)
  have h2:jh (Pure P) s.nx 0 cos (fun s2=>∃s1,pW s1 s2/\K s1) s:=by
   clear hQ
   have gen:∀(base':Nat) (r:List CO) (i:Nat) (s:S) {K':S->Prop},(∀s,K s->K' s)->jh (Pure P) base' i r K s->jh (Pure P) base' i r K' s:=by
    intro base' r
    induction r with
    |nil=>intro i s K' hk h;exact hk s h
    |cons o r ih=>
     intro i s K' hk h;rw[kK]at h⊢;obtain⟨v,d,hd,hk',_⟩:=eY h;exact hd.2 s .refl _ (ih _ _ hk hk')
   exact gen s.nx cos 0 s (fun s h=>⟨s,.refl,h⟩) h
  have h3:=qK hst' hbad (fun s s2 he ⟨s1,h1,hk⟩=>⟨s1,h1.trans he,hk⟩) hlen hok cos 0 (Array.replicate ops.size false) s rfl (by simpa using hlen) (by simp) (fun j hj=>by simp[hj]) R'.gp hRt h2
  rw[hlen]at h3
  refine Gn hcos hfit hT ?_ ops.size _ s a w.drew β τ π (by simp) (.refl _ _) R' h3
  rintro s2 a w β τ π U hU ⟨s1,he,hk⟩ hp R2
  exact hQ s1 a w β τ π U hU hk hp (R2.seq he.symm)
end
end Go.Eng
