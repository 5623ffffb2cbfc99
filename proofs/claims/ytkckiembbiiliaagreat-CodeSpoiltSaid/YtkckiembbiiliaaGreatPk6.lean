/- The engine and the library,part 6 of 18: what the proofs of this seat need of them. -/
import Derived.Test.YtkckiembbiiliaaGreatPk5
set_option linter.unnecessarySimpa false
set_option linter.unusedSimpArgs false
set_option linter.unusedVariables false
set_option linter.defProp false
set_option maxRecDepth 10000
set_option maxHeartbeats 4000000
namespace Go.Eng
open Go
theorem q7{listed:Array Bool} {i:Nat} (h:listed.getD i true=false):listed.getD i false=false:=by
 rcases Nat.lt_or_ge i listed.size with h'|h'
 ·simp[h']at h⊢;exact h
 ·simp[Array.getElem?_eq_none h']at h
theorem Ed{listed:Array Bool} {i:Nat} (hi:i<listed.size) (h:listed.getD i false=false):listed.getD i true=false:=by
 simp[hi]at h⊢;exact h
def AA(C:bt) (base:Nat) (ops:Array Oper) (cos:List CO) (K:S->Prop):Nat->Array Bool->S->Prop
 |0,l,s=>Region.ready .any ops l=[]/\K s
 |f+1,l,s=>(Region.ready .any ops l=[]->K s)/\∀i∈Region.ready .any ops l,∃o,cos[i]? =some o/\jv C (base+i) o (AA C base ops cos K f (l.setIfInBounds i true)) s
def UL(base:Nat) (l:Array Bool):Nat->Prop:=fun n=>n<base\/∃i,n=base+i/\l.getD i false=true
section
variable{C:bt} {base:Nat} {ops:Array Oper} {cos:List CO} {K:S->Prop}
theorem xw(hK:∀s s2,oW s s2->K s->K s2):∀(f:Nat) (l:Array Bool) (s s2:S),oW s s2->AA C base ops cos K f l s->AA C base ops cos K f l s2
 |0,l,s,s2,he,h=>⟨h.1,hK _ _ he h.2⟩
 |f+1,l,s,s2,he,h=>⟨fun h0=>hK _ _ he (h.1 h0),fun i hi=>by
   obtain⟨o,ho,hs⟩:=h.2 i hi;refine⟨o,ho,?_⟩;obtain⟨v,d,hd,hk,_⟩:=d7 hs
   exact hd.2 s2 he.WQ _ (xw hK f _ _ _ ((he.app d _).put _ _) hk)⟩
theorem xx{l:Array Bool} {i:Nat} (h:l.getD i true=false):¬UL base l (base+i):=by
 rintro(h'|⟨k,hk,hl⟩)
 ·omega
 ·have:k=i:=by omega
  subst this;rw[q7 h]at hl;cases hl
theorem AB{l:Array Bool} {i:Nat} (hi:i<l.size) {n:Nat} (h:dR (UL base l) (base+i) n):UL base (l.setIfInBounds i true) n:=by
 rcases h with(h|⟨k,hk,hl⟩)|h
 ·exact .inl h
 ·exact .inr ⟨k,hk,getD_set_true hl⟩
 ·exact .inr ⟨i,h,by simp[hi]⟩
theorem kD{md:Region.Mode} {l:Array Bool} {i:Nat} (h:i∈Region.ready md ops l):i<l.size:=by
 have h0:=(mem_ready.1 h).1
 rcases Nat.lt_or_ge i l.size with h'|h'
 ·exact h'
 ·simp[Array.getElem?_eq_none h']at h0
def pY(ops:Array Oper) (l:Array Bool):Prop:=∀k ok,ops[k]? =some ok->l.getD k false=true->∀e∈ok.after,Region.binds .any e=true->l.getD e.on false=true
theorem pY.set{l:Array Bool} (h:pY ops l) {i:Nat} (hi:i∈Region.ready .any ops l):pY ops (l.setIfInBounds i true):=by
 obtain⟨_,oi,hoi,hall⟩:=mem_ready.1 hi;intro k ok hk hl e he hb
 by_cases hik:i=k
 ·subst hik
  have:ok=oi:=Option.some.inj (hk.symm.trans hoi)
  subst this;exact getD_set_true (hall e he hb)
 ·rw[getD_set_ne false hik]at hl
  exact getD_set_true (h k ok hk hl e he hb)
theorem Fc{l:Array Bool} (hc:pY ops l) {i j:Nat} (hi:l.getD i true=false) (hj:j∈Region.ready .any ops l) {oj:Oper} (hoj:ops[j]? =some oj):
  oj.after.any (fun e=>Region.binds .any e&&e.on==i)=false/\waits ops.toList i oj=false:=by
 obtain⟨_,oj',hoj',hall⟩:=mem_ready.1 hj
 have:oj'=oj:=Option.some.inj (hoj'.symm.trans hoj)
 subst this
 have hif:=q7 hi
 constructor
 ·rw[Bool.eq_false_iff]
  intro h;obtain⟨e,he,hb⟩:=Array.any_eq_true'.1 h;simp only[Bool.and_eq_true,beq_iff_eq]at hb
  have:=hall e he hb.1
  rw[hb.2,hif]at this;cases this
 ·rw[Bool.eq_false_iff]
  intro h;obtain⟨e,he,hb⟩:=Array.any_eq_true'.1 h;simp only[Bool.and_eq_true,Bool.or_eq_true,beq_iff_eq]at hb
  have h1:=hall e he hb.1
  rcases hb.2 with h2|h2
  ·rw[h2,hif]at h1;cases h1
  ·split at h2
   ·rename_i ok hok
    obtain⟨e',he',hb'⟩:=Array.any_eq_true'.1 h2;simp only[Bool.and_eq_true,beq_iff_eq]at hb'
    have h3:=hc e.on ok (by simpa using hok) h1 e' he' hb'.1
    rw[hb'.2,hif]at h3;cases h3
   ·cases h2
end
def nr(T:List (Nat×Tag)) (s:S):Prop:=∀t b,Br b s t->(look T t).yU b=true
theorem vw{C:bt} {T:List (Nat×Tag)} {id:Nat} {o:CO} {s:S} {v:SV} {d:Delta} (hd:Dd C id o s v d) (hs:oq T id o=true) (hR:nr T s):nr T ((d.app' id s).put o.dst v):=by
 rintro t b ⟨u0,hl,hb0⟩
 rw[ov]at hl;split at hl
 ·rename_i e
  cases hl;unfold oq at hs;rw[e]at hs;simp only at hs
  cases hz:look T t with
  |none=>rfl
  |some z=>
   rw[hz]at hs;simp only at hs
   rcases hd.1.2 b hb0 with⟨rfl,ha⟩|⟨u,hu,hlu⟩
   ·rw[if_pos ha]at hs
    simpa[Tag.yU]using hs
   ·have hna:¬o.op.Gy=true:=fun ha=>by
     revert hu ha;cases o.op<;>simp[bH.pK,bH.Gy]
    rw[if_neg hna]at hs
    have h1:=List.all_eq_true.1 hs u hu
    have h2:=hR u b hlu
    cases hzu:look T u with
    |none=>rw[hzu]at h1;cases h1
    |some z'=>
     rw[hzu]at h1 h2;simp only[Bool.or_eq_true,beq_iff_eq]at h1;simp only[Tag.yU,beq_iff_eq]at h2⊢
     rcases h1 with h1|h1
     ·rw[h1]at h2;cases h2
     ·rw[<-h1];exact h2
 ·rw[ow]at hl
  cases hv:lk t s.slots with
  |none=>rw[hv]at hl;cases hl
  |some w=>
   rw[hv]at hl;simp only[Option.map_some,Option.some.injEq]at hl
   rcases kC d w with h|⟨b',v',_,_,_,h,hf,_⟩
   ·rw[h]at hl;subst hl;exact hR t b ⟨_,hv,hb0⟩
   ·rw[h]at hl;subst hl;exact absurd hb0 (hf.2 _)
theorem GZ{z z':Tag} {b:Nat} (h:z.U9 z'=true) (h1:z.yU b=true) (h2:z'.yU b=true):False:=by
 cases z with
 |none=>cases z' with
  |none=>cases h
  |some z'=>cases z' with
   |none=>simp[Tag.yU]at h2
   |some b'=>cases h
 |some z=>cases z with
  |none=>simp[Tag.yU]at h1
  |some a=>cases z' with
   |none=>cases h
   |some z'=>cases z' with
    |none=>simp[Tag.yU]at h2
    |some b'=>
     simp[Tag.yU]at h1 h2;subst h1;subst h2;simp[Tag.U9]at h
theorem BK{T:List (Nat×Tag)} {x y:CO} {s:S} (h:x.half T y=true) (hR:nr T s):Clear x y s:=by
 rintro b ⟨t,ht,hl⟩
 have h:=List.all_eq_true.1 h t ht
 simp only[Bool.and_eq_true,Bool.or_eq_true,Bool.not_eq_true']at h
 refine⟨fun u hu hlu=>?_,fun hf u hu hlu=>?_⟩
 ·exact GZ (List.all_eq_true.1 h.1 u hu) (hR t b hl) (hR u b hlu)
 ·rcases h.2 with h2|h2
  ·rw[hf]at h2;cases h2
  ·exact GZ (List.all_eq_true.1 h2 u hu) (hR t b hl) (hR u b hlu)
theorem zq{T:List (Nat×Tag)} {x y:CO} (h:x.half [] y=true):x.half T y=true:=by
 unfold CO.half at h⊢;rw[List.all_eq_true]at h⊢;intro t ht
 have h:=h t ht
 simp only[Bool.and_eq_true,Bool.or_eq_true,List.all_eq_true]at h⊢
 refine⟨fun u hu=>?_,h.2.imp id fun h2 u hu=>?_⟩
 ·have:=h.1 u hu;cases this
 ·have:=h2 u hu;cases this
theorem Df{T:List (Nat×Tag)} {x y:CO} (h:x.apart y=true):x.pL T y=true:=by
 unfold CO.apart CO.pL at*;simp only[Bool.and_eq_true]at h⊢;exact⟨⟨h.1.1,zq h.1.2⟩,zq h.2⟩
theorem xy{T:List (Nat×Tag)} {ops:List CO} {i j:Nat} {x y:CO} (hi:ops[i]? =some x) (hj:ops[j]? =some y):∀{dr:List (Nat×Nat)},tG T ops dr=true->dr.contains (i,j)=true->x.pL T y=true
 |[],_,h=>by cases h
 |(k,l)::r,h,hm=>by
  simp only[tG,Bool.and_eq_true]at h;rw[List.contains_cons,Bool.or_eq_true]at hm
  rcases hm with hm|hm
  ·have e:(i,j)=(k,l):=by simpa using hm
   cases e
   have:=h.1
   rw[hi,hj]at this;exact this
  ·exact xy hi hj h.2 hm
theorem ox{T:List (Nat×Tag)} {base:Nat}:∀{l:List CO} {i:Nat},kq T base i l=true->∀(k:Nat) (o:CO),l[k]? =some o->oq T (base+(i+k)) o=true
 |[],i,h,k,o,hk=>by simp at hk
 |a::l,i,h,k,o,hk=>by
  simp only[kq,Bool.and_eq_true]at h
  cases k with
  |zero=>simp at hk;subst hk;exact h.1
  |succ k=>
   have:=ox h.2 k o (by simpa using hk)
   rw[show i+(k+1)=i+1+k by omega];exact this
theorem pZ{base:Nat}:∀{l:List CO} {i:Nat},kq [] base i l=true
 |[],i=>rfl
 |a::l,i=>by
  simp only[kq,Bool.and_eq_true];refine⟨?_,pZ⟩;unfold oq
  split<;>rfl
theorem lJ{T:List (Nat×Tag)}:∀{sl:List (Nat×SV)},ko T sl=true->∀t b v,lk t sl=some v->v.has b->(look T t).yU b=true
 |[],_,t,b,v,hl,_=>by cases hl
 |(m,u)::r,h,t,b,v,hl,hb=>by
  simp only[lk,jG]at hl;split at hl
  ·rename_i e
   cases hl;subst e
   cases u<;>try(exact hb.elim)
   ·have hb:_=b:=hb
    subst hb;simp only[ko,Bool.and_eq_true]at h;exact h.1
   ·have hb:_=b:=hb
    subst hb;simp only[ko,Bool.and_eq_true]at h;exact h.1
   ·simp only[ko,Bool.and_eq_true]at h
    obtain⟨p,hp,rfl⟩:=hb;exact List.all_eq_true.1 h.1 p hp
  ·refine lJ (sl:=r) ?_ t b v hl hb
   cases u<;>first|exact h|(simp only[ko,Bool.and_eq_true]at h;exact h.2)
section
variable{C:bt} {base:Nat} {ops:Array Oper} {cos:List CO} {K:S->Prop} {T:List (Nat×Tag)}
theorem Dg(hT:∀k ok,cos[k]? =some ok->oq T (base+k) ok=true) (hK:∀s s2,oW s s2->K s->K s2) (hlen:cos.length=ops.size) {i:Nat} {oi:CO} (hi:cos[i]? =some oi):
  ∀(f:Nat) (l:Array Bool) (s:S),
   (∀j pj oj,ops[j]? =some pj->cos[j]? =some oj->j≠i->l.getD j true=false->pj.after.any (fun e=>Region.binds .any e&&e.on==i)=false->waits ops.toList i pj=false->oi.pL T oj=true)->
   pY ops l->i∈Region.ready .any ops l->s.fo (UL base l)->nr T s->jv C (base+i) oi (AA C base ops cos K f (l.setIfInBounds i true)) s->AA C base ops cos K (f+1) l s:=by
 intro f
 induction f with
 |zero=>
  intro l s _ _ hr hU hR H
  refine⟨fun h=>(by rw[h]at hr;cases hr),fun j hj=>?_⟩
  by_cases hji:j=i
  ·subst hji;exact⟨oi,hi,H⟩
  ·obtain⟨v,d,hd,hk,_⟩:=d7 H
   have:=ready_mono hj hji
   rw[hk.1]at this;cases this
 |succ f ih=>
  intro l s hfree hcl hr hU hR H
  refine⟨fun h=>(by rw[h]at hr;cases hr),fun j hj=>?_⟩
  by_cases hji:j=i
  ·subst hji;exact⟨oi,hi,H⟩
  ·obtain⟨vi,di,hdi,hki,hUi⟩:=d7 H
   obtain⟨oj,hoj,hsj⟩:=hki.2 j (ready_mono hj hji)
   obtain⟨vj,dj,hdj,hkj,hUj⟩:=d7 hsj
   have hjun:=(mem_ready.1 hj).1
   have hiun:=(mem_ready.1 hr).1
   obtain⟨pj,hpj,_⟩:=(mem_ready.1 hj).2
   obtain⟨w1,w2⟩:=Fc hcl hiun hj hpj
   have hap:=hfree j pj oj hpj hoj hji hjun w1 w2
   unfold CO.pL at hap;simp only[Bool.and_eq_true]at hap
   obtain⟨a1,a2,a3⟩:=J2 hap.1.1 hU (xx hiun) (xx hjun) (by omega) (BK hap.1.2 hR) (BK hap.2 hR) hdi hdj
   -- the state behind j
   have hsj0:jv C (base+j) oj (fun s3=>s3=(dj.app' (base+j) s).put oj.dst vj) s:=hdj.2 s a1 _ rfl
   have hUj0:((dj.app' (base+j) s).put oj.dst vj).fo (UL base (l.setIfInBounds j true)):=by
    obtain⟨v',d',_,hk',hU'⟩:=d7 hsj0
    have:=hU' _ hU
    rw[hk']at this
    exact wo (fun n hn=>AB (kD hj) hn) this
   have hRj0:nr T ((dj.app' (base+j) s).put oj.dst vj):=by
    obtain⟨v',d',hd',hk',_⟩:=d7 hsj0
    have:=vw hd' (hT j oj hoj) hR
    rw[hk']at this;exact this
   refine⟨oj,hoj,hdj.2 s a1 _ ?_⟩;refine ih (l.setIfInBounds j true) _ ?_ (hcl.set hj) (ready_mono hr (Ne.symm hji)) hUj0 hRj0 ?_
   ·intro k pk ok hpk hok hki' hun hno hno2
    refine hfree k pk ok hpk hok hki' ?_ hno hno2
    by_cases hjk:j=k
    ·subst hjk;exact hjun
    ·rw[getD_set_ne true hjk]at hun;exact hun
   ·refine hdi.2 _ a2 _ ?_
    rw[Array.setIfInBounds_comm _ _ hji];exact xw hK f _ _ _ a3 hkj
end
theorem tO{dr:List (Nat×Nat)} {ops:List Oper} {i:Nat} {x:CO}:∀{os:List Oper} {ys:List CO} {k:Nat},mP dr ops i x k os ys=true->∀(j:Nat) (pj:Oper) (oj:CO),os[j]? =some pj->ys[j]? =some oj->i<k+j->
  pj.after.any (fun e=>Region.binds .any e&&e.on==i)=true\/x.apart oj=true\/waits ops i pj=true\/dr.contains (i,k+j)=true
 |[],ys,k,h,j,pj,oj,h1,h2,h3=>by simp at h1
 |o::os,[],k,h,j,pj,oj,h1,h2,h3=>by simp at h2
 |o::os,y::ys,k,h,j,pj,oj,h1,h2,h3=>by
  simp only[mP,Bool.and_eq_true,Bool.or_eq_true,decide_eq_true_eq]at h
  cases j with
  |zero=>
   simp at h1 h2;subst h1;subst h2
   rcases h.1 with(((h|h)|h)|h)|h
   ·omega
   ·exact .inl h
   ·exact .inr (.inl h)
   ·exact .inr (.inr (.inl h))
   ·exact .inr (.inr (.inr h))
  |succ j=>
   have:=tO h.2 j pj oj (by simpa using h1) (by simpa using h2) (by omega)
   rw[show k+1+j=k+(j+1)by omega]at this
   exact this
theorem kr{dr:List (Nat×Nat)} {ops:List Oper} {cos:List CO}:∀{os:List Oper} {ys:List CO} {k:Nat},l5 dr ops cos k os ys=true->∀(i:Nat) (pi:Oper) (oi:CO),os[i]? =some pi->ys[i]? =some oi->
  (∀e∈pi.after,Region.binds .any e=true->e.on<k+i)/\mP dr ops (k+i) oi 0 ops cos=true
 |[],ys,k,h,j,pj,oj,h1,h2=>by simp at h1
 |o::os,[],k,h,j,pj,oj,h1,h2=>by simp at h2
 |o::os,y::ys,k,h,j,pj,oj,h1,h2=>by
  simp only[l5,Bool.and_eq_true]at h
  cases j with
  |zero=>
   simp at h1 h2;subst h1;subst h2
   refine⟨fun e he hb=>?_,h.1.2⟩
   have:=Array.all_eq_true_iff_forall_mem.1 h.1.1 e he
   simpa[hb]using this
  |succ j=>
   have:=kr h.2 j pj oj (by simpa using h1) (by simpa using h2)
   rw[show k+1+j=k+(j+1)by omega]at this
   exact this
def Ro(x x':CO):Prop:=x'=x\/x'=x.ro
theorem Ro.dst{x x':CO} (h:Ro x x'):x'.dst=x.dst:=by rcases h with rfl|rfl<;>rfl
theorem Ro.rd{x x':CO} (h:Ro x x'):x'.rd=x.rd:=by
 rcases h with rfl|rfl
 ·rfl
 ·cases x with|mk d o g=>cases o<;>rfl
theorem Ro.rR{x x':CO} (h:Ro x x'):x'.op.rR=x.op.rR:=by
 rcases h with rfl|rfl
 ·rfl
 ·cases x with|mk d o g=>cases o<;>rfl
theorem Ro.app{x x':CO} (h:Ro x x'):x'.op.isApp=x.op.isApp:=by
 rcases h with rfl|rfl
 ·rfl
 ·cases x with|mk d o g=>cases o<;>rfl
theorem Ro.Ay{x x':CO} (h:Ro x x'):x'.op.vn=x.op.vn:=by
 rcases h with rfl|rfl
 ·rfl
 ·cases x with|mk d o g=>cases o<;>rfl
theorem Ro.DZ{x x':CO} (h:Ro x x'):x'.op.DZ=x.op.DZ\/x'.op.DZ=[]:=by
 rcases h with rfl|rfl
 ·exact .inl rfl
 ·cases x with|mk d o g=>cases o<;>first|exact .inl rfl|exact .inr rfl
theorem Ro.indep{x x' y y':CO} (hx:Ro x x') (hy:Ro y y'):x'.indep y'=x.indep y:=by
 simp only[CO.indep,hx.dst,hy.dst,hx.rd,hy.rd,hx.app,hy.app]
theorem Ro.half{T:List (Nat×Tag)} {x x' y y':CO} (hx:Ro x x') (hy:Ro y y') (h:x.half T y=true):x'.half T y'=true:=by
 simp only[CO.half,hy.rR,hy.rd,hx.Ay]at h⊢
 rcases hx.DZ with e|e
 ·rw[e];exact h
 ·rw[e];rfl
theorem Ro.apart{x x' y y':CO} (hx:Ro x x') (hy:Ro y y') (h:x.apart y=true):x'.apart y'=true:=by
 simp only[CO.apart,CO.pL,Bool.and_eq_true]at h⊢
 exact⟨⟨by rw[hx.indep hy];exact h.1.1,hx.half hy h.1.2⟩,hy.half hx h.2⟩
theorem Ee{ro:List Nat}:∀{l:List CO} {k i:Nat} {c':CO},(mI ro k l)[i]? =some c'->∃c,l[i]? =some c/\Ro c c'
 |[],k,i,c',h=>by simp[mI]at h
 |o::l,k,0,c',h=>by
  simp only[mI,List.getElem?_cons_zero,Option.some.injEq]at h;refine⟨o,rfl,?_⟩
  cases hk:ro.contains k with
  |true=>rw[hk]at h;exact .inr h.symm
  |false=>rw[hk]at h;exact .inl h.symm
 |o::l,k,i+1,c',h=>by
  simp only[mI,List.getElem?_cons_succ]at h⊢;exact Ee h
theorem AD{ro:List Nat}:∀{l:List CO} {k:Nat},(mI ro k l).length=l.length
 |[],k=>rfl
 |o::l,k=>by simp only[mI,List.length_cons,AD]
theorem BL{ro:List Nat}:∀{l:List CO} {k:Nat},dstsOf (mI ro k l)=dstsOf l
 |[],k=>rfl
 |o::l,k=>by
  simp only[mI,dstsOf,BL]
  cases ro.contains k<;>rfl
theorem Ef{n:Nat} {ro:List Nat}:∀{l:List CO} {k:Nat},fq n (mI ro k l)=fq n l
 |[],k=>rfl
 |o::l,k=>by
  simp only[mI,fq,Ef]
  cases ro.contains k<;>rfl
theorem Ro.of(ro:List Nat) (k:Nat) (o:CO):Ro o (bif ro.contains k then o.ro else o):=by
 cases ro.contains k
 ·exact .inl rfl
 ·exact .inr rfl
theorem xz{dr:List (Nat×Nat)} {ops:List Oper} {i:Nat} {x x':CO} (hx:Ro x x') {ro:List Nat}:∀{os:List Oper} {ys:List CO} {k m:Nat},mP dr ops i x k os ys=true->mP dr ops i x' k os (mI ro m ys)=true
 |[],ys,k,m,h=>rfl
 |o::os,[],k,m,h=>rfl
 |o::os,y::ys,k,m,h=>by
  simp only[mI,mP,Bool.and_eq_true,Bool.or_eq_true,decide_eq_true_eq]at h⊢;refine⟨?_,xz hx h.2⟩
  rcases h.1 with(((h|h)|h)|h)|h
  ·exact .inl (.inl (.inl (.inl h)))
  ·exact .inl (.inl (.inl (.inr h)))
  ·exact .inl (.inl (.inr (hx.apart (.of ro m y) h)))
  ·exact .inl (.inr h)
  ·exact .inr h
theorem vz{dr:List (Nat×Nat)} {ops:List Oper} {cos:List CO} {ro:List Nat} {m:Nat}:∀{os:List Oper} {ys:List CO} {k:Nat},l5 dr ops cos k os ys=true->l5 dr ops (mI ro m cos) k os (mI ro k ys)=true
 |[],ys,k,h=>rfl
 |o::os,[],k,h=>rfl
 |o::os,y::ys,k,h=>by
  simp only[mI,l5,Bool.and_eq_true]at h⊢;exact⟨⟨h.1.1,xz (.of ro k y) h.1.2⟩,vz h.2⟩
theorem Fe{dr:List (Nat×Nat)} {ops:List Oper} {cos:List CO} {ro:List Nat} (h:jm dr ops cos=true):jm dr ops (mI ro 0 cos)=true:=vz h
theorem tP{l l2:List (Nat×bO)} (h:∀b,bY b l2=bY b l):∀{ids:List Nat},dA l2 ids=dA l ids
 |[]=>rfl
 |b::bs=>by simp only[dA,h b,tP h (ids:=bs)]
theorem xA{l:List (Nat×bO)}:∀{ids:List Nat} {css:List (List AV)},dA l ids=some css->aT l ids=some css
 |[],css,h=>h
 |b::bs,css,h=>by
  simp only[dA]at h
  split at h<;>try(cases h;done)
  rename_i cs css' h1 h2;cases h;simp only[aT,h1,xA h2]
theorem sN:∀{ids:List Nat} {css:List (List AV)} {l:List (Nat×bO)},dA l ids=some css->∀b,bY b (cH ids css l)=bY b l
 |[],css,l,h,b=>rfl
 |i::is,css,l,h,b=>by
  simp only[dA]at h
  split at h<;>try(cases h;done)
  rename_i cs css' h1 h2;cases h
  have e:∀n,bY n (nq i ⟨cs,[]⟩ l)=bY n l:=fun n=>by
   rw[iL];split
   ·rename_i e;subst e;rw[h1];rfl
   ·rfl
  rw[cH,sN (by rw[tP e];exact h2),e]
theorem Ni{C:bt} {id:Nat} {o:bH} {K:SV->S->Prop} {s:S} (h:bD C id o.ro K s):bD C id o (fun v s'=>∃s0,oW s' s0/\K v s0) s:=by
 have same:bD C id o K s->bD C id o (fun v s'=>∃s0,oW s' s0/\K v s0) s:=fun h=>by
  obtain⟨v,d,hK,_,_,_,hs⟩:=pX h;exact hs s .refl _ ⟨_,.refl,hK⟩
 cases o<;>try(exact same h)
 case aK f args=>
  obtain⟨p,hp,hnd,h⟩:=af (h:ah _ _)
  obtain⟨css,hcs,r,hc,hK⟩:=af h;simp only[bD,hp,xA hcs,az]
  exact⟨hnd,r,none,css,hc,s,⟨fun _=>rfl,fun b=>(sN hcs b).symm,fun _=>rfl⟩,hK⟩
 case gm g args=>
  obtain⟨a,ha,h⟩:=af (h:ah _ _)
  cases a<;>try(exact h.elim)
  rename_i fn first caps
  cases fn<;>try(exact h.elim)
  rename_i f
  cases first<;>try(exact h.elim)
  cases caps<;>try(exact h.elim)
  obtain⟨p,hp,hnd,h⟩:=af h;obtain⟨css,hcs,r,hc,hK⟩:=af h;simp only[bD,ha,hp,xA hcs,az]
  exact⟨hnd,r,none,css,hc,s,⟨fun _=>rfl,fun b=>(sN hcs b).symm,fun _=>rfl⟩,hK⟩
theorem G0{C:bt} {id:Nat} {c c':CO} (hr:Ro c c') {K:S->Prop} {s:S} (h:jv C id c' K s):jv C id c (fun s'=>∃s0,oW s' s0/\K s0) s:=by
 rcases hr with rfl|rfl
 ·obtain⟨v,d,hd,hK,_⟩:=d7 h
  exact hd.2 s .refl _ ⟨_,.refl,hK⟩
 ·have run:bD C id c.op.ro (fun v s'=>K (s'.put c.dst v)) s->bD C id c.op (fun v s'=>∃s0,oW (s'.put c.dst v) s0/\K s0) s:=fun h=>by
   have:=Ni h
   obtain⟨v,d,⟨s0,he,hK⟩,_,_,_,hs⟩:=pX this;exact hs s .refl _ ⟨_,he.put _ _,hK⟩
  cases c with
  |mk dst op g=>
   have h:dQ s g (bD C id op.ro (fun v s'=>K (s'.put dst v)) s) (K (s.put dst .undef)):=h
   have run:bD C id op.ro (fun v s'=>K (s'.put dst v)) s->bD C id op (fun v s'=>∃s0,oW (s'.put dst v) s0/\K s0) s:=run
   show dQ s g (bD C id op (fun v s'=>∃s0,oW (s'.put dst v) s0/\K s0) s) (∃s0,oW (s.put dst .undef) s0/\K s0)
   unfold dQ at h⊢
   cases g with
   |none=>exact run h
   |some p=>
    obtain⟨t,want⟩:=p;simp only at h⊢
    cases hl:lk t s.slots with
    |none=>simp[hl]at h
    |some v=>
     simp only[hl]at h
     cases v with
     |ptr b o=>exact h.elim
     |rp cs=>exact h.elim
     |vs _ _ _ _=>exact h.elim
     |mM _ _ _=>exact h.elim
     |raw _ _=>exact h.elim
     |pt _ _=>exact h.elim
     |undef=>exact⟨_,.refl,h⟩
     |dat a q=>
      cases a<;>try(exact h.elim)
      exact⟨fun e=>run (h.1 e),fun e=>⟨_,.refl,h.2 e⟩⟩
section
variable{C:bt} {base:Nat} {ops:Array Oper} {cos:List CO} {K:S->Prop}
theorem qa{T:List (Nat×Tag)} {dr:List (Nat×Nat)} (hT:∀k ok,cos[k]? =some ok->oq T (base+k) ok=true) (hbad:tG T cos dr=true) (hK:∀s s2,oW s s2->K s->K s2) (hlen:cos.length=ops.size) (hok:jm dr ops.toList cos=true):
  ∀(rest:List CO) (i:Nat) (l:Array Bool) (s:S),cos.drop i=rest->i+rest.length=ops.size->l.size=ops.size->(∀j,j<ops.size->l.getD j false=decide (j<i))->
   s.fo (UL base l)->nr T s->iT C base i rest K s->AA C base ops cos K rest.length l s
 |[],i,l,s,hd,hn,hl,hl',hU,hR,h=>by
  refine⟨?_,h⟩;rw[List.eq_nil_iff_forall_not_mem];intro j hj
  have h1:=(mem_ready.1 hj).1
  have h2:=kD hj
  have h3:=hl' j (by omega)
  rw[q7 h1]at h3;simp at hn h3;omega
 |o::rest,i,l,s,hd,hn,hl,hl',hU,hR,h=>by
  have hio:cos[i]? =some o:=by
   have:(cos.drop i)[0]? =some o:=by rw[hd];rfl
   simpa using this
  have hilt:i<ops.size:=by simp at hn;omega
  have hpi:ops[i]? =some ops[i]:=by simp[hilt]
  obtain⟨hedge,hrow⟩:=kr hok i ops[i] o (by simpa using hpi) hio
  simp only[Nat.zero_add]at hedge hrow
  have hiun:l.getD i true=false:=by
   have:=hl' i hilt
   simp at this
   exact Ed (by omega) (by simpa using this)
  have hcl:pY ops l:=by
   intro k ok hk hlk e he hb
   have hkn:k<ops.size:=(Array.getElem?_eq_some_iff.1 hk).1
   rw[hl' k hkn]at hlk;simp at hlk
   obtain⟨ok',hok'⟩:∃x,cos[k]? =some x:=⟨cos[k]'(by omega),by simp[hlen,hkn]⟩
   have:=(kr hok k ok ok' (by simpa using hk) hok').1 e he hb
   rw[hl' e.on (by omega)]
   simp;omega
  have hr:i∈Region.ready .any ops l:=by
   rw[mem_ready]
   refine⟨hiun,ops[i],hpi,fun e he hb=>?_⟩
   have:=hedge e he hb
   rw[hl' e.on (by omega)]
   simpa using this
  refine Dg hT hK hlen hio rest.length l s ?_ hcl hr hU hR ?_
  ·intro j pj oj hpj hoj hji hjun hno hno2
   have hjn:j<ops.size:=(Array.getElem?_eq_some_iff.1 hpj).1
   have hlj:=hl' j hjn
   rw[q7 hjun]at hlj;simp at hlj
   have hij:i<0+j:=by omega
   rcases tO hrow j pj oj (by simpa using hpj) hoj hij with h|h|h|h
   ·rw[hno]at h;cases h
   ·exact Df h
   ·rw[hno2]at h;cases h
   ·rw[Nat.zero_add]at h;exact xy hio hoj hbad h
  ·rw[j9]at h
   obtain⟨v,d,hdoes,hs',hi'⟩:=d7 h
   have hU':=hi' _ hU
   have hR':=vw hdoes (hT i o hio) hR
   refine hdoes.2 s .refl _ ?_;generalize(d.app' (base+i) s).put o.dst v=s' at hs' hU' hR'
   have hlsz:(l.setIfInBounds i true).size=ops.size:=by simp[hl]
   refine qa hT hbad hK hlen hok rest (i+1) _ s' ?_ (by simp at hn⊢;omega) hlsz (fun j hj=>?_) (wo (fun n hn=>AB (by omega) hn) hU') hR' hs'
   ·rw[<-List.tail_drop,hd];rfl
   ·by_cases hij:i=j
    ·subst hij;simp[hl,hilt]
    ·rw[getD_set_ne false hij,hl' j hj]
     by_cases hlt:j<i
     ·simp[hlt];omega
     ·simp[hlt];omega
end
section
variable{P:Program} {nt:Nat} {n0:gp} {w0:World} {π0:Nat->Nat->Prop} {U:Nat->Prop} {s:S} {a:Act} {w:World} {β:Nat->Nat} {τ:Nat->Value} {π:Nat->Nat->Prop}
theorem Rel.fo(R:Rel P nt n0 w0 π0 U s a w β τ π):s.fo U:=
 ⟨fun t v hv=>(R.slots t v hv).2,fun b x hb=>⟨(R.boxes b x hb).1,fun o q hq=>(R.boxes b x hb).2.2.2 o q hq⟩,fun q e hq=>(R.live q e hq).1⟩
theorem Rel.seq(R:Rel P nt n0 w0 π0 U s a w β τ π) {s2:S} (h:oW s s2):Rel P nt n0 w0 π0 U s2 a w β τ π where
 size:=R.size
 slots:=fun t v hv=>R.slots t v (by rw[<-h.slots];exact hv)
 boxes:=fun b x hb=>R.boxes b x (by rw[<-h.boxes];exact hb)
 inj:=fun b b' x x' hb hb'=>R.inj b b' x x' (by rw[<-h.boxes];exact hb) (by rw[<-h.boxes];exact hb')
 live:=fun q e hq=>R.live q e (by rw[<-h.live];exact hq)
 bJ:=fun q q' e e' B hq hq'=>R.bJ q q' e e' B (by rw[<-h.live];exact hq) (by rw[<-h.live];exact hq')
 cn:=fun q e b x hq hb=>R.cn q e b x (by rw[<-h.live];exact hq) (by rw[<-h.boxes];exact hb)
 below:=R.below
 eA:=R.eA
 dJ:=R.dJ
 dL:=R.dL
 cj:=R.cj
 kP:=R.kP
 i9:=R.i9
 kept:=R.kept
theorem Rel.nx(R:Rel P nt n0 w0 π0 U s a w β τ π) (n:Nat):Rel P nt n0 w0 π0 U {s with nx:=n} a w β τ π:=
 R.seq ⟨fun _=>rfl,fun _=>rfl,fun _=>rfl⟩
theorem vA{ops:Array Oper} {g:Option (Nat×Bool)} {g':Option (Nat×Bool)} (h:Aq ops g=some g'):(g=none/\g'=none)\/∃j w t,g=some (j,w)/\(ops[j]?).bind (·.dst)=some t/\g'=some (t,w):=by
 unfold Aq at h;split at h
 ·cases h;exact .inl ⟨rfl,rfl⟩
 ·rename_i j w
  split at h
  ·rename_i t ht
   cases h;exact .inr ⟨j,w,t,rfl,ht,rfl⟩
  ·cases h
theorem xB(R:Rel P nt n0 w0 π0 U s a w β τ π) {ops:Array Oper} {o:Oper} {c:CO} {id:Nat} (hid:¬U id) (hc:mO P ops o=some c) (hfit:∀d,c.dst=some d->d<nt) {K:S->Prop} (h:jv (Pure P) id c K s)
  {next:Act->World->Prop} {Q:Exit->Act->World->Prop}
  (hn:∀s' x w' β' τ' π',K s'->Rel P nt n0 w0 π0 (dR U id) s' (a.put o.dst x) w' β' τ' π'->next (a.put o.dst x) w'):
  if Region.wanted o (yielded ops a.tmps)then o.wp P a w next Q else next (a.put o.dst undef) w:=by
 unfold mO at hc
 split at hc<;>try(cases hc;done)
 rename_i cop g hop hg;cases hc;simp only at hfit
 have run:bD (Pure P) id cop (fun v s'=>K (s'.put o.dst v)) s->o.wp P a w next Q:=fun h=>by
  unfold GB at hop;split at hop
  ·rename_i c' hv'
   cases hop
   exact Dc R hid hv' h fun v s' x w' β' τ' π' hK hv hu R'=>hn _ _ _ _ _ _ hK (R'.put o.dst hfit hv hu)
  ·split at hop
   ·rename_i c' hv'
    cases hop
    exact Db R hv' h fun v s' x w' β' τ' π' hK hv hu R'=>hn _ _ _ _ _ _ hK (R'.put o.dst hfit hv hu)
   ·exact qY R hid hop h fun v s' x w' β' τ' π' hK hv hu R'=>hn _ _ _ _ _ _ hK (R'.put o.dst hfit hv hu)
 have skip:K (s.put o.dst .undef)->next (a.put o.dst undef) w:=fun h=>
  hn _ _ _ _ _ _ h ((R.sub fun n h=>.inl h).put o.dst hfit rfl trivial)
 unfold jv dQ at h
 rcases vA hg with⟨h1,h2⟩|⟨j,want,t,h1,h2,h3⟩
 ·subst h2
  simp only at h;simp only[Region.wanted,h1,if_true];exact run h
 ·subst h3
  simp only at h
  cases hl:lk t s.slots with
  |none=>simp[hl]at h
  |some v=>
   obtain⟨⟨x,hx,hrv⟩,hui⟩:=R.slots t v hl;simp only[hl]at h
   have hy:∀b,x=.bool b->yielded ops a.tmps j=some b:=fun b hb=>by
    unfold yielded;rw[h2];simp[hx,hb]
   cases v with
   |ptr b o=>exact h.elim
   |rp cs=>exact h.elim
   |vs _ _ _ _=>exact h.elim
   |mM _ _ _=>exact h.elim
   |raw _ _=>exact h.elim
   |pt _ _=>exact h.elim
   |undef=>
    have hxu:x=undef:=hrv
    have hy':yielded ops a.tmps j=none:=by
     unfold yielded;rw[h2];simp[hx,hxu,undef]
    simp only[Region.wanted,h1,hy'];exact skip h
   |dat av q=>
    cases av<;>try(exact h.elim)
    rename_i b
    have hxb:x=.bool b:=hrv.1.pR
    simp only[Region.wanted,h1,hy b hxb]
    by_cases hb:b=want
    ·subst hb;simp;exact run (h.1 rfl)
    ·have hb':b=!want:=by cases b<;>cases want<;>first|rfl|exact absurd rfl hb
     have:(some b==some want)=false:=by subst hb';cases want<;>rfl
     rw[this];exact skip (h.2 hb')
def uL(P:Program) (ops:Array Oper) (o:Oper) (c':CO):Prop:=∃c,mO P ops o=some c/\Ro c c'
theorem BM(R:Rel P nt n0 w0 π0 U s a w β τ π) {ops:Array Oper} {o:Oper} {c:CO} {id:Nat} (hid:¬U id) (hc:uL P ops o c) (hfit:∀d,c.dst=some d->d<nt) {K:S->Prop} (h:jv (Pure P) id c K s)
  {next:Act->World->Prop} {Q:Exit->Act->World->Prop}
  (hn:∀s' x w' β' τ' π',K s'->Rel P nt n0 w0 π0 (dR U id) s' (a.put o.dst x) w' β' τ' π'->next (a.put o.dst x) w'):
  if Region.wanted o (yielded ops a.tmps)then o.wp P a w next Q else next (a.put o.dst undef) w:=by
 obtain⟨c0,hc0,hr⟩:=hc
 refine xB R hid hc0 (fun d hd=>hfit d (by rw[hr.dst];exact hd)) (G0 hr h) ?_
 rintro s' x w' β' τ' π' ⟨s0,he,hk⟩ R'
 exact hn s0 x w' β' τ' π' hk (R'.seq he)
def FW(r:Option Nat):Fence:={Fence.wide with round:=r}
theorem xC{r:Option Nat} {n:Nat} {f:FuncId} {args:Array Value} {w:World} {R:Ending->World->Prop}:CallsIn (FW r) n P f args w R↔Calls P f args w R:=
 ⟨fun h=>callsIn_wide.1 (show CallsIn Fence.wide n P f args w R from h),fun h=>(show CallsIn Fence.wide n P f args w R from callsIn_wide.2 h)⟩
theorem Ff{r:Option Nat} {n:Nat} {row:String} {args:Array Value} {w:World} {R:Value->World->Prop} (h:Rows P row args w R):RowsIn (FW r) n P row args w R:=
 fun c cs _=>let ⟨v,w',hr,s⟩:=h c cs;⟨v,w',hr,(show StepsIn (Machine.fenced P Fence.wide) P _ _ from stepsIn_wide.2 s)⟩
theorem MF{r:Option Nat} {n:Nat} {o:Oper} {a:Act} {w:World} {K:Act->World->Prop} {Q:Exit->Act->World->Prop} (h:o.wp P a w K Q) (hd:∀c,o.op≠.defer c):o.wpIn (FW r) n P a w K Q:=by
 refine⟨fun _ _=>trivial,?_⟩
 rw[Oper.semAt_eq _ _ _ hd];unfold Oper.wp at h;generalize(execOp a.eval o).run P w=res at h⊢
 cases res with
 |ok x w'=>
  cases x<;>simp only[Oper.upon,Oper.uponIn]at h⊢<;>first
   |exact h
   |exact h.elim
   |exact⟨fun hd=>by simp[FW,Fence.wide]at hd,xC.2 h⟩
   |exact⟨fun hd=>by simp[FW,Fence.wide]at hd,Ff h⟩
 |halt x w'=>cases x<;>simp only[Oper.upon,Oper.uponIn]at h⊢<;>first|exact h|exact h.elim
def nN(T:Nat->Prop) (a0 a:Act):Prop:=a.defers=a0.defers/\∀t,T t->a.tmps[t]? =a0.tmps[t]?
theorem nN.refl(T:Nat->Prop) (a:Act):nN T a a:=⟨rfl,fun _ _=>rfl⟩
theorem nN.put{T:Nat->Prop} {a0 a:Act} (h:nN T a0 a) {d:Option Nat} (hd:∀t,d=some t->¬T t) (x:Value):nN T a0 (a.put d x):=by
 cases d with
 |none=>exact h
 |some d=>
  refine⟨h.1,fun t ht=>?_⟩
  have hne:t≠d:=fun e=>hd d rfl (e▸ht)
  simp only[Act.put];rw[Array.getElem?_setIfInBounds_ne (Ne.symm hne)];exact h.2 t ht
theorem sO(R:Rel P nt n0 w0 π0 U s a w β τ π) {ops:Array Oper} {o:Oper} {c:CO} {i id:Nat} (ho:ops[i]? =some o) (hid:¬U id) (hc:uL P ops o c) (hfit:∀d,c.dst=some d->d<nt) {K:S->Prop} (h:jv (Pure P) id c K s)
  {next:Act->World->Prop} {Q:Exit->Act->World->Prop}
  (hn:∀s' x w' β' τ' π',K s'->Rel P nt n0 w0 π0 (dR U id) s' (a.put o.dst x) w' β' τ' π'->next (a.put o.dst x) w') {r:Option Nat} {n:Nat}:wpOpIn (FW r) n P ops Q i next a w:=by
 have:=BM R hid hc hfit h (Q:=Q) hn
 have hnd:∀c,o.op≠.defer c:=by
  intro c' e;obtain⟨c0,hc,_⟩:=hc;unfold mO at hc;rw[e]at hc;simp[GB,sF,E8,Jv]at hc
 unfold wpOpIn;simp only[ho];split
 ·rename_i hw;rw[if_pos hw]at this;exact MF this hnd
 ·rename_i hw;rw[if_neg hw]at this;exact⟨fun _ _=>trivial,this⟩
theorem uM{ops:Array Oper} {o:Oper} {c:CO} (hc:mO P ops o=some c):c.dst=o.dst:=by
 unfold mO at hc
 split at hc<;>try(cases hc;done)
 cases hc;rfl
theorem xD{ops:Array Oper} {o:Oper} {c:CO} (hc:uL P ops o c):c.dst=o.dst:=by
 obtain⟨c0,h0,hr⟩:=hc;rw[hr.dst,uM h0]
theorem qb{ops:Array Oper}:∀{l:List Oper} {cs:List CO},sG P ops l=some cs->cs.length=l.length/\∀(i:Nat) (o:Oper) (c:CO),l[i]? =some o->cs[i]? =some c->mO P ops o=some c
 |[],cs,h=>by simp[sG]at h;subst h;exact⟨rfl,fun i o c h=>by simp at h⟩
 |o::l,cs,h=>by
  unfold sG at h
  split at h<;>try(cases h;done)
  rename_i c cs' h1 h2;cases h;obtain⟨e,hs⟩:=qb h2
  refine⟨by simp[e],fun i o' c' ho hc=>?_⟩
  cases i with
  |zero=>simp at ho hc;subst ho;subst hc;exact h1
  |succ i=>exact hs i o' c' (by simpa using ho) (by simpa using hc)
theorem oy{n:Nat}:∀{l:List CO},fq n l=true->∀(i:Nat) (c:CO) (d:Nat),l[i]? =some c->c.dst=some d->d<n
 |[],h,i,c,d,hi,hd=>by simp at hi
 |o::l,h,i,c,d,hi,hd=>by
  simp only[fq,Bool.and_eq_true]at h
  cases i with
  |zero=>
   simp at hi;subst hi
   have:=h.1
   rw[hd]at this
   simpa using this
  |succ i=>exact oy h.2 i c d (by simpa using hi) hd
theorem xE{ops:Array Oper} {cos:List CO} {base:Nat} (hlen:cos.length=ops.size) (hcos:∀(i:Nat) (o:Oper) (c:CO),ops[i]? =some o->cos[i]? =some c->uL P ops o c) (hfit:∀(i:Nat) (c:CO) (d:Nat),cos[i]? =some c->c.dst=some d->d<nt)
  {T:Nat->Prop} {a0:Act} (hT:∀(i:Nat) (c:CO) (d:Nat),cos[i]? =some c->c.dst=some d->¬T d) {r:Option Nat} {m:Nat}
  {K:S->Prop} {Q:Exit->Act->World->Prop} (hQ:∀s a w β τ π U,(∀n,U n->n<base+ops.size)->K s->nN T a0 a->Rel P nt n0 w0 π0 U s a w β τ π->Q .normal a w):
  ∀(rest:List CO) (i:Nat) (s:S) (a:Act) (w:World) (β:Nat->Nat) (τ:Nat->Value) (π:Nat->Nat->Prop) (U:Nat->Prop),cos.drop i=rest->i+rest.length=ops.size->(∀n,U n->n<base+i)->nN T a0 a->Rel P nt n0 w0 π0 U s a w β τ π->
   iT (Pure P) base i rest K s->wpOpsIn (FW r) m P ops Q (List.range' i rest.length) a w
 |[],i,s,a,w,β,τ,π,U,hd,hn,hU,hp,R,h=>hQ s a w β τ π U (fun n h=>by have:=hU n h;simp at hn;omega) h hp R
 |o::rest,i,s,a,w,β,τ,π,U,hd,hn,hU,hp,R,h=>by
  have hio:cos[i]? =some o:=by
   have:(cos.drop i)[0]? =some o:=by rw[hd];rfl
   simpa using this
  have hilt:i<ops.size:=by simp at hn;omega
  have hpi:ops[i]? =some ops[i]:=by simp[hilt]
  rw[j9]at h;simp only[List.length_cons,List.range'_succ];rw[wpOpsIn_cons]
  refine sO R hpi (fun h=>by have:=hU _ h;omega) (hcos i _ o hpi hio) (hfit i o · hio) h fun s' x w' β' τ' π' hK R'=>?_
  refine xE hlen hcos hfit hT hQ rest (i+1) s' _ w' β' τ' π' _ ?_ (by simp at hn;omega) (fun n h=>?_) (hp.put (fun d hd=>hT i o d hio (by rw[xD (hcos i _ o hpi hio)];exact hd)) x) R' hK
  ·rw[<-List.tail_drop,hd];rfl
  ·rcases h with h|h
   ·have:=hU n h;omega
   ·omega
theorem Fg{ops:Array Oper} {cos:List CO} {base:Nat} (hcos:∀(i:Nat) (o:Oper) (c:CO),ops[i]? =some o->cos[i]? =some c->uL P ops o c) (hfit:∀(i:Nat) (c:CO) (d:Nat),cos[i]? =some c->c.dst=some d->d<nt)
  {T:Nat->Prop} {a0:Act} (hT:∀(i:Nat) (c:CO) (d:Nat),cos[i]? =some c->c.dst=some d->¬T d) {r:Option Nat} {m:Nat}
  {K:S->Prop} {Q:Exit->Act->World->Prop} (hQ:∀s a w β τ π U,(∀n,U n->n<base+ops.size)->K s->nN T a0 a->Rel P nt n0 w0 π0 U s a w β τ π->Q .normal a w):
  ∀(f:Nat) (l:Array Bool) (s:S) (a:Act) (w:World) (β:Nat->Nat) (τ:Nat->Value) (π:Nat->Nat->Prop),l.size=ops.size->nN T a0 a->Rel P nt n0 w0 π0 (UL base l) s a w β τ π->
   AA (Pure P) base ops cos K f l s->wpAnyIn (FW r) m P .any ops Q f l a w:=by
 have small:∀l:Array Bool,l.size=ops.size->∀n,UL base l n->n<base+ops.size:=by
  rintro l hl n (h|⟨i,hi,h⟩)
  ·omega
  ·have:i<l.size:=by
    rcases Nat.lt_or_ge i l.size with h'|h'
    ·exact h'
    ·simp[Array.getElem?_eq_none h']at h
   omega
 intro f
 induction f with
 |zero=>intro l s a w β τ π hl hp R h;exact⟨h.1,hQ s a w β τ π _ (small l hl) h.2 hp R⟩
 |succ f ih=>
  intro l s a w β τ π hl hp R h
  refine⟨fun h0=>hQ s a w β τ π _ (small l hl) (h.1 h0) hp R,fun i hi=>?_⟩
  obtain⟨o,ho,hs⟩:=h.2 i hi;obtain⟨hun,pi,hpi,_⟩:=mem_ready.1 hi
  refine sO R hpi (xx hun) (hcos i pi o hpi ho) (hfit i o · ho) hs fun s' x w' β' τ' π' hK R'=>?_
  exact ih _ s' _ w' β' τ' π' (by simp[hl]) (hp.put (fun d hd=>hT i o d ho (by rw[xD (hcos i pi o hpi ho)];exact hd)) x) (R'.sub fun n hn=>AB (kD hi) hn) hK
theorem sP{c:CO} {d:Nat}:∀{l:List CO},c∈l->c.dst=some d->d∈dstsOf l
 |o::l,h,hd=>by
  simp only[dstsOf,List.mem_append]
  rcases List.mem_cons.1 h with rfl|h
  ·exact .inl (by rw[hd];simp)
  ·exact .inr (sP h hd)
theorem tQ(hm:P.follows .mixedOrders=true) {id:Nat} {ops:Array Oper} {kB:Bool} {cos0:List CO} (hc:sG P ops ops.toList=some cos0) (ro:List Nat) (hd:kB=true->∃dr T,jm dr ops.toList cos0=true/\tG T (mI ro 0 cos0) dr=true/\kq T s.nx 0 (mI ro 0 cos0)=true/\nr T s) (hfit:fq nt cos0=true)
  (R:Rel P nt n0 w0 π0 U s a w β τ π) (hU:∀n,U n->n<s.nx) {K:S->Prop} {Q:Exit->Act->World->Prop} (h:iT (Pure P) s.nx 0 (mI ro 0 cos0) K s)
  {T:Nat->Prop} (hT:∀d,d∈dstsOf cos0->¬T d) {r:Option Nat} {m:Nat}
  (hQ:∀s' a' w β τ π U,(∀n,U n->n<s.nx+cos0.length)->K s'->nN T a a'->Rel P nt n0 w0 π0 U s' a' w β τ π->Q .normal a' w):(Code.region id ops kB).wpIn (FW r) m P Q a w:=by
 obtain⟨hlen0,hcos0⟩:=qb hc
 have hd:kB=true->∃dr T,jm dr ops.toList (mI ro 0 cos0)=true/\tG T (mI ro 0 cos0) dr=true/\kq T s.nx 0 (mI ro 0 cos0)=true/\nr T s:=fun e=>by
  obtain⟨dr,T,h1,h2⟩:=hd e;exact⟨dr,T,Fe h1,h2⟩
 have hfit:fq nt (mI ro 0 cos0)=true:=by rw[Ef];exact hfit
 have hT:∀d,d∈dstsOf (mI ro 0 cos0)->¬T d:=by rw[BL];exact hT
 have hlen:(mI ro 0 cos0).length=ops.size:=by rw[AD];simpa using hlen0
 have hQ:∀s' a' w β τ π U,(∀n,U n->n<s.nx+(mI ro 0 cos0).length)->K s'->nN T a a'->Rel P nt n0 w0 π0 U s' a' w β τ π->Q .normal a' w:=by rw[AD];exact hQ
 have hcos:∀(i:Nat) (o:Oper) (c:CO),ops[i]? =some o->(mI ro 0 cos0)[i]? =some c->uL P ops o c:=fun i o c h1 h2=>by
  obtain⟨c0,h3,h4⟩:=Ee h2
  exact⟨c0,hcos0 i o c0 (by simpa using h1) h3,h4⟩
 clear hlen0 hcos0 hc;generalize mI ro 0 cos0=cos at*
 have hT:∀(i:Nat) (c:CO) (d:Nat),cos[i]? =some c->c.dst=some d->¬T d:=fun i c d hi hd=>hT d (sP (List.mem_of_getElem? hi) hd)
 have hfit:=oy hfit
 rw[hlen]at hQ
 cases kB with
 |false=>
  refine wpIn_region ?_
  have:=xE (r:=r) (m:=m) hlen hcos hfit hT hQ cos 0 s a w β τ π U rfl (by simpa using hlen) (by simpa using hU) (.refl _ _) R h
  rw[hlen]at this;rw[List.range_eq_range'];exact this
 |true=>
  obtain⟨dr,Tb,hok,hbad,hst,hRt⟩:=hd rfl
  have hst':∀k ok,cos[k]? =some ok->oq Tb (s.nx+k) ok=true:=fun k ok hk=>by have:=ox hst k ok hk;rwa[Nat.zero_add]at this
  refine wpIn_region_any hm ?_
  have R':Rel P nt n0 w0 π0 (UL s.nx (Array.replicate ops.size false)) s a w.drew β τ π:=R.draw.sub fun n hn=>.inl (hU n hn)
  have h2:iT (Pure P) s.nx 0 cos (fun s2=>∃s1,oW s1 s2/\K s1) s:=by
   clear hQ
   have gen:∀(base':Nat) (r:List CO) (i:Nat) (s:S) {K':S->Prop},(∀s,K s->K' s)->iT (Pure P) base' i r K s->iT (Pure P) base' i r K' s:=by
    intro base' r
    induction r with
    |nil=>intro i s K' hk h;exact hk s h
    |cons o r ih=>
     intro i s K' hk h;rw[j9]at h⊢;obtain⟨v,d,hd,hk',_⟩:=d7 h;exact hd.2 s .refl _ (ih _ _ hk hk')
   exact gen s.nx cos 0 s (fun s h=>⟨s,.refl,h⟩) h
  have h3:=qa hst' hbad (fun s s2 he ⟨s1,h1,hk⟩=>⟨s1,h1.trans he,hk⟩) hlen hok cos 0 (Array.replicate ops.size false) s rfl (by simpa using hlen) (by simp) (fun j hj=>by simp[hj]) R'.fo hRt h2
  rw[hlen]at h3
  refine Fg hcos hfit hT ?_ ops.size _ s a w.drew β τ π (by simp) (.refl _ _) R' h3
  rintro s2 a w β τ π U hU ⟨s1,he,hk⟩ hp R2
  exact hQ s1 a w β τ π U hU hk hp (R2.seq he.symm)
end
end Go.Eng
