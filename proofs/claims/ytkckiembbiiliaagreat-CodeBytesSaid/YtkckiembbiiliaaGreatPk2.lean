/- The engine and the library,part 2 of 21: what the proofs of this seat need of them. -/
import Derived.Test.YtkckiembbiiliaaGreatPk1
set_option linter.unnecessarySimpa false
set_option linter.unusedSimpArgs false
set_option linter.unusedVariables false
set_option linter.defProp false
set_option maxRecDepth 10000
set_option maxHeartbeats 4000000
namespace Go.Eng
open Go
open Go.RowKit (Below)
theorem Below.rT{n:Nat} {w w':World} (h:Below n w w') {b o:Nat} (hb:b<n):w'.cell? ⟨b,o,none⟩=w.cell? ⟨b,o,none⟩:=Below.cell h (p:=⟨b,o,none⟩) hb
theorem mP{w:World} {π:Nat->Nat->Prop} {a:AV} {as:List (Option AV)} {Bs:List Nat} {v:Value} {vs:List Value} (h:eV w π (some a::as) Bs (v::vs)):
  (a=.hole/\∃B Bs',Bs=B::Bs'/\v=.agg #[.pointer (some ⟨B,0,none⟩)]/\eV w π as Bs' vs)\/(a≠.hole/\DV w π a v/\eV w π as Bs vs):=by
 by_cases ha:a=.hole
 ·subst ha
  cases Bs with
  |nil=>cases h.1
  |cons B Bs=>exact .inl ⟨rfl,B,Bs,rfl,h.1,h.2⟩
 ·refine .inr ⟨ha,?_⟩
  cases a<;>first|exact absurd rfl ha|(cases Bs<;>exact h)
theorem tO{w:World} {π:Nat->Nat->Prop} {a:AV} {as:List (Option AV)} {Bs:List Nat} {v:Value} {vs:List Value} (ha:a≠.hole) (h1:DV w π a v) (h2:eV w π as Bs vs):eV w π (some a::as) Bs (v::vs):=by
 cases a<;>first|exact absurd rfl ha|(cases Bs<;>exact⟨h1,h2⟩)
theorem yy{w:World} {π:Nat->Nat->Prop} {a:AV} {as:List (Option AV)} {Bs:List Nat} {v:Value} {vs:List Value} (h1:DV w π a v) (h2:eV w π as Bs vs):eV w π (some a::as) Bs (v::vs):=
 tO (fun e=>by subst e;cases h1) h1 h2
theorem eV.mono{w w':World} {π π':Nat->Nat->Prop} (hp:∀b o,π b o->π' b o) (hc:∀b o,π b o->w'.cell? ⟨b,o,none⟩=w.cell? ⟨b,o,none⟩):∀{as:List (Option AV)} {Bs:List Nat} {vs:List Value},eV w π as Bs vs->eV w' π' as Bs vs
 |[],[],[],_=>trivial
 |[],[],v::vs,h=>h.elim
 |[],B::Bs,vs,h=>by cases vs<;>exact h.elim
 |some a::as,Bs,[],h=>by cases Bs<;>cases a<;>exact h.elim
 |some a::as,Bs,v::vs,h=>by
  rcases mP h with⟨rfl,B,Bs',rfl,e,h2⟩|⟨ha,h1,h2⟩
  ·exact⟨e,eV.mono hp hc h2⟩
  ·exact tO ha (h1.mono hp hc) (eV.mono hp hc h2)
 |none::as,[],vs,h=>by cases vs<;>exact h.elim
 |none::as,B::Bs,[],h=>h.elim
 |none::as,B::Bs,v::vs,h=>⟨h.1,eV.mono hp hc h.2⟩
theorem RV.mono{β β':Nat->Nat} {τ τ':Nat->Value} {w w':World} {π π':Nat->Nat->Prop} {U:Nat->Prop} (hβ:∀b,U b->β' b=β b) (hτ:∀b,U b->τ' b=τ b)
  (hp:∀b o,π b o->π' b o) (hc:∀b o,π b o->w'.cell? ⟨b,o,none⟩=w.cell? ⟨b,o,none⟩) {v:SV} {x:Value} (hU:v.gp U) (h:RV β τ w π v x):RV β' τ' w' π' v x:=by
 cases v with
 |dat a q=>
  refine⟨h.1.mono hp hc,fun t ht=>?_⟩
  subst ht;rw[hτ t hU];exact h.2 t rfl
 |ptr b off=>
  show x=_
  rw[hβ b hU];exact h
 |rp cs=>
  obtain⟨B,off,f,hx,h1,h2,h3,h4⟩:=h
  exact⟨B,off,f,hx,h1,fun j a ha=>hp _ _ (h2 j a ha),fun j a ha=>(hc _ _ (h2 j a ha)).trans (h3 j a ha),fun j a ha=>(h4 j a ha).mono hp hc⟩
 |undef=>exact h
 |vs b off n z=>
  obtain⟨cap,h1,h2⟩:=h
  exact⟨cap,h1,by rw[hβ b hU];exact h2⟩
 |nD f as bs=>
  obtain⟨us,h1,h2⟩:=h;refine⟨us,h1,?_⟩
  have e:bs.map β'=bs.map β:=List.map_congr_left fun b hb=>hβ b (hU b hb)
  rw[e];exact h2.mono hp hc
 |raw q n=>
  obtain⟨B,cap,h1,h2⟩:=h
  exact⟨B,cap,by rw[hτ q hU];exact h1,h2⟩
 |pt k ps=>
  cases k with
  |zero=>
   have h:x=_:=h
   show x=_
   rw[h]
   congr 2
   exact List.map_congr_left fun p hp=>by rw[hβ p.1 (hU p hp)]
  |succ k=>
   obtain⟨B,off,cap,h1,h2,h3⟩:=h
   refine⟨B,off,cap,h1,h2,fun i p hi=>?_⟩
   have:=h3 i p hi
   exact⟨hp _ _ this.1,by rw[hc _ _ this.1,this.2,hβ p.1 (hU p (List.mem_of_getElem? hi))]⟩
theorem SV.mQ{U U':Nat->Prop} (hU:∀n,U n->U' n) {v:SV} (h:v.gp U):v.gp U':=by
 cases v with
 |dat a q=>cases q with
  |none=>trivial
  |some q=>exact hU _ h
 |ptr b off=>exact hU _ h
 |rp cs=>trivial
 |undef=>trivial
 |vs b off n z=>exact hU _ h
 |nD f as bs=>exact fun b hb=>hU _ (h b hb)
 |raw q n=>exact hU _ h
 |pt k ps=>exact fun p hp=>hU _ (h p hp)
theorem nH{w:World} {B:Nat} {o:Obj} (h:w.heap[B]? =some o):B<w.heap.size:=(Array.getElem?_eq_some_iff.1 h).1
theorem AB.block{P:Program} {w:World} {π:Nat->Nat->Prop} {ok:Nat->Prop} {e B:Nat} {v:Value} (h:AB P w π ok e v) (hB:js v=some B):
  ok B/\B<w.heap.size:=by
 rcases h with rfl|⟨B',len,cap,cur,i,rfl,h1,h2,_⟩
 ·simp[js]at hB
 ·simp[js]at hB;subst hB;exact⟨h1,nH h2⟩
theorem AB.keep{P:Program} {w w':World} {π π':Nat->Nat->Prop} {ok:Nat->Prop} {e:Nat} {v:Value} (h:AB P w π ok e v)
  (hb:∀B,js v=some B->w'.heap[B]? =w.heap[B]?) (hp:∀B o,js v=some B->π' B o->π B o):AB P w' π' ok e v:=by
 rcases h with rfl|⟨B',len,cap,cur,i,rfl,h1,h2,h3,h4,h5,h6,h7⟩
 ·exact .inl rfl
 ·exact .inr ⟨B',len,cap,cur,i,rfl,h1,(hb B' rfl).trans h2,h3,h4,h5,h6,fun o ho hc=>h7 o ho (hp B' o rfl hc)⟩
theorem ou.keep{τ τ':Nat->Value} {w w':World} {π π':Nat->Nat->Prop} {U:Nat->Prop} {B:Nat} {x:bY} (h:ou τ w π B x) (hτ:∀q,U q->τ' q=τ q) (hU:∀o q,eK o x.tags=some q->U q)
  (hb:w'.heap[B]? =w.heap[B]?) (hp:∀b o,π b o->π' b o) (hc:∀b o,π b o->w'.cell? ⟨b,o,none⟩=w.cell? ⟨b,o,none⟩) (hn:∀o,¬π' B o):ou τ' w' π' B x:=by
 obtain⟨cur,el,h1,h2,h3,h4,_⟩:=h
 exact⟨cur,el,hb.trans h1,h2.mono hp hc,h3,fun o q hq=>by rw[hτ q (hU o q hq)];exact h4 o q hq,hn⟩
section
variable{P:Program} {nt:Nat} {n0:gO} {w0:World} {π0:Nat->Nat->Prop} {U U':Nat->Prop} {s:S} {a:Act} {w w':World} {β β':Nat->Nat} {τ τ':Nat->Value} {π π':Nat->Nat->Prop}
theorem Rel.frame(R:Rel P nt n0 w0 π0 U s a w β τ π) (hβ:∀b,U b->β' b=β b) (hτ:∀b,U b->τ' b=τ b) (hU:∀n,U n->U' n)
  (hp:∀b o,π b o->π' b o) (hp':∀b o,π' b o->π b o\/w.heap.size<=b) (hpl:∀b o,π' b o->b<w'.heap.size) (hbel:Below w.heap.size w w'):
  Rel P nt n0 w0 π0 U' s a w' β' τ' π':=by
 have hc:∀b o,π b o->w'.cell? ⟨b,o,none⟩=w.cell? ⟨b,o,none⟩:=fun b o h=>Below.rT hbel (R.ej b o h)
 have hsz:n0.n<=w.heap.size:=Nat.le_trans R.fu R.below.size
 refine⟨R.size,fun t v h=>?_,fun b x h=>?_,fun b b' x x' h h' e=>?_,fun q e h=>?_,fun q q' e e' B h h' hB hB'=>?_,fun q e b x h h' hB=>?_,R.below.trans (.of hbel hsz),R.fu,hpl,fun b o h=>hp _ _ (R.eo b o h),fun b o h=>?_,fun k hk=>by rw[hβ k (R.jt k hk)];exact R.lQ k hk,fun k hk=>hU k (R.jt k hk),fun b o h=>(hc b o (R.eo b o h)).trans (R.kept b o h)⟩
 ·obtain⟨⟨x,hx,hv⟩,hu⟩:=R.slots t v h
  exact⟨⟨x,hx,RV.mono hβ hτ hp hc hu hv⟩,SV.mQ hU hu⟩
 ·obtain⟨h1,h2,h3,h4⟩:=R.boxes b x h
  rw[hβ b h1]
  have hlt:β b<w.heap.size:=by obtain⟨cur,el,hh,_⟩:=h3;exact nH hh
  refine⟨hU b h1,h2,h3.keep hτ h4 (hbel.block _ hlt) hp hc (fun o ho=>?_),fun o q hq=>hU _ (h4 o q hq)⟩
  rcases hp' _ _ ho with h|h
  ·obtain⟨_,_,_,_,_,_,hn⟩:=h3;exact hn o h
  ·omega
 ·rw[hβ b (R.boxes b x h).1,hβ b' (R.boxes b' x' h').1]at e
  exact R.inj b b' x x' h h' e
 ·obtain⟨h1,h2⟩:=R.live q e h
  rw[hτ q h1]
  refine⟨hU q h1,h2.keep (fun B hB=>hbel.block _ (h2.block hB).2) (fun B o hB ho=>?_)⟩
  rcases hp' _ _ ho with h|h
  ·exact h
  ·have:=(h2.block hB).2;omega
 ·rw[hτ q (R.live q e h).1]at hB
  rw[hτ q' (R.live q' e' h').1]at hB';exact R.bS q q' e e' B h h' hB hB'
 ·rw[hτ q (R.live q e h).1,hβ b (R.boxes b x h').1]at hB
  exact R.cK q e b x h h' hB
 ·rcases hp' b o h with h|h
  ·exact R.cH b o h
  ·exact .inr (.inl (by omega))
theorem Rel.sub(R:Rel P nt n0 w0 π0 U s a w β τ π) (hU:∀n,U n->U' n):Rel P nt n0 w0 π0 U' s a w β τ π:=
 R.frame (fun _ _=>rfl) (fun _ _=>rfl) hU (fun _ _ h=>h) (fun _ _ h=>.inl h) R.ej (Below.refl _ _)
theorem Rel.put(R:Rel P nt n0 w0 π0 U s a w β τ π) (d:Option Nat) {v:SV} {x:Value} (hd:∀t,d=some t->t<nt) (hv:RV β τ w π v x) (hu:v.gp U):Rel P nt n0 w0 π0 U (s.put d v) (a.put d x) w β τ π:=by
 cases d with
 |none=>exact R
 |some d=>
  refine⟨by simp[Act.put,R.size],fun t u h=>?_,R.boxes,R.inj,R.live,R.bS,R.cK,R.below,R.fu,R.ej,R.eo,R.cH,R.lQ,R.jt,R.kept⟩
  simp only[S.put,lk]at h
  by_cases e:t=d
  ·subst e
   simp at h;subst h
   exact⟨⟨x,by simp[Act.put,R.size,hd t rfl],hv⟩,hu⟩
  ·have:(t==d)=false:=by simpa using e
   simp only[this,cond_false]at h;obtain⟨⟨y,hy,hr⟩,hu'⟩:=R.slots t u h
   exact⟨⟨y,by simp[Act.put,Array.getElem?_setIfInBounds_ne (Ne.symm e),hy],hr⟩,hu'⟩
theorem Rel.bM(R:Rel P nt n0 w0 π0 U s a w β τ π) {X:Operand} {x:bE} {v:SV} (hx:cn X=some x) (hv:bM s x=some v):RV β τ w π v (a.eval X)/\v.gp U:=by
 cases X with
 |tmp t=>
  simp[cn]at hx;subst hx;obtain⟨⟨y,hy,hr⟩,hu⟩:=R.slots t v hv;refine⟨?_,hu⟩
  have:a.eval (.tmp t)=y:=by simp[Act.eval,hy]
  rw[this];exact hr
 |const c=>
  simp only[cn,Option.map_eq_some_iff]at hx;obtain⟨k,hk,rfl⟩:=hx;simp[Eng.bM]at hv;subst hv
  exact⟨⟨HR hk,fun t ht=>by cases ht⟩,trivial⟩
 |global g=>simp[cn]at hx
 |func f=>
  simp[cn]at hx;subst hx;simp[Eng.bM]at hv;subst hv
  refine⟨⟨?_,fun t ht=>by cases ht⟩,trivial⟩
  exact .fn (.func f) [] #[] [] #[] rfl rfl (fun i a v h=>by simp at h) (fun i a v h=>by simp at h)
theorem RV.ref{β:Nat->Nat} {τ:Nat->Value} {w:World} {π:Nat->Nat->Prop} {cs:List AV} {v:Value}:RV β τ w π (.rp cs) v↔DV w π (.ref cs) v:=by
 constructor
 ·rintro⟨B,off,f,rfl,h1,h2,h3,h4⟩
  exact .ref cs B off f h1 h2 h3 h4
 ·intro h
  cases h with
  |ref _ B off f h1 h2 h3 h4=>exact⟨B,off,f,rfl,h1,h2,h3,h4⟩
theorem Rel.aQ(R:Rel P nt n0 w0 π0 U s a w β τ π) {X:Operand} {x:bE} {v:AV} (hx:cn X=some x) (hv:Eng.aQ s x=some v):DV w π v (a.eval X):=by
 unfold Eng.aQ at hv;split at hv
 ·rename_i b q ho
  cases hv;exact(R.bM hx ho).1.1
 ·rename_i cs ho
  cases hv;exact RV.ref.1 (R.bM hx ho).1
 ·cases hv
theorem Rel.dL(R:Rel P nt n0 w0 π0 U s a w β τ π):∀{Xs:List Operand} {xs:List bE} {vs:List AV},Xs.mapM cn=some xs->Eng.dL s xs=some vs->jr w π vs (Xs.map a.eval)
 |[],xs,vs,hx,hv=>by
  simp at hx;subst hx;simp[Eng.dL]at hv;subst hv;exact .nil _ _
 |X::Xs,xs,vs,hx,hv=>by
  simp only[List.mapM_cons,Option.bind_eq_bind,Option.bind_eq_some_iff,Option.pure_def,Option.some.injEq]at hx;obtain⟨x,hx,xs',hxs,rfl⟩:=hx;simp only[Eng.dL]at hv;split at hv
  ·rename_i a' as h1 h2
   cases hv;exact .cons (R.aQ hx h1) (R.dL hxs h2)
  ·cases hv
def Ai{α:Type} (f:Nat->α) (n:Nat) (x:α):Nat->α:=fun m=>if m=n then x else f m
theorem cj{α:Type} (f:Nat->α) (n:Nat) (x:α):Ai f n x n=x:=by simp[Ai]
theorem tP{α:Type} (f:Nat->α) (n:Nat) (x:α) {m:Nat} (h:m≠n):Ai f n x m=f m:=by simp[Ai,h]
def eE(U:Nat->Prop) (n:Nat):Nat->Prop:=fun m=>U m\/m=n
theorem Rel.Ei(R:Rel P nt n0 w0 π0 U s a w β τ π) {id:Nat} (hid:¬U id) {cells:List AV} {cs:Array Value} (e:TypeId) (hd:jr w π cells (cs.toList.take cells.length)) (hs:∀a∈cells,a.scalar=true):
  Rel P nt n0 w0 π0 (eE U id) {s with boxes:=(id,⟨cells,[]⟩)::s.boxes} a (w.alloc (.cells cs e)) (Ai β id w.heap.size) τ π:=by
 have hne:∀b,U b->b≠id:=fun b hb e=>hid (e▸hb)
 have hbel:Below w.heap.size w (w.alloc (.cells cs e)):=(Below.refl _ _).alloc (Nat.le_refl _) _
 have R1:Rel P nt n0 w0 π0 (eE U id) s a (w.alloc (.cells cs e)) (Ai β id w.heap.size) τ π:=
  R.frame (fun b hb=>tP _ _ _ (hne b hb)) (fun _ _=>rfl) (fun n h=>.inl h) (fun _ _ h=>h) (fun _ _ h=>.inl h) (fun b o h=>by have:=R.ej b o h;simp;omega) hbel
 have hsz:n0.n<=w.heap.size:=Nat.le_trans R.fu R.below.size
 have hold:∀b x,ct b s.boxes=some x->Ai β id w.heap.size b≠w.heap.size:=fun b x h=>by
  obtain⟨h1,_,⟨cur,el,hh,_⟩,_⟩:=R.boxes b x h;rw[tP _ _ _ (hne b h1)]
  have:=nH hh
  omega
 refine⟨R1.size,R1.slots,fun b x h=>?_,fun b b' x x' h h' e=>?_,R1.live,R1.bS,fun q e' b x h h' hB=>?_,R1.below,R1.fu,R1.ej,R1.eo,R1.cH,R1.lQ,R1.jt,R1.kept⟩
 ·simp only[ct]at h
  by_cases hb:b=id
  ·subst hb
   simp at h;subst h
   refine⟨.inr rfl,by rw[cj];exact .inl hsz,?_,fun o q h=>by simp[eK]at h⟩
   rw[cj]
   refine⟨cs,e,heap_alloc_new w _,hd.mono (fun _ _ h=>h) (fun b o h=>Below.rT hbel (R.ej b o h)),hs,fun o q h=>by simp[eK]at h,fun o h=>?_⟩
   have:=R.ej _ _ h;omega
  ·have:(b==id)=false:=by simpa using hb
   simp only[this,cond_false]at h;exact R1.boxes b x h
 ·simp only[ct]at h h'
  by_cases hb:b=id
  ·by_cases hb':b'=id
   ·rw[hb,hb']
   ·have hf:(b'==id)=false:=by simpa using hb'
    simp only[hf,cond_false]at h';subst hb;rw[cj]at e;exact absurd e.symm (hold b' x' h')
  ·have hf:(b==id)=false:=by simpa using hb
   simp only[hf,cond_false]at h
   by_cases hb':b'=id
   ·subst hb'
    rw[cj]at e;exact absurd e (hold b x h)
   ·have hf':(b'==id)=false:=by simpa using hb'
    simp only[hf',cond_false]at h';exact R1.inj b b' x x' h h' e
 ·simp only[ct]at h'
  by_cases hb:b=id
  ·subst hb
   rw[cj]at hB
   have:=((R.live q e' h).2.block hB).2
   omega
  ·have hf:(b==id)=false:=by simpa using hb
   simp only[hf,cond_false]at h';exact R1.cK q e' b x h h' hB
theorem mR{n m:Nat} {b:bY}:∀{l:List (Nat×bY)} {x:bY},ct n (nW m b l)=some x->(n=m/\x=b/\∃y,ct m l=some y)\/(n≠m/\ct n l=some x)
 |[],x,h=>by simp[nW,ct]at h
 |(k,v)::r,x,h=>by
  simp only[nW]at h
  by_cases hk:m=k
  ·subst hk
   simp only[beq_self_eq_true,cond_true,ct]at h
   by_cases hn:n=m
   ·subst hn
    simp at h
    exact .inl ⟨rfl,h.symm,v,by simp[ct]⟩
   ·have hf:(n==m)=false:=by simpa using hn
    simp only[hf,cond_false]at h
    exact .inr ⟨hn,by simp[ct,hf,h]⟩
  ·have hf:(m==k)=false:=by simpa using hk
   simp only[hf,cond_false,ct]at h
   by_cases hn:n=k
   ·subst hn
    simp at h
    exact .inr ⟨fun e=>hk e.symm,by simp[ct,h]⟩
   ·have hf':(n==k)=false:=by simpa using hn
    simp only[hf',cond_false]at h
    rcases mR h with⟨h1,h2,y,h3⟩|⟨h1,h2⟩
    ·exact .inl ⟨h1,h2,y,by simp[ct,hf,h3]⟩
    ·exact .inr ⟨h1,by simp[ct,hf',h2]⟩
theorem Rel.HV(R:Rel P nt n0 w0 π0 U s a w β τ π) {b:Nat} {x y:bY} (hb:ct b s.boxes=some x) {cur cur':Array Value} {el:TypeId}
  (hh:w.heap[β b]? =some (.cells cur el (0,0))) (hd:jr w π y.cells (cur'.toList.take y.cells.length)) (hs:∀a∈y.cells,a.scalar=true)
  (ht:∀o q,eK o y.tags=some q->cur'[o]? =some (τ q)/\U q):
  Rel P nt n0 w0 π0 U {s with boxes:=nW b y s.boxes} a (w.setRow (β b) cur') β τ π:=by
 obtain⟨hUb,hn0,⟨_,_,hh',_,_,_,hnp⟩,_⟩:=R.boxes b x hb
 have hsz:n0.n<=w.heap.size:=Nat.le_trans R.fu R.below.size
 have hother:∀k,k≠β b->(w.setRow (β b) cur').heap[k]? =w.heap[k]?:=fun k hk=>setRow_other w _ k cur' hk
 have hc:∀B o,π B o->(w.setRow (β b) cur').cell? ⟨B,o,none⟩=w.cell? ⟨B,o,none⟩:=fun B o h=>cell_setRow_other w _ cur' ⟨B,o,none⟩ (fun e=>hnp o (by simpa[<-e]using h))
 have hbel:sW n0 w (w.setRow (β b) cur'):=⟨rfl,rfl,rfl,by simp,fun k hk hx=>hother k (fun e=>by subst e;rcases hn0 with h|h;exact absurd h (by omega);exact hx h.2),fun k o hk ho=>(hother k (fun e=>by subst e;rw[hh]at hk;cases hk;cases ho)).trans hk⟩
 refine⟨R.size,fun t v h=>?_,fun c z h=>?_,fun c c' z z' h h' e=>?_,fun q e h=>?_,R.bS,fun q e c z h h' hB=>?_,R.below.trans hbel,R.fu,fun B o h=>by simpa using R.ej B o h,R.eo,R.cH,R.lQ,R.jt,fun b o h=>(hc b o (R.eo b o h)).trans (R.kept b o h)⟩
 ·obtain⟨⟨z,hz,hv⟩,hu⟩:=R.slots t v h
  exact⟨⟨z,hz,RV.mono (fun _ _=>rfl) (fun _ _=>rfl) (fun _ _ h=>h) hc hu hv⟩,hu⟩
 ·rcases mR h with⟨rfl,rfl,_⟩|⟨hne,h⟩
  ·exact⟨hUb,hn0,⟨cur',el,setRow_heap w _ cur _ el _ hh,hd.mono (fun _ _ h=>h) hc,hs,fun o q hq=>(ht o q hq).1,hnp⟩,fun o q hq=>(ht o q hq).2⟩
  ·obtain⟨h1,h2,h3,h4⟩:=R.boxes c z h
   refine⟨h1,h2,h3.keep (fun _ _=>rfl) h4 (hother _ (fun e=>hne (R.inj c b z x h hb e))) (fun _ _ h=>h) hc ?_,h4⟩
   obtain⟨_,_,_,_,_,_,hn⟩:=h3;exact hn
 ·have:∃u,ct c s.boxes=some u:=by
   rcases mR h with⟨rfl,_,_⟩|⟨_,h⟩
   ·exact⟨x,hb⟩
   ·exact⟨z,h⟩
  have k':∃u,ct c' s.boxes=some u:=by
   rcases mR h' with⟨rfl,_,_⟩|⟨_,h⟩
   ·exact⟨x,hb⟩
   ·exact⟨z',h⟩
  obtain⟨u,hu⟩:=this;obtain⟨u',hu'⟩:=k';exact R.inj c c' u u' hu hu' e
 ·obtain⟨h1,h2⟩:=R.live q e h
  exact⟨h1,h2.keep (fun B hB=>hother B (fun eB=>R.cK q e b x h hb (by rw[hB,eB]))) (fun B o _ h=>h)⟩
 ·have:∃u,ct c s.boxes=some u:=by
   rcases mR h' with⟨rfl,_,_⟩|⟨_,h⟩
   ·exact⟨x,hb⟩
   ·exact⟨z,h⟩
  obtain⟨u,hu⟩:=this;exact R.cK q e c u h hu hB
end
open Go.RowKit (Below)
theorem iA(B o n:Nat):(⟨B,o,none⟩:Addr).add n=⟨B,o+n,none⟩:=by unfold Addr.add;split<;>simp_all
section runs
variable{P:Program} {w:World}
theorem dN{t:TypeId} {z:Nat} (h:fq P t=some z):(sizeOf t).run P w=.ok z w:=by
 simp only[fq,Option.map_eq_some_iff]at h;obtain⟨i,hi,rfl⟩:=h;simp[sizeOf,typeInfo,hi]
theorem uL{t:TypeId} {d:TypeDesc} (h:P.underlying t=some d):(isAgg t).run P w=.ok (nC P t) w:=by
 have:=run_underlying h w
 unfold isAgg nC;simp only[Sem.run_bind,this,Result.andThen_ok,h]
 cases d<;>rfl
theorem CL{t:TypeId} {n:Nat} (h:uJ P t=some (some n)):∃d,P.underlying t=some d/\nC P t=true/\fq P t=some n:=by
 unfold uJ at h;split at h
 ·rename_i fs hu;exact⟨_,hu,by simp[nC,hu],by simpa using h⟩
 ·rename_i k e hu;exact⟨_,hu,by simp[nC,hu],by simpa using h⟩
 ·simp at h
 ·simp at h
theorem CM{t:TypeId} (h:uJ P t=some none):∃d,P.underlying t=some d/\nC P t=false:=by
 unfold uJ at h;split at h
 ·simp at h
 ·simp at h
 ·rename_i d h1 h2 hu
  refine⟨d,hu,?_⟩;unfold nC;rw[hu]
  cases d<;>simp_all
 ·simp at h
theorem kH{t:TypeId} {n:Nat} (h:uJ P t=some (some n)) {B o:Nat} {f:Nat->Value} (hc:∀j,j<n->w.cell? ⟨B,o+j,none⟩=some (f j)):
  (loadVar t ⟨B,o,none⟩).run P w=.ok (.agg ((List.range n).map f).toArray) w:=by
 obtain⟨d,hd,ha,hs⟩:=CL h
 have h1:=uL (w:=w) hd
 have h2:=dN (w:=w) hs
 have h3:=run_loadCells (P:=P) w ⟨B,o,none⟩ n f (fun j hj=>by rw[iA];exact hc j hj)
 simp only[loadVar,Sem.run_bind,h1,ha,Result.andThen_ok,if_true,h2,h3,Sem.run_pure]
theorem kI{t:TypeId} (h:uJ P t=some none) {B o:Nat} {v:Value} (hc:w.cell? ⟨B,o,none⟩=some v):
  (loadVar t ⟨B,o,none⟩).run P w=.ok v w:=by
 obtain⟨d,hd,ha⟩:=CM h
 have h1:=uL (w:=w) hd
 simp[loadVar,Sem.run_bind,h1,ha,Result.andThen_ok,hc]
end runs
theorem BD{w:World} {π:Nat->Nat->Prop} {cs:List AV} {f:Nat->Value} {off:Nat} {sz:Option Nat} {a:AV}
  (hs:∀(j:Nat) (x:AV),cs[j]? =some x->x.scalar=true) (hd:∀(j:Nat) (x:AV),cs[j]? =some x->DV w π x (f j)) (h:bF cs off sz=some a):
  match sz with
  |none=>DV w π a (f off)/\off<cs.length
  |some n=>off+n<=cs.length/\DV w π a (.agg ((List.range n).map fun j=>f (off+j)).toArray):=by
 cases sz with
 |none=>
  simp only[bF]at h;refine⟨hd _ _ h,?_⟩
  rcases Nat.lt_or_ge off cs.length with h'|h'
  ·exact h'
  ·rw[List.getElem?_eq_none h']at h;cases h
 |some n=>
  simp only[bF]at h;split at h
  ·rename_i hle
   cases h
   have hg:∀(i:Nat) (x:AV),((cs.drop off).take n)[i]? =some x->i<n/\cs[off+i]? =some x:=by
    intro i x hx;rw[List.getElem?_take]at hx;split at hx
    ·rename_i hi;exact⟨hi,by simpa using hx⟩
    ·cases hx
   refine⟨hle,.agg _ _ (by simp;omega) (fun x hx=>?_) (fun i x v hx hv=>?_)⟩
   ·obtain⟨i,hi⟩:=List.mem_iff_getElem?.1 hx
    exact hs _ _ (hg i x hi).2
   ·obtain⟨hi,hx'⟩:=hg i x hx
    have:v=f (off+i):=by simpa[hi]using hv.symm
    rw[this];exact hd _ _ hx'
  ·cases h
section ops
variable{P:Program} {nt:Nat} {n0:gO} {w0:World} {π0:Nat->Nat->Prop} {U:Nat->Prop} {s:S} {a:Act} {w:World} {β:Nat->Nat} {τ:Nat->Value} {π:Nat->Nat->Prop}
theorem ou.cells{B:Nat} {x:bY} (h:ou τ w π B x):∃f:Nat->Value,(∀j,j<x.cells.length->w.cell? ⟨B,j,none⟩=some (f j))/\(∀(j:Nat) (y:AV),x.cells[j]? =some y->y.scalar=true)/\
  (∀(j:Nat) (y:AV),x.cells[j]? =some y->DV w π y (f j))/\∀o q,eK o x.tags=some q->f o=τ q:=by
 obtain⟨cur,el,h1,h2,h3,h4,_⟩:=h
 refine⟨fun j=>cur.getD j undef,fun j hj=>?_,fun j y hy=>h3 y (List.mem_of_getElem? hy),fun j y hy=>?_,fun o q hq=>?_⟩
 ·have hl:j<cur.size:=by have:=h2.1;simp at this;omega
  rw[cell_of_row w B j cur el (0,0) h1];simp[hl]
 ·obtain⟨v,hv,hd⟩:=h2.get hy
  have:cur[j]? =some v:=by
   have hjl:j<x.cells.length:=by
    rcases Nat.lt_or_ge j x.cells.length with h|h
    ·exact h
    ·rw[List.getElem?_eq_none h]at hy;cases hy
   rw[List.getElem?_take_of_lt hjl]at hv;simpa using hv
  simp[this,hd]
 ·simp[h4 o q hq]
theorem Rel.load(R:Rel P nt n0 w0 π0 U s a w β τ π) {t:TypeId} {X:Operand} {x:bE} {sz:Option Nat} (hx:cn X=some x) (ht:uJ P t=some sz) {id:Nat} {K:SV->S->Prop}
  (h:bN (Pure P) id (.ld x sz) K s):∃v y,(Instr.loadAt t (a.eval X)).run P w=.ok y w/\RV β τ w π v y/\v.gp U/\K v s:=by
 simp only[bN]at h
 cases ho:Eng.bM s x with
 |none=>rw[ho]at h;exact h.elim
 |some p=>
  rw[ho]at h;obtain⟨hr,hu⟩:=R.bM hx ho
  cases p with
  |dat b q=>exact h.elim
  |undef=>exact h.elim
  |vs _ _ _ _=>exact h.elim
  |nD _ _ _=>exact h.elim
  |raw _ _=>exact h.elim
  |pt _ _=>exact h.elim
  |ptr b off=>
   simp only[aG]at h
   cases hb:ct b s.boxes with
   |none=>rw[hb]at h;exact h.elim
   |some z=>
    rw[hb]at h;simp only[aG]at h
    cases hp:bF z.cells off sz with
    |none=>rw[hp]at h;exact h.elim
    |some av=>
     rw[hp]at h;obtain⟨h1,h2,h3,h4⟩:=R.boxes b z hb;obtain⟨f,hf,hs,hd,htg⟩:=h3.cells
     have hpd:=BD hs hd hp
     have he:a.eval X=.pointer (some ⟨β b,off,none⟩):=hr
     cases sz with
     |none=>
      obtain⟨hd',hlt⟩:=hpd
      refine⟨.dat av (eK off z.tags),f off,by simp only[he,Instr.loadAt,Instr.sureAddr,Sem.run_bind,Sem.run_pure,Result.andThen_ok];exact kI ht (hf off hlt),⟨hd',fun q hq=>htg off q hq⟩,?_,h⟩
      cases hq:eK off z.tags with
      |none=>trivial
      |some q=>exact h4 off q hq
     |some n=>
      obtain⟨hle,hd'⟩:=hpd
      refine⟨.dat av none,_,by simp only[he,Instr.loadAt,Instr.sureAddr,Sem.run_bind,Sem.run_pure,Result.andThen_ok];exact kH ht (fun j hj=>hf (off+j) (by omega)),⟨hd',fun q hq=>by cases hq⟩,trivial,h⟩
  |rp cs=>
   simp only[aG]at h
   cases hp:bF cs 0 sz with
   |none=>rw[hp]at h;exact h.elim
   |some av=>
    rw[hp]at h;obtain⟨B,off,f,he,hs,_,hf,hd⟩:=hr
    have hpd:=BD hs hd hp
    have hget:∀j,j<cs.length->w.cell? ⟨B,off+j,none⟩=some (f j):=fun j hj=>hf j cs[j] (List.getElem?_eq_getElem hj)
    cases sz with
    |none=>
     obtain⟨hd',hlt⟩:=hpd
     refine⟨.dat av none,f 0,by simp only[he,Instr.loadAt,Instr.sureAddr,Sem.run_bind,Sem.run_pure,Result.andThen_ok];exact kI ht (hget 0 hlt),⟨hd',fun q hq=>by cases hq⟩,trivial,h⟩
    |some n=>
     obtain⟨hle,hd'⟩:=hpd
     refine⟨.dat av none,_,by simp only[he,Instr.loadAt,Instr.sureAddr,Sem.run_bind,Sem.run_pure,Result.andThen_ok];exact kH ht (fun j hj=>hget j (by omega)),⟨by simpa using hd',fun q hq=>by cases hq⟩,trivial,h⟩
theorem BE{w:World} {π:Nat->Nat->Prop} {av:AV} {u:Value} (h:DV w π av u) (hs:av.scalar=true):u.cells.toList=[u]:=by
 cases h<;>first|rfl|(simp[AV.scalar]at hs)
theorem iB{α:Type} (l ps:List α) (off:Nat) (h:off+ps.length<=l.length) (i:Nat):
  (l.take off++ps++l.drop (off+ps.length))[i]? =if i<off then l[i]? else if i<off+ps.length then ps[i-off]? else l[i]?:=by
 have hl:(l.take off).length=off:=by simp;omega
 by_cases h1:i<off
 ·rw[if_pos h1,List.append_assoc,List.getElem?_append_left (by omega),List.getElem?_take,if_pos h1]
 ·rw[if_neg h1]
  by_cases h2:i<off+ps.length
  ·rw[if_pos h2,List.append_assoc,List.getElem?_append_right (by omega),List.getElem?_append_left (by omega),hl]
  ·rw[if_neg h2,List.getElem?_append_right (by simp;omega),List.getElem?_drop]
   congr 1
   simp;omega
theorem yz{l:List (Nat×Nat)} {p:Nat×Nat->Bool} {o q:Nat} (h:eK o (l.filter p)=some q) (hp:∀x:Nat×Nat,p x=p (x.1,0)):eK o l=some q/\p (o,0)=true:=by
 induction l with
 |nil=>simp[eK]at h
 |cons x r ih=>
  obtain⟨m,v⟩:=x;rw[List.filter_cons]at h
  by_cases hx:p (m,v)=true
  ·rw[if_pos hx]at h
   simp only[eK]at h⊢
   by_cases e:o=m
   ·subst e;simp at h⊢;exact⟨h,by rw[<-hp (o,v)];exact hx⟩
   ·have hf:(o==m)=false:=by simpa using e
    simp only[hf,cond_false]at h⊢;exact ih h
  ·rw[if_neg hx]at h
   obtain⟨h1,h2⟩:=ih h;refine⟨?_,h2⟩;simp only[eK]
   have e:o≠m:=fun e=>hx (by subst e;rw[hp (o,v)];exact h2)
   have hf:(o==m)=false:=by simpa using e
   simp only[hf,cond_false];exact h1
theorem Rel.store(R:Rel P nt n0 w0 π0 U s a w β τ π) {t:TypeId} {X V:Operand} {x v:bE} {z:Nat} (hx:cn X=some x) (hv:cn V=some v) (ht:fq P t=some z) {id:Nat} {K:SV->S->Prop}
  (h:bN (Pure P) id (.st x v z) K s):∃s' w',(Instr.storeAt t (a.eval X) (a.eval V)).run P w=.ok () w'/\K .undef s'/\Rel P nt n0 w0 π0 U s' a w' β τ π:=by
 simp only[bN]at h
 cases ho:Eng.bM s x with
 |none=>rw[ho]at h;exact h.elim
 |some p=>
  rw[ho]at h;obtain⟨hr,hu⟩:=R.bM hx ho
  cases p with
  |dat b q=>exact h.elim
  |undef=>exact h.elim
  |vs _ _ _ _=>exact h.elim
  |nD _ _ _=>exact h.elim
  |raw _ _=>exact h.elim
  |pt _ _=>exact h.elim
  |rp cs=>exact h.elim
  |ptr b off=>
   simp only[aG]at h
   cases hb:ct b s.boxes with
   |none=>rw[hb]at h;exact h.elim
   |some y=>
    rw[hb]at h;simp only[aG]at h
    cases hov:Eng.bM s v with
    |none=>rw[hov]at h;exact h.elim
    |some u=>
     rw[hov]at h
     cases u with
     |undef=>exact h.elim
     |vs _ _ _ _=>exact h.elim
     |nD _ _ _=>exact h.elim
     |raw _ _=>exact h.elim
     |pt _ _=>exact h.elim
     |rp cs=>exact h.elim
     |ptr _ _=>exact h.elim
     |dat av q=>
      simp only[aG]at h;obtain⟨hok,hlen,hfit,hK⟩:=h;obtain⟨⟨hdv,htag⟩,huv⟩:=R.bM hv hov
      have he:a.eval X=.pointer (some ⟨β b,off,none⟩):=hr
      obtain⟨h1,h2,⟨cur,el,hh,hcd,hcs,hct,hnp⟩,h4⟩:=R.boxes b y hb
      have hsz:y.cells.length<=cur.size:=by have:=hcd.1;simp at this;omega
      have htup':∀vs,av≠.qf vs:=fun vs e=>by subst e;simp[jq]at hok
      obtain⟨hds,hsc⟩:=hdv.cells htup'
      have hvl:(a.eval V).cells.toList.length=z:=by rw[<-hds.1];exact hlen
      have hone:∀u∈(a.eval V).cells.toList,u.oneCell'=true:=by
       intro u hu
       obtain⟨i,hi⟩:=List.mem_iff_getElem?.1 hu
       have hil:i<av.cells.length:=by
        rw[hds.1]
        rcases Nat.lt_or_ge i (a.eval V).cells.toList.length with h|h
        ·exact h
        ·rw[List.getElem?_eq_none h]at hi;cases hi
       have hx':=List.getElem?_eq_getElem hil
       exact(hds.2 i _ _ hx' hi).Fj (hsc _ (List.getElem_mem hil))
      have hst:=run_storeCells_at (P:=P) (β b) off el (a.eval V).cells.toList 0 cur w hh (by rw[hvl];omega) hone
      simp only[Nat.add_zero]at hst
      have hrun:(Instr.storeAt t (a.eval X) (a.eval V)).run P w=.ok () (w.setRow (β b) (cur.toList.take off++(a.eval V).cells.toList++cur.toList.drop (off+(a.eval V).cells.toList.length)).toArray):=by
       have hz2:(a.eval V).cells.size=z:=by simpa using hvl
       simp[he,Instr.storeAt,Instr.sureAddr,storeVar,dN (w:=w) ht,hz2,hst]
      refine⟨_,_,hrun,hK,R.HV hb hh ?_ ?_ ?_⟩
      ·--cells
       have hsl:(setCells y.cells off av.cells).length=y.cells.length:=by simp[setCells];omega
       refine⟨?_,fun i c u hc hu=>?_⟩
       ·simp only[hsl];simp only[List.length_take,List.length_append,List.length_drop,Array.length_toList,hvl];omega
       ·simp only[hsl]at hu
        have hil:i<y.cells.length:=by
         rcases Nat.lt_or_ge i (setCells y.cells off av.cells).length with h|h
         ·omega
         ·simp only[]at hc;rw[List.getElem?_eq_none h]at hc;cases hc
        rw[List.getElem?_take_of_lt hil]at hu
        rw[iB _ _ _ (by rw[hvl];simp;omega)]at hu
        simp only[setCells]at hc
        rw[iB _ _ _ (by omega)]at hc
        rw[hvl]at hu;rw[hlen]at hc;split at hc
        ·rename_i hi;rw[if_pos hi]at hu;exact hcd.2 i c u hc (by rw[List.getElem?_take_of_lt hil];exact hu)
        ·rename_i hi
         rw[if_neg hi]at hu;split at hc
         ·rename_i hi2;rw[if_pos hi2]at hu;exact hds.2 _ c u hc hu
         ·rename_i hi2;rw[if_neg hi2]at hu;exact hcd.2 i c u hc (by rw[List.getElem?_take_of_lt hil];exact hu)
      ·intro c hc
       simp only[setCells,List.mem_append]at hc
       rcases hc with(hc|hc)|hc
       ·exact hcs c (List.mem_of_mem_take hc)
       ·exact hsc c hc
       ·exact hcs c (List.mem_of_mem_drop hc)
      ·intro o q' hq'
       have hfil:∀(o q':Nat),eK o (y.tags.filter fun p=>p.1<off||off+z<=p.1)=some q'->(cur.toList.take off++(a.eval V).cells.toList++cur.toList.drop (off+(a.eval V).cells.toList.length)).toArray[o]? =some (τ q')/\U q':=by
        intro o q' hq'
        obtain⟨hq1,hq2⟩:=yz hq' (fun x=>rfl)
        refine⟨?_,h4 o q' hq1⟩
        have:=hct o q' hq1
        rw[List.getElem?_toArray,iB _ _ _ (by rw[hvl];simp;omega),hvl]
        simp at hq2;split
        ·simpa using this
        ·rw[if_neg (by omega)];simpa using this
       cases q with
       |none=>exact hfil o q' hq'
       |some q=>
        simp only[eK]at hq'
        by_cases e:o=off
        ·subst e
         simp at hq';subst hq'
         have hsc1:av.scalar=true:=by cases av<;>simp_all [jq,AV.scalar]
         have hz1:(a.eval V).cells.toList=[a.eval V]:=BE hdv hsc1
         refine⟨?_,huv⟩
         rw[List.getElem?_toArray,iB _ _ _ (by rw[hvl];simp;omega),hz1]
         simp only[List.length_singleton,Nat.lt_irrefl,if_false,Nat.lt_add_one,if_true,Nat.sub_self]
         simpa using htag q rfl
        ·have hf:(o==off)=false:=by simpa using e
         simp only[hf,cond_false]at hq';exact hfil o q' hq'
end ops
open Go.RowKit (Below)
section
variable{P:Program} {w:World} {π:Nat->Nat->Prop}
theorem DV.K4{k:IntKind} {n:Int} {v:Value} (h:DV w π (.int k n) v):v=.int k n:=by cases h;rfl
theorem DV.qB{b:Bool} {v:Value} (h:DV w π (.bool b) v):v=.bool b:=by cases h;rfl
theorem qC{op:BinOp} {k:IntKind} {x y n:Int} (h:wT op k x y=some n):(Op.intBits op k x y).run P w=.ok (.int k n) w:=by
 unfold wT at h;unfold Op.intBits
 split at h<;>first|(cases h;rfl)|cases h
theorem K5{op:BinOp} {k:IntKind} {x y:Int} {v:AV} (hs1:op≠.shl) (hs2:op≠.shr) (h:qg op k x y=some v) (t:TypeId):∃u,(binOp op t (.int k x) (.int k y)).run P w=.ok u w/\DV w π v u:=by
 cases op<;>simp only[qg]at h
 case add=>cases h;exact⟨_,by simp[binOp,Op.intArith],.int _ _⟩
 case sub=>cases h;exact⟨_,by simp[binOp,Op.intArith],.int _ _⟩
 case mul=>cases h;exact⟨_,by simp[binOp,Op.intArith],.int _ _⟩
 case quo=>
  split at h
  ·cases h
  ·rename_i hy;cases h;exact⟨_,by simp[binOp,Op.intDiv,hy],.int _ _⟩
 case rem=>
  split at h
  ·cases h
  ·rename_i hy;cases h;exact⟨_,by simp[binOp,Op.intDiv,hy],.int _ _⟩
 case and=>simp only[Option.map_eq_some_iff]at h;obtain⟨n,hn,rfl⟩:=h;exact⟨_,by simp only[binOp,ne_eq,not_true_eq_false,if_false];exact qC hn,.int _ _⟩
 case or=>simp only[Option.map_eq_some_iff]at h;obtain⟨n,hn,rfl⟩:=h;exact⟨_,by simp only[binOp,ne_eq,not_true_eq_false,if_false];exact qC hn,.int _ _⟩
 case xor=>simp only[Option.map_eq_some_iff]at h;obtain⟨n,hn,rfl⟩:=h;exact⟨_,by simp only[binOp,ne_eq,not_true_eq_false,if_false];exact qC hn,.int _ _⟩
 case andNot=>simp only[Option.map_eq_some_iff]at h;obtain⟨n,hn,rfl⟩:=h;exact⟨_,by simp only[binOp,ne_eq,not_true_eq_false,if_false];exact qC hn,.int _ _⟩
 case shl=>exact absurd rfl hs1
 case shr=>exact absurd rfl hs2
 case eql=>cases h;exact⟨_,by simp[binOp,Op.intCmp],.bool _⟩
 case neq=>cases h;exact⟨_,by simp[binOp,Op.intCmp],.bool _⟩
 case lss=>cases h;exact⟨_,by simp[binOp,Op.intCmp],.bool _⟩
 case leq=>cases h;exact⟨_,by simp[binOp,Op.intCmp],.bool _⟩
 case gtr=>cases h;exact⟨_,by simp[binOp,Op.intCmp],.bool _⟩
 case geq=>cases h;exact⟨_,by simp[binOp,Op.intCmp],.bool _⟩
theorem AD{op:BinOp} {k:IntKind} {x y:Int} {v:AV} (h:qm op k x y=some v):∃u,(∀k':IntKind,(Op.shift op k x k' y).run P w=.ok u w)/\DV w π v u:=by
 unfold qm at h;split at h
 ·cases h
 ·rename_i hy
  split at h
  ·cases h;exact⟨_,by simp[Op.shift,hy],.int _ _⟩
  ·cases h;exact⟨_,by simp[Op.shift,hy],.int _ _⟩
  ·cases h
theorem qD{n:Nat} (h:Bw n=true):∃s p,FloatKind.f64.format.read n=.nan s p:=by
 unfold Bw FloatKind.decode at h;split at h
 ·rename_i s p hh;exact⟨s,p,hh⟩
 ·cases h
theorem K6(x y t:Nat):(Question.nanBits .f64 x y).cut t=(t%2)*9223372036854775808+9218868437227405312+1+(t/2)%4503599627370495:=by
 simp only[Question.cut,Nat.reducePow,Nat.reduceSub]
theorem HW(f:Ieee.Format) (n:Nat) (h1:f.infRung<n%f.signWeight) (h2:f.binade<=f.infRung):f.read n=.nan (n/f.signWeight%2==1) (n%f.signWeight-f.infRung):=by
 unfold Ieee.Format.read
 rw[if_neg (by omega),if_neg (by omega),if_neg (by omega)]
theorem Oq(n:Nat) (h1:Ieee.double.infRung<n%Ieee.double.signWeight):Bw n=true:=by
 unfold Bw FloatKind.decode
 rw[show FloatKind.f64.format=Ieee.double from rfl,HW _ _ h1 (by decide+kernel)]
theorem HX(a m k i s:Nat) (hs:s=k+i) (ha:a<2) (hm:i+1+m<s):i<(a*s+i+1+m)%s:=by
 have h:a=0\/a=1:=by omega
 rcases h with rfl|rfl
 ·rw[show 0*s+i+1+m=i+1+m by omega,Nat.mod_eq_of_lt hm];omega
 ·rw[show 1*s+i+1+m=s+(i+1+m)by omega,Nat.add_mod_left,Nat.mod_eq_of_lt hm];omega
theorem wV(x y t:Nat):Bw ((Question.nanBits .f64 x y).cut t)=true:=by
 apply Oq
 rw[K6]
 have hs:Ieee.double.signWeight=9223372036854775808:=by decide+kernel
 have hi:Ieee.double.infRung=9218868437227405312:=by decide+kernel
 rw[hs,hi]
 have:=Nat.mod_lt (t/2) (y:=4503599627370495) (by decide)
 generalize t/2%4503599627370495=m at*
 exact HX _ _ 4503599627370496 _ _ (by decide) (Nat.mod_lt _ (by decide)) (by omega)
def NU(w w':World):Prop:=w'=w\/w'=w.drew
theorem NU.dv{w w':World} {π:Nat->Nat->Prop} (h:NU w w') {v:AV} {u:Value} (hd:DV w π v u):DV w' π v u:=by
 rcases h with rfl|rfl
 ·exact hd
 ·exact DV.mono (w:=w) (w':=w.drew) (π:=π) (fun _ _ h=>h) (fun _ _ _=>rfl) hd
theorem ov{op:BinOp} {x y:Nat} (hop:op=.add/\FloatKind.f64.format.add x y=none\/op=.sub/\FloatKind.f64.format.sub x y=none\/op=.mul/\FloatKind.f64.format.mul x y=none\/op=.quo/\FloatKind.f64.format.div x y=none) (t:TypeId):
  ∃u,(binOp op t (.float .f64 x) (.float .f64 y)).run P w=.ok u w.drew/\DV w π .iw u:=by
 rcases hop with⟨rfl,h⟩|⟨rfl,h⟩|⟨rfl,h⟩|⟨rfl,h⟩<;>
 exact⟨.float .f64 ((Question.nanBits .f64 x y).cut (w.tape w.drawn (Question.nanBits .f64 x y))),by simp[binOp,Op.floatArith,h,run_choose_drew,Question.forced],.iw _ (wV _ _ _)⟩
theorem Gi{op:BinOp} {k:FloatKind} {x y:Nat} {v:AV} (h:yh op k x y=some v) (t:TypeId):∃u w',NU w w'/\(binOp op t (.float k x) (.float k y)).run P w=.ok u w'/\DV w π v u:=by
 have ar:∀(o:Option Nat),Ee k o=some v->(∃r,o=some r/\v=.float k r)\/(o=none/\k=.f64/\v=.iw):=by
  intro o ho
  cases o with
  |some r=>left;cases k<;>(simp only[Ee,Option.some.injEq]at ho;exact⟨r,rfl,ho.symm⟩)
  |none=>
   cases k
   ·cases ho
   ·right;simp only[Ee,Option.some.injEq]at ho;exact⟨rfl,rfl,ho.symm⟩
 cases op<;>simp only[yh]at h<;>try(cases h;done)
 case add=>
  rcases ar _ h with⟨n,hn,rfl⟩|⟨hn,rfl,rfl⟩
  ·exact⟨_,w,.inl rfl,by simp[binOp,Op.floatArith,hn],.float _ _⟩
  ·obtain⟨u,hu,hd⟩:=ov (P:=P) (w:=w) (π:=π) (op:=.add) (.inl ⟨rfl,hn⟩) t
   exact⟨u,_,.inr rfl,hu,hd⟩
 case sub=>
  rcases ar _ h with⟨n,hn,rfl⟩|⟨hn,rfl,rfl⟩
  ·exact⟨_,w,.inl rfl,by simp[binOp,Op.floatArith,hn],.float _ _⟩
  ·obtain⟨u,hu,hd⟩:=ov (P:=P) (w:=w) (π:=π) (op:=.sub) (.inr (.inl ⟨rfl,hn⟩)) t
   exact⟨u,_,.inr rfl,hu,hd⟩
 case mul=>
  rcases ar _ h with⟨n,hn,rfl⟩|⟨hn,rfl,rfl⟩
  ·exact⟨_,w,.inl rfl,by simp[binOp,Op.floatArith,hn],.float _ _⟩
  ·obtain⟨u,hu,hd⟩:=ov (P:=P) (w:=w) (π:=π) (op:=.mul) (.inr (.inr (.inl ⟨rfl,hn⟩))) t
   exact⟨u,_,.inr rfl,hu,hd⟩
 case quo=>
  rcases ar _ h with⟨n,hn,rfl⟩|⟨hn,rfl,rfl⟩
  ·exact⟨_,w,.inl rfl,by simp[binOp,Op.floatArith,hn],.float _ _⟩
  ·obtain⟨u,hu,hd⟩:=ov (P:=P) (w:=w) (π:=π) (op:=.quo) (.inr (.inr (.inr ⟨rfl,hn⟩))) t
   exact⟨u,_,.inr rfl,hu,hd⟩
 all_goals(cases h;exact⟨_,w,.inl rfl,by simp[binOp,Op.floatCmp],.bool _⟩)
theorem Fm{a b:Ieee.Datum} (h:(∃s p,a=.nan s p)\/∃s p,b=.nan s p):a.sum b=none:=by
 rcases h with⟨s,p,rfl⟩|⟨s,p,rfl⟩<;>first|rfl|(cases a<;>rfl)
theorem CN{a b:Ieee.Datum} (h:(∃s p,a=.nan s p)\/∃s p,b=.nan s p):a.product b=none:=by
 rcases h with⟨s,p,rfl⟩|⟨s,p,rfl⟩<;>first|rfl|(cases a<;>rfl)
theorem BF{d:Nat} {a b:Ieee.Datum} (h:(∃s p,a=.nan s p)\/∃s p,b=.nan s p):a.quotient d b=none:=by
 rcases h with⟨s,p,rfl⟩|⟨s,p,rfl⟩<;>first|rfl|(cases a<;>rfl)
theorem rU{a b:Ieee.Datum} (h:(∃s p,a=.nan s p)\/∃s p,b=.nan s p):a.order b=none:=by
 rcases h with⟨s,p,rfl⟩|⟨s,p,rfl⟩<;>first|rfl|(cases a<;>rfl)
theorem BG{op:BinOp} {x y:Nat} {v:AV} (hn:Bw x=true\/Bw y=true) (h:HF op=some v) (t:TypeId):∃u w',NU w w'/\(binOp op t (.float .f64 x) (.float .f64 y)).run P w=.ok u w'/\DV w π v u:=by
 have hr:(∃s p,FloatKind.f64.format.read x=.nan s p)\/∃s p,FloatKind.f64.format.read y=.nan s p:=hn.imp qD qD
 have hopp:∀d:Ieee.Datum,(∃s p,d=.nan s p)->∃s p,d.opposite=.nan s p:=fun d ⟨s,p,h⟩=>by subst h;exact⟨_,_,rfl⟩
 have ho:FloatKind.f64.format.order x y=none:=rU hr
 have arith:∀o:BinOp,(o=.add\/o=.sub\/o=.mul\/o=.quo)->v=.iw->op=o->∃u w',NU w w'/\(binOp op t (.float .f64 x) (.float .f64 y)).run P w=.ok u w'/\DV w π v u:=by
  intro o ho hv he;subst he hv
  have:op=.add/\FloatKind.f64.format.add x y=none\/op=.sub/\FloatKind.f64.format.sub x y=none\/op=.mul/\FloatKind.f64.format.mul x y=none\/op=.quo/\FloatKind.f64.format.div x y=none:=by
   rcases ho with rfl|rfl|rfl|rfl
   ·exact .inl ⟨rfl,by simp[Ieee.Format.add,Fm hr]⟩
   ·exact .inr (.inl ⟨rfl,by simp[Ieee.Format.sub,Fm (hr.imp id (hopp _))]⟩)
   ·exact .inr (.inr (.inl ⟨rfl,by simp[Ieee.Format.mul,CN hr]⟩))
   ·exact .inr (.inr (.inr ⟨rfl,by simp[Ieee.Format.div,BF hr]⟩))
  obtain⟨u,hu,hd⟩:=ov (P:=P) (w:=w) (π:=π) this t
  exact⟨u,_,.inr rfl,hu,hd⟩
 cases op<;>simp only[HF,Option.some.injEq]at h<;>try(cases h;done)
 case add=>exact arith .add (.inl rfl) h.symm rfl
 case sub=>exact arith .sub (.inr (.inl rfl)) h.symm rfl
 case mul=>exact arith .mul (.inr (.inr (.inl rfl))) h.symm rfl
 case quo=>exact arith .quo (.inr (.inr (.inr rfl))) h.symm rfl
 all_goals(subst h;exact⟨_,w,.inl rfl,by simp[binOp,Op.floatCmp,ho],.bool _⟩)
theorem HY{P:Program} {w:World} {t:TypeId} (h:P.underlying t=some .bool) (x y:Bool):(Op.equal t (.bool x) (.bool y)).run P w=.ok (x==y) w:=by
 exact run_equalIn_bool' w 9999 t x y h
theorem gX(op:BinOp) (t:TypeId) (X Y:Operand) {x y:Value} (h1:∀u,x≠.agg u) (h2:x≠.nilIface):(eqGuard op t X Y x y).run P w=.ok () w:=by
 unfold eqGuard
 cases x<;>first|exact absurd rfl h2|exact absurd rfl (h1 _)|(cases op<;>rfl)
theorem K7{op:BinOp} {t:TypeId} (ht:Fg P t=true) {a b v:AV} {X Y:Operand} {x y:Value} (h:ez op a b=some v) (ha:DV w π a x) (hb:DV w π b y):
  ∃u w',NU w w'/\(do eqGuard op t X Y x y;binOp op t x y:Sem Value).run P w=.ok u w'/\DV w π v u:=by
 unfold ez at h;split at h
 ·cases ha;cases hb
  obtain⟨u,hu,hd⟩:=AD (P:=P) (w:=w) (π:=π) h
  refine⟨u,w,.inl rfl,?_,hd⟩
  rw[Sem.run_bind,gX _ _ _ _ (fun _ h=>by cases h) (fun h=>by cases h)]
  exact hu .i64
 ·cases ha;cases hb
  obtain⟨u,hu,hd⟩:=AD (P:=P) (w:=w) (π:=π) h
  refine⟨u,w,.inl rfl,?_,hd⟩
  rw[Sem.run_bind,gX _ _ _ _ (fun _ h=>by cases h) (fun h=>by cases h)]
  exact hu .i64
 ·rename_i hs1 hs2
  split at h
  ·rename_i hk
   subst hk;cases ha;cases hb
   obtain⟨u,hu,hd⟩:=K5 (P:=P) (w:=w) (π:=π) (fun e=>hs1 e) (fun e=>hs2 e) h t
   refine⟨u,w,.inl rfl,?_,hd⟩
   rw[Sem.run_bind,gX _ _ _ _ (fun _ h=>by cases h) (fun h=>by cases h)]
   exact hu
  ·cases h
 ·split at h
  ·rename_i hk
   subst hk;cases ha;cases hb
   obtain⟨u,w',hw',hu,hd⟩:=Gi (P:=P) (w:=w) (π:=π) h t
   refine⟨u,w',hw',?_,hd⟩
   rw[Sem.run_bind,gX _ _ _ _ (fun _ h=>by cases h) (fun h=>by cases h)]
   exact hu
  ·cases h
 ·cases ha with
  |iw n hn=>
   cases hb
   obtain⟨u,w',hw',hu,hd⟩:=BG (P:=P) (w:=w) (π:=π) (.inl hn) h t
   refine⟨u,w',hw',?_,hd⟩
   rw[Sem.run_bind,gX _ _ _ _ (fun _ h=>by cases h) (fun h=>by cases h)]
   exact hu
 ·cases hb with
  |iw n hn=>
   cases ha
   obtain⟨u,w',hw',hu,hd⟩:=BG (P:=P) (w:=w) (π:=π) (.inr hn) h t
   refine⟨u,w',hw',?_,hd⟩
   rw[Sem.run_bind,gX _ _ _ _ (fun _ h=>by cases h) (fun h=>by cases h)]
   exact hu
 ·cases ha with
  |iw n hn=>
   cases hb
   obtain⟨u,w',hw',hu,hd⟩:=BG (P:=P) (w:=w) (π:=π) (.inl hn) h t
   refine⟨u,w',hw',?_,hd⟩
   rw[Sem.run_bind,gX _ _ _ _ (fun _ h=>by cases h) (fun h=>by cases h)]
   exact hu
 ·cases h
theorem Ot{op:BinOp} {neg:Bool} (hop:(op=.eql/\neg=false)\/(op=.neq/\neg=true)) {t:TypeId} (ht:HL P t=true) {a b v:AV} {X Y:Operand} {x y:Value} (h:RQ neg a b=some v) (ha:DV w π a x) (hb:DV w π b y):
  ∃u,(do eqGuard op t X Y x y;binOp op t x y:Sem Value).run P w=.ok u w/\DV w π v u:=by
 have hu:P.underlying t=some .bool:=by
  unfold HL at ht;split at ht
  ·assumption
  ·cases ht
 unfold RQ at h;split at h
 ·cases ha;cases hb;cases h
  rename_i x y
  have hr:=HY (w:=w) hu x y
  rcases hop with⟨rfl,rfl⟩|⟨rfl,rfl⟩
  ·refine⟨.bool (x==y),?_,.bool _⟩
   rw[Sem.run_bind,gX _ _ _ _ (fun _ h=>by cases h) (fun h=>by cases h)]
   simp[binOp,hr]
  ·refine⟨.bool (x !=y),?_,.bool _⟩
   rw[Sem.run_bind,gX _ _ _ _ (fun _ h=>by cases h) (fun h=>by cases h)]
   simp[binOp,hr,bne]
 ·cases h
theorem Ou{op:UnOp} {a v:AV} {x:Value} (h:Og op a=some v) (ha:DV w π a x):∃u,(Op.unary op x).run P w=.ok u w/\DV w π v u:=by
 unfold Og at h;split at h
 ·cases ha;cases h;exact⟨_,rfl,.int _ _⟩
 ·cases ha
  simp only[Option.map_eq_some_iff]at h;obtain⟨n,hn,rfl⟩:=h;exact⟨_,qC hn,.int _ _⟩
 ·cases ha;cases h;exact⟨_,rfl,.float _ _⟩
 ·cases ha;cases h;exact⟨_,rfl,.bool _⟩
 ·cases h
theorem HZ{s d:TypeId} {X:Operand} {xo:bE} {c:bR} (hc:CH P s d xo=some c) {a v:AV} {x:Value} (ha:DV w π a x)
  (h:(∃k,c=.j4 k xo/\Az k a=some v)\/(∃k,c=.Ak k xo/\yj k a=some v)\/(∃k,c=.Bp k xo/\uC k a=some v)):
  ∃u,(convert s d x).run P w=.ok u w/\DV w π v u:=by
 unfold CH at hc;split at hc
 ·rename_i k1 k2 hs hd
  cases hc
  rcases h with⟨k,e,h⟩|⟨k,e,h⟩|⟨k,e,h⟩<;>try(cases e;done)
  cases e;unfold Az at h;split at h
  ·cases ha;cases h
   exact⟨_,by simp[convert,run_underlying hs,run_underlying hd,Conv.intToInt],.int _ _⟩
  ·cases h
 ·rename_i k1 k2 hs hd
  cases hc
  rcases h with⟨k,e,h⟩|⟨k,e,h⟩|⟨k,e,h⟩<;>try(cases e;done)
  cases e;unfold yj at h;split at h
  ·cases ha;cases h
   exact⟨_,by simp[convert,run_underlying hs,run_underlying hd,Conv.intToFloat],.float _ _⟩
  ·cases h
 ·rename_i k1 k2 hs hd
  cases hc
  rcases h with⟨k,e,h⟩|⟨k,e,h⟩|⟨k,e,h⟩<;>try(cases e;done)
  cases e;unfold uC at h;split at h
  ·rename_i sk bb
   cases ha;split at h
   ·rename_i n hn
    split at h
    ·rename_i hr
     cases h
     exact⟨_,by simp[convert,run_underlying hs,run_underlying hd,Conv.floatToInt,hn,hr],.int _ _⟩
    ·cases h
   ·cases h
  ·cases h
 ·cases hc
theorem K8{t e:TypeId} (he:P.underlying t=some (.slice e)) {Ts:Array TypeId} {Xs:Array Value} {a v:AV} {x:Value} (hT:Ts[0]? =some t) (hX:Xs[0]? =some x) (ha:DV w π a x) (h:By a=some v) (ty:TypeId):
  ∃u,(Builtin.len_ Ts ty Xs).run P w=.ok u w/\DV w π v u:=by
 unfold By at h;split at h
 ·cases ha;cases h
  exact⟨_,by simp[Builtin.len_,hT,hX,run_underlying he];rfl,.int _ _⟩
 ·cases ha<;>cases h
  ·exact⟨_,by simp[Builtin.len_,hT,hX,run_underlying he];rfl,.int _ _⟩
  ·exact⟨_,by simp[Builtin.len_,hT,hX,run_underlying he];rfl,.int _ _⟩
 ·cases h
end
open Go.RowKit (Below)
section
variable{P:Program} {w:World} {π:Nat->Nat->Prop}
theorem K9{a v:AV} {i:Nat} {x:Value} (h:HG a i=some v) (ha:DV w π a x):∃u,(Instr.extract x i).run P w=.ok u w/\DV w π v u:=by
 unfold HG at h;split at h
 ·rename_i vs
  cases ha with
  |qf as us hl hd=>
   have hi:i<vs.length:=by
    rcases Nat.lt_or_ge i vs.length with h'|h'
    ·exact h'
    ·rw[List.getElem?_eq_none h']at h;cases h
   have hu:us[i]? =some us[i]!:=by
    have:i<us.size:=by omega
    simp[this]
   exact⟨_,by simp[Instr.extract,hu],hd i v _ h hu⟩
 ·cases h
theorem CP{t:TypeId} {sz:Option Nat} (ht:uJ P t=some sz) {cs:List AV} {us:Array Value} {off:Nat} {v:AV} (hl:cs.length=us.size) (hs:∀a∈cs,a.scalar=true)
  (hd:∀(i:Nat) (a:AV) (v:Value),cs[i]? =some a->us[i]? =some v->DV w π a v) (h:bF cs off sz=some v):∃u,(part t us off).run P w=.ok u w/\DV w π v u:=by
 have hpd:=BD (w:=w) (π:=π) (f:=fun j=>us.getD j undef) (fun j x hx=>hs x (List.mem_of_getElem? hx)) (fun j x hx=>by
  have hj:j<us.size:=by
   rw[<-hl]
   rcases Nat.lt_or_ge j cs.length with h'|h'
   ·exact h'
   ·rw[List.getElem?_eq_none h']at hx;cases hx
  have hu:us[j]? =some us[j]:=Array.getElem?_eq_getElem hj
  have:=hd j x _ hx hu
  simpa[hj]using this) h
 cases sz with
 |none=>
  obtain⟨d,hu,hg⟩:=CM ht
  have h1:=uL (w:=w) hu
  have hlt:off<us.size:=by have:=hpd.2;omega
  exact⟨us[off],by simp[part,h1,hg,hlt],by simpa[hlt]using hpd.1⟩
 |some n=>
  obtain⟨d,hu,hg,hz⟩:=CL ht
  have h1:=uL (w:=w) hu
  have h2:=dN (w:=w) hz
  have hle:off+n<=us.size:=by have:=hpd.1;omega
  refine⟨.agg (us.extract off (off+n)),by simp[part,h1,hg,h2],?_⟩
  have:us.extract off (off+n)=((List.range n).map fun j=>us.getD (off+j) undef).toArray:=by
   apply Array.ext
   ·simp;omega
   ·intro i h1 h2
    simp at h2
    have:off+i<us.size:=by omega
    simp[this]
  rw[this];exact hpd.2
inductive tQ (w:World):World->Prop
 |refl:tQ w w
 |step {w':World}:tQ w w'->tQ w w'.drew
theorem tQ.dv{w w':World} {π:Nat->Nat->Prop} (h:tQ w w') {v:AV} {u:Value} (hd:DV w π v u):DV w' π v u:=by
 induction h with
 |refl=>exact hd
 |step _ ih=>exact NU.dv (Or.inr rfl) ih
theorem tQ.XP{w w':World} {π:Nat->Nat->Prop} (h:tQ w w') {v:List AV} {u:List Value} (hd:jr w π v u):jr w' π v u:=
 ⟨hd.1,fun i a v h1 h2=>h.dv (hd.2 i a v h1 h2)⟩
theorem tQ.trans{w w' w'':World} (h:tQ w w') (h':tQ w' w''):tQ w w'':=by
 induction h' with
 |refl=>exact h
 |step _ ih=>exact .step ih
theorem AE(mx:Bool) (x y t:Nat):Bw ((Question.nanMinMax .f64 mx x y).cut t)=true:=by
 have e:(Question.nanMinMax .f64 mx x y).cut t=(Question.nanBits .f64 x y).cut t:=by simp only[Question.cut]
 rw[e];exact wV x y t
theorem Ov{mx:Bool} {x y:Nat} (h:FloatKind.f64.format.order x y=none):
  ∃u,((if mx then Builtin.max2 (.float .f64 x) (.float .f64 y)else Builtin.min2 (.float .f64 x) (.float .f64 y)):Sem Value).run P w=.ok u w.drew/\DV w π .iw u:=by
 cases mx
 ·exact⟨.float .f64 ((Question.nanMinMax .f64 false x y).cut (w.tape w.drawn (Question.nanMinMax .f64 false x y))),by simp[Builtin.min2,h,run_choose_drew,Question.forced],.iw _ (AE _ _ _ _)⟩
 ·exact⟨.float .f64 ((Question.nanMinMax .f64 true x y).cut (w.tape w.drawn (Question.nanMinMax .f64 true x y))),by simp[Builtin.max2,h,run_choose_drew,Question.forced],.iw _ (AE _ _ _ _)⟩
theorem La{mx:Bool} {a b v:AV} {x y:Value} (h:NP mx a b=some v) (ha:DV w π a x) (hb:DV w π b y):
  ∃u w',tQ w w'/\((if mx then Builtin.max2 x y else Builtin.min2 x y):Sem Value).run P w=.ok u w'/\DV w π v u:=by
 have nan:∀n m:Nat,FloatKind.f64.format.order n m=none->v=.iw->x=.float .f64 n->y=.float .f64 m->∃u w',tQ w w'/\((if mx then Builtin.max2 x y else Builtin.min2 x y):Sem Value).run P w=.ok u w'/\DV w π v u:=by
  intro n m ho hv hx hy;subst hv hx hy
  obtain⟨u,hu,hd⟩:=Ov (P:=P) (w:=w) (π:=π) (mx:=mx) ho
  exact⟨u,_,.step .refl,hu,hd⟩
 unfold NP at h;split at h
 ·cases ha;cases hb;cases h
  cases mx<;>exact⟨_,w,.refl,rfl,.int _ _⟩
 ·split at h
  ·rename_i hk
   subst hk;cases ha;cases hb;rename_i k x y;split at h
   ·rename_i ho
    split at h
    ·rename_i hk;subst hk;cases h;exact nan _ _ ho rfl rfl rfl
    ·cases h
   ·rename_i ho;cases h;cases mx<;>exact⟨_,w,.refl,by simp[Builtin.max2,Builtin.min2,ho],.float _ _⟩
   ·rename_i ho;cases h;cases mx<;>exact⟨_,w,.refl,by simp[Builtin.max2,Builtin.min2,ho],.float _ _⟩
   ·rename_i ho;cases h;cases mx<;>exact⟨_,w,.refl,by simp[Builtin.max2,Builtin.min2,ho],.float _ _⟩
  ·cases h
 ·cases h;cases ha;cases hb
  exact nan _ _ (rU (.inl (qD (by assumption)))) rfl rfl rfl
 ·cases h;cases ha;cases hb
  exact nan _ _ (rU (.inr (qD (by assumption)))) rfl rfl rfl
 ·cases h
  cases ha with
  |iw n hn=>cases hb with
   |iw m hm=>exact nan _ _ (rU (.inl (qD hn))) rfl rfl rfl
 ·cases h
theorem Ej{mx:Bool}:∀{as:List AV} {us:List Value} {a v:AV} {x:Value} {w:World},as.foldlM (NP mx) a=some v->DV w π a x->jr w π as us->
  ∃u w',tQ w w'/\(us.foldlM (fun p q=>if mx then Builtin.max2 p q else Builtin.min2 p q) x:Sem Value).run P w=.ok u w'/\DV w' π v u
 |[],us,a,v,x,w,h,ha,hs=>by
  have:us=[]:=List.eq_nil_of_length_eq_zero (by simpa using hs.1.symm)
  subst this;simp at h;subst h;exact⟨x,w,.refl,rfl,ha⟩
 |b::as,us,a,v,x,w,h,ha,hs=>by
  cases us with
  |nil=>have:=hs.1;simp at this
  |cons y us=>
   simp only[List.foldlM_cons,Option.bind_eq_bind,Option.bind_eq_some_iff]at h;obtain⟨c,hc,h⟩:=h
   obtain⟨u,w1,hw1,hu,hd⟩:=La (P:=P) hc ha (hs.2 0 b y rfl rfl)
   have hs':jr w π as us:=⟨by have:=hs.1;simpa using this,fun i a v h1 h2=>hs.2 (i+1) a v (by simpa using h1) (by simpa using h2)⟩
   obtain⟨u',w2,hw2,hu',hd'⟩:=Ej h (hw1.dv hd) (hw1.XP hs')
   exact⟨u',w2,hw1.trans hw2,by simp only[List.foldlM_cons,Sem.run_bind,hu,Result.andThen_ok];exact hu',hd'⟩
end
section ops
variable{P:Program} {nt:Nat} {n0:gO} {w0:World} {π0:Nat->Nat->Prop} {U:Nat->Prop} {s:S} {a:Act} {w:World} {β:Nat->Nat} {τ:Nat->Value} {π:Nat->Nat->Prop}
theorem af{α:Type} {o:Option α} {k:α->Prop} (h:aj o k):∃x,o=some x/\k x:=by
 cases o with
 |none=>exact h.elim
 |some x=>exact⟨x,rfl,h⟩
theorem RV.Fo{cs:List AV} {v:Value} (h:RV β τ w π (.rp cs) v) (d:Nat):∃B off,v=.pointer (some ⟨B,off,none⟩)/\RV β τ w π (.rp (cs.drop d)) (.pointer (some ⟨B,off+d,none⟩)):=by
 obtain⟨B,off,f,hv,h1,h2,h3,h4⟩:=h
 refine⟨B,off,hv,B,off+d,fun j=>f (d+j),rfl,?_,?_,?_,?_⟩<;>intro j x hx<;>rw[List.getElem?_drop]at hx
 ·exact h1 _ x hx
 ·have:=h2 _ x hx;rwa[<-Nat.add_assoc]at this
 ·have:=h3 _ x hx;rwa[<-Nat.add_assoc]at this
 ·exact h4 _ x hx
theorem RV.NV{ps:List (Nat×Nat)} {v:Value} (h:RV β τ w π (.pt 2 ps) v):∃B off,v=.pointer (some ⟨B,off,none⟩)/\
  ∀(i:Nat) (p:Nat×Nat),ps[i]? =some p->π B (off+i)/\w.cell? ⟨B,off+i,none⟩=some (.pointer (some ⟨β p.1,p.2,none⟩)):=by
 obtain⟨B,off,cap,h1,h2,h3⟩:=h
 exact⟨B,off,by simpa using h1,h3⟩
theorem RV.Fp{ps:List (Nat×Nat)} {B off:Nat} (h:∀(i:Nat) (p:Nat×Nat),ps[i]? =some p->π B (off+i)/\w.cell? ⟨B,off+i,none⟩=some (.pointer (some ⟨β p.1,p.2,none⟩))):RV β τ w π (.pt 2 ps) (.pointer (some ⟨B,off,none⟩)):=
 ⟨B,off,ps.length,by simp,Nat.le_refl _,h⟩
theorem RV.Lb{ps:List (Nat×Nat)} {v:Value} (h:RV β τ w π (.pt 2 ps) v) (d:Nat):∃B off,v=.pointer (some ⟨B,off,none⟩)/\RV β τ w π (.pt 2 (ps.drop d)) (.pointer (some ⟨B,off+d,none⟩)):=by
 obtain⟨B,off,hv,h3⟩:=h.NV
 refine⟨B,off,hv,.Fp fun i p hi=>?_⟩
 rw[List.getElem?_drop]at hi
 have:=h3 _ p hi
 rwa[<-Nat.add_assoc]at this
theorem Rel.fieldAddr(R:Rel P nt n0 w0 π0 U s a w β τ π) {t:TypeId} {f:Nat} {fd:Field} {X:Operand} {x:bE} (hx:cn X=some x) (hf:uK P t f=some fd)
  (hz:¬(fq P fd.type==some 0||(fq P fd.type).isNone)=true) {id:Nat} {K:SV->S->Prop} (h:bN (Pure P) id (.fa x fd.offset) K s):
  ∃v y,(Instr.fieldAt t (a.eval X) f).run P w=.ok y w/\RV β τ w π v y/\v.gp U/\K v s:=by
 have hu:∃fs:Array Field,P.underlying t=some (.struct fs)/\fs[f]? =some fd:=by
  unfold uK at hf;split at hf
  ·exact⟨_,by assumption,hf⟩
  ·cases hf
 obtain⟨fs,hu,hfs⟩:=hu
 obtain⟨z,hz1,hz2⟩:∃z,fq P fd.type=some z/\z≠0:=by
  cases hs:fq P fd.type with
  |none=>simp[hs]at hz
  |some z=>exact⟨z,rfl,fun e=>by subst e;simp[hs]at hz⟩
 have hsz:=dN (w:=w) hz1
 have hrun:∀(B off:Nat),a.eval X=.pointer (some ⟨B,off,none⟩)->(Instr.fieldAt t (a.eval X) f).run P w=.ok (.pointer (some ⟨B,off+fd.offset,none⟩)) w:=by
  intro B off he;simp[Instr.fieldAt,run_underlying hu,hfs,he,Instr.sureAddr,fieldPlace,hsz,hz2,iA]
 simp only[bN]at h;obtain⟨p,hp,h⟩:=af h;obtain⟨hr,hU⟩:=R.bM hx hp
 cases p with
 |dat _ _=>exact h.elim
 |undef=>exact h.elim
 |vs _ _ _ _=>exact h.elim
 |nD _ _ _=>exact h.elim
 |raw _ _=>exact h.elim
 |pt k ps=>
  match k,hr,h with
  |2,hr,h=>
   obtain⟨B,off,hv,hr'⟩:=RV.Lb hr fd.offset
   exact⟨.pt 2 (ps.drop fd.offset),_,hrun _ _ hv,hr',fun p hp=>hU p (List.mem_of_mem_drop hp),h⟩
  |0,_,h=>exact h.elim
  |1,_,h=>exact h.elim
  |k+3,_,h=>exact h.elim
 |ptr b o=>exact⟨.ptr b (o+fd.offset),_,hrun _ _ hr,rfl,hU,h⟩
 |rp cs=>
  obtain⟨B,off,hv,hr'⟩:=RV.Fo hr fd.offset;exact⟨.rp (cs.drop fd.offset),_,hrun _ _ hv,hr',trivial,h⟩
theorem Rel.idx(R:Rel P nt n0 w0 π0 U s a w β τ π) {X:Operand} {x:bE} {i:Int} {b:AV} (hx:cn X=some x) (hb:Eng.aQ s x=some b) (hi:idxOf b=some i):∃k,a.eval X=.int k i:=by
 have hd:=R.aQ hx hb
 unfold idxOf at hi;split at hi
 ·rename_i k n
  cases hi;exact⟨k,hd.K4⟩
 ·cases hi
theorem Rel.H6(R:Rel P nt n0 w0 π0 U s a w β τ π) {t e:TypeId} {n z:Nat} {X I:Operand} {x i:bE} (hx:cn X=some x) (hi:cn I=some i) (ht:P.underlying t=some (.array n e)) (hz:fq P e=some z)
  {id:Nat} {K:SV->S->Prop} (h:bN (Pure P) id (.Aw x i n z) K s):
  ∃v y,(Instr.indexAt t (a.eval X) (a.eval I)).run P w=.ok y w/\RV β τ w π v y/\v.gp U/\K v s:=by
 simp only[bN]at h;obtain⟨p,hp,h⟩:=af h;obtain⟨b,hb,h⟩:=af h;obtain⟨j,hj,h⟩:=af h;obtain⟨hlt,h⟩:=h;obtain⟨k,hk⟩:=R.idx hi hb hj;obtain⟨hr,hU⟩:=R.bM hx hp
 have hsz:=dN (w:=w) hz
 have hrun:∀(B off:Nat),a.eval X=.pointer (some ⟨B,off,none⟩)->(Instr.indexAt t (a.eval X) (a.eval I)).run P w=.ok (.pointer (some ⟨B,off+j.toNat*z,none⟩)) w:=by
  intro B off he;simp[Instr.indexAt,hk,he,asIntOf,run_underlying ht,Instr.sureAddr,hlt,hsz,iA]
 cases p with
 |dat _ _=>exact h.elim
 |undef=>exact h.elim
 |vs _ _ _ _=>exact h.elim
 |nD _ _ _=>exact h.elim
 |raw _ _=>exact h.elim
 |pt _ _=>exact h.elim
 |ptr b o=>exact⟨.ptr b (o+j.toNat*z),_,hrun _ _ hr,rfl,hU,h⟩
 |rp cs=>
  obtain⟨B,off,hv,hr'⟩:=RV.Fo hr (j.toNat*z)
  exact⟨.rp (cs.drop (j.toNat*z)),_,hrun _ _ hv,hr',trivial,h⟩
theorem Rel.Lc(R:Rel P nt n0 w0 π0 U s a w β τ π) {t e:TypeId} {z:Nat} {X I:Operand} {x i:bE} (hx:cn X=some x) (hi:cn I=some i) (ht:P.underlying t=some (.slice e)) (hz:fq P e=some z)
  {id:Nat} {K:SV->S->Prop} (h:bN (Pure P) id (.CC x i z) K s):
  ∃v y,(Instr.indexAt t (a.eval X) (a.eval I)).run P w=.ok y w/\RV β τ w π v y/\v.gp U/\K v s:=by
 simp only[bN]at h;obtain⟨u,hu,h⟩:=af h
 have hsz:=dN (w:=w) hz
 cases u with
 |ptr _ _=>exact h.elim
 |rp _=>exact h.elim
 |undef=>exact h.elim
 |nD _ _ _=>exact h.elim
 |raw _ _=>exact h.elim
 |pt _ _=>exact h.elim
 |vs b off n z'=>
 obtain⟨a',hb,k2⟩:=af h;obtain⟨j,hj,hlt,rfl,hK⟩:=af k2;obtain⟨k,hk⟩:=R.idx hi hb hj;obtain⟨⟨cap,hcap,hv⟩,hU⟩:=R.bM hx hu;refine⟨.ptr b (off+j.toNat*z'),.pointer (some ⟨β b,off+j.toNat*z',none⟩),?_,rfl,hU,hK⟩;rw[hv];simp[Instr.indexAt,hk,asIntOf,run_underlying ht,hlt,hsz,iA]
 |dat l q=>
 have hl:Eng.aQ s x=some l:=by simp[Eng.aQ,hu]
 obtain⟨b,hb,k2⟩:=af h;obtain⟨j,hj,k3⟩:=af k2;obtain⟨xs,hxs,hlt,k4⟩:=af k3;obtain⟨row,hrow,hrl,hK⟩:=af k4;obtain⟨k,hk⟩:=R.idx hi hb hj
 have hd:=R.aQ hx hl
 have hl':l=.sl xs:=by
  cases l<;>simp only[rowsOf]at hxs<;>try(cases hxs;done)
  ·cases hxs;simp at hlt;omega
  ·cases hxs;rfl
 subst hl';generalize hv:a.eval X=v at hd
 cases hd with
 |HA A=>simp at hrow
 |sl _ B off cap z' f h1 h2 h3 h4 h5 h6=>
  have hzz':z'=z:=by rw[<-h2 _ _ hrow,hrl]
  subst hzz'
  refine⟨.rp row,.pointer (some ⟨B,off+j.toNat*z',none⟩),?_,⟨B,off+j.toNat*z',fun m=>f j.toNat m,rfl,?_,?_,?_,?_⟩,trivial,hK⟩
  ·simp[Instr.indexAt,hk,asIntOf,run_underlying ht,hlt,hsz,iA]
  ·intro m c hc;exact h3 _ m row c hrow hc
  ·intro m c hc;exact h4 _ m row c hrow hc
  ·intro m c hc;exact h5 _ m row c hrow hc
  ·intro m c hc;exact h6 _ m row c hrow hc
end ops
open Go.RowKit (Below)
theorem CQ:∀(vs:List Value) (cells:Array Value) (off k:Nat),off+k+vs.length<=cells.size->
  ((vs.zipIdx k).foldl (fun cs (c,j)=>cs.setIfInBounds (off+j) c) cells).toList=cells.toList.take (off+k)++vs++cells.toList.drop (off+k+vs.length)
 |[],cells,off,k,h=>by simp
 |v::vs,cells,off,k,h=>by
  simp only[List.zipIdx_cons,List.foldl_cons]
  have hk:off+k<cells.size:=by simp at h;omega
  rw[CQ vs (cells.setIfInBounds (off+k) v) off (k+1) (by simp at h⊢;omega)]
  have e:=list_seg_step cells.toList (off+k) v vs (by simp at h⊢;omega)
  simpa[Array.toList_setIfInBounds,Nat.add_assoc]using e
theorem rW{place:Nat->Option (Nat×Nat)} {cells:Array Value} {i off:Nat} {v:Value} {rest:List (Nat×Value)} (hp:place i=some (off,v.cells.size)) (hf:off+v.cells.size<=cells.size):
  ∃cells',Instr.fill place cells ((i,v)::rest)=Instr.fill place cells' rest/\cells'.toList=cells.toList.take off++v.cells.toList++cells.toList.drop (off+v.cells.toList.length)/\cells'.size=cells.size:=by
 have hl:=CQ v.cells.toList cells off 0 (by simpa using hf)
 refine⟨(v.cells.toList.zipIdx 0).foldl (fun cs (c,j)=>cs.setIfInBounds (off+j) c) cells,?_,by simpa using hl,?_⟩
 ·simp only[Instr.fill,hp]
  have hn:¬(off+v.cells.size>cells.size):=by omega
  simp only[ne_eq,not_true_eq_false,decide_false,hn,Bool.or_self,Bool.false_eq_true,if_false,bne_self_eq_false]
  congr 1
  rw[<-Array.foldl_toList];simp
 ·have:=congrArg List.length hl
  simp at this;rw[<-Array.length_toList,hl];simp;omega
section
variable{P:Program} {w:World} {π:Nat->Nat->Prop}
theorem jr.splice{cs ps:List AV} {us vs:List Value} {off:Nat} (h:jr w π cs us) (k:jr w π ps vs) (hle:off+ps.length<=cs.length):
  jr w π (cs.take off++ps++cs.drop (off+ps.length)) (us.take off++vs++us.drop (off+vs.length)):=by
 have h1:=h.1
 have h2:=k.1
 refine⟨by simp;omega,fun i c u hc hu=>?_⟩
 rw[iB _ _ _ hle]at hc
 rw[iB _ _ _ (by omega)]at hu
 rw[<-h2]at hu;split at hc
 ·rename_i hi;rw[if_pos hi]at hu;exact h.2 i c u hc hu
 ·rename_i hi
  rw[if_neg hi]at hu;split at hc
  ·rename_i hi2;rw[if_pos hi2]at hu;exact k.2 _ c u hc hu
  ·rename_i hi2;rw[if_neg hi2]at hu;exact h.2 i c u hc hu
theorem qE{t:TypeId} {zs:List AV} (h:zeroOf P t=some zs):∃z:Value,(zeroValue t).run P w=.ok z w/\jr w π zs z.cells.toList/\∀a∈zs,a.scalar=true:=by
 unfold zeroOf at h;split at h
 ·rename_i z hz
  simp only[Option.bind_eq_some_iff]at hz;obtain⟨i,hi,hz⟩:=hz
  have hm:=vV (w:=w) (π:=π) _ _ h
  exact⟨z,by simp[zeroValue,typeInfo,hi,hz],hm.1,hm.2⟩
 ·cases h
end
section ops
variable{P:Program} {nt:Nat} {n0:gO} {w0:World} {π0:Nat->Nat->Prop} {U:Nat->Prop} {s:S} {a:Act} {w:World} {β:Nat->Nat} {τ:Nat->Value} {π:Nat->Nat->Prop}
theorem Rel.fill(R:Rel P nt n0 w0 π0 U s a w β τ π) {t:TypeId} {place:Nat->Option (Nat×Nat)} (hpl:∀i o z,Fh P t i=some (o,z)->place i=some (o,z)):
  ∀(Xs:List (Nat×Operand)) (ps:List (Nat×Nat×bE)) (as:List (Nat×List AV)) (cs:List AV) (us:Array Value),vU P t Xs=some ps->jg s ps=some as->qy cs.length ps=true->
   jr w π cs us.toList->(∀c∈cs,c.scalar=true)->
   ∃us',Instr.fill place us (Xs.map fun p=>(p.1,a.eval p.2))=some us'/\jr w π (iy cs as) us'.toList/\∀c∈iy cs as,c.scalar=true
 |[],ps,as,cs,us,h1,h2,h3,hd,hs=>by
  simp[vU]at h1;subst h1;simp[jg]at h2;subst h2;exact⟨us,rfl,hd,hs⟩
 |(i,X)::Xs,ps,as,cs,us,h1,h2,h3,hd,hs=>by
  simp only[vU]at h1;split at h1
  ·rename_i o z x ps' hp hx hps
   cases h1;simp only[jg]at h2;split at h2
   ·rename_i av as' hav has
    split at h2
    ·rename_i hz
     obtain⟨hz,hok⟩:=hz;cases h2;simp only[qy,Bool.and_eq_true,decide_eq_true_eq]at h3
     have hdv:=R.aQ hx hav
     obtain⟨hcs,hsc⟩:=hdv.cells (fun vs e=>by subst e;simp[jq]at hok)
     have hsz:(a.eval X).cells.size=z:=by have:=hcs.1;simp at this;omega
     have husz:us.size=cs.length:=by have:=hd.1;simp at this;omega
     obtain⟨us1,he,hl1,hs1⟩:=rW (place:=place) (cells:=us) (i:=i) (off:=o) (v:=a.eval X) (rest:=Xs.map fun p=>(p.1,a.eval p.2)) (by rw[hsz];exact hpl i o z hp) (by omega)
     have hd1:jr w π (cs.take o++av.cells++cs.drop (o+av.cells.length)) us1.toList:=by rw[hl1];exact hd.splice hcs (by omega)
     have hs1':∀c∈cs.take o++av.cells++cs.drop (o+av.cells.length),c.scalar=true:=by
      intro c hc;simp only[List.mem_append]at hc
      rcases hc with(hc|hc)|hc
      ·exact hs c (List.mem_of_mem_take hc)
      ·exact hsc c hc
      ·exact hs c (List.mem_of_mem_drop hc)
     obtain⟨us',hf,hd',hs'⟩:=R.fill hpl Xs ps' as' _ us1 hps has (by
      have:(cs.take o++av.cells++cs.drop (o+av.cells.length)).length=cs.length:=by simp;omega
      rw[this];exact h3.2) hd1 hs1'
     exact⟨us',by rw[List.map_cons,he];exact hf,hd',hs'⟩
    ·cases h2
   ·cases h2
  ·cases h1
theorem qF{P:Program} {w:World} {α β:Type} (xs:Array α) (f:α->Sem β) (g:α->β) (h:∀x∈xs,(f x).run P w=.ok (g x) w):(xs.mapM f).run P w=.ok (xs.map g) w:=by
 obtain⟨l⟩:=xs;rw[List.mapM_toArray,Sem.run_map]
 have:∀l:List α,(∀x∈l,(f x).run P w=.ok (g x) w)->(l.mapM f).run P w=.ok (l.map g) w:=by
  intro l
  induction l with
  |nil=>intro _;rfl
  |cons x l ih=>
   intro h
   simp[List.mapM_cons,Sem.run_bind,h x (by simp),ih (fun y hy=>h y (by simp[hy]))]
 rw[this l (fun x hx=>h x (by simpa using hx))]
 simp
theorem Rel.build(R:Rel P nt n0 w0 π0 U s a w β τ π) {t:TypeId} {Xs:Array (Nat×Operand)} {zs:List AV} {ps:List (Nat×Nat×bE)} (hz:zeroOf P t=some zs) (hps:vU P t Xs.toList=some ps) (hfit:qy zs.length ps=true) (hok:BA P t=true)
  {id:Nat} {K:SV->S->Prop} (h:bN (Pure P) id (.build zs ps) K s):
  ∃v y,(Instr.build t (Xs.map fun(i,x)=>(i,a.eval x))).run P w=.ok y w/\RV β τ w π v y/\v.gp U/\K v s:=by
 simp only[bN]at h;obtain⟨as,has,hK⟩:=af h
 obtain⟨z,hzr,hzd,hzs⟩:=qE (P:=P) (w:=w) (π:=π) hz
 unfold BA at hok;split at hok
 ·rename_i fs hu
  have hm:=qF (P:=P) (w:=w) fs (fun f=>do pure (f.offset,<-sizeOf f.type)) (fun f=>(f.offset,(fq P f.type).getD 0)) (by
   intro f hf
   have:=(List.all_eq_true.1 hok) f (by simpa using hf)
   cases hs:fq P f.type with
   |none=>simp[hs]at this
   |some z=>simp[dN (w:=w) hs])
  obtain⟨us',hf,hd,hs⟩:=R.fill (place:=((fs.map fun f=>(f.offset,(fq P f.type).getD 0))[·]?)) (fun i o z hp=>by
   unfold Fh at hp;simp only[hu]at hp;split at hp
   ·rename_i f hfi
    simp only[Option.map_eq_some_iff]at hp;obtain⟨z',hz',e⟩:=hp;cases e;simp[hfi,hz']
   ·cases hp) Xs.toList ps as zs z.cells hps has hfit hzd hzs
  refine⟨.dat (.agg (iy zs as)) none,.agg us',?_,⟨.agg _ _ (by have:=hd.1;simpa using this) hs (fun i a v ha hv=>hd.2 i a v ha (by simpa using hv)),fun t ht=>by cases ht⟩,trivial,hK⟩
  simp only[Instr.build,Sem.run_bind,hzr,Result.andThen_ok,run_underlying hu,hm]
  have:(Xs.map fun(i,x)=>(i,a.eval x)).toList=Xs.toList.map fun p=>(p.1,a.eval p.2):=by simp
  rw[this,hf];rfl
 ·rename_i n e hu
  cases hse:fq P e with
  |none=>simp[hse]at hok
  |some ze=>
   obtain⟨us',hf,hd,hs⟩:=R.fill (place:=fun i=>some (i*ze,ze)) (fun i o z hp=>by
    unfold Fh at hp;simp[hu,hse]at hp;obtain⟨rfl,rfl⟩:=hp
    rfl) Xs.toList ps as zs z.cells hps has hfit hzd hzs
   refine⟨.dat (.agg (iy zs as)) none,.agg us',?_,⟨.agg _ _ (by have:=hd.1;simpa using this) hs (fun i a v ha hv=>hd.2 i a v ha (by simpa using hv)),fun t ht=>by cases ht⟩,trivial,hK⟩
   simp only[Instr.build,Sem.run_bind,hzr,Result.andThen_ok,run_underlying hu,dN (w:=w) hse]
   have:(Xs.map fun(i,x)=>(i,a.eval x)).toList=Xs.toList.map fun p=>(p.1,a.eval p.2):=by simp
   rw[this,hf];rfl
 ·cases hok
end ops
open Go.RowKit (Below)
theorem lf{α:Type} {z:Nat}:∀{xs:List (List α)},(∀r∈xs,r.length=z)->∀{i j:Nat} {r:List α} {a:α},xs[i]? =some r->r[j]? =some a->xs.flatten[i*z+j]? =some a
 |[],h,i,j,r,a,hr,ha=>by simp at hr
 |x::xs,h,0,j,r,a,hr,ha=>by
  simp at hr;subst hr
  have hj:j<x.length:=by
   rcases Nat.lt_or_ge j x.length with h'|h'
   ·exact h'
   ·rw[List.getElem?_eq_none h']at ha;cases ha
  simp only[List.flatten_cons,Nat.zero_mul,Nat.zero_add];rw[List.getElem?_append_left hj];exact ha
 |x::xs,h,i+1,j,r,a,hr,ha=>by
  have hx:=h x (by simp)
  have:=lf (xs:=xs) (fun r hr=>h r (by simp[hr])) (by simpa using hr) ha
  simp only[List.flatten_cons]
  rw[List.getElem?_append_right (by rw[hx,Nat.add_mul];omega)]
  rw[hx,show(i+1)*z+j-z=i*z+j by rw[Nat.add_mul];omega]
  exact this
theorem ju{α:Type} {z:Nat}:∀{xs:List (List α)},(∀r∈xs,r.length=z)->xs.flatten.length=xs.length*z
 |[],h=>by simp
 |x::xs,h=>by
  have hx:=h x (by simp)
  have:=ju (xs:=xs) (fun r hr=>h r (by simp[hr]))
  simp[hx,this,Nat.add_mul];omega
section
variable{P:Program} {nt:Nat} {n0:gO} {w0:World} {π0:Nat->Nat->Prop} {U:Nat->Prop} {s:S} {a:Act} {w:World} {β:Nat->Nat} {τ:Nat->Value} {π:Nat->Nat->Prop}
def grow(π:Nat->Nat->Prop) (B m:Nat):Nat->Nat->Prop:=fun b o=>π b o\/(b=B/\o<m)
theorem Rel.newRow(R:Rel P nt n0 w0 π0 U s a w β τ π) {xs:List (List AV)} {z cap:Nat} {cs:Array Value} (e:TypeId) (hrow:∀r∈xs,r.length=z) (hcap:xs.length<=cap) (hlen:xs.length*z<=cs.size)
  (hd:∀(i:Nat) (x:AV) (v:Value),xs.flatten[i]? =some x->cs[i]? =some v->DV w π x v) (hs:∀r∈xs,∀x∈r,x.scalar=true):
  Rel P nt n0 w0 π0 U s a (w.alloc (.cells cs e)) β τ (grow π w.heap.size (xs.length*z))/\
   DV (w.alloc (.cells cs e)) (grow π w.heap.size (xs.length*z)) (.sl xs) (.slice (some ⟨w.heap.size,0,none⟩) xs.length cap):=by
 have hbel:Below w.heap.size w (w.alloc (.cells cs e)):=(Below.refl _ _).alloc (Nat.le_refl _) _
 refine⟨R.frame (fun _ _=>rfl) (fun _ _=>rfl) (fun _ h=>h) (fun _ _ h=>.inl h) (fun b o h=>?_) (fun b o h=>?_) hbel,?_⟩
 ·rcases h with h|⟨rfl,_⟩
  ·exact .inl h
  ·exact .inr (Nat.le_refl _)
 ·rcases h with h|⟨rfl,_⟩
  ·have:=R.ej b o h;simp;omega
  ·simp
 ·have hmono:∀{x:AV} {v:Value},DV w π x v->DV (w.alloc (.cells cs e)) (grow π w.heap.size (xs.length*z)) x v:=fun h=>h.mono (fun _ _ h=>.inl h) (fun b o h=>Below.rT hbel (R.ej b o h))
  have hin:∀(i j:Nat) (r:List AV) (x:AV),xs[i]? =some r->r[j]? =some x->i*z+j<xs.length*z:=by
   intro i j r x hr hx
   have hf:=lf hrow hr hx
   rcases Nat.lt_or_ge (i*z+j) (xs.length*z)with h'|h'
   ·exact h'
   ·rw[List.getElem?_eq_none (by rw[ju hrow];exact h')]at hf;cases hf
  refine .sl xs w.heap.size 0 cap z (fun i j=>cs.getD (i*z+j) undef) hcap (fun i r hr=>hrow r (List.mem_of_getElem? hr)) (fun i j r x hr hx=>hs r (List.mem_of_getElem? hr) x (List.mem_of_getElem? hx)) ?_ ?_ ?_
  ·intro i j r x hr hx
   exact .inr ⟨rfl,by have:=hin i j r x hr hx;omega⟩
  ·intro i j r x hr hx
   have hlt:=hin i j r x hr hx
   rw[cell_of_row _ _ _ cs e (0,0) (heap_alloc_new w _)]
   have:i*z+j<cs.size:=by omega
   simp[this]
  ·intro i j r x hr hx
   have hlt:i*z+j<cs.size:=by have:=hin i j r x hr hx;omega
   have:=hd (i*z+j) x cs[i*z+j] (lf hrow hr hx) (Array.getElem?_eq_getElem hlt)
   have hgd:cs.getD (i*z+j) undef=cs[i*z+j]:=by simp[hlt]
   rw[hgd];exact hmono this
theorem j6{q k e:Nat}:∀{l:List (Nat×Nat)},eK q (mj k l)=some e->eK q l=some e/\q≠k
 |[],h=>by simp[mj,eK]at h
 |(m,v)::r,h=>by
  simp only[mj]at h
  by_cases hk:k=m
  ·subst hk
   simp only[beq_self_eq_true,cond_true]at h;obtain⟨h1,h2⟩:=j6 h
   have hf:(q==k)=false:=by simpa using h2
   exact⟨by simp[eK,hf,h1],h2⟩
  ·have hf:(k==m)=false:=by simpa using hk
   simp only[hf,cond_false,eK]at h
   by_cases hq:q=m
   ·subst hq
    simp at h
    exact⟨by simp[eK,h],fun e=>hk e.symm⟩
   ·have hf':(q==m)=false:=by simpa using hq
    simp only[hf',cond_false]at h;obtain⟨h1,h2⟩:=j6 h
    exact⟨by simp[eK,hf',h1],h2⟩
theorem Rel.qG(R:Rel P nt n0 w0 π0 U s a w β τ π) {id e:Nat} {v:Value} (hid:¬U id) (ht:AB P w π n0.ok e v)
  (hl:∀q e' B,eK q s.live=some e'->js (τ q)=some B->js v≠some B) (hb:∀b x,ct b s.boxes=some x->js v≠some (β b)):
  Rel P nt n0 w0 π0 (eE U id) {s with live:=(id,e)::s.live} a w β (Ai τ id v) π:=by
 have hne:∀b,U b->b≠id:=fun b hb e=>hid (e▸hb)
 have R1:Rel P nt n0 w0 π0 (eE U id) s a w β (Ai τ id v) π:=
  R.frame (fun _ _=>rfl) (fun b hb=>tP _ _ _ (hne b hb)) (fun n h=>.inl h) (fun _ _ h=>h) (fun _ _ h=>.inl h) R.ej (Below.refl _ _)
 have hcase:∀{q e'},eK q ((id,e)::s.live)=some e'->(q=id/\e'=e)\/(q≠id/\eK q s.live=some e'):=by
  intro q e' h;simp only[eK]at h
  by_cases hq:q=id
  ·subst hq;simp at h;exact .inl ⟨rfl,h.symm⟩
  ·have hf:(q==id)=false:=by simpa using hq
   simp only[hf,cond_false]at h;exact .inr ⟨hq,h⟩
 refine⟨R1.size,R1.slots,R1.boxes,R1.inj,fun q e' h=>?_,fun q q' e' e'' B h h' hB hB'=>?_,fun q e' b x h h' hB=>?_,R1.below,R1.fu,R1.ej,R1.eo,R1.cH,R1.lQ,R1.jt,R1.kept⟩
 ·rcases hcase h with⟨rfl,rfl⟩|⟨_,h⟩
  ·exact⟨.inr rfl,by rw[cj];exact ht⟩
  ·exact R1.live q e' h
 ·rcases hcase h with⟨k1,_⟩|⟨hq,k⟩<;>rcases hcase h' with⟨k1',_⟩|⟨hq',k'⟩
  ·rw[k1,k1']
  ·rw[k1,cj]at hB
   rw[tP _ _ _ hq']at hB';exact absurd hB (hl q' e'' B k' hB')
  ·rw[k1',cj]at hB'
   rw[tP _ _ _ hq]at hB;exact absurd hB' (hl q e' B k hB)
  ·exact R1.bS q q' e' e'' B k k' hB hB'
 ·rcases hcase h with⟨rfl,rfl⟩|⟨hq,h⟩
  ·rw[cj]at hB;exact hb b x h' hB
  ·exact R1.cK q e' b x h h' hB
theorem Rel.Ek(R:Rel P nt n0 w0 π0 U s a w β τ π) (q:Nat):Rel P nt n0 w0 π0 U {s with live:=mj q s.live} a w β τ π:=
 ⟨R.size,R.slots,R.boxes,R.inj,fun k e h=>R.live k e (j6 h).1,fun k k' e e' B h h'=>R.bS k k' e e' B (j6 h).1 (j6 h').1,fun k e b x h=>R.cK k e b x (j6 h).1,R.below,R.fu,R.ej,R.eo,R.cH,R.lQ,R.jt,R.kept⟩
theorem Rel.CR(R:Rel P nt n0 w0 π0 U s a w β τ π) {B m:Nat} {cur cur':Array Value} {e:TypeId} (hB:n0.ok B) (hh:w.heap[B]? =some (.cells cur e (0,0)))
  (hsame:∀o,π B o->cur'[o]? =cur[o]?) (hl:∀q e',eK q s.live=some e'->js (τ q)≠some B) (hb:∀b x,ct b s.boxes=some x->β b≠B):
  Rel P nt n0 w0 π0 U s a (w.setRow B cur') β τ (grow π B m):=by
 have hlt:=nH hh
 have hother:∀k,k≠B->(w.setRow B cur').heap[k]? =w.heap[k]?:=fun k hk=>setRow_other w _ k cur' hk
 have hc:∀b o,π b o->(w.setRow B cur').cell? ⟨b,o,none⟩=w.cell? ⟨b,o,none⟩:=by
  intro b o h
  by_cases e':b=B
  ·subst e'
   rw[cell_of_row _ _ _ cur' e (0,0) (setRow_heap w _ cur _ e _ hh),cell_of_row _ _ _ cur e (0,0) hh];exact hsame o h
  ·exact cell_setRow_other w _ cur' ⟨b,o,none⟩ e'
 have hp:∀b o,π b o->grow π B m b o:=fun _ _ h=>.inl h
 have hp':∀b o,b≠B->grow π B m b o->π b o:=fun b o hb h=>by
  rcases h with h|⟨h,_⟩
  ·exact h
  ·exact absurd h hb
 refine⟨R.size,fun t v h=>?_,fun b x h=>?_,R.inj,fun q e' h=>?_,R.bS,R.cK,R.below.trans ⟨rfl,rfl,rfl,by simp,fun k hk hx=>hother k (fun e=>by subst e;exact hB.elim (fun h=>by omega) hx),fun k o hk ho=>(hother k (fun e=>by subst e;rw[hh]at hk;cases hk;cases ho)).trans hk⟩,R.fu,fun b o h=>?_,fun b o h=>hp _ _ (R.eo b o h),fun b o h=>?_,R.lQ,R.jt,fun b o h=>(hc b o (R.eo b o h)).trans (R.kept b o h)⟩
 ·obtain⟨⟨x,hx,hv⟩,hu⟩:=R.slots t v h
  exact⟨⟨x,hx,RV.mono (fun _ _=>rfl) (fun _ _=>rfl) hp hc hu hv⟩,hu⟩
 ·obtain⟨h1,h2,h3,h4⟩:=R.boxes b x h
  refine⟨h1,h2,h3.keep (fun _ _=>rfl) h4 (hother _ (hb b x h)) hp hc (fun o ho=>?_),h4⟩
  obtain⟨_,_,_,_,_,_,hn⟩:=h3;exact hn o (hp' _ o (hb b x h) ho)
 ·obtain⟨h1,h2⟩:=R.live q e' h
  exact⟨h1,h2.keep (fun C hC=>hother C (fun eC=>hl q e' h (by rw[hC,eC]))) (fun C o hC ho=>hp' C o (fun eC=>hl q e' h (by rw[hC,eC])) ho)⟩
 ·rcases h with h|⟨rfl,_⟩
  ·simpa using R.ej b o h
  ·simpa using hlt
 ·rcases h with h|⟨rfl,_⟩
  ·exact R.cH b o h
  ·exact .inr hB
theorem Rel.draw(R:Rel P nt n0 w0 π0 U s a w β τ π):Rel P nt n0 w0 π0 U s a w.drew β τ π:=
 R.frame (fun _ _=>rfl) (fun _ _=>rfl) (fun _ h=>h) (fun _ _ h=>h) (fun _ _ h=>.inl h) R.ej (Below.refl _ _).drew
theorem Rel.lg(R:Rel P nt n0 w0 π0 U s a w β τ π) {w':World} (h:tQ w w'):Rel P nt n0 w0 π0 U s a w' β τ π:=by
 induction h with
 |refl=>exact R
 |step _ ih=>exact ih.draw
end
end Go.Eng
