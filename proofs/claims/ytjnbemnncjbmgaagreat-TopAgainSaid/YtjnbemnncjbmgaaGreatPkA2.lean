/- Part 2 of the engine and its library. -/
import Derived.Test.YtjnbemnncjbmgaaGreatPkA1
set_option linter.all false
set_option maxRecDepth 10000
set_option maxHeartbeats 4000000
namespace Go.Eng
open Go
open Go.RowKit (Below)
section
variable {P:Program} {a:AV} {as:List (Option AV)} {e:Nat} {ok:Nat->Prop} {v:Value} {vs:List Value} {w w':World} {π π':Nat->Nat->Prop}
theorem Below.vS{n:Nat} (h:Below n w w') {b o:Nat} (D:b<n):w'.cell? ⟨b,o,none⟩=w.cell? ⟨b,o,none⟩:=Below.cell h (p:=⟨b,o,none⟩) D
theorem nV{Bs:List Nat} (h:eO w π (some a::as) Bs (v::vs)):
  (a=.hole/\∃B D,Bs=B::D/\v=.agg #[.pointer (some ⟨B,0,none⟩)]/\eO w π as D vs)\/(a≠.hole/\DV w π a v/\eO w π as Bs vs):=by
 by_cases L:a=.hole
 ·subst L
  cases Bs with
  |nil=>cases h.1
  |cons B Bs=>exact .inl ⟨rfl,B,Bs,rfl,h.1,h.2⟩
 ·refine .inr ⟨L,?_⟩
  cases a<;>first|exact absurd rfl L|(cases Bs<;>exact h)
theorem xO{Bs:List Nat} (L:a≠.hole) (D:DV w π a v) (M:eO w π as Bs vs):eO w π (some a::as) Bs (v::vs):=by
 cases a<;>first|exact absurd rfl L|(cases Bs<;>exact⟨D,M⟩)
theorem DA{Bs:List Nat} (D:DV w π a v) (L:eO w π as Bs vs):eO w π (some a::as) Bs (v::vs):=
 xO (λe=>by subst e;cases D) D L
theorem eO.mono{w w':World} {π π':Nat->Nat->Prop} (D:∀b o,π b o->π' b o) (L:∀b o,π b o->w'.cell? ⟨b,o,none⟩=w.cell? ⟨b,o,none⟩):∀{as:List (Option AV)} {Bs:List Nat} {vs:List Value},eO w π as Bs vs->eO w' π' as Bs vs
 |[],[],[],_=>trivial
 |[],[],v::vs,h=>h.elim
 |[],B::Bs,vs,h=>by cases vs<;>exact h.elim
 |some a::as,Bs,[],h=>by cases Bs<;>cases a<;>exact h.elim
 |some a::as,Bs,v::vs,h=>by
  rcases nV h with⟨rfl,B,V,rfl,e,M⟩|⟨O,R,M⟩
  ·exact⟨e,eO.mono D L M⟩
  ·exact xO O (R.mono D L) (eO.mono D L M)
 |none::as,[],vs,h=>by cases vs<;>exact h.elim
 |none::as,B::Bs,[],h=>h.elim
 |none::as,B::Bs,v::vs,h=>⟨h.1,eO.mono D L h.2⟩
theorem RV.mono{β β':Nat->Nat} {τ τ':Nat->Value} {w w':World} {π π':Nat->Nat->Prop} {U:Nat->Prop} (V:∀b,U b->β' b=β b) (hτ:∀b,U b->τ' b=τ b)
  (M:∀b o,π b o->π' b o) (Z:∀b o,π b o->w'.cell? ⟨b,o,none⟩=w.cell? ⟨b,o,none⟩) {v:SV} {x:Value} (O:v.gK U) (h:RV β τ w π v x):RV β' τ' w' π' v x:=by
 cases v with
 |dat a q=>
  refine⟨h.1.mono M Z,λt ht=>?_⟩
  subst ht;rw[hτ t O];exact h.2 t rfl
 |ptr b off=>
  show x=_
  rw[V b O];exact h
 |rp cs=>
  obtain⟨B,off,f,hx,L,D,h3,h4⟩:=h
  exact⟨B,off,f,hx,L,λj a R=>M _ _ (D j a R),λj a R=>(Z _ _ (D j a R)).trans (h3 j a R),λj a R=>(h4 j a R).mono M Z⟩
 |undef=>exact h
 |vs b off n z=>
  obtain⟨cap,L,D⟩:=h
  exact⟨cap,L,by rw[V b O];exact D⟩
 |mL f as bs=>
  obtain⟨us,L,D⟩:=h;refine⟨us,L,?_⟩
  have e:bs.map β'=bs.map β:=H4 λb hb=>V b (O b hb)
  rw[e];exact D.mono M Z
 |raw q n=>
  obtain⟨B,cap,L,D⟩:=h
  exact⟨B,cap,by rw[hτ q O];exact L,D⟩
 |pt k ps=>
  cases k with
  |zero=>
   have h:x=_:=h
   show x=_
   rw[h]
   congr 2
   exact H4 λp M=>by rw[V p.1 (O p M)]
  |succ k=>
   obtain⟨B,off,cap,L,D,h3⟩:=h
   refine⟨B,off,cap,L,D,λi p hi=>?_⟩
   have:=h3 i p hi
   exact⟨M _ _ this.1,by rw[Z _ _ this.1,this.2,V p.1 (O p (et hi))]⟩
theorem SV.nW{U U':Nat->Prop} (D:∀n,U n->U' n) {v:SV} (h:v.gK U):v.gK U':=by
 cases v with
 |dat a q=>cases q with
  |none=>trivial
  |some q=>exact D _ h
 |ptr b off=>exact D _ h
 |rp cs=>trivial
 |undef=>trivial
 |vs b off n z=>exact D _ h
 |mL f as O=>exact λb M=>D _ (h b M)
 |raw q n=>exact D _ h
 |pt k ps=>exact λp L=>D _ (h p L)
theorem oP{B:Nat} {o:Obj} (h:w.heap[B]? =some o):B<w.heap.size:=(kd.1 h).1
theorem GH.block{B:Nat} (h:GH P w π ok e v) (hB:jl v=some B):
  ok B/\B<w.heap.size:=by
 rcases h with rfl|⟨B',len,cap,M,i,rfl,L,D,_⟩
 ·simp[jl]at hB
 ·simp[jl]at hB;subst hB;exact⟨L,oP D⟩
theorem GH.keep(h:GH P w π ok e v) (hb:∀B,jl v=some B->w'.heap[B]? =w.heap[B]?) (L:∀B o,jl v=some B->π' B o->π B o):GH P w' π' ok e v:=by
 rcases h with rfl|⟨B',len,cap,D,i,rfl,V,R,h3,h4,h5,M,Z⟩
 ·exact .inl rfl
 ·exact .inr ⟨B',len,cap,D,i,rfl,V,(hb B' rfl).trans R,h3,h4,h5,M,λo O hc=>Z o O (L B' o rfl hc)⟩
theorem pN.keep{τ τ':Nat->Value} {U:Nat->Prop} {B:Nat} {x:bH} (h:pN τ w π B x) (Z:∀q,U q->τ' q=τ q) (hU:∀o q,dJ o x.tags=some q->U q) (hb:w'.heap[B]? =w.heap[B]?) (M:∀b o,π b o->π' b o) (hc:∀b o,π b o->w'.cell? ⟨b,o,none⟩=w.cell? ⟨b,o,none⟩) (hn:∀o,¬π' B o):pN τ' w' π' B x:=by
 obtain⟨D,O,V,R,h3,h4,_⟩:=h
 exact⟨D,O,hb.trans V,R.mono M hc,h3,λo q L=>by rw[Z q (hU o q L)];exact h4 o q L,hn⟩
end
section
variable{P:Program} {nt:Nat} {n0:gw} {w0:World} {π0:Nat->Nat->Prop} {U U':Nat->Prop} {s:S} {a:Act} {w w':World} {β β':Nat->Nat} {τ τ':Nat->Value} {π π':Nat->Nat->Prop}
section
variable {α:Type} (f:Nat->α) (n:Nat) (x:α)
theorem Rel.frame(R:Rel P nt n0 w0 π0 U s a w β τ π) (O:∀b,U b->β' b=β b) (V:∀b,U b->τ' b=τ b) (hU:∀n,U n->U' n)
  (hp:∀b o,π b o->π' b o) (M:∀b o,π' b o->π b o\/w.heap.size<=b) (ac:∀b o,π' b o->b<w'.heap.size) (D:Below w.heap.size w w'):
  Rel P nt n0 w0 π0 U' s a w' β' τ' π':=by
 have hc:∀b o,π b o->w'.cell? ⟨b,o,none⟩=w.cell? ⟨b,o,none⟩:=λb o h=>Below.vS D (R.eF b o h)
 have ad:n0.n<=w.heap.size:=kw R.f9 R.below.size
 refine⟨R.size,λt v h=>?_,λb x h=>?_,λb b' x x' h L e=>?_,λq e h=>?_,λq q' e e' B h L hB aa=>?_,λq e b x h L hB=>?_,R.below.trans (.of D ad),R.f9,ac,λb o h=>hp _ _ (R.ep b o h),λb o h=>?_,λk hk=>by rw[O k (R.jb k hk)];exact R.lz k hk,λk hk=>hU k (R.jb k hk),λb o h=>(hc b o (R.ep b o h)).trans (R.kept b o h)⟩
 ·obtain⟨⟨x,hx,hv⟩,hu⟩:=R.slots t v h
  exact⟨⟨x,hx,RV.mono O V hp hc hu hv⟩,SV.nW hU hu⟩
 ·obtain⟨h1,Z,h3,h4⟩:=R.boxes b x h
  rw[O b h1]
  have ab:β b<w.heap.size:=by obtain⟨ae,el,hh,_⟩:=h3;exact oP hh
  refine⟨hU b h1,Z,h3.keep V h4 (D.block _ ab) hp hc (λo ho=>?_),λo q hq=>hU _ (h4 o q hq)⟩
  rcases M _ _ ho with h|h
  ·obtain⟨_,_,_,_,_,_,hn⟩:=h3;exact hn o h
  ·omega
 ·rw[O b (R.boxes b x h).1,O b' (R.boxes b' x' L).1]at e
  exact R.inj b b' x x' h L e
 ·obtain⟨h1,Z⟩:=R.live q e h
  rw[V q h1]
  refine⟨hU q h1,Z.keep (λB hB=>D.block _ (Z.block hB).2) (λB o hB ho=>?_)⟩
  rcases M _ _ ho with h|h
  ·exact h
  ·have:=(Z.block hB).2;omega
 ·rw[V q (R.live q e h).1]at hB
  rw[V q' (R.live q' e' L).1]at aa;exact R.cw q q' e e' B h L hB aa
 ·rw[V q (R.live q e h).1,O b (R.boxes b x L).1]at hB
  exact R.cz q e b x h L hB
 ·rcases M b o h with h|h
  ·exact R.cB b o h
  ·exact .inr (.inl aaN)
theorem Rel.sub(R:Rel P nt n0 w0 π0 U s a w β τ π) (D:∀n,U n->U' n):Rel P nt n0 w0 π0 U' s a w β τ π:=
 R.frame (λ_ _=>rfl) (λ_ _=>rfl) D (λ_ _ h=>h) (λ_ _ h=>.inl h) R.eF (Below.refl _ _)
theorem Rel.put(R:Rel P nt n0 w0 π0 U s a w β τ π) (d:Option Nat) {v:SV} {x:Value} (hd:∀t,d=some t->t<nt) (L:RV β τ w π v x) (V:v.gK U):Rel P nt n0 w0 π0 U (s.put d v) (a.put d x) w β τ π:=by
 cases d with
 |none=>exact R
 |some d=>
  refine⟨by simp[Act.put,R.size],λt u h=>?_,R.boxes,R.inj,R.live,R.cw,R.cz,R.below,R.f9,R.eF,R.ep,R.cB,R.lz,R.jb,R.kept⟩
  simp only[S.put,lk]at h
  by_cases e:t=d
  ·subst e
   simp at h;subst h
   exact⟨⟨x,by simp[Act.put,R.size,hd t rfl],L⟩,V⟩
  ·have:(t==d)=false:=by simpa using e
   simp only[this,er]at h;obtain⟨⟨y,M,O⟩,D⟩:=R.slots t u h
   exact⟨⟨y,by simp[Act.put,Ax (Ne.symm e),M],O⟩,D⟩
theorem Rel.bJ(R:Rel P nt n0 w0 π0 U s a w β τ π) {X:Operand} {x:aM} {v:SV} (D:cn X=some x) (L:bJ s x=some v):RV β τ w π v (a.eval X)/\v.gK U:=by
 cases X with
 |tmp t=>
  simp[cn]at D;subst D;obtain⟨⟨y,O,V⟩,Z⟩:=R.slots t v L;refine⟨?_,Z⟩
  have:a.eval (.tmp t)=y:=by simp[Act.eval,O]
  rw[this];exact V
 |const c=>
  simp only[cn,eg]at D;obtain⟨k,hk,rfl⟩:=D;simp[Eng.bJ]at L;subst L
  exact⟨⟨R7 hk,λt M=>by cases M⟩,trivial⟩
 |global g=>simp[cn]at D
 |func f=>
  simp[cn]at D;subst D;simp[Eng.bJ]at L;subst L
  refine⟨⟨?_,λt M=>by cases M⟩,trivial⟩
  exact .fn (.func f) [] #[] [] #[] rfl rfl (λi a v h=>by simp at h) (λi a v h=>by simp at h)
theorem RV.ref{β:Nat->Nat} {τ:Nat->Value} {w:World} {π:Nat->Nat->Prop} {cs:List AV} {v:Value}:RV β τ w π (.rp cs) v↔DV w π (.ref cs) v:=by
 constructor
 ·rintro⟨B,off,f,rfl,D,L,M,h4⟩
  exact .ref cs B off f D L M h4
 ·intro h
  cases h with
  |ref _ B off f D L M h4=>exact⟨B,off,f,rfl,D,L,M,h4⟩
theorem Rel.aG(R:Rel P nt n0 w0 π0 U s a w β τ π) {X:Operand} {x:aM} {v:AV} (M:cn X=some x) (D:Eng.aG s x=some v):DV w π v (a.eval X):=by
 unfold Eng.aG at D;split at D
 ·rename_i b q L
  cases D;exact(R.bJ M L).1.1
 ·rename_i cs L
  cases D;exact RV.ref.1 (R.bJ M L).1
 ·cases D
theorem Rel.dO(R:Rel P nt n0 w0 π0 U s a w β τ π):∀{Xs:List Operand} {xs:List aM} {vs:List AV},Xs.mapM cn=some xs->Eng.dO s xs=some vs->ji w π vs (Xs.map a.eval)
 |[],xs,vs,L,D=>by
  simp at L;subst L;simp[Eng.dO]at D;subst D;exact .nil _ _
 |X::Xs,xs,vs,L,D=>by
  simp only[rt,pb,io,tl,gc]at L;obtain⟨x,L,Z,M,rfl⟩:=L;simp only[Eng.dO]at D;split at D
  ·rename_i a' as V O
   cases D;exact .cons (R.aG L V) (R.dO M O)
  ·cases D
def Ge:Nat->α:=λm=>if m=n then x else f m
theorem bY:Ge f n x n=x:=by simp[Ge]
theorem xP{m:Nat} (h:m≠n):Ge f n x m=f m:=by simp[Ge,h]
def eN(U:Nat->Prop) (n:Nat):Nat->Prop:=λm=>U m\/m=n
theorem Rel.MF(R:Rel P nt n0 w0 π0 U s a w β τ π) {id:Nat} (ad:¬U id) {cells:List AV} {cs:Array Value} (e:TypeId) (hd:ji w π cells (cs.toList.take cells.length)) (hs:∀a∈cells,a.scalar=true):
  Rel P nt n0 w0 π0 (eN U id) {s with boxes:=(id,⟨cells,[]⟩)::s.boxes} a (w.alloc (.cells cs e)) (Ge β id w.heap.size) τ π:=by
 have aa:∀b,U b->b≠id:=λb L e=>ad (e▸L)
 have V:Below w.heap.size w (w.alloc (.cells cs e)):=(Below.refl _ _).alloc (ik _) _
 have D:Rel P nt n0 w0 π0 (eN U id) s a (w.alloc (.cells cs e)) (Ge β id w.heap.size) τ π:=
  R.frame (λb L=>xP _ _ _ (aa b L)) (λ_ _=>rfl) (λn h=>.inl h) (λ_ _ h=>h) (λ_ _ h=>.inl h) (λb o h=>by have:=R.eF b o h;simp;omega) V
 have ac:n0.n<=w.heap.size:=kw R.f9 R.below.size
 have hold:∀b x,bO b s.boxes=some x->Ge β id w.heap.size b≠w.heap.size:=λb x h=>by
  obtain⟨h1,_,⟨ae,el,hh,_⟩,_⟩:=R.boxes b x h;rw[xP _ _ _ (aa b h1)]
  have:=oP hh
  omega
 refine⟨D.size,D.slots,λb x h=>?_,λb Z x x' h O e=>?_,D.live,D.cw,λq e' b x h O hB=>?_,D.below,D.f9,D.eF,D.ep,D.cB,D.lz,D.jb,D.kept⟩
 ·simp only[bO]at h
  by_cases L:b=id
  ·subst L
   simp at h;subst h
   refine⟨.inr rfl,by rw[bY];exact .inl ac,?_,λo q h=>by simp[dJ]at h⟩
   rw[bY]
   refine⟨cs,e,LE w _,hd.mono (λ_ _ h=>h) (λb o h=>Below.vS V (R.eF b o h)),hs,λo q h=>by simp[dJ]at h,λo h=>?_⟩
   have:=R.eF _ _ h;omega
  ·have:(b==id)=false:=by simpa using L
   simp only[this,er]at h;exact D.boxes b x h
 ·simp only[bO]at h O
  by_cases L:b=id
  ·by_cases M:Z=id
   ·rw[L,M]
   ·have hf:(Z==id)=false:=by simpa using M
    simp only[hf,er]at O;subst L;rw[bY]at e;exact absurd e.symm (hold Z x' O)
  ·have hf:(b==id)=false:=by simpa using L
   simp only[hf,er]at h
   by_cases M:Z=id
   ·subst M
    rw[bY]at e;exact absurd e (hold b x h)
   ·have ab:(Z==id)=false:=by simpa using M
    simp only[ab,er]at O;exact D.inj b Z x x' h O e
 ·simp only[bO]at O
  by_cases L:b=id
  ·subst L
   rw[bY]at hB
   have:=((R.live q e' h).2.block hB).2
   omega
  ·have hf:(b==id)=false:=by simpa using L
   simp only[hf,er]at O;exact D.cz q e' b x h O hB
theorem nZ{n m:Nat} {b:bH}:∀{l:List (Nat×bH)} {x:bH},bO n (nO m b l)=some x->(n=m/\x=b/\∃y,bO m l=some y)\/(n≠m/\bO n l=some x)
 |[],x,h=>by simp[nO,bO]at h
 |(k,v)::r,x,h=>by
  simp only[nO]at h
  by_cases hk:m=k
  ·subst hk
   simp only[nf,fx,bO]at h
   by_cases D:n=m
   ·subst D
    simp at h
    exact .inl ⟨rfl,h.symm,v,by simp[bO]⟩
   ·have L:(n==m)=false:=by simpa using D
    simp only[L,er]at h
    exact .inr ⟨D,by simp[bO,L,h]⟩
  ·have L:(m==k)=false:=by simpa using hk
   simp only[L,er,bO]at h
   by_cases D:n=k
   ·subst D
    simp at h
    exact .inr ⟨λe=>hk e.symm,by simp[bO,h]⟩
   ·have M:(n==k)=false:=by simpa using D
    simp only[M,er]at h
    rcases nZ h with⟨R,O,y,V⟩|⟨R,O⟩
    ·exact .inl ⟨R,O,y,by simp[bO,L,V]⟩
    ·exact .inr ⟨R,by simp[bO,M,O]⟩
theorem Rel.Sb(R:Rel P nt n0 w0 π0 U s a w β τ π) {b:Nat} {x y:bH} (L:bO b s.boxes=some x) {O cur':Array Value} {el:TypeId}
  (hh:w.heap[β b]? =some (.cells O el (0,0))) (hd:ji w π y.cells (cur'.toList.take y.cells.length)) (hs:∀a∈y.cells,a.scalar=true)
  (ht:∀o q,dJ o y.tags=some q->cur'[o]? =some (τ q)/\U q):
  Rel P nt n0 w0 π0 U {s with boxes:=nO b y s.boxes} a (w.setRow (β b) cur') β τ π:=by
 obtain⟨ad,V,⟨_,_,ae,_,_,_,Z⟩,_⟩:=R.boxes b x L
 have D:∀k,k≠β b->(w.setRow (β b) cur').heap[k]? =w.heap[k]?:=λk hk=>setRow_other w _ k cur' hk
 have hc:∀B o,π B o->(w.setRow (β b) cur').cell? ⟨B,o,none⟩=w.cell? ⟨B,o,none⟩:=λB o h=>aal w _ cur' ⟨B,o,none⟩ (λe=>Z o (by simpa[<-e]using h))
 have aa:vR n0 w (w.setRow (β b) cur'):=⟨rfl,rfl,rfl,aaP,λk hk hx=>D k (λe=>by subst e;rcases V with h|h;exact absurd h aaN;exact hx h.2),λk o hk ho=>(D k (λe=>by subst e;rw[hh]at hk;cases hk;cases ho)).trans hk⟩
 refine⟨R.size,λt v h=>?_,λc z h=>?_,λc c' z z' h h' e=>?_,λq e h=>?_,R.cw,λq e c z h h' hB=>?_,R.below.trans aa,R.f9,λB o h=>by simpa using R.eF B o h,R.ep,R.cB,R.lz,R.jb,λb o h=>(hc b o (R.ep b o h)).trans (R.kept b o h)⟩
 ·obtain⟨⟨z,hz,hv⟩,M⟩:=R.slots t v h
  exact⟨⟨z,hz,RV.mono (λ_ _=>rfl) (λ_ _=>rfl) (λ_ _ h=>h) hc M hv⟩,M⟩
 ·rcases nZ h with⟨rfl,rfl,_⟩|⟨ab,h⟩
  ·exact⟨ad,V,⟨cur',el,setRow_heap w _ O _ el _ hh,hd.mono (λ_ _ h=>h) hc,hs,λo q hq=>(ht o q hq).1,Z⟩,λo q hq=>(ht o q hq).2⟩
  ·obtain⟨h1,h2,h3,h4⟩:=R.boxes c z h
   refine⟨h1,h2,h3.keep (λ_ _=>rfl) h4 (D _ (λe=>ab (R.inj c b z x h L e))) (λ_ _ h=>h) hc ?_,h4⟩
   obtain⟨_,_,_,_,_,_,hn⟩:=h3;exact hn
 ·have:∃u,bO c s.boxes=some u:=by
   rcases nZ h with⟨rfl,_,_⟩|⟨_,h⟩
   ·exact⟨x,L⟩
   ·exact⟨z,h⟩
  have k':∃u,bO c' s.boxes=some u:=by
   rcases nZ h' with⟨rfl,_,_⟩|⟨_,h⟩
   ·exact⟨x,L⟩
   ·exact⟨z',h⟩
  obtain⟨u,M⟩:=this;obtain⟨u',ac⟩:=k';exact R.inj c c' u u' M ac e
 ·obtain⟨h1,h2⟩:=R.live q e h
  exact⟨h1,h2.keep (λB hB=>D B (λeB=>R.cz q e b x h L (by rw[hB,eB]))) (λB o _ h=>h)⟩
 ·have:∃u,bO c s.boxes=some u:=by
   rcases nZ h' with⟨rfl,_,_⟩|⟨_,h⟩
   ·exact⟨x,L⟩
   ·exact⟨z,h⟩
  obtain⟨u,M⟩:=this;exact R.cz q e c u h M hB
end
end
open Go.RowKit (Below)
theorem iK(B o n:Nat):(⟨B,o,none⟩:Addr).add n=⟨B,o+n,none⟩:=by unfold Addr.add;split<;>simp_all
section runs
variable{P:Program} {w:World}
section
variable {n o:Nat} {t:TypeId}
theorem eu{z:Nat} (h:f7 P t=some z):(sizeOf t).run P w=.ok z w:=by
 simp only[f7,eg]at h;obtain⟨i,D,rfl⟩:=h;simp[sizeOf,typeInfo,D]
theorem yR{d:TypeDesc} (h:P.underlying t=some d):(isAgg t).run P w=.ok (oJ P t) w:=by
 have:=im h w
 unfold isAgg oJ;simp only[f8,this,fp,h]
 cases d<;>rfl
theorem JY(h:yO P t=some (some n)):∃d,P.underlying t=some d/\oJ P t=true/\f7 P t=some n:=by
 unfold yO at h;split at h
 ·rename_i L D;exact⟨_,D,by simp[oJ,D],by simpa using h⟩
 ·rename_i k e D;exact⟨_,D,by simp[oJ,D],by simpa using h⟩
 ·simp at h
 ·simp at h
theorem JZ(h:yO P t=some none):∃d,P.underlying t=some d/\oJ P t=false:=by
 unfold yO at h;split at h
 ·simp at h
 ·simp at h
 ·rename_i d L M D
  refine⟨d,D,?_⟩;unfold oJ;rw[D]
  cases d<;>simp_all
 ·simp at h
theorem lA(h:yO P t=some (some n)) {B:Nat} {f:Nat->Value} (Z:∀j,j<n->w.cell? ⟨B,o+j,none⟩=some (f j)):
  (loadVar t ⟨B,o,none⟩).run P w=.ok (.agg ((List.range n).map f).toArray) w:=by
 obtain⟨d,hd,L,V⟩:=JY h
 have O:=yR (w:=w) hd
 have M:=eu (w:=w) V
 have R:=run_loadCells (P:=P) w ⟨B,o,none⟩ n f (λj D=>by rw[iK];exact Z j D)
 simp only[loadVar,f8,O,L,fp,kv,M,R,km]
theorem lB(h:yO P t=some none) {B:Nat} {v:Value} (M:w.cell? ⟨B,o,none⟩=some v):
  (loadVar t ⟨B,o,none⟩).run P w=.ok v w:=by
 obtain⟨d,hd,L⟩:=JZ h
 have D:=yR (w:=w) hd
 simp[loadVar,f8,D,L,fp,M]
end
end runs
theorem Ic{w:World} {π:Nat->Nat->Prop} {cs:List AV} {f:Nat->Value} {off:Nat} {M:Option Nat} {a:AV}
  (hs:∀(j:Nat) (x:AV),cs[j]? =some x->x.scalar=true) (hd:∀(j:Nat) (x:AV),cs[j]? =some x->DV w π x (f j)) (h:aB cs off M=some a):
  match M with
  |none=>DV w π a (f off)/\off<cs.length
  |some n=>off+n<=cs.length/\DV w π a (.agg ((List.range n).map λj=>f (off+j)).toArray):=by
 cases M with
 |none=>
  simp only[aB]at h;refine⟨hd _ _ h,?_⟩
  rcases lj off cs.length with h'|h'
  ·exact h'
  ·rw[kb h']at h;cases h
 |some n=>
  simp only[aB]at h;split at h
  ·rename_i R
   cases h
   have V:∀(i:Nat) (x:AV),((cs.drop off).take n)[i]? =some x->i<n/\cs[off+i]? =some x:=by
    intro i x D;rw[ws]at D;split at D
    ·rename_i L;exact⟨L,by simpa using D⟩
    ·cases D
   refine⟨R,.agg _ _ (by simp;omega) (λx D=>?_) (λi x v D Z=>?_)⟩
   ·obtain⟨i,L⟩:=my.1 D
    exact hs _ _ (V i x L).2
   ·obtain⟨L,O⟩:=V i x D
    have:v=f (off+i):=by simpa[L]using Z.symm
    rw[this];exact hd _ _ O
  ·cases h
section ops
variable{P:Program} {nt:Nat} {n0:gw} {w0:World} {π0:Nat->Nat->Prop} {U:Nat->Prop} {s:S} {a:Act} {w:World} {β:Nat->Nat} {τ:Nat->Value} {π:Nat->Nat->Prop}
section
variable {K:SV->S->Prop} {X:Operand} {id:Nat} {t:TypeId} {x:aM}
theorem pN.cells{B:Nat} {x:bH} (h:pN τ w π B x):∃f:Nat->Value,(∀j,j<x.cells.length->w.cell? ⟨B,j,none⟩=some (f j))/\(∀(j:Nat) (y:AV),x.cells[j]? =some y->y.scalar=true)/\
  (∀(j:Nat) (y:AV),x.cells[j]? =some y->DV w π y (f j))/\∀o q,dJ o x.tags=some q->f o=τ q:=by
 obtain⟨D,Z,h1,O,h3,h4,_⟩:=h
 refine⟨λj=>D.getD j undef,λj hj=>?_,λj y L=>h3 y (et L),λj y L=>?_,λo q V=>?_⟩
 ·have hl:j<D.size:=by have:=O.1;simp at this;omega
  rw[xr w B j D Z (0,0) h1];simp[hl]
 ·obtain⟨v,R,hd⟩:=O.get L
  have:D[j]? =some v:=by
   have M:j<x.cells.length:=by
    rcases lj j x.cells.length with h|h
    ·exact h
    ·rw[kb h]at L;cases L
   rw[r0 M]at R;simpa using R
  simp[this,hd]
 ·simp[h4 o q V]
theorem Rel.load(R:Rel P nt n0 w0 π0 U s a w β τ π) {sz:Option Nat} (hx:cn X=some x) (ht:yO P t=some sz) (h:bn (Pure P) id (.ld x sz) K s):∃v y,(Instr.loadAt t (a.eval X)).run P w=.ok y w/\RV β τ w π v y/\v.gK U/\K v s:=by
 simp only[bn]at h
 cases ho:Eng.bJ s x with
 |none=>rw[ho]at h;exact h.elim
 |some p=>
  rw[ho]at h;obtain⟨hr,hu⟩:=R.bJ hx ho
  cases p with
  |dat b q=>exact h.elim
  |undef=>exact h.elim
  |vs _ _ _ _=>exact h.elim
  |mL _ _ _=>exact h.elim
  |raw _ _=>exact h.elim
  |pt _ _=>exact h.elim
  |ptr b off=>
   simp only[ax]at h
   cases hb:bO b s.boxes with
   |none=>rw[hb]at h;exact h.elim
   |some z=>
    rw[hb]at h;simp only[ax]at h
    cases V:aB z.cells off sz with
    |none=>rw[V]at h;exact h.elim
    |some av=>
     rw[V]at h;obtain⟨h1,h2,h3,h4⟩:=R.boxes b z hb;obtain⟨f,hf,hs,hd,aa⟩:=h3.cells
     have L:=Ic hs hd V
     have he:a.eval X=.pointer (some ⟨β b,off,none⟩):=hr
     cases sz with
     |none=>
      obtain⟨D,Z⟩:=L
      refine⟨.dat av (dJ off z.tags),f off,by simp only[he,Instr.loadAt,Instr.sureAddr,f8,km,fp];exact lB ht (hf off Z),⟨D,λq M=>aa off q M⟩,?_,h⟩
      cases M:dJ off z.tags with
      |none=>trivial
      |some q=>exact h4 off q M
     |some n=>
      obtain⟨ab,D⟩:=L
      refine⟨.dat av none,_,by simp only[he,Instr.loadAt,Instr.sureAddr,f8,km,fp];exact lA ht (λj hj=>hf (off+j) aaN),⟨D,λq M=>by cases M⟩,trivial,h⟩
  |rp cs=>
   simp only[ax]at h
   cases V:aB cs 0 sz with
   |none=>rw[V]at h;exact h.elim
   |some av=>
    rw[V]at h;obtain⟨B,off,f,he,hs,_,hf,hd⟩:=hr
    have L:=Ic hs hd V
    have O:∀j,j<cs.length->w.cell? ⟨B,off+j,none⟩=some (f j):=λj hj=>hf j cs[j] (eh hj)
    cases sz with
    |none=>
     obtain⟨D,Z⟩:=L
     refine⟨.dat av none,f 0,by simp only[he,Instr.loadAt,Instr.sureAddr,f8,km,fp];exact lB ht (O 0 Z),⟨D,λq M=>by cases M⟩,trivial,h⟩
    |some n=>
     obtain⟨ab,D⟩:=L
     refine⟨.dat av none,_,by simp only[he,Instr.loadAt,Instr.sureAddr,f8,km,fp];exact lA ht (λj hj=>O j aaN),⟨by simpa using D,λq M=>by cases M⟩,trivial,h⟩
theorem Ie{w:World} {π:Nat->Nat->Prop} {av:AV} {u:Value} (h:DV w π av u) (D:av.scalar=true):u.cells.toList=[u]:=by
 cases h<;>first|rfl|(simp[AV.scalar]at D)
theorem iL{α:Type} (l ps:List α) (off:Nat) (h:off+ps.length<=l.length) (i:Nat):
  (l.take off++ps++l.drop (off+ps.length))[i]? =if i<off then l[i]? else if i<off+ps.length then ps[i-off]? else l[i]?:=by
 have M:(l.take off).length=off:=by simp;omega
 by_cases D:i<off
 ·rw[ib D,List.append_assoc,kp aaN,ws,ib D]
 ·rw[ge D]
  by_cases L:i<off+ps.length
  ·rw[ib L,List.append_assoc,kt aaN,kp aaN,M]
  ·rw[ge L,kt (by simp;omega),lw]
   congr 1
   simp;omega
theorem DB{l:List (Nat×Nat)} {p:Nat×Nat->Bool} {o q:Nat} (h:dJ o (l.filter p)=some q) (M:∀x:Nat×Nat,p x=p (x.1,0)):dJ o l=some q/\p (o,0)=true:=by
 induction l with
 |nil=>simp[dJ]at h
 |cons x r O=>
  obtain⟨m,v⟩:=x;rw[H2]at h
  by_cases D:p (m,v)=true
  ·rw[ib D]at h
   simp only[dJ]at h⊢
   by_cases e:o=m
   ·subst e;simp at h⊢;exact⟨h,by rw[<-M (o,v)];exact D⟩
   ·have L:(o==m)=false:=by simpa using e
    simp only[L,er]at h⊢;exact O h
  ·rw[ge D]at h
   obtain⟨V,R⟩:=O h;refine⟨?_,R⟩;simp only[dJ]
   have e:o≠m:=λe=>D (by subst e;rw[M (o,v)];exact R)
   have L:(o==m)=false:=by simpa using e
   simp only[L,er];exact V
theorem Rel.store(R:Rel P nt n0 w0 π0 U s a w β τ π) {V:Operand} {v:aM} {z:Nat} (hx:cn X=some x) (hv:cn V=some v) (ht:f7 P t=some z) (h:bn (Pure P) id (.st x v z) K s):∃s' w',(Instr.storeAt t (a.eval X) (a.eval V)).run P w=.ok () w'/\K .undef s'/\Rel P nt n0 w0 π0 U s' a w' β τ π:=by
 simp only[bn]at h
 cases ho:Eng.bJ s x with
 |none=>rw[ho]at h;exact h.elim
 |some p=>
  rw[ho]at h;obtain⟨hr,M⟩:=R.bJ hx ho
  cases p with
  |dat b q=>exact h.elim
  |undef=>exact h.elim
  |vs _ _ _ _=>exact h.elim
  |mL _ _ _=>exact h.elim
  |raw _ _=>exact h.elim
  |pt _ _=>exact h.elim
  |rp cs=>exact h.elim
  |ptr b off=>
   simp only[ax]at h
   cases hb:bO b s.boxes with
   |none=>rw[hb]at h;exact h.elim
   |some y=>
    rw[hb]at h;simp only[ax]at h
    cases ad:Eng.bJ s v with
    |none=>rw[ad]at h;exact h.elim
    |some u=>
     rw[ad]at h
     cases u with
     |undef=>exact h.elim
     |vs _ _ _ _=>exact h.elim
     |mL _ _ _=>exact h.elim
     |raw _ _=>exact h.elim
     |pt _ _=>exact h.elim
     |rp cs=>exact h.elim
     |ptr _ _=>exact h.elim
     |dat av q=>
      simp only[ax]at h;obtain⟨be,ac,bi,hK⟩:=h;obtain⟨⟨ao,a2⟩,ba⟩:=R.bJ hv ad
      have he:a.eval X=.pointer (some ⟨β b,off,none⟩):=hr
      obtain⟨h1,h2,⟨O,el,hh,ag,ar,a7,bl⟩,h4⟩:=R.boxes b y hb
      have bj:y.cells.length<=O.size:=by have:=ag.1;simp at this;omega
      have ak:∀vs,av≠.de vs:=λvs e=>by subst e;simp[gS]at be
      obtain⟨aa,au⟩:=ao.cells ak
      have D:(a.eval V).cells.toList.length=z:=by rw[<-aa.1];exact ac
      have a4:∀u∈(a.eval V).cells.toList,u.oneCell'=true:=by
       intro u M
       obtain⟨i,hi⟩:=my.1 M
       have Z:i<av.cells.length:=by
        rw[aa.1]
        rcases lj i (a.eval V).cells.toList.length with h|h
        ·exact h
        ·rw[kb h]at hi;cases hi
       have a6:=eh Z
       exact(aa.2 i _ _ a6 hi).N7 (au _ (xn Z))
      have am:=run_storeCells_at (P:=P) (β b) off el (a.eval V).cells.toList 0 O w hh (by rw[D];omega) a4
      simp only[sh]at am
      have a3:(Instr.storeAt t (a.eval X) (a.eval V)).run P w=.ok () (w.setRow (β b) (O.toList.take off++(a.eval V).cells.toList++O.toList.drop (off+(a.eval V).cells.toList.length)).toArray):=by
       have a9:(a.eval V).cells.size=z:=by simpa using D
       simp[he,Instr.storeAt,Instr.sureAddr,storeVar,eu (w:=w) ht,a9,am]
      refine⟨_,_,a3,hK,R.Sb hb hh ?_ ?_ ?_⟩
      ·--cells
       have an:(setCells y.cells off av.cells).length=y.cells.length:=by simp[setCells];omega
       refine⟨?_,λi c u hc M=>?_⟩
       ·simp only[an];simp only[H1,s8,List.length_drop,PH,D];omega
       ·simp only[an]at M
        have Z:i<y.cells.length:=by
         rcases lj i (setCells y.cells off av.cells).length with h|h
         ·omega
         ·simp only[]at hc;rw[kb h]at hc;cases hc
        rw[r0 Z]at M
        rw[iL _ _ _ (by rw[D];simp;omega)]at M
        simp only[setCells]at hc
        rw[iL _ _ _ aaN]at hc
        rw[D]at M;rw[ac]at hc;split at hc
        ·rename_i hi;rw[ib hi]at M;exact ag.2 i c u hc (by rw[r0 Z];exact M)
        ·rename_i hi
         rw[ge hi]at M;split at hc
         ·rename_i ae;rw[ib ae]at M;exact aa.2 _ c u hc M
         ·rename_i ae;rw[ge ae]at M;exact ag.2 i c u hc (by rw[r0 Z];exact M)
      ·intro c hc
       simp only[setCells,lh]at hc
       rcases hc with(hc|hc)|hc
       ·exact ar c (ul hc)
       ·exact au c hc
       ·exact ar c (pC hc)
      ·intro o q' L
       have ab:∀(o q':Nat),dJ o (y.tags.filter λp=>p.1<off||off+z<=p.1)=some q'->(O.toList.take off++(a.eval V).cells.toList++O.toList.drop (off+(a.eval V).cells.toList.length)).toArray[o]? =some (τ q')/\U q':=by
        intro o q' L
        obtain⟨al,bd⟩:=DB L (λx=>rfl)
        refine⟨?_,h4 o q' al⟩
        have:=a7 o q' al
        rw[xv,iL _ _ _ (by rw[D];simp;omega),D]
        simp at bd;split
        ·simpa using this
        ·rw[ge aaN];simpa using this
       cases q with
       |none=>exact ab o q' L
       |some q=>
        simp only[dJ]at L
        by_cases e:o=off
        ·subst e
         simp at L;subst L
         have a5:av.scalar=true:=by cases av<;>simp_all [gS,AV.scalar]
         have a8:(a.eval V).cells.toList=[a.eval V]:=Ie ao a5
         refine⟨?_,ba⟩
         rw[xv,iL _ _ _ (by rw[D];simp;omega),a8]
         simp only[List.length_singleton,Nat.lt_irrefl,il,Nat.lt_add_one,kv,Nat.sub_self]
         simpa using a2 q rfl
        ·have hf:(o==off)=false:=by simpa using e
         simp only[hf,er]at L;exact ab o q' L
end
end ops
open Go.RowKit (Below)
section
variable{P:Program} {w:World} {π:Nat->Nat->Prop}
section
variable {a b:Ieee.Datum} {k:IntKind} {n:Int} {op:BinOp} {v:AV} {x y:Int}
theorem DV.Wr{v:Value} (h:DV w π (.int k n) v):v=.int k n:=by cases h;rfl
theorem DV.uA{b:Bool} {v:Value} (h:DV w π (.bool b) v):v=.bool b:=by cases h;rfl
theorem uB(h:BB op k x y=some n):(Op.intBits op k x y).run P w=.ok (.int k n) w:=by
 unfold BB at h;unfold Op.intBits
 split at h<;>first|(cases h;rfl)|cases h
theorem Ws(M:op≠.shl) (O:op≠.shr) (h:oG op k x y=some v) (t:TypeId):∃u,(binOp op t (.int k x) (.int k y)).run P w=.ok u w/\DV w π v u:=by
 cases op<;>simp only[oG]at h
 case add=>cases h;exact⟨_,by simp[binOp,Op.intArith],.int _ _⟩
 case sub=>cases h;exact⟨_,by simp[binOp,Op.intArith],.int _ _⟩
 case mul=>cases h;exact⟨_,by simp[binOp,Op.intArith],.int _ _⟩
 case quo=>
  split at h
  ·cases h
  ·rename_i L;cases h;exact⟨_,by simp[binOp,Op.intDiv,L],.int _ _⟩
 case rem=>
  split at h
  ·cases h
  ·rename_i L;cases h;exact⟨_,by simp[binOp,Op.intDiv,L],.int _ _⟩
 case and=>simp only[eg]at h;obtain⟨n,D,rfl⟩:=h;exact⟨_,by simp only[binOp,ne_eq,IN,il];exact uB D,.int _ _⟩
 case or=>simp only[eg]at h;obtain⟨n,D,rfl⟩:=h;exact⟨_,by simp only[binOp,ne_eq,IN,il];exact uB D,.int _ _⟩
 case xor=>simp only[eg]at h;obtain⟨n,D,rfl⟩:=h;exact⟨_,by simp only[binOp,ne_eq,IN,il];exact uB D,.int _ _⟩
 case andNot=>simp only[eg]at h;obtain⟨n,D,rfl⟩:=h;exact⟨_,by simp only[binOp,ne_eq,IN,il];exact uB D,.int _ _⟩
 case shl=>exact absurd rfl M
 case shr=>exact absurd rfl O
 case eql=>cases h;exact⟨_,by simp[binOp,Op.intCmp],.bool _⟩
 case neq=>cases h;exact⟨_,by simp[binOp,Op.intCmp],.bool _⟩
 case lss=>cases h;exact⟨_,by simp[binOp,Op.intCmp],.bool _⟩
 case leq=>cases h;exact⟨_,by simp[binOp,Op.intCmp],.bool _⟩
 case gtr=>cases h;exact⟨_,by simp[binOp,Op.intCmp],.bool _⟩
 case geq=>cases h;exact⟨_,by simp[binOp,Op.intCmp],.bool _⟩
theorem GI(h:ur op k x y=some v):∃u,(∀L:IntKind,(Op.shift op k x L y).run P w=.ok u w)/\DV w π v u:=by
 unfold ur at h;split at h
 ·cases h
 ·rename_i D
  split at h
  ·cases h;exact⟨_,by simp[Op.shift,D],.int _ _⟩
  ·cases h;exact⟨_,by simp[Op.shift,D],.int _ _⟩
  ·cases h
theorem uC{n:Nat} (h:Gj n=true):∃s p,FloatKind.f64.format.read n=.nan s p:=by
 unfold Gj FloatKind.decode at h;split at h
 ·rename_i s p D;exact⟨s,p,D⟩
 ·cases h
theorem Wt(x y t:Nat):(Question.nanBits .f64 x y).cut t=(t%2)*9223372036854775808+9218868437227405312+1+(t/2)%4503599627370495:=by
 simp only[Question.cut,Nat.reducePow,Nat.reduceSub]
theorem Sd(f:Ieee.Format) (n:Nat) (D:f.infRung<n%f.signWeight) (L:f.binade<=f.infRung):f.read n=.nan (n/f.signWeight%2==1) (n%f.signWeight-f.infRung):=by
 unfold Ieee.Format.read
 rw[ge aaN,ge aaN,ge aaN]
theorem aaW(n:Nat) (D:Ieee.double.infRung<n%Ieee.double.signWeight):Gj n=true:=by
 unfold Gj FloatKind.decode
 rw[show FloatKind.f64.format=Ieee.double from rfl,Sd _ _ D (by decide+kernel)]
theorem Se(a m k i s:Nat) (D:s=k+i) (L:a<2) (hm:i+1+m<s):i<(a*s+i+1+m)%s:=by
 have h:a=0\/a=1:=aaN
 rcases h with rfl|rfl
 ·rw[show 0*s+i+1+m=i+1+m by omega,B0 hm];omega
 ·rw[show 1*s+i+1+m=s+(i+1+m)by omega,Nat.add_mod_left,B0 hm];omega
theorem BE(x y t:Nat):Gj ((Question.nanBits .f64 x y).cut t)=true:=by
 apply aaW
 rw[Wt]
 have D:Ieee.double.signWeight=9223372036854775808:=by decide+kernel
 have L:Ieee.double.infRung=9218868437227405312:=by decide+kernel
 rw[D,L]
 have:=QR (t/2) (y:=4503599627370495) aaO
 generalize t/2%4503599627370495=m at*
 exact Se _ _ 4503599627370496 _ _ aaO (QR _ aaO) aaN
def ZY(w w':World):Prop:=w'=w\/w'=w.drew
theorem ZY.dv{w w':World} {π:Nat->Nat->Prop} (h:ZY w w') {u:Value} (hd:DV w π v u):DV w' π v u:=by
 rcases h with rfl|rfl
 ·exact hd
 ·exact DV.mono (w:=w) (w':=w.drew) (π:=π) (λ_ _ h=>h) (λ_ _ _=>rfl) hd
theorem qj{x y:Nat} (D:op=.add/\FloatKind.f64.format.add x y=none\/op=.sub/\FloatKind.f64.format.sub x y=none\/op=.mul/\FloatKind.f64.format.mul x y=none\/op=.quo/\FloatKind.f64.format.div x y=none) (t:TypeId):
  ∃u,(binOp op t (.float .f64 x) (.float .f64 y)).run P w=.ok u w.drew/\DV w π .fc u:=by
 rcases D with⟨rfl,h⟩|⟨rfl,h⟩|⟨rfl,h⟩|⟨rfl,h⟩<;>
 exact⟨.float .f64 ((Question.nanBits .f64 x y).cut (w.tape w.drawn (Question.nanBits .f64 x y))),by simp[binOp,Op.floatArith,h,Question.forced],.fc _ (BE _ _ _)⟩
theorem PW{k:FloatKind} {x y:Nat} (h:Dn op k x y=some v) (t:TypeId):∃u w',ZY w w'/\(binOp op t (.float k x) (.float k y)).run P w=.ok u w'/\DV w π v u:=by
 have O:∀(o:Option Nat),Mx k o=some v->(∃r,o=some r/\v=.float k r)\/(o=none/\k=.f64/\v=.fc):=by
  intro o M
  cases o with
  |some r=>left;cases k<;>(simp only[Mx,gc]at M;exact⟨r,rfl,M.symm⟩)
  |none=>
   cases k
   ·cases M
   ·right;simp only[Mx,gc]at M;exact⟨rfl,rfl,M.symm⟩
 cases op<;>simp only[Dn]at h<;>try(cases h;done)
 case add=>
  rcases O _ h with⟨n,D,rfl⟩|⟨D,rfl,rfl⟩
  ·exact⟨_,w,.inl rfl,by simp[binOp,Op.floatArith,D],.float _ _⟩
  ·obtain⟨u,L,hd⟩:=qj (P:=P) (w:=w) (π:=π) (op:=.add) (.inl ⟨rfl,D⟩) t
   exact⟨u,_,.inr rfl,L,hd⟩
 case sub=>
  rcases O _ h with⟨n,D,rfl⟩|⟨D,rfl,rfl⟩
  ·exact⟨_,w,.inl rfl,by simp[binOp,Op.floatArith,D],.float _ _⟩
  ·obtain⟨u,L,hd⟩:=qj (P:=P) (w:=w) (π:=π) (op:=.sub) (.inr (.inl ⟨rfl,D⟩)) t
   exact⟨u,_,.inr rfl,L,hd⟩
 case mul=>
  rcases O _ h with⟨n,D,rfl⟩|⟨D,rfl,rfl⟩
  ·exact⟨_,w,.inl rfl,by simp[binOp,Op.floatArith,D],.float _ _⟩
  ·obtain⟨u,L,hd⟩:=qj (P:=P) (w:=w) (π:=π) (op:=.mul) (.inr (.inr (.inl ⟨rfl,D⟩))) t
   exact⟨u,_,.inr rfl,L,hd⟩
 case quo=>
  rcases O _ h with⟨n,D,rfl⟩|⟨D,rfl,rfl⟩
  ·exact⟨_,w,.inl rfl,by simp[binOp,Op.floatArith,D],.float _ _⟩
  ·obtain⟨u,L,hd⟩:=qj (P:=P) (w:=w) (π:=π) (op:=.quo) (.inr (.inr (.inr ⟨rfl,D⟩))) t
   exact⟨u,_,.inr rfl,L,hd⟩
 all_goals(cases h;exact⟨_,w,.inl rfl,by simp[binOp,Op.floatCmp],.bool _⟩)
theorem N9(h:(∃s p,a=.nan s p)\/∃s p,b=.nan s p):a.sum b=none:=by
 rcases h with⟨s,p,rfl⟩|⟨s,p,rfl⟩<;>first|rfl|(cases a<;>rfl)
theorem J0(h:(∃s p,a=.nan s p)\/∃s p,b=.nan s p):a.product b=none:=by
 rcases h with⟨s,p,rfl⟩|⟨s,p,rfl⟩<;>first|rfl|(cases a<;>rfl)
theorem Ig{d:Nat} (h:(∃s p,a=.nan s p)\/∃s p,b=.nan s p):a.quotient d b=none:=by
 rcases h with⟨s,p,rfl⟩|⟨s,p,rfl⟩<;>first|rfl|(cases a<;>rfl)
theorem vT(h:(∃s p,a=.nan s p)\/∃s p,b=.nan s p):a.order b=none:=by
 rcases h with⟨s,p,rfl⟩|⟨s,p,rfl⟩<;>first|rfl|(cases a<;>rfl)
theorem Ih{x y:Nat} (Z:Gj x=true\/Gj y=true) (h:xG op=some v) (t:TypeId):∃u w',ZY w w'/\(binOp op t (.float .f64 x) (.float .f64 y)).run P w=.ok u w'/\DV w π v u:=by
 have D:(∃s p,FloatKind.f64.format.read x=.nan s p)\/∃s p,FloatKind.f64.format.read y=.nan s p:=Z.imp uC uC
 have L:∀d:Ieee.Datum,(∃s p,d=.nan s p)->∃s p,d.opposite=.nan s p:=λd ⟨s,p,h⟩=>by subst h;exact⟨_,_,rfl⟩
 have M:FloatKind.f64.format.order x y=none:=vT D
 have arith:∀o:BinOp,(o=.add\/o=.sub\/o=.mul\/o=.quo)->v=.fc->op=o->∃u w',ZY w w'/\(binOp op t (.float .f64 x) (.float .f64 y)).run P w=.ok u w'/\DV w π v u:=by
  intro o M O R;subst R O
  have:op=.add/\FloatKind.f64.format.add x y=none\/op=.sub/\FloatKind.f64.format.sub x y=none\/op=.mul/\FloatKind.f64.format.mul x y=none\/op=.quo/\FloatKind.f64.format.div x y=none:=by
   rcases M with rfl|rfl|rfl|rfl
   ·exact .inl ⟨rfl,by simp[Ieee.Format.add,N9 D]⟩
   ·exact .inr (.inl ⟨rfl,by simp[Ieee.Format.sub,N9 (D.imp id (L _))]⟩)
   ·exact .inr (.inr (.inl ⟨rfl,by simp[Ieee.Format.mul,J0 D]⟩))
   ·exact .inr (.inr (.inr ⟨rfl,by simp[Ieee.Format.div,Ig D]⟩))
  obtain⟨u,V,hd⟩:=qj (P:=P) (w:=w) (π:=π) this t
  exact⟨u,_,.inr rfl,V,hd⟩
 cases op<;>simp only[xG,gc]at h<;>try(cases h;done)
 case add=>exact arith .add (.inl rfl) h.symm rfl
 case sub=>exact arith .sub (.inr (.inl rfl)) h.symm rfl
 case mul=>exact arith .mul (.inr (.inr (.inl rfl))) h.symm rfl
 case quo=>exact arith .quo (.inr (.inr (.inr rfl))) h.symm rfl
 all_goals(subst h;exact⟨_,w,.inl rfl,by simp[binOp,Op.floatCmp,M],.bool _⟩)
end
section
variable {X Y:Operand} {a b:AV} {op:BinOp} {t:TypeId} {v:AV} {x y:Value}
theorem Sf{P:Program} {w:World} (h:P.underlying t=some .bool) (x y:Bool):(Op.equal t (.bool x) (.bool y)).run P w=.ok (x==y) w:=by
 exact run_equalIn_bool' w 9999 t x y h
theorem ir(op:BinOp) (t:TypeId) (X Y:Operand) {x y:Value} (D:∀u,x≠.agg u) (L:x≠.nilIface):(eqGuard op t X Y x y).run P w=.ok () w:=by
 unfold eqGuard
 cases x<;>first|exact absurd rfl L|exact absurd rfl (D _)|(cases op<;>rfl)
theorem Wu(ht:N4 P t=true) (h:d7 op a b=some v) (M:DV w π a x) (O:DV w π b y):
  ∃u w',ZY w w'/\(do eqGuard op t X Y x y;binOp op t x y:Sem Value).run P w=.ok u w'/\DV w π v u:=by
 unfold d7 at h;split at h
 ·cases M;cases O
  obtain⟨u,L,hd⟩:=GI (P:=P) (w:=w) (π:=π) h
  refine⟨u,w,.inl rfl,?_,hd⟩
  rw[f8,ir _ _ _ _ (λ_ h=>by cases h) (λh=>by cases h)]
  exact L .i64
 ·cases M;cases O
  obtain⟨u,L,hd⟩:=GI (P:=P) (w:=w) (π:=π) h
  refine⟨u,w,.inl rfl,?_,hd⟩
  rw[f8,ir _ _ _ _ (λ_ h=>by cases h) (λh=>by cases h)]
  exact L .i64
 ·rename_i V Z
  split at h
  ·rename_i hk
   subst hk;cases M;cases O
   obtain⟨u,L,hd⟩:=Ws (P:=P) (w:=w) (π:=π) (λe=>V e) (λe=>Z e) h t
   refine⟨u,w,.inl rfl,?_,hd⟩
   rw[f8,ir _ _ _ _ (λ_ h=>by cases h) (λh=>by cases h)]
   exact L
  ·cases h
 ·split at h
  ·rename_i hk
   subst hk;cases M;cases O
   obtain⟨u,w',D,L,hd⟩:=PW (P:=P) (w:=w) (π:=π) h t
   refine⟨u,w',D,?_,hd⟩
   rw[f8,ir _ _ _ _ (λ_ h=>by cases h) (λh=>by cases h)]
   exact L
  ·cases h
 ·cases M with
  |fc n R=>
   cases O
   obtain⟨u,w',D,L,hd⟩:=Ih (P:=P) (w:=w) (π:=π) (.inl R) h t
   refine⟨u,w',D,?_,hd⟩
   rw[f8,ir _ _ _ _ (λ_ h=>by cases h) (λh=>by cases h)]
   exact L
 ·cases O with
  |fc n R=>
   cases M
   obtain⟨u,w',D,L,hd⟩:=Ih (P:=P) (w:=w) (π:=π) (.inr R) h t
   refine⟨u,w',D,?_,hd⟩
   rw[f8,ir _ _ _ _ (λ_ h=>by cases h) (λh=>by cases h)]
   exact L
 ·cases M with
  |fc n R=>
   cases O
   obtain⟨u,w',D,L,hd⟩:=Ih (P:=P) (w:=w) (π:=π) (.inl R) h t
   refine⟨u,w',D,?_,hd⟩
   rw[f8,ir _ _ _ _ (λ_ h=>by cases h) (λh=>by cases h)]
   exact L
 ·cases h
theorem aaX{neg:Bool} (L:(op=.eql/\neg=false)\/(op=.neq/\neg=true)) (D:RR P t=true) (h:bbA neg a b=some v) (O:DV w π a x) (V:DV w π b y):
  ∃u,(do eqGuard op t X Y x y;binOp op t x y:Sem Value).run P w=.ok u w/\DV w π v u:=by
 have R:P.underlying t=some .bool:=by
  unfold RR at D;split at D
  ·assumption
  ·cases D
 unfold bbA at h;split at h
 ·cases O;cases V;cases h
  rename_i x y
  have M:=Sf (w:=w) R x y
  rcases L with⟨rfl,rfl⟩|⟨rfl,rfl⟩
  ·refine⟨.bool (x==y),?_,.bool _⟩
   rw[f8,ir _ _ _ _ (λ_ h=>by cases h) (λh=>by cases h)]
   simp[binOp,M]
  ·refine⟨.bool (x !=y),?_,.bool _⟩
   rw[f8,ir _ _ _ _ (λ_ h=>by cases h) (λh=>by cases h)]
   simp[binOp,M,bne]
 ·cases h
theorem aaY{op:UnOp} (h:ZU op a=some v) (D:DV w π a x):∃u,(Op.unary op x).run P w=.ok u w/\DV w π v u:=by
 unfold ZU at h;split at h
 ·cases D;cases h;exact⟨_,rfl,.int _ _⟩
 ·cases D
  simp only[eg]at h;obtain⟨n,L,rfl⟩:=h;exact⟨_,uB L,.int _ _⟩
 ·cases D;cases h;exact⟨_,rfl,.float _ _⟩
 ·cases D;cases h;exact⟨_,rfl,.bool _⟩
 ·cases h
theorem Sg{s d:TypeId} {X:Operand} {M:aM} {c:bG} (D:JV P s d M=some c) (O:DV w π a x) (h:(∃k,c=.qi k M/\Dp k a=some v)\/(∃k,c=.Gi k M/\Dq k a=some v)\/(∃k,c=.JN k M/\yI k a=some v)):
  ∃u,(convert s d x).run P w=.ok u w/\DV w π v u:=by
 unfold JV at D;split at D
 ·rename_i R V L hd
  cases D
  rcases h with⟨k,e,h⟩|⟨k,e,h⟩|⟨k,e,h⟩<;>try(cases e;done)
  cases e;unfold Dp at h;split at h
  ·cases O;cases h
   exact⟨_,by simp[convert,im L,im hd,Conv.intToInt],.int _ _⟩
  ·cases h
 ·rename_i R V L hd
  cases D
  rcases h with⟨k,e,h⟩|⟨k,e,h⟩|⟨k,e,h⟩<;>try(cases e;done)
  cases e;unfold Dq at h;split at h
  ·cases O;cases h
   exact⟨_,by simp[convert,im L,im hd,Conv.intToFloat],.float _ _⟩
  ·cases h
 ·rename_i R V L hd
  cases D
  rcases h with⟨k,e,h⟩|⟨k,e,h⟩|⟨k,e,h⟩<;>try(cases e;done)
  cases e;unfold yI at h;split at h
  ·rename_i sk bb
   cases O;split at h
   ·rename_i n hn
    split at h
    ·rename_i Z
     cases h
     exact⟨_,by simp[convert,im L,im hd,Conv.floatToInt,hn,Z],.int _ _⟩
    ·cases h
   ·cases h
  ·cases h
 ·cases D
theorem Wv{e:TypeId} (D:P.underlying t=some (.slice e)) {M:Array TypeId} {Xs:Array Value} (hT:M[0]? =some t) (hX:Xs[0]? =some x) (L:DV w π a x) (h:xH a=some v) (O:TypeId):
  ∃u,(Builtin.len_ M O Xs).run P w=.ok u w/\DV w π v u:=by
 unfold xH at h;split at h
 ·cases L;cases h
  exact⟨_,by simp[Builtin.len_,hT,hX,im D];rfl,.int _ _⟩
 ·cases L<;>cases h
  ·exact⟨_,by simp[Builtin.len_,hT,hX,im D];rfl,.int _ _⟩
  ·exact⟨_,by simp[Builtin.len_,hT,hX,im D];rfl,.int _ _⟩
 ·cases h
end
end
open Go.RowKit (Below)
section
variable{P:Program} {w:World} {π:Nat->Nat->Prop}
section
variable {a:AV} {mx:Bool} {v:AV} {x:Value}
theorem Ww{i:Nat} (h:PS a i=some v) (L:DV w π a x):∃u,(Instr.extract x i).run P w=.ok u w/\DV w π v u:=by
 unfold PS at h;split at h
 ·rename_i vs
  cases L with
  |de as us M hd=>
   have O:i<vs.length:=by
    rcases lj i vs.length with h'|h'
    ·exact h'
    ·rw[kb h']at h;cases h
   have D:us[i]? =some us[i]!:=by
    have:i<us.size:=aaN
    simp[this]
   exact⟨_,by simp[Instr.extract,D],hd i v _ h D⟩
 ·cases h
theorem J1{t:TypeId} {V:Option Nat} (ht:yO P t=some V) {cs:List AV} {us:Array Value} {off:Nat} (hl:cs.length=us.size) (hs:∀a∈cs,a.scalar=true) (hd:∀(i:Nat) (a:AV) (v:Value),cs[i]? =some a->us[i]? =some v->DV w π a v) (h:aB cs off V=some v):∃u,(part t us off).run P w=.ok u w/\DV w π v u:=by
 have D:=Ic (w:=w) (π:=π) (f:=λj=>us.getD j undef) (λj x M=>hs x (et M)) (λj x M=>by
  have hj:j<us.size:=by
   rw[<-hl]
   rcases lj j cs.length with h'|h'
   ·exact h'
   ·rw[kb h']at M;cases M
  have L:us[j]? =some us[j]:=Array.getElem?_eq_getElem hj
  have:=hd j x _ M L
  simpa[hj]using this) h
 cases V with
 |none=>
  obtain⟨d,L,hg⟩:=JZ ht
  have R:=yR (w:=w) L
  have O:off<us.size:=by have:=D.2;omega
  exact⟨us[off],by simp[part,R,hg,O],by simpa[O]using D.1⟩
 |some n=>
  obtain⟨d,L,hg,hz⟩:=JY ht
  have R:=yR (w:=w) L
  have Z:=eu (w:=w) hz
  refine⟨.agg (us.extract off (off+n)),by simp[part,R,hg,Z],?_⟩
  have:us.extract off (off+n)=((List.range n).map λj=>us.getD (off+j) undef).toArray:=by
   apply Array.ext
   ·simp;omega
   ·intro i R Z
    simp at Z
    have:off+i<us.size:=aaN
    simp[this]
  rw[this];exact D.2
inductive xQ (w:World):World->Prop
 |refl:xQ w w
 |step {w':World}:xQ w w'->xQ w w'.drew
theorem xQ.dv{w w':World} {π:Nat->Nat->Prop} (h:xQ w w') {v:AV} {u:Value} (hd:DV w π v u):DV w' π v u:=by
 induction h with
 |refl=>exact hd
 |step _ D=>exact ZY.dv (Or.inr rfl) D
theorem xQ.dvs{w w':World} {π:Nat->Nat->Prop} (h:xQ w w') {v:List AV} {u:List Value} (hd:ji w π v u):ji w' π v u:=
 ⟨hd.1,λi a v D L=>h.dv (hd.2 i a v D L)⟩
theorem xQ.trans{w w' D:World} (h:xQ w w') (M:xQ w' D):xQ w D:=by
 induction M with
 |refl=>exact h
 |step _ L=>exact .step L
theorem GJ(mx:Bool) (x y t:Nat):Gj ((Question.nanMinMax .f64 mx x y).cut t)=true:=by
 have e:(Question.nanMinMax .f64 mx x y).cut t=(Question.nanBits .f64 x y).cut t:=by simp only[Question.cut]
 rw[e];exact BE x y t
theorem aaZ{x y:Nat} (h:FloatKind.f64.format.order x y=none):
  ∃u,((if mx then Builtin.max2 (.float .f64 x) (.float .f64 y)else Builtin.min2 (.float .f64 x) (.float .f64 y)):Sem Value).run P w=.ok u w.drew/\DV w π .fc u:=by
 cases mx
 ·exact⟨.float .f64 ((Question.nanMinMax .f64 false x y).cut (w.tape w.drawn (Question.nanMinMax .f64 false x y))),by simp[Builtin.min2,h,Question.forced],.fc _ (GJ _ _ _ _)⟩
 ·exact⟨.float .f64 ((Question.nanMinMax .f64 true x y).cut (w.tape w.drawn (Question.nanMinMax .f64 true x y))),by simp[Builtin.max2,h,Question.forced],.fc _ (GJ _ _ _ _)⟩
theorem Wx{b:AV} {y:Value} (h:Wn mx a b=some v) (M:DV w π a x) (O:DV w π b y):
  ∃u w',xQ w w'/\((if mx then Builtin.max2 x y else Builtin.min2 x y):Sem Value).run P w=.ok u w'/\DV w π v u:=by
 have L:∀n m:Nat,FloatKind.f64.format.order n m=none->v=.fc->x=.float .f64 n->y=.float .f64 m->∃u w',xQ w w'/\((if mx then Builtin.max2 x y else Builtin.min2 x y):Sem Value).run P w=.ok u w'/\DV w π v u:=by
  intro n m D R hx V;subst R hx V
  obtain⟨u,Z,hd⟩:=aaZ (P:=P) (w:=w) (π:=π) (mx:=mx) D
  exact⟨u,_,.step .refl,Z,hd⟩
 unfold Wn at h;split at h
 ·cases M;cases O;cases h
  cases mx<;>exact⟨_,w,.refl,rfl,.int _ _⟩
 ·split at h
  ·rename_i hk
   subst hk;cases M;cases O;rename_i k x y;split at h
   ·rename_i D
    split at h
    ·rename_i hk;subst hk;cases h;exact L _ _ D rfl rfl rfl
    ·cases h
   ·rename_i D;cases h;cases mx<;>exact⟨_,w,.refl,by simp[Builtin.max2,Builtin.min2,D],.float _ _⟩
   ·rename_i D;cases h;cases mx<;>exact⟨_,w,.refl,by simp[Builtin.max2,Builtin.min2,D],.float _ _⟩
   ·rename_i D;cases h;cases mx<;>exact⟨_,w,.refl,by simp[Builtin.max2,Builtin.min2,D],.float _ _⟩
  ·cases h
 ·cases h;cases M;cases O
  exact L _ _ (vT (.inl (uC (by assumption)))) rfl rfl rfl
 ·cases h;cases M;cases O
  exact L _ _ (vT (.inr (uC (by assumption)))) rfl rfl rfl
 ·cases h
  cases M with
  |fc n hn=>cases O with
   |fc m hm=>exact L _ _ (vT (.inl (uC hn))) rfl rfl rfl
 ·cases h
theorem MG{mx:Bool}:∀{as:List AV} {us:List Value} {a v:AV} {x:Value} {w:World},as.foldlM (Wn mx) a=some v->DV w π a x->ji w π as us->
  ∃u w',xQ w w'/\(us.foldlM (λp q=>if mx then Builtin.max2 p q else Builtin.min2 p q) x:Sem Value).run P w=.ok u w'/\DV w' π v u
 |[],us,a,v,x,w,h,M,L=>by
  have:us=[]:=rc (by simpa using L.1.symm)
  subst this;simp at h;subst h;exact⟨x,w,.refl,rfl,M⟩
 |b::as,us,a,v,x,w,h,M,L=>by
  cases us with
  |nil=>have:=L.1;simp at this
  |cons y us=>
   simp only[List.foldlM_cons,pb,io]at h;obtain⟨c,hc,h⟩:=h
   obtain⟨u,w1,D,hu,hd⟩:=Wx (P:=P) hc M (L.2 0 b y rfl rfl)
   have O:ji w π as us:=⟨by have:=L.1;simpa using this,λi a v h1 h2=>L.2 (i+1) a v (by simpa using h1) (by simpa using h2)⟩
   obtain⟨u',w2,Z,V,R⟩:=MG h (D.dv hd) (D.dvs O)
   exact⟨u',w2,D.trans Z,by simp only[List.foldlM_cons,f8,hu,fp];exact V,R⟩
end
end
section ops
variable{P:Program} {nt:Nat} {n0:gw} {w0:World} {π0:Nat->Nat->Prop} {U:Nat->Prop} {s:S} {a:Act} {w:World} {β:Nat->Nat} {τ:Nat->Value} {π:Nat->Nat->Prop}
section
variable {K:SV->S->Prop} {X:Operand} {e:TypeId} {i:aM} {id:Nat} {ps:List (Nat×Nat)} {t:TypeId} {v:Value} {x:aM} {z:Nat}
theorem ah{α:Type} {o:Option α} {k:α->Prop} (h:aj o k):∃x,o=some x/\k x:=by
 cases o with
 |none=>exact h.elim
 |some x=>exact⟨x,rfl,h⟩
theorem RV.Oa{cs:List AV} (h:RV β τ w π (.rp cs) v) (d:Nat):∃B off,v=.pointer (some ⟨B,off,none⟩)/\RV β τ w π (.rp (cs.drop d)) (.pointer (some ⟨B,off+d,none⟩)):=by
 obtain⟨B,off,f,L,O,M,R,h4⟩:=h
 refine⟨B,off,L,B,off+d,λj=>f (d+j),rfl,?_,?_,?_,?_⟩<;>intro j x D<;>rw[lw]at D
 ·exact O _ x D
 ·have:=M _ x D;rwa[<-Hb]at this
 ·have:=R _ x D;rwa[<-Hb]at this
 ·exact h4 _ x D
theorem RV.ZZ(h:RV β τ w π (.pt 2 ps) v):∃B off,v=.pointer (some ⟨B,off,none⟩)/\
  ∀(i:Nat) (p:Nat×Nat),ps[i]? =some p->π B (off+i)/\w.cell? ⟨B,off+i,none⟩=some (.pointer (some ⟨β p.1,p.2,none⟩)):=by
 obtain⟨B,off,cap,D,M,L⟩:=h
 exact⟨B,off,by simpa using D,L⟩
theorem RV.Ob{B off:Nat} (h:∀(i:Nat) (p:Nat×Nat),ps[i]? =some p->π B (off+i)/\w.cell? ⟨B,off+i,none⟩=some (.pointer (some ⟨β p.1,p.2,none⟩))):RV β τ w π (.pt 2 ps) (.pointer (some ⟨B,off,none⟩)):=
 ⟨B,off,ps.length,aaP,ik _,h⟩
theorem RV.Wy(h:RV β τ w π (.pt 2 ps) v) (d:Nat):∃B off,v=.pointer (some ⟨B,off,none⟩)/\RV β τ w π (.pt 2 (ps.drop d)) (.pointer (some ⟨B,off+d,none⟩)):=by
 obtain⟨B,off,L,M⟩:=h.ZZ
 refine⟨B,off,L,.Ob λi p D=>?_⟩
 rw[lw]at D
 have:=M _ p D
 rwa[<-Hb]at this
theorem Rel.fieldAddr(R:Rel P nt n0 w0 π0 U s a w β τ π) {f:Nat} {D:Field} (hx:cn X=some x) (V:yP P t f=some D) (hz:¬(f7 P D.type==some 0||(f7 P D.type).isNone)=true) (h:bn (Pure P) id (.fa x D.offset) K s):
  ∃v y,(Instr.fieldAt t (a.eval X) f).run P w=.ok y w/\RV β τ w π v y/\v.gK U/\K v s:=by
 have hu:∃fs:Array Field,P.underlying t=some (.struct fs)/\fs[f]? =some D:=by
  unfold yP at V;split at V
  ·exact⟨_,by assumption,V⟩
  ·cases V
 obtain⟨fs,hu,aa⟩:=hu
 obtain⟨z,ab,ac⟩:∃z,f7 P D.type=some z/\z≠0:=by
  cases hs:f7 P D.type with
  |none=>simp[hs]at hz
  |some z=>exact⟨z,rfl,λe=>by subst e;simp[hs]at hz⟩
 have ad:=eu (w:=w) ab
 have L:∀(B off:Nat),a.eval X=.pointer (some ⟨B,off,none⟩)->(Instr.fieldAt t (a.eval X) f).run P w=.ok (.pointer (some ⟨B,off+D.offset,none⟩)) w:=by
  intro B off he;simp[Instr.fieldAt,im hu,aa,he,Instr.sureAddr,fieldPlace,ad,ac,iK]
 simp only[bn]at h;obtain⟨p,Z,h⟩:=ah h;obtain⟨O,hU⟩:=R.bJ hx Z
 cases p with
 |dat _ _=>exact h.elim
 |undef=>exact h.elim
 |vs _ _ _ _=>exact h.elim
 |mL _ _ _=>exact h.elim
 |raw _ _=>exact h.elim
 |pt k ps=>
  match k,O,h with
  |2,O,h=>
   obtain⟨B,off,hv,M⟩:=RV.Wy O D.offset
   exact⟨.pt 2 (ps.drop D.offset),_,L _ _ hv,M,λp Z=>hU p (pC Z),h⟩
  |0,_,h=>exact h.elim
  |1,_,h=>exact h.elim
  |k+3,_,h=>exact h.elim
 |ptr b o=>exact⟨.ptr b (o+D.offset),_,L _ _ O,rfl,hU,h⟩
 |rp cs=>
  obtain⟨B,off,hv,M⟩:=RV.Oa O D.offset;exact⟨.rp (cs.drop D.offset),_,L _ _ hv,M,trivial,h⟩
theorem Rel.idx(R:Rel P nt n0 w0 π0 U s a w β τ π) {i:Int} {b:AV} (L:cn X=some x) (M:Eng.aG s x=some b) (D:idxOf b=some i):∃k,a.eval X=.int k i:=by
 have hd:=R.aG L M
 unfold idxOf at D;split at D
 ·rename_i k n
  cases D;exact⟨k,hd.Wr⟩
 ·cases D
theorem Rel.Si(R:Rel P nt n0 w0 π0 U s a w β τ π) {n:Nat} {I:Operand} (hx:cn X=some x) (hi:cn I=some i) (ht:P.underlying t=some (.array n e)) (hz:f7 P e=some z) (h:bn (Pure P) id (.MB x i n z) K s):
  ∃v y,(Instr.indexAt t (a.eval X) (a.eval I)).run P w=.ok y w/\RV β τ w π v y/\v.gK U/\K v s:=by
 simp only[bn]at h;obtain⟨p,Z,h⟩:=ah h;obtain⟨b,hb,h⟩:=ah h;obtain⟨j,hj,h⟩:=ah h;obtain⟨L,h⟩:=h;obtain⟨k,hk⟩:=R.idx hi hb hj;obtain⟨V,hU⟩:=R.bJ hx Z
 have O:=eu (w:=w) hz
 have D:∀(B off:Nat),a.eval X=.pointer (some ⟨B,off,none⟩)->(Instr.indexAt t (a.eval X) (a.eval I)).run P w=.ok (.pointer (some ⟨B,off+j.toNat*z,none⟩)) w:=by
  intro B off he;simp[Instr.indexAt,hk,he,asIntOf,im ht,Instr.sureAddr,L,O,iK]
 cases p with
 |dat _ _=>exact h.elim
 |undef=>exact h.elim
 |vs _ _ _ _=>exact h.elim
 |mL _ _ _=>exact h.elim
 |raw _ _=>exact h.elim
 |pt _ _=>exact h.elim
 |ptr b o=>exact⟨.ptr b (o+j.toNat*z),_,D _ _ V,rfl,hU,h⟩
 |rp cs=>
  obtain⟨B,off,hv,M⟩:=RV.Oa V (j.toNat*z)
  exact⟨.rp (cs.drop (j.toNat*z)),_,D _ _ hv,M,trivial,h⟩
theorem Rel.Wz(R:Rel P nt n0 w0 π0 U s a w β τ π) {I:Operand} (hx:cn X=some x) (hi:cn I=some i) (ht:P.underlying t=some (.slice e)) (hz:f7 P e=some z) (h:bn (Pure P) id (.V3 x i z) K s):
  ∃v y,(Instr.indexAt t (a.eval X) (a.eval I)).run P w=.ok y w/\RV β τ w π v y/\v.gK U/\K v s:=by
 simp only[bn]at h;obtain⟨u,hu,h⟩:=ah h
 have Z:=eu (w:=w) hz
 cases u with
 |ptr _ _=>exact h.elim
 |rp _=>exact h.elim
 |undef=>exact h.elim
 |mL _ _ _=>exact h.elim
 |raw _ _=>exact h.elim
 |pt _ _=>exact h.elim
 |vs b off n V=>
 obtain⟨a',hb,k2⟩:=ah h;obtain⟨j,hj,L,rfl,hK⟩:=ah k2;obtain⟨k,hk⟩:=R.idx hi hb hj;obtain⟨⟨cap,ad,hv⟩,hU⟩:=R.bJ hx hu;refine⟨.ptr b (off+j.toNat*V),.pointer (some ⟨β b,off+j.toNat*V,none⟩),?_,rfl,hU,hK⟩;rw[hv];simp[Instr.indexAt,hk,asIntOf,im ht,L,Z,iK]
 |dat l q=>
 have hl:Eng.aG s x=some l:=by simp[Eng.aG,hu]
 obtain⟨b,hb,k2⟩:=ah h;obtain⟨j,hj,k3⟩:=ah k2;obtain⟨xs,M,L,k4⟩:=ah k3;obtain⟨row,D,ac,hK⟩:=ah k4;obtain⟨k,hk⟩:=R.idx hi hb hj
 have hd:=R.aG hx hl
 have ab:l=.sl xs:=by
  cases l<;>simp only[rowsOf]at M<;>try(cases M;done)
  ·cases M;simp at L;omega
  ·cases M;rfl
 subst ab;generalize hv:a.eval X=v at hd
 cases hd with
 |PV A=>simp at D
 |sl _ B off cap V f h1 h2 h3 h4 h5 h6=>
  have aa:V=z:=by rw[<-h2 _ _ D,ac]
  subst aa
  refine⟨.rp row,.pointer (some ⟨B,off+j.toNat*V,none⟩),?_,⟨B,off+j.toNat*V,λm=>f j.toNat m,rfl,?_,?_,?_,?_⟩,trivial,hK⟩
  ·simp[Instr.indexAt,hk,asIntOf,im ht,L,Z,iK]
  ·intro m c O;exact h3 _ m row c D O
  ·intro m c O;exact h4 _ m row c D O
  ·intro m c O;exact h5 _ m row c D O
  ·intro m c O;exact h6 _ m row c D O
end
end ops
open Go.RowKit (Below)
theorem J2:∀(vs:List Value) (cells:Array Value) (off k:Nat),off+k+vs.length<=cells.size->
  ((vs.zipIdx k).foldl (λcs (c,j)=>cs.setIfInBounds (off+j) c) cells).toList=cells.toList.take (off+k)++vs++cells.toList.drop (off+k+vs.length)
 |[],cells,off,k,h=>by simp
 |v::vs,cells,off,k,h=>by
  simp only[List.zipIdx_cons,ui]
  have hk:off+k<cells.size:=by simp at h;omega
  rw[J2 vs (cells.setIfInBounds (off+k) v) off (k+1) (by simp at h⊢;omega)]
  have e:=list_seg_step cells.toList (off+k) v vs (by simp at h⊢;omega)
  simpa[Array.toList_setIfInBounds,Hb]using e
theorem vU{place:Nat->Option (Nat×Nat)} {cells:Array Value} {i off:Nat} {v:Value} {rest:List (Nat×Value)} (L:place i=some (off,v.cells.size)) (M:off+v.cells.size<=cells.size):
  ∃cells',Instr.fill place cells ((i,v)::rest)=Instr.fill place cells' rest/\cells'.toList=cells.toList.take off++v.cells.toList++cells.toList.drop (off+v.cells.toList.length)/\cells'.size=cells.size:=by
 have D:=J2 v.cells.toList cells off 0 (by simpa using M)
 refine⟨(v.cells.toList.zipIdx 0).foldl (λcs (c,j)=>cs.setIfInBounds (off+j) c) cells,?_,by simpa using D,?_⟩
 ·simp only[Instr.fill,L]
  have O:¬(off+v.cells.size>cells.size):=aaN
  simp only[ne_eq,IN,decide_false,O,PQ,eQ,il,py]
  congr 1
  rw[<-Array.foldl_toList];simp
 ·have:=rh List.length D
  simp at this;rw[<-PH,D];simp;omega
section
variable{P:Program} {w:World} {π:Nat->Nat->Prop}
theorem ji.splice{cs ps:List AV} {us vs:List Value} {off:Nat} (h:ji w π cs us) (k:ji w π ps vs) (R:off+ps.length<=cs.length):
  ji w π (cs.take off++ps++cs.drop (off+ps.length)) (us.take off++vs++us.drop (off+vs.length)):=by
 have Z:=h.1
 have V:=k.1
 refine⟨by simp;omega,λi c u M D=>?_⟩
 rw[iL _ _ _ R]at M
 rw[iL _ _ _ aaN]at D
 rw[<-V]at D;split at M
 ·rename_i O;rw[ib O]at D;exact h.2 i c u M D
 ·rename_i O
  rw[ge O]at D;split at M
  ·rename_i L;rw[ib L]at D;exact k.2 _ c u M D
  ·rename_i L;rw[ge L]at D;exact h.2 i c u M D
theorem uD{t:TypeId} {zs:List AV} (h:zeroOf P t=some zs):∃z:Value,(zeroValue t).run P w=.ok z w/\ji w π zs z.cells.toList/\∀a∈zs,a.scalar=true:=by
 unfold zeroOf at h;split at h
 ·rename_i z D
  simp only[io]at D;obtain⟨i,L,D⟩:=D
  have hm:=AW (w:=w) (π:=π) _ _ h
  exact⟨z,by simp[zeroValue,typeInfo,L,D],hm.1,hm.2⟩
 ·cases h
end
section ops
variable{P:Program} {nt:Nat} {n0:gw} {w0:World} {π0:Nat->Nat->Prop} {U:Nat->Prop} {s:S} {a:Act} {w:World} {β:Nat->Nat} {τ:Nat->Value} {π:Nat->Nat->Prop}
theorem Rel.fill(R:Rel P nt n0 w0 π0 U s a w β τ π) {t:TypeId} {place:Nat->Option (Nat×Nat)} (V:∀i o z,N5 P t i=some (o,z)->place i=some (o,z)):
  ∀(Xs:List (Nat×Operand)) (ps:List (Nat×Nat×aM)) (as:List (Nat×List AV)) (cs:List AV) (us:Array Value),AU P t Xs=some ps->gV s ps=some as->uw cs.length ps=true->
   ji w π cs us.toList->(∀c∈cs,c.scalar=true)->
   ∃L,Instr.fill place us (Xs.map λp=>(p.1,a.eval p.2))=some L/\ji w π (nN cs as) L.toList/\∀c∈nN cs as,c.scalar=true
 |[],ps,as,cs,us,O,D,h3,hd,hs=>by
  simp[AU]at O;subst O;simp[gV]at D;subst D;exact⟨us,rfl,hd,hs⟩
 |(i,X)::Xs,ps,as,cs,us,O,D,h3,hd,hs=>by
  simp only[AU]at O;split at O
  ·rename_i o z x am hp hx an
   cases O;simp only[gV]at D;split at D
   ·rename_i av ac ae has
    split at D
    ·rename_i hz
     obtain⟨hz,ao⟩:=hz;cases D;simp only[uw,ed,ii]at h3
     have al:=R.aG hx ae
     obtain⟨Z,au⟩:=al.cells (λvs e=>by subst e;simp[gS]at ao)
     have ag:(a.eval X).cells.size=z:=by have:=Z.1;simp at this;omega
     have a3:us.size=cs.length:=by have:=hd.1;simp at this;omega
     obtain⟨aa,he,ar,a4⟩:=vU (place:=place) (cells:=us) (i:=i) (off:=o) (v:=a.eval X) (rest:=Xs.map λp=>(p.1,a.eval p.2)) (by rw[ag];exact V i o z hp) aaN
     have ak:ji w π (cs.take o++av.cells++cs.drop (o+av.cells.length)) aa.toList:=by rw[ar];exact hd.splice Z aaN
     have ab:∀c∈cs.take o++av.cells++cs.drop (o+av.cells.length),c.scalar=true:=by
      intro c M;simp only[lh]at M
      rcases M with(M|M)|M
      ·exact hs c (ul M)
      ·exact au c M
      ·exact hs c (pC M)
     obtain⟨L,hf,a2,ad⟩:=R.fill V Xs am ac _ aa an has (by
      have:(cs.take o++av.cells++cs.drop (o+av.cells.length)).length=cs.length:=by simp;omega
      rw[this];exact h3.2) ak ab
     exact⟨L,by rw[ka,he];exact hf,a2,ad⟩
    ·cases D
   ·cases D
  ·cases O
theorem uE{P:Program} {w:World} {α β:Type} (xs:Array α) (f:α->Sem β) (g:α->β) (h:∀x∈xs,(f x).run P w=.ok (g x) w):(xs.mapM f).run P w=.ok (xs.map g) w:=by
 obtain⟨l⟩:=xs;rw[List.mapM_toArray,Sem.run_map]
 have:∀l:List α,(∀x∈l,(f x).run P w=.ok (g x) w)->(l.mapM f).run P w=.ok (l.map g) w:=by
  intro l
  induction l with
  |nil=>intro _;rfl
  |cons x l D=>
   intro h
   simp[rt,f8,h x aaP,D (λy L=>h y (by simp[L]))]
 rw[this l (λx M=>h x (by simpa using M))]
 simp
theorem Rel.build(R:Rel P nt n0 w0 π0 U s a w β τ π) {t:TypeId} {Xs:Array (Nat×Operand)} {zs:List AV} {ps:List (Nat×Nat×aM)} (hz:zeroOf P t=some zs) (ad:AU P t Xs.toList=some ps) (M:uw zs.length ps=true) (D:H8 P t=true)
  {id:Nat} {K:SV->S->Prop} (h:bn (Pure P) id (.build zs ps) K s):
  ∃v y,(Instr.build t (Xs.map λ(i,x)=>(i,a.eval x))).run P w=.ok y w/\RV β τ w π v y/\v.gK U/\K v s:=by
 simp only[bn]at h;obtain⟨as,has,hK⟩:=ah h
 obtain⟨z,ab,aa,ac⟩:=uD (P:=P) (w:=w) (π:=π) hz
 unfold H8 at D;split at D
 ·rename_i fs hu
  have hm:=uE (P:=P) (w:=w) fs (λf=>do pure (f.offset,<-sizeOf f.type)) (λf=>(f.offset,(f7 P f.type).getD 0)) (by
   intro f hf
   have:=(np.1 D) f (by simpa using hf)
   cases Z:f7 P f.type with
   |none=>simp[Z]at this
   |some z=>simp[eu (w:=w) Z])
  obtain⟨O,hf,hd,Z⟩:=R.fill (place:=((fs.map λf=>(f.offset,(f7 P f.type).getD 0))[·]?)) (λi o z L=>by
   unfold N5 at L;simp only[hu]at L;split at L
   ·rename_i f ag
    simp only[eg]at L;obtain⟨z',ae,e⟩:=L;cases e;simp[ag,ae]
   ·cases L) Xs.toList ps as zs z.cells ad has M aa ac
  refine⟨.dat (.agg (nN zs as)) none,.agg O,?_,⟨.agg _ _ (by have:=hd.1;simpa using this) Z (λi a v ha hv=>hd.2 i a v ha (by simpa using hv)),λt ht=>by cases ht⟩,trivial,hK⟩
  simp only[Instr.build,f8,ab,fp,im hu,hm]
  have:(Xs.map λ(i,x)=>(i,a.eval x)).toList=Xs.toList.map λp=>(p.1,a.eval p.2):=aaP
  rw[this,hf];rfl
 ·rename_i n e hu
  cases V:f7 P e with
  |none=>simp[V]at D
  |some ze=>
   obtain⟨O,hf,hd,Z⟩:=R.fill (place:=λi=>some (i*ze,ze)) (λi o z L=>by
    unfold N5 at L;simp[hu,V]at L;obtain⟨rfl,rfl⟩:=L
    rfl) Xs.toList ps as zs z.cells ad has M aa ac
   refine⟨.dat (.agg (nN zs as)) none,.agg O,?_,⟨.agg _ _ (by have:=hd.1;simpa using this) Z (λi a v ha hv=>hd.2 i a v ha (by simpa using hv)),λt ht=>by cases ht⟩,trivial,hK⟩
   simp only[Instr.build,f8,ab,fp,im hu,eu (w:=w) V]
   have:(Xs.map λ(i,x)=>(i,a.eval x)).toList=Xs.toList.map λp=>(p.1,a.eval p.2):=aaP
   rw[this,hf];rfl
 ·cases D
end ops
open Go.RowKit (Below)
theorem l5{α:Type} {z:Nat}:∀{xs:List (List α)},(∀r∈xs,r.length=z)->∀{i j:Nat} {r:List α} {a:α},xs[i]? =some r->r[j]? =some a->xs.flatten[i*z+j]? =some a
 |[],h,i,j,r,a,D,L=>by simp at D
 |x::xs,h,0,j,r,a,D,L=>by
  simp at D;subst D
  have R:j<x.length:=by
   rcases lj j x.length with M|M
   ·exact M
   ·rw[kb M]at L;cases L
  simp only[aaf,Nat.zero_mul,kr];rw[kp R];exact L
 |x::xs,h,i+1,j,r,a,D,L=>by
  have O:=h x aaP
  have:=l5 (xs:=xs) (λr D=>h r (by simp[D])) (by simpa using D) L
  simp only[aaf]
  rw[kt (by rw[O,Nat.add_mul];omega)]
  rw[O,show(i+1)*z+j-z=i*z+j by rw[Nat.add_mul];omega]
  exact this
theorem jm{α:Type} {z:Nat}:∀{xs:List (List α)},(∀r∈xs,r.length=z)->xs.flatten.length=xs.length*z
 |[],h=>by simp
 |x::xs,h=>by
  have D:=h x aaP
  have:=jm (xs:=xs) (λr L=>h r (by simp[L]))
  simp[D,this,Nat.add_mul];omega
section
variable{P:Program} {nt:Nat} {n0:gw} {w0:World} {π0:Nat->Nat->Prop} {U:Nat->Prop} {s:S} {a:Act} {w:World} {β:Nat->Nat} {τ:Nat->Value} {π:Nat->Nat->Prop}
def grow(π:Nat->Nat->Prop) (B m:Nat):Nat->Nat->Prop:=λb o=>π b o\/(b=B/\o<m)
theorem Rel.newRow(R:Rel P nt n0 w0 π0 U s a w β τ π) {xs:List (List AV)} {z cap:Nat} {cs:Array Value} (e:TypeId) (D:∀r∈xs,r.length=z) (aa:xs.length<=cap) (ac:xs.length*z<=cs.size)
  (hd:∀(i:Nat) (x:AV) (v:Value),xs.flatten[i]? =some x->cs[i]? =some v->DV w π x v) (hs:∀r∈xs,∀x∈r,x.scalar=true):
  Rel P nt n0 w0 π0 U s a (w.alloc (.cells cs e)) β τ (grow π w.heap.size (xs.length*z))/\
   DV (w.alloc (.cells cs e)) (grow π w.heap.size (xs.length*z)) (.sl xs) (.slice (some ⟨w.heap.size,0,none⟩) xs.length cap):=by
 have O:Below w.heap.size w (w.alloc (.cells cs e)):=(Below.refl _ _).alloc (ik _) _
 refine⟨R.frame (λ_ _=>rfl) (λ_ _=>rfl) (λ_ h=>h) (λ_ _ h=>.inl h) (λb o h=>?_) (λb o h=>?_) O,?_⟩
 ·rcases h with h|⟨rfl,_⟩
  ·exact .inl h
  ·exact .inr (ik _)
 ·rcases h with h|⟨rfl,_⟩
  ·have:=R.eF b o h;simp;omega
  ·simp
 ·have hmono:∀{x:AV} {v:Value},DV w π x v->DV (w.alloc (.cells cs e)) (grow π w.heap.size (xs.length*z)) x v:=λh=>h.mono (λ_ _ h=>.inl h) (λb o h=>Below.vS O (R.eF b o h))
  have Z:∀(i j:Nat) (r:List AV) (x:AV),xs[i]? =some r->r[j]? =some x->i*z+j<xs.length*z:=by
   intro i j r x L M
   have hf:=l5 D L M
   rcases lj (i*z+j) (xs.length*z)with h'|h'
   ·exact h'
   ·rw[kb (by rw[jm D];exact h')]at hf;cases hf
  refine .sl xs w.heap.size 0 cap z (λi j=>cs.getD (i*z+j) undef) aa (λi r L=>D r (et L)) (λi j r x L M=>hs r (et L) x (et M)) ?_ ?_ ?_
  ·intro i j r x L M
   exact .inr ⟨rfl,by have:=Z i j r x L M;omega⟩
  ·intro i j r x L M
   have V:=Z i j r x L M
   rw[xr _ _ _ cs e (0,0) (LE w _)]
   have:i*z+j<cs.size:=aaN
   simp[this]
  ·intro i j r x L M
   have V:i*z+j<cs.size:=by have:=Z i j r x L M;omega
   have:=hd (i*z+j) x cs[i*z+j] (l5 D L M) (Array.getElem?_eq_getElem V)
   have ab:cs.getD (i*z+j) undef=cs[i*z+j]:=by simp[V]
   rw[ab];exact hmono this
theorem kg{q k e:Nat}:∀{l:List (Nat×Nat)},dJ q (jj k l)=some e->dJ q l=some e/\q≠k
 |[],h=>by simp[jj,dJ]at h
 |(m,v)::r,h=>by
  simp only[jj]at h
  by_cases hk:k=m
  ·subst hk
   simp only[nf,fx]at h;obtain⟨O,L⟩:=kg h
   have M:(q==k)=false:=by simpa using L
   exact⟨by simp[dJ,M,O],L⟩
  ·have M:(k==m)=false:=by simpa using hk
   simp only[M,er,dJ]at h
   by_cases R:q=m
   ·subst R
    simp at h
    exact⟨by simp[dJ,h],λe=>hk e.symm⟩
   ·have D:(q==m)=false:=by simpa using R
    simp only[D,er]at h;obtain⟨O,L⟩:=kg h
    exact⟨by simp[dJ,D,O],L⟩
theorem Rel.uF(R:Rel P nt n0 w0 π0 U s a w β τ π) {id e:Nat} {v:Value} (ac:¬U id) (ht:GH P w π n0.ok e v)
  (hl:∀q M B,dJ q s.live=some M->jl (τ q)=some B->jl v≠some B) (Z:∀b x,bO b s.boxes=some x->jl v≠some (β b)):
  Rel P nt n0 w0 π0 (eN U id) {s with live:=(id,e)::s.live} a w β (Ge τ id v) π:=by
 have ab:∀b,U b->b≠id:=λb Z e=>ac (e▸Z)
 have L:Rel P nt n0 w0 π0 (eN U id) s a w β (Ge τ id v) π:=
  R.frame (λ_ _=>rfl) (λb Z=>xP _ _ _ (ab b Z)) (λn h=>.inl h) (λ_ _ h=>h) (λ_ _ h=>.inl h) R.eF (Below.refl _ _)
 have D:∀{q M},dJ q ((id,e)::s.live)=some M->(q=id/\M=e)\/(q≠id/\dJ q s.live=some M):=by
  intro q M h;simp only[dJ]at h
  by_cases V:q=id
  ·subst V;simp at h;exact .inl ⟨rfl,h.symm⟩
  ·have hf:(q==id)=false:=by simpa using V
   simp only[hf,er]at h;exact .inr ⟨V,h⟩
 refine⟨L.size,L.slots,L.boxes,L.inj,λq M h=>?_,λq q' M aa B h h' hB O=>?_,λq M b x h h' hB=>?_,L.below,L.f9,L.eF,L.ep,L.cB,L.lz,L.jb,L.kept⟩
 ·rcases D h with⟨rfl,rfl⟩|⟨_,h⟩
  ·exact⟨.inr rfl,by rw[bY];exact ht⟩
  ·exact L.live q M h
 ·rcases D h with⟨k1,_⟩|⟨V,k⟩<;>rcases D h' with⟨k1',_⟩|⟨hq',k'⟩
  ·rw[k1,k1']
  ·rw[k1,bY]at hB
   rw[xP _ _ _ hq']at O;exact absurd hB (hl q' aa B k' O)
  ·rw[k1',bY]at O
   rw[xP _ _ _ V]at hB;exact absurd O (hl q M B k hB)
  ·exact L.cw q q' M aa B k k' hB O
 ·rcases D h with⟨rfl,rfl⟩|⟨V,h⟩
  ·rw[bY]at hB;exact Z b x h' hB
  ·exact L.cz q M b x h h' hB
theorem Rel.MH(R:Rel P nt n0 w0 π0 U s a w β τ π) (q:Nat):Rel P nt n0 w0 π0 U {s with live:=jj q s.live} a w β τ π:=
 ⟨R.size,R.slots,R.boxes,R.inj,λk e h=>R.live k e (kg h).1,λk D e M B h L=>R.cw k D e M B (kg h).1 (kg L).1,λk e b x h=>R.cz k e b x (kg h).1,R.below,R.f9,R.eF,R.ep,R.cB,R.lz,R.jb,R.kept⟩
theorem Rel.J3(R:Rel P nt n0 w0 π0 U s a w β τ π) {B m:Nat} {L cur':Array Value} {e:TypeId} (hB:n0.ok B) (hh:w.heap[B]? =some (.cells L e (0,0)))
  (hsame:∀o,π B o->cur'[o]? =L[o]?) (hl:∀q M,dJ q s.live=some M->jl (τ q)≠some B) (Z:∀b x,bO b s.boxes=some x->β b≠B):
  Rel P nt n0 w0 π0 U s a (w.setRow B cur') β τ (grow π B m):=by
 have aa:=oP hh
 have D:∀k,k≠B->(w.setRow B cur').heap[k]? =w.heap[k]?:=λk hk=>setRow_other w _ k cur' hk
 have hc:∀b o,π b o->(w.setRow B cur').cell? ⟨b,o,none⟩=w.cell? ⟨b,o,none⟩:=by
  intro b o h
  by_cases M:b=B
  ·subst M
   rw[xr _ _ _ cur' e (0,0) (setRow_heap w _ L _ e _ hh),xr _ _ _ L e (0,0) hh];exact hsame o h
  ·exact aal w _ cur' ⟨b,o,none⟩ M
 have hp:∀b o,π b o->grow π B m b o:=λ_ _ h=>.inl h
 have V:∀b o,b≠B->grow π B m b o->π b o:=λb o Z h=>by
  rcases h with h|⟨h,_⟩
  ·exact h
  ·exact absurd h Z
 refine⟨R.size,λt v h=>?_,λb x h=>?_,R.inj,λq M h=>?_,R.cw,R.cz,R.below.trans ⟨rfl,rfl,rfl,aaP,λk hk hx=>D k (λe=>by subst e;exact hB.elim (λh=>aaN) hx),λk o hk O=>(D k (λe=>by subst e;rw[hh]at hk;cases hk;cases O)).trans hk⟩,R.f9,λb o h=>?_,λb o h=>hp _ _ (R.ep b o h),λb o h=>?_,R.lz,R.jb,λb o h=>(hc b o (R.ep b o h)).trans (R.kept b o h)⟩
 ·obtain⟨⟨x,hx,hv⟩,hu⟩:=R.slots t v h
  exact⟨⟨x,hx,RV.mono (λ_ _=>rfl) (λ_ _=>rfl) hp hc hu hv⟩,hu⟩
 ·obtain⟨h1,h2,h3,h4⟩:=R.boxes b x h
  refine⟨h1,h2,h3.keep (λ_ _=>rfl) h4 (D _ (Z b x h)) hp hc (λo O=>?_),h4⟩
  obtain⟨_,_,_,_,_,_,hn⟩:=h3;exact hn o (V _ o (Z b x h) O)
 ·obtain⟨h1,h2⟩:=R.live q M h
  exact⟨h1,h2.keep (λC hC=>D C (λeC=>hl q M h (by rw[hC,eC]))) (λC o hC O=>V C o (λeC=>hl q M h (by rw[hC,eC])) O)⟩
 ·rcases h with h|⟨rfl,_⟩
  ·simpa using R.eF b o h
  ·simpa using aa
 ·rcases h with h|⟨rfl,_⟩
  ·exact R.cB b o h
  ·exact .inr hB
theorem Rel.draw(R:Rel P nt n0 w0 π0 U s a w β τ π):Rel P nt n0 w0 π0 U s a w.drew β τ π:=
 R.frame (λ_ _=>rfl) (λ_ _=>rfl) (λ_ h=>h) (λ_ _ h=>h) (λ_ _ h=>.inl h) R.eF (Below.refl _ _).drew
theorem Rel.l6(R:Rel P nt n0 w0 π0 U s a w β τ π) {w':World} (h:xQ w w'):Rel P nt n0 w0 π0 U s a w' β τ π:=by
 induction h with
 |refl=>exact R
 |step _ D=>exact D.draw
end
end Go.Eng
