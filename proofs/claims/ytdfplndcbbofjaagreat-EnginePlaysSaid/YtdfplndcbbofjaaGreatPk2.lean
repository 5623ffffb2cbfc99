/- Part 2 of the engine and its library. -/
import Derived.Test.YtdfplndcbbofjaaGreatPk1
set_option linter.all false
set_option maxRecDepth 10000
set_option maxHeartbeats 4000000
namespace Go.Eng
open Go
open Go.RowKit (Below)
section
variable {P:Program} {a:AV} {as:List (Option AV)} {e:Nat} {ok:Nat->Prop} {v:Value} {vs:List Value} {w w':World} {π π':Nat->Nat->Prop}
theorem Below.vN{n:Nat} (h:Below n w w') {b o:Nat} (A:b<n):w'.cell? ⟨b,o,none⟩=w.cell? ⟨b,o,none⟩:=Below.cell h (p:=⟨b,o,none⟩) A
theorem nM{Bs:List Nat} (h:gh w π (some a::as) Bs (v::vs)):
  (a=.hole/\∃B A,Bs=B::A/\v=.agg #[.pointer (some ⟨B,0,none⟩)]/\gh w π as A vs)\/(a≠.hole/\DV w π a v/\gh w π as Bs vs):=by
 by_cases D:a=.hole
 ·subst D
  cases Bs with
  |nil=>cases h.1
  |cons B Bs=>exact .inl ⟨rfl,B,Bs,rfl,h.1,h.2⟩
 ·refine .inr ⟨D,?_⟩
  cases a<;>first|exact absurd rfl D|(cases Bs<;>exact h)
theorem xW{Bs:List Nat} (B:a≠.hole) (A:DV w π a v) (D:gh w π as Bs vs):gh w π (some a::as) Bs (v::vs):=by
 cases a<;>first|exact absurd rfl B|(cases Bs<;>exact⟨A,D⟩)
theorem DI{Bs:List Nat} (A:DV w π a v) (B:gh w π as Bs vs):gh w π (some a::as) Bs (v::vs):=
 xW (λe=>by subst e;cases A) A B
theorem gh.mono{w w':World} {π π':Nat->Nat->Prop} (A:∀b o,π b o->π' b o) (D:∀b o,π b o->w'.cell? ⟨b,o,none⟩=w.cell? ⟨b,o,none⟩):∀{as:List (Option AV)} {Bs:List Nat} {vs:List Value},gh w π as Bs vs->gh w' π' as Bs vs
 |[],[],[],_=>trivial
 |[],[],v::vs,h=>h.elim
 |[],B::Bs,vs,h=>by cases vs<;>exact h.elim
 |some a::as,Bs,[],h=>by cases Bs<;>cases a<;>exact h.elim
 |some a::as,Bs,v::vs,h=>by
  rcases nM h with⟨rfl,B,O,rfl,e,E⟩|⟨L,M,E⟩
  ·exact⟨e,gh.mono A D E⟩
  ·exact xW L (M.mono A D) (gh.mono A D E)
 |none::as,[],vs,h=>by cases vs<;>exact h.elim
 |none::as,B::Bs,[],h=>h.elim
 |none::as,B::Bs,v::vs,h=>⟨h.1,gh.mono A D h.2⟩
theorem RV.mono{β β':Nat->Nat} {τ τ':Nat->Value} {w w':World} {π π':Nat->Nat->Prop} {U:Nat->Prop} (O:∀b,U b->β' b=β b) (hτ:∀b,U b->τ' b=τ b)
  (E:∀b o,π b o->π' b o) (R:∀b o,π b o->w'.cell? ⟨b,o,none⟩=w.cell? ⟨b,o,none⟩) {v:SV} {x:Value} (L:v.gS U) (h:RV β τ w π v x):RV β' τ' w' π' v x:=by
 cases v with
 |dat a q=>
  refine⟨h.1.mono E R,λt ht=>?_⟩
  subst ht;rw[hτ t L];exact h.2 t rfl
 |ptr b off=>
  show x=_
  rw[O b L];exact h
 |rp cs=>
  obtain⟨B,off,f,hx,D,A,V,h4⟩:=h
  exact⟨B,off,f,hx,D,λj a M=>E _ _ (A j a M),λj a M=>(R _ _ (A j a M)).trans (V j a M),λj a M=>(h4 j a M).mono E R⟩
 |undef=>exact h
 |vs b off n z=>
  obtain⟨cap,D,A⟩:=h
  exact⟨cap,D,by rw[O b L];exact A⟩
 |wz f as Z=>
  obtain⟨us,D,A⟩:=h;refine⟨us,D,?_⟩
  have e:Z.map β'=Z.map β:=sh λb hb=>O b (L b hb)
  rw[e];exact A.mono E R
 |raw q n=>
  obtain⟨B,cap,D,A⟩:=h
  exact⟨B,cap,by rw[hτ q L];exact D,A⟩
 |pt k ps=>
  cases k with
  |zero=>
   have h:x=_:=h
   show x=_
   rw[h]
   congr 2
   exact sh λp E=>by rw[O p.1 (L p E)]
  |succ k=>
   obtain⟨B,off,cap,D,A,V⟩:=h
   refine⟨B,off,cap,D,A,λi p hi=>?_⟩
   have:=V i p hi
   exact⟨E _ _ this.1,by rw[R _ _ this.1,this.2,O p.1 (L p (em hi))]⟩
theorem SV.nN{U U':Nat->Prop} (A:∀n,U n->U' n) {v:SV} (h:v.gS U):v.gS U':=by
 cases v with
 |dat a q=>cases q with
  |none=>trivial
  |some q=>exact A _ h
 |ptr b off=>exact A _ h
 |rp cs=>trivial
 |undef=>trivial
 |vs b off n z=>exact A _ h
 |wz f as E=>exact λb D=>A _ (h b D)
 |raw q n=>exact A _ h
 |pt k ps=>exact λp B=>A _ (h p B)
theorem oL{B:Nat} {o:Obj} (h:w.heap[B]? =some o):B<w.heap.size:=(j9.1 h).1
theorem Hl.block{B:Nat} (h:Hl P w π ok e v) (hB:jq v=some B):
  ok B/\B<w.heap.size:=by
 rcases h with rfl|⟨B',len,cap,E,i,rfl,D,A,_⟩
 ·simp[jq]at hB
 ·simp[jq]at hB;subst hB;exact⟨D,oL A⟩
theorem Hl.keep(h:Hl P w π ok e v) (hb:∀B,jq v=some B->w'.heap[B]? =w.heap[B]?) (D:∀B o,jq v=some B->π' B o->π B o):Hl P w' π' ok e v:=by
 rcases h with rfl|⟨B',len,cap,A,i,rfl,R,M,h3,O,V,E,Z⟩
 ·exact .inl rfl
 ·exact .inr ⟨B',len,cap,A,i,rfl,R,(hb B' rfl).trans M,h3,O,V,E,λo L hc=>Z o L (D B' o rfl hc)⟩
theorem tC.keep{τ τ':Nat->Value} {U:Nat->Prop} {B:Nat} {x:dH} (h:tC τ w π B x) (V:∀q,U q->τ' q=τ q) (hU:∀o q,fq o x.tags=some q->U q) (hb:w'.heap[B]? =w.heap[B]?) (E:∀b o,π b o->π' b o) (hc:∀b o,π b o->w'.cell? ⟨b,o,none⟩=w.cell? ⟨b,o,none⟩) (hn:∀o,¬π' B o):tC τ' w' π' B x:=by
 obtain⟨A,L,R,M,Z,O,_⟩:=h
 exact⟨A,L,hb.trans R,M.mono E hc,Z,λo q D=>by rw[V q (hU o q D)];exact O o q D,hn⟩
end
section
variable{P:Program} {nt:Nat} {n0:kL} {w0:World} {π0:Nat->Nat->Prop} {U U':Nat->Prop} {s:S} {a:Act} {w w':World} {β β':Nat->Nat} {τ τ':Nat->Value} {π π':Nat->Nat->Prop}
section
variable {α:Type} (f:Nat->α) (n:Nat) (x:α)
theorem Rel.frame(R:Rel P nt n0 w0 π0 U s a w β τ π) (L:∀b,U b->β' b=β b) (M:∀b,U b->τ' b=τ b) (Z:∀n,U n->U' n)
  (hp:∀b o,π b o->π' b o) (E:∀b o,π' b o->π b o\/w.heap.size<=b) (ac:∀b o,π' b o->b<w'.heap.size) (A:Below w.heap.size w w'):
  Rel P nt n0 w0 π0 U' s a w' β' τ' π':=by
 have hc:∀b o,π b o->w'.cell? ⟨b,o,none⟩=w.cell? ⟨b,o,none⟩:=λb o h=>Below.vN A (R.gj b o h)
 have ad:n0.n<=w.heap.size:=ka R.gI R.below.size
 refine⟨R.size,λt v h=>?_,λb x h=>?_,λb b' x x' h D e=>?_,λq e h=>?_,λq q' e e' B h D hB aa=>?_,λq e b x h D hB=>?_,R.below.trans (.of A ad),R.gI,ac,λb o h=>hp _ _ (R.gu b o h),λb o h=>?_,λk hk=>by rw[L k (R.jP k hk)];exact R.nL k hk,λk hk=>Z k (R.jP k hk),λb o h=>(hc b o (R.gu b o h)).trans (R.kept b o h)⟩
 ·obtain⟨⟨x,hx,hv⟩,hu⟩:=R.slots t v h
  exact⟨⟨x,hx,RV.mono L M hp hc hu hv⟩,SV.nN Z hu⟩
 ·obtain⟨V,O,h3,h4⟩:=R.boxes b x h
  rw[L b V]
  have ab:β b<w.heap.size:=by obtain⟨ae,el,hh,_⟩:=h3;exact oL hh
  refine⟨Z b V,O,h3.keep M h4 (A.block _ ab) hp hc (λo ho=>?_),λo q hq=>Z _ (h4 o q hq)⟩
  rcases E _ _ ho with h|h
  ·obtain⟨_,_,_,_,_,_,hn⟩:=h3;exact hn o h
  ·omega
 ·rw[L b (R.boxes b x h).1,L b' (R.boxes b' x' D).1]at e
  exact R.inj b b' x x' h D e
 ·obtain⟨V,O⟩:=R.live q e h
  rw[M q V]
  refine⟨Z q V,O.keep (λB hB=>A.block _ (O.block hB).2) (λB o hB ho=>?_)⟩
  rcases E _ _ ho with h|h
  ·exact h
  ·have:=(O.block hB).2;omega
 ·rw[M q (R.live q e h).1]at hB
  rw[M q' (R.live q' e' D).1]at aa;exact R.dm q q' e e' B h D hB aa
 ·rw[M q (R.live q e h).1,L b (R.boxes b x D).1]at hB
  exact R.dG q e b x h D hB
 ·rcases E b o h with h|h
  ·exact R.dW b o h
  ·exact .inr (.inl ST)
theorem Rel.sub(R:Rel P nt n0 w0 π0 U s a w β τ π) (A:∀n,U n->U' n):Rel P nt n0 w0 π0 U' s a w β τ π:=
 R.frame (λ_ _=>rfl) (λ_ _=>rfl) A (λ_ _ h=>h) (λ_ _ h=>.inl h) R.gj (Below.refl _ _)
theorem Rel.put(R:Rel P nt n0 w0 π0 U s a w β τ π) (d:Option Nat) {v:SV} {x:Value} (hd:∀t,d=some t->t<nt) (B:RV β τ w π v x) (L:v.gS U):Rel P nt n0 w0 π0 U (s.put d v) (a.put d x) w β τ π:=by
 cases d with
 |none=>exact R
 |some d=>
  refine⟨by simp[Act.put,R.size],λt u h=>?_,R.boxes,R.inj,R.live,R.dm,R.dG,R.below,R.gI,R.gj,R.gu,R.dW,R.nL,R.jP,R.kept⟩
  simp only[S.put,lk]at h
  by_cases e:t=d
  ·subst e
   simp at h;subst h
   exact⟨⟨x,by simp[Act.put,R.size,hd t rfl],B⟩,L⟩
  ·have:(t==d)=false:=by simpa using e
   simp only[this,eQ]at h;obtain⟨⟨y,D,E⟩,A⟩:=R.slots t u h
   exact⟨⟨y,by simp[Act.put,ws (Ne.symm e),D],E⟩,A⟩
theorem Rel.bX(R:Rel P nt n0 w0 π0 U s a w β τ π) {X:Operand} {x:bC} {v:SV} (A:cq X=some x) (B:bX s x=some v):RV β τ w π v (a.eval X)/\v.gS U:=by
 cases X with
 |tmp t=>
  simp[cq]at A;subst A;obtain⟨⟨y,E,L⟩,M⟩:=R.slots t v B;refine⟨?_,M⟩
  have:a.eval (.tmp t)=y:=by simp[Act.eval,E]
  rw[this];exact L
 |const c=>
  simp only[cq,eg]at A;obtain⟨k,hk,rfl⟩:=A;simp[Eng.bX]at B;subst B
  exact⟨⟨PG hk,λt D=>by cases D⟩,trivial⟩
 |global g=>simp[cq]at A
 |func f=>
  simp[cq]at A;subst A;simp[Eng.bX]at B;subst B
  refine⟨⟨?_,λt D=>by cases D⟩,trivial⟩
  exact .fn (.func f) [] #[] [] #[] rfl rfl (λi a v h=>by simp at h) (λi a v h=>by simp at h)
theorem RV.ref{β:Nat->Nat} {τ:Nat->Value} {w:World} {π:Nat->Nat->Prop} {cs:List AV} {v:Value}:RV β τ w π (.rp cs) v↔DV w π (.ref cs) v:=by
 constructor
 ·rintro⟨B,off,f,rfl,E,A,L,D⟩
  exact .ref cs B off f E A L D
 ·intro h
  cases h with
  |ref _ B off f E A L D=>exact⟨B,off,f,rfl,E,A,L,D⟩
theorem Rel.aM(R:Rel P nt n0 w0 π0 U s a w β τ π) {X:Operand} {x:bC} {v:AV} (D:cq X=some x) (A:Eng.aM s x=some v):DV w π v (a.eval X):=by
 unfold Eng.aM at A;split at A
 ·rename_i b q B
  cases A;exact(R.bX D B).1.1
 ·rename_i cs B
  cases A;exact RV.ref.1 (R.bX D B).1
 ·cases A
theorem Rel.eS(R:Rel P nt n0 w0 π0 U s a w β τ π):∀{Xs:List Operand} {xs:List bC} {vs:List AV},Xs.mapM cq=some xs->Eng.eS s xs=some vs->jn w π vs (Xs.map a.eval)
 |[],xs,vs,B,A=>by
  simp at B;subst B;simp[Eng.eS]at A;subst A;exact .nil _ _
 |X::Xs,xs,vs,B,A=>by
  simp only[tp,pC,jp,vx,fo]at B;obtain⟨x,B,M,D,rfl⟩:=B;simp only[Eng.eS]at A;split at A
  ·rename_i a' as L E
   cases A;exact .cons (R.aM B L) (R.eS D E)
  ·cases A
def FP:Nat->α:=λm=>if m=n then x else f m
theorem cj:FP f n x n=x:=by simp[FP]
theorem xX{m:Nat} (h:m≠n):FP f n x m=f m:=by simp[FP,h]
def fu(U:Nat->Prop) (n:Nat):Nat->Prop:=λm=>U m\/m=n
theorem Rel.K5(R:Rel P nt n0 w0 π0 U s a w β τ π) {id:Nat} (ab:¬U id) {cells:List AV} {cs:Array Value} (e:TypeId) (hd:jn w π cells (cs.toList.take cells.length)) (hs:∀a∈cells,a.scalar=true):
  Rel P nt n0 w0 π0 (fu U id) {s with boxes:=(id,⟨cells,[]⟩)::s.boxes} a (w.alloc (.cells cs e)) (FP β id w.heap.size) τ π:=by
 have V:∀b,U b->b≠id:=λb B e=>ab (e▸B)
 have L:Below w.heap.size w (w.alloc (.cells cs e)):=(Below.refl _ _).alloc (ia _) _
 have A:Rel P nt n0 w0 π0 (fu U id) s a (w.alloc (.cells cs e)) (FP β id w.heap.size) τ π:=
  R.frame (λb B=>xX _ _ _ (V b B)) (λ_ _=>rfl) (λn h=>.inl h) (λ_ _ h=>h) (λ_ _ h=>.inl h) (λb o h=>by have:=R.gj b o h;simp;omega) L
 have aa:n0.n<=w.heap.size:=ka R.gI R.below.size
 have hold:∀b x,dh b s.boxes=some x->FP β id w.heap.size b≠w.heap.size:=λb x h=>by
  obtain⟨h1,_,⟨ac,el,hh,_⟩,_⟩:=R.boxes b x h;rw[xX _ _ _ (V b h1)]
  have:=oL hh
  omega
 refine⟨A.size,A.slots,λb x h=>?_,λb M x x' h E e=>?_,A.live,A.dm,λq e' b x h E hB=>?_,A.below,A.gI,A.gj,A.gu,A.dW,A.nL,A.jP,A.kept⟩
 ·simp only[dh]at h
  by_cases B:b=id
  ·subst B
   simp at h;subst h
   refine⟨.inr rfl,by rw[cj];exact .inl aa,?_,λo q h=>by simp[fq]at h⟩
   rw[cj]
   refine⟨cs,e,Hn w _,hd.mono (λ_ _ h=>h) (λb o h=>Below.vN L (R.gj b o h)),hs,λo q h=>by simp[fq]at h,λo h=>?_⟩
   have:=R.gj _ _ h;omega
  ·have:(b==id)=false:=by simpa using B
   simp only[this,eQ]at h;exact A.boxes b x h
 ·simp only[dh]at h E
  by_cases B:b=id
  ·by_cases D:M=id
   ·rw[B,D]
   ·have O:(M==id)=false:=by simpa using D
    simp only[O,eQ]at E;subst B;rw[cj]at e;exact absurd e.symm (hold M x' E)
  ·have O:(b==id)=false:=by simpa using B
   simp only[O,eQ]at h
   by_cases D:M=id
   ·subst D
    rw[cj]at e;exact absurd e (hold b x h)
   ·have Z:(M==id)=false:=by simpa using D
    simp only[Z,eQ]at E;exact A.inj b M x x' h E e
 ·simp only[dh]at E
  by_cases B:b=id
  ·subst B
   rw[cj]at hB
   have:=((R.live q e' h).2.block hB).2
   omega
  ·have O:(b==id)=false:=by simpa using B
   simp only[O,eQ]at E;exact A.dG q e' b x h E hB
theorem nO{n m:Nat} {b:dH}:∀{l:List (Nat×dH)} {x:dH},dh n (pn m b l)=some x->(n=m/\x=b/\∃y,dh m l=some y)\/(n≠m/\dh n l=some x)
 |[],x,h=>by simp[pn,dh]at h
 |(k,v)::r,x,h=>by
  simp only[pn]at h
  by_cases hk:m=k
  ·subst hk
   simp only[ns,ge,dh]at h
   by_cases A:n=m
   ·subst A
    simp at h
    exact .inl ⟨rfl,h.symm,v,by simp[dh]⟩
   ·have B:(n==m)=false:=by simpa using A
    simp only[B,eQ]at h
    exact .inr ⟨A,by simp[dh,B,h]⟩
  ·have B:(m==k)=false:=by simpa using hk
   simp only[B,eQ,dh]at h
   by_cases A:n=k
   ·subst A
    simp at h
    exact .inr ⟨λe=>hk e.symm,by simp[dh,h]⟩
   ·have D:(n==k)=false:=by simpa using A
    simp only[D,eQ]at h
    rcases nO h with⟨L,E,y,M⟩|⟨L,E⟩
    ·exact .inl ⟨L,E,y,by simp[dh,B,M]⟩
    ·exact .inr ⟨L,by simp[dh,D,E]⟩
theorem Rel.PI(R:Rel P nt n0 w0 π0 U s a w β τ π) {b:Nat} {x y:dH} (D:dh b s.boxes=some x) {L cur':Array Value} {el:TypeId}
  (hh:w.heap[β b]? =some (.cells L el (0,0))) (hd:jn w π y.cells (cur'.toList.take y.cells.length)) (hs:∀a∈y.cells,a.scalar=true)
  (ht:∀o q,fq o y.tags=some q->cur'[o]? =some (τ q)/\U q):
  Rel P nt n0 w0 π0 U {s with boxes:=pn b y s.boxes} a (w.setRow (β b) cur') β τ π:=by
 obtain⟨ac,M,⟨_,_,ad,_,_,_,O⟩,_⟩:=R.boxes b x D
 have A:∀k,k≠β b->(w.setRow (β b) cur').heap[k]? =w.heap[k]?:=λk hk=>setRow_other w _ k cur' hk
 have Z:∀B o,π B o->(w.setRow (β b) cur').cell? ⟨B,o,none⟩=w.cell? ⟨B,o,none⟩:=λB o h=>Ps w _ cur' ⟨B,o,none⟩ (λe=>O o (by simpa[<-e]using h))
 have V:A6 n0 w (w.setRow (β b) cur'):=⟨rfl,rfl,rfl,TB,λk hk hx=>A k (λe=>by subst e;rcases M with h|h;exact absurd h ST;exact hx h.2),λk o hk ho=>(A k (λe=>by subst e;rw[hh]at hk;cases hk;cases ho)).trans hk⟩
 refine⟨R.size,λt v h=>?_,λc z h=>?_,λc c' z z' h h' e=>?_,λq e h=>?_,R.dm,λq e c z h h' hB=>?_,R.below.trans V,R.gI,λB o h=>by simpa using R.gj B o h,R.gu,R.dW,R.nL,R.jP,λb o h=>(Z b o (R.gu b o h)).trans (R.kept b o h)⟩
 ·obtain⟨⟨z,hz,hv⟩,E⟩:=R.slots t v h
  exact⟨⟨z,hz,RV.mono (λ_ _=>rfl) (λ_ _=>rfl) (λ_ _ h=>h) Z E hv⟩,E⟩
 ·rcases nO h with⟨rfl,rfl,_⟩|⟨aa,h⟩
  ·exact⟨ac,M,⟨cur',el,setRow_heap w _ L _ el _ hh,hd.mono (λ_ _ h=>h) Z,hs,λo q hq=>(ht o q hq).1,O⟩,λo q hq=>(ht o q hq).2⟩
  ·obtain⟨h1,h2,h3,h4⟩:=R.boxes c z h
   refine⟨h1,h2,h3.keep (λ_ _=>rfl) h4 (A _ (λe=>aa (R.inj c b z x h D e))) (λ_ _ h=>h) Z ?_,h4⟩
   obtain⟨_,_,_,_,_,_,hn⟩:=h3;exact hn
 ·have:∃u,dh c s.boxes=some u:=by
   rcases nO h with⟨rfl,_,_⟩|⟨_,h⟩
   ·exact⟨x,D⟩
   ·exact⟨z,h⟩
  have k':∃u,dh c' s.boxes=some u:=by
   rcases nO h' with⟨rfl,_,_⟩|⟨_,h⟩
   ·exact⟨x,D⟩
   ·exact⟨z',h⟩
  obtain⟨u,E⟩:=this;obtain⟨u',ab⟩:=k';exact R.inj c c' u u' E ab e
 ·obtain⟨h1,h2⟩:=R.live q e h
  exact⟨h1,h2.keep (λB hB=>A B (λeB=>R.dG q e b x h D (by rw[hB,eB]))) (λB o _ h=>h)⟩
 ·have:∃u,dh c s.boxes=some u:=by
   rcases nO h' with⟨rfl,_,_⟩|⟨_,h⟩
   ·exact⟨x,D⟩
   ·exact⟨z,h⟩
  obtain⟨u,E⟩:=this;exact R.dG q e c u h E hB
end
end
open Go.RowKit (Below)
theorem iP(B o n:Nat):(⟨B,o,none⟩:Addr).add n=⟨B,o+n,none⟩:=by unfold Addr.add;split<;>simp_all
section runs
variable{P:Program} {w:World}
section
variable {n o:Nat} {t:TypeId}
theorem eH{z:Nat} (h:gq P t=some z):(sizeOf t).run P w=.ok z w:=by
 simp only[gq,eg]at h;obtain⟨i,A,rfl⟩:=h;simp[sizeOf,typeInfo,A]
theorem yZ{d:TypeDesc} (h:P.underlying t=some d):(isAgg t).run P w=.ok (oG P t) w:=by
 have:=ii h w
 unfold isAgg oG;simp only[fi,this,e9,h]
 cases d<;>rfl
theorem IW(h:yX P t=some (some n)):∃d,P.underlying t=some d/\oG P t=true/\gq P t=some n:=by
 unfold yX at h;split at h
 ·rename_i B A;exact⟨_,A,by simp[oG,A],by simpa using h⟩
 ·rename_i k e A;exact⟨_,A,by simp[oG,A],by simpa using h⟩
 ·simp at h
 ·simp at h
theorem IX(h:yX P t=some none):∃d,P.underlying t=some d/\oG P t=false:=by
 unfold yX at h;split at h
 ·simp at h
 ·simp at h
 ·rename_i d B D A
  refine⟨d,A,?_⟩;unfold oG;rw[A]
  cases d<;>simp_all
 ·simp at h
theorem lB(h:yX P t=some (some n)) {B:Nat} {f:Nat->Value} (R:∀j,j<n->w.cell? ⟨B,o+j,none⟩=some (f j)):
  (loadVar t ⟨B,o,none⟩).run P w=.ok (.agg ((List.range n).map f).toArray) w:=by
 obtain⟨d,hd,D,O⟩:=IW h
 have L:=yZ (w:=w) hd
 have E:=eH (w:=w) O
 have M:=run_loadCells (P:=P) w ⟨B,o,none⟩ n f (λj A=>by rw[iP];exact R j A)
 simp only[loadVar,fi,L,D,e9,kh,E,M,iv]
theorem lC(h:yX P t=some none) {B:Nat} {v:Value} (E:w.cell? ⟨B,o,none⟩=some v):
  (loadVar t ⟨B,o,none⟩).run P w=.ok v w:=by
 obtain⟨d,hd,D⟩:=IX h
 have A:=yZ (w:=w) hd
 simp[loadVar,fi,A,D,e9,E]
end
end runs
theorem Ho{w:World} {π:Nat->Nat->Prop} {cs:List AV} {f:Nat->Value} {off:Nat} {D:Option Nat} {a:AV}
  (R:∀(j:Nat) (x:AV),cs[j]? =some x->x.scalar=true) (hd:∀(j:Nat) (x:AV),cs[j]? =some x->DV w π x (f j)) (h:aF cs off D=some a):
  match D with
  |none=>DV w π a (f off)/\off<cs.length
  |some n=>off+n<=cs.length/\DV w π a (.agg ((List.range n).map λj=>f (off+j)).toArray):=by
 cases D with
 |none=>
  simp only[aF]at h;refine⟨hd _ _ h,?_⟩
  rcases kn off cs.length with h'|h'
  ·exact h'
  ·rw[ip h']at h;cases h
 |some n=>
  simp only[aF]at h;split at h
  ·rename_i L
   cases h
   have M:∀(i:Nat) (x:AV),((cs.drop off).take n)[i]? =some x->i<n/\cs[off+i]? =some x:=by
    intro i x A;rw[s8]at A;split at A
    ·rename_i B;exact⟨B,by simpa using A⟩
    ·cases A
   refine⟨L,.agg _ _ (by simp;omega) (λx A=>?_) (λi x v A O=>?_)⟩
   ·obtain⟨i,B⟩:=l3.1 A
    exact R _ _ (M i x B).2
   ·obtain⟨B,E⟩:=M i x A
    have:v=f (off+i):=by simpa[B]using O.symm
    rw[this];exact hd _ _ E
  ·cases h
section ops
variable{P:Program} {nt:Nat} {n0:kL} {w0:World} {π0:Nat->Nat->Prop} {U:Nat->Prop} {s:S} {a:Act} {w:World} {β:Nat->Nat} {τ:Nat->Value} {π:Nat->Nat->Prop}
section
variable {K:SV->S->Prop} {X:Operand} {id:Nat} {t:TypeId} {x:bC}
theorem tC.cells{B:Nat} {x:dH} (h:tC τ w π B x):∃f:Nat->Value,(∀j,j<x.cells.length->w.cell? ⟨B,j,none⟩=some (f j))/\(∀(j:Nat) (y:AV),x.cells[j]? =some y->y.scalar=true)/\
  (∀(j:Nat) (y:AV),x.cells[j]? =some y->DV w π y (f j))/\∀o q,fq o x.tags=some q->f o=τ q:=by
 obtain⟨A,R,h1,L,h3,V,_⟩:=h
 refine⟨λj=>A.getD j undef,λj hj=>?_,λj y D=>h3 y (em D),λj y D=>?_,λo q O=>?_⟩
 ·have Z:j<A.size:=by have:=L.1;simp at this;omega
  rw[ul w B j A R (0,0) h1];simp[Z]
 ·obtain⟨v,M,hd⟩:=L.get D
  have:A[j]? =some v:=by
   have E:j<x.cells.length:=by
    rcases kn j x.cells.length with h|h
    ·exact h
    ·rw[ip h]at D;cases D
   rw[p5 E]at M;simpa using M
  simp[this,hd]
 ·simp[V o q O]
theorem Rel.load(R:Rel P nt n0 w0 π0 U s a w β τ π) {V:Option Nat} (hx:cq X=some x) (ht:yX P t=some V) (h:bS (Pure P) id (.ld x V) K s):∃v y,(Instr.loadAt t (a.eval X)).run P w=.ok y w/\RV β τ w π v y/\v.gS U/\K v s:=by
 simp only[bS]at h
 cases ho:Eng.bX s x with
 |none=>rw[ho]at h;exact h.elim
 |some p=>
  rw[ho]at h;obtain⟨hr,hu⟩:=R.bX hx ho
  cases p with
  |dat b q=>exact h.elim
  |undef=>exact h.elim
  |vs _ _ _ _=>exact h.elim
  |wz _ _ _=>exact h.elim
  |raw _ _=>exact h.elim
  |pt _ _=>exact h.elim
  |ptr b off=>
   simp only[aG]at h
   cases hb:dh b s.boxes with
   |none=>rw[hb]at h;exact h.elim
   |some z=>
    rw[hb]at h;simp only[aG]at h
    cases M:aF z.cells off V with
    |none=>rw[M]at h;exact h.elim
    |some av=>
     rw[M]at h;obtain⟨h1,h2,h3,h4⟩:=R.boxes b z hb;obtain⟨f,hf,hs,hd,aa⟩:=h3.cells
     have D:=Ho hs hd M
     have Z:a.eval X=.pointer (some ⟨β b,off,none⟩):=hr
     cases V with
     |none=>
      obtain⟨A,O⟩:=D
      refine⟨.dat av (fq off z.tags),f off,by simp only[Z,Instr.loadAt,Instr.sureAddr,fi,iv,e9];exact lC ht (hf off O),⟨A,λq E=>aa off q E⟩,?_,h⟩
      cases E:fq off z.tags with
      |none=>trivial
      |some q=>exact h4 off q E
     |some n=>
      obtain⟨ab,A⟩:=D
      refine⟨.dat av none,_,by simp only[Z,Instr.loadAt,Instr.sureAddr,fi,iv,e9];exact lB ht (λj hj=>hf (off+j) ST),⟨A,λq E=>by cases E⟩,trivial,h⟩
  |rp cs=>
   simp only[aG]at h
   cases M:aF cs 0 V with
   |none=>rw[M]at h;exact h.elim
   |some av=>
    rw[M]at h;obtain⟨B,off,f,Z,hs,_,hf,hd⟩:=hr
    have D:=Ho hs hd M
    have L:∀j,j<cs.length->w.cell? ⟨B,off+j,none⟩=some (f j):=λj hj=>hf j cs[j] (dT hj)
    cases V with
    |none=>
     obtain⟨A,O⟩:=D
     refine⟨.dat av none,f 0,by simp only[Z,Instr.loadAt,Instr.sureAddr,fi,iv,e9];exact lC ht (L 0 O),⟨A,λq E=>by cases E⟩,trivial,h⟩
    |some n=>
     obtain⟨ab,A⟩:=D
     refine⟨.dat av none,_,by simp only[Z,Instr.loadAt,Instr.sureAddr,fi,iv,e9];exact lB ht (λj hj=>L j ST),⟨by simpa using A,λq E=>by cases E⟩,trivial,h⟩
theorem Hp{w:World} {π:Nat->Nat->Prop} {av:AV} {u:Value} (h:DV w π av u) (A:av.scalar=true):u.cells.toList=[u]:=by
 cases h<;>first|rfl|(simp[AV.scalar]at A)
theorem iQ{α:Type} (l ps:List α) (off:Nat) (h:off+ps.length<=l.length) (i:Nat):
  (l.take off++ps++l.drop (off+ps.length))[i]? =if i<off then l[i]? else if i<off+ps.length then ps[i-off]? else l[i]?:=by
 have D:(l.take off).length=off:=by simp;omega
 by_cases A:i<off
 ·rw[et A,List.append_assoc,lc ST,s8,et A]
 ·rw[ek A]
  by_cases B:i<off+ps.length
  ·rw[et B,List.append_assoc,kw ST,lc ST,D]
  ·rw[ek B,kw (by simp;omega),lh]
   congr 1
   simp;omega
theorem DJ{l:List (Nat×Nat)} {p:Nat×Nat->Bool} {o q:Nat} (h:fq o (l.filter p)=some q) (D:∀x:Nat×Nat,p x=p (x.1,0)):fq o l=some q/\p (o,0)=true:=by
 induction l with
 |nil=>simp[fq]at h
 |cons x r E=>
  obtain⟨m,v⟩:=x;rw[H2]at h
  by_cases A:p (m,v)=true
  ·rw[et A]at h
   simp only[fq]at h⊢
   by_cases e:o=m
   ·subst e;simp at h⊢;exact⟨h,by rw[<-D (o,v)];exact A⟩
   ·have B:(o==m)=false:=by simpa using e
    simp only[B,eQ]at h⊢;exact E h
  ·rw[ek A]at h
   obtain⟨M,L⟩:=E h;refine⟨?_,L⟩;simp only[fq]
   have e:o≠m:=λe=>A (by subst e;rw[D (o,v)];exact L)
   have B:(o==m)=false:=by simpa using e
   simp only[B,eQ];exact M
theorem Rel.store(R:Rel P nt n0 w0 π0 U s a w β τ π) {V:Operand} {v:bC} {z:Nat} (hx:cq X=some x) (hv:cq V=some v) (ht:gq P t=some z) (h:bS (Pure P) id (.st x v z) K s):∃s' w',(Instr.storeAt t (a.eval X) (a.eval V)).run P w=.ok () w'/\K .undef s'/\Rel P nt n0 w0 π0 U s' a w' β τ π:=by
 simp only[bS]at h
 cases ho:Eng.bX s x with
 |none=>rw[ho]at h;exact h.elim
 |some p=>
  rw[ho]at h;obtain⟨hr,D⟩:=R.bX hx ho
  cases p with
  |dat b q=>exact h.elim
  |undef=>exact h.elim
  |vs _ _ _ _=>exact h.elim
  |wz _ _ _=>exact h.elim
  |raw _ _=>exact h.elim
  |pt _ _=>exact h.elim
  |rp cs=>exact h.elim
  |ptr b off=>
   simp only[aG]at h
   cases hb:dh b s.boxes with
   |none=>rw[hb]at h;exact h.elim
   |some y=>
    rw[hb]at h;simp only[aG]at h
    cases ab:Eng.bX s v with
    |none=>rw[ab]at h;exact h.elim
    |some u=>
     rw[ab]at h
     cases u with
     |undef=>exact h.elim
     |vs _ _ _ _=>exact h.elim
     |wz _ _ _=>exact h.elim
     |raw _ _=>exact h.elim
     |pt _ _=>exact h.elim
     |rp cs=>exact h.elim
     |ptr _ _=>exact h.elim
     |dat av q=>
      simp only[aG]at h;obtain⟨ba,aa,bd,hK⟩:=h;obtain⟨⟨am,ar⟩,a8⟩:=R.bX hv ab
      have he:a.eval X=.pointer (some ⟨β b,off,none⟩):=hr
      obtain⟨h1,h2,⟨E,el,hh,ad,an,a5,bi⟩,h4⟩:=R.boxes b y hb
      have be:y.cells.length<=E.size:=by have:=ad.1;simp at this;omega
      have ae:∀vs,av≠.dF vs:=λvs e=>by subst e;simp[jo]at ba
      obtain⟨O,ao⟩:=am.cells ae
      have A:(a.eval V).cells.toList.length=z:=by rw[<-O.1];exact aa
      have a2:∀u∈(a.eval V).cells.toList,u.oneCell'=true:=by
       intro u D
       obtain⟨i,hi⟩:=l3.1 D
       have L:i<av.cells.length:=by
        rw[O.1]
        rcases kn i (a.eval V).cells.toList.length with h|h
        ·exact h
        ·rw[ip h]at hi;cases hi
       have a4:=dT L
       exact(O.2 i _ _ a4 hi).Mw (ao _ (Do L))
      have ak:=run_storeCells_at (P:=P) (β b) off el (a.eval V).cells.toList 0 E w hh (by rw[A];omega) a2
      simp only[pm]at ak
      have au:(Instr.storeAt t (a.eval X) (a.eval V)).run P w=.ok () (w.setRow (β b) (E.toList.take off++(a.eval V).cells.toList++E.toList.drop (off+(a.eval V).cells.toList.length)).toArray):=by
       have a7:(a.eval V).cells.size=z:=by simpa using A
       simp[he,Instr.storeAt,Instr.sureAddr,storeVar,eH (w:=w) ht,a7,ak]
      refine⟨_,_,au,hK,R.PI hb hh ?_ ?_ ?_⟩
      ·--cells
       have al:(setCells y.cells off av.cells).length=y.cells.length:=by simp[setCells];omega
       refine⟨?_,λi c u hc D=>?_⟩
       ·simp only[al];simp only[B0,pv,List.length_drop,Array.length_toList,A];omega
       ·simp only[al]at D
        have L:i<y.cells.length:=by
         rcases kn i (setCells y.cells off av.cells).length with h|h
         ·omega
         ·simp only[]at hc;rw[ip h]at hc;cases hc
        rw[p5 L]at D
        rw[iQ _ _ _ (by rw[A];simp;omega)]at D
        simp only[setCells]at hc
        rw[iQ _ _ _ ST]at hc
        rw[A]at D;rw[aa]at hc;split at hc
        ·rename_i hi;rw[et hi]at D;exact ad.2 i c u hc (by rw[p5 L];exact D)
        ·rename_i hi
         rw[ek hi]at D;split at hc
         ·rename_i ac;rw[et ac]at D;exact O.2 _ c u hc D
         ·rename_i ac;rw[ek ac]at D;exact ad.2 i c u hc (by rw[p5 L];exact D)
      ·intro c hc
       simp only[setCells,il]at hc
       rcases hc with(hc|hc)|hc
       ·exact an c (tl hc)
       ·exact ao c hc
       ·exact an c (nf hc)
      ·intro o M B
       have Z:∀(o M:Nat),fq o (y.tags.filter λp=>p.1<off||off+z<=p.1)=some M->(E.toList.take off++(a.eval V).cells.toList++E.toList.drop (off+(a.eval V).cells.toList.length)).toArray[o]? =some (τ M)/\U M:=by
        intro o M B
        obtain⟨ag,a9⟩:=DJ B (λx=>rfl)
        refine⟨?_,h4 o M ag⟩
        have:=a5 o M ag
        rw[H0,iQ _ _ _ (by rw[A];simp;omega),A]
        simp at a9;split
        ·simpa using this
        ·rw[ek ST];simpa using this
       cases q with
       |none=>exact Z o M B
       |some q=>
        simp only[fq]at B
        by_cases e:o=off
        ·subst e
         simp at B;subst B
         have a3:av.scalar=true:=by cases av<;>simp_all [jo,AV.scalar]
         have a6:(a.eval V).cells.toList=[a.eval V]:=Hp am a3
         refine⟨?_,a8⟩
         rw[H0,iQ _ _ _ (by rw[A];simp;omega),a6]
         simp only[List.length_singleton,Nat.lt_irrefl,ib,Nat.lt_add_one,kh,Nat.sub_self]
         simpa using ar q rfl
        ·have hf:(o==off)=false:=by simpa using e
         simp only[hf,eQ]at B;exact Z o M B
end
end ops
open Go.RowKit (Below)
section
variable{P:Program} {w:World} {π:Nat->Nat->Prop}
section
variable {a b:Ieee.Datum} {k:IntKind} {n:Int} {op:BinOp} {v:AV} {x y:Int}
theorem DV.S5{v:Value} (h:DV w π (.int k n) v):v=.int k n:=by cases h;rfl
theorem DV.y6{b:Bool} {v:Value} (h:DV w π (.bool b) v):v=.bool b:=by cases h;rfl
theorem tT(h:BU op k x y=some n):(Op.intBits op k x y).run P w=.ok (.int k n) w:=by
 unfold BU at h;unfold Op.intBits
 split at h<;>first|(cases h;rfl)|cases h
theorem S6(D:op≠.shl) (E:op≠.shr) (h:tB op k x y=some v) (t:TypeId):∃u,(binOp op t (.int k x) (.int k y)).run P w=.ok u w/\DV w π v u:=by
 cases op<;>simp only[tB]at h
 case add=>cases h;exact⟨_,by simp[binOp,Op.intArith],.int _ _⟩
 case sub=>cases h;exact⟨_,by simp[binOp,Op.intArith],.int _ _⟩
 case mul=>cases h;exact⟨_,by simp[binOp,Op.intArith],.int _ _⟩
 case quo=>
  split at h
  ·cases h
  ·rename_i B;cases h;exact⟨_,by simp[binOp,Op.intDiv,B],.int _ _⟩
 case rem=>
  split at h
  ·cases h
  ·rename_i B;cases h;exact⟨_,by simp[binOp,Op.intDiv,B],.int _ _⟩
 case and=>simp only[eg]at h;obtain⟨n,A,rfl⟩:=h;exact⟨_,by simp only[binOp,ne_eq,Hc,ib];exact tT A,.int _ _⟩
 case or=>simp only[eg]at h;obtain⟨n,A,rfl⟩:=h;exact⟨_,by simp only[binOp,ne_eq,Hc,ib];exact tT A,.int _ _⟩
 case xor=>simp only[eg]at h;obtain⟨n,A,rfl⟩:=h;exact⟨_,by simp only[binOp,ne_eq,Hc,ib];exact tT A,.int _ _⟩
 case andNot=>simp only[eg]at h;obtain⟨n,A,rfl⟩:=h;exact⟨_,by simp only[binOp,ne_eq,Hc,ib];exact tT A,.int _ _⟩
 case shl=>exact absurd rfl D
 case shr=>exact absurd rfl E
 case eql=>cases h;exact⟨_,by simp[binOp,Op.intCmp],.bool _⟩
 case neq=>cases h;exact⟨_,by simp[binOp,Op.intCmp],.bool _⟩
 case lss=>cases h;exact⟨_,by simp[binOp,Op.intCmp],.bool _⟩
 case leq=>cases h;exact⟨_,by simp[binOp,Op.intCmp],.bool _⟩
 case gtr=>cases h;exact⟨_,by simp[binOp,Op.intCmp],.bool _⟩
 case geq=>cases h;exact⟨_,by simp[binOp,Op.intCmp],.bool _⟩
theorem Gc(h:tK op k x y=some v):∃u,(∀B:IntKind,(Op.shift op k x B y).run P w=.ok u w)/\DV w π v u:=by
 unfold tK at h;split at h
 ·cases h
 ·rename_i A
  split at h
  ·cases h;exact⟨_,by simp[Op.shift,A],.int _ _⟩
  ·cases h;exact⟨_,by simp[Op.shift,A],.int _ _⟩
  ·cases h
theorem tU{n:Nat} (h:FR n=true):∃s p,FloatKind.f64.format.read n=.nan s p:=by
 unfold FR FloatKind.decode at h;split at h
 ·rename_i s p A;exact⟨s,p,A⟩
 ·cases h
theorem S7(x y t:Nat):(Question.nanBits .f64 x y).cut t=(t%2)*9223372036854775808+9218868437227405312+1+(t/2)%4503599627370495:=by
 simp only[Question.cut,Nat.reducePow,Nat.reduceSub]
theorem PJ(f:Ieee.Format) (n:Nat) (A:f.infRung<n%f.signWeight) (B:f.binade<=f.infRung):f.read n=.nan (n/f.signWeight%2==1) (n%f.signWeight-f.infRung):=by
 unfold Ieee.Format.read
 rw[ek ST,ek ST,ek ST]
theorem WX(n:Nat) (A:Ieee.double.infRung<n%Ieee.double.signWeight):FR n=true:=by
 unfold FR FloatKind.decode
 rw[show FloatKind.f64.format=Ieee.double from rfl,PJ _ _ A (by decide+kernel)]
theorem PK(a m k i s:Nat) (A:s=k+i) (B:a<2) (hm:i+1+m<s):i<(a*s+i+1+m)%s:=by
 have h:a=0\/a=1:=ST
 rcases h with rfl|rfl
 ·rw[show 0*s+i+1+m=i+1+m by omega,xa hm];omega
 ·rw[show 1*s+i+1+m=s+(i+1+m)by omega,Nat.add_mod_left,xa hm];omega
theorem BX(x y t:Nat):FR ((Question.nanBits .f64 x y).cut t)=true:=by
 apply WX
 rw[S7]
 have A:Ieee.double.signWeight=9223372036854775808:=by decide+kernel
 have B:Ieee.double.infRung=9218868437227405312:=by decide+kernel
 rw[A,B]
 have:=IO (t/2) (y:=4503599627370495) Ts
 generalize t/2%4503599627370495=m at*
 exact PK _ _ 4503599627370496 _ _ Ts (IO _ Ts) ST
def Wk(w w':World):Prop:=w'=w\/w'=w.drew
theorem Wk.dv{w w':World} {π:Nat->Nat->Prop} (h:Wk w w') {u:Value} (hd:DV w π v u):DV w' π v u:=by
 rcases h with rfl|rfl
 ·exact hd
 ·exact DV.mono (w:=w) (w':=w.drew) (π:=π) (λ_ _ h=>h) (λ_ _ _=>rfl) hd
theorem p8{x y:Nat} (A:op=.add/\FloatKind.f64.format.add x y=none\/op=.sub/\FloatKind.f64.format.sub x y=none\/op=.mul/\FloatKind.f64.format.mul x y=none\/op=.quo/\FloatKind.f64.format.div x y=none) (t:TypeId):
  ∃u,(binOp op t (.float .f64 x) (.float .f64 y)).run P w=.ok u w.drew/\DV w π .fm u:=by
 rcases A with⟨rfl,h⟩|⟨rfl,h⟩|⟨rfl,h⟩|⟨rfl,h⟩<;>
 exact⟨.float .f64 ((Question.nanBits .f64 x y).cut (w.tape w.drawn (Question.nanBits .f64 x y))),by simp[binOp,Op.floatArith,h,Question.forced],.fm _ (BX _ _ _)⟩
theorem NQ{k:FloatKind} {x y:Nat} (h:Dz op k x y=some v) (t:TypeId):∃u w',Wk w w'/\(binOp op t (.float k x) (.float k y)).run P w=.ok u w'/\DV w π v u:=by
 have E:∀(o:Option Nat),KQ k o=some v->(∃r,o=some r/\v=.float k r)\/(o=none/\k=.f64/\v=.fm):=by
  intro o D
  cases o with
  |some r=>left;cases k<;>(simp only[KQ,fo]at D;exact⟨r,rfl,D.symm⟩)
  |none=>
   cases k
   ·cases D
   ·right;simp only[KQ,fo]at D;exact⟨rfl,rfl,D.symm⟩
 cases op<;>simp only[Dz]at h<;>try(cases h;done)
 case add=>
  rcases E _ h with⟨n,A,rfl⟩|⟨A,rfl,rfl⟩
  ·exact⟨_,w,.inl rfl,by simp[binOp,Op.floatArith,A],.float _ _⟩
  ·obtain⟨u,B,hd⟩:=p8 (P:=P) (w:=w) (π:=π) (op:=.add) (.inl ⟨rfl,A⟩) t
   exact⟨u,_,.inr rfl,B,hd⟩
 case sub=>
  rcases E _ h with⟨n,A,rfl⟩|⟨A,rfl,rfl⟩
  ·exact⟨_,w,.inl rfl,by simp[binOp,Op.floatArith,A],.float _ _⟩
  ·obtain⟨u,B,hd⟩:=p8 (P:=P) (w:=w) (π:=π) (op:=.sub) (.inr (.inl ⟨rfl,A⟩)) t
   exact⟨u,_,.inr rfl,B,hd⟩
 case mul=>
  rcases E _ h with⟨n,A,rfl⟩|⟨A,rfl,rfl⟩
  ·exact⟨_,w,.inl rfl,by simp[binOp,Op.floatArith,A],.float _ _⟩
  ·obtain⟨u,B,hd⟩:=p8 (P:=P) (w:=w) (π:=π) (op:=.mul) (.inr (.inr (.inl ⟨rfl,A⟩))) t
   exact⟨u,_,.inr rfl,B,hd⟩
 case quo=>
  rcases E _ h with⟨n,A,rfl⟩|⟨A,rfl,rfl⟩
  ·exact⟨_,w,.inl rfl,by simp[binOp,Op.floatArith,A],.float _ _⟩
  ·obtain⟨u,B,hd⟩:=p8 (P:=P) (w:=w) (π:=π) (op:=.quo) (.inr (.inr (.inr ⟨rfl,A⟩))) t
   exact⟨u,_,.inr rfl,B,hd⟩
 all_goals(cases h;exact⟨_,w,.inl rfl,by simp[binOp,Op.floatCmp],.bool _⟩)
theorem My(h:(∃s p,a=.nan s p)\/∃s p,b=.nan s p):a.sum b=none:=by
 rcases h with⟨s,p,rfl⟩|⟨s,p,rfl⟩<;>first|rfl|(cases a<;>rfl)
theorem IY(h:(∃s p,a=.nan s p)\/∃s p,b=.nan s p):a.product b=none:=by
 rcases h with⟨s,p,rfl⟩|⟨s,p,rfl⟩<;>first|rfl|(cases a<;>rfl)
theorem Hq{d:Nat} (h:(∃s p,a=.nan s p)\/∃s p,b=.nan s p):a.quotient d b=none:=by
 rcases h with⟨s,p,rfl⟩|⟨s,p,rfl⟩<;>first|rfl|(cases a<;>rfl)
theorem vO(h:(∃s p,a=.nan s p)\/∃s p,b=.nan s p):a.order b=none:=by
 rcases h with⟨s,p,rfl⟩|⟨s,p,rfl⟩<;>first|rfl|(cases a<;>rfl)
theorem Hr{x y:Nat} (O:FR x=true\/FR y=true) (h:xS op=some v) (t:TypeId):∃u w',Wk w w'/\(binOp op t (.float .f64 x) (.float .f64 y)).run P w=.ok u w'/\DV w π v u:=by
 have A:(∃s p,FloatKind.f64.format.read x=.nan s p)\/∃s p,FloatKind.f64.format.read y=.nan s p:=O.imp tU tU
 have B:∀d:Ieee.Datum,(∃s p,d=.nan s p)->∃s p,d.opposite=.nan s p:=λd ⟨s,p,h⟩=>by subst h;exact⟨_,_,rfl⟩
 have D:FloatKind.f64.format.order x y=none:=vO A
 have arith:∀o:BinOp,(o=.add\/o=.sub\/o=.mul\/o=.quo)->v=.fm->op=o->∃u w',Wk w w'/\(binOp op t (.float .f64 x) (.float .f64 y)).run P w=.ok u w'/\DV w π v u:=by
  intro o D E L;subst L E
  have:op=.add/\FloatKind.f64.format.add x y=none\/op=.sub/\FloatKind.f64.format.sub x y=none\/op=.mul/\FloatKind.f64.format.mul x y=none\/op=.quo/\FloatKind.f64.format.div x y=none:=by
   rcases D with rfl|rfl|rfl|rfl
   ·exact .inl ⟨rfl,by simp[Ieee.Format.add,My A]⟩
   ·exact .inr (.inl ⟨rfl,by simp[Ieee.Format.sub,My (A.imp id (B _))]⟩)
   ·exact .inr (.inr (.inl ⟨rfl,by simp[Ieee.Format.mul,IY A]⟩))
   ·exact .inr (.inr (.inr ⟨rfl,by simp[Ieee.Format.div,Hq A]⟩))
  obtain⟨u,M,hd⟩:=p8 (P:=P) (w:=w) (π:=π) this t
  exact⟨u,_,.inr rfl,M,hd⟩
 cases op<;>simp only[xS,fo]at h<;>try(cases h;done)
 case add=>exact arith .add (.inl rfl) h.symm rfl
 case sub=>exact arith .sub (.inr (.inl rfl)) h.symm rfl
 case mul=>exact arith .mul (.inr (.inr (.inl rfl))) h.symm rfl
 case quo=>exact arith .quo (.inr (.inr (.inr rfl))) h.symm rfl
 all_goals(subst h;exact⟨_,w,.inl rfl,by simp[binOp,Op.floatCmp,D],.bool _⟩)
end
section
variable {X Y:Operand} {a b:AV} {op:BinOp} {t:TypeId} {v:AV} {x y:Value}
theorem PL{P:Program} {w:World} (h:P.underlying t=some .bool) (x y:Bool):(Op.equal t (.bool x) (.bool y)).run P w=.ok (x==y) w:=by
 exact run_equalIn_bool' w 9999 t x y h
theorem iF(op:BinOp) (t:TypeId) (X Y:Operand) (A:∀u,x≠.agg u) (B:x≠.nilIface):(eqGuard op t X Y x y).run P w=.ok () w:=by
 unfold eqGuard
 cases x<;>first|exact absurd rfl B|exact absurd rfl (A _)|(cases op<;>rfl)
theorem S8(R:Mt P t=true) (h:eP op a b=some v) (D:DV w π a x) (E:DV w π b y):
  ∃u w',Wk w w'/\(do eqGuard op t X Y x y;binOp op t x y:Sem Value).run P w=.ok u w'/\DV w π v u:=by
 unfold eP at h;split at h
 ·cases D;cases E
  obtain⟨u,B,hd⟩:=Gc (P:=P) (w:=w) (π:=π) h
  refine⟨u,w,.inl rfl,?_,hd⟩
  rw[fi,iF _ _ _ _ (λ_ h=>by cases h) (λh=>by cases h)]
  exact B .i64
 ·cases D;cases E
  obtain⟨u,B,hd⟩:=Gc (P:=P) (w:=w) (π:=π) h
  refine⟨u,w,.inl rfl,?_,hd⟩
  rw[fi,iF _ _ _ _ (λ_ h=>by cases h) (λh=>by cases h)]
  exact B .i64
 ·rename_i M O
  split at h
  ·rename_i hk
   subst hk;cases D;cases E
   obtain⟨u,B,hd⟩:=S6 (P:=P) (w:=w) (π:=π) (λe=>M e) (λe=>O e) h t
   refine⟨u,w,.inl rfl,?_,hd⟩
   rw[fi,iF _ _ _ _ (λ_ h=>by cases h) (λh=>by cases h)]
   exact B
  ·cases h
 ·split at h
  ·rename_i hk
   subst hk;cases D;cases E
   obtain⟨u,w',A,B,hd⟩:=NQ (P:=P) (w:=w) (π:=π) h t
   refine⟨u,w',A,?_,hd⟩
   rw[fi,iF _ _ _ _ (λ_ h=>by cases h) (λh=>by cases h)]
   exact B
  ·cases h
 ·cases D with
  |fm n L=>
   cases E
   obtain⟨u,w',A,B,hd⟩:=Hr (P:=P) (w:=w) (π:=π) (.inl L) h t
   refine⟨u,w',A,?_,hd⟩
   rw[fi,iF _ _ _ _ (λ_ h=>by cases h) (λh=>by cases h)]
   exact B
 ·cases E with
  |fm n L=>
   cases D
   obtain⟨u,w',A,B,hd⟩:=Hr (P:=P) (w:=w) (π:=π) (.inr L) h t
   refine⟨u,w',A,?_,hd⟩
   rw[fi,iF _ _ _ _ (λ_ h=>by cases h) (λh=>by cases h)]
   exact B
 ·cases D with
  |fm n L=>
   cases E
   obtain⟨u,w',A,B,hd⟩:=Hr (P:=P) (w:=w) (π:=π) (.inl L) h t
   refine⟨u,w',A,?_,hd⟩
   rw[fi,iF _ _ _ _ (λ_ h=>by cases h) (λh=>by cases h)]
   exact B
 ·cases h
theorem WY{neg:Bool} (B:(op=.eql/\neg=false)\/(op=.neq/\neg=true)) (A:PA P t=true) (h:ZS neg a b=some v) (E:DV w π a x) (M:DV w π b y):
  ∃u,(do eqGuard op t X Y x y;binOp op t x y:Sem Value).run P w=.ok u w/\DV w π v u:=by
 have L:P.underlying t=some .bool:=by
  unfold PA at A;split at A
  ·assumption
  ·cases A
 unfold ZS at h;split at h
 ·cases E;cases M;cases h
  rename_i x y
  have D:=PL (w:=w) L x y
  rcases B with⟨rfl,rfl⟩|⟨rfl,rfl⟩
  ·refine⟨.bool (x==y),?_,.bool _⟩
   rw[fi,iF _ _ _ _ (λ_ h=>by cases h) (λh=>by cases h)]
   simp[binOp,D]
  ·refine⟨.bool (x !=y),?_,.bool _⟩
   rw[fi,iF _ _ _ _ (λ_ h=>by cases h) (λh=>by cases h)]
   simp[binOp,D,bne]
 ·cases h
theorem WZ{op:UnOp} (h:WL op a=some v) (A:DV w π a x):∃u,(Op.unary op x).run P w=.ok u w/\DV w π v u:=by
 unfold WL at h;split at h
 ·cases A;cases h;exact⟨_,rfl,.int _ _⟩
 ·cases A
  simp only[eg]at h;obtain⟨n,B,rfl⟩:=h;exact⟨_,tT B,.int _ _⟩
 ·cases A;cases h;exact⟨_,rfl,.float _ _⟩
 ·cases A;cases h;exact⟨_,rfl,.bool _⟩
 ·cases h
theorem PM{s d:TypeId} {X:Operand} {D:bC} {c:bU} (A:IU P s d D=some c) (E:DV w π a x) (h:(∃k,c=.rm k D/\F6 k a=some v)\/(∃k,c=.Dw k D/\F7 k a=some v)\/(∃k,c=.Hf k D/\yQ k a=some v)):
  ∃u,(convert s d x).run P w=.ok u w/\DV w π v u:=by
 unfold IU at A;split at A
 ·rename_i L M B hd
  cases A
  rcases h with⟨k,e,h⟩|⟨k,e,h⟩|⟨k,e,h⟩<;>try(cases e;done)
  cases e;unfold F6 at h;split at h
  ·cases E;cases h
   exact⟨_,by simp[convert,ii B,ii hd,Conv.intToInt],.int _ _⟩
  ·cases h
 ·rename_i L M B hd
  cases A
  rcases h with⟨k,e,h⟩|⟨k,e,h⟩|⟨k,e,h⟩<;>try(cases e;done)
  cases e;unfold F7 at h;split at h
  ·cases E;cases h
   exact⟨_,by simp[convert,ii B,ii hd,Conv.intToFloat],.float _ _⟩
  ·cases h
 ·rename_i L M B hd
  cases A
  rcases h with⟨k,e,h⟩|⟨k,e,h⟩|⟨k,e,h⟩<;>try(cases e;done)
  cases e;unfold yQ at h;split at h
  ·rename_i V bb
   cases E;split at h
   ·rename_i n R
    split at h
    ·rename_i O
     cases h
     exact⟨_,by simp[convert,ii B,ii hd,Conv.floatToInt,R,O],.int _ _⟩
    ·cases h
   ·cases h
  ·cases h
 ·cases A
theorem S9{e:TypeId} (A:P.underlying t=some (.slice e)) {D:Array TypeId} {Xs:Array Value} (hT:D[0]? =some t) (hX:Xs[0]? =some x) (B:DV w π a x) (h:yR a=some v) (E:TypeId):
  ∃u,(Builtin.len_ D E Xs).run P w=.ok u w/\DV w π v u:=by
 unfold yR at h;split at h
 ·cases B;cases h
  exact⟨_,by simp[Builtin.len_,hT,hX,ii A];rfl,.int _ _⟩
 ·cases B<;>cases h
  ·exact⟨_,by simp[Builtin.len_,hT,hX,ii A];rfl,.int _ _⟩
  ·exact⟨_,by simp[Builtin.len_,hT,hX,ii A];rfl,.int _ _⟩
 ·cases h
end
end
open Go.RowKit (Below)
section
variable{P:Program} {w:World} {π:Nat->Nat->Prop}
section
variable {a:AV} {mx:Bool} {v:AV} {x:Value}
theorem Ta{i:Nat} (h:Po a i=some v) (B:DV w π a x):∃u,(Instr.extract x i).run P w=.ok u w/\DV w π v u:=by
 unfold Po at h;split at h
 ·rename_i vs
  cases B with
  |dF as us D hd=>
   have E:i<vs.length:=by
    rcases kn i vs.length with h'|h'
    ·exact h'
    ·rw[ip h']at h;cases h
   have A:us[i]? =some us[i]!:=by
    have:i<us.size:=ST
    simp[this]
   exact⟨_,by simp[Instr.extract,A],hd i v _ h A⟩
 ·cases h
theorem IZ{t:TypeId} {M:Option Nat} (Z:yX P t=some M) {cs:List AV} {us:Array Value} {off:Nat} (hl:cs.length=us.size) (hs:∀a∈cs,a.scalar=true) (hd:∀(i:Nat) (a:AV) (v:Value),cs[i]? =some a->us[i]? =some v->DV w π a v) (h:aF cs off M=some v):∃u,(part t us off).run P w=.ok u w/\DV w π v u:=by
 have A:=Ho (w:=w) (π:=π) (f:=λj=>us.getD j undef) (λj x D=>hs x (em D)) (λj x D=>by
  have V:j<us.size:=by
   rw[<-hl]
   rcases kn j cs.length with h'|h'
   ·exact h'
   ·rw[ip h']at D;cases D
  have B:us[j]? =some us[j]:=Array.getElem?_eq_getElem V
  have:=hd j x _ D B
  simpa[V]using this) h
 cases M with
 |none=>
  obtain⟨d,B,R⟩:=IX Z
  have L:=yZ (w:=w) B
  have E:off<us.size:=by have:=A.2;omega
  exact⟨us[off],by simp[part,L,R,E],by simpa[E]using A.1⟩
 |some n=>
  obtain⟨d,B,R,hz⟩:=IW Z
  have L:=yZ (w:=w) B
  have O:=eH (w:=w) hz
  refine⟨.agg (us.extract off (off+n)),by simp[part,L,R,O],?_⟩
  have:us.extract off (off+n)=((List.range n).map λj=>us.getD (off+j) undef).toArray:=by
   apply Array.ext
   ·simp;omega
   ·intro i L O
    simp at O
    have:off+i<us.size:=ST
    simp[this]
  rw[this];exact A.2
inductive xY (w:World):World->Prop
 |refl:xY w w
 |step {w':World}:xY w w'->xY w w'.drew
theorem xY.dv{w w':World} {π:Nat->Nat->Prop} (h:xY w w') {v:AV} {u:Value} (hd:DV w π v u):DV w' π v u:=by
 induction h with
 |refl=>exact hd
 |step _ A=>exact Wk.dv (Or.inr rfl) A
theorem xY.dvs{w w':World} {π:Nat->Nat->Prop} (h:xY w w') {v:List AV} {u:List Value} (hd:jn w π v u):jn w' π v u:=
 ⟨hd.1,λi a v A B=>h.dv (hd.2 i a v A B)⟩
theorem xY.trans{w w' A:World} (h:xY w w') (D:xY w' A):xY w A:=by
 induction D with
 |refl=>exact h
 |step _ B=>exact .step B
theorem Gd(mx:Bool) (x y t:Nat):FR ((Question.nanMinMax .f64 mx x y).cut t)=true:=by
 have e:(Question.nanMinMax .f64 mx x y).cut t=(Question.nanBits .f64 x y).cut t:=by simp only[Question.cut]
 rw[e];exact BX x y t
theorem W0{x y:Nat} (h:FloatKind.f64.format.order x y=none):
  ∃u,((if mx then Builtin.max2 (.float .f64 x) (.float .f64 y)else Builtin.min2 (.float .f64 x) (.float .f64 y)):Sem Value).run P w=.ok u w.drew/\DV w π .fm u:=by
 cases mx
 ·exact⟨.float .f64 ((Question.nanMinMax .f64 false x y).cut (w.tape w.drawn (Question.nanMinMax .f64 false x y))),by simp[Builtin.min2,h,Question.forced],.fm _ (Gd _ _ _ _)⟩
 ·exact⟨.float .f64 ((Question.nanMinMax .f64 true x y).cut (w.tape w.drawn (Question.nanMinMax .f64 true x y))),by simp[Builtin.max2,h,Question.forced],.fm _ (Gd _ _ _ _)⟩
theorem Tc{b:AV} {y:Value} (h:We mx a b=some v) (D:DV w π a x) (E:DV w π b y):
  ∃u w',xY w w'/\((if mx then Builtin.max2 x y else Builtin.min2 x y):Sem Value).run P w=.ok u w'/\DV w π v u:=by
 have B:∀n m:Nat,FloatKind.f64.format.order n m=none->v=.fm->x=.float .f64 n->y=.float .f64 m->∃u w',xY w w'/\((if mx then Builtin.max2 x y else Builtin.min2 x y):Sem Value).run P w=.ok u w'/\DV w π v u:=by
  intro n m A L R M;subst L R M
  obtain⟨u,O,hd⟩:=W0 (P:=P) (w:=w) (π:=π) (mx:=mx) A
  exact⟨u,_,.step .refl,O,hd⟩
 unfold We at h;split at h
 ·cases D;cases E;cases h
  cases mx<;>exact⟨_,w,.refl,rfl,.int _ _⟩
 ·split at h
  ·rename_i hk
   subst hk;cases D;cases E;rename_i k x y;split at h
   ·rename_i A
    split at h
    ·rename_i hk;subst hk;cases h;exact B _ _ A rfl rfl rfl
    ·cases h
   ·rename_i A;cases h;cases mx<;>exact⟨_,w,.refl,by simp[Builtin.max2,Builtin.min2,A],.float _ _⟩
   ·rename_i A;cases h;cases mx<;>exact⟨_,w,.refl,by simp[Builtin.max2,Builtin.min2,A],.float _ _⟩
   ·rename_i A;cases h;cases mx<;>exact⟨_,w,.refl,by simp[Builtin.max2,Builtin.min2,A],.float _ _⟩
  ·cases h
 ·cases h;cases D;cases E
  exact B _ _ (vO (.inl (tU (by assumption)))) rfl rfl rfl
 ·cases h;cases D;cases E
  exact B _ _ (vO (.inr (tU (by assumption)))) rfl rfl rfl
 ·cases h
  cases D with
  |fm n V=>cases E with
   |fm m hm=>exact B _ _ (vO (.inl (tU V))) rfl rfl rfl
 ·cases h
theorem K6{mx:Bool}:∀{as:List AV} {us:List Value} {a v:AV} {x:Value} {w:World},as.foldlM (We mx) a=some v->DV w π a x->jn w π as us->
  ∃u w',xY w w'/\(us.foldlM (λp q=>if mx then Builtin.max2 p q else Builtin.min2 p q) x:Sem Value).run P w=.ok u w'/\DV w' π v u
 |[],us,a,v,x,w,h,D,B=>by
  have:us=[]:=nl (by simpa using B.1.symm)
  subst this;simp at h;subst h;exact⟨x,w,.refl,rfl,D⟩
 |b::as,us,a,v,x,w,h,D,B=>by
  cases us with
  |nil=>have:=B.1;simp at this
  |cons y us=>
   simp only[List.foldlM_cons,pC,jp]at h;obtain⟨c,hc,h⟩:=h
   obtain⟨u,w1,A,Z,hd⟩:=Tc (P:=P) hc D (B.2 0 b y rfl rfl)
   have E:jn w π as us:=⟨by have:=B.1;simpa using this,λi a v V R=>B.2 (i+1) a v (by simpa using V) (by simpa using R)⟩
   obtain⟨u',w2,O,M,L⟩:=K6 h (A.dv hd) (A.dvs E)
   exact⟨u',w2,A.trans O,by simp only[List.foldlM_cons,fi,Z,e9];exact M,L⟩
end
end
section ops
variable{P:Program} {nt:Nat} {n0:kL} {w0:World} {π0:Nat->Nat->Prop} {U:Nat->Prop} {s:S} {a:Act} {w:World} {β:Nat->Nat} {τ:Nat->Value} {π:Nat->Nat->Prop}
section
variable {K:SV->S->Prop} {X:Operand} {e:TypeId} {i:bC} {id:Nat} {ps:List (Nat×Nat)} {t:TypeId} {v:Value} {x:bC} {z:Nat}
theorem ah{α:Type} {o:Option α} {k:α->Prop} (h:ax o k):∃x,o=some x/\k x:=by
 cases o with
 |none=>exact h.elim
 |some x=>exact⟨x,rfl,h⟩
theorem RV.Mz{cs:List AV} (h:RV β τ w π (.rp cs) v) (d:Nat):∃B off,v=.pointer (some ⟨B,off,none⟩)/\RV β τ w π (.rp (cs.drop d)) (.pointer (some ⟨B,off+d,none⟩)):=by
 obtain⟨B,off,f,D,M,E,O,L⟩:=h
 refine⟨B,off,D,B,off+d,λj=>f (d+j),rfl,?_,?_,?_,?_⟩<;>intro j x A<;>rw[lh]at A
 ·exact M _ x A
 ·have:=E _ x A;rwa[<-zd]at this
 ·have:=O _ x A;rwa[<-zd]at this
 ·exact L _ x A
theorem RV.Wl(h:RV β τ w π (.pt 2 ps) v):∃B off,v=.pointer (some ⟨B,off,none⟩)/\
  ∀(i:Nat) (p:Nat×Nat),ps[i]? =some p->π B (off+i)/\w.cell? ⟨B,off+i,none⟩=some (.pointer (some ⟨β p.1,p.2,none⟩)):=by
 obtain⟨B,off,cap,A,E,D⟩:=h
 exact⟨B,off,by simpa using A,D⟩
theorem RV.MA{B off:Nat} (h:∀(i:Nat) (p:Nat×Nat),ps[i]? =some p->π B (off+i)/\w.cell? ⟨B,off+i,none⟩=some (.pointer (some ⟨β p.1,p.2,none⟩))):RV β τ w π (.pt 2 ps) (.pointer (some ⟨B,off,none⟩)):=
 ⟨B,off,ps.length,TB,ia _,h⟩
theorem RV.Te(h:RV β τ w π (.pt 2 ps) v) (d:Nat):∃B off,v=.pointer (some ⟨B,off,none⟩)/\RV β τ w π (.pt 2 (ps.drop d)) (.pointer (some ⟨B,off+d,none⟩)):=by
 obtain⟨B,off,D,E⟩:=h.Wl
 refine⟨B,off,D,.MA λi p A=>?_⟩
 rw[lh]at A
 have:=E _ p A
 rwa[<-zd]at this
theorem Rel.fieldAddr(R:Rel P nt n0 w0 π0 U s a w β τ π) {f:Nat} {A:Field} (hx:cq X=some x) (M:yY P t f=some A) (hz:¬(gq P A.type==some 0||(gq P A.type).isNone)=true) (h:bS (Pure P) id (.fa x A.offset) K s):
  ∃v y,(Instr.fieldAt t (a.eval X) f).run P w=.ok y w/\RV β τ w π v y/\v.gS U/\K v s:=by
 have V:∃Z:Array Field,P.underlying t=some (.struct Z)/\Z[f]? =some A:=by
  unfold yY at M;split at M
  ·exact⟨_,by assumption,M⟩
  ·cases M
 obtain⟨Z,V,aa⟩:=V
 obtain⟨z,ab,ad⟩:∃z,gq P A.type=some z/\z≠0:=by
  cases hs:gq P A.type with
  |none=>simp[hs]at hz
  |some z=>exact⟨z,rfl,λe=>by subst e;simp[hs]at hz⟩
 have ac:=eH (w:=w) ab
 have D:∀(B off:Nat),a.eval X=.pointer (some ⟨B,off,none⟩)->(Instr.fieldAt t (a.eval X) f).run P w=.ok (.pointer (some ⟨B,off+A.offset,none⟩)) w:=by
  intro B off he;simp[Instr.fieldAt,ii V,aa,he,Instr.sureAddr,fieldPlace,ac,ad,iP]
 simp only[bS]at h;obtain⟨p,O,h⟩:=ah h;obtain⟨L,hU⟩:=R.bX hx O
 cases p with
 |dat _ _=>exact h.elim
 |undef=>exact h.elim
 |vs _ _ _ _=>exact h.elim
 |wz _ _ _=>exact h.elim
 |raw _ _=>exact h.elim
 |pt k ps=>
  match k,L,h with
  |2,L,h=>
   obtain⟨B,off,hv,E⟩:=RV.Te L A.offset
   exact⟨.pt 2 (ps.drop A.offset),_,D _ _ hv,E,λp O=>hU p (nf O),h⟩
  |0,_,h=>exact h.elim
  |1,_,h=>exact h.elim
  |k+3,_,h=>exact h.elim
 |ptr b o=>exact⟨.ptr b (o+A.offset),_,D _ _ L,rfl,hU,h⟩
 |rp cs=>
  obtain⟨B,off,hv,E⟩:=RV.Mz L A.offset;exact⟨.rp (cs.drop A.offset),_,D _ _ hv,E,trivial,h⟩
theorem Rel.idx(R:Rel P nt n0 w0 π0 U s a w β τ π) {i:Int} {b:AV} (B:cq X=some x) (D:Eng.aM s x=some b) (A:idxOf b=some i):∃k,a.eval X=.int k i:=by
 have hd:=R.aM B D
 unfold idxOf at A;split at A
 ·rename_i k n
  cases A;exact⟨k,hd.S5⟩
 ·cases A
theorem Rel.PN(R:Rel P nt n0 w0 π0 U s a w β τ π) {n:Nat} {I:Operand} (hx:cq X=some x) (hi:cq I=some i) (ht:P.underlying t=some (.array n e)) (hz:gq P e=some z) (h:bS (Pure P) id (.Pd x i n z) K s):
  ∃v y,(Instr.indexAt t (a.eval X) (a.eval I)).run P w=.ok y w/\RV β τ w π v y/\v.gS U/\K v s:=by
 simp only[bS]at h;obtain⟨p,O,h⟩:=ah h;obtain⟨b,hb,h⟩:=ah h;obtain⟨j,Z,h⟩:=ah h;obtain⟨D,h⟩:=h;obtain⟨k,hk⟩:=R.idx hi hb Z;obtain⟨M,hU⟩:=R.bX hx O
 have L:=eH (w:=w) hz
 have A:∀(B off:Nat),a.eval X=.pointer (some ⟨B,off,none⟩)->(Instr.indexAt t (a.eval X) (a.eval I)).run P w=.ok (.pointer (some ⟨B,off+j.toNat*z,none⟩)) w:=by
  intro B off V;simp[Instr.indexAt,hk,V,asIntOf,ii ht,Instr.sureAddr,D,L,iP]
 cases p with
 |dat _ _=>exact h.elim
 |undef=>exact h.elim
 |vs _ _ _ _=>exact h.elim
 |wz _ _ _=>exact h.elim
 |raw _ _=>exact h.elim
 |pt _ _=>exact h.elim
 |ptr b o=>exact⟨.ptr b (o+j.toNat*z),_,A _ _ M,rfl,hU,h⟩
 |rp cs=>
  obtain⟨B,off,hv,E⟩:=RV.Mz M (j.toNat*z)
  exact⟨.rp (cs.drop (j.toNat*z)),_,A _ _ hv,E,trivial,h⟩
theorem Rel.Tf(R:Rel P nt n0 w0 π0 U s a w β τ π) {I:Operand} (hx:cq X=some x) (hi:cq I=some i) (ht:P.underlying t=some (.slice e)) (hz:gq P e=some z) (h:bS (Pure P) id (.S0 x i z) K s):
  ∃v y,(Instr.indexAt t (a.eval X) (a.eval I)).run P w=.ok y w/\RV β τ w π v y/\v.gS U/\K v s:=by
 simp only[bS]at h;obtain⟨u,hu,h⟩:=ah h
 have V:=eH (w:=w) hz
 cases u with
 |ptr _ _=>exact h.elim
 |rp _=>exact h.elim
 |undef=>exact h.elim
 |wz _ _ _=>exact h.elim
 |raw _ _=>exact h.elim
 |pt _ _=>exact h.elim
 |vs b off n O=>
 obtain⟨a',hb,k2⟩:=ah h;obtain⟨j,hj,E,rfl,hK⟩:=ah k2;obtain⟨k,hk⟩:=R.idx hi hb hj;obtain⟨⟨cap,ac,hv⟩,hU⟩:=R.bX hx hu;refine⟨.ptr b (off+j.toNat*O),.pointer (some ⟨β b,off+j.toNat*O,none⟩),?_,rfl,hU,hK⟩;rw[hv];simp[Instr.indexAt,hk,asIntOf,ii ht,E,V,iP]
 |dat l q=>
 have hl:Eng.aM s x=some l:=by simp[Eng.aM,hu]
 obtain⟨b,hb,k2⟩:=ah h;obtain⟨j,hj,k3⟩:=ah k2;obtain⟨xs,L,E,k4⟩:=ah k3;obtain⟨row,D,ab,hK⟩:=ah k4;obtain⟨k,hk⟩:=R.idx hi hb hj
 have hd:=R.aM hx hl
 have aa:l=.sl xs:=by
  cases l<;>simp only[rowsOf]at L<;>try(cases L;done)
  ·cases L;simp at E;omega
  ·cases L;rfl
 subst aa;generalize hv:a.eval X=v at hd
 cases hd with
 |NO A=>simp at D
 |sl _ B off cap O f h1 h2 h3 h4 h5 h6=>
  have Z:O=z:=by rw[<-h2 _ _ D,ab]
  subst Z
  refine⟨.rp row,.pointer (some ⟨B,off+j.toNat*O,none⟩),?_,⟨B,off+j.toNat*O,λm=>f j.toNat m,rfl,?_,?_,?_,?_⟩,trivial,hK⟩
  ·simp[Instr.indexAt,hk,asIntOf,ii ht,E,V,iP]
  ·intro m c M;exact h3 _ m row c D M
  ·intro m c M;exact h4 _ m row c D M
  ·intro m c M;exact h5 _ m row c D M
  ·intro m c M;exact h6 _ m row c D M
end
end ops
open Go.RowKit (Below)
theorem I0:∀(vs:List Value) (cells:Array Value) (off k:Nat),off+k+vs.length<=cells.size->
  ((vs.zipIdx k).foldl (λcs (c,j)=>cs.setIfInBounds (off+j) c) cells).toList=cells.toList.take (off+k)++vs++cells.toList.drop (off+k+vs.length)
 |[],cells,off,k,h=>by simp
 |v::vs,cells,off,k,h=>by
  simp only[List.zipIdx_cons,p7]
  have hk:off+k<cells.size:=by simp at h;omega
  rw[I0 vs (cells.setIfInBounds (off+k) v) off (k+1) (by simp at h⊢;omega)]
  have e:=list_seg_step cells.toList (off+k) v vs (by simp at h⊢;omega)
  simpa[Array.toList_setIfInBounds,zd]using e
theorem vP{place:Nat->Option (Nat×Nat)} {cells:Array Value} {i off:Nat} {v:Value} {rest:List (Nat×Value)} (B:place i=some (off,v.cells.size)) (D:off+v.cells.size<=cells.size):
  ∃cells',Instr.fill place cells ((i,v)::rest)=Instr.fill place cells' rest/\cells'.toList=cells.toList.take off++v.cells.toList++cells.toList.drop (off+v.cells.toList.length)/\cells'.size=cells.size:=by
 have A:=I0 v.cells.toList cells off 0 (by simpa using D)
 refine⟨(v.cells.toList.zipIdx 0).foldl (λcs (c,j)=>cs.setIfInBounds (off+j) c) cells,?_,by simpa using A,?_⟩
 ·simp only[Instr.fill,B]
  have E:¬(off+v.cells.size>cells.size):=ST
  simp only[ne_eq,Hc,decide_false,E,wn,ev,ib,bne_self_eq_false]
  congr 1
  rw[<-Array.foldl_toList];simp
 ·have:=ne List.length A
  simp at this;rw[<-Array.length_toList,A];simp;omega
section
variable{P:Program} {w:World} {π:Nat->Nat->Prop}
theorem jn.splice{cs ps:List AV} {us vs:List Value} {off:Nat} (h:jn w π cs us) (k:jn w π ps vs) (L:off+ps.length<=cs.length):
  jn w π (cs.take off++ps++cs.drop (off+ps.length)) (us.take off++vs++us.drop (off+vs.length)):=by
 have O:=h.1
 have M:=k.1
 refine⟨by simp;omega,λi c u D A=>?_⟩
 rw[iQ _ _ _ L]at D
 rw[iQ _ _ _ ST]at A
 rw[<-M]at A;split at D
 ·rename_i E;rw[et E]at A;exact h.2 i c u D A
 ·rename_i E
  rw[ek E]at A;split at D
  ·rename_i B;rw[et B]at A;exact k.2 _ c u D A
  ·rename_i B;rw[ek B]at A;exact h.2 i c u D A
theorem tV{t:TypeId} {zs:List AV} (h:zeroOf P t=some zs):∃z:Value,(zeroValue t).run P w=.ok z w/\jn w π zs z.cells.toList/\∀a∈zs,a.scalar=true:=by
 unfold zeroOf at h;split at h
 ·rename_i z A
  simp only[jp]at A;obtain⟨i,B,A⟩:=A
  have hm:=Bf (w:=w) (π:=π) _ _ h
  exact⟨z,by simp[zeroValue,typeInfo,B,A],hm.1,hm.2⟩
 ·cases h
end
section ops
variable{P:Program} {nt:Nat} {n0:kL} {w0:World} {π0:Nat->Nat->Prop} {U:Nat->Prop} {s:S} {a:Act} {w:World} {β:Nat->Nat} {τ:Nat->Value} {π:Nat->Nat->Prop}
theorem Rel.fill(R:Rel P nt n0 w0 π0 U s a w β τ π) {t:TypeId} {place:Nat->Option (Nat×Nat)} (L:∀i o z,Mu P t i=some (o,z)->place i=some (o,z)):
  ∀(Xs:List (Nat×Operand)) (ps:List (Nat×Nat×bC)) (as:List (Nat×List AV)) (cs:List AV) (us:Array Value),Bd P t Xs=some ps->jk s ps=some as->tQ cs.length ps=true->
   jn w π cs us.toList->(∀c∈cs,c.scalar=true)->
   ∃B,Instr.fill place us (Xs.map λp=>(p.1,a.eval p.2))=some B/\jn w π (nG cs as) B.toList/\∀c∈nG cs as,c.scalar=true
 |[],ps,as,cs,us,E,A,h3,hd,Z=>by
  simp[Bd]at E;subst E;simp[jk]at A;subst A;exact⟨us,rfl,hd,Z⟩
 |(i,X)::Xs,ps,as,cs,us,E,A,h3,hd,Z=>by
  simp only[Bd]at E;split at E
  ·rename_i o z x ak hp hx al
   cases E;simp only[jk]at A;split at A
   ·rename_i av aa ac has
    split at A
    ·rename_i hz
     obtain⟨hz,am⟩:=hz;cases A;simp only[tQ,ed,gc]at h3
     have ag:=R.aM hx ac
     obtain⟨M,ao⟩:=ag.cells (λvs e=>by subst e;simp[jo]at am)
     have ad:(a.eval X).cells.size=z:=by have:=M.1;simp at this;omega
     have au:us.size=cs.length:=by have:=hd.1;simp at this;omega
     obtain⟨O,he,an,a2⟩:=vP (place:=place) (cells:=us) (i:=i) (off:=o) (v:=a.eval X) (rest:=Xs.map λp=>(p.1,a.eval p.2)) (by rw[ad];exact L i o z hp) ST
     have ae:jn w π (cs.take o++av.cells++cs.drop (o+av.cells.length)) O.toList:=by rw[an];exact hd.splice M ST
     have V:∀c∈cs.take o++av.cells++cs.drop (o+av.cells.length),c.scalar=true:=by
      intro c D;simp only[il]at D
      rcases D with(D|D)|D
      ·exact Z c (tl D)
      ·exact ao c D
      ·exact Z c (nf D)
     obtain⟨B,hf,ar,ab⟩:=R.fill L Xs ak aa _ O al has (by
      have:(cs.take o++av.cells++cs.drop (o+av.cells.length)).length=cs.length:=by simp;omega
      rw[this];exact h3.2) ae V
     exact⟨B,by rw[md,he];exact hf,ar,ab⟩
    ·cases A
   ·cases A
  ·cases E
theorem tW{P:Program} {w:World} {α β:Type} (xs:Array α) (f:α->Sem β) (g:α->β) (h:∀x∈xs,(f x).run P w=.ok (g x) w):(xs.mapM f).run P w=.ok (xs.map g) w:=by
 obtain⟨l⟩:=xs;rw[List.mapM_toArray,Sem.run_map]
 have:∀l:List α,(∀x∈l,(f x).run P w=.ok (g x) w)->(l.mapM f).run P w=.ok (l.map g) w:=by
  intro l
  induction l with
  |nil=>intro _;rfl
  |cons x l A=>
   intro h
   simp[tp,fi,h x TB,A (λy B=>h y (by simp[B]))]
 rw[this l (λx D=>h x (by simpa using D))]
 simp
theorem Rel.build(R:Rel P nt n0 w0 π0 U s a w β τ π) {t:TypeId} {Xs:Array (Nat×Operand)} {zs:List AV} {ps:List (Nat×Nat×bC)} (hz:zeroOf P t=some zs) (ac:Bd P t Xs.toList=some ps) (D:tQ zs.length ps=true) (A:Hi P t=true)
  {id:Nat} {K:SV->S->Prop} (h:bS (Pure P) id (.build zs ps) K s):
  ∃v y,(Instr.build t (Xs.map λ(i,x)=>(i,a.eval x))).run P w=.ok y w/\RV β τ w π v y/\v.gS U/\K v s:=by
 simp only[bS]at h;obtain⟨as,has,hK⟩:=ah h
 obtain⟨z,aa,Z,ab⟩:=tV (P:=P) (w:=w) (π:=π) hz
 unfold Hi at A;split at A
 ·rename_i fs V
  have hm:=tW (P:=P) (w:=w) fs (λf=>do pure (f.offset,<-sizeOf f.type)) (λf=>(f.offset,(gq P f.type).getD 0)) (by
   intro f O
   have:=(lj.1 A) f (by simpa using O)
   cases M:gq P f.type with
   |none=>simp[M]at this
   |some z=>simp[eH (w:=w) M])
  obtain⟨E,O,hd,M⟩:=R.fill (place:=((fs.map λf=>(f.offset,(gq P f.type).getD 0))[·]?)) (λi o z B=>by
   unfold Mu at B;simp only[V]at B;split at B
   ·rename_i f ae
    simp only[eg]at B;obtain⟨z',ad,e⟩:=B;cases e;simp[ae,ad]
   ·cases B) Xs.toList ps as zs z.cells ac has D Z ab
  refine⟨.dat (.agg (nG zs as)) none,.agg E,?_,⟨.agg _ _ (by have:=hd.1;simpa using this) M (λi a v ha hv=>hd.2 i a v ha (by simpa using hv)),λt ht=>by cases ht⟩,trivial,hK⟩
  simp only[Instr.build,fi,aa,e9,ii V,hm]
  have:(Xs.map λ(i,x)=>(i,a.eval x)).toList=Xs.toList.map λp=>(p.1,a.eval p.2):=TB
  rw[this,O];rfl
 ·rename_i n e V
  cases L:gq P e with
  |none=>simp[L]at A
  |some ze=>
   obtain⟨E,O,hd,M⟩:=R.fill (place:=λi=>some (i*ze,ze)) (λi o z B=>by
    unfold Mu at B;simp[V,L]at B;obtain⟨rfl,rfl⟩:=B
    rfl) Xs.toList ps as zs z.cells ac has D Z ab
   refine⟨.dat (.agg (nG zs as)) none,.agg E,?_,⟨.agg _ _ (by have:=hd.1;simpa using this) M (λi a v ha hv=>hd.2 i a v ha (by simpa using hv)),λt ht=>by cases ht⟩,trivial,hK⟩
   simp only[Instr.build,fi,aa,e9,ii V,eH (w:=w) L]
   have:(Xs.map λ(i,x)=>(i,a.eval x)).toList=Xs.toList.map λp=>(p.1,a.eval p.2):=TB
   rw[this,O];rfl
 ·cases A
end ops
open Go.RowKit (Below)
theorem lW{α:Type} {z:Nat}:∀{xs:List (List α)},(∀r∈xs,r.length=z)->∀{i j:Nat} {r:List α} {a:α},xs[i]? =some r->r[j]? =some a->xs.flatten[i*z+j]? =some a
 |[],h,i,j,r,a,A,B=>by simp at A
 |x::xs,h,0,j,r,a,A,B=>by
  simp at A;subst A
  have L:j<x.length:=by
   rcases kn j x.length with D|D
   ·exact D
   ·rw[ip D]at B;cases B
  simp only[NE,Nat.zero_mul,la];rw[lc L];exact B
 |x::xs,h,i+1,j,r,a,A,B=>by
  have E:=h x TB
  have:=lW (xs:=xs) (λr A=>h r (by simp[A])) (by simpa using A) B
  simp only[NE]
  rw[kw (by rw[E,Nat.add_mul];omega)]
  rw[E,show(i+1)*z+j-z=i*z+j by rw[Nat.add_mul];omega]
  exact this
theorem jr{α:Type} {z:Nat}:∀{xs:List (List α)},(∀r∈xs,r.length=z)->xs.flatten.length=xs.length*z
 |[],h=>by simp
 |x::xs,h=>by
  have A:=h x TB
  have:=jr (xs:=xs) (λr B=>h r (by simp[B]))
  simp[A,this,Nat.add_mul];omega
section
variable{P:Program} {nt:Nat} {n0:kL} {w0:World} {π0:Nat->Nat->Prop} {U:Nat->Prop} {s:S} {a:Act} {w:World} {β:Nat->Nat} {τ:Nat->Value} {π:Nat->Nat->Prop}
def grow(π:Nat->Nat->Prop) (B m:Nat):Nat->Nat->Prop:=λb o=>π b o\/(b=B/\o<m)
theorem Rel.newRow(R:Rel P nt n0 w0 π0 U s a w β τ π) {xs:List (List AV)} {z cap:Nat} {cs:Array Value} (e:TypeId) (A:∀r∈xs,r.length=z) (O:xs.length<=cap) (aa:xs.length*z<=cs.size)
  (hd:∀(i:Nat) (x:AV) (v:Value),xs.flatten[i]? =some x->cs[i]? =some v->DV w π x v) (hs:∀r∈xs,∀x∈r,x.scalar=true):
  Rel P nt n0 w0 π0 U s a (w.alloc (.cells cs e)) β τ (grow π w.heap.size (xs.length*z))/\
   DV (w.alloc (.cells cs e)) (grow π w.heap.size (xs.length*z)) (.sl xs) (.slice (some ⟨w.heap.size,0,none⟩) xs.length cap):=by
 have E:Below w.heap.size w (w.alloc (.cells cs e)):=(Below.refl _ _).alloc (ia _) _
 refine⟨R.frame (λ_ _=>rfl) (λ_ _=>rfl) (λ_ h=>h) (λ_ _ h=>.inl h) (λb o h=>?_) (λb o h=>?_) E,?_⟩
 ·rcases h with h|⟨rfl,_⟩
  ·exact .inl h
  ·exact .inr (ia _)
 ·rcases h with h|⟨rfl,_⟩
  ·have:=R.gj b o h;simp;omega
  ·simp
 ·have hmono:∀{x:AV} {v:Value},DV w π x v->DV (w.alloc (.cells cs e)) (grow π w.heap.size (xs.length*z)) x v:=λh=>h.mono (λ_ _ h=>.inl h) (λb o h=>Below.vN E (R.gj b o h))
  have M:∀(i j:Nat) (r:List AV) (x:AV),xs[i]? =some r->r[j]? =some x->i*z+j<xs.length*z:=by
   intro i j r x B D
   have hf:=lW A B D
   rcases kn (i*z+j) (xs.length*z)with V|V
   ·exact V
   ·rw[ip (by rw[jr A];exact V)]at hf;cases hf
  refine .sl xs w.heap.size 0 cap z (λi j=>cs.getD (i*z+j) undef) O (λi r B=>A r (em B)) (λi j r x B D=>hs r (em B) x (em D)) ?_ ?_ ?_
  ·intro i j r x B D
   exact .inr ⟨rfl,by have:=M i j r x B D;omega⟩
  ·intro i j r x B D
   have L:=M i j r x B D
   rw[ul _ _ _ cs e (0,0) (Hn w _)]
   have:i*z+j<cs.size:=ST
   simp[this]
  ·intro i j r x B D
   have L:i*z+j<cs.size:=by have:=M i j r x B D;omega
   have:=hd (i*z+j) x cs[i*z+j] (lW A B D) (Array.getElem?_eq_getElem L)
   have Z:cs.getD (i*z+j) undef=cs[i*z+j]:=by simp[L]
   rw[Z];exact hmono this
theorem kg{q k e:Nat}:∀{l:List (Nat×Nat)},fq q (nH k l)=some e->fq q l=some e/\q≠k
 |[],h=>by simp[nH,fq]at h
 |(m,v)::r,h=>by
  simp only[nH]at h
  by_cases hk:k=m
  ·subst hk
   simp only[ns,ge]at h;obtain⟨E,B⟩:=kg h
   have D:(q==k)=false:=by simpa using B
   exact⟨by simp[fq,D,E],B⟩
  ·have D:(k==m)=false:=by simpa using hk
   simp only[D,eQ,fq]at h
   by_cases L:q=m
   ·subst L
    simp at h
    exact⟨by simp[fq,h],λe=>hk e.symm⟩
   ·have A:(q==m)=false:=by simpa using L
    simp only[A,eQ]at h;obtain⟨E,B⟩:=kg h
    exact⟨by simp[fq,A,E],B⟩
theorem Rel.tX(R:Rel P nt n0 w0 π0 U s a w β τ π) {id e:Nat} {v:Value} (ab:¬U id) (ht:Hl P w π n0.ok e v)
  (hl:∀q E B,fq q s.live=some E->jq (τ q)=some B->jq v≠some B) (O:∀b x,dh b s.boxes=some x->jq v≠some (β b)):
  Rel P nt n0 w0 π0 (fu U id) {s with live:=(id,e)::s.live} a w β (FP τ id v) π:=by
 have aa:∀b,U b->b≠id:=λb O e=>ab (e▸O)
 have D:Rel P nt n0 w0 π0 (fu U id) s a w β (FP τ id v) π:=
  R.frame (λ_ _=>rfl) (λb O=>xX _ _ _ (aa b O)) (λn h=>.inl h) (λ_ _ h=>h) (λ_ _ h=>.inl h) R.gj (Below.refl _ _)
 have A:∀{q E},fq q ((id,e)::s.live)=some E->(q=id/\E=e)\/(q≠id/\fq q s.live=some E):=by
  intro q E h;simp only[fq]at h
  by_cases M:q=id
  ·subst M;simp at h;exact .inl ⟨rfl,h.symm⟩
  ·have hf:(q==id)=false:=by simpa using M
   simp only[hf,eQ]at h;exact .inr ⟨M,h⟩
 refine⟨D.size,D.slots,D.boxes,D.inj,λq E h=>?_,λq q' E V B h Z hB L=>?_,λq E b x h Z hB=>?_,D.below,D.gI,D.gj,D.gu,D.dW,D.nL,D.jP,D.kept⟩
 ·rcases A h with⟨rfl,rfl⟩|⟨_,h⟩
  ·exact⟨.inr rfl,by rw[cj];exact ht⟩
  ·exact D.live q E h
 ·rcases A h with⟨k1,_⟩|⟨M,k⟩<;>rcases A Z with⟨k1',_⟩|⟨hq',k'⟩
  ·rw[k1,k1']
  ·rw[k1,cj]at hB
   rw[xX _ _ _ hq']at L;exact absurd hB (hl q' V B k' L)
  ·rw[k1',cj]at L
   rw[xX _ _ _ M]at hB;exact absurd L (hl q E B k hB)
  ·exact D.dm q q' E V B k k' hB L
 ·rcases A h with⟨rfl,rfl⟩|⟨M,h⟩
  ·rw[cj]at hB;exact O b x Z hB
  ·exact D.dG q E b x h Z hB
theorem Rel.K7(R:Rel P nt n0 w0 π0 U s a w β τ π) (q:Nat):Rel P nt n0 w0 π0 U {s with live:=nH q s.live} a w β τ π:=
 ⟨R.size,R.slots,R.boxes,R.inj,λk e h=>R.live k e (kg h).1,λk E e D B h A=>R.dm k E e D B (kg h).1 (kg A).1,λk e b x h=>R.dG k e b x (kg h).1,R.below,R.gI,R.gj,R.gu,R.dW,R.nL,R.jP,R.kept⟩
theorem Rel.I1(R:Rel P nt n0 w0 π0 U s a w β τ π) {B m:Nat} {D cur':Array Value} {e:TypeId} (hB:n0.ok B) (V:w.heap[B]? =some (.cells D e (0,0)))
  (hsame:∀o,π B o->cur'[o]? =D[o]?) (hl:∀q E,fq q s.live=some E->jq (τ q)≠some B) (O:∀b x,dh b s.boxes=some x->β b≠B):
  Rel P nt n0 w0 π0 U s a (w.setRow B cur') β τ (grow π B m):=by
 have aa:=oL V
 have A:∀k,k≠B->(w.setRow B cur').heap[k]? =w.heap[k]?:=λk hk=>setRow_other w _ k cur' hk
 have hc:∀b o,π b o->(w.setRow B cur').cell? ⟨b,o,none⟩=w.cell? ⟨b,o,none⟩:=by
  intro b o h
  by_cases E:b=B
  ·subst E
   rw[ul _ _ _ cur' e (0,0) (setRow_heap w _ D _ e _ V),ul _ _ _ D e (0,0) V];exact hsame o h
  ·exact Ps w _ cur' ⟨b,o,none⟩ E
 have hp:∀b o,π b o->grow π B m b o:=λ_ _ h=>.inl h
 have M:∀b o,b≠B->grow π B m b o->π b o:=λb o O h=>by
  rcases h with h|⟨h,_⟩
  ·exact h
  ·exact absurd h O
 refine⟨R.size,λt v h=>?_,λb x h=>?_,R.inj,λq E h=>?_,R.dm,R.dG,R.below.trans ⟨rfl,rfl,rfl,TB,λk hk hx=>A k (λe=>by subst e;exact hB.elim (λh=>ST) hx),λk o hk L=>(A k (λe=>by subst e;rw[V]at hk;cases hk;cases L)).trans hk⟩,R.gI,λb o h=>?_,λb o h=>hp _ _ (R.gu b o h),λb o h=>?_,R.nL,R.jP,λb o h=>(hc b o (R.gu b o h)).trans (R.kept b o h)⟩
 ·obtain⟨⟨x,hx,hv⟩,hu⟩:=R.slots t v h
  exact⟨⟨x,hx,RV.mono (λ_ _=>rfl) (λ_ _=>rfl) hp hc hu hv⟩,hu⟩
 ·obtain⟨h1,Z,h3,h4⟩:=R.boxes b x h
  refine⟨h1,Z,h3.keep (λ_ _=>rfl) h4 (A _ (O b x h)) hp hc (λo L=>?_),h4⟩
  obtain⟨_,_,_,_,_,_,hn⟩:=h3;exact hn o (M _ o (O b x h) L)
 ·obtain⟨h1,Z⟩:=R.live q E h
  exact⟨h1,Z.keep (λC hC=>A C (λeC=>hl q E h (by rw[hC,eC]))) (λC o hC L=>M C o (λeC=>hl q E h (by rw[hC,eC])) L)⟩
 ·rcases h with h|⟨rfl,_⟩
  ·simpa using R.gj b o h
  ·simpa using aa
 ·rcases h with h|⟨rfl,_⟩
  ·exact R.dW b o h
  ·exact .inr hB
theorem Rel.draw(R:Rel P nt n0 w0 π0 U s a w β τ π):Rel P nt n0 w0 π0 U s a w.drew β τ π:=
 R.frame (λ_ _=>rfl) (λ_ _=>rfl) (λ_ h=>h) (λ_ _ h=>h) (λ_ _ h=>.inl h) R.gj (Below.refl _ _).drew
theorem Rel.oM(R:Rel P nt n0 w0 π0 U s a w β τ π) {w':World} (h:xY w w'):Rel P nt n0 w0 π0 U s a w' β τ π:=by
 induction h with
 |refl=>exact R
 |step _ A=>exact A.draw
end
end Go.Eng
