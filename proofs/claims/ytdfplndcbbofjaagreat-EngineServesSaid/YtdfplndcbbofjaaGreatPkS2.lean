/- Part 2 of the engine and its library. -/
import Derived.Test.YtdfplndcbbofjaaGreatPkS1
set_option linter.all false
set_option maxRecDepth 10000
set_option maxHeartbeats 4000000
namespace Go.Eng
open Go
open Go.RowKit (Below)
section
variable {P:Program} {a:AV} {as:List (Option AV)} {e:Nat} {ok:Nat->Prop} {v:Value} {vs:List Value} {w w':World} {π π':Nat->Nat->Prop}
theorem Below.th{n:Nat} (h:Below n w w') {b o:Nat} (A:b<n):w'.cell? ⟨b,o,none⟩=w.cell? ⟨b,o,none⟩:=Below.cell h (p:=⟨b,o,none⟩) A
theorem l9{Bs:List Nat} (h:ep w π (some a::as) Bs (v::vs)):
  (a=.hole/\∃B A,Bs=B::A/\v=.agg #[.pointer (some ⟨B,0,none⟩)]/\ep w π as A vs)\/(a≠.hole/\DV w π a v/\ep w π as Bs vs):=by
 by_cases D:a=.hole
 ·subst D
  cases Bs with
  |nil=>cases h.1
  |cons B Bs=>exact .inl ⟨rfl,B,Bs,rfl,h.1,h.2⟩
 ·refine .inr ⟨D,?_⟩
  cases a<;>first|exact absurd rfl D|(cases Bs<;>exact h)
theorem uO{Bs:List Nat} (B:a≠.hole) (A:DV w π a v) (D:ep w π as Bs vs):ep w π (some a::as) Bs (v::vs):=by
 cases a<;>first|exact absurd rfl B|(cases Bs<;>exact⟨A,D⟩)
theorem AB{Bs:List Nat} (A:DV w π a v) (B:ep w π as Bs vs):ep w π (some a::as) Bs (v::vs):=
 uO (λe=>by subst e;cases A) A B
theorem ep.mono{w w':World} {π π':Nat->Nat->Prop} (A:∀b o,π b o->π' b o) (D:∀b o,π b o->w'.cell? ⟨b,o,none⟩=w.cell? ⟨b,o,none⟩):∀{as:List (Option AV)} {Bs:List Nat} {vs:List Value},ep w π as Bs vs->ep w' π' as Bs vs
 |[],[],[],_=>trivial
 |[],[],v::vs,h=>h.elim
 |[],B::Bs,vs,h=>by cases vs<;>exact h.elim
 |some a::as,Bs,[],h=>by cases Bs<;>cases a<;>exact h.elim
 |some a::as,Bs,v::vs,h=>by
  rcases l9 h with⟨rfl,B,R,rfl,e,L⟩|⟨M,O,L⟩
  ·exact⟨e,ep.mono A D L⟩
  ·exact uO M (O.mono A D) (ep.mono A D L)
 |none::as,[],vs,h=>by cases vs<;>exact h.elim
 |none::as,B::Bs,[],h=>h.elim
 |none::as,B::Bs,v::vs,h=>⟨h.1,ep.mono A D h.2⟩
theorem RV.mono{β β':Nat->Nat} {τ τ':Nat->Value} {w w':World} {π π':Nat->Nat->Prop} {U:Nat->Prop} (R:∀b,U b->β' b=β b) (hτ:∀b,U b->τ' b=τ b)
  (L:∀b o,π b o->π' b o) (V:∀b o,π b o->w'.cell? ⟨b,o,none⟩=w.cell? ⟨b,o,none⟩) {v:SV} {x:Value} (M:v.fJ U) (h:RV β τ w π v x):RV β' τ' w' π' v x:=by
 cases v with
 |dat a q=>
  refine⟨h.1.mono L V,λt ht=>?_⟩
  subst ht;rw[hτ t M];exact h.2 t rfl
 |ptr b off=>
  show x=_
  rw[R b M];exact h
 |rp cs=>
  obtain⟨B,off,f,hx,D,A,Z,h4⟩:=h
  exact⟨B,off,f,hx,D,λj a O=>L _ _ (A j a O),λj a O=>(V _ _ (A j a O)).trans (Z j a O),λj a O=>(h4 j a O).mono L V⟩
 |undef=>exact h
 |vs b off n z=>
  obtain⟨cap,D,A⟩:=h
  exact⟨cap,D,by rw[R b M];exact A⟩
 |tW f as bs=>
  obtain⟨us,D,A⟩:=h;refine⟨us,D,?_⟩
  have e:bs.map β'=bs.map β:=ti λb hb=>R b (M b hb)
  rw[e];exact A.mono L V
 |raw q n=>
  obtain⟨B,cap,D,A⟩:=h
  exact⟨B,cap,by rw[hτ q M];exact D,A⟩
 |pt k ps=>
  cases k with
  |zero=>
   have h:x=_:=h
   show x=_
   rw[h]
   congr 2
   exact ti λp L=>by rw[R p.1 (M p L)]
  |succ k=>
   obtain⟨B,off,cap,D,A,Z⟩:=h
   refine⟨B,off,cap,D,A,λi p hi=>?_⟩
   have:=Z i p hi
   exact⟨L _ _ this.1,by rw[V _ _ this.1,this.2,R p.1 (M p (ev hi))]⟩
theorem SV.mb{U U':Nat->Prop} (A:∀n,U n->U' n) {v:SV} (h:v.fJ U):v.fJ U':=by
 cases v with
 |dat a q=>cases q with
  |none=>trivial
  |some q=>exact A _ h
 |ptr b off=>exact A _ h
 |rp cs=>trivial
 |undef=>trivial
 |vs b off n z=>exact A _ h
 |tW f as L=>exact λb D=>A _ (h b D)
 |raw q n=>exact A _ h
 |pt k ps=>exact λp B=>A _ (h p B)
theorem ng{B:Nat} {o:Obj} (h:w.heap[B]? =some o):B<w.heap.size:=(kd.1 h).1
theorem D7.block{B:Nat} (h:D7 P w π ok e v) (hB:iz v=some B):
  ok B/\B<w.heap.size:=by
 rcases h with rfl|⟨B',len,cap,L,i,rfl,D,A,_⟩
 ·simp[iz]at hB
 ·simp[iz]at hB;subst hB;exact⟨D,ng A⟩
theorem D7.keep(h:D7 P w π ok e v) (hb:∀B,iz v=some B->w'.heap[B]? =w.heap[B]?) (D:∀B o,iz v=some B->π' B o->π B o):D7 P w' π' ok e v:=by
 rcases h with rfl|⟨B',len,cap,A,i,rfl,V,O,h3,R,Z,L,h7⟩
 ·exact .inl rfl
 ·exact .inr ⟨B',len,cap,A,i,rfl,V,(hb B' rfl).trans O,h3,R,Z,L,λo M hc=>h7 o M (D B' o rfl hc)⟩
theorem qO.keep{τ τ':Nat->Value} {U:Nat->Prop} {B:Nat} {x:cI} (h:qO τ w π B x) (Z:∀q,U q->τ' q=τ q) (hU:∀o q,dY o x.tags=some q->U q) (hb:w'.heap[B]? =w.heap[B]?) (L:∀b o,π b o->π' b o) (hc:∀b o,π b o->w'.cell? ⟨b,o,none⟩=w.cell? ⟨b,o,none⟩) (hn:∀o,¬π' B o):qO τ' w' π' B x:=by
 obtain⟨A,M,V,O,h3,R,_⟩:=h
 exact⟨A,M,hb.trans V,O.mono L hc,h3,λo q D=>by rw[Z q (hU o q D)];exact R o q D,hn⟩
end
section
variable{P:Program} {nt:Nat} {n0:ju} {w0:World} {π0:Nat->Nat->Prop} {U U':Nat->Prop} {s:S} {a:Act} {w w':World} {β β':Nat->Nat} {τ τ':Nat->Value} {π π':Nat->Nat->Prop}
section
variable {α:Type} (f:Nat->α) (n:Nat) (x:α)
theorem Rel.frame(R:Rel P nt n0 w0 π0 U s a w β τ π) (M:∀b,U b->β' b=β b) (O:∀b,U b->τ' b=τ b) (hU:∀n,U n->U' n)
  (hp:∀b o,π b o->π' b o) (L:∀b o,π' b o->π b o\/w.heap.size<=b) (ac:∀b o,π' b o->b<w'.heap.size) (A:Below w.heap.size w w'):
  Rel P nt n0 w0 π0 U' s a w' β' τ' π':=by
 have hc:∀b o,π b o->w'.cell? ⟨b,o,none⟩=w.cell? ⟨b,o,none⟩:=λb o h=>Below.th A (R.ez b o h)
 have ad:n0.n<=w.heap.size:=kf R.fc R.below.size
 refine⟨R.size,λt v h=>?_,λb x h=>?_,λb b' x x' h D e=>?_,λq e h=>?_,λq q' e e' B h D hB aa=>?_,λq e b x h D hB=>?_,R.below.trans (.of A ad),R.fc,ac,λb o h=>hp _ _ (R.eJ b o h),λb o h=>?_,λk hk=>by rw[M k (R.iV k hk)];exact R.l8 k hk,λk hk=>hU k (R.iV k hk),λb o h=>(hc b o (R.eJ b o h)).trans (R.kept b o h)⟩
 ·obtain⟨⟨x,hx,hv⟩,hu⟩:=R.slots t v h
  exact⟨⟨x,hx,RV.mono M O hp hc hu hv⟩,SV.mb hU hu⟩
 ·obtain⟨Z,V,h3,h4⟩:=R.boxes b x h
  rw[M b Z]
  have ab:β b<w.heap.size:=by obtain⟨ae,el,hh,_⟩:=h3;exact ng hh
  refine⟨hU b Z,V,h3.keep O h4 (A.block _ ab) hp hc (λo ho=>?_),λo q hq=>hU _ (h4 o q hq)⟩
  rcases L _ _ ho with h|h
  ·obtain⟨_,_,_,_,_,_,hn⟩:=h3;exact hn o h
  ·omega
 ·rw[M b (R.boxes b x h).1,M b' (R.boxes b' x' D).1]at e
  exact R.inj b b' x x' h D e
 ·obtain⟨Z,V⟩:=R.live q e h
  rw[O q Z]
  refine⟨hU q Z,V.keep (λB hB=>A.block _ (V.block hB).2) (λB o hB ho=>?_)⟩
  rcases L _ _ ho with h|h
  ·exact h
  ·have:=(V.block hB).2;omega
 ·rw[O q (R.live q e h).1]at hB
  rw[O q' (R.live q' e' D).1]at aa;exact R.cg q q' e e' B h D hB aa
 ·rw[O q (R.live q e h).1,M b (R.boxes b x D).1]at hB
  exact R.cz q e b x h D hB
 ·rcases L b o h with h|h
  ·exact R.cZ b o h
  ·exact .inr (.inl ST)
theorem Rel.sub(R:Rel P nt n0 w0 π0 U s a w β τ π) (A:∀n,U n->U' n):Rel P nt n0 w0 π0 U' s a w β τ π:=
 R.frame (λ_ _=>rfl) (λ_ _=>rfl) A (λ_ _ h=>h) (λ_ _ h=>.inl h) R.ez (Below.refl _ _)
theorem Rel.put(R:Rel P nt n0 w0 π0 U s a w β τ π) (d:Option Nat) {v:SV} {x:Value} (hd:∀t,d=some t->t<nt) (B:RV β τ w π v x) (M:v.fJ U):Rel P nt n0 w0 π0 U (s.put d v) (a.put d x) w β τ π:=by
 cases d with
 |none=>exact R
 |some d=>
  refine⟨by simp[Act.put,R.size],λt u h=>?_,R.boxes,R.inj,R.live,R.cg,R.cz,R.below,R.fc,R.ez,R.eJ,R.cZ,R.l8,R.iV,R.kept⟩
  simp only[S.put,lk]at h
  by_cases e:t=d
  ·subst e
   simp at h;subst h
   exact⟨⟨x,by simp[Act.put,R.size,hd t rfl],B⟩,M⟩
  ·have:(t==d)=false:=by simpa using e
   simp only[this,fb]at h;obtain⟨⟨y,D,L⟩,A⟩:=R.slots t u h
   exact⟨⟨y,by simp[Act.put,xr (Ne.symm e),D],L⟩,A⟩
theorem Rel.bK(R:Rel P nt n0 w0 π0 U s a w β τ π) {X:Operand} {x:bn} {v:SV} (A:bV X=some x) (B:bK s x=some v):RV β τ w π v (a.eval X)/\v.fJ U:=by
 cases X with
 |tmp t=>
  simp[bV]at A;subst A;obtain⟨⟨y,D,L⟩,M⟩:=R.slots t v B;refine⟨?_,M⟩
  have:a.eval (.tmp t)=y:=by simp[Act.eval,D]
  rw[this];exact L
 |const c=>
  simp only[bV,em]at A;obtain⟨k,hk,rfl⟩:=A;simp[Eng.bK]at B;subst B
  exact⟨⟨MP hk,λt ht=>by cases ht⟩,trivial⟩
 |global g=>simp[bV]at A
 |func f=>
  simp[bV]at A;subst A;simp[Eng.bK]at B;subst B
  refine⟨⟨?_,λt ht=>by cases ht⟩,trivial⟩
  exact .fn (.func f) [] #[] [] #[] rfl rfl (λi a v h=>by simp at h) (λi a v h=>by simp at h)
theorem RV.ref{β:Nat->Nat} {τ:Nat->Value} {w:World} {π:Nat->Nat->Prop} {cs:List AV} {v:Value}:RV β τ w π (.rp cs) v↔DV w π (.ref cs) v:=by
 constructor
 ·rintro⟨B,off,f,rfl,L,A,M,D⟩
  exact .ref cs B off f L A M D
 ·intro h
  cases h with
  |ref _ B off f L A M D=>exact⟨B,off,f,rfl,L,A,M,D⟩
theorem Rel.aF(R:Rel P nt n0 w0 π0 U s a w β τ π) {X:Operand} {x:bn} {v:AV} (D:bV X=some x) (A:Eng.aF s x=some v):DV w π v (a.eval X):=by
 unfold Eng.aF at A;split at A
 ·rename_i b q B
  cases A;exact(R.bK D B).1.1
 ·rename_i cs B
  cases A;exact RV.ref.1 (R.bK D B).1
 ·cases A
theorem Rel.dQ(R:Rel P nt n0 w0 π0 U s a w β τ π):∀{Xs:List Operand} {xs:List bn} {vs:List AV},Xs.mapM bV=some xs->Eng.dQ s xs=some vs->iy w π vs (Xs.map a.eval)
 |[],xs,vs,B,A=>by
  simp at B;subst B;simp[Eng.dQ]at A;subst A;exact .nil _ _
 |X::Xs,xs,vs,B,A=>by
  simp only[vd,p7,kb,xf,gg]at B;obtain⟨x,B,O,D,rfl⟩:=B;simp only[Eng.dQ]at A;split at A
  ·rename_i a' as M L
   cases A;exact .cons (R.aF B M) (R.dQ D L)
  ·cases A
def CG:Nat->α:=λm=>if m=n then x else f m
theorem bP:CG f n x n=x:=by simp[CG]
theorem uP{m:Nat} (h:m≠n):CG f n x m=f m:=by simp[CG,h]
def dZ(U:Nat->Prop) (n:Nat):Nat->Prop:=λm=>U m\/m=n
theorem Rel.HY(R:Rel P nt n0 w0 π0 U s a w β τ π) {id:Nat} (ac:¬U id) {cells:List AV} {cs:Array Value} (e:TypeId) (hd:iy w π cells (cs.toList.take cells.length)) (hs:∀a∈cells,a.scalar=true):
  Rel P nt n0 w0 π0 (dZ U id) {s with boxes:=(id,⟨cells,[]⟩)::s.boxes} a (w.alloc (.cells cs e)) (CG β id w.heap.size) τ π:=by
 have Z:∀b,U b->b≠id:=λb B e=>ac (e▸B)
 have M:Below w.heap.size w (w.alloc (.cells cs e)):=(Below.refl _ _).alloc (im _) _
 have A:Rel P nt n0 w0 π0 (dZ U id) s a (w.alloc (.cells cs e)) (CG β id w.heap.size) τ π:=
  R.frame (λb B=>uP _ _ _ (Z b B)) (λ_ _=>rfl) (λn h=>.inl h) (λ_ _ h=>h) (λ_ _ h=>.inl h) (λb o h=>by have:=R.ez b o h;simp;omega) M
 have ab:n0.n<=w.heap.size:=kf R.fc R.below.size
 have hold:∀b x,b9 b s.boxes=some x->CG β id w.heap.size b≠w.heap.size:=λb x h=>by
  obtain⟨h1,_,⟨ad,el,hh,_⟩,_⟩:=R.boxes b x h;rw[uP _ _ _ (Z b h1)]
  have:=ng hh
  omega
 refine⟨A.size,A.slots,λb x h=>?_,λb O x x' h L e=>?_,A.live,A.cg,λq e' b x h L hB=>?_,A.below,A.fc,A.ez,A.eJ,A.cZ,A.l8,A.iV,A.kept⟩
 ·simp only[b9]at h
  by_cases B:b=id
  ·subst B
   simp at h;subst h
   refine⟨.inr rfl,by rw[bP];exact .inl ab,?_,λo q h=>by simp[dY]at h⟩
   rw[bP]
   refine⟨cs,e,Id w _,hd.mono (λ_ _ h=>h) (λb o h=>Below.th M (R.ez b o h)),hs,λo q h=>by simp[dY]at h,λo h=>?_⟩
   have:=R.ez _ _ h;omega
  ·have:(b==id)=false:=by simpa using B
   simp only[this,fb]at h;exact A.boxes b x h
 ·simp only[b9]at h L
  by_cases B:b=id
  ·by_cases D:O=id
   ·rw[B,D]
   ·have V:(O==id)=false:=by simpa using D
    simp only[V,fb]at L;subst B;rw[bP]at e;exact absurd e.symm (hold O x' L)
  ·have V:(b==id)=false:=by simpa using B
   simp only[V,fb]at h
   by_cases D:O=id
   ·subst D
    rw[bP]at e;exact absurd e (hold b x h)
   ·have aa:(O==id)=false:=by simpa using D
    simp only[aa,fb]at L;exact A.inj b O x x' h L e
 ·simp only[b9]at L
  by_cases B:b=id
  ·subst B
   rw[bP]at hB
   have:=((R.live q e' h).2.block hB).2
   omega
  ·have V:(b==id)=false:=by simpa using B
   simp only[V,fb]at L;exact A.cz q e' b x h L hB
theorem mc{n m:Nat} {b:cI}:∀{l:List (Nat×cI)} {x:cI},b9 n (nK m b l)=some x->(n=m/\x=b/\∃y,b9 m l=some y)\/(n≠m/\b9 n l=some x)
 |[],x,h=>by simp[nK,b9]at h
 |(k,v)::r,x,h=>by
  simp only[nK]at h
  by_cases hk:m=k
  ·subst hk
   simp only[nl,gs,b9]at h
   by_cases A:n=m
   ·subst A
    simp at h
    exact .inl ⟨rfl,h.symm,v,by simp[b9]⟩
   ·have B:(n==m)=false:=by simpa using A
    simp only[B,fb]at h
    exact .inr ⟨A,by simp[b9,B,h]⟩
  ·have B:(m==k)=false:=by simpa using hk
   simp only[B,fb,b9]at h
   by_cases A:n=k
   ·subst A
    simp at h
    exact .inr ⟨λe=>hk e.symm,by simp[b9,h]⟩
   ·have D:(n==k)=false:=by simpa using A
    simp only[D,fb]at h
    rcases mc h with⟨M,L,y,O⟩|⟨M,L⟩
    ·exact .inl ⟨M,L,y,by simp[b9,B,O]⟩
    ·exact .inr ⟨M,by simp[b9,D,L]⟩
theorem Rel.MQ(R:Rel P nt n0 w0 π0 U s a w β τ π) {b:Nat} {x y:cI} (D:b9 b s.boxes=some x) {M cur':Array Value} {el:TypeId}
  (hh:w.heap[β b]? =some (.cells M el (0,0))) (hd:iy w π y.cells (cur'.toList.take y.cells.length)) (hs:∀a∈y.cells,a.scalar=true)
  (ht:∀o q,dY o y.tags=some q->cur'[o]? =some (τ q)/\U q):
  Rel P nt n0 w0 π0 U {s with boxes:=nK b y s.boxes} a (w.setRow (β b) cur') β τ π:=by
 obtain⟨ac,O,⟨_,_,ad,_,_,_,V⟩,_⟩:=R.boxes b x D
 have A:∀k,k≠β b->(w.setRow (β b) cur').heap[k]? =w.heap[k]?:=λk hk=>setRow_other w _ k cur' hk
 have hc:∀B o,π B o->(w.setRow (β b) cur').cell? ⟨B,o,none⟩=w.cell? ⟨B,o,none⟩:=λB o h=>Ps w _ cur' ⟨B,o,none⟩ (λe=>V o (by simpa[<-e]using h))
 have Z:xO n0 w (w.setRow (β b) cur'):=⟨rfl,rfl,rfl,TB,λk hk hx=>A k (λe=>by subst e;rcases O with h|h;exact absurd h ST;exact hx h.2),λk o hk ho=>(A k (λe=>by subst e;rw[hh]at hk;cases hk;cases ho)).trans hk⟩
 refine⟨R.size,λt v h=>?_,λc z h=>?_,λc c' z z' h h' e=>?_,λq e h=>?_,R.cg,λq e c z h h' hB=>?_,R.below.trans Z,R.fc,λB o h=>by simpa using R.ez B o h,R.eJ,R.cZ,R.l8,R.iV,λb o h=>(hc b o (R.eJ b o h)).trans (R.kept b o h)⟩
 ·obtain⟨⟨z,hz,hv⟩,L⟩:=R.slots t v h
  exact⟨⟨z,hz,RV.mono (λ_ _=>rfl) (λ_ _=>rfl) (λ_ _ h=>h) hc L hv⟩,L⟩
 ·rcases mc h with⟨rfl,rfl,_⟩|⟨aa,h⟩
  ·exact⟨ac,O,⟨cur',el,setRow_heap w _ M _ el _ hh,hd.mono (λ_ _ h=>h) hc,hs,λo q hq=>(ht o q hq).1,V⟩,λo q hq=>(ht o q hq).2⟩
  ·obtain⟨h1,h2,h3,h4⟩:=R.boxes c z h
   refine⟨h1,h2,h3.keep (λ_ _=>rfl) h4 (A _ (λe=>aa (R.inj c b z x h D e))) (λ_ _ h=>h) hc ?_,h4⟩
   obtain⟨_,_,_,_,_,_,hn⟩:=h3;exact hn
 ·have:∃u,b9 c s.boxes=some u:=by
   rcases mc h with⟨rfl,_,_⟩|⟨_,h⟩
   ·exact⟨x,D⟩
   ·exact⟨z,h⟩
  have k':∃u,b9 c' s.boxes=some u:=by
   rcases mc h' with⟨rfl,_,_⟩|⟨_,h⟩
   ·exact⟨x,D⟩
   ·exact⟨z',h⟩
  obtain⟨u,L⟩:=this;obtain⟨u',ab⟩:=k';exact R.inj c c' u u' L ab e
 ·obtain⟨h1,h2⟩:=R.live q e h
  exact⟨h1,h2.keep (λB hB=>A B (λeB=>R.cz q e b x h D (by rw[hB,eB]))) (λB o _ h=>h)⟩
 ·have:∃u,b9 c s.boxes=some u:=by
   rcases mc h' with⟨rfl,_,_⟩|⟨_,h⟩
   ·exact⟨x,D⟩
   ·exact⟨z,h⟩
  obtain⟨u,L⟩:=this;exact R.cz q e c u h L hB
end
end
open Go.RowKit (Below)
theorem gG(B o n:Nat):(⟨B,o,none⟩:Addr).add n=⟨B,o+n,none⟩:=by unfold Addr.add;split<;>simp_all
section runs
variable{P:Program} {w:World}
section
variable {n o:Nat} {t:TypeId}
theorem dL{z:Nat} (h:eI P t=some z):(sizeOf t).run P w=.ok z w:=by
 simp only[eI,em]at h;obtain⟨i,A,rfl⟩:=h;simp[sizeOf,typeInfo,A]
theorem vQ{d:TypeDesc} (h:P.underlying t=some d):(isAgg t).run P w=.ok (mY P t) w:=by
 have:=il h w
 unfold isAgg mY;simp only[fp,this,fo,h]
 cases d<;>rfl
theorem FE(h:vO P t=some (some n)):∃d,P.underlying t=some d/\mY P t=true/\eI P t=some n:=by
 unfold vO at h;split at h
 ·rename_i B A;exact⟨_,A,by simp[mY,A],by simpa using h⟩
 ·rename_i k e A;exact⟨_,A,by simp[mY,A],by simpa using h⟩
 ·simp at h
 ·simp at h
theorem FF(h:vO P t=some none):∃d,P.underlying t=some d/\mY P t=false:=by
 unfold vO at h;split at h
 ·simp at h
 ·simp at h
 ·rename_i d B D A
  refine⟨d,A,?_⟩;unfold mY;rw[A]
  cases d<;>simp_all
 ·simp at h
theorem jQ(h:vO P t=some (some n)) {B:Nat} {f:Nat->Value} (V:∀j,j<n->w.cell? ⟨B,o+j,none⟩=some (f j)):
  (loadVar t ⟨B,o,none⟩).run P w=.ok (.agg ((List.range n).map f).toArray) w:=by
 obtain⟨d,hd,D,R⟩:=FE h
 have M:=vQ (w:=w) hd
 have L:=dL (w:=w) R
 have O:=run_loadCells (P:=P) w ⟨B,o,none⟩ n f (λj A=>by rw[gG];exact V j A)
 simp only[loadVar,fp,M,D,fo,kv,L,O,i8]
theorem jR(h:vO P t=some none) {B:Nat} {v:Value} (L:w.cell? ⟨B,o,none⟩=some v):
  (loadVar t ⟨B,o,none⟩).run P w=.ok v w:=by
 obtain⟨d,hd,D⟩:=FF h
 have A:=vQ (w:=w) hd
 simp[loadVar,fp,A,D,fo,L]
end
end runs
theorem D8{w:World} {π:Nat->Nat->Prop} {cs:List AV} {f:Nat->Value} {off:Nat} {D:Option Nat} {a:AV}
  (V:∀(j:Nat) (x:AV),cs[j]? =some x->x.scalar=true) (hd:∀(j:Nat) (x:AV),cs[j]? =some x->DV w π x (f j)) (h:aH cs off D=some a):
  match D with
  |none=>DV w π a (f off)/\off<cs.length
  |some n=>off+n<=cs.length/\DV w π a (.agg ((List.range n).map λj=>f (off+j)).toArray):=by
 cases D with
 |none=>
  simp only[aH]at h;refine⟨hd _ _ h,?_⟩
  rcases ix off cs.length with h'|h'
  ·exact h'
  ·rw[iv h']at h;cases h
 |some n=>
  simp only[aH]at h;split at h
  ·rename_i M
   cases h
   have O:∀(i:Nat) (x:AV),((cs.drop off).take n)[i]? =some x->i<n/\cs[off+i]? =some x:=by
    intro i x A;rw[ul]at A;split at A
    ·rename_i B;exact⟨B,by simpa using A⟩
    ·cases A
   refine⟨M,.agg _ _ (by simp;omega) (λx A=>?_) (λi x v A R=>?_)⟩
   ·obtain⟨i,B⟩:=mr.1 A
    exact V _ _ (O i x B).2
   ·obtain⟨B,L⟩:=O i x A
    have:v=f (off+i):=by simpa[B]using R.symm
    rw[this];exact hd _ _ L
  ·cases h
section ops
variable{P:Program} {nt:Nat} {n0:ju} {w0:World} {π0:Nat->Nat->Prop} {U:Nat->Prop} {s:S} {a:Act} {w:World} {β:Nat->Nat} {τ:Nat->Value} {π:Nat->Nat->Prop}
section
variable {K:SV->S->Prop} {X:Operand} {id:Nat} {t:TypeId} {x:bn}
theorem qO.cells{B:Nat} {x:cI} (h:qO τ w π B x):∃f:Nat->Value,(∀j,j<x.cells.length->w.cell? ⟨B,j,none⟩=some (f j))/\(∀(j:Nat) (y:AV),x.cells[j]? =some y->y.scalar=true)/\
  (∀(j:Nat) (y:AV),x.cells[j]? =some y->DV w π y (f j))/\∀o q,dY o x.tags=some q->f o=τ q:=by
 obtain⟨A,V,h1,M,h3,Z,_⟩:=h
 refine⟨λj=>A.getD j undef,λj hj=>?_,λj y D=>h3 y (ev D),λj y D=>?_,λo q R=>?_⟩
 ·have hl:j<A.size:=by have:=M.1;simp at this;omega
  rw[ww w B j A V (0,0) h1];simp[hl]
 ·obtain⟨v,O,hd⟩:=M.get D
  have:A[j]? =some v:=by
   have L:j<x.cells.length:=by
    rcases ix j x.cells.length with h|h
    ·exact h
    ·rw[iv h]at D;cases D
   rw[rh L]at O;simpa using O
  simp[this,hd]
 ·simp[Z o q R]
theorem Rel.load(R:Rel P nt n0 w0 π0 U s a w β τ π) {Z:Option Nat} (hx:bV X=some x) (ht:vO P t=some Z) (h:bB (Pure P) id (.ld x Z) K s):∃v y,(Instr.loadAt t (a.eval X)).run P w=.ok y w/\RV β τ w π v y/\v.fJ U/\K v s:=by
 simp only[bB]at h
 cases ho:Eng.bK s x with
 |none=>rw[ho]at h;exact h.elim
 |some p=>
  rw[ho]at h;obtain⟨hr,hu⟩:=R.bK hx ho
  cases p with
  |dat b q=>exact h.elim
  |undef=>exact h.elim
  |vs _ _ _ _=>exact h.elim
  |tW _ _ _=>exact h.elim
  |raw _ _=>exact h.elim
  |pt _ _=>exact h.elim
  |ptr b off=>
   simp only[aB]at h
   cases hb:b9 b s.boxes with
   |none=>rw[hb]at h;exact h.elim
   |some z=>
    rw[hb]at h;simp only[aB]at h
    cases O:aH z.cells off Z with
    |none=>rw[O]at h;exact h.elim
    |some av=>
     rw[O]at h;obtain⟨h1,h2,h3,h4⟩:=R.boxes b z hb;obtain⟨f,hf,hs,hd,aa⟩:=h3.cells
     have D:=D8 hs hd O
     have he:a.eval X=.pointer (some ⟨β b,off,none⟩):=hr
     cases Z with
     |none=>
      obtain⟨A,V⟩:=D
      refine⟨.dat av (dY off z.tags),f off,by simp only[he,Instr.loadAt,Instr.sureAddr,fp,i8,fo];exact jR ht (hf off V),⟨A,λq L=>aa off q L⟩,?_,h⟩
      cases L:dY off z.tags with
      |none=>trivial
      |some q=>exact h4 off q L
     |some n=>
      obtain⟨ab,A⟩:=D
      refine⟨.dat av none,_,by simp only[he,Instr.loadAt,Instr.sureAddr,fp,i8,fo];exact jQ ht (λj hj=>hf (off+j) ST),⟨A,λq L=>by cases L⟩,trivial,h⟩
  |rp cs=>
   simp only[aB]at h
   cases O:aH cs 0 Z with
   |none=>rw[O]at h;exact h.elim
   |some av=>
    rw[O]at h;obtain⟨B,off,f,he,hs,_,hf,hd⟩:=hr
    have D:=D8 hs hd O
    have M:∀j,j<cs.length->w.cell? ⟨B,off+j,none⟩=some (f j):=λj hj=>hf j cs[j] (et hj)
    cases Z with
    |none=>
     obtain⟨A,V⟩:=D
     refine⟨.dat av none,f 0,by simp only[he,Instr.loadAt,Instr.sureAddr,fp,i8,fo];exact jR ht (M 0 V),⟨A,λq L=>by cases L⟩,trivial,h⟩
    |some n=>
     obtain⟨ab,A⟩:=D
     refine⟨.dat av none,_,by simp only[he,Instr.loadAt,Instr.sureAddr,fp,i8,fo];exact jQ ht (λj hj=>M j ST),⟨by simpa using A,λq L=>by cases L⟩,trivial,h⟩
theorem D9{w:World} {π:Nat->Nat->Prop} {av:AV} {u:Value} (h:DV w π av u) (A:av.scalar=true):u.cells.toList=[u]:=by
 cases h<;>first|rfl|(simp[AV.scalar]at A)
theorem gH{α:Type} (l ps:List α) (off:Nat) (h:off+ps.length<=l.length) (i:Nat):
  (l.take off++ps++l.drop (off+ps.length))[i]? =if i<off then l[i]? else if i<off+ps.length then ps[i-off]? else l[i]?:=by
 have D:(l.take off).length=off:=by simp;omega
 by_cases A:i<off
 ·rw[gc A,List.append_assoc,km ST,ul,gc A]
 ·rw[fx A]
  by_cases B:i<off+ps.length
  ·rw[gc B,List.append_assoc,ll ST,km ST,D]
  ·rw[fx B,ll (by simp;omega),lh]
   congr 1
   simp;omega
theorem AD{l:List (Nat×Nat)} {p:Nat×Nat->Bool} {o q:Nat} (h:dY o (l.filter p)=some q) (D:∀x:Nat×Nat,p x=p (x.1,0)):dY o l=some q/\p (o,0)=true:=by
 induction l with
 |nil=>simp[dY]at h
 |cons x r L=>
  obtain⟨m,v⟩:=x;rw[Ha]at h
  by_cases A:p (m,v)=true
  ·rw[gc A]at h
   simp only[dY]at h⊢
   by_cases e:o=m
   ·subst e;simp at h⊢;exact⟨h,by rw[<-D (o,v)];exact A⟩
   ·have B:(o==m)=false:=by simpa using e
    simp only[B,fb]at h⊢;exact L h
  ·rw[fx A]at h
   obtain⟨O,M⟩:=L h;refine⟨?_,M⟩;simp only[dY]
   have e:o≠m:=λe=>A (by subst e;rw[D (o,v)];exact M)
   have B:(o==m)=false:=by simpa using e
   simp only[B,fb];exact O
theorem Rel.store(R:Rel P nt n0 w0 π0 U s a w β τ π) {V:Operand} {v:bn} {z:Nat} (hx:bV X=some x) (hv:bV V=some v) (ht:eI P t=some z) (h:bB (Pure P) id (.st x v z) K s):∃s' w',(Instr.storeAt t (a.eval X) (a.eval V)).run P w=.ok () w'/\K .undef s'/\Rel P nt n0 w0 π0 U s' a w' β τ π:=by
 simp only[bB]at h
 cases ho:Eng.bK s x with
 |none=>rw[ho]at h;exact h.elim
 |some p=>
  rw[ho]at h;obtain⟨hr,D⟩:=R.bK hx ho
  cases p with
  |dat b q=>exact h.elim
  |undef=>exact h.elim
  |vs _ _ _ _=>exact h.elim
  |tW _ _ _=>exact h.elim
  |raw _ _=>exact h.elim
  |pt _ _=>exact h.elim
  |rp cs=>exact h.elim
  |ptr b off=>
   simp only[aB]at h
   cases hb:b9 b s.boxes with
   |none=>rw[hb]at h;exact h.elim
   |some y=>
    rw[hb]at h;simp only[aB]at h
    cases ac:Eng.bK s v with
    |none=>rw[ac]at h;exact h.elim
    |some u=>
     rw[ac]at h
     cases u with
     |undef=>exact h.elim
     |vs _ _ _ _=>exact h.elim
     |tW _ _ _=>exact h.elim
     |raw _ _=>exact h.elim
     |pt _ _=>exact h.elim
     |rp cs=>exact h.elim
     |ptr _ _=>exact h.elim
     |dat av q=>
      simp only[aB]at h;obtain⟨bd,ab,be,hK⟩:=h;obtain⟨⟨an,au⟩,a9⟩:=R.bK hv ac
      have he:a.eval X=.pointer (some ⟨β b,off,none⟩):=hr
      obtain⟨h1,h2,⟨L,el,hh,ae,ao,a6,bj⟩,h4⟩:=R.boxes b y hb
      have bi:y.cells.length<=L.size:=by have:=ae.1;simp at this;omega
      have ag:∀vs,av≠.cU vs:=λvs e=>by subst e;simp[iL]at bd
      obtain⟨Z,ar⟩:=an.cells ag
      have A:(a.eval V).cells.toList.length=z:=by rw[<-Z.1];exact ab
      have a3:∀u∈(a.eval V).cells.toList,u.oneCell'=true:=by
       intro u D
       obtain⟨i,hi⟩:=mr.1 D
       have M:i<av.cells.length:=by
        rw[Z.1]
        rcases ix i (a.eval V).cells.toList.length with h|h
        ·exact h
        ·rw[iv h]at hi;cases hi
       have a5:=et M
       exact(Z.2 i _ _ a5 hi).Jv (ar _ (GT M))
      have al:=run_storeCells_at (P:=P) (β b) off el (a.eval V).cells.toList 0 L w hh (by rw[A];omega) a3
      simp only[py]at al
      have a2:(Instr.storeAt t (a.eval X) (a.eval V)).run P w=.ok () (w.setRow (β b) (L.toList.take off++(a.eval V).cells.toList++L.toList.drop (off+(a.eval V).cells.toList.length)).toArray):=by
       have a8:(a.eval V).cells.size=z:=by simpa using A
       simp[he,Instr.storeAt,Instr.sureAddr,storeVar,dL (w:=w) ht,a8,al]
      refine⟨_,_,a2,hK,R.MQ hb hh ?_ ?_ ?_⟩
      ·--cells
       have am:(setCells y.cells off av.cells).length=y.cells.length:=by simp[setCells];omega
       refine⟨?_,λi c u hc D=>?_⟩
       ·simp only[am];simp only[GE,pB,List.length_drop,Array.length_toList,A];omega
       ·simp only[am]at D
        have M:i<y.cells.length:=by
         rcases ix i (setCells y.cells off av.cells).length with h|h
         ·omega
         ·simp only[]at hc;rw[iv h]at hc;cases hc
        rw[rh M]at D
        rw[gH _ _ _ (by rw[A];simp;omega)]at D
        simp only[setCells]at hc
        rw[gH _ _ _ ST]at hc
        rw[A]at D;rw[ab]at hc;split at hc
        ·rename_i hi;rw[gc hi]at D;exact ae.2 i c u hc (by rw[rh M];exact D)
        ·rename_i hi
         rw[fx hi]at D;split at hc
         ·rename_i ad;rw[gc ad]at D;exact Z.2 _ c u hc D
         ·rename_i ad;rw[fx ad]at D;exact ae.2 i c u hc (by rw[rh M];exact D)
      ·intro c hc
       simp only[setCells,ka]at hc
       rcases hc with(hc|hc)|hc
       ·exact ao c (ut hc)
       ·exact ar c hc
       ·exact ao c (pm hc)
      ·intro o O B
       have aa:∀(o O:Nat),dY o (y.tags.filter λp=>p.1<off||off+z<=p.1)=some O->(L.toList.take off++(a.eval V).cells.toList++L.toList.drop (off+(a.eval V).cells.toList.length)).toArray[o]? =some (τ O)/\U O:=by
        intro o O B
        obtain⟨ak,ba⟩:=AD B (λx=>rfl)
        refine⟨?_,h4 o O ak⟩
        have:=a6 o O ak
        rw[If,gH _ _ _ (by rw[A];simp;omega),A]
        simp at ba;split
        ·simpa using this
        ·rw[fx ST];simpa using this
       cases q with
       |none=>exact aa o O B
       |some q=>
        simp only[dY]at B
        by_cases e:o=off
        ·subst e
         simp at B;subst B
         have a4:av.scalar=true:=by cases av<;>simp_all [iL,AV.scalar]
         have a7:(a.eval V).cells.toList=[a.eval V]:=D9 an a4
         refine⟨?_,a9⟩
         rw[If,gH _ _ _ (by rw[A];simp;omega),a7]
         simp only[List.length_singleton,Nat.lt_irrefl,ik,Nat.lt_add_one,kv,Nat.sub_self]
         simpa using au q rfl
        ·have hf:(o==off)=false:=by simpa using e
         simp only[hf,fb]at B;exact aa o O B
end
end ops
open Go.RowKit (Below)
section
variable{P:Program} {w:World} {π:Nat->Nat->Prop}
section
variable {a b:Ieee.Datum} {k:IntKind} {n:Int} {op:BinOp} {v:AV} {x y:Int}
theorem DV.PZ{v:Value} (h:DV w π (.int k n) v):v=.int k n:=by cases h;rfl
theorem DV.vR{b:Bool} {v:Value} (h:DV w π (.bool b) v):v=.bool b:=by cases h;rfl
theorem rB(h:yJ op k x y=some n):(Op.intBits op k x y).run P w=.ok (.int k n) w:=by
 unfold yJ at h;unfold Op.intBits
 split at h<;>first|(cases h;rfl)|cases h
theorem P1(D:op≠.shl) (L:op≠.shr) (h:qN op k x y=some v) (t:TypeId):∃u,(binOp op t (.int k x) (.int k y)).run P w=.ok u w/\DV w π v u:=by
 cases op<;>simp only[qN]at h
 case add=>cases h;exact⟨_,by simp[binOp,Op.intArith],.int _ _⟩
 case sub=>cases h;exact⟨_,by simp[binOp,Op.intArith],.int _ _⟩
 case mul=>cases h;exact⟨_,by simp[binOp,Op.intArith],.int _ _⟩
 case quo=>
  split at h
  ·cases h
  ·rename_i B;cases h;exact⟨_,by simp[binOp,Op.intDiv,B],.int _ _⟩
 case rem=>
  split at h
  ·cases h
  ·rename_i B;cases h;exact⟨_,by simp[binOp,Op.intDiv,B],.int _ _⟩
 case and=>simp only[em]at h;obtain⟨n,A,rfl⟩:=h;exact⟨_,by simp only[binOp,ne_eq,H2,ik];exact rB A,.int _ _⟩
 case or=>simp only[em]at h;obtain⟨n,A,rfl⟩:=h;exact⟨_,by simp only[binOp,ne_eq,H2,ik];exact rB A,.int _ _⟩
 case xor=>simp only[em]at h;obtain⟨n,A,rfl⟩:=h;exact⟨_,by simp only[binOp,ne_eq,H2,ik];exact rB A,.int _ _⟩
 case andNot=>simp only[em]at h;obtain⟨n,A,rfl⟩:=h;exact⟨_,by simp only[binOp,ne_eq,H2,ik];exact rB A,.int _ _⟩
 case shl=>exact absurd rfl D
 case shr=>exact absurd rfl L
 case eql=>cases h;exact⟨_,by simp[binOp,Op.intCmp],.bool _⟩
 case neq=>cases h;exact⟨_,by simp[binOp,Op.intCmp],.bool _⟩
 case lss=>cases h;exact⟨_,by simp[binOp,Op.intCmp],.bool _⟩
 case leq=>cases h;exact⟨_,by simp[binOp,Op.intCmp],.bool _⟩
 case gtr=>cases h;exact⟨_,by simp[binOp,Op.intCmp],.bool _⟩
 case geq=>cases h;exact⟨_,by simp[binOp,Op.intCmp],.bool _⟩
theorem C5(h:qZ op k x y=some v):∃u,(∀B:IntKind,(Op.shift op k x B y).run P w=.ok u w)/\DV w π v u:=by
 unfold qZ at h;split at h
 ·cases h
 ·rename_i A
  split at h
  ·cases h;exact⟨_,by simp[Op.shift,A],.int _ _⟩
  ·cases h;exact⟨_,by simp[Op.shift,A],.int _ _⟩
  ·cases h
theorem rC{n:Nat} (h:CL n=true):∃s p,FloatKind.f64.format.read n=.nan s p:=by
 unfold CL FloatKind.decode at h;split at h
 ·rename_i s p A;exact⟨s,p,A⟩
 ·cases h
theorem P2(x y t:Nat):(Question.nanBits .f64 x y).cut t=(t%2)*9223372036854775808+9218868437227405312+1+(t/2)%4503599627370495:=by
 simp only[Question.cut,Nat.reducePow,Nat.reduceSub]
theorem MR(f:Ieee.Format) (n:Nat) (A:f.infRung<n%f.signWeight) (B:f.binade<=f.infRung):f.read n=.nan (n/f.signWeight%2==1) (n%f.signWeight-f.infRung):=by
 unfold Ieee.Format.read
 rw[fx ST,fx ST,fx ST]
theorem T6(n:Nat) (A:Ieee.double.infRung<n%Ieee.double.signWeight):CL n=true:=by
 unfold CL FloatKind.decode
 rw[show FloatKind.f64.format=Ieee.double from rfl,MR _ _ A (by decide+kernel)]
theorem MS(a m k i s:Nat) (A:s=k+i) (B:a<2) (hm:i+1+m<s):i<(a*s+i+1+m)%s:=by
 have h:a=0\/a=1:=ST
 rcases h with rfl|rfl
 ·rw[show 0*s+i+1+m=i+1+m by omega,pu hm];omega
 ·rw[show 1*s+i+1+m=s+(i+1+m)by omega,Nat.add_mod_left,pu hm];omega
theorem yO(x y t:Nat):CL ((Question.nanBits .f64 x y).cut t)=true:=by
 apply T6
 rw[P2]
 have A:Ieee.double.signWeight=9223372036854775808:=by decide+kernel
 have B:Ieee.double.infRung=9218868437227405312:=by decide+kernel
 rw[A,B]
 have:=In (t/2) (y:=4503599627370495) Ts
 generalize t/2%4503599627370495=m at*
 exact MS _ _ 4503599627370496 _ _ Ts (In _ Ts) ST
def S7(w w':World):Prop:=w'=w\/w'=w.drew
theorem S7.dv{w w':World} {π:Nat->Nat->Prop} (h:S7 w w') {u:Value} (hd:DV w π v u):DV w' π v u:=by
 rcases h with rfl|rfl
 ·exact hd
 ·exact DV.mono (w:=w) (w':=w.drew) (π:=π) (λ_ _ h=>h) (λ_ _ _=>rfl) hd
theorem og{x y:Nat} (A:op=.add/\FloatKind.f64.format.add x y=none\/op=.sub/\FloatKind.f64.format.sub x y=none\/op=.mul/\FloatKind.f64.format.mul x y=none\/op=.quo/\FloatKind.f64.format.div x y=none) (t:TypeId):
  ∃u,(binOp op t (.float .f64 x) (.float .f64 y)).run P w=.ok u w.drew/\DV w π .d8 u:=by
 rcases A with⟨rfl,h⟩|⟨rfl,h⟩|⟨rfl,h⟩|⟨rfl,h⟩<;>
 exact⟨.float .f64 ((Question.nanBits .f64 x y).cut (w.tape w.drawn (Question.nanBits .f64 x y))),by simp[binOp,Op.floatArith,h,Question.forced],.d8 _ (yO _ _ _)⟩
theorem K3{k:FloatKind} {x y:Nat} (h:Ar op k x y=some v) (t:TypeId):∃u w',S7 w w'/\(binOp op t (.float k x) (.float k y)).run P w=.ok u w'/\DV w π v u:=by
 have L:∀(o:Option Nat),HM k o=some v->(∃r,o=some r/\v=.float k r)\/(o=none/\k=.f64/\v=.d8):=by
  intro o D
  cases o with
  |some r=>left;cases k<;>(simp only[HM,gg]at D;exact⟨r,rfl,D.symm⟩)
  |none=>
   cases k
   ·cases D
   ·right;simp only[HM,gg]at D;exact⟨rfl,rfl,D.symm⟩
 cases op<;>simp only[Ar]at h<;>try(cases h;done)
 case add=>
  rcases L _ h with⟨n,A,rfl⟩|⟨A,rfl,rfl⟩
  ·exact⟨_,w,.inl rfl,by simp[binOp,Op.floatArith,A],.float _ _⟩
  ·obtain⟨u,B,hd⟩:=og (P:=P) (w:=w) (π:=π) (op:=.add) (.inl ⟨rfl,A⟩) t
   exact⟨u,_,.inr rfl,B,hd⟩
 case sub=>
  rcases L _ h with⟨n,A,rfl⟩|⟨A,rfl,rfl⟩
  ·exact⟨_,w,.inl rfl,by simp[binOp,Op.floatArith,A],.float _ _⟩
  ·obtain⟨u,B,hd⟩:=og (P:=P) (w:=w) (π:=π) (op:=.sub) (.inr (.inl ⟨rfl,A⟩)) t
   exact⟨u,_,.inr rfl,B,hd⟩
 case mul=>
  rcases L _ h with⟨n,A,rfl⟩|⟨A,rfl,rfl⟩
  ·exact⟨_,w,.inl rfl,by simp[binOp,Op.floatArith,A],.float _ _⟩
  ·obtain⟨u,B,hd⟩:=og (P:=P) (w:=w) (π:=π) (op:=.mul) (.inr (.inr (.inl ⟨rfl,A⟩))) t
   exact⟨u,_,.inr rfl,B,hd⟩
 case quo=>
  rcases L _ h with⟨n,A,rfl⟩|⟨A,rfl,rfl⟩
  ·exact⟨_,w,.inl rfl,by simp[binOp,Op.floatArith,A],.float _ _⟩
  ·obtain⟨u,B,hd⟩:=og (P:=P) (w:=w) (π:=π) (op:=.quo) (.inr (.inr (.inr ⟨rfl,A⟩))) t
   exact⟨u,_,.inr rfl,B,hd⟩
 all_goals(cases h;exact⟨_,w,.inl rfl,by simp[binOp,Op.floatCmp],.bool _⟩)
theorem Jy(h:(∃s p,a=.nan s p)\/∃s p,b=.nan s p):a.sum b=none:=by
 rcases h with⟨s,p,rfl⟩|⟨s,p,rfl⟩<;>first|rfl|(cases a<;>rfl)
theorem FG(h:(∃s p,a=.nan s p)\/∃s p,b=.nan s p):a.product b=none:=by
 rcases h with⟨s,p,rfl⟩|⟨s,p,rfl⟩<;>first|rfl|(cases a<;>rfl)
theorem Ea{d:Nat} (h:(∃s p,a=.nan s p)\/∃s p,b=.nan s p):a.quotient d b=none:=by
 rcases h with⟨s,p,rfl⟩|⟨s,p,rfl⟩<;>first|rfl|(cases a<;>rfl)
theorem tj(h:(∃s p,a=.nan s p)\/∃s p,b=.nan s p):a.order b=none:=by
 rcases h with⟨s,p,rfl⟩|⟨s,p,rfl⟩<;>first|rfl|(cases a<;>rfl)
theorem Eb{x y:Nat} (R:CL x=true\/CL y=true) (h:uJ op=some v) (t:TypeId):∃u w',S7 w w'/\(binOp op t (.float .f64 x) (.float .f64 y)).run P w=.ok u w'/\DV w π v u:=by
 have A:(∃s p,FloatKind.f64.format.read x=.nan s p)\/∃s p,FloatKind.f64.format.read y=.nan s p:=R.imp rC rC
 have B:∀d:Ieee.Datum,(∃s p,d=.nan s p)->∃s p,d.opposite=.nan s p:=λd ⟨s,p,h⟩=>by subst h;exact⟨_,_,rfl⟩
 have D:FloatKind.f64.format.order x y=none:=tj A
 have arith:∀o:BinOp,(o=.add\/o=.sub\/o=.mul\/o=.quo)->v=.d8->op=o->∃u w',S7 w w'/\(binOp op t (.float .f64 x) (.float .f64 y)).run P w=.ok u w'/\DV w π v u:=by
  intro o D L M;subst M L
  have:op=.add/\FloatKind.f64.format.add x y=none\/op=.sub/\FloatKind.f64.format.sub x y=none\/op=.mul/\FloatKind.f64.format.mul x y=none\/op=.quo/\FloatKind.f64.format.div x y=none:=by
   rcases D with rfl|rfl|rfl|rfl
   ·exact .inl ⟨rfl,by simp[Ieee.Format.add,Jy A]⟩
   ·exact .inr (.inl ⟨rfl,by simp[Ieee.Format.sub,Jy (A.imp id (B _))]⟩)
   ·exact .inr (.inr (.inl ⟨rfl,by simp[Ieee.Format.mul,FG A]⟩))
   ·exact .inr (.inr (.inr ⟨rfl,by simp[Ieee.Format.div,Ea A]⟩))
  obtain⟨u,O,hd⟩:=og (P:=P) (w:=w) (π:=π) this t
  exact⟨u,_,.inr rfl,O,hd⟩
 cases op<;>simp only[uJ,gg]at h<;>try(cases h;done)
 case add=>exact arith .add (.inl rfl) h.symm rfl
 case sub=>exact arith .sub (.inr (.inl rfl)) h.symm rfl
 case mul=>exact arith .mul (.inr (.inr (.inl rfl))) h.symm rfl
 case quo=>exact arith .quo (.inr (.inr (.inr rfl))) h.symm rfl
 all_goals(subst h;exact⟨_,w,.inl rfl,by simp[binOp,Op.floatCmp,D],.bool _⟩)
end
section
variable {X Y:Operand} {a b:AV} {op:BinOp} {t:TypeId} {v:AV} {x y:Value}
theorem MT{P:Program} {w:World} (h:P.underlying t=some .bool) (x y:Bool):(Op.equal t (.bool x) (.bool y)).run P w=.ok (x==y) w:=by
 exact run_equalIn_bool' w 9999 t x y h
theorem gy(op:BinOp) (t:TypeId) (X Y:Operand) (A:∀u,x≠.agg u) (B:x≠.nilIface):(eqGuard op t X Y x y).run P w=.ok () w:=by
 unfold eqGuard
 cases x<;>first|exact absurd rfl B|exact absurd rfl (A _)|(cases op<;>rfl)
theorem P3(ht:Js P t=true) (h:dO op a b=some v) (D:DV w π a x) (L:DV w π b y):
  ∃u w',S7 w w'/\(do eqGuard op t X Y x y;binOp op t x y:Sem Value).run P w=.ok u w'/\DV w π v u:=by
 unfold dO at h;split at h
 ·cases D;cases L
  obtain⟨u,B,hd⟩:=C5 (P:=P) (w:=w) (π:=π) h
  refine⟨u,w,.inl rfl,?_,hd⟩
  rw[fp,gy _ _ _ _ (λ_ h=>by cases h) (λh=>by cases h)]
  exact B .i64
 ·cases D;cases L
  obtain⟨u,B,hd⟩:=C5 (P:=P) (w:=w) (π:=π) h
  refine⟨u,w,.inl rfl,?_,hd⟩
  rw[fp,gy _ _ _ _ (λ_ h=>by cases h) (λh=>by cases h)]
  exact B .i64
 ·rename_i O R
  split at h
  ·rename_i hk
   subst hk;cases D;cases L
   obtain⟨u,B,hd⟩:=P1 (P:=P) (w:=w) (π:=π) (λe=>O e) (λe=>R e) h t
   refine⟨u,w,.inl rfl,?_,hd⟩
   rw[fp,gy _ _ _ _ (λ_ h=>by cases h) (λh=>by cases h)]
   exact B
  ·cases h
 ·split at h
  ·rename_i hk
   subst hk;cases D;cases L
   obtain⟨u,w',A,B,hd⟩:=K3 (P:=P) (w:=w) (π:=π) h t
   refine⟨u,w',A,?_,hd⟩
   rw[fp,gy _ _ _ _ (λ_ h=>by cases h) (λh=>by cases h)]
   exact B
  ·cases h
 ·cases D with
  |d8 n M=>
   cases L
   obtain⟨u,w',A,B,hd⟩:=Eb (P:=P) (w:=w) (π:=π) (.inl M) h t
   refine⟨u,w',A,?_,hd⟩
   rw[fp,gy _ _ _ _ (λ_ h=>by cases h) (λh=>by cases h)]
   exact B
 ·cases L with
  |d8 n M=>
   cases D
   obtain⟨u,w',A,B,hd⟩:=Eb (P:=P) (w:=w) (π:=π) (.inr M) h t
   refine⟨u,w',A,?_,hd⟩
   rw[fp,gy _ _ _ _ (λ_ h=>by cases h) (λh=>by cases h)]
   exact B
 ·cases D with
  |d8 n M=>
   cases L
   obtain⟨u,w',A,B,hd⟩:=Eb (P:=P) (w:=w) (π:=π) (.inl M) h t
   refine⟨u,w',A,?_,hd⟩
   rw[fp,gy _ _ _ _ (λ_ h=>by cases h) (λh=>by cases h)]
   exact B
 ·cases h
theorem T7{neg:Bool} (A:(op=.eql/\neg=false)\/(op=.neq/\neg=true)) (ht:MJ P t=true) (h:WW neg a b=some v) (D:DV w π a x) (M:DV w π b y):
  ∃u,(do eqGuard op t X Y x y;binOp op t x y:Sem Value).run P w=.ok u w/\DV w π v u:=by
 have L:P.underlying t=some .bool:=by
  unfold MJ at ht;split at ht
  ·assumption
  ·cases ht
 unfold WW at h;split at h
 ·cases D;cases M;cases h
  rename_i x y
  have B:=MT (w:=w) L x y
  rcases A with⟨rfl,rfl⟩|⟨rfl,rfl⟩
  ·refine⟨.bool (x==y),?_,.bool _⟩
   rw[fp,gy _ _ _ _ (λ_ h=>by cases h) (λh=>by cases h)]
   simp[binOp,B]
  ·refine⟨.bool (x !=y),?_,.bool _⟩
   rw[fp,gy _ _ _ _ (λ_ h=>by cases h) (λh=>by cases h)]
   simp[binOp,B,bne]
 ·cases h
theorem T8{op:UnOp} (h:TP op a=some v) (A:DV w π a x):∃u,(Op.unary op x).run P w=.ok u w/\DV w π v u:=by
 unfold TP at h;split at h
 ·cases A;cases h;exact⟨_,rfl,.int _ _⟩
 ·cases A
  simp only[em]at h;obtain⟨n,B,rfl⟩:=h;exact⟨_,rB B,.int _ _⟩
 ·cases A;cases h;exact⟨_,rfl,.float _ _⟩
 ·cases A;cases h;exact⟨_,rfl,.bool _⟩
 ·cases h
theorem MU{s d:TypeId} {X:Operand} {D:bn} {c:bE} (A:FC P s d D=some c) (L:DV w π a x) (h:(∃k,c=.uI k D/\CZ k a=some v)\/(∃k,c=.CI k D/\C0 k a=some v)\/(∃k,c=.Ft k D/\yK k a=some v)):
  ∃u,(convert s d x).run P w=.ok u w/\DV w π v u:=by
 unfold FC at A;split at A
 ·rename_i M O B hd
  cases A
  rcases h with⟨k,e,h⟩|⟨k,e,h⟩|⟨k,e,h⟩<;>try(cases e;done)
  cases e;unfold CZ at h;split at h
  ·cases L;cases h
   exact⟨_,by simp[convert,il B,il hd,Conv.intToInt],.int _ _⟩
  ·cases h
 ·rename_i M O B hd
  cases A
  rcases h with⟨k,e,h⟩|⟨k,e,h⟩|⟨k,e,h⟩<;>try(cases e;done)
  cases e;unfold C0 at h;split at h
  ·cases L;cases h
   exact⟨_,by simp[convert,il B,il hd,Conv.intToFloat],.float _ _⟩
  ·cases h
 ·rename_i M O B hd
  cases A
  rcases h with⟨k,e,h⟩|⟨k,e,h⟩|⟨k,e,h⟩<;>try(cases e;done)
  cases e;unfold yK at h;split at h
  ·rename_i Z bb
   cases L;split at h
   ·rename_i n V
    split at h
    ·rename_i R
     cases h
     exact⟨_,by simp[convert,il B,il hd,Conv.floatToInt,V,R],.int _ _⟩
    ·cases h
   ·cases h
  ·cases h
 ·cases A
theorem P4{e:TypeId} (A:P.underlying t=some (.slice e)) {D:Array TypeId} {Xs:Array Value} (hT:D[0]? =some t) (hX:Xs[0]? =some x) (B:DV w π a x) (h:vI a=some v) (L:TypeId):
  ∃u,(Builtin.len_ D L Xs).run P w=.ok u w/\DV w π v u:=by
 unfold vI at h;split at h
 ·cases B;cases h
  exact⟨_,by simp[Builtin.len_,hT,hX,il A];rfl,.int _ _⟩
 ·cases B<;>cases h
  ·exact⟨_,by simp[Builtin.len_,hT,hX,il A];rfl,.int _ _⟩
  ·exact⟨_,by simp[Builtin.len_,hT,hX,il A];rfl,.int _ _⟩
 ·cases h
end
end
open Go.RowKit (Below)
section
variable{P:Program} {w:World} {π:Nat->Nat->Prop}
section
variable {a:AV} {mx:Bool} {v:AV} {x:Value}
theorem P5{i:Nat} (h:Mz a i=some v) (B:DV w π a x):∃u,(Instr.extract x i).run P w=.ok u w/\DV w π v u:=by
 unfold Mz at h;split at h
 ·rename_i vs
  cases B with
  |cU as us D hd=>
   have L:i<vs.length:=by
    rcases ix i vs.length with h'|h'
    ·exact h'
    ·rw[iv h']at h;cases h
   have A:us[i]? =some us[i]!:=by
    have:i<us.size:=ST
    simp[this]
   exact⟨_,by simp[Instr.extract,A],hd i v _ h A⟩
 ·cases h
theorem FH{t:TypeId} {O:Option Nat} (ht:vO P t=some O) {cs:List AV} {us:Array Value} {off:Nat} (hl:cs.length=us.size) (hs:∀a∈cs,a.scalar=true) (hd:∀(i:Nat) (a:AV) (v:Value),cs[i]? =some a->us[i]? =some v->DV w π a v) (h:aH cs off O=some v):∃u,(part t us off).run P w=.ok u w/\DV w π v u:=by
 have A:=D8 (w:=w) (π:=π) (f:=λj=>us.getD j undef) (λj x D=>hs x (ev D)) (λj x D=>by
  have Z:j<us.size:=by
   rw[<-hl]
   rcases ix j cs.length with h'|h'
   ·exact h'
   ·rw[iv h']at D;cases D
  have B:us[j]? =some us[j]:=Array.getElem?_eq_getElem Z
  have:=hd j x _ D B
  simpa[Z]using this) h
 cases O with
 |none=>
  obtain⟨d,B,V⟩:=FF ht
  have M:=vQ (w:=w) B
  have L:off<us.size:=by have:=A.2;omega
  exact⟨us[off],by simp[part,M,V,L],by simpa[L]using A.1⟩
 |some n=>
  obtain⟨d,B,V,hz⟩:=FE ht
  have M:=vQ (w:=w) B
  have R:=dL (w:=w) hz
  refine⟨.agg (us.extract off (off+n)),by simp[part,M,V,R],?_⟩
  have:us.extract off (off+n)=((List.range n).map λj=>us.getD (off+j) undef).toArray:=by
   apply Array.ext
   ·simp;omega
   ·intro i M R
    simp at R
    have:off+i<us.size:=ST
    simp[this]
  rw[this];exact A.2
inductive uQ (w:World):World->Prop
 |refl:uQ w w
 |step {w':World}:uQ w w'->uQ w w'.drew
theorem uQ.dv{w w':World} {π:Nat->Nat->Prop} (h:uQ w w') {v:AV} {u:Value} (hd:DV w π v u):DV w' π v u:=by
 induction h with
 |refl=>exact hd
 |step _ A=>exact S7.dv (Or.inr rfl) A
theorem uQ.dvs{w w':World} {π:Nat->Nat->Prop} (h:uQ w w') {v:List AV} {u:List Value} (hd:iy w π v u):iy w' π v u:=
 ⟨hd.1,λi a v A B=>h.dv (hd.2 i a v A B)⟩
theorem uQ.trans{w w' A:World} (h:uQ w w') (D:uQ w' A):uQ w A:=by
 induction D with
 |refl=>exact h
 |step _ B=>exact .step B
theorem C6(mx:Bool) (x y t:Nat):CL ((Question.nanMinMax .f64 mx x y).cut t)=true:=by
 have e:(Question.nanMinMax .f64 mx x y).cut t=(Question.nanBits .f64 x y).cut t:=by simp only[Question.cut]
 rw[e];exact yO x y t
theorem T9{x y:Nat} (h:FloatKind.f64.format.order x y=none):
  ∃u,((if mx then Builtin.max2 (.float .f64 x) (.float .f64 y)else Builtin.min2 (.float .f64 x) (.float .f64 y)):Sem Value).run P w=.ok u w.drew/\DV w π .d8 u:=by
 cases mx
 ·exact⟨.float .f64 ((Question.nanMinMax .f64 false x y).cut (w.tape w.drawn (Question.nanMinMax .f64 false x y))),by simp[Builtin.min2,h,Question.forced],.d8 _ (C6 _ _ _ _)⟩
 ·exact⟨.float .f64 ((Question.nanMinMax .f64 true x y).cut (w.tape w.drawn (Question.nanMinMax .f64 true x y))),by simp[Builtin.max2,h,Question.forced],.d8 _ (C6 _ _ _ _)⟩
theorem P6{b:AV} {y:Value} (h:S1 mx a b=some v) (D:DV w π a x) (L:DV w π b y):
  ∃u w',uQ w w'/\((if mx then Builtin.max2 x y else Builtin.min2 x y):Sem Value).run P w=.ok u w'/\DV w π v u:=by
 have B:∀n m:Nat,FloatKind.f64.format.order n m=none->v=.d8->x=.float .f64 n->y=.float .f64 m->∃u w',uQ w w'/\((if mx then Builtin.max2 x y else Builtin.min2 x y):Sem Value).run P w=.ok u w'/\DV w π v u:=by
  intro n m A M V O;subst M V O
  obtain⟨u,R,hd⟩:=T9 (P:=P) (w:=w) (π:=π) (mx:=mx) A
  exact⟨u,_,.step .refl,R,hd⟩
 unfold S1 at h;split at h
 ·cases D;cases L;cases h
  cases mx<;>exact⟨_,w,.refl,rfl,.int _ _⟩
 ·split at h
  ·rename_i hk
   subst hk;cases D;cases L;rename_i k x y;split at h
   ·rename_i A
    split at h
    ·rename_i hk;subst hk;cases h;exact B _ _ A rfl rfl rfl
    ·cases h
   ·rename_i A;cases h;cases mx<;>exact⟨_,w,.refl,by simp[Builtin.max2,Builtin.min2,A],.float _ _⟩
   ·rename_i A;cases h;cases mx<;>exact⟨_,w,.refl,by simp[Builtin.max2,Builtin.min2,A],.float _ _⟩
   ·rename_i A;cases h;cases mx<;>exact⟨_,w,.refl,by simp[Builtin.max2,Builtin.min2,A],.float _ _⟩
  ·cases h
 ·cases h;cases D;cases L
  exact B _ _ (tj (.inl (rC (by assumption)))) rfl rfl rfl
 ·cases h;cases D;cases L
  exact B _ _ (tj (.inr (rC (by assumption)))) rfl rfl rfl
 ·cases h
  cases D with
  |d8 n Z=>cases L with
   |d8 m hm=>exact B _ _ (tj (.inl (rC Z))) rfl rfl rfl
 ·cases h
theorem HZ{mx:Bool}:∀{as:List AV} {us:List Value} {a v:AV} {x:Value} {w:World},as.foldlM (S1 mx) a=some v->DV w π a x->iy w π as us->
  ∃u w',uQ w w'/\(us.foldlM (λp q=>if mx then Builtin.max2 p q else Builtin.min2 p q) x:Sem Value).run P w=.ok u w'/\DV w' π v u
 |[],us,a,v,x,w,h,D,B=>by
  have:us=[]:=rc (by simpa using B.1.symm)
  subst this;simp at h;subst h;exact⟨x,w,.refl,rfl,D⟩
 |b::as,us,a,v,x,w,h,D,B=>by
  cases us with
  |nil=>have:=B.1;simp at this
  |cons y us=>
   simp only[List.foldlM_cons,p7,kb]at h;obtain⟨c,hc,h⟩:=h
   obtain⟨u,w1,A,hu,hd⟩:=P6 (P:=P) hc D (B.2 0 b y rfl rfl)
   have L:iy w π as us:=⟨by have:=B.1;simpa using this,λi a v Z V=>B.2 (i+1) a v (by simpa using Z) (by simpa using V)⟩
   obtain⟨u',w2,R,O,M⟩:=HZ h (A.dv hd) (A.dvs L)
   exact⟨u',w2,A.trans R,by simp only[List.foldlM_cons,fp,hu,fo];exact O,M⟩
end
end
section ops
variable{P:Program} {nt:Nat} {n0:ju} {w0:World} {π0:Nat->Nat->Prop} {U:Nat->Prop} {s:S} {a:Act} {w:World} {β:Nat->Nat} {τ:Nat->Value} {π:Nat->Nat->Prop}
section
variable {K:SV->S->Prop} {X:Operand} {e:TypeId} {i:bn} {id:Nat} {ps:List (Nat×Nat)} {t:TypeId} {v:Value} {x:bn} {z:Nat}
theorem af{α:Type} {o:Option α} {k:α->Prop} (h:aj o k):∃x,o=some x/\k x:=by
 cases o with
 |none=>exact h.elim
 |some x=>exact⟨x,rfl,h⟩
theorem RV.Jz{cs:List AV} (h:RV β τ w π (.rp cs) v) (d:Nat):∃B off,v=.pointer (some ⟨B,off,none⟩)/\RV β τ w π (.rp (cs.drop d)) (.pointer (some ⟨B,off+d,none⟩)):=by
 obtain⟨B,off,f,D,O,L,R,M⟩:=h
 refine⟨B,off,D,B,off+d,λj=>f (d+j),rfl,?_,?_,?_,?_⟩<;>intro j x A<;>rw[lh]at A
 ·exact O _ x A
 ·have:=L _ x A;rwa[<-B0]at this
 ·have:=R _ x A;rwa[<-B0]at this
 ·exact M _ x A
theorem RV.S8(h:RV β τ w π (.pt 2 ps) v):∃B off,v=.pointer (some ⟨B,off,none⟩)/\
  ∀(i:Nat) (p:Nat×Nat),ps[i]? =some p->π B (off+i)/\w.cell? ⟨B,off+i,none⟩=some (.pointer (some ⟨β p.1,p.2,none⟩)):=by
 obtain⟨B,off,cap,A,L,D⟩:=h
 exact⟨B,off,by simpa using A,D⟩
theorem RV.JA{B off:Nat} (h:∀(i:Nat) (p:Nat×Nat),ps[i]? =some p->π B (off+i)/\w.cell? ⟨B,off+i,none⟩=some (.pointer (some ⟨β p.1,p.2,none⟩))):RV β τ w π (.pt 2 ps) (.pointer (some ⟨B,off,none⟩)):=
 ⟨B,off,ps.length,TB,im _,h⟩
theorem RV.P7(h:RV β τ w π (.pt 2 ps) v) (d:Nat):∃B off,v=.pointer (some ⟨B,off,none⟩)/\RV β τ w π (.pt 2 (ps.drop d)) (.pointer (some ⟨B,off+d,none⟩)):=by
 obtain⟨B,off,D,L⟩:=h.S8
 refine⟨B,off,D,.JA λi p A=>?_⟩
 rw[lh]at A
 have:=L _ p A
 rwa[<-B0]at this
theorem Rel.fieldAddr(R:Rel P nt n0 w0 π0 U s a w β τ π) {f:Nat} {A:Field} (hx:bV X=some x) (O:vP P t f=some A) (hz:¬(eI P A.type==some 0||(eI P A.type).isNone)=true) (h:bB (Pure P) id (.fa x A.offset) K s):
  ∃v y,(Instr.fieldAt t (a.eval X) f).run P w=.ok y w/\RV β τ w π v y/\v.fJ U/\K v s:=by
 have Z:∃fs:Array Field,P.underlying t=some (.struct fs)/\fs[f]? =some A:=by
  unfold vP at O;split at O
  ·exact⟨_,by assumption,O⟩
  ·cases O
 obtain⟨fs,Z,aa⟩:=Z
 obtain⟨z,ab,ad⟩:∃z,eI P A.type=some z/\z≠0:=by
  cases hs:eI P A.type with
  |none=>simp[hs]at hz
  |some z=>exact⟨z,rfl,λe=>by subst e;simp[hs]at hz⟩
 have ac:=dL (w:=w) ab
 have D:∀(B off:Nat),a.eval X=.pointer (some ⟨B,off,none⟩)->(Instr.fieldAt t (a.eval X) f).run P w=.ok (.pointer (some ⟨B,off+A.offset,none⟩)) w:=by
  intro B off he;simp[Instr.fieldAt,il Z,aa,he,Instr.sureAddr,fieldPlace,ac,ad,gG]
 simp only[bB]at h;obtain⟨p,V,h⟩:=af h;obtain⟨M,hU⟩:=R.bK hx V
 cases p with
 |dat _ _=>exact h.elim
 |undef=>exact h.elim
 |vs _ _ _ _=>exact h.elim
 |tW _ _ _=>exact h.elim
 |raw _ _=>exact h.elim
 |pt k ps=>
  match k,M,h with
  |2,M,h=>
   obtain⟨B,off,hv,L⟩:=RV.P7 M A.offset
   exact⟨.pt 2 (ps.drop A.offset),_,D _ _ hv,L,λp V=>hU p (pm V),h⟩
  |0,_,h=>exact h.elim
  |1,_,h=>exact h.elim
  |k+3,_,h=>exact h.elim
 |ptr b o=>exact⟨.ptr b (o+A.offset),_,D _ _ M,rfl,hU,h⟩
 |rp cs=>
  obtain⟨B,off,hv,L⟩:=RV.Jz M A.offset;exact⟨.rp (cs.drop A.offset),_,D _ _ hv,L,trivial,h⟩
theorem Rel.idx(R:Rel P nt n0 w0 π0 U s a w β τ π) {i:Int} {b:AV} (B:bV X=some x) (D:Eng.aF s x=some b) (A:idxOf b=some i):∃k,a.eval X=.int k i:=by
 have hd:=R.aF B D
 unfold idxOf at A;split at A
 ·rename_i k n
  cases A;exact⟨k,hd.PZ⟩
 ·cases A
theorem Rel.MV(R:Rel P nt n0 w0 π0 U s a w β τ π) {n:Nat} {I:Operand} (hx:bV X=some x) (hi:bV I=some i) (ht:P.underlying t=some (.array n e)) (hz:eI P e=some z) (h:bB (Pure P) id (.Mr x i n z) K s):
  ∃v y,(Instr.indexAt t (a.eval X) (a.eval I)).run P w=.ok y w/\RV β τ w π v y/\v.fJ U/\K v s:=by
 simp only[bB]at h;obtain⟨p,V,h⟩:=af h;obtain⟨b,hb,h⟩:=af h;obtain⟨j,hj,h⟩:=af h;obtain⟨D,h⟩:=h;obtain⟨k,hk⟩:=R.idx hi hb hj;obtain⟨O,hU⟩:=R.bK hx V
 have M:=dL (w:=w) hz
 have A:∀(B off:Nat),a.eval X=.pointer (some ⟨B,off,none⟩)->(Instr.indexAt t (a.eval X) (a.eval I)).run P w=.ok (.pointer (some ⟨B,off+j.toNat*z,none⟩)) w:=by
  intro B off Z;simp[Instr.indexAt,hk,Z,asIntOf,il ht,Instr.sureAddr,D,M,gG]
 cases p with
 |dat _ _=>exact h.elim
 |undef=>exact h.elim
 |vs _ _ _ _=>exact h.elim
 |tW _ _ _=>exact h.elim
 |raw _ _=>exact h.elim
 |pt _ _=>exact h.elim
 |ptr b o=>exact⟨.ptr b (o+j.toNat*z),_,A _ _ O,rfl,hU,h⟩
 |rp cs=>
  obtain⟨B,off,hv,L⟩:=RV.Jz O (j.toNat*z)
  exact⟨.rp (cs.drop (j.toNat*z)),_,A _ _ hv,L,trivial,h⟩
theorem Rel.P8(R:Rel P nt n0 w0 π0 U s a w β τ π) {I:Operand} (hx:bV X=some x) (hi:bV I=some i) (ht:P.underlying t=some (.slice e)) (hz:eI P e=some z) (h:bB (Pure P) id (.PU x i z) K s):
  ∃v y,(Instr.indexAt t (a.eval X) (a.eval I)).run P w=.ok y w/\RV β τ w π v y/\v.fJ U/\K v s:=by
 simp only[bB]at h;obtain⟨u,hu,h⟩:=af h
 have Z:=dL (w:=w) hz
 cases u with
 |ptr _ _=>exact h.elim
 |rp _=>exact h.elim
 |undef=>exact h.elim
 |tW _ _ _=>exact h.elim
 |raw _ _=>exact h.elim
 |pt _ _=>exact h.elim
 |vs b off n V=>
 obtain⟨a',hb,k2⟩:=af h;obtain⟨j,hj,L,rfl,hK⟩:=af k2;obtain⟨k,hk⟩:=R.idx hi hb hj;obtain⟨⟨cap,ad,hv⟩,hU⟩:=R.bK hx hu;refine⟨.ptr b (off+j.toNat*V),.pointer (some ⟨β b,off+j.toNat*V,none⟩),?_,rfl,hU,hK⟩;rw[hv];simp[Instr.indexAt,hk,asIntOf,il ht,L,Z,gG]
 |dat l q=>
 have hl:Eng.aF s x=some l:=by simp[Eng.aF,hu]
 obtain⟨b,hb,k2⟩:=af h;obtain⟨j,hj,k3⟩:=af k2;obtain⟨xs,M,L,k4⟩:=af k3;obtain⟨row,D,ac,hK⟩:=af k4;obtain⟨k,hk⟩:=R.idx hi hb hj
 have hd:=R.aF hx hl
 have ab:l=.sl xs:=by
  cases l<;>simp only[rowsOf]at M<;>try(cases M;done)
  ·cases M;simp at L;omega
  ·cases M;rfl
 subst ab;generalize hv:a.eval X=v at hd
 cases hd with
 |K1 A=>simp at D
 |sl _ B off cap V f h1 h2 h3 h4 h5 h6=>
  have aa:V=z:=by rw[<-h2 _ _ D,ac]
  subst aa
  refine⟨.rp row,.pointer (some ⟨B,off+j.toNat*V,none⟩),?_,⟨B,off+j.toNat*V,λm=>f j.toNat m,rfl,?_,?_,?_,?_⟩,trivial,hK⟩
  ·simp[Instr.indexAt,hk,asIntOf,il ht,L,Z,gG]
  ·intro m c O;exact h3 _ m row c D O
  ·intro m c O;exact h4 _ m row c D O
  ·intro m c O;exact h5 _ m row c D O
  ·intro m c O;exact h6 _ m row c D O
end
end ops
open Go.RowKit (Below)
theorem FI:∀(vs:List Value) (cells:Array Value) (off k:Nat),off+k+vs.length<=cells.size->
  ((vs.zipIdx k).foldl (λcs (c,j)=>cs.setIfInBounds (off+j) c) cells).toList=cells.toList.take (off+k)++vs++cells.toList.drop (off+k+vs.length)
 |[],cells,off,k,h=>by simp
 |v::vs,cells,off,k,h=>by
  simp only[List.zipIdx_cons,ns]
  have hk:off+k<cells.size:=by simp at h;omega
  rw[FI vs (cells.setIfInBounds (off+k) v) off (k+1) (by simp at h⊢;omega)]
  have e:=list_seg_step cells.toList (off+k) v vs (by simp at h⊢;omega)
  simpa[Array.toList_setIfInBounds,B0]using e
theorem tq{place:Nat->Option (Nat×Nat)} {cells:Array Value} {i off:Nat} {v:Value} {rest:List (Nat×Value)} (B:place i=some (off,v.cells.size)) (D:off+v.cells.size<=cells.size):
  ∃cells',Instr.fill place cells ((i,v)::rest)=Instr.fill place cells' rest/\cells'.toList=cells.toList.take off++v.cells.toList++cells.toList.drop (off+v.cells.toList.length)/\cells'.size=cells.size:=by
 have A:=FI v.cells.toList cells off 0 (by simpa using D)
 refine⟨(v.cells.toList.zipIdx 0).foldl (λcs (c,j)=>cs.setIfInBounds (off+j) c) cells,?_,by simpa using A,?_⟩
 ·simp only[Instr.fill,B]
  have L:¬(off+v.cells.size>cells.size):=ST
  simp only[ne_eq,H2,decide_false,L,Hb,eQ,ik,bne_self_eq_false]
  congr 1
  rw[<-Array.foldl_toList];simp
 ·have:=pb List.length A
  simp at this;rw[<-Array.length_toList,A];simp;omega
section
variable{P:Program} {w:World} {π:Nat->Nat->Prop}
theorem iy.splice{cs ps:List AV} {us vs:List Value} {off:Nat} (h:iy w π cs us) (k:iy w π ps vs) (M:off+ps.length<=cs.length):
  iy w π (cs.take off++ps++cs.drop (off+ps.length)) (us.take off++vs++us.drop (off+vs.length)):=by
 have R:=h.1
 have O:=k.1
 refine⟨by simp;omega,λi c u D A=>?_⟩
 rw[gH _ _ _ M]at D
 rw[gH _ _ _ ST]at A
 rw[<-O]at A;split at D
 ·rename_i L;rw[gc L]at A;exact h.2 i c u D A
 ·rename_i L
  rw[fx L]at A;split at D
  ·rename_i B;rw[gc B]at A;exact k.2 _ c u D A
  ·rename_i B;rw[fx B]at A;exact h.2 i c u D A
theorem rD{t:TypeId} {zs:List AV} (h:zeroOf P t=some zs):∃z:Value,(zeroValue t).run P w=.ok z w/\iy w π zs z.cells.toList/\∀a∈zs,a.scalar=true:=by
 unfold zeroOf at h;split at h
 ·rename_i z A
  simp only[kb]at A;obtain⟨i,B,A⟩:=A
  have hm:=xV (w:=w) (π:=π) _ _ h
  exact⟨z,by simp[zeroValue,typeInfo,B,A],hm.1,hm.2⟩
 ·cases h
end
section ops
variable{P:Program} {nt:Nat} {n0:ju} {w0:World} {π0:Nat->Nat->Prop} {U:Nat->Prop} {s:S} {a:Act} {w:World} {β:Nat->Nat} {τ:Nat->Value} {π:Nat->Nat->Prop}
theorem Rel.fill(R:Rel P nt n0 w0 π0 U s a w β τ π) {t:TypeId} {place:Nat->Option (Nat×Nat)} (M:∀i o z,Jt P t i=some (o,z)->place i=some (o,z)):
  ∀(Xs:List (Nat×Operand)) (ps:List (Nat×Nat×bn)) (as:List (Nat×List AV)) (cs:List AV) (us:Array Value),xT P t Xs=some ps->ir s ps=some as->ry cs.length ps=true->
   iy w π cs us.toList->(∀c∈cs,c.scalar=true)->
   ∃B,Instr.fill place us (Xs.map λp=>(p.1,a.eval p.2))=some B/\iy w π (m7 cs as) B.toList/\∀c∈m7 cs as,c.scalar=true
 |[],ps,as,cs,us,L,A,h3,hd,hs=>by
  simp[xT]at L;subst L;simp[ir]at A;subst A;exact⟨us,rfl,hd,hs⟩
 |(i,X)::Xs,ps,as,cs,us,L,A,h3,hd,hs=>by
  simp only[xT]at L;split at L
  ·rename_i o z x ak hp hx al
   cases L;simp only[ir]at A;split at A
   ·rename_i av aa ac has
    split at A
    ·rename_i hz
     obtain⟨hz,am⟩:=hz;cases A;simp only[ry,dT,gn]at h3
     have ag:=R.aF hx ac
     obtain⟨O,ao⟩:=ag.cells (λvs e=>by subst e;simp[iL]at am)
     have ad:(a.eval X).cells.size=z:=by have:=O.1;simp at this;omega
     have au:us.size=cs.length:=by have:=hd.1;simp at this;omega
     obtain⟨V,he,an,a2⟩:=tq (place:=place) (cells:=us) (i:=i) (off:=o) (v:=a.eval X) (rest:=Xs.map λp=>(p.1,a.eval p.2)) (by rw[ad];exact M i o z hp) ST
     have ae:iy w π (cs.take o++av.cells++cs.drop (o+av.cells.length)) V.toList:=by rw[an];exact hd.splice O ST
     have Z:∀c∈cs.take o++av.cells++cs.drop (o+av.cells.length),c.scalar=true:=by
      intro c D;simp only[ka]at D
      rcases D with(D|D)|D
      ·exact hs c (ut D)
      ·exact ao c D
      ·exact hs c (pm D)
     obtain⟨B,hf,ar,ab⟩:=R.fill M Xs ak aa _ V al has (by
      have:(cs.take o++av.cells++cs.drop (o+av.cells.length)).length=cs.length:=by simp;omega
      rw[this];exact h3.2) ae Z
     exact⟨B,by rw[l4,he];exact hf,ar,ab⟩
    ·cases A
   ·cases A
  ·cases L
theorem rE{P:Program} {w:World} {α β:Type} (xs:Array α) (f:α->Sem β) (g:α->β) (h:∀x∈xs,(f x).run P w=.ok (g x) w):(xs.mapM f).run P w=.ok (xs.map g) w:=by
 obtain⟨l⟩:=xs;rw[List.mapM_toArray,Sem.run_map]
 have:∀l:List α,(∀x∈l,(f x).run P w=.ok (g x) w)->(l.mapM f).run P w=.ok (l.map g) w:=by
  intro l
  induction l with
  |nil=>intro _;rfl
  |cons x l A=>
   intro h
   simp[vd,fp,h x TB,A (λy B=>h y (by simp[B]))]
 rw[this l (λx D=>h x (by simpa using D))]
 simp
theorem Rel.build(R:Rel P nt n0 w0 π0 U s a w β τ π) {t:TypeId} {Xs:Array (Nat×Operand)} {zs:List AV} {ps:List (Nat×Nat×bn)} (hz:zeroOf P t=some zs) (ad:xT P t Xs.toList=some ps) (D:ry zs.length ps=true) (A:D5 P t=true)
  {id:Nat} {K:SV->S->Prop} (h:bB (Pure P) id (.build zs ps) K s):
  ∃v y,(Instr.build t (Xs.map λ(i,x)=>(i,a.eval x))).run P w=.ok y w/\RV β τ w π v y/\v.fJ U/\K v s:=by
 simp only[bB]at h;obtain⟨as,has,hK⟩:=af h
 obtain⟨z,ab,aa,ac⟩:=rD (P:=P) (w:=w) (π:=π) hz
 unfold D5 at A;split at A
 ·rename_i fs Z
  have hm:=rE (P:=P) (w:=w) fs (λf=>do pure (f.offset,<-sizeOf f.type)) (λf=>(f.offset,(eI P f.type).getD 0)) (by
   intro f V
   have:=(mf.1 A) f (by simpa using V)
   cases O:eI P f.type with
   |none=>simp[O]at this
   |some z=>simp[dL (w:=w) O])
  obtain⟨L,V,hd,O⟩:=R.fill (place:=((fs.map λf=>(f.offset,(eI P f.type).getD 0))[·]?)) (λi o z B=>by
   unfold Jt at B;simp only[Z]at B;split at B
   ·rename_i f ag
    simp only[em]at B;obtain⟨z',ae,e⟩:=B;cases e;simp[ag,ae]
   ·cases B) Xs.toList ps as zs z.cells ad has D aa ac
  refine⟨.dat (.agg (m7 zs as)) none,.agg L,?_,⟨.agg _ _ (by have:=hd.1;simpa using this) O (λi a v ha hv=>hd.2 i a v ha (by simpa using hv)),λt ht=>by cases ht⟩,trivial,hK⟩
  simp only[Instr.build,fp,ab,fo,il Z,hm]
  have:(Xs.map λ(i,x)=>(i,a.eval x)).toList=Xs.toList.map λp=>(p.1,a.eval p.2):=TB
  rw[this,V];rfl
 ·rename_i n e Z
  cases M:eI P e with
  |none=>simp[M]at A
  |some ze=>
   obtain⟨L,V,hd,O⟩:=R.fill (place:=λi=>some (i*ze,ze)) (λi o z B=>by
    unfold Jt at B;simp[Z,M]at B;obtain⟨rfl,rfl⟩:=B
    rfl) Xs.toList ps as zs z.cells ad has D aa ac
   refine⟨.dat (.agg (m7 zs as)) none,.agg L,?_,⟨.agg _ _ (by have:=hd.1;simpa using this) O (λi a v ha hv=>hd.2 i a v ha (by simpa using hv)),λt ht=>by cases ht⟩,trivial,hK⟩
   simp only[Instr.build,fp,ab,fo,il Z,dL (w:=w) M]
   have:(Xs.map λ(i,x)=>(i,a.eval x)).toList=Xs.toList.map λp=>(p.1,a.eval p.2):=TB
   rw[this,V];rfl
 ·cases A
end ops
open Go.RowKit (Below)
theorem kj{α:Type} {z:Nat}:∀{xs:List (List α)},(∀r∈xs,r.length=z)->∀{i j:Nat} {r:List α} {a:α},xs[i]? =some r->r[j]? =some a->xs.flatten[i*z+j]? =some a
 |[],h,i,j,r,a,A,B=>by simp at A
 |x::xs,h,0,j,r,a,A,B=>by
  simp at A;subst A
  have M:j<x.length:=by
   rcases ix j x.length with D|D
   ·exact D
   ·rw[iv D]at B;cases B
  simp only[List.flatten_cons,Nat.zero_mul,la];rw[km M];exact B
 |x::xs,h,i+1,j,r,a,A,B=>by
  have L:=h x TB
  have:=kj (xs:=xs) (λr A=>h r (by simp[A])) (by simpa using A) B
  simp only[List.flatten_cons]
  rw[ll (by rw[L,Nat.add_mul];omega)]
  rw[L,show(i+1)*z+j-z=i*z+j by rw[Nat.add_mul];omega]
  exact this
theorem iA{α:Type} {z:Nat}:∀{xs:List (List α)},(∀r∈xs,r.length=z)->xs.flatten.length=xs.length*z
 |[],h=>by simp
 |x::xs,h=>by
  have A:=h x TB
  have:=iA (xs:=xs) (λr B=>h r (by simp[B]))
  simp[A,this,Nat.add_mul];omega
section
variable{P:Program} {nt:Nat} {n0:ju} {w0:World} {π0:Nat->Nat->Prop} {U:Nat->Prop} {s:S} {a:Act} {w:World} {β:Nat->Nat} {τ:Nat->Value} {π:Nat->Nat->Prop}
def grow(π:Nat->Nat->Prop) (B m:Nat):Nat->Nat->Prop:=λb o=>π b o\/(b=B/\o<m)
theorem Rel.newRow(R:Rel P nt n0 w0 π0 U s a w β τ π) {xs:List (List AV)} {z cap:Nat} {cs:Array Value} (e:TypeId) (A:∀r∈xs,r.length=z) (V:xs.length<=cap) (ab:xs.length*z<=cs.size)
  (hd:∀(i:Nat) (x:AV) (v:Value),xs.flatten[i]? =some x->cs[i]? =some v->DV w π x v) (hs:∀r∈xs,∀x∈r,x.scalar=true):
  Rel P nt n0 w0 π0 U s a (w.alloc (.cells cs e)) β τ (grow π w.heap.size (xs.length*z))/\
   DV (w.alloc (.cells cs e)) (grow π w.heap.size (xs.length*z)) (.sl xs) (.slice (some ⟨w.heap.size,0,none⟩) xs.length cap):=by
 have L:Below w.heap.size w (w.alloc (.cells cs e)):=(Below.refl _ _).alloc (im _) _
 refine⟨R.frame (λ_ _=>rfl) (λ_ _=>rfl) (λ_ h=>h) (λ_ _ h=>.inl h) (λb o h=>?_) (λb o h=>?_) L,?_⟩
 ·rcases h with h|⟨rfl,_⟩
  ·exact .inl h
  ·exact .inr (im _)
 ·rcases h with h|⟨rfl,_⟩
  ·have:=R.ez b o h;simp;omega
  ·simp
 ·have hmono:∀{x:AV} {v:Value},DV w π x v->DV (w.alloc (.cells cs e)) (grow π w.heap.size (xs.length*z)) x v:=λh=>h.mono (λ_ _ h=>.inl h) (λb o h=>Below.th L (R.ez b o h))
  have O:∀(i j:Nat) (r:List AV) (x:AV),xs[i]? =some r->r[j]? =some x->i*z+j<xs.length*z:=by
   intro i j r x B D
   have hf:=kj A B D
   rcases ix (i*z+j) (xs.length*z)with Z|Z
   ·exact Z
   ·rw[iv (by rw[iA A];exact Z)]at hf;cases hf
  refine .sl xs w.heap.size 0 cap z (λi j=>cs.getD (i*z+j) undef) V (λi r B=>A r (ev B)) (λi j r x B D=>hs r (ev B) x (ev D)) ?_ ?_ ?_
  ·intro i j r x B D
   exact .inr ⟨rfl,by have:=O i j r x B D;omega⟩
  ·intro i j r x B D
   have M:=O i j r x B D
   rw[ww _ _ _ cs e (0,0) (Id w _)]
   have:i*z+j<cs.size:=ST
   simp[this]
  ·intro i j r x B D
   have M:i*z+j<cs.size:=by have:=O i j r x B D;omega
   have:=hd (i*z+j) x cs[i*z+j] (kj A B D) (Array.getElem?_eq_getElem M)
   have aa:cs.getD (i*z+j) undef=cs[i*z+j]:=by simp[M]
   rw[aa];exact hmono this
theorem jg{q k e:Nat}:∀{l:List (Nat×Nat)},dY q (lZ k l)=some e->dY q l=some e/\q≠k
 |[],h=>by simp[lZ,dY]at h
 |(m,v)::r,h=>by
  simp only[lZ]at h
  by_cases hk:k=m
  ·subst hk
   simp only[nl,gs]at h;obtain⟨L,B⟩:=jg h
   have D:(q==k)=false:=by simpa using B
   exact⟨by simp[dY,D,L],B⟩
  ·have D:(k==m)=false:=by simpa using hk
   simp only[D,fb,dY]at h
   by_cases M:q=m
   ·subst M
    simp at h
    exact⟨by simp[dY,h],λe=>hk e.symm⟩
   ·have A:(q==m)=false:=by simpa using M
    simp only[A,fb]at h;obtain⟨L,B⟩:=jg h
    exact⟨by simp[dY,A,L],B⟩
theorem Rel.rF(R:Rel P nt n0 w0 π0 U s a w β τ π) {id e:Nat} {v:Value} (ab:¬U id) (ht:D7 P w π n0.ok e v)
  (hl:∀q L B,dY q s.live=some L->iz (τ q)=some B->iz v≠some B) (V:∀b x,b9 b s.boxes=some x->iz v≠some (β b)):
  Rel P nt n0 w0 π0 (dZ U id) {s with live:=(id,e)::s.live} a w β (CG τ id v) π:=by
 have aa:∀b,U b->b≠id:=λb V e=>ab (e▸V)
 have D:Rel P nt n0 w0 π0 (dZ U id) s a w β (CG τ id v) π:=
  R.frame (λ_ _=>rfl) (λb V=>uP _ _ _ (aa b V)) (λn h=>.inl h) (λ_ _ h=>h) (λ_ _ h=>.inl h) R.ez (Below.refl _ _)
 have A:∀{q L},dY q ((id,e)::s.live)=some L->(q=id/\L=e)\/(q≠id/\dY q s.live=some L):=by
  intro q L h;simp only[dY]at h
  by_cases O:q=id
  ·subst O;simp at h;exact .inl ⟨rfl,h.symm⟩
  ·have hf:(q==id)=false:=by simpa using O
   simp only[hf,fb]at h;exact .inr ⟨O,h⟩
 refine⟨D.size,D.slots,D.boxes,D.inj,λq L h=>?_,λq q' L Z B h h' hB M=>?_,λq L b x h h' hB=>?_,D.below,D.fc,D.ez,D.eJ,D.cZ,D.l8,D.iV,D.kept⟩
 ·rcases A h with⟨rfl,rfl⟩|⟨_,h⟩
  ·exact⟨.inr rfl,by rw[bP];exact ht⟩
  ·exact D.live q L h
 ·rcases A h with⟨k1,_⟩|⟨O,k⟩<;>rcases A h' with⟨k1',_⟩|⟨hq',k'⟩
  ·rw[k1,k1']
  ·rw[k1,bP]at hB
   rw[uP _ _ _ hq']at M;exact absurd hB (hl q' Z B k' M)
  ·rw[k1',bP]at M
   rw[uP _ _ _ O]at hB;exact absurd M (hl q L B k hB)
  ·exact D.cg q q' L Z B k k' hB M
 ·rcases A h with⟨rfl,rfl⟩|⟨O,h⟩
  ·rw[bP]at hB;exact V b x h' hB
  ·exact D.cz q L b x h h' hB
theorem Rel.H6(R:Rel P nt n0 w0 π0 U s a w β τ π) (q:Nat):Rel P nt n0 w0 π0 U {s with live:=lZ q s.live} a w β τ π:=
 ⟨R.size,R.slots,R.boxes,R.inj,λk e h=>R.live k e (jg h).1,λk L e D B h A=>R.cg k L e D B (jg h).1 (jg A).1,λk e b x h=>R.cz k e b x (jg h).1,R.below,R.fc,R.ez,R.eJ,R.cZ,R.l8,R.iV,R.kept⟩
theorem Rel.FJ(R:Rel P nt n0 w0 π0 U s a w β τ π) {B m:Nat} {D cur':Array Value} {e:TypeId} (hB:n0.ok B) (Z:w.heap[B]? =some (.cells D e (0,0)))
  (hsame:∀o,π B o->cur'[o]? =D[o]?) (hl:∀q L,dY q s.live=some L->iz (τ q)≠some B) (V:∀b x,b9 b s.boxes=some x->β b≠B):
  Rel P nt n0 w0 π0 U s a (w.setRow B cur') β τ (grow π B m):=by
 have aa:=ng Z
 have A:∀k,k≠B->(w.setRow B cur').heap[k]? =w.heap[k]?:=λk hk=>setRow_other w _ k cur' hk
 have hc:∀b o,π b o->(w.setRow B cur').cell? ⟨b,o,none⟩=w.cell? ⟨b,o,none⟩:=by
  intro b o h
  by_cases L:b=B
  ·subst L
   rw[ww _ _ _ cur' e (0,0) (setRow_heap w _ D _ e _ Z),ww _ _ _ D e (0,0) Z];exact hsame o h
  ·exact Ps w _ cur' ⟨b,o,none⟩ L
 have hp:∀b o,π b o->grow π B m b o:=λ_ _ h=>.inl h
 have O:∀b o,b≠B->grow π B m b o->π b o:=λb o V h=>by
  rcases h with h|⟨h,_⟩
  ·exact h
  ·exact absurd h V
 refine⟨R.size,λt v h=>?_,λb x h=>?_,R.inj,λq L h=>?_,R.cg,R.cz,R.below.trans ⟨rfl,rfl,rfl,TB,λk hk hx=>A k (λe=>by subst e;exact hB.elim (λh=>ST) hx),λk o hk M=>(A k (λe=>by subst e;rw[Z]at hk;cases hk;cases M)).trans hk⟩,R.fc,λb o h=>?_,λb o h=>hp _ _ (R.eJ b o h),λb o h=>?_,R.l8,R.iV,λb o h=>(hc b o (R.eJ b o h)).trans (R.kept b o h)⟩
 ·obtain⟨⟨x,hx,hv⟩,hu⟩:=R.slots t v h
  exact⟨⟨x,hx,RV.mono (λ_ _=>rfl) (λ_ _=>rfl) hp hc hu hv⟩,hu⟩
 ·obtain⟨h1,h2,h3,h4⟩:=R.boxes b x h
  refine⟨h1,h2,h3.keep (λ_ _=>rfl) h4 (A _ (V b x h)) hp hc (λo M=>?_),h4⟩
  obtain⟨_,_,_,_,_,_,hn⟩:=h3;exact hn o (O _ o (V b x h) M)
 ·obtain⟨h1,h2⟩:=R.live q L h
  exact⟨h1,h2.keep (λC hC=>A C (λeC=>hl q L h (by rw[hC,eC]))) (λC o hC M=>O C o (λeC=>hl q L h (by rw[hC,eC])) M)⟩
 ·rcases h with h|⟨rfl,_⟩
  ·simpa using R.ez b o h
  ·simpa using aa
 ·rcases h with h|⟨rfl,_⟩
  ·exact R.cZ b o h
  ·exact .inr hB
theorem Rel.draw(R:Rel P nt n0 w0 π0 U s a w β τ π):Rel P nt n0 w0 π0 U s a w.drew β τ π:=
 R.frame (λ_ _=>rfl) (λ_ _=>rfl) (λ_ h=>h) (λ_ _ h=>h) (λ_ _ h=>.inl h) R.ez (Below.refl _ _).drew
theorem Rel.nh(R:Rel P nt n0 w0 π0 U s a w β τ π) {w':World} (h:uQ w w'):Rel P nt n0 w0 π0 U s a w' β τ π:=by
 induction h with
 |refl=>exact R
 |step _ A=>exact A.draw
end
end Go.Eng
