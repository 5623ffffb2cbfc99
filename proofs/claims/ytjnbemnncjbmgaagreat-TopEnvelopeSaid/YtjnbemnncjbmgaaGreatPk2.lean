/- Part 2 of the engine and its library. -/
import Derived.Test.YtjnbemnncjbmgaaGreatPk1
set_option linter.all false
set_option maxRecDepth 10000
set_option maxHeartbeats 4000000
namespace Go.Eng
open Go
open Go.RowKit (Below)
section
variable {P:Program} {a:AV} {as:List (Option AV)} {e:Nat} {ok:Nat->Prop} {v:Value} {vs:List Value} {w w':World} {π π':Nat->Nat->Prop}
theorem Below.yc{n:Nat} (h:Below n w w') {b o:Nat} (D:b<n):w'.cell? ⟨b,o,none⟩=w.cell? ⟨b,o,none⟩:=Below.cell h (p:=⟨b,o,none⟩) D
theorem pF{Bs:List Nat} (h:gb w π (some a::as) Bs (v::vs)):
  (a=.hole/\∃B D,Bs=B::D/\v=.agg #[.pointer (some ⟨B,0,none⟩)]/\gb w π as D vs)\/(a≠.hole/\DV w π a v/\gb w π as Bs vs):=by
 by_cases L:a=.hole
 ·subst L
  cases Bs with
  |nil=>cases h.1
  |cons B Bs=>exact .inl ⟨rfl,B,Bs,rfl,h.1,h.2⟩
 ·refine .inr ⟨L,?_⟩
  cases a<;>first|exact absurd rfl L|(cases Bs<;>exact h)
theorem zU{Bs:List Nat} (D:a≠.hole) (L:DV w π a v) (M:gb w π as Bs vs):gb w π (some a::as) Bs (v::vs):=by
 cases a<;>first|exact absurd rfl D|(cases Bs<;>exact⟨L,M⟩)
theorem F8{Bs:List Nat} (D:DV w π a v) (L:gb w π as Bs vs):gb w π (some a::as) Bs (v::vs):=
 zU (λe=>by subst e;cases D) D L
theorem gb.mono{w w':World} {π π':Nat->Nat->Prop} (L:∀b o,π b o->π' b o) (D:∀b o,π b o->w'.cell? ⟨b,o,none⟩=w.cell? ⟨b,o,none⟩):∀{as:List (Option AV)} {Bs:List Nat} {vs:List Value},gb w π as Bs vs->gb w' π' as Bs vs
 |[],[],[],_=>trivial
 |[],[],v::vs,h=>h.elim
 |[],B::Bs,vs,h=>by cases vs<;>exact h.elim
 |some a::as,Bs,[],h=>by cases Bs<;>cases a<;>exact h.elim
 |some a::as,Bs,v::vs,h=>by
  rcases pF h with⟨rfl,B,V,rfl,e,M⟩|⟨O,R,M⟩
  ·exact⟨e,gb.mono L D M⟩
  ·exact zU O (R.mono L D) (gb.mono L D M)
 |none::as,[],vs,h=>by cases vs<;>exact h.elim
 |none::as,B::Bs,[],h=>h.elim
 |none::as,B::Bs,v::vs,h=>⟨h.1,gb.mono L D h.2⟩
theorem RV.mono{β β':Nat->Nat} {τ τ':Nat->Value} {w w':World} {π π':Nat->Nat->Prop} {U:Nat->Prop} (Z:∀b,U b->β' b=β b) (hτ:∀b,U b->τ' b=τ b)
  (O:∀b o,π b o->π' b o) (V:∀b o,π b o->w'.cell? ⟨b,o,none⟩=w.cell? ⟨b,o,none⟩) {v:SV} {x:Value} (M:v.iA U) (h:RV β τ w π v x):RV β' τ' w' π' v x:=by
 cases v with
 |dat a q=>
  refine⟨h.1.mono O V,λt ht=>?_⟩
  subst ht;rw[hτ t M];exact h.2 t rfl
 |ptr b off=>
  show x=_
  rw[Z b M];exact h
 |rp cs=>
  obtain⟨B,off,f,hx,L,D,h3,h4⟩:=h
  exact⟨B,off,f,hx,L,λj a R=>O _ _ (D j a R),λj a R=>(V _ _ (D j a R)).trans (h3 j a R),λj a R=>(h4 j a R).mono O V⟩
 |undef=>exact h
 |vs b off n z=>
  obtain⟨cap,L,D⟩:=h
  exact⟨cap,L,by rw[Z b M];exact D⟩
 |nX f as bs=>
  obtain⟨us,L,D⟩:=h;refine⟨us,L,?_⟩
  have e:bs.map β'=bs.map β:=B0 λb hb=>Z b (M b hb)
  rw[e];exact D.mono O V
 |raw q n=>
  obtain⟨B,cap,L,D⟩:=h
  exact⟨B,cap,by rw[hτ q M];exact L,D⟩
 |pt k ps=>
  cases k with
  |zero=>
   have h:x=_:=h
   show x=_
   rw[h]
   congr 2
   exact B0 λp O=>by rw[Z p.1 (M p O)]
  |succ k=>
   obtain⟨B,off,cap,L,D,h3⟩:=h
   refine⟨B,off,cap,L,D,λi p hi=>?_⟩
   have:=h3 i p hi
   exact⟨O _ _ this.1,by rw[V _ _ this.1,this.2,Z p.1 (M p (er hi))]⟩
theorem SV.pG{U U':Nat->Prop} (D:∀n,U n->U' n) {v:SV} (h:v.iA U):v.iA U':=by
 cases v with
 |dat a q=>cases q with
  |none=>trivial
  |some q=>exact D _ h
 |ptr b off=>exact D _ h
 |rp cs=>trivial
 |undef=>trivial
 |vs b off n z=>exact D _ h
 |nX f as O=>exact λb L=>D _ (h b L)
 |raw q n=>exact D _ h
 |pt k ps=>exact λp M=>D _ (h p M)
theorem qL{B:Nat} {o:Obj} (h:w.heap[B]? =some o):B<w.heap.size:=(kt.1 h).1
theorem Jk.block{B:Nat} (h:Jk P w π ok e v) (hB:jV v=some B):
  ok B/\B<w.heap.size:=by
 rcases h with rfl|⟨B',len,cap,M,i,rfl,D,L,_⟩
 ·simp[jV]at hB
 ·simp[jV]at hB;subst hB;exact⟨D,qL L⟩
theorem Jk.keep(h:Jk P w π ok e v) (hb:∀B,jV v=some B->w'.heap[B]? =w.heap[B]?) (hp:∀B o,jV v=some B->π' B o->π B o):Jk P w' π' ok e v:=by
 rcases h with rfl|⟨B',len,cap,D,i,rfl,R,V,O,h4,h5,M,h7⟩
 ·exact .inl rfl
 ·exact .inr ⟨B',len,cap,D,i,rfl,R,(hb B' rfl).trans V,O,h4,h5,M,λo Z L=>h7 o Z (hp B' o rfl L)⟩
theorem rH.keep{τ τ':Nat->Value} {U:Nat->Prop} {B:Nat} {x:bV} (h:rH τ w π B x) (hτ:∀q,U q->τ' q=τ q) (O:∀o q,d9 o x.tags=some q->U q) (hb:w'.heap[B]? =w.heap[B]?) (hp:∀b o,π b o->π' b o) (M:∀b o,π b o->w'.cell? ⟨b,o,none⟩=w.cell? ⟨b,o,none⟩) (hn:∀o,¬π' B o):rH τ' w' π' B x:=by
 obtain⟨D,R,Z,h2,V,h4,_⟩:=h
 exact⟨D,R,hb.trans Z,h2.mono hp M,V,λo q L=>by rw[hτ q (O o q L)];exact h4 o q L,hn⟩
end
section
variable{P:Program} {nt:Nat} {n0:gV} {w0:World} {π0:Nat->Nat->Prop} {U U':Nat->Prop} {s:S} {a:Act} {w w':World} {β β':Nat->Nat} {τ τ':Nat->Value} {π π':Nat->Nat->Prop}
section
variable {α:Type} (f:Nat->α) (n:Nat) (x:α)
theorem Rel.frame(R:Rel P nt n0 w0 π0 U s a w β τ π) (V:∀b,U b->β' b=β b) (O:∀b,U b->τ' b=τ b) (Z:∀n,U n->U' n)
  (hp:∀b o,π b o->π' b o) (M:∀b o,π' b o->π b o\/w.heap.size<=b) (ad:∀b o,π' b o->b<w'.heap.size) (D:Below w.heap.size w w'):
  Rel P nt n0 w0 π0 U' s a w' β' τ' π':=by
 have hc:∀b o,π b o->w'.cell? ⟨b,o,none⟩=w.cell? ⟨b,o,none⟩:=λb o h=>Below.yc D (R.eZ b o h)
 have ac:n0.n<=w.heap.size:=lh R.gG R.below.size
 refine⟨R.size,λt v h=>?_,λb x h=>?_,λb b' x x' h L e=>?_,λq e h=>?_,λq q' e e' B h L hB aa=>?_,λq e b x h L hB=>?_,R.below.trans (.of D ac),R.gG,ad,λb o h=>hp _ _ (R.eU b o h),λb o h=>?_,λk hk=>by rw[V k (R.jH k hk)];exact R.mJ k hk,λk hk=>Z k (R.jH k hk),λb o h=>(hc b o (R.eU b o h)).trans (R.kept b o h)⟩
 ·obtain⟨⟨x,hx,hv⟩,hu⟩:=R.slots t v h
  exact⟨⟨x,hx,RV.mono V O hp hc hu hv⟩,SV.pG Z hu⟩
 ·obtain⟨h1,h2,h3,h4⟩:=R.boxes b x h
  rw[V b h1]
  have ab:β b<w.heap.size:=by obtain⟨ae,el,hh,_⟩:=h3;exact qL hh
  refine⟨Z b h1,h2,h3.keep O h4 (D.block _ ab) hp hc (λo ho=>?_),λo q hq=>Z _ (h4 o q hq)⟩
  rcases M _ _ ho with h|h
  ·obtain⟨_,_,_,_,_,_,hn⟩:=h3;exact hn o h
  ·omega
 ·rw[V b (R.boxes b x h).1,V b' (R.boxes b' x' L).1]at e
  exact R.inj b b' x x' h L e
 ·obtain⟨h1,h2⟩:=R.live q e h
  rw[O q h1]
  refine⟨Z q h1,h2.keep (λB hB=>D.block _ (h2.block hB).2) (λB o hB ho=>?_)⟩
  rcases M _ _ ho with h|h
  ·exact h
  ·have:=(h2.block hB).2;omega
 ·rw[O q (R.live q e h).1]at hB
  rw[O q' (R.live q' e' L).1]at aa;exact R.dr q q' e e' B h L hB aa
 ·rw[O q (R.live q e h).1,V b (R.boxes b x L).1]at hB
  exact R.dw q e b x h L hB
 ·rcases M b o h with h|h
  ·exact R.dz b o h
  ·exact .inr (.inl ado)
theorem Rel.sub(R:Rel P nt n0 w0 π0 U s a w β τ π) (D:∀n,U n->U' n):Rel P nt n0 w0 π0 U' s a w β τ π:=
 R.frame (λ_ _=>rfl) (λ_ _=>rfl) D (λ_ _ h=>h) (λ_ _ h=>.inl h) R.eZ (Below.refl _ _)
theorem Rel.put(R:Rel P nt n0 w0 π0 U s a w β τ π) (d:Option Nat) {v:SV} {x:Value} (hd:∀t,d=some t->t<nt) (V:RV β τ w π v x) (M:v.iA U):Rel P nt n0 w0 π0 U (s.put d v) (a.put d x) w β τ π:=by
 cases d with
 |none=>exact R
 |some d=>
  refine⟨by simp[Act.put,R.size],λt u h=>?_,R.boxes,R.inj,R.live,R.dr,R.dw,R.below,R.gG,R.eZ,R.eU,R.dz,R.mJ,R.jH,R.kept⟩
  simp only[S.put,lk]at h
  by_cases e:t=d
  ·subst e
   simp at h;subst h
   exact⟨⟨x,by simp[Act.put,R.size,hd t rfl],V⟩,M⟩
  ·have:(t==d)=false:=by simpa using e
   simp only[this,et]at h;obtain⟨⟨y,O,L⟩,D⟩:=R.slots t u h
   exact⟨⟨y,by simp[Act.put,H1 (Ne.symm e),O],L⟩,D⟩
theorem Rel.bX(R:Rel P nt n0 w0 π0 U s a w β τ π) {X:Operand} {x:aR} {v:SV} (D:dn X=some x) (L:bX s x=some v):RV β τ w π v (a.eval X)/\v.iA U:=by
 cases X with
 |tmp t=>
  simp[dn]at D;subst D;obtain⟨⟨y,Z,O⟩,V⟩:=R.slots t v L;refine⟨?_,V⟩
  have:a.eval (.tmp t)=y:=by simp[Act.eval,Z]
  rw[this];exact O
 |const c=>
  simp only[dn,eg]at D;obtain⟨k,hk,rfl⟩:=D;simp[Eng.bX]at L;subst L
  exact⟨⟨Vi hk,λt M=>by cases M⟩,trivial⟩
 |global g=>simp[dn]at D
 |func f=>
  simp[dn]at D;subst D;simp[Eng.bX]at L;subst L
  refine⟨⟨?_,λt M=>by cases M⟩,trivial⟩
  exact .fn (.func f) [] #[] [] #[] rfl rfl (λi a v h=>by simp at h) (λi a v h=>by simp at h)
theorem RV.ref{β:Nat->Nat} {τ:Nat->Value} {w:World} {π:Nat->Nat->Prop} {cs:List AV} {v:Value}:RV β τ w π (.rp cs) v↔DV w π (.ref cs) v:=by
 constructor
 ·rintro⟨B,off,f,rfl,M,L,D,h4⟩
  exact .ref cs B off f M L D h4
 ·intro h
  cases h with
  |ref _ B off f M L D h4=>exact⟨B,off,f,rfl,M,L,D,h4⟩
theorem Rel.aL(R:Rel P nt n0 w0 π0 U s a w β τ π) {X:Operand} {x:aR} {v:AV} (M:dn X=some x) (D:Eng.aL s x=some v):DV w π v (a.eval X):=by
 unfold Eng.aL at D;split at D
 ·rename_i b q L
  cases D;exact(R.bX M L).1.1
 ·rename_i cs L
  cases D;exact RV.ref.1 (R.bX M L).1
 ·cases D
theorem Rel.ei(R:Rel P nt n0 w0 π0 U s a w β τ π):∀{Xs:List Operand} {xs:List aR} {vs:List AV},Xs.mapM dn=some xs->Eng.ei s xs=some vs->jR w π vs (Xs.map a.eval)
 |[],xs,vs,D,L=>by
  simp at D;subst D;simp[Eng.ei]at L;subst L;exact .nil _ _
 |X::Xs,xs,vs,D,L=>by
  simp only[tl,pb,jp,vd,fx]at D;obtain⟨x,D,Z,M,rfl⟩:=D;simp only[Eng.ei]at L;split at L
  ·rename_i a' as O V
   cases L;exact .cons (R.aL D O) (R.ei M V)
  ·cases L
def IZ:Nat->α:=λm=>if m=n then x else f m
theorem cZ:IZ f n x n=x:=by simp[IZ]
theorem zV{m:Nat} (h:m≠n):IZ f n x m=f m:=by simp[IZ,h]
def fQ(U:Nat->Prop) (n:Nat):Nat->Prop:=λm=>U m\/m=n
theorem Rel.Pk(R:Rel P nt n0 w0 π0 U s a w β τ π) {id:Nat} (ad:¬U id) {cells:List AV} {cs:Array Value} (e:TypeId) (hd:jR w π cells (cs.toList.take cells.length)) (hs:∀a∈cells,a.scalar=true):
  Rel P nt n0 w0 π0 (fQ U id) {s with boxes:=(id,⟨cells,[]⟩)::s.boxes} a (w.alloc (.cells cs e)) (IZ β id w.heap.size) τ π:=by
 have aa:∀b,U b->b≠id:=λb L e=>ad (e▸L)
 have V:Below w.heap.size w (w.alloc (.cells cs e)):=(Below.refl _ _).alloc (ik _) _
 have D:Rel P nt n0 w0 π0 (fQ U id) s a (w.alloc (.cells cs e)) (IZ β id w.heap.size) τ π:=
  R.frame (λb L=>zV _ _ _ (aa b L)) (λ_ _=>rfl) (λn h=>.inl h) (λ_ _ h=>h) (λ_ _ h=>.inl h) (λb o h=>by have:=R.eZ b o h;simp;omega) V
 have ab:n0.n<=w.heap.size:=lh R.gG R.below.size
 have hold:∀b x,cj b s.boxes=some x->IZ β id w.heap.size b≠w.heap.size:=λb x h=>by
  obtain⟨h1,_,⟨ae,el,hh,_⟩,_⟩:=R.boxes b x h;rw[zV _ _ _ (aa b h1)]
  have:=qL hh
  omega
 refine⟨D.size,D.slots,λb x h=>?_,λb Z x x' h O e=>?_,D.live,D.dr,λq e' b x h O hB=>?_,D.below,D.gG,D.eZ,D.eU,D.dz,D.mJ,D.jH,D.kept⟩
 ·simp only[cj]at h
  by_cases L:b=id
  ·subst L
   simp at h;subst h
   refine⟨.inr rfl,by rw[cZ];exact .inl ab,?_,λo q h=>by simp[d9]at h⟩
   rw[cZ]
   refine⟨cs,e,UV w _,hd.mono (λ_ _ h=>h) (λb o h=>Below.yc V (R.eZ b o h)),hs,λo q h=>by simp[d9]at h,λo h=>?_⟩
   have:=R.eZ _ _ h;omega
  ·have:(b==id)=false:=by simpa using L
   simp only[this,et]at h;exact D.boxes b x h
 ·simp only[cj]at h O
  by_cases L:b=id
  ·by_cases M:Z=id
   ·rw[L,M]
   ·have hf:(Z==id)=false:=by simpa using M
    simp only[hf,et]at O;subst L;rw[cZ]at e;exact absurd e.symm (hold Z x' O)
  ·have hf:(b==id)=false:=by simpa using L
   simp only[hf,et]at h
   by_cases M:Z=id
   ·subst M
    rw[cZ]at e;exact absurd e (hold b x h)
   ·have ac:(Z==id)=false:=by simpa using M
    simp only[ac,et]at O;exact D.inj b Z x x' h O e
 ·simp only[cj]at O
  by_cases L:b=id
  ·subst L
   rw[cZ]at hB
   have:=((R.live q e' h).2.block hB).2
   omega
  ·have hf:(b==id)=false:=by simpa using L
   simp only[hf,et]at O;exact D.dw q e' b x h O hB
theorem pH{n m:Nat} {b:bV}:∀{l:List (Nat×bV)} {x:bV},cj n (o7 m b l)=some x->(n=m/\x=b/\∃y,cj m l=some y)\/(n≠m/\cj n l=some x)
 |[],x,h=>by simp[o7,cj]at h
 |(k,v)::r,x,h=>by
  simp only[o7]at h
  by_cases hk:m=k
  ·subst hk
   simp only[ne,gs,cj]at h
   by_cases D:n=m
   ·subst D
    simp at h
    exact .inl ⟨rfl,h.symm,v,by simp[cj]⟩
   ·have L:(n==m)=false:=by simpa using D
    simp only[L,et]at h
    exact .inr ⟨D,by simp[cj,L,h]⟩
  ·have L:(m==k)=false:=by simpa using hk
   simp only[L,et,cj]at h
   by_cases D:n=k
   ·subst D
    simp at h
    exact .inr ⟨λe=>hk e.symm,by simp[cj,h]⟩
   ·have M:(n==k)=false:=by simpa using D
    simp only[M,et]at h
    rcases pH h with⟨O,R,y,V⟩|⟨O,R⟩
    ·exact .inl ⟨O,R,y,by simp[cj,L,V]⟩
    ·exact .inr ⟨O,by simp[cj,M,R]⟩
theorem Rel.Vm(R:Rel P nt n0 w0 π0 U s a w β τ π) {b:Nat} {x y:bV} (M:cj b s.boxes=some x) {V cur':Array Value} {el:TypeId}
  (hh:w.heap[β b]? =some (.cells V el (0,0))) (hd:jR w π y.cells (cur'.toList.take y.cells.length)) (hs:∀a∈y.cells,a.scalar=true)
  (ht:∀o q,d9 o y.tags=some q->cur'[o]? =some (τ q)/\U q):
  Rel P nt n0 w0 π0 U {s with boxes:=o7 b y s.boxes} a (w.setRow (β b) cur') β τ π:=by
 obtain⟨ad,Z,⟨_,_,ae,_,_,_,O⟩,_⟩:=R.boxes b x M
 have D:∀k,k≠β b->(w.setRow (β b) cur').heap[k]? =w.heap[k]?:=λk hk=>setRow_other w _ k cur' hk
 have hc:∀B o,π B o->(w.setRow (β b) cur').cell? ⟨B,o,none⟩=w.cell? ⟨B,o,none⟩:=λB o h=>adf w _ cur' ⟨B,o,none⟩ (λe=>O o (by simpa[<-e]using h))
 have aa:yb n0 w (w.setRow (β b) cur'):=⟨rfl,rfl,rfl,adI,λk hk hx=>D k (λe=>by subst e;rcases Z with h|h;exact absurd h ado;exact hx h.2),λk o hk ho=>(D k (λe=>by subst e;rw[hh]at hk;cases hk;cases ho)).trans hk⟩
 refine⟨R.size,λt v h=>?_,λc z h=>?_,λc c' z z' h h' e=>?_,λq e h=>?_,R.dr,λq e c z h h' hB=>?_,R.below.trans aa,R.gG,λB o h=>by simpa using R.eZ B o h,R.eU,R.dz,R.mJ,R.jH,λb o h=>(hc b o (R.eU b o h)).trans (R.kept b o h)⟩
 ·obtain⟨⟨z,hz,hv⟩,L⟩:=R.slots t v h
  exact⟨⟨z,hz,RV.mono (λ_ _=>rfl) (λ_ _=>rfl) (λ_ _ h=>h) hc L hv⟩,L⟩
 ·rcases pH h with⟨rfl,rfl,_⟩|⟨ab,h⟩
  ·exact⟨ad,Z,⟨cur',el,setRow_heap w _ V _ el _ hh,hd.mono (λ_ _ h=>h) hc,hs,λo q hq=>(ht o q hq).1,O⟩,λo q hq=>(ht o q hq).2⟩
  ·obtain⟨h1,h2,h3,h4⟩:=R.boxes c z h
   refine⟨h1,h2,h3.keep (λ_ _=>rfl) h4 (D _ (λe=>ab (R.inj c b z x h M e))) (λ_ _ h=>h) hc ?_,h4⟩
   obtain⟨_,_,_,_,_,_,hn⟩:=h3;exact hn
 ·have:∃u,cj c s.boxes=some u:=by
   rcases pH h with⟨rfl,_,_⟩|⟨_,h⟩
   ·exact⟨x,M⟩
   ·exact⟨z,h⟩
  have k':∃u,cj c' s.boxes=some u:=by
   rcases pH h' with⟨rfl,_,_⟩|⟨_,h⟩
   ·exact⟨x,M⟩
   ·exact⟨z',h⟩
  obtain⟨u,L⟩:=this;obtain⟨u',ac⟩:=k';exact R.inj c c' u u' L ac e
 ·obtain⟨h1,h2⟩:=R.live q e h
  exact⟨h1,h2.keep (λB hB=>D B (λeB=>R.dw q e b x h M (by rw[hB,eB]))) (λB o _ h=>h)⟩
 ·have:∃u,cj c s.boxes=some u:=by
   rcases pH h' with⟨rfl,_,_⟩|⟨_,h⟩
   ·exact⟨x,M⟩
   ·exact⟨z,h⟩
  obtain⟨u,L⟩:=this;exact R.dw q e c u h L hB
end
end
open Go.RowKit (Below)
theorem jj(B o n:Nat):(⟨B,o,none⟩:Addr).add n=⟨B,o+n,none⟩:=by unfold Addr.add;split<;>simp_all
section runs
variable{P:Program} {w:World}
section
variable {n o:Nat} {t:TypeId}
theorem eV{z:Nat} (h:gF P t=some z):(sizeOf t).run P w=.ok z w:=by
 simp only[gF,eg]at h;obtain⟨i,D,rfl⟩:=h;simp[sizeOf,typeInfo,D]
theorem Ba{d:TypeDesc} (h:P.underlying t=some d):(isAgg t).run P w=.ok (qD P t) w:=by
 have:=ix h w
 unfold isAgg qD;simp only[ia,this,ge,h]
 cases d<;>rfl
theorem MA(h:A7 P t=some (some n)):∃d,P.underlying t=some d/\qD P t=true/\gF P t=some n:=by
 unfold A7 at h;split at h
 ·rename_i L D;exact⟨_,D,by simp[qD,D],by simpa using h⟩
 ·rename_i k e D;exact⟨_,D,by simp[qD,D],by simpa using h⟩
 ·simp at h
 ·simp at h
theorem MB(h:A7 P t=some none):∃d,P.underlying t=some d/\qD P t=false:=by
 unfold A7 at h;split at h
 ·simp at h
 ·simp at h
 ·rename_i d M L D
  refine⟨d,D,?_⟩;unfold qD;rw[D]
  cases d<;>simp_all
 ·simp at h
theorem mK(h:A7 P t=some (some n)) {B:Nat} {f:Nat->Value} (D:∀j,j<n->w.cell? ⟨B,o+j,none⟩=some (f j)):
  (loadVar t ⟨B,o,none⟩).run P w=.ok (.agg ((List.range n).map f).toArray) w:=by
 obtain⟨d,hd,L,V⟩:=MA h
 have R:=Ba (w:=w) hd
 have Z:=eV (w:=w) V
 have M:=run_loadCells (P:=P) w ⟨B,o,none⟩ n f (λj O=>by rw[jj];exact D j O)
 simp only[loadVar,ia,R,L,ge,kw,Z,M,kx]
theorem mL(h:A7 P t=some none) {B:Nat} {v:Value} (D:w.cell? ⟨B,o,none⟩=some v):
  (loadVar t ⟨B,o,none⟩).run P w=.ok v w:=by
 obtain⟨d,hd,L⟩:=MB h
 have M:=Ba (w:=w) hd
 simp[loadVar,ia,M,L,ge,D]
end
end runs
theorem Kz{w:World} {π:Nat->Nat->Prop} {cs:List AV} {f:Nat->Value} {off:Nat} {M:Option Nat} {a:AV}
  (hs:∀(j:Nat) (x:AV),cs[j]? =some x->x.scalar=true) (hd:∀(j:Nat) (x:AV),cs[j]? =some x->DV w π x (f j)) (h:aB cs off M=some a):
  match M with
  |none=>DV w π a (f off)/\off<cs.length
  |some n=>off+n<=cs.length/\DV w π a (.agg ((List.range n).map λj=>f (off+j)).toArray):=by
 cases M with
 |none=>
  simp only[aB]at h;refine⟨hd _ _ h,?_⟩
  rcases ma off cs.length with h'|h'
  ·exact h'
  ·rw[kh h']at h;cases h
 |some n=>
  simp only[aB]at h;split at h
  ·rename_i O
   cases h
   have V:∀(i:Nat) (x:AV),((cs.drop off).take n)[i]? =some x->i<n/\cs[off+i]? =some x:=by
    intro i x D;rw[yv]at D;split at D
    ·rename_i L;exact⟨L,by simpa using D⟩
    ·cases D
   refine⟨O,.agg _ _ (by simp;omega) (λx D=>?_) (λi x v D Z=>?_)⟩
   ·obtain⟨i,L⟩:=nf.1 D
    exact hs _ _ (V i x L).2
   ·obtain⟨L,R⟩:=V i x D
    have:v=f (off+i):=by simpa[L]using Z.symm
    rw[this];exact hd _ _ R
  ·cases h
section ops
variable{P:Program} {nt:Nat} {n0:gV} {w0:World} {π0:Nat->Nat->Prop} {U:Nat->Prop} {s:S} {a:Act} {w:World} {β:Nat->Nat} {τ:Nat->Value} {π:Nat->Nat->Prop}
section
variable {K:SV->S->Prop} {X:Operand} {id:Nat} {t:TypeId} {x:aR}
theorem rH.cells{B:Nat} {x:bV} (h:rH τ w π B x):∃f:Nat->Value,(∀j,j<x.cells.length->w.cell? ⟨B,j,none⟩=some (f j))/\(∀(j:Nat) (y:AV),x.cells[j]? =some y->y.scalar=true)/\
  (∀(j:Nat) (y:AV),x.cells[j]? =some y->DV w π y (f j))/\∀o q,d9 o x.tags=some q->f o=τ q:=by
 obtain⟨D,Z,h1,R,h3,h4,_⟩:=h
 refine⟨λj=>D.getD j undef,λj hj=>?_,λj y L=>h3 y (er L),λj y L=>?_,λo q hq=>?_⟩
 ·have V:j<D.size:=by have:=R.1;simp at this;omega
  rw[GT w B j D Z (0,0) h1];simp[V]
 ·obtain⟨v,O,hd⟩:=R.get L
  have:D[j]? =some v:=by
   have M:j<x.cells.length:=by
    rcases ma j x.cells.length with h|h
    ·exact h
    ·rw[kh h]at L;cases L
   rw[sa M]at O;simpa using O
  simp[this,hd]
 ·simp[h4 o q hq]
theorem Rel.load(R:Rel P nt n0 w0 π0 U s a w β τ π) {sz:Option Nat} (hx:dn X=some x) (ht:A7 P t=some sz) (h:bF (Pure P) id (.ld x sz) K s):∃v y,(Instr.loadAt t (a.eval X)).run P w=.ok y w/\RV β τ w π v y/\v.iA U/\K v s:=by
 simp only[bF]at h
 cases ho:Eng.bX s x with
 |none=>rw[ho]at h;exact h.elim
 |some p=>
  rw[ho]at h;obtain⟨hr,hu⟩:=R.bX hx ho
  cases p with
  |dat b q=>exact h.elim
  |undef=>exact h.elim
  |vs _ _ _ _=>exact h.elim
  |nX _ _ _=>exact h.elim
  |raw _ _=>exact h.elim
  |pt _ _=>exact h.elim
  |ptr b off=>
   simp only[ay]at h
   cases hb:cj b s.boxes with
   |none=>rw[hb]at h;exact h.elim
   |some z=>
    rw[hb]at h;simp only[ay]at h
    cases V:aB z.cells off sz with
    |none=>rw[V]at h;exact h.elim
    |some av=>
     rw[V]at h;obtain⟨h1,h2,h3,h4⟩:=R.boxes b z hb;obtain⟨f,hf,hs,hd,aa⟩:=h3.cells
     have L:=Kz hs hd V
     have he:a.eval X=.pointer (some ⟨β b,off,none⟩):=hr
     cases sz with
     |none=>
      obtain⟨D,Z⟩:=L
      refine⟨.dat av (d9 off z.tags),f off,by simp only[he,Instr.loadAt,Instr.sureAddr,ia,kx,ge];exact mL ht (hf off Z),⟨D,λq M=>aa off q M⟩,?_,h⟩
      cases M:d9 off z.tags with
      |none=>trivial
      |some q=>exact h4 off q M
     |some n=>
      obtain⟨ab,D⟩:=L
      refine⟨.dat av none,_,by simp only[he,Instr.loadAt,Instr.sureAddr,ia,kx,ge];exact mK ht (λj hj=>hf (off+j) ado),⟨D,λq M=>by cases M⟩,trivial,h⟩
  |rp cs=>
   simp only[ay]at h
   cases V:aB cs 0 sz with
   |none=>rw[V]at h;exact h.elim
   |some av=>
    rw[V]at h;obtain⟨B,off,f,he,hs,_,hf,hd⟩:=hr
    have L:=Kz hs hd V
    have O:∀j,j<cs.length->w.cell? ⟨B,off+j,none⟩=some (f j):=λj hj=>hf j cs[j] (eh hj)
    cases sz with
    |none=>
     obtain⟨D,Z⟩:=L
     refine⟨.dat av none,f 0,by simp only[he,Instr.loadAt,Instr.sureAddr,ia,kx,ge];exact mL ht (O 0 Z),⟨D,λq M=>by cases M⟩,trivial,h⟩
    |some n=>
     obtain⟨ab,D⟩:=L
     refine⟨.dat av none,_,by simp only[he,Instr.loadAt,Instr.sureAddr,ia,kx,ge];exact mK ht (λj hj=>O j ado),⟨by simpa using D,λq M=>by cases M⟩,trivial,h⟩
theorem KA{w:World} {π:Nat->Nat->Prop} {av:AV} {u:Value} (h:DV w π av u) (D:av.scalar=true):u.cells.toList=[u]:=by
 cases h<;>first|rfl|(simp[AV.scalar]at D)
theorem jk{α:Type} (l ps:List α) (off:Nat) (h:off+ps.length<=l.length) (i:Nat):
  (l.take off++ps++l.drop (off+ps.length))[i]? =if i<off then l[i]? else if i<off+ps.length then ps[i-off]? else l[i]?:=by
 have M:(l.take off).length=off:=by simp;omega
 by_cases D:i<off
 ·rw[fp D,List.append_assoc,iv ado,yv,fp D]
 ·rw[fb D]
  by_cases L:i<off+ps.length
  ·rw[fp L,List.append_assoc,im ado,iv ado,M]
  ·rw[fb L,im (by simp;omega),lL]
   congr 1
   simp;omega
theorem F9{l:List (Nat×Nat)} {p:Nat×Nat->Bool} {o q:Nat} (h:d9 o (l.filter p)=some q) (O:∀x:Nat×Nat,p x=p (x.1,0)):d9 o l=some q/\p (o,0)=true:=by
 induction l with
 |nil=>simp[d9]at h
 |cons x r M=>
  obtain⟨m,v⟩:=x;rw[LE]at h
  by_cases D:p (m,v)=true
  ·rw[fp D]at h
   simp only[d9]at h⊢
   by_cases e:o=m
   ·subst e;simp at h⊢;exact⟨h,by rw[<-O (o,v)];exact D⟩
   ·have L:(o==m)=false:=by simpa using e
    simp only[L,et]at h⊢;exact M h
  ·rw[fb D]at h
   obtain⟨V,R⟩:=M h;refine⟨?_,R⟩;simp only[d9]
   have e:o≠m:=λe=>D (by subst e;rw[O (o,v)];exact R)
   have L:(o==m)=false:=by simpa using e
   simp only[L,et];exact V
theorem Rel.store(R:Rel P nt n0 w0 π0 U s a w β τ π) {V:Operand} {v:aR} {z:Nat} (hx:dn X=some x) (hv:dn V=some v) (ht:gF P t=some z) (h:bF (Pure P) id (.st x v z) K s):∃s' w',(Instr.storeAt t (a.eval X) (a.eval V)).run P w=.ok () w'/\K .undef s'/\Rel P nt n0 w0 π0 U s' a w' β τ π:=by
 simp only[bF]at h
 cases ho:Eng.bX s x with
 |none=>rw[ho]at h;exact h.elim
 |some p=>
  rw[ho]at h;obtain⟨hr,M⟩:=R.bX hx ho
  cases p with
  |dat b q=>exact h.elim
  |undef=>exact h.elim
  |vs _ _ _ _=>exact h.elim
  |nX _ _ _=>exact h.elim
  |raw _ _=>exact h.elim
  |pt _ _=>exact h.elim
  |rp cs=>exact h.elim
  |ptr b off=>
   simp only[ay]at h
   cases hb:cj b s.boxes with
   |none=>rw[hb]at h;exact h.elim
   |some y=>
    rw[hb]at h;simp only[ay]at h
    cases ae:Eng.bX s v with
    |none=>rw[ae]at h;exact h.elim
    |some u=>
     rw[ae]at h
     cases u with
     |undef=>exact h.elim
     |vs _ _ _ _=>exact h.elim
     |nX _ _ _=>exact h.elim
     |raw _ _=>exact h.elim
     |pt _ _=>exact h.elim
     |rp cs=>exact h.elim
     |ptr _ _=>exact h.elim
     |dat av q=>
      simp only[ay]at h;obtain⟨a8,ac,bi,hK⟩:=h;obtain⟨⟨au,a4⟩,a6⟩:=R.bX hv ae
      have he:a.eval X=.pointer (some ⟨β b,off,none⟩):=hr
      obtain⟨h1,h2,⟨O,el,hh,ag,ar,a9,bl⟩,h4⟩:=R.boxes b y hb
      have bj:y.cells.length<=O.size:=by have:=ag.1;simp at this;omega
      have ak:∀vs,av≠.dP vs:=λvs e=>by subst e;simp[iI]at a8
      obtain⟨aa,ao⟩:=au.cells ak
      have D:(a.eval V).cells.toList.length=z:=by rw[<-aa.1];exact ac
      have a3:∀u∈(a.eval V).cells.toList,u.oneCell'=true:=by
       intro u M
       obtain⟨i,hi⟩:=nf.1 M
       have Z:i<av.cells.length:=by
        rw[aa.1]
        rcases ma i (a.eval V).cells.toList.length with h|h
        ·exact h
        ·rw[kh h]at hi;cases hi
       have be:=eh Z
       exact(aa.2 i _ _ be hi).QO (ao _ (FS Z))
      have an:=run_storeCells_at (P:=P) (β b) off el (a.eval V).cells.toList 0 O w hh (by rw[D];omega) a3
      simp only[se]at an
      have a5:(Instr.storeAt t (a.eval X) (a.eval V)).run P w=.ok () (w.setRow (β b) (O.toList.take off++(a.eval V).cells.toList++O.toList.drop (off+(a.eval V).cells.toList.length)).toArray):=by
       have ba:(a.eval V).cells.size=z:=by simpa using D
       simp[he,Instr.storeAt,Instr.sureAddr,storeVar,eV (w:=w) ht,ba,an]
      refine⟨_,_,a5,hK,R.Vm hb hh ?_ ?_ ?_⟩
      ·--cells
       have am:(setCells y.cells off av.cells).length=y.cells.length:=by simp[setCells];omega
       refine⟨?_,λi c u hc M=>?_⟩
       ·simp only[am];simp only[Fd,rh,abM,acc,D];omega
       ·simp only[am]at M
        have Z:i<y.cells.length:=by
         rcases ma i (setCells y.cells off av.cells).length with h|h
         ·omega
         ·simp only[]at hc;rw[kh h]at hc;cases hc
        rw[sa Z]at M
        rw[jk _ _ _ (by rw[D];simp;omega)]at M
        simp only[setCells]at hc
        rw[jk _ _ _ ado]at hc
        rw[D]at M;rw[ac]at hc;split at hc
        ·rename_i hi;rw[fp hi]at M;exact ag.2 i c u hc (by rw[sa Z];exact M)
        ·rename_i hi
         rw[fb hi]at M;split at hc
         ·rename_i ad;rw[fp ad]at M;exact aa.2 _ c u hc M
         ·rename_i ad;rw[fb ad]at M;exact ag.2 i c u hc (by rw[sa Z];exact M)
      ·intro c hc
       simp only[setCells,lr]at hc
       rcases hc with(hc|hc)|hc
       ·exact ar c (zd hc)
       ·exact ao c hc
       ·exact ar c (sm hc)
      ·intro o q' L
       have ab:∀(o q':Nat),d9 o (y.tags.filter λp=>p.1<off||off+z<=p.1)=some q'->(O.toList.take off++(a.eval V).cells.toList++O.toList.drop (off+(a.eval V).cells.toList.length)).toArray[o]? =some (τ q')/\U q':=by
        intro o q' L
        obtain⟨al,bd⟩:=F9 L (λx=>rfl)
        refine⟨?_,h4 o q' al⟩
        have:=a9 o q' al
        rw[Hc,jk _ _ _ (by rw[D];simp;omega),D]
        simp at bd;split
        ·simpa using this
        ·rw[fb ado];simpa using this
       cases q with
       |none=>exact ab o q' L
       |some q=>
        simp only[d9]at L
        by_cases e:o=off
        ·subst e
         simp at L;subst L
         have a2:av.scalar=true:=by cases av<;>simp_all [iI,AV.scalar]
         have a7:(a.eval V).cells.toList=[a.eval V]:=KA au a2
         refine⟨?_,a6⟩
         rw[Hc,jk _ _ _ (by rw[D];simp;omega),a7]
         simp only[WF,Nat.lt_irrefl,il,Nat.lt_add_one,kw,Nat.sub_self]
         simpa using a4 q rfl
        ·have hf:(o==off)=false:=by simpa using e
         simp only[hf,et]at L;exact ab o q' L
end
end ops
open Go.RowKit (Below)
section
variable{P:Program} {w:World} {π:Nat->Nat->Prop}
section
variable {a b:Ieee.Datum} {k:IntKind} {n:Int} {op:BinOp} {v:AV} {x y:Int}
theorem DV.Zs{v:Value} (h:DV w π (.int k n) v):v=.int k n:=by cases h;rfl
theorem DV.wq{b:Bool} {v:Value} (h:DV w π (.bool b) v):v=.bool b:=by cases h;rfl
theorem wu(h:DY op k x y=some n):(Op.intBits op k x y).run P w=.ok (.int k n) w:=by
 unfold DY at h;unfold Op.intBits
 split at h<;>first|(cases h;rfl)|cases h
theorem Zt(M:op≠.shl) (O:op≠.shr) (h:qA op k x y=some v) (t:TypeId):∃u,(binOp op t (.int k x) (.int k y)).run P w=.ok u w/\DV w π v u:=by
 cases op<;>simp only[qA]at h
 case add=>cases h;exact⟨_,by simp[binOp,Op.intArith],.int _ _⟩
 case sub=>cases h;exact⟨_,by simp[binOp,Op.intArith],.int _ _⟩
 case mul=>cases h;exact⟨_,by simp[binOp,Op.intArith],.int _ _⟩
 case quo=>
  split at h
  ·cases h
  ·rename_i L;cases h;exact⟨_,by simp[binOp,Op.intDiv,L],.int _ _⟩
 case rem=>
  split at h
  ·cases h
  ·rename_i L;cases h;exact⟨_,by simp[binOp,Op.intDiv,L],.int _ _⟩
 case and=>simp only[eg]at h;obtain⟨n,D,rfl⟩:=h;exact⟨_,by simp only[binOp,ne_eq,P0,il];exact wu D,.int _ _⟩
 case or=>simp only[eg]at h;obtain⟨n,D,rfl⟩:=h;exact⟨_,by simp only[binOp,ne_eq,P0,il];exact wu D,.int _ _⟩
 case xor=>simp only[eg]at h;obtain⟨n,D,rfl⟩:=h;exact⟨_,by simp only[binOp,ne_eq,P0,il];exact wu D,.int _ _⟩
 case andNot=>simp only[eg]at h;obtain⟨n,D,rfl⟩:=h;exact⟨_,by simp only[binOp,ne_eq,P0,il];exact wu D,.int _ _⟩
 case shl=>exact absurd rfl M
 case shr=>exact absurd rfl O
 case eql=>cases h;exact⟨_,by simp[binOp,Op.intCmp],.bool _⟩
 case neq=>cases h;exact⟨_,by simp[binOp,Op.intCmp],.bool _⟩
 case lss=>cases h;exact⟨_,by simp[binOp,Op.intCmp],.bool _⟩
 case leq=>cases h;exact⟨_,by simp[binOp,Op.intCmp],.bool _⟩
 case gtr=>cases h;exact⟨_,by simp[binOp,Op.intCmp],.bool _⟩
 case geq=>cases h;exact⟨_,by simp[binOp,Op.intCmp],.bool _⟩
theorem Jl(h:vZ op k x y=some v):∃u,(∀L:IntKind,(Op.shift op k x L y).run P w=.ok u w)/\DV w π v u:=by
 unfold vZ at h;split at h
 ·cases h
 ·rename_i D
  split at h
  ·cases h;exact⟨_,by simp[Op.shift,D],.int _ _⟩
  ·cases h;exact⟨_,by simp[Op.shift,D],.int _ _⟩
  ·cases h
theorem wz{n:Nat} (h:I2 n=true):∃s p,FloatKind.f64.format.read n=.nan s p:=by
 unfold I2 FloatKind.decode at h;split at h
 ·rename_i s p D;exact⟨s,p,D⟩
 ·cases h
theorem Zu(x y t:Nat):(Question.nanBits .f64 x y).cut t=(t%2)*9223372036854775808+9218868437227405312+1+(t/2)%4503599627370495:=by
 simp only[Question.cut,Nat.reducePow,Nat.reduceSub]
theorem Vn(f:Ieee.Format) (n:Nat) (L:f.infRung<n%f.signWeight) (D:f.binade<=f.infRung):f.read n=.nan (n/f.signWeight%2==1) (n%f.signWeight-f.infRung):=by
 unfold Ieee.Format.read
 rw[fb ado,fb ado,fb ado]
theorem adZ(n:Nat) (D:Ieee.double.infRung<n%Ieee.double.signWeight):I2 n=true:=by
 unfold I2 FloatKind.decode
 rw[show FloatKind.f64.format=Ieee.double from rfl,Vn _ _ D (by decide+kernel)]
theorem Vo(a m k i s:Nat) (D:s=k+i) (L:a<2) (hm:i+1+m<s):i<(a*s+i+1+m)%s:=by
 have h:a=0\/a=1:=ado
 rcases h with rfl|rfl
 ·rw[show 0*s+i+1+m=i+1+m by omega,H3 hm];omega
 ·rw[show 1*s+i+1+m=s+(i+1+m)by omega,Nat.add_mod_left,H3 hm];omega
theorem D7(x y t:Nat):I2 ((Question.nanBits .f64 x y).cut t)=true:=by
 apply adZ
 rw[Zu]
 have D:Ieee.double.signWeight=9223372036854775808:=by decide+kernel
 have L:Ieee.double.infRung=9218868437227405312:=by decide+kernel
 rw[D,L]
 have:=acx (t/2) (y:=4503599627370495) adp
 generalize t/2%4503599627370495=m at*
 exact Vo _ _ 4503599627370496 _ _ adp (acx _ adp) ado
def Drw(w w':World):Prop:=w'=w\/w'=w.drew
theorem Drw.dv{w w':World} {π:Nat->Nat->Prop} (h:Drw w w') {u:Value} (hd:DV w π v u):DV w' π v u:=by
 rcases h with rfl|rfl
 ·exact hd
 ·exact DV.mono (w:=w) (w':=w.drew) (π:=π) (λ_ _ h=>h) (λ_ _ _=>rfl) hd
theorem su{x y:Nat} (D:op=.add/\FloatKind.f64.format.add x y=none\/op=.sub/\FloatKind.f64.format.sub x y=none\/op=.mul/\FloatKind.f64.format.mul x y=none\/op=.quo/\FloatKind.f64.format.div x y=none) (t:TypeId):
  ∃u,(binOp op t (.float .f64 x) (.float .f64 y)).run P w=.ok u w.drew/\DV w π .gn u:=by
 rcases D with⟨rfl,h⟩|⟨rfl,h⟩|⟨rfl,h⟩|⟨rfl,h⟩<;>
 exact⟨.float .f64 ((Question.nanBits .f64 x y).cut (w.tape w.drawn (Question.nanBits .f64 x y))),by simp[binOp,Op.floatArith,h,Question.forced],.gn _ (D7 _ _ _)⟩
theorem S6{k:FloatKind} {x y:Nat} (h:FX op k x y=some v) (t:TypeId):∃u w',Drw w w'/\(binOp op t (.float k x) (.float k y)).run P w=.ok u w'/\DV w π v u:=by
 have O:∀(o:Option Nat),O7 k o=some v->(∃r,o=some r/\v=.float k r)\/(o=none/\k=.f64/\v=.gn):=by
  intro o M
  cases o with
  |some r=>left;cases k<;>(simp only[O7,fx]at M;exact⟨r,rfl,M.symm⟩)
  |none=>
   cases k
   ·cases M
   ·right;simp only[O7,fx]at M;exact⟨rfl,rfl,M.symm⟩
 cases op<;>simp only[FX]at h<;>try(cases h;done)
 case add=>
  rcases O _ h with⟨n,D,rfl⟩|⟨D,rfl,rfl⟩
  ·exact⟨_,w,.inl rfl,by simp[binOp,Op.floatArith,D],.float _ _⟩
  ·obtain⟨u,L,hd⟩:=su (P:=P) (w:=w) (π:=π) (op:=.add) (.inl ⟨rfl,D⟩) t
   exact⟨u,_,.inr rfl,L,hd⟩
 case sub=>
  rcases O _ h with⟨n,D,rfl⟩|⟨D,rfl,rfl⟩
  ·exact⟨_,w,.inl rfl,by simp[binOp,Op.floatArith,D],.float _ _⟩
  ·obtain⟨u,L,hd⟩:=su (P:=P) (w:=w) (π:=π) (op:=.sub) (.inr (.inl ⟨rfl,D⟩)) t
   exact⟨u,_,.inr rfl,L,hd⟩
 case mul=>
  rcases O _ h with⟨n,D,rfl⟩|⟨D,rfl,rfl⟩
  ·exact⟨_,w,.inl rfl,by simp[binOp,Op.floatArith,D],.float _ _⟩
  ·obtain⟨u,L,hd⟩:=su (P:=P) (w:=w) (π:=π) (op:=.mul) (.inr (.inr (.inl ⟨rfl,D⟩))) t
   exact⟨u,_,.inr rfl,L,hd⟩
 case quo=>
  rcases O _ h with⟨n,D,rfl⟩|⟨D,rfl,rfl⟩
  ·exact⟨_,w,.inl rfl,by simp[binOp,Op.floatArith,D],.float _ _⟩
  ·obtain⟨u,L,hd⟩:=su (P:=P) (w:=w) (π:=π) (op:=.quo) (.inr (.inr (.inr ⟨rfl,D⟩))) t
   exact⟨u,_,.inr rfl,L,hd⟩
 all_goals(cases h;exact⟨_,w,.inl rfl,by simp[binOp,Op.floatCmp],.bool _⟩)
theorem QT(h:(∃s p,a=.nan s p)\/∃s p,b=.nan s p):a.sum b=none:=by
 rcases h with⟨s,p,rfl⟩|⟨s,p,rfl⟩<;>first|rfl|(cases a<;>rfl)
theorem MC(h:(∃s p,a=.nan s p)\/∃s p,b=.nan s p):a.product b=none:=by
 rcases h with⟨s,p,rfl⟩|⟨s,p,rfl⟩<;>first|rfl|(cases a<;>rfl)
theorem KC{d:Nat} (h:(∃s p,a=.nan s p)\/∃s p,b=.nan s p):a.quotient d b=none:=by
 rcases h with⟨s,p,rfl⟩|⟨s,p,rfl⟩<;>first|rfl|(cases a<;>rfl)
theorem yd(h:(∃s p,a=.nan s p)\/∃s p,b=.nan s p):a.order b=none:=by
 rcases h with⟨s,p,rfl⟩|⟨s,p,rfl⟩<;>first|rfl|(cases a<;>rfl)
theorem KD{x y:Nat} (Z:I2 x=true\/I2 y=true) (h:zM op=some v) (t:TypeId):∃u w',Drw w w'/\(binOp op t (.float .f64 x) (.float .f64 y)).run P w=.ok u w'/\DV w π v u:=by
 have D:(∃s p,FloatKind.f64.format.read x=.nan s p)\/∃s p,FloatKind.f64.format.read y=.nan s p:=Z.imp wz wz
 have L:∀d:Ieee.Datum,(∃s p,d=.nan s p)->∃s p,d.opposite=.nan s p:=λd ⟨s,p,h⟩=>by subst h;exact⟨_,_,rfl⟩
 have M:FloatKind.f64.format.order x y=none:=yd D
 have arith:∀o:BinOp,(o=.add\/o=.sub\/o=.mul\/o=.quo)->v=.gn->op=o->∃u w',Drw w w'/\(binOp op t (.float .f64 x) (.float .f64 y)).run P w=.ok u w'/\DV w π v u:=by
  intro o M R V;subst V R
  have:op=.add/\FloatKind.f64.format.add x y=none\/op=.sub/\FloatKind.f64.format.sub x y=none\/op=.mul/\FloatKind.f64.format.mul x y=none\/op=.quo/\FloatKind.f64.format.div x y=none:=by
   rcases M with rfl|rfl|rfl|rfl
   ·exact .inl ⟨rfl,by simp[Ieee.Format.add,QT D]⟩
   ·exact .inr (.inl ⟨rfl,by simp[Ieee.Format.sub,QT (D.imp id (L _))]⟩)
   ·exact .inr (.inr (.inl ⟨rfl,by simp[Ieee.Format.mul,MC D]⟩))
   ·exact .inr (.inr (.inr ⟨rfl,by simp[Ieee.Format.div,KC D]⟩))
  obtain⟨u,O,hd⟩:=su (P:=P) (w:=w) (π:=π) this t
  exact⟨u,_,.inr rfl,O,hd⟩
 cases op<;>simp only[zM,fx]at h<;>try(cases h;done)
 case add=>exact arith .add (.inl rfl) h.symm rfl
 case sub=>exact arith .sub (.inr (.inl rfl)) h.symm rfl
 case mul=>exact arith .mul (.inr (.inr (.inl rfl))) h.symm rfl
 case quo=>exact arith .quo (.inr (.inr (.inr rfl))) h.symm rfl
 all_goals(subst h;exact⟨_,w,.inl rfl,by simp[binOp,Op.floatCmp,M],.bool _⟩)
end
section
variable {X Y:Operand} {a b:AV} {op:BinOp} {t:TypeId} {v:AV} {x y:Value}
theorem Vp{P:Program} {w:World} (h:P.underlying t=some .bool) (x y:Bool):(Op.equal t (.bool x) (.bool y)).run P w=.ok (x==y) w:=by
 exact run_equalIn_bool' w 9999 t x y h
theorem iZ(op:BinOp) (t:TypeId) (X Y:Operand) (L:∀u,x≠.agg u) (D:x≠.nilIface):(eqGuard op t X Y x y).run P w=.ok () w:=by
 unfold eqGuard
 cases x<;>first|exact absurd rfl D|exact absurd rfl (L _)|(cases op<;>rfl)
theorem Zv(ht:QL P t=true) (h:eK op a b=some v) (M:DV w π a x) (O:DV w π b y):
  ∃u w',Drw w w'/\(do eqGuard op t X Y x y;binOp op t x y:Sem Value).run P w=.ok u w'/\DV w π v u:=by
 unfold eK at h;split at h
 ·cases M;cases O
  obtain⟨u,L,hd⟩:=Jl (P:=P) (w:=w) (π:=π) h
  refine⟨u,w,.inl rfl,?_,hd⟩
  rw[ia,iZ _ _ _ _ (λ_ h=>by cases h) (λh=>by cases h)]
  exact L .i64
 ·cases M;cases O
  obtain⟨u,L,hd⟩:=Jl (P:=P) (w:=w) (π:=π) h
  refine⟨u,w,.inl rfl,?_,hd⟩
  rw[ia,iZ _ _ _ _ (λ_ h=>by cases h) (λh=>by cases h)]
  exact L .i64
 ·rename_i V Z
  split at h
  ·rename_i hk
   subst hk;cases M;cases O
   obtain⟨u,L,hd⟩:=Zt (P:=P) (w:=w) (π:=π) (λe=>V e) (λe=>Z e) h t
   refine⟨u,w,.inl rfl,?_,hd⟩
   rw[ia,iZ _ _ _ _ (λ_ h=>by cases h) (λh=>by cases h)]
   exact L
  ·cases h
 ·split at h
  ·rename_i hk
   subst hk;cases M;cases O
   obtain⟨u,w',D,L,hd⟩:=S6 (P:=P) (w:=w) (π:=π) h t
   refine⟨u,w',D,?_,hd⟩
   rw[ia,iZ _ _ _ _ (λ_ h=>by cases h) (λh=>by cases h)]
   exact L
  ·cases h
 ·cases M with
  |gn n R=>
   cases O
   obtain⟨u,w',D,L,hd⟩:=KD (P:=P) (w:=w) (π:=π) (.inl R) h t
   refine⟨u,w',D,?_,hd⟩
   rw[ia,iZ _ _ _ _ (λ_ h=>by cases h) (λh=>by cases h)]
   exact L
 ·cases O with
  |gn n R=>
   cases M
   obtain⟨u,w',D,L,hd⟩:=KD (P:=P) (w:=w) (π:=π) (.inr R) h t
   refine⟨u,w',D,?_,hd⟩
   rw[ia,iZ _ _ _ _ (λ_ h=>by cases h) (λh=>by cases h)]
   exact L
 ·cases M with
  |gn n R=>
   cases O
   obtain⟨u,w',D,L,hd⟩:=KD (P:=P) (w:=w) (π:=π) (.inl R) h t
   refine⟨u,w',D,?_,hd⟩
   rw[ia,iZ _ _ _ _ (λ_ h=>by cases h) (λh=>by cases h)]
   exact L
 ·cases h
theorem ad0{neg:Bool} (L:(op=.eql/\neg=false)\/(op=.neq/\neg=true)) (D:Vc P t=true) (h:bbA neg a b=some v) (O:DV w π a x) (V:DV w π b y):
  ∃u,(do eqGuard op t X Y x y;binOp op t x y:Sem Value).run P w=.ok u w/\DV w π v u:=by
 have R:P.underlying t=some .bool:=by
  unfold Vc at D;split at D
  ·assumption
  ·cases D
 unfold bbA at h;split at h
 ·cases O;cases V;cases h
  rename_i x y
  have M:=Vp (w:=w) R x y
  rcases L with⟨rfl,rfl⟩|⟨rfl,rfl⟩
  ·refine⟨.bool (x==y),?_,.bool _⟩
   rw[ia,iZ _ _ _ _ (λ_ h=>by cases h) (λh=>by cases h)]
   simp[binOp,M]
  ·refine⟨.bool (x !=y),?_,.bool _⟩
   rw[ia,iZ _ _ _ _ (λ_ h=>by cases h) (λh=>by cases h)]
   simp[binOp,M,bne]
 ·cases h
theorem ad1{op:UnOp} (h:unA op a=some v) (D:DV w π a x):∃u,(Op.unary op x).run P w=.ok u w/\DV w π v u:=by
 unfold unA at h;split at h
 ·cases D;cases h;exact⟨_,rfl,.int _ _⟩
 ·cases D
  simp only[eg]at h;obtain⟨n,L,rfl⟩:=h;exact⟨_,wu L,.int _ _⟩
 ·cases D;cases h;exact⟨_,rfl,.float _ _⟩
 ·cases D;cases h;exact⟨_,rfl,.bool _⟩
 ·cases h
theorem Vq{s d:TypeId} {X:Operand} {M:aR} {c:bU} (D:Mx P s d M=some c) (O:DV w π a x) (h:(∃k,c=.vQ k M/\FY k a=some v)\/(∃k,c=.I1 k M/\FZ k a=some v)\/(∃k,c=.Mp k M/\AY k a=some v)):
  ∃u,(convert s d x).run P w=.ok u w/\DV w π v u:=by
 unfold Mx at D;split at D
 ·rename_i V R L hd
  cases D
  rcases h with⟨k,e,h⟩|⟨k,e,h⟩|⟨k,e,h⟩<;>try(cases e;done)
  cases e;unfold FY at h;split at h
  ·cases O;cases h
   exact⟨_,by simp[convert,ix L,ix hd,Conv.intToInt],.int _ _⟩
  ·cases h
 ·rename_i V R L hd
  cases D
  rcases h with⟨k,e,h⟩|⟨k,e,h⟩|⟨k,e,h⟩<;>try(cases e;done)
  cases e;unfold FZ at h;split at h
  ·cases O;cases h
   exact⟨_,by simp[convert,ix L,ix hd,Conv.intToFloat],.float _ _⟩
  ·cases h
 ·rename_i V R L hd
  cases D
  rcases h with⟨k,e,h⟩|⟨k,e,h⟩|⟨k,e,h⟩<;>try(cases e;done)
  cases e;unfold AY at h;split at h
  ·rename_i sk bb
   cases O;split at h
   ·rename_i n hn
    split at h
    ·rename_i Z
     cases h
     exact⟨_,by simp[convert,ix L,ix hd,Conv.floatToInt,hn,Z],.int _ _⟩
    ·cases h
   ·cases h
  ·cases h
 ·cases D
theorem Zw{e:TypeId} (D:P.underlying t=some (.slice e)) {L:Array TypeId} {Xs:Array Value} (hT:L[0]? =some t) (hX:Xs[0]? =some x) (M:DV w π a x) (h:zN a=some v) (O:TypeId):
  ∃u,(Builtin.len_ L O Xs).run P w=.ok u w/\DV w π v u:=by
 unfold zN at h;split at h
 ·cases M;cases h
  exact⟨_,by simp[Builtin.len_,hT,hX,ix D];rfl,.int _ _⟩
 ·cases M<;>cases h
  ·exact⟨_,by simp[Builtin.len_,hT,hX,ix D];rfl,.int _ _⟩
  ·exact⟨_,by simp[Builtin.len_,hT,hX,ix D];rfl,.int _ _⟩
 ·cases h
end
end
open Go.RowKit (Below)
section
variable{P:Program} {w:World} {π:Nat->Nat->Prop}
section
variable {a:AV} {mx:Bool} {v:AV} {x:Value}
theorem Zx{i:Nat} (h:S2 a i=some v) (L:DV w π a x):∃u,(Instr.extract x i).run P w=.ok u w/\DV w π v u:=by
 unfold S2 at h;split at h
 ·rename_i vs
  cases L with
  |dP as us M hd=>
   have O:i<vs.length:=by
    rcases ma i vs.length with h'|h'
    ·exact h'
    ·rw[kh h']at h;cases h
   have D:us[i]? =some us[i]!:=by
    have:i<us.size:=ado
    simp[this]
   exact⟨_,by simp[Instr.extract,D],hd i v _ h D⟩
 ·cases h
theorem MD{t:TypeId} {V:Option Nat} (ht:A7 P t=some V) {cs:List AV} {us:Array Value} {off:Nat} (hl:cs.length=us.size) (hs:∀a∈cs,a.scalar=true) (hd:∀(i:Nat) (a:AV) (v:Value),cs[i]? =some a->us[i]? =some v->DV w π a v) (h:aB cs off V=some v):∃u,(part t us off).run P w=.ok u w/\DV w π v u:=by
 have D:=Kz (w:=w) (π:=π) (f:=λj=>us.getD j undef) (λj x M=>hs x (er M)) (λj x M=>by
  have hj:j<us.size:=by
   rw[<-hl]
   rcases ma j cs.length with h'|h'
   ·exact h'
   ·rw[kh h']at M;cases M
  have L:us[j]? =some us[j]:=Array.getElem?_eq_getElem hj
  have:=hd j x _ M L
  simpa[hj]using this) h
 cases V with
 |none=>
  obtain⟨d,L,Z⟩:=MB ht
  have R:=Ba (w:=w) L
  have O:off<us.size:=by have:=D.2;omega
  exact⟨us[off],by simp[part,R,Z,O],by simpa[O]using D.1⟩
 |some n=>
  obtain⟨d,L,Z,hz⟩:=MA ht
  have R:=Ba (w:=w) L
  have h2:=eV (w:=w) hz
  refine⟨.agg (us.extract off (off+n)),by simp[part,R,Z,h2],?_⟩
  have:us.extract off (off+n)=((List.range n).map λj=>us.getD (off+j) undef).toArray:=by
   apply Array.ext
   ·simp;omega
   ·intro i R h2
    simp at h2
    have:off+i<us.size:=ado
    simp[this]
  rw[this];exact D.2
inductive zW (w:World):World->Prop
 |refl:zW w w
 |step {w':World}:zW w w'->zW w w'.drew
theorem zW.dv{w w':World} {π:Nat->Nat->Prop} (h:zW w w') {v:AV} {u:Value} (hd:DV w π v u):DV w' π v u:=by
 induction h with
 |refl=>exact hd
 |step _ D=>exact Drw.dv (Or.inr rfl) D
theorem zW.dvs{w w':World} {π:Nat->Nat->Prop} (h:zW w w') {v:List AV} {u:List Value} (hd:jR w π v u):jR w' π v u:=
 ⟨hd.1,λi a v L D=>h.dv (hd.2 i a v L D)⟩
theorem zW.trans{w w' D:World} (h:zW w w') (M:zW w' D):zW w D:=by
 induction M with
 |refl=>exact h
 |step _ L=>exact .step L
theorem Jm(mx:Bool) (x y t:Nat):I2 ((Question.nanMinMax .f64 mx x y).cut t)=true:=by
 have e:(Question.nanMinMax .f64 mx x y).cut t=(Question.nanBits .f64 x y).cut t:=by simp only[Question.cut]
 rw[e];exact D7 x y t
theorem ad2{x y:Nat} (h:FloatKind.f64.format.order x y=none):
  ∃u,((if mx then Builtin.max2 (.float .f64 x) (.float .f64 y)else Builtin.min2 (.float .f64 x) (.float .f64 y)):Sem Value).run P w=.ok u w.drew/\DV w π .gn u:=by
 cases mx
 ·exact⟨.float .f64 ((Question.nanMinMax .f64 false x y).cut (w.tape w.drawn (Question.nanMinMax .f64 false x y))),by simp[Builtin.min2,h,Question.forced],.gn _ (Jm _ _ _ _)⟩
 ·exact⟨.float .f64 ((Question.nanMinMax .f64 true x y).cut (w.tape w.drawn (Question.nanMinMax .f64 true x y))),by simp[Builtin.max2,h,Question.forced],.gn _ (Jm _ _ _ _)⟩
theorem Zy{b:AV} {y:Value} (h:UY mx a b=some v) (M:DV w π a x) (O:DV w π b y):
  ∃u w',zW w w'/\((if mx then Builtin.max2 x y else Builtin.min2 x y):Sem Value).run P w=.ok u w'/\DV w π v u:=by
 have L:∀n m:Nat,FloatKind.f64.format.order n m=none->v=.gn->x=.float .f64 n->y=.float .f64 m->∃u w',zW w w'/\((if mx then Builtin.max2 x y else Builtin.min2 x y):Sem Value).run P w=.ok u w'/\DV w π v u:=by
  intro n m D hv V Z;subst hv V Z
  obtain⟨u,R,hd⟩:=ad2 (P:=P) (w:=w) (π:=π) (mx:=mx) D
  exact⟨u,_,.step .refl,R,hd⟩
 unfold UY at h;split at h
 ·cases M;cases O;cases h
  cases mx<;>exact⟨_,w,.refl,rfl,.int _ _⟩
 ·split at h
  ·rename_i hk
   subst hk;cases M;cases O;rename_i k x y;split at h
   ·rename_i D
    split at h
    ·rename_i hk;subst hk;cases h;exact L _ _ D rfl rfl rfl
    ·cases h
   ·rename_i D;cases h;cases mx<;>exact⟨_,w,.refl,by simp[Builtin.max2,Builtin.min2,D],.float _ _⟩
   ·rename_i D;cases h;cases mx<;>exact⟨_,w,.refl,by simp[Builtin.max2,Builtin.min2,D],.float _ _⟩
   ·rename_i D;cases h;cases mx<;>exact⟨_,w,.refl,by simp[Builtin.max2,Builtin.min2,D],.float _ _⟩
  ·cases h
 ·cases h;cases M;cases O
  exact L _ _ (yd (.inl (wz (by assumption)))) rfl rfl rfl
 ·cases h;cases M;cases O
  exact L _ _ (yd (.inr (wz (by assumption)))) rfl rfl rfl
 ·cases h
  cases M with
  |gn n hn=>cases O with
   |gn m hm=>exact L _ _ (yd (.inl (wz hn))) rfl rfl rfl
 ·cases h
theorem Pm{mx:Bool}:∀{as:List AV} {us:List Value} {a v:AV} {x:Value} {w:World},as.foldlM (UY mx) a=some v->DV w π a x->jR w π as us->
  ∃u w',zW w w'/\(us.foldlM (λp q=>if mx then Builtin.max2 p q else Builtin.min2 p q) x:Sem Value).run P w=.ok u w'/\DV w' π v u
 |[],us,a,v,x,w,h,M,L=>by
  have:us=[]:=sT (by simpa using L.1.symm)
  subst this;simp at h;subst h;exact⟨x,w,.refl,rfl,M⟩
 |b::as,us,a,v,x,w,h,M,L=>by
  cases us with
  |nil=>have:=L.1;simp at this
  |cons y us=>
   simp only[List.foldlM_cons,pb,jp]at h;obtain⟨c,hc,h⟩:=h
   obtain⟨u,w1,D,hu,hd⟩:=Zy (P:=P) hc M (L.2 0 b y rfl rfl)
   have R:jR w π as us:=⟨by have:=L.1;simpa using this,λi a v h1 h2=>L.2 (i+1) a v (by simpa using h1) (by simpa using h2)⟩
   obtain⟨u',w2,V,Z,O⟩:=Pm h (D.dv hd) (D.dvs R)
   exact⟨u',w2,D.trans V,by simp only[List.foldlM_cons,ia,hu,ge];exact Z,O⟩
end
end
section ops
variable{P:Program} {nt:Nat} {n0:gV} {w0:World} {π0:Nat->Nat->Prop} {U:Nat->Prop} {s:S} {a:Act} {w:World} {β:Nat->Nat} {τ:Nat->Value} {π:Nat->Nat->Prop}
section
variable {K:SV->S->Prop} {X:Operand} {e:TypeId} {i:aR} {id:Nat} {ps:List (Nat×Nat)} {t:TypeId} {v:Value} {x:aR} {z:Nat}
theorem ah{α:Type} {o:Option α} {k:α->Prop} (h:aj o k):∃x,o=some x/\k x:=by
 cases o with
 |none=>exact h.elim
 |some x=>exact⟨x,rfl,h⟩
theorem RV.QU{cs:List AV} (h:RV β τ w π (.rp cs) v) (d:Nat):∃B off,v=.pointer (some ⟨B,off,none⟩)/\RV β τ w π (.rp (cs.drop d)) (.pointer (some ⟨B,off+d,none⟩)):=by
 obtain⟨B,off,f,O,M,R,L,h4⟩:=h
 refine⟨B,off,O,B,off+d,λj=>f (d+j),rfl,?_,?_,?_,?_⟩<;>intro j x D<;>rw[lL]at D
 ·exact M _ x D
 ·have:=R _ x D;rwa[<-IH]at this
 ·have:=L _ x D;rwa[<-IH]at this
 ·exact h4 _ x D
theorem RV.acY(h:RV β τ w π (.pt 2 ps) v):∃B off,v=.pointer (some ⟨B,off,none⟩)/\
  ∀(i:Nat) (p:Nat×Nat),ps[i]? =some p->π B (off+i)/\w.cell? ⟨B,off+i,none⟩=some (.pointer (some ⟨β p.1,p.2,none⟩)):=by
 obtain⟨B,off,cap,L,M,D⟩:=h
 exact⟨B,off,by simpa using L,D⟩
theorem RV.QV{B off:Nat} (h:∀(i:Nat) (p:Nat×Nat),ps[i]? =some p->π B (off+i)/\w.cell? ⟨B,off+i,none⟩=some (.pointer (some ⟨β p.1,p.2,none⟩))):RV β τ w π (.pt 2 ps) (.pointer (some ⟨B,off,none⟩)):=
 ⟨B,off,ps.length,adI,ik _,h⟩
theorem RV.Zz(h:RV β τ w π (.pt 2 ps) v) (d:Nat):∃B off,v=.pointer (some ⟨B,off,none⟩)/\RV β τ w π (.pt 2 (ps.drop d)) (.pointer (some ⟨B,off+d,none⟩)):=by
 obtain⟨B,off,M,L⟩:=h.acY
 refine⟨B,off,M,.QV λi p D=>?_⟩
 rw[lL]at D
 have:=L _ p D
 rwa[<-IH]at this
theorem Rel.fieldAddr(R:Rel P nt n0 w0 π0 U s a w β τ π) {f:Nat} {D:Field} (hx:dn X=some x) (V:A8 P t f=some D) (hz:¬(gF P D.type==some 0||(gF P D.type).isNone)=true) (h:bF (Pure P) id (.fa x D.offset) K s):
  ∃v y,(Instr.fieldAt t (a.eval X) f).run P w=.ok y w/\RV β τ w π v y/\v.iA U/\K v s:=by
 have hu:∃Z:Array Field,P.underlying t=some (.struct Z)/\Z[f]? =some D:=by
  unfold A8 at V;split at V
  ·exact⟨_,by assumption,V⟩
  ·cases V
 obtain⟨Z,hu,ac⟩:=hu
 obtain⟨z,aa,ad⟩:∃z,gF P D.type=some z/\z≠0:=by
  cases hs:gF P D.type with
  |none=>simp[hs]at hz
  |some z=>exact⟨z,rfl,λe=>by subst e;simp[hs]at hz⟩
 have ab:=eV (w:=w) aa
 have L:∀(B off:Nat),a.eval X=.pointer (some ⟨B,off,none⟩)->(Instr.fieldAt t (a.eval X) f).run P w=.ok (.pointer (some ⟨B,off+D.offset,none⟩)) w:=by
  intro B off he;simp[Instr.fieldAt,ix hu,ac,he,Instr.sureAddr,fieldPlace,ab,ad,jj]
 simp only[bF]at h;obtain⟨p,hp,h⟩:=ah h;obtain⟨O,hU⟩:=R.bX hx hp
 cases p with
 |dat _ _=>exact h.elim
 |undef=>exact h.elim
 |vs _ _ _ _=>exact h.elim
 |nX _ _ _=>exact h.elim
 |raw _ _=>exact h.elim
 |pt k ps=>
  match k,O,h with
  |2,O,h=>
   obtain⟨B,off,hv,M⟩:=RV.Zz O D.offset
   exact⟨.pt 2 (ps.drop D.offset),_,L _ _ hv,M,λp hp=>hU p (sm hp),h⟩
  |0,_,h=>exact h.elim
  |1,_,h=>exact h.elim
  |k+3,_,h=>exact h.elim
 |ptr b o=>exact⟨.ptr b (o+D.offset),_,L _ _ O,rfl,hU,h⟩
 |rp cs=>
  obtain⟨B,off,hv,M⟩:=RV.QU O D.offset;exact⟨.rp (cs.drop D.offset),_,L _ _ hv,M,trivial,h⟩
theorem Rel.idx(R:Rel P nt n0 w0 π0 U s a w β τ π) {i:Int} {b:AV} (L:dn X=some x) (M:Eng.aL s x=some b) (D:idxOf b=some i):∃k,a.eval X=.int k i:=by
 have hd:=R.aL L M
 unfold idxOf at D;split at D
 ·rename_i k n
  cases D;exact⟨k,hd.Zs⟩
 ·cases D
theorem Rel.Vr(R:Rel P nt n0 w0 π0 U s a w β τ π) {n:Nat} {I:Operand} (hx:dn X=some x) (hi:dn I=some i) (Z:P.underlying t=some (.array n e)) (hz:gF P e=some z) (h:bF (Pure P) id (.Pd x i n z) K s):
  ∃v y,(Instr.indexAt t (a.eval X) (a.eval I)).run P w=.ok y w/\RV β τ w π v y/\v.iA U/\K v s:=by
 simp only[bF]at h;obtain⟨p,hp,h⟩:=ah h;obtain⟨b,hb,h⟩:=ah h;obtain⟨j,hj,h⟩:=ah h;obtain⟨O,h⟩:=h;obtain⟨k,hk⟩:=R.idx hi hb hj;obtain⟨V,hU⟩:=R.bX hx hp
 have M:=eV (w:=w) hz
 have D:∀(B off:Nat),a.eval X=.pointer (some ⟨B,off,none⟩)->(Instr.indexAt t (a.eval X) (a.eval I)).run P w=.ok (.pointer (some ⟨B,off+j.toNat*z,none⟩)) w:=by
  intro B off he;simp[Instr.indexAt,hk,he,asIntOf,ix Z,Instr.sureAddr,O,M,jj]
 cases p with
 |dat _ _=>exact h.elim
 |undef=>exact h.elim
 |vs _ _ _ _=>exact h.elim
 |nX _ _ _=>exact h.elim
 |raw _ _=>exact h.elim
 |pt _ _=>exact h.elim
 |ptr b o=>exact⟨.ptr b (o+j.toNat*z),_,D _ _ V,rfl,hU,h⟩
 |rp cs=>
  obtain⟨B,off,hv,L⟩:=RV.QU V (j.toNat*z)
  exact⟨.rp (cs.drop (j.toNat*z)),_,D _ _ hv,L,trivial,h⟩
theorem Rel.ZA(R:Rel P nt n0 w0 π0 U s a w β τ π) {I:Operand} (hx:dn X=some x) (hi:dn I=some i) (ht:P.underlying t=some (.slice e)) (hz:gF P e=some z) (h:bF (Pure P) id (.Za x i z) K s):
  ∃v y,(Instr.indexAt t (a.eval X) (a.eval I)).run P w=.ok y w/\RV β τ w π v y/\v.iA U/\K v s:=by
 simp only[bF]at h;obtain⟨u,hu,h⟩:=ah h
 have Z:=eV (w:=w) hz
 cases u with
 |ptr _ _=>exact h.elim
 |rp _=>exact h.elim
 |undef=>exact h.elim
 |nX _ _ _=>exact h.elim
 |raw _ _=>exact h.elim
 |pt _ _=>exact h.elim
 |vs b off n V=>
 obtain⟨a',hb,k2⟩:=ah h;obtain⟨j,hj,L,rfl,hK⟩:=ah k2;obtain⟨k,hk⟩:=R.idx hi hb hj;obtain⟨⟨cap,ad,hv⟩,hU⟩:=R.bX hx hu;refine⟨.ptr b (off+j.toNat*V),.pointer (some ⟨β b,off+j.toNat*V,none⟩),?_,rfl,hU,hK⟩;rw[hv];simp[Instr.indexAt,hk,asIntOf,ix ht,L,Z,jj]
 |dat l q=>
 have hl:Eng.aL s x=some l:=by simp[Eng.aL,hu]
 obtain⟨b,hb,k2⟩:=ah h;obtain⟨j,hj,k3⟩:=ah k2;obtain⟨xs,M,L,k4⟩:=ah k3;obtain⟨row,D,ac,hK⟩:=ah k4;obtain⟨k,hk⟩:=R.idx hi hb hj
 have hd:=R.aL hx hl
 have ab:l=.sl xs:=by
  cases l<;>simp only[rowsOf]at M<;>try(cases M;done)
  ·cases M;simp at L;omega
  ·cases M;rfl
 subst ab;generalize hv:a.eval X=v at hd
 cases hd with
 |S5 A=>simp at D
 |sl _ B off cap V f h1 h2 h3 h4 h5 h6=>
  have aa:V=z:=by rw[<-h2 _ _ D,ac]
  subst aa
  refine⟨.rp row,.pointer (some ⟨B,off+j.toNat*V,none⟩),?_,⟨B,off+j.toNat*V,λm=>f j.toNat m,rfl,?_,?_,?_,?_⟩,trivial,hK⟩
  ·simp[Instr.indexAt,hk,asIntOf,ix ht,L,Z,jj]
  ·intro m c O;exact h3 _ m row c D O
  ·intro m c O;exact h4 _ m row c D O
  ·intro m c O;exact h5 _ m row c D O
  ·intro m c O;exact h6 _ m row c D O
end
end ops
open Go.RowKit (Below)
theorem ME:∀(vs:List Value) (cells:Array Value) (off k:Nat),off+k+vs.length<=cells.size->
  ((vs.zipIdx k).foldl (λcs (c,j)=>cs.setIfInBounds (off+j) c) cells).toList=cells.toList.take (off+k)++vs++cells.toList.drop (off+k+vs.length)
 |[],cells,off,k,h=>by simp
 |v::vs,cells,off,k,h=>by
  simp only[List.zipIdx_cons,xa]
  have hk:off+k<cells.size:=by simp at h;omega
  rw[ME vs (cells.setIfInBounds (off+k) v) off (k+1) (by simp at h⊢;omega)]
  have e:=list_seg_step cells.toList (off+k) v vs (by simp at h⊢;omega)
  simpa[Array.toList_setIfInBounds,IH]using e
theorem ye{place:Nat->Option (Nat×Nat)} {cells:Array Value} {i off:Nat} {v:Value} {rest:List (Nat×Value)} (M:place i=some (off,v.cells.size)) (L:off+v.cells.size<=cells.size):
  ∃cells',Instr.fill place cells ((i,v)::rest)=Instr.fill place cells' rest/\cells'.toList=cells.toList.take off++v.cells.toList++cells.toList.drop (off+v.cells.toList.length)/\cells'.size=cells.size:=by
 have D:=ME v.cells.toList cells off 0 (by simpa using L)
 refine⟨(v.cells.toList.zipIdx 0).foldl (λcs (c,j)=>cs.setIfInBounds (off+j) c) cells,?_,by simpa using D,?_⟩
 ·simp only[Instr.fill,M]
  have O:¬(off+v.cells.size>cells.size):=ado
  simp only[ne_eq,P0,decide_false,O,QR,eQ,il,tz]
  congr 1
  rw[<-Array.foldl_toList];simp
 ·have:=sd List.length D
  simp at this;rw[<-acc,D];simp;omega
section
variable{P:Program} {w:World} {π:Nat->Nat->Prop}
theorem jR.splice{cs ps:List AV} {us vs:List Value} {off:Nat} (h:jR w π cs us) (k:jR w π ps vs) (R:off+ps.length<=cs.length):
  jR w π (cs.take off++ps++cs.drop (off+ps.length)) (us.take off++vs++us.drop (off+vs.length)):=by
 have Z:=h.1
 have V:=k.1
 refine⟨by simp;omega,λi c u M D=>?_⟩
 rw[jk _ _ _ R]at M
 rw[jk _ _ _ ado]at D
 rw[<-V]at D;split at M
 ·rename_i O;rw[fp O]at D;exact h.2 i c u M D
 ·rename_i O
  rw[fb O]at D;split at M
  ·rename_i L;rw[fp L]at D;exact k.2 _ c u M D
  ·rename_i L;rw[fb L]at D;exact h.2 i c u M D
theorem wA{t:TypeId} {zs:List AV} (h:zeroOf P t=some zs):∃z:Value,(zeroValue t).run P w=.ok z w/\jR w π zs z.cells.toList/\∀a∈zs,a.scalar=true:=by
 unfold zeroOf at h;split at h
 ·rename_i z D
  simp only[jp]at D;obtain⟨i,L,D⟩:=D
  have hm:=Da (w:=w) (π:=π) _ _ h
  exact⟨z,by simp[zeroValue,typeInfo,L,D],hm.1,hm.2⟩
 ·cases h
end
section ops
variable{P:Program} {nt:Nat} {n0:gV} {w0:World} {π0:Nat->Nat->Prop} {U:Nat->Prop} {s:S} {a:Act} {w:World} {β:Nat->Nat} {τ:Nat->Value} {π:Nat->Nat->Prop}
theorem Rel.fill(R:Rel P nt n0 w0 π0 U s a w β τ π) {t:TypeId} {place:Nat->Option (Nat×Nat)} (aa:∀i o z,QM P t i=some (o,z)->place i=some (o,z)):
  ∀(Xs:List (Nat×Operand)) (ps:List (Nat×Nat×aR)) (as:List (Nat×List AV)) (cs:List AV) (us:Array Value),C0 P t Xs=some ps->iN s ps=some as->v9 cs.length ps=true->
   jR w π cs us.toList->(∀c∈cs,c.scalar=true)->
   ∃L,Instr.fill place us (Xs.map λp=>(p.1,a.eval p.2))=some L/\jR w π (o6 cs as) L.toList/\∀c∈o6 cs as,c.scalar=true
 |[],ps,as,cs,us,O,D,h3,hd,hs=>by
  simp[C0]at O;subst O;simp[iN]at D;subst D;exact⟨us,rfl,hd,hs⟩
 |(i,X)::Xs,ps,as,cs,us,O,D,h3,hd,hs=>by
  simp only[C0]at O;split at O
  ·rename_i o z x an hp hx au
   cases O;simp only[iN]at D;split at D
   ·rename_i av ak ac has
    split at D
    ·rename_i hz
     obtain⟨hz,ag⟩:=hz;cases D;simp only[v9,ed,ii]at h3
     have a2:=R.aL hx ac
     obtain⟨Z,ao⟩:=a2.cells (λvs e=>by subst e;simp[iI]at ag)
     have ad:(a.eval X).cells.size=z:=by have:=Z.1;simp at this;omega
     have a3:us.size=cs.length:=by have:=hd.1;simp at this;omega
     obtain⟨V,he,ae,a4⟩:=ye (place:=place) (cells:=us) (i:=i) (off:=o) (v:=a.eval X) (rest:=Xs.map λp=>(p.1,a.eval p.2)) (by rw[ad];exact aa i o z hp) ado
     have am:jR w π (cs.take o++av.cells++cs.drop (o+av.cells.length)) V.toList:=by rw[ae];exact hd.splice Z ado
     have ab:∀c∈cs.take o++av.cells++cs.drop (o+av.cells.length),c.scalar=true:=by
      intro c M;simp only[lr]at M
      rcases M with(M|M)|M
      ·exact hs c (zd M)
      ·exact ao c M
      ·exact hs c (sm M)
     obtain⟨L,hf,al,ar⟩:=R.fill aa Xs an ak _ V au has (by
      have:(cs.take o++av.cells++cs.drop (o+av.cells.length)).length=cs.length:=by simp;omega
      rw[this];exact h3.2) am ab
     exact⟨L,by rw[kr,he];exact hf,al,ar⟩
    ·cases D
   ·cases D
  ·cases O
theorem wC{P:Program} {w:World} {α β:Type} (xs:Array α) (f:α->Sem β) (g:α->β) (h:∀x∈xs,(f x).run P w=.ok (g x) w):(xs.mapM f).run P w=.ok (xs.map g) w:=by
 obtain⟨l⟩:=xs;rw[List.mapM_toArray,Sem.run_map]
 have:∀l:List α,(∀x∈l,(f x).run P w=.ok (g x) w)->(l.mapM f).run P w=.ok (l.map g) w:=by
  intro l
  induction l with
  |nil=>intro _;rfl
  |cons x l D=>
   intro h
   simp[tl,ia,h x adI,D (λy M=>h y (by simp[M]))]
 rw[this l (λx L=>h x (by simpa using L))]
 simp
theorem Rel.build(R:Rel P nt n0 w0 π0 U s a w β τ π) {t:TypeId} {Xs:Array (Nat×Operand)} {zs:List AV} {ps:List (Nat×Nat×aR)} (hz:zeroOf P t=some zs) (ad:C0 P t Xs.toList=some ps) (M:v9 zs.length ps=true) (D:Kv P t=true)
  {id:Nat} {K:SV->S->Prop} (h:bF (Pure P) id (.build zs ps) K s):
  ∃v y,(Instr.build t (Xs.map λ(i,x)=>(i,a.eval x))).run P w=.ok y w/\RV β τ w π v y/\v.iA U/\K v s:=by
 simp only[bF]at h;obtain⟨as,has,hK⟩:=ah h
 obtain⟨z,ac,aa,ab⟩:=wA (P:=P) (w:=w) (π:=π) hz
 unfold Kv at D;split at D
 ·rename_i fs hu
  have hm:=wC (P:=P) (w:=w) fs (λf=>do pure (f.offset,<-sizeOf f.type)) (λf=>(f.offset,(gF P f.type).getD 0)) (by
   intro f hf
   have:=(mt.1 D) f (by simpa using hf)
   cases Z:gF P f.type with
   |none=>simp[Z]at this
   |some z=>simp[eV (w:=w) Z])
  obtain⟨O,hf,hd,Z⟩:=R.fill (place:=((fs.map λf=>(f.offset,(gF P f.type).getD 0))[·]?)) (λi o z L=>by
   unfold QM at L;simp only[hu]at L;split at L
   ·rename_i f ae
    simp only[eg]at L;obtain⟨z',ag,e⟩:=L;cases e;simp[ae,ag]
   ·cases L) Xs.toList ps as zs z.cells ad has M aa ab
  refine⟨.dat (.agg (o6 zs as)) none,.agg O,?_,⟨.agg _ _ (by have:=hd.1;simpa using this) Z (λi a v ha hv=>hd.2 i a v ha (by simpa using hv)),λt ht=>by cases ht⟩,trivial,hK⟩
  simp only[Instr.build,ia,ac,ge,ix hu,hm]
  have:(Xs.map λ(i,x)=>(i,a.eval x)).toList=Xs.toList.map λp=>(p.1,a.eval p.2):=adI
  rw[this,hf];rfl
 ·rename_i n e hu
  cases V:gF P e with
  |none=>simp[V]at D
  |some ze=>
   obtain⟨O,hf,hd,Z⟩:=R.fill (place:=λi=>some (i*ze,ze)) (λi o z L=>by
    unfold QM at L;simp[hu,V]at L;obtain⟨rfl,rfl⟩:=L
    rfl) Xs.toList ps as zs z.cells ad has M aa ab
   refine⟨.dat (.agg (o6 zs as)) none,.agg O,?_,⟨.agg _ _ (by have:=hd.1;simpa using this) Z (λi a v ha hv=>hd.2 i a v ha (by simpa using hv)),λt ht=>by cases ht⟩,trivial,hK⟩
   simp only[Instr.build,ia,ac,ge,ix hu,eV (w:=w) V]
   have:(Xs.map λ(i,x)=>(i,a.eval x)).toList=Xs.toList.map λp=>(p.1,a.eval p.2):=adI
   rw[this,hf];rfl
 ·cases D
end ops
open Go.RowKit (Below)
theorem nr{α:Type} {z:Nat}:∀{xs:List (List α)},(∀r∈xs,r.length=z)->∀{i j:Nat} {r:List α} {a:α},xs[i]? =some r->r[j]? =some a->xs.flatten[i*z+j]? =some a
 |[],h,i,j,r,a,D,L=>by simp at D
 |x::xs,h,0,j,r,a,D,L=>by
  simp at D;subst D
  have R:j<x.length:=by
   rcases ma j x.length with M|M
   ·exact M
   ·rw[kh M]at L;cases L
  simp only[List.flatten_cons,Nat.zero_mul,lc];rw[iv R];exact L
 |x::xs,h,i+1,j,r,a,D,L=>by
  have O:=h x adI
  have:=nr (xs:=xs) (λr D=>h r (by simp[D])) (by simpa using D) L
  simp only[List.flatten_cons]
  rw[im (by rw[O,Nat.add_mul];omega)]
  rw[O,show(i+1)*z+j-z=i*z+j by rw[Nat.add_mul];omega]
  exact this
theorem jW{α:Type} {z:Nat}:∀{xs:List (List α)},(∀r∈xs,r.length=z)->xs.flatten.length=xs.length*z
 |[],h=>by simp
 |x::xs,h=>by
  have D:=h x adI
  have:=jW (xs:=xs) (λr L=>h r (by simp[L]))
  simp[D,this,Nat.add_mul];omega
section
variable{P:Program} {nt:Nat} {n0:gV} {w0:World} {π0:Nat->Nat->Prop} {U:Nat->Prop} {s:S} {a:Act} {w:World} {β:Nat->Nat} {τ:Nat->Value} {π:Nat->Nat->Prop}
def grow(π:Nat->Nat->Prop) (B m:Nat):Nat->Nat->Prop:=λb o=>π b o\/(b=B/\o<m)
theorem Rel.newRow(R:Rel P nt n0 w0 π0 U s a w β τ π) {xs:List (List AV)} {z cap:Nat} {cs:Array Value} (e:TypeId) (D:∀r∈xs,r.length=z) (aa:xs.length<=cap) (ac:xs.length*z<=cs.size)
  (hd:∀(i:Nat) (x:AV) (v:Value),xs.flatten[i]? =some x->cs[i]? =some v->DV w π x v) (hs:∀r∈xs,∀x∈r,x.scalar=true):
  Rel P nt n0 w0 π0 U s a (w.alloc (.cells cs e)) β τ (grow π w.heap.size (xs.length*z))/\
   DV (w.alloc (.cells cs e)) (grow π w.heap.size (xs.length*z)) (.sl xs) (.slice (some ⟨w.heap.size,0,none⟩) xs.length cap):=by
 have O:Below w.heap.size w (w.alloc (.cells cs e)):=(Below.refl _ _).alloc (ik _) _
 refine⟨R.frame (λ_ _=>rfl) (λ_ _=>rfl) (λ_ h=>h) (λ_ _ h=>.inl h) (λb o h=>?_) (λb o h=>?_) O,?_⟩
 ·rcases h with h|⟨rfl,_⟩
  ·exact .inl h
  ·exact .inr (ik _)
 ·rcases h with h|⟨rfl,_⟩
  ·have:=R.eZ b o h;simp;omega
  ·simp
 ·have hmono:∀{x:AV} {v:Value},DV w π x v->DV (w.alloc (.cells cs e)) (grow π w.heap.size (xs.length*z)) x v:=λh=>h.mono (λ_ _ h=>.inl h) (λb o h=>Below.yc O (R.eZ b o h))
  have V:∀(i j:Nat) (r:List AV) (x:AV),xs[i]? =some r->r[j]? =some x->i*z+j<xs.length*z:=by
   intro i j r x L M
   have hf:=nr D L M
   rcases ma (i*z+j) (xs.length*z)with h'|h'
   ·exact h'
   ·rw[kh (by rw[jW D];exact h')]at hf;cases hf
  refine .sl xs w.heap.size 0 cap z (λi j=>cs.getD (i*z+j) undef) aa (λi r L=>D r (er L)) (λi j r x L M=>hs r (er L) x (er M)) ?_ ?_ ?_
  ·intro i j r x L M
   exact .inr ⟨rfl,by have:=V i j r x L M;omega⟩
  ·intro i j r x L M
   have Z:=V i j r x L M
   rw[GT _ _ _ cs e (0,0) (UV w _)]
   have:i*z+j<cs.size:=ado
   simp[this]
  ·intro i j r x L M
   have Z:i*z+j<cs.size:=by have:=V i j r x L M;omega
   have:=hd (i*z+j) x cs[i*z+j] (nr D L M) (Array.getElem?_eq_getElem Z)
   have ab:cs.getD (i*z+j) undef=cs[i*z+j]:=by simp[Z]
   rw[ab];exact hmono this
theorem lz{q k e:Nat}:∀{l:List (Nat×Nat)},d9 q (jT k l)=some e->d9 q l=some e/\q≠k
 |[],h=>by simp[jT,d9]at h
 |(m,v)::r,h=>by
  simp only[jT]at h
  by_cases hk:k=m
  ·subst hk
   simp only[ne,gs]at h;obtain⟨M,L⟩:=lz h
   have O:(q==k)=false:=by simpa using L
   exact⟨by simp[d9,O,M],L⟩
  ·have O:(k==m)=false:=by simpa using hk
   simp only[O,et,d9]at h
   by_cases R:q=m
   ·subst R
    simp at h
    exact⟨by simp[d9,h],λe=>hk e.symm⟩
   ·have D:(q==m)=false:=by simpa using R
    simp only[D,et]at h;obtain⟨M,L⟩:=lz h
    exact⟨by simp[d9,D,M],L⟩
theorem Rel.wD(R:Rel P nt n0 w0 π0 U s a w β τ π) {id e:Nat} {v:Value} (ab:¬U id) (ht:Jk P w π n0.ok e v)
  (hl:∀q M B,d9 q s.live=some M->jV (τ q)=some B->jV v≠some B) (Z:∀b x,cj b s.boxes=some x->jV v≠some (β b)):
  Rel P nt n0 w0 π0 (fQ U id) {s with live:=(id,e)::s.live} a w β (IZ τ id v) π:=by
 have ac:∀b,U b->b≠id:=λb Z e=>ab (e▸Z)
 have L:Rel P nt n0 w0 π0 (fQ U id) s a w β (IZ τ id v) π:=
  R.frame (λ_ _=>rfl) (λb Z=>zV _ _ _ (ac b Z)) (λn h=>.inl h) (λ_ _ h=>h) (λ_ _ h=>.inl h) R.eZ (Below.refl _ _)
 have D:∀{q M},d9 q ((id,e)::s.live)=some M->(q=id/\M=e)\/(q≠id/\d9 q s.live=some M):=by
  intro q M h;simp only[d9]at h
  by_cases V:q=id
  ·subst V;simp at h;exact .inl ⟨rfl,h.symm⟩
  ·have hf:(q==id)=false:=by simpa using V
   simp only[hf,et]at h;exact .inr ⟨V,h⟩
 refine⟨L.size,L.slots,L.boxes,L.inj,λq M h=>?_,λq q' M aa B h h' hB O=>?_,λq M b x h h' hB=>?_,L.below,L.gG,L.eZ,L.eU,L.dz,L.mJ,L.jH,L.kept⟩
 ·rcases D h with⟨rfl,rfl⟩|⟨_,h⟩
  ·exact⟨.inr rfl,by rw[cZ];exact ht⟩
  ·exact L.live q M h
 ·rcases D h with⟨k1,_⟩|⟨V,k⟩<;>rcases D h' with⟨k1',_⟩|⟨hq',k'⟩
  ·rw[k1,k1']
  ·rw[k1,cZ]at hB
   rw[zV _ _ _ hq']at O;exact absurd hB (hl q' aa B k' O)
  ·rw[k1',cZ]at O
   rw[zV _ _ _ V]at hB;exact absurd O (hl q M B k hB)
  ·exact L.dr q q' M aa B k k' hB O
 ·rcases D h with⟨rfl,rfl⟩|⟨V,h⟩
  ·rw[cZ]at hB;exact Z b x h' hB
  ·exact L.dw q M b x h h' hB
theorem Rel.Pn(R:Rel P nt n0 w0 π0 U s a w β τ π) (q:Nat):Rel P nt n0 w0 π0 U {s with live:=jT q s.live} a w β τ π:=
 ⟨R.size,R.slots,R.boxes,R.inj,λk e h=>R.live k e (lz h).1,λk D e M B h L=>R.dr k D e M B (lz h).1 (lz L).1,λk e b x h=>R.dw k e b x (lz h).1,R.below,R.gG,R.eZ,R.eU,R.dz,R.mJ,R.jH,R.kept⟩
theorem Rel.MF(R:Rel P nt n0 w0 π0 U s a w β τ π) {B m:Nat} {L cur':Array Value} {e:TypeId} (hB:n0.ok B) (hh:w.heap[B]? =some (.cells L e (0,0)))
  (hsame:∀o,π B o->cur'[o]? =L[o]?) (hl:∀q M,d9 q s.live=some M->jV (τ q)≠some B) (Z:∀b x,cj b s.boxes=some x->β b≠B):
  Rel P nt n0 w0 π0 U s a (w.setRow B cur') β τ (grow π B m):=by
 have aa:=qL hh
 have D:∀k,k≠B->(w.setRow B cur').heap[k]? =w.heap[k]?:=λk hk=>setRow_other w _ k cur' hk
 have hc:∀b o,π b o->(w.setRow B cur').cell? ⟨b,o,none⟩=w.cell? ⟨b,o,none⟩:=by
  intro b o h
  by_cases M:b=B
  ·subst M
   rw[GT _ _ _ cur' e (0,0) (setRow_heap w _ L _ e _ hh),GT _ _ _ L e (0,0) hh];exact hsame o h
  ·exact adf w _ cur' ⟨b,o,none⟩ M
 have hp:∀b o,π b o->grow π B m b o:=λ_ _ h=>.inl h
 have V:∀b o,b≠B->grow π B m b o->π b o:=λb o Z h=>by
  rcases h with h|⟨h,_⟩
  ·exact h
  ·exact absurd h Z
 refine⟨R.size,λt v h=>?_,λb x h=>?_,R.inj,λq M h=>?_,R.dr,R.dw,R.below.trans ⟨rfl,rfl,rfl,adI,λk hk hx=>D k (λe=>by subst e;exact hB.elim (λh=>ado) hx),λk o hk O=>(D k (λe=>by subst e;rw[hh]at hk;cases hk;cases O)).trans hk⟩,R.gG,λb o h=>?_,λb o h=>hp _ _ (R.eU b o h),λb o h=>?_,R.mJ,R.jH,λb o h=>(hc b o (R.eU b o h)).trans (R.kept b o h)⟩
 ·obtain⟨⟨x,hx,hv⟩,hu⟩:=R.slots t v h
  exact⟨⟨x,hx,RV.mono (λ_ _=>rfl) (λ_ _=>rfl) hp hc hu hv⟩,hu⟩
 ·obtain⟨h1,h2,h3,h4⟩:=R.boxes b x h
  refine⟨h1,h2,h3.keep (λ_ _=>rfl) h4 (D _ (Z b x h)) hp hc (λo O=>?_),h4⟩
  obtain⟨_,_,_,_,_,_,hn⟩:=h3;exact hn o (V _ o (Z b x h) O)
 ·obtain⟨h1,h2⟩:=R.live q M h
  exact⟨h1,h2.keep (λC hC=>D C (λeC=>hl q M h (by rw[hC,eC]))) (λC o hC O=>V C o (λeC=>hl q M h (by rw[hC,eC])) O)⟩
 ·rcases h with h|⟨rfl,_⟩
  ·simpa using R.eZ b o h
  ·simpa using aa
 ·rcases h with h|⟨rfl,_⟩
  ·exact R.dz b o h
  ·exact .inr hB
theorem Rel.draw(R:Rel P nt n0 w0 π0 U s a w β τ π):Rel P nt n0 w0 π0 U s a w.drew β τ π:=
 R.frame (λ_ _=>rfl) (λ_ _=>rfl) (λ_ h=>h) (λ_ _ h=>h) (λ_ _ h=>.inl h) R.eZ (Below.refl _ _).drew
theorem Rel.nu(R:Rel P nt n0 w0 π0 U s a w β τ π) {w':World} (h:zW w w'):Rel P nt n0 w0 π0 U s a w' β τ π:=by
 induction h with
 |refl=>exact R
 |step _ D=>exact D.draw
end
end Go.Eng
