/- Part 7 of the engine and its library. -/
import Derived.Test.YtdfplndcbbofjaaGreatPk6
set_option linter.all false
set_option maxRecDepth 10000
set_option maxHeartbeats 4000000
namespace Go.Eng
open Go
open Go.RowKit (Below)
section
variable{P:Program} {nt:Nat} {n0:kL} {w0:World} {π0:Nat->Nat->Prop} {U:Nat->Prop} {s:S} {a:Act} {w:World} {β:Nat->Nat} {τ:Nat->Value} {π:Nat->Nat->Prop}
section
variable {C:aY} {K:SV->S->Prop} {Q:Exit->Act->World->Prop} {T:Nat->Prop} {X:AV->S->Prop} {as:List bC} {b:Bool} {c:Call} {cos:List CO} {cs:Array Value} {d:Option Nat} {dc:List (Nat×Nat)} {e:TypeId} {f:Nat} {g:Option (Nat×Bool)} {i:TypeInfo} {id k:Nat} {l:Array Bool} {m:Nat} {neg:Bool} {next:Act->World->Prop} {o:Oper} {op:BinOp} {ops:Array Oper} {r:Option Nat} {t:TypeId} {v:Value} {w':World} {x:Value} {y:bC} {π':Nat->Nat->Prop}
theorem I7{a:AV} (h:DV w π a v) (A:jN a=true):v=S2 a:=by
 cases h<;>first|rfl|(simp[jN]at A;done)
theorem Tq{a:AV} (h:DV w π a v) (A:jO a=true):v=yS a:=by
 cases h with
 |agg as vs D M hd=>
  simp only[jO,lj]at A
  show Value.agg vs=.agg _
  congr 1
  apply Array.ext
  ·simpa using D.symm
  ·intro i E L
   have B:i<as.length:=ST
   have:=I7 (hd i as[i] vs[i] (by simp[B]) (by simp[E])) (A _ (Do B))
   simpa using this
 |_=>first|rfl|(simp[jO,jN]at A;done)
theorem ko{d:TypeDesc} (h:P.underlying t=some d):(underlying t).run P w=.ok d w:=by
 simp[underlying,h]
theorem NW{z:AV} (h:zeroV P t=some z):∃v:Value,(zeroValue t).run P w=.ok v w/\DV w π z v:=by
 unfold zeroV at h;simp only[jp]at h;obtain⟨v,⟨i,B,D⟩,A⟩:=h
 exact⟨v,by simp[zeroValue,typeInfo,B,D],PG A⟩
theorem Gk(d:Nat) {B:Array (String×TypeId)} (h:P.underlying t=some (.interface B)) (x:Value) (b:Bool) (E:(x=.nilIface/\b=true)\/(∃D y,x=.iface D y/\b=false)):(Op.equalIn (d+1) t x .nilIface).run P w=.ok b w:=by
 have A:(underlying t).run P w=.ok (.interface B) w:=ko h
 rcases E with⟨rfl,rfl⟩|⟨D,y,rfl,rfl⟩<;>simp only[Op.equalIn,fi,A,e9,iv]
theorem NX(d:Nat) (h:P.underlying t=some (.pointer e)) (x:Option Addr):(Op.equalIn (d+1) t (.pointer x) (.pointer none)).run P w=.ok x.isNone w:=by
 have A:(underlying t).run P w=.ok (.pointer e) w:=ko h
 cases x<;>simp only[Op.equalIn,fi,A,e9,iv,Option.isNone]
theorem Hy(A:(op=.eql/\neg=false)\/(op=.neq/\neg=true)) {X Y:Operand} {y:Value} (L:(eqGuard op t X Y x y).run P w=.ok () w) (E:∀d,(Op.equalIn (d+1) t x y).run P w=.ok b w) (D:binOp .eql t x y=(do pure (.bool (<-Op.equal t x y)))) (M:binOp .neq t x y=(do pure (.bool (!(<-Op.equal t x y))))):(do eqGuard op t X Y x y;binOp op t x y:Sem Value).run P w=.ok (.bool (b !=neg)) w:=by
 have B:(Op.equal t x y).run P w=.ok b w:=E 9999
 rw[fi,L]
 rcases A with⟨rfl,rfl⟩|⟨rfl,rfl⟩
 ·simp only[e9,D,fi,B,iv];simp
 ·simp only[e9,M,fi,B,iv];simp
theorem MI(A:(op=.eql/\neg=false)\/(op=.neq/\neg=true)) (D:rD P t=true) {a:AV} {X:Operand} (E:WN neg a=some b) (O:DV w π a x):(do eqGuard op t X (.const .nilIface) x .nilIface;binOp op t x .nilIface:Sem Value).run P w=.ok (.bool b) w:=by
 have B:∃e,P.underlying t=some (.interface e):=by
  unfold rD at D;split at D
  ·exact⟨_,by assumption⟩
  ·cases D
 obtain⟨e,B⟩:=B
 cases O<;>simp only[WN,fo,reduceCtorEq]at E<;>subst E
 ·have:=Hy (P:=P) (w:=w) A (t:=t) (X:=X) (Y:=.const .nilIface) (x:=.nilIface) (y:=.nilIface) (b:=true) (by rcases A with⟨rfl,rfl⟩|⟨rfl,rfl⟩<;>simp[eqGuard]) (λd=>Gk d B _ _ (.inl ⟨rfl,rfl⟩)) rfl rfl
  rw[this];cases neg<;>rfl
 ·rename_i M av L R
  have:=Hy (P:=P) (w:=w) A (t:=t) (X:=X) (Y:=.const .nilIface) (x:=.iface M L) (y:=.nilIface) (b:=false) (by rcases A with⟨rfl,rfl⟩|⟨rfl,rfl⟩<;>simp[eqGuard]) (λd=>Gk d B _ _ (.inr ⟨_,_,rfl,rfl⟩)) rfl rfl
  rw[this];cases neg<;>rfl
theorem MJ(M:(op=.eql/\neg=false)\/(op=.neq/\neg=true)) (R:C6 P t=true) {v:SV} {X:Operand} (E:NK neg v=some b) (L:RV β τ w π v x):(do eqGuard op t X (.const (.pointer none)) x (.pointer none);binOp op t x (.pointer none):Sem Value).run P w=.ok (.bool b) w:=by
 have O:∃e,P.underlying t=some (.pointer e):=by
  unfold C6 at R;split at R
  ·exact⟨_,by assumption⟩
  ·cases R
 obtain⟨e,O⟩:=O
 have D:∀A:Option Addr,(A.isNone !=neg)=b->(do eqGuard op t X (.const (.pointer none)) (.pointer A) (.pointer none);binOp op t (.pointer A) (.pointer none):Sem Value).run P w=.ok (.bool b) w:=by
  intro A V
  have:=Hy (P:=P) (w:=w) M (t:=t) (X:=X) (Y:=.const (.pointer none)) (x:=.pointer A) (y:=.pointer none) (b:=A.isNone) (by rcases M with⟨rfl,rfl⟩|⟨rfl,rfl⟩<;>simp[eqGuard]) (λd=>NX d O A) (by cases A<;>rfl) (by cases A<;>rfl)
  rw[this,V]
 cases v with
 |ptr Z o=>
  have L:x=.pointer (some ⟨β Z,o,none⟩):=L
  subst L
  exact D _ (by simpa[NK]using E)
 |rp cs=>
  obtain⟨B,off,f,rfl,_⟩:=L
  exact D _ (by simpa[NK]using E)
 |dat av q=>
  have hd:=L.1
  cases av<;>simp only[NK,fo,reduceCtorEq]at E
  ·cases hd
   exact D none (by rw[<-E];cases neg<;>rfl)
  ·cases hd
   exact D _ (by rw[<-E];cases neg<;>rfl)
 |_=>simp[NK]at E
theorem Tt{xt:TypeId} {z a v:AV} (hz:zeroV P t=some z) (O:(rD P t||(P.underlying t).isNone)=false) (A:WM t z a=some v) (V:DV w π a x):
  ∃u,(Instr.typeAssert x xt t true).run P w=.ok u w/\DV w π v u:=by
 obtain⟨zv,L,M⟩:=NW (w:=w) (π:=π) hz
 simp only[H5]at O;obtain⟨hi,hn⟩:=O
 cases Z:P.underlying t with
 |none=>rw[Z]at hn;cases hn
 |some d=>
  have B:(underlying t).run P w=.ok d w:=ko Z
  have hd:∀ms,d≠.interface ms:=λms e=>by subst e;simp[rD,Z]at hi
  have no:∀(x:Value),x=.nilIface\/(∃D y,x=.iface D y/\D≠t)->(Instr.typeAssert x xt t true).run P w=.ok (.tuple #[zv,.bool false]) w:=by
   intro x V
   rcases V with rfl|⟨D,y,rfl,aa⟩
   ·unfold Instr.typeAssert
    simp only[fi,B,e9]
    cases d<;>first|exact absurd rfl (hd _)|simp[L]
   ·unfold Instr.typeAssert
    simp only[fi,B,e9]
    cases d<;>first|exact absurd rfl (hd _)|simp[L,aa]
  have two:∀{p:AV} {y:Value} (b:Bool),DV w π p y->DV w π (.dF [p,.bool b]) (.tuple #[y,.bool b]):=by
   intro p y b hp
   refine .dF _ _ rfl (λi a v E A=>?_)
   cases i with
   |zero=>simp at E A;subst E A;exact hp
   |succ i=>cases i with
    |zero=>simp at E A;subst E A;exact .bool b
    |succ i=>simp at E
  cases V<;>simp only[WM,fo,reduceCtorEq]at A<;>subst A
  ·exact⟨_,no _ (.inl rfl),two _ M⟩
  ·rename_i D av y ab
   by_cases R:D=t
   ·rw[et R]
    subst R;refine⟨.tuple #[y,.bool true],?_,two _ ab⟩;unfold Instr.typeAssert;simp only[fi,B,e9]
    cases d<;>first|exact absurd rfl (hd _)|simp
   ·rw[ek R]
    exact⟨_,no _ (.inr ⟨D,y,rfl,R⟩),two _ M⟩
theorem Rel.MK(R:Rel P nt n0 w0 π0 U s a w β τ π) (ak:¬U id) {B:Nat} {cs:List AV} (hB:w.heap.size<=B) (aa:Below w.heap.size w w') (hp:∀b o,π b o->π' b o) (ac:∀b o,π' b o->π b o\/w.heap.size<=b) (ab:∀b o,π' b o->b<w'.heap.size) (ad:tC (λ_=>undef) w' π' B ⟨cs,[]⟩):
  Rel P nt n0 w0 π0 (fu U id) {s with boxes:=(id,⟨cs,[]⟩)::s.boxes} a w' (FP β id B) τ π':=by
 have Z:∀b,U b->b≠id:=λb D e=>ak (e▸D)
 have A:Rel P nt n0 w0 π0 (fu U id) s a w' (FP β id B) τ π':=
  R.frame (λb D=>xX _ _ _ (Z b D)) (λ_ _=>rfl) (λn h=>.inl h) hp ac ab aa
 have ag:n0.n<=w.heap.size:=ka R.gI R.below.size
 have hold:∀b x,dh b s.boxes=some x->FP β id B b≠B:=λb x h=>by
  obtain⟨h1,_,⟨al,el,hh,_⟩,_⟩:=R.boxes b x h;rw[xX _ _ _ (Z b h1)]
  have:=oL hh
  omega
 refine⟨A.size,A.slots,λb x h=>?_,λb O x x' h L e=>?_,A.live,A.dm,λq e' b x h L M=>?_,A.below,A.gI,A.gj,A.gu,A.dW,A.nL,A.jP,A.kept⟩
 ·simp only[dh]at h
  by_cases D:b=id
  ·subst D
   simp at h;subst h
   refine⟨.inr rfl,by rw[cj];exact .inl (ka ag hB),?_,λo q h=>by simp[fq]at h⟩
   rw[cj];exact ad.Bg
  ·have:(b==id)=false:=by simpa using D
   simp only[this,eQ]at h;exact A.boxes b x h
 ·simp only[dh]at h L
  by_cases D:b=id
  ·by_cases E:O=id
   ·rw[D,E]
   ·have V:(O==id)=false:=by simpa using E
    simp only[V,eQ]at L;subst D;rw[cj]at e;exact absurd e.symm (hold O x' L)
  ·have V:(b==id)=false:=by simpa using D
   simp only[V,eQ]at h
   by_cases E:O=id
   ·subst E
    rw[cj]at e;exact absurd e (hold b x h)
   ·have ae:(O==id)=false:=by simpa using E
    simp only[ae,eQ]at L;exact A.inj b O x x' h L e
 ·simp only[dh]at L
  by_cases D:b=id
  ·subst D
   rw[cj]at M
   have:=((R.live q e' h).2.block M).2
   omega
  ·have V:(b==id)=false:=by simpa using D
   simp only[V,eQ]at L;exact A.dG q e' b x h L M
theorem vV{w:World} {π:Nat->Nat->Prop}:∀{as A:List (Option AV)} {Bs D:List Nat} {vs E:List Value},gh w π as Bs vs->gh w π A D E->gh w π (as++A) (Bs++D) (vs++E)
 |[],A,[],D,[],E,_,L=>L
 |[],A,B::Bs,D,vs,E,h,L=>by cases vs<;>exact h.elim
 |[],A,[],D,v::vs,E,h,L=>h.elim
 |some a::as,A,Bs,D,[],E,h,L=>by cases Bs<;>cases a<;>exact h.elim
 |some a::as,A,Bs,D,v::vs,E,h,L=>by
  rcases nM h with⟨rfl,B,V,rfl,e,M⟩|⟨O,R,M⟩
  ·exact⟨e,vV M L⟩
  ·exact xW O R (vV M L)
 |none::as,A,[],D,vs,E,h,L=>by cases vs<;>exact h.elim
 |none::as,A,B::Bs,D,[],E,h,L=>h.elim
 |none::as,A,B::Bs,D,v::vs,E,h,L=>⟨h.1,vV h.2 L⟩
theorem DZ{w:World} {π:Nat->Nat->Prop}:∀{as:List AV} {vs:List Value},jn w π as vs->gh w π (as.map some) [] vs
 |[],[],_=>trivial
 |[],v::vs,h=>by have:=h.1;simp at this
 |a::as,[],h=>by have:=h.1;simp at this
 |a::as,v::vs,h=>DI (h.2 0 a v rfl rfl) (DZ ⟨by have:=h.1;simpa using this,λi x u B A=>h.2 (i+1) x u (by simpa using B) (by simpa using A)⟩)
theorem PZ(h:c.callee=.value (.func f)) (A:dB P f=true):wD P c=(gV c.args).map (if rC P c.argTypes.toList then .eo f else .call f):=by
 unfold wD;rw[h];simp[A]
theorem ML{q n:Nat} {x:AV} {id:Nat}:∀{l:List (Nat×SV)} {t:Nat} {v:SV},lk t (NL q n x id l)=some v->∃u,lk t l=some u/\v=S3 q n x id u
 |[],t,v,h=>by cases h
 |(m,u)::r,t,v,h=>by
  simp only[NL,lk,ki]at h⊢;split at h
  ·rename_i e;cases h;subst e;exact⟨u,TB,rfl⟩
  ·rename_i e;obtain⟨D,A,B⟩:=ML h;exact⟨D,by simp[e,A],B⟩
theorem Rel.made(R:Rel P nt n0 w0 π0 U s a w β τ π) (E:¬U id) (hi:P.info? e=some i) (hz:i.size=1) {c:Nat} (hc:c<=maxLen) (L:cs.size=c):
  Rel P nt n0 w0 π0 (fu U id) {s with live:=(id,e)::s.live} a (w.alloc (.cells cs e)) β (FP τ id (.slice (some ⟨w.heap.size,0,none⟩) 0 c)) π:=by
 have D:Below w.heap.size w (w.alloc (.cells cs e)):=(Below.refl _ _).alloc (ia _) _
 have M:n0.n<=w.heap.size:=ka R.gI R.below.size
 have Z:Rel P nt n0 w0 π0 U s a (w.alloc (.cells cs e)) β τ π:=
  R.frame (λ_ _=>rfl) (λ_ _=>rfl) (λ_ h=>h) (λ_ _ h=>h) (λ_ _ h=>.inl h) (λb o h=>by have:=R.gj b o h;simp;omega) D
 refine Z.tX E (.inr ⟨w.heap.size,0,c,cs,i,rfl,.inl M,Hn w _,Nat.zero_le _,hc,hi,by rw[hz,L,pb],λo _ O=>?_⟩) (λq e' B V hB A=>?_) (λb x hb A=>?_)
 ·have:=R.gj _ _ O;omega
 ·have h1:=((R.live q e' V).2.block hB).2
  simp[jq]at A;omega
 ·have:=R.lD hb
  simp[jq]at A;omega
theorem Rel.copied(R:Rel P nt n0 w0 π0 U s a w β τ π) (a5:¬U id) {e q B cap:Nat} {A:List (List AV)} {cs:List Value} {D:Array Value} (hi:P.info? e=some i) (hz:i.size=1) (Z:fq q s.live=some e) (hτ:τ q=.slice (some ⟨B,0,none⟩) 0 cap) (hn:A.length<=cap) (hh:w.heap[B]? =some (.cells D e (0,0))) (am:n0.ok B) (a2:cap<=maxLen) (ao:D.size=cap) (hfree:∀o,¬π B o) (hy:∀r∈A,r.length=1) (hd:jn w π A.flatten cs) (a4:∀r∈A,∀x∈r,x.scalar=true):
  ∃τ' π',Rel P nt n0 w0 π0 (fu U id) {s with slots:=NL q A.length (.sl A) id s.slots,live:=(id,e)::nH q s.live} a (w.setRow B (D.toList.take 0++cs++D.toList.drop (0+cs.length)).toArray) β τ' π':=by
 have a9:cs.length=A.length:=by rw[<-hd.1,jr hy,pb]
 generalize V:(D.toList.take 0++cs++D.toList.drop (0+cs.length)).toArray=cur'
 have ar:cur'.size=D.size:=by rw[<-V];simp;omega
 have au:∀(j:Nat) (v:Value),cs[j]? =some v->cur'[j]? =some v:=by
  intro j v M
  have hj:j<cs.length:=(er.1 M).1
  rw[<-V];simp[lc hj,M]
 have aa:∀q' e',fq q' (nH q s.live)=some e'->jq (τ q')≠some B:=by
  intro q' e' ae O;obtain⟨h1,h2⟩:=kg ae
  exact h2 (R.dm q' q e' e B h1 Z O (by rw[hτ];rfl))
 have ab:∀b x,dh b s.boxes=some x->β b≠B:=λb x hb e'=>R.dG q e b x Z hb (by rw[hτ,e'];rfl)
 have R1:=(R.K7 q).I1 (m:=A.length) (cur':=cur') am hh (λo ho=>absurd ho (hfree o)) aa ab
 have an:(w.setRow B cur').heap[B]? =some (.cells cur' e (0,0)):=setRow_heap w _ D _ e _ hh
 have R2:=R1.tX (id:=id) (e:=e) (v:=.slice (some ⟨B,0,none⟩) A.length cap) a5
  (.inr ⟨B,A.length,cap,cur',i,rfl,am,an,hn,a2,hi,by rw[ar,ao,hz,pb],λo ho hc=>by
   rw[hz,pb]at ho
   rcases hc with h|⟨_,h⟩
   ·exact hfree o h
   ·omega⟩) (λq' e' C ae hC O=>by simp[jq]at O;exact aa q' e' ae (by rw[hC,O])) (λb x hb O=>ab b x hb (by simpa[jq]using O.symm))
 have a3:DV (w.setRow B cur') (grow π B A.length) (.sl A) (.slice (some ⟨B,0,none⟩) A.length cap):=by
  have hmono:∀{x:AV} {v:Value},DV w π x v->DV (w.setRow B cur') (grow π B A.length) x v:=λh=>h.mono (λ_ _ h=>.inl h) (λb o h=>by
   by_cases e':b=B
   ·subst e';exact absurd h (hfree o)
   ·exact Ps w _ cur' ⟨b,o,none⟩ e')
  have ac:∀(i j:Nat) (r:List AV) (x:AV),A[i]? =some r->r[j]? =some x->j=0/\∃v,cs[i]? =some v/\cur'[i]? =some v/\DV w π x v:=by
   intro i j r x E L
   have a7:=hy r (em E)
   have hj:j=0:=by have:=(er.1 L).1;omega
   subst hj
   obtain⟨v,M,ad⟩:=hd.get (lW hy E L)
   rw[pb,pm]at M;exact⟨rfl,v,M,au i v M,ad⟩
  refine .sl A B 0 cap 1 (λi j=>cur'.getD i undef) hn (λi r E=>hy r (em E)) (λi j r x E L=>a4 r (em E) x (em L)) (λi j r x E L=>?_) (λi j r x E L=>?_) (λi j r x E L=>?_)
  ·obtain⟨rfl,_⟩:=ac i j r x E L
   exact .inr ⟨rfl,by have:=(er.1 E).1;omega⟩
  ·obtain⟨rfl,v,_,M,_⟩:=ac i j r x E L
   rw[la,pb,pm,ul _ _ _ cur' e (0,0) an,M];simp[M]
  ·obtain⟨rfl,v,_,M,ad⟩:=ac i j r x E L
   simp only[sa,M,sm];exact hmono ad
 refine⟨_,_,{R2 with slots:=λt v M=>?_}⟩
 obtain⟨u,hu,rfl⟩:=ML M;obtain⟨⟨x,L,E⟩,al⟩:=R2.slots t u hu
 cases u with
 |raw q' n'=>
  by_cases ag:q'=q/\n'=A.length
  ·obtain⟨rfl,rfl⟩:=ag
   simp only[S3,ns,Fd,ge];obtain⟨⟨x2,ak,B',a6,h1,h2,h3⟩,a8⟩:=R.slots t _ hu;rw[L]at ak;cases ak;rw[hτ]at h1;simp only[Value.slice.injEq,fo,Addr.mk.injEq]at h1;obtain⟨⟨rfl,_⟩,_,rfl⟩:=h1
   refine⟨⟨x,L,?_,λt ht=>?_⟩,.inr rfl⟩
   ·rw[h2];exact a3
   ·cases ht;rw[cj,h2]
  ·have hb:(q'==q&&n'==A.length)=false:=by
    rw[AC];intro h;simp only[ed,kb]at h;exact ag h
   simp only[S3,hb,eQ];exact⟨⟨x,L,E⟩,al⟩
 |_=>exact⟨⟨x,L,E⟩,al⟩
theorem Rel.Tu(R:Rel P nt n0 w0 π0 U s a w β τ π) {M:Value} {X Y:Operand} (ht:P.underlying t=some (.slice e)) (hi:P.info? e=some i) (hz:i.zero=some M) (O:(0<i.size&&M.cells.size==i.size&&0<i.bytes)=true) (hx:cq X=some (.k .bV)) (hy:cq Y=some y) (ao:¬U id) (ty:TypeId) {X':AV->S->Prop} (h:gi (Pure P) id (.apn e i.size i.bytes y) K X' s):
  ∃v u s' w' β' π',(Builtin.append_ #[t,t] ty #[a.eval X,a.eval Y]).run P w=.ok u w'/\RV β' τ w' π' v u/\v.gS (fu U id)/\K v s'/\Rel P nt n0 w0 π0 (fu U id) s' a w' β' τ π':=by
 simp only[ed,gc,kb]at O;obtain⟨⟨au,a2⟩,am⟩:=O;simp only[gi]at h;obtain⟨b,hb,h⟩:=ah h;obtain⟨D,E,⟨L,hbytes⟩,Z,hK⟩:=ah h
 have ak:a.eval X=.slice none 0 0:=by
  have:=(R.bX hx (show Eng.bX s (.k .bV)=some (.dat .bV none)from rfl)).1.1
  generalize a.eval X=v at this;cases this;rfl
 have V:=R.aM hy hb
 simp only[F9,lj,ed,kb]at Z
 have an:∀r∈D,r.length=i.size:=λr hr=>(Z r hr).1
 have ab:0<D.length:=List.length_pos_iff.2 L
 obtain⟨A,c,al,news,hl,hcell,ar,aa,ac⟩:∃(A:Addr) (c:Nat),a.eval Y=.slice (some A) D.length c/\∃news:List Value,news.length=D.length*i.size/\(∀j u,news[j]? =some u->w.cell? (A.add j)=some u)/\(∀u∈news,u.oneCell'=true)/\jn w π D.flatten news/\∀r∈D,∀x∈r,x.scalar=true:=by
  cases b<;>simp only[rowsOf]at E<;>try(cases E;done)
  ·cases E;exact absurd rfl L
  ·cases E
   generalize a.eval Y=v at V
   cases V with
   |NO A=>exact absurd rfl L
   |sl _ B off cap z f h1 h2 h3 h4 h5 h6=>
    obtain⟨_,hn⟩:=DV.news (.sl D B off cap z f h1 h2 h3 h4 h5 h6) an
    exact⟨⟨B,off,none⟩,cap,rfl,hn⟩
 have ad:D.length<=maxLen:=by
  have:=GT D.length am
  simp only[maxLen];omega
 have ae:=run_append_nil (P:=P) w t ty e i M ht hi hz A D.length c news hl hcell ab (by simp only[maxLen]at ad;omega) ST
 have R':=R.draw.K5 ao (cells:=D.flatten) (cs:=news.toArray++Builtin.zeroCells M.cells (grownCap w D.length 0 e-D.length)) e (by
   have:(news.toArray++Builtin.zeroCells M.cells (grownCap w D.length 0 e-D.length)).toList.take D.flatten.length=news:=by
    simp only[Array.toList_append];exact If aa.1.symm
   rw[this]
   exact jn.mono (w:=w) (w':=w.drew) (π:=π) (λ_ _ h=>h) (λ_ _ _=>rfl) aa) (λx hx=>by
   obtain⟨r,hr,ag⟩:=H1.1 hx
   exact ac r hr x ag)
 refine⟨.vs id 0 D.length i.size,_,_,_,_,_,by rw[ak,al];exact ae,?_,.inr rfl,hK,R'⟩
 refine⟨grownCap w D.length 0 e,grownCap_ge w D.length 0 e,?_⟩;rw[cj];rfl
theorem Rel.Tv(R:Rel P nt n0 w0 π0 U s a w β τ π) (ao:¬U id) {rows:List (List AV)} {e z:Nat} (L:Below w.heap.size w w') (hd:DV w' π' (.sl rows) v) (ag:Hl P w' π' (λB=>w.heap.size<=B) e v) (hf:F9 z rows=true):
  ∃β',Rel P nt n0 w0 π0 (fu U id) {s with boxes:=(id,⟨rows.flatten,[]⟩)::s.boxes} a w' β' τ π/\RV β' τ w' π (.vs id 0 rows.length z) v:=by
 simp only[F9,lj,ed,kb]at hf
 rcases ag with rfl|⟨B,len,cap,A,i,rfl,hB,hh,am,ar,hi,au,hfree⟩
 ·cases hd
 obtain⟨ad,news,hl,hcell,_,O,an⟩:=DV.news hd (λr V=>(hf r V).1)
 subst ad
 have E:∀(j:Nat) (u:Value),news[j]? =some u->A[j]? =some u:=by
  intro j u Z
  have:=hcell j u Z
  rw[iP,la,ul w' B j A e (0,0) hh]at this;exact this
 have ae:∀b o,π b o->b<w'.heap.size:=λb o h=>nm (R.gj b o h) L.size
 have al:tC (λ_=>undef) w' π B ⟨rows.flatten,[]⟩:=by
  refine⟨A,e,hh,⟨?_,λj x u D Z=>?_⟩,λx D=>?_,λo q hq=>by simp[fq]at hq,λo ho=>by have:=R.gj _ _ ho;omega⟩
  ·have a2:news.length<=A.size:=by
    rcases kn A.size news.length with h|h
    ·exfalso
     have:=E A.size news[A.size] (dT h)
     rw[yk (ia _)]at this;cases this
    ·exact h
   simp only[B0,Array.length_toList,O.1];omega
  ·have hj:j<rows.flatten.length:=by
    rcases kn j rows.flatten.length with h|h
    ·exact h
    ·simp only[]at D;rw[ip h]at D;cases D
   simp only[]at D Z;rw[p5 hj]at Z
   have aa:j<news.length:=by rw[<-O.1];exact hj
   have ac:=E j news[j] (dT aa)
   have:u=news[j]:=by
    have h2:A[j]? =some u:=by simpa using Z
    rw[h2]at ac;exact(tz ac)
   subst this
   have ak:=O.2 j x _ D (dT aa)
   have ab:jN x=true:=by
    obtain⟨r,V,M⟩:=H1.1 (em D)
    exact(hf r V).2 x M
   rw[I7 ak ab];exact DV.jN ab
  ·obtain⟨r,V,M⟩:=H1.1 D
   exact an r V x M
 refine⟨FP β id B,R.MK ao hB L (λ_ _ h=>h) (λ_ _ h=>.inl h) ae al,cap,?_,?_⟩
 ·cases hd<;>first|exact am|omega
 ·rw[cj]
theorem Tw{e z b:Nat} (h:wD P c=some (.app e z b (.k .bV) y)):∃t M L i B,c.callee=.builtin .append/\c.argTypes.toList=[t,t]/\c.args.toList=[M,L]/\P.underlying t=some (.slice e)/\cq M=some (.k .bV)/\cq L=some y/\
  P.info? e=some i/\i.zero=some B/\(0<i.size&&B.cells.size==i.size&&0<i.bytes)=true/\i.size=z/\i.bytes=b:=by
 obtain⟨callee,args,argTypes⟩:=c;unfold wD at h;split at h
 ·split at h
  ·simp only[eg]at h
   obtain⟨_,_,h⟩:=h
   split at h<;>cases h
  ·split at h<;>try(cases h;done)
   simp only[eg]at h;obtain⟨_,_,h⟩:=h;cases h
 ·split at h<;>try(cases h;done)
  simp only[fo]at h
  split at h<;>cases h
 ·split at h<;>try(cases h;done)
  split at h<;>try(cases h;done)
  simp only[eg]at h;obtain⟨_,_,h⟩:=h;cases h
 ·rename_i A
  split at h<;>try(cases h;done)
  rename_i t t' x y' hT hX
  split at h<;>try(cases h;done)
  rename_i E;subst E
  split at h<;>try(cases h;done)
  rename_i e' x' aa V hx O
  split at h<;>try(cases h;done)
  rename_i i Z
  split at h<;>try(cases h;done)
  rename_i B R
  split at h<;>try(cases h;done)
  rename_i D;cases h;exact⟨_,_,_,i,B,A,hT,hX,V,hx,O,Z,R,D,rfl,rfl⟩
 ·simp only[eg]at h
  obtain⟨_,_,h⟩:=h;cases h
 ·simp only[eg]at h
  obtain⟨_,_,h⟩:=h;cases h
 ·cases h
theorem Lf(R:Rel P nt n0 w0 π0 U s a w β τ π) {c:IK} (ad:¬U id) (E:S4 P o.op=some c) (h:gi (Pure P) id c K X s) (hn:∀v s' x w' β' τ' π',K v s'->RV β' τ' w' π' v x->v.gS (fu U id)->Rel P nt n0 w0 π0 (fu U id) s' a w' β' τ' π'->next (a.put o.dst x) w') (hx:∀p s' w' β' τ' π',X p s'->Rel P nt n0 w0 π0 (fu U id) s' a w' β' τ' π'->Q (.panic (j7 p)) a w'):o.wp P a w next Q:=by
 obtain⟨dst,op,D,pos,after,guard⟩:=o;simp only at E
 have be:∀n,U n->fu U id n:=λn h=>.inl h
 have fin:∀{v:SV} {y:Value},(execOp a.eval ⟨dst,op,D,pos,after,guard⟩).run P w=.ok (.value y) w->RV β τ w π v y->v.gS U->K v s->Oper.wp P ⟨dst,op,D,pos,after,guard⟩ a w next Q:=by
  intro v y L hv hu hK;unfold Oper.wp;rw[L];exact hn v s y w β τ π hK hv (SV.nN be hu) (R.sub be)
 have ak:∀{v:AV} {y:Value},(execOp a.eval ⟨dst,op,D,pos,after,guard⟩).run P w=.ok (.value y) w->DV w π v y->K (.dat v none) s->Oper.wp P ⟨dst,op,D,pos,after,guard⟩ a w next Q:=
  λ{v y} L hv hK=>fin (v:=.dat v none) L ⟨hv,λt ht=>by cases ht⟩ trivial hK
 -- a function is entered that raises
 have raise:∀{f:Nat} {ids:List Nat} {css Z:List (List AV)} {aa:List (Option AV)} {vs:List Value} {p:AV},Wh P f css aa p Z->ids.Nodup->bh s.boxes ids=some css->gh w π aa (ids.map β) vs->
   (execOp a.eval ⟨dst,op,D,pos,after,guard⟩).run P w=.ok (.enter f vs.toArray) w->X p {s with boxes:=eG ids Z s.boxes}->Oper.wp P ⟨dst,op,D,pos,after,guard⟩ a w next Q:=by
  intro f ids css Z aa vs p hq ag M ab L hX;obtain⟨a4,a8,_,hq⟩:=hq;unfold Oper.wp;rw[L,t0];refine(hq w π (ids.map β) vs R.gj (R.nodup ag M) (R.rE M) ab).mono ?_
  rintro e w' ⟨π',rfl,V,an,am,al,au⟩
  obtain⟨τ',_,R'⟩:=R.y9 (fr:=none) ad ag M a8 V an am al au DV.oI (λt ht=>by cases ht)
  exact hx _ _ _ _ _ _ hX R'
 -- a function is entered that takes a token,or leaves one
 have cy:∀{f:Nat} {ids:List Nat} {css:List (List AV)} {aa:List (Option AV)} {vs:List Value},Mq (Pure P) f css aa ids id s.boxes s.live (λv bx lv=>K v {s with boxes:=bx,live:=lv})->ids.Nodup->bh s.boxes ids=some css->gh w π aa (ids.map β) vs->
   (dB P f=true->(execOp a.eval ⟨dst,op,D,pos,after,guard⟩).run P w=.ok (.enter f vs.toArray) w)->Oper.wp P ⟨dst,op,D,pos,after,guard⟩ a w next Q:=by
  intro f ids css aa vs hT ag M ab L;obtain⟨tg,r,Z,dx,hp,hT⟩:=hT;obtain⟨qo,dl,hK⟩:=ah hT
  have hp:Wi P f css tg aa r Z dx:=hp
  obtain⟨a4,a8,_,hp⟩:=hp;obtain⟨tv,du,dk⟩:=R.NP M dl;unfold Oper.wp;rw[L a4,t0];refine(hp w π (ids.map β) vs tv R.gj (R.nodup ag M) (R.rE M) ab du).mono ?_
  rintro e w' ⟨v,π',d5,rfl,V,an,am,al,ct,au,a9,ba⟩
  obtain⟨τ',a7,R'⟩:=R.Ti ad ag M a8 dk V an am al ct au a9 ba;exact hn _ _ _ _ _ _ _ hK a7 trivial R'
 cases op<;>simp only[S4]at E<;>try(cases E;done)
 case binOp op t x y yt=>
  unfold aah at E
  split at E<;>try(cases E;done)
  all_goals
   split at E<;>try(cases E;done)
   rename_i hs;simp only[eg]at E;obtain⟨x',O,rfl⟩:=E;simp only[gi]at h;obtain⟨av,ac,h⟩:=ah h;obtain⟨b,hb,hK⟩:=ah h
  ·have L:=MI (P:=P) (X:=x) (.inl ⟨rfl,rfl⟩) hs hb (R.aM O ac)
   exact ak (by simp only[execOp];rw[fi];refine(ne (λr=>Result.andThen r _) L).trans ?_;rfl) (.bool _) hK
  ·have L:=MI (P:=P) (X:=x) (.inr ⟨rfl,rfl⟩) hs hb (R.aM O ac)
   exact ak (by simp only[execOp];rw[fi];refine(ne (λr=>Result.andThen r _) L).trans ?_;rfl) (.bool _) hK
  ·have L:=MJ (P:=P) (X:=x) (.inl ⟨rfl,rfl⟩) hs hb (R.bX O ac).1
   exact ak (by simp only[execOp];rw[fi];refine(ne (λr=>Result.andThen r _) L).trans ?_;rfl) (.bool _) hK
  ·have L:=MJ (P:=P) (X:=x) (.inr ⟨rfl,rfl⟩) hs hb (R.bX O ac).1
   exact ak (by simp only[execOp];rw[fi];refine(ne (λr=>Result.andThen r _) L).trans ?_;rfl) (.bool _) hK
 case makeSlice t l c=>
  split at E<;>try(cases E;done)
  rename_i e l' c' ht hl a6
  split at E<;>try(cases E;done)
  rename_i i hi
  split at E<;>try(cases E;done)
  rename_i ar;cases E;simp only[ed,kb,gc,Pl]at ar;obtain⟨⟨hz,zv,c6⟩,d3⟩:=ar;simp only[gi]at h;obtain⟨av,ac,h⟩:=ah h;obtain⟨li,dp,h⟩:=ah h;obtain⟨bv,dj,h⟩:=ah h;obtain⟨ci,df,hb,hK⟩:=ah h;obtain⟨kl,dq⟩:=R.idx hl ac dp
  obtain⟨kc,da⟩:=R.idx a6 dj df;obtain⟨b0,b1,b2⟩:=hb
  have b3:ci<=140737488355328:=by
   have:ci*1<=ci*(i.bytes:Int):=Int.mul_le_mul_of_nonneg_left ST ST
   omega
  have L:=run_make (P:=P) w t e i zv ht hi c6 kl kc li ci b0 b1 (by rw[Int.mul_comm];omega) ST
  have c5:(execOp a.eval ⟨dst,.makeSlice t l c,D,pos,after,guard⟩).run P w=.ok (.value (.slice (some ⟨w.heap.size,0,none⟩) li.toNat ci.toNat)) (w.alloc (.cells (madeCells zv.cells (ci.toNat*i.size)) e)):=by
   simp only[execOp,dq,da,fi,L,e9,iv]
  unfold Oper.wp;rw[c5]
  exact hn _ _ _ _ _ _ _ hK (show RV β _ _ π (.raw id li.toNat) _ from⟨w.heap.size,ci.toNat,cj ..,rfl,ST⟩) (.inr rfl) (R.made ad hi hz (by simp only[maxLen];omega) (by rw[size_madeCells,hz,pb]))
 case makeInterface t x=>
  split at E<;>try(cases E;done)
  rename_i a5;simp only[eg]at E;obtain⟨x',O,rfl⟩:=E;simp only[gi]at h;obtain⟨av,ac,d4,hK⟩:=ah h;simp only[mi,not_or,xi]at a5
  cases hu:P.underlying t with
  |none=>rw[hu]at a5;simp at a5
  |some d=>
   have d0:(underlying t).run P w=.ok d w:=ko hu
   have hd:∀ms,d≠.interface ms:=λms e=>by subst e;simp[rD,hu]at a5
   refine ak (y:=.iface t (a.eval x)) ?_ (.iface t av _ (R.aM O ac)) hK
   have:(Instr.makeInterface t (a.eval x)).run P w=.ok (.iface t (a.eval x)) w:=by
    unfold Instr.makeInterface;simp only[fi,d0,e9]
    cases d<;>first|exact absurd rfl (hd _)|rfl
   simp only[execOp,fi,this,e9,iv]
 case makeFunc fn first caps=>
  cases fn<;>simp only[]at E<;>try(cases E;done)
  rename_i f
  split at E<;>try(cases E;done)
  rename_i ar;simp only[ed]at ar;simp only[eg]at E;obtain⟨xs,ae,rfl⟩:=E;simp only[gi]at h;obtain⟨⟨aa,ids⟩,ao,hK⟩:=ah h
  have hf:first=#[]:=by simpa[Array.isEmpty_iff]using ar.1.1
  subst hf
  have d2:=(R.eV (by simpa[gV]using ae) ao).1
  have L:(execOp a.eval ⟨dst,.makeFunc (.func f) #[] caps,D,pos,after,guard⟩).run P w=.ok (.value (.func (.func f) #[] (caps.map a.eval))) w:=by simp[execOp,Instr.makeFunc]
  refine fin L (v:=.wz f aa ids) ⟨caps.map a.eval,rfl,by simpa using d2⟩ (λb hb=>?_) hK
  obtain⟨t,_,v,hl,hv⟩:=js ao b hb;exact SV.Gi hv (R.slots t _ hl).2
 case typeAssert x xt t ok=>
  cases ok<;>simp only[]at E<;>try(cases E;done)
  split at E<;>try(cases E;done)
  rename_i a5
  split at E<;>try(cases E;done)
  rename_i z x' hz O;cases E;simp only[gi]at h;obtain⟨av,ac,h⟩:=ah h;obtain⟨v,hv,hK⟩:=ah h
  obtain⟨u,hu,hd⟩:=Tt (P:=P) (xt:=xt) hz (by simpa only[xi]using a5) hv (R.aM O ac)
  exact ak (by simp only[execOp,fi,hu,e9,iv]) hd hK
 case panic x=>
  simp only[eg]at E;obtain⟨x',O,rfl⟩:=E;simp only[gi]at h;obtain⟨av,ac,ca,hX⟩:=ah h
  have hd:=R.aM O ac
  cases av<;>simp only[DA]at ca<;>try(cases ca;done)
  rename_i t b
  have he:a.eval x=.iface t (yS b):=by
   generalize a.eval x=u at hd
   cases hd with
   |iface _ _ v hd=>rw[Tq hd ca]
  unfold Oper.wp
  have L:(execOp a.eval ⟨dst,.panic x,D,pos,after,guard⟩).run P w=.halt (.panic (.iface t (yS b))) w:=by
   simp[execOp,he,Instr.panic,goPanic]
  rw[L];exact hx _ _ _ _ _ _ hX (R.sub be)
 case call cl=>
  split at E
  ·rename_i y hy
   cases E;unfold WV at hy
   split at hy<;>try(cases hy;done)
   rename_i e z b y' a6;cases hy;obtain⟨t,Xo,Yo,i,zv,b7,hT,hX,ht,O,co,hi,hz,cb,rfl,rfl⟩:=Tw a6;obtain⟨callee,args,argTypes⟩:=cl;obtain⟨v,u,s',w',β',π',L,hv,hu,hK,R'⟩:=R.Tu ht hi hz cb O co ad D h
   have eT:argTypes=#[t,t]:=ll.1 (by simpa using hT)
   have eX:args=#[Xo,Yo]:=ll.1 (by simpa using hX)
   simp only at b7;subst eT eX b7;unfold Oper.wp
   have:(execOp a.eval ⟨dst,.call ⟨.builtin .append,#[Xo,Yo],#[t,t]⟩,D,pos,after,guard⟩).run P w=.ok (.value u) w':=by
    simp[execOp,resolve,invoke,builtin,L]
   rw[this];exact hn v s' u w' β' τ π' hK hv hu R'
  rename_i dd;clear dd;obtain⟨callee,args,argTypes⟩:=cl
  have eb:=E
  have e1:(args.toList.map a.eval).toArray=args.map a.eval:=ll.1 TB
  simp only[PD]at E
  split at E<;>try(cases E;done)
  ·rename_i f
   split at E<;>try(cases E;done)
   rename_i bj;simp only[eg]at E;obtain⟨xs,ae,ck⟩:=E
   have a6:=PZ (P:=P) (c:=⟨.value (.func f),args,argTypes⟩) rfl bj
   have L:(execOp a.eval ⟨dst,.call ⟨.value (.func f),args,argTypes⟩,D,pos,after,guard⟩).run P w=.ok (.enter f (args.toList.map a.eval).toArray) w:=by
    rw[e1];simp[execOp,resolve,Act.eval,Deferred.ofValue,invoke,gK bj]
   split at ck
   ·rename_i hp
    subst ck;simp only[gi]at h
    rcases h with h|h
    ·exact vR R ad (by simp only[SQ];rw[a6,et hp];simp[ae]) h hn
    ·obtain⟨⟨aa,ids⟩,ao,ag,h⟩:=ah h
     obtain⟨css,M,h⟩:=ah h
     rcases h with⟨p,Z,hq,hX⟩|hT
     ·exact raise hq (gp ag) M (R.eV (by simpa[gV]using ae) ao).1 L hX
     ·exact cy hT (gp ag) M (R.eV (by simpa[gV]using ae) ao).1 λ_=>L
   ·rename_i hp
    subst ck;simp only[gi]at h
    rcases h with h|h
    ·exact vR R ad (by simp only[SQ];rw[a6,ek hp];simp[ae]) h hn
    ·obtain⟨as,has,h⟩:=ah h
     have hd:=R.eS (by simpa[gV]using ae) has
     rcases h with⟨cs,b8,hK⟩|⟨p,hq,hX⟩|⟨rows,e,z,cp,db,hK⟩
     rotate_right
     ·obtain⟨_,cp⟩:=cp
      unfold Oper.wp;rw[L,t0];refine(cp w π _ R.gj hd).mono ?_
      rintro e' w' ⟨v,π',rfl,V,an,am,al,a9,ba⟩
      obtain⟨β',R',a7⟩:=R.Tv ad V a9 (ba e rfl) db
      exact hn _ _ _ _ _ _ _ hK a7 (.inr rfl) R'
     ·obtain⟨_,b8⟩:=b8
      unfold Oper.wp;rw[L,t0];refine(b8 w π _ R.gj hd).mono ?_
      rintro e w' ⟨B,π',rfl,hB,V,an,am,al,au⟩
      have R':=R.MK ad hB V an am al au
      exact hn _ _ _ _ _ _ _ hK (show RV (FP β id B) τ _ π' (.ptr id 0) _ by simp[RV,cj]) (.inr rfl) R'
     ·exact raise (ids:=[]) (css:=[]) hq List.nodup_nil rfl (DZ hd) L hX
  ·rename_i g
   simp only[eg]at E;obtain⟨xs,ae,rfl⟩:=E;simp only[gi]at h
   have cx:cq (.tmp g)=some (.t g):=rfl
   have old:bS (Pure P) id (if rC P argTypes.toList then .gU (.t g) xs else .kN (.t g) xs) K s->Oper.wp P ⟨dst,.call ⟨.value (.tmp g),args,argTypes⟩,D,pos,after,guard⟩ a w next Q:=λh=>
    vR R ad (by simp only[SQ,wD,cx,ae]) h hn
   split at h
   ·rename_i f as bs hl
    obtain⟨⟨us,he,bd⟩,_⟩:=R.bX cx hl;obtain⟨⟨aa,ids⟩,ao,ag,h⟩:=ah h;obtain⟨css,M,h⟩:=ah h
    have a2:=gp ag
    have ab:=vV (R.eV (by simpa[gV]using ae) ao).1 bd
    rw[<-my]at ab
    have L:dB P f=true->(execOp a.eval ⟨dst,.call ⟨.value (.tmp g),args,argTypes⟩,D,pos,after,guard⟩).run P w=.ok (.enter f (args.toList.map a.eval++us.toList).toArray) w:=λa4=>by
     have e2:(args.toList.map a.eval++us.toList).toArray=args.map a.eval++us:=ll.1 TB
     rw[e2];simp[execOp,resolve,he,Deferred.ofValue,invoke,gK a4]
    rcases h with⟨r,fr,Z,hp,hK⟩|⟨p,Z,hq,hX⟩|hT
    ·have hp:DH P f css (aa++as) r fr Z:=hp
     obtain⟨a4,a8,_,hp⟩:=hp;unfold Oper.wp;rw[L a4,t0];refine(hp w π ((ids++bs).map β) _ R.gj (R.nodup a2 M) (R.rE M) ab).mono ?_
     rintro e w' ⟨v,π',rfl,V,an,am,al,au,a9,ba⟩
     obtain⟨τ',a7,R'⟩:=R.y9 ad a2 M a8 V an am al au a9 ba
     exact hn _ _ _ _ _ _ _ hK a7 (by cases fr with|none=>trivial|some e=>exact .inr rfl) R'
    ·exact raise hq a2 M ab (L hq.1) hX
    ·exact cy hT a2 M ab L
   ·exact old h
  ·split at E<;>try(cases E;done)
   rename_i t t' x y hT hX
   split at E<;>try(cases E;done)
   rename_i e x' y' ht O co
   split at E<;>try(cases E;done)
   rename_i cb;cases E;simp only[gi]at h;obtain⟨p,hp,h⟩:=ah h
   cases p<;>try(exact h.elim)
   rename_i q n;obtain⟨b,hb,h⟩:=ah h;obtain⟨ys,ch,⟨dt,cu⟩,bm,hK⟩:=ah h;obtain⟨⟨B,cap,hτ,hv,bd⟩,ea⟩:=R.bX O hp
   have a3:(P.info? e).map (·.size)=some 1:=by simpa[gq]using cb
   obtain⟨i,hi,hz⟩:∃i,P.info? e=some i/\i.size=1:=by
    cases hq:P.info? e with
    |none=>simp[hq]at a3
    |some i=>exact⟨i,rfl,by simpa[hq]using a3⟩
   obtain⟨_,c1⟩:=R.live q e bm
   rcases c1 with b6|⟨B',len,d1,bo,i',cg,ar,hh,_,di,cv,bi,hfree⟩
   ·rw[hτ]at b6;cases b6
   rw[hτ]at cg;simp only[Value.slice.injEq,fo,Addr.mk.injEq]at cg;obtain⟨⟨rfl,_⟩,rfl,rfl⟩:=cg
   have dy:i'=i:=by rw[hi]at cv;exact(tz cv).symm
   subst dy;rw[hz,pb]at bi;subst dt
   have b4:=R.aM co hb
   have b5:∀o,¬π B o:=λo=>hfree o ST
   have eT:argTypes=#[t,t']:=ll.1 (by simpa using hT)
   have eX:args=#[x,y]:=ll.1 (by simpa using hX)
   subst eT eX
   have go:∀(cs:List Value) (w':World),jn w π ys.flatten cs->(∀r∈ys,∀x∈r,x.scalar=true)->w'=w.setRow B (bo.toList.take 0++cs++bo.toList.drop (0+cs.length)).toArray->
     (Builtin.copy_ #[t,t'] D #[a.eval x,a.eval y]).run P w=.ok (goInt ys.length) w'->Oper.wp P ⟨dst,.call ⟨.builtin .copy,#[x,y],#[t,t']⟩,D,pos,after,guard⟩ a w next Q:=by
    intro cs w' hd ce hw c2;obtain⟨τ',π',R'⟩:=R.copied ad hi hz bm hτ bd hh ar di bi b5 cu hd ce
    have L:(execOp a.eval ⟨dst,.call ⟨.builtin .copy,#[x,y],#[t,t']⟩,D,pos,after,guard⟩).run P w=.ok (.value (goInt ys.length)) w':=by
     simp[execOp,resolve,invoke,builtin,c2]
    unfold Oper.wp;rw[L];subst hw
    exact hn (.dat (.int .i64 ys.length) none) _ _ _ _ _ _ hK ⟨.int .i64 _,λt ht=>by cases ht⟩ trivial R'
   cases b<;>simp only[rowsOf,fo,reduceCtorEq]at ch
   ·subst ch
    generalize cr:a.eval y=vy at b4;cases b4
    refine go [] w ⟨rfl,λi a v h=>by simp at h⟩ TB ?_ ?_
    ·have:=setRow_self w B bo e (0,0) hh
     simpa using this.symm
    ·rw[hv,cr]
     exact run_copy_nil (P:=P) w t t' D e _ _ _ ht (by rw[a3];rfl)
   ·rename_i l
    subst ch;generalize cr:a.eval y=vy at b4
    have row:∀(A:Addr) (m c:Nat) (cs:List Value),vy=.slice (some A) m c->m=l.length->cs.length=m->(∀j u,cs[j]? =some u->w.cell? (A.add j)=some u)->(∀u∈cs,u.oneCell'=true)->jn w π l.flatten cs->(∀r∈l,∀x∈r,x.scalar=true)->
      Oper.wp P ⟨dst,.call ⟨.builtin .copy,#[x,y],#[t,t']⟩,D,pos,after,guard⟩ a w next Q:=by
     intro A m c cs e1 e2 e3 c4 dn hd ce;refine go cs _ hd ce rfl ?_;rw[hv,cr,e1]
     have:=run_copy_row (P:=P) w t t' D e B 0 l.length cap A m c bo e cs ht a3 hh (by rw[e3,e2];exact(Nat.min_self _).symm) c4 (by rw[bi];omega) dn
     rw[this,e3,e2]
    cases b4 with
    |NO A=>exact row A 0 0 [] rfl rfl rfl (λj u h=>by simp at h) TB ⟨rfl,λi a v h=>by simp at h⟩ TB
    |sl _ B2 c0 c3 z2 f2 g1 g2 g3 g4 g5 g6=>
     obtain⟨hm,news,k1,k2,k3,k4,k5⟩:=DV.news (DV.sl l B2 c0 c3 z2 f2 g1 g2 g3 g4 g5 g6) cu
     exact row _ _ _ news rfl rfl (by rw[k1,pb]) k2 k3 k4 k5
theorem D0(R:Rel P nt n0 w0 π0 U s a w β τ π):∀{Xs:List Operand} {xs:List bC} {ps:List (Nat×Nat)},Xs.mapM cq=some xs->IP s xs=some ps->
  Xs.map a.eval=(ps.map λp=>Value.pointer (some ⟨β p.1,p.2,none⟩))/\∀p∈ps,U p.1
 |[],xs,ps,B,A=>by
  simp at B;subst B;simp[IP]at A;subst A
  exact⟨rfl,TB⟩
 |X::Xs,xs,ps,B,A=>by
  simp only[tp,pC,jp,vx,fo]at B;obtain⟨x,B,aa,E,rfl⟩:=B;simp only[IP]at A
  split at A<;>try(cases A;done)
  rename_i b o ab V M;cases A;obtain⟨h3,O⟩:=D0 R E M;obtain⟨Z,L⟩:=R.bX B V
  refine⟨by simp only[md,h3];exact ne (· ::_) Z,λp D=>?_⟩
  rcases mp.1 D with rfl|D
  ·exact L
  ·exact O p D
theorem Rel.hold(R:Rel P nt n0 w0 π0 U s a w β τ π) (e:TypeId) {ps:List (Nat×Nat)} (D:∀(i:Nat) (p:Nat×Nat),ps[i]? =some p->cs[i]? =some (.pointer (some ⟨β p.1,p.2,none⟩))):
  ∃π',Rel P nt n0 w0 π0 U s a (w.alloc (.cells cs e)) β τ π'/\∀(i:Nat) (p:Nat×Nat),ps[i]? =some p->π' w.heap.size (0+i)/\(w.alloc (.cells cs e)).cell? ⟨w.heap.size,0+i,none⟩=some (.pointer (some ⟨β p.1,p.2,none⟩)):=by
 have A:Below w.heap.size w (w.alloc (.cells cs e)):=(Below.refl _ _).alloc (ia _) _
 refine⟨λB o=>π B o\/(B=w.heap.size/\o<cs.size),R.frame (λ_ _=>rfl) (λ_ _=>rfl) (λ_ h=>h) (λ_ _ h=>.inl h) (λb o h=>?_) (λb o h=>?_) A,λi p E=>?_⟩
 ·rcases h with h|⟨rfl,_⟩
  ·exact .inl h
  ·exact .inr (ia _)
 ·rcases h with h|⟨rfl,_⟩
  ·have:=R.gj b o h;simp;omega
  ·simp
 ·have h:=D i p E
  have L:i<cs.size:=(j9.1 h).1
  rw[la]
  exact⟨.inr ⟨rfl,L⟩,by rw[ul _ _ i cs e (0,0) (Hn w _)];simpa using h⟩
theorem Gl:∀(l:List (Nat×Value)) (k:Nat) (us:Array Value),l.map (·.1)=(List.range l.length).map (· +k)->(∀p∈l,p.2.cells.toList=[p.2])->us.size=k+l.length->
  ∃A,Instr.fill (λi=>some (i*1,1)) us l=some A/\A.toList=us.toList.take k++l.map (·.2)
 |[],k,us,_,_,L=>⟨us,rfl,by simp at L⊢;rw[l4 (by simp;omega)]⟩
 |(i,v)::l,k,us,Z,V,L=>by
  have hi:i=k:=by
   have:=ne (λl=>l[0]?) Z
   simpa using this
  subst hi
  have R:l.map (·.1)=(List.range l.length).map (· +(i+1)):=by
   have B:=ne List.tail Z
   simp only[md,List.tail_cons,eW,List.range_succ_eq_map,List.map_map]at B;rw[B]
   apply sh
   intro q _;simp;omega
  have E:=V (i,v) TB
  simp only at E
  have D:v.cells.size=1:=by have:=ne List.length E;simpa using this
  simp only[eW]at L
  obtain⟨O,he,M,aa⟩:=vP (place:=λi=>some (i*1,1)) (cells:=us) (i:=i) (off:=i*1) (v:=v) (rest:=l) (by rw[D]) (by rw[D];omega)
  obtain⟨A,hf,hd⟩:=Gl l (i+1) O R (λp hp=>V p (kp _ hp)) ST
  refine⟨A,by rw[he];exact hf,?_⟩
  have e:(us.toList.take i++[v]++us.toList.drop (i+[v].length)).take (i+1)=us.toList.take i++[v]:=If (by simp;omega)
  rw[hd,M,E,pb,e];simp
theorem Gm{b:Nat} {x:dH}:∀{l:List (Nat×dH)},mH b (pn b x l)=mH b l
 |[]=>rfl
 |(m,v)::r=>by
  simp only[pn,mH,ki];split
  ·rename_i e;subst e;simp[mH]
  ·rename_i e
   have:(b==m)=false:=by simpa using e
   simp[mH,this,Gm (l:=r)]
theorem I8{b:Nat} {ps:List (Nat×Nat)}:∀{l:List (Nat×SV)} {t:Nat},lk t (F8 b ps l)=(lk t l).map (Pu b ps)
 |[],t=>rfl
 |(m,u)::r,t=>by
  simp only[F8,lk,ki];split
  ·rfl
  ·exact I8
theorem Rel.Tx(R:Rel P nt n0 w0 π0 U s a w β τ π) {b:Nat} {x:dH} (hb:dh b s.boxes=some x) (h4:4<=b) {p:Nat×Nat} (hU:U p.1) (hcell:w.cell? ⟨β b,0,none⟩=some (.pointer (some ⟨β p.1,p.2,none⟩))):
  ∃π':Nat->Nat->Prop,Rel P nt n0 w0 π0 U {s with slots:=F8 b [p] s.slots,boxes:=mH b s.boxes} a w β τ π':=by
 obtain⟨ad,V,ab,ac⟩:=R.boxes b x hb
 have aa:=R.lD hb
 have O:n0.n<=β b:=by rcases V with h|h;exact h;exact absurd h.1 ST
 have hp:∀B o,π B o->(λB o=>π B o\/(B=β b/\o<1)) B o:=λ_ _ h=>.inl h
 have A:∀c y,dh c (mH b s.boxes)=some y->c≠b/\dh c s.boxes=some y:=λc y h=>by
  rw[nQ]at h;split at h
  ·cases h
  ·rename_i E;exact⟨E,h⟩
 refine⟨λB o=>π B o\/(B=β b/\o<1),R.size,λt v h=>?_,λc y h=>?_,λc c' y y' h h' e=>R.inj c c' y y' (A c y h).2 (A c' y' h').2 e,λq e h=>?_,R.dm,λq e c y h h' hB=>R.dG q e c y h (A c y h').2 hB,R.below,R.gI,λB o h=>?_,λB o h=>.inl (R.gu B o h),λB o h=>?_,R.nL,R.jP,R.kept⟩
 ·simp only[I8,eg]at h
  obtain⟨u,hu,rfl⟩:=h;obtain⟨⟨y,hy,hr⟩,hi⟩:=R.slots t u hu
  have hm:RV β τ w (λB o=>π B o\/(B=β b/\o<1)) u y:=RV.mono (λ_ _=>rfl) (λ_ _=>rfl) hp (λ_ _ _=>rfl) hi hr
  cases u with
  |ptr c o=>
   simp only[Pu]
   by_cases M:c=b
   ·subst M
    simp only[ns,ge]
    have e:y=.pointer (some ⟨β c,o,none⟩):=hr
    subst e
    refine⟨⟨_,hy,.MA λi q L=>?_⟩,λq L=>?_⟩
    ·cases o with
     |zero=>
      cases i with
      |zero=>simp at L;subst L;exact⟨.inr ⟨rfl,ST⟩,hcell⟩
      |succ i=>simp at L
     |succ o=>simp at L
    ·have:=nf L
     simp at this;subst this;exact hU
   ·have Z:(c==b)=false:=by simpa using M
    simp only[Z,eQ];exact⟨⟨y,hy,hm⟩,hi⟩
  |_=>exact⟨⟨y,hy,hm⟩,hi⟩
 ·obtain⟨E,hc⟩:=A c y h
  obtain⟨g1,g2,g3,g4⟩:=R.boxes c y hc
  refine⟨g1,g2,g3.keep (λ_ _=>rfl) g4 rfl hp (λ_ _ _=>rfl) (λo D=>?_),g4⟩
  rcases D with D|⟨D,_⟩
  ·obtain⟨_,_,_,_,_,_,hn⟩:=g3;exact hn o D
  ·exact E (R.inj c b y x hc hb D)
 ·obtain⟨h1,h2⟩:=R.live q e h
  refine⟨h1,h2.keep (λB hB=>rfl) (λB o hB D=>?_)⟩
  rcases D with D|⟨D,_⟩
  ·exact D
  ·exact absurd (D▸hB) (R.dG q e b x h hb)
 ·rcases h with h|⟨rfl,_⟩
  ·exact R.gj B o h
  ·exact aa
 ·rcases h with h|⟨rfl,_⟩
  ·exact R.dW B o h
  ·exact .inr (.inl O)
theorem NY(R:Rel P nt n0 w0 π0 U s a w β τ π) {c:IK} (cp:¬U id) (A:xPt P o.type o.op=some c) (h:gi (Pure P) id c K X s) (hn:∀v s' x w' β' τ' π',K v s'->RV β' τ' w' π' v x->v.gS (fu U id)->Rel P nt n0 w0 π0 (fu U id) s' a w' β' τ' π'->next (a.put o.dst x) w'):o.wp P a w next Q:=by
 obtain⟨dst,op,M,pos,after,guard⟩:=o;simp only at A
 have V:∀n,U n->fu U id n:=λn h=>.inl h
 have fin:∀{v:SV} {y:Value},(execOp a.eval ⟨dst,op,M,pos,after,guard⟩).run P w=.ok (.value y) w->RV β τ w π v y->v.gS U->K v s->Oper.wp P ⟨dst,op,M,pos,after,guard⟩ a w next Q:=by
  intro v y D hv hu hK;unfold Oper.wp;rw[D];exact hn v s y w β τ π hK hv (SV.nN V hu) (R.sub V)
 cases op<;>simp only[xPt]at A<;>try(cases A;done)
 case box t x=>
  split at A<;>try(cases A;done)
  simp only[eg]at A;obtain⟨x',O,rfl⟩:=A;simp only[gi]at h;obtain⟨p,E,h⟩:=ah h;obtain⟨D,hU⟩:=R.bX O E
  cases p<;>try(exact h.elim)
  rename_i k ps
  match k,D,h with
  |0,D,h=>
   have D:a.eval x=.agg (ps.map λp=>Value.pointer (some ⟨β p.1,p.2,none⟩)).toArray:=D
   have L:(execOp a.eval ⟨dst,.box t x,M,pos,after,guard⟩).run P w=.ok (.value (.pointer (some ⟨w.heap.size,0,none⟩))) (w.alloc (.cells (a.eval x).cells t)):=by
    simp[execOp,Instr.box,newVar,Go.newRow]
   obtain⟨π',R',hh⟩:=R.hold t (cs:=(a.eval x).cells) (ps:=ps) (λi p hi=>by rw[D];simp[Value.cells,hi])
   unfold Oper.wp;rw[L]
   exact hn (.pt 2 ps) s _ _ β τ π' h (.MA hh) (λp E=>.inl (hU p E)) (R'.sub V)
  |k+1,_,h=>exact h.elim
 case build t ps=>
  split at A<;>try(cases A;done)
  rename_i Z
  split at A<;>try(cases A;done)
  rename_i z X hz hX;simp only[eg]at A;obtain⟨x',O,rfl⟩:=A;simp only[gi]at h;obtain⟨p,E,h⟩:=ah h;obtain⟨D,hU⟩:=R.bX O E
  cases p<;>try(exact h.elim)
  rename_i b o
  have D:a.eval X=.pointer (some ⟨β b,o,none⟩):=D
  obtain⟨zv,a4,bi,b5⟩:=tV (P:=P) (w:=w) (π:=π) hz
  have a8:zv.cells.size=1:=by have:=bi.1;simpa using this.symm
  unfold K2 at Z
  split at Z<;>try(cases Z;done)
  rename_i fs hu
  split at Z<;>try(cases Z;done)
  rename_i f bd;simp only[ed,kb]at Z
  have hm:=tW (P:=P) (w:=w) fs (λf=>do pure (f.offset,<-sizeOf f.type)) (λf=>(f.offset,(gq P f.type).getD 0)) (by
   intro g hg
   have be:g∈fs.toList:=by simpa using hg
   have:g=f:=by rw[bd]at be;simpa using be
   subst this
   simp[eH (w:=w) Z.2,Z.2])
  have a3:((fs.map λf=>(f.offset,(gq P f.type).getD 0))[0]?)=some (0,1):=by
   have:fs=#[f]:=ll.1 (by simpa using bd)
   subst this;simp[Z.1.2,Z.2]
  obtain⟨cr,he,b6,c5⟩:=vP (place:=((fs.map λf=>(f.offset,(gq P f.type).getD 0))[·]?)) (cells:=zv.cells) (i:=0) (off:=0) (v:=a.eval X) (rest:=[]) (by rw[D];exact a3) (by rw[D,a8];simp[Value.cells])
  have ac:cr=#[a.eval X]:=by
   apply ll.1
   have ec:(Value.pointer (some ⟨β b,o,none⟩)).cells.toList=[Value.pointer (some ⟨β b,o,none⟩)]:=rfl
   rw[b6,D,ec,yi (by simp[a8])]
   simp
  refine fin (v:=.pt 0 [(b,o)]) (y:=.agg #[a.eval X]) ?_ (by rw[D];rfl) (λp E=>by simp at E;subst E;exact hU) h
  have cx:ps.toList=[(0,X)]:=hX
  have:(ps.map λ(i,x)=>(i,a.eval x)).toList=[(0,a.eval X)]:=by simp[cx]
  have hb:(Instr.build t (ps.map λ(i,x)=>(i,a.eval x))).run P w=.ok (.agg #[a.eval X]) w:=by
   simp only[Instr.build,fi,a4,e9,ii hu,hm];rw[this,he];simp[Instr.fill,ac]
  simp only[execOp,fi,hb,e9,iv]
 case buildSlice t n Xs=>
  split at A<;>try(cases A;done)
  rename_i e ht
  split at A<;>try(cases A;done)
  split at A<;>try(cases A;done)
  rename_i z xs hz ak
  split at A<;>try(cases A;done)
  rename_i ab;cases A;simp only[ed,gc,kb]at ab;obtain⟨⟨⟨ch,c4⟩,ae⟩,ao⟩:=ab;simp only[gi]at h;obtain⟨ps,ce,hK⟩:=ah h
  have bm:Xs.toList.mapM (λp=>cq p.2)=(Xs.toList.map (·.2)).mapM cq:=by rw[List.mapM_map];rfl
  rw[bm]at ak;obtain⟨al,b7⟩:=D0 R ak ce
  have a9:Xs.toList.length=n:=by have:=ne List.length ao;simpa using this
  have a3:ps.length=n:=by have:=ne List.length al;simp only[mt]at this;omega
  obtain⟨zv,a4,bi,b5⟩:=tV (P:=P) (w:=w) (π:=π) hz
  have ct:(Xs.map λ(i,x)=>(i,a.eval x)).toList=Xs.toList.map λp=>(p.1,a.eval p.2):=TB
  have am:(Xs.toList.map λp=>(p.1,a.eval p.2)).map (·.2)=ps.map λp=>Value.pointer (some ⟨β p.1,p.2,none⟩):=by rw[<-al];simp
  obtain⟨us,hf,ac⟩:=Gl (Xs.toList.map λp=>(p.1,a.eval p.2)) 0 ((Array.range (n*1)).map (zv.cells[· %zv.cells.size]!)) (by simp only[List.map_map,mt];rw[show((λx=>x.1)∘λp:Nat×Operand=>(p.1,a.eval p.2))=(λp=>p.1)from rfl,ao,a9];simp) (λp E=>by
   have:p.2∈(Xs.toList.map λp=>(p.1,a.eval p.2)).map (·.2):=EQ E
   rw[am]at this;obtain⟨q,_,e⟩:=i8.1 this
   rw[<-e];rfl) (by simp[a9])
  rw[am]at ac;simp only[ut,kx]at ac
  obtain⟨π',R',hh⟩:=R.hold e (cs:=us) (ps:=ps) (λi p hi=>by
   have:us.toList[i]? =some (.pointer (some ⟨β p.1,p.2,none⟩)):=by rw[ac];simp[hi]
   simpa using this)
  have bs:¬(n*1>16777216):=ST
  have L:(Instr.buildSlice t n (Xs.map λ(i,x)=>(i,a.eval x))).run P w=.ok (.slice (some ⟨w.heap.size,0,none⟩) n n) (w.alloc (.cells us e)):=by
   have c1:¬n*1=0:=ST
   simp only[Instr.buildSlice,fi,ii ht,e9,eH (w:=w) ae]
   rw[ek (by simpa using bs)]
   simp only[c1,ib,fi,iv,e9,a4,ct,hf,Go.newRow,run_newObj];rfl
  have b0:(execOp a.eval ⟨dst,.buildSlice t n Xs,M,pos,after,guard⟩).run P w=.ok (.value (.slice (some ⟨w.heap.size,0,none⟩) n n)) (w.alloc (.cells us e)):=by
   simp only[execOp,fi,L,e9,iv]
  unfold Oper.wp;rw[b0]
  exact hn (.pt 1 ps) s _ _ β τ π' hK ⟨w.heap.size,0,n,by simp[a3],ST,hh⟩ (λp E=>.inl (b7 p E)) (R'.sub V)
 case indexAddr t x i=>
  split at A<;>try(cases A;done)
  rename_i e ht
  split at A<;>try(cases A;done)
  rename_i ab;simp only[ed,kb]at ab
  split at A<;>try(cases A;done)
  rename_i x' i' O b2;cases A;simp only[gi]at h;obtain⟨p,E,h⟩:=ah h;obtain⟨D,hU⟩:=R.bX O E
  cases p<;>try(exact h.elim)
  rename_i k ps
  match k,D,h with
  |1,D,h=>
   obtain⟨av,a6,h⟩:=ah h;obtain⟨j,hj,ca,hK⟩:=ah h;obtain⟨kk,hk⟩:=R.idx b2 a6 hj;obtain⟨B,off,cap,h1,h2,h3⟩:=D;simp only[kh]at h1
   have ae:=eH (w:=w) ab.2
   have L:(Instr.indexAt t (a.eval x) (a.eval i)).run P w=.ok (.pointer (some ⟨B,off+j.toNat*1,none⟩)) w:=by
    simp[Instr.indexAt,hk,h1,asIntOf,ii ht,ca,ae,iP]
   refine fin (v:=.pt 2 (ps.drop j.toNat)) (y:=.pointer (some ⟨B,off+j.toNat*1,none⟩)) (by simp only[execOp,fi,L,e9,iv]) (.MA λm q hq=>?_) (λq hq=>hU q (nf hq)) hK
   rw[lh]at hq
   have:=h3 _ q hq
   rwa[pb,zd]
  |0,_,h=>exact h.elim
  |k+2,_,h=>exact h.elim
 case store t x v=>
  split at A<;>try(cases A;done)
  rename_i Z;simp only[ed,kb]at Z
  split at A<;>try(cases A;done)
  rename_i x' v' O cu;cases A;simp only[gi]at h;obtain⟨p,E,h⟩:=ah h;obtain⟨D,hU⟩:=R.bX O E
  cases p<;>try(exact h.elim)
  rename_i b off
  cases off with
  |succ off=>exact h.elim
  |zero=>
   obtain⟨q,hq,h⟩:=ah h;obtain⟨a2,cg⟩:=R.bX cu hq
   cases q<;>try(exact h.elim)
   rename_i k ps
   match k,a2,h with
   |0,a2,h=>
    obtain⟨y,hy,⟨h4,c3,a5⟩,hK⟩:=ah h;obtain⟨p,rfl⟩:=List.length_eq_one_iff.1 a5
    have al:a.eval v=.agg #[.pointer (some ⟨β p.1,p.2,none⟩)]:=a2
    have c0:a.eval x=.pointer (some ⟨β b,0,none⟩):=D
    obtain⟨h1,h2,⟨aa,el,hh,co,ag,da,ch⟩,c6⟩:=R.boxes b y hy
    have ae:1<=aa.size:=by have:=co.1;simp at this;omega
    have au:=run_storeCells_at (P:=P) (β b) 0 el [.pointer (some ⟨β p.1,p.2,none⟩)] 0 aa w hh (by simp;omega) (by simp[Value.oneCell'])
    simp only[pm]at au;generalize ad:(aa.toList.take 0++[Value.pointer (some ⟨β p.1,p.2,none⟩)]++aa.toList.drop (0+[Value.pointer (some ⟨β p.1,p.2,none⟩)].length)).toArray=cur' at au
    have ci:cur'.toList.take 1=[.pointer (some ⟨β p.1,p.2,none⟩)]:=by rw[<-ad];simp
    have c2:cur'[0]? =some (.pointer (some ⟨β p.1,p.2,none⟩)):=by rw[<-ad];simp
    have L:(Instr.storeAt t (a.eval x) (a.eval v)).run P w=.ok () (w.setRow (β b) cur'):=by
     simp[c0,al,Value.cells,Instr.storeAt,Instr.sureAddr,storeVar,eH (w:=w) Z.2,au]
    have R1:=R.PI (y:=⟨[.ref []],[]⟩) hy hh (cur':=cur') (by
     show jn w π [.ref []] (cur'.toList.take 1)
     rw[ci]
     exact⟨TB,λi c u A hu=>by
      cases i with
      |zero=>simp at A hu;subst A hu;exact .ref [] _ _ (λ_=>undef) TB TB TB TB
      |succ i=>simp at A⟩) (by simp[AV.scalar]) (λo q hq=>by cases hq)
    have b4:dh b (pn b ⟨[.ref []],[]⟩ s.boxes)=some ⟨[.ref []],[]⟩:=by rw[i9];simp[hy]
    obtain⟨π',R2⟩:=R1.Tx (b:=b) b4 h4 (p:=p) (cg p TB) (by
     rw[ul (w.setRow (β b) cur') (β b) 0 cur' el (0,0) (setRow_heap w _ aa _ el _ hh)]
     exact c2)
    unfold Oper.wp
    have:(execOp a.eval ⟨dst,.store t x v,M,pos,after,guard⟩).run P w=.ok .skip (w.setRow (β b) cur'):=by simp only[execOp,fi,L,e9,iv]
    rw[this];simp only[Gm]at R2;exact hn .undef _ undef _ β τ π' hK rfl trivial (R2.sub V)
   |k+1,_,h=>exact h.elim
 case call cl=>
  obtain⟨callee,args,argTypes⟩:=cl;split at A
  ·rename_i t x ar hT hX
   simp only at ar;subst ar
   split at A<;>try(cases A;done)
   rename_i e ht
   split at A<;>try(cases A;done)
   simp only[eg]at A;obtain⟨x',O,rfl⟩:=A;simp only[gi]at h;obtain⟨p,E,h⟩:=ah h;obtain⟨D,hU⟩:=R.bX O E
   cases p<;>try(exact h.elim)
   rename_i k ps
   match k,D,h with
   |1,D,h=>
    obtain⟨B,off,cap,h1,h2,h3⟩:=D;simp only[kh]at h1
    have eT:argTypes=#[t]:=ll.1 (by simpa using hT)
    have eX:args=#[x]:=ll.1 (by simpa using hX)
    subst eT eX
    refine fin (v:=.dat (.int .i64 ps.length) none) (y:=.int .i64 ps.length) ?_ ⟨.int _ _,λt ht=>by cases ht⟩ trivial h
    simp[execOp,resolve,invoke,builtin,Builtin.len_,ii ht,goInt,h1]
   |0,_,h=>exact h.elim
   |k+2,_,h=>exact h.elim
  ·unfold PE at A
   split at A<;>try(cases A;done)
   rename_i g hg;simp only at hg;subst hg
   split at A<;>try(cases A;done)
   simp only[eg]at A;obtain⟨xs,ak,rfl⟩:=A;simp only[gi]at h;obtain⟨av,a6,h⟩:=ah h
   have ba:=R.aM (X:=.tmp g) rfl a6
   cases av<;>try(exact h.elim)
   rename_i fn first caps
   cases fn<;>try(exact h.elim)
   rename_i f
   cases first<;>try(exact h.elim)
   cases caps<;>try(exact h.elim)
   obtain⟨⟨b8,ids⟩,a7,cy,h⟩:=ah h;obtain⟨css,ag,j,o,b,E,hj,hK⟩:=ah h
   have E:Wj P f css b8 j o:=E
   obtain⟨b1,_,E⟩:=E
   have an:=gp cy
   have bo:=(R.eV (by simpa[gV]using ak) a7).1
   have e1:(args.toList.map a.eval).toArray=args.map a.eval:=ll.1 TB
   have D:(execOp a.eval ⟨dst,.call ⟨.value (.tmp g),args,argTypes⟩,M,pos,after,guard⟩).run P w=.ok (.enter f (args.toList.map a.eval).toArray) w:=by
    generalize he:a.eval (.tmp g)=u at ba
    cases ba with
    |fn _ _ vs _ us h1 h2 h3 h4=>
     have e2:vs=#[]:=Hm.1 (by simpa using h1.symm)
     have e3:us=#[]:=Hm.1 (by simpa using h2.symm)
     subst e2 e3;rw[e1];simp[execOp,resolve,he,Deferred.ofValue,invoke,gK b1]
   unfold Oper.wp;rw[D,t0];refine(E w π (ids.map β) (args.toList.map a.eval) R.gj (R.nodup an ag) (R.rE ag) bo).mono ?_
   rintro e w' ⟨B,π',hB,rfl,bj,a5,ck,b3,cb⟩
   obtain⟨τ',_,R'⟩:=R.y9 (fr:=none) cp an ag rfl bj a5 ck b3 cb DV.oI (λt ht=>by cases ht)
   have cv:B=β b:=by
    rw[im,hj]at hB
    simpa using hB.symm
   obtain⟨t,_,v,hl,hv⟩:=js a7 b (em hj)
   refine hn (.ptr b o) _ _ _ _ _ _ hK (show _=_ by rw[cv]) (.inl (SV.Gi hv (R.slots t _ hl).2)) R'
theorem NZ(R:Rel P nt n0 w0 π0 U s a w β τ π) {c:IK} (B:¬U id) (D:ZU P o.type o.op=some c) (h:gi (Pure P) id c K X s) (L:∀v A x w' β' τ' π',K v A->RV β' τ' w' π' v x->v.gS (fu U id)->Rel P nt n0 w0 π0 (fu U id) A a w' β' τ' π'->next (a.put o.dst x) w') (M:∀p A w' β' τ' π',X p A->Rel P nt n0 w0 π0 (fu U id) A a w' β' τ' π'->Q (.panic (j7 p)) a w'):o.wp P a w next Q:=by
 unfold ZU at D;split at D
 ·rename_i x E
  cases D;exact NY R B E h L
 ·exact Lf R B D h L M
def I9(C:aY) (id:Nat) (o:XO) (K:S->Prop) (X:AV->S->Prop) (s:S):Prop:=gM s o.g (gi C id o.op (λv A=>K (A.put o.dst v)) X s) (K (s.put o.dst .undef))
theorem Lh{base i:Nat} {o:XO} {r:List XO} {K:S->Prop} {s:S}:tL C base i (o::r) K X s=I9 C (base+i) o (tL C base (i+1) r K X) X s:=rfl
theorem N0{c:XO} (A:tR P ops o=some c):c.dst=o.dst:=by
 unfold tR at A;split at A
 ·split at A<;>try(cases A;done)
  cases A;rfl
 ·simp only[eg]at A
  obtain⟨D,B,rfl⟩:=A;exact Bl B
theorem Ja(R:Rel P nt n0 w0 π0 U s a w β τ π) {c:XO} (O:¬U id) (D:tR P ops o=some c) (A:∀d,c.dst=some d->d<nt) {K:S->Prop} (h:I9 (Pure P) id c K X s) (hn:∀B x w' β' τ' π',K B->Rel P nt n0 w0 π0 (fu U id) B (a.put o.dst x) w' β' τ' π'->next (a.put o.dst x) w') (hx:∀p B w' β' τ' π',X p B->Rel P nt n0 w0 π0 (fu U id) B a w' β' τ' π'->Q (.panic (j7 p)) a w'):
  if Region.wanted o (yielded ops a.tmps)then o.wp P a w next Q else next (a.put o.dst undef) w:=by
 unfold tR at D;split at D;rotate_left
 ·simp only[eg]at D
  obtain⟨c0,h0,rfl⟩:=D;exact DU R O h0 A h hn
 rename_i ad ab
 split at D<;>try(cases D;done)
 rename_i g hg;cases D;simp only at A
 have run:gi (Pure P) id ad (λv B=>K (B.put o.dst v)) X s->o.wp P a w next Q:=λh=>
  NZ R O ab h (λv B x w' β' τ' π' hK hv hu R'=>hn _ _ _ _ _ _ hK (R'.put o.dst A hv hu)) hx
 have skip:K (s.put o.dst .undef)->next (a.put o.dst undef) w:=λh=>
  hn _ _ _ _ _ _ h ((R.sub λn h=>.inl h).put o.dst A rfl trivial)
 unfold I9 gM at h
 rcases B9 hg with⟨h1,V⟩|⟨j,want,t,h1,V,h3⟩
 ·subst V
  simp only at h;simp only[Region.wanted,h1,kh];exact run h
 ·subst h3
  simp only at h
  cases hl:lk t s.slots with
  |none=>simp[hl]at h
  |some v=>
   obtain⟨⟨x,E,L⟩,ag⟩:=R.slots t v hl;simp only[hl]at h
   have hy:∀b,x=.bool b->yielded ops a.tmps j=some b:=λb Z=>by
    unfold yielded;rw[V];simp[E,Z]
   cases v with
   |ptr b o=>exact h.elim
   |rp cs=>exact h.elim
   |vs _ _ _ _=>exact h.elim
   |wz _ _ _=>exact h.elim
   |raw _ _=>exact h.elim
   |pt _ _=>exact h.elim
   |undef=>
    have aa:x=undef:=L
    have ae:yielded ops a.tmps j=none:=by
     unfold yielded;rw[V];simp[E,aa,undef]
    simp only[Region.wanted,h1,ae];exact skip h
   |dat av q=>
    cases av<;>try(exact h.elim)
    rename_i b
    have ac:x=.bool b:=L.1.y6
    simp only[Region.wanted,h1,hy b ac]
    by_cases Z:b=want
    ·subst Z;simp;exact run (h.1 rfl)
    ·have M:b=!want:=by cases b<;>cases want<;>first|rfl|exact absurd rfl Z
     have:(some b==some want)=false:=by subst M;cases want<;>rfl
     rw[this];exact skip (h.2 M)
theorem Jb:ZU P t (.defer c)=none:=rfl
theorem Ca(R:Rel P nt n0 w0 π0 U s a w β τ π) {c:XO} {i:Nat} (O:ops[i]? =some o) (L:¬U id) (A:tR P ops o=some c) (D:∀d,c.dst=some d->d<nt) {K:S->Prop} (h:I9 (Pure P) id c K X s) (Z:∀B x w' β' τ' π',K B->Rel P nt n0 w0 π0 (fu U id) B (a.put o.dst x) w' β' τ' π'->next (a.put o.dst x) w') (V:∀p B w' β' τ' π',X p B->Rel P nt n0 w0 π0 (fu U id) B a w' β' τ' π'->Q (.panic (j7 p)) a w') {n:Nat}:wpOpIn (FW r) n P ops Q i next a w:=by
 have:=Ja R L A D h Z V
 have M:∀c,o.op≠.defer c:=by
  intro c' e;unfold tR at A;rw[e,Jb]at A;simp only[eg]at A;obtain⟨c0,A,_⟩:=A;unfold oJ at A;rw[e]at A;simp[PB,xU,NM,SQ]at A
 unfold wpOpIn;simp only[O];split
 ·rename_i E;rw[et E]at this;exact Wm this M
 ·rename_i E;rw[ek E]at this;exact⟨λ_ _=>trivial,this⟩
theorem Cb{ops:Array Oper}:∀{l:List Oper} {cs:List XO},Be P ops l=some cs->cs.length=l.length/\∀(i:Nat) (o:Oper) (c:XO),l[i]? =some o->cs[i]? =some c->tR P ops o=some c
 |[],cs,h=>by simp[Be]at h;subst h;exact⟨rfl,λi o c h=>by simp at h⟩
 |o::l,cs,h=>by
  unfold Be at h
  split at h<;>try(cases h;done)
  rename_i c O L D;cases h;obtain⟨e,M⟩:=Cb D
  refine⟨by simp[e],λi o' E A B=>?_⟩
  cases i with
  |zero=>simp at A B;subst A;subst B;exact L
  |succ i=>exact M i o' E (by simpa using A) (by simpa using B)
theorem wF{n:Nat}:∀{l:List XO},tS n l=true->∀(i:Nat) (c:XO) (d:Nat),l[i]? =some c->c.dst=some d->d<n
 |[],h,i,c,d,A,hd=>by simp at A
 |o::l,h,i,c,d,A,hd=>by
  simp only[tS,ed]at h
  cases i with
  |zero=>
   simp at A;subst A
   have:=h.1
   rw[hd]at this
   simpa using this
  |succ i=>exact wF h.2 i c d (by simpa using A) hd
theorem Gn{c:XO} {d:Nat}:∀{l:List XO},c∈l->c.dst=some d->d∈IV l
 |[],h,_=>by cases h
 |o::l,h,hd=>by
  simp only[IV,il]
  rcases mp.1 h with rfl|h
  ·exact .inl (by rw[hd];simp)
  ·exact .inr (Gn h hd)
theorem Cc{ops:Array Oper} {cos:List XO} {base:Nat} (i0:Nat) (V:cos.length=ops.size) (A:∀(i:Nat) (o:Oper) (c:XO),i0<=i->ops[i]? =some o->cos[i]? =some c->tR P ops o=some c) (D:∀(i:Nat) (c:XO) (d:Nat),cos[i]? =some c->c.dst=some d->d<nt)
  {T:Nat->Prop} {a0:Act} (hT:∀(i:Nat) (c:XO) (d:Nat),cos[i]? =some c->c.dst=some d->¬T d) {r:Option Nat} {m:Nat}
  {K:S->Prop} {X:AV->S->Prop} {Q:Exit->Act->World->Prop} (hQ:∀s a w β τ π U,(∀n,U n->n<base+ops.size)->K s->rK T a0 a->Rel P nt n0 w0 π0 U s a w β τ π->Q .normal a w)
  (hX:∀p s a w β τ π U,(∀n,U n->n<base+ops.size)->X p s->rK T a0 a->Rel P nt n0 w0 π0 U s a w β τ π->Q (.panic (j7 p)) a w):
  ∀(rest:List XO) (i:Nat) (s:S) (a:Act) (w:World) (β:Nat->Nat) (τ:Nat->Value) (π:Nat->Nat->Prop) (U:Nat->Prop),i0<=i->cos.drop i=rest->i+rest.length=ops.size->(∀n,U n->n<base+i)->rK T a0 a->Rel P nt n0 w0 π0 U s a w β τ π->
   tL (Pure P) base i rest K X s->wpOpsIn (FW r) m P ops Q (List.range' i rest.length) a w
 |[],i,s,a,w,β,τ,π,U,L,hd,hn,M,Z,R,h=>hQ s a w β τ π U (λn h=>by have:=M n h;simp at hn;omega) h Z R
 |o::rest,i,s,a,w,β,τ,π,U,L,hd,hn,M,Z,R,h=>by
  have B:cos[i]? =some o:=by
   have:(cos.drop i)[0]? =some o:=by rw[hd];rfl
   simpa using this
  have O:i<ops.size:=by simp at hn;omega
  have E:ops[i]? =some ops[i]:=by simp[O]
  rw[Lh]at h;simp only[eW,List.range'_succ];rw[wpOpsIn_cons]
  refine Ca R E (λh=>by have:=M _ h;omega) (A i _ o L E B) (D i o · B) h (λs' x w' β' τ' π' hK R'=>?_) (λp s' w' β' τ' π' aa R'=>hX p s' a w' β' τ' π' _ (λn h=>?_) aa Z R')
  ·refine Cc i0 V A D hT hQ hX rest (i+1) s' _ w' β' τ' π' _ ST ?_ (by simp at hn;omega) (λn h=>?_) (Z.put (λd hd=>hT i o d B (by rw[N0 (A i _ o L E B)];exact hd)) x) R' hK
   ·rw[<-List.tail_drop,hd];rfl
   ·rcases h with h|h
    ·have:=M n h;omega
    ·omega
  ·rcases h with h|h
   ·have:=M n h;omega
   ·omega
theorem FT{cos:List XO} (Z:Be P ops ops.toList=some cos) (L:tS nt cos=true) (R:Rel P nt n0 w0 π0 U s a w β τ π) (V:∀n,U n->n<s.nx) {K:S->Prop} (h:tL (Pure P) s.nx 0 cos K X s) (hT:∀d,d∈IV cos->¬T d) (hQ:∀E a' w β τ π U,(∀n,U n->n<s.nx+cos.length)->K E->rK T a a'->Rel P nt n0 w0 π0 U E a' w β τ π->Q .normal a' w) (hX:∀p E a' w β τ π U,(∀n,U n->n<s.nx+cos.length)->X p E->rK T a a'->Rel P nt n0 w0 π0 U E a' w β τ π->Q (.panic (j7 p)) a' w):(Code.region id ops false).wpIn (FW r) m P Q a w:=by
 obtain⟨B,D⟩:=Cb Z
 have A:cos.length=ops.size:=by simpa using B
 rw[A]at hQ hX;refine wpIn_region ?_
 have:=Cc (r:=r) (m:=m) 0 A (λi o c _ O M=>D i o c (by simpa using O) M) (wF L) (λi c d hi hd=>hT d (Gn (em hi) hd)) hQ hX cos 0 s a w β τ π U (ia _) rfl (by simpa using A) (by simpa using V) (.refl _ _) R h
 rw[A]at this;rw[List.range_eq_range'];exact this
theorem Li{o:bU} (D:o.quiet=true) {s:S} (h:bS C id o K s):∃v,K v s:=by
 cases o<;>(try(cases D;done))<;>simp only[bS]at h
 ·obtain⟨v,_,h⟩:=ah h;exact⟨v,h⟩
 ·obtain⟨p,A,h⟩:=ah h
  cases p<;>try(exact h.elim)
  ·obtain⟨_,_,h⟩:=ah h;obtain⟨_,_,h⟩:=ah h;exact⟨_,h⟩
  ·obtain⟨_,_,h⟩:=ah h;exact⟨_,h⟩
 ·obtain⟨p,A,h⟩:=ah h
  cases p<;>try(exact h.elim)
  ·exact⟨_,h⟩
  ·exact⟨_,h⟩
  ·rename_i k ps
   match k,h with
   |2,h=>exact⟨_,h⟩
   |0,h=>exact h.elim
   |1,h=>exact h.elim
   |k+3,h=>exact h.elim
 ·obtain⟨_,_,h⟩:=ah h
  obtain⟨_,_,h⟩:=ah h;obtain⟨_,_,h⟩:=ah h;obtain⟨_,_,_,_,h⟩:=ah h;exact⟨_,h⟩
 ·rename_i x B
  obtain⟨p,A,h⟩:=ah h
  cases p<;>try(exact h.elim)
  rename_i k ps
  match k,B,ps,h with
  |2,none,(b,o)::ps,h=>exact⟨_,h⟩
  |2,none,[],h=>exact h.elim
  |2,some n,[],h=>exact⟨_,h.2⟩
  |2,some n,_::_,h=>exact⟨_,h.2⟩
  |0,_,_,h=>exact h.elim
  |1,_,_,h=>exact h.elim
  |k+3,_,_,h=>exact h.elim
theorem D1{k:Nat} {A:List Nat}:∀{l:List CO} {i j:Nat},(oE k A i l)[j]? =(l[j]?).map (Bb k A (i+j))
 |[],i,j=>by simp[oE]
 |o::l,i,0=>by simp[oE]
 |o::l,i,j+1=>by
  simp only[oE,kv];rw[D1,zd,Nat.add_comm 1 j]
theorem Jc{k:Nat} {A:List Nat}:∀{l:List CO} {i:Nat},(oE k A i l).length=l.length
 |[],i=>rfl
 |o::l,i=>by simp[oE,Jc]
theorem t6{k:Nat} {D:List Nat} {d:Nat}:∀{l:List CO} {i:Nat},DG k D d i l=true->∀(j:Nat) (o:CO),l[j]? =some o->
  (i+j=k->∃f args,o=⟨some d,.eo f args,none⟩)/\(i+j≠k->D.contains (i+j)=true\/(o.op.quiet=true/\o.g=none/\∃t,o.dst=some t/\t≠d))
 |[],i,h,j,o,B=>by simp at B
 |a::l,i,h,j,o,B=>by
  simp only[DG,ed]at h
  cases j with
  |zero=>
   simp at B;subst B;rw[pm]
   refine⟨λe=>?_,λe=>?_⟩
   ·have A:=h.1
    rw[et e]at A;obtain⟨dst,op,g⟩:=a
    cases op<;>try(cases A;done)
    simp only[ed,Option.isNone_iff_eq_none,kb]at A;obtain⟨rfl,rfl⟩:=A;exact⟨_,_,rfl⟩
   ·have A:=h.1
    rw[ek e]at A;simp only[mi,ed,Option.isNone_iff_eq_none,bne_iff_ne,ne_eq]at A
    rcases A with A|⟨⟨⟨A,L⟩,O⟩,M⟩
    ·exact .inl A
    ·obtain⟨t,E⟩:=Pl.1 O
     exact .inr ⟨A,L,t,E,λe=>M (by rw[E,e])⟩
  |succ j=>
   have:=t6 h.2 j o (by simpa using B)
   rw[show i+(j+1)=i+1+j by omega]
   exact this
theorem D2{k:Nat} {A:List Nat}:∀{l:List Oper} {i:Nat},Ga k A i l=true->∀(j:Nat) (o:Oper),l[j]? =some o->A.contains (i+j)=true->∃e∈o.after,Region.binds .any e=true/\(e.on=k\/(A.contains e.on=true/\e.on<i+j))
 |[],i,h,j,o,B,_=>by simp at B
 |a::l,i,h,j,o,B,hd=>by
  simp only[Ga,ed]at h
  cases j with
  |zero=>
   simp at B;subst B;rw[pm]at hd⊢
   have E:=h.1
   rw[hd]at E;simp only[gs,nz,LT]at E;obtain⟨e,L,D⟩:=E;simp only[ed,mi,kb,gc]at D;exact⟨e,L,D.1,D.2⟩
  |succ j=>
   rw[show i+(j+1)=i+1+j by omega]at hd⊢
   exact D2 h.2 j o (by simpa using B) hd
theorem P1{A:List Nat} (hd:Ga k A 0 ops.toList=true) (hc:tY ops l):∀(i:Nat),A.contains i=true->(l.getD i false=true\/i∈Region.ready .any ops l)->i<ops.size->l.getD k false=true:=by
 intro i
 induction i using Nat.strongRecOn with
 |_ i ih=>
  intro L hr hi
  obtain⟨o,E⟩:∃o,ops[i]? =some o:=⟨ops[i],by simp[hi]⟩
  obtain⟨e,O,Z,M⟩:=D2 hd i o (by simpa using E) (by simpa using L)
  have R:l.getD e.on false=true:=by
   rcases hr with h|h
   ·exact hc i o E h e O Z
   ·obtain⟨_,o',B,D⟩:=xo.1 h
    rw[E]at B;cases B;exact D e O Z
  rcases M with e1|⟨h1,V⟩
  ·rw[<-e1];exact R
  ·rw[la]at V
   exact ih e.on V h1 (.inl R) ST
theorem Jd(D:lA dc ops.toList cos=true) (O:cos.length=ops.size) (hl:l.size=ops.size):∀(k:Nat),k<ops.size->l.getD k false=false->Region.ready .any ops l≠[]:=by
 intro k
 induction k using Nat.strongRecOn with
 |_ k V=>
  intro hk L M
  by_cases A:∀j,j<k->l.getD j false=true
  ·have:k∈Region.ready .any ops l:=by
    refine xo.2 ⟨MF ST L,ops[k],by simp[hk],λe R Z=>?_⟩
    have:=(lR D k ops[k] (cos[k]' ST) (by simp[hk]) TB).1 e R Z
    exact A e.on (by simpa using this)
   rw[M]at this;cases this
  ·obtain⟨j,B⟩:=Classical.not_forall.1 A
   obtain⟨B,E⟩:=Classical.not_imp.1 B
   exact V j B ST (by simpa using E) M
theorem zi{wr:List Nat} {t:Nat}:∀{l:List (Nat×SV)} {v:SV},lk t (oF wr l)=some v->¬t∈wr/\lk t l=some v
 |[],v,h=>by cases h
 |(m,u)::r,v,h=>by
  simp only[oF]at h
  cases A:wr.contains m with
  |true=>
   rw[A]at h
   obtain⟨D,E⟩:=zi (l:=r) h
   refine⟨D,?_⟩
   have B:¬t=m:=λe=>D (by subst e;simpa using A)
   simp only[lk,ki,B,ib];exact E
  |false=>
   rw[A]at h;simp only[eQ,lk,ki]at h⊢
   by_cases e:t=m
   ·rw[et e]at h⊢
    exact⟨λhm=>by subst e;simp at A;exact A hm,h⟩
   ·rw[ek e]at h⊢
    exact zi (l:=r) h
theorem nB{wr:List Nat} {t:Nat} (h:¬t∈wr):∀{l:List (Nat×SV)},lk t (oF wr l)=lk t l
 |[]=>rfl
 |(m,u)::r=>by
  simp only[oF]
  cases B:wr.contains m with
  |true=>
   have A:¬t=m:=λe=>h (by subst e;simpa using B)
   simp only[ge,lk,ki,A,ib];exact nB h
  |false=>
   simp only[eQ,lk,ki];rw[nB h]
theorem Rel.Tz(R:Rel P nt n0 w0 π0 U s a w β τ π) {l:List (Nat×SV)} (h:∀t v,lk t l=some v->lk t s.slots=some v):Rel P nt n0 w0 π0 U {s with slots:=l} a w β τ π:=
 ⟨R.size,λt v A=>R.slots t v (h t v A),R.boxes,R.inj,R.live,R.dm,R.dG,R.below,R.gI,R.gj,R.gu,R.dW,R.nL,R.jP,R.kept⟩
theorem Gp(n k:Nat):(Array.replicate n false).getD k false=false:=by
 rw[sa,Array.getElem?_replicate];split<;>rfl
theorem Hz{ops:List Oper} {op:Op}:xU P ops op≠some (.eo f as):=by
 intro h;unfold xU at h
 (repeat' split at h)<;>cases h
theorem N1{op:Op} (h:SQ P op=some (.eo f as)):∃c,op=.call c/\c.callee=.value (.func f)/\dB P f=true/\gV c.args=some as/\rC P c.argTypes.toList=true:=by
 cases op<;>simp only[SQ]at h
 case call c=>
  refine⟨c,rfl,?_⟩;unfold wD at h;split at h
  ·rename_i g M
   split at h
   ·rename_i A
    simp only[eg]at h;obtain⟨xs,D,L⟩:=h
    split at L<;>cases L
    rename_i E;exact⟨M,A,D,E⟩
   ·split at h<;>simp at h
  all_goals(exfalso;(repeat' split at h)<;>simp at h)
 case convert s d x=>
  simp only[jp]at h;obtain⟨y,_,h⟩:=h;unfold IU at h
  (repeat' split at h)<;>cases h
 all_goals(exfalso;revert h;(repeat' split)<;>(try simp[cEq])<;>(repeat' split)<;>(try simp)<;>(rename_i B;cases B))
theorem Cd(h:oJ P ops o=some ⟨d,.eo f as,g⟩):∃c,o.op=.call c/\c.callee=.value (.func f)/\dB P f=true/\gV c.args=some as/\rC P c.argTypes.toList=true:=by
 unfold oJ at h;split at h
 ·rename_i cc D A B
  cases h;unfold PB at A;split at A
  ·rename_i e;cases A;exact absurd e Hz
  ·split at A
   ·rename_i e
    cases A;exfalso;unfold NM at e
    (repeat' split at e)<;>cases e
   ·exact N1 A
 ·cases h
theorem Je(h:oJ P ops o=some ⟨d,.eo f as,g⟩):tR P ops o=some ⟨d,.eo f as,g⟩:=by
 obtain⟨c,L,A,D,E,B⟩:=Cd h;unfold oJ at h;split at h
 ·rename_i cc R O M
  cases h
  have e:ZU P o.type o.op=some (.eo f as):=by
   rw[L];simp[ZU,xPt,PE,A,S4,WV,wD,PD,D,E,B]
  unfold tR;rw[e,M]
 ·cases h
theorem getD_set_ne{i j:Nat} {c:Bool} (h:i≠j):(l.setIfInBounds i b).getD j c=l.getD j c:=by
 simp only[sa,ws h]
theorem MM{C:aY} {base:Nat} {ops:Array Oper} {cos:List CO} {K:S->Prop} {ds:List Nat} {d:Nat} (R:Nat->Prop)
  (hq:∀i o,¬R i->cos[i]? =some o->(o.op.quiet=true/\o.g=none/\(o.dst=none\/∃t,o.dst=some t/\t≠d/\t∈ds))):
  ∀(f:Nat) (l:Array Bool) (s:S),(∀i,R i->l.getD i true=true)->Hu C base ops cos K f l s->∃sl,K {s with slots:=sl}/\lk d sl=lk d s.slots/\oF ds sl=oF ds s.slots
 |0,l,s,hP,h=>⟨s.slots,h.2,rfl,rfl⟩
 |f+1,l,s,hP,h=>by
  cases hr:Region.ready .any ops l with
  |nil=>exact⟨s.slots,h.1 hr,rfl,rfl⟩
  |cons i r=>
   have hi:i∈Region.ready .any ops l:=by rw[hr];exact lr
   obtain⟨o,ho,A⟩:=h.2 i hi
   have ab:=(xo.1 hi).1
   have D:¬R i:=λhp=>by have:=hP i hp;rw[ab]at this;cases this
   obtain⟨aa,hg,E⟩:=hq i o D ho;unfold jQ gM at A;rw[hg]at A;obtain⟨v,A⟩:=Li aa A
   obtain⟨sl,O,M,V⟩:=MM R hq f _ _ (λj hj=>by
    have:=hP j hj
    by_cases B:i=j
    ·subst B;exact absurd hj D
    ·rw[getD_set_ne B];exact this) A
   rcases E with e|⟨t,e,Z,L⟩
   ·rw[e]at O M V;exact⟨sl,O,M,V⟩
   ·rw[e]at O M V
    refine⟨sl,O,?_,?_⟩
    ·rw[M,rF,ek (by intro e;cases e;exact Z rfl)]
    ·rw[V]
     show oF ds ((t,v)::s.slots)=_
     have:ds.contains t=true:=by simpa using L
     simp only[oF,this,ge]
theorem FU(hm:P.follows .mixedOrders=true) {A:List Nat} {d:Nat} (hc:xV P ops ops.toList=some cos) (am:lA dc ops.toList (oE k A 0 cos)=true) (be:Ga k A 0 ops.toList=true) (ab:DG k A d 0 cos=true) (hk:k<ops.size) (bi:iJ nt cos=true) (R:Rel P nt n0 w0 π0 U s a w β τ π) (hU:∀n,U n->n<s.nx) (h:WS (Pure P) cos dc k A (cos.flatMap λo=>o.dst.toList) X s) (hT:∀t,t∈dstsOf cos->¬T t) (hX:∀p s' a' w β τ π U,(∀n,U n->n<s.nx+cos.length)->X p s'->rK T a a'->Rel P nt n0 w0 π0 U s' a' w β τ π->Q (.panic (j7 p)) a' w):(Code.region id ops true).wpIn (FW r) m P Q a w:=by
 obtain⟨al,h⟩:=h;simp only[yW,WR,ed]at al;obtain⟨⟨b7,b2⟩,bj⟩:=al;obtain⟨a2,au⟩:=t5 hc
 have aa:cos.length=ops.size:=by simpa using a2
 have B:(oE k A 0 cos).length=ops.size:=by rw[Jc];exact aa
 rw[aa]at hX
 have ac:=rL bi
 have b4:∀(i:Nat) (c:CO) (d:Nat),cos[i]? =some c->c.dst=some d->¬T d:=λi c d E hd=>hT d (yd (em E) hd)
 obtain⟨ck,M⟩:∃c,cos[k]? =some c:=⟨cos[k]' ST,TB⟩
 obtain⟨fk,ak,bo⟩:=(t6 ab k ck M).1 TB
 subst bo
 have ba:∀j ok,(oE k A 0 cos)[j]? =some ok->rB (Px (xT s.slots) s.nx 0 (oE k A 0 cos)) (s.nx+j) ok=true:=λj ok hj=>by have:=rI b2 j ok hj;rwa[la]at this
 refine wpIn_region_any hm ?_
 have R':Rel P nt n0 w0 π0 (UL s.nx (Array.replicate ops.size false)) s a w.drew β τ π:=R.draw.sub λn hn=>.inl (hU n hn)
 have b3:∀(base':Nat) (r:List CO) (i:Nat) (s:S) {K K':S->Prop},(∀s,K s->K' s)->j6 (Pure P) base' i r K s->j6 (Pure P) base' i r K' s:=by
  intro base' r
  induction r with
  |nil=>intro i s K K' hk h;exact hk s h
  |cons o r ih=>
   intro i s K K' hk h;rw[qb]at h⊢;obtain⟨v,d,hd,bs,_⟩:=gw h;exact hd.2 s .refl _ (ih _ _ hk bs)
 -- the end,whatever stands for the same state
 obtain⟨ds,a6⟩:∃ds,ds=cos.flatMap λo=>o.dst.toList:=⟨_,rfl⟩
 rw[<-a6]at h
 have h2:=b3 s.nx _ 0 s (K':=λs2=>∃s1,tE s1 s2/\∃d p,(cos[k]?).bind CO.dst=some d/\lk d s1.slots=some (.dat p none)/\X p (Bc ds s1)) (λs h=>⟨s,.refl,h⟩) h
 have h3:=tZ ba bj (λs s2 he ⟨s1,h1,hk⟩=>⟨s1,h1.trans he,hk⟩) B am (oE k A 0 cos) 0 (Array.replicate ops.size false) s rfl (by simpa using B) TB (λj hj=>by simp[hj]) R'.gS (λt b ⟨v,D,hb⟩=>rJ b7 t b v D hb) h2
 rw[B]at h3
 have small:∀l:Array Bool,l.size=ops.size->∀n,UL s.nx l n->n<s.nx+ops.size:=by
  rintro l D n (h|⟨i,E,h⟩)
  ·omega
  ·have:i<l.size:=by
    rcases kn i l.size with h'|h'
    ·exact h'
    ·simp[yk h']at h
   omega
 have ag:∀(i:Nat) (c:CO) (t:Nat),cos[i]? =some c->c.dst=some t->t∈ds:=λi c t E ht=>by
  rw[a6];exact sT.2 ⟨c,em E,by simp[ht]⟩
 have key:∀(f:Nat) (l:Array Bool) (s1:S) (a1:Act) (w1:World) (β:Nat->Nat) (τ:Nat->Value) (π:Nat->Nat->Prop),l.size=ops.size->tY ops l->l.getD k false=false->rK T a a1->Rel P nt n0 w0 π0 (UL s.nx l) s1 a1 w1 β τ π->
   Hu (Pure P) s.nx ops (oE k A 0 cos) (λs2=>∃s1,tE s1 s2/\∃d p,(cos[k]?).bind CO.dst=some d/\lk d s1.slots=some (.dat p none)/\X p (Bc ds s1)) f l s1->wpAnyIn (FW r) m P .any ops Q f l a1 w1:=by
  intro f
  induction f with
  |zero=>intro l s1 a1 w1 β τ π D _ V _ _ h;exact absurd h.1 (Jd am B D k hk V)
  |succ f ih=>
   intro l s1 a1 w1 β τ π D a9 V hp R1 h
   refine⟨λh0=>absurd h0 (Jd am B D k hk V),λi E=>?_⟩
   obtain⟨o,ho,hs⟩:=h.2 i E;obtain⟨a8,pi,ao,_⟩:=xo.1 E
   have b8:=lY E
   rw[D1,la]at ho;obtain⟨o0,L,rfl⟩:=eg.1 ho
   have ad:=au i pi o0 (by simpa using ao) L
   by_cases ar:i=k
   ·subst ar
    rw[M]at L;cases L
    have an:Bb i A i ⟨some d,.eo fk ak,none⟩=⟨some d,.wA fk ak,none⟩:=by rw[Bb,et rfl]
    rw[an]at hs;unfold jQ gM at hs;simp only[bS]at hs;obtain⟨pp,b6,ca,hs⟩:=ah hs;obtain⟨css,bd,v,Z,hq,hs⟩:=ah hs
    -- the end of what is known
    obtain⟨sl,⟨s3,he,d',p',a4,b0,b5⟩,h2,h3⟩:=MM (ds:=ds) (d:=d) (λj=>j=i) (λj o hj a5=>by
     rw[D1,la]at a5;obtain⟨o1,a7,rfl⟩:=eg.1 a5
     have ae:¬j=i:=hj
     rcases(t6 ab j o1 a7).2 (by simpa using ae)with O|⟨q1,q2,t,q3,q4⟩
     ·have:Bb i A j o1=⟨none,.mv (.k .tA),none⟩:=by
       rw[la]at O;rw[Bb,ek ae,et O]
      rw[this];exact⟨rfl,rfl,.inl rfl⟩
     ·by_cases O:A.contains j=true
      ·have:Bb i A j o1=⟨none,.mv (.k .tA),none⟩:=by rw[Bb,ek ae,et O]
       rw[this];exact⟨rfl,rfl,.inl rfl⟩
      ·have:Bb i A j o1=o1:=by rw[Bb,ek ae,ek O]
       rw[this];exact⟨q1,q2,.inr ⟨t,q3,q4,ag j o1 t a7 q3⟩⟩) f _ _ (λj hj=>by subst hj;simp[b8]) hs
    rw[M]at a4;cases a4
    have cb:p'=v:=by
     have h4:lk d s3.slots=lk d sl:=(he.slots d).symm
     rw[b0,h2]at h4;simp[S.put,lk]at h4;exact h4
    subst cb
    -- the call
    obtain⟨c,ci,cg,co,ch,ce⟩:=Cd ad
    have b1:=Je ad
    refine Ca R1 ao (DQ a8) b1 (λd hd=>ac i ⟨_,_,_⟩ d M hd) (K:=λ_=>False) (X:=λp s'=>p=p'/\s'={s1 with boxes:=eG pp.2 Z s1.boxes}) ?_ (λ_ _ _ _ _ _ h=>h.elim) (λp s' w' β' τ' π' hx R2=>?_)
    ·unfold I9 gM
     simp only[gi,b6,bd,aG];exact .inr ⟨ca,.inl ⟨_,Z,hq,rfl,rfl⟩⟩
    ·obtain⟨rfl,rfl⟩:=hx
     have R3:=(R2.Tz (l:=oF ds s1.slots) (λt v h=>(zi h).2)).seq (s2:=Bc ds s3) ⟨λt=>?_,λb=>?_,λq=>?_⟩
     ·exact hX _ _ _ _ _ _ _ _ (λn hn=>hn.elim (small l D n) (λe=>by subst e;omega)) b5 hp R3
     ·show lk t (oF ds s3.slots)=lk t (oF ds s1.slots)
      by_cases ht:t∈ds
      ·have none:∀l:List (Nat×SV),lk t (oF ds l)=none:=λl=>by
        cases D:lk t (oF ds l)with
        |none=>rfl
        |some v=>exact absurd ht (zi D).1
       rw[none,none]
      ·have h5:=ne (lk t) h3
       rw[nB ht,nB ht]at h5;rw[nB ht,nB ht];refine(he.slots t).symm.trans (h5.trans ?_)
       have bm:d≠t:=λe=>ht (e▸ag i _ d M rfl)
       exact(rF (s:={s1 with boxes:=eG pp.2 Z s1.boxes})).trans (ek (by intro e;cases e;exact bm rfl))
     ·exact(he.boxes b).symm
     ·exact(he.live q).symm
   ·by_cases a3:A.contains i=true
    ·have:=P1 be a9 i a3 (.inr E) ST
     rw[V]at this;cases this
    ·have an:Bb k A i o0=o0:=by rw[Bb,ek ar,ek a3]
     rw[an]at hs
     refine yc R1 ao (DQ a8) ⟨o0,ad,.inl rfl⟩ (ac i o0 · L) hs λs' x w' β' τ' π' hK R2=>?_
     exact ih _ s' _ w' β' τ' π' (by simp[D]) (a9.set E) (by rw[getD_set_ne ar];exact V) (hp.put (λd hd=>b4 i o0 d L (by rw[Bl ad];exact hd)) x) (R2.sub λn hn=>Hv (lY E) hn) hK
 exact key ops.size _ s a _ β τ π TB (λk ok hk D=>by rw[Gp]at D;cases D) (Gp _ _) (.refl _ _) R' h3
end
end
end Go.Eng
