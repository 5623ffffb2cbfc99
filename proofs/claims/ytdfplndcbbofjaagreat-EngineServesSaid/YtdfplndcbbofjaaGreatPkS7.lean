/- Part 7 of the engine and its library. -/
import Derived.Test.YtdfplndcbbofjaaGreatPkS6
set_option linter.all false
set_option maxRecDepth 10000
set_option maxHeartbeats 4000000
namespace Go.Eng
open Go
open Go.RowKit (Below)
section
variable{P:Program} {nt:Nat} {n0:ju} {w0:World} {π0:Nat->Nat->Prop} {U:Nat->Prop} {s:S} {a:Act} {w:World} {β:Nat->Nat} {τ:Nat->Value} {π:Nat->Nat->Prop}
section
variable {C:bk} {K:SV->S->Prop} {Q:Exit->Act->World->Prop} {T:Nat->Prop} {X:AV->S->Prop} {as:List bn} {b:Bool} {c:Call} {cJ:List (Nat×Nat)} {cos:List CO} {cs:Array Value} {d:Option Nat} {e:TypeId} {f:Nat} {g:Option (Nat×Bool)} {i:TypeInfo} {id k:Nat} {l:Array Bool} {m:Nat} {neg:Bool} {next:Act->World->Prop} {o:Oper} {op:BinOp} {ops:Array Oper} {r:Option Nat} {t:TypeId} {v:Value} {w':World} {x:Value} {y:bn} {π':Nat->Nat->Prop}
theorem FP{a:AV} (h:DV w π a v) (A:iT a=true):v=PW a:=by
 cases h<;>first|rfl|(simp[iT]at A;done)
theorem Qj{a:AV} (h:DV w π a v) (A:iU a=true):v=vJ a:=by
 cases h with
 |agg as vs D O hd=>
  simp only[iU,mf]at A
  show Value.agg vs=.agg _
  congr 1
  apply Array.ext
  ·simpa using D.symm
  ·intro i L M
   have B:i<as.length:=ST
   have:=FP (hd i as[i] vs[i] (by simp[B]) (by simp[L])) (A _ (GT B))
   simpa using this
 |_=>first|rfl|(simp[iU,iT]at A;done)
theorem jj{d:TypeDesc} (h:P.underlying t=some d):(underlying t).run P w=.ok d w:=by
 simp[underlying,h]
theorem K9{z:AV} (h:zeroV P t=some z):∃v:Value,(zeroValue t).run P w=.ok v w/\DV w π z v:=by
 unfold zeroV at h;simp only[kb]at h;obtain⟨v,⟨i,B,D⟩,A⟩:=h
 exact⟨v,by simp[zeroValue,typeInfo,B,D],MP A⟩
theorem Dd(d:Nat) {B:Array (String×TypeId)} (h:P.underlying t=some (.interface B)) (x:Value) (b:Bool) (L:(x=.nilIface/\b=true)\/(∃D y,x=.iface D y/\b=false)):(Op.equalIn (d+1) t x .nilIface).run P w=.ok b w:=by
 have A:(underlying t).run P w=.ok (.interface B) w:=jj h
 rcases L with⟨rfl,rfl⟩|⟨D,y,rfl,rfl⟩<;>simp only[Op.equalIn,fp,A,fo,i8]
theorem La(d:Nat) (h:P.underlying t=some (.pointer e)) (x:Option Addr):(Op.equalIn (d+1) t (.pointer x) (.pointer none)).run P w=.ok x.isNone w:=by
 have A:(underlying t).run P w=.ok (.pointer e) w:=jj h
 cases x<;>simp only[Op.equalIn,fp,A,fo,i8,Option.isNone]
theorem Ei(A:(op=.eql/\neg=false)\/(op=.neq/\neg=true)) {X Y:Operand} {y:Value} (M:(eqGuard op t X Y x y).run P w=.ok () w) (L:∀d,(Op.equalIn (d+1) t x y).run P w=.ok b w) (D:binOp .eql t x y=(do pure (.bool (<-Op.equal t x y)))) (O:binOp .neq t x y=(do pure (.bool (!(<-Op.equal t x y))))):(do eqGuard op t X Y x y;binOp op t x y:Sem Value).run P w=.ok (.bool (b !=neg)) w:=by
 have B:(Op.equal t x y).run P w=.ok b w:=L 9999
 rw[fp,M]
 rcases A with⟨rfl,rfl⟩|⟨rfl,rfl⟩
 ·simp only[fo,D,fp,B,i8];simp
 ·simp only[fo,O,fp,B,i8];simp
theorem JI(A:(op=.eql/\neg=false)\/(op=.neq/\neg=true)) (D:o5 P t=true) {a:AV} {X:Operand} (L:TR neg a=some b) (R:DV w π a x):(do eqGuard op t X (.const .nilIface) x .nilIface;binOp op t x .nilIface:Sem Value).run P w=.ok (.bool b) w:=by
 have B:∃e,P.underlying t=some (.interface e):=by
  unfold o5 at D;split at D
  ·exact⟨_,by assumption⟩
  ·cases D
 obtain⟨e,B⟩:=B
 cases R<;>simp only[TR,gg,reduceCtorEq]at L<;>subst L
 ·have:=Ei (P:=P) (w:=w) A (t:=t) (X:=X) (Y:=.const .nilIface) (x:=.nilIface) (y:=.nilIface) (b:=true) (by rcases A with⟨rfl,rfl⟩|⟨rfl,rfl⟩<;>simp[eqGuard]) (λd=>Dd d B _ _ (.inl ⟨rfl,rfl⟩)) rfl rfl
  rw[this];cases neg<;>rfl
 ·rename_i O av M V
  have:=Ei (P:=P) (w:=w) A (t:=t) (X:=X) (Y:=.const .nilIface) (x:=.iface O M) (y:=.nilIface) (b:=false) (by rcases A with⟨rfl,rfl⟩|⟨rfl,rfl⟩<;>simp[eqGuard]) (λd=>Dd d B _ _ (.inr ⟨_,_,rfl,rfl⟩)) rfl rfl
  rw[this];cases neg<;>rfl
theorem JJ(O:(op=.eql/\neg=false)\/(op=.neq/\neg=true)) (V:zR P t=true) {v:SV} {X:Operand} (L:KV neg v=some b) (M:RV β τ w π v x):(do eqGuard op t X (.const (.pointer none)) x (.pointer none);binOp op t x (.pointer none):Sem Value).run P w=.ok (.bool b) w:=by
 have R:∃e,P.underlying t=some (.pointer e):=by
  unfold zR at V;split at V
  ·exact⟨_,by assumption⟩
  ·cases V
 obtain⟨e,R⟩:=R
 have D:∀A:Option Addr,(A.isNone !=neg)=b->(do eqGuard op t X (.const (.pointer none)) (.pointer A) (.pointer none);binOp op t (.pointer A) (.pointer none):Sem Value).run P w=.ok (.bool b) w:=by
  intro A Z
  have:=Ei (P:=P) (w:=w) O (t:=t) (X:=X) (Y:=.const (.pointer none)) (x:=.pointer A) (y:=.pointer none) (b:=A.isNone) (by rcases O with⟨rfl,rfl⟩|⟨rfl,rfl⟩<;>simp[eqGuard]) (λd=>La d R A) (by cases A<;>rfl) (by cases A<;>rfl)
  rw[this,Z]
 cases v with
 |ptr b' o=>
  have M:x=.pointer (some ⟨β b',o,none⟩):=M
  subst M
  exact D _ (by simpa[KV]using L)
 |rp cs=>
  obtain⟨B,off,f,rfl,_⟩:=M
  exact D _ (by simpa[KV]using L)
 |dat av q=>
  have hd:=M.1
  cases av<;>simp only[KV,gg,reduceCtorEq]at L
  ·cases hd
   exact D none (by rw[<-L];cases neg<;>rfl)
  ·cases hd
   exact D _ (by rw[<-L];cases neg<;>rfl)
 |_=>simp[KV]at L
theorem Qk{xt:TypeId} {z a v:AV} (hz:zeroV P t=some z) (R:(o5 P t||(P.underlying t).isNone)=false) (A:TQ t z a=some v) (Z:DV w π a x):
  ∃u,(Instr.typeAssert x xt t true).run P w=.ok u w/\DV w π v u:=by
 obtain⟨zv,M,O⟩:=K9 (w:=w) (π:=π) hz
 simp only[FS]at R;obtain⟨hi,hn⟩:=R
 cases hu:P.underlying t with
 |none=>rw[hu]at hn;cases hn
 |some d=>
  have B:(underlying t).run P w=.ok d w:=jj hu
  have hd:∀ms,d≠.interface ms:=λms e=>by subst e;simp[o5,hu]at hi
  have no:∀(x:Value),x=.nilIface\/(∃D y,x=.iface D y/\D≠t)->(Instr.typeAssert x xt t true).run P w=.ok (.tuple #[zv,.bool false]) w:=by
   intro x Z
   rcases Z with rfl|⟨D,y,rfl,aa⟩
   ·unfold Instr.typeAssert
    simp only[fp,B,fo]
    cases d<;>first|exact absurd rfl (hd _)|simp[M]
   ·unfold Instr.typeAssert
    simp only[fp,B,fo]
    cases d<;>first|exact absurd rfl (hd _)|simp[M,aa]
  have two:∀{p:AV} {y:Value} (b:Bool),DV w π p y->DV w π (.cU [p,.bool b]) (.tuple #[y,.bool b]):=by
   intro p y b hp
   refine .cU _ _ rfl (λi a v L A=>?_)
   cases i with
   |zero=>simp at L A;subst L A;exact hp
   |succ i=>cases i with
    |zero=>simp at L A;subst L A;exact .bool b
    |succ i=>simp at L
  cases Z<;>simp only[TQ,gg,reduceCtorEq]at A<;>subst A
  ·exact⟨_,no _ (.inl rfl),two _ O⟩
  ·rename_i D av y ab
   by_cases V:D=t
   ·rw[gc V]
    subst V;refine⟨.tuple #[y,.bool true],?_,two _ ab⟩;unfold Instr.typeAssert;simp only[fp,B,fo]
    cases d<;>first|exact absurd rfl (hd _)|simp
   ·rw[fx V]
    exact⟨_,no _ (.inr ⟨D,y,rfl,V⟩),two _ O⟩
theorem Rel.JK(R:Rel P nt n0 w0 π0 U s a w β τ π) (al:¬U id) {B:Nat} {cs:List AV} (hB:w.heap.size<=B) (ab:Below w.heap.size w w') (hp:∀b o,π b o->π' b o) (ad:∀b o,π' b o->π b o\/w.heap.size<=b) (ac:∀b o,π' b o->b<w'.heap.size) (ae:qO (λ_=>undef) w' π' B ⟨cs,[]⟩):
  Rel P nt n0 w0 π0 (dZ U id) {s with boxes:=(id,⟨cs,[]⟩)::s.boxes} a w' (CG β id B) τ π':=by
 have aa:∀b,U b->b≠id:=λb D e=>al (e▸D)
 have A:Rel P nt n0 w0 π0 (dZ U id) s a w' (CG β id B) τ π':=
  R.frame (λb D=>uP _ _ _ (aa b D)) (λ_ _=>rfl) (λn h=>.inl h) hp ad ac ab
 have ak:n0.n<=w.heap.size:=kf R.fc R.below.size
 have hold:∀b x,b9 b s.boxes=some x->CG β id B b≠B:=λb x h=>by
  obtain⟨h1,_,⟨am,el,hh,_⟩,_⟩:=R.boxes b x h;rw[uP _ _ _ (aa b h1)]
  have:=ng hh
  omega
 refine⟨A.size,A.slots,λb x h=>?_,λb V x x' h M e=>?_,A.live,A.cg,λq e' b x h M O=>?_,A.below,A.fc,A.ez,A.eJ,A.cZ,A.l8,A.iV,A.kept⟩
 ·simp only[b9]at h
  by_cases D:b=id
  ·subst D
   simp at h;subst h
   refine⟨.inr rfl,by rw[bP];exact .inl (kf ak hB),?_,λo q h=>by simp[dY]at h⟩
   rw[bP];exact ae.xW
  ·have:(b==id)=false:=by simpa using D
   simp only[this,fb]at h;exact A.boxes b x h
 ·simp only[b9]at h M
  by_cases D:b=id
  ·by_cases L:V=id
   ·rw[D,L]
   ·have Z:(V==id)=false:=by simpa using L
    simp only[Z,fb]at M;subst D;rw[bP]at e;exact absurd e.symm (hold V x' M)
  ·have Z:(b==id)=false:=by simpa using D
   simp only[Z,fb]at h
   by_cases L:V=id
   ·subst L
    rw[bP]at e;exact absurd e (hold b x h)
   ·have ag:(V==id)=false:=by simpa using L
    simp only[ag,fb]at M;exact A.inj b V x x' h M e
 ·simp only[b9]at M
  by_cases D:b=id
  ·subst D
   rw[bP]at O
   have:=((R.live q e' h).2.block O).2
   omega
  ·have Z:(b==id)=false:=by simpa using D
   simp only[Z,fb]at M;exact A.cz q e' b x h M O
theorem tC{w:World} {π:Nat->Nat->Prop}:∀{as A:List (Option AV)} {Bs D:List Nat} {vs L:List Value},ep w π as Bs vs->ep w π A D L->ep w π (as++A) (Bs++D) (vs++L)
 |[],A,[],D,[],L,_,M=>M
 |[],A,B::Bs,D,vs,L,h,M=>by cases vs<;>exact h.elim
 |[],A,[],D,v::vs,L,h,M=>h.elim
 |some a::as,A,Bs,D,[],L,h,M=>by cases Bs<;>cases a<;>exact h.elim
 |some a::as,A,Bs,D,v::vs,L,h,M=>by
  rcases l9 h with⟨rfl,B,Z,rfl,e,O⟩|⟨R,V,O⟩
  ·exact⟨e,tC O M⟩
  ·exact uO R V (tC O M)
 |none::as,A,[],D,vs,L,h,M=>by cases vs<;>exact h.elim
 |none::as,A,B::Bs,D,[],L,h,M=>h.elim
 |none::as,A,B::Bs,D,v::vs,L,h,M=>⟨h.1,tC h.2 M⟩
theorem AS{w:World} {π:Nat->Nat->Prop}:∀{as:List AV} {vs:List Value},iy w π as vs->ep w π (as.map some) [] vs
 |[],[],_=>trivial
 |[],v::vs,h=>by have:=h.1;simp at this
 |a::as,[],h=>by have:=h.1;simp at this
 |a::as,v::vs,h=>AB (h.2 0 a v rfl rfl) (AS ⟨by have:=h.1;simpa using this,λi x u B A=>h.2 (i+1) x u (by simpa using B) (by simpa using A)⟩)
theorem M6(h:c.callee=.value (.func f)) (A:cw P f=true):t6 P c=(f7 c.args).map (if o4 P c.argTypes.toList then .dD f else .call f):=by
 unfold t6;rw[h];simp[A]
theorem JL{q n:Nat} {x:AV} {id:Nat}:∀{l:List (Nat×SV)} {t:Nat} {v:SV},lk t (KY q n x id l)=some v->∃u,lk t l=some u/\v=PX q n x id u
 |[],t,v,h=>by cases h
 |(m,u)::r,t,v,h=>by
  simp only[KY,lk,jh]at h⊢;split at h
  ·rename_i e;cases h;subst e;exact⟨u,TB,rfl⟩
  ·rename_i e;obtain⟨D,A,B⟩:=JL h;exact⟨D,by simp[e,A],B⟩
theorem Rel.made(R:Rel P nt n0 w0 π0 U s a w β τ π) (L:¬U id) (hi:P.info? e=some i) (hz:i.size=1) {c:Nat} (hc:c<=maxLen) (M:cs.size=c):
  Rel P nt n0 w0 π0 (dZ U id) {s with live:=(id,e)::s.live} a (w.alloc (.cells cs e)) β (CG τ id (.slice (some ⟨w.heap.size,0,none⟩) 0 c)) π:=by
 have D:Below w.heap.size w (w.alloc (.cells cs e)):=(Below.refl _ _).alloc (im _) _
 have O:n0.n<=w.heap.size:=kf R.fc R.below.size
 have R1:Rel P nt n0 w0 π0 U s a (w.alloc (.cells cs e)) β τ π:=
  R.frame (λ_ _=>rfl) (λ_ _=>rfl) (λ_ h=>h) (λ_ _ h=>h) (λ_ _ h=>.inl h) (λb o h=>by have:=R.ez b o h;simp;omega) D
 refine R1.rF L (.inr ⟨w.heap.size,0,c,cs,i,rfl,.inl O,Id w _,Nat.zero_le _,hc,hi,by rw[hz,M,px],λo _ V=>?_⟩) (λq e' B Z hB A=>?_) (λb x hb A=>?_)
 ·have:=R.ez _ _ V;omega
 ·have h1:=((R.live q e' Z).2.block hB).2
  simp[iz]at A;omega
 ·have:=R.jS hb
  simp[iz]at A;omega
theorem Rel.copied(R:Rel P nt n0 w0 π0 U s a w β τ π) (a6:¬U id) {e q B cap:Nat} {A:List (List AV)} {cs:List Value} {D:Array Value} (hi:P.info? e=some i) (hz:i.size=1) (aa:dY q s.live=some e) (hτ:τ q=.slice (some ⟨B,0,none⟩) 0 cap) (hn:A.length<=cap) (hh:w.heap[B]? =some (.cells D e (0,0))) (an:n0.ok B) (a3:cap<=maxLen) (ar:D.size=cap) (hfree:∀o,¬π B o) (hy:∀r∈A,r.length=1) (hd:iy w π A.flatten cs) (a5:∀r∈A,∀x∈r,x.scalar=true):
  ∃τ' π',Rel P nt n0 w0 π0 (dZ U id) {s with slots:=KY q A.length (.sl A) id s.slots,live:=(id,e)::lZ q s.live} a (w.setRow B (D.toList.take 0++cs++D.toList.drop (0+cs.length)).toArray) β τ' π':=by
 have ba:cs.length=A.length:=by rw[<-hd.1,iA hy,px]
 generalize Z:(D.toList.take 0++cs++D.toList.drop (0+cs.length)).toArray=cur'
 have au:cur'.size=D.size:=by rw[<-Z];simp;omega
 have a2:∀(j:Nat) (v:Value),cs[j]? =some v->cur'[j]? =some v:=by
  intro j v O
  have hj:j<cs.length:=(e9.1 O).1
  rw[<-Z];simp[km hj,O]
 have ab:∀q' e',dY q' (lZ q s.live)=some e'->iz (τ q')≠some B:=by
  intro q' e' ag V;obtain⟨h1,h2⟩:=jg ag
  exact h2 (R.cg q' q e' e B h1 aa V (by rw[hτ];rfl))
 have ac:∀b x,b9 b s.boxes=some x->β b≠B:=λb x hb e'=>R.cz q e b x aa hb (by rw[hτ,e'];rfl)
 have R1:=(R.H6 q).FJ (m:=A.length) (cur':=cur') an hh (λo ho=>absurd ho (hfree o)) ab ac
 have ao:(w.setRow B cur').heap[B]? =some (.cells cur' e (0,0)):=setRow_heap w _ D _ e _ hh
 have R2:=R1.rF (id:=id) (e:=e) (v:=.slice (some ⟨B,0,none⟩) A.length cap) a6
  (.inr ⟨B,A.length,cap,cur',i,rfl,an,ao,hn,a3,hi,by rw[au,ar,hz,px],λo ho hc=>by
   rw[hz,px]at ho
   rcases hc with h|⟨_,h⟩
   ·exact hfree o h
   ·omega⟩) (λq' e' C ag hC V=>by simp[iz]at V;exact ab q' e' ag (by rw[hC,V])) (λb x hb V=>ac b x hb (by simpa[iz]using V.symm))
 have a4:DV (w.setRow B cur') (grow π B A.length) (.sl A) (.slice (some ⟨B,0,none⟩) A.length cap):=by
  have hmono:∀{x:AV} {v:Value},DV w π x v->DV (w.setRow B cur') (grow π B A.length) x v:=λh=>h.mono (λ_ _ h=>.inl h) (λb o h=>by
   by_cases e':b=B
   ·subst e';exact absurd h (hfree o)
   ·exact Ps w _ cur' ⟨b,o,none⟩ e')
  have ad:∀(i j:Nat) (r:List AV) (x:AV),A[i]? =some r->r[j]? =some x->j=0/\∃v,cs[i]? =some v/\cur'[i]? =some v/\DV w π x v:=by
   intro i j r x L M
   have a8:=hy r (ev L)
   have hj:j=0:=by have:=(e9.1 M).1;omega
   subst hj
   obtain⟨v,O,ae⟩:=hd.get (kj hy L M)
   rw[px,py]at O;exact⟨rfl,v,O,a2 i v O,ae⟩
  refine .sl A B 0 cap 1 (λi j=>cur'.getD i undef) hn (λi r L=>hy r (ev L)) (λi j r x L M=>a5 r (ev L) x (ev M)) (λi j r x L M=>?_) (λi j r x L M=>?_) (λi j r x L M=>?_)
  ·obtain⟨rfl,_⟩:=ad i j r x L M
   exact .inr ⟨rfl,by have:=(e9.1 L).1;omega⟩
  ·obtain⟨rfl,v,_,O,_⟩:=ad i j r x L M
   rw[la,px,py,ww _ _ _ cur' e (0,0) ao,O];simp[O]
  ·obtain⟨rfl,v,_,O,ae⟩:=ad i j r x L M
   simp only[sT,O,tt];exact hmono ae
 refine⟨_,_,{R2 with slots:=λt v O=>?_}⟩
 obtain⟨u,hu,rfl⟩:=JL O;obtain⟨⟨x,M,L⟩,am⟩:=R2.slots t u hu
 cases u with
 |raw q' n'=>
  by_cases ak:q'=q/\n'=A.length
  ·obtain⟨rfl,rfl⟩:=ak
   simp only[PX,nl,wn,gs];obtain⟨⟨x2,al,B',a7,h1,h2,h3⟩,a9⟩:=R.slots t _ hu;rw[M]at al;cases al;rw[hτ]at h1;simp only[Value.slice.injEq,gg,Addr.mk.injEq]at h1;obtain⟨⟨rfl,_⟩,_,rfl⟩:=h1
   refine⟨⟨x,M,?_,λt ht=>?_⟩,.inr rfl⟩
   ·rw[h2];exact a4
   ·cases ht;rw[bP,h2]
  ·have hb:(q'==q&&n'==A.length)=false:=by
    rw[EQ];intro h;simp only[dT,lc]at h;exact ak h
   simp only[PX,hb,fb];exact⟨⟨x,M,L⟩,am⟩
 |_=>exact⟨⟨x,M,L⟩,am⟩
theorem Rel.Ql(R:Rel P nt n0 w0 π0 U s a w β τ π) {O:Value} {X Y:Operand} (ht:P.underlying t=some (.slice e)) (hi:P.info? e=some i) (hz:i.zero=some O) (V:(0<i.size&&O.cells.size==i.size&&0<i.bytes)=true) (hx:bV X=some (.k .bF)) (hy:bV Y=some y) (ar:¬U id) (ty:TypeId) {X':AV->S->Prop} (h:ew (Pure P) id (.apn e i.size i.bytes y) K X' s):
  ∃v u s' w' β' π',(Builtin.append_ #[t,t] ty #[a.eval X,a.eval Y]).run P w=.ok u w'/\RV β' τ w' π' v u/\v.fJ (dZ U id)/\K v s'/\Rel P nt n0 w0 π0 (dZ U id) s' a w' β' τ π':=by
 simp only[dT,gn,lc]at V;obtain⟨⟨a2,a3⟩,an⟩:=V;simp only[ew]at h;obtain⟨b,hb,h⟩:=af h;obtain⟨D,L,⟨M,hbytes⟩,aa,hK⟩:=af h
 have al:a.eval X=.slice none 0 0:=by
  have:=(R.bK hx (show Eng.bK s (.k .bF)=some (.dat .bF none)from rfl)).1.1
  generalize a.eval X=v at this;cases this;rfl
 have Z:=R.aF hy hb
 simp only[C2,mf,dT,lc]at aa
 have ao:∀r∈D,r.length=i.size:=λr hr=>(aa r hr).1
 have ac:0<D.length:=List.length_pos_iff.2 M
 obtain⟨A,c,am,news,hl,hcell,au,ab,ad⟩:∃(A:Addr) (c:Nat),a.eval Y=.slice (some A) D.length c/\∃news:List Value,news.length=D.length*i.size/\(∀j u,news[j]? =some u->w.cell? (A.add j)=some u)/\(∀u∈news,u.oneCell'=true)/\iy w π D.flatten news/\∀r∈D,∀x∈r,x.scalar=true:=by
  cases b<;>simp only[rowsOf]at L<;>try(cases L;done)
  ·cases L;exact absurd rfl M
  ·cases L
   generalize a.eval Y=v at Z
   cases Z with
   |K1 A=>exact absurd rfl M
   |sl _ B off cap z f h1 h2 h3 h4 h5 h6=>
    obtain⟨_,hn⟩:=DV.news (.sl D B off cap z f h1 h2 h3 h4 h5 h6) ao
    exact⟨⟨B,off,none⟩,cap,rfl,hn⟩
 have ae:D.length<=maxLen:=by
  have:=Hm D.length an
  simp only[maxLen];omega
 have ag:=run_append_nil (P:=P) w t ty e i O ht hi hz A D.length c news hl hcell ac (by simp only[maxLen]at ae;omega) ST
 have R':=R.draw.HY ar (cells:=D.flatten) (cs:=news.toArray++Builtin.zeroCells O.cells (grownCap w D.length 0 e-D.length)) e (by
   have:(news.toArray++Builtin.zeroCells O.cells (grownCap w D.length 0 e-D.length)).toList.take D.flatten.length=news:=by
    simp only[Array.toList_append];exact IO ab.1.symm
   rw[this]
   exact iy.mono (w:=w) (w':=w.drew) (π:=π) (λ_ _ h=>h) (λ_ _ _=>rfl) ab) (λx hx=>by
   obtain⟨r,hr,ak⟩:=Ix.1 hx
   exact ad r hr x ak)
 refine⟨.vs id 0 D.length i.size,_,_,_,_,_,by rw[al,am];exact ag,?_,.inr rfl,hK,R'⟩
 refine⟨grownCap w D.length 0 e,grownCap_ge w D.length 0 e,?_⟩;rw[bP];rfl
theorem Rel.Qm(R:Rel P nt n0 w0 π0 U s a w β τ π) (ao:¬U id) {rows:List (List AV)} {e z:Nat} (M:Below w.heap.size w w') (hd:DV w' π' (.sl rows) v) (ag:D7 P w' π' (λB=>w.heap.size<=B) e v) (hf:C2 z rows=true):
  ∃β',Rel P nt n0 w0 π0 (dZ U id) {s with boxes:=(id,⟨rows.flatten,[]⟩)::s.boxes} a w' β' τ π/\RV β' τ w' π (.vs id 0 rows.length z) v:=by
 simp only[C2,mf,dT,lc]at hf
 rcases ag with rfl|⟨B,len,cap,A,i,rfl,hB,hh,am,ar,hi,au,hfree⟩
 ·cases hd
 obtain⟨ad,news,hl,hcell,_,V,an⟩:=DV.news hd (λr Z=>(hf r Z).1)
 subst ad
 have L:∀(j:Nat) (u:Value),news[j]? =some u->A[j]? =some u:=by
  intro j u hu
  have:=hcell j u hu
  rw[gG,la,ww w' B j A e (0,0) hh]at this;exact this
 have ae:∀b o,π b o->b<w'.heap.size:=λb o h=>po (R.ez b o h) M.size
 have al:qO (λ_=>undef) w' π B ⟨rows.flatten,[]⟩:=by
  refine⟨A,e,hh,⟨?_,λj x u D hu=>?_⟩,λx D=>?_,λo q hq=>by simp[dY]at hq,λo ho=>by have:=R.ez _ _ ho;omega⟩
  ·have a2:news.length<=A.size:=by
    rcases ix A.size news.length with h|h
    ·exfalso
     have:=L A.size news[A.size] (et h)
     rw[Ax (im _)]at this;cases this
    ·exact h
   simp only[GE,Array.length_toList,V.1];omega
  ·have hj:j<rows.flatten.length:=by
    rcases ix j rows.flatten.length with h|h
    ·exact h
    ·simp only[]at D;rw[iv h]at D;cases D
   simp only[]at D hu;rw[rh hj]at hu
   have aa:j<news.length:=by rw[<-V.1];exact hj
   have ac:=L j news[j] (et aa)
   have:u=news[j]:=by
    have h2:A[j]? =some u:=by simpa using hu
    rw[h2]at ac;exact(vx ac)
   subst this
   have ak:=V.2 j x _ D (et aa)
   have ab:iT x=true:=by
    obtain⟨r,Z,O⟩:=Ix.1 (ev D)
    exact(hf r Z).2 x O
   rw[FP ak ab];exact DV.iT ab
  ·obtain⟨r,Z,O⟩:=Ix.1 D
   exact an r Z x O
 refine⟨CG β id B,R.JK ao hB M (λ_ _ h=>h) (λ_ _ h=>.inl h) ae al,cap,?_,?_⟩
 ·cases hd<;>first|exact am|omega
 ·rw[bP]
theorem Qn{e z b:Nat} (h:t6 P c=some (.app e z b (.k .bF) y)):∃t O M i B,c.callee=.builtin .append/\c.argTypes.toList=[t,t]/\c.args.toList=[O,M]/\P.underlying t=some (.slice e)/\bV O=some (.k .bF)/\bV M=some y/\
  P.info? e=some i/\i.zero=some B/\(0<i.size&&B.cells.size==i.size&&0<i.bytes)=true/\i.size=z/\i.bytes=b:=by
 obtain⟨callee,args,argTypes⟩:=c;unfold t6 at h;split at h
 ·split at h
  ·simp only[em]at h
   obtain⟨_,_,h⟩:=h
   split at h<;>cases h
  ·split at h<;>try(cases h;done)
   simp only[em]at h;obtain⟨_,_,h⟩:=h;cases h
 ·split at h<;>try(cases h;done)
  simp only[gg]at h
  split at h<;>cases h
 ·split at h<;>try(cases h;done)
  split at h<;>try(cases h;done)
  simp only[em]at h;obtain⟨_,_,h⟩:=h;cases h
 ·rename_i A
  split at h<;>try(cases h;done)
  rename_i t t' x y' hT hX
  split at h<;>try(cases h;done)
  rename_i L;subst L
  split at h<;>try(cases h;done)
  rename_i e' x' aa ht hx R
  split at h<;>try(cases h;done)
  rename_i i Z
  split at h<;>try(cases h;done)
  rename_i B V
  split at h<;>try(cases h;done)
  rename_i D;cases h;exact⟨_,_,_,i,B,A,hT,hX,ht,hx,R,Z,V,D,rfl,rfl⟩
 ·simp only[em]at h
  obtain⟨_,_,h⟩:=h;cases h
 ·simp only[em]at h
  obtain⟨_,_,h⟩:=h;cases h
 ·cases h
theorem Ie(R:Rel P nt n0 w0 π0 U s a w β τ π) {c:Fu} (ae:¬U id) (L:PY P o.op=some c) (h:ew (Pure P) id c K X s) (hn:∀v s' x w' β' τ' π',K v s'->RV β' τ' w' π' v x->v.fJ (dZ U id)->Rel P nt n0 w0 π0 (dZ U id) s' a w' β' τ' π'->next (a.put o.dst x) w') (hx:∀p s' w' β' τ' π',X p s'->Rel P nt n0 w0 π0 (dZ U id) s' a w' β' τ' π'->Q (.panic (jd p)) a w'):o.wp P a w next Q:=by
 obtain⟨dst,op,D,pos,after,guard⟩:=o;simp only at L
 have bi:∀n,U n->dZ U id n:=λn h=>.inl h
 have fin:∀{v:SV} {y:Value},(execOp a.eval ⟨dst,op,D,pos,after,guard⟩).run P w=.ok (.value y) w->RV β τ w π v y->v.fJ U->K v s->Oper.wp P ⟨dst,op,D,pos,after,guard⟩ a w next Q:=by
  intro v y M hv hu hK;unfold Oper.wp;rw[M];exact hn v s y w β τ π hK hv (SV.mb bi hu) (R.sub bi)
 have al:∀{v:AV} {y:Value},(execOp a.eval ⟨dst,op,D,pos,after,guard⟩).run P w=.ok (.value y) w->DV w π v y->K (.dat v none) s->Oper.wp P ⟨dst,op,D,pos,after,guard⟩ a w next Q:=
  λ{v y} M hv hK=>fin (v:=.dat v none) M ⟨hv,λt ht=>by cases ht⟩ trivial hK
 -- a function is entered that raises
 have raise:∀{f:Nat} {ids:List Nat} {css aa:List (List AV)} {ab:List (Option AV)} {vs:List Value} {p:AV},S4 P f css ab p aa->ids.Nodup->aV s.boxes ids=some css->ep w π ab (ids.map β) vs->
   (execOp a.eval ⟨dst,op,D,pos,after,guard⟩).run P w=.ok (.enter f vs.toArray) w->X p {s with boxes:=dJ ids aa s.boxes}->Oper.wp P ⟨dst,op,D,pos,after,guard⟩ a w next Q:=by
  intro f ids css aa ab vs p hq ak O ac M hX;obtain⟨a5,a9,_,hq⟩:=hq;unfold Oper.wp;rw[M,wc];refine(hq w π (ids.map β) vs R.ez (R.nodup ak O) (R.o6 O) ac).mono ?_
  rintro e w' ⟨π',rfl,Z,ao,an,am,a2⟩
  obtain⟨τ',_,R'⟩:=R.vU (fr:=none) ae ak O a9 Z ao an am a2 DV.m5 (λt ht=>by cases ht)
  exact hx _ _ _ _ _ _ hX R'
 -- a function is entered that takes a token,or leaves one
 have c1:∀{f:Nat} {ids:List Nat} {css:List (List AV)} {ab:List (Option AV)} {vs:List Value},Jp (Pure P) f css ab ids id s.boxes s.live (λv bx lv=>K v {s with boxes:=bx,live:=lv})->ids.Nodup->aV s.boxes ids=some css->ep w π ab (ids.map β) vs->
   (cw P f=true->(execOp a.eval ⟨dst,op,D,pos,after,guard⟩).run P w=.ok (.enter f vs.toArray) w)->Oper.wp P ⟨dst,op,D,pos,after,guard⟩ a w next Q:=by
  intro f ids css ab vs hT ak O ac M;obtain⟨tg,r,aa,d1,hp,hT⟩:=hT;obtain⟨qo,dq,hK⟩:=af hT
  have hp:S5 P f css tg ab r aa d1:=hp
  obtain⟨a5,a9,_,hp⟩:=hp;obtain⟨tv,d0,dp⟩:=R.K2 O dq;unfold Oper.wp;rw[M a5,wc];refine(hp w π (ids.map β) vs tv R.ez (R.nodup ak O) (R.o6 O) ac d0).mono ?_
  rintro e w' ⟨v,π',eg,rfl,Z,ao,an,am,cv,a2,ba,bd⟩
  obtain⟨τ',a8,R'⟩:=R.Qb ae ak O a9 dp Z ao an am cv a2 ba bd;exact hn _ _ _ _ _ _ _ hK a8 trivial R'
 cases op<;>simp only[PY]at L<;>try(cases L;done)
 case binOp op t x y yt=>
  unfold Xn at L
  split at L<;>try(cases L;done)
  all_goals
   split at L<;>try(cases L;done)
   rename_i hs;simp only[em]at L;obtain⟨x',V,rfl⟩:=L;simp only[ew]at h;obtain⟨av,ad,h⟩:=af h;obtain⟨b,hb,hK⟩:=af h
  ·have M:=JI (P:=P) (X:=x) (.inl ⟨rfl,rfl⟩) hs hb (R.aF V ad)
   exact al (by simp only[execOp];rw[fp];refine(pb (λr=>Result.andThen r _) M).trans ?_;rfl) (.bool _) hK
  ·have M:=JI (P:=P) (X:=x) (.inr ⟨rfl,rfl⟩) hs hb (R.aF V ad)
   exact al (by simp only[execOp];rw[fp];refine(pb (λr=>Result.andThen r _) M).trans ?_;rfl) (.bool _) hK
  ·have M:=JJ (P:=P) (X:=x) (.inl ⟨rfl,rfl⟩) hs hb (R.bK V ad).1
   exact al (by simp only[execOp];rw[fp];refine(pb (λr=>Result.andThen r _) M).trans ?_;rfl) (.bool _) hK
  ·have M:=JJ (P:=P) (X:=x) (.inr ⟨rfl,rfl⟩) hs hb (R.bK V ad).1
   exact al (by simp only[execOp];rw[fp];refine(pb (λr=>Result.andThen r _) M).trans ?_;rfl) (.bool _) hK
 case makeSlice t l c=>
  split at L<;>try(cases L;done)
  rename_i e l' c' ht hl a7
  split at L<;>try(cases L;done)
  rename_i i hi
  split at L<;>try(cases L;done)
  rename_i au;cases L;simp only[dT,lc,gn,Pl]at au;obtain⟨⟨hz,zv,db⟩,ec⟩:=au;simp only[ew]at h;obtain⟨av,ad,h⟩:=af h;obtain⟨li,du,h⟩:=af h;obtain⟨bv,dl,h⟩:=af h;obtain⟨ci,dj,hb,hK⟩:=af h;obtain⟨kl,dx⟩:=R.idx hl ad du
  obtain⟨kc,dd⟩:=R.idx a7 dl dj;obtain⟨b0,b1,b2⟩:=hb
  have b3:ci<=140737488355328:=by
   have:ci*1<=ci*(i.bytes:Int):=Int.mul_le_mul_of_nonneg_left ST ST
   omega
  have M:=run_make (P:=P) w t e i zv ht hi db kl kc li ci b0 b1 (by rw[Int.mul_comm];omega) ST
  have da:(execOp a.eval ⟨dst,.makeSlice t l c,D,pos,after,guard⟩).run P w=.ok (.value (.slice (some ⟨w.heap.size,0,none⟩) li.toNat ci.toNat)) (w.alloc (.cells (madeCells zv.cells (ci.toNat*i.size)) e)):=by
   simp only[execOp,dx,dd,fp,M,fo,i8]
  unfold Oper.wp;rw[da]
  exact hn _ _ _ _ _ _ _ hK (show RV β _ _ π (.raw id li.toNat) _ from⟨w.heap.size,ci.toNat,bP ..,rfl,ST⟩) (.inr rfl) (R.made ae hi hz (by simp only[maxLen];omega) (by rw[size_madeCells,hz,px]))
 case makeInterface t x=>
  split at L<;>try(cases L;done)
  rename_i a6;simp only[em]at L;obtain⟨x',V,rfl⟩:=L;simp only[ew]at h;obtain⟨av,ad,ed,hK⟩:=af h;simp only[ml,not_or,P0]at a6
  cases hu:P.underlying t with
  |none=>rw[hu]at a6;simp at a6
  |some d=>
   have ea:(underlying t).run P w=.ok d w:=jj hu
   have hd:∀ms,d≠.interface ms:=λms e=>by subst e;simp[o5,hu]at a6
   refine al (y:=.iface t (a.eval x)) ?_ (.iface t av _ (R.aF V ad)) hK
   have:(Instr.makeInterface t (a.eval x)).run P w=.ok (.iface t (a.eval x)) w:=by
    unfold Instr.makeInterface;simp only[fp,ea,fo]
    cases d<;>first|exact absurd rfl (hd _)|rfl
   simp only[execOp,fp,this,fo,i8]
 case makeFunc fn first caps=>
  cases fn<;>simp only[]at L<;>try(cases L;done)
  rename_i f
  split at L<;>try(cases L;done)
  rename_i au;simp only[dT]at au;simp only[em]at L;obtain⟨xs,ag,rfl⟩:=L;simp only[ew]at h;obtain⟨⟨ab,ids⟩,ar,hK⟩:=af h
  have hf:first=#[]:=by simpa[Array.isEmpty_iff]using au.1.1
  subst hf
  have d2:=(R.dS (by simpa[f7]using ag) ar).1
  have M:(execOp a.eval ⟨dst,.makeFunc (.func f) #[] caps,D,pos,after,guard⟩).run P w=.ok (.value (.func (.func f) #[] (caps.map a.eval))) w:=by simp[execOp,Instr.makeFunc]
  refine fin M (v:=.tW f ab ids) ⟨caps.map a.eval,rfl,by simpa using d2⟩ (λb hb=>?_) hK
  obtain⟨t,_,v,hl,hv⟩:=iB ar b hb;exact SV.Db hv (R.slots t _ hl).2
 case typeAssert x xt t ok=>
  cases ok<;>simp only[]at L<;>try(cases L;done)
  split at L<;>try(cases L;done)
  rename_i a6
  split at L<;>try(cases L;done)
  rename_i z x' hz V;cases L;simp only[ew]at h;obtain⟨av,ad,h⟩:=af h;obtain⟨v,hv,hK⟩:=af h
  obtain⟨u,hu,hd⟩:=Qk (P:=P) (xt:=xt) hz (by simpa only[P0]using a6) hv (R.aF V ad)
  exact al (by simp only[execOp,fp,hu,fo,i8]) hd hK
 case panic x=>
  simp only[em]at L;obtain⟨x',V,rfl⟩:=L;simp only[ew]at h;obtain⟨av,ad,cb,hX⟩:=af h
  have hd:=R.aF V ad
  cases av<;>simp only[As]at cb<;>try(cases cb;done)
  rename_i t b
  have he:a.eval x=.iface t (vJ b):=by
   generalize a.eval x=u at hd
   cases hd with
   |iface _ _ v hd=>rw[Qj hd cb]
  unfold Oper.wp
  have M:(execOp a.eval ⟨dst,.panic x,D,pos,after,guard⟩).run P w=.halt (.panic (.iface t (vJ b))) w:=by
   simp[execOp,he,Instr.panic,goPanic]
  rw[M];exact hx _ _ _ _ _ _ hX (R.sub bi)
 case call cl=>
  split at L
  ·rename_i y hy
   cases L;unfold TY at hy
   split at hy<;>try(cases hy;done)
   rename_i e z b y' a7;cases hy;obtain⟨t,Xo,Yo,i,zv,b8,hT,hX,ht,V,cr,hi,hz,ce,rfl,rfl⟩:=Qn a7;obtain⟨callee,args,argTypes⟩:=cl;obtain⟨v,u,s',w',β',π',M,hv,hu,hK,R'⟩:=R.Ql ht hi hz ce V cr ae D h
   have eT:argTypes=#[t,t]:=lj.1 (by simpa using hT)
   have eX:args=#[Xo,Yo]:=lj.1 (by simpa using hX)
   simp only at b8;subst eT eX b8;unfold Oper.wp
   have:(execOp a.eval ⟨dst,.call ⟨.builtin .append,#[Xo,Yo],#[t,t]⟩,D,pos,after,guard⟩).run P w=.ok (.value u) w':=by
    simp[execOp,resolve,invoke,builtin,M]
   rw[this];exact hn v s' u w' β' τ π' hK hv hu R'
  rename_i di;clear di;obtain⟨callee,args,argTypes⟩:=cl
  have ek:=L
  have e1:(args.toList.map a.eval).toArray=args.map a.eval:=lj.1 TB
  simp only[MM]at L
  split at L<;>try(cases L;done)
  ·rename_i f
   split at L<;>try(cases L;done)
   rename_i bm;simp only[em]at L;obtain⟨xs,ag,cp⟩:=L
   have a7:=M6 (P:=P) (c:=⟨.value (.func f),args,argTypes⟩) rfl bm
   have M:(execOp a.eval ⟨dst,.call ⟨.value (.func f),args,argTypes⟩,D,pos,after,guard⟩).run P w=.ok (.enter f (args.toList.map a.eval).toArray) w:=by
    rw[e1];simp[execOp,resolve,Act.eval,Deferred.ofValue,invoke,ff bm]
   split at cp
   ·rename_i hp
    subst cp;simp only[ew]at h
    rcases h with h|h
    ·exact tu R ae (by simp only[PI];rw[a7,gc hp];simp[ag]) h hn
    ·obtain⟨⟨ab,ids⟩,ar,ak,h⟩:=af h
     obtain⟨css,O,h⟩:=af h
     rcases h with⟨p,aa,hq,hX⟩|hT
     ·exact raise hq (eH ak) O (R.dS (by simpa[f7]using ag) ar).1 M hX
     ·exact c1 hT (eH ak) O (R.dS (by simpa[f7]using ag) ar).1 λ_=>M
   ·rename_i hp
    subst cp;simp only[ew]at h
    rcases h with h|h
    ·exact tu R ae (by simp only[PI];rw[a7,fx hp];simp[ag]) h hn
    ·obtain⟨as,has,h⟩:=af h
     have hd:=R.dQ (by simpa[f7]using ag) has
     rcases h with⟨cs,ca,hK⟩|⟨p,hq,hX⟩|⟨rows,e,z,ct,df,hK⟩
     rotate_right
     ·obtain⟨_,ct⟩:=ct
      unfold Oper.wp;rw[M,wc];refine(ct w π _ R.ez hd).mono ?_
      rintro e' w' ⟨v,π',rfl,Z,ao,an,am,ba,bd⟩
      obtain⟨β',R',a8⟩:=R.Qm ae Z ba (bd e rfl) df
      exact hn _ _ _ _ _ _ _ hK a8 (.inr rfl) R'
     ·obtain⟨_,ca⟩:=ca
      unfold Oper.wp;rw[M,wc];refine(ca w π _ R.ez hd).mono ?_
      rintro e w' ⟨B,π',rfl,hB,Z,ao,an,am,a2⟩
      have R':=R.JK ae hB Z ao an am a2
      exact hn _ _ _ _ _ _ _ hK (show RV (CG β id B) τ _ π' (.ptr id 0) _ by simp[RV,bP]) (.inr rfl) R'
     ·exact raise (ids:=[]) (css:=[]) hq List.nodup_nil rfl (AS hd) M hX
  ·rename_i g
   simp only[em]at L;obtain⟨xs,ag,rfl⟩:=L;simp only[ew]at h
   have c0:bV (.tmp g)=some (.t g):=rfl
   have old:bB (Pure P) id (if o4 P argTypes.toList then .fQ (.t g) xs else .jx (.t g) xs) K s->Oper.wp P ⟨dst,.call ⟨.value (.tmp g),args,argTypes⟩,D,pos,after,guard⟩ a w next Q:=λh=>
    tu R ae (by simp only[PI,t6,c0,ag]) h hn
   split at h
   ·rename_i f as bs hl
    obtain⟨⟨us,he,be⟩,_⟩:=R.bK c0 hl;obtain⟨⟨ab,ids⟩,ar,ak,h⟩:=af h;obtain⟨css,O,h⟩:=af h
    have a3:=eH ak
    have ac:=tC (R.dS (by simpa[f7]using ag) ar).1 be
    rw[<-np]at ac
    have M:cw P f=true->(execOp a.eval ⟨dst,.call ⟨.value (.tmp g),args,argTypes⟩,D,pos,after,guard⟩).run P w=.ok (.enter f (args.toList.map a.eval++us.toList).toArray) w:=λa5=>by
     have e2:(args.toList.map a.eval++us.toList).toArray=args.map a.eval++us:=lj.1 TB
     rw[e2];simp[execOp,resolve,he,Deferred.ofValue,invoke,ff a5]
    rcases h with⟨r,fr,aa,hp,hK⟩|⟨p,aa,hq,hX⟩|hT
    ·have hp:AA P f css (ab++as) r fr aa:=hp
     obtain⟨a5,a9,_,hp⟩:=hp;unfold Oper.wp;rw[M a5,wc];refine(hp w π ((ids++bs).map β) _ R.ez (R.nodup a3 O) (R.o6 O) ac).mono ?_
     rintro e w' ⟨v,π',rfl,Z,ao,an,am,a2,ba,bd⟩
     obtain⟨τ',a8,R'⟩:=R.vU ae a3 O a9 Z ao an am a2 ba bd
     exact hn _ _ _ _ _ _ _ hK a8 (by cases fr with|none=>trivial|some e=>exact .inr rfl) R'
    ·exact raise hq a3 O ac (M hq.1) hX
    ·exact c1 hT a3 O ac M
   ·exact old h
  ·split at L<;>try(cases L;done)
   rename_i t t' x y hT hX
   split at L<;>try(cases L;done)
   rename_i e x' y' ht V cr
   split at L<;>try(cases L;done)
   rename_i ce;cases L;simp only[ew]at h;obtain⟨p,hp,h⟩:=af h
   cases p<;>try(exact h.elim)
   rename_i q n;obtain⟨b,hb,h⟩:=af h;obtain⟨ys,co,⟨dy,cx⟩,bo,hK⟩:=af h;obtain⟨⟨B,cap,hτ,hv,be⟩,eh⟩:=R.bK V hp
   have a4:(P.info? e).map (·.size)=some 1:=by simpa[eI]using ce
   obtain⟨i,hi,hz⟩:∃i,P.info? e=some i/\i.size=1:=by
    cases hq:P.info? e with
    |none=>simp[hq]at a4
    |some i=>exact⟨i,rfl,by simpa[hq]using a4⟩
   obtain⟨_,c3⟩:=R.live q e bo
   rcases c3 with b7|⟨B',len,eb,b4,i',ck,au,hh,_,dk,cy,bj,hfree⟩
   ·rw[hτ]at b7;cases b7
   rw[hτ]at ck;simp only[Value.slice.injEq,gg,Addr.mk.injEq]at ck;obtain⟨⟨rfl,_⟩,rfl,rfl⟩:=ck
   have d3:i'=i:=by rw[hi]at cy;exact(vx cy).symm
   subst d3;rw[hz,px]at bj;subst dy
   have b5:=R.aF cr hb
   have b6:∀o,¬π B o:=λo=>hfree o ST
   have eT:argTypes=#[t,t']:=lj.1 (by simpa using hT)
   have eX:args=#[x,y]:=lj.1 (by simpa using hX)
   subst eT eX
   have go:∀(cs:List Value) (w':World),iy w π ys.flatten cs->(∀r∈ys,∀x∈r,x.scalar=true)->w'=w.setRow B (b4.toList.take 0++cs++b4.toList.drop (0+cs.length)).toArray->
     (Builtin.copy_ #[t,t'] D #[a.eval x,a.eval y]).run P w=.ok (goInt ys.length) w'->Oper.wp P ⟨dst,.call ⟨.builtin .copy,#[x,y],#[t,t']⟩,D,pos,after,guard⟩ a w next Q:=by
    intro cs w' hd ch hw c4;obtain⟨τ',π',R'⟩:=R.copied ae hi hz bo hτ be hh au dk bj b6 cx hd ch
    have M:(execOp a.eval ⟨dst,.call ⟨.builtin .copy,#[x,y],#[t,t']⟩,D,pos,after,guard⟩).run P w=.ok (.value (goInt ys.length)) w':=by
     simp[execOp,resolve,invoke,builtin,c4]
    unfold Oper.wp;rw[M];subst hw
    exact hn (.dat (.int .i64 ys.length) none) _ _ _ _ _ _ hK ⟨.int .i64 _,λt ht=>by cases ht⟩ trivial R'
   cases b<;>simp only[rowsOf,gg,reduceCtorEq]at co
   ·subst co
    generalize cu:a.eval y=vy at b5;cases b5
    refine go [] w ⟨rfl,λi a v h=>by simp at h⟩ TB ?_ ?_
    ·have:=setRow_self w B b4 e (0,0) hh
     simpa using this.symm
    ·rw[hv,cu]
     exact run_copy_nil (P:=P) w t t' D e _ _ _ ht (by rw[a4];rfl)
   ·rename_i l
    subst co;generalize cu:a.eval y=vy at b5
    have row:∀(A:Addr) (m c:Nat) (cs:List Value),vy=.slice (some A) m c->m=l.length->cs.length=m->(∀j u,cs[j]? =some u->w.cell? (A.add j)=some u)->(∀u∈cs,u.oneCell'=true)->iy w π l.flatten cs->(∀r∈l,∀x∈r,x.scalar=true)->
      Oper.wp P ⟨dst,.call ⟨.builtin .copy,#[x,y],#[t,t']⟩,D,pos,after,guard⟩ a w next Q:=by
     intro A m c cs e1 e2 e3 c6 dt hd ch;refine go cs _ hd ch rfl ?_;rw[hv,cu,e1]
     have:=run_copy_row (P:=P) w t t' D e B 0 l.length cap A m c b4 e cs ht a4 hh (by rw[e3,e2];exact(Nat.min_self _).symm) c6 (by rw[bj];omega) dt
     rw[this,e3,e2]
    cases b5 with
    |K1 A=>exact row A 0 0 [] rfl rfl rfl (λj u h=>by simp at h) TB ⟨rfl,λi a v h=>by simp at h⟩ TB
    |sl _ B2 c2 c5 z2 f2 g1 g2 g3 g4 g5 g6=>
     obtain⟨hm,news,k1,k2,k3,k4,k5⟩:=DV.news (DV.sl l B2 c2 c5 z2 f2 g1 g2 g3 g4 g5 g6) cx
     exact row _ _ _ news rfl rfl (by rw[k1,px]) k2 k3 k4 k5
theorem AT(R:Rel P nt n0 w0 π0 U s a w β τ π):∀{Xs:List Operand} {xs:List bn} {ps:List (Nat×Nat)},Xs.mapM bV=some xs->Fy s xs=some ps->
  Xs.map a.eval=(ps.map λp=>Value.pointer (some ⟨β p.1,p.2,none⟩))/\∀p∈ps,U p.1
 |[],xs,ps,B,A=>by
  simp at B;subst B;simp[Fy]at A;subst A
  exact⟨rfl,TB⟩
 |X::Xs,xs,ps,B,A=>by
  simp only[vd,p7,kb,xf,gg]at B;obtain⟨x,B,aa,L,rfl⟩:=B;simp only[Fy]at A
  split at A<;>try(cases A;done)
  rename_i b o ab Z O;cases A;obtain⟨h3,V⟩:=AT R L O;obtain⟨h5,M⟩:=R.bK B Z
  refine⟨by simp only[l4,h3];exact pb (· ::_) h5,λp D=>?_⟩
  rcases lw.1 D with rfl|D
  ·exact M
  ·exact V p D
theorem Rel.hold(R:Rel P nt n0 w0 π0 U s a w β τ π) (e:TypeId) {ps:List (Nat×Nat)} (D:∀(i:Nat) (p:Nat×Nat),ps[i]? =some p->cs[i]? =some (.pointer (some ⟨β p.1,p.2,none⟩))):
  ∃π',Rel P nt n0 w0 π0 U s a (w.alloc (.cells cs e)) β τ π'/\∀(i:Nat) (p:Nat×Nat),ps[i]? =some p->π' w.heap.size (0+i)/\(w.alloc (.cells cs e)).cell? ⟨w.heap.size,0+i,none⟩=some (.pointer (some ⟨β p.1,p.2,none⟩)):=by
 have A:Below w.heap.size w (w.alloc (.cells cs e)):=(Below.refl _ _).alloc (im _) _
 refine⟨λB o=>π B o\/(B=w.heap.size/\o<cs.size),R.frame (λ_ _=>rfl) (λ_ _=>rfl) (λ_ h=>h) (λ_ _ h=>.inl h) (λb o h=>?_) (λb o h=>?_) A,λi p L=>?_⟩
 ·rcases h with h|⟨rfl,_⟩
  ·exact .inl h
  ·exact .inr (im _)
 ·rcases h with h|⟨rfl,_⟩
  ·have:=R.ez b o h;simp;omega
  ·simp
 ·have h:=D i p L
  have M:i<cs.size:=(kd.1 h).1
  rw[la]
  exact⟨.inr ⟨rfl,M⟩,by rw[ww _ _ i cs e (0,0) (Id w _)];simpa using h⟩
theorem De:∀(l:List (Nat×Value)) (k:Nat) (us:Array Value),l.map (·.1)=(List.range l.length).map (· +k)->(∀p∈l,p.2.cells.toList=[p.2])->us.size=k+l.length->
  ∃A,Instr.fill (λi=>some (i*1,1)) us l=some A/\A.toList=us.toList.take k++l.map (·.2)
 |[],k,us,_,_,M=>⟨us,rfl,by simp at M⊢;rw[my (by simp;omega)]⟩
 |(i,v)::l,k,us,h1,Z,M=>by
  have hi:i=k:=by
   have:=pb (λl=>l[0]?) h1
   simpa using this
  subst hi
  have V:l.map (·.1)=(List.range l.length).map (· +(i+1)):=by
   have B:=pb List.tail h1
   simp only[l4,List.tail_cons,fl,List.range_succ_eq_map,List.map_map]at B;rw[B]
   apply ti
   intro q _;simp;omega
  have L:=Z (i,v) TB
  simp only at L
  have D:v.cells.size=1:=by have:=pb List.length L;simpa using this
  simp only[fl]at M
  obtain⟨R,he,O,aa⟩:=tq (place:=λi=>some (i*1,1)) (cells:=us) (i:=i) (off:=i*1) (v:=v) (rest:=l) (by rw[D]) (by rw[D];omega)
  obtain⟨A,hf,hd⟩:=De l (i+1) R V (λp hp=>Z p (ii _ hp)) ST
  refine⟨A,by rw[he];exact hf,?_⟩
  have e:(us.toList.take i++[v]++us.toList.drop (i+[v].length)).take (i+1)=us.toList.take i++[v]:=IO (by simp;omega)
  rw[hd,O,L,px,e];simp
theorem Df{b:Nat} {x:cI}:∀{l:List (Nat×cI)},kS b (nK b x l)=kS b l
 |[]=>rfl
 |(m,v)::r=>by
  simp only[nK,kS,jh];split
  ·rename_i e;subst e;simp[kS]
  ·rename_i e
   have:(b==m)=false:=by simpa using e
   simp[kS,this,Df (l:=r)]
theorem FQ{b:Nat} {ps:List (Nat×Nat)}:∀{l:List (Nat×SV)} {t:Nat},lk t (C1 b ps l)=(lk t l).map (MD b ps)
 |[],t=>rfl
 |(m,u)::r,t=>by
  simp only[C1,lk,jh];split
  ·rfl
  ·exact FQ
theorem Rel.Qo(R:Rel P nt n0 w0 π0 U s a w β τ π) {b:Nat} {x:cI} (hb:b9 b s.boxes=some x) (h4:4<=b) {p:Nat×Nat} (hU:U p.1) (hcell:w.cell? ⟨β b,0,none⟩=some (.pointer (some ⟨β p.1,p.2,none⟩))):
  ∃π':Nat->Nat->Prop,Rel P nt n0 w0 π0 U {s with slots:=C1 b [p] s.slots,boxes:=kS b s.boxes} a w β τ π':=by
 obtain⟨ae,Z,ac,ad⟩:=R.boxes b x hb
 have ab:=R.jS hb
 have V:n0.n<=β b:=by rcases Z with h|h;exact h;exact absurd h.1 ST
 have hp:∀B o,π B o->(λB o=>π B o\/(B=β b/\o<1)) B o:=λ_ _ h=>.inl h
 have A:∀c y,b9 c (kS b s.boxes)=some y->c≠b/\b9 c s.boxes=some y:=λc y h=>by
  rw[mg]at h;split at h
  ·cases h
  ·rename_i L;exact⟨L,h⟩
 refine⟨λB o=>π B o\/(B=β b/\o<1),R.size,λt v h=>?_,λc y h=>?_,λc c' y y' h h' e=>R.inj c c' y y' (A c y h).2 (A c' y' h').2 e,λq e h=>?_,R.cg,λq e c y h h' hB=>R.cz q e c y h (A c y h').2 hB,R.below,R.fc,λB o h=>?_,λB o h=>.inl (R.eJ B o h),λB o h=>?_,R.l8,R.iV,R.kept⟩
 ·simp only[FQ,em]at h
  obtain⟨u,hu,rfl⟩:=h;obtain⟨⟨y,hy,hr⟩,hi⟩:=R.slots t u hu
  have hm:RV β τ w (λB o=>π B o\/(B=β b/\o<1)) u y:=RV.mono (λ_ _=>rfl) (λ_ _=>rfl) hp (λ_ _ _=>rfl) hi hr
  cases u with
  |ptr c o=>
   simp only[MD]
   by_cases O:c=b
   ·subst O
    simp only[nl,gs]
    have e:y=.pointer (some ⟨β c,o,none⟩):=hr
    subst e
    refine⟨⟨_,hy,.JA λi q M=>?_⟩,λq M=>?_⟩
    ·cases o with
     |zero=>
      cases i with
      |zero=>simp at M;subst M;exact⟨.inr ⟨rfl,ST⟩,hcell⟩
      |succ i=>simp at M
     |succ o=>simp at M
    ·have:=pm M
     simp at this;subst this;exact hU
   ·have aa:(c==b)=false:=by simpa using O
    simp only[aa,fb];exact⟨⟨y,hy,hm⟩,hi⟩
  |_=>exact⟨⟨y,hy,hm⟩,hi⟩
 ·obtain⟨L,hc⟩:=A c y h
  obtain⟨g1,g2,g3,g4⟩:=R.boxes c y hc
  refine⟨g1,g2,g3.keep (λ_ _=>rfl) g4 rfl hp (λ_ _ _=>rfl) (λo D=>?_),g4⟩
  rcases D with D|⟨D,_⟩
  ·obtain⟨_,_,_,_,_,_,hn⟩:=g3;exact hn o D
  ·exact L (R.inj c b y x hc hb D)
 ·obtain⟨h1,h2⟩:=R.live q e h
  refine⟨h1,h2.keep (λB hB=>rfl) (λB o hB D=>?_)⟩
  rcases D with D|⟨D,_⟩
  ·exact D
  ·exact absurd (D▸hB) (R.cz q e b x h hb)
 ·rcases h with h|⟨rfl,_⟩
  ·exact R.ez B o h
  ·exact ab
 ·rcases h with h|⟨rfl,_⟩
  ·exact R.cZ B o h
  ·exact .inr (.inl V)
theorem Lb(R:Rel P nt n0 w0 π0 U s a w β τ π) {c:Fu} (cr:¬U id) (A:xPt P o.type o.op=some c) (h:ew (Pure P) id c K X s) (hn:∀v s' x w' β' τ' π',K v s'->RV β' τ' w' π' v x->v.fJ (dZ U id)->Rel P nt n0 w0 π0 (dZ U id) s' a w' β' τ' π'->next (a.put o.dst x) w'):o.wp P a w next Q:=by
 obtain⟨dst,op,O,pos,after,guard⟩:=o;simp only at A
 have Z:∀n,U n->dZ U id n:=λn h=>.inl h
 have fin:∀{v:SV} {y:Value},(execOp a.eval ⟨dst,op,O,pos,after,guard⟩).run P w=.ok (.value y) w->RV β τ w π v y->v.fJ U->K v s->Oper.wp P ⟨dst,op,O,pos,after,guard⟩ a w next Q:=by
  intro v y D hv hu hK;unfold Oper.wp;rw[D];exact hn v s y w β τ π hK hv (SV.mb Z hu) (R.sub Z)
 cases op<;>simp only[xPt]at A<;>try(cases A;done)
 case box t x=>
  split at A<;>try(cases A;done)
  simp only[em]at A;obtain⟨x',V,rfl⟩:=A;simp only[ew]at h;obtain⟨p,L,h⟩:=af h;obtain⟨D,hU⟩:=R.bK V L
  cases p<;>try(exact h.elim)
  rename_i k ps
  match k,D,h with
  |0,D,h=>
   have D:a.eval x=.agg (ps.map λp=>Value.pointer (some ⟨β p.1,p.2,none⟩)).toArray:=D
   have M:(execOp a.eval ⟨dst,.box t x,O,pos,after,guard⟩).run P w=.ok (.value (.pointer (some ⟨w.heap.size,0,none⟩))) (w.alloc (.cells (a.eval x).cells t)):=by
    simp[execOp,Instr.box,newVar,Go.newRow]
   obtain⟨π',R',hh⟩:=R.hold t (cs:=(a.eval x).cells) (ps:=ps) (λi p hi=>by rw[D];simp[Value.cells,hi])
   unfold Oper.wp;rw[M]
   exact hn (.pt 2 ps) s _ _ β τ π' h (.JA hh) (λp L=>.inl (hU p L)) (R'.sub Z)
  |k+1,_,h=>exact h.elim
 case build t ps=>
  split at A<;>try(cases A;done)
  rename_i hs
  split at A<;>try(cases A;done)
  rename_i z X hz hX;simp only[em]at A;obtain⟨x',V,rfl⟩:=A;simp only[ew]at h;obtain⟨p,L,h⟩:=af h;obtain⟨D,hU⟩:=R.bK V L
  cases p<;>try(exact h.elim)
  rename_i b o
  have D:a.eval X=.pointer (some ⟨β b,o,none⟩):=D
  obtain⟨zv,a4,bi,b5⟩:=rD (P:=P) (w:=w) (π:=π) hz
  have a8:zv.cells.size=1:=by have:=bi.1;simpa using this.symm
  unfold HV at hs
  split at hs<;>try(cases hs;done)
  rename_i fs hu
  split at hs<;>try(cases hs;done)
  rename_i f bd;simp only[dT,lc]at hs
  have hm:=rE (P:=P) (w:=w) fs (λf=>do pure (f.offset,<-sizeOf f.type)) (λf=>(f.offset,(eI P f.type).getD 0)) (by
   intro g hg
   have be:g∈fs.toList:=by simpa using hg
   have:g=f:=by rw[bd]at be;simpa using be
   subst this
   simp[dL (w:=w) hs.2,hs.2])
  have a3:((fs.map λf=>(f.offset,(eI P f.type).getD 0))[0]?)=some (0,1):=by
   have:fs=#[f]:=lj.1 (by simpa using bd)
   subst this;simp[hs.1.2,hs.2]
  obtain⟨ct,he,b6,c6⟩:=tq (place:=((fs.map λf=>(f.offset,(eI P f.type).getD 0))[·]?)) (cells:=zv.cells) (i:=0) (off:=0) (v:=a.eval X) (rest:=[]) (by rw[D];exact a3) (by rw[D,a8];simp[Value.cells])
  have ac:ct=#[a.eval X]:=by
   apply lj.1
   have ec:(Value.pointer (some ⟨β b,o,none⟩)).cells.toList=[Value.pointer (some ⟨β b,o,none⟩)]:=rfl
   rw[b6,D,ec,zd (by simp[a8])]
   simp
  refine fin (v:=.pt 0 [(b,o)]) (y:=.agg #[a.eval X]) ?_ (by rw[D];rfl) (λp L=>by simp at L;subst L;exact hU) h
  have cy:ps.toList=[(0,X)]:=hX
  have:(ps.map λ(i,x)=>(i,a.eval x)).toList=[(0,a.eval X)]:=by simp[cy]
  have hb:(Instr.build t (ps.map λ(i,x)=>(i,a.eval x))).run P w=.ok (.agg #[a.eval X]) w:=by
   simp only[Instr.build,fp,a4,fo,il hu,hm];rw[this,he];simp[Instr.fill,ac]
  simp only[execOp,fp,hb,fo,i8]
 case buildSlice t n Xs=>
  split at A<;>try(cases A;done)
  rename_i e ht
  split at A<;>try(cases A;done)
  split at A<;>try(cases A;done)
  rename_i z xs hz ak
  split at A<;>try(cases A;done)
  rename_i ab;cases A;simp only[dT,gn,lc]at ab;obtain⟨⟨⟨ci,c5⟩,ae⟩,ao⟩:=ab;simp only[ew]at h;obtain⟨ps,ce,hK⟩:=af h
  have bm:Xs.toList.mapM (λp=>bV p.2)=(Xs.toList.map (·.2)).mapM bV:=by rw[List.mapM_map];rfl
  rw[bm]at ak;obtain⟨al,b7⟩:=AT R ak ce
  have a9:Xs.toList.length=n:=by have:=pb List.length ao;simpa using this
  have a3:ps.length=n:=by have:=pb List.length al;simp only[wa]at this;omega
  obtain⟨zv,a4,bi,b5⟩:=rD (P:=P) (w:=w) (π:=π) hz
  have cu:(Xs.map λ(i,x)=>(i,a.eval x)).toList=Xs.toList.map λp=>(p.1,a.eval p.2):=TB
  have am:(Xs.toList.map λp=>(p.1,a.eval p.2)).map (·.2)=ps.map λp=>Value.pointer (some ⟨β p.1,p.2,none⟩):=by rw[<-al];simp
  obtain⟨us,hf,ac⟩:=De (Xs.toList.map λp=>(p.1,a.eval p.2)) 0 ((Array.range (n*1)).map (zv.cells[· %zv.cells.size]!)) (by simp only[List.map_map,wa];rw[show((λx=>x.1)∘λp:Nat×Operand=>(p.1,a.eval p.2))=(λp=>p.1)from rfl,ao,a9];simp) (λp L=>by
   have:p.2∈(Xs.toList.map λp=>(p.1,a.eval p.2)).map (·.2):=Hc L
   rw[am]at this;obtain⟨q,_,e⟩:=kp.1 this
   rw[<-e];rfl) (by simp[a9])
  rw[am]at ac;simp only[xa,lr]at ac
  obtain⟨π',R',hh⟩:=R.hold e (cs:=us) (ps:=ps) (λi p hi=>by
   have:us.toList[i]? =some (.pointer (some ⟨β p.1,p.2,none⟩)):=by rw[ac];simp[hi]
   simpa using this)
  have bs:¬(n*1>16777216):=ST
  have M:(Instr.buildSlice t n (Xs.map λ(i,x)=>(i,a.eval x))).run P w=.ok (.slice (some ⟨w.heap.size,0,none⟩) n n) (w.alloc (.cells us e)):=by
   have c2:¬n*1=0:=ST
   simp only[Instr.buildSlice,fp,il ht,fo,dL (w:=w) ae]
   rw[fx (by simpa using bs)]
   simp only[c2,ik,fp,i8,fo,a4,cu,hf,Go.newRow,run_newObj];rfl
  have b0:(execOp a.eval ⟨dst,.buildSlice t n Xs,O,pos,after,guard⟩).run P w=.ok (.value (.slice (some ⟨w.heap.size,0,none⟩) n n)) (w.alloc (.cells us e)):=by
   simp only[execOp,fp,M,fo,i8]
  unfold Oper.wp;rw[b0]
  exact hn (.pt 1 ps) s _ _ β τ π' hK ⟨w.heap.size,0,n,by simp[a3],ST,hh⟩ (λp L=>.inl (b7 p L)) (R'.sub Z)
 case indexAddr t x i=>
  split at A<;>try(cases A;done)
  rename_i e ht
  split at A<;>try(cases A;done)
  rename_i ab;simp only[dT,lc]at ab
  split at A<;>try(cases A;done)
  rename_i x' i' V b2;cases A;simp only[ew]at h;obtain⟨p,L,h⟩:=af h;obtain⟨D,hU⟩:=R.bK V L
  cases p<;>try(exact h.elim)
  rename_i k ps
  match k,D,h with
  |1,D,h=>
   obtain⟨av,a6,h⟩:=af h;obtain⟨j,hj,ca,hK⟩:=af h;obtain⟨kk,hk⟩:=R.idx b2 a6 hj;obtain⟨B,off,cap,h1,h2,h3⟩:=D;simp only[kv]at h1
   have ae:=dL (w:=w) ab.2
   have M:(Instr.indexAt t (a.eval x) (a.eval i)).run P w=.ok (.pointer (some ⟨B,off+j.toNat*1,none⟩)) w:=by
    simp[Instr.indexAt,hk,h1,asIntOf,il ht,ca,ae,gG]
   refine fin (v:=.pt 2 (ps.drop j.toNat)) (y:=.pointer (some ⟨B,off+j.toNat*1,none⟩)) (by simp only[execOp,fp,M,fo,i8]) (.JA λm q hq=>?_) (λq hq=>hU q (pm hq)) hK
   rw[lh]at hq
   have:=h3 _ q hq
   rwa[px,B0]
  |0,_,h=>exact h.elim
  |k+2,_,h=>exact h.elim
 case store t x v=>
  split at A<;>try(cases A;done)
  rename_i hs;simp only[dT,lc]at hs
  split at A<;>try(cases A;done)
  rename_i x' v' V cv;cases A;simp only[ew]at h;obtain⟨p,L,h⟩:=af h;obtain⟨D,hU⟩:=R.bK V L
  cases p<;>try(exact h.elim)
  rename_i b off
  cases off with
  |succ off=>exact h.elim
  |zero=>
   obtain⟨q,hq,h⟩:=af h;obtain⟨a2,ch⟩:=R.bK cv hq
   cases q<;>try(exact h.elim)
   rename_i k ps
   match k,a2,h with
   |0,a2,h=>
    obtain⟨y,hy,⟨h4,c4,a5⟩,hK⟩:=af h;obtain⟨p,rfl⟩:=List.length_eq_one_iff.1 a5
    have al:a.eval v=.agg #[.pointer (some ⟨β p.1,p.2,none⟩)]:=a2
    have c1:a.eval x=.pointer (some ⟨β b,0,none⟩):=D
    obtain⟨h1,h2,⟨aa,el,hh,cp,ag,db,ci⟩,da⟩:=R.boxes b y hy
    have ae:1<=aa.size:=by have:=cp.1;simp at this;omega
    have au:=run_storeCells_at (P:=P) (β b) 0 el [.pointer (some ⟨β p.1,p.2,none⟩)] 0 aa w hh (by simp;omega) (by simp[Value.oneCell'])
    simp only[py]at au;generalize ad:(aa.toList.take 0++[Value.pointer (some ⟨β p.1,p.2,none⟩)]++aa.toList.drop (0+[Value.pointer (some ⟨β p.1,p.2,none⟩)].length)).toArray=cur' at au
    have ck:cur'.toList.take 1=[.pointer (some ⟨β p.1,p.2,none⟩)]:=by rw[<-ad];simp
    have c3:cur'[0]? =some (.pointer (some ⟨β p.1,p.2,none⟩)):=by rw[<-ad];simp
    have M:(Instr.storeAt t (a.eval x) (a.eval v)).run P w=.ok () (w.setRow (β b) cur'):=by
     simp[c1,al,Value.cells,Instr.storeAt,Instr.sureAddr,storeVar,dL (w:=w) hs.2,au]
    have R1:=R.MQ (y:=⟨[.ref []],[]⟩) hy hh (cur':=cur') (by
     show iy w π [.ref []] (cur'.toList.take 1)
     rw[ck]
     exact⟨TB,λi c u A hu=>by
      cases i with
      |zero=>simp at A hu;subst A hu;exact .ref [] _ _ (λ_=>undef) TB TB TB TB
      |succ i=>simp at A⟩) (by simp[AV.scalar]) (λo q hq=>by cases hq)
    have b4:b9 b (nK b ⟨[.ref []],[]⟩ s.boxes)=some ⟨[.ref []],[]⟩:=by rw[gS];simp[hy]
    obtain⟨π',R2⟩:=R1.Qo (b:=b) b4 h4 (p:=p) (ch p TB) (by
     rw[ww (w.setRow (β b) cur') (β b) 0 cur' el (0,0) (setRow_heap w _ aa _ el _ hh)]
     exact c3)
    unfold Oper.wp
    have:(execOp a.eval ⟨dst,.store t x v,O,pos,after,guard⟩).run P w=.ok .skip (w.setRow (β b) cur'):=by simp only[execOp,fp,M,fo,i8]
    rw[this];simp only[Df]at R2;exact hn .undef _ undef _ β τ π' hK rfl trivial (R2.sub Z)
   |k+1,_,h=>exact h.elim
 case call cl=>
  obtain⟨callee,args,argTypes⟩:=cl;split at A
  ·rename_i t x ar hT hX
   simp only at ar;subst ar
   split at A<;>try(cases A;done)
   rename_i e ht
   split at A<;>try(cases A;done)
   simp only[em]at A;obtain⟨x',V,rfl⟩:=A;simp only[ew]at h;obtain⟨p,L,h⟩:=af h;obtain⟨D,hU⟩:=R.bK V L
   cases p<;>try(exact h.elim)
   rename_i k ps
   match k,D,h with
   |1,D,h=>
    obtain⟨B,off,cap,h1,h2,h3⟩:=D;simp only[kv]at h1
    have eT:argTypes=#[t]:=lj.1 (by simpa using hT)
    have eX:args=#[x]:=lj.1 (by simpa using hX)
    subst eT eX
    refine fin (v:=.dat (.int .i64 ps.length) none) (y:=.int .i64 ps.length) ?_ ⟨.int _ _,λt ht=>by cases ht⟩ trivial h
    simp[execOp,resolve,invoke,builtin,Builtin.len_,il ht,goInt,h1]
   |0,_,h=>exact h.elim
   |k+2,_,h=>exact h.elim
  ·unfold MN at A
   split at A<;>try(cases A;done)
   rename_i g hg;simp only at hg;subst hg
   split at A<;>try(cases A;done)
   simp only[em]at A;obtain⟨xs,ak,rfl⟩:=A;simp only[ew]at h;obtain⟨av,a6,h⟩:=af h
   have ba:=R.aF (X:=.tmp g) rfl a6
   cases av<;>try(exact h.elim)
   rename_i fn first caps
   cases fn<;>try(exact h.elim)
   rename_i f
   cases first<;>try(exact h.elim)
   cases caps<;>try(exact h.elim)
   obtain⟨⟨b8,ids⟩,a7,c0,h⟩:=af h;obtain⟨css,ag,j,o,b,L,hj,hK⟩:=af h
   have L:S6 P f css b8 j o:=L
   obtain⟨b1,_,L⟩:=L
   have an:=eH c0
   have bo:=(R.dS (by simpa[f7]using ak) a7).1
   have e1:(args.toList.map a.eval).toArray=args.map a.eval:=lj.1 TB
   have D:(execOp a.eval ⟨dst,.call ⟨.value (.tmp g),args,argTypes⟩,O,pos,after,guard⟩).run P w=.ok (.enter f (args.toList.map a.eval).toArray) w:=by
    generalize he:a.eval (.tmp g)=u at ba
    cases ba with
    |fn _ _ vs _ us h1 h2 h3 h4=>
     have e2:vs=#[]:=H5.1 (by simpa using h1.symm)
     have e3:us=#[]:=H5.1 (by simpa using h2.symm)
     subst e2 e3;rw[e1];simp[execOp,resolve,he,Deferred.ofValue,invoke,ff b1]
   unfold Oper.wp;rw[D,wc];refine(L w π (ids.map β) (args.toList.map a.eval) R.ez (R.nodup an ag) (R.o6 ag) bo).mono ?_
   rintro e w' ⟨B,π',hB,rfl,bj,a5,co,b3,cb⟩
   obtain⟨τ',_,R'⟩:=R.vU (fr:=none) cr an ag rfl bj a5 co b3 cb DV.m5 (λt ht=>by cases ht)
   have cx:B=β b:=by
    rw[jp,hj]at hB
    simpa using hB.symm
   obtain⟨t,_,v,hl,hv⟩:=iB a7 b (ev hj)
   refine hn (.ptr b o) _ _ _ _ _ _ hK (show _=_ by rw[cx]) (.inl (SV.Db hv (R.slots t _ hl).2)) R'
theorem Lc(R:Rel P nt n0 w0 π0 U s a w β τ π) {c:Fu} (B:¬U id) (D:WY P o.type o.op=some c) (h:ew (Pure P) id c K X s) (M:∀v A x w' β' τ' π',K v A->RV β' τ' w' π' v x->v.fJ (dZ U id)->Rel P nt n0 w0 π0 (dZ U id) A a w' β' τ' π'->next (a.put o.dst x) w') (O:∀p A w' β' τ' π',X p A->Rel P nt n0 w0 π0 (dZ U id) A a w' β' τ' π'->Q (.panic (jd p)) a w'):o.wp P a w next Q:=by
 unfold WY at D;split at D
 ·rename_i x L
  cases D;exact Lb R B L h M
 ·exact Ie R B D h M O
def FR(C:bk) (id:Nat) (o:XO) (K:S->Prop) (X:AV->S->Prop) (s:S):Prop:=fm s o.g (ew C id o.op (λv A=>K (A.put o.dst v)) X s) (K (s.put o.dst .undef))
theorem Ig{base i:Nat} {o:XO} {r:List XO} {K:S->Prop} {s:S}:ri C base i (o::r) K X s=FR C (base+i) o (ri C base (i+1) r K X) X s:=rfl
theorem Ld{c:XO} (A:rz P ops o=some c):c.dst=o.dst:=by
 unfold rz at A;split at A
 ·split at A<;>try(cases A;done)
  cases A;rfl
 ·simp only[em]at A
  obtain⟨D,B,rfl⟩:=A;exact yb B
theorem FT(R:Rel P nt n0 w0 π0 U s a w β τ π) {c:XO} (V:¬U id) (D:rz P ops o=some c) (A:∀d,c.dst=some d->d<nt) {K:S->Prop} (h:FR (Pure P) id c K X s) (hn:∀B x w' β' τ' π',K B->Rel P nt n0 w0 π0 (dZ U id) B (a.put o.dst x) w' β' τ' π'->next (a.put o.dst x) w') (hx:∀p B w' β' τ' π',X p B->Rel P nt n0 w0 π0 (dZ U id) B a w' β' τ' π'->Q (.panic (jd p)) a w'):
  if Region.wanted o (yielded ops a.tmps)then o.wp P a w next Q else next (a.put o.dst undef) w:=by
 unfold rz at D;split at D;rotate_left
 ·simp only[em]at D
  obtain⟨c0,h0,rfl⟩:=D;exact AO R V h0 A h hn
 rename_i ad ab
 split at D<;>try(cases D;done)
 rename_i g hg;cases D;simp only at A
 have run:ew (Pure P) id ad (λv B=>K (B.put o.dst v)) X s->o.wp P a w next Q:=λh=>
  Lc R V ab h (λv B x w' β' τ' π' hK hv hu R'=>hn _ _ _ _ _ _ hK (R'.put o.dst A hv hu)) hx
 have skip:K (s.put o.dst .undef)->next (a.put o.dst undef) w:=λh=>
  hn _ _ _ _ _ _ h ((R.sub λn h=>.inl h).put o.dst A rfl trivial)
 unfold FR fm at h
 rcases yX hg with⟨h1,Z⟩|⟨j,want,t,h1,Z,h3⟩
 ·subst Z
  simp only at h;simp only[Region.wanted,h1,kv];exact run h
 ·subst h3
  simp only at h
  cases hl:lk t s.slots with
  |none=>simp[hl]at h
  |some v=>
   obtain⟨⟨x,L,M⟩,ag⟩:=R.slots t v hl;simp only[hl]at h
   have hy:∀b,x=.bool b->yielded ops a.tmps j=some b:=λb hb=>by
    unfold yielded;rw[Z];simp[L,hb]
   cases v with
   |ptr b o=>exact h.elim
   |rp cs=>exact h.elim
   |vs _ _ _ _=>exact h.elim
   |tW _ _ _=>exact h.elim
   |raw _ _=>exact h.elim
   |pt _ _=>exact h.elim
   |undef=>
    have aa:x=undef:=M
    have ae:yielded ops a.tmps j=none:=by
     unfold yielded;rw[Z];simp[L,aa,undef]
    simp only[Region.wanted,h1,ae];exact skip h
   |dat av q=>
    cases av<;>try(exact h.elim)
    rename_i b
    have ac:x=.bool b:=M.1.vR
    simp only[Region.wanted,h1,hy b ac]
    by_cases hb:b=want
    ·subst hb;simp;exact run (h.1 rfl)
    ·have O:b=!want:=by cases b<;>cases want<;>first|rfl|exact absurd rfl hb
     have:(some b==some want)=false:=by subst O;cases want<;>rfl
     rw[this];exact skip (h.2 O)
theorem FU:WY P t (.defer c)=none:=rfl
theorem yY(R:Rel P nt n0 w0 π0 U s a w β τ π) {c:XO} {i:Nat} (V:ops[i]? =some o) (M:¬U id) (A:rz P ops o=some c) (D:∀d,c.dst=some d->d<nt) {K:S->Prop} (h:FR (Pure P) id c K X s) (hn:∀B x w' β' τ' π',K B->Rel P nt n0 w0 π0 (dZ U id) B (a.put o.dst x) w' β' τ' π'->next (a.put o.dst x) w') (Z:∀p B w' β' τ' π',X p B->Rel P nt n0 w0 π0 (dZ U id) B a w' β' τ' π'->Q (.panic (jd p)) a w') {n:Nat}:wpOpIn (FW r) n P ops Q i next a w:=by
 have:=FT R M A D h hn Z
 have O:∀c,o.op≠.defer c:=by
  intro c' e;unfold rz at A;rw[e,FU]at A;simp only[em]at A;obtain⟨c0,A,_⟩:=A;unfold m8 at A;rw[e]at A;simp[MK,uM,KZ,PI]at A
 unfold wpOpIn;simp only[V];split
 ·rename_i L;rw[gc L]at this;exact S9 this O
 ·rename_i L;rw[fx L]at this;exact⟨λ_ _=>trivial,this⟩
theorem yZ{ops:Array Oper}:∀{l:List Oper} {cs:List XO},xU P ops l=some cs->cs.length=l.length/\∀(i:Nat) (o:Oper) (c:XO),l[i]? =some o->cs[i]? =some c->rz P ops o=some c
 |[],cs,h=>by simp[xU]at h;subst h;exact⟨rfl,λi o c h=>by simp at h⟩
 |o::l,cs,h=>by
  unfold xU at h
  split at h<;>try(cases h;done)
  rename_i c R M D;cases h;obtain⟨e,O⟩:=yZ D
  refine⟨by simp[e],λi o' L A B=>?_⟩
  cases i with
  |zero=>simp at A B;subst A;subst B;exact M
  |succ i=>exact O i o' L (by simpa using A) (by simpa using B)
theorem t8{n:Nat}:∀{l:List XO},rA n l=true->∀(i:Nat) (c:XO) (d:Nat),l[i]? =some c->c.dst=some d->d<n
 |[],h,i,c,d,A,hd=>by simp at A
 |o::l,h,i,c,d,A,hd=>by
  simp only[rA,dT]at h
  cases i with
  |zero=>
   simp at A;subst A
   have:=h.1
   rw[hd]at this
   simpa using this
  |succ i=>exact t8 h.2 i c d (by simpa using A) hd
theorem Dg{c:XO} {d:Nat}:∀{l:List XO},c∈l->c.dst=some d->d∈FD l
 |[],h,_=>by cases h
 |o::l,h,hd=>by
  simp only[FD,ka]
  rcases lw.1 h with rfl|h
  ·exact .inl (by rw[hd];simp)
  ·exact .inr (Dg h hd)
theorem y6{ops:Array Oper} {cos:List XO} {base:Nat} (i0:Nat) (Z:cos.length=ops.size) (A:∀(i:Nat) (o:Oper) (c:XO),i0<=i->ops[i]? =some o->cos[i]? =some c->rz P ops o=some c) (D:∀(i:Nat) (c:XO) (d:Nat),cos[i]? =some c->c.dst=some d->d<nt)
  {T:Nat->Prop} {a0:Act} (hT:∀(i:Nat) (c:XO) (d:Nat),cos[i]? =some c->c.dst=some d->¬T d) {r:Option Nat} {m:Nat}
  {K:S->Prop} {X:AV->S->Prop} {Q:Exit->Act->World->Prop} (hQ:∀s a w β τ π U,(∀n,U n->n<base+ops.size)->K s->pE T a0 a->Rel P nt n0 w0 π0 U s a w β τ π->Q .normal a w)
  (hX:∀p s a w β τ π U,(∀n,U n->n<base+ops.size)->X p s->pE T a0 a->Rel P nt n0 w0 π0 U s a w β τ π->Q (.panic (jd p)) a w):
  ∀(rest:List XO) (i:Nat) (s:S) (a:Act) (w:World) (β:Nat->Nat) (τ:Nat->Value) (π:Nat->Nat->Prop) (U:Nat->Prop),i0<=i->cos.drop i=rest->i+rest.length=ops.size->(∀n,U n->n<base+i)->pE T a0 a->Rel P nt n0 w0 π0 U s a w β τ π->
   ri (Pure P) base i rest K X s->wpOpsIn (FW r) m P ops Q (List.range' i rest.length) a w
 |[],i,s,a,w,β,τ,π,U,M,hd,hn,O,hp,R,h=>hQ s a w β τ π U (λn h=>by have:=O n h;simp at hn;omega) h hp R
 |o::rest,i,s,a,w,β,τ,π,U,M,hd,hn,O,hp,R,h=>by
  have B:cos[i]? =some o:=by
   have:(cos.drop i)[0]? =some o:=by rw[hd];rfl
   simpa using this
  have V:i<ops.size:=by simp at hn;omega
  have L:ops[i]? =some ops[i]:=by simp[V]
  rw[Ig]at h;simp only[fl,List.range'_succ];rw[wpOpsIn_cons]
  refine yY R L (λh=>by have:=O _ h;omega) (A i _ o M L B) (D i o · B) h (λs' x w' β' τ' π' hK R'=>?_) (λp s' w' β' τ' π' aa R'=>hX p s' a w' β' τ' π' _ (λn h=>?_) aa hp R')
  ·refine y6 i0 Z A D hT hQ hX rest (i+1) s' _ w' β' τ' π' _ ST ?_ (by simp at hn;omega) (λn h=>?_) (hp.put (λd hd=>hT i o d B (by rw[Ld (A i _ o M L B)];exact hd)) x) R' hK
   ·rw[<-List.tail_drop,hd];rfl
   ·rcases h with h|h
    ·have:=O n h;omega
    ·omega
  ·rcases h with h|h
   ·have:=O n h;omega
   ·omega
theorem CM{cos:List XO} (hc:xU P ops ops.toList=some cos) (M:rA nt cos=true) (R:Rel P nt n0 w0 π0 U s a w β τ π) (Z:∀n,U n->n<s.nx) {K:S->Prop} (h:ri (Pure P) s.nx 0 cos K X s) (hT:∀d,d∈FD cos->¬T d) (hQ:∀L a' w β τ π U,(∀n,U n->n<s.nx+cos.length)->K L->pE T a a'->Rel P nt n0 w0 π0 U L a' w β τ π->Q .normal a' w) (hX:∀p L a' w β τ π U,(∀n,U n->n<s.nx+cos.length)->X p L->pE T a a'->Rel P nt n0 w0 π0 U L a' w β τ π->Q (.panic (jd p)) a' w):(Code.region id ops false).wpIn (FW r) m P Q a w:=by
 obtain⟨B,D⟩:=yZ hc
 have A:cos.length=ops.size:=by simpa using B
 rw[A]at hQ hX;refine wpIn_region ?_
 have:=y6 (r:=r) (m:=m) 0 A (λi o c _ V O=>D i o c (by simpa using V) O) (t8 M) (λi c d hi hd=>hT d (Dg (ev hi) hd)) hQ hX cos 0 s a w β τ π U (im _) rfl (by simpa using A) (by simpa using Z) (.refl _ _) R h
 rw[A]at this;rw[List.range_eq_range'];exact this
theorem Ih{o:bE} (D:o.quiet=true) {s:S} (h:bB C id o K s):∃v,K v s:=by
 cases o<;>(try(cases D;done))<;>simp only[bB]at h
 ·obtain⟨v,_,h⟩:=af h;exact⟨v,h⟩
 ·obtain⟨p,A,h⟩:=af h
  cases p<;>try(exact h.elim)
  ·obtain⟨_,_,h⟩:=af h;obtain⟨_,_,h⟩:=af h;exact⟨_,h⟩
  ·obtain⟨_,_,h⟩:=af h;exact⟨_,h⟩
 ·obtain⟨p,A,h⟩:=af h
  cases p<;>try(exact h.elim)
  ·exact⟨_,h⟩
  ·exact⟨_,h⟩
  ·rename_i k ps
   match k,h with
   |2,h=>exact⟨_,h⟩
   |0,h=>exact h.elim
   |1,h=>exact h.elim
   |k+3,h=>exact h.elim
 ·obtain⟨_,_,h⟩:=af h
  obtain⟨_,_,h⟩:=af h;obtain⟨_,_,h⟩:=af h;obtain⟨_,_,_,_,h⟩:=af h;exact⟨_,h⟩
 ·rename_i x B
  obtain⟨p,A,h⟩:=af h
  cases p<;>try(exact h.elim)
  rename_i k ps
  match k,B,ps,h with
  |2,none,(b,o)::ps,h=>exact⟨_,h⟩
  |2,none,[],h=>exact h.elim
  |2,some n,[],h=>exact⟨_,h.2⟩
  |2,some n,_::_,h=>exact⟨_,h.2⟩
  |0,_,_,h=>exact h.elim
  |1,_,_,h=>exact h.elim
  |k+3,_,_,h=>exact h.elim
theorem AU{k:Nat} {A:List Nat}:∀{l:List CO} {i j:Nat},(mW k A i l)[j]? =(l[j]?).map (xR k A (i+j))
 |[],i,j=>by simp[mW]
 |o::l,i,0=>by simp[mW]
 |o::l,i,j+1=>by
  simp only[mW,kx];rw[AU,B0,Nat.add_comm 1 j]
theorem FV{k:Nat} {A:List Nat}:∀{l:List CO} {i:Nat},(mW k A i l).length=l.length
 |[],i=>rfl
 |o::l,i=>by simp[mW,FV]
theorem rJ{k:Nat} {D:List Nat} {d:Nat}:∀{l:List CO} {i:Nat},Az k D d i l=true->∀(j:Nat) (o:CO),l[j]? =some o->
  (i+j=k->∃f args,o=⟨some d,.dD f args,none⟩)/\(i+j≠k->D.contains (i+j)=true\/(o.op.quiet=true/\o.g=none/\∃t,o.dst=some t/\t≠d))
 |[],i,h,j,o,B=>by simp at B
 |a::l,i,h,j,o,B=>by
  simp only[Az,dT]at h
  cases j with
  |zero=>
   simp at B;subst B;rw[py]
   refine⟨λe=>?_,λe=>?_⟩
   ·have A:=h.1
    rw[gc e]at A;obtain⟨dst,op,g⟩:=a
    cases op<;>try(cases A;done)
    simp only[dT,Option.isNone_iff_eq_none,lc]at A;obtain⟨rfl,rfl⟩:=A;exact⟨_,_,rfl⟩
   ·have A:=h.1
    rw[fx e]at A;simp only[ml,dT,Option.isNone_iff_eq_none,bne_iff_ne,ne_eq]at A
    rcases A with A|⟨⟨⟨A,L⟩,O⟩,M⟩
    ·exact .inl A
    ·obtain⟨t,ht⟩:=Pl.1 O
     exact .inr ⟨A,L,t,ht,λe=>M (by rw[ht,e])⟩
  |succ j=>
   have:=rJ h.2 j o (by simpa using B)
   rw[show i+(j+1)=i+1+j by omega]
   exact this
theorem AW{k:Nat} {A:List Nat}:∀{l:List Oper} {i:Nat},C3 k A i l=true->∀(j:Nat) (o:Oper),l[j]? =some o->A.contains (i+j)=true->∃e∈o.after,Region.binds .any e=true/\(e.on=k\/(A.contains e.on=true/\e.on<i+j))
 |[],i,h,j,o,B,_=>by simp at B
 |a::l,i,h,j,o,B,hd=>by
  simp only[C3,dT]at h
  cases j with
  |zero=>
   simp at B;subst B;rw[py]at hd⊢
   have L:=h.1
   rw[hd]at L;simp only[nd,pv,NE]at L;obtain⟨e,M,D⟩:=L;simp only[dT,ml,lc,gn]at D;exact⟨e,M,D.1,D.2⟩
  |succ j=>
   rw[show i+(j+1)=i+1+j by omega]at hd⊢
   exact AW h.2 j o (by simpa using B) hd
theorem M7{A:List Nat} (hd:C3 k A 0 ops.toList=true) (hc:rG ops l):∀(i:Nat),A.contains i=true->(l.getD i false=true\/i∈Region.ready .any ops l)->i<ops.size->l.getD k false=true:=by
 intro i
 induction i using Nat.strongRecOn with
 |_ i ih=>
  intro M hr hi
  obtain⟨o,L⟩:∃o,ops[i]? =some o:=⟨ops[i],by simp[hi]⟩
  obtain⟨e,R,hb,O⟩:=AW hd i o (by simpa using L) (by simpa using M)
  have V:l.getD e.on false=true:=by
   rcases hr with h|h
   ·exact hc i o L h e R hb
   ·obtain⟨_,o',B,D⟩:=yn.1 h
    rw[L]at B;cases B;exact D e R hb
  rcases O with e1|⟨h1,Z⟩
  ·rw[<-e1];exact V
  ·rw[la]at Z
   exact ih e.on Z h1 (.inl V) ST
theorem FX(D:jP cJ ops.toList cos=true) (R:cos.length=ops.size) (hl:l.size=ops.size):∀(k:Nat),k<ops.size->l.getD k false=false->Region.ready .any ops l≠[]:=by
 intro k
 induction k using Nat.strongRecOn with
 |_ k Z=>
  intro hk M O
  by_cases A:∀j,j<k->l.getD j false=true
  ·have:k∈Region.ready .any ops l:=by
    refine yn.2 ⟨JF ST M,ops[k],by simp[hk],λe V hb=>?_⟩
    have:=(j7 D k ops[k] (cos[k]' ST) (by simp[hk]) TB).1 e V hb
    exact A e.on (by simpa using this)
   rw[O]at this;cases this
  ·obtain⟨j,B⟩:=Classical.not_forall.1 A
   obtain⟨B,L⟩:=Classical.not_imp.1 B
   exact Z j B ST (by simpa using L) O
theorem v7{wr:List Nat} {t:Nat}:∀{l:List (Nat×SV)} {v:SV},lk t (mX wr l)=some v->¬t∈wr/\lk t l=some v
 |[],v,h=>by cases h
 |(m,u)::r,v,h=>by
  simp only[mX]at h
  cases A:wr.contains m with
  |true=>
   rw[A]at h
   obtain⟨D,L⟩:=v7 (l:=r) h
   refine⟨D,?_⟩
   have B:¬t=m:=λe=>D (by subst e;simpa using A)
   simp only[lk,jh,B,ik];exact L
  |false=>
   rw[A]at h;simp only[fb,lk,jh]at h⊢
   by_cases e:t=m
   ·rw[gc e]at h⊢
    exact⟨λhm=>by subst e;simp at A;exact A hm,h⟩
   ·rw[fx e]at h⊢
    exact v7 (l:=r) h
theorem lR{wr:List Nat} {t:Nat} (h:¬t∈wr):∀{l:List (Nat×SV)},lk t (mX wr l)=lk t l
 |[]=>rfl
 |(m,u)::r=>by
  simp only[mX]
  cases B:wr.contains m with
  |true=>
   have A:¬t=m:=λe=>h (by subst e;simpa using B)
   simp only[gs,lk,jh,A,ik];exact lR h
  |false=>
   simp only[fb,lk,jh];rw[lR h]
theorem Rel.Qp(R:Rel P nt n0 w0 π0 U s a w β τ π) {l:List (Nat×SV)} (h:∀t v,lk t l=some v->lk t s.slots=some v):Rel P nt n0 w0 π0 U {s with slots:=l} a w β τ π:=
 ⟨R.size,λt v A=>R.slots t v (h t v A),R.boxes,R.inj,R.live,R.cg,R.cz,R.below,R.fc,R.ez,R.eJ,R.cZ,R.l8,R.iV,R.kept⟩
theorem Dh(n k:Nat):(Array.replicate n false).getD k false=false:=by
 rw[sT,Array.getElem?_replicate];split<;>rfl
theorem Ej{ops:List Oper} {op:Op}:uM P ops op≠some (.dD f as):=by
 intro h;unfold uM at h
 (repeat' split at h)<;>cases h
theorem Lf{op:Op} (h:PI P op=some (.dD f as)):∃c,op=.call c/\c.callee=.value (.func f)/\cw P f=true/\f7 c.args=some as/\o4 P c.argTypes.toList=true:=by
 cases op<;>simp only[PI]at h
 case call c=>
  refine⟨c,rfl,?_⟩;unfold t6 at h;split at h
  ·rename_i g O
   split at h
   ·rename_i A
    simp only[em]at h;obtain⟨xs,D,M⟩:=h
    split at M<;>cases M
    rename_i L;exact⟨O,A,D,L⟩
   ·split at h<;>simp at h
  all_goals(exfalso;(repeat' split at h)<;>simp at h)
 case convert s d x=>
  simp only[kb]at h;obtain⟨y,_,h⟩:=h;unfold FC at h
  (repeat' split at h)<;>cases h
 all_goals(exfalso;revert h;(repeat' split)<;>(try simp[Xl])<;>(repeat' split)<;>(try simp)<;>(rename_i B;cases B))
theorem y7(h:m8 P ops o=some ⟨d,.dD f as,g⟩):∃c,o.op=.call c/\c.callee=.value (.func f)/\cw P f=true/\f7 c.args=some as/\o4 P c.argTypes.toList=true:=by
 unfold m8 at h;split at h
 ·rename_i cc D A B
  cases h;unfold MK at A;split at A
  ·rename_i e;cases A;exact absurd e Ej
  ·split at A
   ·rename_i e
    cases A;exfalso;unfold KZ at e
    (repeat' split at e)<;>cases e
   ·exact Lf A
 ·cases h
theorem FY(h:m8 P ops o=some ⟨d,.dD f as,g⟩):rz P ops o=some ⟨d,.dD f as,g⟩:=by
 obtain⟨c,M,A,D,L,B⟩:=y7 h;unfold m8 at h;split at h
 ·rename_i cc V R O
  cases h
  have e:WY P o.type o.op=some (.dD f as):=by
   rw[M];simp[WY,xPt,MN,A,PY,TY,t6,MM,D,L,B]
  unfold rz;rw[e,O]
 ·cases h
theorem getD_set_ne{i j:Nat} {c:Bool} (h:i≠j):(l.setIfInBounds i b).getD j c=l.getD j c:=by
 simp only[sT,xr h]
theorem JM{C:bk} {base:Nat} {ops:Array Oper} {cos:List CO} {K:S->Prop} {ds:List Nat} {d:Nat} (V:Nat->Prop)
  (hq:∀i o,¬V i->cos[i]? =some o->(o.op.quiet=true/\o.g=none/\(o.dst=none\/∃t,o.dst=some t/\t≠d/\t∈ds))):
  ∀(f:Nat) (l:Array Bool) (s:S),(∀i,V i->l.getD i true=true)->Ee C base ops cos K f l s->∃sl,K {s with slots:=sl}/\lk d sl=lk d s.slots/\mX ds sl=mX ds s.slots
 |0,l,s,hP,h=>⟨s.slots,h.2,rfl,rfl⟩
 |f+1,l,s,hP,h=>by
  cases hr:Region.ready .any ops l with
  |nil=>exact⟨s.slots,h.1 hr,rfl,rfl⟩
  |cons i r=>
   have hi:i∈Region.ready .any ops l:=by rw[hr];exact ip
   obtain⟨o,ho,A⟩:=h.2 i hi
   have ac:=(yn.1 hi).1
   have D:¬V i:=λhp=>by have:=hP i hp;rw[ac]at this;cases this
   obtain⟨ab,hg,L⟩:=hq i o D ho;unfold iW fm at A;rw[hg]at A;obtain⟨v,A⟩:=Ih ab A
   obtain⟨sl,R,O,Z⟩:=JM V hq f _ _ (λj hj=>by
    have:=hP j hj
    by_cases B:i=j
    ·subst B;exact absurd hj D
    ·rw[getD_set_ne B];exact this) A
   rcases L with e|⟨t,e,aa,M⟩
   ·rw[e]at R O Z;exact⟨sl,R,O,Z⟩
   ·rw[e]at R O Z
    refine⟨sl,R,?_,?_⟩
    ·rw[O,o7,fx (by intro e;cases e;exact aa rfl)]
    ·rw[Z]
     show mX ds ((t,v)::s.slots)=_
     have:ds.contains t=true:=by simpa using M
     simp only[mX,this,gs]
theorem CN(hm:P.follows .mixedOrders=true) {A:List Nat} {d:Nat} (hc:uN P ops ops.toList=some cos) (an:jP cJ ops.toList (mW k A 0 cos)=true) (bi:C3 k A 0 ops.toList=true) (ac:Az k A d 0 cos=true) (hk:k<ops.size) (bj:gA nt cos=true) (R:Rel P nt n0 w0 π0 U s a w β τ π) (hU:∀n,U n->n<s.nx) (h:TV (Pure P) cos cJ k A (cos.flatMap λo=>o.dst.toList) X s) (hT:∀t,t∈dstsOf cos->¬T t) (hX:∀p s' a' w β τ π U,(∀n,U n->n<s.nx+cos.length)->X p s'->pE T a a'->Rel P nt n0 w0 π0 U s' a' w β τ π->Q (.panic (jd p)) a' w):(Code.region id ops true).wpIn (FW r) m P Q a w:=by
 obtain⟨am,h⟩:=h;simp only[vN,TU,dT]at am;obtain⟨⟨b8,b3⟩,bm⟩:=am;obtain⟨a3,a2⟩:=rI hc
 have ab:cos.length=ops.size:=by simpa using a3
 have B:(mW k A 0 cos).length=ops.size:=by rw[FV];exact ab
 rw[ab]at hX
 have ad:=pF bj
 have b5:∀(i:Nat) (c:CO) (d:Nat),cos[i]? =some c->c.dst=some d->¬T d:=λi c d L hd=>hT d (uV (ev L) hd)
 obtain⟨ck,O⟩:∃c,cos[k]? =some c:=⟨cos[k]' ST,TB⟩
 obtain⟨fk,ak,bs⟩:=(rJ ac k ck O).1 TB
 subst bs
 have bd:∀j ok,(mW k A 0 cos)[j]? =some ok->o3 (MG (uL s.slots) s.nx 0 (mW k A 0 cos)) (s.nx+j) ok=true:=λj ok hj=>by have:=pn b3 j ok hj;rwa[la]at this
 refine wpIn_region_any hm ?_
 have R':Rel P nt n0 w0 π0 (UL s.nx (Array.replicate ops.size false)) s a w.drew β τ π:=R.draw.sub λn hn=>.inl (hU n hn)
 have b4:∀(base':Nat) (r:List CO) (i:Nat) (s:S) {K K':S->Prop},(∀s,K s->K' s)->jb (Pure P) base' i r K s->jb (Pure P) base' i r K' s:=by
  intro base' r
  induction r with
  |nil=>intro i s K K' hk h;exact hk s h
  |cons o r ih=>
   intro i s K K' hk h;rw[oo]at h⊢;obtain⟨v,d,hd,b0,_⟩:=eK h;exact hd.2 s .refl _ (ih _ _ hk b0)
 -- the end,whatever stands for the same state
 obtain⟨ds,a7⟩:∃ds,ds=cos.flatMap λo=>o.dst.toList:=⟨_,rfl⟩
 rw[<-a7]at h
 have h2:=b4 s.nx _ 0 s (K':=λs2=>∃s1,qQ s1 s2/\∃d p,(cos[k]?).bind CO.dst=some d/\lk d s1.slots=some (.dat p none)/\X p (xS ds s1)) (λs h=>⟨s,.refl,h⟩) h
 have h3:=rH bd bm (λs s2 he ⟨s1,h1,hk⟩=>⟨s1,h1.trans he,hk⟩) B an (mW k A 0 cos) 0 (Array.replicate ops.size false) s rfl (by simpa using B) TB (λj hj=>by simp[hj]) R'.fJ (λt b ⟨v,D,hb⟩=>pz b8 t b v D hb) h2
 rw[B]at h3
 have small:∀l:Array Bool,l.size=ops.size->∀n,UL s.nx l n->n<s.nx+ops.size:=by
  rintro l D n (h|⟨i,L,h⟩)
  ·omega
  ·have:i<l.size:=by
    rcases ix i l.size with h'|h'
    ·exact h'
    ·simp[Ax h']at h
   omega
 have al:∀(i:Nat) (c:CO) (t:Nat),cos[i]? =some c->c.dst=some t->t∈ds:=λi c t L ht=>by
  rw[a7];exact ui.2 ⟨c,ev L,by simp[ht]⟩
 have key:∀(f:Nat) (l:Array Bool) (s1:S) (a1:Act) (w1:World) (β:Nat->Nat) (τ:Nat->Value) (π:Nat->Nat->Prop),l.size=ops.size->rG ops l->l.getD k false=false->pE T a a1->Rel P nt n0 w0 π0 (UL s.nx l) s1 a1 w1 β τ π->
   Ee (Pure P) s.nx ops (mW k A 0 cos) (λs2=>∃s1,qQ s1 s2/\∃d p,(cos[k]?).bind CO.dst=some d/\lk d s1.slots=some (.dat p none)/\X p (xS ds s1)) f l s1->wpAnyIn (FW r) m P .any ops Q f l a1 w1:=by
  intro f
  induction f with
  |zero=>intro l s1 a1 w1 β τ π D _ Z _ _ h;exact absurd h.1 (FX an B D k hk Z)
  |succ f ih=>
   intro l s1 a1 w1 β τ π D ba Z hp R1 h
   refine⟨λh0=>absurd h0 (FX an B D k hk Z),λi L=>?_⟩
   obtain⟨o,ho,hs⟩:=h.2 i L;obtain⟨a9,pi,ar,_⟩:=yn.1 L
   have ca:=ko L
   rw[AU,la]at ho;obtain⟨o0,M,rfl⟩:=em.1 ho
   have ae:=a2 i pi o0 (by simpa using ar) M
   by_cases au:i=k
   ·subst au
    rw[O]at M;cases M
    have ao:xR i A i ⟨some d,.dD fk ak,none⟩=⟨some d,.tZ fk ak,none⟩:=by rw[xR,gc rfl]
    rw[ao]at hs;unfold iW fm at hs;simp only[bB]at hs;obtain⟨pp,b7,cb,hs⟩:=af hs;obtain⟨css,be,v,aa,hq,hs⟩:=af hs
    -- the end of what is known
    obtain⟨sl,⟨s3,he,d',p',a5,b1,b6⟩,h2,h3⟩:=JM (ds:=ds) (d:=d) (λj=>j=i) (λj o hj a6=>by
     rw[AU,la]at a6;obtain⟨o1,a8,rfl⟩:=em.1 a6
     have ag:¬j=i:=hj
     rcases(rJ ac j o1 a8).2 (by simpa using ag)with V|⟨q1,q2,t,q3,q4⟩
     ·have:xR i A j o1=⟨none,.mv (.k .qM),none⟩:=by
       rw[la]at V;rw[xR,fx ag,gc V]
      rw[this];exact⟨rfl,rfl,.inl rfl⟩
     ·by_cases V:A.contains j=true
      ·have:xR i A j o1=⟨none,.mv (.k .qM),none⟩:=by rw[xR,fx ag,gc V]
       rw[this];exact⟨rfl,rfl,.inl rfl⟩
      ·have:xR i A j o1=o1:=by rw[xR,fx ag,fx V]
       rw[this];exact⟨q1,q2,.inr ⟨t,q3,q4,al j o1 t a8 q3⟩⟩) f _ _ (λj hj=>by subst hj;simp[ca]) hs
    rw[O]at a5;cases a5
    have ce:p'=v:=by
     have h4:lk d s3.slots=lk d sl:=(he.slots d).symm
     rw[b1,h2]at h4;simp[S.put,lk]at h4;exact h4
    subst ce
    -- the call
    obtain⟨c,cp,ci,cr,co,ch⟩:=y7 ae
    have b2:=FY ae
    refine yY R1 ar (AK a9) b2 (λd hd=>ad i ⟨_,_,_⟩ d O hd) (K:=λ_=>False) (X:=λp s'=>p=p'/\s'={s1 with boxes:=dJ pp.2 aa s1.boxes}) ?_ (λ_ _ _ _ _ _ h=>h.elim) (λp s' w' β' τ' π' hx R2=>?_)
    ·unfold FR fm
     simp only[ew,b7,be,aB];exact .inr ⟨cb,.inl ⟨_,aa,hq,rfl,rfl⟩⟩
    ·obtain⟨rfl,rfl⟩:=hx
     have R3:=(R2.Qp (l:=mX ds s1.slots) (λt v h=>(v7 h).2)).seq (s2:=xS ds s3) ⟨λt=>?_,λb=>?_,λq=>?_⟩
     ·exact hX _ _ _ _ _ _ _ _ (λn hn=>hn.elim (small l D n) (λe=>by subst e;omega)) b6 hp R3
     ·show lk t (mX ds s3.slots)=lk t (mX ds s1.slots)
      by_cases ht:t∈ds
      ·have none:∀l:List (Nat×SV),lk t (mX ds l)=none:=λl=>by
        cases D:lk t (mX ds l)with
        |none=>rfl
        |some v=>exact absurd ht (v7 D).1
       rw[none,none]
      ·have h5:=pb (lk t) h3
       rw[lR ht,lR ht]at h5;rw[lR ht,lR ht];refine(he.slots t).symm.trans (h5.trans ?_)
       have bo:d≠t:=λe=>ht (e▸al i _ d O rfl)
       exact(o7 (s:={s1 with boxes:=dJ pp.2 aa s1.boxes})).trans (fx (by intro e;cases e;exact bo rfl))
     ·exact(he.boxes b).symm
     ·exact(he.live q).symm
   ·by_cases a4:A.contains i=true
    ·have:=M7 bi ba i a4 (.inr L) ST
     rw[Z]at this;cases this
    ·have ao:xR k A i o0=o0:=by rw[xR,fx au,fx a4]
     rw[ao]at hs
     refine uU R1 ar (AK a9) ⟨o0,ae,.inl rfl⟩ (ad i o0 · M) hs λs' x w' β' τ' π' hK R2=>?_
     exact ih _ s' _ w' β' τ' π' (by simp[D]) (ba.set L) (by rw[getD_set_ne au];exact Z) (hp.put (λd hd=>b5 i o0 d M (by rw[yb ae];exact hd)) x) (R2.sub λn hn=>Ef (ko L) hn) hK
 exact key ops.size _ s a _ β τ π TB (λk ok hk D=>by rw[Dh]at D;cases D) (Dh _ _) (.refl _ _) R' h3
end
end
end Go.Eng
