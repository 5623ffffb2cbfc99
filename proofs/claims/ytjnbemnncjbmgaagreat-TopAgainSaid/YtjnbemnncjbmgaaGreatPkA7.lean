/- Part 7 of the engine and its library. -/
import Derived.Test.YtjnbemnncjbmgaaGreatPkA6
set_option linter.all false
set_option maxRecDepth 10000
set_option maxHeartbeats 4000000
namespace Go.Eng
open Go
open Go.RowKit (Below)
section
variable{P:Program} {nt:Nat} {n0:gw} {w0:World} {π0:Nat->Nat->Prop} {U:Nat->Prop} {s:S} {a:Act} {w:World} {β:Nat->Nat} {τ:Nat->Value} {π:Nat->Nat->Prop}
section
variable {C:aQ} {K:SV->S->Prop} {Q:Exit->Act->World->Prop} {T:Nat->Prop} {X:AV->S->Prop} {as:List aM} {b:Bool} {c:Call} {cJ:List (Nat×Nat)} {cos:List CO} {cs:Array Value} {d:Option Nat} {e:TypeId} {f:Nat} {g:Option (Nat×Bool)} {i:TypeInfo} {id k:Nat} {l:Array Bool} {m:Nat} {neg:Bool} {next:Act->World->Prop} {o:Oper} {op:BinOp} {ops:Array Oper} {r:Option Nat} {t:TypeId} {v:Value} {w':World} {x:Value} {y:aM} {π':Nat->Nat->Prop}
theorem Ka{a:AV} (h:DV w π a v) (D:jP a=true):v=Wo a:=by
 cases h<;>first|rfl|(simp[jP]at D;done)
theorem WN{a:AV} (h:DV w π a v) (D:jQ a=true):v=yJ a:=by
 cases h with
 |agg as vs M V hd=>
  simp only[jQ,np]at D
  show Value.agg vs=.agg _
  congr 1
  apply Array.ext
  ·simpa using M.symm
  ·intro i O R
   have L:i<as.length:=aaN
   have:=Ka (hd i as[i] vs[i] (by simp[L]) (by simp[O])) (D _ (xn L))
   simpa using this
 |_=>first|rfl|(simp[jQ,jP]at D;done)
theorem kn{d:TypeDesc} (h:P.underlying t=some d):(underlying t).run P w=.ok d w:=by
 simp[underlying,h]
theorem P3{z:AV} (h:zeroV P t=some z):∃v:Value,(zeroValue t).run P w=.ok v w/\DV w π z v:=by
 unfold zeroV at h;simp only[io]at h;obtain⟨v,⟨i,L,M⟩,D⟩:=h
 exact⟨v,by simp[zeroValue,typeInfo,L,M],R7 D⟩
theorem GP(d:Nat) {L:Array (String×TypeId)} (h:P.underlying t=some (.interface L)) (x:Value) (b:Bool) (O:(x=.nilIface/\b=true)\/(∃M y,x=.iface M y/\b=false)):(Op.equalIn (d+1) t x .nilIface).run P w=.ok b w:=by
 have D:(underlying t).run P w=.ok (.interface L) w:=kn h
 rcases O with⟨rfl,rfl⟩|⟨M,y,rfl,rfl⟩<;>simp only[Op.equalIn,f8,D,fp,km]
theorem P4(d:Nat) (h:P.underlying t=some (.pointer e)) (x:Option Addr):(Op.equalIn (d+1) t (.pointer x) (.pointer none)).run P w=.ok x.isNone w:=by
 have D:(underlying t).run P w=.ok (.pointer e) w:=kn h
 cases x<;>simp only[Op.equalIn,f8,D,fp,km,Option.isNone]
theorem Io(D:(op=.eql/\neg=false)\/(op=.neq/\neg=true)) {X Y:Operand} {y:Value} (R:(eqGuard op t X Y x y).run P w=.ok () w) (O:∀d,(Op.equalIn (d+1) t x y).run P w=.ok b w) (M:binOp .eql t x y=(do pure (.bool (<-Op.equal t x y)))) (V:binOp .neq t x y=(do pure (.bool (!(<-Op.equal t x y))))):(do eqGuard op t X Y x y;binOp op t x y:Sem Value).run P w=.ok (.bool (b !=neg)) w:=by
 have L:(Op.equal t x y).run P w=.ok b w:=O 9999
 rw[f8,R]
 rcases D with⟨rfl,rfl⟩|⟨rfl,rfl⟩
 ·simp only[fp,M,f8,L,km];simp
 ·simp only[fp,V,f8,L,km];simp
theorem Oj(D:(op=.eql/\neg=false)\/(op=.neq/\neg=true)) (M:rP P t=true) {a:AV} {X:Operand} (O:MC neg a=some b) (Z:DV w π a x):(do eqGuard op t X (.const .nilIface) x .nilIface;binOp op t x .nilIface:Sem Value).run P w=.ok (.bool b) w:=by
 have L:∃e,P.underlying t=some (.interface e):=by
  unfold rP at M;split at M
  ·exact⟨_,by assumption⟩
  ·cases M
 obtain⟨e,L⟩:=L
 cases Z<;>simp only[MC,gc,reduceCtorEq]at O<;>subst O
 ·have:=Io (P:=P) (w:=w) D (t:=t) (X:=X) (Y:=.const .nilIface) (x:=.nilIface) (y:=.nilIface) (b:=true) (by rcases D with⟨rfl,rfl⟩|⟨rfl,rfl⟩<;>simp[eqGuard]) (λd=>GP d L _ _ (.inl ⟨rfl,rfl⟩)) rfl rfl
  rw[this];cases neg<;>rfl
 ·rename_i V av R aa
  have:=Io (P:=P) (w:=w) D (t:=t) (X:=X) (Y:=.const .nilIface) (x:=.iface V R) (y:=.nilIface) (b:=false) (by rcases D with⟨rfl,rfl⟩|⟨rfl,rfl⟩<;>simp[eqGuard]) (λd=>GP d L _ _ (.inr ⟨_,_,rfl,rfl⟩)) rfl rfl
  rw[this];cases neg<;>rfl
theorem Ol(O:(op=.eql/\neg=false)\/(op=.neq/\neg=true)) (V:CD P t=true) {v:SV} {X:Operand} (L:Dr neg v=some b) (M:RV β τ w π v x):(do eqGuard op t X (.const (.pointer none)) x (.pointer none);binOp op t x (.pointer none):Sem Value).run P w=.ok (.bool b) w:=by
 have R:∃e,P.underlying t=some (.pointer e):=by
  unfold CD at V;split at V
  ·exact⟨_,by assumption⟩
  ·cases V
 obtain⟨e,R⟩:=R
 have D:∀A:Option Addr,(A.isNone !=neg)=b->(do eqGuard op t X (.const (.pointer none)) (.pointer A) (.pointer none);binOp op t (.pointer A) (.pointer none):Sem Value).run P w=.ok (.bool b) w:=by
  intro A Z
  have:=Io (P:=P) (w:=w) O (t:=t) (X:=X) (Y:=.const (.pointer none)) (x:=.pointer A) (y:=.pointer none) (b:=A.isNone) (by rcases O with⟨rfl,rfl⟩|⟨rfl,rfl⟩<;>simp[eqGuard]) (λd=>P4 d R A) (by cases A<;>rfl) (by cases A<;>rfl)
  rw[this,Z]
 cases v with
 |ptr b' o=>
  have M:x=.pointer (some ⟨β b',o,none⟩):=M
  subst M
  exact D _ (by simpa[Dr]using L)
 |rp cs=>
  obtain⟨B,off,f,rfl,_⟩:=M
  exact D _ (by simpa[Dr]using L)
 |dat av q=>
  have hd:=M.1
  cases av<;>simp only[Dr,gc,reduceCtorEq]at L
  ·cases hd
   exact D none (by rw[<-L];cases neg<;>rfl)
  ·cases hd
   exact D _ (by rw[<-L];cases neg<;>rfl)
 |_=>simp[Dr]at L
theorem WO{xt:TypeId} {z a v:AV} (hz:zeroV P t=some z) (Z:(rP P t||(P.underlying t).isNone)=false) (D:JR t z a=some v) (hx:DV w π a x):
  ∃u,(Instr.typeAssert x xt t true).run P w=.ok u w/\DV w π v u:=by
 obtain⟨zv,R,V⟩:=P3 (w:=w) (π:=π) hz
 simp only[zd]at Z;obtain⟨hi,hn⟩:=Z
 cases hu:P.underlying t with
 |none=>rw[hu]at hn;cases hn
 |some d=>
  have L:(underlying t).run P w=.ok d w:=kn hu
  have hd:∀ms,d≠.interface ms:=λms e=>by subst e;simp[rP,hu]at hi
  have no:∀(x:Value),x=.nilIface\/(∃M y,x=.iface M y/\M≠t)->(Instr.typeAssert x xt t true).run P w=.ok (.tuple #[zv,.bool false]) w:=by
   intro x hx
   rcases hx with rfl|⟨M,y,rfl,aa⟩
   ·unfold Instr.typeAssert
    simp only[f8,L,fp]
    cases d<;>first|exact absurd rfl (hd _)|simp[R]
   ·unfold Instr.typeAssert
    simp only[f8,L,fp]
    cases d<;>first|exact absurd rfl (hd _)|simp[R,aa]
  have two:∀{p:AV} {y:Value} (b:Bool),DV w π p y->DV w π (.de [p,.bool b]) (.tuple #[y,.bool b]):=by
   intro p y b hp
   refine .de _ _ rfl (λi a v O D=>?_)
   cases i with
   |zero=>simp at O D;subst O D;exact hp
   |succ i=>cases i with
    |zero=>simp at O D;subst O D;exact .bool b
    |succ i=>simp at O
  cases hx<;>simp only[JR,gc,reduceCtorEq]at D<;>subst D
  ·exact⟨_,no _ (.inl rfl),two _ V⟩
  ·rename_i M av y ab
   by_cases he:M=t
   ·rw[ib he]
    subst he;refine⟨.tuple #[y,.bool true],?_,two _ ab⟩;unfold Instr.typeAssert;simp only[f8,L,fp]
    cases d<;>first|exact absurd rfl (hd _)|simp
   ·rw[ge he]
    exact⟨_,no _ (.inr ⟨M,y,rfl,he⟩),two _ V⟩
theorem Rel.Om(R:Rel P nt n0 w0 π0 U s a w β τ π) (al:¬U id) {B:Nat} {cs:List AV} (hB:w.heap.size<=B) (ab:Below w.heap.size w w') (hp:∀b o,π b o->π' b o) (ad:∀b o,π' b o->π b o\/w.heap.size<=b) (ac:∀b o,π' b o->b<w'.heap.size) (ae:pN (λ_=>undef) w' π' B ⟨cs,[]⟩):
  Rel P nt n0 w0 π0 (eN U id) {s with boxes:=(id,⟨cs,[]⟩)::s.boxes} a w' (Ge β id B) τ π':=by
 have aa:∀b,U b->b≠id:=λb L e=>al (e▸L)
 have D:Rel P nt n0 w0 π0 (eN U id) s a w' (Ge β id B) τ π':=
  R.frame (λb L=>xP _ _ _ (aa b L)) (λ_ _=>rfl) (λn h=>.inl h) hp ad ac ab
 have ak:n0.n<=w.heap.size:=kw R.f9 R.below.size
 have hold:∀b x,bO b s.boxes=some x->Ge β id B b≠B:=λb x h=>by
  obtain⟨h1,_,⟨am,el,hh,_⟩,_⟩:=R.boxes b x h;rw[xP _ _ _ (aa b h1)]
  have:=oP hh
  omega
 refine⟨D.size,D.slots,λb x h=>?_,λb Z x x' h O e=>?_,D.live,D.cw,λq e' b x h O V=>?_,D.below,D.f9,D.eF,D.ep,D.cB,D.lz,D.jb,D.kept⟩
 ·simp only[bO]at h
  by_cases L:b=id
  ·subst L
   simp at h;subst h
   refine⟨.inr rfl,by rw[bY];exact .inl (kw ak hB),?_,λo q h=>by simp[dJ]at h⟩
   rw[bY];exact ae.rQ
  ·have:(b==id)=false:=by simpa using L
   simp only[this,er]at h;exact D.boxes b x h
 ·simp only[bO]at h O
  by_cases L:b=id
  ·by_cases M:Z=id
   ·rw[L,M]
   ·have hf:(Z==id)=false:=by simpa using M
    simp only[hf,er]at O;subst L;rw[bY]at e;exact absurd e.symm (hold Z x' O)
  ·have hf:(b==id)=false:=by simpa using L
   simp only[hf,er]at h
   by_cases M:Z=id
   ·subst M
    rw[bY]at e;exact absurd e (hold b x h)
   ·have ag:(Z==id)=false:=by simpa using M
    simp only[ag,er]at O;exact D.inj b Z x x' h O e
 ·simp only[bO]at O
  by_cases L:b=id
  ·subst L
   rw[bY]at V
   have:=((R.live q e' h).2.block V).2
   omega
  ·have hf:(b==id)=false:=by simpa using L
   simp only[hf,er]at O;exact D.cz q e' b x h O V
theorem v9{w:World} {π:Nat->Nat->Prop}:∀{as D:List (Option AV)} {Bs L:List Nat} {vs M:List Value},eO w π as Bs vs->eO w π D L M->eO w π (as++D) (Bs++L) (vs++M)
 |[],D,[],L,[],M,_,O=>O
 |[],D,B::Bs,L,vs,M,h,O=>by cases vs<;>exact h.elim
 |[],D,[],L,v::vs,M,h,O=>h.elim
 |some a::as,D,Bs,L,[],M,h,O=>by cases Bs<;>cases a<;>exact h.elim
 |some a::as,D,Bs,L,v::vs,M,h,O=>by
  rcases nV h with⟨rfl,B,aa,rfl,e,R⟩|⟨V,Z,R⟩
  ·exact⟨e,v9 R O⟩
  ·exact xO V Z (v9 R O)
 |none::as,D,[],L,vs,M,h,O=>by cases vs<;>exact h.elim
 |none::as,D,B::Bs,L,[],M,h,O=>h.elim
 |none::as,D,B::Bs,L,v::vs,M,h,O=>⟨h.1,v9 h.2 O⟩
theorem rW{w:World} {π:Nat->Nat->Prop}:∀{as:List AV} {vs:List Value},ji w π as vs->eO w π (as.map some) [] vs
 |[],[],_=>trivial
 |[],v::vs,h=>by have:=h.1;simp at this
 |a::as,[],h=>by have:=h.1;simp at this
 |a::as,v::vs,h=>DA (h.2 0 a v rfl rfl) (rW ⟨by have:=h.1;simpa using this,λi x u L D=>h.2 (i+1) x u (by simpa using L) (by simpa using D)⟩)
theorem St(h:c.callee=.value (.func f)) (D:bL P f=true):wV P c=(gu c.args).map (if rO P c.argTypes.toList then .dR f else .call f):=by
 unfold wV;rw[h];simp[D]
theorem Oo{q n:Nat} {x:AV} {id:Nat}:∀{l:List (Nat×SV)} {t:Nat} {v:SV},lk t (Du q n x id l)=some v->∃u,lk t l=some u/\v=Dt q n x id u
 |[],t,v,h=>by cases h
 |(m,u)::r,t,v,h=>by
  simp only[Du,lk,ki]at h⊢;split at h
  ·rename_i e;cases h;subst e;exact⟨u,aaP,rfl⟩
  ·rename_i e;obtain⟨M,D,L⟩:=Oo h;exact⟨M,by simp[e,D],L⟩
theorem Rel.made(R:Rel P nt n0 w0 π0 U s a w β τ π) (M:¬U id) (hi:P.info? e=some i) (hz:i.size=1) {c:Nat} (hc:c<=maxLen) (O:cs.size=c):
  Rel P nt n0 w0 π0 (eN U id) {s with live:=(id,e)::s.live} a (w.alloc (.cells cs e)) β (Ge τ id (.slice (some ⟨w.heap.size,0,none⟩) 0 c)) π:=by
 have L:Below w.heap.size w (w.alloc (.cells cs e)):=(Below.refl _ _).alloc (ik _) _
 have V:n0.n<=w.heap.size:=kw R.f9 R.below.size
 have R1:Rel P nt n0 w0 π0 U s a (w.alloc (.cells cs e)) β τ π:=
  R.frame (λ_ _=>rfl) (λ_ _=>rfl) (λ_ h=>h) (λ_ _ h=>h) (λ_ _ h=>.inl h) (λb o h=>by have:=R.eF b o h;simp;omega) L
 refine R1.uF M (.inr ⟨w.heap.size,0,c,cs,i,rfl,.inl V,LE w _,Nat.zero_le _,hc,hi,by rw[hz,O,sd],λo _ Z=>?_⟩) (λq e' B hq hB D=>?_) (λb x hb D=>?_)
 ·have:=R.eF _ _ Z;omega
 ·have h1:=((R.live q e' hq).2.block hB).2
  simp[jl]at D;omega
 ·have:=R.lC hb
  simp[jl]at D;omega
theorem Rel.copied(R:Rel P nt n0 w0 π0 U s a w β τ π) (a6:¬U id) {e q B cap:Nat} {D:List (List AV)} {cs:List Value} {L:Array Value} (hi:P.info? e=some i) (hz:i.size=1) (ab:dJ q s.live=some e) (hτ:τ q=.slice (some ⟨B,0,none⟩) 0 cap) (hn:D.length<=cap) (hh:w.heap[B]? =some (.cells L e (0,0))) (an:n0.ok B) (a3:cap<=maxLen) (ar:L.size=cap) (hfree:∀o,¬π B o) (hy:∀r∈D,r.length=1) (hd:ji w π D.flatten cs) (a5:∀r∈D,∀x∈r,x.scalar=true):
  ∃τ' π',Rel P nt n0 w0 π0 (eN U id) {s with slots:=Du q D.length (.sl D) id s.slots,live:=(id,e)::jj q s.live} a (w.setRow B (L.toList.take 0++cs++L.toList.drop (0+cs.length)).toArray) β τ' π':=by
 have ba:cs.length=D.length:=by rw[<-hd.1,jm hy,sd]
 generalize aa:(L.toList.take 0++cs++L.toList.drop (0+cs.length)).toArray=cur'
 have au:cur'.size=L.size:=by rw[<-aa];simp;omega
 have a2:∀(j:Nat) (v:Value),cs[j]? =some v->cur'[j]? =some v:=by
  intro j v V
  have hj:j<cs.length:=(em.1 V).1
  rw[<-aa];simp[kp hj,V]
 have ac:∀q' e',dJ q' (jj q s.live)=some e'->jl (τ q')≠some B:=by
  intro q' e' ag Z;obtain⟨h1,h2⟩:=kg ag
  exact h2 (R.cw q' q e' e B h1 ab Z (by rw[hτ];rfl))
 have ad:∀b x,bO b s.boxes=some x->β b≠B:=λb x hb e'=>R.cz q e b x ab hb (by rw[hτ,e'];rfl)
 have R1:=(R.MH q).J3 (m:=D.length) (cur':=cur') an hh (λo ho=>absurd ho (hfree o)) ac ad
 have ao:(w.setRow B cur').heap[B]? =some (.cells cur' e (0,0)):=setRow_heap w _ L _ e _ hh
 have R2:=R1.uF (id:=id) (e:=e) (v:=.slice (some ⟨B,0,none⟩) D.length cap) a6
  (.inr ⟨B,D.length,cap,cur',i,rfl,an,ao,hn,a3,hi,by rw[au,ar,hz,sd],λo ho hc=>by
   rw[hz,sd]at ho
   rcases hc with h|⟨_,h⟩
   ·exact hfree o h
   ·omega⟩) (λq' e' C ag hC Z=>by simp[jl]at Z;exact ac q' e' ag (by rw[hC,Z])) (λb x hb Z=>ad b x hb (by simpa[jl]using Z.symm))
 have a4:DV (w.setRow B cur') (grow π B D.length) (.sl D) (.slice (some ⟨B,0,none⟩) D.length cap):=by
  have hmono:∀{x:AV} {v:Value},DV w π x v->DV (w.setRow B cur') (grow π B D.length) x v:=λh=>h.mono (λ_ _ h=>.inl h) (λb o h=>by
   by_cases e':b=B
   ·subst e';exact absurd h (hfree o)
   ·exact aal w _ cur' ⟨b,o,none⟩ e')
  have one:∀(i j:Nat) (r:List AV) (x:AV),D[i]? =some r->r[j]? =some x->j=0/\∃v,cs[i]? =some v/\cur'[i]? =some v/\DV w π x v:=by
   intro i j r x M O
   have a8:=hy r (et M)
   have hj:j=0:=by have:=(em.1 O).1;omega
   subst hj
   obtain⟨v,V,ae⟩:=hd.get (l5 hy M O)
   rw[sd,sh]at V;exact⟨rfl,v,V,a2 i v V,ae⟩
  refine .sl D B 0 cap 1 (λi j=>cur'.getD i undef) hn (λi r M=>hy r (et M)) (λi j r x M O=>a5 r (et M) x (et O)) (λi j r x M O=>?_) (λi j r x M O=>?_) (λi j r x M O=>?_)
  ·obtain⟨rfl,_⟩:=one i j r x M O
   exact .inr ⟨rfl,by have:=(em.1 M).1;omega⟩
  ·obtain⟨rfl,v,_,V,_⟩:=one i j r x M O
   rw[kr,sd,sh,xr _ _ _ cur' e (0,0) ao,V];simp[V]
  ·obtain⟨rfl,v,_,V,ae⟩:=one i j r x M O
   simp only[vd,V,wi];exact hmono ae
 refine⟨_,_,{R2 with slots:=λt v V=>?_}⟩
 obtain⟨u,hu,rfl⟩:=Oo V;obtain⟨⟨x,O,M⟩,am⟩:=R2.slots t u hu
 cases u with
 |raw q' n'=>
  by_cases ak:q'=q/\n'=D.length
  ·obtain⟨rfl,rfl⟩:=ak
   simp only[Dt,nf,zr,fx];obtain⟨⟨x2,al,B',a7,h1,h2,h3⟩,a9⟩:=R.slots t _ hu;rw[O]at al;cases al;rw[hτ]at h1;simp only[Value.slice.injEq,gc,Addr.mk.injEq]at h1;obtain⟨⟨rfl,_⟩,_,rfl⟩:=h1
   refine⟨⟨x,O,?_,λt ht=>?_⟩,.inr rfl⟩
   ·rw[h2];exact a4
   ·cases ht;rw[bY,h2]
  ·have hb:(q'==q&&n'==D.length)=false:=by
    rw[Hm];intro h;simp only[ed,md]at h;exact ak h
   simp only[Dt,hb,er];exact⟨⟨x,O,M⟩,am⟩
 |_=>exact⟨⟨x,O,M⟩,am⟩
theorem Rel.WQ(R:Rel P nt n0 w0 π0 U s a w β τ π) {O:Value} {X Y:Operand} (ht:P.underlying t=some (.slice e)) (hi:P.info? e=some i) (hz:i.zero=some O) (V:(0<i.size&&O.cells.size==i.size&&0<i.bytes)=true) (hx:cn X=some (.k .aU)) (hy:cn Y=some y) (ar:¬U id) (ty:TypeId) {X':AV->S->Prop} (h:cI (Pure P) id (.apn e i.size i.bytes y) K X' s):
  ∃v u s' w' β' π',(Builtin.append_ #[t,t] ty #[a.eval X,a.eval Y]).run P w=.ok u w'/\RV β' τ w' π' v u/\v.gK (eN U id)/\K v s'/\Rel P nt n0 w0 π0 (eN U id) s' a w' β' τ π':=by
 simp only[ed,ii,md]at V;obtain⟨⟨a2,a3⟩,an⟩:=V;simp only[cI]at h;obtain⟨b,hb,h⟩:=ah h;obtain⟨D,L,⟨M,hbytes⟩,aa,hK⟩:=ah h
 have al:a.eval X=.slice none 0 0:=by
  have:=(R.bJ hx (show Eng.bJ s (.k .aU)=some (.dat .aU none)from rfl)).1.1
  generalize a.eval X=v at this;cases this;rfl
 have Z:=R.aG hy hb
 simp only[GF,np,ed,md]at aa
 have ao:∀r∈D,r.length=i.size:=λr hr=>(aa r hr).1
 have ac:0<D.length:=List.length_pos_iff.2 M
 obtain⟨A,c,am,news,hl,hcell,au,ab,ad⟩:∃(A:Addr) (c:Nat),a.eval Y=.slice (some A) D.length c/\∃news:List Value,news.length=D.length*i.size/\(∀j u,news[j]? =some u->w.cell? (A.add j)=some u)/\(∀u∈news,u.oneCell'=true)/\ji w π D.flatten news/\∀r∈D,∀x∈r,x.scalar=true:=by
  cases b<;>simp only[rowsOf]at L<;>try(cases L;done)
  ·cases L;exact absurd rfl M
  ·cases L
   generalize a.eval Y=v at Z
   cases Z with
   |PV A=>exact absurd rfl M
   |sl _ B off cap z f h1 h2 h3 h4 h5 h6=>
    obtain⟨_,hn⟩:=DV.news (.sl D B off cap z f h1 h2 h3 h4 h5 h6) ao
    exact⟨⟨B,off,none⟩,cap,rfl,hn⟩
 have ae:D.length<=maxLen:=by
  have:=IH D.length an
  simp only[maxLen];omega
 have ag:=run_append_nil (P:=P) w t ty e i O ht hi hz A D.length c news hl hcell ac (by simp only[maxLen]at ae;omega) aaN
 have R':=R.draw.MF ar (cells:=D.flatten) (cs:=news.toArray++Builtin.zeroCells O.cells (grownCap w D.length 0 e-D.length)) e (by
   have:(news.toArray++Builtin.zeroCells O.cells (grownCap w D.length 0 e-D.length)).toList.take D.flatten.length=news:=by
    simp only[Array.toList_append];exact yk ab.1.symm
   rw[this]
   exact ji.mono (w:=w) (w':=w.drew) (π:=π) (λ_ _ h=>h) (λ_ _ _=>rfl) ab) (λx hx=>by
   obtain⟨r,hr,ak⟩:=NE.1 hx
   exact ad r hr x ak)
 refine⟨.vs id 0 D.length i.size,_,_,_,_,_,by rw[al,am];exact ag,?_,.inr rfl,hK,R'⟩
 refine⟨grownCap w D.length 0 e,grownCap_ge w D.length 0 e,?_⟩;rw[bY];rfl
theorem Rel.WR(R:Rel P nt n0 w0 π0 U s a w β τ π) (ao:¬U id) {rows:List (List AV)} {e z:Nat} (O:Below w.heap.size w w') (hd:DV w' π' (.sl rows) v) (ak:GH P w' π' (λB=>w.heap.size<=B) e v) (hf:GF z rows=true):
  ∃β',Rel P nt n0 w0 π0 (eN U id) {s with boxes:=(id,⟨rows.flatten,[]⟩)::s.boxes} a w' β' τ π/\RV β' τ w' π (.vs id 0 rows.length z) v:=by
 simp only[GF,np,ed,md]at hf
 rcases ak with rfl|⟨B,len,cap,D,i,rfl,hB,hh,am,ar,hi,au,hfree⟩
 ·cases hd
 obtain⟨ad,news,hl,hcell,_,Z,an⟩:=DV.news hd (λr hr=>(hf r hr).1)
 subst ad
 have M:∀(j:Nat) (u:Value),news[j]? =some u->D[j]? =some u:=by
  intro j u hu
  have:=hcell j u hu
  rw[iK,kr,xr w' B j D e (0,0) hh]at this;exact this
 have ae:∀b o,π b o->b<w'.heap.size:=λb o h=>re (R.eF b o h) O.size
 have al:pN (λ_=>undef) w' π B ⟨rows.flatten,[]⟩:=by
  refine⟨D,e,hh,⟨?_,λj x u L hu=>?_⟩,λx L=>?_,λo q hq=>by simp[dJ]at hq,λo ho=>by have:=R.eF _ _ ho;omega⟩
  ·have a2:news.length<=D.size:=by
    rcases lj D.size news.length with h|h
    ·exfalso
     have:=M D.size news[D.size] (eh h)
     rw[GE (ik _)]at this;cases this
    ·exact h
   simp only[H1,PH,Z.1];omega
  ·have hj:j<rows.flatten.length:=by
    rcases lj j rows.flatten.length with h|h
    ·exact h
    ·simp only[]at L;rw[kb h]at L;cases L
   simp only[]at L hu;rw[r0 hj]at hu
   have aa:j<news.length:=by rw[<-Z.1];exact hj
   have ac:=M j news[j] (eh aa)
   have:u=news[j]:=by
    have h2:D[j]? =some u:=by simpa using hu
    rw[h2]at ac;exact(xa ac)
   subst this
   have ag:=Z.2 j x _ L (eh aa)
   have ab:jP x=true:=by
    obtain⟨r,hr,V⟩:=NE.1 (et L)
    exact(hf r hr).2 x V
   rw[Ka ag ab];exact DV.jP ab
  ·obtain⟨r,hr,V⟩:=NE.1 L
   exact an r hr x V
 refine⟨Ge β id B,R.Om ao hB O (λ_ _ h=>h) (λ_ _ h=>.inl h) ae al,cap,?_,?_⟩
 ·cases hd<;>first|exact am|omega
 ·rw[bY]
theorem WS{e z b:Nat} (h:wV P c=some (.app e z b (.k .aU) y)):∃t V R i L,c.callee=.builtin .append/\c.argTypes.toList=[t,t]/\c.args.toList=[V,R]/\P.underlying t=some (.slice e)/\cn V=some (.k .aU)/\cn R=some y/\
  P.info? e=some i/\i.zero=some L/\(0<i.size&&L.cells.size==i.size&&0<i.bytes)=true/\i.size=z/\i.bytes=b:=by
 obtain⟨callee,args,argTypes⟩:=c;unfold wV at h;split at h
 ·split at h
  ·simp only[eg]at h
   obtain⟨_,_,h⟩:=h
   split at h<;>cases h
  ·split at h<;>try(cases h;done)
   simp only[eg]at h;obtain⟨_,_,h⟩:=h;cases h
 ·split at h<;>try(cases h;done)
  simp only[gc]at h
  split at h<;>cases h
 ·split at h<;>try(cases h;done)
  split at h<;>try(cases h;done)
  simp only[eg]at h;obtain⟨_,_,h⟩:=h;cases h
 ·rename_i D
  split at h<;>try(cases h;done)
  rename_i t t' x y' hT hX
  split at h<;>try(cases h;done)
  rename_i O;subst O
  split at h<;>try(cases h;done)
  rename_i e' x' aa ht hx Z
  split at h<;>try(cases h;done)
  rename_i i hi
  split at h<;>try(cases h;done)
  rename_i L hz
  split at h<;>try(cases h;done)
  rename_i M;cases h;exact⟨_,_,_,i,L,D,hT,hX,ht,hx,Z,hi,hz,M,rfl,rfl⟩
 ·simp only[eg]at h
  obtain⟨_,_,h⟩:=h;cases h
 ·simp only[eg]at h
  obtain⟨_,_,h⟩:=h;cases h
 ·cases h
theorem MP(R:Rel P nt n0 w0 π0 U s a w β τ π) {c:Gd} (ae:¬U id) (L:Wq P o.op=some c) (h:cI (Pure P) id c K X s) (hn:∀v s' x w' β' τ' π',K v s'->RV β' τ' w' π' v x->v.gK (eN U id)->Rel P nt n0 w0 π0 (eN U id) s' a w' β' τ' π'->next (a.put o.dst x) w') (hx:∀p s' w' β' τ' π',X p s'->Rel P nt n0 w0 π0 (eN U id) s' a w' β' τ' π'->Q (.panic (gL p)) a w'):o.wp P a w next Q:=by
 obtain⟨dst,op,D,pos,after,guard⟩:=o;simp only at L
 have bi:∀n,U n->eN U id n:=λn h=>.inl h
 have fin:∀{v:SV} {y:Value},(execOp a.eval ⟨dst,op,D,pos,after,guard⟩).run P w=.ok (.value y) w->RV β τ w π v y->v.gK U->K v s->Oper.wp P ⟨dst,op,D,pos,after,guard⟩ a w next Q:=by
  intro v y M hv hu hK;unfold Oper.wp;rw[M];exact hn v s y w β τ π hK hv (SV.nW bi hu) (R.sub bi)
 have al:∀{v:AV} {y:Value},(execOp a.eval ⟨dst,op,D,pos,after,guard⟩).run P w=.ok (.value y) w->DV w π v y->K (.dat v none) s->Oper.wp P ⟨dst,op,D,pos,after,guard⟩ a w next Q:=
  λ{v y} M hv hK=>fin (v:=.dat v none) M ⟨hv,λt ht=>by cases ht⟩ trivial hK
 -- a function is entered that raises
 have raise:∀{f:Nat} {ids:List Nat} {css aa:List (List AV)} {ab:List (Option AV)} {vs:List Value} {p:AV},R8 P f css ab p aa->ids.Nodup->aS s.boxes ids=some css->eO w π ab (ids.map β) vs->
   (execOp a.eval ⟨dst,op,D,pos,after,guard⟩).run P w=.ok (.enter f vs.toArray) w->X p {s with boxes:=dm ids aa s.boxes}->Oper.wp P ⟨dst,op,D,pos,after,guard⟩ a w next Q:=by
  intro f ids css aa ab vs p hq ak O ac M hX;obtain⟨a5,a9,_,hq⟩:=hq;unfold Oper.wp;rw[M,xf];refine(hq w π (ids.map β) vs R.eF (R.nodup ak O) (R.oS O) ac).mono ?_
  rintro e w' ⟨π',rfl,Z,ao,an,am,a2⟩
  obtain⟨τ',_,R'⟩:=R.vV (fr:=none) ae ak O a9 Z ao an am a2 DV.gh (λt ht=>by cases ht)
  exact hx _ _ _ _ _ _ hX R'
 -- a function is entered that takes a token,or leaves one
 have tok:∀{f:Nat} {ids:List Nat} {css:List (List AV)} {ab:List (Option AV)} {vs:List Value},N1 (Pure P) f css ab ids id s.boxes s.live (λv bx lv=>K v {s with boxes:=bx,live:=lv})->ids.Nodup->aS s.boxes ids=some css->eO w π ab (ids.map β) vs->
   (bL P f=true->(execOp a.eval ⟨dst,op,D,pos,after,guard⟩).run P w=.ok (.enter f vs.toArray) w)->Oper.wp P ⟨dst,op,D,pos,after,guard⟩ a w next Q:=by
  intro f ids css ab vs hT ak O ac M;obtain⟨tg,r,aa,du,hp,hT⟩:=hT;obtain⟨qo,dj,hK⟩:=ah hT
  have hp:R9 P f css tg ab r aa du:=hp
  obtain⟨a5,a9,_,hp⟩:=hp;obtain⟨tv,dt,di⟩:=R.Ib O dj;unfold Oper.wp;rw[M a5,xf];refine(hp w π (ids.map β) vs tv R.eF (R.nodup ak O) (R.oS O) ac dt).mono ?_
  rintro e w' ⟨v,π',d4,rfl,Z,ao,an,am,ct,a2,ba,bd⟩
  obtain⟨τ',a8,R'⟩:=R.WD ae ak O a9 di Z ao an am ct a2 ba bd;exact hn _ _ _ _ _ _ _ hK a8 trivial R'
 cases op<;>simp only[Wq]at L<;>try(cases L;done)
 case binOp op t x y yt=>
  unfold afq at L
  split at L<;>try(cases L;done)
  all_goals
   split at L<;>try(cases L;done)
   rename_i hs;simp only[eg]at L;obtain⟨x',V,rfl⟩:=L;simp only[cI]at h;obtain⟨av,ad,h⟩:=ah h;obtain⟨b,hb,hK⟩:=ah h
  ·have M:=Oj (P:=P) (X:=x) (.inl ⟨rfl,rfl⟩) hs hb (R.aG V ad)
   exact al (by simp only[execOp];rw[f8];refine(rh (λr=>Result.andThen r _) M).trans ?_;rfl) (.bool _) hK
  ·have M:=Oj (P:=P) (X:=x) (.inr ⟨rfl,rfl⟩) hs hb (R.aG V ad)
   exact al (by simp only[execOp];rw[f8];refine(rh (λr=>Result.andThen r _) M).trans ?_;rfl) (.bool _) hK
  ·have M:=Ol (P:=P) (X:=x) (.inl ⟨rfl,rfl⟩) hs hb (R.bJ V ad).1
   exact al (by simp only[execOp];rw[f8];refine(rh (λr=>Result.andThen r _) M).trans ?_;rfl) (.bool _) hK
  ·have M:=Ol (P:=P) (X:=x) (.inr ⟨rfl,rfl⟩) hs hb (R.bJ V ad).1
   exact al (by simp only[execOp];rw[f8];refine(rh (λr=>Result.andThen r _) M).trans ?_;rfl) (.bool _) hK
 case makeSlice t l c=>
  split at L<;>try(cases L;done)
  rename_i e l' c' ht hl a7
  split at L<;>try(cases L;done)
  rename_i i hi
  split at L<;>try(cases L;done)
  rename_i au;cases L;simp only[ed,md,ii,aak]at au;obtain⟨⟨hz,zv,c5⟩,d1⟩:=au;simp only[cI]at h;obtain⟨av,ad,h⟩:=ah h;obtain⟨li,dl,h⟩:=ah h;obtain⟨bv,df,h⟩:=ah h;obtain⟨ci,da,hb,hK⟩:=ah h;obtain⟨kl,dp⟩:=R.idx hl ad dl
  obtain⟨kc,c6⟩:=R.idx a7 df da;obtain⟨b0,b1,b2⟩:=hb
  have b3:ci<=140737488355328:=by
   have:ci*1<=ci*(i.bytes:Int):=Int.mul_le_mul_of_nonneg_left aaN aaN
   omega
  have M:=run_make (P:=P) w t e i zv ht hi c5 kl kc li ci b0 b1 (by rw[Int.mul_comm];omega) aaN
  have c4:(execOp a.eval ⟨dst,.makeSlice t l c,D,pos,after,guard⟩).run P w=.ok (.value (.slice (some ⟨w.heap.size,0,none⟩) li.toNat ci.toNat)) (w.alloc (.cells (madeCells zv.cells (ci.toNat*i.size)) e)):=by
   simp only[execOp,dp,c6,f8,M,fp,km]
  unfold Oper.wp;rw[c4]
  exact hn _ _ _ _ _ _ _ hK (show RV β _ _ π (.raw id li.toNat) _ from⟨w.heap.size,ci.toNat,bY ..,rfl,aaN⟩) (.inr rfl) (R.made ae hi hz (by simp only[maxLen];omega) (by rw[size_madeCells,hz,sd]))
 case makeInterface t x=>
  split at L<;>try(cases L;done)
  rename_i a6;simp only[eg]at L;obtain⟨x',V,rfl⟩:=L;simp only[cI]at h;obtain⟨av,ad,d3,hK⟩:=ah h;simp only[px,not_or,Bool.not_eq_true]at a6
  cases hu:P.underlying t with
  |none=>rw[hu]at a6;simp at a6
  |some d=>
   have dy:(underlying t).run P w=.ok d w:=kn hu
   have hd:∀ms,d≠.interface ms:=λms e=>by subst e;simp[rP,hu]at a6
   refine al (y:=.iface t (a.eval x)) ?_ (.iface t av _ (R.aG V ad)) hK
   have:(Instr.makeInterface t (a.eval x)).run P w=.ok (.iface t (a.eval x)) w:=by
    unfold Instr.makeInterface;simp only[f8,dy,fp]
    cases d<;>first|exact absurd rfl (hd _)|rfl
   simp only[execOp,f8,this,fp,km]
 case makeFunc fn first caps=>
  cases fn<;>simp only[]at L<;>try(cases L;done)
  rename_i f
  split at L<;>try(cases L;done)
  rename_i au;simp only[ed]at au;simp only[eg]at L;obtain⟨xs,ag,rfl⟩:=L;simp only[cI]at h;obtain⟨⟨ab,ids⟩,ar,hK⟩:=ah h
  have hf:first=#[]:=by simpa[Kp]using au.1.1
  subst hf
  have d2:=(R.dP (by simpa[gu]using ag) ar).1
  have M:(execOp a.eval ⟨dst,.makeFunc (.func f) #[] caps,D,pos,after,guard⟩).run P w=.ok (.value (.func (.func f) #[] (caps.map a.eval))) w:=by simp[execOp,Instr.makeFunc]
  refine fin M (v:=.mL f ab ids) ⟨caps.map a.eval,rfl,by simpa using d2⟩ (λb hb=>?_) hK
  obtain⟨t,_,v,hl,hv⟩:=iM ar b hb;exact SV.DI hv (R.slots t _ hl).2
 case typeAssert x xt t ok=>
  cases ok<;>simp only[]at L<;>try(cases L;done)
  split at L<;>try(cases L;done)
  rename_i a6
  split at L<;>try(cases L;done)
  rename_i z x' hz V;cases L;simp only[cI]at h;obtain⟨av,ad,h⟩:=ah h;obtain⟨v,hv,hK⟩:=ah h
  obtain⟨u,hu,hd⟩:=WO (P:=P) (xt:=xt) hz (by simpa only[Bool.not_eq_true]using a6) hv (R.aG V ad)
  exact al (by simp only[execOp,f8,hu,fp,km]) hd hK
 case panic x=>
  simp only[eg]at L;obtain⟨x',V,rfl⟩:=L;simp only[cI]at h;obtain⟨av,ad,b8,hX⟩:=ah h
  have hd:=R.aG V ad
  cases av<;>simp only[iI]at b8<;>try(cases b8;done)
  rename_i t b
  have he:a.eval x=.iface t (yJ b):=by
   generalize a.eval x=u at hd
   cases hd with
   |iface _ _ v hd=>rw[WN hd b8]
  unfold Oper.wp
  have M:(execOp a.eval ⟨dst,.panic x,D,pos,after,guard⟩).run P w=.halt (.panic (.iface t (yJ b))) w:=by
   simp[execOp,he,Instr.panic,goPanic]
  rw[M];exact hx _ _ _ _ _ _ hX (R.sub bi)
 case call cl=>
  split at L
  ·rename_i y hy
   cases L;unfold aaV at hy
   split at hy<;>try(cases hy;done)
   rename_i e z b y' a7;cases hy;obtain⟨t,Xo,Yo,i,zv,b6,hT,hX,ht,V,co,hi,hz,ca,rfl,rfl⟩:=WS a7;obtain⟨callee,args,argTypes⟩:=cl;obtain⟨v,u,s',w',β',π',M,hv,hu,hK,R'⟩:=R.WQ ht hi hz ca V co ae D h
   have eT:argTypes=#[t,t]:=lr.1 (by simpa using hT)
   have eX:args=#[Xo,Yo]:=lr.1 (by simpa using hX)
   simp only at b6;subst eT eX b6;unfold Oper.wp
   have:(execOp a.eval ⟨dst,.call ⟨.builtin .append,#[Xo,Yo],#[t,t]⟩,D,pos,after,guard⟩).run P w=.ok (.value u) w':=by
    simp[execOp,resolve,invoke,builtin,M]
   rw[this];exact hn v s' u w' β' τ π' hK hv hu R'
  rename_i c8;clear c8;obtain⟨callee,args,argTypes⟩:=cl
  have d6:=L
  have e1:(args.toList.map a.eval).toArray=args.map a.eval:=lr.1 aaP
  simp only[RZ]at L
  split at L<;>try(cases L;done)
  ·rename_i f
   split at L<;>try(cases L;done)
   rename_i bl;simp only[eg]at L;obtain⟨xs,ag,ck⟩:=L
   have a7:=St (P:=P) (c:=⟨.value (.func f),args,argTypes⟩) rfl bl
   have M:(execOp a.eval ⟨dst,.call ⟨.value (.func f),args,argTypes⟩,D,pos,after,guard⟩).run P w=.ok (.enter f (args.toList.map a.eval).toArray) w:=by
    rw[e1];simp[execOp,resolve,Act.eval,Deferred.ofValue,invoke,fJ bl]
   split at ck
   ·rename_i hp
    subst ck;simp only[cI]at h
    rcases h with h|h
    ·exact vY R ae (by simp only[V6];rw[a7,ib hp];simp[ag]) h hn
    ·obtain⟨⟨ab,ids⟩,ar,ak,h⟩:=ah h
     obtain⟨css,O,h⟩:=ah h
     rcases h with⟨p,aa,hq,hX⟩|hT
     ·exact raise hq (eG ak) O (R.dP (by simpa[gu]using ag) ar).1 M hX
     ·exact tok hT (eG ak) O (R.dP (by simpa[gu]using ag) ar).1 λ_=>M
   ·rename_i hp
    subst ck;simp only[cI]at h
    rcases h with h|h
    ·exact vY R ae (by simp only[V6];rw[a7,ge hp];simp[ag]) h hn
    ·obtain⟨as,has,h⟩:=ah h
     have hd:=R.dO (by simpa[gu]using ag) has
     rcases h with⟨cs,b7,hK⟩|⟨p,hq,hX⟩|⟨rows,e,z,cp,c7,hK⟩
     rotate_right
     ·obtain⟨_,cp⟩:=cp
      unfold Oper.wp;rw[M,xf];refine(cp w π _ R.eF hd).mono ?_
      rintro e' w' ⟨v,π',rfl,Z,ao,an,am,ba,bd⟩
      obtain⟨β',R',a8⟩:=R.WR ae Z ba (bd e rfl) c7
      exact hn _ _ _ _ _ _ _ hK a8 (.inr rfl) R'
     ·obtain⟨_,b7⟩:=b7
      unfold Oper.wp;rw[M,xf];refine(b7 w π _ R.eF hd).mono ?_
      rintro e w' ⟨B,π',rfl,hB,Z,ao,an,am,a2⟩
      have R':=R.Om ae hB Z ao an am a2
      exact hn _ _ _ _ _ _ _ hK (show RV (Ge β id B) τ _ π' (.ptr id 0) _ by simp[RV,bY]) (.inr rfl) R'
     ·exact raise (ids:=[]) (css:=[]) hq Ts rfl (rW hd) M hX
  ·rename_i g
   simp only[eg]at L;obtain⟨xs,ag,rfl⟩:=L;simp only[cI]at h
   have cx:cn (.tmp g)=some (.t g):=rfl
   have old:bn (Pure P) id (if rO P argTypes.toList then .gi (.t g) xs else .fu (.t g) xs) K s->Oper.wp P ⟨dst,.call ⟨.value (.tmp g),args,argTypes⟩,D,pos,after,guard⟩ a w next Q:=λh=>
    vY R ae (by simp only[V6,wV,cx,ag]) h hn
   split at h
   ·rename_i f as bs hl
    obtain⟨⟨us,he,be⟩,_⟩:=R.bJ cx hl;obtain⟨⟨ab,ids⟩,ar,ak,h⟩:=ah h;obtain⟨css,O,h⟩:=ah h
    have a3:=eG ak
    have ac:=v9 (R.dP (by simpa[gu]using ag) ar).1 be
    rw[<-yn]at ac
    have M:bL P f=true->(execOp a.eval ⟨dst,.call ⟨.value (.tmp g),args,argTypes⟩,D,pos,after,guard⟩).run P w=.ok (.enter f (args.toList.map a.eval++us.toList).toArray) w:=λa5=>by
     have e2:(args.toList.map a.eval++us.toList).toArray=args.map a.eval++us:=lr.1 aaP
     rw[e2];simp[execOp,resolve,he,Deferred.ofValue,invoke,fJ a5]
    rcases h with⟨r,fr,aa,hp,hK⟩|⟨p,aa,hq,hX⟩|hT
    ·have hp:uz P f css (ab++as) r fr aa:=hp
     obtain⟨a5,a9,_,hp⟩:=hp;unfold Oper.wp;rw[M a5,xf];refine(hp w π ((ids++bs).map β) _ R.eF (R.nodup a3 O) (R.oS O) ac).mono ?_
     rintro e w' ⟨v,π',rfl,Z,ao,an,am,a2,ba,bd⟩
     obtain⟨τ',a8,R'⟩:=R.vV ae a3 O a9 Z ao an am a2 ba bd
     exact hn _ _ _ _ _ _ _ hK a8 (by cases fr with|none=>trivial|some e=>exact .inr rfl) R'
    ·exact raise hq a3 O ac (M hq.1) hX
    ·exact tok hT a3 O ac M
   ·exact old h
  ·split at L<;>try(cases L;done)
   rename_i t t' x y hT hX
   split at L<;>try(cases L;done)
   rename_i e x' y' ht V co
   split at L<;>try(cases L;done)
   rename_i ca;cases L;simp only[cI]at h;obtain⟨p,hp,h⟩:=ah h
   cases p<;>try(exact h.elim)
   rename_i q n;obtain⟨b,hb,h⟩:=ah h;obtain⟨ys,ch,⟨dq,cu⟩,bm,hK⟩:=ah h;obtain⟨⟨B,cap,hτ,hv,be⟩,d5⟩:=R.bJ V hp
   have a4:(P.info? e).map (·.size)=some 1:=by simpa[f7]using ca
   obtain⟨i,hi,hz⟩:∃i,P.info? e=some i/\i.size=1:=by
    cases hq:P.info? e with
    |none=>simp[hq]at a4
    |some i=>exact⟨i,rfl,by simpa[hq]using a4⟩
   obtain⟨_,c0⟩:=R.live q e bm
   rcases c0 with b5|⟨B',len,d0,bo,i',ce,au,hh,_,db,cv,bj,hfree⟩
   ·rw[hτ]at b5;cases b5
   rw[hτ]at ce;simp only[Value.slice.injEq,gc,Addr.mk.injEq]at ce;obtain⟨⟨rfl,_⟩,rfl,rfl⟩:=ce
   have dx:i'=i:=by rw[hi]at cv;exact(xa cv).symm
   subst dx;rw[hz,sd]at bj;subst dq
   have bw:=R.aG co hb
   have b4:∀o,¬π B o:=λo=>hfree o aaN
   have eT:argTypes=#[t,t']:=lr.1 (by simpa using hT)
   have eX:args=#[x,y]:=lr.1 (by simpa using hX)
   subst eT eX
   have go:∀(cs:List Value) (w':World),ji w π ys.flatten cs->(∀r∈ys,∀x∈r,x.scalar=true)->w'=w.setRow B (bo.toList.take 0++cs++bo.toList.drop (0+cs.length)).toArray->
     (Builtin.copy_ #[t,t'] D #[a.eval x,a.eval y]).run P w=.ok (goInt ys.length) w'->Oper.wp P ⟨dst,.call ⟨.builtin .copy,#[x,y],#[t,t']⟩,D,pos,after,guard⟩ a w next Q:=by
    intro cs w' hd cb hw c1;obtain⟨τ',π',R'⟩:=R.copied ae hi hz bm hτ be hh au db bj b4 cu hd cb
    have M:(execOp a.eval ⟨dst,.call ⟨.builtin .copy,#[x,y],#[t,t']⟩,D,pos,after,guard⟩).run P w=.ok (.value (goInt ys.length)) w':=by
     simp[execOp,resolve,invoke,builtin,c1]
    unfold Oper.wp;rw[M];subst hw
    exact hn (.dat (.int .i64 ys.length) none) _ _ _ _ _ _ hK ⟨.int .i64 _,λt ht=>by cases ht⟩ trivial R'
   cases b<;>simp only[rowsOf,gc,reduceCtorEq]at ch
   ·subst ch
    generalize cr:a.eval y=vy at bw;cases bw
    refine go [] w ⟨rfl,λi a v h=>by simp at h⟩ aaP ?_ ?_
    ·have:=setRow_self w B bo e (0,0) hh
     simpa using this.symm
    ·rw[hv,cr]
     exact run_copy_nil (P:=P) w t t' D e _ _ _ ht (by rw[a4];rfl)
   ·rename_i l
    subst ch;generalize cr:a.eval y=vy at bw
    have row:∀(A:Addr) (m c:Nat) (cs:List Value),vy=.slice (some A) m c->m=l.length->cs.length=m->(∀j u,cs[j]? =some u->w.cell? (A.add j)=some u)->(∀u∈cs,u.oneCell'=true)->ji w π l.flatten cs->(∀r∈l,∀x∈r,x.scalar=true)->
      Oper.wp P ⟨dst,.call ⟨.builtin .copy,#[x,y],#[t,t']⟩,D,pos,after,guard⟩ a w next Q:=by
     intro A m c cs e1 e2 e3 c3 dk hd cb;refine go cs _ hd cb rfl ?_;rw[hv,cr,e1]
     have:=run_copy_row (P:=P) w t t' D e B 0 l.length cap A m c bo e cs ht a4 hh (by rw[e3,e2];exact(Nat.min_self _).symm) c3 (by rw[bj];omega) dk
     rw[this,e3,e2]
    cases bw with
    |PV A=>exact row A 0 0 [] rfl rfl rfl (λj u h=>by simp at h) aaP ⟨rfl,λi a v h=>by simp at h⟩ aaP
    |sl _ B2 cy c2 z2 f2 g1 g2 g3 g4 g5 g6=>
     obtain⟨hm,news,k1,k2,k3,k4,k5⟩:=DV.news (DV.sl l B2 cy c2 z2 f2 g1 g2 g3 g4 g5 g6) cu
     exact row _ _ _ news rfl rfl (by rw[k1,sd]) k2 k3 k4 k5
theorem DS(R:Rel P nt n0 w0 π0 U s a w β τ π):∀{Xs:List Operand} {xs:List aM} {ps:List (Nat×Nat)},Xs.mapM cn=some xs->BC s xs=some ps->
  Xs.map a.eval=(ps.map λp=>Value.pointer (some ⟨β p.1,p.2,none⟩))/\∀p∈ps,U p.1
 |[],xs,ps,L,D=>by
  simp at L;subst L;simp[BC]at D;subst D
  exact⟨rfl,aaP⟩
 |X::Xs,xs,ps,L,D=>by
  simp only[rt,pb,io,tl,gc]at L;obtain⟨x,L,aa,O,rfl⟩:=L;simp only[BC]at D
  split at D<;>try(cases D;done)
  rename_i b o ab h1 Z;cases D;obtain⟨h3,h4⟩:=DS R O Z;obtain⟨h5,V⟩:=R.bJ L h1
  refine⟨by simp only[ka,h3];exact rh (· ::_) h5,λp M=>?_⟩
  rcases nb.1 M with rfl|M
  ·exact V
  ·exact h4 p M
theorem Rel.hold(R:Rel P nt n0 w0 π0 U s a w β τ π) (e:TypeId) {ps:List (Nat×Nat)} (L:∀(i:Nat) (p:Nat×Nat),ps[i]? =some p->cs[i]? =some (.pointer (some ⟨β p.1,p.2,none⟩))):
  ∃π',Rel P nt n0 w0 π0 U s a (w.alloc (.cells cs e)) β τ π'/\∀(i:Nat) (p:Nat×Nat),ps[i]? =some p->π' w.heap.size (0+i)/\(w.alloc (.cells cs e)).cell? ⟨w.heap.size,0+i,none⟩=some (.pointer (some ⟨β p.1,p.2,none⟩)):=by
 have D:Below w.heap.size w (w.alloc (.cells cs e)):=(Below.refl _ _).alloc (ik _) _
 refine⟨λB o=>π B o\/(B=w.heap.size/\o<cs.size),R.frame (λ_ _=>rfl) (λ_ _=>rfl) (λ_ h=>h) (λ_ _ h=>.inl h) (λb o h=>?_) (λb o h=>?_) D,λi p M=>?_⟩
 ·rcases h with h|⟨rfl,_⟩
  ·exact .inl h
  ·exact .inr (ik _)
 ·rcases h with h|⟨rfl,_⟩
  ·have:=R.eF b o h;simp;omega
  ·simp
 ·have h:=L i p M
  have O:i<cs.size:=(kd.1 h).1
  rw[kr]
  exact⟨.inr ⟨rfl,O⟩,by rw[xr _ _ i cs e (0,0) (LE w _)];simpa using h⟩
theorem GQ:∀(l:List (Nat×Value)) (k:Nat) (us:Array Value),l.map (·.1)=(List.range l.length).map (· +k)->(∀p∈l,p.2.cells.toList=[p.2])->us.size=k+l.length->
  ∃D,Instr.fill (λi=>some (i*1,1)) us l=some D/\D.toList=us.toList.take k++l.map (·.2)
 |[],k,us,_,_,R=>⟨us,rfl,by simp at R⊢;rw[jp (by simp;omega)]⟩
 |(i,v)::l,k,us,h1,h2,R=>by
  have hi:i=k:=by
   have:=rh (λl=>l[0]?) h1
   simpa using this
  subst hi
  have aa:l.map (·.1)=(List.range l.length).map (· +(i+1)):=by
   have L:=rh List.tail h1
   simp only[ka,List.tail_cons,fb,List.range_succ_eq_map,List.map_map]at L;rw[L]
   apply H4
   intro q _;simp;omega
  have O:=h2 (i,v) aaP
  simp only at O
  have M:v.cells.size=1:=by have:=rh List.length O;simpa using this
  simp only[fb]at R
  obtain⟨Z,he,V,ab⟩:=vU (place:=λi=>some (i*1,1)) (cells:=us) (i:=i) (off:=i*1) (v:=v) (rest:=l) (by rw[M]) (by rw[M];omega)
  obtain⟨D,hf,hd⟩:=GQ l (i+1) Z aa (λp hp=>h2 p (lc _ hp)) aaN
  refine⟨D,by rw[he];exact hf,?_⟩
  have e:(us.toList.take i++[v]++us.toList.drop (i+[v].length)).take (i+1)=us.toList.take i++[v]:=yk (by simp;omega)
  rw[hd,V,O,sd,e];simp
theorem GR{b:Nat} {x:bH}:∀{l:List (Nat×bH)},lu b (nO b x l)=lu b l
 |[]=>rfl
 |(m,v)::r=>by
  simp only[nO,lu,ki];split
  ·rename_i e;subst e;simp[lu]
  ·rename_i e
   have:(b==m)=false:=by simpa using e
   simp[lu,this,GR (l:=r)]
theorem Kb{b:Nat} {ps:List (Nat×Nat)}:∀{l:List (Nat×SV)} {t:Nat},lk t (Dv b ps l)=(lk t l).map (RH b ps)
 |[],t=>rfl
 |(m,u)::r,t=>by
  simp only[Dv,lk,ki];split
  ·rfl
  ·exact Kb
theorem Rel.WT(R:Rel P nt n0 w0 π0 U s a w β τ π) {b:Nat} {x:bH} (hb:bO b s.boxes=some x) (h4:4<=b) {p:Nat×Nat} (hU:U p.1) (hcell:w.cell? ⟨β b,0,none⟩=some (.pointer (some ⟨β p.1,p.2,none⟩))):
  ∃π':Nat->Nat->Prop,Rel P nt n0 w0 π0 U {s with slots:=Dv b [p] s.slots,boxes:=lu b s.boxes} a w β τ π':=by
 obtain⟨ag,aa,ad,ae⟩:=R.boxes b x hb
 have ac:=R.lC hb
 have Z:n0.n<=β b:=by rcases aa with h|h;exact h;exact absurd h.1 aaN
 have hp:∀B o,π B o->(λB o=>π B o\/(B=β b/\o<1)) B o:=λ_ _ h=>.inl h
 have D:∀c y,bO c (lu b s.boxes)=some y->c≠b/\bO c s.boxes=some y:=λc y h=>by
  rw[oa]at h;split at h
  ·cases h
  ·rename_i M;exact⟨M,h⟩
 refine⟨λB o=>π B o\/(B=β b/\o<1),R.size,λt v h=>?_,λc y h=>?_,λc c' y y' h h' e=>R.inj c c' y y' (D c y h).2 (D c' y' h').2 e,λq e h=>?_,R.cw,λq e c y h h' hB=>R.cz q e c y h (D c y h').2 hB,R.below,R.f9,λB o h=>?_,λB o h=>.inl (R.ep B o h),λB o h=>?_,R.lz,R.jb,R.kept⟩
 ·simp only[Kb,eg]at h
  obtain⟨u,hu,rfl⟩:=h;obtain⟨⟨y,hy,hr⟩,hi⟩:=R.slots t u hu
  have hm:RV β τ w (λB o=>π B o\/(B=β b/\o<1)) u y:=RV.mono (λ_ _=>rfl) (λ_ _=>rfl) hp (λ_ _ _=>rfl) hi hr
  cases u with
  |ptr c o=>
   simp only[RH]
   by_cases V:c=b
   ·subst V
    simp only[nf,fx]
    have e:y=.pointer (some ⟨β c,o,none⟩):=hr
    subst e
    refine⟨⟨_,hy,.Ob λi q O=>?_⟩,λq O=>?_⟩
    ·cases o with
     |zero=>
      cases i with
      |zero=>simp at O;subst O;exact⟨.inr ⟨rfl,aaN⟩,hcell⟩
      |succ i=>simp at O
     |succ o=>simp at O
    ·have:=pC O
     simp at this;subst this;exact hU
   ·have ab:(c==b)=false:=by simpa using V
    simp only[ab,er];exact⟨⟨y,hy,hm⟩,hi⟩
  |_=>exact⟨⟨y,hy,hm⟩,hi⟩
 ·obtain⟨M,hc⟩:=D c y h
  obtain⟨g1,g2,g3,g4⟩:=R.boxes c y hc
  refine⟨g1,g2,g3.keep (λ_ _=>rfl) g4 rfl hp (λ_ _ _=>rfl) (λo L=>?_),g4⟩
  rcases L with L|⟨L,_⟩
  ·obtain⟨_,_,_,_,_,_,hn⟩:=g3;exact hn o L
  ·exact M (R.inj c b y x hc hb L)
 ·obtain⟨h1,h2⟩:=R.live q e h
  refine⟨h1,h2.keep (λB hB=>rfl) (λB o hB L=>?_)⟩
  rcases L with L|⟨L,_⟩
  ·exact L
  ·exact absurd (L▸hB) (R.cz q e b x h hb)
 ·rcases h with h|⟨rfl,_⟩
  ·exact R.eF B o h
  ·exact ac
 ·rcases h with h|⟨rfl,_⟩
  ·exact R.cB B o h
  ·exact .inr (.inl Z)
theorem P5(R:Rel P nt n0 w0 π0 U s a w β τ π) {c:Gd} (cp:¬U id) (D:xPt P o.type o.op=some c) (h:cI (Pure P) id c K X s) (hn:∀v s' x w' β' τ' π',K v s'->RV β' τ' w' π' v x->v.gK (eN U id)->Rel P nt n0 w0 π0 (eN U id) s' a w' β' τ' π'->next (a.put o.dst x) w'):o.wp P a w next Q:=by
 obtain⟨dst,op,V,pos,after,guard⟩:=o;simp only at D
 have aa:∀n,U n->eN U id n:=λn h=>.inl h
 have fin:∀{v:SV} {y:Value},(execOp a.eval ⟨dst,op,V,pos,after,guard⟩).run P w=.ok (.value y) w->RV β τ w π v y->v.gK U->K v s->Oper.wp P ⟨dst,op,V,pos,after,guard⟩ a w next Q:=by
  intro v y L hv hu hK;unfold Oper.wp;rw[L];exact hn v s y w β τ π hK hv (SV.nW aa hu) (R.sub aa)
 cases op<;>simp only[xPt]at D<;>try(cases D;done)
 case box t x=>
  split at D<;>try(cases D;done)
  simp only[eg]at D;obtain⟨x',Z,rfl⟩:=D;simp only[cI]at h;obtain⟨p,M,h⟩:=ah h;obtain⟨L,hU⟩:=R.bJ Z M
  cases p<;>try(exact h.elim)
  rename_i k ps
  match k,L,h with
  |0,L,h=>
   have L:a.eval x=.agg (ps.map λp=>Value.pointer (some ⟨β p.1,p.2,none⟩)).toArray:=L
   have O:(execOp a.eval ⟨dst,.box t x,V,pos,after,guard⟩).run P w=.ok (.value (.pointer (some ⟨w.heap.size,0,none⟩))) (w.alloc (.cells (a.eval x).cells t)):=by
    simp[execOp,Instr.box,newVar,Go.newRow]
   obtain⟨π',R',hh⟩:=R.hold t (cs:=(a.eval x).cells) (ps:=ps) (λi p hi=>by rw[L];simp[Value.cells,hi])
   unfold Oper.wp;rw[O]
   exact hn (.pt 2 ps) s _ _ β τ π' h (.Ob hh) (λp M=>.inl (hU p M)) (R'.sub aa)
  |k+1,_,h=>exact h.elim
 case build t ps=>
  split at D<;>try(cases D;done)
  rename_i hs
  split at D<;>try(cases D;done)
  rename_i z X hz hX;simp only[eg]at D;obtain⟨x',Z,rfl⟩:=D;simp only[cI]at h;obtain⟨p,M,h⟩:=ah h;obtain⟨L,hU⟩:=R.bJ Z M
  cases p<;>try(exact h.elim)
  rename_i b o
  have L:a.eval X=.pointer (some ⟨β b,o,none⟩):=L
  obtain⟨zv,a5,bj,b4⟩:=uD (P:=P) (w:=w) (π:=π) hz
  have a9:zv.cells.size=1:=by have:=bj.1;simpa using this.symm
  unfold ME at hs
  split at hs<;>try(cases hs;done)
  rename_i fs hu
  split at hs<;>try(cases hs;done)
  rename_i f be;simp only[ed,md]at hs
  have hm:=uE (P:=P) (w:=w) fs (λf=>do pure (f.offset,<-sizeOf f.type)) (λf=>(f.offset,(f7 P f.type).getD 0)) (by
   intro g hg
   have bi:g∈fs.toList:=by simpa using hg
   have:g=f:=by rw[be]at bi;simpa using bi
   subst this
   simp[eu (w:=w) hs.2,hs.2])
  have a4:((fs.map λf=>(f.offset,(f7 P f.type).getD 0))[0]?)=some (0,1):=by
   have:fs=#[f]:=lr.1 (by simpa using be)
   subst this;simp[hs.1.2,hs.2]
  obtain⟨cr,he,b5,c5⟩:=vU (place:=((fs.map λf=>(f.offset,(f7 P f.type).getD 0))[·]?)) (cells:=zv.cells) (i:=0) (off:=0) (v:=a.eval X) (rest:=[]) (by rw[L];exact a4) (by rw[L,a9];simp[Value.cells])
  have ad:cr=#[a.eval X]:=by
   apply lr.1
   have ec:(Value.pointer (some ⟨β b,o,none⟩)).cells.toList=[Value.pointer (some ⟨β b,o,none⟩)]:=rfl
   rw[b5,L,ec,mn (by simp[a9])]
   simp
  refine fin (v:=.pt 0 [(b,o)]) (y:=.agg #[a.eval X]) ?_ (by rw[L];rfl) (λp M=>by simp at M;subst M;exact hU) h
  have cx:ps.toList=[(0,X)]:=hX
  have:(ps.map λ(i,x)=>(i,a.eval x)).toList=[(0,a.eval X)]:=by simp[cx]
  have hb:(Instr.build t (ps.map λ(i,x)=>(i,a.eval x))).run P w=.ok (.agg #[a.eval X]) w:=by
   simp only[Instr.build,f8,a5,fp,im hu,hm];rw[this,he];simp[Instr.fill,ad]
  simp only[execOp,f8,hb,fp,km]
 case buildSlice t n Xs=>
  split at D<;>try(cases D;done)
  rename_i e ht
  split at D<;>try(cases D;done)
  split at D<;>try(cases D;done)
  rename_i z xs hz al
  split at D<;>try(cases D;done)
  rename_i ac;cases D;simp only[ed,ii,md]at ac;obtain⟨⟨⟨ch,c4⟩,ag⟩,ar⟩:=ac;simp only[cI]at h;obtain⟨ps,cb,hK⟩:=ah h
  have bm:Xs.toList.mapM (λp=>cn p.2)=(Xs.toList.map (·.2)).mapM cn:=by rw[List.mapM_map];rfl
  rw[bm]at al;obtain⟨am,b6⟩:=DS R al cb
  have ba:Xs.toList.length=n:=by have:=rh List.length ar;simpa using this
  have a4:ps.length=n:=by have:=rh List.length am;simp only[Pi]at this;omega
  obtain⟨zv,a5,bj,b4⟩:=uD (P:=P) (w:=w) (π:=π) hz
  have ct:(Xs.map λ(i,x)=>(i,a.eval x)).toList=Xs.toList.map λp=>(p.1,a.eval p.2):=aaP
  have an:(Xs.toList.map λp=>(p.1,a.eval p.2)).map (·.2)=ps.map λp=>Value.pointer (some ⟨β p.1,p.2,none⟩):=by rw[<-am];simp
  obtain⟨us,hf,ad⟩:=GQ (Xs.toList.map λp=>(p.1,a.eval p.2)) 0 ((Array.range (n*1)).map (zv.cells[· %zv.cells.size]!)) (by simp only[List.map_map,Pi];rw[show((λx=>x.1)∘λp:Nat×Operand=>(p.1,a.eval p.2))=(λp=>p.1)from rfl,ar,ba];simp) (λp M=>by
   have:p.2∈(Xs.toList.map λp=>(p.1,a.eval p.2)).map (·.2):=Pl M
   rw[an]at this;obtain⟨q,_,e⟩:=ne.1 this
   rw[<-e];rfl) (by simp[ba])
  rw[an]at ad;simp only[t0,ml]at ad
  obtain⟨π',R',hh⟩:=R.hold e (cs:=us) (ps:=ps) (λi p hi=>by
   have:us.toList[i]? =some (.pointer (some ⟨β p.1,p.2,none⟩)):=by rw[ad];simp[hi]
   simpa using this)
  have bs:¬(n*1>16777216):=aaN
  have O:(Instr.buildSlice t n (Xs.map λ(i,x)=>(i,a.eval x))).run P w=.ok (.slice (some ⟨w.heap.size,0,none⟩) n n) (w.alloc (.cells us e)):=by
   have c1:¬n*1=0:=aaN
   simp only[Instr.buildSlice,f8,im ht,fp,eu (w:=w) ag]
   rw[ge (by simpa using bs)]
   simp only[c1,il,f8,km,fp,a5,ct,hf,Go.newRow,run_newObj];rfl
  have bw:(execOp a.eval ⟨dst,.buildSlice t n Xs,V,pos,after,guard⟩).run P w=.ok (.value (.slice (some ⟨w.heap.size,0,none⟩) n n)) (w.alloc (.cells us e)):=by
   simp only[execOp,f8,O,fp,km]
  unfold Oper.wp;rw[bw]
  exact hn (.pt 1 ps) s _ _ β τ π' hK ⟨w.heap.size,0,n,by simp[a4],aaN,hh⟩ (λp M=>.inl (b6 p M)) (R'.sub aa)
 case indexAddr t x i=>
  split at D<;>try(cases D;done)
  rename_i e ht
  split at D<;>try(cases D;done)
  rename_i ac;simp only[ed,md]at ac
  split at D<;>try(cases D;done)
  rename_i x' i' Z b1;cases D;simp only[cI]at h;obtain⟨p,M,h⟩:=ah h;obtain⟨L,hU⟩:=R.bJ Z M
  cases p<;>try(exact h.elim)
  rename_i k ps
  match k,L,h with
  |1,L,h=>
   obtain⟨av,a7,h⟩:=ah h;obtain⟨j,hj,b8,hK⟩:=ah h;obtain⟨kk,hk⟩:=R.idx b1 a7 hj;obtain⟨B,off,cap,h1,h2,h3⟩:=L;simp only[kv]at h1
   have ag:=eu (w:=w) ac.2
   have O:(Instr.indexAt t (a.eval x) (a.eval i)).run P w=.ok (.pointer (some ⟨B,off+j.toNat*1,none⟩)) w:=by
    simp[Instr.indexAt,hk,h1,asIntOf,im ht,b8,ag,iK]
   refine fin (v:=.pt 2 (ps.drop j.toNat)) (y:=.pointer (some ⟨B,off+j.toNat*1,none⟩)) (by simp only[execOp,f8,O,fp,km]) (.Ob λm q hq=>?_) (λq hq=>hU q (pC hq)) hK
   rw[lw]at hq
   have:=h3 _ q hq
   rwa[sd,Hb]
  |0,_,h=>exact h.elim
  |k+2,_,h=>exact h.elim
 case store t x v=>
  split at D<;>try(cases D;done)
  rename_i hs;simp only[ed,md]at hs
  split at D<;>try(cases D;done)
  rename_i x' v' Z cu;cases D;simp only[cI]at h;obtain⟨p,M,h⟩:=ah h;obtain⟨L,hU⟩:=R.bJ Z M
  cases p<;>try(exact h.elim)
  rename_i b off
  cases off with
  |succ off=>exact h.elim
  |zero=>
   obtain⟨q,hq,h⟩:=ah h;obtain⟨a3,ce⟩:=R.bJ cu hq
   cases q<;>try(exact h.elim)
   rename_i k ps
   match k,a3,h with
   |0,a3,h=>
    obtain⟨y,hy,⟨h4,c3,a6⟩,hK⟩:=ah h;obtain⟨p,rfl⟩:=List.length_eq_one_iff.1 a6
    have am:a.eval v=.agg #[.pointer (some ⟨β p.1,p.2,none⟩)]:=a3
    have c0:a.eval x=.pointer (some ⟨β b,0,none⟩):=L
    obtain⟨h1,h2,⟨ab,el,hh,co,ak,c7,ch⟩,c6⟩:=R.boxes b y hy
    have ag:1<=ab.size:=by have:=co.1;simp at this;omega
    have a2:=run_storeCells_at (P:=P) (β b) 0 el [.pointer (some ⟨β p.1,p.2,none⟩)] 0 ab w hh (by simp;omega) (by simp[Value.oneCell'])
    simp only[sh]at a2;generalize ae:(ab.toList.take 0++[Value.pointer (some ⟨β p.1,p.2,none⟩)]++ab.toList.drop (0+[Value.pointer (some ⟨β p.1,p.2,none⟩)].length)).toArray=cur' at a2
    have ci:cur'.toList.take 1=[.pointer (some ⟨β p.1,p.2,none⟩)]:=by rw[<-ae];simp
    have c2:cur'[0]? =some (.pointer (some ⟨β p.1,p.2,none⟩)):=by rw[<-ae];simp
    have O:(Instr.storeAt t (a.eval x) (a.eval v)).run P w=.ok () (w.setRow (β b) cur'):=by
     simp[c0,am,Value.cells,Instr.storeAt,Instr.sureAddr,storeVar,eu (w:=w) hs.2,a2]
    have R1:=R.Sb (y:=⟨[.ref []],[]⟩) hy hh (cur':=cur') (by
     show ji w π [.ref []] (cur'.toList.take 1)
     rw[ci]
     exact⟨aaP,λi c u D hu=>by
      cases i with
      |zero=>simp at D hu;subst D hu;exact .ref [] _ _ (λ_=>undef) aaP aaP aaP aaP
      |succ i=>simp at D⟩) (by simp[AV.scalar]) (λo q hq=>by cases hq)
    have b3:bO b (nO b ⟨[.ref []],[]⟩ s.boxes)=some ⟨[.ref []],[]⟩:=by rw[i5];simp[hy]
    obtain⟨π',R2⟩:=R1.WT (b:=b) b3 h4 (p:=p) (ce p aaP) (by
     rw[xr (w.setRow (β b) cur') (β b) 0 cur' el (0,0) (setRow_heap w _ ab _ el _ hh)]
     exact c2)
    unfold Oper.wp
    have:(execOp a.eval ⟨dst,.store t x v,V,pos,after,guard⟩).run P w=.ok .skip (w.setRow (β b) cur'):=by simp only[execOp,f8,O,fp,km]
    rw[this];simp only[GR]at R2;exact hn .undef _ undef _ β τ π' hK rfl trivial (R2.sub aa)
   |k+1,_,h=>exact h.elim
 case call cl=>
  obtain⟨callee,args,argTypes⟩:=cl;split at D
  ·rename_i t x au hT hX
   simp only at au;subst au
   split at D<;>try(cases D;done)
   rename_i e ht
   split at D<;>try(cases D;done)
   simp only[eg]at D;obtain⟨x',Z,rfl⟩:=D;simp only[cI]at h;obtain⟨p,M,h⟩:=ah h;obtain⟨L,hU⟩:=R.bJ Z M
   cases p<;>try(exact h.elim)
   rename_i k ps
   match k,L,h with
   |1,L,h=>
    obtain⟨B,off,cap,h1,h2,h3⟩:=L;simp only[kv]at h1
    have eT:argTypes=#[t]:=lr.1 (by simpa using hT)
    have eX:args=#[x]:=lr.1 (by simpa using hX)
    subst eT eX
    refine fin (v:=.dat (.int .i64 ps.length) none) (y:=.int .i64 ps.length) ?_ ⟨.int _ _,λt ht=>by cases ht⟩ trivial h
    simp[execOp,resolve,invoke,builtin,Builtin.len_,im ht,goInt,h1]
   |0,_,h=>exact h.elim
   |k+2,_,h=>exact h.elim
  ·unfold R5 at D
   split at D<;>try(cases D;done)
   rename_i g hg;simp only at hg;subst hg
   split at D<;>try(cases D;done)
   simp only[eg]at D;obtain⟨xs,al,rfl⟩:=D;simp only[cI]at h;obtain⟨av,a7,h⟩:=ah h
   have bd:=R.aG (X:=.tmp g) rfl a7
   cases av<;>try(exact h.elim)
   rename_i fn first caps
   cases fn<;>try(exact h.elim)
   rename_i f
   cases first<;>try(exact h.elim)
   cases caps<;>try(exact h.elim)
   obtain⟨⟨b7,ids⟩,a8,cy,h⟩:=ah h;obtain⟨css,ak,j,o,b,M,hj,hK⟩:=ah h
   have M:Sa P f css b7 j o:=M
   obtain⟨b0,_,M⟩:=M
   have ao:=eG cy
   have bo:=(R.dP (by simpa[gu]using al) a8).1
   have e1:(args.toList.map a.eval).toArray=args.map a.eval:=lr.1 aaP
   have L:(execOp a.eval ⟨dst,.call ⟨.value (.tmp g),args,argTypes⟩,V,pos,after,guard⟩).run P w=.ok (.enter f (args.toList.map a.eval).toArray) w:=by
    generalize he:a.eval (.tmp g)=u at bd
    cases bd with
    |fn _ _ vs _ us h1 h2 h3 h4=>
     have e2:vs=#[]:=Kd.1 (by simpa using h1.symm)
     have e3:us=#[]:=Kd.1 (by simpa using h2.symm)
     subst e2 e3;rw[e1];simp[execOp,resolve,he,Deferred.ofValue,invoke,fJ b0]
   unfold Oper.wp;rw[L,xf];refine(M w π (ids.map β) (args.toList.map a.eval) R.eF (R.nodup ao ak) (R.oS ak) bo).mono ?_
   rintro e w' ⟨B,π',hB,rfl,bl,a6,ck,b2,ca⟩
   obtain⟨τ',_,R'⟩:=R.vV (fr:=none) cp ao ak rfl bl a6 ck b2 ca DV.gh (λt ht=>by cases ht)
   have cv:B=β b:=by
    rw[kx,hj]at hB
    simpa using hB.symm
   obtain⟨t,_,v,hl,hv⟩:=iM a8 b (et hj)
   refine hn (.ptr b o) _ _ _ _ _ _ hK (show _=_ by rw[cv]) (.inl (SV.DI hv (R.slots t _ hl).2)) R'
theorem P6(R:Rel P nt n0 w0 π0 U s a w β τ π) {c:Gd} (L:¬U id) (M:xOp P o.type o.op=some c) (h:cI (Pure P) id c K X s) (V:∀v D x w' β' τ' π',K v D->RV β' τ' w' π' v x->v.gK (eN U id)->Rel P nt n0 w0 π0 (eN U id) D a w' β' τ' π'->next (a.put o.dst x) w') (Z:∀p D w' β' τ' π',X p D->Rel P nt n0 w0 π0 (eN U id) D a w' β' τ' π'->Q (.panic (gL p)) a w'):o.wp P a w next Q:=by
 unfold xOp at M;split at M
 ·rename_i x O
  cases M;exact P5 R L O h V
 ·exact MP R L M h V Z
def Kc(C:aQ) (id:Nat) (o:XO) (K:S->Prop) (X:AV->S->Prop) (s:S):Prop:=fj s o.g (cI C id o.op (λv D=>K (D.put o.dst v)) X s) (K (s.put o.dst .undef))
theorem MQ{base i:Nat} {o:XO} {r:List XO} {K:S->Prop} {s:S}:iJ C base i (o::r) K X s=Kc C (base+i) o (iJ C base (i+1) r K X) X s:=rfl
theorem P7{c:XO} (D:ux P ops o=some c):c.dst=o.dst:=by
 unfold ux at D;split at D
 ·split at D<;>try(cases D;done)
  cases D;rfl
 ·simp only[eg]at D
  obtain⟨M,L,rfl⟩:=D;exact A5 L
theorem Ke(R:Rel P nt n0 w0 π0 U s a w β τ π) {c:XO} (aa:¬U id) (M:ux P ops o=some c) (D:∀d,c.dst=some d->d<nt) {K:S->Prop} (h:Kc (Pure P) id c K X s) (hn:∀L x w' β' τ' π',K L->Rel P nt n0 w0 π0 (eN U id) L (a.put o.dst x) w' β' τ' π'->next (a.put o.dst x) w') (hx:∀p L w' β' τ' π',X p L->Rel P nt n0 w0 π0 (eN U id) L a w' β' τ' π'->Q (.panic (gL p)) a w'):
  if Region.wanted o (yielded ops a.tmps)then o.wp P a w next Q else next (a.put o.dst undef) w:=by
 unfold ux at M;split at M;rotate_left
 ·simp only[eg]at M
  obtain⟨c0,h0,rfl⟩:=M;exact DO R aa h0 D h hn
 rename_i ae ac
 split at M<;>try(cases M;done)
 rename_i g hg;cases M;simp only at D
 have run:cI (Pure P) id ae (λv L=>K (L.put o.dst v)) X s->o.wp P a w next Q:=λh=>
  P6 R aa ac h (λv L x w' β' τ' π' hK hv hu R'=>hn _ _ _ _ _ _ hK (R'.put o.dst D hv hu)) hx
 have skip:K (s.put o.dst .undef)->next (a.put o.dst undef) w:=λh=>
  hn _ _ _ _ _ _ h ((R.sub λn h=>.inl h).put o.dst D rfl trivial)
 unfold Kc fj at h
 rcases BM hg with⟨h1,h2⟩|⟨j,want,t,h1,h2,h3⟩
 ·subst h2
  simp only at h;simp only[Region.wanted,h1,kv];exact run h
 ·subst h3
  simp only at h
  cases hl:lk t s.slots with
  |none=>simp[hl]at h
  |some v=>
   obtain⟨⟨x,O,V⟩,ak⟩:=R.slots t v hl;simp only[hl]at h
   have hy:∀b,x=.bool b->yielded ops a.tmps j=some b:=λb hb=>by
    unfold yielded;rw[h2];simp[O,hb]
   cases v with
   |ptr b o=>exact h.elim
   |rp cs=>exact h.elim
   |vs _ _ _ _=>exact h.elim
   |mL _ _ _=>exact h.elim
   |raw _ _=>exact h.elim
   |pt _ _=>exact h.elim
   |undef=>
    have ab:x=undef:=V
    have ag:yielded ops a.tmps j=none:=by
     unfold yielded;rw[h2];simp[O,ab,undef]
    simp only[Region.wanted,h1,ag];exact skip h
   |dat av q=>
    cases av<;>try(exact h.elim)
    rename_i b
    have ad:x=.bool b:=V.1.uA
    simp only[Region.wanted,h1,hy b ad]
    by_cases hb:b=want
    ·subst hb;simp;exact run (h.1 rfl)
    ·have Z:b=!want:=by cases b<;>cases want<;>first|rfl|exact absurd rfl hb
     have:(some b==some want)=false:=by subst Z;cases want<;>rfl
     rw[this];exact skip (h.2 Z)
theorem Kf:xOp P t (.defer c)=none:=rfl
theorem BN(R:Rel P nt n0 w0 π0 U s a w β τ π) {c:XO} {i:Nat} (ho:ops[i]? =some o) (V:¬U id) (D:ux P ops o=some c) (M:∀d,c.dst=some d->d<nt) {K:S->Prop} (h:Kc (Pure P) id c K X s) (hn:∀L x w' β' τ' π',K L->Rel P nt n0 w0 π0 (eN U id) L (a.put o.dst x) w' β' τ' π'->next (a.put o.dst x) w') (hx:∀p L w' β' τ' π',X p L->Rel P nt n0 w0 π0 (eN U id) L a w' β' τ' π'->Q (.panic (gL p)) a w') {n:Nat}:wpOpIn (FW r) n P ops Q i next a w:=by
 have:=Ke R V D M h hn hx
 have Z:∀c,o.op≠.defer c:=by
  intro c' e;unfold ux at D;rw[e,Kf]at D;simp only[eg]at D;obtain⟨c0,D,_⟩:=D;unfold oN at D;rw[e]at D;simp[RS,xL,PU,V6]at D
 unfold wpOpIn;simp only[ho];split
 ·rename_i O;rw[ib O]at this;exact Z0 this Z
 ·rename_i O;rw[ge O]at this;exact⟨λ_ _=>trivial,this⟩
theorem uK{ops:Array Oper}:∀{l:List Oper} {cs:List XO},uy P ops l=some cs->cs.length=l.length/\∀(i:Nat) (o:Oper) (c:XO),l[i]? =some o->cs[i]? =some c->ux P ops o=some c
 |[],cs,h=>by simp[uy]at h;subst h;exact⟨rfl,λi o c h=>by simp at h⟩
 |o::l,cs,h=>by
  unfold uy at h
  split at h<;>try(cases h;done)
  rename_i c Z R M;cases h;obtain⟨e,V⟩:=uK M
  refine⟨by simp[e],λi o' O D L=>?_⟩
  cases i with
  |zero=>simp at D L;subst D;subst L;exact R
  |succ i=>exact V i o' O (by simpa using D) (by simpa using L)
theorem pP{n:Nat}:∀{l:List XO},nU n l=true->∀(i:Nat) (c:XO) (d:Nat),l[i]? =some c->c.dst=some d->d<n
 |[],h,i,c,d,D,hd=>by simp at D
 |o::l,h,i,c,d,D,hd=>by
  simp only[nU,ed]at h
  cases i with
  |zero=>
   simp at D;subst D
   have:=h.1
   rw[hd]at this
   simpa using this
  |succ i=>exact pP h.2 i c d (by simpa using D) hd
theorem GS{c:XO} {d:Nat}:∀{l:List XO},c∈l->c.dst=some d->d∈JW l
 |[],h,_=>by cases h
 |o::l,h,hd=>by
  simp only[JW,lh]
  rcases nb.1 h with rfl|h
  ·exact .inl (by rw[hd];simp)
  ·exact .inr (GS h hd)
theorem uL{ops:Array Oper} {cos:List XO} {base:Nat} (i0:Nat) (ab:cos.length=ops.size) (D:∀(i:Nat) (o:Oper) (c:XO),i0<=i->ops[i]? =some o->cos[i]? =some c->ux P ops o=some c) (M:∀(i:Nat) (c:XO) (d:Nat),cos[i]? =some c->c.dst=some d->d<nt)
  {T:Nat->Prop} {a0:Act} (hT:∀(i:Nat) (c:XO) (d:Nat),cos[i]? =some c->c.dst=some d->¬T d) {r:Option Nat} {m:Nat}
  {K:S->Prop} {X:AV->S->Prop} {Q:Exit->Act->World->Prop} (hQ:∀s a w β τ π U,(∀n,U n->n<base+ops.size)->K s->qA T a0 a->Rel P nt n0 w0 π0 U s a w β τ π->Q .normal a w)
  (hX:∀p s a w β τ π U,(∀n,U n->n<base+ops.size)->X p s->qA T a0 a->Rel P nt n0 w0 π0 U s a w β τ π->Q (.panic (gL p)) a w):
  ∀(rest:List XO) (i:Nat) (s:S) (a:Act) (w:World) (β:Nat->Nat) (τ:Nat->Value) (π:Nat->Nat->Prop) (U:Nat->Prop),i0<=i->cos.drop i=rest->i+rest.length=ops.size->(∀n,U n->n<base+i)->qA T a0 a->Rel P nt n0 w0 π0 U s a w β τ π->
   iJ (Pure P) base i rest K X s->wpOpsIn (FW r) m P ops Q (List.range' i rest.length) a w
 |[],i,s,a,w,β,τ,π,U,V,hd,hn,Z,hp,R,h=>hQ s a w β τ π U (λn h=>by have:=Z n h;simp at hn;omega) h hp R
 |o::rest,i,s,a,w,β,τ,π,U,V,hd,hn,Z,hp,R,h=>by
  have L:cos[i]? =some o:=by
   have:(cos.drop i)[0]? =some o:=by rw[hd];rfl
   simpa using this
  have aa:i<ops.size:=by simp at hn;omega
  have O:ops[i]? =some ops[i]:=by simp[aa]
  rw[MQ]at h;simp only[fb,List.range'_succ];rw[wpOpsIn_cons]
  refine BN R O (λh=>by have:=Z _ h;omega) (D i _ o V O L) (M i o · L) h (λs' x w' β' τ' π' hK R'=>?_) (λp s' w' β' τ' π' ac R'=>hX p s' a w' β' τ' π' _ (λn h=>?_) ac hp R')
  ·refine uL i0 ab D M hT hQ hX rest (i+1) s' _ w' β' τ' π' _ aaN ?_ (by simp at hn;omega) (λn h=>?_) (hp.put (λd hd=>hT i o d L (by rw[P7 (D i _ o V O L)];exact hd)) x) R' hK
   ·rw[<-List.tail_drop,hd];rfl
   ·rcases h with h|h
    ·have:=Z n h;omega
    ·omega
  ·rcases h with h|h
   ·have:=Z n h;omega
   ·omega
theorem wX{cos:List XO} (hc:uy P ops ops.toList=some cos) (V:nU nt cos=true) (R:Rel P nt n0 w0 π0 U s a w β τ π) (hU:∀n,U n->n<s.nx) {K:S->Prop} (h:iJ (Pure P) s.nx 0 cos K X s) (hT:∀d,d∈JW cos->¬T d) (hQ:∀O a' w β τ π U,(∀n,U n->n<s.nx+cos.length)->K O->qA T a a'->Rel P nt n0 w0 π0 U O a' w β τ π->Q .normal a' w) (hX:∀p O a' w β τ π U,(∀n,U n->n<s.nx+cos.length)->X p O->qA T a a'->Rel P nt n0 w0 π0 U O a' w β τ π->Q (.panic (gL p)) a' w):(Code.region id ops false).wpIn (FW r) m P Q a w:=by
 obtain⟨L,M⟩:=uK hc
 have D:cos.length=ops.size:=by simpa using L
 rw[D]at hQ hX;refine wpIn_region ?_
 have:=uL (r:=r) (m:=m) 0 D (λi o c _ h1 Z=>M i o c (by simpa using h1) Z) (pP V) (λi c d hi hd=>hT d (GS (et hi) hd)) hQ hX cos 0 s a w β τ π U (ik _) rfl (by simpa using D) (by simpa using hU) (.refl _ _) R h
 rw[D]at this;rw[List.range_eq_range'];exact this
theorem MR{o:bG} (M:o.quiet=true) {s:S} (h:bn C id o K s):∃v,K v s:=by
 cases o<;>(try(cases M;done))<;>simp only[bn]at h
 ·obtain⟨v,_,h⟩:=ah h;exact⟨v,h⟩
 ·obtain⟨p,D,h⟩:=ah h
  cases p<;>try(exact h.elim)
  ·obtain⟨_,_,h⟩:=ah h;obtain⟨_,_,h⟩:=ah h;exact⟨_,h⟩
  ·obtain⟨_,_,h⟩:=ah h;exact⟨_,h⟩
 ·obtain⟨p,D,h⟩:=ah h
  cases p<;>try(exact h.elim)
  ·exact⟨_,h⟩
  ·exact⟨_,h⟩
  ·rename_i k ps
   match k,h with
   |2,h=>exact⟨_,h⟩
   |0,h=>exact h.elim
   |1,h=>exact h.elim
   |k+3,h=>exact h.elim
 ·obtain⟨_,_,h⟩:=ah h
  obtain⟨_,_,h⟩:=ah h;obtain⟨_,_,h⟩:=ah h;obtain⟨_,_,_,_,h⟩:=ah h;exact⟨_,h⟩
 ·rename_i x L
  obtain⟨p,D,h⟩:=ah h
  cases p<;>try(exact h.elim)
  rename_i k ps
  match k,L,ps,h with
  |2,none,(b,o)::ps,h=>exact⟨_,h⟩
  |2,none,[],h=>exact h.elim
  |2,some n,[],h=>exact⟨_,h.2⟩
  |2,some n,_::_,h=>exact⟨_,h.2⟩
  |0,_,_,h=>exact h.elim
  |1,_,_,h=>exact h.elim
  |k+3,_,_,h=>exact h.elim
theorem DT{k:Nat} {D:List Nat}:∀{l:List CO} {i j:Nat},(oH k D i l)[j]? =(l[j]?).map (AS k D (i+j))
 |[],i,j=>by simp[oH]
 |o::l,i,0=>by simp[oH]
 |o::l,i,j+1=>by
  simp only[oH,ix];rw[DT,Hb,Nat.add_comm 1 j]
theorem Kg{k:Nat} {D:List Nat}:∀{l:List CO} {i:Nat},(oH k D i l).length=l.length
 |[],i=>rfl
 |o::l,i=>by simp[oH,Kg]
theorem uM{k:Nat} {M:List Nat} {d:Nat}:∀{l:List CO} {i:Nat},Dx k M d i l=true->∀(j:Nat) (o:CO),l[j]? =some o->
  (i+j=k->∃f args,o=⟨some d,.dR f args,none⟩)/\(i+j≠k->M.contains (i+j)=true\/(o.op.quiet=true/\o.g=none/\∃t,o.dst=some t/\t≠d))
 |[],i,h,j,o,L=>by simp at L
 |a::l,i,h,j,o,L=>by
  simp only[Dx,ed]at h
  cases j with
  |zero=>
   simp at L;subst L;rw[sh]
   refine⟨λe=>?_,λe=>?_⟩
   ·have D:=h.1
    rw[ib e]at D;obtain⟨dst,op,g⟩:=a
    cases op<;>try(cases D;done)
    simp only[ed,Option.isNone_iff_eq_none,md]at D;obtain⟨rfl,rfl⟩:=D;exact⟨_,_,rfl⟩
   ·have D:=h.1
    rw[ge e]at D;simp only[px,ed,Option.isNone_iff_eq_none,bne_iff_ne,ne_eq]at D
    rcases D with D|⟨⟨⟨D,R⟩,V⟩,h4⟩
    ·exact .inl D
    ·obtain⟨t,O⟩:=aak.1 V
     exact .inr ⟨D,R,t,O,λe=>h4 (by rw[O,e])⟩
  |succ j=>
   have:=uM h.2 j o (by simpa using L)
   rw[show i+(j+1)=i+1+j by omega]
   exact this
theorem DU{k:Nat} {D:List Nat}:∀{l:List Oper} {i:Nat},GG k D i l=true->∀(j:Nat) (o:Oper),l[j]? =some o->D.contains (i+j)=true->∃e∈o.after,Region.binds .any e=true/\(e.on=k\/(D.contains e.on=true/\e.on<i+j))
 |[],i,h,j,o,L,_=>by simp at L
 |a::l,i,h,j,o,L,hd=>by
  simp only[GG,ed]at h
  cases j with
  |zero=>
   simp at L;subst L;rw[sh]at hd⊢
   have O:=h.1
   rw[hd]at O;simp only[nz,w5,WP]at O;obtain⟨e,R,M⟩:=O;simp only[ed,px,md,ii]at M;exact⟨e,R,M.1,M.2⟩
  |succ j=>
   rw[show i+(j+1)=i+1+j by omega]at hd⊢
   exact DU h.2 j o (by simpa using L) hd
theorem Su{D:List Nat} (hd:GG k D 0 ops.toList=true) (hc:uG ops l):∀(i:Nat),D.contains i=true->(l.getD i false=true\/i∈Region.ready .any ops l)->i<ops.size->l.getD k false=true:=by
 intro i
 induction i using Nat.strongRecOn with
 |_ i ih=>
  intro R hr hi
  obtain⟨o,O⟩:∃o,ops[i]? =some o:=⟨ops[i],by simp[hi]⟩
  obtain⟨e,Z,hb,V⟩:=DU hd i o (by simpa using O) (by simpa using R)
  have hl:l.getD e.on false=true:=by
   rcases hr with h|h
   ·exact hc i o O h e Z hb
   ·obtain⟨_,o',L,M⟩:=EQ.1 h
    rw[O]at L;cases L;exact M e Z hb
  rcases V with e1|⟨h1,h2⟩
  ·rw[<-e1];exact hl
  ·rw[kr]at h2
   exact ih e.on h2 h1 (.inl hl) aaN
theorem Kh(M:jJ cJ ops.toList cos=true) (Z:cos.length=ops.size) (hl:l.size=ops.size):∀(k:Nat),k<ops.size->l.getD k false=false->Region.ready .any ops l≠[]:=by
 intro k
 induction k using Nat.strongRecOn with
 |_ k ih=>
  intro hk R V
  by_cases D:∀j,j<k->l.getD j false=true
  ·have:k∈Region.ready .any ops l:=by
    refine EQ.2 ⟨Og aaN R,ops[k],by simp[hk],λe he hb=>?_⟩
    have:=(lS M k ops[k] (cos[k]' aaN) (by simp[hk]) aaP).1 e he hb
    exact D e.on (by simpa using this)
   rw[V]at this;cases this
  ·obtain⟨j,L⟩:=Classical.not_forall.1 D
   obtain⟨L,O⟩:=Classical.not_imp.1 L
   exact ih j L aaN (by simpa using O) V
theorem yZ{wr:List Nat} {t:Nat}:∀{l:List (Nat×SV)} {v:SV},lk t (oI wr l)=some v->¬t∈wr/\lk t l=some v
 |[],v,h=>by cases h
 |(m,u)::r,v,h=>by
  simp only[oI]at h
  cases D:wr.contains m with
  |true=>
   rw[D]at h
   obtain⟨M,O⟩:=yZ (l:=r) h
   refine⟨M,?_⟩
   have L:¬t=m:=λe=>M (by subst e;simpa using D)
   simp only[lk,ki,L,il];exact O
  |false=>
   rw[D]at h;simp only[er,lk,ki]at h⊢
   by_cases e:t=m
   ·rw[ib e]at h⊢
    exact⟨λhm=>by subst e;simp at D;exact D hm,h⟩
   ·rw[ge e]at h⊢
    exact yZ (l:=r) h
theorem nF{wr:List Nat} {t:Nat} (h:¬t∈wr):∀{l:List (Nat×SV)},lk t (oI wr l)=lk t l
 |[]=>rfl
 |(m,u)::r=>by
  simp only[oI]
  cases L:wr.contains m with
  |true=>
   have D:¬t=m:=λe=>h (by subst e;simpa using L)
   simp only[fx,lk,ki,D,il];exact nF h
  |false=>
   simp only[er,lk,ki];rw[nF h]
theorem Rel.WU(R:Rel P nt n0 w0 π0 U s a w β τ π) {l:List (Nat×SV)} (h:∀t v,lk t l=some v->lk t s.slots=some v):Rel P nt n0 w0 π0 U {s with slots:=l} a w β τ π:=
 ⟨R.size,λt v D=>R.slots t v (h t v D),R.boxes,R.inj,R.live,R.cw,R.cz,R.below,R.f9,R.eF,R.ep,R.cB,R.lz,R.jb,R.kept⟩
theorem GU(n k:Nat):(Array.replicate n false).getD k false=false:=by
 rw[vd,Array.getElem?_replicate];split<;>rfl
theorem Ip{ops:List Oper} {op:Op}:xL P ops op≠some (.dR f as):=by
 intro h;unfold xL at h
 (repeat' split at h)<;>cases h
theorem P8{op:Op} (h:V6 P op=some (.dR f as)):∃c,op=.call c/\c.callee=.value (.func f)/\bL P f=true/\gu c.args=some as/\rO P c.argTypes.toList=true:=by
 cases op<;>simp only[V6]at h
 case call c=>
  refine⟨c,rfl,?_⟩;unfold wV at h;split at h
  ·rename_i g V
   split at h
   ·rename_i D
    simp only[eg]at h;obtain⟨xs,M,R⟩:=h
    split at R<;>cases R
    rename_i O;exact⟨V,D,M,O⟩
   ·split at h<;>simp at h
  all_goals(exfalso;(repeat' split at h)<;>simp at h)
 case convert s d x=>
  simp only[io]at h;obtain⟨y,_,h⟩:=h;unfold JV at h
  (repeat' split at h)<;>cases h
 all_goals(exfalso;revert h;(repeat' split)<;>(try simp[cEq])<;>(repeat' split)<;>(try simp)<;>(rename_i L;cases L))
theorem BO(h:oN P ops o=some ⟨d,.dR f as,g⟩):∃c,o.op=.call c/\c.callee=.value (.func f)/\bL P f=true/\gu c.args=some as/\rO P c.argTypes.toList=true:=by
 unfold oN at h;split at h
 ·rename_i cc M D L
  cases h;unfold RS at D;split at D
  ·rename_i e;cases D;exact absurd e Ip
  ·split at D
   ·rename_i e
    cases D;exfalso;unfold PU at e
    (repeat' split at e)<;>cases e
   ·exact P8 D
 ·cases h
theorem Ki(h:oN P ops o=some ⟨d,.dR f as,g⟩):ux P ops o=some ⟨d,.dR f as,g⟩:=by
 obtain⟨c,R,D,M,O,L⟩:=BO h;unfold oN at h;split at h
 ·rename_i cc gg Z V
  cases h
  have e:xOp P o.type o.op=some (.dR f as):=by
   rw[R];simp[xOp,xPt,R5,D,Wq,aaV,wV,RZ,M,O,L]
  unfold ux;rw[e,V]
 ·cases h
theorem getD_set_ne{i j:Nat} {c:Bool} (h:i≠j):(l.setIfInBounds i b).getD j c=l.getD j c:=by
 simp only[vd,Ax h]
theorem Oq{C:aQ} {base:Nat} {ops:Array Oper} {cos:List CO} {K:S->Prop} {ds:List Nat} {d:Nat} (P0:Nat->Prop)
  (hq:∀i o,¬P0 i->cos[i]? =some o->(o.op.quiet=true/\o.g=none/\(o.dst=none\/∃t,o.dst=some t/\t≠d/\t∈ds))):
  ∀(f:Nat) (l:Array Bool) (s:S),(∀i,P0 i->l.getD i true=true)->Ik C base ops cos K f l s->∃sl,K {s with slots:=sl}/\lk d sl=lk d s.slots/\oI ds sl=oI ds s.slots
 |0,l,s,hP,h=>⟨s.slots,h.2,rfl,rfl⟩
 |f+1,l,s,hP,h=>by
  cases hr:Region.ready .any ops l with
  |nil=>exact⟨s.slots,h.1 hr,rfl,rfl⟩
  |cons i r=>
   have hi:i∈Region.ready .any ops l:=by rw[hr];exact mp
   obtain⟨o,ho,D⟩:=h.2 i hi
   have ac:=(EQ.1 hi).1
   have M:¬P0 i:=λhp=>by have:=hP i hp;rw[ac]at this;cases this
   obtain⟨ab,hg,O⟩:=hq i o M ho;unfold jS fj at D;rw[hg]at D;obtain⟨v,D⟩:=MR ab D
   obtain⟨sl,Z,V,h3⟩:=Oq P0 hq f _ _ (λj hj=>by
    have:=hP j hj
    by_cases L:i=j
    ·subst L;exact absurd hj M
    ·rw[getD_set_ne L];exact this) D
   rcases O with e|⟨t,e,aa,R⟩
   ·rw[e]at Z V h3;exact⟨sl,Z,V,h3⟩
   ·rw[e]at Z V h3
    refine⟨sl,Z,?_,?_⟩
    ·rw[V,rR,ge (by intro e;cases e;exact aa rfl)]
    ·rw[h3]
     show oI ds ((t,v)::s.slots)=_
     have:ds.contains t=true:=by simpa using R
     simp only[oI,this,fx]
theorem wY(hm:P.follows .mixedOrders=true) {D:List Nat} {d:Nat} (hc:xM P ops ops.toList=some cos) (ar:jJ cJ ops.toList (oH k D 0 cos)=true) (bl:GG k D 0 ops.toList=true) (ae:Dx k D d 0 cos=true) (hk:k<ops.size) (bm:gJ nt cos=true) (R:Rel P nt n0 w0 π0 U s a w β τ π) (hU:∀n,U n->n<s.nx) (h:aaS (Pure P) cos cJ k D (cos.flatMap λo=>o.dst.toList) X s) (hT:∀t,t∈dstsOf cos->¬T t) (hX:∀p s' a' w β τ π U,(∀n,U n->n<s.nx+cos.length)->X p s'->qA T a a'->Rel P nt n0 w0 π0 U s' a' w β τ π->Q (.panic (gL p)) a' w):(Code.region id ops true).wpIn (FW r) m P Q a w:=by
 obtain⟨ao,h⟩:=h;simp only[oM,Wp,ed]at ao;obtain⟨⟨b8,b3⟩,bo⟩:=ao;obtain⟨a5,a4⟩:=uJ hc
 have ad:cos.length=ops.size:=by simpa using a5
 have L:(oH k D 0 cos).length=ops.size:=by rw[Kg];exact ad
 rw[ad]at hX
 have ag:=rU bm
 have b5:∀(i:Nat) (c:CO) (d:Nat),cos[i]? =some c->c.dst=some d->¬T d:=λi c d O hd=>hT d (xV (et O) hd)
 obtain⟨ck,Z⟩:∃c,cos[k]? =some c:=⟨cos[k]' aaN,aaP⟩
 obtain⟨fk,ak,bw⟩:=(uM ae k ck Z).1 aaP
 subst bw
 have bi:∀j ok,(oH k D 0 cos)[j]? =some ok->rM (RO (xK s.slots) s.nx 0 (oH k D 0 cos)) (s.nx+j) ok=true:=λj ok hj=>by have:=rT b3 j ok hj;rwa[kr]at this
 refine wpIn_region_any hm ?_
 have R':Rel P nt n0 w0 π0 (UL s.nx (Array.replicate ops.size false)) s a w.drew β τ π:=R.draw.sub λn hn=>.inl (hU n hn)
 have b4:∀(base':Nat) (r:List CO) (i:Nat) (s:S) {K K':S->Prop},(∀s,K s->K' s)->je (Pure P) base' i r K s->je (Pure P) base' i r K' s:=by
  intro base' r
  induction r with
  |nil=>intro i s K K' hk h;exact hk s h
  |cons o r ih=>
   intro i s K K' hk h;rw[qn]at h⊢;obtain⟨v,d,hd,b0,_⟩:=gj h;exact hd.2 s .refl _ (ih _ _ hk b0)
 -- the end,whatever stands for the same state
 obtain⟨ds,a9⟩:∃ds,ds=cos.flatMap λo=>o.dst.toList:=⟨_,rfl⟩
 rw[<-a9]at h
 have h2:=b4 s.nx _ 0 s (K':=λs2=>∃s1,t9 s1 s2/\∃d p,(cos[k]?).bind CO.dst=some d/\lk d s1.slots=some (.dat p none)/\X p (wT ds s1)) (λs h=>⟨s,.refl,h⟩) h
 have h3:=uI bi bo (λs s2 he ⟨s1,h1,hk⟩=>⟨s1,h1.trans he,hk⟩) L ar (oH k D 0 cos) 0 (Array.replicate ops.size false) s rfl (by simpa using L) aaP (λj hj=>by simp[hj]) R'.gK (λt b ⟨v,M,hb⟩=>nw b8 t b v M hb) h2
 rw[L]at h3
 have small:∀l:Array Bool,l.size=ops.size->∀n,UL s.nx l n->n<s.nx+ops.size:=by
  rintro l M n (h|⟨i,O,h⟩)
  ·omega
  ·have:i<l.size:=by
    rcases lj i l.size with h'|h'
    ·exact h'
    ·simp[GE h']at h
   omega
 have an:∀(i:Nat) (c:CO) (t:Nat),cos[i]? =some c->c.dst=some t->t∈ds:=λi c t O ht=>by
  rw[a9];exact Os.2 ⟨c,et O,by simp[ht]⟩
 have key:∀(f:Nat) (l:Array Bool) (s1:S) (a1:Act) (w1:World) (β:Nat->Nat) (τ:Nat->Value) (π:Nat->Nat->Prop),l.size=ops.size->uG ops l->l.getD k false=false->qA T a a1->Rel P nt n0 w0 π0 (UL s.nx l) s1 a1 w1 β τ π->
   Ik (Pure P) s.nx ops (oH k D 0 cos) (λs2=>∃s1,t9 s1 s2/\∃d p,(cos[k]?).bind CO.dst=some d/\lk d s1.slots=some (.dat p none)/\X p (wT ds s1)) f l s1->wpAnyIn (FW r) m P .any ops Q f l a1 w1:=by
  intro f
  induction f with
  |zero=>intro l s1 a1 w1 β τ π M _ ab _ _ h;exact absurd h.1 (Kh ar L M k hk ab)
  |succ f ih=>
   intro l s1 a1 w1 β τ π M be ab hp R1 h
   refine⟨λh0=>absurd h0 (Kh ar L M k hk ab),λi O=>?_⟩
   obtain⟨o,ho,hs⟩:=h.2 i O;obtain⟨bd,pi,a2,_⟩:=EQ.1 O
   have ca:=l9 O
   rw[DT,kr]at ho;obtain⟨o0,V,rfl⟩:=eg.1 ho
   have al:=a4 i pi o0 (by simpa using a2) V
   by_cases a3:i=k
   ·subst a3
    rw[Z]at V;cases V
    have au:AS i D i ⟨some d,.dR fk ak,none⟩=⟨some d,.uk fk ak,none⟩:=by rw[AS,ib rfl]
    rw[au]at hs;unfold jS fj at hs;simp only[bn]at hs;obtain⟨pp,b7,cb,hs⟩:=ah hs;obtain⟨css,bj,v,ac,hq,hs⟩:=ah hs
    -- the end of what is known
    obtain⟨sl,⟨s3,he,d',p',a7,b1,b6⟩,h2,h3⟩:=Oq (ds:=ds) (d:=d) (λj=>j=i) (λj o hj a8=>by
     rw[DT,kr]at a8;obtain⟨o1,ba,rfl⟩:=eg.1 a8
     have am:¬j=i:=hj
     rcases(uM ae j o1 ba).2 (by simpa using am)with aa|⟨q1,q2,t,q3,q4⟩
     ·have:AS i D j o1=⟨none,.mv (.k .rG),none⟩:=by
       rw[kr]at aa;rw[AS,ge am,ib aa]
      rw[this];exact⟨rfl,rfl,.inl rfl⟩
     ·by_cases aa:D.contains j=true
      ·have:AS i D j o1=⟨none,.mv (.k .rG),none⟩:=by rw[AS,ge am,ib aa]
       rw[this];exact⟨rfl,rfl,.inl rfl⟩
      ·have:AS i D j o1=o1:=by rw[AS,ge am,ge aa]
       rw[this];exact⟨q1,q2,.inr ⟨t,q3,q4,an j o1 t ba q3⟩⟩) f _ _ (λj hj=>by subst hj;simp[ca]) hs
    rw[Z]at a7;cases a7
    have ce:p'=v:=by
     have h4:lk d s3.slots=lk d sl:=(he.slots d).symm
     rw[b1,h2]at h4;simp[S.put,lk]at h4;exact h4
    subst ce
    -- the call
    obtain⟨c,cp,ci,cr,co,ch⟩:=BO al
    have b2:=Ki al
    refine BN R1 a2 (DK bd) b2 (λd hd=>ag i ⟨_,_,_⟩ d Z hd) (K:=λ_=>False) (X:=λp s'=>p=p'/\s'={s1 with boxes:=dm pp.2 ac s1.boxes}) ?_ (λ_ _ _ _ _ _ h=>h.elim) (λp s' w' β' τ' π' hx R2=>?_)
    ·unfold Kc fj
     simp only[cI,b7,bj,ax];exact .inr ⟨cb,.inl ⟨_,ac,hq,rfl,rfl⟩⟩
    ·obtain⟨rfl,rfl⟩:=hx
     have R3:=(R2.WU (l:=oI ds s1.slots) (λt v h=>(yZ h).2)).seq (s2:=wT ds s3) ⟨λt=>?_,λb=>?_,λq=>?_⟩
     ·exact hX _ _ _ _ _ _ _ _ (λn hn=>hn.elim (small l M n) (λe=>by subst e;omega)) b6 hp R3
     ·show lk t (oI ds s3.slots)=lk t (oI ds s1.slots)
      by_cases ht:t∈ds
      ·have none:∀l:List (Nat×SV),lk t (oI ds l)=none:=λl=>by
        cases M:lk t (oI ds l)with
        |none=>rfl
        |some v=>exact absurd ht (yZ M).1
       rw[none,none]
      ·have h5:=rh (lk t) h3
       rw[nF ht,nF ht]at h5;rw[nF ht,nF ht];refine(he.slots t).symm.trans (h5.trans ?_)
       have bs:d≠t:=λe=>ht (e▸an i _ d Z rfl)
       exact(rR (s:={s1 with boxes:=dm pp.2 ac s1.boxes})).trans (ge (by intro e;cases e;exact bs rfl))
     ·exact(he.boxes b).symm
     ·exact(he.live q).symm
   ·by_cases a6:D.contains i=true
    ·have:=Su bl be i a6 (.inr O) aaN
     rw[ab]at this;cases this
    ·have au:AS k D i o0=o0:=by rw[AS,ge a3,ge a6]
     rw[au]at hs
     refine xU R1 a2 (DK bd) ⟨o0,al,.inl rfl⟩ (ag i o0 · V) hs λs' x w' β' τ' π' hK R2=>?_
     exact ih _ s' _ w' β' τ' π' (by simp[M]) (be.set O) (by rw[getD_set_ne a3];exact ab) (hp.put (λd hd=>b5 i o0 d V (by rw[A5 al];exact hd)) x) (R2.sub λn hn=>Il (l9 O) hn) hK
 exact key ops.size _ s a _ β τ π aaP (λk ok hk M=>by rw[GU]at M;cases M) (GU _ _) (.refl _ _) R' h3
end
end
end Go.Eng
