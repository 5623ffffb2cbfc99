/- Part 7 of the engine and its library. -/
import Derived.Test.YtjnbemnncjbmgaaGreatPk6
set_option linter.all false
set_option maxRecDepth 10000
set_option maxHeartbeats 4000000
namespace Go.Eng
open Go
open Go.RowKit (Below)
section
variable{P:Program} {nt:Nat} {n0:gV} {w0:World} {π0:Nat->Nat->Prop} {U:Nat->Prop} {s:S} {a:Act} {w:World} {β:Nat->Nat} {τ:Nat->Value} {π:Nat->Nat->Prop}
section
variable {C:aT} {K:SV->S->Prop} {Q:Exit->Act->World->Prop} {T:Nat->Prop} {X:AV->S->Prop} {as:List aR} {b:Bool} {c:Call} {cos:List CO} {cs:Array Value} {d:Option Nat} {dG:List (Nat×Nat)} {e:TypeId} {f:Nat} {g:Option (Nat×Bool)} {i:TypeInfo} {id k:Nat} {l:Array Bool} {m:Nat} {neg:Bool} {next:Act->World->Prop} {o:Oper} {op:BinOp} {ops:Array Oper} {r:Option Nat} {t:TypeId} {v:Value} {w':World} {x:Value} {y:aR} {π':Nat->Nat->Prop}
theorem MN{a:AV} (h:DV w π a v) (D:kO a=true):v=Zp a:=by
 cases h<;>first|rfl|(simp[kO]at D;done)
theorem ZL{a:AV} (h:DV w π a v) (D:kP a=true):v=AZ a:=by
 cases h with
 |agg as vs M R hd=>
  simp only[kP,mt]at D
  show Value.agg vs=.agg _
  congr 1
  apply Array.ext
  ·simpa using M.symm
  ·intro i O V
   have L:i<as.length:=ado
   have:=MN (hd i as[i] vs[i] (by simp[L]) (by simp[O])) (D _ (FS L))
   simpa using this
 |_=>first|rfl|(simp[kP,kO]at D;done)
theorem lC{d:TypeDesc} (h:P.underlying t=some d):(underlying t).run P w=.ok d w:=by
 simp[underlying,h]
theorem Te{z:AV} (h:zeroV P t=some z):∃v:Value,(zeroValue t).run P w=.ok v w/\DV w π z v:=by
 unfold zeroV at h;simp only[jp]at h;obtain⟨v,⟨i,L,D⟩,M⟩:=h
 exact⟨v,by simp[zeroValue,typeInfo,L,D],Vi M⟩
theorem Js(d:Nat) {L:Array (String×TypeId)} (h:P.underlying t=some (.interface L)) (x:Value) (b:Bool) (O:(x=.nilIface/\b=true)\/(∃M y,x=.iface M y/\b=false)):(Op.equalIn (d+1) t x .nilIface).run P w=.ok b w:=by
 have D:(underlying t).run P w=.ok (.interface L) w:=lC h
 rcases O with⟨rfl,rfl⟩|⟨M,y,rfl,rfl⟩<;>simp only[Op.equalIn,ia,D,ge,kx]
theorem Tf(d:Nat) (h:P.underlying t=some (.pointer e)) (x:Option Addr):(Op.equalIn (d+1) t (.pointer x) (.pointer none)).run P w=.ok x.isNone w:=by
 have D:(underlying t).run P w=.ok (.pointer e) w:=lC h
 cases x<;>simp only[Op.equalIn,ia,D,ge,kx,Option.isNone]
theorem KM(D:(op=.eql/\neg=false)\/(op=.neq/\neg=true)) {X Y:Operand} {y:Value} (V:(eqGuard op t X Y x y).run P w=.ok () w) (R:∀d,(Op.equalIn (d+1) t x y).run P w=.ok b w) (M:binOp .eql t x y=(do pure (.bool (<-Op.equal t x y)))) (O:binOp .neq t x y=(do pure (.bool (!(<-Op.equal t x y))))):(do eqGuard op t X Y x y;binOp op t x y:Sem Value).run P w=.ok (.bool (b !=neg)) w:=by
 have L:(Op.equal t x y).run P w=.ok b w:=R 9999
 rw[ia,V]
 rcases D with⟨rfl,rfl⟩|⟨rfl,rfl⟩
 ·simp only[ge,M,ia,L,kx];simp
 ·simp only[ge,O,ia,L,kx];simp
theorem Q3(D:(op=.eql/\neg=false)\/(op=.neq/\neg=true)) (M:tZ P t=true) {a:AV} {X:Operand} (O:Pe neg a=some b) (Z:DV w π a x):(do eqGuard op t X (.const .nilIface) x .nilIface;binOp op t x .nilIface:Sem Value).run P w=.ok (.bool b) w:=by
 have L:∃e,P.underlying t=some (.interface e):=by
  unfold tZ at M;split at M
  ·exact⟨_,by assumption⟩
  ·cases M
 obtain⟨e,L⟩:=L
 cases Z<;>simp only[Pe,fx,reduceCtorEq]at O<;>subst O
 ·have:=KM (P:=P) (w:=w) D (t:=t) (X:=X) (Y:=.const .nilIface) (x:=.nilIface) (y:=.nilIface) (b:=true) (by rcases D with⟨rfl,rfl⟩|⟨rfl,rfl⟩<;>simp[eqGuard]) (λd=>Js d L _ _ (.inl ⟨rfl,rfl⟩)) rfl rfl
  rw[this];cases neg<;>rfl
 ·rename_i R av V aa
  have:=KM (P:=P) (w:=w) D (t:=t) (X:=X) (Y:=.const .nilIface) (x:=.iface R V) (y:=.nilIface) (b:=false) (by rcases D with⟨rfl,rfl⟩|⟨rfl,rfl⟩<;>simp[eqGuard]) (λd=>Js d L _ _ (.inr ⟨_,_,rfl,rfl⟩)) rfl rfl
  rw[this];cases neg<;>rfl
theorem Q4(O:(op=.eql/\neg=false)\/(op=.neq/\neg=true)) (V:Fb P t=true) {v:SV} {X:Operand} (L:F0 neg v=some b) (M:RV β τ w π v x):(do eqGuard op t X (.const (.pointer none)) x (.pointer none);binOp op t x (.pointer none):Sem Value).run P w=.ok (.bool b) w:=by
 have R:∃e,P.underlying t=some (.pointer e):=by
  unfold Fb at V;split at V
  ·exact⟨_,by assumption⟩
  ·cases V
 obtain⟨e,R⟩:=R
 have D:∀A:Option Addr,(A.isNone !=neg)=b->(do eqGuard op t X (.const (.pointer none)) (.pointer A) (.pointer none);binOp op t (.pointer A) (.pointer none):Sem Value).run P w=.ok (.bool b) w:=by
  intro A Z
  have:=KM (P:=P) (w:=w) O (t:=t) (X:=X) (Y:=.const (.pointer none)) (x:=.pointer A) (y:=.pointer none) (b:=A.isNone) (by rcases O with⟨rfl,rfl⟩|⟨rfl,rfl⟩<;>simp[eqGuard]) (λd=>Tf d R A) (by cases A<;>rfl) (by cases A<;>rfl)
  rw[this,Z]
 cases v with
 |ptr b' o=>
  have M:x=.pointer (some ⟨β b',o,none⟩):=M
  subst M
  exact D _ (by simpa[F0]using L)
 |rp cs=>
  obtain⟨B,off,f,rfl,_⟩:=M
  exact D _ (by simpa[F0]using L)
 |dat av q=>
  have hd:=M.1
  cases av<;>simp only[F0,fx,reduceCtorEq]at L
  ·cases hd
   exact D none (by rw[<-L];cases neg<;>rfl)
  ·cases hd
   exact D _ (by rw[<-L];cases neg<;>rfl)
 |_=>simp[F0]at L
theorem ZM{xt:TypeId} {z a v:AV} (hz:zeroV P t=some z) (V:(tZ P t||(P.underlying t).isNone)=false) (D:Mt t z a=some v) (hx:DV w π a x):
  ∃u,(Instr.typeAssert x xt t true).run P w=.ok u w/\DV w π v u:=by
 obtain⟨zv,Z,R⟩:=Te (w:=w) (π:=π) hz
 simp only[Hn]at V;obtain⟨hi,hn⟩:=V
 cases hu:P.underlying t with
 |none=>rw[hu]at hn;cases hn
 |some d=>
  have L:(underlying t).run P w=.ok d w:=lC hu
  have hd:∀ms,d≠.interface ms:=λms e=>by subst e;simp[tZ,hu]at hi
  have no:∀(x:Value),x=.nilIface\/(∃M y,x=.iface M y/\M≠t)->(Instr.typeAssert x xt t true).run P w=.ok (.tuple #[zv,.bool false]) w:=by
   intro x hx
   rcases hx with rfl|⟨M,y,rfl,ab⟩
   ·unfold Instr.typeAssert
    simp only[ia,L,ge]
    cases d<;>first|exact absurd rfl (hd _)|simp[Z]
   ·unfold Instr.typeAssert
    simp only[ia,L,ge]
    cases d<;>first|exact absurd rfl (hd _)|simp[Z,ab]
  have two:∀{p:AV} {y:Value} (b:Bool),DV w π p y->DV w π (.dP [p,.bool b]) (.tuple #[y,.bool b]):=by
   intro p y b hp
   refine .dP _ _ rfl (λi a v O D=>?_)
   cases i with
   |zero=>simp at O D;subst O D;exact hp
   |succ i=>cases i with
    |zero=>simp at O D;subst O D;exact .bool b
    |succ i=>simp at O
  cases hx<;>simp only[Mt,fx,reduceCtorEq]at D<;>subst D
  ·exact⟨_,no _ (.inl rfl),two _ R⟩
  ·rename_i M av y aa
   by_cases he:M=t
   ·rw[fp he]
    subst he;refine⟨.tuple #[y,.bool true],?_,two _ aa⟩;unfold Instr.typeAssert;simp only[ia,L,ge]
    cases d<;>first|exact absurd rfl (hd _)|simp
   ·rw[fb he]
    exact⟨_,no _ (.inr ⟨M,y,rfl,he⟩),two _ R⟩
theorem Rel.Q5(R:Rel P nt n0 w0 π0 U s a w β τ π) (ae:¬U id) {B:Nat} {cs:List AV} (hB:w.heap.size<=B) (ab:Below w.heap.size w w') (hp:∀b o,π b o->π' b o) (ag:∀b o,π' b o->π b o\/w.heap.size<=b) (al:∀b o,π' b o->b<w'.heap.size) (ak:rH (λ_=>undef) w' π' B ⟨cs,[]⟩):
  Rel P nt n0 w0 π0 (fQ U id) {s with boxes:=(id,⟨cs,[]⟩)::s.boxes} a w' (IZ β id B) τ π':=by
 have aa:∀b,U b->b≠id:=λb L e=>ae (e▸L)
 have D:Rel P nt n0 w0 π0 (fQ U id) s a w' (IZ β id B) τ π':=
  R.frame (λb L=>zV _ _ _ (aa b L)) (λ_ _=>rfl) (λn h=>.inl h) hp ag al ab
 have ac:n0.n<=w.heap.size:=lh R.gG R.below.size
 have hold:∀b x,cj b s.boxes=some x->IZ β id B b≠B:=λb x h=>by
  obtain⟨h1,_,⟨am,el,hh,_⟩,_⟩:=R.boxes b x h;rw[zV _ _ _ (aa b h1)]
  have:=qL hh
  omega
 refine⟨D.size,D.slots,λb x h=>?_,λb Z x x' h O e=>?_,D.live,D.dr,λq e' b x h O V=>?_,D.below,D.gG,D.eZ,D.eU,D.dz,D.mJ,D.jH,D.kept⟩
 ·simp only[cj]at h
  by_cases L:b=id
  ·subst L
   simp at h;subst h
   refine⟨.inr rfl,by rw[cZ];exact .inl (lh ac hB),?_,λo q h=>by simp[d9]at h⟩
   rw[cZ];exact ak.t5
  ·have:(b==id)=false:=by simpa using L
   simp only[this,et]at h;exact D.boxes b x h
 ·simp only[cj]at h O
  by_cases L:b=id
  ·by_cases M:Z=id
   ·rw[L,M]
   ·have hf:(Z==id)=false:=by simpa using M
    simp only[hf,et]at O;subst L;rw[cZ]at e;exact absurd e.symm (hold Z x' O)
  ·have hf:(b==id)=false:=by simpa using L
   simp only[hf,et]at h
   by_cases M:Z=id
   ·subst M
    rw[cZ]at e;exact absurd e (hold b x h)
   ·have ad:(Z==id)=false:=by simpa using M
    simp only[ad,et]at O;exact D.inj b Z x x' h O e
 ·simp only[cj]at O
  by_cases L:b=id
  ·subst L
   rw[cZ]at V
   have:=((R.live q e' h).2.block V).2
   omega
  ·have hf:(b==id)=false:=by simpa using L
   simp only[hf,et]at O;exact D.dw q e' b x h O V
theorem yp{w:World} {π:Nat->Nat->Prop}:∀{as L:List (Option AV)} {Bs M:List Nat} {vs D:List Value},gb w π as Bs vs->gb w π L M D->gb w π (as++L) (Bs++M) (vs++D)
 |[],L,[],M,[],D,_,O=>O
 |[],L,B::Bs,M,vs,D,h,O=>by cases vs<;>exact h.elim
 |[],L,[],M,v::vs,D,h,O=>h.elim
 |some a::as,L,Bs,M,[],D,h,O=>by cases Bs<;>cases a<;>exact h.elim
 |some a::as,L,Bs,M,v::vs,D,h,O=>by
  rcases pF h with⟨rfl,B,aa,rfl,e,R⟩|⟨V,Z,R⟩
  ·exact⟨e,yp R O⟩
  ·exact zU V Z (yp R O)
 |none::as,L,[],M,vs,D,h,O=>by cases vs<;>exact h.elim
 |none::as,L,B::Bs,M,[],D,h,O=>h.elim
 |none::as,L,B::Bs,M,v::vs,D,h,O=>⟨h.1,yp h.2 O⟩
theorem uc{w:World} {π:Nat->Nat->Prop}:∀{as:List AV} {vs:List Value},jR w π as vs->gb w π (as.map some) [] vs
 |[],[],_=>trivial
 |[],v::vs,h=>by have:=h.1;simp at this
 |a::as,[],h=>by have:=h.1;simp at this
 |a::as,v::vs,h=>F8 (h.2 0 a v rfl rfl) (uc ⟨by have:=h.1;simpa using this,λi x u L D=>h.2 (i+1) x u (by simpa using L) (by simpa using D)⟩)
theorem VA(h:c.callee=.value (.func f)) (D:bZ P f=true):y7 P c=(gU c.args).map (if tY P c.argTypes.toList then .ew f else .call f):=by
 unfold y7;rw[h];simp[D]
theorem Q6{q n:Nat} {x:AV} {id:Nat}:∀{l:List (Nat×SV)} {t:Nat} {v:SV},lk t (F2 q n x id l)=some v->∃u,lk t l=some u/\v=F1 q n x id u
 |[],t,v,h=>by cases h
 |(m,u)::r,t,v,h=>by
  simp only[F2,lk,lA]at h⊢;split at h
  ·rename_i e;cases h;subst e;exact⟨u,adI,rfl⟩
  ·rename_i e;obtain⟨L,M,D⟩:=Q6 h;exact⟨L,by simp[e,M],D⟩
theorem Rel.made(R:Rel P nt n0 w0 π0 U s a w β τ π) (O:¬U id) (hi:P.info? e=some i) (hz:i.size=1) {c:Nat} (Z:c<=maxLen) (V:cs.size=c):
  Rel P nt n0 w0 π0 (fQ U id) {s with live:=(id,e)::s.live} a (w.alloc (.cells cs e)) β (IZ τ id (.slice (some ⟨w.heap.size,0,none⟩) 0 c)) π:=by
 have L:Below w.heap.size w (w.alloc (.cells cs e)):=(Below.refl _ _).alloc (ik _) _
 have M:n0.n<=w.heap.size:=lh R.gG R.below.size
 have R1:Rel P nt n0 w0 π0 U s a (w.alloc (.cells cs e)) β τ π:=
  R.frame (λ_ _=>rfl) (λ_ _=>rfl) (λ_ h=>h) (λ_ _ h=>h) (λ_ _ h=>.inl h) (λb o h=>by have:=R.eZ b o h;simp;omega) L
 refine R1.wD O (.inr ⟨w.heap.size,0,c,cs,i,rfl,.inl M,UV w _,Nat.zero_le _,Z,hi,by rw[hz,V,tt],λo _ ho=>?_⟩) (λq e' B hq hB D=>?_) (λb x hb D=>?_)
 ·have:=R.eZ _ _ ho;omega
 ·have h1:=((R.live q e' hq).2.block hB).2
  simp[jV]at D;omega
 ·have:=R.mM hb
  simp[jV]at D;omega
theorem Rel.copied(R:Rel P nt n0 w0 π0 U s a w β τ π) (a5:¬U id) {e q B cap:Nat} {D:List (List AV)} {cs:List Value} {L:Array Value} (hi:P.info? e=some i) (hz:i.size=1) (aa:d9 q s.live=some e) (hτ:τ q=.slice (some ⟨B,0,none⟩) 0 cap) (hn:D.length<=cap) (hh:w.heap[B]? =some (.cells L e (0,0))) (am:n0.ok B) (a3:cap<=maxLen) (ar:L.size=cap) (hfree:∀o,¬π B o) (hy:∀r∈D,r.length=1) (hd:jR w π D.flatten cs) (a6:∀r∈D,∀x∈r,x.scalar=true):
  ∃τ' π',Rel P nt n0 w0 π0 (fQ U id) {s with slots:=F2 q D.length (.sl D) id s.slots,live:=(id,e)::jT q s.live} a (w.setRow B (L.toList.take 0++cs++L.toList.drop (0+cs.length)).toArray) β τ' π':=by
 have a9:cs.length=D.length:=by rw[<-hd.1,jW hy,tt]
 generalize ab:(L.toList.take 0++cs++L.toList.drop (0+cs.length)).toArray=cur'
 have a2:cur'.size=L.size:=by rw[<-ab];simp;omega
 have au:∀(j:Nat) (v:Value),cs[j]? =some v->cur'[j]? =some v:=by
  intro j v V
  have hj:j<cs.length:=(eo.1 V).1
  rw[<-ab];simp[iv hj,V]
 have ac:∀q' e',d9 q' (jT q s.live)=some e'->jV (τ q')≠some B:=by
  intro q' e' ae Z;obtain⟨h1,h2⟩:=lz ae
  exact h2 (R.dr q' q e' e B h1 aa Z (by rw[hτ];rfl))
 have ad:∀b x,cj b s.boxes=some x->β b≠B:=λb x hb e'=>R.dw q e b x aa hb (by rw[hτ,e'];rfl)
 have R1:=(R.Pn q).MF (m:=D.length) (cur':=cur') am hh (λo ho=>absurd ho (hfree o)) ac ad
 have ao:(w.setRow B cur').heap[B]? =some (.cells cur' e (0,0)):=setRow_heap w _ L _ e _ hh
 have R2:=R1.wD (id:=id) (e:=e) (v:=.slice (some ⟨B,0,none⟩) D.length cap) a5
  (.inr ⟨B,D.length,cap,cur',i,rfl,am,ao,hn,a3,hi,by rw[a2,ar,hz,tt],λo ho hc=>by
   rw[hz,tt]at ho
   rcases hc with h|⟨_,h⟩
   ·exact hfree o h
   ·omega⟩) (λq' e' C ae hC Z=>by simp[jV]at Z;exact ac q' e' ae (by rw[hC,Z])) (λb x hb Z=>ad b x hb (by simpa[jV]using Z.symm))
 have a4:DV (w.setRow B cur') (grow π B D.length) (.sl D) (.slice (some ⟨B,0,none⟩) D.length cap):=by
  have hmono:∀{x:AV} {v:Value},DV w π x v->DV (w.setRow B cur') (grow π B D.length) x v:=λh=>h.mono (λ_ _ h=>.inl h) (λb o h=>by
   by_cases e':b=B
   ·subst e';exact absurd h (hfree o)
   ·exact adf w _ cur' ⟨b,o,none⟩ e')
  have one:∀(i j:Nat) (r:List AV) (x:AV),D[i]? =some r->r[j]? =some x->j=0/\∃v,cs[i]? =some v/\cur'[i]? =some v/\DV w π x v:=by
   intro i j r x M O
   have a8:=hy r (er M)
   have hj:j=0:=by have:=(eo.1 O).1;omega
   subst hj
   obtain⟨v,V,ag⟩:=hd.get (nr hy M O)
   rw[tt,se]at V;exact⟨rfl,v,V,au i v V,ag⟩
  refine .sl D B 0 cap 1 (λi j=>cur'.getD i undef) hn (λi r M=>hy r (er M)) (λi j r x M O=>a6 r (er M) x (er O)) (λi j r x M O=>?_) (λi j r x M O=>?_) (λi j r x M O=>?_)
  ·obtain⟨rfl,_⟩:=one i j r x M O
   exact .inr ⟨rfl,by have:=(eo.1 M).1;omega⟩
  ·obtain⟨rfl,v,_,V,_⟩:=one i j r x M O
   rw[lc,tt,se,GT _ _ _ cur' e (0,0) ao,V];simp[V]
  ·obtain⟨rfl,v,_,V,ag⟩:=one i j r x M O
   simp only[xn,V,yn];exact hmono ag
 refine⟨_,_,{R2 with slots:=λt v V=>?_}⟩
 obtain⟨u,hu,rfl⟩:=Q6 V;obtain⟨⟨x,O,M⟩,al⟩:=R2.slots t u hu
 cases u with
 |raw q' n'=>
  by_cases ak:q'=q/\n'=D.length
  ·obtain⟨rfl,rfl⟩:=ak
   simp only[F1,ne,H0,gs];obtain⟨⟨x2,an,B',a7,h1,h2,h3⟩,ba⟩:=R.slots t _ hu;rw[O]at an;cases an;rw[hτ]at h1;simp only[Value.slice.injEq,fx,Addr.mk.injEq]at h1;obtain⟨⟨rfl,_⟩,_,rfl⟩:=h1
   refine⟨⟨x,O,?_,λt ht=>?_⟩,.inr rfl⟩
   ·rw[h2];exact a4
   ·cases ht;rw[cZ,h2]
  ·have hb:(q'==q&&n'==D.length)=false:=by
    rw[zr];intro h;simp only[ed,l4]at h;exact ak h
   simp only[F1,hb,et];exact⟨⟨x,O,M⟩,al⟩
 |_=>exact⟨⟨x,O,M⟩,al⟩
theorem Rel.ZN(R:Rel P nt n0 w0 π0 U s a w β τ π) {O:Value} {X Y:Operand} (ht:P.underlying t=some (.slice e)) (hi:P.info? e=some i) (hz:i.zero=some O) (Z:(0<i.size&&O.cells.size==i.size&&0<i.bytes)=true) (hx:dn X=some (.k .aZ)) (hy:dn Y=some y) (an:¬U id) (ty:TypeId) {X':AV->S->Prop} (h:dF (Pure P) id (.apn e i.size i.bytes y) K X' s):
  ∃v u s' w' β' π',(Builtin.append_ #[t,t] ty #[a.eval X,a.eval Y]).run P w=.ok u w'/\RV β' τ w' π' v u/\v.iA (fQ U id)/\K v s'/\Rel P nt n0 w0 π0 (fQ U id) s' a w' β' τ π':=by
 simp only[ed,ii,l4]at Z;obtain⟨⟨a2,a3⟩,ak⟩:=Z;simp only[dF]at h;obtain⟨b,hb,h⟩:=ah h;obtain⟨D,L,⟨M,hbytes⟩,V,hK⟩:=ah h
 have ao:a.eval X=.slice none 0 0:=by
  have:=(R.bX hx (show Eng.bX s (.k .aZ)=some (.dat .aZ none)from rfl)).1.1
  generalize a.eval X=v at this;cases this;rfl
 have aa:=R.aL hy hb
 simp only[Ji,mt,ed,l4]at V
 have ar:∀r∈D,r.length=i.size:=λr hr=>(V r hr).1
 have ae:0<D.length:=List.length_pos_iff.2 M
 obtain⟨A,c,am,news,hl,hcell,au,ab,ad⟩:∃(A:Addr) (c:Nat),a.eval Y=.slice (some A) D.length c/\∃news:List Value,news.length=D.length*i.size/\(∀j u,news[j]? =some u->w.cell? (A.add j)=some u)/\(∀u∈news,u.oneCell'=true)/\jR w π D.flatten news/\∀r∈D,∀x∈r,x.scalar=true:=by
  cases b<;>simp only[rowsOf]at L<;>try(cases L;done)
  ·cases L;exact absurd rfl M
  ·cases L
   generalize a.eval Y=v at aa
   cases aa with
   |S5 A=>exact absurd rfl M
   |sl _ B off cap z f h1 h2 h3 h4 h5 h6=>
    obtain⟨_,hn⟩:=DV.news (.sl D B off cap z f h1 h2 h3 h4 h5 h6) ar
    exact⟨⟨B,off,none⟩,cap,rfl,hn⟩
 have ac:D.length<=maxLen:=by
  have:=PH D.length ak
  simp only[maxLen];omega
 have ag:=run_append_nil (P:=P) w t ty e i O ht hi hz A D.length c news hl hcell ae (by simp only[maxLen]at ac;omega) ado
 have R':=R.draw.Pk an (cells:=D.flatten) (cs:=news.toArray++Builtin.zeroCells O.cells (grownCap w D.length 0 e-D.length)) e (by
   have:(news.toArray++Builtin.zeroCells O.cells (grownCap w D.length 0 e-D.length)).toList.take D.flatten.length=news:=by
    simp only[Array.toList_append];exact xv ab.1.symm
   rw[this]
   exact jR.mono (w:=w) (w':=w.drew) (π:=π) (λ_ _ h=>h) (λ_ _ _=>rfl) ab) (λx hx=>by
   obtain⟨r,hr,al⟩:=abH.1 hx
   exact ad r hr x al)
 refine⟨.vs id 0 D.length i.size,_,_,_,_,_,by rw[ao,am];exact ag,?_,.inr rfl,hK,R'⟩
 refine⟨grownCap w D.length 0 e,grownCap_ge w D.length 0 e,?_⟩;rw[cZ];rfl
theorem Rel.ZO(R:Rel P nt n0 w0 π0 U s a w β τ π) (ak:¬U id) {rows:List (List AV)} {e z:Nat} (M:Below w.heap.size w w') (hd:DV w' π' (.sl rows) v) (ag:Jk P w' π' (λB=>w.heap.size<=B) e v) (hf:Ji z rows=true):
  ∃β',Rel P nt n0 w0 π0 (fQ U id) {s with boxes:=(id,⟨rows.flatten,[]⟩)::s.boxes} a w' β' τ π/\RV β' τ w' π (.vs id 0 rows.length z) v:=by
 simp only[Ji,mt,ed,l4]at hf
 rcases ag with rfl|⟨B,len,cap,D,i,rfl,hB,hh,ae,ar,hi,a2,hfree⟩
 ·cases hd
 obtain⟨ad,news,hl,hcell,_,V,am⟩:=DV.news hd (λr hr=>(hf r hr).1)
 subst ad
 have O:∀(j:Nat) (u:Value),news[j]? =some u->D[j]? =some u:=by
  intro j u hu
  have:=hcell j u hu
  rw[jj,lc,GT w' B j D e (0,0) hh]at this;exact this
 have ao:∀b o,π b o->b<w'.heap.size:=λb o h=>s9 (R.eZ b o h) M.size
 have al:rH (λ_=>undef) w' π B ⟨rows.flatten,[]⟩:=by
  refine⟨D,e,hh,⟨?_,λj x u L hu=>?_⟩,λx L=>?_,λo q hq=>by simp[d9]at hq,λo ho=>by have:=R.eZ _ _ ho;omega⟩
  ·have au:news.length<=D.size:=by
    rcases ma D.size news.length with h|h
    ·exfalso
     have:=O D.size news[D.size] (eh h)
     rw[In (ik _)]at this;cases this
    ·exact h
   simp only[Fd,acc,V.1];omega
  ·have hj:j<rows.flatten.length:=by
    rcases ma j rows.flatten.length with h|h
    ·exact h
    ·simp only[]at L;rw[kh h]at L;cases L
   simp only[]at L hu;rw[sa hj]at hu
   have ab:j<news.length:=by rw[<-V.1];exact hj
   have ac:=O j news[j] (eh ab)
   have:u=news[j]:=by
    have h2:D[j]? =some u:=by simpa using hu
    rw[h2]at ac;exact(Ax ac)
   subst this
   have an:=V.2 j x _ L (eh ab)
   have aa:kO x=true:=by
    obtain⟨r,hr,Z⟩:=abH.1 (er L)
    exact(hf r hr).2 x Z
   rw[MN an aa];exact DV.kO aa
  ·obtain⟨r,hr,Z⟩:=abH.1 L
   exact am r hr x Z
 refine⟨IZ β id B,R.Q5 ak hB M (λ_ _ h=>h) (λ_ _ h=>.inl h) ao al,cap,?_,?_⟩
 ·cases hd<;>first|exact ae|omega
 ·rw[cZ]
theorem ZP{e z b:Nat} (h:y7 P c=some (.app e z b (.k .aZ) y)):∃t R V i L,c.callee=.builtin .append/\c.argTypes.toList=[t,t]/\c.args.toList=[R,V]/\P.underlying t=some (.slice e)/\dn R=some (.k .aZ)/\dn V=some y/\
  P.info? e=some i/\i.zero=some L/\(0<i.size&&L.cells.size==i.size&&0<i.bytes)=true/\i.size=z/\i.bytes=b:=by
 obtain⟨callee,args,argTypes⟩:=c;unfold y7 at h;split at h
 ·split at h
  ·simp only[eg]at h
   obtain⟨_,_,h⟩:=h
   split at h<;>cases h
  ·split at h<;>try(cases h;done)
   simp only[eg]at h;obtain⟨_,_,h⟩:=h;cases h
 ·split at h<;>try(cases h;done)
  simp only[fx]at h
  split at h<;>cases h
 ·split at h<;>try(cases h;done)
  split at h<;>try(cases h;done)
  simp only[eg]at h;obtain⟨_,_,h⟩:=h;cases h
 ·rename_i D
  split at h<;>try(cases h;done)
  rename_i t t' x y' hT hX
  split at h<;>try(cases h;done)
  rename_i O;subst O
  split at h<;>try(cases h;done)
  rename_i e' x' aa Z hx hy
  split at h<;>try(cases h;done)
  rename_i i hi
  split at h<;>try(cases h;done)
  rename_i L hz
  split at h<;>try(cases h;done)
  rename_i M;cases h;exact⟨_,_,_,i,L,D,hT,hX,Z,hx,hy,hi,hz,M,rfl,rfl⟩
 ·simp only[eg]at h
  obtain⟨_,_,h⟩:=h;cases h
 ·simp only[eg]at h
  obtain⟨_,_,h⟩:=h;cases h
 ·cases h
theorem Pw(R:Rel P nt n0 w0 π0 U s a w β τ π) {c:IY} (ae:¬U id) (L:Zr P o.op=some c) (h:dF (Pure P) id c K X s) (hn:∀v s' x w' β' τ' π',K v s'->RV β' τ' w' π' v x->v.iA (fQ U id)->Rel P nt n0 w0 π0 (fQ U id) s' a w' β' τ' π'->next (a.put o.dst x) w') (hx:∀p s' w' β' τ' π',X p s'->Rel P nt n0 w0 π0 (fQ U id) s' a w' β' τ' π'->Q (.panic (iB p)) a w'):o.wp P a w next Q:=by
 obtain⟨dst,op,D,pos,after,guard⟩:=o;simp only at L
 have bi:∀n,U n->fQ U id n:=λn h=>.inl h
 have fin:∀{v:SV} {y:Value},(execOp a.eval ⟨dst,op,D,pos,after,guard⟩).run P w=.ok (.value y) w->RV β τ w π v y->v.iA U->K v s->Oper.wp P ⟨dst,op,D,pos,after,guard⟩ a w next Q:=by
  intro v y M hv hu hK;unfold Oper.wp;rw[M];exact hn v s y w β τ π hK hv (SV.pG bi hu) (R.sub bi)
 have al:∀{v:AV} {y:Value},(execOp a.eval ⟨dst,op,D,pos,after,guard⟩).run P w=.ok (.value y) w->DV w π v y->K (.dat v none) s->Oper.wp P ⟨dst,op,D,pos,after,guard⟩ a w next Q:=
  λ{v y} M hv hK=>fin (v:=.dat v none) M ⟨hv,λt ht=>by cases ht⟩ trivial hK
 -- a function is entered that raises
 have raise:∀{f:Nat} {ids:List Nat} {css Z:List (List AV)} {ab:List (Option AV)} {vs:List Value} {p:AV},Vj P f css ab p Z->ids.Nodup->aW s.boxes ids=some css->gb w π ab (ids.map β) vs->
   (execOp a.eval ⟨dst,op,D,pos,after,guard⟩).run P w=.ok (.enter f vs.toArray) w->X p {s with boxes:=dR ids Z s.boxes}->Oper.wp P ⟨dst,op,D,pos,after,guard⟩ a w next Q:=by
  intro f ids css Z ab vs p hq ag O ac M hX;obtain⟨a7,bd,_,hq⟩:=hq;unfold Oper.wp;rw[M,Do];refine(hq w π (ids.map β) vs R.eZ (R.nodup ag O) (R.qO O) ac).mono ?_
  rintro e w' ⟨π',rfl,aa,an,am,ao,ar⟩
  obtain⟨τ',_,R'⟩:=R.yf (fr:=none) ae ag O bd aa an am ao ar DV.gJ (λt ht=>by cases ht)
  exact hx _ _ _ _ _ _ hX R'
 -- a function is entered that takes a token,or leaves one
 have tok:∀{f:Nat} {ids:List Nat} {css:List (List AV)} {ab:List (Option AV)} {vs:List Value},QI (Pure P) f css ab ids id s.boxes s.live (λv bx lv=>K v {s with boxes:=bx,live:=lv})->ids.Nodup->aW s.boxes ids=some css->gb w π ab (ids.map β) vs->
   (bZ P f=true->(execOp a.eval ⟨dst,op,D,pos,after,guard⟩).run P w=.ok (.enter f vs.toArray) w)->Oper.wp P ⟨dst,op,D,pos,after,guard⟩ a w next Q:=by
  intro f ids css ab vs hT ag O ac M;obtain⟨tg,r,Z,du,hp,hT⟩:=hT;obtain⟨qo,da,hK⟩:=ah hT
  have hp:Vk P f css tg ab r Z du:=hp
  obtain⟨a7,bd,_,hp⟩:=hp;obtain⟨tv,c7,c6⟩:=R.Ky O da;unfold Oper.wp;rw[M a7,Do];refine(hp w π (ids.map β) vs tv R.eZ (R.nodup ag O) (R.qO O) ac c7).mono ?_
  rintro e w' ⟨v,π',d3,rfl,aa,an,am,ao,ct,ar,a8,ba⟩
  obtain⟨τ',a9,R'⟩:=R.ZD ae ag O bd c6 aa an am ao ct ar a8 ba;exact hn _ _ _ _ _ _ _ hK a9 trivial R'
 cases op<;>simp only[Zr]at L<;>try(cases L;done)
 case binOp op t x y yt=>
  unfold aio at L
  split at L<;>try(cases L;done)
  all_goals
   split at L<;>try(cases L;done)
   rename_i hs;simp only[eg]at L;obtain⟨x',V,rfl⟩:=L;simp only[dF]at h;obtain⟨av,ad,h⟩:=ah h;obtain⟨b,hb,hK⟩:=ah h
  ·have M:=Q3 (P:=P) (X:=x) (.inl ⟨rfl,rfl⟩) hs hb (R.aL V ad)
   exact al (by simp only[execOp];rw[ia];refine(sd (λr=>Result.andThen r _) M).trans ?_;rfl) (.bool _) hK
  ·have M:=Q3 (P:=P) (X:=x) (.inr ⟨rfl,rfl⟩) hs hb (R.aL V ad)
   exact al (by simp only[execOp];rw[ia];refine(sd (λr=>Result.andThen r _) M).trans ?_;rfl) (.bool _) hK
  ·have M:=Q4 (P:=P) (X:=x) (.inl ⟨rfl,rfl⟩) hs hb (R.bX V ad).1
   exact al (by simp only[execOp];rw[ia];refine(sd (λr=>Result.andThen r _) M).trans ?_;rfl) (.bool _) hK
  ·have M:=Q4 (P:=P) (X:=x) (.inr ⟨rfl,rfl⟩) hs hb (R.bX V ad).1
   exact al (by simp only[execOp];rw[ia];refine(sd (λr=>Result.andThen r _) M).trans ?_;rfl) (.bool _) hK
 case makeSlice t l c=>
  split at L<;>try(cases L;done)
  rename_i e l' c' ht hl a5
  split at L<;>try(cases L;done)
  rename_i i hi
  split at L<;>try(cases L;done)
  rename_i au;cases L;simp only[ed,l4,ii,adc]at au;obtain⟨⟨hz,zv,c4⟩,d0⟩:=au;simp only[dF]at h;obtain⟨av,ad,h⟩:=ah h;obtain⟨li,c8,h⟩:=ah h;obtain⟨bv,dx,h⟩:=ah h;obtain⟨ci,dq,hb,hK⟩:=ah h;obtain⟨kl,dj⟩:=R.idx hl ad c8
  obtain⟨kc,c5⟩:=R.idx a5 dx dq;obtain⟨b0,b1,b2⟩:=hb
  have b3:ci<=140737488355328:=by
   have:ci*1<=ci*(i.bytes:Int):=Int.mul_le_mul_of_nonneg_left ado ado
   omega
  have M:=run_make (P:=P) w t e i zv ht hi c4 kl kc li ci b0 b1 (by rw[Int.mul_comm];omega) ado
  have dl:(execOp a.eval ⟨dst,.makeSlice t l c,D,pos,after,guard⟩).run P w=.ok (.value (.slice (some ⟨w.heap.size,0,none⟩) li.toNat ci.toNat)) (w.alloc (.cells (madeCells zv.cells (ci.toNat*i.size)) e)):=by
   simp only[execOp,dj,c5,ia,M,ge,kx]
  unfold Oper.wp;rw[dl]
  exact hn _ _ _ _ _ _ _ hK (show RV β _ _ π (.raw id li.toNat) _ from⟨w.heap.size,ci.toNat,cZ ..,rfl,ado⟩) (.inr rfl) (R.made ae hi hz (by simp only[maxLen];omega) (by rw[size_madeCells,hz,tt]))
 case makeInterface t x=>
  split at L<;>try(cases L;done)
  rename_i a6;simp only[eg]at L;obtain⟨x',V,rfl⟩:=L;simp only[dF]at h;obtain⟨av,ad,d4,hK⟩:=ah h;simp only[na,not_or,abV]at a6
  cases hu:P.underlying t with
  |none=>rw[hu]at a6;simp at a6
  |some d=>
   have dk:(underlying t).run P w=.ok d w:=lC hu
   have hd:∀ms,d≠.interface ms:=λms e=>by subst e;simp[tZ,hu]at a6
   refine al (y:=.iface t (a.eval x)) ?_ (.iface t av _ (R.aL V ad)) hK
   have:(Instr.makeInterface t (a.eval x)).run P w=.ok (.iface t (a.eval x)) w:=by
    unfold Instr.makeInterface;simp only[ia,dk,ge]
    cases d<;>first|exact absurd rfl (hd _)|rfl
   simp only[execOp,ia,this,ge,kx]
 case makeFunc fn first caps=>
  cases fn<;>simp only[]at L<;>try(cases L;done)
  rename_i f
  split at L<;>try(cases L;done)
  rename_i au;simp only[ed]at au;simp only[eg]at L;obtain⟨xs,ak,rfl⟩:=L;simp only[dF]at h;obtain⟨⟨ab,ids⟩,a2,hK⟩:=ah h
  have hf:first=#[]:=by simpa[Ts]using au.1.1
  subst hf
  have d2:=(R.ej (by simpa[gU]using ak) a2).1
  have M:(execOp a.eval ⟨dst,.makeFunc (.func f) #[] caps,D,pos,after,guard⟩).run P w=.ok (.value (.func (.func f) #[] (caps.map a.eval))) w:=by simp[execOp,Instr.makeFunc]
  refine fin M (v:=.nX f ab ids) ⟨caps.map a.eval,rfl,by simpa using d2⟩ (λb hb=>?_) hK
  obtain⟨t,_,v,hl,hv⟩:=jl a2 b hb;exact SV.Gf hv (R.slots t _ hl).2
 case typeAssert x xt t ok=>
  cases ok<;>simp only[]at L<;>try(cases L;done)
  split at L<;>try(cases L;done)
  rename_i a6
  split at L<;>try(cases L;done)
  rename_i z x' hz V;cases L;simp only[dF]at h;obtain⟨av,ad,h⟩:=ah h;obtain⟨v,hv,hK⟩:=ah h
  obtain⟨u,hu,hd⟩:=ZM (P:=P) (xt:=xt) hz (by simpa only[abV]using a6) hv (R.aL V ad)
  exact al (by simp only[execOp,ia,hu,ge,kx]) hd hK
 case panic x=>
  simp only[eg]at L;obtain⟨x',V,rfl⟩:=L;simp only[dF]at h;obtain⟨av,ad,cr,hX⟩:=ah h
  have hd:=R.aL V ad
  cases av<;>simp only[jh]at cr<;>try(cases cr;done)
  rename_i t b
  have he:a.eval x=.iface t (AZ b):=by
   generalize a.eval x=u at hd
   cases hd with
   |iface _ _ v hd=>rw[ZL hd cr]
  unfold Oper.wp
  have M:(execOp a.eval ⟨dst,.panic x,D,pos,after,guard⟩).run P w=.halt (.panic (.iface t (AZ b))) w:=by
   simp[execOp,he,Instr.panic,goPanic]
  rw[M];exact hx _ _ _ _ _ _ hX (R.sub bi)
 case call cl=>
  split at L
  ·rename_i y hy
   cases L;unfold adY at hy
   split at hy<;>try(cases hy;done)
   rename_i e z b y' a5;cases hy;obtain⟨t,Xo,Yo,i,zv,b5,hT,hX,ht,V,ck,hi,hz,b7,rfl,rfl⟩:=ZP a5;obtain⟨callee,args,argTypes⟩:=cl;obtain⟨v,u,s',w',β',π',M,hv,hu,hK,R'⟩:=R.ZN ht hi hz b7 V ck ae D h
   have eT:argTypes=#[t,t]:=md.1 (by simpa using hT)
   have eX:args=#[Xo,Yo]:=md.1 (by simpa using hX)
   simp only at b5;subst eT eX b5;unfold Oper.wp
   have:(execOp a.eval ⟨dst,.call ⟨.builtin .append,#[Xo,Yo],#[t,t]⟩,D,pos,after,guard⟩).run P w=.ok (.value u) w':=by
    simp[execOp,resolve,invoke,builtin,M]
   rw[this];exact hn v s' u w' β' τ π' hK hv hu R'
  rename_i dt;clear dt;obtain⟨callee,args,argTypes⟩:=cl
  have d5:=L
  have e1:(args.toList.map a.eval).toArray=args.map a.eval:=md.1 adI
  simp only[Vf]at L
  split at L<;>try(cases L;done)
  ·rename_i f
   split at L<;>try(cases L;done)
   rename_i bm;simp only[eg]at L;obtain⟨xs,ak,ch⟩:=L
   have a5:=VA (P:=P) (c:=⟨.value (.func f),args,argTypes⟩) rfl bm
   have M:(execOp a.eval ⟨dst,.call ⟨.value (.func f),args,argTypes⟩,D,pos,after,guard⟩).run P w=.ok (.enter f (args.toList.map a.eval).toArray) w:=by
    rw[e1];simp[execOp,resolve,Act.eval,Deferred.ofValue,invoke,gA bm]
   split at ch
   ·rename_i hp
    subst ch;simp only[dF]at h
    rcases h with h|h
    ·exact yj R ae (by simp only[Zc];rw[a5,fp hp];simp[ak]) h hn
    ·obtain⟨⟨ab,ids⟩,a2,ag,h⟩:=ah h
     obtain⟨css,O,h⟩:=ah h
     rcases h with⟨p,Z,hq,hX⟩|hT
     ·exact raise hq (fc ag) O (R.ej (by simpa[gU]using ak) a2).1 M hX
     ·exact tok hT (fc ag) O (R.ej (by simpa[gU]using ak) a2).1 λ_=>M
   ·rename_i hp
    subst ch;simp only[dF]at h
    rcases h with h|h
    ·exact yj R ae (by simp only[Zc];rw[a5,fb hp];simp[ak]) h hn
    ·obtain⟨as,has,h⟩:=ah h
     have hd:=R.ei (by simpa[gU]using ak) has
     rcases h with⟨cs,co,hK⟩|⟨p,hq,hX⟩|⟨rows,e,z,cb,df,hK⟩
     rotate_right
     ·obtain⟨_,cb⟩:=cb
      unfold Oper.wp;rw[M,Do];refine(cb w π _ R.eZ hd).mono ?_
      rintro e' w' ⟨v,π',rfl,aa,an,am,ao,a8,ba⟩
      obtain⟨β',R',a9⟩:=R.ZO ae aa a8 (ba e rfl) df
      exact hn _ _ _ _ _ _ _ hK a9 (.inr rfl) R'
     ·obtain⟨_,co⟩:=co
      unfold Oper.wp;rw[M,Do];refine(co w π _ R.eZ hd).mono ?_
      rintro e w' ⟨B,π',rfl,hB,aa,an,am,ao,ar⟩
      have R':=R.Q5 ae hB aa an am ao ar
      exact hn _ _ _ _ _ _ _ hK (show RV (IZ β id B) τ _ π' (.ptr id 0) _ by simp[RV,cZ]) (.inr rfl) R'
     ·exact raise (ids:=[]) (css:=[]) hq acN rfl (uc hd) M hX
  ·rename_i g
   simp only[eg]at L;obtain⟨xs,ak,rfl⟩:=L;simp only[dF]at h
   have cu:dn (.tmp g)=some (.t g):=rfl
   have old:bF (Pure P) id (if tY P argTypes.toList then .gK (.t g) xs else .gy (.t g) xs) K s->Oper.wp P ⟨dst,.call ⟨.value (.tmp g),args,argTypes⟩,D,pos,after,guard⟩ a w next Q:=λh=>
    yj R ae (by simp only[Zc,y7,cu,ak]) h hn
   split at h
   ·rename_i f as bs hl
    obtain⟨⟨us,he,bj⟩,_⟩:=R.bX cu hl;obtain⟨⟨ab,ids⟩,a2,ag,h⟩:=ah h;obtain⟨css,O,h⟩:=ah h
    have a4:=fc ag
    have ac:=yp (R.ej (by simpa[gU]using ak) a2).1 bj
    rw[<-ta]at ac
    have M:bZ P f=true->(execOp a.eval ⟨dst,.call ⟨.value (.tmp g),args,argTypes⟩,D,pos,after,guard⟩).run P w=.ok (.enter f (args.toList.map a.eval++us.toList).toArray) w:=λa7=>by
     have e2:(args.toList.map a.eval++us.toList).toArray=args.map a.eval++us:=md.1 adI
     rw[e2];simp[execOp,resolve,he,Deferred.ofValue,invoke,gA a7]
    rcases h with⟨r,fr,Z,hp,hK⟩|⟨p,Z,hq,hX⟩|hT
    ·have hp:wj P f css (ab++as) r fr Z:=hp
     obtain⟨a7,bd,_,hp⟩:=hp;unfold Oper.wp;rw[M a7,Do];refine(hp w π ((ids++bs).map β) _ R.eZ (R.nodup a4 O) (R.qO O) ac).mono ?_
     rintro e w' ⟨v,π',rfl,aa,an,am,ao,ar,a8,ba⟩
     obtain⟨τ',a9,R'⟩:=R.yf ae a4 O bd aa an am ao ar a8 ba
     exact hn _ _ _ _ _ _ _ hK a9 (by cases fr with|none=>trivial|some e=>exact .inr rfl) R'
    ·exact raise hq a4 O ac (M hq.1) hX
    ·exact tok hT a4 O ac M
   ·exact old h
  ·split at L<;>try(cases L;done)
   rename_i t t' x y hT hX
   split at L<;>try(cases L;done)
   rename_i e x' y' ht V ck
   split at L<;>try(cases L;done)
   rename_i b7;cases L;simp only[dF]at h;obtain⟨p,hp,h⟩:=ah h
   cases p<;>try(exact h.elim)
   rename_i q n;obtain⟨b,hb,h⟩:=ah h;obtain⟨ys,b8,⟨db,cx⟩,bl,hK⟩:=ah h;obtain⟨⟨B,cap,hτ,hv,bj⟩,d6⟩:=R.bX V hp
   have a3:(P.info? e).map (·.size)=some 1:=by simpa[gF]using b7
   obtain⟨i,hi,hz⟩:∃i,P.info? e=some i/\i.size=1:=by
    cases hq:P.info? e with
    |none=>simp[hq]at a3
    |some i=>exact⟨i,rfl,by simpa[hq]using a3⟩
   obtain⟨_,c3⟩:=R.live q e bl
   rcases c3 with b6|⟨B',len,d1,bw,i',ce,au,hh,_,di,cv,be,hfree⟩
   ·rw[hτ]at b6;cases b6
   rw[hτ]at ce;simp only[Value.slice.injEq,fx,Addr.mk.injEq]at ce;obtain⟨⟨rfl,_⟩,rfl,rfl⟩:=ce
   have dp:i'=i:=by rw[hi]at cv;exact(Ax cv).symm
   subst dp;rw[hz,tt]at be;subst db
   have bo:=R.aL ck hb
   have b4:∀o,¬π B o:=λo=>hfree o ado
   have eT:argTypes=#[t,t']:=md.1 (by simpa using hT)
   have eX:args=#[x,y]:=md.1 (by simpa using hX)
   subst eT eX
   have go:∀(cs:List Value) (w':World),jR w π ys.flatten cs->(∀r∈ys,∀x∈r,x.scalar=true)->w'=w.setRow B (bw.toList.take 0++cs++bw.toList.drop (0+cs.length)).toArray->
     (Builtin.copy_ #[t,t'] D #[a.eval x,a.eval y]).run P w=.ok (goInt ys.length) w'->Oper.wp P ⟨dst,.call ⟨.builtin .copy,#[x,y],#[t,t']⟩,D,pos,after,guard⟩ a w next Q:=by
    intro cs w' hd cp hw c1;obtain⟨τ',π',R'⟩:=R.copied ae hi hz bl hτ bj hh au di be b4 cx hd cp
    have M:(execOp a.eval ⟨dst,.call ⟨.builtin .copy,#[x,y],#[t,t']⟩,D,pos,after,guard⟩).run P w=.ok (.value (goInt ys.length)) w':=by
     simp[execOp,resolve,invoke,builtin,c1]
    unfold Oper.wp;rw[M];subst hw
    exact hn (.dat (.int .i64 ys.length) none) _ _ _ _ _ _ hK ⟨.int .i64 _,λt ht=>by cases ht⟩ trivial R'
   cases b<;>simp only[rowsOf,fx,reduceCtorEq]at b8
   ·subst b8
    generalize ca:a.eval y=vy at bo;cases bo
    refine go [] w ⟨rfl,λi a v h=>by simp at h⟩ adI ?_ ?_
    ·have:=setRow_self w B bw e (0,0) hh
     simpa using this.symm
    ·rw[hv,ca]
     exact run_copy_nil (P:=P) w t t' D e _ _ _ ht (by rw[a3];rfl)
   ·rename_i l
    subst b8;generalize ca:a.eval y=vy at bo
    have row:∀(A:Addr) (m c:Nat) (cs:List Value),vy=.slice (some A) m c->m=l.length->cs.length=m->(∀j u,cs[j]? =some u->w.cell? (A.add j)=some u)->(∀u∈cs,u.oneCell'=true)->jR w π l.flatten cs->(∀r∈l,∀x∈r,x.scalar=true)->
      Oper.wp P ⟨dst,.call ⟨.builtin .copy,#[x,y],#[t,t']⟩,D,pos,after,guard⟩ a w next Q:=by
     intro A m c cs e1 e2 e3 c0 dy hd cp;refine go cs _ hd cp rfl ?_;rw[hv,ca,e1]
     have:=run_copy_row (P:=P) w t t' D e B 0 l.length cap A m c bw e cs ht a3 hh (by rw[e3,e2];exact(Nat.min_self _).symm) c0 (by rw[be];omega) dy
     rw[this,e3,e2]
    cases bo with
    |S5 A=>exact row A 0 0 [] rfl rfl rfl (λj u h=>by simp at h) adI ⟨rfl,λi a v h=>by simp at h⟩ adI
    |sl _ B2 c2 cy z2 f2 g1 g2 g3 g4 g5 g6=>
     obtain⟨hm,news,k1,k2,k3,k4,k5⟩:=DV.news (DV.sl l B2 c2 cy z2 f2 g1 g2 g3 g4 g5 g6) cx
     exact row _ _ _ news rfl rfl (by rw[k1,tt]) k2 k3 k4 k5
theorem Gq(R:Rel P nt n0 w0 π0 U s a w β τ π):∀{Xs:List Operand} {xs:List aR} {ps:List (Nat×Nat)},Xs.mapM dn=some xs->DZ s xs=some ps->
  Xs.map a.eval=(ps.map λp=>Value.pointer (some ⟨β p.1,p.2,none⟩))/\∀p∈ps,U p.1
 |[],xs,ps,D,L=>by
  simp at D;subst D;simp[DZ]at L;subst L
  exact⟨rfl,adI⟩
 |X::Xs,xs,ps,D,L=>by
  simp only[tl,pb,jp,vd,fx]at D;obtain⟨x,D,ab,O,rfl⟩:=D;simp only[DZ]at L
  split at L<;>try(cases L;done)
  rename_i b o aa h1 h2;cases L;obtain⟨Z,h4⟩:=Gq R O h2;obtain⟨h5,V⟩:=R.bX D h1
  refine⟨by simp only[kr,Z];exact sd (· ::_) h5,λp M=>?_⟩
  rcases nm.1 M with rfl|M
  ·exact V
  ·exact h4 p M
theorem Rel.hold(R:Rel P nt n0 w0 π0 U s a w β τ π) (e:TypeId) {ps:List (Nat×Nat)} (L:∀(i:Nat) (p:Nat×Nat),ps[i]? =some p->cs[i]? =some (.pointer (some ⟨β p.1,p.2,none⟩))):
  ∃π',Rel P nt n0 w0 π0 U s a (w.alloc (.cells cs e)) β τ π'/\∀(i:Nat) (p:Nat×Nat),ps[i]? =some p->π' w.heap.size (0+i)/\(w.alloc (.cells cs e)).cell? ⟨w.heap.size,0+i,none⟩=some (.pointer (some ⟨β p.1,p.2,none⟩)):=by
 have D:Below w.heap.size w (w.alloc (.cells cs e)):=(Below.refl _ _).alloc (ik _) _
 refine⟨λB o=>π B o\/(B=w.heap.size/\o<cs.size),R.frame (λ_ _=>rfl) (λ_ _=>rfl) (λ_ h=>h) (λ_ _ h=>.inl h) (λb o h=>?_) (λb o h=>?_) D,λi p O=>?_⟩
 ·rcases h with h|⟨rfl,_⟩
  ·exact .inl h
  ·exact .inr (ik _)
 ·rcases h with h|⟨rfl,_⟩
  ·have:=R.eZ b o h;simp;omega
  ·simp
 ·have h:=L i p O
  have M:i<cs.size:=(kt.1 h).1
  rw[lc]
  exact⟨.inr ⟨rfl,M⟩,by rw[GT _ _ i cs e (0,0) (UV w _)];simpa using h⟩
theorem Jt:∀(l:List (Nat×Value)) (k:Nat) (us:Array Value),l.map (·.1)=(List.range l.length).map (· +k)->(∀p∈l,p.2.cells.toList=[p.2])->us.size=k+l.length->
  ∃D,Instr.fill (λi=>some (i*1,1)) us l=some D/\D.toList=us.toList.take k++l.map (·.2)
 |[],k,us,_,_,R=>⟨us,rfl,by simp at R⊢;rw[kf (by simp;omega)]⟩
 |(i,v)::l,k,us,h1,h2,R=>by
  have hi:i=k:=by
   have:=sd (λl=>l[0]?) h1
   simpa using this
  subst hi
  have Z:l.map (·.1)=(List.range l.length).map (· +(i+1)):=by
   have M:=sd List.tail h1
   simp only[kr,List.tail_cons,fi,List.range_succ_eq_map,acl]at M;rw[M]
   apply B0
   intro q _;simp;omega
  have O:=h2 (i,v) adI
  simp only at O
  have L:v.cells.size=1:=by have:=sd List.length O;simpa using this
  simp only[fi]at R
  obtain⟨aa,he,V,ab⟩:=ye (place:=λi=>some (i*1,1)) (cells:=us) (i:=i) (off:=i*1) (v:=v) (rest:=l) (by rw[L]) (by rw[L];omega)
  obtain⟨D,hf,hd⟩:=Jt l (i+1) aa Z (λp hp=>h2 p (lw _ hp)) ado
  refine⟨D,by rw[he];exact hf,?_⟩
  have e:(us.toList.take i++[v]++us.toList.drop (i+[v].length)).take (i+1)=us.toList.take i++[v]:=xv (by simp;omega)
  rw[hd,V,O,tt,e];simp
theorem Ju{b:Nat} {x:bV}:∀{l:List (Nat×bV)},mI b (o7 b x l)=mI b l
 |[]=>rfl
 |(m,v)::r=>by
  simp only[o7,mI,lA];split
  ·rename_i e;subst e;simp[mI]
  ·rename_i e
   have:(b==m)=false:=by simpa using e
   simp[mI,this,Ju (l:=r)]
theorem MO{b:Nat} {ps:List (Nat×Nat)}:∀{l:List (Nat×SV)} {t:Nat},lk t (F3 b ps l)=(lk t l).map (U7 b ps)
 |[],t=>rfl
 |(m,u)::r,t=>by
  simp only[F3,lk,lA];split
  ·rfl
  ·exact MO
theorem Rel.ZQ(R:Rel P nt n0 w0 π0 U s a w β τ π) {b:Nat} {x:bV} (hb:cj b s.boxes=some x) (h4:4<=b) {p:Nat×Nat} (hU:U p.1) (hcell:w.cell? ⟨β b,0,none⟩=some (.pointer (some ⟨β p.1,p.2,none⟩))):
  ∃π':Nat->Nat->Prop,Rel P nt n0 w0 π0 U {s with slots:=F3 b [p] s.slots,boxes:=mI b s.boxes} a w β τ π':=by
 obtain⟨ag,ab,ad,ae⟩:=R.boxes b x hb
 have ac:=R.mM hb
 have Z:n0.n<=β b:=by rcases ab with h|h;exact h;exact absurd h.1 ado
 have hp:∀B o,π B o->(λB o=>π B o\/(B=β b/\o<1)) B o:=λ_ _ h=>.inl h
 have D:∀c y,cj c (mI b s.boxes)=some y->c≠b/\cj c s.boxes=some y:=λc y h=>by
  rw[pJ]at h;split at h
  ·cases h
  ·rename_i M;exact⟨M,h⟩
 refine⟨λB o=>π B o\/(B=β b/\o<1),R.size,λt v h=>?_,λc y h=>?_,λc c' y y' h h' e=>R.inj c c' y y' (D c y h).2 (D c' y' h').2 e,λq e h=>?_,R.dr,λq e c y h h' hB=>R.dw q e c y h (D c y h').2 hB,R.below,R.gG,λB o h=>?_,λB o h=>.inl (R.eU B o h),λB o h=>?_,R.mJ,R.jH,R.kept⟩
 ·simp only[MO,eg]at h
  obtain⟨u,hu,rfl⟩:=h;obtain⟨⟨y,hy,hr⟩,hi⟩:=R.slots t u hu
  have hm:RV β τ w (λB o=>π B o\/(B=β b/\o<1)) u y:=RV.mono (λ_ _=>rfl) (λ_ _=>rfl) hp (λ_ _ _=>rfl) hi hr
  cases u with
  |ptr c o=>
   simp only[U7]
   by_cases V:c=b
   ·subst V
    simp only[ne,gs]
    have e:y=.pointer (some ⟨β c,o,none⟩):=hr
    subst e
    refine⟨⟨_,hy,.QV λi q O=>?_⟩,λq O=>?_⟩
    ·cases o with
     |zero=>
      cases i with
      |zero=>simp at O;subst O;exact⟨.inr ⟨rfl,ado⟩,hcell⟩
      |succ i=>simp at O
     |succ o=>simp at O
    ·have:=sm O
     simp at this;subst this;exact hU
   ·have aa:(c==b)=false:=by simpa using V
    simp only[aa,et];exact⟨⟨y,hy,hm⟩,hi⟩
  |_=>exact⟨⟨y,hy,hm⟩,hi⟩
 ·obtain⟨M,hc⟩:=D c y h
  obtain⟨g1,g2,g3,g4⟩:=R.boxes c y hc
  refine⟨g1,g2,g3.keep (λ_ _=>rfl) g4 rfl hp (λ_ _ _=>rfl) (λo L=>?_),g4⟩
  rcases L with L|⟨L,_⟩
  ·obtain⟨_,_,_,_,_,_,hn⟩:=g3;exact hn o L
  ·exact M (R.inj c b y x hc hb L)
 ·obtain⟨h1,h2⟩:=R.live q e h
  refine⟨h1,h2.keep (λB hB=>rfl) (λB o hB L=>?_)⟩
  rcases L with L|⟨L,_⟩
  ·exact L
  ·exact absurd (L▸hB) (R.dw q e b x h hb)
 ·rcases h with h|⟨rfl,_⟩
  ·exact R.eZ B o h
  ·exact ac
 ·rcases h with h|⟨rfl,_⟩
  ·exact R.dz B o h
  ·exact .inr (.inl Z)
theorem Tg(R:Rel P nt n0 w0 π0 U s a w β τ π) {c:IY} (co:¬U id) (D:xPt P o.type o.op=some c) (h:dF (Pure P) id c K X s) (hn:∀v s' x w' β' τ' π',K v s'->RV β' τ' w' π' v x->v.iA (fQ U id)->Rel P nt n0 w0 π0 (fQ U id) s' a w' β' τ' π'->next (a.put o.dst x) w'):o.wp P a w next Q:=by
 obtain⟨dst,op,V,pos,after,guard⟩:=o;simp only at D
 have aa:∀n,U n->fQ U id n:=λn h=>.inl h
 have fin:∀{v:SV} {y:Value},(execOp a.eval ⟨dst,op,V,pos,after,guard⟩).run P w=.ok (.value y) w->RV β τ w π v y->v.iA U->K v s->Oper.wp P ⟨dst,op,V,pos,after,guard⟩ a w next Q:=by
  intro v y L hv hu hK;unfold Oper.wp;rw[L];exact hn v s y w β τ π hK hv (SV.pG aa hu) (R.sub aa)
 cases op<;>simp only[xPt]at D<;>try(cases D;done)
 case box t x=>
  split at D<;>try(cases D;done)
  simp only[eg]at D;obtain⟨x',Z,rfl⟩:=D;simp only[dF]at h;obtain⟨p,M,h⟩:=ah h;obtain⟨L,hU⟩:=R.bX Z M
  cases p<;>try(exact h.elim)
  rename_i k ps
  match k,L,h with
  |0,L,h=>
   have L:a.eval x=.agg (ps.map λp=>Value.pointer (some ⟨β p.1,p.2,none⟩)).toArray:=L
   have O:(execOp a.eval ⟨dst,.box t x,V,pos,after,guard⟩).run P w=.ok (.value (.pointer (some ⟨w.heap.size,0,none⟩))) (w.alloc (.cells (a.eval x).cells t)):=by
    simp[execOp,Instr.box,newVar,Go.newRow]
   obtain⟨π',R',hh⟩:=R.hold t (cs:=(a.eval x).cells) (ps:=ps) (λi p hi=>by rw[L];simp[Value.cells,hi])
   unfold Oper.wp;rw[O]
   exact hn (.pt 2 ps) s _ _ β τ π' h (.QV hh) (λp M=>.inl (hU p M)) (R'.sub aa)
  |k+1,_,h=>exact h.elim
 case build t ps=>
  split at D<;>try(cases D;done)
  rename_i hs
  split at D<;>try(cases D;done)
  rename_i z X hz hX;simp only[eg]at D;obtain⟨x',Z,rfl⟩:=D;simp only[dF]at h;obtain⟨p,M,h⟩:=ah h;obtain⟨L,hU⟩:=R.bX Z M
  cases p<;>try(exact h.elim)
  rename_i b o
  have L:a.eval X=.pointer (some ⟨β b,o,none⟩):=L
  obtain⟨zv,a7,be,ch⟩:=wA (P:=P) (w:=w) (π:=π) hz
  have bi:zv.cells.size=1:=by have:=be.1;simpa using this.symm
  unfold Pj at hs
  split at hs<;>try(cases hs;done)
  rename_i fs hu
  split at hs<;>try(cases hs;done)
  rename_i f a9;simp only[ed,l4]at hs
  have hm:=wC (P:=P) (w:=w) fs (λf=>do pure (f.offset,<-sizeOf f.type)) (λf=>(f.offset,(gF P f.type).getD 0)) (by
   intro g hg
   have bd:g∈fs.toList:=by simpa using hg
   have:g=f:=by rw[a9]at bd;simpa using bd
   subst this
   simp[eV (w:=w) hs.2,hs.2])
  have a4:((fs.map λf=>(f.offset,(gF P f.type).getD 0))[0]?)=some (0,1):=by
   have:fs=#[f]:=md.1 (by simpa using a9)
   subst this;simp[hs.1.2,hs.2]
  obtain⟨b7,he,cu,c4⟩:=ye (place:=((fs.map λf=>(f.offset,(gF P f.type).getD 0))[·]?)) (cells:=zv.cells) (i:=0) (off:=0) (v:=a.eval X) (rest:=[]) (by rw[L];exact a4) (by rw[L,bi];simp[Value.cells])
  have ac:b7=#[a.eval X]:=by
   apply md.1
   have ec:(Value.pointer (some ⟨β b,o,none⟩)).cells.toList=[Value.pointer (some ⟨β b,o,none⟩)]:=rfl
   rw[cu,L,ec,ml (by simp[bi])]
   simp
  refine fin (v:=.pt 0 [(b,o)]) (y:=.agg #[a.eval X]) ?_ (by rw[L];rfl) (λp M=>by simp at M;subst M;exact hU) h
  have b0:ps.toList=[(0,X)]:=hX
  have:(ps.map λ(i,x)=>(i,a.eval x)).toList=[(0,a.eval X)]:=by simp[b0]
  have hb:(Instr.build t (ps.map λ(i,x)=>(i,a.eval x))).run P w=.ok (.agg #[a.eval X]) w:=by
   simp only[Instr.build,ia,a7,ge,ix hu,hm];rw[this,he];simp[Instr.fill,ac]
  simp only[execOp,ia,hb,ge,kx]
 case buildSlice t n Xs=>
  split at D<;>try(cases D;done)
  rename_i e ht
  split at D<;>try(cases D;done)
  split at D<;>try(cases D;done)
  rename_i z xs hz ak
  split at D<;>try(cases D;done)
  rename_i ab;cases D;simp only[ed,ii,l4]at ab;obtain⟨⟨⟨ct,c3⟩,ag⟩,ar⟩:=ab;simp only[dF]at h;obtain⟨ps,b5,hK⟩:=ah h
  have bl:Xs.toList.mapM (λp=>dn p.2)=(Xs.toList.map (·.2)).mapM dn:=by rw[List.mapM_map];rfl
  rw[bl]at ak;obtain⟨al,b4⟩:=Gq R ak b5
  have a8:Xs.toList.length=n:=by have:=sd List.length ar;simpa using this
  have a4:ps.length=n:=by have:=sd List.length al;simp only[OF]at this;omega
  obtain⟨zv,a7,be,ch⟩:=wA (P:=P) (w:=w) (π:=π) hz
  have cy:(Xs.map λ(i,x)=>(i,a.eval x)).toList=Xs.toList.map λp=>(p.1,a.eval p.2):=adI
  have ao:(Xs.toList.map λp=>(p.1,a.eval p.2)).map (·.2)=ps.map λp=>Value.pointer (some ⟨β p.1,p.2,none⟩):=by rw[<-al];simp
  obtain⟨us,hf,ac⟩:=Jt (Xs.toList.map λp=>(p.1,a.eval p.2)) 0 ((Array.range (n*1)).map (zv.cells[· %zv.cells.size]!)) (by simp only[acl,OF];rw[show((λx=>x.1)∘λp:Nat×Operand=>(p.1,a.eval p.2))=(λp=>p.1)from rfl,ar,a8];simp) (λp M=>by
   have:p.2∈(Xs.toList.map λp=>(p.1,a.eval p.2)).map (·.2):=NE M
   rw[ao]at this;obtain⟨q,_,e⟩:=mi.1 this
   rw[<-e];rfl) (by simp[a8])
  rw[ao]at ac;simp only[ww,my]at ac
  obtain⟨π',R',hh⟩:=R.hold e (cs:=us) (ps:=ps) (λi p hi=>by
   have:us.toList[i]? =some (.pointer (some ⟨β p.1,p.2,none⟩)):=by rw[ac];simp[hi]
   simpa using this)
  have bo:¬(n*1>16777216):=ado
  have O:(Instr.buildSlice t n (Xs.map λ(i,x)=>(i,a.eval x))).run P w=.ok (.slice (some ⟨w.heap.size,0,none⟩) n n) (w.alloc (.cells us e)):=by
   have b1:¬n*1=0:=ado
   simp only[Instr.buildSlice,ia,ix ht,ge,eV (w:=w) ag]
   rw[fb (by simpa using bo)]
   simp only[b1,il,ia,kx,ge,a7,cy,hf,Go.newRow,run_newObj];rfl
  have ci:(execOp a.eval ⟨dst,.buildSlice t n Xs,V,pos,after,guard⟩).run P w=.ok (.value (.slice (some ⟨w.heap.size,0,none⟩) n n)) (w.alloc (.cells us e)):=by
   simp only[execOp,ia,O,ge,kx]
  unfold Oper.wp;rw[ci]
  exact hn (.pt 1 ps) s _ _ β τ π' hK ⟨w.heap.size,0,n,by simp[a4],ado,hh⟩ (λp M=>.inl (b4 p M)) (R'.sub aa)
 case indexAddr t x i=>
  split at D<;>try(cases D;done)
  rename_i e ht
  split at D<;>try(cases D;done)
  rename_i ab;simp only[ed,l4]at ab
  split at D<;>try(cases D;done)
  rename_i x' i' Z ck;cases D;simp only[dF]at h;obtain⟨p,M,h⟩:=ah h;obtain⟨L,hU⟩:=R.bX Z M
  cases p<;>try(exact h.elim)
  rename_i k ps
  match k,L,h with
  |1,L,h=>
   obtain⟨av,a2,h⟩:=ah h;obtain⟨j,hj,b8,hK⟩:=ah h;obtain⟨kk,hk⟩:=R.idx ck a2 hj;obtain⟨B,off,cap,h1,h2,h3⟩:=L;simp only[kw]at h1
   have ag:=eV (w:=w) ab.2
   have O:(Instr.indexAt t (a.eval x) (a.eval i)).run P w=.ok (.pointer (some ⟨B,off+j.toNat*1,none⟩)) w:=by
    simp[Instr.indexAt,hk,h1,asIntOf,ix ht,b8,ag,jj]
   refine fin (v:=.pt 2 (ps.drop j.toNat)) (y:=.pointer (some ⟨B,off+j.toNat*1,none⟩)) (by simp only[execOp,ia,O,ge,kx]) (.QV λm q hq=>?_) (λq hq=>hU q (sm hq)) hK
   rw[lL]at hq
   have:=h3 _ q hq
   rwa[tt,IH]
  |0,_,h=>exact h.elim
  |k+2,_,h=>exact h.elim
 case store t x v=>
  split at D<;>try(cases D;done)
  rename_i hs;simp only[ed,l4]at hs
  split at D<;>try(cases D;done)
  rename_i x' v' Z ca;cases D;simp only[dF]at h;obtain⟨p,M,h⟩:=ah h;obtain⟨L,hU⟩:=R.bX Z M
  cases p<;>try(exact h.elim)
  rename_i b off
  cases off with
  |succ off=>exact h.elim
  |zero=>
   obtain⟨q,hq,h⟩:=ah h;obtain⟨a6,cp⟩:=R.bX ca hq
   cases q<;>try(exact h.elim)
   rename_i k ps
   match k,a6,h with
   |0,a6,h=>
    obtain⟨y,hy,⟨h4,c7,a5⟩,hK⟩:=ah h;obtain⟨p,rfl⟩:=List.length_eq_one_iff.1 a5
    have al:a.eval v=.agg #[.pointer (some ⟨β p.1,p.2,none⟩)]:=a6
    have cx:a.eval x=.pointer (some ⟨β b,0,none⟩):=L
    obtain⟨h1,h2,⟨ad,el,hh,c2,am,c6,ct⟩,c5⟩:=R.boxes b y hy
    have ag:1<=ad.size:=by have:=c2.1;simp at this;omega
    have a3:=run_storeCells_at (P:=P) (β b) 0 el [.pointer (some ⟨β p.1,p.2,none⟩)] 0 ad w hh (by simp;omega) (by simp[Value.oneCell'])
    simp only[se]at a3;generalize ae:(ad.toList.take 0++[Value.pointer (some ⟨β p.1,p.2,none⟩)]++ad.toList.drop (0+[Value.pointer (some ⟨β p.1,p.2,none⟩)].length)).toArray=cur' at a3
    have ce:cur'.toList.take 1=[.pointer (some ⟨β p.1,p.2,none⟩)]:=by rw[<-ae];simp
    have b2:cur'[0]? =some (.pointer (some ⟨β p.1,p.2,none⟩)):=by rw[<-ae];simp
    have O:(Instr.storeAt t (a.eval x) (a.eval v)).run P w=.ok () (w.setRow (β b) cur'):=by
     simp[cx,al,Value.cells,Instr.storeAt,Instr.sureAddr,storeVar,eV (w:=w) hs.2,a3]
    have R1:=R.Vm (y:=⟨[.ref []],[]⟩) hy hh (cur':=cur') (by
     show jR w π [.ref []] (cur'.toList.take 1)
     rw[ce]
     exact⟨adI,λi c u D hu=>by
      cases i with
      |zero=>simp at D hu;subst D hu;exact .ref [] _ _ (λ_=>undef) adI adI adI adI
      |succ i=>simp at D⟩) (by simp[AV.scalar]) (λo q hq=>by cases hq)
    have c1:cj b (o7 b ⟨[.ref []],[]⟩ s.boxes)=some ⟨[.ref []],[]⟩:=by rw[jz];simp[hy]
    obtain⟨π',R2⟩:=R1.ZQ (b:=b) c1 h4 (p:=p) (cp p adI) (by
     rw[GT (w.setRow (β b) cur') (β b) 0 cur' el (0,0) (setRow_heap w _ ad _ el _ hh)]
     exact b2)
    unfold Oper.wp
    have:(execOp a.eval ⟨dst,.store t x v,V,pos,after,guard⟩).run P w=.ok .skip (w.setRow (β b) cur'):=by simp only[execOp,ia,O,ge,kx]
    rw[this];simp only[Ju]at R2;exact hn .undef _ undef _ β τ π' hK rfl trivial (R2.sub aa)
   |k+1,_,h=>exact h.elim
 case call cl=>
  obtain⟨callee,args,argTypes⟩:=cl;split at D
  ·rename_i t x an hT hX
   simp only at an;subst an
   split at D<;>try(cases D;done)
   rename_i e ht
   split at D<;>try(cases D;done)
   simp only[eg]at D;obtain⟨x',Z,rfl⟩:=D;simp only[dF]at h;obtain⟨p,M,h⟩:=ah h;obtain⟨L,hU⟩:=R.bX Z M
   cases p<;>try(exact h.elim)
   rename_i k ps
   match k,L,h with
   |1,L,h=>
    obtain⟨B,off,cap,h1,h2,h3⟩:=L;simp only[kw]at h1
    have eT:argTypes=#[t]:=md.1 (by simpa using hT)
    have eX:args=#[x]:=md.1 (by simpa using hX)
    subst eT eX
    refine fin (v:=.dat (.int .i64 ps.length) none) (y:=.int .i64 ps.length) ?_ ⟨.int _ _,λt ht=>by cases ht⟩ trivial h
    simp[execOp,resolve,invoke,builtin,Builtin.len_,ix ht,goInt,h1]
   |0,_,h=>exact h.elim
   |k+2,_,h=>exact h.elim
  ·unfold Vg at D
   split at D<;>try(cases D;done)
   rename_i g hg;simp only at hg;subst hg
   split at D<;>try(cases D;done)
   simp only[eg]at D;obtain⟨xs,ak,rfl⟩:=D;simp only[dF]at h;obtain⟨av,a2,h⟩:=ah h
   have bj:=R.aL (X:=.tmp g) rfl a2
   cases av<;>try(exact h.elim)
   rename_i fn first caps
   cases fn<;>try(exact h.elim)
   rename_i f
   cases first<;>try(exact h.elim)
   cases caps<;>try(exact h.elim)
   obtain⟨⟨cv,ids⟩,ba,bw,h⟩:=ah h;obtain⟨css,am,j,o,b,M,hj,hK⟩:=ah h
   have M:Vl P f css cv j o:=M
   obtain⟨b6,_,M⟩:=M
   have au:=fc bw
   have bm:=(R.ej (by simpa[gU]using ak) ba).1
   have e1:(args.toList.map a.eval).toArray=args.map a.eval:=md.1 adI
   have L:(execOp a.eval ⟨dst,.call ⟨.value (.tmp g),args,argTypes⟩,V,pos,after,guard⟩).run P w=.ok (.enter f (args.toList.map a.eval).toArray) w:=by
    generalize he:a.eval (.tmp g)=u at bj
    cases bj with
    |fn _ _ vs _ us h1 h2 h3 h4=>
     have e2:vs=#[]:=ST.1 (by simpa using h1.symm)
     have e3:us=#[]:=ST.1 (by simpa using h2.symm)
     subst e2 e3;rw[e1];simp[execOp,resolve,he,Deferred.ofValue,invoke,gA b6]
   unfold Oper.wp;rw[L,Do];refine(M w π (ids.map β) (args.toList.map a.eval) R.eZ (R.nodup au am) (R.qO am) bm).mono ?_
   rintro e w' ⟨B,π',hB,rfl,bs,a5,cb,cr,b3⟩
   obtain⟨τ',_,R'⟩:=R.yf (fr:=none) co au am rfl bs a5 cb cr b3 DV.gJ (λt ht=>by cases ht)
   have c0:B=β b:=by
    rw[ka,hj]at hB
    simpa using hB.symm
   obtain⟨t,_,v,hl,hv⟩:=jl ba b (er hj)
   refine hn (.ptr b o) _ _ _ _ _ _ hK (show _=_ by rw[c0]) (.inl (SV.Gf hv (R.slots t _ hl).2)) R'
theorem Th(R:Rel P nt n0 w0 π0 U s a w β τ π) {c:IY} (L:¬U id) (M:xOp P o.type o.op=some c) (h:dF (Pure P) id c K X s) (V:∀v D x w' β' τ' π',K v D->RV β' τ' w' π' v x->v.iA (fQ U id)->Rel P nt n0 w0 π0 (fQ U id) D a w' β' τ' π'->next (a.put o.dst x) w') (Z:∀p D w' β' τ' π',X p D->Rel P nt n0 w0 π0 (fQ U id) D a w' β' τ' π'->Q (.panic (iB p)) a w'):o.wp P a w next Q:=by
 unfold xOp at M;split at M
 ·rename_i x O
  cases M;exact Tg R L O h V
 ·exact Pw R L M h V Z
def MP(C:aT) (id:Nat) (o:XO) (K:S->Prop) (X:AV->S->Prop) (s:S):Prop:=gq s o.g (dF C id o.op (λv D=>K (D.put o.dst v)) X s) (K (s.put o.dst .undef))
theorem Px{base i:Nat} {o:XO} {r:List XO} {K:S->Prop} {s:S}:ji C base i (o::r) K X s=MP C (base+i) o (ji C base (i+1) r K X) X s:=rfl
theorem Ti{c:XO} (D:we P ops o=some c):c.dst=o.dst:=by
 unfold we at D;split at D
 ·split at D<;>try(cases D;done)
  cases D;rfl
 ·simp only[eg]at D
  obtain⟨M,L,rfl⟩:=D;exact Df L
theorem MQ(R:Rel P nt n0 w0 π0 U s a w β τ π) {c:XO} (V:¬U id) (M:we P ops o=some c) (D:∀d,c.dst=some d->d<nt) {K:S->Prop} (h:MP (Pure P) id c K X s) (hn:∀L x w' β' τ' π',K L->Rel P nt n0 w0 π0 (fQ U id) L (a.put o.dst x) w' β' τ' π'->next (a.put o.dst x) w') (hx:∀p L w' β' τ' π',X p L->Rel P nt n0 w0 π0 (fQ U id) L a w' β' τ' π'->Q (.panic (iB p)) a w'):
  if Region.wanted o (yielded ops a.tmps)then o.wp P a w next Q else next (a.put o.dst undef) w:=by
 unfold we at M;split at M;rotate_left
 ·simp only[eg]at M
  obtain⟨c0,h0,rfl⟩:=M;exact Gl R V h0 D h hn
 rename_i ab ag
 split at M<;>try(cases M;done)
 rename_i g hg;cases M;simp only at D
 have run:dF (Pure P) id ab (λv L=>K (L.put o.dst v)) X s->o.wp P a w next Q:=λh=>
  Th R V ag h (λv L x w' β' τ' π' hK hv hu R'=>hn _ _ _ _ _ _ hK (R'.put o.dst D hv hu)) hx
 have skip:K (s.put o.dst .undef)->next (a.put o.dst undef) w:=λh=>
  hn _ _ _ _ _ _ h ((R.sub λn h=>.inl h).put o.dst D rfl trivial)
 unfold MP gq at h
 rcases Ef hg with⟨h1,h2⟩|⟨j,want,t,h1,h2,h3⟩
 ·subst h2
  simp only at h;simp only[Region.wanted,h1,kw];exact run h
 ·subst h3
  simp only at h
  cases hl:lk t s.slots with
  |none=>simp[hl]at h
  |some v=>
   obtain⟨⟨x,aa,Z⟩,ak⟩:=R.slots t v hl;simp only[hl]at h
   have hy:∀b,x=.bool b->yielded ops a.tmps j=some b:=λb hb=>by
    unfold yielded;rw[h2];simp[aa,hb]
   cases v with
   |ptr b o=>exact h.elim
   |rp cs=>exact h.elim
   |vs _ _ _ _=>exact h.elim
   |nX _ _ _=>exact h.elim
   |raw _ _=>exact h.elim
   |pt _ _=>exact h.elim
   |undef=>
    have ac:x=undef:=Z
    have ad:yielded ops a.tmps j=none:=by
     unfold yielded;rw[h2];simp[aa,ac,undef]
    simp only[Region.wanted,h1,ad];exact skip h
   |dat av q=>
    cases av<;>try(exact h.elim)
    rename_i b
    have ae:x=.bool b:=Z.1.wq
    simp only[Region.wanted,h1,hy b ae]
    by_cases hb:b=want
    ·subst hb;simp;exact run (h.1 rfl)
    ·have O:b=!want:=by cases b<;>cases want<;>first|rfl|exact absurd rfl hb
     have:(some b==some want)=false:=by subst O;cases want<;>rfl
     rw[this];exact skip (h.2 O)
theorem MR:xOp P t (.defer c)=none:=rfl
theorem Eg(R:Rel P nt n0 w0 π0 U s a w β τ π) {c:XO} {i:Nat} (ho:ops[i]? =some o) (V:¬U id) (D:we P ops o=some c) (M:∀d,c.dst=some d->d<nt) {K:S->Prop} (h:MP (Pure P) id c K X s) (hn:∀L x w' β' τ' π',K L->Rel P nt n0 w0 π0 (fQ U id) L (a.put o.dst x) w' β' τ' π'->next (a.put o.dst x) w') (hx:∀p L w' β' τ' π',X p L->Rel P nt n0 w0 π0 (fQ U id) L a w' β' τ' π'->Q (.panic (iB p)) a w') {n:Nat}:wpOpIn (FW r) n P ops Q i next a w:=by
 have:=MQ R V D M h hn hx
 have Z:∀c,o.op≠.defer c:=by
  intro c' e;unfold we at D;rw[e,MR]at D;simp only[eg]at D;obtain⟨c0,D,_⟩:=D;unfold qJ at D;rw[e]at D;simp[Vd,zR,S4,Zc]at D
 unfold wpOpIn;simp only[ho];split
 ·rename_i O;rw[fp O]at this;exact acZ this Z
 ·rename_i O;rw[fb O]at this;exact⟨λ_ _=>trivial,this⟩
theorem wJ{ops:Array Oper}:∀{l:List Oper} {cs:List XO},wg P ops l=some cs->cs.length=l.length/\∀(i:Nat) (o:Oper) (c:XO),l[i]? =some o->cs[i]? =some c->we P ops o=some c
 |[],cs,h=>by simp[wg]at h;subst h;exact⟨rfl,λi o c h=>by simp at h⟩
 |o::l,cs,h=>by
  unfold wg at h
  split at h<;>try(cases h;done)
  rename_i c Z O V;cases h;obtain⟨e,R⟩:=wJ V
  refine⟨by simp[e],λi o' M L D=>?_⟩
  cases i with
  |zero=>simp at L D;subst L;subst D;exact O
  |succ i=>exact R i o' M (by simpa using L) (by simpa using D)
theorem rJ{n:Nat}:∀{l:List XO},pE n l=true->∀(i:Nat) (c:XO) (d:Nat),l[i]? =some c->c.dst=some d->d<n
 |[],h,i,c,d,D,hd=>by simp at D
 |o::l,h,i,c,d,D,hd=>by
  simp only[pE,ed]at h
  cases i with
  |zero=>
   simp at D;subst D
   have:=h.1
   rw[hd]at this
   simpa using this
  |succ i=>exact rJ h.2 i c d (by simpa using D) hd
theorem Jv{c:XO} {d:Nat}:∀{l:List XO},c∈l->c.dst=some d->d∈My l
 |[],h,_=>by cases h
 |o::l,h,hd=>by
  simp only[My,lr]
  rcases nm.1 h with rfl|h
  ·exact .inl (by rw[hd];simp)
  ·exact .inr (Jv h hd)
theorem wK{ops:Array Oper} {cos:List XO} {base:Nat} (i0:Nat) (ab:cos.length=ops.size) (D:∀(i:Nat) (o:Oper) (c:XO),i0<=i->ops[i]? =some o->cos[i]? =some c->we P ops o=some c) (M:∀(i:Nat) (c:XO) (d:Nat),cos[i]? =some c->c.dst=some d->d<nt)
  {T:Nat->Prop} {a0:Act} (hT:∀(i:Nat) (c:XO) (d:Nat),cos[i]? =some c->c.dst=some d->¬T d) {r:Option Nat} {m:Nat}
  {K:S->Prop} {X:AV->S->Prop} {Q:Exit->Act->World->Prop} (hQ:∀s a w β τ π U,(∀n,U n->n<base+ops.size)->K s->sF T a0 a->Rel P nt n0 w0 π0 U s a w β τ π->Q .normal a w)
  (hX:∀p s a w β τ π U,(∀n,U n->n<base+ops.size)->X p s->sF T a0 a->Rel P nt n0 w0 π0 U s a w β τ π->Q (.panic (iB p)) a w):
  ∀(rest:List XO) (i:Nat) (s:S) (a:Act) (w:World) (β:Nat->Nat) (τ:Nat->Value) (π:Nat->Nat->Prop) (U:Nat->Prop),i0<=i->cos.drop i=rest->i+rest.length=ops.size->(∀n,U n->n<base+i)->sF T a0 a->Rel P nt n0 w0 π0 U s a w β τ π->
   ji (Pure P) base i rest K X s->wpOpsIn (FW r) m P ops Q (List.range' i rest.length) a w
 |[],i,s,a,w,β,τ,π,U,O,hd,hn,Z,hp,R,h=>hQ s a w β τ π U (λn h=>by have:=Z n h;simp at hn;omega) h hp R
 |o::rest,i,s,a,w,β,τ,π,U,O,hd,hn,Z,hp,R,h=>by
  have L:cos[i]? =some o:=by
   have:(cos.drop i)[0]? =some o:=by rw[hd];rfl
   simpa using this
  have aa:i<ops.size:=by simp at hn;omega
  have V:ops[i]? =some ops[i]:=by simp[aa]
  rw[Px]at h;simp only[fi,List.range'_succ];rw[wpOpsIn_cons]
  refine Eg R V (λh=>by have:=Z _ h;omega) (D i _ o O V L) (M i o · L) h (λs' x w' β' τ' π' hK R'=>?_) (λp s' w' β' τ' π' ac R'=>hX p s' a w' β' τ' π' _ (λn h=>?_) ac hp R')
  ·refine wK i0 ab D M hT hQ hX rest (i+1) s' _ w' β' τ' π' _ ado ?_ (by simp at hn;omega) (λn h=>?_) (hp.put (λd hd=>hT i o d L (by rw[Ti (D i _ o O V L)];exact hd)) x) R' hK
   ·rw[<-List.tail_drop,hd];rfl
   ·rcases h with h|h
    ·have:=Z n h;omega
    ·omega
  ·rcases h with h|h
   ·have:=Z n h;omega
   ·omega
theorem y9{cos:List XO} (Z:wg P ops ops.toList=some cos) (V:pE nt cos=true) (R:Rel P nt n0 w0 π0 U s a w β τ π) (hU:∀n,U n->n<s.nx) {K:S->Prop} (h:ji (Pure P) s.nx 0 cos K X s) (hT:∀d,d∈My cos->¬T d) (hQ:∀O a' w β τ π U,(∀n,U n->n<s.nx+cos.length)->K O->sF T a a'->Rel P nt n0 w0 π0 U O a' w β τ π->Q .normal a' w) (hX:∀p O a' w β τ π U,(∀n,U n->n<s.nx+cos.length)->X p O->sF T a a'->Rel P nt n0 w0 π0 U O a' w β τ π->Q (.panic (iB p)) a' w):(Code.region id ops false).wpIn (FW r) m P Q a w:=by
 obtain⟨M,L⟩:=wJ Z
 have D:cos.length=ops.size:=by simpa using M
 rw[D]at hQ hX;refine wpIn_region ?_
 have:=wK (r:=r) (m:=m) 0 D (λi o c _ h1 h2=>L i o c (by simpa using h1) h2) (rJ V) (λi c d hi hd=>hT d (Jv (er hi) hd)) hQ hX cos 0 s a w β τ π U (ik _) rfl (by simpa using D) (by simpa using hU) (.refl _ _) R h
 rw[D]at this;rw[List.range_eq_range'];exact this
theorem Py{o:bU} (M:o.quiet=true) {s:S} (h:bF C id o K s):∃v,K v s:=by
 cases o<;>(try(cases M;done))<;>simp only[bF]at h
 ·obtain⟨v,_,h⟩:=ah h;exact⟨v,h⟩
 ·obtain⟨p,D,h⟩:=ah h
  cases p<;>try(exact h.elim)
  ·obtain⟨_,_,h⟩:=ah h;obtain⟨_,_,h⟩:=ah h;exact⟨_,h⟩
  ·obtain⟨_,_,h⟩:=ah h;exact⟨_,h⟩
 ·obtain⟨p,D,h⟩:=ah h
  cases p<;>try(exact h.elim)
  ·exact⟨_,h⟩
  ·exact⟨_,h⟩
  ·rename_i k ps
   match k,h with
   |2,h=>exact⟨_,h⟩
   |0,h=>exact h.elim
   |1,h=>exact h.elim
   |k+3,h=>exact h.elim
 ·obtain⟨_,_,h⟩:=ah h
  obtain⟨_,_,h⟩:=ah h;obtain⟨_,_,h⟩:=ah h;obtain⟨_,_,_,_,h⟩:=ah h;exact⟨_,h⟩
 ·rename_i x L
  obtain⟨p,D,h⟩:=ah h
  cases p<;>try(exact h.elim)
  rename_i k ps
  match k,L,ps,h with
  |2,none,(b,o)::ps,h=>exact⟨_,h⟩
  |2,none,[],h=>exact h.elim
  |2,some n,[],h=>exact⟨_,h.2⟩
  |2,some n,_::_,h=>exact⟨_,h.2⟩
  |0,_,_,h=>exact h.elim
  |1,_,_,h=>exact h.elim
  |k+3,_,_,h=>exact h.elim
theorem Gs{k:Nat} {D:List Nat}:∀{l:List CO} {i j:Nat},(qB k D i l)[j]? =(l[j]?).map (CZ k D (i+j))
 |[],i,j=>by simp[qB]
 |o::l,i,0=>by simp[qB]
 |o::l,i,j+1=>by
  simp only[qB,kp];rw[Gs,IH,Nat.add_comm 1 j]
theorem MS{k:Nat} {D:List Nat}:∀{l:List CO} {i:Nat},(qB k D i l).length=l.length
 |[],i=>rfl
 |o::l,i=>by simp[qB,MS]
theorem wL{k:Nat} {M:List Nat} {d:Nat}:∀{l:List CO} {i:Nat},F5 k M d i l=true->∀(j:Nat) (o:CO),l[j]? =some o->
  (i+j=k->∃f args,o=⟨some d,.ew f args,none⟩)/\(i+j≠k->M.contains (i+j)=true\/(o.op.quiet=true/\o.g=none/\∃t,o.dst=some t/\t≠d))
 |[],i,h,j,o,L=>by simp at L
 |a::l,i,h,j,o,L=>by
  simp only[F5,ed]at h
  cases j with
  |zero=>
   simp at L;subst L;rw[se]
   refine⟨λe=>?_,λe=>?_⟩
   ·have D:=h.1
    rw[fp e]at D;obtain⟨dst,op,g⟩:=a
    cases op<;>try(cases D;done)
    simp only[ed,Option.isNone_iff_eq_none,l4]at D;obtain⟨rfl,rfl⟩:=D;exact⟨_,_,rfl⟩
   ·have D:=h.1
    rw[fb e]at D;simp only[na,ed,Option.isNone_iff_eq_none,bne_iff_ne,ne_eq]at D
    rcases D with D|⟨⟨⟨D,V⟩,R⟩,h4⟩
    ·exact .inl D
    ·obtain⟨t,O⟩:=adc.1 R
     exact .inr ⟨D,V,t,O,λe=>h4 (by rw[O,e])⟩
  |succ j=>
   have:=wL h.2 j o (by simpa using L)
   rw[show i+(j+1)=i+1+j by omega]
   exact this
theorem Gt{k:Nat} {D:List Nat}:∀{l:List Oper} {i:Nat},Jj k D i l=true->∀(j:Nat) (o:Oper),l[j]? =some o->D.contains (i+j)=true->∃e∈o.after,Region.binds .any e=true/\(e.on=k\/(D.contains e.on=true/\e.on<i+j))
 |[],i,h,j,o,L,_=>by simp at L
 |a::l,i,h,j,o,L,hd=>by
  simp only[Jj,ed]at h
  cases j with
  |zero=>
   simp at L;subst L;rw[se]at hd⊢
   have M:=h.1
   rw[hd]at M;simp only[po,w5,acT]at M;obtain⟨e,R,O⟩:=M;simp only[ed,na,l4,ii]at O;exact⟨e,R,O.1,O.2⟩
  |succ j=>
   rw[show i+(j+1)=i+1+j by omega]at hd⊢
   exact Gt h.2 j o (by simpa using L) hd
theorem VB{D:List Nat} (hd:Jj k D 0 ops.toList=true) (hc:wF ops l):∀(i:Nat),D.contains i=true->(l.getD i false=true\/i∈Region.ready .any ops l)->i<ops.size->l.getD k false=true:=by
 intro i
 induction i using Nat.strongRecOn with
 |_ i ih=>
  intro R hr hi
  obtain⟨o,O⟩:∃o,ops[i]? =some o:=⟨ops[i],by simp[hi]⟩
  obtain⟨e,he,hb,V⟩:=Gt hd i o (by simpa using O) (by simpa using R)
  have Z:l.getD e.on false=true:=by
   rcases hr with h|h
   ·exact hc i o O h e he hb
   ·obtain⟨_,o',L,M⟩:=H5.1 h
    rw[O]at L;cases L;exact M e he hb
  rcases V with e1|⟨h1,h2⟩
  ·rw[<-e1];exact Z
  ·rw[lc]at h2
   exact ih e.on h2 h1 (.inl Z) ado
theorem MT(R:kH dG ops.toList cos=true) (Z:cos.length=ops.size) (hl:l.size=ops.size):∀(k:Nat),k<ops.size->l.getD k false=false->Region.ready .any ops l≠[]:=by
 intro k
 induction k using Nat.strongRecOn with
 |_ k ih=>
  intro hk M V
  by_cases D:∀j,j<k->l.getD j false=true
  ·have:k∈Region.ready .any ops l:=by
    refine H5.2 ⟨Q0 ado M,ops[k],by simp[hk],λe he hb=>?_⟩
    have:=(m9 R k ops[k] (cos[k]' ado) (by simp[hk]) adI).1 e he hb
    exact D e.on (by simpa using this)
   rw[V]at this;cases this
  ·obtain⟨j,L⟩:=Classical.not_forall.1 D
   obtain⟨L,O⟩:=Classical.not_imp.1 L
   exact ih j L ado (by simpa using O) V
theorem Bi{wr:List Nat} {t:Nat}:∀{l:List (Nat×SV)} {v:SV},lk t (qC wr l)=some v->¬t∈wr/\lk t l=some v
 |[],v,h=>by cases h
 |(m,u)::r,v,h=>by
  simp only[qC]at h
  cases D:wr.contains m with
  |true=>
   rw[D]at h
   obtain⟨M,O⟩:=Bi (l:=r) h
   refine⟨M,?_⟩
   have L:¬t=m:=λe=>M (by subst e;simpa using D)
   simp only[lk,lA,L,il];exact O
  |false=>
   rw[D]at h;simp only[et,lk,lA]at h⊢
   by_cases e:t=m
   ·rw[fp e]at h⊢
    exact⟨λhm=>by subst e;simp at D;exact D hm,h⟩
   ·rw[fb e]at h⊢
    exact Bi (l:=r) h
theorem oR{wr:List Nat} {t:Nat} (h:¬t∈wr):∀{l:List (Nat×SV)},lk t (qC wr l)=lk t l
 |[]=>rfl
 |(m,u)::r=>by
  simp only[qC]
  cases L:wr.contains m with
  |true=>
   have D:¬t=m:=λe=>h (by subst e;simpa using L)
   simp only[gs,lk,lA,D,il];exact oR h
  |false=>
   simp only[et,lk,lA];rw[oR h]
theorem Rel.ZR(R:Rel P nt n0 w0 π0 U s a w β τ π) {l:List (Nat×SV)} (h:∀t v,lk t l=some v->lk t s.slots=some v):Rel P nt n0 w0 π0 U {s with slots:=l} a w β τ π:=
 ⟨R.size,λt v D=>R.slots t v (h t v D),R.boxes,R.inj,R.live,R.dr,R.dw,R.below,R.gG,R.eZ,R.eU,R.dz,R.mJ,R.jH,R.kept⟩
theorem Jw(n k:Nat):(Array.replicate n false).getD k false=false:=by
 rw[xn,Array.getElem?_replicate];split<;>rfl
theorem KN{ops:List Oper} {op:Op}:zR P ops op≠some (.ew f as):=by
 intro h;unfold zR at h
 (repeat' split at h)<;>cases h
theorem Tj{op:Op} (h:Zc P op=some (.ew f as)):∃c,op=.call c/\c.callee=.value (.func f)/\bZ P f=true/\gU c.args=some as/\tY P c.argTypes.toList=true:=by
 cases op<;>simp only[Zc]at h
 case call c=>
  refine⟨c,rfl,?_⟩;unfold y7 at h;split at h
  ·rename_i g V
   split at h
   ·rename_i L
    simp only[eg]at h;obtain⟨xs,M,R⟩:=h
    split at R<;>cases R
    rename_i O;exact⟨V,L,M,O⟩
   ·split at h<;>simp at h
  all_goals(exfalso;(repeat' split at h)<;>simp at h)
 case convert s d x=>
  simp only[jp]at h;obtain⟨y,_,h⟩:=h;unfold Mx at h
  (repeat' split at h)<;>cases h
 all_goals(exfalso;revert h;(repeat' split)<;>(try simp[cEq])<;>(repeat' split)<;>(try simp)<;>(rename_i D;cases D))
theorem Eh(h:qJ P ops o=some ⟨d,.ew f as,g⟩):∃c,o.op=.call c/\c.callee=.value (.func f)/\bZ P f=true/\gU c.args=some as/\tY P c.argTypes.toList=true:=by
 unfold qJ at h;split at h
 ·rename_i cc M D L
  cases h;unfold Vd at D;split at D
  ·rename_i e;cases D;exact absurd e KN
  ·split at D
   ·rename_i e
    cases D;exfalso;unfold S4 at e
    (repeat' split at e)<;>cases e
   ·exact Tj D
 ·cases h
theorem MU(h:qJ P ops o=some ⟨d,.ew f as,g⟩):we P ops o=some ⟨d,.ew f as,g⟩:=by
 obtain⟨c,R,L,O,V,D⟩:=Eh h;unfold qJ at h;split at h
 ·rename_i cc gg Z M
  cases h
  have e:xOp P o.type o.op=some (.ew f as):=by
   rw[R];simp[xOp,xPt,Vg,L,Zr,adY,y7,Vf,O,V,D]
  unfold we;rw[e,M]
 ·cases h
theorem getD_set_ne{i j:Nat} {c:Bool} (h:i≠j):(l.setIfInBounds i b).getD j c=l.getD j c:=by
 simp only[xn,H1 h]
theorem Q7{C:aT} {base:Nat} {ops:Array Oper} {cos:List CO} {K:S->Prop} {ds:List Nat} {d:Nat} (V:Nat->Prop)
  (hq:∀i o,¬V i->cos[i]? =some o->(o.op.quiet=true/\o.g=none/\(o.dst=none\/∃t,o.dst=some t/\t≠d/\t∈ds))):
  ∀(f:Nat) (l:Array Bool) (s:S),(∀i,V i->l.getD i true=true)->KJ C base ops cos K f l s->∃sl,K {s with slots:=sl}/\lk d sl=lk d s.slots/\qC ds sl=qC ds s.slots
 |0,l,s,hP,h=>⟨s.slots,h.2,rfl,rfl⟩
 |f+1,l,s,hP,h=>by
  cases hr:Region.ready .any ops l with
  |nil=>exact⟨s.slots,h.1 hr,rfl,rfl⟩
  |cons i r=>
   have hi:i∈Region.ready .any ops l:=by rw[hr];exact nb
   obtain⟨o,ho,D⟩:=h.2 i hi
   have aa:=(H5.1 hi).1
   have M:¬V i:=λhp=>by have:=hP i hp;rw[aa]at this;cases this
   obtain⟨ac,hg,O⟩:=hq i o M ho;unfold kR gq at D;rw[hg]at D;obtain⟨v,D⟩:=Py ac D
   obtain⟨sl,Z,h2,h3⟩:=Q7 V hq f _ _ (λj hj=>by
    have:=hP j hj
    by_cases L:i=j
    ·subst L;exact absurd hj M
    ·rw[getD_set_ne L];exact this) D
   rcases O with e|⟨t,e,ab,R⟩
   ·rw[e]at Z h2 h3;exact⟨sl,Z,h2,h3⟩
   ·rw[e]at Z h2 h3
    refine⟨sl,Z,?_,?_⟩
    ·rw[h2,t6,fb (by intro e;cases e;exact ab rfl)]
    ·rw[h3]
     show qC ds ((t,v)::s.slots)=_
     have:ds.contains t=true:=by simpa using R
     simp only[qC,this,gs]
theorem zb(hm:P.follows .mixedOrders=true) {D:List Nat} {d:Nat} (hc:zS P ops ops.toList=some cos) (ar:kH dG ops.toList (qB k D 0 cos)=true) (bm:Jj k D 0 ops.toList=true) (ag:F5 k D d 0 cos=true) (hk:k<ops.size) (bi:iz nt cos=true) (R:Rel P nt n0 w0 π0 U s a w β τ π) (hU:∀n,U n->n<s.nx) (h:adV (Pure P) cos dG k D (cos.flatMap λo=>o.dst.toList) X s) (hT:∀t,t∈dstsOf cos->¬T t) (hX:∀p s' a' w β τ π U,(∀n,U n->n<s.nx+cos.length)->X p s'->sF T a a'->Rel P nt n0 w0 π0 U s' a' w β τ π->Q (.panic (iB p)) a' w):(Code.region id ops true).wpIn (FW r) m P Q a w:=by
 obtain⟨an,h⟩:=h;simp only[qI,Zq,ed]at an;obtain⟨⟨b6,b2⟩,bj⟩:=an;obtain⟨a5,a4⟩:=wI hc
 have ae:cos.length=ops.size:=by simpa using a5
 have L:(qB k D 0 cos).length=ops.size:=by rw[MS];exact ae
 rw[ae]at hX
 have ad:=t9 bi
 have b0:∀(i:Nat) (c:CO) (d:Nat),cos[i]? =some c->c.dst=some d->¬T d:=λi c d O hd=>hT d (Aa (er O) hd)
 obtain⟨ck,V⟩:∃c,cos[k]? =some c:=⟨cos[k]' ado,adI⟩
 obtain⟨fk,ak,b3⟩:=(wL ag k ck V).1 adI
 subst b3
 have bo:∀j ok,(qB k D 0 cos)[j]? =some ok->tW (Va (zQ s.slots) s.nx 0 (qB k D 0 cos)) (s.nx+j) ok=true:=λj ok hj=>by have:=t8 b2 j ok hj;rwa[lc]at this
 refine wpIn_region_any hm ?_
 have R':Rel P nt n0 w0 π0 (UL s.nx (Array.replicate ops.size false)) s a w.drew β τ π:=R.draw.sub λn hn=>.inl (hU n hn)
 have cb:∀(base':Nat) (r:List CO) (i:Nat) (s:S) {K K':S->Prop},(∀s,K s->K' s)->jM (Pure P) base' i r K s->jM (Pure P) base' i r K' s:=by
  intro base' r
  induction r with
  |nil=>intro i s K K' hk h;exact hk s h
  |cons o r ih=>
   intro i s K K' hk h;rw[sC]at h⊢;obtain⟨v,d,hd,ca,_⟩:=gL h;exact hd.2 s .refl _ (ih _ _ hk ca)
 -- the end,whatever stands for the same state
 obtain⟨ds,a8⟩:∃ds,ds=cos.flatMap λo=>o.dst.toList:=⟨_,rfl⟩
 rw[<-a8]at h
 have h2:=cb s.nx _ 0 s (K':=λs2=>∃s1,vR s1 s2/\∃d p,(cos[k]?).bind CO.dst=some d/\lk d s1.slots=some (.dat p none)/\X p (yV ds s1)) (λs h=>⟨s,.refl,h⟩) h
 have h3:=wH bo bj (λs s2 he ⟨s1,h1,hk⟩=>⟨s1,h1.trans he,hk⟩) L ar (qB k D 0 cos) 0 (Array.replicate ops.size false) s rfl (by simpa using L) adI (λj hj=>by simp[hj]) R'.iA (λt b ⟨v,M,hb⟩=>oK b6 t b v M hb) h2
 rw[L]at h3
 have small:∀l:Array Bool,l.size=ops.size->∀n,UL s.nx l n->n<s.nx+ops.size:=by
  rintro l M n (h|⟨i,O,h⟩)
  ·omega
  ·have:i<l.size:=by
    rcases ma i l.size with h'|h'
    ·exact h'
    ·simp[In h']at h
   omega
 have ao:∀(i:Nat) (c:CO) (t:Nat),cos[i]? =some c->c.dst=some t->t∈ds:=λi c t O ht=>by
  rw[a8];exact abJ.2 ⟨c,er O,by simp[ht]⟩
 have key:∀(f:Nat) (l:Array Bool) (s1:S) (a1:Act) (w1:World) (β:Nat->Nat) (τ:Nat->Value) (π:Nat->Nat->Prop),l.size=ops.size->wF ops l->l.getD k false=false->sF T a a1->Rel P nt n0 w0 π0 (UL s.nx l) s1 a1 w1 β τ π->
   KJ (Pure P) s.nx ops (qB k D 0 cos) (λs2=>∃s1,vR s1 s2/\∃d p,(cos[k]?).bind CO.dst=some d/\lk d s1.slots=some (.dat p none)/\X p (yV ds s1)) f l s1->wpAnyIn (FW r) m P .any ops Q f l a1 w1:=by
  intro f
  induction f with
  |zero=>intro l s1 a1 w1 β τ π M _ ab _ _ h;exact absurd h.1 (MT ar L M k hk ab)
  |succ f ih=>
   intro l s1 a1 w1 β τ π M ba ab hp R1 h
   refine⟨λh0=>absurd h0 (MT ar L M k hk ab),λi O=>?_⟩
   obtain⟨o,ho,hs⟩:=h.2 i O;obtain⟨a7,pi,au,_⟩:=H5.1 O
   have b7:=nw O
   rw[Gs,lc]at ho;obtain⟨o0,Z,rfl⟩:=eg.1 ho
   have am:=a4 i pi o0 (by simpa using au) Z
   by_cases a3:i=k
   ·subst a3
    rw[V]at Z;cases Z
    have a2:CZ i D i ⟨some d,.ew fk ak,none⟩=⟨some d,.vX fk ak,none⟩:=by rw[CZ,fp rfl]
    rw[a2]at hs;unfold kR gq at hs;simp only[bF]at hs;obtain⟨pp,b4,bs,hs⟩:=ah hs;obtain⟨css,bl,v,ac,hq,hs⟩:=ah hs
    -- the end of what is known
    obtain⟨sl,⟨s3,he,d',p',bd,ce,b1⟩,h2,h3⟩:=Q7 (ds:=ds) (d:=d) (λj=>j=i) (λj o hj be=>by
     rw[Gs,lc]at be;obtain⟨o1,a6,rfl⟩:=eg.1 be
     have al:¬j=i:=hj
     rcases(wL ag j o1 a6).2 (by simpa using al)with aa|⟨q1,q2,t,q3,q4⟩
     ·have:CZ i D j o1=⟨none,.mv (.k .tQ),none⟩:=by
       rw[lc]at aa;rw[CZ,fb al,fp aa]
      rw[this];exact⟨rfl,rfl,.inl rfl⟩
     ·by_cases aa:D.contains j=true
      ·have:CZ i D j o1=⟨none,.mv (.k .tQ),none⟩:=by rw[CZ,fb al,fp aa]
       rw[this];exact⟨rfl,rfl,.inl rfl⟩
      ·have:CZ i D j o1=o1:=by rw[CZ,fb al,fb aa]
       rw[this];exact⟨q1,q2,.inr ⟨t,q3,q4,ao j o1 t a6 q3⟩⟩) f _ _ (λj hj=>by subst hj;simp[b7]) hs
    rw[V]at bd;cases bd
    have b8:p'=v:=by
     have h4:lk d s3.slots=lk d sl:=(he.slots d).symm
     rw[ce,h2]at h4;simp[S.put,lk]at h4;exact h4
    subst b8
    -- the call
    obtain⟨c,cr,ch,cp,co,ci⟩:=Eh am
    have bw:=MU am
    refine Eg R1 au (Gh a7) bw (λd hd=>ad i ⟨_,_,_⟩ d V hd) (K:=λ_=>False) (X:=λp s'=>p=p'/\s'={s1 with boxes:=dR pp.2 ac s1.boxes}) ?_ (λ_ _ _ _ _ _ h=>h.elim) (λp s' w' β' τ' π' hx R2=>?_)
    ·unfold MP gq
     simp only[dF,b4,bl,ay];exact .inr ⟨bs,.inl ⟨_,ac,hq,rfl,rfl⟩⟩
    ·obtain⟨rfl,rfl⟩:=hx
     have R3:=(R2.ZR (l:=qC ds s1.slots) (λt v h=>(Bi h).2)).seq (s2:=yV ds s3) ⟨λt=>?_,λb=>?_,λq=>?_⟩
     ·exact hX _ _ _ _ _ _ _ _ (λn hn=>hn.elim (small l M n) (λe=>by subst e;omega)) b1 hp R3
     ·show lk t (qC ds s3.slots)=lk t (qC ds s1.slots)
      by_cases ht:t∈ds
      ·have none:∀l:List (Nat×SV),lk t (qC ds l)=none:=λl=>by
        cases M:lk t (qC ds l)with
        |none=>rfl
        |some v=>exact absurd ht (Bi M).1
       rw[none,none]
      ·have h5:=sd (lk t) h3
       rw[oR ht,oR ht]at h5;rw[oR ht,oR ht];refine(he.slots t).symm.trans (h5.trans ?_)
       have b5:d≠t:=λe=>ht (e▸ao i _ d V rfl)
       exact(t6 (s:={s1 with boxes:=dR pp.2 ac s1.boxes})).trans (fb (by intro e;cases e;exact b5 rfl))
     ·exact(he.boxes b).symm
     ·exact(he.live q).symm
   ·by_cases a9:D.contains i=true
    ·have:=VB bm ba i a9 (.inr O) ado
     rw[ab]at this;cases this
    ·have a2:CZ k D i o0=o0:=by rw[CZ,fb a3,fb a9]
     rw[a2]at hs
     refine z0 R1 au (Gh a7) ⟨o0,am,.inl rfl⟩ (ad i o0 · Z) hs λs' x w' β' τ' π' hK R2=>?_
     exact ih _ s' _ w' β' τ' π' (by simp[M]) (ba.set O) (by rw[getD_set_ne a3];exact ab) (hp.put (λd hd=>b0 i o0 d Z (by rw[Df am];exact hd)) x) (R2.sub λn hn=>KK (nw O) hn) hK
 exact key ops.size _ s a _ β τ π adI (λk ok hk M=>by rw[Jw]at M;cases M) (Jw _ _) (.refl _ _) R' h3
end
end
end Go.Eng
