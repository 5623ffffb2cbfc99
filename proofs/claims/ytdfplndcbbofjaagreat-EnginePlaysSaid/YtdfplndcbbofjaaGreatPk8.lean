/- Part 8 of the engine and its library. -/
import Derived.Test.YtdfplndcbbofjaaGreatPk7
set_option linter.all false
set_option maxRecDepth 10000
set_option maxHeartbeats 4000000
namespace Go.Eng
open Go
open Go.RowKit (Below)
theorem P2:∀{l:List (Nat×SV)} {t:Nat} {v:SV},lk t l=some v->(t,v)∈l
 |[],t,v,h=>by cases h
 |(m,u)::r,t,v,h=>by
  simp only[lk,ki]at h;split at h
  ·rename_i e;cases h;subst e;exact lr ..
  ·exact kp _ (P2 h)
theorem zj:∀{l:List (Nat×dH)} {t:Nat} {v:dH},dh t l=some v->(t,v)∈l
 |[],t,v,h=>by cases h
 |(m,u)::r,t,v,h=>by
  simp only[dh,ki]at h;split at h
  ·rename_i e;cases h;subst e;exact lr ..
  ·exact kp _ (zj h)
theorem rM:∀{l:List (Nat×Nat)} {t:Nat} {v:Nat},fq t l=some v->(t,v)∈l
 |[],t,v,h=>by cases h
 |(m,u)::r,t,v,h=>by
  simp only[fq,ki]at h;split at h
  ·rename_i e;cases h;subst e;exact lr ..
  ·exact kp _ (rM h)
theorem Ce{m:List (Nat×Nat)} {nx:Nat} {a:List (Nat×SV)}:∀{l:List (Nat×SV)},ig m nx a l->∀t v,(t,v)∈l->∃u,lk t a=some u/\DE m nx u v
 |[],h,t,v,hm=>by cases hm
 |(B,A)::r,h,t,v,hm=>by
  rcases mp.1 hm with e|e
  ·cases e;exact ah h.1
  ·exact Ce h.2 t v e
theorem ye{m:List (Nat×Nat)} {nx:Nat} {a:List (Nat×Nat)}:∀{l:List (Nat×Nat)},mI m nx a l->∀o q,(o,q)∈l->fq o a=some (IE m q)/\q<nx
 |[],h,t,v,hm=>by cases hm
 |(B,A)::r,h,t,v,hm=>by
  rcases mp.1 hm with e|e
  ·cases e;exact h.1
  ·exact ye h.2 t v e
theorem lZ{m:List (Nat×Nat)} {nx:Nat} {a:List (Nat×dH)}:∀{l:List (Nat×dH)},i6 m nx a l->∀b x,(b,x)∈l->∃y,dh b a=some y/\y.cells=x.cells/\mI m nx y.tags x.tags/\b<nx
 |[],h,t,v,hm=>by cases hm
 |(E,D)::r,h,t,v,hm=>by
  rcases mp.1 hm with e|e
  ·cases e;obtain⟨y,A,B⟩:=ah h.1;exact⟨y,A,B⟩
  ·exact lZ h.2 t v e
theorem nS{m:List (Nat×Nat)} {nx:Nat} {a:List (Nat×Nat)}:∀{l:List (Nat×Nat)},ry m nx a l->∀q e,(q,e)∈l->fq (IE m q) a=some e/\q<nx
 |[],h,t,v,hm=>by cases hm
 |(B,A)::r,h,t,v,hm=>by
  rcases mp.1 hm with e|e
  ·cases e;exact h.1
  ·exact nS h.2 t v e
theorem Gq{α:Type} {f:α->Nat}:∀{l:List α},(l.map f).Nodup->∀x y,x∈l->y∈l->f x=f y->x=y
 |[],h,x,y,B,D,e=>by cases B
 |a::l,h,x,y,B,D,e=>by
  simp only[md,wa]at h
  rcases mp.1 B with A|A<;>rcases mp.1 D with ky|ky
  ·rw[A,ky]
  ·exact absurd (by rw[<-A,e];exact EQ ky) h.1
  ·exact absurd (by rw[<-ky,<-e];exact EQ A) h.1
  ·exact Gq h.2 x y A ky e
section
variable{P:Program} {nt:Nat} {n0:kL} {w0:World} {π0:Nat->Nat->Prop} {s s1:S} {a:Act} {w:World}
def gx(P:Program) (nt:Nat) (n0:kL) (w0:World) (π0:Nat->Nat->Prop) (s:S) (a:Act) (w:World):Prop:=
 4<=s.nx/\∃β τ π U,(∀n,U n->n<s.nx)/\Rel P nt n0 w0 π0 U s a w β τ π
theorem Rel.le{U:Nat->Prop} {β:Nat->Nat} {τ:Nat->Value} {π:Nat->Nat->Prop} (R:Rel P nt n0 w0 π0 U s a w β τ π) (h:Le s s1):gx P nt n0 w0 π0 s1 a w:=by
 obtain⟨h0,m,h1,h2,h3,O⟩:=h
 refine⟨h0,β,λq=>τ (IE m q),π,λn=>n<s1.nx,λn h=>h,?_⟩
 refine{size:=R.size,slots:=?_,boxes:=?_,inj:=?_,live:=?_,dm:=?_,dG:=?_,below:=R.below,gI:=R.gI,gj:=R.gj,gu:=R.gu,dW:=R.dW,nL:=R.nL,jP:=λk hk=>by show k<s1.nx;omega,kept:=R.kept}
 ·intro t v hv
  obtain⟨u,hu,A⟩:=Ce h1 t v (P2 hv)
  obtain⟨⟨x,M,E⟩,hU⟩:=R.slots t u hu
  cases u with
  |dat au qu=>
   cases v with
   |dat av qv=>
    cases qv with
    |none=>
     have e:au=av:=by cases qu<;>exact A
     subst e
     exact⟨⟨x,M,E.1,λt ht=>by cases ht⟩,trivial⟩
    |some q=>
     cases qu with
     |none=>exact A.elim
     |some q0=>
      obtain⟨e,D,L⟩:=A;subst e
      refine⟨⟨x,M,E.1,λt ht=>?_⟩,L⟩
      cases ht
      show x=τ (IE m q)
      rw[<-D];exact E.2 q0 rfl
   |_=>cases qu<;>exact A.elim
  |ptr b o=>
   cases v with
   |ptr b' o'=>
    obtain⟨V,D,e3⟩:=A;subst V D;exact⟨⟨x,M,E⟩,e3⟩
   |_=>exact A.elim
  |rp cs=>
   cases v with
   |rp al=>
    have e:cs=al:=A
    subst e;exact⟨⟨x,M,E⟩,trivial⟩
   |_=>exact A.elim
  |undef=>
   cases v with
   |undef=>exact⟨⟨x,M,E⟩,trivial⟩
   |_=>exact A.elim
  |vs b o n z=>
   cases v with
   |vs b' o' n' z'=>
    obtain⟨⟨V,D⟩,⟨e3,e4⟩,O⟩:=A;subst V D e3 e4;exact⟨⟨x,M,E⟩,O⟩
   |_=>exact A.elim
  |wz f as bs=>
   cases v with
   |wz f' ar a3=>
    obtain⟨V,D,e3,O⟩:=A;subst V D e3;exact⟨⟨x,M,E⟩,O⟩
   |_=>exact A.elim
  |raw q n=>cases v<;>exact A.elim
  |pt k ps=>
   cases v with
   |pt k' a2=>
    obtain⟨V,D,O⟩:=A;subst V D
    exact⟨⟨x,M,by cases k<;>exact E⟩,O⟩
   |_=>exact A.elim
 ·intro b x Z
  obtain⟨y,hy,ac,ab,ad⟩:=lZ h2 b x (zj Z)
  obtain⟨_,hn,⟨ag,el,c1,c2,c3,c4,c5⟩,L⟩:=R.boxes b y hy
  refine⟨ad,hn,⟨ag,el,c1,by rw[<-ac];exact c2,by rw[<-ac];exact c3,λo q ho=>?_,c5⟩,λo q ho=>?_⟩
  ·exact c4 o _ (ye ab o q (rM ho)).1
  ·exact(ye ab o q (rM ho)).2
 ·intro b b' x x' Z ao e
  obtain⟨y,hy,_⟩:=lZ h2 b x (zj Z)
  obtain⟨y',am,_⟩:=lZ h2 b' x' (zj ao)
  exact R.inj b b' y y' hy am e
 ·intro q e L
  obtain⟨h5,h6⟩:=nS h3 q e (rM L)
  exact⟨h6,(R.live _ e h5).2⟩
 ·intro q q' e e' B L an hB ak
  have hm:=rM L
  have aa:=rM an
  obtain⟨h5,_⟩:=nS h3 q e hm;obtain⟨ae,_⟩:=nS h3 q' e' aa
  have:=R.dm _ _ e e' B h5 ae hB ak
  have:=Gq O _ _ hm aa this
  exact ne Prod.fst this
 ·intro q e b x L Z
  obtain⟨h5,_⟩:=nS h3 q e (rM L)
  obtain⟨y,hy,_⟩:=lZ h2 b x (zj Z)
  exact R.dG _ e b y h5 hy
variable{U:Nat->Prop} {β:Nat->Nat} {τ:Nat->Value} {π:Nat->Nat->Prop}
section
variable {a':Act} {w':World} (r:Option Nat)
theorem Rel.ZV(R:Rel P nt n0 w0 π0 U s a w β τ π) {A:World} (D:A6 n0 A w) (B:n0.n<=A.heap.size) (hk:∀b o,π0 b o->w.cell? ⟨b,o,none⟩=A.cell? ⟨b,o,none⟩):Rel P nt n0 A π0 U s a w β τ π:={R with below:=D,gI:=B,kept:=hk}
theorem Rel.ZW(R:Rel P nt n0 w0 π0 U s a w β τ π):Rel P nt n0 w π0 U s a w β τ π:=R.ZV (.refl _ _) (ka R.gI R.below.size) (λ_ _ _=>rfl)
theorem gx.below(R:gx P nt n0 w0 π0 s a w):A6 n0 w0 w:=let ⟨_,_,_,_,_,_,R0⟩:=R;R0.below
theorem gx.gI(R:gx P nt n0 w0 π0 s a w):n0.n<=w0.heap.size:=let ⟨_,_,_,_,_,_,R0⟩:=R;R0.gI
theorem gx.ZV(R:gx P nt n0 w0 π0 s a w) {A:World} (D:A6 n0 A w) (B:n0.n<=A.heap.size) (hk:∀b o,π0 b o->w.cell? ⟨b,o,none⟩=A.cell? ⟨b,o,none⟩):gx P nt n0 A π0 s a w:=let ⟨h,β,τ,π,U,hU,R⟩:=R;⟨h,β,τ,π,U,hU,R.ZV D B hk⟩
theorem gx.kept(R:gx P nt n0 w0 π0 s a w):∀b o,π0 b o->w.cell? ⟨b,o,none⟩=w0.cell? ⟨b,o,none⟩:=let ⟨_,_,_,_,_,_,R0⟩:=R;R0.kept
theorem gx.back{A:Nat->Nat->Prop} {B:World} (R:gx P nt n0 B A s a w) (E:∀b o,π0 b o->A b o) (D:∀b o,A b o->π0 b o\/n0.ok b) (L:A6 n0 w0 w) (M:n0.n<=w0.heap.size) (hk:∀b o,π0 b o->w.cell? ⟨b,o,none⟩=w0.cell? ⟨b,o,none⟩):gx P nt n0 w0 π0 s a w:=
 let ⟨h,β,τ,π,U,hU,R⟩:=R
 ⟨h,β,τ,π,U,hU,{R with below:=L,gI:=M,kept:=hk,gu:=λb o h=>R.gu b o (E b o h),dW:=λb o h=>(R.dW b o h).elim (D b o) .inr}⟩
theorem gx.ZW(R:gx P nt n0 w0 π0 s a w):gx P nt n0 w π0 s a w:=let ⟨h,β,τ,π,U,hU,R⟩:=R;⟨h,β,τ,π,U,hU,R.ZW⟩
theorem gx.W9(R:gx P nt n0 w0 π0 s a w) (h:a'.tmps=a.tmps):gx P nt n0 w0 π0 s a' w:=
 let ⟨h4,β,τ,π,U,hU,R⟩:=R
 ⟨h4,β,τ,π,U,hU,{R with size:=by rw[h];exact R.size,slots:=λt v A=>by rw[h];exact R.slots t v A}⟩
theorem gx.old(R:gx P nt n0 w0 π0 s a w) (A:Below w.heap.size w w'):gx P nt n0 w0 π0 s a w':=
 let ⟨h,β,τ,π,U,hU,R⟩:=R
 ⟨h,β,τ,π,U,hU,R.frame (λ_ _=>rfl) (λ_ _=>rfl) (λ_ h=>h) (λ_ _ h=>h) (λ_ _ h=>.inl h) (λb o h=>nm (R.gj b o h) A.size) A⟩
theorem l6{w:World} {l:Nat} {o o':Obj} (h:w.heap[l]? =some o) (D:o.isCells=false) (A:o'.isCells=false) (x:Addr):(w.putObj l o').cell? x=w.cell? x:=by
 have B:=(j9.1 h).1
 by_cases e:x.block=l
 ·unfold World.cell?
  rw[e,QR B,h]
  cases o<;>cases o'<;>first|(cases D;done)|(cases A;done)|rfl
 ·exact World.cell?_of_block (sd e)
theorem A6.putObj{n:kL} {w w':World} (h:A6 n w w') {l:Nat} (B:w.heap.size<=l) (D:n.n<=l) (o:Obj):A6 n w (w'.putObj l o):=
 ⟨h.os,h.tape,h.output,by simpa using h.size,λk hk A=>(sd ST).trans (h.block k hk A),λk x hk A=>(sd (by have:=(j9.1 hk).1;omega)).trans (h.others k x hk A)⟩
theorem gx.putObj(R:gx P nt n0 w0 π0 s a w) {l:Nat} {o o':Obj} (h:w.heap[l]? =some o) (hc:o.isCells=false) (aa:o'.isCells=false):gx P nt n0 (w.putObj l o') π0 s a (w.putObj l o'):=by
 obtain⟨h4,β,τ,π,U,hU,R⟩:=R
 have E:∀b o,π b o->(w.putObj l o').cell? ⟨b,o,none⟩=w.cell? ⟨b,o,none⟩:=λb x _=>l6 h hc aa _
 have D:∀(B:Nat) (A:Array Value) (O:TypeId) (f:Nat×Nat),w.heap[B]? =some (.cells A O f)->(w.putObj l o').heap[B]? =w.heap[B]?:=λB A O f hB=>sd (λe=>by subst e;rw[h]at hB;cases hB;cases hc)
 refine⟨h4,β,τ,π,U,hU,{R with slots:=?_,boxes:=?_,live:=?_,below:=.refl _ _,gI:=?_,gj:=?_,kept:=λ_ _ _=>rfl}⟩
 ·intro t v hv
  obtain⟨⟨x,hx,hr⟩,hu⟩:=R.slots t v hv
  exact⟨⟨x,hx,RV.mono (λ_ _=>rfl) (λ_ _=>rfl) (λ_ _ h=>h) E hu hr⟩,hu⟩
 ·intro b x M
  obtain⟨V,L,g3,g4⟩:=R.boxes b x M
  have ab:=g3
  obtain⟨A,O,Z,_,_,_,hn⟩:=ab
  exact⟨V,L,g3.keep (λ_ _=>rfl) g4 (D _ _ _ _ Z) (λ_ _ h=>h) E hn,g4⟩
 ·intro q e hq
  obtain⟨V,L⟩:=R.live q e hq
  refine⟨V,L.keep (λB hB=>?_) (λB o _ h=>h)⟩
  rcases L with e|⟨B',len,cap,A,i,e,_,Z,_⟩
  ·rw[e]at hB;cases hB
  ·rw[e]at hB;cases hB;exact D _ _ _ _ Z
 ·simpa using ka R.gI R.below.size
 ·intro b o M;simpa using R.gj b o M
theorem gx.cut(R:gx P nt n0 w0 π0 s a w) {wr:List Nat} {a1:Act} (hk:∀t,¬t∈wr->a.tmps[t]? =a1.tmps[t]?) (M:a1.tmps.size=nt):gx P nt n0 w0 π0 (Bc wr s) a1 w:=by
 obtain⟨D,β,τ,π,U,L,R⟩:=R
 refine⟨D,β,τ,π,U,L,{R with size:=M,slots:=λt v A=>?_}⟩
 obtain⟨E,B⟩:=zi A;rw[<-hk t E];exact R.slots t v B
theorem Cf:∀{ps:List Nat} {xs:List AV} {s:S} {t:Array Value},(∀p∈ps,p<nt)->(∀x∈xs,jO x=true)->Rel P nt n0 w0 π0 U s {tmps:=t,defers:=[]} w β τ π->
  Rel P nt n0 w0 π0 U (tO ps xs s) {tmps:=(ps.zip (xs.map yS)).foldl (λt p=>t.setIfInBounds p.1 p.2) t,defers:=[]} w β τ π
 |[],xs,s,t,_,_,R=>by cases xs<;>exact R
 |p::ps,[],s,t,_,_,R=>R
 |p::ps,x::xs,s,t,B,D,R=>by
  have L:=R.put (some p) (v:=.dat x none) (x:=yS x) (λq A=>by cases A;exact B p lr) ⟨.flat (D x lr),λt M=>by cases M⟩ trivial
  exact Cf (ps:=ps) (xs:=xs) (λq A=>B q (kp _ A)) (λy E=>D y (kp _ E)) L
theorem D3:∀{ps:List Nat} {xs:List AV} {s:S},(tO ps xs s).nx=s.nx
 |[],xs,s=>by cases xs<;>rfl
 |p::ps,[],s=>rfl
 |p::ps,x::xs,s=>by rw[tO,D3];rfl
theorem sE:∀{l:List (Nat×Value)} {t:Array Value} {k:Nat},(∀p∈l,p.1≠k)->(l.foldl (λt p=>t.setIfInBounds p.1 p.2) t)[k]? =t[k]?
 |[],t,k,_=>rfl
 |p::l,t,k,h=>by
  rw[p7,sE (λq A=>h q (kp _ A))]
  exact ws (h p lr)
def Gs(w:World):Prop:=∀l,r=some l->∃A,w.heap[l]? =some (.loop A)
def Wn(D:Nat):Deferred:={target:=.collected D,args:=#[]}
def Marks(B:List Deferred) (n0:kL) (a:Act) (w:World):Prop:=∃A:List Nat,a.defers=A.map Wn++B/\A.Nodup/\∀D∈A,n0.n<=D/\w.heap[D]? =some (.deferred (some []))
def yf(P:Program) (nt:Nat) (n0:kL) (w0:World) (π0:Nat->Nat->Prop) (r:Option Nat) (T:Nat->Prop) (a0:Act) (s:S) (a:Act) (w:World):Prop:=
 gx P nt n0 w0 π0 s a w/\Gs r w/\Marks a0.defers n0 a w/\∀t,T t->a.tmps[t]? =a0.tmps[t]?
def Bm(P:Program) (nt:Nat) (n0:kL) (w0:World) (π0:Nat->Nat->Prop) (r:Option Nat) (T:Nat->Prop) (a0:Act) (QA:Exit->S->Prop) (e:Exit) (a:Act) (w:World):Prop:=∃s,QA e s/\yf P nt n0 w0 π0 r T a0 s a w
theorem gx.down(R:gx P nt n0 w0 π0 s a w) {F:S->Prop} (h:Eng.down F s):∃L,F L/\gx P nt n0 w0 π0 L a w:=by
 obtain⟨s1,⟨B,hF⟩|hF⟩:=h
 ·obtain⟨_,β,τ,π,U,Z,R⟩:=R
  rcases hF with hF|⟨ids,A,hF⟩
  ·exact⟨s1,hF,R.le B⟩
  ·obtain⟨css,E,hF⟩:=ah hF
   simp only[ed]at A;obtain⟨O,β',τ',π',U',D,R'⟩:=R.le B
   obtain⟨V,_,M,_⟩:=R'.zc (gp A.1) A.2 E
   exact⟨_,hF,by rw[yT];exact O,β',τ',V,U',by rw[yT];exact D,M⟩
 ·exact⟨s,hF,R⟩
def D4(L:List (Nat×Obj)) (w:World):Prop:=∀p∈L,w.heap[p.1]? =some p.2
theorem D4.others{L:List (Nat×Obj)} {w:World} (h:D4 L w) (B:∀p∈L,p.2.isCells=false) (D:∀(k:Nat) (o:Obj),w.heap[k]? =some o->o.isCells=false->w'.heap[k]? =some o):D4 L w':=
 λp A=>D _ _ (h p A) (B p A)
theorem D4.putObj{L:List (Nat×Obj)} {w:World} (h:D4 L w) {l:Nat} (B:∀p∈L,p.1≠l) (o:Obj):D4 L (w.putObj l o):=
 λp A=>(sd (B p A)).trans (h p A)
theorem ja{w:World} (h:Below w.heap.size w w') (k:Nat) (o:Obj) (hk:w.heap[k]? =some o):w'.heap[k]? =some o:=(h.block k (j9.1 hk).1).trans hk
theorem Gs.others{r:Option Nat} {w:World} (h:Gs r w) (B:∀(k:Nat) (o:Obj),w.heap[k]? =some o->o.isCells=false->w'.heap[k]? =some o):Gs r w':=
 λl A=>let ⟨r₀,hr⟩:=h l A;⟨r₀,B _ _ hr rfl⟩
theorem Marks.others{A:List Deferred} {n0:kL} {a:Act} {w:World} (h:Marks A n0 a w) (B:a'.defers=a.defers) (E:∀(k:Nat) (o:Obj),w.heap[k]? =some o->o.isCells=false->w'.heap[k]? =some o):Marks A n0 a' w':=
 let ⟨Ds,h1,h2,h3⟩:=h;⟨Ds,B.trans h1,h2,λD hD=>⟨(h3 D hD).1,E _ _ (h3 D hD).2 rfl⟩⟩
theorem N2{P:Program} {r:Option Nat} {w:World} (M:Gs r w) (fn:FuncId) (tmps:Array Value) (ps:Array Tmp) (as A:Code):
  ∃(l:Nat) (E:List Nat) (B:World) (R:Nat),(Instr.enterLoop fn tmps ps as A r).run P w=.ok (l,E.map Wn) B/\w.heap.size<=l/\
   B.heap[l]? =some (.loop {state:=.ready,pending:=none,fn,tmps,params:=ps,assign:=as,body:=A,defers:=R})/\Below w.heap.size w B/\E.Nodup/\
   ∀D∈E,w.heap.size<=D/\D≠l/\B.heap[D]? =some (.deferred (some [])):=by
 cases r with
 |none=>
  refine⟨w.heap.size+1,[w.heap.size],_,w.heap.size,run_enterLoop_outer fn tmps ps as A,ST,?_,?_,TB,?_⟩
  ·have:=World.alloc_heap_new (w.alloc (.deferred (some []))) (.loop {state:=.ready,pending:=none,fn,tmps,params:=ps,assign:=as,body:=A,defers:=w.heap.size})
   rwa[World.size_alloc]at this
  ·exact(((Below.refl _ w).alloc (ia _) _).alloc TB _)
  ·intro D hD
   simp only[lm]at hD;subst hD
   exact⟨ia _,ST,(Below.heap_alloc _ _ _ TB).trans (World.alloc_heap_new w _)⟩
 |some O=>
  obtain⟨L,h⟩:=M O rfl
  exact⟨w.heap.size,[],_,L.defers,run_enterLoop_inner h fn tmps ps as A,ia _,World.alloc_heap_new w _,(Below.refl _ w).alloc (ia _) _,TB,TB⟩
theorem DV.Xa{π:Nat->Nat->Prop} {A:Nat} {caps:List AV} {v:Value} (h:DV w π (.fn (.func A) [] caps) v):∃us:Array Value,v=.func (.func A) #[] us/\jn w π caps us.toList:=by
 cases h with
 |fn f as vs R us M D O E=>
  have:vs=#[]:=by simpa using M.symm
  subst this
  exact⟨us,rfl,by simpa using D,λi a v B L=>E i a v B (by simpa using L)⟩
end
section
variable{nt:Nat} {n0:kL} {π0:Nat->Nat->Prop} {T:Nat->Prop} {a0:Act} {r:Option Nat} {n:Nat} {QA:Exit->S->Prop}
theorem Lj{g:Operand} {ps:Array Tmp} {as bd:Code} {g':bC} {ca cb:br} {wr:List Nat} (hg:cq g=some g') (b1:∀t∈ps.toList,t<nt/\t∈wr) (df:∀t∈ca.writes,t∈wr) (cv:∀t∈cb.writes,t∈wr)
  (c6:∀(π0:Nat->Nat->Prop) (T:Nat->Prop) (a0:Act),(∀t,T t->¬t∈ca.writes)->∀(r:Option Nat) (n:Nat) (w0:World) (QA:Exit->S->Prop) (s:S) (a:Act) (w:World),yf P nt n0 w0 π0 r T a0 s a w->aw (Pure P) ca QA s->as.wpIn (FW r) n P (Bm P nt n0 w0 π0 r T a0 QA) a w)
  (co:∀(π0:Nat->Nat->Prop) (T:Nat->Prop) (a0:Act),(∀t,T t->¬t∈cb.writes)->∀(r:Option Nat) (n:Nat) (w0:World) (QA:Exit->S->Prop) (s:S) (a:Act) (w:World),yf P nt n0 w0 π0 r T a0 s a w->aw (Pure P) cb QA s->bd.wpIn (FW r) n P (Bm P nt n0 w0 π0 r T a0 QA) a w)
  (R:yf P nt n0 w0 π0 r T a0 s a w) (h:aw (Pure P) (.C5 g' ps.toList wr ca cb) QA s):(Code.rangeFunc g ps as bd).wpIn (FW r) n P (Bm P nt n0 w0 π0 r T a0 QA) a w:=by
 simp only[aw]at h;obtain⟨gv,di,xs,cx,b7,F,cp,hFg,a5,hdone⟩:=ah h;clear h;obtain⟨RN,RL,⟨b3,db,c0,a4⟩,RK⟩:=R
 have hsize:a.tmps.size=nt:=let ⟨_,_,_,_,_,_,R⟩:=RN;R.size
 obtain⟨gf,caps,rfl,be,bj,bi⟩:=cx;obtain⟨s0,b0,cr⟩:=RN.down cp
 obtain⟨π1,us,da,b5,bs,ct,a9,b4⟩:∃(π1:Nat->Nat->Prop) (us:Array Value),a.eval g=.func (.func gf) #[] us/\jn w π1 caps us.toList/\(∀b o,π0 b o->π1 b o)/\(∀b o,π1 b o->π0 b o\/n0.ok b)/\(∀b o,π1 b o->b<w.heap.size)/\gx P nt n0 w π1 s0 a w:=by
  obtain⟨h4,β,τ,π,U,hU,R⟩:=cr
  obtain⟨us,h1,h2⟩:=DV.Xa (R.aM hg (hFg 0 s0 b0))
  exact⟨π,us,h1,h2,R.gu,R.dW,R.gj,h4,β,τ,π,U,hU,{R with below:=.refl _ _,gI:=ka R.gI R.below.size,kept:=λ_ _ _=>rfl,gu:=λ_ _ h=>h,dW:=λ_ _ h=>.inl h}⟩
 refine wpIn_rangeFunc ?_;intro fn _
 obtain⟨l,ao,W1,dd,ch,hl,ab,al,b6,ac⟩:=N2 (P:=P) RL fn a.tmps ps as bd
 obtain⟨A,B⟩:∃A:LoopState->Option Code->Loop,A=λst pe=>{state:=st,pending:=pe,fn,tmps:=a.tmps,params:=ps,assign:=as,body:=bd,defers:=dd}:=⟨_,rfl⟩
 have ab:W1.heap[l]? =some (.loop (A .ready none)):=by rw[B];exact ab
 -- what lies pinned
 obtain⟨L,hL⟩:∃L:List (Nat×Obj),L=(ao++b3).map (λD=>(D,Obj.deferred (some [])))++(match r with|some l₀=>(match w.heap[l₀]? with|some o=>[(l₀,o)]|none=>[])|none=>[]):=⟨_,rfl⟩
 have a2:∀p∈L,p.2.isCells=false:=by
  intro p hp;rw[hL,il]at hp
  rcases hp with hp|hp
  ·obtain⟨D,_,rfl⟩:=i8.1 hp;rfl
  ·cases r with
   |none=>cases hp
   |some l₀=>
    obtain⟨r₀,O⟩:=RL l₀ rfl;simp only[O,lm]at hp;subst hp;rfl
 have ag:∀p∈L,p.1≠l:=by
  intro p hp;rw[hL,il]at hp
  rcases hp with hp|hp
  ·obtain⟨D,hD,rfl⟩:=i8.1 hp
   rcases il.1 hD with hD|hD
   ·exact(ac D hD).2.1
   ·have:=(j9.1 (a4 D hD).2).1
    simp only;omega
  ·cases r with
   |none=>cases hp
   |some l₀=>
    obtain⟨r₀,O⟩:=RL l₀ rfl;simp only[O,lm]at hp;subst hp
    have:=(j9.1 O).1
    simp only;omega
 have cy:D4 L W1:=by
  intro p hp;rw[hL,il]at hp
  rcases hp with hp|hp
  ·obtain⟨D,hD,rfl⟩:=i8.1 hp
   rcases il.1 hD with hD|hD
   ·exact(ac D hD).2.2
   ·exact ja al _ _ (a4 D hD).2
  ·cases r with
   |none=>cases hp
   |some l₀=>
    obtain⟨r₀,O⟩:=RL l₀ rfl;simp only[O,lm]at hp;subst hp;exact ja al _ _ O
 have ad:∀W,D4 L W->Gs r W:=by
  intro W hW l₀ e;subst e;obtain⟨r₀,O⟩:=RL l₀ rfl
  exact⟨r₀,hW (l₀,.loop r₀) (by rw[hL];simp[O])⟩
 have aa:∀W,D4 L W->Marks a0.defers n0 {a with defers:=ao.map Wn++a.defers} W:=by
  intro W hW
  refine⟨ao++b3,by simp[db],?_,λD hD=>⟨?_,hW (D,_) (by rw[hL];exact List.mem_append_left _ (i8.2 ⟨D,hD,rfl⟩))⟩⟩
  ·refine List.nodup_append.2 ⟨b6,c0,λx hx y hy e=>?_⟩
   subst e
   have h1:=(ac x hx).1
   have h2:=(j9.1 (a4 x hy).2).1
   omega
  ·rcases il.1 hD with hD|hD
   ·exact ka (ka RN.gI RN.below.size) (ac D hD).1
   ·exact(a4 D hD).1
 have bm:w0.heap.size<=l:=ka RN.below.size hl
 have a8:n0.n<=l:=ka RN.gI bm
 have a6:∀(M:S) (W2:World),gx P nt n0 w π1 M a W2->∀{o:Loop},W2.heap[l]? =some (.loop o)->∀(o':Loop),gx P nt n0 w0 π0 M a (W2.putObj l (.loop o')):=by
  intro M W2 R' o ho o'
  refine(R'.putObj ho rfl rfl).back bs ct ((RN.below.trans R'.below).putObj bm a8 _) RN.gI λb x Z=>?_
  rw[l6 ho rfl rfl,R'.kept b x (bs b x Z)];exact RN.kept b x Z
 refine⟨l,ao.map Wn,W1,{target:=.fn (.func gf) us,args:=#[.func (.yield l) #[] #[]]},W1,gf,#[.func (.yield l) #[] #[]]++us,W1,ch,?_,λ_ _=>trivial,?_,λh=>by simp[FW,Fence.wide]at h,?_⟩
 ·simp only[resolve,da];simp[go_sem]
 ·simp[invoke,go_sem,gK be]
 refine DW.2 ?_
 have:=bi l
  (λi W=>(∃M,F i M/\gx P nt n0 w π1 M a W)/\D4 L W/\W.heap[l]? =some (.loop (A .ready none)))
  (λW=>∃c M,((c=.ret/\QA .ret M)\/∃id,c=.exit id/\QA (.exit id) M)/\gx P nt n0 w π1 M a W/\D4 L W/\W.heap[l]? =some (.loop (A .done (some c))))
  W1 π1 us.toList (λb o h=>nm (a9 b o h) al.size) (b5.mono (λ_ _ h=>h) (λb o h=>Below.vN al (a9 b o h))) ?_ ?_ ?_ ?_ ⟨⟨s0,b0,b4.old al⟩,cy,ab⟩
 ·refine(by simpa using this:Calls P gf (#[.func (.yield l) #[] #[]]++us) W1 _).mono ?_
  rintro e W2 ⟨⟨v,rfl⟩,⟨⟨M,ae,R'⟩,hp,O⟩|⟨c,M,hq,R',hp,O⟩⟩
  ·refine⟨none,_,by have:=run_endLoop (P:=P) O (by rw[B];simp);rw[B]at this;exact this,M,hdone M ae,?_⟩
   have V:=hp.putObj ag (.loop {A .ready none with state:=.exhausted})
   rw[B]at V;exact⟨(a6 _ _ R' O _).W9 rfl,ad _ V,aa _ V,RK⟩
  ·refine⟨some c,_,by have:=run_endLoop (P:=P) O (by rw[B];simp);rw[B]at this;exact this,?_⟩
   have V:=hp.putObj ag (.loop {A .done (some c)with state:=.exhausted})
   rw[B]at V
   have RT:yf P nt n0 w0 π0 r T a0 M {a with defers:=ao.map Wn++a.defers} (W2.putObj l (.loop {A .done (some c)with state:=.exhausted})):=by
    rw[B];exact⟨(a6 _ _ R' O _).W9 rfl,ad _ V,aa _ V,RK⟩
   rw[B]at RT
   rcases hq with⟨rfl,hq⟩|⟨id,rfl,hq⟩
   ·exact wpIn_ret ⟨M,hq,RT⟩
   ·exact wpIn_exit ⟨M,hq,RT⟩
 ·rintro i W ⟨⟨M,ae,R'⟩,_,_⟩ b o Z
  rw[R'.kept b o Z];exact(Below.vN al (a9 b o Z)).symm
 ·rintro i W W' ⟨⟨M,ae,R'⟩,hp,O⟩ Z
  exact⟨⟨M,ae,R'.old Z⟩,hp.others a2 (λk o hk _=>ja Z k o hk),ja Z _ _ O⟩
 ·rintro W W' ⟨c,M,hq,R',hp,O⟩ Z
  exact⟨c,M,hq,R'.old Z,hp.others a2 (λk o hk _=>ja Z k o hk),ja Z _ _ O⟩
 ·rintro m i x W hx ⟨⟨M,ae,R'⟩,hp,O⟩
  have cu:=b7 x (em hx)
  have hy:=run_yield (P:=P) (args:=(x.map yS).toArray) O (by rw[B];simpa using cu)
  rw[B]at hy;refine⟨fn,_,as,bd,hy,roundIn_of_wpIn trivial ?_⟩
  have c2:(ps.zip (x.map yS).toArray).foldl (λtmps p=>tmps.setIfInBounds p.1 p.2) a.tmps=(ps.toList.zip (x.map yS)).foldl (λt p=>t.setIfInBounds p.1 p.2) a.tmps:=by
   rw[<-Array.foldl_toList];simp[Array.toList_zip]
  have RP:gx P nt n0 W π1 (tO ps.toList x M) {tmps:=(ps.toList.zip (x.map yS)).foldl (λt p=>t.setIfInBounds p.1 p.2) a.tmps,defers:=[]} W:=by
   obtain⟨h4,β,τ,π,U,hU,R2⟩:=(R'.W9 (a':={tmps:=a.tmps,defers:=[]}) rfl).ZW
   refine⟨by rw[D3];exact h4,β,τ,π,U,λk hk=>by rw[D3];exact hU k hk,?_⟩
   exact Cf (λp hp=>(b1 p hp).1) (bj x (em hx)) R2
  have hkeep:∀t,¬t∈wr->((ps.toList.zip (x.map yS)).foldl (λt p=>t.setIfInBounds p.1 p.2) a.tmps)[t]? =a.tmps[t]?:=
   λt ht=>sE (λp hp e=>ht (e▸(b1 p.1 (List.of_mem_zip hp).1).2))
  have hA:=c6 π1 (λt=>¬t∈wr) ⟨a.tmps,[]⟩ (λt ht hw=>ht (df t hw)) (some l) m W _ _ _ _ ⟨RP,λl' e=>by cases e;exact⟨_,O⟩,⟨[],rfl,.nil,TB⟩,hkeep⟩ (a5 i x M hx ae)
  have hA:as.wpIn (Fence.wide.inRound l) m P (Bm P nt n0 W π1 (some l) (λt=>¬t∈wr) ⟨a.tmps,[]⟩ (IQ (aw (Pure P) cb (Py wr (F (i+1)) QA)))) {tmps:=(ps.zip (x.map yS).toArray).foldl (λtmps p=>tmps.setIfInBounds p.1 p.2) a.tmps,defers:=[]} W:=by rw[c2];exact hA
  refine Hb hA ?_
  rintro e a₁ w₁ ⟨s1,b2,an,_,ci,c5⟩
  cases e<;>try exact b2.elim
  have am:=an.below.others _ _ O rfl
  have c4:=hp.others a2 an.below.others
  refine⟨_,run_beginRound am (by rw[B]),?_⟩
  have b8:=(j9.1 am).1
  have bo:(w₁.putObj l (.loop {A .ready none with state:=.busy})).heap[l]? =some (.loop {A .ready none with state:=.busy}):=QR b8
  have V:=c4.putObj ag (.loop {A .ready none with state:=.busy})
  have c1:=an.putObj am rfl (o':=.loop {A .ready none with state:=.busy}) rfl
  have ce:Marks [] n0 a₁ (w₁.putObj l (.loop {A .ready none with state:=.busy})):=by
   obtain⟨Ds,h1,h2,h3⟩:=ci
   refine⟨Ds,h1,h2,λD hD=>⟨(h3 D hD).1,(sd (λe=>?_)).trans (h3 D hD).2⟩⟩
   subst e
   have:=(h3 D hD).2
   rw[am]at this;cases this
  have ck:A6 n0 w (w₁.putObj l (.loop {A .ready none with state:=.busy})):=(R'.below.trans an.below).putObj hl a8 _
  have hB:=co π1 (λt=>¬t∈wr) ⟨a.tmps,[]⟩ (λt ht hw=>ht (cv t hw)) (some l) m (w₁.putObj l (.loop {A .ready none with state:=.busy})) (Py wr (F (i+1)) QA) s1 a₁ _ ⟨c1,λl' e=>by cases e;exact⟨_,bo⟩,ce,c5⟩ b2
  refine Hb (show bd.wpIn (Fence.wide.inRound l) m P (Bm P nt n0 (w₁.putObj l (.loop {A .ready none with state:=.busy})) π1 (some l) (λt=>¬t∈wr) ⟨a.tmps,[]⟩ (Py wr (F (i+1)) QA)) a₁ _ from hB) ?_
  rintro e a3 W3 ⟨s3,ar,ak,_,_,ba⟩
  have au:=ak.below.others _ _ bo rfl
  have a7:=V.others a2 ak.below.others
  have cg:=ck.trans ak.below
  have fin:∀(E:Option Code),(Instr.endRound l E).run P W3=.ok (.bool E.isNone) (W3.putObj l (.loop (A (if E.isNone then .ready else .done) E)))/\
    (W3.putObj l (.loop (A (if E.isNone then .ready else .done) E))).heap[l]? =some (.loop (A (if E.isNone then .ready else .done) E)):=λE=>by
   have:=run_endRound (P:=P) E au
   rw[B]at this⊢;exact⟨this,QR (j9.1 au).1⟩
  have back:∀(s4:S),gx P nt n0 (w₁.putObj l (.loop {A .ready none with state:=.busy})) π1 s4 a W3->∀st pe,gx P nt n0 w π1 s4 a (W3.putObj l (.loop (A st pe))):=λs4 R4 st pe=>
   (R4.putObj au rfl rfl).ZV (cg.putObj hl a8 _) b4.gI λb o Z=>by
    rw[l6 au rfl rfl,R4.kept b o Z,l6 am rfl rfl,an.kept b o Z,R'.kept b o Z]
  cases e with
  |normal=>
   obtain⟨s4,c3,R4⟩:=(ak.cut (wr:=wr) (a1:=a) ba hsize).down ar
   obtain⟨f1,f2⟩:=fin none;exact⟨_,_,f1,.inl ⟨rfl,⟨s4,c3,back s4 R4 _ _⟩,a7.putObj ag _,f2⟩⟩
  |ret=>
   obtain⟨f1,f2⟩:=fin (some .ret)
   exact⟨_,_,f1,.inr ⟨rfl,.ret,_,.inl ⟨rfl,ar⟩,back _ (ak.cut (wr:=wr) (a1:=a) ba hsize) _ _,a7.putObj ag _,f2⟩⟩
  |exit id=>
   obtain⟨f1,f2⟩:=fin (some (.exit id))
   exact⟨_,_,f1,.inr ⟨rfl,.exit id,_,.inr ⟨id,rfl,ar⟩,back _ (ak.cut (wr:=wr) (a1:=a) ba hsize) _ _,a7.putObj ag _,f2⟩⟩
  |_=>exact ar.elim
end
theorem yf.sub{π0:Nat->Nat->Prop} {r:Option Nat} {T:Nat->Prop} {a0:Act} (R:yf P nt n0 w0 π0 r T a0 s a w) {a':Act} {w':World} {D:S} (B:rK T a a') (A:gx P nt n0 w π0 D a' w'):yf P nt n0 w0 π0 r T a0 D a' w':=
 ⟨A.ZV (R.1.below.trans A.below) R.1.gI (λb o h=>(A.kept b o h).trans (R.1.kept b o h)),R.2.1.others A.below.others,R.2.2.1.others B.1 A.below.others,λt E=>(B.2 t E).trans (R.2.2.2 t E)⟩
theorem yf.down{π0:Nat->Nat->Prop} {r:Option Nat} {T:Nat->Prop} {a0:Act} (R:yf P nt n0 w0 π0 r T a0 s a w) {F:S->Prop} (h:Eng.down F s):∃A,F A/\yf P nt n0 w0 π0 r T a0 A a w:=
 let ⟨A,h1,h2⟩:=R.1.down h;⟨A,h1,h2,R.2⟩
theorem D5{V:Bool}:∀(c:Code) (cc:br),ei V P c=some cc->∀l,(findLabel c l).isSome=(cc.after l).isSome:=by
 intro c
 induction c with
 |seq x y B E=>
  intro cc A l;simp only[ei]at A
  split at A<;>try(cases A;done)
  rename_i D R M ac
  have hx:=B D M l
  cases A
  have key:(findLabel (.seq x y) l).isSome=(match D.after l with|some r=>some (br.join r R)|none=>R.after l).isSome:=by
   simp only[findLabel]
   cases h1:findLabel x l<;>cases h2:D.after l<;>simp_all
  split<;>exact key
 |label Z=>intro cc A l;cases A;simp only[findLabel,br.after];split<;>rfl
 |skip=>intro cc A l;cases A;rfl
 |region id ops oM=>
  intro cc A l;simp only[ei]at A;split at A
  ·simp only[eg]at A
   obtain⟨cos,_,rfl⟩:=A;rfl
  unfold K3 at A
  (repeat' split at A)<;>(try simp only at A)<;>(repeat' split at A)<;>first|(cases A;done)|(cases A;rfl)
 |cond cd x y B E=>
  intro cc A l;simp only[ei]at A
  split at A<;>try(cases A;done)
  cases A;rfl
 |block id c O=>intro cc A l;simp only[ei,eg]at A;obtain⟨c',L,rfl⟩:=A;rfl
 |loop c O=>intro cc A l;simp only[ei,eg]at A;obtain⟨c',L,rfl⟩:=A;rfl
 |exit id=>intro cc A l;cases A;rfl
 |ret=>intro cc A l;cases A;rfl
 |goto Z=>intro cc A l;cases A;rfl
 |scope c O=>
  intro cc A l;simp only[ei]at A
  split at A<;>try(cases A;done)
  split at A<;>try(cases A;done)
  simp only[eg]at A;obtain⟨r,_,rfl⟩:=A;rfl
 |rangeFunc g ps as bd ab aa=>
  intro cc A l;simp only[ei]at A
  split at A<;>try(cases A;done)
  split at A<;>try(cases A;done)
  cases A;rfl
 |_=>intro cc A;cases A
section
variable{F:Fence} {m:Nat} {Q:Exit->Act->World->Prop}
section
variable {b:Frame} {c:Code} {cs:List Frame} {k:List Item}
theorem Jf:step P (lone (b.atR a (.code (.scope c)::k)) cs w)=.next (lone (b.atR a (.code c:: .inScope c::k)) cs w):=
 step_lone_go (by simp[stepG,stepG.exec,Frame.atR])
theorem FV:step P (lone (b.atR a (.inScope c::k)) cs w)=.next (lone (b.atR a k) cs w):=
 step_lone_go (by simp[stepG,stepG.exec,Frame.atR])
theorem Lk{rest:Code} {l:Nat} (hf:findLabel c l=some rest) (G:Act->World->Prop) (h:c.wpIn F m P (λe a w=>match e with| .goto l'=>l'=l/\G a w|e=>Q e a w) a w) (hr:∀a w,G a w->rest.wpIn F m P (Exit.noGoto Q) a w):(Code.scope c).wpIn F m P Q a w:=by
 intro b k cs V hb hroom
 have h0:(lone (b.atR a (.code (.scope c)::k)) cs w).fenced P F:=fenced_calm hb hroom rfl
 have leave:∀{e:Exit} {L:Act} {E:World} {m1:Machine},StepsIn (Machine.fenced P F) P (lone (b.atR a (.code (.scope c)::k)) cs w) m1->(∀l,e≠.goto l)->ArrivesIn (Machine.fenced P F) P m1 b (.inScope c::k) cs e L E->
   ArrivesIn (Machine.fenced P F) P (lone (b.atR a (.code (.scope c)::k)) cs w) b k cs e L E:=by
  intro e L E m1 R B A
  cases e with
  |normal=>exact R.trans (StepsIn.trans A (.one (fenced_calm hb hroom rfl) FV))
  |exit id=>exact⟨λk' hk=>R.trans (A.1 k' (by simpa[exitTo]using hk)),λaa hk=>let ⟨k₁,h1,h2⟩:=A.2 aa (by simpa[exitTo]using hk);⟨k₁,h1,R.trans h2⟩⟩
  |goto l=>exact absurd rfl (B l)
  |ret=>exact .of_steps R A
  |panic ch=>exact .of_steps R A
  |outgrown=>exact .of_steps R A
 have hstart:StepsIn (Machine.fenced P F) P (lone (b.atR a (.code (.scope c)::k)) cs w) (lone (b.atR a (.code c:: .inScope c::k)) cs w):=.one h0 Jf
 obtain⟨e,L,E,O,A⟩:=h b (.inScope c::k) cs V hb hroom
 have other:(∀l,e≠.goto l)->Q e L E->∃e a' w',Q e a' w'/\ArrivesIn (Machine.fenced P F) P (lone (b.atR a (.code (.scope c)::k)) cs w) b k cs e a' w':=λB O=>⟨e,L,E,O,leave hstart B A⟩
 cases e with
 |goto l'=>
  obtain⟨rfl,hG⟩:=O
  have ab:=A.1 (.code rest:: .inScope c::k) (by simp[gotoIn,hf])
  obtain⟨e2,a₂,w₂,Z,M⟩:=hr L E hG b (.inScope c::k) cs V hb hroom
  have D:(∀l,e2≠.goto l)->Q e2 a₂ w₂->∃e a' w',Q e a' w'/\ArrivesIn (Machine.fenced P F) P (lone (b.atR a (.code (.scope c)::k)) cs w) b k cs e a' w':=λB O=>⟨e2,a₂,w₂,O,leave (hstart.trans ab) B M⟩
  cases e2 with
  |goto l2=>exact Z.elim
  |_=>exact D (λl h=>by cases h) Z
 |_=>exact other (λl h=>by cases h) O
end
end
section
variable {x y:Code}
def Sound(P:Program) (nt:Nat) (n0:kL) (c:Code) (cc:br):Prop:=
 cc.fits nt=true->∀(π0:Nat->Nat->Prop) (T:Nat->Prop) (a0:Act),(∀t,T t->¬t∈cc.writes)->∀(r:Option Nat) (n:Nat) (w0:World) (QA:Exit->S->Prop) (s:S) (a:Act) (w:World),
  yf P nt n0 w0 π0 r T a0 s a w->aw (Pure P) cc QA s->c.wpIn (FW r) n P (Bm P nt n0 w0 π0 r T a0 QA) a w
theorem D6{M O:br} (hx:Sound P nt n0 x M) (Z:Sound P nt n0 y O):Sound P nt n0 (.seq x y) (.join M O):=by
 intro D π0 T a0 hT r n w0 QA s a w R h
 have nn:∀(e:Exit) (G:S->Prop) (A:S) (a':Act) (w':World),e≠.normal->kO G QA e A->yf P nt n0 w0 π0 r T a0 A a' w'->Exit.then (y.wpIn (FW r) n P (Bm P nt n0 w0 π0 r T a0 QA)) (Bm P nt n0 w0 π0 r T a0 QA) e a' w':=by
  intro e G A a' w' L B R'
  cases e with
  |normal=>exact absurd rfl L
  |_=>exact⟨A,B,R'⟩
 simp only[br.fits,ed]at D;simp only[br.writes,il,not_or]at hT
 refine wpIn_seq (Hb (hx D.1 π0 T a0 (λt E=>(hT t E).1) r n w0 _ s a w R h) ?_)
 rintro e a' w' ⟨A,B,R'⟩
 cases e with
 |normal=>
  obtain⟨s2,hF,V⟩:=R'.down B
  exact Z D.2 π0 T a0 (λt E=>(hT t E).2) r n w0 QA s2 a' w' V hF
 |_=>exact nn _ _ A a' w' TB B R'
theorem N3{L M:br} (V:Sound P nt n0 x L) (O:Sound P nt n0 y M):Sound P nt n0 (.seq x y) (.seq L M):=by
 intro A π0 T a0 hT r n w0 QA s a w R h;simp only[br.fits,ed]at A;simp only[br.writes,il,not_or]at hT
 refine wpIn_seq (Hb (V A.1 π0 T a0 (λt B=>(hT t B).1) r n w0 _ s a w R h) ?_)
 rintro e a' w' ⟨D,E,R'⟩
 cases e with
 |normal=>exact O A.2 π0 T a0 (λt B=>(hT t B).2) r n w0 QA D a' w' R' E
 |_=>exact⟨D,E,R'⟩
theorem N4{mo:Bool} (hm:P.follows .mixedOrders=true):∀(c:Code),(∀cc,ei mo P c=some cc->Sound P nt n0 c cc)/\∀l rest cc D,findLabel c l=some rest->ei mo P c=some cc->cc.after l=some D->Sound P nt n0 rest D:=by
 intro c
 induction c with
 |skip=>
  refine⟨?_,λl rest cc D h=>by cases h⟩
  intro cc A _ π0 T a0 _ r n w0 QA s a w R h;cases A;exact wpIn_skip ⟨s,h,R⟩
 |region id ops oM=>
  refine⟨?_,λl rest cc D h=>by cases h⟩
  intro cc A B π0 T a0 hT r n w0 QA s a w R h;obtain⟨h4,β,τ,π,U,hU,R0⟩:=R.1;simp only[ei]at A;split at A
  ·rename_i a3
   simp only[ed,nb]at a3;obtain⟨_,rfl⟩:=a3;simp only[eg]at A;obtain⟨cos,ac,rfl⟩:=A
   refine FT (w0:=w) ac B R0.ZW hU h (T:=T) (λd hd E=>hT d E hd) ?_ ?_
   ·intro s' a' w' β' τ' π' U' M hK hp R'
    exact⟨_,hK,R.sub hp ⟨by show 4<=s.nx+_;omega,β',τ',π',U',M,R'.nx _⟩⟩
   ·intro p s' a' w' β' τ' π' U' M hK hp R'
    exact⟨_,hK,R.sub hp ⟨by show 4<=s.nx+_;omega,β',τ',π',U',M,R'.nx _⟩⟩
  split at A<;>try(cases A;done)
  rename_i cos ac
  have fin:∀(ro:List Nat) (s1:S) (π1:Nat->Nat->Prop),Rel P nt n0 w0 π0 U s1 a w β τ π1->s1.nx=s.nx->(oM=true->∃dc T,lA dc ops.toList cos=true/\BW T (oD ro 0 cos) dc=true/\nj T s1.nx 0 (oD ro 0 cos)=true/\rH T s1)->iJ nt cos=true->(∀t,T t->¬t∈dstsOf cos)->
    j6 (Pure P) s1.nx 0 (oD ro 0 cos) (λs'=>QA .normal {s' with nx:=s.nx+cos.length}) s1->(Code.region id ops oM).wpIn (FW r) n P (Bm P nt n0 w0 π0 r T a0 QA) a w:=by
   intro ro s1 π1 R1 ar hd B hT h
   refine Hx (w0:=w) hm ac ro hd B R1.ZW (by rw[ar];exact hU) h (T:=T) (λd hd E=>hT d E hd) ?_
   intro s' a' w' β' τ' π' U' M hK hp R';rw[ar]at M
   exact⟨_,hK,R.sub hp ⟨by show 4<=s.nx+_;omega,β',τ',π',U',M,R'.nx _⟩⟩
  split at A
  ·rename_i ao
   subst ao
   have Mo:∀dc,lA dc ops.toList cos=true->iJ nt cos=true->(∀t,T t->¬t∈dstsOf cos)->(∃ids,(dY ids&&jl ids)=true/\ax (bh s.boxes ids) λcss=>Pz (Pure P) cos dc (λs'=>QA .normal {s' with nx:=s.nx+cos.length}) (iA ids css s))->(Code.region id ops true).wpIn (FW r) n P (Bm P nt n0 w0 π0 r T a0 QA) a w:=by
    intro dc L B hT h;obtain⟨ids,ak,h⟩:=h;obtain⟨css,a6,ro,ab,h⟩:=ah h;rw[ed]at ak
    obtain⟨π1,_,R1,_⟩:=R0.zc (gp ak.1) ak.2 a6
    simp only[yW,WR,ed]at ab
    exact fin ro _ π1 R1 yT (λ_=>⟨_,_,L,ab.2,ab.1.2,λt b ⟨v,hl,hb⟩=>rJ ab.1.1 t b v hl hb⟩) B hT h
   split at A
   ·split at A<;>try(cases A;done)
    rename_i L;unfold K3 at A
    split at A<;>try(cases A;done)
    rename_i k _
    split at A<;>try(cases A;done)
    rename_i d hd;simp only at A
    split at A<;>try(cases A;done)
    rename_i hk;cases A;simp only[ed,gc]at hk;obtain⟨⟨⟨h1,h2⟩,h3⟩,h5⟩:=hk
    rcases h with h|h
    ·exact Mo _ L B hT h
    ·refine FU (w0:=w) hm ac h1 h2 h3 (by simpa using h5) B R0.ZW hU h (T:=T) (λd hd E=>hT d E hd) ?_
     intro p s' a' w' β' τ' π' U' M hK hp R'
     exact⟨_,hK,R.sub hp ⟨by show 4<=s.nx+_;omega,β',τ',π',U',M,R'.nx _⟩⟩
   ·split at A
    ·split at A<;>try(cases A;done)
     rename_i L;cases A
     exact fin [] s π R0 rfl (λ_=>⟨[],[],L,rfl,B7,λ_ _ _=>rfl⟩) B hT (by rw[yV];exact h)
    ·split at A<;>try(cases A;done)
     rename_i L;cases A;rw[ed]at L;exact Mo _ L.1 B hT h
  ·rename_i ao
   cases A
   exact fin [] s π R0 rfl (λe=>absurd e ao) B hT (by rw[yV];exact h)
 |seq x y ag ad=>
  refine⟨?_,?_⟩
  ·intro cc A
   simp only[ei]at A
   split at A<;>try(cases A;done)
   rename_i cx cy V aa;cases A;split
   ·exact N3 (ag.1 cx V) (ad.1 cy aa)
   ·exact D6 (ag.1 cx V) (ad.1 cy aa)
  ·intro l rest cc D B A ha
   simp only[ei]at A
   split at A<;>try(cases A;done)
   rename_i cx cy V aa;cases A
   have al:(match cx.after l with|some r=>some (br.join r cy)|none=>cy.after l)=some D:=by
    split at ha<;>exact ha
   have hs:=D5 x cx V l
   simp only[findLabel]at B;split at B
   ·rename_i rx am
    cases B;rw[am]at hs
    cases ae:cx.after l with
    |none=>rw[ae]at hs;cases hs
    |some cr=>
     rw[ae]at al;cases al;exact D6 (ag.2 l rx cx cr am V ae) (ad.1 cy aa)
   ·rename_i am
    rw[am]at hs
    cases ae:cx.after l with
    |some cr=>rw[ae]at hs;cases hs
    |none=>
     rw[ae]at al;exact ad.2 l rest cy D B aa al
 |cond cd x y ag ad=>
  refine⟨?_,λl rest cc D h=>by cases h⟩
  intro cc A B π0 T a0 hT r n w0 QA s a w R h;simp only[ei]at A
  split at A<;>try(cases A;done)
  rename_i c' cx cy ba V aa;cases A;simp only[br.fits,ed]at B;simp only[br.writes,il,not_or]at hT;simp only[aw]at h;obtain⟨v,hv,h⟩:=ah h;obtain⟨β,τ,π,U,hU,R0⟩:=R.1.2
  have hd:=R0.aM ba hv
  cases v<;>try(exact h.elim)
  rename_i t
  exact wpIn_cond_split hd.y6 (λe=>ag.1 cx V B.1 π0 T a0 (λt E=>(hT t E).1) r n w0 QA s a w R (h.1 e)) (λe=>ad.1 cy aa B.2 π0 T a0 (λt E=>(hT t E).2) r n w0 QA s a w R (h.2 e))
 |block id c ih=>
  refine⟨?_,λl rest cc D h=>by cases h⟩
  intro cc A B π0 T a0 hT r n w0 QA s a w R h;simp only[ei,eg]at A;obtain⟨c',Z,rfl⟩:=A;refine wpIn_block (Hb (ih.1 c' Z B π0 T a0 hT r n w0 _ s a w R h) ?_)
  rintro e a' w' ⟨s',O,R'⟩
  cases e with
  |exit bj=>
   simp only[jH]at O;simp only[Exit.inBlock]
   by_cases a4:bj=id
   ·rw[et a4]at O⊢;exact⟨s',O,R'⟩
   ·rw[ek a4]at O⊢;exact⟨s',O,R'⟩
  |_=>exact⟨s',O,R'⟩
 |loop c ih=>
  refine⟨?_,λl rest cc D h=>by cases h⟩
  intro cc A B π0 T a0 hT r n w0 QA s a w R h;simp only[ei,eg]at A;obtain⟨c',Z,rfl⟩:=A;obtain⟨s0,⟨m,hn⟩,R0⟩:=R.down h;refine wpIn_loop_rounds m ?_
  have key:∀(m:Nat) (s:S) (a:Act) (w:World),yf P nt n0 w0 π0 r T a0 s a w->vM (aw (Pure P) c') QA m s->Code.roundsIn (FW r) n P c (Bm P nt n0 w0 π0 r T a0 QA) m a w:=by
   intro m
   induction m with
   |zero=>intro s a w _ h;exact h.elim
   |succ m a8=>
    intro s a w R h;rw[roundsIn_succ];refine Hb (ih.1 c' Z B π0 T a0 hT r n w0 _ s a w R h) ?_
    rintro e a' w' ⟨s',O,R'⟩
    cases e with
    |normal=>
     obtain⟨s2,hF,R2⟩:=R'.down O;exact a8 s2 a' w' R2 hF
    |_=>exact⟨s',O,R'⟩
  exact key m s0 a w R0 hn
 |exit id=>
  refine⟨?_,λl rest cc D h=>by cases h⟩
  intro cc A _ π0 T a0 _ r n w0 QA s a w R h;cases A;exact wpIn_exit ⟨s,h,R⟩
 |ret=>
  refine⟨?_,λl rest cc D h=>by cases h⟩
  intro cc A _ π0 T a0 _ r n w0 QA s a w R h;cases A;exact wpIn_ret ⟨s,h,R⟩
 |rangeFunc g ps as bd bi be=>
  refine⟨?_,λl rest cc D h=>by cases h⟩
  intro cc A B π0 T a0 hT r n w0 QA s a w R h;simp only[ei]at A
  split at A<;>try(cases A;done)
  rename_i g' ca cb hg a9 a7
  split at A<;>try(cases A;done)
  cases A;simp only[br.fits,ed,lj,gc]at B;obtain⟨⟨⟨⟨⟨f1,f2⟩,f3⟩,f4⟩,f5⟩,f6⟩:=B
  exact Lj hg (λt E=>⟨f1 t E,by simpa using f4 t E⟩) (λt E=>by simpa using f5 t E) (λt E=>by simpa using f6 t E) (bi.1 ca a9 f2) (be.1 cb a7 f3) R h
 |label l'=>
  refine⟨?_,?_⟩
  ·intro cc A _ π0 T a0 _ r n w0 QA s a w R h;cases A;exact wpIn_label ⟨s,h,R⟩
  ·intro l rest cc D B A ha
   cases A;simp only[findLabel]at B
   split at B<;>try(cases B;done)
   rename_i he;cases B;simp only[br.after,he,kh,fo]at ha;subst ha;intro _ π0 T a0 _ r n w0 QA s a w R h;exact wpIn_skip ⟨s,h,R⟩
 |goto l'=>
  refine⟨?_,λl rest cc D h=>by cases h⟩
  intro cc A _ π0 T a0 _ r n w0 QA s a w R h;cases A;exact wpIn_goto ⟨s,h,R⟩
 |scope c ih=>
  refine⟨?_,λl rest cc D h=>by cases h⟩
  intro cc A B π0 T a0 hT r n w0 QA s a w R h;simp only[ei]at A
  split at A<;>try(cases A;done)
  rename_i c' Z
  split at A<;>try(cases A;done)
  rename_i l hl;simp only[eg]at A;obtain⟨cr,au,rfl⟩:=A;simp only[br.fits,ed]at B;simp only[br.writes,il,not_or]at hT
  have hs:=D5 c c' Z l
  rw[au]at hs
  cases an:findLabel c l with
  |none=>rw[an]at hs;cases hs
  |some rest=>
   refine Lk an (Bm P nt n0 w0 π0 r T a0 (λ_=>aw (Pure P) cr (IS QA)) .normal) (Hb (ih.1 c' Z B.1 π0 T a0 (λt E=>(hT t E).1) r n w0 _ s a w R h) ?_) ?_
   ·rintro e a' w' ⟨s',O,R'⟩
    cases e with
    |goto l'=>exact⟨O.1,s',O.2,R'⟩
    |_=>exact⟨s',O,R'⟩
   ·rintro a' w' ⟨s',O,R'⟩
    refine Hb (ih.2 l rest c' cr an Z au B.2 π0 T a0 (λt E=>(hT t E).2) r n w0 _ s' a' w' R' O) ?_
    rintro e a2 w2 ⟨s2,a5,R2⟩
    cases e with
    |goto l'=>exact a5.elim
    |_=>exact⟨s2,a5,R2⟩
 |_=>exact⟨λcc A=>(by cases A),λl rest cc D h=>(by cases h)⟩
theorem Jg{A:Bool} (hm:P.follows .mixedOrders=true):∀(c:Code) (cc:br),ei A P c=some cc->cc.fits nt=true->∀(π0:Nat->Nat->Prop) (T:Nat->Prop) (a0:Act),(∀t,T t->¬t∈cc.writes)->∀(r:Option Nat) (n:Nat) (w0:World) (QA:Exit->S->Prop) (s:S) (a:Act) (w:World),
  yf P nt n0 w0 π0 r T a0 s a w->aw (Pure P) cc QA s->c.wpIn (FW r) n P (Bm P nt n0 w0 π0 r T a0 QA) a w:=λc cc B=>(N4 hm c).1 cc B
end
end
open Go.RowKit (Below)
section
variable (res:List ke) (r:AV) (fr:Option Nat) (css:List (List AV)) (s:S)
def jR:AV->SV
 | .ref cs=>.rp cs
 |a=>.dat a none
def slotsOf:Nat->List AV->List (Nat×SV)
 |_,[]=>[]
 |i,a::r=>(i,jR a)::slotsOf (i+1) r
def MN(args:List AV):S:=⟨slotsOf 0 args,[],[],4⟩
def cw:Nat->Nat->List (Option AV)->List (Nat×SV)
 |_,_,[]=>[]
 |i,k,some .hole::r=>(i,.pt 0 [(k,0)])::cw (i+1) (k+1) r
 |i,k,some a::r=>(i,jR a)::cw (i+1) k r
 |i,k,none::r=>(i,.ptr k 0)::cw (i+1) (k+1) r
def t7:Nat->List (List AV)->List (Nat×dH)
 |_,[]=>[]
 |k,cs::css=>(k,⟨cs,[]⟩)::t7 (k+1) css
def Jh(args:List (Option AV)):S:=⟨cw 0 0 args,t7 0 css,[],4⟩
def qh(l:List (Nat×dH)):Nat->List (List AV)->Prop
 |_,[]=>True
 |k,cs::css=>ax (dh k l) (λx=>x.cells=cs)/\qh l (k+1) css
def N5:ke->Option (AV×Option Nat)
 | .tmp t=>match lk t s.slots with
  |some (.dat a q)=>some (a,q)
  |_=>none
 | .cell t A=>match lk t s.slots with
  |some (.ptr b off)=>match dh b s.boxes with
   |some bx=>match aF bx.cells off A with
    |some a=>some (a,match A with|none=>fq off bx.tags|some _=>none)
    |none=>none
   |none=>none
  |_=>none
def nU(s:S):List ke->Option (List AV)
 |[]=>some []
 |r::A=>match N5 s r,nU s A with
  |some p,some as=>some (p.1::as)
  |_,_=>none
def f8:List ke->Option (AV×Option Nat)
 |[r]=>N5 s r
 |A=>(nU s A).map λas=>(.dF as,none)
def Ll(q:Option Nat) (live:List (Nat×Nat)):Prop:=
 match fr with
 |none=>True
 |some e=>match q with
  |some A=>fq A live=some e
  |none=>False
def fin:Exit->S->Prop
 | .normal,s=>ax (f8 s res) λp=>p.1=r/\Ll fr p.2 s.live
 | .ret,s=>ax (f8 s res) λp=>p.1=r/\Ll fr p.2 s.live
 |_,_=>False
def Lm:Exit->S->Prop
 | .normal,s=>ax (f8 s res) λp=>p.1=r/\Ll fr p.2 s.live/\qh s.boxes 0 css
 | .ret,s=>ax (f8 s res) λp=>p.1=r/\Ll fr p.2 s.live/\qh s.boxes 0 css
 |_,_=>False
theorem zk{β:Nat->Nat} {τ:Nat->Value} {w:World} {π:Nat->Nat->Prop} {U:Nat->Prop} {a:AV} {x:Value} (h:DV w π a x):RV β τ w π (jR a) x/\(jR a).gS U:=by
 cases a with
 |ref cs=>exact⟨RV.ref.2 h,trivial⟩
 |_=>exact⟨⟨h,λt A=>by cases A⟩,trivial⟩
theorem D7:∀{args:List AV} {i t:Nat} {v:SV},lk t (slotsOf i args)=some v->∃a,i<=t/\args[t-i]? =some a/\v=jR a
 |[],i,t,v,h=>by cases h
 |a::r,i,t,v,h=>by
  simp only[slotsOf,lk,ki]at h;split at h
  ·rename_i e;cases h;subst e;exact⟨a,ia _,TB,rfl⟩
  ·obtain⟨b,D,A,B⟩:=D7 h
   refine⟨b,ST,?_,B⟩
   rw[show t-i=(t-(i+1))+1 by omega]
   simpa using A
end
section
variable{P:Program} {nt:Nat} {n0:kL} {w0:World} {π0:Nat->Nat->Prop} {U:Nat->Prop} {s:S} {a:Act} {w:World} {β:Nat->Nat} {τ:Nat->Value} {π:Nat->Nat->Prop}
section
variable {av:AV} {q:Option Nat}
def rN(A:Array Value):ResultVar->Sem Value
 | .tmp t=>pure (A.getD t undef)
 | .cell a t=>do loadVar t (<-asAddr (A.getD a undef))
theorem MO(R:Rel P nt n0 w0 π0 U s a w β τ π) {O:ResultVar} {cr:ke} (Z:NN P O=some cr) (h:N5 s cr=some (av,q)):
  ∃v,(rN a.tmps O).run P w=.ok v w/\DV w π av v/\(∀t,q=some t->v=τ t):=by
 cases O with
 |tmp t=>
  cases Z;simp only[N5]at h
  split at h<;>try(cases h;done)
  rename_i a' q' L;cases h;obtain⟨⟨x,M,B⟩,_⟩:=R.slots t _ L
  exact⟨x,by simp[rN,M],B.1,B.2⟩
 |cell E t=>
  simp only[NN,eg]at Z;obtain⟨V,ab,rfl⟩:=Z;simp only[N5]at h
  split at h<;>try(cases h;done)
  rename_i b off L
  split at h<;>try(cases h;done)
  rename_i bx hb
  split at h<;>try(cases h;done)
  rename_i a' hp;cases h
  have aa:bS (Pure P) 0 (.ld (.t E) V) (λv s'=>v=.dat av (match(generalizing:=false) V with|none=>fq off bx.tags|some _=>none)) s:=by
   simp only[bS,bX,L,aG,hb,hp]
   cases V<;>rfl
  obtain⟨v,y,B,D,_,hK⟩:=R.load (X:=.tmp E) rfl ab aa
  subst hK;obtain⟨⟨x,M,ac⟩,_⟩:=R.slots E _ L
  have A:x=.pointer (some ⟨β b,off,none⟩):=ac
  have he:a.eval (.tmp E)=x:=by simp[Act.eval,M]
  refine⟨y,?_,D.1,D.2⟩;rw[he,A]at B;simp[Instr.loadAt,Instr.sureAddr]at B;simp[rN,M,A,asAddr,B]
theorem Ji(R:Rel P nt n0 w0 π0 U s a w β τ π):∀{B:List ResultVar} {A:List ke},B.mapM (NN P)=some A->∀{as:List AV},nU s A=some as->
  ∃vs,(B.mapM (rN a.tmps)).run P w=.ok vs w/\jn w π as vs
 |[],A,D,as,h=>by
  simp at D;subst D;simp[nU]at h;subst h
  exact⟨[],TB,.nil _ _⟩
 |rv::B,A,D,as,h=>by
  simp only[tp,pC,jp,vx,fo]at D;obtain⟨cr,L,V,E,rfl⟩:=D;simp only[nU]at h
  split at h<;>try(cases h;done)
  rename_i p aa h1 h2;cases h
  obtain⟨v,Z,hd,_⟩:=MO R L (av:=p.1) (q:=p.2) h1
  obtain⟨vs,M,O⟩:=Ji R E h2
  exact⟨v::vs,by simp[tp,Z,M],.cons hd O⟩
theorem Lo(fn:Func) (A:Array Value):results fn A=(do let vs<-fn.results.mapM (rN A);pure (if h:vs.size=1 then vs[0]else .tuple vs)):=by
 unfold results
 congr 1
theorem D8(R:Rel P nt n0 w0 π0 U s a w β τ π) {fn:Func} {A:List ke} (V:fn.results.toList.mapM (NN P)=some A) (h:f8 s A=some (av,q)):
  ∃v,(results fn a.tmps).run P w=.ok v w/\DV w π av v/\(∀t,q=some t->v=τ t):=by
 have go:∀vs:List Value,(fn.results.toList.mapM (rN a.tmps)).run P w=.ok vs w->(results fn a.tmps).run P w=.ok (if h:vs.length=1 then vs[0]else .tuple vs.toArray) w:=by
  intro vs O
  have:(fn.results.mapM (rN a.tmps)).run P w=.ok vs.toArray w:=by
   have e:fn.results=fn.results.toList.toArray:=TB
   rw[e,List.mapM_toArray,Sem.run_map,O];rfl
  rw[Lo,fi,this];simp
 have ab:(∀r,A≠[r])->f8 s A=(nU s A).map λas=>(.dF as,none):=by
  intro B
  cases A with
  |nil=>rfl
  |cons r rs=>
   cases rs with
   |nil=>exact absurd rfl (B r)
   |cons r' rs=>rfl
 by_cases E:∃r,A=[r]
 ·obtain⟨r,rfl⟩:=E
  cases M:fn.results.toList with
  |nil=>rw[M]at V;simp at V
  |cons rv Z=>
   rw[M]at V;simp only[tp,pC,jp,vx,fo]at V;obtain⟨cr,ac,ae,D,he⟩:=V;cases he
   have aa:Z=[]:=by
    cases Z with
    |nil=>rfl
    |cons x xs=>
     simp only[tp,pC,jp,vx,fo]at D;obtain⟨_,_,_,_,h⟩:=D;cases h
   subst aa;obtain⟨v,hv,hd,hq⟩:=MO R ac h;refine⟨v,?_,hd,hq⟩
   rw[go [v] (by rw[M];simp[hv])]
   simp
 ·have B:∀r,A≠[r]:=λr e=>E ⟨r,e⟩
  rw[ab B]at h;simp only[eg,Prod.mk.injEq]at h;obtain⟨as,has,rfl,rfl⟩:=h;obtain⟨vs,O,L⟩:=Ji R V has
  have ad:A.length=vs.length:=by
   have:∀{A:List ke} {as:List AV},nU s A=some as->A.length=as.length:=by
    intro A
    induction A with
    |nil=>intro as h;simp[nU]at h;subst h;rfl
    |cons c A ih=>
     intro as h;simp only[nU]at h
     split at h<;>try(cases h;done)
     rename_i p ag h1 h2;cases h;simp[ih h2]
   rw[this has,L.1]
  refine⟨.tuple vs.toArray,?_,.dF as vs.toArray (by simpa using L.1) (λi a v ha hv=>L.2 i a v ha (by simpa using hv)),λt ht=>by cases ht⟩
  rw[go vs O]
  have:¬vs.length=1:=by
   intro e;rw[<-ad]at e
   match A,e,B with
   |[r],_,B=>exact B r rfl
  rw[dif_neg this]
end
end
section
variable{P:Program}
section
variable {A:List (List AV)} {U:Nat->Prop} {a:Act} {cf:bB} {css:List (List AV)} {f:FuncId} {fr:Option Nat} {mo:Bool} {nt:Nat} {r:AV} {s:S} {w w':World} {β:Nat->Nat} {π π':Nat->Nat->Prop} {τ:Nat->Value}
theorem Jj{M:Bool} (A:K4 M P f=some cf):∃(fn:Func) (c:Code) (cc:br),P.funcs[f]? =some fn/\fn.body=some c/\fn.results.toList.mapM (NN P)=some cf.res/\ei M P c=some cc/\cf.code=cc/\cf.nt=fn.ntmps/\cc.fits fn.ntmps=true/\dB P f=true:=by
 unfold K4 at A
 split at A<;>try(cases A;done)
 rename_i fn L
 split at A<;>try(cases A;done)
 rename_i c O hbody E
 split at A<;>try(cases A;done)
 rename_i cc D
 split at A<;>try(cases A;done)
 rename_i B;cases A;simp only[ed]at B;exact⟨fn,c,cc,L,hbody,E,D,rfl,rfl,B.1,B.2⟩
theorem MP{c:Code} {Q:Exit->Act->World->Prop} (h:c.wpIn (FW none) 0 P Q a w):c.wpIn Fence.wide 0 P Q a w:=h
theorem kq{nt:Nat} {n0:kL} {w:World} {π:Nat->Nat->Prop} {s:S} {a:Act} {fn:Func} {R:Ending->World->Prop}
  (A:∀w',gx P nt n0 w π s a w'->∃v,(results fn a.tmps).run P w'=.ok v w'/\R (.returned v) w'):
  ∀(E:List Nat) (w':World),E.Nodup->(∀D∈E,n0.n<=D/\w'.heap[D]? =some (.deferred (some [])))->gx P nt n0 w π s a w'->w.heap.size<=n0.n->LeavesInM Fence.wide 0 P fn a.tmps R (E.map Wn) .returning w'
 |[],w',_,_,R',_=>A w' R'
 |D::E,w',B,hD,R',V=>by
  obtain⟨O,M⟩:=hD D lr;simp only[wa]at B
  refine⟨TB,.inl ⟨D,_,rfl,run_takeDeferred M,?_⟩⟩
  refine kq A E _ B.2 (λD' L=>?_) ((R'.putObj M rfl rfl).ZV (R'.below.putObj (ka V O) O _) R'.gI (λb o hb=>(l6 M rfl rfl _).trans (R'.kept b o hb))) V
  obtain⟨g1,Z⟩:=hD D' (kp _ L)
  exact⟨g1,(sd (λe=>B.1 (by rw[<-e];exact L))).trans Z⟩
theorem TA(hm:P.follows .mixedOrders=true) (an:K4 mo P f=some cf) {args:List AV} (hn:args.length<=cf.nt) (h:aw (Pure P) cf.code (fin cf.res r fr) (MN args)):Gb P f args r fr:=by
 obtain⟨fn,c,cc,al,hbody,ag,ae,ec,en,ac,O⟩:=Jj an;rw[ec]at h;rw[en]at hn
 refine⟨O,λw π vs M hd=>?_⟩
 have ao:=hd.1
 have R:gx P fn.ntmps (kL.top w) w π (MN args) {tmps:=vs.toArray++Array.replicate (fn.ntmps-vs.toArray.size) undef,defers:=[]} w:=by
  refine⟨ia 4,id,λ_=>undef,π,λn=>n<4,λ_ h=>h,?_⟩
  refine{size:=?_,slots:=?_,boxes:=λb x h=>(by cases h),inj:=λb b' x x' h=>(by cases h),live:=λq e h=>(by cases h),dm:=λq q' e e' B h=>(by cases h),dG:=λq e b x h=>(by cases h),below:=.refl _ _,gI:=ia _,gj:=M,gu:=λ_ _ h=>h,dW:=λ_ _ h=>.inl h,nL:=λ_ _=>rfl,jP:=λ_ h=>h,kept:=λ_ _ _=>rfl}
  ·simp;omega
  ·intro t v hv
   obtain⟨av,_,A,rfl⟩:=D7 hv;simp only[Nat.sub_zero]at A;obtain⟨x,hx,Z⟩:=hd.get A
   refine⟨⟨x,?_,(zk (U:=λn=>n<4) Z).1⟩,(zk (β:=id) (τ:=λ_=>undef) Z).2⟩
   have ad:t<vs.length:=(er.1 hx).1
   simp[Array.getElem?_append,ad]
   simpa using(er.1 hx).2
 refine callsIn_wide.1 (callsIn_of_wp_marks (n:=0) (F:=Fence.wide) al hbody trivial (Hb (MP (Jg hm c cc ae ac _ (λ_=>False) ⟨#[],[]⟩ (λ_ h=>h.elim) none 0 w _ _ _ _ ⟨R,λl h=>by(cases h),⟨[],rfl,.nil,TB⟩,λ_ h=>h.elim⟩ h)) ?_))
 have L:∀(s:S) (a':Act) (w':World),(ax (f8 s cf.res) λp=>p.1=r/\Ll fr p.2 s.live)->gx P fn.ntmps (kL.top w) w π s a' w'->
   ∃v,(results fn a'.tmps).run P w'=.ok v w'/\∃u π',Ending.returned v=.returned u/\Below w.heap.size w w'/\(∀b o,π b o->π' b o)/\(∀b o,π' b o->π b o\/w.heap.size<=b)/\
    (∀b o,π' b o->b<w'.heap.size)/\DV w' π' r u/\∀t,fr=some t->Hl P w' π' (λB=>w.heap.size<=B) t u:=by
  rintro s a' w' V ⟨_,β,τ,π',U,hU,R'⟩
  obtain⟨⟨av,q⟩,hp,A,D⟩:=ah V;simp only at A D;subst A;obtain⟨v,hv,ak,am⟩:=D8 R' ag hp
  refine⟨v,hv,v,π',rfl,R'.below.below (λ_ h=>h),R'.gu,λb o h=>(R'.dW b o h).imp id (λh=>h.elim id (λh=>h.elim)),R'.gj,ak,λt ht=>?_⟩
  subst ht;simp only[Ll]at D
  cases q with
  |none=>exact D.elim
  |some q=>
   rw[am q rfl]
   exact(R'.live q t D).2.weaken (λB h=>h.elim id (λh=>h.elim))
 rintro e a' w' ⟨s,V,R',_,⟨Ds,E,ab,aa⟩,_⟩
 have E:a'.defers=Ds.map Wn:=by simpa using E
 cases e with
 |normal=>show LeavesInM _ _ _ _ _ _ a'.defers _ _;rw[E];exact kq (L s a' · V) Ds w' ab aa R' (ia _)
 |ret=>show LeavesInM _ _ _ _ _ _ a'.defers _ _;rw[E];exact kq (L s a' · V) Ds w' ab aa R' (ia _)
 |_=>exact V.elim
theorem vW{w:World} {π:Nat->Nat->Prop}:∀{args:List (Option AV)} {Bs:List Nat} {vs:List Value},gh w π args Bs vs->∀{i k t:Nat} {v:SV},lk t (cw i k args)=some v->
  ∃x,i<=t/\vs[t-i]? =some x/\((∃a,v=jR a/\DV w π a x)\/∃j B,Bs[j]? =some B/\((v=.ptr (k+j) 0/\x=.pointer (some ⟨B,0,none⟩))\/(v=.pt 0 [(k+j,0)]/\x=.agg #[.pointer (some ⟨B,0,none⟩)])))
 |[],Bs,vs,D,i,k,t,v,h=>by cases h
 |some a::args,Bs,[],D,i,k,t,v,h=>by cases Bs<;>cases a<;>exact D.elim
 |some a::args,Bs,x::vs,D,i,k,t,v,h=>by
  rcases nM D with⟨rfl,B,aa,rfl,O,A⟩|⟨V,A⟩
  ·simp only[cw,lk,ki]at h
   split at h
   ·rename_i e;cases h;subst e
    exact⟨x,ia _,TB,.inr ⟨0,B,rfl,.inr ⟨rfl,O⟩⟩⟩
   ·obtain⟨y,R,M,E⟩:=vW A h
    refine⟨y,ST,?_,?_⟩
    ·rw[show t-i=(t-(i+1))+1 by omega];simpa using M
    ·rcases E with E|⟨j,B',hB,L⟩
     ·exact .inl E
     ·exact .inr ⟨j+1,B',by simpa using hB,by rw[show k+(j+1)=k+1+j by omega];exact L⟩
  have Z:cw i k (some a::args)=(i,jR a)::cw (i+1) k args:=by cases a<;>first|rfl|exact absurd rfl V
  rw[Z]at h;simp only[lk,ki]at h;split at h
  ·rename_i e;cases h;subst e
   exact⟨x,ia _,TB,.inl ⟨a,rfl,A.1⟩⟩
  ·obtain⟨y,R,M,E⟩:=vW A.2 h
   refine⟨y,ST,?_,E⟩
   rw[show t-i=(t-(i+1))+1 by omega];simpa using M
 |none::args,[],vs,D,i,k,t,v,h=>by cases vs<;>exact D.elim
 |none::args,B::Bs,[],D,i,k,t,v,h=>D.elim
 |none::args,B::Bs,x::vs,D,i,k,t,v,h=>by
  obtain⟨O,A⟩:=D;simp only[cw,lk,ki]at h;split at h
  ·rename_i e;cases h;subst e
   exact⟨x,ia _,TB,.inr ⟨0,B,rfl,.inl ⟨rfl,O⟩⟩⟩
  ·obtain⟨y,R,M,E⟩:=vW A h
   refine⟨y,ST,?_,?_⟩
   ·rw[show t-i=(t-(i+1))+1 by omega];simpa using M
   ·rcases E with E|⟨j,B',hB,L⟩
    ·exact .inl E
    ·exact .inr ⟨j+1,B',by simpa using hB,by rw[show k+(j+1)=k+1+j by omega];exact L⟩
theorem D9:∀{css:List (List AV)} {k b:Nat} {x:dH},dh b (t7 k css)=some x->∃cs,k<=b/\css[b-k]? =some cs/\x=⟨cs,[]⟩
 |[],k,b,x,h=>by cases h
 |cs::css,k,b,x,h=>by
  simp only[t7,dh,ki]at h;split at h
  ·rename_i e;cases h;subst e;exact⟨cs,ia _,TB,rfl⟩
  ·obtain⟨A,E,D,B⟩:=D9 h
   refine⟨A,ST,?_,B⟩
   rw[show b-k=(b-(k+1))+1 by omega];simpa using D
theorem Bn{w:World} {π:Nat->Nat->Prop}:∀{args:List (Option AV)} {Bs:List Nat} {vs:List Value},gh w π args Bs vs->args.length=vs.length
 |[],Bs,vs,h=>by cases Bs<;>cases vs<;>first|rfl|exact h.elim
 |some a::args,Bs,[],h=>by cases Bs<;>cases a<;>exact h.elim
 |some a::args,Bs,v::vs,h=>by
  rcases nM h with⟨_,_,_,_,_,A⟩|⟨_,_,A⟩<;>simp[Bn A]
 |none::args,[],vs,h=>by cases vs<;>exact h.elim
 |none::args,B::Bs,[],h=>h.elim
 |none::args,B::Bs,v::vs,h=>by simp[Bn h.2]
theorem Gt:∀{l:List Nat},l.Nodup->∀(i j:Nat) (x:Nat),l[i]? =some x->l[j]? =some x->i=j
 |[],_,i,j,x,h,_=>by simp at h
 |a::l,D,i,j,x,B,A=>by
  rw[wa]at D
  cases i with
  |zero=>cases j with
   |zero=>rfl
   |succ j=>simp at B A;subst B;exact absurd (em A) D.1
  |succ i=>cases j with
   |zero=>simp at B A;subst A;exact absurd (em B) D.1
   |succ j=>rw[Gt D.2 i j x (by simpa using B) (by simpa using A)]
theorem Ea{l:List (Nat×dH)} {w:World} {π:Nat->Nat->Prop} {β:Nat->Nat} (A:∀b x,dh b l=some x->tC (λ_=>undef) w π (β b) ⟨x.cells,[]⟩):
  ∀{css:List (List AV)} {Bs:List Nat} {k:Nat},css.length=Bs.length->(∀j B,Bs[j]? =some B->β (k+j)=B)->qh l k css->dV w π css Bs
 |[],[],k,_,_,_=>trivial
 |[],B::Bs,k,h,_,_=>by simp at h
 |cs::css,[],k,h,_,_=>by simp at h
 |cs::css,B::Bs,k,h,E,D=>by
  obtain⟨x,M,e⟩:=ah D.1
  refine⟨?_,Ea A (by simpa using h) (λj B' L=>by rw[show k+1+j=k+(j+1)by omega];exact E (j+1) B' (by simpa using L)) D.2⟩
  have:=A k x M
  rw[<-e,<-E 0 B rfl];exact this
theorem Eb{w:World} {π:Nat->Nat->Prop}:∀{css:List (List AV)} {Bs:List Nat},dV w π css Bs->∀B∈Bs,∀o,¬π B o
 |[],[],_,B,hB=>by cases hB
 |[],_::_,h,_,_=>h.elim
 |_::_,[],h,_,_=>h.elim
 |cs::css,B'::Bs,h,B,hB=>by
  rcases mp.1 hB with rfl|hB
  ·obtain⟨_,_,_,_,_,_,A⟩:=h.1;exact A
  ·exact Eb h.2 B hB
theorem Rel.aao{P:Program} {Bs:List Nat} (R:Rel P nt (kL.tD w Bs) w π U s a w' β τ π') (M:css.length=Bs.length) (V:css.length<=4) (O:A.length=css.length) (D:qh s.boxes 0 A):dV w' π' A Bs:=by
 refine Ea (β:=β) (λb x L=>(R.boxes b x L).2.2.1.Bg) ST (λj B E=>?_) D
 have:j<Bs.length:=(er.1 E).1
 rw[la,R.nL j ST]
 simp[kL.tD,E]
theorem Gu{l:List (Nat×dH)}:∀{css:List (List AV)} {k j:Nat},qh l k css->j<css.length->∃x,dh (k+j) l=some x
 |[],k,j,_,A=>by simp at A
 |cs::css,k,j,h,A=>by
  cases j with
  |zero=>obtain⟨x,B,_⟩:=ah h.1;exact⟨x,B⟩
  |succ j=>
   obtain⟨x,B⟩:=Gu h.2 (by simpa using A)
   exact⟨x,by rw[show k+(j+1)=k+1+j by omega];exact B⟩
theorem Rel.FX{P:Program} {Bs:List Nat} (R:Rel P nt (kL.tD w Bs) w π U s a w' β τ π') (aa:css.length=Bs.length) (h4:css.length<=4) (hl:A.length=css.length) (M:qh s.boxes 0 A) {q e:Nat} (O:fq q s.live=some e):Hl P w' π' (λB=>w.heap.size<=B) e (τ q):=by
 have ht:=(R.live q e O).2
 rcases ht with h|⟨B,len,cap,E,i,Z,L,D⟩
 ·exact .inl h
 ·refine .inr ⟨B,len,cap,E,i,Z,?_,D⟩
  rcases L with h|h
  ·exact h
  ·exfalso
   obtain⟨j,V⟩:=l3.1 (show B∈Bs from h)
   have ab:j<Bs.length:=(er.1 V).1
   obtain⟨x,hx⟩:=Gu M (j:=j) ST
   rw[la]at hx;refine R.dG q e j x O hx ?_
   rw[Z,R.nL j ST]
   simp[kL.tD,jq,V]
theorem P3(hm:P.follows .mixedOrders=true) (ba:K4 mo P f=some cf) {args:List (Option AV)} (hn:args.length<=cf.nt) (hl:A.length=css.length) (h4:css.length<=4) (h:aw (Pure P) cf.code (Lm cf.res r fr A) (Jh css args)):DH P f css args r fr A:=by
 obtain⟨fn,c,cc,a9,hbody,ar,ao,ec,en,am,ac⟩:=Jj ba;rw[ec]at h;rw[en]at hn
 refine⟨ac,hl,h4,λw π Bs vs aa a6 au hd=>?_⟩
 have bd:=Bn hd
 obtain⟨ad,ab⟩:=au.get
 have hβ:∀(j B:Nat),Bs[j]? =some B->(kL.tD w Bs).β j=B:=λj B hj=>by simp[kL.tD,hj]
 have R:gx P fn.ntmps (kL.tD w Bs) w π (Jh css args) {tmps:=vs.toArray++Array.replicate (fn.ntmps-vs.toArray.size) undef,defers:=[]} w:=by
  refine⟨ia 4,(kL.tD w Bs).β,λ_=>undef,π,λn=>n<4,λ_ h=>h,?_⟩
  have D:∀b x,dh b (Jh css args).boxes=some x->∃B cs,b<4/\Bs[b]? =some B/\(kL.tD w Bs).β b=B/\x=⟨cs,[]⟩/\tC (λ_=>undef) w π B ⟨cs,[]⟩:=by
   intro b x hb;obtain⟨cs,_,Z,h3⟩:=D9 hb;simp only[Nat.sub_zero]at Z
   have be:b<css.length:=(er.1 Z).1
   have hB:Bs[b]? =some Bs[b]:=dT ST
   exact⟨_,cs,ST,hB,hβ _ _ hB,h3,ab b cs _ Z hB⟩
  refine{size:=?_,slots:=?_,boxes:=?_,inj:=?_,live:=λq e h=>(by cases h),dm:=λq q' e e' B h=>(by cases h),dG:=λq e b x h=>(by cases h),below:=.refl _ _,gI:=ia _,gj:=aa,gu:=λ_ _ h=>h,dW:=λ_ _ h=>.inl h,nL:=λ_ _=>rfl,jP:=λ_ h=>h,kept:=λ_ _ _=>rfl}
  ·simp;omega
  ·intro t v hv
   obtain⟨x,_,hx,a4⟩:=vW hd hv;simp only[Nat.sub_zero]at hx
   have an:t<vs.length:=(er.1 hx).1
   have E:(vs.toArray++Array.replicate (fn.ntmps-vs.toArray.size) undef)[t]? =some x:=by
    simp[Array.getElem?_append,an]
    simpa using(er.1 hx).2
   rcases a4 with⟨a,rfl,al⟩|⟨j,B,hB,⟨rfl,rfl⟩|⟨rfl,rfl⟩⟩
   ·exact⟨⟨x,E,(zk (U:=λn=>n<4) al).1⟩,(zk (β:=id) (τ:=λ_=>undef) al).2⟩
   ·refine⟨⟨_,E,?_⟩,?_⟩
    ·show Value.pointer (some ⟨B,0,none⟩)=.pointer (some ⟨(kL.tD w Bs).β (0+j),0,none⟩)
     rw[la,hβ j B hB]
    ·have:j<Bs.length:=(er.1 hB).1
     show 0+j<4
     omega
   ·have hj:j<Bs.length:=(er.1 hB).1
    refine⟨⟨_,E,?_⟩,λp hp=>?_⟩
    ·show Value.agg #[.pointer (some ⟨B,0,none⟩)]=.agg #[.pointer (some ⟨(kL.tD w Bs).β (0+j),0,none⟩)]
     rw[la,hβ j B hB]
    ·simp at hp;subst hp
     show j<4
     omega
  ·intro b x hb
   obtain⟨B,cs,h1,Z,h3,rfl,h5⟩:=D b x hb
   exact⟨h1,.inr ⟨h1,by rw[h3];exact em Z⟩,by rw[h3];exact h5,λo q hq=>by cases hq⟩
  ·intro b b' x x' hb a7 e
   obtain⟨B,_,_,Z,h3,_,_⟩:=D b x hb;obtain⟨B',_,_,a2,a5,_,_⟩:=D b' x' a7;rw[h3,a5]at e;subst e;exact Gt a6 b b' B Z a2
 refine callsIn_wide.1 (callsIn_of_wp_marks (n:=0) (F:=Fence.wide) a9 hbody trivial (Hb (MP (Jg hm c cc ao am _ (λ_=>False) ⟨#[],[]⟩ (λ_ h=>h.elim) none 0 w _ _ _ _ ⟨R,λl h=>by(cases h),⟨[],rfl,.nil,TB⟩,λ_ h=>h.elim⟩ h)) ?_))
 have V:∀(s:S) (a':Act) (w':World),(ax (f8 s cf.res) λp=>p.1=r/\Ll fr p.2 s.live/\qh s.boxes 0 A)->gx P fn.ntmps (kL.tD w Bs) w π s a' w'->
   ∃v,(results fn a'.tmps).run P w'=.ok v w'/\∃u π',Ending.returned v=.returned u/\A6 (kL.tD w Bs) w w'/\(∀b o,π b o->π' b o)/\(∀b o,π' b o->π b o\/w.heap.size<=b)/\
    (∀b o,π' b o->b<w'.heap.size)/\dV w' π' A Bs/\DV w' π' r u/\∀t,fr=some t->Hl P w' π' (λB=>w.heap.size<=B) t u:=by
  rintro s a' w' hq ⟨_,β,τ,π',U,hU,R'⟩
  obtain⟨⟨av,q⟩,hp,ae,L,M⟩:=ah hq;simp only at ae L M;subst ae;obtain⟨v,hv,a3,a8⟩:=D8 R' ar hp
  have hB:=R'.aao ad h4 hl M
  refine⟨v,hv,v,π',rfl,R'.below,R'.gu,λb o h=>(R'.dW b o h).imp id (λk=>k.elim id (λk=>absurd h (Eb hB b k o))),R'.gj,?_,a3,λt ht=>?_⟩
  ·refine Ea (β:=β) (λb x hb=>(R'.boxes b x hb).2.2.1.Bg) ST (λj B hj=>?_) M
   have:j<Bs.length:=(er.1 hj).1
   rw[la,R'.nL j ST]
   exact hβ j B hj
  ·subst ht
   simp only[Ll]at L
   cases q with
   |none=>exact L.elim
   |some q=>
    rw[a8 q rfl];exact R'.FX ad h4 hl M L
 rintro e a' w' ⟨s,hq,R',_,⟨Ds,O,ak,ag⟩,_⟩
 have O:a'.defers=Ds.map Wn:=by simpa using O
 cases e with
 |normal=>show LeavesInM _ _ _ _ _ _ a'.defers _ _;rw[O];exact kq (V s a' · hq) Ds w' ak ag R' (ia _)
 |ret=>show LeavesInM _ _ _ _ _ _ a'.defers _ _;rw[O];exact kq (V s a' · hq) Ds w' ak ag R' (ia _)
 |_=>exact hq.elim
end
end
end Go.Eng
