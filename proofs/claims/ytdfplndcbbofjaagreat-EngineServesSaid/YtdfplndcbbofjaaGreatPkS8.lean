/- Part 8 of the engine and its library. -/
import Derived.Test.YtdfplndcbbofjaaGreatPkS7
set_option linter.all false
set_option maxRecDepth 10000
set_option maxHeartbeats 4000000
namespace Go.Eng
open Go
open Go.RowKit (Below)
theorem M8:∀{l:List (Nat×SV)} {t:Nat} {v:SV},lk t l=some v->(t,v)∈l
 |[],t,v,h=>by cases h
 |(m,u)::r,t,v,h=>by
  simp only[lk,jh]at h;split at h
  ·rename_i e;cases h;subst e;exact ip ..
  ·exact ii _ (M8 h)
theorem v8:∀{l:List (Nat×cI)} {t:Nat} {v:cI},b9 t l=some v->(t,v)∈l
 |[],t,v,h=>by cases h
 |(m,u)::r,t,v,h=>by
  simp only[b9,jh]at h;split at h
  ·rename_i e;cases h;subst e;exact ip ..
  ·exact ii _ (v8 h)
theorem pG:∀{l:List (Nat×Nat)} {t:Nat} {v:Nat},dY t l=some v->(t,v)∈l
 |[],t,v,h=>by cases h
 |(m,u)::r,t,v,h=>by
  simp only[dY,jh]at h;split at h
  ·rename_i e;cases h;subst e;exact ip ..
  ·exact ii _ (pG h)
theorem y8{m:List (Nat×Nat)} {nx:Nat} {a:List (Nat×SV)}:∀{l:List (Nat×SV)},gj m nx a l->∀t v,(t,v)∈l->∃u,lk t a=some u/\Ay m nx u v
 |[],h,t,v,hm=>by cases hm
 |(B,A)::r,h,t,v,hm=>by
  rcases lw.1 hm with e|e
  ·cases e;exact af h.1
  ·exact y8 h.2 t v e
theorem uW{m:List (Nat×Nat)} {nx:Nat} {a:List (Nat×Nat)}:∀{l:List (Nat×Nat)},kT m nx a l->∀o q,(o,q)∈l->dY o a=some (Fp m q)/\q<nx
 |[],h,t,v,hm=>by cases hm
 |(B,A)::r,h,t,v,hm=>by
  rcases lw.1 hm with e|e
  ·cases e;exact h.1
  ·exact uW h.2 t v e
theorem kq{m:List (Nat×Nat)} {nx:Nat} {a:List (Nat×cI)}:∀{l:List (Nat×cI)},gQ m nx a l->∀b x,(b,x)∈l->∃y,b9 b a=some y/\y.cells=x.cells/\kT m nx y.tags x.tags/\b<nx
 |[],h,t,v,hm=>by cases hm
 |(L,D)::r,h,t,v,hm=>by
  rcases lw.1 hm with e|e
  ·cases e;obtain⟨y,A,B⟩:=af h.1;exact⟨y,A,B⟩
  ·exact kq h.2 t v e
theorem mh{m:List (Nat×Nat)} {nx:Nat} {a:List (Nat×Nat)}:∀{l:List (Nat×Nat)},oY m nx a l->∀q e,(q,e)∈l->dY (Fp m q) a=some e/\q<nx
 |[],h,t,v,hm=>by cases hm
 |(B,A)::r,h,t,v,hm=>by
  rcases lw.1 hm with e|e
  ·cases e;exact h.1
  ·exact mh h.2 t v e
theorem Di{α:Type} {f:α->Nat}:∀{l:List α},(l.map f).Nodup->∀x y,x∈l->y∈l->f x=f y->x=y
 |[],h,x,y,B,D,e=>by cases B
 |a::l,h,x,y,B,D,e=>by
  simp only[l4,xi]at h
  rcases lw.1 B with A|A<;>rcases lw.1 D with ky|ky
  ·rw[A,ky]
  ·exact absurd (by rw[<-A,e];exact Hc ky) h.1
  ·exact absurd (by rw[<-ky,<-e];exact Hc A) h.1
  ·exact Di h.2 x y A ky e
section
variable{P:Program} {nt:Nat} {n0:ju} {w0:World} {π0:Nat->Nat->Prop} {s s1:S} {a:Act} {w:World}
def eM(P:Program) (nt:Nat) (n0:ju) (w0:World) (π0:Nat->Nat->Prop) (s:S) (a:Act) (w:World):Prop:=
 4<=s.nx/\∃β τ π U,(∀n,U n->n<s.nx)/\Rel P nt n0 w0 π0 U s a w β τ π
theorem Rel.le{U:Nat->Prop} {β:Nat->Nat} {τ:Nat->Value} {π:Nat->Nat->Prop} (R:Rel P nt n0 w0 π0 U s a w β τ π) (h:Le s s1):eM P nt n0 w0 π0 s1 a w:=by
 obtain⟨h0,m,h1,h2,h3,V⟩:=h
 refine⟨h0,β,λq=>τ (Fp m q),π,λn=>n<s1.nx,λn h=>h,?_⟩
 refine{size:=R.size,slots:=?_,boxes:=?_,inj:=?_,live:=?_,cg:=?_,cz:=?_,below:=R.below,fc:=R.fc,ez:=R.ez,eJ:=R.eJ,cZ:=R.cZ,l8:=R.l8,iV:=λk hk=>by show k<s1.nx;omega,kept:=R.kept}
 ·intro t v hv
  obtain⟨u,hu,A⟩:=y8 h1 t v (M8 hv)
  obtain⟨⟨x,O,L⟩,hU⟩:=R.slots t u hu
  cases u with
  |dat au qu=>
   cases v with
   |dat av qv=>
    cases qv with
    |none=>
     have e:au=av:=by cases qu<;>exact A
     subst e
     exact⟨⟨x,O,L.1,λt ht=>by cases ht⟩,trivial⟩
    |some q=>
     cases qu with
     |none=>exact A.elim
     |some q0=>
      obtain⟨e,D,M⟩:=A;subst e
      refine⟨⟨x,O,L.1,λt ht=>?_⟩,M⟩
      cases ht
      show x=τ (Fp m q)
      rw[<-D];exact L.2 q0 rfl
   |_=>cases qu<;>exact A.elim
  |ptr b o=>
   cases v with
   |ptr b' o'=>
    obtain⟨Z,D,e3⟩:=A;subst Z D;exact⟨⟨x,O,L⟩,e3⟩
   |_=>exact A.elim
  |rp cs=>
   cases v with
   |rp al=>
    have e:cs=al:=A
    subst e;exact⟨⟨x,O,L⟩,trivial⟩
   |_=>exact A.elim
  |undef=>
   cases v with
   |undef=>exact⟨⟨x,O,L⟩,trivial⟩
   |_=>exact A.elim
  |vs b o n z=>
   cases v with
   |vs b' o' n' z'=>
    obtain⟨⟨Z,D⟩,⟨e3,e4⟩,V⟩:=A;subst Z D e3 e4;exact⟨⟨x,O,L⟩,V⟩
   |_=>exact A.elim
  |tW f as bs=>
   cases v with
   |tW f' ar a3=>
    obtain⟨Z,D,e3,V⟩:=A;subst Z D e3;exact⟨⟨x,O,L⟩,V⟩
   |_=>exact A.elim
  |raw q n=>cases v<;>exact A.elim
  |pt k ps=>
   cases v with
   |pt k' a2=>
    obtain⟨Z,D,V⟩:=A;subst Z D
    exact⟨⟨x,O,by cases k<;>exact L⟩,V⟩
   |_=>exact A.elim
 ·intro b x hb
  obtain⟨y,hy,ac,ab,ad⟩:=kq h2 b x (v8 hb)
  obtain⟨_,hn,⟨ag,el,c1,c2,c3,c4,c5⟩,M⟩:=R.boxes b y hy
  refine⟨ad,hn,⟨ag,el,c1,by rw[<-ac];exact c2,by rw[<-ac];exact c3,λo q ho=>?_,c5⟩,λo q ho=>?_⟩
  ·exact c4 o _ (uW ab o q (pG ho)).1
  ·exact(uW ab o q (pG ho)).2
 ·intro b b' x x' hb ao e
  obtain⟨y,hy,_⟩:=kq h2 b x (v8 hb)
  obtain⟨y',am,_⟩:=kq h2 b' x' (v8 ao)
  exact R.inj b b' y y' hy am e
 ·intro q e M
  obtain⟨h5,h6⟩:=mh h3 q e (pG M)
  exact⟨h6,(R.live _ e h5).2⟩
 ·intro q q' e e' B M an hB ak
  have hm:=pG M
  have aa:=pG an
  obtain⟨h5,_⟩:=mh h3 q e hm;obtain⟨ae,_⟩:=mh h3 q' e' aa
  have:=R.cg _ _ e e' B h5 ae hB ak
  have:=Di V _ _ hm aa this
  exact pb Prod.fst this
 ·intro q e b x M hb
  obtain⟨h5,_⟩:=mh h3 q e (pG M)
  obtain⟨y,hy,_⟩:=kq h2 b x (v8 hb)
  exact R.cz _ e b y h5 hy
variable{U:Nat->Prop} {β:Nat->Nat} {τ:Nat->Value} {π:Nat->Nat->Prop}
section
variable {a':Act} {w':World} (r:Option Nat)
theorem Rel.WZ(R:Rel P nt n0 w0 π0 U s a w β τ π) {A:World} (D:xO n0 A w) (B:n0.n<=A.heap.size) (hk:∀b o,π0 b o->w.cell? ⟨b,o,none⟩=A.cell? ⟨b,o,none⟩):Rel P nt n0 A π0 U s a w β τ π:={R with below:=D,fc:=B,kept:=hk}
theorem Rel.W0(R:Rel P nt n0 w0 π0 U s a w β τ π):Rel P nt n0 w π0 U s a w β τ π:=R.WZ (.refl _ _) (kf R.fc R.below.size) (λ_ _ _=>rfl)
theorem eM.below(R:eM P nt n0 w0 π0 s a w):xO n0 w0 w:=let ⟨_,_,_,_,_,_,R0⟩:=R;R0.below
theorem eM.fc(R:eM P nt n0 w0 π0 s a w):n0.n<=w0.heap.size:=let ⟨_,_,_,_,_,_,R0⟩:=R;R0.fc
theorem eM.WZ(R:eM P nt n0 w0 π0 s a w) {A:World} (D:xO n0 A w) (B:n0.n<=A.heap.size) (hk:∀b o,π0 b o->w.cell? ⟨b,o,none⟩=A.cell? ⟨b,o,none⟩):eM P nt n0 A π0 s a w:=let ⟨h,β,τ,π,U,hU,R⟩:=R;⟨h,β,τ,π,U,hU,R.WZ D B hk⟩
theorem eM.kept(R:eM P nt n0 w0 π0 s a w):∀b o,π0 b o->w.cell? ⟨b,o,none⟩=w0.cell? ⟨b,o,none⟩:=let ⟨_,_,_,_,_,_,R0⟩:=R;R0.kept
theorem eM.back{A:Nat->Nat->Prop} {B:World} (R:eM P nt n0 B A s a w) (L:∀b o,π0 b o->A b o) (D:∀b o,A b o->π0 b o\/n0.ok b) (M:xO n0 w0 w) (O:n0.n<=w0.heap.size) (hk:∀b o,π0 b o->w.cell? ⟨b,o,none⟩=w0.cell? ⟨b,o,none⟩):eM P nt n0 w0 π0 s a w:=
 let ⟨h,β,τ,π,U,hU,R⟩:=R
 ⟨h,β,τ,π,U,hU,{R with below:=M,fc:=O,kept:=hk,eJ:=λb o h=>R.eJ b o (L b o h),cZ:=λb o h=>(R.cZ b o h).elim (D b o) .inr}⟩
theorem eM.W0(R:eM P nt n0 w0 π0 s a w):eM P nt n0 w π0 s a w:=let ⟨h,β,τ,π,U,hU,R⟩:=R;⟨h,β,τ,π,U,hU,R.W0⟩
theorem eM.Uf(R:eM P nt n0 w0 π0 s a w) (h:a'.tmps=a.tmps):eM P nt n0 w0 π0 s a' w:=
 let ⟨h4,β,τ,π,U,hU,R⟩:=R
 ⟨h4,β,τ,π,U,hU,{R with size:=by rw[h];exact R.size,slots:=λt v A=>by rw[h];exact R.slots t v A}⟩
theorem eM.old(R:eM P nt n0 w0 π0 s a w) (A:Below w.heap.size w w'):eM P nt n0 w0 π0 s a w':=
 let ⟨h,β,τ,π,U,hU,R⟩:=R
 ⟨h,β,τ,π,U,hU,R.frame (λ_ _=>rfl) (λ_ _=>rfl) (λ_ h=>h) (λ_ _ h=>h) (λ_ _ h=>.inl h) (λb o h=>po (R.ez b o h) A.size) A⟩
theorem ku{w:World} {l:Nat} {o o':Obj} (h:w.heap[l]? =some o) (D:o.isCells=false) (A:o'.isCells=false) (x:Addr):(w.putObj l o').cell? x=w.cell? x:=by
 have B:=(kd.1 h).1
 by_cases e:x.block=l
 ·unfold World.cell?
  rw[e,QR B,h]
  cases o<;>cases o'<;>first|(cases D;done)|(cases A;done)|rfl
 ·exact World.cell?_of_block (s8 e)
theorem xO.putObj{n:ju} {w w':World} (h:xO n w w') {l:Nat} (B:w.heap.size<=l) (D:n.n<=l) (o:Obj):xO n w (w'.putObj l o):=
 ⟨h.os,h.tape,h.output,by simpa using h.size,λk hk A=>(s8 ST).trans (h.block k hk A),λk x hk A=>(s8 (by have:=(kd.1 hk).1;omega)).trans (h.others k x hk A)⟩
theorem eM.putObj(R:eM P nt n0 w0 π0 s a w) {l:Nat} {o o':Obj} (h:w.heap[l]? =some o) (hc:o.isCells=false) (aa:o'.isCells=false):eM P nt n0 (w.putObj l o') π0 s a (w.putObj l o'):=by
 obtain⟨h4,β,τ,π,U,hU,R⟩:=R
 have L:∀b o,π b o->(w.putObj l o').cell? ⟨b,o,none⟩=w.cell? ⟨b,o,none⟩:=λb x _=>ku h hc aa _
 have D:∀(B:Nat) (A:Array Value) (V:TypeId) (f:Nat×Nat),w.heap[B]? =some (.cells A V f)->(w.putObj l o').heap[B]? =w.heap[B]?:=λB A V f hB=>s8 (λe=>by subst e;rw[h]at hB;cases hB;cases hc)
 refine⟨h4,β,τ,π,U,hU,{R with slots:=?_,boxes:=?_,live:=?_,below:=.refl _ _,fc:=?_,ez:=?_,kept:=λ_ _ _=>rfl}⟩
 ·intro t v hv
  obtain⟨⟨x,hx,hr⟩,hu⟩:=R.slots t v hv
  exact⟨⟨x,hx,RV.mono (λ_ _=>rfl) (λ_ _=>rfl) (λ_ _ h=>h) L hu hr⟩,hu⟩
 ·intro b x O
  obtain⟨Z,M,g3,g4⟩:=R.boxes b x O
  have ab:=g3
  obtain⟨A,V,hh,_,_,_,hn⟩:=ab
  exact⟨Z,M,g3.keep (λ_ _=>rfl) g4 (D _ _ _ _ hh) (λ_ _ h=>h) L hn,g4⟩
 ·intro q e hq
  obtain⟨Z,M⟩:=R.live q e hq
  refine⟨Z,M.keep (λB hB=>?_) (λB o _ h=>h)⟩
  rcases M with e|⟨B',len,cap,A,i,e,_,hh,_⟩
  ·rw[e]at hB;cases hB
  ·rw[e]at hB;cases hB;exact D _ _ _ _ hh
 ·simpa using kf R.fc R.below.size
 ·intro b o O;simpa using R.ez b o O
theorem eM.cut(R:eM P nt n0 w0 π0 s a w) {wr:List Nat} {a1:Act} (hk:∀t,¬t∈wr->a.tmps[t]? =a1.tmps[t]?) (O:a1.tmps.size=nt):eM P nt n0 w0 π0 (xS wr s) a1 w:=by
 obtain⟨D,β,τ,π,U,M,R⟩:=R
 refine⟨D,β,τ,π,U,M,{R with size:=O,slots:=λt v A=>?_}⟩
 obtain⟨L,B⟩:=v7 A;rw[<-hk t L];exact R.slots t v B
theorem y9:∀{ps:List Nat} {xs:List AV} {s:S} {t:Array Value},(∀p∈ps,p<nt)->(∀x∈xs,iU x=true)->Rel P nt n0 w0 π0 U s {tmps:=t,defers:=[]} w β τ π->
  Rel P nt n0 w0 π0 U (rq ps xs s) {tmps:=(ps.zip (xs.map vJ)).foldl (λt p=>t.setIfInBounds p.1 p.2) t,defers:=[]} w β τ π
 |[],xs,s,t,_,_,R=>by cases xs<;>exact R
 |p::ps,[],s,t,_,_,R=>R
 |p::ps,x::xs,s,t,B,D,R=>by
  have M:=R.put (some p) (v:=.dat x none) (x:=vJ x) (λq A=>by cases A;exact B p ip) ⟨.flat (D x ip),λt ht=>by cases ht⟩ trivial
  exact y9 (ps:=ps) (xs:=xs) (λq A=>B q (ii _ A)) (λy L=>D y (ii _ L)) M
theorem AX:∀{ps:List Nat} {xs:List AV} {s:S},(rq ps xs s).nx=s.nx
 |[],xs,s=>by cases xs<;>rfl
 |p::ps,[],s=>rfl
 |p::ps,x::xs,s=>by rw[rq,AX];rfl
theorem p8:∀{l:List (Nat×Value)} {t:Array Value} {k:Nat},(∀p∈l,p.1≠k)->(l.foldl (λt p=>t.setIfInBounds p.1 p.2) t)[k]? =t[k]?
 |[],t,k,_=>rfl
 |p::l,t,k,h=>by
  rw[ns,p8 (λq A=>h q (ii _ A))]
  exact xr (h p ip)
def Dj(w:World):Prop:=∀l,r=some l->∃A,w.heap[l]? =some (.loop A)
def Ta(D:Nat):Deferred:={target:=.collected D,args:=#[]}
def Marks(B:List Deferred) (n0:ju) (a:Act) (w:World):Prop:=∃A:List Nat,a.defers=A.map Ta++B/\A.Nodup/\∀D∈A,n0.n<=D/\w.heap[D]? =some (.deferred (some []))
def uX(P:Program) (nt:Nat) (n0:ju) (w0:World) (π0:Nat->Nat->Prop) (r:Option Nat) (T:Nat->Prop) (a0:Act) (s:S) (a:Act) (w:World):Prop:=
 eM P nt n0 w0 π0 s a w/\Dj r w/\Marks a0.defers n0 a w/\∀t,T t->a.tmps[t]? =a0.tmps[t]?
def yc(P:Program) (nt:Nat) (n0:ju) (w0:World) (π0:Nat->Nat->Prop) (r:Option Nat) (T:Nat->Prop) (a0:Act) (QA:Exit->S->Prop) (e:Exit) (a:Act) (w:World):Prop:=∃s,QA e s/\uX P nt n0 w0 π0 r T a0 s a w
theorem eM.down(R:eM P nt n0 w0 π0 s a w) {F:S->Prop} (h:Eng.down F s):∃M,F M/\eM P nt n0 w0 π0 M a w:=by
 obtain⟨s1,⟨B,hF⟩|hF⟩:=h
 ·obtain⟨_,β,τ,π,U,hU,R⟩:=R
  rcases hF with hF|⟨ids,A,hF⟩
  ·exact⟨s1,hF,R.le B⟩
  ·obtain⟨css,L,hF⟩:=af hF
   simp only[dT]at A;obtain⟨V,β',τ',π',U',D,R'⟩:=R.le B
   obtain⟨Z,_,O,_⟩:=R'.vW (eH A.1) A.2 L
   exact⟨_,hF,by rw[vK];exact V,β',τ',Z,U',by rw[vK];exact D,O⟩
 ·exact⟨s,hF,R⟩
def AY(L:List (Nat×Obj)) (w:World):Prop:=∀p∈L,w.heap[p.1]? =some p.2
theorem AY.others{L:List (Nat×Obj)} {w:World} (h:AY L w) (B:∀p∈L,p.2.isCells=false) (D:∀(k:Nat) (o:Obj),w.heap[k]? =some o->o.isCells=false->w'.heap[k]? =some o):AY L w':=
 λp A=>D _ _ (h p A) (B p A)
theorem AY.putObj{L:List (Nat×Obj)} {w:World} (h:AY L w) {l:Nat} (B:∀p∈L,p.1≠l) (o:Obj):AY L (w.putObj l o):=
 λp A=>(s8 (B p A)).trans (h p A)
theorem gT{w:World} (h:Below w.heap.size w w') (k:Nat) (o:Obj) (hk:w.heap[k]? =some o):w'.heap[k]? =some o:=(h.block k (kd.1 hk).1).trans hk
theorem Dj.others{r:Option Nat} {w:World} (h:Dj r w) (B:∀(k:Nat) (o:Obj),w.heap[k]? =some o->o.isCells=false->w'.heap[k]? =some o):Dj r w':=
 λl A=>let ⟨r₀,hr⟩:=h l A;⟨r₀,B _ _ hr rfl⟩
theorem Marks.others{A:List Deferred} {n0:ju} {a:Act} {w:World} (h:Marks A n0 a w) (B:a'.defers=a.defers) (L:∀(k:Nat) (o:Obj),w.heap[k]? =some o->o.isCells=false->w'.heap[k]? =some o):Marks A n0 a' w':=
 let ⟨Ds,h1,h2,h3⟩:=h;⟨Ds,B.trans h1,h2,λD hD=>⟨(h3 D hD).1,L _ _ (h3 D hD).2 rfl⟩⟩
theorem Lh{P:Program} {r:Option Nat} {w:World} (O:Dj r w) (fn:FuncId) (tmps:Array Value) (ps:Array Tmp) (as A:Code):
  ∃(l:Nat) (L:List Nat) (B:World) (V:Nat),(Instr.enterLoop fn tmps ps as A r).run P w=.ok (l,L.map Ta) B/\w.heap.size<=l/\
   B.heap[l]? =some (.loop {state:=.ready,pending:=none,fn,tmps,params:=ps,assign:=as,body:=A,defers:=V})/\Below w.heap.size w B/\L.Nodup/\
   ∀D∈L,w.heap.size<=D/\D≠l/\B.heap[D]? =some (.deferred (some [])):=by
 cases r with
 |none=>
  refine⟨w.heap.size+1,[w.heap.size],_,w.heap.size,run_enterLoop_outer fn tmps ps as A,ST,?_,?_,TB,?_⟩
  ·have:=World.alloc_heap_new (w.alloc (.deferred (some []))) (.loop {state:=.ready,pending:=none,fn,tmps,params:=ps,assign:=as,body:=A,defers:=w.heap.size})
   rwa[World.size_alloc]at this
  ·exact(((Below.refl _ w).alloc (im _) _).alloc TB _)
  ·intro D hD
   simp only[nz]at hD;subst hD
   exact⟨im _,ST,(Below.heap_alloc _ _ _ TB).trans (World.alloc_heap_new w _)⟩
 |some R=>
  obtain⟨M,h⟩:=O R rfl
  exact⟨w.heap.size,[],_,M.defers,run_enterLoop_inner h fn tmps ps as A,im _,World.alloc_heap_new w _,(Below.refl _ w).alloc (im _) _,TB,TB⟩
theorem DV.Ug{π:Nat->Nat->Prop} {A:Nat} {caps:List AV} {v:Value} (h:DV w π (.fn (.func A) [] caps) v):∃us:Array Value,v=.func (.func A) #[] us/\iy w π caps us.toList:=by
 cases h with
 |fn f as vs V us O D R L=>
  have:vs=#[]:=by simpa using O.symm
  subst this
  exact⟨us,rfl,by simpa using D,λi a v B M=>L i a v B (by simpa using M)⟩
end
section
variable{nt:Nat} {n0:ju} {π0:Nat->Nat->Prop} {T:Nat->Prop} {a0:Act} {r:Option Nat} {n:Nat} {QA:Exit->S->Prop}
theorem Ii{g:Operand} {ps:Array Tmp} {as bd:Code} {g':bn} {ca cb:aZ} {wr:List Nat} (hg:bV g=some g') (b1:∀t∈ps.toList,t<nt/\t∈wr) (di:∀t∈ca.writes,t∈wr) (cx:∀t∈cb.writes,t∈wr)
  (da:∀(π0:Nat->Nat->Prop) (T:Nat->Prop) (a0:Act),(∀t,T t->¬t∈ca.writes)->∀(r:Option Nat) (n:Nat) (w0:World) (QA:Exit->S->Prop) (s:S) (a:Act) (w:World),uX P nt n0 w0 π0 r T a0 s a w->aw (Pure P) ca QA s->as.wpIn (FW r) n P (yc P nt n0 w0 π0 r T a0 QA) a w)
  (cp:∀(π0:Nat->Nat->Prop) (T:Nat->Prop) (a0:Act),(∀t,T t->¬t∈cb.writes)->∀(r:Option Nat) (n:Nat) (w0:World) (QA:Exit->S->Prop) (s:S) (a:Act) (w:World),uX P nt n0 w0 π0 r T a0 s a w->aw (Pure P) cb QA s->bd.wpIn (FW r) n P (yc P nt n0 w0 π0 r T a0 QA) a w)
  (R:uX P nt n0 w0 π0 r T a0 s a w) (h:aw (Pure P) (.zQ g' ps.toList wr ca cb) QA s):(Code.rangeFunc g ps as bd).wpIn (FW r) n P (yc P nt n0 w0 π0 r T a0 QA) a w:=by
 simp only[aw]at h;obtain⟨gv,dj,xs,cy,b7,F,cr,hFg,a5,hdone⟩:=af h;clear h;obtain⟨RN,RL,⟨b3,df,c1,a4⟩,RK⟩:=R
 have hsize:a.tmps.size=nt:=let ⟨_,_,_,_,_,_,R⟩:=RN;R.size
 obtain⟨gf,caps,rfl,be,bj,bi⟩:=cy;obtain⟨s0,b0,ct⟩:=RN.down cr
 obtain⟨π1,us,db,b5,bs,cu,a9,b4⟩:∃(π1:Nat->Nat->Prop) (us:Array Value),a.eval g=.func (.func gf) #[] us/\iy w π1 caps us.toList/\(∀b o,π0 b o->π1 b o)/\(∀b o,π1 b o->π0 b o\/n0.ok b)/\(∀b o,π1 b o->b<w.heap.size)/\eM P nt n0 w π1 s0 a w:=by
  obtain⟨h4,β,τ,π,U,hU,R⟩:=ct
  obtain⟨us,h1,h2⟩:=DV.Ug (R.aF hg (hFg 0 s0 b0))
  exact⟨π,us,h1,h2,R.eJ,R.cZ,R.ez,h4,β,τ,π,U,hU,{R with below:=.refl _ _,fc:=kf R.fc R.below.size,kept:=λ_ _ _=>rfl,eJ:=λ_ _ h=>h,cZ:=λ_ _ h=>.inl h}⟩
 refine wpIn_rangeFunc ?_;intro fn _
 obtain⟨l,ao,W1,dd,ci,hl,ab,al,b6,ac⟩:=Lh (P:=P) RL fn a.tmps ps as bd
 obtain⟨A,B⟩:∃A:LoopState->Option Code->Loop,A=λst pe=>{state:=st,pending:=pe,fn,tmps:=a.tmps,params:=ps,assign:=as,body:=bd,defers:=dd}:=⟨_,rfl⟩
 have ab:W1.heap[l]? =some (.loop (A .ready none)):=by rw[B];exact ab
 -- what lies pinned
 obtain⟨L,hL⟩:∃L:List (Nat×Obj),L=(ao++b3).map (λD=>(D,Obj.deferred (some [])))++(match r with|some l₀=>(match w.heap[l₀]? with|some o=>[(l₀,o)]|none=>[])|none=>[]):=⟨_,rfl⟩
 have a2:∀p∈L,p.2.isCells=false:=by
  intro p hp;rw[hL,ka]at hp
  rcases hp with hp|hp
  ·obtain⟨D,_,rfl⟩:=kp.1 hp;rfl
  ·cases r with
   |none=>cases hp
   |some l₀=>
    obtain⟨r₀,V⟩:=RL l₀ rfl;simp only[V,nz]at hp;subst hp;rfl
 have ag:∀p∈L,p.1≠l:=by
  intro p hp;rw[hL,ka]at hp
  rcases hp with hp|hp
  ·obtain⟨D,hD,rfl⟩:=kp.1 hp
   rcases ka.1 hD with hD|hD
   ·exact(ac D hD).2.1
   ·have:=(kd.1 (a4 D hD).2).1
    simp only;omega
  ·cases r with
   |none=>cases hp
   |some l₀=>
    obtain⟨r₀,V⟩:=RL l₀ rfl;simp only[V,nz]at hp;subst hp
    have:=(kd.1 V).1
    simp only;omega
 have c0:AY L W1:=by
  intro p hp;rw[hL,ka]at hp
  rcases hp with hp|hp
  ·obtain⟨D,hD,rfl⟩:=kp.1 hp
   rcases ka.1 hD with hD|hD
   ·exact(ac D hD).2.2
   ·exact gT al _ _ (a4 D hD).2
  ·cases r with
   |none=>cases hp
   |some l₀=>
    obtain⟨r₀,V⟩:=RL l₀ rfl;simp only[V,nz]at hp;subst hp;exact gT al _ _ V
 have ad:∀W,AY L W->Dj r W:=by
  intro W hW l₀ e;subst e;obtain⟨r₀,V⟩:=RL l₀ rfl
  exact⟨r₀,hW (l₀,.loop r₀) (by rw[hL];simp[V])⟩
 have aa:∀W,AY L W->Marks a0.defers n0 {a with defers:=ao.map Ta++a.defers} W:=by
  intro W hW
  refine⟨ao++b3,by simp[df],?_,λD hD=>⟨?_,hW (D,_) (by rw[hL];exact List.mem_append_left _ (kp.2 ⟨D,hD,rfl⟩))⟩⟩
  ·refine List.nodup_append.2 ⟨b6,c1,λx hx y hy e=>?_⟩
   subst e
   have h1:=(ac x hx).1
   have h2:=(kd.1 (a4 x hy).2).1
   omega
  ·rcases ka.1 hD with hD|hD
   ·exact kf (kf RN.fc RN.below.size) (ac D hD).1
   ·exact(a4 D hD).1
 have bm:w0.heap.size<=l:=kf RN.below.size hl
 have a8:n0.n<=l:=kf RN.fc bm
 have a6:∀(O:S) (W2:World),eM P nt n0 w π1 O a W2->∀{o:Loop},W2.heap[l]? =some (.loop o)->∀(o':Loop),eM P nt n0 w0 π0 O a (W2.putObj l (.loop o')):=by
  intro O W2 R' o ho o'
  refine(R'.putObj ho rfl rfl).back bs cu ((RN.below.trans R'.below).putObj bm a8 _) RN.fc λb x hb=>?_
  rw[ku ho rfl rfl,R'.kept b x (bs b x hb)];exact RN.kept b x hb
 refine⟨l,ao.map Ta,W1,{target:=.fn (.func gf) us,args:=#[.func (.yield l) #[] #[]]},W1,gf,#[.func (.yield l) #[] #[]]++us,W1,ci,?_,λ_ _=>trivial,?_,λh=>by simp[FW,Fence.wide]at h,?_⟩
 ·simp only[resolve,db];simp[go_sem]
 ·simp[invoke,go_sem,ff be]
 refine AP.2 ?_
 have:=bi l
  (λi W=>(∃O,F i O/\eM P nt n0 w π1 O a W)/\AY L W/\W.heap[l]? =some (.loop (A .ready none)))
  (λW=>∃c O,((c=.ret/\QA .ret O)\/∃id,c=.exit id/\QA (.exit id) O)/\eM P nt n0 w π1 O a W/\AY L W/\W.heap[l]? =some (.loop (A .done (some c))))
  W1 π1 us.toList (λb o h=>po (a9 b o h) al.size) (b5.mono (λ_ _ h=>h) (λb o h=>Below.th al (a9 b o h))) ?_ ?_ ?_ ?_ ⟨⟨s0,b0,b4.old al⟩,c0,ab⟩
 ·refine(by simpa using this:Calls P gf (#[.func (.yield l) #[] #[]]++us) W1 _).mono ?_
  rintro e W2 ⟨⟨v,rfl⟩,⟨⟨O,ae,R'⟩,hp,V⟩|⟨c,O,hq,R',hp,V⟩⟩
  ·refine⟨none,_,by have:=run_endLoop (P:=P) V (by rw[B];simp);rw[B]at this;exact this,O,hdone O ae,?_⟩
   have Z:=hp.putObj ag (.loop {A .ready none with state:=.exhausted})
   rw[B]at Z;exact⟨(a6 _ _ R' V _).Uf rfl,ad _ Z,aa _ Z,RK⟩
  ·refine⟨some c,_,by have:=run_endLoop (P:=P) V (by rw[B];simp);rw[B]at this;exact this,?_⟩
   have Z:=hp.putObj ag (.loop {A .done (some c)with state:=.exhausted})
   rw[B]at Z
   have RT:uX P nt n0 w0 π0 r T a0 O {a with defers:=ao.map Ta++a.defers} (W2.putObj l (.loop {A .done (some c)with state:=.exhausted})):=by
    rw[B];exact⟨(a6 _ _ R' V _).Uf rfl,ad _ Z,aa _ Z,RK⟩
   rw[B]at RT
   rcases hq with⟨rfl,hq⟩|⟨id,rfl,hq⟩
   ·exact wpIn_ret ⟨O,hq,RT⟩
   ·exact wpIn_exit ⟨O,hq,RT⟩
 ·rintro i W ⟨⟨O,ae,R'⟩,_,_⟩ b o hb
  rw[R'.kept b o hb];exact(Below.th al (a9 b o hb)).symm
 ·rintro i W W' ⟨⟨O,ae,R'⟩,hp,V⟩ hb
  exact⟨⟨O,ae,R'.old hb⟩,hp.others a2 (λk o hk _=>gT hb k o hk),gT hb _ _ V⟩
 ·rintro W W' ⟨c,O,hq,R',hp,V⟩ hb
  exact⟨c,O,hq,R'.old hb,hp.others a2 (λk o hk _=>gT hb k o hk),gT hb _ _ V⟩
 ·rintro m i x W hx ⟨⟨O,ae,R'⟩,hp,V⟩
  have cv:=b7 x (ev hx)
  have hy:=run_yield (P:=P) (args:=(x.map vJ).toArray) V (by rw[B];simpa using cv)
  rw[B]at hy;refine⟨fn,_,as,bd,hy,roundIn_of_wpIn trivial ?_⟩
  have c3:(ps.zip (x.map vJ).toArray).foldl (λtmps p=>tmps.setIfInBounds p.1 p.2) a.tmps=(ps.toList.zip (x.map vJ)).foldl (λt p=>t.setIfInBounds p.1 p.2) a.tmps:=by
   rw[<-Array.foldl_toList];simp[Array.toList_zip]
  have RP:eM P nt n0 W π1 (rq ps.toList x O) {tmps:=(ps.toList.zip (x.map vJ)).foldl (λt p=>t.setIfInBounds p.1 p.2) a.tmps,defers:=[]} W:=by
   obtain⟨h4,β,τ,π,U,hU,R2⟩:=(R'.Uf (a':={tmps:=a.tmps,defers:=[]}) rfl).W0
   refine⟨by rw[AX];exact h4,β,τ,π,U,λk hk=>by rw[AX];exact hU k hk,?_⟩
   exact y9 (λp hp=>(b1 p hp).1) (bj x (ev hx)) R2
  have hkeep:∀t,¬t∈wr->((ps.toList.zip (x.map vJ)).foldl (λt p=>t.setIfInBounds p.1 p.2) a.tmps)[t]? =a.tmps[t]?:=
   λt ht=>p8 (λp hp e=>ht (e▸(b1 p.1 (List.of_mem_zip hp).1).2))
  have hA:=da π1 (λt=>¬t∈wr) ⟨a.tmps,[]⟩ (λt ht hw=>ht (di t hw)) (some l) m W _ _ _ _ ⟨RP,λl' e=>by cases e;exact⟨_,V⟩,⟨[],rfl,.nil,TB⟩,hkeep⟩ (a5 i x O hx ae)
  have hA:as.wpIn (Fence.wide.inRound l) m P (yc P nt n0 W π1 (some l) (λt=>¬t∈wr) ⟨a.tmps,[]⟩ (Fz (aw (Pure P) cb (MH wr (F (i+1)) QA)))) {tmps:=(ps.zip (x.map vJ).toArray).foldl (λtmps p=>tmps.setIfInBounds p.1 p.2) a.tmps,defers:=[]} W:=by rw[c3];exact hA
  refine H1 hA ?_
  rintro e a₁ w₁ ⟨s1,b2,an,_,ck,c6⟩
  cases e<;>try exact b2.elim
  have am:=an.below.others _ _ V rfl
  have c5:=hp.others a2 an.below.others
  refine⟨_,run_beginRound am (by rw[B]),?_⟩
  have b8:=(kd.1 am).1
  have bo:(w₁.putObj l (.loop {A .ready none with state:=.busy})).heap[l]? =some (.loop {A .ready none with state:=.busy}):=QR b8
  have Z:=c5.putObj ag (.loop {A .ready none with state:=.busy})
  have c2:=an.putObj am rfl (o':=.loop {A .ready none with state:=.busy}) rfl
  have ce:Marks [] n0 a₁ (w₁.putObj l (.loop {A .ready none with state:=.busy})):=by
   obtain⟨Ds,h1,h2,h3⟩:=ck
   refine⟨Ds,h1,h2,λD hD=>⟨(h3 D hD).1,(s8 (λe=>?_)).trans (h3 D hD).2⟩⟩
   subst e
   have:=(h3 D hD).2
   rw[am]at this;cases this
  have co:xO n0 w (w₁.putObj l (.loop {A .ready none with state:=.busy})):=(R'.below.trans an.below).putObj hl a8 _
  have hB:=cp π1 (λt=>¬t∈wr) ⟨a.tmps,[]⟩ (λt ht hw=>ht (cx t hw)) (some l) m (w₁.putObj l (.loop {A .ready none with state:=.busy})) (MH wr (F (i+1)) QA) s1 a₁ _ ⟨c2,λl' e=>by cases e;exact⟨_,bo⟩,ce,c6⟩ b2
  refine H1 (show bd.wpIn (Fence.wide.inRound l) m P (yc P nt n0 (w₁.putObj l (.loop {A .ready none with state:=.busy})) π1 (some l) (λt=>¬t∈wr) ⟨a.tmps,[]⟩ (MH wr (F (i+1)) QA)) a₁ _ from hB) ?_
  rintro e a3 W3 ⟨s3,ar,ak,_,_,ba⟩
  have au:=ak.below.others _ _ bo rfl
  have a7:=Z.others a2 ak.below.others
  have ch:=co.trans ak.below
  have fin:∀(M:Option Code),(Instr.endRound l M).run P W3=.ok (.bool M.isNone) (W3.putObj l (.loop (A (if M.isNone then .ready else .done) M)))/\
    (W3.putObj l (.loop (A (if M.isNone then .ready else .done) M))).heap[l]? =some (.loop (A (if M.isNone then .ready else .done) M)):=λM=>by
   have:=run_endRound (P:=P) M au
   rw[B]at this⊢;exact⟨this,QR (kd.1 au).1⟩
  have back:∀(s4:S),eM P nt n0 (w₁.putObj l (.loop {A .ready none with state:=.busy})) π1 s4 a W3->∀st pe,eM P nt n0 w π1 s4 a (W3.putObj l (.loop (A st pe))):=λs4 R4 st pe=>
   (R4.putObj au rfl rfl).WZ (ch.putObj hl a8 _) b4.fc λb o hb=>by
    rw[ku au rfl rfl,R4.kept b o hb,ku am rfl rfl,an.kept b o hb,R'.kept b o hb]
  cases e with
  |normal=>
   obtain⟨s4,c4,R4⟩:=(ak.cut (wr:=wr) (a1:=a) ba hsize).down ar
   obtain⟨f1,f2⟩:=fin none;exact⟨_,_,f1,.inl ⟨rfl,⟨s4,c4,back s4 R4 _ _⟩,a7.putObj ag _,f2⟩⟩
  |ret=>
   obtain⟨f1,f2⟩:=fin (some .ret)
   exact⟨_,_,f1,.inr ⟨rfl,.ret,_,.inl ⟨rfl,ar⟩,back _ (ak.cut (wr:=wr) (a1:=a) ba hsize) _ _,a7.putObj ag _,f2⟩⟩
  |exit id=>
   obtain⟨f1,f2⟩:=fin (some (.exit id))
   exact⟨_,_,f1,.inr ⟨rfl,.exit id,_,.inr ⟨id,rfl,ar⟩,back _ (ak.cut (wr:=wr) (a1:=a) ba hsize) _ _,a7.putObj ag _,f2⟩⟩
  |_=>exact ar.elim
end
theorem uX.sub{π0:Nat->Nat->Prop} {r:Option Nat} {T:Nat->Prop} {a0:Act} (R:uX P nt n0 w0 π0 r T a0 s a w) {a':Act} {w':World} {D:S} (B:pE T a a') (A:eM P nt n0 w π0 D a' w'):uX P nt n0 w0 π0 r T a0 D a' w':=
 ⟨A.WZ (R.1.below.trans A.below) R.1.fc (λb o h=>(A.kept b o h).trans (R.1.kept b o h)),R.2.1.others A.below.others,R.2.2.1.others B.1 A.below.others,λt ht=>(B.2 t ht).trans (R.2.2.2 t ht)⟩
theorem uX.down{π0:Nat->Nat->Prop} {r:Option Nat} {T:Nat->Prop} {a0:Act} (R:uX P nt n0 w0 π0 r T a0 s a w) {F:S->Prop} (h:Eng.down F s):∃A,F A/\uX P nt n0 w0 π0 r T a0 A a w:=
 let ⟨A,h1,h2⟩:=R.1.down h;⟨A,h1,h2,R.2⟩
theorem AZ{Z:Bool}:∀(c:Code) (cc:aZ),dw Z P c=some cc->∀l,(findLabel c l).isSome=(cc.after l).isSome:=by
 intro c
 induction c with
 |seq x y B L=>
  intro cc A l;simp only[dw]at A
  split at A<;>try(cases A;done)
  rename_i D V O ac
  have hx:=B D O l
  cases A
  have key:(findLabel (.seq x y) l).isSome=(match D.after l with|some r=>some (aZ.join r V)|none=>V.after l).isSome:=by
   simp only[findLabel]
   cases h1:findLabel x l<;>cases h2:D.after l<;>simp_all
  split<;>exact key
 |label l'=>intro cc A l;cases A;simp only[findLabel,aZ.after];split<;>rfl
 |skip=>intro cc A l;cases A;rfl
 |region id ops nh=>
  intro cc A l;simp only[dw]at A;split at A
  ·simp only[em]at A
   obtain⟨cos,_,rfl⟩:=A;rfl
  unfold HW at A
  (repeat' split at A)<;>(try simp only at A)<;>(repeat' split at A)<;>first|(cases A;done)|(cases A;rfl)
 |cond cd x y B L=>
  intro cc A l;simp only[dw]at A
  split at A<;>try(cases A;done)
  cases A;rfl
 |block id c R=>intro cc A l;simp only[dw,em]at A;obtain⟨c',M,rfl⟩:=A;rfl
 |loop c R=>intro cc A l;simp only[dw,em]at A;obtain⟨c',M,rfl⟩:=A;rfl
 |exit id=>intro cc A l;cases A;rfl
 |ret=>intro cc A l;cases A;rfl
 |goto l'=>intro cc A l;cases A;rfl
 |scope c R=>
  intro cc A l;simp only[dw]at A
  split at A<;>try(cases A;done)
  split at A<;>try(cases A;done)
  simp only[em]at A;obtain⟨r,_,rfl⟩:=A;rfl
 |rangeFunc g ps as bd ab aa=>
  intro cc A l;simp only[dw]at A
  split at A<;>try(cases A;done)
  split at A<;>try(cases A;done)
  cases A;rfl
 |_=>intro cc A;cases A
section
variable{F:Fence} {m:Nat} {Q:Exit->Act->World->Prop}
section
variable {b:Frame} {c:Code} {cs:List Frame} {k:List Item}
theorem FZ:step P (lone (b.atR a (.code (.scope c)::k)) cs w)=.next (lone (b.atR a (.code c:: .inScope c::k)) cs w):=
 step_lone_go (by simp[stepG,stepG.exec,Frame.atR])
theorem CP:step P (lone (b.atR a (.inScope c::k)) cs w)=.next (lone (b.atR a k) cs w):=
 step_lone_go (by simp[stepG,stepG.exec,Frame.atR])
theorem Ij{rest:Code} {l:Nat} (hf:findLabel c l=some rest) (G:Act->World->Prop) (h:c.wpIn F m P (λe a w=>match e with| .goto l'=>l'=l/\G a w|e=>Q e a w) a w) (hr:∀a w,G a w->rest.wpIn F m P (Exit.noGoto Q) a w):(Code.scope c).wpIn F m P Q a w:=by
 intro b k cs Z hb hroom
 have h0:(lone (b.atR a (.code (.scope c)::k)) cs w).fenced P F:=fenced_calm hb hroom rfl
 have leave:∀{e:Exit} {M:Act} {L:World} {m1:Machine},StepsIn (Machine.fenced P F) P (lone (b.atR a (.code (.scope c)::k)) cs w) m1->(∀l,e≠.goto l)->ArrivesIn (Machine.fenced P F) P m1 b (.inScope c::k) cs e M L->
   ArrivesIn (Machine.fenced P F) P (lone (b.atR a (.code (.scope c)::k)) cs w) b k cs e M L:=by
  intro e M L m1 V B A
  cases e with
  |normal=>exact V.trans (StepsIn.trans A (.one (fenced_calm hb hroom rfl) CP))
  |exit id=>exact⟨λk' hk=>V.trans (A.1 k' (by simpa[exitTo]using hk)),λab hk=>let ⟨k₁,h1,h2⟩:=A.2 ab (by simpa[exitTo]using hk);⟨k₁,h1,V.trans h2⟩⟩
  |goto l=>exact absurd rfl (B l)
  |ret=>exact .of_steps V A
  |panic ch=>exact .of_steps V A
  |outgrown=>exact .of_steps V A
 have hstart:StepsIn (Machine.fenced P F) P (lone (b.atR a (.code (.scope c)::k)) cs w) (lone (b.atR a (.code c:: .inScope c::k)) cs w):=.one h0 FZ
 obtain⟨e,M,L,R,A⟩:=h b (.inScope c::k) cs Z hb hroom
 have other:(∀l,e≠.goto l)->Q e M L->∃e a' w',Q e a' w'/\ArrivesIn (Machine.fenced P F) P (lone (b.atR a (.code (.scope c)::k)) cs w) b k cs e a' w':=λB R=>⟨e,M,L,R,leave hstart B A⟩
 cases e with
 |goto l'=>
  obtain⟨rfl,hG⟩:=R
  have ac:=A.1 (.code rest:: .inScope c::k) (by simp[gotoIn,hf])
  obtain⟨e2,a₂,w₂,aa,O⟩:=hr M L hG b (.inScope c::k) cs Z hb hroom
  have D:(∀l,e2≠.goto l)->Q e2 a₂ w₂->∃e a' w',Q e a' w'/\ArrivesIn (Machine.fenced P F) P (lone (b.atR a (.code (.scope c)::k)) cs w) b k cs e a' w':=λB R=>⟨e2,a₂,w₂,R,leave (hstart.trans ac) B O⟩
  cases e2 with
  |goto l2=>exact aa.elim
  |_=>exact D (λl h=>by cases h) aa
 |_=>exact other (λl h=>by cases h) R
end
end
section
variable {x y:Code}
def Sound(P:Program) (nt:Nat) (n0:ju) (c:Code) (cc:aZ):Prop:=
 cc.fits nt=true->∀(π0:Nat->Nat->Prop) (T:Nat->Prop) (a0:Act),(∀t,T t->¬t∈cc.writes)->∀(r:Option Nat) (n:Nat) (w0:World) (QA:Exit->S->Prop) (s:S) (a:Act) (w:World),
  uX P nt n0 w0 π0 r T a0 s a w->aw (Pure P) cc QA s->c.wpIn (FW r) n P (yc P nt n0 w0 π0 r T a0 QA) a w
theorem A0{M O:aZ} (hx:Sound P nt n0 x M) (Z:Sound P nt n0 y O):Sound P nt n0 (.seq x y) (.join M O):=by
 intro D π0 T a0 hT r n w0 QA s a w R h
 have nn:∀(e:Exit) (G:S->Prop) (A:S) (a':Act) (w':World),e≠.normal->jy G QA e A->uX P nt n0 w0 π0 r T a0 A a' w'->Exit.then (y.wpIn (FW r) n P (yc P nt n0 w0 π0 r T a0 QA)) (yc P nt n0 w0 π0 r T a0 QA) e a' w':=by
  intro e G A a' w' L B R'
  cases e with
  |normal=>exact absurd rfl L
  |_=>exact⟨A,B,R'⟩
 simp only[aZ.fits,dT]at D;simp only[aZ.writes,ka,not_or]at hT
 refine wpIn_seq (H1 (hx D.1 π0 T a0 (λt ht=>(hT t ht).1) r n w0 _ s a w R h) ?_)
 rintro e a' w' ⟨A,B,R'⟩
 cases e with
 |normal=>
  obtain⟨s2,hF,V⟩:=R'.down B
  exact Z D.2 π0 T a0 (λt ht=>(hT t ht).2) r n w0 QA s2 a' w' V hF
 |_=>exact nn _ _ A a' w' TB B R'
theorem Li{L M:aZ} (V:Sound P nt n0 x L) (O:Sound P nt n0 y M):Sound P nt n0 (.seq x y) (.seq L M):=by
 intro A π0 T a0 hT r n w0 QA s a w R h;simp only[aZ.fits,dT]at A;simp only[aZ.writes,ka,not_or]at hT
 refine wpIn_seq (H1 (V A.1 π0 T a0 (λt ht=>(hT t ht).1) r n w0 _ s a w R h) ?_)
 rintro e a' w' ⟨B,D,R'⟩
 cases e with
 |normal=>exact O A.2 π0 T a0 (λt ht=>(hT t ht).2) r n w0 QA B a' w' R' D
 |_=>exact⟨B,D,R'⟩
theorem Lj{mo:Bool} (hm:P.follows .mixedOrders=true):∀(c:Code),(∀cc,dw mo P c=some cc->Sound P nt n0 c cc)/\∀l rest cc D,findLabel c l=some rest->dw mo P c=some cc->cc.after l=some D->Sound P nt n0 rest D:=by
 intro c
 induction c with
 |skip=>
  refine⟨?_,λl rest cc D h=>by cases h⟩
  intro cc A _ π0 T a0 _ r n w0 QA s a w R h;cases A;exact wpIn_skip ⟨s,h,R⟩
 |region id ops nh=>
  refine⟨?_,λl rest cc D h=>by cases h⟩
  intro cc A B π0 T a0 hT r n w0 QA s a w R h;obtain⟨h4,β,τ,π,U,hU,R0⟩:=R.1;simp only[dw]at A;split at A
  ·rename_i a3
   simp only[dT,pA]at a3;obtain⟨_,rfl⟩:=a3;simp only[em]at A;obtain⟨cos,ac,rfl⟩:=A
   refine CM (w0:=w) ac B R0.W0 hU h (T:=T) (λd hd ht=>hT d ht hd) ?_ ?_
   ·intro s' a' w' β' τ' π' U' M hK hp R'
    exact⟨_,hK,R.sub hp ⟨by show 4<=s.nx+_;omega,β',τ',π',U',M,R'.nx _⟩⟩
   ·intro p s' a' w' β' τ' π' U' M hK hp R'
    exact⟨_,hK,R.sub hp ⟨by show 4<=s.nx+_;omega,β',τ',π',U',M,R'.nx _⟩⟩
  split at A<;>try(cases A;done)
  rename_i cos ac
  have fin:∀(ro:List Nat) (s1:S) (π1:Nat->Nat->Prop),Rel P nt n0 w0 π0 U s1 a w β τ π1->s1.nx=s.nx->(nh=true->∃cJ T,jP cJ ops.toList cos=true/\yM T (mV ro 0 cos) cJ=true/\lK T s1.nx 0 (mV ro 0 cos)=true/\o9 T s1)->gA nt cos=true->(∀t,T t->¬t∈dstsOf cos)->
    jb (Pure P) s1.nx 0 (mV ro 0 cos) (λs'=>QA .normal {s' with nx:=s.nx+cos.length}) s1->(Code.region id ops nh).wpIn (FW r) n P (yc P nt n0 w0 π0 r T a0 QA) a w:=by
   intro ro s1 π1 R1 ar hd B hT h
   refine Eh (w0:=w) hm ac ro hd B R1.W0 (by rw[ar];exact hU) h (T:=T) (λd hd ht=>hT d ht hd) ?_
   intro s' a' w' β' τ' π' U' M hK hp R';rw[ar]at M
   exact⟨_,hK,R.sub hp ⟨by show 4<=s.nx+_;omega,β',τ',π',U',M,R'.nx _⟩⟩
  split at A
  ·rename_i ao
   subst ao
   have Jn:∀cJ,jP cJ ops.toList cos=true->gA nt cos=true->(∀t,T t->¬t∈dstsOf cos)->(∃ids,(c8 ids&&iu ids)=true/\aj (aV s.boxes ids) λcss=>MI (Pure P) cos cJ (λs'=>QA .normal {s' with nx:=s.nx+cos.length}) (gp ids css s))->(Code.region id ops true).wpIn (FW r) n P (yc P nt n0 w0 π0 r T a0 QA) a w:=by
    intro cJ L B hT h;obtain⟨ids,ak,h⟩:=h;obtain⟨css,a6,ro,ab,h⟩:=af h;rw[dT]at ak
    obtain⟨π1,_,R1,_⟩:=R0.vW (eH ak.1) ak.2 a6
    simp only[vN,TU,dT]at ab
    exact fin ro _ π1 R1 vK (λ_=>⟨_,_,L,ab.2,ab.1.2,λt b ⟨v,hl,hb⟩=>pz ab.1.1 t b v hl hb⟩) B hT h
   split at A
   ·split at A<;>try(cases A;done)
    rename_i L;unfold HW at A
    split at A<;>try(cases A;done)
    rename_i k _
    split at A<;>try(cases A;done)
    rename_i d hd;simp only at A
    split at A<;>try(cases A;done)
    rename_i hk;cases A;simp only[dT,gn]at hk;obtain⟨⟨⟨h1,h2⟩,h3⟩,h5⟩:=hk
    rcases h with h|h
    ·exact Jn _ L B hT h
    ·refine CN (w0:=w) hm ac h1 h2 h3 (by simpa using h5) B R0.W0 hU h (T:=T) (λd hd ht=>hT d ht hd) ?_
     intro p s' a' w' β' τ' π' U' M hK hp R'
     exact⟨_,hK,R.sub hp ⟨by show 4<=s.nx+_;omega,β',τ',π',U',M,R'.nx _⟩⟩
   ·split at A
    ·split at A<;>try(cases A;done)
     rename_i L;cases A
     exact fin [] s π R0 rfl (λ_=>⟨[],[],L,rfl,yV,λ_ _ _=>rfl⟩) B hT (by rw[vM];exact h)
    ·split at A<;>try(cases A;done)
     rename_i L;cases A;rw[dT]at L;exact Jn _ L.1 B hT h
  ·rename_i ao
   cases A
   exact fin [] s π R0 rfl (λe=>absurd e ao) B hT (by rw[vM];exact h)
 |seq x y ag ad=>
  refine⟨?_,?_⟩
  ·intro cc A
   simp only[dw]at A
   split at A<;>try(cases A;done)
   rename_i cx cy V aa;cases A;split
   ·exact Li (ag.1 cx V) (ad.1 cy aa)
   ·exact A0 (ag.1 cx V) (ad.1 cy aa)
  ·intro l rest cc D B A ha
   simp only[dw]at A
   split at A<;>try(cases A;done)
   rename_i cx cy V aa;cases A
   have am:(match cx.after l with|some r=>some (aZ.join r cy)|none=>cy.after l)=some D:=by
    split at ha<;>exact ha
   have hs:=AZ x cx V l
   simp only[findLabel]at B;split at B
   ·rename_i rx al
    cases B;rw[al]at hs
    cases ae:cx.after l with
    |none=>rw[ae]at hs;cases hs
    |some cr=>
     rw[ae]at am;cases am;exact A0 (ag.2 l rx cx cr al V ae) (ad.1 cy aa)
   ·rename_i al
    rw[al]at hs
    cases ae:cx.after l with
    |some cr=>rw[ae]at hs;cases hs
    |none=>
     rw[ae]at am;exact ad.2 l rest cy D B aa am
 |cond cd x y ag ad=>
  refine⟨?_,λl rest cc D h=>by cases h⟩
  intro cc A B π0 T a0 hT r n w0 QA s a w R h;simp only[dw]at A
  split at A<;>try(cases A;done)
  rename_i c' cx cy ba V aa;cases A;simp only[aZ.fits,dT]at B;simp only[aZ.writes,ka,not_or]at hT;simp only[aw]at h;obtain⟨v,hv,h⟩:=af h;obtain⟨β,τ,π,U,hU,R0⟩:=R.1.2
  have hd:=R0.aF ba hv
  cases v<;>try(exact h.elim)
  rename_i t
  exact wpIn_cond_split hd.vR (λe=>ag.1 cx V B.1 π0 T a0 (λt ht=>(hT t ht).1) r n w0 QA s a w R (h.1 e)) (λe=>ad.1 cy aa B.2 π0 T a0 (λt ht=>(hT t ht).2) r n w0 QA s a w R (h.2 e))
 |block id c ih=>
  refine⟨?_,λl rest cc D h=>by cases h⟩
  intro cc A B π0 T a0 hT r n w0 QA s a w R h;simp only[dw,em]at A;obtain⟨c',Z,rfl⟩:=A;refine wpIn_block (H1 (ih.1 c' Z B π0 T a0 hT r n w0 _ s a w R h) ?_)
  rintro e a' w' ⟨s',O,R'⟩
  cases e with
  |exit bj=>
   simp only[iM]at O;simp only[Exit.inBlock]
   by_cases a4:bj=id
   ·rw[gc a4]at O⊢;exact⟨s',O,R'⟩
   ·rw[fx a4]at O⊢;exact⟨s',O,R'⟩
  |_=>exact⟨s',O,R'⟩
 |loop c ih=>
  refine⟨?_,λl rest cc D h=>by cases h⟩
  intro cc A B π0 T a0 hT r n w0 QA s a w R h;simp only[dw,em]at A;obtain⟨c',Z,rfl⟩:=A;obtain⟨s0,⟨m,hn⟩,R0⟩:=R.down h;refine wpIn_loop_rounds m ?_
  have key:∀(m:Nat) (s:S) (a:Act) (w:World),uX P nt n0 w0 π0 r T a0 s a w->tf (aw (Pure P) c') QA m s->Code.roundsIn (FW r) n P c (yc P nt n0 w0 π0 r T a0 QA) m a w:=by
   intro m
   induction m with
   |zero=>intro s a w _ h;exact h.elim
   |succ m a8=>
    intro s a w R h;rw[roundsIn_succ];refine H1 (ih.1 c' Z B π0 T a0 hT r n w0 _ s a w R h) ?_
    rintro e a' w' ⟨s',O,R'⟩
    cases e with
    |normal=>
     obtain⟨s2,hF,R2⟩:=R'.down O;exact a8 s2 a' w' R2 hF
    |_=>exact⟨s',O,R'⟩
  exact key m s0 a w R0 hn
 |exit id=>
  refine⟨?_,λl rest cc D h=>by cases h⟩
  intro cc A _ π0 T a0 _ r n w0 QA s a w R h;cases A;exact wpIn_exit ⟨s,h,R⟩
 |ret=>
  refine⟨?_,λl rest cc D h=>by cases h⟩
  intro cc A _ π0 T a0 _ r n w0 QA s a w R h;cases A;exact wpIn_ret ⟨s,h,R⟩
 |rangeFunc g ps as bd bi be=>
  refine⟨?_,λl rest cc D h=>by cases h⟩
  intro cc A B π0 T a0 hT r n w0 QA s a w R h;simp only[dw]at A
  split at A<;>try(cases A;done)
  rename_i g' ca cb hg a9 a7
  split at A<;>try(cases A;done)
  cases A;simp only[aZ.fits,dT,mf,gn]at B;obtain⟨⟨⟨⟨⟨f1,f2⟩,f3⟩,f4⟩,f5⟩,f6⟩:=B
  exact Ii hg (λt ht=>⟨f1 t ht,by simpa using f4 t ht⟩) (λt ht=>by simpa using f5 t ht) (λt ht=>by simpa using f6 t ht) (bi.1 ca a9 f2) (be.1 cb a7 f3) R h
 |label l'=>
  refine⟨?_,?_⟩
  ·intro cc A _ π0 T a0 _ r n w0 QA s a w R h;cases A;exact wpIn_label ⟨s,h,R⟩
  ·intro l rest cc D B A ha
   cases A;simp only[findLabel]at B
   split at B<;>try(cases B;done)
   rename_i he;cases B;simp only[aZ.after,he,kv,gg]at ha;subst ha;intro _ π0 T a0 _ r n w0 QA s a w R h;exact wpIn_skip ⟨s,h,R⟩
 |goto l'=>
  refine⟨?_,λl rest cc D h=>by cases h⟩
  intro cc A _ π0 T a0 _ r n w0 QA s a w R h;cases A;exact wpIn_goto ⟨s,h,R⟩
 |scope c ih=>
  refine⟨?_,λl rest cc D h=>by cases h⟩
  intro cc A B π0 T a0 hT r n w0 QA s a w R h;simp only[dw]at A
  split at A<;>try(cases A;done)
  rename_i c' Z
  split at A<;>try(cases A;done)
  rename_i l hl;simp only[em]at A;obtain⟨cr,au,rfl⟩:=A;simp only[aZ.fits,dT]at B;simp only[aZ.writes,ka,not_or]at hT
  have hs:=AZ c c' Z l
  rw[au]at hs
  cases an:findLabel c l with
  |none=>rw[an]at hs;cases hs
  |some rest=>
   refine Ij an (yc P nt n0 w0 π0 r T a0 (λ_=>aw (Pure P) cr (FA QA)) .normal) (H1 (ih.1 c' Z B.1 π0 T a0 (λt ht=>(hT t ht).1) r n w0 _ s a w R h) ?_) ?_
   ·rintro e a' w' ⟨s',O,R'⟩
    cases e with
    |goto l'=>exact⟨O.1,s',O.2,R'⟩
    |_=>exact⟨s',O,R'⟩
   ·rintro a' w' ⟨s',O,R'⟩
    refine H1 (ih.2 l rest c' cr an Z au B.2 π0 T a0 (λt ht=>(hT t ht).2) r n w0 _ s' a' w' R' O) ?_
    rintro e a2 w2 ⟨s2,a5,R2⟩
    cases e with
    |goto l'=>exact a5.elim
    |_=>exact⟨s2,a5,R2⟩
 |_=>exact⟨λcc A=>(by cases A),λl rest cc D h=>(by cases h)⟩
theorem F1{A:Bool} (hm:P.follows .mixedOrders=true):∀(c:Code) (cc:aZ),dw A P c=some cc->cc.fits nt=true->∀(π0:Nat->Nat->Prop) (T:Nat->Prop) (a0:Act),(∀t,T t->¬t∈cc.writes)->∀(r:Option Nat) (n:Nat) (w0:World) (QA:Exit->S->Prop) (s:S) (a:Act) (w:World),
  uX P nt n0 w0 π0 r T a0 s a w->aw (Pure P) cc QA s->c.wpIn (FW r) n P (yc P nt n0 w0 π0 r T a0 QA) a w:=λc cc B=>(Lj hm c).1 cc B
end
end
open Go.RowKit (Below)
section
variable (res:List jf) (r:AV) (fr:Option Nat) (css:List (List AV)) (s:S)
def iX:AV->SV
 | .ref cs=>.rp cs
 |a=>.dat a none
def slotsOf:Nat->List AV->List (Nat×SV)
 |_,[]=>[]
 |i,a::r=>(i,iX a)::slotsOf (i+1) r
def JN(args:List AV):S:=⟨slotsOf 0 args,[],[],4⟩
def bW:Nat->Nat->List (Option AV)->List (Nat×SV)
 |_,_,[]=>[]
 |i,k,some .hole::r=>(i,.pt 0 [(k,0)])::bW (i+1) (k+1) r
 |i,k,some a::r=>(i,iX a)::bW (i+1) k r
 |i,k,none::r=>(i,.ptr k 0)::bW (i+1) (k+1) r
def rK:Nat->List (List AV)->List (Nat×cI)
 |_,[]=>[]
 |k,cs::css=>(k,⟨cs,[]⟩)::rK (k+1) css
def F2(args:List (Option AV)):S:=⟨bW 0 0 args,rK 0 css,[],4⟩
def ou(l:List (Nat×cI)):Nat->List (List AV)->Prop
 |_,[]=>True
 |k,cs::css=>aj (b9 k l) (λx=>x.cells=cs)/\ou l (k+1) css
def Lk:jf->Option (AV×Option Nat)
 | .tmp t=>match lk t s.slots with
  |some (.dat a q)=>some (a,q)
  |_=>none
 | .cell t A=>match lk t s.slots with
  |some (.ptr b off)=>match b9 b s.boxes with
   |some bx=>match aH bx.cells off A with
    |some a=>some (a,match A with|none=>dY off bx.tags|some _=>none)
    |none=>none
   |none=>none
  |_=>none
def mj(s:S):List jf->Option (List AV)
 |[]=>some []
 |r::A=>match Lk s r,mj s A with
  |some p,some as=>some (p.1::as)
  |_,_=>none
def ef:List jf->Option (AV×Option Nat)
 |[r]=>Lk s r
 |A=>(mj s A).map λas=>(.cU as,none)
def Ik(q:Option Nat) (live:List (Nat×Nat)):Prop:=
 match fr with
 |none=>True
 |some e=>match q with
  |some A=>dY A live=some e
  |none=>False
def fin:Exit->S->Prop
 | .normal,s=>aj (ef s res) λp=>p.1=r/\Ik fr p.2 s.live
 | .ret,s=>aj (ef s res) λp=>p.1=r/\Ik fr p.2 s.live
 |_,_=>False
def Il:Exit->S->Prop
 | .normal,s=>aj (ef s res) λp=>p.1=r/\Ik fr p.2 s.live/\ou s.boxes 0 css
 | .ret,s=>aj (ef s res) λp=>p.1=r/\Ik fr p.2 s.live/\ou s.boxes 0 css
 |_,_=>False
theorem v9{β:Nat->Nat} {τ:Nat->Value} {w:World} {π:Nat->Nat->Prop} {U:Nat->Prop} {a:AV} {x:Value} (h:DV w π a x):RV β τ w π (iX a) x/\(iX a).fJ U:=by
 cases a with
 |ref cs=>exact⟨RV.ref.2 h,trivial⟩
 |_=>exact⟨⟨h,λt ht=>by cases ht⟩,trivial⟩
theorem A4:∀{args:List AV} {i t:Nat} {v:SV},lk t (slotsOf i args)=some v->∃a,i<=t/\args[t-i]? =some a/\v=iX a
 |[],i,t,v,h=>by cases h
 |a::r,i,t,v,h=>by
  simp only[slotsOf,lk,jh]at h;split at h
  ·rename_i e;cases h;subst e;exact⟨a,im _,TB,rfl⟩
  ·obtain⟨b,D,A,B⟩:=A4 h
   refine⟨b,ST,?_,B⟩
   rw[show t-i=(t-(i+1))+1 by omega]
   simpa using A
end
section
variable{P:Program} {nt:Nat} {n0:ju} {w0:World} {π0:Nat->Nat->Prop} {U:Nat->Prop} {s:S} {a:Act} {w:World} {β:Nat->Nat} {τ:Nat->Value} {π:Nat->Nat->Prop}
section
variable {av:AV} {q:Option Nat}
def pH(A:Array Value):ResultVar->Sem Value
 | .tmp t=>pure (A.getD t undef)
 | .cell a t=>do loadVar t (<-asAddr (A.getD a undef))
theorem JO(R:Rel P nt n0 w0 π0 U s a w β τ π) {V:ResultVar} {cr:jf} (hc:K0 P V=some cr) (h:Lk s cr=some (av,q)):
  ∃v,(pH a.tmps V).run P w=.ok v w/\DV w π av v/\(∀t,q=some t->v=τ t):=by
 cases V with
 |tmp t=>
  cases hc;simp only[Lk]at h
  split at h<;>try(cases h;done)
  rename_i a' q' M;cases h;obtain⟨⟨x,O,B⟩,_⟩:=R.slots t _ M
  exact⟨x,by simp[pH,O],B.1,B.2⟩
 |cell L t=>
  simp only[K0,em]at hc;obtain⟨Z,ab,rfl⟩:=hc;simp only[Lk]at h
  split at h<;>try(cases h;done)
  rename_i b off M
  split at h<;>try(cases h;done)
  rename_i bx hb
  split at h<;>try(cases h;done)
  rename_i a' hp;cases h
  have aa:bB (Pure P) 0 (.ld (.t L) Z) (λv s'=>v=.dat av (match(generalizing:=false) Z with|none=>dY off bx.tags|some _=>none)) s:=by
   simp only[bB,bK,M,aB,hb,hp]
   cases Z<;>rfl
  obtain⟨v,y,B,D,_,hK⟩:=R.load (X:=.tmp L) rfl ab aa
  subst hK;obtain⟨⟨x,O,ac⟩,_⟩:=R.slots L _ M
  have A:x=.pointer (some ⟨β b,off,none⟩):=ac
  have he:a.eval (.tmp L)=x:=by simp[Act.eval,O]
  refine⟨y,?_,D.1,D.2⟩;rw[he,A]at B;simp[Instr.loadAt,Instr.sureAddr]at B;simp[pH,O,A,asAddr,B]
theorem F3(R:Rel P nt n0 w0 π0 U s a w β τ π):∀{A:List ResultVar} {xH:List jf},A.mapM (K0 P)=some xH->∀{as:List AV},mj s xH=some as->
  ∃vs,(A.mapM (pH a.tmps)).run P w=.ok vs w/\iy w π as vs
 |[],xH,B,as,h=>by
  simp at B;subst B;simp[mj]at h;subst h
  exact⟨[],TB,.nil _ _⟩
 |rv::A,xH,B,as,h=>by
  simp only[vd,p7,kb,xf,gg]at B;obtain⟨cr,L,V,D,rfl⟩:=B;simp only[mj]at h
  split at h<;>try(cases h;done)
  rename_i p aa h1 h2;cases h
  obtain⟨v,Z,hd,_⟩:=JO R L (av:=p.1) (q:=p.2) h1
  obtain⟨vs,M,O⟩:=F3 R D h2
  exact⟨v::vs,by simp[vd,Z,M],.cons hd O⟩
theorem Im(fn:Func) (A:Array Value):results fn A=(do let vs<-fn.results.mapM (pH A);pure (if h:vs.size=1 then vs[0]else .tuple vs)):=by
 unfold results
 congr 1
theorem A5(R:Rel P nt n0 w0 π0 U s a w β τ π) {fn:Func} {xH:List jf} (V:fn.results.toList.mapM (K0 P)=some xH) (h:ef s xH=some (av,q)):
  ∃v,(results fn a.tmps).run P w=.ok v w/\DV w π av v/\(∀t,q=some t->v=τ t):=by
 have go:∀vs:List Value,(fn.results.toList.mapM (pH a.tmps)).run P w=.ok vs w->(results fn a.tmps).run P w=.ok (if h:vs.length=1 then vs[0]else .tuple vs.toArray) w:=by
  intro vs O
  have:(fn.results.mapM (pH a.tmps)).run P w=.ok vs.toArray w:=by
   have e:fn.results=fn.results.toList.toArray:=TB
   rw[e,List.mapM_toArray,Sem.run_map,O];rfl
  rw[Im,fp,this];simp
 have ab:(∀r,xH≠[r])->ef s xH=(mj s xH).map λas=>(.cU as,none):=by
  intro A
  cases xH with
  |nil=>rfl
  |cons r rs=>
   cases rs with
   |nil=>exact absurd rfl (A r)
   |cons r' rs=>rfl
 by_cases D:∃r,xH=[r]
 ·obtain⟨r,rfl⟩:=D
  cases M:fn.results.toList with
  |nil=>rw[M]at V;simp at V
  |cons rv Z=>
   rw[M]at V;simp only[vd,p7,kb,xf,gg]at V;obtain⟨cr,ac,ae,B,he⟩:=V;cases he
   have aa:Z=[]:=by
    cases Z with
    |nil=>rfl
    |cons x xs=>
     simp only[vd,p7,kb,xf,gg]at B;obtain⟨_,_,_,_,h⟩:=B;cases h
   subst aa;obtain⟨v,hv,hd,hq⟩:=JO R ac h;refine⟨v,?_,hd,hq⟩
   rw[go [v] (by rw[M];simp[hv])]
   simp
 ·have A:∀r,xH≠[r]:=λr e=>D ⟨r,e⟩
  rw[ab A]at h;simp only[em,Prod.mk.injEq]at h;obtain⟨as,has,rfl,rfl⟩:=h;obtain⟨vs,O,L⟩:=F3 R V has
  have ad:xH.length=vs.length:=by
   have:∀{xH:List jf} {as:List AV},mj s xH=some as->xH.length=as.length:=by
    intro xH
    induction xH with
    |nil=>intro as h;simp[mj]at h;subst h;rfl
    |cons c xH ih=>
     intro as h;simp only[mj]at h
     split at h<;>try(cases h;done)
     rename_i p ag h1 h2;cases h;simp[ih h2]
   rw[this has,L.1]
  refine⟨.tuple vs.toArray,?_,.cU as vs.toArray (by simpa using L.1) (λi a v ha hv=>L.2 i a v ha (by simpa using hv)),λt ht=>by cases ht⟩
  rw[go vs O]
  have:¬vs.length=1:=by
   intro e;rw[<-ad]at e
   match xH,e,A with
   |[r],_,A=>exact A r rfl
  rw[dif_neg this]
end
end
section
variable{P:Program}
section
variable {A:List (List AV)} {U:Nat->Prop} {a:Act} {cf:cj} {css:List (List AV)} {f:FuncId} {fr:Option Nat} {mo:Bool} {nt:Nat} {r:AV} {s:S} {w w':World} {β:Nat->Nat} {π π':Nat->Nat->Prop} {τ:Nat->Value}
theorem F4{O:Bool} (A:HX O P f=some cf):∃(fn:Func) (c:Code) (cc:aZ),P.funcs[f]? =some fn/\fn.body=some c/\fn.results.toList.mapM (K0 P)=some cf.res/\dw O P c=some cc/\cf.code=cc/\cf.nt=fn.ntmps/\cc.fits fn.ntmps=true/\cw P f=true:=by
 unfold HX at A
 split at A<;>try(cases A;done)
 rename_i fn M
 split at A<;>try(cases A;done)
 rename_i c R hbody L
 split at A<;>try(cases A;done)
 rename_i cc D
 split at A<;>try(cases A;done)
 rename_i B;cases A;simp only[dT]at B;exact⟨fn,c,cc,M,hbody,L,D,rfl,rfl,B.1,B.2⟩
theorem JP{c:Code} {Q:Exit->Act->World->Prop} (h:c.wpIn (FW none) 0 P Q a w):c.wpIn Fence.wide 0 P Q a w:=h
theorem jk{nt:Nat} {n0:ju} {w:World} {π:Nat->Nat->Prop} {s:S} {a:Act} {fn:Func} {R:Ending->World->Prop}
  (A:∀w',eM P nt n0 w π s a w'->∃v,(results fn a.tmps).run P w'=.ok v w'/\R (.returned v) w'):
  ∀(L:List Nat) (w':World),L.Nodup->(∀D∈L,n0.n<=D/\w'.heap[D]? =some (.deferred (some [])))->eM P nt n0 w π s a w'->w.heap.size<=n0.n->LeavesInM Fence.wide 0 P fn a.tmps R (L.map Ta) .returning w'
 |[],w',_,_,R',_=>A w' R'
 |D::L,w',B,hD,R',Z=>by
  obtain⟨V,O⟩:=hD D ip;simp only[xi]at B
  refine⟨TB,.inl ⟨D,_,rfl,run_takeDeferred O,?_⟩⟩
  refine jk A L _ B.2 (λD' M=>?_) ((R'.putObj O rfl rfl).WZ (R'.below.putObj (kf Z V) V _) R'.fc (λb o hb=>(ku O rfl rfl _).trans (R'.kept b o hb))) Z
  obtain⟨g1,g2⟩:=hD D' (ii _ M)
  exact⟨g1,(s8 (λe=>B.1 (by rw[<-e];exact M))).trans g2⟩
theorem Qq(hm:P.follows .mixedOrders=true) (ao:HX mo P f=some cf) {args:List AV} (hn:args.length<=cf.nt) (h:aw (Pure P) cf.code (fin cf.res r fr) (JN args)):C4 P f args r fr:=by
 obtain⟨fn,c,cc,am,hbody,ak,ag,ec,en,ad,V⟩:=F4 ao;rw[ec]at h;rw[en]at hn
 refine⟨V,λw π vs O hd=>?_⟩
 have ar:=hd.1
 have R:eM P fn.ntmps (ju.top w) w π (JN args) {tmps:=vs.toArray++Array.replicate (fn.ntmps-vs.toArray.size) undef,defers:=[]} w:=by
  refine⟨im 4,id,λ_=>undef,π,λn=>n<4,λ_ h=>h,?_⟩
  refine{size:=?_,slots:=?_,boxes:=λb x h=>(by cases h),inj:=λb b' x x' h=>(by cases h),live:=λq e h=>(by cases h),cg:=λq q' e e' B h=>(by cases h),cz:=λq e b x h=>(by cases h),below:=.refl _ _,fc:=im _,ez:=O,eJ:=λ_ _ h=>h,cZ:=λ_ _ h=>.inl h,l8:=λ_ _=>rfl,iV:=λ_ h=>h,kept:=λ_ _ _=>rfl}
  ·simp;omega
  ·intro t v hv
   obtain⟨av,_,A,rfl⟩:=A4 hv;simp only[Nat.sub_zero]at A;obtain⟨x,hx,aa⟩:=hd.get A
   refine⟨⟨x,?_,(v9 (U:=λn=>n<4) aa).1⟩,(v9 (β:=id) (τ:=λ_=>undef) aa).2⟩
   have ae:t<vs.length:=(e9.1 hx).1
   simp[Array.getElem?_append,ae]
   simpa using(e9.1 hx).2
 refine callsIn_wide.1 (callsIn_of_wp_marks (n:=0) (F:=Fence.wide) am hbody trivial (H1 (JP (F1 hm c cc ag ad _ (λ_=>False) ⟨#[],[]⟩ (λ_ h=>h.elim) none 0 w _ _ _ _ ⟨R,λl h=>by(cases h),⟨[],rfl,.nil,TB⟩,λ_ h=>h.elim⟩ h)) ?_))
 have M:∀(s:S) (a':Act) (w':World),(aj (ef s cf.res) λp=>p.1=r/\Ik fr p.2 s.live)->eM P fn.ntmps (ju.top w) w π s a' w'->
   ∃v,(results fn a'.tmps).run P w'=.ok v w'/\∃u π',Ending.returned v=.returned u/\Below w.heap.size w w'/\(∀b o,π b o->π' b o)/\(∀b o,π' b o->π b o\/w.heap.size<=b)/\
    (∀b o,π' b o->b<w'.heap.size)/\DV w' π' r u/\∀t,fr=some t->D7 P w' π' (λB=>w.heap.size<=B) t u:=by
  rintro s a' w' Z ⟨_,β,τ,π',U,hU,R'⟩
  obtain⟨⟨av,q⟩,hp,A,D⟩:=af Z;simp only at A D;subst A;obtain⟨v,hv,al,an⟩:=A5 R' ak hp
  refine⟨v,hv,v,π',rfl,R'.below.below (λ_ h=>h),R'.eJ,λb o h=>(R'.cZ b o h).imp id (λh=>h.elim id (λh=>h.elim)),R'.ez,al,λt ht=>?_⟩
  subst ht;simp only[Ik]at D
  cases q with
  |none=>exact D.elim
  |some q=>
   rw[an q rfl]
   exact(R'.live q t D).2.weaken (λB h=>h.elim id (λh=>h.elim))
 rintro e a' w' ⟨s,Z,R',_,⟨Ds,L,ac,ab⟩,_⟩
 have L:a'.defers=Ds.map Ta:=by simpa using L
 cases e with
 |normal=>show LeavesInM _ _ _ _ _ _ a'.defers _ _;rw[L];exact jk (M s a' · Z) Ds w' ac ab R' (im _)
 |ret=>show LeavesInM _ _ _ _ _ _ a'.defers _ _;rw[L];exact jk (M s a' · Z) Ds w' ac ab R' (im _)
 |_=>exact Z.elim
theorem tD{w:World} {π:Nat->Nat->Prop}:∀{args:List (Option AV)} {Bs:List Nat} {vs:List Value},ep w π args Bs vs->∀{i k t:Nat} {v:SV},lk t (bW i k args)=some v->
  ∃x,i<=t/\vs[t-i]? =some x/\((∃a,v=iX a/\DV w π a x)\/∃j B,Bs[j]? =some B/\((v=.ptr (k+j) 0/\x=.pointer (some ⟨B,0,none⟩))\/(v=.pt 0 [(k+j,0)]/\x=.agg #[.pointer (some ⟨B,0,none⟩)])))
 |[],Bs,vs,D,i,k,t,v,h=>by cases h
 |some a::args,Bs,[],D,i,k,t,v,h=>by cases Bs<;>cases a<;>exact D.elim
 |some a::args,Bs,x::vs,D,i,k,t,v,h=>by
  rcases l9 D with⟨rfl,B,aa,rfl,R,A⟩|⟨Z,A⟩
  ·simp only[bW,lk,jh]at h
   split at h
   ·rename_i e;cases h;subst e
    exact⟨x,im _,TB,.inr ⟨0,B,rfl,.inr ⟨rfl,R⟩⟩⟩
   ·obtain⟨y,V,O,L⟩:=tD A h
    refine⟨y,ST,?_,?_⟩
    ·rw[show t-i=(t-(i+1))+1 by omega];simpa using O
    ·rcases L with L|⟨j,B',hB,M⟩
     ·exact .inl L
     ·exact .inr ⟨j+1,B',by simpa using hB,by rw[show k+(j+1)=k+1+j by omega];exact M⟩
  have es:bW i k (some a::args)=(i,iX a)::bW (i+1) k args:=by cases a<;>first|rfl|exact absurd rfl Z
  rw[es]at h;simp only[lk,jh]at h;split at h
  ·rename_i e;cases h;subst e
   exact⟨x,im _,TB,.inl ⟨a,rfl,A.1⟩⟩
  ·obtain⟨y,V,O,L⟩:=tD A.2 h
   refine⟨y,ST,?_,L⟩
   rw[show t-i=(t-(i+1))+1 by omega];simpa using O
 |none::args,[],vs,D,i,k,t,v,h=>by cases vs<;>exact D.elim
 |none::args,B::Bs,[],D,i,k,t,v,h=>D.elim
 |none::args,B::Bs,x::vs,D,i,k,t,v,h=>by
  obtain⟨R,A⟩:=D;simp only[bW,lk,jh]at h;split at h
  ·rename_i e;cases h;subst e
   exact⟨x,im _,TB,.inr ⟨0,B,rfl,.inl ⟨rfl,R⟩⟩⟩
  ·obtain⟨y,V,O,L⟩:=tD A h
   refine⟨y,ST,?_,?_⟩
   ·rw[show t-i=(t-(i+1))+1 by omega];simpa using O
   ·rcases L with L|⟨j,B',hB,M⟩
    ·exact .inl L
    ·exact .inr ⟨j+1,B',by simpa using hB,by rw[show k+(j+1)=k+1+j by omega];exact M⟩
theorem A6:∀{css:List (List AV)} {k b:Nat} {x:cI},b9 b (rK k css)=some x->∃cs,k<=b/\css[b-k]? =some cs/\x=⟨cs,[]⟩
 |[],k,b,x,h=>by cases h
 |cs::css,k,b,x,h=>by
  simp only[rK,b9,jh]at h;split at h
  ·rename_i e;cases h;subst e;exact⟨cs,im _,TB,rfl⟩
  ·obtain⟨A,L,D,B⟩:=A6 h
   refine⟨A,ST,?_,B⟩
   rw[show b-k=(b-(k+1))+1 by omega];simpa using D
theorem yd{w:World} {π:Nat->Nat->Prop}:∀{args:List (Option AV)} {Bs:List Nat} {vs:List Value},ep w π args Bs vs->args.length=vs.length
 |[],Bs,vs,h=>by cases Bs<;>cases vs<;>first|rfl|exact h.elim
 |some a::args,Bs,[],h=>by cases Bs<;>cases a<;>exact h.elim
 |some a::args,Bs,v::vs,h=>by
  rcases l9 h with⟨_,_,_,_,_,A⟩|⟨_,_,A⟩<;>simp[yd A]
 |none::args,[],vs,h=>by cases vs<;>exact h.elim
 |none::args,B::Bs,[],h=>h.elim
 |none::args,B::Bs,v::vs,h=>by simp[yd h.2]
theorem Dk:∀{l:List Nat},l.Nodup->∀(i j:Nat) (x:Nat),l[i]? =some x->l[j]? =some x->i=j
 |[],_,i,j,x,h,_=>by simp at h
 |a::l,D,i,j,x,B,A=>by
  rw[xi]at D
  cases i with
  |zero=>cases j with
   |zero=>rfl
   |succ j=>simp at B A;subst B;exact absurd (ev A) D.1
  |succ i=>cases j with
   |zero=>simp at B A;subst A;exact absurd (ev B) D.1
   |succ j=>rw[Dk D.2 i j x (by simpa using B) (by simpa using A)]
theorem A7{l:List (Nat×cI)} {w:World} {π:Nat->Nat->Prop} {β:Nat->Nat} (A:∀b x,b9 b l=some x->qO (λ_=>undef) w π (β b) ⟨x.cells,[]⟩):
  ∀{css:List (List AV)} {Bs:List Nat} {k:Nat},css.length=Bs.length->(∀j B,Bs[j]? =some B->β (k+j)=B)->ou l k css->cY w π css Bs
 |[],[],k,_,_,_=>trivial
 |[],B::Bs,k,h,_,_=>by simp at h
 |cs::css,[],k,h,_,_=>by simp at h
 |cs::css,B::Bs,k,h,L,D=>by
  obtain⟨x,O,e⟩:=af D.1
  refine⟨?_,A7 A (by simpa using h) (λj B' M=>by rw[show k+1+j=k+(j+1)by omega];exact L (j+1) B' (by simpa using M)) D.2⟩
  have:=A k x O
  rw[<-e,<-L 0 B rfl];exact this
theorem A8{w:World} {π:Nat->Nat->Prop}:∀{css:List (List AV)} {Bs:List Nat},cY w π css Bs->∀B∈Bs,∀o,¬π B o
 |[],[],_,B,hB=>by cases hB
 |[],_::_,h,_,_=>h.elim
 |_::_,[],h,_,_=>h.elim
 |cs::css,B'::Bs,h,B,hB=>by
  rcases lw.1 hB with rfl|hB
  ·obtain⟨_,_,_,_,_,_,A⟩:=h.1;exact A
  ·exact A8 h.2 B hB
theorem Rel.Xx{P:Program} {Bs:List Nat} (R:Rel P nt (ju.qP w Bs) w π U s a w' β τ π') (O:css.length=Bs.length) (Z:css.length<=4) (V:A.length=css.length) (D:ou s.boxes 0 A):cY w' π' A Bs:=by
 refine A7 (β:=β) (λb x M=>(R.boxes b x M).2.2.1.xW) ST (λj B L=>?_) D
 have:j<Bs.length:=(e9.1 L).1
 rw[la,R.l8 j ST]
 simp[ju.qP,L]
theorem Dl{l:List (Nat×cI)}:∀{css:List (List AV)} {k j:Nat},ou l k css->j<css.length->∃x,b9 (k+j) l=some x
 |[],k,j,_,A=>by simp at A
 |cs::css,k,j,h,A=>by
  cases j with
  |zero=>obtain⟨x,B,_⟩:=af h.1;exact⟨x,B⟩
  |succ j=>
   obtain⟨x,B⟩:=Dl h.2 (by simpa using A)
   exact⟨x,by rw[show k+(j+1)=k+1+j by omega];exact B⟩
theorem Rel.CQ{P:Program} {Bs:List Nat} (R:Rel P nt (ju.qP w Bs) w π U s a w' β τ π') (aa:css.length=Bs.length) (h4:css.length<=4) (hl:A.length=css.length) (O:ou s.boxes 0 A) {q e:Nat} (V:dY q s.live=some e):D7 P w' π' (λB=>w.heap.size<=B) e (τ q):=by
 have ht:=(R.live q e V).2
 rcases ht with h|⟨B,len,cap,L,i,hv,M,D⟩
 ·exact .inl h
 ·refine .inr ⟨B,len,cap,L,i,hv,?_,D⟩
  rcases M with h|h
  ·exact h
  ·exfalso
   obtain⟨j,Z⟩:=mr.1 (show B∈Bs from h)
   have ab:j<Bs.length:=(e9.1 Z).1
   obtain⟨x,hx⟩:=Dl O (j:=j) ST
   rw[la]at hx;refine R.cz q e j x V hx ?_
   rw[hv,R.l8 j ST]
   simp[ju.qP,iz,Z]
theorem M9(hm:P.follows .mixedOrders=true) (ba:HX mo P f=some cf) {args:List (Option AV)} (hn:args.length<=cf.nt) (hl:A.length=css.length) (h4:css.length<=4) (h:aw (Pure P) cf.code (Il cf.res r fr A) (F2 css args)):AA P f css args r fr A:=by
 obtain⟨fn,c,cc,a9,hbody,ar,ao,ec,en,am,ac⟩:=F4 ba;rw[ec]at h;rw[en]at hn
 refine⟨ac,hl,h4,λw π Bs vs aa a6 au hd=>?_⟩
 have bd:=yd hd
 obtain⟨ad,ab⟩:=au.get
 have hβ:∀(j B:Nat),Bs[j]? =some B->(ju.qP w Bs).β j=B:=λj B hj=>by simp[ju.qP,hj]
 have R:eM P fn.ntmps (ju.qP w Bs) w π (F2 css args) {tmps:=vs.toArray++Array.replicate (fn.ntmps-vs.toArray.size) undef,defers:=[]} w:=by
  refine⟨im 4,(ju.qP w Bs).β,λ_=>undef,π,λn=>n<4,λ_ h=>h,?_⟩
  have D:∀b x,b9 b (F2 css args).boxes=some x->∃B cs,b<4/\Bs[b]? =some B/\(ju.qP w Bs).β b=B/\x=⟨cs,[]⟩/\qO (λ_=>undef) w π B ⟨cs,[]⟩:=by
   intro b x hb;obtain⟨cs,_,h2,h3⟩:=A6 hb;simp only[Nat.sub_zero]at h2
   have be:b<css.length:=(e9.1 h2).1
   have hB:Bs[b]? =some Bs[b]:=et ST
   exact⟨_,cs,ST,hB,hβ _ _ hB,h3,ab b cs _ h2 hB⟩
  refine{size:=?_,slots:=?_,boxes:=?_,inj:=?_,live:=λq e h=>(by cases h),cg:=λq q' e e' B h=>(by cases h),cz:=λq e b x h=>(by cases h),below:=.refl _ _,fc:=im _,ez:=aa,eJ:=λ_ _ h=>h,cZ:=λ_ _ h=>.inl h,l8:=λ_ _=>rfl,iV:=λ_ h=>h,kept:=λ_ _ _=>rfl}
  ·simp;omega
  ·intro t v hv
   obtain⟨x,_,hx,a4⟩:=tD hd hv;simp only[Nat.sub_zero]at hx
   have an:t<vs.length:=(e9.1 hx).1
   have L:(vs.toArray++Array.replicate (fn.ntmps-vs.toArray.size) undef)[t]? =some x:=by
    simp[Array.getElem?_append,an]
    simpa using(e9.1 hx).2
   rcases a4 with⟨a,rfl,al⟩|⟨j,B,hB,⟨rfl,rfl⟩|⟨rfl,rfl⟩⟩
   ·exact⟨⟨x,L,(v9 (U:=λn=>n<4) al).1⟩,(v9 (β:=id) (τ:=λ_=>undef) al).2⟩
   ·refine⟨⟨_,L,?_⟩,?_⟩
    ·show Value.pointer (some ⟨B,0,none⟩)=.pointer (some ⟨(ju.qP w Bs).β (0+j),0,none⟩)
     rw[la,hβ j B hB]
    ·have:j<Bs.length:=(e9.1 hB).1
     show 0+j<4
     omega
   ·have hj:j<Bs.length:=(e9.1 hB).1
    refine⟨⟨_,L,?_⟩,λp hp=>?_⟩
    ·show Value.agg #[.pointer (some ⟨B,0,none⟩)]=.agg #[.pointer (some ⟨(ju.qP w Bs).β (0+j),0,none⟩)]
     rw[la,hβ j B hB]
    ·simp at hp;subst hp
     show j<4
     omega
  ·intro b x hb
   obtain⟨B,cs,h1,h2,h3,rfl,h5⟩:=D b x hb
   exact⟨h1,.inr ⟨h1,by rw[h3];exact ev h2⟩,by rw[h3];exact h5,λo q hq=>by cases hq⟩
  ·intro b b' x x' hb a7 e
   obtain⟨B,_,_,h2,h3,_,_⟩:=D b x hb;obtain⟨B',_,_,a2,a5,_,_⟩:=D b' x' a7;rw[h3,a5]at e;subst e;exact Dk a6 b b' B h2 a2
 refine callsIn_wide.1 (callsIn_of_wp_marks (n:=0) (F:=Fence.wide) a9 hbody trivial (H1 (JP (F1 hm c cc ao am _ (λ_=>False) ⟨#[],[]⟩ (λ_ h=>h.elim) none 0 w _ _ _ _ ⟨R,λl h=>by(cases h),⟨[],rfl,.nil,TB⟩,λ_ h=>h.elim⟩ h)) ?_))
 have Z:∀(s:S) (a':Act) (w':World),(aj (ef s cf.res) λp=>p.1=r/\Ik fr p.2 s.live/\ou s.boxes 0 A)->eM P fn.ntmps (ju.qP w Bs) w π s a' w'->
   ∃v,(results fn a'.tmps).run P w'=.ok v w'/\∃u π',Ending.returned v=.returned u/\xO (ju.qP w Bs) w w'/\(∀b o,π b o->π' b o)/\(∀b o,π' b o->π b o\/w.heap.size<=b)/\
    (∀b o,π' b o->b<w'.heap.size)/\cY w' π' A Bs/\DV w' π' r u/\∀t,fr=some t->D7 P w' π' (λB=>w.heap.size<=B) t u:=by
  rintro s a' w' hq ⟨_,β,τ,π',U,hU,R'⟩
  obtain⟨⟨av,q⟩,hp,ae,M,O⟩:=af hq;simp only at ae M O;subst ae;obtain⟨v,hv,a3,a8⟩:=A5 R' ar hp
  have hB:=R'.Xx ad h4 hl O
  refine⟨v,hv,v,π',rfl,R'.below,R'.eJ,λb o h=>(R'.cZ b o h).imp id (λk=>k.elim id (λk=>absurd h (A8 hB b k o))),R'.ez,?_,a3,λt ht=>?_⟩
  ·refine A7 (β:=β) (λb x hb=>(R'.boxes b x hb).2.2.1.xW) ST (λj B hj=>?_) O
   have:j<Bs.length:=(e9.1 hj).1
   rw[la,R'.l8 j ST]
   exact hβ j B hj
  ·subst ht
   simp only[Ik]at M
   cases q with
   |none=>exact M.elim
   |some q=>
    rw[a8 q rfl];exact R'.CQ ad h4 hl O M
 rintro e a' w' ⟨s,hq,R',_,⟨Ds,V,ak,ag⟩,_⟩
 have V:a'.defers=Ds.map Ta:=by simpa using V
 cases e with
 |normal=>show LeavesInM _ _ _ _ _ _ a'.defers _ _;rw[V];exact jk (Z s a' · hq) Ds w' ak ag R' (im _)
 |ret=>show LeavesInM _ _ _ _ _ _ a'.defers _ _;rw[V];exact jk (Z s a' · hq) Ds w' ak ag R' (im _)
 |_=>exact hq.elim
end
end
end Go.Eng
