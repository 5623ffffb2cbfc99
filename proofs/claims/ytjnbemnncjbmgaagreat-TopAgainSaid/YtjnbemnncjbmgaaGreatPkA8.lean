/- Part 8 of the engine and its library. -/
import Derived.Test.YtjnbemnncjbmgaaGreatPkA7
set_option linter.all false
set_option maxRecDepth 10000
set_option maxHeartbeats 4000000
namespace Go.Eng
open Go
open Go.RowKit (Below)
theorem Sv:∀{l:List (Nat×SV)} {t:Nat} {v:SV},lk t l=some v->(t,v)∈l
 |[],t,v,h=>by cases h
 |(m,u)::r,t,v,h=>by
  simp only[lk,ki]at h;split at h
  ·rename_i e;cases h;subst e;exact mp ..
  ·exact lc _ (Sv h)
theorem y9:∀{l:List (Nat×bH)} {t:Nat} {v:bH},bO t l=some v->(t,v)∈l
 |[],t,v,h=>by cases h
 |(m,u)::r,t,v,h=>by
  simp only[bO,ki]at h;split at h
  ·rename_i e;cases h;subst e;exact mp ..
  ·exact lc _ (y9 h)
theorem rX:∀{l:List (Nat×Nat)} {t:Nat} {v:Nat},dJ t l=some v->(t,v)∈l
 |[],t,v,h=>by cases h
 |(m,u)::r,t,v,h=>by
  simp only[dJ,ki]at h;split at h
  ·rename_i e;cases h;subst e;exact mp ..
  ·exact lc _ (rX h)
theorem BP{m:List (Nat×Nat)} {nx:Nat} {a:List (Nat×SV)}:∀{l:List (Nat×SV)},gI m nx a l->∀t v,(t,v)∈l->∃u,lk t a=some u/\yL m nx u v
 |[],h,t,v,hm=>by cases hm
 |(L,D)::r,h,t,v,hm=>by
  rcases nb.1 hm with e|e
  ·cases e;exact ah h.1
  ·exact BP h.2 t v e
theorem xW{m:List (Nat×Nat)} {nx:Nat} {a:List (Nat×Nat)}:∀{l:List (Nat×Nat)},j8 m nx a l->∀o q,(o,q)∈l->dJ o a=some (Gk m q)/\q<nx
 |[],h,t,v,hm=>by cases hm
 |(L,D)::r,h,t,v,hm=>by
  rcases nb.1 hm with e|e
  ·cases e;exact h.1
  ·exact xW h.2 t v e
theorem mb{m:List (Nat×Nat)} {nx:Nat} {a:List (Nat×bH)}:∀{l:List (Nat×bH)},iB m nx a l->∀b x,(b,x)∈l->∃y,bO b a=some y/\y.cells=x.cells/\j8 m nx y.tags x.tags/\b<nx
 |[],h,t,v,hm=>by cases hm
 |(O,M)::r,h,t,v,hm=>by
  rcases nb.1 hm with e|e
  ·cases e;obtain⟨y,D,L⟩:=ah h.1;exact⟨y,D,L⟩
  ·exact mb h.2 t v e
theorem ob{m:List (Nat×Nat)} {nx:Nat} {a:List (Nat×Nat)}:∀{l:List (Nat×Nat)},pM m nx a l->∀q e,(q,e)∈l->dJ (Gk m q) a=some e/\q<nx
 |[],h,t,v,hm=>by cases hm
 |(L,D)::r,h,t,v,hm=>by
  rcases nb.1 hm with e|e
  ·cases e;exact h.1
  ·exact ob h.2 t v e
theorem GV{α:Type} {f:α->Nat}:∀{l:List α},(l.map f).Nodup->∀x y,x∈l->y∈l->f x=f y->x=y
 |[],h,x,y,L,M,e=>by cases L
 |a::l,h,x,y,L,M,e=>by
  simp only[ka,wd]at h
  rcases nb.1 L with D|D<;>rcases nb.1 M with ky|ky
  ·rw[D,ky]
  ·exact absurd (by rw[<-D,e];exact Pl ky) h.1
  ·exact absurd (by rw[<-ky,<-e];exact Pl D) h.1
  ·exact GV h.2 x y D ky e
section
variable{P:Program} {nt:Nat} {n0:gw} {w0:World} {π0:Nat->Nat->Prop} {s s1:S} {a:Act} {w:World}
def dS(P:Program) (nt:Nat) (n0:gw) (w0:World) (π0:Nat->Nat->Prop) (s:S) (a:Act) (w:World):Prop:=
 4<=s.nx/\∃β τ π U,(∀n,U n->n<s.nx)/\Rel P nt n0 w0 π0 U s a w β τ π
theorem Rel.le{U:Nat->Prop} {β:Nat->Nat} {τ:Nat->Value} {π:Nat->Nat->Prop} (R:Rel P nt n0 w0 π0 U s a w β τ π) (h:Le s s1):dS P nt n0 w0 π0 s1 a w:=by
 obtain⟨h0,m,h1,h2,h3,h4⟩:=h
 refine⟨h0,β,λq=>τ (Gk m q),π,λn=>n<s1.nx,λn h=>h,?_⟩
 refine{size:=R.size,slots:=?_,boxes:=?_,inj:=?_,live:=?_,cw:=?_,cz:=?_,below:=R.below,f9:=R.f9,eF:=R.eF,ep:=R.ep,cB:=R.cB,lz:=R.lz,jb:=λk hk=>by show k<s1.nx;omega,kept:=R.kept}
 ·intro t v hv
  obtain⟨u,hu,D⟩:=BP h1 t v (Sv hv)
  obtain⟨⟨x,V,M⟩,hU⟩:=R.slots t u hu
  cases u with
  |dat au qu=>
   cases v with
   |dat av qv=>
    cases qv with
    |none=>
     have e:au=av:=by cases qu<;>exact D
     subst e
     exact⟨⟨x,V,M.1,λt ht=>by cases ht⟩,trivial⟩
    |some q=>
     cases qu with
     |none=>exact D.elim
     |some q0=>
      obtain⟨e,L,O⟩:=D;subst e
      refine⟨⟨x,V,M.1,λt ht=>?_⟩,O⟩
      cases ht
      show x=τ (Gk m q)
      rw[<-L];exact M.2 q0 rfl
   |_=>cases qu<;>exact D.elim
  |ptr b o=>
   cases v with
   |ptr b' o'=>
    obtain⟨Z,L,e3⟩:=D;subst Z L;exact⟨⟨x,V,M⟩,e3⟩
   |_=>exact D.elim
  |rp cs=>
   cases v with
   |rp al=>
    have e:cs=al:=D
    subst e;exact⟨⟨x,V,M⟩,trivial⟩
   |_=>exact D.elim
  |undef=>
   cases v with
   |undef=>exact⟨⟨x,V,M⟩,trivial⟩
   |_=>exact D.elim
  |vs b o n z=>
   cases v with
   |vs b' o' n' z'=>
    obtain⟨⟨Z,L⟩,⟨e3,e4⟩,h4⟩:=D;subst Z L e3 e4;exact⟨⟨x,V,M⟩,h4⟩
   |_=>exact D.elim
  |mL f as bs=>
   cases v with
   |mL f' ar a3=>
    obtain⟨Z,L,e3,h4⟩:=D;subst Z L e3;exact⟨⟨x,V,M⟩,h4⟩
   |_=>exact D.elim
  |raw q n=>cases v<;>exact D.elim
  |pt k ps=>
   cases v with
   |pt k' a2=>
    obtain⟨Z,L,h4⟩:=D;subst Z L
    exact⟨⟨x,V,by cases k<;>exact M⟩,h4⟩
   |_=>exact D.elim
 ·intro b x hb
  obtain⟨y,hy,ac,ab,ad⟩:=mb h2 b x (y9 hb)
  obtain⟨_,hn,⟨ag,el,c1,c2,c3,c4,c5⟩,O⟩:=R.boxes b y hy
  refine⟨ad,hn,⟨ag,el,c1,by rw[<-ac];exact c2,by rw[<-ac];exact c3,λo q ho=>?_,c5⟩,λo q ho=>?_⟩
  ·exact c4 o _ (xW ab o q (rX ho)).1
  ·exact(xW ab o q (rX ho)).2
 ·intro b b' x x' hb ao e
  obtain⟨y,hy,_⟩:=mb h2 b x (y9 hb)
  obtain⟨y',am,_⟩:=mb h2 b' x' (y9 ao)
  exact R.inj b b' y y' hy am e
 ·intro q e O
  obtain⟨h5,h6⟩:=ob h3 q e (rX O)
  exact⟨h6,(R.live _ e h5).2⟩
 ·intro q q' e e' B O an hB ak
  have hm:=rX O
  have aa:=rX an
  obtain⟨h5,_⟩:=ob h3 q e hm;obtain⟨ae,_⟩:=ob h3 q' e' aa
  have:=R.cw _ _ e e' B h5 ae hB ak
  have:=GV h4 _ _ hm aa this
  exact rh Prod.fst this
 ·intro q e b x O hb
  obtain⟨h5,_⟩:=ob h3 q e (rX O)
  obtain⟨y,hy,_⟩:=mb h2 b x (y9 hb)
  exact R.cz _ e b y h5 hy
variable{U:Nat->Prop} {β:Nat->Nat} {τ:Nat->Value} {π:Nat->Nat->Prop}
section
variable {a':Act} {w':World} (r:Option Nat)
theorem Rel.Z1(R:Rel P nt n0 w0 π0 U s a w β τ π) {D:World} (M:vR n0 D w) (L:n0.n<=D.heap.size) (hk:∀b o,π0 b o->w.cell? ⟨b,o,none⟩=D.cell? ⟨b,o,none⟩):Rel P nt n0 D π0 U s a w β τ π:={R with below:=M,f9:=L,kept:=hk}
theorem Rel.WV(R:Rel P nt n0 w0 π0 U s a w β τ π):Rel P nt n0 w π0 U s a w β τ π:=R.Z1 (.refl _ _) (kw R.f9 R.below.size) (λ_ _ _=>rfl)
theorem dS.below(R:dS P nt n0 w0 π0 s a w):vR n0 w0 w:=let ⟨_,_,_,_,_,_,R0⟩:=R;R0.below
theorem dS.f9(R:dS P nt n0 w0 π0 s a w):n0.n<=w0.heap.size:=let ⟨_,_,_,_,_,_,R0⟩:=R;R0.f9
theorem dS.Z1(R:dS P nt n0 w0 π0 s a w) {D:World} (M:vR n0 D w) (L:n0.n<=D.heap.size) (hk:∀b o,π0 b o->w.cell? ⟨b,o,none⟩=D.cell? ⟨b,o,none⟩):dS P nt n0 D π0 s a w:=let ⟨h,β,τ,π,U,hU,R⟩:=R;⟨h,β,τ,π,U,hU,R.Z1 M L hk⟩
theorem dS.kept(R:dS P nt n0 w0 π0 s a w):∀b o,π0 b o->w.cell? ⟨b,o,none⟩=w0.cell? ⟨b,o,none⟩:=let ⟨_,_,_,_,_,_,R0⟩:=R;R0.kept
theorem dS.back{D:Nat->Nat->Prop} {L:World} (R:dS P nt n0 L D s a w) (O:∀b o,π0 b o->D b o) (M:∀b o,D b o->π0 b o\/n0.ok b) (V:vR n0 w0 w) (Z:n0.n<=w0.heap.size) (hk:∀b o,π0 b o->w.cell? ⟨b,o,none⟩=w0.cell? ⟨b,o,none⟩):dS P nt n0 w0 π0 s a w:=
 let ⟨h,β,τ,π,U,hU,R⟩:=R
 ⟨h,β,τ,π,U,hU,{R with below:=V,f9:=Z,kept:=hk,ep:=λb o h=>R.ep b o (O b o h),cB:=λb o h=>(R.cB b o h).elim (M b o) .inr}⟩
theorem dS.WV(R:dS P nt n0 w0 π0 s a w):dS P nt n0 w π0 s a w:=let ⟨h,β,τ,π,U,hU,R⟩:=R;⟨h,β,τ,π,U,hU,R.WV⟩
theorem dS.WW(R:dS P nt n0 w0 π0 s a w) (h:a'.tmps=a.tmps):dS P nt n0 w0 π0 s a' w:=
 let ⟨h4,β,τ,π,U,hU,R⟩:=R
 ⟨h4,β,τ,π,U,hU,{R with size:=by rw[h];exact R.size,slots:=λt v D=>by rw[h];exact R.slots t v D}⟩
theorem dS.old(R:dS P nt n0 w0 π0 s a w) (D:Below w.heap.size w w'):dS P nt n0 w0 π0 s a w':=
 let ⟨h,β,τ,π,U,hU,R⟩:=R
 ⟨h,β,τ,π,U,hU,R.frame (λ_ _=>rfl) (λ_ _=>rfl) (λ_ h=>h) (λ_ _ h=>h) (λ_ _ h=>.inl h) (λb o h=>re (R.eF b o h) D.size) D⟩
theorem jT{w:World} {l:Nat} {o o':Obj} (h:w.heap[l]? =some o) (M:o.isCells=false) (D:o'.isCells=false) (x:Addr):(w.putObj l o').cell? x=w.cell? x:=by
 have L:=(kd.1 h).1
 by_cases e:x.block=l
 ·unfold World.cell?
  rw[e,aaM L,h]
  cases o<;>cases o'<;>first|(cases M;done)|(cases D;done)|rfl
 ·exact World.cell?_of_block (sT e)
theorem vR.putObj{n:gw} {w w':World} (h:vR n w w') {l:Nat} (L:w.heap.size<=l) (M:n.n<=l) (o:Obj):vR n w (w'.putObj l o):=
 ⟨h.os,h.tape,h.output,by simpa using h.size,λk hk D=>(sT aaN).trans (h.block k hk D),λk x hk D=>(sT (by have:=(kd.1 hk).1;omega)).trans (h.others k x hk D)⟩
theorem dS.putObj(R:dS P nt n0 w0 π0 s a w) {l:Nat} {o o':Obj} (h:w.heap[l]? =some o) (hc:o.isCells=false) (aa:o'.isCells=false):dS P nt n0 (w.putObj l o') π0 s a (w.putObj l o'):=by
 obtain⟨h4,β,τ,π,U,hU,R⟩:=R
 have M:∀b o,π b o->(w.putObj l o').cell? ⟨b,o,none⟩=w.cell? ⟨b,o,none⟩:=λb x _=>jT h hc aa _
 have L:∀(B:Nat) (D:Array Value) (Z:TypeId) (f:Nat×Nat),w.heap[B]? =some (.cells D Z f)->(w.putObj l o').heap[B]? =w.heap[B]?:=λB D Z f hB=>sT (λe=>by subst e;rw[h]at hB;cases hB;cases hc)
 refine⟨h4,β,τ,π,U,hU,{R with slots:=?_,boxes:=?_,live:=?_,below:=.refl _ _,f9:=?_,eF:=?_,kept:=λ_ _ _=>rfl}⟩
 ·intro t v hv
  obtain⟨⟨x,hx,hr⟩,hu⟩:=R.slots t v hv
  exact⟨⟨x,hx,RV.mono (λ_ _=>rfl) (λ_ _=>rfl) (λ_ _ h=>h) M hu hr⟩,hu⟩
 ·intro b x V
  obtain⟨g1,O,g3,g4⟩:=R.boxes b x V
  have ab:=g3
  obtain⟨D,Z,hh,_,_,_,hn⟩:=ab
  exact⟨g1,O,g3.keep (λ_ _=>rfl) g4 (L _ _ _ _ hh) (λ_ _ h=>h) M hn,g4⟩
 ·intro q e hq
  obtain⟨g1,O⟩:=R.live q e hq
  refine⟨g1,O.keep (λB hB=>?_) (λB o _ h=>h)⟩
  rcases O with e|⟨B',len,cap,D,i,e,_,hh,_⟩
  ·rw[e]at hB;cases hB
  ·rw[e]at hB;cases hB;exact L _ _ _ _ hh
 ·simpa using kw R.f9 R.below.size
 ·intro b o V;simpa using R.eF b o V
theorem dS.cut(R:dS P nt n0 w0 π0 s a w) {wr:List Nat} {a1:Act} (hk:∀t,¬t∈wr->a.tmps[t]? =a1.tmps[t]?) (V:a1.tmps.size=nt):dS P nt n0 w0 π0 (wT wr s) a1 w:=by
 obtain⟨h4,β,τ,π,U,O,R⟩:=R
 refine⟨h4,β,τ,π,U,O,{R with size:=V,slots:=λt v D=>?_}⟩
 obtain⟨M,L⟩:=yZ D;rw[<-hk t M];exact R.slots t v L
theorem BQ:∀{ps:List Nat} {xs:List AV} {s:S} {t:Array Value},(∀p∈ps,p<nt)->(∀x∈xs,jQ x=true)->Rel P nt n0 w0 π0 U s {tmps:=t,defers:=[]} w β τ π->
  Rel P nt n0 w0 π0 U (sW ps xs s) {tmps:=(ps.zip (xs.map yJ)).foldl (λt p=>t.setIfInBounds p.1 p.2) t,defers:=[]} w β τ π
 |[],xs,s,t,_,_,R=>by cases xs<;>exact R
 |p::ps,[],s,t,_,_,R=>R
 |p::ps,x::xs,s,t,L,M,R=>by
  have V:=R.put (some p) (v:=.dat x none) (x:=yJ x) (λq D=>by cases D;exact L p mp) ⟨.flat (M x mp),λt Z=>by cases Z⟩ trivial
  exact BQ (ps:=ps) (xs:=xs) (λq D=>L q (lc _ D)) (λy O=>M y (lc _ O)) V
theorem DW:∀{ps:List Nat} {xs:List AV} {s:S},(sW ps xs s).nx=s.nx
 |[],xs,s=>by cases xs<;>rfl
 |p::ps,[],s=>rfl
 |p::ps,x::xs,s=>by rw[sW,DW];rfl
theorem sZ:∀{l:List (Nat×Value)} {t:Array Value} {k:Nat},(∀p∈l,p.1≠k)->(l.foldl (λt p=>t.setIfInBounds p.1 p.2) t)[k]? =t[k]?
 |[],t,k,_=>rfl
 |p::l,t,k,h=>by
  rw[ui,sZ (λq D=>h q (lc _ D))]
  exact Ax (h p mp)
def GW(w:World):Prop:=∀l,r=some l->∃D,w.heap[l]? =some (.loop D)
def P9(D:Nat):Deferred:={target:=.collected D,args:=#[]}
def Marks(dd:List Deferred) (n0:gw) (a:Act) (w:World):Prop:=∃L:List Nat,a.defers=L.map P9++dd/\L.Nodup/\∀D∈L,n0.n<=D/\w.heap[D]? =some (.deferred (some []))
def xX(P:Program) (nt:Nat) (n0:gw) (w0:World) (π0:Nat->Nat->Prop) (r:Option Nat) (T:Nat->Prop) (a0:Act) (s:S) (a:Act) (w:World):Prop:=
 dS P nt n0 w0 π0 s a w/\GW r w/\Marks a0.defers n0 a w/\∀t,T t->a.tmps[t]? =a0.tmps[t]?
def A6(P:Program) (nt:Nat) (n0:gw) (w0:World) (π0:Nat->Nat->Prop) (r:Option Nat) (T:Nat->Prop) (a0:Act) (QA:Exit->S->Prop) (e:Exit) (a:Act) (w:World):Prop:=∃s,QA e s/\xX P nt n0 w0 π0 r T a0 s a w
theorem dS.down(R:dS P nt n0 w0 π0 s a w) {F:S->Prop} (h:Eng.down F s):∃V,F V/\dS P nt n0 w0 π0 V a w:=by
 obtain⟨s1,⟨L,hF⟩|hF⟩:=h
 ·obtain⟨_,β,τ,π,U,hU,R⟩:=R
  rcases hF with hF|⟨ids,D,hF⟩
  ·exact⟨s1,hF,R.le L⟩
  ·obtain⟨css,O,hF⟩:=ah hF
   simp only[ed]at D;obtain⟨h4,β',τ',π',U',M,R'⟩:=R.le L
   obtain⟨π2,_,Z,_⟩:=R'.vW (eG D.1) D.2 O
   exact⟨_,hF,by rw[rJ];exact h4,β',τ',π2,U',by rw[rJ];exact M,Z⟩
 ·exact⟨s,hF,R⟩
def DX(L:List (Nat×Obj)) (w:World):Prop:=∀p∈L,w.heap[p.1]? =some p.2
theorem DX.others{L:List (Nat×Obj)} {w:World} (h:DX L w) (M:∀p∈L,p.2.isCells=false) (O:∀(k:Nat) (o:Obj),w.heap[k]? =some o->o.isCells=false->w'.heap[k]? =some o):DX L w':=
 λp D=>O _ _ (h p D) (M p D)
theorem DX.putObj{L:List (Nat×Obj)} {w:World} (h:DX L w) {l:Nat} (M:∀p∈L,p.1≠l) (o:Obj):DX L (w.putObj l o):=
 λp D=>(sT (M p D)).trans (h p D)
theorem i6{w:World} (h:Below w.heap.size w w') (k:Nat) (o:Obj) (hk:w.heap[k]? =some o):w'.heap[k]? =some o:=(h.block k (kd.1 hk).1).trans hk
theorem GW.others{r:Option Nat} {w:World} (h:GW r w) (L:∀(k:Nat) (o:Obj),w.heap[k]? =some o->o.isCells=false->w'.heap[k]? =some o):GW r w':=
 λl D=>let ⟨r₀,hr⟩:=h l D;⟨r₀,L _ _ hr rfl⟩
theorem Marks.others{dd:List Deferred} {n0:gw} {a:Act} {w:World} (h:Marks dd n0 a w) (L:a'.defers=a.defers) (M:∀(k:Nat) (o:Obj),w.heap[k]? =some o->o.isCells=false->w'.heap[k]? =some o):Marks dd n0 a' w':=
 let ⟨Ds,h1,h2,h3⟩:=h;⟨Ds,L.trans h1,h2,λD hD=>⟨(h3 D hD).1,M _ _ (h3 D hD).2 rfl⟩⟩
theorem Qa{P:Program} {r:Option Nat} {w:World} (V:GW r w) (fn:FuncId) (tmps:Array Value) (ps:Array Tmp) (as L:Code):
  ∃(l:Nat) (O:List Nat) (M:World) (dd:Nat),(Instr.enterLoop fn tmps ps as L r).run P w=.ok (l,O.map P9) M/\w.heap.size<=l/\
   M.heap[l]? =some (.loop {state:=.ready,pending:=none,fn,tmps,params:=ps,assign:=as,body:=L,defers:=dd})/\Below w.heap.size w M/\O.Nodup/\
   ∀D∈O,w.heap.size<=D/\D≠l/\M.heap[D]? =some (.deferred (some [])):=by
 cases r with
 |none=>
  refine⟨w.heap.size+1,[w.heap.size],_,w.heap.size,run_enterLoop_outer fn tmps ps as L,aaN,?_,?_,aaP,?_⟩
  ·have:=World.alloc_heap_new (w.alloc (.deferred (some []))) (.loop {state:=.ready,pending:=none,fn,tmps,params:=ps,assign:=as,body:=L,defers:=w.heap.size})
   rwa[World.size_alloc]at this
  ·exact(((Below.refl _ w).alloc (ik _) _).alloc aaP _)
  ·intro D hD
   simp only[rf]at hD;subst hD
   exact⟨ik _,aaN,(Below.heap_alloc _ _ _ aaP).trans (World.alloc_heap_new w _)⟩
 |some Z=>
  obtain⟨R,h⟩:=V Z rfl
  exact⟨w.heap.size,[],_,R.defers,run_enterLoop_inner h fn tmps ps as L,ik _,World.alloc_heap_new w _,(Below.refl _ w).alloc (ik _) _,aaP,aaP⟩
theorem DV.aa5{π:Nat->Nat->Prop} {D:Nat} {caps:List AV} {v:Value} (h:DV w π (.fn (.func D) [] caps) v):∃us:Array Value,v=.func (.func D) #[] us/\ji w π caps us.toList:=by
 cases h with
 |fn f as vs Z us R M V h4=>
  have:vs=#[]:=by simpa using R.symm
  subst this
  exact⟨us,rfl,by simpa using M,λi a v L O=>h4 i a v L (by simpa using O)⟩
end
section
variable{nt:Nat} {n0:gw} {π0:Nat->Nat->Prop} {T:Nat->Prop} {a0:Act} {r:Option Nat} {n:Nat} {QA:Exit->S->Prop}
theorem MS{g:Operand} {ps:Array Tmp} {as bd:Code} {g':aM} {ca cb:aO} {wr:List Nat} (hg:cn g=some g') (b0:∀t∈ps.toList,t<nt/\t∈wr) (da:∀t∈ca.writes,t∈wr) (cv:∀t∈cb.writes,t∈wr)
  (c6:∀(π0:Nat->Nat->Prop) (T:Nat->Prop) (a0:Act),(∀t,T t->¬t∈ca.writes)->∀(r:Option Nat) (n:Nat) (w0:World) (QA:Exit->S->Prop) (s:S) (a:Act) (w:World),xX P nt n0 w0 π0 r T a0 s a w->aw (Pure P) ca QA s->as.wpIn (FW r) n P (A6 P nt n0 w0 π0 r T a0 QA) a w)
  (co:∀(π0:Nat->Nat->Prop) (T:Nat->Prop) (a0:Act),(∀t,T t->¬t∈cb.writes)->∀(r:Option Nat) (n:Nat) (w0:World) (QA:Exit->S->Prop) (s:S) (a:Act) (w:World),xX P nt n0 w0 π0 r T a0 s a w->aw (Pure P) cb QA s->bd.wpIn (FW r) n P (A6 P nt n0 w0 π0 r T a0 QA) a w)
  (R:xX P nt n0 w0 π0 r T a0 s a w) (h:aw (Pure P) (.um g' ps.toList wr ca cb) QA s):(Code.rangeFunc g ps as bd).wpIn (FW r) n P (A6 P nt n0 w0 π0 r T a0 QA) a w:=by
 simp only[aw]at h;obtain⟨gv,db,xs,cx,b6,F,cp,hFg,a6,hdone⟩:=ah h;clear h;obtain⟨RN,RL,⟨b2,c8,c0,a5⟩,RK⟩:=R
 have hsize:a.tmps.size=nt:=let ⟨_,_,_,_,_,_,R⟩:=RN;R.size
 obtain⟨gf,caps,rfl,bi,bl,bj⟩:=cx;obtain⟨s0,bw,cr⟩:=RN.down cp
 obtain⟨π1,us,c7,b4,bs,ct,ba,b3⟩:∃(π1:Nat->Nat->Prop) (us:Array Value),a.eval g=.func (.func gf) #[] us/\ji w π1 caps us.toList/\(∀b o,π0 b o->π1 b o)/\(∀b o,π1 b o->π0 b o\/n0.ok b)/\(∀b o,π1 b o->b<w.heap.size)/\dS P nt n0 w π1 s0 a w:=by
  obtain⟨h4,β,τ,π,U,hU,R⟩:=cr
  obtain⟨us,h1,h2⟩:=DV.aa5 (R.aG hg (hFg 0 s0 bw))
  exact⟨π,us,h1,h2,R.ep,R.cB,R.eF,h4,β,τ,π,U,hU,{R with below:=.refl _ _,f9:=kw R.f9 R.below.size,kept:=λ_ _ _=>rfl,ep:=λ_ _ h=>h,cB:=λ_ _ h=>.inl h}⟩
 refine wpIn_rangeFunc ?_;intro fn _
 obtain⟨l,ar,W1,dd,ch,hl,ac,am,b5,ad⟩:=Qa (P:=P) RL fn a.tmps ps as bd
 obtain⟨M,O⟩:∃M:LoopState->Option Code->Loop,M=λst pe=>{state:=st,pending:=pe,fn,tmps:=a.tmps,params:=ps,assign:=as,body:=bd,defers:=dd}:=⟨_,rfl⟩
 have ac:W1.heap[l]? =some (.loop (M .ready none)):=by rw[O];exact ac
 -- what lies pinned
 obtain⟨L,hL⟩:∃L:List (Nat×Obj),L=(ar++b2).map (λD=>(D,Obj.deferred (some [])))++(match r with|some l₀=>(match w.heap[l₀]? with|some o=>[(l₀,o)]|none=>[])|none=>[]):=⟨_,rfl⟩
 have a4:∀p∈L,p.2.isCells=false:=by
  intro p hp;rw[hL,lh]at hp
  rcases hp with hp|hp
  ·obtain⟨D,_,rfl⟩:=ne.1 hp;rfl
  ·cases r with
   |none=>cases hp
   |some l₀=>
    obtain⟨r₀,hr⟩:=RL l₀ rfl;simp only[hr,rf]at hp;subst hp;rfl
 have ak:∀p∈L,p.1≠l:=by
  intro p hp;rw[hL,lh]at hp
  rcases hp with hp|hp
  ·obtain⟨D,hD,rfl⟩:=ne.1 hp
   rcases lh.1 hD with hD|hD
   ·exact(ad D hD).2.1
   ·have:=(kd.1 (a5 D hD).2).1
    simp only;omega
  ·cases r with
   |none=>cases hp
   |some l₀=>
    obtain⟨r₀,hr⟩:=RL l₀ rfl;simp only[hr,rf]at hp;subst hp
    have:=(kd.1 hr).1
    simp only;omega
 have cy:DX L W1:=by
  intro p hp;rw[hL,lh]at hp
  rcases hp with hp|hp
  ·obtain⟨D,hD,rfl⟩:=ne.1 hp
   rcases lh.1 hD with hD|hD
   ·exact(ad D hD).2.2
   ·exact i6 am _ _ (a5 D hD).2
  ·cases r with
   |none=>cases hp
   |some l₀=>
    obtain⟨r₀,hr⟩:=RL l₀ rfl;simp only[hr,rf]at hp;subst hp;exact i6 am _ _ hr
 have ae:∀W,DX L W->GW r W:=by
  intro W hW l₀ e;subst e;obtain⟨r₀,hr⟩:=RL l₀ rfl
  exact⟨r₀,hW (l₀,.loop r₀) (by rw[hL];simp[hr])⟩
 have ab:∀W,DX L W->Marks a0.defers n0 {a with defers:=ar.map P9++a.defers} W:=by
  intro W hW
  refine⟨ar++b2,by simp[c8],?_,λD hD=>⟨?_,hW (D,_) (by rw[hL];exact List.mem_append_left _ (ne.2 ⟨D,hD,rfl⟩))⟩⟩
  ·refine List.nodup_append.2 ⟨b5,c0,λx hx y hy e=>?_⟩
   subst e
   have h1:=(ad x hx).1
   have h2:=(kd.1 (a5 x hy).2).1
   omega
  ·rcases lh.1 hD with hD|hD
   ·exact kw (kw RN.f9 RN.below.size) (ad D hD).1
   ·exact(a5 D hD).1
 have bm:w0.heap.size<=l:=kw RN.below.size hl
 have a9:n0.n<=l:=kw RN.f9 bm
 have a7:∀(Z:S) (W2:World),dS P nt n0 w π1 Z a W2->∀{o:Loop},W2.heap[l]? =some (.loop o)->∀(o':Loop),dS P nt n0 w0 π0 Z a (W2.putObj l (.loop o')):=by
  intro Z W2 R' o ho o'
  refine(R'.putObj ho rfl rfl).back bs ct ((RN.below.trans R'.below).putObj bm a9 _) RN.f9 λb x hb=>?_
  rw[jT ho rfl rfl,R'.kept b x (bs b x hb)];exact RN.kept b x hb
 refine⟨l,ar.map P9,W1,{target:=.fn (.func gf) us,args:=#[.func (.yield l) #[] #[]]},W1,gf,#[.func (.yield l) #[] #[]]++us,W1,ch,?_,λ_ _=>trivial,?_,λh=>by simp[FW,Fence.wide]at h,?_⟩
 ·simp only[resolve,c7];simp[go_sem]
 ·simp[invoke,go_sem,fJ bi]
 refine DP.2 ?_
 have:=bj l
  (λi W=>(∃Z,F i Z/\dS P nt n0 w π1 Z a W)/\DX L W/\W.heap[l]? =some (.loop (M .ready none)))
  (λW=>∃c Z,((c=.ret/\QA .ret Z)\/∃id,c=.exit id/\QA (.exit id) Z)/\dS P nt n0 w π1 Z a W/\DX L W/\W.heap[l]? =some (.loop (M .done (some c))))
  W1 π1 us.toList (λb o h=>re (ba b o h) am.size) (b4.mono (λ_ _ h=>h) (λb o h=>Below.vS am (ba b o h))) ?_ ?_ ?_ ?_ ⟨⟨s0,bw,b3.old am⟩,cy,ac⟩
 ·refine(by simpa using this:Calls P gf (#[.func (.yield l) #[] #[]]++us) W1 _).mono ?_
  rintro e W2 ⟨⟨v,rfl⟩,⟨⟨Z,ag,R'⟩,hp,hr⟩|⟨c,Z,hq,R',hp,hr⟩⟩
  ·refine⟨none,_,by have:=run_endLoop (P:=P) hr (by rw[O];simp);rw[O]at this;exact this,Z,hdone Z ag,?_⟩
   have aa:=hp.putObj ak (.loop {M .ready none with state:=.exhausted})
   rw[O]at aa;exact⟨(a7 _ _ R' hr _).WW rfl,ae _ aa,ab _ aa,RK⟩
  ·refine⟨some c,_,by have:=run_endLoop (P:=P) hr (by rw[O];simp);rw[O]at this;exact this,?_⟩
   have aa:=hp.putObj ak (.loop {M .done (some c)with state:=.exhausted})
   rw[O]at aa
   have RT:xX P nt n0 w0 π0 r T a0 Z {a with defers:=ar.map P9++a.defers} (W2.putObj l (.loop {M .done (some c)with state:=.exhausted})):=by
    rw[O];exact⟨(a7 _ _ R' hr _).WW rfl,ae _ aa,ab _ aa,RK⟩
   rw[O]at RT
   rcases hq with⟨rfl,hq⟩|⟨id,rfl,hq⟩
   ·exact wpIn_ret ⟨Z,hq,RT⟩
   ·exact wpIn_exit ⟨Z,hq,RT⟩
 ·rintro i W ⟨⟨Z,ag,R'⟩,_,_⟩ b o hb
  rw[R'.kept b o hb];exact(Below.vS am (ba b o hb)).symm
 ·rintro i W W' ⟨⟨Z,ag,R'⟩,hp,hr⟩ hb
  exact⟨⟨Z,ag,R'.old hb⟩,hp.others a4 (λk o hk _=>i6 hb k o hk),i6 hb _ _ hr⟩
 ·rintro W W' ⟨c,Z,hq,R',hp,hr⟩ hb
  exact⟨c,Z,hq,R'.old hb,hp.others a4 (λk o hk _=>i6 hb k o hk),i6 hb _ _ hr⟩
 ·rintro m i x W hx ⟨⟨Z,ag,R'⟩,hp,hr⟩
  have cu:=b6 x (et hx)
  have hy:=run_yield (P:=P) (args:=(x.map yJ).toArray) hr (by rw[O];simpa using cu)
  rw[O]at hy;refine⟨fn,_,as,bd,hy,roundIn_of_wpIn trivial ?_⟩
  have c2:(ps.zip (x.map yJ).toArray).foldl (λtmps p=>tmps.setIfInBounds p.1 p.2) a.tmps=(ps.toList.zip (x.map yJ)).foldl (λt p=>t.setIfInBounds p.1 p.2) a.tmps:=by
   rw[<-Array.foldl_toList];simp[Array.toList_zip]
  have RP:dS P nt n0 W π1 (sW ps.toList x Z) {tmps:=(ps.toList.zip (x.map yJ)).foldl (λt p=>t.setIfInBounds p.1 p.2) a.tmps,defers:=[]} W:=by
   obtain⟨h4,β,τ,π,U,hU,R2⟩:=(R'.WW (a':={tmps:=a.tmps,defers:=[]}) rfl).WV
   refine⟨by rw[DW];exact h4,β,τ,π,U,λk hk=>by rw[DW];exact hU k hk,?_⟩
   exact BQ (λp hp=>(b0 p hp).1) (bl x (et hx)) R2
  have hkeep:∀t,¬t∈wr->((ps.toList.zip (x.map yJ)).foldl (λt p=>t.setIfInBounds p.1 p.2) a.tmps)[t]? =a.tmps[t]?:=
   λt ht=>sZ (λp hp e=>ht (e▸(b0 p.1 (List.of_mem_zip hp).1).2))
  have hA:=c6 π1 (λt=>¬t∈wr) ⟨a.tmps,[]⟩ (λt ht hw=>ht (da t hw)) (some l) m W _ _ _ _ ⟨RP,λl' e=>by cases e;exact⟨_,hr⟩,⟨[],rfl,.nil,aaP⟩,hkeep⟩ (a6 i x Z hx ag)
  have hA:as.wpIn (Fence.wide.inRound l) m P (A6 P nt n0 W π1 (some l) (λt=>¬t∈wr) ⟨a.tmps,[]⟩ (Dw (aw (Pure P) cb (RQ wr (F (i+1)) QA)))) {tmps:=(ps.zip (x.map yJ).toArray).foldl (λtmps p=>tmps.setIfInBounds p.1 p.2) a.tmps,defers:=[]} W:=by rw[c2];exact hA
  refine wa hA ?_
  rintro e a₁ w₁ ⟨s1,b1,ao,_,ci,c5⟩
  cases e<;>try exact b1.elim
  have an:=ao.below.others _ _ hr rfl
  have c4:=hp.others a4 ao.below.others
  refine⟨_,run_beginRound an (by rw[O]),?_⟩
  have b7:=(kd.1 an).1
  have bo:(w₁.putObj l (.loop {M .ready none with state:=.busy})).heap[l]? =some (.loop {M .ready none with state:=.busy}):=aaM b7
  have aa:=c4.putObj ak (.loop {M .ready none with state:=.busy})
  have c1:=ao.putObj an rfl (o':=.loop {M .ready none with state:=.busy}) rfl
  have b8:Marks [] n0 a₁ (w₁.putObj l (.loop {M .ready none with state:=.busy})):=by
   obtain⟨Ds,h1,h2,h3⟩:=ci
   refine⟨Ds,h1,h2,λD hD=>⟨(h3 D hD).1,(sT (λe=>?_)).trans (h3 D hD).2⟩⟩
   subst e
   have:=(h3 D hD).2
   rw[an]at this;cases this
  have ck:vR n0 w (w₁.putObj l (.loop {M .ready none with state:=.busy})):=(R'.below.trans ao.below).putObj hl a9 _
  have hB:=co π1 (λt=>¬t∈wr) ⟨a.tmps,[]⟩ (λt ht hw=>ht (cv t hw)) (some l) m (w₁.putObj l (.loop {M .ready none with state:=.busy})) (RQ wr (F (i+1)) QA) s1 a₁ _ ⟨c1,λl' e=>by cases e;exact⟨_,bo⟩,b8,c5⟩ b1
  refine wa (show bd.wpIn (Fence.wide.inRound l) m P (A6 P nt n0 (w₁.putObj l (.loop {M .ready none with state:=.busy})) π1 (some l) (λt=>¬t∈wr) ⟨a.tmps,[]⟩ (RQ wr (F (i+1)) QA)) a₁ _ from hB) ?_
  rintro e a3 W3 ⟨s3,au,al,_,_,be⟩
  have a2:=al.below.others _ _ bo rfl
  have a8:=aa.others a4 al.below.others
  have ce:=ck.trans al.below
  have fin:∀(V:Option Code),(Instr.endRound l V).run P W3=.ok (.bool V.isNone) (W3.putObj l (.loop (M (if V.isNone then .ready else .done) V)))/\
    (W3.putObj l (.loop (M (if V.isNone then .ready else .done) V))).heap[l]? =some (.loop (M (if V.isNone then .ready else .done) V)):=λV=>by
   have:=run_endRound (P:=P) V a2
   rw[O]at this⊢;exact⟨this,aaM (kd.1 a2).1⟩
  have back:∀(s4:S),dS P nt n0 (w₁.putObj l (.loop {M .ready none with state:=.busy})) π1 s4 a W3->∀st pe,dS P nt n0 w π1 s4 a (W3.putObj l (.loop (M st pe))):=λs4 R4 st pe=>
   (R4.putObj a2 rfl rfl).Z1 (ce.putObj hl a9 _) b3.f9 λb o hb=>by
    rw[jT a2 rfl rfl,R4.kept b o hb,jT an rfl rfl,ao.kept b o hb,R'.kept b o hb]
  cases e with
  |normal=>
   obtain⟨s4,c3,R4⟩:=(al.cut (wr:=wr) (a1:=a) be hsize).down au
   obtain⟨f1,f2⟩:=fin none;exact⟨_,_,f1,.inl ⟨rfl,⟨s4,c3,back s4 R4 _ _⟩,a8.putObj ak _,f2⟩⟩
  |ret=>
   obtain⟨f1,f2⟩:=fin (some .ret)
   exact⟨_,_,f1,.inr ⟨rfl,.ret,_,.inl ⟨rfl,au⟩,back _ (al.cut (wr:=wr) (a1:=a) be hsize) _ _,a8.putObj ak _,f2⟩⟩
  |exit id=>
   obtain⟨f1,f2⟩:=fin (some (.exit id))
   exact⟨_,_,f1,.inr ⟨rfl,.exit id,_,.inr ⟨id,rfl,au⟩,back _ (al.cut (wr:=wr) (a1:=a) be hsize) _ _,a8.putObj ak _,f2⟩⟩
  |_=>exact au.elim
end
theorem xX.sub{π0:Nat->Nat->Prop} {r:Option Nat} {T:Nat->Prop} {a0:Act} (R:xX P nt n0 w0 π0 r T a0 s a w) {a':Act} {w':World} {M:S} (L:qA T a a') (D:dS P nt n0 w π0 M a' w'):xX P nt n0 w0 π0 r T a0 M a' w':=
 ⟨D.Z1 (R.1.below.trans D.below) R.1.f9 (λb o h=>(D.kept b o h).trans (R.1.kept b o h)),R.2.1.others D.below.others,R.2.2.1.others L.1 D.below.others,λt O=>(L.2 t O).trans (R.2.2.2 t O)⟩
theorem xX.down{π0:Nat->Nat->Prop} {r:Option Nat} {T:Nat->Prop} {a0:Act} (R:xX P nt n0 w0 π0 r T a0 s a w) {F:S->Prop} (h:Eng.down F s):∃D,F D/\xX P nt n0 w0 π0 r T a0 D a w:=
 let ⟨D,h1,h2⟩:=R.1.down h;⟨D,h1,h2,R.2⟩
theorem DY{mo:Bool}:∀(c:Code) (cc:aO),bI mo P c=some cc->∀l,(findLabel c l).isSome=(cc.after l).isSome:=by
 intro c
 induction c with
 |seq x y L O=>
  intro cc D l;simp only[bI]at D
  split at D<;>try(cases D;done)
  rename_i M cy V ac
  have hx:=L M V l
  cases D
  have key:(findLabel (.seq x y) l).isSome=(match M.after l with|some r=>some (aO.join r cy)|none=>cy.after l).isSome:=by
   simp only[findLabel]
   cases h1:findLabel x l<;>cases h2:M.after l<;>simp_all
  split<;>exact key
 |label l'=>intro cc D l;cases D;simp only[findLabel,aO.after];split<;>rfl
 |skip=>intro cc D l;cases D;rfl
 |region id ops l6=>
  intro cc D l;simp only[bI]at D;split at D
  ·simp only[eg]at D
   obtain⟨cos,_,rfl⟩:=D;rfl
  unfold Ia at D
  (repeat' split at D)<;>(try simp only at D)<;>(repeat' split at D)<;>first|(cases D;done)|(cases D;rfl)
 |cond cd x y L O=>
  intro cc D l;simp only[bI]at D
  split at D<;>try(cases D;done)
  cases D;rfl
 |block id c Z=>intro cc D l;simp only[bI,eg]at D;obtain⟨c',R,rfl⟩:=D;rfl
 |loop c Z=>intro cc D l;simp only[bI,eg]at D;obtain⟨c',R,rfl⟩:=D;rfl
 |exit id=>intro cc D l;cases D;rfl
 |ret=>intro cc D l;cases D;rfl
 |goto l'=>intro cc D l;cases D;rfl
 |scope c Z=>
  intro cc D l;simp only[bI]at D
  split at D<;>try(cases D;done)
  split at D<;>try(cases D;done)
  simp only[eg]at D;obtain⟨r,_,rfl⟩:=D;rfl
 |rangeFunc g ps as bd ab aa=>
  intro cc D l;simp only[bI]at D
  split at D<;>try(cases D;done)
  split at D<;>try(cases D;done)
  cases D;rfl
 |_=>intro cc D;cases D
section
variable{F:Fence} {m:Nat} {Q:Exit->Act->World->Prop}
section
variable {b:Frame} {c:Code} {cs:List Frame} {k:List Item}
theorem Kj:step P (lone (b.atR a (.code (.scope c)::k)) cs w)=.next (lone (b.atR a (.code c:: .inScope c::k)) cs w):=
 step_lone_go (by simp[stepG,stepG.exec,Frame.atR])
theorem Gm:step P (lone (b.atR a (.inScope c::k)) cs w)=.next (lone (b.atR a k) cs w):=
 step_lone_go (by simp[stepG,stepG.exec,Frame.atR])
theorem MT{rest:Code} {l:Nat} (hf:findLabel c l=some rest) (G:Act->World->Prop) (h:c.wpIn F m P (λe a w=>match e with| .goto l'=>l'=l/\G a w|e=>Q e a w) a w) (hr:∀a w,G a w->rest.wpIn F m P (Exit.noGoto Q) a w):(Code.scope c).wpIn F m P Q a w:=by
 intro b k cs aa hb hroom
 have h0:(lone (b.atR a (.code (.scope c)::k)) cs w).fenced P F:=fenced_calm hb hroom rfl
 have leave:∀{e:Exit} {R:Act} {O:World} {m1:Machine},StepsIn (Machine.fenced P F) P (lone (b.atR a (.code (.scope c)::k)) cs w) m1->(∀l,e≠.goto l)->ArrivesIn (Machine.fenced P F) P m1 b (.inScope c::k) cs e R O->
   ArrivesIn (Machine.fenced P F) P (lone (b.atR a (.code (.scope c)::k)) cs w) b k cs e R O:=by
  intro e R O m1 hs L D
  cases e with
  |normal=>exact hs.trans (StepsIn.trans D (.one (fenced_calm hb hroom rfl) Gm))
  |exit id=>exact⟨λk' hk=>hs.trans (D.1 k' (by simpa[exitTo]using hk)),λac hk=>let ⟨k₁,h1,h2⟩:=D.2 ac (by simpa[exitTo]using hk);⟨k₁,h1,hs.trans h2⟩⟩
  |goto l=>exact absurd rfl (L l)
  |ret=>exact .of_steps hs D
  |panic ch=>exact .of_steps hs D
  |outgrown=>exact .of_steps hs D
 have hstart:StepsIn (Machine.fenced P F) P (lone (b.atR a (.code (.scope c)::k)) cs w) (lone (b.atR a (.code c:: .inScope c::k)) cs w):=.one h0 Kj
 obtain⟨e,R,O,Z,D⟩:=h b (.inScope c::k) cs aa hb hroom
 have other:(∀l,e≠.goto l)->Q e R O->∃e a' w',Q e a' w'/\ArrivesIn (Machine.fenced P F) P (lone (b.atR a (.code (.scope c)::k)) cs w) b k cs e a' w':=λL Z=>⟨e,R,O,Z,leave hstart L D⟩
 cases e with
 |goto l'=>
  obtain⟨rfl,hG⟩:=Z
  have ad:=D.1 (.code rest:: .inScope c::k) (by simp[gotoIn,hf])
  obtain⟨e2,a₂,w₂,ab,V⟩:=hr R O hG b (.inScope c::k) cs aa hb hroom
  have M:(∀l,e2≠.goto l)->Q e2 a₂ w₂->∃e a' w',Q e a' w'/\ArrivesIn (Machine.fenced P F) P (lone (b.atR a (.code (.scope c)::k)) cs w) b k cs e a' w':=λL Z=>⟨e2,a₂,w₂,Z,leave (hstart.trans ad) L V⟩
  cases e2 with
  |goto l2=>exact ab.elim
  |_=>exact M (λl h=>by cases h) ab
 |_=>exact other (λl h=>by cases h) Z
end
end
section
variable {x y:Code}
def Sound(P:Program) (nt:Nat) (n0:gw) (c:Code) (cc:aO):Prop:=
 cc.fits nt=true->∀(π0:Nat->Nat->Prop) (T:Nat->Prop) (a0:Act),(∀t,T t->¬t∈cc.writes)->∀(r:Option Nat) (n:Nat) (w0:World) (QA:Exit->S->Prop) (s:S) (a:Act) (w:World),
  xX P nt n0 w0 π0 r T a0 s a w->aw (Pure P) cc QA s->c.wpIn (FW r) n P (A6 P nt n0 w0 π0 r T a0 QA) a w
theorem DZ{Z cy:aO} (hx:Sound P nt n0 x Z) (hy:Sound P nt n0 y cy):Sound P nt n0 (.seq x y) (.join Z cy):=by
 intro M π0 T a0 hT r n w0 QA s a w R h
 have nn:∀(e:Exit) (G:S->Prop) (D:S) (a':Act) (w':World),e≠.normal->jk G QA e D->xX P nt n0 w0 π0 r T a0 D a' w'->Exit.then (y.wpIn (FW r) n P (A6 P nt n0 w0 π0 r T a0 QA)) (A6 P nt n0 w0 π0 r T a0 QA) e a' w':=by
  intro e G D a' w' V L R'
  cases e with
  |normal=>exact absurd rfl V
  |_=>exact⟨D,L,R'⟩
 simp only[aO.fits,ed]at M;simp only[aO.writes,lh,not_or]at hT
 refine wpIn_seq (wa (hx M.1 π0 T a0 (λt O=>(hT t O).1) r n w0 _ s a w R h) ?_)
 rintro e a' w' ⟨D,L,R'⟩
 cases e with
 |normal=>
  obtain⟨s2,hF,R2⟩:=R'.down L
  exact hy M.2 π0 T a0 (λt O=>(hT t O).2) r n w0 QA s2 a' w' R2 hF
 |_=>exact nn _ _ D a' w' aaP L R'
theorem Qb{V Z:aO} (hx:Sound P nt n0 x V) (hy:Sound P nt n0 y Z):Sound P nt n0 (.seq x y) (.seq V Z):=by
 intro D π0 T a0 hT r n w0 QA s a w R h;simp only[aO.fits,ed]at D;simp only[aO.writes,lh,not_or]at hT
 refine wpIn_seq (wa (hx D.1 π0 T a0 (λt L=>(hT t L).1) r n w0 _ s a w R h) ?_)
 rintro e a' w' ⟨M,O,R'⟩
 cases e with
 |normal=>exact hy D.2 π0 T a0 (λt L=>(hT t L).2) r n w0 QA M a' w' R' O
 |_=>exact⟨M,O,R'⟩
theorem Qc{mo:Bool} (hm:P.follows .mixedOrders=true):∀(c:Code),(∀cc,bI mo P c=some cc->Sound P nt n0 c cc)/\∀l rest cc M,findLabel c l=some rest->bI mo P c=some cc->cc.after l=some M->Sound P nt n0 rest M:=by
 intro c
 induction c with
 |skip=>
  refine⟨?_,λl rest cc M h=>by cases h⟩
  intro cc D _ π0 T a0 _ r n w0 QA s a w R h;cases D;exact wpIn_skip ⟨s,h,R⟩
 |region id ops l6=>
  refine⟨?_,λl rest cc M h=>by cases h⟩
  intro cc D L π0 T a0 hT r n w0 QA s a w R h;obtain⟨h4,β,τ,π,U,hU,R0⟩:=R.1;simp only[bI]at D;split at D
  ·rename_i a5
   simp only[ed,sm]at a5;obtain⟨_,rfl⟩:=a5;simp only[eg]at D;obtain⟨cos,ae,rfl⟩:=D
   refine wX (w0:=w) ae L R0.WV hU h (T:=T) (λd hd O=>hT d O hd) ?_ ?_
   ·intro s' a' w' β' τ' π' U' Z hK hp R'
    exact⟨_,hK,R.sub hp ⟨by show 4<=s.nx+_;omega,β',τ',π',U',Z,R'.nx _⟩⟩
   ·intro p s' a' w' β' τ' π' U' Z hK hp R'
    exact⟨_,hK,R.sub hp ⟨by show 4<=s.nx+_;omega,β',τ',π',U',Z,R'.nx _⟩⟩
  split at D<;>try(cases D;done)
  rename_i cos ae
  have fin:∀(ro:List Nat) (s1:S) (π1:Nat->Nat->Prop),Rel P nt n0 w0 π0 U s1 a w β τ π1->s1.nx=s.nx->(l6=true->∃cJ T,jJ cJ ops.toList cos=true/\yN T (kO ro 0 cos) cJ=true/\lR T s1.nx 0 (kO ro 0 cos)=true/\pO T s1)->gJ nt cos=true->(∀t,T t->¬t∈dstsOf cos)->
    je (Pure P) s1.nx 0 (kO ro 0 cos) (λs'=>QA .normal {s' with nx:=s.nx+cos.length}) s1->(Code.region id ops l6).wpIn (FW r) n P (A6 P nt n0 w0 π0 r T a0 QA) a w:=by
   intro ro s1 π1 R1 a3 hd L hT h
   refine yY (w0:=w) hm ae ro hd L R1.WV (by rw[a3];exact hU) h (T:=T) (λd hd O=>hT d O hd) ?_
   intro s' a' w' β' τ' π' U' Z hK hp R';rw[a3]at Z
   exact⟨_,hK,R.sub hp ⟨by show 4<=s.nx+_;omega,β',τ',π',U',Z,R'.nx _⟩⟩
  split at D
  ·rename_i au
   subst au
   have GD:∀cJ,jJ cJ ops.toList cos=true->gJ nt cos=true->(∀t,T t->¬t∈dstsOf cos)->(∃ids,(dn ids&&iu ids)=true/\aj (aS s.boxes ids) λcss=>PT (Pure P) cos cJ (λs'=>QA .normal {s' with nx:=s.nx+cos.length}) (gM ids css s))->(Code.region id ops true).wpIn (FW r) n P (A6 P nt n0 w0 π0 r T a0 QA) a w:=by
    intro cJ V L hT h;obtain⟨ids,am,h⟩:=h;obtain⟨css,a8,ro,ad,h⟩:=ah h;rw[ed]at am
    obtain⟨π1,_,R1,_⟩:=R0.vW (eG am.1) am.2 a8
    simp only[oM,Wp,ed]at ad
    exact fin ro _ π1 R1 rJ (λ_=>⟨_,_,V,ad.2,ad.1.2,λt b ⟨v,hl,hb⟩=>nw ad.1.1 t b v hl hb⟩) L hT h
   split at D
   ·split at D<;>try(cases D;done)
    rename_i V;unfold Ia at D
    split at D<;>try(cases D;done)
    rename_i k _
    split at D<;>try(cases D;done)
    rename_i d hd;simp only at D
    split at D<;>try(cases D;done)
    rename_i hk;cases D;simp only[ed,ii]at hk;obtain⟨⟨⟨h1,h2⟩,h3⟩,h5⟩:=hk
    rcases h with h|h
    ·exact GD _ V L hT h
    ·refine wY (w0:=w) hm ae h1 h2 h3 (by simpa using h5) L R0.WV hU h (T:=T) (λd hd O=>hT d O hd) ?_
     intro p s' a' w' β' τ' π' U' Z hK hp R'
     exact⟨_,hK,R.sub hp ⟨by show 4<=s.nx+_;omega,β',τ',π',U',Z,R'.nx _⟩⟩
   ·split at D
    ·split at D<;>try(cases D;done)
     rename_i V;cases D
     exact fin [] s π R0 rfl (λ_=>⟨[],[],V,rfl,uH,λ_ _ _=>rfl⟩) L hT (by rw[rL];exact h)
    ·split at D<;>try(cases D;done)
     rename_i V;cases D;rw[ed]at V;exact GD _ V.1 L hT h
  ·rename_i au
   cases D
   exact fin [] s π R0 rfl (λe=>absurd e au) L hT (by rw[rL];exact h)
 |seq x y al ag=>
  refine⟨?_,?_⟩
  ·intro cc D
   simp only[bI]at D
   split at D<;>try(cases D;done)
   rename_i cx cy aa ac;cases D;split
   ·exact Qb (al.1 cx aa) (ag.1 cy ac)
   ·exact DZ (al.1 cx aa) (ag.1 cy ac)
  ·intro l rest cc M L D ha
   simp only[bI]at D
   split at D<;>try(cases D;done)
   rename_i cx cy aa ac;cases D
   have ao:(match cx.after l with|some r=>some (aO.join r cy)|none=>cy.after l)=some M:=by
    split at ha<;>exact ha
   have hs:=DY x cx aa l
   simp only[findLabel]at L;split at L
   ·rename_i rx an
    cases L;rw[an]at hs
    cases ak:cx.after l with
    |none=>rw[ak]at hs;cases hs
    |some cr=>
     rw[ak]at ao;cases ao;exact DZ (al.2 l rx cx cr an aa ak) (ag.1 cy ac)
   ·rename_i an
    rw[an]at hs
    cases ak:cx.after l with
    |some cr=>rw[ak]at hs;cases hs
    |none=>
     rw[ak]at ao;exact ag.2 l rest cy M L ac ao
 |cond cd x y al ag=>
  refine⟨?_,λl rest cc M h=>by cases h⟩
  intro cc D L π0 T a0 hT r n w0 QA s a w R h;simp only[bI]at D
  split at D<;>try(cases D;done)
  rename_i c' cx cy bi aa ac;cases D;simp only[aO.fits,ed]at L;simp only[aO.writes,lh,not_or]at hT;simp only[aw]at h;obtain⟨v,hv,h⟩:=ah h;obtain⟨β,τ,π,U,hU,R0⟩:=R.1.2
  have hd:=R0.aG bi hv
  cases v<;>try(exact h.elim)
  rename_i t
  exact wpIn_cond_split hd.uA (λe=>al.1 cx aa L.1 π0 T a0 (λt O=>(hT t O).1) r n w0 QA s a w R (h.1 e)) (λe=>ag.1 cy ac L.2 π0 T a0 (λt O=>(hT t O).2) r n w0 QA s a w R (h.2 e))
 |block id c ih=>
  refine⟨?_,λl rest cc M h=>by cases h⟩
  intro cc D L π0 T a0 hT r n w0 QA s a w R h;simp only[bI,eg]at D;obtain⟨c',ab,rfl⟩:=D;refine wpIn_block (wa (ih.1 c' ab L π0 T a0 hT r n w0 _ s a w R h) ?_)
  rintro e a' w' ⟨s',hq,R'⟩
  cases e with
  |exit bm=>
   simp only[jf]at hq;simp only[Exit.inBlock]
   by_cases a6:bm=id
   ·rw[ib a6]at hq⊢;exact⟨s',hq,R'⟩
   ·rw[ge a6]at hq⊢;exact⟨s',hq,R'⟩
  |_=>exact⟨s',hq,R'⟩
 |loop c ih=>
  refine⟨?_,λl rest cc M h=>by cases h⟩
  intro cc D L π0 T a0 hT r n w0 QA s a w R h;simp only[bI,eg]at D;obtain⟨c',ab,rfl⟩:=D;obtain⟨s0,⟨m,hn⟩,R0⟩:=R.down h;refine wpIn_loop_rounds m ?_
  have key:∀(m:Nat) (s:S) (a:Act) (w:World),xX P nt n0 w0 π0 r T a0 s a w->rK (aw (Pure P) c') QA m s->Code.roundsIn (FW r) n P c (A6 P nt n0 w0 π0 r T a0 QA) m a w:=by
   intro m
   induction m with
   |zero=>intro s a w _ h;exact h.elim
   |succ m ba=>
    intro s a w R h;rw[roundsIn_succ];refine wa (ih.1 c' ab L π0 T a0 hT r n w0 _ s a w R h) ?_
    rintro e a' w' ⟨s',hq,R'⟩
    cases e with
    |normal=>
     obtain⟨s2,hF,R2⟩:=R'.down hq;exact ba s2 a' w' R2 hF
    |_=>exact⟨s',hq,R'⟩
  exact key m s0 a w R0 hn
 |exit id=>
  refine⟨?_,λl rest cc M h=>by cases h⟩
  intro cc D _ π0 T a0 _ r n w0 QA s a w R h;cases D;exact wpIn_exit ⟨s,h,R⟩
 |ret=>
  refine⟨?_,λl rest cc M h=>by cases h⟩
  intro cc D _ π0 T a0 _ r n w0 QA s a w R h;cases D;exact wpIn_ret ⟨s,h,R⟩
 |rangeFunc g ps as bd bl bj=>
  refine⟨?_,λl rest cc M h=>by cases h⟩
  intro cc D L π0 T a0 hT r n w0 QA s a w R h;simp only[bI]at D
  split at D<;>try(cases D;done)
  rename_i g' ca cb hg be a9
  split at D<;>try(cases D;done)
  cases D;simp only[aO.fits,ed,np,ii]at L;obtain⟨⟨⟨⟨⟨f1,f2⟩,f3⟩,f4⟩,f5⟩,f6⟩:=L
  exact MS hg (λt O=>⟨f1 t O,by simpa using f4 t O⟩) (λt O=>by simpa using f5 t O) (λt O=>by simpa using f6 t O) (bl.1 ca be f2) (bj.1 cb a9 f3) R h
 |label l'=>
  refine⟨?_,?_⟩
  ·intro cc D _ π0 T a0 _ r n w0 QA s a w R h;cases D;exact wpIn_label ⟨s,h,R⟩
  ·intro l rest cc M L D ha
   cases D;simp only[findLabel]at L
   split at L<;>try(cases L;done)
   rename_i he;cases L;simp only[aO.after,he,kv,gc]at ha;subst ha;intro _ π0 T a0 _ r n w0 QA s a w R h;exact wpIn_skip ⟨s,h,R⟩
 |goto l'=>
  refine⟨?_,λl rest cc M h=>by cases h⟩
  intro cc D _ π0 T a0 _ r n w0 QA s a w R h;cases D;exact wpIn_goto ⟨s,h,R⟩
 |scope c ih=>
  refine⟨?_,λl rest cc M h=>by cases h⟩
  intro cc D L π0 T a0 hT r n w0 QA s a w R h;simp only[bI]at D
  split at D<;>try(cases D;done)
  rename_i c' ab
  split at D<;>try(cases D;done)
  rename_i l hl;simp only[eg]at D;obtain⟨cr,a4,rfl⟩:=D;simp only[aO.fits,ed]at L;simp only[aO.writes,lh,not_or]at hT
  have hs:=DY c c' ab l
  rw[a4]at hs
  cases ar:findLabel c l with
  |none=>rw[ar]at hs;cases hs
  |some rest=>
   refine MT ar (A6 P nt n0 w0 π0 r T a0 (λ_=>aw (Pure P) cr (H7 QA)) .normal) (wa (ih.1 c' ab L.1 π0 T a0 (λt O=>(hT t O).1) r n w0 _ s a w R h) ?_) ?_
   ·rintro e a' w' ⟨s',hq,R'⟩
    cases e with
    |goto l'=>exact⟨hq.1,s',hq.2,R'⟩
    |_=>exact⟨s',hq,R'⟩
   ·rintro a' w' ⟨s',hq,R'⟩
    refine wa (ih.2 l rest c' cr ar ab a4 L.2 π0 T a0 (λt O=>(hT t O).2) r n w0 _ s' a' w' R' hq) ?_
    rintro e a2 w2 ⟨s2,a7,R2⟩
    cases e with
    |goto l'=>exact a7.elim
    |_=>exact⟨s2,a7,R2⟩
 |_=>exact⟨λcc D=>(by cases D),λl rest cc M h=>(by cases h)⟩
theorem oc{D:Bool} (hm:P.follows .mixedOrders=true):∀(c:Code) (cc:aO),bI D P c=some cc->cc.fits nt=true->∀(π0:Nat->Nat->Prop) (T:Nat->Prop) (a0:Act),(∀t,T t->¬t∈cc.writes)->∀(r:Option Nat) (n:Nat) (w0:World) (QA:Exit->S->Prop) (s:S) (a:Act) (w:World),
  xX P nt n0 w0 π0 r T a0 s a w->aw (Pure P) cc QA s->c.wpIn (FW r) n P (A6 P nt n0 w0 π0 r T a0 QA) a w:=λc cc L=>(Qc hm c).1 cc L
end
end
open Go.RowKit (Below)
section
variable (res:List fq) (r:AV) (fr:Option Nat) (css:List (List AV)) (s:S)
def jc:AV->SV
 | .ref cs=>.rp cs
 |a=>.dat a none
def slotsOf:Nat->List AV->List (Nat×SV)
 |_,[]=>[]
 |i,a::r=>(i,jc a)::slotsOf (i+1) r
def Ot(args:List AV):S:=⟨slotsOf 0 args,[],[],4⟩
def bS:Nat->Nat->List (Option AV)->List (Nat×SV)
 |_,_,[]=>[]
 |i,k,some .hole::r=>(i,.pt 0 [(k,0)])::bS (i+1) (k+1) r
 |i,k,some a::r=>(i,jc a)::bS (i+1) k r
 |i,k,none::r=>(i,.ptr k 0)::bS (i+1) (k+1) r
def jg:Nat->List (List AV)->List (Nat×bH)
 |_,[]=>[]
 |k,cs::css=>(k,⟨cs,[]⟩)::jg (k+1) css
def kP(args:List (Option AV)):S:=⟨bS 0 0 args,jg 0 css,[],4⟩
def iC(l:List (Nat×bH)):Nat->List (List AV)->Prop
 |_,[]=>True
 |k,cs::css=>aj (bO k l) (λx=>x.cells=cs)/\iC l (k+1) css
def Iq:fq->Option (AV×Option Nat)
 | .tmp t=>match lk t s.slots with
  |some (.dat a q)=>some (a,q)
  |_=>none
 | .cell t D=>match lk t s.slots with
  |some (.ptr b off)=>match bO b s.boxes with
   |some bx=>match aB bx.cells off D with
    |some a=>some (a,match D with|none=>dJ off bx.tags|some _=>none)
    |none=>none
   |none=>none
  |_=>none
def kQ(s:S):List fq->Option (List AV)
 |[]=>some []
 |r::D=>match Iq s r,kQ s D with
  |some p,some as=>some (p.1::as)
  |_,_=>none
def dV:List fq->Option (AV×Option Nat)
 |[r]=>Iq s r
 |D=>(kQ s D).map λas=>(.de as,none)
def Kk(q:Option Nat) (live:List (Nat×Nat)):Prop:=
 match fr with
 |none=>True
 |some e=>match q with
  |some D=>dJ D live=some e
  |none=>False
def fin:Exit->S->Prop
 | .normal,s=>aj (dV s res) λp=>p.1=r/\Kk fr p.2 s.live
 | .ret,s=>aj (dV s res) λp=>p.1=r/\Kk fr p.2 s.live
 |_,_=>False
def D6:Exit->S->Prop
 | .normal,s=>aj (dV s res) λp=>p.1=r/\Kk fr p.2 s.live/\iC s.boxes 0 css
 | .ret,s=>aj (dV s res) λp=>p.1=r/\Kk fr p.2 s.live/\iC s.boxes 0 css
 |_,_=>False
theorem mc{β:Nat->Nat} {τ:Nat->Value} {w:World} {π:Nat->Nat->Prop} {U:Nat->Prop} {a:AV} {x:Value} (h:DV w π a x):RV β τ w π (jc a) x/\(jc a).gK U:=by
 cases a with
 |ref cs=>exact⟨RV.ref.2 h,trivial⟩
 |_=>exact⟨⟨h,λt D=>by cases D⟩,trivial⟩
theorem D7:∀{args:List AV} {i t:Nat} {v:SV},lk t (slotsOf i args)=some v->∃a,i<=t/\args[t-i]? =some a/\v=jc a
 |[],i,t,v,h=>by cases h
 |a::r,i,t,v,h=>by
  simp only[slotsOf,lk,ki]at h;split at h
  ·rename_i e;cases h;subst e;exact⟨a,ik _,aaP,rfl⟩
  ·obtain⟨b,M,D,L⟩:=D7 h
   refine⟨b,aaN,?_,L⟩
   rw[show t-i=(t-(i+1))+1 by omega]
   simpa using D
end
section
variable{P:Program} {nt:Nat} {n0:gw} {w0:World} {π0:Nat->Nat->Prop} {U:Nat->Prop} {s:S} {a:Act} {w:World} {β:Nat->Nat} {τ:Nat->Value} {π:Nat->Nat->Prop}
section
variable {av:AV} {q:Option Nat}
def ny(D:Array Value):ResultVar->Sem Value
 | .tmp t=>pure (D.getD t undef)
 | .cell a t=>do loadVar t (<-asAddr (D.getD a undef))
theorem Ou(R:Rel P nt n0 w0 π0 U s a w β τ π) {rv:ResultVar} {cr:fq} (hc:Gl P rv=some cr) (h:Iq s cr=some (av,q)):
  ∃v,(ny a.tmps rv).run P w=.ok v w/\DV w π av v/\(∀t,q=some t->v=τ t):=by
 cases rv with
 |tmp t=>
  cases hc;simp only[Iq]at h
  split at h<;>try(cases h;done)
  rename_i a' q' V;cases h;obtain⟨⟨x,Z,L⟩,_⟩:=R.slots t _ V
  exact⟨x,by simp[ny,Z],L.1,L.2⟩
 |cell O t=>
  simp only[Gl,eg]at hc;obtain⟨sz,ab,rfl⟩:=hc;simp only[Iq]at h
  split at h<;>try(cases h;done)
  rename_i b off V
  split at h<;>try(cases h;done)
  rename_i bx hb
  split at h<;>try(cases h;done)
  rename_i a' hp;cases h
  have aa:bn (Pure P) 0 (.ld (.t O) sz) (λv s'=>v=.dat av (match(generalizing:=false) sz with|none=>dJ off bx.tags|some _=>none)) s:=by
   simp only[bn,bJ,V,ax,hb,hp]
   cases sz<;>rfl
  obtain⟨v,y,L,M,_,hK⟩:=R.load (X:=.tmp O) rfl ab aa
  subst hK;obtain⟨⟨x,Z,ac⟩,_⟩:=R.slots O _ V
  have D:x=.pointer (some ⟨β b,off,none⟩):=ac
  have he:a.eval (.tmp O)=x:=by simp[Act.eval,Z]
  refine⟨y,?_,M.1,M.2⟩;rw[he,D]at L;simp[Instr.loadAt,Instr.sureAddr]at L;simp[ny,Z,D,asAddr,L]
theorem Kl(R:Rel P nt n0 w0 π0 U s a w β τ π):∀{L:List ResultVar} {D:List fq},L.mapM (Gl P)=some D->∀{as:List AV},kQ s D=some as->
  ∃vs,(L.mapM (ny a.tmps)).run P w=.ok vs w/\ji w π as vs
 |[],D,M,as,h=>by
  simp at M;subst M;simp[kQ]at h;subst h
  exact⟨[],aaP,.nil _ _⟩
 |rv::L,D,M,as,h=>by
  simp only[rt,pb,io,tl,gc]at M;obtain⟨cr,V,ab,O,rfl⟩:=M;simp only[kQ]at h
  split at h<;>try(cases h;done)
  rename_i p ac h1 h2;cases h
  obtain⟨v,hv,hd,_⟩:=Ou R V (av:=p.1) (q:=p.2) h1
  obtain⟨vs,Z,aa⟩:=Kl R O h2
  exact⟨v::vs,by simp[rt,hv,Z],.cons hd aa⟩
theorem rY(fn:Func) (D:Array Value):results fn D=(do let vs<-fn.results.mapM (ny D);pure (if h:vs.size=1 then vs[0]else .tuple vs)):=by
 unfold results
 congr 1
theorem rZ(R:Rel P nt n0 w0 π0 U s a w β τ π) {fn:Func} {D:List fq} (hc:fn.results.toList.mapM (Gl P)=some D) (h:dV s D=some (av,q)):
  ∃v,(results fn a.tmps).run P w=.ok v w/\DV w π av v/\(∀t,q=some t->v=τ t):=by
 have go:∀vs:List Value,(fn.results.toList.mapM (ny a.tmps)).run P w=.ok vs w->(results fn a.tmps).run P w=.ok (if h:vs.length=1 then vs[0]else .tuple vs.toArray) w:=by
  intro vs aa
  have:(fn.results.mapM (ny a.tmps)).run P w=.ok vs.toArray w:=by
   have e:fn.results=fn.results.toList.toArray:=aaP
   rw[e,List.mapM_toArray,Sem.run_map,aa];rfl
  rw[rY,f8,this];simp
 have ad:(∀r,D≠[r])->dV s D=(kQ s D).map λas=>(.de as,none):=by
  intro L
  cases D with
  |nil=>rfl
  |cons r rs=>
   cases rs with
   |nil=>exact absurd rfl (L r)
   |cons r' rs=>rfl
 by_cases O:∃r,D=[r]
 ·obtain⟨r,rfl⟩:=O
  cases Z:fn.results.toList with
  |nil=>rw[Z]at hc;simp at hc
  |cons rv ab=>
   rw[Z]at hc;simp only[rt,pb,io,tl,gc]at hc;obtain⟨cr,ae,ak,M,he⟩:=hc;cases he
   have ac:ab=[]:=by
    cases ab with
    |nil=>rfl
    |cons x xs=>
     simp only[rt,pb,io,tl,gc]at M;obtain⟨_,_,_,_,h⟩:=M;cases h
   subst ac;obtain⟨v,hv,hd,hq⟩:=Ou R ae h;refine⟨v,?_,hd,hq⟩
   rw[go [v] (by rw[Z];simp[hv])]
   simp
 ·have L:∀r,D≠[r]:=λr e=>O ⟨r,e⟩
  rw[ad L]at h;simp only[eg,Prod.mk.injEq]at h;obtain⟨as,has,rfl,rfl⟩:=h;obtain⟨vs,aa,V⟩:=Kl R hc has
  have ag:D.length=vs.length:=by
   have:∀{D:List fq} {as:List AV},kQ s D=some as->D.length=as.length:=by
    intro D
    induction D with
    |nil=>intro as h;simp[kQ]at h;subst h;rfl
    |cons c D ih=>
     intro as h;simp only[kQ]at h
     split at h<;>try(cases h;done)
     rename_i p al h1 h2;cases h;simp[ih h2]
   rw[this has,V.1]
  refine⟨.tuple vs.toArray,?_,.de as vs.toArray (by simpa using V.1) (λi a v ha hv=>V.2 i a v ha (by simpa using hv)),λt ht=>by cases ht⟩
  rw[go vs aa]
  have:¬vs.length=1:=by
   intro e;rw[<-ag]at e
   match D,e,L with
   |[r],_,L=>exact L r rfl
  rw[dif_neg this]
end
end
section
variable{P:Program}
section
variable {U:Nat->Prop} {a:Act} {cf:bE} {f:FuncId} {fr:Option Nat} {mo:Bool} {nt:Nat} {r:AV} {s:S} {w w':World} {β:Nat->Nat} {π π':Nat->Nat->Prop} {τ:Nat->Value}
theorem qB{V:Bool} (D:oK V P f=some cf):∃(fn:Func) (c:Code) (cc:aO),P.funcs[f]? =some fn/\fn.body=some c/\fn.results.toList.mapM (Gl P)=some cf.res/\bI V P c=some cc/\cf.code=cc/\cf.nt=fn.ntmps/\cc.fits fn.ntmps=true/\bL P f=true:=by
 unfold oK at D
 split at D<;>try(cases D;done)
 rename_i fn R
 split at D<;>try(cases D;done)
 rename_i c Z hbody O
 split at D<;>try(cases D;done)
 rename_i cc M
 split at D<;>try(cases D;done)
 rename_i L;cases D;simp only[ed]at L;exact⟨fn,c,cc,R,hbody,O,M,rfl,rfl,L.1,L.2⟩
theorem nA{c:Code} {Q:Exit->Act->World->Prop} (h:c.wpIn (FW none) 0 P Q a w):c.wpIn Fence.wide 0 P Q a w:=h
theorem ew{nt:Nat} {n0:gw} {w:World} {π:Nat->Nat->Prop} {s:S} {a:Act} {fn:Func} {R:Ending->World->Prop}
  (L:∀w',dS P nt n0 w π s a w'->∃v,(results fn a.tmps).run P w'=.ok v w'/\R (.returned v) w'):
  ∀(O:List Nat) (w':World),O.Nodup->(∀D∈O,n0.n<=D/\w'.heap[D]? =some (.deferred (some [])))->dS P nt n0 w π s a w'->w.heap.size<=n0.n->LeavesInM Fence.wide 0 P fn a.tmps R (O.map P9) .returning w'
 |[],w',_,_,R',_=>L w' R'
 |D::O,w',M,hD,R',hn=>by
  obtain⟨h1,Z⟩:=hD D mp;simp only[wd]at M
  refine⟨aaP,.inl ⟨D,_,rfl,run_takeDeferred Z,?_⟩⟩
  refine ew L O _ M.2 (λD' V=>?_) ((R'.putObj Z rfl rfl).Z1 (R'.below.putObj (kw hn h1) h1 _) R'.f9 (λb o hb=>(jT Z rfl rfl _).trans (R'.kept b o hb))) hn
  obtain⟨g1,g2⟩:=hD D' (lc _ V)
  exact⟨g1,(sT (λe=>M.1 (by rw[<-e];exact V))).trans g2⟩
theorem WX(hm:P.follows .mixedOrders=true) (ao:oK mo P f=some cf) {args:List AV} (hn:args.length<=cf.nt) (h:aw (Pure P) cf.code (fin cf.res r fr) (Ot args)):Dy P f args r fr:=by
 obtain⟨fn,c,cc,am,hbody,ak,ag,ec,en,ad,Z⟩:=qB ao;rw[ec]at h;rw[en]at hn
 refine⟨Z,λw π vs V hd=>?_⟩
 have ar:=hd.1
 have R:dS P fn.ntmps (gw.top w) w π (Ot args) {tmps:=vs.toArray++Array.replicate (fn.ntmps-vs.toArray.size) undef,defers:=[]} w:=by
  refine⟨ik 4,id,λ_=>undef,π,λn=>n<4,λ_ h=>h,?_⟩
  refine{size:=?_,slots:=?_,boxes:=λb x h=>(by cases h),inj:=λb b' x x' h=>(by cases h),live:=λq e h=>(by cases h),cw:=λq q' e e' B h=>(by cases h),cz:=λq e b x h=>(by cases h),below:=.refl _ _,f9:=ik _,eF:=V,ep:=λ_ _ h=>h,cB:=λ_ _ h=>.inl h,lz:=λ_ _=>rfl,jb:=λ_ h=>h,kept:=λ_ _ _=>rfl}
  ·simp;omega
  ·intro t v hv
   obtain⟨av,_,D,rfl⟩:=D7 hv;simp only[IO]at D;obtain⟨x,hx,aa⟩:=hd.get D
   refine⟨⟨x,?_,(mc (U:=λn=>n<4) aa).1⟩,(mc (β:=id) (τ:=λ_=>undef) aa).2⟩
   have ae:t<vs.length:=(em.1 hx).1
   simp[LT,ae]
   simpa using(em.1 hx).2
 refine Ha.1 (xi (n:=0) (F:=Fence.wide) am hbody trivial (wa (nA (oc hm c cc ag ad _ (λ_=>False) ⟨#[],[]⟩ (λ_ h=>h.elim) none 0 w _ _ _ _ ⟨R,λl h=>by(cases h),⟨[],rfl,.nil,aaP⟩,λ_ h=>h.elim⟩ h)) ?_))
 have O:∀(s:S) (a':Act) (w':World),(aj (dV s cf.res) λp=>p.1=r/\Kk fr p.2 s.live)->dS P fn.ntmps (gw.top w) w π s a' w'->
   ∃v,(results fn a'.tmps).run P w'=.ok v w'/\∃u π',Ending.returned v=.returned u/\Below w.heap.size w w'/\(∀b o,π b o->π' b o)/\(∀b o,π' b o->π b o\/w.heap.size<=b)/\
    (∀b o,π' b o->b<w'.heap.size)/\DV w' π' r u/\∀t,fr=some t->GH P w' π' (λB=>w.heap.size<=B) t u:=by
  rintro s a' w' hq ⟨_,β,τ,π',U,hU,R'⟩
  obtain⟨⟨av,q⟩,hp,D,L⟩:=ah hq;simp only at D L;subst D;obtain⟨v,hv,al,an⟩:=rZ R' ak hp
  refine⟨v,hv,v,π',rfl,R'.below.below (λ_ h=>h),R'.ep,λb o h=>(R'.cB b o h).imp id (λh=>h.elim id (λh=>h.elim)),R'.eF,al,λt ht=>?_⟩
  subst ht;simp only[Kk]at L
  cases q with
  |none=>exact L.elim
  |some q=>
   rw[an q rfl]
   exact(R'.live q t L).2.weaken (λB h=>h.elim id (λh=>h.elim))
 rintro e a' w' ⟨s,hq,R',_,⟨Ds,M,ac,ab⟩,_⟩
 have M:a'.defers=Ds.map P9:=by simpa using M
 cases e with
 |normal=>show LeavesInM _ _ _ _ _ _ a'.defers _ _;rw[M];exact ew (O s a' · hq) Ds w' ac ab R' (ik _)
 |ret=>show LeavesInM _ _ _ _ _ _ a'.defers _ _;rw[M];exact ew (O s a' · hq) Ds w' ac ab R' (ik _)
 |_=>exact hq.elim
theorem nG{w:World} {π:Nat->Nat->Prop}:∀{args:List (Option AV)} {Bs:List Nat} {vs:List Value},eO w π args Bs vs->∀{i k t:Nat} {v:SV},lk t (bS i k args)=some v->
  ∃x,i<=t/\vs[t-i]? =some x/\((∃a,v=jc a/\DV w π a x)\/∃j B,Bs[j]? =some B/\((v=.ptr (k+j) 0/\x=.pointer (some ⟨B,0,none⟩))\/(v=.pt 0 [(k+j,0)]/\x=.agg #[.pointer (some ⟨B,0,none⟩)])))
 |[],Bs,vs,L,i,k,t,v,h=>by cases h
 |some a::args,Bs,[],L,i,k,t,v,h=>by cases Bs<;>cases a<;>exact L.elim
 |some a::args,Bs,x::vs,L,i,k,t,v,h=>by
  rcases nV L with⟨rfl,B,aa,rfl,V,D⟩|⟨ha,D⟩
  ·simp only[bS,lk,ki]at h
   split at h
   ·rename_i e;cases h;subst e
    exact⟨x,ik _,aaP,.inr ⟨0,B,rfl,.inr ⟨rfl,V⟩⟩⟩
   ·obtain⟨y,Z,R,M⟩:=nG D h
    refine⟨y,aaN,?_,?_⟩
    ·rw[show t-i=(t-(i+1))+1 by omega];simpa using R
    ·rcases M with M|⟨j,B',hB,O⟩
     ·exact .inl M
     ·exact .inr ⟨j+1,B',by simpa using hB,by rw[show k+(j+1)=k+1+j by omega];exact O⟩
  have es:bS i k (some a::args)=(i,jc a)::bS (i+1) k args:=by cases a<;>first|rfl|exact absurd rfl ha
  rw[es]at h;simp only[lk,ki]at h;split at h
  ·rename_i e;cases h;subst e
   exact⟨x,ik _,aaP,.inl ⟨a,rfl,D.1⟩⟩
  ·obtain⟨y,Z,R,M⟩:=nG D.2 h
   refine⟨y,aaN,?_,M⟩
   rw[show t-i=(t-(i+1))+1 by omega];simpa using R
 |none::args,[],vs,L,i,k,t,v,h=>by cases vs<;>exact L.elim
 |none::args,B::Bs,[],L,i,k,t,v,h=>L.elim
 |none::args,B::Bs,x::vs,L,i,k,t,v,h=>by
  obtain⟨V,D⟩:=L;simp only[bS,lk,ki]at h;split at h
  ·rename_i e;cases h;subst e
   exact⟨x,ik _,aaP,.inr ⟨0,B,rfl,.inl ⟨rfl,V⟩⟩⟩
  ·obtain⟨y,Z,R,M⟩:=nG D h
   refine⟨y,aaN,?_,?_⟩
   ·rw[show t-i=(t-(i+1))+1 by omega];simpa using R
   ·rcases M with M|⟨j,B',hB,O⟩
    ·exact .inl M
    ·exact .inr ⟨j+1,B',by simpa using hB,by rw[show k+(j+1)=k+1+j by omega];exact O⟩
theorem r5:∀{css:List (List AV)} {k b:Nat} {x:bH},bO b (jg k css)=some x->∃cs,k<=b/\css[b-k]? =some cs/\x=⟨cs,[]⟩
 |[],k,b,x,h=>by cases h
 |cs::css,k,b,x,h=>by
  simp only[jg,bO,ki]at h;split at h
  ·rename_i e;cases h;subst e;exact⟨cs,ik _,aaP,rfl⟩
  ·obtain⟨D,O,M,L⟩:=r5 h
   refine⟨D,aaN,?_,L⟩
   rw[show b-k=(b-(k+1))+1 by omega];simpa using M
theorem qC{w:World} {π:Nat->Nat->Prop}:∀{args:List (Option AV)} {Bs:List Nat} {vs:List Value},eO w π args Bs vs->args.length=vs.length
 |[],Bs,vs,h=>by cases Bs<;>cases vs<;>first|rfl|exact h.elim
 |some a::args,Bs,[],h=>by cases Bs<;>cases a<;>exact h.elim
 |some a::args,Bs,v::vs,h=>by
  rcases nV h with⟨_,_,_,_,_,D⟩|⟨_,_,D⟩<;>simp[qC D]
 |none::args,[],vs,h=>by cases vs<;>exact h.elim
 |none::args,B::Bs,[],h=>h.elim
 |none::args,B::Bs,v::vs,h=>by simp[qC h.2]
theorem we:∀{l:List Nat},l.Nodup->∀(i j:Nat) (x:Nat),l[i]? =some x->l[j]? =some x->i=j
 |[],_,i,j,x,h,_=>by simp at h
 |a::l,M,i,j,x,L,D=>by
  rw[wd]at M
  cases i with
  |zero=>cases j with
   |zero=>rfl
   |succ j=>simp at L D;subst L;exact absurd (et D) M.1
  |succ i=>cases j with
   |zero=>simp at L D;subst D;exact absurd (et L) M.1
   |succ j=>rw[we M.2 i j x (by simpa using L) (by simpa using D)]
theorem zb{l:List (Nat×bH)} {w:World} {π:Nat->Nat->Prop} {β:Nat->Nat} (D:∀b x,bO b l=some x->pN (λ_=>undef) w π (β b) ⟨x.cells,[]⟩):
  ∀{css:List (List AV)} {Bs:List Nat} {k:Nat},css.length=Bs.length->(∀j B,Bs[j]? =some B->β (k+j)=B)->iC l k css->bX w π css Bs
 |[],[],k,_,_,_=>trivial
 |[],B::Bs,k,h,_,_=>by simp at h
 |cs::css,[],k,h,_,_=>by simp at h
 |cs::css,B::Bs,k,h,M,L=>by
  obtain⟨x,R,e⟩:=ah L.1
  refine⟨?_,zb D (by simpa using h) (λj B' O=>by rw[show k+1+j=k+(j+1)by omega];exact M (j+1) B' (by simpa using O)) L.2⟩
  have:=D k x R
  rw[<-e,<-M 0 B rfl];exact this
theorem jK{w:World} {π:Nat->Nat->Prop}:∀{css:List (List AV)} {Bs:List Nat},bX w π css Bs->∀B∈Bs,∀o,¬π B o
 |[],[],_,B,hB=>by cases hB
 |[],_::_,h,_,_=>h.elim
 |_::_,[],h,_,_=>h.elim
 |cs::css,B'::Bs,h,B,hB=>by
  rcases nb.1 hB with rfl|hB
  ·obtain⟨_,_,_,_,_,_,D⟩:=h.1;exact D
  ·exact jK h.2 B hB
theorem Rel.Km{P:Program} {Bs:List Nat} {css D:List (List AV)} (R:Rel P nt (gw.iw w Bs) w π U s a w' β τ π') (V:css.length=Bs.length) (h4:css.length<=4) (Z:D.length=css.length) (L:iC s.boxes 0 D):bX w' π' D Bs:=by
 refine zb (β:=β) (λb x O=>(R.boxes b x O).2.2.1.rQ) aaN (λj B M=>?_) L
 have:j<Bs.length:=(em.1 M).1
 rw[kr,R.lz j aaN]
 simp[gw.iw,M]
theorem A7{l:List (Nat×bH)}:∀{css:List (List AV)} {k j:Nat},iC l k css->j<css.length->∃x,bO (k+j) l=some x
 |[],k,j,_,D=>by simp at D
 |cs::css,k,j,h,D=>by
  cases j with
  |zero=>obtain⟨x,L,_⟩:=ah h.1;exact⟨x,L⟩
  |succ j=>
   obtain⟨x,L⟩:=A7 h.2 (by simpa using D)
   exact⟨x,by rw[show k+(j+1)=k+1+j by omega];exact L⟩
theorem Rel.D8{P:Program} {Bs:List Nat} {css D:List (List AV)} (R:Rel P nt (gw.iw w Bs) w π U s a w' β τ π') (aa:css.length=Bs.length) (h4:css.length<=4) (hl:D.length=css.length) (V:iC s.boxes 0 D) {q e:Nat} (Z:dJ q s.live=some e):GH P w' π' (λB=>w.heap.size<=B) e (τ q):=by
 have ht:=(R.live q e Z).2
 rcases ht with h|⟨B,len,cap,M,i,hv,O,L⟩
 ·exact .inl h
 ·refine .inr ⟨B,len,cap,M,i,hv,?_,L⟩
  rcases O with h|h
  ·exact h
  ·exfalso
   obtain⟨j,hj⟩:=my.1 (show B∈Bs from h)
   have ab:j<Bs.length:=(em.1 hj).1
   obtain⟨x,hx⟩:=A7 V (j:=j) aaN
   rw[kr]at hx;refine R.cz q e j x Z hx ?_
   rw[hv,R.lz j aaN]
   simp[gw.iw,jl,hj]
theorem Ko(hm:P.follows .mixedOrders=true) (bd:oK mo P f=some cf) {css D:List (List AV)} {args:List (Option AV)} (hn:args.length<=cf.nt) (hl:D.length=css.length) (h4:css.length<=4) (h:aw (Pure P) cf.code (D6 cf.res r fr D) (kP css args)):uz P f css args r fr D:=by
 obtain⟨fn,c,cc,ba,hbody,au,ar,ec,en,an,ad⟩:=qB bd;rw[ec]at h;rw[en]at hn
 refine⟨ad,hl,h4,λw π Bs vs ab a7 a2 hd=>?_⟩
 have be:=qC hd
 obtain⟨ae,ac⟩:=a2.get
 have hβ:∀(j B:Nat),Bs[j]? =some B->(gw.iw w Bs).β j=B:=λj B hj=>by simp[gw.iw,hj]
 have R:dS P fn.ntmps (gw.iw w Bs) w π (kP css args) {tmps:=vs.toArray++Array.replicate (fn.ntmps-vs.toArray.size) undef,defers:=[]} w:=by
  refine⟨ik 4,(gw.iw w Bs).β,λ_=>undef,π,λn=>n<4,λ_ h=>h,?_⟩
  have L:∀b x,bO b (kP css args).boxes=some x->∃B cs,b<4/\Bs[b]? =some B/\(gw.iw w Bs).β b=B/\x=⟨cs,[]⟩/\pN (λ_=>undef) w π B ⟨cs,[]⟩:=by
   intro b x hb;obtain⟨cs,_,h2,h3⟩:=r5 hb;simp only[IO]at h2
   have bi:b<css.length:=(em.1 h2).1
   have hB:Bs[b]? =some Bs[b]:=eh aaN
   exact⟨_,cs,aaN,hB,hβ _ _ hB,h3,ac b cs _ h2 hB⟩
  refine{size:=?_,slots:=?_,boxes:=?_,inj:=?_,live:=λq e h=>(by cases h),cw:=λq q' e e' B h=>(by cases h),cz:=λq e b x h=>(by cases h),below:=.refl _ _,f9:=ik _,eF:=ab,ep:=λ_ _ h=>h,cB:=λ_ _ h=>.inl h,lz:=λ_ _=>rfl,jb:=λ_ h=>h,kept:=λ_ _ _=>rfl}
  ·simp;omega
  ·intro t v hv
   obtain⟨x,_,hx,a5⟩:=nG hd hv;simp only[IO]at hx
   have ao:t<vs.length:=(em.1 hx).1
   have M:(vs.toArray++Array.replicate (fn.ntmps-vs.toArray.size) undef)[t]? =some x:=by
    simp[LT,ao]
    simpa using(em.1 hx).2
   rcases a5 with⟨a,rfl,am⟩|⟨j,B,hB,⟨rfl,rfl⟩|⟨rfl,rfl⟩⟩
   ·exact⟨⟨x,M,(mc (U:=λn=>n<4) am).1⟩,(mc (β:=id) (τ:=λ_=>undef) am).2⟩
   ·refine⟨⟨_,M,?_⟩,?_⟩
    ·show Value.pointer (some ⟨B,0,none⟩)=.pointer (some ⟨(gw.iw w Bs).β (0+j),0,none⟩)
     rw[kr,hβ j B hB]
    ·have:j<Bs.length:=(em.1 hB).1
     show 0+j<4
     omega
   ·have hj:j<Bs.length:=(em.1 hB).1
    refine⟨⟨_,M,?_⟩,λp hp=>?_⟩
    ·show Value.agg #[.pointer (some ⟨B,0,none⟩)]=.agg #[.pointer (some ⟨(gw.iw w Bs).β (0+j),0,none⟩)]
     rw[kr,hβ j B hB]
    ·simp at hp;subst hp
     show j<4
     omega
  ·intro b x hb
   obtain⟨B,cs,h1,h2,h3,rfl,h5⟩:=L b x hb
   exact⟨h1,.inr ⟨h1,by rw[h3];exact et h2⟩,by rw[h3];exact h5,λo q hq=>by cases hq⟩
  ·intro b b' x x' hb a8 e
   obtain⟨B,_,_,h2,h3,_,_⟩:=L b x hb;obtain⟨B',_,_,a3,a6,_,_⟩:=L b' x' a8;rw[h3,a6]at e;subst e;exact we a7 b b' B h2 a3
 refine Ha.1 (xi (n:=0) (F:=Fence.wide) ba hbody trivial (wa (nA (oc hm c cc ar an _ (λ_=>False) ⟨#[],[]⟩ (λ_ h=>h.elim) none 0 w _ _ _ _ ⟨R,λl h=>by(cases h),⟨[],rfl,.nil,aaP⟩,λ_ h=>h.elim⟩ h)) ?_))
 have aa:∀(s:S) (a':Act) (w':World),(aj (dV s cf.res) λp=>p.1=r/\Kk fr p.2 s.live/\iC s.boxes 0 D)->dS P fn.ntmps (gw.iw w Bs) w π s a' w'->
   ∃v,(results fn a'.tmps).run P w'=.ok v w'/\∃u π',Ending.returned v=.returned u/\vR (gw.iw w Bs) w w'/\(∀b o,π b o->π' b o)/\(∀b o,π' b o->π b o\/w.heap.size<=b)/\
    (∀b o,π' b o->b<w'.heap.size)/\bX w' π' D Bs/\DV w' π' r u/\∀t,fr=some t->GH P w' π' (λB=>w.heap.size<=B) t u:=by
  rintro s a' w' hq ⟨_,β,τ,π',U,hU,R'⟩
  obtain⟨⟨av,q⟩,hp,ag,O,V⟩:=ah hq;simp only at ag O V;subst ag;obtain⟨v,hv,a4,a9⟩:=rZ R' au hp
  have hB:=R'.Km ae h4 hl V
  refine⟨v,hv,v,π',rfl,R'.below,R'.ep,λb o h=>(R'.cB b o h).imp id (λk=>k.elim id (λk=>absurd h (jK hB b k o))),R'.eF,?_,a4,λt ht=>?_⟩
  ·refine zb (β:=β) (λb x hb=>(R'.boxes b x hb).2.2.1.rQ) aaN (λj B hj=>?_) V
   have:j<Bs.length:=(em.1 hj).1
   rw[kr,R'.lz j aaN]
   exact hβ j B hj
  ·subst ht
   simp only[Kk]at O
   cases q with
   |none=>exact O.elim
   |some q=>
    rw[a9 q rfl];exact R'.D8 ae h4 hl V O
 rintro e a' w' ⟨s,hq,R',_,⟨Ds,Z,al,ak⟩,_⟩
 have Z:a'.defers=Ds.map P9:=by simpa using Z
 cases e with
 |normal=>show LeavesInM _ _ _ _ _ _ a'.defers _ _;rw[Z];exact ew (aa s a' · hq) Ds w' al ak R' (ik _)
 |ret=>show LeavesInM _ _ _ _ _ _ a'.defers _ _;rw[Z];exact ew (aa s a' · hq) Ds w' al ak R' (ik _)
 |_=>exact hq.elim
end
end
end Go.Eng
