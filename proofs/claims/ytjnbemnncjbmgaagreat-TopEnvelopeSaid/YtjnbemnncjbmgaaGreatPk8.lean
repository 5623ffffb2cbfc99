/- Part 8 of the engine and its library. -/
import Derived.Test.YtjnbemnncjbmgaaGreatPk7
set_option linter.all false
set_option maxRecDepth 10000
set_option maxHeartbeats 4000000
namespace Go.Eng
open Go
open Go.RowKit (Below)
theorem VC:∀{l:List (Nat×SV)} {t:Nat} {v:SV},lk t l=some v->(t,v)∈l
 |[],t,v,h=>by cases h
 |(m,u)::r,t,v,h=>by
  simp only[lk,lA]at h;split at h
  ·rename_i e;cases h;subst e;exact nb ..
  ·exact lw _ (VC h)
theorem Bj:∀{l:List (Nat×bV)} {t:Nat} {v:bV},cj t l=some v->(t,v)∈l
 |[],t,v,h=>by cases h
 |(m,u)::r,t,v,h=>by
  simp only[cj,lA]at h;split at h
  ·rename_i e;cases h;subst e;exact nb ..
  ·exact lw _ (Bj h)
theorem ud:∀{l:List (Nat×Nat)} {t:Nat} {v:Nat},d9 t l=some v->(t,v)∈l
 |[],t,v,h=>by cases h
 |(m,u)::r,t,v,h=>by
  simp only[d9,lA]at h;split at h
  ·rename_i e;cases h;subst e;exact nb ..
  ·exact lw _ (ud h)
theorem Ei{m:List (Nat×Nat)} {nx:Nat} {a:List (Nat×SV)}:∀{l:List (Nat×SV)},iy m nx a l->∀t v,(t,v)∈l->∃u,lk t a=some u/\A4 m nx u v
 |[],h,t,v,hm=>by cases hm
 |(L,D)::r,h,t,v,hm=>by
  rcases nm.1 hm with e|e
  ·cases e;exact ah h.1
  ·exact Ei h.2 t v e
theorem Ab{m:List (Nat×Nat)} {nx:Nat} {a:List (Nat×Nat)}:∀{l:List (Nat×Nat)},lu m nx a l->∀o q,(o,q)∈l->d9 o a=some (I3 m q)/\q<nx
 |[],h,t,v,hm=>by cases hm
 |(L,D)::r,h,t,v,hm=>by
  rcases nm.1 hm with e|e
  ·cases e;exact h.1
  ·exact Ab h.2 t v e
theorem ny{m:List (Nat×Nat)} {nx:Nat} {a:List (Nat×bV)}:∀{l:List (Nat×bV)},i9 m nx a l->∀b x,(b,x)∈l->∃y,cj b a=some y/\y.cells=x.cells/\lu m nx y.tags x.tags/\b<nx
 |[],h,t,v,hm=>by cases hm
 |(O,M)::r,h,t,v,hm=>by
  rcases nm.1 hm with e|e
  ·cases e;obtain⟨y,D,L⟩:=ah h.1;exact⟨y,D,L⟩
  ·exact ny h.2 t v e
theorem pK{m:List (Nat×Nat)} {nx:Nat} {a:List (Nat×Nat)}:∀{l:List (Nat×Nat)},rG m nx a l->∀q e,(q,e)∈l->d9 (I3 m q) a=some e/\q<nx
 |[],h,t,v,hm=>by cases hm
 |(L,D)::r,h,t,v,hm=>by
  rcases nm.1 hm with e|e
  ·cases e;exact h.1
  ·exact pK h.2 t v e
theorem Jy{α:Type} {f:α->Nat}:∀{l:List α},(l.map f).Nodup->∀x y,x∈l->y∈l->f x=f y->x=y
 |[],h,x,y,L,M,e=>by cases L
 |a::l,h,x,y,L,M,e=>by
  simp only[kr,yi]at h
  rcases nm.1 L with D|D<;>rcases nm.1 M with ky|ky
  ·rw[D,ky]
  ·exact absurd (by rw[<-D,e];exact NE ky) h.1
  ·exact absurd (by rw[<-ky,<-e];exact NE D) h.1
  ·exact Jy h.2 x y D ky e
section
variable{P:Program} {nt:Nat} {n0:gV} {w0:World} {π0:Nat->Nat->Prop} {s s1:S} {a:Act} {w:World}
def eF(P:Program) (nt:Nat) (n0:gV) (w0:World) (π0:Nat->Nat->Prop) (s:S) (a:Act) (w:World):Prop:=
 4<=s.nx/\∃β τ π U,(∀n,U n->n<s.nx)/\Rel P nt n0 w0 π0 U s a w β τ π
theorem Rel.le{U:Nat->Prop} {β:Nat->Nat} {τ:Nat->Value} {π:Nat->Nat->Prop} (R:Rel P nt n0 w0 π0 U s a w β τ π) (h:Le s s1):eF P nt n0 w0 π0 s1 a w:=by
 obtain⟨h0,m,h1,h2,h3,h4⟩:=h
 refine⟨h0,β,λq=>τ (I3 m q),π,λn=>n<s1.nx,λn h=>h,?_⟩
 refine{size:=R.size,slots:=?_,boxes:=?_,inj:=?_,live:=?_,dr:=?_,dw:=?_,below:=R.below,gG:=R.gG,eZ:=R.eZ,eU:=R.eU,dz:=R.dz,mJ:=R.mJ,jH:=λk hk=>by show k<s1.nx;omega,kept:=R.kept}
 ·intro t v hv
  obtain⟨u,hu,D⟩:=Ei h1 t v (VC hv)
  obtain⟨⟨x,O,L⟩,hU⟩:=R.slots t u hu
  cases u with
  |dat au qu=>
   cases v with
   |dat av qv=>
    cases qv with
    |none=>
     have e:au=av:=by cases qu<;>exact D
     subst e
     exact⟨⟨x,O,L.1,λt ht=>by cases ht⟩,trivial⟩
    |some q=>
     cases qu with
     |none=>exact D.elim
     |some q0=>
      obtain⟨e,M,V⟩:=D;subst e
      refine⟨⟨x,O,L.1,λt ht=>?_⟩,V⟩
      cases ht
      show x=τ (I3 m q)
      rw[<-M];exact L.2 q0 rfl
   |_=>cases qu<;>exact D.elim
  |ptr b o=>
   cases v with
   |ptr b' o'=>
    obtain⟨Z,M,e3⟩:=D;subst Z M;exact⟨⟨x,O,L⟩,e3⟩
   |_=>exact D.elim
  |rp cs=>
   cases v with
   |rp ao=>
    have e:cs=ao:=D
    subst e;exact⟨⟨x,O,L⟩,trivial⟩
   |_=>exact D.elim
  |undef=>
   cases v with
   |undef=>exact⟨⟨x,O,L⟩,trivial⟩
   |_=>exact D.elim
  |vs b o n z=>
   cases v with
   |vs b' o' n' z'=>
    obtain⟨⟨Z,M⟩,⟨e3,e4⟩,h4⟩:=D;subst Z M e3 e4;exact⟨⟨x,O,L⟩,h4⟩
   |_=>exact D.elim
  |nX f as bs=>
   cases v with
   |nX f' ar a3=>
    obtain⟨Z,M,e3,h4⟩:=D;subst Z M e3;exact⟨⟨x,O,L⟩,h4⟩
   |_=>exact D.elim
  |raw q n=>cases v<;>exact D.elim
  |pt k ps=>
   cases v with
   |pt k' a2=>
    obtain⟨Z,M,h4⟩:=D;subst Z M
    exact⟨⟨x,O,by cases k<;>exact L⟩,h4⟩
   |_=>exact D.elim
 ·intro b x hb
  obtain⟨y,hy,ac,ab,ae⟩:=ny h2 b x (Bj hb)
  obtain⟨_,hn,⟨am,el,c1,c2,c3,c4,c5⟩,V⟩:=R.boxes b y hy
  refine⟨ae,hn,⟨am,el,c1,by rw[<-ac];exact c2,by rw[<-ac];exact c3,λo q ho=>?_,c5⟩,λo q ho=>?_⟩
  ·exact c4 o _ (Ab ab o q (ud ho)).1
  ·exact(Ab ab o q (ud ho)).2
 ·intro b b' x x' hb al e
  obtain⟨y,hy,_⟩:=ny h2 b x (Bj hb)
  obtain⟨y',ak,_⟩:=ny h2 b' x' (Bj al)
  exact R.inj b b' y y' hy ak e
 ·intro q e V
  obtain⟨h5,h6⟩:=pK h3 q e (ud V)
  exact⟨h6,(R.live _ e h5).2⟩
 ·intro q q' e e' B V ag hB an
  have hm:=ud V
  have aa:=ud ag
  obtain⟨h5,_⟩:=pK h3 q e hm;obtain⟨ad,_⟩:=pK h3 q' e' aa
  have:=R.dr _ _ e e' B h5 ad hB an
  have:=Jy h4 _ _ hm aa this
  exact sd Prod.fst this
 ·intro q e b x V hb
  obtain⟨h5,_⟩:=pK h3 q e (ud V)
  obtain⟨y,hy,_⟩:=ny h2 b x (Bj hb)
  exact R.dw _ e b y h5 hy
variable{U:Nat->Prop} {β:Nat->Nat} {τ:Nat->Value} {π:Nat->Nat->Prop}
section
variable {a':Act} {w':World} (r:Option Nat)
theorem Rel.rew(R:Rel P nt n0 w0 π0 U s a w β τ π) {D:World} (L:yb n0 D w) (M:n0.n<=D.heap.size) (hk:∀b o,π0 b o->w.cell? ⟨b,o,none⟩=D.cell? ⟨b,o,none⟩):Rel P nt n0 D π0 U s a w β τ π:={R with below:=L,gG:=M,kept:=hk}
theorem Rel.ZS(R:Rel P nt n0 w0 π0 U s a w β τ π):Rel P nt n0 w π0 U s a w β τ π:=R.rew (.refl _ _) (lh R.gG R.below.size) (λ_ _ _=>rfl)
theorem eF.below(R:eF P nt n0 w0 π0 s a w):yb n0 w0 w:=let ⟨_,_,_,_,_,_,R0⟩:=R;R0.below
theorem eF.gG(R:eF P nt n0 w0 π0 s a w):n0.n<=w0.heap.size:=let ⟨_,_,_,_,_,_,R0⟩:=R;R0.gG
theorem eF.rew(R:eF P nt n0 w0 π0 s a w) {D:World} (L:yb n0 D w) (M:n0.n<=D.heap.size) (hk:∀b o,π0 b o->w.cell? ⟨b,o,none⟩=D.cell? ⟨b,o,none⟩):eF P nt n0 D π0 s a w:=let ⟨h,β,τ,π,U,hU,R⟩:=R;⟨h,β,τ,π,U,hU,R.rew L M hk⟩
theorem eF.kept(R:eF P nt n0 w0 π0 s a w):∀b o,π0 b o->w.cell? ⟨b,o,none⟩=w0.cell? ⟨b,o,none⟩:=let ⟨_,_,_,_,_,_,R0⟩:=R;R0.kept
theorem eF.back{D:Nat->Nat->Prop} {M:World} (R:eF P nt n0 M D s a w) (L:∀b o,π0 b o->D b o) (V:∀b o,D b o->π0 b o\/n0.ok b) (O:yb n0 w0 w) (Z:n0.n<=w0.heap.size) (hk:∀b o,π0 b o->w.cell? ⟨b,o,none⟩=w0.cell? ⟨b,o,none⟩):eF P nt n0 w0 π0 s a w:=
 let ⟨h,β,τ,π,U,hU,R⟩:=R
 ⟨h,β,τ,π,U,hU,{R with below:=O,gG:=Z,kept:=hk,eU:=λb o h=>R.eU b o (L b o h),dz:=λb o h=>(R.dz b o h).elim (V b o) .inr}⟩
theorem eF.ZS(R:eF P nt n0 w0 π0 s a w):eF P nt n0 w π0 s a w:=let ⟨h,β,τ,π,U,hU,R⟩:=R;⟨h,β,τ,π,U,hU,R.ZS⟩
theorem eF.ZT(R:eF P nt n0 w0 π0 s a w) (h:a'.tmps=a.tmps):eF P nt n0 w0 π0 s a' w:=
 let ⟨h4,β,τ,π,U,hU,R⟩:=R
 ⟨h4,β,τ,π,U,hU,{R with size:=by rw[h];exact R.size,slots:=λt v D=>by rw[h];exact R.slots t v D}⟩
theorem eF.old(R:eF P nt n0 w0 π0 s a w) (D:Below w.heap.size w w'):eF P nt n0 w0 π0 s a w':=
 let ⟨h,β,τ,π,U,hU,R⟩:=R
 ⟨h,β,τ,π,U,hU,R.frame (λ_ _=>rfl) (λ_ _=>rfl) (λ_ h=>h) (λ_ _ h=>h) (λ_ _ h=>.inl h) (λb o h=>s9 (R.eZ b o h) D.size) D⟩
theorem kS{w:World} {l:Nat} {o o':Obj} (h:w.heap[l]? =some o) (M:o.isCells=false) (L:o'.isCells=false) (x:Addr):(w.putObj l o').cell? x=w.cell? x:=by
 have D:=(kt.1 h).1
 by_cases e:x.block=l
 ·unfold World.cell?
  rw[e,adn D,h]
  cases o<;>cases o'<;>first|(cases M;done)|(cases L;done)|rfl
 ·exact World.cell?_of_block (ui e)
theorem yb.putObj{n:gV} {w w':World} (h:yb n w w') {l:Nat} (L:w.heap.size<=l) (M:n.n<=l) (o:Obj):yb n w (w'.putObj l o):=
 ⟨h.os,h.tape,h.output,by simpa using h.size,λk hk D=>(ui ado).trans (h.block k hk D),λk x hk D=>(ui (by have:=(kt.1 hk).1;omega)).trans (h.others k x hk D)⟩
theorem eF.putObj(R:eF P nt n0 w0 π0 s a w) {l:Nat} {o o':Obj} (h:w.heap[l]? =some o) (hc:o.isCells=false) (ab:o'.isCells=false):eF P nt n0 (w.putObj l o') π0 s a (w.putObj l o'):=by
 obtain⟨h4,β,τ,π,U,hU,R⟩:=R
 have M:∀b o,π b o->(w.putObj l o').cell? ⟨b,o,none⟩=w.cell? ⟨b,o,none⟩:=λb x _=>kS h hc ab _
 have L:∀(B:Nat) (D:Array Value) (V:TypeId) (f:Nat×Nat),w.heap[B]? =some (.cells D V f)->(w.putObj l o').heap[B]? =w.heap[B]?:=λB D V f hB=>ui (λe=>by subst e;rw[h]at hB;cases hB;cases hc)
 refine⟨h4,β,τ,π,U,hU,{R with slots:=?_,boxes:=?_,live:=?_,below:=.refl _ _,gG:=?_,eZ:=?_,kept:=λ_ _ _=>rfl}⟩
 ·intro t v hv
  obtain⟨⟨x,hx,hr⟩,hu⟩:=R.slots t v hv
  exact⟨⟨x,hx,RV.mono (λ_ _=>rfl) (λ_ _=>rfl) (λ_ _ h=>h) M hu hr⟩,hu⟩
 ·intro b x hb
  obtain⟨Z,O,g3,g4⟩:=R.boxes b x hb
  have aa:=g3
  obtain⟨D,V,hh,_,_,_,hn⟩:=aa
  exact⟨Z,O,g3.keep (λ_ _=>rfl) g4 (L _ _ _ _ hh) (λ_ _ h=>h) M hn,g4⟩
 ·intro q e hq
  obtain⟨Z,O⟩:=R.live q e hq
  refine⟨Z,O.keep (λB hB=>?_) (λB o _ h=>h)⟩
  rcases O with e|⟨B',len,cap,D,i,e,_,hh,_⟩
  ·rw[e]at hB;cases hB
  ·rw[e]at hB;cases hB;exact L _ _ _ _ hh
 ·simpa using lh R.gG R.below.size
 ·intro b o hb;simpa using R.eZ b o hb
theorem eF.cut(R:eF P nt n0 w0 π0 s a w) {wr:List Nat} {a1:Act} (hk:∀t,¬t∈wr->a.tmps[t]? =a1.tmps[t]?) (O:a1.tmps.size=nt):eF P nt n0 w0 π0 (yV wr s) a1 w:=by
 obtain⟨h4,β,τ,π,U,D,R⟩:=R
 refine⟨h4,β,τ,π,U,D,{R with size:=O,slots:=λt v M=>?_}⟩
 obtain⟨L,V⟩:=Bi M;rw[<-hk t L];exact R.slots t v V
theorem Ej:∀{ps:List Nat} {xs:List AV} {s:S} {t:Array Value},(∀p∈ps,p<nt)->(∀x∈xs,kP x=true)->Rel P nt n0 w0 π0 U s {tmps:=t,defers:=[]} w β τ π->
  Rel P nt n0 w0 π0 U (uU ps xs s) {tmps:=(ps.zip (xs.map AZ)).foldl (λt p=>t.setIfInBounds p.1 p.2) t,defers:=[]} w β τ π
 |[],xs,s,t,_,_,R=>by cases xs<;>exact R
 |p::ps,[],s,t,_,_,R=>R
 |p::ps,x::xs,s,t,M,L,R=>by
  have Z:=R.put (some p) (v:=.dat x none) (x:=AZ x) (λq D=>by cases D;exact M p nb) ⟨.flat (L x nb),λt O=>by cases O⟩ trivial
  exact Ej (ps:=ps) (xs:=xs) (λq D=>M q (lw _ D)) (λy V=>L y (lw _ V)) Z
theorem Gu:∀{ps:List Nat} {xs:List AV} {s:S},(uU ps xs s).nx=s.nx
 |[],xs,s=>by cases xs<;>rfl
 |p::ps,[],s=>rfl
 |p::ps,x::xs,s=>by rw[uU,Gu];rfl
theorem uV:∀{l:List (Nat×Value)} {t:Array Value} {k:Nat},(∀p∈l,p.1≠k)->(l.foldl (λt p=>t.setIfInBounds p.1 p.2) t)[k]? =t[k]?
 |[],t,k,_=>rfl
 |p::l,t,k,h=>by
  rw[xa,uV (λq D=>h q (lw _ D))]
  exact H1 (h p nb)
def Jz(w:World):Prop:=∀l,r=some l->∃D,w.heap[l]? =some (.loop D)
def Tk(D:Nat):Deferred:={target:=.collected D,args:=#[]}
def Marks(dd:List Deferred) (n0:gV) (a:Act) (w:World):Prop:=∃L:List Nat,a.defers=L.map Tk++dd/\L.Nodup/\∀D∈L,n0.n<=D/\w.heap[D]? =some (.deferred (some []))
def Ad(P:Program) (nt:Nat) (n0:gV) (w0:World) (π0:Nat->Nat->Prop) (r:Option Nat) (T:Nat->Prop) (a0:Act) (s:S) (a:Act) (w:World):Prop:=
 eF P nt n0 w0 π0 s a w/\Jz r w/\Marks a0.defers n0 a w/\∀t,T t->a.tmps[t]? =a0.tmps[t]?
def Dg(P:Program) (nt:Nat) (n0:gV) (w0:World) (π0:Nat->Nat->Prop) (r:Option Nat) (T:Nat->Prop) (a0:Act) (QA:Exit->S->Prop) (e:Exit) (a:Act) (w:World):Prop:=∃s,QA e s/\Ad P nt n0 w0 π0 r T a0 s a w
theorem eF.down(R:eF P nt n0 w0 π0 s a w) {F:S->Prop} (h:Eng.down F s):∃V,F V/\eF P nt n0 w0 π0 V a w:=by
 obtain⟨s1,⟨L,hF⟩|hF⟩:=h
 ·obtain⟨_,β,τ,π,U,hU,R⟩:=R
  rcases hF with hF|⟨ids,D,hF⟩
  ·exact⟨s1,hF,R.le L⟩
  ·obtain⟨css,M,hF⟩:=ah hF
   simp only[ed]at D;obtain⟨h4,β',τ',π',U',O,R'⟩:=R.le L
   obtain⟨π2,_,Z,_⟩:=R'.yg (fc D.1) D.2 M
   exact⟨_,hF,by rw[tT];exact h4,β',τ',π2,U',by rw[tT];exact O,Z⟩
 ·exact⟨s,hF,R⟩
def Gv(L:List (Nat×Obj)) (w:World):Prop:=∀p∈L,w.heap[p.1]? =some p.2
theorem Gv.others{L:List (Nat×Obj)} {w:World} (h:Gv L w) (M:∀p∈L,p.2.isCells=false) (O:∀(k:Nat) (o:Obj),w.heap[k]? =some o->o.isCells=false->w'.heap[k]? =some o):Gv L w':=
 λp D=>O _ _ (h p D) (M p D)
theorem Gv.putObj{L:List (Nat×Obj)} {w:World} (h:Gv L w) {l:Nat} (M:∀p∈L,p.1≠l) (o:Obj):Gv L (w.putObj l o):=
 λp D=>(ui (M p D)).trans (h p D)
theorem jA{w:World} (h:Below w.heap.size w w') (k:Nat) (o:Obj) (hk:w.heap[k]? =some o):w'.heap[k]? =some o:=(h.block k (kt.1 hk).1).trans hk
theorem Jz.others{r:Option Nat} {w:World} (h:Jz r w) (D:∀(k:Nat) (o:Obj),w.heap[k]? =some o->o.isCells=false->w'.heap[k]? =some o):Jz r w':=
 λl L=>let ⟨r₀,hr⟩:=h l L;⟨r₀,D _ _ hr rfl⟩
theorem Marks.others{dd:List Deferred} {n0:gV} {a:Act} {w:World} (h:Marks dd n0 a w) (M:a'.defers=a.defers) (L:∀(k:Nat) (o:Obj),w.heap[k]? =some o->o.isCells=false->w'.heap[k]? =some o):Marks dd n0 a' w':=
 let ⟨Ds,h1,h2,h3⟩:=h;⟨Ds,M.trans h1,h2,λD hD=>⟨(h3 D hD).1,L _ _ (h3 D hD).2 rfl⟩⟩
theorem Tl{P:Program} {r:Option Nat} {w:World} (R:Jz r w) (fn:FuncId) (tmps:Array Value) (ps:Array Tmp) (as L:Code):
  ∃(l:Nat) (O:List Nat) (M:World) (dd:Nat),(Instr.enterLoop fn tmps ps as L r).run P w=.ok (l,O.map Tk) M/\w.heap.size<=l/\
   M.heap[l]? =some (.loop {state:=.ready,pending:=none,fn,tmps,params:=ps,assign:=as,body:=L,defers:=dd})/\Below w.heap.size w M/\O.Nodup/\
   ∀D∈O,w.heap.size<=D/\D≠l/\M.heap[D]? =some (.deferred (some [])):=by
 cases r with
 |none=>
  refine⟨w.heap.size+1,[w.heap.size],_,w.heap.size,run_enterLoop_outer fn tmps ps as L,ado,?_,?_,adI,?_⟩
  ·have:=World.alloc_heap_new (w.alloc (.deferred (some []))) (.loop {state:=.ready,pending:=none,fn,tmps,params:=ps,assign:=as,body:=L,defers:=w.heap.size})
   rwa[World.size_alloc]at this
  ·exact(((Below.refl _ w).alloc (ik _) _).alloc adI _)
  ·intro D hD
   simp only[rf]at hD;subst hD
   exact⟨ik _,ado,(Below.heap_alloc _ _ _ adI).trans (World.alloc_heap_new w _)⟩
 |some Z=>
  obtain⟨V,h⟩:=R Z rfl
  exact⟨w.heap.size,[],_,V.defers,run_enterLoop_inner h fn tmps ps as L,ik _,World.alloc_heap_new w _,(Below.refl _ w).alloc (ik _) _,adI,adI⟩
theorem DV.ad8{π:Nat->Nat->Prop} {D:Nat} {caps:List AV} {v:Value} (h:DV w π (.fn (.func D) [] caps) v):∃us:Array Value,v=.func (.func D) #[] us/\jR w π caps us.toList:=by
 cases h with
 |fn f as vs Z us M R V h4=>
  have:vs=#[]:=by simpa using M.symm
  subst this
  exact⟨us,rfl,by simpa using R,λi a v L O=>h4 i a v L (by simpa using O)⟩
end
section
variable{nt:Nat} {n0:gV} {π0:Nat->Nat->Prop} {T:Nat->Prop} {a0:Act} {r:Option Nat} {n:Nat} {QA:Exit->S->Prop}
theorem Pz{g:Operand} {ps:Array Tmp} {as bd:Code} {g':aR} {ca cb:aS} {wr:List Nat} (hg:dn g=some g') (bo:∀t∈ps.toList,t<nt/\t∈wr) (cv:∀t∈ca.writes,t∈wr) (c4:∀t∈cb.writes,t∈wr)
  (cy:∀(π0:Nat->Nat->Prop) (T:Nat->Prop) (a0:Act),(∀t,T t->¬t∈ca.writes)->∀(r:Option Nat) (n:Nat) (w0:World) (QA:Exit->S->Prop) (s:S) (a:Act) (w:World),Ad P nt n0 w0 π0 r T a0 s a w->aw (Pure P) ca QA s->as.wpIn (FW r) n P (Dg P nt n0 w0 π0 r T a0 QA) a w)
  (cp:∀(π0:Nat->Nat->Prop) (T:Nat->Prop) (a0:Act),(∀t,T t->¬t∈cb.writes)->∀(r:Option Nat) (n:Nat) (w0:World) (QA:Exit->S->Prop) (s:S) (a:Act) (w:World),Ad P nt n0 w0 π0 r T a0 s a w->aw (Pure P) cb QA s->bd.wpIn (FW r) n P (Dg P nt n0 w0 π0 r T a0 QA) a w)
  (R:Ad P nt n0 w0 π0 r T a0 s a w) (h:aw (Pure P) (.vY g' ps.toList wr ca cb) QA s):(Code.rangeFunc g ps as bd).wpIn (FW r) n P (Dg P nt n0 w0 π0 r T a0 QA) a w:=by
 simp only[aw]at h;obtain⟨gv,db,xs,c1,b8,F,cr,hFg,a6,hdone⟩:=ah h;clear h;obtain⟨RN,RL,⟨b1,c8,cu,a4⟩,RK⟩:=R
 have hsize:a.tmps.size=nt:=let ⟨_,_,_,_,_,_,R⟩:=RN;R.size
 obtain⟨gf,caps,rfl,bl,bj,bi⟩:=c1;obtain⟨s0,bm,c0⟩:=RN.down cr
 obtain⟨π1,us,c7,b5,b3,co,ba,bw⟩:∃(π1:Nat->Nat->Prop) (us:Array Value),a.eval g=.func (.func gf) #[] us/\jR w π1 caps us.toList/\(∀b o,π0 b o->π1 b o)/\(∀b o,π1 b o->π0 b o\/n0.ok b)/\(∀b o,π1 b o->b<w.heap.size)/\eF P nt n0 w π1 s0 a w:=by
  obtain⟨h4,β,τ,π,U,hU,R⟩:=c0
  obtain⟨us,h1,h2⟩:=DV.ad8 (R.aL hg (hFg 0 s0 bm))
  exact⟨π,us,h1,h2,R.eU,R.dz,R.eZ,h4,β,τ,π,U,hU,{R with below:=.refl _ _,gG:=lh R.gG R.below.size,kept:=λ_ _ _=>rfl,eU:=λ_ _ h=>h,dz:=λ_ _ h=>.inl h}⟩
 refine wpIn_rangeFunc ?_;intro fn _
 obtain⟨l,an,W1,dd,b6,hl,ac,ag,ck,ad⟩:=Tl (P:=P) RL fn a.tmps ps as bd
 obtain⟨M,O⟩:∃M:LoopState->Option Code->Loop,M=λst pe=>{state:=st,pending:=pe,fn,tmps:=a.tmps,params:=ps,assign:=as,body:=bd,defers:=dd}:=⟨_,rfl⟩
 have ac:W1.heap[l]? =some (.loop (M .ready none)):=by rw[O];exact ac
 -- what lies pinned
 obtain⟨L,hL⟩:∃L:List (Nat×Obj),L=(an++b1).map (λD=>(D,Obj.deferred (some [])))++(match r with|some l₀=>(match w.heap[l₀]? with|some o=>[(l₀,o)]|none=>[])|none=>[]):=⟨_,rfl⟩
 have a5:∀p∈L,p.2.isCells=false:=by
  intro p hp;rw[hL,lr]at hp
  rcases hp with hp|hp
  ·obtain⟨D,_,rfl⟩:=mi.1 hp;rfl
  ·cases r with
   |none=>cases hp
   |some l₀=>
    obtain⟨r₀,hr⟩:=RL l₀ rfl;simp only[hr,rf]at hp;subst hp;rfl
 have am:∀p∈L,p.1≠l:=by
  intro p hp;rw[hL,lr]at hp
  rcases hp with hp|hp
  ·obtain⟨D,hD,rfl⟩:=mi.1 hp
   rcases lr.1 hD with hD|hD
   ·exact(ad D hD).2.1
   ·have:=(kt.1 (a4 D hD).2).1
    simp only;omega
  ·cases r with
   |none=>cases hp
   |some l₀=>
    obtain⟨r₀,hr⟩:=RL l₀ rfl;simp only[hr,rf]at hp;subst hp
    have:=(kt.1 hr).1
    simp only;omega
 have ct:Gv L W1:=by
  intro p hp;rw[hL,lr]at hp
  rcases hp with hp|hp
  ·obtain⟨D,hD,rfl⟩:=mi.1 hp
   rcases lr.1 hD with hD|hD
   ·exact(ad D hD).2.2
   ·exact jA ag _ _ (a4 D hD).2
  ·cases r with
   |none=>cases hp
   |some l₀=>
    obtain⟨r₀,hr⟩:=RL l₀ rfl;simp only[hr,rf]at hp;subst hp;exact jA ag _ _ hr
 have ae:∀W,Gv L W->Jz r W:=by
  intro W hW l₀ e;subst e;obtain⟨r₀,hr⟩:=RL l₀ rfl
  exact⟨r₀,hW (l₀,.loop r₀) (by rw[hL];simp[hr])⟩
 have ab:∀W,Gv L W->Marks a0.defers n0 {a with defers:=an.map Tk++a.defers} W:=by
  intro W hW
  refine⟨an++b1,by simp[c8],?_,λD hD=>⟨?_,hW (D,_) (by rw[hL];exact List.mem_append_left _ (mi.2 ⟨D,hD,rfl⟩))⟩⟩
  ·refine List.nodup_append.2 ⟨ck,cu,λx hx y hy e=>?_⟩
   subst e
   have h1:=(ad x hx).1
   have h2:=(kt.1 (a4 x hy).2).1
   omega
  ·rcases lr.1 hD with hD|hD
   ·exact lh (lh RN.gG RN.below.size) (ad D hD).1
   ·exact(a4 D hD).1
 have b2:w0.heap.size<=l:=lh RN.below.size hl
 have a8:n0.n<=l:=lh RN.gG b2
 have a7:∀(Z:S) (W2:World),eF P nt n0 w π1 Z a W2->∀{o:Loop},W2.heap[l]? =some (.loop o)->∀(o':Loop),eF P nt n0 w0 π0 Z a (W2.putObj l (.loop o')):=by
  intro Z W2 R' o ho o'
  refine(R'.putObj ho rfl rfl).back b3 co ((RN.below.trans R'.below).putObj b2 a8 _) RN.gG λb x hb=>?_
  rw[kS ho rfl rfl,R'.kept b x (b3 b x hb)];exact RN.kept b x hb
 refine⟨l,an.map Tk,W1,{target:=.fn (.func gf) us,args:=#[.func (.yield l) #[] #[]]},W1,gf,#[.func (.yield l) #[] #[]]++us,W1,b6,?_,λ_ _=>trivial,?_,λh=>by simp[FW,Fence.wide]at h,?_⟩
 ·simp only[resolve,c7];simp[go_sem]
 ·simp[invoke,go_sem,gA bl]
 refine Gm.2 ?_
 have:=bi l
  (λi W=>(∃Z,F i Z/\eF P nt n0 w π1 Z a W)/\Gv L W/\W.heap[l]? =some (.loop (M .ready none)))
  (λW=>∃c Z,((c=.ret/\QA .ret Z)\/∃id,c=.exit id/\QA (.exit id) Z)/\eF P nt n0 w π1 Z a W/\Gv L W/\W.heap[l]? =some (.loop (M .done (some c))))
  W1 π1 us.toList (λb o h=>s9 (ba b o h) ag.size) (b5.mono (λ_ _ h=>h) (λb o h=>Below.yc ag (ba b o h))) ?_ ?_ ?_ ?_ ⟨⟨s0,bm,bw.old ag⟩,ct,ac⟩
 ·refine(by simpa using this:Calls P gf (#[.func (.yield l) #[] #[]]++us) W1 _).mono ?_
  rintro e W2 ⟨⟨v,rfl⟩,⟨⟨Z,al,R'⟩,hp,hr⟩|⟨c,Z,hq,R',hp,hr⟩⟩
  ·refine⟨none,_,by have:=run_endLoop (P:=P) hr (by rw[O];simp);rw[O]at this;exact this,Z,hdone Z al,?_⟩
   have aa:=hp.putObj am (.loop {M .ready none with state:=.exhausted})
   rw[O]at aa;exact⟨(a7 _ _ R' hr _).ZT rfl,ae _ aa,ab _ aa,RK⟩
  ·refine⟨some c,_,by have:=run_endLoop (P:=P) hr (by rw[O];simp);rw[O]at this;exact this,?_⟩
   have aa:=hp.putObj am (.loop {M .done (some c)with state:=.exhausted})
   rw[O]at aa
   have RT:Ad P nt n0 w0 π0 r T a0 Z {a with defers:=an.map Tk++a.defers} (W2.putObj l (.loop {M .done (some c)with state:=.exhausted})):=by
    rw[O];exact⟨(a7 _ _ R' hr _).ZT rfl,ae _ aa,ab _ aa,RK⟩
   rw[O]at RT
   rcases hq with⟨rfl,hq⟩|⟨id,rfl,hq⟩
   ·exact wpIn_ret ⟨Z,hq,RT⟩
   ·exact wpIn_exit ⟨Z,hq,RT⟩
 ·rintro i W ⟨⟨Z,al,R'⟩,_,_⟩ b o hb
  rw[R'.kept b o hb];exact(Below.yc ag (ba b o hb)).symm
 ·rintro i W W' ⟨⟨Z,al,R'⟩,hp,hr⟩ hb
  exact⟨⟨Z,al,R'.old hb⟩,hp.others a5 (λk o hk _=>jA hb k o hk),jA hb _ _ hr⟩
 ·rintro W W' ⟨c,Z,hq,R',hp,hr⟩ hb
  exact⟨c,Z,hq,R'.old hb,hp.others a5 (λk o hk _=>jA hb k o hk),jA hb _ _ hr⟩
 ·rintro m i x W hx ⟨⟨Z,al,R'⟩,hp,hr⟩
  have c5:=b8 x (er hx)
  have hy:=run_yield (P:=P) (args:=(x.map AZ).toArray) hr (by rw[O];simpa using c5)
  rw[O]at hy;refine⟨fn,_,as,bd,hy,roundIn_of_wpIn trivial ?_⟩
  have c2:(ps.zip (x.map AZ).toArray).foldl (λtmps p=>tmps.setIfInBounds p.1 p.2) a.tmps=(ps.toList.zip (x.map AZ)).foldl (λt p=>t.setIfInBounds p.1 p.2) a.tmps:=by
   rw[<-Array.foldl_toList];simp[Array.toList_zip]
  have RP:eF P nt n0 W π1 (uU ps.toList x Z) {tmps:=(ps.toList.zip (x.map AZ)).foldl (λt p=>t.setIfInBounds p.1 p.2) a.tmps,defers:=[]} W:=by
   obtain⟨h4,β,τ,π,U,hU,R2⟩:=(R'.ZT (a':={tmps:=a.tmps,defers:=[]}) rfl).ZS
   refine⟨by rw[Gu];exact h4,β,τ,π,U,λk hk=>by rw[Gu];exact hU k hk,?_⟩
   exact Ej (λp hp=>(bo p hp).1) (bj x (er hx)) R2
  have hkeep:∀t,¬t∈wr->((ps.toList.zip (x.map AZ)).foldl (λt p=>t.setIfInBounds p.1 p.2) a.tmps)[t]? =a.tmps[t]?:=
   λt ht=>uV (λp hp e=>ht (e▸(bo p.1 (List.of_mem_zip hp).1).2))
  have hA:=cy π1 (λt=>¬t∈wr) ⟨a.tmps,[]⟩ (λt ht hw=>ht (cv t hw)) (some l) m W _ _ _ _ ⟨RP,λl' e=>by cases e;exact⟨_,hr⟩,⟨[],rfl,.nil,adI⟩,hkeep⟩ (a6 i x Z hx al)
  have hA:as.wpIn (Fence.wide.inRound l) m P (Dg P nt n0 W π1 (some l) (λt=>¬t∈wr) ⟨a.tmps,[]⟩ (F4 (aw (Pure P) cb (Vb wr (F (i+1)) QA)))) {tmps:=(ps.zip (x.map AZ).toArray).foldl (λtmps p=>tmps.setIfInBounds p.1 p.2) a.tmps,defers:=[]} W:=by rw[c2];exact hA
  refine xo hA ?_
  rintro e a₁ w₁ ⟨s1,bs,ao,_,b7,c3⟩
  cases e<;>try exact bs.elim
  have ar:=ao.below.others _ _ hr rfl
  have cx:=hp.others a5 ao.below.others
  refine⟨_,run_beginRound ar (by rw[O]),?_⟩
  have ce:=(kt.1 ar).1
  have b0:(w₁.putObj l (.loop {M .ready none with state:=.busy})).heap[l]? =some (.loop {M .ready none with state:=.busy}):=adn ce
  have aa:=cx.putObj am (.loop {M .ready none with state:=.busy})
  have da:=ao.putObj ar rfl (o':=.loop {M .ready none with state:=.busy}) rfl
  have b4:Marks [] n0 a₁ (w₁.putObj l (.loop {M .ready none with state:=.busy})):=by
   obtain⟨Ds,h1,h2,h3⟩:=b7
   refine⟨Ds,h1,h2,λD hD=>⟨(h3 D hD).1,(ui (λe=>?_)).trans (h3 D hD).2⟩⟩
   subst e
   have:=(h3 D hD).2
   rw[ar]at this;cases this
  have ch:yb n0 w (w₁.putObj l (.loop {M .ready none with state:=.busy})):=(R'.below.trans ao.below).putObj hl a8 _
  have hB:=cp π1 (λt=>¬t∈wr) ⟨a.tmps,[]⟩ (λt ht hw=>ht (c4 t hw)) (some l) m (w₁.putObj l (.loop {M .ready none with state:=.busy})) (Vb wr (F (i+1)) QA) s1 a₁ _ ⟨da,λl' e=>by cases e;exact⟨_,b0⟩,b4,c3⟩ bs
  refine xo (show bd.wpIn (Fence.wide.inRound l) m P (Dg P nt n0 (w₁.putObj l (.loop {M .ready none with state:=.busy})) π1 (some l) (λt=>¬t∈wr) ⟨a.tmps,[]⟩ (Vb wr (F (i+1)) QA)) a₁ _ from hB) ?_
  rintro e a3 W3 ⟨s3,a2,ak,_,_,a9⟩
  have au:=ak.below.others _ _ b0 rfl
  have be:=aa.others a5 ak.below.others
  have ci:=ch.trans ak.below
  have fin:∀(V:Option Code),(Instr.endRound l V).run P W3=.ok (.bool V.isNone) (W3.putObj l (.loop (M (if V.isNone then .ready else .done) V)))/\
    (W3.putObj l (.loop (M (if V.isNone then .ready else .done) V))).heap[l]? =some (.loop (M (if V.isNone then .ready else .done) V)):=λV=>by
   have:=run_endRound (P:=P) V au
   rw[O]at this⊢;exact⟨this,adn (kt.1 au).1⟩
  have back:∀(s4:S),eF P nt n0 (w₁.putObj l (.loop {M .ready none with state:=.busy})) π1 s4 a W3->∀st pe,eF P nt n0 w π1 s4 a (W3.putObj l (.loop (M st pe))):=λs4 R4 st pe=>
   (R4.putObj au rfl rfl).rew (ci.putObj hl a8 _) bw.gG λb o hb=>by
    rw[kS au rfl rfl,R4.kept b o hb,kS ar rfl rfl,ao.kept b o hb,R'.kept b o hb]
  cases e with
  |normal=>
   obtain⟨s4,c6,R4⟩:=(ak.cut (wr:=wr) (a1:=a) a9 hsize).down a2
   obtain⟨f1,f2⟩:=fin none;exact⟨_,_,f1,.inl ⟨rfl,⟨s4,c6,back s4 R4 _ _⟩,be.putObj am _,f2⟩⟩
  |ret=>
   obtain⟨f1,f2⟩:=fin (some .ret)
   exact⟨_,_,f1,.inr ⟨rfl,.ret,_,.inl ⟨rfl,a2⟩,back _ (ak.cut (wr:=wr) (a1:=a) a9 hsize) _ _,be.putObj am _,f2⟩⟩
  |exit id=>
   obtain⟨f1,f2⟩:=fin (some (.exit id))
   exact⟨_,_,f1,.inr ⟨rfl,.exit id,_,.inr ⟨id,rfl,a2⟩,back _ (ak.cut (wr:=wr) (a1:=a) a9 hsize) _ _,be.putObj am _,f2⟩⟩
  |_=>exact a2.elim
end
theorem Ad.sub{π0:Nat->Nat->Prop} {r:Option Nat} {T:Nat->Prop} {a0:Act} (R:Ad P nt n0 w0 π0 r T a0 s a w) {a':Act} {w':World} {M:S} (O:sF T a a') (D:eF P nt n0 w π0 M a' w'):Ad P nt n0 w0 π0 r T a0 M a' w':=
 ⟨D.rew (R.1.below.trans D.below) R.1.gG (λb o h=>(D.kept b o h).trans (R.1.kept b o h)),R.2.1.others D.below.others,R.2.2.1.others O.1 D.below.others,λt L=>(O.2 t L).trans (R.2.2.2 t L)⟩
theorem Ad.down{π0:Nat->Nat->Prop} {r:Option Nat} {T:Nat->Prop} {a0:Act} (R:Ad P nt n0 w0 π0 r T a0 s a w) {F:S->Prop} (h:Eng.down F s):∃D,F D/\Ad P nt n0 w0 π0 r T a0 D a w:=
 let ⟨D,h1,h2⟩:=R.1.down h;⟨D,h1,h2,R.2⟩
theorem Gw{mo:Bool}:∀(c:Code) (cc:aS),bW mo P c=some cc->∀l,(findLabel c l).isSome=(cc.after l).isSome:=by
 intro c
 induction c with
 |seq x y L R=>
  intro cc D l;simp only[bW]at D
  split at D<;>try(cases D;done)
  rename_i M cy O ac
  have hx:=L M O l
  cases D
  have key:(findLabel (.seq x y) l).isSome=(match M.after l with|some r=>some (aS.join r cy)|none=>cy.after l).isSome:=by
   simp only[findLabel]
   cases h1:findLabel x l<;>cases h2:M.after l<;>simp_all
  split<;>exact key
 |label l'=>intro cc D l;cases D;simp only[findLabel,aS.after];split<;>rfl
 |skip=>intro cc D l;cases D;rfl
 |region id ops nu=>
  intro cc D l;simp only[bW]at D;split at D
  ·simp only[eg]at D
   obtain⟨cos,_,rfl⟩:=D;rfl
  unfold Kx at D
  (repeat' split at D)<;>(try simp only at D)<;>(repeat' split at D)<;>first|(cases D;done)|(cases D;rfl)
 |cond cd x y L R=>
  intro cc D l;simp only[bW]at D
  split at D<;>try(cases D;done)
  cases D;rfl
 |block id c Z=>intro cc D l;simp only[bW,eg]at D;obtain⟨c',V,rfl⟩:=D;rfl
 |loop c Z=>intro cc D l;simp only[bW,eg]at D;obtain⟨c',V,rfl⟩:=D;rfl
 |exit id=>intro cc D l;cases D;rfl
 |ret=>intro cc D l;cases D;rfl
 |goto l'=>intro cc D l;cases D;rfl
 |scope c Z=>
  intro cc D l;simp only[bW]at D
  split at D<;>try(cases D;done)
  split at D<;>try(cases D;done)
  simp only[eg]at D;obtain⟨r,_,rfl⟩:=D;rfl
 |rangeFunc g ps as bd ab aa=>
  intro cc D l;simp only[bW]at D
  split at D<;>try(cases D;done)
  split at D<;>try(cases D;done)
  cases D;rfl
 |_=>intro cc D;cases D
section
variable{F:Fence} {m:Nat} {Q:Exit->Act->World->Prop}
section
variable {b:Frame} {c:Code} {cs:List Frame} {k:List Item}
theorem MV:step P (lone (b.atR a (.code (.scope c)::k)) cs w)=.next (lone (b.atR a (.code c:: .inScope c::k)) cs w):=
 step_lone_go (by simp[stepG,stepG.exec,Frame.atR])
theorem I5:step P (lone (b.atR a (.inScope c::k)) cs w)=.next (lone (b.atR a k) cs w):=
 step_lone_go (by simp[stepG,stepG.exec,Frame.atR])
theorem PA{rest:Code} {l:Nat} (hf:findLabel c l=some rest) (G:Act->World->Prop) (h:c.wpIn F m P (λe a w=>match e with| .goto l'=>l'=l/\G a w|e=>Q e a w) a w) (hr:∀a w,G a w->rest.wpIn F m P (Exit.noGoto Q) a w):(Code.scope c).wpIn F m P Q a w:=by
 intro b k cs ab hb hroom
 have h0:(lone (b.atR a (.code (.scope c)::k)) cs w).fenced P F:=fenced_calm hb hroom rfl
 have leave:∀{e:Exit} {O:Act} {R:World} {m1:Machine},StepsIn (Machine.fenced P F) P (lone (b.atR a (.code (.scope c)::k)) cs w) m1->(∀l,e≠.goto l)->ArrivesIn (Machine.fenced P F) P m1 b (.inScope c::k) cs e O R->
   ArrivesIn (Machine.fenced P F) P (lone (b.atR a (.code (.scope c)::k)) cs w) b k cs e O R:=by
  intro e O R m1 hs L D
  cases e with
  |normal=>exact hs.trans (StepsIn.trans D (.one (fenced_calm hb hroom rfl) I5))
  |exit id=>exact⟨λk' hk=>hs.trans (D.1 k' (by simpa[exitTo]using hk)),λac hk=>let ⟨k₁,h1,h2⟩:=D.2 ac (by simpa[exitTo]using hk);⟨k₁,h1,hs.trans h2⟩⟩
  |goto l=>exact absurd rfl (L l)
  |ret=>exact .of_steps hs D
  |panic ch=>exact .of_steps hs D
  |outgrown=>exact .of_steps hs D
 have hstart:StepsIn (Machine.fenced P F) P (lone (b.atR a (.code (.scope c)::k)) cs w) (lone (b.atR a (.code c:: .inScope c::k)) cs w):=.one h0 MV
 obtain⟨e,O,R,Z,D⟩:=h b (.inScope c::k) cs ab hb hroom
 have other:(∀l,e≠.goto l)->Q e O R->∃e a' w',Q e a' w'/\ArrivesIn (Machine.fenced P F) P (lone (b.atR a (.code (.scope c)::k)) cs w) b k cs e a' w':=λL Z=>⟨e,O,R,Z,leave hstart L D⟩
 cases e with
 |goto l'=>
  obtain⟨rfl,hG⟩:=Z
  have ad:=D.1 (.code rest:: .inScope c::k) (by simp[gotoIn,hf])
  obtain⟨e2,a₂,w₂,aa,V⟩:=hr O R hG b (.inScope c::k) cs ab hb hroom
  have M:(∀l,e2≠.goto l)->Q e2 a₂ w₂->∃e a' w',Q e a' w'/\ArrivesIn (Machine.fenced P F) P (lone (b.atR a (.code (.scope c)::k)) cs w) b k cs e a' w':=λL Z=>⟨e2,a₂,w₂,Z,leave (hstart.trans ad) L V⟩
  cases e2 with
  |goto l2=>exact aa.elim
  |_=>exact M (λl h=>by cases h) aa
 |_=>exact other (λl h=>by cases h) Z
end
end
section
variable {x y:Code}
def Sound(P:Program) (nt:Nat) (n0:gV) (c:Code) (cc:aS):Prop:=
 cc.fits nt=true->∀(π0:Nat->Nat->Prop) (T:Nat->Prop) (a0:Act),(∀t,T t->¬t∈cc.writes)->∀(r:Option Nat) (n:Nat) (w0:World) (QA:Exit->S->Prop) (s:S) (a:Act) (w:World),
  Ad P nt n0 w0 π0 r T a0 s a w->aw (Pure P) cc QA s->c.wpIn (FW r) n P (Dg P nt n0 w0 π0 r T a0 QA) a w
theorem Gx{Z cy:aS} (hx:Sound P nt n0 x Z) (hy:Sound P nt n0 y cy):Sound P nt n0 (.seq x y) (.join Z cy):=by
 intro O π0 T a0 hT r n w0 QA s a w R h
 have nn:∀(e:Exit) (G:S->Prop) (D:S) (a':Act) (w':World),e≠.normal->jU G QA e D->Ad P nt n0 w0 π0 r T a0 D a' w'->Exit.then (y.wpIn (FW r) n P (Dg P nt n0 w0 π0 r T a0 QA)) (Dg P nt n0 w0 π0 r T a0 QA) e a' w':=by
  intro e G D a' w' V L R'
  cases e with
  |normal=>exact absurd rfl V
  |_=>exact⟨D,L,R'⟩
 simp only[aS.fits,ed]at O;simp only[aS.writes,lr,not_or]at hT
 refine wpIn_seq (xo (hx O.1 π0 T a0 (λt M=>(hT t M).1) r n w0 _ s a w R h) ?_)
 rintro e a' w' ⟨D,L,R'⟩
 cases e with
 |normal=>
  obtain⟨s2,hF,R2⟩:=R'.down L
  exact hy O.2 π0 T a0 (λt M=>(hT t M).2) r n w0 QA s2 a' w' R2 hF
 |_=>exact nn _ _ D a' w' adI L R'
theorem Tn{M O:aS} (hx:Sound P nt n0 x M) (hy:Sound P nt n0 y O):Sound P nt n0 (.seq x y) (.seq M O):=by
 intro L π0 T a0 hT r n w0 QA s a w R h;simp only[aS.fits,ed]at L;simp only[aS.writes,lr,not_or]at hT
 refine wpIn_seq (xo (hx L.1 π0 T a0 (λt D=>(hT t D).1) r n w0 _ s a w R h) ?_)
 rintro e a' w' ⟨Z,V,R'⟩
 cases e with
 |normal=>exact hy L.2 π0 T a0 (λt D=>(hT t D).2) r n w0 QA Z a' w' R' V
 |_=>exact⟨Z,V,R'⟩
theorem To{mo:Bool} (hm:P.follows .mixedOrders=true):∀(c:Code),(∀cc,bW mo P c=some cc->Sound P nt n0 c cc)/\∀l rest cc M,findLabel c l=some rest->bW mo P c=some cc->cc.after l=some M->Sound P nt n0 rest M:=by
 intro c
 induction c with
 |skip=>
  refine⟨?_,λl rest cc M h=>by cases h⟩
  intro cc D _ π0 T a0 _ r n w0 QA s a w R h;cases D;exact wpIn_skip ⟨s,h,R⟩
 |region id ops nu=>
  refine⟨?_,λl rest cc M h=>by cases h⟩
  intro cc D L π0 T a0 hT r n w0 QA s a w R h;obtain⟨h4,β,τ,π,U,hU,R0⟩:=R.1;simp only[bW]at D;split at D
  ·rename_i a6
   simp only[ed,pA]at a6;obtain⟨_,rfl⟩:=a6;simp only[eg]at D;obtain⟨cos,ae,rfl⟩:=D
   refine y9 (w0:=w) ae L R0.ZS hU h (T:=T) (λd hd O=>hT d O hd) ?_ ?_
   ·intro s' a' w' β' τ' π' U' V hK hp R'
    exact⟨_,hK,R.sub hp ⟨by show 4<=s.nx+_;omega,β',τ',π',U',V,R'.nx _⟩⟩
   ·intro p s' a' w' β' τ' π' U' V hK hp R'
    exact⟨_,hK,R.sub hp ⟨by show 4<=s.nx+_;omega,β',τ',π',U',V,R'.nx _⟩⟩
  split at D<;>try(cases D;done)
  rename_i cos ae
  have fin:∀(ro:List Nat) (s1:S) (π1:Nat->Nat->Prop),Rel P nt n0 w0 π0 U s1 a w β τ π1->s1.nx=s.nx->(nu=true->∃dG T,kH dG ops.toList cos=true/\A6 T (lY ro 0 cos) dG=true/\m8 T s1.nx 0 (lY ro 0 cos)=true/\rI T s1)->iz nt cos=true->(∀t,T t->¬t∈dstsOf cos)->
    jM (Pure P) s1.nx 0 (lY ro 0 cos) (λs'=>QA .normal {s' with nx:=s.nx+cos.length}) s1->(Code.region id ops nu).wpIn (FW r) n P (Dg P nt n0 w0 π0 r T a0 QA) a w:=by
   intro ro s1 π1 R1 a4 hd L hT h
   refine Bh (w0:=w) hm ae ro hd L R1.ZS (by rw[a4];exact hU) h (T:=T) (λd hd O=>hT d O hd) ?_
   intro s' a' w' β' τ' π' U' V hK hp R';rw[a4]at V
   exact⟨_,hK,R.sub hp ⟨by show 4<=s.nx+_;omega,β',τ',π',U',V,R'.nx _⟩⟩
  split at D
  ·rename_i au
   subst au
   have Jh:∀dG,kH dG ops.toList cos=true->iz nt cos=true->(∀t,T t->¬t∈dstsOf cos)->(∃ids,(dS ids&&i5 ids)=true/\aj (aW s.boxes ids) λcss=>S3 (Pure P) cos dG (λs'=>QA .normal {s' with nx:=s.nx+cos.length}) (iC ids css s))->(Code.region id ops true).wpIn (FW r) n P (Dg P nt n0 w0 π0 r T a0 QA) a w:=by
    intro dG Z L hT h;obtain⟨ids,am,h⟩:=h;obtain⟨css,a8,ro,ad,h⟩:=ah h;rw[ed]at am
    obtain⟨π1,_,R1,_⟩:=R0.yg (fc am.1) am.2 a8
    simp only[qI,Zq,ed]at ad
    exact fin ro _ π1 R1 tT (λ_=>⟨_,_,Z,ad.2,ad.1.2,λt b ⟨v,hl,hb⟩=>oK ad.1.1 t b v hl hb⟩) L hT h
   split at D
   ·split at D<;>try(cases D;done)
    rename_i Z;unfold Kx at D
    split at D<;>try(cases D;done)
    rename_i k _
    split at D<;>try(cases D;done)
    rename_i d hd;simp only at D
    split at D<;>try(cases D;done)
    rename_i hk;cases D;simp only[ed,ii]at hk;obtain⟨⟨⟨h1,h2⟩,h3⟩,h5⟩:=hk
    rcases h with h|h
    ·exact Jh _ Z L hT h
    ·refine zb (w0:=w) hm ae h1 h2 h3 (by simpa using h5) L R0.ZS hU h (T:=T) (λd hd O=>hT d O hd) ?_
     intro p s' a' w' β' τ' π' U' V hK hp R'
     exact⟨_,hK,R.sub hp ⟨by show 4<=s.nx+_;omega,β',τ',π',U',V,R'.nx _⟩⟩
   ·split at D
    ·split at D<;>try(cases D;done)
     rename_i Z;cases D
     exact fin [] s π R0 rfl (λ_=>⟨[],[],Z,rfl,wG,λ_ _ _=>rfl⟩) L hT (by rw[tV];exact h)
    ·split at D<;>try(cases D;done)
     rename_i Z;cases D;rw[ed]at Z;exact Jh _ Z.1 L hT h
  ·rename_i au
   cases D
   exact fin [] s π R0 rfl (λe=>absurd e au) L hT (by rw[tV];exact h)
 |seq x y al ak=>
  refine⟨?_,?_⟩
  ·intro cc D
   simp only[bW]at D
   split at D<;>try(cases D;done)
   rename_i cx cy aa ab;cases D;split
   ·exact Tn (al.1 cx aa) (ak.1 cy ab)
   ·exact Gx (al.1 cx aa) (ak.1 cy ab)
  ·intro l rest cc M L D ha
   simp only[bW]at D
   split at D<;>try(cases D;done)
   rename_i cx cy aa ab;cases D
   have an:(match cx.after l with|some r=>some (aS.join r cy)|none=>cy.after l)=some M:=by
    split at ha<;>exact ha
   have hs:=Gw x cx aa l
   simp only[findLabel]at L;split at L
   ·rename_i rx ao
    cases L;rw[ao]at hs
    cases ag:cx.after l with
    |none=>rw[ag]at hs;cases hs
    |some cr=>
     rw[ag]at an;cases an;exact Gx (al.2 l rx cx cr ao aa ag) (ak.1 cy ab)
   ·rename_i ao
    rw[ao]at hs
    cases ag:cx.after l with
    |some cr=>rw[ag]at hs;cases hs
    |none=>
     rw[ag]at an;exact ak.2 l rest cy M L ab an
 |cond cd x y al ak=>
  refine⟨?_,λl rest cc M h=>by cases h⟩
  intro cc D L π0 T a0 hT r n w0 QA s a w R h;simp only[bW]at D
  split at D<;>try(cases D;done)
  rename_i c' cx cy be aa ab;cases D;simp only[aS.fits,ed]at L;simp only[aS.writes,lr,not_or]at hT;simp only[aw]at h;obtain⟨v,hv,h⟩:=ah h;obtain⟨β,τ,π,U,hU,R0⟩:=R.1.2
  have hd:=R0.aL be hv
  cases v<;>try(exact h.elim)
  rename_i t
  exact wpIn_cond_split hd.wq (λe=>al.1 cx aa L.1 π0 T a0 (λt O=>(hT t O).1) r n w0 QA s a w R (h.1 e)) (λe=>ak.1 cy ab L.2 π0 T a0 (λt O=>(hT t O).2) r n w0 QA s a w R (h.2 e))
 |block id c ih=>
  refine⟨?_,λl rest cc M h=>by cases h⟩
  intro cc D L π0 T a0 hT r n w0 QA s a w R h;simp only[bW,eg]at D;obtain⟨c',ac,rfl⟩:=D;refine wpIn_block (xo (ih.1 c' ac L π0 T a0 hT r n w0 _ s a w R h) ?_)
  rintro e a' w' ⟨s',hq,R'⟩
  cases e with
  |exit a9=>
   simp only[jN]at hq;simp only[Exit.inBlock]
   by_cases a5:a9=id
   ·rw[fp a5]at hq⊢;exact⟨s',hq,R'⟩
   ·rw[fb a5]at hq⊢;exact⟨s',hq,R'⟩
  |_=>exact⟨s',hq,R'⟩
 |loop c ih=>
  refine⟨?_,λl rest cc M h=>by cases h⟩
  intro cc D L π0 T a0 hT r n w0 QA s a w R h;simp only[bW,eg]at D;obtain⟨c',ac,rfl⟩:=D;obtain⟨s0,⟨m,hn⟩,R0⟩:=R.down h;refine wpIn_loop_rounds m ?_
  have key:∀(m:Nat) (s:S) (a:Act) (w:World),Ad P nt n0 w0 π0 r T a0 s a w->tU (aw (Pure P) c') QA m s->Code.roundsIn (FW r) n P c (Dg P nt n0 w0 π0 r T a0 QA) m a w:=by
   intro m
   induction m with
   |zero=>intro s a w _ h;exact h.elim
   |succ m bj=>
    intro s a w R h;rw[roundsIn_succ];refine xo (ih.1 c' ac L π0 T a0 hT r n w0 _ s a w R h) ?_
    rintro e a' w' ⟨s',hq,R'⟩
    cases e with
    |normal=>
     obtain⟨s2,hF,R2⟩:=R'.down hq;exact bj s2 a' w' R2 hF
    |_=>exact⟨s',hq,R'⟩
  exact key m s0 a w R0 hn
 |exit id=>
  refine⟨?_,λl rest cc M h=>by cases h⟩
  intro cc D _ π0 T a0 _ r n w0 QA s a w R h;cases D;exact wpIn_exit ⟨s,h,R⟩
 |ret=>
  refine⟨?_,λl rest cc M h=>by cases h⟩
  intro cc D _ π0 T a0 _ r n w0 QA s a w R h;cases D;exact wpIn_ret ⟨s,h,R⟩
 |rangeFunc g ps as bd bm bl=>
  refine⟨?_,λl rest cc M h=>by cases h⟩
  intro cc D L π0 T a0 hT r n w0 QA s a w R h;simp only[bW]at D
  split at D<;>try(cases D;done)
  rename_i g' ca cb hg bi ba
  split at D<;>try(cases D;done)
  cases D;simp only[aS.fits,ed,mt,ii]at L;obtain⟨⟨⟨⟨⟨f1,f2⟩,f3⟩,f4⟩,f5⟩,f6⟩:=L
  exact Pz hg (λt O=>⟨f1 t O,by simpa using f4 t O⟩) (λt O=>by simpa using f5 t O) (λt O=>by simpa using f6 t O) (bm.1 ca bi f2) (bl.1 cb ba f3) R h
 |label l'=>
  refine⟨?_,?_⟩
  ·intro cc D _ π0 T a0 _ r n w0 QA s a w R h;cases D;exact wpIn_label ⟨s,h,R⟩
  ·intro l rest cc M L D ha
   cases D;simp only[findLabel]at L
   split at L<;>try(cases L;done)
   rename_i he;cases L;simp only[aS.after,he,kw,fx]at ha;subst ha;intro _ π0 T a0 _ r n w0 QA s a w R h;exact wpIn_skip ⟨s,h,R⟩
 |goto l'=>
  refine⟨?_,λl rest cc M h=>by cases h⟩
  intro cc D _ π0 T a0 _ r n w0 QA s a w R h;cases D;exact wpIn_goto ⟨s,h,R⟩
 |scope c ih=>
  refine⟨?_,λl rest cc M h=>by cases h⟩
  intro cc D L π0 T a0 hT r n w0 QA s a w R h;simp only[bW]at D
  split at D<;>try(cases D;done)
  rename_i c' ac
  split at D<;>try(cases D;done)
  rename_i l hl;simp only[eg]at D;obtain⟨cr,a3,rfl⟩:=D;simp only[aS.fits,ed]at L;simp only[aS.writes,lr,not_or]at hT
  have hs:=Gw c c' ac l
  rw[a3]at hs
  cases ar:findLabel c l with
  |none=>rw[ar]at hs;cases hs
  |some rest=>
   refine PA ar (Dg P nt n0 w0 π0 r T a0 (λ_=>aw (Pure P) cr (Ku QA)) .normal) (xo (ih.1 c' ac L.1 π0 T a0 (λt O=>(hT t O).1) r n w0 _ s a w R h) ?_) ?_
   ·rintro e a' w' ⟨s',hq,R'⟩
    cases e with
    |goto l'=>exact⟨hq.1,s',hq.2,R'⟩
    |_=>exact⟨s',hq,R'⟩
   ·rintro a' w' ⟨s',hq,R'⟩
    refine xo (ih.2 l rest c' cr ar ac a3 L.2 π0 T a0 (λt O=>(hT t O).2) r n w0 _ s' a' w' R' hq) ?_
    rintro e a2 w2 ⟨s2,a7,R2⟩
    cases e with
    |goto l'=>exact a7.elim
    |_=>exact⟨s2,a7,R2⟩
 |_=>exact⟨λcc D=>(by cases D),λl rest cc M h=>(by cases h)⟩
theorem pL{L:Bool} (hm:P.follows .mixedOrders=true):∀(c:Code) (cc:aS),bW L P c=some cc->cc.fits nt=true->∀(π0:Nat->Nat->Prop) (T:Nat->Prop) (a0:Act),(∀t,T t->¬t∈cc.writes)->∀(r:Option Nat) (n:Nat) (w0:World) (QA:Exit->S->Prop) (s:S) (a:Act) (w:World),
  Ad P nt n0 w0 π0 r T a0 s a w->aw (Pure P) cc QA s->c.wpIn (FW r) n P (Dg P nt n0 w0 π0 r T a0 QA) a w:=λc cc D=>(To hm c).1 cc D
end
end
open Go.RowKit (Below)
section
variable (res:List gu) (r:AV) (fr:Option Nat) (css:List (List AV)) (s:S)
def jI:AV->SV
 | .ref cs=>.rp cs
 |a=>.dat a none
def slotsOf:Nat->List AV->List (Nat×SV)
 |_,[]=>[]
 |i,a::r=>(i,jI a)::slotsOf (i+1) r
def Q8(args:List AV):S:=⟨slotsOf 0 args,[],[],4⟩
def cw:Nat->Nat->List (Option AV)->List (Nat×SV)
 |_,_,[]=>[]
 |i,k,some .hole::r=>(i,.pt 0 [(k,0)])::cw (i+1) (k+1) r
 |i,k,some a::r=>(i,jI a)::cw (i+1) k r
 |i,k,none::r=>(i,.ptr k 0)::cw (i+1) (k+1) r
def jO:Nat->List (List AV)->List (Nat×bV)
 |_,[]=>[]
 |k,cs::css=>(k,⟨cs,[]⟩)::jO (k+1) css
def lZ(args:List (Option AV)):S:=⟨cw 0 0 args,jO 0 css,[],4⟩
def ja(l:List (Nat×bV)):Nat->List (List AV)->Prop
 |_,[]=>True
 |k,cs::css=>aj (cj k l) (λx=>x.cells=cs)/\ja l (k+1) css
def KO:gu->Option (AV×Option Nat)
 | .tmp t=>match lk t s.slots with
  |some (.dat a q)=>some (a,q)
  |_=>none
 | .cell t D=>match lk t s.slots with
  |some (.ptr b off)=>match cj b s.boxes with
   |some bx=>match aB bx.cells off D with
    |some a=>some (a,match D with|none=>d9 off bx.tags|some _=>none)
    |none=>none
   |none=>none
  |_=>none
def l5(s:S):List gu->Option (List AV)
 |[]=>some []
 |r::D=>match KO s r,l5 s D with
  |some p,some as=>some (p.1::as)
  |_,_=>none
def eI:List gu->Option (AV×Option Nat)
 |[r]=>KO s r
 |D=>(l5 s D).map λas=>(.dP as,none)
def MW(q:Option Nat) (live:List (Nat×Nat)):Prop:=
 match fr with
 |none=>True
 |some e=>match q with
  |some D=>d9 D live=some e
  |none=>False
def fin:Exit->S->Prop
 | .normal,s=>aj (eI s res) λp=>p.1=r/\MW fr p.2 s.live
 | .ret,s=>aj (eI s res) λp=>p.1=r/\MW fr p.2 s.live
 |_,_=>False
def Gy:Exit->S->Prop
 | .normal,s=>aj (eI s res) λp=>p.1=r/\MW fr p.2 s.live/\ja s.boxes 0 css
 | .ret,s=>aj (eI s res) λp=>p.1=r/\MW fr p.2 s.live/\ja s.boxes 0 css
 |_,_=>False
theorem nA{β:Nat->Nat} {τ:Nat->Value} {w:World} {π:Nat->Nat->Prop} {U:Nat->Prop} {a:AV} {x:Value} (h:DV w π a x):RV β τ w π (jI a) x/\(jI a).iA U:=by
 cases a with
 |ref cs=>exact⟨RV.ref.2 h,trivial⟩
 |_=>exact⟨⟨h,λt D=>by cases D⟩,trivial⟩
theorem Gz:∀{args:List AV} {i t:Nat} {v:SV},lk t (slotsOf i args)=some v->∃a,i<=t/\args[t-i]? =some a/\v=jI a
 |[],i,t,v,h=>by cases h
 |a::r,i,t,v,h=>by
  simp only[slotsOf,lk,lA]at h;split at h
  ·rename_i e;cases h;subst e;exact⟨a,ik _,adI,rfl⟩
  ·obtain⟨b,M,L,D⟩:=Gz h
   refine⟨b,ado,?_,D⟩
   rw[show t-i=(t-(i+1))+1 by omega]
   simpa using L
end
section
variable{P:Program} {nt:Nat} {n0:gV} {w0:World} {π0:Nat->Nat->Prop} {U:Nat->Prop} {s:S} {a:Act} {w:World} {β:Nat->Nat} {τ:Nat->Value} {π:Nat->Nat->Prop}
section
variable {av:AV} {q:Option Nat}
def oL(D:Array Value):ResultVar->Sem Value
 | .tmp t=>pure (D.getD t undef)
 | .cell a t=>do loadVar t (<-asAddr (D.getD a undef))
theorem Q9(R:Rel P nt n0 w0 π0 U s a w β τ π) {rv:ResultVar} {cr:gu} (hc:I4 P rv=some cr) (h:KO s cr=some (av,q)):
  ∃v,(oL a.tmps rv).run P w=.ok v w/\DV w π av v/\(∀t,q=some t->v=τ t):=by
 cases rv with
 |tmp t=>
  cases hc;simp only[KO]at h
  split at h<;>try(cases h;done)
  rename_i a' q' V;cases h;obtain⟨⟨x,O,L⟩,_⟩:=R.slots t _ V
  exact⟨x,by simp[oL,O],L.1,L.2⟩
 |cell Z t=>
  simp only[I4,eg]at hc;obtain⟨sz,aa,rfl⟩:=hc;simp only[KO]at h
  split at h<;>try(cases h;done)
  rename_i b off V
  split at h<;>try(cases h;done)
  rename_i bx hb
  split at h<;>try(cases h;done)
  rename_i a' hp;cases h
  have ac:bF (Pure P) 0 (.ld (.t Z) sz) (λv s'=>v=.dat av (match(generalizing:=false) sz with|none=>d9 off bx.tags|some _=>none)) s:=by
   simp only[bF,bX,V,ay,hb,hp]
   cases sz<;>rfl
  obtain⟨v,y,L,M,_,hK⟩:=R.load (X:=.tmp Z) rfl aa ac
  subst hK;obtain⟨⟨x,O,ab⟩,_⟩:=R.slots Z _ V
  have D:x=.pointer (some ⟨β b,off,none⟩):=ab
  have he:a.eval (.tmp Z)=x:=by simp[Act.eval,O]
  refine⟨y,?_,M.1,M.2⟩;rw[he,D]at L;simp[Instr.loadAt,Instr.sureAddr]at L;simp[oL,O,D,asAddr,L]
theorem MX(R:Rel P nt n0 w0 π0 U s a w β τ π):∀{L:List ResultVar} {D:List gu},L.mapM (I4 P)=some D->∀{as:List AV},l5 s D=some as->
  ∃vs,(L.mapM (oL a.tmps)).run P w=.ok vs w/\jR w π as vs
 |[],D,M,as,h=>by
  simp at M;subst M;simp[l5]at h;subst h
  exact⟨[],adI,.nil _ _⟩
 |rv::L,D,M,as,h=>by
  simp only[tl,pb,jp,vd,fx]at M;obtain⟨cr,V,ab,O,rfl⟩:=M;simp only[l5]at h
  split at h<;>try(cases h;done)
  rename_i p ac h1 h2;cases h
  obtain⟨v,hv,hd,_⟩:=Q9 R V (av:=p.1) (q:=p.2) h1
  obtain⟨vs,Z,aa⟩:=MX R O h2
  exact⟨v::vs,by simp[tl,hv,Z],.cons hd aa⟩
theorem ue(fn:Func) (D:Array Value):results fn D=(do let vs<-fn.results.mapM (oL D);pure (if h:vs.size=1 then vs[0]else .tuple vs)):=by
 unfold results
 congr 1
theorem uf(R:Rel P nt n0 w0 π0 U s a w β τ π) {fn:Func} {D:List gu} (hc:fn.results.toList.mapM (I4 P)=some D) (h:eI s D=some (av,q)):
  ∃v,(results fn a.tmps).run P w=.ok v w/\DV w π av v/\(∀t,q=some t->v=τ t):=by
 have go:∀vs:List Value,(fn.results.toList.mapM (oL a.tmps)).run P w=.ok vs w->(results fn a.tmps).run P w=.ok (if h:vs.length=1 then vs[0]else .tuple vs.toArray) w:=by
  intro vs Z
  have:(fn.results.mapM (oL a.tmps)).run P w=.ok vs.toArray w:=by
   have e:fn.results=fn.results.toList.toArray:=adI
   rw[e,List.mapM_toArray,Sem.run_map,Z];rfl
  rw[ue,ia,this];simp
 have ad:(∀r,D≠[r])->eI s D=(l5 s D).map λas=>(.dP as,none):=by
  intro L
  cases D with
  |nil=>rfl
  |cons r rs=>
   cases rs with
   |nil=>exact absurd rfl (L r)
   |cons r' rs=>rfl
 by_cases M:∃r,D=[r]
 ·obtain⟨r,rfl⟩:=M
  cases V:fn.results.toList with
  |nil=>rw[V]at hc;simp at hc
  |cons rv ab=>
   rw[V]at hc;simp only[tl,pb,jp,vd,fx]at hc;obtain⟨cr,ae,ak,O,he⟩:=hc;cases he
   have ac:ab=[]:=by
    cases ab with
    |nil=>rfl
    |cons x xs=>
     simp only[tl,pb,jp,vd,fx]at O;obtain⟨_,_,_,_,h⟩:=O;cases h
   subst ac;obtain⟨v,hv,hd,hq⟩:=Q9 R ae h;refine⟨v,?_,hd,hq⟩
   rw[go [v] (by rw[V];simp[hv])]
   simp
 ·have L:∀r,D≠[r]:=λr e=>M ⟨r,e⟩
  rw[ad L]at h;simp only[eg,Prod.mk.injEq]at h;obtain⟨as,has,rfl,rfl⟩:=h;obtain⟨vs,Z,aa⟩:=MX R hc has
  have ag:D.length=vs.length:=by
   have:∀{D:List gu} {as:List AV},l5 s D=some as->D.length=as.length:=by
    intro D
    induction D with
    |nil=>intro as h;simp[l5]at h;subst h;rfl
    |cons c D ih=>
     intro as h;simp only[l5]at h
     split at h<;>try(cases h;done)
     rename_i p al h1 h2;cases h;simp[ih h2]
   rw[this has,aa.1]
  refine⟨.tuple vs.toArray,?_,.dP as vs.toArray (by simpa using aa.1) (λi a v ha hv=>aa.2 i a v ha (by simpa using hv)),λt ht=>by cases ht⟩
  rw[go vs Z]
  have:¬vs.length=1:=by
   intro e;rw[<-ag]at e
   match D,e,L with
   |[r],_,L=>exact L r rfl
  rw[dif_neg this]
end
end
section
variable{P:Program}
section
variable {U:Nat->Prop} {a:Act} {cf:bJ} {f:FuncId} {fr:Option Nat} {mo:Bool} {nt:Nat} {r:AV} {s:S} {w w':World} {β:Nat->Nat} {π π':Nat->Nat->Prop} {τ:Nat->Value}
theorem sG{V:Bool} (D:qE V P f=some cf):∃(fn:Func) (c:Code) (cc:aS),P.funcs[f]? =some fn/\fn.body=some c/\fn.results.toList.mapM (I4 P)=some cf.res/\bW V P c=some cc/\cf.code=cc/\cf.nt=fn.ntmps/\cc.fits fn.ntmps=true/\bZ P f=true:=by
 unfold qE at D
 split at D<;>try(cases D;done)
 rename_i fn M
 split at D<;>try(cases D;done)
 rename_i c Z hbody R
 split at D<;>try(cases D;done)
 rename_i cc O
 split at D<;>try(cases D;done)
 rename_i L;cases D;simp only[ed]at L;exact⟨fn,c,cc,M,hbody,R,O,rfl,rfl,L.1,L.2⟩
theorem oM{c:Code} {Q:Exit->Act->World->Prop} (h:c.wpIn (FW none) 0 P Q a w):c.wpIn Fence.wide 0 P Q a w:=h
theorem eW{nt:Nat} {n0:gV} {w:World} {π:Nat->Nat->Prop} {s:S} {a:Act} {fn:Func} {R:Ending->World->Prop}
  (L:∀w',eF P nt n0 w π s a w'->∃v,(results fn a.tmps).run P w'=.ok v w'/\R (.returned v) w'):
  ∀(O:List Nat) (w':World),O.Nodup->(∀D∈O,n0.n<=D/\w'.heap[D]? =some (.deferred (some [])))->eF P nt n0 w π s a w'->w.heap.size<=n0.n->LeavesInM Fence.wide 0 P fn a.tmps R (O.map Tk) .returning w'
 |[],w',_,_,R',_=>L w' R'
 |D::O,w',M,hD,R',hn=>by
  obtain⟨h1,Z⟩:=hD D nb;simp only[yi]at M
  refine⟨adI,.inl ⟨D,_,rfl,run_takeDeferred Z,?_⟩⟩
  refine eW L O _ M.2 (λD' V=>?_) ((R'.putObj Z rfl rfl).rew (R'.below.putObj (lh hn h1) h1 _) R'.gG (λb o hb=>(kS Z rfl rfl _).trans (R'.kept b o hb))) hn
  obtain⟨g1,g2⟩:=hD D' (lw _ V)
  exact⟨g1,(ui (λe=>M.1 (by rw[<-e];exact V))).trans g2⟩
theorem ZU(hm:P.follows .mixedOrders=true) (an:qE mo P f=some cf) {args:List AV} (hn:args.length<=cf.nt) (h:aw (Pure P) cf.code (fin cf.res r fr) (Q8 args)):F6 P f args r fr:=by
 obtain⟨fn,c,cc,ao,hbody,am,ae,ec,en,ad,Z⟩:=sG an;rw[ec]at h;rw[en]at hn
 refine⟨Z,λw π vs V hd=>?_⟩
 have ar:=hd.1
 have R:eF P fn.ntmps (gV.top w) w π (Q8 args) {tmps:=vs.toArray++Array.replicate (fn.ntmps-vs.toArray.size) undef,defers:=[]} w:=by
  refine⟨ik 4,id,λ_=>undef,π,λn=>n<4,λ_ h=>h,?_⟩
  refine{size:=?_,slots:=?_,boxes:=λb x h=>(by cases h),inj:=λb b' x x' h=>(by cases h),live:=λq e h=>(by cases h),dr:=λq q' e e' B h=>(by cases h),dw:=λq e b x h=>(by cases h),below:=.refl _ _,gG:=ik _,eZ:=V,eU:=λ_ _ h=>h,dz:=λ_ _ h=>.inl h,mJ:=λ_ _=>rfl,jH:=λ_ h=>h,kept:=λ_ _ _=>rfl}
  ·simp;omega
  ·intro t v hv
   obtain⟨av,_,D,rfl⟩:=Gz hv;simp only[QP]at D;obtain⟨x,hx,ac⟩:=hd.get D
   refine⟨⟨x,?_,(nA (U:=λn=>n<4) ac).1⟩,(nA (β:=id) (τ:=λ_=>undef) ac).2⟩
   have ak:t<vs.length:=(eo.1 hx).1
   simp[WP,ak]
   simpa using(eo.1 hx).2
 refine Ix.1 (EQ (n:=0) (F:=Fence.wide) ao hbody trivial (xo (oM (pL hm c cc ae ad _ (λ_=>False) ⟨#[],[]⟩ (λ_ h=>h.elim) none 0 w _ _ _ _ ⟨R,λl h=>by(cases h),⟨[],rfl,.nil,adI⟩,λ_ h=>h.elim⟩ h)) ?_))
 have O:∀(s:S) (a':Act) (w':World),(aj (eI s cf.res) λp=>p.1=r/\MW fr p.2 s.live)->eF P fn.ntmps (gV.top w) w π s a' w'->
   ∃v,(results fn a'.tmps).run P w'=.ok v w'/\∃u π',Ending.returned v=.returned u/\Below w.heap.size w w'/\(∀b o,π b o->π' b o)/\(∀b o,π' b o->π b o\/w.heap.size<=b)/\
    (∀b o,π' b o->b<w'.heap.size)/\DV w' π' r u/\∀t,fr=some t->Jk P w' π' (λB=>w.heap.size<=B) t u:=by
  rintro s a' w' hq ⟨_,β,τ,π',U,hU,R'⟩
  obtain⟨⟨av,q⟩,hp,D,M⟩:=ah hq;simp only at D M;subst D;obtain⟨v,hv,al,ag⟩:=uf R' am hp
  refine⟨v,hv,v,π',rfl,R'.below.below (λ_ h=>h),R'.eU,λb o h=>(R'.dz b o h).imp id (λh=>h.elim id (λh=>h.elim)),R'.eZ,al,λt ht=>?_⟩
  subst ht;simp only[MW]at M
  cases q with
  |none=>exact M.elim
  |some q=>
   rw[ag q rfl]
   exact(R'.live q t M).2.weaken (λB h=>h.elim id (λh=>h.elim))
 rintro e a' w' ⟨s,hq,R',_,⟨Ds,L,aa,ab⟩,_⟩
 have L:a'.defers=Ds.map Tk:=by simpa using L
 cases e with
 |normal=>show LeavesInM _ _ _ _ _ _ a'.defers _ _;rw[L];exact eW (O s a' · hq) Ds w' aa ab R' (ik _)
 |ret=>show LeavesInM _ _ _ _ _ _ a'.defers _ _;rw[L];exact eW (O s a' · hq) Ds w' aa ab R' (ik _)
 |_=>exact hq.elim
theorem oS{w:World} {π:Nat->Nat->Prop}:∀{args:List (Option AV)} {Bs:List Nat} {vs:List Value},gb w π args Bs vs->∀{i k t:Nat} {v:SV},lk t (cw i k args)=some v->
  ∃x,i<=t/\vs[t-i]? =some x/\((∃a,v=jI a/\DV w π a x)\/∃j B,Bs[j]? =some B/\((v=.ptr (k+j) 0/\x=.pointer (some ⟨B,0,none⟩))\/(v=.pt 0 [(k+j,0)]/\x=.agg #[.pointer (some ⟨B,0,none⟩)])))
 |[],Bs,vs,L,i,k,t,v,h=>by cases h
 |some a::args,Bs,[],L,i,k,t,v,h=>by cases Bs<;>cases a<;>exact L.elim
 |some a::args,Bs,x::vs,L,i,k,t,v,h=>by
  rcases pF L with⟨rfl,B,aa,rfl,V,D⟩|⟨ha,D⟩
  ·simp only[cw,lk,lA]at h
   split at h
   ·rename_i e;cases h;subst e
    exact⟨x,ik _,adI,.inr ⟨0,B,rfl,.inr ⟨rfl,V⟩⟩⟩
   ·obtain⟨y,Z,R,M⟩:=oS D h
    refine⟨y,ado,?_,?_⟩
    ·rw[show t-i=(t-(i+1))+1 by omega];simpa using R
    ·rcases M with M|⟨j,B',hB,O⟩
     ·exact .inl M
     ·exact .inr ⟨j+1,B',by simpa using hB,by rw[show k+(j+1)=k+1+j by omega];exact O⟩
  have es:cw i k (some a::args)=(i,jI a)::cw (i+1) k args:=by cases a<;>first|rfl|exact absurd rfl ha
  rw[es]at h;simp only[lk,lA]at h;split at h
  ·rename_i e;cases h;subst e
   exact⟨x,ik _,adI,.inl ⟨a,rfl,D.1⟩⟩
  ·obtain⟨y,Z,R,M⟩:=oS D.2 h
   refine⟨y,ado,?_,M⟩
   rw[show t-i=(t-(i+1))+1 by omega];simpa using R
 |none::args,[],vs,L,i,k,t,v,h=>by cases vs<;>exact L.elim
 |none::args,B::Bs,[],L,i,k,t,v,h=>L.elim
 |none::args,B::Bs,x::vs,L,i,k,t,v,h=>by
  obtain⟨V,D⟩:=L;simp only[cw,lk,lA]at h;split at h
  ·rename_i e;cases h;subst e
   exact⟨x,ik _,adI,.inr ⟨0,B,rfl,.inl ⟨rfl,V⟩⟩⟩
  ·obtain⟨y,Z,R,M⟩:=oS D h
   refine⟨y,ado,?_,?_⟩
   ·rw[show t-i=(t-(i+1))+1 by omega];simpa using R
   ·rcases M with M|⟨j,B',hB,O⟩
    ·exact .inl M
    ·exact .inr ⟨j+1,B',by simpa using hB,by rw[show k+(j+1)=k+1+j by omega];exact O⟩
theorem ug:∀{css:List (List AV)} {k b:Nat} {x:bV},cj b (jO k css)=some x->∃cs,k<=b/\css[b-k]? =some cs/\x=⟨cs,[]⟩
 |[],k,b,x,h=>by cases h
 |cs::css,k,b,x,h=>by
  simp only[jO,cj,lA]at h;split at h
  ·rename_i e;cases h;subst e;exact⟨cs,ik _,adI,rfl⟩
  ·obtain⟨D,O,M,L⟩:=ug h
   refine⟨D,ado,?_,L⟩
   rw[show b-k=(b-(k+1))+1 by omega];simpa using M
theorem sH{w:World} {π:Nat->Nat->Prop}:∀{args:List (Option AV)} {Bs:List Nat} {vs:List Value},gb w π args Bs vs->args.length=vs.length
 |[],Bs,vs,h=>by cases Bs<;>cases vs<;>first|rfl|exact h.elim
 |some a::args,Bs,[],h=>by cases Bs<;>cases a<;>exact h.elim
 |some a::args,Bs,v::vs,h=>by
  rcases pF h with⟨_,_,_,_,_,D⟩|⟨_,_,D⟩<;>simp[sH D]
 |none::args,[],vs,h=>by cases vs<;>exact h.elim
 |none::args,B::Bs,[],h=>h.elim
 |none::args,B::Bs,v::vs,h=>by simp[sH h.2]
theorem yq:∀{l:List Nat},l.Nodup->∀(i j:Nat) (x:Nat),l[i]? =some x->l[j]? =some x->i=j
 |[],_,i,j,x,h,_=>by simp at h
 |a::l,M,i,j,x,L,D=>by
  rw[yi]at M
  cases i with
  |zero=>cases j with
   |zero=>rfl
   |succ j=>simp at L D;subst L;exact absurd (er D) M.1
  |succ i=>cases j with
   |zero=>simp at L D;subst D;exact absurd (er L) M.1
   |succ j=>rw[yq M.2 i j x (by simpa using L) (by simpa using D)]
theorem Bk{l:List (Nat×bV)} {w:World} {π:Nat->Nat->Prop} {β:Nat->Nat} (D:∀b x,cj b l=some x->rH (λ_=>undef) w π (β b) ⟨x.cells,[]⟩):
  ∀{css:List (List AV)} {Bs:List Nat} {k:Nat},css.length=Bs.length->(∀j B,Bs[j]? =some B->β (k+j)=B)->ja l k css->cY w π css Bs
 |[],[],k,_,_,_=>trivial
 |[],B::Bs,k,h,_,_=>by simp at h
 |cs::css,[],k,h,_,_=>by simp at h
 |cs::css,B::Bs,k,h,L,M=>by
  obtain⟨x,R,e⟩:=ah M.1
  refine⟨?_,Bk D (by simpa using h) (λj B' O=>by rw[show k+1+j=k+(j+1)by omega];exact L (j+1) B' (by simpa using O)) M.2⟩
  have:=D k x R
  rw[<-e,<-L 0 B rfl];exact this
theorem kI{w:World} {π:Nat->Nat->Prop}:∀{css:List (List AV)} {Bs:List Nat},cY w π css Bs->∀B∈Bs,∀o,¬π B o
 |[],[],_,B,hB=>by cases hB
 |[],_::_,h,_,_=>h.elim
 |_::_,[],h,_,_=>h.elim
 |cs::css,B'::Bs,h,B,hB=>by
  rcases nm.1 hB with rfl|hB
  ·obtain⟨_,_,_,_,_,_,D⟩:=h.1;exact D
  ·exact kI h.2 B hB
theorem Rel.MY{P:Program} {Bs:List Nat} {css D:List (List AV)} (R:Rel P nt (gV.i6 w Bs) w π U s a w' β τ π') (V:css.length=Bs.length) (h4:css.length<=4) (Z:D.length=css.length) (L:ja s.boxes 0 D):cY w' π' D Bs:=by
 refine Bk (β:=β) (λb x O=>(R.boxes b x O).2.2.1.t5) ado (λj B M=>?_) L
 have:j<Bs.length:=(eo.1 M).1
 rw[lc,R.mJ j ado]
 simp[gV.i6,M]
theorem Dh{l:List (Nat×bV)}:∀{css:List (List AV)} {k j:Nat},ja l k css->j<css.length->∃x,cj (k+j) l=some x
 |[],k,j,_,L=>by simp at L
 |cs::css,k,j,h,L=>by
  cases j with
  |zero=>obtain⟨x,D,_⟩:=ah h.1;exact⟨x,D⟩
  |succ j=>
   obtain⟨x,D⟩:=Dh h.2 (by simpa using L)
   exact⟨x,by rw[show k+(j+1)=k+1+j by omega];exact D⟩
theorem Rel.GA{P:Program} {Bs:List Nat} {css D:List (List AV)} (R:Rel P nt (gV.i6 w Bs) w π U s a w' β τ π') (ab:css.length=Bs.length) (h4:css.length<=4) (hl:D.length=css.length) (O:ja s.boxes 0 D) {q e:Nat} (Z:d9 q s.live=some e):Jk P w' π' (λB=>w.heap.size<=B) e (τ q):=by
 have ht:=(R.live q e Z).2
 rcases ht with h|⟨B,len,cap,M,i,hv,V,L⟩
 ·exact .inl h
 ·refine .inr ⟨B,len,cap,M,i,hv,?_,L⟩
  rcases V with h|h
  ·exact h
  ·exfalso
   obtain⟨j,hj⟩:=nf.1 (show B∈Bs from h)
   have aa:j<Bs.length:=(eo.1 hj).1
   obtain⟨x,hx⟩:=Dh O (j:=j) ado
   rw[lc]at hx;refine R.dw q e j x Z hx ?_
   rw[hv,R.mJ j ado]
   simp[gV.i6,jV,hj]
theorem MZ(hm:P.follows .mixedOrders=true) (a8:qE mo P f=some cf) {css D:List (List AV)} {args:List (Option AV)} (hn:args.length<=cf.nt) (hl:D.length=css.length) (h4:css.length<=4) (h:aw (Pure P) cf.code (Gy cf.res r fr D) (lZ css args)):wj P f css args r fr D:=by
 obtain⟨fn,c,cc,a9,hbody,a6,ao,ec,en,an,ad⟩:=sG a8;rw[ec]at h;rw[en]at hn
 refine⟨ad,hl,h4,λw π Bs vs ab ar a5 hd=>?_⟩
 have be:=sH hd
 obtain⟨am,ac⟩:=a5.get
 have hβ:∀(j B:Nat),Bs[j]? =some B->(gV.i6 w Bs).β j=B:=λj B hj=>by simp[gV.i6,hj]
 have R:eF P fn.ntmps (gV.i6 w Bs) w π (lZ css args) {tmps:=vs.toArray++Array.replicate (fn.ntmps-vs.toArray.size) undef,defers:=[]} w:=by
  refine⟨ik 4,(gV.i6 w Bs).β,λ_=>undef,π,λn=>n<4,λ_ h=>h,?_⟩
  have L:∀b x,cj b (lZ css args).boxes=some x->∃B cs,b<4/\Bs[b]? =some B/\(gV.i6 w Bs).β b=B/\x=⟨cs,[]⟩/\rH (λ_=>undef) w π B ⟨cs,[]⟩:=by
   intro b x hb;obtain⟨cs,_,h2,h3⟩:=ug hb;simp only[QP]at h2
   have bi:b<css.length:=(eo.1 h2).1
   have hB:Bs[b]? =some Bs[b]:=eh ado
   exact⟨_,cs,ado,hB,hβ _ _ hB,h3,ac b cs _ h2 hB⟩
  refine{size:=?_,slots:=?_,boxes:=?_,inj:=?_,live:=λq e h=>(by cases h),dr:=λq q' e e' B h=>(by cases h),dw:=λq e b x h=>(by cases h),below:=.refl _ _,gG:=ik _,eZ:=ab,eU:=λ_ _ h=>h,dz:=λ_ _ h=>.inl h,mJ:=λ_ _=>rfl,jH:=λ_ h=>h,kept:=λ_ _ _=>rfl}
  ·simp;omega
  ·intro t v hv
   obtain⟨x,_,hx,a2⟩:=oS hd hv;simp only[QP]at hx
   have a4:t<vs.length:=(eo.1 hx).1
   have M:(vs.toArray++Array.replicate (fn.ntmps-vs.toArray.size) undef)[t]? =some x:=by
    simp[WP,a4]
    simpa using(eo.1 hx).2
   rcases a2 with⟨a,rfl,ak⟩|⟨j,B,hB,⟨rfl,rfl⟩|⟨rfl,rfl⟩⟩
   ·exact⟨⟨x,M,(nA (U:=λn=>n<4) ak).1⟩,(nA (β:=id) (τ:=λ_=>undef) ak).2⟩
   ·refine⟨⟨_,M,?_⟩,?_⟩
    ·show Value.pointer (some ⟨B,0,none⟩)=.pointer (some ⟨(gV.i6 w Bs).β (0+j),0,none⟩)
     rw[lc,hβ j B hB]
    ·have:j<Bs.length:=(eo.1 hB).1
     show 0+j<4
     omega
   ·have hj:j<Bs.length:=(eo.1 hB).1
    refine⟨⟨_,M,?_⟩,λp hp=>?_⟩
    ·show Value.agg #[.pointer (some ⟨B,0,none⟩)]=.agg #[.pointer (some ⟨(gV.i6 w Bs).β (0+j),0,none⟩)]
     rw[lc,hβ j B hB]
    ·simp at hp;subst hp
     show j<4
     omega
  ·intro b x hb
   obtain⟨B,cs,h1,h2,h3,rfl,h5⟩:=L b x hb
   exact⟨h1,.inr ⟨h1,by rw[h3];exact er h2⟩,by rw[h3];exact h5,λo q hq=>by cases hq⟩
  ·intro b b' x x' hb a3 e
   obtain⟨B,_,_,h2,h3,_,_⟩:=L b x hb;obtain⟨B',_,_,ba,a7,_,_⟩:=L b' x' a3;rw[h3,a7]at e;subst e;exact yq ar b b' B h2 ba
 refine Ix.1 (EQ (n:=0) (F:=Fence.wide) a9 hbody trivial (xo (oM (pL hm c cc ao an _ (λ_=>False) ⟨#[],[]⟩ (λ_ h=>h.elim) none 0 w _ _ _ _ ⟨R,λl h=>by(cases h),⟨[],rfl,.nil,adI⟩,λ_ h=>h.elim⟩ h)) ?_))
 have aa:∀(s:S) (a':Act) (w':World),(aj (eI s cf.res) λp=>p.1=r/\MW fr p.2 s.live/\ja s.boxes 0 D)->eF P fn.ntmps (gV.i6 w Bs) w π s a' w'->
   ∃v,(results fn a'.tmps).run P w'=.ok v w'/\∃u π',Ending.returned v=.returned u/\yb (gV.i6 w Bs) w w'/\(∀b o,π b o->π' b o)/\(∀b o,π' b o->π b o\/w.heap.size<=b)/\
    (∀b o,π' b o->b<w'.heap.size)/\cY w' π' D Bs/\DV w' π' r u/\∀t,fr=some t->Jk P w' π' (λB=>w.heap.size<=B) t u:=by
  rintro s a' w' hq ⟨_,β,τ,π',U,hU,R'⟩
  obtain⟨⟨av,q⟩,hp,ae,Z,O⟩:=ah hq;simp only at ae Z O;subst ae;obtain⟨v,hv,bd,au⟩:=uf R' a6 hp
  have hB:=R'.MY am h4 hl O
  refine⟨v,hv,v,π',rfl,R'.below,R'.eU,λb o h=>(R'.dz b o h).imp id (λk=>k.elim id (λk=>absurd h (kI hB b k o))),R'.eZ,?_,bd,λt ht=>?_⟩
  ·refine Bk (β:=β) (λb x hb=>(R'.boxes b x hb).2.2.1.t5) ado (λj B hj=>?_) O
   have:j<Bs.length:=(eo.1 hj).1
   rw[lc,R'.mJ j ado]
   exact hβ j B hj
  ·subst ht
   simp only[MW]at Z
   cases q with
   |none=>exact Z.elim
   |some q=>
    rw[au q rfl];exact R'.GA am h4 hl O Z
 rintro e a' w' ⟨s,hq,R',_,⟨Ds,V,ag,al⟩,_⟩
 have V:a'.defers=Ds.map Tk:=by simpa using V
 cases e with
 |normal=>show LeavesInM _ _ _ _ _ _ a'.defers _ _;rw[V];exact eW (aa s a' · hq) Ds w' ag al R' (ik _)
 |ret=>show LeavesInM _ _ _ _ _ _ a'.defers _ _;rw[V];exact eW (aa s a' · hq) Ds w' ag al R' (ik _)
 |_=>exact hq.elim
end
end
end Go.Eng
