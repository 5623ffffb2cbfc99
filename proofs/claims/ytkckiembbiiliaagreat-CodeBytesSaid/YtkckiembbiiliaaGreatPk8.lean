/- The engine and the library,part 8 of 21: what the proofs of this seat need of them. -/
import Derived.Test.YtkckiembbiiliaaGreatPk7
set_option linter.unnecessarySimpa false
set_option linter.unusedSimpArgs false
set_option linter.unusedVariables false
set_option linter.defProp false
set_option maxRecDepth 10000
set_option maxHeartbeats 4000000
namespace Go.Eng
open Go
open Go.RowKit (Below)
theorem Ik:∀{l:List (Nat×SV)} {t:Nat} {v:SV},lk t l=some v->(t,v)∈l
 |[],t,v,h=>by cases h
 |(m,u)::r,t,v,h=>by
  simp only[lk,j7]at h;split at h
  ·rename_i e;cases h;subst e;exact List.mem_cons_self ..
  ·exact List.mem_cons_of_mem _ (Ik h)
theorem uT:∀{l:List (Nat×bY)} {t:Nat} {v:bY},ct t l=some v->(t,v)∈l
 |[],t,v,h=>by cases h
 |(m,u)::r,t,v,h=>by
  simp only[ct,j7]at h;split at h
  ·rename_i e;cases h;subst e;exact List.mem_cons_self ..
  ·exact List.mem_cons_of_mem _ (uT h)
theorem pF:∀{l:List (Nat×Nat)} {t:Nat} {v:Nat},eK t l=some v->(t,v)∈l
 |[],t,v,h=>by cases h
 |(m,u)::r,t,v,h=>by
  simp only[eK,j7]at h;split at h
  ·rename_i e;cases h;subst e;exact List.mem_cons_self ..
  ·exact List.mem_cons_of_mem _ (pF h)
theorem xh{m:List (Nat×Nat)} {nx:Nat} {a:List (Nat×SV)}:∀{l:List (Nat×SV)},iZ m nx a l->∀t v,(t,v)∈l->∃u,lk t a=some u/\cR m nx u v
 |[],h,t,v,hm=>by cases hm
 |(t0,v0)::r,h,t,v,hm=>by
  rcases List.mem_cons.1 hm with e|e
  ·cases e;exact af h.1
  ·exact xh h.2 t v e
theorem tX{m:List (Nat×Nat)} {nx:Nat} {a:List (Nat×Nat)}:∀{l:List (Nat×Nat)},lP m nx a l->∀o q,(o,q)∈l->eK o a=some (CA m q)/\q<nx
 |[],h,t,v,hm=>by cases hm
 |(t0,v0)::r,h,t,v,hm=>by
  rcases List.mem_cons.1 hm with e|e
  ·cases e;exact h.1
  ·exact tX h.2 t v e
theorem lz{m:List (Nat×Nat)} {nx:Nat} {a:List (Nat×bY)}:∀{l:List (Nat×bY)},i4 m nx a l->∀b x,(b,x)∈l->∃y,ct b a=some y/\y.cells=x.cells/\lP m nx y.tags x.tags/\b<nx
 |[],h,t,v,hm=>by cases hm
 |(t0,v0)::r,h,t,v,hm=>by
  rcases List.mem_cons.1 hm with e|e
  ·cases e;obtain⟨y,h1,h2⟩:=af h.1;exact⟨y,h1,h2⟩
  ·exact lz h.2 t v e
theorem mU{m:List (Nat×Nat)} {nx:Nat} {a:List (Nat×Nat)}:∀{l:List (Nat×Nat)},jG m nx a l->∀q e,(q,e)∈l->eK (CA m q) a=some e/\q<nx
 |[],h,t,v,hm=>by cases hm
 |(t0,v0)::r,h,t,v,hm=>by
  rcases List.mem_cons.1 hm with e|e
  ·cases e;exact h.1
  ·exact mU h.2 t v e
theorem AP{α:Type} {f:α->Nat}:∀{l:List α},(l.map f).Nodup->∀x y,x∈l->y∈l->f x=f y->x=y
 |[],h,x,y,hx,hy,e=>by cases hx
 |a::l,h,x,y,hx,hy,e=>by
  simp only[List.map_cons,List.nodup_cons]at h
  rcases List.mem_cons.1 hx with kx|kx<;>rcases List.mem_cons.1 hy with ky|ky
  ·rw[kx,ky]
  ·exact absurd (by rw[<-kx,e];exact List.mem_map_of_mem ky) h.1
  ·exact absurd (by rw[<-ky,<-e];exact List.mem_map_of_mem kx) h.1
  ·exact AP h.2 x y kx ky e
section
variable{P:Program} {nt:Nat} {n0:gO} {w0:World} {π0:Nat->Nat->Prop} {s s1:S} {a:Act} {w:World}
def dJ(P:Program) (nt:Nat) (n0:gO) (w0:World) (π0:Nat->Nat->Prop) (s:S) (a:Act) (w:World):Prop:=
 4<=s.nx/\∃β τ π U,(∀n,U n->n<s.nx)/\Rel P nt n0 w0 π0 U s a w β τ π
theorem Rel.le{U:Nat->Prop} {β:Nat->Nat} {τ:Nat->Value} {π:Nat->Nat->Prop} (R:Rel P nt n0 w0 π0 U s a w β τ π) (h:Le s s1):dJ P nt n0 w0 π0 s1 a w:=by
 obtain⟨h0,m,h1,h2,h3,h4⟩:=h
 refine⟨h0,β,fun q=>τ (CA m q),π,fun n=>n<s1.nx,fun n h=>h,?_⟩
 refine{size:=R.size,slots:=?_,boxes:=?_,inj:=?_,live:=?_,bS:=?_,cK:=?_,below:=R.below,fu:=R.fu,ej:=R.ej,eo:=R.eo,cH:=R.cH,lQ:=R.lQ,jt:=fun k hk=>by show k<s1.nx;omega,kept:=R.kept}
 ·intro t v hv
  obtain⟨u,hu,hle⟩:=xh h1 t v (Ik hv)
  obtain⟨⟨x,hx,hr⟩,hU⟩:=R.slots t u hu
  cases u with
  |dat au qu=>
   cases v with
   |dat av qv=>
    cases qv with
    |none=>
     have e:au=av:=by cases qu<;>exact hle
     subst e
     exact⟨⟨x,hx,hr.1,fun t ht=>by cases ht⟩,trivial⟩
    |some q=>
     cases qu with
     |none=>exact hle.elim
     |some q0=>
      obtain⟨e,e2,hq⟩:=hle;subst e
      refine⟨⟨x,hx,hr.1,fun t ht=>?_⟩,hq⟩
      cases ht
      show x=τ (CA m q)
      rw[<-e2];exact hr.2 q0 rfl
   |_=>cases qu<;>exact hle.elim
  |ptr b o=>
   cases v with
   |ptr b' o'=>
    obtain⟨e1,e2,e3⟩:=hle;subst e1 e2;exact⟨⟨x,hx,hr⟩,e3⟩
   |_=>exact hle.elim
  |rp cs=>
   cases v with
   |rp cs'=>
    have e:cs=cs':=hle
    subst e;exact⟨⟨x,hx,hr⟩,trivial⟩
   |_=>exact hle.elim
  |undef=>
   cases v with
   |undef=>exact⟨⟨x,hx,hr⟩,trivial⟩
   |_=>exact hle.elim
  |vs b o n z=>
   cases v with
   |vs b' o' n' z'=>
    obtain⟨⟨e1,e2⟩,⟨e3,e4⟩,h4⟩:=hle;subst e1 e2 e3 e4;exact⟨⟨x,hx,hr⟩,h4⟩
   |_=>exact hle.elim
  |nD f as bs=>
   cases v with
   |nD f' as' bs'=>
    obtain⟨e1,e2,e3,h4⟩:=hle;subst e1 e2 e3;exact⟨⟨x,hx,hr⟩,h4⟩
   |_=>exact hle.elim
  |raw q n=>cases v<;>exact hle.elim
  |pt k ps=>
   cases v with
   |pt k' ps'=>
    obtain⟨e1,e2,h4⟩:=hle;subst e1 e2
    exact⟨⟨x,hx,by cases k<;>exact hr⟩,h4⟩
   |_=>exact hle.elim
 ·intro b x hb
  obtain⟨y,hy,hcs,htg,hlt⟩:=lz h2 b x (uT hb)
  obtain⟨_,hn,⟨cur,el,c1,c2,c3,c4,c5⟩,hq⟩:=R.boxes b y hy
  refine⟨hlt,hn,⟨cur,el,c1,by rw[<-hcs];exact c2,by rw[<-hcs];exact c3,fun o q ho=>?_,c5⟩,fun o q ho=>?_⟩
  ·exact c4 o _ (tX htg o q (pF ho)).1
  ·exact(tX htg o q (pF ho)).2
 ·intro b b' x x' hb hb' e
  obtain⟨y,hy,_⟩:=lz h2 b x (uT hb)
  obtain⟨y',hy',_⟩:=lz h2 b' x' (uT hb')
  exact R.inj b b' y y' hy hy' e
 ·intro q e hq
  obtain⟨h5,h6⟩:=mU h3 q e (pF hq)
  exact⟨h6,(R.live _ e h5).2⟩
 ·intro q q' e e' B hq hq' hB hB'
  have hm:=pF hq
  have hm':=pF hq'
  obtain⟨h5,_⟩:=mU h3 q e hm;obtain⟨h5',_⟩:=mU h3 q' e' hm'
  have:=R.bS _ _ e e' B h5 h5' hB hB'
  have:=AP h4 _ _ hm hm' this
  exact congrArg Prod.fst this
 ·intro q e b x hq hb
  obtain⟨h5,_⟩:=mU h3 q e (pF hq)
  obtain⟨y,hy,_⟩:=lz h2 b x (uT hb)
  exact R.cK _ e b y h5 hy
variable{U:Nat->Prop} {β:Nat->Nat} {τ:Nat->Value} {π:Nat->Nat->Prop}
theorem Rel.NX(R:Rel P nt n0 w0 π0 U s a w β τ π) {w1:World} (hb:sW n0 w1 w) (hn:n0.n<=w1.heap.size) (hk:∀b o,π0 b o->w.cell? ⟨b,o,none⟩=w1.cell? ⟨b,o,none⟩):Rel P nt n0 w1 π0 U s a w β τ π:={R with below:=hb,fu:=hn,kept:=hk}
theorem Rel.Lx(R:Rel P nt n0 w0 π0 U s a w β τ π):Rel P nt n0 w π0 U s a w β τ π:=R.NX (.refl _ _) (Nat.le_trans R.fu R.below.size) (fun _ _ _=>rfl)
theorem dJ.below(R:dJ P nt n0 w0 π0 s a w):sW n0 w0 w:=let ⟨_,_,_,_,_,_,R0⟩:=R;R0.below
theorem dJ.fu(R:dJ P nt n0 w0 π0 s a w):n0.n<=w0.heap.size:=let ⟨_,_,_,_,_,_,R0⟩:=R;R0.fu
theorem dJ.NX(R:dJ P nt n0 w0 π0 s a w) {w1:World} (hb:sW n0 w1 w) (hn:n0.n<=w1.heap.size) (hk:∀b o,π0 b o->w.cell? ⟨b,o,none⟩=w1.cell? ⟨b,o,none⟩):dJ P nt n0 w1 π0 s a w:=let ⟨h,β,τ,π,U,hU,R⟩:=R;⟨h,β,τ,π,U,hU,R.NX hb hn hk⟩
theorem dJ.kept(R:dJ P nt n0 w0 π0 s a w):∀b o,π0 b o->w.cell? ⟨b,o,none⟩=w0.cell? ⟨b,o,none⟩:=let ⟨_,_,_,_,_,_,R0⟩:=R;R0.kept
theorem dJ.back{π1:Nat->Nat->Prop} {w1:World} (R:dJ P nt n0 w1 π1 s a w) (h1:∀b o,π0 b o->π1 b o) (h2:∀b o,π1 b o->π0 b o\/n0.ok b) (hb:sW n0 w0 w) (hn:n0.n<=w0.heap.size) (hk:∀b o,π0 b o->w.cell? ⟨b,o,none⟩=w0.cell? ⟨b,o,none⟩):dJ P nt n0 w0 π0 s a w:=
 let ⟨h,β,τ,π,U,hU,R⟩:=R
 ⟨h,β,τ,π,U,hU,{R with below:=hb,fu:=hn,kept:=hk,eo:=fun b o h=>R.eo b o (h1 b o h),cH:=fun b o h=>(R.cH b o h).elim (h2 b o) .inr}⟩
theorem dJ.Lx(R:dJ P nt n0 w0 π0 s a w):dJ P nt n0 w π0 s a w:=let ⟨h,β,τ,π,U,hU,R⟩:=R;⟨h,β,τ,π,U,hU,R.Lx⟩
theorem dJ.Ly(R:dJ P nt n0 w0 π0 s a w) {a':Act} (h:a'.tmps=a.tmps):dJ P nt n0 w0 π0 s a' w:=
 let ⟨h4,β,τ,π,U,hU,R⟩:=R
 ⟨h4,β,τ,π,U,hU,{R with size:=by rw[h];exact R.size,slots:=fun t v hv=>by rw[h];exact R.slots t v hv}⟩
theorem dJ.old(R:dJ P nt n0 w0 π0 s a w) {w':World} (hb:Below w.heap.size w w'):dJ P nt n0 w0 π0 s a w':=
 let ⟨h,β,τ,π,U,hU,R⟩:=R
 ⟨h,β,τ,π,U,hU,R.frame (fun _ _=>rfl) (fun _ _=>rfl) (fun _ h=>h) (fun _ _ h=>h) (fun _ _ h=>.inl h) (fun b o h=>Nat.lt_of_lt_of_le (R.ej b o h) hb.size) hb⟩
theorem jT{w:World} {l:Nat} {o o':Obj} (h:w.heap[l]? =some o) (hc:o.isCells=false) (hc':o'.isCells=false) (x:Addr):(w.putObj l o').cell? x=w.cell? x:=by
 have hlt:=(Array.getElem?_eq_some_iff.1 h).1
 by_cases e:x.block=l
 ·unfold World.cell?
  rw[e,World.putObj_heap_same hlt,h]
  cases o<;>cases o'<;>first|(cases hc;done)|(cases hc';done)|rfl
 ·exact World.cell?_of_block (World.putObj_heap_other e)
theorem sW.putObj{n:gO} {w w':World} (h:sW n w w') {l:Nat} (hl:w.heap.size<=l) (hn:n.n<=l) (o:Obj):sW n w (w'.putObj l o):=
 ⟨h.os,h.tape,h.output,by simpa using h.size,fun k hk hx=>(World.putObj_heap_other (by omega)).trans (h.block k hk hx),fun k x hk hx=>(World.putObj_heap_other (by have:=(Array.getElem?_eq_some_iff.1 hk).1;omega)).trans (h.others k x hk hx)⟩
theorem dJ.putObj(R:dJ P nt n0 w0 π0 s a w) {l:Nat} {o o':Obj} (h:w.heap[l]? =some o) (hc:o.isCells=false) (hc':o'.isCells=false):dJ P nt n0 (w.putObj l o') π0 s a (w.putObj l o'):=by
 obtain⟨h4,β,τ,π,U,hU,R⟩:=R
 have hcl:∀b o,π b o->(w.putObj l o').cell? ⟨b,o,none⟩=w.cell? ⟨b,o,none⟩:=fun b x _=>jT h hc hc' _
 have hoth:∀(B:Nat) (cur:Array Value) (el:TypeId) (f:Nat×Nat),w.heap[B]? =some (.cells cur el f)->(w.putObj l o').heap[B]? =w.heap[B]?:=fun B cur el f hB=>World.putObj_heap_other (fun e=>by subst e;rw[h]at hB;cases hB;cases hc)
 refine⟨h4,β,τ,π,U,hU,{R with slots:=?_,boxes:=?_,live:=?_,below:=.refl _ _,fu:=?_,ej:=?_,kept:=fun _ _ _=>rfl}⟩
 ·intro t v hv
  obtain⟨⟨x,hx,hr⟩,hu⟩:=R.slots t v hv
  exact⟨⟨x,hx,RV.mono (fun _ _=>rfl) (fun _ _=>rfl) (fun _ _ h=>h) hcl hu hr⟩,hu⟩
 ·intro b x hb
  obtain⟨g1,g2,g3,g4⟩:=R.boxes b x hb
  have g3':=g3
  obtain⟨cur,el,hh,_,_,_,hn⟩:=g3'
  exact⟨g1,g2,g3.keep (fun _ _=>rfl) g4 (hoth _ _ _ _ hh) (fun _ _ h=>h) hcl hn,g4⟩
 ·intro q e hq
  obtain⟨g1,g2⟩:=R.live q e hq
  refine⟨g1,g2.keep (fun B hB=>?_) (fun B o _ h=>h)⟩
  rcases g2 with e|⟨B',len,cap,cur,i,e,_,hh,_⟩
  ·rw[e]at hB;cases hB
  ·rw[e]at hB;cases hB;exact hoth _ _ _ _ hh
 ·simpa using Nat.le_trans R.fu R.below.size
 ·intro b o hb;simpa using R.ej b o hb
theorem dJ.cut(R:dJ P nt n0 w0 π0 s a w) {wr:List Nat} {a1:Act} (hk:∀t,¬t∈wr->a.tmps[t]? =a1.tmps[t]?) (hs:a1.tmps.size=nt):dJ P nt n0 w0 π0 (tL wr s) a1 w:=by
 obtain⟨h4,β,τ,π,U,hU,R⟩:=R
 refine⟨h4,β,τ,π,U,hU,{R with size:=hs,slots:=fun t v hv=>?_}⟩
 obtain⟨h1,h2⟩:=uS hv;rw[<-hk t h1];exact R.slots t v h2
theorem xj:∀{ps:List Nat} {xs:List AV} {s:S} {t:Array Value},(∀p∈ps,p<nt)->(∀x∈xs,uE x=true)->Rel P nt n0 w0 π0 U s {tmps:=t,defers:=[]} w β τ π->
  Rel P nt n0 w0 π0 U (qx ps xs s) {tmps:=(ps.zip (xs.map uD)).foldl (fun t p=>t.setIfInBounds p.1 p.2) t,defers:=[]} w β τ π
 |[],xs,s,t,_,_,R=>by cases xs<;>exact R
 |p::ps,[],s,t,_,_,R=>R
 |p::ps,x::xs,s,t,hp,hx,R=>by
  have R1:=R.put (some p) (v:=.dat x none) (x:=uD x) (fun q hq=>by cases hq;exact hp p List.mem_cons_self) ⟨.flat (hx x List.mem_cons_self),fun t ht=>by cases ht⟩ trivial
  exact xj (ps:=ps) (xs:=xs) (fun q hq=>hp q (List.mem_cons_of_mem _ hq)) (fun y hy=>hx y (List.mem_cons_of_mem _ hy)) R1
theorem yS:∀{ps:List Nat} {xs:List AV} {s:S},(qx ps xs s).nx=s.nx
 |[],xs,s=>by cases xs<;>rfl
 |p::ps,[],s=>rfl
 |p::ps,x::xs,s=>by rw[qx,yS];rfl
theorem pX:∀{l:List (Nat×Value)} {t:Array Value} {k:Nat},(∀p∈l,p.1≠k)->(l.foldl (fun t p=>t.setIfInBounds p.1 p.2) t)[k]? =t[k]?
 |[],t,k,_=>rfl
 |p::l,t,k,h=>by
  rw[List.foldl_cons,pX (fun q hq=>h q (List.mem_cons_of_mem _ hq))]
  exact Array.getElem?_setIfInBounds_ne (h p List.mem_cons_self)
def AQ(r:Option Nat) (w:World):Prop:=∀l,r=some l->∃r₀,w.heap[l]? =some (.loop r₀)
def HC(D:Nat):Deferred:={target:=.collected D,args:=#[]}
def Marks(dd:List Deferred) (n0:gO) (a:Act) (w:World):Prop:=∃Ds:List Nat,a.defers=Ds.map HC++dd/\Ds.Nodup/\∀D∈Ds,n0.n<=D/\w.heap[D]? =some (.deferred (some []))
def tY(P:Program) (nt:Nat) (n0:gO) (w0:World) (π0:Nat->Nat->Prop) (r:Option Nat) (T:Nat->Prop) (a0:Act) (s:S) (a:Act) (w:World):Prop:=
 dJ P nt n0 w0 π0 s a w/\AQ r w/\Marks a0.defers n0 a w/\∀t,T t->a.tmps[t]? =a0.tmps[t]?
def wh(P:Program) (nt:Nat) (n0:gO) (w0:World) (π0:Nat->Nat->Prop) (r:Option Nat) (T:Nat->Prop) (a0:Act) (QA:Exit->S->Prop) (e:Exit) (a:Act) (w:World):Prop:=∃s,QA e s/\tY P nt n0 w0 π0 r T a0 s a w
theorem dJ.down(R:dJ P nt n0 w0 π0 s a w) {F:S->Prop} (h:Eng.down F s):∃s',F s'/\dJ P nt n0 w0 π0 s' a w:=by
 obtain⟨s1,⟨hle,hF⟩|hF⟩:=h
 ·obtain⟨_,β,τ,π,U,hU,R⟩:=R
  rcases hF with hF|⟨ids,hok,hF⟩
  ·exact⟨s1,hF,R.le hle⟩
  ·obtain⟨css,hcs,hF⟩:=af hF
   simp only[Bool.and_eq_true]at hok;obtain⟨h4,β',τ',π',U',hU',R'⟩:=R.le hle
   obtain⟨π2,_,R2,_⟩:=R'.rY (d7 hok.1) hok.2 hcs
   exact⟨_,hF,by rw[rR];exact h4,β',τ',π2,U',by rw[rR];exact hU',R2⟩
 ·exact⟨s,hF,R⟩
def yT(L:List (Nat×Obj)) (w:World):Prop:=∀p∈L,w.heap[p.1]? =some p.2
theorem yT.others{L:List (Nat×Obj)} {w w':World} (h:yT L w) (hc:∀p∈L,p.2.isCells=false) (ho:∀(k:Nat) (o:Obj),w.heap[k]? =some o->o.isCells=false->w'.heap[k]? =some o):yT L w':=
 fun p hp=>ho _ _ (h p hp) (hc p hp)
theorem yT.putObj{L:List (Nat×Obj)} {w:World} (h:yT L w) {l:Nat} (hl:∀p∈L,p.1≠l) (o:Obj):yT L (w.putObj l o):=
 fun p hp=>(World.putObj_heap_other (hl p hp)).trans (h p hp)
theorem ja{w w':World} (h:Below w.heap.size w w') (k:Nat) (o:Obj) (hk:w.heap[k]? =some o):w'.heap[k]? =some o:=(h.block k (Array.getElem?_eq_some_iff.1 hk).1).trans hk
theorem AQ.others{r:Option Nat} {w w':World} (h:AQ r w) (ho:∀(k:Nat) (o:Obj),w.heap[k]? =some o->o.isCells=false->w'.heap[k]? =some o):AQ r w':=
 fun l hl=>let ⟨r₀,hr⟩:=h l hl;⟨r₀,ho _ _ hr rfl⟩
theorem Marks.others{dd:List Deferred} {n0:gO} {a a':Act} {w w':World} (h:Marks dd n0 a w) (ha:a'.defers=a.defers) (ho:∀(k:Nat) (o:Obj),w.heap[k]? =some o->o.isCells=false->w'.heap[k]? =some o):Marks dd n0 a' w':=
 let ⟨Ds,h1,h2,h3⟩:=h;⟨Ds,ha.trans h1,h2,fun D hD=>⟨(h3 D hD).1,ho _ _ (h3 D hD).2 rfl⟩⟩
theorem Gw{P:Program} {r:Option Nat} {w:World} (hr:AQ r w) (fn:FuncId) (tmps:Array Value) (ps:Array Tmp) (as bd:Code):
  ∃(l:Nat) (Ds:List Nat) (W1:World) (dd:Nat),(Instr.enterLoop fn tmps ps as bd r).run P w=.ok (l,Ds.map HC) W1/\w.heap.size<=l/\
   W1.heap[l]? =some (.loop {state:=.ready,pending:=none,fn,tmps,params:=ps,assign:=as,body:=bd,defers:=dd})/\Below w.heap.size w W1/\Ds.Nodup/\
   ∀D∈Ds,w.heap.size<=D/\D≠l/\W1.heap[D]? =some (.deferred (some [])):=by
 cases r with
 |none=>
  refine⟨w.heap.size+1,[w.heap.size],_,w.heap.size,run_enterLoop_outer fn tmps ps as bd,by omega,?_,?_,by simp,?_⟩
  ·have:=World.alloc_heap_new (w.alloc (.deferred (some []))) (.loop {state:=.ready,pending:=none,fn,tmps,params:=ps,assign:=as,body:=bd,defers:=w.heap.size})
   rwa[World.size_alloc]at this
  ·exact(((Below.refl _ w).alloc (Nat.le_refl _) _).alloc (by simp) _)
  ·intro D hD
   simp only[List.mem_singleton]at hD;subst hD
   exact⟨Nat.le_refl _,by omega,(Below.heap_alloc _ _ _ (by simp)).trans (World.alloc_heap_new w _)⟩
 |some l₀=>
  obtain⟨r₀,h⟩:=hr l₀ rfl
  exact⟨w.heap.size,[],_,r₀.defers,run_enterLoop_inner h fn tmps ps as bd,Nat.le_refl _,World.alloc_heap_new w _,(Below.refl _ w).alloc (Nat.le_refl _) _,by simp,by simp⟩
theorem DV.OB{π:Nat->Nat->Prop} {gf:Nat} {caps:List AV} {v:Value} (h:DV w π (.fn (.func gf) [] caps) v):∃us:Array Value,v=.func (.func gf) #[] us/\jr w π caps us.toList:=by
 cases h with
 |fn f as vs bs us h1 h2 h3 h4=>
  have:vs=#[]:=by simpa using h1.symm
  subst this
  exact⟨us,rfl,by simpa using h2,fun i a v ha hv=>h4 i a v ha (by simpa using hv)⟩
section
variable{nt:Nat} {n0:gO} {π0:Nat->Nat->Prop} {T:Nat->Prop} {a0:Act} {r:Option Nat} {n:Nat} {QA:Exit->S->Prop}
theorem Ev{g:Operand} {ps:Array Tmp} {as bd:Code} {g':bE} {ca cb:bn} {wr:List Nat} (hg:cn g=some g') (hps:∀t∈ps.toList,t<nt/\t∈wr) (hwa:∀t∈ca.writes,t∈wr) (hwb:∀t∈cb.writes,t∈wr)
  (ihA:∀(π0:Nat->Nat->Prop) (T:Nat->Prop) (a0:Act),(∀t,T t->¬t∈ca.writes)->∀(r:Option Nat) (n:Nat) (w0:World) (QA:Exit->S->Prop) (s:S) (a:Act) (w:World),tY P nt n0 w0 π0 r T a0 s a w->aw (Pure P) ca QA s->as.wpIn (FW r) n P (wh P nt n0 w0 π0 r T a0 QA) a w)
  (ihB:∀(π0:Nat->Nat->Prop) (T:Nat->Prop) (a0:Act),(∀t,T t->¬t∈cb.writes)->∀(r:Option Nat) (n:Nat) (w0:World) (QA:Exit->S->Prop) (s:S) (a:Act) (w:World),tY P nt n0 w0 π0 r T a0 s a w->aw (Pure P) cb QA s->bd.wpIn (FW r) n P (wh P nt n0 w0 π0 r T a0 QA) a w)
  (R:tY P nt n0 w0 π0 r T a0 s a w) (h:aw (Pure P) (.Am g' ps.toList wr ca cb) QA s):(Code.rangeFunc g ps as bd).wpIn (FW r) n P (wh P nt n0 w0 π0 r T a0 QA) a w:=by
 simp only[aw]at h;obtain⟨gv,hgv,xs,hit,hlen,F,hF0,hFg,hround,hdone⟩:=af h;clear h;obtain⟨RN,RL,⟨Ds1,hm1,hm2,hm3⟩,RK⟩:=R
 have hsize:a.tmps.size=nt:=let ⟨_,_,_,_,_,_,R⟩:=RN;R.size
 obtain⟨gf,caps,rfl,hcall,hflat,hiter⟩:=hit;obtain⟨s0,hs0,RN0⟩:=RN.down hF0
 obtain⟨π1,us,hus,husd,hπ0,hπ1,hπl,RN1⟩:∃(π1:Nat->Nat->Prop) (us:Array Value),a.eval g=.func (.func gf) #[] us/\jr w π1 caps us.toList/\(∀b o,π0 b o->π1 b o)/\(∀b o,π1 b o->π0 b o\/n0.ok b)/\(∀b o,π1 b o->b<w.heap.size)/\dJ P nt n0 w π1 s0 a w:=by
  obtain⟨h4,β,τ,π,U,hU,R⟩:=RN0
  obtain⟨us,h1,h2⟩:=DV.OB (R.aQ hg (hFg 0 s0 hs0))
  exact⟨π,us,h1,h2,R.eo,R.cH,R.ej,h4,β,τ,π,U,hU,{R with below:=.refl _ _,fu:=Nat.le_trans R.fu R.below.size,kept:=fun _ _ _=>rfl,eo:=fun _ _ h=>h,cH:=fun _ _ h=>.inl h}⟩
 refine wpIn_rangeFunc ?_;intro fn _
 obtain⟨l,Ds0,W1,dd,hent,hl,hrec1,hb1,hnd0,hDs0⟩:=Gw (P:=P) RL fn a.tmps ps as bd
 obtain⟨rec,hrec⟩:∃rec:LoopState->Option Code->Loop,rec=fun st pe=>{state:=st,pending:=pe,fn,tmps:=a.tmps,params:=ps,assign:=as,body:=bd,defers:=dd}:=⟨_,rfl⟩
 have hrec1:W1.heap[l]? =some (.loop (rec .ready none)):=by rw[hrec];exact hrec1
 -- what lies pinned
 obtain⟨L,hL⟩:∃L:List (Nat×Obj),L=(Ds0++Ds1).map (fun D=>(D,Obj.deferred (some [])))++(match r with|some l₀=>(match w.heap[l₀]? with|some o=>[(l₀,o)]|none=>[])|none=>[]):=⟨_,rfl⟩
 have hLc:∀p∈L,p.2.isCells=false:=by
  intro p hp;rw[hL,List.mem_append]at hp
  rcases hp with hp|hp
  ·obtain⟨D,_,rfl⟩:=List.mem_map.1 hp;rfl
  ·cases r with
   |none=>cases hp
   |some l₀=>
    obtain⟨r₀,hr⟩:=RL l₀ rfl;simp only[hr,List.mem_singleton]at hp;subst hp;rfl
 have hLl:∀p∈L,p.1≠l:=by
  intro p hp;rw[hL,List.mem_append]at hp
  rcases hp with hp|hp
  ·obtain⟨D,hD,rfl⟩:=List.mem_map.1 hp
   rcases List.mem_append.1 hD with hD|hD
   ·exact(hDs0 D hD).2.1
   ·have:=(Array.getElem?_eq_some_iff.1 (hm3 D hD).2).1
    simp only;omega
  ·cases r with
   |none=>cases hp
   |some l₀=>
    obtain⟨r₀,hr⟩:=RL l₀ rfl;simp only[hr,List.mem_singleton]at hp;subst hp
    have:=(Array.getElem?_eq_some_iff.1 hr).1
    simp only;omega
 have hL1:yT L W1:=by
  intro p hp;rw[hL,List.mem_append]at hp
  rcases hp with hp|hp
  ·obtain⟨D,hD,rfl⟩:=List.mem_map.1 hp
   rcases List.mem_append.1 hD with hD|hD
   ·exact(hDs0 D hD).2.2
   ·exact ja hb1 _ _ (hm3 D hD).2
  ·cases r with
   |none=>cases hp
   |some l₀=>
    obtain⟨r₀,hr⟩:=RL l₀ rfl;simp only[hr,List.mem_singleton]at hp;subst hp;exact ja hb1 _ _ hr
 have hLloop:∀W,yT L W->AQ r W:=by
  intro W hW l₀ e;subst e;obtain⟨r₀,hr⟩:=RL l₀ rfl
  exact⟨r₀,hW (l₀,.loop r₀) (by rw[hL];simp[hr])⟩
 have hLmarks:∀W,yT L W->Marks a0.defers n0 {a with defers:=Ds0.map HC++a.defers} W:=by
  intro W hW
  refine⟨Ds0++Ds1,by simp[hm1],?_,fun D hD=>⟨?_,hW (D,_) (by rw[hL];exact List.mem_append_left _ (List.mem_map.2 ⟨D,hD,rfl⟩))⟩⟩
  ·refine List.nodup_append.2 ⟨hnd0,hm2,fun x hx y hy e=>?_⟩
   subst e
   have h1:=(hDs0 x hx).1
   have h2:=(Array.getElem?_eq_some_iff.1 (hm3 x hy).2).1
   omega
  ·rcases List.mem_append.1 hD with hD|hD
   ·exact Nat.le_trans (Nat.le_trans RN.fu RN.below.size) (hDs0 D hD).1
   ·exact(hm3 D hD).1
 have hl0:w0.heap.size<=l:=Nat.le_trans RN.below.size hl
 have hln:n0.n<=l:=Nat.le_trans RN.fu hl0
 have home:∀(s':S) (W2:World),dJ P nt n0 w π1 s' a W2->∀{o:Loop},W2.heap[l]? =some (.loop o)->∀(o':Loop),dJ P nt n0 w0 π0 s' a (W2.putObj l (.loop o')):=by
  intro s' W2 R' o ho o'
  refine(R'.putObj ho rfl rfl).back hπ0 hπ1 ((RN.below.trans R'.below).putObj hl0 hln _) RN.fu fun b x hb=>?_
  rw[jT ho rfl rfl,R'.kept b x (hπ0 b x hb)];exact RN.kept b x hb
 refine⟨l,Ds0.map HC,W1,{target:=.fn (.func gf) us,args:=#[.func (.yield l) #[] #[]]},W1,gf,#[.func (.yield l) #[] #[]]++us,W1,hent,?_,fun _ _=>trivial,?_,fun h=>by simp[FW,Fence.wide]at h,?_⟩
 ·simp only[resolve,hus];simp[go_sem]
 ·simp[invoke,go_sem,fh hcall]
 refine yM.2 ?_
 have:=hiter l
  (fun i W=>(∃s',F i s'/\dJ P nt n0 w π1 s' a W)/\yT L W/\W.heap[l]? =some (.loop (rec .ready none)))
  (fun W=>∃c s',((c=.ret/\QA .ret s')\/∃id,c=.exit id/\QA (.exit id) s')/\dJ P nt n0 w π1 s' a W/\yT L W/\W.heap[l]? =some (.loop (rec .done (some c))))
  W1 π1 us.toList (fun b o h=>Nat.lt_of_lt_of_le (hπl b o h) hb1.size) (husd.mono (fun _ _ h=>h) (fun b o h=>Below.rT hb1 (hπl b o h))) ?_ ?_ ?_ ?_ ⟨⟨s0,hs0,RN1.old hb1⟩,hL1,hrec1⟩
 ·refine(by simpa using this:Calls P gf (#[.func (.yield l) #[] #[]]++us) W1 _).mono ?_
  rintro e W2 ⟨⟨v,rfl⟩,⟨⟨s',hs',R'⟩,hp,hr⟩|⟨c,s',hq,R',hp,hr⟩⟩
  ·refine⟨none,_,by have:=run_endLoop (P:=P) hr (by rw[hrec];simp);rw[hrec]at this;exact this,s',hdone s' hs',?_⟩
   have hp2:=hp.putObj hLl (.loop {rec .ready none with state:=.exhausted})
   rw[hrec]at hp2;exact⟨(home _ _ R' hr _).Ly rfl,hLloop _ hp2,hLmarks _ hp2,RK⟩
  ·refine⟨some c,_,by have:=run_endLoop (P:=P) hr (by rw[hrec];simp);rw[hrec]at this;exact this,?_⟩
   have hp2:=hp.putObj hLl (.loop {rec .done (some c)with state:=.exhausted})
   rw[hrec]at hp2
   have RT:tY P nt n0 w0 π0 r T a0 s' {a with defers:=Ds0.map HC++a.defers} (W2.putObj l (.loop {rec .done (some c)with state:=.exhausted})):=by
    rw[hrec];exact⟨(home _ _ R' hr _).Ly rfl,hLloop _ hp2,hLmarks _ hp2,RK⟩
   rw[hrec]at RT
   rcases hq with⟨rfl,hq⟩|⟨id,rfl,hq⟩
   ·exact wpIn_ret ⟨s',hq,RT⟩
   ·exact wpIn_exit ⟨s',hq,RT⟩
 ·rintro i W ⟨⟨s',hs',R'⟩,_,_⟩ b o hb
  rw[R'.kept b o hb];exact(Below.rT hb1 (hπl b o hb)).symm
 ·rintro i W W' ⟨⟨s',hs',R'⟩,hp,hr⟩ hb
  exact⟨⟨s',hs',R'.old hb⟩,hp.others hLc (fun k o hk _=>ja hb k o hk),ja hb _ _ hr⟩
 ·rintro W W' ⟨c,s',hq,R',hp,hr⟩ hb
  exact⟨c,s',hq,R'.old hb,hp.others hLc (fun k o hk _=>ja hb k o hk),ja hb _ _ hr⟩
 ·rintro m i x W hx ⟨⟨s',hs',R'⟩,hp,hr⟩
  have hxl:=hlen x (List.mem_of_getElem? hx)
  have hy:=run_yield (P:=P) (args:=(x.map uD).toArray) hr (by rw[hrec];simpa using hxl)
  rw[hrec]at hy;refine⟨fn,_,as,bd,hy,roundIn_of_wpIn trivial ?_⟩
  have etm:(ps.zip (x.map uD).toArray).foldl (fun tmps p=>tmps.setIfInBounds p.1 p.2) a.tmps=(ps.toList.zip (x.map uD)).foldl (fun t p=>t.setIfInBounds p.1 p.2) a.tmps:=by
   rw[<-Array.foldl_toList];simp[Array.toList_zip]
  have RP:dJ P nt n0 W π1 (qx ps.toList x s') {tmps:=(ps.toList.zip (x.map uD)).foldl (fun t p=>t.setIfInBounds p.1 p.2) a.tmps,defers:=[]} W:=by
   obtain⟨h4,β,τ,π,U,hU,R2⟩:=(R'.Ly (a':={tmps:=a.tmps,defers:=[]}) rfl).Lx
   refine⟨by rw[yS];exact h4,β,τ,π,U,fun k hk=>by rw[yS];exact hU k hk,?_⟩
   exact xj (fun p hp=>(hps p hp).1) (hflat x (List.mem_of_getElem? hx)) R2
  have hkeep:∀t,¬t∈wr->((ps.toList.zip (x.map uD)).foldl (fun t p=>t.setIfInBounds p.1 p.2) a.tmps)[t]? =a.tmps[t]?:=
   fun t ht=>pX (fun p hp e=>ht (e▸(hps p.1 (List.of_mem_zip hp).1).2))
  have hA:=ihA π1 (fun t=>¬t∈wr) ⟨a.tmps,[]⟩ (fun t ht hw=>ht (hwa t hw)) (some l) m W _ _ _ _ ⟨RP,fun l' e=>by cases e;exact⟨_,hr⟩,⟨[],rfl,.nil,by simp⟩,hkeep⟩ (hround i x s' hx hs')
  have hA:as.wpIn (Fence.wide.inRound l) m P (wh P nt n0 W π1 (some l) (fun t=>¬t∈wr) ⟨a.tmps,[]⟩ (uI (aw (Pure P) cb (Ff wr (F (i+1)) QA)))) {tmps:=(ps.zip (x.map uD).toArray).foldl (fun tmps p=>tmps.setIfInBounds p.1 p.2) a.tmps,defers:=[]} W:=by rw[etm];exact hA
  refine wpIn_mono hA ?_
  rintro e a₁ w₁ ⟨s1,hq1,RN2,_,hmk1,hk1⟩
  cases e<;>try exact hq1.elim
  have hr1:=RN2.below.others _ _ hr rfl
  have hp1:=hp.others hLc RN2.below.others
  refine⟨_,run_beginRound hr1 (by rw[hrec]),?_⟩
  have hlt1:=(Array.getElem?_eq_some_iff.1 hr1).1
  have hr2:(w₁.putObj l (.loop {rec .ready none with state:=.busy})).heap[l]? =some (.loop {rec .ready none with state:=.busy}):=World.putObj_heap_same hlt1
  have hp2:=hp1.putObj hLl (.loop {rec .ready none with state:=.busy})
  have RN4:=RN2.putObj hr1 rfl (o':=.loop {rec .ready none with state:=.busy}) rfl
  have hmk2:Marks [] n0 a₁ (w₁.putObj l (.loop {rec .ready none with state:=.busy})):=by
   obtain⟨Ds,h1,h2,h3⟩:=hmk1
   refine⟨Ds,h1,h2,fun D hD=>⟨(h3 D hD).1,(World.putObj_heap_other (fun e=>?_)).trans (h3 D hD).2⟩⟩
   subst e
   have:=(h3 D hD).2
   rw[hr1]at this;cases this
  have hbl2:sW n0 w (w₁.putObj l (.loop {rec .ready none with state:=.busy})):=(R'.below.trans RN2.below).putObj hl hln _
  have hB:=ihB π1 (fun t=>¬t∈wr) ⟨a.tmps,[]⟩ (fun t ht hw=>ht (hwb t hw)) (some l) m (w₁.putObj l (.loop {rec .ready none with state:=.busy})) (Ff wr (F (i+1)) QA) s1 a₁ _ ⟨RN4,fun l' e=>by cases e;exact⟨_,hr2⟩,hmk2,hk1⟩ hq1
  refine wpIn_mono (show bd.wpIn (Fence.wide.inRound l) m P (wh P nt n0 (w₁.putObj l (.loop {rec .ready none with state:=.busy})) π1 (some l) (fun t=>¬t∈wr) ⟨a.tmps,[]⟩ (Ff wr (F (i+1)) QA)) a₁ _ from hB) ?_
  rintro e a3 W3 ⟨s3,hq3,RN3,_,_,hk3⟩
  have hr3:=RN3.below.others _ _ hr2 rfl
  have hp3:=hp2.others hLc RN3.below.others
  have hbl3:=hbl2.trans RN3.below
  have fin:∀(jump:Option Code),(Instr.endRound l jump).run P W3=.ok (.bool jump.isNone) (W3.putObj l (.loop (rec (if jump.isNone then .ready else .done) jump)))/\
    (W3.putObj l (.loop (rec (if jump.isNone then .ready else .done) jump))).heap[l]? =some (.loop (rec (if jump.isNone then .ready else .done) jump)):=fun jump=>by
   have:=run_endRound (P:=P) jump hr3
   rw[hrec]at this⊢;exact⟨this,World.putObj_heap_same (Array.getElem?_eq_some_iff.1 hr3).1⟩
  have back:∀(s4:S),dJ P nt n0 (w₁.putObj l (.loop {rec .ready none with state:=.busy})) π1 s4 a W3->∀st pe,dJ P nt n0 w π1 s4 a (W3.putObj l (.loop (rec st pe))):=fun s4 R4 st pe=>
   (R4.putObj hr3 rfl rfl).NX (hbl3.putObj hl hln _) RN1.fu fun b o hb=>by
    rw[jT hr3 rfl rfl,R4.kept b o hb,jT hr1 rfl rfl,RN2.kept b o hb,R'.kept b o hb]
  cases e with
  |normal=>
   obtain⟨s4,hs4,R4⟩:=(RN3.cut (wr:=wr) (a1:=a) hk3 hsize).down hq3
   obtain⟨f1,f2⟩:=fin none;exact⟨_,_,f1,.inl ⟨rfl,⟨s4,hs4,back s4 R4 _ _⟩,hp3.putObj hLl _,f2⟩⟩
  |ret=>
   obtain⟨f1,f2⟩:=fin (some .ret)
   exact⟨_,_,f1,.inr ⟨rfl,.ret,_,.inl ⟨rfl,hq3⟩,back _ (RN3.cut (wr:=wr) (a1:=a) hk3 hsize) _ _,hp3.putObj hLl _,f2⟩⟩
  |exit id=>
   obtain⟨f1,f2⟩:=fin (some (.exit id))
   exact⟨_,_,f1,.inr ⟨rfl,.exit id,_,.inr ⟨id,rfl,hq3⟩,back _ (RN3.cut (wr:=wr) (a1:=a) hk3 hsize) _ _,hp3.putObj hLl _,f2⟩⟩
  |_=>exact hq3.elim
end
theorem tY.sub{π0:Nat->Nat->Prop} {r:Option Nat} {T:Nat->Prop} {a0:Act} (R:tY P nt n0 w0 π0 r T a0 s a w) {a':Act} {w':World} {s':S} (hp:oA T a a') (RN:dJ P nt n0 w π0 s' a' w'):tY P nt n0 w0 π0 r T a0 s' a' w':=
 ⟨RN.NX (R.1.below.trans RN.below) R.1.fu (fun b o h=>(RN.kept b o h).trans (R.1.kept b o h)),R.2.1.others RN.below.others,R.2.2.1.others hp.1 RN.below.others,fun t ht=>(hp.2 t ht).trans (R.2.2.2 t ht)⟩
theorem tY.down{π0:Nat->Nat->Prop} {r:Option Nat} {T:Nat->Prop} {a0:Act} (R:tY P nt n0 w0 π0 r T a0 s a w) {F:S->Prop} (h:Eng.down F s):∃s',F s'/\tY P nt n0 w0 π0 r T a0 s' a w:=
 let ⟨s',h1,h2⟩:=R.1.down h;⟨s',h1,h2,R.2⟩
theorem yU{mo:Bool}:∀(c:Code) (cc:bn),bP mo P c=some cc->∀l,(findLabel c l).isSome=(cc.after l).isSome:=by
 intro c
 induction c with
 |seq x y ihx ihy=>
  intro cc hc l;simp only[bP]at hc
  split at hc<;>try(cases hc;done)
  rename_i cx cy hcx hcy
  have hx:=ihx cx hcx l
  have hy:=ihy cy hcy l
  cases hc
  have key:(findLabel (.seq x y) l).isSome=(match cx.after l with|some r=>some (bn.join r cy)|none=>cy.after l).isSome:=by
   simp only[findLabel]
   cases h1:findLabel x l<;>cases h2:cx.after l<;>simp_all
  split<;>exact key
 |label l'=>intro cc hc l;cases hc;simp only[findLabel,bn.after];split<;>rfl
 |skip=>intro cc hc l;cases hc;rfl
 |region id ops lg=>
  intro cc hc l;simp only[bP]at hc;split at hc
  ·simp only[Option.map_eq_some_iff]at hc
   obtain⟨cos,_,rfl⟩:=hc;rfl
  unfold BC at hc
  (repeat' split at hc)<;>(try simp only at hc)<;>(repeat' split at hc)<;>first|(cases hc;done)|(cases hc;rfl)
 |cond cd x y ihx ihy=>
  intro cc hc l;simp only[bP]at hc
  split at hc<;>try(cases hc;done)
  cases hc;rfl
 |block id c ih=>intro cc hc l;simp only[bP,Option.map_eq_some_iff]at hc;obtain⟨c',hc',rfl⟩:=hc;rfl
 |loop c ih=>intro cc hc l;simp only[bP,Option.map_eq_some_iff]at hc;obtain⟨c',hc',rfl⟩:=hc;rfl
 |exit id=>intro cc hc l;cases hc;rfl
 |ret=>intro cc hc l;cases hc;rfl
 |goto l'=>intro cc hc l;cases hc;rfl
 |scope c ih=>
  intro cc hc l;simp only[bP]at hc
  split at hc<;>try(cases hc;done)
  split at hc<;>try(cases hc;done)
  simp only[Option.map_eq_some_iff]at hc;obtain⟨r,_,rfl⟩:=hc;rfl
 |rangeFunc g ps as bd ihA ihB=>
  intro cc hc l;simp only[bP]at hc
  split at hc<;>try(cases hc;done)
  split at hc<;>try(cases hc;done)
  cases hc;rfl
 |_=>intro cc hc;cases hc
section
variable{F:Fence} {m:Nat} {Q:Exit->Act->World->Prop}
theorem C5{b:Frame} {k:List Item} {cs:List Frame} {c:Code}:step P (lone (b.atR a (.code (.scope c)::k)) cs w)=.next (lone (b.atR a (.code c:: .inScope c::k)) cs w):=
 step_lone_go (by simp[stepG,stepG.exec,Frame.atR])
theorem Aq{b:Frame} {k:List Item} {cs:List Frame} {c:Code}:step P (lone (b.atR a (.inScope c::k)) cs w)=.next (lone (b.atR a k) cs w):=
 step_lone_go (by simp[stepG,stepG.exec,Frame.atR])
theorem Ew{c rest:Code} {l:Nat} (hf:findLabel c l=some rest) (G:Act->World->Prop)
  (h:c.wpIn F m P (fun e a w=>match e with| .goto l'=>l'=l/\G a w|e=>Q e a w) a w)
  (hr:∀a w,G a w->rest.wpIn F m P (Exit.noGoto Q) a w):(Code.scope c).wpIn F m P Q a w:=by
 intro b k cs hro hb hroom
 have h0:(lone (b.atR a (.code (.scope c)::k)) cs w).fenced P F:=fenced_calm hb hroom rfl
 have leave:∀{e:Exit} {a₁:Act} {w₁:World} {m1:Machine},StepsIn (Machine.fenced P F) P (lone (b.atR a (.code (.scope c)::k)) cs w) m1->(∀l,e≠.goto l)->ArrivesIn (Machine.fenced P F) P m1 b (.inScope c::k) cs e a₁ w₁->
   ArrivesIn (Machine.fenced P F) P (lone (b.atR a (.code (.scope c)::k)) cs w) b k cs e a₁ w₁:=by
  intro e a₁ w₁ m1 hs hne harr
  cases e with
  |normal=>exact hs.trans (StepsIn.trans harr (.one (fenced_calm hb hroom rfl) Aq))
  |exit id=>exact⟨fun k' hk=>hs.trans (harr.1 k' (by simpa[exitTo]using hk)),fun hr' hk=>let ⟨k₁,h1,h2⟩:=harr.2 hr' (by simpa[exitTo]using hk);⟨k₁,h1,hs.trans h2⟩⟩
  |goto l=>exact absurd rfl (hne l)
  |ret=>exact .of_steps hs harr
  |panic ch=>exact .of_steps hs harr
  |outgrown=>exact .of_steps hs harr
 have hstart:StepsIn (Machine.fenced P F) P (lone (b.atR a (.code (.scope c)::k)) cs w) (lone (b.atR a (.code c:: .inScope c::k)) cs w):=.one h0 C5
 obtain⟨e,a₁,w₁,hq,harr⟩:=h b (.inScope c::k) cs hro hb hroom
 have other:(∀l,e≠.goto l)->Q e a₁ w₁->∃e a' w',Q e a' w'/\ArrivesIn (Machine.fenced P F) P (lone (b.atR a (.code (.scope c)::k)) cs w) b k cs e a' w':=fun hne hq=>⟨e,a₁,w₁,hq,leave hstart hne harr⟩
 cases e with
 |goto l'=>
  obtain⟨rfl,hG⟩:=hq
  have hto:=harr.1 (.code rest:: .inScope c::k) (by simp[gotoIn,hf])
  obtain⟨e2,a₂,w₂,hq2,harr2⟩:=hr a₁ w₁ hG b (.inScope c::k) cs hro hb hroom
  have other2:(∀l,e2≠.goto l)->Q e2 a₂ w₂->∃e a' w',Q e a' w'/\ArrivesIn (Machine.fenced P F) P (lone (b.atR a (.code (.scope c)::k)) cs w) b k cs e a' w':=fun hne hq=>⟨e2,a₂,w₂,hq,leave (hstart.trans hto) hne harr2⟩
  cases e2 with
  |goto l2=>exact hq2.elim
  |_=>exact other2 (fun l h=>by cases h) hq2
 |_=>exact other (fun l h=>by cases h) hq
end
def Sound(P:Program) (nt:Nat) (n0:gO) (c:Code) (cc:bn):Prop:=
 cc.fits nt=true->∀(π0:Nat->Nat->Prop) (T:Nat->Prop) (a0:Act),(∀t,T t->¬t∈cc.writes)->∀(r:Option Nat) (n:Nat) (w0:World) (QA:Exit->S->Prop) (s:S) (a:Act) (w:World),
  tY P nt n0 w0 π0 r T a0 s a w->aw (Pure P) cc QA s->c.wpIn (FW r) n P (wh P nt n0 w0 π0 r T a0 QA) a w
theorem yV{x y:Code} {cx cy:bn} (hx:Sound P nt n0 x cx) (hy:Sound P nt n0 y cy):Sound P nt n0 (.seq x y) (.join cx cy):=by
 intro hf π0 T a0 hT r n w0 QA s a w R h
 have nn:∀(e:Exit) (G:S->Prop) (s':S) (a':Act) (w':World),e≠.normal->j5 G QA e s'->tY P nt n0 w0 π0 r T a0 s' a' w'->Exit.then (y.wpIn (FW r) n P (wh P nt n0 w0 π0 r T a0 QA)) (wh P nt n0 w0 π0 r T a0 QA) e a' w':=by
  intro e G s' a' w' hne hq R'
  cases e with
  |normal=>exact absurd rfl hne
  |_=>exact⟨s',hq,R'⟩
 simp only[bn.fits,Bool.and_eq_true]at hf;simp only[bn.writes,List.mem_append,not_or]at hT
 refine wpIn_seq (wpIn_mono (hx hf.1 π0 T a0 (fun t ht=>(hT t ht).1) r n w0 _ s a w R h) ?_)
 rintro e a' w' ⟨s',hq,R'⟩
 cases e with
 |normal=>
  obtain⟨s2,hF,R2⟩:=R'.down hq
  exact hy hf.2 π0 T a0 (fun t ht=>(hT t ht).2) r n w0 QA s2 a' w' R2 hF
 |_=>exact nn _ _ s' a' w' (by simp) hq R'
theorem Gx{x y:Code} {cx cy:bn} (hx:Sound P nt n0 x cx) (hy:Sound P nt n0 y cy):Sound P nt n0 (.seq x y) (.seq cx cy):=by
 intro hf π0 T a0 hT r n w0 QA s a w R h;simp only[bn.fits,Bool.and_eq_true]at hf;simp only[bn.writes,List.mem_append,not_or]at hT
 refine wpIn_seq (wpIn_mono (hx hf.1 π0 T a0 (fun t ht=>(hT t ht).1) r n w0 _ s a w R h) ?_)
 rintro e a' w' ⟨s',hq,R'⟩
 cases e with
 |normal=>exact hy hf.2 π0 T a0 (fun t ht=>(hT t ht).2) r n w0 QA s' a' w' R' hq
 |_=>exact⟨s',hq,R'⟩
theorem Gy{mo:Bool} (hm:P.follows .mixedOrders=true):∀(c:Code),(∀cc,bP mo P c=some cc->Sound P nt n0 c cc)/\∀l rest cc ccr,findLabel c l=some rest->bP mo P c=some cc->cc.after l=some ccr->Sound P nt n0 rest ccr:=by
 intro c
 induction c with
 |skip=>
  refine⟨?_,fun l rest cc ccr h=>by cases h⟩
  intro cc hc _ π0 T a0 _ r n w0 QA s a w R h;cases hc;exact wpIn_skip ⟨s,h,R⟩
 |region id ops lg=>
  refine⟨?_,fun l rest cc ccr h=>by cases h⟩
  intro cc hc hf π0 T a0 hT r n w0 QA s a w R h;obtain⟨h4,β,τ,π,U,hU,R0⟩:=R.1;simp only[bP]at hc;split at hc
  ·rename_i hmo
   simp only[Bool.and_eq_true,Bool.not_eq_true']at hmo;obtain⟨_,rfl⟩:=hmo;simp only[Option.map_eq_some_iff]at hc;obtain⟨cos,hcos,rfl⟩:=hc
   refine th (w0:=w) hcos hf R0.Lx hU h (T:=T) (fun d hd ht=>hT d ht hd) ?_ ?_
   ·intro s' a' w' β' τ' π' U' hU' hK hp R'
    exact⟨_,hK,R.sub hp ⟨by show 4<=s.nx+_;omega,β',τ',π',U',hU',R'.nx _⟩⟩
   ·intro p s' a' w' β' τ' π' U' hU' hK hp R'
    exact⟨_,hK,R.sub hp ⟨by show 4<=s.nx+_;omega,β',τ',π',U',hU',R'.nx _⟩⟩
  split at hc<;>try(cases hc;done)
  rename_i cos hcos
  have fin:∀(ro:List Nat) (s1:S) (π1:Nat->Nat->Prop),Rel P nt n0 w0 π0 U s1 a w β τ π1->s1.nx=s.nx->(lg=true->∃dZ T,jH dZ ops.toList cos=true/\uH T (ny ro 0 cos) dZ=true/\kS T s1.nx 0 (ny ro 0 cos)=true/\nX T s1)->gq nt cos=true->(∀t,T t->¬t∈dstsOf cos)->
    jh (Pure P) s1.nx 0 (ny ro 0 cos) (fun s'=>QA .normal {s' with nx:=s.nx+cos.length}) s1->(Code.region id ops lg).wpIn (FW r) n P (wh P nt n0 w0 π0 r T a0 QA) a w:=by
   intro ro s1 π1 R1 hnx hd hf hT h
   refine uR (w0:=w) hm hcos ro hd hf R1.Lx (by rw[hnx];exact hU) h (T:=T) (fun d hd ht=>hT d ht hd) ?_
   intro s' a' w' β' τ' π' U' hU' hK hp R';rw[hnx]at hU'
   exact⟨_,hK,R.sub hp ⟨by show 4<=s.nx+_;omega,β',τ',π',U',hU',R'.nx _⟩⟩
  split at hc
  ·rename_i hdr
   subst hdr
   have Bv:∀dZ,jH dZ ops.toList cos=true->gq nt cos=true->(∀t,T t->¬t∈dstsOf cos)->(∃ids,(cY ids&&iz ids)=true/\aj (bh s.boxes ids) fun css=>Gf (Pure P) cos dZ (fun s'=>QA .normal {s' with nx:=s.nx+cos.length}) (gM ids css s))->(Code.region id ops true).wpIn (FW r) n P (wh P nt n0 w0 π0 r T a0 QA) a w:=by
    intro dZ hok hf hT h;obtain⟨ids,hids,h⟩:=h;obtain⟨css,hcss,ro,hdyn,h⟩:=af h;rw[Bool.and_eq_true]at hids
    obtain⟨π1,_,R1,_⟩:=R0.rY (d7 hids.1) hids.2 hcss
    simp only[qw,K2,Bool.and_eq_true]at hdyn
    exact fin ro _ π1 R1 rR (fun _=>⟨_,_,hok,hdyn.2,hdyn.1.2,fun t b ⟨v,hl,hb⟩=>mw hdyn.1.1 t b v hl hb⟩) hf hT h
   split at hc
   ·split at hc<;>try(cases hc;done)
    rename_i hok;unfold BC at hc
    split at hc<;>try(cases hc;done)
    rename_i k _
    split at hc<;>try(cases hc;done)
    rename_i d hd;simp only at hc
    split at hc<;>try(cases hc;done)
    rename_i hk;cases hc;simp only[Bool.and_eq_true,decide_eq_true_eq]at hk;obtain⟨⟨⟨h1,h2⟩,h3⟩,h5⟩:=hk
    rcases h with h|h
    ·exact Bv _ hok hf hT h
    ·refine tj (w0:=w) hm hcos h1 h2 h3 (by simpa using h5) hf R0.Lx hU h (T:=T) (fun d hd ht=>hT d ht hd) ?_
     intro p s' a' w' β' τ' π' U' hU' hK hp R'
     exact⟨_,hK,R.sub hp ⟨by show 4<=s.nx+_;omega,β',τ',π',U',hU',R'.nx _⟩⟩
   ·split at hc
    ·split at hc<;>try(cases hc;done)
     rename_i hok;cases hc
     exact fin [] s π R0 rfl (fun _=>⟨[],[],hok,rfl,qJ,fun _ _ _=>rfl⟩) hf hT (by rw[o3];exact h)
    ·split at hc<;>try(cases hc;done)
     rename_i hok;cases hc;rw[Bool.and_eq_true]at hok;exact Bv _ hok.1 hf hT h
  ·rename_i hdr
   cases hc
   exact fin [] s π R0 rfl (fun e=>absurd e hdr) hf hT (by rw[o3];exact h)
 |seq x y ihx ihy=>
  refine⟨?_,?_⟩
  ·intro cc hc
   simp only[bP]at hc
   split at hc<;>try(cases hc;done)
   rename_i cx cy hcx hcy;cases hc;split
   ·exact Gx (ihx.1 cx hcx) (ihy.1 cy hcy)
   ·exact yV (ihx.1 cx hcx) (ihy.1 cy hcy)
  ·intro l rest cc ccr hf hc ha
   simp only[bP]at hc
   split at hc<;>try(cases hc;done)
   rename_i cx cy hcx hcy;cases hc
   have ha':(match cx.after l with|some r=>some (bn.join r cy)|none=>cy.after l)=some ccr:=by
    split at ha<;>exact ha
   have hs:=yU x cx hcx l
   simp only[findLabel]at hf;split at hf
   ·rename_i rx hrx
    cases hf;rw[hrx]at hs
    cases hax:cx.after l with
    |none=>rw[hax]at hs;cases hs
    |some cr=>
     rw[hax]at ha';cases ha';exact yV (ihx.2 l rx cx cr hrx hcx hax) (ihy.1 cy hcy)
   ·rename_i hrx
    rw[hrx]at hs
    cases hax:cx.after l with
    |some cr=>rw[hax]at hs;cases hs
    |none=>
     rw[hax]at ha';exact ihy.2 l rest cy ccr hf hcy ha'
 |cond cd x y ihx ihy=>
  refine⟨?_,fun l rest cc ccr h=>by cases h⟩
  intro cc hc hf π0 T a0 hT r n w0 QA s a w R h;simp only[bP]at hc
  split at hc<;>try(cases hc;done)
  rename_i c' cx cy hcc hcx hcy;cases hc;simp only[bn.fits,Bool.and_eq_true]at hf;simp only[bn.writes,List.mem_append,not_or]at hT;simp only[aw]at h;obtain⟨v,hv,h⟩:=af h;obtain⟨β,τ,π,U,hU,R0⟩:=R.1.2
  have hd:=R0.aQ hcc hv
  cases v<;>try(exact h.elim)
  rename_i t
  exact wpIn_cond_split hd.qB (fun e=>ihx.1 cx hcx hf.1 π0 T a0 (fun t ht=>(hT t ht).1) r n w0 QA s a w R (h.1 e)) (fun e=>ihy.1 cy hcy hf.2 π0 T a0 (fun t ht=>(hT t ht).2) r n w0 QA s a w R (h.2 e))
 |block id c ih=>
  refine⟨?_,fun l rest cc ccr h=>by cases h⟩
  intro cc hc hf π0 T a0 hT r n w0 QA s a w R h;simp only[bP,Option.map_eq_some_iff]at hc;obtain⟨c',hc',rfl⟩:=hc;refine wpIn_block (wpIn_mono (ih.1 c' hc' hf π0 T a0 hT r n w0 _ s a w R h) ?_)
  rintro e a' w' ⟨s',hq,R'⟩
  cases e with
  |exit id'=>
   simp only[gN]at hq;simp only[Exit.inBlock]
   by_cases hid:id'=id
   ·rw[if_pos hid]at hq⊢;exact⟨s',hq,R'⟩
   ·rw[if_neg hid]at hq⊢;exact⟨s',hq,R'⟩
  |_=>exact⟨s',hq,R'⟩
 |loop c ih=>
  refine⟨?_,fun l rest cc ccr h=>by cases h⟩
  intro cc hc hf π0 T a0 hT r n w0 QA s a w R h;simp only[bP,Option.map_eq_some_iff]at hc;obtain⟨c',hc',rfl⟩:=hc;obtain⟨s0,⟨m,hn⟩,R0⟩:=R.down h;refine wpIn_loop_rounds m ?_
  have key:∀(m:Nat) (s:S) (a:Act) (w:World),tY P nt n0 w0 π0 r T a0 s a w->nE (aw (Pure P) c') QA m s->Code.roundsIn (FW r) n P c (wh P nt n0 w0 π0 r T a0 QA) m a w:=by
   intro m
   induction m with
   |zero=>intro s a w _ h;exact h.elim
   |succ m ihn=>
    intro s a w R h;rw[roundsIn_succ];refine wpIn_mono (ih.1 c' hc' hf π0 T a0 hT r n w0 _ s a w R h) ?_
    rintro e a' w' ⟨s',hq,R'⟩
    cases e with
    |normal=>
     obtain⟨s2,hF,R2⟩:=R'.down hq;exact ihn s2 a' w' R2 hF
    |_=>exact⟨s',hq,R'⟩
  exact key m s0 a w R0 hn
 |exit id=>
  refine⟨?_,fun l rest cc ccr h=>by cases h⟩
  intro cc hc _ π0 T a0 _ r n w0 QA s a w R h;cases hc;exact wpIn_exit ⟨s,h,R⟩
 |ret=>
  refine⟨?_,fun l rest cc ccr h=>by cases h⟩
  intro cc hc _ π0 T a0 _ r n w0 QA s a w R h;cases hc;exact wpIn_ret ⟨s,h,R⟩
 |rangeFunc g ps as bd ihA ihB=>
  refine⟨?_,fun l rest cc ccr h=>by cases h⟩
  intro cc hc hf π0 T a0 hT r n w0 QA s a w R h;simp only[bP]at hc
  split at hc<;>try(cases hc;done)
  rename_i g' ca cb hg hca hcb
  split at hc<;>try(cases hc;done)
  cases hc;simp only[bn.fits,Bool.and_eq_true,List.all_eq_true,decide_eq_true_eq]at hf;obtain⟨⟨⟨⟨⟨f1,f2⟩,f3⟩,f4⟩,f5⟩,f6⟩:=hf
  exact Ev hg (fun t ht=>⟨f1 t ht,by simpa using f4 t ht⟩) (fun t ht=>by simpa using f5 t ht) (fun t ht=>by simpa using f6 t ht) (ihA.1 ca hca f2) (ihB.1 cb hcb f3) R h
 |label l'=>
  refine⟨?_,?_⟩
  ·intro cc hc _ π0 T a0 _ r n w0 QA s a w R h;cases hc;exact wpIn_label ⟨s,h,R⟩
  ·intro l rest cc ccr hf hc ha
   cases hc;simp only[findLabel]at hf
   split at hf<;>try(cases hf;done)
   rename_i he;cases hf;simp only[bn.after,he,if_true,Option.some.injEq]at ha;subst ha;intro _ π0 T a0 _ r n w0 QA s a w R h;exact wpIn_skip ⟨s,h,R⟩
 |goto l'=>
  refine⟨?_,fun l rest cc ccr h=>by cases h⟩
  intro cc hc _ π0 T a0 _ r n w0 QA s a w R h;cases hc;exact wpIn_goto ⟨s,h,R⟩
 |scope c ih=>
  refine⟨?_,fun l rest cc ccr h=>by cases h⟩
  intro cc hc hf π0 T a0 hT r n w0 QA s a w R h;simp only[bP]at hc
  split at hc<;>try(cases hc;done)
  rename_i c' hc'
  split at hc<;>try(cases hc;done)
  rename_i l hl;simp only[Option.map_eq_some_iff]at hc;obtain⟨cr,hcr,rfl⟩:=hc;simp only[bn.fits,Bool.and_eq_true]at hf;simp only[bn.writes,List.mem_append,not_or]at hT
  have hs:=yU c c' hc' l
  rw[hcr]at hs
  cases hfl:findLabel c l with
  |none=>rw[hfl]at hs;cases hs
  |some rest=>
   refine Ew hfl (wh P nt n0 w0 π0 r T a0 (fun _=>aw (Pure P) cr (xK QA)) .normal) (wpIn_mono (ih.1 c' hc' hf.1 π0 T a0 (fun t ht=>(hT t ht).1) r n w0 _ s a w R h) ?_) ?_
   ·rintro e a' w' ⟨s',hq,R'⟩
    cases e with
    |goto l'=>exact⟨hq.1,s',hq.2,R'⟩
    |_=>exact⟨s',hq,R'⟩
   ·rintro a' w' ⟨s',hq,R'⟩
    refine wpIn_mono (ih.2 l rest c' cr hfl hc' hcr hf.2 π0 T a0 (fun t ht=>(hT t ht).2) r n w0 _ s' a' w' R' hq) ?_
    rintro e a2 w2 ⟨s2,hq2,R2⟩
    cases e with
    |goto l'=>exact hq2.elim
    |_=>exact⟨s2,hq2,R2⟩
 |_=>exact⟨fun cc hc=>(by cases hc),fun l rest cc ccr h=>(by cases h)⟩
theorem oB{mo:Bool} (hm:P.follows .mixedOrders=true):∀(c:Code) (cc:bn),bP mo P c=some cc->cc.fits nt=true->∀(π0:Nat->Nat->Prop) (T:Nat->Prop) (a0:Act),(∀t,T t->¬t∈cc.writes)->∀(r:Option Nat) (n:Nat) (w0:World) (QA:Exit->S->Prop) (s:S) (a:Act) (w:World),
  tY P nt n0 w0 π0 r T a0 s a w->aw (Pure P) cc QA s->c.wpIn (FW r) n P (wh P nt n0 w0 π0 r T a0 QA) a w:=fun c cc hc=>(Gy hm c).1 cc hc
end
open Go.RowKit (Below)
def jv:AV->SV
 | .ref cs=>.rp cs
 |a=>.dat a none
def slotsOf:Nat->List AV->List (Nat×SV)
 |_,[]=>[]
 |i,a::r=>(i,jv a)::slotsOf (i+1) r
def Il(args:List AV):S:=⟨slotsOf 0 args,[],[],4⟩
def cq:Nat->Nat->List (Option AV)->List (Nat×SV)
 |_,_,[]=>[]
 |i,k,some .hole::r=>(i,.pt 0 [(k,0)])::cq (i+1) (k+1) r
 |i,k,some a::r=>(i,jv a)::cq (i+1) k r
 |i,k,none::r=>(i,.ptr k 0)::cq (i+1) (k+1) r
def qP:Nat->List (List AV)->List (Nat×bY)
 |_,[]=>[]
 |k,cs::css=>(k,⟨cs,[]⟩)::qP (k+1) css
def oC(css:List (List AV)) (args:List (Option AV)):S:=⟨cq 0 0 args,qP 0 css,[],4⟩
def gi(l:List (Nat×bY)):Nat->List (List AV)->Prop
 |_,[]=>True
 |k,cs::css=>aj (ct k l) (fun x=>x.cells=cs)/\gi l (k+1) css
def Gz(s:S):gb->Option (AV×Option Nat)
 | .tmp t=>match lk t s.slots with
  |some (.dat a q)=>some (a,q)
  |_=>none
 | .cell t sz=>match lk t s.slots with
  |some (.ptr b off)=>match ct b s.boxes with
   |some bx=>match bF bx.cells off sz with
    |some a=>some (a,match sz with|none=>eK off bx.tags|some _=>none)
    |none=>none
   |none=>none
  |_=>none
def mV(s:S):List gb->Option (List AV)
 |[]=>some []
 |r::rs=>match Gz s r,mV s rs with
  |some p,some as=>some (p.1::as)
  |_,_=>none
def eW(s:S):List gb->Option (AV×Option Nat)
 |[r]=>Gz s r
 |rs=>(mV s rs).map fun as=>(.qf as,none)
def D8(fr:Option Nat) (q:Option Nat) (live:List (Nat×Nat)):Prop:=
 match fr with
 |none=>True
 |some e=>match q with
  |some q'=>eK q' live=some e
  |none=>False
def fin(res:List gb) (r:AV) (fr:Option Nat):Exit->S->Prop
 | .normal,s=>aj (eW s res) fun p=>p.1=r/\D8 fr p.2 s.live
 | .ret,s=>aj (eW s res) fun p=>p.1=r/\D8 fr p.2 s.live
 |_,_=>False
def BO(res:List gb) (r:AV) (fr:Option Nat) (css:List (List AV)):Exit->S->Prop
 | .normal,s=>aj (eW s res) fun p=>p.1=r/\D8 fr p.2 s.live/\gi s.boxes 0 css
 | .ret,s=>aj (eW s res) fun p=>p.1=r/\D8 fr p.2 s.live/\gi s.boxes 0 css
 |_,_=>False
theorem oD{β:Nat->Nat} {τ:Nat->Value} {w:World} {π:Nat->Nat->Prop} {U:Nat->Prop} {a:AV} {x:Value} (h:DV w π a x):RV β τ w π (jv a) x/\(jv a).gp U:=by
 cases a with
 |ref cs=>exact⟨RV.ref.2 h,trivial⟩
 |_=>exact⟨⟨h,fun t ht=>by cases ht⟩,trivial⟩
theorem yW:∀{args:List AV} {i t:Nat} {v:SV},lk t (slotsOf i args)=some v->∃a,i<=t/\args[t-i]? =some a/\v=jv a
 |[],i,t,v,h=>by cases h
 |a::r,i,t,v,h=>by
  simp only[slotsOf,lk,j7]at h;split at h
  ·rename_i e;cases h;subst e;exact⟨a,Nat.le_refl _,by simp,rfl⟩
  ·obtain⟨b,h1,h2,h3⟩:=yW h
   refine⟨b,by omega,?_,h3⟩
   rw[show t-i=(t-(i+1))+1 by omega]
   simpa using h2
section
variable{P:Program} {nt:Nat} {n0:gO} {w0:World} {π0:Nat->Nat->Prop} {U:Nat->Prop} {s:S} {a:Act} {w:World} {β:Nat->Nat} {τ:Nat->Value} {π:Nat->Nat->Prop}
def mz(tmps:Array Value):ResultVar->Sem Value
 | .tmp t=>pure (tmps.getD t undef)
 | .cell a t=>do loadVar t (<-asAddr (tmps.getD a undef))
theorem FE(R:Rel P nt n0 w0 π0 U s a w β τ π) {rv:ResultVar} {cr:gb} (hc:Ap P rv=some cr) {av:AV} {q:Option Nat} (h:Gz s cr=some (av,q)):
  ∃v,(mz a.tmps rv).run P w=.ok v w/\DV w π av v/\(∀t,q=some t->v=τ t):=by
 cases rv with
 |tmp t=>
  cases hc;simp only[Gz]at h
  split at h<;>try(cases h;done)
  rename_i a' q' hl;cases h;obtain⟨⟨x,hx,hr⟩,_⟩:=R.slots t _ hl
  exact⟨x,by simp[mz,hx],hr.1,hr.2⟩
 |cell ad t=>
  simp only[Ap,Option.map_eq_some_iff]at hc;obtain⟨sz,hsz,rfl⟩:=hc;simp only[Gz]at h
  split at h<;>try(cases h;done)
  rename_i b off hl
  split at h<;>try(cases h;done)
  rename_i bx hb
  split at h<;>try(cases h;done)
  rename_i a' hp;cases h
  have hop:bN (Pure P) 0 (.ld (.t ad) sz) (fun v s'=>v=.dat av (match(generalizing:=false) sz with|none=>eK off bx.tags|some _=>none)) s:=by
   simp only[bN,bM,hl,aG,hb,hp]
   cases sz<;>rfl
  obtain⟨v,y,hr,hrv,_,hK⟩:=R.load (X:=.tmp ad) rfl hsz hop
  subst hK;obtain⟨⟨x,hx,hrx⟩,_⟩:=R.slots ad _ hl
  have hrx':x=.pointer (some ⟨β b,off,none⟩):=hrx
  have he:a.eval (.tmp ad)=x:=by simp[Act.eval,hx]
  refine⟨y,?_,hrv.1,hrv.2⟩;rw[he,hrx']at hr;simp[Instr.loadAt,Instr.sureAddr]at hr;simp[mz,hx,hrx',asAddr,hr]
theorem C6(R:Rel P nt n0 w0 π0 U s a w β τ π):∀{rvs:List ResultVar} {crs:List gb},rvs.mapM (Ap P)=some crs->∀{as:List AV},mV s crs=some as->
  ∃vs,(rvs.mapM (mz a.tmps)).run P w=.ok vs w/\jr w π as vs
 |[],crs,hc,as,h=>by
  simp at hc;subst hc;simp[mV]at h;subst h
  exact⟨[],by simp,.nil _ _⟩
 |rv::rvs,crs,hc,as,h=>by
  simp only[List.mapM_cons,Option.bind_eq_bind,Option.bind_eq_some_iff,Option.pure_def,Option.some.injEq]at hc;obtain⟨cr,hcr,crs',hcrs,rfl⟩:=hc;simp only[mV]at h
  split at h<;>try(cases h;done)
  rename_i p as' h1 h2;cases h
  obtain⟨v,hv,hd,_⟩:=FE R hcr (av:=p.1) (q:=p.2) h1
  obtain⟨vs,hvs,hds⟩:=C6 R hcrs h2
  exact⟨v::vs,by simp[List.mapM_cons,hv,hvs],.cons hd hds⟩
theorem pG(fn:Func) (tmps:Array Value):results fn tmps=(do let vs<-fn.results.mapM (mz tmps);pure (if h:vs.size=1 then vs[0]else .tuple vs)):=by
 unfold results
 congr 1
theorem tZ(R:Rel P nt n0 w0 π0 U s a w β τ π) {fn:Func} {crs:List gb} (hc:fn.results.toList.mapM (Ap P)=some crs) {av:AV} {q:Option Nat} (h:eW s crs=some (av,q)):
  ∃v,(results fn a.tmps).run P w=.ok v w/\DV w π av v/\(∀t,q=some t->v=τ t):=by
 have go:∀vs:List Value,(fn.results.toList.mapM (mz a.tmps)).run P w=.ok vs w->(results fn a.tmps).run P w=.ok (if h:vs.length=1 then vs[0]else .tuple vs.toArray) w:=by
  intro vs hvs
  have:(fn.results.mapM (mz a.tmps)).run P w=.ok vs.toArray w:=by
   have e:fn.results=fn.results.toList.toArray:=by simp
   rw[e,List.mapM_toArray,Sem.run_map,hvs];rfl
  rw[pG,Sem.run_bind,this];simp
 have many:(∀r,crs≠[r])->eW s crs=(mV s crs).map fun as=>(.qf as,none):=by
  intro hne
  cases crs with
  |nil=>rfl
  |cons r rs=>
   cases rs with
   |nil=>exact absurd rfl (hne r)
   |cons r' rs=>rfl
 by_cases hone:∃r,crs=[r]
 ·obtain⟨r,rfl⟩:=hone
  cases hrl:fn.results.toList with
  |nil=>rw[hrl]at hc;simp at hc
  |cons rv rvs=>
   rw[hrl]at hc;simp only[List.mapM_cons,Option.bind_eq_bind,Option.bind_eq_some_iff,Option.pure_def,Option.some.injEq]at hc;obtain⟨cr,hcr,crs',hcrs,he⟩:=hc;cases he
   have hnil:rvs=[]:=by
    cases rvs with
    |nil=>rfl
    |cons x xs=>
     simp only[List.mapM_cons,Option.bind_eq_bind,Option.bind_eq_some_iff,Option.pure_def,Option.some.injEq]at hcrs;obtain⟨_,_,_,_,h⟩:=hcrs;cases h
   subst hnil;obtain⟨v,hv,hd,hq⟩:=FE R hcr h;refine⟨v,?_,hd,hq⟩
   rw[go [v] (by rw[hrl];simp[hv])]
   simp
 ·have hne:∀r,crs≠[r]:=fun r e=>hone ⟨r,e⟩
  rw[many hne]at h;simp only[Option.map_eq_some_iff,Prod.mk.injEq]at h;obtain⟨as,has,rfl,rfl⟩:=h;obtain⟨vs,hvs,hds⟩:=C6 R hc has
  have hl1:crs.length=vs.length:=by
   have:∀{crs:List gb} {as:List AV},mV s crs=some as->crs.length=as.length:=by
    intro crs
    induction crs with
    |nil=>intro as h;simp[mV]at h;subst h;rfl
    |cons c crs ih=>
     intro as h;simp only[mV]at h
     split at h<;>try(cases h;done)
     rename_i p as' h1 h2;cases h;simp[ih h2]
   rw[this has,hds.1]
  refine⟨.tuple vs.toArray,?_,.qf as vs.toArray (by simpa using hds.1) (fun i a v ha hv=>hds.2 i a v ha (by simpa using hv)),fun t ht=>by cases ht⟩
  rw[go vs hvs]
  have:¬vs.length=1:=by
   intro e;rw[<-hl1]at e
   match crs,e,hne with
   |[r],_,hne=>exact hne r rfl
  rw[dif_neg this]
end
section
variable{P:Program}
theorem qQ{f:FuncId} {cf:dc} {mo:Bool} (hcf:ji mo P f=some cf):∃(fn:Func) (c:Code) (cc:bn),P.funcs[f]? =some fn/\fn.body=some c/\fn.results.toList.mapM (Ap P)=some cf.res/\bP mo P c=some cc/\cf.code=cc/\cf.nt=fn.ntmps/\cc.fits fn.ntmps=true/\cg P f=true:=by
 unfold ji at hcf
 split at hcf<;>try(cases hcf;done)
 rename_i fn hfn
 split at hcf<;>try(cases hcf;done)
 rename_i c rs hbody hrs
 split at hcf<;>try(cases hcf;done)
 rename_i cc hcc
 split at hcf<;>try(cases hcf;done)
 rename_i hfit;cases hcf;simp only[Bool.and_eq_true]at hfit;exact⟨fn,c,cc,hfn,hbody,hrs,hcc,rfl,rfl,hfit.1,hfit.2⟩
theorem nL{c:Code} {Q:Exit->Act->World->Prop} {a:Act} {w:World} (h:c.wpIn (FW none) 0 P Q a w):c.wpIn Fence.wide 0 P Q a w:=h
theorem fj{nt:Nat} {n0:gO} {w:World} {π:Nat->Nat->Prop} {s:S} {a:Act} {fn:Func} {R:Ending->World->Prop}
  (main:∀w',dJ P nt n0 w π s a w'->∃v,(results fn a.tmps).run P w'=.ok v w'/\R (.returned v) w'):
  ∀(Ds:List Nat) (w':World),Ds.Nodup->(∀D∈Ds,n0.n<=D/\w'.heap[D]? =some (.deferred (some [])))->dJ P nt n0 w π s a w'->w.heap.size<=n0.n->LeavesInM Fence.wide 0 P fn a.tmps R (Ds.map HC) .returning w'
 |[],w',_,_,R',_=>main w' R'
 |D::Ds,w',hnd,hD,R',hn=>by
  obtain⟨h1,h2⟩:=hD D List.mem_cons_self;simp only[List.nodup_cons]at hnd
  refine⟨by simp,.inl ⟨D,_,rfl,run_takeDeferred h2,?_⟩⟩
  refine fj main Ds _ hnd.2 (fun D' hD'=>?_) ((R'.putObj h2 rfl rfl).NX (R'.below.putObj (Nat.le_trans hn h1) h1 _) R'.fu (fun b o hb=>(jT h2 rfl rfl _).trans (R'.kept b o hb))) hn
  obtain⟨g1,g2⟩:=hD D' (List.mem_cons_of_mem _ hD')
  exact⟨g1,(World.putObj_heap_other (fun e=>hnd.1 (by rw[<-e];exact hD'))).trans g2⟩
theorem aB(hm:P.follows .mixedOrders=true) {f:FuncId} {cf:dc} {mo:Bool} (hcf:ji mo P f=some cf) {args:List AV} {r:AV} {fr:Option Nat} (hn:args.length<=cf.nt)
  (h:aw (Pure P) cf.code (fin cf.res r fr) (Il args)):CJ P f args r fr:=by
 obtain⟨fn,c,cc,hfn,hbody,hrs,hcc,ec,en,hfit,hcall⟩:=qQ hcf;rw[ec]at h;rw[en]at hn
 refine⟨hcall,fun w π vs hprot hd=>?_⟩
 have hlen:=hd.1
 have R:dJ P fn.ntmps (gO.top w) w π (Il args) {tmps:=vs.toArray++Array.replicate (fn.ntmps-vs.toArray.size) undef,defers:=[]} w:=by
  refine⟨Nat.le_refl 4,id,fun _=>undef,π,fun n=>n<4,fun _ h=>h,?_⟩
  refine{size:=?_,slots:=?_,boxes:=fun b x h=>(by cases h),inj:=fun b b' x x' h=>(by cases h),live:=fun q e h=>(by cases h),bS:=fun q q' e e' B h=>(by cases h),cK:=fun q e b x h=>(by cases h),below:=.refl _ _,fu:=Nat.le_refl _,ej:=hprot,eo:=fun _ _ h=>h,cH:=fun _ _ h=>.inl h,lQ:=fun _ _=>rfl,jt:=fun _ h=>h,kept:=fun _ _ _=>rfl}
  ·simp;omega
  ·intro t v hv
   obtain⟨av,_,hav,rfl⟩:=yW hv;simp only[Nat.sub_zero]at hav;obtain⟨x,hx,hdx⟩:=hd.get hav
   refine⟨⟨x,?_,(oD (U:=fun n=>n<4) hdx).1⟩,(oD (β:=id) (τ:=fun _=>undef) hdx).2⟩
   have htl:t<vs.length:=(List.getElem?_eq_some_iff.1 hx).1
   simp[Array.getElem?_append,htl]
   simpa using(List.getElem?_eq_some_iff.1 hx).2
 refine callsIn_wide.1 (callsIn_of_wp_marks (n:=0) (F:=Fence.wide) hfn hbody trivial (wpIn_mono (nL (oB hm c cc hcc hfit _ (fun _=>False) ⟨#[],[]⟩ (fun _ h=>h.elim) none 0 w _ _ _ _ ⟨R,fun l h=>by(cases h),⟨[],rfl,.nil,by simp⟩,fun _ h=>h.elim⟩ h)) ?_))
 have main:∀(s:S) (a':Act) (w':World),(aj (eW s cf.res) fun p=>p.1=r/\D8 fr p.2 s.live)->dJ P fn.ntmps (gO.top w) w π s a' w'->
   ∃v,(results fn a'.tmps).run P w'=.ok v w'/\∃u π',Ending.returned v=.returned u/\Below w.heap.size w w'/\(∀b o,π b o->π' b o)/\(∀b o,π' b o->π b o\/w.heap.size<=b)/\
    (∀b o,π' b o->b<w'.heap.size)/\DV w' π' r u/\∀t,fr=some t->AB P w' π' (fun B=>w.heap.size<=B) t u:=by
  rintro s a' w' hq ⟨_,β,τ,π',U,hU,R'⟩
  obtain⟨⟨av,q⟩,hp,hav,hfr⟩:=af hq;simp only at hav hfr;subst hav;obtain⟨v,hv,hdv,htq⟩:=tZ R' hrs hp
  refine⟨v,hv,v,π',rfl,R'.below.below (fun _ h=>h),R'.eo,fun b o h=>(R'.cH b o h).imp id (fun h=>h.elim id (fun h=>h.elim)),R'.ej,hdv,fun t ht=>?_⟩
  subst ht;simp only[D8]at hfr
  cases q with
  |none=>exact hfr.elim
  |some q=>
   rw[htq q rfl]
   exact(R'.live q t hfr).2.weaken (fun B h=>h.elim id (fun h=>h.elim))
 rintro e a' w' ⟨s,hq,R',_,⟨Ds,hm1,hm2,hm3⟩,_⟩
 have hm1:a'.defers=Ds.map HC:=by simpa using hm1
 cases e with
 |normal=>show LeavesInM _ _ _ _ _ _ a'.defers _ _;rw[hm1];exact fj (main s a' · hq) Ds w' hm2 hm3 R' (Nat.le_refl _)
 |ret=>show LeavesInM _ _ _ _ _ _ a'.defers _ _;rw[hm1];exact fj (main s a' · hq) Ds w' hm2 hm3 R' (Nat.le_refl _)
 |_=>exact hq.elim
theorem oE{w:World} {π:Nat->Nat->Prop}:∀{args:List (Option AV)} {Bs:List Nat} {vs:List Value},eV w π args Bs vs->∀{i k t:Nat} {v:SV},lk t (cq i k args)=some v->
  ∃x,i<=t/\vs[t-i]? =some x/\((∃a,v=jv a/\DV w π a x)\/∃j B,Bs[j]? =some B/\((v=.ptr (k+j) 0/\x=.pointer (some ⟨B,0,none⟩))\/(v=.pt 0 [(k+j,0)]/\x=.agg #[.pointer (some ⟨B,0,none⟩)])))
 |[],Bs,vs,hr,i,k,t,v,h=>by cases h
 |some a::args,Bs,[],hr,i,k,t,v,h=>by cases Bs<;>cases a<;>exact hr.elim
 |some a::args,Bs,x::vs,hr,i,k,t,v,h=>by
  rcases mP hr with⟨rfl,B,Bs',rfl,hx,hr'⟩|⟨ha,hr'⟩
  ·simp only[cq,lk,j7]at h
   split at h
   ·rename_i e;cases h;subst e
    exact⟨x,Nat.le_refl _,by simp,.inr ⟨0,B,rfl,.inr ⟨rfl,hx⟩⟩⟩
   ·obtain⟨y,h1,h2,h3⟩:=oE hr' h
    refine⟨y,by omega,?_,?_⟩
    ·rw[show t-i=(t-(i+1))+1 by omega];simpa using h2
    ·rcases h3 with h3|⟨j,B',hB,hx'⟩
     ·exact .inl h3
     ·exact .inr ⟨j+1,B',by simpa using hB,by rw[show k+(j+1)=k+1+j by omega];exact hx'⟩
  have es:cq i k (some a::args)=(i,jv a)::cq (i+1) k args:=by cases a<;>first|rfl|exact absurd rfl ha
  rw[es]at h;simp only[lk,j7]at h;split at h
  ·rename_i e;cases h;subst e
   exact⟨x,Nat.le_refl _,by simp,.inl ⟨a,rfl,hr'.1⟩⟩
  ·obtain⟨y,h1,h2,h3⟩:=oE hr'.2 h
   refine⟨y,by omega,?_,h3⟩
   rw[show t-i=(t-(i+1))+1 by omega];simpa using h2
 |none::args,[],vs,hr,i,k,t,v,h=>by cases vs<;>exact hr.elim
 |none::args,B::Bs,[],hr,i,k,t,v,h=>hr.elim
 |none::args,B::Bs,x::vs,hr,i,k,t,v,h=>by
  obtain⟨hx,hr'⟩:=hr;simp only[cq,lk,j7]at h;split at h
  ·rename_i e;cases h;subst e
   exact⟨x,Nat.le_refl _,by simp,.inr ⟨0,B,rfl,.inl ⟨rfl,hx⟩⟩⟩
  ·obtain⟨y,h1,h2,h3⟩:=oE hr' h
   refine⟨y,by omega,?_,?_⟩
   ·rw[show t-i=(t-(i+1))+1 by omega];simpa using h2
   ·rcases h3 with h3|⟨j,B',hB,hx'⟩
    ·exact .inl h3
    ·exact .inr ⟨j+1,B',by simpa using hB,by rw[show k+(j+1)=k+1+j by omega];exact hx'⟩
theorem t4:∀{css:List (List AV)} {k b:Nat} {x:bY},ct b (qP k css)=some x->∃cs,k<=b/\css[b-k]? =some cs/\x=⟨cs,[]⟩
 |[],k,b,x,h=>by cases h
 |cs::css,k,b,x,h=>by
  simp only[qP,ct,j7]at h;split at h
  ·rename_i e;cases h;subst e;exact⟨cs,Nat.le_refl _,by simp,rfl⟩
  ·obtain⟨cs',h1,h2,h3⟩:=t4 h
   refine⟨cs',by omega,?_,h3⟩
   rw[show b-k=(b-(k+1))+1 by omega];simpa using h2
theorem sq{w:World} {π:Nat->Nat->Prop}:∀{args:List (Option AV)} {Bs:List Nat} {vs:List Value},eV w π args Bs vs->args.length=vs.length
 |[],Bs,vs,h=>by cases Bs<;>cases vs<;>first|rfl|exact h.elim
 |some a::args,Bs,[],h=>by cases Bs<;>cases a<;>exact h.elim
 |some a::args,Bs,v::vs,h=>by
  rcases mP h with⟨_,_,_,_,_,h'⟩|⟨_,_,h'⟩<;>simp[sq h']
 |none::args,[],vs,h=>by cases vs<;>exact h.elim
 |none::args,B::Bs,[],h=>h.elim
 |none::args,B::Bs,v::vs,h=>by simp[sq h.2]
theorem wj:∀{l:List Nat},l.Nodup->∀(i j:Nat) (x:Nat),l[i]? =some x->l[j]? =some x->i=j
 |[],_,i,j,x,h,_=>by simp at h
 |a::l,hn,i,j,x,hi,hj=>by
  rw[List.nodup_cons]at hn
  cases i with
  |zero=>cases j with
   |zero=>rfl
   |succ j=>simp at hi hj;subst hi;exact absurd (List.mem_of_getElem? hj) hn.1
  |succ i=>cases j with
   |zero=>simp at hi hj;subst hj;exact absurd (List.mem_of_getElem? hi) hn.1
   |succ j=>rw[wj hn.2 i j x (by simpa using hi) (by simpa using hj)]
theorem yX{l:List (Nat×bY)} {w:World} {π:Nat->Nat->Prop} {β:Nat->Nat} (hl:∀b x,ct b l=some x->ou (fun _=>undef) w π (β b) ⟨x.cells,[]⟩):
  ∀{css:List (List AV)} {Bs:List Nat} {k:Nat},css.length=Bs.length->(∀j B,Bs[j]? =some B->β (k+j)=B)->gi l k css->cG w π css Bs
 |[],[],k,_,_,_=>trivial
 |[],B::Bs,k,h,_,_=>by simp at h
 |cs::css,[],k,h,_,_=>by simp at h
 |cs::css,B::Bs,k,h,hb,hh=>by
  obtain⟨x,hx,e⟩:=af hh.1
  refine⟨?_,yX hl (by simpa using h) (fun j B' hj=>by rw[show k+1+j=k+(j+1)by omega];exact hb (j+1) B' (by simpa using hj)) hh.2⟩
  have:=hl k x hx
  rw[<-e,<-hb 0 B rfl];exact this
theorem kL{w:World} {π:Nat->Nat->Prop}:∀{css:List (List AV)} {Bs:List Nat},cG w π css Bs->∀B∈Bs,∀o,¬π B o
 |[],[],_,B,hB=>by cases hB
 |[],_::_,h,_,_=>h.elim
 |_::_,[],h,_,_=>h.elim
 |cs::css,B'::Bs,h,B,hB=>by
  rcases List.mem_cons.1 hB with rfl|hB
  ·obtain⟨_,_,_,_,_,_,hn⟩:=h.1;exact hn
  ·exact kL h.2 B hB
theorem Rel.C7{P:Program} {w w':World} {π:Nat->Nat->Prop} {Bs:List Nat} {css css':List (List AV)} {nt:Nat} {s:S} {a:Act} {β:Nat->Nat} {τ:Nat->Value} {π':Nat->Nat->Prop} {U:Nat->Prop}
  (R:Rel P nt (gO.gY w Bs) w π U s a w' β τ π') (hbl:css.length=Bs.length) (h4:css.length<=4) (hl:css'.length=css.length) (hho:gi s.boxes 0 css'):cG w' π' css' Bs:=by
 refine yX (β:=β) (fun b x hb=>(R.boxes b x hb).2.2.1.tR) (by omega) (fun j B hj=>?_) hho
 have:j<Bs.length:=(List.getElem?_eq_some_iff.1 hj).1
 rw[Nat.zero_add,R.lQ j (by omega)]
 simp[gO.gY,hj]
theorem AR{l:List (Nat×bY)}:∀{css:List (List AV)} {k j:Nat},gi l k css->j<css.length->∃x,ct (k+j) l=some x
 |[],k,j,_,hj=>by simp at hj
 |cs::css,k,j,h,hj=>by
  cases j with
  |zero=>obtain⟨x,hx,_⟩:=af h.1;exact⟨x,hx⟩
  |succ j=>
   obtain⟨x,hx⟩:=AR h.2 (by simpa using hj)
   exact⟨x,by rw[show k+(j+1)=k+1+j by omega];exact hx⟩
theorem Rel.yY{P:Program} {w w':World} {π:Nat->Nat->Prop} {Bs:List Nat} {css css':List (List AV)} {nt:Nat} {s:S} {a:Act} {β:Nat->Nat} {τ:Nat->Value} {π':Nat->Nat->Prop} {U:Nat->Prop}
  (R:Rel P nt (gO.gY w Bs) w π U s a w' β τ π') (hbl:css.length=Bs.length) (h4:css.length<=4) (hl:css'.length=css.length) (hho:gi s.boxes 0 css') {q e:Nat} (hq:eK q s.live=some e):AB P w' π' (fun B=>w.heap.size<=B) e (τ q):=by
 have ht:=(R.live q e hq).2
 rcases ht with h|⟨B,len,cap,cur,i,hv,hok,hrest⟩
 ·exact .inl h
 ·refine .inr ⟨B,len,cap,cur,i,hv,?_,hrest⟩
  rcases hok with h|h
  ·exact h
  ·exfalso
   obtain⟨j,hj⟩:=List.mem_iff_getElem?.1 (show B∈Bs from h)
   have hjl:j<Bs.length:=(List.getElem?_eq_some_iff.1 hj).1
   obtain⟨x,hx⟩:=AR hho (j:=j) (by omega)
   rw[Nat.zero_add]at hx;refine R.cK q e j x hq hx ?_
   rw[hv,R.lQ j (by omega)]
   simp[gO.gY,js,hj]
theorem bO(hm:P.follows .mixedOrders=true) {f:FuncId} {cf:dc} {mo:Bool} (hcf:ji mo P f=some cf) {css css':List (List AV)} {args:List (Option AV)} {r:AV} {fr:Option Nat} (hn:args.length<=cf.nt) (hl:css'.length=css.length) (h4:css.length<=4)
  (h:aw (Pure P) cf.code (BO cf.res r fr css') (oC css args)):yw P f css args r fr css':=by
 obtain⟨fn,c,cc,hfn,hbody,hrs,hcc,ec,en,hfit,hcall⟩:=qQ hcf;rw[ec]at h;rw[en]at hn
 refine⟨hcall,hl,h4,fun w π Bs vs hprot hnd hbx hd=>?_⟩
 have hlen:=sq hd
 obtain⟨hbl,hbget⟩:=hbx.get
 have hβ:∀(j B:Nat),Bs[j]? =some B->(gO.gY w Bs).β j=B:=fun j B hj=>by simp[gO.gY,hj]
 have R:dJ P fn.ntmps (gO.gY w Bs) w π (oC css args) {tmps:=vs.toArray++Array.replicate (fn.ntmps-vs.toArray.size) undef,defers:=[]} w:=by
  refine⟨Nat.le_refl 4,(gO.gY w Bs).β,fun _=>undef,π,fun n=>n<4,fun _ h=>h,?_⟩
  have hbox:∀b x,ct b (oC css args).boxes=some x->∃B cs,b<4/\Bs[b]? =some B/\(gO.gY w Bs).β b=B/\x=⟨cs,[]⟩/\ou (fun _=>undef) w π B ⟨cs,[]⟩:=by
   intro b x hb;obtain⟨cs,_,h2,h3⟩:=t4 hb;simp only[Nat.sub_zero]at h2
   have hlt:b<css.length:=(List.getElem?_eq_some_iff.1 h2).1
   have hB:Bs[b]? =some Bs[b]:=List.getElem?_eq_getElem (by omega)
   exact⟨_,cs,by omega,hB,hβ _ _ hB,h3,hbget b cs _ h2 hB⟩
  refine{size:=?_,slots:=?_,boxes:=?_,inj:=?_,live:=fun q e h=>(by cases h),bS:=fun q q' e e' B h=>(by cases h),cK:=fun q e b x h=>(by cases h),below:=.refl _ _,fu:=Nat.le_refl _,ej:=hprot,eo:=fun _ _ h=>h,cH:=fun _ _ h=>.inl h,lQ:=fun _ _=>rfl,jt:=fun _ h=>h,kept:=fun _ _ _=>rfl}
  ·simp;omega
  ·intro t v hv
   obtain⟨x,_,hx,hor⟩:=oE hd hv;simp only[Nat.sub_zero]at hx
   have htl:t<vs.length:=(List.getElem?_eq_some_iff.1 hx).1
   have hget:(vs.toArray++Array.replicate (fn.ntmps-vs.toArray.size) undef)[t]? =some x:=by
    simp[Array.getElem?_append,htl]
    simpa using(List.getElem?_eq_some_iff.1 hx).2
   rcases hor with⟨a,rfl,hda⟩|⟨j,B,hB,⟨rfl,rfl⟩|⟨rfl,rfl⟩⟩
   ·exact⟨⟨x,hget,(oD (U:=fun n=>n<4) hda).1⟩,(oD (β:=id) (τ:=fun _=>undef) hda).2⟩
   ·refine⟨⟨_,hget,?_⟩,?_⟩
    ·show Value.pointer (some ⟨B,0,none⟩)=.pointer (some ⟨(gO.gY w Bs).β (0+j),0,none⟩)
     rw[Nat.zero_add,hβ j B hB]
    ·have:j<Bs.length:=(List.getElem?_eq_some_iff.1 hB).1
     show 0+j<4
     omega
   ·have hj:j<Bs.length:=(List.getElem?_eq_some_iff.1 hB).1
    refine⟨⟨_,hget,?_⟩,fun p hp=>?_⟩
    ·show Value.agg #[.pointer (some ⟨B,0,none⟩)]=.agg #[.pointer (some ⟨(gO.gY w Bs).β (0+j),0,none⟩)]
     rw[Nat.zero_add,hβ j B hB]
    ·simp at hp;subst hp
     show j<4
     omega
  ·intro b x hb
   obtain⟨B,cs,h1,h2,h3,rfl,h5⟩:=hbox b x hb
   exact⟨h1,.inr ⟨h1,by rw[h3];exact List.mem_of_getElem? h2⟩,by rw[h3];exact h5,fun o q hq=>by cases hq⟩
  ·intro b b' x x' hb hb' e
   obtain⟨B,_,_,h2,h3,_,_⟩:=hbox b x hb;obtain⟨B',_,_,h2',h3',_,_⟩:=hbox b' x' hb';rw[h3,h3']at e;subst e;exact wj hnd b b' B h2 h2'
 refine callsIn_wide.1 (callsIn_of_wp_marks (n:=0) (F:=Fence.wide) hfn hbody trivial (wpIn_mono (nL (oB hm c cc hcc hfit _ (fun _=>False) ⟨#[],[]⟩ (fun _ h=>h.elim) none 0 w _ _ _ _ ⟨R,fun l h=>by(cases h),⟨[],rfl,.nil,by simp⟩,fun _ h=>h.elim⟩ h)) ?_))
 have main:∀(s:S) (a':Act) (w':World),(aj (eW s cf.res) fun p=>p.1=r/\D8 fr p.2 s.live/\gi s.boxes 0 css')->dJ P fn.ntmps (gO.gY w Bs) w π s a' w'->
   ∃v,(results fn a'.tmps).run P w'=.ok v w'/\∃u π',Ending.returned v=.returned u/\sW (gO.gY w Bs) w w'/\(∀b o,π b o->π' b o)/\(∀b o,π' b o->π b o\/w.heap.size<=b)/\
    (∀b o,π' b o->b<w'.heap.size)/\cG w' π' css' Bs/\DV w' π' r u/\∀t,fr=some t->AB P w' π' (fun B=>w.heap.size<=B) t u:=by
  rintro s a' w' hq ⟨_,β,τ,π',U,hU,R'⟩
  obtain⟨⟨av,q⟩,hp,hav,hfr,hho⟩:=af hq;simp only at hav hfr hho;subst hav;obtain⟨v,hv,hdv,htq⟩:=tZ R' hrs hp
  have hB:=R'.C7 hbl h4 hl hho
  refine⟨v,hv,v,π',rfl,R'.below,R'.eo,fun b o h=>(R'.cH b o h).imp id (fun k=>k.elim id (fun k=>absurd h (kL hB b k o))),R'.ej,?_,hdv,fun t ht=>?_⟩
  ·refine yX (β:=β) (fun b x hb=>(R'.boxes b x hb).2.2.1.tR) (by omega) (fun j B hj=>?_) hho
   have:j<Bs.length:=(List.getElem?_eq_some_iff.1 hj).1
   rw[Nat.zero_add,R'.lQ j (by omega)]
   exact hβ j B hj
  ·subst ht
   simp only[D8]at hfr
   cases q with
   |none=>exact hfr.elim
   |some q=>
    rw[htq q rfl];exact R'.yY hbl h4 hl hho hfr
 rintro e a' w' ⟨s,hq,R',_,⟨Ds,hm1,hm2,hm3⟩,_⟩
 have hm1:a'.defers=Ds.map HC:=by simpa using hm1
 cases e with
 |normal=>show LeavesInM _ _ _ _ _ _ a'.defers _ _;rw[hm1];exact fj (main s a' · hq) Ds w' hm2 hm3 R' (Nat.le_refl _)
 |ret=>show LeavesInM _ _ _ _ _ _ a'.defers _ _;rw[hm1];exact fj (main s a' · hq) Ds w' hm2 hm3 R' (Nat.le_refl _)
 |_=>exact hq.elim
end
end Go.Eng
