/- Part 5 of the engine and its library. -/
import Derived.Test.YtjnbemnncjbmgaaGreatPk4
set_option linter.all false
set_option maxRecDepth 10000
set_option maxHeartbeats 4000000
namespace Go.Eng
open Go
def SV.has(b:Nat):SV->Prop
 | .ptr D _=>D=b
 | .vs D _ _ _=>D=b
 | .pt _ ps=>∃p∈ps,p.1=b
 |_=>False
def Ml(b:Nat) (s:S) (t:Nat):Prop:=∃v,lk t s.slots=some v/\v.has b
theorem Ml.ptr{b off:Nat} {s:S} {t:Nat} (h:lk t s.slots=some (.ptr b off)):Ml b s t:=⟨_,h,rfl⟩
structure sn (l lb:List Nat) (ap:Bool) (s s2:S):Prop where
 slots:∀t∈l,lk t s2.slots=lk t s.slots
 boxes:∀t∈lb,∀b x,Ml b s t->cj b s.boxes=some x->cj b s2.boxes=some x
 live:ap=true->∀t∈l,∀a q e,lk t s.slots=some (.dat a (some q))->d9 q s.live=some e->d9 q s2.live=some e
section
variable{l lb:List Nat} {ap:Bool} {s s2:S}
theorem sn.sub(h:sn l lb ap s s2) {L:List Nat} (M:∀t∈L,t∈l):sn L lb ap s s2:=
 ⟨λt D=>h.slots t (M t D),h.boxes,λe t D=>h.live e t (M t D)⟩
theorem sn.bX(h:sn l lb ap s s2) {x:aR} (L:∀t∈x.rd,t∈l) {v:SV} (D:Eng.bX s x=some v):Eng.bX s2 x=some v:=by
 cases x with
 |t n=>simp only[Eng.bX]at D⊢;rw[h.slots n (L n (by simp[aR.rd])),D]
 |k v=>exact D
theorem sn.aL(h:sn l lb ap s s2) {x:aR} (M:∀t∈x.rd,t∈l) {v:AV} (D:Eng.aL s x=some v):Eng.aL s2 x=some v:=by
 unfold Eng.aL at D⊢
 cases L:Eng.bX s x with
 |none=>rw[L]at D;cases D
 |some u=>rw[h.bX M L];rw[L]at D;exact D
theorem sn.ei(h:sn l lb ap s s2):∀{xs:List aR} (O:∀t∈bg xs,t∈l) {vs:List AV} (D:Eng.ei s xs=some vs),Eng.ei s2 xs=some vs
 |[],_,vs,D=>D
 |x::xs,O,vs,D=>by
  simp only[Eng.ei]at D⊢
  cases L:Eng.aL s x with
  |none=>simp[L]at D
  |some a=>
   cases R:Eng.ei s xs with
   |none=>simp[L,R]at D
   |some as=>
    rw[h.aL (λt M=>O t (by simp[bg,M])) L,h.ei (λt M=>O t (by simp[bg,M])) R]
    simpa[L,R]using D
theorem sn.iN(h:sn l lb ap s s2):∀{xs:List (Nat×Nat×aR)} (O:∀t∈A5 xs,t∈l) {vs:List (Nat×List AV)} (D:Eng.iN s xs=some vs),Eng.iN s2 xs=some vs
 |[],_,vs,D=>D
 |(o,z,x)::xs,O,vs,D=>by
  simp only[Eng.iN]at D⊢
  cases L:Eng.aL s x with
  |none=>simp[L]at D
  |some a=>
   cases R:Eng.iN s xs with
   |none=>simp[L,R]at D
   |some as=>
    rw[h.aL (λt M=>O t (by simp[A5,M])) L,h.iN (λt M=>O t (by simp[A5,M])) R]
    simpa only[L,R]using D
theorem sn.lq(h:sn l lb ap s s2) {z:Nat}:∀{xs:List aR} (O:∀t∈bg xs,t∈l) {vs:List (List AV)} (D:Eng.lq s z xs=some vs),Eng.lq s2 z xs=some vs
 |[],_,vs,D=>D
 |x::xs,O,vs,D=>by
  simp only[Eng.lq]at D⊢
  cases L:Eng.aL s x with
  |none=>simp[L]at D
  |some a=>
   cases R:Eng.lq s z xs with
   |none=>simp[L,R]at D
   |some as=>
    rw[h.aL (λt M=>O t (by simp[bg,M])) L,h.lq (λt M=>O t (by simp[bg,M])) R]
    simpa only[L,R]using D
theorem sn.A0(h:sn l lb ap s s2) {x:Option aR} (M:∀t∈QJ x,t∈l) {i:Int} (D:Eng.A0 s x=some i):Eng.A0 s2 x=some i:=by
 cases x with
 |none=>exact D
 |some x=>
  simp only[Eng.A0]at D⊢
  cases L:Eng.aL s x with
  |none=>simp[L,Eng.zO]at D
  |some a=>rw[h.aL M L];rw[L]at D;exact D
theorem sn.zP(h:sn l lb ap s s2) {xs:List (List AV)} {x:Option aR} (M:∀t∈QJ x,t∈l) {i:Int} (D:Eng.zP s xs x=some i):Eng.zP s2 xs x=some i:=by
 cases x with
 |none=>exact D
 |some x=>
  simp only[Eng.zP]at D⊢
  cases L:Eng.aL s x with
  |none=>simp[L,Eng.zO]at D
  |some a=>rw[h.aL M L];rw[L]at D;exact D
theorem sn.aW(h:sn l lb ap s s2) {hh:Bool}:∀{xs:List aR} (V:∀t∈bg xs,t∈l) (L:∀t∈bg xs,t∈lb) {p:List (Option AV)×List Nat} (R:Eng.ej hh s xs=some p) {css:List (List AV)} (M:Eng.aW s.boxes p.2=some css),Eng.ej hh s2 xs=some p/\Eng.aW s2.boxes p.2=some css
 |[],_,_,p,R,css,M=>by
  simp only[Eng.ej,fx]at R⊢;subst R;exact⟨rfl,M⟩
 |x::xs,V,L,p,R,css,M=>by
  simp only[Eng.ej]at R⊢
  split at R<;>try(cases R;done)
  ·rename_i a q as bs O h2
   cases R
   obtain⟨i1,Z⟩:=h.aW (λt D=>V t (by simp[bg,D])) (λt D=>L t (by simp[bg,D])) h2 M
   rw[h.bX (λt D=>V t (by simp[bg,D])) O,i1]
   exact⟨rfl,Z⟩
  ·rename_i cs as bs O h2
   cases R
   obtain⟨i1,Z⟩:=h.aW (λt D=>V t (by simp[bg,D])) (λt D=>L t (by simp[bg,D])) h2 M
   rw[h.bX (λt D=>V t (by simp[bg,D])) O,i1]
   exact⟨rfl,Z⟩
  ·rename_i b as bs O h2
   cases R;simp only[Eng.aW]at M
   split at M<;>try(cases M;done)
   rename_i y ac hy ab;cases M
   obtain⟨i1,Z⟩:=h.aW (λt D=>V t (by simp[bg,D])) (λt D=>L t (by simp[bg,D])) h2 ab
   rw[h.bX (λt D=>V t (by simp[bg,D])) O,i1]
   refine⟨rfl,?_⟩
   have aa:Eng.cj b s2.boxes=some y:=by
    cases x with
    |t n=>exact h.boxes n (L n (by simp[bg,aR.rd])) b y (.ptr O) hy
    |k v=>simp[Eng.bX]at O
   simp only[Eng.aW,aa,Z]
  ·rename_i b as bs O h2
   cases hh<;>cases R
   simp only[Eng.aW]at M
   split at M<;>try(cases M;done)
   rename_i y ac hy ab;cases M
   obtain⟨i1,Z⟩:=h.aW (λt D=>V t (by simp[bg,D])) (λt D=>L t (by simp[bg,D])) h2 ab
   rw[h.bX (λt D=>V t (by simp[bg,D])) O,i1]
   refine⟨rfl,?_⟩
   have aa:Eng.cj b s2.boxes=some y:=by
    cases x with
    |t n=>exact h.boxes n (L n (by simp[bg,aR.rd])) b y ⟨_,O,(b,0),adI,rfl⟩ hy
    |k v=>simp[Eng.bX]at O
   simp only[Eng.aW,aa,Z]
theorem sn.fj(h:sn l lb ap s s2) {hh:Bool}:∀{xs:List aR} (V:∀t∈bg xs,t∈l) (L:∀t∈bg xs,t∈lb) {p:List (Option AV)×List Nat} (R:Eng.ej hh s xs=some p) {css:List (List AV)} (M:Eng.fj s.boxes p.2=some css),Eng.ej hh s2 xs=some p/\Eng.fj s2.boxes p.2=some css
 |[],_,_,p,R,css,M=>by
  simp only[Eng.ej,fx]at R⊢;subst R;exact⟨rfl,M⟩
 |x::xs,V,L,p,R,css,M=>by
  simp only[Eng.ej]at R⊢
  split at R<;>try(cases R;done)
  ·rename_i a q as bs O h2
   cases R
   obtain⟨i1,Z⟩:=h.fj (λt D=>V t (by simp[bg,D])) (λt D=>L t (by simp[bg,D])) h2 M
   rw[h.bX (λt D=>V t (by simp[bg,D])) O,i1]
   exact⟨rfl,Z⟩
  ·rename_i cs as bs O h2
   cases R
   obtain⟨i1,Z⟩:=h.fj (λt D=>V t (by simp[bg,D])) (λt D=>L t (by simp[bg,D])) h2 M
   rw[h.bX (λt D=>V t (by simp[bg,D])) O,i1]
   exact⟨rfl,Z⟩
  ·rename_i b as bs O h2
   cases R;simp only[Eng.fj]at M
   split at M<;>try(cases M;done)
   rename_i cs ac hy ab;cases M
   obtain⟨i1,Z⟩:=h.fj (λt D=>V t (by simp[bg,D])) (λt D=>L t (by simp[bg,D])) h2 ab
   rw[h.bX (λt D=>V t (by simp[bg,D])) O,i1]
   refine⟨rfl,?_⟩
   have aa:Eng.cj b s2.boxes=some ⟨cs,[]⟩:=by
    cases x with
    |t n=>exact h.boxes n (L n (by simp[bg,aR.rd])) b _ (.ptr O) hy
    |k v=>simp[Eng.bX]at O
   simp only[Eng.fj,aa,Z]
  ·rename_i b as bs O h2
   cases hh<;>cases R
   simp only[Eng.fj]at M
   split at M<;>try(cases M;done)
   rename_i cs ac hy ab;cases M
   obtain⟨i1,Z⟩:=h.fj (λt D=>V t (by simp[bg,D])) (λt D=>L t (by simp[bg,D])) h2 ab
   rw[h.bX (λt D=>V t (by simp[bg,D])) O,i1]
   refine⟨rfl,?_⟩
   have aa:Eng.cj b s2.boxes=some ⟨cs,[]⟩:=by
    cases x with
    |t n=>exact h.boxes n (L n (by simp[bg,aR.rd])) b _ ⟨_,O,(b,0),adI,rfl⟩ hy
    |k v=>simp[Eng.bX]at O
   simp only[Eng.fj,aa,Z]
theorem sn.cj(h:sn l lb ap s s2) {x:aR} (L:∀t∈x.rd,t∈lb) {b off:Nat} {bx:bV} (D:Eng.bX s x=some (.ptr b off)) (M:Eng.cj b s.boxes=some bx):Eng.cj b s2.boxes=some bx:=by
 cases x with
 |t n=>exact h.boxes n (L n (by simp[aR.rd])) b bx (.ptr D) M
 |k v=>simp[Eng.bX]at D
end
inductive Delta where
 |no
 |box (b:bV)
 |live (e:Nat)
 |app (q e:Nat)
 |st (b:Nat) (x:bV)
 |calls (ids:List Nat) (css:List (List AV)) (fr:Option Nat)
 |KE (ids:List Nat) (css:List (List AV))
section
variable (d:Delta) (id:Nat) (o:bU) {b:Nat} {x:aR} (s:S)
def Delta.app':S:=
 match d with
 | .no=>s
 | .box b=>{s with boxes:=(id,b)::s.boxes}
 | .live e=>{s with live:=(id,e)::s.live}
 | .app q e=>{s with live:=(id,e)::jT q s.live}
 | .st b x=>{s with boxes:=o7 b x s.boxes}
 | .calls ids css fr=>{s with boxes:=dR ids css s.boxes,live:=match fr with|some e=>(id,e)::s.live|none=>s.live}
 | .KE ids css=>iC ids css s
def Delta.ok:Prop:=
 match d with
 | .st b _=>o.D6=false/\∃t∈o.QK,Ml b s t
 | .calls ids _ _=>o.D6=false/\∀b∈ids,∃t∈o.QK,Ml b s t
 | .KE ids _=>o.D6=true/\∀b∈ids,∃t∈o.QK,Ml b s t
 | .app q _=>o.isApp=true/\∃t∈o.rd,∃a,lk t s.slots=some (.dat a (some q))
 |_=>True
def bV.iA(U:Nat->Prop) (x:bV):Prop:=∀o q,d9 o x.tags=some q->U q
def Delta.iA(U:Nat->Prop) (d:Delta):Prop:=
 match d with
 | .box b=>b.iA U
 | .app q _=>U q
 | .st b x=>U b/\x.iA U
 | .calls ids _ _=>∀b∈ids,U b
 |_=>True
structure S.iA (U:Nat->Prop) (s:S):Prop where
 slots:∀t v,lk t s.slots=some v->v.iA U
 boxes:∀b x,cj b s.boxes=some x->U b/\x.iA U
 live:∀q e,d9 q s.live=some e->U q
theorem S.iA.bX{U:Nat->Prop} {s:S} (h:s.iA U) {x:aR} {v:SV} (D:Eng.bX s x=some v):v.iA U:=by
 cases x with
 |t n=>exact h.slots n v D
 |k a=>simp only[Eng.bX,fx]at D;subst D;trivial
theorem yl{s:S} {off:Nat} (h:bX s x=some (.ptr b off)):∃t∈x.rd,Ml b s t:=by
 cases x with
 |t n=>exact⟨n,by simp[aR.rd],.ptr h⟩
 |k v=>simp[bX]at h
theorem jl{s:S} {R:Bool}:∀{xs:List aR} {p:List (Option AV)×List Nat},ej R s xs=some p->∀b∈p.2,∃t∈bg xs,Ml b s t
 |[],p,h,b,hb=>by simp[ej]at h;subst h;cases hb
 |x::xs,p,h,b,hb=>by
  unfold ej at h;split at h
  ·rename_i O M
   cases h;obtain⟨t,D,L⟩:=jl M b hb
   exact⟨t,by simp[bg,D],L⟩
  ·rename_i O M
   cases h;obtain⟨t,D,L⟩:=jl M b hb
   exact⟨t,by simp[bg,D],L⟩
  ·rename_i O M
   cases h
   rcases nm.1 hb with rfl|hb
   ·obtain⟨t,D,L⟩:=yl O
    exact⟨t,by simp[bg,D],L⟩
   ·obtain⟨t,D,L⟩:=jl M b hb
    exact⟨t,by simp[bg,D],L⟩
  ·rename_i O M
   cases R<;>cases h
   rcases nm.1 hb with rfl|hb
   ·cases x with
    |t n=>exact⟨n,by simp[bg,aR.rd],_,O,(b,0),adI,rfl⟩
    |k v=>simp[bX]at O
   ·obtain⟨t,D,L⟩:=jl M b hb
    exact⟨t,by simp[bg,D],L⟩
  ·cases h
def y8(v:SV):Prop:=∀b,v.has b->(b=id/\o.U9=true)\/∃t∈o.v7,Ml b s t
theorem y8.dat{id:Nat} {o:bU} {s:S} {a:AV} {q:Option Nat}:y8 id o s (.dat a q):=λ_ h=>h.elim
theorem y8.undef{id:Nat} {o:bU} {s:S}:y8 id o s .undef:=λ_ h=>h.elim
theorem y8.rp{id:Nat} {o:bU} {s:S} {cs:List AV}:y8 id o s (.rp cs):=λ_ h=>h.elim
theorem oJ{s:S} {v:SV} (h:bX s x=some v) (D:v.has b):∃t∈x.rd,Ml b s t:=by
 cases x with
 |t n=>exact⟨n,by simp[aR.rd],_,h,D⟩
 |k a=>simp only[bX,fx]at h;subst h;exact D.elim
def Path(C:aT) (id:Nat) (o:bU) (K:SV->S->Prop) (s:S):Prop:=
 ∃v d,K v (Delta.app' d id s)/\d.ok o s/\(∀U,s.iA U->v.iA (fQ U id)/\d.iA U)/\y8 id o s v/\∀s2,sn o.rd o.y6 o.isApp s s2->∀K':SV->S->Prop,K' v (d.app' id s2)->bF C id o K' s2
end
section
variable{C:aT} {id:Nat} {o:bU} {K:SV->S->Prop} {s:S}
theorem Path.val{a:AV} (hK:K (.dat a none) s) (h:∀s2,sn o.rd o.y6 o.isApp s s2->∀K':SV->S->Prop,K' (.dat a none) s2->bF C id o K' s2):Path C id o K s:=
 ⟨.dat a none,.no,hK,trivial,λU _=>⟨trivial,trivial⟩,.dat,h⟩
theorem Path.sv{v:SV} (hK:K v s) (M:∀U,s.iA U->v.iA U) (L:y8 id o s v) (h:∀s2,sn o.rd o.y6 o.isApp s s2->∀K':SV->S->Prop,K' v s2->bF C id o K' s2):Path C id o K s:=
 ⟨v,.no,hK,trivial,λU D=>⟨SV.pG (λn h=>.inl h) (M U D),trivial⟩,L,h⟩
theorem Be(h:bF C id o K s):Path C id o K s:=by
 cases o<;>simp only[bF]at h
 case mv x=>
  obtain⟨v,R,hK⟩:=ah h
  exact Path.sv hK (λU M=>M.bX R) (λb e=>.inr (oJ R e)) λs2 D K' hk=>by simpa[bF,D.bX (λt ht=>ht) R]using hk
 case pick c a b=>
  obtain⟨t,ht,h⟩:=ah h
  cases t<;>try(exact h.elim)
  rename_i t;obtain⟨u,hu,h⟩:=ah h;obtain⟨v,R,a9,a7⟩:=ah h;cases t
  ·exact Path.sv (a7 rfl) (λU M=>M.bX R) (λb' e=>.inr (by obtain⟨t,ht,hl⟩:=oJ (x:=b) R e;exact⟨t,by simp[bU.v7,ht],hl⟩)) λs2 D K' hk=>by
    simpa[bF,D.aL (x:=c) (by simp[bU.rd];grind) ht,D.bX (x:=a) (by simp[bU.rd];grind) hu,D.bX (x:=b) (by simp[bU.rd];grind) R]using hk
  ·exact Path.sv (a9 rfl) (λU M=>M.bX hu) (λb' e=>.inr (by obtain⟨t,ht,hl⟩:=oJ (x:=a) hu e;exact⟨t,by simp[bU.v7,ht],hl⟩)) λs2 D K' hk=>by
    simpa[bF,D.aL (x:=c) (by simp[bU.rd];grind) ht,D.bX (x:=a) (by simp[bU.rd];grind) hu,D.bX (x:=b) (by simp[bU.rd];grind) R]using hk
 case alloc cs=>
  exact⟨.ptr id 0,.box ⟨cs,[]⟩,h,trivial,λU _=>⟨.inr rfl,λo q hq=>by cases hq⟩,λb e=>.inl ⟨e.symm,rfl⟩,λs2 D K' hk=>hk⟩
 case box x=>
  obtain⟨a,O,au,hK⟩:=ah h
  exact⟨.ptr id 0,.box ⟨a.cells,[]⟩,hK,trivial,λU _=>⟨.inr rfl,λo q hq=>by cases hq⟩,λb e=>.inl ⟨e.symm,rfl⟩,λs2 D K' hk=>by
   simpa[bF,D.aL (x:=x) (by simp[bU.rd]) O,au,Delta.app']using hk⟩
 case build zs ps=>
  obtain⟨p,L,hK⟩:=ah h
  exact Path.val hK λs2 D K' hk=>by simpa[bF,D.iN (by simp[bU.rd]) L]using hk
 case U6 e z xs=>
  obtain⟨p,L,hK⟩:=ah h
  exact⟨.dat (.sl p) (some id),.live e,hK,trivial,λU M=>⟨.inr rfl,trivial⟩,.dat,λs2 D K' hk=>by simpa[bF,D.lq (by simp[bU.rd]) L,Delta.app']using hk⟩
 case ld x sz=>
  obtain⟨p,L,h⟩:=ah h
  cases p<;>try(exact h.elim)
  ·rename_i b off
   obtain⟨bx,Z,h⟩:=ah h;obtain⟨a,O,hK⟩:=ah h
   refine Path.sv hK (λU M=>?_) .dat λs2 D K' hk=>by simpa[bF,D.bX (x:=x) (by simp[bU.rd]) L,D.cj (x:=x) (by simp[bU.y6]) L Z,O]using hk
   cases sz with
   |some n=>trivial
   |none=>
    cases hq:d9 off bx.tags with
    |none=>trivial
    |some q=>exact(M.boxes b bx Z).2 off q hq
  ·rename_i cs
   obtain⟨a,O,hK⟩:=ah h
   exact Path.val hK λs2 D K' hk=>by simpa[bF,D.bX (x:=x) (by simp[bU.rd]) L,O]using hk
 case st x v sz=>
  obtain⟨p,L,h⟩:=ah h
  cases p<;>try(exact h.elim)
  rename_i b off;obtain⟨bx,Z,h⟩:=ah h;obtain⟨u,hu,h⟩:=ah h
  cases u<;>try(exact h.elim)
  rename_i a q;obtain⟨h1,h2,h3,hK⟩:=h
  refine⟨.undef,.st b ⟨setCells bx.cells off a.cells,match(generalizing:=false) q with|some q=>(off,q)::bx.tags.filter (λp=>p.1<off||off+sz<=p.1)|none=>bx.tags.filter (λp=>p.1<off||off+sz<=p.1)⟩,hK,⟨rfl,yl (x:=x) L⟩,λU M=>⟨trivial,?_,?_⟩,.undef,λs2 D K' hk=>?_⟩
  ·exact(M.boxes b bx Z).1
  ·intro o q' ad
   have an:∀q',d9 o (bx.tags.filter (λp=>p.1<off||off+sz<=p.1))=some q'->U q':=λq' ad=>
    (M.boxes b bx Z).2 o q' (F9 ad (λx=>rfl)).1
   cases q with
   |none=>exact an q' ad
   |some q=>
    simp only[d9]at ad;cases a4:o==off
    ·rw[a4]at ad;exact an q' ad
    ·rw[a4]at ad
     simp only[gs,fx]at ad;subst ad;exact M.bX hu
  ·simp only[bF,D.bX (x:=x) (by simp[bU.rd];grind) L,D.bX (x:=v) (by simp[bU.rd];grind) hu,D.cj (x:=x) (by simp[bU.y6]) L Z,ay]
   exact⟨h1,h2,h3,hk⟩
 case fa x off=>
  obtain⟨p,L,h⟩:=ah h
  cases p<;>try(exact h.elim)
  ·exact Path.sv h (λU M=>(M.bX L:(SV.ptr _ _).iA U)) (λb' e=>.inr (by cases e;exact yl (x:=x) L)) λs2 D K' hk=>by simpa[bF,D.bX (x:=x) (by simp[bU.rd]) L]using hk
  ·exact Path.sv h (λU M=>trivial) .rp λs2 D K' hk=>by simpa[bF,D.bX (x:=x) (by simp[bU.rd]) L]using hk
  ·rename_i k ps
   match k,L,h with
   |2,L,h=>exact Path.sv h (λU M p hq=>(M.bX L:(SV.pt 2 ps).iA U) p (sm hq)) (λb' ⟨q,hq,e⟩=>.inr (oJ (x:=x) L ⟨q,sm hq,e⟩)) λs2 D K' hk=>by simpa[bF,D.bX (x:=x) (by simp[bU.rd]) L]using hk
   |0,_,h=>exact h.elim
   |1,_,h=>exact h.elim
   |k+3,_,h=>exact h.elim
 case Zb x sz=>
  obtain⟨p,L,h⟩:=ah h
  cases p<;>try(exact h.elim)
  rename_i k ps
  match k,sz,ps,L,h with
  |2,none,(b,o)::ps,L,h=>exact Path.sv h (λU M=>(M.bX L:(SV.pt 2 _).iA U) (b,o) adI) (λb' e=>.inr (oJ (x:=x) L ⟨(b,o),adI,e⟩)) λs2 D K' hk=>by simpa[bF,D.bX (x:=x) (by simp[bU.rd]) L]using hk
  |2,none,[],L,h=>exact h.elim
  |2,some n,ps,L,h=>
   have h':n<=ps.length/\K (.pt 0 (ps.take n)) s:=by cases ps<;>exact h
   exact Path.sv h'.2 (λU M p hq=>(M.bX L:(SV.pt 2 ps).iA U) p (zd hq)) (λb' ⟨q,hq,e⟩=>.inr (oJ (x:=x) L ⟨q,zd hq,e⟩)) λs2 D K' hk=>by
    have e:=D.bX (x:=x) (by simp[bU.rd]) L
    simp only[bF,e,ay]
    cases ps<;>exact⟨h'.1,hk⟩
  |0,_,_,_,h=>exact h.elim
  |1,_,_,_,h=>exact h.elim
  |k+3,_,_,_,h=>exact h.elim
 case Pd x i n z=>
  obtain⟨p,L,h⟩:=ah h;obtain⟨a,O,h⟩:=ah h;obtain⟨j,hj,ab,h⟩:=ah h
  cases p<;>try(exact h.elim)
  ·exact Path.sv h (λU M=>(M.bX L:(SV.ptr _ _).iA U)) (λb' e=>.inr (by cases e;exact yl (x:=x) L)) λs2 D K' hk=>by simpa[bF,D.bX (x:=x) (by simp[bU.rd];grind) L,D.aL (x:=i) (by simp[bU.rd];grind) O,hj,ab]using hk
  ·exact Path.sv h (λU M=>trivial) .rp λs2 D K' hk=>by simpa[bF,D.bX (x:=x) (by simp[bU.rd];grind) L,D.aL (x:=i) (by simp[bU.rd];grind) O,hj,ab]using hk
 case Za x i z=>
  obtain⟨p,L,h⟩:=ah h
  cases p<;>try(exact h.elim)
  rotate_left
  ·obtain⟨a,O,h⟩:=ah h
   obtain⟨j,hj,ab,hz,h⟩:=ah h
   exact Path.sv h (λU M=>(M.bX L:(SV.vs _ _ _ _).iA U)) (λb' e=>.inr (by cases e;exact oJ (x:=x) L rfl)) λs2 D K' hk=>by
    simp only[bF,D.bX (x:=x) (by simp[bU.rd];grind) L,D.aL (x:=i) (by simp[bU.rd];grind) O,hj,ay]
    exact⟨ab,hz,hk⟩
  obtain⟨a,O,h⟩:=ah h;obtain⟨j,hj,h⟩:=ah h;obtain⟨xs,ae,ab,h⟩:=ah h;obtain⟨row,a5,hz,hK⟩:=ah h
  refine Path.sv hK (λU M=>trivial) .rp λs2 D K' hk=>?_
  simp only[bF,D.bX (x:=x) (by simp[bU.rd];grind) L,D.aL (x:=i) (by simp[bU.rd];grind) O,hj,ae,a5,ay]
  exact⟨ab,hz,hk⟩
 case Jg x off sz=>
  obtain⟨p,L,h⟩:=ah h
  cases p<;>try(exact h.elim)
  obtain⟨a,O,hK⟩:=ah h
  exact Path.val hK λs2 D K' hk=>by simpa[bF,D.aL (x:=x) (by simp[bU.rd]) L,O]using hk
 case FT x i n z sz=>
  obtain⟨p,L,h⟩:=ah h
  cases p<;>try(exact h.elim)
  obtain⟨a,O,h⟩:=ah h;obtain⟨j,hj,ab,h⟩:=ah h;obtain⟨b,Z,hK⟩:=ah h
  exact Path.val hK λs2 D K' hk=>by simpa[bF,D.aL (x:=x) (by simp[bU.rd];grind) L,D.aL (x:=i) (by simp[bU.rd];grind) O,hj,ab,Z]using hk
 case bin op x y=>
  obtain⟨a,O,h⟩:=ah h;obtain⟨b,Z,h⟩:=ah h;obtain⟨v,R,hK⟩:=ah h
  exact Path.val hK λs2 D K' hk=>by simpa[bF,D.aL (x:=x) (by simp[bU.rd];grind) O,D.aL (x:=y) (by simp[bU.rd];grind) Z,R]using hk
 case eqc ks neg x y=>
  obtain⟨a,O,h⟩:=ah h
  cases a<;>try(exact h.elim)
  obtain⟨b,Z,h⟩:=ah h
  cases b<;>try(exact h.elim)
  obtain⟨v,R,hK⟩:=ah h
  exact Path.val hK λs2 D K' hk=>by simpa[bF,D.aL (x:=x) (by simp[bU.rd];grind) O,D.aL (x:=y) (by simp[bU.rd];grind) Z,R]using hk
 case bb neg x y=>
  obtain⟨a,O,h⟩:=ah h;obtain⟨b,Z,h⟩:=ah h;obtain⟨v,R,hK⟩:=ah h
  exact Path.val hK λs2 D K' hk=>by simpa[bF,D.aL (x:=x) (by simp[bU.rd];grind) O,D.aL (x:=y) (by simp[bU.rd];grind) Z,R]using hk
 case un op x=>
  obtain⟨a,O,h⟩:=ah h;obtain⟨v,R,hK⟩:=ah h
  exact Path.val hK λs2 D K' hk=>by simpa[bF,D.aL (x:=x) (by simp[bU.rd]) O,R]using hk
 case vQ k x=>
  obtain⟨a,O,h⟩:=ah h;obtain⟨v,R,hK⟩:=ah h
  exact Path.val hK λs2 D K' hk=>by simpa[bF,D.aL (x:=x) (by simp[bU.rd]) O,R]using hk
 case I1 k x=>
  obtain⟨a,O,h⟩:=ah h;obtain⟨v,R,hK⟩:=ah h
  exact Path.val hK λs2 D K' hk=>by simpa[bF,D.aL (x:=x) (by simp[bU.rd]) O,R]using hk
 case Mp k x=>
  obtain⟨a,O,h⟩:=ah h;obtain⟨v,R,hK⟩:=ah h
  exact Path.val hK λs2 D K' hk=>by simpa[bF,D.aL (x:=x) (by simp[bU.rd]) O,R]using hk
 case FU x=>
  obtain⟨v,R,hK⟩:=ah h
  exact Path.sv hK (λU M=>M.bX R) (λb e=>.inr (oJ R e)) λs2 D K' hk=>by simpa[bF,D.bX (λt ht=>ht) R]using hk
 case Mq x=>
  obtain⟨a,O,h⟩:=ah h
  cases a<;>try(exact h.elim)
  rotate_left
  ·exact Path.val h λs2 D K' hk=>by simpa[bF,D.bX (x:=x) (by simp[bU.rd]) O]using hk
  obtain⟨v,R,hK⟩:=ah h
  exact Path.val hK λs2 D K' hk=>by simpa[bF,D.bX (x:=x) (by simp[bU.rd]) O,R]using hk
 case Mr n=>exact Path.val h λs2 D K' hk=>by simpa[bF]using hk
 case slV x n z hi=>
  obtain⟨p,L,h⟩:=ah h
  cases p<;>try(exact h.elim)
  rename_i b off;obtain⟨a,O,h2⟩:=ah h;obtain⟨j,hj,ab,hK⟩:=ah h2
  refine Path.sv hK (λU M=>?_) (λb' e=>.inr (by cases e;exact oJ (x:=x) L rfl)) λs2 D K' hk=>?_
  ·have:(SV.ptr b off).iA U:=M.bX L
   exact this
  ·simp only[bF,D.bX (x:=x) (by simp[bU.rd];grind) L,D.aL (x:=hi) (by simp[bU.rd];grind) O,hj,ay]
   exact⟨ab,hk⟩
 case FV e z bytes y x=>
  obtain⟨p,L,h⟩:=ah h
  cases p<;>try(exact h.elim)
  rename_i b off n z';obtain⟨q,hq,h2⟩:=ah h
  cases q<;>try(exact h2.elim)
  rename_i b' o';obtain⟨⟨e1,e2⟩,h3⟩:=h2;obtain⟨bx,Z,h4,hK⟩:=ah h3
  have hy:∀t∈y.rd,t∈(bU.FV e z bytes y x).rd:=by simp[bU.rd];grind
  have hx:∀t∈x.rd,t∈(bU.FV e z bytes y x).rd:=by simp[bU.rd];grind
  rw[e1]at hq
  by_cases hn:n=0
  ·rw[fp hn]at hK
   refine Path.val hK λs2 D K' hk=>?_
   have ar:=D.cj (x:=x) (by simp[bU.y6]) hq Z
   simp only[bF,D.bX hy L,D.bX hx hq,ay,fp hn,ar];exact⟨⟨trivial,e2⟩,h4,hk⟩
  ·rw[fb hn]at hK
   refine⟨.dat (.sl (dI z n (bx.cells.drop off))) (some id),.live e,hK,trivial,λU M=>⟨.inr rfl,trivial⟩,.dat,λs2 D K' hk=>?_⟩
   have ar:=D.cj (x:=x) (by simp[bU.y6]) hq Z
   simp only[bF,D.bX hy L,D.bX hx hq,ay,fb hn,ar];exact⟨⟨trivial,e2⟩,h4,hk⟩
 case app e z bytes x y=>
  obtain⟨p,L,h⟩:=ah h
  cases p<;>try(exact h.elim)
  rename_i a q;obtain⟨xs,ae,h⟩:=ah h;obtain⟨b,Z,h⟩:=ah h;obtain⟨ys,ao,h1,h2,h3,h⟩:=ah h
  have hx:∀t∈x.rd,t∈(bU.app e z bytes x y).rd:=by simp[bU.rd];grind
  have hy:∀t∈y.rd,t∈(bU.app e z bytes x y).rd:=by simp[bU.rd];grind
  cases a<;>try(exact h.elim)
  ·--nil
   simp only[]at h;split at h
   ·rename_i he
    refine Path.val h λs2 D K' hk=>?_
    simp only[bF,D.bX hx L,D.aL hy Z,ae,ao,ay,fp he];exact⟨h1,h2,h3,hk⟩
   ·rename_i he
    refine⟨.dat (.sl (xs++ys)) (some id),.live e,h,trivial,λU M=>⟨.inr rfl,trivial⟩,.dat,λs2 D K' hk=>?_⟩
    simp only[bF,D.bX hx L,D.aL hy Z,ae,ao,ay,fb he];exact⟨h1,h2,h3,hk⟩
  ·cases q with
   |none=>exact h.elim
   |some q=>
    obtain⟨hq,hK⟩:=h
    have a6:∃t∈(bU.app e z bytes x y).rd,∃a,lk t s.slots=some (.dat a (some q)):=by
     cases x with
     |t n=>exact⟨n,hx n (by simp[aR.rd]),_,L⟩
     |k v=>simp[bX]at L
    refine⟨.dat (.sl (xs++ys)) (some id),.app q e,hK,⟨rfl,a6⟩,λU M=>⟨.inr rfl,M.live q e hq⟩,.dat,λs2 D K' hk=>?_⟩
    have a8:d9 q s2.live=some e:=by
     cases x with
     |t n=>exact D.live rfl n (hx n (by simp[aR.rd])) _ q e L hq
     |k v=>simp[bX]at L
    simp only[bF,D.bX hx L,D.aL hy Z,ae,ao,ay];exact⟨h1,h2,h3,a8,hk⟩
 case call f args=>
  obtain⟨as,has,r,fr,hc,hK⟩:=ah h
  cases fr with
  |none=>exact Path.val hK λs2 D K' hk=>by simp only[bF,D.ei (by simp[bU.rd]) has,ay];exact⟨r,none,hc,hk⟩
  |some e=>exact⟨.dat r (some id),.live e,hK,trivial,λU M=>⟨.inr rfl,trivial⟩,.dat,λs2 D K' hk=>by simp only[bF,D.ei (by simp[bU.rd]) has,ay];exact⟨r,some e,hc,hk⟩⟩
 case ew f args=>
  obtain⟨p,L,ac,h⟩:=ah h;obtain⟨css,aa,r,fr,V,hc,hK⟩:=ah h
  have a2:∀U,s.iA U->∀b∈p.2,U b:=by
   intro U M b Z
   obtain⟨k,hk⟩:=nf.1 Z
   obtain⟨x,hx,_⟩:=(gY aa).2 k b hk
   exact(M.boxes b x hx).1
  have ak:∀s2,sn (bU.ew f args).rd (bU.ew f args).y6 (bU.ew f args).isApp s s2->∀K':SV->S->Prop,K' (.dat r (fr.map λ_=>id)) (Delta.app' (.calls p.2 V fr) id s2)->bF C id (.ew f args) K' s2:=by
   intro s2 D K' hk
   obtain⟨h1,h2⟩:=D.aW (xs:=args) (by simp[bU.rd]) (by simp[bU.y6]) L aa
   simp only[bF,h1,h2,ay];exact⟨ac,r,fr,V,hc,hk⟩
  exact⟨.dat r (fr.map λ_=>id),.calls p.2 V fr,hK,⟨rfl,jl L⟩,λU M=>⟨by cases fr with|none=>trivial|some e=>exact .inr rfl,a2 U M⟩,.dat,ak⟩
 case vX f args=>
  obtain⟨p,L,ac,h⟩:=ah h;obtain⟨css,aa,v,V,hc,hK⟩:=ah h
  refine⟨.dat v none,.calls p.2 V none,hK,⟨rfl,jl L⟩,λU M=>⟨trivial,λb Z=>?_⟩,.dat,λs2 D K' hk=>?_⟩
  ·obtain⟨k,hk⟩:=nf.1 Z
   obtain⟨x,hx,_⟩:=(gY aa).2 k b hk
   exact(M.boxes b x hx).1
  ·obtain⟨h1,h2⟩:=D.aW (xs:=args) (by simp[bU.rd]) (by simp[bU.y6]) L aa
   simp only[bF,h1,h2,ay];exact⟨ac,v,V,hc,hk⟩
 case gy g args=>
  obtain⟨a,O,h⟩:=ah h
  cases a<;>try(exact h.elim)
  rename_i fn first caps
  cases fn<;>try(exact h.elim)
  obtain⟨as,has,r,fr,hc,hK⟩:=ah h
  have hg:∀t∈g.rd,t∈(bU.gy g args).rd:=by simp[bU.rd];grind
  have am:∀t∈bg args,t∈(bU.gy g args).rd:=by simp[bU.rd];grind
  cases fr with
  |none=>exact Path.val hK λs2 D K' hk=>by simp only[bF,D.aL hg O,D.ei am has,ay];exact⟨r,none,hc,hk⟩
  |some e=>exact⟨.dat r (some id),.live e,hK,trivial,λU M=>⟨.inr rfl,trivial⟩,.dat,λs2 D K' hk=>by simp only[bF,D.aL hg O,D.ei am has,ay];exact⟨r,some e,hc,hk⟩⟩
 case ext x i=>
  obtain⟨a,O,h⟩:=ah h;obtain⟨v,R,hK⟩:=ah h
  exact Path.val hK λs2 D K' hk=>by simpa[bF,D.aL (x:=x) (by simp[bU.rd]) O,R]using hk
 case xt e x=>
  obtain⟨a,O,h⟩:=ah h;obtain⟨v,R,hK⟩:=ah h
  exact Path.val hK λs2 D K' hk=>by simpa[bF,D.aL (x:=x) (by simp[bU.rd]) O,R]using hk
 case ixB x i=>
  obtain⟨p,L,h⟩:=ah h
  cases p<;>try(exact h.elim)
  obtain⟨a,O,h⟩:=ah h;obtain⟨j,hj,h⟩:=ah h;obtain⟨b,Z,hK⟩:=ah h
  exact Path.val hK λs2 D K' hk=>by simpa[bF,D.aL (x:=x) (by simp[bU.rd];grind) L,D.aL (x:=i) (by simp[bU.rd];grind) O,hj,Z]using hk
 case isn neg x=>
  obtain⟨a,O,h⟩:=ah h;obtain⟨v,R,hK⟩:=ah h
  exact Path.val hK λs2 D K' hk=>by simpa[bF,D.aL (x:=x) (by simp[bU.rd]) O,R]using hk
 case DX f args=>
  obtain⟨p,L,ac,h⟩:=ah h;obtain⟨css,aa,r,hc,hK⟩:=ah h
  refine Path.val hK λs2 D K' hk=>?_
  obtain⟨h1,h2⟩:=D.fj (xs:=args) (by simp[bU.rd]) (by simp[bU.y6]) L aa
  simp only[bF,h1,h2,ay];exact⟨ac,r,hc,hk⟩
 case tR g args=>
  obtain⟨a,O,h⟩:=ah h
  cases a<;>try(exact h.elim)
  rename_i fn first caps
  cases fn<;>try(exact h.elim)
  rename_i f
  cases first<;>try(exact h.elim)
  cases caps<;>try(exact h.elim)
  obtain⟨p,L,ac,h⟩:=ah h;obtain⟨css,aa,r,hc,hK⟩:=ah h
  have hg:∀t∈g.rd,t∈(bU.tR g args).rd:=by simp[bU.rd];grind
  refine Path.val hK λs2 D K' hk=>?_
  obtain⟨h1,h2⟩:=D.fj (xs:=args) (by simp[bU.rd];grind) (by simp[bU.y6]) L aa
  simp only[bF,D.aL hg O,h1,h2,ay];exact⟨ac,r,hc,hk⟩
 case gK g args=>
  obtain⟨a,O,h⟩:=ah h
  cases a<;>try(exact h.elim)
  rename_i fn first caps
  cases fn<;>try(exact h.elim)
  rename_i f
  cases first<;>try(exact h.elim)
  cases caps<;>try(exact h.elim)
  obtain⟨p,L,ac,h⟩:=ah h;obtain⟨css,aa,r,fr,V,hc,hK⟩:=ah h
  have a2:∀U,s.iA U->∀b∈p.2,U b:=by
   intro U M b Z
   obtain⟨k,hk⟩:=nf.1 Z
   obtain⟨x,hx,_⟩:=(gY aa).2 k b hk
   exact(M.boxes b x hx).1
  have hg:∀t∈g.rd,t∈(bU.gK g args).rd:=by simp[bU.rd];grind
  have ak:∀s2,sn (bU.gK g args).rd (bU.gK g args).y6 (bU.gK g args).isApp s s2->∀K':SV->S->Prop,K' (.dat r (fr.map λ_=>id)) (Delta.app' (.calls p.2 V fr) id s2)->bF C id (.gK g args) K' s2:=by
   intro s2 D K' hk
   obtain⟨h1,h2⟩:=D.aW (xs:=args) (by simp[bU.rd];grind) (by simp[bU.y6]) L aa
   simp only[bF,D.aL hg O,h1,h2,ay];exact⟨ac,r,fr,V,hc,hk⟩
  exact⟨.dat r (fr.map λ_=>id),.calls p.2 V fr,hK,⟨rfl,jl L⟩,λU M=>⟨by cases fr with|none=>trivial|some e=>exact .inr rfl,a2 U M⟩,.dat,ak⟩
 case Zl x n z=>
  obtain⟨p,L,h⟩:=ah h
  cases p<;>try(exact h.elim)
  ·rename_i b off
   obtain⟨h4,h⟩:=h;obtain⟨bx,Z,al,hK⟩:=ah h
   refine⟨_,.KE [b] [bx.cells],hK,⟨rfl,λb' a3=>?_⟩,λU M=>⟨trivial,trivial⟩,.dat,λs2 D K' hk=>?_⟩
   ·simp only[rf]at a3;subst a3;exact yl (x:=x) L
   ·simp only[bF,D.bX (x:=x) (by simp[bU.rd]) L,D.cj (x:=x) (by simp[bU.y6]) L Z,ay]
    exact⟨h4,al,hk⟩
  ·obtain⟨al,hK⟩:=h
   refine Path.val hK λs2 D K' hk=>?_
   simp only[bF,D.bX (x:=x) (by simp[bU.rd]) L,ay]
   exact⟨al,hk⟩
 case vV fn a b=>
  obtain⟨as,has,h⟩:=ah h;obtain⟨p,L,au,h⟩:=ah h;obtain⟨css,aa,hK⟩:=ah h
  have ak:∀s2,sn (bU.vV fn a b).rd (bU.vV fn a b).y6 (bU.vV fn a b).isApp s s2->∀K':SV->S->Prop,K' (.dat (.fn fn as (kQ p.1 css)) none) (iC p.2 css s2)->bF C id (.vV fn a b) K' s2:=by
   intro s2 D K' hk
   obtain⟨h1,h2⟩:=D.aW (xs:=b) (by simp[bU.rd];grind) (by simp[bU.y6]) L aa
   simp only[bF,D.ei (xs:=a) (by simp[bU.rd];grind) has,h1,h2,ay]
   exact⟨au,hk⟩
  cases b with
  |nil=>
   simp[ej]at L;subst L
   have e:∀s:S,iC [] css s=s:=λs=>by cases css<;>rfl
   simp only[e]at hK ak;exact Path.val hK ak
  |cons x b=>exact⟨_,.KE p.2 css,hK,⟨rfl,jl L⟩,λU M=>⟨trivial,trivial⟩,.dat,ak⟩
 case Zk z x lo hi=>
  obtain⟨a,O,h⟩:=ah h;obtain⟨xs,ae,h⟩:=ah h;obtain⟨l,hl,h⟩:=ah h;obtain⟨m,hm,h1,h2,hK⟩:=ah h
  refine Path.val hK λs2 D K' hk=>?_
  simp only[bF,D.aL (x:=x) (by simp[bU.rd];grind) O,ae,D.A0 (x:=lo) (by simp[bU.rd];grind) hl,D.zP (x:=hi) (by simp[bU.rd];grind) hm,ay]
  exact⟨h1,h2,hk⟩
 case nc x=>
  obtain⟨p,L,h⟩:=ah h
  cases p with
  |ptr b o=>exact Path.sv h (λU M=>(M.bX L:(SV.ptr _ _).iA U)) (λb' e=>.inr (by cases e;exact yl (x:=x) L)) λs2 D K' hk=>by simpa[bF,D.bX (x:=x) (by simp[bU.rd]) L]using hk
  |rp cs=>exact Path.sv h (λU M=>trivial) .rp λs2 D K' hk=>by simpa[bF,D.bX (x:=x) (by simp[bU.rd]) L]using hk
  |undef=>exact h.elim
  |vs _ _ _ _=>exact h.elim
  |nX _ _ _=>exact h.elim
  |raw _ _=>exact h.elim
  |pt _ _=>exact h.elim
  |dat a q=>
   cases a<;>try(exact h.elim)
   case ref cs=>exact Path.sv h (λU M=>trivial) .rp λs2 D K' hk=>by simpa[bF,D.bX (x:=x) (by simp[bU.rd]) L]using hk
   rename_i fn as bs
   cases fn<;>try(exact h.elim)
   exact Path.sv h (λU M=>M.bX (v:=.dat _ q) L) .dat λs2 D K' hk=>by simpa[bF,D.bX (x:=x) (by simp[bU.rd]) L]using hk
 case mm mx args=>
  obtain⟨as,has,h⟩:=ah h
  cases as with
  |nil=>exact h.elim
  |cons a r=>
   obtain⟨v,R,hK⟩:=ah h
   exact Path.val hK λs2 D K' hk=>by simpa[bF,D.ei (xs:=args) (by simp[bU.rd]) has,R]using hk
end
section
variable (C:aT) (id:Nat) {U:Nat->Prop} {ap:Bool} {d:Option Nat} {l lb:List Nat} {s:S} {v:SV} (o:CO)
theorem lA{α:Type} (n m:Nat) (x y:α):(bif n==m then x else y)=if n=m then x else y:=by
 by_cases h:n=m
 ·simp[h]
 ·have D:(n==m)=false:=by simpa using h
  simp[h,D]
def kR(K:S->Prop) (s:S):Prop:=
 gq s o.g (bF C id o.op (λv D=>K (D.put o.dst v)) s) (K (s.put o.dst .undef))
theorem sC{C:aT} {base i:Nat} {o:CO} {r:List CO} {K:S->Prop}:jM C base i (o::r) K s=kR C (base+i) o (jM C base (i+1) r K) s:=rfl
theorem sn.refl:sn l lb ap s s:=⟨λ_ _=>rfl,λ_ _ _ _ _ h=>h,λ_ _ _ _ _ _ _ h=>h⟩
theorem sn.trans {l lb:List Nat} {ap:Bool} {s s2 s3:S} (hl:∀ t∈lb,t∈l) (h:sn l lb ap s s2) (k:sn l lb ap s2 s3):sn l lb ap s s3 :=
  ⟨fun t ht=>(k.slots t ht).trans (h.slots t ht),fun t ht b x hv hb=>k.boxes t ht b x (let ⟨v,h1,h2⟩:=hv; ⟨v,by rw [h.slots t (hl t ht)]; exact h1,h2⟩) (h.boxes t ht b x hv hb),
   fun e t ht a q e' hv hq=>k.live e t ht a q e' (by rw [h.slots t ht]; exact hv) (h.live e t ht a q e' hv hq)⟩
theorem t6{t:Nat}:lk t (s.put d v).slots=if d=some t then some v else lk t s.slots:=by
 cases d with
 |none=>simp[S.put]
 |some d=>
  simp only[S.put,lk,lA]
  by_cases h:t=d
  ·subst h;simp
  ·have D:¬(some d=some t):=λe=>h (Ax e).symm
   rw[fb h,fb D]
theorem jy:(s.put d v).boxes=s.boxes:=by cases d<;>rfl
theorem lB:(s.put d v).live=s.live:=by cases d<;>rfl
theorem jz{m:Nat} {b:bV}:∀{l:List (Nat×bV)} {n:Nat},cj n (o7 m b l)=if n=m then(cj m l).map λ_=>b else cj n l
 |[],n=>by simp[o7,cj]
 |(k,v)::r,n=>by
  have O:=jz (m:=m) (b:=b) (l:=r) (n:=n)
  simp only[o7,lA]
  by_cases D:m=k
  ·subst D
   simp only[kw,cj,lA]
   by_cases M:n=m
   ·simp[M]
   ·simp[M]
  ·simp only[D,il,cj,lA,O]
   by_cases L:n=k
   ·have:¬n=m:=λe=>D (e.symm.trans L)
    simp[L,Ne.symm D]
   ·simp only[L,il]
theorem ym{m:Nat}:∀{l:List (Nat×Nat)} {n:Nat},d9 n (jT m l)=if n=m then none else d9 n l
 |[],n=>by simp[jT,d9]
 |(k,v)::r,n=>by
  have M:=ym (m:=m) (l:=r) (n:=n)
  simp only[jT,lA]
  by_cases D:m=k
  ·subst D
   simp only[kw,d9,lA,M]
   by_cases O:n=m
   ·simp[O]
   ·simp[O]
  ·simp only[D,il,d9,lA,M]
   by_cases L:n=k
   ·simp[L,Ne.symm D]
   ·simp only[L,il]
structure vR (s s2:S):Prop where
 slots:∀t,lk t s2.slots=lk t s.slots
 boxes:∀b,cj b s2.boxes=cj b s.boxes
 live:∀q,d9 q s2.live=d9 q s.live
theorem vR.refl:vR s s:=⟨λ_=>rfl,λ_=>rfl,λ_=>rfl⟩
theorem vR.symm{s s2:S} (h:vR s s2):vR s2 s:=⟨λt=>(h.slots t).symm,λt=>(h.boxes t).symm,λt=>(h.live t).symm⟩
theorem vR.trans{s s2 D:S} (h:vR s s2) (k:vR s2 D):vR s D:=⟨λt=>(k.slots t).trans (h.slots t),λt=>(k.boxes t).trans (h.boxes t),λt=>(k.live t).trans (h.live t)⟩
theorem vR.agr{s2:S} (h:vR s s2):sn l lb ap s s2:=
 ⟨λt _=>h.slots t,λt _ b x _ D=>by rw[h.boxes];exact D,λ_ t _ a q e _ L=>by rw[h.live];exact L⟩
theorem vR.put{s s2:S} (h:vR s s2) (d:Option Nat) (v:SV):vR (s.put d v) (s2.put d v):=
 ⟨λt=>by rw[t6,t6,h.slots],λb=>by rw[jy,jy];exact h.boxes b,λb=>by rw[lB,lB];exact h.live b⟩
theorem Eb:∀{ids:List Nat} {css:List (List AV)} {l D:List (Nat×bV)},(∀b,cj b D=cj b l)->∀b,cj b (dR ids css D)=cj b (dR ids css l)
 |[],css,l,D,h,b=>by cases css<;>exact h b
 |i::ids,[],l,D,h,b=>h b
 |i::ids,cs::css,l,D,h,b=>by
  simp only[dR]
  exact Eb (λb=>by simp only[jz,h]) b
theorem vR.iC{ids:List Nat}:∀{css:List (List AV)} {s s2:S},vR s s2->vR (iC ids css s) (iC ids css s2):=by
 induction ids with
 |nil=>intro css s s2 h;cases css<;>exact h
 |cons b ids D=>
  intro css s s2 h
  cases css with
  |nil=>exact h
  |cons cs css=>
   exact D ⟨λt=>by simp only[Bd,h.slots],λc=>by simp only[pJ,h.boxes],h.live⟩
theorem vR.app{s s2:S} (h:vR s s2) (d:Delta) (id:Nat):vR (d.app' id s) (d.app' id s2):=by
 cases d with
 |KE ids css=>exact h.iC
 |no=>exact h
 |box b=>exact⟨h.slots,λc=>by simp only[Delta.app',cj,h.boxes],h.live⟩
 |live e=>exact⟨h.slots,h.boxes,λq=>by simp only[Delta.app',d9,h.live]⟩
 |app D e=>exact⟨h.slots,h.boxes,λq=>by simp only[Delta.app',d9,h.live,ym]⟩
 |st b x=>exact⟨h.slots,λc=>by simp only[Delta.app',h.boxes,jz],h.live⟩
 |calls ids css fr=>exact⟨h.slots,Eb h.boxes,λq=>by cases fr<;>simp only[Delta.app',d9,h.live]⟩
theorem vR.iA{s s2:S} (h:vR s s2) {U:Nat->Prop} (D:s.iA U):s2.iA U:=
 ⟨λt v M=>D.slots t v (by rw[<-h.slots];exact M),λb x L=>D.boxes b x (by rw[<-h.boxes];exact L),λq e O=>D.live q e (by rw[<-h.live];exact O)⟩
def Pq(s:S) (v:SV) (d:Delta):Prop:=
 (d.ok o.op s/\y8 id o.op s v)/\∀s2,sn o.rd o.op.y6 o.op.isApp s s2->∀K',K' ((d.app' id s2).put o.dst v)->kR C id o K' s2
theorem QY(h:s.iA U) (L:v.iA U):(s.put d v).iA U:=by
 refine⟨λt u D=>?_,λb x M=>h.boxes b x (by rwa[jy]at M),λq e O=>h.live q e (by rwa[lB]at O)⟩
 rw[t6]at D;split at D
 ·cases D;exact L
 ·exact h.slots t u D
theorem Fj{U':Nat->Prop} (D:∀n,U n->U' n) (h:s.iA U):s.iA U':=
 ⟨λt v O=>SV.pG D (h.slots t v O),λb x M=>⟨D _ (h.boxes b x M).1,λo q L=>D _ ((h.boxes b x M).2 o q L)⟩,λq e L=>D _ (h.live q e L)⟩
theorem Jo:∀{ids:List Nat} {css:List (List AV)} {l:List (Nat×bV)} {U:Nat->Prop},(∀b x,cj b l=some x->U b/\x.iA U)->(∀b∈ids,U b)->∀b x,cj b (dR ids css l)=some x->U b/\x.iA U
 |[],css,l,U,h,M,b,x,D=>by cases css<;>exact h b x D
 |i::ids,[],l,U,h,M,b,x,D=>h b x D
 |i::ids,cs::css,l,U,h,M,b,x,D=>by
  simp only[dR]at D
  refine Jo (λb x L=>?_) (λb D=>M b (lw _ D)) b x D
  rw[jz]at L;split at L
  ·rename_i e
   cases O:cj i l with
   |none=>simp[O]at L
   |some y=>
    simp[O]at L;subst L
    exact⟨e▸M i (nb ..),λo q R=>by cases R⟩
  ·exact h b x L
theorem Vu{ids:List Nat}:∀{css:List (List AV)} {s:S},s.iA U->(iC ids css s).iA U:=by
 induction ids with
 |nil=>intro css s h;cases css<;>exact h
 |cons b ids O=>
  intro css s h
  cases css with
  |nil=>exact h
  |cons cs css=>
   refine O ⟨λt v M=>?_,λc x L=>?_,h.live⟩
   ·simp only[Bd,eg]at M
    obtain⟨u,R,rfl⟩:=M
    have D:=h.slots t u R
    cases u with
    |ptr c o=>
     simp only[lg,lA];split
     ·trivial
     ·exact D
    |dat a q=>exact D
    |rp cs=>exact D
    |undef=>exact D
    |vs c o n z=>
     simp only[lg];cases V:(c==b&&decide (n*z<=(cs.drop o).length))
     ·exact D
     ·trivial
    |nX _ _ _=>exact D
    |raw _ _=>exact D
    |pt _ _=>exact D
   ·simp only[pJ]at L
    split at L
    ·cases L
    ·exact h.boxes c x L
theorem ZI(h:s.iA U) {d:Delta} {id:Nat} (hd:d.iA U):(d.app' id s).iA (fQ U id):=by
 have L:s.iA (fQ U id):=Fj (λn hn=>.inl hn) h
 cases d with
 |no=>exact L
 |KE ids css=>exact Vu L
 |box b=>
  refine⟨L.slots,λZ x M=>?_,L.live⟩
  simp only[Delta.app',cj]at M
  by_cases O:Z=id
  ·subst O
   simp at M;subst M
   exact⟨.inr rfl,λo q D=>.inl (hd o q D)⟩
  ·have R:(Z==id)=false:=by simpa using O
   rw[R]at M;exact L.boxes Z x M
 |live e=>
  refine⟨L.slots,L.boxes,λq V D=>?_⟩
  simp only[Delta.app',d9]at D
  by_cases O:q=id
  ·subst O;exact .inr rfl
  ·have R:(q==id)=false:=by simpa using O
   rw[R]at D;exact L.live q V D
 |app q0 e=>
  refine⟨L.slots,L.boxes,λq V D=>?_⟩
  simp only[Delta.app',d9]at D
  by_cases O:q=id
  ·subst O;exact .inr rfl
  ·have R:(q==id)=false:=by simpa using O
   rw[R,ym]at D;simp only[et]at D;split at D
   ·cases D
   ·exact L.live q V D
 |st b0 x0=>
  refine⟨L.slots,λb x M=>?_,L.live⟩
  simp only[Delta.app',jz]at M;split at M
  ·rename_i O
   cases hl:cj b0 s.boxes with
   |none=>simp[hl]at M
   |some y=>
    simp[hl]at M;subst M
    exact⟨.inl (O▸hd.1),λo q D=>.inl (hd.2 o q D)⟩
  ·exact L.boxes b x M
 |calls ids css fr=>
  refine⟨L.slots,Jo L.boxes (λb M=>.inl (hd b M)),λq V D=>?_⟩
  cases fr with
  |none=>exact L.live q V D
  |some e=>
   simp only[Delta.app',d9,lA]at D;split at D
   ·rename_i O;subst O;exact .inr rfl
   ·exact L.live q V D
end
section
variable{C:aT} {id:Nat} {o:CO} {K:S->Prop} {s:S}
theorem CO.Gb{o:CO} {t:Nat} (h:t∈o.op.rd):t∈o.rd:=by simp[CO.rd,h]
theorem gL(h:kR C id o K s):∃v d,Pq C id o s v d/\K ((d.app' id s).put o.dst v)/\∀U,s.iA U->((d.app' id s).put o.dst v).iA (fQ U id):=by
 have L:∀{K:S->Prop},bF C id o.op (λv s'=>K (s'.put o.dst v)) s->∃(v:SV) (d:Delta),(d.ok o.op s/\y8 id o.op s v)/\(∀s2,sn o.rd o.op.y6 o.op.isApp s s2->∀K':S->Prop,K' ((d.app' id s2).put o.dst v)->bF C id o.op (λv s'=>K' (s'.put o.dst v)) s2)/\K ((d.app' id s).put o.dst v)/\∀U,s.iA U->((d.app' id s).put o.dst v).iA (fQ U id):=by
  intro K h;obtain⟨v,d,hK,ac,V,aa,hs⟩:=Be h
  exact⟨v,d,⟨ac,aa⟩,λs2 D K' hk=>hs s2 (D.sub λt ht=>CO.Gb ht) _ hk,hK,λU O=>QY (ZI O (V U O).2) (V U O).1⟩
 have skip:K (s.put o.dst .undef)->(∀s2,sn o.rd o.op.y6 o.op.isApp s s2->∀K',K' (s2.put o.dst .undef)->kR C id o K' s2)->∃v d,Pq C id o s v d/\K ((d.app' id s).put o.dst v)/\∀U,s.iA U->((d.app' id s).put o.dst v).iA (fQ U id):=by
  intro hK hs
  exact⟨.undef,.no,⟨⟨trivial,.undef⟩,hs⟩,hK,λU V=>QY (Fj (λn h=>.inl h) V) trivial⟩
 unfold kR gq at h
 cases M:o.g with
 |none=>
  simp only[M]at h;obtain⟨v,d,Z,h2,h3,h4⟩:=L h
  exact⟨v,d,⟨Z,λs2 D K' hk=>by unfold kR gq;simp only[M];exact h2 s2 D K' hk⟩,h3,h4⟩
 |some p=>
  obtain⟨t,want⟩:=p
  have ab:t∈o.rd:=by simp[CO.rd,M]
  simp only[M]at h
  cases hl:lk t s.slots with
  |none=>simp[hl]at h
  |some v=>
   have R:∀s2,sn o.rd o.op.y6 o.op.isApp s s2->lk t s2.slots=some v:=λs2 D=>by rw[D.slots t ab,hl]
   simp only[hl]at h
   cases v with
   |ptr b o=>exact h.elim
   |rp cs=>exact h.elim
   |vs _ _ _ _=>exact h.elim
   |nX _ _ _=>exact h.elim
   |raw _ _=>exact h.elim
   |pt _ _=>exact h.elim
   |undef=>exact skip h λs2 D K' hk=>by unfold kR gq;simp only[M,R s2 D];exact hk
   |dat a q=>
    cases a<;>try(exact h.elim)
    rename_i b
    by_cases hb:b=want
    ·obtain⟨v,d,Z,h2,h3,h4⟩:=L (h.1 hb)
     exact⟨v,d,⟨Z,λs2 D K' hk=>by
      unfold kR gq;simp only[M,R s2 D]
      exact⟨λ_=>h2 s2 D K' hk,λhn=>by subst hb;cases b<;>cases hn⟩⟩,h3,h4⟩
    ·have ad:b=!want:=by cases b<;>cases want<;>simp_all
     exact skip (h.2 ad) λs2 D K' hk=>by
      unfold kR gq;simp only[M,R s2 D]
      exact⟨λe=>absurd e hb,λ_=>hk⟩
end
section
variable (d:Delta) (id:Nat) {α:Type} (s:S)
structure EB (α:Type) where
 tgt:Nat
 g:Option α->Option α
def EB.ap(e:EB α) (f:Nat->Option α):Nat->Option α:=λc=>if c=e.tgt then e.g (f c)else f c
def Ec(l:List (EB α)) (f:Nat->Option α):Nat->Option α:=l.foldl (λf e=>e.ap f) f
theorem EB.comm{e D:EB α} (h:e.tgt≠D.tgt) (f:Nat->Option α):e.ap (D.ap f)=D.ap (e.ap f):=by
 funext c
 simp only[EB.ap]
 by_cases L:c=e.tgt
 ·have O:c≠D.tgt:=λM=>h (L.symm.trans M)
  simp[L]
  have:¬e.tgt=D.tgt:=h
  simp[this]
 ·simp[L]
theorem Jp{α:Type} {e:EB α}:∀{l:List (EB α)} {f:Nat->Option α},(∀D∈l,e.tgt≠D.tgt)->Ec l (e.ap f)=e.ap (Ec l f)
 |[],f,_=>rfl
 |a::l,f,h=>by
  show Ec l (a.ap (e.ap f))=e.ap (Ec l (a.ap f))
  rw[<-EB.comm (h a nb)]
  exact Jp λD L=>h D (lw _ L)
theorem Gc{α:Type} {D:List (EB α)}:∀{l:List (EB α)} {f:Nat->Option α},(∀e∈l,∀M∈D,e.tgt≠M.tgt)->Ec l (Ec D f)=Ec D (Ec l f)
 |[],f,_=>rfl
 |e::l,f,h=>by
  show Ec l (e.ap (Ec D f))=Ec D (Ec l (e.ap f))
  rw[<-Jp (h e nb)]
  exact Gc λa L=>h a (lw _ L)
theorem sD{α:Type} {c:Nat}:∀{l:List (EB α)} {f:Nat->Option α},(∀e∈l,e.tgt≠c)->Ec l f c=f c
 |[],f,_=>rfl
 |e::l,f,h=>by
  show Ec l (e.ap f) c=f c
  rw[sD λa D=>h a (lw _ D)]
  exact fb (λL=>h e nb L.symm)
def wB:Delta->List Nat
 | .st b _=>[b]
 | .calls ids _ _=>ids
 | .KE ids _=>ids
 |_=>[]
def eB:List (EB bV):=
 match d with
 | .box b=>[⟨id,λ_=>some b⟩]
 | .st b x=>[⟨b,Option.map λ_=>x⟩]
 | .calls ids css _=>(ids.zip css).map λp=>⟨p.1,Option.map λ_=>⟨p.2,[]⟩⟩
 | .KE ids css=>(ids.zip css).map λp=>⟨p.1,λ_=>none⟩
 |_=>[]
def eL:List (EB Nat):=
 match d with
 | .live e=>[⟨id,λ_=>some e⟩]
 | .app q e=>[⟨q,λ_=>none⟩,⟨id,λ_=>some e⟩]
 | .calls _ _ (some e)=>[⟨id,λ_=>some e⟩]
 |_=>[]
def fz:SV->SV:=
 match d with
 | .KE ids css=>λv=>(ids.zip css).foldl (λv p=>lg p.1 p.2 v) v
 |_=>λv=>v
theorem Jq:∀{ids:List Nat} {css:List (List AV)} {l:List (Nat×bV)},(λb=>cj b (dR ids css l))=Ec ((ids.zip css).map λp=>(⟨p.1,Option.map λ_=>⟨p.2,[]⟩⟩:EB bV)) (λb=>cj b l)
 |[],css,l=>by cases css<;>rfl
 |i::ids,[],l=>rfl
 |i::ids,cs::css,l=>by
  show(λb=>cj b (dR ids css (o7 i ⟨cs,[]⟩ l)))=_
  rw[Jq (ids:=ids) (css:=css)]
  refine sd (Ec _) (funext λb=>?_)
  rw[jz]
  show _=if b=i then _ else _
  split
  ·rename_i e;subst e;rfl
  ·rfl
theorem MJ:∀{ids:List Nat} {css:List (List AV)} {s:S},(λb=>cj b (iC ids css s).boxes)=Ec ((ids.zip css).map λp=>(⟨p.1,λ_=>none⟩:EB bV)) (λb=>cj b s.boxes)
 |[],css,s=>by cases css<;>rfl
 |i::ids,[],s=>rfl
 |i::ids,cs::css,s=>by
  show(λb=>cj b (iC ids css {s with slots:=Fa i cs s.slots,boxes:=mI i s.boxes}).boxes)=_
  rw[MJ (ids:=ids) (css:=css)]
  refine sd (Ec _) (funext λb=>?_)
  rw[pJ];rfl
theorem Gd:∀{ids:List Nat} {css:List (List AV)} {s:S} (t:Nat),lk t (iC ids css s).slots=(lk t s.slots).map λv=>(ids.zip css).foldl (λv p=>lg p.1 p.2 v) v
 |[],css,s,t=>by cases css<;>simp[iC]
 |i::ids,[],s,t=>by simp[iC]
 |i::ids,cs::css,s,t=>by
  show lk t (iC ids css {s with slots:=Fa i cs s.slots,boxes:=mI i s.boxes}).slots=_
  rw[Gd (ids:=ids) (css:=css) t,Bd,Option.map_map]
  rfl
theorem zY:(λb=>cj b (d.app' id s).boxes)=Ec (eB d id) (λb=>cj b s.boxes):=by
 cases d with
 |box b=>funext c;simp only[Delta.app',cj,lA];show _=if c=id then _ else _;rfl
 |st b x=>
  funext c;simp only[Delta.app',jz]
  show _=if c=b then _ else _
  split
  ·rename_i e;subst e;rfl
  ·rfl
 |calls ids css fr=>exact Jq
 |KE ids css=>exact MJ
 |_=>rfl
theorem Dc:(λb=>d9 b (d.app' id s).live)=Ec (eL d id) (λb=>d9 b s.live):=by
 cases d with
 |live e=>funext c;simp only[Delta.app',d9,lA];rfl
 |app q e=>funext c;simp only[Delta.app',d9,lA,ym];show _=if c=id then _ else if c=q then _ else _;rfl
 |calls ids css fr=>cases fr with
  |none=>rfl
  |some e=>funext c;simp only[Delta.app',d9,lA];rfl
 |KE ids css=>simp only[Delta.app',Jn];rfl
 |_=>rfl
theorem t7(t:Nat):lk t (d.app' id s).slots=(lk t s.slots).map (fz d):=by
 cases d with
 |KE ids css=>exact Gd t
 |_=>simp[Delta.app',fz]
end
section
variable {C:aT} {U:Nat->Prop} {d:Delta} {id:Nat} {o:bU} {s:S} {t:Nat} {v:SV} {x y:CO}
theorem KH{e:EB bV} (h:e∈eB d id):e.tgt=id\/e.tgt∈wB d:=by
 cases d with
 |box b=>simp[eB]at h;subst h;exact .inl rfl
 |st b x=>simp[eB]at h;subst h;exact .inr (by simp[wB])
 |calls ids css fr=>
  simp only[eB,mi]at h
  obtain⟨p,hm,rfl⟩:=h;exact .inr (List.of_mem_zip hm).1
 |KE ids css=>
  simp only[eB,mi]at h
  obtain⟨p,hm,rfl⟩:=h;exact .inr (List.of_mem_zip hm).1
 |_=>simp[eB]at h
def SV.fix(v:SV):Prop:=(∀b cs,lg b cs v=v)/\∀b,¬v.has b
theorem sE{v:SV} (h:∀b cs,lg b cs v=v):∀{l:List (Nat×List AV)},l.foldl (λv p=>lg p.1 p.2 v) v=v
 |[]=>rfl
 |p::l=>by rw[xa,h,sE h]
theorem Ge:∀{l:List (Nat×List AV)} {v:SV},l.foldl (λv p=>lg p.1 p.2 v) v=v\/∃b L,v.has b/\(∀D,v.has D->D=b)/\b∈l.map (·.1)/\l.foldl (λv p=>lg p.1 p.2 v) v=L/\L.fix
 |[],v=>.inl rfl
 |p::l,v=>by
  simp only[xa]
  cases v with
  |ptr b o=>
   by_cases e:b=p.1
   ·have:lg p.1 p.2 (.ptr b o)=.rp (p.2.drop o):=by simp[lg,e]
    rw[this]
    have M:(SV.rp (p.2.drop o)).fix:=⟨λ_ _=>rfl,λ_ h=>h⟩
    exact .inr ⟨b,_,rfl,λD h=>Eq.symm h,by simp[e],sE M.1,M⟩
   ·have:lg p.1 p.2 (.ptr b o)=.ptr b o:=by
     have Z:(b==p.1)=false:=by simpa using e
     simp[lg,Z]
    rw[this]
    rcases Ge (l:=l) (v:=.ptr b o)with h|⟨D,L,h,R,hm,V,O⟩
    ·exact .inl h
    ·exact .inr ⟨D,L,h,R,lw _ hm,V,O⟩
  |vs b o n z=>
   by_cases e:(b==p.1&&decide (n*z<=(p.2.drop o).length))=true
   ·have:lg p.1 p.2 (.vs b o n z)=.dat (.sl (dI z n (p.2.drop o))) none:=by simp only[lg,e,gs]
    rw[this]
    have M:(SV.dat (.sl (dI z n (p.2.drop o))) none).fix:=⟨λ_ _=>rfl,λ_ h=>h⟩
    simp only[ed,l4]at e
    exact .inr ⟨b,_,rfl,λD h=>Eq.symm h,by simp[e.1],sE M.1,M⟩
   ·have:lg p.1 p.2 (.vs b o n z)=.vs b o n z:=by simp only[lg,zr.2 e,et]
    rw[this]
    rcases Ge (l:=l) (v:=.vs b o n z)with h|⟨D,L,h,R,hm,V,O⟩
    ·exact .inl h
    ·exact .inr ⟨D,L,h,R,lw _ hm,V,O⟩
  |pt k ps=>exact .inl (sE (λ_ _=>rfl))
  |_=>exact .inl (sE (λ_ _=>rfl))
theorem nv(d:Delta) (v:SV):fz d v=v\/∃b D,v.has b/\(∀L,v.has L->L=b)/\b∈wB d/\fz d v=D/\D.fix/\∃ids css,d=.KE ids css:=by
 cases d with
 |KE ids css=>
  rcases Ge (l:=ids.zip css) (v:=v)with h|⟨b,D,R,V,Z,O,h4⟩
  ·exact .inl h
  ·refine .inr ⟨b,D,R,V,?_,O,h4,ids,css,rfl⟩
   obtain⟨p,M,rfl⟩:=mi.1 Z;exact(List.of_mem_zip M).1
 |_=>exact .inl rfl
theorem Vv(d:Delta) (h:v.fix):fz d v=v:=by
 cases d with
 |KE ids css=>exact sE h.1
 |_=>rfl
theorem ZJ{L D:Delta} (hd:∀b∈wB L,b∉wB D) (v:SV):fz D (fz L v)=fz L (fz D v):=by
 rcases nv L v with h|⟨b,v',hb,hu,hw,h,hf,_⟩
 ·rw[h]
  rcases nv D v with k|⟨V,u',O,R,M,k,Z,_⟩
  ·rw[k,h]
  ·rw[k,Vv L Z]
 ·rcases nv D v with k|⟨V,u',O,R,M,k,Z,_⟩
  ·rw[k,h,Vv D hf]
  ·exact absurd M (hu V O▸hd b hw)
def ad6:Delta->Bool
 | .KE _ _=>true
 |_=>false
theorem Vw{o:CO} (h:Pq C id o s v d):∀b∈wB d,∃t∈o.op.QK,Ml b s t:=by
 intro b D
 have h:=h.1.1
 cases d<;>simp[wB]at D
 ·subst D;exact h.2
 ·exact h.2 b D
 ·exact h.2 b D
theorem Fk{o:CO} (h:Pq C id o s v d) (D:ad6 d=true):o.op.D6=true:=by
 have h:=h.1.1
 cases d<;>first|(cases D;done)|exact h.1
theorem QZ(h:t∈o.QK):t∈o.y6:=by cases o<;>first|exact h|(simp[bU.QK]at h;done)
theorem Vx(h:t∈o.y6):t∈o.rd:=by cases o<;>simp[bU.y6]at h<;>simp[bU.rd,h]
theorem Dd(h:t∈o.v7):t∈o.rd:=by
 cases o<;>simp[bU.v7]at h<;>first|(simp[bU.rd,h];done)|(rcases h with h|h<;>simp[bU.rd,h])
def Clear(x y:CO) (s:S):Prop:=∀b,(∃t∈x.op.QK,Ml b s t)->
 (∀t∈y.op.y6,¬Ml b s t)/\(x.op.D6=true->∀t∈y.rd,¬Ml b s t)
theorem SV.Gf{b:Nat} (h:v.has b) (D:v.iA U):U b:=by
 cases v<;>try(exact h.elim)
 ·have h:_=b:=h
  subst h;exact D
 ·have h:_=b:=h
  subst h;exact D
 ·obtain⟨p,L,rfl⟩:=h;exact D p L
theorem Pt(h:x.indep y=true):(∀d,x.dst=some d->d∉y.rd/\y.dst≠some d)/\(∀d,y.dst=some d->d∉x.rd)/\(x.op.isApp=true->y.op.isApp=false):=by
 unfold CO.indep at h;simp only[ed,pA]at h;obtain⟨⟨D,L⟩,M⟩:=h
 refine⟨λd hd=>?_,λd hd=>?_,λO=>?_⟩
 ·rw[hd]at D
  simp at D;exact⟨D.1,D.2⟩
 ·rw[hd]at L
  simpa using L
 ·rw[O]at M
  simpa using M
theorem ZK(a3:x.indep y=true) (hU:s.iA U) {i j:Nat} (hi:¬U i) (hj:¬U j) (ao:i≠j) (cx:Clear x y s) (cy:Clear y x s) {vx vy:SV} {Z V:Delta} (hx:Pq C i x s vx Z) (hy:Pq C j y ((Z.app' i s).put x.dst vx) vy V):
  sn y.rd y.op.y6 y.op.isApp ((Z.app' i s).put x.dst vx) s/\sn x.rd x.op.y6 x.op.isApp s ((V.app' j s).put y.dst vy)/\
   vR ((V.app' j ((Z.app' i s).put x.dst vx)).put y.dst vy) ((Z.app' i ((V.app' j s).put y.dst vy)).put x.dst vx):=by
 obtain⟨h1,h2,h5⟩:=Pt a3
 have wx:=Vw hx
 have au:∀b∈wB Z,U b:=λb R=>by obtain⟨t,_,v,O,M⟩:=wx b R;exact SV.Gf M (hU.slots t _ O)
 -- what y looks at
 have sy:∀t∈y.rd,lk t ((Z.app' i s).put x.dst vx).slots=lk t s.slots:=λt D=>by
  rw[t6,fb (λe=>(h1 t e).1 D),t7]
  cases O:lk t s.slots with
  |none=>rfl
  |some v=>
   simp only[mn]
   rcases nv Z v with h|⟨b,v',ab,_,R,h,_,ids,css,hd⟩
   ·rw[h]
   ·exact absurd (⟨v,O,ab⟩:Ml b s t) ((cx b (wx b R)).2 (Fk hx (by rw[hd];rfl)) t D)
 have wy:∀b∈wB V,∃t∈y.op.QK,Ml b s t:=λb R=>by
  obtain⟨t,D,v,O,M⟩:=Vw hy b R;rw[sy t (CO.Gb (Vx (QZ D)))]at O;exact⟨t,D,v,O,M⟩
 have an:∀b∈wB V,U b:=λb R=>by obtain⟨t,_,v,O,M⟩:=wy b R;exact SV.Gf M (hU.slots t _ O)
 have ag:∀b∈wB Z,b∉wB V:=λb R a6=>by
  obtain⟨t,D,O⟩:=wy b a6;exact(cx b (wx b R)).1 t (QZ D) O
 have sx:∀t∈x.rd,lk t ((V.app' j s).put y.dst vy).slots=lk t s.slots:=λt D=>by
  rw[t6,fb (λe=>h2 t e D),t7]
  cases O:lk t s.slots with
  |none=>rfl
  |some v=>
   simp only[mn]
   rcases nv V v with h|⟨b,v',ab,_,R,h,_,ids,css,hd⟩
   ·rw[h]
   ·exact absurd (⟨v,O,ab⟩:Ml b s t) ((cy b (wy b R)).2 (Fk hy (by rw[hd];rfl)) t D)
 -- tokens
 have tx:∀q0 e,Z=.app q0 e->U q0/\x.op.isApp=true:=λq0 e hd=>by
  have:=hx.1.1;rw[hd]at this
  obtain⟨h,t,D,a,O⟩:=this;exact⟨hU.slots t _ O,h⟩
 have ty:∀q0 e,V=.app q0 e->U q0/\y.op.isApp=true:=λq0 e hd=>by
  have:=hy.1.1;rw[hd]at this
  obtain⟨h,t,D,a,O⟩:=this;rw[sy t (CO.Gb D)]at O;exact⟨hU.slots t _ O,h⟩
 have lx:∀e∈eL Z i,e.tgt=i\/(U e.tgt/\x.op.isApp=true):=λe L=>by
  cases a2:Z<;>rw[a2]at L<;>simp[eL]at L
  ·subst L;exact .inl rfl
  ·rcases L with rfl|rfl
   ·exact .inr (tx _ _ a2)
   ·exact .inl rfl
  ·rename_i fr;cases fr<;>simp at L;subst L;exact .inl rfl
 have ly:∀e∈eL V j,e.tgt=j\/(U e.tgt/\y.op.isApp=true):=λe L=>by
  cases ar:V<;>rw[ar]at L<;>simp[eL]at L
  ·subst L;exact .inl rfl
  ·rcases L with rfl|rfl
   ·exact .inr (ty _ _ ar)
   ·exact .inl rfl
  ·rename_i fr;cases fr<;>simp at L;subst L;exact .inl rfl
 have ad:∀(d:Delta) (id:Nat) (s:S) (b:Nat),cj b (d.app' id s).boxes=Ec (eB d id) (λb=>cj b s.boxes) b:=λd id s b=>congrFun (zY d id s) b
 have ae:∀(d:Delta) (id:Nat) (s:S) (b:Nat),d9 b (d.app' id s).live=Ec (eL d id) (λb=>d9 b s.live) b:=λd id s b=>congrFun (Dc d id s) b
 refine⟨⟨λt D=>(sy t D).symm,λt D b z M R=>?_,λac t D a q e M hq=>?_⟩,⟨sx,λt D b z M R=>?_,λac t D a q e M hq=>?_⟩,?_⟩
 ·obtain⟨v,M,ab⟩:=M
  rw[sy t (CO.Gb (Vx D))]at M
  have am:U b:=SV.Gf ab (hU.slots t _ M)
  rw[jy,ad,sD]at R
  ·exact R
  ·intro e L aa
   rcases KH L with h|h
   ·exact hi (by rw[<-h,aa];exact am)
   ·exact(cx _ (wx _ h)).1 t D (by rw[aa];exact⟨v,M,ab⟩)
 ·rw[sy t D]at M
  have al:U q:=hU.slots t _ M
  rw[lB,ae,sD]at hq
  ·exact hq
  ·intro e L aa
   rcases lx e L with h|⟨_,h⟩
   ·exact hi (by rw[<-h,aa];exact al)
   ·have:=h5 h;rw[ac]at this;cases this
 ·have am:U b:=let ⟨_,h1,h2⟩:=M;SV.Gf h2 (hU.slots t _ h1)
  rw[jy,ad,sD]
  ·exact R
  ·intro e L aa
   rcases KH L with h|h
   ·exact hj (by rw[<-h,aa];exact am)
   ·exact(cy _ (wy _ h)).1 t D (by rw[aa];exact M)
 ·have al:U q:=hU.slots t _ M
  rw[lB,ae,sD]
  ·exact hq
  ·intro e L aa
   rcases ly e L with h|⟨_,h⟩
   ·exact hj (by rw[<-h,aa];exact al)
   ·have:=h5 ac;rw[h]at this;cases this
 ·have a5:fz V vx=vx:=by
   rcases nv V vx with h|⟨b,v',M,_,R,h,_,ids,css,hd⟩
   ·exact h
   ·exfalso
    rcases hx.1.2 b M with⟨rfl,_⟩|⟨t,D,O⟩
    ·exact hi (an _ R)
    ·exact(cy b (wy b R)).2 (Fk hy (by rw[hd];rfl)) t (CO.Gb (Dd D)) O
  have a4:fz Z vy=vy:=by
   rcases nv Z vy with h|⟨b,v',M,_,R,h,_,ids,css,hd⟩
   ·exact h
   ·exfalso
    rcases hy.1.2 b M with⟨rfl,_⟩|⟨t,D,u,O,hu⟩
    ·exact hj (au _ R)
    ·rw[sy t (CO.Gb (Dd D))]at O
     exact(cx b (wx b R)).2 (Fk hx (by rw[hd];rfl)) t (CO.Gb (Dd D)) ⟨u,O,hu⟩
  refine⟨λt=>?_,λb=>?_,λq=>?_⟩
  ·simp only[t6,t7]
   by_cases ex:x.dst=some t
   ·have ey:y.dst≠some t:=(h1 t ex).2
    simp[ex,ey,a5]
   ·by_cases ey:y.dst=some t
    ·simp[ex,ey,a4]
    ·simp only[ex,ey,il,Option.map_map]
     congr 1
     funext v
     exact(ZJ ag v).symm
  ·rw[jy,jy,ad,ad]
   have e1:(λb=>cj b ((Z.app' i s).put x.dst vx).boxes)=Ec (eB Z i) (λb=>cj b s.boxes):=by rw[jy];exact zY Z i s
   have e2:(λb=>cj b ((V.app' j s).put y.dst vy).boxes)=Ec (eB V j) (λb=>cj b s.boxes):=by rw[jy];exact zY V j s
   rw[e1,e2]
   refine congrFun (Gc (λe L e' ak h=>?_)) b
   rcases KH L with k|k<;>rcases KH ak with k'|k'
   ·exact ao (by rw[<-k,<-k',h])
   ·exact hi (an i (by rw[<-k,h];exact k'))
   ·exact hj (au j (by rw[<-k',<-h];exact k))
   ·exact ag _ k (by rw[h];exact k')
  ·rw[lB,lB,ae,ae]
   have e1:(λb=>d9 b ((Z.app' i s).put x.dst vx).live)=Ec (eL Z i) (λb=>d9 b s.live):=by rw[lB];exact Dc Z i s
   have e2:(λb=>d9 b ((V.app' j s).put y.dst vy).live)=Ec (eL V j) (λb=>d9 b s.live):=by rw[lB];exact Dc V j s
   rw[e1,e2]
   refine congrFun (Gc (λe L e' ak h=>?_)) q
   rcases lx e L with k|⟨k,kk⟩<;>rcases ly e' ak with k'|⟨k',kk'⟩
   ·exact ao (by rw[<-k,<-k',h])
   ·exact hi (by rw[<-k,h];exact k')
   ·exact hj (by rw[<-k',<-h];exact k)
   ·have:=h5 kk;rw[kk']at this;cases this
end
end Go.Eng
