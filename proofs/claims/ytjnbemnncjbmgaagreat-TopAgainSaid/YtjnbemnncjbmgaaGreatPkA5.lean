/- Part 5 of the engine and its library. -/
import Derived.Test.YtjnbemnncjbmgaaGreatPkA4
set_option linter.all false
set_option maxRecDepth 10000
set_option maxHeartbeats 4000000
namespace Go.Eng
open Go
def SV.has(b:Nat):SV->Prop
 | .ptr D _=>D=b
 | .vs D _ _ _=>D=b
 | .pt _ ps=>∃p∈ps,p.1=b
 |_=>False
def JI(b:Nat) (s:S) (t:Nat):Prop:=∃v,lk t s.slots=some v/\v.has b
theorem JI.ptr{b off:Nat} {s:S} {t:Nat} (h:lk t s.slots=some (.ptr b off)):JI b s t:=⟨_,h,rfl⟩
structure qg (l lb:List Nat) (ap:Bool) (s s2:S):Prop where
 slots:∀t∈l,lk t s2.slots=lk t s.slots
 boxes:∀t∈lb,∀b x,JI b s t->bO b s.boxes=some x->bO b s2.boxes=some x
 live:ap=true->∀t∈l,∀a q e,lk t s.slots=some (.dat a (some q))->dJ q s.live=some e->dJ q s2.live=some e
section
variable{l lb:List Nat} {ap:Bool} {s s2:S}
theorem qg.sub(h:qg l lb ap s s2) {M:List Nat} (L:∀t∈M,t∈l):qg M lb ap s s2:=
 ⟨λt D=>h.slots t (L t D),h.boxes,λe t D=>h.live e t (L t D)⟩
theorem qg.bJ(h:qg l lb ap s s2) {x:aM} (L:∀t∈x.rd,t∈l) {v:SV} (D:Eng.bJ s x=some v):Eng.bJ s2 x=some v:=by
 cases x with
 |t n=>simp only[Eng.bJ]at D⊢;rw[h.slots n (L n (by simp[aM.rd])),D]
 |k v=>exact D
theorem qg.aG(h:qg l lb ap s s2) {x:aM} (M:∀t∈x.rd,t∈l) {v:AV} (D:Eng.aG s x=some v):Eng.aG s2 x=some v:=by
 unfold Eng.aG at D⊢
 cases L:Eng.bJ s x with
 |none=>rw[L]at D;cases D
 |some u=>rw[h.bJ M L];rw[L]at D;exact D
theorem qg.dO(h:qg l lb ap s s2):∀{xs:List aM} (R:∀t∈aW xs,t∈l) {vs:List AV} (D:Eng.dO s xs=some vs),Eng.dO s2 xs=some vs
 |[],_,vs,D=>D
 |x::xs,R,vs,D=>by
  simp only[Eng.dO]at D⊢
  cases L:Eng.aG s x with
  |none=>simp[L]at D
  |some a=>
   cases M:Eng.dO s xs with
   |none=>simp[L,M]at D
   |some as=>
    rw[h.aG (λt O=>R t (by simp[aW,O])) L,h.dO (λt O=>R t (by simp[aW,O])) M]
    simpa[L,M]using D
theorem qg.gV(h:qg l lb ap s s2):∀{xs:List (Nat×Nat×aM)} (R:∀t∈yM xs,t∈l) {vs:List (Nat×List AV)} (D:Eng.gV s xs=some vs),Eng.gV s2 xs=some vs
 |[],_,vs,D=>D
 |(o,z,x)::xs,R,vs,D=>by
  simp only[Eng.gV]at D⊢
  cases L:Eng.aG s x with
  |none=>simp[L]at D
  |some a=>
   cases M:Eng.gV s xs with
   |none=>simp[L,M]at D
   |some as=>
    rw[h.aG (λt O=>R t (by simp[yM,O])) L,h.gV (λt O=>R t (by simp[yM,O])) M]
    simpa only[L,M]using D
theorem qg.j7(h:qg l lb ap s s2) {z:Nat}:∀{xs:List aM} (R:∀t∈aW xs,t∈l) {vs:List (List AV)} (D:Eng.j7 s z xs=some vs),Eng.j7 s2 z xs=some vs
 |[],_,vs,D=>D
 |x::xs,R,vs,D=>by
  simp only[Eng.j7]at D⊢
  cases L:Eng.aG s x with
  |none=>simp[L]at D
  |some a=>
   cases M:Eng.j7 s z xs with
   |none=>simp[L,M]at D
   |some as=>
    rw[h.aG (λt O=>R t (by simp[aW,O])) L,h.j7 (λt O=>R t (by simp[aW,O])) M]
    simpa only[L,M]using D
theorem qg.yK(h:qg l lb ap s s2) {x:Option aM} (M:∀t∈N2 x,t∈l) {i:Int} (D:Eng.yK s x=some i):Eng.yK s2 x=some i:=by
 cases x with
 |none=>exact D
 |some x=>
  simp only[Eng.yK]at D⊢
  cases L:Eng.aG s x with
  |none=>simp[L,Eng.xI]at D
  |some a=>rw[h.aG M L];rw[L]at D;exact D
theorem qg.xJ(h:qg l lb ap s s2) {xs:List (List AV)} {x:Option aM} (M:∀t∈N2 x,t∈l) {i:Int} (D:Eng.xJ s xs x=some i):Eng.xJ s2 xs x=some i:=by
 cases x with
 |none=>exact D
 |some x=>
  simp only[Eng.xJ]at D⊢
  cases L:Eng.aG s x with
  |none=>simp[L,Eng.xI]at D
  |some a=>rw[h.aG M L];rw[L]at D;exact D
theorem qg.aS(h:qg l lb ap s s2) {hh:Bool}:∀{xs:List aM} (V:∀t∈aW xs,t∈l) (L:∀t∈aW xs,t∈lb) {p:List (Option AV)×List Nat} (O:Eng.dP hh s xs=some p) {css:List (List AV)} (M:Eng.aS s.boxes p.2=some css),Eng.dP hh s2 xs=some p/\Eng.aS s2.boxes p.2=some css
 |[],_,_,p,O,css,M=>by
  simp only[Eng.dP,gc]at O⊢;subst O;exact⟨rfl,M⟩
 |x::xs,V,L,p,O,css,M=>by
  simp only[Eng.dP]at O⊢
  split at O<;>try(cases O;done)
  ·rename_i a q as bs R h2
   cases O
   obtain⟨Z,i2⟩:=h.aS (λt D=>V t (by simp[aW,D])) (λt D=>L t (by simp[aW,D])) h2 M
   rw[h.bJ (λt D=>V t (by simp[aW,D])) R,Z]
   exact⟨rfl,i2⟩
  ·rename_i cs as bs R h2
   cases O
   obtain⟨Z,i2⟩:=h.aS (λt D=>V t (by simp[aW,D])) (λt D=>L t (by simp[aW,D])) h2 M
   rw[h.bJ (λt D=>V t (by simp[aW,D])) R,Z]
   exact⟨rfl,i2⟩
  ·rename_i b as bs R h2
   cases O;simp only[Eng.aS]at M
   split at M<;>try(cases M;done)
   rename_i y ac hy ab;cases M
   obtain⟨Z,i2⟩:=h.aS (λt D=>V t (by simp[aW,D])) (λt D=>L t (by simp[aW,D])) h2 ab
   rw[h.bJ (λt D=>V t (by simp[aW,D])) R,Z]
   refine⟨rfl,?_⟩
   have aa:Eng.bO b s2.boxes=some y:=by
    cases x with
    |t n=>exact h.boxes n (L n (by simp[aW,aM.rd])) b y (.ptr R) hy
    |k v=>simp[Eng.bJ]at R
   simp only[Eng.aS,aa,i2]
  ·rename_i b as bs R h2
   cases hh<;>cases O
   simp only[Eng.aS]at M
   split at M<;>try(cases M;done)
   rename_i y ac hy ab;cases M
   obtain⟨Z,i2⟩:=h.aS (λt D=>V t (by simp[aW,D])) (λt D=>L t (by simp[aW,D])) h2 ab
   rw[h.bJ (λt D=>V t (by simp[aW,D])) R,Z]
   refine⟨rfl,?_⟩
   have aa:Eng.bO b s2.boxes=some y:=by
    cases x with
    |t n=>exact h.boxes n (L n (by simp[aW,aM.rd])) b y ⟨_,R,(b,0),aaP,rfl⟩ hy
    |k v=>simp[Eng.bJ]at R
   simp only[Eng.aS,aa,i2]
theorem qg.eI(h:qg l lb ap s s2) {hh:Bool}:∀{xs:List aM} (V:∀t∈aW xs,t∈l) (L:∀t∈aW xs,t∈lb) {p:List (Option AV)×List Nat} (O:Eng.dP hh s xs=some p) {css:List (List AV)} (M:Eng.eI s.boxes p.2=some css),Eng.dP hh s2 xs=some p/\Eng.eI s2.boxes p.2=some css
 |[],_,_,p,O,css,M=>by
  simp only[Eng.dP,gc]at O⊢;subst O;exact⟨rfl,M⟩
 |x::xs,V,L,p,O,css,M=>by
  simp only[Eng.dP]at O⊢
  split at O<;>try(cases O;done)
  ·rename_i a q as bs R h2
   cases O
   obtain⟨Z,i2⟩:=h.eI (λt D=>V t (by simp[aW,D])) (λt D=>L t (by simp[aW,D])) h2 M
   rw[h.bJ (λt D=>V t (by simp[aW,D])) R,Z]
   exact⟨rfl,i2⟩
  ·rename_i cs as bs R h2
   cases O
   obtain⟨Z,i2⟩:=h.eI (λt D=>V t (by simp[aW,D])) (λt D=>L t (by simp[aW,D])) h2 M
   rw[h.bJ (λt D=>V t (by simp[aW,D])) R,Z]
   exact⟨rfl,i2⟩
  ·rename_i b as bs R h2
   cases O;simp only[Eng.eI]at M
   split at M<;>try(cases M;done)
   rename_i cs ac hy ab;cases M
   obtain⟨Z,i2⟩:=h.eI (λt D=>V t (by simp[aW,D])) (λt D=>L t (by simp[aW,D])) h2 ab
   rw[h.bJ (λt D=>V t (by simp[aW,D])) R,Z]
   refine⟨rfl,?_⟩
   have aa:Eng.bO b s2.boxes=some ⟨cs,[]⟩:=by
    cases x with
    |t n=>exact h.boxes n (L n (by simp[aW,aM.rd])) b _ (.ptr R) hy
    |k v=>simp[Eng.bJ]at R
   simp only[Eng.eI,aa,i2]
  ·rename_i b as bs R h2
   cases hh<;>cases O
   simp only[Eng.eI]at M
   split at M<;>try(cases M;done)
   rename_i cs ac hy ab;cases M
   obtain⟨Z,i2⟩:=h.eI (λt D=>V t (by simp[aW,D])) (λt D=>L t (by simp[aW,D])) h2 ab
   rw[h.bJ (λt D=>V t (by simp[aW,D])) R,Z]
   refine⟨rfl,?_⟩
   have aa:Eng.bO b s2.boxes=some ⟨cs,[]⟩:=by
    cases x with
    |t n=>exact h.boxes n (L n (by simp[aW,aM.rd])) b _ ⟨_,R,(b,0),aaP,rfl⟩ hy
    |k v=>simp[Eng.bJ]at R
   simp only[Eng.eI,aa,i2]
theorem qg.bO(h:qg l lb ap s s2) {x:aM} (L:∀t∈x.rd,t∈lb) {b off:Nat} {bx:bH} (D:Eng.bJ s x=some (.ptr b off)) (M:Eng.bO b s.boxes=some bx):Eng.bO b s2.boxes=some bx:=by
 cases x with
 |t n=>exact h.boxes n (L n (by simp[aM.rd])) b bx (.ptr D) M
 |k v=>simp[Eng.bJ]at D
end
inductive Delta where
 |no
 |box (b:bH)
 |live (e:Nat)
 |app (q e:Nat)
 |st (b:Nat) (x:bH)
 |calls (ids:List Nat) (css:List (List AV)) (fr:Option Nat)
 |Ii (ids:List Nat) (css:List (List AV))
section
variable (d:Delta) (id:Nat) (o:bG) {b:Nat} {x:aM} (s:S)
def Delta.app':S:=
 match d with
 | .no=>s
 | .box b=>{s with boxes:=(id,b)::s.boxes}
 | .live e=>{s with live:=(id,e)::s.live}
 | .app q e=>{s with live:=(id,e)::jj q s.live}
 | .st b x=>{s with boxes:=nO b x s.boxes}
 | .calls ids css fr=>{s with boxes:=dm ids css s.boxes,live:=match fr with|some e=>(id,e)::s.live|none=>s.live}
 | .Ii ids css=>gM ids css s
def Delta.ok:Prop:=
 match d with
 | .st b _=>o.BD=false/\∃t∈o.N3,JI b s t
 | .calls ids _ _=>o.BD=false/\∀b∈ids,∃t∈o.N3,JI b s t
 | .Ii ids _=>o.BD=true/\∀b∈ids,∃t∈o.N3,JI b s t
 | .app q _=>o.isApp=true/\∃t∈o.rd,∃a,lk t s.slots=some (.dat a (some q))
 |_=>True
def bH.gK(U:Nat->Prop) (x:bH):Prop:=∀o q,dJ o x.tags=some q->U q
def Delta.gK(U:Nat->Prop) (d:Delta):Prop:=
 match d with
 | .box b=>b.gK U
 | .app q _=>U q
 | .st b x=>U b/\x.gK U
 | .calls ids _ _=>∀b∈ids,U b
 |_=>True
structure S.gK (U:Nat->Prop) (s:S):Prop where
 slots:∀t v,lk t s.slots=some v->v.gK U
 boxes:∀b x,bO b s.boxes=some x->U b/\x.gK U
 live:∀q e,dJ q s.live=some e->U q
theorem S.gK.bJ{U:Nat->Prop} {s:S} (h:s.gK U) {x:aM} {v:SV} (D:Eng.bJ s x=some v):v.gK U:=by
 cases x with
 |t n=>exact h.slots n v D
 |k a=>simp only[Eng.bJ,gc]at D;subst D;trivial
theorem vZ{s:S} {off:Nat} (h:bJ s x=some (.ptr b off)):∃t∈x.rd,JI b s t:=by
 cases x with
 |t n=>exact⟨n,by simp[aM.rd],.ptr h⟩
 |k v=>simp[bJ]at h
theorem iM{s:S} {R:Bool}:∀{xs:List aM} {p:List (Option AV)×List Nat},dP R s xs=some p->∀b∈p.2,∃t∈aW xs,JI b s t
 |[],p,h,b,hb=>by simp[dP]at h;subst h;cases hb
 |x::xs,p,h,b,hb=>by
  unfold dP at h;split at h
  ·rename_i O M
   cases h;obtain⟨t,L,D⟩:=iM M b hb
   exact⟨t,by simp[aW,L],D⟩
  ·rename_i O M
   cases h;obtain⟨t,L,D⟩:=iM M b hb
   exact⟨t,by simp[aW,L],D⟩
  ·rename_i O M
   cases h
   rcases nb.1 hb with rfl|hb
   ·obtain⟨t,L,D⟩:=vZ O
    exact⟨t,by simp[aW,L],D⟩
   ·obtain⟨t,L,D⟩:=iM M b hb
    exact⟨t,by simp[aW,L],D⟩
  ·rename_i O M
   cases R<;>cases h
   rcases nb.1 hb with rfl|hb
   ·cases x with
    |t n=>exact⟨n,by simp[aW,aM.rd],_,O,(b,0),aaP,rfl⟩
    |k v=>simp[bJ]at O
   ·obtain⟨t,L,D⟩:=iM M b hb
    exact⟨t,by simp[aW,L],D⟩
  ·cases h
def wW(v:SV):Prop:=∀b,v.has b->(b=id/\o.RM=true)\/∃t∈o.uu,JI b s t
theorem wW.dat{id:Nat} {o:bG} {s:S} {a:AV} {q:Option Nat}:wW id o s (.dat a q):=λ_ h=>h.elim
theorem wW.undef{id:Nat} {o:bG} {s:S}:wW id o s .undef:=λ_ h=>h.elim
theorem wW.rp{id:Nat} {o:bG} {s:S} {cs:List AV}:wW id o s (.rp cs):=λ_ h=>h.elim
theorem nv{s:S} {v:SV} (h:bJ s x=some v) (D:v.has b):∃t∈x.rd,JI b s t:=by
 cases x with
 |t n=>exact⟨n,by simp[aM.rd],_,h,D⟩
 |k a=>simp only[bJ,gc]at h;subst h;exact D.elim
def Path(C:aQ) (id:Nat) (o:bG) (K:SV->S->Prop) (s:S):Prop:=
 ∃v d,K v (Delta.app' d id s)/\d.ok o s/\(∀U,s.gK U->v.gK (eN U id)/\d.gK U)/\wW id o s v/\∀s2,qg o.rd o.wU o.isApp s s2->∀K':SV->S->Prop,K' v (d.app' id s2)->bn C id o K' s2
end
section
variable{C:aQ} {id:Nat} {o:bG} {K:SV->S->Prop} {s:S}
theorem Path.val{a:AV} (hK:K (.dat a none) s) (h:∀s2,qg o.rd o.wU o.isApp s s2->∀K':SV->S->Prop,K' (.dat a none) s2->bn C id o K' s2):Path C id o K s:=
 ⟨.dat a none,.no,hK,trivial,λU _=>⟨trivial,trivial⟩,.dat,h⟩
theorem Path.sv{v:SV} (hK:K v s) (M:∀U,s.gK U->v.gK U) (L:wW id o s v) (h:∀s2,qg o.rd o.wU o.isApp s s2->∀K':SV->S->Prop,K' v s2->bn C id o K' s2):Path C id o K s:=
 ⟨v,.no,hK,trivial,λU D=>⟨SV.nW (λn h=>.inl h) (M U D),trivial⟩,L,h⟩
theorem yV(h:bn C id o K s):Path C id o K s:=by
 cases o<;>simp only[bn]at h
 case mv x=>
  obtain⟨v,R,hK⟩:=ah h
  exact Path.sv hK (λU M=>M.bJ R) (λb e=>.inr (nv R e)) λs2 D K' hk=>by simpa[bn,D.bJ (λt ht=>ht) R]using hk
 case pick c a b=>
  obtain⟨t,ht,h⟩:=ah h
  cases t<;>try(exact h.elim)
  rename_i t;obtain⟨u,hu,h⟩:=ah h;obtain⟨v,R,a9,a7⟩:=ah h;cases t
  ·exact Path.sv (a7 rfl) (λU M=>M.bJ R) (λb' e=>.inr (by obtain⟨t,ht,hl⟩:=nv (x:=b) R e;exact⟨t,by simp[bG.uu,ht],hl⟩)) λs2 D K' hk=>by
    simpa[bn,D.aG (x:=c) (by simp[bG.rd];grind) ht,D.bJ (x:=a) (by simp[bG.rd];grind) hu,D.bJ (x:=b) (by simp[bG.rd];grind) R]using hk
  ·exact Path.sv (a9 rfl) (λU M=>M.bJ hu) (λb' e=>.inr (by obtain⟨t,ht,hl⟩:=nv (x:=a) hu e;exact⟨t,by simp[bG.uu,ht],hl⟩)) λs2 D K' hk=>by
    simpa[bn,D.aG (x:=c) (by simp[bG.rd];grind) ht,D.bJ (x:=a) (by simp[bG.rd];grind) hu,D.bJ (x:=b) (by simp[bG.rd];grind) R]using hk
 case alloc cs=>
  exact⟨.ptr id 0,.box ⟨cs,[]⟩,h,trivial,λU _=>⟨.inr rfl,λo q hq=>by cases hq⟩,λb e=>.inl ⟨e.symm,rfl⟩,λs2 D K' hk=>hk⟩
 case box x=>
  obtain⟨a,O,a2,hK⟩:=ah h
  exact⟨.ptr id 0,.box ⟨a.cells,[]⟩,hK,trivial,λU _=>⟨.inr rfl,λo q hq=>by cases hq⟩,λb e=>.inl ⟨e.symm,rfl⟩,λs2 D K' hk=>by
   simpa[bn,D.aG (x:=x) (by simp[bG.rd]) O,a2,Delta.app']using hk⟩
 case build zs ps=>
  obtain⟨p,L,hK⟩:=ah h
  exact Path.val hK λs2 D K' hk=>by simpa[bn,D.gV (by simp[bG.rd]) L]using hk
 case RG e z xs=>
  obtain⟨p,L,hK⟩:=ah h
  exact⟨.dat (.sl p) (some id),.live e,hK,trivial,λU M=>⟨.inr rfl,trivial⟩,.dat,λs2 D K' hk=>by simpa[bn,D.j7 (by simp[bG.rd]) L,Delta.app']using hk⟩
 case ld x sz=>
  obtain⟨p,L,h⟩:=ah h
  cases p<;>try(exact h.elim)
  ·rename_i b off
   obtain⟨bx,Z,h⟩:=ah h;obtain⟨a,O,hK⟩:=ah h
   refine Path.sv hK (λU M=>?_) .dat λs2 D K' hk=>by simpa[bn,D.bJ (x:=x) (by simp[bG.rd]) L,D.bO (x:=x) (by simp[bG.wU]) L Z,O]using hk
   cases sz with
   |some n=>trivial
   |none=>
    cases hq:dJ off bx.tags with
    |none=>trivial
    |some q=>exact(M.boxes b bx Z).2 off q hq
  ·rename_i cs
   obtain⟨a,O,hK⟩:=ah h
   exact Path.val hK λs2 D K' hk=>by simpa[bn,D.bJ (x:=x) (by simp[bG.rd]) L,O]using hk
 case st x v sz=>
  obtain⟨p,L,h⟩:=ah h
  cases p<;>try(exact h.elim)
  rename_i b off;obtain⟨bx,Z,h⟩:=ah h;obtain⟨u,hu,h⟩:=ah h
  cases u<;>try(exact h.elim)
  rename_i a q;obtain⟨h1,h2,h3,hK⟩:=h
  refine⟨.undef,.st b ⟨setCells bx.cells off a.cells,match(generalizing:=false) q with|some q=>(off,q)::bx.tags.filter (λp=>p.1<off||off+sz<=p.1)|none=>bx.tags.filter (λp=>p.1<off||off+sz<=p.1)⟩,hK,⟨rfl,vZ (x:=x) L⟩,λU M=>⟨trivial,?_,?_⟩,.undef,λs2 D K' hk=>?_⟩
  ·exact(M.boxes b bx Z).1
  ·intro o q' ad
   have am:∀q',dJ o (bx.tags.filter (λp=>p.1<off||off+sz<=p.1))=some q'->U q':=λq' ad=>
    (M.boxes b bx Z).2 o q' (DB ad (λx=>rfl)).1
   cases q with
   |none=>exact am q' ad
   |some q=>
    simp only[dJ]at ad;cases a4:o==off
    ·rw[a4]at ad;exact am q' ad
    ·rw[a4]at ad
     simp only[fx,gc]at ad;subst ad;exact M.bJ hu
  ·simp only[bn,D.bJ (x:=x) (by simp[bG.rd];grind) L,D.bJ (x:=v) (by simp[bG.rd];grind) hu,D.bO (x:=x) (by simp[bG.wU]) L Z,ax]
   exact⟨h1,h2,h3,hk⟩
 case fa x off=>
  obtain⟨p,L,h⟩:=ah h
  cases p<;>try(exact h.elim)
  ·exact Path.sv h (λU M=>(M.bJ L:(SV.ptr _ _).gK U)) (λb' e=>.inr (by cases e;exact vZ (x:=x) L)) λs2 D K' hk=>by simpa[bn,D.bJ (x:=x) (by simp[bG.rd]) L]using hk
  ·exact Path.sv h (λU M=>trivial) .rp λs2 D K' hk=>by simpa[bn,D.bJ (x:=x) (by simp[bG.rd]) L]using hk
  ·rename_i k ps
   match k,L,h with
   |2,L,h=>exact Path.sv h (λU M p hq=>(M.bJ L:(SV.pt 2 ps).gK U) p (pC hq)) (λb' ⟨q,hq,e⟩=>.inr (nv (x:=x) L ⟨q,pC hq,e⟩)) λs2 D K' hk=>by simpa[bn,D.bJ (x:=x) (by simp[bG.rd]) L]using hk
   |0,_,h=>exact h.elim
   |1,_,h=>exact h.elim
   |k+3,_,h=>exact h.elim
 case V5 x sz=>
  obtain⟨p,L,h⟩:=ah h
  cases p<;>try(exact h.elim)
  rename_i k ps
  match k,sz,ps,L,h with
  |2,none,(b,o)::ps,L,h=>exact Path.sv h (λU M=>(M.bJ L:(SV.pt 2 _).gK U) (b,o) aaP) (λb' e=>.inr (nv (x:=x) L ⟨(b,o),aaP,e⟩)) λs2 D K' hk=>by simpa[bn,D.bJ (x:=x) (by simp[bG.rd]) L]using hk
  |2,none,[],L,h=>exact h.elim
  |2,some n,ps,L,h=>
   have h':n<=ps.length/\K (.pt 0 (ps.take n)) s:=by cases ps<;>exact h
   exact Path.sv h'.2 (λU M p hq=>(M.bJ L:(SV.pt 2 ps).gK U) p (ul hq)) (λb' ⟨q,hq,e⟩=>.inr (nv (x:=x) L ⟨q,ul hq,e⟩)) λs2 D K' hk=>by
    have e:=D.bJ (x:=x) (by simp[bG.rd]) L
    simp only[bn,e,ax]
    cases ps<;>exact⟨h'.1,hk⟩
  |0,_,_,_,h=>exact h.elim
  |1,_,_,_,h=>exact h.elim
  |k+3,_,_,_,h=>exact h.elim
 case MB x i n z=>
  obtain⟨p,L,h⟩:=ah h;obtain⟨a,O,h⟩:=ah h;obtain⟨j,hj,ab,h⟩:=ah h
  cases p<;>try(exact h.elim)
  ·exact Path.sv h (λU M=>(M.bJ L:(SV.ptr _ _).gK U)) (λb' e=>.inr (by cases e;exact vZ (x:=x) L)) λs2 D K' hk=>by simpa[bn,D.bJ (x:=x) (by simp[bG.rd];grind) L,D.aG (x:=i) (by simp[bG.rd];grind) O,hj,ab]using hk
  ·exact Path.sv h (λU M=>trivial) .rp λs2 D K' hk=>by simpa[bn,D.bJ (x:=x) (by simp[bG.rd];grind) L,D.aG (x:=i) (by simp[bG.rd];grind) O,hj,ab]using hk
 case V3 x i z=>
  obtain⟨p,L,h⟩:=ah h
  cases p<;>try(exact h.elim)
  rotate_left
  ·obtain⟨a,O,h⟩:=ah h
   obtain⟨j,hj,ab,hz,h⟩:=ah h
   exact Path.sv h (λU M=>(M.bJ L:(SV.vs _ _ _ _).gK U)) (λb' e=>.inr (by cases e;exact nv (x:=x) L rfl)) λs2 D K' hk=>by
    simp only[bn,D.bJ (x:=x) (by simp[bG.rd];grind) L,D.aG (x:=i) (by simp[bG.rd];grind) O,hj,ax]
    exact⟨ab,hz,hk⟩
  obtain⟨a,O,h⟩:=ah h;obtain⟨j,hj,h⟩:=ah h;obtain⟨xs,ae,ab,h⟩:=ah h;obtain⟨row,a6,hz,hK⟩:=ah h
  refine Path.sv hK (λU M=>trivial) .rp λs2 D K' hk=>?_
  simp only[bn,D.bJ (x:=x) (by simp[bG.rd];grind) L,D.aG (x:=i) (by simp[bG.rd];grind) O,hj,ae,a6,ax]
  exact⟨ab,hz,hk⟩
 case GB x off sz=>
  obtain⟨p,L,h⟩:=ah h
  cases p<;>try(exact h.elim)
  obtain⟨a,O,hK⟩:=ah h
  exact Path.val hK λs2 D K' hk=>by simpa[bn,D.aG (x:=x) (by simp[bG.rd]) L,O]using hk
 case GC x i n z sz=>
  obtain⟨p,L,h⟩:=ah h
  cases p<;>try(exact h.elim)
  obtain⟨a,O,h⟩:=ah h;obtain⟨j,hj,ab,h⟩:=ah h;obtain⟨b,Z,hK⟩:=ah h
  exact Path.val hK λs2 D K' hk=>by simpa[bn,D.aG (x:=x) (by simp[bG.rd];grind) L,D.aG (x:=i) (by simp[bG.rd];grind) O,hj,ab,Z]using hk
 case bin op x y=>
  obtain⟨a,O,h⟩:=ah h;obtain⟨b,Z,h⟩:=ah h;obtain⟨v,R,hK⟩:=ah h
  exact Path.val hK λs2 D K' hk=>by simpa[bn,D.aG (x:=x) (by simp[bG.rd];grind) O,D.aG (x:=y) (by simp[bG.rd];grind) Z,R]using hk
 case eqc ks neg x y=>
  obtain⟨a,O,h⟩:=ah h
  cases a<;>try(exact h.elim)
  obtain⟨b,Z,h⟩:=ah h
  cases b<;>try(exact h.elim)
  obtain⟨v,R,hK⟩:=ah h
  exact Path.val hK λs2 D K' hk=>by simpa[bn,D.aG (x:=x) (by simp[bG.rd];grind) O,D.aG (x:=y) (by simp[bG.rd];grind) Z,R]using hk
 case bb neg x y=>
  obtain⟨a,O,h⟩:=ah h;obtain⟨b,Z,h⟩:=ah h;obtain⟨v,R,hK⟩:=ah h
  exact Path.val hK λs2 D K' hk=>by simpa[bn,D.aG (x:=x) (by simp[bG.rd];grind) O,D.aG (x:=y) (by simp[bG.rd];grind) Z,R]using hk
 case un op x=>
  obtain⟨a,O,h⟩:=ah h;obtain⟨v,R,hK⟩:=ah h
  exact Path.val hK λs2 D K' hk=>by simpa[bn,D.aG (x:=x) (by simp[bG.rd]) O,R]using hk
 case qi k x=>
  obtain⟨a,O,h⟩:=ah h;obtain⟨v,R,hK⟩:=ah h
  exact Path.val hK λs2 D K' hk=>by simpa[bn,D.aG (x:=x) (by simp[bG.rd]) O,R]using hk
 case Gi k x=>
  obtain⟨a,O,h⟩:=ah h;obtain⟨v,R,hK⟩:=ah h
  exact Path.val hK λs2 D K' hk=>by simpa[bn,D.aG (x:=x) (by simp[bG.rd]) O,R]using hk
 case JN k x=>
  obtain⟨a,O,h⟩:=ah h;obtain⟨v,R,hK⟩:=ah h
  exact Path.val hK λs2 D K' hk=>by simpa[bn,D.aG (x:=x) (by simp[bG.rd]) O,R]using hk
 case Dl x=>
  obtain⟨v,R,hK⟩:=ah h
  exact Path.sv hK (λU M=>M.bJ R) (λb e=>.inr (nv R e)) λs2 D K' hk=>by simpa[bn,D.bJ (λt ht=>ht) R]using hk
 case JO x=>
  obtain⟨a,O,h⟩:=ah h
  cases a<;>try(exact h.elim)
  rotate_left
  ·exact Path.val h λs2 D K' hk=>by simpa[bn,D.bJ (x:=x) (by simp[bG.rd]) O]using hk
  obtain⟨v,R,hK⟩:=ah h
  exact Path.val hK λs2 D K' hk=>by simpa[bn,D.bJ (x:=x) (by simp[bG.rd]) O,R]using hk
 case JP n=>exact Path.val h λs2 D K' hk=>by simpa[bn]using hk
 case ZT x n z hi=>
  obtain⟨p,L,h⟩:=ah h
  cases p<;>try(exact h.elim)
  rename_i b off;obtain⟨a,O,h2⟩:=ah h;obtain⟨j,hj,ab,hK⟩:=ah h2
  refine Path.sv hK (λU M=>?_) (λb' e=>.inr (by cases e;exact nv (x:=x) L rfl)) λs2 D K' hk=>?_
  ·have:(SV.ptr b off).gK U:=M.bJ L
   exact this
  ·simp only[bn,D.bJ (x:=x) (by simp[bG.rd];grind) L,D.aG (x:=hi) (by simp[bG.rd];grind) O,hj,ax]
   exact⟨ab,hk⟩
 case Dm e z bytes y x=>
  obtain⟨p,L,h⟩:=ah h
  cases p<;>try(exact h.elim)
  rename_i b off n z';obtain⟨q,hq,h2⟩:=ah h
  cases q<;>try(exact h2.elim)
  rename_i b' o';obtain⟨⟨e1,e2⟩,h3⟩:=h2;obtain⟨bx,Z,h4,hK⟩:=ah h3
  have hy:∀t∈y.rd,t∈(bG.Dm e z bytes y x).rd:=by simp[bG.rd];grind
  have hx:∀t∈x.rd,t∈(bG.Dm e z bytes y x).rd:=by simp[bG.rd];grind
  rw[e1]at hq
  by_cases hn:n=0
  ·rw[ib hn]at hK
   refine Path.val hK λs2 D K' hk=>?_
   have au:=D.bO (x:=x) (by simp[bG.wU]) hq Z
   simp only[bn,D.bJ hy L,D.bJ hx hq,ax,ib hn,au];exact⟨⟨trivial,e2⟩,h4,hk⟩
  ·rw[ge hn]at hK
   refine⟨.dat (.sl (cU z n (bx.cells.drop off))) (some id),.live e,hK,trivial,λU M=>⟨.inr rfl,trivial⟩,.dat,λs2 D K' hk=>?_⟩
   have au:=D.bO (x:=x) (by simp[bG.wU]) hq Z
   simp only[bn,D.bJ hy L,D.bJ hx hq,ax,ge hn,au];exact⟨⟨trivial,e2⟩,h4,hk⟩
 case app e z bytes x y=>
  obtain⟨p,L,h⟩:=ah h
  cases p<;>try(exact h.elim)
  rename_i a q;obtain⟨xs,ae,h⟩:=ah h;obtain⟨b,Z,h⟩:=ah h;obtain⟨ys,ao,h1,h2,h3,h⟩:=ah h
  have hx:∀t∈x.rd,t∈(bG.app e z bytes x y).rd:=by simp[bG.rd];grind
  have hy:∀t∈y.rd,t∈(bG.app e z bytes x y).rd:=by simp[bG.rd];grind
  cases a<;>try(exact h.elim)
  ·--nil
   simp only[]at h;split at h
   ·rename_i he
    refine Path.val h λs2 D K' hk=>?_
    simp only[bn,D.bJ hx L,D.aG hy Z,ae,ao,ax,ib he];exact⟨h1,h2,h3,hk⟩
   ·rename_i he
    refine⟨.dat (.sl (xs++ys)) (some id),.live e,h,trivial,λU M=>⟨.inr rfl,trivial⟩,.dat,λs2 D K' hk=>?_⟩
    simp only[bn,D.bJ hx L,D.aG hy Z,ae,ao,ax,ge he];exact⟨h1,h2,h3,hk⟩
  ·cases q with
   |none=>exact h.elim
   |some q=>
    obtain⟨hq,hK⟩:=h
    have a5:∃t∈(bG.app e z bytes x y).rd,∃a,lk t s.slots=some (.dat a (some q)):=by
     cases x with
     |t n=>exact⟨n,hx n (by simp[aM.rd]),_,L⟩
     |k v=>simp[bJ]at L
    refine⟨.dat (.sl (xs++ys)) (some id),.app q e,hK,⟨rfl,a5⟩,λU M=>⟨.inr rfl,M.live q e hq⟩,.dat,λs2 D K' hk=>?_⟩
    have a8:dJ q s2.live=some e:=by
     cases x with
     |t n=>exact D.live rfl n (hx n (by simp[aM.rd])) _ q e L hq
     |k v=>simp[bJ]at L
    simp only[bn,D.bJ hx L,D.aG hy Z,ae,ao,ax];exact⟨h1,h2,h3,a8,hk⟩
 case call f args=>
  obtain⟨as,has,r,fr,hc,hK⟩:=ah h
  cases fr with
  |none=>exact Path.val hK λs2 D K' hk=>by simp only[bn,D.dO (by simp[bG.rd]) has,ax];exact⟨r,none,hc,hk⟩
  |some e=>exact⟨.dat r (some id),.live e,hK,trivial,λU M=>⟨.inr rfl,trivial⟩,.dat,λs2 D K' hk=>by simp only[bn,D.dO (by simp[bG.rd]) has,ax];exact⟨r,some e,hc,hk⟩⟩
 case dR f args=>
  obtain⟨p,L,ac,h⟩:=ah h;obtain⟨css,aa,r,fr,V,hc,hK⟩:=ah h
  have ar:∀U,s.gK U->∀b∈p.2,U b:=by
   intro U M b Z
   obtain⟨k,hk⟩:=my.1 Z
   obtain⟨x,hx,_⟩:=(gA aa).2 k b hk
   exact(M.boxes b x hx).1
  have ak:∀s2,qg (bG.dR f args).rd (bG.dR f args).wU (bG.dR f args).isApp s s2->∀K':SV->S->Prop,K' (.dat r (fr.map λ_=>id)) (Delta.app' (.calls p.2 V fr) id s2)->bn C id (.dR f args) K' s2:=by
   intro s2 D K' hk
   obtain⟨h1,h2⟩:=D.aS (xs:=args) (by simp[bG.rd]) (by simp[bG.wU]) L aa
   simp only[bn,h1,h2,ax];exact⟨ac,r,fr,V,hc,hk⟩
  exact⟨.dat r (fr.map λ_=>id),.calls p.2 V fr,hK,⟨rfl,iM L⟩,λU M=>⟨by cases fr with|none=>trivial|some e=>exact .inr rfl,ar U M⟩,.dat,ak⟩
 case uk f args=>
  obtain⟨p,L,ac,h⟩:=ah h;obtain⟨css,aa,v,V,hc,hK⟩:=ah h
  refine⟨.dat v none,.calls p.2 V none,hK,⟨rfl,iM L⟩,λU M=>⟨trivial,λb Z=>?_⟩,.dat,λs2 D K' hk=>?_⟩
  ·obtain⟨k,hk⟩:=my.1 Z
   obtain⟨x,hx,_⟩:=(gA aa).2 k b hk
   exact(M.boxes b x hx).1
  ·obtain⟨h1,h2⟩:=D.aS (xs:=args) (by simp[bG.rd]) (by simp[bG.wU]) L aa
   simp only[bn,h1,h2,ax];exact⟨ac,v,V,hc,hk⟩
 case fu g args=>
  obtain⟨a,O,h⟩:=ah h
  cases a<;>try(exact h.elim)
  rename_i fn first caps
  cases fn<;>try(exact h.elim)
  obtain⟨as,has,r,fr,hc,hK⟩:=ah h
  have hg:∀t∈g.rd,t∈(bG.fu g args).rd:=by simp[bG.rd];grind
  have an:∀t∈aW args,t∈(bG.fu g args).rd:=by simp[bG.rd];grind
  cases fr with
  |none=>exact Path.val hK λs2 D K' hk=>by simp only[bn,D.aG hg O,D.dO an has,ax];exact⟨r,none,hc,hk⟩
  |some e=>exact⟨.dat r (some id),.live e,hK,trivial,λU M=>⟨.inr rfl,trivial⟩,.dat,λs2 D K' hk=>by simp only[bn,D.aG hg O,D.dO an has,ax];exact⟨r,some e,hc,hk⟩⟩
 case ext x i=>
  obtain⟨a,O,h⟩:=ah h;obtain⟨v,R,hK⟩:=ah h
  exact Path.val hK λs2 D K' hk=>by simpa[bn,D.aG (x:=x) (by simp[bG.rd]) O,R]using hk
 case xt e x=>
  obtain⟨a,O,h⟩:=ah h;obtain⟨v,R,hK⟩:=ah h
  exact Path.val hK λs2 D K' hk=>by simpa[bn,D.aG (x:=x) (by simp[bG.rd]) O,R]using hk
 case ixB x i=>
  obtain⟨p,L,h⟩:=ah h
  cases p<;>try(exact h.elim)
  obtain⟨a,O,h⟩:=ah h;obtain⟨j,hj,h⟩:=ah h;obtain⟨b,Z,hK⟩:=ah h
  exact Path.val hK λs2 D K' hk=>by simpa[bn,D.aG (x:=x) (by simp[bG.rd];grind) L,D.aG (x:=i) (by simp[bG.rd];grind) O,hj,Z]using hk
 case ZS neg x=>
  obtain⟨a,O,h⟩:=ah h;obtain⟨v,R,hK⟩:=ah h
  exact Path.val hK λs2 D K' hk=>by simpa[bn,D.aG (x:=x) (by simp[bG.rd]) O,R]using hk
 case BA f args=>
  obtain⟨p,L,ac,h⟩:=ah h;obtain⟨css,aa,r,hc,hK⟩:=ah h
  refine Path.val hK λs2 D K' hk=>?_
  obtain⟨h1,h2⟩:=D.eI (xs:=args) (by simp[bG.rd]) (by simp[bG.wU]) L aa
  simp only[bn,h1,h2,ax];exact⟨ac,r,hc,hk⟩
 case rH g args=>
  obtain⟨a,O,h⟩:=ah h
  cases a<;>try(exact h.elim)
  rename_i fn first caps
  cases fn<;>try(exact h.elim)
  rename_i f
  cases first<;>try(exact h.elim)
  cases caps<;>try(exact h.elim)
  obtain⟨p,L,ac,h⟩:=ah h;obtain⟨css,aa,r,hc,hK⟩:=ah h
  have hg:∀t∈g.rd,t∈(bG.rH g args).rd:=by simp[bG.rd];grind
  refine Path.val hK λs2 D K' hk=>?_
  obtain⟨h1,h2⟩:=D.eI (xs:=args) (by simp[bG.rd];grind) (by simp[bG.wU]) L aa
  simp only[bn,D.aG hg O,h1,h2,ax];exact⟨ac,r,hc,hk⟩
 case gi g args=>
  obtain⟨a,O,h⟩:=ah h
  cases a<;>try(exact h.elim)
  rename_i fn first caps
  cases fn<;>try(exact h.elim)
  rename_i f
  cases first<;>try(exact h.elim)
  cases caps<;>try(exact h.elim)
  obtain⟨p,L,ac,h⟩:=ah h;obtain⟨css,aa,r,fr,V,hc,hK⟩:=ah h
  have ar:∀U,s.gK U->∀b∈p.2,U b:=by
   intro U M b Z
   obtain⟨k,hk⟩:=my.1 Z
   obtain⟨x,hx,_⟩:=(gA aa).2 k b hk
   exact(M.boxes b x hx).1
  have hg:∀t∈g.rd,t∈(bG.gi g args).rd:=by simp[bG.rd];grind
  have ak:∀s2,qg (bG.gi g args).rd (bG.gi g args).wU (bG.gi g args).isApp s s2->∀K':SV->S->Prop,K' (.dat r (fr.map λ_=>id)) (Delta.app' (.calls p.2 V fr) id s2)->bn C id (.gi g args) K' s2:=by
   intro s2 D K' hk
   obtain⟨h1,h2⟩:=D.aS (xs:=args) (by simp[bG.rd];grind) (by simp[bG.wU]) L aa
   simp only[bn,D.aG hg O,h1,h2,ax];exact⟨ac,r,fr,V,hc,hk⟩
  exact⟨.dat r (fr.map λ_=>id),.calls p.2 V fr,hK,⟨rfl,iM L⟩,λU M=>⟨by cases fr with|none=>trivial|some e=>exact .inr rfl,ar U M⟩,.dat,ak⟩
 case Wj x n z=>
  obtain⟨p,L,h⟩:=ah h
  cases p<;>try(exact h.elim)
  ·rename_i b off
   obtain⟨h4,h⟩:=h;obtain⟨bx,Z,al,hK⟩:=ah h
   refine⟨_,.Ii [b] [bx.cells],hK,⟨rfl,λb' a3=>?_⟩,λU M=>⟨trivial,trivial⟩,.dat,λs2 D K' hk=>?_⟩
   ·simp only[rf]at a3;subst a3;exact vZ (x:=x) L
   ·simp only[bn,D.bJ (x:=x) (by simp[bG.rd]) L,D.bO (x:=x) (by simp[bG.wU]) L Z,ax]
    exact⟨h4,al,hk⟩
  ·obtain⟨al,hK⟩:=h
   refine Path.val hK λs2 D K' hk=>?_
   simp only[bn,D.bJ (x:=x) (by simp[bG.rd]) L,ax]
   exact⟨al,hk⟩
 case uh fn a b=>
  obtain⟨as,has,h⟩:=ah h;obtain⟨p,L,a2,h⟩:=ah h;obtain⟨css,aa,hK⟩:=ah h
  have ak:∀s2,qg (bG.uh fn a b).rd (bG.uh fn a b).wU (bG.uh fn a b).isApp s s2->∀K':SV->S->Prop,K' (.dat (.fn fn as (jR p.1 css)) none) (gM p.2 css s2)->bn C id (.uh fn a b) K' s2:=by
   intro s2 D K' hk
   obtain⟨h1,h2⟩:=D.aS (xs:=b) (by simp[bG.rd];grind) (by simp[bG.wU]) L aa
   simp only[bn,D.dO (xs:=a) (by simp[bG.rd];grind) has,h1,h2,ax]
   exact⟨a2,hk⟩
  cases b with
  |nil=>
   simp[dP]at L;subst L
   have e:∀s:S,gM [] css s=s:=λs=>by cases css<;>rfl
   simp only[e]at hK ak;exact Path.val hK ak
  |cons x b=>exact⟨_,.Ii p.2 css,hK,⟨rfl,iM L⟩,λU M=>⟨trivial,trivial⟩,.dat,ak⟩
 case V4 z x lo hi=>
  obtain⟨a,O,h⟩:=ah h;obtain⟨xs,ae,h⟩:=ah h;obtain⟨l,hl,h⟩:=ah h;obtain⟨m,hm,h1,h2,hK⟩:=ah h
  refine Path.val hK λs2 D K' hk=>?_
  simp only[bn,D.aG (x:=x) (by simp[bG.rd];grind) O,ae,D.yK (x:=lo) (by simp[bG.rd];grind) hl,D.xJ (x:=hi) (by simp[bG.rd];grind) hm,ax]
  exact⟨h1,h2,hk⟩
 case nc x=>
  obtain⟨p,L,h⟩:=ah h
  cases p with
  |ptr b o=>exact Path.sv h (λU M=>(M.bJ L:(SV.ptr _ _).gK U)) (λb' e=>.inr (by cases e;exact vZ (x:=x) L)) λs2 D K' hk=>by simpa[bn,D.bJ (x:=x) (by simp[bG.rd]) L]using hk
  |rp cs=>exact Path.sv h (λU M=>trivial) .rp λs2 D K' hk=>by simpa[bn,D.bJ (x:=x) (by simp[bG.rd]) L]using hk
  |undef=>exact h.elim
  |vs _ _ _ _=>exact h.elim
  |mL _ _ _=>exact h.elim
  |raw _ _=>exact h.elim
  |pt _ _=>exact h.elim
  |dat a q=>
   cases a<;>try(exact h.elim)
   case ref cs=>exact Path.sv h (λU M=>trivial) .rp λs2 D K' hk=>by simpa[bn,D.bJ (x:=x) (by simp[bG.rd]) L]using hk
   rename_i fn as bs
   cases fn<;>try(exact h.elim)
   exact Path.sv h (λU M=>M.bJ (v:=.dat _ q) L) .dat λs2 D K' hk=>by simpa[bn,D.bJ (x:=x) (by simp[bG.rd]) L]using hk
 case mm mx args=>
  obtain⟨as,has,h⟩:=ah h
  cases as with
  |nil=>exact h.elim
  |cons a r=>
   obtain⟨v,R,hK⟩:=ah h
   exact Path.val hK λs2 D K' hk=>by simpa[bn,D.dO (xs:=args) (by simp[bG.rd]) has,R]using hk
end
section
variable (C:aQ) (id:Nat) {U:Nat->Prop} {ap:Bool} {d:Option Nat} {l lb:List Nat} {s:S} {v:SV} (o:CO)
theorem ki{α:Type} (n m:Nat) (x y:α):(bif n==m then x else y)=if n=m then x else y:=by
 by_cases h:n=m
 ·simp[h]
 ·have D:(n==m)=false:=by simpa using h
  simp[h,D]
def jS(K:S->Prop) (s:S):Prop:=
 fj s o.g (bn C id o.op (λv D=>K (D.put o.dst v)) s) (K (s.put o.dst .undef))
theorem qn{C:aQ} {base i:Nat} {o:CO} {r:List CO} {K:S->Prop}:je C base i (o::r) K s=jS C (base+i) o (je C base (i+1) r K) s:=rfl
theorem qg.refl:qg l lb ap s s:=⟨λ_ _=>rfl,λ_ _ _ _ _ h=>h,λ_ _ _ _ _ _ _ h=>h⟩
theorem qg.trans {l lb:List Nat} {ap:Bool} {s s2 s3:S} (hl:∀ t∈lb,t∈l) (h:qg l lb ap s s2) (k:qg l lb ap s2 s3):qg l lb ap s s3 :=
  ⟨fun t ht=>(k.slots t ht).trans (h.slots t ht),fun t ht b x hv hb=>k.boxes t ht b x (let ⟨v,h1,h2⟩:=hv; ⟨v,by rw [h.slots t (hl t ht)]; exact h1,h2⟩) (h.boxes t ht b x hv hb),
   fun e t ht a q e' hv hq=>k.live e t ht a q e' (by rw [h.slots t ht]; exact hv) (h.live e t ht a q e' hv hq)⟩
theorem rR{t:Nat}:lk t (s.put d v).slots=if d=some t then some v else lk t s.slots:=by
 cases d with
 |none=>simp[S.put]
 |some d=>
  simp only[S.put,lk,ki]
  by_cases h:t=d
  ·subst h;simp
  ·have D:¬(some d=some t):=λe=>h (xa e).symm
   rw[ge h,ge D]
theorem i4:(s.put d v).boxes=s.boxes:=by cases d<;>rfl
theorem kj:(s.put d v).live=s.live:=by cases d<;>rfl
theorem i5{m:Nat} {b:bH}:∀{l:List (Nat×bH)} {n:Nat},bO n (nO m b l)=if n=m then(bO m l).map λ_=>b else bO n l
 |[],n=>by simp[nO,bO]
 |(k,v)::r,n=>by
  have O:=i5 (m:=m) (b:=b) (l:=r) (n:=n)
  simp only[nO,ki]
  by_cases D:m=k
  ·subst D
   simp only[kv,bO,ki]
   by_cases M:n=m
   ·simp[M]
   ·simp[M]
  ·simp only[D,il,bO,ki,O]
   by_cases L:n=k
   ·have:¬n=m:=λe=>D (e.symm.trans L)
    simp[L,Ne.symm D]
   ·simp only[L,il]
theorem v7{m:Nat}:∀{l:List (Nat×Nat)} {n:Nat},dJ n (jj m l)=if n=m then none else dJ n l
 |[],n=>by simp[jj,dJ]
 |(k,v)::r,n=>by
  have M:=v7 (m:=m) (l:=r) (n:=n)
  simp only[jj,ki]
  by_cases D:m=k
  ·subst D
   simp only[kv,dJ,ki,M]
   by_cases O:n=m
   ·simp[O]
   ·simp[O]
  ·simp only[D,il,dJ,ki,M]
   by_cases L:n=k
   ·simp[L,Ne.symm D]
   ·simp only[L,il]
structure t9 (s s2:S):Prop where
 slots:∀t,lk t s2.slots=lk t s.slots
 boxes:∀b,bO b s2.boxes=bO b s.boxes
 live:∀q,dJ q s2.live=dJ q s.live
theorem t9.refl:t9 s s:=⟨λ_=>rfl,λ_=>rfl,λ_=>rfl⟩
theorem t9.symm{s s2:S} (h:t9 s s2):t9 s2 s:=⟨λt=>(h.slots t).symm,λt=>(h.boxes t).symm,λt=>(h.live t).symm⟩
theorem t9.trans{s s2 D:S} (h:t9 s s2) (k:t9 s2 D):t9 s D:=⟨λt=>(k.slots t).trans (h.slots t),λt=>(k.boxes t).trans (h.boxes t),λt=>(k.live t).trans (h.live t)⟩
theorem t9.agr{s2:S} (h:t9 s s2):qg l lb ap s s2:=
 ⟨λt _=>h.slots t,λt _ b x _ D=>by rw[h.boxes];exact D,λ_ t _ a q e _ L=>by rw[h.live];exact L⟩
theorem t9.put{s s2:S} (h:t9 s s2) (d:Option Nat) (v:SV):t9 (s.put d v) (s2.put d v):=
 ⟨λt=>by rw[rR,rR,h.slots],λb=>by rw[i4,i4];exact h.boxes b,λb=>by rw[kj,kj];exact h.live b⟩
theorem BI:∀{ids:List Nat} {css:List (List AV)} {l D:List (Nat×bH)},(∀b,bO b D=bO b l)->∀b,bO b (dm ids css D)=bO b (dm ids css l)
 |[],css,l,D,h,b=>by cases css<;>exact h b
 |i::ids,[],l,D,h,b=>h b
 |i::ids,cs::css,l,D,h,b=>by
  simp only[dm]
  exact BI (λb=>by simp only[i5,h]) b
theorem t9.gM{ids:List Nat}:∀{css:List (List AV)} {s s2:S},t9 s s2->t9 (gM ids css s) (gM ids css s2):=by
 induction ids with
 |nil=>intro css s s2 h;cases css<;>exact h
 |cons b ids D=>
  intro css s s2 h
  cases css with
  |nil=>exact h
  |cons cs css=>
   exact D ⟨λt=>by simp only[yU,h.slots],λc=>by simp only[oa,h.boxes],h.live⟩
theorem t9.app{s s2:S} (h:t9 s s2) (d:Delta) (id:Nat):t9 (d.app' id s) (d.app' id s2):=by
 cases d with
 |Ii ids css=>exact h.gM
 |no=>exact h
 |box b=>exact⟨h.slots,λc=>by simp only[Delta.app',bO,h.boxes],h.live⟩
 |live e=>exact⟨h.slots,h.boxes,λq=>by simp only[Delta.app',dJ,h.live]⟩
 |app D e=>exact⟨h.slots,h.boxes,λq=>by simp only[Delta.app',dJ,h.live,v7]⟩
 |st b x=>exact⟨h.slots,λc=>by simp only[Delta.app',h.boxes,i5],h.live⟩
 |calls ids css fr=>exact⟨h.slots,BI h.boxes,λq=>by cases fr<;>simp only[Delta.app',dJ,h.live]⟩
theorem t9.gK{s s2:S} (h:t9 s s2) {U:Nat->Prop} (D:s.gK U):s2.gK U:=
 ⟨λt v L=>D.slots t v (by rw[<-h.slots];exact L),λb x M=>D.boxes b x (by rw[<-h.boxes];exact M),λq e O=>D.live q e (by rw[<-h.live];exact O)⟩
def ML(s:S) (v:SV) (d:Delta):Prop:=
 (d.ok o.op s/\wW id o.op s v)/\∀s2,qg o.rd o.op.wU o.op.isApp s s2->∀K',K' ((d.app' id s2).put o.dst v)->jS C id o K' s2
theorem Oe(h:s.gK U) (L:v.gK U):(s.put d v).gK U:=by
 refine⟨λt u D=>?_,λb x M=>h.boxes b x (by rwa[i4]at M),λq e O=>h.live q e (by rwa[kj]at O)⟩
 rw[rR]at D;split at D
 ·cases D;exact L
 ·exact h.slots t u D
theorem CP{U':Nat->Prop} (D:∀n,U n->U' n) (h:s.gK U):s.gK U':=
 ⟨λt v O=>SV.nW D (h.slots t v O),λb x M=>⟨D _ (h.boxes b x M).1,λo q L=>D _ ((h.boxes b x M).2 o q L)⟩,λq e L=>D _ (h.live q e L)⟩
theorem GL:∀{ids:List Nat} {css:List (List AV)} {l:List (Nat×bH)} {U:Nat->Prop},(∀b x,bO b l=some x->U b/\x.gK U)->(∀b∈ids,U b)->∀b x,bO b (dm ids css l)=some x->U b/\x.gK U
 |[],css,l,U,h,M,b,x,D=>by cases css<;>exact h b x D
 |i::ids,[],l,U,h,M,b,x,D=>h b x D
 |i::ids,cs::css,l,U,h,M,b,x,D=>by
  simp only[dm]at D
  refine GL (λb x L=>?_) (λb D=>M b (lc _ D)) b x D
  rw[i5]at L;split at L
  ·rename_i e
   cases O:bO i l with
   |none=>simp[O]at L
   |some y=>
    simp[O]at L;subst L
    exact⟨e▸M i (mp ..),λo q R=>by cases R⟩
  ·exact h b x L
theorem Sm{ids:List Nat}:∀{css:List (List AV)} {s:S},s.gK U->(gM ids css s).gK U:=by
 induction ids with
 |nil=>intro css s h;cases css<;>exact h
 |cons b ids O=>
  intro css s h
  cases css with
  |nil=>exact h
  |cons cs css=>
   refine O ⟨λt v M=>?_,λc x L=>?_,h.live⟩
   ·simp only[yU,eg]at M
    obtain⟨u,R,rfl⟩:=M
    have D:=h.slots t u R
    cases u with
    |ptr c o=>
     simp only[j6,ki];split
     ·trivial
     ·exact D
    |dat a q=>exact D
    |rp cs=>exact D
    |undef=>exact D
    |vs c o n z=>
     simp only[j6];cases V:(c==b&&decide (n*z<=(cs.drop o).length))
     ·exact D
     ·trivial
    |mL _ _ _=>exact D
    |raw _ _=>exact D
    |pt _ _=>exact D
   ·simp only[oa]at L
    split at L
    ·cases L
    ·exact h.boxes c x L
theorem WK(h:s.gK U) {d:Delta} {id:Nat} (hd:d.gK U):(d.app' id s).gK (eN U id):=by
 have L:s.gK (eN U id):=CP (λn hn=>.inl hn) h
 cases d with
 |no=>exact L
 |Ii ids css=>exact Sm L
 |box b=>
  refine⟨L.slots,λZ x M=>?_,L.live⟩
  simp only[Delta.app',bO]at M
  by_cases O:Z=id
  ·subst O
   simp at M;subst M
   exact⟨.inr rfl,λo q D=>.inl (hd o q D)⟩
  ·have R:(Z==id)=false:=by simpa using O
   rw[R]at M;exact L.boxes Z x M
 |live e=>
  refine⟨L.slots,L.boxes,λq V D=>?_⟩
  simp only[Delta.app',dJ]at D
  by_cases O:q=id
  ·subst O;exact .inr rfl
  ·have R:(q==id)=false:=by simpa using O
   rw[R]at D;exact L.live q V D
 |app q0 e=>
  refine⟨L.slots,L.boxes,λq V D=>?_⟩
  simp only[Delta.app',dJ]at D
  by_cases O:q=id
  ·subst O;exact .inr rfl
  ·have R:(q==id)=false:=by simpa using O
   rw[R,v7]at D;simp only[er]at D;split at D
   ·cases D
   ·exact L.live q V D
 |st b0 x0=>
  refine⟨L.slots,λb x M=>?_,L.live⟩
  simp only[Delta.app',i5]at M;split at M
  ·rename_i O
   cases hl:bO b0 s.boxes with
   |none=>simp[hl]at M
   |some y=>
    simp[hl]at M;subst M
    exact⟨.inl (O▸hd.1),λo q D=>.inl (hd.2 o q D)⟩
  ·exact L.boxes b x M
 |calls ids css fr=>
  refine⟨L.slots,GL L.boxes (λb M=>.inl (hd b M)),λq V D=>?_⟩
  cases fr with
  |none=>exact L.live q V D
  |some e=>
   simp only[Delta.app',dJ,ki]at D;split at D
   ·rename_i O;subst O;exact .inr rfl
   ·exact L.live q V D
end
section
variable{C:aQ} {id:Nat} {o:CO} {K:S->Prop} {s:S}
theorem CO.DD{o:CO} {t:Nat} (h:t∈o.op.rd):t∈o.rd:=by simp[CO.rd,h]
theorem gj(h:jS C id o K s):∃v d,ML C id o s v d/\K ((d.app' id s).put o.dst v)/\∀U,s.gK U->((d.app' id s).put o.dst v).gK (eN U id):=by
 have L:∀{K:S->Prop},bn C id o.op (λv Z=>K (Z.put o.dst v)) s->∃(v:SV) (d:Delta),(d.ok o.op s/\wW id o.op s v)/\(∀s2,qg o.rd o.op.wU o.op.isApp s s2->∀K':S->Prop,K' ((d.app' id s2).put o.dst v)->bn C id o.op (λv Z=>K' (Z.put o.dst v)) s2)/\K ((d.app' id s).put o.dst v)/\∀U,s.gK U->((d.app' id s).put o.dst v).gK (eN U id):=by
  intro K h;obtain⟨v,d,hK,aa,V,ac,hs⟩:=yV h
  exact⟨v,d,⟨aa,ac⟩,λs2 D K' hk=>hs s2 (D.sub λt ht=>CO.DD ht) _ hk,hK,λU R=>Oe (WK R (V U R).2) (V U R).1⟩
 have skip:K (s.put o.dst .undef)->(∀s2,qg o.rd o.op.wU o.op.isApp s s2->∀K',K' (s2.put o.dst .undef)->jS C id o K' s2)->∃v d,ML C id o s v d/\K ((d.app' id s).put o.dst v)/\∀U,s.gK U->((d.app' id s).put o.dst v).gK (eN U id):=by
  intro hK hs
  exact⟨.undef,.no,⟨⟨trivial,.undef⟩,hs⟩,hK,λU V=>Oe (CP (λn h=>.inl h) V) trivial⟩
 unfold jS fj at h
 cases M:o.g with
 |none=>
  simp only[M]at h;obtain⟨v,d,h1,h2,h3,h4⟩:=L h
  exact⟨v,d,⟨h1,λs2 D K' hk=>by unfold jS fj;simp only[M];exact h2 s2 D K' hk⟩,h3,h4⟩
 |some p=>
  obtain⟨t,want⟩:=p
  have ad:t∈o.rd:=by simp[CO.rd,M]
  simp only[M]at h
  cases hl:lk t s.slots with
  |none=>simp[hl]at h
  |some v=>
   have O:∀s2,qg o.rd o.op.wU o.op.isApp s s2->lk t s2.slots=some v:=λs2 D=>by rw[D.slots t ad,hl]
   simp only[hl]at h
   cases v with
   |ptr b o=>exact h.elim
   |rp cs=>exact h.elim
   |vs _ _ _ _=>exact h.elim
   |mL _ _ _=>exact h.elim
   |raw _ _=>exact h.elim
   |pt _ _=>exact h.elim
   |undef=>exact skip h λs2 D K' hk=>by unfold jS fj;simp only[M,O s2 D];exact hk
   |dat a q=>
    cases a<;>try(exact h.elim)
    rename_i b
    by_cases hb:b=want
    ·obtain⟨v,d,h1,h2,h3,h4⟩:=L (h.1 hb)
     exact⟨v,d,⟨h1,λs2 D K' hk=>by
      unfold jS fj;simp only[M,O s2 D]
      exact⟨λ_=>h2 s2 D K' hk,λhn=>by subst hb;cases b<;>cases hn⟩⟩,h3,h4⟩
    ·have ab:b=!want:=by cases b<;>cases want<;>simp_all
     exact skip (h.2 ab) λs2 D K' hk=>by
      unfold jS fj;simp only[M,O s2 D]
      exact⟨λe=>absurd e hb,λ_=>hk⟩
end
section
variable (d:Delta) (id:Nat) {α:Type} (s:S)
structure EB (α:Type) where
 tgt:Nat
 g:Option α->Option α
def EB.ap(e:EB α) (f:Nat->Option α):Nat->Option α:=λc=>if c=e.tgt then e.g (f c)else f c
def BJ(l:List (EB α)) (f:Nat->Option α):Nat->Option α:=l.foldl (λf e=>e.ap f) f
theorem EB.comm{e D:EB α} (h:e.tgt≠D.tgt) (f:Nat->Option α):e.ap (D.ap f)=D.ap (e.ap f):=by
 funext c
 simp only[EB.ap]
 by_cases L:c=e.tgt
 ·have O:c≠D.tgt:=λM=>h (L.symm.trans M)
  simp[L]
  have:¬e.tgt=D.tgt:=h
  simp[this]
 ·simp[L]
theorem GM{α:Type} {e:EB α}:∀{l:List (EB α)} {f:Nat->Option α},(∀D∈l,e.tgt≠D.tgt)->BJ l (e.ap f)=e.ap (BJ l f)
 |[],f,_=>rfl
 |a::l,f,h=>by
  show BJ l (a.ap (e.ap f))=e.ap (BJ l (a.ap f))
  rw[<-EB.comm (h a mp)]
  exact GM λD L=>h D (lc _ L)
theorem DE{α:Type} {D:List (EB α)}:∀{l:List (EB α)} {f:Nat->Option α},(∀e∈l,∀M∈D,e.tgt≠M.tgt)->BJ l (BJ D f)=BJ D (BJ l f)
 |[],f,_=>rfl
 |e::l,f,h=>by
  show BJ l (e.ap (BJ D f))=BJ D (BJ l (e.ap f))
  rw[<-GM (h e mp)]
  exact DE λa L=>h a (lc _ L)
theorem qq{α:Type} {c:Nat}:∀{l:List (EB α)} {f:Nat->Option α},(∀e∈l,e.tgt≠c)->BJ l f c=f c
 |[],f,_=>rfl
 |e::l,f,h=>by
  show BJ l (e.ap f) c=f c
  rw[qq λa D=>h a (lc _ D)]
  exact ge (λL=>h e mp L.symm)
def wB:Delta->List Nat
 | .st b _=>[b]
 | .calls ids _ _=>ids
 | .Ii ids _=>ids
 |_=>[]
def eB:List (EB bH):=
 match d with
 | .box b=>[⟨id,λ_=>some b⟩]
 | .st b x=>[⟨b,Option.map λ_=>x⟩]
 | .calls ids css _=>(ids.zip css).map λp=>⟨p.1,Option.map λ_=>⟨p.2,[]⟩⟩
 | .Ii ids css=>(ids.zip css).map λp=>⟨p.1,λ_=>none⟩
 |_=>[]
def eL:List (EB Nat):=
 match d with
 | .live e=>[⟨id,λ_=>some e⟩]
 | .app q e=>[⟨q,λ_=>none⟩,⟨id,λ_=>some e⟩]
 | .calls _ _ (some e)=>[⟨id,λ_=>some e⟩]
 |_=>[]
def fz:SV->SV:=
 match d with
 | .Ii ids css=>λv=>(ids.zip css).foldl (λv p=>j6 p.1 p.2 v) v
 |_=>λv=>v
theorem GN:∀{ids:List Nat} {css:List (List AV)} {l:List (Nat×bH)},(λb=>bO b (dm ids css l))=BJ ((ids.zip css).map λp=>(⟨p.1,Option.map λ_=>⟨p.2,[]⟩⟩:EB bH)) (λb=>bO b l)
 |[],css,l=>by cases css<;>rfl
 |i::ids,[],l=>rfl
 |i::ids,cs::css,l=>by
  show(λb=>bO b (dm ids css (nO i ⟨cs,[]⟩ l)))=_
  rw[GN (ids:=ids) (css:=css)]
  refine rh (BJ _) (funext λb=>?_)
  rw[i5]
  show _=if b=i then _ else _
  split
  ·rename_i e;subst e;rfl
  ·rfl
theorem J6:∀{ids:List Nat} {css:List (List AV)} {s:S},(λb=>bO b (gM ids css s).boxes)=BJ ((ids.zip css).map λp=>(⟨p.1,λ_=>none⟩:EB bH)) (λb=>bO b s.boxes)
 |[],css,s=>by cases css<;>rfl
 |i::ids,[],s=>rfl
 |i::ids,cs::css,s=>by
  show(λb=>bO b (gM ids css {s with slots:=CC i cs s.slots,boxes:=lu i s.boxes}).boxes)=_
  rw[J6 (ids:=ids) (css:=css)]
  refine rh (BJ _) (funext λb=>?_)
  rw[oa];rfl
theorem DG:∀{ids:List Nat} {css:List (List AV)} {s:S} (t:Nat),lk t (gM ids css s).slots=(lk t s.slots).map λv=>(ids.zip css).foldl (λv p=>j6 p.1 p.2 v) v
 |[],css,s,t=>by cases css<;>simp[gM]
 |i::ids,[],s,t=>by simp[gM]
 |i::ids,cs::css,s,t=>by
  show lk t (gM ids css {s with slots:=CC i cs s.slots,boxes:=lu i s.boxes}).slots=_
  rw[DG (ids:=ids) (css:=css) t,yU,Option.map_map]
  rfl
theorem xS:(λb=>bO b (d.app' id s).boxes)=BJ (eB d id) (λb=>bO b s.boxes):=by
 cases d with
 |box b=>funext c;simp only[Delta.app',bO,ki];show _=if c=id then _ else _;rfl
 |st b x=>
  funext c;simp only[Delta.app',i5]
  show _=if c=b then _ else _
  split
  ·rename_i e;subst e;rfl
  ·rfl
 |calls ids css fr=>exact GN
 |Ii ids css=>exact J6
 |_=>rfl
theorem AY:(λb=>dJ b (d.app' id s).live)=BJ (eL d id) (λb=>dJ b s.live):=by
 cases d with
 |live e=>funext c;simp only[Delta.app',dJ,ki];rfl
 |app q e=>funext c;simp only[Delta.app',dJ,ki,v7];show _=if c=id then _ else if c=q then _ else _;rfl
 |calls ids css fr=>cases fr with
  |none=>rfl
  |some e=>funext c;simp only[Delta.app',dJ,ki];rfl
 |Ii ids css=>simp only[Delta.app',GK];rfl
 |_=>rfl
theorem rS(t:Nat):lk t (d.app' id s).slots=(lk t s.slots).map (fz d):=by
 cases d with
 |Ii ids css=>exact DG t
 |_=>simp[Delta.app',fz]
end
section
variable {C:aQ} {U:Nat->Prop} {d:Delta} {id:Nat} {o:bG} {s:S} {t:Nat} {v:SV} {x y:CO}
theorem Ij{e:EB bH} (h:e∈eB d id):e.tgt=id\/e.tgt∈wB d:=by
 cases d with
 |box b=>simp[eB]at h;subst h;exact .inl rfl
 |st b x=>simp[eB]at h;subst h;exact .inr (by simp[wB])
 |calls ids css fr=>
  simp only[eB,ne]at h
  obtain⟨p,hm,rfl⟩:=h;exact .inr (List.of_mem_zip hm).1
 |Ii ids css=>
  simp only[eB,ne]at h
  obtain⟨p,hm,rfl⟩:=h;exact .inr (List.of_mem_zip hm).1
 |_=>simp[eB]at h
def SV.fix(v:SV):Prop:=(∀b cs,j6 b cs v=v)/\∀b,¬v.has b
theorem qy{v:SV} (h:∀b cs,j6 b cs v=v):∀{l:List (Nat×List AV)},l.foldl (λv p=>j6 p.1 p.2 v) v=v
 |[]=>rfl
 |p::l=>by rw[ui,h,qy h]
theorem DH:∀{l:List (Nat×List AV)} {v:SV},l.foldl (λv p=>j6 p.1 p.2 v) v=v\/∃b L,v.has b/\(∀D,v.has D->D=b)/\b∈l.map (·.1)/\l.foldl (λv p=>j6 p.1 p.2 v) v=L/\L.fix
 |[],v=>.inl rfl
 |p::l,v=>by
  simp only[ui]
  cases v with
  |ptr b o=>
   by_cases e:b=p.1
   ·have:j6 p.1 p.2 (.ptr b o)=.rp (p.2.drop o):=by simp[j6,e]
    rw[this]
    have M:(SV.rp (p.2.drop o)).fix:=⟨λ_ _=>rfl,λ_ h=>h⟩
    exact .inr ⟨b,_,rfl,λD h=>Eq.symm h,by simp[e],qy M.1,M⟩
   ·have:j6 p.1 p.2 (.ptr b o)=.ptr b o:=by
     have Z:(b==p.1)=false:=by simpa using e
     simp[j6,Z]
    rw[this]
    rcases DH (l:=l) (v:=.ptr b o)with h|⟨D,L,h,R,hm,O,V⟩
    ·exact .inl h
    ·exact .inr ⟨D,L,h,R,lc _ hm,O,V⟩
  |vs b o n z=>
   by_cases e:(b==p.1&&decide (n*z<=(p.2.drop o).length))=true
   ·have:j6 p.1 p.2 (.vs b o n z)=.dat (.sl (cU z n (p.2.drop o))) none:=by simp only[j6,e,fx]
    rw[this]
    have M:(SV.dat (.sl (cU z n (p.2.drop o))) none).fix:=⟨λ_ _=>rfl,λ_ h=>h⟩
    simp only[ed,md]at e
    exact .inr ⟨b,_,rfl,λD h=>Eq.symm h,by simp[e.1],qy M.1,M⟩
   ·have:j6 p.1 p.2 (.vs b o n z)=.vs b o n z:=by simp only[j6,Hm.2 e,er]
    rw[this]
    rcases DH (l:=l) (v:=.vs b o n z)with h|⟨D,L,h,R,hm,O,V⟩
    ·exact .inl h
    ·exact .inr ⟨D,L,h,R,lc _ hm,O,V⟩
  |pt k ps=>exact .inl (qy (λ_ _=>rfl))
  |_=>exact .inl (qy (λ_ _=>rfl))
theorem l7(d:Delta) (v:SV):fz d v=v\/∃b D,v.has b/\(∀L,v.has L->L=b)/\b∈wB d/\fz d v=D/\D.fix/\∃ids css,d=.Ii ids css:=by
 cases d with
 |Ii ids css=>
  rcases DH (l:=ids.zip css) (v:=v)with h|⟨b,D,R,V,O,Z,h4⟩
  ·exact .inl h
  ·refine .inr ⟨b,D,R,V,?_,Z,h4,ids,css,rfl⟩
   obtain⟨p,M,rfl⟩:=ne.1 O;exact(List.of_mem_zip M).1
 |_=>exact .inl rfl
theorem Sn(d:Delta) (h:v.fix):fz d v=v:=by
 cases d with
 |Ii ids css=>exact qy h.1
 |_=>rfl
theorem WL{L D:Delta} (hd:∀b∈wB L,b∉wB D) (v:SV):fz D (fz L v)=fz L (fz D v):=by
 rcases l7 L v with h|⟨b,v',hb,hu,hw,h,hf,_⟩
 ·rw[h]
  rcases l7 D v with k|⟨V,u',O,R,M,k,Z,_⟩
  ·rw[k,h]
  ·rw[k,Sn L Z]
 ·rcases l7 D v with k|⟨V,u',O,R,M,k,Z,_⟩
  ·rw[k,h,Sn D hf]
  ·exact absurd M (hu V O▸hd b hw)
def aa3:Delta->Bool
 | .Ii _ _=>true
 |_=>false
theorem So{o:CO} (h:ML C id o s v d):∀b∈wB d,∃t∈o.op.N3,JI b s t:=by
 intro b D
 have h:=h.1.1
 cases d<;>simp[wB]at D
 ·subst D;exact h.2
 ·exact h.2 b D
 ·exact h.2 b D
theorem CQ{o:CO} (h:ML C id o s v d) (D:aa3 d=true):o.op.BD=true:=by
 have h:=h.1.1
 cases d<;>first|(cases D;done)|exact h.1
theorem Of(h:t∈o.N3):t∈o.wU:=by cases o<;>first|exact h|(simp[bG.N3]at h;done)
theorem Sq(h:t∈o.wU):t∈o.rd:=by cases o<;>simp[bG.wU]at h<;>simp[bG.rd,h]
theorem AZ(h:t∈o.uu):t∈o.rd:=by
 cases o<;>simp[bG.uu]at h<;>first|(simp[bG.rd,h];done)|(rcases h with h|h<;>simp[bG.rd,h])
def Clear(x y:CO) (s:S):Prop:=∀b,(∃t∈x.op.N3,JI b s t)->
 (∀t∈y.op.wU,¬JI b s t)/\(x.op.BD=true->∀t∈y.rd,¬JI b s t)
theorem SV.DI{b:Nat} (h:v.has b) (D:v.gK U):U b:=by
 cases v<;>try(exact h.elim)
 ·have h:_=b:=h
  subst h;exact D
 ·have h:_=b:=h
  subst h;exact D
 ·obtain⟨p,L,rfl⟩:=h;exact D p L
theorem MM(h:x.indep y=true):(∀d,x.dst=some d->d∉y.rd/\y.dst≠some d)/\(∀d,y.dst=some d->d∉x.rd)/\(x.op.isApp=true->y.op.isApp=false):=by
 unfold CO.indep at h;simp only[ed,sm]at h;obtain⟨⟨D,M⟩,L⟩:=h
 refine⟨λd hd=>?_,λd hd=>?_,λO=>?_⟩
 ·rw[hd]at D
  simp at D;exact⟨D.1,D.2⟩
 ·rw[hd]at M
  simpa using M
 ·rw[O]at L
  simpa using L
theorem WM(a4:x.indep y=true) (hU:s.gK U) {i j:Nat} (hi:¬U i) (hj:¬U j) (ar:i≠j) (cx:Clear x y s) (cy:Clear y x s) {vx vy:SV} {Z V:Delta} (hx:ML C i x s vx Z) (hy:ML C j y ((Z.app' i s).put x.dst vx) vy V):
  qg y.rd y.op.wU y.op.isApp ((Z.app' i s).put x.dst vx) s/\qg x.rd x.op.wU x.op.isApp s ((V.app' j s).put y.dst vy)/\
   t9 ((V.app' j ((Z.app' i s).put x.dst vx)).put y.dst vy) ((Z.app' i ((V.app' j s).put y.dst vy)).put x.dst vx):=by
 obtain⟨h1,h2,h5⟩:=MM a4
 have wx:=So hx
 have an:∀b∈wB Z,U b:=λb O=>by obtain⟨t,_,v,R,M⟩:=wx b O;exact SV.DI M (hU.slots t _ R)
 -- what y looks at
 have sy:∀t∈y.rd,lk t ((Z.app' i s).put x.dst vx).slots=lk t s.slots:=λt D=>by
  rw[rR,ge (λe=>(h1 t e).1 D),rS]
  cases R:lk t s.slots with
  |none=>rfl
  |some v=>
   simp only[mt]
   rcases l7 Z v with h|⟨b,v',ab,_,O,h,_,ids,css,hd⟩
   ·rw[h]
   ·exact absurd (⟨v,R,ab⟩:JI b s t) ((cx b (wx b O)).2 (CQ hx (by rw[hd];rfl)) t D)
 have wy:∀b∈wB V,∃t∈y.op.N3,JI b s t:=λb O=>by
  obtain⟨t,D,v,R,M⟩:=So hy b O;rw[sy t (CO.DD (Sq (Of D)))]at R;exact⟨t,D,v,R,M⟩
 have a2:∀b∈wB V,U b:=λb O=>by obtain⟨t,_,v,R,M⟩:=wy b O;exact SV.DI M (hU.slots t _ R)
 have ag:∀b∈wB Z,b∉wB V:=λb O a6=>by
  obtain⟨t,D,R⟩:=wy b a6;exact(cx b (wx b O)).1 t (Of D) R
 have sx:∀t∈x.rd,lk t ((V.app' j s).put y.dst vy).slots=lk t s.slots:=λt D=>by
  rw[rR,ge (λe=>h2 t e D),rS]
  cases R:lk t s.slots with
  |none=>rfl
  |some v=>
   simp only[mt]
   rcases l7 V v with h|⟨b,v',ab,_,O,h,_,ids,css,hd⟩
   ·rw[h]
   ·exact absurd (⟨v,R,ab⟩:JI b s t) ((cy b (wy b O)).2 (CQ hy (by rw[hd];rfl)) t D)
 -- tokens
 have tx:∀q0 e,Z=.app q0 e->U q0/\x.op.isApp=true:=λq0 e hd=>by
  have:=hx.1.1;rw[hd]at this
  obtain⟨h,t,D,a,R⟩:=this;exact⟨hU.slots t _ R,h⟩
 have ty:∀q0 e,V=.app q0 e->U q0/\y.op.isApp=true:=λq0 e hd=>by
  have:=hy.1.1;rw[hd]at this
  obtain⟨h,t,D,a,R⟩:=this;rw[sy t (CO.DD D)]at R;exact⟨hU.slots t _ R,h⟩
 have lx:∀e∈eL Z i,e.tgt=i\/(U e.tgt/\x.op.isApp=true):=λe L=>by
  cases ao:Z<;>rw[ao]at L<;>simp[eL]at L
  ·subst L;exact .inl rfl
  ·rcases L with rfl|rfl
   ·exact .inr (tx _ _ ao)
   ·exact .inl rfl
  ·rename_i fr;cases fr<;>simp at L;subst L;exact .inl rfl
 have ly:∀e∈eL V j,e.tgt=j\/(U e.tgt/\y.op.isApp=true):=λe L=>by
  cases au:V<;>rw[au]at L<;>simp[eL]at L
  ·subst L;exact .inl rfl
  ·rcases L with rfl|rfl
   ·exact .inr (ty _ _ au)
   ·exact .inl rfl
  ·rename_i fr;cases fr<;>simp at L;subst L;exact .inl rfl
 have ae:∀(d:Delta) (id:Nat) (s:S) (b:Nat),bO b (d.app' id s).boxes=BJ (eB d id) (λb=>bO b s.boxes) b:=λd id s b=>congrFun (xS d id s) b
 have ad:∀(d:Delta) (id:Nat) (s:S) (b:Nat),dJ b (d.app' id s).live=BJ (eL d id) (λb=>dJ b s.live) b:=λd id s b=>congrFun (AY d id s) b
 refine⟨⟨λt D=>(sy t D).symm,λt D b z M O=>?_,λac t D a q e M hq=>?_⟩,⟨sx,λt D b z M O=>?_,λac t D a q e M hq=>?_⟩,?_⟩
 ·obtain⟨v,M,ab⟩:=M
  rw[sy t (CO.DD (Sq D))]at M
  have al:U b:=SV.DI ab (hU.slots t _ M)
  rw[i4,ae,qq]at O
  ·exact O
  ·intro e L aa
   rcases Ij L with h|h
   ·exact hi (by rw[<-h,aa];exact al)
   ·exact(cx _ (wx _ h)).1 t D (by rw[aa];exact⟨v,M,ab⟩)
 ·rw[sy t D]at M
  have am:U q:=hU.slots t _ M
  rw[kj,ad,qq]at hq
  ·exact hq
  ·intro e L aa
   rcases lx e L with h|⟨_,h⟩
   ·exact hi (by rw[<-h,aa];exact am)
   ·have:=h5 h;rw[ac]at this;cases this
 ·have al:U b:=let ⟨_,h1,h2⟩:=M;SV.DI h2 (hU.slots t _ h1)
  rw[i4,ae,qq]
  ·exact O
  ·intro e L aa
   rcases Ij L with h|h
   ·exact hj (by rw[<-h,aa];exact al)
   ·exact(cy _ (wy _ h)).1 t D (by rw[aa];exact M)
 ·have am:U q:=hU.slots t _ M
  rw[kj,ad,qq]
  ·exact hq
  ·intro e L aa
   rcases ly e L with h|⟨_,h⟩
   ·exact hj (by rw[<-h,aa];exact am)
   ·have:=h5 ac;rw[h]at this;cases this
 ·have a3:fz V vx=vx:=by
   rcases l7 V vx with h|⟨b,v',M,_,O,h,_,ids,css,hd⟩
   ·exact h
   ·exfalso
    rcases hx.1.2 b M with⟨rfl,_⟩|⟨t,D,R⟩
    ·exact hi (a2 _ O)
    ·exact(cy b (wy b O)).2 (CQ hy (by rw[hd];rfl)) t (CO.DD (AZ D)) R
  have a5:fz Z vy=vy:=by
   rcases l7 Z vy with h|⟨b,v',M,_,O,h,_,ids,css,hd⟩
   ·exact h
   ·exfalso
    rcases hy.1.2 b M with⟨rfl,_⟩|⟨t,D,u,R,hu⟩
    ·exact hj (an _ O)
    ·rw[sy t (CO.DD (AZ D))]at R
     exact(cx b (wx b O)).2 (CQ hx (by rw[hd];rfl)) t (CO.DD (AZ D)) ⟨u,R,hu⟩
  refine⟨λt=>?_,λb=>?_,λq=>?_⟩
  ·simp only[rR,rS]
   by_cases ex:x.dst=some t
   ·have ey:y.dst≠some t:=(h1 t ex).2
    simp[ex,ey,a3]
   ·by_cases ey:y.dst=some t
    ·simp[ex,ey,a5]
    ·simp only[ex,ey,il,Option.map_map]
     congr 1
     funext v
     exact(WL ag v).symm
  ·rw[i4,i4,ae,ae]
   have e1:(λb=>bO b ((Z.app' i s).put x.dst vx).boxes)=BJ (eB Z i) (λb=>bO b s.boxes):=by rw[i4];exact xS Z i s
   have e2:(λb=>bO b ((V.app' j s).put y.dst vy).boxes)=BJ (eB V j) (λb=>bO b s.boxes):=by rw[i4];exact xS V j s
   rw[e1,e2]
   refine congrFun (DE (λe L e' ak h=>?_)) b
   rcases Ij L with k|k<;>rcases Ij ak with k'|k'
   ·exact ar (by rw[<-k,<-k',h])
   ·exact hi (a2 i (by rw[<-k,h];exact k'))
   ·exact hj (an j (by rw[<-k',<-h];exact k))
   ·exact ag _ k (by rw[h];exact k')
  ·rw[kj,kj,ad,ad]
   have e1:(λb=>dJ b ((Z.app' i s).put x.dst vx).live)=BJ (eL Z i) (λb=>dJ b s.live):=by rw[kj];exact AY Z i s
   have e2:(λb=>dJ b ((V.app' j s).put y.dst vy).live)=BJ (eL V j) (λb=>dJ b s.live):=by rw[kj];exact AY V j s
   rw[e1,e2]
   refine congrFun (DE (λe L e' ak h=>?_)) q
   rcases lx e L with k|⟨k,kk⟩<;>rcases ly e' ak with k'|⟨k',kk'⟩
   ·exact ar (by rw[<-k,<-k',h])
   ·exact hi (by rw[<-k,h];exact k')
   ·exact hj (by rw[<-k',<-h];exact k)
   ·have:=h5 kk;rw[kk']at this;cases this
end
end Go.Eng
