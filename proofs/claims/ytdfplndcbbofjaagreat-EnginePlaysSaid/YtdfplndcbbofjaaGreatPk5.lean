/- Part 5 of the engine and its library. -/
import Derived.Test.YtdfplndcbbofjaaGreatPk4
set_option linter.all false
set_option maxRecDepth 10000
set_option maxHeartbeats 4000000
namespace Go.Eng
open Go
def SV.has(b:Nat):SV->Prop
 | .ptr A _=>A=b
 | .vs A _ _ _=>A=b
 | .pt _ ps=>∃p∈ps,p.1=b
 |_=>False
def IF(b:Nat) (s:S) (t:Nat):Prop:=∃v,lk t s.slots=some v/\v.has b
theorem IF.ptr{b off:Nat} {s:S} {t:Nat} (h:lk t s.slots=some (.ptr b off)):IF b s t:=⟨_,h,rfl⟩
structure p6 (l lb:List Nat) (ap:Bool) (s s2:S):Prop where
 slots:∀t∈l,lk t s2.slots=lk t s.slots
 boxes:∀t∈lb,∀b x,IF b s t->dh b s.boxes=some x->dh b s2.boxes=some x
 live:ap=true->∀t∈l,∀a q e,lk t s.slots=some (.dat a (some q))->fq q s.live=some e->fq q s2.live=some e
section
variable{l lb:List Nat} {ap:Bool} {s s2:S}
theorem p6.sub(h:p6 l lb ap s s2) {D:List Nat} (B:∀t∈D,t∈l):p6 D lb ap s s2:=
 ⟨λt A=>h.slots t (B t A),h.boxes,λe t A=>h.live e t (B t A)⟩
theorem p6.bX(h:p6 l lb ap s s2) {x:bC} (B:∀t∈x.rd,t∈l) {v:SV} (A:Eng.bX s x=some v):Eng.bX s2 x=some v:=by
 cases x with
 |t n=>simp only[Eng.bX]at A⊢;rw[h.slots n (B n (by simp[bC.rd])),A]
 |k v=>exact A
theorem p6.aM(h:p6 l lb ap s s2) {x:bC} (D:∀t∈x.rd,t∈l) {v:AV} (A:Eng.aM s x=some v):Eng.aM s2 x=some v:=by
 unfold Eng.aM at A⊢
 cases B:Eng.bX s x with
 |none=>rw[B]at A;cases A
 |some u=>rw[h.bX D B];rw[B]at A;exact A
theorem p6.eS(h:p6 l lb ap s s2):∀{xs:List bC} (L:∀t∈aX xs,t∈l) {vs:List AV} (A:Eng.eS s xs=some vs),Eng.eS s2 xs=some vs
 |[],_,vs,A=>A
 |x::xs,L,vs,A=>by
  simp only[Eng.eS]at A⊢
  cases B:Eng.aM s x with
  |none=>simp[B]at A
  |some a=>
   cases D:Eng.eS s xs with
   |none=>simp[B,D]at A
   |some as=>
    rw[h.aM (λt E=>L t (by simp[aX,E])) B,h.eS (λt E=>L t (by simp[aX,E])) D]
    simpa[B,D]using A
theorem p6.jk(h:p6 l lb ap s s2):∀{xs:List (Nat×Nat×bC)} (L:∀t∈yU xs,t∈l) {vs:List (Nat×List AV)} (A:Eng.jk s xs=some vs),Eng.jk s2 xs=some vs
 |[],_,vs,A=>A
 |(o,z,x)::xs,L,vs,A=>by
  simp only[Eng.jk]at A⊢
  cases B:Eng.aM s x with
  |none=>simp[B]at A
  |some a=>
   cases D:Eng.jk s xs with
   |none=>simp[B,D]at A
   |some as=>
    rw[h.aM (λt E=>L t (by simp[yU,E])) B,h.jk (λt E=>L t (by simp[yU,E])) D]
    simpa only[B,D]using A
theorem p6.mS(h:p6 l lb ap s s2) {z:Nat}:∀{xs:List bC} (L:∀t∈aX xs,t∈l) {vs:List (List AV)} (A:Eng.mS s z xs=some vs),Eng.mS s2 z xs=some vs
 |[],_,vs,A=>A
 |x::xs,L,vs,A=>by
  simp only[Eng.mS]at A⊢
  cases B:Eng.aM s x with
  |none=>simp[B]at A
  |some a=>
   cases D:Eng.mS s z xs with
   |none=>simp[B,D]at A
   |some as=>
    rw[h.aM (λt E=>L t (by simp[aX,E])) B,h.mS (λt E=>L t (by simp[aX,E])) D]
    simpa only[B,D]using A
theorem p6.DB(h:p6 l lb ap s s2) {x:Option bC} (D:∀t∈Mr x,t∈l) {i:Int} (A:Eng.DB s x=some i):Eng.DB s2 x=some i:=by
 cases x with
 |none=>exact A
 |some x=>
  simp only[Eng.DB]at A⊢
  cases B:Eng.aM s x with
  |none=>simp[B,Eng.Ba]at A
  |some a=>rw[h.aM D B];rw[B]at A;exact A
theorem p6.DC(h:p6 l lb ap s s2) {xs:List (List AV)} {x:Option bC} (D:∀t∈Mr x,t∈l) {i:Int} (A:Eng.DC s xs x=some i):Eng.DC s2 xs x=some i:=by
 cases x with
 |none=>exact A
 |some x=>
  simp only[Eng.DC]at A⊢
  cases B:Eng.aM s x with
  |none=>simp[B,Eng.Ba]at A
  |some a=>rw[h.aM D B];rw[B]at A;exact A
theorem p6.bh(h:p6 l lb ap s s2) {hh:Bool}:∀{xs:List bC} (M:∀t∈aX xs,t∈l) (B:∀t∈aX xs,t∈lb) {p:List (Option AV)×List Nat} (E:Eng.eV hh s xs=some p) {css:List (List AV)} (D:Eng.bh s.boxes p.2=some css),Eng.eV hh s2 xs=some p/\Eng.bh s2.boxes p.2=some css
 |[],_,_,p,E,css,D=>by
  simp only[Eng.eV,fo]at E⊢;subst E;exact⟨rfl,D⟩
 |x::xs,M,B,p,E,css,D=>by
  simp only[Eng.eV]at E⊢
  split at E<;>try(cases E;done)
  ·rename_i a q as bs L R
   cases E
   obtain⟨O,V⟩:=h.bh (λt A=>M t (by simp[aX,A])) (λt A=>B t (by simp[aX,A])) R D
   rw[h.bX (λt A=>M t (by simp[aX,A])) L,O]
   exact⟨rfl,V⟩
  ·rename_i cs as bs L R
   cases E
   obtain⟨O,V⟩:=h.bh (λt A=>M t (by simp[aX,A])) (λt A=>B t (by simp[aX,A])) R D
   rw[h.bX (λt A=>M t (by simp[aX,A])) L,O]
   exact⟨rfl,V⟩
  ·rename_i b as bs L R
   cases E;simp only[Eng.bh]at D
   split at D<;>try(cases D;done)
   rename_i y ab hy aa;cases D
   obtain⟨O,V⟩:=h.bh (λt A=>M t (by simp[aX,A])) (λt A=>B t (by simp[aX,A])) R aa
   rw[h.bX (λt A=>M t (by simp[aX,A])) L,O]
   refine⟨rfl,?_⟩
   have Z:Eng.dh b s2.boxes=some y:=by
    cases x with
    |t n=>exact h.boxes n (B n (by simp[aX,bC.rd])) b y (.ptr L) hy
    |k v=>simp[Eng.bX]at L
   simp only[Eng.bh,Z,V]
  ·rename_i b as bs L R
   cases hh<;>cases E
   simp only[Eng.bh]at D
   split at D<;>try(cases D;done)
   rename_i y ab hy aa;cases D
   obtain⟨O,V⟩:=h.bh (λt A=>M t (by simp[aX,A])) (λt A=>B t (by simp[aX,A])) R aa
   rw[h.bX (λt A=>M t (by simp[aX,A])) L,O]
   refine⟨rfl,?_⟩
   have Z:Eng.dh b s2.boxes=some y:=by
    cases x with
    |t n=>exact h.boxes n (B n (by simp[aX,bC.rd])) b y ⟨_,L,(b,0),TB,rfl⟩ hy
    |k v=>simp[Eng.bX]at L
   simp only[Eng.bh,Z,V]
theorem p6.eY(h:p6 l lb ap s s2) {hh:Bool}:∀{xs:List bC} (M:∀t∈aX xs,t∈l) (B:∀t∈aX xs,t∈lb) {p:List (Option AV)×List Nat} (E:Eng.eV hh s xs=some p) {css:List (List AV)} (D:Eng.eY s.boxes p.2=some css),Eng.eV hh s2 xs=some p/\Eng.eY s2.boxes p.2=some css
 |[],_,_,p,E,css,D=>by
  simp only[Eng.eV,fo]at E⊢;subst E;exact⟨rfl,D⟩
 |x::xs,M,B,p,E,css,D=>by
  simp only[Eng.eV]at E⊢
  split at E<;>try(cases E;done)
  ·rename_i a q as bs L R
   cases E
   obtain⟨O,V⟩:=h.eY (λt A=>M t (by simp[aX,A])) (λt A=>B t (by simp[aX,A])) R D
   rw[h.bX (λt A=>M t (by simp[aX,A])) L,O]
   exact⟨rfl,V⟩
  ·rename_i cs as bs L R
   cases E
   obtain⟨O,V⟩:=h.eY (λt A=>M t (by simp[aX,A])) (λt A=>B t (by simp[aX,A])) R D
   rw[h.bX (λt A=>M t (by simp[aX,A])) L,O]
   exact⟨rfl,V⟩
  ·rename_i b as bs L R
   cases E;simp only[Eng.eY]at D
   split at D<;>try(cases D;done)
   rename_i cs ab hy aa;cases D
   obtain⟨O,V⟩:=h.eY (λt A=>M t (by simp[aX,A])) (λt A=>B t (by simp[aX,A])) R aa
   rw[h.bX (λt A=>M t (by simp[aX,A])) L,O]
   refine⟨rfl,?_⟩
   have Z:Eng.dh b s2.boxes=some ⟨cs,[]⟩:=by
    cases x with
    |t n=>exact h.boxes n (B n (by simp[aX,bC.rd])) b _ (.ptr L) hy
    |k v=>simp[Eng.bX]at L
   simp only[Eng.eY,Z,V]
  ·rename_i b as bs L R
   cases hh<;>cases E
   simp only[Eng.eY]at D
   split at D<;>try(cases D;done)
   rename_i cs ab hy aa;cases D
   obtain⟨O,V⟩:=h.eY (λt A=>M t (by simp[aX,A])) (λt A=>B t (by simp[aX,A])) R aa
   rw[h.bX (λt A=>M t (by simp[aX,A])) L,O]
   refine⟨rfl,?_⟩
   have Z:Eng.dh b s2.boxes=some ⟨cs,[]⟩:=by
    cases x with
    |t n=>exact h.boxes n (B n (by simp[aX,bC.rd])) b _ ⟨_,L,(b,0),TB,rfl⟩ hy
    |k v=>simp[Eng.bX]at L
   simp only[Eng.eY,Z,V]
theorem p6.dh(h:p6 l lb ap s s2) {x:bC} (B:∀t∈x.rd,t∈lb) {b off:Nat} {bx:dH} (A:Eng.bX s x=some (.ptr b off)) (D:Eng.dh b s.boxes=some bx):Eng.dh b s2.boxes=some bx:=by
 cases x with
 |t n=>exact h.boxes n (B n (by simp[bC.rd])) b bx (.ptr A) D
 |k v=>simp[Eng.bX]at A
end
inductive Delta where
 |no
 |box (b:dH)
 |live (e:Nat)
 |app (q e:Nat)
 |st (b:Nat) (x:dH)
 |calls (ids:List Nat) (css:List (List AV)) (fr:Option Nat)
 |Hs (ids:List Nat) (css:List (List AV))
section
variable (d:Delta) (id:Nat) (o:bU) {b:Nat} {x:bC} (s:S)
def Delta.app':S:=
 match d with
 | .no=>s
 | .box b=>{s with boxes:=(id,b)::s.boxes}
 | .live e=>{s with live:=(id,e)::s.live}
 | .app q e=>{s with live:=(id,e)::nH q s.live}
 | .st b x=>{s with boxes:=pn b x s.boxes}
 | .calls ids css fr=>{s with boxes:=eG ids css s.boxes,live:=match fr with|some e=>(id,e)::s.live|none=>s.live}
 | .Hs ids css=>iA ids css s
def Delta.ok:Prop:=
 match d with
 | .st b _=>o.BV=false/\∃t∈o.Ms,IF b s t
 | .calls ids _ _=>o.BV=false/\∀b∈ids,∃t∈o.Ms,IF b s t
 | .Hs ids _=>o.BV=true/\∀b∈ids,∃t∈o.Ms,IF b s t
 | .app q _=>o.isApp=true/\∃t∈o.rd,∃a,lk t s.slots=some (.dat a (some q))
 |_=>True
def dH.gS(U:Nat->Prop) (x:dH):Prop:=∀o q,fq o x.tags=some q->U q
def Delta.gS(U:Nat->Prop) (d:Delta):Prop:=
 match d with
 | .box b=>b.gS U
 | .app q _=>U q
 | .st b x=>U b/\x.gS U
 | .calls ids _ _=>∀b∈ids,U b
 |_=>True
structure S.gS (U:Nat->Prop) (s:S):Prop where
 slots:∀t v,lk t s.slots=some v->v.gS U
 boxes:∀b x,dh b s.boxes=some x->U b/\x.gS U
 live:∀q e,fq q s.live=some e->U q
theorem S.gS.bX{U:Nat->Prop} {s:S} (h:s.gS U) {x:bC} {v:SV} (A:Eng.bX s x=some v):v.gS U:=by
 cases x with
 |t n=>exact h.slots n v A
 |k a=>simp only[Eng.bX,fo]at A;subst A;trivial
theorem vS{s:S} {off:Nat} (h:bX s x=some (.ptr b off)):∃t∈x.rd,IF b s t:=by
 cases x with
 |t n=>exact⟨n,by simp[bC.rd],.ptr h⟩
 |k v=>simp[bX]at h
theorem js{s:S} {L:Bool}:∀{xs:List bC} {p:List (Option AV)×List Nat},eV L s xs=some p->∀b∈p.2,∃t∈aX xs,IF b s t
 |[],p,h,b,hb=>by simp[eV]at h;subst h;cases hb
 |x::xs,p,h,b,hb=>by
  unfold eV at h;split at h
  ·rename_i E D
   cases h;obtain⟨t,B,A⟩:=js D b hb
   exact⟨t,by simp[aX,B],A⟩
  ·rename_i E D
   cases h;obtain⟨t,B,A⟩:=js D b hb
   exact⟨t,by simp[aX,B],A⟩
  ·rename_i E D
   cases h
   rcases mp.1 hb with rfl|hb
   ·obtain⟨t,B,A⟩:=vS E
    exact⟨t,by simp[aX,B],A⟩
   ·obtain⟨t,B,A⟩:=js D b hb
    exact⟨t,by simp[aX,B],A⟩
  ·rename_i E D
   cases L<;>cases h
   rcases mp.1 hb with rfl|hb
   ·cases x with
    |t n=>exact⟨n,by simp[aX,bC.rd],_,E,(b,0),TB,rfl⟩
    |k v=>simp[bX]at E
   ·obtain⟨t,B,A⟩:=js D b hb
    exact⟨t,by simp[aX,B],A⟩
  ·cases h
def wE(v:SV):Prop:=∀b,v.has b->(b=id/\o.Pw=true)\/∃t∈o.tM,IF b s t
theorem wE.dat{id:Nat} {o:bU} {s:S} {a:AV} {q:Option Nat}:wE id o s (.dat a q):=λ_ h=>h.elim
theorem wE.undef{id:Nat} {o:bU} {s:S}:wE id o s .undef:=λ_ h=>h.elim
theorem wE.rp{id:Nat} {o:bU} {s:S} {cs:List AV}:wE id o s (.rp cs):=λ_ h=>h.elim
theorem nk{s:S} {v:SV} (h:bX s x=some v) (A:v.has b):∃t∈x.rd,IF b s t:=by
 cases x with
 |t n=>exact⟨n,by simp[bC.rd],_,h,A⟩
 |k a=>simp only[bX,fo]at h;subst h;exact A.elim
def Path(C:aY) (id:Nat) (o:bU) (K:SV->S->Prop) (s:S):Prop:=
 ∃v d,K v (Delta.app' d id s)/\d.ok o s/\(∀U,s.gS U->v.gS (fu U id)/\d.gS U)/\wE id o s v/\∀s2,p6 o.rd o.wC o.isApp s s2->∀K':SV->S->Prop,K' v (d.app' id s2)->bS C id o K' s2
end
section
variable{C:aY} {id:Nat} {o:bU} {K:SV->S->Prop} {s:S}
theorem Path.val{a:AV} (hK:K (.dat a none) s) (h:∀s2,p6 o.rd o.wC o.isApp s s2->∀K':SV->S->Prop,K' (.dat a none) s2->bS C id o K' s2):Path C id o K s:=
 ⟨.dat a none,.no,hK,trivial,λU _=>⟨trivial,trivial⟩,.dat,h⟩
theorem Path.sv{v:SV} (hK:K v s) (D:∀U,s.gS U->v.gS U) (B:wE id o s v) (h:∀s2,p6 o.rd o.wC o.isApp s s2->∀K':SV->S->Prop,K' v s2->bS C id o K' s2):Path C id o K s:=
 ⟨v,.no,hK,trivial,λU A=>⟨SV.nN (λn h=>.inl h) (D U A),trivial⟩,B,h⟩
theorem zf(h:bS C id o K s):Path C id o K s:=by
 cases o<;>simp only[bS]at h
 case mv x=>
  obtain⟨v,L,hK⟩:=ah h
  exact Path.sv hK (λU D=>D.bX L) (λb e=>.inr (nk L e)) λs2 A K' hk=>by simpa[bS,A.bX (λt ht=>ht) L]using hk
 case pick c a b=>
  obtain⟨t,ht,h⟩:=ah h
  cases t<;>try(exact h.elim)
  rename_i t;obtain⟨u,hu,h⟩:=ah h;obtain⟨v,L,a8,a6⟩:=ah h;cases t
  ·exact Path.sv (a6 rfl) (λU D=>D.bX L) (λb' e=>.inr (by obtain⟨t,ht,hl⟩:=nk (x:=b) L e;exact⟨t,by simp[bU.tM,ht],hl⟩)) λs2 A K' hk=>by
    simpa[bS,A.aM (x:=c) (by simp[bU.rd];grind) ht,A.bX (x:=a) (by simp[bU.rd];grind) hu,A.bX (x:=b) (by simp[bU.rd];grind) L]using hk
  ·exact Path.sv (a8 rfl) (λU D=>D.bX hu) (λb' e=>.inr (by obtain⟨t,ht,hl⟩:=nk (x:=a) hu e;exact⟨t,by simp[bU.tM,ht],hl⟩)) λs2 A K' hk=>by
    simpa[bS,A.aM (x:=c) (by simp[bU.rd];grind) ht,A.bX (x:=a) (by simp[bU.rd];grind) hu,A.bX (x:=b) (by simp[bU.rd];grind) L]using hk
 case alloc cs=>
  exact⟨.ptr id 0,.box ⟨cs,[]⟩,h,trivial,λU _=>⟨.inr rfl,λo q Z=>by cases Z⟩,λb e=>.inl ⟨e.symm,rfl⟩,λs2 A K' hk=>hk⟩
 case box x=>
  obtain⟨a,E,au,hK⟩:=ah h
  exact⟨.ptr id 0,.box ⟨a.cells,[]⟩,hK,trivial,λU _=>⟨.inr rfl,λo q Z=>by cases Z⟩,λb e=>.inl ⟨e.symm,rfl⟩,λs2 A K' hk=>by
   simpa[bS,A.aM (x:=x) (by simp[bU.rd]) E,au,Delta.app']using hk⟩
 case build zs ps=>
  obtain⟨p,B,hK⟩:=ah h
  exact Path.val hK λs2 A K' hk=>by simpa[bS,A.jk (by simp[bU.rd]) B]using hk
 case SP e z xs=>
  obtain⟨p,B,hK⟩:=ah h
  exact⟨.dat (.sl p) (some id),.live e,hK,trivial,λU D=>⟨.inr rfl,trivial⟩,.dat,λs2 A K' hk=>by simpa[bS,A.mS (by simp[bU.rd]) B,Delta.app']using hk⟩
 case ld x sz=>
  obtain⟨p,B,h⟩:=ah h
  cases p<;>try(exact h.elim)
  ·rename_i b off
   obtain⟨bx,O,h⟩:=ah h;obtain⟨a,E,hK⟩:=ah h
   refine Path.sv hK (λU D=>?_) .dat λs2 A K' hk=>by simpa[bS,A.bX (x:=x) (by simp[bU.rd]) B,A.dh (x:=x) (by simp[bU.wC]) B O,E]using hk
   cases sz with
   |some n=>trivial
   |none=>
    cases Z:fq off bx.tags with
    |none=>trivial
    |some q=>exact(D.boxes b bx O).2 off q Z
  ·rename_i cs
   obtain⟨a,E,hK⟩:=ah h
   exact Path.val hK λs2 A K' hk=>by simpa[bS,A.bX (x:=x) (by simp[bU.rd]) B,E]using hk
 case st x v sz=>
  obtain⟨p,B,h⟩:=ah h
  cases p<;>try(exact h.elim)
  rename_i b off;obtain⟨bx,O,h⟩:=ah h;obtain⟨u,hu,h⟩:=ah h
  cases u<;>try(exact h.elim)
  rename_i a q;obtain⟨h1,V,h3,hK⟩:=h
  refine⟨.undef,.st b ⟨setCells bx.cells off a.cells,match(generalizing:=false) q with|some q=>(off,q)::bx.tags.filter (λp=>p.1<off||off+sz<=p.1)|none=>bx.tags.filter (λp=>p.1<off||off+sz<=p.1)⟩,hK,⟨rfl,vS (x:=x) B⟩,λU D=>⟨trivial,?_,?_⟩,.undef,λs2 A K' hk=>?_⟩
  ·exact(D.boxes b bx O).1
  ·intro o q' ac
   have al:∀q',fq o (bx.tags.filter (λp=>p.1<off||off+sz<=p.1))=some q'->U q':=λq' ac=>
    (D.boxes b bx O).2 o q' (DJ ac (λx=>rfl)).1
   cases q with
   |none=>exact al q' ac
   |some q=>
    simp only[fq]at ac;cases a3:o==off
    ·rw[a3]at ac;exact al q' ac
    ·rw[a3]at ac
     simp only[ge,fo]at ac;subst ac;exact D.bX hu
  ·simp only[bS,A.bX (x:=x) (by simp[bU.rd];grind) B,A.bX (x:=v) (by simp[bU.rd];grind) hu,A.dh (x:=x) (by simp[bU.wC]) B O,aG]
   exact⟨h1,V,h3,hk⟩
 case fa x off=>
  obtain⟨p,B,h⟩:=ah h
  cases p<;>try(exact h.elim)
  ·exact Path.sv h (λU D=>(D.bX B:(SV.ptr _ _).gS U)) (λb' e=>.inr (by cases e;exact vS (x:=x) B)) λs2 A K' hk=>by simpa[bS,A.bX (x:=x) (by simp[bU.rd]) B]using hk
  ·exact Path.sv h (λU D=>trivial) .rp λs2 A K' hk=>by simpa[bS,A.bX (x:=x) (by simp[bU.rd]) B]using hk
  ·rename_i k ps
   match k,B,h with
   |2,B,h=>exact Path.sv h (λU D p Z=>(D.bX B:(SV.pt 2 ps).gS U) p (nf Z)) (λb' ⟨q,Z,e⟩=>.inr (nk (x:=x) B ⟨q,nf Z,e⟩)) λs2 A K' hk=>by simpa[bS,A.bX (x:=x) (by simp[bU.rd]) B]using hk
   |0,_,h=>exact h.elim
   |1,_,h=>exact h.elim
   |k+3,_,h=>exact h.elim
 case S1 x sz=>
  obtain⟨p,B,h⟩:=ah h
  cases p<;>try(exact h.elim)
  rename_i k ps
  match k,sz,ps,B,h with
  |2,none,(b,o)::ps,B,h=>exact Path.sv h (λU D=>(D.bX B:(SV.pt 2 _).gS U) (b,o) TB) (λb' e=>.inr (nk (x:=x) B ⟨(b,o),TB,e⟩)) λs2 A K' hk=>by simpa[bS,A.bX (x:=x) (by simp[bU.rd]) B]using hk
  |2,none,[],B,h=>exact h.elim
  |2,some n,ps,B,h=>
   have h':n<=ps.length/\K (.pt 0 (ps.take n)) s:=by cases ps<;>exact h
   exact Path.sv h'.2 (λU D p Z=>(D.bX B:(SV.pt 2 ps).gS U) p (tl Z)) (λb' ⟨q,Z,e⟩=>.inr (nk (x:=x) B ⟨q,tl Z,e⟩)) λs2 A K' hk=>by
    have e:=A.bX (x:=x) (by simp[bU.rd]) B
    simp only[bS,e,aG]
    cases ps<;>exact⟨h'.1,hk⟩
  |0,_,_,_,h=>exact h.elim
  |1,_,_,_,h=>exact h.elim
  |k+3,_,_,_,h=>exact h.elim
 case Pd x i n z=>
  obtain⟨p,B,h⟩:=ah h;obtain⟨a,E,h⟩:=ah h;obtain⟨j,hj,aa,h⟩:=ah h
  cases p<;>try(exact h.elim)
  ·exact Path.sv h (λU D=>(D.bX B:(SV.ptr _ _).gS U)) (λb' e=>.inr (by cases e;exact vS (x:=x) B)) λs2 A K' hk=>by simpa[bS,A.bX (x:=x) (by simp[bU.rd];grind) B,A.aM (x:=i) (by simp[bU.rd];grind) E,hj,aa]using hk
  ·exact Path.sv h (λU D=>trivial) .rp λs2 A K' hk=>by simpa[bS,A.bX (x:=x) (by simp[bU.rd];grind) B,A.aM (x:=i) (by simp[bU.rd];grind) E,hj,aa]using hk
 case S0 x i z=>
  obtain⟨p,B,h⟩:=ah h
  cases p<;>try(exact h.elim)
  rotate_left
  ·obtain⟨a,E,h⟩:=ah h
   obtain⟨j,hj,aa,hz,h⟩:=ah h
   exact Path.sv h (λU D=>(D.bX B:(SV.vs _ _ _ _).gS U)) (λb' e=>.inr (by cases e;exact nk (x:=x) B rfl)) λs2 A K' hk=>by
    simp only[bS,A.bX (x:=x) (by simp[bU.rd];grind) B,A.aM (x:=i) (by simp[bU.rd];grind) E,hj,aG]
    exact⟨aa,hz,hk⟩
  obtain⟨a,E,h⟩:=ah h;obtain⟨j,hj,h⟩:=ah h;obtain⟨xs,ad,aa,h⟩:=ah h;obtain⟨row,a5,hz,hK⟩:=ah h
  refine Path.sv hK (λU D=>trivial) .rp λs2 A K' hk=>?_
  simp only[bS,A.bX (x:=x) (by simp[bU.rd];grind) B,A.aM (x:=i) (by simp[bU.rd];grind) E,hj,ad,a5,aG]
  exact⟨aa,hz,hk⟩
 case He x off sz=>
  obtain⟨p,B,h⟩:=ah h
  cases p<;>try(exact h.elim)
  obtain⟨a,E,hK⟩:=ah h
  exact Path.val hK λs2 A K' hk=>by simpa[bS,A.aM (x:=x) (by simp[bU.rd]) B,E]using hk
 case KO x i n z sz=>
  obtain⟨p,B,h⟩:=ah h
  cases p<;>try(exact h.elim)
  obtain⟨a,E,h⟩:=ah h;obtain⟨j,hj,aa,h⟩:=ah h;obtain⟨b,O,hK⟩:=ah h
  exact Path.val hK λs2 A K' hk=>by simpa[bS,A.aM (x:=x) (by simp[bU.rd];grind) B,A.aM (x:=i) (by simp[bU.rd];grind) E,hj,aa,O]using hk
 case bin op x y=>
  obtain⟨a,E,h⟩:=ah h;obtain⟨b,O,h⟩:=ah h;obtain⟨v,L,hK⟩:=ah h
  exact Path.val hK λs2 A K' hk=>by simpa[bS,A.aM (x:=x) (by simp[bU.rd];grind) E,A.aM (x:=y) (by simp[bU.rd];grind) O,L]using hk
 case eqc ks neg x y=>
  obtain⟨a,E,h⟩:=ah h
  cases a<;>try(exact h.elim)
  obtain⟨b,O,h⟩:=ah h
  cases b<;>try(exact h.elim)
  obtain⟨v,L,hK⟩:=ah h
  exact Path.val hK λs2 A K' hk=>by simpa[bS,A.aM (x:=x) (by simp[bU.rd];grind) E,A.aM (x:=y) (by simp[bU.rd];grind) O,L]using hk
 case bb neg x y=>
  obtain⟨a,E,h⟩:=ah h;obtain⟨b,O,h⟩:=ah h;obtain⟨v,L,hK⟩:=ah h
  exact Path.val hK λs2 A K' hk=>by simpa[bS,A.aM (x:=x) (by simp[bU.rd];grind) E,A.aM (x:=y) (by simp[bU.rd];grind) O,L]using hk
 case un op x=>
  obtain⟨a,E,h⟩:=ah h;obtain⟨v,L,hK⟩:=ah h
  exact Path.val hK λs2 A K' hk=>by simpa[bS,A.aM (x:=x) (by simp[bU.rd]) E,L]using hk
 case rm k x=>
  obtain⟨a,E,h⟩:=ah h;obtain⟨v,L,hK⟩:=ah h
  exact Path.val hK λs2 A K' hk=>by simpa[bS,A.aM (x:=x) (by simp[bU.rd]) E,L]using hk
 case Dw k x=>
  obtain⟨a,E,h⟩:=ah h;obtain⟨v,L,hK⟩:=ah h
  exact Path.val hK λs2 A K' hk=>by simpa[bS,A.aM (x:=x) (by simp[bU.rd]) E,L]using hk
 case Hf k x=>
  obtain⟨a,E,h⟩:=ah h;obtain⟨v,L,hK⟩:=ah h
  exact Path.val hK λs2 A K' hk=>by simpa[bS,A.aM (x:=x) (by simp[bU.rd]) E,L]using hk
 case Hg x=>
  obtain⟨v,L,hK⟩:=ah h
  exact Path.sv hK (λU D=>D.bX L) (λb e=>.inr (nk L e)) λs2 A K' hk=>by simpa[bS,A.bX (λt ht=>ht) L]using hk
 case KY x=>
  obtain⟨a,E,h⟩:=ah h
  cases a<;>try(exact h.elim)
  rotate_left
  ·exact Path.val h λs2 A K' hk=>by simpa[bS,A.bX (x:=x) (by simp[bU.rd]) E]using hk
  obtain⟨v,L,hK⟩:=ah h
  exact Path.val hK λs2 A K' hk=>by simpa[bS,A.bX (x:=x) (by simp[bU.rd]) E,L]using hk
 case KZ n=>exact Path.val h λs2 A K' hk=>by simpa[bS]using hk
 case WG x n z hi=>
  obtain⟨p,B,h⟩:=ah h
  cases p<;>try(exact h.elim)
  rename_i b off;obtain⟨a,E,V⟩:=ah h;obtain⟨j,hj,aa,hK⟩:=ah V
  refine Path.sv hK (λU D=>?_) (λb' e=>.inr (by cases e;exact nk (x:=x) B rfl)) λs2 A K' hk=>?_
  ·have:(SV.ptr b off).gS U:=D.bX B
   exact this
  ·simp only[bS,A.bX (x:=x) (by simp[bU.rd];grind) B,A.aM (x:=hi) (by simp[bU.rd];grind) E,hj,aG]
   exact⟨aa,hk⟩
 case FQ e z bytes y x=>
  obtain⟨p,B,h⟩:=ah h
  cases p<;>try(exact h.elim)
  rename_i b off n z';obtain⟨q,Z,V⟩:=ah h
  cases q<;>try(exact V.elim)
  rename_i b' o';obtain⟨⟨e1,e2⟩,h3⟩:=V;obtain⟨bx,O,h4,hK⟩:=ah h3
  have hy:∀t∈y.rd,t∈(bU.FQ e z bytes y x).rd:=by simp[bU.rd];grind
  have hx:∀t∈x.rd,t∈(bU.FQ e z bytes y x).rd:=by simp[bU.rd];grind
  rw[e1]at Z
  by_cases hn:n=0
  ·rw[et hn]at hK
   refine Path.val hK λs2 A K' hk=>?_
   have ar:=A.dh (x:=x) (by simp[bU.wC]) Z O
   simp only[bS,A.bX hy B,A.bX hx Z,aG,et hn,ar];exact⟨⟨trivial,e2⟩,h4,hk⟩
  ·rw[ek hn]at hK
   refine⟨.dat (.sl (dA z n (bx.cells.drop off))) (some id),.live e,hK,trivial,λU D=>⟨.inr rfl,trivial⟩,.dat,λs2 A K' hk=>?_⟩
   have ar:=A.dh (x:=x) (by simp[bU.wC]) Z O
   simp only[bS,A.bX hy B,A.bX hx Z,aG,ek hn,ar];exact⟨⟨trivial,e2⟩,h4,hk⟩
 case app e z bytes x y=>
  obtain⟨p,B,h⟩:=ah h
  cases p<;>try(exact h.elim)
  rename_i a q;obtain⟨xs,ad,h⟩:=ah h;obtain⟨b,O,h⟩:=ah h;obtain⟨ys,an,h1,V,h3,h⟩:=ah h
  have hx:∀t∈x.rd,t∈(bU.app e z bytes x y).rd:=by simp[bU.rd];grind
  have hy:∀t∈y.rd,t∈(bU.app e z bytes x y).rd:=by simp[bU.rd];grind
  cases a<;>try(exact h.elim)
  ·--nil
   simp only[]at h;split at h
   ·rename_i he
    refine Path.val h λs2 A K' hk=>?_
    simp only[bS,A.bX hx B,A.aM hy O,ad,an,aG,et he];exact⟨h1,V,h3,hk⟩
   ·rename_i he
    refine⟨.dat (.sl (xs++ys)) (some id),.live e,h,trivial,λU D=>⟨.inr rfl,trivial⟩,.dat,λs2 A K' hk=>?_⟩
    simp only[bS,A.bX hx B,A.aM hy O,ad,an,aG,ek he];exact⟨h1,V,h3,hk⟩
  ·cases q with
   |none=>exact h.elim
   |some q=>
    obtain⟨Z,hK⟩:=h
    have a4:∃t∈(bU.app e z bytes x y).rd,∃a,lk t s.slots=some (.dat a (some q)):=by
     cases x with
     |t n=>exact⟨n,hx n (by simp[bC.rd]),_,B⟩
     |k v=>simp[bX]at B
    refine⟨.dat (.sl (xs++ys)) (some id),.app q e,hK,⟨rfl,a4⟩,λU D=>⟨.inr rfl,D.live q e Z⟩,.dat,λs2 A K' hk=>?_⟩
    have a7:fq q s2.live=some e:=by
     cases x with
     |t n=>exact A.live rfl n (hx n (by simp[bC.rd])) _ q e B Z
     |k v=>simp[bX]at B
    simp only[bS,A.bX hx B,A.aM hy O,ad,an,aG];exact⟨h1,V,h3,a7,hk⟩
 case call f args=>
  obtain⟨as,has,r,fr,hc,hK⟩:=ah h
  cases fr with
  |none=>exact Path.val hK λs2 A K' hk=>by simp only[bS,A.eS (by simp[bU.rd]) has,aG];exact⟨r,none,hc,hk⟩
  |some e=>exact⟨.dat r (some id),.live e,hK,trivial,λU D=>⟨.inr rfl,trivial⟩,.dat,λs2 A K' hk=>by simp only[bS,A.eS (by simp[bU.rd]) has,aG];exact⟨r,some e,hc,hk⟩⟩
 case eo f args=>
  obtain⟨p,B,ab,h⟩:=ah h;obtain⟨css,R,r,fr,M,hc,hK⟩:=ah h
  have ao:∀U,s.gS U->∀b∈p.2,U b:=by
   intro U D b O
   obtain⟨k,hk⟩:=l3.1 O
   obtain⟨x,hx,_⟩:=(gJ R).2 k b hk
   exact(D.boxes b x hx).1
  have ae:∀s2,p6 (bU.eo f args).rd (bU.eo f args).wC (bU.eo f args).isApp s s2->∀K':SV->S->Prop,K' (.dat r (fr.map λ_=>id)) (Delta.app' (.calls p.2 M fr) id s2)->bS C id (.eo f args) K' s2:=by
   intro s2 A K' hk
   obtain⟨h1,V⟩:=A.bh (xs:=args) (by simp[bU.rd]) (by simp[bU.wC]) B R
   simp only[bS,h1,V,aG];exact⟨ab,r,fr,M,hc,hk⟩
  exact⟨.dat r (fr.map λ_=>id),.calls p.2 M fr,hK,⟨rfl,js B⟩,λU D=>⟨by cases fr with|none=>trivial|some e=>exact .inr rfl,ao U D⟩,.dat,ae⟩
 case wA f args=>
  obtain⟨p,B,ab,h⟩:=ah h;obtain⟨css,R,v,M,hc,hK⟩:=ah h
  refine⟨.dat v none,.calls p.2 M none,hK,⟨rfl,js B⟩,λU D=>⟨trivial,λb O=>?_⟩,.dat,λs2 A K' hk=>?_⟩
  ·obtain⟨k,hk⟩:=l3.1 O
   obtain⟨x,hx,_⟩:=(gJ R).2 k b hk
   exact(D.boxes b x hx).1
  ·obtain⟨h1,V⟩:=A.bh (xs:=args) (by simp[bU.rd]) (by simp[bU.wC]) B R
   simp only[bS,h1,V,aG];exact⟨ab,v,M,hc,hk⟩
 case kN g args=>
  obtain⟨a,E,h⟩:=ah h
  cases a<;>try(exact h.elim)
  rename_i fn first caps
  cases fn<;>try(exact h.elim)
  obtain⟨as,has,r,fr,hc,hK⟩:=ah h
  have hg:∀t∈g.rd,t∈(bU.kN g args).rd:=by simp[bU.rd];grind
  have am:∀t∈aX args,t∈(bU.kN g args).rd:=by simp[bU.rd];grind
  cases fr with
  |none=>exact Path.val hK λs2 A K' hk=>by simp only[bS,A.aM hg E,A.eS am has,aG];exact⟨r,none,hc,hk⟩
  |some e=>exact⟨.dat r (some id),.live e,hK,trivial,λU D=>⟨.inr rfl,trivial⟩,.dat,λs2 A K' hk=>by simp only[bS,A.aM hg E,A.eS am has,aG];exact⟨r,some e,hc,hk⟩⟩
 case ext x i=>
  obtain⟨a,E,h⟩:=ah h;obtain⟨v,L,hK⟩:=ah h
  exact Path.val hK λs2 A K' hk=>by simpa[bS,A.aM (x:=x) (by simp[bU.rd]) E,L]using hk
 case xt e x=>
  obtain⟨a,E,h⟩:=ah h;obtain⟨v,L,hK⟩:=ah h
  exact Path.val hK λs2 A K' hk=>by simpa[bS,A.aM (x:=x) (by simp[bU.rd]) E,L]using hk
 case ixB x i=>
  obtain⟨p,B,h⟩:=ah h
  cases p<;>try(exact h.elim)
  obtain⟨a,E,h⟩:=ah h;obtain⟨j,hj,h⟩:=ah h;obtain⟨b,O,hK⟩:=ah h
  exact Path.val hK λs2 A K' hk=>by simpa[bS,A.aM (x:=x) (by simp[bU.rd];grind) B,A.aM (x:=i) (by simp[bU.rd];grind) E,hj,O]using hk
 case WE neg x=>
  obtain⟨a,E,h⟩:=ah h;obtain⟨v,L,hK⟩:=ah h
  exact Path.val hK λs2 A K' hk=>by simpa[bS,A.aM (x:=x) (by simp[bU.rd]) E,L]using hk
 case Dx f args=>
  obtain⟨p,B,ab,h⟩:=ah h;obtain⟨css,R,r,hc,hK⟩:=ah h
  refine Path.val hK λs2 A K' hk=>?_
  obtain⟨h1,V⟩:=A.eY (xs:=args) (by simp[bU.rd]) (by simp[bU.wC]) B R
  simp only[bS,h1,V,aG];exact⟨ab,r,hc,hk⟩
 case tJ g args=>
  obtain⟨a,E,h⟩:=ah h
  cases a<;>try(exact h.elim)
  rename_i fn first caps
  cases fn<;>try(exact h.elim)
  rename_i f
  cases first<;>try(exact h.elim)
  cases caps<;>try(exact h.elim)
  obtain⟨p,B,ab,h⟩:=ah h;obtain⟨css,R,r,hc,hK⟩:=ah h
  have hg:∀t∈g.rd,t∈(bU.tJ g args).rd:=by simp[bU.rd];grind
  refine Path.val hK λs2 A K' hk=>?_
  obtain⟨h1,V⟩:=A.eY (xs:=args) (by simp[bU.rd];grind) (by simp[bU.wC]) B R
  simp only[bS,A.aM hg E,h1,V,aG];exact⟨ab,r,hc,hk⟩
 case gU g args=>
  obtain⟨a,E,h⟩:=ah h
  cases a<;>try(exact h.elim)
  rename_i fn first caps
  cases fn<;>try(exact h.elim)
  rename_i f
  cases first<;>try(exact h.elim)
  cases caps<;>try(exact h.elim)
  obtain⟨p,B,ab,h⟩:=ah h;obtain⟨css,R,r,fr,M,hc,hK⟩:=ah h
  have ao:∀U,s.gS U->∀b∈p.2,U b:=by
   intro U D b O
   obtain⟨k,hk⟩:=l3.1 O
   obtain⟨x,hx,_⟩:=(gJ R).2 k b hk
   exact(D.boxes b x hx).1
  have hg:∀t∈g.rd,t∈(bU.gU g args).rd:=by simp[bU.rd];grind
  have ae:∀s2,p6 (bU.gU g args).rd (bU.gU g args).wC (bU.gU g args).isApp s s2->∀K':SV->S->Prop,K' (.dat r (fr.map λ_=>id)) (Delta.app' (.calls p.2 M fr) id s2)->bS C id (.gU g args) K' s2:=by
   intro s2 A K' hk
   obtain⟨h1,V⟩:=A.bh (xs:=args) (by simp[bU.rd];grind) (by simp[bU.wC]) B R
   simp only[bS,A.aM hg E,h1,V,aG];exact⟨ab,r,fr,M,hc,hk⟩
  exact⟨.dat r (fr.map λ_=>id),.calls p.2 M fr,hK,⟨rfl,js B⟩,λU D=>⟨by cases fr with|none=>trivial|some e=>exact .inr rfl,ao U D⟩,.dat,ae⟩
 case Wd x n z=>
  obtain⟨p,B,h⟩:=ah h
  cases p<;>try(exact h.elim)
  ·rename_i b off
   obtain⟨h4,h⟩:=h;obtain⟨bx,O,ak,hK⟩:=ah h
   refine⟨_,.Hs [b] [bx.cells],hK,⟨rfl,λb' a2=>?_⟩,λU D=>⟨trivial,trivial⟩,.dat,λs2 A K' hk=>?_⟩
   ·simp only[lm]at a2;subst a2;exact vS (x:=x) B
   ·simp only[bS,A.bX (x:=x) (by simp[bU.rd]) B,A.dh (x:=x) (by simp[bU.wC]) B O,aG]
    exact⟨h4,ak,hk⟩
  ·obtain⟨ak,hK⟩:=h
   refine Path.val hK λs2 A K' hk=>?_
   simp only[bS,A.bX (x:=x) (by simp[bU.rd]) B,aG]
   exact⟨ak,hk⟩
 case A5 fn a b=>
  obtain⟨as,has,h⟩:=ah h;obtain⟨p,B,au,h⟩:=ah h;obtain⟨css,R,hK⟩:=ah h
  have ae:∀s2,p6 (bU.A5 fn a b).rd (bU.A5 fn a b).wC (bU.A5 fn a b).isApp s s2->∀K':SV->S->Prop,K' (.dat (.fn fn as (j8 p.1 css)) none) (iA p.2 css s2)->bS C id (.A5 fn a b) K' s2:=by
   intro s2 A K' hk
   obtain⟨h1,V⟩:=A.bh (xs:=b) (by simp[bU.rd];grind) (by simp[bU.wC]) B R
   simp only[bS,A.eS (xs:=a) (by simp[bU.rd];grind) has,h1,V,aG]
   exact⟨au,hk⟩
  cases b with
  |nil=>
   simp[eV]at B;subst B
   have e:∀s:S,iA [] css s=s:=λs=>by cases css<;>rfl
   simp only[e]at hK ae;exact Path.val hK ae
  |cons x b=>exact⟨_,.Hs p.2 css,hK,⟨rfl,js B⟩,λU D=>⟨trivial,trivial⟩,.dat,ae⟩
 case Wc z x lo hi=>
  obtain⟨a,E,h⟩:=ah h;obtain⟨xs,ad,h⟩:=ah h;obtain⟨l,hl,h⟩:=ah h;obtain⟨m,hm,h1,V,hK⟩:=ah h
  refine Path.val hK λs2 A K' hk=>?_
  simp only[bS,A.aM (x:=x) (by simp[bU.rd];grind) E,ad,A.DB (x:=lo) (by simp[bU.rd];grind) hl,A.DC (x:=hi) (by simp[bU.rd];grind) hm,aG]
  exact⟨h1,V,hk⟩
 case nc x=>
  obtain⟨p,B,h⟩:=ah h
  cases p with
  |ptr b o=>exact Path.sv h (λU D=>(D.bX B:(SV.ptr _ _).gS U)) (λb' e=>.inr (by cases e;exact vS (x:=x) B)) λs2 A K' hk=>by simpa[bS,A.bX (x:=x) (by simp[bU.rd]) B]using hk
  |rp cs=>exact Path.sv h (λU D=>trivial) .rp λs2 A K' hk=>by simpa[bS,A.bX (x:=x) (by simp[bU.rd]) B]using hk
  |undef=>exact h.elim
  |vs _ _ _ _=>exact h.elim
  |wz _ _ _=>exact h.elim
  |raw _ _=>exact h.elim
  |pt _ _=>exact h.elim
  |dat a q=>
   cases a<;>try(exact h.elim)
   case ref cs=>exact Path.sv h (λU D=>trivial) .rp λs2 A K' hk=>by simpa[bS,A.bX (x:=x) (by simp[bU.rd]) B]using hk
   rename_i fn as bs
   cases fn<;>try(exact h.elim)
   exact Path.sv h (λU D=>D.bX (v:=.dat _ q) B) .dat λs2 A K' hk=>by simpa[bS,A.bX (x:=x) (by simp[bU.rd]) B]using hk
 case mm mx args=>
  obtain⟨as,has,h⟩:=ah h
  cases as with
  |nil=>exact h.elim
  |cons a r=>
   obtain⟨v,L,hK⟩:=ah h
   exact Path.val hK λs2 A K' hk=>by simpa[bS,A.eS (xs:=args) (by simp[bU.rd]) has,L]using hk
end
section
variable (C:aY) (id:Nat) {U:Nat->Prop} {ap:Bool} {d:Option Nat} {l lb:List Nat} {s:S} {v:SV} (o:CO)
theorem ki{α:Type} (n m:Nat) (x y:α):(bif n==m then x else y)=if n=m then x else y:=by
 by_cases h:n=m
 ·simp[h]
 ·have A:(n==m)=false:=by simpa using h
  simp[h,A]
def jQ(K:S->Prop) (s:S):Prop:=
 gM s o.g (bS C id o.op (λv A=>K (A.put o.dst v)) s) (K (s.put o.dst .undef))
theorem qb{C:aY} {base i:Nat} {o:CO} {r:List CO} {K:S->Prop}:j6 C base i (o::r) K s=jQ C (base+i) o (j6 C base (i+1) r K) s:=rfl
theorem p6.refl:p6 l lb ap s s:=⟨λ_ _=>rfl,λ_ _ _ _ _ h=>h,λ_ _ _ _ _ _ _ h=>h⟩
theorem p6.trans {l lb:List Nat} {ap:Bool} {s s2 s3:S} (hl:∀ t∈lb,t∈l) (h:p6 l lb ap s s2) (k:p6 l lb ap s2 s3):p6 l lb ap s s3 :=
  ⟨fun t ht=>(k.slots t ht).trans (h.slots t ht),fun t ht b x hv hb=>k.boxes t ht b x (let ⟨v,h1,h2⟩:=hv; ⟨v,by rw [h.slots t (hl t ht)]; exact h1,h2⟩) (h.boxes t ht b x hv hb),
   fun e t ht a q e' hv hq=>k.live e t ht a q e' (by rw [h.slots t ht]; exact hv) (h.live e t ht a q e' hv hq)⟩
theorem rF{t:Nat}:lk t (s.put d v).slots=if d=some t then some v else lk t s.slots:=by
 cases d with
 |none=>simp[S.put]
 |some d=>
  simp only[S.put,lk,ki]
  by_cases h:t=d
  ·subst h;simp
  ·have A:¬(some d=some t):=λe=>h (tz e).symm
   rw[ek h,ek A]
theorem i7:(s.put d v).boxes=s.boxes:=by cases d<;>rfl
theorem kj:(s.put d v).live=s.live:=by cases d<;>rfl
theorem i9{m:Nat} {b:dH}:∀{l:List (Nat×dH)} {n:Nat},dh n (pn m b l)=if n=m then(dh m l).map λ_=>b else dh n l
 |[],n=>by simp[pn,dh]
 |(k,v)::r,n=>by
  have E:=i9 (m:=m) (b:=b) (l:=r) (n:=n)
  simp only[pn,ki]
  by_cases A:m=k
  ·subst A
   simp only[kh,dh,ki]
   by_cases D:n=m
   ·simp[D]
   ·simp[D]
  ·simp only[A,ib,dh,ki,E]
   by_cases B:n=k
   ·have:¬n=m:=λe=>A (e.symm.trans B)
    simp[B,Ne.symm A]
   ·simp only[B,ib]
theorem vT{m:Nat}:∀{l:List (Nat×Nat)} {n:Nat},fq n (nH m l)=if n=m then none else fq n l
 |[],n=>by simp[nH,fq]
 |(k,v)::r,n=>by
  have D:=vT (m:=m) (l:=r) (n:=n)
  simp only[nH,ki]
  by_cases A:m=k
  ·subst A
   simp only[kh,fq,ki,D]
   by_cases E:n=m
   ·simp[E]
   ·simp[E]
  ·simp only[A,ib,fq,ki,D]
   by_cases B:n=k
   ·simp[B,Ne.symm A]
   ·simp only[B,ib]
structure tE (s s2:S):Prop where
 slots:∀t,lk t s2.slots=lk t s.slots
 boxes:∀b,dh b s2.boxes=dh b s.boxes
 live:∀q,fq q s2.live=fq q s.live
theorem tE.refl:tE s s:=⟨λ_=>rfl,λ_=>rfl,λ_=>rfl⟩
theorem tE.symm{s s2:S} (h:tE s s2):tE s2 s:=⟨λt=>(h.slots t).symm,λt=>(h.boxes t).symm,λt=>(h.live t).symm⟩
theorem tE.trans{s s2 A:S} (h:tE s s2) (k:tE s2 A):tE s A:=⟨λt=>(k.slots t).trans (h.slots t),λt=>(k.boxes t).trans (h.boxes t),λt=>(k.live t).trans (h.live t)⟩
theorem tE.agr{s2:S} (h:tE s s2):p6 l lb ap s s2:=
 ⟨λt _=>h.slots t,λt _ b x _ A=>by rw[h.boxes];exact A,λ_ t _ a q e _ B=>by rw[h.live];exact B⟩
theorem tE.put{s s2:S} (h:tE s s2) (d:Option Nat) (v:SV):tE (s.put d v) (s2.put d v):=
 ⟨λt=>by rw[rF,rF,h.slots],λb=>by rw[i7,i7];exact h.boxes b,λb=>by rw[kj,kj];exact h.live b⟩
theorem B4:∀{ids:List Nat} {css:List (List AV)} {l A:List (Nat×dH)},(∀b,dh b A=dh b l)->∀b,dh b (eG ids css A)=dh b (eG ids css l)
 |[],css,l,A,h,b=>by cases css<;>exact h b
 |i::ids,[],l,A,h,b=>h b
 |i::ids,cs::css,l,A,h,b=>by
  simp only[eG]
  exact B4 (λb=>by simp only[i9,h]) b
theorem tE.iA{ids:List Nat}:∀{css:List (List AV)} {s s2:S},tE s s2->tE (iA ids css s) (iA ids css s2):=by
 induction ids with
 |nil=>intro css s s2 h;cases css<;>exact h
 |cons b ids A=>
  intro css s s2 h
  cases css with
  |nil=>exact h
  |cons cs css=>
   exact A ⟨λt=>by simp only[zb,h.slots],λc=>by simp only[nQ,h.boxes],h.live⟩
theorem tE.app{s s2:S} (h:tE s s2) (d:Delta) (id:Nat):tE (d.app' id s) (d.app' id s2):=by
 cases d with
 |Hs ids css=>exact h.iA
 |no=>exact h
 |box b=>exact⟨h.slots,λc=>by simp only[Delta.app',dh,h.boxes],h.live⟩
 |live e=>exact⟨h.slots,h.boxes,λq=>by simp only[Delta.app',fq,h.live]⟩
 |app A e=>exact⟨h.slots,h.boxes,λq=>by simp only[Delta.app',fq,h.live,vT]⟩
 |st b x=>exact⟨h.slots,λc=>by simp only[Delta.app',h.boxes,i9],h.live⟩
 |calls ids css fr=>exact⟨h.slots,B4 h.boxes,λq=>by cases fr<;>simp only[Delta.app',fq,h.live]⟩
theorem tE.gS{s s2:S} (h:tE s s2) {U:Nat->Prop} (A:s.gS U):s2.gS U:=
 ⟨λt v B=>A.slots t v (by rw[<-h.slots];exact B),λb x D=>A.boxes b x (by rw[<-h.boxes];exact D),λq e E=>A.live q e (by rw[<-h.live];exact E)⟩
def La(s:S) (v:SV) (d:Delta):Prop:=
 (d.ok o.op s/\wE id o.op s v)/\∀s2,p6 o.rd o.op.wC o.op.isApp s s2->∀K',K' ((d.app' id s2).put o.dst v)->jQ C id o K' s2
theorem MD(h:s.gS U) (B:v.gS U):(s.put d v).gS U:=by
 refine⟨λt u A=>?_,λb x D=>h.boxes b x (by rwa[i7]at D),λq e E=>h.live q e (by rwa[kj]at E)⟩
 rw[rF]at A;split at A
 ·cases A;exact B
 ·exact h.slots t u A
theorem Dc{U':Nat->Prop} (A:∀n,U n->U' n) (h:s.gS U):s.gS U':=
 ⟨λt v E=>SV.nN A (h.slots t v E),λb x D=>⟨A _ (h.boxes b x D).1,λo q B=>A _ ((h.boxes b x D).2 o q B)⟩,λq e B=>A _ (h.live q e B)⟩
theorem Gf:∀{ids:List Nat} {css:List (List AV)} {l:List (Nat×dH)} {U:Nat->Prop},(∀b x,dh b l=some x->U b/\x.gS U)->(∀b∈ids,U b)->∀b x,dh b (eG ids css l)=some x->U b/\x.gS U
 |[],css,l,U,h,D,b,x,A=>by cases css<;>exact h b x A
 |i::ids,[],l,U,h,D,b,x,A=>h b x A
 |i::ids,cs::css,l,U,h,D,b,x,A=>by
  simp only[eG]at A
  refine Gf (λb x B=>?_) (λb A=>D b (kp _ A)) b x A
  rw[i9]at B;split at B
  ·rename_i e
   cases E:dh i l with
   |none=>simp[E]at B
   |some y=>
    simp[E]at B;subst B
    exact⟨e▸D i (lr ..),λo q L=>by cases L⟩
  ·exact h b x B
theorem PT{ids:List Nat}:∀{css:List (List AV)} {s:S},s.gS U->(iA ids css s).gS U:=by
 induction ids with
 |nil=>intro css s h;cases css<;>exact h
 |cons b ids E=>
  intro css s h
  cases css with
  |nil=>exact h
  |cons cs css=>
   refine E ⟨λt v D=>?_,λc x B=>?_,h.live⟩
   ·simp only[zb,eg]at D
    obtain⟨u,L,rfl⟩:=D
    have A:=h.slots t u L
    cases u with
    |ptr c o=>
     simp only[kM,ki];split
     ·trivial
     ·exact A
    |dat a q=>exact A
    |rp cs=>exact A
    |undef=>exact A
    |vs c o n z=>
     simp only[kM];cases M:(c==b&&decide (n*z<=(cs.drop o).length))
     ·exact A
     ·trivial
    |wz _ _ _=>exact A
    |raw _ _=>exact A
    |pt _ _=>exact A
   ·simp only[nQ]at B
    split at B
    ·cases B
    ·exact h.boxes c x B
theorem Tn(h:s.gS U) {d:Delta} {id:Nat} (hd:d.gS U):(d.app' id s).gS (fu U id):=by
 have B:s.gS (fu U id):=Dc (λn Z=>.inl Z) h
 cases d with
 |no=>exact B
 |Hs ids css=>exact PT B
 |box b=>
  refine⟨B.slots,λO x D=>?_,B.live⟩
  simp only[Delta.app',dh]at D
  by_cases E:O=id
  ·subst E
   simp at D;subst D
   exact⟨.inr rfl,λo q A=>.inl (hd o q A)⟩
  ·have L:(O==id)=false:=by simpa using E
   rw[L]at D;exact B.boxes O x D
 |live e=>
  refine⟨B.slots,B.boxes,λq M A=>?_⟩
  simp only[Delta.app',fq]at A
  by_cases E:q=id
  ·subst E;exact .inr rfl
  ·have L:(q==id)=false:=by simpa using E
   rw[L]at A;exact B.live q M A
 |app q0 e=>
  refine⟨B.slots,B.boxes,λq M A=>?_⟩
  simp only[Delta.app',fq]at A
  by_cases E:q=id
  ·subst E;exact .inr rfl
  ·have L:(q==id)=false:=by simpa using E
   rw[L,vT]at A;simp only[eQ]at A;split at A
   ·cases A
   ·exact B.live q M A
 |st V x0=>
  refine⟨B.slots,λb x D=>?_,B.live⟩
  simp only[Delta.app',i9]at D;split at D
  ·rename_i E
   cases R:dh V s.boxes with
   |none=>simp[R]at D
   |some y=>
    simp[R]at D;subst D
    exact⟨.inl (E▸hd.1),λo q A=>.inl (hd.2 o q A)⟩
  ·exact B.boxes b x D
 |calls ids css fr=>
  refine⟨B.slots,Gf B.boxes (λb D=>.inl (hd b D)),λq M A=>?_⟩
  cases fr with
  |none=>exact B.live q M A
  |some e=>
   simp only[Delta.app',fq,ki]at A;split at A
   ·rename_i E;subst E;exact .inr rfl
   ·exact B.live q M A
end
section
variable{C:aY} {id:Nat} {o:CO} {K:S->Prop} {s:S}
theorem CO.DL{o:CO} {t:Nat} (h:t∈o.op.rd):t∈o.rd:=by simp[CO.rd,h]
theorem gw(h:jQ C id o K s):∃v d,La C id o s v d/\K ((d.app' id s).put o.dst v)/\∀U,s.gS U->((d.app' id s).put o.dst v).gS (fu U id):=by
 have B:∀{K:S->Prop},bS C id o.op (λv O=>K (O.put o.dst v)) s->∃(v:SV) (d:Delta),(d.ok o.op s/\wE id o.op s v)/\(∀s2,p6 o.rd o.op.wC o.op.isApp s s2->∀K':S->Prop,K' ((d.app' id s2).put o.dst v)->bS C id o.op (λv O=>K' (O.put o.dst v)) s2)/\K ((d.app' id s).put o.dst v)/\∀U,s.gS U->((d.app' id s).put o.dst v).gS (fu U id):=by
  intro K h;obtain⟨v,d,hK,aa,M,ac,hs⟩:=zf h
  exact⟨v,d,⟨aa,ac⟩,λs2 A K' hk=>hs s2 (A.sub λt ht=>CO.DL ht) _ hk,hK,λU L=>MD (Tn L (M U L).2) (M U L).1⟩
 have skip:K (s.put o.dst .undef)->(∀s2,p6 o.rd o.op.wC o.op.isApp s s2->∀K',K' (s2.put o.dst .undef)->jQ C id o K' s2)->∃v d,La C id o s v d/\K ((d.app' id s).put o.dst v)/\∀U,s.gS U->((d.app' id s).put o.dst v).gS (fu U id):=by
  intro hK hs
  exact⟨.undef,.no,⟨⟨trivial,.undef⟩,hs⟩,hK,λU M=>MD (Dc (λn h=>.inl h) M) trivial⟩
 unfold jQ gM at h
 cases D:o.g with
 |none=>
  simp only[D]at h;obtain⟨v,d,h1,R,h3,Z⟩:=B h
  exact⟨v,d,⟨h1,λs2 A K' hk=>by unfold jQ gM;simp only[D];exact R s2 A K' hk⟩,h3,Z⟩
 |some p=>
  obtain⟨t,want⟩:=p
  have ad:t∈o.rd:=by simp[CO.rd,D]
  simp only[D]at h
  cases hl:lk t s.slots with
  |none=>simp[hl]at h
  |some v=>
   have E:∀s2,p6 o.rd o.op.wC o.op.isApp s s2->lk t s2.slots=some v:=λs2 A=>by rw[A.slots t ad,hl]
   simp only[hl]at h
   cases v with
   |ptr b o=>exact h.elim
   |rp cs=>exact h.elim
   |vs _ _ _ _=>exact h.elim
   |wz _ _ _=>exact h.elim
   |raw _ _=>exact h.elim
   |pt _ _=>exact h.elim
   |undef=>exact skip h λs2 A K' hk=>by unfold jQ gM;simp only[D,E s2 A];exact hk
   |dat a q=>
    cases a<;>try(exact h.elim)
    rename_i b
    by_cases V:b=want
    ·obtain⟨v,d,h1,R,h3,Z⟩:=B (h.1 V)
     exact⟨v,d,⟨h1,λs2 A K' hk=>by
      unfold jQ gM;simp only[D,E s2 A]
      exact⟨λ_=>R s2 A K' hk,λhn=>by subst V;cases b<;>cases hn⟩⟩,h3,Z⟩
    ·have ab:b=!want:=by cases b<;>cases want<;>simp_all
     exact skip (h.2 ab) λs2 A K' hk=>by
      unfold jQ gM;simp only[D,E s2 A]
      exact⟨λe=>absurd e V,λ_=>hk⟩
end
section
variable (d:Delta) (id:Nat) {α:Type} (s:S)
structure EB (α:Type) where
 tgt:Nat
 g:Option α->Option α
def EB.ap(e:EB α) (f:Nat->Option α):Nat->Option α:=λc=>if c=e.tgt then e.g (f c)else f c
def B5(l:List (EB α)) (f:Nat->Option α):Nat->Option α:=l.foldl (λf e=>e.ap f) f
theorem EB.comm{e A:EB α} (h:e.tgt≠A.tgt) (f:Nat->Option α):e.ap (A.ap f)=A.ap (e.ap f):=by
 funext c
 simp only[EB.ap]
 by_cases B:c=e.tgt
 ·have E:c≠A.tgt:=λD=>h (B.symm.trans D)
  simp[B]
  have:¬e.tgt=A.tgt:=h
  simp[this]
 ·simp[B]
theorem Gg{α:Type} {e:EB α}:∀{l:List (EB α)} {f:Nat->Option α},(∀A∈l,e.tgt≠A.tgt)->B5 l (e.ap f)=e.ap (B5 l f)
 |[],f,_=>rfl
 |a::l,f,h=>by
  show B5 l (a.ap (e.ap f))=e.ap (B5 l (a.ap f))
  rw[<-EB.comm (h a lr)]
  exact Gg λA B=>h A (kp _ B)
theorem DM{α:Type} {A:List (EB α)}:∀{l:List (EB α)} {f:Nat->Option α},(∀e∈l,∀D∈A,e.tgt≠D.tgt)->B5 l (B5 A f)=B5 A (B5 l f)
 |[],f,_=>rfl
 |e::l,f,h=>by
  show B5 l (e.ap (B5 A f))=B5 A (B5 l (e.ap f))
  rw[<-Gg (h e lr)]
  exact DM λa B=>h a (kp _ B)
theorem qd{α:Type} {c:Nat}:∀{l:List (EB α)} {f:Nat->Option α},(∀e∈l,e.tgt≠c)->B5 l f c=f c
 |[],f,_=>rfl
 |e::l,f,h=>by
  show B5 l (e.ap f) c=f c
  rw[qd λa A=>h a (kp _ A)]
  exact ek (λB=>h e lr B.symm)
def wB:Delta->List Nat
 | .st b _=>[b]
 | .calls ids _ _=>ids
 | .Hs ids _=>ids
 |_=>[]
def eB:List (EB dH):=
 match d with
 | .box b=>[⟨id,λ_=>some b⟩]
 | .st b x=>[⟨b,Option.map λ_=>x⟩]
 | .calls ids css _=>(ids.zip css).map λp=>⟨p.1,Option.map λ_=>⟨p.2,[]⟩⟩
 | .Hs ids css=>(ids.zip css).map λp=>⟨p.1,λ_=>none⟩
 |_=>[]
def eL:List (EB Nat):=
 match d with
 | .live e=>[⟨id,λ_=>some e⟩]
 | .app q e=>[⟨q,λ_=>none⟩,⟨id,λ_=>some e⟩]
 | .calls _ _ (some e)=>[⟨id,λ_=>some e⟩]
 |_=>[]
def fz:SV->SV:=
 match d with
 | .Hs ids css=>λv=>(ids.zip css).foldl (λv p=>kM p.1 p.2 v) v
 |_=>λv=>v
theorem Gh:∀{ids:List Nat} {css:List (List AV)} {l:List (Nat×dH)},(λb=>dh b (eG ids css l))=B5 ((ids.zip css).map λp=>(⟨p.1,Option.map λ_=>⟨p.2,[]⟩⟩:EB dH)) (λb=>dh b l)
 |[],css,l=>by cases css<;>rfl
 |i::ids,[],l=>rfl
 |i::ids,cs::css,l=>by
  show(λb=>dh b (eG ids css (pn i ⟨cs,[]⟩ l)))=_
  rw[Gh (ids:=ids) (css:=css)]
  refine ne (B5 _) (funext λb=>?_)
  rw[i9]
  show _=if b=i then _ else _
  split
  ·rename_i e;subst e;rfl
  ·rfl
theorem I3:∀{ids:List Nat} {css:List (List AV)} {s:S},(λb=>dh b (iA ids css s).boxes)=B5 ((ids.zip css).map λp=>(⟨p.1,λ_=>none⟩:EB dH)) (λb=>dh b s.boxes)
 |[],css,s=>by cases css<;>rfl
 |i::ids,[],s=>rfl
 |i::ids,cs::css,s=>by
  show(λb=>dh b (iA ids css {s with slots:=DD i cs s.slots,boxes:=mH i s.boxes}).boxes)=_
  rw[I3 (ids:=ids) (css:=css)]
  refine ne (B5 _) (funext λb=>?_)
  rw[nQ];rfl
theorem DN:∀{ids:List Nat} {css:List (List AV)} {s:S} (t:Nat),lk t (iA ids css s).slots=(lk t s.slots).map λv=>(ids.zip css).foldl (λv p=>kM p.1 p.2 v) v
 |[],css,s,t=>by cases css<;>simp[iA]
 |i::ids,[],s,t=>by simp[iA]
 |i::ids,cs::css,s,t=>by
  show lk t (iA ids css {s with slots:=DD i cs s.slots,boxes:=mH i s.boxes}).slots=_
  rw[DN (ids:=ids) (css:=css) t,zb,Option.map_map]
  rfl
theorem ya:(λb=>dh b (d.app' id s).boxes)=B5 (eB d id) (λb=>dh b s.boxes):=by
 cases d with
 |box b=>funext c;simp only[Delta.app',dh,ki];show _=if c=id then _ else _;rfl
 |st b x=>
  funext c;simp only[Delta.app',i9]
  show _=if c=b then _ else _
  split
  ·rename_i e;subst e;rfl
  ·rfl
 |calls ids css fr=>exact Gh
 |Hs ids css=>exact I3
 |_=>rfl
theorem Bi:(λb=>fq b (d.app' id s).live)=B5 (eL d id) (λb=>fq b s.live):=by
 cases d with
 |live e=>funext c;simp only[Delta.app',fq,ki];rfl
 |app q e=>funext c;simp only[Delta.app',fq,ki,vT];show _=if c=id then _ else if c=q then _ else _;rfl
 |calls ids css fr=>cases fr with
  |none=>rfl
  |some e=>funext c;simp only[Delta.app',fq,ki];rfl
 |Hs ids css=>simp only[Delta.app',Ge];rfl
 |_=>rfl
theorem rG(t:Nat):lk t (d.app' id s).slots=(lk t s.slots).map (fz d):=by
 cases d with
 |Hs ids css=>exact DN t
 |_=>simp[Delta.app',fz]
end
section
variable {C:aY} {U:Nat->Prop} {d:Delta} {id:Nat} {o:bU} {s:S} {t:Nat} {v:SV} {x y:CO}
theorem Ht{e:EB dH} (h:e∈eB d id):e.tgt=id\/e.tgt∈wB d:=by
 cases d with
 |box b=>simp[eB]at h;subst h;exact .inl rfl
 |st b x=>simp[eB]at h;subst h;exact .inr (by simp[wB])
 |calls ids css fr=>
  simp only[eB,i8]at h
  obtain⟨p,hm,rfl⟩:=h;exact .inr (List.of_mem_zip hm).1
 |Hs ids css=>
  simp only[eB,i8]at h
  obtain⟨p,hm,rfl⟩:=h;exact .inr (List.of_mem_zip hm).1
 |_=>simp[eB]at h
def SV.fix(v:SV):Prop:=(∀b cs,kM b cs v=v)/\∀b,¬v.has b
theorem qg{v:SV} (h:∀b cs,kM b cs v=v):∀{l:List (Nat×List AV)},l.foldl (λv p=>kM p.1 p.2 v) v=v
 |[]=>rfl
 |p::l=>by rw[p7,h,qg h]
theorem DO:∀{l:List (Nat×List AV)} {v:SV},l.foldl (λv p=>kM p.1 p.2 v) v=v\/∃b B,v.has b/\(∀A,v.has A->A=b)/\b∈l.map (·.1)/\l.foldl (λv p=>kM p.1 p.2 v) v=B/\B.fix
 |[],v=>.inl rfl
 |p::l,v=>by
  simp only[p7]
  cases v with
  |ptr b o=>
   by_cases e:b=p.1
   ·have:kM p.1 p.2 (.ptr b o)=.rp (p.2.drop o):=by simp[kM,e]
    rw[this]
    have D:(SV.rp (p.2.drop o)).fix:=⟨λ_ _=>rfl,λ_ h=>h⟩
    exact .inr ⟨b,_,rfl,λA h=>Eq.symm h,by simp[e],qg D.1,D⟩
   ·have:kM p.1 p.2 (.ptr b o)=.ptr b o:=by
     have O:(b==p.1)=false:=by simpa using e
     simp[kM,O]
    rw[this]
    rcases DO (l:=l) (v:=.ptr b o)with h|⟨A,B,h,L,hm,E,M⟩
    ·exact .inl h
    ·exact .inr ⟨A,B,h,L,kp _ hm,E,M⟩
  |vs b o n z=>
   by_cases e:(b==p.1&&decide (n*z<=(p.2.drop o).length))=true
   ·have:kM p.1 p.2 (.vs b o n z)=.dat (.sl (dA z n (p.2.drop o))) none:=by simp only[kM,e,ge]
    rw[this]
    have D:(SV.dat (.sl (dA z n (p.2.drop o))) none).fix:=⟨λ_ _=>rfl,λ_ h=>h⟩
    simp only[ed,kb]at e
    exact .inr ⟨b,_,rfl,λA h=>Eq.symm h,by simp[e.1],qg D.1,D⟩
   ·have:kM p.1 p.2 (.vs b o n z)=.vs b o n z:=by simp only[kM,AC.2 e,eQ]
    rw[this]
    rcases DO (l:=l) (v:=.vs b o n z)with h|⟨A,B,h,L,hm,E,M⟩
    ·exact .inl h
    ·exact .inr ⟨A,B,h,L,kp _ hm,E,M⟩
  |pt k ps=>exact .inl (qg (λ_ _=>rfl))
  |_=>exact .inl (qg (λ_ _=>rfl))
theorem lX(d:Delta) (v:SV):fz d v=v\/∃b A,v.has b/\(∀B,v.has B->B=b)/\b∈wB d/\fz d v=A/\A.fix/\∃ids css,d=.Hs ids css:=by
 cases d with
 |Hs ids css=>
  rcases DO (l:=ids.zip css) (v:=v)with h|⟨b,A,M,O,E,R,L⟩
  ·exact .inl h
  ·refine .inr ⟨b,A,M,O,?_,R,L,ids,css,rfl⟩
   obtain⟨p,D,rfl⟩:=i8.1 E;exact(List.of_mem_zip D).1
 |_=>exact .inl rfl
theorem PU(d:Delta) (h:v.fix):fz d v=v:=by
 cases d with
 |Hs ids css=>exact qg h.1
 |_=>rfl
theorem To{B A:Delta} (hd:∀b∈wB B,b∉wB A) (v:SV):fz A (fz B v)=fz B (fz A v):=by
 rcases lX B v with h|⟨b,v',hb,Z,R,h,V,_⟩
 ·rw[h]
  rcases lX A v with k|⟨M,u',E,L,D,k,O,_⟩
  ·rw[k,h]
  ·rw[k,PU B O]
 ·rcases lX A v with k|⟨M,u',E,L,D,k,O,_⟩
  ·rw[k,h,PU A V]
  ·exact absurd D (Z M E▸hd b R)
def W7:Delta->Bool
 | .Hs _ _=>true
 |_=>false
theorem PV{o:CO} (h:La C id o s v d):∀b∈wB d,∃t∈o.op.Ms,IF b s t:=by
 intro b A
 have h:=h.1.1
 cases d<;>simp[wB]at A
 ·subst A;exact h.2
 ·exact h.2 b A
 ·exact h.2 b A
theorem Dd{o:CO} (h:La C id o s v d) (A:W7 d=true):o.op.BV=true:=by
 have h:=h.1.1
 cases d<;>first|(cases A;done)|exact h.1
theorem ME(h:t∈o.Ms):t∈o.wC:=by cases o<;>first|exact h|(simp[bU.Ms]at h;done)
theorem PW(h:t∈o.wC):t∈o.rd:=by cases o<;>simp[bU.wC]at h<;>simp[bU.rd,h]
theorem Bj(h:t∈o.tM):t∈o.rd:=by
 cases o<;>simp[bU.tM]at h<;>first|(simp[bU.rd,h];done)|(rcases h with h|h<;>simp[bU.rd,h])
def Clear(x y:CO) (s:S):Prop:=∀b,(∃t∈x.op.Ms,IF b s t)->
 (∀t∈y.op.wC,¬IF b s t)/\(x.op.BV=true->∀t∈y.rd,¬IF b s t)
theorem SV.Gi{b:Nat} (h:v.has b) (A:v.gS U):U b:=by
 cases v<;>try(exact h.elim)
 ·have h:_=b:=h
  subst h;exact A
 ·have h:_=b:=h
  subst h;exact A
 ·obtain⟨p,B,rfl⟩:=h;exact A p B
theorem Lb(h:x.indep y=true):(∀d,x.dst=some d->d∉y.rd/\y.dst≠some d)/\(∀d,y.dst=some d->d∉x.rd)/\(x.op.isApp=true->y.op.isApp=false):=by
 unfold CO.indep at h;simp only[ed,nb]at h;obtain⟨⟨A,D⟩,B⟩:=h
 refine⟨λd hd=>?_,λd hd=>?_,λE=>?_⟩
 ·rw[hd]at A
  simp at A;exact⟨A.1,A.2⟩
 ·rw[hd]at D
  simpa using D
 ·rw[E]at B
  simpa using B
theorem Tp(a2:x.indep y=true) (hU:s.gS U) {i j:Nat} (hi:¬U i) (hj:¬U j) (an:i≠j) (cx:Clear x y s) (cy:Clear y x s) {Z vy:SV} {O M:Delta} (hx:La C i x s Z O) (hy:La C j y ((O.app' i s).put x.dst Z) vy M):
  p6 y.rd y.op.wC y.op.isApp ((O.app' i s).put x.dst Z) s/\p6 x.rd x.op.wC x.op.isApp s ((M.app' j s).put y.dst vy)/\
   tE ((M.app' j ((O.app' i s).put x.dst Z)).put y.dst vy) ((O.app' i ((M.app' j s).put y.dst vy)).put x.dst Z):=by
 obtain⟨h1,h2,h5⟩:=Lb a2
 have wx:=PV hx
 have al:∀b∈wB O,U b:=λb E=>by obtain⟨t,_,v,L,D⟩:=wx b E;exact SV.Gi D (hU.slots t _ L)
 -- what y looks at
 have sy:∀t∈y.rd,lk t ((O.app' i s).put x.dst Z).slots=lk t s.slots:=λt A=>by
  rw[rF,ek (λe=>(h1 t e).1 A),rG]
  cases L:lk t s.slots with
  |none=>rfl
  |some v=>
   simp only[ma]
   rcases lX O v with h|⟨b,v',V,_,E,h,_,ids,css,hd⟩
   ·rw[h]
   ·exact absurd (⟨v,L,V⟩:IF b s t) ((cx b (wx b E)).2 (Dd hx (by rw[hd];rfl)) t A)
 have wy:∀b∈wB M,∃t∈y.op.Ms,IF b s t:=λb E=>by
  obtain⟨t,A,v,L,D⟩:=PV hy b E;rw[sy t (CO.DL (PW (ME A)))]at L;exact⟨t,A,v,L,D⟩
 have ar:∀b∈wB M,U b:=λb E=>by obtain⟨t,_,v,L,D⟩:=wy b E;exact SV.Gi D (hU.slots t _ L)
 have ad:∀b∈wB O,b∉wB M:=λb E a4=>by
  obtain⟨t,A,L⟩:=wy b a4;exact(cx b (wx b E)).1 t (ME A) L
 have sx:∀t∈x.rd,lk t ((M.app' j s).put y.dst vy).slots=lk t s.slots:=λt A=>by
  rw[rF,ek (λe=>h2 t e A),rG]
  cases L:lk t s.slots with
  |none=>rfl
  |some v=>
   simp only[ma]
   rcases lX M v with h|⟨b,v',V,_,E,h,_,ids,css,hd⟩
   ·rw[h]
   ·exact absurd (⟨v,L,V⟩:IF b s t) ((cy b (wy b E)).2 (Dd hy (by rw[hd];rfl)) t A)
 -- tokens
 have tx:∀q0 e,O=.app q0 e->U q0/\x.op.isApp=true:=λq0 e hd=>by
  have:=hx.1.1;rw[hd]at this
  obtain⟨h,t,A,a,L⟩:=this;exact⟨hU.slots t _ L,h⟩
 have ty:∀q0 e,M=.app q0 e->U q0/\y.op.isApp=true:=λq0 e hd=>by
  have:=hy.1.1;rw[hd]at this
  obtain⟨h,t,A,a,L⟩:=this;rw[sy t (CO.DL A)]at L;exact⟨hU.slots t _ L,h⟩
 have lx:∀e∈eL O i,e.tgt=i\/(U e.tgt/\x.op.isApp=true):=λe B=>by
  cases am:O<;>rw[am]at B<;>simp[eL]at B
  ·subst B;exact .inl rfl
  ·rcases B with rfl|rfl
   ·exact .inr (tx _ _ am)
   ·exact .inl rfl
  ·rename_i fr;cases fr<;>simp at B;subst B;exact .inl rfl
 have ly:∀e∈eL M j,e.tgt=j\/(U e.tgt/\y.op.isApp=true):=λe B=>by
  cases ao:M<;>rw[ao]at B<;>simp[eL]at B
  ·subst B;exact .inl rfl
  ·rcases B with rfl|rfl
   ·exact .inr (ty _ _ ao)
   ·exact .inl rfl
  ·rename_i fr;cases fr<;>simp at B;subst B;exact .inl rfl
 have ac:∀(d:Delta) (id:Nat) (s:S) (b:Nat),dh b (d.app' id s).boxes=B5 (eB d id) (λb=>dh b s.boxes) b:=λd id s b=>congrFun (ya d id s) b
 have ab:∀(d:Delta) (id:Nat) (s:S) (b:Nat),fq b (d.app' id s).live=B5 (eL d id) (λb=>fq b s.live) b:=λd id s b=>congrFun (Bi d id s) b
 refine⟨⟨λt A=>(sy t A).symm,λt A b z D E=>?_,λaa t A a q e D hq=>?_⟩,⟨sx,λt A b z D E=>?_,λaa t A a q e D hq=>?_⟩,?_⟩
 ·obtain⟨v,D,V⟩:=D
  rw[sy t (CO.DL (PW A))]at D
  have ag:U b:=SV.Gi V (hU.slots t _ D)
  rw[i7,ac,qd]at E
  ·exact E
  ·intro e B R
   rcases Ht B with h|h
   ·exact hi (by rw[<-h,R];exact ag)
   ·exact(cx _ (wx _ h)).1 t A (by rw[R];exact⟨v,D,V⟩)
 ·rw[sy t A]at D
  have ak:U q:=hU.slots t _ D
  rw[kj,ab,qd]at hq
  ·exact hq
  ·intro e B R
   rcases lx e B with h|⟨_,h⟩
   ·exact hi (by rw[<-h,R];exact ak)
   ·have:=h5 h;rw[aa]at this;cases this
 ·have ag:U b:=let ⟨_,h1,h2⟩:=D;SV.Gi h2 (hU.slots t _ h1)
  rw[i7,ac,qd]
  ·exact E
  ·intro e B R
   rcases Ht B with h|h
   ·exact hj (by rw[<-h,R];exact ag)
   ·exact(cy _ (wy _ h)).1 t A (by rw[R];exact D)
 ·have ak:U q:=hU.slots t _ D
  rw[kj,ab,qd]
  ·exact hq
  ·intro e B R
   rcases ly e B with h|⟨_,h⟩
   ·exact hj (by rw[<-h,R];exact ak)
   ·have:=h5 aa;rw[h]at this;cases this
 ·have au:fz M Z=Z:=by
   rcases lX M Z with h|⟨b,v',D,_,E,h,_,ids,css,hd⟩
   ·exact h
   ·exfalso
    rcases hx.1.2 b D with⟨rfl,_⟩|⟨t,A,L⟩
    ·exact hi (ar _ E)
    ·exact(cy b (wy b E)).2 (Dd hy (by rw[hd];rfl)) t (CO.DL (Bj A)) L
  have a3:fz O vy=vy:=by
   rcases lX O vy with h|⟨b,v',D,_,E,h,_,ids,css,hd⟩
   ·exact h
   ·exfalso
    rcases hy.1.2 b D with⟨rfl,_⟩|⟨t,A,u,L,hu⟩
    ·exact hj (al _ E)
    ·rw[sy t (CO.DL (Bj A))]at L
     exact(cx b (wx b E)).2 (Dd hx (by rw[hd];rfl)) t (CO.DL (Bj A)) ⟨u,L,hu⟩
  refine⟨λt=>?_,λb=>?_,λq=>?_⟩
  ·simp only[rF,rG]
   by_cases ex:x.dst=some t
   ·have ey:y.dst≠some t:=(h1 t ex).2
    simp[ex,ey,au]
   ·by_cases ey:y.dst=some t
    ·simp[ex,ey,a3]
    ·simp only[ex,ey,ib,Option.map_map]
     congr 1
     funext v
     exact(To ad v).symm
  ·rw[i7,i7,ac,ac]
   have e1:(λb=>dh b ((O.app' i s).put x.dst Z).boxes)=B5 (eB O i) (λb=>dh b s.boxes):=by rw[i7];exact ya O i s
   have e2:(λb=>dh b ((M.app' j s).put y.dst vy).boxes)=B5 (eB M j) (λb=>dh b s.boxes):=by rw[i7];exact ya M j s
   rw[e1,e2]
   refine congrFun (DM (λe B e' ae h=>?_)) b
   rcases Ht B with k|k<;>rcases Ht ae with k'|k'
   ·exact an (by rw[<-k,<-k',h])
   ·exact hi (ar i (by rw[<-k,h];exact k'))
   ·exact hj (al j (by rw[<-k',<-h];exact k))
   ·exact ad _ k (by rw[h];exact k')
  ·rw[kj,kj,ab,ab]
   have e1:(λb=>fq b ((O.app' i s).put x.dst Z).live)=B5 (eL O i) (λb=>fq b s.live):=by rw[kj];exact Bi O i s
   have e2:(λb=>fq b ((M.app' j s).put y.dst vy).live)=B5 (eL M j) (λb=>fq b s.live):=by rw[kj];exact Bi M j s
   rw[e1,e2]
   refine congrFun (DM (λe B e' ae h=>?_)) q
   rcases lx e B with k|⟨k,kk⟩<;>rcases ly e' ae with k'|⟨k',kk'⟩
   ·exact an (by rw[<-k,<-k',h])
   ·exact hi (by rw[<-k,h];exact k')
   ·exact hj (by rw[<-k',<-h];exact k)
   ·have:=h5 kk;rw[kk']at this;cases this
end
end Go.Eng
