/- Part 5 of the engine and its library. -/
import Derived.Test.YtdfplndcbbofjaaGreatPkS4
set_option linter.all false
set_option maxRecDepth 10000
set_option maxHeartbeats 4000000
namespace Go.Eng
open Go
def SV.has(b:Nat):SV->Prop
 | .ptr A _=>A=b
 | .vs A _ _ _=>A=b
 | .pt _ ps=>∃p∈ps,p.1=b
 |_=>False
def Fq(b:Nat) (s:S) (t:Nat):Prop:=∃v,lk t s.slots=some v/\v.has b
theorem Fq.ptr{b off:Nat} {s:S} {t:Nat} (h:lk t s.slots=some (.ptr b off)):Fq b s t:=⟨_,h,rfl⟩
structure oe (l lb:List Nat) (ap:Bool) (s s2:S):Prop where
 slots:∀t∈l,lk t s2.slots=lk t s.slots
 boxes:∀t∈lb,∀b x,Fq b s t->b9 b s.boxes=some x->b9 b s2.boxes=some x
 live:ap=true->∀t∈l,∀a q e,lk t s.slots=some (.dat a (some q))->dY q s.live=some e->dY q s2.live=some e
section
variable{l lb:List Nat} {ap:Bool} {s s2:S}
theorem oe.sub(h:oe l lb ap s s2) {B:List Nat} (A:∀t∈B,t∈l):oe B lb ap s s2:=
 ⟨λt ht=>h.slots t (A t ht),h.boxes,λe t ht=>h.live e t (A t ht)⟩
theorem oe.bK(h:oe l lb ap s s2) {x:bn} (B:∀t∈x.rd,t∈l) {v:SV} (A:Eng.bK s x=some v):Eng.bK s2 x=some v:=by
 cases x with
 |t n=>simp only[Eng.bK]at A⊢;rw[h.slots n (B n (by simp[bn.rd])),A]
 |k v=>exact A
theorem oe.aF(h:oe l lb ap s s2) {x:bn} (D:∀t∈x.rd,t∈l) {v:AV} (A:Eng.aF s x=some v):Eng.aF s2 x=some v:=by
 unfold Eng.aF at A⊢
 cases B:Eng.bK s x with
 |none=>rw[B]at A;cases A
 |some u=>rw[h.bK D B];rw[B]at A;exact A
theorem oe.dQ(h:oe l lb ap s s2):∀{xs:List bn} (L:∀t∈aS xs,t∈l) {vs:List AV} (A:Eng.dQ s xs=some vs),Eng.dQ s2 xs=some vs
 |[],_,vs,A=>A
 |x::xs,L,vs,A=>by
  simp only[Eng.dQ]at A⊢
  cases B:Eng.aF s x with
  |none=>simp[B]at A
  |some a=>
   cases D:Eng.dQ s xs with
   |none=>simp[B,D]at A
   |some as=>
    rw[h.aF (λt ht=>L t (by simp[aS,ht])) B,h.dQ (λt ht=>L t (by simp[aS,ht])) D]
    simpa[B,D]using A
theorem oe.ir(h:oe l lb ap s s2):∀{xs:List (Nat×Nat×bn)} (L:∀t∈vL xs,t∈l) {vs:List (Nat×List AV)} (A:Eng.ir s xs=some vs),Eng.ir s2 xs=some vs
 |[],_,vs,A=>A
 |(o,z,x)::xs,L,vs,A=>by
  simp only[Eng.ir]at A⊢
  cases B:Eng.aF s x with
  |none=>simp[B]at A
  |some a=>
   cases D:Eng.ir s xs with
   |none=>simp[B,D]at A
   |some as=>
    rw[h.aF (λt ht=>L t (by simp[vL,ht])) B,h.ir (λt ht=>L t (by simp[vL,ht])) D]
    simpa only[B,D]using A
theorem oe.lp(h:oe l lb ap s s2) {z:Nat}:∀{xs:List bn} (L:∀t∈aS xs,t∈l) {vs:List (List AV)} (A:Eng.lp s z xs=some vs),Eng.lp s2 z xs=some vs
 |[],_,vs,A=>A
 |x::xs,L,vs,A=>by
  simp only[Eng.lp]at A⊢
  cases B:Eng.aF s x with
  |none=>simp[B]at A
  |some a=>
   cases D:Eng.lp s z xs with
   |none=>simp[B,D]at A
   |some as=>
    rw[h.aF (λt ht=>L t (by simp[aS,ht])) B,h.lp (λt ht=>L t (by simp[aS,ht])) D]
    simpa only[B,D]using A
theorem oe.Au(h:oe l lb ap s s2) {x:Option bn} (D:∀t∈Jq x,t∈l) {i:Int} (A:Eng.Au s x=some i):Eng.Au s2 x=some i:=by
 cases x with
 |none=>exact A
 |some x=>
  simp only[Eng.Au]at A⊢
  cases B:Eng.aF s x with
  |none=>simp[B,Eng.xQ]at A
  |some a=>rw[h.aF D B];rw[B]at A;exact A
theorem oe.Av(h:oe l lb ap s s2) {xs:List (List AV)} {x:Option bn} (D:∀t∈Jq x,t∈l) {i:Int} (A:Eng.Av s xs x=some i):Eng.Av s2 xs x=some i:=by
 cases x with
 |none=>exact A
 |some x=>
  simp only[Eng.Av]at A⊢
  cases B:Eng.aF s x with
  |none=>simp[B,Eng.xQ]at A
  |some a=>rw[h.aF D B];rw[B]at A;exact A
theorem oe.aV(h:oe l lb ap s s2) {hh:Bool}:∀{xs:List bn} (M:∀t∈aS xs,t∈l) (A:∀t∈aS xs,t∈lb) {p:List (Option AV)×List Nat} (D:Eng.dS hh s xs=some p) {css:List (List AV)} (B:Eng.aV s.boxes p.2=some css),Eng.dS hh s2 xs=some p/\Eng.aV s2.boxes p.2=some css
 |[],_,_,p,D,css,B=>by
  simp only[Eng.dS,gg]at D⊢;subst D;exact⟨rfl,B⟩
 |x::xs,M,A,p,D,css,B=>by
  simp only[Eng.dS]at D⊢
  split at D<;>try(cases D;done)
  ·rename_i a q as bs L R
   cases D
   obtain⟨O,V⟩:=h.aV (λt ht=>M t (by simp[aS,ht])) (λt ht=>A t (by simp[aS,ht])) R B
   rw[h.bK (λt ht=>M t (by simp[aS,ht])) L,O]
   exact⟨rfl,V⟩
  ·rename_i cs as bs L R
   cases D
   obtain⟨O,V⟩:=h.aV (λt ht=>M t (by simp[aS,ht])) (λt ht=>A t (by simp[aS,ht])) R B
   rw[h.bK (λt ht=>M t (by simp[aS,ht])) L,O]
   exact⟨rfl,V⟩
  ·rename_i b as bs L R
   cases D;simp only[Eng.aV]at B
   split at B<;>try(cases B;done)
   rename_i y ab hy aa;cases B
   obtain⟨O,V⟩:=h.aV (λt ht=>M t (by simp[aS,ht])) (λt ht=>A t (by simp[aS,ht])) R aa
   rw[h.bK (λt ht=>M t (by simp[aS,ht])) L,O]
   refine⟨rfl,?_⟩
   have Z:Eng.b9 b s2.boxes=some y:=by
    cases x with
    |t n=>exact h.boxes n (A n (by simp[aS,bn.rd])) b y (.ptr L) hy
    |k v=>simp[Eng.bK]at L
   simp only[Eng.aV,Z,V]
  ·rename_i b as bs L R
   cases hh<;>cases D
   simp only[Eng.aV]at B
   split at B<;>try(cases B;done)
   rename_i y ab hy aa;cases B
   obtain⟨O,V⟩:=h.aV (λt ht=>M t (by simp[aS,ht])) (λt ht=>A t (by simp[aS,ht])) R aa
   rw[h.bK (λt ht=>M t (by simp[aS,ht])) L,O]
   refine⟨rfl,?_⟩
   have Z:Eng.b9 b s2.boxes=some y:=by
    cases x with
    |t n=>exact h.boxes n (A n (by simp[aS,bn.rd])) b y ⟨_,L,(b,0),TB,rfl⟩ hy
    |k v=>simp[Eng.bK]at L
   simp only[Eng.aV,Z,V]
theorem oe.dU(h:oe l lb ap s s2) {hh:Bool}:∀{xs:List bn} (M:∀t∈aS xs,t∈l) (A:∀t∈aS xs,t∈lb) {p:List (Option AV)×List Nat} (D:Eng.dS hh s xs=some p) {css:List (List AV)} (B:Eng.dU s.boxes p.2=some css),Eng.dS hh s2 xs=some p/\Eng.dU s2.boxes p.2=some css
 |[],_,_,p,D,css,B=>by
  simp only[Eng.dS,gg]at D⊢;subst D;exact⟨rfl,B⟩
 |x::xs,M,A,p,D,css,B=>by
  simp only[Eng.dS]at D⊢
  split at D<;>try(cases D;done)
  ·rename_i a q as bs L R
   cases D
   obtain⟨O,V⟩:=h.dU (λt ht=>M t (by simp[aS,ht])) (λt ht=>A t (by simp[aS,ht])) R B
   rw[h.bK (λt ht=>M t (by simp[aS,ht])) L,O]
   exact⟨rfl,V⟩
  ·rename_i cs as bs L R
   cases D
   obtain⟨O,V⟩:=h.dU (λt ht=>M t (by simp[aS,ht])) (λt ht=>A t (by simp[aS,ht])) R B
   rw[h.bK (λt ht=>M t (by simp[aS,ht])) L,O]
   exact⟨rfl,V⟩
  ·rename_i b as bs L R
   cases D;simp only[Eng.dU]at B
   split at B<;>try(cases B;done)
   rename_i cs ab hy aa;cases B
   obtain⟨O,V⟩:=h.dU (λt ht=>M t (by simp[aS,ht])) (λt ht=>A t (by simp[aS,ht])) R aa
   rw[h.bK (λt ht=>M t (by simp[aS,ht])) L,O]
   refine⟨rfl,?_⟩
   have Z:Eng.b9 b s2.boxes=some ⟨cs,[]⟩:=by
    cases x with
    |t n=>exact h.boxes n (A n (by simp[aS,bn.rd])) b _ (.ptr L) hy
    |k v=>simp[Eng.bK]at L
   simp only[Eng.dU,Z,V]
  ·rename_i b as bs L R
   cases hh<;>cases D
   simp only[Eng.dU]at B
   split at B<;>try(cases B;done)
   rename_i cs ab hy aa;cases B
   obtain⟨O,V⟩:=h.dU (λt ht=>M t (by simp[aS,ht])) (λt ht=>A t (by simp[aS,ht])) R aa
   rw[h.bK (λt ht=>M t (by simp[aS,ht])) L,O]
   refine⟨rfl,?_⟩
   have Z:Eng.b9 b s2.boxes=some ⟨cs,[]⟩:=by
    cases x with
    |t n=>exact h.boxes n (A n (by simp[aS,bn.rd])) b _ ⟨_,L,(b,0),TB,rfl⟩ hy
    |k v=>simp[Eng.bK]at L
   simp only[Eng.dU,Z,V]
theorem oe.b9(h:oe l lb ap s s2) {x:bn} (B:∀t∈x.rd,t∈lb) {b off:Nat} {bx:cI} (A:Eng.bK s x=some (.ptr b off)) (D:Eng.b9 b s.boxes=some bx):Eng.b9 b s2.boxes=some bx:=by
 cases x with
 |t n=>exact h.boxes n (B n (by simp[bn.rd])) b bx (.ptr A) D
 |k v=>simp[Eng.bK]at A
end
inductive Delta where
 |no
 |box (b:cI)
 |live (e:Nat)
 |app (q e:Nat)
 |st (b:Nat) (x:cI)
 |calls (ids:List Nat) (css:List (List AV)) (fr:Option Nat)
 |Ec (ids:List Nat) (css:List (List AV))
section
variable (d:Delta) (id:Nat) (o:bE) {b:Nat} {x:bn} (s:S)
def Delta.app':S:=
 match d with
 | .no=>s
 | .box b=>{s with boxes:=(id,b)::s.boxes}
 | .live e=>{s with live:=(id,e)::s.live}
 | .app q e=>{s with live:=(id,e)::lZ q s.live}
 | .st b x=>{s with boxes:=nK b x s.boxes}
 | .calls ids css fr=>{s with boxes:=dJ ids css s.boxes,live:=match fr with|some e=>(id,e)::s.live|none=>s.live}
 | .Ec ids css=>gp ids css s
def Delta.ok:Prop:=
 match d with
 | .st b _=>o.yL=false/\∃t∈o.Jr,Fq b s t
 | .calls ids _ _=>o.yL=false/\∀b∈ids,∃t∈o.Jr,Fq b s t
 | .Ec ids _=>o.yL=true/\∀b∈ids,∃t∈o.Jr,Fq b s t
 | .app q _=>o.isApp=true/\∃t∈o.rd,∃a,lk t s.slots=some (.dat a (some q))
 |_=>True
def cI.fJ(U:Nat->Prop) (x:cI):Prop:=∀o q,dY o x.tags=some q->U q
def Delta.fJ(U:Nat->Prop) (d:Delta):Prop:=
 match d with
 | .box b=>b.fJ U
 | .app q _=>U q
 | .st b x=>U b/\x.fJ U
 | .calls ids _ _=>∀b∈ids,U b
 |_=>True
structure S.fJ (U:Nat->Prop) (s:S):Prop where
 slots:∀t v,lk t s.slots=some v->v.fJ U
 boxes:∀b x,b9 b s.boxes=some x->U b/\x.fJ U
 live:∀q e,dY q s.live=some e->U q
theorem S.fJ.bK{U:Nat->Prop} {s:S} (h:s.fJ U) {x:bn} {v:SV} (A:Eng.bK s x=some v):v.fJ U:=by
 cases x with
 |t n=>exact h.slots n v A
 |k a=>simp only[Eng.bK,gg]at A;subst A;trivial
theorem tw{s:S} {off:Nat} (h:bK s x=some (.ptr b off)):∃t∈x.rd,Fq b s t:=by
 cases x with
 |t n=>exact⟨n,by simp[bn.rd],.ptr h⟩
 |k v=>simp[bK]at h
theorem iB{s:S} {L:Bool}:∀{xs:List bn} {p:List (Option AV)×List Nat},dS L s xs=some p->∀b∈p.2,∃t∈aS xs,Fq b s t
 |[],p,h,b,hb=>by simp[dS]at h;subst h;cases hb
 |x::xs,p,h,b,hb=>by
  unfold dS at h;split at h
  ·rename_i D B
   cases h;obtain⟨t,ht,A⟩:=iB B b hb
   exact⟨t,by simp[aS,ht],A⟩
  ·rename_i D B
   cases h;obtain⟨t,ht,A⟩:=iB B b hb
   exact⟨t,by simp[aS,ht],A⟩
  ·rename_i D B
   cases h
   rcases lw.1 hb with rfl|hb
   ·obtain⟨t,ht,A⟩:=tw D
    exact⟨t,by simp[aS,ht],A⟩
   ·obtain⟨t,ht,A⟩:=iB B b hb
    exact⟨t,by simp[aS,ht],A⟩
  ·rename_i D B
   cases L<;>cases h
   rcases lw.1 hb with rfl|hb
   ·cases x with
    |t n=>exact⟨n,by simp[aS,bn.rd],_,D,(b,0),TB,rfl⟩
    |k v=>simp[bK]at D
   ·obtain⟨t,ht,A⟩:=iB B b hb
    exact⟨t,by simp[aS,ht],A⟩
  ·cases h
def t7(v:SV):Prop:=∀b,v.has b->(b=id/\o.MF=true)\/∃t∈o.rj,Fq b s t
theorem t7.dat{id:Nat} {o:bE} {s:S} {a:AV} {q:Option Nat}:t7 id o s (.dat a q):=λ_ h=>h.elim
theorem t7.undef{id:Nat} {o:bE} {s:S}:t7 id o s .undef:=λ_ h=>h.elim
theorem t7.rp{id:Nat} {o:bE} {s:S} {cs:List AV}:t7 id o s (.rp cs):=λ_ h=>h.elim
theorem lM{s:S} {v:SV} (h:bK s x=some v) (A:v.has b):∃t∈x.rd,Fq b s t:=by
 cases x with
 |t n=>exact⟨n,by simp[bn.rd],_,h,A⟩
 |k a=>simp only[bK,gg]at h;subst h;exact A.elim
def Path(C:bk) (id:Nat) (o:bE) (K:SV->S->Prop) (s:S):Prop:=
 ∃v d,K v (Delta.app' d id s)/\d.ok o s/\(∀U,s.fJ U->v.fJ (dZ U id)/\d.fJ U)/\t7 id o s v/\∀s2,oe o.rd o.t5 o.isApp s s2->∀K':SV->S->Prop,K' v (d.app' id s2)->bB C id o K' s2
end
section
variable{C:bk} {id:Nat} {o:bE} {K:SV->S->Prop} {s:S}
theorem Path.val{a:AV} (hK:K (.dat a none) s) (h:∀s2,oe o.rd o.t5 o.isApp s s2->∀K':SV->S->Prop,K' (.dat a none) s2->bB C id o K' s2):Path C id o K s:=
 ⟨.dat a none,.no,hK,trivial,λU _=>⟨trivial,trivial⟩,.dat,h⟩
theorem Path.sv{v:SV} (hK:K v s) (D:∀U,s.fJ U->v.fJ U) (B:t7 id o s v) (h:∀s2,oe o.rd o.t5 o.isApp s s2->∀K':SV->S->Prop,K' v s2->bB C id o K' s2):Path C id o K s:=
 ⟨v,.no,hK,trivial,λU A=>⟨SV.mb (λn h=>.inl h) (D U A),trivial⟩,B,h⟩
theorem vX(h:bB C id o K s):Path C id o K s:=by
 cases o<;>simp only[bB]at h
 case mv x=>
  obtain⟨v,M,hK⟩:=af h
  exact Path.sv hK (λU D=>D.bK M) (λb e=>.inr (lM M e)) λs2 A K' hk=>by simpa[bB,A.bK (λt ht=>ht) M]using hk
 case pick c a b=>
  obtain⟨t,ht,h⟩:=af h
  cases t<;>try(exact h.elim)
  rename_i t;obtain⟨u,hu,h⟩:=af h;obtain⟨v,M,a8,a6⟩:=af h;cases t
  ·exact Path.sv (a6 rfl) (λU D=>D.bK M) (λb' e=>.inr (by obtain⟨t,ht,hl⟩:=lM (x:=b) M e;exact⟨t,by simp[bE.rj,ht],hl⟩)) λs2 A K' hk=>by
    simpa[bB,A.aF (x:=c) (by simp[bE.rd];grind) ht,A.bK (x:=a) (by simp[bE.rd];grind) hu,A.bK (x:=b) (by simp[bE.rd];grind) M]using hk
  ·exact Path.sv (a8 rfl) (λU D=>D.bK hu) (λb' e=>.inr (by obtain⟨t,ht,hl⟩:=lM (x:=a) hu e;exact⟨t,by simp[bE.rj,ht],hl⟩)) λs2 A K' hk=>by
    simpa[bB,A.aF (x:=c) (by simp[bE.rd];grind) ht,A.bK (x:=a) (by simp[bE.rd];grind) hu,A.bK (x:=b) (by simp[bE.rd];grind) M]using hk
 case alloc cs=>
  exact⟨.ptr id 0,.box ⟨cs,[]⟩,h,trivial,λU _=>⟨.inr rfl,λo q hq=>by cases hq⟩,λb e=>.inl ⟨e.symm,rfl⟩,λs2 A K' hk=>hk⟩
 case box x=>
  obtain⟨a,L,au,hK⟩:=af h
  exact⟨.ptr id 0,.box ⟨a.cells,[]⟩,hK,trivial,λU _=>⟨.inr rfl,λo q hq=>by cases hq⟩,λb e=>.inl ⟨e.symm,rfl⟩,λs2 A K' hk=>by
   simpa[bB,A.aF (x:=x) (by simp[bE.rd]) L,au,Delta.app']using hk⟩
 case build zs ps=>
  obtain⟨p,B,hK⟩:=af h
  exact Path.val hK λs2 A K' hk=>by simpa[bB,A.ir (by simp[bE.rd]) B]using hk
 case PG e z xs=>
  obtain⟨p,B,hK⟩:=af h
  exact⟨.dat (.sl p) (some id),.live e,hK,trivial,λU D=>⟨.inr rfl,trivial⟩,.dat,λs2 A K' hk=>by simpa[bB,A.lp (by simp[bE.rd]) B,Delta.app']using hk⟩
 case ld x sz=>
  obtain⟨p,B,h⟩:=af h
  cases p<;>try(exact h.elim)
  ·rename_i b off
   obtain⟨bx,R,h⟩:=af h;obtain⟨a,L,hK⟩:=af h
   refine Path.sv hK (λU D=>?_) .dat λs2 A K' hk=>by simpa[bB,A.bK (x:=x) (by simp[bE.rd]) B,A.b9 (x:=x) (by simp[bE.t5]) B R,L]using hk
   cases sz with
   |some n=>trivial
   |none=>
    cases hq:dY off bx.tags with
    |none=>trivial
    |some q=>exact(D.boxes b bx R).2 off q hq
  ·rename_i cs
   obtain⟨a,L,hK⟩:=af h
   exact Path.val hK λs2 A K' hk=>by simpa[bB,A.bK (x:=x) (by simp[bE.rd]) B,L]using hk
 case st x v sz=>
  obtain⟨p,B,h⟩:=af h
  cases p<;>try(exact h.elim)
  rename_i b off;obtain⟨bx,R,h⟩:=af h;obtain⟨u,hu,h⟩:=af h
  cases u<;>try(exact h.elim)
  rename_i a q;obtain⟨h1,Z,h3,hK⟩:=h
  refine⟨.undef,.st b ⟨setCells bx.cells off a.cells,match(generalizing:=false) q with|some q=>(off,q)::bx.tags.filter (λp=>p.1<off||off+sz<=p.1)|none=>bx.tags.filter (λp=>p.1<off||off+sz<=p.1)⟩,hK,⟨rfl,tw (x:=x) B⟩,λU D=>⟨trivial,?_,?_⟩,.undef,λs2 A K' hk=>?_⟩
  ·exact(D.boxes b bx R).1
  ·intro o q' ac
   have al:∀q',dY o (bx.tags.filter (λp=>p.1<off||off+sz<=p.1))=some q'->U q':=λq' ac=>
    (D.boxes b bx R).2 o q' (AD ac (λx=>rfl)).1
   cases q with
   |none=>exact al q' ac
   |some q=>
    simp only[dY]at ac;cases a3:o==off
    ·rw[a3]at ac;exact al q' ac
    ·rw[a3]at ac
     simp only[gs,gg]at ac;subst ac;exact D.bK hu
  ·simp only[bB,A.bK (x:=x) (by simp[bE.rd];grind) B,A.bK (x:=v) (by simp[bE.rd];grind) hu,A.b9 (x:=x) (by simp[bE.t5]) B R,aB]
   exact⟨h1,Z,h3,hk⟩
 case fa x off=>
  obtain⟨p,B,h⟩:=af h
  cases p<;>try(exact h.elim)
  ·exact Path.sv h (λU D=>(D.bK B:(SV.ptr _ _).fJ U)) (λb' e=>.inr (by cases e;exact tw (x:=x) B)) λs2 A K' hk=>by simpa[bB,A.bK (x:=x) (by simp[bE.rd]) B]using hk
  ·exact Path.sv h (λU D=>trivial) .rp λs2 A K' hk=>by simpa[bB,A.bK (x:=x) (by simp[bE.rd]) B]using hk
  ·rename_i k ps
   match k,B,h with
   |2,B,h=>exact Path.sv h (λU D p hq=>(D.bK B:(SV.pt 2 ps).fJ U) p (pm hq)) (λb' ⟨q,hq,e⟩=>.inr (lM (x:=x) B ⟨q,pm hq,e⟩)) λs2 A K' hk=>by simpa[bB,A.bK (x:=x) (by simp[bE.rd]) B]using hk
   |0,_,h=>exact h.elim
   |1,_,h=>exact h.elim
   |k+3,_,h=>exact h.elim
 case PV x sz=>
  obtain⟨p,B,h⟩:=af h
  cases p<;>try(exact h.elim)
  rename_i k ps
  match k,sz,ps,B,h with
  |2,none,(b,o)::ps,B,h=>exact Path.sv h (λU D=>(D.bK B:(SV.pt 2 _).fJ U) (b,o) TB) (λb' e=>.inr (lM (x:=x) B ⟨(b,o),TB,e⟩)) λs2 A K' hk=>by simpa[bB,A.bK (x:=x) (by simp[bE.rd]) B]using hk
  |2,none,[],B,h=>exact h.elim
  |2,some n,ps,B,h=>
   have h':n<=ps.length/\K (.pt 0 (ps.take n)) s:=by cases ps<;>exact h
   exact Path.sv h'.2 (λU D p hq=>(D.bK B:(SV.pt 2 ps).fJ U) p (ut hq)) (λb' ⟨q,hq,e⟩=>.inr (lM (x:=x) B ⟨q,ut hq,e⟩)) λs2 A K' hk=>by
    have e:=A.bK (x:=x) (by simp[bE.rd]) B
    simp only[bB,e,aB]
    cases ps<;>exact⟨h'.1,hk⟩
  |0,_,_,_,h=>exact h.elim
  |1,_,_,_,h=>exact h.elim
  |k+3,_,_,_,h=>exact h.elim
 case Mr x i n z=>
  obtain⟨p,B,h⟩:=af h;obtain⟨a,L,h⟩:=af h;obtain⟨j,hj,aa,h⟩:=af h
  cases p<;>try(exact h.elim)
  ·exact Path.sv h (λU D=>(D.bK B:(SV.ptr _ _).fJ U)) (λb' e=>.inr (by cases e;exact tw (x:=x) B)) λs2 A K' hk=>by simpa[bB,A.bK (x:=x) (by simp[bE.rd];grind) B,A.aF (x:=i) (by simp[bE.rd];grind) L,hj,aa]using hk
  ·exact Path.sv h (λU D=>trivial) .rp λs2 A K' hk=>by simpa[bB,A.bK (x:=x) (by simp[bE.rd];grind) B,A.aF (x:=i) (by simp[bE.rd];grind) L,hj,aa]using hk
 case PU x i z=>
  obtain⟨p,B,h⟩:=af h
  cases p<;>try(exact h.elim)
  rotate_left
  ·obtain⟨a,L,h⟩:=af h
   obtain⟨j,hj,aa,hz,h⟩:=af h
   exact Path.sv h (λU D=>(D.bK B:(SV.vs _ _ _ _).fJ U)) (λb' e=>.inr (by cases e;exact lM (x:=x) B rfl)) λs2 A K' hk=>by
    simp only[bB,A.bK (x:=x) (by simp[bE.rd];grind) B,A.aF (x:=i) (by simp[bE.rd];grind) L,hj,aB]
    exact⟨aa,hz,hk⟩
  obtain⟨a,L,h⟩:=af h;obtain⟨j,hj,h⟩:=af h;obtain⟨xs,ad,aa,h⟩:=af h;obtain⟨row,a5,hz,hK⟩:=af h
  refine Path.sv hK (λU D=>trivial) .rp λs2 A K' hk=>?_
  simp only[bB,A.bK (x:=x) (by simp[bE.rd];grind) B,A.aF (x:=i) (by simp[bE.rd];grind) L,hj,ad,a5,aB]
  exact⟨aa,hz,hk⟩
 case D2 x off sz=>
  obtain⟨p,B,h⟩:=af h
  cases p<;>try(exact h.elim)
  obtain⟨a,L,hK⟩:=af h
  exact Path.val hK λs2 A K' hk=>by simpa[bB,A.aF (x:=x) (by simp[bE.rd]) B,L]using hk
 case HL x i n z sz=>
  obtain⟨p,B,h⟩:=af h
  cases p<;>try(exact h.elim)
  obtain⟨a,L,h⟩:=af h;obtain⟨j,hj,aa,h⟩:=af h;obtain⟨b,R,hK⟩:=af h
  exact Path.val hK λs2 A K' hk=>by simpa[bB,A.aF (x:=x) (by simp[bE.rd];grind) B,A.aF (x:=i) (by simp[bE.rd];grind) L,hj,aa,R]using hk
 case bin op x y=>
  obtain⟨a,L,h⟩:=af h;obtain⟨b,R,h⟩:=af h;obtain⟨v,M,hK⟩:=af h
  exact Path.val hK λs2 A K' hk=>by simpa[bB,A.aF (x:=x) (by simp[bE.rd];grind) L,A.aF (x:=y) (by simp[bE.rd];grind) R,M]using hk
 case eqc ks neg x y=>
  obtain⟨a,L,h⟩:=af h
  cases a<;>try(exact h.elim)
  obtain⟨b,R,h⟩:=af h
  cases b<;>try(exact h.elim)
  obtain⟨v,M,hK⟩:=af h
  exact Path.val hK λs2 A K' hk=>by simpa[bB,A.aF (x:=x) (by simp[bE.rd];grind) L,A.aF (x:=y) (by simp[bE.rd];grind) R,M]using hk
 case bb neg x y=>
  obtain⟨a,L,h⟩:=af h;obtain⟨b,R,h⟩:=af h;obtain⟨v,M,hK⟩:=af h
  exact Path.val hK λs2 A K' hk=>by simpa[bB,A.aF (x:=x) (by simp[bE.rd];grind) L,A.aF (x:=y) (by simp[bE.rd];grind) R,M]using hk
 case un op x=>
  obtain⟨a,L,h⟩:=af h;obtain⟨v,M,hK⟩:=af h
  exact Path.val hK λs2 A K' hk=>by simpa[bB,A.aF (x:=x) (by simp[bE.rd]) L,M]using hk
 case uI k x=>
  obtain⟨a,L,h⟩:=af h;obtain⟨v,M,hK⟩:=af h
  exact Path.val hK λs2 A K' hk=>by simpa[bB,A.aF (x:=x) (by simp[bE.rd]) L,M]using hk
 case CI k x=>
  obtain⟨a,L,h⟩:=af h;obtain⟨v,M,hK⟩:=af h
  exact Path.val hK λs2 A K' hk=>by simpa[bB,A.aF (x:=x) (by simp[bE.rd]) L,M]using hk
 case Ft k x=>
  obtain⟨a,L,h⟩:=af h;obtain⟨v,M,hK⟩:=af h
  exact Path.val hK λs2 A K' hk=>by simpa[bB,A.aF (x:=x) (by simp[bE.rd]) L,M]using hk
 case D3 x=>
  obtain⟨v,M,hK⟩:=af h
  exact Path.sv hK (λU D=>D.bK M) (λb e=>.inr (lM M e)) λs2 A K' hk=>by simpa[bB,A.bK (λt ht=>ht) M]using hk
 case HR x=>
  obtain⟨a,L,h⟩:=af h
  cases a<;>try(exact h.elim)
  rotate_left
  ·exact Path.val h λs2 A K' hk=>by simpa[bB,A.bK (x:=x) (by simp[bE.rd]) L]using hk
  obtain⟨v,M,hK⟩:=af h
  exact Path.val hK λs2 A K' hk=>by simpa[bB,A.bK (x:=x) (by simp[bE.rd]) L,M]using hk
 case HS n=>exact Path.val h λs2 A K' hk=>by simpa[bB]using hk
 case TL x n z hi=>
  obtain⟨p,B,h⟩:=af h
  cases p<;>try(exact h.elim)
  rename_i b off;obtain⟨a,L,Z⟩:=af h;obtain⟨j,hj,aa,hK⟩:=af Z
  refine Path.sv hK (λU D=>?_) (λb' e=>.inr (by cases e;exact lM (x:=x) B rfl)) λs2 A K' hk=>?_
  ·have:(SV.ptr b off).fJ U:=D.bK B
   exact this
  ·simp only[bB,A.bK (x:=x) (by simp[bE.rd];grind) B,A.aF (x:=hi) (by simp[bE.rd];grind) L,hj,aB]
   exact⟨aa,hk⟩
 case CJ e z bytes y x=>
  obtain⟨p,B,h⟩:=af h
  cases p<;>try(exact h.elim)
  rename_i b off n z';obtain⟨q,hq,Z⟩:=af h
  cases q<;>try(exact Z.elim)
  rename_i b' o';obtain⟨⟨e1,e2⟩,h3⟩:=Z;obtain⟨bx,R,h4,hK⟩:=af h3
  have hy:∀t∈y.rd,t∈(bE.CJ e z bytes y x).rd:=by simp[bE.rd];grind
  have hx:∀t∈x.rd,t∈(bE.CJ e z bytes y x).rd:=by simp[bE.rd];grind
  rw[e1]at hq
  by_cases hn:n=0
  ·rw[gc hn]at hK
   refine Path.val hK λs2 A K' hk=>?_
   have ar:=A.b9 (x:=x) (by simp[bE.t5]) hq R
   simp only[bB,A.bK hy B,A.bK hx hq,aB,gc hn,ar];exact⟨⟨trivial,e2⟩,h4,hk⟩
  ·rw[fx hn]at hK
   refine⟨.dat (.sl (cq z n (bx.cells.drop off))) (some id),.live e,hK,trivial,λU D=>⟨.inr rfl,trivial⟩,.dat,λs2 A K' hk=>?_⟩
   have ar:=A.b9 (x:=x) (by simp[bE.t5]) hq R
   simp only[bB,A.bK hy B,A.bK hx hq,aB,fx hn,ar];exact⟨⟨trivial,e2⟩,h4,hk⟩
 case app e z bytes x y=>
  obtain⟨p,B,h⟩:=af h
  cases p<;>try(exact h.elim)
  rename_i a q;obtain⟨xs,ad,h⟩:=af h;obtain⟨b,R,h⟩:=af h;obtain⟨ys,an,h1,Z,h3,h⟩:=af h
  have hx:∀t∈x.rd,t∈(bE.app e z bytes x y).rd:=by simp[bE.rd];grind
  have hy:∀t∈y.rd,t∈(bE.app e z bytes x y).rd:=by simp[bE.rd];grind
  cases a<;>try(exact h.elim)
  ·--nil
   simp only[]at h;split at h
   ·rename_i he
    refine Path.val h λs2 A K' hk=>?_
    simp only[bB,A.bK hx B,A.aF hy R,ad,an,aB,gc he];exact⟨h1,Z,h3,hk⟩
   ·rename_i he
    refine⟨.dat (.sl (xs++ys)) (some id),.live e,h,trivial,λU D=>⟨.inr rfl,trivial⟩,.dat,λs2 A K' hk=>?_⟩
    simp only[bB,A.bK hx B,A.aF hy R,ad,an,aB,fx he];exact⟨h1,Z,h3,hk⟩
  ·cases q with
   |none=>exact h.elim
   |some q=>
    obtain⟨hq,hK⟩:=h
    have a4:∃t∈(bE.app e z bytes x y).rd,∃a,lk t s.slots=some (.dat a (some q)):=by
     cases x with
     |t n=>exact⟨n,hx n (by simp[bn.rd]),_,B⟩
     |k v=>simp[bK]at B
    refine⟨.dat (.sl (xs++ys)) (some id),.app q e,hK,⟨rfl,a4⟩,λU D=>⟨.inr rfl,D.live q e hq⟩,.dat,λs2 A K' hk=>?_⟩
    have a7:dY q s2.live=some e:=by
     cases x with
     |t n=>exact A.live rfl n (hx n (by simp[bn.rd])) _ q e B hq
     |k v=>simp[bK]at B
    simp only[bB,A.bK hx B,A.aF hy R,ad,an,aB];exact⟨h1,Z,h3,a7,hk⟩
 case call f args=>
  obtain⟨as,has,r,fr,hc,hK⟩:=af h
  cases fr with
  |none=>exact Path.val hK λs2 A K' hk=>by simp only[bB,A.dQ (by simp[bE.rd]) has,aB];exact⟨r,none,hc,hk⟩
  |some e=>exact⟨.dat r (some id),.live e,hK,trivial,λU D=>⟨.inr rfl,trivial⟩,.dat,λs2 A K' hk=>by simp only[bB,A.dQ (by simp[bE.rd]) has,aB];exact⟨r,some e,hc,hk⟩⟩
 case dD f args=>
  obtain⟨p,B,ab,h⟩:=af h;obtain⟨css,V,r,fr,O,hc,hK⟩:=af h
  have ao:∀U,s.fJ U->∀b∈p.2,U b:=by
   intro U D b R
   obtain⟨k,hk⟩:=mr.1 R
   obtain⟨x,hx,_⟩:=(fe V).2 k b hk
   exact(D.boxes b x hx).1
  have ae:∀s2,oe (bE.dD f args).rd (bE.dD f args).t5 (bE.dD f args).isApp s s2->∀K':SV->S->Prop,K' (.dat r (fr.map λ_=>id)) (Delta.app' (.calls p.2 O fr) id s2)->bB C id (.dD f args) K' s2:=by
   intro s2 A K' hk
   obtain⟨h1,Z⟩:=A.aV (xs:=args) (by simp[bE.rd]) (by simp[bE.t5]) B V
   simp only[bB,h1,Z,aB];exact⟨ab,r,fr,O,hc,hk⟩
  exact⟨.dat r (fr.map λ_=>id),.calls p.2 O fr,hK,⟨rfl,iB B⟩,λU D=>⟨by cases fr with|none=>trivial|some e=>exact .inr rfl,ao U D⟩,.dat,ae⟩
 case tZ f args=>
  obtain⟨p,B,ab,h⟩:=af h;obtain⟨css,V,v,O,hc,hK⟩:=af h
  refine⟨.dat v none,.calls p.2 O none,hK,⟨rfl,iB B⟩,λU D=>⟨trivial,λb R=>?_⟩,.dat,λs2 A K' hk=>?_⟩
  ·obtain⟨k,hk⟩:=mr.1 R
   obtain⟨x,hx,_⟩:=(fe V).2 k b hk
   exact(D.boxes b x hx).1
  ·obtain⟨h1,Z⟩:=A.aV (xs:=args) (by simp[bE.rd]) (by simp[bE.t5]) B V
   simp only[bB,h1,Z,aB];exact⟨ab,v,O,hc,hk⟩
 case jx g args=>
  obtain⟨a,L,h⟩:=af h
  cases a<;>try(exact h.elim)
  rename_i fn first caps
  cases fn<;>try(exact h.elim)
  obtain⟨as,has,r,fr,hc,hK⟩:=af h
  have hg:∀t∈g.rd,t∈(bE.jx g args).rd:=by simp[bE.rd];grind
  have am:∀t∈aS args,t∈(bE.jx g args).rd:=by simp[bE.rd];grind
  cases fr with
  |none=>exact Path.val hK λs2 A K' hk=>by simp only[bB,A.aF hg L,A.dQ am has,aB];exact⟨r,none,hc,hk⟩
  |some e=>exact⟨.dat r (some id),.live e,hK,trivial,λU D=>⟨.inr rfl,trivial⟩,.dat,λs2 A K' hk=>by simp only[bB,A.aF hg L,A.dQ am has,aB];exact⟨r,some e,hc,hk⟩⟩
 case ext x i=>
  obtain⟨a,L,h⟩:=af h;obtain⟨v,M,hK⟩:=af h
  exact Path.val hK λs2 A K' hk=>by simpa[bB,A.aF (x:=x) (by simp[bE.rd]) L,M]using hk
 case xt e x=>
  obtain⟨a,L,h⟩:=af h;obtain⟨v,M,hK⟩:=af h
  exact Path.val hK λs2 A K' hk=>by simpa[bB,A.aF (x:=x) (by simp[bE.rd]) L,M]using hk
 case Xk x i=>
  obtain⟨p,B,h⟩:=af h
  cases p<;>try(exact h.elim)
  obtain⟨a,L,h⟩:=af h;obtain⟨j,hj,h⟩:=af h;obtain⟨b,R,hK⟩:=af h
  exact Path.val hK λs2 A K' hk=>by simpa[bB,A.aF (x:=x) (by simp[bE.rd];grind) B,A.aF (x:=i) (by simp[bE.rd];grind) L,hj,R]using hk
 case TK neg x=>
  obtain⟨a,L,h⟩:=af h;obtain⟨v,M,hK⟩:=af h
  exact Path.val hK λs2 A K' hk=>by simpa[bB,A.aF (x:=x) (by simp[bE.rd]) L,M]using hk
 case Ap f args=>
  obtain⟨p,B,ab,h⟩:=af h;obtain⟨css,V,r,hc,hK⟩:=af h
  refine Path.val hK λs2 A K' hk=>?_
  obtain⟨h1,Z⟩:=A.dU (xs:=args) (by simp[bE.rd]) (by simp[bE.t5]) B V
  simp only[bB,h1,Z,aB];exact⟨ab,r,hc,hk⟩
 case qY g args=>
  obtain⟨a,L,h⟩:=af h
  cases a<;>try(exact h.elim)
  rename_i fn first caps
  cases fn<;>try(exact h.elim)
  rename_i f
  cases first<;>try(exact h.elim)
  cases caps<;>try(exact h.elim)
  obtain⟨p,B,ab,h⟩:=af h;obtain⟨css,V,r,hc,hK⟩:=af h
  have hg:∀t∈g.rd,t∈(bE.qY g args).rd:=by simp[bE.rd];grind
  refine Path.val hK λs2 A K' hk=>?_
  obtain⟨h1,Z⟩:=A.dU (xs:=args) (by simp[bE.rd];grind) (by simp[bE.t5]) B V
  simp only[bB,A.aF hg L,h1,Z,aB];exact⟨ab,r,hc,hk⟩
 case fQ g args=>
  obtain⟨a,L,h⟩:=af h
  cases a<;>try(exact h.elim)
  rename_i fn first caps
  cases fn<;>try(exact h.elim)
  rename_i f
  cases first<;>try(exact h.elim)
  cases caps<;>try(exact h.elim)
  obtain⟨p,B,ab,h⟩:=af h;obtain⟨css,V,r,fr,O,hc,hK⟩:=af h
  have ao:∀U,s.fJ U->∀b∈p.2,U b:=by
   intro U D b R
   obtain⟨k,hk⟩:=mr.1 R
   obtain⟨x,hx,_⟩:=(fe V).2 k b hk
   exact(D.boxes b x hx).1
  have hg:∀t∈g.rd,t∈(bE.fQ g args).rd:=by simp[bE.rd];grind
  have ae:∀s2,oe (bE.fQ g args).rd (bE.fQ g args).t5 (bE.fQ g args).isApp s s2->∀K':SV->S->Prop,K' (.dat r (fr.map λ_=>id)) (Delta.app' (.calls p.2 O fr) id s2)->bB C id (.fQ g args) K' s2:=by
   intro s2 A K' hk
   obtain⟨h1,Z⟩:=A.aV (xs:=args) (by simp[bE.rd];grind) (by simp[bE.t5]) B V
   simp only[bB,A.aF hg L,h1,Z,aB];exact⟨ab,r,fr,O,hc,hk⟩
  exact⟨.dat r (fr.map λ_=>id),.calls p.2 O fr,hK,⟨rfl,iB B⟩,λU D=>⟨by cases fr with|none=>trivial|some e=>exact .inr rfl,ao U D⟩,.dat,ae⟩
 case S0 x n z=>
  obtain⟨p,B,h⟩:=af h
  cases p<;>try(exact h.elim)
  ·rename_i b off
   obtain⟨h4,h⟩:=h;obtain⟨bx,R,ak,hK⟩:=af h
   refine⟨_,.Ec [b] [bx.cells],hK,⟨rfl,λb' a2=>?_⟩,λU D=>⟨trivial,trivial⟩,.dat,λs2 A K' hk=>?_⟩
   ·simp only[nz]at a2;subst a2;exact tw (x:=x) B
   ·simp only[bB,A.bK (x:=x) (by simp[bE.rd]) B,A.b9 (x:=x) (by simp[bE.t5]) B R,aB]
    exact⟨h4,ak,hk⟩
  ·obtain⟨ak,hK⟩:=h
   refine Path.val hK λs2 A K' hk=>?_
   simp only[bB,A.bK (x:=x) (by simp[bE.rd]) B,aB]
   exact⟨ak,hk⟩
 case xN fn a b=>
  obtain⟨as,has,h⟩:=af h;obtain⟨p,B,au,h⟩:=af h;obtain⟨css,V,hK⟩:=af h
  have ae:∀s2,oe (bE.xN fn a b).rd (bE.xN fn a b).t5 (bE.xN fn a b).isApp s s2->∀K':SV->S->Prop,K' (.dat (.fn fn as (je p.1 css)) none) (gp p.2 css s2)->bB C id (.xN fn a b) K' s2:=by
   intro s2 A K' hk
   obtain⟨h1,Z⟩:=A.aV (xs:=b) (by simp[bE.rd];grind) (by simp[bE.t5]) B V
   simp only[bB,A.dQ (xs:=a) (by simp[bE.rd];grind) has,h1,Z,aB]
   exact⟨au,hk⟩
  cases b with
  |nil=>
   simp[dS]at B;subst B
   have e:∀s:S,gp [] css s=s:=λs=>by cases css<;>rfl
   simp only[e]at hK ae;exact Path.val hK ae
  |cons x b=>exact⟨_,.Ec p.2 css,hK,⟨rfl,iB B⟩,λU D=>⟨trivial,trivial⟩,.dat,ae⟩
 case SZ z x lo hi=>
  obtain⟨a,L,h⟩:=af h;obtain⟨xs,ad,h⟩:=af h;obtain⟨l,hl,h⟩:=af h;obtain⟨m,hm,h1,Z,hK⟩:=af h
  refine Path.val hK λs2 A K' hk=>?_
  simp only[bB,A.aF (x:=x) (by simp[bE.rd];grind) L,ad,A.Au (x:=lo) (by simp[bE.rd];grind) hl,A.Av (x:=hi) (by simp[bE.rd];grind) hm,aB]
  exact⟨h1,Z,hk⟩
 case nc x=>
  obtain⟨p,B,h⟩:=af h
  cases p with
  |ptr b o=>exact Path.sv h (λU D=>(D.bK B:(SV.ptr _ _).fJ U)) (λb' e=>.inr (by cases e;exact tw (x:=x) B)) λs2 A K' hk=>by simpa[bB,A.bK (x:=x) (by simp[bE.rd]) B]using hk
  |rp cs=>exact Path.sv h (λU D=>trivial) .rp λs2 A K' hk=>by simpa[bB,A.bK (x:=x) (by simp[bE.rd]) B]using hk
  |undef=>exact h.elim
  |vs _ _ _ _=>exact h.elim
  |tW _ _ _=>exact h.elim
  |raw _ _=>exact h.elim
  |pt _ _=>exact h.elim
  |dat a q=>
   cases a<;>try(exact h.elim)
   case ref cs=>exact Path.sv h (λU D=>trivial) .rp λs2 A K' hk=>by simpa[bB,A.bK (x:=x) (by simp[bE.rd]) B]using hk
   rename_i fn as bs
   cases fn<;>try(exact h.elim)
   exact Path.sv h (λU D=>D.bK (v:=.dat _ q) B) .dat λs2 A K' hk=>by simpa[bB,A.bK (x:=x) (by simp[bE.rd]) B]using hk
 case mm mx args=>
  obtain⟨as,has,h⟩:=af h
  cases as with
  |nil=>exact h.elim
  |cons a r=>
   obtain⟨v,M,hK⟩:=af h
   exact Path.val hK λs2 A K' hk=>by simpa[bB,A.dQ (xs:=args) (by simp[bE.rd]) has,M]using hk
end
section
variable (C:bk) (id:Nat) {U:Nat->Prop} {ap:Bool} {d:Option Nat} {l lb:List Nat} {s:S} {v:SV} (o:CO)
theorem jh{α:Type} (n m:Nat) (x y:α):(bif n==m then x else y)=if n=m then x else y:=by
 by_cases h:n=m
 ·simp[h]
 ·have A:(n==m)=false:=by simpa using h
  simp[h,A]
def iW(K:S->Prop) (s:S):Prop:=
 fm s o.g (bB C id o.op (λv A=>K (A.put o.dst v)) s) (K (s.put o.dst .undef))
theorem oo{C:bk} {base i:Nat} {o:CO} {r:List CO} {K:S->Prop}:jb C base i (o::r) K s=iW C (base+i) o (jb C base (i+1) r K) s:=rfl
theorem oe.refl:oe l lb ap s s:=⟨λ_ _=>rfl,λ_ _ _ _ _ h=>h,λ_ _ _ _ _ _ _ h=>h⟩
theorem oe.trans {l lb:List Nat} {ap:Bool} {s s2 s3:S} (hl:∀ t∈lb,t∈l) (h:oe l lb ap s s2) (k:oe l lb ap s2 s3):oe l lb ap s s3 :=
  ⟨fun t ht=>(k.slots t ht).trans (h.slots t ht),fun t ht b x hv hb=>k.boxes t ht b x (let ⟨v,h1,h2⟩:=hv; ⟨v,by rw [h.slots t (hl t ht)]; exact h1,h2⟩) (h.boxes t ht b x hv hb),
   fun e t ht a q e' hv hq=>k.live e t ht a q e' (by rw [h.slots t ht]; exact hv) (h.live e t ht a q e' hv hq)⟩
theorem o7{t:Nat}:lk t (s.put d v).slots=if d=some t then some v else lk t s.slots:=by
 cases d with
 |none=>simp[S.put]
 |some d=>
  simp only[S.put,lk,jh]
  by_cases h:t=d
  ·subst h;simp
  ·have A:¬(some d=some t):=λe=>h (vx e).symm
   rw[fx h,fx A]
theorem gR:(s.put d v).boxes=s.boxes:=by cases d<;>rfl
theorem ji:(s.put d v).live=s.live:=by cases d<;>rfl
theorem gS{m:Nat} {b:cI}:∀{l:List (Nat×cI)} {n:Nat},b9 n (nK m b l)=if n=m then(b9 m l).map λ_=>b else b9 n l
 |[],n=>by simp[nK,b9]
 |(k,v)::r,n=>by
  have L:=gS (m:=m) (b:=b) (l:=r) (n:=n)
  simp only[nK,jh]
  by_cases A:m=k
  ·subst A
   simp only[kv,b9,jh]
   by_cases D:n=m
   ·simp[D]
   ·simp[D]
  ·simp only[A,ik,b9,jh,L]
   by_cases B:n=k
   ·have:¬n=m:=λe=>A (e.symm.trans B)
    simp[B,Ne.symm A]
   ·simp only[B,ik]
theorem tA{m:Nat}:∀{l:List (Nat×Nat)} {n:Nat},dY n (lZ m l)=if n=m then none else dY n l
 |[],n=>by simp[lZ,dY]
 |(k,v)::r,n=>by
  have D:=tA (m:=m) (l:=r) (n:=n)
  simp only[lZ,jh]
  by_cases A:m=k
  ·subst A
   simp only[kv,dY,jh,D]
   by_cases L:n=m
   ·simp[L]
   ·simp[L]
  ·simp only[A,ik,dY,jh,D]
   by_cases B:n=k
   ·simp[B,Ne.symm A]
   ·simp only[B,ik]
structure qQ (s s2:S):Prop where
 slots:∀t,lk t s2.slots=lk t s.slots
 boxes:∀b,b9 b s2.boxes=b9 b s.boxes
 live:∀q,dY q s2.live=dY q s.live
theorem qQ.refl:qQ s s:=⟨λ_=>rfl,λ_=>rfl,λ_=>rfl⟩
theorem qQ.symm{s s2:S} (h:qQ s s2):qQ s2 s:=⟨λt=>(h.slots t).symm,λt=>(h.boxes t).symm,λt=>(h.live t).symm⟩
theorem qQ.trans{s s2 A:S} (h:qQ s s2) (k:qQ s2 A):qQ s A:=⟨λt=>(k.slots t).trans (h.slots t),λt=>(k.boxes t).trans (h.boxes t),λt=>(k.live t).trans (h.live t)⟩
theorem qQ.agr{s2:S} (h:qQ s s2):oe l lb ap s s2:=
 ⟨λt _=>h.slots t,λt _ b x _ A=>by rw[h.boxes];exact A,λ_ t _ a q e _ B=>by rw[h.live];exact B⟩
theorem qQ.put{s s2:S} (h:qQ s s2) (d:Option Nat) (v:SV):qQ (s.put d v) (s2.put d v):=
 ⟨λt=>by rw[o7,o7,h.slots],λb=>by rw[gR,gR];exact h.boxes b,λb=>by rw[ji,ji];exact h.live b⟩
theorem yS:∀{ids:List Nat} {css:List (List AV)} {l A:List (Nat×cI)},(∀b,b9 b A=b9 b l)->∀b,b9 b (dJ ids css A)=b9 b (dJ ids css l)
 |[],css,l,A,h,b=>by cases css<;>exact h b
 |i::ids,[],l,A,h,b=>h b
 |i::ids,cs::css,l,A,h,b=>by
  simp only[dJ]
  exact yS (λb=>by simp only[gS,h]) b
theorem qQ.gp{ids:List Nat}:∀{css:List (List AV)} {s s2:S},qQ s s2->qQ (gp ids css s) (gp ids css s2):=by
 induction ids with
 |nil=>intro css s s2 h;cases css<;>exact h
 |cons b ids A=>
  intro css s s2 h
  cases css with
  |nil=>exact h
  |cons cs css=>
   exact A ⟨λt=>by simp only[vV,h.slots],λc=>by simp only[mg,h.boxes],h.live⟩
theorem qQ.app{s s2:S} (h:qQ s s2) (d:Delta) (id:Nat):qQ (d.app' id s) (d.app' id s2):=by
 cases d with
 |Ec ids css=>exact h.gp
 |no=>exact h
 |box b=>exact⟨h.slots,λc=>by simp only[Delta.app',b9,h.boxes],h.live⟩
 |live e=>exact⟨h.slots,h.boxes,λq=>by simp only[Delta.app',dY,h.live]⟩
 |app A e=>exact⟨h.slots,h.boxes,λq=>by simp only[Delta.app',dY,h.live,tA]⟩
 |st b x=>exact⟨h.slots,λc=>by simp only[Delta.app',h.boxes,gS],h.live⟩
 |calls ids css fr=>exact⟨h.slots,yS h.boxes,λq=>by cases fr<;>simp only[Delta.app',dY,h.live]⟩
theorem qQ.fJ{s s2:S} (h:qQ s s2) {U:Nat->Prop} (A:s.fJ U):s2.fJ U:=
 ⟨λt v B=>A.slots t v (by rw[<-h.slots];exact B),λb x D=>A.boxes b x (by rw[<-h.boxes];exact D),λq e L=>A.live q e (by rw[<-h.live];exact L)⟩
def H9(s:S) (v:SV) (d:Delta):Prop:=
 (d.ok o.op s/\t7 id o.op s v)/\∀s2,oe o.rd o.op.t5 o.op.isApp s s2->∀K',K' ((d.app' id s2).put o.dst v)->iW C id o K' s2
theorem JD(h:s.fJ U) (B:v.fJ U):(s.put d v).fJ U:=by
 refine⟨λt u A=>?_,λb x D=>h.boxes b x (by rwa[gR]at D),λq e L=>h.live q e (by rwa[ji]at L)⟩
 rw[o7]at A;split at A
 ·cases A;exact B
 ·exact h.slots t u A
theorem zX{U':Nat->Prop} (A:∀n,U n->U' n) (h:s.fJ U):s.fJ U':=
 ⟨λt v L=>SV.mb A (h.slots t v L),λb x D=>⟨A _ (h.boxes b x D).1,λo q B=>A _ ((h.boxes b x D).2 o q B)⟩,λq e B=>A _ (h.live q e B)⟩
theorem C8:∀{ids:List Nat} {css:List (List AV)} {l:List (Nat×cI)} {U:Nat->Prop},(∀b x,b9 b l=some x->U b/\x.fJ U)->(∀b∈ids,U b)->∀b x,b9 b (dJ ids css l)=some x->U b/\x.fJ U
 |[],css,l,U,h,D,b,x,A=>by cases css<;>exact h b x A
 |i::ids,[],l,U,h,D,b,x,A=>h b x A
 |i::ids,cs::css,l,U,h,D,b,x,A=>by
  simp only[dJ]at A
  refine C8 (λb x B=>?_) (λb A=>D b (ii _ A)) b x A
  rw[gS]at B;split at B
  ·rename_i e
   cases L:b9 i l with
   |none=>simp[L]at B
   |some y=>
    simp[L]at B;subst B
    exact⟨e▸D i (ip ..),λo q M=>by cases M⟩
  ·exact h b x B
theorem MZ{ids:List Nat}:∀{css:List (List AV)} {s:S},s.fJ U->(gp ids css s).fJ U:=by
 induction ids with
 |nil=>intro css s h;cases css<;>exact h
 |cons b ids L=>
  intro css s h
  cases css with
  |nil=>exact h
  |cons cs css=>
   refine L ⟨λt v D=>?_,λc x B=>?_,h.live⟩
   ·simp only[vV,em]at D
    obtain⟨u,M,rfl⟩:=D
    have A:=h.slots t u M
    cases u with
    |ptr c o=>
     simp only[jw,jh];split
     ·trivial
     ·exact A
    |dat a q=>exact A
    |rp cs=>exact A
    |undef=>exact A
    |vs c o n z=>
     simp only[jw];cases O:(c==b&&decide (n*z<=(cs.drop o).length))
     ·exact A
     ·trivial
    |tW _ _ _=>exact A
    |raw _ _=>exact A
    |pt _ _=>exact A
   ·simp only[mg]at B
    split at B
    ·cases B
    ·exact h.boxes c x B
theorem Qg(h:s.fJ U) {d:Delta} {id:Nat} (hd:d.fJ U):(d.app' id s).fJ (dZ U id):=by
 have B:s.fJ (dZ U id):=zX (λn hn=>.inl hn) h
 cases d with
 |no=>exact B
 |Ec ids css=>exact MZ B
 |box b=>
  refine⟨B.slots,λR x D=>?_,B.live⟩
  simp only[Delta.app',b9]at D
  by_cases L:R=id
  ·subst L
   simp at D;subst D
   exact⟨.inr rfl,λo q A=>.inl (hd o q A)⟩
  ·have M:(R==id)=false:=by simpa using L
   rw[M]at D;exact B.boxes R x D
 |live e=>
  refine⟨B.slots,B.boxes,λq O A=>?_⟩
  simp only[Delta.app',dY]at A
  by_cases L:q=id
  ·subst L;exact .inr rfl
  ·have M:(q==id)=false:=by simpa using L
   rw[M]at A;exact B.live q O A
 |app q0 e=>
  refine⟨B.slots,B.boxes,λq O A=>?_⟩
  simp only[Delta.app',dY]at A
  by_cases L:q=id
  ·subst L;exact .inr rfl
  ·have M:(q==id)=false:=by simpa using L
   rw[M,tA]at A;simp only[fb]at A;split at A
   ·cases A
   ·exact B.live q O A
 |st Z x0=>
  refine⟨B.slots,λb x D=>?_,B.live⟩
  simp only[Delta.app',gS]at D;split at D
  ·rename_i L
   cases V:b9 Z s.boxes with
   |none=>simp[V]at D
   |some y=>
    simp[V]at D;subst D
    exact⟨.inl (L▸hd.1),λo q A=>.inl (hd.2 o q A)⟩
  ·exact B.boxes b x D
 |calls ids css fr=>
  refine⟨B.slots,C8 B.boxes (λb D=>.inl (hd b D)),λq O A=>?_⟩
  cases fr with
  |none=>exact B.live q O A
  |some e=>
   simp only[Delta.app',dY,jh]at A;split at A
   ·rename_i L;subst L;exact .inr rfl
   ·exact B.live q O A
end
section
variable{C:bk} {id:Nat} {o:CO} {K:S->Prop} {s:S}
theorem CO.AF{o:CO} {t:Nat} (h:t∈o.op.rd):t∈o.rd:=by simp[CO.rd,h]
theorem eK(h:iW C id o K s):∃v d,H9 C id o s v d/\K ((d.app' id s).put o.dst v)/\∀U,s.fJ U->((d.app' id s).put o.dst v).fJ (dZ U id):=by
 have B:∀{K:S->Prop},bB C id o.op (λv R=>K (R.put o.dst v)) s->∃(v:SV) (d:Delta),(d.ok o.op s/\t7 id o.op s v)/\(∀s2,oe o.rd o.op.t5 o.op.isApp s s2->∀K':S->Prop,K' ((d.app' id s2).put o.dst v)->bB C id o.op (λv R=>K' (R.put o.dst v)) s2)/\K ((d.app' id s).put o.dst v)/\∀U,s.fJ U->((d.app' id s).put o.dst v).fJ (dZ U id):=by
  intro K h;obtain⟨v,d,hK,aa,O,ac,hs⟩:=vX h
  exact⟨v,d,⟨aa,ac⟩,λs2 A K' hk=>hs s2 (A.sub λt ht=>CO.AF ht) _ hk,hK,λU M=>JD (Qg M (O U M).2) (O U M).1⟩
 have skip:K (s.put o.dst .undef)->(∀s2,oe o.rd o.op.t5 o.op.isApp s s2->∀K',K' (s2.put o.dst .undef)->iW C id o K' s2)->∃v d,H9 C id o s v d/\K ((d.app' id s).put o.dst v)/\∀U,s.fJ U->((d.app' id s).put o.dst v).fJ (dZ U id):=by
  intro hK hs
  exact⟨.undef,.no,⟨⟨trivial,.undef⟩,hs⟩,hK,λU O=>JD (zX (λn h=>.inl h) O) trivial⟩
 unfold iW fm at h
 cases D:o.g with
 |none=>
  simp only[D]at h;obtain⟨v,d,h1,V,h3,h4⟩:=B h
  exact⟨v,d,⟨h1,λs2 A K' hk=>by unfold iW fm;simp only[D];exact V s2 A K' hk⟩,h3,h4⟩
 |some p=>
  obtain⟨t,want⟩:=p
  have ad:t∈o.rd:=by simp[CO.rd,D]
  simp only[D]at h
  cases hl:lk t s.slots with
  |none=>simp[hl]at h
  |some v=>
   have L:∀s2,oe o.rd o.op.t5 o.op.isApp s s2->lk t s2.slots=some v:=λs2 A=>by rw[A.slots t ad,hl]
   simp only[hl]at h
   cases v with
   |ptr b o=>exact h.elim
   |rp cs=>exact h.elim
   |vs _ _ _ _=>exact h.elim
   |tW _ _ _=>exact h.elim
   |raw _ _=>exact h.elim
   |pt _ _=>exact h.elim
   |undef=>exact skip h λs2 A K' hk=>by unfold iW fm;simp only[D,L s2 A];exact hk
   |dat a q=>
    cases a<;>try(exact h.elim)
    rename_i b
    by_cases Z:b=want
    ·obtain⟨v,d,h1,V,h3,h4⟩:=B (h.1 Z)
     exact⟨v,d,⟨h1,λs2 A K' hk=>by
      unfold iW fm;simp only[D,L s2 A]
      exact⟨λ_=>V s2 A K' hk,λhn=>by subst Z;cases b<;>cases hn⟩⟩,h3,h4⟩
    ·have ab:b=!want:=by cases b<;>cases want<;>simp_all
     exact skip (h.2 ab) λs2 A K' hk=>by
      unfold iW fm;simp only[D,L s2 A]
      exact⟨λe=>absurd e Z,λ_=>hk⟩
end
section
variable (d:Delta) (id:Nat) {α:Type} (s:S)
structure EB (α:Type) where
 tgt:Nat
 g:Option α->Option α
def EB.ap(e:EB α) (f:Nat->Option α):Nat->Option α:=λc=>if c=e.tgt then e.g (f c)else f c
def yT(l:List (EB α)) (f:Nat->Option α):Nat->Option α:=l.foldl (λf e=>e.ap f) f
theorem EB.comm{e A:EB α} (h:e.tgt≠A.tgt) (f:Nat->Option α):e.ap (A.ap f)=A.ap (e.ap f):=by
 funext c
 simp only[EB.ap]
 by_cases B:c=e.tgt
 ·have L:c≠A.tgt:=λD=>h (B.symm.trans D)
  simp[B]
  have:¬e.tgt=A.tgt:=h
  simp[this]
 ·simp[B]
theorem C9{α:Type} {e:EB α}:∀{l:List (EB α)} {f:Nat->Option α},(∀A∈l,e.tgt≠A.tgt)->yT l (e.ap f)=e.ap (yT l f)
 |[],f,_=>rfl
 |a::l,f,h=>by
  show yT l (a.ap (e.ap f))=e.ap (yT l (a.ap f))
  rw[<-EB.comm (h a ip)]
  exact C9 λA B=>h A (ii _ B)
theorem AG{α:Type} {A:List (EB α)}:∀{l:List (EB α)} {f:Nat->Option α},(∀e∈l,∀D∈A,e.tgt≠D.tgt)->yT l (yT A f)=yT A (yT l f)
 |[],f,_=>rfl
 |e::l,f,h=>by
  show yT l (e.ap (yT A f))=yT A (yT l (e.ap f))
  rw[<-C9 (h e ip)]
  exact AG λa B=>h a (ii _ B)
theorem oq{α:Type} {c:Nat}:∀{l:List (EB α)} {f:Nat->Option α},(∀e∈l,e.tgt≠c)->yT l f c=f c
 |[],f,_=>rfl
 |e::l,f,h=>by
  show yT l (e.ap f) c=f c
  rw[oq λa A=>h a (ii _ A)]
  exact fx (λB=>h e ip B.symm)
def wB:Delta->List Nat
 | .st b _=>[b]
 | .calls ids _ _=>ids
 | .Ec ids _=>ids
 |_=>[]
def eB:List (EB cI):=
 match d with
 | .box b=>[⟨id,λ_=>some b⟩]
 | .st b x=>[⟨b,Option.map λ_=>x⟩]
 | .calls ids css _=>(ids.zip css).map λp=>⟨p.1,Option.map λ_=>⟨p.2,[]⟩⟩
 | .Ec ids css=>(ids.zip css).map λp=>⟨p.1,λ_=>none⟩
 |_=>[]
def eL:List (EB Nat):=
 match d with
 | .live e=>[⟨id,λ_=>some e⟩]
 | .app q e=>[⟨q,λ_=>none⟩,⟨id,λ_=>some e⟩]
 | .calls _ _ (some e)=>[⟨id,λ_=>some e⟩]
 |_=>[]
def fz:SV->SV:=
 match d with
 | .Ec ids css=>λv=>(ids.zip css).foldl (λv p=>jw p.1 p.2 v) v
 |_=>λv=>v
theorem Da:∀{ids:List Nat} {css:List (List AV)} {l:List (Nat×cI)},(λb=>b9 b (dJ ids css l))=yT ((ids.zip css).map λp=>(⟨p.1,Option.map λ_=>⟨p.2,[]⟩⟩:EB cI)) (λb=>b9 b l)
 |[],css,l=>by cases css<;>rfl
 |i::ids,[],l=>rfl
 |i::ids,cs::css,l=>by
  show(λb=>b9 b (dJ ids css (nK i ⟨cs,[]⟩ l)))=_
  rw[Da (ids:=ids) (css:=css)]
  refine pb (yT _) (funext λb=>?_)
  rw[gS]
  show _=if b=i then _ else _
  split
  ·rename_i e;subst e;rfl
  ·rfl
theorem FL:∀{ids:List Nat} {css:List (List AV)} {s:S},(λb=>b9 b (gp ids css s).boxes)=yT ((ids.zip css).map λp=>(⟨p.1,λ_=>none⟩:EB cI)) (λb=>b9 b s.boxes)
 |[],css,s=>by cases css<;>rfl
 |i::ids,[],s=>rfl
 |i::ids,cs::css,s=>by
  show(λb=>b9 b (gp ids css {s with slots:=Aw i cs s.slots,boxes:=kS i s.boxes}).boxes)=_
  rw[FL (ids:=ids) (css:=css)]
  refine pb (yT _) (funext λb=>?_)
  rw[mg];rfl
theorem AH:∀{ids:List Nat} {css:List (List AV)} {s:S} (t:Nat),lk t (gp ids css s).slots=(lk t s.slots).map λv=>(ids.zip css).foldl (λv p=>jw p.1 p.2 v) v
 |[],css,s,t=>by cases css<;>simp[gp]
 |i::ids,[],s,t=>by simp[gp]
 |i::ids,cs::css,s,t=>by
  show lk t (gp ids css {s with slots:=Aw i cs s.slots,boxes:=kS i s.boxes}).slots=_
  rw[AH (ids:=ids) (css:=css) t,vV,Option.map_map]
  rfl
theorem uS:(λb=>b9 b (d.app' id s).boxes)=yT (eB d id) (λb=>b9 b s.boxes):=by
 cases d with
 |box b=>funext c;simp only[Delta.app',b9,jh];show _=if c=id then _ else _;rfl
 |st b x=>
  funext c;simp only[Delta.app',gS]
  show _=if c=b then _ else _
  split
  ·rename_i e;subst e;rfl
  ·rfl
 |calls ids css fr=>exact Da
 |Ec ids css=>exact FL
 |_=>rfl
theorem xY:(λb=>dY b (d.app' id s).live)=yT (eL d id) (λb=>dY b s.live):=by
 cases d with
 |live e=>funext c;simp only[Delta.app',dY,jh];rfl
 |app q e=>funext c;simp only[Delta.app',dY,jh,tA];show _=if c=id then _ else if c=q then _ else _;rfl
 |calls ids css fr=>cases fr with
  |none=>rfl
  |some e=>funext c;simp only[Delta.app',dY,jh];rfl
 |Ec ids css=>simp only[Delta.app',C7];rfl
 |_=>rfl
theorem o8(t:Nat):lk t (d.app' id s).slots=(lk t s.slots).map (fz d):=by
 cases d with
 |Ec ids css=>exact AH t
 |_=>simp[Delta.app',fz]
end
section
variable {C:bk} {U:Nat->Prop} {d:Delta} {id:Nat} {o:bE} {s:S} {t:Nat} {v:SV} {x y:CO}
theorem Ed{e:EB cI} (h:e∈eB d id):e.tgt=id\/e.tgt∈wB d:=by
 cases d with
 |box b=>simp[eB]at h;subst h;exact .inl rfl
 |st b x=>simp[eB]at h;subst h;exact .inr (by simp[wB])
 |calls ids css fr=>
  simp only[eB,kp]at h
  obtain⟨p,hm,rfl⟩:=h;exact .inr (List.of_mem_zip hm).1
 |Ec ids css=>
  simp only[eB,kp]at h
  obtain⟨p,hm,rfl⟩:=h;exact .inr (List.of_mem_zip hm).1
 |_=>simp[eB]at h
def SV.fix(v:SV):Prop:=(∀b cs,jw b cs v=v)/\∀b,¬v.has b
theorem ot{v:SV} (h:∀b cs,jw b cs v=v):∀{l:List (Nat×List AV)},l.foldl (λv p=>jw p.1 p.2 v) v=v
 |[]=>rfl
 |p::l=>by rw[ns,h,ot h]
theorem AI:∀{l:List (Nat×List AV)} {v:SV},l.foldl (λv p=>jw p.1 p.2 v) v=v\/∃b B,v.has b/\(∀A,v.has A->A=b)/\b∈l.map (·.1)/\l.foldl (λv p=>jw p.1 p.2 v) v=B/\B.fix
 |[],v=>.inl rfl
 |p::l,v=>by
  simp only[ns]
  cases v with
  |ptr b o=>
   by_cases e:b=p.1
   ·have:jw p.1 p.2 (.ptr b o)=.rp (p.2.drop o):=by simp[jw,e]
    rw[this]
    have D:(SV.rp (p.2.drop o)).fix:=⟨λ_ _=>rfl,λ_ h=>h⟩
    exact .inr ⟨b,_,rfl,λA h=>Eq.symm h,by simp[e],ot D.1,D⟩
   ·have:jw p.1 p.2 (.ptr b o)=.ptr b o:=by
     have R:(b==p.1)=false:=by simpa using e
     simp[jw,R]
    rw[this]
    rcases AI (l:=l) (v:=.ptr b o)with h|⟨A,B,h,M,hm,L,O⟩
    ·exact .inl h
    ·exact .inr ⟨A,B,h,M,ii _ hm,L,O⟩
  |vs b o n z=>
   by_cases e:(b==p.1&&decide (n*z<=(p.2.drop o).length))=true
   ·have:jw p.1 p.2 (.vs b o n z)=.dat (.sl (cq z n (p.2.drop o))) none:=by simp only[jw,e,gs]
    rw[this]
    have D:(SV.dat (.sl (cq z n (p.2.drop o))) none).fix:=⟨λ_ _=>rfl,λ_ h=>h⟩
    simp only[dT,lc]at e
    exact .inr ⟨b,_,rfl,λA h=>Eq.symm h,by simp[e.1],ot D.1,D⟩
   ·have:jw p.1 p.2 (.vs b o n z)=.vs b o n z:=by simp only[jw,EQ.2 e,fb]
    rw[this]
    rcases AI (l:=l) (v:=.vs b o n z)with h|⟨A,B,h,M,hm,L,O⟩
    ·exact .inl h
    ·exact .inr ⟨A,B,h,M,ii _ hm,L,O⟩
  |pt k ps=>exact .inl (ot (λ_ _=>rfl))
  |_=>exact .inl (ot (λ_ _=>rfl))
theorem kn(d:Delta) (v:SV):fz d v=v\/∃b A,v.has b/\(∀B,v.has B->B=b)/\b∈wB d/\fz d v=A/\A.fix/\∃ids css,d=.Ec ids css:=by
 cases d with
 |Ec ids css=>
  rcases AI (l:=ids.zip css) (v:=v)with h|⟨b,A,O,R,L,V,M⟩
  ·exact .inl h
  ·refine .inr ⟨b,A,O,R,?_,V,M,ids,css,rfl⟩
   obtain⟨p,D,rfl⟩:=kp.1 L;exact(List.of_mem_zip D).1
 |_=>exact .inl rfl
theorem M0(d:Delta) (h:v.fix):fz d v=v:=by
 cases d with
 |Ec ids css=>exact ot h.1
 |_=>rfl
theorem Qh{B A:Delta} (hd:∀b∈wB B,b∉wB A) (v:SV):fz A (fz B v)=fz B (fz A v):=by
 rcases kn B v with h|⟨b,v',hb,hu,V,h,Z,_⟩
 ·rw[h]
  rcases kn A v with k|⟨O,u',L,M,D,k,R,_⟩
  ·rw[k,h]
  ·rw[k,M0 B R]
 ·rcases kn A v with k|⟨O,u',L,M,D,k,R,_⟩
  ·rw[k,h,M0 A Z]
  ·exact absurd D (hu O L▸hd b V)
def Ud:Delta->Bool
 | .Ec _ _=>true
 |_=>false
theorem M1{o:CO} (h:H9 C id o s v d):∀b∈wB d,∃t∈o.op.Jr,Fq b s t:=by
 intro b A
 have h:=h.1.1
 cases d<;>simp[wB]at A
 ·subst A;exact h.2
 ·exact h.2 b A
 ·exact h.2 b A
theorem zY{o:CO} (h:H9 C id o s v d) (A:Ud d=true):o.op.yL=true:=by
 have h:=h.1.1
 cases d<;>first|(cases A;done)|exact h.1
theorem JE(h:t∈o.Jr):t∈o.t5:=by cases o<;>first|exact h|(simp[bE.Jr]at h;done)
theorem M3(h:t∈o.t5):t∈o.rd:=by cases o<;>simp[bE.t5]at h<;>simp[bE.rd,h]
theorem xZ(h:t∈o.rj):t∈o.rd:=by
 cases o<;>simp[bE.rj]at h<;>first|(simp[bE.rd,h];done)|(rcases h with h|h<;>simp[bE.rd,h])
def Clear(x y:CO) (s:S):Prop:=∀b,(∃t∈x.op.Jr,Fq b s t)->
 (∀t∈y.op.t5,¬Fq b s t)/\(x.op.yL=true->∀t∈y.rd,¬Fq b s t)
theorem SV.Db{b:Nat} (h:v.has b) (A:v.fJ U):U b:=by
 cases v<;>try(exact h.elim)
 ·have h:_=b:=h
  subst h;exact A
 ·have h:_=b:=h
  subst h;exact A
 ·obtain⟨p,B,rfl⟩:=h;exact A p B
theorem Ia(h:x.indep y=true):(∀d,x.dst=some d->d∉y.rd/\y.dst≠some d)/\(∀d,y.dst=some d->d∉x.rd)/\(x.op.isApp=true->y.op.isApp=false):=by
 unfold CO.indep at h;simp only[dT,pA]at h;obtain⟨⟨A,D⟩,B⟩:=h
 refine⟨λd hd=>?_,λd hd=>?_,λL=>?_⟩
 ·rw[hd]at A
  simp at A;exact⟨A.1,A.2⟩
 ·rw[hd]at D
  simpa using D
 ·rw[L]at B
  simpa using B
theorem Qi(a2:x.indep y=true) (hU:s.fJ U) {i j:Nat} (hi:¬U i) (hj:¬U j) (an:i≠j) (cx:Clear x y s) (cy:Clear y x s) {Z vy:SV} {O M:Delta} (hx:H9 C i x s Z O) (hy:H9 C j y ((O.app' i s).put x.dst Z) vy M):
  oe y.rd y.op.t5 y.op.isApp ((O.app' i s).put x.dst Z) s/\oe x.rd x.op.t5 x.op.isApp s ((M.app' j s).put y.dst vy)/\
   qQ ((M.app' j ((O.app' i s).put x.dst Z)).put y.dst vy) ((O.app' i ((M.app' j s).put y.dst vy)).put x.dst Z):=by
 obtain⟨h1,h2,h5⟩:=Ia a2
 have wx:=M1 hx
 have al:∀b∈wB O,U b:=λb D=>by obtain⟨t,_,v,L,B⟩:=wx b D;exact SV.Db B (hU.slots t _ L)
 -- what y looks at
 have sy:∀t∈y.rd,lk t ((O.app' i s).put x.dst Z).slots=lk t s.slots:=λt ht=>by
  rw[o7,fx (λe=>(h1 t e).1 ht),o8]
  cases L:lk t s.slots with
  |none=>rfl
  |some v=>
   simp only[mi]
   rcases kn O v with h|⟨b,v',V,_,D,h,_,ids,css,hd⟩
   ·rw[h]
   ·exact absurd (⟨v,L,V⟩:Fq b s t) ((cx b (wx b D)).2 (zY hx (by rw[hd];rfl)) t ht)
 have wy:∀b∈wB M,∃t∈y.op.Jr,Fq b s t:=λb D=>by
  obtain⟨t,ht,v,L,B⟩:=M1 hy b D;rw[sy t (CO.AF (M3 (JE ht)))]at L;exact⟨t,ht,v,L,B⟩
 have ar:∀b∈wB M,U b:=λb D=>by obtain⟨t,_,v,L,B⟩:=wy b D;exact SV.Db B (hU.slots t _ L)
 have ad:∀b∈wB O,b∉wB M:=λb D a4=>by
  obtain⟨t,ht,L⟩:=wy b a4;exact(cx b (wx b D)).1 t (JE ht) L
 have sx:∀t∈x.rd,lk t ((M.app' j s).put y.dst vy).slots=lk t s.slots:=λt ht=>by
  rw[o7,fx (λe=>h2 t e ht),o8]
  cases L:lk t s.slots with
  |none=>rfl
  |some v=>
   simp only[mi]
   rcases kn M v with h|⟨b,v',V,_,D,h,_,ids,css,hd⟩
   ·rw[h]
   ·exact absurd (⟨v,L,V⟩:Fq b s t) ((cy b (wy b D)).2 (zY hy (by rw[hd];rfl)) t ht)
 -- tokens
 have tx:∀q0 e,O=.app q0 e->U q0/\x.op.isApp=true:=λq0 e hd=>by
  have:=hx.1.1;rw[hd]at this
  obtain⟨h,t,ht,a,L⟩:=this;exact⟨hU.slots t _ L,h⟩
 have ty:∀q0 e,M=.app q0 e->U q0/\y.op.isApp=true:=λq0 e hd=>by
  have:=hy.1.1;rw[hd]at this
  obtain⟨h,t,ht,a,L⟩:=this;rw[sy t (CO.AF ht)]at L;exact⟨hU.slots t _ L,h⟩
 have lx:∀e∈eL O i,e.tgt=i\/(U e.tgt/\x.op.isApp=true):=λe A=>by
  cases am:O<;>rw[am]at A<;>simp[eL]at A
  ·subst A;exact .inl rfl
  ·rcases A with rfl|rfl
   ·exact .inr (tx _ _ am)
   ·exact .inl rfl
  ·rename_i fr;cases fr<;>simp at A;subst A;exact .inl rfl
 have ly:∀e∈eL M j,e.tgt=j\/(U e.tgt/\y.op.isApp=true):=λe A=>by
  cases ao:M<;>rw[ao]at A<;>simp[eL]at A
  ·subst A;exact .inl rfl
  ·rcases A with rfl|rfl
   ·exact .inr (ty _ _ ao)
   ·exact .inl rfl
  ·rename_i fr;cases fr<;>simp at A;subst A;exact .inl rfl
 have ac:∀(d:Delta) (id:Nat) (s:S) (b:Nat),b9 b (d.app' id s).boxes=yT (eB d id) (λb=>b9 b s.boxes) b:=λd id s b=>congrFun (uS d id s) b
 have ab:∀(d:Delta) (id:Nat) (s:S) (b:Nat),dY b (d.app' id s).live=yT (eL d id) (λb=>dY b s.live) b:=λd id s b=>congrFun (xY d id s) b
 refine⟨⟨λt ht=>(sy t ht).symm,λt ht b z B D=>?_,λaa t ht a q e B hq=>?_⟩,⟨sx,λt ht b z B D=>?_,λaa t ht a q e B hq=>?_⟩,?_⟩
 ·obtain⟨v,B,V⟩:=B
  rw[sy t (CO.AF (M3 ht))]at B
  have ag:U b:=SV.Db V (hU.slots t _ B)
  rw[gR,ac,oq]at D
  ·exact D
  ·intro e A R
   rcases Ed A with h|h
   ·exact hi (by rw[<-h,R];exact ag)
   ·exact(cx _ (wx _ h)).1 t ht (by rw[R];exact⟨v,B,V⟩)
 ·rw[sy t ht]at B
  have ak:U q:=hU.slots t _ B
  rw[ji,ab,oq]at hq
  ·exact hq
  ·intro e A R
   rcases lx e A with h|⟨_,h⟩
   ·exact hi (by rw[<-h,R];exact ak)
   ·have:=h5 h;rw[aa]at this;cases this
 ·have ag:U b:=let ⟨_,h1,h2⟩:=B;SV.Db h2 (hU.slots t _ h1)
  rw[gR,ac,oq]
  ·exact D
  ·intro e A R
   rcases Ed A with h|h
   ·exact hj (by rw[<-h,R];exact ag)
   ·exact(cy _ (wy _ h)).1 t ht (by rw[R];exact B)
 ·have ak:U q:=hU.slots t _ B
  rw[ji,ab,oq]
  ·exact hq
  ·intro e A R
   rcases ly e A with h|⟨_,h⟩
   ·exact hj (by rw[<-h,R];exact ak)
   ·have:=h5 aa;rw[h]at this;cases this
 ·have au:fz M Z=Z:=by
   rcases kn M Z with h|⟨b,v',B,_,D,h,_,ids,css,hd⟩
   ·exact h
   ·exfalso
    rcases hx.1.2 b B with⟨rfl,_⟩|⟨t,ht,L⟩
    ·exact hi (ar _ D)
    ·exact(cy b (wy b D)).2 (zY hy (by rw[hd];rfl)) t (CO.AF (xZ ht)) L
  have a3:fz O vy=vy:=by
   rcases kn O vy with h|⟨b,v',B,_,D,h,_,ids,css,hd⟩
   ·exact h
   ·exfalso
    rcases hy.1.2 b B with⟨rfl,_⟩|⟨t,ht,u,L,hu⟩
    ·exact hj (al _ D)
    ·rw[sy t (CO.AF (xZ ht))]at L
     exact(cx b (wx b D)).2 (zY hx (by rw[hd];rfl)) t (CO.AF (xZ ht)) ⟨u,L,hu⟩
  refine⟨λt=>?_,λb=>?_,λq=>?_⟩
  ·simp only[o7,o8]
   by_cases ex:x.dst=some t
   ·have ey:y.dst≠some t:=(h1 t ex).2
    simp[ex,ey,au]
   ·by_cases ey:y.dst=some t
    ·simp[ex,ey,a3]
    ·simp only[ex,ey,ik,Option.map_map]
     congr 1
     funext v
     exact(Qh ad v).symm
  ·rw[gR,gR,ac,ac]
   have e1:(λb=>b9 b ((O.app' i s).put x.dst Z).boxes)=yT (eB O i) (λb=>b9 b s.boxes):=by rw[gR];exact uS O i s
   have e2:(λb=>b9 b ((M.app' j s).put y.dst vy).boxes)=yT (eB M j) (λb=>b9 b s.boxes):=by rw[gR];exact uS M j s
   rw[e1,e2]
   refine congrFun (AG (λe A e' ae h=>?_)) b
   rcases Ed A with k|k<;>rcases Ed ae with k'|k'
   ·exact an (by rw[<-k,<-k',h])
   ·exact hi (ar i (by rw[<-k,h];exact k'))
   ·exact hj (al j (by rw[<-k',<-h];exact k))
   ·exact ad _ k (by rw[h];exact k')
  ·rw[ji,ji,ab,ab]
   have e1:(λb=>dY b ((O.app' i s).put x.dst Z).live)=yT (eL O i) (λb=>dY b s.live):=by rw[ji];exact xY O i s
   have e2:(λb=>dY b ((M.app' j s).put y.dst vy).live)=yT (eL M j) (λb=>dY b s.live):=by rw[ji];exact xY M j s
   rw[e1,e2]
   refine congrFun (AG (λe A e' ae h=>?_)) q
   rcases lx e A with k|⟨k,kk⟩<;>rcases ly e' ae with k'|⟨k',kk'⟩
   ·exact an (by rw[<-k,<-k',h])
   ·exact hi (by rw[<-k,h];exact k')
   ·exact hj (by rw[<-k',<-h];exact k)
   ·have:=h5 kk;rw[kk']at this;cases this
end
end Go.Eng
