/- The engine and the library,part 5 of 18: what the proofs of this seat need of them. -/
import Derived.Test.YtkckiembbiiliaaGreatPk4
set_option linter.unnecessarySimpa false
set_option linter.unusedSimpArgs false
set_option linter.unusedVariables false
set_option linter.defProp false
set_option maxRecDepth 10000
set_option maxHeartbeats 4000000
namespace Go.Eng
open Go
def SV.has(b:Nat):SV->Prop
 | .ptr b' _=>b'=b
 | .vs b' _ _ _=>b'=b
 | .pt _ ps=>∃p∈ps,p.1=b
 |_=>False
def Br(b:Nat) (s:S) (t:Nat):Prop:=∃v,lk t s.slots=some v/\v.has b
theorem Br.ptr{b off:Nat} {s:S} {t:Nat} (h:lk t s.slots=some (.ptr b off)):Br b s t:=⟨_,h,rfl⟩
structure nG (l lb:List Nat) (ap:Bool) (s s2:S):Prop where
 slots:∀t∈l,lk t s2.slots=lk t s.slots
 boxes:∀t∈lb,∀b x,Br b s t->bY b s.boxes=some x->bY b s2.boxes=some x
 live:ap=true->∀t∈l,∀a q e,lk t s.slots=some (.dat a (some q))->dU q s.live=some e->dU q s2.live=some e
section
variable{l lb:List Nat} {ap:Bool} {s s2:S}
theorem nG.sub(h:nG l lb ap s s2) {l':List Nat} (hs:∀t∈l',t∈l):nG l' lb ap s s2:=
 ⟨fun t ht=>h.slots t (hs t ht),h.boxes,fun e t ht=>h.live e t (hs t ht)⟩
theorem nG.bC(h:nG l lb ap s s2) {x:bl} (hx:∀t∈x.rd,t∈l) {v:SV} (hv:Eng.bC s x=some v):Eng.bC s2 x=some v:=by
 cases x with
 |t n=>simp only[Eng.bC]at hv⊢;rw[h.slots n (hx n (by simp[bl.rd])),hv]
 |k v=>exact hv
theorem nG.aM(h:nG l lb ap s s2) {x:bl} (hx:∀t∈x.rd,t∈l) {v:AV} (hv:Eng.aM s x=some v):Eng.aM s2 x=some v:=by
 unfold Eng.aM at hv⊢
 cases ho:Eng.bC s x with
 |none=>rw[ho]at hv;cases hv
 |some u=>rw[h.bC hx ho];rw[ho]at hv;exact hv
theorem nG.cQ(h:nG l lb ap s s2):∀{xs:List bl} (hx:∀t∈aW xs,t∈l) {vs:List AV} (hv:Eng.cQ s xs=some vs),Eng.cQ s2 xs=some vs
 |[],_,vs,hv=>hv
 |x::xs,hx,vs,hv=>by
  simp only[Eng.cQ]at hv⊢
  cases h1:Eng.aM s x with
  |none=>simp[h1]at hv
  |some a=>
   cases h2:Eng.cQ s xs with
   |none=>simp[h1,h2]at hv
   |some as=>
    rw[h.aM (fun t ht=>hx t (by simp[aW,ht])) h1,h.cQ (fun t ht=>hx t (by simp[aW,ht])) h2]
    simpa[h1,h2]using hv
theorem nG.iR(h:nG l lb ap s s2):∀{xs:List (Nat×Nat×bl)} (hx:∀t∈tE xs,t∈l) {vs:List (Nat×List AV)} (hv:Eng.iR s xs=some vs),Eng.iR s2 xs=some vs
 |[],_,vs,hv=>hv
 |(o,z,x)::xs,hx,vs,hv=>by
  simp only[Eng.iR]at hv⊢
  cases h1:Eng.aM s x with
  |none=>simp[h1]at hv
  |some a=>
   cases h2:Eng.iR s xs with
   |none=>simp[h1,h2]at hv
   |some as=>
    rw[h.aM (fun t ht=>hx t (by simp[tE,ht])) h1,h.iR (fun t ht=>hx t (by simp[tE,ht])) h2]
    simpa only[h1,h2]using hv
theorem nG.lf(h:nG l lb ap s s2) {z:Nat}:∀{xs:List bl} (hx:∀t∈aW xs,t∈l) {vs:List (List AV)} (hv:Eng.lf s z xs=some vs),Eng.lf s2 z xs=some vs
 |[],_,vs,hv=>hv
 |x::xs,hx,vs,hv=>by
  simp only[Eng.lf]at hv⊢
  cases h1:Eng.aM s x with
  |none=>simp[h1]at hv
  |some a=>
   cases h2:Eng.lf s z xs with
   |none=>simp[h1,h2]at hv
   |some as=>
    rw[h.aM (fun t ht=>hx t (by simp[aW,ht])) h1,h.lf (fun t ht=>hx t (by simp[aW,ht])) h2]
    simpa only[h1,h2]using hv
theorem nG.wX(h:nG l lb ap s s2) {x:Option bl} (hx:∀t∈DY x,t∈l) {i:Int} (hv:Eng.wX s x=some i):Eng.wX s2 x=some i:=by
 cases x with
 |none=>exact hv
 |some x=>
  simp only[Eng.wX]at hv⊢
  cases h1:Eng.aM s x with
  |none=>simp[h1,Eng.uD]at hv
  |some a=>rw[h.aM hx h1];rw[h1]at hv;exact hv
theorem nG.wY(h:nG l lb ap s s2) {xs:List (List AV)} {x:Option bl} (hx:∀t∈DY x,t∈l) {i:Int} (hv:Eng.wY s xs x=some i):Eng.wY s2 xs x=some i:=by
 cases x with
 |none=>exact hv
 |some x=>
  simp only[Eng.wY]at hv⊢
  cases h1:Eng.aM s x with
  |none=>simp[h1,Eng.uD]at hv
  |some a=>rw[h.aM hx h1];rw[h1]at hv;exact hv
theorem nG.aT(h:nG l lb ap s s2) {hh:Bool}:∀{xs:List bl} (hx:∀t∈aW xs,t∈l) (hx':∀t∈aW xs,t∈lb) {p:List (Option AV)×List Nat} (hv:Eng.cI hh s xs=some p) {css:List (List AV)} (hc:Eng.aT s.boxes p.2=some css),Eng.cI hh s2 xs=some p/\Eng.aT s2.boxes p.2=some css
 |[],_,_,p,hv,css,hc=>by
  simp only[Eng.cI,Option.some.injEq]at hv⊢;subst hv;exact⟨rfl,hc⟩
 |x::xs,hx,hx',p,hv,css,hc=>by
  simp only[Eng.cI]at hv⊢
  split at hv<;>try(cases hv;done)
  ·rename_i a q as bs h1 h2
   cases hv
   obtain⟨i1,i2⟩:=h.aT (fun t ht=>hx t (by simp[aW,ht])) (fun t ht=>hx' t (by simp[aW,ht])) h2 hc
   rw[h.bC (fun t ht=>hx t (by simp[aW,ht])) h1,i1]
   exact⟨rfl,i2⟩
  ·rename_i cs as bs h1 h2
   cases hv
   obtain⟨i1,i2⟩:=h.aT (fun t ht=>hx t (by simp[aW,ht])) (fun t ht=>hx' t (by simp[aW,ht])) h2 hc
   rw[h.bC (fun t ht=>hx t (by simp[aW,ht])) h1,i1]
   exact⟨rfl,i2⟩
  ·rename_i b as bs h1 h2
   cases hv;simp only[Eng.aT]at hc
   split at hc<;>try(cases hc;done)
   rename_i y css' hy hcs;cases hc
   obtain⟨i1,i2⟩:=h.aT (fun t ht=>hx t (by simp[aW,ht])) (fun t ht=>hx' t (by simp[aW,ht])) h2 hcs
   rw[h.bC (fun t ht=>hx t (by simp[aW,ht])) h1,i1]
   refine⟨rfl,?_⟩
   have hyb:Eng.bY b s2.boxes=some y:=by
    cases x with
    |t n=>exact h.boxes n (hx' n (by simp[aW,bl.rd])) b y (.ptr h1) hy
    |k v=>simp[Eng.bC]at h1
   simp only[Eng.aT,hyb,i2]
  ·rename_i b as bs h1 h2
   cases hh<;>cases hv
   simp only[Eng.aT]at hc
   split at hc<;>try(cases hc;done)
   rename_i y css' hy hcs;cases hc
   obtain⟨i1,i2⟩:=h.aT (fun t ht=>hx t (by simp[aW,ht])) (fun t ht=>hx' t (by simp[aW,ht])) h2 hcs
   rw[h.bC (fun t ht=>hx t (by simp[aW,ht])) h1,i1]
   refine⟨rfl,?_⟩
   have hyb:Eng.bY b s2.boxes=some y:=by
    cases x with
    |t n=>exact h.boxes n (hx' n (by simp[aW,bl.rd])) b y ⟨_,h1,(b,0),by simp,rfl⟩ hy
    |k v=>simp[Eng.bC]at h1
   simp only[Eng.aT,hyb,i2]
theorem nG.dA(h:nG l lb ap s s2) {hh:Bool}:∀{xs:List bl} (hx:∀t∈aW xs,t∈l) (hx':∀t∈aW xs,t∈lb) {p:List (Option AV)×List Nat} (hv:Eng.cI hh s xs=some p) {css:List (List AV)} (hc:Eng.dA s.boxes p.2=some css),Eng.cI hh s2 xs=some p/\Eng.dA s2.boxes p.2=some css
 |[],_,_,p,hv,css,hc=>by
  simp only[Eng.cI,Option.some.injEq]at hv⊢;subst hv;exact⟨rfl,hc⟩
 |x::xs,hx,hx',p,hv,css,hc=>by
  simp only[Eng.cI]at hv⊢
  split at hv<;>try(cases hv;done)
  ·rename_i a q as bs h1 h2
   cases hv
   obtain⟨i1,i2⟩:=h.dA (fun t ht=>hx t (by simp[aW,ht])) (fun t ht=>hx' t (by simp[aW,ht])) h2 hc
   rw[h.bC (fun t ht=>hx t (by simp[aW,ht])) h1,i1]
   exact⟨rfl,i2⟩
  ·rename_i cs as bs h1 h2
   cases hv
   obtain⟨i1,i2⟩:=h.dA (fun t ht=>hx t (by simp[aW,ht])) (fun t ht=>hx' t (by simp[aW,ht])) h2 hc
   rw[h.bC (fun t ht=>hx t (by simp[aW,ht])) h1,i1]
   exact⟨rfl,i2⟩
  ·rename_i b as bs h1 h2
   cases hv;simp only[Eng.dA]at hc
   split at hc<;>try(cases hc;done)
   rename_i cs css' hy hcs;cases hc
   obtain⟨i1,i2⟩:=h.dA (fun t ht=>hx t (by simp[aW,ht])) (fun t ht=>hx' t (by simp[aW,ht])) h2 hcs
   rw[h.bC (fun t ht=>hx t (by simp[aW,ht])) h1,i1]
   refine⟨rfl,?_⟩
   have hyb:Eng.bY b s2.boxes=some ⟨cs,[]⟩:=by
    cases x with
    |t n=>exact h.boxes n (hx' n (by simp[aW,bl.rd])) b _ (.ptr h1) hy
    |k v=>simp[Eng.bC]at h1
   simp only[Eng.dA,hyb,i2]
  ·rename_i b as bs h1 h2
   cases hh<;>cases hv
   simp only[Eng.dA]at hc
   split at hc<;>try(cases hc;done)
   rename_i cs css' hy hcs;cases hc
   obtain⟨i1,i2⟩:=h.dA (fun t ht=>hx t (by simp[aW,ht])) (fun t ht=>hx' t (by simp[aW,ht])) h2 hcs
   rw[h.bC (fun t ht=>hx t (by simp[aW,ht])) h1,i1]
   refine⟨rfl,?_⟩
   have hyb:Eng.bY b s2.boxes=some ⟨cs,[]⟩:=by
    cases x with
    |t n=>exact h.boxes n (hx' n (by simp[aW,bl.rd])) b _ ⟨_,h1,(b,0),by simp,rfl⟩ hy
    |k v=>simp[Eng.bC]at h1
   simp only[Eng.dA,hyb,i2]
theorem nG.bY(h:nG l lb ap s s2) {x:bl} (hx:∀t∈x.rd,t∈lb) {b off:Nat} {bx:bO} (hv:Eng.bC s x=some (.ptr b off)) (hb:Eng.bY b s.boxes=some bx):Eng.bY b s2.boxes=some bx:=by
 cases x with
 |t n=>exact h.boxes n (hx n (by simp[bl.rd])) b bx (.ptr hv) hb
 |k v=>simp[Eng.bC]at hv
end
inductive Delta where
 |no
 |box (b:bO)
 |live (e:Nat)
 |app (q e:Nat)
 |st (b:Nat) (x:bO)
 |calls (ids:List Nat) (css:List (List AV)) (fr:Option Nat)
 |Ay (ids:List Nat) (css:List (List AV))
def Delta.app'(d:Delta) (id:Nat) (s:S):S:=
 match d with
 | .no=>s
 | .box b=>{s with boxes:=(id,b)::s.boxes}
 | .live e=>{s with live:=(id,e)::s.live}
 | .app q e=>{s with live:=(id,e)::lG q s.live}
 | .st b x=>{s with boxes:=nq b x s.boxes}
 | .calls ids css fr=>{s with boxes:=cH ids css s.boxes,live:=match fr with|some e=>(id,e)::s.live|none=>s.live}
 | .Ay ids css=>gO ids css s
def Delta.ok(d:Delta) (o:bH) (s:S):Prop:=
 match d with
 | .st b _=>o.vn=false/\∃t∈o.DZ,Br b s t
 | .calls ids _ _=>o.vn=false/\∀b∈ids,∃t∈o.DZ,Br b s t
 | .Ay ids _=>o.vn=true/\∀b∈ids,∃t∈o.DZ,Br b s t
 | .app q _=>o.isApp=true/\∃t∈o.rd,∃a,lk t s.slots=some (.dat a (some q))
 |_=>True
def bO.fo(U:Nat->Prop) (x:bO):Prop:=∀o q,dU o x.tags=some q->U q
def Delta.fo(U:Nat->Prop) (d:Delta):Prop:=
 match d with
 | .box b=>b.fo U
 | .app q _=>U q
 | .st b x=>U b/\x.fo U
 | .calls ids _ _=>∀b∈ids,U b
 |_=>True
structure S.fo (U:Nat->Prop) (s:S):Prop where
 slots:∀t v,lk t s.slots=some v->v.fo U
 boxes:∀b x,bY b s.boxes=some x->U b/\x.fo U
 live:∀q e,dU q s.live=some e->U q
theorem S.fo.bC{U:Nat->Prop} {s:S} (h:s.fo U) {x:bl} {v:SV} (hv:Eng.bC s x=some v):v.fo U:=by
 cases x with
 |t n=>exact h.slots n v hv
 |k a=>simp only[Eng.bC,Option.some.injEq]at hv;subst hv;trivial
theorem qZ{s:S} {x:bl} {b off:Nat} (h:bC s x=some (.ptr b off)):∃t∈x.rd,Br b s t:=by
 cases x with
 |t n=>exact⟨n,by simp[bl.rd],.ptr h⟩
 |k v=>simp[bC]at h
theorem gV{s:S} {hh:Bool}:∀{xs:List bl} {p:List (Option AV)×List Nat},cI hh s xs=some p->∀b∈p.2,∃t∈aW xs,Br b s t
 |[],p,h,b,hb=>by simp[cI]at h;subst h;cases hb
 |x::xs,p,h,b,hb=>by
  unfold cI at h;split at h
  ·rename_i h1 h2
   cases h;obtain⟨t,ht,hl⟩:=gV h2 b hb
   exact⟨t,by simp[aW,ht],hl⟩
  ·rename_i h1 h2
   cases h;obtain⟨t,ht,hl⟩:=gV h2 b hb
   exact⟨t,by simp[aW,ht],hl⟩
  ·rename_i h1 h2
   cases h
   rcases List.mem_cons.1 hb with rfl|hb
   ·obtain⟨t,ht,hl⟩:=qZ h1
    exact⟨t,by simp[aW,ht],hl⟩
   ·obtain⟨t,ht,hl⟩:=gV h2 b hb
    exact⟨t,by simp[aW,ht],hl⟩
  ·rename_i h1 h2
   cases hh<;>cases h
   rcases List.mem_cons.1 hb with rfl|hb
   ·cases x with
    |t n=>exact⟨n,by simp[aW,bl.rd],_,h1,(b,0),by simp,rfl⟩
    |k v=>simp[bC]at h1
   ·obtain⟨t,ht,hl⟩:=gV h2 b hb
    exact⟨t,by simp[aW,ht],hl⟩
  ·cases h
def rT(id:Nat) (o:bH) (s:S) (v:SV):Prop:=∀b,v.has b->(b=id/\o.Gy=true)\/∃t∈o.pK,Br b s t
theorem rT.dat{id:Nat} {o:bH} {s:S} {a:AV} {q:Option Nat}:rT id o s (.dat a q):=fun _ h=>h.elim
theorem rT.undef{id:Nat} {o:bH} {s:S}:rT id o s .undef:=fun _ h=>h.elim
theorem rT.rp{id:Nat} {o:bH} {s:S} {cs:List AV}:rT id o s (.rp cs):=fun _ h=>h.elim
theorem lI{s:S} {x:bl} {v:SV} {b:Nat} (h:bC s x=some v) (hb:v.has b):∃t∈x.rd,Br b s t:=by
 cases x with
 |t n=>exact⟨n,by simp[bl.rd],_,h,hb⟩
 |k a=>simp only[bC,Option.some.injEq]at h;subst h;exact hb.elim
def Path(C:bt) (id:Nat) (o:bH) (K:SV->S->Prop) (s:S):Prop:=
 ∃v d,K v (Delta.app' d id s)/\d.ok o s/\(∀U,s.fo U->v.fo (dR U id)/\d.fo U)/\rT id o s v/\∀s2,nG o.rd o.rR o.isApp s s2->∀K':SV->S->Prop,K' v (d.app' id s2)->bD C id o K' s2
section
variable{C:bt} {id:Nat} {o:bH} {K:SV->S->Prop} {s:S}
theorem Path.val{a:AV} (hK:K (.dat a none) s) (h:∀s2,nG o.rd o.rR o.isApp s s2->∀K':SV->S->Prop,K' (.dat a none) s2->bD C id o K' s2):Path C id o K s:=
 ⟨.dat a none,.no,hK,trivial,fun U _=>⟨trivial,trivial⟩,.dat,h⟩
theorem Path.sv{v:SV} (hK:K v s) (hv:∀U,s.fo U->v.fo U) (hp:rT id o s v) (h:∀s2,nG o.rd o.rR o.isApp s s2->∀K':SV->S->Prop,K' v s2->bD C id o K' s2):Path C id o K s:=
 ⟨v,.no,hK,trivial,fun U hs=>⟨SV.l8 (fun n h=>.inl h) (hv U hs),trivial⟩,hp,h⟩
theorem pX(h:bD C id o K s):Path C id o K s:=by
 cases o<;>simp only[bD]at h
 case mv x=>
  obtain⟨v,hv,hK⟩:=af h
  exact Path.sv hK (fun U hs=>hs.bC hv) (fun b e=>.inr (lI hv e)) fun s2 ag K' hk=>by simpa[bD,ag.bC (fun t ht=>ht) hv]using hk
 case pick c a b=>
  obtain⟨t,ht,h⟩:=af h
  cases t<;>try(exact h.elim)
  rename_i t;obtain⟨u,hu,h⟩:=af h;obtain⟨v,hv,hK1,hK2⟩:=af h;cases t
  ·exact Path.sv (hK2 rfl) (fun U hs=>hs.bC hv) (fun b' e=>.inr (by obtain⟨t,ht,hl⟩:=lI (x:=b) hv e;exact⟨t,by simp[bH.pK,ht],hl⟩)) fun s2 ag K' hk=>by
    simpa[bD,ag.aM (x:=c) (by simp[bH.rd];grind) ht,ag.bC (x:=a) (by simp[bH.rd];grind) hu,ag.bC (x:=b) (by simp[bH.rd];grind) hv]using hk
  ·exact Path.sv (hK1 rfl) (fun U hs=>hs.bC hu) (fun b' e=>.inr (by obtain⟨t,ht,hl⟩:=lI (x:=a) hu e;exact⟨t,by simp[bH.pK,ht],hl⟩)) fun s2 ag K' hk=>by
    simpa[bD,ag.aM (x:=c) (by simp[bH.rd];grind) ht,ag.bC (x:=a) (by simp[bH.rd];grind) hu,ag.bC (x:=b) (by simp[bH.rd];grind) hv]using hk
 case alloc cs=>
  exact⟨.ptr id 0,.box ⟨cs,[]⟩,h,trivial,fun U _=>⟨.inr rfl,fun o q hq=>by cases hq⟩,fun b e=>.inl ⟨e.symm,rfl⟩,fun s2 ag K' hk=>hk⟩
 case box x=>
  obtain⟨a,ha,hok,hK⟩:=af h
  exact⟨.ptr id 0,.box ⟨a.cells,[]⟩,hK,trivial,fun U _=>⟨.inr rfl,fun o q hq=>by cases hq⟩,fun b e=>.inl ⟨e.symm,rfl⟩,fun s2 ag K' hk=>by
   simpa[bD,ag.aM (x:=x) (by simp[bH.rd]) ha,hok,Delta.app']using hk⟩
 case build zs ps=>
  obtain⟨p,hp,hK⟩:=af h
  exact Path.val hK fun s2 ag K' hk=>by simpa[bD,ag.iR (by simp[bH.rd]) hp]using hk
 case gA e z xs=>
  obtain⟨p,hp,hK⟩:=af h
  exact⟨.dat (.sl p) (some id),.live e,hK,trivial,fun U hs=>⟨.inr rfl,trivial⟩,.dat,fun s2 ag K' hk=>by simpa[bD,ag.lf (by simp[bH.rd]) hp,Delta.app']using hk⟩
 case ld x sz=>
  obtain⟨p,hp,h⟩:=af h
  cases p<;>try(exact h.elim)
  ·rename_i b off
   obtain⟨bx,hb,h⟩:=af h;obtain⟨a,ha,hK⟩:=af h
   refine Path.sv hK (fun U hs=>?_) .dat fun s2 ag K' hk=>by simpa[bD,ag.bC (x:=x) (by simp[bH.rd]) hp,ag.bY (x:=x) (by simp[bH.rR]) hp hb,ha]using hk
   cases sz with
   |some n=>trivial
   |none=>
    cases hq:dU off bx.tags with
    |none=>trivial
    |some q=>exact(hs.boxes b bx hb).2 off q hq
  ·rename_i cs
   obtain⟨a,ha,hK⟩:=af h
   exact Path.val hK fun s2 ag K' hk=>by simpa[bD,ag.bC (x:=x) (by simp[bH.rd]) hp,ha]using hk
 case st x v sz=>
  obtain⟨p,hp,h⟩:=af h
  cases p<;>try(exact h.elim)
  rename_i b off;obtain⟨bx,hb,h⟩:=af h;obtain⟨u,hu,h⟩:=af h
  cases u<;>try(exact h.elim)
  rename_i a q;obtain⟨h1,h2,h3,hK⟩:=h
  refine⟨.undef,.st b ⟨setCells bx.cells off a.cells,match(generalizing:=false) q with|some q=>(off,q)::bx.tags.filter (fun p=>p.1<off||off+sz<=p.1)|none=>bx.tags.filter (fun p=>p.1<off||off+sz<=p.1)⟩,hK,⟨rfl,qZ (x:=x) hp⟩,fun U hs=>⟨trivial,?_,?_⟩,.undef,fun s2 ag K' hk=>?_⟩
  ·exact(hs.boxes b bx hb).1
  ·intro o q' hq'
   have hfil:∀q',dU o (bx.tags.filter (fun p=>p.1<off||off+sz<=p.1))=some q'->U q':=fun q' hq'=>
    (hs.boxes b bx hb).2 o q' (xj hq' (fun x=>rfl)).1
   cases q with
   |none=>exact hfil q' hq'
   |some q=>
    simp only[dU]at hq';cases hoo:o==off
    ·rw[hoo]at hq';exact hfil q' hq'
    ·rw[hoo]at hq'
     simp only[cond_true,Option.some.injEq]at hq';subst hq';exact hs.bC hu
  ·simp only[bD,ag.bC (x:=x) (by simp[bH.rd];grind) hp,ag.bC (x:=v) (by simp[bH.rd];grind) hu,ag.bY (x:=x) (by simp[bH.rR]) hp hb,az]
   exact⟨h1,h2,h3,hk⟩
 case fa x off=>
  obtain⟨p,hp,h⟩:=af h
  cases p<;>try(exact h.elim)
  ·exact Path.sv h (fun U hs=>(hs.bC hp:(SV.ptr _ _).fo U)) (fun b' e=>.inr (by cases e;exact qZ (x:=x) hp)) fun s2 ag K' hk=>by simpa[bD,ag.bC (x:=x) (by simp[bH.rd]) hp]using hk
  ·exact Path.sv h (fun U hs=>trivial) .rp fun s2 ag K' hk=>by simpa[bD,ag.bC (x:=x) (by simp[bH.rd]) hp]using hk
  ·rename_i k ps
   match k,hp,h with
   |2,hp,h=>exact Path.sv h (fun U hs p hq=>(hs.bC hp:(SV.pt 2 ps).fo U) p (List.mem_of_mem_drop hq)) (fun b' ⟨q,hq,e⟩=>.inr (lI (x:=x) hp ⟨q,List.mem_of_mem_drop hq,e⟩)) fun s2 ag K' hk=>by simpa[bD,ag.bC (x:=x) (by simp[bH.rd]) hp]using hk
   |0,_,h=>exact h.elim
   |1,_,h=>exact h.elim
   |k+3,_,h=>exact h.elim
 case jC x sz=>
  obtain⟨p,hp,h⟩:=af h
  cases p<;>try(exact h.elim)
  rename_i k ps
  match k,sz,ps,hp,h with
  |2,none,(b,o)::ps,hp,h=>exact Path.sv h (fun U hs=>(hs.bC hp:(SV.pt 2 _).fo U) (b,o) (by simp)) (fun b' e=>.inr (lI (x:=x) hp ⟨(b,o),by simp,e⟩)) fun s2 ag K' hk=>by simpa[bD,ag.bC (x:=x) (by simp[bH.rd]) hp]using hk
  |2,none,[],hp,h=>exact h.elim
  |2,some n,ps,hp,h=>
   have h':n<=ps.length/\K (.pt 0 (ps.take n)) s:=by cases ps<;>exact h
   exact Path.sv h'.2 (fun U hs p hq=>(hs.bC hp:(SV.pt 2 ps).fo U) p (List.mem_of_mem_take hq)) (fun b' ⟨q,hq,e⟩=>.inr (lI (x:=x) hp ⟨q,List.mem_of_mem_take hq,e⟩)) fun s2 ag K' hk=>by
    have e:=ag.bC (x:=x) (by simp[bH.rd]) hp
    simp only[bD,e,az]
    cases ps<;>exact⟨h'.1,hk⟩
  |0,_,_,_,h=>exact h.elim
  |1,_,_,_,h=>exact h.elim
  |k+3,_,_,_,h=>exact h.elim
 case C1 x i n z=>
  obtain⟨p,hp,h⟩:=af h;obtain⟨a,ha,h⟩:=af h;obtain⟨j,hj,hlt,h⟩:=af h
  cases p<;>try(exact h.elim)
  ·exact Path.sv h (fun U hs=>(hs.bC hp:(SV.ptr _ _).fo U)) (fun b' e=>.inr (by cases e;exact qZ (x:=x) hp)) fun s2 ag K' hk=>by simpa[bD,ag.bC (x:=x) (by simp[bH.rd];grind) hp,ag.aM (x:=i) (by simp[bH.rd];grind) ha,hj,hlt]using hk
  ·exact Path.sv h (fun U hs=>trivial) .rp fun s2 ag K' hk=>by simpa[bD,ag.bC (x:=x) (by simp[bH.rd];grind) hp,ag.aM (x:=i) (by simp[bH.rd];grind) ha,hj,hlt]using hk
 case wk x i z=>
  obtain⟨p,hp,h⟩:=af h
  cases p<;>try(exact h.elim)
  rotate_left
  ·obtain⟨a,ha,h⟩:=af h
   obtain⟨j,hj,hlt,hz,h⟩:=af h
   exact Path.sv h (fun U hs=>(hs.bC hp:(SV.vs _ _ _ _).fo U)) (fun b' e=>.inr (by cases e;exact lI (x:=x) hp rfl)) fun s2 ag K' hk=>by
    simp only[bD,ag.bC (x:=x) (by simp[bH.rd];grind) hp,ag.aM (x:=i) (by simp[bH.rd];grind) ha,hj,az]
    exact⟨hlt,hz,hk⟩
  obtain⟨a,ha,h⟩:=af h;obtain⟨j,hj,h⟩:=af h;obtain⟨xs,hxs,hlt,h⟩:=af h;obtain⟨row,hrow,hz,hK⟩:=af h
  refine Path.sv hK (fun U hs=>trivial) .rp fun s2 ag K' hk=>?_
  simp only[bD,ag.bC (x:=x) (by simp[bH.rd];grind) hp,ag.aM (x:=i) (by simp[bH.rd];grind) ha,hj,hxs,hrow,az]
  exact⟨hlt,hz,hk⟩
 case QX x off sz=>
  obtain⟨p,hp,h⟩:=af h
  cases p<;>try(exact h.elim)
  obtain⟨a,ha,hK⟩:=af h
  exact Path.val hK fun s2 ag K' hk=>by simpa[bD,ag.aM (x:=x) (by simp[bH.rd]) hp,ha]using hk
 case JC x i n z sz=>
  obtain⟨p,hp,h⟩:=af h
  cases p<;>try(exact h.elim)
  obtain⟨a,ha,h⟩:=af h;obtain⟨j,hj,hlt,h⟩:=af h;obtain⟨b,hb,hK⟩:=af h
  exact Path.val hK fun s2 ag K' hk=>by simpa[bD,ag.aM (x:=x) (by simp[bH.rd];grind) hp,ag.aM (x:=i) (by simp[bH.rd];grind) ha,hj,hlt,hb]using hk
 case bin op x y=>
  obtain⟨a,ha,h⟩:=af h;obtain⟨b,hb,h⟩:=af h;obtain⟨v,hv,hK⟩:=af h
  exact Path.val hK fun s2 ag K' hk=>by simpa[bD,ag.aM (x:=x) (by simp[bH.rd];grind) ha,ag.aM (x:=y) (by simp[bH.rd];grind) hb,hv]using hk
 case eqc ks neg x y=>
  obtain⟨a,ha,h⟩:=af h
  cases a<;>try(exact h.elim)
  obtain⟨b,hb,h⟩:=af h
  cases b<;>try(exact h.elim)
  obtain⟨v,hv,hK⟩:=af h
  exact Path.val hK fun s2 ag K' hk=>by simpa[bD,ag.aM (x:=x) (by simp[bH.rd];grind) ha,ag.aM (x:=y) (by simp[bH.rd];grind) hb,hv]using hk
 case bb neg x y=>
  obtain⟨a,ha,h⟩:=af h;obtain⟨b,hb,h⟩:=af h;obtain⟨v,hv,hK⟩:=af h
  exact Path.val hK fun s2 ag K' hk=>by simpa[bD,ag.aM (x:=x) (by simp[bH.rd];grind) ha,ag.aM (x:=y) (by simp[bH.rd];grind) hb,hv]using hk
 case un op x=>
  obtain⟨a,ha,h⟩:=af h;obtain⟨v,hv,hK⟩:=af h
  exact Path.val hK fun s2 ag K' hk=>by simpa[bD,ag.aM (x:=x) (by simp[bH.rd]) ha,hv]using hk
 case nk k x=>
  obtain⟨a,ha,h⟩:=af h;obtain⟨v,hv,hK⟩:=af h
  exact Path.val hK fun s2 ag K' hk=>by simpa[bD,ag.aM (x:=x) (by simp[bH.rd]) ha,hv]using hk
 case Ag k x=>
  obtain⟨a,ha,h⟩:=af h;obtain⟨v,hv,hK⟩:=af h
  exact Path.val hK fun s2 ag K' hk=>by simpa[bD,ag.aM (x:=x) (by simp[bH.rd]) ha,hv]using hk
 case Bu k x=>
  obtain⟨a,ha,h⟩:=af h;obtain⟨v,hv,hK⟩:=af h
  exact Path.val hK fun s2 ag K' hk=>by simpa[bD,ag.aM (x:=x) (by simp[bH.rd]) ha,hv]using hk
 case Ah x=>
  obtain⟨v,hv,hK⟩:=af h
  exact Path.sv hK (fun U hs=>hs.bC hv) (fun b e=>.inr (lI hv e)) fun s2 ag K' hk=>by simpa[bD,ag.bC (fun t ht=>ht) hv]using hk
 case jW x=>
  obtain⟨a,ha,h⟩:=af h
  cases a<;>try(exact h.elim)
  rotate_left
  ·exact Path.val h fun s2 ag K' hk=>by simpa[bD,ag.bC (x:=x) (by simp[bH.rd]) ha]using hk
  obtain⟨v,hv,hK⟩:=af h
  exact Path.val hK fun s2 ag K' hk=>by simpa[bD,ag.bC (x:=x) (by simp[bH.rd]) ha,hv]using hk
 case Gt n=>exact Path.val h fun s2 ag K' hk=>by simpa[bD]using hk
 case Qw x n z hi=>
  obtain⟨p,hp,h⟩:=af h
  cases p<;>try(exact h.elim)
  rename_i b off;obtain⟨a,ha,h2⟩:=af h;obtain⟨j,hj,hlt,hK⟩:=af h2
  refine Path.sv hK (fun U hs=>?_) (fun b' e=>.inr (by cases e;exact lI (x:=x) hp rfl)) fun s2 ag K' hk=>?_
  ·have:(SV.ptr b off).fo U:=hs.bC hp
   exact this
  ·simp only[bD,ag.bC (x:=x) (by simp[bH.rd];grind) hp,ag.aM (x:=hi) (by simp[bH.rd];grind) ha,hj,az]
   exact⟨hlt,hk⟩
 case Aj e z bytes y x=>
  obtain⟨p,hp,h⟩:=af h
  cases p<;>try(exact h.elim)
  rename_i b off n z';obtain⟨q,hq,h2⟩:=af h
  cases q<;>try(exact h2.elim)
  rename_i b' o';obtain⟨⟨e1,e2⟩,h3⟩:=h2;obtain⟨bx,hb,h4,hK⟩:=af h3
  have hy:∀t∈y.rd,t∈(bH.Aj e z bytes y x).rd:=by simp[bH.rd];grind
  have hx:∀t∈x.rd,t∈(bH.Aj e z bytes y x).rd:=by simp[bH.rd];grind
  rw[e1]at hq
  by_cases hn:n=0
  ·rw[if_pos hn]at hK
   refine Path.val hK fun s2 ag K' hk=>?_
   have hb2:=ag.bY (x:=x) (by simp[bH.rR]) hq hb
   simp only[bD,ag.bC hy hp,ag.bC hx hq,az,if_pos hn,hb2];exact⟨⟨trivial,e2⟩,h4,hk⟩
  ·rw[if_neg hn]at hK
   refine⟨.dat (.sl (bP z n (bx.cells.drop off))) (some id),.live e,hK,trivial,fun U hs=>⟨.inr rfl,trivial⟩,.dat,fun s2 ag K' hk=>?_⟩
   have hb2:=ag.bY (x:=x) (by simp[bH.rR]) hq hb
   simp only[bD,ag.bC hy hp,ag.bC hx hq,az,if_neg hn,hb2];exact⟨⟨trivial,e2⟩,h4,hk⟩
 case app e z bytes x y=>
  obtain⟨p,hp,h⟩:=af h
  cases p<;>try(exact h.elim)
  rename_i a q;obtain⟨xs,hxs,h⟩:=af h;obtain⟨b,hb,h⟩:=af h;obtain⟨ys,hys,h1,h2,h3,h⟩:=af h
  have hx:∀t∈x.rd,t∈(bH.app e z bytes x y).rd:=by simp[bH.rd];grind
  have hy:∀t∈y.rd,t∈(bH.app e z bytes x y).rd:=by simp[bH.rd];grind
  cases a<;>try(exact h.elim)
  ·--nil
   simp only[]at h;split at h
   ·rename_i he
    refine Path.val h fun s2 ag K' hk=>?_
    simp only[bD,ag.bC hx hp,ag.aM hy hb,hxs,hys,az,if_pos he];exact⟨h1,h2,h3,hk⟩
   ·rename_i he
    refine⟨.dat (.sl (xs++ys)) (some id),.live e,h,trivial,fun U hs=>⟨.inr rfl,trivial⟩,.dat,fun s2 ag K' hk=>?_⟩
    simp only[bD,ag.bC hx hp,ag.aM hy hb,hxs,hys,az,if_neg he];exact⟨h1,h2,h3,hk⟩
  ·cases q with
   |none=>exact h.elim
   |some q=>
    obtain⟨hq,hK⟩:=h
    have hsrc:∃t∈(bH.app e z bytes x y).rd,∃a,lk t s.slots=some (.dat a (some q)):=by
     cases x with
     |t n=>exact⟨n,hx n (by simp[bl.rd]),_,hp⟩
     |k v=>simp[bC]at hp
    refine⟨.dat (.sl (xs++ys)) (some id),.app q e,hK,⟨rfl,hsrc⟩,fun U hs=>⟨.inr rfl,hs.live q e hq⟩,.dat,fun s2 ag K' hk=>?_⟩
    have hq2:dU q s2.live=some e:=by
     cases x with
     |t n=>exact ag.live rfl n (hx n (by simp[bl.rd])) _ q e hp hq
     |k v=>simp[bC]at hp
    simp only[bD,ag.bC hx hp,ag.aM hy hb,hxs,hys,az];exact⟨h1,h2,h3,hq2,hk⟩
 case call f args=>
  obtain⟨as,has,r,fr,hc,hK⟩:=af h
  cases fr with
  |none=>exact Path.val hK fun s2 ag K' hk=>by simp only[bD,ag.cQ (by simp[bH.rd]) has,az];exact⟨r,none,hc,hk⟩
  |some e=>exact⟨.dat r (some id),.live e,hK,trivial,fun U hs=>⟨.inr rfl,trivial⟩,.dat,fun s2 ag K' hk=>by simp only[bD,ag.cQ (by simp[bH.rd]) has,az];exact⟨r,some e,hc,hk⟩⟩
 case aK f args=>
  obtain⟨p,hp,hnd,h⟩:=af h;obtain⟨css,hcs,r,fr,css',hc,hK⟩:=af h
  have hin:∀U,s.fo U->∀b∈p.2,U b:=by
   intro U hs b hb
   obtain⟨k,hk⟩:=List.mem_iff_getElem?.1 hb
   obtain⟨x,hx,_⟩:=(fc hcs).2 k b hk
   exact(hs.boxes b x hx).1
  have hgo:∀s2,nG (bH.aK f args).rd (bH.aK f args).rR (bH.aK f args).isApp s s2->∀K':SV->S->Prop,K' (.dat r (fr.map fun _=>id)) (Delta.app' (.calls p.2 css' fr) id s2)->bD C id (.aK f args) K' s2:=by
   intro s2 ag K' hk
   obtain⟨h1,h2⟩:=ag.aT (xs:=args) (by simp[bH.rd]) (by simp[bH.rR]) hp hcs
   simp only[bD,h1,h2,az];exact⟨hnd,r,fr,css',hc,hk⟩
  exact⟨.dat r (fr.map fun _=>id),.calls p.2 css' fr,hK,⟨rfl,gV hp⟩,fun U hs=>⟨by cases fr with|none=>trivial|some e=>exact .inr rfl,hin U hs⟩,.dat,hgo⟩
 case rN f args=>
  obtain⟨p,hp,hnd,h⟩:=af h;obtain⟨css,hcs,v,css',hc,hK⟩:=af h
  refine⟨.dat v none,.calls p.2 css' none,hK,⟨rfl,gV hp⟩,fun U hs=>⟨trivial,fun b hb=>?_⟩,.dat,fun s2 ag K' hk=>?_⟩
  ·obtain⟨k,hk⟩:=List.mem_iff_getElem?.1 hb
   obtain⟨x,hx,_⟩:=(fc hcs).2 k b hk
   exact(hs.boxes b x hx).1
  ·obtain⟨h1,h2⟩:=ag.aT (xs:=args) (by simp[bH.rd]) (by simp[bH.rR]) hp hcs
   simp only[bD,h1,h2,az];exact⟨hnd,v,css',hc,hk⟩
 case ee g args=>
  obtain⟨a,ha,h⟩:=af h
  cases a<;>try(exact h.elim)
  rename_i fn first caps
  cases fn<;>try(exact h.elim)
  obtain⟨as,has,r,fr,hc,hK⟩:=af h
  have hg:∀t∈g.rd,t∈(bH.ee g args).rd:=by simp[bH.rd];grind
  have has':∀t∈aW args,t∈(bH.ee g args).rd:=by simp[bH.rd];grind
  cases fr with
  |none=>exact Path.val hK fun s2 ag K' hk=>by simp only[bD,ag.aM hg ha,ag.cQ has' has,az];exact⟨r,none,hc,hk⟩
  |some e=>exact⟨.dat r (some id),.live e,hK,trivial,fun U hs=>⟨.inr rfl,trivial⟩,.dat,fun s2 ag K' hk=>by simp only[bD,ag.aM hg ha,ag.cQ has' has,az];exact⟨r,some e,hc,hk⟩⟩
 case ext x i=>
  obtain⟨a,ha,h⟩:=af h;obtain⟨v,hv,hK⟩:=af h
  exact Path.val hK fun s2 ag K' hk=>by simpa[bD,ag.aM (x:=x) (by simp[bH.rd]) ha,hv]using hk
 case xt e x=>
  obtain⟨a,ha,h⟩:=af h;obtain⟨v,hv,hK⟩:=af h
  exact Path.val hK fun s2 ag K' hk=>by simpa[bD,ag.aM (x:=x) (by simp[bH.rd]) ha,hv]using hk
 case QY x i=>
  obtain⟨p,hp,h⟩:=af h
  cases p<;>try(exact h.elim)
  obtain⟨a,ha,h⟩:=af h;obtain⟨j,hj,h⟩:=af h;obtain⟨b,hb,hK⟩:=af h
  exact Path.val hK fun s2 ag K' hk=>by simpa[bD,ag.aM (x:=x) (by simp[bH.rd];grind) hp,ag.aM (x:=i) (by simp[bH.rd];grind) ha,hj,hb]using hk
 case Mw neg x=>
  obtain⟨a,ha,h⟩:=af h;obtain⟨v,hv,hK⟩:=af h
  exact Path.val hK fun s2 ag K' hk=>by simpa[bD,ag.aM (x:=x) (by simp[bH.rd]) ha,hv]using hk
 case wU f args=>
  obtain⟨p,hp,hnd,h⟩:=af h;obtain⟨css,hcs,r,hc,hK⟩:=af h
  refine Path.val hK fun s2 ag K' hk=>?_
  obtain⟨h1,h2⟩:=ag.dA (xs:=args) (by simp[bH.rd]) (by simp[bH.rR]) hp hcs
  simp only[bD,h1,h2,az];exact⟨hnd,r,hc,hk⟩
 case pG g args=>
  obtain⟨a,ha,h⟩:=af h
  cases a<;>try(exact h.elim)
  rename_i fn first caps
  cases fn<;>try(exact h.elim)
  rename_i f
  cases first<;>try(exact h.elim)
  cases caps<;>try(exact h.elim)
  obtain⟨p,hp,hnd,h⟩:=af h;obtain⟨css,hcs,r,hc,hK⟩:=af h
  have hg:∀t∈g.rd,t∈(bH.pG g args).rd:=by simp[bH.rd];grind
  refine Path.val hK fun s2 ag K' hk=>?_
  obtain⟨h1,h2⟩:=ag.dA (xs:=args) (by simp[bH.rd];grind) (by simp[bH.rR]) hp hcs
  simp only[bD,ag.aM hg ha,h1,h2,az];exact⟨hnd,r,hc,hk⟩
 case gm g args=>
  obtain⟨a,ha,h⟩:=af h
  cases a<;>try(exact h.elim)
  rename_i fn first caps
  cases fn<;>try(exact h.elim)
  rename_i f
  cases first<;>try(exact h.elim)
  cases caps<;>try(exact h.elim)
  obtain⟨p,hp,hnd,h⟩:=af h;obtain⟨css,hcs,r,fr,css',hc,hK⟩:=af h
  have hin:∀U,s.fo U->∀b∈p.2,U b:=by
   intro U hs b hb
   obtain⟨k,hk⟩:=List.mem_iff_getElem?.1 hb
   obtain⟨x,hx,_⟩:=(fc hcs).2 k b hk
   exact(hs.boxes b x hx).1
  have hg:∀t∈g.rd,t∈(bH.gm g args).rd:=by simp[bH.rd];grind
  have hgo:∀s2,nG (bH.gm g args).rd (bH.gm g args).rR (bH.gm g args).isApp s s2->∀K':SV->S->Prop,K' (.dat r (fr.map fun _=>id)) (Delta.app' (.calls p.2 css' fr) id s2)->bD C id (.gm g args) K' s2:=by
   intro s2 ag K' hk
   obtain⟨h1,h2⟩:=ag.aT (xs:=args) (by simp[bH.rd];grind) (by simp[bH.rR]) hp hcs
   simp only[bD,ag.aM hg ha,h1,h2,az];exact⟨hnd,r,fr,css',hc,hk⟩
  exact⟨.dat r (fr.map fun _=>id),.calls p.2 css' fr,hK,⟨rfl,gV hp⟩,fun U hs=>⟨by cases fr with|none=>trivial|some e=>exact .inr rfl,hin U hs⟩,.dat,hgo⟩
 case E3 x n z=>
  obtain⟨p,hp,h⟩:=af h
  cases p<;>try(exact h.elim)
  ·rename_i b off
   obtain⟨h4,h⟩:=h;obtain⟨bx,hb,hlen,hK⟩:=af h
   refine⟨_,.Ay [b] [bx.cells],hK,⟨rfl,fun b' hb'=>?_⟩,fun U hs=>⟨trivial,trivial⟩,.dat,fun s2 ag K' hk=>?_⟩
   ·simp only[List.mem_singleton]at hb';subst hb';exact qZ (x:=x) hp
   ·simp only[bD,ag.bC (x:=x) (by simp[bH.rd]) hp,ag.bY (x:=x) (by simp[bH.rR]) hp hb,az]
    exact⟨h4,hlen,hk⟩
  ·obtain⟨hlen,hK⟩:=h
   refine Path.val hK fun s2 ag K' hk=>?_
   simp only[bD,ag.bC (x:=x) (by simp[bH.rd]) hp,az]
   exact⟨hlen,hk⟩
 case Ai fn a b=>
  obtain⟨as,has,h⟩:=af h;obtain⟨p,hp,hok,h⟩:=af h;obtain⟨css,hcs,hK⟩:=af h
  have hgo:∀s2,nG (bH.Ai fn a b).rd (bH.Ai fn a b).rR (bH.Ai fn a b).isApp s s2->∀K':SV->S->Prop,K' (.dat (.fn fn as (lg p.1 css)) none) (gO p.2 css s2)->bD C id (.Ai fn a b) K' s2:=by
   intro s2 ag K' hk
   obtain⟨h1,h2⟩:=ag.aT (xs:=b) (by simp[bH.rd];grind) (by simp[bH.rR]) hp hcs
   simp only[bD,ag.cQ (xs:=a) (by simp[bH.rd];grind) has,h1,h2,az]
   exact⟨hok,hk⟩
  cases b with
  |nil=>
   simp[cI]at hp;subst hp
   have e:∀s:S,gO [] css s=s:=fun s=>by cases css<;>rfl
   simp only[e]at hK hgo;exact Path.val hK hgo
  |cons x b=>exact⟨_,.Ay p.2 css,hK,⟨rfl,gV hp⟩,fun U hs=>⟨trivial,trivial⟩,.dat,hgo⟩
 case JD z x lo hi=>
  obtain⟨a,ha,h⟩:=af h;obtain⟨xs,hxs,h⟩:=af h;obtain⟨l,hl,h⟩:=af h;obtain⟨m,hm,h1,h2,hK⟩:=af h
  refine Path.val hK fun s2 ag K' hk=>?_
  simp only[bD,ag.aM (x:=x) (by simp[bH.rd];grind) ha,hxs,ag.wX (x:=lo) (by simp[bH.rd];grind) hl,ag.wY (x:=hi) (by simp[bH.rd];grind) hm,az]
  exact⟨h1,h2,hk⟩
 case nc x=>
  obtain⟨p,hp,h⟩:=af h
  cases p with
  |ptr b o=>exact Path.sv h (fun U hs=>(hs.bC hp:(SV.ptr _ _).fo U)) (fun b' e=>.inr (by cases e;exact qZ (x:=x) hp)) fun s2 ag K' hk=>by simpa[bD,ag.bC (x:=x) (by simp[bH.rd]) hp]using hk
  |rp cs=>exact Path.sv h (fun U hs=>trivial) .rp fun s2 ag K' hk=>by simpa[bD,ag.bC (x:=x) (by simp[bH.rd]) hp]using hk
  |undef=>exact h.elim
  |vs _ _ _ _=>exact h.elim
  |mM _ _ _=>exact h.elim
  |raw _ _=>exact h.elim
  |pt _ _=>exact h.elim
  |dat a q=>
   cases a<;>try(exact h.elim)
   case ref cs=>exact Path.sv h (fun U hs=>trivial) .rp fun s2 ag K' hk=>by simpa[bD,ag.bC (x:=x) (by simp[bH.rd]) hp]using hk
   rename_i fn as bs
   cases fn<;>try(exact h.elim)
   exact Path.sv h (fun U hs=>hs.bC (v:=.dat _ q) hp) .dat fun s2 ag K' hk=>by simpa[bD,ag.bC (x:=x) (by simp[bH.rd]) hp]using hk
 case mm mx args=>
  obtain⟨as,has,h⟩:=af h
  cases as with
  |nil=>exact h.elim
  |cons a r=>
   obtain⟨v,hv,hK⟩:=af h
   exact Path.val hK fun s2 ag K' hk=>by simpa[bD,ag.cQ (xs:=args) (by simp[bH.rd]) has,hv]using hk
end
theorem jG{α:Type} (n m:Nat) (x y:α):(bif n==m then x else y)=if n=m then x else y:=by
 by_cases h:n=m
 ·simp[h]
 ·have h':(n==m)=false:=by simpa using h
  simp[h,h']
def jv(C:bt) (id:Nat) (o:CO) (K:S->Prop) (s:S):Prop:=
 dQ s o.g (bD C id o.op (fun v s'=>K (s'.put o.dst v)) s) (K (s.put o.dst .undef))
theorem j9{C:bt} {base i:Nat} {o:CO} {r:List CO} {K:S->Prop} {s:S}:iT C base i (o::r) K s=jv C (base+i) o (iT C base (i+1) r K) s:=rfl
theorem nG.refl{l lb:List Nat} {ap:Bool} {s:S}:nG l lb ap s s:=⟨fun _ _=>rfl,fun _ _ _ _ _ h=>h,fun _ _ _ _ _ _ _ h=>h⟩
theorem nG.trans {l lb:List Nat} {ap:Bool} {s s2 s3:S} (hl:∀ t∈lb,t∈l) (h:nG l lb ap s s2) (k:nG l lb ap s2 s3):nG l lb ap s s3 :=
  ⟨fun t ht=>(k.slots t ht).trans (h.slots t ht),fun t ht b x hv hb=>k.boxes t ht b x (let ⟨v,h1,h2⟩:=hv; ⟨v,by rw [h.slots t (hl t ht)]; exact h1,h2⟩) (h.boxes t ht b x hv hb),
   fun e t ht a q e' hv hq=>k.live e t ht a q e' (by rw [h.slots t ht]; exact hv) (h.live e t ht a q e' hv hq)⟩
theorem ov{s:S} {d:Option Nat} {v:SV} {t:Nat}:lk t (s.put d v).slots=if d=some t then some v else lk t s.slots:=by
 cases d with
 |none=>simp[S.put]
 |some d=>
  simp only[S.put,lk,jG]
  by_cases h:t=d
  ·subst h;simp
  ·have h2:¬(some d=some t):=fun e=>h (Option.some.inj e).symm
   rw[if_neg h,if_neg h2]
theorem iK{s:S} {d:Option Nat} {v:SV}:(s.put d v).boxes=s.boxes:=by cases d<;>rfl
theorem jH{s:S} {d:Option Nat} {v:SV}:(s.put d v).live=s.live:=by cases d<;>rfl
theorem iL{m:Nat} {b:bO}:∀{l:List (Nat×bO)} {n:Nat},bY n (nq m b l)=if n=m then(bY m l).map fun _=>b else bY n l
 |[],n=>by simp[nq,bY]
 |(k,v)::r,n=>by
  have ih:=iL (m:=m) (b:=b) (l:=r) (n:=n)
  simp only[nq,jG]
  by_cases hmk:m=k
  ·subst hmk
   simp only[if_true,bY,jG]
   by_cases hn:n=m
   ·simp[hn]
   ·simp[hn]
  ·simp only[hmk,if_false,bY,jG,ih]
   by_cases hnk:n=k
   ·have:¬n=m:=fun e=>hmk (e.symm.trans hnk)
    simp[hnk,Ne.symm hmk]
   ·simp only[hnk,if_false]
theorem q6{m:Nat}:∀{l:List (Nat×Nat)} {n:Nat},dU n (lG m l)=if n=m then none else dU n l
 |[],n=>by simp[lG,dU]
 |(k,v)::r,n=>by
  have ih:=q6 (m:=m) (l:=r) (n:=n)
  simp only[lG,jG]
  by_cases hmk:m=k
  ·subst hmk
   simp only[if_true,dU,jG,ih]
   by_cases hn:n=m
   ·simp[hn]
   ·simp[hn]
  ·simp only[hmk,if_false,dU,jG,ih]
   by_cases hnk:n=k
   ·simp[hnk,Ne.symm hmk]
   ·simp only[hnk,if_false]
structure oW (s s2:S):Prop where
 slots:∀t,lk t s2.slots=lk t s.slots
 boxes:∀b,bY b s2.boxes=bY b s.boxes
 live:∀q,dU q s2.live=dU q s.live
theorem oW.refl{s:S}:oW s s:=⟨fun _=>rfl,fun _=>rfl,fun _=>rfl⟩
theorem oW.symm{s s2:S} (h:oW s s2):oW s2 s:=⟨fun t=>(h.slots t).symm,fun t=>(h.boxes t).symm,fun t=>(h.live t).symm⟩
theorem oW.trans{s s2 s3:S} (h:oW s s2) (k:oW s2 s3):oW s s3:=⟨fun t=>(k.slots t).trans (h.slots t),fun t=>(k.boxes t).trans (h.boxes t),fun t=>(k.live t).trans (h.live t)⟩
theorem oW.WQ{s s2:S} (h:oW s s2) {l lb:List Nat} {ap:Bool}:nG l lb ap s s2:=
 ⟨fun t _=>h.slots t,fun t _ b x _ hb=>by rw[h.boxes];exact hb,fun _ t _ a q e _ hq=>by rw[h.live];exact hq⟩
theorem oW.put{s s2:S} (h:oW s s2) (d:Option Nat) (v:SV):oW (s.put d v) (s2.put d v):=
 ⟨fun t=>by rw[ov,ov,h.slots],fun b=>by rw[iK,iK];exact h.boxes b,fun b=>by rw[jH,jH];exact h.live b⟩
theorem vt:∀{ids:List Nat} {css:List (List AV)} {l l2:List (Nat×bO)},(∀b,bY b l2=bY b l)->∀b,bY b (cH ids css l2)=bY b (cH ids css l)
 |[],css,l,l2,h,b=>by cases css<;>exact h b
 |i::ids,[],l,l2,h,b=>h b
 |i::ids,cs::css,l,l2,h,b=>by
  simp only[cH]
  exact vt (fun b=>by simp only[iL,h]) b
theorem oW.gO{ids:List Nat}:∀{css:List (List AV)} {s s2:S},oW s s2->oW (gO ids css s) (gO ids css s2):=by
 induction ids with
 |nil=>intro css s s2 h;cases css<;>exact h
 |cons b ids ih=>
  intro css s s2 h
  cases css with
  |nil=>exact h
  |cons cs css=>
   exact ih ⟨fun t=>by simp only[tN,h.slots],fun c=>by simp only[mc,h.boxes],h.live⟩
theorem oW.app{s s2:S} (h:oW s s2) (d:Delta) (id:Nat):oW (d.app' id s) (d.app' id s2):=by
 cases d with
 |Ay ids css=>exact h.gO
 |no=>exact h
 |box b=>exact⟨h.slots,fun c=>by simp only[Delta.app',bY,h.boxes],h.live⟩
 |live e=>exact⟨h.slots,h.boxes,fun q=>by simp only[Delta.app',dU,h.live]⟩
 |app q0 e=>exact⟨h.slots,h.boxes,fun q=>by simp only[Delta.app',dU,h.live,q6]⟩
 |st b x=>exact⟨h.slots,fun c=>by simp only[Delta.app',h.boxes,iL],h.live⟩
 |calls ids css fr=>exact⟨h.slots,vt h.boxes,fun q=>by cases fr<;>simp only[Delta.app',dU,h.live]⟩
theorem oW.fo{s s2:S} (h:oW s s2) {U:Nat->Prop} (hs:s.fo U):s2.fo U:=
 ⟨fun t v hv=>hs.slots t v (by rw[<-h.slots];exact hv),fun b x hb=>hs.boxes b x (by rw[<-h.boxes];exact hb),fun q e hq=>hs.live q e (by rw[<-h.live];exact hq)⟩
def Dd(C:bt) (id:Nat) (o:CO) (s:S) (v:SV) (d:Delta):Prop:=
 (d.ok o.op s/\rT id o.op s v)/\∀s2,nG o.rd o.op.rR o.op.isApp s s2->∀K',K' ((d.app' id s2).put o.dst v)->jv C id o K' s2
theorem Eb{s:S} {U:Nat->Prop} (h:s.fo U) {d:Option Nat} {v:SV} (hv:v.fo U):(s.put d v).fo U:=by
 refine⟨fun t u hu=>?_,fun b x hb=>h.boxes b x (by rwa[iK]at hb),fun q e hq=>h.live q e (by rwa[jH]at hq)⟩
 rw[ov]at hu;split at hu
 ·cases hu;exact hv
 ·exact h.slots t u hu
theorem wo{s:S} {U U':Nat->Prop} (hU:∀n,U n->U' n) (h:s.fo U):s.fo U':=
 ⟨fun t v hv=>SV.l8 hU (h.slots t v hv),fun b x hb=>⟨hU _ (h.boxes b x hb).1,fun o q hq=>hU _ ((h.boxes b x hb).2 o q hq)⟩,fun q e hq=>hU _ (h.live q e hq)⟩
theorem zm:∀{ids:List Nat} {css:List (List AV)} {l:List (Nat×bO)} {U:Nat->Prop},(∀b x,bY b l=some x->U b/\x.fo U)->(∀b∈ids,U b)->∀b x,bY b (cH ids css l)=some x->U b/\x.fo U
 |[],css,l,U,h,hi,b,x,hb=>by cases css<;>exact h b x hb
 |i::ids,[],l,U,h,hi,b,x,hb=>h b x hb
 |i::ids,cs::css,l,U,h,hi,b,x,hb=>by
  simp only[cH]at hb
  refine zm (fun b x hx=>?_) (fun b hb=>hi b (List.mem_cons_of_mem _ hb)) b x hb
  rw[iL]at hx;split at hx
  ·rename_i e
   cases hl:bY i l with
   |none=>simp[hl]at hx
   |some y=>
    simp[hl]at hx;subst hx
    exact⟨e▸hi i (List.mem_cons_self ..),fun o q hq=>by cases hq⟩
  ·exact h b x hx
theorem GV{ids:List Nat} {U:Nat->Prop}:∀{css:List (List AV)} {s:S},s.fo U->(gO ids css s).fo U:=by
 induction ids with
 |nil=>intro css s h;cases css<;>exact h
 |cons b ids ih=>
  intro css s h
  cases css with
  |nil=>exact h
  |cons cs css=>
   refine ih ⟨fun t v hv=>?_,fun c x hc=>?_,h.live⟩
   ·simp only[tN,Option.map_eq_some_iff]at hv
    obtain⟨u,hu,rfl⟩:=hv
    have hi:=h.slots t u hu
    cases u with
    |ptr c o=>
     simp only[jD,jG];split
     ·trivial
     ·exact hi
    |dat a q=>exact hi
    |rp cs=>exact hi
    |undef=>exact hi
    |vs c o n z=>
     simp only[jD];cases hcb:(c==b&&decide (n*z<=(cs.drop o).length))
     ·exact hi
     ·trivial
    |mM _ _ _=>exact hi
    |raw _ _=>exact hi
    |pt _ _=>exact hi
   ·simp only[mc]at hc
    split at hc
    ·cases hc
    ·exact h.boxes c x hc
theorem J0{s:S} {U:Nat->Prop} (h:s.fo U) {d:Delta} {id:Nat} (hd:d.fo U):(d.app' id s).fo (dR U id):=by
 have h':s.fo (dR U id):=wo (fun n hn=>.inl hn) h
 cases d with
 |no=>exact h'
 |Ay ids css=>exact GV h'
 |box b=>
  refine⟨h'.slots,fun b' x hb=>?_,h'.live⟩
  simp only[Delta.app',bY]at hb
  by_cases he:b'=id
  ·subst he
   simp at hb;subst hb
   exact⟨.inr rfl,fun o q hq=>.inl (hd o q hq)⟩
  ·have he':(b'==id)=false:=by simpa using he
   rw[he']at hb;exact h'.boxes b' x hb
 |live e=>
  refine⟨h'.slots,h'.boxes,fun q e' hq=>?_⟩
  simp only[Delta.app',dU]at hq
  by_cases he:q=id
  ·subst he;exact .inr rfl
  ·have he':(q==id)=false:=by simpa using he
   rw[he']at hq;exact h'.live q e' hq
 |app q0 e=>
  refine⟨h'.slots,h'.boxes,fun q e' hq=>?_⟩
  simp only[Delta.app',dU]at hq
  by_cases he:q=id
  ·subst he;exact .inr rfl
  ·have he':(q==id)=false:=by simpa using he
   rw[he',q6]at hq;simp only[cond_false]at hq;split at hq
   ·cases hq
   ·exact h'.live q e' hq
 |st b0 x0=>
  refine⟨h'.slots,fun b x hb=>?_,h'.live⟩
  simp only[Delta.app',iL]at hb;split at hb
  ·rename_i he
   cases hl:bY b0 s.boxes with
   |none=>simp[hl]at hb
   |some y=>
    simp[hl]at hb;subst hb
    exact⟨.inl (he▸hd.1),fun o q hq=>.inl (hd.2 o q hq)⟩
  ·exact h'.boxes b x hb
 |calls ids css fr=>
  refine⟨h'.slots,zm h'.boxes (fun b hb=>.inl (hd b hb)),fun q e' hq=>?_⟩
  cases fr with
  |none=>exact h'.live q e' hq
  |some e=>
   simp only[Delta.app',dU,jG]at hq;split at hq
   ·rename_i he;subst he;exact .inr rfl
   ·exact h'.live q e' hq
section
variable{C:bt} {id:Nat} {o:CO} {K:S->Prop} {s:S}
theorem CO.xl{o:CO} {t:Nat} (h:t∈o.op.rd):t∈o.rd:=by simp[CO.rd,h]
theorem d7(h:jv C id o K s):∃v d,Dd C id o s v d/\K ((d.app' id s).put o.dst v)/\∀U,s.fo U->((d.app' id s).put o.dst v).fo (dR U id):=by
 have main:∀{K:S->Prop},bD C id o.op (fun v s'=>K (s'.put o.dst v)) s->∃(v:SV) (d:Delta),(d.ok o.op s/\rT id o.op s v)/\(∀s2,nG o.rd o.op.rR o.op.isApp s s2->∀K':S->Prop,K' ((d.app' id s2).put o.dst v)->bD C id o.op (fun v s'=>K' (s'.put o.dst v)) s2)/\K ((d.app' id s).put o.dst v)/\∀U,s.fo U->((d.app' id s).put o.dst v).fo (dR U id):=by
  intro K h;obtain⟨v,d,hK,hok,hU,hfp,hs⟩:=pX h
  exact⟨v,d,⟨hok,hfp⟩,fun s2 ag K' hk=>hs s2 (ag.sub fun t ht=>CO.xl ht) _ hk,hK,fun U hU'=>Eb (J0 hU' (hU U hU').2) (hU U hU').1⟩
 have skip:K (s.put o.dst .undef)->(∀s2,nG o.rd o.op.rR o.op.isApp s s2->∀K',K' (s2.put o.dst .undef)->jv C id o K' s2)->∃v d,Dd C id o s v d/\K ((d.app' id s).put o.dst v)/\∀U,s.fo U->((d.app' id s).put o.dst v).fo (dR U id):=by
  intro hK hs
  exact⟨.undef,.no,⟨⟨trivial,.undef⟩,hs⟩,hK,fun U hU=>Eb (wo (fun n h=>.inl h) hU) trivial⟩
 unfold jv dQ at h
 cases hg:o.g with
 |none=>
  simp only[hg]at h;obtain⟨v,d,h1,h2,h3,h4⟩:=main h
  exact⟨v,d,⟨h1,fun s2 ag K' hk=>by unfold jv dQ;simp only[hg];exact h2 s2 ag K' hk⟩,h3,h4⟩
 |some p=>
  obtain⟨t,want⟩:=p
  have htm:t∈o.rd:=by simp[CO.rd,hg]
  simp only[hg]at h
  cases hl:lk t s.slots with
  |none=>simp[hl]at h
  |some v=>
   have hl2:∀s2,nG o.rd o.op.rR o.op.isApp s s2->lk t s2.slots=some v:=fun s2 ag=>by rw[ag.slots t htm,hl]
   simp only[hl]at h
   cases v with
   |ptr b o=>exact h.elim
   |rp cs=>exact h.elim
   |vs _ _ _ _=>exact h.elim
   |mM _ _ _=>exact h.elim
   |raw _ _=>exact h.elim
   |pt _ _=>exact h.elim
   |undef=>exact skip h fun s2 ag K' hk=>by unfold jv dQ;simp only[hg,hl2 s2 ag];exact hk
   |dat a q=>
    cases a<;>try(exact h.elim)
    rename_i b
    by_cases hb:b=want
    ·obtain⟨v,d,h1,h2,h3,h4⟩:=main (h.1 hb)
     exact⟨v,d,⟨h1,fun s2 ag K' hk=>by
      unfold jv dQ;simp only[hg,hl2 s2 ag]
      exact⟨fun _=>h2 s2 ag K' hk,fun hn=>by subst hb;cases b<;>cases hn⟩⟩,h3,h4⟩
    ·have hb':b=!want:=by cases b<;>cases want<;>simp_all
     exact skip (h.2 hb') fun s2 ag K' hk=>by
      unfold jv dQ;simp only[hg,hl2 s2 ag]
      exact⟨fun e=>absurd e hb,fun _=>hk⟩
end
structure EB (α:Type) where
 tgt:Nat
 g:Option α->Option α
def EB.ap{α:Type} (e:EB α) (f:Nat->Option α):Nat->Option α:=fun c=>if c=e.tgt then e.g (f c)else f c
def vv{α:Type} (l:List (EB α)) (f:Nat->Option α):Nat->Option α:=l.foldl (fun f e=>e.ap f) f
theorem EB.comm{α:Type} {e e':EB α} (h:e.tgt≠e'.tgt) (f:Nat->Option α):e.ap (e'.ap f)=e'.ap (e.ap f):=by
 funext c
 simp only[EB.ap]
 by_cases h1:c=e.tgt
 ·have h2:c≠e'.tgt:=fun e2=>h (h1.symm.trans e2)
  simp[h1,h2]
  have:¬e.tgt=e'.tgt:=h
  simp[this]
 ·simp[h1]
theorem zn{α:Type} {e:EB α}:∀{l:List (EB α)} {f:Nat->Option α},(∀e'∈l,e.tgt≠e'.tgt)->vv l (e.ap f)=e.ap (vv l f)
 |[],f,_=>rfl
 |a::l,f,h=>by
  show vv l (a.ap (e.ap f))=e.ap (vv l (a.ap f))
  rw[<-EB.comm (h a List.mem_cons_self)]
  exact zn fun e' he'=>h e' (List.mem_cons_of_mem _ he')
theorem xm{α:Type} {l':List (EB α)}:∀{l:List (EB α)} {f:Nat->Option α},(∀e∈l,∀e'∈l',e.tgt≠e'.tgt)->vv l (vv l' f)=vv l' (vv l f)
 |[],f,_=>rfl
 |e::l,f,h=>by
  show vv l (e.ap (vv l' f))=vv l' (vv l (e.ap f))
  rw[<-zn (h e List.mem_cons_self)]
  exact xm fun a ha=>h a (List.mem_cons_of_mem _ ha)
theorem nL{α:Type} {c:Nat}:∀{l:List (EB α)} {f:Nat->Option α},(∀e∈l,e.tgt≠c)->vv l f c=f c
 |[],f,_=>rfl
 |e::l,f,h=>by
  show vv l (e.ap f) c=f c
  rw[nL fun a ha=>h a (List.mem_cons_of_mem _ ha)]
  exact if_neg (fun e2=>h e List.mem_cons_self e2.symm)
def wB:Delta->List Nat
 | .st b _=>[b]
 | .calls ids _ _=>ids
 | .Ay ids _=>ids
 |_=>[]
def eB(d:Delta) (id:Nat):List (EB bO):=
 match d with
 | .box b=>[⟨id,fun _=>some b⟩]
 | .st b x=>[⟨b,Option.map fun _=>x⟩]
 | .calls ids css _=>(ids.zip css).map fun p=>⟨p.1,Option.map fun _=>⟨p.2,[]⟩⟩
 | .Ay ids css=>(ids.zip css).map fun p=>⟨p.1,fun _=>none⟩
 |_=>[]
def eL(d:Delta) (id:Nat):List (EB Nat):=
 match d with
 | .live e=>[⟨id,fun _=>some e⟩]
 | .app q e=>[⟨q,fun _=>none⟩,⟨id,fun _=>some e⟩]
 | .calls _ _ (some e)=>[⟨id,fun _=>some e⟩]
 |_=>[]
def fz(d:Delta):SV->SV:=
 match d with
 | .Ay ids css=>fun v=>(ids.zip css).foldl (fun v p=>jD p.1 p.2 v) v
 |_=>fun v=>v
theorem zo:∀{ids:List Nat} {css:List (List AV)} {l:List (Nat×bO)},(fun b=>bY b (cH ids css l))=vv ((ids.zip css).map fun p=>(⟨p.1,Option.map fun _=>⟨p.2,[]⟩⟩:EB bO)) (fun b=>bY b l)
 |[],css,l=>by cases css<;>rfl
 |i::ids,[],l=>rfl
 |i::ids,cs::css,l=>by
  show(fun b=>bY b (cH ids css (nq i ⟨cs,[]⟩ l)))=_
  rw[zo (ids:=ids) (css:=css)]
  refine congrArg (vv _) (funext fun b=>?_)
  rw[iL]
  show _=if b=i then _ else _
  split
  ·rename_i e;subst e;rfl
  ·rfl
theorem BJ:∀{ids:List Nat} {css:List (List AV)} {s:S},(fun b=>bY b (gO ids css s).boxes)=vv ((ids.zip css).map fun p=>(⟨p.1,fun _=>none⟩:EB bO)) (fun b=>bY b s.boxes)
 |[],css,s=>by cases css<;>rfl
 |i::ids,[],s=>rfl
 |i::ids,cs::css,s=>by
  show(fun b=>bY b (gO ids css {s with slots:=wZ i cs s.slots,boxes:=kz i s.boxes}).boxes)=_
  rw[BJ (ids:=ids) (css:=css)]
  refine congrArg (vv _) (funext fun b=>?_)
  rw[mc];rfl
theorem xp:∀{ids:List Nat} {css:List (List AV)} {s:S} (t:Nat),lk t (gO ids css s).slots=(lk t s.slots).map fun v=>(ids.zip css).foldl (fun v p=>jD p.1 p.2 v) v
 |[],css,s,t=>by cases css<;>simp[gO]
 |i::ids,[],s,t=>by simp[gO]
 |i::ids,cs::css,s,t=>by
  show lk t (gO ids css {s with slots:=wZ i cs s.slots,boxes:=kz i s.boxes}).slots=_
  rw[xp (ids:=ids) (css:=css) t,tN,Option.map_map]
  rfl
theorem sM(d:Delta) (id:Nat) (s:S):(fun b=>bY b (d.app' id s).boxes)=vv (eB d id) (fun b=>bY b s.boxes):=by
 cases d with
 |box b=>funext c;simp only[Delta.app',bY,jG];show _=if c=id then _ else _;rfl
 |st b x=>
  funext c;simp only[Delta.app',iL]
  show _=if c=b then _ else _
  split
  ·rename_i e;subst e;rfl
  ·rfl
 |calls ids css fr=>exact zo
 |Ay ids css=>exact BJ
 |_=>rfl
theorem uJ(d:Delta) (id:Nat) (s:S):(fun b=>dU b (d.app' id s).live)=vv (eL d id) (fun b=>dU b s.live):=by
 cases d with
 |live e=>funext c;simp only[Delta.app',dU,jG];rfl
 |app q e=>funext c;simp only[Delta.app',dU,jG,q6];show _=if c=id then _ else if c=q then _ else _;rfl
 |calls ids css fr=>cases fr with
  |none=>rfl
  |some e=>funext c;simp only[Delta.app',dU,jG];rfl
 |Ay ids css=>simp only[Delta.app',zl];rfl
 |_=>rfl
theorem ow(d:Delta) (id:Nat) (s:S) (t:Nat):lk t (d.app' id s).slots=(lk t s.slots).map (fz d):=by
 cases d with
 |Ay ids css=>exact xp t
 |_=>simp[Delta.app',fz]
theorem Az{d:Delta} {id:Nat} {e:EB bO} (h:e∈eB d id):e.tgt=id\/e.tgt∈wB d:=by
 cases d with
 |box b=>simp[eB]at h;subst h;exact .inl rfl
 |st b x=>simp[eB]at h;subst h;exact .inr (by simp[wB])
 |calls ids css fr=>
  simp only[eB,List.mem_map]at h
  obtain⟨p,hm,rfl⟩:=h;exact .inr (List.of_mem_zip hm).1
 |Ay ids css=>
  simp only[eB,List.mem_map]at h
  obtain⟨p,hm,rfl⟩:=h;exact .inr (List.of_mem_zip hm).1
 |_=>simp[eB]at h
def SV.fix(v:SV):Prop:=(∀b cs,jD b cs v=v)/\∀b,¬v.has b
theorem nM{v:SV} (h:∀b cs,jD b cs v=v):∀{l:List (Nat×List AV)},l.foldl (fun v p=>jD p.1 p.2 v) v=v
 |[]=>rfl
 |p::l=>by rw[List.foldl_cons,h,nM h]
theorem xq:∀{l:List (Nat×List AV)} {v:SV},l.foldl (fun v p=>jD p.1 p.2 v) v=v\/∃b v',v.has b/\(∀b',v.has b'->b'=b)/\b∈l.map (·.1)/\l.foldl (fun v p=>jD p.1 p.2 v) v=v'/\v'.fix
 |[],v=>.inl rfl
 |p::l,v=>by
  simp only[List.foldl_cons]
  cases v with
  |ptr b o=>
   by_cases e:b=p.1
   ·have:jD p.1 p.2 (.ptr b o)=.rp (p.2.drop o):=by simp[jD,e]
    rw[this]
    have hf:(SV.rp (p.2.drop o)).fix:=⟨fun _ _=>rfl,fun _ h=>h⟩
    exact .inr ⟨b,_,rfl,fun b' h=>Eq.symm h,by simp[e],nM hf.1,hf⟩
   ·have:jD p.1 p.2 (.ptr b o)=.ptr b o:=by
     have e':(b==p.1)=false:=by simpa using e
     simp[jD,e']
    rw[this]
    rcases xq (l:=l) (v:=.ptr b o)with h|⟨b',v',h,hu,hm,h2,h3⟩
    ·exact .inl h
    ·exact .inr ⟨b',v',h,hu,List.mem_cons_of_mem _ hm,h2,h3⟩
  |vs b o n z=>
   by_cases e:(b==p.1&&decide (n*z<=(p.2.drop o).length))=true
   ·have:jD p.1 p.2 (.vs b o n z)=.dat (.sl (bP z n (p.2.drop o))) none:=by simp only[jD,e,cond_true]
    rw[this]
    have hf:(SV.dat (.sl (bP z n (p.2.drop o))) none).fix:=⟨fun _ _=>rfl,fun _ h=>h⟩
    simp only[Bool.and_eq_true,beq_iff_eq]at e
    exact .inr ⟨b,_,rfl,fun b' h=>Eq.symm h,by simp[e.1],nM hf.1,hf⟩
   ·have:jD p.1 p.2 (.vs b o n z)=.vs b o n z:=by simp only[jD,Bool.eq_false_iff.2 e,cond_false]
    rw[this]
    rcases xq (l:=l) (v:=.vs b o n z)with h|⟨b',v',h,hu,hm,h2,h3⟩
    ·exact .inl h
    ·exact .inr ⟨b',v',h,hu,List.mem_cons_of_mem _ hm,h2,h3⟩
  |pt k ps=>exact .inl (nM (fun _ _=>rfl))
  |_=>exact .inl (nM (fun _ _=>rfl))
theorem kC(d:Delta) (v:SV):fz d v=v\/∃b v',v.has b/\(∀b',v.has b'->b'=b)/\b∈wB d/\fz d v=v'/\v'.fix/\∃ids css,d=.Ay ids css:=by
 cases d with
 |Ay ids css=>
  rcases xq (l:=ids.zip css) (v:=v)with h|⟨b,v',h1,hu,h2,h3,h4⟩
  ·exact .inl h
  ·refine .inr ⟨b,v',h1,hu,?_,h3,h4,ids,css,rfl⟩
   obtain⟨p,hp,rfl⟩:=List.mem_map.1 h2;exact(List.of_mem_zip hp).1
 |_=>exact .inl rfl
theorem GW(d:Delta) {v:SV} (h:v.fix):fz d v=v:=by
 cases d with
 |Ay ids css=>exact nM h.1
 |_=>rfl
theorem J1{dx dy:Delta} (hd:∀b∈wB dx,b∉wB dy) (v:SV):fz dy (fz dx v)=fz dx (fz dy v):=by
 rcases kC dx v with h|⟨b,v',hb,hu,hw,h,hf,_⟩
 ·rw[h]
  rcases kC dy v with k|⟨b',u',hb',hu',hw',k,kf,_⟩
  ·rw[k,h]
  ·rw[k,GW dx kf]
 ·rcases kC dy v with k|⟨b',u',hb',hu',hw',k,kf,_⟩
  ·rw[k,h,GW dy hf]
  ·exact absurd hw' (hu b' hb'▸hd b hw)
def Nh:Delta->Bool
 | .Ay _ _=>true
 |_=>false
theorem GX{C:bt} {id:Nat} {o:CO} {s:S} {v:SV} {d:Delta} (h:Dd C id o s v d):∀b∈wB d,∃t∈o.op.DZ,Br b s t:=by
 intro b hb
 have h:=h.1.1
 cases d<;>simp[wB]at hb
 ·subst hb;exact h.2
 ·exact h.2 b hb
 ·exact h.2 b hb
theorem wq{C:bt} {id:Nat} {o:CO} {s:S} {v:SV} {d:Delta} (h:Dd C id o s v d) (hf:Nh d=true):o.op.vn=true:=by
 have h:=h.1.1
 cases d<;>first|(cases hf;done)|exact h.1
theorem Ec{o:bH} {t:Nat} (h:t∈o.DZ):t∈o.rR:=by cases o<;>first|exact h|(simp[bH.DZ]at h;done)
theorem GY{o:bH} {t:Nat} (h:t∈o.rR):t∈o.rd:=by cases o<;>simp[bH.rR]at h<;>simp[bH.rd,h]
theorem uK{o:bH} {t:Nat} (h:t∈o.pK):t∈o.rd:=by
 cases o<;>simp[bH.pK]at h<;>first|(simp[bH.rd,h];done)|(rcases h with h|h<;>simp[bH.rd,h])
def Clear(x y:CO) (s:S):Prop:=∀b,(∃t∈x.op.DZ,Br b s t)->
 (∀t∈y.op.rR,¬Br b s t)/\(x.op.vn=true->∀t∈y.rd,¬Br b s t)
theorem SV.xu{U:Nat->Prop} {v:SV} {b:Nat} (h:v.has b) (hU:v.fo U):U b:=by
 cases v<;>try(exact h.elim)
 ·have h:_=b:=h
  subst h;exact hU
 ·have h:_=b:=h
  subst h;exact hU
 ·obtain⟨p,hp,rfl⟩:=h;exact hU p hp
theorem De{x y:CO} (h:x.indep y=true):(∀d,x.dst=some d->d∉y.rd/\y.dst≠some d)/\(∀d,y.dst=some d->d∉x.rd)/\(x.op.isApp=true->y.op.isApp=false):=by
 unfold CO.indep at h;simp only[Bool.and_eq_true,Bool.not_eq_true']at h;obtain⟨⟨h1,h2⟩,h5⟩:=h
 refine⟨fun d hd=>?_,fun d hd=>?_,fun hx=>?_⟩
 ·rw[hd]at h1
  simp at h1;exact⟨h1.1,h1.2⟩
 ·rw[hd]at h2
  simpa using h2
 ·rw[hx]at h5
  simpa using h5
theorem J2{C:bt} {x y:CO} (hap:x.indep y=true) {U:Nat->Prop} {s:S} (hU:s.fo U) {i j:Nat} (hi:¬U i) (hj:¬U j) (hij:i≠j) (cx:Clear x y s) (cy:Clear y x s)
  {vx vy:SV} {dx dy:Delta} (hx:Dd C i x s vx dx) (hy:Dd C j y ((dx.app' i s).put x.dst vx) vy dy):
  nG y.rd y.op.rR y.op.isApp ((dx.app' i s).put x.dst vx) s/\nG x.rd x.op.rR x.op.isApp s ((dy.app' j s).put y.dst vy)/\
   oW ((dy.app' j ((dx.app' i s).put x.dst vx)).put y.dst vy) ((dx.app' i ((dy.app' j s).put y.dst vy)).put x.dst vx):=by
 obtain⟨h1,h2,h5⟩:=De hap
 have wx:=GX hx
 have wxU:∀b∈wB dx,U b:=fun b hb=>by obtain⟨t,_,v,hl,hv⟩:=wx b hb;exact SV.xu hv (hU.slots t _ hl)
 -- what y looks at
 have sy:∀t∈y.rd,lk t ((dx.app' i s).put x.dst vx).slots=lk t s.slots:=fun t ht=>by
  rw[ov,if_neg (fun e=>(h1 t e).1 ht),ow]
  cases hl:lk t s.slots with
  |none=>rfl
  |some v=>
   simp only[Option.map_some]
   rcases kC dx v with h|⟨b,v',hvb,_,hb,h,_,ids,css,hd⟩
   ·rw[h]
   ·exact absurd (⟨v,hl,hvb⟩:Br b s t) ((cx b (wx b hb)).2 (wq hx (by rw[hd];rfl)) t ht)
 have wy:∀b∈wB dy,∃t∈y.op.DZ,Br b s t:=fun b hb=>by
  obtain⟨t,ht,v,hl,hv⟩:=GX hy b hb;rw[sy t (CO.xl (GY (Ec ht)))]at hl;exact⟨t,ht,v,hl,hv⟩
 have wyU:∀b∈wB dy,U b:=fun b hb=>by obtain⟨t,_,v,hl,hv⟩:=wy b hb;exact SV.xu hv (hU.slots t _ hl)
 have hdis:∀b∈wB dx,b∉wB dy:=fun b hb hb'=>by
  obtain⟨t,ht,hl⟩:=wy b hb';exact(cx b (wx b hb)).1 t (Ec ht) hl
 have sx:∀t∈x.rd,lk t ((dy.app' j s).put y.dst vy).slots=lk t s.slots:=fun t ht=>by
  rw[ov,if_neg (fun e=>h2 t e ht),ow]
  cases hl:lk t s.slots with
  |none=>rfl
  |some v=>
   simp only[Option.map_some]
   rcases kC dy v with h|⟨b,v',hvb,_,hb,h,_,ids,css,hd⟩
   ·rw[h]
   ·exact absurd (⟨v,hl,hvb⟩:Br b s t) ((cy b (wy b hb)).2 (wq hy (by rw[hd];rfl)) t ht)
 -- tokens
 have tx:∀q0 e,dx=.app q0 e->U q0/\x.op.isApp=true:=fun q0 e hd=>by
  have:=hx.1.1;rw[hd]at this
  obtain⟨h,t,ht,a,hl⟩:=this;exact⟨hU.slots t _ hl,h⟩
 have ty:∀q0 e,dy=.app q0 e->U q0/\y.op.isApp=true:=fun q0 e hd=>by
  have:=hy.1.1;rw[hd]at this
  obtain⟨h,t,ht,a,hl⟩:=this;rw[sy t (CO.xl ht)]at hl;exact⟨hU.slots t _ hl,h⟩
 have lx:∀e∈eL dx i,e.tgt=i\/(U e.tgt/\x.op.isApp=true):=fun e he=>by
  cases hdx:dx<;>rw[hdx]at he<;>simp[eL]at he
  ·subst he;exact .inl rfl
  ·rcases he with rfl|rfl
   ·exact .inr (tx _ _ hdx)
   ·exact .inl rfl
  ·rename_i fr;cases fr<;>simp at he;subst he;exact .inl rfl
 have ly:∀e∈eL dy j,e.tgt=j\/(U e.tgt/\y.op.isApp=true):=fun e he=>by
  cases hdy:dy<;>rw[hdy]at he<;>simp[eL]at he
  ·subst he;exact .inl rfl
  ·rcases he with rfl|rfl
   ·exact .inr (ty _ _ hdy)
   ·exact .inl rfl
  ·rename_i fr;cases fr<;>simp at he;subst he;exact .inl rfl
 have bxs:∀(d:Delta) (id:Nat) (s:S) (b:Nat),bY b (d.app' id s).boxes=vv (eB d id) (fun b=>bY b s.boxes) b:=fun d id s b=>congrFun (sM d id s) b
 have lvs:∀(d:Delta) (id:Nat) (s:S) (b:Nat),dU b (d.app' id s).live=vv (eL d id) (fun b=>dU b s.live) b:=fun d id s b=>congrFun (uJ d id s) b
 refine⟨⟨fun t ht=>(sy t ht).symm,fun t ht b z hv hb=>?_,fun hap' t ht a q e hv hq=>?_⟩,⟨sx,fun t ht b z hv hb=>?_,fun hap' t ht a q e hv hq=>?_⟩,?_⟩
 ·obtain⟨v,hv,hvb⟩:=hv
  rw[sy t (CO.xl (GY ht))]at hv
  have hUb:U b:=SV.xu hvb (hU.slots t _ hv)
  rw[iK,bxs,nL]at hb
  ·exact hb
  ·intro e he hee
   rcases Az he with h|h
   ·exact hi (by rw[<-h,hee];exact hUb)
   ·exact(cx _ (wx _ h)).1 t ht (by rw[hee];exact⟨v,hv,hvb⟩)
 ·rw[sy t ht]at hv
  have hUq:U q:=hU.slots t _ hv
  rw[jH,lvs,nL]at hq
  ·exact hq
  ·intro e he hee
   rcases lx e he with h|⟨_,h⟩
   ·exact hi (by rw[<-h,hee];exact hUq)
   ·have:=h5 h;rw[hap']at this;cases this
 ·have hUb:U b:=let ⟨_,h1,h2⟩:=hv;SV.xu h2 (hU.slots t _ h1)
  rw[iK,bxs,nL]
  ·exact hb
  ·intro e he hee
   rcases Az he with h|h
   ·exact hj (by rw[<-h,hee];exact hUb)
   ·exact(cy _ (wy _ h)).1 t ht (by rw[hee];exact hv)
 ·have hUq:U q:=hU.slots t _ hv
  rw[jH,lvs,nL]
  ·exact hq
  ·intro e he hee
   rcases ly e he with h|⟨_,h⟩
   ·exact hj (by rw[<-h,hee];exact hUq)
   ·have:=h5 hap';rw[h]at this;cases this
 ·have vxs:fz dy vx=vx:=by
   rcases kC dy vx with h|⟨b,v',hv,_,hb,h,_,ids,css,hd⟩
   ·exact h
   ·exfalso
    rcases hx.1.2 b hv with⟨rfl,_⟩|⟨t,ht,hl⟩
    ·exact hi (wyU _ hb)
    ·exact(cy b (wy b hb)).2 (wq hy (by rw[hd];rfl)) t (CO.xl (uK ht)) hl
  have vys:fz dx vy=vy:=by
   rcases kC dx vy with h|⟨b,v',hv,_,hb,h,_,ids,css,hd⟩
   ·exact h
   ·exfalso
    rcases hy.1.2 b hv with⟨rfl,_⟩|⟨t,ht,u,hl,hu⟩
    ·exact hj (wxU _ hb)
    ·rw[sy t (CO.xl (uK ht))]at hl
     exact(cx b (wx b hb)).2 (wq hx (by rw[hd];rfl)) t (CO.xl (uK ht)) ⟨u,hl,hu⟩
  refine⟨fun t=>?_,fun b=>?_,fun q=>?_⟩
  ·simp only[ov,ow]
   by_cases ex:x.dst=some t
   ·have ey:y.dst≠some t:=(h1 t ex).2
    simp[ex,ey,vxs]
   ·by_cases ey:y.dst=some t
    ·simp[ex,ey,vys]
    ·simp only[ex,ey,if_false,Option.map_map]
     congr 1
     funext v
     exact(J1 hdis v).symm
  ·rw[iK,iK,bxs,bxs]
   have e1:(fun b=>bY b ((dx.app' i s).put x.dst vx).boxes)=vv (eB dx i) (fun b=>bY b s.boxes):=by rw[iK];exact sM dx i s
   have e2:(fun b=>bY b ((dy.app' j s).put y.dst vy).boxes)=vv (eB dy j) (fun b=>bY b s.boxes):=by rw[iK];exact sM dy j s
   rw[e1,e2]
   refine congrFun (xm (fun e he e' he' h=>?_)) b
   rcases Az he with k|k<;>rcases Az he' with k'|k'
   ·exact hij (by rw[<-k,<-k',h])
   ·exact hi (wyU i (by rw[<-k,h];exact k'))
   ·exact hj (wxU j (by rw[<-k',<-h];exact k))
   ·exact hdis _ k (by rw[h];exact k')
  ·rw[jH,jH,lvs,lvs]
   have e1:(fun b=>dU b ((dx.app' i s).put x.dst vx).live)=vv (eL dx i) (fun b=>dU b s.live):=by rw[jH];exact uJ dx i s
   have e2:(fun b=>dU b ((dy.app' j s).put y.dst vy).live)=vv (eL dy j) (fun b=>dU b s.live):=by rw[jH];exact uJ dy j s
   rw[e1,e2]
   refine congrFun (xm (fun e he e' he' h=>?_)) q
   rcases lx e he with k|⟨k,kk⟩<;>rcases ly e' he' with k'|⟨k',kk'⟩
   ·exact hij (by rw[<-k,<-k',h])
   ·exact hi (by rw[<-k,h];exact k')
   ·exact hj (by rw[<-k',<-h];exact k)
   ·have:=h5 kk;rw[kk']at this;cases this
end Go.Eng
