/- The engine and the library,part 5 of 21: what the proofs of this seat need of them. -/
import Derived.Test.YtkckiembbiiliaaGreatPk4
set_option linter.unnecessarySimpa false
set_option linter.unusedSimpArgs false
set_option linter.unusedVariables false
set_option linter.defProp false
set_option maxRecDepth 10000
set_option maxHeartbeats 4000000
namespace Go.Eng
open Go
def SV.has(b:Nat):SV->Prop
 | .ptr b' _=>b'=b
 | .vs b' _ _ _=>b'=b
 | .pt _ ps=>∃p∈ps,p.1=b
 |_=>False
def CB(b:Nat) (s:S) (t:Nat):Prop:=∃v,lk t s.slots=some v/\v.has b
theorem CB.ptr{b off:Nat} {s:S} {t:Nat} (h:lk t s.slots=some (.ptr b off)):CB b s t:=⟨_,h,rfl⟩
structure oq (l lb:List Nat) (ap:Bool) (s s2:S):Prop where
 slots:∀t∈l,lk t s2.slots=lk t s.slots
 boxes:∀t∈lb,∀b x,CB b s t->ct b s.boxes=some x->ct b s2.boxes=some x
 live:ap=true->∀t∈l,∀a q e,lk t s.slots=some (.dat a (some q))->eK q s.live=some e->eK q s2.live=some e
section
variable{l lb:List Nat} {ap:Bool} {s s2:S}
theorem oq.sub(h:oq l lb ap s s2) {l':List Nat} (hs:∀t∈l',t∈l):oq l' lb ap s s2:=
 ⟨fun t ht=>h.slots t (hs t ht),h.boxes,fun e t ht=>h.live e t (hs t ht)⟩
theorem oq.bM(h:oq l lb ap s s2) {x:bE} (hx:∀t∈x.rd,t∈l) {v:SV} (hv:Eng.bM s x=some v):Eng.bM s2 x=some v:=by
 cases x with
 |t n=>simp only[Eng.bM]at hv⊢;rw[h.slots n (hx n (by simp[bE.rd])),hv]
 |k v=>exact hv
theorem oq.aQ(h:oq l lb ap s s2) {x:bE} (hx:∀t∈x.rd,t∈l) {v:AV} (hv:Eng.aQ s x=some v):Eng.aQ s2 x=some v:=by
 unfold Eng.aQ at hv⊢
 cases ho:Eng.bM s x with
 |none=>rw[ho]at hv;cases hv
 |some u=>rw[h.bM hx ho];rw[ho]at hv;exact hv
theorem oq.dL(h:oq l lb ap s s2):∀{xs:List bE} (hx:∀t∈bl xs,t∈l) {vs:List AV} (hv:Eng.dL s xs=some vs),Eng.dL s2 xs=some vs
 |[],_,vs,hv=>hv
 |x::xs,hx,vs,hv=>by
  simp only[Eng.dL]at hv⊢
  cases h1:Eng.aQ s x with
  |none=>simp[h1]at hv
  |some a=>
   cases h2:Eng.dL s xs with
   |none=>simp[h1,h2]at hv
   |some as=>
    rw[h.aQ (fun t ht=>hx t (by simp[bl,ht])) h1,h.dL (fun t ht=>hx t (by simp[bl,ht])) h2]
    simpa[h1,h2]using hv
theorem oq.jg(h:oq l lb ap s s2):∀{xs:List (Nat×Nat×bE)} (hx:∀t∈uG xs,t∈l) {vs:List (Nat×List AV)} (hv:Eng.jg s xs=some vs),Eng.jg s2 xs=some vs
 |[],_,vs,hv=>hv
 |(o,z,x)::xs,hx,vs,hv=>by
  simp only[Eng.jg]at hv⊢
  cases h1:Eng.aQ s x with
  |none=>simp[h1]at hv
  |some a=>
   cases h2:Eng.jg s xs with
   |none=>simp[h1,h2]at hv
   |some as=>
    rw[h.aQ (fun t ht=>hx t (by simp[uG,ht])) h1,h.jg (fun t ht=>hx t (by simp[uG,ht])) h2]
    simpa only[h1,h2]using hv
theorem oq.lV(h:oq l lb ap s s2) {z:Nat}:∀{xs:List bE} (hx:∀t∈bl xs,t∈l) {vs:List (List AV)} (hv:Eng.lV s z xs=some vs),Eng.lV s2 z xs=some vs
 |[],_,vs,hv=>hv
 |x::xs,hx,vs,hv=>by
  simp only[Eng.lV]at hv⊢
  cases h1:Eng.aQ s x with
  |none=>simp[h1]at hv
  |some a=>
   cases h2:Eng.lV s z xs with
   |none=>simp[h1,h2]at hv
   |some as=>
    rw[h.aQ (fun t ht=>hx t (by simp[bl,ht])) h1,h.lV (fun t ht=>hx t (by simp[bl,ht])) h2]
    simpa only[h1,h2]using hv
theorem oq.yl(h:oq l lb ap s s2) {x:Option bE} (hx:∀t∈Fc x,t∈l) {i:Int} (hv:Eng.yl s x=some i):Eng.yl s2 x=some i:=by
 cases x with
 |none=>exact hv
 |some x=>
  simp only[Eng.yl]at hv⊢
  cases h1:Eng.aQ s x with
  |none=>simp[h1,Eng.vS]at hv
  |some a=>rw[h.aQ hx h1];rw[h1]at hv;exact hv
theorem oq.ym(h:oq l lb ap s s2) {xs:List (List AV)} {x:Option bE} (hx:∀t∈Fc x,t∈l) {i:Int} (hv:Eng.ym s xs x=some i):Eng.ym s2 xs x=some i:=by
 cases x with
 |none=>exact hv
 |some x=>
  simp only[Eng.ym]at hv⊢
  cases h1:Eng.aQ s x with
  |none=>simp[h1,Eng.vS]at hv
  |some a=>rw[h.aQ hx h1];rw[h1]at hv;exact hv
theorem oq.bh(h:oq l lb ap s s2) {hh:Bool}:∀{xs:List bE} (hx:∀t∈bl xs,t∈l) (hx':∀t∈bl xs,t∈lb) {p:List (Option AV)×List Nat} (hv:Eng.dB hh s xs=some p) {css:List (List AV)} (hc:Eng.bh s.boxes p.2=some css),Eng.dB hh s2 xs=some p/\Eng.bh s2.boxes p.2=some css
 |[],_,_,p,hv,css,hc=>by
  simp only[Eng.dB,Option.some.injEq]at hv⊢;subst hv;exact⟨rfl,hc⟩
 |x::xs,hx,hx',p,hv,css,hc=>by
  simp only[Eng.dB]at hv⊢
  split at hv<;>try(cases hv;done)
  ·rename_i a q as bs h1 h2
   cases hv
   obtain⟨i1,i2⟩:=h.bh (fun t ht=>hx t (by simp[bl,ht])) (fun t ht=>hx' t (by simp[bl,ht])) h2 hc
   rw[h.bM (fun t ht=>hx t (by simp[bl,ht])) h1,i1]
   exact⟨rfl,i2⟩
  ·rename_i cs as bs h1 h2
   cases hv
   obtain⟨i1,i2⟩:=h.bh (fun t ht=>hx t (by simp[bl,ht])) (fun t ht=>hx' t (by simp[bl,ht])) h2 hc
   rw[h.bM (fun t ht=>hx t (by simp[bl,ht])) h1,i1]
   exact⟨rfl,i2⟩
  ·rename_i b as bs h1 h2
   cases hv;simp only[Eng.bh]at hc
   split at hc<;>try(cases hc;done)
   rename_i y css' hy hcs;cases hc
   obtain⟨i1,i2⟩:=h.bh (fun t ht=>hx t (by simp[bl,ht])) (fun t ht=>hx' t (by simp[bl,ht])) h2 hcs
   rw[h.bM (fun t ht=>hx t (by simp[bl,ht])) h1,i1]
   refine⟨rfl,?_⟩
   have hyb:Eng.ct b s2.boxes=some y:=by
    cases x with
    |t n=>exact h.boxes n (hx' n (by simp[bl,bE.rd])) b y (.ptr h1) hy
    |k v=>simp[Eng.bM]at h1
   simp only[Eng.bh,hyb,i2]
  ·rename_i b as bs h1 h2
   cases hh<;>cases hv
   simp only[Eng.bh]at hc
   split at hc<;>try(cases hc;done)
   rename_i y css' hy hcs;cases hc
   obtain⟨i1,i2⟩:=h.bh (fun t ht=>hx t (by simp[bl,ht])) (fun t ht=>hx' t (by simp[bl,ht])) h2 hcs
   rw[h.bM (fun t ht=>hx t (by simp[bl,ht])) h1,i1]
   refine⟨rfl,?_⟩
   have hyb:Eng.ct b s2.boxes=some y:=by
    cases x with
    |t n=>exact h.boxes n (hx' n (by simp[bl,bE.rd])) b y ⟨_,h1,(b,0),by simp,rfl⟩ hy
    |k v=>simp[Eng.bM]at h1
   simp only[Eng.bh,hyb,i2]
theorem oq.d9(h:oq l lb ap s s2) {hh:Bool}:∀{xs:List bE} (hx:∀t∈bl xs,t∈l) (hx':∀t∈bl xs,t∈lb) {p:List (Option AV)×List Nat} (hv:Eng.dB hh s xs=some p) {css:List (List AV)} (hc:Eng.d9 s.boxes p.2=some css),Eng.dB hh s2 xs=some p/\Eng.d9 s2.boxes p.2=some css
 |[],_,_,p,hv,css,hc=>by
  simp only[Eng.dB,Option.some.injEq]at hv⊢;subst hv;exact⟨rfl,hc⟩
 |x::xs,hx,hx',p,hv,css,hc=>by
  simp only[Eng.dB]at hv⊢
  split at hv<;>try(cases hv;done)
  ·rename_i a q as bs h1 h2
   cases hv
   obtain⟨i1,i2⟩:=h.d9 (fun t ht=>hx t (by simp[bl,ht])) (fun t ht=>hx' t (by simp[bl,ht])) h2 hc
   rw[h.bM (fun t ht=>hx t (by simp[bl,ht])) h1,i1]
   exact⟨rfl,i2⟩
  ·rename_i cs as bs h1 h2
   cases hv
   obtain⟨i1,i2⟩:=h.d9 (fun t ht=>hx t (by simp[bl,ht])) (fun t ht=>hx' t (by simp[bl,ht])) h2 hc
   rw[h.bM (fun t ht=>hx t (by simp[bl,ht])) h1,i1]
   exact⟨rfl,i2⟩
  ·rename_i b as bs h1 h2
   cases hv;simp only[Eng.d9]at hc
   split at hc<;>try(cases hc;done)
   rename_i cs css' hy hcs;cases hc
   obtain⟨i1,i2⟩:=h.d9 (fun t ht=>hx t (by simp[bl,ht])) (fun t ht=>hx' t (by simp[bl,ht])) h2 hcs
   rw[h.bM (fun t ht=>hx t (by simp[bl,ht])) h1,i1]
   refine⟨rfl,?_⟩
   have hyb:Eng.ct b s2.boxes=some ⟨cs,[]⟩:=by
    cases x with
    |t n=>exact h.boxes n (hx' n (by simp[bl,bE.rd])) b _ (.ptr h1) hy
    |k v=>simp[Eng.bM]at h1
   simp only[Eng.d9,hyb,i2]
  ·rename_i b as bs h1 h2
   cases hh<;>cases hv
   simp only[Eng.d9]at hc
   split at hc<;>try(cases hc;done)
   rename_i cs css' hy hcs;cases hc
   obtain⟨i1,i2⟩:=h.d9 (fun t ht=>hx t (by simp[bl,ht])) (fun t ht=>hx' t (by simp[bl,ht])) h2 hcs
   rw[h.bM (fun t ht=>hx t (by simp[bl,ht])) h1,i1]
   refine⟨rfl,?_⟩
   have hyb:Eng.ct b s2.boxes=some ⟨cs,[]⟩:=by
    cases x with
    |t n=>exact h.boxes n (hx' n (by simp[bl,bE.rd])) b _ ⟨_,h1,(b,0),by simp,rfl⟩ hy
    |k v=>simp[Eng.bM]at h1
   simp only[Eng.d9,hyb,i2]
theorem oq.ct(h:oq l lb ap s s2) {x:bE} (hx:∀t∈x.rd,t∈lb) {b off:Nat} {bx:bY} (hv:Eng.bM s x=some (.ptr b off)) (hb:Eng.ct b s.boxes=some bx):Eng.ct b s2.boxes=some bx:=by
 cases x with
 |t n=>exact h.boxes n (hx n (by simp[bE.rd])) b bx (.ptr hv) hb
 |k v=>simp[Eng.bM]at hv
end
inductive Delta where
 |no
 |box (b:bY)
 |live (e:Nat)
 |app (q e:Nat)
 |st (b:Nat) (x:bY)
 |calls (ids:List Nat) (css:List (List AV)) (fr:Option Nat)
 |BH (ids:List Nat) (css:List (List AV))
def Delta.app'(d:Delta) (id:Nat) (s:S):S:=
 match d with
 | .no=>s
 | .box b=>{s with boxes:=(id,b)::s.boxes}
 | .live e=>{s with live:=(id,e)::s.live}
 | .app q e=>{s with live:=(id,e)::mj q s.live}
 | .st b x=>{s with boxes:=nW b x s.boxes}
 | .calls ids css fr=>{s with boxes:=dz ids css s.boxes,live:=match fr with|some e=>(id,e)::s.live|none=>s.live}
 | .BH ids css=>gM ids css s
def Delta.ok(d:Delta) (o:bR) (s:S):Prop:=
 match d with
 | .st b _=>o.wU=false/\∃t∈o.Fe,CB b s t
 | .calls ids _ _=>o.wU=false/\∀b∈ids,∃t∈o.Fe,CB b s t
 | .BH ids _=>o.wU=true/\∀b∈ids,∃t∈o.Fe,CB b s t
 | .app q _=>o.isApp=true/\∃t∈o.rd,∃a,lk t s.slots=some (.dat a (some q))
 |_=>True
def bY.gp(U:Nat->Prop) (x:bY):Prop:=∀o q,eK o x.tags=some q->U q
def Delta.gp(U:Nat->Prop) (d:Delta):Prop:=
 match d with
 | .box b=>b.gp U
 | .app q _=>U q
 | .st b x=>U b/\x.gp U
 | .calls ids _ _=>∀b∈ids,U b
 |_=>True
structure S.gp (U:Nat->Prop) (s:S):Prop where
 slots:∀t v,lk t s.slots=some v->v.gp U
 boxes:∀b x,ct b s.boxes=some x->U b/\x.gp U
 live:∀q e,eK q s.live=some e->U q
theorem S.gp.bM{U:Nat->Prop} {s:S} (h:s.gp U) {x:bE} {v:SV} (hv:Eng.bM s x=some v):v.gp U:=by
 cases x with
 |t n=>exact h.slots n v hv
 |k a=>simp only[Eng.bM,Option.some.injEq]at hv;subst hv;trivial
theorem sg{s:S} {x:bE} {b off:Nat} (h:bM s x=some (.ptr b off)):∃t∈x.rd,CB b s t:=by
 cases x with
 |t n=>exact⟨n,by simp[bE.rd],.ptr h⟩
 |k v=>simp[bM]at h
theorem iC{s:S} {hh:Bool}:∀{xs:List bE} {p:List (Option AV)×List Nat},dB hh s xs=some p->∀b∈p.2,∃t∈bl xs,CB b s t
 |[],p,h,b,hb=>by simp[dB]at h;subst h;cases hb
 |x::xs,p,h,b,hb=>by
  unfold dB at h;split at h
  ·rename_i h1 h2
   cases h;obtain⟨t,ht,hl⟩:=iC h2 b hb
   exact⟨t,by simp[bl,ht],hl⟩
  ·rename_i h1 h2
   cases h;obtain⟨t,ht,hl⟩:=iC h2 b hb
   exact⟨t,by simp[bl,ht],hl⟩
  ·rename_i h1 h2
   cases h
   rcases List.mem_cons.1 hb with rfl|hb
   ·obtain⟨t,ht,hl⟩:=sg h1
    exact⟨t,by simp[bl,ht],hl⟩
   ·obtain⟨t,ht,hl⟩:=iC h2 b hb
    exact⟨t,by simp[bl,ht],hl⟩
  ·rename_i h1 h2
   cases hh<;>cases h
   rcases List.mem_cons.1 hb with rfl|hb
   ·cases x with
    |t n=>exact⟨n,by simp[bl,bE.rd],_,h1,(b,0),by simp,rfl⟩
    |k v=>simp[bM]at h1
   ·obtain⟨t,ht,hl⟩:=iC h2 b hb
    exact⟨t,by simp[bl,ht],hl⟩
  ·cases h
def tf(id:Nat) (o:bR) (s:S) (v:SV):Prop:=∀b,v.has b->(b=id/\o.HJ=true)\/∃t∈o.qq,CB b s t
theorem tf.dat{id:Nat} {o:bR} {s:S} {a:AV} {q:Option Nat}:tf id o s (.dat a q):=fun _ h=>h.elim
theorem tf.undef{id:Nat} {o:bR} {s:S}:tf id o s .undef:=fun _ h=>h.elim
theorem tf.rp{id:Nat} {o:bR} {s:S} {cs:List AV}:tf id o s (.rp cs):=fun _ h=>h.elim
theorem mu{s:S} {x:bE} {v:SV} {b:Nat} (h:bM s x=some v) (hb:v.has b):∃t∈x.rd,CB b s t:=by
 cases x with
 |t n=>exact⟨n,by simp[bE.rd],_,h,hb⟩
 |k a=>simp only[bM,Option.some.injEq]at h;subst h;exact hb.elim
def Path(C:bw) (id:Nat) (o:bR) (K:SV->S->Prop) (s:S):Prop:=
 ∃v d,K v (Delta.app' d id s)/\d.ok o s/\(∀U,s.gp U->v.gp (eE U id)/\d.gp U)/\tf id o s v/\∀s2,oq o.rd o.ta o.isApp s s2->∀K':SV->S->Prop,K' v (d.app' id s2)->bN C id o K' s2
section
variable{C:bw} {id:Nat} {o:bR} {K:SV->S->Prop} {s:S}
theorem Path.val{a:AV} (hK:K (.dat a none) s) (h:∀s2,oq o.rd o.ta o.isApp s s2->∀K':SV->S->Prop,K' (.dat a none) s2->bN C id o K' s2):Path C id o K s:=
 ⟨.dat a none,.no,hK,trivial,fun U _=>⟨trivial,trivial⟩,.dat,h⟩
theorem Path.sv{v:SV} (hK:K v s) (hv:∀U,s.gp U->v.gp U) (hp:tf id o s v) (h:∀s2,oq o.rd o.ta o.isApp s s2->∀K':SV->S->Prop,K' v s2->bN C id o K' s2):Path C id o K s:=
 ⟨v,.no,hK,trivial,fun U hs=>⟨SV.mQ (fun n h=>.inl h) (hv U hs),trivial⟩,hp,h⟩
theorem qH(h:bN C id o K s):Path C id o K s:=by
 cases o<;>simp only[bN]at h
 case mv x=>
  obtain⟨v,hv,hK⟩:=af h
  exact Path.sv hK (fun U hs=>hs.bM hv) (fun b e=>.inr (mu hv e)) fun s2 ag K' hk=>by simpa[bN,ag.bM (fun t ht=>ht) hv]using hk
 case pick c a b=>
  obtain⟨t,ht,h⟩:=af h
  cases t<;>try(exact h.elim)
  rename_i t;obtain⟨u,hu,h⟩:=af h;obtain⟨v,hv,hK1,hK2⟩:=af h;cases t
  ·exact Path.sv (hK2 rfl) (fun U hs=>hs.bM hv) (fun b' e=>.inr (by obtain⟨t,ht,hl⟩:=mu (x:=b) hv e;exact⟨t,by simp[bR.qq,ht],hl⟩)) fun s2 ag K' hk=>by
    simpa[bN,ag.aQ (x:=c) (by simp[bR.rd];grind) ht,ag.bM (x:=a) (by simp[bR.rd];grind) hu,ag.bM (x:=b) (by simp[bR.rd];grind) hv]using hk
  ·exact Path.sv (hK1 rfl) (fun U hs=>hs.bM hu) (fun b' e=>.inr (by obtain⟨t,ht,hl⟩:=mu (x:=a) hu e;exact⟨t,by simp[bR.qq,ht],hl⟩)) fun s2 ag K' hk=>by
    simpa[bN,ag.aQ (x:=c) (by simp[bR.rd];grind) ht,ag.bM (x:=a) (by simp[bR.rd];grind) hu,ag.bM (x:=b) (by simp[bR.rd];grind) hv]using hk
 case alloc cs=>
  exact⟨.ptr id 0,.box ⟨cs,[]⟩,h,trivial,fun U _=>⟨.inr rfl,fun o q hq=>by cases hq⟩,fun b e=>.inl ⟨e.symm,rfl⟩,fun s2 ag K' hk=>hk⟩
 case box x=>
  obtain⟨a,ha,hok,hK⟩:=af h
  exact⟨.ptr id 0,.box ⟨a.cells,[]⟩,hK,trivial,fun U _=>⟨.inr rfl,fun o q hq=>by cases hq⟩,fun b e=>.inl ⟨e.symm,rfl⟩,fun s2 ag K' hk=>by
   simpa[bN,ag.aQ (x:=x) (by simp[bR.rd]) ha,hok,Delta.app']using hk⟩
 case build zs ps=>
  obtain⟨p,hp,hK⟩:=af h
  exact Path.val hK fun s2 ag K' hk=>by simpa[bN,ag.jg (by simp[bR.rd]) hp]using hk
 case f9 e z xs=>
  obtain⟨p,hp,hK⟩:=af h
  exact⟨.dat (.sl p) (some id),.live e,hK,trivial,fun U hs=>⟨.inr rfl,trivial⟩,.dat,fun s2 ag K' hk=>by simpa[bN,ag.lV (by simp[bR.rd]) hp,Delta.app']using hk⟩
 case ld x sz=>
  obtain⟨p,hp,h⟩:=af h
  cases p<;>try(exact h.elim)
  ·rename_i b off
   obtain⟨bx,hb,h⟩:=af h;obtain⟨a,ha,hK⟩:=af h
   refine Path.sv hK (fun U hs=>?_) .dat fun s2 ag K' hk=>by simpa[bN,ag.bM (x:=x) (by simp[bR.rd]) hp,ag.ct (x:=x) (by simp[bR.ta]) hp hb,ha]using hk
   cases sz with
   |some n=>trivial
   |none=>
    cases hq:eK off bx.tags with
    |none=>trivial
    |some q=>exact(hs.boxes b bx hb).2 off q hq
  ·rename_i cs
   obtain⟨a,ha,hK⟩:=af h
   exact Path.val hK fun s2 ag K' hk=>by simpa[bN,ag.bM (x:=x) (by simp[bR.rd]) hp,ha]using hk
 case st x v sz=>
  obtain⟨p,hp,h⟩:=af h
  cases p<;>try(exact h.elim)
  rename_i b off;obtain⟨bx,hb,h⟩:=af h;obtain⟨u,hu,h⟩:=af h
  cases u<;>try(exact h.elim)
  rename_i a q;obtain⟨h1,h2,h3,hK⟩:=h
  refine⟨.undef,.st b ⟨setCells bx.cells off a.cells,match(generalizing:=false) q with|some q=>(off,q)::bx.tags.filter (fun p=>p.1<off||off+sz<=p.1)|none=>bx.tags.filter (fun p=>p.1<off||off+sz<=p.1)⟩,hK,⟨rfl,sg (x:=x) hp⟩,fun U hs=>⟨trivial,?_,?_⟩,.undef,fun s2 ag K' hk=>?_⟩
  ·exact(hs.boxes b bx hb).1
  ·intro o q' hq'
   have hfil:∀q',eK o (bx.tags.filter (fun p=>p.1<off||off+sz<=p.1))=some q'->U q':=fun q' hq'=>
    (hs.boxes b bx hb).2 o q' (yz hq' (fun x=>rfl)).1
   cases q with
   |none=>exact hfil q' hq'
   |some q=>
    simp only[eK]at hq';cases hoo:o==off
    ·rw[hoo]at hq';exact hfil q' hq'
    ·rw[hoo]at hq'
     simp only[cond_true,Option.some.injEq]at hq';subst hq';exact hs.bM hu
  ·simp only[bN,ag.bM (x:=x) (by simp[bR.rd];grind) hp,ag.bM (x:=v) (by simp[bR.rd];grind) hu,ag.ct (x:=x) (by simp[bR.ta]) hp hb,aG]
   exact⟨h1,h2,h3,hk⟩
 case fa x off=>
  obtain⟨p,hp,h⟩:=af h
  cases p<;>try(exact h.elim)
  ·exact Path.sv h (fun U hs=>(hs.bM hp:(SV.ptr _ _).gp U)) (fun b' e=>.inr (by cases e;exact sg (x:=x) hp)) fun s2 ag K' hk=>by simpa[bN,ag.bM (x:=x) (by simp[bR.rd]) hp]using hk
  ·exact Path.sv h (fun U hs=>trivial) .rp fun s2 ag K' hk=>by simpa[bN,ag.bM (x:=x) (by simp[bR.rd]) hp]using hk
  ·rename_i k ps
   match k,hp,h with
   |2,hp,h=>exact Path.sv h (fun U hs p hq=>(hs.bM hp:(SV.pt 2 ps).gp U) p (List.mem_of_mem_drop hq)) (fun b' ⟨q,hq,e⟩=>.inr (mu (x:=x) hp ⟨q,List.mem_of_mem_drop hq,e⟩)) fun s2 ag K' hk=>by simpa[bN,ag.bM (x:=x) (by simp[bR.rd]) hp]using hk
   |0,_,h=>exact h.elim
   |1,_,h=>exact h.elim
   |k+3,_,h=>exact h.elim
 case jY x sz=>
  obtain⟨p,hp,h⟩:=af h
  cases p<;>try(exact h.elim)
  rename_i k ps
  match k,sz,ps,hp,h with
  |2,none,(b,o)::ps,hp,h=>exact Path.sv h (fun U hs=>(hs.bM hp:(SV.pt 2 _).gp U) (b,o) (by simp)) (fun b' e=>.inr (mu (x:=x) hp ⟨(b,o),by simp,e⟩)) fun s2 ag K' hk=>by simpa[bN,ag.bM (x:=x) (by simp[bR.rd]) hp]using hk
  |2,none,[],hp,h=>exact h.elim
  |2,some n,ps,hp,h=>
   have h':n<=ps.length/\K (.pt 0 (ps.take n)) s:=by cases ps<;>exact h
   exact Path.sv h'.2 (fun U hs p hq=>(hs.bM hp:(SV.pt 2 ps).gp U) p (List.mem_of_mem_take hq)) (fun b' ⟨q,hq,e⟩=>.inr (mu (x:=x) hp ⟨q,List.mem_of_mem_take hq,e⟩)) fun s2 ag K' hk=>by
    have e:=ag.bM (x:=x) (by simp[bR.rd]) hp
    simp only[bN,e,aG]
    cases ps<;>exact⟨h'.1,hk⟩
  |0,_,_,_,h=>exact h.elim
  |1,_,_,_,h=>exact h.elim
  |k+3,_,_,_,h=>exact h.elim
 case Aw x i n z=>
  obtain⟨p,hp,h⟩:=af h;obtain⟨a,ha,h⟩:=af h;obtain⟨j,hj,hlt,h⟩:=af h
  cases p<;>try(exact h.elim)
  ·exact Path.sv h (fun U hs=>(hs.bM hp:(SV.ptr _ _).gp U)) (fun b' e=>.inr (by cases e;exact sg (x:=x) hp)) fun s2 ag K' hk=>by simpa[bN,ag.bM (x:=x) (by simp[bR.rd];grind) hp,ag.aQ (x:=i) (by simp[bR.rd];grind) ha,hj,hlt]using hk
  ·exact Path.sv h (fun U hs=>trivial) .rp fun s2 ag K' hk=>by simpa[bN,ag.bM (x:=x) (by simp[bR.rd];grind) hp,ag.aQ (x:=i) (by simp[bR.rd];grind) ha,hj,hlt]using hk
 case CC x i z=>
  obtain⟨p,hp,h⟩:=af h
  cases p<;>try(exact h.elim)
  rotate_left
  ·obtain⟨a,ha,h⟩:=af h
   obtain⟨j,hj,hlt,hz,h⟩:=af h
   exact Path.sv h (fun U hs=>(hs.bM hp:(SV.vs _ _ _ _).gp U)) (fun b' e=>.inr (by cases e;exact mu (x:=x) hp rfl)) fun s2 ag K' hk=>by
    simp only[bN,ag.bM (x:=x) (by simp[bR.rd];grind) hp,ag.aQ (x:=i) (by simp[bR.rd];grind) ha,hj,aG]
    exact⟨hlt,hz,hk⟩
  obtain⟨a,ha,h⟩:=af h;obtain⟨j,hj,h⟩:=af h;obtain⟨xs,hxs,hlt,h⟩:=af h;obtain⟨row,hrow,hz,hK⟩:=af h
  refine Path.sv hK (fun U hs=>trivial) .rp fun s2 ag K' hk=>?_
  simp only[bN,ag.bM (x:=x) (by simp[bR.rd];grind) hp,ag.aQ (x:=i) (by simp[bR.rd];grind) ha,hj,hxs,hrow,aG]
  exact⟨hlt,hz,hk⟩
 case Sk x off sz=>
  obtain⟨p,hp,h⟩:=af h
  cases p<;>try(exact h.elim)
  obtain⟨a,ha,hK⟩:=af h
  exact Path.val hK fun s2 ag K' hk=>by simpa[bN,ag.aQ (x:=x) (by simp[bR.rd]) hp,ha]using hk
 case KY x i n z sz=>
  obtain⟨p,hp,h⟩:=af h
  cases p<;>try(exact h.elim)
  obtain⟨a,ha,h⟩:=af h;obtain⟨j,hj,hlt,h⟩:=af h;obtain⟨b,hb,hK⟩:=af h
  exact Path.val hK fun s2 ag K' hk=>by simpa[bN,ag.aQ (x:=x) (by simp[bR.rd];grind) hp,ag.aQ (x:=i) (by simp[bR.rd];grind) ha,hj,hlt,hb]using hk
 case bin op x y=>
  obtain⟨a,ha,h⟩:=af h;obtain⟨b,hb,h⟩:=af h;obtain⟨v,hv,hK⟩:=af h
  exact Path.val hK fun s2 ag K' hk=>by simpa[bN,ag.aQ (x:=x) (by simp[bR.rd];grind) ha,ag.aQ (x:=y) (by simp[bR.rd];grind) hb,hv]using hk
 case eqc ks neg x y=>
  obtain⟨a,ha,h⟩:=af h
  cases a<;>try(exact h.elim)
  obtain⟨b,hb,h⟩:=af h
  cases b<;>try(exact h.elim)
  obtain⟨v,hv,hK⟩:=af h
  exact Path.val hK fun s2 ag K' hk=>by simpa[bN,ag.aQ (x:=x) (by simp[bR.rd];grind) ha,ag.aQ (x:=y) (by simp[bR.rd];grind) hb,hv]using hk
 case bb neg x y=>
  obtain⟨a,ha,h⟩:=af h;obtain⟨b,hb,h⟩:=af h;obtain⟨v,hv,hK⟩:=af h
  exact Path.val hK fun s2 ag K' hk=>by simpa[bN,ag.aQ (x:=x) (by simp[bR.rd];grind) ha,ag.aQ (x:=y) (by simp[bR.rd];grind) hb,hv]using hk
 case un op x=>
  obtain⟨a,ha,h⟩:=af h;obtain⟨v,hv,hK⟩:=af h
  exact Path.val hK fun s2 ag K' hk=>by simpa[bN,ag.aQ (x:=x) (by simp[bR.rd]) ha,hv]using hk
 case j4 k x=>
  obtain⟨a,ha,h⟩:=af h;obtain⟨v,hv,hK⟩:=af h
  exact Path.val hK fun s2 ag K' hk=>by simpa[bN,ag.aQ (x:=x) (by simp[bR.rd]) ha,hv]using hk
 case Ak k x=>
  obtain⟨a,ha,h⟩:=af h;obtain⟨v,hv,hK⟩:=af h
  exact Path.val hK fun s2 ag K' hk=>by simpa[bN,ag.aQ (x:=x) (by simp[bR.rd]) ha,hv]using hk
 case Bp k x=>
  obtain⟨a,ha,h⟩:=af h;obtain⟨v,hv,hK⟩:=af h
  exact Path.val hK fun s2 ag K' hk=>by simpa[bN,ag.aQ (x:=x) (by simp[bR.rd]) ha,hv]using hk
 case Bq x=>
  obtain⟨v,hv,hK⟩:=af h
  exact Path.sv hK (fun U hs=>hs.bM hv) (fun b e=>.inr (mu hv e)) fun s2 ag K' hk=>by simpa[bN,ag.bM (fun t ht=>ht) hv]using hk
 case uB x=>
  obtain⟨a,ha,h⟩:=af h
  cases a<;>try(exact h.elim)
  rotate_left
  ·exact Path.val h fun s2 ag K' hk=>by simpa[bN,ag.bM (x:=x) (by simp[bR.rd]) ha]using hk
  obtain⟨v,hv,hK⟩:=af h
  exact Path.val hK fun s2 ag K' hk=>by simpa[bN,ag.bM (x:=x) (by simp[bR.rd]) ha,hv]using hk
 case HE n=>exact Path.val h fun s2 ag K' hk=>by simpa[bN]using hk
 case RG x n z hi=>
  obtain⟨p,hp,h⟩:=af h
  cases p<;>try(exact h.elim)
  rename_i b off;obtain⟨a,ha,h2⟩:=af h;obtain⟨j,hj,hlt,hK⟩:=af h2
  refine Path.sv hK (fun U hs=>?_) (fun b' e=>.inr (by cases e;exact mu (x:=x) hp rfl)) fun s2 ag K' hk=>?_
  ·have:(SV.ptr b off).gp U:=hs.bM hp
   exact this
  ·simp only[bN,ag.bM (x:=x) (by simp[bR.rd];grind) hp,ag.aQ (x:=hi) (by simp[bR.rd];grind) ha,hj,aG]
   exact⟨hlt,hk⟩
 case Bt e z bytes y x=>
  obtain⟨p,hp,h⟩:=af h
  cases p<;>try(exact h.elim)
  rename_i b off n z';obtain⟨q,hq,h2⟩:=af h
  cases q<;>try(exact h2.elim)
  rename_i b' o';obtain⟨⟨e1,e2⟩,h3⟩:=h2;obtain⟨bx,hb,h4,hK⟩:=af h3
  have hy:∀t∈y.rd,t∈(bR.Bt e z bytes y x).rd:=by simp[bR.rd];grind
  have hx:∀t∈x.rd,t∈(bR.Bt e z bytes y x).rd:=by simp[bR.rd];grind
  rw[e1]at hq
  by_cases hn:n=0
  ·rw[if_pos hn]at hK
   refine Path.val hK fun s2 ag K' hk=>?_
   have hb2:=ag.ct (x:=x) (by simp[bR.ta]) hq hb
   simp only[bN,ag.bM hy hp,ag.bM hx hq,aG,if_pos hn,hb2];exact⟨⟨trivial,e2⟩,h4,hk⟩
  ·rw[if_neg hn]at hK
   refine⟨.dat (.sl (bZ z n (bx.cells.drop off))) (some id),.live e,hK,trivial,fun U hs=>⟨.inr rfl,trivial⟩,.dat,fun s2 ag K' hk=>?_⟩
   have hb2:=ag.ct (x:=x) (by simp[bR.ta]) hq hb
   simp only[bN,ag.bM hy hp,ag.bM hx hq,aG,if_neg hn,hb2];exact⟨⟨trivial,e2⟩,h4,hk⟩
 case app e z bytes x y=>
  obtain⟨p,hp,h⟩:=af h
  cases p<;>try(exact h.elim)
  rename_i a q;obtain⟨xs,hxs,h⟩:=af h;obtain⟨b,hb,h⟩:=af h;obtain⟨ys,hys,h1,h2,h3,h⟩:=af h
  have hx:∀t∈x.rd,t∈(bR.app e z bytes x y).rd:=by simp[bR.rd];grind
  have hy:∀t∈y.rd,t∈(bR.app e z bytes x y).rd:=by simp[bR.rd];grind
  cases a<;>try(exact h.elim)
  ·--nil
   simp only[]at h;split at h
   ·rename_i he
    refine Path.val h fun s2 ag K' hk=>?_
    simp only[bN,ag.bM hx hp,ag.aQ hy hb,hxs,hys,aG,if_pos he];exact⟨h1,h2,h3,hk⟩
   ·rename_i he
    refine⟨.dat (.sl (xs++ys)) (some id),.live e,h,trivial,fun U hs=>⟨.inr rfl,trivial⟩,.dat,fun s2 ag K' hk=>?_⟩
    simp only[bN,ag.bM hx hp,ag.aQ hy hb,hxs,hys,aG,if_neg he];exact⟨h1,h2,h3,hk⟩
  ·cases q with
   |none=>exact h.elim
   |some q=>
    obtain⟨hq,hK⟩:=h
    have hsrc:∃t∈(bR.app e z bytes x y).rd,∃a,lk t s.slots=some (.dat a (some q)):=by
     cases x with
     |t n=>exact⟨n,hx n (by simp[bE.rd]),_,hp⟩
     |k v=>simp[bM]at hp
    refine⟨.dat (.sl (xs++ys)) (some id),.app q e,hK,⟨rfl,hsrc⟩,fun U hs=>⟨.inr rfl,hs.live q e hq⟩,.dat,fun s2 ag K' hk=>?_⟩
    have hq2:eK q s2.live=some e:=by
     cases x with
     |t n=>exact ag.live rfl n (hx n (by simp[bE.rd])) _ q e hp hq
     |k v=>simp[bM]at hp
    simp only[bN,ag.bM hx hp,ag.aQ hy hb,hxs,hys,aG];exact⟨h1,h2,h3,hq2,hk⟩
 case call f args=>
  obtain⟨as,has,r,fr,hc,hK⟩:=af h
  cases fr with
  |none=>exact Path.val hK fun s2 ag K' hk=>by simp only[bN,ag.dL (by simp[bR.rd]) has,aG];exact⟨r,none,hc,hk⟩
  |some e=>exact⟨.dat r (some id),.live e,hK,trivial,fun U hs=>⟨.inr rfl,trivial⟩,.dat,fun s2 ag K' hk=>by simp only[bN,ag.dL (by simp[bR.rd]) has,aG];exact⟨r,some e,hc,hk⟩⟩
 case aE f args=>
  obtain⟨p,hp,hnd,h⟩:=af h;obtain⟨css,hcs,r,fr,css',hc,hK⟩:=af h
  have hin:∀U,s.gp U->∀b∈p.2,U b:=by
   intro U hs b hb
   obtain⟨k,hk⟩:=List.mem_iff_getElem?.1 hb
   obtain⟨x,hx,_⟩:=(gh hcs).2 k b hk
   exact(hs.boxes b x hx).1
  have hgo:∀s2,oq (bR.aE f args).rd (bR.aE f args).ta (bR.aE f args).isApp s s2->∀K':SV->S->Prop,K' (.dat r (fr.map fun _=>id)) (Delta.app' (.calls p.2 css' fr) id s2)->bN C id (.aE f args) K' s2:=by
   intro s2 ag K' hk
   obtain⟨h1,h2⟩:=ag.bh (xs:=args) (by simp[bR.rd]) (by simp[bR.ta]) hp hcs
   simp only[bN,h1,h2,aG];exact⟨hnd,r,fr,css',hc,hk⟩
  exact⟨.dat r (fr.map fun _=>id),.calls p.2 css' fr,hK,⟨rfl,iC hp⟩,fun U hs=>⟨by cases fr with|none=>trivial|some e=>exact .inr rfl,hin U hs⟩,.dat,hgo⟩
 case sZ f args=>
  obtain⟨p,hp,hnd,h⟩:=af h;obtain⟨css,hcs,v,css',hc,hK⟩:=af h
  refine⟨.dat v none,.calls p.2 css' none,hK,⟨rfl,iC hp⟩,fun U hs=>⟨trivial,fun b hb=>?_⟩,.dat,fun s2 ag K' hk=>?_⟩
  ·obtain⟨k,hk⟩:=List.mem_iff_getElem?.1 hb
   obtain⟨x,hx,_⟩:=(gh hcs).2 k b hk
   exact(hs.boxes b x hx).1
  ·obtain⟨h1,h2⟩:=ag.bh (xs:=args) (by simp[bR.rd]) (by simp[bR.ta]) hp hcs
   simp only[bN,h1,h2,aG];exact⟨hnd,v,css',hc,hk⟩
 case fc g args=>
  obtain⟨a,ha,h⟩:=af h
  cases a<;>try(exact h.elim)
  rename_i fn first caps
  cases fn<;>try(exact h.elim)
  obtain⟨as,has,r,fr,hc,hK⟩:=af h
  have hg:∀t∈g.rd,t∈(bR.fc g args).rd:=by simp[bR.rd];grind
  have has':∀t∈bl args,t∈(bR.fc g args).rd:=by simp[bR.rd];grind
  cases fr with
  |none=>exact Path.val hK fun s2 ag K' hk=>by simp only[bN,ag.aQ hg ha,ag.dL has' has,aG];exact⟨r,none,hc,hk⟩
  |some e=>exact⟨.dat r (some id),.live e,hK,trivial,fun U hs=>⟨.inr rfl,trivial⟩,.dat,fun s2 ag K' hk=>by simp only[bN,ag.aQ hg ha,ag.dL has' has,aG];exact⟨r,some e,hc,hk⟩⟩
 case ext x i=>
  obtain⟨a,ha,h⟩:=af h;obtain⟨v,hv,hK⟩:=af h
  exact Path.val hK fun s2 ag K' hk=>by simpa[bN,ag.aQ (x:=x) (by simp[bR.rd]) ha,hv]using hk
 case xt e x=>
  obtain⟨a,ha,h⟩:=af h;obtain⟨v,hv,hK⟩:=af h
  exact Path.val hK fun s2 ag K' hk=>by simpa[bN,ag.aQ (x:=x) (by simp[bR.rd]) ha,hv]using hk
 case Sl x i=>
  obtain⟨p,hp,h⟩:=af h
  cases p<;>try(exact h.elim)
  obtain⟨a,ha,h⟩:=af h;obtain⟨j,hj,h⟩:=af h;obtain⟨b,hb,hK⟩:=af h
  exact Path.val hK fun s2 ag K' hk=>by simpa[bN,ag.aQ (x:=x) (by simp[bR.rd];grind) hp,ag.aQ (x:=i) (by simp[bR.rd];grind) ha,hj,hb]using hk
 case NN neg x=>
  obtain⟨a,ha,h⟩:=af h;obtain⟨v,hv,hK⟩:=af h
  exact Path.val hK fun s2 ag K' hk=>by simpa[bN,ag.aQ (x:=x) (by simp[bR.rd]) ha,hv]using hk
 case yg f args=>
  obtain⟨p,hp,hnd,h⟩:=af h;obtain⟨css,hcs,r,hc,hK⟩:=af h
  refine Path.val hK fun s2 ag K' hk=>?_
  obtain⟨h1,h2⟩:=ag.d9 (xs:=args) (by simp[bR.rd]) (by simp[bR.ta]) hp hcs
  simp only[bN,h1,h2,aG];exact⟨hnd,r,hc,hk⟩
 case ql g args=>
  obtain⟨a,ha,h⟩:=af h
  cases a<;>try(exact h.elim)
  rename_i fn first caps
  cases fn<;>try(exact h.elim)
  rename_i f
  cases first<;>try(exact h.elim)
  cases caps<;>try(exact h.elim)
  obtain⟨p,hp,hnd,h⟩:=af h;obtain⟨css,hcs,r,hc,hK⟩:=af h
  have hg:∀t∈g.rd,t∈(bR.ql g args).rd:=by simp[bR.rd];grind
  refine Path.val hK fun s2 ag K' hk=>?_
  obtain⟨h1,h2⟩:=ag.d9 (xs:=args) (by simp[bR.rd];grind) (by simp[bR.ta]) hp hcs
  simp only[bN,ag.aQ hg ha,h1,h2,aG];exact⟨hnd,r,hc,hk⟩
 case gL g args=>
  obtain⟨a,ha,h⟩:=af h
  cases a<;>try(exact h.elim)
  rename_i fn first caps
  cases fn<;>try(exact h.elim)
  rename_i f
  cases first<;>try(exact h.elim)
  cases caps<;>try(exact h.elim)
  obtain⟨p,hp,hnd,h⟩:=af h;obtain⟨css,hcs,r,fr,css',hc,hK⟩:=af h
  have hin:∀U,s.gp U->∀b∈p.2,U b:=by
   intro U hs b hb
   obtain⟨k,hk⟩:=List.mem_iff_getElem?.1 hb
   obtain⟨x,hx,_⟩:=(gh hcs).2 k b hk
   exact(hs.boxes b x hx).1
  have hg:∀t∈g.rd,t∈(bR.gL g args).rd:=by simp[bR.rd];grind
  have hgo:∀s2,oq (bR.gL g args).rd (bR.gL g args).ta (bR.gL g args).isApp s s2->∀K':SV->S->Prop,K' (.dat r (fr.map fun _=>id)) (Delta.app' (.calls p.2 css' fr) id s2)->bN C id (.gL g args) K' s2:=by
   intro s2 ag K' hk
   obtain⟨h1,h2⟩:=ag.bh (xs:=args) (by simp[bR.rd];grind) (by simp[bR.ta]) hp hcs
   simp only[bN,ag.aQ hg ha,h1,h2,aG];exact⟨hnd,r,fr,css',hc,hk⟩
  exact⟨.dat r (fr.map fun _=>id),.calls p.2 css' fr,hK,⟨rfl,iC hp⟩,fun U hs=>⟨by cases fr with|none=>trivial|some e=>exact .inr rfl,hin U hs⟩,.dat,hgo⟩
 case Ed x n z=>
  obtain⟨p,hp,h⟩:=af h
  cases p<;>try(exact h.elim)
  ·rename_i b off
   obtain⟨h4,h⟩:=h;obtain⟨bx,hb,hlen,hK⟩:=af h
   refine⟨_,.BH [b] [bx.cells],hK,⟨rfl,fun b' hb'=>?_⟩,fun U hs=>⟨trivial,trivial⟩,.dat,fun s2 ag K' hk=>?_⟩
   ·simp only[List.mem_singleton]at hb';subst hb';exact sg (x:=x) hp
   ·simp only[bN,ag.bM (x:=x) (by simp[bR.rd]) hp,ag.ct (x:=x) (by simp[bR.ta]) hp hb,aG]
    exact⟨h4,hlen,hk⟩
  ·obtain⟨hlen,hK⟩:=h
   refine Path.val hK fun s2 ag K' hk=>?_
   simp only[bN,ag.bM (x:=x) (by simp[bR.rd]) hp,aG]
   exact⟨hlen,hk⟩
 case Br fn a b=>
  obtain⟨as,has,h⟩:=af h;obtain⟨p,hp,hok,h⟩:=af h;obtain⟨css,hcs,hK⟩:=af h
  have hgo:∀s2,oq (bR.Br fn a b).rd (bR.Br fn a b).ta (bR.Br fn a b).isApp s s2->∀K':SV->S->Prop,K' (.dat (.fn fn as (lW p.1 css)) none) (gM p.2 css s2)->bN C id (.Br fn a b) K' s2:=by
   intro s2 ag K' hk
   obtain⟨h1,h2⟩:=ag.bh (xs:=b) (by simp[bR.rd];grind) (by simp[bR.ta]) hp hcs
   simp only[bN,ag.dL (xs:=a) (by simp[bR.rd];grind) has,h1,h2,aG]
   exact⟨hok,hk⟩
  cases b with
  |nil=>
   simp[dB]at hp;subst hp
   have e:∀s:S,gM [] css s=s:=fun s=>by cases css<;>rfl
   simp only[e]at hK hgo;exact Path.val hK hgo
  |cons x b=>exact⟨_,.BH p.2 css,hK,⟨rfl,iC hp⟩,fun U hs=>⟨trivial,trivial⟩,.dat,hgo⟩
 case KS z x lo hi=>
  obtain⟨a,ha,h⟩:=af h;obtain⟨xs,hxs,h⟩:=af h;obtain⟨l,hl,h⟩:=af h;obtain⟨m,hm,h1,h2,hK⟩:=af h
  refine Path.val hK fun s2 ag K' hk=>?_
  simp only[bN,ag.aQ (x:=x) (by simp[bR.rd];grind) ha,hxs,ag.yl (x:=lo) (by simp[bR.rd];grind) hl,ag.ym (x:=hi) (by simp[bR.rd];grind) hm,aG]
  exact⟨h1,h2,hk⟩
 case nc x=>
  obtain⟨p,hp,h⟩:=af h
  cases p with
  |ptr b o=>exact Path.sv h (fun U hs=>(hs.bM hp:(SV.ptr _ _).gp U)) (fun b' e=>.inr (by cases e;exact sg (x:=x) hp)) fun s2 ag K' hk=>by simpa[bN,ag.bM (x:=x) (by simp[bR.rd]) hp]using hk
  |rp cs=>exact Path.sv h (fun U hs=>trivial) .rp fun s2 ag K' hk=>by simpa[bN,ag.bM (x:=x) (by simp[bR.rd]) hp]using hk
  |undef=>exact h.elim
  |vs _ _ _ _=>exact h.elim
  |nD _ _ _=>exact h.elim
  |raw _ _=>exact h.elim
  |pt _ _=>exact h.elim
  |dat a q=>
   cases a<;>try(exact h.elim)
   case ref cs=>exact Path.sv h (fun U hs=>trivial) .rp fun s2 ag K' hk=>by simpa[bN,ag.bM (x:=x) (by simp[bR.rd]) hp]using hk
   rename_i fn as bs
   cases fn<;>try(exact h.elim)
   exact Path.sv h (fun U hs=>hs.bM (v:=.dat _ q) hp) .dat fun s2 ag K' hk=>by simpa[bN,ag.bM (x:=x) (by simp[bR.rd]) hp]using hk
 case mm mx args=>
  obtain⟨as,has,h⟩:=af h
  cases as with
  |nil=>exact h.elim
  |cons a r=>
   obtain⟨v,hv,hK⟩:=af h
   exact Path.val hK fun s2 ag K' hk=>by simpa[bN,ag.dL (xs:=args) (by simp[bR.rd]) has,hv]using hk
end
theorem j7{α:Type} (n m:Nat) (x y:α):(bif n==m then x else y)=if n=m then x else y:=by
 by_cases h:n=m
 ·simp[h]
 ·have h':(n==m)=false:=by simpa using h
  simp[h,h']
def jS(C:bw) (id:Nat) (o:CO) (K:S->Prop) (s:S):Prop:=
 eA s o.g (bN C id o.op (fun v s'=>K (s'.put o.dst v)) s) (K (s.put o.dst .undef))
theorem kK{C:bw} {base i:Nat} {o:CO} {r:List CO} {K:S->Prop} {s:S}:jh C base i (o::r) K s=jS C (base+i) o (jh C base (i+1) r K) s:=rfl
theorem oq.refl{l lb:List Nat} {ap:Bool} {s:S}:oq l lb ap s s:=⟨fun _ _=>rfl,fun _ _ _ _ _ h=>h,fun _ _ _ _ _ _ _ h=>h⟩
theorem oq.trans {l lb:List Nat} {ap:Bool} {s s2 s3:S} (hl:∀ t∈lb,t∈l) (h:oq l lb ap s s2) (k:oq l lb ap s2 s3):oq l lb ap s s3 :=
  ⟨fun t ht=>(k.slots t ht).trans (h.slots t ht),fun t ht b x hv hb=>k.boxes t ht b x (let ⟨v,h1,h2⟩:=hv; ⟨v,by rw [h.slots t (hl t ht)]; exact h1,h2⟩) (h.boxes t ht b x hv hb),
   fun e t ht a q e' hv hq=>k.live e t ht a q e' (by rw [h.slots t ht]; exact hv) (h.live e t ht a q e' hv hq)⟩
theorem o7{s:S} {d:Option Nat} {v:SV} {t:Nat}:lk t (s.put d v).slots=if d=some t then some v else lk t s.slots:=by
 cases d with
 |none=>simp[S.put]
 |some d=>
  simp only[S.put,lk,j7]
  by_cases h:t=d
  ·subst h;simp
  ·have h2:¬(some d=some t):=fun e=>h (Option.some.inj e).symm
   rw[if_neg h,if_neg h2]
theorem i7{s:S} {d:Option Nat} {v:SV}:(s.put d v).boxes=s.boxes:=by cases d<;>rfl
theorem j8{s:S} {d:Option Nat} {v:SV}:(s.put d v).live=s.live:=by cases d<;>rfl
theorem i9{m:Nat} {b:bY}:∀{l:List (Nat×bY)} {n:Nat},ct n (nW m b l)=if n=m then(ct m l).map fun _=>b else ct n l
 |[],n=>by simp[nW,ct]
 |(k,v)::r,n=>by
  have ih:=i9 (m:=m) (b:=b) (l:=r) (n:=n)
  simp only[nW,j7]
  by_cases hmk:m=k
  ·subst hmk
   simp only[if_true,ct,j7]
   by_cases hn:n=m
   ·simp[hn]
   ·simp[hn]
  ·simp only[hmk,if_false,ct,j7,ih]
   by_cases hnk:n=k
   ·have:¬n=m:=fun e=>hmk (e.symm.trans hnk)
    simp[hnk,Ne.symm hmk]
   ·simp only[hnk,if_false]
theorem si{m:Nat}:∀{l:List (Nat×Nat)} {n:Nat},eK n (mj m l)=if n=m then none else eK n l
 |[],n=>by simp[mj,eK]
 |(k,v)::r,n=>by
  have ih:=si (m:=m) (l:=r) (n:=n)
  simp only[mj,j7]
  by_cases hmk:m=k
  ·subst hmk
   simp only[if_true,eK,j7,ih]
   by_cases hn:n=m
   ·simp[hn]
   ·simp[hn]
  ·simp only[hmk,if_false,eK,j7,ih]
   by_cases hnk:n=k
   ·simp[hnk,Ne.symm hmk]
   ·simp only[hnk,if_false]
structure pW (s s2:S):Prop where
 slots:∀t,lk t s2.slots=lk t s.slots
 boxes:∀b,ct b s2.boxes=ct b s.boxes
 live:∀q,eK q s2.live=eK q s.live
theorem pW.refl{s:S}:pW s s:=⟨fun _=>rfl,fun _=>rfl,fun _=>rfl⟩
theorem pW.symm{s s2:S} (h:pW s s2):pW s2 s:=⟨fun t=>(h.slots t).symm,fun t=>(h.boxes t).symm,fun t=>(h.live t).symm⟩
theorem pW.trans{s s2 s3:S} (h:pW s s2) (k:pW s2 s3):pW s s3:=⟨fun t=>(k.slots t).trans (h.slots t),fun t=>(k.boxes t).trans (h.boxes t),fun t=>(k.live t).trans (h.live t)⟩
theorem pW.XQ{s s2:S} (h:pW s s2) {l lb:List Nat} {ap:Bool}:oq l lb ap s s2:=
 ⟨fun t _=>h.slots t,fun t _ b x _ hb=>by rw[h.boxes];exact hb,fun _ t _ a q e _ hq=>by rw[h.live];exact hq⟩
theorem pW.put{s s2:S} (h:pW s s2) (d:Option Nat) (v:SV):pW (s.put d v) (s2.put d v):=
 ⟨fun t=>by rw[o7,o7,h.slots],fun b=>by rw[i7,i7];exact h.boxes b,fun b=>by rw[j8,j8];exact h.live b⟩
theorem wZ:∀{ids:List Nat} {css:List (List AV)} {l l2:List (Nat×bY)},(∀b,ct b l2=ct b l)->∀b,ct b (dz ids css l2)=ct b (dz ids css l)
 |[],css,l,l2,h,b=>by cases css<;>exact h b
 |i::ids,[],l,l2,h,b=>h b
 |i::ids,cs::css,l,l2,h,b=>by
  simp only[dz]
  exact wZ (fun b=>by simp only[i9,h]) b
theorem pW.gM{ids:List Nat}:∀{css:List (List AV)} {s s2:S},pW s s2->pW (gM ids css s) (gM ids css s2):=by
 induction ids with
 |nil=>intro css s s2 h;cases css<;>exact h
 |cons b ids ih=>
  intro css s s2 h
  cases css with
  |nil=>exact h
  |cons cs css=>
   exact ih ⟨fun t=>by simp only[uO,h.slots],fun c=>by simp only[mT,h.boxes],h.live⟩
theorem pW.app{s s2:S} (h:pW s s2) (d:Delta) (id:Nat):pW (d.app' id s) (d.app' id s2):=by
 cases d with
 |BH ids css=>exact h.gM
 |no=>exact h
 |box b=>exact⟨h.slots,fun c=>by simp only[Delta.app',ct,h.boxes],h.live⟩
 |live e=>exact⟨h.slots,h.boxes,fun q=>by simp only[Delta.app',eK,h.live]⟩
 |app q0 e=>exact⟨h.slots,h.boxes,fun q=>by simp only[Delta.app',eK,h.live,si]⟩
 |st b x=>exact⟨h.slots,fun c=>by simp only[Delta.app',h.boxes,i9],h.live⟩
 |calls ids css fr=>exact⟨h.slots,wZ h.boxes,fun q=>by cases fr<;>simp only[Delta.app',eK,h.live]⟩
theorem pW.gp{s s2:S} (h:pW s s2) {U:Nat->Prop} (hs:s.gp U):s2.gp U:=
 ⟨fun t v hv=>hs.slots t v (by rw[<-h.slots];exact hv),fun b x hb=>hs.boxes b x (by rw[<-h.boxes];exact hb),fun q e hq=>hs.live q e (by rw[<-h.live];exact hq)⟩
def En(C:bw) (id:Nat) (o:CO) (s:S) (v:SV) (d:Delta):Prop:=
 (d.ok o.op s/\tf id o.op s v)/\∀s2,oq o.rd o.op.ta o.op.isApp s s2->∀K',K' ((d.app' id s2).put o.dst v)->jS C id o K' s2
theorem Ft{s:S} {U:Nat->Prop} (h:s.gp U) {d:Option Nat} {v:SV} (hv:v.gp U):(s.put d v).gp U:=by
 refine⟨fun t u hu=>?_,fun b x hb=>h.boxes b x (by rwa[i7]at hb),fun q e hq=>h.live q e (by rwa[j8]at hq)⟩
 rw[o7]at hu;split at hu
 ·cases hu;exact hv
 ·exact h.slots t u hu
theorem xS{s:S} {U U':Nat->Prop} (hU:∀n,U n->U' n) (h:s.gp U):s.gp U':=
 ⟨fun t v hv=>SV.mQ hU (h.slots t v hv),fun b x hb=>⟨hU _ (h.boxes b x hb).1,fun o q hq=>hU _ ((h.boxes b x hb).2 o q hq)⟩,fun q e hq=>hU _ (h.live q e hq)⟩
theorem AG:∀{ids:List Nat} {css:List (List AV)} {l:List (Nat×bY)} {U:Nat->Prop},(∀b x,ct b l=some x->U b/\x.gp U)->(∀b∈ids,U b)->∀b x,ct b (dz ids css l)=some x->U b/\x.gp U
 |[],css,l,U,h,hi,b,x,hb=>by cases css<;>exact h b x hb
 |i::ids,[],l,U,h,hi,b,x,hb=>h b x hb
 |i::ids,cs::css,l,U,h,hi,b,x,hb=>by
  simp only[dz]at hb
  refine AG (fun b x hx=>?_) (fun b hb=>hi b (List.mem_cons_of_mem _ hb)) b x hb
  rw[i9]at hx;split at hx
  ·rename_i e
   cases hl:ct i l with
   |none=>simp[hl]at hx
   |some y=>
    simp[hl]at hx;subst hx
    exact⟨e▸hi i (List.mem_cons_self ..),fun o q hq=>by cases hq⟩
  ·exact h b x hx
theorem Ia{ids:List Nat} {U:Nat->Prop}:∀{css:List (List AV)} {s:S},s.gp U->(gM ids css s).gp U:=by
 induction ids with
 |nil=>intro css s h;cases css<;>exact h
 |cons b ids ih=>
  intro css s h
  cases css with
  |nil=>exact h
  |cons cs css=>
   refine ih ⟨fun t v hv=>?_,fun c x hc=>?_,h.live⟩
   ·simp only[uO,Option.map_eq_some_iff]at hv
    obtain⟨u,hu,rfl⟩:=hv
    have hi:=h.slots t u hu
    cases u with
    |ptr c o=>
     simp only[jZ,j7];split
     ·trivial
     ·exact hi
    |dat a q=>exact hi
    |rp cs=>exact hi
    |undef=>exact hi
    |vs c o n z=>
     simp only[jZ];cases hcb:(c==b&&decide (n*z<=(cs.drop o).length))
     ·exact hi
     ·trivial
    |nD _ _ _=>exact hi
    |raw _ _=>exact hi
    |pt _ _=>exact hi
   ·simp only[mT]at hc
    split at hc
    ·cases hc
    ·exact h.boxes c x hc
theorem Lm{s:S} {U:Nat->Prop} (h:s.gp U) {d:Delta} {id:Nat} (hd:d.gp U):(d.app' id s).gp (eE U id):=by
 have h':s.gp (eE U id):=xS (fun n hn=>.inl hn) h
 cases d with
 |no=>exact h'
 |BH ids css=>exact Ia h'
 |box b=>
  refine⟨h'.slots,fun b' x hb=>?_,h'.live⟩
  simp only[Delta.app',ct]at hb
  by_cases he:b'=id
  ·subst he
   simp at hb;subst hb
   exact⟨.inr rfl,fun o q hq=>.inl (hd o q hq)⟩
  ·have he':(b'==id)=false:=by simpa using he
   rw[he']at hb;exact h'.boxes b' x hb
 |live e=>
  refine⟨h'.slots,h'.boxes,fun q e' hq=>?_⟩
  simp only[Delta.app',eK]at hq
  by_cases he:q=id
  ·subst he;exact .inr rfl
  ·have he':(q==id)=false:=by simpa using he
   rw[he']at hq;exact h'.live q e' hq
 |app q0 e=>
  refine⟨h'.slots,h'.boxes,fun q e' hq=>?_⟩
  simp only[Delta.app',eK]at hq
  by_cases he:q=id
  ·subst he;exact .inr rfl
  ·have he':(q==id)=false:=by simpa using he
   rw[he',si]at hq;simp only[cond_false]at hq;split at hq
   ·cases hq
   ·exact h'.live q e' hq
 |st b0 x0=>
  refine⟨h'.slots,fun b x hb=>?_,h'.live⟩
  simp only[Delta.app',i9]at hb;split at hb
  ·rename_i he
   cases hl:ct b0 s.boxes with
   |none=>simp[hl]at hb
   |some y=>
    simp[hl]at hb;subst hb
    exact⟨.inl (he▸hd.1),fun o q hq=>.inl (hd.2 o q hq)⟩
  ·exact h'.boxes b x hb
 |calls ids css fr=>
  refine⟨h'.slots,AG h'.boxes (fun b hb=>.inl (hd b hb)),fun q e' hq=>?_⟩
  cases fr with
  |none=>exact h'.live q e' hq
  |some e=>
   simp only[Delta.app',eK,j7]at hq;split at hq
   ·rename_i he;subst he;exact .inr rfl
   ·exact h'.live q e' hq
section
variable{C:bw} {id:Nat} {o:CO} {K:S->Prop} {s:S}
theorem CO.yB{o:CO} {t:Nat} (h:t∈o.op.rd):t∈o.rd:=by simp[CO.rd,h]
theorem eY(h:jS C id o K s):∃v d,En C id o s v d/\K ((d.app' id s).put o.dst v)/\∀U,s.gp U->((d.app' id s).put o.dst v).gp (eE U id):=by
 have main:∀{K:S->Prop},bN C id o.op (fun v s'=>K (s'.put o.dst v)) s->∃(v:SV) (d:Delta),(d.ok o.op s/\tf id o.op s v)/\(∀s2,oq o.rd o.op.ta o.op.isApp s s2->∀K':S->Prop,K' ((d.app' id s2).put o.dst v)->bN C id o.op (fun v s'=>K' (s'.put o.dst v)) s2)/\K ((d.app' id s).put o.dst v)/\∀U,s.gp U->((d.app' id s).put o.dst v).gp (eE U id):=by
  intro K h;obtain⟨v,d,hK,hok,hU,hfp,hs⟩:=qH h
  exact⟨v,d,⟨hok,hfp⟩,fun s2 ag K' hk=>hs s2 (ag.sub fun t ht=>CO.yB ht) _ hk,hK,fun U hU'=>Ft (Lm hU' (hU U hU').2) (hU U hU').1⟩
 have skip:K (s.put o.dst .undef)->(∀s2,oq o.rd o.op.ta o.op.isApp s s2->∀K',K' (s2.put o.dst .undef)->jS C id o K' s2)->∃v d,En C id o s v d/\K ((d.app' id s).put o.dst v)/\∀U,s.gp U->((d.app' id s).put o.dst v).gp (eE U id):=by
  intro hK hs
  exact⟨.undef,.no,⟨⟨trivial,.undef⟩,hs⟩,hK,fun U hU=>Ft (xS (fun n h=>.inl h) hU) trivial⟩
 unfold jS eA at h
 cases hg:o.g with
 |none=>
  simp only[hg]at h;obtain⟨v,d,h1,h2,h3,h4⟩:=main h
  exact⟨v,d,⟨h1,fun s2 ag K' hk=>by unfold jS eA;simp only[hg];exact h2 s2 ag K' hk⟩,h3,h4⟩
 |some p=>
  obtain⟨t,want⟩:=p
  have htm:t∈o.rd:=by simp[CO.rd,hg]
  simp only[hg]at h
  cases hl:lk t s.slots with
  |none=>simp[hl]at h
  |some v=>
   have hl2:∀s2,oq o.rd o.op.ta o.op.isApp s s2->lk t s2.slots=some v:=fun s2 ag=>by rw[ag.slots t htm,hl]
   simp only[hl]at h
   cases v with
   |ptr b o=>exact h.elim
   |rp cs=>exact h.elim
   |vs _ _ _ _=>exact h.elim
   |nD _ _ _=>exact h.elim
   |raw _ _=>exact h.elim
   |pt _ _=>exact h.elim
   |undef=>exact skip h fun s2 ag K' hk=>by unfold jS eA;simp only[hg,hl2 s2 ag];exact hk
   |dat a q=>
    cases a<;>try(exact h.elim)
    rename_i b
    by_cases hb:b=want
    ·obtain⟨v,d,h1,h2,h3,h4⟩:=main (h.1 hb)
     exact⟨v,d,⟨h1,fun s2 ag K' hk=>by
      unfold jS eA;simp only[hg,hl2 s2 ag]
      exact⟨fun _=>h2 s2 ag K' hk,fun hn=>by subst hb;cases b<;>cases hn⟩⟩,h3,h4⟩
    ·have hb':b=!want:=by cases b<;>cases want<;>simp_all
     exact skip (h.2 hb') fun s2 ag K' hk=>by
      unfold jS eA;simp only[hg,hl2 s2 ag]
      exact⟨fun e=>absurd e hb,fun _=>hk⟩
end
structure EB (α:Type) where
 tgt:Nat
 g:Option α->Option α
def EB.ap{α:Type} (e:EB α) (f:Nat->Option α):Nat->Option α:=fun c=>if c=e.tgt then e.g (f c)else f c
def w5{α:Type} (l:List (EB α)) (f:Nat->Option α):Nat->Option α:=l.foldl (fun f e=>e.ap f) f
theorem EB.comm{α:Type} {e e':EB α} (h:e.tgt≠e'.tgt) (f:Nat->Option α):e.ap (e'.ap f)=e'.ap (e.ap f):=by
 funext c
 simp only[EB.ap]
 by_cases h1:c=e.tgt
 ·have h2:c≠e'.tgt:=fun e2=>h (h1.symm.trans e2)
  simp[h1,h2]
  have:¬e.tgt=e'.tgt:=h
  simp[this]
 ·simp[h1]
theorem AH{α:Type} {e:EB α}:∀{l:List (EB α)} {f:Nat->Option α},(∀e'∈l,e.tgt≠e'.tgt)->w5 l (e.ap f)=e.ap (w5 l f)
 |[],f,_=>rfl
 |a::l,f,h=>by
  show w5 l (a.ap (e.ap f))=e.ap (w5 l (a.ap f))
  rw[<-EB.comm (h a List.mem_cons_self)]
  exact AH fun e' he'=>h e' (List.mem_cons_of_mem _ he')
theorem yC{α:Type} {l':List (EB α)}:∀{l:List (EB α)} {f:Nat->Option α},(∀e∈l,∀e'∈l',e.tgt≠e'.tgt)->w5 l (w5 l' f)=w5 l' (w5 l f)
 |[],f,_=>rfl
 |e::l,f,h=>by
  show w5 l (e.ap (w5 l' f))=w5 l' (w5 l (e.ap f))
  rw[<-AH (h e List.mem_cons_self)]
  exact yC fun a ha=>h a (List.mem_cons_of_mem _ ha)
theorem oy{α:Type} {c:Nat}:∀{l:List (EB α)} {f:Nat->Option α},(∀e∈l,e.tgt≠c)->w5 l f c=f c
 |[],f,_=>rfl
 |e::l,f,h=>by
  show w5 l (e.ap f) c=f c
  rw[oy fun a ha=>h a (List.mem_cons_of_mem _ ha)]
  exact if_neg (fun e2=>h e List.mem_cons_self e2.symm)
def wB:Delta->List Nat
 | .st b _=>[b]
 | .calls ids _ _=>ids
 | .BH ids _=>ids
 |_=>[]
def eB(d:Delta) (id:Nat):List (EB bY):=
 match d with
 | .box b=>[⟨id,fun _=>some b⟩]
 | .st b x=>[⟨b,Option.map fun _=>x⟩]
 | .calls ids css _=>(ids.zip css).map fun p=>⟨p.1,Option.map fun _=>⟨p.2,[]⟩⟩
 | .BH ids css=>(ids.zip css).map fun p=>⟨p.1,fun _=>none⟩
 |_=>[]
def eL(d:Delta) (id:Nat):List (EB Nat):=
 match d with
 | .live e=>[⟨id,fun _=>some e⟩]
 | .app q e=>[⟨q,fun _=>none⟩,⟨id,fun _=>some e⟩]
 | .calls _ _ (some e)=>[⟨id,fun _=>some e⟩]
 |_=>[]
def fz(d:Delta):SV->SV:=
 match d with
 | .BH ids css=>fun v=>(ids.zip css).foldl (fun v p=>jZ p.1 p.2 v) v
 |_=>fun v=>v
theorem AI:∀{ids:List Nat} {css:List (List AV)} {l:List (Nat×bY)},(fun b=>ct b (dz ids css l))=w5 ((ids.zip css).map fun p=>(⟨p.1,Option.map fun _=>⟨p.2,[]⟩⟩:EB bY)) (fun b=>ct b l)
 |[],css,l=>by cases css<;>rfl
 |i::ids,[],l=>rfl
 |i::ids,cs::css,l=>by
  show(fun b=>ct b (dz ids css (nW i ⟨cs,[]⟩ l)))=_
  rw[AI (ids:=ids) (css:=css)]
  refine congrArg (w5 _) (funext fun b=>?_)
  rw[i9]
  show _=if b=i then _ else _
  split
  ·rename_i e;subst e;rfl
  ·rfl
theorem CT:∀{ids:List Nat} {css:List (List AV)} {s:S},(fun b=>ct b (gM ids css s).boxes)=w5 ((ids.zip css).map fun p=>(⟨p.1,fun _=>none⟩:EB bY)) (fun b=>ct b s.boxes)
 |[],css,s=>by cases css<;>rfl
 |i::ids,[],s=>rfl
 |i::ids,cs::css,s=>by
  show(fun b=>ct b (gM ids css {s with slots:=yo i cs s.slots,boxes:=kZ i s.boxes}).boxes)=_
  rw[CT (ids:=ids) (css:=css)]
  refine congrArg (w5 _) (funext fun b=>?_)
  rw[mT];rfl
theorem yD:∀{ids:List Nat} {css:List (List AV)} {s:S} (t:Nat),lk t (gM ids css s).slots=(lk t s.slots).map fun v=>(ids.zip css).foldl (fun v p=>jZ p.1 p.2 v) v
 |[],css,s,t=>by cases css<;>simp[gM]
 |i::ids,[],s,t=>by simp[gM]
 |i::ids,cs::css,s,t=>by
  show lk t (gM ids css {s with slots:=yo i cs s.slots,boxes:=kZ i s.boxes}).slots=_
  rw[yD (ids:=ids) (css:=css) t,uO,Option.map_map]
  rfl
theorem tT(d:Delta) (id:Nat) (s:S):(fun b=>ct b (d.app' id s).boxes)=w5 (eB d id) (fun b=>ct b s.boxes):=by
 cases d with
 |box b=>funext c;simp only[Delta.app',ct,j7];show _=if c=id then _ else _;rfl
 |st b x=>
  funext c;simp only[Delta.app',i9]
  show _=if c=b then _ else _
  split
  ·rename_i e;subst e;rfl
  ·rfl
 |calls ids css fr=>exact AI
 |BH ids css=>exact CT
 |_=>rfl
theorem vY(d:Delta) (id:Nat) (s:S):(fun b=>eK b (d.app' id s).live)=w5 (eL d id) (fun b=>eK b s.live):=by
 cases d with
 |live e=>funext c;simp only[Delta.app',eK,j7];rfl
 |app q e=>funext c;simp only[Delta.app',eK,j7,si];show _=if c=id then _ else if c=q then _ else _;rfl
 |calls ids css fr=>cases fr with
  |none=>rfl
  |some e=>funext c;simp only[Delta.app',eK,j7];rfl
 |BH ids css=>simp only[Delta.app',AF];rfl
 |_=>rfl
theorem o8(d:Delta) (id:Nat) (s:S) (t:Nat):lk t (d.app' id s).slots=(lk t s.slots).map (fz d):=by
 cases d with
 |BH ids css=>exact yD t
 |_=>simp[Delta.app',fz]
theorem BI{d:Delta} {id:Nat} {e:EB bY} (h:e∈eB d id):e.tgt=id\/e.tgt∈wB d:=by
 cases d with
 |box b=>simp[eB]at h;subst h;exact .inl rfl
 |st b x=>simp[eB]at h;subst h;exact .inr (by simp[wB])
 |calls ids css fr=>
  simp only[eB,List.mem_map]at h
  obtain⟨p,hm,rfl⟩:=h;exact .inr (List.of_mem_zip hm).1
 |BH ids css=>
  simp only[eB,List.mem_map]at h
  obtain⟨p,hm,rfl⟩:=h;exact .inr (List.of_mem_zip hm).1
 |_=>simp[eB]at h
def SV.fix(v:SV):Prop:=(∀b cs,jZ b cs v=v)/\∀b,¬v.has b
theorem oz{v:SV} (h:∀b cs,jZ b cs v=v):∀{l:List (Nat×List AV)},l.foldl (fun v p=>jZ p.1 p.2 v) v=v
 |[]=>rfl
 |p::l=>by rw[List.foldl_cons,h,oz h]
theorem yE:∀{l:List (Nat×List AV)} {v:SV},l.foldl (fun v p=>jZ p.1 p.2 v) v=v\/∃b v',v.has b/\(∀b',v.has b'->b'=b)/\b∈l.map (·.1)/\l.foldl (fun v p=>jZ p.1 p.2 v) v=v'/\v'.fix
 |[],v=>.inl rfl
 |p::l,v=>by
  simp only[List.foldl_cons]
  cases v with
  |ptr b o=>
   by_cases e:b=p.1
   ·have:jZ p.1 p.2 (.ptr b o)=.rp (p.2.drop o):=by simp[jZ,e]
    rw[this]
    have hf:(SV.rp (p.2.drop o)).fix:=⟨fun _ _=>rfl,fun _ h=>h⟩
    exact .inr ⟨b,_,rfl,fun b' h=>Eq.symm h,by simp[e],oz hf.1,hf⟩
   ·have:jZ p.1 p.2 (.ptr b o)=.ptr b o:=by
     have e':(b==p.1)=false:=by simpa using e
     simp[jZ,e']
    rw[this]
    rcases yE (l:=l) (v:=.ptr b o)with h|⟨b',v',h,hu,hm,h2,h3⟩
    ·exact .inl h
    ·exact .inr ⟨b',v',h,hu,List.mem_cons_of_mem _ hm,h2,h3⟩
  |vs b o n z=>
   by_cases e:(b==p.1&&decide (n*z<=(p.2.drop o).length))=true
   ·have:jZ p.1 p.2 (.vs b o n z)=.dat (.sl (bZ z n (p.2.drop o))) none:=by simp only[jZ,e,cond_true]
    rw[this]
    have hf:(SV.dat (.sl (bZ z n (p.2.drop o))) none).fix:=⟨fun _ _=>rfl,fun _ h=>h⟩
    simp only[Bool.and_eq_true,beq_iff_eq]at e
    exact .inr ⟨b,_,rfl,fun b' h=>Eq.symm h,by simp[e.1],oz hf.1,hf⟩
   ·have:jZ p.1 p.2 (.vs b o n z)=.vs b o n z:=by simp only[jZ,Bool.eq_false_iff.2 e,cond_false]
    rw[this]
    rcases yE (l:=l) (v:=.vs b o n z)with h|⟨b',v',h,hu,hm,h2,h3⟩
    ·exact .inl h
    ·exact .inr ⟨b',v',h,hu,List.mem_cons_of_mem _ hm,h2,h3⟩
  |pt k ps=>exact .inl (oz (fun _ _=>rfl))
  |_=>exact .inl (oz (fun _ _=>rfl))
theorem lp(d:Delta) (v:SV):fz d v=v\/∃b v',v.has b/\(∀b',v.has b'->b'=b)/\b∈wB d/\fz d v=v'/\v'.fix/\∃ids css,d=.BH ids css:=by
 cases d with
 |BH ids css=>
  rcases yE (l:=ids.zip css) (v:=v)with h|⟨b,v',h1,hu,h2,h3,h4⟩
  ·exact .inl h
  ·refine .inr ⟨b,v',h1,hu,?_,h3,h4,ids,css,rfl⟩
   obtain⟨p,hp,rfl⟩:=List.mem_map.1 h2;exact(List.of_mem_zip hp).1
 |_=>exact .inl rfl
theorem Ib(d:Delta) {v:SV} (h:v.fix):fz d v=v:=by
 cases d with
 |BH ids css=>exact oz h.1
 |_=>rfl
theorem Lo{dx dy:Delta} (hd:∀b∈wB dx,b∉wB dy) (v:SV):fz dy (fz dx v)=fz dx (fz dy v):=by
 rcases lp dx v with h|⟨b,v',hb,hu,hw,h,hf,_⟩
 ·rw[h]
  rcases lp dy v with k|⟨b',u',hb',hu',hw',k,kf,_⟩
  ·rw[k,h]
  ·rw[k,Ib dx kf]
 ·rcases lp dy v with k|⟨b',u',hb',hu',hw',k,kf,_⟩
  ·rw[k,h,Ib dy hf]
  ·exact absurd hw' (hu b' hb'▸hd b hw)
def Oz:Delta->Bool
 | .BH _ _=>true
 |_=>false
theorem Ic{C:bw} {id:Nat} {o:CO} {s:S} {v:SV} {d:Delta} (h:En C id o s v d):∀b∈wB d,∃t∈o.op.Fe,CB b s t:=by
 intro b hb
 have h:=h.1.1
 cases d<;>simp[wB]at hb
 ·subst hb;exact h.2
 ·exact h.2 b hb
 ·exact h.2 b hb
theorem xT{C:bw} {id:Nat} {o:CO} {s:S} {v:SV} {d:Delta} (h:En C id o s v d) (hf:Oz d=true):o.op.wU=true:=by
 have h:=h.1.1
 cases d<;>first|(cases hf;done)|exact h.1
theorem Fu{o:bR} {t:Nat} (h:t∈o.Fe):t∈o.ta:=by cases o<;>first|exact h|(simp[bR.Fe]at h;done)
theorem Ie{o:bR} {t:Nat} (h:t∈o.ta):t∈o.rd:=by cases o<;>simp[bR.ta]at h<;>simp[bR.rd,h]
theorem vZ{o:bR} {t:Nat} (h:t∈o.qq):t∈o.rd:=by
 cases o<;>simp[bR.qq]at h<;>first|(simp[bR.rd,h];done)|(rcases h with h|h<;>simp[bR.rd,h])
def Clear(x y:CO) (s:S):Prop:=∀b,(∃t∈x.op.Fe,CB b s t)->
 (∀t∈y.op.ta,¬CB b s t)/\(x.op.wU=true->∀t∈y.rd,¬CB b s t)
theorem SV.yF{U:Nat->Prop} {v:SV} {b:Nat} (h:v.has b) (hU:v.gp U):U b:=by
 cases v<;>try(exact h.elim)
 ·have h:_=b:=h
  subst h;exact hU
 ·have h:_=b:=h
  subst h;exact hU
 ·obtain⟨p,hp,rfl⟩:=h;exact hU p hp
theorem Eo{x y:CO} (h:x.indep y=true):(∀d,x.dst=some d->d∉y.rd/\y.dst≠some d)/\(∀d,y.dst=some d->d∉x.rd)/\(x.op.isApp=true->y.op.isApp=false):=by
 unfold CO.indep at h;simp only[Bool.and_eq_true,Bool.not_eq_true']at h;obtain⟨⟨h1,h2⟩,h5⟩:=h
 refine⟨fun d hd=>?_,fun d hd=>?_,fun hx=>?_⟩
 ·rw[hd]at h1
  simp at h1;exact⟨h1.1,h1.2⟩
 ·rw[hd]at h2
  simpa using h2
 ·rw[hx]at h5
  simpa using h5
theorem Lp{C:bw} {x y:CO} (hap:x.indep y=true) {U:Nat->Prop} {s:S} (hU:s.gp U) {i j:Nat} (hi:¬U i) (hj:¬U j) (hij:i≠j) (cx:Clear x y s) (cy:Clear y x s)
  {vx vy:SV} {dx dy:Delta} (hx:En C i x s vx dx) (hy:En C j y ((dx.app' i s).put x.dst vx) vy dy):
  oq y.rd y.op.ta y.op.isApp ((dx.app' i s).put x.dst vx) s/\oq x.rd x.op.ta x.op.isApp s ((dy.app' j s).put y.dst vy)/\
   pW ((dy.app' j ((dx.app' i s).put x.dst vx)).put y.dst vy) ((dx.app' i ((dy.app' j s).put y.dst vy)).put x.dst vx):=by
 obtain⟨h1,h2,h5⟩:=Eo hap
 have wx:=Ic hx
 have wxU:∀b∈wB dx,U b:=fun b hb=>by obtain⟨t,_,v,hl,hv⟩:=wx b hb;exact SV.yF hv (hU.slots t _ hl)
 -- what y looks at
 have sy:∀t∈y.rd,lk t ((dx.app' i s).put x.dst vx).slots=lk t s.slots:=fun t ht=>by
  rw[o7,if_neg (fun e=>(h1 t e).1 ht),o8]
  cases hl:lk t s.slots with
  |none=>rfl
  |some v=>
   simp only[Option.map_some]
   rcases lp dx v with h|⟨b,v',hvb,_,hb,h,_,ids,css,hd⟩
   ·rw[h]
   ·exact absurd (⟨v,hl,hvb⟩:CB b s t) ((cx b (wx b hb)).2 (xT hx (by rw[hd];rfl)) t ht)
 have wy:∀b∈wB dy,∃t∈y.op.Fe,CB b s t:=fun b hb=>by
  obtain⟨t,ht,v,hl,hv⟩:=Ic hy b hb;rw[sy t (CO.yB (Ie (Fu ht)))]at hl;exact⟨t,ht,v,hl,hv⟩
 have wyU:∀b∈wB dy,U b:=fun b hb=>by obtain⟨t,_,v,hl,hv⟩:=wy b hb;exact SV.yF hv (hU.slots t _ hl)
 have hdis:∀b∈wB dx,b∉wB dy:=fun b hb hb'=>by
  obtain⟨t,ht,hl⟩:=wy b hb';exact(cx b (wx b hb)).1 t (Fu ht) hl
 have sx:∀t∈x.rd,lk t ((dy.app' j s).put y.dst vy).slots=lk t s.slots:=fun t ht=>by
  rw[o7,if_neg (fun e=>h2 t e ht),o8]
  cases hl:lk t s.slots with
  |none=>rfl
  |some v=>
   simp only[Option.map_some]
   rcases lp dy v with h|⟨b,v',hvb,_,hb,h,_,ids,css,hd⟩
   ·rw[h]
   ·exact absurd (⟨v,hl,hvb⟩:CB b s t) ((cy b (wy b hb)).2 (xT hy (by rw[hd];rfl)) t ht)
 -- tokens
 have tx:∀q0 e,dx=.app q0 e->U q0/\x.op.isApp=true:=fun q0 e hd=>by
  have:=hx.1.1;rw[hd]at this
  obtain⟨h,t,ht,a,hl⟩:=this;exact⟨hU.slots t _ hl,h⟩
 have ty:∀q0 e,dy=.app q0 e->U q0/\y.op.isApp=true:=fun q0 e hd=>by
  have:=hy.1.1;rw[hd]at this
  obtain⟨h,t,ht,a,hl⟩:=this;rw[sy t (CO.yB ht)]at hl;exact⟨hU.slots t _ hl,h⟩
 have lx:∀e∈eL dx i,e.tgt=i\/(U e.tgt/\x.op.isApp=true):=fun e he=>by
  cases hdx:dx<;>rw[hdx]at he<;>simp[eL]at he
  ·subst he;exact .inl rfl
  ·rcases he with rfl|rfl
   ·exact .inr (tx _ _ hdx)
   ·exact .inl rfl
  ·rename_i fr;cases fr<;>simp at he;subst he;exact .inl rfl
 have ly:∀e∈eL dy j,e.tgt=j\/(U e.tgt/\y.op.isApp=true):=fun e he=>by
  cases hdy:dy<;>rw[hdy]at he<;>simp[eL]at he
  ·subst he;exact .inl rfl
  ·rcases he with rfl|rfl
   ·exact .inr (ty _ _ hdy)
   ·exact .inl rfl
  ·rename_i fr;cases fr<;>simp at he;subst he;exact .inl rfl
 have bxs:∀(d:Delta) (id:Nat) (s:S) (b:Nat),ct b (d.app' id s).boxes=w5 (eB d id) (fun b=>ct b s.boxes) b:=fun d id s b=>congrFun (tT d id s) b
 have lvs:∀(d:Delta) (id:Nat) (s:S) (b:Nat),eK b (d.app' id s).live=w5 (eL d id) (fun b=>eK b s.live) b:=fun d id s b=>congrFun (vY d id s) b
 refine⟨⟨fun t ht=>(sy t ht).symm,fun t ht b z hv hb=>?_,fun hap' t ht a q e hv hq=>?_⟩,⟨sx,fun t ht b z hv hb=>?_,fun hap' t ht a q e hv hq=>?_⟩,?_⟩
 ·obtain⟨v,hv,hvb⟩:=hv
  rw[sy t (CO.yB (Ie ht))]at hv
  have hUb:U b:=SV.yF hvb (hU.slots t _ hv)
  rw[i7,bxs,oy]at hb
  ·exact hb
  ·intro e he hee
   rcases BI he with h|h
   ·exact hi (by rw[<-h,hee];exact hUb)
   ·exact(cx _ (wx _ h)).1 t ht (by rw[hee];exact⟨v,hv,hvb⟩)
 ·rw[sy t ht]at hv
  have hUq:U q:=hU.slots t _ hv
  rw[j8,lvs,oy]at hq
  ·exact hq
  ·intro e he hee
   rcases lx e he with h|⟨_,h⟩
   ·exact hi (by rw[<-h,hee];exact hUq)
   ·have:=h5 h;rw[hap']at this;cases this
 ·have hUb:U b:=let ⟨_,h1,h2⟩:=hv;SV.yF h2 (hU.slots t _ h1)
  rw[i7,bxs,oy]
  ·exact hb
  ·intro e he hee
   rcases BI he with h|h
   ·exact hj (by rw[<-h,hee];exact hUb)
   ·exact(cy _ (wy _ h)).1 t ht (by rw[hee];exact hv)
 ·have hUq:U q:=hU.slots t _ hv
  rw[j8,lvs,oy]
  ·exact hq
  ·intro e he hee
   rcases ly e he with h|⟨_,h⟩
   ·exact hj (by rw[<-h,hee];exact hUq)
   ·have:=h5 hap';rw[h]at this;cases this
 ·have vxs:fz dy vx=vx:=by
   rcases lp dy vx with h|⟨b,v',hv,_,hb,h,_,ids,css,hd⟩
   ·exact h
   ·exfalso
    rcases hx.1.2 b hv with⟨rfl,_⟩|⟨t,ht,hl⟩
    ·exact hi (wyU _ hb)
    ·exact(cy b (wy b hb)).2 (xT hy (by rw[hd];rfl)) t (CO.yB (vZ ht)) hl
  have vys:fz dx vy=vy:=by
   rcases lp dx vy with h|⟨b,v',hv,_,hb,h,_,ids,css,hd⟩
   ·exact h
   ·exfalso
    rcases hy.1.2 b hv with⟨rfl,_⟩|⟨t,ht,u,hl,hu⟩
    ·exact hj (wxU _ hb)
    ·rw[sy t (CO.yB (vZ ht))]at hl
     exact(cx b (wx b hb)).2 (xT hx (by rw[hd];rfl)) t (CO.yB (vZ ht)) ⟨u,hl,hu⟩
  refine⟨fun t=>?_,fun b=>?_,fun q=>?_⟩
  ·simp only[o7,o8]
   by_cases ex:x.dst=some t
   ·have ey:y.dst≠some t:=(h1 t ex).2
    simp[ex,ey,vxs]
   ·by_cases ey:y.dst=some t
    ·simp[ex,ey,vys]
    ·simp only[ex,ey,if_false,Option.map_map]
     congr 1
     funext v
     exact(Lo hdis v).symm
  ·rw[i7,i7,bxs,bxs]
   have e1:(fun b=>ct b ((dx.app' i s).put x.dst vx).boxes)=w5 (eB dx i) (fun b=>ct b s.boxes):=by rw[i7];exact tT dx i s
   have e2:(fun b=>ct b ((dy.app' j s).put y.dst vy).boxes)=w5 (eB dy j) (fun b=>ct b s.boxes):=by rw[i7];exact tT dy j s
   rw[e1,e2]
   refine congrFun (yC (fun e he e' he' h=>?_)) b
   rcases BI he with k|k<;>rcases BI he' with k'|k'
   ·exact hij (by rw[<-k,<-k',h])
   ·exact hi (wyU i (by rw[<-k,h];exact k'))
   ·exact hj (wxU j (by rw[<-k',<-h];exact k))
   ·exact hdis _ k (by rw[h];exact k')
  ·rw[j8,j8,lvs,lvs]
   have e1:(fun b=>eK b ((dx.app' i s).put x.dst vx).live)=w5 (eL dx i) (fun b=>eK b s.live):=by rw[j8];exact vY dx i s
   have e2:(fun b=>eK b ((dy.app' j s).put y.dst vy).live)=w5 (eL dy j) (fun b=>eK b s.live):=by rw[j8];exact vY dy j s
   rw[e1,e2]
   refine congrFun (yC (fun e he e' he' h=>?_)) q
   rcases lx e he with k|⟨k,kk⟩<;>rcases ly e' he' with k'|⟨k',kk'⟩
   ·exact hij (by rw[<-k,<-k',h])
   ·exact hi (by rw[<-k,h];exact k')
   ·exact hj (by rw[<-k',<-h];exact k)
   ·have:=h5 kk;rw[kk']at this;cases this
end Go.Eng
