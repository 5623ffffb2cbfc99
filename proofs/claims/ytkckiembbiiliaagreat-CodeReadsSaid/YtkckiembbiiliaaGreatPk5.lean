/- The engine and the library,part 5 of 20: what the proofs of this seat need of them. -/
import Derived.Test.YtkckiembbiiliaaGreatPk4
set_option linter.unnecessarySimpa false
set_option linter.unusedSimpArgs false
set_option linter.unusedVariables false
set_option linter.defProp false
set_option maxRecDepth 10000
set_option maxHeartbeats 4000000
namespace Go.Eng
open Go
def SV.has(b:Nat):SV->Prop
 | .ptr b' _=>b'=b
 | .pt _ ps=>∃p∈ps,p.1=b
 |_=>False
def Cx(b:Nat) (s:S) (t:Nat):Prop:=∃v,lk t s.slots=some v/\v.has b
theorem Cx.ptr{b off:Nat} {s:S} {t:Nat} (h:lk t s.slots=some (.ptr b off)):Cx b s t:=⟨_,h,rfl⟩
structure ou (l lb:List Nat) (ap:Bool) (s s2:S):Prop where
 slots:∀t∈l,lk t s2.slots=lk t s.slots
 boxes:∀t∈lb,∀b x,Cx b s t->cm b s.boxes=some x->cm b s2.boxes=some x
 live:ap=true->∀t∈l,∀a q e,lk t s.slots=some (.dat a (some q))->er q s.live=some e->er q s2.live=some e
section
variable{l lb:List Nat} {ap:Bool} {s s2:S}
theorem ou.sub(h:ou l lb ap s s2) {l':List Nat} (hs:∀t∈l',t∈l):ou l' lb ap s s2:=
 ⟨fun t ht=>h.slots t (hs t ht),h.boxes,fun e t ht=>h.live e t (hs t ht)⟩
theorem ou.bQ(h:ou l lb ap s s2) {x:bD} (hx:∀t∈x.rd,t∈l) {v:SV} (hv:Eng.bQ s x=some v):Eng.bQ s2 x=some v:=by
 cases x with
 |t n=>simp only[Eng.bQ]at hv⊢;rw[h.slots n (hx n (by simp[bD.rd])),hv]
 |k v=>exact hv
theorem ou.aR(h:ou l lb ap s s2) {x:bD} (hx:∀t∈x.rd,t∈l) {v:AV} (hv:Eng.aR s x=some v):Eng.aR s2 x=some v:=by
 unfold Eng.aR at hv⊢
 cases ho:Eng.bQ s x with
 |none=>rw[ho]at hv;cases hv
 |some u=>rw[h.bQ hx ho];rw[ho]at hv;exact hv
theorem ou.dA(h:ou l lb ap s s2):∀{xs:List bD} (hx:∀t∈bk xs,t∈l) {vs:List AV} (hv:Eng.dA s xs=some vs),Eng.dA s2 xs=some vs
 |[],_,vs,hv=>hv
 |x::xs,hx,vs,hv=>by
  simp only[Eng.dA]at hv⊢
  cases h1:Eng.aR s x with
  |none=>simp[h1]at hv
  |some a=>
   cases h2:Eng.dA s xs with
   |none=>simp[h1,h2]at hv
   |some as=>
    rw[h.aR (fun t ht=>hx t (by simp[bk,ht])) h1,h.dA (fun t ht=>hx t (by simp[bk,ht])) h2]
    simpa[h1,h2]using hv
theorem ou.jf(h:ou l lb ap s s2):∀{xs:List (Nat×Nat×bD)} (hx:∀t∈uF xs,t∈l) {vs:List (Nat×List AV)} (hv:Eng.jf s xs=some vs),Eng.jf s2 xs=some vs
 |[],_,vs,hv=>hv
 |(o,z,x)::xs,hx,vs,hv=>by
  simp only[Eng.jf]at hv⊢
  cases h1:Eng.aR s x with
  |none=>simp[h1]at hv
  |some a=>
   cases h2:Eng.jf s xs with
   |none=>simp[h1,h2]at hv
   |some as=>
    rw[h.aR (fun t ht=>hx t (by simp[uF,ht])) h1,h.jf (fun t ht=>hx t (by simp[uF,ht])) h2]
    simpa only[h1,h2]using hv
theorem ou.lY(h:ou l lb ap s s2) {z:Nat}:∀{xs:List bD} (hx:∀t∈bk xs,t∈l) {vs:List (List AV)} (hv:Eng.lY s z xs=some vs),Eng.lY s2 z xs=some vs
 |[],_,vs,hv=>hv
 |x::xs,hx,vs,hv=>by
  simp only[Eng.lY]at hv⊢
  cases h1:Eng.aR s x with
  |none=>simp[h1]at hv
  |some a=>
   cases h2:Eng.lY s z xs with
   |none=>simp[h1,h2]at hv
   |some as=>
    rw[h.aR (fun t ht=>hx t (by simp[bk,ht])) h1,h.lY (fun t ht=>hx t (by simp[bk,ht])) h2]
    simpa only[h1,h2]using hv
theorem ou.yl(h:ou l lb ap s s2) {x:Option bD} (hx:∀t∈Fa x,t∈l) {i:Int} (hv:Eng.yl s x=some i):Eng.yl s2 x=some i:=by
 cases x with
 |none=>exact hv
 |some x=>
  simp only[Eng.yl]at hv⊢
  cases h1:Eng.aR s x with
  |none=>simp[h1,Eng.vR]at hv
  |some a=>rw[h.aR hx h1];rw[h1]at hv;exact hv
theorem ou.ym(h:ou l lb ap s s2) {xs:List (List AV)} {x:Option bD} (hx:∀t∈Fa x,t∈l) {i:Int} (hv:Eng.ym s xs x=some i):Eng.ym s2 xs x=some i:=by
 cases x with
 |none=>exact hv
 |some x=>
  simp only[Eng.ym]at hv⊢
  cases h1:Eng.aR s x with
  |none=>simp[h1,Eng.vR]at hv
  |some a=>rw[h.aR hx h1];rw[h1]at hv;exact hv
theorem ou.bh(h:ou l lb ap s s2) {hh:Bool}:∀{xs:List bD} (hx:∀t∈bk xs,t∈l) (hx':∀t∈bk xs,t∈lb) {p:List (Option AV)×List Nat} (hv:Eng.de hh s xs=some p) {css:List (List AV)} (hc:Eng.bh s.boxes p.2=some css),Eng.de hh s2 xs=some p/\Eng.bh s2.boxes p.2=some css
 |[],_,_,p,hv,css,hc=>by
  simp only[Eng.de,Option.some.injEq]at hv⊢;subst hv;exact⟨rfl,hc⟩
 |x::xs,hx,hx',p,hv,css,hc=>by
  simp only[Eng.de]at hv⊢
  split at hv<;>try(cases hv;done)
  ·rename_i a q as bs h1 h2
   cases hv
   obtain⟨i1,i2⟩:=h.bh (fun t ht=>hx t (by simp[bk,ht])) (fun t ht=>hx' t (by simp[bk,ht])) h2 hc
   rw[h.bQ (fun t ht=>hx t (by simp[bk,ht])) h1,i1]
   exact⟨rfl,i2⟩
  ·rename_i cs as bs h1 h2
   cases hv
   obtain⟨i1,i2⟩:=h.bh (fun t ht=>hx t (by simp[bk,ht])) (fun t ht=>hx' t (by simp[bk,ht])) h2 hc
   rw[h.bQ (fun t ht=>hx t (by simp[bk,ht])) h1,i1]
   exact⟨rfl,i2⟩
  ·rename_i b as bs h1 h2
   cases hv;simp only[Eng.bh]at hc
   split at hc<;>try(cases hc;done)
   rename_i y css' hy hcs;cases hc
   obtain⟨i1,i2⟩:=h.bh (fun t ht=>hx t (by simp[bk,ht])) (fun t ht=>hx' t (by simp[bk,ht])) h2 hcs
   rw[h.bQ (fun t ht=>hx t (by simp[bk,ht])) h1,i1]
   refine⟨rfl,?_⟩
   have hyb:Eng.cm b s2.boxes=some y:=by
    cases x with
    |t n=>exact h.boxes n (hx' n (by simp[bk,bD.rd])) b y (.ptr h1) hy
    |k v=>simp[Eng.bQ]at h1
   simp only[Eng.bh,hyb,i2]
  ·rename_i b as bs h1 h2
   cases hh<;>cases hv
   simp only[Eng.bh]at hc
   split at hc<;>try(cases hc;done)
   rename_i y css' hy hcs;cases hc
   obtain⟨i1,i2⟩:=h.bh (fun t ht=>hx t (by simp[bk,ht])) (fun t ht=>hx' t (by simp[bk,ht])) h2 hcs
   rw[h.bQ (fun t ht=>hx t (by simp[bk,ht])) h1,i1]
   refine⟨rfl,?_⟩
   have hyb:Eng.cm b s2.boxes=some y:=by
    cases x with
    |t n=>exact h.boxes n (hx' n (by simp[bk,bD.rd])) b y ⟨_,h1,(b,0),by simp,rfl⟩ hy
    |k v=>simp[Eng.bQ]at h1
   simp only[Eng.bh,hyb,i2]
theorem ou.dU(h:ou l lb ap s s2) {hh:Bool}:∀{xs:List bD} (hx:∀t∈bk xs,t∈l) (hx':∀t∈bk xs,t∈lb) {p:List (Option AV)×List Nat} (hv:Eng.de hh s xs=some p) {css:List (List AV)} (hc:Eng.dU s.boxes p.2=some css),Eng.de hh s2 xs=some p/\Eng.dU s2.boxes p.2=some css
 |[],_,_,p,hv,css,hc=>by
  simp only[Eng.de,Option.some.injEq]at hv⊢;subst hv;exact⟨rfl,hc⟩
 |x::xs,hx,hx',p,hv,css,hc=>by
  simp only[Eng.de]at hv⊢
  split at hv<;>try(cases hv;done)
  ·rename_i a q as bs h1 h2
   cases hv
   obtain⟨i1,i2⟩:=h.dU (fun t ht=>hx t (by simp[bk,ht])) (fun t ht=>hx' t (by simp[bk,ht])) h2 hc
   rw[h.bQ (fun t ht=>hx t (by simp[bk,ht])) h1,i1]
   exact⟨rfl,i2⟩
  ·rename_i cs as bs h1 h2
   cases hv
   obtain⟨i1,i2⟩:=h.dU (fun t ht=>hx t (by simp[bk,ht])) (fun t ht=>hx' t (by simp[bk,ht])) h2 hc
   rw[h.bQ (fun t ht=>hx t (by simp[bk,ht])) h1,i1]
   exact⟨rfl,i2⟩
  ·rename_i b as bs h1 h2
   cases hv;simp only[Eng.dU]at hc
   split at hc<;>try(cases hc;done)
   rename_i cs css' hy hcs;cases hc
   obtain⟨i1,i2⟩:=h.dU (fun t ht=>hx t (by simp[bk,ht])) (fun t ht=>hx' t (by simp[bk,ht])) h2 hcs
   rw[h.bQ (fun t ht=>hx t (by simp[bk,ht])) h1,i1]
   refine⟨rfl,?_⟩
   have hyb:Eng.cm b s2.boxes=some ⟨cs,[]⟩:=by
    cases x with
    |t n=>exact h.boxes n (hx' n (by simp[bk,bD.rd])) b _ (.ptr h1) hy
    |k v=>simp[Eng.bQ]at h1
   simp only[Eng.dU,hyb,i2]
  ·rename_i b as bs h1 h2
   cases hh<;>cases hv
   simp only[Eng.dU]at hc
   split at hc<;>try(cases hc;done)
   rename_i cs css' hy hcs;cases hc
   obtain⟨i1,i2⟩:=h.dU (fun t ht=>hx t (by simp[bk,ht])) (fun t ht=>hx' t (by simp[bk,ht])) h2 hcs
   rw[h.bQ (fun t ht=>hx t (by simp[bk,ht])) h1,i1]
   refine⟨rfl,?_⟩
   have hyb:Eng.cm b s2.boxes=some ⟨cs,[]⟩:=by
    cases x with
    |t n=>exact h.boxes n (hx' n (by simp[bk,bD.rd])) b _ ⟨_,h1,(b,0),by simp,rfl⟩ hy
    |k v=>simp[Eng.bQ]at h1
   simp only[Eng.dU,hyb,i2]
theorem ou.cm(h:ou l lb ap s s2) {x:bD} (hx:∀t∈x.rd,t∈lb) {b off:Nat} {bx:cg} (hv:Eng.bQ s x=some (.ptr b off)) (hb:Eng.cm b s.boxes=some bx):Eng.cm b s2.boxes=some bx:=by
 cases x with
 |t n=>exact h.boxes n (hx n (by simp[bD.rd])) b bx (.ptr hv) hb
 |k v=>simp[Eng.bQ]at hv
end
inductive Delta where
 |no
 |box (b:cg)
 |live (e:Nat)
 |app (q e:Nat)
 |st (b:Nat) (x:cg)
 |calls (ids:List Nat) (css:List (List AV)) (fr:Option Nat)
 |Cy (ids:List Nat) (css:List (List AV))
def Delta.app'(d:Delta) (id:Nat) (s:S):S:=
 match d with
 | .no=>s
 | .box b=>{s with boxes:=(id,b)::s.boxes}
 | .live e=>{s with live:=(id,e)::s.live}
 | .app q e=>{s with live:=(id,e)::mq q s.live}
 | .st b x=>{s with boxes:=nZ b x s.boxes}
 | .calls ids css fr=>{s with boxes:=dc ids css s.boxes,live:=match fr with|some e=>(id,e)::s.live|none=>s.live}
 | .Cy ids css=>iB ids css s
def Delta.ok(d:Delta) (o:bT) (s:S):Prop:=
 match d with
 | .st b _=>o.wS=false/\∃t∈o.Fb,Cx b s t
 | .calls ids _ _=>o.wS=false/\∀b∈ids,∃t∈o.Fb,Cx b s t
 | .Cy ids _=>o.wS=true/\∀b∈ids,∃t∈o.Fb,Cx b s t
 | .app q _=>o.isApp=true/\∃t∈o.rd,∃a,lk t s.slots=some (.dat a (some q))
 |_=>True
def cg.gB(U:Nat->Prop) (x:cg):Prop:=∀o q,er o x.tags=some q->U q
def Delta.gB(U:Nat->Prop) (d:Delta):Prop:=
 match d with
 | .box b=>b.gB U
 | .app q _=>U q
 | .st b x=>U b/\x.gB U
 | .calls ids _ _=>∀b∈ids,U b
 |_=>True
structure S.gB (U:Nat->Prop) (s:S):Prop where
 slots:∀t v,lk t s.slots=some v->v.gB U
 boxes:∀b x,cm b s.boxes=some x->U b/\x.gB U
 live:∀q e,er q s.live=some e->U q
theorem S.gB.bQ{U:Nat->Prop} {s:S} (h:s.gB U) {x:bD} {v:SV} (hv:Eng.bQ s x=some v):v.gB U:=by
 cases x with
 |t n=>exact h.slots n v hv
 |k a=>simp only[Eng.bQ,Option.some.injEq]at hv;subst hv;trivial
theorem su{s:S} {x:bD} {b off:Nat} (h:bQ s x=some (.ptr b off)):∃t∈x.rd,Cx b s t:=by
 cases x with
 |t n=>exact⟨n,by simp[bD.rd],.ptr h⟩
 |k v=>simp[bQ]at h
theorem iE{s:S} {hh:Bool}:∀{xs:List bD} {p:List (Option AV)×List Nat},de hh s xs=some p->∀b∈p.2,∃t∈bk xs,Cx b s t
 |[],p,h,b,hb=>by simp[de]at h;subst h;cases hb
 |x::xs,p,h,b,hb=>by
  unfold de at h;split at h
  ·rename_i h1 h2
   cases h;obtain⟨t,ht,hl⟩:=iE h2 b hb
   exact⟨t,by simp[bk,ht],hl⟩
  ·rename_i h1 h2
   cases h;obtain⟨t,ht,hl⟩:=iE h2 b hb
   exact⟨t,by simp[bk,ht],hl⟩
  ·rename_i h1 h2
   cases h
   rcases List.mem_cons.1 hb with rfl|hb
   ·obtain⟨t,ht,hl⟩:=su h1
    exact⟨t,by simp[bk,ht],hl⟩
   ·obtain⟨t,ht,hl⟩:=iE h2 b hb
    exact⟨t,by simp[bk,ht],hl⟩
  ·rename_i h1 h2
   cases hh<;>cases h
   rcases List.mem_cons.1 hb with rfl|hb
   ·cases x with
    |t n=>exact⟨n,by simp[bk,bD.rd],_,h1,(b,0),by simp,rfl⟩
    |k v=>simp[bQ]at h1
   ·obtain⟨t,ht,hl⟩:=iE h2 b hb
    exact⟨t,by simp[bk,ht],hl⟩
  ·cases h
def tu(id:Nat) (o:bT) (s:S) (v:SV):Prop:=∀b,v.has b->(b=id/\o.HI=true)\/∃t∈o.qB,Cx b s t
theorem tu.dat{id:Nat} {o:bT} {s:S} {a:AV} {q:Option Nat}:tu id o s (.dat a q):=fun _ h=>h.elim
theorem tu.undef{id:Nat} {o:bT} {s:S}:tu id o s .undef:=fun _ h=>h.elim
theorem tu.rp{id:Nat} {o:bT} {s:S} {cs:List AV}:tu id o s (.rp cs):=fun _ h=>h.elim
theorem o7{s:S} {x:bD} {v:SV} {b:Nat} (h:bQ s x=some v) (hb:v.has b):∃t∈x.rd,Cx b s t:=by
 cases x with
 |t n=>exact⟨n,by simp[bD.rd],_,h,hb⟩
 |k a=>simp only[bQ,Option.some.injEq]at h;subst h;exact hb.elim
def Path(C:bz) (id:Nat) (o:bT) (K:SV->S->Prop) (s:S):Prop:=
 ∃v d,K v (Delta.app' d id s)/\d.ok o s/\(∀U,s.gB U->v.gB (eE U id)/\d.gB U)/\tu id o s v/\∀s2,ou o.rd o.tr o.isApp s s2->∀K':SV->S->Prop,K' v (d.app' id s2)->bJ C id o K' s2
section
variable{C:bz} {id:Nat} {o:bT} {K:SV->S->Prop} {s:S}
theorem Path.val{a:AV} (hK:K (.dat a none) s) (h:∀s2,ou o.rd o.tr o.isApp s s2->∀K':SV->S->Prop,K' (.dat a none) s2->bJ C id o K' s2):Path C id o K s:=
 ⟨.dat a none,.no,hK,trivial,fun U _=>⟨trivial,trivial⟩,.dat,h⟩
theorem Path.sv{v:SV} (hK:K v s) (hv:∀U,s.gB U->v.gB U) (hp:tu id o s v) (h:∀s2,ou o.rd o.tr o.isApp s s2->∀K':SV->S->Prop,K' v s2->bJ C id o K' s2):Path C id o K s:=
 ⟨v,.no,hK,trivial,fun U hs=>⟨SV.mR (fun n h=>.inl h) (hv U hs),trivial⟩,hp,h⟩
theorem qO(h:bJ C id o K s):Path C id o K s:=by
 cases o<;>simp only[bJ]at h
 case mv x=>
  obtain⟨v,hv,hK⟩:=af h
  exact Path.sv hK (fun U hs=>hs.bQ hv) (fun b e=>.inr (o7 hv e)) fun s2 ag K' hk=>by simpa[bJ,ag.bQ (fun t ht=>ht) hv]using hk
 case pick c a b=>
  obtain⟨t,ht,h⟩:=af h
  cases t<;>try(exact h.elim)
  rename_i t;obtain⟨u,hu,h⟩:=af h;obtain⟨v,hv,hK1,hK2⟩:=af h;cases t
  ·exact Path.sv (hK2 rfl) (fun U hs=>hs.bQ hv) (fun b' e=>.inr (by obtain⟨t,ht,hl⟩:=o7 (x:=b) hv e;exact⟨t,by simp[bT.qB,ht],hl⟩)) fun s2 ag K' hk=>by
    simpa[bJ,ag.aR (x:=c) (by simp[bT.rd];grind) ht,ag.bQ (x:=a) (by simp[bT.rd];grind) hu,ag.bQ (x:=b) (by simp[bT.rd];grind) hv]using hk
  ·exact Path.sv (hK1 rfl) (fun U hs=>hs.bQ hu) (fun b' e=>.inr (by obtain⟨t,ht,hl⟩:=o7 (x:=a) hu e;exact⟨t,by simp[bT.qB,ht],hl⟩)) fun s2 ag K' hk=>by
    simpa[bJ,ag.aR (x:=c) (by simp[bT.rd];grind) ht,ag.bQ (x:=a) (by simp[bT.rd];grind) hu,ag.bQ (x:=b) (by simp[bT.rd];grind) hv]using hk
 case alloc cs=>
  exact⟨.ptr id 0,.box ⟨cs,[]⟩,h,trivial,fun U _=>⟨.inr rfl,fun o q hq=>by cases hq⟩,fun b e=>.inl ⟨e.symm,rfl⟩,fun s2 ag K' hk=>hk⟩
 case box x=>
  obtain⟨a,ha,hok,hK⟩:=af h
  exact⟨.ptr id 0,.box ⟨a.cells,[]⟩,hK,trivial,fun U _=>⟨.inr rfl,fun o q hq=>by cases hq⟩,fun b e=>.inl ⟨e.symm,rfl⟩,fun s2 ag K' hk=>by
   simpa[bJ,ag.aR (x:=x) (by simp[bT.rd]) ha,hok,Delta.app']using hk⟩
 case build zs ps=>
  obtain⟨p,hp,hK⟩:=af h
  exact Path.val hK fun s2 ag K' hk=>by simpa[bJ,ag.jf (by simp[bT.rd]) hp]using hk
 case gw e z xs=>
  obtain⟨p,hp,hK⟩:=af h
  exact⟨.dat (.sl p) (some id),.live e,hK,trivial,fun U hs=>⟨.inr rfl,trivial⟩,.dat,fun s2 ag K' hk=>by simpa[bJ,ag.lY (by simp[bT.rd]) hp,Delta.app']using hk⟩
 case ld x sz=>
  obtain⟨p,hp,h⟩:=af h
  cases p<;>try(exact h.elim)
  ·rename_i b off
   obtain⟨bx,hb,h⟩:=af h;obtain⟨a,ha,hK⟩:=af h
   refine Path.sv hK (fun U hs=>?_) .dat fun s2 ag K' hk=>by simpa[bJ,ag.bQ (x:=x) (by simp[bT.rd]) hp,ag.cm (x:=x) (by simp[bT.tr]) hp hb,ha]using hk
   cases sz with
   |some n=>trivial
   |none=>
    cases hq:er off bx.tags with
    |none=>trivial
    |some q=>exact(hs.boxes b bx hb).2 off q hq
  ·rename_i cs
   obtain⟨a,ha,hK⟩:=af h
   exact Path.val hK fun s2 ag K' hk=>by simpa[bJ,ag.bQ (x:=x) (by simp[bT.rd]) hp,ha]using hk
 case st x v sz=>
  obtain⟨p,hp,h⟩:=af h
  cases p<;>try(exact h.elim)
  rename_i b off;obtain⟨bx,hb,h⟩:=af h;obtain⟨u,hu,h⟩:=af h
  cases u<;>try(exact h.elim)
  rename_i a q;obtain⟨h1,h2,h3,hK⟩:=h
  refine⟨.undef,.st b ⟨setCells bx.cells off a.cells,match(generalizing:=false) q with|some q=>(off,q)::bx.tags.filter (fun p=>p.1<off||off+sz<=p.1)|none=>bx.tags.filter (fun p=>p.1<off||off+sz<=p.1)⟩,hK,⟨rfl,su (x:=x) hp⟩,fun U hs=>⟨trivial,?_,?_⟩,.undef,fun s2 ag K' hk=>?_⟩
  ·exact(hs.boxes b bx hb).1
  ·intro o q' hq'
   have hfil:∀q',er o (bx.tags.filter (fun p=>p.1<off||off+sz<=p.1))=some q'->U q':=fun q' hq'=>
    (hs.boxes b bx hb).2 o q' (yz hq' (fun x=>rfl)).1
   cases q with
   |none=>exact hfil q' hq'
   |some q=>
    simp only[er]at hq';cases hoo:o==off
    ·rw[hoo]at hq';exact hfil q' hq'
    ·rw[hoo]at hq'
     simp only[cond_true,Option.some.injEq]at hq';subst hq';exact hs.bQ hu
  ·simp only[bJ,ag.bQ (x:=x) (by simp[bT.rd];grind) hp,ag.bQ (x:=v) (by simp[bT.rd];grind) hu,ag.cm (x:=x) (by simp[bT.tr]) hp hb,aE]
   exact⟨h1,h2,h3,hk⟩
 case fa x off=>
  obtain⟨p,hp,h⟩:=af h
  cases p<;>try(exact h.elim)
  ·exact Path.sv h (fun U hs=>(hs.bQ hp:(SV.ptr _ _).gB U)) (fun b' e=>.inr (by cases e;exact su (x:=x) hp)) fun s2 ag K' hk=>by simpa[bJ,ag.bQ (x:=x) (by simp[bT.rd]) hp]using hk
  ·exact Path.sv h (fun U hs=>trivial) .rp fun s2 ag K' hk=>by simpa[bJ,ag.bQ (x:=x) (by simp[bT.rd]) hp]using hk
  ·rename_i k ps
   match k,hp,h with
   |2,hp,h=>exact Path.sv h (fun U hs p hq=>(hs.bQ hp:(SV.pt 2 ps).gB U) p (List.mem_of_mem_drop hq)) (fun b' ⟨q,hq,e⟩=>.inr (o7 (x:=x) hp ⟨q,List.mem_of_mem_drop hq,e⟩)) fun s2 ag K' hk=>by simpa[bJ,ag.bQ (x:=x) (by simp[bT.rd]) hp]using hk
   |0,_,h=>exact h.elim
   |1,_,h=>exact h.elim
   |k+3,_,h=>exact h.elim
 case jX x sz=>
  obtain⟨p,hp,h⟩:=af h
  cases p<;>try(exact h.elim)
  rename_i k ps
  match k,sz,ps,hp,h with
  |2,none,(b,o)::ps,hp,h=>exact Path.sv h (fun U hs=>(hs.bQ hp:(SV.pt 2 _).gB U) (b,o) (by simp)) (fun b' e=>.inr (o7 (x:=x) hp ⟨(b,o),by simp,e⟩)) fun s2 ag K' hk=>by simpa[bJ,ag.bQ (x:=x) (by simp[bT.rd]) hp]using hk
  |2,none,[],hp,h=>exact h.elim
  |2,some n,ps,hp,h=>
   have h':n<=ps.length/\K (.pt 0 (ps.take n)) s:=by cases ps<;>exact h
   exact Path.sv h'.2 (fun U hs p hq=>(hs.bQ hp:(SV.pt 2 ps).gB U) p (List.mem_of_mem_take hq)) (fun b' ⟨q,hq,e⟩=>.inr (o7 (x:=x) hp ⟨q,List.mem_of_mem_take hq,e⟩)) fun s2 ag K' hk=>by
    have e:=ag.bQ (x:=x) (by simp[bT.rd]) hp
    simp only[bJ,e,aE]
    cases ps<;>exact⟨h'.1,hk⟩
  |0,_,_,_,h=>exact h.elim
  |1,_,_,_,h=>exact h.elim
  |k+3,_,_,_,h=>exact h.elim
 case Ay x i n z=>
  obtain⟨p,hp,h⟩:=af h;obtain⟨a,ha,h⟩:=af h;obtain⟨j,hj,hlt,h⟩:=af h
  cases p<;>try(exact h.elim)
  ·exact Path.sv h (fun U hs=>(hs.bQ hp:(SV.ptr _ _).gB U)) (fun b' e=>.inr (by cases e;exact su (x:=x) hp)) fun s2 ag K' hk=>by simpa[bJ,ag.bQ (x:=x) (by simp[bT.rd];grind) hp,ag.aR (x:=i) (by simp[bT.rd];grind) ha,hj,hlt]using hk
  ·exact Path.sv h (fun U hs=>trivial) .rp fun s2 ag K' hk=>by simpa[bJ,ag.bQ (x:=x) (by simp[bT.rd];grind) hp,ag.aR (x:=i) (by simp[bT.rd];grind) ha,hj,hlt]using hk
 case Bl x i z=>
  obtain⟨p,hp,h⟩:=af h;obtain⟨a,ha,h⟩:=af h;obtain⟨j,hj,h⟩:=af h;obtain⟨xs,hxs,hlt,h⟩:=af h;obtain⟨row,hrow,hz,hK⟩:=af h
  refine Path.sv hK (fun U hs=>trivial) .rp fun s2 ag K' hk=>?_
  simp only[bJ,ag.aR (x:=x) (by simp[bT.rd];grind) hp,ag.aR (x:=i) (by simp[bT.rd];grind) ha,hj,hxs,hrow,aE]
  exact⟨hlt,hz,hk⟩
 case Sd x off sz=>
  obtain⟨p,hp,h⟩:=af h
  cases p<;>try(exact h.elim)
  obtain⟨a,ha,hK⟩:=af h
  exact Path.val hK fun s2 ag K' hk=>by simpa[bJ,ag.aR (x:=x) (by simp[bT.rd]) hp,ha]using hk
 case K1 x i n z sz=>
  obtain⟨p,hp,h⟩:=af h
  cases p<;>try(exact h.elim)
  obtain⟨a,ha,h⟩:=af h;obtain⟨j,hj,hlt,h⟩:=af h;obtain⟨b,hb,hK⟩:=af h
  exact Path.val hK fun s2 ag K' hk=>by simpa[bJ,ag.aR (x:=x) (by simp[bT.rd];grind) hp,ag.aR (x:=i) (by simp[bT.rd];grind) ha,hj,hlt,hb]using hk
 case bin op x y=>
  obtain⟨a,ha,h⟩:=af h;obtain⟨b,hb,h⟩:=af h;obtain⟨v,hv,hK⟩:=af h
  exact Path.val hK fun s2 ag K' hk=>by simpa[bJ,ag.aR (x:=x) (by simp[bT.rd];grind) ha,ag.aR (x:=y) (by simp[bT.rd];grind) hb,hv]using hk
 case eqc ks neg x y=>
  obtain⟨a,ha,h⟩:=af h
  cases a<;>try(exact h.elim)
  obtain⟨b,hb,h⟩:=af h
  cases b<;>try(exact h.elim)
  obtain⟨v,hv,hK⟩:=af h
  exact Path.val hK fun s2 ag K' hk=>by simpa[bJ,ag.aR (x:=x) (by simp[bT.rd];grind) ha,ag.aR (x:=y) (by simp[bT.rd];grind) hb,hv]using hk
 case bb neg x y=>
  obtain⟨a,ha,h⟩:=af h;obtain⟨b,hb,h⟩:=af h;obtain⟨v,hv,hK⟩:=af h
  exact Path.val hK fun s2 ag K' hk=>by simpa[bJ,ag.aR (x:=x) (by simp[bT.rd];grind) ha,ag.aR (x:=y) (by simp[bT.rd];grind) hb,hv]using hk
 case un op x=>
  obtain⟨a,ha,h⟩:=af h;obtain⟨v,hv,hK⟩:=af h
  exact Path.val hK fun s2 ag K' hk=>by simpa[bJ,ag.aR (x:=x) (by simp[bT.rd]) ha,hv]using hk
 case kF k x=>
  obtain⟨a,ha,h⟩:=af h;obtain⟨v,hv,hK⟩:=af h
  exact Path.val hK fun s2 ag K' hk=>by simpa[bJ,ag.aR (x:=x) (by simp[bT.rd]) ha,hv]using hk
 case Ah k x=>
  obtain⟨a,ha,h⟩:=af h;obtain⟨v,hv,hK⟩:=af h
  exact Path.val hK fun s2 ag K' hk=>by simpa[bJ,ag.aR (x:=x) (by simp[bT.rd]) ha,hv]using hk
 case Bm k x=>
  obtain⟨a,ha,h⟩:=af h;obtain⟨v,hv,hK⟩:=af h
  exact Path.val hK fun s2 ag K' hk=>by simpa[bJ,ag.aR (x:=x) (by simp[bT.rd]) ha,hv]using hk
 case Bn x=>
  obtain⟨v,hv,hK⟩:=af h
  exact Path.sv hK (fun U hs=>hs.bQ hv) (fun b e=>.inr (o7 hv e)) fun s2 ag K' hk=>by simpa[bJ,ag.bQ (fun t ht=>ht) hv]using hk
 case nC x=>
  obtain⟨a,ha,h⟩:=af h;obtain⟨v,hv,hK⟩:=af h
  exact Path.val hK fun s2 ag K' hk=>by simpa[bJ,ag.aR (x:=x) (by simp[bT.rd]) ha,hv]using hk
 case HC n=>exact Path.val h fun s2 ag K' hk=>by simpa[bJ]using hk
 case Sf x n z hi=>
  obtain⟨p,hp,h⟩:=af h
  cases p<;>try(exact h.elim)
  rename_i b off;obtain⟨a,ha,h2⟩:=af h;obtain⟨j,hj,hlt,hK⟩:=af h2
  refine Path.sv hK (fun U hs=>?_) (fun b' e=>e.elim) fun s2 ag K' hk=>?_
  ·have:(SV.ptr b off).gB U:=hs.bQ hp
   exact this
  ·simp only[bJ,ag.bQ (x:=x) (by simp[bT.rd];grind) hp,ag.aR (x:=hi) (by simp[bT.rd];grind) ha,hj,aE]
   exact⟨hlt,hk⟩
 case Bp e z bytes y x=>
  obtain⟨p,hp,h⟩:=af h
  cases p<;>try(exact h.elim)
  rename_i b off n z';obtain⟨q,hq,h2⟩:=af h
  cases q<;>try(exact h2.elim)
  rename_i b' o';obtain⟨⟨e1,e2⟩,h3⟩:=h2;obtain⟨bx,hb,h4,hK⟩:=af h3
  have hy:∀t∈y.rd,t∈(bT.Bp e z bytes y x).rd:=by simp[bT.rd];grind
  have hx:∀t∈x.rd,t∈(bT.Bp e z bytes y x).rd:=by simp[bT.rd];grind
  rw[e1]at hq
  by_cases hn:n=0
  ·rw[if_pos hn]at hK
   refine Path.val hK fun s2 ag K' hk=>?_
   have hb2:=ag.cm (x:=x) (by simp[bT.tr]) hq hb
   simp only[bJ,ag.bQ hy hp,ag.bQ hx hq,aE,if_pos hn,hb2];exact⟨⟨trivial,e2⟩,h4,hk⟩
  ·rw[if_neg hn]at hK
   refine⟨.dat (.sl (cN z n (bx.cells.drop off))) (some id),.live e,hK,trivial,fun U hs=>⟨.inr rfl,trivial⟩,.dat,fun s2 ag K' hk=>?_⟩
   have hb2:=ag.cm (x:=x) (by simp[bT.tr]) hq hb
   simp only[bJ,ag.bQ hy hp,ag.bQ hx hq,aE,if_neg hn,hb2];exact⟨⟨trivial,e2⟩,h4,hk⟩
 case app e z bytes x y=>
  obtain⟨p,hp,h⟩:=af h
  cases p<;>try(exact h.elim)
  rename_i a q;obtain⟨xs,hxs,h⟩:=af h;obtain⟨b,hb,h⟩:=af h;obtain⟨ys,hys,h1,h2,h3,h⟩:=af h
  have hx:∀t∈x.rd,t∈(bT.app e z bytes x y).rd:=by simp[bT.rd];grind
  have hy:∀t∈y.rd,t∈(bT.app e z bytes x y).rd:=by simp[bT.rd];grind
  cases a<;>try(exact h.elim)
  ·--nil
   simp only[]at h;split at h
   ·rename_i he
    refine Path.val h fun s2 ag K' hk=>?_
    simp only[bJ,ag.bQ hx hp,ag.aR hy hb,hxs,hys,aE,if_pos he];exact⟨h1,h2,h3,hk⟩
   ·rename_i he
    refine⟨.dat (.sl (xs++ys)) (some id),.live e,h,trivial,fun U hs=>⟨.inr rfl,trivial⟩,.dat,fun s2 ag K' hk=>?_⟩
    simp only[bJ,ag.bQ hx hp,ag.aR hy hb,hxs,hys,aE,if_neg he];exact⟨h1,h2,h3,hk⟩
  ·cases q with
   |none=>exact h.elim
   |some q=>
    obtain⟨hq,hK⟩:=h
    have hsrc:∃t∈(bT.app e z bytes x y).rd,∃a,lk t s.slots=some (.dat a (some q)):=by
     cases x with
     |t n=>exact⟨n,hx n (by simp[bD.rd]),_,hp⟩
     |k v=>simp[bQ]at hp
    refine⟨.dat (.sl (xs++ys)) (some id),.app q e,hK,⟨rfl,hsrc⟩,fun U hs=>⟨.inr rfl,hs.live q e hq⟩,.dat,fun s2 ag K' hk=>?_⟩
    have hq2:er q s2.live=some e:=by
     cases x with
     |t n=>exact ag.live rfl n (hx n (by simp[bD.rd])) _ q e hp hq
     |k v=>simp[bQ]at hp
    simp only[bJ,ag.bQ hx hp,ag.aR hy hb,hxs,hys,aE];exact⟨h1,h2,h3,hq2,hk⟩
 case call f args=>
  obtain⟨as,has,r,fr,hc,hK⟩:=af h
  cases fr with
  |none=>exact Path.val hK fun s2 ag K' hk=>by simp only[bJ,ag.dA (by simp[bT.rd]) has,aE];exact⟨r,none,hc,hk⟩
  |some e=>exact⟨.dat r (some id),.live e,hK,trivial,fun U hs=>⟨.inr rfl,trivial⟩,.dat,fun s2 ag K' hk=>by simp only[bJ,ag.dA (by simp[bT.rd]) has,aE];exact⟨r,some e,hc,hk⟩⟩
 case aB f args=>
  obtain⟨p,hp,hnd,h⟩:=af h;obtain⟨css,hcs,r,fr,css',hc,hK⟩:=af h
  have hin:∀U,s.gB U->∀b∈p.2,U b:=by
   intro U hs b hb
   obtain⟨k,hk⟩:=List.mem_iff_getElem?.1 hb
   obtain⟨x,hx,_⟩:=(gh hcs).2 k b hk
   exact(hs.boxes b x hx).1
  have hgo:∀s2,ou (bT.aB f args).rd (bT.aB f args).tr (bT.aB f args).isApp s s2->∀K':SV->S->Prop,K' (.dat r (fr.map fun _=>id)) (Delta.app' (.calls p.2 css' fr) id s2)->bJ C id (.aB f args) K' s2:=by
   intro s2 ag K' hk
   obtain⟨h1,h2⟩:=ag.bh (xs:=args) (by simp[bT.rd]) (by simp[bT.tr]) hp hcs
   simp only[bJ,h1,h2,aE];exact⟨hnd,r,fr,css',hc,hk⟩
  exact⟨.dat r (fr.map fun _=>id),.calls p.2 css' fr,hK,⟨rfl,iE hp⟩,fun U hs=>⟨by cases fr with|none=>trivial|some e=>exact .inr rfl,hin U hs⟩,.dat,hgo⟩
 case tj f args=>
  obtain⟨p,hp,hnd,h⟩:=af h;obtain⟨css,hcs,v,css',hc,hK⟩:=af h
  refine⟨.dat v none,.calls p.2 css' none,hK,⟨rfl,iE hp⟩,fun U hs=>⟨trivial,fun b hb=>?_⟩,.dat,fun s2 ag K' hk=>?_⟩
  ·obtain⟨k,hk⟩:=List.mem_iff_getElem?.1 hb
   obtain⟨x,hx,_⟩:=(gh hcs).2 k b hk
   exact(hs.boxes b x hx).1
  ·obtain⟨h1,h2⟩:=ag.bh (xs:=args) (by simp[bT.rd]) (by simp[bT.tr]) hp hcs
   simp only[bJ,h1,h2,aE];exact⟨hnd,v,css',hc,hk⟩
 case eS g args=>
  obtain⟨a,ha,h⟩:=af h
  cases a<;>try(exact h.elim)
  rename_i fn first caps
  cases fn<;>try(exact h.elim)
  obtain⟨as,has,r,fr,hc,hK⟩:=af h
  have hg:∀t∈g.rd,t∈(bT.eS g args).rd:=by simp[bT.rd];grind
  have has':∀t∈bk args,t∈(bT.eS g args).rd:=by simp[bT.rd];grind
  cases fr with
  |none=>exact Path.val hK fun s2 ag K' hk=>by simp only[bJ,ag.aR hg ha,ag.dA has' has,aE];exact⟨r,none,hc,hk⟩
  |some e=>exact⟨.dat r (some id),.live e,hK,trivial,fun U hs=>⟨.inr rfl,trivial⟩,.dat,fun s2 ag K' hk=>by simp only[bJ,ag.aR hg ha,ag.dA has' has,aE];exact⟨r,some e,hc,hk⟩⟩
 case ext x i=>
  obtain⟨a,ha,h⟩:=af h;obtain⟨v,hv,hK⟩:=af h
  exact Path.val hK fun s2 ag K' hk=>by simpa[bJ,ag.aR (x:=x) (by simp[bT.rd]) ha,hv]using hk
 case xt e x=>
  obtain⟨a,ha,h⟩:=af h;obtain⟨v,hv,hK⟩:=af h
  exact Path.val hK fun s2 ag K' hk=>by simpa[bJ,ag.aR (x:=x) (by simp[bT.rd]) ha,hv]using hk
 case Se x i=>
  obtain⟨p,hp,h⟩:=af h
  cases p<;>try(exact h.elim)
  obtain⟨a,ha,h⟩:=af h;obtain⟨j,hj,h⟩:=af h;obtain⟨b,hb,hK⟩:=af h
  exact Path.val hK fun s2 ag K' hk=>by simpa[bJ,ag.aR (x:=x) (by simp[bT.rd];grind) hp,ag.aR (x:=i) (by simp[bT.rd];grind) ha,hj,hb]using hk
 case NK neg x=>
  obtain⟨a,ha,h⟩:=af h;obtain⟨v,hv,hK⟩:=af h
  exact Path.val hK fun s2 ag K' hk=>by simpa[bJ,ag.aR (x:=x) (by simp[bT.rd]) ha,hv]using hk
 case yg f args=>
  obtain⟨p,hp,hnd,h⟩:=af h;obtain⟨css,hcs,r,hc,hK⟩:=af h
  refine Path.val hK fun s2 ag K' hk=>?_
  obtain⟨h1,h2⟩:=ag.dU (xs:=args) (by simp[bT.rd]) (by simp[bT.tr]) hp hcs
  simp only[bJ,h1,h2,aE];exact⟨hnd,r,hc,hk⟩
 case qx g args=>
  obtain⟨a,ha,h⟩:=af h
  cases a<;>try(exact h.elim)
  rename_i fn first caps
  cases fn<;>try(exact h.elim)
  rename_i f
  cases first<;>try(exact h.elim)
  cases caps<;>try(exact h.elim)
  obtain⟨p,hp,hnd,h⟩:=af h;obtain⟨css,hcs,r,hc,hK⟩:=af h
  have hg:∀t∈g.rd,t∈(bT.qx g args).rd:=by simp[bT.rd];grind
  refine Path.val hK fun s2 ag K' hk=>?_
  obtain⟨h1,h2⟩:=ag.dU (xs:=args) (by simp[bT.rd];grind) (by simp[bT.tr]) hp hcs
  simp only[bJ,ag.aR hg ha,h1,h2,aE];exact⟨hnd,r,hc,hk⟩
 case gN g args=>
  obtain⟨a,ha,h⟩:=af h
  cases a<;>try(exact h.elim)
  rename_i fn first caps
  cases fn<;>try(exact h.elim)
  rename_i f
  cases first<;>try(exact h.elim)
  cases caps<;>try(exact h.elim)
  obtain⟨p,hp,hnd,h⟩:=af h;obtain⟨css,hcs,r,fr,css',hc,hK⟩:=af h
  have hin:∀U,s.gB U->∀b∈p.2,U b:=by
   intro U hs b hb
   obtain⟨k,hk⟩:=List.mem_iff_getElem?.1 hb
   obtain⟨x,hx,_⟩:=(gh hcs).2 k b hk
   exact(hs.boxes b x hx).1
  have hg:∀t∈g.rd,t∈(bT.gN g args).rd:=by simp[bT.rd];grind
  have hgo:∀s2,ou (bT.gN g args).rd (bT.gN g args).tr (bT.gN g args).isApp s s2->∀K':SV->S->Prop,K' (.dat r (fr.map fun _=>id)) (Delta.app' (.calls p.2 css' fr) id s2)->bJ C id (.gN g args) K' s2:=by
   intro s2 ag K' hk
   obtain⟨h1,h2⟩:=ag.bh (xs:=args) (by simp[bT.rd];grind) (by simp[bT.tr]) hp hcs
   simp only[bJ,ag.aR hg ha,h1,h2,aE];exact⟨hnd,r,fr,css',hc,hk⟩
  exact⟨.dat r (fr.map fun _=>id),.calls p.2 css' fr,hK,⟨rfl,iE hp⟩,fun U hs=>⟨by cases fr with|none=>trivial|some e=>exact .inr rfl,hin U hs⟩,.dat,hgo⟩
 case Gd x n z=>
  obtain⟨p,hp,h⟩:=af h
  cases p<;>try(exact h.elim)
  ·rename_i b off
   obtain⟨h4,h⟩:=h;obtain⟨bx,hb,hlen,hK⟩:=af h
   refine⟨_,.Cy [b] [bx.cells],hK,⟨rfl,fun b' hb'=>?_⟩,fun U hs=>⟨trivial,trivial⟩,.dat,fun s2 ag K' hk=>?_⟩
   ·simp only[List.mem_singleton]at hb';subst hb';exact su (x:=x) hp
   ·simp only[bJ,ag.bQ (x:=x) (by simp[bT.rd]) hp,ag.cm (x:=x) (by simp[bT.tr]) hp hb,aE]
    exact⟨h4,hlen,hk⟩
  ·obtain⟨hlen,hK⟩:=h
   refine Path.val hK fun s2 ag K' hk=>?_
   simp only[bJ,ag.bQ (x:=x) (by simp[bT.rd]) hp,aE]
   exact⟨hlen,hk⟩
 case Bo fn a b=>
  obtain⟨as,has,h⟩:=af h;obtain⟨p,hp,hok,h⟩:=af h;obtain⟨css,hcs,hK⟩:=af h
  have hgo:∀s2,ou (bT.Bo fn a b).rd (bT.Bo fn a b).tr (bT.Bo fn a b).isApp s s2->∀K':SV->S->Prop,K' (.dat (.fn fn as (lZ p.1 css)) none) (iB p.2 css s2)->bJ C id (.Bo fn a b) K' s2:=by
   intro s2 ag K' hk
   obtain⟨h1,h2⟩:=ag.bh (xs:=b) (by simp[bT.rd];grind) (by simp[bT.tr]) hp hcs
   simp only[bJ,ag.dA (xs:=a) (by simp[bT.rd];grind) has,h1,h2,aE]
   exact⟨hok,hk⟩
  cases b with
  |nil=>
   simp[de]at hp;subst hp
   have e:∀s:S,iB [] css s=s:=fun s=>by cases css<;>rfl
   simp only[e]at hK hgo;exact Path.val hK hgo
  |cons x b=>exact⟨_,.Cy p.2 css,hK,⟨rfl,iE hp⟩,fun U hs=>⟨trivial,trivial⟩,.dat,hgo⟩
 case HD z x lo hi=>
  obtain⟨a,ha,h⟩:=af h;obtain⟨xs,hxs,h⟩:=af h;obtain⟨l,hl,h⟩:=af h;obtain⟨m,hm,h1,h2,hK⟩:=af h
  refine Path.val hK fun s2 ag K' hk=>?_
  simp only[bJ,ag.aR (x:=x) (by simp[bT.rd];grind) ha,hxs,ag.yl (x:=lo) (by simp[bT.rd];grind) hl,ag.ym (x:=hi) (by simp[bT.rd];grind) hm,aE]
  exact⟨h1,h2,hk⟩
 case nc x=>
  obtain⟨p,hp,h⟩:=af h
  cases p with
  |ptr b o=>exact Path.sv h (fun U hs=>(hs.bQ hp:(SV.ptr _ _).gB U)) (fun b' e=>.inr (by cases e;exact su (x:=x) hp)) fun s2 ag K' hk=>by simpa[bJ,ag.bQ (x:=x) (by simp[bT.rd]) hp]using hk
  |rp cs=>exact Path.sv h (fun U hs=>trivial) .rp fun s2 ag K' hk=>by simpa[bJ,ag.bQ (x:=x) (by simp[bT.rd]) hp]using hk
  |undef=>exact h.elim
  |vs _ _ _ _=>exact h.elim
  |ot _ _ _=>exact h.elim
  |raw _ _=>exact h.elim
  |pt _ _=>exact h.elim
  |dat a q=>
   cases a<;>try(exact h.elim)
   case ref cs=>exact Path.sv h (fun U hs=>trivial) .rp fun s2 ag K' hk=>by simpa[bJ,ag.bQ (x:=x) (by simp[bT.rd]) hp]using hk
   rename_i fn as bs
   cases fn<;>try(exact h.elim)
   exact Path.sv h (fun U hs=>hs.bQ (v:=.dat _ q) hp) .dat fun s2 ag K' hk=>by simpa[bJ,ag.bQ (x:=x) (by simp[bT.rd]) hp]using hk
 case mm mx args=>
  obtain⟨as,has,h⟩:=af h
  cases as with
  |nil=>exact h.elim
  |cons a r=>
   obtain⟨v,hv,hK⟩:=af h
   exact Path.val hK fun s2 ag K' hk=>by simpa[bJ,ag.dA (xs:=args) (by simp[bT.rd]) has,hv]using hk
end
theorem j6{α:Type} (n m:Nat) (x y:α):(bif n==m then x else y)=if n=m then x else y:=by
 by_cases h:n=m
 ·simp[h]
 ·have h':(n==m)=false:=by simpa using h
  simp[h,h']
def jQ(C:bz) (id:Nat) (o:CO) (K:S->Prop) (s:S):Prop:=
 ee s o.g (bJ C id o.op (fun v s'=>K (s'.put o.dst v)) s) (K (s.put o.dst .undef))
theorem kP{C:bz} {base i:Nat} {o:CO} {r:List CO} {K:S->Prop} {s:S}:jg C base i (o::r) K s=jQ C (base+i) o (jg C base (i+1) r K) s:=rfl
theorem ou.refl{l lb:List Nat} {ap:Bool} {s:S}:ou l lb ap s s:=⟨fun _ _=>rfl,fun _ _ _ _ _ h=>h,fun _ _ _ _ _ _ _ h=>h⟩
theorem ou.trans {l lb:List Nat} {ap:Bool} {s s2 s3:S} (hl:∀ t∈lb,t∈l) (h:ou l lb ap s s2) (k:ou l lb ap s2 s3):ou l lb ap s s3 :=
  ⟨fun t ht=>(k.slots t ht).trans (h.slots t ht),fun t ht b x hv hb=>k.boxes t ht b x (let ⟨v,h1,h2⟩:=hv; ⟨v,by rw [h.slots t (hl t ht)]; exact h1,h2⟩) (h.boxes t ht b x hv hb),
   fun e t ht a q e' hv hq=>k.live e t ht a q e' (by rw [h.slots t ht]; exact hv) (h.live e t ht a q e' hv hq)⟩
theorem o8{s:S} {d:Option Nat} {v:SV} {t:Nat}:lk t (s.put d v).slots=if d=some t then some v else lk t s.slots:=by
 cases d with
 |none=>simp[S.put]
 |some d=>
  simp only[S.put,lk,j6]
  by_cases h:t=d
  ·subst h;simp
  ·have h2:¬(some d=some t):=fun e=>h (Option.some.inj e).symm
   rw[if_neg h,if_neg h2]
theorem i7{s:S} {d:Option Nat} {v:SV}:(s.put d v).boxes=s.boxes:=by cases d<;>rfl
theorem j7{s:S} {d:Option Nat} {v:SV}:(s.put d v).live=s.live:=by cases d<;>rfl
theorem i9{m:Nat} {b:cg}:∀{l:List (Nat×cg)} {n:Nat},cm n (nZ m b l)=if n=m then(cm m l).map fun _=>b else cm n l
 |[],n=>by simp[nZ,cm]
 |(k,v)::r,n=>by
  have ih:=i9 (m:=m) (b:=b) (l:=r) (n:=n)
  simp only[nZ,j6]
  by_cases hmk:m=k
  ·subst hmk
   simp only[if_true,cm,j6]
   by_cases hn:n=m
   ·simp[hn]
   ·simp[hn]
  ·simp only[hmk,if_false,cm,j6,ih]
   by_cases hnk:n=k
   ·have:¬n=m:=fun e=>hmk (e.symm.trans hnk)
    simp[hnk,Ne.symm hmk]
   ·simp only[hnk,if_false]
theorem sw{m:Nat}:∀{l:List (Nat×Nat)} {n:Nat},er n (mq m l)=if n=m then none else er n l
 |[],n=>by simp[mq,er]
 |(k,v)::r,n=>by
  have ih:=sw (m:=m) (l:=r) (n:=n)
  simp only[mq,j6]
  by_cases hmk:m=k
  ·subst hmk
   simp only[if_true,er,j6,ih]
   by_cases hn:n=m
   ·simp[hn]
   ·simp[hn]
  ·simp only[hmk,if_false,er,j6,ih]
   by_cases hnk:n=k
   ·simp[hnk,Ne.symm hmk]
   ·simp only[hnk,if_false]
structure qd (s s2:S):Prop where
 slots:∀t,lk t s2.slots=lk t s.slots
 boxes:∀b,cm b s2.boxes=cm b s.boxes
 live:∀q,er q s2.live=er q s.live
theorem qd.refl{s:S}:qd s s:=⟨fun _=>rfl,fun _=>rfl,fun _=>rfl⟩
theorem qd.symm{s s2:S} (h:qd s s2):qd s2 s:=⟨fun t=>(h.slots t).symm,fun t=>(h.boxes t).symm,fun t=>(h.live t).symm⟩
theorem qd.trans{s s2 s3:S} (h:qd s s2) (k:qd s2 s3):qd s s3:=⟨fun t=>(k.slots t).trans (h.slots t),fun t=>(k.boxes t).trans (h.boxes t),fun t=>(k.live t).trans (h.live t)⟩
theorem qd.XI{s s2:S} (h:qd s s2) {l lb:List Nat} {ap:Bool}:ou l lb ap s s2:=
 ⟨fun t _=>h.slots t,fun t _ b x _ hb=>by rw[h.boxes];exact hb,fun _ t _ a q e _ hq=>by rw[h.live];exact hq⟩
theorem qd.put{s s2:S} (h:qd s s2) (d:Option Nat) (v:SV):qd (s.put d v) (s2.put d v):=
 ⟨fun t=>by rw[o8,o8,h.slots],fun b=>by rw[i7,i7];exact h.boxes b,fun b=>by rw[j7,j7];exact h.live b⟩
theorem wX:∀{ids:List Nat} {css:List (List AV)} {l l2:List (Nat×cg)},(∀b,cm b l2=cm b l)->∀b,cm b (dc ids css l2)=cm b (dc ids css l)
 |[],css,l,l2,h,b=>by cases css<;>exact h b
 |i::ids,[],l,l2,h,b=>h b
 |i::ids,cs::css,l,l2,h,b=>by
  simp only[dc]
  exact wX (fun b=>by simp only[i9,h]) b
theorem qd.iB{ids:List Nat}:∀{css:List (List AV)} {s s2:S},qd s s2->qd (iB ids css s) (iB ids css s2):=by
 induction ids with
 |nil=>intro css s s2 h;cases css<;>exact h
 |cons b ids ih=>
  intro css s s2 h
  cases css with
  |nil=>exact h
  |cons cs css=>
   exact ih ⟨fun t=>by simp only[uN,h.slots],fun c=>by simp only[mU,h.boxes],h.live⟩
theorem qd.app{s s2:S} (h:qd s s2) (d:Delta) (id:Nat):qd (d.app' id s) (d.app' id s2):=by
 cases d with
 |Cy ids css=>exact h.iB
 |no=>exact h
 |box b=>exact⟨h.slots,fun c=>by simp only[Delta.app',cm,h.boxes],h.live⟩
 |live e=>exact⟨h.slots,h.boxes,fun q=>by simp only[Delta.app',er,h.live]⟩
 |app q0 e=>exact⟨h.slots,h.boxes,fun q=>by simp only[Delta.app',er,h.live,sw]⟩
 |st b x=>exact⟨h.slots,fun c=>by simp only[Delta.app',h.boxes,i9],h.live⟩
 |calls ids css fr=>exact⟨h.slots,wX h.boxes,fun q=>by cases fr<;>simp only[Delta.app',er,h.live]⟩
theorem qd.gB{s s2:S} (h:qd s s2) {U:Nat->Prop} (hs:s.gB U):s2.gB U:=
 ⟨fun t v hv=>hs.slots t v (by rw[<-h.slots];exact hv),fun b x hb=>hs.boxes b x (by rw[<-h.boxes];exact hb),fun q e hq=>hs.live q e (by rw[<-h.live];exact hq)⟩
def El(C:bz) (id:Nat) (o:CO) (s:S) (v:SV) (d:Delta):Prop:=
 (d.ok o.op s/\tu id o.op s v)/\∀s2,ou o.rd o.op.tr o.op.isApp s s2->∀K',K' ((d.app' id s2).put o.dst v)->jQ C id o K' s2
theorem Fp{s:S} {U:Nat->Prop} (h:s.gB U) {d:Option Nat} {v:SV} (hv:v.gB U):(s.put d v).gB U:=by
 refine⟨fun t u hu=>?_,fun b x hb=>h.boxes b x (by rwa[i7]at hb),fun q e hq=>h.live q e (by rwa[j7]at hq)⟩
 rw[o8]at hu;split at hu
 ·cases hu;exact hv
 ·exact h.slots t u hu
theorem xS{s:S} {U U':Nat->Prop} (hU:∀n,U n->U' n) (h:s.gB U):s.gB U':=
 ⟨fun t v hv=>SV.mR hU (h.slots t v hv),fun b x hb=>⟨hU _ (h.boxes b x hb).1,fun o q hq=>hU _ ((h.boxes b x hb).2 o q hq)⟩,fun q e hq=>hU _ (h.live q e hq)⟩
theorem AH:∀{ids:List Nat} {css:List (List AV)} {l:List (Nat×cg)} {U:Nat->Prop},(∀b x,cm b l=some x->U b/\x.gB U)->(∀b∈ids,U b)->∀b x,cm b (dc ids css l)=some x->U b/\x.gB U
 |[],css,l,U,h,hi,b,x,hb=>by cases css<;>exact h b x hb
 |i::ids,[],l,U,h,hi,b,x,hb=>h b x hb
 |i::ids,cs::css,l,U,h,hi,b,x,hb=>by
  simp only[dc]at hb
  refine AH (fun b x hx=>?_) (fun b hb=>hi b (List.mem_cons_of_mem _ hb)) b x hb
  rw[i9]at hx;split at hx
  ·rename_i e
   cases hl:cm i l with
   |none=>simp[hl]at hx
   |some y=>
    simp[hl]at hx;subst hx
    exact⟨e▸hi i (List.mem_cons_self ..),fun o q hq=>by cases hq⟩
  ·exact h b x hx
theorem Ib{ids:List Nat} {U:Nat->Prop}:∀{css:List (List AV)} {s:S},s.gB U->(iB ids css s).gB U:=by
 induction ids with
 |nil=>intro css s h;cases css<;>exact h
 |cons b ids ih=>
  intro css s h
  cases css with
  |nil=>exact h
  |cons cs css=>
   refine ih ⟨fun t v hv=>?_,fun c x hc=>?_,h.live⟩
   ·simp only[uN,Option.map_eq_some_iff]at hv
    obtain⟨u,hu,rfl⟩:=hv
    have hi:=h.slots t u hu
    cases u with
    |ptr c o=>
     simp only[ov,j6];split
     ·trivial
     ·exact hi
    |dat a q=>exact hi
    |rp cs=>exact hi
    |undef=>exact hi
    |vs _ _ _ _=>exact hi
    |ot _ _ _=>exact hi
    |raw _ _=>exact hi
    |pt _ _=>exact hi
   ·simp only[mU]at hc
    split at hc
    ·cases hc
    ·exact h.boxes c x hc
theorem Lr{s:S} {U:Nat->Prop} (h:s.gB U) {d:Delta} {id:Nat} (hd:d.gB U):(d.app' id s).gB (eE U id):=by
 have h':s.gB (eE U id):=xS (fun n hn=>.inl hn) h
 cases d with
 |no=>exact h'
 |Cy ids css=>exact Ib h'
 |box b=>
  refine⟨h'.slots,fun b' x hb=>?_,h'.live⟩
  simp only[Delta.app',cm]at hb
  by_cases he:b'=id
  ·subst he
   simp at hb;subst hb
   exact⟨.inr rfl,fun o q hq=>.inl (hd o q hq)⟩
  ·have he':(b'==id)=false:=by simpa using he
   rw[he']at hb;exact h'.boxes b' x hb
 |live e=>
  refine⟨h'.slots,h'.boxes,fun q e' hq=>?_⟩
  simp only[Delta.app',er]at hq
  by_cases he:q=id
  ·subst he;exact .inr rfl
  ·have he':(q==id)=false:=by simpa using he
   rw[he']at hq;exact h'.live q e' hq
 |app q0 e=>
  refine⟨h'.slots,h'.boxes,fun q e' hq=>?_⟩
  simp only[Delta.app',er]at hq
  by_cases he:q=id
  ·subst he;exact .inr rfl
  ·have he':(q==id)=false:=by simpa using he
   rw[he',sw]at hq;simp only[cond_false]at hq;split at hq
   ·cases hq
   ·exact h'.live q e' hq
 |st b0 x0=>
  refine⟨h'.slots,fun b x hb=>?_,h'.live⟩
  simp only[Delta.app',i9]at hb;split at hb
  ·rename_i he
   cases hl:cm b0 s.boxes with
   |none=>simp[hl]at hb
   |some y=>
    simp[hl]at hb;subst hb
    exact⟨.inl (he▸hd.1),fun o q hq=>.inl (hd.2 o q hq)⟩
  ·exact h'.boxes b x hb
 |calls ids css fr=>
  refine⟨h'.slots,AH h'.boxes (fun b hb=>.inl (hd b hb)),fun q e' hq=>?_⟩
  cases fr with
  |none=>exact h'.live q e' hq
  |some e=>
   simp only[Delta.app',er,j6]at hq;split at hq
   ·rename_i he;subst he;exact .inr rfl
   ·exact h'.live q e' hq
section
variable{C:bz} {id:Nat} {o:CO} {K:S->Prop} {s:S}
theorem CO.yB{o:CO} {t:Nat} (h:t∈o.op.rd):t∈o.rd:=by simp[CO.rd,h]
theorem eN (h:jQ C id o K s):∃ v d,El C id o s v d∧K ((d.app' id s).put o.dst v)∧∀ U,s.gB U→((d.app' id s).put o.dst v).gB (eE U id):=by
  have main:∀ {K:S→Prop},bJ C id o.op (fun v s'=>K (s'.put o.dst v)) s→∃ (v:SV) (d:Delta),(d.ok o.op s∧tu id o.op s v)∧(∀ s2,ou o.rd o.op.tr o.op.isApp s s2→∀ K':S→Prop,K' ((d.app' id s2).put o.dst v)→bJ C id o.op (fun v s'=>K' (s'.put o.dst v)) s2)∧K ((d.app' id s).put o.dst v)∧∀ U,s.gB U→((d.app' id s).put o.dst v).gB (eE U id):=by
    intro K h
    obtain ⟨v,d,hK,hok,hU,hfp,hs⟩:=qO h
    exact ⟨v,d,⟨hok,hfp⟩,fun s2 ag K' hk=>hs s2 (ag.sub fun t ht=>CO.yB ht) _ hk,hK,fun U hU'=>Fp (Lr hU' (hU U hU').2) (hU U hU').1⟩
  have skip:K (s.put o.dst .undef)→(∀ s2,ou o.rd o.op.tr o.op.isApp s s2→∀ K',K' (s2.put o.dst .undef)→jQ C id o K' s2)→∃ v d,El C id o s v d∧K ((d.app' id s).put o.dst v)∧∀ U,s.gB U→((d.app' id s).put o.dst v).gB (eE U id):=by
    intro hK hs
    exact ⟨.undef,.no,⟨⟨trivial,.undef⟩,hs⟩,hK,fun U hU=>Fp (xS (fun n h=>.inl h) hU) trivial⟩
  unfold jQ ee at h
  cases hg:o.g with
  | none =>
    simp only [hg] at h
    obtain ⟨v,d,h1,h2,h3,h4⟩:=main h
    exact ⟨v,d,⟨h1,fun s2 ag K' hk=>by unfold jQ ee; simp only [hg]; exact h2 s2 ag K' hk⟩,h3,h4⟩
  | some p =>
    obtain ⟨t,want⟩:=p
    have htm:t∈o.rd:=by simp [CO.rd,hg]
    simp only [hg] at h
    cases hl:lk t s.slots with
    | none=>simp [hl] at h
    | some v =>
      have hl2:∀ s2,ou o.rd o.op.tr o.op.isApp s s2→lk t s2.slots=some v:=fun s2 ag=>by rw [ag.slots t htm,hl]
      simp only [hl] at h
      cases v with
      | ptr b o=>exact h.elim
      | rp cs=>exact h.elim
      | vs _ _ _ _=>exact h.elim
      | ot _ _ _=>exact h.elim
      | raw _ _=>exact h.elim
      | pt _ _=>exact h.elim
      | undef=>exact skip h fun s2 ag K' hk=>by unfold jQ ee; simp only [hg,hl2 s2 ag]; exact hk
      | dat a q =>
        cases a<;>try (exact h.elim)
        rename_i b
        by_cases hb:b=want
        · obtain ⟨v,d,h1,h2,h3,h4⟩:=main (h.1 hb)
          exact ⟨v,d,⟨h1,fun s2 ag K' hk=>by
            unfold jQ ee; simp only [hg,hl2 s2 ag]
            exact ⟨fun _=>h2 s2 ag K' hk,fun hn=>by subst hb; cases b<;>cases hn⟩⟩,h3,h4⟩
        · have hb':b=!want:=by cases b<;>cases want<;>simp_all
          exact skip (h.2 hb') fun s2 ag K' hk=>by
            unfold jQ ee; simp only [hg,hl2 s2 ag]
            exact ⟨fun e=>absurd e hb,fun _=>hk⟩
end
structure EB (α:Type) where
 tgt:Nat
 g:Option α->Option α
def EB.ap{α:Type} (e:EB α) (f:Nat->Option α):Nat->Option α:=fun c=>if c=e.tgt then e.g (f c)else f c
def wY{α:Type} (l:List (EB α)) (f:Nat->Option α):Nat->Option α:=l.foldl (fun f e=>e.ap f) f
theorem EB.comm{α:Type} {e e':EB α} (h:e.tgt≠e'.tgt) (f:Nat->Option α):e.ap (e'.ap f)=e'.ap (e.ap f):=by
 funext c
 simp only[EB.ap]
 by_cases h1:c=e.tgt
 ·have h2:c≠e'.tgt:=fun e2=>h (h1.symm.trans e2)
  simp[h1,h2]
  have:¬e.tgt=e'.tgt:=h
  simp[this]
 ·simp[h1]
theorem AI{α:Type} {e:EB α}:∀{l:List (EB α)} {f:Nat->Option α},(∀e'∈l,e.tgt≠e'.tgt)->wY l (e.ap f)=e.ap (wY l f)
 |[],f,_=>rfl
 |a::l,f,h=>by
  show wY l (a.ap (e.ap f))=e.ap (wY l (a.ap f))
  rw[<-EB.comm (h a List.mem_cons_self)]
  exact AI fun e' he'=>h e' (List.mem_cons_of_mem _ he')
theorem yC{α:Type} {l':List (EB α)}:∀{l:List (EB α)} {f:Nat->Option α},(∀e∈l,∀e'∈l',e.tgt≠e'.tgt)->wY l (wY l' f)=wY l' (wY l f)
 |[],f,_=>rfl
 |e::l,f,h=>by
  show wY l (e.ap (wY l' f))=wY l' (wY l (e.ap f))
  rw[<-AI (h e List.mem_cons_self)]
  exact yC fun a ha=>h a (List.mem_cons_of_mem _ ha)
theorem oz{α:Type} {c:Nat}:∀{l:List (EB α)} {f:Nat->Option α},(∀e∈l,e.tgt≠c)->wY l f c=f c
 |[],f,_=>rfl
 |e::l,f,h=>by
  show wY l (e.ap f) c=f c
  rw[oz fun a ha=>h a (List.mem_cons_of_mem _ ha)]
  exact if_neg (fun e2=>h e List.mem_cons_self e2.symm)
def wB:Delta->List Nat
 | .st b _=>[b]
 | .calls ids _ _=>ids
 | .Cy ids _=>ids
 |_=>[]
def eB(d:Delta) (id:Nat):List (EB cg):=
 match d with
 | .box b=>[⟨id,fun _=>some b⟩]
 | .st b x=>[⟨b,Option.map fun _=>x⟩]
 | .calls ids css _=>(ids.zip css).map fun p=>⟨p.1,Option.map fun _=>⟨p.2,[]⟩⟩
 | .Cy ids css=>(ids.zip css).map fun p=>⟨p.1,fun _=>none⟩
 |_=>[]
def eL(d:Delta) (id:Nat):List (EB Nat):=
 match d with
 | .live e=>[⟨id,fun _=>some e⟩]
 | .app q e=>[⟨q,fun _=>none⟩,⟨id,fun _=>some e⟩]
 | .calls _ _ (some e)=>[⟨id,fun _=>some e⟩]
 |_=>[]
def fz(d:Delta):SV->SV:=
 match d with
 | .Cy ids css=>fun v=>(ids.zip css).foldl (fun v p=>ov p.1 p.2 v) v
 |_=>fun v=>v
theorem AJ:∀{ids:List Nat} {css:List (List AV)} {l:List (Nat×cg)},(fun b=>cm b (dc ids css l))=wY ((ids.zip css).map fun p=>(⟨p.1,Option.map fun _=>⟨p.2,[]⟩⟩:EB cg)) (fun b=>cm b l)
 |[],css,l=>by cases css<;>rfl
 |i::ids,[],l=>rfl
 |i::ids,cs::css,l=>by
  show(fun b=>cm b (dc ids css (nZ i ⟨cs,[]⟩ l)))=_
  rw[AJ (ids:=ids) (css:=css)]
  refine congrArg (wY _) (funext fun b=>?_)
  rw[i9]
  show _=if b=i then _ else _
  split
  ·rename_i e;subst e;rfl
  ·rfl
theorem CP:∀{ids:List Nat} {css:List (List AV)} {s:S},(fun b=>cm b (iB ids css s).boxes)=wY ((ids.zip css).map fun p=>(⟨p.1,fun _=>none⟩:EB cg)) (fun b=>cm b s.boxes)
 |[],css,s=>by cases css<;>rfl
 |i::ids,[],s=>rfl
 |i::ids,cs::css,s=>by
  show(fun b=>cm b (iB ids css {s with slots:=yp i cs s.slots,boxes:=lg i s.boxes}).boxes)=_
  rw[CP (ids:=ids) (css:=css)]
  refine congrArg (wY _) (funext fun b=>?_)
  rw[mU];rfl
theorem yD:∀{ids:List Nat} {css:List (List AV)} {s:S} (t:Nat),lk t (iB ids css s).slots=(lk t s.slots).map fun v=>(ids.zip css).foldl (fun v p=>ov p.1 p.2 v) v
 |[],css,s,t=>by cases css<;>simp[iB]
 |i::ids,[],s,t=>by simp[iB]
 |i::ids,cs::css,s,t=>by
  show lk t (iB ids css {s with slots:=yp i cs s.slots,boxes:=lg i s.boxes}).slots=_
  rw[yD (ids:=ids) (css:=css) t,uN,Option.map_map]
  rfl
theorem tY(d:Delta) (id:Nat) (s:S):(fun b=>cm b (d.app' id s).boxes)=wY (eB d id) (fun b=>cm b s.boxes):=by
 cases d with
 |box b=>funext c;simp only[Delta.app',cm,j6];show _=if c=id then _ else _;rfl
 |st b x=>
  funext c;simp only[Delta.app',i9]
  show _=if c=b then _ else _
  split
  ·rename_i e;subst e;rfl
  ·rfl
 |calls ids css fr=>exact AJ
 |Cy ids css=>exact CP
 |_=>rfl
theorem vY(d:Delta) (id:Nat) (s:S):(fun b=>er b (d.app' id s).live)=wY (eL d id) (fun b=>er b s.live):=by
 cases d with
 |live e=>funext c;simp only[Delta.app',er,j6];rfl
 |app q e=>funext c;simp only[Delta.app',er,j6,sw];show _=if c=id then _ else if c=q then _ else _;rfl
 |calls ids css fr=>cases fr with
  |none=>rfl
  |some e=>funext c;simp only[Delta.app',er,j6];rfl
 |Cy ids css=>simp only[Delta.app',AG];rfl
 |_=>rfl
theorem o9(d:Delta) (id:Nat) (s:S) (t:Nat):lk t (d.app' id s).slots=(lk t s.slots).map (fz d):=by
 cases d with
 |Cy ids css=>exact yD t
 |_=>simp[Delta.app',fz]
theorem BC{d:Delta} {id:Nat} {e:EB cg} (h:e∈eB d id):e.tgt=id\/e.tgt∈wB d:=by
 cases d with
 |box b=>simp[eB]at h;subst h;exact .inl rfl
 |st b x=>simp[eB]at h;subst h;exact .inr (by simp[wB])
 |calls ids css fr=>
  simp only[eB,List.mem_map]at h
  obtain⟨p,hm,rfl⟩:=h;exact .inr (List.of_mem_zip hm).1
 |Cy ids css=>
  simp only[eB,List.mem_map]at h
  obtain⟨p,hm,rfl⟩:=h;exact .inr (List.of_mem_zip hm).1
 |_=>simp[eB]at h
theorem uP:∀{l:List (Nat×List AV)} {v:SV},l.foldl (fun v p=>ov p.1 p.2 v) v=v\/∃cs b o,v=.ptr b o/\b∈l.map (·.1)/\l.foldl (fun v p=>ov p.1 p.2 v) v=.rp cs
 |[],v=>.inl rfl
 |p::l,v=>by
  simp only[List.foldl_cons]
  cases v with
  |ptr b o=>
   by_cases e:b=p.1
   ·refine .inr ⟨p.2.drop o,b,o,rfl,by simp[e],?_⟩
    have:ov p.1 p.2 (.ptr b o)=.rp (p.2.drop o):=by simp[ov,e]
    rw[this]
    rcases uP (l:=l) (v:=.rp (p.2.drop o))with h|⟨_,_,_,h,_⟩
    ·exact h
    ·cases h
   ·have:ov p.1 p.2 (.ptr b o)=.ptr b o:=by
     have e':(b==p.1)=false:=by simpa using e
     simp[ov,e']
    rw[this]
    rcases uP (l:=l) (v:=.ptr b o)with h|⟨cs,b',o',h,hm,h2⟩
    ·exact .inl h
    ·cases h;exact .inr ⟨cs,b,o,rfl,List.mem_cons_of_mem _ hm,h2⟩
  |_=>
   show l.foldl _ _=_\/_
   rcases uP (l:=l) (v:=_)with h|⟨_,_,_,h,_⟩
   ·exact .inl h
   ·cases h
theorem j8(d:Delta) (v:SV):fz d v=v\/∃cs b o ids css,d=.Cy ids css/\v=.ptr b o/\b∈wB d/\fz d v=.rp cs:=by
 cases d with
 |Cy ids css=>
  rcases uP (l:=ids.zip css) (v:=v)with h|⟨cs,b,o,h1,h2,h3⟩
  ·exact .inl h
  ·refine .inr ⟨cs,b,o,ids,css,rfl,h1,?_,h3⟩
   obtain⟨p,hp,rfl⟩:=List.mem_map.1 h2;exact(List.of_mem_zip hp).1
 |_=>exact .inl rfl
theorem NT(d:Delta) (cs:List AV):fz d (.rp cs)=.rp cs:=by
 rcases j8 d (.rp cs)with h|⟨_,_,_,_,_,_,h,_⟩
 ·exact h
 ·cases h
theorem Ls{dx dy:Delta} (hd:∀b∈wB dx,b∉wB dy) (v:SV):fz dy (fz dx v)=fz dx (fz dy v):=by
 rcases j8 dx v with h|⟨cs,b,o,_,_,_,rfl,hb,h⟩
 ·rw[h]
  rcases j8 dy v with k|⟨cs',b',o',_,_,_,rfl,hb',k⟩
  ·rw[k,h]
  ·rw[k,NT]
 ·rcases j8 dy (.ptr b o)with k|⟨cs',b',o',_,_,_,e,hb',k⟩
  ·rw[k,h,NT]
  ·cases e;exact absurd hb' (hd b hb)
def OA:Delta->Bool
 | .Cy _ _=>true
 |_=>false
theorem Ic{C:bz} {id:Nat} {o:CO} {s:S} {v:SV} {d:Delta} (h:El C id o s v d):∀b∈wB d,∃t∈o.op.Fb,Cx b s t:=by
 intro b hb
 have h:=h.1.1
 cases d<;>simp[wB]at hb
 ·subst hb;exact h.2
 ·exact h.2 b hb
 ·exact h.2 b hb
theorem xT{C:bz} {id:Nat} {o:CO} {s:S} {v:SV} {d:Delta} (h:El C id o s v d) (hf:OA d=true):o.op.wS=true:=by
 have h:=h.1.1
 cases d<;>first|(cases hf;done)|exact h.1
theorem Fq{o:bT} {t:Nat} (h:t∈o.Fb):t∈o.tr:=by cases o<;>first|exact h|(simp[bT.Fb]at h;done)
theorem Ie{o:bT} {t:Nat} (h:t∈o.tr):t∈o.rd:=by cases o<;>simp[bT.tr]at h<;>simp[bT.rd,h]
theorem vZ{o:bT} {t:Nat} (h:t∈o.qB):t∈o.rd:=by
 cases o<;>simp[bT.qB]at h<;>first|(simp[bT.rd,h];done)|(rcases h with h|h<;>simp[bT.rd,h])
def Clear(x y:CO) (s:S):Prop:=∀b,(∃t∈x.op.Fb,Cx b s t)->
 (∀t∈y.op.tr,¬Cx b s t)/\(x.op.wS=true->∀t∈y.rd,¬Cx b s t)
theorem SV.yE{U:Nat->Prop} {v:SV} {b:Nat} (h:v.has b) (hU:v.gB U):U b:=by
 cases v<;>try(exact h.elim)
 ·have h:_=b:=h
  subst h;exact hU
 ·obtain⟨p,hp,rfl⟩:=h;exact hU p hp
theorem Em{x y:CO} (h:x.indep y=true):(∀d,x.dst=some d->d∉y.rd/\y.dst≠some d)/\(∀d,y.dst=some d->d∉x.rd)/\(x.op.isApp=true->y.op.isApp=false):=by
 unfold CO.indep at h;simp only[Bool.and_eq_true,Bool.not_eq_true']at h;obtain⟨⟨h1,h2⟩,h5⟩:=h
 refine⟨fun d hd=>?_,fun d hd=>?_,fun hx=>?_⟩
 ·rw[hd]at h1
  simp at h1;exact⟨h1.1,h1.2⟩
 ·rw[hd]at h2
  simpa using h2
 ·rw[hx]at h5
  simpa using h5
theorem Lt {C:bz} {x y:CO} (hap:x.indep y=true) {U:Nat→Prop} {s:S} (hU:s.gB U) {i j:Nat} (hi:¬ U i) (hj:¬ U j) (hij:i≠j) (cx:Clear x y s) (cy:Clear y x s)
    {vx vy:SV} {dx dy:Delta} (hx:El C i x s vx dx) (hy:El C j y ((dx.app' i s).put x.dst vx) vy dy) :
    ou y.rd y.op.tr y.op.isApp ((dx.app' i s).put x.dst vx) s∧ou x.rd x.op.tr x.op.isApp s ((dy.app' j s).put y.dst vy) ∧
      qd ((dy.app' j ((dx.app' i s).put x.dst vx)).put y.dst vy) ((dx.app' i ((dy.app' j s).put y.dst vy)).put x.dst vx):=by
  obtain ⟨h1,h2,h5⟩:=Em hap
  have wx:=Ic hx
  have wxU:∀ b∈wB dx,U b:=fun b hb=>by obtain ⟨t,_,v,hl,hv⟩:=wx b hb; exact SV.yE hv (hU.slots t _ hl)
  -- what y looks at
  have sy:∀ t∈y.rd,lk t ((dx.app' i s).put x.dst vx).slots=lk t s.slots:=fun t ht=>by
    rw [o8,if_neg (fun e=>(h1 t e).1 ht),o9]
    cases hl:lk t s.slots with
    | none=>rfl
    | some v =>
      simp only [Option.map_some]
      rcases j8 dx v with h|⟨cs,b,o,ids,css,hd,rfl,hb,h⟩
      · rw [h]
      · exact absurd (Cx.ptr hl) ((cx b (wx b hb)).2 (xT hx (by rw [hd]; rfl)) t ht)
  have wy:∀ b∈wB dy,∃ t∈y.op.Fb,Cx b s t:=fun b hb=>by
    obtain ⟨t,ht,v,hl,hv⟩:=Ic hy b hb
    rw [sy t (CO.yB (Ie (Fq ht)))] at hl
    exact ⟨t,ht,v,hl,hv⟩
  have wyU:∀ b∈wB dy,U b:=fun b hb=>by obtain ⟨t,_,v,hl,hv⟩:=wy b hb; exact SV.yE hv (hU.slots t _ hl)
  have hdis:∀ b∈wB dx,b ∉ wB dy:=fun b hb hb'=>by
    obtain ⟨t,ht,hl⟩:=wy b hb'
    exact (cx b (wx b hb)).1 t (Fq ht) hl
  have sx:∀ t∈x.rd,lk t ((dy.app' j s).put y.dst vy).slots=lk t s.slots:=fun t ht=>by
    rw [o8,if_neg (fun e=>h2 t e ht),o9]
    cases hl:lk t s.slots with
    | none=>rfl
    | some v =>
      simp only [Option.map_some]
      rcases j8 dy v with h|⟨cs,b,o,ids,css,hd,rfl,hb,h⟩
      · rw [h]
      · exact absurd (Cx.ptr hl) ((cy b (wy b hb)).2 (xT hy (by rw [hd]; rfl)) t ht)
  -- tokens
  have tx:∀ q0 e,dx=.app q0 e→U q0∧x.op.isApp=true:=fun q0 e hd=>by
    have:=hx.1.1; rw [hd] at this
    obtain ⟨h,t,ht,a,hl⟩:=this
    exact ⟨hU.slots t _ hl,h⟩
  have ty:∀ q0 e,dy=.app q0 e→U q0∧y.op.isApp=true:=fun q0 e hd=>by
    have:=hy.1.1; rw [hd] at this
    obtain ⟨h,t,ht,a,hl⟩:=this
    rw [sy t (CO.yB ht)] at hl
    exact ⟨hU.slots t _ hl,h⟩
  have lx:∀ e∈eL dx i,e.tgt=i∨(U e.tgt∧x.op.isApp=true):=fun e he=>by
    cases hdx:dx<;>rw [hdx] at he<;>simp [eL] at he
    · subst he; exact .inl rfl
    · rcases he with rfl | rfl
      · exact .inr (tx _ _ hdx)
      · exact .inl rfl
    · rename_i fr; cases fr<;>simp at he; subst he; exact .inl rfl
  have ly:∀ e∈eL dy j,e.tgt=j∨(U e.tgt∧y.op.isApp=true):=fun e he=>by
    cases hdy:dy<;>rw [hdy] at he<;>simp [eL] at he
    · subst he; exact .inl rfl
    · rcases he with rfl | rfl
      · exact .inr (ty _ _ hdy)
      · exact .inl rfl
    · rename_i fr; cases fr<;>simp at he; subst he; exact .inl rfl
  have bxs:∀ (d:Delta) (id:Nat) (s:S) (b:Nat),cm b (d.app' id s).boxes=wY (eB d id) (fun b=>cm b s.boxes) b:=fun d id s b=>congrFun (tY d id s) b
  have lvs:∀ (d:Delta) (id:Nat) (s:S) (b:Nat),er b (d.app' id s).live=wY (eL d id) (fun b=>er b s.live) b:=fun d id s b=>congrFun (vY d id s) b
  refine ⟨⟨fun t ht=>(sy t ht).symm,fun t ht b z hv hb=>?_,fun hap' t ht a q e hv hq=>?_⟩,⟨sx,fun t ht b z hv hb=>?_,fun hap' t ht a q e hv hq=>?_⟩,?_⟩
  · obtain ⟨v,hv,hvb⟩:=hv
    rw [sy t (CO.yB (Ie ht))] at hv
    have hUb:U b:=SV.yE hvb (hU.slots t _ hv)
    rw [i7,bxs,oz] at hb
    · exact hb
    · intro e he hee
      rcases BC he with h|h
      · exact hi (by rw [← h,hee]; exact hUb)
      · exact (cx _ (wx _ h)).1 t ht (by rw [hee]; exact ⟨v,hv,hvb⟩)
  · rw [sy t ht] at hv
    have hUq:U q:=hU.slots t _ hv
    rw [j7,lvs,oz] at hq
    · exact hq
    · intro e he hee
      rcases lx e he with h|⟨_,h⟩
      · exact hi (by rw [← h,hee]; exact hUq)
      · have:=h5 h; rw [hap'] at this; cases this
  · have hUb:U b:=let ⟨_,h1,h2⟩:=hv; SV.yE h2 (hU.slots t _ h1)
    rw [i7,bxs,oz]
    · exact hb
    · intro e he hee
      rcases BC he with h|h
      · exact hj (by rw [← h,hee]; exact hUb)
      · exact (cy _ (wy _ h)).1 t ht (by rw [hee]; exact hv)
  · have hUq:U q:=hU.slots t _ hv
    rw [j7,lvs,oz]
    · exact hq
    · intro e he hee
      rcases ly e he with h|⟨_,h⟩
      · exact hj (by rw [← h,hee]; exact hUq)
      · have:=h5 hap'; rw [h] at this; cases this
  · have vxs:fz dy vx=vx:=by
      rcases j8 dy vx with h|⟨cs,b,o,ids,css,hd,hv,hb,h⟩
      · exact h
      · exfalso
        rcases hx.1.2 b (by rw [hv]; rfl) with ⟨rfl,_⟩|⟨t,ht,hl⟩
        · exact hi (wyU _ hb)
        · exact (cy b (wy b hb)).2 (xT hy (by rw [hd]; rfl)) t (CO.yB (vZ ht)) hl
    have vys:fz dx vy=vy:=by
      rcases j8 dx vy with h|⟨cs,b,o,ids,css,hd,hv,hb,h⟩
      · exact h
      · exfalso
        rcases hy.1.2 b (by rw [hv]; rfl) with ⟨rfl,_⟩|⟨t,ht,u,hl,hu⟩
        · exact hj (wxU _ hb)
        · rw [sy t (CO.yB (vZ ht))] at hl
          exact (cx b (wx b hb)).2 (xT hx (by rw [hd]; rfl)) t (CO.yB (vZ ht)) ⟨u,hl,hu⟩
    refine ⟨fun t=>?_,fun b=>?_,fun q=>?_⟩
    · simp only [o8,o9]
      by_cases ex:x.dst=some t
      · have ey:y.dst≠some t:=(h1 t ex).2
        simp [ex,ey,vxs]
      · by_cases ey:y.dst=some t
        · simp [ex,ey,vys]
        · simp only [ex,ey,if_false,Option.map_map]
          congr 1
          funext v
          exact (Ls hdis v).symm
    · rw [i7,i7,bxs,bxs]
      have e1:(fun b=>cm b ((dx.app' i s).put x.dst vx).boxes)=wY (eB dx i) (fun b=>cm b s.boxes):=by rw [i7]; exact tY dx i s
      have e2:(fun b=>cm b ((dy.app' j s).put y.dst vy).boxes)=wY (eB dy j) (fun b=>cm b s.boxes):=by rw [i7]; exact tY dy j s
      rw [e1,e2]
      refine congrFun (yC (fun e he e' he' h=>?_)) b
      rcases BC he with k|k<;>rcases BC he' with k'|k'
      · exact hij (by rw [← k,← k',h])
      · exact hi (wyU i (by rw [← k,h]; exact k'))
      · exact hj (wxU j (by rw [← k',← h]; exact k))
      · exact hdis _ k (by rw [h]; exact k')
    · rw [j7,j7,lvs,lvs]
      have e1:(fun b=>er b ((dx.app' i s).put x.dst vx).live)=wY (eL dx i) (fun b=>er b s.live):=by rw [j7]; exact vY dx i s
      have e2:(fun b=>er b ((dy.app' j s).put y.dst vy).live)=wY (eL dy j) (fun b=>er b s.live):=by rw [j7]; exact vY dy j s
      rw [e1,e2]
      refine congrFun (yC (fun e he e' he' h=>?_)) q
      rcases lx e he with k|⟨k,kk⟩<;>rcases ly e' he' with k'|⟨k',kk'⟩
      · exact hij (by rw [← k,← k',h])
      · exact hi (by rw [← k,h]; exact k')
      · exact hj (by rw [← k',← h]; exact k)
      · have:=h5 kk; rw [kk'] at this; cases this
end Go.Eng
