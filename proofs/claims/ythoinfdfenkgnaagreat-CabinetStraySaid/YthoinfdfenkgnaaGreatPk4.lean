/- The engine and the library,part 4 of 18: what the proofs of this seat need of them. -/
import Derived.Test.YthoinfdfenkgnaaGreatPk3
set_option linter.unnecessarySimpa false
set_option linter.unusedSimpArgs false
set_option linter.unusedVariables false
set_option linter.defProp false
set_option maxRecDepth 10000
set_option maxHeartbeats 4000000
namespace Go.Eng
open Go
structure oE (l lb:List Nat) (ap:Bool) (s s2:S):Prop where
 slots:∀t∈l,lk t s2.slots=lk t s.slots
 boxes:∀t∈lb,∀b off x,lk t s.slots=some (.ptr b off)->b9 b s.boxes=some x->b9 b s2.boxes=some x
 live:ap=true->∀t∈l,∀a q e,lk t s.slots=some (.dat a (some q))->d7 q s.live=some e->d7 q s2.live=some e
section
variable{l lb:List Nat} {ap:Bool} {s s2:S}
theorem oE.sub(h:oE l lb ap s s2) {l':List Nat} (hs:∀t∈l',t∈l):oE l' lb ap s s2:=
 ⟨fun t ht=>h.slots t (hs t ht),h.boxes,fun e t ht=>h.live e t (hs t ht)⟩
theorem oE.dh(h:oE l lb ap s s2) {x:bB} (hx:∀t∈x.rd,t∈l) {v:SV} (hv:Eng.dh s x=some v):Eng.dh s2 x=some v:=by
 cases x with
 |t n=>simp only[Eng.dh]at hv⊢;rw[h.slots n (hx n (by simp[bB.rd])),hv]
 |k v=>exact hv
theorem oE.aF(h:oE l lb ap s s2) {x:bB} (hx:∀t∈x.rd,t∈l) {v:AV} (hv:Eng.aF s x=some v):Eng.aF s2 x=some v:=by
 unfold Eng.aF at hv⊢
 cases ho:Eng.dh s x with
 |none=>rw[ho]at hv;cases hv
 |some u=>rw[h.dh hx ho];rw[ho]at hv;exact hv
theorem oE.dQ(h:oE l lb ap s s2):∀{xs:List bB} (hx:∀t∈bu xs,t∈l) {vs:List AV} (hv:Eng.dQ s xs=some vs),Eng.dQ s2 xs=some vs
 |[],_,vs,hv=>hv
 |x::xs,hx,vs,hv=>by
  simp only[Eng.dQ]at hv⊢
  cases h1:Eng.aF s x with
  |none=>simp[h1]at hv
  |some a=>
   cases h2:Eng.dQ s xs with
   |none=>simp[h1,h2]at hv
   |some as=>
    rw[h.aF (fun t ht=>hx t (by simp[bu,ht])) h1,h.dQ (fun t ht=>hx t (by simp[bu,ht])) h2]
    simpa[h1,h2]using hv
theorem oE.iD(h:oE l lb ap s s2):∀{xs:List (Nat×Nat×bB)} (hx:∀t∈wG xs,t∈l) {vs:List (Nat×List AV)} (hv:Eng.iD s xs=some vs),Eng.iD s2 xs=some vs
 |[],_,vs,hv=>hv
 |(o,z,x)::xs,hx,vs,hv=>by
  simp only[Eng.iD]at hv⊢
  cases h1:Eng.aF s x with
  |none=>simp[h1]at hv
  |some a=>
   cases h2:Eng.iD s xs with
   |none=>simp[h1,h2]at hv
   |some as=>
    rw[h.aF (fun t ht=>hx t (by simp[wG,ht])) h1,h.iD (fun t ht=>hx t (by simp[wG,ht])) h2]
    simpa only[h1,h2]using hv
theorem oE.lT(h:oE l lb ap s s2) {z:Nat}:∀{xs:List bB} (hx:∀t∈bu xs,t∈l) {vs:List (List AV)} (hv:Eng.lT s z xs=some vs),Eng.lT s2 z xs=some vs
 |[],_,vs,hv=>hv
 |x::xs,hx,vs,hv=>by
  simp only[Eng.lT]at hv⊢
  cases h1:Eng.aF s x with
  |none=>simp[h1]at hv
  |some a=>
   cases h2:Eng.lT s z xs with
   |none=>simp[h1,h2]at hv
   |some as=>
    rw[h.aF (fun t ht=>hx t (by simp[bu,ht])) h1,h.lT (fun t ht=>hx t (by simp[bu,ht])) h2]
    simpa only[h1,h2]using hv
theorem oE.Bc(h:oE l lb ap s s2) {x:Option bB} (hx:∀t∈JN x,t∈l) {i:Int} (hv:Eng.Bc s x=some i):Eng.Bc s2 x=some i:=by
 cases x with
 |none=>exact hv
 |some x=>
  simp only[Eng.Bc]at hv⊢
  cases h1:Eng.aF s x with
  |none=>simp[h1,Eng.yF]at hv
  |some a=>rw[h.aF hx h1];rw[h1]at hv;exact hv
theorem oE.Bd(h:oE l lb ap s s2) {xs:List (List AV)} {x:Option bB} (hx:∀t∈JN x,t∈l) {i:Int} (hv:Eng.Bd s xs x=some i):Eng.Bd s2 xs x=some i:=by
 cases x with
 |none=>exact hv
 |some x=>
  simp only[Eng.Bd]at hv⊢
  cases h1:Eng.aF s x with
  |none=>simp[h1,Eng.yF]at hv
  |some a=>rw[h.aF hx h1];rw[h1]at hv;exact hv
theorem oE.bq(h:oE l lb ap s s2):∀{xs:List bB} (hx:∀t∈bu xs,t∈l) (hx':∀t∈bu xs,t∈lb) {p:List (Option AV)×List Nat} (hv:Eng.ef s xs=some p) {css:List (List AV)} (hc:Eng.bq s.boxes p.2=some css),Eng.ef s2 xs=some p/\Eng.bq s2.boxes p.2=some css
 |[],_,_,p,hv,css,hc=>by
  simp only[Eng.ef,Option.some.injEq]at hv⊢;subst hv;exact⟨rfl,hc⟩
 |x::xs,hx,hx',p,hv,css,hc=>by
  simp only[Eng.ef]at hv⊢
  split at hv<;>try(cases hv;done)
  ·rename_i a q as bs h1 h2
   cases hv
   obtain⟨i1,i2⟩:=h.bq (fun t ht=>hx t (by simp[bu,ht])) (fun t ht=>hx' t (by simp[bu,ht])) h2 hc
   rw[h.dh (fun t ht=>hx t (by simp[bu,ht])) h1,i1]
   exact⟨rfl,i2⟩
  ·rename_i cs as bs h1 h2
   cases hv
   obtain⟨i1,i2⟩:=h.bq (fun t ht=>hx t (by simp[bu,ht])) (fun t ht=>hx' t (by simp[bu,ht])) h2 hc
   rw[h.dh (fun t ht=>hx t (by simp[bu,ht])) h1,i1]
   exact⟨rfl,i2⟩
  ·rename_i b as bs h1 h2
   cases hv;simp only[Eng.bq]at hc
   split at hc<;>try(cases hc;done)
   rename_i y css' hy hcs;cases hc
   obtain⟨i1,i2⟩:=h.bq (fun t ht=>hx t (by simp[bu,ht])) (fun t ht=>hx' t (by simp[bu,ht])) h2 hcs
   rw[h.dh (fun t ht=>hx t (by simp[bu,ht])) h1,i1]
   refine⟨rfl,?_⟩
   have hyb:Eng.b9 b s2.boxes=some y:=by
    cases x with
    |t n=>exact h.boxes n (hx' n (by simp[bu,bB.rd])) b 0 y h1 hy
    |k v=>simp[Eng.dh]at h1
   simp only[Eng.bq,hyb,i2]
theorem oE.eI(h:oE l lb ap s s2):∀{xs:List bB} (hx:∀t∈bu xs,t∈l) (hx':∀t∈bu xs,t∈lb) {p:List (Option AV)×List Nat} (hv:Eng.ef s xs=some p) {css:List (List AV)} (hc:Eng.eI s.boxes p.2=some css),Eng.ef s2 xs=some p/\Eng.eI s2.boxes p.2=some css
 |[],_,_,p,hv,css,hc=>by
  simp only[Eng.ef,Option.some.injEq]at hv⊢;subst hv;exact⟨rfl,hc⟩
 |x::xs,hx,hx',p,hv,css,hc=>by
  simp only[Eng.ef]at hv⊢
  split at hv<;>try(cases hv;done)
  ·rename_i a q as bs h1 h2
   cases hv
   obtain⟨i1,i2⟩:=h.eI (fun t ht=>hx t (by simp[bu,ht])) (fun t ht=>hx' t (by simp[bu,ht])) h2 hc
   rw[h.dh (fun t ht=>hx t (by simp[bu,ht])) h1,i1]
   exact⟨rfl,i2⟩
  ·rename_i cs as bs h1 h2
   cases hv
   obtain⟨i1,i2⟩:=h.eI (fun t ht=>hx t (by simp[bu,ht])) (fun t ht=>hx' t (by simp[bu,ht])) h2 hc
   rw[h.dh (fun t ht=>hx t (by simp[bu,ht])) h1,i1]
   exact⟨rfl,i2⟩
  ·rename_i b as bs h1 h2
   cases hv;simp only[Eng.eI]at hc
   split at hc<;>try(cases hc;done)
   rename_i cs css' hy hcs;cases hc
   obtain⟨i1,i2⟩:=h.eI (fun t ht=>hx t (by simp[bu,ht])) (fun t ht=>hx' t (by simp[bu,ht])) h2 hcs
   rw[h.dh (fun t ht=>hx t (by simp[bu,ht])) h1,i1]
   refine⟨rfl,?_⟩
   have hyb:Eng.b9 b s2.boxes=some ⟨cs,[]⟩:=by
    cases x with
    |t n=>exact h.boxes n (hx' n (by simp[bu,bB.rd])) b 0 _ h1 hy
    |k v=>simp[Eng.dh]at h1
   simp only[Eng.eI,hyb,i2]
theorem oE.b9(h:oE l lb ap s s2) {x:bB} (hx:∀t∈x.rd,t∈lb) {b off:Nat} {bx:bV} (hv:Eng.dh s x=some (.ptr b off)) (hb:Eng.b9 b s.boxes=some bx):Eng.b9 b s2.boxes=some bx:=by
 cases x with
 |t n=>exact h.boxes n (hx n (by simp[bB.rd])) b off bx hv hb
 |k v=>simp[Eng.dh]at hv
end
inductive Delta where
 |no
 |box (b:bV)
 |live (e:Nat)
 |app (q e:Nat)
 |st (b:Nat) (x:bV)
 |calls (ids:List Nat) (css:List (List AV)) (fr:Option Nat)
 |Gl (ids:List Nat) (css:List (List AV))
def Delta.app'(d:Delta) (id:Nat) (s:S):S:=
 match d with
 | .no=>s
 | .box b=>{s with boxes:=(id,b)::s.boxes}
 | .live e=>{s with live:=(id,e)::s.live}
 | .app q e=>{s with live:=(id,e)::jr q s.live}
 | .st b x=>{s with boxes:=rQ b x s.boxes}
 | .calls ids css fr=>{s with boxes:=d8 ids css s.boxes,live:=match fr with|some e=>(id,e)::s.live|none=>s.live}
 | .Gl ids css=>gS ids css s
def Delta.ok(d:Delta) (o:bW) (s:S):Prop:=
 match d with
 | .st b _=>o.zq=false/\∃t∈o.JO,∃off,lk t s.slots=some (.ptr b off)
 | .calls ids _ _=>o.zq=false/\∀b∈ids,∃t∈o.JO,∃off,lk t s.slots=some (.ptr b off)
 | .Gl ids _=>o.zq=true/\∀b∈ids,∃t∈o.JO,∃off,lk t s.slots=some (.ptr b off)
 | .app q _=>o.isApp=true/\∃t∈o.rd,∃a,lk t s.slots=some (.dat a (some q))
 |_=>True
def bV.gR(U:Nat->Prop) (x:bV):Prop:=∀o q,d7 o x.tags=some q->U q
def Delta.gR(U:Nat->Prop) (d:Delta):Prop:=
 match d with
 | .box b=>b.gR U
 | .app q _=>U q
 | .st b x=>U b/\x.gR U
 | .calls ids _ _=>∀b∈ids,U b
 |_=>True
structure S.gR (U:Nat->Prop) (s:S):Prop where
 slots:∀t v,lk t s.slots=some v->v.gR U
 boxes:∀b x,b9 b s.boxes=some x->U b/\x.gR U
 live:∀q e,d7 q s.live=some e->U q
theorem S.gR.dh{U:Nat->Prop} {s:S} (h:s.gR U) {x:bB} {v:SV} (hv:Eng.dh s x=some v):v.gR U:=by
 cases x with
 |t n=>exact h.slots n v hv
 |k a=>simp only[Eng.dh,Option.some.injEq]at hv;subst hv;trivial
theorem kF{s:S} {x:bB} {b off:Nat} (h:dh s x=some (.ptr b off)):∃t∈x.rd,∃off',lk t s.slots=some (.ptr b off'):=by
 cases x with
 |t n=>exact⟨n,by simp[bB.rd],off,h⟩
 |k v=>simp[dh]at h
theorem kQ{s:S}:∀{xs:List bB} {p:List (Option AV)×List Nat},ef s xs=some p->∀b∈p.2,∃t∈bu xs,∃off,lk t s.slots=some (.ptr b off)
 |[],p,h,b,hb=>by simp[ef]at h;subst h;cases hb
 |x::xs,p,h,b,hb=>by
  unfold ef at h;split at h
  ·rename_i h1 h2
   cases h;obtain⟨t,ht,hl⟩:=kQ h2 b hb
   exact⟨t,by simp[bu,ht],hl⟩
  ·rename_i h1 h2
   cases h;obtain⟨t,ht,hl⟩:=kQ h2 b hb
   exact⟨t,by simp[bu,ht],hl⟩
  ·rename_i h1 h2
   cases h
   rcases List.mem_cons.1 hb with rfl|hb
   ·obtain⟨t,ht,hl⟩:=kF h1
    exact⟨t,by simp[bu,ht],hl⟩
   ·obtain⟨t,ht,hl⟩:=kQ h2 b hb
    exact⟨t,by simp[bu,ht],hl⟩
  ·cases h
def uT(id:Nat) (o:bW) (s:S) (v:SV):Prop:=∀b off,v=.ptr b off->(b=id/\o.Mw=true)\/∃t∈o.rZ,∃off',lk t s.slots=some (.ptr b off')
theorem uT.dat{id:Nat} {o:bW} {s:S} {a:AV} {q:Option Nat}:uT id o s (.dat a q):=fun _ _ h=>by cases h
theorem uT.undef{id:Nat} {o:bW} {s:S}:uT id o s .undef:=fun _ _ h=>by cases h
theorem uT.rp{id:Nat} {o:bW} {s:S} {cs:List AV}:uT id o s (.rp cs):=fun _ _ h=>by cases h
def Path(C:aS) (id:Nat) (o:bW) (K:SV->S->Prop) (s:S):Prop:=
 ∃v d,K v (Delta.app' d id s)/\d.ok o s/\(∀U,s.gR U->v.gR (fk U id)/\d.gR U)/\uT id o s v/\∀s2,oE o.rd o.vC o.isApp s s2->∀K':SV->S->Prop,K' v (d.app' id s2)->bN C id o K' s2
section
variable{C:aS} {id:Nat} {o:bW} {K:SV->S->Prop} {s:S}
theorem Path.val{a:AV} (hK:K (.dat a none) s) (h:∀s2,oE o.rd o.vC o.isApp s s2->∀K':SV->S->Prop,K' (.dat a none) s2->bN C id o K' s2):Path C id o K s:=
 ⟨.dat a none,.no,hK,trivial,fun U _=>⟨trivial,trivial⟩,.dat,h⟩
theorem Path.sv{v:SV} (hK:K v s) (hv:∀U,s.gR U->v.gR U) (hp:uT id o s v) (h:∀s2,oE o.rd o.vC o.isApp s s2->∀K':SV->S->Prop,K' v s2->bN C id o K' s2):Path C id o K s:=
 ⟨v,.no,hK,trivial,fun U hs=>⟨SV.sj (fun n h=>.inl h) (hv U hs),trivial⟩,hp,h⟩
theorem sC(h:bN C id o K s):Path C id o K s:=by
 cases o<;>simp only[bN]at h
 case mv x=>
  obtain⟨v,hv,hK⟩:=ah h
  exact Path.sv hK (fun U hs=>hs.dh hv) (fun b off e=>.inr (kF (by rw[hv,e]))) fun s2 ag K' hk=>by simpa[bN,ag.dh (fun t ht=>ht) hv]using hk
 case pick c a b=>
  obtain⟨t,ht,h⟩:=ah h
  cases t<;>try(exact h.elim)
  rename_i t;obtain⟨u,hu,h⟩:=ah h;obtain⟨v,hv,hK1,hK2⟩:=ah h;cases t
  ·exact Path.sv (hK2 rfl) (fun U hs=>hs.dh hv) (fun b' off e=>.inr (by obtain⟨t,ht,hl⟩:=kF (x:=b) (by rw[hv,e]);exact⟨t,by simp[bW.rZ,ht],hl⟩)) fun s2 ag K' hk=>by
    simpa[bN,ag.aF (x:=c) (by simp[bW.rd];grind) ht,ag.dh (x:=a) (by simp[bW.rd];grind) hu,ag.dh (x:=b) (by simp[bW.rd];grind) hv]using hk
  ·exact Path.sv (hK1 rfl) (fun U hs=>hs.dh hu) (fun b' off e=>.inr (by obtain⟨t,ht,hl⟩:=kF (x:=a) (by rw[hu,e]);exact⟨t,by simp[bW.rZ,ht],hl⟩)) fun s2 ag K' hk=>by
    simpa[bN,ag.aF (x:=c) (by simp[bW.rd];grind) ht,ag.dh (x:=a) (by simp[bW.rd];grind) hu,ag.dh (x:=b) (by simp[bW.rd];grind) hv]using hk
 case alloc cs=>
  exact⟨.ptr id 0,.box ⟨cs,[]⟩,h,trivial,fun U _=>⟨.inr rfl,fun o q hq=>by cases hq⟩,fun b off e=>by cases e;exact .inl ⟨rfl,rfl⟩,fun s2 ag K' hk=>hk⟩
 case box x=>
  obtain⟨a,ha,hok,hK⟩:=ah h
  exact⟨.ptr id 0,.box ⟨a.cells,[]⟩,hK,trivial,fun U _=>⟨.inr rfl,fun o q hq=>by cases hq⟩,fun b off e=>by cases e;exact .inl ⟨rfl,rfl⟩,fun s2 ag K' hk=>by
   simpa[bN,ag.aF (x:=x) (by simp[bW.rd]) ha,hok,Delta.app']using hk⟩
 case build zs ps=>
  obtain⟨p,hp,hK⟩:=ah h
  exact Path.val hK fun s2 ag K' hk=>by simpa[bN,ag.iD (by simp[bW.rd]) hp]using hk
 case mz e z xs=>
  obtain⟨p,hp,hK⟩:=ah h
  exact⟨.dat (.sl p) (some id),.live e,hK,trivial,fun U hs=>⟨.inr rfl,trivial⟩,.dat,fun s2 ag K' hk=>by simpa[bN,ag.lT (by simp[bW.rd]) hp,Delta.app']using hk⟩
 case ld x sz=>
  obtain⟨p,hp,h⟩:=ah h
  cases p<;>try(exact h.elim)
  ·rename_i b off
   obtain⟨bx,hb,h⟩:=ah h;obtain⟨a,ha,hK⟩:=ah h
   refine Path.sv hK (fun U hs=>?_) .dat fun s2 ag K' hk=>by simpa[bN,ag.dh (x:=x) (by simp[bW.rd]) hp,ag.b9 (x:=x) (by simp[bW.vC]) hp hb,ha]using hk
   cases sz with
   |some n=>trivial
   |none=>
    cases hq:d7 off bx.tags with
    |none=>trivial
    |some q=>exact(hs.boxes b bx hb).2 off q hq
  ·rename_i cs
   obtain⟨a,ha,hK⟩:=ah h
   exact Path.val hK fun s2 ag K' hk=>by simpa[bN,ag.dh (x:=x) (by simp[bW.rd]) hp,ha]using hk
 case st x v sz=>
  obtain⟨p,hp,h⟩:=ah h
  cases p<;>try(exact h.elim)
  rename_i b off;obtain⟨bx,hb,h⟩:=ah h;obtain⟨u,hu,h⟩:=ah h
  cases u<;>try(exact h.elim)
  rename_i a q;obtain⟨h1,h2,h3,hK⟩:=h
  refine⟨.undef,.st b ⟨setCells bx.cells off a.cells,match(generalizing:=false) q with|some q=>(off,q)::bx.tags.filter (fun p=>p.1<off||off+sz<=p.1)|none=>bx.tags.filter (fun p=>p.1<off||off+sz<=p.1)⟩,hK,⟨rfl,kF (x:=x) hp⟩,fun U hs=>⟨trivial,?_,?_⟩,.undef,fun s2 ag K' hk=>?_⟩
  ·exact(hs.boxes b bx hb).1
  ·intro o q' hq'
   have hfil:∀q',d7 o (bx.tags.filter (fun p=>p.1<off||off+sz<=p.1))=some q'->U q':=fun q' hq'=>
    (hs.boxes b bx hb).2 o q' (Bk hq' (fun x=>rfl)).1
   cases q with
   |none=>exact hfil q' hq'
   |some q=>
    simp only[d7]at hq';cases hoo:o==off
    ·rw[hoo]at hq';exact hfil q' hq'
    ·rw[hoo]at hq'
     simp only[cond_true,Option.some.injEq]at hq';subst hq';exact hs.dh hu
  ·simp only[bN,ag.dh (x:=x) (by simp[bW.rd];grind) hp,ag.dh (x:=v) (by simp[bW.rd];grind) hu,ag.b9 (x:=x) (by simp[bW.vC]) hp hb,aE]
   exact⟨h1,h2,h3,hk⟩
 case fa x off=>
  obtain⟨p,hp,h⟩:=ah h
  cases p<;>try(exact h.elim)
  ·exact Path.sv h (fun U hs=>(hs.dh hp:(SV.ptr _ _).gR U)) (fun b' off' e=>.inr (by cases e;exact kF (x:=x) hp)) fun s2 ag K' hk=>by simpa[bN,ag.dh (x:=x) (by simp[bW.rd]) hp]using hk
  ·exact Path.sv h (fun U hs=>trivial) .rp fun s2 ag K' hk=>by simpa[bN,ag.dh (x:=x) (by simp[bW.rd]) hp]using hk
 case Gj x i n z=>
  obtain⟨p,hp,h⟩:=ah h;obtain⟨a,ha,h⟩:=ah h;obtain⟨j,hj,hlt,h⟩:=ah h
  cases p<;>try(exact h.elim)
  ·exact Path.sv h (fun U hs=>(hs.dh hp:(SV.ptr _ _).gR U)) (fun b' off' e=>.inr (by cases e;exact kF (x:=x) hp)) fun s2 ag K' hk=>by simpa[bN,ag.dh (x:=x) (by simp[bW.rd];grind) hp,ag.aF (x:=i) (by simp[bW.rd];grind) ha,hj,hlt]using hk
  ·exact Path.sv h (fun U hs=>trivial) .rp fun s2 ag K' hk=>by simpa[bN,ag.dh (x:=x) (by simp[bW.rd];grind) hp,ag.aF (x:=i) (by simp[bW.rd];grind) ha,hj,hlt]using hk
 case Pm x i z=>
  obtain⟨p,hp,h⟩:=ah h;obtain⟨a,ha,h⟩:=ah h;obtain⟨j,hj,h⟩:=ah h;obtain⟨xs,hxs,hlt,h⟩:=ah h;obtain⟨row,hrow,hz,hK⟩:=ah h
  refine Path.sv hK (fun U hs=>trivial) .rp fun s2 ag K' hk=>?_
  simp only[bN,ag.aF (x:=x) (by simp[bW.rd];grind) hp,ag.aF (x:=i) (by simp[bW.rd];grind) ha,hj,hxs,hrow,aE]
  exact⟨hlt,hz,hk⟩
 case EZ x off sz=>
  obtain⟨p,hp,h⟩:=ah h
  cases p<;>try(exact h.elim)
  obtain⟨a,ha,hK⟩:=ah h
  exact Path.val hK fun s2 ag K' hk=>by simpa[bN,ag.aF (x:=x) (by simp[bW.rd]) hp,ha]using hk
 case DU x i n z sz=>
  obtain⟨p,hp,h⟩:=ah h
  cases p<;>try(exact h.elim)
  obtain⟨a,ha,h⟩:=ah h;obtain⟨j,hj,hlt,h⟩:=ah h;obtain⟨b,hb,hK⟩:=ah h
  exact Path.val hK fun s2 ag K' hk=>by simpa[bN,ag.aF (x:=x) (by simp[bW.rd];grind) hp,ag.aF (x:=i) (by simp[bW.rd];grind) ha,hj,hlt,hb]using hk
 case bin op x y=>
  obtain⟨a,ha,h⟩:=ah h;obtain⟨b,hb,h⟩:=ah h;obtain⟨v,hv,hK⟩:=ah h
  exact Path.val hK fun s2 ag K' hk=>by simpa[bN,ag.aF (x:=x) (by simp[bW.rd];grind) ha,ag.aF (x:=y) (by simp[bW.rd];grind) hb,hv]using hk
 case eqc ks neg x y=>
  obtain⟨a,ha,h⟩:=ah h
  cases a<;>try(exact h.elim)
  obtain⟨b,hb,h⟩:=ah h
  cases b<;>try(exact h.elim)
  obtain⟨v,hv,hK⟩:=ah h
  exact Path.val hK fun s2 ag K' hk=>by simpa[bN,ag.aF (x:=x) (by simp[bW.rd];grind) ha,ag.aF (x:=y) (by simp[bW.rd];grind) hb,hv]using hk
 case bb neg x y=>
  obtain⟨a,ha,h⟩:=ah h;obtain⟨b,hb,h⟩:=ah h;obtain⟨v,hv,hK⟩:=ah h
  exact Path.val hK fun s2 ag K' hk=>by simpa[bN,ag.aF (x:=x) (by simp[bW.rd];grind) ha,ag.aF (x:=y) (by simp[bW.rd];grind) hb,hv]using hk
 case un op x=>
  obtain⟨a,ha,h⟩:=ah h;obtain⟨v,hv,hK⟩:=ah h
  exact Path.val hK fun s2 ag K' hk=>by simpa[bN,ag.aF (x:=x) (by simp[bW.rd]) ha,hv]using hk
 case oG k x=>
  obtain⟨a,ha,h⟩:=ah h;obtain⟨v,hv,hK⟩:=ah h
  exact Path.val hK fun s2 ag K' hk=>by simpa[bN,ag.aF (x:=x) (by simp[bW.rd]) ha,hv]using hk
 case DH k x=>
  obtain⟨a,ha,h⟩:=ah h;obtain⟨v,hv,hK⟩:=ah h
  exact Path.val hK fun s2 ag K' hk=>by simpa[bN,ag.aF (x:=x) (by simp[bW.rd]) ha,hv]using hk
 case Gt k x=>
  obtain⟨a,ha,h⟩:=ah h;obtain⟨v,hv,hK⟩:=ah h
  exact Path.val hK fun s2 ag K' hk=>by simpa[bN,ag.aF (x:=x) (by simp[bW.rd]) ha,hv]using hk
 case E0 x=>
  obtain⟨v,hv,hK⟩:=ah h
  exact Path.sv hK (fun U hs=>hs.dh hv) (fun b off e=>.inr (kF (by rw[hv,e]))) fun s2 ag K' hk=>by simpa[bN,ag.dh (fun t ht=>ht) hv]using hk
 case KV x=>
  obtain⟨a,ha,h⟩:=ah h;obtain⟨v,hv,hK⟩:=ah h
  exact Path.val hK fun s2 ag K' hk=>by simpa[bN,ag.aF (x:=x) (by simp[bW.rd]) ha,hv]using hk
 case Ms n=>exact Path.val h fun s2 ag K' hk=>by simpa[bN]using hk
 case Wn x n z hi=>
  obtain⟨p,hp,h⟩:=ah h
  cases p<;>try(exact h.elim)
  rename_i b off;obtain⟨a,ha,h2⟩:=ah h;obtain⟨j,hj,hlt,hK⟩:=ah h2
  refine Path.sv hK (fun U hs=>?_) (fun b' o' e=>by cases e) fun s2 ag K' hk=>?_
  ·have:(SV.ptr b off).gR U:=hs.dh hp
   exact this
  ·simp only[bN,ag.dh (x:=x) (by simp[bW.rd];grind) hp,ag.aF (x:=hi) (by simp[bW.rd];grind) ha,hj,aE]
   exact⟨hlt,hk⟩
 case DI e z bytes y x=>
  obtain⟨p,hp,h⟩:=ah h
  cases p<;>try(exact h.elim)
  rename_i b off n z';obtain⟨q,hq,h2⟩:=ah h
  cases q<;>try(exact h2.elim)
  rename_i b' o';obtain⟨⟨e1,e2⟩,h3⟩:=h2;obtain⟨bx,hb,h4,hK⟩:=ah h3
  have hy:∀t∈y.rd,t∈(bW.DI e z bytes y x).rd:=by simp[bW.rd];grind
  have hx:∀t∈x.rd,t∈(bW.DI e z bytes y x).rd:=by simp[bW.rd];grind
  rw[e1]at hq
  by_cases hn:n=0
  ·rw[if_pos hn]at hK
   refine Path.val hK fun s2 ag K' hk=>?_
   have hb2:=ag.b9 (x:=x) (by simp[bW.vC]) hq hb
   simp only[bN,ag.dh hy hp,ag.dh hx hq,aE,if_pos hn,hb2];exact⟨⟨trivial,e2⟩,h4,hk⟩
  ·rw[if_neg hn]at hK
   refine⟨.dat (.sl (dB z n (bx.cells.drop off))) (some id),.live e,hK,trivial,fun U hs=>⟨.inr rfl,trivial⟩,.dat,fun s2 ag K' hk=>?_⟩
   have hb2:=ag.b9 (x:=x) (by simp[bW.vC]) hq hb
   simp only[bN,ag.dh hy hp,ag.dh hx hq,aE,if_neg hn,hb2];exact⟨⟨trivial,e2⟩,h4,hk⟩
 case app e z bytes x y=>
  obtain⟨p,hp,h⟩:=ah h
  cases p<;>try(exact h.elim)
  rename_i a q;obtain⟨xs,hxs,h⟩:=ah h;obtain⟨b,hb,h⟩:=ah h;obtain⟨ys,hys,h1,h2,h3,h⟩:=ah h
  have hx:∀t∈x.rd,t∈(bW.app e z bytes x y).rd:=by simp[bW.rd];grind
  have hy:∀t∈y.rd,t∈(bW.app e z bytes x y).rd:=by simp[bW.rd];grind
  cases a<;>try(exact h.elim)
  ·--nil
   simp only[]at h;split at h
   ·rename_i he
    refine Path.val h fun s2 ag K' hk=>?_
    simp only[bN,ag.dh hx hp,ag.aF hy hb,hxs,hys,aE,if_pos he];exact⟨h1,h2,h3,hk⟩
   ·rename_i he
    refine⟨.dat (.sl (xs++ys)) (some id),.live e,h,trivial,fun U hs=>⟨.inr rfl,trivial⟩,.dat,fun s2 ag K' hk=>?_⟩
    simp only[bN,ag.dh hx hp,ag.aF hy hb,hxs,hys,aE,if_neg he];exact⟨h1,h2,h3,hk⟩
  ·cases q with
   |none=>exact h.elim
   |some q=>
    obtain⟨hq,hK⟩:=h
    have hsrc:∃t∈(bW.app e z bytes x y).rd,∃a,lk t s.slots=some (.dat a (some q)):=by
     cases x with
     |t n=>exact⟨n,hx n (by simp[bB.rd]),_,hp⟩
     |k v=>simp[dh]at hp
    refine⟨.dat (.sl (xs++ys)) (some id),.app q e,hK,⟨rfl,hsrc⟩,fun U hs=>⟨.inr rfl,hs.live q e hq⟩,.dat,fun s2 ag K' hk=>?_⟩
    have hq2:d7 q s2.live=some e:=by
     cases x with
     |t n=>exact ag.live rfl n (hx n (by simp[bB.rd])) _ q e hp hq
     |k v=>simp[dh]at hp
    simp only[bN,ag.dh hx hp,ag.aF hy hb,hxs,hys,aE];exact⟨h1,h2,h3,hq2,hk⟩
 case call f args=>
  obtain⟨as,has,r,fr,hc,hK⟩:=ah h
  cases fr with
  |none=>exact Path.val hK fun s2 ag K' hk=>by simp only[bN,ag.dQ (by simp[bW.rd]) has,aE];exact⟨r,none,hc,hk⟩
  |some e=>exact⟨.dat r (some id),.live e,hK,trivial,fun U hs=>⟨.inr rfl,trivial⟩,.dat,fun s2 ag K' hk=>by simp only[bN,ag.dQ (by simp[bW.rd]) has,aE];exact⟨r,some e,hc,hk⟩⟩
 case bI f args=>
  obtain⟨p,hp,hnd,h⟩:=ah h;obtain⟨css,hcs,r,fr,css',hc,hK⟩:=ah h
  have hin:∀U,s.gR U->∀b∈p.2,U b:=by
   intro U hs b hb
   obtain⟨k,hk⟩:=List.mem_iff_getElem?.1 hb
   obtain⟨x,hx,_⟩:=(gm hcs).2 k b hk
   exact(hs.boxes b x hx).1
  have hgo:∀s2,oE (bW.bI f args).rd (bW.bI f args).vC (bW.bI f args).isApp s s2->∀K':SV->S->Prop,K' (.dat r (fr.map fun _=>id)) (Delta.app' (.calls p.2 css' fr) id s2)->bN C id (.bI f args) K' s2:=by
   intro s2 ag K' hk
   obtain⟨h1,h2⟩:=ag.bq (xs:=args) (by simp[bW.rd]) (by simp[bW.vC]) hp hcs
   simp only[bN,h1,h2,aE];exact⟨hnd,r,fr,css',hc,hk⟩
  exact⟨.dat r (fr.map fun _=>id),.calls p.2 css' fr,hK,⟨rfl,kQ hp⟩,fun U hs=>⟨by cases fr with|none=>trivial|some e=>exact .inr rfl,hin U hs⟩,.dat,hgo⟩
 case eP g args=>
  obtain⟨a,ha,h⟩:=ah h
  cases a<;>try(exact h.elim)
  rename_i fn first caps
  cases fn<;>try(exact h.elim)
  obtain⟨as,has,r,fr,hc,hK⟩:=ah h
  have hg:∀t∈g.rd,t∈(bW.eP g args).rd:=by simp[bW.rd];grind
  have has':∀t∈bu args,t∈(bW.eP g args).rd:=by simp[bW.rd];grind
  cases fr with
  |none=>exact Path.val hK fun s2 ag K' hk=>by simp only[bN,ag.aF hg ha,ag.dQ has' has,aE];exact⟨r,none,hc,hk⟩
  |some e=>exact⟨.dat r (some id),.live e,hK,trivial,fun U hs=>⟨.inr rfl,trivial⟩,.dat,fun s2 ag K' hk=>by simp only[bN,ag.aF hg ha,ag.dQ has' has,aE];exact⟨r,some e,hc,hk⟩⟩
 case ext x i=>
  obtain⟨a,ha,h⟩:=ah h;obtain⟨v,hv,hK⟩:=ah h
  exact Path.val hK fun s2 ag K' hk=>by simpa[bN,ag.aF (x:=x) (by simp[bW.rd]) ha,hv]using hk
 case xt e x=>
  obtain⟨a,ha,h⟩:=ah h;obtain⟨v,hv,hK⟩:=ah h
  exact Path.val hK fun s2 ag K' hk=>by simpa[bN,ag.aF (x:=x) (by simp[bW.rd]) ha,hv]using hk
 case WS x i=>
  obtain⟨p,hp,h⟩:=ah h
  cases p<;>try(exact h.elim)
  obtain⟨a,ha,h⟩:=ah h;obtain⟨j,hj,h⟩:=ah h;obtain⟨b,hb,hK⟩:=ah h
  exact Path.val hK fun s2 ag K' hk=>by simpa[bN,ag.aF (x:=x) (by simp[bW.rd];grind) hp,ag.aF (x:=i) (by simp[bW.rd];grind) ha,hj,hb]using hk
 case SY neg x=>
  obtain⟨a,ha,h⟩:=ah h;obtain⟨v,hv,hK⟩:=ah h
  exact Path.val hK fun s2 ag K' hk=>by simpa[bN,ag.aF (x:=x) (by simp[bW.rd]) ha,hv]using hk
 case Ba f args=>
  obtain⟨p,hp,hnd,h⟩:=ah h;obtain⟨css,hcs,r,hc,hK⟩:=ah h
  refine Path.val hK fun s2 ag K' hk=>?_
  obtain⟨h1,h2⟩:=ag.eI (xs:=args) (by simp[bW.rd]) (by simp[bW.vC]) hp hcs
  simp only[bN,h1,h2,aE];exact⟨hnd,r,hc,hk⟩
 case rX g args=>
  obtain⟨a,ha,h⟩:=ah h
  cases a<;>try(exact h.elim)
  rename_i fn first caps
  cases fn<;>try(exact h.elim)
  rename_i f
  cases first<;>try(exact h.elim)
  cases caps<;>try(exact h.elim)
  obtain⟨p,hp,hnd,h⟩:=ah h;obtain⟨css,hcs,r,hc,hK⟩:=ah h
  have hg:∀t∈g.rd,t∈(bW.rX g args).rd:=by simp[bW.rd];grind
  refine Path.val hK fun s2 ag K' hk=>?_
  obtain⟨h1,h2⟩:=ag.eI (xs:=args) (by simp[bW.rd];grind) (by simp[bW.vC]) hp hcs
  simp only[bN,ag.aF hg ha,h1,h2,aE];exact⟨hnd,r,hc,hk⟩
 case fQ g args=>
  obtain⟨a,ha,h⟩:=ah h
  cases a<;>try(exact h.elim)
  rename_i fn first caps
  cases fn<;>try(exact h.elim)
  rename_i f
  cases first<;>try(exact h.elim)
  cases caps<;>try(exact h.elim)
  obtain⟨p,hp,hnd,h⟩:=ah h;obtain⟨css,hcs,r,fr,css',hc,hK⟩:=ah h
  have hin:∀U,s.gR U->∀b∈p.2,U b:=by
   intro U hs b hb
   obtain⟨k,hk⟩:=List.mem_iff_getElem?.1 hb
   obtain⟨x,hx,_⟩:=(gm hcs).2 k b hk
   exact(hs.boxes b x hx).1
  have hg:∀t∈g.rd,t∈(bW.fQ g args).rd:=by simp[bW.rd];grind
  have hgo:∀s2,oE (bW.fQ g args).rd (bW.fQ g args).vC (bW.fQ g args).isApp s s2->∀K':SV->S->Prop,K' (.dat r (fr.map fun _=>id)) (Delta.app' (.calls p.2 css' fr) id s2)->bN C id (.fQ g args) K' s2:=by
   intro s2 ag K' hk
   obtain⟨h1,h2⟩:=ag.bq (xs:=args) (by simp[bW.rd];grind) (by simp[bW.vC]) hp hcs
   simp only[bN,ag.aF hg ha,h1,h2,aE];exact⟨hnd,r,fr,css',hc,hk⟩
  exact⟨.dat r (fr.map fun _=>id),.calls p.2 css' fr,hK,⟨rfl,kQ hp⟩,fun U hs=>⟨by cases fr with|none=>trivial|some e=>exact .inr rfl,hin U hs⟩,.dat,hgo⟩
 case Sq x n z=>
  obtain⟨p,hp,h⟩:=ah h
  cases p<;>try(exact h.elim)
  ·rename_i b off
   obtain⟨h4,h⟩:=h;obtain⟨bx,hb,hlen,hK⟩:=ah h
   refine⟨_,.Gl [b] [bx.cells],hK,⟨rfl,fun b' hb'=>?_⟩,fun U hs=>⟨trivial,trivial⟩,.dat,fun s2 ag K' hk=>?_⟩
   ·simp only[List.mem_singleton]at hb';subst hb';exact kF (x:=x) hp
   ·simp only[bN,ag.dh (x:=x) (by simp[bW.rd]) hp,ag.b9 (x:=x) (by simp[bW.vC]) hp hb,aE]
    exact⟨h4,hlen,hk⟩
  ·obtain⟨hlen,hK⟩:=h
   refine Path.val hK fun s2 ag K' hk=>?_
   simp only[bN,ag.dh (x:=x) (by simp[bW.rd]) hp,aE]
   exact⟨hlen,hk⟩
 case rW fn a b=>
  obtain⟨as,has,h⟩:=ah h;obtain⟨p,hp,hok,h⟩:=ah h;obtain⟨css,hcs,hK⟩:=ah h
  have hgo:∀s2,oE (bW.rW fn a b).rd (bW.rW fn a b).vC (bW.rW fn a b).isApp s s2->∀K':SV->S->Prop,K' (.dat (.fn fn as (jv p.1 css)) none) (gS p.2 css s2)->bN C id (.rW fn a b) K' s2:=by
   intro s2 ag K' hk
   obtain⟨h1,h2⟩:=ag.bq (xs:=b) (by simp[bW.rd];grind) (by simp[bW.vC]) hp hcs
   simp only[bN,ag.dQ (xs:=a) (by simp[bW.rd];grind) has,h1,h2,aE]
   exact⟨hok,hk⟩
  cases b with
  |nil=>
   simp[ef]at hp;subst hp
   have e:∀s:S,gS [] css s=s:=fun s=>by cases css<;>rfl
   simp only[e]at hK hgo;exact Path.val hK hgo
  |cons x b=>exact⟨_,.Gl p.2 css,hK,⟨rfl,kQ hp⟩,fun U hs=>⟨trivial,trivial⟩,.dat,hgo⟩
 case SX z x lo hi=>
  obtain⟨a,ha,h⟩:=ah h;obtain⟨xs,hxs,h⟩:=ah h;obtain⟨l,hl,h⟩:=ah h;obtain⟨m,hm,h1,h2,hK⟩:=ah h
  refine Path.val hK fun s2 ag K' hk=>?_
  simp only[bN,ag.aF (x:=x) (by simp[bW.rd];grind) ha,hxs,ag.Bc (x:=lo) (by simp[bW.rd];grind) hl,ag.Bd (x:=hi) (by simp[bW.rd];grind) hm,aE]
  exact⟨h1,h2,hk⟩
 case nc x=>
  obtain⟨p,hp,h⟩:=ah h
  cases p with
  |ptr b o=>exact Path.sv h (fun U hs=>(hs.dh hp:(SV.ptr _ _).gR U)) (fun b' off' e=>.inr (by cases e;exact kF (x:=x) hp)) fun s2 ag K' hk=>by simpa[bN,ag.dh (x:=x) (by simp[bW.rd]) hp]using hk
  |rp cs=>exact Path.sv h (fun U hs=>trivial) .rp fun s2 ag K' hk=>by simpa[bN,ag.dh (x:=x) (by simp[bW.rd]) hp]using hk
  |undef=>exact h.elim
  |vs _ _ _ _=>exact h.elim
  |oF _ _ _=>exact h.elim
  |raw _ _=>exact h.elim
  |dat a q=>
   cases a<;>try(exact h.elim)
   case ref cs=>exact Path.sv h (fun U hs=>trivial) .rp fun s2 ag K' hk=>by simpa[bN,ag.dh (x:=x) (by simp[bW.rd]) hp]using hk
   rename_i fn as bs
   cases fn<;>try(exact h.elim)
   exact Path.sv h (fun U hs=>hs.dh (v:=.dat _ q) hp) .dat fun s2 ag K' hk=>by simpa[bN,ag.dh (x:=x) (by simp[bW.rd]) hp]using hk
 case mm mx args=>
  obtain⟨as,has,h⟩:=ah h
  cases as with
  |nil=>exact h.elim
  |cons a r=>
   obtain⟨v,hv,hK⟩:=ah h
   exact Path.val hK fun s2 ag K' hk=>by simpa[bN,ag.dQ (xs:=args) (by simp[bW.rd]) has,hv]using hk
end
theorem mq{α:Type} (n m:Nat) (x y:α):(bif n==m then x else y)=if n=m then x else y:=by
 by_cases h:n=m
 ·simp[h]
 ·have h':(n==m)=false:=by simpa using h
  simp[h,h']
def jU(C:aS) (id:Nat) (o:CO) (K:S->Prop) (s:S):Prop:=
 eN s o.g (bN C id o.op (fun v s'=>K (s'.put o.dst v)) s) (K (s.put o.dst .undef))
theorem mC{C:aS} {base i:Nat} {o:CO} {r:List CO} {K:S->Prop} {s:S}:jw C base i (o::r) K s=jU C (base+i) o (jw C base (i+1) r K) s:=rfl
theorem oE.refl{l lb:List Nat} {ap:Bool} {s:S}:oE l lb ap s s:=⟨fun _ _=>rfl,fun _ _ _ _ _ _ h=>h,fun _ _ _ _ _ _ _ h=>h⟩
theorem oE.trans {l lb:List Nat} {ap:Bool} {s s2 s3:S} (hl:∀ t∈lb,t∈l) (h:oE l lb ap s s2) (k:oE l lb ap s2 s3):oE l lb ap s s3 :=
  ⟨fun t ht=>(k.slots t ht).trans (h.slots t ht),fun t ht b off x hv hb=>k.boxes t ht b off x (by rw [h.slots t (hl t ht)]; exact hv) (h.boxes t ht b off x hv hb),
   fun e t ht a q e' hv hq=>k.live e t ht a q e' (by rw [h.slots t ht]; exact hv) (h.live e t ht a q e' hv hq)⟩
theorem vH{s:S} {d:Option Nat} {v:SV} {t:Nat}:lk t (s.put d v).slots=if d=some t then some v else lk t s.slots:=by
 cases d with
 |none=>simp[S.put]
 |some d=>
  simp only[S.put,lk,mq]
  by_cases h:t=d
  ·subst h;simp
  ·have h2:¬(some d=some t):=fun e=>h (Option.some.inj e).symm
   rw[if_neg h,if_neg h2]
theorem iq{s:S} {d:Option Nat} {v:SV}:(s.put d v).boxes=s.boxes:=by cases d<;>rfl
theorem jz{s:S} {d:Option Nat} {v:SV}:(s.put d v).live=s.live:=by cases d<;>rfl
theorem jg{m:Nat} {b:bV}:∀{l:List (Nat×bV)} {n:Nat},b9 n (rQ m b l)=if n=m then(b9 m l).map fun _=>b else b9 n l
 |[],n=>by simp[rQ,b9]
 |(k,v)::r,n=>by
  have ih:=jg (m:=m) (b:=b) (l:=r) (n:=n)
  simp only[rQ,mq]
  by_cases hmk:m=k
  ·subst hmk
   simp only[if_true,b9,mq]
   by_cases hn:n=m
   ·simp[hn]
   ·simp[hn]
  ·simp only[hmk,if_false,b9,mq,ih]
   by_cases hnk:n=k
   ·have:¬n=m:=fun e=>hmk (e.symm.trans hnk)
    simp[hnk,Ne.symm hmk]
   ·simp only[hnk,if_false]
theorem uf{m:Nat}:∀{l:List (Nat×Nat)} {n:Nat},d7 n (jr m l)=if n=m then none else d7 n l
 |[],n=>by simp[jr,d7]
 |(k,v)::r,n=>by
  have ih:=uf (m:=m) (l:=r) (n:=n)
  simp only[jr,mq]
  by_cases hmk:m=k
  ·subst hmk
   simp only[if_true,d7,mq,ih]
   by_cases hn:n=m
   ·simp[hn]
   ·simp[hn]
  ·simp only[hmk,if_false,d7,mq,ih]
   by_cases hnk:n=k
   ·simp[hnk,Ne.symm hmk]
   ·simp only[hnk,if_false]
structure rU (s s2:S):Prop where
 slots:∀t,lk t s2.slots=lk t s.slots
 boxes:∀b,b9 b s2.boxes=b9 b s.boxes
 live:∀q,d7 q s2.live=d7 q s.live
theorem rU.refl{s:S}:rU s s:=⟨fun _=>rfl,fun _=>rfl,fun _=>rfl⟩
theorem rU.symm{s s2:S} (h:rU s s2):rU s2 s:=⟨fun t=>(h.slots t).symm,fun t=>(h.boxes t).symm,fun t=>(h.live t).symm⟩
theorem rU.trans{s s2 s3:S} (h:rU s s2) (k:rU s2 s3):rU s s3:=⟨fun t=>(k.slots t).trans (h.slots t),fun t=>(k.boxes t).trans (h.boxes t),fun t=>(k.live t).trans (h.live t)⟩
theorem rU.agr{s s2:S} (h:rU s s2) {l lb:List Nat} {ap:Bool}:oE l lb ap s s2:=
 ⟨fun t _=>h.slots t,fun t _ b off x _ hb=>by rw[h.boxes];exact hb,fun _ t _ a q e _ hq=>by rw[h.live];exact hq⟩
theorem rU.put{s s2:S} (h:rU s s2) (d:Option Nat) (v:SV):rU (s.put d v) (s2.put d v):=
 ⟨fun t=>by rw[vH,vH,h.slots],fun b=>by rw[iq,iq];exact h.boxes b,fun b=>by rw[jz,jz];exact h.live b⟩
theorem zA:∀{ids:List Nat} {css:List (List AV)} {l l2:List (Nat×bV)},(∀b,b9 b l2=b9 b l)->∀b,b9 b (d8 ids css l2)=b9 b (d8 ids css l)
 |[],css,l,l2,h,b=>by cases css<;>exact h b
 |i::ids,[],l,l2,h,b=>h b
 |i::ids,cs::css,l,l2,h,b=>by
  simp only[d8]
  exact zA (fun b=>by simp only[jg,h]) b
theorem rU.gS{ids:List Nat}:∀{css:List (List AV)} {s s2:S},rU s s2->rU (gS ids css s) (gS ids css s2):=by
 induction ids with
 |nil=>intro css s s2 h;cases css<;>exact h
 |cons b ids ih=>
  intro css s s2 h
  cases css with
  |nil=>exact h
  |cons cs css=>
   exact ih ⟨fun t=>by simp only[wP,h.slots],fun c=>by simp only[oN,h.boxes],h.live⟩
theorem rU.app{s s2:S} (h:rU s s2) (d:Delta) (id:Nat):rU (d.app' id s) (d.app' id s2):=by
 cases d with
 |Gl ids css=>exact h.gS
 |no=>exact h
 |box b=>exact⟨h.slots,fun c=>by simp only[Delta.app',b9,h.boxes],h.live⟩
 |live e=>exact⟨h.slots,h.boxes,fun q=>by simp only[Delta.app',d7,h.live]⟩
 |app q0 e=>exact⟨h.slots,h.boxes,fun q=>by simp only[Delta.app',d7,h.live,uf]⟩
 |st b x=>exact⟨h.slots,fun c=>by simp only[Delta.app',h.boxes,jg],h.live⟩
 |calls ids css fr=>exact⟨h.slots,zA h.boxes,fun q=>by cases fr<;>simp only[Delta.app',d7,h.live]⟩
theorem rU.gR{s s2:S} (h:rU s s2) {U:Nat->Prop} (hs:s.gR U):s2.gR U:=
 ⟨fun t v hv=>hs.slots t v (by rw[<-h.slots];exact hv),fun b x hb=>hs.boxes b x (by rw[<-h.boxes];exact hb),fun q e hq=>hs.live q e (by rw[<-h.live];exact hq)⟩
def IQ(C:aS) (id:Nat) (o:CO) (s:S) (v:SV) (d:Delta):Prop:=
 (d.ok o.op s/\uT id o.op s v)/\∀s2,oE o.rd o.op.vC o.op.isApp s s2->∀K',K' ((d.app' id s2).put o.dst v)->jU C id o K' s2
theorem JZ{s:S} {U:Nat->Prop} (h:s.gR U) {d:Option Nat} {v:SV} (hv:v.gR U):(s.put d v).gR U:=by
 refine⟨fun t u hu=>?_,fun b x hb=>h.boxes b x (by rwa[iq]at hb),fun q e hq=>h.live q e (by rwa[jz]at hq)⟩
 rw[vH]at hu;split at hu
 ·cases hu;exact hv
 ·exact h.slots t u hu
theorem AM{s:S} {U U':Nat->Prop} (hU:∀n,U n->U' n) (h:s.gR U):s.gR U':=
 ⟨fun t v hv=>SV.sj hU (h.slots t v hv),fun b x hb=>⟨hU _ (h.boxes b x hb).1,fun o q hq=>hU _ ((h.boxes b x hb).2 o q hq)⟩,fun q e hq=>hU _ (h.live q e hq)⟩
theorem Ea:∀{ids:List Nat} {css:List (List AV)} {l:List (Nat×bV)} {U:Nat->Prop},(∀b x,b9 b l=some x->U b/\x.gR U)->(∀b∈ids,U b)->∀b x,b9 b (d8 ids css l)=some x->U b/\x.gR U
 |[],css,l,U,h,hi,b,x,hb=>by cases css<;>exact h b x hb
 |i::ids,[],l,U,h,hi,b,x,hb=>h b x hb
 |i::ids,cs::css,l,U,h,hi,b,x,hb=>by
  simp only[d8]at hb
  refine Ea (fun b x hx=>?_) (fun b hb=>hi b (List.mem_cons_of_mem _ hb)) b x hb
  rw[jg]at hx;split at hx
  ·rename_i e
   cases hl:b9 i l with
   |none=>simp[hl]at hx
   |some y=>
    simp[hl]at hx;subst hx
    exact⟨e▸hi i (List.mem_cons_self ..),fun o q hq=>by cases hq⟩
  ·exact h b x hx
theorem ML{ids:List Nat} {U:Nat->Prop}:∀{css:List (List AV)} {s:S},s.gR U->(gS ids css s).gR U:=by
 induction ids with
 |nil=>intro css s h;cases css<;>exact h
 |cons b ids ih=>
  intro css s h
  cases css with
  |nil=>exact h
  |cons cs css=>
   refine ih ⟨fun t v hv=>?_,fun c x hc=>?_,h.live⟩
   ·simp only[wP,Option.map_eq_some_iff]at hv
    obtain⟨u,hu,rfl⟩:=hv
    have hi:=h.slots t u hu
    cases u with
    |ptr c o=>
     simp only[pV,mq];split
     ·trivial
     ·exact hi
    |dat a q=>exact hi
    |rp cs=>exact hi
    |undef=>exact hi
    |vs _ _ _ _=>exact hi
    |oF _ _ _=>exact hi
    |raw _ _=>exact hi
   ·simp only[oN]at hc
    split at hc
    ·cases hc
    ·exact h.boxes c x hc
theorem PI{s:S} {U:Nat->Prop} (h:s.gR U) {d:Delta} {id:Nat} (hd:d.gR U):(d.app' id s).gR (fk U id):=by
 have h':s.gR (fk U id):=AM (fun n hn=>.inl hn) h
 cases d with
 |no=>exact h'
 |Gl ids css=>exact ML h'
 |box b=>
  refine⟨h'.slots,fun b' x hb=>?_,h'.live⟩
  simp only[Delta.app',b9]at hb
  by_cases he:b'=id
  ·subst he
   simp at hb;subst hb
   exact⟨.inr rfl,fun o q hq=>.inl (hd o q hq)⟩
  ·have he':(b'==id)=false:=by simpa using he
   rw[he']at hb;exact h'.boxes b' x hb
 |live e=>
  refine⟨h'.slots,h'.boxes,fun q e' hq=>?_⟩
  simp only[Delta.app',d7]at hq
  by_cases he:q=id
  ·subst he;exact .inr rfl
  ·have he':(q==id)=false:=by simpa using he
   rw[he']at hq;exact h'.live q e' hq
 |app q0 e=>
  refine⟨h'.slots,h'.boxes,fun q e' hq=>?_⟩
  simp only[Delta.app',d7]at hq
  by_cases he:q=id
  ·subst he;exact .inr rfl
  ·have he':(q==id)=false:=by simpa using he
   rw[he',uf]at hq;simp only[cond_false]at hq;split at hq
   ·cases hq
   ·exact h'.live q e' hq
 |st b0 x0=>
  refine⟨h'.slots,fun b x hb=>?_,h'.live⟩
  simp only[Delta.app',jg]at hb;split at hb
  ·rename_i he
   cases hl:b9 b0 s.boxes with
   |none=>simp[hl]at hb
   |some y=>
    simp[hl]at hb;subst hb
    exact⟨.inl (he▸hd.1),fun o q hq=>.inl (hd.2 o q hq)⟩
  ·exact h'.boxes b x hb
 |calls ids css fr=>
  refine⟨h'.slots,Ea h'.boxes (fun b hb=>.inl (hd b hb)),fun q e' hq=>?_⟩
  cases fr with
  |none=>exact h'.live q e' hq
  |some e=>
   simp only[Delta.app',d7,mq]at hq;split at hq
   ·rename_i he;subst he;exact .inr rfl
   ·exact h'.live q e' hq
section
variable{C:aS} {id:Nat} {o:CO} {K:S->Prop} {s:S}
theorem CO.Bo{o:CO} {t:Nat} (h:t∈o.op.rd):t∈o.rd:=by simp[CO.rd,h]
theorem eV (h:jU C id o K s):∃ v d,IQ C id o s v d∧K ((d.app' id s).put o.dst v)∧∀ U,s.gR U→((d.app' id s).put o.dst v).gR (fk U id):=by
  have main:∀ {K:S→Prop},bN C id o.op (fun v s'=>K (s'.put o.dst v)) s→∃ (v:SV) (d:Delta),(d.ok o.op s∧uT id o.op s v)∧(∀ s2,oE o.rd o.op.vC o.op.isApp s s2→∀ K':S→Prop,K' ((d.app' id s2).put o.dst v)→bN C id o.op (fun v s'=>K' (s'.put o.dst v)) s2)∧K ((d.app' id s).put o.dst v)∧∀ U,s.gR U→((d.app' id s).put o.dst v).gR (fk U id):=by
    intro K h
    obtain ⟨v,d,hK,hok,hU,hfp,hs⟩:=sC h
    exact ⟨v,d,⟨hok,hfp⟩,fun s2 ag K' hk=>hs s2 (ag.sub fun t ht=>CO.Bo ht) _ hk,hK,fun U hU'=>JZ (PI hU' (hU U hU').2) (hU U hU').1⟩
  have skip:K (s.put o.dst .undef)→(∀ s2,oE o.rd o.op.vC o.op.isApp s s2→∀ K',K' (s2.put o.dst .undef)→jU C id o K' s2)→∃ v d,IQ C id o s v d∧K ((d.app' id s).put o.dst v)∧∀ U,s.gR U→((d.app' id s).put o.dst v).gR (fk U id):=by
    intro hK hs
    exact ⟨.undef,.no,⟨⟨trivial,.undef⟩,hs⟩,hK,fun U hU=>JZ (AM (fun n h=>.inl h) hU) trivial⟩
  unfold jU eN at h
  cases hg:o.g with
  | none =>
    simp only [hg] at h
    obtain ⟨v,d,h1,h2,h3,h4⟩:=main h
    exact ⟨v,d,⟨h1,fun s2 ag K' hk=>by unfold jU eN; simp only [hg]; exact h2 s2 ag K' hk⟩,h3,h4⟩
  | some p =>
    obtain ⟨t,want⟩:=p
    have htm:t∈o.rd:=by simp [CO.rd,hg]
    simp only [hg] at h
    cases hl:lk t s.slots with
    | none=>simp [hl] at h
    | some v =>
      have hl2:∀ s2,oE o.rd o.op.vC o.op.isApp s s2→lk t s2.slots=some v:=fun s2 ag=>by rw [ag.slots t htm,hl]
      simp only [hl] at h
      cases v with
      | ptr b o=>exact h.elim
      | rp cs=>exact h.elim
      | vs _ _ _ _=>exact h.elim
      | oF _ _ _=>exact h.elim
      | raw _ _=>exact h.elim
      | undef=>exact skip h fun s2 ag K' hk=>by unfold jU eN; simp only [hg,hl2 s2 ag]; exact hk
      | dat a q =>
        cases a<;>try (exact h.elim)
        rename_i b
        by_cases hb:b=want
        · obtain ⟨v,d,h1,h2,h3,h4⟩:=main (h.1 hb)
          exact ⟨v,d,⟨h1,fun s2 ag K' hk=>by
            unfold jU eN; simp only [hg,hl2 s2 ag]
            exact ⟨fun _=>h2 s2 ag K' hk,fun hn=>by subst hb; cases b<;>cases hn⟩⟩,h3,h4⟩
        · have hb':b=!want:=by cases b<;>cases want<;>simp_all
          exact skip (h.2 hb') fun s2 ag K' hk=>by
            unfold jU eN; simp only [hg,hl2 s2 ag]
            exact ⟨fun e=>absurd e hb,fun _=>hk⟩
end
structure EB (α:Type) where
 tgt:Nat
 g:Option α->Option α
def EB.ap{α:Type} (e:EB α) (f:Nat->Option α):Nat->Option α:=fun c=>if c=e.tgt then e.g (f c)else f c
def zB{α:Type} (l:List (EB α)) (f:Nat->Option α):Nat->Option α:=l.foldl (fun f e=>e.ap f) f
theorem EB.comm{α:Type} {e e':EB α} (h:e.tgt≠e'.tgt) (f:Nat->Option α):e.ap (e'.ap f)=e'.ap (e.ap f):=by
 funext c
 simp only[EB.ap]
 by_cases h1:c=e.tgt
 ·have h2:c≠e'.tgt:=fun e2=>h (h1.symm.trans e2)
  simp[h1,h2]
  have:¬e.tgt=e'.tgt:=h
  simp[this]
 ·simp[h1]
theorem Eb{α:Type} {e:EB α}:∀{l:List (EB α)} {f:Nat->Option α},(∀e'∈l,e.tgt≠e'.tgt)->zB l (e.ap f)=e.ap (zB l f)
 |[],f,_=>rfl
 |a::l,f,h=>by
  show zB l (a.ap (e.ap f))=e.ap (zB l (a.ap f))
  rw[<-EB.comm (h a List.mem_cons_self)]
  exact Eb fun e' he'=>h e' (List.mem_cons_of_mem _ he')
theorem Bp{α:Type} {l':List (EB α)}:∀{l:List (EB α)} {f:Nat->Option α},(∀e∈l,∀e'∈l',e.tgt≠e'.tgt)->zB l (zB l' f)=zB l' (zB l f)
 |[],f,_=>rfl
 |e::l,f,h=>by
  show zB l (e.ap (zB l' f))=zB l' (zB l (e.ap f))
  rw[<-Eb (h e List.mem_cons_self)]
  exact Bp fun a ha=>h a (List.mem_cons_of_mem _ ha)
theorem oO{α:Type} {c:Nat}:∀{l:List (EB α)} {f:Nat->Option α},(∀e∈l,e.tgt≠c)->zB l f c=f c
 |[],f,_=>rfl
 |e::l,f,h=>by
  show zB l (e.ap f) c=f c
  rw[oO fun a ha=>h a (List.mem_cons_of_mem _ ha)]
  exact if_neg (fun e2=>h e List.mem_cons_self e2.symm)
def wB:Delta->List Nat
 | .st b _=>[b]
 | .calls ids _ _=>ids
 | .Gl ids _=>ids
 |_=>[]
def eB(d:Delta) (id:Nat):List (EB bV):=
 match d with
 | .box b=>[⟨id,fun _=>some b⟩]
 | .st b x=>[⟨b,Option.map fun _=>x⟩]
 | .calls ids css _=>(ids.zip css).map fun p=>⟨p.1,Option.map fun _=>⟨p.2,[]⟩⟩
 | .Gl ids css=>(ids.zip css).map fun p=>⟨p.1,fun _=>none⟩
 |_=>[]
def eL(d:Delta) (id:Nat):List (EB Nat):=
 match d with
 | .live e=>[⟨id,fun _=>some e⟩]
 | .app q e=>[⟨q,fun _=>none⟩,⟨id,fun _=>some e⟩]
 | .calls _ _ (some e)=>[⟨id,fun _=>some e⟩]
 |_=>[]
def fz(d:Delta):SV->SV:=
 match d with
 | .Gl ids css=>fun v=>(ids.zip css).foldl (fun v p=>pV p.1 p.2 v) v
 |_=>fun v=>v
theorem Ec:∀{ids:List Nat} {css:List (List AV)} {l:List (Nat×bV)},(fun b=>b9 b (d8 ids css l))=zB ((ids.zip css).map fun p=>(⟨p.1,Option.map fun _=>⟨p.2,[]⟩⟩:EB bV)) (fun b=>b9 b l)
 |[],css,l=>by cases css<;>rfl
 |i::ids,[],l=>rfl
 |i::ids,cs::css,l=>by
  show(fun b=>b9 b (d8 ids css (rQ i ⟨cs,[]⟩ l)))=_
  rw[Ec (ids:=ids) (css:=css)]
  refine congrArg (zB _) (funext fun b=>?_)
  rw[jg]
  show _=if b=i then _ else _
  split
  ·rename_i e;subst e;rfl
  ·rfl
theorem GJ:∀{ids:List Nat} {css:List (List AV)} {s:S},(fun b=>b9 b (gS ids css s).boxes)=zB ((ids.zip css).map fun p=>(⟨p.1,fun _=>none⟩:EB bV)) (fun b=>b9 b s.boxes)
 |[],css,s=>by cases css<;>rfl
 |i::ids,[],s=>rfl
 |i::ids,cs::css,s=>by
  show(fun b=>b9 b (gS ids css {s with slots:=Be i cs s.slots,boxes:=uO i s.boxes}).boxes)=_
  rw[GJ (ids:=ids) (css:=css)]
  refine congrArg (zB _) (funext fun b=>?_)
  rw[oN];rfl
theorem Bq:∀{ids:List Nat} {css:List (List AV)} {s:S} (t:Nat),lk t (gS ids css s).slots=(lk t s.slots).map fun v=>(ids.zip css).foldl (fun v p=>pV p.1 p.2 v) v
 |[],css,s,t=>by cases css<;>simp[gS]
 |i::ids,[],s,t=>by simp[gS]
 |i::ids,cs::css,s,t=>by
  show lk t (gS ids css {s with slots:=Be i cs s.slots,boxes:=uO i s.boxes}).slots=_
  rw[Bq (ids:=ids) (css:=css) t,wP,Option.map_map]
  rfl
theorem vI(d:Delta) (id:Nat) (s:S):(fun b=>b9 b (d.app' id s).boxes)=zB (eB d id) (fun b=>b9 b s.boxes):=by
 cases d with
 |box b=>funext c;simp only[Delta.app',b9,mq];show _=if c=id then _ else _;rfl
 |st b x=>
  funext c;simp only[Delta.app',jg]
  show _=if c=b then _ else _
  split
  ·rename_i e;subst e;rfl
  ·rfl
 |calls ids css fr=>exact Ec
 |Gl ids css=>exact GJ
 |_=>rfl
theorem yL(d:Delta) (id:Nat) (s:S):(fun b=>d7 b (d.app' id s).live)=zB (eL d id) (fun b=>d7 b s.live):=by
 cases d with
 |live e=>funext c;simp only[Delta.app',d7,mq];rfl
 |app q e=>funext c;simp only[Delta.app',d7,mq,uf];show _=if c=id then _ else if c=q then _ else _;rfl
 |calls ids css fr=>cases fr with
  |none=>rfl
  |some e=>funext c;simp only[Delta.app',d7,mq];rfl
 |Gl ids css=>simp only[Delta.app',D9];rfl
 |_=>rfl
theorem qa(d:Delta) (id:Nat) (s:S) (t:Nat):lk t (d.app' id s).slots=(lk t s.slots).map (fz d):=by
 cases d with
 |Gl ids css=>exact Bq t
 |_=>simp[Delta.app',fz]
theorem Fb{d:Delta} {id:Nat} {e:EB bV} (h:e∈eB d id):e.tgt=id\/e.tgt∈wB d:=by
 cases d with
 |box b=>simp[eB]at h;subst h;exact .inl rfl
 |st b x=>simp[eB]at h;subst h;exact .inr (by simp[wB])
 |calls ids css fr=>
  simp only[eB,List.mem_map]at h
  obtain⟨p,hm,rfl⟩:=h;exact .inr (List.of_mem_zip hm).1
 |Gl ids css=>
  simp only[eB,List.mem_map]at h
  obtain⟨p,hm,rfl⟩:=h;exact .inr (List.of_mem_zip hm).1
 |_=>simp[eB]at h
theorem wQ:∀{l:List (Nat×List AV)} {v:SV},l.foldl (fun v p=>pV p.1 p.2 v) v=v\/∃cs b o,v=.ptr b o/\b∈l.map (·.1)/\l.foldl (fun v p=>pV p.1 p.2 v) v=.rp cs
 |[],v=>.inl rfl
 |p::l,v=>by
  simp only[List.foldl_cons]
  cases v with
  |ptr b o=>
   by_cases e:b=p.1
   ·refine .inr ⟨p.2.drop o,b,o,rfl,by simp[e],?_⟩
    have:pV p.1 p.2 (.ptr b o)=.rp (p.2.drop o):=by simp[pV,e]
    rw[this]
    rcases wQ (l:=l) (v:=.rp (p.2.drop o))with h|⟨_,_,_,h,_⟩
    ·exact h
    ·cases h
   ·have:pV p.1 p.2 (.ptr b o)=.ptr b o:=by
     have e':(b==p.1)=false:=by simpa using e
     simp[pV,e']
    rw[this]
    rcases wQ (l:=l) (v:=.ptr b o)with h|⟨cs,b',o',h,hm,h2⟩
    ·exact .inl h
    ·cases h;exact .inr ⟨cs,b,o,rfl,List.mem_cons_of_mem _ hm,h2⟩
  |_=>
   show l.foldl _ _=_\/_
   rcases wQ (l:=l) (v:=_)with h|⟨_,_,_,h,_⟩
   ·exact .inl h
   ·cases h
theorem jA(d:Delta) (v:SV):fz d v=v\/∃cs b o ids css,d=.Gl ids css/\v=.ptr b o/\b∈wB d/\fz d v=.rp cs:=by
 cases d with
 |Gl ids css=>
  rcases wQ (l:=ids.zip css) (v:=v)with h|⟨cs,b,o,h1,h2,h3⟩
  ·exact .inl h
  ·refine .inr ⟨cs,b,o,ids,css,rfl,h1,?_,h3⟩
   obtain⟨p,hp,rfl⟩:=List.mem_map.1 h2;exact(List.of_mem_zip hp).1
 |_=>exact .inl rfl
theorem Sy(d:Delta) (cs:List AV):fz d (.rp cs)=.rp cs:=by
 rcases jA d (.rp cs)with h|⟨_,_,_,_,_,_,h,_⟩
 ·exact h
 ·cases h
theorem PJ{dx dy:Delta} (hd:∀b∈wB dx,b∉wB dy) (v:SV):fz dy (fz dx v)=fz dx (fz dy v):=by
 rcases jA dx v with h|⟨cs,b,o,_,_,_,rfl,hb,h⟩
 ·rw[h]
  rcases jA dy v with k|⟨cs',b',o',_,_,_,rfl,hb',k⟩
  ·rw[k,h]
  ·rw[k,Sy]
 ·rcases jA dy (.ptr b o)with k|⟨cs',b',o',_,_,_,e,hb',k⟩
  ·rw[k,h,Sy]
  ·cases e;exact absurd hb' (hd b hb)
def Tf:Delta->Bool
 | .Gl _ _=>true
 |_=>false
theorem MM{C:aS} {id:Nat} {o:CO} {s:S} {v:SV} {d:Delta} (h:IQ C id o s v d):∀b∈wB d,∃t∈o.op.JO,∃off,lk t s.slots=some (.ptr b off):=by
 intro b hb
 have h:=h.1.1
 cases d<;>simp[wB]at hb
 ·subst hb;exact h.2
 ·exact h.2 b hb
 ·exact h.2 b hb
theorem AN{C:aS} {id:Nat} {o:CO} {s:S} {v:SV} {d:Delta} (h:IQ C id o s v d) (hf:Tf d=true):o.op.zq=true:=by
 have h:=h.1.1
 cases d<;>first|(cases hf;done)|exact h.1
theorem J0{o:bW} {t:Nat} (h:t∈o.JO):t∈o.vC:=by cases o<;>first|exact h|(simp[bW.JO]at h;done)
theorem MN{o:bW} {t:Nat} (h:t∈o.vC):t∈o.rd:=by cases o<;>simp[bW.vC]at h<;>simp[bW.rd,h]
theorem yM{o:bW} {t:Nat} (h:t∈o.rZ):t∈o.rd:=by
 cases o<;>simp[bW.rZ]at h<;>first|(simp[bW.rd,h];done)|(rcases h with h|h<;>simp[bW.rd,h])
def Clear(x y:CO) (s:S):Prop:=∀b,(∃t∈x.op.JO,∃off,lk t s.slots=some (.ptr b off))->
 (∀t∈y.op.vC,∀off,lk t s.slots≠some (.ptr b off))/\(x.op.zq=true->∀t∈y.rd,∀off,lk t s.slots≠some (.ptr b off))
theorem IS{x y:CO} (h:x.indep y=true):(∀d,x.dst=some d->d∉y.rd/\y.dst≠some d)/\(∀d,y.dst=some d->d∉x.rd)/\(x.op.isApp=true->y.op.isApp=false):=by
 unfold CO.indep at h;simp only[Bool.and_eq_true,Bool.not_eq_true']at h;obtain⟨⟨h1,h2⟩,h5⟩:=h
 refine⟨fun d hd=>?_,fun d hd=>?_,fun hx=>?_⟩
 ·rw[hd]at h1
  simp at h1;exact⟨h1.1,h1.2⟩
 ·rw[hd]at h2
  simpa using h2
 ·rw[hx]at h5
  simpa using h5
theorem PK {C:aS} {x y:CO} (hap:x.indep y=true) {U:Nat→Prop} {s:S} (hU:s.gR U) {i j:Nat} (hi:¬ U i) (hj:¬ U j) (hij:i≠j) (cx:Clear x y s) (cy:Clear y x s)
    {vx vy:SV} {dx dy:Delta} (hx:IQ C i x s vx dx) (hy:IQ C j y ((dx.app' i s).put x.dst vx) vy dy) :
    oE y.rd y.op.vC y.op.isApp ((dx.app' i s).put x.dst vx) s∧oE x.rd x.op.vC x.op.isApp s ((dy.app' j s).put y.dst vy) ∧
      rU ((dy.app' j ((dx.app' i s).put x.dst vx)).put y.dst vy) ((dx.app' i ((dy.app' j s).put y.dst vy)).put x.dst vx):=by
  obtain ⟨h1,h2,h5⟩:=IS hap
  have wx:=MM hx
  have wxU:∀ b∈wB dx,U b:=fun b hb=>by obtain ⟨t,_,off,hl⟩:=wx b hb; exact hU.slots t _ hl
  -- what y looks at
  have sy:∀ t∈y.rd,lk t ((dx.app' i s).put x.dst vx).slots=lk t s.slots:=fun t ht=>by
    rw [vH,if_neg (fun e=>(h1 t e).1 ht),qa]
    cases hl:lk t s.slots with
    | none=>rfl
    | some v =>
      simp only [Option.map_some]
      rcases jA dx v with h|⟨cs,b,o,ids,css,hd,rfl,hb,h⟩
      · rw [h]
      · exact absurd hl ((cx b (wx b hb)).2 (AN hx (by rw [hd]; rfl)) t ht o)
  have wy:∀ b∈wB dy,∃ t∈y.op.JO,∃ off,lk t s.slots=some (.ptr b off):=fun b hb=>by
    obtain ⟨t,ht,off,hl⟩:=MM hy b hb
    rw [sy t (CO.Bo (MN (J0 ht)))] at hl
    exact ⟨t,ht,off,hl⟩
  have wyU:∀ b∈wB dy,U b:=fun b hb=>by obtain ⟨t,_,off,hl⟩:=wy b hb; exact hU.slots t _ hl
  have hdis:∀ b∈wB dx,b ∉ wB dy:=fun b hb hb'=>by
    obtain ⟨t,ht,off,hl⟩:=wy b hb'
    exact (cx b (wx b hb)).1 t (J0 ht) off hl
  have sx:∀ t∈x.rd,lk t ((dy.app' j s).put y.dst vy).slots=lk t s.slots:=fun t ht=>by
    rw [vH,if_neg (fun e=>h2 t e ht),qa]
    cases hl:lk t s.slots with
    | none=>rfl
    | some v =>
      simp only [Option.map_some]
      rcases jA dy v with h|⟨cs,b,o,ids,css,hd,rfl,hb,h⟩
      · rw [h]
      · exact absurd hl ((cy b (wy b hb)).2 (AN hy (by rw [hd]; rfl)) t ht o)
  -- tokens
  have tx:∀ q0 e,dx=.app q0 e→U q0∧x.op.isApp=true:=fun q0 e hd=>by
    have:=hx.1.1; rw [hd] at this
    obtain ⟨h,t,ht,a,hl⟩:=this
    exact ⟨hU.slots t _ hl,h⟩
  have ty:∀ q0 e,dy=.app q0 e→U q0∧y.op.isApp=true:=fun q0 e hd=>by
    have:=hy.1.1; rw [hd] at this
    obtain ⟨h,t,ht,a,hl⟩:=this
    rw [sy t (CO.Bo ht)] at hl
    exact ⟨hU.slots t _ hl,h⟩
  have lx:∀ e∈eL dx i,e.tgt=i∨(U e.tgt∧x.op.isApp=true):=fun e he=>by
    cases hdx:dx<;>rw [hdx] at he<;>simp [eL] at he
    · subst he; exact .inl rfl
    · rcases he with rfl | rfl
      · exact .inr (tx _ _ hdx)
      · exact .inl rfl
    · rename_i fr; cases fr<;>simp at he; subst he; exact .inl rfl
  have ly:∀ e∈eL dy j,e.tgt=j∨(U e.tgt∧y.op.isApp=true):=fun e he=>by
    cases hdy:dy<;>rw [hdy] at he<;>simp [eL] at he
    · subst he; exact .inl rfl
    · rcases he with rfl | rfl
      · exact .inr (ty _ _ hdy)
      · exact .inl rfl
    · rename_i fr; cases fr<;>simp at he; subst he; exact .inl rfl
  have bxs:∀ (d:Delta) (id:Nat) (s:S) (b:Nat),b9 b (d.app' id s).boxes=zB (eB d id) (fun b=>b9 b s.boxes) b:=fun d id s b=>congrFun (vI d id s) b
  have lvs:∀ (d:Delta) (id:Nat) (s:S) (b:Nat),d7 b (d.app' id s).live=zB (eL d id) (fun b=>d7 b s.live) b:=fun d id s b=>congrFun (yL d id s) b
  refine ⟨⟨fun t ht=>(sy t ht).symm,fun t ht b off z hv hb=>?_,fun hap' t ht a q e hv hq=>?_⟩,⟨sx,fun t ht b off z hv hb=>?_,fun hap' t ht a q e hv hq=>?_⟩,?_⟩
  · rw [sy t (CO.Bo (MN ht))] at hv
    have hUb:U b:=hU.slots t _ hv
    rw [iq,bxs,oO] at hb
    · exact hb
    · intro e he hee
      rcases Fb he with h|h
      · exact hi (by rw [← h,hee]; exact hUb)
      · exact (cx _ (wx _ h)).1 t ht off (by rw [hee]; exact hv)
  · rw [sy t ht] at hv
    have hUq:U q:=hU.slots t _ hv
    rw [jz,lvs,oO] at hq
    · exact hq
    · intro e he hee
      rcases lx e he with h|⟨_,h⟩
      · exact hi (by rw [← h,hee]; exact hUq)
      · have:=h5 h; rw [hap'] at this; cases this
  · have hUb:U b:=hU.slots t _ hv
    rw [iq,bxs,oO]
    · exact hb
    · intro e he hee
      rcases Fb he with h|h
      · exact hj (by rw [← h,hee]; exact hUb)
      · exact (cy _ (wy _ h)).1 t ht off (by rw [hee]; exact hv)
  · have hUq:U q:=hU.slots t _ hv
    rw [jz,lvs,oO]
    · exact hq
    · intro e he hee
      rcases ly e he with h|⟨_,h⟩
      · exact hj (by rw [← h,hee]; exact hUq)
      · have:=h5 hap'; rw [h] at this; cases this
  · have vxs:fz dy vx=vx:=by
      rcases jA dy vx with h|⟨cs,b,o,ids,css,hd,hv,hb,h⟩
      · exact h
      · exfalso
        rcases hx.1.2 b o hv with ⟨rfl,_⟩|⟨t,ht,off,hl⟩
        · exact hi (wyU _ hb)
        · exact (cy b (wy b hb)).2 (AN hy (by rw [hd]; rfl)) t (CO.Bo (yM ht)) off hl
    have vys:fz dx vy=vy:=by
      rcases jA dx vy with h|⟨cs,b,o,ids,css,hd,hv,hb,h⟩
      · exact h
      · exfalso
        rcases hy.1.2 b o hv with ⟨rfl,_⟩|⟨t,ht,off,hl⟩
        · exact hj (wxU _ hb)
        · rw [sy t (CO.Bo (yM ht))] at hl
          exact (cx b (wx b hb)).2 (AN hx (by rw [hd]; rfl)) t (CO.Bo (yM ht)) off hl
    refine ⟨fun t=>?_,fun b=>?_,fun q=>?_⟩
    · simp only [vH,qa]
      by_cases ex:x.dst=some t
      · have ey:y.dst≠some t:=(h1 t ex).2
        simp [ex,ey,vxs]
      · by_cases ey:y.dst=some t
        · simp [ex,ey,vys]
        · simp only [ex,ey,if_false,Option.map_map]
          congr 1
          funext v
          exact (PJ hdis v).symm
    · rw [iq,iq,bxs,bxs]
      have e1:(fun b=>b9 b ((dx.app' i s).put x.dst vx).boxes)=zB (eB dx i) (fun b=>b9 b s.boxes):=by rw [iq]; exact vI dx i s
      have e2:(fun b=>b9 b ((dy.app' j s).put y.dst vy).boxes)=zB (eB dy j) (fun b=>b9 b s.boxes):=by rw [iq]; exact vI dy j s
      rw [e1,e2]
      refine congrFun (Bp (fun e he e' he' h=>?_)) b
      rcases Fb he with k|k<;>rcases Fb he' with k'|k'
      · exact hij (by rw [← k,← k',h])
      · exact hi (wyU i (by rw [← k,h]; exact k'))
      · exact hj (wxU j (by rw [← k',← h]; exact k))
      · exact hdis _ k (by rw [h]; exact k')
    · rw [jz,jz,lvs,lvs]
      have e1:(fun b=>d7 b ((dx.app' i s).put x.dst vx).live)=zB (eL dx i) (fun b=>d7 b s.live):=by rw [jz]; exact yL dx i s
      have e2:(fun b=>d7 b ((dy.app' j s).put y.dst vy).live)=zB (eL dy j) (fun b=>d7 b s.live):=by rw [jz]; exact yL dy j s
      rw [e1,e2]
      refine congrFun (Bp (fun e he e' he' h=>?_)) q
      rcases lx e he with k|⟨k,kk⟩<;>rcases ly e' he' with k'|⟨k',kk'⟩
      · exact hij (by rw [← k,← k',h])
      · exact hi (by rw [← k,h]; exact k')
      · exact hj (by rw [← k',← h]; exact k)
      · have:=h5 kk; rw [kk'] at this; cases this
theorem ug{listed:Array Bool} {i:Nat} (h:listed.getD i true=false):listed.getD i false=false:=by
 rcases Nat.lt_or_ge i listed.size with h'|h'
 ·simp[h']at h⊢;exact h
 ·simp[Array.getElem?_eq_none h']at h
theorem PL{listed:Array Bool} {i:Nat} (hi:i<listed.size) (h:listed.getD i false=false):listed.getD i true=false:=by
 simp[hi]at h⊢;exact h
def IT(C:aS) (base:Nat) (ops:Array Oper) (cos:List CO) (K:S->Prop):Nat->Array Bool->S->Prop
 |0,l,s=>Region.ready .any ops l=[]/\K s
 |f+1,l,s=>(Region.ready .any ops l=[]->K s)/\∀i∈Region.ready .any ops l,∃o,cos[i]? =some o/\jU C (base+i) o (IT C base ops cos K f (l.setIfInBounds i true)) s
def UL(base:Nat) (l:Array Bool):Nat->Prop:=fun n=>n<base\/∃i,n=base+i/\l.getD i false=true
section
variable{C:aS} {base:Nat} {ops:Array Oper} {cos:List CO} {K:S->Prop}
theorem Br(hK:∀s s2,rU s s2->K s->K s2):∀(f:Nat) (l:Array Bool) (s s2:S),rU s s2->IT C base ops cos K f l s->IT C base ops cos K f l s2
 |0,l,s,s2,he,h=>⟨h.1,hK _ _ he h.2⟩
 |f+1,l,s,s2,he,h=>⟨fun h0=>hK _ _ he (h.1 h0),fun i hi=>by
   obtain⟨o,ho,hs⟩:=h.2 i hi;refine⟨o,ho,?_⟩;obtain⟨v,d,hd,hk,_⟩:=eV hs
   exact hd.2 s2 he.agr _ (Br hK f _ _ _ ((he.app d _).put _ _) hk)⟩
theorem IU{l:Array Bool} {i:Nat} (h:l.getD i true=false):¬UL base l (base+i):=by
 rintro(h'|⟨k,hk,hl⟩)
 ·omega
 ·have:k=i:=by omega
  subst this;rw[ug h]at hl;cases hl
theorem IV{l:Array Bool} {i:Nat} (hi:i<l.size) {n:Nat} (h:fk (UL base l) (base+i) n):UL base (l.setIfInBounds i true) n:=by
 rcases h with(h|⟨k,hk,hl⟩)|h
 ·exact .inl h
 ·exact .inr ⟨k,hk,getD_set_true hl⟩
 ·exact .inr ⟨i,h,by simp[hi]⟩
theorem sD{md:Region.Mode} {l:Array Bool} {i:Nat} (h:i∈Region.ready md ops l):i<l.size:=by
 have h0:=(mem_ready.1 h).1
 rcases Nat.lt_or_ge i l.size with h'|h'
 ·exact h'
 ·simp[Array.getElem?_eq_none h']at h0
def yN(ops:Array Oper) (l:Array Bool):Prop:=∀k ok,ops[k]? =some ok->l.getD k false=true->∀e∈ok.after,Region.binds .any e=true->l.getD e.on false=true
theorem yN.set{l:Array Bool} (h:yN ops l) {i:Nat} (hi:i∈Region.ready .any ops l):yN ops (l.setIfInBounds i true):=by
 obtain⟨_,oi,hoi,hall⟩:=mem_ready.1 hi;intro k ok hk hl e he hb
 by_cases hik:i=k
 ·subst hik
  have:ok=oi:=Option.some.inj (hk.symm.trans hoi)
  subst this;exact getD_set_true (hall e he hb)
 ·rw[getD_set_ne false hik]at hl
  exact getD_set_true (h k ok hk hl e he hb)
theorem K3{l:Array Bool} (hc:yN ops l) {i j:Nat} (hi:l.getD i true=false) (hj:j∈Region.ready .any ops l) {oj:Oper} (hoj:ops[j]? =some oj):
  oj.after.any (fun e=>Region.binds .any e&&e.on==i)=false/\waits ops.toList i oj=false:=by
 obtain⟨_,oj',hoj',hall⟩:=mem_ready.1 hj
 have:oj'=oj:=Option.some.inj (hoj'.symm.trans hoj)
 subst this
 have hif:=ug hi
 constructor
 ·rw[Bool.eq_false_iff]
  intro h;obtain⟨e,he,hb⟩:=Array.any_eq_true'.1 h;simp only[Bool.and_eq_true,beq_iff_eq]at hb
  have:=hall e he hb.1
  rw[hb.2,hif]at this;cases this
 ·rw[Bool.eq_false_iff]
  intro h;obtain⟨e,he,hb⟩:=Array.any_eq_true'.1 h;simp only[Bool.and_eq_true,Bool.or_eq_true,beq_iff_eq]at hb
  have h1:=hall e he hb.1
  rcases hb.2 with h2|h2
  ·rw[h2,hif]at h1;cases h1
  ·split at h2
   ·rename_i ok hok
    obtain⟨e',he',hb'⟩:=Array.any_eq_true'.1 h2;simp only[Bool.and_eq_true,beq_iff_eq]at hb'
    have h3:=hc e.on ok (by simpa using hok) h1 e' he' hb'.1
    rw[hb'.2,hif]at h3;cases h3
   ·cases h2
end
def qb(T:List (Nat×Tag)) (s:S):Prop:=∀t b off,lk t s.slots=some (.ptr b off)->(look T t).DD b=true
theorem zC{C:aS} {T:List (Nat×Tag)} {id:Nat} {o:CO} {s:S} {v:SV} {d:Delta} (hd:IQ C id o s v d) (hs:r8 T id o=true) (hR:qb T s):qb T ((d.app' id s).put o.dst v):=by
 intro t b off hl;rw[vH]at hl;split at hl
 ·rename_i e
  cases hl;unfold r8 at hs;rw[e]at hs;simp only at hs
  cases hz:look T t with
  |none=>rfl
  |some z=>
   rw[hz]at hs;simp only at hs
   rcases hd.1.2 b off rfl with⟨rfl,ha⟩|⟨u,hu,off',hlu⟩
   ·rw[if_pos ha]at hs
    simpa[Tag.DD]using hs
   ·have hna:¬o.op.Mw=true:=fun ha=>by
     revert hu ha;cases o.op<;>simp[bW.rZ,bW.Mw]
    rw[if_neg hna]at hs
    have h1:=List.all_eq_true.1 hs u hu
    have h2:=hR u b off' hlu
    cases hzu:look T u with
    |none=>rw[hzu]at h1;cases h1
    |some z'=>
     rw[hzu]at h1 h2;simp only[Bool.or_eq_true,beq_iff_eq]at h1;simp only[Tag.DD,beq_iff_eq]at h2⊢
     rcases h1 with h1|h1
     ·rw[h1]at h2;cases h2
     ·rw[<-h1];exact h2
 ·rw[qa]at hl
  cases hv:lk t s.slots with
  |none=>rw[hv]at hl;cases hl
  |some w=>
   rw[hv]at hl;simp only[Option.map_some,Option.some.injEq]at hl
   rcases jA d w with h|⟨cs,b',o',_,_,_,_,_,h⟩
   ·rw[h]at hl;subst hl;exact hR t b off hv
   ·rw[h]at hl;cases hl
theorem MO{z z':Tag} {b:Nat} (h:z.dis z'=true) (h1:z.DD b=true) (h2:z'.DD b=true):False:=by
 cases z with
 |none=>cases z' with
  |none=>cases h
  |some z'=>cases z' with
   |none=>simp[Tag.DD]at h2
   |some b'=>cases h
 |some z=>cases z with
  |none=>simp[Tag.DD]at h1
  |some a=>cases z' with
   |none=>cases h
   |some z'=>cases z' with
    |none=>simp[Tag.DD]at h2
    |some b'=>
     simp[Tag.DD]at h1 h2;subst h1;subst h2;simp[Tag.dis]at h
theorem GK{T:List (Nat×Tag)} {x y:CO} {s:S} (h:x.half T y=true) (hR:qb T s):Clear x y s:=by
 rintro b ⟨t,ht,off,hl⟩
 have h:=List.all_eq_true.1 h t ht
 simp only[Bool.and_eq_true,Bool.or_eq_true,Bool.not_eq_true']at h
 refine⟨fun u hu off' hlu=>?_,fun hf u hu off' hlu=>?_⟩
 ·exact MO (List.all_eq_true.1 h.1 u hu) (hR t b off hl) (hR u b off' hlu)
 ·rcases h.2 with h2|h2
  ·rw[hf]at h2;cases h2
  ·exact MO (List.all_eq_true.1 h2 u hu) (hR t b off hl) (hR u b off' hlu)
theorem Ed{T:List (Nat×Tag)} {x y:CO} (h:x.half [] y=true):x.half T y=true:=by
 unfold CO.half at h⊢;rw[List.all_eq_true]at h⊢;intro t ht
 have h:=h t ht
 simp only[Bool.and_eq_true,Bool.or_eq_true,List.all_eq_true]at h⊢
 refine⟨fun u hu=>?_,h.2.imp id fun h2 u hu=>?_⟩
 ·have:=h.1 u hu;cases this
 ·have:=h2 u hu;cases this
theorem IW{T:List (Nat×Tag)} {x y:CO} (h:x.apart y=true):x.r5 T y=true:=by
 unfold CO.apart CO.r5 at*;simp only[Bool.and_eq_true]at h⊢;exact⟨⟨h.1.1,Ed h.1.2⟩,Ed h.2⟩
theorem Bt{T:List (Nat×Tag)} {ops:List CO} {i j:Nat} {x y:CO} (hi:ops[i]? =some x) (hj:ops[j]? =some y):∀{dU:List (Nat×Nat)},zu T ops dU=true->dU.contains (i,j)=true->x.r5 T y=true
 |[],_,h=>by cases h
 |(k,l)::r,h,hm=>by
  simp only[zu,Bool.and_eq_true]at h;rw[List.contains_cons,Bool.or_eq_true]at hm
  rcases hm with hm|hm
  ·have e:(i,j)=(k,l):=by simpa using hm
   cases e
   have:=h.1
   rw[hi,hj]at this;exact this
  ·exact Bt hi hj h.2 hm
theorem wR{T:List (Nat×Tag)} {base:Nat}:∀{l:List CO} {i:Nat},mh T base i l=true->∀(k:Nat) (o:CO),l[k]? =some o->r8 T (base+(i+k)) o=true
 |[],i,h,k,o,hk=>by simp at hk
 |a::l,i,h,k,o,hk=>by
  simp only[mh,Bool.and_eq_true]at h
  cases k with
  |zero=>simp at hk;subst hk;exact h.1
  |succ k=>
   have:=wR h.2 k o (by simpa using hk)
   rw[show i+(k+1)=i+1+k by omega];exact this
theorem sE{base:Nat}:∀{l:List CO} {i:Nat},mh [] base i l=true
 |[],i=>rfl
 |a::l,i=>by
  simp only[mh,Bool.and_eq_true];refine⟨?_,sE⟩;unfold r8
  split<;>rfl
theorem wS{T:List (Nat×Tag)}:∀{sl:List (Nat×SV)},tY T sl=true->∀t b off,lk t sl=some (.ptr b off)->(look T t).DD b=true
 |[],_,t,b,off,hl=>by cases hl
 |(m,v)::r,h,t,b,off,hl=>by
  simp only[lk,mq]at hl;split at hl
  ·rename_i e
   cases hl;subst e;simp only[tY,Bool.and_eq_true]at h;exact h.1
  ·refine wS (sl:=r) ?_ t b off hl
   cases v<;>first|exact h|(simp only[tY,Bool.and_eq_true]at h;exact h.2)
section
variable{C:aS} {base:Nat} {ops:Array Oper} {cos:List CO} {K:S->Prop} {T:List (Nat×Tag)}
theorem IX(hT:∀k ok,cos[k]? =some ok->r8 T (base+k) ok=true) (hK:∀s s2,rU s s2->K s->K s2) (hlen:cos.length=ops.size) {i:Nat} {oi:CO} (hi:cos[i]? =some oi):
  ∀(f:Nat) (l:Array Bool) (s:S),
   (∀j pj oj,ops[j]? =some pj->cos[j]? =some oj->j≠i->l.getD j true=false->pj.after.any (fun e=>Region.binds .any e&&e.on==i)=false->waits ops.toList i pj=false->oi.r5 T oj=true)->
   yN ops l->i∈Region.ready .any ops l->s.gR (UL base l)->qb T s->jU C (base+i) oi (IT C base ops cos K f (l.setIfInBounds i true)) s->IT C base ops cos K (f+1) l s:=by
 intro f
 induction f with
 |zero=>
  intro l s _ _ hr hU hR H
  refine⟨fun h=>(by rw[h]at hr;cases hr),fun j hj=>?_⟩
  by_cases hji:j=i
  ·subst hji;exact⟨oi,hi,H⟩
  ·obtain⟨v,d,hd,hk,_⟩:=eV H
   have:=ready_mono hj hji
   rw[hk.1]at this;cases this
 |succ f ih=>
  intro l s hfree hcl hr hU hR H
  refine⟨fun h=>(by rw[h]at hr;cases hr),fun j hj=>?_⟩
  by_cases hji:j=i
  ·subst hji;exact⟨oi,hi,H⟩
  ·obtain⟨vi,di,hdi,hki,hUi⟩:=eV H
   obtain⟨oj,hoj,hsj⟩:=hki.2 j (ready_mono hj hji)
   obtain⟨vj,dj,hdj,hkj,hUj⟩:=eV hsj
   have hjun:=(mem_ready.1 hj).1
   have hiun:=(mem_ready.1 hr).1
   obtain⟨pj,hpj,_⟩:=(mem_ready.1 hj).2
   obtain⟨w1,w2⟩:=K3 hcl hiun hj hpj
   have hap:=hfree j pj oj hpj hoj hji hjun w1 w2
   unfold CO.r5 at hap;simp only[Bool.and_eq_true]at hap
   obtain⟨a1,a2,a3⟩:=PK hap.1.1 hU (IU hiun) (IU hjun) (by omega) (GK hap.1.2 hR) (GK hap.2 hR) hdi hdj
   -- the state behind j
   have hsj0:jU C (base+j) oj (fun s3=>s3=(dj.app' (base+j) s).put oj.dst vj) s:=hdj.2 s a1 _ rfl
   have hUj0:((dj.app' (base+j) s).put oj.dst vj).gR (UL base (l.setIfInBounds j true)):=by
    obtain⟨v',d',_,hk',hU'⟩:=eV hsj0
    have:=hU' _ hU
    rw[hk']at this
    exact AM (fun n hn=>IV (sD hj) hn) this
   have hRj0:qb T ((dj.app' (base+j) s).put oj.dst vj):=by
    obtain⟨v',d',hd',hk',_⟩:=eV hsj0
    have:=zC hd' (hT j oj hoj) hR
    rw[hk']at this;exact this
   refine⟨oj,hoj,hdj.2 s a1 _ ?_⟩;refine ih (l.setIfInBounds j true) _ ?_ (hcl.set hj) (ready_mono hr (Ne.symm hji)) hUj0 hRj0 ?_
   ·intro k pk ok hpk hok hki' hun hno hno2
    refine hfree k pk ok hpk hok hki' ?_ hno hno2
    by_cases hjk:j=k
    ·subst hjk;exact hjun
    ·rw[getD_set_ne true hjk]at hun;exact hun
   ·refine hdi.2 _ a2 _ ?_
    rw[Array.setIfInBounds_comm _ _ hji];exact Br hK f _ _ _ a3 hkj
end
theorem wT{dU:List (Nat×Nat)} {ops:List Oper} {i:Nat} {x:CO}:∀{os:List Oper} {ys:List CO} {k:Nat},nH dU ops i x k os ys=true->∀(j:Nat) (pj:Oper) (oj:CO),os[j]? =some pj->ys[j]? =some oj->i<k+j->
  pj.after.any (fun e=>Region.binds .any e&&e.on==i)=true\/x.apart oj=true\/waits ops i pj=true\/dU.contains (i,k+j)=true
 |[],ys,k,h,j,pj,oj,h1,h2,h3=>by simp at h1
 |o::os,[],k,h,j,pj,oj,h1,h2,h3=>by simp at h2
 |o::os,y::ys,k,h,j,pj,oj,h1,h2,h3=>by
  simp only[nH,Bool.and_eq_true,Bool.or_eq_true,decide_eq_true_eq]at h
  cases j with
  |zero=>
   simp at h1 h2;subst h1;subst h2
   rcases h.1 with(((h|h)|h)|h)|h
   ·omega
   ·exact .inl h
   ·exact .inr (.inl h)
   ·exact .inr (.inr (.inl h))
   ·exact .inr (.inr (.inr h))
  |succ j=>
   have:=wT h.2 j pj oj (by simpa using h1) (by simpa using h2) (by omega)
   rw[show k+1+j=k+(j+1)by omega]at this
   exact this
theorem om{dU:List (Nat×Nat)} {ops:List Oper} {cos:List CO}:∀{os:List Oper} {ys:List CO} {k:Nat},mL dU ops cos k os ys=true->∀(i:Nat) (pi:Oper) (oi:CO),os[i]? =some pi->ys[i]? =some oi->
  (∀e∈pi.after,Region.binds .any e=true->e.on<k+i)/\nH dU ops (k+i) oi 0 ops cos=true
 |[],ys,k,h,j,pj,oj,h1,h2=>by simp at h1
 |o::os,[],k,h,j,pj,oj,h1,h2=>by simp at h2
 |o::os,y::ys,k,h,j,pj,oj,h1,h2=>by
  simp only[mL,Bool.and_eq_true]at h
  cases j with
  |zero=>
   simp at h1 h2;subst h1;subst h2
   refine⟨fun e he hb=>?_,h.1.2⟩
   have:=Array.all_eq_true_iff_forall_mem.1 h.1.1 e he
   simpa[hb]using this
  |succ j=>
   have:=om h.2 j pj oj (by simpa using h1) (by simpa using h2)
   rw[show k+1+j=k+(j+1)by omega]at this
   exact this
def Ro(x x':CO):Prop:=x'=x\/x'=x.ro
theorem Ro.dst{x x':CO} (h:Ro x x'):x'.dst=x.dst:=by rcases h with rfl|rfl<;>rfl
theorem Ro.rd{x x':CO} (h:Ro x x'):x'.rd=x.rd:=by
 rcases h with rfl|rfl
 ·rfl
 ·cases x with|mk d o g=>cases o<;>rfl
theorem Ro.vC{x x':CO} (h:Ro x x'):x'.op.vC=x.op.vC:=by
 rcases h with rfl|rfl
 ·rfl
 ·cases x with|mk d o g=>cases o<;>rfl
theorem Ro.app{x x':CO} (h:Ro x x'):x'.op.isApp=x.op.isApp:=by
 rcases h with rfl|rfl
 ·rfl
 ·cases x with|mk d o g=>cases o<;>rfl
theorem Ro.Gl{x x':CO} (h:Ro x x'):x'.op.zq=x.op.zq:=by
 rcases h with rfl|rfl
 ·rfl
 ·cases x with|mk d o g=>cases o<;>rfl
theorem Ro.JO{x x':CO} (h:Ro x x'):x'.op.JO=x.op.JO\/x'.op.JO=[]:=by
 rcases h with rfl|rfl
 ·exact .inl rfl
 ·cases x with|mk d o g=>cases o<;>first|exact .inl rfl|exact .inr rfl
theorem Ro.indep{x x' y y':CO} (hx:Ro x x') (hy:Ro y y'):x'.indep y'=x.indep y:=by
 simp only[CO.indep,hx.dst,hy.dst,hx.rd,hy.rd,hx.app,hy.app]
theorem Ro.half{T:List (Nat×Tag)} {x x' y y':CO} (hx:Ro x x') (hy:Ro y y') (h:x.half T y=true):x'.half T y'=true:=by
 simp only[CO.half,hy.vC,hy.rd,hx.Gl]at h⊢
 rcases hx.JO with e|e
 ·rw[e];exact h
 ·rw[e];rfl
theorem Ro.apart{x x' y y':CO} (hx:Ro x x') (hy:Ro y y') (h:x.apart y=true):x'.apart y'=true:=by
 simp only[CO.apart,CO.r5,Bool.and_eq_true]at h⊢
 exact⟨⟨by rw[hx.indep hy];exact h.1.1,hx.half hy h.1.2⟩,hy.half hx h.2⟩
theorem J1{ro:List Nat}:∀{l:List CO} {k i:Nat} {c':CO},(nB ro k l)[i]? =some c'->∃c,l[i]? =some c/\Ro c c'
 |[],k,i,c',h=>by simp[nB]at h
 |o::l,k,0,c',h=>by
  simp only[nB,List.getElem?_cons_zero,Option.some.injEq]at h;refine⟨o,rfl,?_⟩
  cases hk:ro.contains k with
  |true=>rw[hk]at h;exact .inr h.symm
  |false=>rw[hk]at h;exact .inl h.symm
 |o::l,k,i+1,c',h=>by
  simp only[nB,List.getElem?_cons_succ]at h⊢;exact J1 h
theorem Fc{ro:List Nat}:∀{l:List CO} {k:Nat},(nB ro k l).length=l.length
 |[],k=>rfl
 |o::l,k=>by simp only[nB,List.length_cons,Fc]
theorem GL{ro:List Nat}:∀{l:List CO} {k:Nat},dstsOf (nB ro k l)=dstsOf l
 |[],k=>rfl
 |o::l,k=>by
  simp only[nB,dstsOf,GL]
  cases ro.contains k<;>rfl
theorem J2{n:Nat} {ro:List Nat}:∀{l:List CO} {k:Nat},i4 n (nB ro k l)=i4 n l
 |[],k=>rfl
 |o::l,k=>by
  simp only[nB,i4,J2]
  cases ro.contains k<;>rfl
theorem Ro.of(ro:List Nat) (k:Nat) (o:CO):Ro o (bif ro.contains k then o.ro else o):=by
 cases ro.contains k
 ·exact .inl rfl
 ·exact .inr rfl
theorem Bu{dU:List (Nat×Nat)} {ops:List Oper} {i:Nat} {x x':CO} (hx:Ro x x') {ro:List Nat}:∀{os:List Oper} {ys:List CO} {k m:Nat},nH dU ops i x k os ys=true->nH dU ops i x' k os (nB ro m ys)=true
 |[],ys,k,m,h=>rfl
 |o::os,[],k,m,h=>rfl
 |o::os,y::ys,k,m,h=>by
  simp only[nB,nH,Bool.and_eq_true,Bool.or_eq_true,decide_eq_true_eq]at h⊢;refine⟨?_,Bu hx h.2⟩
  rcases h.1 with(((h|h)|h)|h)|h
  ·exact .inl (.inl (.inl (.inl h)))
  ·exact .inl (.inl (.inl (.inr h)))
  ·exact .inl (.inl (.inr (hx.apart (.of ro m y) h)))
  ·exact .inl (.inr h)
  ·exact .inr h
theorem zD{dU:List (Nat×Nat)} {ops:List Oper} {cos:List CO} {ro:List Nat} {m:Nat}:∀{os:List Oper} {ys:List CO} {k:Nat},mL dU ops cos k os ys=true->mL dU ops (nB ro m cos) k os (nB ro k ys)=true
 |[],ys,k,h=>rfl
 |o::os,[],k,h=>rfl
 |o::os,y::ys,k,h=>by
  simp only[nB,mL,Bool.and_eq_true]at h⊢;exact⟨⟨h.1.1,Bu (.of ro k y) h.1.2⟩,zD h.2⟩
theorem K4{dU:List (Nat×Nat)} {ops:List Oper} {cos:List CO} {ro:List Nat} (h:pX dU ops cos=true):pX dU ops (nB ro 0 cos)=true:=zD h
theorem wU{l l2:List (Nat×bV)} (h:∀b,b9 b l2=b9 b l):∀{ids:List Nat},eI l2 ids=eI l ids
 |[]=>rfl
 |b::bs=>by simp only[eI,h b,wU h (ids:=bs)]
theorem Bv{l:List (Nat×bV)}:∀{ids:List Nat} {css:List (List AV)},eI l ids=some css->bq l ids=some css
 |[],css,h=>h
 |b::bs,css,h=>by
  simp only[eI]at h
  split at h<;>try(cases h;done)
  rename_i cs css' h1 h2;cases h;simp only[bq,h1,Bv h2]
theorem vJ:∀{ids:List Nat} {css:List (List AV)} {l:List (Nat×bV)},eI l ids=some css->∀b,b9 b (d8 ids css l)=b9 b l
 |[],css,l,h,b=>rfl
 |i::is,css,l,h,b=>by
  simp only[eI]at h
  split at h<;>try(cases h;done)
  rename_i cs css' h1 h2;cases h
  have e:∀n,b9 n (rQ i ⟨cs,[]⟩ l)=b9 n l:=fun n=>by
   rw[jg];split
   ·rename_i e;subst e;rw[h1];rfl
   ·rfl
  rw[d8,vJ (by rw[wU e];exact h2),e]
theorem Tg{C:aS} {id:Nat} {o:bW} {K:SV->S->Prop} {s:S} (h:bN C id o.ro K s):bN C id o (fun v s'=>∃s0,rU s' s0/\K v s0) s:=by
 have same:bN C id o K s->bN C id o (fun v s'=>∃s0,rU s' s0/\K v s0) s:=fun h=>by
  obtain⟨v,d,hK,_,_,_,hs⟩:=sC h;exact hs s .refl _ ⟨_,.refl,hK⟩
 cases o<;>try(exact same h)
 case bI f args=>
  obtain⟨p,hp,hnd,h⟩:=ah (h:an _ _)
  obtain⟨css,hcs,r,hc,hK⟩:=ah h;simp only[bN,hp,Bv hcs,aE]
  exact⟨hnd,r,none,css,hc,s,⟨fun _=>rfl,fun b=>(vJ hcs b).symm,fun _=>rfl⟩,hK⟩
 case fQ g args=>
  obtain⟨a,ha,h⟩:=ah (h:an _ _)
  cases a<;>try(exact h.elim)
  rename_i fn first caps
  cases fn<;>try(exact h.elim)
  rename_i f
  cases first<;>try(exact h.elim)
  cases caps<;>try(exact h.elim)
  obtain⟨p,hp,hnd,h⟩:=ah h;obtain⟨css,hcs,r,hc,hK⟩:=ah h;simp only[bN,ha,hp,Bv hcs,aE]
  exact⟨hnd,r,none,css,hc,s,⟨fun _=>rfl,fun b=>(vJ hcs b).symm,fun _=>rfl⟩,hK⟩
theorem MP {C:aS} {id:Nat} {c c':CO} (hr:Ro c c') {K:S→Prop} {s:S} (h:jU C id c' K s):jU C id c (fun s'=>∃ s0,rU s' s0∧K s0) s:=by
  rcases hr with rfl|rfl
  · obtain ⟨v,d,hd,hK,_⟩:=eV h
    exact hd.2 s .refl _ ⟨_,.refl,hK⟩
  · have run:bN C id c.op.ro (fun v s'=>K (s'.put c.dst v)) s→bN C id c.op (fun v s'=>∃ s0,rU (s'.put c.dst v) s0∧K s0) s:=fun h=>by
      have:=Tg h
      obtain ⟨v,d,⟨s0,he,hK⟩,_,_,_,hs⟩:=sC this
      exact hs s .refl _ ⟨_,he.put _ _,hK⟩
    cases c with
    | mk dst op g =>
      have h:eN s g (bN C id op.ro (fun v s'=>K (s'.put dst v)) s) (K (s.put dst .undef)):=h
      have run:bN C id op.ro (fun v s'=>K (s'.put dst v)) s→bN C id op (fun v s'=>∃ s0,rU (s'.put dst v) s0∧K s0) s:=run
      show eN s g (bN C id op (fun v s'=>∃ s0,rU (s'.put dst v) s0∧K s0) s) (∃ s0,rU (s.put dst .undef) s0∧K s0)
      unfold eN at h ⊢
      cases g with
      | none=>exact run h
      | some p =>
        obtain ⟨t,want⟩:=p
        simp only at h ⊢
        cases hl:lk t s.slots with
        | none=>simp [hl] at h
        | some v =>
          simp only [hl] at h
          cases v with
          | ptr b o=>exact h.elim
          | rp cs=>exact h.elim
          | vs _ _ _ _=>exact h.elim
          | oF _ _ _=>exact h.elim
          | raw _ _=>exact h.elim
          | undef=>exact ⟨_,.refl,h⟩
          | dat a q =>
            cases a<;>try (exact h.elim)
            exact ⟨fun e=>run (h.1 e),fun e=>⟨_,.refl,h.2 e⟩⟩
section
variable{C:aS} {base:Nat} {ops:Array Oper} {cos:List CO} {K:S->Prop}
theorem zE{T:List (Nat×Tag)} {dU:List (Nat×Nat)} (hT:∀k ok,cos[k]? =some ok->r8 T (base+k) ok=true) (hbad:zu T cos dU=true) (hK:∀s s2,rU s s2->K s->K s2) (hlen:cos.length=ops.size) (hok:pX dU ops.toList cos=true):
  ∀(rest:List CO) (i:Nat) (l:Array Bool) (s:S),cos.drop i=rest->i+rest.length=ops.size->l.size=ops.size->(∀j,j<ops.size->l.getD j false=decide (j<i))->
   s.gR (UL base l)->qb T s->jw C base i rest K s->IT C base ops cos K rest.length l s
 |[],i,l,s,hd,hn,hl,hl',hU,hR,h=>by
  refine⟨?_,h⟩;rw[List.eq_nil_iff_forall_not_mem];intro j hj
  have h1:=(mem_ready.1 hj).1
  have h2:=sD hj
  have h3:=hl' j (by omega)
  rw[ug h1]at h3;simp at hn h3;omega
 |o::rest,i,l,s,hd,hn,hl,hl',hU,hR,h=>by
  have hio:cos[i]? =some o:=by
   have:(cos.drop i)[0]? =some o:=by rw[hd];rfl
   simpa using this
  have hilt:i<ops.size:=by simp at hn;omega
  have hpi:ops[i]? =some ops[i]:=by simp[hilt]
  obtain⟨hedge,hrow⟩:=om hok i ops[i] o (by simpa using hpi) hio
  simp only[Nat.zero_add]at hedge hrow
  have hiun:l.getD i true=false:=by
   have:=hl' i hilt
   simp at this
   exact PL (by omega) (by simpa using this)
  have hcl:yN ops l:=by
   intro k ok hk hlk e he hb
   have hkn:k<ops.size:=(Array.getElem?_eq_some_iff.1 hk).1
   rw[hl' k hkn]at hlk;simp at hlk
   obtain⟨ok',hok'⟩:∃x,cos[k]? =some x:=⟨cos[k]'(by omega),by simp[hlen,hkn]⟩
   have:=(om hok k ok ok' (by simpa using hk) hok').1 e he hb
   rw[hl' e.on (by omega)]
   simp;omega
  have hr:i∈Region.ready .any ops l:=by
   rw[mem_ready]
   refine⟨hiun,ops[i],hpi,fun e he hb=>?_⟩
   have:=hedge e he hb
   rw[hl' e.on (by omega)]
   simpa using this
  refine IX hT hK hlen hio rest.length l s ?_ hcl hr hU hR ?_
  ·intro j pj oj hpj hoj hji hjun hno hno2
   have hjn:j<ops.size:=(Array.getElem?_eq_some_iff.1 hpj).1
   have hlj:=hl' j hjn
   rw[ug hjun]at hlj;simp at hlj
   have hij:i<0+j:=by omega
   rcases wT hrow j pj oj (by simpa using hpj) hoj hij with h|h|h|h
   ·rw[hno]at h;cases h
   ·exact IW h
   ·rw[hno2]at h;cases h
   ·rw[Nat.zero_add]at h;exact Bt hio hoj hbad h
  ·rw[mC]at h
   obtain⟨v,d,hdoes,hs',hi'⟩:=eV h
   have hU':=hi' _ hU
   have hR':=zC hdoes (hT i o hio) hR
   refine hdoes.2 s .refl _ ?_;generalize(d.app' (base+i) s).put o.dst v=s' at hs' hU' hR'
   have hlsz:(l.setIfInBounds i true).size=ops.size:=by simp[hl]
   refine zE hT hbad hK hlen hok rest (i+1) _ s' ?_ (by simp at hn⊢;omega) hlsz (fun j hj=>?_) (AM (fun n hn=>IV (by omega) hn) hU') hR' hs'
   ·rw[<-List.tail_drop,hd];rfl
   ·by_cases hij:i=j
    ·subst hij;simp[hl,hilt]
    ·rw[getD_set_ne false hij,hl' j hj]
     by_cases hlt:j<i
     ·simp[hlt];omega
     ·simp[hlt];omega
end
section
variable{P:Program} {nt:Nat} {n0:gb} {w0:World} {π0:Nat->Nat->Prop} {U:Nat->Prop} {s:S} {a:Act} {w:World} {β:Nat->Nat} {τ:Nat->Value} {π:Nat->Nat->Prop}
theorem Rel.gR(R:Rel P nt n0 w0 π0 U s a w β τ π):s.gR U:=
 ⟨fun t v hv=>(R.slots t v hv).2,fun b x hb=>⟨(R.boxes b x hb).1,fun o q hq=>(R.boxes b x hb).2.2.2 o q hq⟩,fun q e hq=>(R.live q e hq).1⟩
theorem Rel.seq(R:Rel P nt n0 w0 π0 U s a w β τ π) {s2:S} (h:rU s s2):Rel P nt n0 w0 π0 U s2 a w β τ π where
 size:=R.size
 slots:=fun t v hv=>R.slots t v (by rw[<-h.slots];exact hv)
 boxes:=fun b x hb=>R.boxes b x (by rw[<-h.boxes];exact hb)
 inj:=fun b b' x x' hb hb'=>R.inj b b' x x' (by rw[<-h.boxes];exact hb) (by rw[<-h.boxes];exact hb')
 live:=fun q e hq=>R.live q e (by rw[<-h.live];exact hq)
 cq:=fun q q' e e' B hq hq'=>R.cq q q' e e' B (by rw[<-h.live];exact hq) (by rw[<-h.live];exact hq')
 cH:=fun q e b x hq hb=>R.cH q e b x (by rw[<-h.live];exact hq) (by rw[<-h.boxes];exact hb)
 below:=R.below
 eS:=R.eS
 eO:=R.eO
 eF:=R.eF
 dc:=R.dc
 mj:=R.mj
 jf:=R.jf
 kept:=R.kept
theorem Rel.nx(R:Rel P nt n0 w0 π0 U s a w β τ π) (n:Nat):Rel P nt n0 w0 π0 U {s with nx:=n} a w β τ π:=
 R.seq ⟨fun _=>rfl,fun _=>rfl,fun _=>rfl⟩
theorem zF{ops:Array Oper} {g:Option (Nat×Bool)} {g':Option (Nat×Bool)} (h:E4 ops g=some g'):(g=none/\g'=none)\/∃j w t,g=some (j,w)/\(ops[j]?).bind (·.dst)=some t/\g'=some (t,w):=by
 unfold E4 at h;split at h
 ·cases h;exact .inl ⟨rfl,rfl⟩
 ·rename_i j w
  split at h
  ·rename_i t ht
   cases h;exact .inr ⟨j,w,t,rfl,ht,rfl⟩
  ·cases h
theorem Bw(R:Rel P nt n0 w0 π0 U s a w β τ π) {ops:Array Oper} {o:Oper} {c:CO} {id:Nat} (hid:¬U id) (hc:uR P ops o=some c) (hfit:∀d,c.dst=some d->d<nt) {K:S->Prop} (h:jU (Pure P) id c K s)
  {next:Act->World->Prop} {Q:Exit->Act->World->Prop}
  (hn:∀s' x w' β' τ' π',K s'->Rel P nt n0 w0 π0 (fk U id) s' (a.put o.dst x) w' β' τ' π'->next (a.put o.dst x) w'):
  if Region.wanted o (yielded ops a.tmps)then o.wp P a w next Q else next (a.put o.dst undef) w:=by
 unfold uR at hc
 split at hc<;>try(cases hc;done)
 rename_i cop g hop hg;cases hc;simp only at hfit
 have run:bN (Pure P) id cop (fun v s'=>K (s'.put o.dst v)) s->o.wp P a w next Q:=fun h=>by
  unfold Po at hop;split at hop
  ·rename_i c' hv'
   cases hop
   exact IP R hid hv' h fun v s' x w' β' τ' π' hK hv hu R'=>hn _ _ _ _ _ _ hK (R'.put o.dst hfit hv hu)
  ·exact ue R hid hop h fun v s' x w' β' τ' π' hK hv hu R'=>hn _ _ _ _ _ _ hK (R'.put o.dst hfit hv hu)
 have skip:K (s.put o.dst .undef)->next (a.put o.dst undef) w:=fun h=>
  hn _ _ _ _ _ _ h ((R.sub fun n h=>.inl h).put o.dst hfit rfl trivial)
 unfold jU eN at h
 rcases zF hg with⟨h1,h2⟩|⟨j,want,t,h1,h2,h3⟩
 ·subst h2
  simp only at h;simp only[Region.wanted,h1,if_true];exact run h
 ·subst h3
  simp only at h
  cases hl:lk t s.slots with
  |none=>simp[hl]at h
  |some v=>
   obtain⟨⟨x,hx,hrv⟩,hui⟩:=R.slots t v hl;simp only[hl]at h
   have hy:∀b,x=.bool b->yielded ops a.tmps j=some b:=fun b hb=>by
    unfold yielded;rw[h2];simp[hx,hb]
   cases v with
   |ptr b o=>exact h.elim
   |rp cs=>exact h.elim
   |vs _ _ _ _=>exact h.elim
   |oF _ _ _=>exact h.elim
   |raw _ _=>exact h.elim
   |undef=>
    have hxu:x=undef:=hrv
    have hy':yielded ops a.tmps j=none:=by
     unfold yielded;rw[h2];simp[hx,hxu,undef]
    simp only[Region.wanted,h1,hy'];exact skip h
   |dat av q=>
    cases av<;>try(exact h.elim)
    rename_i b
    have hxb:x=.bool b:=hrv.1.sn
    simp only[Region.wanted,h1,hy b hxb]
    by_cases hb:b=want
    ·subst hb;simp;exact run (h.1 rfl)
    ·have hb':b=!want:=by cases b<;>cases want<;>first|rfl|exact absurd rfl hb
     have:(some b==some want)=false:=by subst hb';cases want<;>rfl
     rw[this];exact skip (h.2 hb')
def yO(P:Program) (ops:Array Oper) (o:Oper) (c':CO):Prop:=∃c,uR P ops o=some c/\Ro c c'
theorem GM(R:Rel P nt n0 w0 π0 U s a w β τ π) {ops:Array Oper} {o:Oper} {c:CO} {id:Nat} (hid:¬U id) (hc:yO P ops o c) (hfit:∀d,c.dst=some d->d<nt) {K:S->Prop} (h:jU (Pure P) id c K s)
  {next:Act->World->Prop} {Q:Exit->Act->World->Prop}
  (hn:∀s' x w' β' τ' π',K s'->Rel P nt n0 w0 π0 (fk U id) s' (a.put o.dst x) w' β' τ' π'->next (a.put o.dst x) w'):
  if Region.wanted o (yielded ops a.tmps)then o.wp P a w next Q else next (a.put o.dst undef) w:=by
 obtain⟨c0,hc0,hr⟩:=hc
 refine Bw R hid hc0 (fun d hd=>hfit d (by rw[hr.dst];exact hd)) (MP hr h) ?_
 rintro s' x w' β' τ' π' ⟨s0,he,hk⟩ R'
 exact hn s0 x w' β' τ' π' hk (R'.seq he)
def FW(r:Option Nat):Fence:={Fence.wide with round:=r}
theorem By{r:Option Nat} {n:Nat} {f:FuncId} {args:Array Value} {w:World} {R:Ending->World->Prop}:CallsIn (FW r) n P f args w R↔Calls P f args w R:=
 ⟨fun h=>callsIn_wide.1 (show CallsIn Fence.wide n P f args w R from h),fun h=>(show CallsIn Fence.wide n P f args w R from callsIn_wide.2 h)⟩
theorem K5{r:Option Nat} {n:Nat} {row:String} {args:Array Value} {w:World} {R:Value->World->Prop} (h:Rows P row args w R):RowsIn (FW r) n P row args w R:=
 fun c cs _=>let ⟨v,w',hr,s⟩:=h c cs;⟨v,w',hr,(show StepsIn (Machine.fenced P Fence.wide) P _ _ from stepsIn_wide.2 s)⟩
theorem Sz{r:Option Nat} {n:Nat} {o:Oper} {a:Act} {w:World} {K:Act->World->Prop} {Q:Exit->Act->World->Prop} (h:o.wp P a w K Q) (hd:∀c,o.op≠.defer c):o.wpIn (FW r) n P a w K Q:=by
 refine⟨fun _ _=>trivial,?_⟩
 rw[Oper.semAt_eq _ _ _ hd];unfold Oper.wp at h;generalize(execOp a.eval o).run P w=res at h⊢
 cases res with
 |ok x w'=>
  cases x<;>simp only[Oper.upon,Oper.uponIn]at h⊢<;>first
   |exact h
   |exact h.elim
   |exact⟨fun hd=>by simp[FW,Fence.wide]at hd,By.2 h⟩
   |exact⟨fun hd=>by simp[FW,Fence.wide]at hd,K5 h⟩
 |halt x w'=>cases x<;>simp only[Oper.upon,Oper.uponIn]at h⊢<;>first|exact h|exact h.elim
def rR(T:Nat->Prop) (a0 a:Act):Prop:=a.defers=a0.defers/\∀t,T t->a.tmps[t]? =a0.tmps[t]?
theorem rR.refl(T:Nat->Prop) (a:Act):rR T a a:=⟨rfl,fun _ _=>rfl⟩
theorem rR.put{T:Nat->Prop} {a0 a:Act} (h:rR T a0 a) {d:Option Nat} (hd:∀t,d=some t->¬T t) (x:Value):rR T a0 (a.put d x):=by
 cases d with
 |none=>exact h
 |some d=>
  refine⟨h.1,fun t ht=>?_⟩
  have hne:t≠d:=fun e=>hd d rfl (e▸ht)
  simp only[Act.put];rw[Array.getElem?_setIfInBounds_ne (Ne.symm hne)];exact h.2 t ht
theorem Bz(R:Rel P nt n0 w0 π0 U s a w β τ π) {ops:Array Oper} {o:Oper} {c:CO} {i id:Nat} (ho:ops[i]? =some o) (hid:¬U id) (hc:yO P ops o c) (hfit:∀d,c.dst=some d->d<nt) {K:S->Prop} (h:jU (Pure P) id c K s)
  {next:Act->World->Prop} {Q:Exit->Act->World->Prop}
  (hn:∀s' x w' β' τ' π',K s'->Rel P nt n0 w0 π0 (fk U id) s' (a.put o.dst x) w' β' τ' π'->next (a.put o.dst x) w') {r:Option Nat} {n:Nat}:wpOpIn (FW r) n P ops Q i next a w:=by
 have:=GM R hid hc hfit h (Q:=Q) hn
 have hnd:∀c,o.op≠.defer c:=by
  intro c' e;obtain⟨c0,hc,_⟩:=hc;unfold uR at hc;rw[e]at hc;simp[Po,Bh,Su]at hc
 unfold wpOpIn;simp only[ho];split
 ·rename_i hw;rw[if_pos hw]at this;exact Sz this hnd
 ·rename_i hw;rw[if_neg hw]at this;exact⟨fun _ _=>trivial,this⟩
theorem Ee{ops:Array Oper} {o:Oper} {c:CO} (hc:uR P ops o=some c):c.dst=o.dst:=by
 unfold uR at hc
 split at hc<;>try(cases hc;done)
 cases hc;rfl
theorem BA{ops:Array Oper} {o:Oper} {c:CO} (hc:yO P ops o c):c.dst=o.dst:=by
 obtain⟨c0,h0,hr⟩:=hc;rw[hr.dst,Ee h0]
theorem zG{ops:Array Oper}:∀{l:List Oper} {cs:List CO},yI P ops l=some cs->cs.length=l.length/\∀(i:Nat) (o:Oper) (c:CO),l[i]? =some o->cs[i]? =some c->uR P ops o=some c
 |[],cs,h=>by simp[yI]at h;subst h;exact⟨rfl,fun i o c h=>by simp at h⟩
 |o::l,cs,h=>by
  unfold yI at h
  split at h<;>try(cases h;done)
  rename_i c cs' h1 h2;cases h;obtain⟨e,hs⟩:=zG h2
  refine⟨by simp[e],fun i o' c' ho hc=>?_⟩
  cases i with
  |zero=>simp at ho hc;subst ho;subst hc;exact h1
  |succ i=>exact hs i o' c' (by simpa using ho) (by simpa using hc)
theorem wV{n:Nat}:∀{l:List CO},i4 n l=true->∀(i:Nat) (c:CO) (d:Nat),l[i]? =some c->c.dst=some d->d<n
 |[],h,i,c,d,hi,hd=>by simp at hi
 |o::l,h,i,c,d,hi,hd=>by
  simp only[i4,Bool.and_eq_true]at h
  cases i with
  |zero=>
   simp at hi;subst hi
   have:=h.1
   rw[hd]at this
   simpa using this
  |succ i=>exact wV h.2 i c d (by simpa using hi) hd
theorem BB{ops:Array Oper} {cos:List CO} {base:Nat} (hlen:cos.length=ops.size) (hcos:∀(i:Nat) (o:Oper) (c:CO),ops[i]? =some o->cos[i]? =some c->yO P ops o c) (hfit:∀(i:Nat) (c:CO) (d:Nat),cos[i]? =some c->c.dst=some d->d<nt)
  {T:Nat->Prop} {a0:Act} (hT:∀(i:Nat) (c:CO) (d:Nat),cos[i]? =some c->c.dst=some d->¬T d) {r:Option Nat} {m:Nat}
  {K:S->Prop} {Q:Exit->Act->World->Prop} (hQ:∀s a w β τ π U,(∀n,U n->n<base+ops.size)->K s->rR T a0 a->Rel P nt n0 w0 π0 U s a w β τ π->Q .normal a w):
  ∀(rest:List CO) (i:Nat) (s:S) (a:Act) (w:World) (β:Nat->Nat) (τ:Nat->Value) (π:Nat->Nat->Prop) (U:Nat->Prop),cos.drop i=rest->i+rest.length=ops.size->(∀n,U n->n<base+i)->rR T a0 a->Rel P nt n0 w0 π0 U s a w β τ π->
   jw (Pure P) base i rest K s->wpOpsIn (FW r) m P ops Q (List.range' i rest.length) a w
 |[],i,s,a,w,β,τ,π,U,hd,hn,hU,hp,R,h=>hQ s a w β τ π U (fun n h=>by have:=hU n h;simp at hn;omega) h hp R
 |o::rest,i,s,a,w,β,τ,π,U,hd,hn,hU,hp,R,h=>by
  have hio:cos[i]? =some o:=by
   have:(cos.drop i)[0]? =some o:=by rw[hd];rfl
   simpa using this
  have hilt:i<ops.size:=by simp at hn;omega
  have hpi:ops[i]? =some ops[i]:=by simp[hilt]
  rw[mC]at h;simp only[List.length_cons,List.range'_succ];rw[wpOpsIn_cons]
  refine Bz R hpi (fun h=>by have:=hU _ h;omega) (hcos i _ o hpi hio) (hfit i o · hio) h fun s' x w' β' τ' π' hK R'=>?_
  refine BB hlen hcos hfit hT hQ rest (i+1) s' _ w' β' τ' π' _ ?_ (by simp at hn;omega) (fun n h=>?_) (hp.put (fun d hd=>hT i o d hio (by rw[BA (hcos i _ o hpi hio)];exact hd)) x) R' hK
  ·rw[<-List.tail_drop,hd];rfl
  ·rcases h with h|h
   ·have:=hU n h;omega
   ·omega
theorem K6{ops:Array Oper} {cos:List CO} {base:Nat} (hcos:∀(i:Nat) (o:Oper) (c:CO),ops[i]? =some o->cos[i]? =some c->yO P ops o c) (hfit:∀(i:Nat) (c:CO) (d:Nat),cos[i]? =some c->c.dst=some d->d<nt)
  {T:Nat->Prop} {a0:Act} (hT:∀(i:Nat) (c:CO) (d:Nat),cos[i]? =some c->c.dst=some d->¬T d) {r:Option Nat} {m:Nat}
  {K:S->Prop} {Q:Exit->Act->World->Prop} (hQ:∀s a w β τ π U,(∀n,U n->n<base+ops.size)->K s->rR T a0 a->Rel P nt n0 w0 π0 U s a w β τ π->Q .normal a w):
  ∀(f:Nat) (l:Array Bool) (s:S) (a:Act) (w:World) (β:Nat->Nat) (τ:Nat->Value) (π:Nat->Nat->Prop),l.size=ops.size->rR T a0 a->Rel P nt n0 w0 π0 (UL base l) s a w β τ π->
   IT (Pure P) base ops cos K f l s->wpAnyIn (FW r) m P .any ops Q f l a w:=by
 have small:∀l:Array Bool,l.size=ops.size->∀n,UL base l n->n<base+ops.size:=by
  rintro l hl n (h|⟨i,hi,h⟩)
  ·omega
  ·have:i<l.size:=by
    rcases Nat.lt_or_ge i l.size with h'|h'
    ·exact h'
    ·simp[Array.getElem?_eq_none h']at h
   omega
 intro f
 induction f with
 |zero=>intro l s a w β τ π hl hp R h;exact⟨h.1,hQ s a w β τ π _ (small l hl) h.2 hp R⟩
 |succ f ih=>
  intro l s a w β τ π hl hp R h
  refine⟨fun h0=>hQ s a w β τ π _ (small l hl) (h.1 h0) hp R,fun i hi=>?_⟩
  obtain⟨o,ho,hs⟩:=h.2 i hi;obtain⟨hun,pi,hpi,_⟩:=mem_ready.1 hi
  refine Bz R hpi (IU hun) (hcos i pi o hpi ho) (hfit i o · ho) hs fun s' x w' β' τ' π' hK R'=>?_
  exact ih _ s' _ w' β' τ' π' (by simp[hl]) (hp.put (fun d hd=>hT i o d ho (by rw[BA (hcos i pi o hpi ho)];exact hd)) x) (R'.sub fun n hn=>IV (sD hi) hn) hK
theorem BC{c:CO} {d:Nat}:∀{l:List CO},c∈l->c.dst=some d->d∈dstsOf l
 |o::l,h,hd=>by
  simp only[dstsOf,List.mem_append]
  rcases List.mem_cons.1 h with rfl|h
  ·exact .inl (by rw[hd];simp)
  ·exact .inr (BC h hd)
theorem wW (hm:P.follows .mixedOrders=true) {id:Nat} {ops:Array Oper} {kP:Bool} {cos0:List CO} (hc:yI P ops ops.toList=some cos0) (ro:List Nat) (hd:kP=true→∃ dU T,pX dU ops.toList cos0=true∧zu T (nB ro 0 cos0) dU=true∧mh T s.nx 0 (nB ro 0 cos0)=true∧qb T s) (hfit:i4 nt cos0=true)
    (R:Rel P nt n0 w0 π0 U s a w β τ π) (hU:∀ n,U n→n < s.nx) {K:S→Prop} {Q:Exit→Act→World→Prop} (h:jw (Pure P) s.nx 0 (nB ro 0 cos0) K s)
    {T:Nat→Prop} (hT:∀ d,d∈dstsOf cos0→¬ T d) {r:Option Nat} {m:Nat}
    (hQ:∀ s' a' w β τ π U,(∀ n,U n→n < s.nx + cos0.length)→K s'→rR T a a'→Rel P nt n0 w0 π0 U s' a' w β τ π→Q .normal a' w):(Code.region id ops kP).wpIn (FW r) m P Q a w:=by
  obtain ⟨hlen0,hcos0⟩:=zG hc
  have hd:kP=true→∃ dU T,pX dU ops.toList (nB ro 0 cos0)=true∧zu T (nB ro 0 cos0) dU=true∧mh T s.nx 0 (nB ro 0 cos0)=true∧qb T s:=fun e=>by
    obtain ⟨dU,T,h1,h2⟩:=hd e
    exact ⟨dU,T,K4 h1,h2⟩
  have hfit:i4 nt (nB ro 0 cos0)=true:=by rw [J2]; exact hfit
  have hT:∀ d,d∈dstsOf (nB ro 0 cos0)→¬ T d:=by rw [GL]; exact hT
  have hlen:(nB ro 0 cos0).length=ops.size:=by rw [Fc]; simpa using hlen0
  have hQ:∀ s' a' w β τ π U,(∀ n,U n→n < s.nx + (nB ro 0 cos0).length)→K s'→rR T a a'→Rel P nt n0 w0 π0 U s' a' w β τ π→Q .normal a' w:=by rw [Fc]; exact hQ
  have hcos:∀ (i:Nat) (o:Oper) (c:CO),ops[i]? = some o→(nB ro 0 cos0)[i]? = some c→yO P ops o c:=fun i o c h1 h2=>by
    obtain ⟨c0,h3,h4⟩:=J1 h2
    exact ⟨c0,hcos0 i o c0 (by simpa using h1) h3,h4⟩
  clear hlen0 hcos0 hc
  generalize nB ro 0 cos0=cos at *
  have hT:∀ (i:Nat) (c:CO) (d:Nat),cos[i]? = some c→c.dst=some d→¬ T d:=fun i c d hi hd=>hT d (BC (List.mem_of_getElem? hi) hd)
  have hfit:=wV hfit
  rw [hlen] at hQ
  cases kP with
  | false =>
    refine wpIn_region ?_
    have:=BB (r:=r) (m:=m) hlen hcos hfit hT hQ cos 0 s a w β τ π U rfl (by simpa using hlen) (by simpa using hU) (.refl _ _) R h
    rw [hlen] at this
    rw [List.range_eq_range']
    exact this
  | true =>
    obtain ⟨dU,Tb,hok,hbad,hst,hRt⟩:=hd rfl
    have hst':∀ k ok,cos[k]? = some ok→r8 Tb (s.nx + k) ok=true:=fun k ok hk=>by have:=wR hst k ok hk; rwa [Nat.zero_add] at this
    refine wpIn_region_any hm ?_
    have R':Rel P nt n0 w0 π0 (UL s.nx (Array.replicate ops.size false)) s a w.drew β τ π:=R.draw.sub fun n hn=>.inl (hU n hn)
    have h2:jw (Pure P) s.nx 0 cos (fun s2=>∃ s1,rU s1 s2∧K s1) s:=by
      clear hQ
      have gen:∀ (base':Nat) (r:List CO) (i:Nat) (s:S) {K':S→Prop},(∀ s,K s→K' s)→jw (Pure P) base' i r K s→jw (Pure P) base' i r K' s:=by
        intro base' r
        induction r with
        | nil=>intro i s K' hk h; exact hk s h
        | cons o r ih =>
          intro i s K' hk h
          rw [mC] at h ⊢
          obtain ⟨v,d,hd,hk',_⟩:=eV h
          exact hd.2 s .refl _ (ih _ _ hk hk')
      exact gen s.nx cos 0 s (fun s h=>⟨s,.refl,h⟩) h
    have h3:=zE hst' hbad (fun s s2 he ⟨s1,h1,hk⟩=>⟨s1,h1.trans he,hk⟩) hlen hok cos 0 (Array.replicate ops.size false) s rfl (by simpa using hlen) (by simp) (fun j hj=>by simp [hj]) R'.gR hRt h2
    rw [hlen] at h3
    refine K6 hcos hfit hT ?_ ops.size _ s a w.drew β τ π (by simp) (.refl _ _) R' h3
    rintro s2 a w β τ π U hU ⟨s1,he,hk⟩ hp R2
    exact hQ s1 a w β τ π U hU hk hp (R2.seq he.symm)
end
end Go.Eng
