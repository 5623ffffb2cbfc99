/- The engine and the library,part 6 of 18: what the proofs of this seat need of them. -/
import Derived.Test.YthoinfdfenkgnaaGreatPk5
set_option linter.unnecessarySimpa false
set_option linter.unusedSimpArgs false
set_option linter.unusedVariables false
set_option linter.defProp false
set_option maxRecDepth 10000
set_option maxHeartbeats 4000000
namespace Go.Eng
open Go
open Go.RowKit (Below)
def iz:AV->SV
 | .ref cs=>.rp cs
 |a=>.dat a none
def slotsOf:Nat->List AV->List (Nat×SV)
 |_,[]=>[]
 |i,a::r=>(i,iz a)::slotsOf (i+1) r
def MU(args:List AV):S:=⟨slotsOf 0 args,[],[],4⟩
def i9:Nat->Nat->List (Option AV)->List (Nat×SV)
 |_,_,[]=>[]
 |i,k,some a::r=>(i,iz a)::i9 (i+1) k r
 |i,k,none::r=>(i,.ptr k 0)::i9 (i+1) (k+1) r
def iE:Nat->List (List AV)->List (Nat×bV)
 |_,[]=>[]
 |k,cs::css=>(k,⟨cs,[]⟩)::iE (k+1) css
def wZ(css:List (List AV)) (args:List (Option AV)):S:=⟨i9 0 0 args,iE 0 css,[],4⟩
def iA(l:List (Nat×bV)):Nat->List (List AV)->Prop
 |_,[]=>True
 |k,cs::css=>an (b9 k l) (fun x=>x.cells=cs)/\iA l (k+1) css
def Lf(s:S):gG->Option (AV×Option Nat)
 | .tmp t=>match lk t s.slots with
  |some (.dat a q)=>some (a,q)
  |_=>none
 | .cell t sz=>match lk t s.slots with
  |some (.ptr b off)=>match b9 b s.boxes with
   |some bx=>match ay bx.cells off sz with
    |some a=>some (a,match sz with|none=>d7 off bx.tags|some _=>none)
    |none=>none
   |none=>none
  |_=>none
def mQ(s:S):List gG->Option (List AV)
 |[]=>some []
 |r::rs=>match Lf s r,mQ s rs with
  |some p,some as=>some (p.1::as)
  |_,_=>none
def dO(s:S):List gG->Option (AV×Option Nat)
 |[r]=>Lf s r
 |rs=>(mQ s rs).map fun as=>(.cN as,none)
def ID(fr:Option Nat) (q:Option Nat) (live:List (Nat×Nat)):Prop:=
 match fr with
 |none=>True
 |some e=>match q with
  |some q'=>d7 q' live=some e
  |none=>False
def fin(res:List gG) (r:AV) (fr:Option Nat):Exit->S->Prop
 | .normal,s=>an (dO s res) fun p=>p.1=r/\ID fr p.2 s.live
 | .ret,s=>an (dO s res) fun p=>p.1=r/\ID fr p.2 s.live
 |_,_=>False
def I1(res:List gG) (r:AV) (fr:Option Nat) (css:List (List AV)):Exit->S->Prop
 | .normal,s=>an (dO s res) fun p=>p.1=r/\ID fr p.2 s.live/\iA s.boxes 0 css
 | .ret,s=>an (dO s res) fun p=>p.1=r/\ID fr p.2 s.live/\iA s.boxes 0 css
 |_,_=>False
theorem kS{β:Nat->Nat} {τ:Nat->Value} {w:World} {π:Nat->Nat->Prop} {U:Nat->Prop} {a:AV} {x:Value} (h:DV w π a x):RV β τ w π (iz a) x/\(iz a).gR U:=by
 cases a with
 |ref cs=>exact⟨RV.ref.2 h,trivial⟩
 |_=>exact⟨⟨h,fun t ht=>by cases ht⟩,trivial⟩
theorem BH:∀{args:List AV} {i t:Nat} {v:SV},lk t (slotsOf i args)=some v->∃a,i<=t/\args[t-i]? =some a/\v=iz a
 |[],i,t,v,h=>by cases h
 |a::r,i,t,v,h=>by
  simp only[slotsOf,lk,mq]at h;split at h
  ·rename_i e;cases h;subst e;exact⟨a,Nat.le_refl _,by simp,rfl⟩
  ·obtain⟨b,h1,h2,h3⟩:=BH h
   refine⟨b,by omega,?_,h3⟩
   rw[show t-i=(t-(i+1))+1 by omega]
   simpa using h2
section
variable{P:Program} {nt:Nat} {n0:gb} {w0:World} {π0:Nat->Nat->Prop} {U:Nat->Prop} {s:S} {a:Act} {w:World} {β:Nat->Nat} {τ:Nat->Value} {π:Nat->Nat->Prop}
def qg(tmps:Array Value):ResultVar->Sem Value
 | .tmp t=>pure (tmps.getD t undef)
 | .cell a t=>do loadVar t (<-asAddr (tmps.getD a undef))
theorem J7(R:Rel P nt n0 w0 π0 U s a w β τ π) {rv:ResultVar} {cr:gG} (hc:Gz P rv=some cr) {av:AV} {q:Option Nat} (h:Lf s cr=some (av,q)):
  ∃v,(qg a.tmps rv).run P w=.ok v w/\DV w π av v/\(∀t,q=some t->v=τ t):=by
 cases rv with
 |tmp t=>
  cases hc;simp only[Lf]at h
  split at h<;>try(cases h;done)
  rename_i a' q' hl;cases h;obtain⟨⟨x,hx,hr⟩,_⟩:=R.slots t _ hl
  exact⟨x,by simp[qg,hx],hr.1,hr.2⟩
 |cell ad t=>
  simp only[Gz,Option.map_eq_some_iff]at hc;obtain⟨sz,hsz,rfl⟩:=hc;simp only[Lf]at h
  split at h<;>try(cases h;done)
  rename_i b off hl
  split at h<;>try(cases h;done)
  rename_i bx hb
  split at h<;>try(cases h;done)
  rename_i a' hp;cases h
  have hop:bN (Pure P) 0 (.ld (.t ad) sz) (fun v s'=>v=.dat av (match(generalizing:=false) sz with|none=>d7 off bx.tags|some _=>none)) s:=by
   simp only[bN,dh,hl,aE,hb,hp]
   cases sz<;>rfl
  obtain⟨v,y,hr,hrv,_,hK⟩:=R.load (X:=.tmp ad) rfl hsz hop
  subst hK;obtain⟨⟨x,hx,hrx⟩,_⟩:=R.slots ad _ hl
  have hrx':x=.pointer (some ⟨β b,off,none⟩):=hrx
  have he:a.eval (.tmp ad)=x:=by simp[Act.eval,hx]
  refine⟨y,?_,hrv.1,hrv.2⟩;rw[he,hrx']at hr;simp[Instr.loadAt,Instr.sureAddr]at hr;simp[qg,hx,hrx',asAddr,hr]
theorem GR(R:Rel P nt n0 w0 π0 U s a w β τ π):∀{rvs:List ResultVar} {crs:List gG},rvs.mapM (Gz P)=some crs->∀{as:List AV},mQ s crs=some as->
  ∃vs,(rvs.mapM (qg a.tmps)).run P w=.ok vs w/\jt w π as vs
 |[],crs,hc,as,h=>by
  simp at hc;subst hc;simp[mQ]at h;subst h
  exact⟨[],by simp,.nil _ _⟩
 |rv::rvs,crs,hc,as,h=>by
  simp only[List.mapM_cons,Option.bind_eq_bind,Option.bind_eq_some_iff,Option.pure_def,Option.some.injEq]at hc;obtain⟨cr,hcr,crs',hcrs,rfl⟩:=hc;simp only[mQ]at h
  split at h<;>try(cases h;done)
  rename_i p as' h1 h2;cases h
  obtain⟨v,hv,hd,_⟩:=J7 R hcr (av:=p.1) (q:=p.2) h1
  obtain⟨vs,hvs,hds⟩:=GR R hcrs h2
  exact⟨v::vs,by simp[List.mapM_cons,hv,hvs],.cons hd hds⟩
theorem BI(fn:Func) (tmps:Array Value):results fn tmps=(do let vs<-fn.results.mapM (qg tmps);pure (if h:vs.size=1 then vs[0]else .tuple vs)):=by
 unfold results
 congr 1
theorem qh(R:Rel P nt n0 w0 π0 U s a w β τ π) {fn:Func} {crs:List gG} (hc:fn.results.toList.mapM (Gz P)=some crs) {av:AV} {q:Option Nat} (h:dO s crs=some (av,q)):
  ∃v,(results fn a.tmps).run P w=.ok v w/\DV w π av v/\(∀t,q=some t->v=τ t):=by
 have go:∀vs:List Value,(fn.results.toList.mapM (qg a.tmps)).run P w=.ok vs w->(results fn a.tmps).run P w=.ok (if h:vs.length=1 then vs[0]else .tuple vs.toArray) w:=by
  intro vs hvs
  have:(fn.results.mapM (qg a.tmps)).run P w=.ok vs.toArray w:=by
   have e:fn.results=fn.results.toList.toArray:=by simp
   rw[e,List.mapM_toArray,Sem.run_map,hvs];rfl
  rw[BI,Sem.run_bind,this];simp
 have many:(∀r,crs≠[r])->dO s crs=(mQ s crs).map fun as=>(.cN as,none):=by
  intro hne
  cases crs with
  |nil=>rfl
  |cons r rs=>
   cases rs with
   |nil=>exact absurd rfl (hne r)
   |cons r' rs=>rfl
 by_cases hone:∃r,crs=[r]
 ·obtain⟨r,rfl⟩:=hone
  cases hrl:fn.results.toList with
  |nil=>rw[hrl]at hc;simp at hc
  |cons rv rvs=>
   rw[hrl]at hc;simp only[List.mapM_cons,Option.bind_eq_bind,Option.bind_eq_some_iff,Option.pure_def,Option.some.injEq]at hc;obtain⟨cr,hcr,crs',hcrs,he⟩:=hc;cases he
   have hnil:rvs=[]:=by
    cases rvs with
    |nil=>rfl
    |cons x xs=>
     simp only[List.mapM_cons,Option.bind_eq_bind,Option.bind_eq_some_iff,Option.pure_def,Option.some.injEq]at hcrs;obtain⟨_,_,_,_,h⟩:=hcrs;cases h
   subst hnil;obtain⟨v,hv,hd,hq⟩:=J7 R hcr h;refine⟨v,?_,hd,hq⟩
   rw[go [v] (by rw[hrl];simp[hv])]
   simp
 ·have hne:∀r,crs≠[r]:=fun r e=>hone ⟨r,e⟩
  rw[many hne]at h;simp only[Option.map_eq_some_iff,Prod.mk.injEq]at h;obtain⟨as,has,rfl,rfl⟩:=h;obtain⟨vs,hvs,hds⟩:=GR R hc has
  have hl1:crs.length=vs.length:=by
   have:∀{crs:List gG} {as:List AV},mQ s crs=some as->crs.length=as.length:=by
    intro crs
    induction crs with
    |nil=>intro as h;simp[mQ]at h;subst h;rfl
    |cons c crs ih=>
     intro as h;simp only[mQ]at h
     split at h<;>try(cases h;done)
     rename_i p as' h1 h2;cases h;simp[ih h2]
   rw[this has,hds.1]
  refine⟨.tuple vs.toArray,?_,.cN as vs.toArray (by simpa using hds.1) (fun i a v ha hv=>hds.2 i a v ha (by simpa using hv)),fun t ht=>by cases ht⟩
  rw[go vs hvs]
  have:¬vs.length=1:=by
   intro e;rw[<-hl1]at e
   match crs,e,hne with
   |[r],_,hne=>exact hne r rfl
  rw[dif_neg this]
end
section
variable{P:Program}
theorem BJ{f:FuncId} {cf:bM} {mo:Bool} (hcf:pZ mo P f=some cf):∃(fn:Func) (c:Code) (cc:aT),P.funcs[f]? =some fn/\fn.body=some c/\fn.results.toList.mapM (Gz P)=some cf.res/\bJ mo P c=some cc/\cf.code=cc/\cf.nt=fn.ntmps/\cc.fits fn.ntmps=true/\cg P f=true:=by
 unfold pZ at hcf
 split at hcf<;>try(cases hcf;done)
 rename_i fn hfn
 split at hcf<;>try(cases hcf;done)
 rename_i c rs hbody hrs
 split at hcf<;>try(cases hcf;done)
 rename_i cc hcc
 split at hcf<;>try(cases hcf;done)
 rename_i hfit;cases hcf;simp only[Bool.and_eq_true]at hfit;exact⟨fn,c,cc,hfn,hbody,hrs,hcc,rfl,rfl,hfit.1,hfit.2⟩
theorem uh{c:Code} {Q:Exit->Act->World->Prop} {a:Act} {w:World} (h:c.wpIn (FW none) 0 P Q a w):c.wpIn Fence.wide 0 P Q a w:=h
theorem gw{nt:Nat} {n0:gb} {w:World} {π:Nat->Nat->Prop} {s:S} {a:Act} {fn:Func} {R:Ending->World->Prop}
  (main:∀w',dI P nt n0 w π s a w'->∃v,(results fn a.tmps).run P w'=.ok v w'/\R (.returned v) w'):
  ∀(Ds:List Nat) (w':World),Ds.Nodup->(∀D∈Ds,n0.n<=D/\w'.heap[D]? =some (.deferred (some [])))->dI P nt n0 w π s a w'->w.heap.size<=n0.n->LeavesInM Fence.wide 0 P fn a.tmps R (Ds.map MT) .returning w'
 |[],w',_,_,R',_=>main w' R'
 |D::Ds,w',hnd,hD,R',hn=>by
  obtain⟨h1,h2⟩:=hD D List.mem_cons_self;simp only[List.nodup_cons]at hnd
  refine⟨by simp,.inl ⟨D,_,rfl,run_takeDeferred h2,?_⟩⟩
  refine gw main Ds _ hnd.2 (fun D' hD'=>?_) ((R'.putObj h2 rfl rfl).SA (R'.below.putObj (Nat.le_trans hn h1) h1 _) R'.eS (fun b o hb=>(jh h2 rfl rfl _).trans (R'.kept b o hb))) hn
  obtain⟨g1,g2⟩:=hD D' (List.mem_cons_of_mem _ hD')
  exact⟨g1,(World.putObj_heap_other (fun e=>hnd.1 (by rw[<-e];exact hD'))).trans g2⟩
theorem ak(hm:P.follows .mixedOrders=true) {f:FuncId} {cf:bM} {mo:Bool} (hcf:pZ mo P f=some cf) {args:List AV} {r:AV} {fr:Option Nat} (hn:args.length<=cf.nt)
  (h:aw (Pure P) cf.code (fin cf.res r fr) (MU args)):DZ P f args r fr:=by
 obtain⟨fn,c,cc,hfn,hbody,hrs,hcc,ec,en,hfit,hcall⟩:=BJ hcf;rw[ec]at h;rw[en]at hn
 refine⟨hcall,fun w π vs hprot hd=>?_⟩
 have hlen:=hd.1
 have R:dI P fn.ntmps (gb.top w) w π (MU args) {tmps:=vs.toArray++Array.replicate (fn.ntmps-vs.toArray.size) undef,defers:=[]} w:=by
  refine⟨Nat.le_refl 4,id,fun _=>undef,π,fun n=>n<4,fun _ h=>h,?_⟩
  refine{size:=?_,slots:=?_,boxes:=fun b x h=>(by cases h),inj:=fun b b' x x' h=>(by cases h),live:=fun q e h=>(by cases h),cq:=fun q q' e e' B h=>(by cases h),cH:=fun q e b x h=>(by cases h),below:=.refl _ _,eS:=Nat.le_refl _,eO:=hprot,eF:=fun _ _ h=>h,dc:=fun _ _ h=>.inl h,mj:=fun _ _=>rfl,jf:=fun _ h=>h,kept:=fun _ _ _=>rfl}
  ·simp;omega
  ·intro t v hv
   obtain⟨av,_,hav,rfl⟩:=BH hv;simp only[Nat.sub_zero]at hav;obtain⟨x,hx,hdx⟩:=hd.get hav
   refine⟨⟨x,?_,(kS (U:=fun n=>n<4) hdx).1⟩,(kS (β:=id) (τ:=fun _=>undef) hdx).2⟩
   have htl:t<vs.length:=(List.getElem?_eq_some_iff.1 hx).1
   simp[Array.getElem?_append,htl]
   simpa using(List.getElem?_eq_some_iff.1 hx).2
 refine callsIn_wide.1 (callsIn_of_wp_marks (n:=0) (F:=Fence.wide) hfn hbody trivial (wpIn_mono (uh (wY hm c cc hcc hfit _ (fun _=>False) ⟨#[],[]⟩ (fun _ h=>h.elim) none 0 w _ _ _ _ ⟨R,fun l h=>by(cases h),⟨[],rfl,.nil,by simp⟩,fun _ h=>h.elim⟩ h)) ?_))
 have main:∀(s:S) (a':Act) (w':World),(an (dO s cf.res) fun p=>p.1=r/\ID fr p.2 s.live)->dI P fn.ntmps (gb.top w) w π s a' w'->
   ∃v,(results fn a'.tmps).run P w'=.ok v w'/\∃u π',Ending.returned v=.returned u/\Below w.heap.size w w'/\(∀b o,π b o->π' b o)/\(∀b o,π' b o->π b o\/w.heap.size<=b)/\
    (∀b o,π' b o->b<w'.heap.size)/\DV w' π' r u/\∀t,fr=some t->E5 P w' π' (fun B=>w.heap.size<=B) t u:=by
  rintro s a' w' hq ⟨_,β,τ,π',U,hU,R'⟩
  obtain⟨⟨av,q⟩,hp,hav,hfr⟩:=ah hq;simp only at hav hfr;subst hav;obtain⟨v,hv,hdv,htq⟩:=qh R' hrs hp
  refine⟨v,hv,v,π',rfl,R'.below.below (fun _ h=>h),R'.eF,fun b o h=>(R'.dc b o h).imp id (fun h=>h.elim id (fun h=>h.elim)),R'.eO,hdv,fun t ht=>?_⟩
  subst ht;simp only[ID]at hfr
  cases q with
  |none=>exact hfr.elim
  |some q=>
   rw[htq q rfl]
   exact(R'.live q t hfr).2.weaken (fun B h=>h.elim id (fun h=>h.elim))
 rintro e a' w' ⟨s,hq,R',_,⟨Ds,hm1,hm2,hm3⟩,_⟩
 have hm1:a'.defers=Ds.map MT:=by simpa using hm1
 cases e with
 |normal=>show LeavesInM _ _ _ _ _ _ a'.defers _ _;rw[hm1];exact gw (main s a' · hq) Ds w' hm2 hm3 R' (Nat.le_refl _)
 |ret=>show LeavesInM _ _ _ _ _ _ a'.defers _ _;rw[hm1];exact gw (main s a' · hq) Ds w' hm2 hm3 R' (Nat.le_refl _)
 |_=>exact hq.elim
theorem oP{w:World} {π:Nat->Nat->Prop}:∀{args:List (Option AV)} {Bs:List Nat} {vs:List Value},fh w π args Bs vs->∀{i k t:Nat} {v:SV},lk t (i9 i k args)=some v->
  ∃x,i<=t/\vs[t-i]? =some x/\((∃a,v=iz a/\DV w π a x)\/∃j B,v=.ptr (k+j) 0/\Bs[j]? =some B/\x=.pointer (some ⟨B,0,none⟩))
 |[],Bs,vs,hr,i,k,t,v,h=>by cases h
 |some a::args,Bs,[],hr,i,k,t,v,h=>by cases Bs<;>exact hr.elim
 |some a::args,Bs,x::vs,hr,i,k,t,v,h=>by
  have hr':DV w π a x/\fh w π args Bs vs:=by cases Bs<;>exact hr
  simp only[i9,lk,mq]at h;split at h
  ·rename_i e;cases h;subst e
   exact⟨x,Nat.le_refl _,by simp,.inl ⟨a,rfl,hr'.1⟩⟩
  ·obtain⟨y,h1,h2,h3⟩:=oP hr'.2 h
   refine⟨y,by omega,?_,h3⟩
   rw[show t-i=(t-(i+1))+1 by omega];simpa using h2
 |none::args,[],vs,hr,i,k,t,v,h=>by cases vs<;>exact hr.elim
 |none::args,B::Bs,[],hr,i,k,t,v,h=>hr.elim
 |none::args,B::Bs,x::vs,hr,i,k,t,v,h=>by
  obtain⟨hx,hr'⟩:=hr;simp only[i9,lk,mq]at h;split at h
  ·rename_i e;cases h;subst e
   exact⟨x,Nat.le_refl _,by simp,.inr ⟨0,B,rfl,rfl,hx⟩⟩
  ·obtain⟨y,h1,h2,h3⟩:=oP hr' h
   refine⟨y,by omega,?_,?_⟩
   ·rw[show t-i=(t-(i+1))+1 by omega];simpa using h2
   ·rcases h3 with h3|⟨j,B',e,hB,hx'⟩
    ·exact .inl h3
    ·exact .inr ⟨j+1,B',by rw[e];congr 1;omega,by simpa using hB,hx'⟩
theorem qi:∀{css:List (List AV)} {k b:Nat} {x:bV},b9 b (iE k css)=some x->∃cs,k<=b/\css[b-k]? =some cs/\x=⟨cs,[]⟩
 |[],k,b,x,h=>by cases h
 |cs::css,k,b,x,h=>by
  simp only[iE,b9,mq]at h;split at h
  ·rename_i e;cases h;subst e;exact⟨cs,Nat.le_refl _,by simp,rfl⟩
  ·obtain⟨cs',h1,h2,h3⟩:=qi h
   refine⟨cs',by omega,?_,h3⟩
   rw[show b-k=(b-(k+1))+1 by omega];simpa using h2
theorem oQ{w:World} {π:Nat->Nat->Prop}:∀{args:List (Option AV)} {Bs:List Nat} {vs:List Value},fh w π args Bs vs->args.length=vs.length
 |[],Bs,vs,h=>by cases Bs<;>cases vs<;>first|rfl|exact h.elim
 |some a::args,Bs,[],h=>by cases Bs<;>exact h.elim
 |some a::args,Bs,v::vs,h=>by
  have h':DV w π a v/\fh w π args Bs vs:=by cases Bs<;>exact h
  simp[oQ h'.2]
 |none::args,[],vs,h=>by cases vs<;>exact h.elim
 |none::args,B::Bs,[],h=>h.elim
 |none::args,B::Bs,v::vs,h=>by simp[oQ h.2]
theorem uj:∀{l:List Nat},l.Nodup->∀(i j:Nat) (x:Nat),l[i]? =some x->l[j]? =some x->i=j
 |[],_,i,j,x,h,_=>by simp at h
 |a::l,hn,i,j,x,hi,hj=>by
  rw[List.nodup_cons]at hn
  cases i with
  |zero=>cases j with
   |zero=>rfl
   |succ j=>simp at hi hj;subst hi;exact absurd (List.mem_of_getElem? hj) hn.1
  |succ i=>cases j with
   |zero=>simp at hi hj;subst hj;exact absurd (List.mem_of_getElem? hi) hn.1
   |succ j=>rw[uj hn.2 i j x (by simpa using hi) (by simpa using hj)]
theorem w8{l:List (Nat×bV)} {w:World} {π:Nat->Nat->Prop} {β:Nat->Nat} (hl:∀b x,b9 b l=some x->p8 (fun _=>undef) w π (β b) ⟨x.cells,[]⟩):
  ∀{css:List (List AV)} {Bs:List Nat} {k:Nat},css.length=Bs.length->(∀j B,Bs[j]? =some B->β (k+j)=B)->iA l k css->cw w π css Bs
 |[],[],k,_,_,_=>trivial
 |[],B::Bs,k,h,_,_=>by simp at h
 |cs::css,[],k,h,_,_=>by simp at h
 |cs::css,B::Bs,k,h,hb,hh=>by
  obtain⟨x,hx,e⟩:=ah hh.1
  refine⟨?_,w8 hl (by simpa using h) (fun j B' hj=>by rw[show k+1+j=k+(j+1)by omega];exact hb (j+1) B' (by simpa using hj)) hh.2⟩
  have:=hl k x hx
  rw[<-e,<-hb 0 B rfl];exact this
theorem mR{w:World} {π:Nat->Nat->Prop}:∀{css:List (List AV)} {Bs:List Nat},cw w π css Bs->∀B∈Bs,∀o,¬π B o
 |[],[],_,B,hB=>by cases hB
 |[],_::_,h,_,_=>h.elim
 |_::_,[],h,_,_=>h.elim
 |cs::css,B'::Bs,h,B,hB=>by
  rcases List.mem_cons.1 hB with rfl|hB
  ·obtain⟨_,_,_,_,_,_,hn⟩:=h.1;exact hn
  ·exact mR h.2 B hB
theorem Rel.MV{P:Program} {w w':World} {π:Nat->Nat->Prop} {Bs:List Nat} {css css':List (List AV)} {nt:Nat} {s:S} {a:Act} {β:Nat->Nat} {τ:Nat->Value} {π':Nat->Nat->Prop} {U:Nat->Prop}
  (R:Rel P nt (gb.js w Bs) w π U s a w' β τ π') (hbl:css.length=Bs.length) (h4:css.length<=4) (hl:css'.length=css.length) (hho:iA s.boxes 0 css'):cw w' π' css' Bs:=by
 refine w8 (β:=β) (fun b x hb=>(R.boxes b x hb).2.2.1.sB) (by omega) (fun j B hj=>?_) hho
 have:j<Bs.length:=(List.getElem?_eq_some_iff.1 hj).1
 rw[Nat.zero_add,R.mj j (by omega)]
 simp[gb.js,hj]
theorem yQ{l:List (Nat×bV)}:∀{css:List (List AV)} {k j:Nat},iA l k css->j<css.length->∃x,b9 (k+j) l=some x
 |[],k,j,_,hj=>by simp at hj
 |cs::css,k,j,h,hj=>by
  cases j with
  |zero=>obtain⟨x,hx,_⟩:=ah h.1;exact⟨x,hx⟩
  |succ j=>
   obtain⟨x,hx⟩:=yQ h.2 (by simpa using hj)
   exact⟨x,by rw[show k+(j+1)=k+1+j by omega];exact hx⟩
theorem Rel.BK{P:Program} {w w':World} {π:Nat->Nat->Prop} {Bs:List Nat} {css css':List (List AV)} {nt:Nat} {s:S} {a:Act} {β:Nat->Nat} {τ:Nat->Value} {π':Nat->Nat->Prop} {U:Nat->Prop}
  (R:Rel P nt (gb.js w Bs) w π U s a w' β τ π') (hbl:css.length=Bs.length) (h4:css.length<=4) (hl:css'.length=css.length) (hho:iA s.boxes 0 css') {q e:Nat} (hq:d7 q s.live=some e):E5 P w' π' (fun B=>w.heap.size<=B) e (τ q):=by
 have ht:=(R.live q e hq).2
 rcases ht with h|⟨B,len,cap,cur,i,hv,hok,hrest⟩
 ·exact .inl h
 ·refine .inr ⟨B,len,cap,cur,i,hv,?_,hrest⟩
  rcases hok with h|h
  ·exact h
  ·exfalso
   obtain⟨j,hj⟩:=List.mem_iff_getElem?.1 (show B∈Bs from h)
   have hjl:j<Bs.length:=(List.getElem?_eq_some_iff.1 hj).1
   obtain⟨x,hx⟩:=yQ hho (j:=j) (by omega)
   rw[Nat.zero_add]at hx;refine R.cH q e j x hq hx ?_
   rw[hv,R.mj j (by omega)]
   simp[gb.js,iH,hj]
theorem w9 (hm:P.follows .mixedOrders=true) {f:FuncId} {cf:bM} {mo:Bool} (hcf:pZ mo P f=some cf) {css css':List (List AV)} {args:List (Option AV)} {r:AV} {fr:Option Nat} (hn:args.length≤cf.nt) (hl:css'.length=css.length) (h4:css.length≤4)
    (h:aw (Pure P) cf.code (I1 cf.res r fr css') (wZ css args)):wJ P f css args r fr css':=by
  obtain ⟨fn,c,cc,hfn,hbody,hrs,hcc,ec,en,hfit,hcall⟩:=BJ hcf
  rw [ec] at h
  rw [en] at hn
  refine ⟨hcall,hl,h4,fun w π Bs vs hprot hnd hbx hd=>?_⟩
  have hlen:=oQ hd
  obtain ⟨hbl,hbget⟩:=hbx.get
  have hβ:∀ (j B:Nat),Bs[j]? = some B→(gb.js w Bs).β j=B:=fun j B hj=>by simp [gb.js,hj]
  have R:dI P fn.ntmps (gb.js w Bs) w π (wZ css args) { tmps:=vs.toArray++Array.replicate (fn.ntmps - vs.toArray.size) undef,defers:=[] } w:=by
    refine ⟨Nat.le_refl 4,(gb.js w Bs).β,fun _=>undef,π,fun n=>n < 4,fun _ h=>h,?_⟩
    have hbox:∀ b x,b9 b (wZ css args).boxes=some x→∃ B cs,b < 4∧Bs[b]? = some B∧(gb.js w Bs).β b=B∧x=⟨cs,[]⟩∧p8 (fun _=>undef) w π B ⟨cs,[]⟩:=by
      intro b x hb
      obtain ⟨cs,_,h2,h3⟩:=qi hb
      simp only [Nat.sub_zero] at h2
      have hlt:b < css.length:=(List.getElem?_eq_some_iff.1 h2).1
      have hB:Bs[b]? = some Bs[b]:=List.getElem?_eq_getElem (by omega)
      exact ⟨_,cs,by omega,hB,hβ _ _ hB,h3,hbget b cs _ h2 hB⟩
    refine { size:=?_,slots:=?_,boxes:=?_,inj:=?_,live:=fun q e h=>(by cases h),cq:=fun q q' e e' B h=>(by cases h),cH:=fun q e b x h=>(by cases h),below:=.refl _ _,eS:=Nat.le_refl _,eO:=hprot,eF:=fun _ _ h=>h,dc:=fun _ _ h=>.inl h,mj:=fun _ _=>rfl,jf:=fun _ h=>h,kept:=fun _ _ _=>rfl }
    · simp; omega
    · intro t v hv
      obtain ⟨x,_,hx,hor⟩:=oP hd hv
      simp only [Nat.sub_zero] at hx
      have htl:t < vs.length:=(List.getElem?_eq_some_iff.1 hx).1
      have hget:(vs.toArray++Array.replicate (fn.ntmps - vs.toArray.size) undef)[t]? = some x:=by
        simp [Array.getElem?_append,htl]
        simpa using (List.getElem?_eq_some_iff.1 hx).2
      rcases hor with ⟨a,rfl,hda⟩|⟨j,B,rfl,hB,rfl⟩
      · exact ⟨⟨x,hget,(kS (U:=fun n=>n < 4) hda).1⟩,(kS (β:=id) (τ:=fun _=>undef) hda).2⟩
      · refine ⟨⟨_,hget,?_⟩,?_⟩
        · show Value.pointer (some ⟨B,0,none⟩)=.pointer (some ⟨(gb.js w Bs).β (0 + j),0,none⟩)
          rw [Nat.zero_add,hβ j B hB]
        · have:j < Bs.length:=(List.getElem?_eq_some_iff.1 hB).1
          show 0 + j < 4
          omega
    · intro b x hb
      obtain ⟨B,cs,h1,h2,h3,rfl,h5⟩:=hbox b x hb
      exact ⟨h1,.inr ⟨h1,by rw [h3]; exact List.mem_of_getElem? h2⟩,by rw [h3]; exact h5,fun o q hq=>by cases hq⟩
    · intro b b' x x' hb hb' e
      obtain ⟨B,_,_,h2,h3,_,_⟩:=hbox b x hb
      obtain ⟨B',_,_,h2',h3',_,_⟩:=hbox b' x' hb'
      rw [h3,h3'] at e
      subst e
      exact uj hnd b b' B h2 h2'
  refine callsIn_wide.1 (callsIn_of_wp_marks (n:=0) (F:=Fence.wide) hfn hbody trivial (wpIn_mono (uh (wY hm c cc hcc hfit _ (fun _=>False) ⟨#[],[]⟩ (fun _ h=>h.elim) none 0 w _ _ _ _ ⟨R,fun l h=>by (cases h),⟨[],rfl,.nil,by simp⟩,fun _ h=>h.elim⟩ h)) ?_))
  have main:∀ (s:S) (a':Act) (w':World),(an (dO s cf.res) fun p=>p.1=r∧ID fr p.2 s.live∧iA s.boxes 0 css')→dI P fn.ntmps (gb.js w Bs) w π s a' w' →
      ∃ v,(results fn a'.tmps).run P w'=.ok v w'∧∃ u π',Ending.returned v=.returned u∧uS (gb.js w Bs) w w'∧(∀ b o,π b o→π' b o)∧(∀ b o,π' b o→π b o∨w.heap.size≤b) ∧
        (∀ b o,π' b o→b < w'.heap.size)∧cw w' π' css' Bs∧DV w' π' r u∧∀ t,fr=some t→E5 P w' π' (fun B=>w.heap.size≤B) t u:=by
    rintro s a' w' hq ⟨_,β,τ,π',U,hU,R'⟩
    obtain ⟨⟨av,q⟩,hp,hav,hfr,hho⟩:=ah hq
    simp only at hav hfr hho
    subst hav
    obtain ⟨v,hv,hdv,htq⟩:=qh R' hrs hp
    have hB:=R'.MV hbl h4 hl hho
    refine ⟨v,hv,v,π',rfl,R'.below,R'.eF,fun b o h=>(R'.dc b o h).imp id (fun k=>k.elim id (fun k=>absurd h (mR hB b k o))),R'.eO,?_,hdv,fun t ht=>?_⟩
    · refine w8 (β:=β) (fun b x hb=>(R'.boxes b x hb).2.2.1.sB) (by omega) (fun j B hj=>?_) hho
      have:j < Bs.length:=(List.getElem?_eq_some_iff.1 hj).1
      rw [Nat.zero_add,R'.mj j (by omega)]
      exact hβ j B hj
    · subst ht
      simp only [ID] at hfr
      cases q with
      | none=>exact hfr.elim
      | some q =>
        rw [htq q rfl]
        exact R'.BK hbl h4 hl hho hfr
  rintro e a' w' ⟨s,hq,R',_,⟨Ds,hm1,hm2,hm3⟩,_⟩
  have hm1:a'.defers=Ds.map MT:=by simpa using hm1
  cases e with
  | normal=>show LeavesInM _ _ _ _ _ _ a'.defers _ _; rw [hm1]; exact gw (main s a' · hq) Ds w' hm2 hm3 R' (Nat.le_refl _)
  | ret=>show LeavesInM _ _ _ _ _ _ a'.defers _ _; rw [hm1]; exact gw (main s a' · hq) Ds w' hm2 hm3 R' (Nat.le_refl _)
  | _=>exact hq.elim
end
class Kn (α:Type) where
 run:α->Prop
class Kn2 where
 run:SV->List (Nat×Nat)->Prop
def wv{α:Type} (o:Option α) [k:Kn α]:Prop:=an o k.run
theorem dP{α:Type} (o:Option α) (k:α->Prop):an o k=@wv α o ⟨k⟩:=rfl
theorem Tj{α:Type} (a:α) (k:α->Prop):@wv α (some a) ⟨k⟩=k a:=rfl
theorem Tk{α:Type} (k:α->Prop):@wv α none ⟨k⟩=False:=rfl
theorem W6{α:Type} {o:Option α} {k:α->Prop} (a:α) (h:o=some a) (hk:k a):@wv α o ⟨k⟩:=by subst h;exact hk
def zJ(C:aS) (f:Nat) (as:List AV) (id:Nat) (lv:List (Nat×Nat)) (k:SV->List (Nat×Nat)->Prop):Prop:=
 ∃r fr,C.c f as r fr/\k (.dat r (fr.map fun _=>id)) (match fr with|some e=>(id,e)::lv|none=>lv)
def cl(C:aS) (f:Nat) (as:List AV) (id:Nat) (lv:List (Nat×Nat)) [k:Kn2]:Prop:=zJ C f as id lv k.run
theorem kT(C:aS) (f:Nat) (as:List AV) (id:Nat) (lv:List (Nat×Nat)) (k:SV->List (Nat×Nat)->Prop):zJ C f as id lv k=@cl C f as id lv ⟨k⟩:=rfl
@[congr] theorem aag {C:aS} (f:Nat) {as as':List AV} (id:Nat) (lv:List (Nat×Nat)) (k:SV->List (Nat×Nat)->Prop) (h:as=as'):zJ C f as id lv k=zJ C f as' id lv k:=by rw[h]
theorem af{C:aS} {f:Nat} {as:List AV} {id:Nat} {lv:List (Nat×Nat)} {k:SV->List (Nat×Nat)->Prop} {r:AV} (h:C.c f as r none) (hk:k (.dat r none) lv):@cl C f as id lv ⟨k⟩:=⟨r,none,h,hk⟩
theorem MW{C:aS} {f:Nat} {as:List AV} {id:Nat} {lv:List (Nat×Nat)} {k:SV->List (Nat×Nat)->Prop} {r:AV} {e:Nat} (h:C.c f as r (some e)) (hk:k (.dat r (some id)) ((id,e)::lv)):@cl C f as id lv ⟨k⟩:=⟨r,some e,h,hk⟩
class Kn3 where
 run:SV->List (Nat×bV)->List (Nat×Nat)->Prop
def BL(C:aS) (f:Nat) (css:List (List AV)) (as:List (Option AV)) (ids:List Nat) (id:Nat) (bx:List (Nat×bV)) (lv:List (Nat×Nat)) (k:SV->List (Nat×bV)->List (Nat×Nat)->Prop):Prop:=
 ∃r fr css',C.p f css as r fr css'/\k (.dat r (fr.map fun _=>id)) (d8 ids css' bx) (match fr with|some e=>(id,e)::lv|none=>lv)
def clp(C:aS) (f:Nat) (css:List (List AV)) (as:List (Option AV)) (ids:List Nat) (id:Nat) (bx:List (Nat×bV)) (lv:List (Nat×Nat)) [k:Kn3]:Prop:=BL C f css as ids id bx lv k.run
theorem W7(C:aS) (f:Nat) (css:List (List AV)) (as:List (Option AV)) (ids:List Nat) (id:Nat) (bx:List (Nat×bV)) (lv:List (Nat×Nat)) (k:SV->List (Nat×bV)->List (Nat×Nat)->Prop):BL C f css as ids id bx lv k=@clp C f css as ids id bx lv ⟨k⟩:=rfl
theorem aU{C:aS} {f:Nat} {css:List (List AV)} {as:List (Option AV)} {ids:List Nat} {id:Nat} {bx:List (Nat×bV)} {lv:List (Nat×Nat)} {k:SV->List (Nat×bV)->List (Nat×Nat)->Prop} {r:AV} {css':List (List AV)} (h:C.p f css as r none css') (hk:k (.dat r none) (d8 ids css' bx) lv):@clp C f css as ids id bx lv ⟨k⟩:=⟨r,none,css',h,hk⟩
class Kn4 where
 run:SV->Prop
def Fg(C:aS) (f:Nat) (css:List (List AV)) (as:List (Option AV)) (k:SV->Prop):Prop:=∃r,C.p f css as r none css/\k (.dat r none)
def clr(C:aS) (f:Nat) (css:List (List AV)) (as:List (Option AV)) [k:Kn4]:Prop:=Fg C f css as k.run
theorem W8(C:aS) (f:Nat) (css:List (List AV)) (as:List (Option AV)) (k:SV->Prop):Fg C f css as k=@clr C f css as ⟨k⟩:=rfl
theorem cm{C:aS} {f:Nat} {css:List (List AV)} {as:List (Option AV)} {k:SV->Prop} {r:AV} (h:C.p f css as r none css) (hk:k (.dat r none)):@clr C f css as ⟨k⟩:=⟨r,h,hk⟩
def J8(x:Option bV) (y:Option (List (List AV))):Option (List (List AV)):=
 match x,y with
 |some ⟨cs,[]⟩,some css=>some (cs::css)
 |_,_=>none
theorem Tl(ro:List Nat) (i:Nat):nB ro i []=[]:=rfl
theorem W9(ro:List Nat) (i:Nat) (o:CO) (r:List CO):nB ro i (o::r)=(bif ro.contains i then o.ro else o)::nB ro (i+1) r:=rfl
theorem aaI(d:Option Nat) (o:bW) (g:Option (Nat×Bool)):CO.ro ⟨d,o,g⟩=⟨d,o.ro,g⟩:=rfl
theorem Xa(f:Nat) (as:List bB):bW.ro (.bI f as)=.Ba f as:=rfl
theorem Xb(g:bB) (as:List bB):bW.ro (.fQ g as)=.rX g as:=rfl
section
variable{C:aS} {Q:Exit->S->Prop} {K:SV->S->Prop} {J:S->Prop}
variable(sl:List (Nat×SV)) (bx:List (Nat×bV)) (lv:List (Nat×Nat)) (nx:Nat)
theorem GS(n m:Nat) (v:SV) (r:List (Nat×SV)):lk n ((m,v)::r)=bif n==m then some v else lk n r:=rfl
theorem zK(n m:Nat) (v:bV) (r:List (Nat×bV)):b9 n ((m,v)::r)=bif n==m then some v else b9 n r:=rfl
theorem xb(n m:Nat) (v:Nat) (r:List (Nat×Nat)):d7 n ((m,v)::r)=bif n==m then some v else d7 n r:=rfl
theorem sH(n:Nat):d7 n []=none:=rfl
theorem Tn(n m:Nat) (b v:bV) (r:List (Nat×bV)):rQ n b ((m,v)::r)=bif n==m then(m,b)::r else(m,v)::rQ n b r:=rfl
theorem To(n m:Nat) (v:Nat) (r:List (Nat×Nat)):jr n ((m,v)::r)=bif n==m then jr n r else(m,v)::jr n r:=rfl
theorem PS(n:Nat):jr n []=[]:=rfl
theorem Xc(d:Nat) (v:SV):S.put ⟨sl,bx,lv,nx⟩ (some d) v=⟨(d,v)::sl,bx,lv,nx⟩:=rfl
theorem Tp(v:SV):S.put ⟨sl,bx,lv,nx⟩ none v=⟨sl,bx,lv,nx⟩:=rfl
theorem Tq(n:Nat):dh ⟨sl,bx,lv,nx⟩ (.t n)=lk n sl:=rfl
theorem Tt(v:AV):dh ⟨sl,bx,lv,nx⟩ (.k v)=some (.dat v none):=rfl
def Lh:Option SV->Option AV
 |some (.dat a _)=>some a
 |some (.rp cs)=>some (.ref cs)
 |_=>none
theorem PT(cs:List AV):Lh (some (.rp cs))=some (.ref cs):=rfl
theorem Tu(a:AV) (q:Option Nat):Lh (some (.dat a q))=some a:=rfl
theorem PU(n:Nat):aF ⟨sl,bx,lv,nx⟩ (.t n)=Lh (lk n sl):=rfl
theorem PV(v:AV):aF ⟨sl,bx,lv,nx⟩ (.k v)=some v:=rfl
def SB:Option AV->Option (List AV)->Option (List AV)
 |some a,some as=>some (a::as)
 |_,_=>none
theorem PW(a:AV) (as:List AV):SB (some a) (some as)=some (a::as):=rfl
theorem PX(x:bB) (r:List bB):dQ ⟨sl,bx,lv,nx⟩ (x::r)=SB (aF ⟨sl,bx,lv,nx⟩ x) (dQ ⟨sl,bx,lv,nx⟩ r):=rfl
theorem MX:dQ ⟨sl,bx,lv,nx⟩ []=some []:=rfl
theorem PY(b i:Nat):jw C b i [] J ⟨sl,bx,lv,nx⟩=J ⟨sl,bx,lv,nx⟩:=rfl
theorem Tv(b i:Nat) (d:Option Nat) (o:bW) (r:List CO):jw C b i (⟨d,o,none⟩::r) J ⟨sl,bx,lv,nx⟩=bN C (b+i) o (fun v s'=>jw C b (i+1) r J (s'.put d v)) ⟨sl,bx,lv,nx⟩:=rfl
def lF(want:Bool) (yes no:Prop):Option SV->Prop
 |some (.dat (.bool b) _)=>(b=want->yes)/\(b=!want->no)
 |some .undef=>no
 |_=>False
theorem PZ(b i t:Nat) (w:Bool) (d:Option Nat) (o:bW) (r:List CO):jw C b i (⟨d,o,some (t,w)⟩::r) J ⟨sl,bx,lv,nx⟩=
  lF w (bN C (b+i) o (fun v s'=>jw C b (i+1) r J (s'.put d v)) ⟨sl,bx,lv,nx⟩) (jw C b (i+1) r J (S.put ⟨sl,bx,lv,nx⟩ d .undef)) (lk t sl):=by
 simp only[jw,eN,lF]
 cases lk t sl with
 |none=>rfl
 |some v=>cases v with
  |dat a q=>cases a<;>rfl
  |ptr=>rfl
  |rp=>rfl
  |undef=>rfl
  |vs=>rfl
  |oF=>rfl
  |raw=>rfl
class KP where
 yes:Prop
 no:Prop
def gd(w:Bool) (v:Option SV) [k:KP]:Prop:=lF w k.yes k.no v
theorem oq(w:Bool) (yes no:Prop) (v:Option SV):lF w yes no v=@gd w v ⟨yes,no⟩:=rfl
theorem MY(w:Bool) (yes no:Prop):@gd w (some .undef) ⟨yes,no⟩=no:=rfl
theorem MZ(yes no:Prop) (q:Option Nat):@gd true (some (.dat (.bool true) q)) ⟨yes,no⟩=yes:=by simp[gd,lF]
theorem Li(yes no:Prop) (q:Option Nat):@gd true (some (.dat (.bool false) q)) ⟨yes,no⟩=no:=by simp[gd,lF]
theorem M0(yes no:Prop) (q:Option Nat):@gd false (some (.dat (.bool false) q)) ⟨yes,no⟩=yes:=by simp[gd,lF]
theorem Lj(yes no:Prop) (q:Option Nat):@gd false (some (.dat (.bool true) q)) ⟨yes,no⟩=no:=by simp[gd,lF]
theorem aaJ(id:Nat) (x:bB):bN C id (.mv x) K ⟨sl,bx,lv,nx⟩=an (dh ⟨sl,bx,lv,nx⟩ x) fun v=>K v ⟨sl,bx,lv,nx⟩:=rfl
def BM(a b:Option SV) (k:SV->Prop):AV->Prop
 | .bool t=>an a fun u=>an b fun v=>(t=true->k u)/\(t=false->k v)
 |_=>False
theorem Tw(id:Nat) (c a b:bB):bN C id (.pick c a b) K ⟨sl,bx,lv,nx⟩=an (aF ⟨sl,bx,lv,nx⟩ c) (BM (dh ⟨sl,bx,lv,nx⟩ a) (dh ⟨sl,bx,lv,nx⟩ b) fun v=>K v ⟨sl,bx,lv,nx⟩):=rfl
def pk(a b:Option SV) (c:AV) [k:Kn SV]:Prop:=BM a b k.run c
theorem xd(a b:Option SV) (k:SV->Prop) (c:AV):BM a b k c=@pk a b c ⟨k⟩:=rfl
theorem P0(k:SV->Prop) (b:Option SV) (v:SV):@pk (some v) b (.bool true) ⟨k⟩=an b fun _=>k v:=by simp[pk,BM]
theorem P1(k:SV->Prop) (a:Option SV) (v:SV):@pk a (some v) (.bool false) ⟨k⟩=an a fun _=>k v:=by
 cases a<;>simp[pk,BM]
theorem P2(id:Nat) (cs:List AV):bN C id (.alloc cs) K ⟨sl,bx,lv,nx⟩=K (.ptr id 0) ⟨sl,(id,⟨cs,[]⟩)::bx,lv,nx⟩:=rfl
theorem Xd(id:Nat) (x:bB):bN C id (.box x) K ⟨sl,bx,lv,nx⟩=an (aF ⟨sl,bx,lv,nx⟩ x) fun a=>ig a none=true/\K (.ptr id 0) ⟨sl,(id,⟨a.cells,[]⟩)::bx,lv,nx⟩:=rfl
def Ws(sz:Option Nat) (bx:List (Nat×bV)) (k:SV->Prop):SV->Prop
 | .ptr b off=>an (b9 b bx) fun x=>an (ay x.cells off sz) fun a=>k (.dat a (match sz with|none=>d7 off x.tags|some _=>none))
 | .rp cs=>an (ay cs 0 sz) fun a=>k (.dat a none)
 |_=>False
theorem aaK(id:Nat) (x:bB) (sz:Option Nat):bN C id (.ld x sz) K ⟨sl,bx,lv,nx⟩=an (dh ⟨sl,bx,lv,nx⟩ x) (Ws sz bx fun v=>K v ⟨sl,bx,lv,nx⟩):=rfl
theorem Tx(k:SV->Prop) (b off:Nat):Ws none bx k (.ptr b off)=an (b9 b bx) fun x=>an (ay x.cells off none) fun a=>k (.dat a (d7 off x.tags)):=rfl
theorem Tz(k:SV->Prop) (b off n:Nat):Ws (some n) bx k (.ptr b off)=an (b9 b bx) fun x=>an (ay x.cells off (some n)) fun a=>k (.dat a none):=rfl
theorem Xe(k:SV->Prop) (sz:Option Nat) (cs:List AV):Ws sz bx k (.rp cs)=an (ay cs 0 sz) fun a=>k (.dat a none):=rfl
def qj(off sz:Nat) (q:Option Nat) (tags:List (Nat×Nat)):List (Nat×Nat):=
 match q with
 |some q=>(off,q)::tags.filter (fun p=>p.1<off||off+sz<=p.1)
 |none=>tags.filter (fun p=>p.1<off||off+sz<=p.1)
def Xf(sz off:Nat) (x:bV) (k:bV->Prop):SV->Prop
 | .dat a q=>ig a q=true/\a.cells.length=sz/\off+sz<=x.cells.length/\k ⟨setCells x.cells off a.cells,qj off sz q x.tags⟩
 |_=>False
def stP(sz:Nat) (bx:List (Nat×bV)) (v:Option SV) (k:List (Nat×bV)->Prop):SV->Prop
 | .ptr b off=>an (b9 b bx) fun x=>an v (Xf sz off x fun y=>k (rQ b y bx))
 |_=>False
theorem aaL(id:Nat) (x v:bB) (sz:Nat):bN C id (.st x v sz) K ⟨sl,bx,lv,nx⟩=an (dh ⟨sl,bx,lv,nx⟩ x) (stP sz bx (dh ⟨sl,bx,lv,nx⟩ v) fun b=>K .undef ⟨sl,b,lv,nx⟩):=by
 show an _ _=an _ _
 cases hx:dh ⟨sl,bx,lv,nx⟩ x with
 |none=>rfl
 |some p=>cases p with
  |ptr b off=>
   show an _ _=an _ _
   cases hb:b9 b bx with
   |none=>rfl
   |some y=>
    show an _ _=an _ _
    cases hv:dh ⟨sl,bx,lv,nx⟩ v with
    |none=>rfl
    |some u=>cases u with
     |dat a q=>cases q<;>rfl
     |_=>rfl
  |_=>rfl
theorem Xg(sz b off:Nat) (v:Option SV) (k:List (Nat×bV)->Prop):stP sz bx v k (.ptr b off)=an (b9 b bx) fun x=>an v (Xf sz off x fun y=>k (rQ b y bx)):=rfl
theorem Xh(sz off:Nat) (cs:List AV) (tg:List (Nat×Nat)) (k:bV->Prop) (a:AV) (q:Option Nat):Xf sz off ⟨cs,tg⟩ k (.dat a q)=(ig a q=true/\a.cells.length=sz/\off+sz<=cs.length/\k ⟨setCells cs off a.cells,qj off sz q tg⟩):=rfl
theorem P3(off sz:Nat):qj off sz none []=[]:=rfl
theorem P4(off sz q:Nat):qj off sz (some q) []=[(off,q)]:=rfl
def Xi(off:Nat) (k:SV->Prop):SV->Prop
 | .ptr b o=>k (.ptr b (o+off))
 | .rp cs=>k (.rp (cs.drop off))
 |_=>False
theorem aaM(id:Nat) (x:bB) (off:Nat):bN C id (.fa x off) K ⟨sl,bx,lv,nx⟩=an (dh ⟨sl,bx,lv,nx⟩ x) (Xi off fun v=>K v ⟨sl,bx,lv,nx⟩):=rfl
theorem Xj(k:SV->Prop) (b o off:Nat):Xi off k (.ptr b o)=k (.ptr b (o+off)):=rfl
theorem Xk(k:SV->Prop) (cs:List AV) (off:Nat):Xi off k (.rp cs)=k (.rp (cs.drop off)):=rfl
def Xl(d:Nat) (k:SV->Prop):SV->Prop
 | .ptr b o=>k (.ptr b (o+d))
 | .rp cs=>k (.rp (cs.drop d))
 |_=>False
theorem Xm(id:Nat) (x i:bB) (n z:Nat):bN C id (.Gj x i n z) K ⟨sl,bx,lv,nx⟩=an (dh ⟨sl,bx,lv,nx⟩ x) fun p=>an (aF ⟨sl,bx,lv,nx⟩ i) fun a=>an (idxOf a) fun i=>(0<=i/\i<n)/\Xl (i.toNat*z) (fun v=>K v ⟨sl,bx,lv,nx⟩) p:=rfl
theorem Xn(k:SV->Prop) (b o d:Nat):Xl d k (.ptr b o)=k (.ptr b (o+d)):=rfl
theorem Xo(k:SV->Prop) (cs:List AV) (d:Nat):Xl d k (.rp cs)=k (.rp (cs.drop d)):=rfl
theorem Xp(k:IntKind) (i:Int):idxOf (.int k i)=some i:=rfl
theorem Xq(id:Nat) (x i:bB) (z:Nat):bN C id (.Pm x i z) K ⟨sl,bx,lv,nx⟩=an (aF ⟨sl,bx,lv,nx⟩ x) fun l=>an (aF ⟨sl,bx,lv,nx⟩ i) fun a=>an (idxOf a) fun i=>an (rowsOf l) fun xs=>(0<=i/\i<xs.length)/\an (xs[i.toNat]?) fun row=>row.length=z/\K (.rp row) ⟨sl,bx,lv,nx⟩:=rfl
theorem TA(xs:List (List AV)):rowsOf (.sl xs)=some xs:=rfl
theorem P5:rowsOf .aL=some []:=rfl
def I2(k:List AV->Prop):AV->Prop
 | .agg cs=>k cs
 |_=>False
theorem Xr(k:List AV->Prop) (cs:List AV):I2 k (.agg cs)=k cs:=rfl
theorem Xu(id:Nat) (x:bB) (off:Nat) (sz:Option Nat):bN C id (.EZ x off sz) K ⟨sl,bx,lv,nx⟩=an (aF ⟨sl,bx,lv,nx⟩ x) (I2 fun cs=>an (ay cs off sz) fun a=>K (.dat a none) ⟨sl,bx,lv,nx⟩):=rfl
theorem Xv(id:Nat) (x i:bB) (n z:Nat) (sz:Option Nat):bN C id (.DU x i n z sz) K ⟨sl,bx,lv,nx⟩=an (aF ⟨sl,bx,lv,nx⟩ x) (I2 fun cs=>an (aF ⟨sl,bx,lv,nx⟩ i) fun a=>an (idxOf a) fun i=>(0<=i/\i<n)/\an (ay cs (i.toNat*z) sz) fun a=>K (.dat a none) ⟨sl,bx,lv,nx⟩):=rfl
theorem Xw(id:Nat) (op:BinOp) (x y:bB):bN C id (.bin op x y) K ⟨sl,bx,lv,nx⟩=an (aF ⟨sl,bx,lv,nx⟩ x) fun a=>an (aF ⟨sl,bx,lv,nx⟩ y) fun b=>an (dZ op a b) fun v=>K (.dat v none) ⟨sl,bx,lv,nx⟩:=rfl
theorem Xx(id:Nat) (ks:List CK) (neg:Bool) (x y:bB):bN C id (.eqc ks neg x y) K ⟨sl,bx,lv,nx⟩=an (aF ⟨sl,bx,lv,nx⟩ x) (I2 fun as=>an (aF ⟨sl,bx,lv,nx⟩ y) (I2 fun bs=>an (bZ ks as bs) fun e=>K (.dat (.bool (e !=neg)) none) ⟨sl,bx,lv,nx⟩)):=rfl
theorem aaN(id:Nat) (neg:Bool) (x y:bB):bN C id (.bb neg x y) K ⟨sl,bx,lv,nx⟩=an (aF ⟨sl,bx,lv,nx⟩ x) fun a=>an (aF ⟨sl,bx,lv,nx⟩ y) fun b=>an (Wq neg a b) fun v=>K (.dat v none) ⟨sl,bx,lv,nx⟩:=rfl
theorem aaO(id:Nat) (op:UnOp) (x:bB):bN C id (.un op x) K ⟨sl,bx,lv,nx⟩=an (aF ⟨sl,bx,lv,nx⟩ x) fun a=>an (S0 op a) fun v=>K (.dat v none) ⟨sl,bx,lv,nx⟩:=rfl
theorem TC(id:Nat) (k:IntKind) (x:bB):bN C id (.oG k x) K ⟨sl,bx,lv,nx⟩=an (aF ⟨sl,bx,lv,nx⟩ x) fun a=>an (DW k a) fun v=>K (.dat v none) ⟨sl,bx,lv,nx⟩:=rfl
theorem TD(id:Nat) (k:FloatKind) (x:bB):bN C id (.DH k x) K ⟨sl,bx,lv,nx⟩=an (aF ⟨sl,bx,lv,nx⟩ x) fun a=>an (DX k a) fun v=>K (.dat v none) ⟨sl,bx,lv,nx⟩:=rfl
theorem TE(id:Nat) (k:IntKind) (x:bB):bN C id (.Gt k x) K ⟨sl,bx,lv,nx⟩=an (aF ⟨sl,bx,lv,nx⟩ x) fun a=>an (zo k a) fun v=>K (.dat v none) ⟨sl,bx,lv,nx⟩:=rfl
theorem TF(id:Nat) (x:bB):bN C id (.KV x) K ⟨sl,bx,lv,nx⟩=an (aF ⟨sl,bx,lv,nx⟩ x) fun a=>an (Ay a) fun v=>K (.dat v none) ⟨sl,bx,lv,nx⟩:=rfl
theorem aaP(id:Nat) (e:Xt) (x:bB):bN C id (.xt e x) K ⟨sl,bx,lv,nx⟩=an (aF ⟨sl,bx,lv,nx⟩ x) fun a=>an (Wr e a) fun v=>K (.dat v none) ⟨sl,bx,lv,nx⟩:=rfl
theorem aaQ(b:Nat):Wr .Gs (.float .f64 b)=some (.int .u64 b):=rfl
theorem aaR(n:Int):Wr .ffrom (.int .u64 n)=some (.float .f64 n.toNat):=rfl
theorem aaS(b:Nat):Wr .rte (.float .f64 b)=E1 b:=rfl
def TH(n z:Nat) (s:S) (k:SV->S->Prop):SV->Prop
 | .rp cs=>n*z<=cs.length/\k (.dat (.sl (dB z n cs)) none) s
 | .ptr b off=>4<=b/\an (b9 b s.boxes) fun bx=>n*z<=(bx.cells.drop off).length/\k (.dat (.sl (dB z n (bx.cells.drop off))) none) (gS [b] [bx.cells] s)
 |_=>False
theorem Xy(id:Nat) (x:bB) (n z:Nat):bN C id (.Sq x n z) K ⟨sl,bx,lv,nx⟩=an (dh ⟨sl,bx,lv,nx⟩ x) (TH n z ⟨sl,bx,lv,nx⟩ K):=by
 show an _ _=an _ _
 cases dh ⟨sl,bx,lv,nx⟩ x with
 |none=>rfl
 |some v=>cases v<;>rfl
theorem TI(n z:Nat) (s:S) (k:SV->S->Prop) (cs:List AV):TH n z s k (.rp cs)=(n*z<=cs.length/\k (.dat (.sl (dB z n cs)) none) s):=rfl
theorem TJ(n z:Nat) (k:SV->S->Prop) (b off:Nat):TH n z ⟨sl,bx,lv,nx⟩ k (.ptr b off)=(4<=b/\an (b9 b bx) fun y=>n*z<=(y.cells.drop off).length/\k (.dat (.sl (dB z n (y.cells.drop off))) none) (gS [b] [y.cells] ⟨sl,bx,lv,nx⟩)):=rfl
def Xz(s:S) (i:bB) (k:AV->Prop):AV->Prop
 | .str b=>an (aF s i) fun a=>an (idxOf a) fun j=>an (JL b j) k
 |_=>False
theorem XA(id:Nat) (x i:bB):bN C id (.WS x i) K ⟨sl,bx,lv,nx⟩=an (aF ⟨sl,bx,lv,nx⟩ x) (Xz ⟨sl,bx,lv,nx⟩ i fun v=>K (.dat v none) ⟨sl,bx,lv,nx⟩):=by
 show an _ _=an _ _
 cases aF ⟨sl,bx,lv,nx⟩ x with
 |none=>rfl
 |some v=>cases v<;>rfl
theorem TK(s:S) (i:bB) (k:AV->Prop) (b:ByteArray):Xz s i k (.str b)=an (aF s i) fun a=>an (idxOf a) fun j=>an (JL b j) k:=rfl
theorem TL(id n:Nat):bN C id (.Ms n) K ⟨sl,bx,lv,nx⟩=K (.dat (.int .i64 n) none) ⟨sl,bx,lv,nx⟩:=rfl
theorem TM(id f:Nat) (args:List bB):bN C id (.call f args) K ⟨sl,bx,lv,nx⟩=an (dQ ⟨sl,bx,lv,nx⟩ args) fun as=>zJ C f as id lv fun v l=>K v ⟨sl,bx,l,nx⟩:=rfl
def Fh(C:aS) (id:Nat) (lv:List (Nat×Nat)) (as:List AV) (k:SV->List (Nat×Nat)->Prop):AV->Prop
 | .fn (.func f) first caps=>zJ C f (first++as++caps) id lv k
 |_=>False
@[congr] theorem XB (id:Nat) (lv:List (Nat×Nat)) (as:List AV) (k:SV->List (Nat×Nat)->Prop) {v v':AV} (h:v=v'):Fh C id lv as k v=Fh C id lv as k v':=by rw[h]
def GU:Option SV->Option (List (Option AV)×List Nat)->Option (List (Option AV)×List Nat)
 |some (.dat a _),some p=>some (some a::p.1,p.2)
 |some (.rp cs),some p=>some (some (.ref cs)::p.1,p.2)
 |some (.ptr b 0),some p=>some (none::p.1,b::p.2)
 |_,_=>none
theorem M1(a:AV) (q:Option Nat) (p:List (Option AV)×List Nat):GU (some (.dat a q)) (some p)=some (some a::p.1,p.2):=rfl
theorem M3(cs:List AV) (p:List (Option AV)×List Nat):GU (some (.rp cs)) (some p)=some (some (.ref cs)::p.1,p.2):=rfl
theorem M4(b:Nat) (p:List (Option AV)×List Nat):GU (some (.ptr b 0)) (some p)=some (none::p.1,b::p.2):=rfl
theorem TN:ef ⟨sl,bx,lv,nx⟩ []=some ([],[]):=rfl
theorem XC(x:bB) (r:List bB):ef ⟨sl,bx,lv,nx⟩ (x::r)=GU (dh ⟨sl,bx,lv,nx⟩ x) (ef ⟨sl,bx,lv,nx⟩ r):=by
 show(match dh ⟨sl,bx,lv,nx⟩ x,ef ⟨sl,bx,lv,nx⟩ r with
  |some (.dat a _),some (as,bs)=>some (some a::as,bs)
  |some (.rp cs),some (as,bs)=>some (some (.ref cs)::as,bs)
  |some (.ptr b 0),some (as,bs)=>some (none::as,b::bs)
  |_,_=>none)=_
 unfold GU
 cases dh ⟨sl,bx,lv,nx⟩ x with
 |none=>rfl
 |some v=>
  cases ef ⟨sl,bx,lv,nx⟩ r with
  |none=>cases v with
   |ptr b o=>cases o<;>rfl
   |_=>rfl
  |some p=>cases v with
   |ptr b o=>cases o<;>rfl
   |_=>rfl
theorem M5:bq bx []=some []:=rfl
def SC:Option bV->Option (List (List AV))->Option (List (List AV))
 |some x,some css=>some (x.cells::css)
 |_,_=>none
theorem P6(x:bV) (css:List (List AV)):SC (some x) (some css)=some (x.cells::css):=rfl
theorem P7(b:Nat) (bs:List Nat):bq bx (b::bs)=SC (b9 b bx) (bq bx bs):=rfl
theorem M6:er []=true:=rfl
theorem P8(b:Nat) (bs:List Nat):er (b::bs)=(!bs.contains b&&er bs):=rfl
theorem P9(b:Nat) (bs:List Nat) (cs:List AV) (css:List (List AV)):d8 (b::bs) (cs::css) bx=d8 bs css (rQ b ⟨cs,[]⟩ bx):=rfl
theorem Lk:eI bx []=some []:=rfl
theorem M7(b:Nat) (bs:List Nat):eI bx (b::bs)=J8 (b9 b bx) (eI bx bs):=rfl
theorem Ll(cs:List AV) (css:List (List AV)):J8 (some ⟨cs,[]⟩) (some css)=some (cs::css):=rfl
theorem M8(css:List (List AV)):d8 [] css bx=bx:=rfl
def Fi(C:aS) (f id:Nat) (bx:List (Nat×bV)) (lv:List (Nat×Nat)) (k:SV->List (Nat×bV)->List (Nat×Nat)->Prop) (p:List (Option AV)×List Nat):Prop:=
 er p.2=true/\an (bq bx p.2) fun css=>BL C f css p.1 p.2 id bx lv k
theorem M9(f id:Nat) (as:List (Option AV)) (ids:List Nat) (k:SV->List (Nat×bV)->List (Nat×Nat)->Prop):Fi C f id bx lv k (as,ids)=(er ids=true/\an (bq bx ids) fun css=>BL C f css as ids id bx lv k):=rfl
theorem Qa(id f:Nat) (args:List bB):bN C id (.bI f args) K ⟨sl,bx,lv,nx⟩=an (ef ⟨sl,bx,lv,nx⟩ args) (Fi C f id bx lv fun v b l=>K v ⟨sl,b,l,nx⟩):=rfl
theorem Qb(id:Nat) (g:bB) (args:List bB):bN C id (.eP g args) K ⟨sl,bx,lv,nx⟩=an (aF ⟨sl,bx,lv,nx⟩ g) fun a=>an (dQ ⟨sl,bx,lv,nx⟩ args) fun as=>Fh C id lv as (fun v l=>K v ⟨sl,bx,l,nx⟩) a:=by
 show an _ _=an _ _
 cases hx:aF ⟨sl,bx,lv,nx⟩ g with
 |none=>rfl
 |some a=>
  show(match a with| .fn (.func f) first caps=>_|_=>False)=_
  cases hy:dQ ⟨sl,bx,lv,nx⟩ args with
  |none=>cases a<;>first|rfl|(rename_i f _ _;cases f<;>rfl)
  |some as=>cases a<;>first|rfl|(rename_i f _ _;cases f<;>rfl)
theorem Na(id f:Nat) (as first caps:List AV) (k:SV->List (Nat×Nat)->Prop):Fh C id lv as k (.fn (.func f) first caps)=zJ C f (first++as++caps) id lv k:=rfl
def AO(C:aS) (id:Nat) (bx:List (Nat×bV)) (lv:List (Nat×Nat)) (p:List (Option AV)×List Nat) (k:SV->List (Nat×bV)->List (Nat×Nat)->Prop):AV->Prop
 | .fn (.func f) [] []=>Fi C f id bx lv k p
 |_=>False
@[congr] theorem Wt (id:Nat) (bx:List (Nat×bV)) (lv:List (Nat×Nat)) {p p':List (Option AV)×List Nat} (k:SV->List (Nat×bV)->List (Nat×Nat)->Prop) {v v':AV} (h1:p=p') (h:v=v'):AO C id bx lv p k v=AO C id bx lv p' k v':=by rw[h,h1]
theorem Nb(id:Nat) (g:bB) (args:List bB):bN C id (.fQ g args) K ⟨sl,bx,lv,nx⟩=an (aF ⟨sl,bx,lv,nx⟩ g) fun a=>an (ef ⟨sl,bx,lv,nx⟩ args) fun p=>AO C id bx lv p (fun v b l=>K v ⟨sl,b,l,nx⟩) a:=by
 show an _ _=an _ _
 cases hx:aF ⟨sl,bx,lv,nx⟩ g with
 |none=>rfl
 |some a=>
  show(match a with| .fn (.func f) [] []=>_|_=>False)=_
  cases hy:ef ⟨sl,bx,lv,nx⟩ args with
  |none=>cases a<;>first|rfl|(rename_i f x y;cases f<;>first|rfl|(cases x<;>first|rfl|(cases y<;>rfl)))
  |some as=>cases a<;>first|rfl|(rename_i f x y;cases f<;>first|rfl|(cases x<;>first|rfl|(cases y<;>rfl)))
def Fj(C:aS) (f:Nat) (bx:List (Nat×bV)) (k:SV->Prop) (p:List (Option AV)×List Nat):Prop:=
 er p.2=true/\an (eI bx p.2) fun css=>Fg C f css p.1 k
theorem Qc(id f:Nat) (args:List bB):bN C id (.Ba f args) K ⟨sl,bx,lv,nx⟩=an (ef ⟨sl,bx,lv,nx⟩ args) (Fj C f bx fun v=>K v ⟨sl,bx,lv,nx⟩):=rfl
theorem Nc(f:Nat) (as:List (Option AV)) (ids:List Nat) (k:SV->Prop):Fj C f bx k (as,ids)=(er ids=true/\an (eI bx ids) fun css=>Fg C f css as k):=rfl
def AP(C:aS) (bx:List (Nat×bV)) (p:List (Option AV)×List Nat) (k:SV->Prop):AV->Prop
 | .fn (.func f) [] []=>Fj C f bx k p
 |_=>False
@[congr] theorem Wu (bx:List (Nat×bV)) {p p':List (Option AV)×List Nat} (k:SV->Prop) {v v':AV} (h1:p=p') (h:v=v'):AP C bx p k v=AP C bx p' k v':=by rw[h,h1]
theorem Nd(id:Nat) (g:bB) (args:List bB):bN C id (.rX g args) K ⟨sl,bx,lv,nx⟩=an (aF ⟨sl,bx,lv,nx⟩ g) fun a=>an (ef ⟨sl,bx,lv,nx⟩ args) fun p=>AP C bx p (fun v=>K v ⟨sl,bx,lv,nx⟩) a:=by
 show an _ _=an _ _
 cases hx:aF ⟨sl,bx,lv,nx⟩ g with
 |none=>rfl
 |some a=>
  show(match a with| .fn (.func f) [] []=>_|_=>False)=_
  cases hy:ef ⟨sl,bx,lv,nx⟩ args with
  |none=>cases a<;>first|rfl|(rename_i f x y;cases f<;>first|rfl|(cases x<;>first|rfl|(cases y<;>rfl)))
  |some as=>cases a<;>first|rfl|(rename_i f x y;cases f<;>first|rfl|(cases x<;>first|rfl|(cases y<;>rfl)))
theorem Lm(f:Nat) (p:List (Option AV)×List Nat) (k:SV->Prop):AP C bx p k (.fn (.func f) [] [])=Fj C f bx k p:=rfl
theorem Lo(id f:Nat) (p:List (Option AV)×List Nat) (k:SV->List (Nat×bV)->List (Nat×Nat)->Prop):AO C id bx lv p k (.fn (.func f) [] [])=Fi C f id bx lv k p:=rfl
theorem XD(id:Nat) (neg:Bool) (x:bB):bN C id (.SY neg x) K ⟨sl,bx,lv,nx⟩=an (aF ⟨sl,bx,lv,nx⟩ x) fun a=>an (Gu neg a) fun v=>K (.dat (.bool v) none) ⟨sl,bx,lv,nx⟩:=rfl
theorem XE(id:Nat) (x:bB) (i:Nat):bN C id (.ext x i) K ⟨sl,bx,lv,nx⟩=an (aF ⟨sl,bx,lv,nx⟩ x) fun a=>an (Mu a i) fun v=>K (.dat v none) ⟨sl,bx,lv,nx⟩:=rfl
theorem TO(b:Nat) (cs:List AV) (b' o:Nat):pV b cs (.ptr b' o)=bif b'==b then .rp (cs.drop o)else .ptr b' o:=rfl
theorem TP(b:Nat) (cs:List AV) (a:AV) (q:Option Nat):pV b cs (.dat a q)=.dat a q:=rfl
theorem TQ(b:Nat) (cs cs':List AV):pV b cs (.rp cs')=.rp cs':=rfl
theorem TR(b:Nat) (cs:List AV):pV b cs .undef=.undef:=rfl
theorem Qd(b:Nat) (cs:List AV):Be b cs []=[]:=rfl
theorem TS(b:Nat) (cs:List AV) (t:Nat) (v:SV) (r:List (Nat×SV)):Be b cs ((t,v)::r)=(t,pV b cs v)::Be b cs r:=rfl
theorem Qe(n:Nat):uO n []=[]:=rfl
theorem TT(n m:Nat) (v:bV) (r:List (Nat×bV)):uO n ((m,v)::r)=bif n==m then uO n r else(m,v)::uO n r:=rfl
theorem Qf(css:List (List AV)) (s:S):gS [] css s=s:=rfl
theorem TU(b:Nat) (bs:List Nat) (cs:List AV) (css:List (List AV)):gS (b::bs) (cs::css) ⟨sl,bx,lv,nx⟩=gS bs css ⟨Be b cs sl,uO b bx,lv,nx⟩:=rfl
theorem Nf(css:List (List AV)):jv [] css=[]:=by cases css<;>rfl
theorem Ng(a:AV) (as:List (Option AV)) (css:List (List AV)):jv (some a::as) css=a::jv as css:=by cases css<;>rfl
theorem Nh(as:List (Option AV)) (cs:List AV) (css:List (List AV)):jv (none::as) (cs::css)=.ref cs::jv as css:=rfl
theorem TV:kg []=true:=rfl
theorem XF(b:Nat) (bs:List Nat):kg (b::bs)=(decide (4<=b)&&kg bs):=rfl
def XG(fn:Fn) (as:List AV) (s:S) (k:SV->S->Prop) (p:List (Option AV)×List Nat):Prop:=
 (er p.2&&kg p.2)=true/\an (bq s.boxes p.2) fun css=>k (.dat (.fn fn as (jv p.1 css)) none) (gS p.2 css s)
theorem TW(fn:Fn) (as:List AV) (k:SV->S->Prop) (ps:List (Option AV)) (ids:List Nat):XG fn as ⟨sl,bx,lv,nx⟩ k (ps,ids)=((er ids&&kg ids)=true/\an (bq bx ids) fun css=>k (.dat (.fn fn as (jv ps css)) none) (gS ids css ⟨sl,bx,lv,nx⟩)):=rfl
theorem XH(id:Nat) (fn:Fn) (a b:List bB):bN C id (.rW fn a b) K ⟨sl,bx,lv,nx⟩=an (dQ ⟨sl,bx,lv,nx⟩ a) fun as=>an (ef ⟨sl,bx,lv,nx⟩ b) (XG fn as ⟨sl,bx,lv,nx⟩ K):=rfl
def XI(mx:Bool) (k:AV->Prop):List AV->Prop
 |[]=>False
 |a::r=>an (r.foldlM (Sr mx) a) k
theorem aaT(id:Nat) (mx:Bool) (args:List bB):bN C id (.mm mx args) K ⟨sl,bx,lv,nx⟩=an (dQ ⟨sl,bx,lv,nx⟩ args) (XI mx fun v=>K (.dat v none) ⟨sl,bx,lv,nx⟩):=by
 show an _ _=an _ _
 cases dQ ⟨sl,bx,lv,nx⟩ args with
 |none=>rfl
 |some l=>cases l<;>rfl
theorem XJ(mx:Bool) (k:AV->Prop) (a b:AV):XI mx k [a,b]=an (Sr mx a b) k:=by simp[XI]
theorem XK(kd:IntKind) (x y:Int):Sr true (.int kd x) (.int kd y)=some (.int kd (if y>x then y else x)):=rfl
theorem TX(kd:IntKind) (x y:Int):Sr false (.int kd x) (.int kd y)=some (.int kd (if y<x then y else x)):=rfl
theorem Qg(id:Nat) (zs:List AV) (parts:List (Nat×Nat×bB)):bN C id (.build zs parts) K ⟨sl,bx,lv,nx⟩=an (iD ⟨sl,bx,lv,nx⟩ parts) fun ps=>K (.dat (.agg (nF zs ps)) none) ⟨sl,bx,lv,nx⟩:=rfl
def uV(off sz:Nat):Option AV->Option (List (Nat×List AV))->Option (List (Nat×List AV))
 |some a,some ps=>if a.cells.length=sz/\ig a none=true then some ((off,a.cells)::ps)else none
 |_,_=>none
theorem Ni(off sz:Nat) (x:bB) (r:List (Nat×Nat×bB)):iD ⟨sl,bx,lv,nx⟩ ((off,sz,x)::r)=uV off sz (aF ⟨sl,bx,lv,nx⟩ x) (iD ⟨sl,bx,lv,nx⟩ r):=rfl
theorem Lp:iD ⟨sl,bx,lv,nx⟩ []=some []:=rfl
theorem Fk(off sz:Nat) (a:AV) (ps:List (Nat×List AV)) (h:a.cells.length=sz) (h':ig a none=true):uV off sz (some a) (some ps)=some ((off,a.cells)::ps):=by simp[uV,h,h']
theorem XL(id e z:Nat) (xs:List bB):bN C id (.mz e z xs) K ⟨sl,bx,lv,nx⟩=an (lT ⟨sl,bx,lv,nx⟩ z xs) fun rows=>K (.dat (.sl rows) (some id)) ⟨sl,bx,(id,e)::lv,nx⟩:=rfl
def TY(z:Nat):Option AV->Option (List (List AV))->Option (List (List AV))
 |some a,some rows=>if a.cells.length=z/\ig a none=true then some (a.cells::rows)else none
 |_,_=>none
theorem Qh(z:Nat) (x:bB) (r:List bB):lT ⟨sl,bx,lv,nx⟩ z (x::r)=TY z (aF ⟨sl,bx,lv,nx⟩ x) (lT ⟨sl,bx,lv,nx⟩ z r):=rfl
theorem Nj(z:Nat):lT ⟨sl,bx,lv,nx⟩ z []=some []:=rfl
theorem TZ(z:Nat) (a:AV) (rows:List (List AV)) (h:a.cells.length=z) (h':ig a none=true):TY z (some a) (some rows)=some (a.cells::rows):=by simp[TY,h,h']
theorem XM(id e z bytes:Nat) (x y:bB):bN C id (.app e z bytes x y) K ⟨sl,bx,lv,nx⟩=an (dh ⟨sl,bx,lv,nx⟩ x) fun
   | .dat a q=>an (rowsOf a) fun xs=>an (aF ⟨sl,bx,lv,nx⟩ y) fun b=>an (rowsOf b) fun ys=>
     (xs.length+ys.length)*bytes<=140737488355328/\(∀r∈xs,r.length=z)/\(∀r∈ys,r.length=z)/\
     (match a,q with
      | .aL,_=>if ys=[]then K (.dat .aL none) ⟨sl,bx,lv,nx⟩else K (.dat (.sl (xs++ys)) (some id)) ⟨sl,bx,(id,e)::lv,nx⟩
      | .sl _,some q=>d7 q lv=some e/\K (.dat (.sl (xs++ys)) (some id)) ⟨sl,bx,(id,e)::jr q lv,nx⟩
      |_,_=>False)
   |_=>False:=rfl
theorem XN(id z:Nat) (x:bB) (lo hi:Option bB):bN C id (.SX z x lo hi) K ⟨sl,bx,lv,nx⟩=an (aF ⟨sl,bx,lv,nx⟩ x) fun a=>an (rowsOf a) fun xs=>an (Bc ⟨sl,bx,lv,nx⟩ lo) fun l=>an (Bd ⟨sl,bx,lv,nx⟩ xs hi) fun h=>(0<=l/\l<=h/\h<=xs.length)/\(∀r∈xs,r.length=z)/\K (.dat (Mv a xs l h) none) ⟨sl,bx,lv,nx⟩:=rfl
theorem Qi:Bc ⟨sl,bx,lv,nx⟩ none=some 0:=rfl
theorem T6(x:bB):Bc ⟨sl,bx,lv,nx⟩ (some x)=yF (aF ⟨sl,bx,lv,nx⟩ x):=by cases h:aF ⟨sl,bx,lv,nx⟩ x<;>simp[Bc,yF,h]
theorem Qj(xs:List (List AV)):Bd ⟨sl,bx,lv,nx⟩ xs none=some (xs.length:Int):=rfl
theorem T7(xs:List (List AV)) (x:bB):Bd ⟨sl,bx,lv,nx⟩ xs (some x)=yF (aF ⟨sl,bx,lv,nx⟩ x):=by cases h:aF ⟨sl,bx,lv,nx⟩ x<;>simp[Bd,yF,h]
theorem T8(k:IntKind) (i:Int):yF (some (.int k i))=some i:=rfl
theorem XP(xs ys:List (List AV)) (l h:Int):Mv (.sl ys) xs l h=.sl ((xs.take h.toNat).drop l.toNat):=rfl
theorem T9(xs:List (List AV)) (l h:Int):Mv .aL xs l h=.aL:=rfl
def Wv(k:SV->Prop):SV->Prop
 | .ptr b o=>k (.ptr b o)
 | .rp cs=>k (.rp cs)
 | .dat (.fn (.func f) as bs) q=>k (.dat (.fn (.func f) as bs) q)
 | .dat (.ref cs) _=>k (.rp cs)
 |_=>False
theorem aaU(id:Nat) (x:bB):bN C id (.nc x) K ⟨sl,bx,lv,nx⟩=an (dh ⟨sl,bx,lv,nx⟩ x) (Wv fun v=>K v ⟨sl,bx,lv,nx⟩):=by
 show an _ _=an _ _
 cases dh ⟨sl,bx,lv,nx⟩ x with
 |none=>rfl
 |some v=>cases v with
  |dat a q=>cases a<;>first|rfl|(rename_i f _ _;cases f<;>rfl)
  |_=>rfl
theorem XQ(k:SV->Prop) (b o:Nat):Wv k (.ptr b o)=k (.ptr b o):=rfl
theorem XR(k:SV->Prop) (cs:List AV) (q:Option Nat):Wv k (.dat (.ref cs) q)=k (.rp cs):=rfl
theorem XS(k:SV->Prop) (cs:List AV):Wv k (.rp cs)=k (.rp cs):=rfl
theorem Ua:aw C .skip Q ⟨sl,bx,lv,nx⟩=Q .normal ⟨sl,bx,lv,nx⟩:=rfl
def GV(k:S->Prop) (n:Nat):S->Prop:=fun s=>k {s with nx:=n}
theorem XT(ops:List CO):aw C (.KY ops) Q ⟨sl,bx,lv,nx⟩=jw C nx 0 ops (GV (Q .normal) (nx+ops.length)) ⟨sl,bx,lv,nx⟩:=rfl
def Ub(ops:List CO) (dU:List (Nat×Nat)) (s:S) (F:List CO->S->Prop):Prop:=∃ids,(er ids&&kg ids)=true/\an (bq s.boxes ids) fun css=>∃ro,DY (nB ro 0 ops) dU (gS ids css s).nx (gS ids css s).slots=true/\F (nB ro 0 ops) (gS ids css s)
class KF where
 k:List CO->S->Prop
def dg(ops:List CO) (dU:List (Nat×Nat)) (s:S) [k:KF]:Prop:=Ub ops dU s k.k
theorem aaV(ops:List CO) (dU:List (Nat×Nat)) (s:S) (F:List CO->S->Prop):Ub ops dU s F=@dg ops dU s ⟨F⟩:=rfl
theorem dG{ops:List CO} {dU:List (Nat×Nat)} {s:S} {F:List CO->S->Prop} (h:DY ops dU s.nx s.slots=true) (hk:F ops s):@dg ops dU s ⟨F⟩:=⟨[],rfl,[],by rw[tX];exact h,by rw[tX];exact hk⟩
theorem ji{ops:List CO} {dU:List (Nat×Nat)} {s:S} {F:List CO->S->Prop} (ro:List Nat) (h:DY (nB ro 0 ops) dU s.nx s.slots=true) (hk:F (nB ro 0 ops) s):@dg ops dU s ⟨F⟩:=⟨[],rfl,ro,h,hk⟩
theorem I3{ops:List CO} {dU:List (Nat×Nat)} {s:S} {F:List CO->S->Prop} (ids ro:List Nat) {css:List (List AV)} (hn:(er ids&&kg ids)=true) (hc:bq s.boxes ids=some css) (h:DY (nB ro 0 ops) dU (gS ids css s).nx (gS ids css s).slots=true) (hk:F (nB ro 0 ops) (gS ids css s)):@dg ops dU s ⟨F⟩:=⟨ids,hn,by rw[hc];exact⟨ro,h,hk⟩⟩
def goF(C:aS) (nx:Nat) (K:S->Prop) (ops:List CO) (s:S):Prop:=jw C nx 0 ops K s
theorem XU(nx:Nat) (K:S->Prop) (o:CO) (ops:List CO):goF C nx K (o::ops) ⟨sl,bx,lv,nx⟩=jw C nx 0 (o::ops) K ⟨sl,bx,lv,nx⟩:=rfl
theorem Uc(ops:List CO) (dU:List (Nat×Nat)):aw C (.kL ops dU) Q ⟨sl,bx,lv,nx⟩=Ub ops dU ⟨sl,bx,lv,nx⟩ (goF C nx (GV (Q .normal) (nx+ops.length))):=by
 show(∃ids,_/\an _ _)=(∃ids,_/\an _ _)
 congr 1;funext ids;congr 2;funext css
 show S3 _ _ _ _ _=_
 unfold S3 goF;simp only[E2];rfl
theorem Ud(k:S->Prop) (n:Nat):GV k n ⟨sl,bx,lv,nx⟩=k ⟨sl,bx,lv,n⟩:=rfl
theorem XV(a b:aT):aw C (.seq a b) Q ⟨sl,bx,lv,nx⟩=aw C a (jx (aw C b Q) Q) ⟨sl,bx,lv,nx⟩:=rfl
theorem Nk(a b:aT):aw C (.join a b) Q ⟨sl,bx,lv,nx⟩=aw C a (jx (down (aw C b Q)) Q) ⟨sl,bx,lv,nx⟩:=rfl
def uW(a b:Prop):AV->Prop
 | .bool t=>(t=true->a)/\(t=false->b)
 |_=>False
theorem Ue(c:bB) (a b:aT):aw C (.cond c a b) Q ⟨sl,bx,lv,nx⟩=an (aF ⟨sl,bx,lv,nx⟩ c) (uW (aw C a Q ⟨sl,bx,lv,nx⟩) (aw C b Q ⟨sl,bx,lv,nx⟩)):=rfl
def XW(n z:Nat) (a:Option AV) (k:SV->Prop):SV->Prop
 | .ptr b off=>an a fun a=>an (idxOf a) fun h=>(0<=h/\h<=n)/\k (.vs b off h.toNat z)
 |_=>False
theorem XX(id:Nat) (x:bB) (n z:Nat) (hi:bB):bN C id (.Wn x n z hi) K ⟨sl,bx,lv,nx⟩=an (dh ⟨sl,bx,lv,nx⟩ x) (XW n z (aF ⟨sl,bx,lv,nx⟩ hi) fun v=>K v ⟨sl,bx,lv,nx⟩):=by
 show an _ _=an _ _
 cases dh ⟨sl,bx,lv,nx⟩ x with
 |none=>rfl
 |some v=>cases v<;>rfl
theorem Uf(n z:Nat) (a:Option AV) (k:SV->Prop) (b off:Nat):XW n z a k (.ptr b off)=an a fun a=>an (idxOf a) fun h=>(0<=h/\h<=n)/\k (.vs b off h.toNat z):=rfl
def J9(a b:Prop):AV->Prop
 | .bool t=>(t=true->a)/\(t=false->b)
 |_=>False
def Nl(id e z bytes:Nat) (s:S) (K:SV->S->Prop) (b off n z':Nat):SV->Prop
 | .ptr b' _=>(b'=b/\z'=z)/\an (b9 b s.boxes) fun y=>(n*z<=(y.cells.drop off).length/\n*bytes<=140737488355328)/\
   J9 (K (.dat .aL none) s) (K (.dat (.sl (dB z n (y.cells.drop off))) (some id)) {s with live:=(id,e)::s.live}) (.bool (n==0))
 |_=>False
def SD(id e z bytes:Nat) (s:S) (K:SV->S->Prop) (x:Option SV):SV->Prop
 | .vs b off n z'=>an x (Nl id e z bytes s K b off n z')
 |_=>False
theorem Nm(a b:Prop) (n:Nat):J9 a b (.bool (n==0))=(if n=0 then a else b):=by
 by_cases h:n=0
 ·subst h;simp[J9]
 ·simp[J9,h]
theorem Ug(id e z bytes:Nat) (y x:bB):bN C id (.DI e z bytes y x) K ⟨sl,bx,lv,nx⟩=an (dh ⟨sl,bx,lv,nx⟩ y) (SD id e z bytes ⟨sl,bx,lv,nx⟩ K (dh ⟨sl,bx,lv,nx⟩ x)):=by
 show an _ _=an _ _
 cases dh ⟨sl,bx,lv,nx⟩ y with
 |none=>rfl
 |some v=>
  cases v<;>try rfl
  show an _ _=an _ _
  cases dh ⟨sl,bx,lv,nx⟩ x with
  |none=>rfl
  |some u=>
   cases u<;>try rfl
   show(_/\an _ _)=(_/\an _ _)
   congr 2
   funext y
   rw[Nm]
theorem Qk(id e z bytes:Nat) (K:SV->S->Prop) (x:Option SV) (b off n z':Nat):SD id e z bytes ⟨sl,bx,lv,nx⟩ K x (.vs b off n z')=an x (Nl id e z bytes ⟨sl,bx,lv,nx⟩ K b off n z'):=rfl
theorem Ql(id e z bytes:Nat) (K:SV->S->Prop) (b off n z' b' o:Nat):Nl id e z bytes ⟨sl,bx,lv,nx⟩ K b off n z' (.ptr b' o)=((b'=b/\z'=z)/\an (b9 b bx) fun y=>(n*z<=(y.cells.drop off).length/\n*bytes<=140737488355328)/\
   uW (K (.dat .aL none) ⟨sl,bx,lv,nx⟩) (K (.dat (.sl (dB z n (y.cells.drop off))) (some id)) ⟨sl,bx,(id,e)::lv,nx⟩) (.bool (n==0))):=rfl
def cd(c:AV) [k:KP]:Prop:=uW k.yes k.no c
theorem BN(a b:Prop) (c:AV):uW a b c=@cd c ⟨a,b⟩:=rfl
theorem Qm(a b:Prop):@cd (.bool true) ⟨a,b⟩=a:=by simp[cd,uW]
theorem Qn(a b:Prop):@cd (.bool false) ⟨a,b⟩=b:=by simp[cd,uW]
theorem Qo(id:Nat) (c:aT):aw C (.block id c) Q ⟨sl,bx,lv,nx⟩=aw C c (gq id Q) ⟨sl,bx,lv,nx⟩:=rfl
theorem Uh(id:Nat):aw C (.exit id) Q ⟨sl,bx,lv,nx⟩=Q (.exit id) ⟨sl,bx,lv,nx⟩:=rfl
theorem XY:aw C .ret Q ⟨sl,bx,lv,nx⟩=Q .ret ⟨sl,bx,lv,nx⟩:=rfl
theorem Qp(l:Nat) (c r:aT):aw C (.scope l c r) Q ⟨sl,bx,lv,nx⟩=aw C c (mJ l (aw C r (AB Q)) Q) ⟨sl,bx,lv,nx⟩:=rfl
theorem Qq(l:Nat):aw C (.label l) Q ⟨sl,bx,lv,nx⟩=Q .normal ⟨sl,bx,lv,nx⟩:=rfl
theorem Ui(l:Nat):aw C (.goto l) Q ⟨sl,bx,lv,nx⟩=Q (.goto l) ⟨sl,bx,lv,nx⟩:=rfl
theorem Qr(k:S->Prop) (s:S) (l:Nat):jx k Q (.goto l) s=Q (.goto l) s:=rfl
theorem Uj(id:Nat) (s:S) (l:Nat):gq id Q (.goto l) s=Q (.goto l) s:=rfl
theorem XZ(l:Nat) (k:S->Prop) (s:S):mJ l k Q .normal s=Q .normal s:=rfl
theorem X0(l:Nat) (k:S->Prop) (s:S):mJ l k Q .ret s=Q .ret s:=rfl
theorem X1(l:Nat) (k:S->Prop) (s:S) (id:Nat):mJ l k Q (.exit id) s=Q (.exit id) s:=rfl
theorem X2(l:Nat) (k:S->Prop) (s:S) (l':Nat):mJ l k Q (.goto l') s=(l'=l/\k s):=rfl
theorem X3(s:S):AB Q .normal s=Q .normal s:=rfl
theorem X4(s:S):AB Q .ret s=Q .ret s:=rfl
theorem X5(s:S) (id:Nat):AB Q (.exit id) s=Q (.exit id) s:=rfl
theorem Qs(k:S->Prop) (s:S):jx k Q .normal s=k s:=rfl
theorem Qt(k:S->Prop) (s:S):jx k Q .ret s=Q .ret s:=rfl
theorem Qu(k:S->Prop) (s:S) (id:Nat):jx k Q (.exit id) s=Q (.exit id) s:=rfl
theorem Uk(id:Nat) (s:S):gq id Q .normal s=Q .normal s:=rfl
theorem Ul(id:Nat) (s:S):gq id Q .ret s=Q .ret s:=rfl
theorem Um(id:Nat) (s:S):gq id Q (.exit id) s=Q .normal s:=by simp[gq]
theorem Un(id id':Nat) (s:S) (h:(id'==id)=false):gq id Q (.exit id') s=Q (.exit id') s:=by
 have:id'≠id:=by simpa using h
 simp[gq,this]
end
section
variable{C:aS} {Q:Exit->S->Prop} {K:SV->S->Prop} {J:S->Prop}
@[congr] theorem aai {α:Type} {o o':Option α} (k:α->Prop) (h:o=o'):an o k=an o' k:=by rw[h]
@[congr] theorem abP (id:Nat) (o:bW) (s:S):bN C id o K s=bN C id o K s:=rfl
@[congr] theorem aaX (b i:Nat) (l:List CO) (s:S):jw C b i l J s=jw C b i l J s:=rfl
@[congr] theorem acn (c:aT) (s:S):aw C c Q s=aw C c Q s:=rfl
@[congr] theorem aaj (e:Exit) (s:S):jx J Q e s=jx J Q e s:=rfl
@[congr] theorem X6 {J:S->Prop} (l:Nat) (e:Exit) (s:S):mJ l J Q e s=mJ l J Q e s:=rfl
@[congr] theorem aaY (e:Exit) (s:S):AB Q e s=AB Q e s:=rfl
@[congr] theorem X7 (id:Nat) (e:Exit) (s:S):gq id Q e s=gq id Q e s:=rfl
@[congr] theorem aaZ (n:Nat) (s:S):GV J n s=GV J n s:=rfl
@[congr] theorem aa0 {s s':S} (h:s=s'):down J s=down J s':=by rw[h]
@[congr] theorem X8 (w:Bool) (yes no:Prop) {g g':Option SV} (h:g=g'):lF w yes no g=lF w yes no g':=by rw[h]
@[congr] theorem aak {a a' b b':Option SV} (k:SV->Prop) {c c':AV} (ha:a=a') (hb:b=b') (hc:c=c'):BM a b k c=BM a' b' k c':=by rw[ha,hb,hc]
@[congr] theorem aal (a b:Prop) {c c':AV} (h:c=c'):uW a b c=uW a b c':=by rw[h]
@[congr] theorem abQ (sz:Option Nat) (bx:List (Nat×bV)) (k:SV->Prop) {v v':SV} (h:v=v'):Ws sz bx k v=Ws sz bx k v':=by rw[h]
@[congr] theorem abR (off:Nat) (k:SV->Prop) {v v':SV} (h:v=v'):Xi off k v=Xi off k v':=by rw[h]
@[congr] theorem abS {d d':Nat} (k:SV->Prop) {v v':SV} (h:v=v') (hd:d=d'):Xl d k v=Xl d' k v':=by rw[h,hd]
@[congr] theorem abT (sz:Nat) (bx:List (Nat×bV)) {u u':Option SV} (k:List (Nat×bV)->Prop) {v v':SV} (hu:u=u') (h:v=v'):stP sz bx u k v=stP sz bx u' k v':=by rw[h,hu]
@[congr] theorem abU (sz off:Nat) (x:bV) (k:bV->Prop) {v v':SV} (h:v=v'):Xf sz off x k v=Xf sz off x k v':=by rw[h]
@[congr] theorem aa1 (k:List AV->Prop) {v v':AV} (h:v=v'):I2 k v=I2 k v':=by rw[h]
@[congr] theorem abV (m:Bool) (k:AV->Prop) {v v':List AV} (h:v=v'):XI m k v=XI m k v':=by rw[h]
@[congr] theorem abW (k:SV->Prop) {v v':SV} (h:v=v'):Wv k v=Wv k v':=by rw[h]
end
section
variable(k:IntKind) (x y:Int)
theorem X9:dZ .add (.int k x) (.int k y)=some (.int k (k.wrap (x+y))):=by simp[dZ,rP]
theorem Ya:dZ .sub (.int k x) (.int k y)=some (.int k (k.wrap (x-y))):=by simp[dZ,rP]
theorem Yb:dZ .mul (.int k x) (.int k y)=some (.int k (k.wrap (x*y))):=by simp[dZ,rP]
theorem Yc:dZ .eql (.int k x) (.int k y)=some (.bool (x==y)):=by simp[dZ,rP]
theorem Yd:dZ .neq (.int k x) (.int k y)=some (.bool (x !=y)):=by simp[dZ,rP]
theorem Ye:dZ .lss (.int k x) (.int k y)=some (.bool (decide (x<y))):=by simp[dZ,rP]
theorem Yf:dZ .leq (.int k x) (.int k y)=some (.bool (decide (x<=y))):=by simp[dZ,rP]
theorem Yg:dZ .gtr (.int k x) (.int k y)=some (.bool (decide (y<x))):=by simp[dZ,rP]
theorem Yh:dZ .geq (.int k x) (.int k y)=some (.bool (decide (y<=x))):=by simp[dZ,rP]
def dw(k:IntKind) (x y:Int):Int:=k.wrap (BitVec.ofInt k.bits x&&&BitVec.ofInt k.bits y).toNat
def yE(k:IntKind) (x y:Int):Int:=k.wrap (BitVec.ofInt k.bits x|||BitVec.ofInt k.bits y).toNat
def GW(k:IntKind) (x y:Int):Int:=k.wrap (BitVec.ofInt k.bits x^^^BitVec.ofInt k.bits y).toNat
def ep(k:IntKind) (x y:Int):Int:=k.wrap (BitVec.ofInt k.bits x&&& ~~~BitVec.ofInt k.bits y).toNat
theorem Yi:dZ .and (.int k x) (.int k y)=some (.int k (dw k x y)):=by simp[dZ,rP,zn,dw]
theorem aa2:dZ .or (.int k x) (.int k y)=some (.int k (yE k x y)):=by simp[dZ,rP,zn,yE]
theorem Yj:dZ .xor (.int k x) (.int k y)=some (.int k (GW k x y)):=by simp[dZ,rP,zn,GW]
theorem Nn:dZ .andNot (.int k x) (.int k y)=some (.int k (ep k x y)):=by simp[dZ,rP,zn,ep]
def qO(c:Prop) [Decidable c] (v:AV):Option AV:=if c then some v else none
theorem Qv(c:Prop) [Decidable c] (v:AV) (K:AV->Prop):@wv _ (qO c v) ⟨K⟩=(c/\K v):=by
 rw[<-dP];unfold qO;split<;>simp_all
theorem Yk:dZ .quo (.int k x) (.int k y)=qO (y≠0) (.int k (k.wrap (x.tdiv y))):=by
 by_cases h:y=0<;>simp[dZ,rP,qO,h]
theorem Yl:dZ .rem (.int k x) (.int k y)=qO (y≠0) (.int k (x.tmod y)):=by
 by_cases h:y=0<;>simp[dZ,rP,qO,h]
theorem Ym(k':IntKind):dZ .shl (.int k x) (.int k' y)=qO (0<=y) (.int k (k.wrap (x*2^min y.toNat k.bits))):=by
 by_cases h:0<=y
 ·have:¬y<0:=by omega
  simp[dZ,rY,qO,h,this]
 ·have:y<0:=by omega
  simp[dZ,rY,qO,this]
theorem Yn(k':IntKind):dZ .shr (.int k x) (.int k' y)=qO (0<=y) (.int k (x.fdiv (2^min y.toNat k.bits))):=by
 by_cases h:0<=y
 ·have:¬y<0:=by omega
  simp[dZ,rY,qO,h,this]
 ·have:y<0:=by omega
  simp[dZ,rY,qO,this]
theorem Yo(x y:Bool):Wq false (.bool x) (.bool y)=some (.bool (x==y)):=rfl
theorem Yp(x y:Bool):Wq true (.bool x) (.bool y)=some (.bool (x !=y)):=rfl
theorem Yq(b:Bool):S0 .not (.bool b)=some (.bool !b):=rfl
theorem Yr:S0 .neg (.int k x)=some (.int k (k.wrap (0-x))):=rfl
theorem Ys:Gu false .aL=some true:=rfl
theorem Yt:Gu true .aL=some false:=rfl
theorem Yu(xs:List (List AV)):Gu false (.sl xs)=some false:=rfl
theorem Yv(xs:List (List AV)):Gu true (.sl xs)=some true:=rfl
theorem Yw:Ay .aL=some (.int .i64 0):=rfl
theorem aa3(xs:List (List AV)):Ay (.sl xs)=some (.int .i64 xs.length):=rfl
theorem aa4(k':IntKind):DW k (.int k' x)=some (.int k (k.wrap x)):=rfl
theorem aa5(k':IntKind) (f:FloatKind):DX f (.int k' x)=some (.float f (f.nearest x)):=rfl
theorem Yx(vs:List AV) (i:Nat):Mu (.cN vs) i=vs[i]?:=rfl
theorem Yy(cs:List AV):ig (.agg cs) none=true:=rfl
theorem Yz(q:Option Nat):ig (.int k x) q=true:=rfl
theorem YA(b:Bool) (q:Option Nat):ig (.bool b) q=true:=rfl
theorem YB(f:FloatKind) (n:Nat) (q:Option Nat):ig (.float f n) q=true:=rfl
theorem YC(q:Option Nat):ig .aL q=true:=rfl
theorem YD(xs:List (List AV)) (q:Option Nat):ig (.sl xs) q=true:=rfl
theorem YE(b:ByteArray) (q:Option Nat):ig (.str b) q=true:=rfl
theorem YF(f:Fn) (as bs:List AV) (q:Option Nat):ig (.fn f as bs) q=true:=rfl
theorem Uo(cs:List AV) (q:Option Nat):ig (.ref cs) q=true:=rfl
theorem YG(q:Option Nat):ig .eK q=true:=rfl
theorem Lq(cs:List AV):AV.cells (.agg cs)=cs:=rfl
theorem Lr:AV.cells (.int k x)=[.int k x]:=rfl
theorem I4(b:Bool):AV.cells (.bool b)=[.bool b]:=rfl
theorem GX(f:FloatKind) (n:Nat):AV.cells (.float f n)=[.float f n]:=rfl
theorem I5:AV.cells .aL=[.aL]:=rfl
theorem Ls(cs:List AV):AV.cells (.ref cs)=[.ref cs]:=rfl
theorem No(f:Fn) (as bs:List AV):AV.cells (.fn f as bs)=[.fn f as bs]:=rfl
theorem Np(xs:List (List AV)):AV.cells (.sl xs)=[.sl xs]:=rfl
theorem Up(cs:List AV) (off:Nat):ay cs off none=cs[off]?:=rfl
theorem lG(cs:List AV) (off n:Nat) (h:off+n<=cs.length):ay cs off (some n)=some (.agg ((cs.drop off).take n)):=by simp[ay,h]
end
theorem aV{w:Bool} {yes no:Prop} {t:Bool} {q:Option Nat} (h1:t=true->@gd w (some (.dat (.bool true) q)) ⟨yes,no⟩) (h2:t=false->@gd w (some (.dat (.bool false) q)) ⟨yes,no⟩):@gd w (some (.dat (.bool t) q)) ⟨yes,no⟩:=by
 cases t
 ·exact h2 rfl
 ·exact h1 rfl
theorem ax{a b:Prop} {t:Bool} (h1:t=true->a) (h2:t=false->b):@cd (.bool t) ⟨a,b⟩:=by
 cases t
 ·simpa[cd,uW]using h2 rfl
 ·simpa[cd,uW]using h1 rfl
theorem bC{a b:Option SV} {k:SV->Prop} {t:Bool} (h1:t=true->@pk a b (.bool true) ⟨k⟩) (h2:t=false->@pk a b (.bool false) ⟨k⟩):@pk a b (.bool t) ⟨k⟩:=by
 cases t
 ·exact h2 rfl
 ·exact h1 rfl
theorem Qw(p:Nat) (ps:List Nat) (x:AV) (xs:List AV) (s:S):oH (p::ps) (x::xs) s=oH ps xs (s.put (some p) (.dat x none)):=rfl
theorem Nq(s:S):oH [] [] s=s:=rfl
theorem Ur(wr:List Nat) (sl:List (Nat×SV)) (bx:List (Nat×bV)) (lv:List (Nat×Nat)) (nx:Nat):Bg wr ⟨sl,bx,lv,nx⟩=⟨DM wr sl,bx,lv,nx⟩:=rfl
theorem Qx(wr:List Nat):DM wr []=[]:=rfl
theorem Us(wr:List Nat) (t:Nat) (v:SV) (r:List (Nat×SV)):DM wr ((t,v)::r)=bif wr.contains t then DM wr r else(t,v)::DM wr r:=rfl
theorem Ut(wr:List Nat) (F:S->Prop) (Q:Exit->S->Prop) (s:S):IC wr F Q .normal s=down F (Bg wr s):=rfl
theorem Uu(wr:List Nat) (F:S->Prop) (Q:Exit->S->Prop) (s:S):IC wr F Q .ret s=Q .ret (Bg wr s):=rfl
theorem Uv(wr:List Nat) (F:S->Prop) (Q:Exit->S->Prop) (id:Nat) (s:S):IC wr F Q (.exit id) s=Q (.exit id) (Bg wr s):=rfl
theorem Qy(K:S->Prop) (s:S):r9 K .normal s=K s:=rfl
def EV0:=
 And.intro @Tj (And.intro @Tk (And.intro @Tl (And.intro @W9 (And.intro @aaI (And.intro @Xa (And.intro @Xb (And.intro @GS (And.intro @zK (And.intro @xb (And.intro @sH (And.intro @Tn (And.intro @To (And.intro @PS (And.intro @Xc (And.intro @Tp (And.intro @Tq (And.intro @Tt (And.intro @PT (And.intro @Tu (And.intro @PU (And.intro @PV (And.intro @PW (And.intro @PX (And.intro @MX (And.intro @PY (And.intro @Tv (And.intro @PZ (And.intro @MY (@MZ)))))))))))))))))))))))))))))
def EV1:=
 And.intro @Li (And.intro @M0 (And.intro @Lj (And.intro @aaJ (And.intro @Tw (And.intro @P0 (And.intro @P1 (And.intro @P2 (And.intro @Xd (And.intro @aaK (And.intro @Tx (And.intro @Tz (And.intro @Xe (And.intro @aaL (And.intro @Xg (And.intro @Xh (And.intro @P3 (And.intro @P4 (And.intro @aaM (And.intro @Xj (And.intro @Xk (And.intro @Xm (And.intro @Xn (And.intro @Xo (And.intro @Xp (And.intro @Xq (And.intro @TA (And.intro @P5 (And.intro @Xr (@Xu)))))))))))))))))))))))))))))
def EV2:=
 And.intro @Xv (And.intro @Xw (And.intro @Xx (And.intro @aaN (And.intro @aaO (And.intro @TC (And.intro @TD (And.intro @TE (And.intro @TF (And.intro @aaP (And.intro @aaQ (And.intro @aaR (And.intro @aaS (And.intro @Xy (And.intro @TI (And.intro @TJ (And.intro @XA (And.intro @TK (And.intro @TL (And.intro @TM (And.intro @M1 (And.intro @M3 (And.intro @M4 (And.intro @TN (And.intro @XC (And.intro @M5 (And.intro @P6 (And.intro @P7 (And.intro @M6 (@P8)))))))))))))))))))))))))))))
def EV3:=
 And.intro @P9 (And.intro @Lk (And.intro @M7 (And.intro @Ll (And.intro @M8 (And.intro @M9 (And.intro @Qa (And.intro @Qb (And.intro @Na (And.intro @Nb (And.intro @Qc (And.intro @Nc (And.intro @Nd (And.intro @Lm (And.intro @Lo (And.intro @XD (And.intro @XE (And.intro @TO (And.intro @TP (And.intro @TQ (And.intro @TR (And.intro @Qd (And.intro @TS (And.intro @Qe (And.intro @TT (And.intro @Qf (And.intro @TU (And.intro @Nf (And.intro @Ng (@Nh)))))))))))))))))))))))))))))
def EV4:=
 And.intro @TV (And.intro @XF (And.intro @TW (And.intro @XH (And.intro @aaT (And.intro @XJ (And.intro @XK (And.intro @TX (And.intro @Qg (And.intro @Ni (And.intro @Lp (And.intro @XL (And.intro @Qh (And.intro @Nj (And.intro @XM (And.intro @XN (And.intro @Qi (And.intro @T6 (And.intro @Qj (And.intro @T7 (And.intro @T8 (And.intro @XP (And.intro @T9 (And.intro @aaU (And.intro @XQ (And.intro @XR (And.intro @XS (And.intro @Ua (And.intro @XT (@XU)))))))))))))))))))))))))))))
def EV5:=
 And.intro @Uc (And.intro @Ud (And.intro @XV (And.intro @Nk (And.intro @Ue (And.intro @XX (And.intro @Uf (And.intro @Ug (And.intro @Qk (And.intro @Ql (And.intro @Qm (And.intro @Qn (And.intro @Qo (And.intro @Uh (And.intro @XY (And.intro @Qp (And.intro @Qq (And.intro @Ui (And.intro @Qr (And.intro @Uj (And.intro @XZ (And.intro @X0 (And.intro @X1 (And.intro @X2 (And.intro @X3 (And.intro @X4 (And.intro @X5 (And.intro @Qs (And.intro @Qt (@Qu)))))))))))))))))))))))))))))
def EV6:=
 And.intro @Uk (And.intro @Ul (And.intro @Um (And.intro @X9 (And.intro @Ya (And.intro @Yb (And.intro @Yc (And.intro @Yd (And.intro @Ye (And.intro @Yf (And.intro @Yg (And.intro @Yh (And.intro @Yi (And.intro @aa2 (And.intro @Yj (And.intro @Nn (And.intro @Qv (And.intro @Yk (And.intro @Yl (And.intro @Ym (And.intro @Yn (And.intro @Yo (And.intro @Yp (And.intro @Yq (And.intro @Yr (And.intro @Ys (And.intro @Yt (And.intro @Yu (And.intro @Yv (@Yw)))))))))))))))))))))))))))))
def EV7:=
 And.intro @aa3 (And.intro @aa4 (And.intro @aa5 (And.intro @Yx (And.intro @Yy (And.intro @Yz (And.intro @YA (And.intro @YB (And.intro @YC (And.intro @YD (And.intro @YE (And.intro @YF (And.intro @Uo (And.intro @YG (And.intro @Lq (And.intro @Lr (And.intro @I4 (And.intro @GX (And.intro @I5 (And.intro @Ls (And.intro @No (And.intro @Np (And.intro @Up (And.intro @Qw (And.intro @Nq (And.intro @Ur (And.intro @Qx (And.intro @Us (And.intro @Ut (@Uu)))))))))))))))))))))))))))))
def EV8:=
 And.intro @Uv (@Qy)
def EV:=
 And.intro @EV0 (And.intro @EV1 (And.intro @EV2 (And.intro @EV3 (And.intro @EV4 (And.intro @EV5 (And.intro @EV6 (And.intro @EV7 (@EV8))))))))
section
variable{C:aS}
theorem xe{id:Nat} {o:bW} {K K':SV->S->Prop} {s:S} (hk:∀v s',K v s'->K' v s') (h:bN C id o K s):bN C id o K' s:=by
 obtain⟨v,d,hK,_,_,hs⟩:=sC h;exact hs.2 s .refl K' (hk _ _ hK)
theorem yR{base:Nat}:∀{l:List CO} {i:Nat} {s:S} {K K':S->Prop},(∀s,K s->K' s)->jw C base i l K s->jw C base i l K' s
 |[],i,s,K,K',hk,h=>hk s h
 |o::l,i,s,K,K',hk,h=>by
  rw[mC]at h⊢;obtain⟨v,d,hd,hk',_⟩:=eV h;exact hd.2 s .refl _ (yR hk hk')
theorem Lt{id:Nat} {o:Mt} {K K':SV->S->Prop} {X X':AV->S->Prop} {s:S} (hk:∀v s',K v s'->K' v s') (hx:∀p s',X p s'->X' p s') (h:cZ C id o K X s):cZ C id o K' X' s:=by
 cases o with
 |o c=>exact xe hk h
 |call f args=>
  simp only[cZ]at h⊢
  rcases h with h|h
  ·exact .inl (xe hk h)
  ·obtain⟨as,has,h⟩:=ah h
   rw[has]
   rcases h with⟨cs,h1,h2⟩|⟨p,h1,h2⟩
   ·exact .inr (.inl ⟨cs,h1,hk _ _ h2⟩)
   ·exact .inr (.inr ⟨p,h1,hx _ _ h2⟩)
 |bI f args=>
  simp only[cZ]at h⊢
  rcases h with h|h
  ·exact .inl (xe hk h)
  ·obtain⟨p,hp,hn,h⟩:=ah h
   obtain⟨css,hcs,h⟩:=ah h;rw[hp];refine .inr ⟨hn,?_⟩;rw[hcs]
   rcases h with⟨v,css',h1,h2⟩|⟨tg,r,css',tg',h1,h2⟩
   ·exact .inl ⟨v,css',h1,hx _ _ h2⟩
   ·obtain⟨qo,hq,h2⟩:=ah h2
    exact .inr ⟨tg,r,css',tg',h1,by rw[hq];exact hk _ _ h2⟩
 |eP b g args=>
  simp only[cZ]at h⊢;split at h
  ·obtain⟨p,hp,hn,h⟩:=ah h
   obtain⟨css,hcs,h⟩:=ah h;rw[hp];refine⟨hn,?_⟩;rw[hcs]
   rcases h with⟨r,fr,css',h1,h2⟩|⟨v,css',h1,h2⟩|⟨tg,r,css',tg',h1,h2⟩
   ·exact .inl ⟨r,fr,css',h1,hk _ _ h2⟩
   ·exact .inr (.inl ⟨v,css',h1,hx _ _ h2⟩)
   ·obtain⟨qo,hq,h2⟩:=ah h2
    exact .inr (.inr ⟨tg,r,css',tg',h1,by rw[hq];exact hk _ _ h2⟩)
  ·exact xe hk h
 |Wo f caps=>obtain⟨p,hp,h⟩:=ah h;simp only[cZ,hp];exact hk _ _ h
 |WT x=>obtain⟨a,ha,h1,h2⟩:=ah h;simp only[cZ,ha];exact⟨h1,hx _ _ h2⟩
 |WU t x=>obtain⟨a,ha,h1,h2⟩:=ah h;simp only[cZ,ha];exact⟨h1,hk _ _ h2⟩
 |WV t z x=>
  obtain⟨a,ha,h⟩:=ah h;obtain⟨v,hv,h⟩:=ah h;simp only[cZ,ha,aE,hv];exact hk _ _ h
 |SZ neg x=>
  obtain⟨a,ha,h⟩:=ah h;obtain⟨v,hv,h⟩:=ah h;simp only[cZ,ha,aE,hv];exact hk _ _ h
 |Wp neg x=>
  obtain⟨a,ha,h⟩:=ah h;obtain⟨v,hv,h⟩:=ah h;simp only[cZ,ha,aE,hv];exact hk _ _ h
 |WW e bytes l c=>
  obtain⟨a,ha,h⟩:=ah h;obtain⟨l',hl,h⟩:=ah h;obtain⟨b,hb,h⟩:=ah h;obtain⟨c',hc,h1,h⟩:=ah h;simp only[cZ,ha,aE,hl,hb,hc];exact⟨h1,hk _ _ h⟩
 |WX e x y=>
  obtain⟨p,hp,h⟩:=ah h;simp only[cZ,hp,aE]
  cases p<;>try(exact h.elim)
  obtain⟨b,hb,h⟩:=ah h;obtain⟨ys,hy,h1,h2,h⟩:=ah h;simp only[hb,aE,hy];exact⟨h1,h2,hk _ _ h⟩
theorem GY{s:S} {g:Option (Nat×Bool)} {y y' n n':Prop} (hy:y->y') (hn:n->n') (h:eN s g y n):eN s g y' n':=by
 unfold eN at h⊢;split at h
 ·exact hy h
 ·split at h
  ·exact⟨fun e=>hy (h.1 e),fun e=>hn (h.2 e)⟩
  ·exact hn h
  ·exact h.elim
theorem vN{base:Nat}:∀{l:List XO} {i:Nat} {s:S} {K K':S->Prop} {X X':AV->S->Prop},(∀s,K s->K' s)->(∀p s',X p s'->X' p s')->eE C base i l K X s->eE C base i l K' X' s
 |[],i,s,K,K',X,X',hk,hx,h=>hk s h
 |o::l,i,s,K,K',X,X',hk,hx,h=>GY (Lt (fun v s' h=>vN hk hx h) hx) (vN hk hx) h
theorem ki{F G:S->Prop} (h:∀s,F s->G s) {s:S} (hd:down F s):down G s:=by
 obtain⟨s1,⟨hl,hF⟩|hF⟩:=hd
 ·exact⟨s1,.inl ⟨hl,h _ hF⟩⟩
 ·exact⟨s1,.inr (h _ hF)⟩
theorem gU{F G:S->Prop} {Q Q':Exit->S->Prop} (h:∀s,F s->G s) (hq:∀e s,Q e s->Q' e s) {e:Exit} {s:S} (ha:jx F Q e s):jx G Q' e s:=by
 cases e<;>first|exact h _ ha|exact hq _ _ ha
theorem GZ{id:Nat} {Q Q':Exit->S->Prop} (hq:∀e s,Q e s->Q' e s) {e:Exit} {s:S} (ha:gq id Q e s):gq id Q' e s:=by
 cases e with
 |exit i=>
  simp only[gq]at ha⊢;split
  ·rename_i hi;rw[if_pos hi]at ha;exact hq _ _ ha
  ·rename_i hi;rw[if_neg hi]at ha;exact hq _ _ ha
 |_=>exact hq _ _ ha
theorem qk{F G:(Exit->S->Prop)->S->Prop} (hF:∀Q Q' s,(∀e s,Q e s->Q' e s)->F Q s->G Q' s) {Q Q':Exit->S->Prop} (hq:∀e s,Q e s->Q' e s):∀{n:Nat} {s:S},nG F Q n s->nG G Q' n s
 |0,s,h=>h
 |n+1,s,h=>hF _ _ s (fun e s ha=>gU (fun s hd=>ki (fun s h=>qk hF hq h) hd) hq ha) h
theorem Nr{wr:List Nat} {F:S->Prop} {Q Q':Exit->S->Prop} (hq:∀e s,Q e s->Q' e s) {e:Exit} {s:S} (h:IC wr F Q e s):IC wr F Q' e s:=by
 cases e<;>first|exact h|exact hq _ _ h
theorem i5:∀{c:aT} {Q Q':Exit->S->Prop} {s:S},(∀e s,Q e s->Q' e s)->aw C c Q s->aw C c Q' s:=by
 intro c
 induction c with
 |skip=>intro Q Q' s hq h;exact hq _ _ h
 |KY ops=>intro Q Q' s hq h;exact yR (fun s h=>hq _ _ h) h
 |ff ops=>intro Q Q' s hq h;exact vN (fun s h=>hq _ _ h) (fun p s h=>hq _ _ h) h
 |kL ops dU=>
  intro Q Q' s hq h;obtain⟨ids,hids,h⟩:=h;obtain⟨css,hcss,ro,hd,h⟩:=ah h
  exact⟨ids,hids,by rw[hcss];exact⟨ro,hd,yR (fun s h=>hq _ _ h) h⟩⟩
 |seq a b iha ihb=>intro Q Q' s hq h;exact iha (fun e s ha=>gU (fun s h=>ihb hq h) hq ha) h
 |join a b iha ihb=>intro Q Q' s hq h;exact iha (fun e s ha=>gU (fun s h=>ki (fun s h=>ihb hq h) h) hq ha) h
 |cond c a b iha ihb=>
  intro Q Q' s hq h;simp only[aw]at h⊢;obtain⟨v,hv,h⟩:=ah h;rw[hv]
  cases v<;>try(exact h.elim)
  exact⟨fun e=>iha hq (h.1 e),fun e=>ihb hq (h.2 e)⟩
 |block id c ih=>intro Q Q' s hq h;exact ih (fun e s ha=>GZ hq ha) h
 |loop c ih=>
  intro Q Q' s hq h
  exact ki (fun s ⟨n,h⟩=>⟨n,qk (F:=aw C c) (G:=aw C c) (fun Q Q' s hq h=>ih hq h) hq h⟩) h
 |exit id=>intro Q Q' s hq h;exact hq _ _ h
 |ret=>intro Q Q' s hq h;exact hq _ _ h
 |label l=>intro Q Q' s hq h;exact hq _ _ h
 |goto l=>intro Q Q' s hq h;exact hq _ _ h
 |scope l c r ihc ihr=>
  intro Q Q' s hq h
  refine ihc (fun e s ha=>?_) h
  cases e with
  |goto l'=>
   refine⟨ha.1,ihr (fun e s hb=>?_) ha.2⟩
   cases e<;>first|exact hb|exact hq _ _ hb
  |_=>exact hq _ _ ha
 |mI g ps wr as bd iha ihb=>
  intro Q Q' s hq h;simp only[aw]at h⊢;obtain⟨gv,hgv,xs,h1,h2,F,h3,h4,h5,h6⟩:=ah h;rw[hgv]
  refine⟨xs,h1,h2,F,h3,h4,fun i x s' hx hs=>iha (fun e s ha=>?_) (h5 i x s' hx hs),fun s' hs=>hq _ _ (h6 s' hs)⟩
  cases e<;>first|exact ha.elim|exact ihb (fun e s hb=>Nr hq hb) ha
theorem Qz{g:bB} {ps wr:List Nat} {as bd:aT} {Q:Exit->S->Prop} {s:S} {gv:AV} {xs:List (List AV)} {α:Type} (hd:α->S) (I:Nat->α->Prop)
  (hg:aF s g=some gv) (hit:C.i gv xs) (hlen:∀x∈xs,x.length=ps.length) {y0:α} (h0:Le s (hd y0)\/s=hd y0) (hI0:I 0 y0) (hgd:∀y,aF (hd y) g=some gv)
  (round:∀i x y,xs[i]? =some x->I i y->aw C as (r9 (aw C bd (IC wr (fun s'=>∃z,s'=hd z/\I (i+1) z) Q))) (oH ps x (hd y)))
  (fin:∀y,I xs.length y->Q .normal (hd y)):aw C (.mI g ps wr as bd) Q s:=by
 simp only[aw,hg,aE]
 refine⟨xs,hit,hlen,fun i s'=>∃y,s'=hd y/\I i y,?_,?_,?_,?_⟩
 ·rcases h0 with h0|h0
  ·exact⟨hd y0,.inl ⟨h0,y0,rfl,hI0⟩⟩
  ·exact gi ⟨y0,h0,hI0⟩
 ·rintro i s' ⟨y,rfl,_⟩;exact hgd y
 ·rintro i x s' hx ⟨y,rfl,hy⟩;exact round i x y hx hy
 ·rintro s' ⟨y,rfl,hy⟩;exact fin y hy
def flat(keep:List Nat):Nat->aT->aT×Nat
 |i,.join a b=>
  let p:=flat keep (i+1) a
  let q:=flat keep p.2 b
  (if keep.contains i then .join p.1 q.1 else .seq p.1 q.1,q.2)
 |i,.seq a b=>
  let p:=flat keep i a
  let q:=flat keep p.2 b
  (.seq p.1 q.1,q.2)
 |i,.cond c a b=>
  let p:=flat keep i a
  let q:=flat keep p.2 b
  (.cond c p.1 q.1,q.2)
 |i,.block id c=>(.block id (flat keep i c).1,(flat keep i c).2)
 |i,.mI g ps wr as bd=>
  let p:=flat keep i as
  let q:=flat keep p.2 bd
  (.mI g ps wr p.1 q.1,q.2)
 |i,.loop c=>(.loop (flat keep i c).1,(flat keep i c).2)
 |i,.scope l c r=>
  let p:=flat keep i c
  let q:=flat keep p.2 r
  (.scope l p.1 q.1,q.2)
 |i,c=>(c,i)
theorem aj{keep:List Nat}:∀{c:aT} {i:Nat} {Q:Exit->S->Prop} {s:S},aw C (flat keep i c).1 Q s->aw C c Q s:=by
 intro c
 induction c with
 |join a b iha ihb=>
  intro i Q s h;simp only[flat]at h;split at h
  ·exact iha (i5 (fun e s ha=>gU (fun s h=>ki (fun s h=>ihb h) h) (fun _ _ h=>h) ha) h)
  ·exact iha (i5 (fun e s ha=>gU (fun s h=>gi (ihb h)) (fun _ _ h=>h) ha) h)
 |seq a b iha ihb=>intro i Q s h;exact iha (i5 (fun e s ha=>gU (fun s h=>ihb h) (fun _ _ h=>h) ha) h)
 |cond c a b iha ihb=>
  intro i Q s h;simp only[flat,aw]at h⊢;obtain⟨v,hv,h⟩:=ah h;rw[hv]
  cases v<;>try(exact h.elim)
  exact⟨fun e=>iha (h.1 e),fun e=>ihb (h.2 e)⟩
 |block id c ih=>intro i Q s h;exact ih h
 |scope l c r ihc ihr=>
  intro i Q s h
  refine ihc (i5 (fun e s ha=>?_) h)
  cases e with
  |goto l'=>exact⟨ha.1,ihr ha.2⟩
  |_=>exact ha
 |mI g ps wr as bd iha ihb=>
  intro i Q s h;simp only[flat,aw]at h⊢;obtain⟨gv,hgv,xs,h1,h2,F,h3,h4,h5,h6⟩:=ah h;rw[hgv]
  refine⟨xs,h1,h2,F,h3,h4,fun i x s' hx hs=>iha (i5 (fun e s ha=>?_) (h5 i x s' hx hs)),h6⟩
  cases e<;>first|exact ha.elim|exact ihb ha
 |loop c ih=>
  intro i Q s h
  exact ki (fun s ⟨n,h⟩=>⟨n,qk (F:=aw C (flat keep i c).1) (G:=aw C c) (fun Q Q' s hq h=>i5 hq (ih h)) (fun _ _ h=>h) h⟩) h
 |_=>intro i Q s h;exact h
theorem Ka{c:aT} {Q:Exit->S->Prop} {α:Type} (hd:α->S) (μ:α->Nat) (I:α->Prop)
  (round:∀x,I x->aw C c (jx (down fun s=>∃y,s=hd y/\I y/\μ y<μ x) Q) (hd x)) {x:α} (hx:I x) {s:S} (h0:Le s (hd x)\/s=hd x):aw C (.loop c) Q s:=by
 have key:∀n x,I x->μ x<n->nG (aw C c) Q n (hd x):=by
  intro n
  induction n with
  |zero=>intro x _ h;omega
  |succ n ih=>
   intro x hx hn;refine i5 ?_ (round x hx);intro e s ha
   refine gU ?_ (fun _ _ h=>h) ha
   intro s hd;refine ki ?_ hd
   rintro s ⟨y,rfl,hy,hlt⟩
   exact ih y hy (by omega)
 rcases h0 with h0|rfl
 ·exact⟨hd x,.inl ⟨h0,μ x+1,key _ x hx (by omega)⟩⟩
 ·exact gi ⟨μ x+1,key _ x hx (by omega)⟩
end
theorem YH(k:IntKind) (n:Int):iz (.int k n)=.dat (.int k n) none:=rfl
theorem Uw(b:Bool):iz (.bool b)=.dat (.bool b) none:=rfl
theorem QB(k:FloatKind) (n:Nat):iz (.float k n)=.dat (.float k n) none:=rfl
theorem YI(s:ByteArray):iz (.str s)=.dat (.str s) none:=rfl
theorem Ux:iz .Aw=.dat .Aw none:=rfl
theorem Uy:iz .aL=.dat .aL none:=rfl
theorem aa6(xs:List (List AV)):iz (.sl xs)=.dat (.sl xs) none:=rfl
theorem aa7(f:Fn) (as bs:List AV):iz (.fn f as bs)=.dat (.fn f as bs) none:=rfl
theorem YJ(cs:List AV):iz (.agg cs)=.dat (.agg cs) none:=rfl
theorem YK(cs:List AV):iz (.ref cs)=.rp cs:=rfl
theorem QC(i:Nat) (a:AV) (r:List AV):slotsOf i (a::r)=(i,iz a)::slotsOf (i+1) r:=rfl
theorem Ns(i:Nat):slotsOf i []=[]:=rfl
theorem Uz(as:List AV):MU as=⟨slotsOf 0 as,[],[],4⟩:=rfl
theorem Lu(i k:Nat) (a:AV) (r:List (Option AV)):i9 i k (some a::r)=(i,iz a)::i9 (i+1) k r:=rfl
theorem Lv(i k:Nat) (r:List (Option AV)):i9 i k (none::r)=(i,.ptr k 0)::i9 (i+1) (k+1) r:=rfl
theorem Lw(i k:Nat):i9 i k []=[]:=rfl
theorem Nt(k:Nat) (cs:List AV) (css:List (List AV)):iE k (cs::css)=(k,⟨cs,[]⟩)::iE (k+1) css:=rfl
theorem Lx(k:Nat):iE k []=[]:=rfl
theorem QD(css:List (List AV)) (as:List (Option AV)):wZ css as=⟨i9 0 0 as,iE 0 css,[],4⟩:=rfl
theorem UA(res:List gG) (r:AV) (s:S):fin res r none .normal s=an (dO s res) fun p=>p.1=r:=by simp[fin,ID]
theorem UB(res:List gG) (r:AV) (s:S):fin res r none .ret s=an (dO s res) fun p=>p.1=r:=by simp[fin,ID]
theorem UC(res:List gG) (r:AV) (e:Nat) (s:S):fin res r (some e) .normal s=an (dO s res) fun p=>p.1=r/\ID (some e) p.2 s.live:=rfl
theorem UD(res:List gG) (r:AV) (e:Nat) (s:S):fin res r (some e) .ret s=an (dO s res) fun p=>p.1=r/\ID (some e) p.2 s.live:=rfl
theorem aa8(e q:Nat) (lv:List (Nat×Nat)):ID (some e) (some q) lv=(d7 q lv=some e):=rfl
theorem QE(res:List gG) (r:AV) (css:List (List AV)) (s:S):I1 res r none css .normal s=an (dO s res) fun p=>p.1=r/\iA s.boxes 0 css:=by simp[I1,ID]
theorem QF(res:List gG) (r:AV) (css:List (List AV)) (s:S):I1 res r none css .ret s=an (dO s res) fun p=>p.1=r/\iA s.boxes 0 css:=by simp[I1,ID]
theorem QG(l:List (Nat×bV)) (k:Nat):iA l k []=True:=rfl
theorem UE(l:List (Nat×bV)) (k:Nat) (cs:List AV) (css:List (List AV)):iA l k (cs::css)=(an (b9 k l) (fun x=>x.cells=cs)/\iA l (k+1) css):=rfl
def QH:Option SV->Option (AV×Option Nat)
 |some (.dat a q)=>some (a,q)
 |_=>none
theorem UF(a:AV) (q:Option Nat):QH (some (.dat a q))=some (a,q):=rfl
theorem UG(s:S) (t:Nat):dO s [.tmp t]=QH (lk t s.slots):=rfl
def Nu(sz:Option Nat) (bx:List (Nat×bV)):Option SV->Option (AV×Option Nat)
 |some (.ptr b off)=>match b9 b bx with
  |some x=>match ay x.cells off sz with
   |some a=>some (a,match sz with|none=>d7 off x.tags|some _=>none)
   |none=>none
  |none=>none
 |_=>none
def Ej(off:Nat) (sz:Option Nat):Option bV->Option (AV×Option Nat)
 |some x=>match ay x.cells off sz with
  |some a=>some (a,match sz with|none=>d7 off x.tags|some _=>none)
  |none=>none
 |none=>none
theorem UH(s:S) (t:Nat) (sz:Option Nat):dO s [.cell t sz]=Nu sz s.boxes (lk t s.slots):=rfl
theorem QI(sz:Option Nat) (bx:List (Nat×bV)) (b off:Nat):Nu sz bx (some (.ptr b off))=Ej off sz (b9 b bx):=by
 simp only[Nu,Ej]
theorem QJ(off n:Nat) (x:bV):Ej off (some n) (some x)=(ay x.cells off (some n)).map fun a=>(a,none):=by
 simp only[Ej]<;>cases ay x.cells off (some n)<;>rfl
theorem QK(off:Nat) (x:bV):Ej off none (some x)=(x.cells[off]?).map fun a=>(a,d7 off x.tags):=by
 simp only[Ej,ay]<;>cases x.cells[off]?<;>rfl
theorem UI(s:S):dO s []=some (.cN [],none):=rfl
theorem UJ(s:S) (x y:gG) (r:List gG):dO s (x::y::r)=(mQ s (x::y::r)).map fun as=>(.cN as,none):=rfl
def Nv:Option (AV×Option Nat)->Option (List AV)->Option (List AV)
 |some p,some as=>some (p.1::as)
 |_,_=>none
theorem QL(a:AV) (q:Option Nat) (as:List AV):Nv (some (a,q)) (some as)=some (a::as):=rfl
theorem UK(s:S) (x:gG) (r:List gG):mQ s (x::r)=Nv (dO s [x]) (mQ s r):=by
 simp only[mQ,Nv,dO]<;>cases Lf s x<;>cases mQ s r<;>rfl
theorem QM(s:S):mQ s []=some []:=rfl
def EW0:=
 And.intro @YH (And.intro @Uw (And.intro @QB (And.intro @YI (And.intro @Ux (And.intro @Uy (And.intro @aa6 (And.intro @aa7 (And.intro @YJ (And.intro @YK (And.intro @QC (And.intro @Ns (And.intro @Uz (And.intro @Lu (And.intro @Lv (And.intro @Lw (And.intro @Nt (And.intro @Lx (And.intro @QD (And.intro @UA (And.intro @UB (And.intro @UC (And.intro @UD (And.intro @aa8 (And.intro @QE (And.intro @QF (And.intro @QG (And.intro @UE (And.intro @UF (@UG)))))))))))))))))))))))))))))
def EW1:=
 And.intro @UH (And.intro @QI (And.intro @QJ (And.intro @QK (And.intro @UI (And.intro @UJ (And.intro @QL (And.intro @UK (@QM))))))))
def EW:=
 And.intro @EW0 (@EW1)
end Go.Eng
